/- Into a method, and out of it. -/
import Derived.Test.YtoidlnhgaaohdaaDoorAbsC
namespace Go.Proofs.YtoidlnhgaaohdaaDoor
set_option linter.all false
open Go Go.RowKit

section
variable {P : Program} {gl : List (Nat × List D)} {tb : Nat → Option TI} {nt : Nat} {s : St}
theorem outA_runX (htb : TbOk P tb) {c : Ctx} {a : Act} {w : World} {σ : Nat → Value} {ok' : Nat → Prop} (h : SR c nt s a w σ) (hk : Kept w w (okk c (look s.own) σ w) ok') (hb : ∀ k t sz xs, look s.own k = some (.row true t sz xs) → ∀ b, blkOf (σ k) = some b → ok' b)
    {r : ResultVar} {d : D} (hr : outA tb (look s.env) (look s.own) r = some d) : ∃ v, (resOf a.tmps r).run P w = .ok v w ∧ Rep w ok' d v := by
  have key : ∀ {x : AV}, asD (look s.own) x = some d → outAV tb (look s.env) (look s.own) r = some x → ∃ v, (resOf a.tmps r).run P w = .ok v w ∧ Rep w ok' d v := fun {x} hd hx => by
    obtain ⟨v, h1, h2⟩ := outAV_run (P := P) htb h hx
    refine ⟨v, h1, asD_rep' h hk hd (fun k hkk b hbb => ?_) h2.toA⟩
    obtain ⟨t, sz, xs, hO⟩ := asD_row hd k hkk
    exact hb k t sz xs hO b hbb
  cases r with
  | tmp t =>
    simp only [outA] at hr
    split at hr
    · rename_i x hx; exact key hr hx
    · cases hr
  | cell p t =>
    simp only [outA] at hr
    split at hr
    · rename_i i k off hi hp
      split at hr
      · rename_i fr cs hO
        split at hr
        · rename_i x hx
          exact key hr (by simp only [outAV, hi, hp, hO, hx])
        · cases hr
      · cases hr
    · cases hr
theorem outL_runX (htb : TbOk P tb) {c : Ctx} {a : Act} {w : World} {σ : Nat → Value} {ok' : Nat → Prop} (h : SR c nt s a w σ) (hk : Kept w w (okk c (look s.own) σ w) ok') (hb : ∀ k t sz xs, look s.own k = some (.row true t sz xs) → ∀ b, blkOf (σ k) = some b → ok' b) :
    ∀ {rs : List ResultVar} {ds : List D}, outL tb (look s.env) (look s.own) rs = some ds → ∃ vs : List Value, (rs.mapM (resOf a.tmps)).run P w = .ok vs w ∧ vs.length = ds.length ∧ ∀ (i : Nat) d v, ds[i]? = some d → vs[i]? = some v → Rep w ok' d v
  | [], ds, hr => by simp [outL] at hr; subst hr; exact ⟨[], by simp, rfl, by simp⟩
  | r :: rs, ds, hr => by
    simp only [outL] at hr
    split at hr
    · rename_i d ds' h1 h2
      injection hr with hr
      subst hr
      obtain ⟨v, r1, r2⟩ := outA_runX htb h hk hb h1
      obtain ⟨vs, r3, r4, r5⟩ := outL_runX htb h hk hb h2
      refine ⟨v :: vs, by simp [List.mapM_cons, r1, r3], by simp [r4], fun i e u he hu => ?_⟩
      cases i with
      | zero => simp at he hu; subst he; subst hu; exact r2
      | succ i => exact r5 i e u (by simpa using he) (by simpa using hu)
    · cases hr
theorem outL_len {E : Nat → Option AV} {O : Nat → Option Obj1} : ∀ {rs : List ResultVar} {ds : List D}, outL tb E O rs = some ds → ds.length = rs.length
  | [], ds, h => by simp [outL] at h; subst h; rfl
  | r :: rs, ds, h => by
    simp only [outL] at h
    split at h
    · rename_i h2
      injection h with h
      subst h
      simp [outL_len h2]
    · cases h
theorem outs_runX (htb : TbOk P tb) {c : Ctx} {a : Act} {w : World} {σ : Nat → Value} {ok' : Nat → Prop} {fn : Func} {d : D} (h : SR c nt s a w σ) (hk : Kept w w (okk c (look s.own) σ w) ok') (hb : ∀ k t sz xs, look s.own k = some (.row true t sz xs) → ∀ b, blkOf (σ k) = some b → ok' b)
    (hr : outsA tb (look s.env) (look s.own) fn.results.toList = some d) : ∃ v, (results fn a.tmps).run P w = .ok v w ∧ Rep w ok' d v := by
  rw [results_eq]
  unfold outsA at hr
  split at hr
  · rename_i r hrs
    obtain ⟨v, r1, r2⟩ := outA_runX htb h hk hb hr
    exact ⟨v, by simp [hrs, r1], r2⟩
  · rename_i hne
    split at hr
    · rename_i ds hds
      injection hr with hr
      subst hr
      obtain ⟨vs, r1, r2, r3⟩ := outL_runX htb h hk hb hds
      have hl := outL_len hds
      have h1 : ¬ vs.length = 1 := fun e => by
        obtain ⟨r, hr⟩ := List.length_eq_one_iff.1 (hl.symm.trans (r2.symm.trans e))
        exact hne r hr
      refine ⟨.tuple vs.toArray, by simp [r1, h1], .tup ds vs r2 r3⟩
    · cases hr

/-- What a method's body leaves. -/
def retB (tb : Nat → Option TI) (rs : Array ResultVar) (te : TypeId) (sz : Nat) (res : PEnd) : AExit → St → Prop
  | .normal, s | .ret, s => match res with
    | .ret q cells xs => outsA tb (look s.env) (look s.own) rs.toList = some q ∧ ∃ k j, look s.own k = some (.box false (toAV j cells)) ∧ look s.own j = some (.row false te sz xs)
    | .panic _ => False
  | .panic x, _ => res = .panic x
  | _, _ => False
theorem retB_ret {rs : Array ResultVar} {te : TypeId} {sz : Nat} {q d : D} {cells : List (Option D)} {xs : List (List D)} (k j : Nat) (h : outsA tb (look s.env) (look s.own) rs.toList = some d) (hd : d = q) (hk : look s.own k = some (.box false (toAV j cells))) (hj : look s.own j = some (.row false te sz xs)) : retB tb rs te sz (.ret q cells xs) .ret s := ⟨hd ▸ h, k, j, hk, hj⟩
theorem retB_end {rs : Array ResultVar} {te : TypeId} {sz : Nat} {q d : D} {cells : List (Option D)} {xs : List (List D)} (k j : Nat) (h : outsA tb (look s.env) (look s.own) rs.toList = some d) (hd : d = q) (hk : look s.own k = some (.box false (toAV j cells))) (hj : look s.own j = some (.row false te sz xs)) : retB tb rs te sz (.ret q cells xs) .normal s := ⟨hd ▸ h, k, j, hk, hj⟩

def ctxB (gl : List (Nat × List D)) (w : World) (ok : Nat → Prop) (b0 : Nat) (u1 : Value) : Ctx := ⟨gl, w, ok, fun b => b = b0 ∨ blkOf u1 = some b, fun _ => undef, fun _ => False, fun b => b = b0, []⟩

theorem PConB.enter (htb : TbOk P tb) {f : Nat} {fn : Func} {code : Code} {ds : List D} {cells : List (Option D)} {te : TypeId} {sz : Nat} {xs : List (List D)} {res : PEnd} (hf : P.funcs[f]? = some fn) (hn : (fn.name == "runtime.NumGoroutine") = false) (hb : fn.body = some code) (hnt : ds.length + 1 ≤ fn.ntmps)
    (h : AW P gl fn.ntmps code (retB tb fn.results te sz res) ⟨(0, .ref 0 0) :: argsE 1 ds, [(0, .box false (toAV 1 cells)), (1, .row false te sz xs)], 2⟩) : PConB P gl f ds cells te sz xs res := by
  refine ⟨⟨fn, hf, hn, by simp [hb]⟩, fun w ok b0 u1 us hok hgl hl hargs hbox hrow hdis hb0 => ?_⟩
  refine calls_of_wp hf hb ?_
  have hK : Kept w w ok (okk (ctxB gl w ok b0 u1) (look [(0, Obj1.box false (toAV 1 cells)), (1, .row false te sz xs)]) (sig2 b0 u1) w) := fun b hb => ⟨⟨hok b hb, .inl hb, fun k o hk he => by
    simp only [look] at hk
    split at hk
    · rename_i e; subst e
      simp [sig2, blkOf] at he
      exact hb0 (he ▸ hb)
    · split at hk
      · rename_i e; subst e
        simp [sig2] at he
        exact (hdis b he).2 hb
      · cases hk⟩, rfl⟩
  have oCase : ∀ k o, look [(0, Obj1.box false (toAV 1 cells)), (1, .row false te sz xs)] k = some o → (k = 0 ∧ o = .box false (toAV 1 cells)) ∨ (k = 1 ∧ o = .row false te sz xs) := fun k o hk => by
    simp only [look] at hk
    split at hk
    · rename_i e; cases hk; exact .inl ⟨e.symm, rfl⟩
    · split at hk
      · rename_i e; cases hk; exact .inr ⟨e.symm, rfl⟩
      · cases hk
  have s0 : sig2 b0 u1 0 = .pointer (some ⟨b0, 0, none⟩) := rfl
  have s1 : sig2 b0 u1 1 = u1 := rfl
  have hs : SR (ctxB gl w ok b0 u1) fn.ntmps ⟨(0, .ref 0 0) :: argsE 1 ds, [(0, .box false (toAV 1 cells)), (1, .row false te sz xs)], 2⟩ { tmps := (.pointer (some ⟨b0, 0, none⟩) :: us).toArray ++ Array.replicate (fn.ntmps - (Value.pointer (some ⟨b0, 0, none⟩) :: us).toArray.size) undef, defers := [] } w (sig2 b0 u1) := by
    have hget : ∀ t (u : Value), (Value.pointer (some ⟨b0, 0, none⟩) :: us)[t]? = some u → ((Value.pointer (some ⟨b0, 0, none⟩) :: us).toArray ++ Array.replicate (fn.ntmps - (Value.pointer (some ⟨b0, 0, none⟩) :: us).toArray.size) undef).getD t undef = u := fun t u hu => by
      have hlt := (List.getElem?_eq_some_iff.1 hu).1
      rw [Array.getD_eq_getD_getElem?, Array.getElem?_append_left (by simpa using hlt)]
      simp [hu]
    refine ⟨fun t x hx τ hτ => ?_, fun k o hk => ?_, fun k k' o o' hk hk' hne b hb1 hb2 => ?_, fun k o hk b hb1 => ?_, fun _ _ _ => rfl, fun b hb => ⟨hok b hb, fun hp => ?_⟩, Nat.le_refl _, rfl, rfl, rfl, fun k hk => hk.elim, rfl, by simp [hl]; omega, hgl.mono hK⟩
    · simp only [look] at hx
      split at hx
      · rename_i e
        cases hx
        subst e
        show RepA w _ τ _ (Array.getD _ 0 undef)
        rw [hget 0 (.pointer (some ⟨b0, 0, none⟩)) rfl]
        exact .ref 0 0 b0 (by rw [hτ 0 (by show 0 < 2; decide), s0]; rfl)
      · obtain ⟨d, h1, h2, rfl⟩ := look_argsE hx
        obtain ⟨m, rfl⟩ : ∃ m, t = m + 1 := ⟨t - 1, by omega⟩
        rw [Nat.add_sub_cancel] at h2
        have hlt : m < us.length := by rw [hl]; exact (List.getElem?_eq_some_iff.1 h2).1
        have hv : us[m]? = some us[m] := List.getElem?_eq_getElem hlt
        show RepA w _ τ _ (Array.getD _ (m + 1) undef)
        rw [hget (m + 1) us[m] (by rw [List.getElem?_cons_succ]; exact hv)]
        exact .d _ _ ((hargs m d _ h2 hv).mono hK)
    · rcases oCase k o hk with ⟨rfl, rfl⟩ | ⟨rfl, rfl⟩
      · refine ⟨by show 0 < 2; decide, fun τ hτ => ?_⟩
        rw [s0]
        exact (hbox.box_ren (σ' := τ) (j' := 1) (hτ 1 (by show 1 < 2; decide))).mono hK fun _ _ => rfl
      · refine ⟨by show 1 < 2; decide, fun τ hτ => ?_⟩
        rw [s1]
        exact (RepO.row_fr hrow).mono hK fun _ _ => rfl
    · rcases oCase k o hk with ⟨rfl, rfl⟩ | ⟨rfl, rfl⟩ <;> rcases oCase k' o' hk' with ⟨rfl, rfl⟩ | ⟨rfl, rfl⟩
      · exact hne rfl
      · rw [s0] at hb1
        rw [s1] at hb2
        simp [blkOf] at hb1
        exact (hdis b hb2).1 hb1.symm
      · rw [s0] at hb2
        rw [s1] at hb1
        simp [blkOf] at hb2
        exact (hdis b hb1).1 hb2.symm
      · exact hne rfl
    · rcases oCase k o hk with ⟨rfl, rfl⟩ | ⟨rfl, rfl⟩
      · rw [s0] at hb1
        simp [blkOf] at hb1
        exact .inl ⟨fun h => (by cases h), .inl hb1.symm, fun _ => hb1.symm⟩
      · rw [s1] at hb1
        exact .inl ⟨fun h => (by cases h), .inr hb1, fun h => (by cases h)⟩
    · rcases hp with rfl | hp
      · exact hb0 hb
      · exact (hdis b hp).2 hb
  refine wp_mono (h (ctxB gl w ok b0 u1) _ w _ rfl ⟨fun _ h => h⟩ hs) fun e a' w' ⟨ae, s', σ', q1, q2, q3⟩ => ?_
  have hgo : GoB w w' b0 u1 := ⟨q2.os, q2.tape, q2.output, q2.size, fun b hb h1 h2 => q2.frame b hb fun hp => hp.elim h1 h2⟩
  have fin : ∀ q cells' xs', (outsA tb (look s'.env) (look s'.own) fn.results.toList = some q ∧ ∃ k j, look s'.own k = some (.box false (toAV j cells')) ∧ look s'.own j = some (.row false te sz xs')) →
      a'.defers = [] ∧ ∃ v, (results fn a'.tmps).run P w' = .ok v w' ∧ EndB w ok b0 u1 te sz (.ret q cells' xs') (.returned v) w' := fun q cells' xs' ⟨hq, k, j, hk, hj⟩ => by
    have hkj : k ≠ j := fun e => by subst e; rw [hk] at hj; cases hj
    obtain ⟨bk, hbk⟩ := (q2.own k _ hk).2.toO.box_ptr
    have hbk0 : bk = b0 := by
      rcases q2.mine k _ hk bk (by rw [hbk]; rfl) with ⟨_, _, h1⟩ | ⟨_, h1⟩
      · exact h1 rfl
      · exact absurd rfl h1
    subst hbk0
    have hu : ∀ b, blkOf (σ' j) = some b → b ≠ bk ∧ (blkOf u1 = some b ∨ w.heap.size ≤ b) := fun b hb => by
      have hne : b ≠ bk := fun e => q2.dis k j _ _ hk hj hkj b (by rw [hbk, e]; rfl) hb
      refine ⟨hne, ?_⟩
      rcases q2.mine j _ hj b hb with ⟨_, h1, _⟩ | ⟨h1, _⟩
      · exact .inl (h1.resolve_left hne)
      · exact .inr h1
    have hK2 : Kept w' w' (okk (ctxB gl w ok bk u1) (look s'.own) σ' w') (okB w w' ok bk (σ' j)) := fun b hb => ⟨⟨hb.1, hb.2.1, fun e => hb.2.2 k _ hk (by rw [hbk, e]; rfl), hb.2.2 j _ hj⟩, rfl⟩
    obtain ⟨v, r1, r2⟩ := outs_runX (P := P) (fn := fn) htb q2 hK2 (fun i t sz' xs'' hi b hb => by
      have h1 : i ≠ k := fun e => by subst e; rw [hk] at hi; cases hi
      have h2 : i ≠ j := fun e => by subst e; rw [hj] at hi; cases hi
      refine ⟨(q2.own i _ hi).2.toO.lt b hb, ?_, fun e => q2.dis i k _ _ hi hk h1 b hb (by rw [hbk, e]; rfl), q2.dis i j _ _ hi hj h2 b hb⟩
      rcases q2.mine i _ hi b hb with ⟨h3, _⟩ | ⟨h3, _⟩
      · exact absurd rfl h3
      · exact .inr h3) hq
    have hbx := (q2.own k _ hk).2.toO
    rw [hbk] at hbx
    exact ⟨q2.defers, v, r1, v, σ' j, rfl, hgo, hu, r2, (hbx.box_ren (σ' := sig2 bk (σ' j)) (j' := 1) rfl).mono hK2 fun _ _ => rfl, ((q2.own j _ hj).2.toO.row_fr).mono hK2 fun _ _ => rfl⟩
  have norm : ∀ res, retB tb fn.results te sz res .normal s' → a'.defers = [] ∧ ∃ v, (results fn a'.tmps).run P w' = .ok v w' ∧ EndB w ok b0 u1 te sz res (.returned v) w' := fun res hq => by
    cases res with
    | ret q cells' xs' => exact fin q cells' xs' hq
    | panic x => exact hq.elim
  cases q3 with
  | normal => exact norm res q1
  | ret => exact norm res q1
  | exit id => exact q1.elim
  | goto l => exact q1.elim
  | panic x v hv =>
    have hres : res = .panic x := q1
    subst hres
    exact ⟨q2.defers, v, rfl, hgo, hv.mono fun b hb => ⟨⟨hb.1, hb.2.1⟩, rfl⟩⟩
end
end Go.Proofs.YtoidlnhgaaohdaaDoor
