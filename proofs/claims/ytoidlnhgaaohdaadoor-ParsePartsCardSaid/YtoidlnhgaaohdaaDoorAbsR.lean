/- Code without loops, in which own objects keep their places. -/
import Derived.Test.YtoidlnhgaaohdaaDoorAbsQ
namespace Go.Proofs.YtoidlnhgaaohdaaDoor
set_option linter.all false
open Go Go.RowKit

def AWk (P : Program) (gl : List (Nat × List D)) (nt : Nat) (code : Code) (Q : AExit → St → Prop) (s : St) : Prop := ∀ (c : Ctx) (a : Act) (w : World) (σ : Nat → Value), c.gl = gl → SR c nt s a w σ → code.wp P (APost c nt Q) a w
section
variable {P : Program} {gl : List (Nat × List D)} {tb : Nat → Option TI} {nt : Nat} {Q : AExit → St → Prop} {s : St}
theorem AWk.skip (h : Q .normal s) : AWk P gl nt .skip Q s := fun _ _ _ σ _ hs => wp_skip ⟨.normal, s, σ, h, hs, .normal⟩
theorem AWk.ret (h : Q .ret s) : AWk P gl nt .ret Q s := fun _ _ _ σ _ hs => wp_ret ⟨.ret, s, σ, h, hs, .ret⟩
theorem AWk.seq {x y : Code} (h : AWk P gl nt x (thenA (AWk P gl nt y Q) Q) s) : AWk P gl nt (.seq x y) Q s := fun c a w σ hgl hs =>
  wp_seq (wp_mono (h c a w σ hgl hs) fun e a' w' ⟨ae, s', σ', h1, h2, h3⟩ => by
    cases h3 with
    | normal => exact h1 c a' w' σ' hgl h2
    | exit id => exact ⟨_, _, _, h1, h2, .exit id⟩
    | goto l => exact ⟨_, _, _, h1, h2, .goto l⟩
    | ret => exact ⟨_, _, _, h1, h2, .ret⟩
    | panic x v hv => exact ⟨_, _, _, h1, h2, .panic x v hv⟩)
theorem AWk.condT {cd : Operand} {x y : Code} (hc : getE gl (look s.env) cd = some (.d (.bool true))) (h : AWk P gl nt x Q s) : AWk P gl nt (.cond cd x y) Q s := fun c a w σ hgl hs => by
  subst hgl
  have hb := rep_bool (hs.get hc)
  exact wp_cond_split hb (fun _ => h c a w σ rfl hs) (fun h => nomatch h)
theorem AWk.condF {cd : Operand} {x y : Code} (hc : getE gl (look s.env) cd = some (.d (.bool false))) (h : AWk P gl nt y Q s) : AWk P gl nt (.cond cd x y) Q s := fun c a w σ hgl hs => by
  subst hgl
  have hb := rep_bool (hs.get hc)
  exact wp_cond_split hb (fun h => nomatch h) (fun _ => h c a w σ rfl hs)
theorem AWk.regionL (htb : TbOk P tb) (lv : List (Nat × List Nat)) {id : Nat} {ops : List Oper} (hd : ops.all (dstOk nt) = true) (h : AE P gl tb ops (fun x s => Q (.panic x) ⟨s.env, [], s.nxt⟩) (fun s' => Q .normal (s'.prune (lvOf lv id))) ops s) : AWk P gl nt (.region id ops.toArray false) Q s := fun c a w σ hgl hs =>
  wp_region_list (by
    have h' : AE P gl tb ops.toArray.toList (fun x s => Q (.panic x) ⟨s.env, [], s.nxt⟩) (fun s' => Q .normal (s'.prune (lvOf lv id))) ops s := h
    exact AE_sound (ops := ops.toArray) htb hgl (fun s' a' w' σ' hq hs' => ⟨.normal, s'.prune (lvOf lv id), σ', hq, hs'.prune _, .normal⟩) (fun x s v' a' w' σ' hx hs' hr => ⟨.panic x, ⟨s.env, [], s.nxt⟩, σ', hx, sr_empty hs', .panic x v' hr⟩) ops s a w σ h' hd hs)
theorem AWk.regionDL (htb : TbOk P tb) (hmix : P.follows .mixedOrders = true) (lv : List (Nat × List Nat)) (bs : List (Nat × List Nat × List Nat)) {id : Nat} {ops : List Oper} {B effs : List Nat} (hb : look bs id = some (B, effs)) (hchk : drawOk ops.toArray B effs = true) (hd : ops.all (dstOk nt) = true)
    (h : AED P gl tb ops B effs s.nxt (fun s' => Q .normal (s'.prune (lvOf lv id))) ops 0 s) : AWk P gl nt (.region id ops.toArray true) Q s := fun c a w σ hgl hs => by
  obtain ⟨tr, s', h1, h2, h3, h4, h5, h6⟩ := trace_of (all := ops) htb ops 0 s (by simp) h
  simp only [drawOk, Bool.and_eq_true] at hchk
  obtain ⟨⟨hB, hA⟩, hF⟩ := hchk
  refine wp_region_any hmix ?_
  have hs' : SRep c (look s.env) (look s.own) (fun k => k < s.nxt) nt a { w with drawn := w.drawn + 1 } σ := SRep.grow hs ⟨rfl, rfl, rfl, Nat.le_refl _, fun _ _ _ => rfl⟩
  have hfalse : ∀ j, (Array.replicate ops.toArray.size false).getD j false = false := fun j => by
    simp [Array.getD_eq_getD_getElem?, Array.getElem?_replicate]
    split <;> rfl
  refine drawn_any (base := s.nxt) (tr := tr) (E0 := look s.env) (O0 := look s.own) (Q := APost c nt Q) hgl hB hA hF hd h1 h2 (fun a' w' σ' hh => ?_) _ _ a _ σ (by simp) (fun j o ho hj => by
      have h9 : (Array.replicate ops.toArray.size false).getD j false = true := hj
      rw [hfalse] at h9
      cases h9) ?_ ?_
  · refine ⟨.normal, s'.prune (lvOf lv id), σ', h3, SR.prune _ ?_, .normal⟩
    unfold SR
    rw [h4, h5, h6]
    simpa using hh
  · have : ((List.range ops.toArray.size).filter fun j => !(Array.replicate ops.toArray.size false).getD j false) = List.range ops.toArray.size := List.filter_eq_self.2 fun j _ => by rw [hfalse]; rfl
    rw [this]
    simp
  · rw [foldE_none _ _ _ (fun k _ => hfalse k), foldO_none _ _ _ (fun k _ => hfalse k)]
    exact hs'.al_ext fun k hk => .inl hk
theorem AWk.regionA (htb : TbOk P tb) (hmix : P.follows .mixedOrders = true) {id : Nat} {ops : List Oper} (live : List Nat) (t : Sch) (hchk : schOk ops.toArray ops.length (Array.replicate ops.length false) t = true) (hd : ops.all (dstOk nt) = true)
    (h : AES P gl tb ops (fun x s => Q (.panic x) ⟨s.env, [], s.nxt⟩) (fun s' => Q .normal (s'.prune live)) t s) : AWk P gl nt (.region id ops.toArray true) Q s := fun c a w σ hgl hs => by
  refine wp_region_any hmix ?_
  have hs' : SR c nt s a { w with drawn := w.drawn + 1 } σ := SRep.grow hs ⟨rfl, rfl, rfl, Nat.le_refl _, fun _ _ _ => rfl⟩
  have h' : AES P gl tb ops.toArray.toList (fun x s => Q (.panic x) ⟨s.env, [], s.nxt⟩) (fun s' => Q .normal (s'.prune live)) t s := h
  exact AES_sound (ops := ops.toArray) htb hgl hd (fun s' a' w' σ' hq hs' => ⟨.normal, s'.prune live, σ', hq, hs'.prune live, .normal⟩) (fun x s v' a' w' σ' hx hs' hr => ⟨.panic x, ⟨s.env, [], s.nxt⟩, σ', hx, sr_empty hs', .panic x v' hr⟩) _ _ t s a _ σ hchk h' hs'
/-- Another beginning: own objects are pinned; deferred calls. -/
theorem SRep.pin {c : Ctx} {E : Nat → Option AV} {O : Nat → Option Obj1} {al : Nat → Prop} {a : Act} {w : World} {σ : Nat → Value} (ds : List Deferred) (p : Nat → Prop) (hp : ∀ k, p k → al k) (h : SRep c E O al nt a w σ) :
    SRep { c with σ0 := σ, al0 := p, dfs := ds } E O al nt { a with defers := ds } w σ :=
  ⟨h.env, h.own, h.dis, h.mine, h.frame, h.low, h.size, h.os, h.tape, h.output, fun k hk => ⟨hp k hk, rfl⟩, rfl, h.nt, h.glob⟩
/-- nil in a box is taken for an own row without elements. -/
theorem AWk.adoptC {code : Code} (k i te sz : Nat) {fr : Bool} {cs : List AV} (hk : look s.own k = some (.box fr cs)) (hi : cs[i]? = some (.d .nils)) (hsz : 0 < sz)
    (h : AWk P gl nt code Q ⟨s.env, setL ((s.nxt, .row true te sz []) :: s.own) k (.box fr (cs.set i (.own s.nxt))), s.nxt + 1⟩) : AWk P gl nt code Q s := by
  intro c a w σ hgl hs
  have hkn : k ≠ s.nxt := fun e => by
    have := (hs.own k _ hk).1
    rw [e] at this
    exact Nat.lt_irrefl _ this
  have hn := SRep.new (id := s.nxt) (o := .row true te sz []) (v := .slice none 0 0) hs (Go1.refl w none) (by omega) (fun b hb => by simp [blkOf] at hb) (fun ok' _ τ _ => .row true te sz [] (.slice none 0 0) [] ⟨by simp, .inl ⟨rfl, rfl⟩⟩ hsz (by simp) (by simp) (by simp) (fun i c v hc _ => by simp at hc))
  have h2 := hn.own_mono (k := k) (o := .box fr cs) (o' := .box fr (cs.set i (.own s.nxt))) (by rw [upd1_ne hkn]; exact hk) (by cases fr <;> rfl) (fun hx τ hτ => by
    have h3 := hx τ hτ
    generalize hv : updσ σ s.nxt (.slice none 0 0) k = v at h3 ⊢
    generalize ho : Obj1.box fr cs = ob at h3
    cases h3 with
    | box fr0 cs0 b t vs hb hl h1 h3 =>
      cases ho
      refine .box fr _ b t vs hb (by rw [List.length_set]; exact hl) h1 fun j c v hc hv => ?_
      by_cases hj : j = i
      · subst hj
        have hlt : j < cs.length := (List.getElem?_eq_some_iff.1 hi).1
        rw [List.getElem?_set_self hlt] at hc
        cases hc
        have h4 := (h3 j _ v hi hv).d_inv
        have hv0 : v = .slice none 0 0 := by cases h4; rfl
        rw [hv0, show (Value.slice none 0 0) = τ s.nxt by rw [hτ s.nxt (.inr rfl)]; simp [updσ]]
        exact .own _
      · rw [List.getElem?_set_ne (Ne.symm hj)] at hc
        exact h3 j c v hc hv
    | row => cases ho
    | iter => cases ho
    | map => cases ho)
  refine h c a w (updσ σ s.nxt (.slice none 0 0)) hgl ?_
  unfold SR
  rw [look_set, look_cons]
  rw [al_lt] at h2
  exact h2
/-- Four boxes of a cell each, that are another's. -/
def box4 (xs : Nat → D) : List (Nat × Obj1) := [(0, .box false [.d (xs 0)]), (1, .box false [.d (xs 1)]), (2, .box false [.d (xs 2)]), (3, .box false [.d (xs 3)])]
def sig4 (bs : Nat → Nat) : Nat → Value := fun k => .pointer (some ⟨bs k, 0, none⟩)
def ctx4 (gl : List (Nat × List D)) (w : World) (ok : Nat → Prop) (bs : Nat → Nat) : Ctx := ⟨gl, w, ok, fun b => ∃ k, k < 4 ∧ b = bs k, sig4 bs, fun k => k < 4, fun b => ∃ k, k < 4 ∧ b = bs k, []⟩
theorem box4_look {xs : Nat → D} {k : Nat} {o : Obj1} (h : look (box4 xs) k = some o) : k < 4 ∧ o = .box false [.d (xs k)] := by
  simp only [box4, look] at h
  split at h
  · rename_i e; cases h; subst e; exact ⟨by decide, rfl⟩
  · split at h
    · rename_i e; cases h; subst e; exact ⟨by decide, rfl⟩
    · split at h
      · rename_i e; cases h; subst e; exact ⟨by decide, rfl⟩
      · split at h
        · rename_i e; cases h; subst e; exact ⟨by decide, rfl⟩
        · cases h
theorem sr_four {w : World} {ok : Nat → Prop} {bs : Nat → Nat} {xs : Nat → D} {a : Act} {E : List (Nat × AV)} (hok : ∀ b, ok b → b < w.heap.size ∧ ∀ k, k < 4 → b ≠ bs k) (hgl : Glob gl w ok) (hinj : ∀ i j, i < 4 → j < 4 → bs i = bs j → i = j)
    (hb : ∀ k σ, k < 4 → RepO w ok σ (.box false [.d (xs k)]) (.pointer (some ⟨bs k, 0, none⟩))) (hd : a.defers = []) (hnt : a.tmps.size = nt)
    (hE : ∀ t x, look E t = some x → (∃ k, k < 4 ∧ x = .ref k 0 ∧ a.tmps.getD t undef = .pointer (some ⟨bs k, 0, none⟩)) ∨ ∃ d, x = .d d ∧ Rep w ok d (a.tmps.getD t undef)) :
    SR (ctx4 gl w ok bs) nt ⟨E, box4 xs, 4⟩ a w (sig4 bs) := by
  have hK : Kept w w ok (okk (ctx4 gl w ok bs) (look (box4 xs)) (sig4 bs) w) := fun b hb => ⟨⟨(hok b hb).1, .inl hb, fun k o hk he => by
    obtain ⟨h1, h2⟩ := box4_look hk
    simp [sig4, blkOf] at he
    exact (hok b hb).2 k h1 he.symm⟩, rfl⟩
  refine ⟨fun t x hx τ hτ => ?_, fun k o hk => ?_, fun k k' o o' hk hk' hne b hb1 hb2 => ?_, fun k o hk b hb1 => ?_, fun _ _ _ => rfl, fun b hb => ⟨(hok b hb).1, fun ⟨k, h1, h2⟩ => (hok b hb).2 k h1 h2⟩, Nat.le_refl _, rfl, rfl, rfl, fun k hk => ⟨hk, rfl⟩, hd, hnt, hgl.mono hK⟩
  · rcases hE t x hx with ⟨k, h1, rfl, h3⟩ | ⟨d, rfl, h⟩
    · rw [h3]
      exact .ref k 0 (bs k) (by rw [hτ k h1]; rfl)
    · exact .d _ _ (h.mono hK)
  · obtain ⟨h1, rfl⟩ := box4_look hk
    exact ⟨h1, fun τ hτ => (hb k τ h1).mono hK fun _ _ => rfl⟩
  · obtain ⟨h1, rfl⟩ := box4_look hk
    obtain ⟨h2, rfl⟩ := box4_look hk'
    simp [sig4, blkOf] at hb1 hb2
    exact hne (hinj k k' h1 h2 (hb1.trans hb2.symm))
  · obtain ⟨h1, rfl⟩ := box4_look hk
    simp [sig4, blkOf] at hb1
    exact .inl ⟨fun h => (by cases h), ⟨k, h1, hb1.symm⟩, fun _ => ⟨k, h1, hb1.symm⟩⟩
theorem RepO.box_d {w : World} {ok : Nat → Prop} {σ σ' : Nat → Value} {fr : Bool} {d : D} {v : Value} (h : RepO w ok σ (.box fr [.d d]) v) : RepO w ok σ' (.box false [.d d]) v := by
  generalize ho : Obj1.box fr [.d d] = ob at h
  cases h with
  | box fr0 cs b t vs hb hl h1 h =>
    cases ho
    refine .box false _ b t vs hb hl h1 fun i c v hc hv => ?_
    cases i with
    | zero =>
      simp at hc
      subst hc
      exact .d _ _ (h 0 _ v rfl hv).d_inv
    | succ i => simp at hc
  | row => cases ho
  | iter => cases ho
  | map => cases ho
/-- What has been done to the four boxes. -/
structure Four (w w' : World) (ok : Nat → Prop) (bs : Nat → Nat) (ys : Nat → D) : Prop where
  os : w'.os = w.os
  tape : w'.tape = w.tape
  output : w'.output = w.output
  size : w.heap.size ≤ w'.heap.size
  block : ∀ b, b < w.heap.size → (∀ k, k < 4 → b ≠ bs k) → w'.heap[b]? = w.heap[b]?
  boxes : ∀ k σ, k < 4 → RepO w' (fun b => b < w'.heap.size ∧ (ok b ∨ w.heap.size ≤ b) ∧ ∀ i, i < 4 → b ≠ bs i) σ (.box false [.d (ys k)]) (.pointer (some ⟨bs k, 0, none⟩))
theorem four_end {w w' : World} {ok : Nat → Prop} {bs : Nat → Nat} {ys : Nat → D} {a : Act} {s : St} {σ : Nat → Value} (h : SR (ctx4 gl w ok bs) nt s a w' σ) (hy : ∀ k, k < 4 → look s.own k = some (.box false [.d (ys k)])) : Four w w' ok bs ys := by
  refine ⟨h.os, h.tape, h.output, h.size, fun b hb hn => h.frame b hb fun ⟨k, h1, h2⟩ => hn k h1 h2, fun k τ hk => ?_⟩
  have h1 := (h.own k _ (hy k hk)).2.toO
  rw [(h.ag k hk).2] at h1
  exact h1.box_d.mono (fun b hb => ⟨⟨hb.1, hb.2.1, fun i hi he => hb.2.2 i _ (hy i hi) (by rw [(h.ag i hi).2, he]; rfl)⟩, rfl⟩) fun _ _ => rfl
end
end Go.Proofs.YtoidlnhgaaohdaaDoor
