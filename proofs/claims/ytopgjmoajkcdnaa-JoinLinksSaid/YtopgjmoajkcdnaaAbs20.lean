/- Rules of code: regions, what is forgotten, what is known, the way in and out. -/
import Derived.Test.YtopgjmoajkcdnaaAbs19
namespace Go.Proofs.Ytopgjmoajkcdnaa
set_option linter.all false
open Go Go.RowKit

def pruneL {α : Type} : List Nat → List (Nat × α) → List (Nat × α)
  | [], _ => []
  | t :: r, env => match look env t with
    | some v => (t, v) :: pruneL r env
    | none => pruneL r env
def St.prune (live : List Nat) (s : St) : St := ⟨pruneL live s.env, s.own, s.nxt⟩

theorem look_prune {α : Type} : ∀ (live : List Nat) (env : List (Nat × α)) (t : Nat) (v : α), look (pruneL live env) t = some v → look env t = some v
  | [], _, _, _, h => by simp [pruneL, look] at h
  | k :: r, env, t, v, h => by
    simp only [pruneL] at h
    split at h
    · rename_i u hu
      simp only [look] at h
      split at h
      · rename_i hk; subst hk; rw [hu]; exact h
      · exact look_prune r env t v h
    · exact look_prune r env t v h

section
variable {P : Program} {gl : List (Nat × List D)} {tb : Nat → Option TI} {nt : Nat} {Q : AExit → St → Prop} {s : St}

theorem SR.prune {c : Ctx} {a : Act} {w : World} {σ : Nat → Value} (live : List Nat) (h : SR c nt s a w σ) : SR c nt (s.prune live) a w σ := SRep.less h fun t x hx => look_prune live s.env t x hx

/-- A region in the text's order; 'live': what is read behind it. -/
theorem AW.region (htb : TbOk P tb) {id : Nat} {ops : List Oper} (live : List Nat) (hd : ops.all (dstOk nt) = true) (h : AE P gl tb ops (fun s' => Q .normal (s'.prune live)) ops s) : AW P gl nt (.region id ops.toArray false) Q s := fun c a w σ hgl _ hs =>
  wp_region_list (by
    have h' : AE P gl tb ops.toArray.toList (fun s' => Q .normal (s'.prune live)) ops s := h
    exact AE_sound (ops := ops.toArray) htb hgl (fun s' a' w' σ' hq hs' => ⟨.normal, s'.prune live, σ', hq, hs'.prune live, .normal⟩) ops s a w σ h' hd hs)

/-- A region whose order is open. -/
theorem AW.regionD (htb : TbOk P tb) (hmix : P.follows .mixedOrders = true) {id : Nat} {ops : List Oper} (live : List Nat) (B effs : List Nat) (hchk : drawOk ops.toArray B effs = true) (hd : ops.all (dstOk nt) = true)
    (h : AED P gl tb ops B effs s.nxt (fun s' => Q .normal (s'.prune live)) ops 0 s) : AW P gl nt (.region id ops.toArray true) Q s := fun c a w σ hgl _ hs => by
  obtain ⟨tr, s', h1, h2, h3, h4, h5, h6⟩ := trace_of (all := ops) htb ops 0 s (by simp) h
  simp only [drawOk, Bool.and_eq_true] at hchk
  obtain ⟨⟨hB, hA⟩, hF⟩ := hchk
  refine wp_region_any hmix ?_
  have hs' : SRep c (look s.env) (look s.own) (fun k => k < s.nxt) nt a { w with drawn := w.drawn + 1 } σ := SRep.grow hs ⟨rfl, rfl, rfl, Nat.le_refl _, fun _ _ _ => rfl⟩
  have hfalse : ∀ j, (Array.replicate ops.toArray.size false).getD j false = false := fun j => by
    simp [Array.getD_eq_getD_getElem?, Array.getElem?_replicate]
    split <;> rfl
  refine drawn_any (base := s.nxt) (tr := tr) (E0 := look s.env) (O0 := look s.own) (Q := APost c nt Q) hgl hB hA hF hd h1 h2 (fun a' w' σ' hh => ?_) _ _ a _ σ (by simp) (fun j o ho hj => by
      have h9 : (Array.replicate ops.toArray.size false).getD j false = true := hj
      rw [hfalse] at h9
      cases h9) ?_ ?_
  · refine ⟨.normal, s'.prune live, σ', h3, SR.prune live ?_, .normal⟩
    unfold SR
    rw [h4, h5, h6]
    simpa using hh
  · have : ((List.range ops.toArray.size).filter fun j => !(Array.replicate ops.toArray.size false).getD j false) = List.range ops.toArray.size := List.filter_eq_self.2 fun j _ => by rw [hfalse]; rfl
    rw [this]
    simp
  · rw [foldE_none _ _ _ (fun k _ => hfalse k), foldO_none _ _ _ (fun k _ => hfalse k)]
    exact hs'.al_ext fun k hk => .inl hk

/-! ### Less is known -/
theorem RepA.congr {w : World} {ok : Nat → Prop} {σ σ' : Nat → Value} {x : AV} {v : Value} (h : RepA w ok σ x v) : (∀ k ∈ x.ids, σ' k = σ k) → RepA w ok σ' x v := by
  induction h with
  | d x v h => exact fun _ => .d x v h
  | own k =>
    intro hs
    have := hs k (by simp [AV.ids])
    rw [← this]
    exact .own k
  | ref k off b h => exact fun hs => .ref k off b (by rw [hs k (by simp [AV.ids])]; exact h)
  | elt k sz j o b h => exact fun hs => .elt k sz j o b (by rw [hs k (by simp [AV.ids])]; exact h)
  | agg cs vs hl _ h1 ih =>
    intro hs
    refine .agg cs vs hl (fun i c v hc hv => ih i c v hc hv fun k hk => hs k ?_) h1
    exact ids_mem hc hk
  | tup cs vs hl _ ih =>
    intro hs
    refine .tup cs vs hl (fun i c v hc hv => ih i c v hc hv fun k hk => hs k ?_)
    exact ids_mem hc hk
where
  ids_mem : ∀ {cs : List AV} {i : Nat} {c : AV}, cs[i]? = some c → ∀ {k : Nat}, k ∈ c.ids → k ∈ AV.idsL cs
    | [], i, c, h, _, _ => by simp at h
    | x :: r, 0, c, h, k, hk => by simp at h; subst h; exact List.mem_append_left _ hk
    | x :: r, i + 1, c, h, k, hk => List.mem_append_right _ (ids_mem (by simpa using h) hk)

def Obj1.ids : Obj1 → List Nat
  | .box _ cs => AV.idsL cs
  | .row .. => []
theorem RepO.congr {w : World} {ok : Nat → Prop} {σ σ' : Nat → Value} {o : Obj1} {v : Value} (h : RepO w ok σ o v) (hs : ∀ k ∈ o.ids, σ' k = σ k) : RepO w ok σ' o v := by
  cases h with
  | box fr cs b t vs hb hl h1 h => exact .box fr cs b t vs hb hl h1 fun i c v hc hv => (h i c v hc hv).congr fun k hk => hs k (RepA.congr.ids_mem hc hk)
  | row fr t sz xs v vs ho hp hm hsz h1 h => exact .row fr t sz xs v vs ho hp hm hsz h1 h

def allBelow (n : Nat) : List Nat → Prop
  | [] => True
  | k :: r => k < n ∧ allBelow n r
theorem allBelow_spec {n : Nat} : ∀ {l : List Nat}, allBelow n l → ∀ k ∈ l, k < n
  | [], _, k, hk => by cases hk
  | x :: r, h, k, hk => by
    rcases List.mem_cons.1 hk with rfl | hk
    · exact h.1
    · exact allBelow_spec h.2 k hk

/-- The first one knows no more than the second one; all that it names is below its own number. -/
def envLe (s' : St) : List (Nat × AV) → Prop
  | [] => True
  | (t, v) :: r => look s'.env t = some v ∧ envLe s' r
def ownLe (s' : St) : List (Nat × Obj1) → Prop
  | [] => True
  | (k, o) :: r => look s'.own k = some o ∧ ownLe s' r
def idsEnv (n : Nat) : List (Nat × AV) → Prop
  | [] => True
  | (_, v) :: r => allBelow n v.ids ∧ idsEnv n r
def idsOwn (n : Nat) : List (Nat × Obj1) → Prop
  | [] => True
  | (k, o) :: r => k < n ∧ allBelow n o.ids ∧ idsOwn n r
structure St.le (s s' : St) : Prop where
  env : envLe s' s.env
  own : ownLe s' s.own
  ie : idsEnv s.nxt s.env
  io : idsOwn s.nxt s.own

theorem envLe_spec {s' : St} : ∀ {l : List (Nat × AV)}, envLe s' l → ∀ t v, look l t = some v → look s'.env t = some v
  | [], _, t, v, h => by simp [look] at h
  | (k, x) :: r, h, t, v, hl => by
    simp only [look] at hl
    split at hl
    · rename_i hk; subst hk; rw [← hl]; exact h.1
    · exact envLe_spec h.2 t v hl
theorem ownLe_spec {s' : St} : ∀ {l : List (Nat × Obj1)}, ownLe s' l → ∀ t v, look l t = some v → look s'.own t = some v
  | [], _, t, v, h => by simp [look] at h
  | (k, x) :: r, h, t, v, hl => by
    simp only [look] at hl
    split at hl
    · rename_i hk; subst hk; rw [← hl]; exact h.1
    · exact ownLe_spec h.2 t v hl
theorem idsEnv_spec {n : Nat} : ∀ {l : List (Nat × AV)}, idsEnv n l → ∀ t v, look l t = some v → ∀ k ∈ v.ids, k < n
  | [], _, t, v, h => by simp [look] at h
  | (k, x) :: r, h, t, v, hl => by
    simp only [look] at hl
    split at hl
    · injection hl with hl; subst hl; exact allBelow_spec h.1
    · exact idsEnv_spec h.2 t v hl
theorem idsOwn_spec {n : Nat} : ∀ {l : List (Nat × Obj1)}, idsOwn n l → ∀ t v, look l t = some v → t < n ∧ ∀ k ∈ v.ids, k < n
  | [], _, t, v, h => by simp [look] at h
  | (k, x) :: r, h, t, v, hl => by
    simp only [look] at hl
    split at hl
    · rename_i hk; injection hl with hl; subst hl; subst hk; exact ⟨h.1, allBelow_spec h.2.1⟩
    · exact idsOwn_spec h.2.2 t v hl

/-- The numbers below which a call's own state began. -/
theorem SR.le {c : Ctx} {a : Act} {w : World} {σ : Nat → Value} {s' : St} (h : SR c nt s' a w σ) (hle : s.le s') (hal : ∀ k, c.al0 k → k < s.nxt) : SR c nt s a w σ := by
  have hO := fun k o (hk : look s.own k = some o) => ownLe_spec hle.own k o hk
  have hE := fun t v (ht : look s.env t = some v) => envLe_spec hle.env t v ht
  have hkept : Kept w w (okk c (look s'.own) σ w) (okk c (look s.own) σ w) := fun b hb => ⟨⟨hb.1, hb.2.1, fun k o hk => hb.2.2 k o (hO k o hk)⟩, rfl⟩
  exact ⟨fun t x hx τ hτ => ((h.env t x (hE t x hx)).toA.congr fun k hk => hτ k (idsEnv_spec hle.ie t x hx k hk)).mono hkept,
    fun k o hk => ⟨(idsOwn_spec hle.io k o hk).1, fun τ hτ => ((h.own k o (hO k o hk)).2.toO.congr fun j hj => hτ j ((idsOwn_spec hle.io k o hk).2 j hj)).mono hkept fun _ _ => rfl⟩,
    fun k k' o o' h1 h2 => h.dis k k' o o' (hO _ _ h1) (hO _ _ h2), fun k o h1 => h.mine k o (hO _ _ h1), h.frame, h.low, h.size, h.os, h.tape, h.output, fun k hk => ⟨hal k hk, (h.ag k hk).2⟩, h.defers, h.nt, h.glob.mono hkept⟩

theorem AW.weaken {code : Code} (s' : St) (hle : s'.le s) (h : AW P gl nt code Q s') : AW P gl nt code Q s := fun c a w σ hgl hp hs => h c a w σ hgl hp (SR.le hs hle fun k hk => absurd hk (hp.al0 k))

/-- What is known of lengths. -/
theorem AW.len {code : Code} {t : Nat} {xs : List (List D)} (ht : look s.env t = some (.d (.slice xs))) (h : xs.length ≤ 9223372036854775807 → AW P gl nt code Q s) : AW P gl nt code Q s := fun c a w σ hgl hp hs => by
  refine h ?_ c a w σ hgl hp hs
  have h1 := (hs.env t _ ht).d_inv
  generalize a.tmps.getD t undef = v at h1
  cases h1 with
  | nil => simp
  | empty => simp
  | slice _ b off cap sz f hok hcap hmax => simp only [maxLen] at hmax; omega
theorem AW.strlen {code : Code} {t : Nat} {b : ByteArray} (ht : look s.env t = some (.d (.str b))) (h : b.size ≤ 9223372036854775807 → AW P gl nt code Q s) : AW P gl nt code Q s := fun c a w σ hgl hp hs => by
  refine h ?_ c a w σ hgl hp hs
  have := (rep_str (hs.env t _ ht)).2
  simp only [maxLen] at this
  omega

end
end Go.Proofs.Ytopgjmoajkcdnaa
