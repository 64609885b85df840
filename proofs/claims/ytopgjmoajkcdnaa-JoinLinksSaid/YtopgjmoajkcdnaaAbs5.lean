/- One operation: variables in memory, addresses, loads, stores. -/
import Derived.Test.YtopgjmoajkcdnaaAbs4
namespace Go.Proofs.Ytopgjmoajkcdnaa
set_option linter.all false
open Go Go.RowKit

section
variable {P : Program} {E : Nat → Option AV} {O : Nat → Option Obj1} {gl : List (Nat × List D)} {o : Oper} {id : Nat} {tb : Nat → Option TI}

/-- A step that runs and leaves a value: whatever becomes of the world. -/
theorem Step.run {x : AV} {e : Eff} (h : ∀ (c : Ctx) (E' : Nat → Option AV) (O' : Nat → Option Obj1) (al : Nat → Prop) (nt : Nat) (a : Act) (w : World) (σ : Nat → Value), c.gl = gl → SRep c E' O' al nt a w σ → ¬ al id → Agree gl E E' O O' o →
    ∃ v' w' σ', (execOp a.eval o).run P w = .ok (.value v') w' ∧ SRep c E' (e.app id O') (fun k => al k ∨ k = id) nt a w' σ' ∧ RepS (fun k => al k ∨ k = id) w' (okk c (e.app id O') σ' w') σ' x v') : Step P gl E O o id (some x) e := by
  intro c E' O' al nt a w σ hgl hs hid hag K Q hK
  obtain ⟨v', w', σ', hr, hs', hx⟩ := h c E' O' al nt a w σ hgl hs hid hag
  unfold Oper.wp
  rw [hr]
  refine hK v' w' σ' hs' fun y hy => ?_
  injection hy with hy
  subst hy
  exact hx

/-- A step that leaves no value. -/
theorem Step.skip {e : Eff} (h : ∀ (c : Ctx) (E' : Nat → Option AV) (O' : Nat → Option Obj1) (al : Nat → Prop) (nt : Nat) (a : Act) (w : World) (σ : Nat → Value), c.gl = gl → SRep c E' O' al nt a w σ → ¬ al id → Agree gl E E' O O' o →
    ∃ w' σ', (execOp a.eval o).run P w = .ok .skip w' ∧ SRep c E' (e.app id O') (fun k => al k ∨ k = id) nt a w' σ') : Step P gl E O o id none e := by
  intro c E' O' al nt a w σ hgl hs hid hag K Q hK
  obtain ⟨w', σ', hr, hs'⟩ := h c E' O' al nt a w σ hgl hs hid hag
  unfold Oper.wp
  rw [hr]
  exact hK undef w' σ' hs' fun y hy => by cases hy

theorem not_al_ne {al : Nat → Prop} {id k : Nat} (hid : ¬ al id) (hk : al k) : k ≠ id := fun e => hid (e ▸ hk)

/-- The new object's own value. -/
theorem rep_ref_new {al : Nat → Prop} {w : World} {ok : Nat → Prop} {σ : Nat → Value} {b : Nat} (k : Nat) (hk : al k) (h : σ k = .pointer (some ⟨b, 0, none⟩)) : RepS al w ok σ (.ref k 0) (.pointer (some ⟨b, 0, none⟩)) := fun τ hτ =>
  .ref k 0 b (by rw [hτ k hk, h]; rfl)

/-- A value that is moved into a new variable. -/
theorem st_box {t : TypeId} {x : Operand} {y : AV} (ho : o.op = .box t x) (hx : getE gl E x = some y) (ht : y.isTup = false) (hown : ∀ k, y = .own k → ∃ ob, O k = some ob) :
    Step P gl E O o id (some (.ref id 0)) (.new (.box true y.cells)) :=
  .run fun c E' O' al nt a w σ hgl hs hid hag => by
    subst hgl
    have hm : x ∈ o.op.operands := by simp [ho, Op.operands]
    have h1 := hs.get (hag.get hm hx)
    have hone : ∀ k, y = .own k → (a.eval x).oneCell' = true := fun k hk => by
      obtain ⟨ob, hob⟩ := hown k hk
      have h2 := hag.o x hm y hx k (by subst hk; simp [AV.ids])
      rw [hob] at h2
      subst hk
      rw [h1.toA.own_inv]
      exact (hs.own k ob h2).2.toO.one
    have hn := hs.new (id := id) (o := .box true y.cells) (v := .pointer (some ⟨w.heap.size, 0, none⟩)) (Go1.alloc w (.cells (a.eval x).cells t) none) hid (fun b hb => by simp [blkOf] at hb; omega) (fun ok' hk => box_new true h1 ht hone hk)
    exact ⟨.pointer (some ⟨w.heap.size, 0, none⟩), _, _, by simp [execOp, ho, Instr.box, run_newVar], hn, rep_ref_new id (.inr rfl) (by simp [updσ])⟩

/-- A new variable at zero. -/
theorem st_alloc {t : TypeId} {i : TI} (hi : i.ok P t) (ho : o.op = .alloc t) (ht : i.zd.isTup = false) : Step P gl E O o id (some (.ref id 0)) (.new (.box true (AV.d i.zd).cells)) :=
  .run fun c E' O' al nt a w σ hgl hs hid hag => by
    obtain ⟨z, hz, hr, _⟩ := hi.zero w
    have h1 : RepS al w (okk c O' σ w) σ (.d i.zd) z := .of_d (hr _ _)
    have hn := hs.new (id := id) (o := .box true (AV.d i.zd).cells) (v := .pointer (some ⟨w.heap.size, 0, none⟩)) (Go1.alloc w (.cells z.cells t) none) hid (fun b hb => by simp [blkOf] at hb; omega) (fun ok' hk => box_new true h1 (by simpa [AV.isTup] using ht) (fun k hk => by cases hk) hk)
    exact ⟨.pointer (some ⟨w.heap.size, 0, none⟩), _, _, by simp [execOp, ho, Instr.alloc, hz, run_newVar], hn, rep_ref_new id (.inr rfl) (by simp [updσ])⟩

/-! ### Addresses -/
theorem fld_at {l : List Field} {fs : List (Nat × Nat × Nat)} (h : FldsOk P l fs) {n : Nat} {x : Nat × Nat × Nat} (hx : fs[n]? = some x) : ∃ f, l[n]? = some f ∧ f.offset = x.1 ∧ f.type = x.2.1 ∧ (P.info? x.2.1).map (·.size) = some x.2.2 ∧ x.2.2 ≠ 0 := by
  induction l generalizing fs n with
  | nil => cases fs with
    | nil => simp at hx
    | cons y r => simp [FldsOk] at h
  | cons f l ih => cases fs with
    | nil => simp at hx
    | cons y r =>
      obtain ⟨o, t, s⟩ := y
      simp only [FldsOk] at h
      cases n with
      | zero => simp at hx; subst hx; exact ⟨f, rfl, h.1, h.2.1, h.2.2.1, h.2.2.2.1⟩
      | succ n => simp at hx; simpa using ih h.2.2.2.2 hx

theorem run_fieldAt {s n : Nat} {i : TI} {fs : List (Nat × Nat × Nat)} {x : Nat × Nat × Nat} (hi : i.ok P s) (hk : i.k = .struct fs) (hx : fs[n]? = some x) (b off : Nat) (w : World) :
    (Instr.fieldAt s (.pointer (some ⟨b, off, none⟩)) n).run P w = .ok (.pointer (some ⟨b, off + x.1, none⟩)) w := by
  have h := hi.k
  rw [hk] at h
  obtain ⟨l, h1, h2⟩ := h
  obtain ⟨f, h3, h4, h5, h6, h7⟩ := fld_at h2 hx
  have h8 := run_size_of_map h6 w
  rw [← h5] at h8
  have h9 : l[n]? = some f := by simpa using h3
  have h10 : (sizeOf f.type).run P w = .ok x.2.2 w := by rw [h5] at h8 ⊢; exact h8
  simp [Instr.fieldAt, run_underlying h1, h9, Instr.sureAddr, fieldPlace, h10, h7, Addr.add_lit, h4]

theorem st_fieldAddr_ref {s n k off : Nat} {x : Operand} {i : TI} {fs : List (Nat × Nat × Nat)} {f : Nat × Nat × Nat} (hi : i.ok P s) (hk : i.k = .struct fs) (hf : fs[n]? = some f) (ho : o.op = .fieldAddr s x n) (hx : getE gl E x = some (.ref k off)) :
    Step P gl E O o id (some (.ref k (off + f.1))) .none :=
  .val fun c E' O' al nt a w σ hgl hs hag => by
    subst hgl
    have h1 := hs.get (hag.get (by simp [ho, Op.operands]) hx)
    obtain ⟨b, hb, hv⟩ := h1.toA.ref_inv
    refine ⟨.pointer (some ⟨b, off + f.1, none⟩), by simp [execOp, ho, hv, run_fieldAt hi hk hf], fun τ hτ => ?_⟩
    obtain ⟨b', hb', hv'⟩ := (h1 τ hτ).ref_inv
    rw [hv] at hv'
    injection hv' with hv'
    injection hv' with hv'
    injection hv' with hv' _ _
    subst hv'
    exact .ref k _ _ hb'

theorem st_fieldAddr_elt {s n k sz j off : Nat} {x : Operand} {i : TI} {fs : List (Nat × Nat × Nat)} {f : Nat × Nat × Nat} (hi : i.ok P s) (hk : i.k = .struct fs) (hf : fs[n]? = some f) (ho : o.op = .fieldAddr s x n) (hx : getE gl E x = some (.elt k sz j off)) :
    Step P gl E O o id (some (.elt k sz j (off + f.1))) .none :=
  .val fun c E' O' al nt a w σ hgl hs hag => by
    subst hgl
    have h1 := hs.get (hag.get (by simp [ho, Op.operands]) hx)
    obtain ⟨b, hb, hv⟩ := h1.toA.elt_inv
    refine ⟨.pointer (some ⟨b, j * sz + (off + f.1), none⟩), by simp [execOp, ho, hv, run_fieldAt hi hk hf, Nat.add_assoc], fun τ hτ => ?_⟩
    obtain ⟨b', hb', hv'⟩ := (h1 τ hτ).elt_inv
    rw [hv] at hv'
    injection hv' with hv'
    injection hv' with hv'
    injection hv' with hv' _ _
    subst hv'
    exact .elt k _ _ _ _ hb'

theorem rep_addr_drop {w : World} {ok : Nat → Prop} {cs : List D} {b off n : Nat} (h : Rep w ok (.addr cs) (.pointer (some ⟨b, off, none⟩))) : Rep w ok (.addr (cs.drop n)) (.pointer (some ⟨b, off + n, none⟩)) := by
  cases h with
  | addr _ _ _ f hok hc h1 h =>
    refine .addr _ b (off + n) (fun i => f (n + i)) hok (fun i hi => ?_) (fun i => h1 _) (fun i c hc' => ?_)
    · rw [List.length_drop] at hi
      rw [Nat.add_assoc]
      exact hc (n + i) (by omega)
    · rw [List.getElem?_drop] at hc'
      exact h _ c hc'

theorem rep_addr_inv {w : World} {ok : Nat → Prop} {cs : List D} {v : Value} (h : Rep w ok (.addr cs) v) : ∃ b off, v = .pointer (some ⟨b, off, none⟩) := by
  cases h with | addr _ b off => exact ⟨b, off, rfl⟩

theorem st_fieldAddr_addr {s n : Nat} {cs : List D} {x : Operand} {i : TI} {fs : List (Nat × Nat × Nat)} {f : Nat × Nat × Nat} (hi : i.ok P s) (hk : i.k = .struct fs) (hf : fs[n]? = some f) (ho : o.op = .fieldAddr s x n) (hx : getE gl E x = some (.d (.addr cs))) :
    Step P gl E O o id (some (.d (.addr (cs.drop f.1)))) .none :=
  .val fun c E' O' al nt a w σ hgl hs hag => by
    subst hgl
    have h1 := (hs.get (hag.get (by simp [ho, Op.operands]) hx)).d_inv
    obtain ⟨b, off, hv⟩ := rep_addr_inv h1
    rw [hv] at h1
    exact ⟨_, by simp [execOp, ho, hv, run_fieldAt hi hk hf], .of_d (rep_addr_drop h1)⟩

/-! ### Loads -/
theorem st_load_addr {t : Nat} {cs : List D} {x : Operand} {y : D} {i : TI} (hi : i.ok P t) (ho : o.op = .load t x) (hx : getE gl E x = some (.d (.addr cs))) (hy : readD i cs = some y) : Step P gl E O o id (some (.d y)) .none :=
  .val fun c E' O' al nt a w σ hgl hs hag => by
    subst hgl
    have h1 := (hs.get (hag.get (by simp [ho, Op.operands]) hx)).d_inv
    generalize hv : a.eval x = v at h1
    cases h1 with
    | addr _ b off f hok hc h1 h =>
      obtain ⟨v, hr, hv'⟩ := run_readD hi b off cs f hc h1 h hy
      exact ⟨v, by simp [execOp, ho, hv, Instr.loadAt, Instr.sureAddr, hr], .of_d hv'⟩

theorem box_cells {al : Nat → Prop} {w : World} {ok : Nat → Prop} {σ : Nat → Value} {fr : Bool} {cs : List AV} {v : Value} (h : RepSO al w ok σ (.box fr cs) v) :
    ∃ (b : Nat) (t : TypeId) (vs : List Value), v = .pointer (some ⟨b, 0, none⟩) ∧ w.heap[b]? = some (.cells vs.toArray t (0, 0)) ∧ vs.length = cs.length ∧ (∀ u ∈ vs, u.oneCell' = true) ∧ ∀ (i : Nat) c u, cs[i]? = some c → vs[i]? = some u → RepS al w ok σ c u := by
  have h0 := h.toO
  generalize ho : Obj1.box fr cs = ob at h0
  cases h0 with
  | row => cases ho
  | box fr' cs' b t vs hb hl h1 _ =>
    cases ho
    refine ⟨b, t, vs, rfl, hb, hl, h1, fun i c u hc hu τ hτ => ?_⟩
    have h2 := h τ hτ
    cases h2 with
    | box _ _ _ t' vs' hb' _ _ h' =>
      rw [hb] at hb'
      injection hb' with hb'
      injection hb' with hb' _ _
      have : vs = vs' := by injection hb'
      subst this
      exact h' i c u hc hu

theorem st_load_ref {t k off : Nat} {fr : Bool} {cs : List AV} {x : Operand} {y : AV} {i : TI} (hi : i.ok P t) (ho : o.op = .load t x) (hx : getE gl E x = some (.ref k off)) (hO : O k = some (.box fr cs)) (hy : readA i (cs.drop off) = some y) : Step P gl E O o id (some y) .none :=
  .val fun c E' O' al nt a w σ hgl hs hag => by
    subst hgl
    have hm : x ∈ o.op.operands := by simp [ho, Op.operands]
    have h1 := hs.get (hag.get hm hx)
    have hO' : O' k = some (.box fr cs) := (hag.o x hm _ hx k (by simp [AV.ids])).trans hO
    obtain ⟨b, hb, hv⟩ := h1.toA.ref_inv
    obtain ⟨b', t', vs, e1, hh, hl, ho1, hc⟩ := box_cells (hs.own k _ hO').2
    rw [e1] at hb
    simp [blkOf] at hb
    subst hb
    obtain ⟨v, hr, hv'⟩ := run_readA (al := al) (ok := okk c O' σ w) (σ := σ) hi b' off (cs.drop off) (vs.drop off) (by simp; omega) (fun j v hj => by
        rw [List.getElem?_drop] at hj
        rw [cell_of_row w b' (off + j) vs.toArray t' (0, 0) hh]
        simpa using hj) (fun v hv => ho1 v (List.mem_of_mem_drop hv)) (fun j c u hj hu => by
        rw [List.getElem?_drop] at hj hu
        exact hc _ c u hj hu) hy
    exact ⟨v, by simp [execOp, ho, hv, Instr.loadAt, Instr.sureAddr, hr], hv'⟩
end
end Go.Proofs.Ytopgjmoajkcdnaa
