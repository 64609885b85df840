/- One operation: own rows: their elements; stores; indexes into slices that are read. -/
import Derived.Test.YtopgjmoajkcdnaaAbs5
namespace Go.Proofs.Ytopgjmoajkcdnaa
set_option linter.all false
open Go Go.RowKit

/-! ### Lists of elements of one length -/
theorem flat_len {α : Type} {sz : Nat} : ∀ {xs : List (List α)}, (∀ x ∈ xs, x.length = sz) → xs.flatten.length = xs.length * sz
  | [], _ => by simp
  | x :: r, h => by
    rw [List.flatten_cons, List.length_append, flat_len (fun y hy => h y (List.mem_cons_of_mem _ hy)), h x (List.mem_cons_self), List.length_cons, Nat.add_mul]
    omega

theorem flat_at {α : Type} {sz : Nat} : ∀ {xs : List (List α)}, (∀ x ∈ xs, x.length = sz) → ∀ {j : Nat} {x : List α}, xs[j]? = some x → ∀ i, i < sz → xs.flatten[j * sz + i]? = x[i]?
  | [], _, j, x, hx, _, _ => by simp at hx
  | y :: r, h, 0, x, hx, i, hi => by
    simp at hx
    subst hx
    rw [List.flatten_cons, Nat.zero_mul, Nat.zero_add, List.getElem?_append_left (by rw [h y List.mem_cons_self]; exact hi)]
  | y :: r, h, j + 1, x, hx, i, hi => by
    have hl := h y List.mem_cons_self
    rw [List.flatten_cons, List.getElem?_append_right (by rw [hl, Nat.add_mul]; omega), hl, show (j + 1) * sz + i - sz = j * sz + i by rw [Nat.add_mul]; omega]
    exact flat_at (fun z hz => h z (List.mem_cons_of_mem _ hz)) (by simpa using hx) i hi

theorem flat_set {α : Type} {sz : Nat} : ∀ {xs : List (List α)}, (∀ x ∈ xs, x.length = sz) → ∀ {j : Nat} {x : List α}, xs[j]? = some x → ∀ o u, o < sz → (xs.set j (x.set o u)).flatten = xs.flatten.set (j * sz + o) u
  | [], _, j, x, hx, _, _, _ => by simp at hx
  | y :: r, h, 0, x, hx, o, u, ho => by
    simp at hx
    subst hx
    have hl := h y List.mem_cons_self
    rw [List.set_cons_zero, List.flatten_cons, List.flatten_cons, Nat.zero_mul, Nat.zero_add, List.set_append_left _ _ (by omega)]
  | y :: r, h, j + 1, x, hx, o, u, ho => by
    have hl := h y List.mem_cons_self
    rw [List.set_cons_succ, List.flatten_cons, List.flatten_cons, flat_set (fun z hz => h z (List.mem_cons_of_mem _ hz)) (by simpa using hx) o u ho,
      List.set_append_right _ _ (by rw [hl, Nat.add_mul]; omega), hl, show (j + 1) * sz + o - sz = j * sz + o by rw [Nat.add_mul]; omega]

section
variable {P : Program} {E : Nat → Option AV} {O : Nat → Option Obj1} {gl : List (Nat × List D)} {o : Oper} {id : Nat}

theorem row_facts {al : Nat → Prop} {w : World} {ok : Nat → Prop} {σ : Nat → Value} {fr : Bool} {t : TypeId} {sz : Nat} {xs : List (List D)} {v : Value} (h : RepSO al w ok σ (.row fr t sz xs) v) :
    ∃ vs : List Value, w.ownsRow 0 t sz v xs.length vs ∧ 0 < sz ∧ xs.length ≤ maxLen ∧ (∀ x ∈ xs, x.length = sz) ∧ (∀ u ∈ vs, u.oneCell' = true) ∧ ∀ (i : Nat) c u, xs.flatten[i]? = some c → vs[i]? = some u → Rep w ok c u := by
  have h0 := h.toO
  generalize ho : Obj1.row fr t sz xs = ob at h0
  cases h0 with
  | box => cases ho
  | row fr' t' sz' xs' _ vs h1 h2 h3 h4 h5 h6 => cases ho; exact ⟨vs, h1, h2, h3, h4, h5, h6⟩

theorem row_mk {al : Nat → Prop} {w : World} {ok : Nat → Prop} {σ : Nat → Value} {fr : Bool} {t : TypeId} {sz : Nat} {xs : List (List D)} {v : Value} {vs : List Value} (h1 : w.ownsRow 0 t sz v xs.length vs) (h2 : 0 < sz) (h3 : xs.length ≤ maxLen) (h4 : ∀ x ∈ xs, x.length = sz)
    (h5 : ∀ u ∈ vs, u.oneCell' = true) (h6 : ∀ (i : Nat) c u, xs.flatten[i]? = some c → vs[i]? = some u → Rep w ok c u) : RepSO al w ok σ (.row fr t sz xs) v := fun _ _ => .row fr t sz xs v vs h1 h2 h3 h4 h5 h6

/-- A row that isn't empty has a block. -/
theorem row_form {w : World} {t : TypeId} {sz n : Nat} {v : Value} {vs : List Value} (h : w.ownsRow 0 t sz v n vs) (hn : 0 < n) : ∃ g cap, v = .slice (some ⟨g, 0, none⟩) n cap := by
  rcases h.2 with ⟨_, h0⟩ | ⟨g, cap, cur, rfl, _⟩
  · omega
  · exact ⟨g, cap, rfl⟩

theorem row_slice {w : World} {t : TypeId} {sz n : Nat} {v : Value} {vs : List Value} (h : w.ownsRow 0 t sz v n vs) : ∃ A cap, v = .slice A n cap := by
  rcases h.2 with ⟨h1, h0⟩ | ⟨g, cap, cur, rfl, _⟩
  · subst h0; exact ⟨none, 0, h1⟩
  · exact ⟨_, cap, rfl⟩

theorem st_load_elt {t k sz j off : Nat} {fr : Bool} {te : TypeId} {xs : List (List D)} {x : Operand} {e : List D} {y : D} {i : TI} (hi : i.ok P t) (ho : o.op = .load t x) (hx : getE gl E x = some (.elt k sz j off)) (hO : O k = some (.row fr te sz xs)) (he : xs[j]? = some e) (hy : readD i (e.drop off) = some y) :
    Step P gl E O o id (some (.d y)) .none :=
  .val fun c E' O' al nt a w σ hgl hs hag => by
    subst hgl
    have hm : x ∈ o.op.operands := by simp [ho, Op.operands]
    have h1 := hs.get (hag.get hm hx)
    have hO' : O' k = some (.row fr te sz xs) := (hag.o x hm _ hx k (by simp [AV.ids])).trans hO
    obtain ⟨b, hb, hv⟩ := h1.toA.elt_inv
    obtain ⟨vs, f1, f2, f3, f4, f5, f6⟩ := row_facts (hs.own k _ hO').2
    have hj : j < xs.length := (List.getElem?_eq_some_iff.1 he).1
    obtain ⟨g, cap, hg⟩ := row_form f1 (by omega)
    rw [hg] at hb
    simp [blkOf] at hb
    subst hb
    have hel : e.length = sz := f4 e (List.mem_of_getElem? he)
    have hfl := flat_len f4
    have hvl : vs.length = xs.length * sz := f1.1
    rw [hg] at f1
    have hjs : j * sz + sz ≤ xs.length * sz := by rw [← Nat.succ_mul]; exact Nat.mul_le_mul_right _ hj
    have hcell : ∀ m, m < (e.drop off).length → w.cell? ⟨g, j * sz + off + m, none⟩ = some (vs.getD (j * sz + off + m) undef) := fun m hm' => by
      rw [List.length_drop] at hm'
      rw [f1.cellAt _ (by omega), List.getElem?_eq_getElem (by omega)]
      simp [List.getD_eq_getElem?_getD, show j * sz + off + m < vs.length by omega]
    obtain ⟨v, hr, hv'⟩ := run_readD (w := w) (ok := okk c O' σ w) hi g (j * sz + off) (e.drop off) (fun m => vs.getD (j * sz + off + m) (.bool false))
      (fun m hm' => by
        rw [hcell m hm']
        rw [List.length_drop] at hm'
        simp [List.getD_eq_getElem?_getD, show j * sz + off + m < vs.length by omega])
      (fun m => by
        rw [List.getD_eq_getElem?_getD]
        cases hh : vs[j * sz + off + m]? with
        | none => rfl
        | some u => exact f5 u (List.mem_of_getElem? hh))
      (fun m c' hc' => by
        rw [List.getElem?_drop] at hc'
        have hlt : off + m < e.length := (List.getElem?_eq_some_iff.1 hc').1
        have h7 := flat_at f4 he (off + m) (by omega)
        rw [hc'] at h7
        have h8 : j * sz + off + m < vs.length := by omega
        refine f6 (j * sz + (off + m)) c' _ h7 ?_
        rw [← Nat.add_assoc, List.getD_eq_getElem?_getD, List.getElem?_eq_getElem h8]
        rfl) hy
    exact ⟨v, by simp [execOp, ho, hv, Instr.loadAt, Instr.sureAddr, hr], .of_d hv'⟩

/-! ### Stores -/
def splice {α : Type} : List α → Nat → List α → List α
  | cs, 0, new => new ++ cs.drop new.length
  | [], _ + 1, _ => []
  | c :: cs, n + 1, new => c :: splice cs n new

theorem splice_len {α : Type} : ∀ (cs : List α) (n : Nat) (new : List α), n + new.length ≤ cs.length → (splice cs n new).length = cs.length
  | cs, 0, new, h => by simp [splice]; omega
  | [], n + 1, new, h => by simp at h
  | c :: cs, n + 1, new, h => by simp [splice]; exact splice_len cs n new (by simp at h; omega)

theorem splice_get {α : Type} : ∀ (cs : List α) (n : Nat) (new : List α), n + new.length ≤ cs.length → ∀ i, (splice cs n new)[i]? = if n ≤ i ∧ i < n + new.length then new[i - n]? else cs[i]?
  | cs, 0, new, h, i => by
    simp only [splice, Nat.zero_le, true_and, Nat.zero_add, Nat.sub_zero]
    split
    · rename_i hlt; rw [List.getElem?_append_left hlt]
    · rename_i hlt; rw [List.getElem?_append_right (by omega), List.getElem?_drop]; congr 1; omega
  | [], n + 1, new, h, i => by simp at h
  | c :: cs, n + 1, new, h, 0 => by simp [splice]
  | c :: cs, n + 1, new, h, i + 1 => by
    simp only [splice, List.getElem?_cons_succ]
    rw [splice_get cs n new (by simp at h; omega) i]
    by_cases hc : n ≤ i ∧ i < n + new.length
    · rw [if_pos hc, if_pos (by omega)]; congr 1; omega
    · rw [if_neg hc, if_neg (by omega)]

/-- Cells stored, one behind the other. -/
theorem run_storeCells_list (P : Program) {t : TypeId} (g off : Nat) : ∀ (news : List Value) (vs : List Value) (i : Nat) (w : World), w.heap[g]? = some (.cells vs.toArray t (0, 0)) → off + i + news.length ≤ vs.length → (∀ u ∈ news, u.oneCell' = true) →
    ∃ w', (storeCells ⟨g, off, none⟩ news i).run P w = .ok () w' ∧ w'.heap[g]? = some (.cells (splice vs (off + i) news).toArray t (0, 0)) ∧ Go1 w w' (some g)
  | [], vs, i, w, hg, hl, h1 => by
    refine ⟨w, rfl, ?_, Go1.refl _ _⟩
    rw [hg]
    congr 2
    have : splice vs (off + i) [] = vs := by
      apply List.ext_getElem?
      intro j
      rw [splice_get vs (off + i) [] (by simpa using hl) j]
      simp
      intro h1 h2
      omega
    rw [this]
  | v :: r, vs, i, w, hg, hl, h1 => by
    simp only [List.length_cons] at hl
    have hlt : off + i < vs.length := by omega
    have hc : w.cell? ⟨g, off + i, none⟩ = some vs[off + i] := by rw [cell_of_row w g (off + i) vs.toArray t (0, 0) hg]; simp [hlt]
    have hf : w.frozen? ⟨g, off + i, none⟩ = false := frozen_of_row w g (off + i) vs.toArray t hg
    have hg' := heap_setCell_same w g (off + i) vs.toArray t v hg
    have hg2 : (w.setCell ⟨g, off + i, none⟩ v).heap[g]? = some (.cells (vs.set (off + i) v).toArray t (0, 0)) := by rw [hg']; simp
    obtain ⟨w', hr, hh, hgo⟩ := run_storeCells_list P g off r (vs.set (off + i) v) (i + 1) _ hg2 (by simp; omega) (fun u hu => h1 u (List.mem_cons_of_mem _ hu))
    refine ⟨w', ?_, ?_, ?_⟩
    · rw [storeCells]
      simp only [Sem.run_bind, Addr.add_lit, run_store P w _ v .plain (h1 v List.mem_cons_self), hc, hf, Bool.false_eq_true, if_false, Result.andThen_ok, hr]
    · rw [hh]
      congr 3
      apply List.ext_getElem?
      intro j
      rw [splice_get _ _ _ (by simp; omega), splice_get _ _ _ (by simp; omega), List.getElem?_set]
      simp only [List.length_cons]
      by_cases hj : off + i = j
      · subst hj
        rw [if_neg (by omega), if_pos rfl, if_pos hlt, if_pos (by omega), Nat.sub_self]
        rfl
      · rw [if_neg hj]
        by_cases hc : off + (i + 1) ≤ j ∧ j < off + (i + 1) + r.length
        · rw [if_pos hc, if_pos (by omega), show j - (off + i) = (j - (off + (i + 1))) + 1 by omega, List.getElem?_cons_succ]
        · rw [if_neg hc, if_neg (by omega)]
    · exact Go1.trans (Go1.setCell w ⟨g, off + i, none⟩ v) hgo

theorem st_store_ref {t k off : Nat} {fr : Bool} {cs : List AV} {x v : Operand} {y : AV} {i : TI} (hi : i.ok P t) (ho : o.op = .store t x v) (hx : getE gl E x = some (.ref k off)) (hO : O k = some (.box fr cs)) (hv : getE gl E v = some y)
    (ht : y.isTup = false) (hown : ∀ k', y = .own k' → ∃ ob, O k' = some ob) (hsz : y.cells.length = i.size) (hfit : off + y.cells.length ≤ cs.length) : Step P gl E O o id none (.turn k (.box fr (splice cs off y.cells))) :=
  .skip fun c E' O' al nt a w σ hgl hs hid hag => by
    subst hgl
    have hm : x ∈ o.op.operands := by simp [ho, Op.operands]
    have hm2 : v ∈ o.op.operands := by simp [ho, Op.operands]
    have h1 := hs.get (hag.get hm hx)
    have h2 := hs.get (hag.get hm2 hv)
    have hO' : O' k = some (.box fr cs) := (hag.o x hm _ hx k (by simp [AV.ids])).trans hO
    have hone : ∀ k, y = .own k → (a.eval v).oneCell' = true := fun k hk => by
      obtain ⟨ob, hob⟩ := hown k hk
      have h2' := hag.o v hm2 y hv k (by subst hk; simp [AV.ids])
      rw [hob] at h2'
      subst hk
      rw [h2.toA.own_inv]
      exact (hs.own k ob h2').2.toO.one
    obtain ⟨b, hb, hva⟩ := h1.toA.ref_inv
    obtain ⟨b', t', vs, e1, hh, hl, ho1, hc⟩ := box_cells (hs.own k _ hO').2
    rw [e1] at hb
    simp [blkOf] at hb
    subst hb
    obtain ⟨us, u1, u2, u3, u4⟩ := h2.cells ht hone
    obtain ⟨w', hr, hh', hgo⟩ := run_storeCells_list P b' off us vs 0 w hh (by omega) u3
    have hbk : blkOf (σ k) = some b' := by rw [e1]; rfl
    have hturn := (hs.al_ext (al' := fun j => al j ∨ j = id) fun _ => .inl).turn (w' := w') (o' := .box fr (splice cs off y.cells)) hO' (by rw [hbk]; exact hgo) rfl (fun ok' hk => by
      intro τ hτ
      rw [e1]
      refine .box fr _ b' t' (splice vs (off + 0) us) hh' ?_ ?_ ?_
      · rw [splice_len _ _ _ (by omega), splice_len _ _ _ hfit, hl]
      · intro u hu
        obtain ⟨j, hj⟩ := List.mem_iff_getElem?.1 hu
        rw [splice_get _ _ _ (by omega)] at hj
        split at hj
        · exact u3 u (List.mem_of_getElem? hj)
        · exact ho1 u (List.mem_of_getElem? hj)
      · intro j c' u hc' hu
        rw [splice_get _ _ _ (by omega)] at hu
        rw [splice_get _ _ _ hfit] at hc'
        simp only [Nat.add_zero] at hu
        rw [u2] at hu
        split at hu
        · rename_i hjj
          rw [if_pos hjj] at hc'
          exact (((u4 _ _ _ hc' hu).ext (al' := fun j => al j ∨ j = id) (fun _ => .inl) fun _ _ => rfl) τ hτ).mono hk
        · rename_i hjj
          rw [if_neg hjj] at hc'
          exact (((hc _ _ _ hc' hu).ext (al' := fun j => al j ∨ j = id) (fun _ => .inl) fun _ _ => rfl) τ hτ).mono hk)
    refine ⟨w', σ, ?_, hturn⟩
    have hsz' : (a.eval v).cells.size = i.size := by rw [u1]; simp [u2, hsz]
    have hus : us.length = i.size := by omega
    simp [execOp, ho, hva, Instr.storeAt, Instr.sureAddr, storeVar, hi.sizeOf, u1, hus, hr]
end
end Go.Proofs.Ytopgjmoajkcdnaa
