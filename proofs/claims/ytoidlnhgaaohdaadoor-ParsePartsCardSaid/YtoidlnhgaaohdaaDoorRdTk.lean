/- How tokens are read. -/
import Derived.Test.YtoidlnhgaaohdaaDoorRead
import Derived.Test.YtoidlnhgaaohdaaDoorRowG
import Derived.Test.YtoidlnhgaaohdaaDoorParB
import Derived.SizedLaws
namespace Go.Proofs.YtoidlnhgaaohdaaDoor
set_option linter.all false
open Go Go.ChangeShapes Go.WideShapes Go.ChangeAt Go.RowKit
open Nat (reduceEqDiff reduceAdd reduceMul reduceSub reduceLeDiff)
open Int (reduceEq reduceLT reduceLE)

/-- Each text, and each slice, of what is read has at most so many bytes. -/
def Fits {H : Type} (t : TypeId) (d : DataW H) (B : Nat) : Prop := ∀ m ∈ d.weights Tryd.prog t, m ≤ B
theorem fits_all {H : Type} {e : TypeId} {d : DataW H} {l : List (DataW H)} (h : d ∈ l) {m : Nat} (hm : m ∈ d.weights Tryd.prog e) : m ∈ DataW.weightsAll Tryd.prog e l := by
  induction l with
  | nil => cases h
  | cons x r ih =>
    simp only [DataW.weightsAll, List.mem_append]
    cases List.mem_cons.1 h with
    | inl e => subst e; exact .inl hm
    | inr e => exact .inr (ih e)

section
variable {H : Type} {enc : TypeId × Value → H} {w : World} {fuel : Nat} {cs : List Value} {x : DataW H × List MemPlace}
theorem cells_int : Tryd.prog.cellsOf 3 = 1 := by kernel_rfl
theorem cells_str : Tryd.prog.cellsOf 9 = 1 := by kernel_rfl
theorem cells_u64 : Tryd.prog.cellsOf 32 = 1 := by kernel_rfl
theorem cells_cls : Tryd.prog.cellsOf 34 = 4 := by kernel_rfl
theorem cells_tok : Tryd.prog.cellsOf 36 = 9 := by kernel_rfl
theorem bytes_tok : Tryd.prog.bytesOf 36 = 80 := by kernel_rfl

set_option maxRecDepth 100000 in
theorem rd_tok (h : DataW.trod enc Tryd.prog w 0 (fun _ => true) true fuel 36 cs = some x) : ∃ n : Tk, (∀ B, Fits 36 x.1 B → n.text.size ≤ B) ∧ CellsOk w n.cells cs := by
  obtain ⟨xs, m, rfl, rfl, hl, hxl, hf⟩ := DataW.trod_struct Tryd.underlying36 h
  rw [cells_tok] at hl
  match cs, hl with
  | [v0, v1, v2, v3, v4, v5, v6, v7, v8], _ =>
  match xs, hxl with
  | [x0, x1, x2, x3, x4, x5], _ =>
  have h0 := hf 0 _ rfl
  have h1 := hf 1 _ rfl
  have h2 := hf 2 _ rfl
  have h3 := hf 3 _ rfl
  have h4 := hf 4 _ rfl
  have h5 := hf 5 _ rfl
  simp only [List.getElem_toArray, List.getElem_cons_zero, List.getElem_cons_succ, cells_int, cells_cls, cells_str, List.drop_zero, List.drop_succ_cons, List.take_succ_cons, List.take_zero, List.getElem?_cons_zero, List.getElem?_cons_succ] at h0 h1 h2 h3 h4 h5
  obtain ⟨n0, e0, rfl, _⟩ := DataW.trod_int Tryd.underlying3 h0
  obtain ⟨n1, e1, rfl, _⟩ := DataW.trod_int Tryd.underlying3 h1
  obtain ⟨ys, q, rfl, rfl, _, hyl, hg⟩ := DataW.trod_array Tryd.underlying34 h2
  obtain ⟨s, e3, rfl, hs⟩ := DataW.trod_string Tryd.underlying9 h3
  obtain ⟨n4, e4, rfl, _⟩ := DataW.trod_int Tryd.underlying3 h4
  obtain ⟨n5, e5, rfl, _⟩ := DataW.trod_int Tryd.underlying3 h5
  match ys, hyl with
  | [y0, y1, y2, y3], _ =>
  have g0 := hg 0 (by omega)
  have g1 := hg 1 (by omega)
  have g2 := hg 2 (by omega)
  have g3 := hg 3 (by omega)
  simp only [cells_u64, Nat.mul_one, Nat.zero_mul, List.drop_zero, List.drop_succ_cons, List.take_succ_cons, List.take_zero, List.getElem?_cons_zero, List.getElem?_cons_succ] at g0 g1 g2 g3
  obtain ⟨c0, a0, rfl, u0⟩ := DataW.trod_int Tryd.underlying32 g0
  obtain ⟨c1, a1, rfl, u1⟩ := DataW.trod_int Tryd.underlying32 g1
  obtain ⟨c2, a2, rfl, u2⟩ := DataW.trod_int Tryd.underlying32 g2
  obtain ⟨c3, a3, rfl, u3⟩ := DataW.trod_int Tryd.underlying32 g3
  simp only [List.cons.injEq, and_true] at e0 e1 e3 e4 e5 a0 a1 a2 a3
  subst e0 e1 e3 e4 e5 a0 a1 a2 a3
  refine ⟨⟨n0, n1, c0, c1, c2, c3, s, n4, n5⟩, ?_, rfl, fun i c v hc hv => ?_⟩
  · intro B hB
    have : s.data.toList.length = s.size := by rw [Array.length_toList]; rfl
    rw [← this]
    refine hB _ ?_
    simp [DataW.weights, Tryd.underlying36, DataW.weightsEach]
  · match i with
    | 0 | 1 | 2 | 3 | 4 | 5 | 7 | 8 => 
      simp [Tk.cells] at hc hv
      subst hc hv
      exact ⟨.int _ _, rfl⟩
    | 6 =>
      simp [Tk.cells] at hc hv
      subst hc hv
      exact ⟨.str _ hs, rfl⟩
    | i + 9 => simp [Tk.cells] at hc

set_option maxRecDepth 100000 in
theorem rd_tks (h : DataW.trod enc Tryd.prog w 0 (fun _ => true) true fuel 22 cs = some x) : ∃ (l : List Tk) (v : Value), cs = [v] ∧ Rep w (okW w) (tks l) v ∧ v.oneCell' = true ∧ ∀ B, Fits 22 x.1 B → l.length * 80 ≤ B ∧ ∀ i, (l.getD i Tk.z).text.size ≤ B := by
  obtain ⟨l, v, h1, h2, h3, h4⟩ := rd_slice Tryd.underlying22 cells_tok (by decide) Tk.cells (fun _ => rfl) (fun n d => ∀ B, Fits 36 d B → n.text.size ≤ B) rd_tok h
  refine ⟨l, v, h1, h2, h3, fun B hB => ?_⟩
  rcases h4 with ⟨rfl, e⟩ | ⟨es, sp, e, hl, hg⟩
  · exact ⟨by simp, fun i => by simp [Tk.z]⟩
  · rw [e] at hB
    have hB' : ∀ m ∈ (es.length + sp.length) * Tryd.prog.bytesOf 36 :: (DataW.weightsAll Tryd.prog 36 es ++ DataW.weightsAll Tryd.prog 36 sp), m ≤ B := fun m hm => hB m (by rw [DataW.weights, Tryd.underlying22]; exact hm)
    have b1 := hB' _ List.mem_cons_self
    rw [bytes_tok] at b1
    refine ⟨by rw [← hl]; omega, fun i => ?_⟩
    by_cases hi : i < l.length
    · have q := (hg i (l[i]) (es[i]'(by omega)) (List.getElem?_eq_getElem hi) (List.getElem?_eq_getElem (by omega))) B (fun m hm => hB' m (List.mem_cons_of_mem _ (List.mem_append_left _ (fits_all (List.getElem_mem (l := es) (n := i) (by omega)) hm))))
      rw [List.getD_eq_getElem?_getD, List.getElem?_eq_getElem hi]
      exact q
    · rw [List.getD_eq_getElem?_getD, List.getElem?_eq_none (by omega)]
      simp [Tk.z]


set_option maxRecDepth 100000 in
theorem rd_toks {base : Nat} {v : Value} {d : DataW H} {ps : List MemPlace} (hv : Value.okWide Tryd.prog w .any base 22 v) (h : DataW.Trod enc Tryd.prog w 0 (fun _ => true) true 22 v d ps) : ∃ l : List Tk, Rep w (okW w) (tks l) v ∧ ∀ B, Fits 22 d B → l.length * 80 ≤ B ∧ ∀ i, (l.getD i Tk.z).text.size ≤ B := by
  obtain ⟨fuel, h⟩ := h
  obtain ⟨l, v', e, h2, h3, h4⟩ := rd_tks h
  obtain ⟨a0, len, cap, rfl⟩ := Go.WideShapes.okWide_slice Tryd.underlying22 hv
  have hvv : Value.slice a0 len cap = v' := by
    simp [Value.cells] at e
    exact e
  subst hvv
  exact ⟨l, h2, h4⟩
end

theorem own_ok : ownKnob Tryd.prog.godebug = none := by kernel_rfl
theorem laid_ok : laidOutB Tryd.prog = true := by kernel_rfl
theorem fits_of {H : Type} {ts : List TypeId} {ds : List (DataW H)} (h : (DataW.weightsEach Tryd.prog ts ds).all (· ≤ reachBytes) = true) {j : Nat} {t : TypeId} {d : DataW H} (ht : ts[j]? = some t) (hd : ds[j]? = some d) : Fits t d 140737488355328 := fun m hm => by
  have h1 := List.all_eq_true.1 h _ (DataW.weights_mem_each ht hd m hm)
  have h2 := reachBytes_lt
  simp only [decide_eq_true_eq] at h1
  omega
end Go.Proofs.YtoidlnhgaaohdaaDoor
