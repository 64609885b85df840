/- How descriptions are read. -/
import Derived.Test.YtpibdbjlilpfiaaRead
import Derived.Test.YtpibdbjlilpfiaaSpec
import Derived.Test.YtpibdbjlilpfiaaRows
namespace Go.Proofs.Ytpibdbjlilpfiaa
set_option linter.all false
open Go Go.RowKit
open Nat (reduceEqDiff reduceAdd reduceMul reduceSub reduceLeDiff)
open Int (reduceEq reduceLT reduceLE)

/-- Each text, and each slice, of what is read has at most so many bytes. -/
def Fits {H : Type} (t : TypeId) (d : DataW H) (B : Nat) : Prop := ∀ m ∈ d.weights Try.prog t, m ≤ B
theorem fits_all {H : Type} {e : TypeId} {d : DataW H} {l : List (DataW H)} (h : d ∈ l) {m : Nat} (hm : m ∈ d.weights Try.prog e) : m ∈ DataW.weightsAll Try.prog e l := by
  induction l with
  | nil => cases h
  | cons x r ih =>
    simp only [DataW.weightsAll, List.mem_append]
    cases List.mem_cons.1 h with
    | inl e => subst e; exact .inl hm
    | inr e => exact .inr (ih e)

section
variable {H : Type} {enc : TypeId × Value → H} {w : World} {fuel : Nat} {cs : List Value} {x : DataW H × List MemPlace}
theorem cells_int : Try.prog.cellsOf 3 = 1 := by kernel_rfl
theorem cells_str : Try.prog.cellsOf 9 = 1 := by kernel_rfl
theorem cells_u64 : Try.prog.cellsOf 40 = 1 := by kernel_rfl
theorem cells_cls : Try.prog.cellsOf 42 = 4 := by kernel_rfl
theorem cells_node : Try.prog.cellsOf 44 = 10 := by kernel_rfl
theorem bytes_node : Try.prog.bytesOf 44 = 88 := by kernel_rfl
theorem cells_nds : Try.prog.cellsOf 22 = 1 := by kernel_rfl
theorem cells_desc : Try.prog.cellsOf 24 = 1 := by kernel_rfl

set_option maxRecDepth 100000 in
theorem rd_node (h : DataW.trod enc Try.prog w 0 (fun _ => true) true fuel 44 cs = some x) : ∃ n : Nd, (n.cok ∧ ∀ B, Fits 44 x.1 B → n.text.size ≤ B) ∧ CellsOk w n.cells cs := by
  obtain ⟨xs, m, rfl, rfl, hl, hxl, hf⟩ := DataW.trod_struct Try.underlying44 h
  rw [cells_node] at hl
  match cs, hl with
  | [v0, v1, v2, v3, v4, v5, v6, v7, v8, v9], _ =>
  match xs, hxl with
  | [x0, x1, x2, x3, x4, x5, x6], _ =>
  have h0 := hf 0 _ rfl
  have h1 := hf 1 _ rfl
  have h2 := hf 2 _ rfl
  have h3 := hf 3 _ rfl
  have h4 := hf 4 _ rfl
  have h5 := hf 5 _ rfl
  have h6 := hf 6 _ rfl
  simp only [List.getElem_toArray, List.getElem_cons_zero, List.getElem_cons_succ, cells_int, cells_cls, cells_str, List.drop_zero, List.drop_succ_cons, List.take_succ_cons, List.take_zero, List.getElem?_cons_zero, List.getElem?_cons_succ] at h0 h1 h2 h3 h4 h5 h6
  obtain ⟨n0, e0, rfl, _⟩ := DataW.trod_int Try.underlying3 h0
  obtain ⟨n1, e1, rfl, _⟩ := DataW.trod_int Try.underlying3 h1
  obtain ⟨n2, e2, rfl, _⟩ := DataW.trod_int Try.underlying3 h2
  obtain ⟨n3, e3, rfl, _⟩ := DataW.trod_int Try.underlying3 h3
  obtain ⟨n4, e4, rfl, _⟩ := DataW.trod_int Try.underlying3 h4
  obtain ⟨s, e6, rfl, hs⟩ := DataW.trod_string Try.underlying9 h6
  obtain ⟨ys, q, rfl, rfl, _, hyl, hg⟩ := DataW.trod_array Try.underlying42 h5
  match ys, hyl with
  | [y0, y1, y2, y3], _ =>
  have g0 := hg 0 (by omega)
  have g1 := hg 1 (by omega)
  have g2 := hg 2 (by omega)
  have g3 := hg 3 (by omega)
  simp only [cells_u64, Nat.mul_one, Nat.zero_mul, List.drop_zero, List.drop_succ_cons, List.take_succ_cons, List.take_zero, List.getElem?_cons_zero, List.getElem?_cons_succ] at g0 g1 g2 g3
  obtain ⟨c0, a0, rfl, u0⟩ := DataW.trod_int Try.underlying40 g0
  obtain ⟨c1, a1, rfl, u1⟩ := DataW.trod_int Try.underlying40 g1
  obtain ⟨c2, a2, rfl, u2⟩ := DataW.trod_int Try.underlying40 g2
  obtain ⟨c3, a3, rfl, u3⟩ := DataW.trod_int Try.underlying40 g3
  simp only [List.cons.injEq, and_true] at e0 e1 e2 e3 e4 e6 a0 a1 a2 a3
  subst e0 e1 e2 e3 e4 e6 a0 a1 a2 a3
  have wf : ∀ {c : Int}, (Lit.int .u64 c).wf = true → 0 ≤ c ∧ c < 18446744073709551616 := fun {c} h => by
    have : 0 ≤ c ∧ c ≤ 18446744073709551615 := by simpa [Lit.wf, IntKind.min, IntKind.max, IntKind.signed, IntKind.bits] using h
    omega
  refine ⟨⟨n0, n1, n2, n3, n4, c0, c1, c2, c3, s⟩, ⟨⟨wf u0, wf u1, wf u2, wf u3⟩, ?_⟩, rfl, fun i c v hc hv => ?_⟩
  · intro B hB
    have : s.data.toList.length = s.size := by rw [Array.length_toList]; rfl
    rw [← this]
    refine hB _ ?_
    simp [DataW.weights, Try.underlying44, DataW.weightsEach]
  · match i with
    | 0 | 1 | 2 | 3 | 4 | 5 | 6 | 7 | 8 => 
      simp [Nd.cells] at hc hv
      subst hc hv
      exact ⟨.int _ _, rfl⟩
    | 9 =>
      simp [Nd.cells] at hc hv
      subst hc hv
      exact ⟨.str _ hs, rfl⟩
    | i + 10 => simp [Nd.cells] at hc

theorem rd_nds (h : DataW.trod enc Try.prog w 0 (fun _ => true) true fuel 22 cs = some x) : ∃ (l : List Nd) (v : Value), cs = [v] ∧ Rep w (okW w) (nds l) v ∧ v.oneCell' = true ∧ (∀ i, (l.getD i Nd.z).cok) ∧ ∀ B, Fits 22 x.1 B → l.length * 88 ≤ B ∧ ∀ i, (l.getD i Nd.z).text.size ≤ B := by
  obtain ⟨l, v, h1, h2, h3, h4⟩ := rd_slice Try.underlying22 cells_node (by decide) Nd.cells (fun _ => rfl) (fun n d => n.cok ∧ ∀ B, Fits 44 d B → n.text.size ≤ B) rd_node h
  have zc : Nd.z.cok := ⟨by decide, by decide, by decide, by decide⟩
  refine ⟨l, v, h1, h2, h3, fun i => ?_, fun B hB => ?_⟩
  · rcases h4 with ⟨rfl, e⟩ | ⟨es, sp, e, hl, hg⟩
    · simpa using zc
    · by_cases hi : i < l.length
      · rw [List.getD_eq_getElem?_getD, List.getElem?_eq_getElem hi]
        exact (hg i (l[i]) (es[i]'(by omega)) (List.getElem?_eq_getElem hi) (List.getElem?_eq_getElem (by omega))).1
      · rw [List.getD_eq_getElem?_getD, List.getElem?_eq_none (by omega)]
        exact zc
  rcases h4 with ⟨rfl, e⟩ | ⟨es, sp, e, hl, hg⟩
  · exact ⟨by simp, fun i => by simp [Nd.z]⟩
  · rw [e] at hB
    have hB' : ∀ m ∈ (es.length + sp.length) * Try.prog.bytesOf 44 :: (DataW.weightsAll Try.prog 44 es ++ DataW.weightsAll Try.prog 44 sp), m ≤ B := fun m hm => hB m (by simpa [DataW.weights, Try.underlying22] using hm)
    have b1 := hB' _ List.mem_cons_self
    rw [bytes_node] at b1
    refine ⟨by rw [← hl]; omega, fun i => ?_⟩
    by_cases hi : i < l.length
    · have q := (hg i (l[i]) (es[i]'(by omega)) (List.getElem?_eq_getElem hi) (List.getElem?_eq_getElem (by omega))).2 B (fun m hm => hB' m (List.mem_cons_of_mem _ (List.mem_append_left _ (fits_all (List.getElem_mem (l := es) (n := i) (by omega)) hm))))
      rw [List.getD_eq_getElem?_getD, List.getElem?_eq_getElem hi]
      exact q
    · rw [List.getD_eq_getElem?_getD, List.getElem?_eq_none (by omega)]
      simp [Nd.z]

/-- A description, as it is handed in. -/
theorem rd_descC {base : Nat} {v : Value} {d : DataW H} {ps : List MemPlace} (hv : Value.okWide Try.prog w .any base 24 v) (h : DataW.Trod enc Try.prog w 0 (fun _ => true) true 24 v d ps) : ∃ l : List Nd, Rep w (okW w) (desc l) v ∧ (∀ i, (l.getD i Nd.z).cok) ∧ ∀ B, Fits 24 d B → l.length * 88 ≤ B ∧ ∀ i, (l.getD i Nd.z).text.size ≤ B := by
  unfold Value.okWide at hv
  rw [Try.underlying24] at hv
  obtain ⟨cs, rfl, hcs, _⟩ := hv
  obtain ⟨fuel, h⟩ := h
  obtain ⟨xs, m, rfl, e, hl, hxl, hf⟩ := DataW.trod_struct Try.underlying24 h
  injection e with e1 e2
  subst e1
  match xs, hxl with
  | [x0], _ =>
  have h0 := hf 0 _ rfl
  rw [cells_desc] at hl
  simp only [Value.cells] at hl h0
  obtain ⟨v, hv⟩ : ∃ v, cs.toList = [v] := List.length_eq_one_iff.1 hl
  simp only [List.getElem_toArray, List.getElem_cons_zero, List.getElem_cons_succ, hv, cells_nds, List.drop_zero, List.take_succ_cons, List.take_zero, List.getElem?_cons_zero] at h0
  obtain ⟨l, v', e, h2, h3, h4c, h4⟩ := rd_nds h0
  injection e with e _
  subst e
  have hcs' : cs = [v].toArray := by rw [← hv]
  refine ⟨l, ?_, h4c, fun B hB => h4 B fun m hm => hB m ?_⟩
  · rw [hcs']
    refine .agg [nds l] [v] rfl (fun i c u hc hu => ?_) (fun u hu => by simp at hu; subst hu; exact h3)
    cases i with
    | zero => simp at hc hu; subst hc; subst hu; exact h2
    | succ i => simp at hc
  · simpa [DataW.weights, Try.underlying24, DataW.weightsEach] using hm
theorem rd_desc {base : Nat} {v : Value} {d : DataW H} {ps : List MemPlace} (hv : Value.okWide Try.prog w .any base 24 v) (h : DataW.Trod enc Try.prog w 0 (fun _ => true) true 24 v d ps) : ∃ l : List Nd, Rep w (okW w) (desc l) v ∧ ∀ B, Fits 24 d B → l.length * 88 ≤ B ∧ ∀ i, (l.getD i Nd.z).text.size ≤ B := by
  obtain ⟨l, h1, _, h2⟩ := rd_descC hv h
  exact ⟨l, h1, h2⟩
end
end Go.Proofs.Ytpibdbjlilpfiaa
