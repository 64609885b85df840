/- How forests, and rows of numbers, are read. -/
import Derived.Test.YtopgjmoajkcdnaaRdNd
import Derived.Test.YtopgjmoajkcdnaaJoinP
namespace Go.Proofs.Ytopgjmoajkcdnaa
set_option linter.all false
open Go Go.RowKit

section
variable {H : Type} {enc : TypeId × Value → H} {w : World} {fuel : Nat} {cs : List Value} {x : DataW H × List MemPlace}
theorem bytes_int : Try.prog.bytesOf 3 = 8 := by kernel_rfl
theorem cells_ints : Try.prog.cellsOf 43 = 1 := by kernel_rfl
theorem cells_forest : Try.prog.cellsOf 45 = 1 := by kernel_rfl

theorem rd_int1 {t : Nat} {k : IntKind} (hu : Try.prog.underlying t = some (.int k)) (h : DataW.trod enc Try.prog w 0 (fun _ => true) true fuel t cs = some x) : ∃ n : Int, (Lit.int k n).wf = true ∧ CellsOk w [D.int k n] cs := by
  obtain ⟨n, rfl, e, hw⟩ := DataW.trod_int hu h
  exact ⟨n, hw, cells_one (.int _ _) rfl⟩
theorem rd_ints (h : DataW.trod enc Try.prog w 0 (fun _ => true) true fuel 43 cs = some x) : ∃ (l : List Int) (v : Value), cs = [v] ∧ Rep w (okW w) (ints l) v ∧ v.oneCell' = true ∧ ∀ B, Fits 43 x.1 B → l.length * 8 ≤ B := by
  obtain ⟨l, v, h1, h2, h3, h4⟩ := rd_slice Try.underlying43 cells_int (by decide) (fun n : Int => [D.int .i64 n]) (fun _ => rfl) (fun n d => True) (fun h => by
    obtain ⟨n, _, hc⟩ := rd_int1 Try.underlying3 h
    exact ⟨n, trivial, hc⟩) h
  refine ⟨l, v, h1, h2, h3, fun B hB => ?_⟩
  rcases h4 with ⟨rfl, e⟩ | ⟨es, sp, e, hl, hg⟩
  · simp
  · rw [e] at hB
    have b1 := hB ((es.length + sp.length) * Try.prog.bytesOf 3) (by simp [DataW.weights, Try.underlying43])
    rw [bytes_int] at b1
    rw [← hl]
    omega
/-- A forest, as it is handed in. -/
theorem rd_forest {base : Nat} {v : Value} {d : DataW H} {ps : List MemPlace} (hv : Value.okWide Try.prog w .any base 45 v) (h : DataW.Trod enc Try.prog w 0 (fun _ => true) true 45 v d ps) : ∃ l : List Int, Rep w (okW w) (frs l) v ∧ ∀ B, Fits 45 d B → l.length * 8 ≤ B := by
  unfold Value.okWide at hv
  rw [Try.underlying45] at hv
  obtain ⟨cs, rfl, hcs, _⟩ := hv
  obtain ⟨fuel, h⟩ := h
  obtain ⟨xs, m, rfl, e, hl, hxl, hf⟩ := DataW.trod_struct Try.underlying45 h
  injection e with e1 e2
  subst e1
  match xs, hxl with
  | [x0], _ =>
  have h0 := hf 0 _ rfl
  rw [cells_forest] at hl
  simp only [Value.cells] at hl h0
  obtain ⟨v, hv⟩ : ∃ v, cs.toList = [v] := List.length_eq_one_iff.1 hl
  simp only [List.getElem_toArray, List.getElem_cons_zero, List.getElem_cons_succ, hv, cells_ints, List.drop_zero, List.take_succ_cons, List.take_zero, List.getElem?_cons_zero] at h0
  obtain ⟨l, v', e, h2, h3, h4⟩ := rd_ints h0
  injection e with e _
  subst e
  have hcs' : cs = [v].toArray := by rw [← hv]
  refine ⟨l, ?_, fun B hB => h4 B fun m hm => hB m ?_⟩
  · rw [hcs']
    refine .agg [ints l] [v] rfl (fun i c u hc hu => ?_) (fun u hu => by simp at hu; subst hu; exact h3)
    cases i with
    | zero => simp at hc hu; subst hc; subst hu; exact h2
    | succ i => simp at hc
  · simpa [DataW.weights, Try.underlying45, DataW.weightsEach] using hm

/-- A row of small numbers, as it is handed in. -/
theorem rd_u16s {base : Nat} {v : Value} {d : DataW H} {ps : List MemPlace} (hv : Value.okWide Try.prog w .any base 54 v) (h : DataW.Trod enc Try.prog w 0 (fun _ => true) true 54 v d ps) : ∃ l : List Int, Rep w (okW w) (.slice (l.map fun x => [D.int .u16 x])) v ∧ ∀ B, Fits 54 d B → l.length ≤ B ∧ ∀ i, 0 ≤ l.getD i 0 ∧ l.getD i 0 ≤ 65535 := by
  obtain ⟨fuel, h⟩ := h
  have hc1 : Try.prog.cellsOf 25 = 1 := by kernel_rfl
  have hb1 : Try.prog.bytesOf 25 = 2 := by kernel_rfl
  obtain ⟨l, v', h1, h2, h3, h4⟩ := rd_slice Try.underlying54 hc1 (by decide) (fun n : Int => [D.int .u16 n]) (fun _ => rfl) (fun n d => 0 ≤ n ∧ n ≤ 65535) (fun h => by
    obtain ⟨n, hw, hc⟩ := rd_int1 Try.underlying25 h
    exact ⟨n, by simpa [Lit.wf, IntKind.min, IntKind.max, IntKind.signed, IntKind.bits] using hw, hc⟩) h
  obtain ⟨a0, len, cap, rfl⟩ := Go.WideShapes.okWide_slice Try.underlying54 hv
  have hvv : Value.slice a0 len cap = v' := by
    simp [Value.cells] at h1
    exact h1
  subst hvv
  refine ⟨l, h2, fun B hB => ?_⟩
  rcases h4 with ⟨rfl, e⟩ | ⟨es, sp, e, hl, hg⟩
  · simp
  · simp only at e
    rw [e] at hB
    have b1 := hB ((es.length + sp.length) * Try.prog.bytesOf 25) (by simp [DataW.weights, Try.underlying54])
    rw [hb1] at b1
    refine ⟨by rw [← hl]; omega, fun i => ?_⟩
    by_cases hi : i < l.length
    · have q := hg i (l[i]) (es[i]'(by omega)) (List.getElem?_eq_getElem hi) (List.getElem?_eq_getElem (by omega))
      rw [List.getD_eq_getElem?_getD, List.getElem?_eq_getElem hi]
      exact q
    · rw [List.getD_eq_getElem?_getD, List.getElem?_eq_none (by omega)]
      simp
end
end Go.Proofs.Ytopgjmoajkcdnaa
