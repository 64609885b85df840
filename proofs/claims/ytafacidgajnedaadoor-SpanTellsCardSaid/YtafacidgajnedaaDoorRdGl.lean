/- What the rows' list gives: span.nothing's cells. -/
import Derived.Test.YtafacidgajnedaaDoorRowS
import Derived.Test.YtafacidgajnedaaDoorSpanA
import Derived.Deep.DeepHandedRow
import Derived.Lib.LaidTab
namespace Go.Proofs.YtafacidgajnedaaDoor
set_option linter.all false
open Go Go.ChangeShapes Go.WideShapes Go.ChangeAt Go.RowKit
open Nat (reduceEqDiff reduceAdd reduceMul reduceSub reduceLeDiff)
open Int (reduceEq reduceLT reduceLE)

theorem g_nothing : Tryd.prog.globalNamed "scantling/span.nothing" = some 0 := by kernel_rfl
theorem g_type : (Tryd.prog.globals[0]?).map (·.type) = some 47 := by kernel_rfl
theorem cells_span : Tryd.prog.cellsOf 47 = 2 := by kernel_rfl
theorem cells_of_span {H : Type} {enc : TypeId × Value → H} {w : World} {base : Nat} {sp : Nat → Bool} {held : Bool} {fuel : Nat} {cs : List Value} {p : List MemPlace} (h : DataW.trod enc Tryd.prog w base sp held fuel 47 cs = some (Rows.laid_scantling_span_nothing, p)) : cs = [.int .i64 (-1), .int .i64 (-1)] := by
  obtain ⟨xs, m, rfl, e, hl, hxl, hf⟩ := DataW.trod_struct Tryd.underlying47 h
  rw [cells_span] at hl
  match cs, hl with
  | [v0, v1], _ =>
  match xs, hxl with
  | [x0, x1], _ =>
  have h0 := hf 0 _ rfl
  have h1 := hf 1 _ rfl
  simp only [List.getElem_toArray, List.getElem_cons_zero, List.getElem_cons_succ, cells_int, List.drop_zero, List.drop_succ_cons, List.take_succ_cons, List.take_zero, List.getElem?_cons_zero, List.getElem?_cons_succ] at h0 h1
  obtain ⟨n0, e0, rfl, _⟩ := DataW.trod_int Tryd.underlying3 h0
  obtain ⟨n1, e1, rfl, _⟩ := DataW.trod_int Tryd.underlying3 h1
  simp only [List.cons.injEq, and_true] at e0 e1
  subst e0 e1
  have e2 := congrArg Prod.fst e
  simp only [Rows.laid_scantling_span_nothing, List.map_cons, List.map_nil, DataW.agg.injEq, List.cons.injEq, DataW.lit.injEq, Lit.int.injEq, true_and, and_true] at e2
  rw [← e2.1, ← e2.2]
theorem glob_laid {W : World} (h : laidMetH Tryd.prog [("scantling/span.nothing", Rows.laid_scantling_span_nothing)] W) : Glob glS W (okW W) := by
  have h' : laidMet Tryd.prog [("scantling/span.nothing", Rows.laid_scantling_span_nothing)] W := h
  obtain ⟨ps, ⟨g', t', cs, fuel, p, q, hg', ht', hvar, hd, _, _⟩, _⟩ := h'
  obtain rfl := Option.some.inj (g_nothing.symm.trans hg')
  obtain rfl := Option.some.inj (g_type.symm.trans ht')
  have hc := cells_of_span hd
  have hcell : ∀ i, i < 2 → W.cell? ⟨0, i, none⟩ = some (.int .i64 (-1)) := fun i hi => by
    rw [World.var?_cell g_nothing hvar i]
    have : cs = [Value.int .i64 (-1), .int .i64 (-1)].toArray := by rw [← hc]
    subst this
    match i, hi with
    | 0, _ => rfl
    | 1, _ => rfl
  have hblk : 0 < W.heap.size := by
    have := hcell 0 (by omega)
    unfold World.cell? at this
    split at this
    · rename_i hh
      exact (Array.getElem?_eq_some_iff.1 hh).1
    · cases this
  intro g ds hg
  obtain ⟨rfl, rfl⟩ : g = 0 ∧ ds = [.int .i64 (-1), .int .i64 (-1)] := by
    simp only [glS, look] at hg
    split at hg
    · rename_i e
      exact ⟨by simpa using e.symm, by simpa using hg.symm⟩
    · cases hg
  refine .addr _ 0 0 (fun _ => .int .i64 (-1)) hblk (fun i hi => by rw [Nat.zero_add]; exact hcell i (by simpa using hi)) (fun _ => rfl) (fun i c hc => ?_)
  match i with
  | 0 | 1 => simp at hc; subst hc; exact .int _ _
  | i + 2 => simp at hc

/-- A world for the witness. -/
noncomputable def laidWorld (os : Os) : World :=
  { World.holding Tryd.prog os ⟨#[], #[], []⟩ with heap := (World.holding Tryd.prog os ⟨#[], #[], []⟩).heap.modify 0 fun
      | .cells _ t frozen => .cells #[.int .i64 (-1), .int .i64 (-1)] t frozen
      | o => o }
end Go.Proofs.YtafacidgajnedaaDoor
