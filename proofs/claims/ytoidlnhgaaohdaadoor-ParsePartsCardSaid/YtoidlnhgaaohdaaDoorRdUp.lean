/- What the rows' list gives: utf8's tables. -/
import Derived.Test.YtoidlnhgaaohdaaDoorRdTk
import Derived.Test.YtoidlnhgaaohdaaDoorNodeA
import Derived.Deep.DeepHandedRow
import Derived.Lib.LaidIn
namespace Go.Proofs.YtoidlnhgaaohdaaDoor
set_option linter.all false
open Go Go.ChangeShapes Go.WideShapes Go.ChangeAt Go.RowKit
open Nat (reduceEqDiff reduceAdd reduceMul reduceSub reduceLeDiff)
open Int (reduceEq reduceLT reduceLE)

theorem ut_first_eq : Rows.laid_unicode_utf8_first = Lib.firstData := by kernel_rfl
theorem ut_acc_eq : (Rows.laid_unicode_utf8_acceptRanges : DataW Unit) = Lib.acceptData := by kernel_rfl
def utR : Shelf.Ren := ⟨fun x => x, fun n => if n = 5 then 5 else if n = 119 then 108 else if n = 138 then 111 else 112, fun n => if n = 3 then 0 else 1⟩
theorem ut_types : U8Types Tryd.prog utR := ⟨by kernel_rfl, by kernel_rfl, by kernel_rfl, by kernel_rfl⟩
theorem ut_extra : U8Extra Tryd.prog utR := ⟨by kernel_rfl, by kernel_rfl, by kernel_rfl, by kernel_rfl, by kernel_rfl, by kernel_rfl, by kernel_rfl⟩
theorem cell_lt {W : World} {g i : Nat} {v : Value} (h : W.cell? ⟨g, i, none⟩ = some v) : g < W.heap.size := by
  unfold World.cell? at h
  split at h
  · rename_i hh
    exact (Array.getElem?_eq_some_iff.1 hh).1
  · cases h
theorem glob_laid {W : World} (h : laidMetH Tryd.prog [("unicode/utf8.acceptRanges", Rows.laid_unicode_utf8_acceptRanges), ("unicode/utf8.first", Rows.laid_unicode_utf8_first)] W) : Glob glU W (okW W) := by
  have h' : laidMet Tryd.prog [("unicode/utf8.acceptRanges", Rows.laid_unicode_utf8_acceptRanges), ("unicode/utf8.first", Rows.laid_unicode_utf8_first)] W := h
  have r4 := Lib.laidMet.reads h' (.head _)
  have r3 := Lib.laidMet.reads h' (.tail _ (.head _))
  rw [ut_acc_eq] at r4
  rw [ut_first_eq] at r3
  have ht : Lib.Utf8Tabs 0 1 W := utf8Tabs_of_readsT ut_types ut_extra r3 r4
  exact glob_of ht (cell_lt (ht.1 0 (by decide))) (cell_lt (ht.2 0 (by decide)).1)

/-- A world for the witness. -/
noncomputable def laidWorld (os : Os) : World :=
  let w0 := World.holding Tryd.prog os ⟨#[], #[], []⟩
  let put (h : Array Obj) (g : Nat) (cs : Array Value) : Array Obj := h.modify g fun
    | .cells _ t frozen => .cells cs t frozen
    | o => o
  let h1 := put w0.heap 0 (Lib.firstTab.map fun z => Value.int .u8 z).toArray
  let h2 := put h1 1 ((List.range 16).flatMap fun i => [Value.int .u8 (Lib.accLo i), Value.int .u8 (Lib.accHi i)]).toArray
  { w0 with heap := h2 }
end Go.Proofs.YtoidlnhgaaohdaaDoor
