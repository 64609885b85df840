/- Values: frame, gather, kids. -/
import Derived.Test.YtpibdbjlilpfiaaValC
namespace Go.Proofs.Ytpibdbjlilpfiaa
set_option linter.all false
open Go Go.RowKit
open Nat (reduceEqDiff reduceAdd reduceMul reduceSub reduceLeDiff)
open Int (reduceEq reduceLT reduceLE)

/-- A word, or none. -/
def resW (o : Option (List UInt8)) : D := .tup [bys (o.getD []), .bool o.isSome]
attribute [go_sem] resW
def gathI (f : Nat → Vl → Option (List UInt8)) (full : Bool) : Nat → List Vl → Option (List UInt8)
  | _, [] => some []
  | i, x :: r => match f i x with
    | none => none
    | some p => if full && p.isEmpty then none else match gathI f full (i + 1) r with
      | none => none
      | some q => some (p ++ q)
theorem gathI_const {f : Vl → Option (List UInt8)} {full : Bool} : ∀ {l : List Vl} {i : Nat}, gathI (fun _ => f) full i l = gath f full l
  | [], _ => rfl
  | x :: r, i => by
    rw [gathI, gath]
    cases f x with
    | none => rfl
    | some p =>
      simp only [gathI_const]
      split
      · rfl
      · cases gath f full r <;> rfl
/-- What a frame writes. -/
def frW (most : Int) (o : Option (List UInt8)) : Option (List UInt8) := match o with
  | none => none
  | some p => if (p.length : Int) ≤ most then some (if 255 < most then byteOf (p.length / 256 : Nat) :: byteOf (p.length % 256 : Nat) :: p else byteOf p.length :: p) else none
@[go_sem] def lv50 : List (Nat × List Nat) := [(0, [0, 1, 2]), (1, [0, 2, 16]), (2, [6, 7]), (3, [0, 2, 8]), (4, [0, 8, 22]), (5, [0, 8]), (6, [6, 7])]
@[go_sem] def lv59 : List (Nat × List Nat) := [(0, [0, 1]), (1, [0, 1, 6]), (2, [1, 6, 11, 12, 13]), (3, [1, 6, 11, 12, 13, 14]), (4, [1, 6, 7, 8, 11, 12, 13]), (5, [1, 6, 9, 10, 11, 12, 13]), (6, [1, 6, 9, 11, 12, 13, 26]), (7, [4, 5]), (8, [1, 6, 11, 12, 13]), (9, [1, 6, 11, 12, 13]), (10, [4, 5])]
@[go_sem] def lv60 : List (Nat × List Nat) := [(0, [0, 2, 3, 4, 6]), (1, [4, 9, 10]), (2, [7, 8])]
@[go_sem] def lv49 : List (Nat × List Nat) := [(0, [4, 5, 6, 7]), (1, [8, 9])]
end Go.Proofs.Ytpibdbjlilpfiaa
