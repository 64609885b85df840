/- ref04.Sub. -/
import Derived.Test.YtpibdbjlilpfiaaFormF
namespace Go.Proofs.Ytpibdbjlilpfiaa
set_option linter.all false
open Go Go.RowKit
open Nat (reduceEqDiff reduceAdd reduceMul reduceSub reduceLeDiff)
open Int (reduceEq reduceLT reduceLE)

@[go_sem] def lv24 : List (Nat × List Nat) := [(0, [1, 2, 4]), (1, [1, 2, 4, 5]), (2, [4])]
end Go.Proofs.Ytpibdbjlilpfiaa
