/- count: through (ref12). -/
import Derived.Test.YtpibdbjlilpfiaaCntP
namespace Go.Proofs.Ytpibdbjlilpfiaa
set_option linter.all false
open Go Go.RowKit
open Nat (reduceEqDiff reduceAdd reduceMul reduceSub reduceLeDiff)
open Int (reduceEq reduceLT reduceLE)

@[go_sem] def lv55 : List (Nat × List Nat) := [(0, [1, 2, 3, 4]), (1, [1, 2, 3, 4, 9]), (2, [1, 2, 3, 4, 9, 10]), (3, [1, 2, 3, 4, 9, 10, 16]), (4, [1, 2, 3, 4, 9, 10]), (5, [1, 2, 3, 4, 9, 10, 23]), (6, [1, 2, 3, 4, 9, 10]), (7, [8])]
end Go.Proofs.Ytpibdbjlilpfiaa
