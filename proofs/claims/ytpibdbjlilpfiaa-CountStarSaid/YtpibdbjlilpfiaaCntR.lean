/- count: times (ref12). -/
import Derived.Test.YtpibdbjlilpfiaaCntQ
namespace Go.Proofs.Ytpibdbjlilpfiaa
set_option linter.all false
open Go Go.RowKit
open Nat (reduceEqDiff reduceAdd reduceMul reduceSub reduceLeDiff)
open Int (reduceEq reduceLT reduceLE)

@[go_sem] def lv57 : List (Nat × List Nat) := [(0, [1, 2, 3, 4, 5, 6]), (1, [1, 2, 3, 4, 5, 6, 13]), (2, [1, 2, 4, 5, 6, 13]), (3, [1, 2, 4, 5, 6, 13, 14]), (4, [1, 2, 4, 5, 6, 13, 14, 15]), (5, [1, 2, 4, 5, 6, 13, 14, 15, 30]), (6, [1, 2, 4, 5, 6, 13, 14, 15]), (7, [1, 2, 4, 5, 6, 13, 14, 15, 35]), (8, [1, 2, 4, 5, 6, 13, 14, 15]), (9, [1, 2, 4, 5, 6, 13, 14, 15, 41]), (10, [1, 2, 4, 5, 6, 13, 14, 15, 16]), (11, [1, 2, 4, 5, 6, 13, 14, 15, 16, 17]), (12, [1, 2, 4, 5, 6, 13, 14, 15, 16, 17, 47]), (13, [1, 2, 4, 5, 6, 13, 14, 15, 16, 17]), (14, [1, 2, 4, 5, 6, 13, 14, 15, 16, 17, 54]), (15, [1, 2, 4, 5, 6, 13, 14, 15, 16, 17, 18]), (16, [1, 2, 4, 5, 6, 13, 14, 15, 16, 17, 18]), (17, [1, 2, 4, 5, 6, 13, 14, 15, 16, 17]), (18, [1, 2, 4, 5, 6, 13, 14, 15]), (19, [12])]
end Go.Proofs.Ytpibdbjlilpfiaa
