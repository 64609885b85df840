/- count: ends (ref12), of each kind (printed by wip/gen/cnts.py). -/
import Derived.Test.YtpibdbjlilpfiaaCntR
import Derived.Test.YtpibdbjlilpfiaaValB
namespace Go.Proofs.Ytpibdbjlilpfiaa
set_option linter.all false
open Go Go.RowKit
open Nat (reduceEqDiff reduceAdd reduceMul reduceSub reduceLeDiff)
open Int (reduceEq reduceLT reduceLE)

@[go_sem] def lv44 : List (Nat × List Nat) := [(0, [1, 2, 3, 4]), (1, [2, 3, 4, 9]), (2, [2, 3, 4, 9, 10]), (3, [2, 3, 4, 9, 10, 21]), (4, [2, 3, 4, 9, 10, 21, 22]), (5, [10]), (6, [2, 3, 4, 9, 10, 21, 27]), (7, [3, 10, 41]), (8, [10]), (9, [2, 3, 4, 9, 10, 21, 46]), (10, [3, 9, 10, 69]), (11, [10]), (12, [2, 3, 4, 9, 10, 21, 77]), (13, [8]), (14, [2, 3, 4, 9, 10, 21, 90]), (15, [8]), (16, [2, 3, 4, 9, 10, 21, 105]), (17, [8]), (18, [2, 3, 4, 9, 10, 21, 113]), (19, [8]), (20, [2, 3, 4, 9, 10, 21, 125]), (21, [2, 3, 4, 9, 10, 130]), (22, [2, 3, 4, 9, 10, 11]), (23, [2, 3, 4, 9, 10, 11, 142]), (24, [10]), (25, [2, 3, 4, 9, 10, 158]), (26, [2, 3, 4, 9, 10, 164]), (27, [2, 3, 4, 9, 10, 12]), (28, [2, 3, 4, 9, 10, 12, 184]), (29, [10]), (30, [8])]
end Go.Proofs.Ytpibdbjlilpfiaa
