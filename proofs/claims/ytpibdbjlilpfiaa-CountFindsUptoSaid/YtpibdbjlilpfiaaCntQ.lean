/- count: through (ref12). -/
import Derived.Test.YtpibdbjlilpfiaaCntP
namespace Go.Proofs.Ytpibdbjlilpfiaa
set_option linter.all false
open Go Go.RowKit
open Nat renaming reduceEqDiff → Y1, reduceAdd → Y2, reduceMul → Y3, reduceSub → Y4, reduceLeDiff → Y5
open Int renaming reduceEq → Y6, reduceLT → Y7, reduceLE → Y8
open _root_ renaming reduceIte → Y0, reduceCtorEq → Y9

@[go_sem] def lv55 : List (Nat × List Nat) := [(0, [1, 2, 3, 4]), (1, [1, 2, 3, 4, 9]), (2, [1, 2, 3, 4, 9, 10]), (3, [1, 2, 3, 4, 9, 10, 16]), (4, [1, 2, 3, 4, 9, 10]), (5, [1, 2, 3, 4, 9, 10, 23]), (6, [1, 2, 3, 4, 9, 10]), (7, [8])]
end Go.Proofs.Ytpibdbjlilpfiaa
