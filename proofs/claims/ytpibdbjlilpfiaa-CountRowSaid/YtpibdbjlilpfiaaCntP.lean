/- count: zero, plus (ref12). -/
import Derived.Test.YtpibdbjlilpfiaaCntO
import Derived.Test.YtpibdbjlilpfiaaCntJ
namespace Go.Proofs.Ytpibdbjlilpfiaa
set_option linter.all false
open Go Go.RowKit
open Nat (reduceEqDiff reduceAdd reduceMul reduceSub reduceLeDiff)
open Int (reduceEq reduceLT reduceLE)

def natC (n : Nat) : List D := [.int .i64 n]
attribute [go_sem] natC
@[go_sem] def lv54 : List (Nat × List Nat) := [(0, [0]), (1, [2])]
@[go_sem] def lv56 : List (Nat × List Nat) := [(0, [0, 1, 2]), (1, [1, 2, 7]), (2, [1, 2, 7, 8]), (3, [1, 2, 7, 8, 15]), (4, [1, 2, 7, 8]), (5, [1, 2, 7, 8]), (6, [6])]
end Go.Proofs.Ytpibdbjlilpfiaa
