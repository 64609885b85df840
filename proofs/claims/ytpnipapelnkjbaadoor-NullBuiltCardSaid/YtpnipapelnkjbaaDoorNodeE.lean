/- node.Form, First: walks. -/
import Derived.Test.YtpnipapelnkjbaaDoorNodeD
namespace Go.Proofs.YtpnipapelnkjbaaDoor
set_option linter.all false
open Go Go.RowKit
open Nat (reduceEqDiff reduceAdd reduceMul reduceSub reduceLeDiff)
open Int (reduceEq reduceLT reduceLE)

def frs (l : List Nd) : List Int := (firstsF l (l.length + 1) 0 [] []).1
def frOk (l : List Nd) : Bool := (firstsF l (l.length + 1) 0 [] []).2
@[go_sem] def lv25 : List (Nat × List Nat) := [(0, [1]), (1, [4]), (2, [2])]
def bs25 : List (Nat × List Nat × List Nat) := []
theorem c_nform {l : List Nd} (hl : l.length ≤ 1048576) (htx : ∀ i, (l.getD i Nd.z).text.size ≤ 1048576) : PCon Tryd.prog glU 25 [desc l] (.bool (frOk l)) := by
  have h := c_firsts hl htx
  refine PCon.enter tb_ok (fn := Tryd.f25) (by kernel_rfl) (by kernel_rfl) rfl (by show 1 ≤ 11; decide) ?_
  repeat' first | refine Z1 fun _ _ => ?_ | refine Z2 ‹_› ?_ | ((first | refine Z3 tb_ok lv25 rfl ?_ | refine ret_eq rfl ?_); simp only [↓reduceIte, reduceCtorEq, reduceEqDiff, reduceAdd, reduceMul, reduceSub, reduceLeDiff, reduceEq, reduceLT, reduceLE, go_sem]) | refine Z8 ?_ | refine Zc ‹_› trivial ?_ | fail
  refine call_pure rfl rfl (h) ?_; simp only [↓reduceIte, reduceCtorEq, reduceEqDiff, reduceAdd, reduceMul, reduceSub, reduceLeDiff, reduceEq, reduceLT, reduceLE, go_sem]
  repeat' first | refine Z1 fun _ _ => ?_ | refine Z2 ‹_› ?_ | ((first | refine Z3 tb_ok lv25 rfl ?_ | refine ret_eq rfl ?_); simp only [↓reduceIte, reduceCtorEq, reduceEqDiff, reduceAdd, reduceMul, reduceSub, reduceLeDiff, reduceEq, reduceLT, reduceLE, go_sem]) | refine Z8 ?_ | refine Zc ‹_› trivial ?_ | fail
  rfl
@[go_sem] def lv28 : List (Nat × List Nat) := [(0, [1, 2]), (1, [1, 5]), (2, [4])]
def bs28 : List (Nat × List Nat × List Nat) := []
theorem c_nfirst {l : List Nd} {i : Nat} (hl : l.length ≤ 1048576) (htx : ∀ i, (l.getD i Nd.z).text.size ≤ 1048576) (hi : i < (frs l).length) : PCon Tryd.prog glU 28 [desc l, .int .i64 i] (.int .i64 ((frs l).getD i 0)) := by
  have h := c_firsts hl htx
  refine PCon.enter tb_ok (fn := Tryd.f28) (by kernel_rfl) (by kernel_rfl) rfl (by show 2 ≤ 16; decide) ?_
  repeat' first | refine Z1 fun _ _ => ?_ | refine Z2 ‹_› ?_ | ((first | refine Z3 tb_ok lv28 rfl ?_ | refine ret_eq rfl ?_); simp only [↓reduceIte, reduceCtorEq, reduceEqDiff, reduceAdd, reduceMul, reduceSub, reduceLeDiff, reduceEq, reduceLT, reduceLE, go_sem]) | refine Z8 ?_ | refine Zc ‹_› trivial ?_ | fail
  refine call_pure rfl rfl (h) ?_; simp only [↓reduceIte, reduceCtorEq, reduceEqDiff, reduceAdd, reduceMul, reduceSub, reduceLeDiff, reduceEq, reduceLT, reduceLE, go_sem]
  repeat' first | refine Z1 fun _ _ => ?_ | refine Z2 ‹_› ?_ | ((first | refine Z3 tb_ok lv28 rfl ?_ | refine ret_eq rfl ?_); simp only [↓reduceIte, reduceCtorEq, reduceEqDiff, reduceAdd, reduceMul, reduceSub, reduceLeDiff, reduceEq, reduceLT, reduceLE, go_sem]) | refine Z8 ?_ | refine Zc ‹_› trivial ?_ | fail
  refine idx_map (0 : Int) rfl rfl rfl rfl rfl (by omega) hi rfl ?_
  simp only [↓reduceIte, reduceCtorEq, reduceEqDiff, reduceAdd, reduceMul, reduceSub, reduceLeDiff, reduceEq, reduceLT, reduceLE, go_sem]
  repeat' first | refine Z1 fun _ _ => ?_ | refine Z2 ‹_› ?_ | ((first | refine Z3 tb_ok lv28 rfl ?_ | refine ret_eq rfl ?_); simp only [↓reduceIte, reduceCtorEq, reduceEqDiff, reduceAdd, reduceMul, reduceSub, reduceLeDiff, reduceEq, reduceLT, reduceLE, go_sem]) | refine Z8 ?_ | refine Zc ‹_› trivial ?_ | fail
  rfl
end Go.Proofs.YtpnipapelnkjbaaDoor
