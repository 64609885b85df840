/- null.sat, power, Ways. -/
import Derived.Test.YtpnipapelnkjbaaDoorWaysB
import Derived.Test.YtpnipapelnkjbaaDoorNodeI
namespace Go.Proofs.YtpnipapelnkjbaaDoor
set_option linter.all false
open Go Go.RowKit
open Nat (reduceEqDiff reduceAdd reduceMul reduceSub reduceLeDiff)
open Int (reduceEq reduceLT reduceLE)

@[go_sem] def lv37 : List (Nat × List Nat) := [(0, [0]), (1, [2])]
def bs37 : List (Nat × List Nat × List Nat) := []
theorem c_sat {gl} (n : Int) : PCon Tryd.prog gl 37 [.int .i64 n] (.int .i64 (min n 2)) := by
  refine PCon.enter tb_ok (fn := Tryd.f37) (by kernel_rfl) (by kernel_rfl) rfl (by show 1 ≤ 5; decide) ?_
  repeat' first | refine Z1 fun _ _ => ?_ | refine Z2 ‹_› ?_ | ((first | refine Z3 tb_ok lv37 rfl ?_ | refine ret_eq rfl ?_); simp only [↓reduceIte, reduceCtorEq, reduceEqDiff, reduceAdd, reduceMul, reduceSub, reduceLeDiff, reduceEq, reduceLT, reduceLE, go_sem]) | refine Z8 ?_ | refine Zc ‹_› trivial ?_ | fail
@[go_sem] def lv41 : List (Nat × List Nat) := [(0, [0, 1, 2]), (1, [0, 1, 2, 7, 8]), (2, [0, 1, 2, 7, 8, 9]), (3, [0, 1, 2, 7, 8, 9, 12]), (4, [0, 1, 2, 7, 8, 9]), (5, [0, 1, 2, 7, 8, 9, 17]), (6, [0, 1, 2, 7, 8, 9]), (7, [0, 1, 2, 7, 8, 9]), (8, [6])]
def bs41 : List (Nat × List Nat × List Nat) := []
theorem c_power {gl} {w lo hi : Int} (h0 : 0 ≤ w) (h2 : w ≤ 2) (hlo : 0 ≤ lo) (hle : lo ≤ hi) (hhi : hi ≤ 255) : PCon Tryd.prog gl 41 [.int .i64 w, .int .i64 lo, .int .i64 hi] (.int .i64 (rpF w lo.toNat (hi.toNat + 1 - lo.toNat))) := by
  refine PCon.enter tb_ok (fn := Tryd.f41) (by kernel_rfl) (by kernel_rfl) rfl (by show 3 ≤ 27; decide) ?_
  repeat' first | refine Z1 fun _ _ => ?_ | refine Z2 ‹_› ?_ | ((first | refine Z3 tb_ok lv41 rfl ?_ | refine ret_eq rfl ?_); simp only [↓reduceIte, reduceCtorEq, reduceEqDiff, reduceAdd, reduceMul, reduceSub, reduceLeDiff, reduceEq, reduceLT, reduceLE, go_sem]) | (refine Z5 rfl ?_; with_reducible first | refine condQ_T ?_ | refine condQ_F ?_) | refine Z6 ?_ | refine Z7 ?_ | refine Z8 ?_ | refine Z9 fun _ _ => ?_ | refine Za ‹_› ?_ | refine Zb ‹_› ?_ | refine Zc ‹_› trivial ?_ | refine Zd ‹_› trivial ?_ | refine Ze ‹_› trivial ?_ | refine Zf ‹_› ?_ | refine Zl ‹_› (by decide) ?_ | fail
  refine .loopC (α := Nat) (fun k => ⟨[(0, .d (.int .i64 w)), (1, .d (.int .i64 lo)), (2, .d (.int .i64 hi)), (7, .d (.int .i64 (rpF w lo.toNat (k - lo.toNat)))), (8, .d (.int .i64 (pwF w k))), (9, .d (.int .i64 k))], [], 0⟩) (fun k => (k : Int) ≤ hi + 1) (fun k => hi.toNat + 1 - k) 0 (by omega) (by simp only [↓reduceIte, reduceCtorEq, reduceEqDiff, reduceAdd, reduceMul, reduceSub, reduceLeDiff, reduceEq, reduceLT, reduceLE, go_sem]; simp [rpF, pwF]) ?_
  intro k hk Q hQ
  have b1 := rpF_bd h0 h2 (lo := lo.toNat) (k - lo.toNat)
  have b2 := pwF_bd h0 h2 k
  have b3 := Int.mul_nonneg b2.1 h0
  have b4 : pwF w k * w ≤ 4 := by
    have : pwF w k * w ≤ 2 * 2 := Int.mul_le_mul b2.2 h2 h0 (by decide)
    omega
  have wk : IntKind.i64.wrap ((k : Int) + 1) = ((k + 1 : Nat) : Int) := wrap64 (by omega) (by omega)
  have w8 : min (IntKind.i64.wrap (pwF w k * w)) 2 = pwF w (k + 1) := by
    rw [wrap64 (by omega) (by omega), pwF]; omega
  repeat' first | refine Z1 fun _ _ => ?_ | refine Z2 ‹_› ?_ | ((first | refine Z3 tb_ok lv41 rfl ?_ | refine ret_eq rfl ?_); simp only [↓reduceIte, reduceCtorEq, reduceEqDiff, reduceAdd, reduceMul, reduceSub, reduceLeDiff, reduceEq, reduceLT, reduceLE, go_sem]) | (refine Z5 rfl ?_; with_reducible first | refine condQ_T ?_ | refine condQ_F ?_) | refine Z6 ?_ | refine Z7 ?_ | refine Z8 ?_ | refine Z9 fun _ _ => ?_ | refine Za ‹_› ?_ | refine Zb ‹_› ?_ | refine Zc ‹_› trivial ?_ | refine Zd ‹_› trivial ?_ | refine Ze ‹_› trivial ?_ | refine Zf ‹_› ?_ | refine Zl ‹_› (by decide) ?_ | fail
  refine .cond rfl (fun g => ?_) (fun g => ?_)
  · simp only [decide_eq_true_eq] at g
    repeat' first | refine Z1 fun _ _ => ?_ | refine Z2 ‹_› ?_ | ((first | refine Z3 tb_ok lv41 rfl ?_ | refine ret_eq rfl ?_); simp only [↓reduceIte, reduceCtorEq, reduceEqDiff, reduceAdd, reduceMul, reduceSub, reduceLeDiff, reduceEq, reduceLT, reduceLE, go_sem]) | (refine Z5 rfl ?_; with_reducible first | refine condQ_T ?_ | refine condQ_F ?_) | refine Z6 ?_ | refine Z7 ?_ | refine Z8 ?_ | refine Z9 fun _ _ => ?_ | refine Za ‹_› ?_ | refine Zb ‹_› ?_ | refine Zc ‹_› trivial ?_ | refine Zd ‹_› trivial ?_ | refine Ze ‹_› trivial ?_ | refine Zf ‹_› ?_ | refine Zl ‹_› (by decide) ?_ | fail
    refine .cond rfl (fun g2 => ?_) (fun g2 => ?_)
    · simp only [decide_eq_true_eq] at g2
      have w7 : min (IntKind.i64.wrap (rpF w lo.toNat (k - lo.toNat) + pwF w k)) 2 = rpF w lo.toNat (k + 1 - lo.toNat) := by
        rw [wrap64 (by omega) (by omega), show k + 1 - lo.toNat = (k - lo.toNat) + 1 by omega, rpF, show lo.toNat + (k - lo.toNat) = k by omega]
        omega
      repeat' first | refine Z1 fun _ _ => ?_ | refine Z2 ‹_› ?_ | ((first | refine Z3 tb_ok lv41 rfl ?_ | refine ret_eq rfl ?_); simp only [↓reduceIte, reduceCtorEq, reduceEqDiff, reduceAdd, reduceMul, reduceSub, reduceLeDiff, reduceEq, reduceLT, reduceLE, go_sem]) | (refine Z5 rfl ?_; with_reducible first | refine condQ_T ?_ | refine condQ_F ?_) | refine Z6 ?_ | refine Z7 ?_ | refine Z8 ?_ | refine Z9 fun _ _ => ?_ | refine Za ‹_› ?_ | refine Zb ‹_› ?_ | refine Zc ‹_› trivial ?_ | refine Zd ‹_› trivial ?_ | refine Ze ‹_› trivial ?_ | refine Zf ‹_› ?_ | refine Zl ‹_› (by decide) ?_ | fail
      refine call_pure rfl rfl (c_sat _) ?_; simp only [↓reduceIte, reduceCtorEq, reduceEqDiff, reduceAdd, reduceMul, reduceSub, reduceLeDiff, reduceEq, reduceLT, reduceLE, go_sem]
      repeat' first | refine Z1 fun _ _ => ?_ | refine Z2 ‹_› ?_ | ((first | refine Z3 tb_ok lv41 rfl ?_ | refine ret_eq rfl ?_); simp only [↓reduceIte, reduceCtorEq, reduceEqDiff, reduceAdd, reduceMul, reduceSub, reduceLeDiff, reduceEq, reduceLT, reduceLE, go_sem]) | (refine Z5 rfl ?_; with_reducible first | refine condQ_T ?_ | refine condQ_F ?_) | refine Z6 ?_ | refine Z7 ?_ | refine Z8 ?_ | refine Z9 fun _ _ => ?_ | refine Za ‹_› ?_ | refine Zb ‹_› ?_ | refine Zc ‹_› trivial ?_ | refine Zd ‹_› trivial ?_ | refine Ze ‹_› trivial ?_ | refine Zf ‹_› ?_ | refine Zl ‹_› (by decide) ?_ | fail
      refine call_pure rfl rfl (c_sat _) ?_; simp only [↓reduceIte, reduceCtorEq, reduceEqDiff, reduceAdd, reduceMul, reduceSub, reduceLeDiff, reduceEq, reduceLT, reduceLE, go_sem]
      repeat' first | refine Z1 fun _ _ => ?_ | refine Z2 ‹_› ?_ | ((first | refine Z3 tb_ok lv41 rfl ?_ | refine ret_eq rfl ?_); simp only [↓reduceIte, reduceCtorEq, reduceEqDiff, reduceAdd, reduceMul, reduceSub, reduceLeDiff, reduceEq, reduceLT, reduceLE, go_sem]) | (refine Z5 rfl ?_; with_reducible first | refine condQ_T ?_ | refine condQ_F ?_) | refine Z6 ?_ | refine Z7 ?_ | refine Z8 ?_ | refine Z9 fun _ _ => ?_ | refine Za ‹_› ?_ | refine Zb ‹_› ?_ | refine Zc ‹_› trivial ?_ | refine Zd ‹_› trivial ?_ | refine Ze ‹_› trivial ?_ | refine Zf ‹_› ?_ | refine Zl ‹_› (by decide) ?_ | fail
      exact hQ.next (k + 1) (by omega) (by omega) (by simp only [↓reduceIte, reduceCtorEq, reduceEqDiff, reduceAdd, reduceMul, reduceSub, reduceLeDiff, reduceEq, reduceLT, reduceLE, go_sem, wk, w7, w8]; try simp)
    · simp only [decide_eq_false_iff_not] at g2
      have w7 : rpF w lo.toNat (k - lo.toNat) = rpF w lo.toNat (k + 1 - lo.toNat) := by
        rw [show k - lo.toNat = 0 by omega, show k + 1 - lo.toNat = 0 by omega]
      repeat' first | refine Z1 fun _ _ => ?_ | refine Z2 ‹_› ?_ | ((first | refine Z3 tb_ok lv41 rfl ?_ | refine ret_eq rfl ?_); simp only [↓reduceIte, reduceCtorEq, reduceEqDiff, reduceAdd, reduceMul, reduceSub, reduceLeDiff, reduceEq, reduceLT, reduceLE, go_sem]) | (refine Z5 rfl ?_; with_reducible first | refine condQ_T ?_ | refine condQ_F ?_) | refine Z6 ?_ | refine Z7 ?_ | refine Z8 ?_ | refine Z9 fun _ _ => ?_ | refine Za ‹_› ?_ | refine Zb ‹_› ?_ | refine Zc ‹_› trivial ?_ | refine Zd ‹_› trivial ?_ | refine Ze ‹_› trivial ?_ | refine Zf ‹_› ?_ | refine Zl ‹_› (by decide) ?_ | fail
      refine call_pure rfl rfl (c_sat _) ?_; simp only [↓reduceIte, reduceCtorEq, reduceEqDiff, reduceAdd, reduceMul, reduceSub, reduceLeDiff, reduceEq, reduceLT, reduceLE, go_sem]
      repeat' first | refine Z1 fun _ _ => ?_ | refine Z2 ‹_› ?_ | ((first | refine Z3 tb_ok lv41 rfl ?_ | refine ret_eq rfl ?_); simp only [↓reduceIte, reduceCtorEq, reduceEqDiff, reduceAdd, reduceMul, reduceSub, reduceLeDiff, reduceEq, reduceLT, reduceLE, go_sem]) | (refine Z5 rfl ?_; with_reducible first | refine condQ_T ?_ | refine condQ_F ?_) | refine Z6 ?_ | refine Z7 ?_ | refine Z8 ?_ | refine Z9 fun _ _ => ?_ | refine Za ‹_› ?_ | refine Zb ‹_› ?_ | refine Zc ‹_› trivial ?_ | refine Zd ‹_› trivial ?_ | refine Ze ‹_› trivial ?_ | refine Zf ‹_› ?_ | refine Zl ‹_› (by decide) ?_ | fail
      exact hQ.next (k + 1) (by omega) (by omega) (by simp only [↓reduceIte, reduceCtorEq, reduceEqDiff, reduceAdd, reduceMul, reduceSub, reduceLeDiff, reduceEq, reduceLT, reduceLE, go_sem, wk, w7, w8]; try simp)
  · simp only [decide_eq_false_iff_not] at g
    repeat' first | refine Z1 fun _ _ => ?_ | refine Z2 ‹_› ?_ | ((first | refine Z3 tb_ok lv41 rfl ?_ | refine ret_eq rfl ?_); simp only [↓reduceIte, reduceCtorEq, reduceEqDiff, reduceAdd, reduceMul, reduceSub, reduceLeDiff, reduceEq, reduceLT, reduceLE, go_sem]) | (refine Z5 rfl ?_; with_reducible first | refine condQ_T ?_ | refine condQ_F ?_) | refine Z6 ?_ | refine Z7 ?_ | refine Z8 ?_ | refine Z9 fun _ _ => ?_ | refine Za ‹_› ?_ | refine Zb ‹_› ?_ | refine Zc ‹_› trivial ?_ | refine Zd ‹_› trivial ?_ | refine Ze ‹_› trivial ?_ | refine Zf ‹_› ?_ | refine Zl ‹_› (by decide) ?_ | fail
    rw [show k = hi.toNat + 1 by omega]
@[go_sem] def lv34 : List (Nat × List Nat) := [(0, [0, 1]), (1, [2])]
def bs34 : List (Nat × List Nat × List Nat) := []
theorem c_ways1 {gl} {l : List Nd} {n : Nd} {r : Int} (h : PCon Tryd.prog gl 19 [desc l, .int .i64 n.a] (.int .i64 r)) : PCon Tryd.prog gl 34 [.addr [nds l], .addr n.cells] (.int .i64 r) := by
  refine PCon.enter tb_ok (fn := Tryd.f34) (by kernel_rfl) (by kernel_rfl) rfl (by show 2 ≤ 7; decide) ?_
  repeat' first | refine Z1 fun _ _ => ?_ | refine Z2 ‹_› ?_ | ((first | refine Z3 tb_ok lv34 rfl ?_ | refine ret_eq rfl ?_); simp only [↓reduceIte, reduceCtorEq, reduceEqDiff, reduceAdd, reduceMul, reduceSub, reduceLeDiff, reduceEq, reduceLT, reduceLE, go_sem]) | refine Z8 ?_ | refine Zc ‹_› trivial ?_ | fail
  refine call_pure rfl rfl (h) ?_; simp only [↓reduceIte, reduceCtorEq, reduceEqDiff, reduceAdd, reduceMul, reduceSub, reduceLeDiff, reduceEq, reduceLT, reduceLE, go_sem]
  repeat' first | refine Z1 fun _ _ => ?_ | refine Z2 ‹_› ?_ | ((first | refine Z3 tb_ok lv34 rfl ?_ | refine ret_eq rfl ?_); simp only [↓reduceIte, reduceCtorEq, reduceEqDiff, reduceAdd, reduceMul, reduceSub, reduceLeDiff, reduceEq, reduceLT, reduceLE, go_sem]) | refine Z8 ?_ | refine Zc ‹_› trivial ?_ | fail
@[go_sem] def lv35 : List (Nat × List Nat) := [(0, []), (1, [0])]
def bs35 : List (Nat × List Nat × List Nat) := []
theorem c_ways2 {gl} : PCon Tryd.prog gl 35 [] (.int .i64 1) := by
  refine PCon.enter tb_ok (fn := Tryd.f35) (by kernel_rfl) (by kernel_rfl) rfl (by show 0 ≤ 1; decide) ?_
  repeat' first | refine Z1 fun _ _ => ?_ | refine Z2 ‹_› ?_ | ((first | refine Z3 tb_ok lv35 rfl ?_ | refine ret_eq rfl ?_); simp only [↓reduceIte, reduceCtorEq, reduceEqDiff, reduceAdd, reduceMul, reduceSub, reduceLeDiff, reduceEq, reduceLT, reduceLE, go_sem]) | refine Z8 ?_ | refine Zc ‹_› trivial ?_ | fail
/-- The first part's ways, as a function. -/
def wayA (l : List Nd) (n : Nd) : D := .fn 34 [] [.addr [nds l], .addr n.cells]
@[go_sem] def lv36 : List (Nat × List Nat) := [(0, [0, 1, 2]), (1, [3])]
def bs36 : List (Nat × List Nat × List Nat) := [(1, [0, 1, 0, 0, 8, 31, 63, 127, 255], [5, 7])]
theorem c_ways3 {gl} {l : List Nd} {n : Nd} {r q : Int} (h : PCon Tryd.prog gl 34 [.addr [nds l], .addr n.cells] (.int .i64 r)) (h2 : PCon Tryd.prog gl 19 [desc l, .int .i64 n.b] (.int .i64 q)) (hr : 0 ≤ r ∧ r ≤ 2) (hq : 0 ≤ q ∧ q ≤ 2) : PCon Tryd.prog gl 36 [.addr [wayA l n], .addr [nds l], .addr n.cells] (.int .i64 (min (r * q) 2)) := by
  have b3 := Int.mul_nonneg hr.1 hq.1
  have b4 : r * q ≤ 4 := by
    have : r * q ≤ 2 * 2 := Int.mul_le_mul hr.2 hq.2 hq.1 (by decide)
    omega
  refine PCon.enter tb_ok (fn := Tryd.f36) (by kernel_rfl) (by kernel_rfl) rfl (by show 3 ≤ 12; decide) ?_
  simp only [↓reduceIte, reduceCtorEq, reduceEqDiff, reduceAdd, reduceMul, reduceSub, reduceLeDiff, reduceEq, reduceLT, reduceLE, go_sem, wayA]
  repeat' first | refine Z1 fun _ _ => ?_ | refine Z2 ‹_› ?_ | ((first | refine Z3 tb_ok lv36 rfl ?_ | refine Z4 tb_ok mix lv36 bs36 rfl (by kernel_rfl) rfl ?_ | refine ret_eq rfl ?_); simp only [↓reduceIte, reduceCtorEq, reduceEqDiff, reduceAdd, reduceMul, reduceSub, reduceLeDiff, reduceEq, reduceLT, reduceLE, go_sem]) | refine Z8 ?_ | refine Zc ‹_› trivial ?_ | refine touch_go rfl ?_ | refine eff_go rfl ?_ | fail
  refine call_pure rfl rfl (h) ?_; simp only [↓reduceIte, reduceCtorEq, reduceEqDiff, reduceAdd, reduceMul, reduceSub, reduceLeDiff, reduceEq, reduceLT, reduceLE, go_sem]
  repeat' first | refine Z1 fun _ _ => ?_ | refine Z2 ‹_› ?_ | ((first | refine Z3 tb_ok lv36 rfl ?_ | refine Z4 tb_ok mix lv36 bs36 rfl (by kernel_rfl) rfl ?_ | refine ret_eq rfl ?_); simp only [↓reduceIte, reduceCtorEq, reduceEqDiff, reduceAdd, reduceMul, reduceSub, reduceLeDiff, reduceEq, reduceLT, reduceLE, go_sem]) | refine Z8 ?_ | refine Zc ‹_› trivial ?_ | refine touch_go rfl ?_ | refine eff_go rfl ?_ | fail
  refine call_pure rfl rfl (h2) ?_; simp only [↓reduceIte, reduceCtorEq, reduceEqDiff, reduceAdd, reduceMul, reduceSub, reduceLeDiff, reduceEq, reduceLT, reduceLE, go_sem]
  repeat' first | refine Z1 fun _ _ => ?_ | refine Z2 ‹_› ?_ | ((first | refine Z3 tb_ok lv36 rfl ?_ | refine Z4 tb_ok mix lv36 bs36 rfl (by kernel_rfl) rfl ?_ | refine ret_eq rfl ?_); simp only [↓reduceIte, reduceCtorEq, reduceEqDiff, reduceAdd, reduceMul, reduceSub, reduceLeDiff, reduceEq, reduceLT, reduceLE, go_sem]) | refine Z8 ?_ | refine Zc ‹_› trivial ?_ | refine touch_go rfl ?_ | refine eff_go rfl ?_ | fail
  rw [wrap64 (by omega) (by omega)]
  refine call_pure rfl rfl (c_sat _) ?_; simp only [↓reduceIte, reduceCtorEq, reduceEqDiff, reduceAdd, reduceMul, reduceSub, reduceLeDiff, reduceEq, reduceLT, reduceLE, go_sem]
  repeat' first | refine Z1 fun _ _ => ?_ | refine Z2 ‹_› ?_ | ((first | refine Z3 tb_ok lv36 rfl ?_ | refine Z4 tb_ok mix lv36 bs36 rfl (by kernel_rfl) rfl ?_ | refine ret_eq rfl ?_); simp only [↓reduceIte, reduceCtorEq, reduceEqDiff, reduceAdd, reduceMul, reduceSub, reduceLeDiff, reduceEq, reduceLT, reduceLE, go_sem]) | refine Z8 ?_ | refine Zc ‹_› trivial ?_ | refine touch_go rfl ?_ | refine eff_go rfl ?_ | fail
@[go_sem] def lv38 : List (Nat × List Nat) := [(0, [0, 1, 2]), (1, [3])]
def bs38 : List (Nat × List Nat × List Nat) := [(1, [0, 1, 0, 0, 8, 31, 63, 127, 255], [5, 7])]
theorem c_ways4 {gl} {l : List Nd} {n : Nd} {r q : Int} (h : PCon Tryd.prog gl 34 [.addr [nds l], .addr n.cells] (.int .i64 r)) (h2 : PCon Tryd.prog gl 19 [desc l, .int .i64 n.b] (.int .i64 q)) (hr : 0 ≤ r ∧ r ≤ 2) (hq : 0 ≤ q ∧ q ≤ 2) : PCon Tryd.prog gl 38 [.addr [wayA l n], .addr [nds l], .addr n.cells] (.int .i64 (min (r + q) 2)) := by
  refine PCon.enter tb_ok (fn := Tryd.f38) (by kernel_rfl) (by kernel_rfl) rfl (by show 3 ≤ 12; decide) ?_
  simp only [↓reduceIte, reduceCtorEq, reduceEqDiff, reduceAdd, reduceMul, reduceSub, reduceLeDiff, reduceEq, reduceLT, reduceLE, go_sem, wayA]
  repeat' first | refine Z1 fun _ _ => ?_ | refine Z2 ‹_› ?_ | ((first | refine Z3 tb_ok lv38 rfl ?_ | refine Z4 tb_ok mix lv38 bs38 rfl (by kernel_rfl) rfl ?_ | refine ret_eq rfl ?_); simp only [↓reduceIte, reduceCtorEq, reduceEqDiff, reduceAdd, reduceMul, reduceSub, reduceLeDiff, reduceEq, reduceLT, reduceLE, go_sem]) | refine Z8 ?_ | refine Zc ‹_› trivial ?_ | refine touch_go rfl ?_ | refine eff_go rfl ?_ | fail
  refine call_pure rfl rfl (h) ?_; simp only [↓reduceIte, reduceCtorEq, reduceEqDiff, reduceAdd, reduceMul, reduceSub, reduceLeDiff, reduceEq, reduceLT, reduceLE, go_sem]
  repeat' first | refine Z1 fun _ _ => ?_ | refine Z2 ‹_› ?_ | ((first | refine Z3 tb_ok lv38 rfl ?_ | refine Z4 tb_ok mix lv38 bs38 rfl (by kernel_rfl) rfl ?_ | refine ret_eq rfl ?_); simp only [↓reduceIte, reduceCtorEq, reduceEqDiff, reduceAdd, reduceMul, reduceSub, reduceLeDiff, reduceEq, reduceLT, reduceLE, go_sem]) | refine Z8 ?_ | refine Zc ‹_› trivial ?_ | refine touch_go rfl ?_ | refine eff_go rfl ?_ | fail
  refine call_pure rfl rfl (h2) ?_; simp only [↓reduceIte, reduceCtorEq, reduceEqDiff, reduceAdd, reduceMul, reduceSub, reduceLeDiff, reduceEq, reduceLT, reduceLE, go_sem]
  repeat' first | refine Z1 fun _ _ => ?_ | refine Z2 ‹_› ?_ | ((first | refine Z3 tb_ok lv38 rfl ?_ | refine Z4 tb_ok mix lv38 bs38 rfl (by kernel_rfl) rfl ?_ | refine ret_eq rfl ?_); simp only [↓reduceIte, reduceCtorEq, reduceEqDiff, reduceAdd, reduceMul, reduceSub, reduceLeDiff, reduceEq, reduceLT, reduceLE, go_sem]) | refine Z8 ?_ | refine Zc ‹_› trivial ?_ | refine touch_go rfl ?_ | refine eff_go rfl ?_ | fail
  rw [wrap64 (by omega) (by omega)]
  refine call_pure rfl rfl (c_sat _) ?_; simp only [↓reduceIte, reduceCtorEq, reduceEqDiff, reduceAdd, reduceMul, reduceSub, reduceLeDiff, reduceEq, reduceLT, reduceLE, go_sem]
  repeat' first | refine Z1 fun _ _ => ?_ | refine Z2 ‹_› ?_ | ((first | refine Z3 tb_ok lv38 rfl ?_ | refine Z4 tb_ok mix lv38 bs38 rfl (by kernel_rfl) rfl ?_ | refine ret_eq rfl ?_); simp only [↓reduceIte, reduceCtorEq, reduceEqDiff, reduceAdd, reduceMul, reduceSub, reduceLeDiff, reduceEq, reduceLT, reduceLE, go_sem]) | refine Z8 ?_ | refine Zc ‹_› trivial ?_ | refine touch_go rfl ?_ | refine eff_go rfl ?_ | fail
@[go_sem] def lv39 : List (Nat × List Nat) := [(0, [0]), (1, [1])]
def bs39 : List (Nat × List Nat × List Nat) := []
theorem c_ways5 {gl} {l : List Nd} {n : Nd} {r : Int} (h : PCon Tryd.prog gl 34 [.addr [nds l], .addr n.cells] (.int .i64 r)) (hr : 0 ≤ r ∧ r ≤ 2) : PCon Tryd.prog gl 39 [.addr [wayA l n]] (.int .i64 (1 + min r 1)) := by
  refine PCon.enter tb_ok (fn := Tryd.f39) (by kernel_rfl) (by kernel_rfl) rfl (by show 1 ≤ 6; decide) ?_
  simp only [↓reduceIte, reduceCtorEq, reduceEqDiff, reduceAdd, reduceMul, reduceSub, reduceLeDiff, reduceEq, reduceLT, reduceLE, go_sem, wayA]
  repeat' first | refine Z1 fun _ _ => ?_ | refine Z2 ‹_› ?_ | ((first | refine Z3 tb_ok lv39 rfl ?_ | refine ret_eq rfl ?_); simp only [↓reduceIte, reduceCtorEq, reduceEqDiff, reduceAdd, reduceMul, reduceSub, reduceLeDiff, reduceEq, reduceLT, reduceLE, go_sem]) | refine Z8 ?_ | refine Zc ‹_› trivial ?_ | fail
  refine call_pure rfl rfl (h) ?_; simp only [↓reduceIte, reduceCtorEq, reduceEqDiff, reduceAdd, reduceMul, reduceSub, reduceLeDiff, reduceEq, reduceLT, reduceLE, go_sem]
  repeat' first | refine Z1 fun _ _ => ?_ | refine Z2 ‹_› ?_ | ((first | refine Z3 tb_ok lv39 rfl ?_ | refine ret_eq rfl ?_); simp only [↓reduceIte, reduceCtorEq, reduceEqDiff, reduceAdd, reduceMul, reduceSub, reduceLeDiff, reduceEq, reduceLT, reduceLE, go_sem]) | refine Z8 ?_ | refine Zc ‹_› trivial ?_ | fail
  rw [wrap64 (by omega) (by omega)]
@[go_sem] def lv40 : List (Nat × List Nat) := [(0, [0, 1]), (1, [2])]
def bs40 : List (Nat × List Nat × List Nat) := [(1, [0, 1, 0, 4, 0, 16, 63, 127], [6])]
theorem c_ways6 {gl} {l : List Nd} {n : Nd} {r : Int} (h : PCon Tryd.prog gl 34 [.addr [nds l], .addr n.cells] (.int .i64 r)) (hr : 0 ≤ r ∧ r ≤ 2) (hlo : 0 ≤ n.lo) (hle : n.lo ≤ n.hi) (hhi : n.hi ≤ 255) : PCon Tryd.prog gl 40 [.addr [wayA l n], .addr n.cells] (.int .i64 (rpF r n.lo.toNat (n.hi.toNat + 1 - n.lo.toNat))) := by
  refine PCon.enter tb_ok (fn := Tryd.f40) (by kernel_rfl) (by kernel_rfl) rfl (by show 2 ≤ 10; decide) ?_
  simp only [↓reduceIte, reduceCtorEq, reduceEqDiff, reduceAdd, reduceMul, reduceSub, reduceLeDiff, reduceEq, reduceLT, reduceLE, go_sem, wayA]
  repeat' first | refine Z1 fun _ _ => ?_ | refine Z2 ‹_› ?_ | ((first | refine Z3 tb_ok lv40 rfl ?_ | refine Z4 tb_ok mix lv40 bs40 rfl (by kernel_rfl) rfl ?_ | refine ret_eq rfl ?_); simp only [↓reduceIte, reduceCtorEq, reduceEqDiff, reduceAdd, reduceMul, reduceSub, reduceLeDiff, reduceEq, reduceLT, reduceLE, go_sem]) | refine Z8 ?_ | refine Zc ‹_› trivial ?_ | refine touch_go rfl ?_ | refine eff_go rfl ?_ | fail
  refine call_pure rfl rfl (h) ?_; simp only [↓reduceIte, reduceCtorEq, reduceEqDiff, reduceAdd, reduceMul, reduceSub, reduceLeDiff, reduceEq, reduceLT, reduceLE, go_sem]
  repeat' first | refine Z1 fun _ _ => ?_ | refine Z2 ‹_› ?_ | ((first | refine Z3 tb_ok lv40 rfl ?_ | refine Z4 tb_ok mix lv40 bs40 rfl (by kernel_rfl) rfl ?_ | refine ret_eq rfl ?_); simp only [↓reduceIte, reduceCtorEq, reduceEqDiff, reduceAdd, reduceMul, reduceSub, reduceLeDiff, reduceEq, reduceLT, reduceLE, go_sem]) | refine Z8 ?_ | refine Zc ‹_› trivial ?_ | refine touch_go rfl ?_ | refine eff_go rfl ?_ | fail
  refine call_pure rfl rfl (c_power hr.1 hr.2 hlo hle hhi) ?_; simp only [↓reduceIte, reduceCtorEq, reduceEqDiff, reduceAdd, reduceMul, reduceSub, reduceLeDiff, reduceEq, reduceLT, reduceLE, go_sem]
  repeat' first | refine Z1 fun _ _ => ?_ | refine Z2 ‹_› ?_ | ((first | refine Z3 tb_ok lv40 rfl ?_ | refine Z4 tb_ok mix lv40 bs40 rfl (by kernel_rfl) rfl ?_ | refine ret_eq rfl ?_); simp only [↓reduceIte, reduceCtorEq, reduceEqDiff, reduceAdd, reduceMul, reduceSub, reduceLeDiff, reduceEq, reduceLT, reduceLE, go_sem]) | refine Z8 ?_ | refine Zc ‹_› trivial ?_ | refine touch_go rfl ?_ | refine eff_go rfl ?_ | fail
end Go.Proofs.YtpnipapelnkjbaaDoor
