/- scantlinglaw08.NullTimes. -/
import Derived.Test.YtpnipapelnkjbaaDoorNullF
namespace Go.Proofs.YtpnipapelnkjbaaDoor
set_option linter.all false
open Go Go.RowKit
open Nat (reduceEqDiff reduceAdd reduceMul reduceSub reduceLeDiff)
open Int (reduceEq reduceLT reduceLE)

theorem pw1 : ∀ m, pwF 1 m = 1
  | 0 => rfl
  | m + 1 => by rw [pwF, pw1 m]; omega
theorem pw2 : ∀ m, 0 < m → pwF 2 m = 2
  | 0, h => by omega
  | 1, _ => by simp only [pwF]; omega
  | m + 2, _ => by rw [pwF, pw2 (m + 1) (by omega)]; omega
theorem rpw1 {lo : Nat} : ∀ m : Nat, rpF 1 lo m = min 2 (m : Int)
  | 0 => by simp only [rpF]; omega
  | m + 1 => by rw [rpF, rpw1 m, pw1]; omega
theorem rpw2 {lo : Nat} : ∀ m : Nat, 0 < m → rpF 2 lo m = if lo + (m - 1) = 0 then 1 else 2
  | 0, h => by omega
  | 1, _ => by
    simp only [rpF, Nat.add_zero]
    by_cases h : lo = 0
    · subst h; simp [pwF]; decide
    · rw [pw2 lo (by omega), if_neg (by omega)]; omega
  | m + 2, _ => by
    rw [rpF, rpw2 (m + 1) (by omega), pw2 _ (by omega), if_neg (show ¬ lo + (m + 2 - 1) = 0 by omega)]
    split <;> omega
theorem ways7_one {lo hi : Int} {a : T} (h : a.ways = 1) (h1 : 0 ≤ lo) (h2 : lo ≤ hi) : (T.one 7 lo hi a).ways = min 2 (hi - lo + 1) := by
  have : (T.one 7 lo hi a).ways = rpF a.ways lo.toNat (hi.toNat + 1 - lo.toNat) := rfl
  rw [this, h, rpw1]; omega
theorem ways7_two {lo hi : Int} {a : T} (h : a.ways = 2) (h1 : 0 ≤ lo) (h2 : lo ≤ hi) : (T.one 7 lo hi a).ways = if hi = 0 then 1 else 2 := by
  have : (T.one 7 lo hi a).ways = rpF a.ways lo.toNat (hi.toNat + 1 - lo.toNat) := rfl
  rw [this, h, rpw2 _ (by omega)]
  by_cases e : hi = 0
  · rw [if_pos e, if_pos (by omega)]
  · rw [if_neg e, if_neg (by omega)]
@[go_sem] def lv6 : List (Nat × List Nat) := [(0, [1, 2, 3]), (1, [1, 2, 3, 26]), (2, [6]), (3, [1, 2, 3, 7]), (4, [1, 2, 7, 8]), (5, [1, 2, 7, 8, 9]), (6, [1, 2, 8, 9, 50]), (7, [1, 2, 8, 9, 50, 51]), (8, [6]), (9, [2, 8, 9, 62]), (10, [6]), (11, [6])]
def bs6 : List (Nat × List Nat × List Nat) := [(4, [0, 1, 0, 4, 0, 31, 0, 64, 192, 511, 1023], [9])]
set_option maxRecDepth 4000 in
set_option maxHeartbeats 2000000 in
theorem c_nullTimes {l : List Nd} (hl : l.length ≤ 140737488355328) (htx : ∀ i, (l.getD i Nd.z).text.size ≤ 140737488355328) {x y : Int} (hx : 0 ≤ x) (hx' : x ≤ 255) (hy : 0 ≤ y) (hy' : y ≤ 255) : PCon Tryd.prog glU 6 [desc l, .int .u8 x, .int .u8 y] (.bool true) := by
  cases hfew : few l with
  | false =>
    refine PCon.enter tb_ok (fn := Tryd.f6) (by kernel_rfl) (by kernel_rfl) rfl (by show 3 ≤ 80; decide) ?_
    repeat' first | refine Z1 fun _ _ => ?_ | refine Z2 ‹_› ?_ | ((first | refine Z3 tb_ok lv6 rfl ?_ | refine Z4 tb_ok mix lv6 bs6 rfl (by kernel_rfl) rfl ?_ | refine ret_eq rfl ?_); simp only [↓reduceIte, reduceCtorEq, reduceEqDiff, reduceAdd, reduceMul, reduceSub, reduceLeDiff, reduceEq, reduceLT, reduceLE, go_sem]) | (refine Z5 rfl ?_; with_reducible first | refine condQ_T ?_ | refine condQ_F ?_) | refine Z6 ?_ | refine Z8 ?_ | refine Z9 fun _ _ => ?_ | refine Za ‹_› ?_ | refine Zc ‹_› trivial ?_ | refine Zf ‹_› ?_ | refine touch_go rfl ?_ | refine eff_go rfl ?_ | fail
    refine call_pure rfl rfl (c_awake08) ?_; simp only [↓reduceIte, reduceCtorEq, reduceEqDiff, reduceAdd, reduceMul, reduceSub, reduceLeDiff, reduceEq, reduceLT, reduceLE, go_sem]
    repeat' first | refine Z1 fun _ _ => ?_ | refine Z2 ‹_› ?_ | ((first | refine Z3 tb_ok lv6 rfl ?_ | refine Z4 tb_ok mix lv6 bs6 rfl (by kernel_rfl) rfl ?_ | refine ret_eq rfl ?_); simp only [↓reduceIte, reduceCtorEq, reduceEqDiff, reduceAdd, reduceMul, reduceSub, reduceLeDiff, reduceEq, reduceLT, reduceLE, go_sem]) | (refine Z5 rfl ?_; with_reducible first | refine condQ_T ?_ | refine condQ_F ?_) | refine Z6 ?_ | refine Z8 ?_ | refine Z9 fun _ _ => ?_ | refine Za ‹_› ?_ | refine Zc ‹_› trivial ?_ | refine Zf ‹_› ?_ | refine touch_go rfl ?_ | refine eff_go rfl ?_ | fail
    refine call_pure rfl rfl (c_fewB (by omega) hfew) ?_; simp only [↓reduceIte, reduceCtorEq, reduceEqDiff, reduceAdd, reduceMul, reduceSub, reduceLeDiff, reduceEq, reduceLT, reduceLE, go_sem]
    repeat' first | refine Z1 fun _ _ => ?_ | refine Z2 ‹_› ?_ | ((first | refine Z3 tb_ok lv6 rfl ?_ | refine Z4 tb_ok mix lv6 bs6 rfl (by kernel_rfl) rfl ?_ | refine ret_eq rfl ?_); simp only [↓reduceIte, reduceCtorEq, reduceEqDiff, reduceAdd, reduceMul, reduceSub, reduceLeDiff, reduceEq, reduceLT, reduceLE, go_sem]) | (refine Z5 rfl ?_; with_reducible first | refine condQ_T ?_ | refine condQ_F ?_) | refine Z6 ?_ | refine Z8 ?_ | refine Z9 fun _ _ => ?_ | refine Za ‹_› ?_ | refine Zc ‹_› trivial ?_ | refine Zf ‹_› ?_ | refine touch_go rfl ?_ | refine eff_go rfl ?_ | fail
    refine call_pure rfl rfl (c_awake08) ?_; simp only [↓reduceIte, reduceCtorEq, reduceEqDiff, reduceAdd, reduceMul, reduceSub, reduceLeDiff, reduceEq, reduceLT, reduceLE, go_sem]
    repeat' first | refine Z1 fun _ _ => ?_ | refine Z2 ‹_› ?_ | ((first | refine Z3 tb_ok lv6 rfl ?_ | refine Z4 tb_ok mix lv6 bs6 rfl (by kernel_rfl) rfl ?_ | refine ret_eq rfl ?_); simp only [↓reduceIte, reduceCtorEq, reduceEqDiff, reduceAdd, reduceMul, reduceSub, reduceLeDiff, reduceEq, reduceLT, reduceLE, go_sem]) | (refine Z5 rfl ?_; with_reducible first | refine condQ_T ?_ | refine condQ_F ?_) | refine Z6 ?_ | refine Z8 ?_ | refine Z9 fun _ _ => ?_ | refine Za ‹_› ?_ | refine Zc ‹_› trivial ?_ | refine Zf ‹_› ?_ | refine touch_go rfl ?_ | refine eff_go rfl ?_ | fail
  | true =>
    have hl0 := hl
    obtain ⟨hl, htx⟩ := few_small htx hfew
    obtain ⟨b, hb, hform⟩ := c_form (gl := glU) hl htx
    cases b
    · refine PCon.enter tb_ok (fn := Tryd.f6) (by kernel_rfl) (by kernel_rfl) rfl (by show 3 ≤ 80; decide) ?_
      repeat' first | refine Z1 fun _ _ => ?_ | refine Z2 ‹_› ?_ | ((first | refine Z3 tb_ok lv6 rfl ?_ | refine Z4 tb_ok mix lv6 bs6 rfl (by kernel_rfl) rfl ?_ | refine ret_eq rfl ?_); simp only [↓reduceIte, reduceCtorEq, reduceEqDiff, reduceAdd, reduceMul, reduceSub, reduceLeDiff, reduceEq, reduceLT, reduceLE, go_sem]) | (refine Z5 rfl ?_; with_reducible first | refine condQ_T ?_ | refine condQ_F ?_) | refine Z6 ?_ | refine Z8 ?_ | refine Z9 fun _ _ => ?_ | refine Za ‹_› ?_ | refine Zc ‹_› trivial ?_ | refine Zf ‹_› ?_ | refine touch_go rfl ?_ | refine eff_go rfl ?_ | fail
      refine call_pure rfl rfl (c_awake08) ?_; simp only [↓reduceIte, reduceCtorEq, reduceEqDiff, reduceAdd, reduceMul, reduceSub, reduceLeDiff, reduceEq, reduceLT, reduceLE, go_sem]
      repeat' first | refine Z1 fun _ _ => ?_ | refine Z2 ‹_› ?_ | ((first | refine Z3 tb_ok lv6 rfl ?_ | refine Z4 tb_ok mix lv6 bs6 rfl (by kernel_rfl) rfl ?_ | refine ret_eq rfl ?_); simp only [↓reduceIte, reduceCtorEq, reduceEqDiff, reduceAdd, reduceMul, reduceSub, reduceLeDiff, reduceEq, reduceLT, reduceLE, go_sem]) | (refine Z5 rfl ?_; with_reducible first | refine condQ_T ?_ | refine condQ_F ?_) | refine Z6 ?_ | refine Z8 ?_ | refine Z9 fun _ _ => ?_ | refine Za ‹_› ?_ | refine Zc ‹_› trivial ?_ | refine Zf ‹_› ?_ | refine touch_go rfl ?_ | refine eff_go rfl ?_ | fail
      refine call_pure rfl rfl (c_fewB (by omega) hfew) ?_; simp only [↓reduceIte, reduceCtorEq, reduceEqDiff, reduceAdd, reduceMul, reduceSub, reduceLeDiff, reduceEq, reduceLT, reduceLE, go_sem]
      repeat' first | refine Z1 fun _ _ => ?_ | refine Z2 ‹_› ?_ | ((first | refine Z3 tb_ok lv6 rfl ?_ | refine Z4 tb_ok mix lv6 bs6 rfl (by kernel_rfl) rfl ?_ | refine ret_eq rfl ?_); simp only [↓reduceIte, reduceCtorEq, reduceEqDiff, reduceAdd, reduceMul, reduceSub, reduceLeDiff, reduceEq, reduceLT, reduceLE, go_sem]) | (refine Z5 rfl ?_; with_reducible first | refine condQ_T ?_ | refine condQ_F ?_) | refine Z6 ?_ | refine Z8 ?_ | refine Z9 fun _ _ => ?_ | refine Za ‹_› ?_ | refine Zc ‹_› trivial ?_ | refine Zf ‹_› ?_ | refine touch_go rfl ?_ | refine eff_go rfl ?_ | fail
      refine call_pure rfl rfl (hform) ?_; simp only [↓reduceIte, reduceCtorEq, reduceEqDiff, reduceAdd, reduceMul, reduceSub, reduceLeDiff, reduceEq, reduceLT, reduceLE, go_sem]
      repeat' first | refine Z1 fun _ _ => ?_ | refine Z2 ‹_› ?_ | ((first | refine Z3 tb_ok lv6 rfl ?_ | refine Z4 tb_ok mix lv6 bs6 rfl (by kernel_rfl) rfl ?_ | refine ret_eq rfl ?_); simp only [↓reduceIte, reduceCtorEq, reduceEqDiff, reduceAdd, reduceMul, reduceSub, reduceLeDiff, reduceEq, reduceLT, reduceLE, go_sem]) | (refine Z5 rfl ?_; with_reducible first | refine condQ_T ?_ | refine condQ_F ?_) | refine Z6 ?_ | refine Z8 ?_ | refine Z9 fun _ _ => ?_ | refine Za ‹_› ?_ | refine Zc ‹_› trivial ?_ | refine Zf ‹_› ?_ | refine touch_go rfl ?_ | refine eff_go rfl ?_ | fail
      refine call_pure rfl rfl (c_awake08) ?_; simp only [↓reduceIte, reduceCtorEq, reduceEqDiff, reduceAdd, reduceMul, reduceSub, reduceLeDiff, reduceEq, reduceLT, reduceLE, go_sem]
      repeat' first | refine Z1 fun _ _ => ?_ | refine Z2 ‹_› ?_ | ((first | refine Z3 tb_ok lv6 rfl ?_ | refine Z4 tb_ok mix lv6 bs6 rfl (by kernel_rfl) rfl ?_ | refine ret_eq rfl ?_); simp only [↓reduceIte, reduceCtorEq, reduceEqDiff, reduceAdd, reduceMul, reduceSub, reduceLeDiff, reduceEq, reduceLT, reduceLE, go_sem]) | (refine Z5 rfl ?_; with_reducible first | refine condQ_T ?_ | refine condQ_F ?_) | refine Z6 ?_ | refine Z8 ?_ | refine Z9 fun _ _ => ?_ | refine Za ‹_› ?_ | refine Zc ‹_› trivial ?_ | refine Zf ‹_› ?_ | refine touch_go rfl ?_ | refine eff_go rfl ?_ | fail
    · obtain ⟨t, rfl, hok⟩ := hb.1 rfl
      have hp := t.n_pos
      have lt := T.flat_len t 0
      have h100 := few_len hfew
      have hw := ways_bd hok
      refine PCon.enter tb_ok (fn := Tryd.f6) (by kernel_rfl) (by kernel_rfl) rfl (by show 3 ≤ 80; decide) ?_
      repeat' first | refine Z1 fun _ _ => ?_ | refine Z2 ‹_› ?_ | ((first | refine Z3 tb_ok lv6 rfl ?_ | refine Z4 tb_ok mix lv6 bs6 rfl (by kernel_rfl) rfl ?_ | refine ret_eq rfl ?_); simp only [↓reduceIte, reduceCtorEq, reduceEqDiff, reduceAdd, reduceMul, reduceSub, reduceLeDiff, reduceEq, reduceLT, reduceLE, go_sem]) | (refine Z5 rfl ?_; with_reducible first | refine condQ_T ?_ | refine condQ_F ?_) | refine Z6 ?_ | refine Z8 ?_ | refine Z9 fun _ _ => ?_ | refine Za ‹_› ?_ | refine Zc ‹_› trivial ?_ | refine Zf ‹_› ?_ | refine touch_go rfl ?_ | refine eff_go rfl ?_ | fail
      refine call_pure rfl rfl (c_awake08) ?_; simp only [↓reduceIte, reduceCtorEq, reduceEqDiff, reduceAdd, reduceMul, reduceSub, reduceLeDiff, reduceEq, reduceLT, reduceLE, go_sem]
      repeat' first | refine Z1 fun _ _ => ?_ | refine Z2 ‹_› ?_ | ((first | refine Z3 tb_ok lv6 rfl ?_ | refine Z4 tb_ok mix lv6 bs6 rfl (by kernel_rfl) rfl ?_ | refine ret_eq rfl ?_); simp only [↓reduceIte, reduceCtorEq, reduceEqDiff, reduceAdd, reduceMul, reduceSub, reduceLeDiff, reduceEq, reduceLT, reduceLE, go_sem]) | (refine Z5 rfl ?_; with_reducible first | refine condQ_T ?_ | refine condQ_F ?_) | refine Z6 ?_ | refine Z8 ?_ | refine Z9 fun _ _ => ?_ | refine Za ‹_› ?_ | refine Zc ‹_› trivial ?_ | refine Zf ‹_› ?_ | refine touch_go rfl ?_ | refine eff_go rfl ?_ | fail
      refine call_pure rfl rfl (c_fewB (by omega) hfew) ?_; simp only [↓reduceIte, reduceCtorEq, reduceEqDiff, reduceAdd, reduceMul, reduceSub, reduceLeDiff, reduceEq, reduceLT, reduceLE, go_sem]
      repeat' first | refine Z1 fun _ _ => ?_ | refine Z2 ‹_› ?_ | ((first | refine Z3 tb_ok lv6 rfl ?_ | refine Z4 tb_ok mix lv6 bs6 rfl (by kernel_rfl) rfl ?_ | refine ret_eq rfl ?_); simp only [↓reduceIte, reduceCtorEq, reduceEqDiff, reduceAdd, reduceMul, reduceSub, reduceLeDiff, reduceEq, reduceLT, reduceLE, go_sem]) | (refine Z5 rfl ?_; with_reducible first | refine condQ_T ?_ | refine condQ_F ?_) | refine Z6 ?_ | refine Z8 ?_ | refine Z9 fun _ _ => ?_ | refine Za ‹_› ?_ | refine Zc ‹_› trivial ?_ | refine Zf ‹_› ?_ | refine touch_go rfl ?_ | refine eff_go rfl ?_ | fail
      refine call_pure rfl rfl (hform) ?_; simp only [↓reduceIte, reduceCtorEq, reduceEqDiff, reduceAdd, reduceMul, reduceSub, reduceLeDiff, reduceEq, reduceLT, reduceLE, go_sem]
      repeat' first | refine Z1 fun _ _ => ?_ | refine Z2 ‹_› ?_ | ((first | refine Z3 tb_ok lv6 rfl ?_ | refine Z4 tb_ok mix lv6 bs6 rfl (by kernel_rfl) rfl ?_ | refine ret_eq rfl ?_); simp only [↓reduceIte, reduceCtorEq, reduceEqDiff, reduceAdd, reduceMul, reduceSub, reduceLeDiff, reduceEq, reduceLT, reduceLE, go_sem]) | (refine Z5 rfl ?_; with_reducible first | refine condQ_T ?_ | refine condQ_F ?_) | refine Z6 ?_ | refine Z8 ?_ | refine Z9 fun _ _ => ?_ | refine Za ‹_› ?_ | refine Zc ‹_› trivial ?_ | refine Zf ‹_› ?_ | refine touch_go rfl ?_ | refine eff_go rfl ?_ | fail
      refine .cond rfl (fun hc => ?_) (fun hc => ?_)
      · repeat' first | refine Z1 fun _ _ => ?_ | refine Z2 ‹_› ?_ | ((first | refine Z3 tb_ok lv6 rfl ?_ | refine Z4 tb_ok mix lv6 bs6 rfl (by kernel_rfl) rfl ?_ | refine ret_eq rfl ?_); simp only [↓reduceIte, reduceCtorEq, reduceEqDiff, reduceAdd, reduceMul, reduceSub, reduceLeDiff, reduceEq, reduceLT, reduceLE, go_sem]) | (refine Z5 rfl ?_; with_reducible first | refine condQ_T ?_ | refine condQ_F ?_) | refine Z6 ?_ | refine Z8 ?_ | refine Z9 fun _ _ => ?_ | refine Za ‹_› ?_ | refine Zc ‹_› trivial ?_ | refine Zf ‹_› ?_ | refine touch_go rfl ?_ | refine eff_go rfl ?_ | fail
        refine call_pure rfl rfl (c_awake08) ?_; simp only [↓reduceIte, reduceCtorEq, reduceEqDiff, reduceAdd, reduceMul, reduceSub, reduceLeDiff, reduceEq, reduceLT, reduceLE, go_sem]
        repeat' first | refine Z1 fun _ _ => ?_ | refine Z2 ‹_› ?_ | ((first | refine Z3 tb_ok lv6 rfl ?_ | refine Z4 tb_ok mix lv6 bs6 rfl (by kernel_rfl) rfl ?_ | refine ret_eq rfl ?_); simp only [↓reduceIte, reduceCtorEq, reduceEqDiff, reduceAdd, reduceMul, reduceSub, reduceLeDiff, reduceEq, reduceLT, reduceLE, go_sem]) | (refine Z5 rfl ?_; with_reducible first | refine condQ_T ?_ | refine condQ_F ?_) | refine Z6 ?_ | refine Z8 ?_ | refine Z9 fun _ _ => ?_ | refine Za ‹_› ?_ | refine Zc ‹_› trivial ?_ | refine Zf ‹_› ?_ | refine touch_go rfl ?_ | refine eff_go rfl ?_ | fail
      simp only [decide_eq_false_iff_not] at hc
      have o5 : (T.one 7 x y t).ok txtOk := ⟨.inr ⟨rfl, hx, by omega, by omega⟩, hok⟩
      have s4 : IntKind.i64.wrap ((t.n : Int) - 1) = ((t.n - 1 : Nat) : Int) := by rw [wrap64 (by omega) (by omega)]; omega
      have wx : IntKind.i64.wrap x = x := wrap64 (by omega) (by omega)
      have wy : IntKind.i64.wrap y = y := wrap64 (by omega) (by omega)
      have wd : IntKind.i64.wrap (y - x) = y - x := wrap64 (by omega) (by omega)
      have wd1 : IntKind.i64.wrap (y - x + 1) = y - x + 1 := wrap64 (by omega) (by omega)
      repeat' first | refine Z1 fun _ _ => ?_ | refine Z2 ‹_› ?_ | ((first | refine Z3 tb_ok lv6 rfl ?_ | refine Z4 tb_ok mix lv6 bs6 rfl (by kernel_rfl) rfl ?_ | refine ret_eq rfl ?_); simp only [↓reduceIte, reduceCtorEq, reduceEqDiff, reduceAdd, reduceMul, reduceSub, reduceLeDiff, reduceEq, reduceLT, reduceLE, go_sem]) | (refine Z5 rfl ?_; with_reducible first | refine condQ_T ?_ | refine condQ_F ?_) | refine Z6 ?_ | refine Z8 ?_ | refine Z9 fun _ _ => ?_ | refine Za ‹_› ?_ | refine Zc ‹_› trivial ?_ | refine Zf ‹_› ?_ | refine touch_go rfl ?_ | refine eff_go rfl ?_ | fail
      simp only [↓reduceIte, reduceCtorEq, reduceEqDiff, reduceAdd, reduceMul, reduceSub, reduceLeDiff, reduceEq, reduceLT, reduceLE, go_sem, lt, s4]
      refine call_pure rfl rfl (c_nwaysT (i := t.n - 1) hok (by omega) (by omega)) ?_; simp only [↓reduceIte, reduceCtorEq, reduceEqDiff, reduceAdd, reduceMul, reduceSub, reduceLeDiff, reduceEq, reduceLT, reduceLE, go_sem]
      repeat' first | refine Z1 fun _ _ => ?_ | refine Z2 ‹_› ?_ | ((first | refine Z3 tb_ok lv6 rfl ?_ | refine Z4 tb_ok mix lv6 bs6 rfl (by kernel_rfl) rfl ?_ | refine ret_eq rfl ?_); simp only [↓reduceIte, reduceCtorEq, reduceEqDiff, reduceAdd, reduceMul, reduceSub, reduceLeDiff, reduceEq, reduceLT, reduceLE, go_sem]) | (refine Z5 rfl ?_; with_reducible first | refine condQ_T ?_ | refine condQ_F ?_) | refine Z6 ?_ | refine Z8 ?_ | refine Z9 fun _ _ => ?_ | refine Za ‹_› ?_ | refine Zc ‹_› trivial ?_ | refine Zf ‹_› ?_ | refine touch_go rfl ?_ | refine eff_go rfl ?_ | fail
      simp only [↓reduceIte, reduceCtorEq, reduceEqDiff, reduceAdd, reduceMul, reduceSub, reduceLeDiff, reduceEq, reduceLT, reduceLE, go_sem, wx, wy]
      refine call_pure rfl rfl (c_wrap (t := t) (k := 7) (lo := x) (hi := y) (by omega) hok) ?_; simp only [↓reduceIte, reduceCtorEq, reduceEqDiff, reduceAdd, reduceMul, reduceSub, reduceLeDiff, reduceEq, reduceLT, reduceLE, go_sem]
      repeat' first | refine Z1 fun _ _ => ?_ | refine Z2 ‹_› ?_ | ((first | refine Z3 tb_ok lv6 rfl ?_ | refine Z4 tb_ok mix lv6 bs6 rfl (by kernel_rfl) rfl ?_ | refine ret_eq rfl ?_); simp only [↓reduceIte, reduceCtorEq, reduceEqDiff, reduceAdd, reduceMul, reduceSub, reduceLeDiff, reduceEq, reduceLT, reduceLE, go_sem]) | (refine Z5 rfl ?_; with_reducible first | refine condQ_T ?_ | refine condQ_F ?_) | refine Z6 ?_ | refine Z8 ?_ | refine Z9 fun _ _ => ?_ | refine Za ‹_› ?_ | refine Zc ‹_› trivial ?_ | refine Zf ‹_› ?_ | refine touch_go rfl ?_ | refine eff_go rfl ?_ | fail
      simp only [↓reduceIte, reduceCtorEq, reduceEqDiff, reduceAdd, reduceMul, reduceSub, reduceLeDiff, reduceEq, reduceLT, reduceLE, go_sem, lt]
      refine call_pure rfl rfl (c_nwaysT (i := t.n) o5 (by simp only [T.n]; omega) rfl) ?_; simp only [↓reduceIte, reduceCtorEq, reduceEqDiff, reduceAdd, reduceMul, reduceSub, reduceLeDiff, reduceEq, reduceLT, reduceLE, go_sem]
      repeat' first | refine Z1 fun _ _ => ?_ | refine Z2 ‹_› ?_ | ((first | refine Z3 tb_ok lv6 rfl ?_ | refine Z4 tb_ok mix lv6 bs6 rfl (by kernel_rfl) rfl ?_ | refine ret_eq rfl ?_); simp only [↓reduceIte, reduceCtorEq, reduceEqDiff, reduceAdd, reduceMul, reduceSub, reduceLeDiff, reduceEq, reduceLT, reduceLE, go_sem]) | (refine Z5 rfl ?_; with_reducible first | refine condQ_T ?_ | refine condQ_F ?_) | refine Z6 ?_ | refine Z8 ?_ | refine Z9 fun _ _ => ?_ | refine Za ‹_› ?_ | refine Zc ‹_› trivial ?_ | refine Zf ‹_› ?_ | refine touch_go rfl ?_ | refine eff_go rfl ?_ | fail
      simp only [↓reduceIte, reduceCtorEq, reduceEqDiff, reduceAdd, reduceMul, reduceSub, reduceLeDiff, reduceEq, reduceLT, reduceLE, go_sem, wx, wy, wd, wd1]
      rcases (by omega : t.ways = 0 ∨ t.ways = 1 ∨ t.ways = 2) with h | h | h
      · have hz := ways7 (lo := x) (hi := y) h hx (by omega)
        by_cases h0 : x = 0
        · rw [if_pos h0] at hz
          subst h0
          simp only [↓reduceIte, reduceCtorEq, reduceEqDiff, reduceAdd, reduceMul, reduceSub, reduceLeDiff, reduceEq, reduceLT, reduceLE, go_sem, h, hz]
          repeat' first | refine Z1 fun _ _ => ?_ | refine Z2 ‹_› ?_ | ((first | refine Z3 tb_ok lv6 rfl ?_ | refine Z4 tb_ok mix lv6 bs6 rfl (by kernel_rfl) rfl ?_ | refine ret_eq rfl ?_); simp only [↓reduceIte, reduceCtorEq, reduceEqDiff, reduceAdd, reduceMul, reduceSub, reduceLeDiff, reduceEq, reduceLT, reduceLE, go_sem]) | (refine Z5 rfl ?_; with_reducible first | refine condQ_T ?_ | refine condQ_F ?_) | refine Z6 ?_ | refine Z8 ?_ | refine Z9 fun _ _ => ?_ | refine Za ‹_› ?_ | refine Zc ‹_› trivial ?_ | refine Zf ‹_› ?_ | refine touch_go rfl ?_ | refine eff_go rfl ?_ | fail
          simp only [↓reduceIte, reduceCtorEq, reduceEqDiff, reduceAdd, reduceMul, reduceSub, reduceLeDiff, reduceEq, reduceLT, reduceLE, go_sem, beq_self_eq_true]
          repeat' first | refine Z1 fun _ _ => ?_ | refine Z2 ‹_› ?_ | ((first | refine Z3 tb_ok lv6 rfl ?_ | refine Z4 tb_ok mix lv6 bs6 rfl (by kernel_rfl) rfl ?_ | refine ret_eq rfl ?_); simp only [↓reduceIte, reduceCtorEq, reduceEqDiff, reduceAdd, reduceMul, reduceSub, reduceLeDiff, reduceEq, reduceLT, reduceLE, go_sem]) | (refine Z5 rfl ?_; with_reducible first | refine condQ_T ?_ | refine condQ_F ?_) | refine Z6 ?_ | refine Z8 ?_ | refine Z9 fun _ _ => ?_ | refine Za ‹_› ?_ | refine Zc ‹_› trivial ?_ | refine Zf ‹_› ?_ | refine touch_go rfl ?_ | refine eff_go rfl ?_ | fail
        · rw [if_neg h0] at hz
          have d0 : (false == decide (x = 0)) = true := by simp [h0]
          simp only [↓reduceIte, reduceCtorEq, reduceEqDiff, reduceAdd, reduceMul, reduceSub, reduceLeDiff, reduceEq, reduceLT, reduceLE, go_sem, h, hz]
          repeat' first | refine Z1 fun _ _ => ?_ | refine Z2 ‹_› ?_ | ((first | refine Z3 tb_ok lv6 rfl ?_ | refine Z4 tb_ok mix lv6 bs6 rfl (by kernel_rfl) rfl ?_ | refine ret_eq rfl ?_); simp only [↓reduceIte, reduceCtorEq, reduceEqDiff, reduceAdd, reduceMul, reduceSub, reduceLeDiff, reduceEq, reduceLT, reduceLE, go_sem]) | (refine Z5 rfl ?_; with_reducible first | refine condQ_T ?_ | refine condQ_F ?_) | refine Z6 ?_ | refine Z8 ?_ | refine Z9 fun _ _ => ?_ | refine Za ‹_› ?_ | refine Zc ‹_› trivial ?_ | refine Zf ‹_› ?_ | refine touch_go rfl ?_ | refine eff_go rfl ?_ | fail
          simp only [↓reduceIte, reduceCtorEq, reduceEqDiff, reduceAdd, reduceMul, reduceSub, reduceLeDiff, reduceEq, reduceLT, reduceLE, go_sem, d0]
          repeat' first | refine Z1 fun _ _ => ?_ | refine Z2 ‹_› ?_ | ((first | refine Z3 tb_ok lv6 rfl ?_ | refine Z4 tb_ok mix lv6 bs6 rfl (by kernel_rfl) rfl ?_ | refine ret_eq rfl ?_); simp only [↓reduceIte, reduceCtorEq, reduceEqDiff, reduceAdd, reduceMul, reduceSub, reduceLeDiff, reduceEq, reduceLT, reduceLE, go_sem]) | (refine Z5 rfl ?_; with_reducible first | refine condQ_T ?_ | refine condQ_F ?_) | refine Z6 ?_ | refine Z8 ?_ | refine Z9 fun _ _ => ?_ | refine Za ‹_› ?_ | refine Zc ‹_› trivial ?_ | refine Zf ‹_› ?_ | refine touch_go rfl ?_ | refine eff_go rfl ?_ | fail
      · have hz := ways7_one (lo := x) (hi := y) h hx (by omega)
        simp only [↓reduceIte, reduceCtorEq, reduceEqDiff, reduceAdd, reduceMul, reduceSub, reduceLeDiff, reduceEq, reduceLT, reduceLE, go_sem, h, hz]
        repeat' first | refine Z1 fun _ _ => ?_ | refine Z2 ‹_› ?_ | ((first | refine Z3 tb_ok lv6 rfl ?_ | refine Z4 tb_ok mix lv6 bs6 rfl (by kernel_rfl) rfl ?_ | refine ret_eq rfl ?_); simp only [↓reduceIte, reduceCtorEq, reduceEqDiff, reduceAdd, reduceMul, reduceSub, reduceLeDiff, reduceEq, reduceLT, reduceLE, go_sem]) | (refine Z5 rfl ?_; with_reducible first | refine condQ_T ?_ | refine condQ_F ?_) | refine Z6 ?_ | refine Z8 ?_ | refine Z9 fun _ _ => ?_ | refine Za ‹_› ?_ | refine Zc ‹_› trivial ?_ | refine Zf ‹_› ?_ | refine touch_go rfl ?_ | refine eff_go rfl ?_ | fail
      · have hz := ways7_two (lo := x) (hi := y) h hx (by omega)
        by_cases h0 : y = 0
        · rw [if_pos h0] at hz
          subst h0
          simp only [↓reduceIte, reduceCtorEq, reduceEqDiff, reduceAdd, reduceMul, reduceSub, reduceLeDiff, reduceEq, reduceLT, reduceLE, go_sem, h, hz]
          repeat' first | refine Z1 fun _ _ => ?_ | refine Z2 ‹_› ?_ | ((first | refine Z3 tb_ok lv6 rfl ?_ | refine Z4 tb_ok mix lv6 bs6 rfl (by kernel_rfl) rfl ?_ | refine ret_eq rfl ?_); simp only [↓reduceIte, reduceCtorEq, reduceEqDiff, reduceAdd, reduceMul, reduceSub, reduceLeDiff, reduceEq, reduceLT, reduceLE, go_sem]) | (refine Z5 rfl ?_; with_reducible first | refine condQ_T ?_ | refine condQ_F ?_) | refine Z6 ?_ | refine Z8 ?_ | refine Z9 fun _ _ => ?_ | refine Za ‹_› ?_ | refine Zc ‹_› trivial ?_ | refine Zf ‹_› ?_ | refine touch_go rfl ?_ | refine eff_go rfl ?_ | fail
          simp only [↓reduceIte, reduceCtorEq, reduceEqDiff, reduceAdd, reduceMul, reduceSub, reduceLeDiff, reduceEq, reduceLT, reduceLE, go_sem, beq_self_eq_true]
          repeat' first | refine Z1 fun _ _ => ?_ | refine Z2 ‹_› ?_ | ((first | refine Z3 tb_ok lv6 rfl ?_ | refine Z4 tb_ok mix lv6 bs6 rfl (by kernel_rfl) rfl ?_ | refine ret_eq rfl ?_); simp only [↓reduceIte, reduceCtorEq, reduceEqDiff, reduceAdd, reduceMul, reduceSub, reduceLeDiff, reduceEq, reduceLT, reduceLE, go_sem]) | (refine Z5 rfl ?_; with_reducible first | refine condQ_T ?_ | refine condQ_F ?_) | refine Z6 ?_ | refine Z8 ?_ | refine Z9 fun _ _ => ?_ | refine Za ‹_› ?_ | refine Zc ‹_› trivial ?_ | refine Zf ‹_› ?_ | refine touch_go rfl ?_ | refine eff_go rfl ?_ | fail
        · rw [if_neg h0] at hz
          have d0 : (false == decide (y = 0)) = true := by simp [h0]
          have d1 : (true == decide (0 < y)) = true := by simp; omega
          simp only [↓reduceIte, reduceCtorEq, reduceEqDiff, reduceAdd, reduceMul, reduceSub, reduceLeDiff, reduceEq, reduceLT, reduceLE, go_sem, h, hz]
          repeat' first | refine Z1 fun _ _ => ?_ | refine Z2 ‹_› ?_ | ((first | refine Z3 tb_ok lv6 rfl ?_ | refine Z4 tb_ok mix lv6 bs6 rfl (by kernel_rfl) rfl ?_ | refine ret_eq rfl ?_); simp only [↓reduceIte, reduceCtorEq, reduceEqDiff, reduceAdd, reduceMul, reduceSub, reduceLeDiff, reduceEq, reduceLT, reduceLE, go_sem]) | (refine Z5 rfl ?_; with_reducible first | refine condQ_T ?_ | refine condQ_F ?_) | refine Z6 ?_ | refine Z8 ?_ | refine Z9 fun _ _ => ?_ | refine Za ‹_› ?_ | refine Zc ‹_› trivial ?_ | refine Zf ‹_› ?_ | refine touch_go rfl ?_ | refine eff_go rfl ?_ | fail
          simp only [↓reduceIte, reduceCtorEq, reduceEqDiff, reduceAdd, reduceMul, reduceSub, reduceLeDiff, reduceEq, reduceLT, reduceLE, go_sem, d0, d1]
          repeat' first | refine Z1 fun _ _ => ?_ | refine Z2 ‹_› ?_ | ((first | refine Z3 tb_ok lv6 rfl ?_ | refine Z4 tb_ok mix lv6 bs6 rfl (by kernel_rfl) rfl ?_ | refine ret_eq rfl ?_); simp only [↓reduceIte, reduceCtorEq, reduceEqDiff, reduceAdd, reduceMul, reduceSub, reduceLeDiff, reduceEq, reduceLT, reduceLE, go_sem]) | (refine Z5 rfl ?_; with_reducible first | refine condQ_T ?_ | refine condQ_F ?_) | refine Z6 ?_ | refine Z8 ?_ | refine Z9 fun _ _ => ?_ | refine Za ‹_› ?_ | refine Zc ‹_› trivial ?_ | refine Zf ‹_› ?_ | refine touch_go rfl ?_ | refine eff_go rfl ?_ | fail
end Go.Proofs.YtpnipapelnkjbaaDoor
