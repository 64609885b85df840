/- scantlinglaw12.CountStar. -/
import Derived.Test.YtpibdbjlilpfiaaCntU
import Derived.Test.YtpibdbjlilpfiaaCntW
namespace Go.Proofs.Ytpibdbjlilpfiaa
set_option linter.all false
open Go Go.RowKit
open Nat renaming reduceEqDiff → Y1, reduceAdd → Y2, reduceMul → Y3, reduceSub → Y4, reduceLeDiff → Y5
open Int renaming reduceEq → Y6, reduceLT → Y7, reduceLE → Y8
open _root_ renaming reduceIte → Y0, reduceCtorEq → Y9

@[go_sem] def lv10 : List (Nat × List Nat) := [(0, [1, 2]), (1, [1, 2, 37]), (2, [4]), (3, [1, 2, 5]), (4, [1, 2, 5, 6]), (5, [1, 2, 5, 6, 7]), (6, [1, 2, 5, 6, 7, 47]), (7, [1, 2, 5, 6, 7]), (8, [1, 2, 5, 6, 7]), (9, [1, 2, 5, 6, 8]), (10, [1, 2, 5, 6, 8, 9]), (11, [1, 2, 5, 6, 8, 9, 10]), (12, [4])]
def bs10 : List (Nat × List Nat × List Nat) := [(8, [0, 1, 3, 3, 3, 27, 63, 127, 255, 255, 255, 1791, 4095, 8191, 16383, 32767], [6, 12]), (12, [0, 0, 3, 0, 15, 31, 63, 63, 255, 63, 63, 2047, 4095, 8191, 16383, 32767, 32767, 131071, 32767, 294911, 819199, 2097151, 4194303, 8388607, 16777215, 16777215, 67108863, 16777215, 16777215, 536870911, 1073741823, 2147483647, 4294967295], [2, 11, 29])]
set_option maxRecDepth 4000 in
set_option maxHeartbeats 4000000 in
theorem c_countStar {vars} {l : List Nd} {w : List UInt8} (hcl : ∀ i, (l.getD i Nd.z).cok) (hl : l.length ≤ 140737488355328) (htx : ∀ i, (l.getD i Nd.z).text.size ≤ 140737488355328) :
    PCon Try.prog ⟨vars, none⟩ 10 [desc l, bys w] (.bool true) := by
  have hff := c_fewB (gl := ⟨vars, none⟩) (l := l) (by omega) rfl
  have hft := c_Fits (gl := ⟨vars, none⟩) (l := l) (w := w)
  cases hfew : few l with
  | false =>
    rw [hfew] at hff
    refine PCon.enter tb_ok (fn := Try.f10) (by kernel_rfl) (by kernel_rfl) rfl (by show 2 ≤ 103; decide) ?_
    repeat' first | refine Z1 fun _ _ => ?_ | refine Z2 ‹_› ?_ | ((first | refine Z3 tb_ok lv10 rfl ?_ | refine Z4 tb_ok mix lv10 bs10 rfl (by kernel_rfl) rfl ?_ | refine Zr rfl ?_); simp only [↓Y0, Y9, Y1, Y2, Y3, Y4, Y5, Y6, Y7, Y8, go_sem]) | (refine Z5 rfl ?_; with_reducible first | refine ZT ?_ | refine ZF ?_) | refine ZS rfl ?_ | refine Z9 fun _ _ => ?_ | refine ZH ?_ | refine Zl ‹_› (by decide) ?_ | refine Zo rfl ?_ | refine Zp rfl ?_ | refine Zn rfl ?_ | fail
    refine call_pure rfl rfl (c_awake12) ?_; simp only [↓Y0, Y9, Y1, Y2, Y3, Y4, Y5, Y6, Y7, Y8, go_sem]
    repeat' first | refine Z1 fun _ _ => ?_ | refine Z2 ‹_› ?_ | ((first | refine Z3 tb_ok lv10 rfl ?_ | refine Z4 tb_ok mix lv10 bs10 rfl (by kernel_rfl) rfl ?_ | refine Zr rfl ?_); simp only [↓Y0, Y9, Y1, Y2, Y3, Y4, Y5, Y6, Y7, Y8, go_sem]) | (refine Z5 rfl ?_; with_reducible first | refine ZT ?_ | refine ZF ?_) | refine ZS rfl ?_ | refine Z9 fun _ _ => ?_ | refine ZH ?_ | refine Zl ‹_› (by decide) ?_ | refine Zo rfl ?_ | refine Zp rfl ?_ | refine Zn rfl ?_ | fail
    refine call_pure rfl rfl (hff) ?_; simp only [↓Y0, Y9, Y1, Y2, Y3, Y4, Y5, Y6, Y7, Y8, go_sem]
    repeat' first | refine Z1 fun _ _ => ?_ | refine Z2 ‹_› ?_ | ((first | refine Z3 tb_ok lv10 rfl ?_ | refine Z4 tb_ok mix lv10 bs10 rfl (by kernel_rfl) rfl ?_ | refine Zr rfl ?_); simp only [↓Y0, Y9, Y1, Y2, Y3, Y4, Y5, Y6, Y7, Y8, go_sem]) | (refine Z5 rfl ?_; with_reducible first | refine ZT ?_ | refine ZF ?_) | refine ZS rfl ?_ | refine Z9 fun _ _ => ?_ | refine ZH ?_ | refine Zl ‹_› (by decide) ?_ | refine Zo rfl ?_ | refine Zp rfl ?_ | refine Zn rfl ?_ | fail
    refine call_pure rfl rfl (c_awake12) ?_; simp only [↓Y0, Y9, Y1, Y2, Y3, Y4, Y5, Y6, Y7, Y8, go_sem]
    repeat' first | refine Z1 fun _ _ => ?_ | refine Z2 ‹_› ?_ | ((first | refine Z3 tb_ok lv10 rfl ?_ | refine Z4 tb_ok mix lv10 bs10 rfl (by kernel_rfl) rfl ?_ | refine Zr rfl ?_); simp only [↓Y0, Y9, Y1, Y2, Y3, Y4, Y5, Y6, Y7, Y8, go_sem]) | (refine Z5 rfl ?_; with_reducible first | refine ZT ?_ | refine ZF ?_) | refine ZS rfl ?_ | refine Z9 fun _ _ => ?_ | refine ZH ?_ | refine Zl ‹_› (by decide) ?_ | refine Zo rfl ?_ | refine Zp rfl ?_ | refine Zn rfl ?_ | fail
  | true =>
  rw [hfew] at hff
  cases hfit : decide (l.length ≤ 16 ∧ w.length ≤ 8) with
  | false =>
    rw [hfit] at hft
    refine PCon.enter tb_ok (fn := Try.f10) (by kernel_rfl) (by kernel_rfl) rfl (by show 2 ≤ 103; decide) ?_
    repeat' first | refine Z1 fun _ _ => ?_ | refine Z2 ‹_› ?_ | ((first | refine Z3 tb_ok lv10 rfl ?_ | refine Z4 tb_ok mix lv10 bs10 rfl (by kernel_rfl) rfl ?_ | refine Zr rfl ?_); simp only [↓Y0, Y9, Y1, Y2, Y3, Y4, Y5, Y6, Y7, Y8, go_sem]) | (refine Z5 rfl ?_; with_reducible first | refine ZT ?_ | refine ZF ?_) | refine ZS rfl ?_ | refine Z9 fun _ _ => ?_ | refine ZH ?_ | refine Zl ‹_› (by decide) ?_ | refine Zo rfl ?_ | refine Zp rfl ?_ | refine Zn rfl ?_ | fail
    refine call_pure rfl rfl (c_awake12) ?_; simp only [↓Y0, Y9, Y1, Y2, Y3, Y4, Y5, Y6, Y7, Y8, go_sem]
    repeat' first | refine Z1 fun _ _ => ?_ | refine Z2 ‹_› ?_ | ((first | refine Z3 tb_ok lv10 rfl ?_ | refine Z4 tb_ok mix lv10 bs10 rfl (by kernel_rfl) rfl ?_ | refine Zr rfl ?_); simp only [↓Y0, Y9, Y1, Y2, Y3, Y4, Y5, Y6, Y7, Y8, go_sem]) | (refine Z5 rfl ?_; with_reducible first | refine ZT ?_ | refine ZF ?_) | refine ZS rfl ?_ | refine Z9 fun _ _ => ?_ | refine ZH ?_ | refine Zl ‹_› (by decide) ?_ | refine Zo rfl ?_ | refine Zp rfl ?_ | refine Zn rfl ?_ | fail
    refine call_pure rfl rfl (hff) ?_; simp only [↓Y0, Y9, Y1, Y2, Y3, Y4, Y5, Y6, Y7, Y8, go_sem]
    repeat' first | refine Z1 fun _ _ => ?_ | refine Z2 ‹_› ?_ | ((first | refine Z3 tb_ok lv10 rfl ?_ | refine Z4 tb_ok mix lv10 bs10 rfl (by kernel_rfl) rfl ?_ | refine Zr rfl ?_); simp only [↓Y0, Y9, Y1, Y2, Y3, Y4, Y5, Y6, Y7, Y8, go_sem]) | (refine Z5 rfl ?_; with_reducible first | refine ZT ?_ | refine ZF ?_) | refine ZS rfl ?_ | refine Z9 fun _ _ => ?_ | refine ZH ?_ | refine Zl ‹_› (by decide) ?_ | refine Zo rfl ?_ | refine Zp rfl ?_ | refine Zn rfl ?_ | fail
    refine call_pure rfl rfl (hft) ?_; simp only [↓Y0, Y9, Y1, Y2, Y3, Y4, Y5, Y6, Y7, Y8, go_sem]
    repeat' first | refine Z1 fun _ _ => ?_ | refine Z2 ‹_› ?_ | ((first | refine Z3 tb_ok lv10 rfl ?_ | refine Z4 tb_ok mix lv10 bs10 rfl (by kernel_rfl) rfl ?_ | refine Zr rfl ?_); simp only [↓Y0, Y9, Y1, Y2, Y3, Y4, Y5, Y6, Y7, Y8, go_sem]) | (refine Z5 rfl ?_; with_reducible first | refine ZT ?_ | refine ZF ?_) | refine ZS rfl ?_ | refine Z9 fun _ _ => ?_ | refine ZH ?_ | refine Zl ‹_› (by decide) ?_ | refine Zo rfl ?_ | refine Zp rfl ?_ | refine Zn rfl ?_ | fail
    refine call_pure rfl rfl (c_awake12) ?_; simp only [↓Y0, Y9, Y1, Y2, Y3, Y4, Y5, Y6, Y7, Y8, go_sem]
    repeat' first | refine Z1 fun _ _ => ?_ | refine Z2 ‹_› ?_ | ((first | refine Z3 tb_ok lv10 rfl ?_ | refine Z4 tb_ok mix lv10 bs10 rfl (by kernel_rfl) rfl ?_ | refine Zr rfl ?_); simp only [↓Y0, Y9, Y1, Y2, Y3, Y4, Y5, Y6, Y7, Y8, go_sem]) | (refine Z5 rfl ?_; with_reducible first | refine ZT ?_ | refine ZF ?_) | refine ZS rfl ?_ | refine Z9 fun _ _ => ?_ | refine ZH ?_ | refine Zl ‹_› (by decide) ?_ | refine Zo rfl ?_ | refine Zp rfl ?_ | refine Zn rfl ?_ | fail
  | true =>
  rw [hfit] at hft
  obtain ⟨hl, htx⟩ := few_small htx hfew
  obtain ⟨b, hb, hright⟩ := c_right (gl := ⟨vars, none⟩) hl htx
  cases b with
  | false =>
    refine PCon.enter tb_ok (fn := Try.f10) (by kernel_rfl) (by kernel_rfl) rfl (by show 2 ≤ 103; decide) ?_
    repeat' first | refine Z1 fun _ _ => ?_ | refine Z2 ‹_› ?_ | ((first | refine Z3 tb_ok lv10 rfl ?_ | refine Z4 tb_ok mix lv10 bs10 rfl (by kernel_rfl) rfl ?_ | refine Zr rfl ?_); simp only [↓Y0, Y9, Y1, Y2, Y3, Y4, Y5, Y6, Y7, Y8, go_sem]) | (refine Z5 rfl ?_; with_reducible first | refine ZT ?_ | refine ZF ?_) | refine ZS rfl ?_ | refine Z9 fun _ _ => ?_ | refine ZH ?_ | refine Zl ‹_› (by decide) ?_ | refine Zo rfl ?_ | refine Zp rfl ?_ | refine Zn rfl ?_ | fail
    refine call_pure rfl rfl (c_awake12) ?_; simp only [↓Y0, Y9, Y1, Y2, Y3, Y4, Y5, Y6, Y7, Y8, go_sem]
    repeat' first | refine Z1 fun _ _ => ?_ | refine Z2 ‹_› ?_ | ((first | refine Z3 tb_ok lv10 rfl ?_ | refine Z4 tb_ok mix lv10 bs10 rfl (by kernel_rfl) rfl ?_ | refine Zr rfl ?_); simp only [↓Y0, Y9, Y1, Y2, Y3, Y4, Y5, Y6, Y7, Y8, go_sem]) | (refine Z5 rfl ?_; with_reducible first | refine ZT ?_ | refine ZF ?_) | refine ZS rfl ?_ | refine Z9 fun _ _ => ?_ | refine ZH ?_ | refine Zl ‹_› (by decide) ?_ | refine Zo rfl ?_ | refine Zp rfl ?_ | refine Zn rfl ?_ | fail
    refine call_pure rfl rfl (hff) ?_; simp only [↓Y0, Y9, Y1, Y2, Y3, Y4, Y5, Y6, Y7, Y8, go_sem]
    repeat' first | refine Z1 fun _ _ => ?_ | refine Z2 ‹_› ?_ | ((first | refine Z3 tb_ok lv10 rfl ?_ | refine Z4 tb_ok mix lv10 bs10 rfl (by kernel_rfl) rfl ?_ | refine Zr rfl ?_); simp only [↓Y0, Y9, Y1, Y2, Y3, Y4, Y5, Y6, Y7, Y8, go_sem]) | (refine Z5 rfl ?_; with_reducible first | refine ZT ?_ | refine ZF ?_) | refine ZS rfl ?_ | refine Z9 fun _ _ => ?_ | refine ZH ?_ | refine Zl ‹_› (by decide) ?_ | refine Zo rfl ?_ | refine Zp rfl ?_ | refine Zn rfl ?_ | fail
    refine call_pure rfl rfl (hft) ?_; simp only [↓Y0, Y9, Y1, Y2, Y3, Y4, Y5, Y6, Y7, Y8, go_sem]
    repeat' first | refine Z1 fun _ _ => ?_ | refine Z2 ‹_› ?_ | ((first | refine Z3 tb_ok lv10 rfl ?_ | refine Z4 tb_ok mix lv10 bs10 rfl (by kernel_rfl) rfl ?_ | refine Zr rfl ?_); simp only [↓Y0, Y9, Y1, Y2, Y3, Y4, Y5, Y6, Y7, Y8, go_sem]) | (refine Z5 rfl ?_; with_reducible first | refine ZT ?_ | refine ZF ?_) | refine ZS rfl ?_ | refine Z9 fun _ _ => ?_ | refine ZH ?_ | refine Zl ‹_› (by decide) ?_ | refine Zo rfl ?_ | refine Zp rfl ?_ | refine Zn rfl ?_ | fail
    refine call_pure rfl rfl (hright) ?_; simp only [↓Y0, Y9, Y1, Y2, Y3, Y4, Y5, Y6, Y7, Y8, go_sem]
    repeat' first | refine Z1 fun _ _ => ?_ | refine Z2 ‹_› ?_ | ((first | refine Z3 tb_ok lv10 rfl ?_ | refine Z4 tb_ok mix lv10 bs10 rfl (by kernel_rfl) rfl ?_ | refine Zr rfl ?_); simp only [↓Y0, Y9, Y1, Y2, Y3, Y4, Y5, Y6, Y7, Y8, go_sem]) | (refine Z5 rfl ?_; with_reducible first | refine ZT ?_ | refine ZF ?_) | refine ZS rfl ?_ | refine Z9 fun _ _ => ?_ | refine ZH ?_ | refine Zl ‹_› (by decide) ?_ | refine Zo rfl ?_ | refine Zp rfl ?_ | refine Zn rfl ?_ | fail
    refine call_pure rfl rfl (c_awake12) ?_; simp only [↓Y0, Y9, Y1, Y2, Y3, Y4, Y5, Y6, Y7, Y8, go_sem]
    repeat' first | refine Z1 fun _ _ => ?_ | refine Z2 ‹_› ?_ | ((first | refine Z3 tb_ok lv10 rfl ?_ | refine Z4 tb_ok mix lv10 bs10 rfl (by kernel_rfl) rfl ?_ | refine Zr rfl ?_); simp only [↓Y0, Y9, Y1, Y2, Y3, Y4, Y5, Y6, Y7, Y8, go_sem]) | (refine Z5 rfl ?_; with_reducible first | refine ZT ?_ | refine ZF ?_) | refine ZS rfl ?_ | refine Z9 fun _ _ => ?_ | refine ZH ?_ | refine Zl ‹_› (by decide) ?_ | refine Zo rfl ?_ | refine Zp rfl ?_ | refine Zn rfl ?_ | fail
  | true =>
  obtain ⟨t, rfl, hok⟩ := hb rfl
  have hc := cok_sits hcl t 0 (sits_flat t)
  rw [T.flat_len] at hl
  rw [decide_eq_true_eq, T.flat_len] at hfit
  have hp := t.n_pos
  have hways := c_ways (gl := ⟨vars, none⟩) (l := t.flat 0) (t := t) (i := t.n - 1) (by rw [T.flat_len]; omega) (sits_flat t) hok (by omega)
  have hwt := wayAt_tree t (sits_flat t) hok
  rw [Nat.zero_add] at hwt
  rw [hwt] at hways
  have hlw : IntKind.i64.wrap (((t.flat 0).length : Int) - 1) = ((t.n - 1 : Nat) : Int) := by rw [T.flat_len, wrap64 (by omega) (by omega)]; omega
  rw [← hlw] at hways
  by_cases hwz : t.ways = 0
  case neg =>
    have kwz : decide (¬ t.ways = 0) = true := by simp [hwz]
    refine PCon.enter tb_ok (fn := Try.f10) (by kernel_rfl) (by kernel_rfl) rfl (by show 2 ≤ 103; decide) ?_
    repeat' first | refine Z1 fun _ _ => ?_ | refine Z2 ‹_› ?_ | ((first | refine Z3 tb_ok lv10 rfl ?_ | refine Z4 tb_ok mix lv10 bs10 rfl (by kernel_rfl) rfl ?_ | refine Zr rfl ?_); simp only [↓Y0, Y9, Y1, Y2, Y3, Y4, Y5, Y6, Y7, Y8, go_sem]) | (refine Z5 rfl ?_; with_reducible first | refine ZT ?_ | refine ZF ?_) | refine ZS rfl ?_ | refine Z9 fun _ _ => ?_ | refine ZH ?_ | refine Zl ‹_› (by decide) ?_ | refine Zo rfl ?_ | refine Zp rfl ?_ | refine Zn rfl ?_ | fail
    refine call_pure rfl rfl (c_awake12) ?_; simp only [↓Y0, Y9, Y1, Y2, Y3, Y4, Y5, Y6, Y7, Y8, go_sem]
    repeat' first | refine Z1 fun _ _ => ?_ | refine Z2 ‹_› ?_ | ((first | refine Z3 tb_ok lv10 rfl ?_ | refine Z4 tb_ok mix lv10 bs10 rfl (by kernel_rfl) rfl ?_ | refine Zr rfl ?_); simp only [↓Y0, Y9, Y1, Y2, Y3, Y4, Y5, Y6, Y7, Y8, go_sem]) | (refine Z5 rfl ?_; with_reducible first | refine ZT ?_ | refine ZF ?_) | refine ZS rfl ?_ | refine Z9 fun _ _ => ?_ | refine ZH ?_ | refine Zl ‹_› (by decide) ?_ | refine Zo rfl ?_ | refine Zp rfl ?_ | refine Zn rfl ?_ | fail
    refine call_pure rfl rfl (hff) ?_; simp only [↓Y0, Y9, Y1, Y2, Y3, Y4, Y5, Y6, Y7, Y8, go_sem]
    repeat' first | refine Z1 fun _ _ => ?_ | refine Z2 ‹_› ?_ | ((first | refine Z3 tb_ok lv10 rfl ?_ | refine Z4 tb_ok mix lv10 bs10 rfl (by kernel_rfl) rfl ?_ | refine Zr rfl ?_); simp only [↓Y0, Y9, Y1, Y2, Y3, Y4, Y5, Y6, Y7, Y8, go_sem]) | (refine Z5 rfl ?_; with_reducible first | refine ZT ?_ | refine ZF ?_) | refine ZS rfl ?_ | refine Z9 fun _ _ => ?_ | refine ZH ?_ | refine Zl ‹_› (by decide) ?_ | refine Zo rfl ?_ | refine Zp rfl ?_ | refine Zn rfl ?_ | fail
    refine call_pure rfl rfl (hft) ?_; simp only [↓Y0, Y9, Y1, Y2, Y3, Y4, Y5, Y6, Y7, Y8, go_sem]
    repeat' first | refine Z1 fun _ _ => ?_ | refine Z2 ‹_› ?_ | ((first | refine Z3 tb_ok lv10 rfl ?_ | refine Z4 tb_ok mix lv10 bs10 rfl (by kernel_rfl) rfl ?_ | refine Zr rfl ?_); simp only [↓Y0, Y9, Y1, Y2, Y3, Y4, Y5, Y6, Y7, Y8, go_sem]) | (refine Z5 rfl ?_; with_reducible first | refine ZT ?_ | refine ZF ?_) | refine ZS rfl ?_ | refine Z9 fun _ _ => ?_ | refine ZH ?_ | refine Zl ‹_› (by decide) ?_ | refine Zo rfl ?_ | refine Zp rfl ?_ | refine Zn rfl ?_ | fail
    refine call_pure rfl rfl (hright) ?_; simp only [↓Y0, Y9, Y1, Y2, Y3, Y4, Y5, Y6, Y7, Y8, go_sem]
    repeat' first | refine Z1 fun _ _ => ?_ | refine Z2 ‹_› ?_ | ((first | refine Z3 tb_ok lv10 rfl ?_ | refine Z4 tb_ok mix lv10 bs10 rfl (by kernel_rfl) rfl ?_ | refine Zr rfl ?_); simp only [↓Y0, Y9, Y1, Y2, Y3, Y4, Y5, Y6, Y7, Y8, go_sem]) | (refine Z5 rfl ?_; with_reducible first | refine ZT ?_ | refine ZF ?_) | refine ZS rfl ?_ | refine Z9 fun _ _ => ?_ | refine ZH ?_ | refine Zl ‹_› (by decide) ?_ | refine Zo rfl ?_ | refine Zp rfl ?_ | refine Zn rfl ?_ | fail
    refine call_pure rfl rfl (hways) ?_; simp only [↓Y0, Y9, Y1, Y2, Y3, Y4, Y5, Y6, Y7, Y8, go_sem]
    repeat' first | refine Z1 fun _ _ => ?_ | refine Z2 ‹_› ?_ | ((first | refine Z3 tb_ok lv10 rfl ?_ | refine Z4 tb_ok mix lv10 bs10 rfl (by kernel_rfl) rfl ?_ | refine Zr rfl ?_); simp only [↓Y0, Y9, Y1, Y2, Y3, Y4, Y5, Y6, Y7, Y8, go_sem]) | (refine Z5 rfl ?_; with_reducible first | refine ZT ?_ | refine ZF ?_) | refine ZS rfl ?_ | refine Z9 fun _ _ => ?_ | refine ZH ?_ | refine Zl ‹_› (by decide) ?_ | refine Zo rfl ?_ | refine Zp rfl ?_ | refine Zn rfl ?_ | fail
    simp only [↓Y0, Y9, Y1, Y2, Y3, Y4, Y5, Y6, Y7, Y8, go_sem, kwz]
    repeat' first | refine Z1 fun _ _ => ?_ | refine Z2 ‹_› ?_ | ((first | refine Z3 tb_ok lv10 rfl ?_ | refine Z4 tb_ok mix lv10 bs10 rfl (by kernel_rfl) rfl ?_ | refine Zr rfl ?_); simp only [↓Y0, Y9, Y1, Y2, Y3, Y4, Y5, Y6, Y7, Y8, go_sem]) | (refine Z5 rfl ?_; with_reducible first | refine ZT ?_ | refine ZF ?_) | refine ZS rfl ?_ | refine Z9 fun _ _ => ?_ | refine ZH ?_ | refine Zl ‹_› (by decide) ?_ | refine Zo rfl ?_ | refine Zp rfl ?_ | refine Zn rfl ?_ | fail
    refine call_pure rfl rfl (c_awake12) ?_; simp only [↓Y0, Y9, Y1, Y2, Y3, Y4, Y5, Y6, Y7, Y8, go_sem]
    repeat' first | refine Z1 fun _ _ => ?_ | refine Z2 ‹_› ?_ | ((first | refine Z3 tb_ok lv10 rfl ?_ | refine Z4 tb_ok mix lv10 bs10 rfl (by kernel_rfl) rfl ?_ | refine Zr rfl ?_); simp only [↓Y0, Y9, Y1, Y2, Y3, Y4, Y5, Y6, Y7, Y8, go_sem]) | (refine Z5 rfl ?_; with_reducible first | refine ZT ?_ | refine ZF ?_) | refine ZS rfl ?_ | refine Z9 fun _ _ => ?_ | refine ZH ?_ | refine Zl ‹_› (by decide) ?_ | refine Zo rfl ?_ | refine Zp rfl ?_ | refine Zn rfl ?_ | fail
  have kwz : decide (¬ t.ways = 0) = false := by simp [hwz]
  have hs6 : (T.one 6 0 0 t).ok txtOk := ⟨.inl ⟨.inl rfl, rfl, rfl⟩, hok⟩
  have p6 := c_wrap (gl := ⟨vars, none⟩) (k := 6) (lo := 0) (hi := 0) (t := t) (by omega) hok
  have p1 := c_wrap (gl := ⟨vars, none⟩) (k := 7) (lo := 1) (hi := 1) (t := t) (by omega) hok
  have p0 := c_wrap (gl := ⟨vars, none⟩) (k := 7) (lo := 0) (hi := 0) (t := t) (by omega) hok
  have pm := c_wrap (gl := ⟨vars, none⟩) (k := 7) (lo := 0) (hi := 255) (t := t) (by omega) hok
  refine PCon.enter tb_ok (fn := Try.f10) (by kernel_rfl) (by kernel_rfl) rfl (by show 2 ≤ 103; decide) ?_
  repeat' first | refine Z1 fun _ _ => ?_ | refine Z2 ‹_› ?_ | ((first | refine Z3 tb_ok lv10 rfl ?_ | refine Z4 tb_ok mix lv10 bs10 rfl (by kernel_rfl) rfl ?_ | refine Zr rfl ?_); simp only [↓Y0, Y9, Y1, Y2, Y3, Y4, Y5, Y6, Y7, Y8, go_sem]) | (refine Z5 rfl ?_; with_reducible first | refine ZT ?_ | refine ZF ?_) | refine ZS rfl ?_ | refine Z9 fun _ _ => ?_ | refine ZH ?_ | refine Zl ‹_› (by decide) ?_ | refine Zo rfl ?_ | refine Zp rfl ?_ | refine Zn rfl ?_ | fail
  refine call_pure rfl rfl (c_awake12) ?_; simp only [↓Y0, Y9, Y1, Y2, Y3, Y4, Y5, Y6, Y7, Y8, go_sem]
  repeat' first | refine Z1 fun _ _ => ?_ | refine Z2 ‹_› ?_ | ((first | refine Z3 tb_ok lv10 rfl ?_ | refine Z4 tb_ok mix lv10 bs10 rfl (by kernel_rfl) rfl ?_ | refine Zr rfl ?_); simp only [↓Y0, Y9, Y1, Y2, Y3, Y4, Y5, Y6, Y7, Y8, go_sem]) | (refine Z5 rfl ?_; with_reducible first | refine ZT ?_ | refine ZF ?_) | refine ZS rfl ?_ | refine Z9 fun _ _ => ?_ | refine ZH ?_ | refine Zl ‹_› (by decide) ?_ | refine Zo rfl ?_ | refine Zp rfl ?_ | refine Zn rfl ?_ | fail
  refine call_pure rfl rfl (hff) ?_; simp only [↓Y0, Y9, Y1, Y2, Y3, Y4, Y5, Y6, Y7, Y8, go_sem]
  repeat' first | refine Z1 fun _ _ => ?_ | refine Z2 ‹_› ?_ | ((first | refine Z3 tb_ok lv10 rfl ?_ | refine Z4 tb_ok mix lv10 bs10 rfl (by kernel_rfl) rfl ?_ | refine Zr rfl ?_); simp only [↓Y0, Y9, Y1, Y2, Y3, Y4, Y5, Y6, Y7, Y8, go_sem]) | (refine Z5 rfl ?_; with_reducible first | refine ZT ?_ | refine ZF ?_) | refine ZS rfl ?_ | refine Z9 fun _ _ => ?_ | refine ZH ?_ | refine Zl ‹_› (by decide) ?_ | refine Zo rfl ?_ | refine Zp rfl ?_ | refine Zn rfl ?_ | fail
  refine call_pure rfl rfl (hft) ?_; simp only [↓Y0, Y9, Y1, Y2, Y3, Y4, Y5, Y6, Y7, Y8, go_sem]
  repeat' first | refine Z1 fun _ _ => ?_ | refine Z2 ‹_› ?_ | ((first | refine Z3 tb_ok lv10 rfl ?_ | refine Z4 tb_ok mix lv10 bs10 rfl (by kernel_rfl) rfl ?_ | refine Zr rfl ?_); simp only [↓Y0, Y9, Y1, Y2, Y3, Y4, Y5, Y6, Y7, Y8, go_sem]) | (refine Z5 rfl ?_; with_reducible first | refine ZT ?_ | refine ZF ?_) | refine ZS rfl ?_ | refine Z9 fun _ _ => ?_ | refine ZH ?_ | refine Zl ‹_› (by decide) ?_ | refine Zo rfl ?_ | refine Zp rfl ?_ | refine Zn rfl ?_ | fail
  refine call_pure rfl rfl (hright) ?_; simp only [↓Y0, Y9, Y1, Y2, Y3, Y4, Y5, Y6, Y7, Y8, go_sem]
  repeat' first | refine Z1 fun _ _ => ?_ | refine Z2 ‹_› ?_ | ((first | refine Z3 tb_ok lv10 rfl ?_ | refine Z4 tb_ok mix lv10 bs10 rfl (by kernel_rfl) rfl ?_ | refine Zr rfl ?_); simp only [↓Y0, Y9, Y1, Y2, Y3, Y4, Y5, Y6, Y7, Y8, go_sem]) | (refine Z5 rfl ?_; with_reducible first | refine ZT ?_ | refine ZF ?_) | refine ZS rfl ?_ | refine Z9 fun _ _ => ?_ | refine ZH ?_ | refine Zl ‹_› (by decide) ?_ | refine Zo rfl ?_ | refine Zp rfl ?_ | refine Zn rfl ?_ | fail
  refine call_pure rfl rfl (hways) ?_; simp only [↓Y0, Y9, Y1, Y2, Y3, Y4, Y5, Y6, Y7, Y8, go_sem]
  repeat' first | refine Z1 fun _ _ => ?_ | refine Z2 ‹_› ?_ | ((first | refine Z3 tb_ok lv10 rfl ?_ | refine Z4 tb_ok mix lv10 bs10 rfl (by kernel_rfl) rfl ?_ | refine Zr rfl ?_); simp only [↓Y0, Y9, Y1, Y2, Y3, Y4, Y5, Y6, Y7, Y8, go_sem]) | (refine Z5 rfl ?_; with_reducible first | refine ZT ?_ | refine ZF ?_) | refine ZS rfl ?_ | refine Z9 fun _ _ => ?_ | refine ZH ?_ | refine Zl ‹_› (by decide) ?_ | refine Zo rfl ?_ | refine Zp rfl ?_ | refine Zn rfl ?_ | fail
  simp only [↓Y0, Y9, Y1, Y2, Y3, Y4, Y5, Y6, Y7, Y8, go_sem, kwz]
  repeat' first | refine Z1 fun _ _ => ?_ | refine Z2 ‹_› ?_ | ((first | refine Z3 tb_ok lv10 rfl ?_ | refine Z4 tb_ok mix lv10 bs10 rfl (by kernel_rfl) rfl ?_ | refine Zr rfl ?_); simp only [↓Y0, Y9, Y1, Y2, Y3, Y4, Y5, Y6, Y7, Y8, go_sem]) | (refine Z5 rfl ?_; with_reducible first | refine ZT ?_ | refine ZF ?_) | refine ZS rfl ?_ | refine Z9 fun _ _ => ?_ | refine ZH ?_ | refine Zl ‹_› (by decide) ?_ | refine Zo rfl ?_ | refine Zp rfl ?_ | refine Zn rfl ?_ | fail
  refine call_pure rfl rfl (p6) ?_; simp only [↓Y0, Y9, Y1, Y2, Y3, Y4, Y5, Y6, Y7, Y8, go_sem]
  repeat' first | refine Z1 fun _ _ => ?_ | refine Z2 ‹_› ?_ | ((first | refine Z3 tb_ok lv10 rfl ?_ | refine Z4 tb_ok mix lv10 bs10 rfl (by kernel_rfl) rfl ?_ | refine Zr rfl ?_); simp only [↓Y0, Y9, Y1, Y2, Y3, Y4, Y5, Y6, Y7, Y8, go_sem]) | (refine Z5 rfl ?_; with_reducible first | refine ZT ?_ | refine ZF ?_) | refine ZS rfl ?_ | refine Z9 fun _ _ => ?_ | refine ZH ?_ | refine Zl ‹_› (by decide) ?_ | refine Zo rfl ?_ | refine Zp rfl ?_ | refine Zn rfl ?_ | fail
  refine .loopC (α := Nat) (fun k => ⟨[(1, .d (bys w)), (2, .ref 0 0), (5, .ref 31 0), (6, .d (.bool (starB t w k))), (7, .d (.int .i64 ((k : Int) + 1)))], [(31, .box true [.d (nds ((T.one 6 0 0 t).flat 0))]), (0, .box true [.d (nds (t.flat 0))])], 38⟩) (fun k => k ≤ w.length) (fun k => w.length - k) 0 (by omega) (by simp only [↓Y0, Y9, Y1, Y2, Y3, Y4, Y5, Y6, Y7, Y8, go_sem]; simp [starB]) ?_
  intro k hk Q hQ
  repeat' first | refine Z1 fun _ _ => ?_ | refine Z2 ‹_› ?_ | ((first | refine Z3 tb_ok lv10 rfl ?_ | refine Z4 tb_ok mix lv10 bs10 rfl (by kernel_rfl) rfl ?_ | refine Zr rfl ?_); simp only [↓Y0, Y9, Y1, Y2, Y3, Y4, Y5, Y6, Y7, Y8, go_sem]) | (refine Z5 rfl ?_; with_reducible first | refine ZT ?_ | refine ZF ?_) | refine ZS rfl ?_ | refine Z9 fun _ _ => ?_ | refine ZH ?_ | refine Zl ‹_› (by decide) ?_ | refine Zo rfl ?_ | refine Zp rfl ?_ | refine Zn rfl ?_ | fail
  refine .cond rfl (fun h => ?_) (fun h => ?_)
  · simp only [decide_eq_true_eq] at h
    have a1 := c_cHas (vars := vars) (t := t) (w := w.take (k + 1)) (by omega) (by rw [List.length_take]; omega) hok hc
    have b1 := c_cHas (vars := vars) (t := .one 6 0 0 t) (w := w.drop (k + 1)) (by simp only [T.n]; omega) (by rw [List.length_drop]; omega) hs6 hc
    simp only [bys, List.map_take, List.map_drop] at a1 b1
    cases hsb : starB t w k with
    | true =>
      repeat' first | refine Z1 fun _ _ => ?_ | refine Z2 ‹_› ?_ | ((first | refine Z3 tb_ok lv10 rfl ?_ | refine Z4 tb_ok mix lv10 bs10 rfl (by kernel_rfl) rfl ?_ | refine Zr rfl ?_); simp only [↓Y0, Y9, Y1, Y2, Y3, Y4, Y5, Y6, Y7, Y8, go_sem]) | (refine Z5 rfl ?_; with_reducible first | refine ZT ?_ | refine ZF ?_) | refine ZS rfl ?_ | refine Z9 fun _ _ => ?_ | refine ZH ?_ | refine Zl ‹_› (by decide) ?_ | refine Zo rfl ?_ | refine Zp rfl ?_ | refine Zn rfl ?_ | fail
      rw [wrap64 (by omega) (by omega)]
      exact hQ.next (k + 1) (by omega) (by omega) (by simp only [↓Y0, Y9, Y1, Y2, Y3, Y4, Y5, Y6, Y7, Y8, go_sem]; simp [starB, hsb])
    | false =>
      repeat' first | refine Z1 fun _ _ => ?_ | refine Z2 ‹_› ?_ | ((first | refine Z3 tb_ok lv10 rfl ?_ | refine Z4 tb_ok mix lv10 bs10 rfl (by kernel_rfl) rfl ?_ | refine Zr rfl ?_); simp only [↓Y0, Y9, Y1, Y2, Y3, Y4, Y5, Y6, Y7, Y8, go_sem]) | (refine Z5 rfl ?_; with_reducible first | refine ZT ?_ | refine ZF ?_) | refine ZS rfl ?_ | refine Z9 fun _ _ => ?_ | refine ZH ?_ | refine Zl ‹_› (by decide) ?_ | refine Zo rfl ?_ | refine Zp rfl ?_ | refine Zn rfl ?_ | fail
      refine ⟨fun e he => by obtain ⟨b, _, rfl⟩ := List.mem_map.1 he; rfl, by omega, by omega, ?_⟩
      rw [show ((k : Int) + 1).toNat - 0 = k + 1 by omega]
      repeat' first | refine Z1 fun _ _ => ?_ | refine Z2 ‹_› ?_ | ((first | refine Z3 tb_ok lv10 rfl ?_ | refine Z4 tb_ok mix lv10 bs10 rfl (by kernel_rfl) rfl ?_ | refine Zr rfl ?_); simp only [↓Y0, Y9, Y1, Y2, Y3, Y4, Y5, Y6, Y7, Y8, go_sem]) | (refine Z5 rfl ?_; with_reducible first | refine ZT ?_ | refine ZF ?_) | refine ZS rfl ?_ | refine Z9 fun _ _ => ?_ | refine ZH ?_ | refine Zl ‹_› (by decide) ?_ | refine Zo rfl ?_ | refine Zp rfl ?_ | refine Zn rfl ?_ | fail
      cases hA : decide (0 < (t.fnd (w.take (k + 1))).length) with
      | false =>
        rw [hA] at a1
        refine call_pure rfl rfl (a1) ?_; simp only [↓Y0, Y9, Y1, Y2, Y3, Y4, Y5, Y6, Y7, Y8, go_sem]
        repeat' first | refine Z1 fun _ _ => ?_ | refine Z2 ‹_› ?_ | ((first | refine Z3 tb_ok lv10 rfl ?_ | refine Z4 tb_ok mix lv10 bs10 rfl (by kernel_rfl) rfl ?_ | refine Zr rfl ?_); simp only [↓Y0, Y9, Y1, Y2, Y3, Y4, Y5, Y6, Y7, Y8, go_sem]) | (refine Z5 rfl ?_; with_reducible first | refine ZT ?_ | refine ZF ?_) | refine ZS rfl ?_ | refine Z9 fun _ _ => ?_ | refine ZH ?_ | refine Zl ‹_› (by decide) ?_ | refine Zo rfl ?_ | refine Zp rfl ?_ | refine Zn rfl ?_ | fail
        rw [wrap64 (by omega) (by omega)]
        exact hQ.next (k + 1) (by omega) (by omega) (by simp only [↓Y0, Y9, Y1, Y2, Y3, Y4, Y5, Y6, Y7, Y8, go_sem]; simp [starB, hsb, hA])
      | true =>
        rw [hA] at a1
        refine call_pure rfl rfl (a1) ?_; simp only [↓Y0, Y9, Y1, Y2, Y3, Y4, Y5, Y6, Y7, Y8, go_sem]
        repeat' first | refine Z1 fun _ _ => ?_ | refine Z2 ‹_› ?_ | ((first | refine Z3 tb_ok lv10 rfl ?_ | refine Z4 tb_ok mix lv10 bs10 rfl (by kernel_rfl) rfl ?_ | refine Zr rfl ?_); simp only [↓Y0, Y9, Y1, Y2, Y3, Y4, Y5, Y6, Y7, Y8, go_sem]) | (refine Z5 rfl ?_; with_reducible first | refine ZT ?_ | refine ZF ?_) | refine ZS rfl ?_ | refine Z9 fun _ _ => ?_ | refine ZH ?_ | refine Zl ‹_› (by decide) ?_ | refine Zo rfl ?_ | refine Zp rfl ?_ | refine Zn rfl ?_ | fail
        refine ⟨fun e he => by obtain ⟨b, _, rfl⟩ := List.mem_map.1 he; rfl, by omega, by omega, ?_⟩
        rw [show ((k : Int) + 1).toNat = k + 1 by omega, show List.take (w.length - (k + 1)) (List.drop (k + 1) (List.map encB w)) = List.drop (k + 1) (List.map encB w) from List.take_of_length_le (by simp)]
        repeat' first | refine Z1 fun _ _ => ?_ | refine Z2 ‹_› ?_ | ((first | refine Z3 tb_ok lv10 rfl ?_ | refine Z4 tb_ok mix lv10 bs10 rfl (by kernel_rfl) rfl ?_ | refine Zr rfl ?_); simp only [↓Y0, Y9, Y1, Y2, Y3, Y4, Y5, Y6, Y7, Y8, go_sem]) | (refine Z5 rfl ?_; with_reducible first | refine ZT ?_ | refine ZF ?_) | refine ZS rfl ?_ | refine Z9 fun _ _ => ?_ | refine ZH ?_ | refine Zl ‹_› (by decide) ?_ | refine Zo rfl ?_ | refine Zp rfl ?_ | refine Zn rfl ?_ | fail
        refine call_pure rfl rfl (b1) ?_; simp only [↓Y0, Y9, Y1, Y2, Y3, Y4, Y5, Y6, Y7, Y8, go_sem]
        repeat' first | refine Z1 fun _ _ => ?_ | refine Z2 ‹_› ?_ | ((first | refine Z3 tb_ok lv10 rfl ?_ | refine Z4 tb_ok mix lv10 bs10 rfl (by kernel_rfl) rfl ?_ | refine Zr rfl ?_); simp only [↓Y0, Y9, Y1, Y2, Y3, Y4, Y5, Y6, Y7, Y8, go_sem]) | (refine Z5 rfl ?_; with_reducible first | refine ZT ?_ | refine ZF ?_) | refine ZS rfl ?_ | refine Z9 fun _ _ => ?_ | refine ZH ?_ | refine Zl ‹_› (by decide) ?_ | refine Zo rfl ?_ | refine Zp rfl ?_ | refine Zn rfl ?_ | fail
        rw [wrap64 (by omega) (by omega)]
        exact hQ.next (k + 1) (by omega) (by omega) (by simp only [↓Y0, Y9, Y1, Y2, Y3, Y4, Y5, Y6, Y7, Y8, go_sem]; simp [starB, hsb, hA])
  · simp only [decide_eq_false_iff_not] at h
    obtain rfl : k = w.length := by omega
    rw [star_has hok] at *
    have e1 := rep_one (w := w) hok (fun v hv => ways_nil hok hwz v hv.2)
    have e0 := rep_none (w := w) hok
    have em := rep_most (w := w) hok (by omega)
    have h1' : (T.one 7 1 1 t).ok txtOk := ⟨.inr ⟨rfl, by omega, by omega, by omega⟩, hok⟩
    have h0' : (T.one 7 0 0 t).ok txtOk := ⟨.inr ⟨rfl, by omega, by omega, by omega⟩, hok⟩
    have hm' : (T.one 7 0 255 t).ok txtOk := ⟨.inr ⟨rfl, by omega, by omega, by omega⟩, hok⟩
    have s6 := c_cHas (vars := vars) (t := .one 6 0 0 t) (w := w) (by simp only [T.n]; omega) (by omega) hs6 hc
    have w6 := c_cWays (vars := vars) (t := .one 6 0 0 t) (w := w) (by simp only [T.n]; omega) (by omega) hs6 hc
    have w1 := c_cWays (vars := vars) (t := .one 7 1 1 t) (w := w) (by simp only [T.n]; omega) (by omega) h1' hc
    have wt := c_cWays (vars := vars) (t := t) (w := w) (by omega) (by omega) hok hc
    have s0 := c_cHas (vars := vars) (t := .one 7 0 0 t) (w := w) (by simp only [T.n]; omega) (by omega) h0' hc
    have wm := c_cWays (vars := vars) (t := .one 7 0 255 t) (w := w) (by simp only [T.n]; omega) (by omega) hm' hc
    rw [e1] at w1
    rw [e0] at s0
    rw [em] at wm
    have k0 : decide (w.length = 0) = decide ((w.length : Int) = 0) := by
      rw [Bool.eq_iff_iff, decide_eq_true_eq, decide_eq_true_eq]
      omega
    rw [k0] at s0
    repeat' first | refine Z1 fun _ _ => ?_ | refine Z2 ‹_› ?_ | ((first | refine Z3 tb_ok lv10 rfl ?_ | refine Z4 tb_ok mix lv10 bs10 rfl (by kernel_rfl) rfl ?_ | refine Zr rfl ?_); simp only [↓Y0, Y9, Y1, Y2, Y3, Y4, Y5, Y6, Y7, Y8, go_sem]) | (refine Z5 rfl ?_; with_reducible first | refine ZT ?_ | refine ZF ?_) | refine ZS rfl ?_ | refine Z9 fun _ _ => ?_ | refine ZH ?_ | refine Zl ‹_› (by decide) ?_ | refine Zo rfl ?_ | refine Zp rfl ?_ | refine Zn rfl ?_ | fail
    refine call_pure rfl rfl (p1) ?_; simp only [↓Y0, Y9, Y1, Y2, Y3, Y4, Y5, Y6, Y7, Y8, go_sem]
    repeat' first | refine Z1 fun _ _ => ?_ | refine Z2 ‹_› ?_ | ((first | refine Z3 tb_ok lv10 rfl ?_ | refine Z4 tb_ok mix lv10 bs10 rfl (by kernel_rfl) rfl ?_ | refine Zr rfl ?_); simp only [↓Y0, Y9, Y1, Y2, Y3, Y4, Y5, Y6, Y7, Y8, go_sem]) | (refine Z5 rfl ?_; with_reducible first | refine ZT ?_ | refine ZF ?_) | refine ZS rfl ?_ | refine Z9 fun _ _ => ?_ | refine ZH ?_ | refine Zl ‹_› (by decide) ?_ | refine Zo rfl ?_ | refine Zp rfl ?_ | refine Zn rfl ?_ | fail
    refine call_pure rfl rfl (p0) ?_; simp only [↓Y0, Y9, Y1, Y2, Y3, Y4, Y5, Y6, Y7, Y8, go_sem]
    repeat' first | refine Z1 fun _ _ => ?_ | refine Z2 ‹_› ?_ | ((first | refine Z3 tb_ok lv10 rfl ?_ | refine Z4 tb_ok mix lv10 bs10 rfl (by kernel_rfl) rfl ?_ | refine Zr rfl ?_); simp only [↓Y0, Y9, Y1, Y2, Y3, Y4, Y5, Y6, Y7, Y8, go_sem]) | (refine Z5 rfl ?_; with_reducible first | refine ZT ?_ | refine ZF ?_) | refine ZS rfl ?_ | refine Z9 fun _ _ => ?_ | refine ZH ?_ | refine Zl ‹_› (by decide) ?_ | refine Zo rfl ?_ | refine Zp rfl ?_ | refine Zn rfl ?_ | fail
    refine call_pure rfl rfl (pm) ?_; simp only [↓Y0, Y9, Y1, Y2, Y3, Y4, Y5, Y6, Y7, Y8, go_sem]
    repeat' first | refine Z1 fun _ _ => ?_ | refine Z2 ‹_› ?_ | ((first | refine Z3 tb_ok lv10 rfl ?_ | refine Z4 tb_ok mix lv10 bs10 rfl (by kernel_rfl) rfl ?_ | refine Zr rfl ?_); simp only [↓Y0, Y9, Y1, Y2, Y3, Y4, Y5, Y6, Y7, Y8, go_sem]) | (refine Z5 rfl ?_; with_reducible first | refine ZT ?_ | refine ZF ?_) | refine ZS rfl ?_ | refine Z9 fun _ _ => ?_ | refine ZH ?_ | refine Zl ‹_› (by decide) ?_ | refine Zo rfl ?_ | refine Zp rfl ?_ | refine Zn rfl ?_ | fail
    refine call_pure rfl rfl (s6) ?_; simp only [↓Y0, Y9, Y1, Y2, Y3, Y4, Y5, Y6, Y7, Y8, go_sem]
    repeat' first | refine Z1 fun _ _ => ?_ | refine Z2 ‹_› ?_ | ((first | refine Z3 tb_ok lv10 rfl ?_ | refine Z4 tb_ok mix lv10 bs10 rfl (by kernel_rfl) rfl ?_ | refine Zr rfl ?_); simp only [↓Y0, Y9, Y1, Y2, Y3, Y4, Y5, Y6, Y7, Y8, go_sem]) | (refine Z5 rfl ?_; with_reducible first | refine ZT ?_ | refine ZF ?_) | refine ZS rfl ?_ | refine Z9 fun _ _ => ?_ | refine ZH ?_ | refine Zl ‹_› (by decide) ?_ | refine Zo rfl ?_ | refine Zp rfl ?_ | refine Zn rfl ?_ | fail
    simp only [↓Y0, Y9, Y1, Y2, Y3, Y4, Y5, Y6, Y7, Y8, go_sem, beq_self_eq_true]
    repeat' first | refine Z1 fun _ _ => ?_ | refine Z2 ‹_› ?_ | ((first | refine Z3 tb_ok lv10 rfl ?_ | refine Z4 tb_ok mix lv10 bs10 rfl (by kernel_rfl) rfl ?_ | refine Zr rfl ?_); simp only [↓Y0, Y9, Y1, Y2, Y3, Y4, Y5, Y6, Y7, Y8, go_sem]) | (refine Z5 rfl ?_; with_reducible first | refine ZT ?_ | refine ZF ?_) | refine ZS rfl ?_ | refine Z9 fun _ _ => ?_ | refine ZH ?_ | refine Zl ‹_› (by decide) ?_ | refine Zo rfl ?_ | refine Zp rfl ?_ | refine Zn rfl ?_ | fail
    refine call_pure rfl rfl (w1) ?_; simp only [↓Y0, Y9, Y1, Y2, Y3, Y4, Y5, Y6, Y7, Y8, go_sem]
    repeat' first | refine Z1 fun _ _ => ?_ | refine Z2 ‹_› ?_ | ((first | refine Z3 tb_ok lv10 rfl ?_ | refine Z4 tb_ok mix lv10 bs10 rfl (by kernel_rfl) rfl ?_ | refine Zr rfl ?_); simp only [↓Y0, Y9, Y1, Y2, Y3, Y4, Y5, Y6, Y7, Y8, go_sem]) | (refine Z5 rfl ?_; with_reducible first | refine ZT ?_ | refine ZF ?_) | refine ZS rfl ?_ | refine Z9 fun _ _ => ?_ | refine ZH ?_ | refine Zl ‹_› (by decide) ?_ | refine Zo rfl ?_ | refine Zp rfl ?_ | refine Zn rfl ?_ | fail
    refine call_pure rfl rfl (wt) ?_; simp only [↓Y0, Y9, Y1, Y2, Y3, Y4, Y5, Y6, Y7, Y8, go_sem]
    repeat' first | refine Z1 fun _ _ => ?_ | refine Z2 ‹_› ?_ | ((first | refine Z3 tb_ok lv10 rfl ?_ | refine Z4 tb_ok mix lv10 bs10 rfl (by kernel_rfl) rfl ?_ | refine Zr rfl ?_); simp only [↓Y0, Y9, Y1, Y2, Y3, Y4, Y5, Y6, Y7, Y8, go_sem]) | (refine Z5 rfl ?_; with_reducible first | refine ZT ?_ | refine ZF ?_) | refine ZS rfl ?_ | refine Z9 fun _ _ => ?_ | refine ZH ?_ | refine Zl ‹_› (by decide) ?_ | refine Zo rfl ?_ | refine Zp rfl ?_ | refine Zn rfl ?_ | fail
    refine call_pure rfl rfl (s0) ?_; simp only [↓Y0, Y9, Y1, Y2, Y3, Y4, Y5, Y6, Y7, Y8, go_sem]
    repeat' first | refine Z1 fun _ _ => ?_ | refine Z2 ‹_› ?_ | ((first | refine Z3 tb_ok lv10 rfl ?_ | refine Z4 tb_ok mix lv10 bs10 rfl (by kernel_rfl) rfl ?_ | refine Zr rfl ?_); simp only [↓Y0, Y9, Y1, Y2, Y3, Y4, Y5, Y6, Y7, Y8, go_sem]) | (refine Z5 rfl ?_; with_reducible first | refine ZT ?_ | refine ZF ?_) | refine ZS rfl ?_ | refine Z9 fun _ _ => ?_ | refine ZH ?_ | refine Zl ‹_› (by decide) ?_ | refine Zo rfl ?_ | refine Zp rfl ?_ | refine Zn rfl ?_ | fail
    simp only [↓Y0, Y9, Y1, Y2, Y3, Y4, Y5, Y6, Y7, Y8, go_sem, beq_self_eq_true]
    repeat' first | refine Z1 fun _ _ => ?_ | refine Z2 ‹_› ?_ | ((first | refine Z3 tb_ok lv10 rfl ?_ | refine Z4 tb_ok mix lv10 bs10 rfl (by kernel_rfl) rfl ?_ | refine Zr rfl ?_); simp only [↓Y0, Y9, Y1, Y2, Y3, Y4, Y5, Y6, Y7, Y8, go_sem]) | (refine Z5 rfl ?_; with_reducible first | refine ZT ?_ | refine ZF ?_) | refine ZS rfl ?_ | refine Z9 fun _ _ => ?_ | refine ZH ?_ | refine Zl ‹_› (by decide) ?_ | refine Zo rfl ?_ | refine Zp rfl ?_ | refine Zn rfl ?_ | fail
    refine call_pure rfl rfl (wm) ?_; simp only [↓Y0, Y9, Y1, Y2, Y3, Y4, Y5, Y6, Y7, Y8, go_sem]
    repeat' first | refine Z1 fun _ _ => ?_ | refine Z2 ‹_› ?_ | ((first | refine Z3 tb_ok lv10 rfl ?_ | refine Z4 tb_ok mix lv10 bs10 rfl (by kernel_rfl) rfl ?_ | refine Zr rfl ?_); simp only [↓Y0, Y9, Y1, Y2, Y3, Y4, Y5, Y6, Y7, Y8, go_sem]) | (refine Z5 rfl ?_; with_reducible first | refine ZT ?_ | refine ZF ?_) | refine ZS rfl ?_ | refine Z9 fun _ _ => ?_ | refine ZH ?_ | refine Zl ‹_› (by decide) ?_ | refine Zo rfl ?_ | refine Zp rfl ?_ | refine Zn rfl ?_ | fail
    refine call_pure rfl rfl (w6) ?_; simp only [↓Y0, Y9, Y1, Y2, Y3, Y4, Y5, Y6, Y7, Y8, go_sem]
    repeat' first | refine Z1 fun _ _ => ?_ | refine Z2 ‹_› ?_ | ((first | refine Z3 tb_ok lv10 rfl ?_ | refine Z4 tb_ok mix lv10 bs10 rfl (by kernel_rfl) rfl ?_ | refine Zr rfl ?_); simp only [↓Y0, Y9, Y1, Y2, Y3, Y4, Y5, Y6, Y7, Y8, go_sem]) | (refine Z5 rfl ?_; with_reducible first | refine ZT ?_ | refine ZF ?_) | refine ZS rfl ?_ | refine Z9 fun _ _ => ?_ | refine ZH ?_ | refine Zl ‹_› (by decide) ?_ | refine Zo rfl ?_ | refine Zp rfl ?_ | refine Zn rfl ?_ | fail
end Go.Proofs.Ytpibdbjlilpfiaa
