/- scantlinglaw12.CountRow. -/
import Derived.Test.YtpibdbjlilpfiaaCntU
import Derived.Test.YtpibdbjlilpfiaaCntW
namespace Go.Proofs.Ytpibdbjlilpfiaa
set_option linter.all false
open Go Go.RowKit
open Nat renaming reduceEqDiff → Y1, reduceAdd → Y2, reduceMul → Y3, reduceSub → Y4, reduceLeDiff → Y5
open Int renaming reduceEq → Y6, reduceLT → Y7, reduceLE → Y8
open _root_ renaming reduceIte → Y0, reduceCtorEq → Y9

theorem dec_cast {n : Nat} : decide (0 < n) = decide (0 < (n : Int)) := by
  rw [Bool.eq_iff_iff, decide_eq_true_eq, decide_eq_true_eq]
  omega
@[go_sem] def lv11 : List (Nat × List Nat) := [(0, [2, 3, 4]), (1, [2, 3, 4, 43]), (2, [6]), (3, [2, 3, 4, 7]), (4, [2, 3, 4, 7, 8]), (5, [2, 3, 4, 7, 8, 48]), (6, [2, 3, 4, 7, 8]), (7, [2, 3, 4, 7, 8]), (8, [2, 7, 9]), (9, [6])]
def bs11 : List (Nat × List Nat × List Nat) := [(7, [0, 0, 0, 0, 12, 30, 0, 0, 0, 384, 1022, 2046, 4095, 8191, 16383], [10])]
set_option maxRecDepth 4000 in
set_option maxHeartbeats 4000000 in
theorem c_countRow {vars} {l m : List Nd} {w : List UInt8} (hcl : ∀ i, (l.getD i Nd.z).cok) (hl : l.length ≤ 140737488355328) (htx : ∀ i, (l.getD i Nd.z).text.size ≤ 140737488355328) (hcl' : ∀ i, (m.getD i Nd.z).cok) (hl' : m.length ≤ 140737488355328) (htx' : ∀ i, (m.getD i Nd.z).text.size ≤ 140737488355328) :
    PCon Try.prog ⟨vars, none⟩ 11 [desc l, desc m, bys w] (.bool true) := by
  have hff := c_fewB (gl := ⟨vars, none⟩) (l := l) (by omega) rfl
  have hft := c_Fits (gl := ⟨vars, none⟩) (l := l) (w := w)
  have hff' := c_fewB (gl := ⟨vars, none⟩) (l := m) (by omega) rfl
  have hft' := c_Fits (gl := ⟨vars, none⟩) (l := m) (w := w)
  cases hfew : few l with
  | false =>
    rw [hfew] at hff
    refine PCon.enter tb_ok (fn := Try.f11) (by kernel_rfl) (by kernel_rfl) rfl (by show 3 ≤ 89; decide) ?_
    repeat' first | refine Z1 fun _ _ => ?_ | refine Z2 ‹_› ?_ | ((first | refine Z3 tb_ok lv11 rfl ?_ | refine Z4 tb_ok mix lv11 bs11 rfl (by kernel_rfl) rfl ?_ | refine Zr rfl ?_); simp only [↓Y0, Y9, Y1, Y2, Y3, Y4, Y5, Y6, Y7, Y8, go_sem]) | (refine Z5 rfl ?_; with_reducible first | refine ZT ?_ | refine ZF ?_) | refine ZS rfl ?_ | refine Z9 fun _ _ => ?_ | refine ZH ?_ | refine Zl ‹_› (by decide) ?_ | refine Zo rfl ?_ | refine Zp rfl ?_ | refine Zn rfl ?_ | fail
    refine call_pure rfl rfl (c_awake12) ?_; simp only [↓Y0, Y9, Y1, Y2, Y3, Y4, Y5, Y6, Y7, Y8, go_sem]
    repeat' first | refine Z1 fun _ _ => ?_ | refine Z2 ‹_› ?_ | ((first | refine Z3 tb_ok lv11 rfl ?_ | refine Z4 tb_ok mix lv11 bs11 rfl (by kernel_rfl) rfl ?_ | refine Zr rfl ?_); simp only [↓Y0, Y9, Y1, Y2, Y3, Y4, Y5, Y6, Y7, Y8, go_sem]) | (refine Z5 rfl ?_; with_reducible first | refine ZT ?_ | refine ZF ?_) | refine ZS rfl ?_ | refine Z9 fun _ _ => ?_ | refine ZH ?_ | refine Zl ‹_› (by decide) ?_ | refine Zo rfl ?_ | refine Zp rfl ?_ | refine Zn rfl ?_ | fail
    refine call_pure rfl rfl (hff) ?_; simp only [↓Y0, Y9, Y1, Y2, Y3, Y4, Y5, Y6, Y7, Y8, go_sem]
    repeat' first | refine Z1 fun _ _ => ?_ | refine Z2 ‹_› ?_ | ((first | refine Z3 tb_ok lv11 rfl ?_ | refine Z4 tb_ok mix lv11 bs11 rfl (by kernel_rfl) rfl ?_ | refine Zr rfl ?_); simp only [↓Y0, Y9, Y1, Y2, Y3, Y4, Y5, Y6, Y7, Y8, go_sem]) | (refine Z5 rfl ?_; with_reducible first | refine ZT ?_ | refine ZF ?_) | refine ZS rfl ?_ | refine Z9 fun _ _ => ?_ | refine ZH ?_ | refine Zl ‹_› (by decide) ?_ | refine Zo rfl ?_ | refine Zp rfl ?_ | refine Zn rfl ?_ | fail
    refine call_pure rfl rfl (c_awake12) ?_; simp only [↓Y0, Y9, Y1, Y2, Y3, Y4, Y5, Y6, Y7, Y8, go_sem]
    repeat' first | refine Z1 fun _ _ => ?_ | refine Z2 ‹_› ?_ | ((first | refine Z3 tb_ok lv11 rfl ?_ | refine Z4 tb_ok mix lv11 bs11 rfl (by kernel_rfl) rfl ?_ | refine Zr rfl ?_); simp only [↓Y0, Y9, Y1, Y2, Y3, Y4, Y5, Y6, Y7, Y8, go_sem]) | (refine Z5 rfl ?_; with_reducible first | refine ZT ?_ | refine ZF ?_) | refine ZS rfl ?_ | refine Z9 fun _ _ => ?_ | refine ZH ?_ | refine Zl ‹_› (by decide) ?_ | refine Zo rfl ?_ | refine Zp rfl ?_ | refine Zn rfl ?_ | fail
  | true =>
  rw [hfew] at hff
  cases hfew' : few m with
  | false =>
    rw [hfew'] at hff'
    refine PCon.enter tb_ok (fn := Try.f11) (by kernel_rfl) (by kernel_rfl) rfl (by show 3 ≤ 89; decide) ?_
    repeat' first | refine Z1 fun _ _ => ?_ | refine Z2 ‹_› ?_ | ((first | refine Z3 tb_ok lv11 rfl ?_ | refine Z4 tb_ok mix lv11 bs11 rfl (by kernel_rfl) rfl ?_ | refine Zr rfl ?_); simp only [↓Y0, Y9, Y1, Y2, Y3, Y4, Y5, Y6, Y7, Y8, go_sem]) | (refine Z5 rfl ?_; with_reducible first | refine ZT ?_ | refine ZF ?_) | refine ZS rfl ?_ | refine Z9 fun _ _ => ?_ | refine ZH ?_ | refine Zl ‹_› (by decide) ?_ | refine Zo rfl ?_ | refine Zp rfl ?_ | refine Zn rfl ?_ | fail
    refine call_pure rfl rfl (c_awake12) ?_; simp only [↓Y0, Y9, Y1, Y2, Y3, Y4, Y5, Y6, Y7, Y8, go_sem]
    repeat' first | refine Z1 fun _ _ => ?_ | refine Z2 ‹_› ?_ | ((first | refine Z3 tb_ok lv11 rfl ?_ | refine Z4 tb_ok mix lv11 bs11 rfl (by kernel_rfl) rfl ?_ | refine Zr rfl ?_); simp only [↓Y0, Y9, Y1, Y2, Y3, Y4, Y5, Y6, Y7, Y8, go_sem]) | (refine Z5 rfl ?_; with_reducible first | refine ZT ?_ | refine ZF ?_) | refine ZS rfl ?_ | refine Z9 fun _ _ => ?_ | refine ZH ?_ | refine Zl ‹_› (by decide) ?_ | refine Zo rfl ?_ | refine Zp rfl ?_ | refine Zn rfl ?_ | fail
    refine call_pure rfl rfl (hff) ?_; simp only [↓Y0, Y9, Y1, Y2, Y3, Y4, Y5, Y6, Y7, Y8, go_sem]
    repeat' first | refine Z1 fun _ _ => ?_ | refine Z2 ‹_› ?_ | ((first | refine Z3 tb_ok lv11 rfl ?_ | refine Z4 tb_ok mix lv11 bs11 rfl (by kernel_rfl) rfl ?_ | refine Zr rfl ?_); simp only [↓Y0, Y9, Y1, Y2, Y3, Y4, Y5, Y6, Y7, Y8, go_sem]) | (refine Z5 rfl ?_; with_reducible first | refine ZT ?_ | refine ZF ?_) | refine ZS rfl ?_ | refine Z9 fun _ _ => ?_ | refine ZH ?_ | refine Zl ‹_› (by decide) ?_ | refine Zo rfl ?_ | refine Zp rfl ?_ | refine Zn rfl ?_ | fail
    refine call_pure rfl rfl (hff') ?_; simp only [↓Y0, Y9, Y1, Y2, Y3, Y4, Y5, Y6, Y7, Y8, go_sem]
    repeat' first | refine Z1 fun _ _ => ?_ | refine Z2 ‹_› ?_ | ((first | refine Z3 tb_ok lv11 rfl ?_ | refine Z4 tb_ok mix lv11 bs11 rfl (by kernel_rfl) rfl ?_ | refine Zr rfl ?_); simp only [↓Y0, Y9, Y1, Y2, Y3, Y4, Y5, Y6, Y7, Y8, go_sem]) | (refine Z5 rfl ?_; with_reducible first | refine ZT ?_ | refine ZF ?_) | refine ZS rfl ?_ | refine Z9 fun _ _ => ?_ | refine ZH ?_ | refine Zl ‹_› (by decide) ?_ | refine Zo rfl ?_ | refine Zp rfl ?_ | refine Zn rfl ?_ | fail
    refine call_pure rfl rfl (c_awake12) ?_; simp only [↓Y0, Y9, Y1, Y2, Y3, Y4, Y5, Y6, Y7, Y8, go_sem]
    repeat' first | refine Z1 fun _ _ => ?_ | refine Z2 ‹_› ?_ | ((first | refine Z3 tb_ok lv11 rfl ?_ | refine Z4 tb_ok mix lv11 bs11 rfl (by kernel_rfl) rfl ?_ | refine Zr rfl ?_); simp only [↓Y0, Y9, Y1, Y2, Y3, Y4, Y5, Y6, Y7, Y8, go_sem]) | (refine Z5 rfl ?_; with_reducible first | refine ZT ?_ | refine ZF ?_) | refine ZS rfl ?_ | refine Z9 fun _ _ => ?_ | refine ZH ?_ | refine Zl ‹_› (by decide) ?_ | refine Zo rfl ?_ | refine Zp rfl ?_ | refine Zn rfl ?_ | fail
  | true =>
  rw [hfew'] at hff'
  cases hfit : decide (l.length ≤ 16 ∧ w.length ≤ 8) with
  | false =>
    rw [hfit] at hft
    refine PCon.enter tb_ok (fn := Try.f11) (by kernel_rfl) (by kernel_rfl) rfl (by show 3 ≤ 89; decide) ?_
    repeat' first | refine Z1 fun _ _ => ?_ | refine Z2 ‹_› ?_ | ((first | refine Z3 tb_ok lv11 rfl ?_ | refine Z4 tb_ok mix lv11 bs11 rfl (by kernel_rfl) rfl ?_ | refine Zr rfl ?_); simp only [↓Y0, Y9, Y1, Y2, Y3, Y4, Y5, Y6, Y7, Y8, go_sem]) | (refine Z5 rfl ?_; with_reducible first | refine ZT ?_ | refine ZF ?_) | refine ZS rfl ?_ | refine Z9 fun _ _ => ?_ | refine ZH ?_ | refine Zl ‹_› (by decide) ?_ | refine Zo rfl ?_ | refine Zp rfl ?_ | refine Zn rfl ?_ | fail
    refine call_pure rfl rfl (c_awake12) ?_; simp only [↓Y0, Y9, Y1, Y2, Y3, Y4, Y5, Y6, Y7, Y8, go_sem]
    repeat' first | refine Z1 fun _ _ => ?_ | refine Z2 ‹_› ?_ | ((first | refine Z3 tb_ok lv11 rfl ?_ | refine Z4 tb_ok mix lv11 bs11 rfl (by kernel_rfl) rfl ?_ | refine Zr rfl ?_); simp only [↓Y0, Y9, Y1, Y2, Y3, Y4, Y5, Y6, Y7, Y8, go_sem]) | (refine Z5 rfl ?_; with_reducible first | refine ZT ?_ | refine ZF ?_) | refine ZS rfl ?_ | refine Z9 fun _ _ => ?_ | refine ZH ?_ | refine Zl ‹_› (by decide) ?_ | refine Zo rfl ?_ | refine Zp rfl ?_ | refine Zn rfl ?_ | fail
    refine call_pure rfl rfl (hff) ?_; simp only [↓Y0, Y9, Y1, Y2, Y3, Y4, Y5, Y6, Y7, Y8, go_sem]
    repeat' first | refine Z1 fun _ _ => ?_ | refine Z2 ‹_› ?_ | ((first | refine Z3 tb_ok lv11 rfl ?_ | refine Z4 tb_ok mix lv11 bs11 rfl (by kernel_rfl) rfl ?_ | refine Zr rfl ?_); simp only [↓Y0, Y9, Y1, Y2, Y3, Y4, Y5, Y6, Y7, Y8, go_sem]) | (refine Z5 rfl ?_; with_reducible first | refine ZT ?_ | refine ZF ?_) | refine ZS rfl ?_ | refine Z9 fun _ _ => ?_ | refine ZH ?_ | refine Zl ‹_› (by decide) ?_ | refine Zo rfl ?_ | refine Zp rfl ?_ | refine Zn rfl ?_ | fail
    refine call_pure rfl rfl (hff') ?_; simp only [↓Y0, Y9, Y1, Y2, Y3, Y4, Y5, Y6, Y7, Y8, go_sem]
    repeat' first | refine Z1 fun _ _ => ?_ | refine Z2 ‹_› ?_ | ((first | refine Z3 tb_ok lv11 rfl ?_ | refine Z4 tb_ok mix lv11 bs11 rfl (by kernel_rfl) rfl ?_ | refine Zr rfl ?_); simp only [↓Y0, Y9, Y1, Y2, Y3, Y4, Y5, Y6, Y7, Y8, go_sem]) | (refine Z5 rfl ?_; with_reducible first | refine ZT ?_ | refine ZF ?_) | refine ZS rfl ?_ | refine Z9 fun _ _ => ?_ | refine ZH ?_ | refine Zl ‹_› (by decide) ?_ | refine Zo rfl ?_ | refine Zp rfl ?_ | refine Zn rfl ?_ | fail
    refine call_pure rfl rfl (hft) ?_; simp only [↓Y0, Y9, Y1, Y2, Y3, Y4, Y5, Y6, Y7, Y8, go_sem]
    repeat' first | refine Z1 fun _ _ => ?_ | refine Z2 ‹_› ?_ | ((first | refine Z3 tb_ok lv11 rfl ?_ | refine Z4 tb_ok mix lv11 bs11 rfl (by kernel_rfl) rfl ?_ | refine Zr rfl ?_); simp only [↓Y0, Y9, Y1, Y2, Y3, Y4, Y5, Y6, Y7, Y8, go_sem]) | (refine Z5 rfl ?_; with_reducible first | refine ZT ?_ | refine ZF ?_) | refine ZS rfl ?_ | refine Z9 fun _ _ => ?_ | refine ZH ?_ | refine Zl ‹_› (by decide) ?_ | refine Zo rfl ?_ | refine Zp rfl ?_ | refine Zn rfl ?_ | fail
    refine call_pure rfl rfl (c_awake12) ?_; simp only [↓Y0, Y9, Y1, Y2, Y3, Y4, Y5, Y6, Y7, Y8, go_sem]
    repeat' first | refine Z1 fun _ _ => ?_ | refine Z2 ‹_› ?_ | ((first | refine Z3 tb_ok lv11 rfl ?_ | refine Z4 tb_ok mix lv11 bs11 rfl (by kernel_rfl) rfl ?_ | refine Zr rfl ?_); simp only [↓Y0, Y9, Y1, Y2, Y3, Y4, Y5, Y6, Y7, Y8, go_sem]) | (refine Z5 rfl ?_; with_reducible first | refine ZT ?_ | refine ZF ?_) | refine ZS rfl ?_ | refine Z9 fun _ _ => ?_ | refine ZH ?_ | refine Zl ‹_› (by decide) ?_ | refine Zo rfl ?_ | refine Zp rfl ?_ | refine Zn rfl ?_ | fail
  | true =>
  rw [hfit] at hft
  cases hfit' : decide (m.length ≤ 16 ∧ w.length ≤ 8) with
  | false =>
    rw [hfit'] at hft'
    refine PCon.enter tb_ok (fn := Try.f11) (by kernel_rfl) (by kernel_rfl) rfl (by show 3 ≤ 89; decide) ?_
    repeat' first | refine Z1 fun _ _ => ?_ | refine Z2 ‹_› ?_ | ((first | refine Z3 tb_ok lv11 rfl ?_ | refine Z4 tb_ok mix lv11 bs11 rfl (by kernel_rfl) rfl ?_ | refine Zr rfl ?_); simp only [↓Y0, Y9, Y1, Y2, Y3, Y4, Y5, Y6, Y7, Y8, go_sem]) | (refine Z5 rfl ?_; with_reducible first | refine ZT ?_ | refine ZF ?_) | refine ZS rfl ?_ | refine Z9 fun _ _ => ?_ | refine ZH ?_ | refine Zl ‹_› (by decide) ?_ | refine Zo rfl ?_ | refine Zp rfl ?_ | refine Zn rfl ?_ | fail
    refine call_pure rfl rfl (c_awake12) ?_; simp only [↓Y0, Y9, Y1, Y2, Y3, Y4, Y5, Y6, Y7, Y8, go_sem]
    repeat' first | refine Z1 fun _ _ => ?_ | refine Z2 ‹_› ?_ | ((first | refine Z3 tb_ok lv11 rfl ?_ | refine Z4 tb_ok mix lv11 bs11 rfl (by kernel_rfl) rfl ?_ | refine Zr rfl ?_); simp only [↓Y0, Y9, Y1, Y2, Y3, Y4, Y5, Y6, Y7, Y8, go_sem]) | (refine Z5 rfl ?_; with_reducible first | refine ZT ?_ | refine ZF ?_) | refine ZS rfl ?_ | refine Z9 fun _ _ => ?_ | refine ZH ?_ | refine Zl ‹_› (by decide) ?_ | refine Zo rfl ?_ | refine Zp rfl ?_ | refine Zn rfl ?_ | fail
    refine call_pure rfl rfl (hff) ?_; simp only [↓Y0, Y9, Y1, Y2, Y3, Y4, Y5, Y6, Y7, Y8, go_sem]
    repeat' first | refine Z1 fun _ _ => ?_ | refine Z2 ‹_› ?_ | ((first | refine Z3 tb_ok lv11 rfl ?_ | refine Z4 tb_ok mix lv11 bs11 rfl (by kernel_rfl) rfl ?_ | refine Zr rfl ?_); simp only [↓Y0, Y9, Y1, Y2, Y3, Y4, Y5, Y6, Y7, Y8, go_sem]) | (refine Z5 rfl ?_; with_reducible first | refine ZT ?_ | refine ZF ?_) | refine ZS rfl ?_ | refine Z9 fun _ _ => ?_ | refine ZH ?_ | refine Zl ‹_› (by decide) ?_ | refine Zo rfl ?_ | refine Zp rfl ?_ | refine Zn rfl ?_ | fail
    refine call_pure rfl rfl (hff') ?_; simp only [↓Y0, Y9, Y1, Y2, Y3, Y4, Y5, Y6, Y7, Y8, go_sem]
    repeat' first | refine Z1 fun _ _ => ?_ | refine Z2 ‹_› ?_ | ((first | refine Z3 tb_ok lv11 rfl ?_ | refine Z4 tb_ok mix lv11 bs11 rfl (by kernel_rfl) rfl ?_ | refine Zr rfl ?_); simp only [↓Y0, Y9, Y1, Y2, Y3, Y4, Y5, Y6, Y7, Y8, go_sem]) | (refine Z5 rfl ?_; with_reducible first | refine ZT ?_ | refine ZF ?_) | refine ZS rfl ?_ | refine Z9 fun _ _ => ?_ | refine ZH ?_ | refine Zl ‹_› (by decide) ?_ | refine Zo rfl ?_ | refine Zp rfl ?_ | refine Zn rfl ?_ | fail
    refine call_pure rfl rfl (hft) ?_; simp only [↓Y0, Y9, Y1, Y2, Y3, Y4, Y5, Y6, Y7, Y8, go_sem]
    repeat' first | refine Z1 fun _ _ => ?_ | refine Z2 ‹_› ?_ | ((first | refine Z3 tb_ok lv11 rfl ?_ | refine Z4 tb_ok mix lv11 bs11 rfl (by kernel_rfl) rfl ?_ | refine Zr rfl ?_); simp only [↓Y0, Y9, Y1, Y2, Y3, Y4, Y5, Y6, Y7, Y8, go_sem]) | (refine Z5 rfl ?_; with_reducible first | refine ZT ?_ | refine ZF ?_) | refine ZS rfl ?_ | refine Z9 fun _ _ => ?_ | refine ZH ?_ | refine Zl ‹_› (by decide) ?_ | refine Zo rfl ?_ | refine Zp rfl ?_ | refine Zn rfl ?_ | fail
    refine call_pure rfl rfl (hft') ?_; simp only [↓Y0, Y9, Y1, Y2, Y3, Y4, Y5, Y6, Y7, Y8, go_sem]
    repeat' first | refine Z1 fun _ _ => ?_ | refine Z2 ‹_› ?_ | ((first | refine Z3 tb_ok lv11 rfl ?_ | refine Z4 tb_ok mix lv11 bs11 rfl (by kernel_rfl) rfl ?_ | refine Zr rfl ?_); simp only [↓Y0, Y9, Y1, Y2, Y3, Y4, Y5, Y6, Y7, Y8, go_sem]) | (refine Z5 rfl ?_; with_reducible first | refine ZT ?_ | refine ZF ?_) | refine ZS rfl ?_ | refine Z9 fun _ _ => ?_ | refine ZH ?_ | refine Zl ‹_› (by decide) ?_ | refine Zo rfl ?_ | refine Zp rfl ?_ | refine Zn rfl ?_ | fail
    refine call_pure rfl rfl (c_awake12) ?_; simp only [↓Y0, Y9, Y1, Y2, Y3, Y4, Y5, Y6, Y7, Y8, go_sem]
    repeat' first | refine Z1 fun _ _ => ?_ | refine Z2 ‹_› ?_ | ((first | refine Z3 tb_ok lv11 rfl ?_ | refine Z4 tb_ok mix lv11 bs11 rfl (by kernel_rfl) rfl ?_ | refine Zr rfl ?_); simp only [↓Y0, Y9, Y1, Y2, Y3, Y4, Y5, Y6, Y7, Y8, go_sem]) | (refine Z5 rfl ?_; with_reducible first | refine ZT ?_ | refine ZF ?_) | refine ZS rfl ?_ | refine Z9 fun _ _ => ?_ | refine ZH ?_ | refine Zl ‹_› (by decide) ?_ | refine Zo rfl ?_ | refine Zp rfl ?_ | refine Zn rfl ?_ | fail
  | true =>
  rw [hfit'] at hft'
  obtain ⟨hl, htx⟩ := few_small htx hfew
  obtain ⟨b, hb, hright⟩ := c_right (gl := ⟨vars, none⟩) hl htx
  cases b with
  | false =>
    refine PCon.enter tb_ok (fn := Try.f11) (by kernel_rfl) (by kernel_rfl) rfl (by show 3 ≤ 89; decide) ?_
    repeat' first | refine Z1 fun _ _ => ?_ | refine Z2 ‹_› ?_ | ((first | refine Z3 tb_ok lv11 rfl ?_ | refine Z4 tb_ok mix lv11 bs11 rfl (by kernel_rfl) rfl ?_ | refine Zr rfl ?_); simp only [↓Y0, Y9, Y1, Y2, Y3, Y4, Y5, Y6, Y7, Y8, go_sem]) | (refine Z5 rfl ?_; with_reducible first | refine ZT ?_ | refine ZF ?_) | refine ZS rfl ?_ | refine Z9 fun _ _ => ?_ | refine ZH ?_ | refine Zl ‹_› (by decide) ?_ | refine Zo rfl ?_ | refine Zp rfl ?_ | refine Zn rfl ?_ | fail
    refine call_pure rfl rfl (c_awake12) ?_; simp only [↓Y0, Y9, Y1, Y2, Y3, Y4, Y5, Y6, Y7, Y8, go_sem]
    repeat' first | refine Z1 fun _ _ => ?_ | refine Z2 ‹_› ?_ | ((first | refine Z3 tb_ok lv11 rfl ?_ | refine Z4 tb_ok mix lv11 bs11 rfl (by kernel_rfl) rfl ?_ | refine Zr rfl ?_); simp only [↓Y0, Y9, Y1, Y2, Y3, Y4, Y5, Y6, Y7, Y8, go_sem]) | (refine Z5 rfl ?_; with_reducible first | refine ZT ?_ | refine ZF ?_) | refine ZS rfl ?_ | refine Z9 fun _ _ => ?_ | refine ZH ?_ | refine Zl ‹_› (by decide) ?_ | refine Zo rfl ?_ | refine Zp rfl ?_ | refine Zn rfl ?_ | fail
    refine call_pure rfl rfl (hff) ?_; simp only [↓Y0, Y9, Y1, Y2, Y3, Y4, Y5, Y6, Y7, Y8, go_sem]
    repeat' first | refine Z1 fun _ _ => ?_ | refine Z2 ‹_› ?_ | ((first | refine Z3 tb_ok lv11 rfl ?_ | refine Z4 tb_ok mix lv11 bs11 rfl (by kernel_rfl) rfl ?_ | refine Zr rfl ?_); simp only [↓Y0, Y9, Y1, Y2, Y3, Y4, Y5, Y6, Y7, Y8, go_sem]) | (refine Z5 rfl ?_; with_reducible first | refine ZT ?_ | refine ZF ?_) | refine ZS rfl ?_ | refine Z9 fun _ _ => ?_ | refine ZH ?_ | refine Zl ‹_› (by decide) ?_ | refine Zo rfl ?_ | refine Zp rfl ?_ | refine Zn rfl ?_ | fail
    refine call_pure rfl rfl (hff') ?_; simp only [↓Y0, Y9, Y1, Y2, Y3, Y4, Y5, Y6, Y7, Y8, go_sem]
    repeat' first | refine Z1 fun _ _ => ?_ | refine Z2 ‹_› ?_ | ((first | refine Z3 tb_ok lv11 rfl ?_ | refine Z4 tb_ok mix lv11 bs11 rfl (by kernel_rfl) rfl ?_ | refine Zr rfl ?_); simp only [↓Y0, Y9, Y1, Y2, Y3, Y4, Y5, Y6, Y7, Y8, go_sem]) | (refine Z5 rfl ?_; with_reducible first | refine ZT ?_ | refine ZF ?_) | refine ZS rfl ?_ | refine Z9 fun _ _ => ?_ | refine ZH ?_ | refine Zl ‹_› (by decide) ?_ | refine Zo rfl ?_ | refine Zp rfl ?_ | refine Zn rfl ?_ | fail
    refine call_pure rfl rfl (hft) ?_; simp only [↓Y0, Y9, Y1, Y2, Y3, Y4, Y5, Y6, Y7, Y8, go_sem]
    repeat' first | refine Z1 fun _ _ => ?_ | refine Z2 ‹_› ?_ | ((first | refine Z3 tb_ok lv11 rfl ?_ | refine Z4 tb_ok mix lv11 bs11 rfl (by kernel_rfl) rfl ?_ | refine Zr rfl ?_); simp only [↓Y0, Y9, Y1, Y2, Y3, Y4, Y5, Y6, Y7, Y8, go_sem]) | (refine Z5 rfl ?_; with_reducible first | refine ZT ?_ | refine ZF ?_) | refine ZS rfl ?_ | refine Z9 fun _ _ => ?_ | refine ZH ?_ | refine Zl ‹_› (by decide) ?_ | refine Zo rfl ?_ | refine Zp rfl ?_ | refine Zn rfl ?_ | fail
    refine call_pure rfl rfl (hft') ?_; simp only [↓Y0, Y9, Y1, Y2, Y3, Y4, Y5, Y6, Y7, Y8, go_sem]
    repeat' first | refine Z1 fun _ _ => ?_ | refine Z2 ‹_› ?_ | ((first | refine Z3 tb_ok lv11 rfl ?_ | refine Z4 tb_ok mix lv11 bs11 rfl (by kernel_rfl) rfl ?_ | refine Zr rfl ?_); simp only [↓Y0, Y9, Y1, Y2, Y3, Y4, Y5, Y6, Y7, Y8, go_sem]) | (refine Z5 rfl ?_; with_reducible first | refine ZT ?_ | refine ZF ?_) | refine ZS rfl ?_ | refine Z9 fun _ _ => ?_ | refine ZH ?_ | refine Zl ‹_› (by decide) ?_ | refine Zo rfl ?_ | refine Zp rfl ?_ | refine Zn rfl ?_ | fail
    refine call_pure rfl rfl (hright) ?_; simp only [↓Y0, Y9, Y1, Y2, Y3, Y4, Y5, Y6, Y7, Y8, go_sem]
    repeat' first | refine Z1 fun _ _ => ?_ | refine Z2 ‹_› ?_ | ((first | refine Z3 tb_ok lv11 rfl ?_ | refine Z4 tb_ok mix lv11 bs11 rfl (by kernel_rfl) rfl ?_ | refine Zr rfl ?_); simp only [↓Y0, Y9, Y1, Y2, Y3, Y4, Y5, Y6, Y7, Y8, go_sem]) | (refine Z5 rfl ?_; with_reducible first | refine ZT ?_ | refine ZF ?_) | refine ZS rfl ?_ | refine Z9 fun _ _ => ?_ | refine ZH ?_ | refine Zl ‹_› (by decide) ?_ | refine Zo rfl ?_ | refine Zp rfl ?_ | refine Zn rfl ?_ | fail
    refine call_pure rfl rfl (c_awake12) ?_; simp only [↓Y0, Y9, Y1, Y2, Y3, Y4, Y5, Y6, Y7, Y8, go_sem]
    repeat' first | refine Z1 fun _ _ => ?_ | refine Z2 ‹_› ?_ | ((first | refine Z3 tb_ok lv11 rfl ?_ | refine Z4 tb_ok mix lv11 bs11 rfl (by kernel_rfl) rfl ?_ | refine Zr rfl ?_); simp only [↓Y0, Y9, Y1, Y2, Y3, Y4, Y5, Y6, Y7, Y8, go_sem]) | (refine Z5 rfl ?_; with_reducible first | refine ZT ?_ | refine ZF ?_) | refine ZS rfl ?_ | refine Z9 fun _ _ => ?_ | refine ZH ?_ | refine Zl ‹_› (by decide) ?_ | refine Zo rfl ?_ | refine Zp rfl ?_ | refine Zn rfl ?_ | fail
  | true =>
  obtain ⟨hl', htx'⟩ := few_small htx' hfew'
  obtain ⟨b', hb', hright'⟩ := c_right (gl := ⟨vars, none⟩) hl' htx'
  cases b' with
  | false =>
    refine PCon.enter tb_ok (fn := Try.f11) (by kernel_rfl) (by kernel_rfl) rfl (by show 3 ≤ 89; decide) ?_
    repeat' first | refine Z1 fun _ _ => ?_ | refine Z2 ‹_› ?_ | ((first | refine Z3 tb_ok lv11 rfl ?_ | refine Z4 tb_ok mix lv11 bs11 rfl (by kernel_rfl) rfl ?_ | refine Zr rfl ?_); simp only [↓Y0, Y9, Y1, Y2, Y3, Y4, Y5, Y6, Y7, Y8, go_sem]) | (refine Z5 rfl ?_; with_reducible first | refine ZT ?_ | refine ZF ?_) | refine ZS rfl ?_ | refine Z9 fun _ _ => ?_ | refine ZH ?_ | refine Zl ‹_› (by decide) ?_ | refine Zo rfl ?_ | refine Zp rfl ?_ | refine Zn rfl ?_ | fail
    refine call_pure rfl rfl (c_awake12) ?_; simp only [↓Y0, Y9, Y1, Y2, Y3, Y4, Y5, Y6, Y7, Y8, go_sem]
    repeat' first | refine Z1 fun _ _ => ?_ | refine Z2 ‹_› ?_ | ((first | refine Z3 tb_ok lv11 rfl ?_ | refine Z4 tb_ok mix lv11 bs11 rfl (by kernel_rfl) rfl ?_ | refine Zr rfl ?_); simp only [↓Y0, Y9, Y1, Y2, Y3, Y4, Y5, Y6, Y7, Y8, go_sem]) | (refine Z5 rfl ?_; with_reducible first | refine ZT ?_ | refine ZF ?_) | refine ZS rfl ?_ | refine Z9 fun _ _ => ?_ | refine ZH ?_ | refine Zl ‹_› (by decide) ?_ | refine Zo rfl ?_ | refine Zp rfl ?_ | refine Zn rfl ?_ | fail
    refine call_pure rfl rfl (hff) ?_; simp only [↓Y0, Y9, Y1, Y2, Y3, Y4, Y5, Y6, Y7, Y8, go_sem]
    repeat' first | refine Z1 fun _ _ => ?_ | refine Z2 ‹_› ?_ | ((first | refine Z3 tb_ok lv11 rfl ?_ | refine Z4 tb_ok mix lv11 bs11 rfl (by kernel_rfl) rfl ?_ | refine Zr rfl ?_); simp only [↓Y0, Y9, Y1, Y2, Y3, Y4, Y5, Y6, Y7, Y8, go_sem]) | (refine Z5 rfl ?_; with_reducible first | refine ZT ?_ | refine ZF ?_) | refine ZS rfl ?_ | refine Z9 fun _ _ => ?_ | refine ZH ?_ | refine Zl ‹_› (by decide) ?_ | refine Zo rfl ?_ | refine Zp rfl ?_ | refine Zn rfl ?_ | fail
    refine call_pure rfl rfl (hff') ?_; simp only [↓Y0, Y9, Y1, Y2, Y3, Y4, Y5, Y6, Y7, Y8, go_sem]
    repeat' first | refine Z1 fun _ _ => ?_ | refine Z2 ‹_› ?_ | ((first | refine Z3 tb_ok lv11 rfl ?_ | refine Z4 tb_ok mix lv11 bs11 rfl (by kernel_rfl) rfl ?_ | refine Zr rfl ?_); simp only [↓Y0, Y9, Y1, Y2, Y3, Y4, Y5, Y6, Y7, Y8, go_sem]) | (refine Z5 rfl ?_; with_reducible first | refine ZT ?_ | refine ZF ?_) | refine ZS rfl ?_ | refine Z9 fun _ _ => ?_ | refine ZH ?_ | refine Zl ‹_› (by decide) ?_ | refine Zo rfl ?_ | refine Zp rfl ?_ | refine Zn rfl ?_ | fail
    refine call_pure rfl rfl (hft) ?_; simp only [↓Y0, Y9, Y1, Y2, Y3, Y4, Y5, Y6, Y7, Y8, go_sem]
    repeat' first | refine Z1 fun _ _ => ?_ | refine Z2 ‹_› ?_ | ((first | refine Z3 tb_ok lv11 rfl ?_ | refine Z4 tb_ok mix lv11 bs11 rfl (by kernel_rfl) rfl ?_ | refine Zr rfl ?_); simp only [↓Y0, Y9, Y1, Y2, Y3, Y4, Y5, Y6, Y7, Y8, go_sem]) | (refine Z5 rfl ?_; with_reducible first | refine ZT ?_ | refine ZF ?_) | refine ZS rfl ?_ | refine Z9 fun _ _ => ?_ | refine ZH ?_ | refine Zl ‹_› (by decide) ?_ | refine Zo rfl ?_ | refine Zp rfl ?_ | refine Zn rfl ?_ | fail
    refine call_pure rfl rfl (hft') ?_; simp only [↓Y0, Y9, Y1, Y2, Y3, Y4, Y5, Y6, Y7, Y8, go_sem]
    repeat' first | refine Z1 fun _ _ => ?_ | refine Z2 ‹_› ?_ | ((first | refine Z3 tb_ok lv11 rfl ?_ | refine Z4 tb_ok mix lv11 bs11 rfl (by kernel_rfl) rfl ?_ | refine Zr rfl ?_); simp only [↓Y0, Y9, Y1, Y2, Y3, Y4, Y5, Y6, Y7, Y8, go_sem]) | (refine Z5 rfl ?_; with_reducible first | refine ZT ?_ | refine ZF ?_) | refine ZS rfl ?_ | refine Z9 fun _ _ => ?_ | refine ZH ?_ | refine Zl ‹_› (by decide) ?_ | refine Zo rfl ?_ | refine Zp rfl ?_ | refine Zn rfl ?_ | fail
    refine call_pure rfl rfl (hright) ?_; simp only [↓Y0, Y9, Y1, Y2, Y3, Y4, Y5, Y6, Y7, Y8, go_sem]
    repeat' first | refine Z1 fun _ _ => ?_ | refine Z2 ‹_› ?_ | ((first | refine Z3 tb_ok lv11 rfl ?_ | refine Z4 tb_ok mix lv11 bs11 rfl (by kernel_rfl) rfl ?_ | refine Zr rfl ?_); simp only [↓Y0, Y9, Y1, Y2, Y3, Y4, Y5, Y6, Y7, Y8, go_sem]) | (refine Z5 rfl ?_; with_reducible first | refine ZT ?_ | refine ZF ?_) | refine ZS rfl ?_ | refine Z9 fun _ _ => ?_ | refine ZH ?_ | refine Zl ‹_› (by decide) ?_ | refine Zo rfl ?_ | refine Zp rfl ?_ | refine Zn rfl ?_ | fail
    refine call_pure rfl rfl (hright') ?_; simp only [↓Y0, Y9, Y1, Y2, Y3, Y4, Y5, Y6, Y7, Y8, go_sem]
    repeat' first | refine Z1 fun _ _ => ?_ | refine Z2 ‹_› ?_ | ((first | refine Z3 tb_ok lv11 rfl ?_ | refine Z4 tb_ok mix lv11 bs11 rfl (by kernel_rfl) rfl ?_ | refine Zr rfl ?_); simp only [↓Y0, Y9, Y1, Y2, Y3, Y4, Y5, Y6, Y7, Y8, go_sem]) | (refine Z5 rfl ?_; with_reducible first | refine ZT ?_ | refine ZF ?_) | refine ZS rfl ?_ | refine Z9 fun _ _ => ?_ | refine ZH ?_ | refine Zl ‹_› (by decide) ?_ | refine Zo rfl ?_ | refine Zp rfl ?_ | refine Zn rfl ?_ | fail
    refine call_pure rfl rfl (c_awake12) ?_; simp only [↓Y0, Y9, Y1, Y2, Y3, Y4, Y5, Y6, Y7, Y8, go_sem]
    repeat' first | refine Z1 fun _ _ => ?_ | refine Z2 ‹_› ?_ | ((first | refine Z3 tb_ok lv11 rfl ?_ | refine Z4 tb_ok mix lv11 bs11 rfl (by kernel_rfl) rfl ?_ | refine Zr rfl ?_); simp only [↓Y0, Y9, Y1, Y2, Y3, Y4, Y5, Y6, Y7, Y8, go_sem]) | (refine Z5 rfl ?_; with_reducible first | refine ZT ?_ | refine ZF ?_) | refine ZS rfl ?_ | refine Z9 fun _ _ => ?_ | refine ZH ?_ | refine Zl ‹_› (by decide) ?_ | refine Zo rfl ?_ | refine Zp rfl ?_ | refine Zn rfl ?_ | fail
  | true =>
  obtain ⟨t, rfl, hok⟩ := hb rfl
  have hc := cok_sits hcl t 0 (sits_flat t)
  rw [T.flat_len] at hl
  rw [decide_eq_true_eq, T.flat_len] at hfit
  have hp := t.n_pos
  obtain ⟨r, rfl, hok'⟩ := hb' rfl
  have hc' := cok_sits hcl' r 0 (sits_flat r)
  rw [T.flat_len] at hl'
  rw [decide_eq_true_eq, T.flat_len] at hfit'
  have hp' := r.n_pos
  have q1 := c_pair (gl := ⟨vars, none⟩) (k := 4) (a := t) (b := r) (by omega) (by omega) hok hok'
  refine PCon.enter tb_ok (fn := Try.f11) (by kernel_rfl) (by kernel_rfl) rfl (by show 3 ≤ 89; decide) ?_
  repeat' first | refine Z1 fun _ _ => ?_ | refine Z2 ‹_› ?_ | ((first | refine Z3 tb_ok lv11 rfl ?_ | refine Z4 tb_ok mix lv11 bs11 rfl (by kernel_rfl) rfl ?_ | refine Zr rfl ?_); simp only [↓Y0, Y9, Y1, Y2, Y3, Y4, Y5, Y6, Y7, Y8, go_sem]) | (refine Z5 rfl ?_; with_reducible first | refine ZT ?_ | refine ZF ?_) | refine ZS rfl ?_ | refine Z9 fun _ _ => ?_ | refine ZH ?_ | refine Zl ‹_› (by decide) ?_ | refine Zo rfl ?_ | refine Zp rfl ?_ | refine Zn rfl ?_ | fail
  refine call_pure rfl rfl (c_awake12) ?_; simp only [↓Y0, Y9, Y1, Y2, Y3, Y4, Y5, Y6, Y7, Y8, go_sem]
  repeat' first | refine Z1 fun _ _ => ?_ | refine Z2 ‹_› ?_ | ((first | refine Z3 tb_ok lv11 rfl ?_ | refine Z4 tb_ok mix lv11 bs11 rfl (by kernel_rfl) rfl ?_ | refine Zr rfl ?_); simp only [↓Y0, Y9, Y1, Y2, Y3, Y4, Y5, Y6, Y7, Y8, go_sem]) | (refine Z5 rfl ?_; with_reducible first | refine ZT ?_ | refine ZF ?_) | refine ZS rfl ?_ | refine Z9 fun _ _ => ?_ | refine ZH ?_ | refine Zl ‹_› (by decide) ?_ | refine Zo rfl ?_ | refine Zp rfl ?_ | refine Zn rfl ?_ | fail
  refine call_pure rfl rfl (hff) ?_; simp only [↓Y0, Y9, Y1, Y2, Y3, Y4, Y5, Y6, Y7, Y8, go_sem]
  repeat' first | refine Z1 fun _ _ => ?_ | refine Z2 ‹_› ?_ | ((first | refine Z3 tb_ok lv11 rfl ?_ | refine Z4 tb_ok mix lv11 bs11 rfl (by kernel_rfl) rfl ?_ | refine Zr rfl ?_); simp only [↓Y0, Y9, Y1, Y2, Y3, Y4, Y5, Y6, Y7, Y8, go_sem]) | (refine Z5 rfl ?_; with_reducible first | refine ZT ?_ | refine ZF ?_) | refine ZS rfl ?_ | refine Z9 fun _ _ => ?_ | refine ZH ?_ | refine Zl ‹_› (by decide) ?_ | refine Zo rfl ?_ | refine Zp rfl ?_ | refine Zn rfl ?_ | fail
  refine call_pure rfl rfl (hff') ?_; simp only [↓Y0, Y9, Y1, Y2, Y3, Y4, Y5, Y6, Y7, Y8, go_sem]
  repeat' first | refine Z1 fun _ _ => ?_ | refine Z2 ‹_› ?_ | ((first | refine Z3 tb_ok lv11 rfl ?_ | refine Z4 tb_ok mix lv11 bs11 rfl (by kernel_rfl) rfl ?_ | refine Zr rfl ?_); simp only [↓Y0, Y9, Y1, Y2, Y3, Y4, Y5, Y6, Y7, Y8, go_sem]) | (refine Z5 rfl ?_; with_reducible first | refine ZT ?_ | refine ZF ?_) | refine ZS rfl ?_ | refine Z9 fun _ _ => ?_ | refine ZH ?_ | refine Zl ‹_› (by decide) ?_ | refine Zo rfl ?_ | refine Zp rfl ?_ | refine Zn rfl ?_ | fail
  refine call_pure rfl rfl (hft) ?_; simp only [↓Y0, Y9, Y1, Y2, Y3, Y4, Y5, Y6, Y7, Y8, go_sem]
  repeat' first | refine Z1 fun _ _ => ?_ | refine Z2 ‹_› ?_ | ((first | refine Z3 tb_ok lv11 rfl ?_ | refine Z4 tb_ok mix lv11 bs11 rfl (by kernel_rfl) rfl ?_ | refine Zr rfl ?_); simp only [↓Y0, Y9, Y1, Y2, Y3, Y4, Y5, Y6, Y7, Y8, go_sem]) | (refine Z5 rfl ?_; with_reducible first | refine ZT ?_ | refine ZF ?_) | refine ZS rfl ?_ | refine Z9 fun _ _ => ?_ | refine ZH ?_ | refine Zl ‹_› (by decide) ?_ | refine Zo rfl ?_ | refine Zp rfl ?_ | refine Zn rfl ?_ | fail
  refine call_pure rfl rfl (hft') ?_; simp only [↓Y0, Y9, Y1, Y2, Y3, Y4, Y5, Y6, Y7, Y8, go_sem]
  repeat' first | refine Z1 fun _ _ => ?_ | refine Z2 ‹_› ?_ | ((first | refine Z3 tb_ok lv11 rfl ?_ | refine Z4 tb_ok mix lv11 bs11 rfl (by kernel_rfl) rfl ?_ | refine Zr rfl ?_); simp only [↓Y0, Y9, Y1, Y2, Y3, Y4, Y5, Y6, Y7, Y8, go_sem]) | (refine Z5 rfl ?_; with_reducible first | refine ZT ?_ | refine ZF ?_) | refine ZS rfl ?_ | refine Z9 fun _ _ => ?_ | refine ZH ?_ | refine Zl ‹_› (by decide) ?_ | refine Zo rfl ?_ | refine Zp rfl ?_ | refine Zn rfl ?_ | fail
  refine call_pure rfl rfl (hright) ?_; simp only [↓Y0, Y9, Y1, Y2, Y3, Y4, Y5, Y6, Y7, Y8, go_sem]
  repeat' first | refine Z1 fun _ _ => ?_ | refine Z2 ‹_› ?_ | ((first | refine Z3 tb_ok lv11 rfl ?_ | refine Z4 tb_ok mix lv11 bs11 rfl (by kernel_rfl) rfl ?_ | refine Zr rfl ?_); simp only [↓Y0, Y9, Y1, Y2, Y3, Y4, Y5, Y6, Y7, Y8, go_sem]) | (refine Z5 rfl ?_; with_reducible first | refine ZT ?_ | refine ZF ?_) | refine ZS rfl ?_ | refine Z9 fun _ _ => ?_ | refine ZH ?_ | refine Zl ‹_› (by decide) ?_ | refine Zo rfl ?_ | refine Zp rfl ?_ | refine Zn rfl ?_ | fail
  refine call_pure rfl rfl (hright') ?_; simp only [↓Y0, Y9, Y1, Y2, Y3, Y4, Y5, Y6, Y7, Y8, go_sem]
  repeat' first | refine Z1 fun _ _ => ?_ | refine Z2 ‹_› ?_ | ((first | refine Z3 tb_ok lv11 rfl ?_ | refine Z4 tb_ok mix lv11 bs11 rfl (by kernel_rfl) rfl ?_ | refine Zr rfl ?_); simp only [↓Y0, Y9, Y1, Y2, Y3, Y4, Y5, Y6, Y7, Y8, go_sem]) | (refine Z5 rfl ?_; with_reducible first | refine ZT ?_ | refine ZF ?_) | refine ZS rfl ?_ | refine Z9 fun _ _ => ?_ | refine ZH ?_ | refine Zl ‹_› (by decide) ?_ | refine Zo rfl ?_ | refine Zp rfl ?_ | refine Zn rfl ?_ | fail
  refine .loopC (α := Nat) (fun i => ⟨[(2, .d (bys w)), (3, .ref 0 0), (4, .ref 1 0), (7, .d (.int .i64 (rowN t r w i))), (8, .d (.int .i64 i))], [(1, .box true [.d (nds (r.flat 0))]), (0, .box true [.d (nds (t.flat 0))])], 39⟩) (fun i => i ≤ w.length + 1) (fun i => w.length + 1 - i) 0 (by omega) (by simp only [↓Y0, Y9, Y1, Y2, Y3, Y4, Y5, Y6, Y7, Y8, go_sem]; simp [rowN]) ?_
  intro i hi Q hQ
  repeat' first | refine Z1 fun _ _ => ?_ | refine Z2 ‹_› ?_ | ((first | refine Z3 tb_ok lv11 rfl ?_ | refine Z4 tb_ok mix lv11 bs11 rfl (by kernel_rfl) rfl ?_ | refine Zr rfl ?_); simp only [↓Y0, Y9, Y1, Y2, Y3, Y4, Y5, Y6, Y7, Y8, go_sem]) | (refine Z5 rfl ?_; with_reducible first | refine ZT ?_ | refine ZF ?_) | refine ZS rfl ?_ | refine Z9 fun _ _ => ?_ | refine ZH ?_ | refine Zl ‹_› (by decide) ?_ | refine Zo rfl ?_ | refine Zp rfl ?_ | refine Zn rfl ?_ | fail
  refine .cond rfl (fun h => ?_) (fun h => ?_)
  · simp only [decide_eq_true_eq] at h
    have a1 := c_cWays (vars := vars) (t := t) (w := w.take i) (by omega) (by rw [List.length_take]; omega) hok hc
    have b1 := c_cWays (vars := vars) (t := r) (w := w.drop i) (by omega) (by rw [List.length_drop]; omega) hok' hc'
    simp only [bys, List.map_take, List.map_drop] at a1 b1
    repeat' first | refine Z1 fun _ _ => ?_ | refine Z2 ‹_› ?_ | ((first | refine Z3 tb_ok lv11 rfl ?_ | refine Z4 tb_ok mix lv11 bs11 rfl (by kernel_rfl) rfl ?_ | refine Zr rfl ?_); simp only [↓Y0, Y9, Y1, Y2, Y3, Y4, Y5, Y6, Y7, Y8, go_sem]) | (refine Z5 rfl ?_; with_reducible first | refine ZT ?_ | refine ZF ?_) | refine ZS rfl ?_ | refine Z9 fun _ _ => ?_ | refine ZH ?_ | refine Zl ‹_› (by decide) ?_ | refine Zo rfl ?_ | refine Zp rfl ?_ | refine Zn rfl ?_ | fail
    refine ⟨fun e he => by obtain ⟨b, _, rfl⟩ := List.mem_map.1 he; rfl, by omega, by omega, ?_⟩
    repeat' first | refine Z1 fun _ _ => ?_ | refine Z2 ‹_› ?_ | ((first | refine Z3 tb_ok lv11 rfl ?_ | refine Z4 tb_ok mix lv11 bs11 rfl (by kernel_rfl) rfl ?_ | refine Zr rfl ?_); simp only [↓Y0, Y9, Y1, Y2, Y3, Y4, Y5, Y6, Y7, Y8, go_sem]) | (refine Z5 rfl ?_; with_reducible first | refine ZT ?_ | refine ZF ?_) | refine ZS rfl ?_ | refine Z9 fun _ _ => ?_ | refine ZH ?_ | refine Zl ‹_› (by decide) ?_ | refine Zo rfl ?_ | refine Zp rfl ?_ | refine Zn rfl ?_ | fail
    refine call_pure rfl rfl (a1) ?_; simp only [↓Y0, Y9, Y1, Y2, Y3, Y4, Y5, Y6, Y7, Y8, go_sem]
    repeat' first | refine Z1 fun _ _ => ?_ | refine Z2 ‹_› ?_ | ((first | refine Z3 tb_ok lv11 rfl ?_ | refine Z4 tb_ok mix lv11 bs11 rfl (by kernel_rfl) rfl ?_ | refine Zr rfl ?_); simp only [↓Y0, Y9, Y1, Y2, Y3, Y4, Y5, Y6, Y7, Y8, go_sem]) | (refine Z5 rfl ?_; with_reducible first | refine ZT ?_ | refine ZF ?_) | refine ZS rfl ?_ | refine Z9 fun _ _ => ?_ | refine ZH ?_ | refine Zl ‹_› (by decide) ?_ | refine Zo rfl ?_ | refine Zp rfl ?_ | refine Zn rfl ?_ | fail
    refine ⟨fun e he => by obtain ⟨b, _, rfl⟩ := List.mem_map.1 he; rfl, by omega, by omega, ?_⟩
    rw [show List.take (w.length - i) (List.drop i (List.map encB w)) = List.drop i (List.map encB w) from List.take_of_length_le (by simp)]
    repeat' first | refine Z1 fun _ _ => ?_ | refine Z2 ‹_› ?_ | ((first | refine Z3 tb_ok lv11 rfl ?_ | refine Z4 tb_ok mix lv11 bs11 rfl (by kernel_rfl) rfl ?_ | refine Zr rfl ?_); simp only [↓Y0, Y9, Y1, Y2, Y3, Y4, Y5, Y6, Y7, Y8, go_sem]) | (refine Z5 rfl ?_; with_reducible first | refine ZT ?_ | refine ZF ?_) | refine ZS rfl ?_ | refine Z9 fun _ _ => ?_ | refine ZH ?_ | refine Zl ‹_› (by decide) ?_ | refine Zo rfl ?_ | refine Zp rfl ?_ | refine Zn rfl ?_ | fail
    refine call_pure rfl rfl (b1) ?_; simp only [↓Y0, Y9, Y1, Y2, Y3, Y4, Y5, Y6, Y7, Y8, go_sem]
    repeat' first | refine Z1 fun _ _ => ?_ | refine Z2 ‹_› ?_ | ((first | refine Z3 tb_ok lv11 rfl ?_ | refine Z4 tb_ok mix lv11 bs11 rfl (by kernel_rfl) rfl ?_ | refine Zr rfl ?_); simp only [↓Y0, Y9, Y1, Y2, Y3, Y4, Y5, Y6, Y7, Y8, go_sem]) | (refine Z5 rfl ?_; with_reducible first | refine ZT ?_ | refine ZF ?_) | refine ZS rfl ?_ | refine Z9 fun _ _ => ?_ | refine ZH ?_ | refine Zl ‹_› (by decide) ?_ | refine Zo rfl ?_ | refine Zp rfl ?_ | refine Zn rfl ?_ | fail
    have q2 := rowN_le (t := t) (r := r) (w := w) (i := i)
    have q3 : (t.fnd (w.take i)).length * (r.fnd (w.drop i)).length ≤ 2 * 2 := Nat.mul_le_mul (t.fnd_len _) (r.fnd_len _)
    rw [← Int.natCast_mul, wrap64 (z := (((t.fnd (w.take i)).length * (r.fnd (w.drop i)).length : Nat) : Int)) (by omega) (by omega), ← Int.natCast_add, wrap64 (by omega) (by omega), show min 2 ((rowN t r w i + (t.fnd (w.take i)).length * (r.fnd (w.drop i)).length : Nat) : Int) = ((rowN t r w (i + 1) : Nat) : Int) by rw [rowN]; omega]
    rw [wrap64 (by omega) (by omega)]
    exact hQ.next (i + 1) (by omega) (by omega) (by simp only [↓Y0, Y9, Y1, Y2, Y3, Y4, Y5, Y6, Y7, Y8, go_sem]; try simp)
  · simp only [decide_eq_false_iff_not] at h
    obtain rfl : i = w.length + 1 := by omega
    have hok4 : (T.two 4 t r).ok txtOk := ⟨.inl rfl, hok, hok'⟩
    have hc4 : (T.two 4 t r).cok := ⟨hc, hc'⟩
    have s1 := c_cWays (vars := vars) (t := .two 4 t r) (w := w) (by simp only [T.n]; omega) (by omega) hok4 hc4
    have s2 := c_cHas (vars := vars) (t := .two 4 t r) (w := w) (by simp only [T.n]; omega) (by omega) hok4 hc4
    have s3 := c_Values (vars := vars) (t := .two 4 t r) (w := w) (by simp only [T.n]; omega) (by omega) hok4 hc4
    have hlen := ways_row (w := w) hok hok'
    rw [hlen] at s1 s2
    rw [dec_cast] at s2
    repeat' first | refine Z1 fun _ _ => ?_ | refine Z2 ‹_› ?_ | ((first | refine Z3 tb_ok lv11 rfl ?_ | refine Z4 tb_ok mix lv11 bs11 rfl (by kernel_rfl) rfl ?_ | refine Zr rfl ?_); simp only [↓Y0, Y9, Y1, Y2, Y3, Y4, Y5, Y6, Y7, Y8, go_sem]) | (refine Z5 rfl ?_; with_reducible first | refine ZT ?_ | refine ZF ?_) | refine ZS rfl ?_ | refine Z9 fun _ _ => ?_ | refine ZH ?_ | refine Zl ‹_› (by decide) ?_ | refine Zo rfl ?_ | refine Zp rfl ?_ | refine Zn rfl ?_ | fail
    refine call_pure rfl rfl (q1) ?_; simp only [↓Y0, Y9, Y1, Y2, Y3, Y4, Y5, Y6, Y7, Y8, go_sem]
    repeat' first | refine Z1 fun _ _ => ?_ | refine Z2 ‹_› ?_ | ((first | refine Z3 tb_ok lv11 rfl ?_ | refine Z4 tb_ok mix lv11 bs11 rfl (by kernel_rfl) rfl ?_ | refine Zr rfl ?_); simp only [↓Y0, Y9, Y1, Y2, Y3, Y4, Y5, Y6, Y7, Y8, go_sem]) | (refine Z5 rfl ?_; with_reducible first | refine ZT ?_ | refine ZF ?_) | refine ZS rfl ?_ | refine Z9 fun _ _ => ?_ | refine ZH ?_ | refine Zl ‹_› (by decide) ?_ | refine Zo rfl ?_ | refine Zp rfl ?_ | refine Zn rfl ?_ | fail
    refine call_pure rfl rfl (s1) ?_; simp only [↓Y0, Y9, Y1, Y2, Y3, Y4, Y5, Y6, Y7, Y8, go_sem]
    repeat' first | refine Z1 fun _ _ => ?_ | refine Z2 ‹_› ?_ | ((first | refine Z3 tb_ok lv11 rfl ?_ | refine Z4 tb_ok mix lv11 bs11 rfl (by kernel_rfl) rfl ?_ | refine Zr rfl ?_); simp only [↓Y0, Y9, Y1, Y2, Y3, Y4, Y5, Y6, Y7, Y8, go_sem]) | (refine Z5 rfl ?_; with_reducible first | refine ZT ?_ | refine ZF ?_) | refine ZS rfl ?_ | refine Z9 fun _ _ => ?_ | refine ZH ?_ | refine Zl ‹_› (by decide) ?_ | refine Zo rfl ?_ | refine Zp rfl ?_ | refine Zn rfl ?_ | fail
    refine call_pure rfl rfl (s2) ?_; simp only [↓Y0, Y9, Y1, Y2, Y3, Y4, Y5, Y6, Y7, Y8, go_sem]
    repeat' first | refine Z1 fun _ _ => ?_ | refine Z2 ‹_› ?_ | ((first | refine Z3 tb_ok lv11 rfl ?_ | refine Z4 tb_ok mix lv11 bs11 rfl (by kernel_rfl) rfl ?_ | refine Zr rfl ?_); simp only [↓Y0, Y9, Y1, Y2, Y3, Y4, Y5, Y6, Y7, Y8, go_sem]) | (refine Z5 rfl ?_; with_reducible first | refine ZT ?_ | refine ZF ?_) | refine ZS rfl ?_ | refine Z9 fun _ _ => ?_ | refine ZH ?_ | refine Zl ‹_› (by decide) ?_ | refine Zo rfl ?_ | refine Zp rfl ?_ | refine Zn rfl ?_ | fail
    simp only [↓Y0, Y9, Y1, Y2, Y3, Y4, Y5, Y6, Y7, Y8, go_sem, beq_self_eq_true]
    repeat' first | refine Z1 fun _ _ => ?_ | refine Z2 ‹_› ?_ | ((first | refine Z3 tb_ok lv11 rfl ?_ | refine Z4 tb_ok mix lv11 bs11 rfl (by kernel_rfl) rfl ?_ | refine Zr rfl ?_); simp only [↓Y0, Y9, Y1, Y2, Y3, Y4, Y5, Y6, Y7, Y8, go_sem]) | (refine Z5 rfl ?_; with_reducible first | refine ZT ?_ | refine ZF ?_) | refine ZS rfl ?_ | refine Z9 fun _ _ => ?_ | refine ZH ?_ | refine Zl ‹_› (by decide) ?_ | refine Zo rfl ?_ | refine Zp rfl ?_ | refine Zn rfl ?_ | fail
    refine call_pure rfl rfl (s3) ?_; simp only [↓Y0, Y9, Y1, Y2, Y3, Y4, Y5, Y6, Y7, Y8, go_sem]
    repeat' first | refine Z1 fun _ _ => ?_ | refine Z2 ‹_› ?_ | ((first | refine Z3 tb_ok lv11 rfl ?_ | refine Z4 tb_ok mix lv11 bs11 rfl (by kernel_rfl) rfl ?_ | refine Zr rfl ?_); simp only [↓Y0, Y9, Y1, Y2, Y3, Y4, Y5, Y6, Y7, Y8, go_sem]) | (refine Z5 rfl ?_; with_reducible first | refine ZT ?_ | refine ZF ?_) | refine ZS rfl ?_ | refine Z9 fun _ _ => ?_ | refine ZH ?_ | refine Zl ‹_› (by decide) ?_ | refine Zo rfl ?_ | refine Zp rfl ?_ | refine Zn rfl ?_ | fail
    exact decide_eq_true (by rw [hlen])
end Go.Proofs.Ytpibdbjlilpfiaa
