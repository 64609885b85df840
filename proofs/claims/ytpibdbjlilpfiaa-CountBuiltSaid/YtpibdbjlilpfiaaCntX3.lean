/- scantlinglaw12.CountBuilt. -/
import Derived.Test.YtpibdbjlilpfiaaCntU
import Derived.Test.YtpibdbjlilpfiaaCntW
import Derived.Test.YtpibdbjlilpfiaaSpanR
import Derived.Test.YtpibdbjlilpfiaaValP
namespace Go.Proofs.Ytpibdbjlilpfiaa
set_option linter.all false
open Go Go.RowKit
open Nat (reduceEqDiff reduceAdd reduceMul reduceSub reduceLeDiff)
open Int (reduceEq reduceLT reduceLE)

@[go_sem] def lv9 : List (Nat × List Nat) := [(0, [2, 3, 4]), (1, [2, 3, 4, 48]), (2, [6]), (3, [2, 3, 4, 7]), (4, [2, 3, 4, 7, 8]), (5, [2, 3, 4, 7, 8, 9]), (6, [2, 3, 7, 86]), (7, [6]), (8, [2, 3, 7, 10]), (9, [2, 3, 7, 10, 11]), (10, [2, 3, 7, 10, 11, 12]), (11, [2, 3, 7, 117]), (12, [6]), (13, [2, 7, 13, 14]), (14, [6])]
def bs9 : List (Nat × List Nat × List Nat) := []
set_option maxRecDepth 4000 in
set_option maxHeartbeats 4000000 in
theorem c_countBuilt {vars} {l m : List Nd} {w : List UInt8} (hcl : ∀ i, (l.getD i Nd.z).cok) (hl : l.length ≤ 140737488355328) (htx : ∀ i, (l.getD i Nd.z).text.size ≤ 140737488355328) (hcl' : ∀ i, (m.getD i Nd.z).cok) (hl' : m.length ≤ 140737488355328) (htx' : ∀ i, (m.getD i Nd.z).text.size ≤ 140737488355328) :
    PCon Try.prog ⟨vars, none⟩ 9 [desc l, desc m, bys w] (.bool true) := by
  have hff := c_fewB (gl := ⟨vars, none⟩) (l := l) (by omega) rfl
  have hft := c_Fits (gl := ⟨vars, none⟩) (l := l) (w := w)
  have hff' := c_fewB (gl := ⟨vars, none⟩) (l := m) (by omega) rfl
  have hft' := c_Fits (gl := ⟨vars, none⟩) (l := m) (w := w)
  cases hfew : few l with
  | false =>
    rw [hfew] at hff
    refine PCon.enter tb_ok (fn := Try.f9) (by kernel_rfl) (by kernel_rfl) rfl (by show 3 ≤ 149; decide) ?_
    repeat' first | refine Z1 fun _ _ => ?_ | refine Z2 ‹_› ?_ | ((first | refine Z3 tb_ok lv9 rfl ?_ | refine Zr rfl ?_); simp only [↓reduceIte, reduceCtorEq, reduceEqDiff, reduceAdd, reduceMul, reduceSub, reduceLeDiff, reduceEq, reduceLT, reduceLE, go_sem]) | (refine Z5 rfl ?_; with_reducible first | refine ZT ?_ | refine ZF ?_) | refine ZS rfl ?_ | refine ZH ?_ | fail
    refine call_pure rfl rfl (c_awake12) ?_; simp only [↓reduceIte, reduceCtorEq, reduceEqDiff, reduceAdd, reduceMul, reduceSub, reduceLeDiff, reduceEq, reduceLT, reduceLE, go_sem]
    repeat' first | refine Z1 fun _ _ => ?_ | refine Z2 ‹_› ?_ | ((first | refine Z3 tb_ok lv9 rfl ?_ | refine Zr rfl ?_); simp only [↓reduceIte, reduceCtorEq, reduceEqDiff, reduceAdd, reduceMul, reduceSub, reduceLeDiff, reduceEq, reduceLT, reduceLE, go_sem]) | (refine Z5 rfl ?_; with_reducible first | refine ZT ?_ | refine ZF ?_) | refine ZS rfl ?_ | refine ZH ?_ | fail
    refine call_pure rfl rfl (hff) ?_; simp only [↓reduceIte, reduceCtorEq, reduceEqDiff, reduceAdd, reduceMul, reduceSub, reduceLeDiff, reduceEq, reduceLT, reduceLE, go_sem]
    repeat' first | refine Z1 fun _ _ => ?_ | refine Z2 ‹_› ?_ | ((first | refine Z3 tb_ok lv9 rfl ?_ | refine Zr rfl ?_); simp only [↓reduceIte, reduceCtorEq, reduceEqDiff, reduceAdd, reduceMul, reduceSub, reduceLeDiff, reduceEq, reduceLT, reduceLE, go_sem]) | (refine Z5 rfl ?_; with_reducible first | refine ZT ?_ | refine ZF ?_) | refine ZS rfl ?_ | refine ZH ?_ | fail
    refine call_pure rfl rfl (c_awake12) ?_; simp only [↓reduceIte, reduceCtorEq, reduceEqDiff, reduceAdd, reduceMul, reduceSub, reduceLeDiff, reduceEq, reduceLT, reduceLE, go_sem]
    repeat' first | refine Z1 fun _ _ => ?_ | refine Z2 ‹_› ?_ | ((first | refine Z3 tb_ok lv9 rfl ?_ | refine Zr rfl ?_); simp only [↓reduceIte, reduceCtorEq, reduceEqDiff, reduceAdd, reduceMul, reduceSub, reduceLeDiff, reduceEq, reduceLT, reduceLE, go_sem]) | (refine Z5 rfl ?_; with_reducible first | refine ZT ?_ | refine ZF ?_) | refine ZS rfl ?_ | refine ZH ?_ | fail
  | true =>
  rw [hfew] at hff
  cases hfew' : few m with
  | false =>
    rw [hfew'] at hff'
    refine PCon.enter tb_ok (fn := Try.f9) (by kernel_rfl) (by kernel_rfl) rfl (by show 3 ≤ 149; decide) ?_
    repeat' first | refine Z1 fun _ _ => ?_ | refine Z2 ‹_› ?_ | ((first | refine Z3 tb_ok lv9 rfl ?_ | refine Zr rfl ?_); simp only [↓reduceIte, reduceCtorEq, reduceEqDiff, reduceAdd, reduceMul, reduceSub, reduceLeDiff, reduceEq, reduceLT, reduceLE, go_sem]) | (refine Z5 rfl ?_; with_reducible first | refine ZT ?_ | refine ZF ?_) | refine ZS rfl ?_ | refine ZH ?_ | fail
    refine call_pure rfl rfl (c_awake12) ?_; simp only [↓reduceIte, reduceCtorEq, reduceEqDiff, reduceAdd, reduceMul, reduceSub, reduceLeDiff, reduceEq, reduceLT, reduceLE, go_sem]
    repeat' first | refine Z1 fun _ _ => ?_ | refine Z2 ‹_› ?_ | ((first | refine Z3 tb_ok lv9 rfl ?_ | refine Zr rfl ?_); simp only [↓reduceIte, reduceCtorEq, reduceEqDiff, reduceAdd, reduceMul, reduceSub, reduceLeDiff, reduceEq, reduceLT, reduceLE, go_sem]) | (refine Z5 rfl ?_; with_reducible first | refine ZT ?_ | refine ZF ?_) | refine ZS rfl ?_ | refine ZH ?_ | fail
    refine call_pure rfl rfl (hff) ?_; simp only [↓reduceIte, reduceCtorEq, reduceEqDiff, reduceAdd, reduceMul, reduceSub, reduceLeDiff, reduceEq, reduceLT, reduceLE, go_sem]
    repeat' first | refine Z1 fun _ _ => ?_ | refine Z2 ‹_› ?_ | ((first | refine Z3 tb_ok lv9 rfl ?_ | refine Zr rfl ?_); simp only [↓reduceIte, reduceCtorEq, reduceEqDiff, reduceAdd, reduceMul, reduceSub, reduceLeDiff, reduceEq, reduceLT, reduceLE, go_sem]) | (refine Z5 rfl ?_; with_reducible first | refine ZT ?_ | refine ZF ?_) | refine ZS rfl ?_ | refine ZH ?_ | fail
    refine call_pure rfl rfl (hff') ?_; simp only [↓reduceIte, reduceCtorEq, reduceEqDiff, reduceAdd, reduceMul, reduceSub, reduceLeDiff, reduceEq, reduceLT, reduceLE, go_sem]
    repeat' first | refine Z1 fun _ _ => ?_ | refine Z2 ‹_› ?_ | ((first | refine Z3 tb_ok lv9 rfl ?_ | refine Zr rfl ?_); simp only [↓reduceIte, reduceCtorEq, reduceEqDiff, reduceAdd, reduceMul, reduceSub, reduceLeDiff, reduceEq, reduceLT, reduceLE, go_sem]) | (refine Z5 rfl ?_; with_reducible first | refine ZT ?_ | refine ZF ?_) | refine ZS rfl ?_ | refine ZH ?_ | fail
    refine call_pure rfl rfl (c_awake12) ?_; simp only [↓reduceIte, reduceCtorEq, reduceEqDiff, reduceAdd, reduceMul, reduceSub, reduceLeDiff, reduceEq, reduceLT, reduceLE, go_sem]
    repeat' first | refine Z1 fun _ _ => ?_ | refine Z2 ‹_› ?_ | ((first | refine Z3 tb_ok lv9 rfl ?_ | refine Zr rfl ?_); simp only [↓reduceIte, reduceCtorEq, reduceEqDiff, reduceAdd, reduceMul, reduceSub, reduceLeDiff, reduceEq, reduceLT, reduceLE, go_sem]) | (refine Z5 rfl ?_; with_reducible first | refine ZT ?_ | refine ZF ?_) | refine ZS rfl ?_ | refine ZH ?_ | fail
  | true =>
  rw [hfew'] at hff'
  cases hfit : decide (l.length ≤ 16 ∧ w.length ≤ 8) with
  | false =>
    rw [hfit] at hft
    refine PCon.enter tb_ok (fn := Try.f9) (by kernel_rfl) (by kernel_rfl) rfl (by show 3 ≤ 149; decide) ?_
    repeat' first | refine Z1 fun _ _ => ?_ | refine Z2 ‹_› ?_ | ((first | refine Z3 tb_ok lv9 rfl ?_ | refine Zr rfl ?_); simp only [↓reduceIte, reduceCtorEq, reduceEqDiff, reduceAdd, reduceMul, reduceSub, reduceLeDiff, reduceEq, reduceLT, reduceLE, go_sem]) | (refine Z5 rfl ?_; with_reducible first | refine ZT ?_ | refine ZF ?_) | refine ZS rfl ?_ | refine ZH ?_ | fail
    refine call_pure rfl rfl (c_awake12) ?_; simp only [↓reduceIte, reduceCtorEq, reduceEqDiff, reduceAdd, reduceMul, reduceSub, reduceLeDiff, reduceEq, reduceLT, reduceLE, go_sem]
    repeat' first | refine Z1 fun _ _ => ?_ | refine Z2 ‹_› ?_ | ((first | refine Z3 tb_ok lv9 rfl ?_ | refine Zr rfl ?_); simp only [↓reduceIte, reduceCtorEq, reduceEqDiff, reduceAdd, reduceMul, reduceSub, reduceLeDiff, reduceEq, reduceLT, reduceLE, go_sem]) | (refine Z5 rfl ?_; with_reducible first | refine ZT ?_ | refine ZF ?_) | refine ZS rfl ?_ | refine ZH ?_ | fail
    refine call_pure rfl rfl (hff) ?_; simp only [↓reduceIte, reduceCtorEq, reduceEqDiff, reduceAdd, reduceMul, reduceSub, reduceLeDiff, reduceEq, reduceLT, reduceLE, go_sem]
    repeat' first | refine Z1 fun _ _ => ?_ | refine Z2 ‹_› ?_ | ((first | refine Z3 tb_ok lv9 rfl ?_ | refine Zr rfl ?_); simp only [↓reduceIte, reduceCtorEq, reduceEqDiff, reduceAdd, reduceMul, reduceSub, reduceLeDiff, reduceEq, reduceLT, reduceLE, go_sem]) | (refine Z5 rfl ?_; with_reducible first | refine ZT ?_ | refine ZF ?_) | refine ZS rfl ?_ | refine ZH ?_ | fail
    refine call_pure rfl rfl (hff') ?_; simp only [↓reduceIte, reduceCtorEq, reduceEqDiff, reduceAdd, reduceMul, reduceSub, reduceLeDiff, reduceEq, reduceLT, reduceLE, go_sem]
    repeat' first | refine Z1 fun _ _ => ?_ | refine Z2 ‹_› ?_ | ((first | refine Z3 tb_ok lv9 rfl ?_ | refine Zr rfl ?_); simp only [↓reduceIte, reduceCtorEq, reduceEqDiff, reduceAdd, reduceMul, reduceSub, reduceLeDiff, reduceEq, reduceLT, reduceLE, go_sem]) | (refine Z5 rfl ?_; with_reducible first | refine ZT ?_ | refine ZF ?_) | refine ZS rfl ?_ | refine ZH ?_ | fail
    refine call_pure rfl rfl (hft) ?_; simp only [↓reduceIte, reduceCtorEq, reduceEqDiff, reduceAdd, reduceMul, reduceSub, reduceLeDiff, reduceEq, reduceLT, reduceLE, go_sem]
    repeat' first | refine Z1 fun _ _ => ?_ | refine Z2 ‹_› ?_ | ((first | refine Z3 tb_ok lv9 rfl ?_ | refine Zr rfl ?_); simp only [↓reduceIte, reduceCtorEq, reduceEqDiff, reduceAdd, reduceMul, reduceSub, reduceLeDiff, reduceEq, reduceLT, reduceLE, go_sem]) | (refine Z5 rfl ?_; with_reducible first | refine ZT ?_ | refine ZF ?_) | refine ZS rfl ?_ | refine ZH ?_ | fail
    refine call_pure rfl rfl (c_awake12) ?_; simp only [↓reduceIte, reduceCtorEq, reduceEqDiff, reduceAdd, reduceMul, reduceSub, reduceLeDiff, reduceEq, reduceLT, reduceLE, go_sem]
    repeat' first | refine Z1 fun _ _ => ?_ | refine Z2 ‹_› ?_ | ((first | refine Z3 tb_ok lv9 rfl ?_ | refine Zr rfl ?_); simp only [↓reduceIte, reduceCtorEq, reduceEqDiff, reduceAdd, reduceMul, reduceSub, reduceLeDiff, reduceEq, reduceLT, reduceLE, go_sem]) | (refine Z5 rfl ?_; with_reducible first | refine ZT ?_ | refine ZF ?_) | refine ZS rfl ?_ | refine ZH ?_ | fail
  | true =>
  rw [hfit] at hft
  cases hfit' : decide (m.length ≤ 16 ∧ w.length ≤ 8) with
  | false =>
    rw [hfit'] at hft'
    refine PCon.enter tb_ok (fn := Try.f9) (by kernel_rfl) (by kernel_rfl) rfl (by show 3 ≤ 149; decide) ?_
    repeat' first | refine Z1 fun _ _ => ?_ | refine Z2 ‹_› ?_ | ((first | refine Z3 tb_ok lv9 rfl ?_ | refine Zr rfl ?_); simp only [↓reduceIte, reduceCtorEq, reduceEqDiff, reduceAdd, reduceMul, reduceSub, reduceLeDiff, reduceEq, reduceLT, reduceLE, go_sem]) | (refine Z5 rfl ?_; with_reducible first | refine ZT ?_ | refine ZF ?_) | refine ZS rfl ?_ | refine ZH ?_ | fail
    refine call_pure rfl rfl (c_awake12) ?_; simp only [↓reduceIte, reduceCtorEq, reduceEqDiff, reduceAdd, reduceMul, reduceSub, reduceLeDiff, reduceEq, reduceLT, reduceLE, go_sem]
    repeat' first | refine Z1 fun _ _ => ?_ | refine Z2 ‹_› ?_ | ((first | refine Z3 tb_ok lv9 rfl ?_ | refine Zr rfl ?_); simp only [↓reduceIte, reduceCtorEq, reduceEqDiff, reduceAdd, reduceMul, reduceSub, reduceLeDiff, reduceEq, reduceLT, reduceLE, go_sem]) | (refine Z5 rfl ?_; with_reducible first | refine ZT ?_ | refine ZF ?_) | refine ZS rfl ?_ | refine ZH ?_ | fail
    refine call_pure rfl rfl (hff) ?_; simp only [↓reduceIte, reduceCtorEq, reduceEqDiff, reduceAdd, reduceMul, reduceSub, reduceLeDiff, reduceEq, reduceLT, reduceLE, go_sem]
    repeat' first | refine Z1 fun _ _ => ?_ | refine Z2 ‹_› ?_ | ((first | refine Z3 tb_ok lv9 rfl ?_ | refine Zr rfl ?_); simp only [↓reduceIte, reduceCtorEq, reduceEqDiff, reduceAdd, reduceMul, reduceSub, reduceLeDiff, reduceEq, reduceLT, reduceLE, go_sem]) | (refine Z5 rfl ?_; with_reducible first | refine ZT ?_ | refine ZF ?_) | refine ZS rfl ?_ | refine ZH ?_ | fail
    refine call_pure rfl rfl (hff') ?_; simp only [↓reduceIte, reduceCtorEq, reduceEqDiff, reduceAdd, reduceMul, reduceSub, reduceLeDiff, reduceEq, reduceLT, reduceLE, go_sem]
    repeat' first | refine Z1 fun _ _ => ?_ | refine Z2 ‹_› ?_ | ((first | refine Z3 tb_ok lv9 rfl ?_ | refine Zr rfl ?_); simp only [↓reduceIte, reduceCtorEq, reduceEqDiff, reduceAdd, reduceMul, reduceSub, reduceLeDiff, reduceEq, reduceLT, reduceLE, go_sem]) | (refine Z5 rfl ?_; with_reducible first | refine ZT ?_ | refine ZF ?_) | refine ZS rfl ?_ | refine ZH ?_ | fail
    refine call_pure rfl rfl (hft) ?_; simp only [↓reduceIte, reduceCtorEq, reduceEqDiff, reduceAdd, reduceMul, reduceSub, reduceLeDiff, reduceEq, reduceLT, reduceLE, go_sem]
    repeat' first | refine Z1 fun _ _ => ?_ | refine Z2 ‹_› ?_ | ((first | refine Z3 tb_ok lv9 rfl ?_ | refine Zr rfl ?_); simp only [↓reduceIte, reduceCtorEq, reduceEqDiff, reduceAdd, reduceMul, reduceSub, reduceLeDiff, reduceEq, reduceLT, reduceLE, go_sem]) | (refine Z5 rfl ?_; with_reducible first | refine ZT ?_ | refine ZF ?_) | refine ZS rfl ?_ | refine ZH ?_ | fail
    refine call_pure rfl rfl (hft') ?_; simp only [↓reduceIte, reduceCtorEq, reduceEqDiff, reduceAdd, reduceMul, reduceSub, reduceLeDiff, reduceEq, reduceLT, reduceLE, go_sem]
    repeat' first | refine Z1 fun _ _ => ?_ | refine Z2 ‹_› ?_ | ((first | refine Z3 tb_ok lv9 rfl ?_ | refine Zr rfl ?_); simp only [↓reduceIte, reduceCtorEq, reduceEqDiff, reduceAdd, reduceMul, reduceSub, reduceLeDiff, reduceEq, reduceLT, reduceLE, go_sem]) | (refine Z5 rfl ?_; with_reducible first | refine ZT ?_ | refine ZF ?_) | refine ZS rfl ?_ | refine ZH ?_ | fail
    refine call_pure rfl rfl (c_awake12) ?_; simp only [↓reduceIte, reduceCtorEq, reduceEqDiff, reduceAdd, reduceMul, reduceSub, reduceLeDiff, reduceEq, reduceLT, reduceLE, go_sem]
    repeat' first | refine Z1 fun _ _ => ?_ | refine Z2 ‹_› ?_ | ((first | refine Z3 tb_ok lv9 rfl ?_ | refine Zr rfl ?_); simp only [↓reduceIte, reduceCtorEq, reduceEqDiff, reduceAdd, reduceMul, reduceSub, reduceLeDiff, reduceEq, reduceLT, reduceLE, go_sem]) | (refine Z5 rfl ?_; with_reducible first | refine ZT ?_ | refine ZF ?_) | refine ZS rfl ?_ | refine ZH ?_ | fail
  | true =>
  rw [hfit'] at hft'
  obtain ⟨hl, htx⟩ := few_small htx hfew
  obtain ⟨b, hb, hright⟩ := c_right (gl := ⟨vars, none⟩) hl htx
  cases b with
  | false =>
    refine PCon.enter tb_ok (fn := Try.f9) (by kernel_rfl) (by kernel_rfl) rfl (by show 3 ≤ 149; decide) ?_
    repeat' first | refine Z1 fun _ _ => ?_ | refine Z2 ‹_› ?_ | ((first | refine Z3 tb_ok lv9 rfl ?_ | refine Zr rfl ?_); simp only [↓reduceIte, reduceCtorEq, reduceEqDiff, reduceAdd, reduceMul, reduceSub, reduceLeDiff, reduceEq, reduceLT, reduceLE, go_sem]) | (refine Z5 rfl ?_; with_reducible first | refine ZT ?_ | refine ZF ?_) | refine ZS rfl ?_ | refine ZH ?_ | fail
    refine call_pure rfl rfl (c_awake12) ?_; simp only [↓reduceIte, reduceCtorEq, reduceEqDiff, reduceAdd, reduceMul, reduceSub, reduceLeDiff, reduceEq, reduceLT, reduceLE, go_sem]
    repeat' first | refine Z1 fun _ _ => ?_ | refine Z2 ‹_› ?_ | ((first | refine Z3 tb_ok lv9 rfl ?_ | refine Zr rfl ?_); simp only [↓reduceIte, reduceCtorEq, reduceEqDiff, reduceAdd, reduceMul, reduceSub, reduceLeDiff, reduceEq, reduceLT, reduceLE, go_sem]) | (refine Z5 rfl ?_; with_reducible first | refine ZT ?_ | refine ZF ?_) | refine ZS rfl ?_ | refine ZH ?_ | fail
    refine call_pure rfl rfl (hff) ?_; simp only [↓reduceIte, reduceCtorEq, reduceEqDiff, reduceAdd, reduceMul, reduceSub, reduceLeDiff, reduceEq, reduceLT, reduceLE, go_sem]
    repeat' first | refine Z1 fun _ _ => ?_ | refine Z2 ‹_› ?_ | ((first | refine Z3 tb_ok lv9 rfl ?_ | refine Zr rfl ?_); simp only [↓reduceIte, reduceCtorEq, reduceEqDiff, reduceAdd, reduceMul, reduceSub, reduceLeDiff, reduceEq, reduceLT, reduceLE, go_sem]) | (refine Z5 rfl ?_; with_reducible first | refine ZT ?_ | refine ZF ?_) | refine ZS rfl ?_ | refine ZH ?_ | fail
    refine call_pure rfl rfl (hff') ?_; simp only [↓reduceIte, reduceCtorEq, reduceEqDiff, reduceAdd, reduceMul, reduceSub, reduceLeDiff, reduceEq, reduceLT, reduceLE, go_sem]
    repeat' first | refine Z1 fun _ _ => ?_ | refine Z2 ‹_› ?_ | ((first | refine Z3 tb_ok lv9 rfl ?_ | refine Zr rfl ?_); simp only [↓reduceIte, reduceCtorEq, reduceEqDiff, reduceAdd, reduceMul, reduceSub, reduceLeDiff, reduceEq, reduceLT, reduceLE, go_sem]) | (refine Z5 rfl ?_; with_reducible first | refine ZT ?_ | refine ZF ?_) | refine ZS rfl ?_ | refine ZH ?_ | fail
    refine call_pure rfl rfl (hft) ?_; simp only [↓reduceIte, reduceCtorEq, reduceEqDiff, reduceAdd, reduceMul, reduceSub, reduceLeDiff, reduceEq, reduceLT, reduceLE, go_sem]
    repeat' first | refine Z1 fun _ _ => ?_ | refine Z2 ‹_› ?_ | ((first | refine Z3 tb_ok lv9 rfl ?_ | refine Zr rfl ?_); simp only [↓reduceIte, reduceCtorEq, reduceEqDiff, reduceAdd, reduceMul, reduceSub, reduceLeDiff, reduceEq, reduceLT, reduceLE, go_sem]) | (refine Z5 rfl ?_; with_reducible first | refine ZT ?_ | refine ZF ?_) | refine ZS rfl ?_ | refine ZH ?_ | fail
    refine call_pure rfl rfl (hft') ?_; simp only [↓reduceIte, reduceCtorEq, reduceEqDiff, reduceAdd, reduceMul, reduceSub, reduceLeDiff, reduceEq, reduceLT, reduceLE, go_sem]
    repeat' first | refine Z1 fun _ _ => ?_ | refine Z2 ‹_› ?_ | ((first | refine Z3 tb_ok lv9 rfl ?_ | refine Zr rfl ?_); simp only [↓reduceIte, reduceCtorEq, reduceEqDiff, reduceAdd, reduceMul, reduceSub, reduceLeDiff, reduceEq, reduceLT, reduceLE, go_sem]) | (refine Z5 rfl ?_; with_reducible first | refine ZT ?_ | refine ZF ?_) | refine ZS rfl ?_ | refine ZH ?_ | fail
    refine call_pure rfl rfl (hright) ?_; simp only [↓reduceIte, reduceCtorEq, reduceEqDiff, reduceAdd, reduceMul, reduceSub, reduceLeDiff, reduceEq, reduceLT, reduceLE, go_sem]
    repeat' first | refine Z1 fun _ _ => ?_ | refine Z2 ‹_› ?_ | ((first | refine Z3 tb_ok lv9 rfl ?_ | refine Zr rfl ?_); simp only [↓reduceIte, reduceCtorEq, reduceEqDiff, reduceAdd, reduceMul, reduceSub, reduceLeDiff, reduceEq, reduceLT, reduceLE, go_sem]) | (refine Z5 rfl ?_; with_reducible first | refine ZT ?_ | refine ZF ?_) | refine ZS rfl ?_ | refine ZH ?_ | fail
    refine call_pure rfl rfl (c_awake12) ?_; simp only [↓reduceIte, reduceCtorEq, reduceEqDiff, reduceAdd, reduceMul, reduceSub, reduceLeDiff, reduceEq, reduceLT, reduceLE, go_sem]
    repeat' first | refine Z1 fun _ _ => ?_ | refine Z2 ‹_› ?_ | ((first | refine Z3 tb_ok lv9 rfl ?_ | refine Zr rfl ?_); simp only [↓reduceIte, reduceCtorEq, reduceEqDiff, reduceAdd, reduceMul, reduceSub, reduceLeDiff, reduceEq, reduceLT, reduceLE, go_sem]) | (refine Z5 rfl ?_; with_reducible first | refine ZT ?_ | refine ZF ?_) | refine ZS rfl ?_ | refine ZH ?_ | fail
  | true =>
  obtain ⟨hl', htx'⟩ := few_small htx' hfew'
  obtain ⟨b', hb', hright'⟩ := c_right (gl := ⟨vars, none⟩) hl' htx'
  cases b' with
  | false =>
    refine PCon.enter tb_ok (fn := Try.f9) (by kernel_rfl) (by kernel_rfl) rfl (by show 3 ≤ 149; decide) ?_
    repeat' first | refine Z1 fun _ _ => ?_ | refine Z2 ‹_› ?_ | ((first | refine Z3 tb_ok lv9 rfl ?_ | refine Zr rfl ?_); simp only [↓reduceIte, reduceCtorEq, reduceEqDiff, reduceAdd, reduceMul, reduceSub, reduceLeDiff, reduceEq, reduceLT, reduceLE, go_sem]) | (refine Z5 rfl ?_; with_reducible first | refine ZT ?_ | refine ZF ?_) | refine ZS rfl ?_ | refine ZH ?_ | fail
    refine call_pure rfl rfl (c_awake12) ?_; simp only [↓reduceIte, reduceCtorEq, reduceEqDiff, reduceAdd, reduceMul, reduceSub, reduceLeDiff, reduceEq, reduceLT, reduceLE, go_sem]
    repeat' first | refine Z1 fun _ _ => ?_ | refine Z2 ‹_› ?_ | ((first | refine Z3 tb_ok lv9 rfl ?_ | refine Zr rfl ?_); simp only [↓reduceIte, reduceCtorEq, reduceEqDiff, reduceAdd, reduceMul, reduceSub, reduceLeDiff, reduceEq, reduceLT, reduceLE, go_sem]) | (refine Z5 rfl ?_; with_reducible first | refine ZT ?_ | refine ZF ?_) | refine ZS rfl ?_ | refine ZH ?_ | fail
    refine call_pure rfl rfl (hff) ?_; simp only [↓reduceIte, reduceCtorEq, reduceEqDiff, reduceAdd, reduceMul, reduceSub, reduceLeDiff, reduceEq, reduceLT, reduceLE, go_sem]
    repeat' first | refine Z1 fun _ _ => ?_ | refine Z2 ‹_› ?_ | ((first | refine Z3 tb_ok lv9 rfl ?_ | refine Zr rfl ?_); simp only [↓reduceIte, reduceCtorEq, reduceEqDiff, reduceAdd, reduceMul, reduceSub, reduceLeDiff, reduceEq, reduceLT, reduceLE, go_sem]) | (refine Z5 rfl ?_; with_reducible first | refine ZT ?_ | refine ZF ?_) | refine ZS rfl ?_ | refine ZH ?_ | fail
    refine call_pure rfl rfl (hff') ?_; simp only [↓reduceIte, reduceCtorEq, reduceEqDiff, reduceAdd, reduceMul, reduceSub, reduceLeDiff, reduceEq, reduceLT, reduceLE, go_sem]
    repeat' first | refine Z1 fun _ _ => ?_ | refine Z2 ‹_› ?_ | ((first | refine Z3 tb_ok lv9 rfl ?_ | refine Zr rfl ?_); simp only [↓reduceIte, reduceCtorEq, reduceEqDiff, reduceAdd, reduceMul, reduceSub, reduceLeDiff, reduceEq, reduceLT, reduceLE, go_sem]) | (refine Z5 rfl ?_; with_reducible first | refine ZT ?_ | refine ZF ?_) | refine ZS rfl ?_ | refine ZH ?_ | fail
    refine call_pure rfl rfl (hft) ?_; simp only [↓reduceIte, reduceCtorEq, reduceEqDiff, reduceAdd, reduceMul, reduceSub, reduceLeDiff, reduceEq, reduceLT, reduceLE, go_sem]
    repeat' first | refine Z1 fun _ _ => ?_ | refine Z2 ‹_› ?_ | ((first | refine Z3 tb_ok lv9 rfl ?_ | refine Zr rfl ?_); simp only [↓reduceIte, reduceCtorEq, reduceEqDiff, reduceAdd, reduceMul, reduceSub, reduceLeDiff, reduceEq, reduceLT, reduceLE, go_sem]) | (refine Z5 rfl ?_; with_reducible first | refine ZT ?_ | refine ZF ?_) | refine ZS rfl ?_ | refine ZH ?_ | fail
    refine call_pure rfl rfl (hft') ?_; simp only [↓reduceIte, reduceCtorEq, reduceEqDiff, reduceAdd, reduceMul, reduceSub, reduceLeDiff, reduceEq, reduceLT, reduceLE, go_sem]
    repeat' first | refine Z1 fun _ _ => ?_ | refine Z2 ‹_› ?_ | ((first | refine Z3 tb_ok lv9 rfl ?_ | refine Zr rfl ?_); simp only [↓reduceIte, reduceCtorEq, reduceEqDiff, reduceAdd, reduceMul, reduceSub, reduceLeDiff, reduceEq, reduceLT, reduceLE, go_sem]) | (refine Z5 rfl ?_; with_reducible first | refine ZT ?_ | refine ZF ?_) | refine ZS rfl ?_ | refine ZH ?_ | fail
    refine call_pure rfl rfl (hright) ?_; simp only [↓reduceIte, reduceCtorEq, reduceEqDiff, reduceAdd, reduceMul, reduceSub, reduceLeDiff, reduceEq, reduceLT, reduceLE, go_sem]
    repeat' first | refine Z1 fun _ _ => ?_ | refine Z2 ‹_› ?_ | ((first | refine Z3 tb_ok lv9 rfl ?_ | refine Zr rfl ?_); simp only [↓reduceIte, reduceCtorEq, reduceEqDiff, reduceAdd, reduceMul, reduceSub, reduceLeDiff, reduceEq, reduceLT, reduceLE, go_sem]) | (refine Z5 rfl ?_; with_reducible first | refine ZT ?_ | refine ZF ?_) | refine ZS rfl ?_ | refine ZH ?_ | fail
    refine call_pure rfl rfl (hright') ?_; simp only [↓reduceIte, reduceCtorEq, reduceEqDiff, reduceAdd, reduceMul, reduceSub, reduceLeDiff, reduceEq, reduceLT, reduceLE, go_sem]
    repeat' first | refine Z1 fun _ _ => ?_ | refine Z2 ‹_› ?_ | ((first | refine Z3 tb_ok lv9 rfl ?_ | refine Zr rfl ?_); simp only [↓reduceIte, reduceCtorEq, reduceEqDiff, reduceAdd, reduceMul, reduceSub, reduceLeDiff, reduceEq, reduceLT, reduceLE, go_sem]) | (refine Z5 rfl ?_; with_reducible first | refine ZT ?_ | refine ZF ?_) | refine ZS rfl ?_ | refine ZH ?_ | fail
    refine call_pure rfl rfl (c_awake12) ?_; simp only [↓reduceIte, reduceCtorEq, reduceEqDiff, reduceAdd, reduceMul, reduceSub, reduceLeDiff, reduceEq, reduceLT, reduceLE, go_sem]
    repeat' first | refine Z1 fun _ _ => ?_ | refine Z2 ‹_› ?_ | ((first | refine Z3 tb_ok lv9 rfl ?_ | refine Zr rfl ?_); simp only [↓reduceIte, reduceCtorEq, reduceEqDiff, reduceAdd, reduceMul, reduceSub, reduceLeDiff, reduceEq, reduceLT, reduceLE, go_sem]) | (refine Z5 rfl ?_; with_reducible first | refine ZT ?_ | refine ZF ?_) | refine ZS rfl ?_ | refine ZH ?_ | fail
  | true =>
  obtain ⟨t, rfl, hok⟩ := hb rfl
  have hc := cok_sits hcl t 0 (sits_flat t)
  rw [T.flat_len] at hl
  rw [decide_eq_true_eq, T.flat_len] at hfit
  have hp := t.n_pos
  obtain ⟨r, rfl, hok'⟩ := hb' rfl
  have hc' := cok_sits hcl' r 0 (sits_flat r)
  rw [T.flat_len] at hl'
  rw [decide_eq_true_eq, T.flat_len] at hfit'
  have hp' := r.n_pos
  have wa := c_cWays (vars := vars) (t := t) (w := w) (by omega) (by omega) hok hc
  have wb := c_cWays (vars := vars) (t := r) (w := w) (by omega) (by omega) hok' hc'
  have ba := t.fnd_len w
  have bb := r.fnd_len w
  have p5 := c_pair (gl := ⟨vars, none⟩) (k := 5) (a := t) (b := r) (by omega) (by omega) hok hok'
  have p4 := c_pair (gl := ⟨vars, none⟩) (k := 4) (a := t) (b := .void) (txt := txtOk) (by omega) (by decide) hok trivial
  have p4' := c_pair (gl := ⟨vars, none⟩) (k := 4) (a := .void) (b := t) (txt := txtOk) (by decide) (by omega) trivial hok
  have pw := c_wrap (gl := ⟨vars, none⟩) (k := 8) (lo := 0) (hi := 0) (t := t) (by omega) hok
  have o1 := c_cWays (vars := vars) (t := .two 5 t r) (w := w) (by simp only [T.n]; omega) (by omega) ⟨.inr rfl, hok, hok'⟩ ⟨hc, hc'⟩
  have s4 := c_cWays (vars := vars) (t := .two 4 t .void) (w := w) (by simp only [T.n]; omega) (by omega) ⟨.inl rfl, hok, trivial⟩ ⟨hc, trivial⟩
  have s4' := c_cWays (vars := vars) (t := .two 4 .void t) (w := w) (by simp only [T.n]; omega) (by omega) ⟨.inl rfl, trivial, hok⟩ ⟨trivial, hc⟩
  rw [ways_or hok hok'] at o1
  rw [ways_seqR hok] at s4
  rw [ways_seqL hok] at s4'
  have hf8 : (T.one 8 0 0 t).ok txtOk := ⟨.inl ⟨.inr (.inl rfl), rfl, rfl⟩, hok⟩
  have b1 : (UInt8.ofNat w.length).toNat = w.length := by rw [UInt8.toNat_ofNat']; omega
  have b2 : (UInt8.ofNat (w.length + 1)).toNat = w.length + 1 := by rw [UInt8.toNat_ofNat']; omega
  have x1 := c_cWays (vars := vars) (t := .one 8 0 0 t) (w := UInt8.ofNat w.length :: w) (by simp only [T.n]; omega) (by rw [List.length_cons]; omega) hf8 hc
  have x2 := c_cWays (vars := vars) (t := .one 8 0 0 t) (w := UInt8.ofNat (w.length + 1) :: w) (by simp only [T.n]; omega) (by rw [List.length_cons]; omega) hf8 hc
  have x3 := c_cWays (vars := vars) (t := .one 8 0 0 t) (w := []) (by simp only [T.n]; omega) (by simp) hf8 hc
  rw [ways_frame, if_pos b1] at x1
  rw [ways_frame, if_neg (by omega)] at x2
  rw [ways_frame0] at x3
  have cn := c_rnodeOf (gl := ⟨vars, none⟩) (t := t) hl hok
  have hlw : IntKind.i64.wrap (((t.flat 0).length : Int) - 1) = ((t.n - 1 : Nat) : Int) := by rw [T.flat_len, wrap64 (by omega) (by omega)]; omega
  rw [← hlw] at cn
  refine PCon.enter tb_ok (fn := Try.f9) (by kernel_rfl) (by kernel_rfl) rfl (by show 3 ≤ 149; decide) ?_
  repeat' first | refine Z1 fun _ _ => ?_ | refine Z2 ‹_› ?_ | ((first | refine Z3 tb_ok lv9 rfl ?_ | refine Zr rfl ?_); simp only [↓reduceIte, reduceCtorEq, reduceEqDiff, reduceAdd, reduceMul, reduceSub, reduceLeDiff, reduceEq, reduceLT, reduceLE, go_sem]) | (refine Z5 rfl ?_; with_reducible first | refine ZT ?_ | refine ZF ?_) | refine ZS rfl ?_ | refine ZH ?_ | fail
  refine call_pure rfl rfl (c_awake12) ?_; simp only [↓reduceIte, reduceCtorEq, reduceEqDiff, reduceAdd, reduceMul, reduceSub, reduceLeDiff, reduceEq, reduceLT, reduceLE, go_sem]
  repeat' first | refine Z1 fun _ _ => ?_ | refine Z2 ‹_› ?_ | ((first | refine Z3 tb_ok lv9 rfl ?_ | refine Zr rfl ?_); simp only [↓reduceIte, reduceCtorEq, reduceEqDiff, reduceAdd, reduceMul, reduceSub, reduceLeDiff, reduceEq, reduceLT, reduceLE, go_sem]) | (refine Z5 rfl ?_; with_reducible first | refine ZT ?_ | refine ZF ?_) | refine ZS rfl ?_ | refine ZH ?_ | fail
  refine call_pure rfl rfl (hff) ?_; simp only [↓reduceIte, reduceCtorEq, reduceEqDiff, reduceAdd, reduceMul, reduceSub, reduceLeDiff, reduceEq, reduceLT, reduceLE, go_sem]
  repeat' first | refine Z1 fun _ _ => ?_ | refine Z2 ‹_› ?_ | ((first | refine Z3 tb_ok lv9 rfl ?_ | refine Zr rfl ?_); simp only [↓reduceIte, reduceCtorEq, reduceEqDiff, reduceAdd, reduceMul, reduceSub, reduceLeDiff, reduceEq, reduceLT, reduceLE, go_sem]) | (refine Z5 rfl ?_; with_reducible first | refine ZT ?_ | refine ZF ?_) | refine ZS rfl ?_ | refine ZH ?_ | fail
  refine call_pure rfl rfl (hff') ?_; simp only [↓reduceIte, reduceCtorEq, reduceEqDiff, reduceAdd, reduceMul, reduceSub, reduceLeDiff, reduceEq, reduceLT, reduceLE, go_sem]
  repeat' first | refine Z1 fun _ _ => ?_ | refine Z2 ‹_› ?_ | ((first | refine Z3 tb_ok lv9 rfl ?_ | refine Zr rfl ?_); simp only [↓reduceIte, reduceCtorEq, reduceEqDiff, reduceAdd, reduceMul, reduceSub, reduceLeDiff, reduceEq, reduceLT, reduceLE, go_sem]) | (refine Z5 rfl ?_; with_reducible first | refine ZT ?_ | refine ZF ?_) | refine ZS rfl ?_ | refine ZH ?_ | fail
  refine call_pure rfl rfl (hft) ?_; simp only [↓reduceIte, reduceCtorEq, reduceEqDiff, reduceAdd, reduceMul, reduceSub, reduceLeDiff, reduceEq, reduceLT, reduceLE, go_sem]
  repeat' first | refine Z1 fun _ _ => ?_ | refine Z2 ‹_› ?_ | ((first | refine Z3 tb_ok lv9 rfl ?_ | refine Zr rfl ?_); simp only [↓reduceIte, reduceCtorEq, reduceEqDiff, reduceAdd, reduceMul, reduceSub, reduceLeDiff, reduceEq, reduceLT, reduceLE, go_sem]) | (refine Z5 rfl ?_; with_reducible first | refine ZT ?_ | refine ZF ?_) | refine ZS rfl ?_ | refine ZH ?_ | fail
  refine call_pure rfl rfl (hft') ?_; simp only [↓reduceIte, reduceCtorEq, reduceEqDiff, reduceAdd, reduceMul, reduceSub, reduceLeDiff, reduceEq, reduceLT, reduceLE, go_sem]
  repeat' first | refine Z1 fun _ _ => ?_ | refine Z2 ‹_› ?_ | ((first | refine Z3 tb_ok lv9 rfl ?_ | refine Zr rfl ?_); simp only [↓reduceIte, reduceCtorEq, reduceEqDiff, reduceAdd, reduceMul, reduceSub, reduceLeDiff, reduceEq, reduceLT, reduceLE, go_sem]) | (refine Z5 rfl ?_; with_reducible first | refine ZT ?_ | refine ZF ?_) | refine ZS rfl ?_ | refine ZH ?_ | fail
  refine call_pure rfl rfl (hright) ?_; simp only [↓reduceIte, reduceCtorEq, reduceEqDiff, reduceAdd, reduceMul, reduceSub, reduceLeDiff, reduceEq, reduceLT, reduceLE, go_sem]
  repeat' first | refine Z1 fun _ _ => ?_ | refine Z2 ‹_› ?_ | ((first | refine Z3 tb_ok lv9 rfl ?_ | refine Zr rfl ?_); simp only [↓reduceIte, reduceCtorEq, reduceEqDiff, reduceAdd, reduceMul, reduceSub, reduceLeDiff, reduceEq, reduceLT, reduceLE, go_sem]) | (refine Z5 rfl ?_; with_reducible first | refine ZT ?_ | refine ZF ?_) | refine ZS rfl ?_ | refine ZH ?_ | fail
  refine call_pure rfl rfl (hright') ?_; simp only [↓reduceIte, reduceCtorEq, reduceEqDiff, reduceAdd, reduceMul, reduceSub, reduceLeDiff, reduceEq, reduceLT, reduceLE, go_sem]
  repeat' first | refine Z1 fun _ _ => ?_ | refine Z2 ‹_› ?_ | ((first | refine Z3 tb_ok lv9 rfl ?_ | refine Zr rfl ?_); simp only [↓reduceIte, reduceCtorEq, reduceEqDiff, reduceAdd, reduceMul, reduceSub, reduceLeDiff, reduceEq, reduceLT, reduceLE, go_sem]) | (refine Z5 rfl ?_; with_reducible first | refine ZT ?_ | refine ZF ?_) | refine ZS rfl ?_ | refine ZH ?_ | fail
  refine call_pure rfl rfl (wa) ?_; simp only [↓reduceIte, reduceCtorEq, reduceEqDiff, reduceAdd, reduceMul, reduceSub, reduceLeDiff, reduceEq, reduceLT, reduceLE, go_sem]
  repeat' first | refine Z1 fun _ _ => ?_ | refine Z2 ‹_› ?_ | ((first | refine Z3 tb_ok lv9 rfl ?_ | refine Zr rfl ?_); simp only [↓reduceIte, reduceCtorEq, reduceEqDiff, reduceAdd, reduceMul, reduceSub, reduceLeDiff, reduceEq, reduceLT, reduceLE, go_sem]) | (refine Z5 rfl ?_; with_reducible first | refine ZT ?_ | refine ZF ?_) | refine ZS rfl ?_ | refine ZH ?_ | fail
  refine call_pure rfl rfl (wb) ?_; simp only [↓reduceIte, reduceCtorEq, reduceEqDiff, reduceAdd, reduceMul, reduceSub, reduceLeDiff, reduceEq, reduceLT, reduceLE, go_sem]
  repeat' first | refine Z1 fun _ _ => ?_ | ((first | refine Z3 tb_ok lv9 rfl ?_ | refine Zr rfl ?_); simp only [↓reduceIte, reduceCtorEq, reduceEqDiff, reduceAdd, reduceMul, reduceSub, reduceLeDiff, reduceEq, reduceLT, reduceLE, go_sem]) | (refine Z5 rfl ?_; with_reducible first | refine ZT ?_ | refine ZF ?_) | refine ZS rfl ?_ | refine ZH ?_ | fail
  refine Z2 ‹_› ?_
  repeat' first | refine Z1 fun _ _ => ?_ | ((first | refine Z3 tb_ok lv9 rfl ?_ | refine Zr rfl ?_); simp only [↓reduceIte, reduceCtorEq, reduceEqDiff, reduceAdd, reduceMul, reduceSub, reduceLeDiff, reduceEq, reduceLT, reduceLE, go_sem]) | (refine Z5 rfl ?_; with_reducible first | refine ZT ?_ | refine ZF ?_) | refine ZS rfl ?_ | refine ZH ?_ | fail
  refine Cut.go ‹_› ?_; refine .freeze 46 rfl rfl ?_; simp only [↓reduceIte, reduceCtorEq, reduceEqDiff, reduceAdd, reduceMul, reduceSub, reduceLeDiff, reduceEq, reduceLT, reduceLE, go_sem]
  repeat' first | refine Z1 fun _ _ => ?_ | refine Z2 ‹_› ?_ | ((first | refine Z3 tb_ok lv9 rfl ?_ | refine Zr rfl ?_); simp only [↓reduceIte, reduceCtorEq, reduceEqDiff, reduceAdd, reduceMul, reduceSub, reduceLeDiff, reduceEq, reduceLT, reduceLE, go_sem]) | (refine Z5 rfl ?_; with_reducible first | refine ZT ?_ | refine ZF ?_) | refine ZS rfl ?_ | refine ZH ?_ | fail
  refine call_pure rfl rfl (p5) ?_; simp only [↓reduceIte, reduceCtorEq, reduceEqDiff, reduceAdd, reduceMul, reduceSub, reduceLeDiff, reduceEq, reduceLT, reduceLE, go_sem]
  repeat' first | refine Z1 fun _ _ => ?_ | refine Z2 ‹_› ?_ | ((first | refine Z3 tb_ok lv9 rfl ?_ | refine Zr rfl ?_); simp only [↓reduceIte, reduceCtorEq, reduceEqDiff, reduceAdd, reduceMul, reduceSub, reduceLeDiff, reduceEq, reduceLT, reduceLE, go_sem]) | (refine Z5 rfl ?_; with_reducible first | refine ZT ?_ | refine ZF ?_) | refine ZS rfl ?_ | refine ZH ?_ | fail
  refine call_pure rfl rfl (o1) ?_; simp only [↓reduceIte, reduceCtorEq, reduceEqDiff, reduceAdd, reduceMul, reduceSub, reduceLeDiff, reduceEq, reduceLT, reduceLE, go_sem]
  repeat' first | refine Z1 fun _ _ => ?_ | refine Z2 ‹_› ?_ | ((first | refine Z3 tb_ok lv9 rfl ?_ | refine Zr rfl ?_); simp only [↓reduceIte, reduceCtorEq, reduceEqDiff, reduceAdd, reduceMul, reduceSub, reduceLeDiff, reduceEq, reduceLT, reduceLE, go_sem]) | (refine Z5 rfl ?_; with_reducible first | refine ZT ?_ | refine ZF ?_) | refine ZS rfl ?_ | refine ZH ?_ | fail
  rw [← Int.natCast_add, wrap64 (by omega) (by omega)]
  have k1 : decide (¬ ((min 2 ((t.fnd w).length + (r.fnd w).length) : Nat) : Int) = min 2 (((t.fnd w).length + (r.fnd w).length : Nat) : Int)) = false := by
    rw [decide_eq_false_iff_not, Decidable.not_not]; omega
  have k2 : decide (¬ ((t.fnd w).length : Int) = ((t.fnd w).length : Int)) = false := by simp
  simp only [↓reduceIte, reduceCtorEq, reduceEqDiff, reduceAdd, reduceMul, reduceSub, reduceLeDiff, reduceEq, reduceLT, reduceLE, go_sem, k1]
  repeat' first | refine Z1 fun _ _ => ?_ | refine Z2 ‹_› ?_ | ((first | refine Z3 tb_ok lv9 rfl ?_ | refine Zr rfl ?_); simp only [↓reduceIte, reduceCtorEq, reduceEqDiff, reduceAdd, reduceMul, reduceSub, reduceLeDiff, reduceEq, reduceLT, reduceLE, go_sem]) | (refine Z5 rfl ?_; with_reducible first | refine ZT ?_ | refine ZF ?_) | refine ZS rfl ?_ | refine ZH ?_ | fail
  refine call_pure rfl rfl (p4) ?_; simp only [↓reduceIte, reduceCtorEq, reduceEqDiff, reduceAdd, reduceMul, reduceSub, reduceLeDiff, reduceEq, reduceLT, reduceLE, go_sem]
  repeat' first | refine Z1 fun _ _ => ?_ | refine Z2 ‹_› ?_ | ((first | refine Z3 tb_ok lv9 rfl ?_ | refine Zr rfl ?_); simp only [↓reduceIte, reduceCtorEq, reduceEqDiff, reduceAdd, reduceMul, reduceSub, reduceLeDiff, reduceEq, reduceLT, reduceLE, go_sem]) | (refine Z5 rfl ?_; with_reducible first | refine ZT ?_ | refine ZF ?_) | refine ZS rfl ?_ | refine ZH ?_ | fail
  refine call_pure rfl rfl (s4) ?_; simp only [↓reduceIte, reduceCtorEq, reduceEqDiff, reduceAdd, reduceMul, reduceSub, reduceLeDiff, reduceEq, reduceLT, reduceLE, go_sem]
  repeat' first | refine Z1 fun _ _ => ?_ | refine Z2 ‹_› ?_ | ((first | refine Z3 tb_ok lv9 rfl ?_ | refine Zr rfl ?_); simp only [↓reduceIte, reduceCtorEq, reduceEqDiff, reduceAdd, reduceMul, reduceSub, reduceLeDiff, reduceEq, reduceLT, reduceLE, go_sem]) | (refine Z5 rfl ?_; with_reducible first | refine ZT ?_ | refine ZF ?_) | refine ZS rfl ?_ | refine ZH ?_ | fail
  refine call_pure rfl rfl (p4') ?_; simp only [↓reduceIte, reduceCtorEq, reduceEqDiff, reduceAdd, reduceMul, reduceSub, reduceLeDiff, reduceEq, reduceLT, reduceLE, go_sem]
  repeat' first | refine Z1 fun _ _ => ?_ | refine Z2 ‹_› ?_ | ((first | refine Z3 tb_ok lv9 rfl ?_ | refine Zr rfl ?_); simp only [↓reduceIte, reduceCtorEq, reduceEqDiff, reduceAdd, reduceMul, reduceSub, reduceLeDiff, reduceEq, reduceLT, reduceLE, go_sem]) | (refine Z5 rfl ?_; with_reducible first | refine ZT ?_ | refine ZF ?_) | refine ZS rfl ?_ | refine ZH ?_ | fail
  refine call_pure rfl rfl (s4') ?_; simp only [↓reduceIte, reduceCtorEq, reduceEqDiff, reduceAdd, reduceMul, reduceSub, reduceLeDiff, reduceEq, reduceLT, reduceLE, go_sem]
  repeat' first | refine Z1 fun _ _ => ?_ | refine Z2 ‹_› ?_ | ((first | refine Z3 tb_ok lv9 rfl ?_ | refine Zr rfl ?_); simp only [↓reduceIte, reduceCtorEq, reduceEqDiff, reduceAdd, reduceMul, reduceSub, reduceLeDiff, reduceEq, reduceLT, reduceLE, go_sem]) | (refine Z5 rfl ?_; with_reducible first | refine ZT ?_ | refine ZF ?_) | refine ZS rfl ?_ | refine ZH ?_ | fail
  refine call_pure rfl rfl (pw) ?_; simp only [↓reduceIte, reduceCtorEq, reduceEqDiff, reduceAdd, reduceMul, reduceSub, reduceLeDiff, reduceEq, reduceLT, reduceLE, go_sem]
  repeat' first | refine Z1 fun _ _ => ?_ | ((first | refine Z3 tb_ok lv9 rfl ?_ | refine Zr rfl ?_); simp only [↓reduceIte, reduceCtorEq, reduceEqDiff, reduceAdd, reduceMul, reduceSub, reduceLeDiff, reduceEq, reduceLT, reduceLE, go_sem]) | (refine Z5 rfl ?_; with_reducible first | refine ZT ?_ | refine ZF ?_) | refine ZS rfl ?_ | refine ZH ?_ | fail
  refine Z2 ‹_› ?_
  repeat' first | refine Z1 fun _ _ => ?_ | ((first | refine Z3 tb_ok lv9 rfl ?_ | refine Zr rfl ?_); simp only [↓reduceIte, reduceCtorEq, reduceEqDiff, reduceAdd, reduceMul, reduceSub, reduceLeDiff, reduceEq, reduceLT, reduceLE, go_sem]) | (refine Z5 rfl ?_; with_reducible first | refine ZT ?_ | refine ZF ?_) | refine ZS rfl ?_ | refine ZH ?_ | fail
  refine ⟨fun e he => by obtain ⟨b, _, rfl⟩ := List.mem_map.1 he; rfl, by omega, by omega, ?_⟩
  rw [show IntKind.u8.wrap (w.length : Int) = ((UInt8.ofNat w.length).toNat : Int) by rw [IntKind.wrap_u8, b1]; omega]
  refine Cut.go ‹_› ?_; refine .freeze 87 rfl rfl ?_; simp only [↓reduceIte, reduceCtorEq, reduceEqDiff, reduceAdd, reduceMul, reduceSub, reduceLeDiff, reduceEq, reduceLT, reduceLE, go_sem]
  repeat' first | refine Z1 fun _ _ => ?_ | ((first | refine Z3 tb_ok lv9 rfl ?_ | refine Zr rfl ?_); simp only [↓reduceIte, reduceCtorEq, reduceEqDiff, reduceAdd, reduceMul, reduceSub, reduceLeDiff, reduceEq, reduceLT, reduceLE, go_sem]) | (refine Z5 rfl ?_; with_reducible first | refine ZT ?_ | refine ZF ?_) | refine ZS rfl ?_ | refine ZH ?_ | fail
  refine ⟨fun e he => by obtain ⟨b, _, rfl⟩ := List.mem_map.1 he; rfl, by omega, by omega, ?_⟩
  rw [wrap64 (by omega) (by omega), show IntKind.u8.wrap ((w.length : Int) + 1) = ((UInt8.ofNat (w.length + 1)).toNat : Int) by rw [IntKind.wrap_u8, b2]; omega]
  refine Cut.go ‹_› ?_; refine .freeze 95 rfl rfl ?_; simp only [↓reduceIte, reduceCtorEq, reduceEqDiff, reduceAdd, reduceMul, reduceSub, reduceLeDiff, reduceEq, reduceLT, reduceLE, go_sem]
  repeat' first | refine Z1 fun _ _ => ?_ | refine Z2 ‹_› ?_ | ((first | refine Z3 tb_ok lv9 rfl ?_ | refine Zr rfl ?_); simp only [↓reduceIte, reduceCtorEq, reduceEqDiff, reduceAdd, reduceMul, reduceSub, reduceLeDiff, reduceEq, reduceLT, reduceLE, go_sem]) | (refine Z5 rfl ?_; with_reducible first | refine ZT ?_ | refine ZF ?_) | refine ZS rfl ?_ | refine ZH ?_ | fail
  refine call_pure rfl rfl (x1) ?_; simp only [↓reduceIte, reduceCtorEq, reduceEqDiff, reduceAdd, reduceMul, reduceSub, reduceLeDiff, reduceEq, reduceLT, reduceLE, go_sem]
  repeat' first | refine Z1 fun _ _ => ?_ | refine Z2 ‹_› ?_ | ((first | refine Z3 tb_ok lv9 rfl ?_ | refine Zr rfl ?_); simp only [↓reduceIte, reduceCtorEq, reduceEqDiff, reduceAdd, reduceMul, reduceSub, reduceLeDiff, reduceEq, reduceLT, reduceLE, go_sem]) | (refine Z5 rfl ?_; with_reducible first | refine ZT ?_ | refine ZF ?_) | refine ZS rfl ?_ | refine ZH ?_ | fail
  refine call_pure rfl rfl (x2) ?_; simp only [↓reduceIte, reduceCtorEq, reduceEqDiff, reduceAdd, reduceMul, reduceSub, reduceLeDiff, reduceEq, reduceLT, reduceLE, go_sem]
  repeat' first | refine Z1 fun _ _ => ?_ | refine Z2 ‹_› ?_ | ((first | refine Z3 tb_ok lv9 rfl ?_ | refine Zr rfl ?_); simp only [↓reduceIte, reduceCtorEq, reduceEqDiff, reduceAdd, reduceMul, reduceSub, reduceLeDiff, reduceEq, reduceLT, reduceLE, go_sem]) | (refine Z5 rfl ?_; with_reducible first | refine ZT ?_ | refine ZF ?_) | refine ZS rfl ?_ | refine ZH ?_ | fail
  have kz : decide (¬ ((0 : Nat) : Int) = 0) = false := by decide
  simp only [↓reduceIte, reduceCtorEq, reduceEqDiff, reduceAdd, reduceMul, reduceSub, reduceLeDiff, reduceEq, reduceLT, reduceLE, go_sem, kz]
  repeat' first | refine Z1 fun _ _ => ?_ | refine Z2 ‹_› ?_ | ((first | refine Z3 tb_ok lv9 rfl ?_ | refine Zr rfl ?_); simp only [↓reduceIte, reduceCtorEq, reduceEqDiff, reduceAdd, reduceMul, reduceSub, reduceLeDiff, reduceEq, reduceLT, reduceLE, go_sem]) | (refine Z5 rfl ?_; with_reducible first | refine ZT ?_ | refine ZF ?_) | refine ZS rfl ?_ | refine ZH ?_ | fail
  refine call_pure rfl rfl (x3) ?_; simp only [↓reduceIte, reduceCtorEq, reduceEqDiff, reduceAdd, reduceMul, reduceSub, reduceLeDiff, reduceEq, reduceLT, reduceLE, go_sem]
  repeat' first | refine Z1 fun _ _ => ?_ | refine Z2 ‹_› ?_ | ((first | refine Z3 tb_ok lv9 rfl ?_ | refine Zr rfl ?_); simp only [↓reduceIte, reduceCtorEq, reduceEqDiff, reduceAdd, reduceMul, reduceSub, reduceLeDiff, reduceEq, reduceLT, reduceLE, go_sem]) | (refine Z5 rfl ?_; with_reducible first | refine ZT ?_ | refine ZF ?_) | refine ZS rfl ?_ | refine ZH ?_ | fail
  simp only [↓reduceIte, reduceCtorEq, reduceEqDiff, reduceAdd, reduceMul, reduceSub, reduceLeDiff, reduceEq, reduceLT, reduceLE, go_sem, kz]
  repeat' first | refine Z1 fun _ _ => ?_ | refine Z2 ‹_› ?_ | ((first | refine Z3 tb_ok lv9 rfl ?_ | refine Zr rfl ?_); simp only [↓reduceIte, reduceCtorEq, reduceEqDiff, reduceAdd, reduceMul, reduceSub, reduceLeDiff, reduceEq, reduceLT, reduceLE, go_sem]) | (refine Z5 rfl ?_; with_reducible first | refine ZT ?_ | refine ZF ?_) | refine ZS rfl ?_ | refine ZH ?_ | fail
  refine call_pure rfl rfl (cn) ?_; simp only [↓reduceIte, reduceCtorEq, reduceEqDiff, reduceAdd, reduceMul, reduceSub, reduceLeDiff, reduceEq, reduceLT, reduceLE, go_sem]
  repeat' first | refine Z1 fun _ _ => ?_ | refine Z2 ‹_› ?_ | ((first | refine Z3 tb_ok lv9 rfl ?_ | refine Zr rfl ?_); simp only [↓reduceIte, reduceCtorEq, reduceEqDiff, reduceAdd, reduceMul, reduceSub, reduceLeDiff, reduceEq, reduceLT, reduceLE, go_sem]) | (refine Z5 rfl ?_; with_reducible first | refine ZT ?_ | refine ZF ?_) | refine ZS rfl ?_ | refine ZH ?_ | fail
  by_cases ha : (t.fnd w).length = 0
  · have k3 : decide (((t.fnd w).length : Int) = 0) = true := decide_eq_true (by omega)
    simp only [↓reduceIte, reduceCtorEq, reduceEqDiff, reduceAdd, reduceMul, reduceSub, reduceLeDiff, reduceEq, reduceLT, reduceLE, go_sem, k3]
    repeat' first | refine Z1 fun _ _ => ?_ | refine Z2 ‹_› ?_ | ((first | refine Z3 tb_ok lv9 rfl ?_ | refine Zr rfl ?_); simp only [↓reduceIte, reduceCtorEq, reduceEqDiff, reduceAdd, reduceMul, reduceSub, reduceLeDiff, reduceEq, reduceLT, reduceLE, go_sem]) | (refine Z5 rfl ?_; with_reducible first | refine ZT ?_ | refine ZF ?_) | refine ZS rfl ?_ | refine ZH ?_ | fail
  have k3 : decide (((t.fnd w).length : Int) = 0) = false := decide_eq_false (by omega)
  obtain ⟨v, hv⟩ := (pos_ex (w := w) hok).1 (by omega)
  have hsp := wr_span (fun _ => txtOk_m) hok hv.2
  generalize hS1 : t.span.1 = s1 at *
  generalize hS2 : t.span.2 = s2 at *
  have k4 : decide (s1 ≥ 0) = true := decide_eq_true (by omega)
  have k5 : decide ((w.length : Int) ≥ s1) = true := decide_eq_true (by omega)
  simp only [↓reduceIte, reduceCtorEq, reduceEqDiff, reduceAdd, reduceMul, reduceSub, reduceLeDiff, reduceEq, reduceLT, reduceLE, go_sem, k3]
  repeat' first | refine Z1 fun _ _ => ?_ | refine Z2 ‹_› ?_ | ((first | refine Z3 tb_ok lv9 rfl ?_ | refine Zr rfl ?_); simp only [↓reduceIte, reduceCtorEq, reduceEqDiff, reduceAdd, reduceMul, reduceSub, reduceLeDiff, reduceEq, reduceLT, reduceLE, go_sem]) | (refine Z5 rfl ?_; with_reducible first | refine ZT ?_ | refine ZF ?_) | refine ZS rfl ?_ | refine ZH ?_ | fail
  simp only [↓reduceIte, reduceCtorEq, reduceEqDiff, reduceAdd, reduceMul, reduceSub, reduceLeDiff, reduceEq, reduceLT, reduceLE, go_sem, k4]
  repeat' first | refine Z1 fun _ _ => ?_ | refine Z2 ‹_› ?_ | ((first | refine Z3 tb_ok lv9 rfl ?_ | refine Zr rfl ?_); simp only [↓reduceIte, reduceCtorEq, reduceEqDiff, reduceAdd, reduceMul, reduceSub, reduceLeDiff, reduceEq, reduceLT, reduceLE, go_sem]) | (refine Z5 rfl ?_; with_reducible first | refine ZT ?_ | refine ZF ?_) | refine ZS rfl ?_ | refine ZH ?_ | fail
  simp only [↓reduceIte, reduceCtorEq, reduceEqDiff, reduceAdd, reduceMul, reduceSub, reduceLeDiff, reduceEq, reduceLT, reduceLE, go_sem, k5]
  repeat' first | refine Z1 fun _ _ => ?_ | refine Z2 ‹_› ?_ | ((first | refine Z3 tb_ok lv9 rfl ?_ | refine Zr rfl ?_); simp only [↓reduceIte, reduceCtorEq, reduceEqDiff, reduceAdd, reduceMul, reduceSub, reduceLeDiff, reduceEq, reduceLT, reduceLE, go_sem]) | (refine Z5 rfl ?_; with_reducible first | refine ZT ?_ | refine ZF ?_) | refine ZS rfl ?_ | refine ZH ?_ | fail
  by_cases h2 : s2 < 0
  · have k6 : decide (s2 < 0) = true := decide_eq_true h2
    simp only [↓reduceIte, reduceCtorEq, reduceEqDiff, reduceAdd, reduceMul, reduceSub, reduceLeDiff, reduceEq, reduceLT, reduceLE, go_sem, k6]
    repeat' first | refine Z1 fun _ _ => ?_ | refine Z2 ‹_› ?_ | ((first | refine Z3 tb_ok lv9 rfl ?_ | refine Zr rfl ?_); simp only [↓reduceIte, reduceCtorEq, reduceEqDiff, reduceAdd, reduceMul, reduceSub, reduceLeDiff, reduceEq, reduceLT, reduceLE, go_sem]) | (refine Z5 rfl ?_; with_reducible first | refine ZT ?_ | refine ZF ?_) | refine ZS rfl ?_ | refine ZH ?_ | fail
  · have k6 : decide (s2 < 0) = false := decide_eq_false h2
    simp only [↓reduceIte, reduceCtorEq, reduceEqDiff, reduceAdd, reduceMul, reduceSub, reduceLeDiff, reduceEq, reduceLT, reduceLE, go_sem, k6]
    repeat' first | refine Z1 fun _ _ => ?_ | refine Z2 ‹_› ?_ | ((first | refine Z3 tb_ok lv9 rfl ?_ | refine Zr rfl ?_); simp only [↓reduceIte, reduceCtorEq, reduceEqDiff, reduceAdd, reduceMul, reduceSub, reduceLeDiff, reduceEq, reduceLT, reduceLE, go_sem]) | (refine Z5 rfl ?_; with_reducible first | refine ZT ?_ | refine ZF ?_) | refine ZS rfl ?_ | refine ZH ?_ | fail
    exact decide_eq_true (by omega)
end Go.Proofs.Ytpibdbjlilpfiaa
