/- scantlinglaw10.SpanBuilt. -/
import Derived.Test.YtafacidgajnedaaDoorSpanI
namespace Go.Proofs.YtafacidgajnedaaDoor
set_option linter.all false
open Go Go.RowKit
open Nat (reduceEqDiff reduceAdd reduceMul reduceSub reduceLeDiff)
open Int (reduceEq reduceLT reduceLE)

/-- A row's, an or's, a frame's span, in plain numbers. -/
theorem spRow_facts {A B R : Sp} (hA : SpOk A) (hB : SpOk B) (h : R = spRow A B) : ((A.1 = -1 ∨ B.1 = -1) ∧ R.1 = -1 ∧ R.2 = -1) ∨ (A.1 ≠ -1 ∧ B.1 ≠ -1 ∧ R.1 = min (A.1 + B.1) 1099511627776 ∧ ((A.2 = -1 ∨ B.2 = -1 ∨ 1099511627776 < A.2 + B.2) ∧ R.2 = -1 ∨ A.2 ≠ -1 ∧ B.2 ≠ -1 ∧ A.2 + B.2 ≤ 1099511627776 ∧ R.2 = A.2 + B.2)) := by
  have na := spNo_iff hA
  have nb := spNo_iff hB
  have ca := span_cases hA
  have cb := span_cases hB
  subst h
  rw [spRow]
  split
  · rename_i h
    left
    refine ⟨?_, rfl, rfl⟩
    rcases h with h | h
    · have := na.1 h; omega
    · have := nb.1 h; omega
  · rename_i h
    right
    have h1 : ¬ A.1 < 0 := fun e => h (.inl (na.2 e))
    have h2 : ¬ B.1 < 0 := fun e => h (.inr (nb.2 e))
    refine ⟨by omega, by omega, ?_⟩
    split
    · rename_i h3
      exact ⟨rfl, .inl ⟨h3.elim .inl (fun e => .inr (.inl e)), rfl⟩⟩
    · rename_i h3
      have h4 : A.2 ≠ -1 := fun e => h3 (.inl e)
      have h5 : B.2 ≠ -1 := fun e => h3 (.inr e)
      refine ⟨rfl, ?_⟩
      simp only [spHigh]
      split
      · rename_i h6
        exact .inl ⟨.inr (.inr h6), rfl⟩
      · exact .inr ⟨h4, h5, by omega, rfl⟩
theorem spOr_facts {A B R : Sp} (hA : SpOk A) (hB : SpOk B) (h : R = spOr A B) : (A.1 = -1 ∧ R.1 = B.1 ∧ R.2 = B.2) ∨ (B.1 = -1 ∧ R.1 = A.1 ∧ R.2 = A.2) ∨ (A.1 ≠ -1 ∧ B.1 ≠ -1 ∧ R.1 = min A.1 B.1 ∧ ((A.2 = -1 ∨ B.2 = -1) ∧ R.2 = -1 ∨ A.2 ≠ -1 ∧ B.2 ≠ -1 ∧ R.2 = max A.2 B.2)) := by
  have na := spNo_iff hA
  have nb := spNo_iff hB
  have ca := span_cases hA
  have cb := span_cases hB
  subst h
  rw [spOr]
  split
  · rename_i h
    have := na.1 h
    left
    exact ⟨by omega, rfl, rfl⟩
  · rename_i h
    have h1 : ¬ A.1 < 0 := fun e => h (na.2 e)
    right
    split
    · rename_i h
      have := nb.1 h
      left
      exact ⟨by omega, rfl, rfl⟩
    · rename_i h
      have h2 : ¬ B.1 < 0 := fun e => h (nb.2 e)
      right
      refine ⟨by omega, by omega, ?_⟩
      split
      · rename_i h3
        exact ⟨rfl, .inl ⟨h3, rfl⟩⟩
      · rename_i h3
        exact ⟨rfl, .inr ⟨fun e => h3 (.inl e), fun e => h3 (.inr e), rfl⟩⟩
theorem spFrame_facts {A R : Sp} (hA : SpOk A) (h : R = spFrame A 1 255) : ((A.1 = -1 ∨ 255 < A.1) ∧ R.1 = -1 ∧ R.2 = -1) ∨ (A.1 ≠ -1 ∧ A.1 ≤ 255 ∧ R.1 = A.1 + 1 ∧ ((A.2 = -1 ∨ 255 < A.2) ∧ R.2 = 256 ∨ A.2 ≠ -1 ∧ A.2 ≤ 255 ∧ R.2 = A.2 + 1)) := by
  have na := spNo_iff hA
  have ca := span_cases hA
  subst h
  rw [spFrame]
  split
  · rename_i h
    left
    refine ⟨?_, rfl, rfl⟩
    rcases h with h | h
    · have := na.1 h; omega
    · exact .inr h
  · rename_i h
    have h1 : ¬ A.1 < 0 := fun e => h (.inl (na.2 e))
    have h2 : ¬ 255 < A.1 := fun e => h (.inr e)
    right
    refine ⟨by omega, by omega, rfl, ?_⟩
    simp only []
    split <;> omega
@[go_sem] def lv5 : List (Nat × List Nat) := [(0, [2, 3]), (1, [2, 3, 36]), (2, [4]), (3, [2, 3, 5, 6]), (4, [2, 3, 5, 6, 7, 8]), (5, [2, 3, 5, 6, 7, 8, 9, 10]), (6, [2, 5, 6, 7, 8, 9, 10, 11, 12]), (7, [5, 6, 7, 8, 9, 10, 11, 12, 13, 14]), (8, [5, 6, 7, 8, 9, 10, 11, 12, 13, 14, 98]), (9, [4]), (10, [5, 6, 7, 8, 9, 10, 11, 12, 129]), (11, [4]), (12, [5, 6, 7, 8, 11, 12, 167]), (13, [4]), (14, [5, 6, 7, 8, 11, 12, 173]), (15, [4]), (16, [4])]
def bs5 : List (Nat × List Nat × List Nat) := []
set_option maxRecDepth 4000 in
set_option maxHeartbeats 4000000 in
theorem c_spanBuilt {l m : List Nd} (hl : l.length ≤ 140737488355328) (htx : ∀ i, (l.getD i Nd.z).text.size ≤ 140737488355328) (hl' : m.length ≤ 140737488355328) (htx' : ∀ i, (m.getD i Nd.z).text.size ≤ 140737488355328) : PCon Tryd.prog glS 5 [desc l, desc m] (.bool true) := by
  cases hfew : few l with
  | false =>
    refine PCon.enter tb_ok (fn := Tryd.f5) (by kernel_rfl) (by kernel_rfl) rfl (by show 2 ≤ 201; decide) ?_
    repeat' first | refine Z1 fun _ _ => ?_ | refine Z2 ‹_› ?_ | ((first | refine Z3 tb_ok lv5 rfl ?_ | refine Z4 tb_ok mix lv5 bs5 rfl (by kernel_rfl) rfl ?_ | refine ret_eq rfl ?_); simp only [↓reduceIte, reduceCtorEq, reduceEqDiff, reduceAdd, reduceMul, reduceSub, reduceLeDiff, reduceEq, reduceLT, reduceLE, go_sem]) | (refine Z5 rfl ?_; with_reducible first | refine condQ_T ?_ | refine condQ_F ?_) | refine Z6 ?_ | refine Z7 ?_ | refine Z8 ?_ | refine Z9 fun _ _ => ?_ | refine Za ‹_› ?_ | refine Zb ‹_› ?_ | refine Zc ‹_› trivial ?_ | refine Zd ‹_› trivial ?_ | refine Ze ‹_› trivial ?_ | refine Zf ‹_› ?_ | refine Zg ?_ | refine Zh ‹_› ?_ | refine Zi ‹_› ?_ | refine Zj ‹_› ?_ | refine Zk ‹_› ?_ | refine Zl ‹_› (by decide) ?_ | refine touch_go rfl ?_ | fail
    refine call_pure rfl rfl (c_awake10) ?_; simp only [↓reduceIte, reduceCtorEq, reduceEqDiff, reduceAdd, reduceMul, reduceSub, reduceLeDiff, reduceEq, reduceLT, reduceLE, go_sem]
    repeat' first | refine Z1 fun _ _ => ?_ | refine Z2 ‹_› ?_ | ((first | refine Z3 tb_ok lv5 rfl ?_ | refine Z4 tb_ok mix lv5 bs5 rfl (by kernel_rfl) rfl ?_ | refine ret_eq rfl ?_); simp only [↓reduceIte, reduceCtorEq, reduceEqDiff, reduceAdd, reduceMul, reduceSub, reduceLeDiff, reduceEq, reduceLT, reduceLE, go_sem]) | (refine Z5 rfl ?_; with_reducible first | refine condQ_T ?_ | refine condQ_F ?_) | refine Z6 ?_ | refine Z7 ?_ | refine Z8 ?_ | refine Z9 fun _ _ => ?_ | refine Za ‹_› ?_ | refine Zb ‹_› ?_ | refine Zc ‹_› trivial ?_ | refine Zd ‹_› trivial ?_ | refine Ze ‹_› trivial ?_ | refine Zf ‹_› ?_ | refine Zg ?_ | refine Zh ‹_› ?_ | refine Zi ‹_› ?_ | refine Zj ‹_› ?_ | refine Zk ‹_› ?_ | refine Zl ‹_› (by decide) ?_ | refine touch_go rfl ?_ | fail
    refine call_pure rfl rfl (c_fewB (by omega) hfew) ?_; simp only [↓reduceIte, reduceCtorEq, reduceEqDiff, reduceAdd, reduceMul, reduceSub, reduceLeDiff, reduceEq, reduceLT, reduceLE, go_sem]
    repeat' first | refine Z1 fun _ _ => ?_ | refine Z2 ‹_› ?_ | ((first | refine Z3 tb_ok lv5 rfl ?_ | refine Z4 tb_ok mix lv5 bs5 rfl (by kernel_rfl) rfl ?_ | refine ret_eq rfl ?_); simp only [↓reduceIte, reduceCtorEq, reduceEqDiff, reduceAdd, reduceMul, reduceSub, reduceLeDiff, reduceEq, reduceLT, reduceLE, go_sem]) | (refine Z5 rfl ?_; with_reducible first | refine condQ_T ?_ | refine condQ_F ?_) | refine Z6 ?_ | refine Z7 ?_ | refine Z8 ?_ | refine Z9 fun _ _ => ?_ | refine Za ‹_› ?_ | refine Zb ‹_› ?_ | refine Zc ‹_› trivial ?_ | refine Zd ‹_› trivial ?_ | refine Ze ‹_› trivial ?_ | refine Zf ‹_› ?_ | refine Zg ?_ | refine Zh ‹_› ?_ | refine Zi ‹_› ?_ | refine Zj ‹_› ?_ | refine Zk ‹_› ?_ | refine Zl ‹_› (by decide) ?_ | refine touch_go rfl ?_ | fail
    refine call_pure rfl rfl (c_awake10) ?_; simp only [↓reduceIte, reduceCtorEq, reduceEqDiff, reduceAdd, reduceMul, reduceSub, reduceLeDiff, reduceEq, reduceLT, reduceLE, go_sem]
    repeat' first | refine Z1 fun _ _ => ?_ | refine Z2 ‹_› ?_ | ((first | refine Z3 tb_ok lv5 rfl ?_ | refine Z4 tb_ok mix lv5 bs5 rfl (by kernel_rfl) rfl ?_ | refine ret_eq rfl ?_); simp only [↓reduceIte, reduceCtorEq, reduceEqDiff, reduceAdd, reduceMul, reduceSub, reduceLeDiff, reduceEq, reduceLT, reduceLE, go_sem]) | (refine Z5 rfl ?_; with_reducible first | refine condQ_T ?_ | refine condQ_F ?_) | refine Z6 ?_ | refine Z7 ?_ | refine Z8 ?_ | refine Z9 fun _ _ => ?_ | refine Za ‹_› ?_ | refine Zb ‹_› ?_ | refine Zc ‹_› trivial ?_ | refine Zd ‹_› trivial ?_ | refine Ze ‹_› trivial ?_ | refine Zf ‹_› ?_ | refine Zg ?_ | refine Zh ‹_› ?_ | refine Zi ‹_› ?_ | refine Zj ‹_› ?_ | refine Zk ‹_› ?_ | refine Zl ‹_› (by decide) ?_ | refine touch_go rfl ?_ | fail
  | true =>
  cases hfew' : few m with
  | false =>
    refine PCon.enter tb_ok (fn := Tryd.f5) (by kernel_rfl) (by kernel_rfl) rfl (by show 2 ≤ 201; decide) ?_
    repeat' first | refine Z1 fun _ _ => ?_ | refine Z2 ‹_› ?_ | ((first | refine Z3 tb_ok lv5 rfl ?_ | refine Z4 tb_ok mix lv5 bs5 rfl (by kernel_rfl) rfl ?_ | refine ret_eq rfl ?_); simp only [↓reduceIte, reduceCtorEq, reduceEqDiff, reduceAdd, reduceMul, reduceSub, reduceLeDiff, reduceEq, reduceLT, reduceLE, go_sem]) | (refine Z5 rfl ?_; with_reducible first | refine condQ_T ?_ | refine condQ_F ?_) | refine Z6 ?_ | refine Z7 ?_ | refine Z8 ?_ | refine Z9 fun _ _ => ?_ | refine Za ‹_› ?_ | refine Zb ‹_› ?_ | refine Zc ‹_› trivial ?_ | refine Zd ‹_› trivial ?_ | refine Ze ‹_› trivial ?_ | refine Zf ‹_› ?_ | refine Zg ?_ | refine Zh ‹_› ?_ | refine Zi ‹_› ?_ | refine Zj ‹_› ?_ | refine Zk ‹_› ?_ | refine Zl ‹_› (by decide) ?_ | refine touch_go rfl ?_ | fail
    refine call_pure rfl rfl (c_awake10) ?_; simp only [↓reduceIte, reduceCtorEq, reduceEqDiff, reduceAdd, reduceMul, reduceSub, reduceLeDiff, reduceEq, reduceLT, reduceLE, go_sem]
    repeat' first | refine Z1 fun _ _ => ?_ | refine Z2 ‹_› ?_ | ((first | refine Z3 tb_ok lv5 rfl ?_ | refine Z4 tb_ok mix lv5 bs5 rfl (by kernel_rfl) rfl ?_ | refine ret_eq rfl ?_); simp only [↓reduceIte, reduceCtorEq, reduceEqDiff, reduceAdd, reduceMul, reduceSub, reduceLeDiff, reduceEq, reduceLT, reduceLE, go_sem]) | (refine Z5 rfl ?_; with_reducible first | refine condQ_T ?_ | refine condQ_F ?_) | refine Z6 ?_ | refine Z7 ?_ | refine Z8 ?_ | refine Z9 fun _ _ => ?_ | refine Za ‹_› ?_ | refine Zb ‹_› ?_ | refine Zc ‹_› trivial ?_ | refine Zd ‹_› trivial ?_ | refine Ze ‹_› trivial ?_ | refine Zf ‹_› ?_ | refine Zg ?_ | refine Zh ‹_› ?_ | refine Zi ‹_› ?_ | refine Zj ‹_› ?_ | refine Zk ‹_› ?_ | refine Zl ‹_› (by decide) ?_ | refine touch_go rfl ?_ | fail
    refine call_pure rfl rfl (c_fewB (by omega) hfew) ?_; simp only [↓reduceIte, reduceCtorEq, reduceEqDiff, reduceAdd, reduceMul, reduceSub, reduceLeDiff, reduceEq, reduceLT, reduceLE, go_sem]
    repeat' first | refine Z1 fun _ _ => ?_ | refine Z2 ‹_› ?_ | ((first | refine Z3 tb_ok lv5 rfl ?_ | refine Z4 tb_ok mix lv5 bs5 rfl (by kernel_rfl) rfl ?_ | refine ret_eq rfl ?_); simp only [↓reduceIte, reduceCtorEq, reduceEqDiff, reduceAdd, reduceMul, reduceSub, reduceLeDiff, reduceEq, reduceLT, reduceLE, go_sem]) | (refine Z5 rfl ?_; with_reducible first | refine condQ_T ?_ | refine condQ_F ?_) | refine Z6 ?_ | refine Z7 ?_ | refine Z8 ?_ | refine Z9 fun _ _ => ?_ | refine Za ‹_› ?_ | refine Zb ‹_› ?_ | refine Zc ‹_› trivial ?_ | refine Zd ‹_› trivial ?_ | refine Ze ‹_› trivial ?_ | refine Zf ‹_› ?_ | refine Zg ?_ | refine Zh ‹_› ?_ | refine Zi ‹_› ?_ | refine Zj ‹_› ?_ | refine Zk ‹_› ?_ | refine Zl ‹_› (by decide) ?_ | refine touch_go rfl ?_ | fail
    refine call_pure rfl rfl (c_fewB (by omega) hfew') ?_; simp only [↓reduceIte, reduceCtorEq, reduceEqDiff, reduceAdd, reduceMul, reduceSub, reduceLeDiff, reduceEq, reduceLT, reduceLE, go_sem]
    repeat' first | refine Z1 fun _ _ => ?_ | refine Z2 ‹_› ?_ | ((first | refine Z3 tb_ok lv5 rfl ?_ | refine Z4 tb_ok mix lv5 bs5 rfl (by kernel_rfl) rfl ?_ | refine ret_eq rfl ?_); simp only [↓reduceIte, reduceCtorEq, reduceEqDiff, reduceAdd, reduceMul, reduceSub, reduceLeDiff, reduceEq, reduceLT, reduceLE, go_sem]) | (refine Z5 rfl ?_; with_reducible first | refine condQ_T ?_ | refine condQ_F ?_) | refine Z6 ?_ | refine Z7 ?_ | refine Z8 ?_ | refine Z9 fun _ _ => ?_ | refine Za ‹_› ?_ | refine Zb ‹_› ?_ | refine Zc ‹_› trivial ?_ | refine Zd ‹_› trivial ?_ | refine Ze ‹_› trivial ?_ | refine Zf ‹_› ?_ | refine Zg ?_ | refine Zh ‹_› ?_ | refine Zi ‹_› ?_ | refine Zj ‹_› ?_ | refine Zk ‹_› ?_ | refine Zl ‹_› (by decide) ?_ | refine touch_go rfl ?_ | fail
    refine call_pure rfl rfl (c_awake10) ?_; simp only [↓reduceIte, reduceCtorEq, reduceEqDiff, reduceAdd, reduceMul, reduceSub, reduceLeDiff, reduceEq, reduceLT, reduceLE, go_sem]
    repeat' first | refine Z1 fun _ _ => ?_ | refine Z2 ‹_› ?_ | ((first | refine Z3 tb_ok lv5 rfl ?_ | refine Z4 tb_ok mix lv5 bs5 rfl (by kernel_rfl) rfl ?_ | refine ret_eq rfl ?_); simp only [↓reduceIte, reduceCtorEq, reduceEqDiff, reduceAdd, reduceMul, reduceSub, reduceLeDiff, reduceEq, reduceLT, reduceLE, go_sem]) | (refine Z5 rfl ?_; with_reducible first | refine condQ_T ?_ | refine condQ_F ?_) | refine Z6 ?_ | refine Z7 ?_ | refine Z8 ?_ | refine Z9 fun _ _ => ?_ | refine Za ‹_› ?_ | refine Zb ‹_› ?_ | refine Zc ‹_› trivial ?_ | refine Zd ‹_› trivial ?_ | refine Ze ‹_› trivial ?_ | refine Zf ‹_› ?_ | refine Zg ?_ | refine Zh ‹_› ?_ | refine Zi ‹_› ?_ | refine Zj ‹_› ?_ | refine Zk ‹_› ?_ | refine Zl ‹_› (by decide) ?_ | refine touch_go rfl ?_ | fail
  | true =>
    obtain ⟨hl, htx⟩ := few_small htx hfew
    obtain ⟨hl', htx'⟩ := few_small htx' hfew'
    obtain ⟨b, hb, hright⟩ := c_right (gl := glS) hl htx
    obtain ⟨b', hb', hright'⟩ := c_right (gl := glS) hl' htx'
    refine PCon.enter tb_ok (fn := Tryd.f5) (by kernel_rfl) (by kernel_rfl) rfl (by show 2 ≤ 201; decide) ?_
    repeat' first | refine Z1 fun _ _ => ?_ | refine Z2 ‹_› ?_ | ((first | refine Z3 tb_ok lv5 rfl ?_ | refine Z4 tb_ok mix lv5 bs5 rfl (by kernel_rfl) rfl ?_ | refine ret_eq rfl ?_); simp only [↓reduceIte, reduceCtorEq, reduceEqDiff, reduceAdd, reduceMul, reduceSub, reduceLeDiff, reduceEq, reduceLT, reduceLE, go_sem]) | (refine Z5 rfl ?_; with_reducible first | refine condQ_T ?_ | refine condQ_F ?_) | refine Z6 ?_ | refine Z7 ?_ | refine Z8 ?_ | refine Z9 fun _ _ => ?_ | refine Za ‹_› ?_ | refine Zb ‹_› ?_ | refine Zc ‹_› trivial ?_ | refine Zd ‹_› trivial ?_ | refine Ze ‹_› trivial ?_ | refine Zf ‹_› ?_ | refine Zg ?_ | refine Zh ‹_› ?_ | refine Zi ‹_› ?_ | refine Zj ‹_› ?_ | refine Zk ‹_› ?_ | refine Zl ‹_› (by decide) ?_ | refine touch_go rfl ?_ | fail
    refine call_pure rfl rfl (c_awake10) ?_; simp only [↓reduceIte, reduceCtorEq, reduceEqDiff, reduceAdd, reduceMul, reduceSub, reduceLeDiff, reduceEq, reduceLT, reduceLE, go_sem]
    repeat' first | refine Z1 fun _ _ => ?_ | refine Z2 ‹_› ?_ | ((first | refine Z3 tb_ok lv5 rfl ?_ | refine Z4 tb_ok mix lv5 bs5 rfl (by kernel_rfl) rfl ?_ | refine ret_eq rfl ?_); simp only [↓reduceIte, reduceCtorEq, reduceEqDiff, reduceAdd, reduceMul, reduceSub, reduceLeDiff, reduceEq, reduceLT, reduceLE, go_sem]) | (refine Z5 rfl ?_; with_reducible first | refine condQ_T ?_ | refine condQ_F ?_) | refine Z6 ?_ | refine Z7 ?_ | refine Z8 ?_ | refine Z9 fun _ _ => ?_ | refine Za ‹_› ?_ | refine Zb ‹_› ?_ | refine Zc ‹_› trivial ?_ | refine Zd ‹_› trivial ?_ | refine Ze ‹_› trivial ?_ | refine Zf ‹_› ?_ | refine Zg ?_ | refine Zh ‹_› ?_ | refine Zi ‹_› ?_ | refine Zj ‹_› ?_ | refine Zk ‹_› ?_ | refine Zl ‹_› (by decide) ?_ | refine touch_go rfl ?_ | fail
    refine call_pure rfl rfl (c_fewB (by omega) hfew) ?_; simp only [↓reduceIte, reduceCtorEq, reduceEqDiff, reduceAdd, reduceMul, reduceSub, reduceLeDiff, reduceEq, reduceLT, reduceLE, go_sem]
    repeat' first | refine Z1 fun _ _ => ?_ | refine Z2 ‹_› ?_ | ((first | refine Z3 tb_ok lv5 rfl ?_ | refine Z4 tb_ok mix lv5 bs5 rfl (by kernel_rfl) rfl ?_ | refine ret_eq rfl ?_); simp only [↓reduceIte, reduceCtorEq, reduceEqDiff, reduceAdd, reduceMul, reduceSub, reduceLeDiff, reduceEq, reduceLT, reduceLE, go_sem]) | (refine Z5 rfl ?_; with_reducible first | refine condQ_T ?_ | refine condQ_F ?_) | refine Z6 ?_ | refine Z7 ?_ | refine Z8 ?_ | refine Z9 fun _ _ => ?_ | refine Za ‹_› ?_ | refine Zb ‹_› ?_ | refine Zc ‹_› trivial ?_ | refine Zd ‹_› trivial ?_ | refine Ze ‹_› trivial ?_ | refine Zf ‹_› ?_ | refine Zg ?_ | refine Zh ‹_› ?_ | refine Zi ‹_› ?_ | refine Zj ‹_› ?_ | refine Zk ‹_› ?_ | refine Zl ‹_› (by decide) ?_ | refine touch_go rfl ?_ | fail
    refine call_pure rfl rfl (c_fewB (by omega) hfew') ?_; simp only [↓reduceIte, reduceCtorEq, reduceEqDiff, reduceAdd, reduceMul, reduceSub, reduceLeDiff, reduceEq, reduceLT, reduceLE, go_sem]
    repeat' first | refine Z1 fun _ _ => ?_ | refine Z2 ‹_› ?_ | ((first | refine Z3 tb_ok lv5 rfl ?_ | refine Z4 tb_ok mix lv5 bs5 rfl (by kernel_rfl) rfl ?_ | refine ret_eq rfl ?_); simp only [↓reduceIte, reduceCtorEq, reduceEqDiff, reduceAdd, reduceMul, reduceSub, reduceLeDiff, reduceEq, reduceLT, reduceLE, go_sem]) | (refine Z5 rfl ?_; with_reducible first | refine condQ_T ?_ | refine condQ_F ?_) | refine Z6 ?_ | refine Z7 ?_ | refine Z8 ?_ | refine Z9 fun _ _ => ?_ | refine Za ‹_› ?_ | refine Zb ‹_› ?_ | refine Zc ‹_› trivial ?_ | refine Zd ‹_› trivial ?_ | refine Ze ‹_› trivial ?_ | refine Zf ‹_› ?_ | refine Zg ?_ | refine Zh ‹_› ?_ | refine Zi ‹_› ?_ | refine Zj ‹_› ?_ | refine Zk ‹_› ?_ | refine Zl ‹_› (by decide) ?_ | refine touch_go rfl ?_ | fail
    refine call_pure rfl rfl (hright) ?_; simp only [↓reduceIte, reduceCtorEq, reduceEqDiff, reduceAdd, reduceMul, reduceSub, reduceLeDiff, reduceEq, reduceLT, reduceLE, go_sem]
    cases b
    · simp only [↓reduceIte, reduceCtorEq, reduceEqDiff, reduceAdd, reduceMul, reduceSub, reduceLeDiff, reduceEq, reduceLT, reduceLE, go_sem]
      repeat' first | refine Z1 fun _ _ => ?_ | refine Z2 ‹_› ?_ | ((first | refine Z3 tb_ok lv5 rfl ?_ | refine Z4 tb_ok mix lv5 bs5 rfl (by kernel_rfl) rfl ?_ | refine ret_eq rfl ?_); simp only [↓reduceIte, reduceCtorEq, reduceEqDiff, reduceAdd, reduceMul, reduceSub, reduceLeDiff, reduceEq, reduceLT, reduceLE, go_sem]) | (refine Z5 rfl ?_; with_reducible first | refine condQ_T ?_ | refine condQ_F ?_) | refine Z6 ?_ | refine Z7 ?_ | refine Z8 ?_ | refine Z9 fun _ _ => ?_ | refine Za ‹_› ?_ | refine Zb ‹_› ?_ | refine Zc ‹_› trivial ?_ | refine Zd ‹_› trivial ?_ | refine Ze ‹_› trivial ?_ | refine Zf ‹_› ?_ | refine Zg ?_ | refine Zh ‹_› ?_ | refine Zi ‹_› ?_ | refine Zj ‹_› ?_ | refine Zk ‹_› ?_ | refine Zl ‹_› (by decide) ?_ | refine touch_go rfl ?_ | fail
      refine call_pure rfl rfl (c_awake10) ?_; simp only [↓reduceIte, reduceCtorEq, reduceEqDiff, reduceAdd, reduceMul, reduceSub, reduceLeDiff, reduceEq, reduceLT, reduceLE, go_sem]
      repeat' first | refine Z1 fun _ _ => ?_ | refine Z2 ‹_› ?_ | ((first | refine Z3 tb_ok lv5 rfl ?_ | refine Z4 tb_ok mix lv5 bs5 rfl (by kernel_rfl) rfl ?_ | refine ret_eq rfl ?_); simp only [↓reduceIte, reduceCtorEq, reduceEqDiff, reduceAdd, reduceMul, reduceSub, reduceLeDiff, reduceEq, reduceLT, reduceLE, go_sem]) | (refine Z5 rfl ?_; with_reducible first | refine condQ_T ?_ | refine condQ_F ?_) | refine Z6 ?_ | refine Z7 ?_ | refine Z8 ?_ | refine Z9 fun _ _ => ?_ | refine Za ‹_› ?_ | refine Zb ‹_› ?_ | refine Zc ‹_› trivial ?_ | refine Zd ‹_› trivial ?_ | refine Ze ‹_› trivial ?_ | refine Zf ‹_› ?_ | refine Zg ?_ | refine Zh ‹_› ?_ | refine Zi ‹_› ?_ | refine Zj ‹_› ?_ | refine Zk ‹_› ?_ | refine Zl ‹_› (by decide) ?_ | refine touch_go rfl ?_ | fail
    · obtain ⟨t, rfl, hok⟩ := hb rfl
      simp only [↓reduceIte, reduceCtorEq, reduceEqDiff, reduceAdd, reduceMul, reduceSub, reduceLeDiff, reduceEq, reduceLT, reduceLE, go_sem]
      repeat' first | refine Z1 fun _ _ => ?_ | refine Z2 ‹_› ?_ | ((first | refine Z3 tb_ok lv5 rfl ?_ | refine Z4 tb_ok mix lv5 bs5 rfl (by kernel_rfl) rfl ?_ | refine ret_eq rfl ?_); simp only [↓reduceIte, reduceCtorEq, reduceEqDiff, reduceAdd, reduceMul, reduceSub, reduceLeDiff, reduceEq, reduceLT, reduceLE, go_sem]) | (refine Z5 rfl ?_; with_reducible first | refine condQ_T ?_ | refine condQ_F ?_) | refine Z6 ?_ | refine Z7 ?_ | refine Z8 ?_ | refine Z9 fun _ _ => ?_ | refine Za ‹_› ?_ | refine Zb ‹_› ?_ | refine Zc ‹_› trivial ?_ | refine Zd ‹_› trivial ?_ | refine Ze ‹_› trivial ?_ | refine Zf ‹_› ?_ | refine Zg ?_ | refine Zh ‹_› ?_ | refine Zi ‹_› ?_ | refine Zj ‹_› ?_ | refine Zk ‹_› ?_ | refine Zl ‹_› (by decide) ?_ | refine touch_go rfl ?_ | fail
      refine call_pure rfl rfl (hright') ?_; simp only [↓reduceIte, reduceCtorEq, reduceEqDiff, reduceAdd, reduceMul, reduceSub, reduceLeDiff, reduceEq, reduceLT, reduceLE, go_sem]
      cases b'
      · simp only [↓reduceIte, reduceCtorEq, reduceEqDiff, reduceAdd, reduceMul, reduceSub, reduceLeDiff, reduceEq, reduceLT, reduceLE, go_sem]
        repeat' first | refine Z1 fun _ _ => ?_ | refine Z2 ‹_› ?_ | ((first | refine Z3 tb_ok lv5 rfl ?_ | refine Z4 tb_ok mix lv5 bs5 rfl (by kernel_rfl) rfl ?_ | refine ret_eq rfl ?_); simp only [↓reduceIte, reduceCtorEq, reduceEqDiff, reduceAdd, reduceMul, reduceSub, reduceLeDiff, reduceEq, reduceLT, reduceLE, go_sem]) | (refine Z5 rfl ?_; with_reducible first | refine condQ_T ?_ | refine condQ_F ?_) | refine Z6 ?_ | refine Z7 ?_ | refine Z8 ?_ | refine Z9 fun _ _ => ?_ | refine Za ‹_› ?_ | refine Zb ‹_› ?_ | refine Zc ‹_› trivial ?_ | refine Zd ‹_› trivial ?_ | refine Ze ‹_› trivial ?_ | refine Zf ‹_› ?_ | refine Zg ?_ | refine Zh ‹_› ?_ | refine Zi ‹_› ?_ | refine Zj ‹_› ?_ | refine Zk ‹_› ?_ | refine Zl ‹_› (by decide) ?_ | refine touch_go rfl ?_ | fail
        refine call_pure rfl rfl (c_awake10) ?_; simp only [↓reduceIte, reduceCtorEq, reduceEqDiff, reduceAdd, reduceMul, reduceSub, reduceLeDiff, reduceEq, reduceLT, reduceLE, go_sem]
        repeat' first | refine Z1 fun _ _ => ?_ | refine Z2 ‹_› ?_ | ((first | refine Z3 tb_ok lv5 rfl ?_ | refine Z4 tb_ok mix lv5 bs5 rfl (by kernel_rfl) rfl ?_ | refine ret_eq rfl ?_); simp only [↓reduceIte, reduceCtorEq, reduceEqDiff, reduceAdd, reduceMul, reduceSub, reduceLeDiff, reduceEq, reduceLT, reduceLE, go_sem]) | (refine Z5 rfl ?_; with_reducible first | refine condQ_T ?_ | refine condQ_F ?_) | refine Z6 ?_ | refine Z7 ?_ | refine Z8 ?_ | refine Z9 fun _ _ => ?_ | refine Za ‹_› ?_ | refine Zb ‹_› ?_ | refine Zc ‹_› trivial ?_ | refine Zd ‹_› trivial ?_ | refine Ze ‹_› trivial ?_ | refine Zf ‹_› ?_ | refine Zg ?_ | refine Zh ‹_› ?_ | refine Zi ‹_› ?_ | refine Zj ‹_› ?_ | refine Zk ‹_› ?_ | refine Zl ‹_› (by decide) ?_ | refine touch_go rfl ?_ | fail
      · obtain ⟨u, rfl, hok'⟩ := hb' rfl
        have h100 := few_len hfew
        have h100' := few_len hfew'
        rw [T.flat_len] at h100 h100'
        have oA := T.span_ok (fun _ => txtOk_m) hok
        have oB := T.span_ok (fun _ => txtOk_m) hok'
        have cA := c_spOf (t := t) (by omega) hok
        have cB := c_spOf (t := u) (by omega) hok'
        have cR := c_spOf (t := .two 4 t u) (by simp only [T.n]; omega) ⟨.inl rfl, hok, hok'⟩
        have cO := c_spOf (t := .two 5 u t) (by simp only [T.n]; omega) ⟨.inr rfl, hok', hok⟩
        have cF := c_spOf (t := .one 8 0 0 t) (by simp only [T.n]; omega) ⟨.inl ⟨by omega, rfl, rfl⟩, hok⟩
        have rf := spRow_facts (R := (T.two 4 t u).span) oA oB (by simp [T.span])
        have of := spOr_facts (R := (T.two 5 u t).span) oB oA (by simp [T.span])
        have ff := spFrame_facts (R := (T.one 8 0 0 t).span) oA (by simp [T.span])
        have ca := span_cases oA
        have cb := span_cases oB
        simp only [↓reduceIte, reduceCtorEq, reduceEqDiff, reduceAdd, reduceMul, reduceSub, reduceLeDiff, reduceEq, reduceLT, reduceLE, go_sem]
        repeat' first | refine Z1 fun _ _ => ?_ | refine Z2 ‹_› ?_ | ((first | refine Z3 tb_ok lv5 rfl ?_ | refine Z4 tb_ok mix lv5 bs5 rfl (by kernel_rfl) rfl ?_ | refine ret_eq rfl ?_); simp only [↓reduceIte, reduceCtorEq, reduceEqDiff, reduceAdd, reduceMul, reduceSub, reduceLeDiff, reduceEq, reduceLT, reduceLE, go_sem]) | (refine Z5 rfl ?_; with_reducible first | refine condQ_T ?_ | refine condQ_F ?_) | refine Z6 ?_ | refine Z7 ?_ | refine Z8 ?_ | refine Z9 fun _ _ => ?_ | refine Za ‹_› ?_ | refine Zb ‹_› ?_ | refine Zc ‹_› trivial ?_ | refine Zd ‹_› trivial ?_ | refine Ze ‹_› trivial ?_ | refine Zf ‹_› ?_ | refine Zg ?_ | refine Zh ‹_› ?_ | refine Zi ‹_› ?_ | refine Zj ‹_› ?_ | refine Zk ‹_› ?_ | refine Zl ‹_› (by decide) ?_ | refine touch_go rfl ?_ | fail
        refine call_pure rfl rfl (cA) ?_; simp only [↓reduceIte, reduceCtorEq, reduceEqDiff, reduceAdd, reduceMul, reduceSub, reduceLeDiff, reduceEq, reduceLT, reduceLE, go_sem]
        repeat' first | refine Z1 fun _ _ => ?_ | refine Z2 ‹_› ?_ | ((first | refine Z3 tb_ok lv5 rfl ?_ | refine Z4 tb_ok mix lv5 bs5 rfl (by kernel_rfl) rfl ?_ | refine ret_eq rfl ?_); simp only [↓reduceIte, reduceCtorEq, reduceEqDiff, reduceAdd, reduceMul, reduceSub, reduceLeDiff, reduceEq, reduceLT, reduceLE, go_sem]) | (refine Z5 rfl ?_; with_reducible first | refine condQ_T ?_ | refine condQ_F ?_) | refine Z6 ?_ | refine Z7 ?_ | refine Z8 ?_ | refine Z9 fun _ _ => ?_ | refine Za ‹_› ?_ | refine Zb ‹_› ?_ | refine Zc ‹_› trivial ?_ | refine Zd ‹_› trivial ?_ | refine Ze ‹_› trivial ?_ | refine Zf ‹_› ?_ | refine Zg ?_ | refine Zh ‹_› ?_ | refine Zi ‹_› ?_ | refine Zj ‹_› ?_ | refine Zk ‹_› ?_ | refine Zl ‹_› (by decide) ?_ | refine touch_go rfl ?_ | fail
        refine call_pure rfl rfl (cB) ?_; simp only [↓reduceIte, reduceCtorEq, reduceEqDiff, reduceAdd, reduceMul, reduceSub, reduceLeDiff, reduceEq, reduceLT, reduceLE, go_sem]
        repeat' first | refine Z1 fun _ _ => ?_ | refine Z2 ‹_› ?_ | ((first | refine Z3 tb_ok lv5 rfl ?_ | refine Z4 tb_ok mix lv5 bs5 rfl (by kernel_rfl) rfl ?_ | refine ret_eq rfl ?_); simp only [↓reduceIte, reduceCtorEq, reduceEqDiff, reduceAdd, reduceMul, reduceSub, reduceLeDiff, reduceEq, reduceLT, reduceLE, go_sem]) | (refine Z5 rfl ?_; with_reducible first | refine condQ_T ?_ | refine condQ_F ?_) | refine Z6 ?_ | refine Z7 ?_ | refine Z8 ?_ | refine Z9 fun _ _ => ?_ | refine Za ‹_› ?_ | refine Zb ‹_› ?_ | refine Zc ‹_› trivial ?_ | refine Zd ‹_› trivial ?_ | refine Ze ‹_› trivial ?_ | refine Zf ‹_› ?_ | refine Zg ?_ | refine Zh ‹_› ?_ | refine Zi ‹_› ?_ | refine Zj ‹_› ?_ | refine Zk ‹_› ?_ | refine Zl ‹_› (by decide) ?_ | refine touch_go rfl ?_ | fail
        refine call_pure rfl rfl (c_pair (by omega) (by omega) hok hok') ?_; simp only [↓reduceIte, reduceCtorEq, reduceEqDiff, reduceAdd, reduceMul, reduceSub, reduceLeDiff, reduceEq, reduceLT, reduceLE, go_sem]
        repeat' first | refine Z1 fun _ _ => ?_ | refine Z2 ‹_› ?_ | ((first | refine Z3 tb_ok lv5 rfl ?_ | refine Z4 tb_ok mix lv5 bs5 rfl (by kernel_rfl) rfl ?_ | refine ret_eq rfl ?_); simp only [↓reduceIte, reduceCtorEq, reduceEqDiff, reduceAdd, reduceMul, reduceSub, reduceLeDiff, reduceEq, reduceLT, reduceLE, go_sem]) | (refine Z5 rfl ?_; with_reducible first | refine condQ_T ?_ | refine condQ_F ?_) | refine Z6 ?_ | refine Z7 ?_ | refine Z8 ?_ | refine Z9 fun _ _ => ?_ | refine Za ‹_› ?_ | refine Zb ‹_› ?_ | refine Zc ‹_› trivial ?_ | refine Zd ‹_› trivial ?_ | refine Ze ‹_› trivial ?_ | refine Zf ‹_› ?_ | refine Zg ?_ | refine Zh ‹_› ?_ | refine Zi ‹_› ?_ | refine Zj ‹_› ?_ | refine Zk ‹_› ?_ | refine Zl ‹_› (by decide) ?_ | refine touch_go rfl ?_ | fail
        refine call_pure rfl rfl (cR) ?_; simp only [↓reduceIte, reduceCtorEq, reduceEqDiff, reduceAdd, reduceMul, reduceSub, reduceLeDiff, reduceEq, reduceLT, reduceLE, go_sem]
        repeat' first | refine Z1 fun _ _ => ?_ | refine Z2 ‹_› ?_ | ((first | refine Z3 tb_ok lv5 rfl ?_ | refine Z4 tb_ok mix lv5 bs5 rfl (by kernel_rfl) rfl ?_ | refine ret_eq rfl ?_); simp only [↓reduceIte, reduceCtorEq, reduceEqDiff, reduceAdd, reduceMul, reduceSub, reduceLeDiff, reduceEq, reduceLT, reduceLE, go_sem]) | (refine Z5 rfl ?_; with_reducible first | refine condQ_T ?_ | refine condQ_F ?_) | refine Z6 ?_ | refine Z7 ?_ | refine Z8 ?_ | refine Z9 fun _ _ => ?_ | refine Za ‹_› ?_ | refine Zb ‹_› ?_ | refine Zc ‹_› trivial ?_ | refine Zd ‹_› trivial ?_ | refine Ze ‹_› trivial ?_ | refine Zf ‹_› ?_ | refine Zg ?_ | refine Zh ‹_› ?_ | refine Zi ‹_› ?_ | refine Zj ‹_› ?_ | refine Zk ‹_› ?_ | refine Zl ‹_› (by decide) ?_ | refine touch_go rfl ?_ | fail
        refine call_pure rfl rfl (c_pair (by omega) (by omega) hok' hok) ?_; simp only [↓reduceIte, reduceCtorEq, reduceEqDiff, reduceAdd, reduceMul, reduceSub, reduceLeDiff, reduceEq, reduceLT, reduceLE, go_sem]
        repeat' first | refine Z1 fun _ _ => ?_ | refine Z2 ‹_› ?_ | ((first | refine Z3 tb_ok lv5 rfl ?_ | refine Z4 tb_ok mix lv5 bs5 rfl (by kernel_rfl) rfl ?_ | refine ret_eq rfl ?_); simp only [↓reduceIte, reduceCtorEq, reduceEqDiff, reduceAdd, reduceMul, reduceSub, reduceLeDiff, reduceEq, reduceLT, reduceLE, go_sem]) | (refine Z5 rfl ?_; with_reducible first | refine condQ_T ?_ | refine condQ_F ?_) | refine Z6 ?_ | refine Z7 ?_ | refine Z8 ?_ | refine Z9 fun _ _ => ?_ | refine Za ‹_› ?_ | refine Zb ‹_› ?_ | refine Zc ‹_› trivial ?_ | refine Zd ‹_› trivial ?_ | refine Ze ‹_› trivial ?_ | refine Zf ‹_› ?_ | refine Zg ?_ | refine Zh ‹_› ?_ | refine Zi ‹_› ?_ | refine Zj ‹_› ?_ | refine Zk ‹_› ?_ | refine Zl ‹_› (by decide) ?_ | refine touch_go rfl ?_ | fail
        refine call_pure rfl rfl (cO) ?_; simp only [↓reduceIte, reduceCtorEq, reduceEqDiff, reduceAdd, reduceMul, reduceSub, reduceLeDiff, reduceEq, reduceLT, reduceLE, go_sem]
        repeat' first | refine Z1 fun _ _ => ?_ | refine Z2 ‹_› ?_ | ((first | refine Z3 tb_ok lv5 rfl ?_ | refine Z4 tb_ok mix lv5 bs5 rfl (by kernel_rfl) rfl ?_ | refine ret_eq rfl ?_); simp only [↓reduceIte, reduceCtorEq, reduceEqDiff, reduceAdd, reduceMul, reduceSub, reduceLeDiff, reduceEq, reduceLT, reduceLE, go_sem]) | (refine Z5 rfl ?_; with_reducible first | refine condQ_T ?_ | refine condQ_F ?_) | refine Z6 ?_ | refine Z7 ?_ | refine Z8 ?_ | refine Z9 fun _ _ => ?_ | refine Za ‹_› ?_ | refine Zb ‹_› ?_ | refine Zc ‹_› trivial ?_ | refine Zd ‹_› trivial ?_ | refine Ze ‹_› trivial ?_ | refine Zf ‹_› ?_ | refine Zg ?_ | refine Zh ‹_› ?_ | refine Zi ‹_› ?_ | refine Zj ‹_› ?_ | refine Zk ‹_› ?_ | refine Zl ‹_› (by decide) ?_ | refine touch_go rfl ?_ | fail
        refine call_pure rfl rfl (c_wrap (by omega) hok) ?_; simp only [↓reduceIte, reduceCtorEq, reduceEqDiff, reduceAdd, reduceMul, reduceSub, reduceLeDiff, reduceEq, reduceLT, reduceLE, go_sem]
        repeat' first | refine Z1 fun _ _ => ?_ | refine Z2 ‹_› ?_ | ((first | refine Z3 tb_ok lv5 rfl ?_ | refine Z4 tb_ok mix lv5 bs5 rfl (by kernel_rfl) rfl ?_ | refine ret_eq rfl ?_); simp only [↓reduceIte, reduceCtorEq, reduceEqDiff, reduceAdd, reduceMul, reduceSub, reduceLeDiff, reduceEq, reduceLT, reduceLE, go_sem]) | (refine Z5 rfl ?_; with_reducible first | refine condQ_T ?_ | refine condQ_F ?_) | refine Z6 ?_ | refine Z7 ?_ | refine Z8 ?_ | refine Z9 fun _ _ => ?_ | refine Za ‹_› ?_ | refine Zb ‹_› ?_ | refine Zc ‹_› trivial ?_ | refine Zd ‹_› trivial ?_ | refine Ze ‹_› trivial ?_ | refine Zf ‹_› ?_ | refine Zg ?_ | refine Zh ‹_› ?_ | refine Zi ‹_› ?_ | refine Zj ‹_› ?_ | refine Zk ‹_› ?_ | refine Zl ‹_› (by decide) ?_ | refine touch_go rfl ?_ | fail
        refine call_pure rfl rfl (cF) ?_; simp only [↓reduceIte, reduceCtorEq, reduceEqDiff, reduceAdd, reduceMul, reduceSub, reduceLeDiff, reduceEq, reduceLT, reduceLE, go_sem]
        repeat' first | refine Z1 fun _ _ => ?_ | refine Z2 ‹_› ?_ | ((first | refine Z3 tb_ok lv5 rfl ?_ | refine Z4 tb_ok mix lv5 bs5 rfl (by kernel_rfl) rfl ?_ | refine ret_eq rfl ?_); simp only [↓reduceIte, reduceCtorEq, reduceEqDiff, reduceAdd, reduceMul, reduceSub, reduceLeDiff, reduceEq, reduceLT, reduceLE, go_sem]) | (refine Z5 rfl ?_; with_reducible first | refine condQ_T ?_ | refine condQ_F ?_) | refine Z6 ?_ | refine Z7 ?_ | refine Z8 ?_ | refine Z9 fun _ _ => ?_ | refine Za ‹_› ?_ | refine Zb ‹_› ?_ | refine Zc ‹_› trivial ?_ | refine Zd ‹_› trivial ?_ | refine Ze ‹_› trivial ?_ | refine Zf ‹_› ?_ | refine Zg ?_ | refine Zh ‹_› ?_ | refine Zi ‹_› ?_ | refine Zj ‹_› ?_ | refine Zk ‹_› ?_ | refine Zl ‹_› (by decide) ?_ | refine touch_go rfl ?_ | fail
        clear cA cB cR cO cF oA oB
        generalize t.span.1 = a at *
        generalize t.span.2 = b at *
        generalize u.span.1 = x at *
        generalize u.span.2 = y at *
        generalize (T.two 4 t u).span.1 = s at *
        generalize (T.two 4 t u).span.2 = v at *
        generalize (T.two 5 u t).span.1 = o at *
        generalize (T.two 5 u t).span.2 = p at *
        generalize (T.one 8 0 0 t).span.1 = f at *
        generalize (T.one 8 0 0 t).span.2 = g at *
        clear hl htx hb hright hl' htx' hb' hright' hfew hfew'
        rcases ca with ca | ca | ca <;> rcases cb with cb | cb | cb
        all_goals rcases rf with rf | ⟨rf1, rf2, rf3, rf | rf⟩ <;> first | (exfalso; omega) | skip
        all_goals rcases of with of | of | ⟨of1, of2, of3, of | of⟩ <;> first | (exfalso; omega) | skip
        all_goals rcases ff with ff | ⟨ff1, ff2, ff3, ff | ff⟩ <;> first | (exfalso; omega) | skip
        all_goals
          have w1 : IntKind.i64.wrap (a + 1) = a + 1 := wrap64 (by omega) (by omega)
          have w2 : IntKind.i64.wrap (b + 1) = b + 1 := wrap64 (by omega) (by omega)
          have w3 : IntKind.i64.wrap (a + x) = a + x := wrap64 (by omega) (by omega)
          have w4 : IntKind.i64.wrap (b + y) = b + y := wrap64 (by omega) (by omega)
          first | have k0 : decide (s = -1) = true := decide_eq_true (by omega) | have k0 : decide (s = -1) = false := decide_eq_false (by omega) | have k0 : True := trivial
          first | have k1 : decide (a = -1) = true := decide_eq_true (by omega) | have k1 : decide (a = -1) = false := decide_eq_false (by omega) | have k1 : True := trivial
          first | have k2 : decide (x = -1) = true := decide_eq_true (by omega) | have k2 : decide (x = -1) = false := decide_eq_false (by omega) | have k2 : True := trivial
          first | have k3 : decide (o = -1) = true := decide_eq_true (by omega) | have k3 : decide (o = -1) = false := decide_eq_false (by omega) | have k3 : True := trivial
          first | have k4 : decide (f = -1) = true := decide_eq_true (by omega) | have k4 : decide (f = -1) = false := decide_eq_false (by omega) | have k4 : True := trivial
          first | have k5 : decide (a > 255) = true := decide_eq_true (by omega) | have k5 : decide (a > 255) = false := decide_eq_false (by omega) | have k5 : True := trivial
          first | have k6 : decide (¬f = -1) = true := decide_eq_true (by omega) | have k6 : decide (¬f = -1) = false := decide_eq_false (by omega) | have k6 : True := trivial
          first | have k7 : decide (¬f = a + 1) = true := decide_eq_true (by omega) | have k7 : decide (¬f = a + 1) = false := decide_eq_false (by omega) | have k7 : True := trivial
          first | have k8 : decide (g > 256) = true := decide_eq_true (by omega) | have k8 : decide (g > 256) = false := decide_eq_false (by omega) | have k8 : True := trivial
          first | have k9 : decide (g < f) = true := decide_eq_true (by omega) | have k9 : decide (g < f) = false := decide_eq_false (by omega) | have k9 : True := trivial
          first | have k10 : decide (¬b = -1) = true := decide_eq_true (by omega) | have k10 : decide (¬b = -1) = false := decide_eq_false (by omega) | have k10 : True := trivial
          first | have k11 : decide (b ≤ 255) = true := decide_eq_true (by omega) | have k11 : decide (b ≤ 255) = false := decide_eq_false (by omega) | have k11 : True := trivial
          first | have k12 : decide (¬g = b + 1) = true := decide_eq_true (by omega) | have k12 : decide (¬g = b + 1) = false := decide_eq_false (by omega) | have k12 : True := trivial
          first | have k13 : decide (¬s = -1) = true := decide_eq_true (by omega) | have k13 : decide (¬s = -1) = false := decide_eq_false (by omega) | have k13 : True := trivial
          first | have k14 : decide (¬s = min (a + x) 1099511627776) = true := decide_eq_true (by omega) | have k14 : decide (¬s = min (a + x) 1099511627776) = false := decide_eq_false (by omega) | have k14 : True := trivial
          first | have k15 : decide (v = -1) = true := decide_eq_true (by omega) | have k15 : decide (v = -1) = false := decide_eq_false (by omega) | have k15 : True := trivial
          first | have k16 : decide (b = -1) = true := decide_eq_true (by omega) | have k16 : decide (b = -1) = false := decide_eq_false (by omega) | have k16 : True := trivial
          first | have k17 : decide (y = -1) = true := decide_eq_true (by omega) | have k17 : decide (y = -1) = false := decide_eq_false (by omega) | have k17 : True := trivial
          first | have k18 : decide (b + y > 1099511627776) = true := decide_eq_true (by omega) | have k18 : decide (b + y > 1099511627776) = false := decide_eq_false (by omega) | have k18 : True := trivial
          first | have k19 : decide (¬v = -1) = true := decide_eq_true (by omega) | have k19 : decide (¬v = -1) = false := decide_eq_false (by omega) | have k19 : True := trivial
          first | have k20 : decide (¬v = b + y) = true := decide_eq_true (by omega) | have k20 : decide (¬v = b + y) = false := decide_eq_false (by omega) | have k20 : True := trivial
          first | have k21 : decide (o = min a x) = true := decide_eq_true (by omega) | have k21 : decide (o = min a x) = false := decide_eq_false (by omega) | have k21 : True := trivial
          first | have k22 : decide (p = -1) = true := decide_eq_true (by omega) | have k22 : decide (p = -1) = false := decide_eq_false (by omega) | have k22 : True := trivial
          first | have k23 : decide (p = max b y) = true := decide_eq_true (by omega) | have k23 : decide (p = max b y) = false := decide_eq_false (by omega) | have k23 : True := trivial
          clear ca cb
          repeat
            simp only [↓reduceIte, reduceCtorEq, reduceEqDiff, reduceAdd, reduceMul, reduceSub, reduceLeDiff, reduceEq, reduceLT, reduceLE, go_sem, k0, k1, k2, k3, k4, k5, k6, k7, k8, k9, k10, k11, k12, k13, k14, k15, k16, k17, k18, k19, k20, k21, k22, k23, w1, w2, w3, w4, beq_self_eq_true, Bool.not_true, Bool.not_false, Bool.false_beq, Bool.true_beq]
            repeat' first | refine Z1 fun _ _ => ?_ | refine Z2 ‹_› ?_ | ((first | refine Z3 tb_ok lv5 rfl ?_ | refine Z4 tb_ok mix lv5 bs5 rfl (by kernel_rfl) rfl ?_ | refine ret_eq rfl ?_); simp only [↓reduceIte, reduceCtorEq, reduceEqDiff, reduceAdd, reduceMul, reduceSub, reduceLeDiff, reduceEq, reduceLT, reduceLE, go_sem]) | (refine Z5 rfl ?_; with_reducible first | refine condQ_T ?_ | refine condQ_F ?_) | refine Z6 ?_ | refine Z7 ?_ | refine Z8 ?_ | refine Z9 fun _ _ => ?_ | refine Za ‹_› ?_ | refine Zb ‹_› ?_ | refine Zc ‹_› trivial ?_ | refine Zd ‹_› trivial ?_ | refine Ze ‹_› trivial ?_ | refine Zf ‹_› ?_ | refine Zg ?_ | refine Zh ‹_› ?_ | refine Zi ‹_› ?_ | refine Zj ‹_› ?_ | refine Zk ‹_› ?_ | refine Zl ‹_› (by decide) ?_ | refine touch_go rfl ?_ | fail
end Go.Proofs.YtafacidgajnedaaDoor
