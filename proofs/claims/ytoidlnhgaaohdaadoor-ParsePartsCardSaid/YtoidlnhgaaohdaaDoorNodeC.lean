/- node.of. -/
import Derived.Test.YtoidlnhgaaohdaaDoorNodeB
namespace Go.Proofs.YtoidlnhgaaohdaaDoor
set_option linter.all false
open Go Go.RowKit
open Nat (reduceEqDiff reduceAdd reduceMul reduceSub reduceLeDiff)
open Int (reduceEq reduceLT reduceLE)

/-- What a leaf, or a node of one part, has besides its numbers. -/
def fitsB (n : Nd) : Bool :=
  if n.kind = 1 then plainB n ⟨n.kind, 0, 0, 0, 0, 0, 0, 0, 0, .empty⟩
  else if n.kind = 2 then plainB n ⟨n.kind, 0, 0, 0, 0, n.c0, n.c1, n.c2, n.c3, .empty⟩
  else if n.kind = 3 then plainB n ⟨n.kind, 0, 0, 0, 0, 0, 0, 0, 0, n.text⟩ && (decide (¬ n.text = ⟨#[]⟩) && (utf8B n.text && !(n.text.data.toList.any (· == 34))))
  else if n.kind = 7 then plainB n ⟨n.kind, n.a, 0, n.lo, n.hi, 0, 0, 0, 0, .empty⟩ && (decide (0 ≤ n.lo) && (decide (n.lo ≤ n.hi) && decide (n.hi ≤ 255)))
  else plainB n ⟨n.kind, n.a, 0, 0, 0, 0, 0, 0, 0, .empty⟩
def shapeD (n : Nd) : D :=
  if n.kind = 1 ∨ n.kind = 2 ∨ n.kind = 3 then .iface 101 (.agg [.bool (fitsB n)])
  else if n.kind = 6 ∨ n.kind = 7 ∨ n.kind = 8 ∨ n.kind = 9 then .iface 95 (.agg [.bool (fitsB n)])
  else if n.kind = 4 ∨ n.kind = 5 then .iface 97 (.agg [])
  else .iface 103 (.agg [])
theorem shape_leaf {n : Nd} (h : n.kind = 1 ∨ n.kind = 2 ∨ n.kind = 3) : shapeD n = .iface 101 (.agg [.bool (fitsB n)]) := by rw [shapeD, if_pos h]
theorem shape_one {n : Nd} (h : n.kind = 6 ∨ n.kind = 7 ∨ n.kind = 8 ∨ n.kind = 9) : shapeD n = .iface 95 (.agg [.bool (fitsB n)]) := by rw [shapeD, if_neg (by omega), if_pos h]
theorem shape_two {n : Nd} (h : n.kind = 4 ∨ n.kind = 5) : shapeD n = .iface 97 (.agg []) := by rw [shapeD, if_neg (by omega), if_neg (by omega), if_pos h]
theorem shape_no {n : Nd} (h : ¬ (1 ≤ n.kind ∧ n.kind ≤ 9)) : shapeD n = .iface 103 (.agg []) := by rw [shapeD, if_neg (by omega), if_neg (by omega), if_neg (by omega)]

@[go_sem] def lv57 : List (Nat × List Nat) := [(0, [1]), (1, [1, 4]), (2, [1, 4, 5]), (3, [2]), (4, [1, 4, 14]), (5, [2]), (6, [1, 4, 25]), (7, [2]), (8, [1, 4, 52]), (9, [1, 4, 52]), (10, [1, 4, 52]), (11, [2]), (12, [1, 4, 65]), (13, [2]), (14, [4, 97]), (15, [97]), (16, [2]), (17, [2])]
def bs57 : List (Nat × List Nat × List Nat) := []
set_option maxHeartbeats 4000000 in
set_option maxRecDepth 4000 in
theorem c_of (n : Nd) (hx : n.text.size ≤ 1048576) : PCon Tryd.prog glU 57 [.agg n.cells] (shapeD n) := by
  rcases n with ⟨k, a, b, lo, hi, c0, c1, c2, c3, tx⟩
  simp only at hx
  have hp := fun m => c_plain (gl := glU) ⟨k, a, b, lo, hi, c0, c1, c2, c3, tx⟩ m
  by_cases k1 : k = 1
  · subst k1
    have h := hp ⟨1, 0, 0, 0, 0, 0, 0, 0, 0, .empty⟩
    refine PCon.enter tb_ok (fn := Tryd.f57) (by kernel_rfl) (by kernel_rfl) rfl (by show 1 ≤ 104; decide) ?_
    repeat' first | refine Z1 fun _ _ => ?_ | refine Z2 ‹_› ?_ | ((first | refine Z3 tb_ok lv57 rfl ?_ | refine ret_eq rfl ?_); simp only [↓reduceIte, reduceCtorEq, reduceEqDiff, reduceAdd, reduceMul, reduceSub, reduceLeDiff, reduceEq, reduceLT, reduceLE, go_sem]) | (refine Z5 rfl ?_; with_reducible first | refine condQ_T ?_ | refine condQ_F ?_) | refine Z6 ?_ | refine Z8 ?_ | refine Z9 fun _ _ => ?_ | refine Za ‹_› ?_ | refine Zc ‹_› trivial ?_ | refine Zf ‹_› ?_ | fail
    refine call_pure rfl rfl (h) ?_; simp only [↓reduceIte, reduceCtorEq, reduceEqDiff, reduceAdd, reduceMul, reduceSub, reduceLeDiff, reduceEq, reduceLT, reduceLE, go_sem]
    repeat' first | refine Z1 fun _ _ => ?_ | refine Z2 ‹_› ?_ | ((first | refine Z3 tb_ok lv57 rfl ?_ | refine ret_eq rfl ?_); simp only [↓reduceIte, reduceCtorEq, reduceEqDiff, reduceAdd, reduceMul, reduceSub, reduceLeDiff, reduceEq, reduceLT, reduceLE, go_sem]) | (refine Z5 rfl ?_; with_reducible first | refine condQ_T ?_ | refine condQ_F ?_) | refine Z6 ?_ | refine Z8 ?_ | refine Z9 fun _ _ => ?_ | refine Za ‹_› ?_ | refine Zc ‹_› trivial ?_ | refine Zf ‹_› ?_ | fail
    rw [shape_leaf (.inl rfl)]
    rfl
  by_cases k2 : k = 2
  · subst k2
    have h := hp ⟨2, 0, 0, 0, 0, c0, c1, c2, c3, .empty⟩
    refine PCon.enter tb_ok (fn := Tryd.f57) (by kernel_rfl) (by kernel_rfl) rfl (by show 1 ≤ 104; decide) ?_
    repeat' first | refine Z1 fun _ _ => ?_ | refine Z2 ‹_› ?_ | ((first | refine Z3 tb_ok lv57 rfl ?_ | refine ret_eq rfl ?_); simp only [↓reduceIte, reduceCtorEq, reduceEqDiff, reduceAdd, reduceMul, reduceSub, reduceLeDiff, reduceEq, reduceLT, reduceLE, go_sem]) | (refine Z5 rfl ?_; with_reducible first | refine condQ_T ?_ | refine condQ_F ?_) | refine Z6 ?_ | refine Z8 ?_ | refine Z9 fun _ _ => ?_ | refine Za ‹_› ?_ | refine Zc ‹_› trivial ?_ | refine Zf ‹_› ?_ | fail
    refine call_pure rfl rfl (h) ?_; simp only [↓reduceIte, reduceCtorEq, reduceEqDiff, reduceAdd, reduceMul, reduceSub, reduceLeDiff, reduceEq, reduceLT, reduceLE, go_sem]
    repeat' first | refine Z1 fun _ _ => ?_ | refine Z2 ‹_› ?_ | ((first | refine Z3 tb_ok lv57 rfl ?_ | refine ret_eq rfl ?_); simp only [↓reduceIte, reduceCtorEq, reduceEqDiff, reduceAdd, reduceMul, reduceSub, reduceLeDiff, reduceEq, reduceLT, reduceLE, go_sem]) | (refine Z5 rfl ?_; with_reducible first | refine condQ_T ?_ | refine condQ_F ?_) | refine Z6 ?_ | refine Z8 ?_ | refine Z9 fun _ _ => ?_ | refine Za ‹_› ?_ | refine Zc ‹_› trivial ?_ | refine Zf ‹_› ?_ | fail
    rw [shape_leaf (.inr (.inl rfl))]
    rfl
  by_cases k3 : k = 3
  · subst k3
    have h := hp ⟨3, 0, 0, 0, 0, 0, 0, 0, 0, tx⟩
    have hu := c_lutf8 tx hx
    have hc := c_contains (gl := glU) tx 34
    rw [shape_leaf (.inr (.inr rfl))]
    have hf : fitsB ⟨3, a, b, lo, hi, c0, c1, c2, c3, tx⟩ = (plainB ⟨3, a, b, lo, hi, c0, c1, c2, c3, tx⟩ ⟨3, 0, 0, 0, 0, 0, 0, 0, 0, tx⟩ && (decide (¬ tx = ⟨#[]⟩) && (utf8B tx && !(tx.data.toList.any (· == 34))))) := rfl
    rw [hf]
    generalize hb : plainB ⟨3, a, b, lo, hi, c0, c1, c2, c3, tx⟩ ⟨3, 0, 0, 0, 0, 0, 0, 0, 0, tx⟩ = b1 at h
    refine PCon.enter tb_ok (fn := Tryd.f57) (by kernel_rfl) (by kernel_rfl) rfl (by show 1 ≤ 104; decide) ?_
    repeat' first | refine Z1 fun _ _ => ?_ | refine Z2 ‹_› ?_ | ((first | refine Z3 tb_ok lv57 rfl ?_ | refine ret_eq rfl ?_); simp only [↓reduceIte, reduceCtorEq, reduceEqDiff, reduceAdd, reduceMul, reduceSub, reduceLeDiff, reduceEq, reduceLT, reduceLE, go_sem]) | (refine Z5 rfl ?_; with_reducible first | refine condQ_T ?_ | refine condQ_F ?_) | refine Z6 ?_ | refine Z8 ?_ | refine Z9 fun _ _ => ?_ | refine Za ‹_› ?_ | refine Zc ‹_› trivial ?_ | refine Zf ‹_› ?_ | fail
    refine call_pure rfl rfl (h) ?_; simp only [↓reduceIte, reduceCtorEq, reduceEqDiff, reduceAdd, reduceMul, reduceSub, reduceLeDiff, reduceEq, reduceLT, reduceLE, go_sem]
    repeat' first | refine Z1 fun _ _ => ?_ | refine Z2 ‹_› ?_ | ((first | refine Z3 tb_ok lv57 rfl ?_ | refine ret_eq rfl ?_); simp only [↓reduceIte, reduceCtorEq, reduceEqDiff, reduceAdd, reduceMul, reduceSub, reduceLeDiff, reduceEq, reduceLT, reduceLE, go_sem]) | (refine Z5 rfl ?_; with_reducible first | refine condQ_T ?_ | refine condQ_F ?_) | refine Z6 ?_ | refine Z8 ?_ | refine Z9 fun _ _ => ?_ | refine Za ‹_› ?_ | refine Zc ‹_› trivial ?_ | refine Zf ‹_› ?_ | fail
    refine .split rfl (fun g1 => ?_) (fun g1 => ?_) <;> simp only [↓reduceIte, reduceCtorEq, reduceEqDiff, reduceAdd, reduceMul, reduceSub, reduceLeDiff, reduceEq, reduceLT, reduceLE, go_sem, g1]
    · refine .split rfl (fun g2 => ?_) (fun g2 => ?_) <;> simp only [↓reduceIte, reduceCtorEq, reduceEqDiff, reduceAdd, reduceMul, reduceSub, reduceLeDiff, reduceEq, reduceLT, reduceLE, go_sem, g2]
      · refine call_pure rfl rfl (hu) ?_; simp only [↓reduceIte, reduceCtorEq, reduceEqDiff, reduceAdd, reduceMul, reduceSub, reduceLeDiff, reduceEq, reduceLT, reduceLE, go_sem]
        refine .split rfl (fun g3 => ?_) (fun g3 => ?_) <;> simp only [↓reduceIte, reduceCtorEq, reduceEqDiff, reduceAdd, reduceMul, reduceSub, reduceLeDiff, reduceEq, reduceLT, reduceLE, go_sem, g3]
        · refine call_pure rfl rfl (hc) ?_; simp only [↓reduceIte, reduceCtorEq, reduceEqDiff, reduceAdd, reduceMul, reduceSub, reduceLeDiff, reduceEq, reduceLT, reduceLE, go_sem]
          repeat' first | refine Z1 fun _ _ => ?_ | refine Z2 ‹_› ?_ | ((first | refine Z3 tb_ok lv57 rfl ?_ | refine ret_eq rfl ?_); simp only [↓reduceIte, reduceCtorEq, reduceEqDiff, reduceAdd, reduceMul, reduceSub, reduceLeDiff, reduceEq, reduceLT, reduceLE, go_sem]) | (refine Z5 rfl ?_; with_reducible first | refine condQ_T ?_ | refine condQ_F ?_) | refine Z6 ?_ | refine Z8 ?_ | refine Z9 fun _ _ => ?_ | refine Za ‹_› ?_ | refine Zc ‹_› trivial ?_ | refine Zf ‹_› ?_ | fail
          rw [g1, g2, g3]
          rfl
        · repeat' first | refine Z1 fun _ _ => ?_ | refine Z2 ‹_› ?_ | ((first | refine Z3 tb_ok lv57 rfl ?_ | refine ret_eq rfl ?_); simp only [↓reduceIte, reduceCtorEq, reduceEqDiff, reduceAdd, reduceMul, reduceSub, reduceLeDiff, reduceEq, reduceLT, reduceLE, go_sem]) | (refine Z5 rfl ?_; with_reducible first | refine condQ_T ?_ | refine condQ_F ?_) | refine Z6 ?_ | refine Z8 ?_ | refine Z9 fun _ _ => ?_ | refine Za ‹_› ?_ | refine Zc ‹_› trivial ?_ | refine Zf ‹_› ?_ | fail
          rw [g1, g2, g3]
          rfl
      · repeat' first | refine Z1 fun _ _ => ?_ | refine Z2 ‹_› ?_ | ((first | refine Z3 tb_ok lv57 rfl ?_ | refine ret_eq rfl ?_); simp only [↓reduceIte, reduceCtorEq, reduceEqDiff, reduceAdd, reduceMul, reduceSub, reduceLeDiff, reduceEq, reduceLT, reduceLE, go_sem]) | (refine Z5 rfl ?_; with_reducible first | refine condQ_T ?_ | refine condQ_F ?_) | refine Z6 ?_ | refine Z8 ?_ | refine Z9 fun _ _ => ?_ | refine Za ‹_› ?_ | refine Zc ‹_› trivial ?_ | refine Zf ‹_› ?_ | fail
        rw [g1, g2]
        rfl
    · repeat' first | refine Z1 fun _ _ => ?_ | refine Z2 ‹_› ?_ | ((first | refine Z3 tb_ok lv57 rfl ?_ | refine ret_eq rfl ?_); simp only [↓reduceIte, reduceCtorEq, reduceEqDiff, reduceAdd, reduceMul, reduceSub, reduceLeDiff, reduceEq, reduceLT, reduceLE, go_sem]) | (refine Z5 rfl ?_; with_reducible first | refine condQ_T ?_ | refine condQ_F ?_) | refine Z6 ?_ | refine Z8 ?_ | refine Z9 fun _ _ => ?_ | refine Za ‹_› ?_ | refine Zc ‹_› trivial ?_ | refine Zf ‹_› ?_ | fail
      rw [g1]
      rfl
  have one : ∀ h : k = 6 ∨ k = 7 ∨ k = 8 ∨ k = 9, shapeD ⟨k, a, b, lo, hi, c0, c1, c2, c3, tx⟩ = .iface 95 (.agg [.bool (fitsB ⟨k, a, b, lo, hi, c0, c1, c2, c3, tx⟩)]) := fun h => shape_one h
  by_cases k6 : k = 6
  · subst k6
    have h := hp ⟨6, a, 0, 0, 0, 0, 0, 0, 0, .empty⟩
    refine PCon.enter tb_ok (fn := Tryd.f57) (by kernel_rfl) (by kernel_rfl) rfl (by show 1 ≤ 104; decide) ?_
    repeat' first | refine Z1 fun _ _ => ?_ | refine Z2 ‹_› ?_ | ((first | refine Z3 tb_ok lv57 rfl ?_ | refine ret_eq rfl ?_); simp only [↓reduceIte, reduceCtorEq, reduceEqDiff, reduceAdd, reduceMul, reduceSub, reduceLeDiff, reduceEq, reduceLT, reduceLE, go_sem]) | (refine Z5 rfl ?_; with_reducible first | refine condQ_T ?_ | refine condQ_F ?_) | refine Z6 ?_ | refine Z8 ?_ | refine Z9 fun _ _ => ?_ | refine Za ‹_› ?_ | refine Zc ‹_› trivial ?_ | refine Zf ‹_› ?_ | fail
    refine call_pure rfl rfl (h) ?_; simp only [↓reduceIte, reduceCtorEq, reduceEqDiff, reduceAdd, reduceMul, reduceSub, reduceLeDiff, reduceEq, reduceLT, reduceLE, go_sem]
    repeat' first | refine Z1 fun _ _ => ?_ | refine Z2 ‹_› ?_ | ((first | refine Z3 tb_ok lv57 rfl ?_ | refine ret_eq rfl ?_); simp only [↓reduceIte, reduceCtorEq, reduceEqDiff, reduceAdd, reduceMul, reduceSub, reduceLeDiff, reduceEq, reduceLT, reduceLE, go_sem]) | (refine Z5 rfl ?_; with_reducible first | refine condQ_T ?_ | refine condQ_F ?_) | refine Z6 ?_ | refine Z8 ?_ | refine Z9 fun _ _ => ?_ | refine Za ‹_› ?_ | refine Zc ‹_› trivial ?_ | refine Zf ‹_› ?_ | fail
    rw [one (.inl rfl)]
    rfl
  by_cases k8 : k = 8
  · subst k8
    have h := hp ⟨8, a, 0, 0, 0, 0, 0, 0, 0, .empty⟩
    refine PCon.enter tb_ok (fn := Tryd.f57) (by kernel_rfl) (by kernel_rfl) rfl (by show 1 ≤ 104; decide) ?_
    repeat' first | refine Z1 fun _ _ => ?_ | refine Z2 ‹_› ?_ | ((first | refine Z3 tb_ok lv57 rfl ?_ | refine ret_eq rfl ?_); simp only [↓reduceIte, reduceCtorEq, reduceEqDiff, reduceAdd, reduceMul, reduceSub, reduceLeDiff, reduceEq, reduceLT, reduceLE, go_sem]) | (refine Z5 rfl ?_; with_reducible first | refine condQ_T ?_ | refine condQ_F ?_) | refine Z6 ?_ | refine Z8 ?_ | refine Z9 fun _ _ => ?_ | refine Za ‹_› ?_ | refine Zc ‹_› trivial ?_ | refine Zf ‹_› ?_ | fail
    refine call_pure rfl rfl (h) ?_; simp only [↓reduceIte, reduceCtorEq, reduceEqDiff, reduceAdd, reduceMul, reduceSub, reduceLeDiff, reduceEq, reduceLT, reduceLE, go_sem]
    repeat' first | refine Z1 fun _ _ => ?_ | refine Z2 ‹_› ?_ | ((first | refine Z3 tb_ok lv57 rfl ?_ | refine ret_eq rfl ?_); simp only [↓reduceIte, reduceCtorEq, reduceEqDiff, reduceAdd, reduceMul, reduceSub, reduceLeDiff, reduceEq, reduceLT, reduceLE, go_sem]) | (refine Z5 rfl ?_; with_reducible first | refine condQ_T ?_ | refine condQ_F ?_) | refine Z6 ?_ | refine Z8 ?_ | refine Z9 fun _ _ => ?_ | refine Za ‹_› ?_ | refine Zc ‹_› trivial ?_ | refine Zf ‹_› ?_ | fail
    rw [one (.inr (.inr (.inl rfl)))]
    rfl
  by_cases k9 : k = 9
  · subst k9
    have h := hp ⟨9, a, 0, 0, 0, 0, 0, 0, 0, .empty⟩
    refine PCon.enter tb_ok (fn := Tryd.f57) (by kernel_rfl) (by kernel_rfl) rfl (by show 1 ≤ 104; decide) ?_
    repeat' first | refine Z1 fun _ _ => ?_ | refine Z2 ‹_› ?_ | ((first | refine Z3 tb_ok lv57 rfl ?_ | refine ret_eq rfl ?_); simp only [↓reduceIte, reduceCtorEq, reduceEqDiff, reduceAdd, reduceMul, reduceSub, reduceLeDiff, reduceEq, reduceLT, reduceLE, go_sem]) | (refine Z5 rfl ?_; with_reducible first | refine condQ_T ?_ | refine condQ_F ?_) | refine Z6 ?_ | refine Z8 ?_ | refine Z9 fun _ _ => ?_ | refine Za ‹_› ?_ | refine Zc ‹_› trivial ?_ | refine Zf ‹_› ?_ | fail
    refine call_pure rfl rfl (h) ?_; simp only [↓reduceIte, reduceCtorEq, reduceEqDiff, reduceAdd, reduceMul, reduceSub, reduceLeDiff, reduceEq, reduceLT, reduceLE, go_sem]
    repeat' first | refine Z1 fun _ _ => ?_ | refine Z2 ‹_› ?_ | ((first | refine Z3 tb_ok lv57 rfl ?_ | refine ret_eq rfl ?_); simp only [↓reduceIte, reduceCtorEq, reduceEqDiff, reduceAdd, reduceMul, reduceSub, reduceLeDiff, reduceEq, reduceLT, reduceLE, go_sem]) | (refine Z5 rfl ?_; with_reducible first | refine condQ_T ?_ | refine condQ_F ?_) | refine Z6 ?_ | refine Z8 ?_ | refine Z9 fun _ _ => ?_ | refine Za ‹_› ?_ | refine Zc ‹_› trivial ?_ | refine Zf ‹_› ?_ | fail
    rw [one (.inr (.inr (.inr rfl)))]
    rfl
  by_cases k7 : k = 7
  · subst k7
    have h := hp ⟨7, a, 0, lo, hi, 0, 0, 0, 0, .empty⟩
    rw [one (.inr (.inl rfl))]
    have hf : fitsB ⟨7, a, b, lo, hi, c0, c1, c2, c3, tx⟩ = (plainB ⟨7, a, b, lo, hi, c0, c1, c2, c3, tx⟩ ⟨7, a, 0, lo, hi, 0, 0, 0, 0, .empty⟩ && (decide (0 ≤ lo) && (decide (lo ≤ hi) && decide (hi ≤ 255)))) := rfl
    rw [hf]
    generalize hb : plainB ⟨7, a, b, lo, hi, c0, c1, c2, c3, tx⟩ ⟨7, a, 0, lo, hi, 0, 0, 0, 0, .empty⟩ = b1 at h
    refine PCon.enter tb_ok (fn := Tryd.f57) (by kernel_rfl) (by kernel_rfl) rfl (by show 1 ≤ 104; decide) ?_
    repeat' first | refine Z1 fun _ _ => ?_ | refine Z2 ‹_› ?_ | ((first | refine Z3 tb_ok lv57 rfl ?_ | refine ret_eq rfl ?_); simp only [↓reduceIte, reduceCtorEq, reduceEqDiff, reduceAdd, reduceMul, reduceSub, reduceLeDiff, reduceEq, reduceLT, reduceLE, go_sem]) | (refine Z5 rfl ?_; with_reducible first | refine condQ_T ?_ | refine condQ_F ?_) | refine Z6 ?_ | refine Z8 ?_ | refine Z9 fun _ _ => ?_ | refine Za ‹_› ?_ | refine Zc ‹_› trivial ?_ | refine Zf ‹_› ?_ | fail
    refine call_pure rfl rfl (h) ?_; simp only [↓reduceIte, reduceCtorEq, reduceEqDiff, reduceAdd, reduceMul, reduceSub, reduceLeDiff, reduceEq, reduceLT, reduceLE, go_sem]
    repeat' first | refine Z1 fun _ _ => ?_ | refine Z2 ‹_› ?_ | ((first | refine Z3 tb_ok lv57 rfl ?_ | refine ret_eq rfl ?_); simp only [↓reduceIte, reduceCtorEq, reduceEqDiff, reduceAdd, reduceMul, reduceSub, reduceLeDiff, reduceEq, reduceLT, reduceLE, go_sem]) | (refine Z5 rfl ?_; with_reducible first | refine condQ_T ?_ | refine condQ_F ?_) | refine Z6 ?_ | refine Z8 ?_ | refine Z9 fun _ _ => ?_ | refine Za ‹_› ?_ | refine Zc ‹_› trivial ?_ | refine Zf ‹_› ?_ | fail
    refine .split rfl (fun g1 => ?_) (fun g1 => ?_) <;> simp only [↓reduceIte, reduceCtorEq, reduceEqDiff, reduceAdd, reduceMul, reduceSub, reduceLeDiff, reduceEq, reduceLT, reduceLE, go_sem, g1]
    · refine .split rfl (fun g2 => ?_) (fun g2 => ?_) <;> simp only [↓reduceIte, reduceCtorEq, reduceEqDiff, reduceAdd, reduceMul, reduceSub, reduceLeDiff, reduceEq, reduceLT, reduceLE, go_sem, g2]
      · refine .split rfl (fun g3 => ?_) (fun g3 => ?_) <;> simp only [↓reduceIte, reduceCtorEq, reduceEqDiff, reduceAdd, reduceMul, reduceSub, reduceLeDiff, reduceEq, reduceLT, reduceLE, go_sem, g3]
        · repeat' first | refine Z1 fun _ _ => ?_ | refine Z2 ‹_› ?_ | ((first | refine Z3 tb_ok lv57 rfl ?_ | refine ret_eq rfl ?_); simp only [↓reduceIte, reduceCtorEq, reduceEqDiff, reduceAdd, reduceMul, reduceSub, reduceLeDiff, reduceEq, reduceLT, reduceLE, go_sem]) | (refine Z5 rfl ?_; with_reducible first | refine condQ_T ?_ | refine condQ_F ?_) | refine Z6 ?_ | refine Z8 ?_ | refine Z9 fun _ _ => ?_ | refine Za ‹_› ?_ | refine Zc ‹_› trivial ?_ | refine Zf ‹_› ?_ | fail
          rw [g1, g2, g3]
          rfl
        · repeat' first | refine Z1 fun _ _ => ?_ | refine Z2 ‹_› ?_ | ((first | refine Z3 tb_ok lv57 rfl ?_ | refine ret_eq rfl ?_); simp only [↓reduceIte, reduceCtorEq, reduceEqDiff, reduceAdd, reduceMul, reduceSub, reduceLeDiff, reduceEq, reduceLT, reduceLE, go_sem]) | (refine Z5 rfl ?_; with_reducible first | refine condQ_T ?_ | refine condQ_F ?_) | refine Z6 ?_ | refine Z8 ?_ | refine Z9 fun _ _ => ?_ | refine Za ‹_› ?_ | refine Zc ‹_› trivial ?_ | refine Zf ‹_› ?_ | fail
          rw [g1, g2, g3]
          rfl
      · repeat' first | refine Z1 fun _ _ => ?_ | refine Z2 ‹_› ?_ | ((first | refine Z3 tb_ok lv57 rfl ?_ | refine ret_eq rfl ?_); simp only [↓reduceIte, reduceCtorEq, reduceEqDiff, reduceAdd, reduceMul, reduceSub, reduceLeDiff, reduceEq, reduceLT, reduceLE, go_sem]) | (refine Z5 rfl ?_; with_reducible first | refine condQ_T ?_ | refine condQ_F ?_) | refine Z6 ?_ | refine Z8 ?_ | refine Z9 fun _ _ => ?_ | refine Za ‹_› ?_ | refine Zc ‹_› trivial ?_ | refine Zf ‹_› ?_ | fail
        rw [g1, g2]
        rfl
    · repeat' first | refine Z1 fun _ _ => ?_ | refine Z2 ‹_› ?_ | ((first | refine Z3 tb_ok lv57 rfl ?_ | refine ret_eq rfl ?_); simp only [↓reduceIte, reduceCtorEq, reduceEqDiff, reduceAdd, reduceMul, reduceSub, reduceLeDiff, reduceEq, reduceLT, reduceLE, go_sem]) | (refine Z5 rfl ?_; with_reducible first | refine condQ_T ?_ | refine condQ_F ?_) | refine Z6 ?_ | refine Z8 ?_ | refine Z9 fun _ _ => ?_ | refine Za ‹_› ?_ | refine Zc ‹_› trivial ?_ | refine Zf ‹_› ?_ | fail
      rw [g1]
      rfl
  by_cases k45 : k = 4 ∨ k = 5
  · rw [shape_two k45]
    rcases k45 with rfl | rfl
    all_goals
      refine PCon.enter tb_ok (fn := Tryd.f57) (by kernel_rfl) (by kernel_rfl) rfl (by show 1 ≤ 104; decide) ?_
      repeat' first | refine Z1 fun _ _ => ?_ | refine Z2 ‹_› ?_ | ((first | refine Z3 tb_ok lv57 rfl ?_ | refine ret_eq rfl ?_); simp only [↓reduceIte, reduceCtorEq, reduceEqDiff, reduceAdd, reduceMul, reduceSub, reduceLeDiff, reduceEq, reduceLT, reduceLE, go_sem]) | (refine Z5 rfl ?_; with_reducible first | refine condQ_T ?_ | refine condQ_F ?_) | refine Z6 ?_ | refine Z8 ?_ | refine Z9 fun _ _ => ?_ | refine Za ‹_› ?_ | refine Zc ‹_› trivial ?_ | refine Zf ‹_› ?_ | fail
  · rw [shape_no (by simp only; omega)]
    have d1 : decide (k = 1) = false := decide_eq_false k1
    have d2 : decide (k = 2) = false := decide_eq_false k2
    have d3 : decide (k = 3) = false := decide_eq_false k3
    have d4 : decide (k = 4) = false := decide_eq_false (by omega)
    have d5 : decide (k = 5) = false := decide_eq_false (by omega)
    have d6 : decide (k = 6) = false := decide_eq_false k6
    have d7 : decide (k = 7) = false := decide_eq_false k7
    have d8 : decide (k = 8) = false := decide_eq_false k8
    have d9 : decide (k = 9) = false := decide_eq_false k9
    refine PCon.enter tb_ok (fn := Tryd.f57) (by kernel_rfl) (by kernel_rfl) rfl (by show 1 ≤ 104; decide) ?_
    repeat' first | refine Z1 fun _ _ => ?_ | refine Z2 ‹_› ?_ | ((first | refine Z3 tb_ok lv57 rfl ?_ | refine ret_eq rfl ?_); simp only [↓reduceIte, reduceCtorEq, reduceEqDiff, reduceAdd, reduceMul, reduceSub, reduceLeDiff, reduceEq, reduceLT, reduceLE, go_sem]) | (refine Z5 rfl ?_; with_reducible first | refine condQ_T ?_ | refine condQ_F ?_) | refine Z6 ?_ | refine Z8 ?_ | refine Z9 fun _ _ => ?_ | refine Za ‹_› ?_ | refine Zc ‹_› trivial ?_ | refine Zf ‹_› ?_ | fail
    iterate 9
      refine .cond rfl (fun g => absurd (of_decide_eq_true g) (by omega)) (fun _ => ?_)
      repeat' first | refine Z1 fun _ _ => ?_ | refine Z2 ‹_› ?_ | ((first | refine Z3 tb_ok lv57 rfl ?_ | refine ret_eq rfl ?_); simp only [↓reduceIte, reduceCtorEq, reduceEqDiff, reduceAdd, reduceMul, reduceSub, reduceLeDiff, reduceEq, reduceLT, reduceLE, go_sem]) | (refine Z5 rfl ?_; with_reducible first | refine condQ_T ?_ | refine condQ_F ?_) | refine Z6 ?_ | refine Z8 ?_ | refine Z9 fun _ _ => ?_ | refine Za ‹_› ?_ | refine Zc ‹_› trivial ?_ | refine Zf ‹_› ?_ | fail
end Go.Proofs.YtoidlnhgaaohdaaDoor
