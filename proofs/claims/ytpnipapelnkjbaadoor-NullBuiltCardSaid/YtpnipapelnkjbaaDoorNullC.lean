/- null.First, Right. -/
import Derived.Test.YtpnipapelnkjbaaDoorNullB
namespace Go.Proofs.YtpnipapelnkjbaaDoor
set_option linter.all false
open Go Go.RowKit
open Nat (reduceEqDiff reduceAdd reduceMul reduceSub reduceLeDiff)
open Int (reduceEq reduceLT reduceLE)

@[go_sem] def lv17 : List (Nat × List Nat) := [(0, [1]), (1, [1, 7, 8, 9]), (2, [1, 7, 8, 9, 10]), (3, [1, 4, 5, 7, 8, 9]), (4, [1, 4, 7, 8, 9, 28]), (5, [2, 3]), (6, [1, 7, 8, 9]), (7, [2, 3])]
def bs17 : List (Nat × List Nat × List Nat) := []
set_option maxRecDepth 4000 in
set_option maxHeartbeats 4000000 in
theorem c_nfirst8 {gl} {l : List Nd} (hl : l.length ≤ 1048576) {t : T} (hs : Sits l 0 t) (hn : t.n = l.length) (hok : t.ok txtOk) : PCon Tryd.prog gl 17 [desc l] (.tup [.int .i64 (f8 l l.length 0).1, .bool (f8 l l.length 0).2]) := by
  refine PCon.enter tb_ok (fn := Tryd.f17) (by kernel_rfl) (by kernel_rfl) rfl (by show 1 ≤ 31; decide) ?_
  repeat' first | refine Z1 fun _ _ => ?_ | refine Z2 ‹_› ?_ | ((first | refine Z3 tb_ok lv17 rfl ?_ | refine ret_eq rfl ?_); simp only [↓reduceIte, reduceCtorEq, reduceEqDiff, reduceAdd, reduceMul, reduceSub, reduceLeDiff, reduceEq, reduceLT, reduceLE, go_sem]) | (refine Z5 rfl ?_; with_reducible first | refine condQ_T ?_ | refine condQ_F ?_) | refine Z6 ?_ | refine Z7 ?_ | refine Z8 ?_ | refine Z9 fun _ _ => ?_ | refine Za ‹_› ?_ | refine Zb ‹_› ?_ | refine Zc ‹_› trivial ?_ | refine Zd ‹_› trivial ?_ | refine Ze ‹_› trivial ?_ | refine Zf ‹_› ?_ | refine Zl ‹_› (by decide) ?_ | fail
  refine .loopC (α := Nat) (fun i => ⟨[(1, .ref 0 0), (7, .d (nds l)), (8, .d (.int .i64 l.length)), (9, .d (.int .i64 i))], [(0, .box true [.d (nds l)])], 1⟩) (fun i => i ≤ l.length ∧ f8 l l.length 0 = f8 l (l.length - i) i) (fun i => l.length - i) 0 ⟨by omega, rfl⟩ (by simp only [↓reduceIte, reduceCtorEq, reduceEqDiff, reduceAdd, reduceMul, reduceSub, reduceLeDiff, reduceEq, reduceLT, reduceLE, go_sem]; simp) ?_
  rintro i ⟨hi, hf⟩ Q hQ
  repeat' first | refine Z1 fun _ _ => ?_ | refine Z2 ‹_› ?_ | ((first | refine Z3 tb_ok lv17 rfl ?_ | refine ret_eq rfl ?_); simp only [↓reduceIte, reduceCtorEq, reduceEqDiff, reduceAdd, reduceMul, reduceSub, reduceLeDiff, reduceEq, reduceLT, reduceLE, go_sem]) | (refine Z5 rfl ?_; with_reducible first | refine condQ_T ?_ | refine condQ_F ?_) | refine Z6 ?_ | refine Z7 ?_ | refine Z8 ?_ | refine Z9 fun _ _ => ?_ | refine Za ‹_› ?_ | refine Zb ‹_› ?_ | refine Zc ‹_› trivial ?_ | refine Zd ‹_› trivial ?_ | refine Ze ‹_› trivial ?_ | refine Zf ‹_› ?_ | refine Zl ‹_› (by decide) ?_ | fail
  refine .cond rfl (fun hc => ?_) (fun hc => ?_)
  · simp only [decide_eq_true_eq] at hc
    obtain ⟨t', off, q1, q2, q3, _⟩ := sits_sub t hs hok (i := i) (by omega) (by omega)
    have hp' := t'.n_pos
    have hr := q1.getD Nd.z
    rw [show off + (t'.n - 1) = i by omega] at hr
    have wi : IntKind.i64.wrap ((i : Int) + 1) = ((i + 1 : Nat) : Int) := wrap64 (by omega) (by omega)
    rw [show l.length - i = (l.length - (i + 1)) + 1 by omega, f8] at hf
    have next : badAt l i = false → f8 l l.length 0 = f8 l (l.length - (i + 1)) (i + 1) := fun h => by rw [hf, if_neg (by rw [h]; simp)]
    repeat' first | refine Z1 fun _ _ => ?_ | refine Z2 ‹_› ?_ | ((first | refine Z3 tb_ok lv17 rfl ?_ | refine ret_eq rfl ?_); simp only [↓reduceIte, reduceCtorEq, reduceEqDiff, reduceAdd, reduceMul, reduceSub, reduceLeDiff, reduceEq, reduceLT, reduceLE, go_sem]) | (refine Z5 rfl ?_; with_reducible first | refine condQ_T ?_ | refine condQ_F ?_) | refine Z6 ?_ | refine Z7 ?_ | refine Z8 ?_ | refine Z9 fun _ _ => ?_ | refine Za ‹_› ?_ | refine Zb ‹_› ?_ | refine Zc ‹_› trivial ?_ | refine Zd ‹_› trivial ?_ | refine Ze ‹_› trivial ?_ | refine Zf ‹_› ?_ | refine Zl ‹_› (by decide) ?_ | fail
    refine idx_map Nd.z rfl rfl rfl rfl rfl (by omega) (by omega) rfl ?_
    simp only [Int.toNat_natCast, hr]
    simp only [↓reduceIte, reduceCtorEq, reduceEqDiff, reduceAdd, reduceMul, reduceSub, reduceLeDiff, reduceEq, reduceLT, reduceLE, go_sem]
    cases t' with
    | void =>
      have hb : badAt l i = false := by unfold badAt; rw [hr]; simp [T.root]
      simp only [T.root]
      try (simp only [↓reduceIte, reduceCtorEq, reduceEqDiff, reduceAdd, reduceMul, reduceSub, reduceLeDiff, reduceEq, reduceLT, reduceLE, go_sem])
      repeat' first | refine Z1 fun _ _ => ?_ | refine Z2 ‹_› ?_ | ((first | refine Z3 tb_ok lv17 rfl ?_ | refine ret_eq rfl ?_); simp only [↓reduceIte, reduceCtorEq, reduceEqDiff, reduceAdd, reduceMul, reduceSub, reduceLeDiff, reduceEq, reduceLT, reduceLE, go_sem]) | (refine Z5 rfl ?_; with_reducible first | refine condQ_T ?_ | refine condQ_F ?_) | refine Z6 ?_ | refine Z7 ?_ | refine Z8 ?_ | refine Z9 fun _ _ => ?_ | refine Za ‹_› ?_ | refine Zb ‹_› ?_ | refine Zc ‹_› trivial ?_ | refine Zd ‹_› trivial ?_ | refine Ze ‹_› trivial ?_ | refine Zf ‹_› ?_ | refine Zl ‹_› (by decide) ?_ | fail
      rw [wi]
      exact hQ.next (i + 1) ⟨by omega, next hb⟩ (by omega) (by simp only [↓reduceIte, reduceCtorEq, reduceEqDiff, reduceAdd, reduceMul, reduceSub, reduceLeDiff, reduceEq, reduceLT, reduceLE, go_sem]; try simp)
    | bytes c0 c1 c2 c3 =>
      have hb : badAt l i = false := by unfold badAt; rw [hr]; simp [T.root]
      simp only [T.root]
      try (simp only [↓reduceIte, reduceCtorEq, reduceEqDiff, reduceAdd, reduceMul, reduceSub, reduceLeDiff, reduceEq, reduceLT, reduceLE, go_sem])
      repeat' first | refine Z1 fun _ _ => ?_ | refine Z2 ‹_› ?_ | ((first | refine Z3 tb_ok lv17 rfl ?_ | refine ret_eq rfl ?_); simp only [↓reduceIte, reduceCtorEq, reduceEqDiff, reduceAdd, reduceMul, reduceSub, reduceLeDiff, reduceEq, reduceLT, reduceLE, go_sem]) | (refine Z5 rfl ?_; with_reducible first | refine condQ_T ?_ | refine condQ_F ?_) | refine Z6 ?_ | refine Z7 ?_ | refine Z8 ?_ | refine Z9 fun _ _ => ?_ | refine Za ‹_› ?_ | refine Zb ‹_› ?_ | refine Zc ‹_› trivial ?_ | refine Zd ‹_› trivial ?_ | refine Ze ‹_› trivial ?_ | refine Zf ‹_› ?_ | refine Zl ‹_› (by decide) ?_ | fail
      rw [wi]
      exact hQ.next (i + 1) ⟨by omega, next hb⟩ (by omega) (by simp only [↓reduceIte, reduceCtorEq, reduceEqDiff, reduceAdd, reduceMul, reduceSub, reduceLeDiff, reduceEq, reduceLT, reduceLE, go_sem]; try simp)
    | text s =>
      have hb : badAt l i = false := by unfold badAt; rw [hr]; simp [T.root]
      simp only [T.root]
      try (simp only [↓reduceIte, reduceCtorEq, reduceEqDiff, reduceAdd, reduceMul, reduceSub, reduceLeDiff, reduceEq, reduceLT, reduceLE, go_sem])
      repeat' first | refine Z1 fun _ _ => ?_ | refine Z2 ‹_› ?_ | ((first | refine Z3 tb_ok lv17 rfl ?_ | refine ret_eq rfl ?_); simp only [↓reduceIte, reduceCtorEq, reduceEqDiff, reduceAdd, reduceMul, reduceSub, reduceLeDiff, reduceEq, reduceLT, reduceLE, go_sem]) | (refine Z5 rfl ?_; with_reducible first | refine condQ_T ?_ | refine condQ_F ?_) | refine Z6 ?_ | refine Z7 ?_ | refine Z8 ?_ | refine Z9 fun _ _ => ?_ | refine Za ‹_› ?_ | refine Zb ‹_› ?_ | refine Zc ‹_› trivial ?_ | refine Zd ‹_› trivial ?_ | refine Ze ‹_› trivial ?_ | refine Zf ‹_› ?_ | refine Zl ‹_› (by decide) ?_ | fail
      rw [wi]
      exact hQ.next (i + 1) ⟨by omega, next hb⟩ (by omega) (by simp only [↓reduceIte, reduceCtorEq, reduceEqDiff, reduceAdd, reduceMul, reduceSub, reduceLeDiff, reduceEq, reduceLT, reduceLE, go_sem]; try simp)
    | two q a b =>
      rcases q3.1 with rfl | rfl
      · have hb : badAt l i = false := by unfold badAt; rw [hr]; simp [T.root]
        simp only [T.root]
        try (simp only [↓reduceIte, reduceCtorEq, reduceEqDiff, reduceAdd, reduceMul, reduceSub, reduceLeDiff, reduceEq, reduceLT, reduceLE, go_sem])
        repeat' first | refine Z1 fun _ _ => ?_ | refine Z2 ‹_› ?_ | ((first | refine Z3 tb_ok lv17 rfl ?_ | refine ret_eq rfl ?_); simp only [↓reduceIte, reduceCtorEq, reduceEqDiff, reduceAdd, reduceMul, reduceSub, reduceLeDiff, reduceEq, reduceLT, reduceLE, go_sem]) | (refine Z5 rfl ?_; with_reducible first | refine condQ_T ?_ | refine condQ_F ?_) | refine Z6 ?_ | refine Z7 ?_ | refine Z8 ?_ | refine Z9 fun _ _ => ?_ | refine Za ‹_› ?_ | refine Zb ‹_› ?_ | refine Zc ‹_› trivial ?_ | refine Zd ‹_› trivial ?_ | refine Ze ‹_› trivial ?_ | refine Zf ‹_› ?_ | refine Zl ‹_› (by decide) ?_ | fail
        rw [wi]
        exact hQ.next (i + 1) ⟨by omega, next hb⟩ (by omega) (by simp only [↓reduceIte, reduceCtorEq, reduceEqDiff, reduceAdd, reduceMul, reduceSub, reduceLeDiff, reduceEq, reduceLT, reduceLE, go_sem]; try simp)
      · have hb : badAt l i = false := by unfold badAt; rw [hr]; simp [T.root]
        simp only [T.root]
        try (simp only [↓reduceIte, reduceCtorEq, reduceEqDiff, reduceAdd, reduceMul, reduceSub, reduceLeDiff, reduceEq, reduceLT, reduceLE, go_sem])
        repeat' first | refine Z1 fun _ _ => ?_ | refine Z2 ‹_› ?_ | ((first | refine Z3 tb_ok lv17 rfl ?_ | refine ret_eq rfl ?_); simp only [↓reduceIte, reduceCtorEq, reduceEqDiff, reduceAdd, reduceMul, reduceSub, reduceLeDiff, reduceEq, reduceLT, reduceLE, go_sem]) | (refine Z5 rfl ?_; with_reducible first | refine condQ_T ?_ | refine condQ_F ?_) | refine Z6 ?_ | refine Z7 ?_ | refine Z8 ?_ | refine Z9 fun _ _ => ?_ | refine Za ‹_› ?_ | refine Zb ‹_› ?_ | refine Zc ‹_› trivial ?_ | refine Zd ‹_› trivial ?_ | refine Ze ‹_› trivial ?_ | refine Zf ‹_› ?_ | refine Zl ‹_› (by decide) ?_ | fail
        rw [wi]
        exact hQ.next (i + 1) ⟨by omega, next hb⟩ (by omega) (by simp only [↓reduceIte, reduceCtorEq, reduceEqDiff, reduceAdd, reduceMul, reduceSub, reduceLeDiff, reduceEq, reduceLT, reduceLE, go_sem]; try simp)
    | one q lo hi a =>
      have pa := a.n_pos
      have bw := ways_bd q3.2
      have hwt := wayAt_tree a q1.one1 q3.2
      simp only [T.n] at q2
      rcases q3.1 with ⟨rfl | rfl | rfl, rfl, rfl⟩ | ⟨rfl, hkk⟩
      · have hb : badAt l i = !decide (a.ways = 0) := by
          unfold badAt
          rw [hr]
          simp only [T.root, Int.toNat_natCast, hwt]
          simp
        simp only [T.root]
        try (simp only [↓reduceIte, reduceCtorEq, reduceEqDiff, reduceAdd, reduceMul, reduceSub, reduceLeDiff, reduceEq, reduceLT, reduceLE, go_sem])
        repeat' first | refine Z1 fun _ _ => ?_ | refine Z2 ‹_› ?_ | ((first | refine Z3 tb_ok lv17 rfl ?_ | refine ret_eq rfl ?_); simp only [↓reduceIte, reduceCtorEq, reduceEqDiff, reduceAdd, reduceMul, reduceSub, reduceLeDiff, reduceEq, reduceLT, reduceLE, go_sem]) | (refine Z5 rfl ?_; with_reducible first | refine condQ_T ?_ | refine condQ_F ?_) | refine Z6 ?_ | refine Z7 ?_ | refine Z8 ?_ | refine Z9 fun _ _ => ?_ | refine Za ‹_› ?_ | refine Zb ‹_› ?_ | refine Zc ‹_› trivial ?_ | refine Zd ‹_› trivial ?_ | refine Ze ‹_› trivial ?_ | refine Zf ‹_› ?_ | refine Zl ‹_› (by decide) ?_ | fail
        refine call_pure rfl rfl (c_nways hl a q1.one1 q3.2) ?_; simp only [↓reduceIte, reduceCtorEq, reduceEqDiff, reduceAdd, reduceMul, reduceSub, reduceLeDiff, reduceEq, reduceLT, reduceLE, go_sem]
        repeat' first | refine Z1 fun _ _ => ?_ | refine Z2 ‹_› ?_ | ((first | refine Z3 tb_ok lv17 rfl ?_ | refine ret_eq rfl ?_); simp only [↓reduceIte, reduceCtorEq, reduceEqDiff, reduceAdd, reduceMul, reduceSub, reduceLeDiff, reduceEq, reduceLT, reduceLE, go_sem]) | (refine Z5 rfl ?_; with_reducible first | refine condQ_T ?_ | refine condQ_F ?_) | refine Z6 ?_ | refine Z7 ?_ | refine Z8 ?_ | refine Z9 fun _ _ => ?_ | refine Za ‹_› ?_ | refine Zb ‹_› ?_ | refine Zc ‹_› trivial ?_ | refine Zd ‹_› trivial ?_ | refine Ze ‹_› trivial ?_ | refine Zf ‹_› ?_ | refine Zl ‹_› (by decide) ?_ | fail
        refine .cond rfl (fun h5 => ?_) (fun h5 => ?_)
        · simp only [decide_eq_true_eq] at h5
          rw [decide_eq_false (by omega)] at hb
          repeat' first | refine Z1 fun _ _ => ?_ | refine Z2 ‹_› ?_ | ((first | refine Z3 tb_ok lv17 rfl ?_ | refine ret_eq rfl ?_); simp only [↓reduceIte, reduceCtorEq, reduceEqDiff, reduceAdd, reduceMul, reduceSub, reduceLeDiff, reduceEq, reduceLT, reduceLE, go_sem]) | (refine Z5 rfl ?_; with_reducible first | refine condQ_T ?_ | refine condQ_F ?_) | refine Z6 ?_ | refine Z7 ?_ | refine Z8 ?_ | refine Z9 fun _ _ => ?_ | refine Za ‹_› ?_ | refine Zb ‹_› ?_ | refine Zc ‹_› trivial ?_ | refine Zd ‹_› trivial ?_ | refine Ze ‹_› trivial ?_ | refine Zf ‹_› ?_ | refine Zl ‹_› (by decide) ?_ | fail
          rw [hf, if_pos (by rw [hb]; rfl)]
        · simp only [decide_eq_false_iff_not] at h5
          rw [decide_eq_true (by omega)] at hb
          repeat' first | refine Z1 fun _ _ => ?_ | refine Z2 ‹_› ?_ | ((first | refine Z3 tb_ok lv17 rfl ?_ | refine ret_eq rfl ?_); simp only [↓reduceIte, reduceCtorEq, reduceEqDiff, reduceAdd, reduceMul, reduceSub, reduceLeDiff, reduceEq, reduceLT, reduceLE, go_sem]) | (refine Z5 rfl ?_; with_reducible first | refine condQ_T ?_ | refine condQ_F ?_) | refine Z6 ?_ | refine Z7 ?_ | refine Z8 ?_ | refine Z9 fun _ _ => ?_ | refine Za ‹_› ?_ | refine Zb ‹_› ?_ | refine Zc ‹_› trivial ?_ | refine Zd ‹_› trivial ?_ | refine Ze ‹_› trivial ?_ | refine Zf ‹_› ?_ | refine Zl ‹_› (by decide) ?_ | fail
          rw [wi]
          exact hQ.next (i + 1) ⟨by omega, next (by rw [hb]; rfl)⟩ (by omega) (by simp only [↓reduceIte, reduceCtorEq, reduceEqDiff, reduceAdd, reduceMul, reduceSub, reduceLeDiff, reduceEq, reduceLT, reduceLE, go_sem]; try simp)
      · have hb : badAt l i = false := by unfold badAt; rw [hr]; simp [T.root]
        simp only [T.root]
        try (simp only [↓reduceIte, reduceCtorEq, reduceEqDiff, reduceAdd, reduceMul, reduceSub, reduceLeDiff, reduceEq, reduceLT, reduceLE, go_sem])
        repeat' first | refine Z1 fun _ _ => ?_ | refine Z2 ‹_› ?_ | ((first | refine Z3 tb_ok lv17 rfl ?_ | refine ret_eq rfl ?_); simp only [↓reduceIte, reduceCtorEq, reduceEqDiff, reduceAdd, reduceMul, reduceSub, reduceLeDiff, reduceEq, reduceLT, reduceLE, go_sem]) | (refine Z5 rfl ?_; with_reducible first | refine condQ_T ?_ | refine condQ_F ?_) | refine Z6 ?_ | refine Z7 ?_ | refine Z8 ?_ | refine Z9 fun _ _ => ?_ | refine Za ‹_› ?_ | refine Zb ‹_› ?_ | refine Zc ‹_› trivial ?_ | refine Zd ‹_› trivial ?_ | refine Ze ‹_› trivial ?_ | refine Zf ‹_› ?_ | refine Zl ‹_› (by decide) ?_ | fail
        rw [wi]
        exact hQ.next (i + 1) ⟨by omega, next hb⟩ (by omega) (by simp only [↓reduceIte, reduceCtorEq, reduceEqDiff, reduceAdd, reduceMul, reduceSub, reduceLeDiff, reduceEq, reduceLT, reduceLE, go_sem]; try simp)
      · have hb : badAt l i = false := by unfold badAt; rw [hr]; simp [T.root]
        simp only [T.root]
        try (simp only [↓reduceIte, reduceCtorEq, reduceEqDiff, reduceAdd, reduceMul, reduceSub, reduceLeDiff, reduceEq, reduceLT, reduceLE, go_sem])
        repeat' first | refine Z1 fun _ _ => ?_ | refine Z2 ‹_› ?_ | ((first | refine Z3 tb_ok lv17 rfl ?_ | refine ret_eq rfl ?_); simp only [↓reduceIte, reduceCtorEq, reduceEqDiff, reduceAdd, reduceMul, reduceSub, reduceLeDiff, reduceEq, reduceLT, reduceLE, go_sem]) | (refine Z5 rfl ?_; with_reducible first | refine condQ_T ?_ | refine condQ_F ?_) | refine Z6 ?_ | refine Z7 ?_ | refine Z8 ?_ | refine Z9 fun _ _ => ?_ | refine Za ‹_› ?_ | refine Zb ‹_› ?_ | refine Zc ‹_› trivial ?_ | refine Zd ‹_› trivial ?_ | refine Ze ‹_› trivial ?_ | refine Zf ‹_› ?_ | refine Zl ‹_› (by decide) ?_ | fail
        rw [wi]
        exact hQ.next (i + 1) ⟨by omega, next hb⟩ (by omega) (by simp only [↓reduceIte, reduceCtorEq, reduceEqDiff, reduceAdd, reduceMul, reduceSub, reduceLeDiff, reduceEq, reduceLT, reduceLE, go_sem]; try simp)
      · have hb : badAt l i = !decide (a.ways = 0) := by
          unfold badAt
          rw [hr]
          simp only [T.root, Int.toNat_natCast, hwt]
          simp
        simp only [T.root]
        try (simp only [↓reduceIte, reduceCtorEq, reduceEqDiff, reduceAdd, reduceMul, reduceSub, reduceLeDiff, reduceEq, reduceLT, reduceLE, go_sem])
        repeat' first | refine Z1 fun _ _ => ?_ | refine Z2 ‹_› ?_ | ((first | refine Z3 tb_ok lv17 rfl ?_ | refine ret_eq rfl ?_); simp only [↓reduceIte, reduceCtorEq, reduceEqDiff, reduceAdd, reduceMul, reduceSub, reduceLeDiff, reduceEq, reduceLT, reduceLE, go_sem]) | (refine Z5 rfl ?_; with_reducible first | refine condQ_T ?_ | refine condQ_F ?_) | refine Z6 ?_ | refine Z7 ?_ | refine Z8 ?_ | refine Z9 fun _ _ => ?_ | refine Za ‹_› ?_ | refine Zb ‹_› ?_ | refine Zc ‹_› trivial ?_ | refine Zd ‹_› trivial ?_ | refine Ze ‹_› trivial ?_ | refine Zf ‹_› ?_ | refine Zl ‹_› (by decide) ?_ | fail
        refine call_pure rfl rfl (c_nways hl a q1.one1 q3.2) ?_; simp only [↓reduceIte, reduceCtorEq, reduceEqDiff, reduceAdd, reduceMul, reduceSub, reduceLeDiff, reduceEq, reduceLT, reduceLE, go_sem]
        repeat' first | refine Z1 fun _ _ => ?_ | refine Z2 ‹_› ?_ | ((first | refine Z3 tb_ok lv17 rfl ?_ | refine ret_eq rfl ?_); simp only [↓reduceIte, reduceCtorEq, reduceEqDiff, reduceAdd, reduceMul, reduceSub, reduceLeDiff, reduceEq, reduceLT, reduceLE, go_sem]) | (refine Z5 rfl ?_; with_reducible first | refine condQ_T ?_ | refine condQ_F ?_) | refine Z6 ?_ | refine Z7 ?_ | refine Z8 ?_ | refine Z9 fun _ _ => ?_ | refine Za ‹_› ?_ | refine Zb ‹_› ?_ | refine Zc ‹_› trivial ?_ | refine Zd ‹_› trivial ?_ | refine Ze ‹_› trivial ?_ | refine Zf ‹_› ?_ | refine Zl ‹_› (by decide) ?_ | fail
        refine .cond rfl (fun h5 => ?_) (fun h5 => ?_)
        · simp only [decide_eq_true_eq] at h5
          rw [decide_eq_false (by omega)] at hb
          repeat' first | refine Z1 fun _ _ => ?_ | refine Z2 ‹_› ?_ | ((first | refine Z3 tb_ok lv17 rfl ?_ | refine ret_eq rfl ?_); simp only [↓reduceIte, reduceCtorEq, reduceEqDiff, reduceAdd, reduceMul, reduceSub, reduceLeDiff, reduceEq, reduceLT, reduceLE, go_sem]) | (refine Z5 rfl ?_; with_reducible first | refine condQ_T ?_ | refine condQ_F ?_) | refine Z6 ?_ | refine Z7 ?_ | refine Z8 ?_ | refine Z9 fun _ _ => ?_ | refine Za ‹_› ?_ | refine Zb ‹_› ?_ | refine Zc ‹_› trivial ?_ | refine Zd ‹_› trivial ?_ | refine Ze ‹_› trivial ?_ | refine Zf ‹_› ?_ | refine Zl ‹_› (by decide) ?_ | fail
          rw [hf, if_pos (by rw [hb]; rfl)]
        · simp only [decide_eq_false_iff_not] at h5
          rw [decide_eq_true (by omega)] at hb
          repeat' first | refine Z1 fun _ _ => ?_ | refine Z2 ‹_› ?_ | ((first | refine Z3 tb_ok lv17 rfl ?_ | refine ret_eq rfl ?_); simp only [↓reduceIte, reduceCtorEq, reduceEqDiff, reduceAdd, reduceMul, reduceSub, reduceLeDiff, reduceEq, reduceLT, reduceLE, go_sem]) | (refine Z5 rfl ?_; with_reducible first | refine condQ_T ?_ | refine condQ_F ?_) | refine Z6 ?_ | refine Z7 ?_ | refine Z8 ?_ | refine Z9 fun _ _ => ?_ | refine Za ‹_› ?_ | refine Zb ‹_› ?_ | refine Zc ‹_› trivial ?_ | refine Zd ‹_› trivial ?_ | refine Ze ‹_› trivial ?_ | refine Zf ‹_› ?_ | refine Zl ‹_› (by decide) ?_ | fail
          rw [wi]
          exact hQ.next (i + 1) ⟨by omega, next (by rw [hb]; rfl)⟩ (by omega) (by simp only [↓reduceIte, reduceCtorEq, reduceEqDiff, reduceAdd, reduceMul, reduceSub, reduceLeDiff, reduceEq, reduceLT, reduceLE, go_sem]; try simp)
  · simp only [decide_eq_false_iff_not] at hc
    obtain rfl : i = l.length := by omega
    rw [Nat.sub_self, f8] at hf
    repeat' first | refine Z1 fun _ _ => ?_ | refine Z2 ‹_› ?_ | ((first | refine Z3 tb_ok lv17 rfl ?_ | refine ret_eq rfl ?_); simp only [↓reduceIte, reduceCtorEq, reduceEqDiff, reduceAdd, reduceMul, reduceSub, reduceLeDiff, reduceEq, reduceLT, reduceLE, go_sem]) | (refine Z5 rfl ?_; with_reducible first | refine condQ_T ?_ | refine condQ_F ?_) | refine Z6 ?_ | refine Z7 ?_ | refine Z8 ?_ | refine Z9 fun _ _ => ?_ | refine Za ‹_› ?_ | refine Zb ‹_› ?_ | refine Zc ‹_› trivial ?_ | refine Zd ‹_› trivial ?_ | refine Ze ‹_› trivial ?_ | refine Zf ‹_› ?_ | refine Zl ‹_› (by decide) ?_ | fail
    rw [hf]

/-- No star, and no repeat, of what may be nothing. -/
def T.good : T → Bool
  | .void => true
  | .bytes .. => true
  | .text _ => true
  | .two _ a b => a.good && b.good
  | .one k _ _ a => a.good && !((decide (k = 6) || decide (k = 7)) && !decide (a.ways = 0))
theorem f8_iff {l : List Nd} : ∀ (m i : Nat), (f8 l m i).2 = true ↔ ∃ j, i ≤ j ∧ j < i + m ∧ badAt l j = true
  | 0, i => by
    simp only [f8]
    constructor
    · intro h; cases h
    · rintro ⟨j, h1, h2, _⟩; omega
  | m + 1, i => by
    simp only [f8]
    split
    · rename_i hb
      exact ⟨fun _ => ⟨i, by omega, by omega, hb⟩, fun _ => rfl⟩
    · rename_i hb
      rw [f8_iff m (i + 1)]
      constructor
      · rintro ⟨j, h1, h2, h3⟩; exact ⟨j, by omega, by omega, h3⟩
      · rintro ⟨j, h1, h2, h3⟩
        refine ⟨j, ?_, by omega, h3⟩
        rcases Nat.lt_or_eq_of_le h1 with h | h
        · exact h
        · subst h; exact absurd h3 hb
theorem bad_good {l : List Nd} : ∀ {t : T} {off : Nat}, Sits l off t → t.ok txtOk → ((∃ j, off ≤ j ∧ j < off + t.n ∧ badAt l j = true) ↔ t.good = false) := by
  have leaf : ∀ {off : Nat} {t : T}, t.n = 1 → Sits l off t → (t.root off).kind ≠ 6 → (t.root off).kind ≠ 7 → ¬ ∃ j, off ≤ j ∧ j < off + t.n ∧ badAt l j = true := fun {off t} h1 hs h6 h7 ⟨j, q1, q2, q3⟩ => by
    have hr := hs.getD Nd.z
    have : j = off + (t.n - 1) := by omega
    subst this
    unfold badAt at q3
    rw [hr] at q3
    simp [h6, h7] at q3
  intro t
  induction t with
  | void => intro off hs _; simp [T.good, leaf rfl hs (by simp [T.root]) (by simp [T.root])]
  | bytes c0 c1 c2 c3 => intro off hs _; simp [T.good, leaf rfl hs (by simp [T.root]) (by simp [T.root])]
  | text s => intro off hs _; simp [T.good, leaf rfl hs (by simp [T.root]) (by simp [T.root])]
  | two k a b iha ihb =>
    intro off hs hok
    have ia := iha hs.two1 hok.2.1
    have ib := ihb hs.two2 hok.2.2
    have hr := hs.getD Nd.z
    have hk := hok.1
    have hap := a.n_pos
    have hbp := b.n_pos
    have hroot : badAt l (off + ((T.two k a b).n - 1)) = false := by
      unfold badAt
      rw [hr]
      simp only [T.root]
      rcases hk with rfl | rfl <;> simp
    simp only [T.good, Bool.and_eq_false_iff, ← ia, ← ib, T.n] at hroot ⊢
    constructor
    · rintro ⟨j, h1, h2, h3⟩
      by_cases e1 : j < off + a.n
      · exact .inl ⟨j, h1, e1, h3⟩
      · by_cases e2 : j < off + a.n + b.n
        · exact .inr ⟨j, by omega, e2, h3⟩
        · rw [show off + (a.n + b.n + 1 - 1) = j by omega, h3] at hroot
          cases hroot
    · rintro (⟨j, h1, h2, h3⟩ | ⟨j, h1, h2, h3⟩)
      · exact ⟨j, h1, by omega, h3⟩
      · exact ⟨j, by omega, by omega, h3⟩
  | one k lo hi a iha =>
    intro off hs hok
    have ia := iha hs.one1 hok.2
    have hr := hs.getD Nd.z
    have hap := a.n_pos
    have hwt := wayAt_tree a hs.one1 hok.2
    have hroot : badAt l (off + ((T.one k lo hi a).n - 1)) = ((decide (k = 6) || decide (k = 7)) && !decide (a.ways = 0)) := by
      unfold badAt
      rw [hr]
      simp only [T.root, Int.toNat_natCast, hwt]
      rfl
    simp only [T.n] at hroot
    simp only [T.good, Bool.and_eq_false_iff, ← ia, ← hroot, T.n, Bool.not_eq_false']
    constructor
    · rintro ⟨j, h1, h2, h3⟩
      by_cases e1 : j < off + a.n
      · exact .inl ⟨j, h1, e1, h3⟩
      · rw [show j = off + (a.n + 1 - 1) by omega] at h3
        exact .inr h3
    · rintro (⟨j, h1, h2, h3⟩ | h3)
      · exact ⟨j, h1, by omega, h3⟩
      · exact ⟨_, by omega, by omega, h3⟩
theorem f8_good {t : T} (hok : t.ok txtOk) : (f8 (t.flat 0) (t.flat 0).length 0).2 = !t.good := by
  rw [Bool.eq_iff_iff, f8_iff, Bool.not_eq_true', T.flat_len]
  exact bad_good (sits_flat t) hok
theorem good_sub {l : List Nd} : ∀ {t : T} {off : Nat}, Sits l off t → t.ok txtOk → t.good = true → ∀ {t' : T} {off' : Nat}, Sits l off' t' → t'.ok txtOk → off ≤ off' → off' + t'.n ≤ off + t.n → t'.good = true := fun {t off} hs hok hg {t' off'} hs' hok' h1 h2 => by
  cases h : t'.good with
  | true => rfl
  | false =>
    obtain ⟨j, q1, q2, q3⟩ := (bad_good hs' hok').2 h
    have := (bad_good hs hok).1 ⟨j, by omega, by omega, q3⟩
    rw [hg] at this
    cases this
@[go_sem] def lv14 : List (Nat × List Nat) := [(0, [1]), (1, [1, 7]), (2, [2]), (3, [4]), (4, [2])]
def bs14 : List (Nat × List Nat × List Nat) := []
theorem c_nrightT {t : T} (hok : t.ok txtOk) (hn : t.n ≤ 1048576) : PCon Tryd.prog glU 14 [desc (t.flat 0)] (.bool t.good) := by
  have hlen := t.flat_len 0
  have h1 := c_nform (l := t.flat 0) (by omega) (flat_txD hok)
  rw [(frOk_iff (flat_txD hok)).2 ⟨t, rfl, hok⟩] at h1
  have h2 := c_nfirst8 (gl := glU) (l := t.flat 0) (by omega) (sits_flat t) hlen.symm hok
  rw [f8_good hok] at h2
  refine PCon.enter tb_ok (fn := Tryd.f14) (by kernel_rfl) (by kernel_rfl) rfl (by show 1 ≤ 15; decide) ?_
  repeat' first | refine Z1 fun _ _ => ?_ | refine Z2 ‹_› ?_ | ((first | refine Z3 tb_ok lv14 rfl ?_ | refine ret_eq rfl ?_); simp only [↓reduceIte, reduceCtorEq, reduceEqDiff, reduceAdd, reduceMul, reduceSub, reduceLeDiff, reduceEq, reduceLT, reduceLE, go_sem]) | (refine Z5 rfl ?_; with_reducible first | refine condQ_T ?_ | refine condQ_F ?_) | refine Z6 ?_ | refine Z8 ?_ | refine Zc ‹_› trivial ?_ | fail
  refine call_pure rfl rfl (h1) ?_; simp only [↓reduceIte, reduceCtorEq, reduceEqDiff, reduceAdd, reduceMul, reduceSub, reduceLeDiff, reduceEq, reduceLT, reduceLE, go_sem]
  repeat' first | refine Z1 fun _ _ => ?_ | refine Z2 ‹_› ?_ | ((first | refine Z3 tb_ok lv14 rfl ?_ | refine ret_eq rfl ?_); simp only [↓reduceIte, reduceCtorEq, reduceEqDiff, reduceAdd, reduceMul, reduceSub, reduceLeDiff, reduceEq, reduceLT, reduceLE, go_sem]) | (refine Z5 rfl ?_; with_reducible first | refine condQ_T ?_ | refine condQ_F ?_) | refine Z6 ?_ | refine Z8 ?_ | refine Zc ‹_› trivial ?_ | fail
  refine call_pure rfl rfl (h2) ?_; simp only [↓reduceIte, reduceCtorEq, reduceEqDiff, reduceAdd, reduceMul, reduceSub, reduceLeDiff, reduceEq, reduceLT, reduceLE, go_sem]
  repeat' first | refine Z1 fun _ _ => ?_ | refine Z2 ‹_› ?_ | ((first | refine Z3 tb_ok lv14 rfl ?_ | refine ret_eq rfl ?_); simp only [↓reduceIte, reduceCtorEq, reduceEqDiff, reduceAdd, reduceMul, reduceSub, reduceLeDiff, reduceEq, reduceLT, reduceLE, go_sem]) | (refine Z5 rfl ?_; with_reducible first | refine condQ_T ?_ | refine condQ_F ?_) | refine Z6 ?_ | refine Z8 ?_ | refine Zc ‹_› trivial ?_ | fail
  simp
theorem c_nrightF {l : List Nd} (hl : l.length ≤ 1048576) (htx : ∀ i, (l.getD i Nd.z).text.size ≤ 1048576) (hno : ∀ t : T, l = t.flat 0 → t.ok txtOk → False) : PCon Tryd.prog glU 14 [desc l] (.bool false) := by
  have h1 := c_nform hl htx
  have : frOk l = false := by
    cases hh : frOk l with
    | false => rfl
    | true => obtain ⟨t, h1, h2⟩ := (frOk_iff htx).1 hh; exact (hno t h1 h2).elim
  rw [this] at h1
  refine PCon.enter tb_ok (fn := Tryd.f14) (by kernel_rfl) (by kernel_rfl) rfl (by show 1 ≤ 15; decide) ?_
  repeat' first | refine Z1 fun _ _ => ?_ | refine Z2 ‹_› ?_ | ((first | refine Z3 tb_ok lv14 rfl ?_ | refine ret_eq rfl ?_); simp only [↓reduceIte, reduceCtorEq, reduceEqDiff, reduceAdd, reduceMul, reduceSub, reduceLeDiff, reduceEq, reduceLT, reduceLE, go_sem]) | (refine Z5 rfl ?_; with_reducible first | refine condQ_T ?_ | refine condQ_F ?_) | refine Z6 ?_ | refine Z8 ?_ | refine Zc ‹_› trivial ?_ | fail
  refine call_pure rfl rfl (h1) ?_; simp only [↓reduceIte, reduceCtorEq, reduceEqDiff, reduceAdd, reduceMul, reduceSub, reduceLeDiff, reduceEq, reduceLT, reduceLE, go_sem]
  repeat' first | refine Z1 fun _ _ => ?_ | refine Z2 ‹_› ?_ | ((first | refine Z3 tb_ok lv14 rfl ?_ | refine ret_eq rfl ?_); simp only [↓reduceIte, reduceCtorEq, reduceEqDiff, reduceAdd, reduceMul, reduceSub, reduceLeDiff, reduceEq, reduceLT, reduceLE, go_sem]) | (refine Z5 rfl ?_; with_reducible first | refine condQ_T ?_ | refine condQ_F ?_) | refine Z6 ?_ | refine Z8 ?_ | refine Zc ‹_› trivial ?_ | fail
theorem c_rrightT {gl} {t : T} (hok : t.ok txtOk) (hn : t.n ≤ 1048576) : PCon Tryd.prog gl 15 [desc (t.flat 0)] (.bool t.good) := by
  have hlen := t.flat_len 0
  obtain ⟨b, hb, hform⟩ := c_form (gl := gl) (l := t.flat 0) (by omega) (flat_txD hok)
  have hbt : b = true := hb.2 ⟨t, rfl, hok⟩
  subst hbt
  have h2 := c_first8 (gl := gl) (l := t.flat 0) (by omega) (sits_flat t) hlen.symm hok
  rw [f8_good hok] at h2
  refine PCon.enter tb_ok (fn := Tryd.f15) (by kernel_rfl) (by kernel_rfl) rfl (by show 1 ≤ 15; decide) ?_
  repeat' first | refine Z1 fun _ _ => ?_ | refine Z2 ‹_› ?_ | ((first | refine Z3 tb_ok lv15 rfl ?_ | refine ret_eq rfl ?_); simp only [↓reduceIte, reduceCtorEq, reduceEqDiff, reduceAdd, reduceMul, reduceSub, reduceLeDiff, reduceEq, reduceLT, reduceLE, go_sem]) | (refine Z5 rfl ?_; with_reducible first | refine condQ_T ?_ | refine condQ_F ?_) | refine Z6 ?_ | refine Z8 ?_ | refine Zc ‹_› trivial ?_ | fail
  refine call_pure rfl rfl (hform) ?_; simp only [↓reduceIte, reduceCtorEq, reduceEqDiff, reduceAdd, reduceMul, reduceSub, reduceLeDiff, reduceEq, reduceLT, reduceLE, go_sem]
  repeat' first | refine Z1 fun _ _ => ?_ | refine Z2 ‹_› ?_ | ((first | refine Z3 tb_ok lv15 rfl ?_ | refine ret_eq rfl ?_); simp only [↓reduceIte, reduceCtorEq, reduceEqDiff, reduceAdd, reduceMul, reduceSub, reduceLeDiff, reduceEq, reduceLT, reduceLE, go_sem]) | (refine Z5 rfl ?_; with_reducible first | refine condQ_T ?_ | refine condQ_F ?_) | refine Z6 ?_ | refine Z8 ?_ | refine Zc ‹_› trivial ?_ | fail
  refine call_pure rfl rfl (h2) ?_; simp only [↓reduceIte, reduceCtorEq, reduceEqDiff, reduceAdd, reduceMul, reduceSub, reduceLeDiff, reduceEq, reduceLT, reduceLE, go_sem]
  repeat' first | refine Z1 fun _ _ => ?_ | refine Z2 ‹_› ?_ | ((first | refine Z3 tb_ok lv15 rfl ?_ | refine ret_eq rfl ?_); simp only [↓reduceIte, reduceCtorEq, reduceEqDiff, reduceAdd, reduceMul, reduceSub, reduceLeDiff, reduceEq, reduceLT, reduceLE, go_sem]) | (refine Z5 rfl ?_; with_reducible first | refine condQ_T ?_ | refine condQ_F ?_) | refine Z6 ?_ | refine Z8 ?_ | refine Zc ‹_› trivial ?_ | fail
  simp
theorem c_rrightF {gl} {l : List Nd} (hl : l.length ≤ 1048576) (htx : ∀ i, (l.getD i Nd.z).text.size ≤ 1048576) (hno : ∀ t : T, l = t.flat 0 → t.ok txtOk → False) : PCon Tryd.prog gl 15 [desc l] (.bool false) := by
  obtain ⟨b, hb, hform⟩ := c_form (gl := gl) hl htx
  have hbf : b = false := by
    cases b with
    | false => rfl
    | true => obtain ⟨t, h1, h2⟩ := hb.1 rfl; exact (hno t h1 h2).elim
  subst hbf
  refine PCon.enter tb_ok (fn := Tryd.f15) (by kernel_rfl) (by kernel_rfl) rfl (by show 1 ≤ 15; decide) ?_
  repeat' first | refine Z1 fun _ _ => ?_ | refine Z2 ‹_› ?_ | ((first | refine Z3 tb_ok lv15 rfl ?_ | refine ret_eq rfl ?_); simp only [↓reduceIte, reduceCtorEq, reduceEqDiff, reduceAdd, reduceMul, reduceSub, reduceLeDiff, reduceEq, reduceLT, reduceLE, go_sem]) | (refine Z5 rfl ?_; with_reducible first | refine condQ_T ?_ | refine condQ_F ?_) | refine Z6 ?_ | refine Z8 ?_ | refine Zc ‹_› trivial ?_ | fail
  refine call_pure rfl rfl (hform) ?_; simp only [↓reduceIte, reduceCtorEq, reduceEqDiff, reduceAdd, reduceMul, reduceSub, reduceLeDiff, reduceEq, reduceLT, reduceLE, go_sem]
  repeat' first | refine Z1 fun _ _ => ?_ | refine Z2 ‹_› ?_ | ((first | refine Z3 tb_ok lv15 rfl ?_ | refine ret_eq rfl ?_); simp only [↓reduceIte, reduceCtorEq, reduceEqDiff, reduceAdd, reduceMul, reduceSub, reduceLeDiff, reduceEq, reduceLT, reduceLE, go_sem]) | (refine Z5 rfl ?_; with_reducible first | refine condQ_T ?_ | refine condQ_F ?_) | refine Z6 ?_ | refine Z8 ?_ | refine Zc ‹_› trivial ?_ | fail
end Go.Proofs.YtpnipapelnkjbaaDoor
