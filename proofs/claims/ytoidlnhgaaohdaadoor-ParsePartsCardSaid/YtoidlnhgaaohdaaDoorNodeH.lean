/- slices.Grow, slices.Concat, of nodes. -/
import Derived.Test.YtoidlnhgaaohdaaDoorNodeG
namespace Go.Proofs.YtoidlnhgaaohdaaDoor
set_option linter.all false
open Go Go.RowKit
open Nat (reduceEqDiff reduceAdd reduceMul reduceSub reduceLeDiff)
open Int (reduceEq reduceLT reduceLE)

@[go_sem] def lv55 : List (Nat × List Nat) := [(0, [0, 1]), (1, [0, 1, 6]), (2, [0, 1]), (3, [0, 1]), (4, [0, 1, 16]), (5, [0]), (6, [4])]
def bs55 : List (Nat × List Nat × List Nat) := []
set_option maxRecDepth 4000 in
theorem c_grow {gl} {n : Int} (h0 : 0 ≤ n) (h1 : n ≤ 4194304) : PConR Tryd.prog gl 55 [.nils, .int .i64 n] 43 10 [] := by
  refine PConR.enter (fn := Tryd.f55) (by kernel_rfl) (by kernel_rfl) rfl (by show 2 ≤ 27; decide) ?_
  repeat' first | refine Z1 fun _ _ => ?_ | refine Z2 ‹_› ?_ | ((first | refine Z3 tb_ok lv55 rfl ?_ | refine ret_eq rfl ?_); simp only [↓reduceIte, reduceCtorEq, reduceEqDiff, reduceAdd, reduceMul, reduceSub, reduceLeDiff, reduceEq, reduceLT, reduceLE, go_sem]) | (refine Z5 rfl ?_; with_reducible first | refine condQ_T ?_ | refine condQ_F ?_) | refine Z6 ?_ | refine Z8 ?_ | refine Zc ‹_› trivial ?_ | fail
  have k0 : decide (n < 0) = false := by simp; omega
  simp only [↓reduceIte, reduceCtorEq, reduceEqDiff, reduceAdd, reduceMul, reduceSub, reduceLeDiff, reduceEq, reduceLT, reduceLE, go_sem, k0]
  repeat' first | refine Z1 fun _ _ => ?_ | refine Z2 ‹_› ?_ | ((first | refine Z3 tb_ok lv55 rfl ?_ | refine ret_eq rfl ?_); simp only [↓reduceIte, reduceCtorEq, reduceEqDiff, reduceAdd, reduceMul, reduceSub, reduceLeDiff, reduceEq, reduceLT, reduceLE, go_sem]) | (refine Z5 rfl ?_; with_reducible first | refine condQ_T ?_ | refine condQ_F ?_) | refine Z6 ?_ | refine Z8 ?_ | refine Zc ‹_› trivial ?_ | fail
  have kw : IntKind.i64.wrap (n - IntKind.i64.wrap (0 - ((0 : Nat) : Int))) = n := by
    rw [show IntKind.i64.wrap (0 - ((0 : Nat) : Int)) = 0 from rfl, wrap64 (by omega) (by omega)]; omega
  rw [kw]
  rcases (by omega : n = 0 ∨ 0 < n) with rfl | hp
  · simp only [↓reduceIte, reduceCtorEq, reduceEqDiff, reduceAdd, reduceMul, reduceSub, reduceLeDiff, reduceEq, reduceLT, reduceLE, go_sem]
    repeat' first | refine Z1 fun _ _ => ?_ | refine Z2 ‹_› ?_ | ((first | refine Z3 tb_ok lv55 rfl ?_ | refine ret_eq rfl ?_); simp only [↓reduceIte, reduceCtorEq, reduceEqDiff, reduceAdd, reduceMul, reduceSub, reduceLeDiff, reduceEq, reduceLT, reduceLE, go_sem]) | (refine Z5 rfl ?_; with_reducible first | refine condQ_T ?_ | refine condQ_F ?_) | refine Z6 ?_ | refine Z8 ?_ | refine Zc ‹_› trivial ?_ | fail
    exact ⟨rfl, by decide⟩
  · have k1 : decide (0 < n) = true := by simp; omega
    simp only [↓reduceIte, reduceCtorEq, reduceEqDiff, reduceAdd, reduceMul, reduceSub, reduceLeDiff, reduceEq, reduceLT, reduceLE, go_sem, k1]
    repeat' first | refine Z1 fun _ _ => ?_ | refine Z2 ‹_› ?_ | ((first | refine Z3 tb_ok lv55 rfl ?_ | refine ret_eq rfl ?_); simp only [↓reduceIte, reduceCtorEq, reduceEqDiff, reduceAdd, reduceMul, reduceSub, reduceLeDiff, reduceEq, reduceLT, reduceLE, go_sem]) | (refine Z5 rfl ?_; with_reducible first | refine condQ_T ?_ | refine condQ_F ?_) | refine Z6 ?_ | refine Z8 ?_ | refine Zc ‹_› trivial ?_ | fail
    refine ⟨by omega, hp, by omega, by omega, by omega, by omega, ?_⟩
    repeat' first | refine Z1 fun _ _ => ?_ | refine Z2 ‹_› ?_ | ((first | refine Z3 tb_ok lv55 rfl ?_ | refine ret_eq rfl ?_); simp only [↓reduceIte, reduceCtorEq, reduceEqDiff, reduceAdd, reduceMul, reduceSub, reduceLeDiff, reduceEq, reduceLT, reduceLE, go_sem]) | (refine Z5 rfl ?_; with_reducible first | refine condQ_T ?_ | refine condQ_F ?_) | refine Z6 ?_ | refine Z8 ?_ | refine Zc ‹_› trivial ?_ | fail
    exact rfl
theorem take_succ_flat {ll : List (List Nd)} {i : Nat} (h : i < ll.length) : (ll.take (i + 1)).flatten = (ll.take i).flatten ++ ll.getD i [] := by
  rw [List.take_add_one, List.getD_eq_getElem?_getD, List.getElem?_eq_getElem h, List.flatten_append]
  simp
theorem take_flat_len {ll : List (List Nd)} (i : Nat) : (ll.take i).flatten.length ≤ ll.flatten.length := by
  have h : (ll.take i ++ ll.drop i).flatten = _ := List.flatten_append
  rw [List.take_append_drop] at h
  rw [h, List.length_append]
  omega
@[go_sem] def lv43 : List (Nat × List Nat) := [(0, [0]), (1, [0, 3]), (2, [0, 3, 9, 10, 11]), (3, [0, 3, 9, 10, 11, 12]), (4, [0, 3, 5, 9, 10, 11]), (5, [0, 3, 9, 10, 11]), (6, [0, 3, 9, 10, 11, 20]), (7, [0, 3, 9, 10, 11]), (8, [0, 3, 9, 10, 11]), (9, [0, 6]), (10, [6, 25, 26, 27]), (11, [6, 25, 26, 27, 28]), (12, [6, 8, 25, 26, 27]), (13, [6, 25, 26, 27]), (14, [6, 25, 26, 27]), (15, [2])]
def bs43 : List (Nat × List Nat × List Nat) := []
set_option maxRecDepth 4000 in
theorem c_concat {gl} {ll : List (List Nd)} (hb : ll.flatten.length ≤ 4194304) (hl : ll.length ≤ 4194304) : PConR Tryd.prog gl 43 [.slice (ll.map fun l => [nds l])] 43 10 (ll.flatten.map Nd.cells) := by
  refine PConR.enter (fn := Tryd.f43) (by kernel_rfl) (by kernel_rfl) rfl (by show 1 ≤ 36; decide) ?_
  repeat' first | refine Z1 fun _ _ => ?_ | refine Z2 ‹_› ?_ | ((first | refine Z3 tb_ok lv43 rfl ?_ | refine ret_eq rfl ?_); simp only [↓reduceIte, reduceCtorEq, reduceEqDiff, reduceAdd, reduceMul, reduceSub, reduceLeDiff, reduceEq, reduceLT, reduceLE, go_sem]) | (refine Z5 rfl ?_; with_reducible first | refine condQ_T ?_ | refine condQ_F ?_) | refine Z6 ?_ | refine Z7 ?_ | refine Z8 ?_ | refine Z9 fun _ _ => ?_ | refine Za ‹_› ?_ | refine Zb ‹_› ?_ | refine Zc ‹_› trivial ?_ | refine Zd ‹_› trivial ?_ | refine Ze ‹_› trivial ?_ | refine Zf ‹_› ?_ | refine Zl ‹_› (by decide) ?_ | fail
  refine .loopC (α := Nat) (fun i => ⟨[(0, .d (.slice (ll.map fun l => [nds l]))), (3, .d (.int .i64 (ll.take i).flatten.length)), (9, .d (.slice (ll.map fun l => [nds l]))), (10, .d (.int .i64 ll.length)), (11, .d (.int .i64 i))], [], 0⟩) (fun i => i ≤ ll.length) (fun i => ll.length - i) 0 (by omega) (by simp only [↓reduceIte, reduceCtorEq, reduceEqDiff, reduceAdd, reduceMul, reduceSub, reduceLeDiff, reduceEq, reduceLT, reduceLE, go_sem]; simp) ?_
  intro i hi Q hQ
  repeat' first | refine Z1 fun _ _ => ?_ | refine Z2 ‹_› ?_ | ((first | refine Z3 tb_ok lv43 rfl ?_ | refine ret_eq rfl ?_); simp only [↓reduceIte, reduceCtorEq, reduceEqDiff, reduceAdd, reduceMul, reduceSub, reduceLeDiff, reduceEq, reduceLT, reduceLE, go_sem]) | (refine Z5 rfl ?_; with_reducible first | refine condQ_T ?_ | refine condQ_F ?_) | refine Z6 ?_ | refine Z7 ?_ | refine Z8 ?_ | refine Z9 fun _ _ => ?_ | refine Za ‹_› ?_ | refine Zb ‹_› ?_ | refine Zc ‹_› trivial ?_ | refine Zd ‹_› trivial ?_ | refine Ze ‹_› trivial ?_ | refine Zf ‹_› ?_ | refine Zl ‹_› (by decide) ?_ | fail
  refine .cond rfl (fun h => ?_) (fun h => ?_)
  · simp only [decide_eq_true_eq] at h
    have hlt : i < ll.length := by omega
    have ts := take_succ_flat hlt
    have tl := take_flat_len (ll := ll) (i + 1)
    have tsl : (ll.take (i + 1)).flatten.length = (ll.take i).flatten.length + (ll.getD i []).length := by rw [ts, List.length_append]
    repeat' first | refine Z1 fun _ _ => ?_ | refine Z2 ‹_› ?_ | ((first | refine Z3 tb_ok lv43 rfl ?_ | refine ret_eq rfl ?_); simp only [↓reduceIte, reduceCtorEq, reduceEqDiff, reduceAdd, reduceMul, reduceSub, reduceLeDiff, reduceEq, reduceLT, reduceLE, go_sem]) | (refine Z5 rfl ?_; with_reducible first | refine condQ_T ?_ | refine condQ_F ?_) | refine Z6 ?_ | refine Z7 ?_ | refine Z8 ?_ | refine Z9 fun _ _ => ?_ | refine Za ‹_› ?_ | refine Zb ‹_› ?_ | refine Zc ‹_› trivial ?_ | refine Zd ‹_› trivial ?_ | refine Ze ‹_› trivial ?_ | refine Zf ‹_› ?_ | refine Zl ‹_› (by decide) ?_ | fail
    refine idx_map [] rfl rfl rfl rfl rfl (by omega) (by omega) rfl ?_
    simp only [↓reduceIte, reduceCtorEq, reduceEqDiff, reduceAdd, reduceMul, reduceSub, reduceLeDiff, reduceEq, reduceLT, reduceLE, go_sem]
    repeat' first | refine Z1 fun _ _ => ?_ | refine Z2 ‹_› ?_ | ((first | refine Z3 tb_ok lv43 rfl ?_ | refine ret_eq rfl ?_); simp only [↓reduceIte, reduceCtorEq, reduceEqDiff, reduceAdd, reduceMul, reduceSub, reduceLeDiff, reduceEq, reduceLT, reduceLE, go_sem]) | (refine Z5 rfl ?_; with_reducible first | refine condQ_T ?_ | refine condQ_F ?_) | refine Z6 ?_ | refine Z7 ?_ | refine Z8 ?_ | refine Z9 fun _ _ => ?_ | refine Za ‹_› ?_ | refine Zb ‹_› ?_ | refine Zc ‹_› trivial ?_ | refine Zd ‹_› trivial ?_ | refine Ze ‹_› trivial ?_ | refine Zf ‹_› ?_ | refine Zl ‹_› (by decide) ?_ | fail
    have w1 : IntKind.i64.wrap ((ll.take i).flatten.length + (ll.getD i []).length : Int) = ((ll.take (i + 1)).flatten.length : Nat) := by
      rw [tsl, wrap64 (by omega) (by omega)]; omega
    rw [w1]
    have k1 : decide ((((ll.take (i + 1)).flatten.length : Nat) : Int) < 0) = false := by simp
    simp only [↓reduceIte, reduceCtorEq, reduceEqDiff, reduceAdd, reduceMul, reduceSub, reduceLeDiff, reduceEq, reduceLT, reduceLE, go_sem, k1]
    repeat' first | refine Z1 fun _ _ => ?_ | refine Z2 ‹_› ?_ | ((first | refine Z3 tb_ok lv43 rfl ?_ | refine ret_eq rfl ?_); simp only [↓reduceIte, reduceCtorEq, reduceEqDiff, reduceAdd, reduceMul, reduceSub, reduceLeDiff, reduceEq, reduceLT, reduceLE, go_sem]) | (refine Z5 rfl ?_; with_reducible first | refine condQ_T ?_ | refine condQ_F ?_) | refine Z6 ?_ | refine Z7 ?_ | refine Z8 ?_ | refine Z9 fun _ _ => ?_ | refine Za ‹_› ?_ | refine Zb ‹_› ?_ | refine Zc ‹_› trivial ?_ | refine Zd ‹_› trivial ?_ | refine Ze ‹_› trivial ?_ | refine Zf ‹_› ?_ | refine Zl ‹_› (by decide) ?_ | fail
    rw [wrap64 (by omega) (by omega)]
    exact hQ.next (i + 1) (by omega) (by omega) (by simp only [↓reduceIte, reduceCtorEq, reduceEqDiff, reduceAdd, reduceMul, reduceSub, reduceLeDiff, reduceEq, reduceLT, reduceLE, go_sem]; simp)
  · simp only [decide_eq_false_iff_not] at h
    have ei : i = ll.length := by omega
    subst ei
    repeat' first | refine Z1 fun _ _ => ?_ | refine Z2 ‹_› ?_ | ((first | refine Z3 tb_ok lv43 rfl ?_ | refine ret_eq rfl ?_); simp only [↓reduceIte, reduceCtorEq, reduceEqDiff, reduceAdd, reduceMul, reduceSub, reduceLeDiff, reduceEq, reduceLT, reduceLE, go_sem]) | (refine Z5 rfl ?_; with_reducible first | refine condQ_T ?_ | refine condQ_F ?_) | refine Z6 ?_ | refine Z7 ?_ | refine Z8 ?_ | refine Z9 fun _ _ => ?_ | refine Za ‹_› ?_ | refine Zb ‹_› ?_ | refine Zc ‹_› trivial ?_ | refine Zd ‹_› trivial ?_ | refine Ze ‹_› trivial ?_ | refine Zf ‹_› ?_ | refine Zl ‹_› (by decide) ?_ | fail
    rw [List.take_length]
    refine call_nilR rfl rfl rfl (c_grow (by omega) (by omega)) ?_; simp only [↓reduceIte, reduceCtorEq, reduceEqDiff, reduceAdd, reduceMul, reduceSub, reduceLeDiff, reduceEq, reduceLT, reduceLE, go_sem]
    repeat' first | refine Z1 fun _ _ => ?_ | refine Z2 ‹_› ?_ | ((first | refine Z3 tb_ok lv43 rfl ?_ | refine ret_eq rfl ?_); simp only [↓reduceIte, reduceCtorEq, reduceEqDiff, reduceAdd, reduceMul, reduceSub, reduceLeDiff, reduceEq, reduceLT, reduceLE, go_sem]) | (refine Z5 rfl ?_; with_reducible first | refine condQ_T ?_ | refine condQ_F ?_) | refine Z6 ?_ | refine Z7 ?_ | refine Z8 ?_ | refine Z9 fun _ _ => ?_ | refine Za ‹_› ?_ | refine Zb ‹_› ?_ | refine Zc ‹_› trivial ?_ | refine Zd ‹_› trivial ?_ | refine Ze ‹_› trivial ?_ | refine Zf ‹_› ?_ | refine Zl ‹_› (by decide) ?_ | fail
    refine .loopS (α := Nat) (fun i => ⟨[(6, .own 2), (25, .d (.slice (ll.map fun l => [nds l]))), (26, .d (.int .i64 ll.length)), (27, .d (.int .i64 i))], [(2, .row true 43 10 ((ll.take i).flatten.map Nd.cells))], 3⟩) (fun i => i ≤ ll.length) (fun i => ll.length - i) 0 (by omega) [] rfl (by simp only [↓reduceIte, reduceCtorEq, reduceEqDiff, reduceAdd, reduceMul, reduceSub, reduceLeDiff, reduceEq, reduceLT, reduceLE, go_sem]; simp) ?_
    intro i hi Q hQ
    repeat' first | refine Z1 fun _ _ => ?_ | refine Z2 ‹_› ?_ | ((first | refine Z3 tb_ok lv43 rfl ?_ | refine ret_eq rfl ?_); simp only [↓reduceIte, reduceCtorEq, reduceEqDiff, reduceAdd, reduceMul, reduceSub, reduceLeDiff, reduceEq, reduceLT, reduceLE, go_sem]) | (refine Z5 rfl ?_; with_reducible first | refine condQ_T ?_ | refine condQ_F ?_) | refine Z6 ?_ | refine Z7 ?_ | refine Z8 ?_ | refine Z9 fun _ _ => ?_ | refine Za ‹_› ?_ | refine Zb ‹_› ?_ | refine Zc ‹_› trivial ?_ | refine Zd ‹_› trivial ?_ | refine Ze ‹_› trivial ?_ | refine Zf ‹_› ?_ | refine Zl ‹_› (by decide) ?_ | fail
    refine .cond rfl (fun h => ?_) (fun h => ?_)
    · simp only [decide_eq_true_eq] at h
      have hlt : i < ll.length := by omega
      have ts := take_succ_flat hlt
      have tl := take_flat_len (ll := ll) (i + 1)
      have tsl : (ll.take (i + 1)).flatten.length = (ll.take i).flatten.length + (ll.getD i []).length := by rw [ts, List.length_append]
      have tm : (ll.take (i + 1)).flatten.map Nd.cells = (ll.take i).flatten.map Nd.cells ++ (ll.getD i []).map Nd.cells := by rw [ts, List.map_append]
      repeat' first | refine Z1 fun _ _ => ?_ | refine Z2 ‹_› ?_ | ((first | refine Z3 tb_ok lv43 rfl ?_ | refine ret_eq rfl ?_); simp only [↓reduceIte, reduceCtorEq, reduceEqDiff, reduceAdd, reduceMul, reduceSub, reduceLeDiff, reduceEq, reduceLT, reduceLE, go_sem]) | (refine Z5 rfl ?_; with_reducible first | refine condQ_T ?_ | refine condQ_F ?_) | refine Z6 ?_ | refine Z7 ?_ | refine Z8 ?_ | refine Z9 fun _ _ => ?_ | refine Za ‹_› ?_ | refine Zb ‹_› ?_ | refine Zc ‹_› trivial ?_ | refine Zd ‹_› trivial ?_ | refine Ze ‹_› trivial ?_ | refine Zf ‹_› ?_ | refine Zl ‹_› (by decide) ?_ | fail
      refine idx_map [] rfl rfl rfl rfl rfl (by omega) (by omega) rfl ?_
      simp only [↓reduceIte, reduceCtorEq, reduceEqDiff, reduceAdd, reduceMul, reduceSub, reduceLeDiff, reduceEq, reduceLT, reduceLE, go_sem]
      repeat' first | refine Z1 fun _ _ => ?_ | refine Z2 ‹_› ?_ | ((first | refine Z3 tb_ok lv43 rfl ?_ | refine ret_eq rfl ?_); simp only [↓reduceIte, reduceCtorEq, reduceEqDiff, reduceAdd, reduceMul, reduceSub, reduceLeDiff, reduceEq, reduceLT, reduceLE, go_sem]) | (refine Z5 rfl ?_; with_reducible first | refine condQ_T ?_ | refine condQ_F ?_) | refine Z6 ?_ | refine Z7 ?_ | refine Z8 ?_ | refine Z9 fun _ _ => ?_ | refine Za ‹_› ?_ | refine Zb ‹_› ?_ | refine Zc ‹_› trivial ?_ | refine Zd ‹_› trivial ?_ | refine Ze ‹_› trivial ?_ | refine Zf ‹_› ?_ | refine Zl ‹_› (by decide) ?_ | fail
      refine ⟨fun e he => by obtain ⟨n, _, rfl⟩ := List.mem_map.1 he; rfl, by omega, by omega, ?_⟩
      repeat' first | refine Z1 fun _ _ => ?_ | refine Z2 ‹_› ?_ | ((first | refine Z3 tb_ok lv43 rfl ?_ | refine ret_eq rfl ?_); simp only [↓reduceIte, reduceCtorEq, reduceEqDiff, reduceAdd, reduceMul, reduceSub, reduceLeDiff, reduceEq, reduceLT, reduceLE, go_sem]) | (refine Z5 rfl ?_; with_reducible first | refine condQ_T ?_ | refine condQ_F ?_) | refine Z6 ?_ | refine Z7 ?_ | refine Z8 ?_ | refine Z9 fun _ _ => ?_ | refine Za ‹_› ?_ | refine Zb ‹_› ?_ | refine Zc ‹_› trivial ?_ | refine Zd ‹_› trivial ?_ | refine Ze ‹_› trivial ?_ | refine Zf ‹_› ?_ | refine Zl ‹_› (by decide) ?_ | fail
      rw [wrap64 (by omega) (by omega)]
      exact hQ.next (i + 1) [(9, 2)] (by omega) (by omega) rfl (by simp only [↓reduceIte, reduceCtorEq, reduceEqDiff, reduceAdd, reduceMul, reduceSub, reduceLeDiff, reduceEq, reduceLT, reduceLE, go_sem, tm]; simp)
    · simp only [decide_eq_false_iff_not] at h
      have ei : i = ll.length := by omega
      subst ei
      repeat' first | refine Z1 fun _ _ => ?_ | refine Z2 ‹_› ?_ | ((first | refine Z3 tb_ok lv43 rfl ?_ | refine ret_eq rfl ?_); simp only [↓reduceIte, reduceCtorEq, reduceEqDiff, reduceAdd, reduceMul, reduceSub, reduceLeDiff, reduceEq, reduceLT, reduceLE, go_sem]) | (refine Z5 rfl ?_; with_reducible first | refine condQ_T ?_ | refine condQ_F ?_) | refine Z6 ?_ | refine Z7 ?_ | refine Z8 ?_ | refine Z9 fun _ _ => ?_ | refine Za ‹_› ?_ | refine Zb ‹_› ?_ | refine Zc ‹_› trivial ?_ | refine Zd ‹_› trivial ?_ | refine Ze ‹_› trivial ?_ | refine Zf ‹_› ?_ | refine Zl ‹_› (by decide) ?_ | fail
      rw [List.take_length]
      exact rfl
end Go.Proofs.YtoidlnhgaaohdaaDoor
