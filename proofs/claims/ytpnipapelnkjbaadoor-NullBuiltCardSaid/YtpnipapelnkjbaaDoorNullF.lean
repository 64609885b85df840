/- scantlinglaw08.NullBuilt. -/
import Derived.Test.YtpnipapelnkjbaaDoorNullE
namespace Go.Proofs.YtpnipapelnkjbaaDoor
set_option linter.all false
open Go Go.RowKit
open Nat (reduceEqDiff reduceAdd reduceMul reduceSub reduceLeDiff)
open Int (reduceEq reduceLT reduceLE)

theorem c_nwaysT {gl} {t : T} {i : Nat} (hok : t.ok txtOk) (hn : t.n ≤ 1048576) (hi : t.n = i + 1) : PCon Tryd.prog gl 19 [desc (t.flat 0), .int .i64 i] (.int .i64 t.ways) := by
  have h := c_nways (gl := gl) (l := t.flat 0) (by rw [T.flat_len]; exact hn) t (sits_flat t) hok
  rwa [show 0 + (t.n - 1) = i by omega] at h
@[go_sem] def lv5 : List (Nat × List Nat) := [(0, [1, 2]), (1, [1, 2, 23]), (2, [4]), (3, [1, 2, 5]), (4, [1, 2, 5, 6]), (5, [1, 2, 5, 6, 7]), (6, [1, 2, 5, 6, 7, 8]), (7, [1, 2, 5, 7, 8, 9]), (8, [1, 2, 5, 7, 8, 9, 10]), (9, [1, 2, 7, 8, 9, 10, 11]), (10, [1, 2, 8, 9, 69]), (11, [4]), (12, [4])]
def bs5 : List (Nat × List Nat × List Nat) := []
set_option maxRecDepth 4000 in
set_option maxHeartbeats 2000000 in
theorem c_nullBuilt {l : List Nd} (hl : l.length ≤ 140737488355328) (htx : ∀ i, (l.getD i Nd.z).text.size ≤ 140737488355328) {x : Int} (hx : 0 ≤ x) (hx' : x ≤ 255) : PCon Tryd.prog glU 5 [desc l, .int .u8 x] (.bool true) := by
  cases hfew : few l with
  | false =>
    refine PCon.enter tb_ok (fn := Tryd.f5) (by kernel_rfl) (by kernel_rfl) rfl (by show 2 ≤ 96; decide) ?_
    repeat' first | refine Z1 fun _ _ => ?_ | refine Z2 ‹_› ?_ | ((first | refine Z3 tb_ok lv5 rfl ?_ | refine ret_eq rfl ?_); simp only [↓reduceIte, reduceCtorEq, reduceEqDiff, reduceAdd, reduceMul, reduceSub, reduceLeDiff, reduceEq, reduceLT, reduceLE, go_sem]) | (refine Z5 rfl ?_; with_reducible first | refine condQ_T ?_ | refine condQ_F ?_) | refine Z6 ?_ | refine Z8 ?_ | refine Zc ‹_› trivial ?_ | fail
    refine call_pure rfl rfl (c_awake08) ?_; simp only [↓reduceIte, reduceCtorEq, reduceEqDiff, reduceAdd, reduceMul, reduceSub, reduceLeDiff, reduceEq, reduceLT, reduceLE, go_sem]
    repeat' first | refine Z1 fun _ _ => ?_ | refine Z2 ‹_› ?_ | ((first | refine Z3 tb_ok lv5 rfl ?_ | refine ret_eq rfl ?_); simp only [↓reduceIte, reduceCtorEq, reduceEqDiff, reduceAdd, reduceMul, reduceSub, reduceLeDiff, reduceEq, reduceLT, reduceLE, go_sem]) | (refine Z5 rfl ?_; with_reducible first | refine condQ_T ?_ | refine condQ_F ?_) | refine Z6 ?_ | refine Z8 ?_ | refine Zc ‹_› trivial ?_ | fail
    refine call_pure rfl rfl (c_fewB (by omega) hfew) ?_; simp only [↓reduceIte, reduceCtorEq, reduceEqDiff, reduceAdd, reduceMul, reduceSub, reduceLeDiff, reduceEq, reduceLT, reduceLE, go_sem]
    repeat' first | refine Z1 fun _ _ => ?_ | refine Z2 ‹_› ?_ | ((first | refine Z3 tb_ok lv5 rfl ?_ | refine ret_eq rfl ?_); simp only [↓reduceIte, reduceCtorEq, reduceEqDiff, reduceAdd, reduceMul, reduceSub, reduceLeDiff, reduceEq, reduceLT, reduceLE, go_sem]) | (refine Z5 rfl ?_; with_reducible first | refine condQ_T ?_ | refine condQ_F ?_) | refine Z6 ?_ | refine Z8 ?_ | refine Zc ‹_› trivial ?_ | fail
    refine call_pure rfl rfl (c_awake08) ?_; simp only [↓reduceIte, reduceCtorEq, reduceEqDiff, reduceAdd, reduceMul, reduceSub, reduceLeDiff, reduceEq, reduceLT, reduceLE, go_sem]
    repeat' first | refine Z1 fun _ _ => ?_ | refine Z2 ‹_› ?_ | ((first | refine Z3 tb_ok lv5 rfl ?_ | refine ret_eq rfl ?_); simp only [↓reduceIte, reduceCtorEq, reduceEqDiff, reduceAdd, reduceMul, reduceSub, reduceLeDiff, reduceEq, reduceLT, reduceLE, go_sem]) | (refine Z5 rfl ?_; with_reducible first | refine condQ_T ?_ | refine condQ_F ?_) | refine Z6 ?_ | refine Z8 ?_ | refine Zc ‹_› trivial ?_ | fail
  | true =>
    have hl0 := hl
    obtain ⟨hl, htx⟩ := few_small htx hfew
    obtain ⟨b, hb, hform⟩ := c_form (gl := glU) hl htx
    cases b
    · have hno : ∀ t : T, l = t.flat 0 → t.ok txtOk → False := fun t h1 h2 => by have := hb.2 ⟨t, h1, h2⟩; cases this
      refine PCon.enter tb_ok (fn := Tryd.f5) (by kernel_rfl) (by kernel_rfl) rfl (by show 2 ≤ 96; decide) ?_
      repeat' first | refine Z1 fun _ _ => ?_ | refine Z2 ‹_› ?_ | ((first | refine Z3 tb_ok lv5 rfl ?_ | refine ret_eq rfl ?_); simp only [↓reduceIte, reduceCtorEq, reduceEqDiff, reduceAdd, reduceMul, reduceSub, reduceLeDiff, reduceEq, reduceLT, reduceLE, go_sem]) | (refine Z5 rfl ?_; with_reducible first | refine condQ_T ?_ | refine condQ_F ?_) | refine Z6 ?_ | refine Z8 ?_ | refine Zc ‹_› trivial ?_ | fail
      refine call_pure rfl rfl (c_awake08) ?_; simp only [↓reduceIte, reduceCtorEq, reduceEqDiff, reduceAdd, reduceMul, reduceSub, reduceLeDiff, reduceEq, reduceLT, reduceLE, go_sem]
      repeat' first | refine Z1 fun _ _ => ?_ | refine Z2 ‹_› ?_ | ((first | refine Z3 tb_ok lv5 rfl ?_ | refine ret_eq rfl ?_); simp only [↓reduceIte, reduceCtorEq, reduceEqDiff, reduceAdd, reduceMul, reduceSub, reduceLeDiff, reduceEq, reduceLT, reduceLE, go_sem]) | (refine Z5 rfl ?_; with_reducible first | refine condQ_T ?_ | refine condQ_F ?_) | refine Z6 ?_ | refine Z8 ?_ | refine Zc ‹_› trivial ?_ | fail
      refine call_pure rfl rfl (c_fewB (by omega) hfew) ?_; simp only [↓reduceIte, reduceCtorEq, reduceEqDiff, reduceAdd, reduceMul, reduceSub, reduceLeDiff, reduceEq, reduceLT, reduceLE, go_sem]
      repeat' first | refine Z1 fun _ _ => ?_ | refine Z2 ‹_› ?_ | ((first | refine Z3 tb_ok lv5 rfl ?_ | refine ret_eq rfl ?_); simp only [↓reduceIte, reduceCtorEq, reduceEqDiff, reduceAdd, reduceMul, reduceSub, reduceLeDiff, reduceEq, reduceLT, reduceLE, go_sem]) | (refine Z5 rfl ?_; with_reducible first | refine condQ_T ?_ | refine condQ_F ?_) | refine Z6 ?_ | refine Z8 ?_ | refine Zc ‹_› trivial ?_ | fail
      refine call_pure rfl rfl (c_rrightF hl htx hno) ?_; simp only [↓reduceIte, reduceCtorEq, reduceEqDiff, reduceAdd, reduceMul, reduceSub, reduceLeDiff, reduceEq, reduceLT, reduceLE, go_sem]
      repeat' first | refine Z1 fun _ _ => ?_ | refine Z2 ‹_› ?_ | ((first | refine Z3 tb_ok lv5 rfl ?_ | refine ret_eq rfl ?_); simp only [↓reduceIte, reduceCtorEq, reduceEqDiff, reduceAdd, reduceMul, reduceSub, reduceLeDiff, reduceEq, reduceLT, reduceLE, go_sem]) | (refine Z5 rfl ?_; with_reducible first | refine condQ_T ?_ | refine condQ_F ?_) | refine Z6 ?_ | refine Z8 ?_ | refine Zc ‹_› trivial ?_ | fail
      refine call_pure rfl rfl (c_awake08) ?_; simp only [↓reduceIte, reduceCtorEq, reduceEqDiff, reduceAdd, reduceMul, reduceSub, reduceLeDiff, reduceEq, reduceLT, reduceLE, go_sem]
      repeat' first | refine Z1 fun _ _ => ?_ | refine Z2 ‹_› ?_ | ((first | refine Z3 tb_ok lv5 rfl ?_ | refine ret_eq rfl ?_); simp only [↓reduceIte, reduceCtorEq, reduceEqDiff, reduceAdd, reduceMul, reduceSub, reduceLeDiff, reduceEq, reduceLT, reduceLE, go_sem]) | (refine Z5 rfl ?_; with_reducible first | refine condQ_T ?_ | refine condQ_F ?_) | refine Z6 ?_ | refine Z8 ?_ | refine Zc ‹_› trivial ?_ | fail
    · obtain ⟨t, rfl, hok⟩ := hb.1 rfl
      have hp := t.n_pos
      have lt := T.flat_len t 0
      have h100 := few_len hfew
      have hright := c_rrightT (gl := glU) hok (by omega)
      cases hg : t.good
      · rw [hg] at hright
        refine PCon.enter tb_ok (fn := Tryd.f5) (by kernel_rfl) (by kernel_rfl) rfl (by show 2 ≤ 96; decide) ?_
        repeat' first | refine Z1 fun _ _ => ?_ | refine Z2 ‹_› ?_ | ((first | refine Z3 tb_ok lv5 rfl ?_ | refine ret_eq rfl ?_); simp only [↓reduceIte, reduceCtorEq, reduceEqDiff, reduceAdd, reduceMul, reduceSub, reduceLeDiff, reduceEq, reduceLT, reduceLE, go_sem]) | (refine Z5 rfl ?_; with_reducible first | refine condQ_T ?_ | refine condQ_F ?_) | refine Z6 ?_ | refine Z8 ?_ | refine Zc ‹_› trivial ?_ | fail
        refine call_pure rfl rfl (c_awake08) ?_; simp only [↓reduceIte, reduceCtorEq, reduceEqDiff, reduceAdd, reduceMul, reduceSub, reduceLeDiff, reduceEq, reduceLT, reduceLE, go_sem]
        repeat' first | refine Z1 fun _ _ => ?_ | refine Z2 ‹_› ?_ | ((first | refine Z3 tb_ok lv5 rfl ?_ | refine ret_eq rfl ?_); simp only [↓reduceIte, reduceCtorEq, reduceEqDiff, reduceAdd, reduceMul, reduceSub, reduceLeDiff, reduceEq, reduceLT, reduceLE, go_sem]) | (refine Z5 rfl ?_; with_reducible first | refine condQ_T ?_ | refine condQ_F ?_) | refine Z6 ?_ | refine Z8 ?_ | refine Zc ‹_› trivial ?_ | fail
        refine call_pure rfl rfl (c_fewB (by omega) hfew) ?_; simp only [↓reduceIte, reduceCtorEq, reduceEqDiff, reduceAdd, reduceMul, reduceSub, reduceLeDiff, reduceEq, reduceLT, reduceLE, go_sem]
        repeat' first | refine Z1 fun _ _ => ?_ | refine Z2 ‹_› ?_ | ((first | refine Z3 tb_ok lv5 rfl ?_ | refine ret_eq rfl ?_); simp only [↓reduceIte, reduceCtorEq, reduceEqDiff, reduceAdd, reduceMul, reduceSub, reduceLeDiff, reduceEq, reduceLT, reduceLE, go_sem]) | (refine Z5 rfl ?_; with_reducible first | refine condQ_T ?_ | refine condQ_F ?_) | refine Z6 ?_ | refine Z8 ?_ | refine Zc ‹_› trivial ?_ | fail
        refine call_pure rfl rfl (hright) ?_; simp only [↓reduceIte, reduceCtorEq, reduceEqDiff, reduceAdd, reduceMul, reduceSub, reduceLeDiff, reduceEq, reduceLT, reduceLE, go_sem]
        repeat' first | refine Z1 fun _ _ => ?_ | refine Z2 ‹_› ?_ | ((first | refine Z3 tb_ok lv5 rfl ?_ | refine ret_eq rfl ?_); simp only [↓reduceIte, reduceCtorEq, reduceEqDiff, reduceAdd, reduceMul, reduceSub, reduceLeDiff, reduceEq, reduceLT, reduceLE, go_sem]) | (refine Z5 rfl ?_; with_reducible first | refine condQ_T ?_ | refine condQ_F ?_) | refine Z6 ?_ | refine Z8 ?_ | refine Zc ‹_› trivial ?_ | fail
        refine call_pure rfl rfl (c_awake08) ?_; simp only [↓reduceIte, reduceCtorEq, reduceEqDiff, reduceAdd, reduceMul, reduceSub, reduceLeDiff, reduceEq, reduceLT, reduceLE, go_sem]
        repeat' first | refine Z1 fun _ _ => ?_ | refine Z2 ‹_› ?_ | ((first | refine Z3 tb_ok lv5 rfl ?_ | refine ret_eq rfl ?_); simp only [↓reduceIte, reduceCtorEq, reduceEqDiff, reduceAdd, reduceMul, reduceSub, reduceLeDiff, reduceEq, reduceLT, reduceLE, go_sem]) | (refine Z5 rfl ?_; with_reducible first | refine condQ_T ?_ | refine condQ_F ?_) | refine Z6 ?_ | refine Z8 ?_ | refine Zc ‹_› trivial ?_ | fail
      rw [hg] at hright
      have hw := ways_bd hok
      have o1 : (T.two 4 t uB).ok txtOk := ⟨.inl rfl, hok, trivial⟩
      have o2 : (T.two 5 t uE).ok txtOk := ⟨.inr rfl, hok, trivial⟩
      have o3 : (T.two 4 uE t).ok txtOk := ⟨.inl rfl, trivial, hok⟩
      have o4 : (T.one 6 0 0 t).ok txtOk := ⟨.inl ⟨.inl rfl, rfl, rfl⟩, hok⟩
      have o5 : (T.one 7 x 255 t).ok txtOk := ⟨.inr ⟨rfl, hx, by omega, by decide⟩, hok⟩
      have o6 : (T.one 8 0 0 t).ok txtOk := ⟨.inl ⟨.inr (.inl rfl), rfl, rfl⟩, hok⟩
      have o7 : (T.one 6 0 0 (T.two 4 t uB)).ok txtOk := ⟨.inl ⟨.inl rfl, rfl, rfl⟩, o1⟩
      have z1 : (T.two 4 t uB).ways = 0 := by
        have : (T.two 4 t uB).ways = min 2 (t.ways * 0) := rfl
        rw [this, Int.mul_zero]; rfl
      have z2 : (T.two 5 t uE).ways = min 2 (t.ways + 1) := rfl
      have z3 : (T.two 4 uE t).ways = t.ways := by
        have : (T.two 4 uE t).ways = min 2 (1 * t.ways) := rfl
        rw [this, Int.one_mul]; omega
      have g4 : (T.one 6 0 0 t).good = decide (t.ways = 0) := by simp [T.good, hg]
      have g5 : (T.one 7 x 255 t).good = decide (t.ways = 0) := by simp [T.good, hg]
      have g6 : (T.one 8 0 0 t).good = true := by simp [T.good, hg]
      have g7 : (T.one 6 0 0 (T.two 4 t uB)).good = true := by
        have : (T.two 4 t uB).good = true := by simp [T.good, hg]
        simp [T.good, hg, z1]
      have s4 : IntKind.i64.wrap ((t.n : Int) - 1) = ((0 + (t.n - 1) : Nat) : Int) := by rw [wrap64 (by omega) (by omega)]; omega
      have s5 : IntKind.i64.wrap ((t.n : Int) + 1) = ((t.n + 1 : Nat) : Int) := by rw [wrap64 (by omega) (by omega)]; omega
      refine PCon.enter tb_ok (fn := Tryd.f5) (by kernel_rfl) (by kernel_rfl) rfl (by show 2 ≤ 96; decide) ?_
      repeat' first | refine Z1 fun _ _ => ?_ | refine Z2 ‹_› ?_ | ((first | refine Z3 tb_ok lv5 rfl ?_ | refine ret_eq rfl ?_); simp only [↓reduceIte, reduceCtorEq, reduceEqDiff, reduceAdd, reduceMul, reduceSub, reduceLeDiff, reduceEq, reduceLT, reduceLE, go_sem]) | (refine Z5 rfl ?_; with_reducible first | refine condQ_T ?_ | refine condQ_F ?_) | refine Z6 ?_ | refine Z8 ?_ | refine Zc ‹_› trivial ?_ | fail
      refine call_pure rfl rfl (c_awake08) ?_; simp only [↓reduceIte, reduceCtorEq, reduceEqDiff, reduceAdd, reduceMul, reduceSub, reduceLeDiff, reduceEq, reduceLT, reduceLE, go_sem]
      repeat' first | refine Z1 fun _ _ => ?_ | refine Z2 ‹_› ?_ | ((first | refine Z3 tb_ok lv5 rfl ?_ | refine ret_eq rfl ?_); simp only [↓reduceIte, reduceCtorEq, reduceEqDiff, reduceAdd, reduceMul, reduceSub, reduceLeDiff, reduceEq, reduceLT, reduceLE, go_sem]) | (refine Z5 rfl ?_; with_reducible first | refine condQ_T ?_ | refine condQ_F ?_) | refine Z6 ?_ | refine Z8 ?_ | refine Zc ‹_› trivial ?_ | fail
      refine call_pure rfl rfl (c_fewB (by omega) hfew) ?_; simp only [↓reduceIte, reduceCtorEq, reduceEqDiff, reduceAdd, reduceMul, reduceSub, reduceLeDiff, reduceEq, reduceLT, reduceLE, go_sem]
      repeat' first | refine Z1 fun _ _ => ?_ | refine Z2 ‹_› ?_ | ((first | refine Z3 tb_ok lv5 rfl ?_ | refine ret_eq rfl ?_); simp only [↓reduceIte, reduceCtorEq, reduceEqDiff, reduceAdd, reduceMul, reduceSub, reduceLeDiff, reduceEq, reduceLT, reduceLE, go_sem]) | (refine Z5 rfl ?_; with_reducible first | refine condQ_T ?_ | refine condQ_F ?_) | refine Z6 ?_ | refine Z8 ?_ | refine Zc ‹_› trivial ?_ | fail
      refine call_pure rfl rfl (hright) ?_; simp only [↓reduceIte, reduceCtorEq, reduceEqDiff, reduceAdd, reduceMul, reduceSub, reduceLeDiff, reduceEq, reduceLT, reduceLE, go_sem]
      repeat' first | refine Z1 fun _ _ => ?_ | ((first | refine Z3 tb_ok lv5 rfl ?_ | refine ret_eq rfl ?_); simp only [↓reduceIte, reduceCtorEq, reduceEqDiff, reduceAdd, reduceMul, reduceSub, reduceLeDiff, reduceEq, reduceLT, reduceLE, go_sem]) | (refine Z5 rfl ?_; with_reducible first | refine condQ_T ?_ | refine condQ_F ?_) | refine Z6 ?_ | refine Z8 ?_ | refine Zc ‹_› trivial ?_ | fail
      refine Cut.go ‹_› ?_
      repeat' first | refine Z1 fun _ _ => ?_ | ((first | refine Z3 tb_ok lv5 rfl ?_ | refine ret_eq rfl ?_); simp only [↓reduceIte, reduceCtorEq, reduceEqDiff, reduceAdd, reduceMul, reduceSub, reduceLeDiff, reduceEq, reduceLT, reduceLE, go_sem]) | (refine Z5 rfl ?_; with_reducible first | refine condQ_T ?_ | refine condQ_F ?_) | refine Z6 ?_ | refine Z8 ?_ | refine Zc ‹_› trivial ?_ | fail
      refine Cut.go ‹_› ?_
      repeat' first | refine Z1 fun _ _ => ?_ | ((first | refine Z3 tb_ok lv5 rfl ?_ | refine ret_eq rfl ?_); simp only [↓reduceIte, reduceCtorEq, reduceEqDiff, reduceAdd, reduceMul, reduceSub, reduceLeDiff, reduceEq, reduceLT, reduceLE, go_sem]) | (refine Z5 rfl ?_; with_reducible first | refine condQ_T ?_ | refine condQ_F ?_) | refine Z6 ?_ | refine Z8 ?_ | refine Zc ‹_› trivial ?_ | fail
      refine Cut.go ‹_› ?_
      repeat' first | refine Z1 fun _ _ => ?_ | ((first | refine Z3 tb_ok lv5 rfl ?_ | refine ret_eq rfl ?_); simp only [↓reduceIte, reduceCtorEq, reduceEqDiff, reduceAdd, reduceMul, reduceSub, reduceLeDiff, reduceEq, reduceLT, reduceLE, go_sem]) | (refine Z5 rfl ?_; with_reducible first | refine condQ_T ?_ | refine condQ_F ?_) | refine Z6 ?_ | refine Z8 ?_ | refine Zc ‹_› trivial ?_ | fail
      refine Cut.go ‹_› ?_; refine .freeze 15 rfl rfl ?_; simp only [↓reduceIte, reduceCtorEq, reduceEqDiff, reduceAdd, reduceMul, reduceSub, reduceLeDiff, reduceEq, reduceLT, reduceLE, go_sem]; refine .freeze 20 rfl rfl ?_; simp only [↓reduceIte, reduceCtorEq, reduceEqDiff, reduceAdd, reduceMul, reduceSub, reduceLeDiff, reduceEq, reduceLT, reduceLE, go_sem]
      repeat' first | refine Z1 fun _ _ => ?_ | refine Z2 ‹_› ?_ | ((first | refine Z3 tb_ok lv5 rfl ?_ | refine ret_eq rfl ?_); simp only [↓reduceIte, reduceCtorEq, reduceEqDiff, reduceAdd, reduceMul, reduceSub, reduceLeDiff, reduceEq, reduceLT, reduceLE, go_sem]) | (refine Z5 rfl ?_; with_reducible first | refine condQ_T ?_ | refine condQ_F ?_) | refine Z6 ?_ | refine Z8 ?_ | refine Zc ‹_› trivial ?_ | fail
      simp only [↓reduceIte, reduceCtorEq, reduceEqDiff, reduceAdd, reduceMul, reduceSub, reduceLeDiff, reduceEq, reduceLT, reduceLE, go_sem, lt, s4]
      refine call_pure rfl rfl (c_nways hl t (sits_flat t) hok) ?_; simp only [↓reduceIte, reduceCtorEq, reduceEqDiff, reduceAdd, reduceMul, reduceSub, reduceLeDiff, reduceEq, reduceLT, reduceLE, go_sem]
      repeat' first | refine Z1 fun _ _ => ?_ | refine Z2 ‹_› ?_ | ((first | refine Z3 tb_ok lv5 rfl ?_ | refine ret_eq rfl ?_); simp only [↓reduceIte, reduceCtorEq, reduceEqDiff, reduceAdd, reduceMul, reduceSub, reduceLeDiff, reduceEq, reduceLT, reduceLE, go_sem]) | (refine Z5 rfl ?_; with_reducible first | refine condQ_T ?_ | refine condQ_F ?_) | refine Z6 ?_ | refine Z8 ?_ | refine Zc ‹_› trivial ?_ | fail
      refine call_pure rfl rfl (c_pair (a := t) (b := uB) (k := 4) (by omega) (by decide) hok (txt := txtOk) trivial) ?_; simp only [↓reduceIte, reduceCtorEq, reduceEqDiff, reduceAdd, reduceMul, reduceSub, reduceLeDiff, reduceEq, reduceLT, reduceLE, go_sem]
      repeat' first | refine Z1 fun _ _ => ?_ | refine Z2 ‹_› ?_ | ((first | refine Z3 tb_ok lv5 rfl ?_ | refine ret_eq rfl ?_); simp only [↓reduceIte, reduceCtorEq, reduceEqDiff, reduceAdd, reduceMul, reduceSub, reduceLeDiff, reduceEq, reduceLT, reduceLE, go_sem]) | (refine Z5 rfl ?_; with_reducible first | refine condQ_T ?_ | refine condQ_F ?_) | refine Z6 ?_ | refine Z8 ?_ | refine Zc ‹_› trivial ?_ | fail
      refine call_pure rfl rfl (c_pair (a := t) (b := uE) (k := 5) (by omega) (by decide) hok (txt := txtOk) trivial) ?_; simp only [↓reduceIte, reduceCtorEq, reduceEqDiff, reduceAdd, reduceMul, reduceSub, reduceLeDiff, reduceEq, reduceLT, reduceLE, go_sem]
      repeat' first | refine Z1 fun _ _ => ?_ | refine Z2 ‹_› ?_ | ((first | refine Z3 tb_ok lv5 rfl ?_ | refine ret_eq rfl ?_); simp only [↓reduceIte, reduceCtorEq, reduceEqDiff, reduceAdd, reduceMul, reduceSub, reduceLeDiff, reduceEq, reduceLT, reduceLE, go_sem]) | (refine Z5 rfl ?_; with_reducible first | refine condQ_T ?_ | refine condQ_F ?_) | refine Z6 ?_ | refine Z8 ?_ | refine Zc ‹_› trivial ?_ | fail
      refine call_pure rfl rfl (c_pair (a := uE) (b := t) (k := 4) (txt := txtOk) (by decide) (by omega) trivial hok) ?_; simp only [↓reduceIte, reduceCtorEq, reduceEqDiff, reduceAdd, reduceMul, reduceSub, reduceLeDiff, reduceEq, reduceLT, reduceLE, go_sem]
      repeat' first | refine Z1 fun _ _ => ?_ | refine Z2 ‹_› ?_ | ((first | refine Z3 tb_ok lv5 rfl ?_ | refine ret_eq rfl ?_); simp only [↓reduceIte, reduceCtorEq, reduceEqDiff, reduceAdd, reduceMul, reduceSub, reduceLeDiff, reduceEq, reduceLT, reduceLE, go_sem]) | (refine Z5 rfl ?_; with_reducible first | refine condQ_T ?_ | refine condQ_F ?_) | refine Z6 ?_ | refine Z8 ?_ | refine Zc ‹_› trivial ?_ | fail
      simp only [↓reduceIte, reduceCtorEq, reduceEqDiff, reduceAdd, reduceMul, reduceSub, reduceLeDiff, reduceEq, reduceLT, reduceLE, go_sem, s5]
      refine call_pure rfl rfl (c_nwaysT o1 (by simp only [T.n]; omega) rfl) ?_; simp only [↓reduceIte, reduceCtorEq, reduceEqDiff, reduceAdd, reduceMul, reduceSub, reduceLeDiff, reduceEq, reduceLT, reduceLE, go_sem]
      simp only [↓reduceIte, reduceCtorEq, reduceEqDiff, reduceAdd, reduceMul, reduceSub, reduceLeDiff, reduceEq, reduceLT, reduceLE, go_sem, z1]
      repeat' first | refine Z1 fun _ _ => ?_ | refine Z2 ‹_› ?_ | ((first | refine Z3 tb_ok lv5 rfl ?_ | refine ret_eq rfl ?_); simp only [↓reduceIte, reduceCtorEq, reduceEqDiff, reduceAdd, reduceMul, reduceSub, reduceLeDiff, reduceEq, reduceLT, reduceLE, go_sem]) | (refine Z5 rfl ?_; with_reducible first | refine condQ_T ?_ | refine condQ_F ?_) | refine Z6 ?_ | refine Z8 ?_ | refine Zc ‹_› trivial ?_ | fail
      try simp only [lt, s5]
      refine call_pure rfl rfl (c_nwaysT (i := t.n + 1) o2 (by simp only [T.n]; omega) rfl) ?_; simp only [↓reduceIte, reduceCtorEq, reduceEqDiff, reduceAdd, reduceMul, reduceSub, reduceLeDiff, reduceEq, reduceLT, reduceLE, go_sem]
      repeat' first | refine Z1 fun _ _ => ?_ | refine Z2 ‹_› ?_ | ((first | refine Z3 tb_ok lv5 rfl ?_ | refine ret_eq rfl ?_); simp only [↓reduceIte, reduceCtorEq, reduceEqDiff, reduceAdd, reduceMul, reduceSub, reduceLeDiff, reduceEq, reduceLT, reduceLE, go_sem]) | (refine Z5 rfl ?_; with_reducible first | refine condQ_T ?_ | refine condQ_F ?_) | refine Z6 ?_ | refine Z8 ?_ | refine Zc ‹_› trivial ?_ | fail
      have w1 : IntKind.i64.wrap (t.ways + 1) = t.ways + 1 := wrap64 (by omega) (by omega)
      try (simp only [↓reduceIte, reduceCtorEq, reduceEqDiff, reduceAdd, reduceMul, reduceSub, reduceLeDiff, reduceEq, reduceLT, reduceLE, go_sem, z2, w1])
      repeat' first | refine Z1 fun _ _ => ?_ | refine Z2 ‹_› ?_ | ((first | refine Z3 tb_ok lv5 rfl ?_ | refine ret_eq rfl ?_); simp only [↓reduceIte, reduceCtorEq, reduceEqDiff, reduceAdd, reduceMul, reduceSub, reduceLeDiff, reduceEq, reduceLT, reduceLE, go_sem]) | (refine Z5 rfl ?_; with_reducible first | refine condQ_T ?_ | refine condQ_F ?_) | refine Z6 ?_ | refine Z8 ?_ | refine Zc ‹_› trivial ?_ | fail
      try simp only [lt, s5]
      refine call_pure rfl rfl (c_nwaysT (i := t.n + 1) o3 (by simp only [T.n]; omega) (by simp only [T.n]; omega)) ?_; simp only [↓reduceIte, reduceCtorEq, reduceEqDiff, reduceAdd, reduceMul, reduceSub, reduceLeDiff, reduceEq, reduceLT, reduceLE, go_sem]
      simp only [↓reduceIte, reduceCtorEq, reduceEqDiff, reduceAdd, reduceMul, reduceSub, reduceLeDiff, reduceEq, reduceLT, reduceLE, go_sem, z3]
      repeat' first | refine Z1 fun _ _ => ?_ | refine Z2 ‹_› ?_ | ((first | refine Z3 tb_ok lv5 rfl ?_ | refine ret_eq rfl ?_); simp only [↓reduceIte, reduceCtorEq, reduceEqDiff, reduceAdd, reduceMul, reduceSub, reduceLeDiff, reduceEq, reduceLT, reduceLE, go_sem]) | (refine Z5 rfl ?_; with_reducible first | refine condQ_T ?_ | refine condQ_F ?_) | refine Z6 ?_ | refine Z8 ?_ | refine Zc ‹_› trivial ?_ | fail
      refine call_pure rfl rfl (c_wrap (t := t) (k := 6) (lo := 0) (hi := 0) (by omega) hok) ?_; simp only [↓reduceIte, reduceCtorEq, reduceEqDiff, reduceAdd, reduceMul, reduceSub, reduceLeDiff, reduceEq, reduceLT, reduceLE, go_sem]
      repeat' first | refine Z1 fun _ _ => ?_ | refine Z2 ‹_› ?_ | ((first | refine Z3 tb_ok lv5 rfl ?_ | refine ret_eq rfl ?_); simp only [↓reduceIte, reduceCtorEq, reduceEqDiff, reduceAdd, reduceMul, reduceSub, reduceLeDiff, reduceEq, reduceLT, reduceLE, go_sem]) | (refine Z5 rfl ?_; with_reducible first | refine condQ_T ?_ | refine condQ_F ?_) | refine Z6 ?_ | refine Z8 ?_ | refine Zc ‹_› trivial ?_ | fail
      refine call_pure rfl rfl (c_nrightT o4 (by simp only [T.n]; omega)) ?_; simp only [↓reduceIte, reduceCtorEq, reduceEqDiff, reduceAdd, reduceMul, reduceSub, reduceLeDiff, reduceEq, reduceLT, reduceLE, go_sem]
      have hbeq : ∀ b : Bool, (b == b) = true := fun b => by cases b <;> rfl
      simp only [↓reduceIte, reduceCtorEq, reduceEqDiff, reduceAdd, reduceMul, reduceSub, reduceLeDiff, reduceEq, reduceLT, reduceLE, go_sem, g4, hbeq]
      repeat' first | refine Z1 fun _ _ => ?_ | refine Z2 ‹_› ?_ | ((first | refine Z3 tb_ok lv5 rfl ?_ | refine ret_eq rfl ?_); simp only [↓reduceIte, reduceCtorEq, reduceEqDiff, reduceAdd, reduceMul, reduceSub, reduceLeDiff, reduceEq, reduceLT, reduceLE, go_sem]) | (refine Z5 rfl ?_; with_reducible first | refine condQ_T ?_ | refine condQ_F ?_) | refine Z6 ?_ | refine Z8 ?_ | refine Zc ‹_› trivial ?_ | fail
      have wx : IntKind.i64.wrap x = x := wrap64 (by omega) (by omega)
      simp only [↓reduceIte, reduceCtorEq, reduceEqDiff, reduceAdd, reduceMul, reduceSub, reduceLeDiff, reduceEq, reduceLT, reduceLE, go_sem, wx]
      refine call_pure rfl rfl (c_wrap (t := t) (k := 7) (lo := x) (hi := 255) (by omega) hok) ?_; simp only [↓reduceIte, reduceCtorEq, reduceEqDiff, reduceAdd, reduceMul, reduceSub, reduceLeDiff, reduceEq, reduceLT, reduceLE, go_sem]
      repeat' first | refine Z1 fun _ _ => ?_ | refine Z2 ‹_› ?_ | ((first | refine Z3 tb_ok lv5 rfl ?_ | refine ret_eq rfl ?_); simp only [↓reduceIte, reduceCtorEq, reduceEqDiff, reduceAdd, reduceMul, reduceSub, reduceLeDiff, reduceEq, reduceLT, reduceLE, go_sem]) | (refine Z5 rfl ?_; with_reducible first | refine condQ_T ?_ | refine condQ_F ?_) | refine Z6 ?_ | refine Z8 ?_ | refine Zc ‹_› trivial ?_ | fail
      refine call_pure rfl rfl (c_nrightT o5 (by simp only [T.n]; omega)) ?_; simp only [↓reduceIte, reduceCtorEq, reduceEqDiff, reduceAdd, reduceMul, reduceSub, reduceLeDiff, reduceEq, reduceLT, reduceLE, go_sem]
      simp only [↓reduceIte, reduceCtorEq, reduceEqDiff, reduceAdd, reduceMul, reduceSub, reduceLeDiff, reduceEq, reduceLT, reduceLE, go_sem, g5, hbeq]
      repeat' first | refine Z1 fun _ _ => ?_ | refine Z2 ‹_› ?_ | ((first | refine Z3 tb_ok lv5 rfl ?_ | refine ret_eq rfl ?_); simp only [↓reduceIte, reduceCtorEq, reduceEqDiff, reduceAdd, reduceMul, reduceSub, reduceLeDiff, reduceEq, reduceLT, reduceLE, go_sem]) | (refine Z5 rfl ?_; with_reducible first | refine condQ_T ?_ | refine condQ_F ?_) | refine Z6 ?_ | refine Z8 ?_ | refine Zc ‹_› trivial ?_ | fail
      refine call_pure rfl rfl (c_wrap (t := t) (k := 8) (lo := 0) (hi := 0) (by omega) hok) ?_; simp only [↓reduceIte, reduceCtorEq, reduceEqDiff, reduceAdd, reduceMul, reduceSub, reduceLeDiff, reduceEq, reduceLT, reduceLE, go_sem]
      repeat' first | refine Z1 fun _ _ => ?_ | refine Z2 ‹_› ?_ | ((first | refine Z3 tb_ok lv5 rfl ?_ | refine ret_eq rfl ?_); simp only [↓reduceIte, reduceCtorEq, reduceEqDiff, reduceAdd, reduceMul, reduceSub, reduceLeDiff, reduceEq, reduceLT, reduceLE, go_sem]) | (refine Z5 rfl ?_; with_reducible first | refine condQ_T ?_ | refine condQ_F ?_) | refine Z6 ?_ | refine Z8 ?_ | refine Zc ‹_› trivial ?_ | fail
      refine call_pure rfl rfl (c_nrightT o6 (by simp only [T.n]; omega)) ?_; simp only [↓reduceIte, reduceCtorEq, reduceEqDiff, reduceAdd, reduceMul, reduceSub, reduceLeDiff, reduceEq, reduceLT, reduceLE, go_sem]
      simp only [↓reduceIte, reduceCtorEq, reduceEqDiff, reduceAdd, reduceMul, reduceSub, reduceLeDiff, reduceEq, reduceLT, reduceLE, go_sem, g6]
      repeat' first | refine Z1 fun _ _ => ?_ | refine Z2 ‹_› ?_ | ((first | refine Z3 tb_ok lv5 rfl ?_ | refine ret_eq rfl ?_); simp only [↓reduceIte, reduceCtorEq, reduceEqDiff, reduceAdd, reduceMul, reduceSub, reduceLeDiff, reduceEq, reduceLT, reduceLE, go_sem]) | (refine Z5 rfl ?_; with_reducible first | refine condQ_T ?_ | refine condQ_F ?_) | refine Z6 ?_ | refine Z8 ?_ | refine Zc ‹_› trivial ?_ | fail
      refine call_pure rfl rfl (c_wrap (t := T.two 4 t uB) (k := 6) (lo := 0) (hi := 0) (by simp only [T.n]; omega) o1) ?_; simp only [↓reduceIte, reduceCtorEq, reduceEqDiff, reduceAdd, reduceMul, reduceSub, reduceLeDiff, reduceEq, reduceLT, reduceLE, go_sem]
      repeat' first | refine Z1 fun _ _ => ?_ | refine Z2 ‹_› ?_ | ((first | refine Z3 tb_ok lv5 rfl ?_ | refine ret_eq rfl ?_); simp only [↓reduceIte, reduceCtorEq, reduceEqDiff, reduceAdd, reduceMul, reduceSub, reduceLeDiff, reduceEq, reduceLT, reduceLE, go_sem]) | (refine Z5 rfl ?_; with_reducible first | refine condQ_T ?_ | refine condQ_F ?_) | refine Z6 ?_ | refine Z8 ?_ | refine Zc ‹_› trivial ?_ | fail
      refine call_pure rfl rfl (c_nrightT o7 (by simp only [T.n]; omega)) ?_; simp only [↓reduceIte, reduceCtorEq, reduceEqDiff, reduceAdd, reduceMul, reduceSub, reduceLeDiff, reduceEq, reduceLT, reduceLE, go_sem]
      simp only [↓reduceIte, reduceCtorEq, reduceEqDiff, reduceAdd, reduceMul, reduceSub, reduceLeDiff, reduceEq, reduceLT, reduceLE, go_sem, g7]
      repeat' first | refine Z1 fun _ _ => ?_ | refine Z2 ‹_› ?_ | ((first | refine Z3 tb_ok lv5 rfl ?_ | refine ret_eq rfl ?_); simp only [↓reduceIte, reduceCtorEq, reduceEqDiff, reduceAdd, reduceMul, reduceSub, reduceLeDiff, reduceEq, reduceLT, reduceLE, go_sem]) | (refine Z5 rfl ?_; with_reducible first | refine condQ_T ?_ | refine condQ_F ?_) | refine Z6 ?_ | refine Z8 ?_ | refine Zc ‹_› trivial ?_ | fail
end Go.Proofs.YtpnipapelnkjbaaDoor
