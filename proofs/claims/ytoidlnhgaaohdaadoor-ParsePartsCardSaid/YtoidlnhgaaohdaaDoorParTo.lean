/- scantlingref03.short, one, Read. -/
import Derived.Test.YtoidlnhgaaohdaaDoorParW
import Derived.Test.YtoidlnhgaaohdaaDoorSpanD
import Derived.Test.YtoidlnhgaaohdaaDoorFormB
namespace Go.Proofs.YtoidlnhgaaohdaaDoor
set_option linter.all false
open Go Go.RowKit
open Nat (reduceEqDiff reduceAdd reduceMul reduceSub reduceLeDiff)
open Int (reduceEq reduceLT reduceLE)

abbrev shS : ByteArray := ⟨#[40, 41, 124, 42, 98, 119]⟩
def shK (c : Int) : Int := if c = 40 then 3 else if c = 41 then 4 else if c = 124 then 5 else if c = 42 then 6 else if c = 98 then 8 else if c = 119 then 9 else 0
@[go_sem] def lv35 : List (Nat × List Nat) := [(0, [0]), (1, [0, 3]), (2, [0, 3, 4]), (3, [0, 3, 4, 5]), (4, [0, 3, 4, 5, 10]), (5, [0, 3, 4, 5]), (6, [0, 3, 4, 5, 17]), (7, [2]), (8, [2])]
def bs35 : List (Nat × List Nat × List Nat) := []
set_option maxHeartbeats 1000000 in
theorem c_short {gl} {c : Int} : PCon Tryd.prog gl 35 [.int .u8 c] (.int .i64 (shK c)) := by
  refine PCon.enter tb_ok (fn := Tryd.f35) (by kernel_rfl) (by kernel_rfl) rfl (by show 1 ≤ 22; decide) ?_
  repeat' first | refine Z1 fun _ _ => ?_ | refine Z2 ‹_› ?_ | ((first | refine Z3 tb_ok lv35 rfl ?_ | refine ret_eq rfl ?_); simp only [↓reduceIte, reduceCtorEq, reduceEqDiff, reduceAdd, reduceMul, reduceSub, reduceLeDiff, reduceEq, reduceLT, reduceLE, go_sem]) | (refine Z5 rfl ?_; with_reducible first | refine condQ_T ?_ | refine condQ_F ?_) | refine Z6 ?_ | refine Z7 ?_ | refine Z8 ?_ | refine Z9 fun _ _ => ?_ | refine Za ‹_› ?_ | refine Zb ‹_› ?_ | refine Zc ‹_› trivial ?_ | refine Zd ‹_› trivial ?_ | refine Ze ‹_› trivial ?_ | refine Zf ‹_› ?_ | refine Zl ‹_› (by decide) ?_ | fail
  refine .freeze 2 rfl rfl ?_
  simp only [↓reduceIte, reduceCtorEq, reduceEqDiff, reduceAdd, reduceMul, reduceSub, reduceLeDiff, reduceEq, reduceLT, reduceLE, go_sem]
  refine .loopC (α := Nat) (fun i => ⟨[(0, .d (.int .u8 c)), (3, .d (.str shS)), (4, .d (ints [3, 4, 5, 6, 8, 9])), (5, .d (.int .i64 i))], [], 5⟩) (fun i => i ≤ 6 ∧ ∀ m, m < i → byteAt shS m ≠ c) (fun i => 6 - i) 0 ⟨by omega, fun m hm => by omega⟩ (by simp only [↓reduceIte, reduceCtorEq, reduceEqDiff, reduceAdd, reduceMul, reduceSub, reduceLeDiff, reduceEq, reduceLT, reduceLE, go_sem]; simp) ?_
  rintro i ⟨hi, hm⟩ Q hQ
  repeat' first | refine Z1 fun _ _ => ?_ | refine Z2 ‹_› ?_ | ((first | refine Z3 tb_ok lv35 rfl ?_ | refine ret_eq rfl ?_); simp only [↓reduceIte, reduceCtorEq, reduceEqDiff, reduceAdd, reduceMul, reduceSub, reduceLeDiff, reduceEq, reduceLT, reduceLE, go_sem]) | (refine Z5 rfl ?_; with_reducible first | refine condQ_T ?_ | refine condQ_F ?_) | refine Z6 ?_ | refine Z7 ?_ | refine Z8 ?_ | refine Z9 fun _ _ => ?_ | refine Za ‹_› ?_ | refine Zb ‹_› ?_ | refine Zc ‹_› trivial ?_ | refine Zd ‹_› trivial ?_ | refine Ze ‹_› trivial ?_ | refine Zf ‹_› ?_ | refine Zl ‹_› (by decide) ?_ | fail
  refine .cond rfl (fun h => ?_) (fun h => ?_)
  · simp only [decide_eq_true_eq] at h
    have h6 : i < 6 := by have e6 : (#[40, 41, 124, 42, 98, 119] : Array UInt8).size = 6 := rfl; rw [e6] at h; omega
    repeat' first | refine Z1 fun _ _ => ?_ | refine Z2 ‹_› ?_ | ((first | refine Z3 tb_ok lv35 rfl ?_ | refine ret_eq rfl ?_); simp only [↓reduceIte, reduceCtorEq, reduceEqDiff, reduceAdd, reduceMul, reduceSub, reduceLeDiff, reduceEq, reduceLT, reduceLE, go_sem]) | (refine Z5 rfl ?_; with_reducible first | refine condQ_T ?_ | refine condQ_F ?_) | refine Z6 ?_ | refine Z7 ?_ | refine Z8 ?_ | refine Z9 fun _ _ => ?_ | refine Za ‹_› ?_ | refine Zb ‹_› ?_ | refine Zc ‹_› trivial ?_ | refine Zd ‹_› trivial ?_ | refine Ze ‹_› trivial ?_ | refine Zf ‹_› ?_ | refine Zl ‹_› (by decide) ?_ | fail
    refine idx_str rfl rfl rfl rfl (by omega) (by show (i : Int) < ((6 : Nat) : Int); omega) ?_
    simp only [↓reduceIte, reduceCtorEq, reduceEqDiff, reduceAdd, reduceMul, reduceSub, reduceLeDiff, reduceEq, reduceLT, reduceLE, go_sem]
    repeat' first | refine Z1 fun _ _ => ?_ | refine Z2 ‹_› ?_ | ((first | refine Z3 tb_ok lv35 rfl ?_ | refine ret_eq rfl ?_); simp only [↓reduceIte, reduceCtorEq, reduceEqDiff, reduceAdd, reduceMul, reduceSub, reduceLeDiff, reduceEq, reduceLT, reduceLE, go_sem]) | (refine Z5 rfl ?_; with_reducible first | refine condQ_T ?_ | refine condQ_F ?_) | refine Z6 ?_ | refine Z7 ?_ | refine Z8 ?_ | refine Z9 fun _ _ => ?_ | refine Za ‹_› ?_ | refine Zb ‹_› ?_ | refine Zc ‹_› trivial ?_ | refine Zd ‹_› trivial ?_ | refine Ze ‹_› trivial ?_ | refine Zf ‹_› ?_ | refine Zl ‹_› (by decide) ?_ | fail
    refine .cond rfl (fun h3 => ?_) (fun h3 => ?_)
    · simp only [decide_eq_true_eq, Int.toNat_natCast] at h3
      repeat' first | refine Z1 fun _ _ => ?_ | refine Z2 ‹_› ?_ | ((first | refine Z3 tb_ok lv35 rfl ?_ | refine ret_eq rfl ?_); simp only [↓reduceIte, reduceCtorEq, reduceEqDiff, reduceAdd, reduceMul, reduceSub, reduceLeDiff, reduceEq, reduceLT, reduceLE, go_sem]) | (refine Z5 rfl ?_; with_reducible first | refine condQ_T ?_ | refine condQ_F ?_) | refine Z6 ?_ | refine Z7 ?_ | refine Z8 ?_ | refine Z9 fun _ _ => ?_ | refine Za ‹_› ?_ | refine Zb ‹_› ?_ | refine Zc ‹_› trivial ?_ | refine Zd ‹_› trivial ?_ | refine Ze ‹_› trivial ?_ | refine Zf ‹_› ?_ | refine Zl ‹_› (by decide) ?_ | fail
      refine idx_map (l := [3, 4, 5, 6, 8, 9]) (f := fun x : Int => [D.int .i64 x]) (0 : Int) rfl rfl rfl rfl rfl (by omega) (by simpa using h6) rfl ?_
      simp only [↓reduceIte, reduceCtorEq, reduceEqDiff, reduceAdd, reduceMul, reduceSub, reduceLeDiff, reduceEq, reduceLT, reduceLE, go_sem]
      repeat' first | refine Z1 fun _ _ => ?_ | refine Z2 ‹_› ?_ | ((first | refine Z3 tb_ok lv35 rfl ?_ | refine ret_eq rfl ?_); simp only [↓reduceIte, reduceCtorEq, reduceEqDiff, reduceAdd, reduceMul, reduceSub, reduceLeDiff, reduceEq, reduceLT, reduceLE, go_sem]) | (refine Z5 rfl ?_; with_reducible first | refine condQ_T ?_ | refine condQ_F ?_) | refine Z6 ?_ | refine Z7 ?_ | refine Z8 ?_ | refine Z9 fun _ _ => ?_ | refine Za ‹_› ?_ | refine Zb ‹_› ?_ | refine Zc ‹_› trivial ?_ | refine Zd ‹_› trivial ?_ | refine Ze ‹_› trivial ?_ | refine Zf ‹_› ?_ | refine Zl ‹_› (by decide) ?_ | fail
      subst h3
      rcases (by omega : i = 0 ∨ i = 1 ∨ i = 2 ∨ i = 3 ∨ i = 4 ∨ i = 5) with rfl | rfl | rfl | rfl | rfl | rfl <;> rfl
    · simp only [decide_eq_false_iff_not, Int.toNat_natCast] at h3
      repeat' first | refine Z1 fun _ _ => ?_ | refine Z2 ‹_› ?_ | ((first | refine Z3 tb_ok lv35 rfl ?_ | refine ret_eq rfl ?_); simp only [↓reduceIte, reduceCtorEq, reduceEqDiff, reduceAdd, reduceMul, reduceSub, reduceLeDiff, reduceEq, reduceLT, reduceLE, go_sem]) | (refine Z5 rfl ?_; with_reducible first | refine condQ_T ?_ | refine condQ_F ?_) | refine Z6 ?_ | refine Z7 ?_ | refine Z8 ?_ | refine Z9 fun _ _ => ?_ | refine Za ‹_› ?_ | refine Zb ‹_› ?_ | refine Zc ‹_› trivial ?_ | refine Zd ‹_› trivial ?_ | refine Ze ‹_› trivial ?_ | refine Zf ‹_› ?_ | refine Zl ‹_› (by decide) ?_ | fail
      exact hQ.next (i + 1) ⟨by omega, fun m hx => by
        rcases Nat.lt_or_eq_of_le (Nat.le_of_lt_succ hx) with g | g
        · exact hm m g
        · subst g; exact h3⟩ (by omega) (by simp only [↓reduceIte, reduceCtorEq, reduceEqDiff, reduceAdd, reduceMul, reduceSub, reduceLeDiff, reduceEq, reduceLT, reduceLE, go_sem]; rw [wrap64 (z := (i : Int) + 1) (by omega) (by omega)]; simp)
  · simp only [decide_eq_false_iff_not] at h
    have h6 : i = 6 := by have e6 : (#[40, 41, 124, 42, 98, 119] : Array UInt8).size = 6 := rfl; rw [e6] at h; omega
    subst h6
    repeat' first | refine Z1 fun _ _ => ?_ | refine Z2 ‹_› ?_ | ((first | refine Z3 tb_ok lv35 rfl ?_ | refine ret_eq rfl ?_); simp only [↓reduceIte, reduceCtorEq, reduceEqDiff, reduceAdd, reduceMul, reduceSub, reduceLeDiff, reduceEq, reduceLT, reduceLE, go_sem]) | (refine Z5 rfl ?_; with_reducible first | refine condQ_T ?_ | refine condQ_F ?_) | refine Z6 ?_ | refine Z7 ?_ | refine Z8 ?_ | refine Z9 fun _ _ => ?_ | refine Za ‹_› ?_ | refine Zb ‹_› ?_ | refine Zc ‹_› trivial ?_ | refine Zd ‹_› trivial ?_ | refine Ze ‹_› trivial ?_ | refine Zf ‹_› ?_ | refine Zl ‹_› (by decide) ?_ | fail
    have q0 : (40 : Int) ≠ c := hm 0 (by decide)
    have q1 : (41 : Int) ≠ c := hm 1 (by decide)
    have q2 : (124 : Int) ≠ c := hm 2 (by decide)
    have q3 : (42 : Int) ≠ c := hm 3 (by decide)
    have q4 : (98 : Int) ≠ c := hm 4 (by decide)
    have q5 : (119 : Int) ≠ c := hm 5 (by decide)
    unfold shK
    rw [if_neg q0.symm, if_neg q1.symm, if_neg q2.symm, if_neg q3.symm, if_neg q4.symm, if_neg q5.symm]
@[go_sem] def lv29 : List (Nat × List Nat) := [(0, [0, 1, 4]), (1, [0, 1, 4, 7]), (2, [0, 1, 4, 7, 23]), (3, [1, 4, 7]), (4, [4, 5, 6]), (5, [0, 1, 4, 7, 34]), (6, [0, 1, 4, 7, 34, 35]), (7, [1, 4, 7]), (8, [1, 4, 7]), (9, [4, 5, 6]), (10, [0, 1, 4, 7, 34, 43]), (11, [0, 1, 4, 7, 8]), (12, [0, 1, 4, 7, 8, 49]), (13, [4, 5, 6]), (14, [4, 7, 8, 9, 10]), (15, [4, 7, 8, 9, 61]), (16, [4, 5, 6]), (17, [4, 7, 8, 9]), (18, [4, 7, 8]), (19, [4, 5, 6]), (20, [0, 1, 4, 7, 34, 69]), (21, [0, 1, 4, 7, 11]), (22, [0, 1, 4, 7, 11, 90]), (23, [4, 5, 6]), (24, [0, 1, 4, 7, 11]), (25, [4, 7, 11]), (26, [4, 5, 6]), (27, [0, 1, 4, 7, 102]), (28, [0, 1, 4, 7, 12]), (29, [0, 1, 4, 7, 12, 108]), (30, [4, 5, 6]), (31, [0, 4, 7, 12, 13, 14]), (32, [0, 4, 7, 12, 13, 14, 131]), (33, [4, 5, 6]), (34, [4, 7, 12, 13, 15, 16]), (35, [4, 7, 12, 13, 15, 148]), (36, [4, 5, 6]), (37, [4, 7, 12, 13, 15, 156]), (38, [4, 5, 6]), (39, [4, 7, 12, 13, 15]), (40, [4, 7, 12, 15]), (41, [4, 7, 12]), (42, [4, 5, 6]), (43, [4, 5, 6])]
def bs29 : List (Nat × List Nat × List Nat) := []
set_option maxHeartbeats 1000000 in
theorem c_oneS {gl} {s : ByteArray} {i : Nat} (hs : s.size ≤ 1000) (hi : i < s.size) (hc : 0 < shK (byteAt s i)) : PCon Tryd.prog gl 29 [.str s, .int .i64 i] (.tup [.agg ({ tkN (shK (byteAt s i)) with t := i } : Tk).cells, .int .i64 ((i + 1 : Nat) : Int), .int .i64 0]) := by
  refine PCon.enter tb_ok (fn := Tryd.f29) (by kernel_rfl) (by kernel_rfl) rfl (by show 2 ≤ 167; decide) ?_
  repeat' first | refine Z1 fun _ _ => ?_ | refine Z2 ‹_› ?_ | ((first | refine Z3 tb_ok lv29 rfl ?_ | refine ret_eq rfl ?_); simp only [↓reduceIte, reduceCtorEq, reduceEqDiff, reduceAdd, reduceMul, reduceSub, reduceLeDiff, reduceEq, reduceLT, reduceLE, go_sem]) | (refine Z5 rfl ?_; with_reducible first | refine condQ_T ?_ | refine condQ_F ?_) | refine Z6 ?_ | refine Z8 ?_ | refine Z9 fun _ _ => ?_ | refine Za ‹_› ?_ | refine Zc ‹_› trivial ?_ | refine Zf ‹_› ?_ | fail
  refine idx_str rfl rfl rfl rfl (by omega) (by omega) ?_
  rw [Int.toNat_natCast]
  simp only [↓reduceIte, reduceCtorEq, reduceEqDiff, reduceAdd, reduceMul, reduceSub, reduceLeDiff, reduceEq, reduceLT, reduceLE, go_sem]
  repeat' first | refine Z1 fun _ _ => ?_ | refine Z2 ‹_› ?_ | ((first | refine Z3 tb_ok lv29 rfl ?_ | refine ret_eq rfl ?_); simp only [↓reduceIte, reduceCtorEq, reduceEqDiff, reduceAdd, reduceMul, reduceSub, reduceLeDiff, reduceEq, reduceLT, reduceLE, go_sem]) | (refine Z5 rfl ?_; with_reducible first | refine condQ_T ?_ | refine condQ_F ?_) | refine Z6 ?_ | refine Z8 ?_ | refine Z9 fun _ _ => ?_ | refine Za ‹_› ?_ | refine Zc ‹_› trivial ?_ | refine Zf ‹_› ?_ | fail
  refine call_pure rfl rfl (c_short) ?_; simp only [↓reduceIte, reduceCtorEq, reduceEqDiff, reduceAdd, reduceMul, reduceSub, reduceLeDiff, reduceEq, reduceLT, reduceLE, go_sem]
  repeat' first | refine Z1 fun _ _ => ?_ | refine Z2 ‹_› ?_ | ((first | refine Z3 tb_ok lv29 rfl ?_ | refine ret_eq rfl ?_); simp only [↓reduceIte, reduceCtorEq, reduceEqDiff, reduceAdd, reduceMul, reduceSub, reduceLeDiff, reduceEq, reduceLT, reduceLE, go_sem]) | (refine Z5 rfl ?_; with_reducible first | refine condQ_T ?_ | refine condQ_F ?_) | refine Z6 ?_ | refine Z8 ?_ | refine Z9 fun _ _ => ?_ | refine Za ‹_› ?_ | refine Zc ‹_› trivial ?_ | refine Zf ‹_› ?_ | fail
  have gc : decide (0 < shK (byteAt s i)) = true := decide_eq_true hc
  simp only [↓reduceIte, reduceCtorEq, reduceEqDiff, reduceAdd, reduceMul, reduceSub, reduceLeDiff, reduceEq, reduceLT, reduceLE, go_sem, gc]
  repeat' first | refine Z1 fun _ _ => ?_ | refine Z2 ‹_› ?_ | ((first | refine Z3 tb_ok lv29 rfl ?_ | refine ret_eq rfl ?_); simp only [↓reduceIte, reduceCtorEq, reduceEqDiff, reduceAdd, reduceMul, reduceSub, reduceLeDiff, reduceEq, reduceLT, reduceLE, go_sem]) | (refine Z5 rfl ?_; with_reducible first | refine condQ_T ?_ | refine condQ_F ?_) | refine Z6 ?_ | refine Z8 ?_ | refine Z9 fun _ _ => ?_ | refine Za ‹_› ?_ | refine Zc ‹_› trivial ?_ | refine Zf ‹_› ?_ | fail
  refine idx_str rfl rfl rfl rfl (by omega) (by omega) ?_
  rw [Int.toNat_natCast]
  simp only [↓reduceIte, reduceCtorEq, reduceEqDiff, reduceAdd, reduceMul, reduceSub, reduceLeDiff, reduceEq, reduceLT, reduceLE, go_sem]
  repeat' first | refine Z1 fun _ _ => ?_ | refine Z2 ‹_› ?_ | ((first | refine Z3 tb_ok lv29 rfl ?_ | refine ret_eq rfl ?_); simp only [↓reduceIte, reduceCtorEq, reduceEqDiff, reduceAdd, reduceMul, reduceSub, reduceLeDiff, reduceEq, reduceLT, reduceLE, go_sem]) | (refine Z5 rfl ?_; with_reducible first | refine condQ_T ?_ | refine condQ_F ?_) | refine Z6 ?_ | refine Z8 ?_ | refine Z9 fun _ _ => ?_ | refine Za ‹_› ?_ | refine Zc ‹_› trivial ?_ | refine Zf ‹_› ?_ | fail
  refine call_pure rfl rfl (c_short) ?_; simp only [↓reduceIte, reduceCtorEq, reduceEqDiff, reduceAdd, reduceMul, reduceSub, reduceLeDiff, reduceEq, reduceLT, reduceLE, go_sem]
  repeat' first | refine Z1 fun _ _ => ?_ | refine Z2 ‹_› ?_ | ((first | refine Z3 tb_ok lv29 rfl ?_ | refine ret_eq rfl ?_); simp only [↓reduceIte, reduceCtorEq, reduceEqDiff, reduceAdd, reduceMul, reduceSub, reduceLeDiff, reduceEq, reduceLT, reduceLE, go_sem]) | (refine Z5 rfl ?_; with_reducible first | refine condQ_T ?_ | refine condQ_F ?_) | refine Z6 ?_ | refine Z8 ?_ | refine Z9 fun _ _ => ?_ | refine Za ‹_› ?_ | refine Zc ‹_› trivial ?_ | refine Zf ‹_› ?_ | fail
  rw [wrap64 (by omega) (by omega)]
  simp [tkN]
set_option maxHeartbeats 1000000 in
theorem c_oneD {gl} {s : ByteArray} {i : Nat} (hs : s.size ≤ 1000) (hi : i < s.size) (hc : byteAt s i = 46) : PCon Tryd.prog gl 29 [.str s, .int .i64 i] (.tup [.agg (⟨1, i, bitsN (rowL 0 256) 0 64, bitsN (rowL 0 256) 1 64, bitsN (rowL 0 256) 2 64, bitsN (rowL 0 256) 3 64, .empty, 0, 0⟩ : Tk).cells, .int .i64 ((i + 1 : Nat) : Int), .int .i64 0]) := by
  refine PCon.enter tb_ok (fn := Tryd.f29) (by kernel_rfl) (by kernel_rfl) rfl (by show 2 ≤ 167; decide) ?_
  repeat' first | refine Z1 fun _ _ => ?_ | refine Z2 ‹_› ?_ | ((first | refine Z3 tb_ok lv29 rfl ?_ | refine ret_eq rfl ?_); simp only [↓reduceIte, reduceCtorEq, reduceEqDiff, reduceAdd, reduceMul, reduceSub, reduceLeDiff, reduceEq, reduceLT, reduceLE, go_sem]) | (refine Z5 rfl ?_; with_reducible first | refine condQ_T ?_ | refine condQ_F ?_) | refine Z6 ?_ | refine Z8 ?_ | refine Z9 fun _ _ => ?_ | refine Za ‹_› ?_ | refine Zc ‹_› trivial ?_ | refine Zf ‹_› ?_ | fail
  refine idx_str rfl rfl rfl rfl (by omega) (by omega) ?_
  rw [Int.toNat_natCast]
  simp only [↓reduceIte, reduceCtorEq, reduceEqDiff, reduceAdd, reduceMul, reduceSub, reduceLeDiff, reduceEq, reduceLT, reduceLE, go_sem]
  repeat' first | refine Z1 fun _ _ => ?_ | refine Z2 ‹_› ?_ | ((first | refine Z3 tb_ok lv29 rfl ?_ | refine ret_eq rfl ?_); simp only [↓reduceIte, reduceCtorEq, reduceEqDiff, reduceAdd, reduceMul, reduceSub, reduceLeDiff, reduceEq, reduceLT, reduceLE, go_sem]) | (refine Z5 rfl ?_; with_reducible first | refine condQ_T ?_ | refine condQ_F ?_) | refine Z6 ?_ | refine Z8 ?_ | refine Z9 fun _ _ => ?_ | refine Za ‹_› ?_ | refine Zc ‹_› trivial ?_ | refine Zf ‹_› ?_ | fail
  have h1 := c_short (gl := gl) (c := byteAt s i)
  rw [show shK (byteAt s i) = 0 by rw [hc]; rfl] at h1
  refine call_pure rfl rfl (h1) ?_; simp only [↓reduceIte, reduceCtorEq, reduceEqDiff, reduceAdd, reduceMul, reduceSub, reduceLeDiff, reduceEq, reduceLT, reduceLE, go_sem]
  repeat' first | refine Z1 fun _ _ => ?_ | refine Z2 ‹_› ?_ | ((first | refine Z3 tb_ok lv29 rfl ?_ | refine ret_eq rfl ?_); simp only [↓reduceIte, reduceCtorEq, reduceEqDiff, reduceAdd, reduceMul, reduceSub, reduceLeDiff, reduceEq, reduceLT, reduceLE, go_sem]) | (refine Z5 rfl ?_; with_reducible first | refine condQ_T ?_ | refine condQ_F ?_) | refine Z6 ?_ | refine Z8 ?_ | refine Z9 fun _ _ => ?_ | refine Za ‹_› ?_ | refine Zc ‹_› trivial ?_ | refine Zf ‹_› ?_ | fail
  refine idx_str rfl rfl rfl rfl (by omega) (by omega) ?_
  rw [Int.toNat_natCast, hc]
  simp only [↓reduceIte, reduceCtorEq, reduceEqDiff, reduceAdd, reduceMul, reduceSub, reduceLeDiff, reduceEq, reduceLT, reduceLE, go_sem]
  repeat' first | refine Z1 fun _ _ => ?_ | refine Z2 ‹_› ?_ | ((first | refine Z3 tb_ok lv29 rfl ?_ | refine ret_eq rfl ?_); simp only [↓reduceIte, reduceCtorEq, reduceEqDiff, reduceAdd, reduceMul, reduceSub, reduceLeDiff, reduceEq, reduceLT, reduceLE, go_sem]) | (refine Z5 rfl ?_; with_reducible first | refine condQ_T ?_ | refine condQ_F ?_) | refine Z6 ?_ | refine Z8 ?_ | refine Z9 fun _ _ => ?_ | refine Za ‹_› ?_ | refine Zc ‹_› trivial ?_ | refine Zf ‹_› ?_ | fail
  have h2 : PCon Tryd.prog gl 36 [.int .u8 0, .int .u8 255] (classOf (rowL 0 256)) := c_ref01Row (a := 0) (b := 255) (by decide) (by decide)
  rw [classOf] at h2
  refine call_pure rfl rfl (h2) ?_; simp only [↓reduceIte, reduceCtorEq, reduceEqDiff, reduceAdd, reduceMul, reduceSub, reduceLeDiff, reduceEq, reduceLT, reduceLE, go_sem]
  repeat' first | refine Z1 fun _ _ => ?_ | refine Z2 ‹_› ?_ | ((first | refine Z3 tb_ok lv29 rfl ?_ | refine ret_eq rfl ?_); simp only [↓reduceIte, reduceCtorEq, reduceEqDiff, reduceAdd, reduceMul, reduceSub, reduceLeDiff, reduceEq, reduceLT, reduceLE, go_sem]) | (refine Z5 rfl ?_; with_reducible first | refine condQ_T ?_ | refine condQ_F ?_) | refine Z6 ?_ | refine Z8 ?_ | refine Z9 fun _ _ => ?_ | refine Za ‹_› ?_ | refine Zc ‹_› trivial ?_ | refine Zf ‹_› ?_ | fail
  rw [wrap64 (by omega) (by omega)]
  simp
/-- A token of a byte. -/
def tokB (c : Int) (i : Nat) : Tk := if c = 46 then ⟨1, i, bitsN (rowL 0 256) 0 64, bitsN (rowL 0 256) 1 64, bitsN (rowL 0 256) 2 64, bitsN (rowL 0 256) 3 64, .empty, 0, 0⟩ else { tkN (shK c) with t := i }
theorem c_one {gl} {s : ByteArray} {i : Nat} (hs : s.size ≤ 1000) (hi : i < s.size) (hc : byteAt s i = 46 ∨ 0 < shK (byteAt s i)) : PCon Tryd.prog gl 29 [.str s, .int .i64 i] (.tup [.agg (tokB (byteAt s i) i).cells, .int .i64 ((i + 1 : Nat) : Int), .int .i64 0]) := by
  unfold tokB
  split
  · exact c_oneD hs hi ‹_›
  · exact c_oneS hs hi (hc.resolve_left ‹_›)
/-- The tokens of a text. -/
def readL (s : ByteArray) (n : Nat) : List Tk := (List.range n).map fun i => tokB (byteAt s i) i
theorem readL_succ {s : ByteArray} {n : Nat} : readL s (n + 1) = readL s n ++ [tokB (byteAt s n) n] := by simp [readL, List.range_succ]
theorem readL_len {s : ByteArray} {n : Nat} : (readL s n).length = n := by simp [readL]
@[go_sem] def lv23 : List (Nat × List Nat) := [(0, [0]), (1, [0, 5]), (2, [0, 5, 6]), (3, [0, 5, 6, 13]), (4, [0, 5, 6, 17]), (5, [0, 5, 6]), (6, [0, 5, 6, 7, 8, 9]), (7, [0, 5, 6, 7, 8, 9, 28]), (8, [2, 3, 4]), (9, [0, 5, 8]), (10, [0, 5, 6]), (11, [2, 3, 4])]
def bs23 : List (Nat × List Nat × List Nat) := []
set_option maxHeartbeats 1000000 in
theorem c_read {gl} {s : ByteArray} (hs : s.size ≤ 1000) (hc : ∀ i, i < s.size → byteAt s i = 46 ∨ 0 < shK (byteAt s i)) : PCon Tryd.prog gl 23 [.str s] (.tup [tks (readL s s.size ++ [{ tkN 10 with t := s.size }]), .int .i64 0, .int .i64 0]) := by
  refine PCon.enter tb_ok (fn := Tryd.f23) (by kernel_rfl) (by kernel_rfl) rfl (by show 1 ≤ 42; decide) ?_
  repeat' first | refine Z1 fun _ _ => ?_ | refine Z2 ‹_› ?_ | ((first | refine Z3 tb_ok lv23 rfl ?_ | refine ret_eq rfl ?_); simp only [↓reduceIte, reduceCtorEq, reduceEqDiff, reduceAdd, reduceMul, reduceSub, reduceLeDiff, reduceEq, reduceLT, reduceLE, go_sem]) | (refine Z5 rfl ?_; with_reducible first | refine condQ_T ?_ | refine condQ_F ?_) | refine Z6 ?_ | refine Z7 ?_ | refine Z8 ?_ | refine Z9 fun _ _ => ?_ | refine Za ‹_› ?_ | refine Zb ‹_› ?_ | refine Zc ‹_› trivial ?_ | refine Zd ‹_› trivial ?_ | refine Ze ‹_› trivial ?_ | refine Zf ‹_› ?_ | refine Zl ‹_› (by decide) ?_ | fail
  refine .adopt 5 36 9 rfl (by decide) ?_
  simp only [↓reduceIte, reduceCtorEq, reduceEqDiff, reduceAdd, reduceMul, reduceSub, reduceLeDiff, reduceEq, reduceLT, reduceLE, go_sem]
  refine .loopS (α := Nat) (fun i => ⟨[(5, .own 5), (0, .d (.str s)), (6, .d (.int .i64 i))], [(5, .row true 36 9 ((readL s i).map Tk.cells))], 6⟩) (fun i => i ≤ s.size) (fun i => s.size - i) 0 (by omega) [] rfl (by simp only [↓reduceIte, reduceCtorEq, reduceEqDiff, reduceAdd, reduceMul, reduceSub, reduceLeDiff, reduceEq, reduceLT, reduceLE, go_sem]; simp [readL]) ?_
  intro i hi Q hQ
  repeat' first | refine Z1 fun _ _ => ?_ | refine Z2 ‹_› ?_ | ((first | refine Z3 tb_ok lv23 rfl ?_ | refine ret_eq rfl ?_); simp only [↓reduceIte, reduceCtorEq, reduceEqDiff, reduceAdd, reduceMul, reduceSub, reduceLeDiff, reduceEq, reduceLT, reduceLE, go_sem]) | (refine Z5 rfl ?_; with_reducible first | refine condQ_T ?_ | refine condQ_F ?_) | refine Z6 ?_ | refine Z7 ?_ | refine Z8 ?_ | refine Z9 fun _ _ => ?_ | refine Za ‹_› ?_ | refine Zb ‹_› ?_ | refine Zc ‹_› trivial ?_ | refine Zd ‹_› trivial ?_ | refine Ze ‹_› trivial ?_ | refine Zf ‹_› ?_ | refine Zl ‹_› (by decide) ?_ | fail
  refine .cond rfl (fun h => ?_) (fun h => ?_)
  · simp only [decide_eq_true_eq] at h
    have hlt : i < s.size := by omega
    repeat' first | refine Z1 fun _ _ => ?_ | refine Z2 ‹_› ?_ | ((first | refine Z3 tb_ok lv23 rfl ?_ | refine ret_eq rfl ?_); simp only [↓reduceIte, reduceCtorEq, reduceEqDiff, reduceAdd, reduceMul, reduceSub, reduceLeDiff, reduceEq, reduceLT, reduceLE, go_sem]) | (refine Z5 rfl ?_; with_reducible first | refine condQ_T ?_ | refine condQ_F ?_) | refine Z6 ?_ | refine Z7 ?_ | refine Z8 ?_ | refine Z9 fun _ _ => ?_ | refine Za ‹_› ?_ | refine Zb ‹_› ?_ | refine Zc ‹_› trivial ?_ | refine Zd ‹_› trivial ?_ | refine Ze ‹_› trivial ?_ | refine Zf ‹_› ?_ | refine Zl ‹_› (by decide) ?_ | fail
    refine idx_str rfl rfl rfl rfl (by omega) (by omega) ?_
    rw [Int.toNat_natCast]
    simp only [↓reduceIte, reduceCtorEq, reduceEqDiff, reduceAdd, reduceMul, reduceSub, reduceLeDiff, reduceEq, reduceLT, reduceLE, go_sem]
    repeat' first | refine Z1 fun _ _ => ?_ | refine Z2 ‹_› ?_ | ((first | refine Z3 tb_ok lv23 rfl ?_ | refine ret_eq rfl ?_); simp only [↓reduceIte, reduceCtorEq, reduceEqDiff, reduceAdd, reduceMul, reduceSub, reduceLeDiff, reduceEq, reduceLT, reduceLE, go_sem]) | (refine Z5 rfl ?_; with_reducible first | refine condQ_T ?_ | refine condQ_F ?_) | refine Z6 ?_ | refine Z7 ?_ | refine Z8 ?_ | refine Z9 fun _ _ => ?_ | refine Za ‹_› ?_ | refine Zb ‹_› ?_ | refine Zc ‹_› trivial ?_ | refine Zd ‹_› trivial ?_ | refine Ze ‹_› trivial ?_ | refine Zf ‹_› ?_ | refine Zl ‹_› (by decide) ?_ | fail
    have n32 : decide (byteAt s i = 32) = false := decide_eq_false (by
      rcases hc i hlt with h | h
      · omega
      · intro e; rw [e] at h; exact absurd h (by decide))
    simp only [↓reduceIte, reduceCtorEq, reduceEqDiff, reduceAdd, reduceMul, reduceSub, reduceLeDiff, reduceEq, reduceLT, reduceLE, go_sem, n32]
    repeat' first | refine Z1 fun _ _ => ?_ | refine Z2 ‹_› ?_ | ((first | refine Z3 tb_ok lv23 rfl ?_ | refine ret_eq rfl ?_); simp only [↓reduceIte, reduceCtorEq, reduceEqDiff, reduceAdd, reduceMul, reduceSub, reduceLeDiff, reduceEq, reduceLT, reduceLE, go_sem]) | (refine Z5 rfl ?_; with_reducible first | refine condQ_T ?_ | refine condQ_F ?_) | refine Z6 ?_ | refine Z7 ?_ | refine Z8 ?_ | refine Z9 fun _ _ => ?_ | refine Za ‹_› ?_ | refine Zb ‹_› ?_ | refine Zc ‹_› trivial ?_ | refine Zd ‹_› trivial ?_ | refine Ze ‹_› trivial ?_ | refine Zf ‹_› ?_ | refine Zl ‹_› (by decide) ?_ | fail
    refine call_pure rfl rfl (c_one hs hlt (hc i hlt)) ?_; simp only [↓reduceIte, reduceCtorEq, reduceEqDiff, reduceAdd, reduceMul, reduceSub, reduceLeDiff, reduceEq, reduceLT, reduceLE, go_sem]
    repeat' first | refine Z1 fun _ _ => ?_ | refine Z2 ‹_› ?_ | ((first | refine Z3 tb_ok lv23 rfl ?_ | refine ret_eq rfl ?_); simp only [↓reduceIte, reduceCtorEq, reduceEqDiff, reduceAdd, reduceMul, reduceSub, reduceLeDiff, reduceEq, reduceLT, reduceLE, go_sem]) | (refine Z5 rfl ?_; with_reducible first | refine condQ_T ?_ | refine condQ_F ?_) | refine Z6 ?_ | refine Z7 ?_ | refine Z8 ?_ | refine Z9 fun _ _ => ?_ | refine Za ‹_› ?_ | refine Zb ‹_› ?_ | refine Zc ‹_› trivial ?_ | refine Zd ‹_› trivial ?_ | refine Ze ‹_› trivial ?_ | refine Zf ‹_› ?_ | refine Zl ‹_› (by decide) ?_ | fail
    have fin : List.map Tk.cells (readL s i) ++ [[D.int .i64 (tokB (byteAt s i) i).k, D.int .i64 (tokB (byteAt s i) i).t, D.int .u64 (tokB (byteAt s i) i).c0, D.int .u64 (tokB (byteAt s i) i).c1, D.int .u64 (tokB (byteAt s i) i).c2, D.int .u64 (tokB (byteAt s i) i).c3, D.str (tokB (byteAt s i) i).text, D.int .i64 (tokB (byteAt s i) i).lo, D.int .i64 (tokB (byteAt s i) i).hi]] = (readL s (i + 1)).map Tk.cells := by
      rw [readL_succ, List.map_append]; rfl
    refine ⟨fun e he => by rw [he]; rfl, by rw [readL_len]; omega, by rw [readL_len]; omega, ?_⟩
    rw [fin]
    repeat' first | refine Z1 fun _ _ => ?_ | refine Z2 ‹_› ?_ | ((first | refine Z3 tb_ok lv23 rfl ?_ | refine ret_eq rfl ?_); simp only [↓reduceIte, reduceCtorEq, reduceEqDiff, reduceAdd, reduceMul, reduceSub, reduceLeDiff, reduceEq, reduceLT, reduceLE, go_sem]) | (refine Z5 rfl ?_; with_reducible first | refine condQ_T ?_ | refine condQ_F ?_) | refine Z6 ?_ | refine Z7 ?_ | refine Z8 ?_ | refine Z9 fun _ _ => ?_ | refine Za ‹_› ?_ | refine Zb ‹_› ?_ | refine Zc ‹_› trivial ?_ | refine Zd ‹_› trivial ?_ | refine Ze ‹_› trivial ?_ | refine Zf ‹_› ?_ | refine Zl ‹_› (by decide) ?_ | fail
    exact hQ.next (i + 1) [(30, 5)] (by omega) (by omega) rfl (by simp only [↓reduceIte, reduceCtorEq, reduceEqDiff, reduceAdd, reduceMul, reduceSub, reduceLeDiff, reduceEq, reduceLT, reduceLE, go_sem]; try simp)
  · simp only [decide_eq_false_iff_not] at h
    have e3 : i = s.size := by omega
    repeat' first | refine Z1 fun _ _ => ?_ | refine Z2 ‹_› ?_ | ((first | refine Z3 tb_ok lv23 rfl ?_ | refine ret_eq rfl ?_); simp only [↓reduceIte, reduceCtorEq, reduceEqDiff, reduceAdd, reduceMul, reduceSub, reduceLeDiff, reduceEq, reduceLT, reduceLE, go_sem]) | (refine Z5 rfl ?_; with_reducible first | refine condQ_T ?_ | refine condQ_F ?_) | refine Z6 ?_ | refine Z7 ?_ | refine Z8 ?_ | refine Z9 fun _ _ => ?_ | refine Za ‹_› ?_ | refine Zb ‹_› ?_ | refine Zc ‹_› trivial ?_ | refine Zd ‹_› trivial ?_ | refine Ze ‹_› trivial ?_ | refine Zf ‹_› ?_ | refine Zl ‹_› (by decide) ?_ | fail
    refine ⟨fun e he => by rw [he]; rfl, by rw [readL_len]; omega, by rw [readL_len]; omega, ?_⟩
    refine Cut.go ‹_› ?_; refine .freeze 15 rfl rfl ?_; simp only [↓reduceIte, reduceCtorEq, reduceEqDiff, reduceAdd, reduceMul, reduceSub, reduceLeDiff, reduceEq, reduceLT, reduceLE, go_sem]
    repeat' first | refine Z1 fun _ _ => ?_ | refine Z2 ‹_› ?_ | ((first | refine Z3 tb_ok lv23 rfl ?_ | refine ret_eq rfl ?_); simp only [↓reduceIte, reduceCtorEq, reduceEqDiff, reduceAdd, reduceMul, reduceSub, reduceLeDiff, reduceEq, reduceLT, reduceLE, go_sem]) | (refine Z5 rfl ?_; with_reducible first | refine condQ_T ?_ | refine condQ_F ?_) | refine Z6 ?_ | refine Z7 ?_ | refine Z8 ?_ | refine Z9 fun _ _ => ?_ | refine Za ‹_› ?_ | refine Zb ‹_› ?_ | refine Zc ‹_› trivial ?_ | refine Zd ‹_› trivial ?_ | refine Ze ‹_› trivial ?_ | refine Zf ‹_› ?_ | refine Zl ‹_› (by decide) ?_ | fail
    rw [e3, List.map_append]
    rfl
@[go_sem] def lv17 : List (Nat × List Nat) := [(0, [0]), (1, [3]), (2, [2])]
def bs17 : List (Nat × List Nat × List Nat) := []
theorem c_tokens {gl} {s : ByteArray} {l : List Tk} (hs : s.size ≤ 1000) (hc : ∀ i, i < s.size → byteAt s i = 46 ∨ 0 < shK (byteAt s i)) (hl : readL s s.size ++ [{ tkN 10 with t := s.size }] = l) : PCon Tryd.prog gl 17 [.str s] (tks l) := by
  subst hl
  refine PCon.enter tb_ok (fn := Tryd.f17) (by kernel_rfl) (by kernel_rfl) rfl (by show 1 ≤ 13; decide) ?_
  repeat' first | refine Z1 fun _ _ => ?_ | refine Z2 ‹_› ?_ | ((first | refine Z3 tb_ok lv17 rfl ?_ | refine ret_eq rfl ?_); simp only [↓reduceIte, reduceCtorEq, reduceEqDiff, reduceAdd, reduceMul, reduceSub, reduceLeDiff, reduceEq, reduceLT, reduceLE, go_sem]) | refine Z8 ?_ | refine Zc ‹_› trivial ?_ | fail
  refine call_pure rfl rfl (c_read hs hc) ?_; simp only [↓reduceIte, reduceCtorEq, reduceEqDiff, reduceAdd, reduceMul, reduceSub, reduceLeDiff, reduceEq, reduceLT, reduceLE, go_sem]
  repeat' first | refine Z1 fun _ _ => ?_ | refine Z2 ‹_› ?_ | ((first | refine Z3 tb_ok lv17 rfl ?_ | refine ret_eq rfl ?_); simp only [↓reduceIte, reduceCtorEq, reduceEqDiff, reduceAdd, reduceMul, reduceSub, reduceLeDiff, reduceEq, reduceLT, reduceLE, go_sem]) | refine Z8 ?_ | refine Zc ‹_› trivial ?_ | fail
end Go.Proofs.YtoidlnhgaaohdaaDoor
