/- ref01: Of, Row. -/
import Derived.Test.YtpibdbjlilpfiaaFormB
namespace Go.Proofs.Ytpibdbjlilpfiaa
set_option linter.all false
open Go Go.RowKit
open Nat (reduceEqDiff reduceAdd reduceMul reduceSub reduceLeDiff)
open Int (reduceEq reduceLT reduceLE)

theorem wrapu64 {z : Int} (h : 0 ≤ z) (h' : z ≤ 18446744073709551615) : IntKind.u64.wrap z = z := by
  simp only [IntKind.wrap, IntKind.bits, IntKind.signed]
  simp
  omega
def cellB (b : Bool) : List D := [.bool b]
def bools (l : List Bool) : D := .slice (l.map cellB)
/-- The word that some bools say. -/
def bitsN (l : List Bool) (w : Nat) : Nat → Int
  | 0 => 0
  | i + 1 => if l.getD (64 * w + i) false then bitsN l w i + (2 ^ i : Nat) else bitsN l w i
theorem bitsN_le {l : List Bool} {w : Nat} : ∀ i, 0 ≤ bitsN l w i ∧ bitsN l w i < (2 ^ i : Nat)
  | 0 => by simp [bitsN]
  | i + 1 => by
    have h := bitsN_le (l := l) (w := w) i
    have e : ((2 ^ (i + 1) : Nat) : Int) = (2 ^ i : Nat) + (2 ^ i : Nat) := by rw [Nat.pow_succ]; omega
    rw [bitsN, e]
    split <;> omega
theorem pow_le {i : Nat} (h : i ≤ 63) : 0 < (2 ^ i : Nat) ∧ (2 ^ i : Nat) ≤ 9223372036854775808 := by
  have key : ∀ i : Fin 64, 0 < (2 ^ i.val : Nat) ∧ (2 ^ i.val : Nat) ≤ 9223372036854775808 := by decide
  exact key ⟨i, by omega⟩
/-- The bit of the turn. -/
def bitI (i : Nat) : Int := if i ≤ 63 then (2 ^ i : Nat) else 0
theorem bitI_lt {i : Nat} (h : i < 64) : bitI i = (2 ^ i : Nat) := by rw [bitI, if_pos (by omega)]
theorem bitI_two {i : Nat} (h : i < 64) : IntKind.u64.wrap (bitI i * 2) = bitI (i + 1) := by
  have key : ∀ i : Fin 64, IntKind.u64.wrap (bitI i.val * 2) = bitI (i.val + 1) := by decide
  exact key ⟨i, h⟩
theorem bits_add {l : List Bool} {w i : Nat} (h : i < 64) (hb : l.getD (64 * w + i) false = true) : IntKind.u64.wrap (bitsN l w i + bitI i) = bitsN l w (i + 1) := by
  have h1 := bitsN_le (l := l) (w := w) i
  have h2 := pow_le (i := i) (by omega)
  rw [bitI_lt h, wrapu64 (by omega) (by omega), bitsN, if_pos hb]
theorem bits_not {l : List Bool} {w i : Nat} (hb : ¬ l.getD (64 * w + i) false = true) : bitsN l w (i + 1) = bitsN l w i := by
  rw [bitsN, if_neg hb]
/-- A word of the class, once w words are done. -/
def wordW (l : List Bool) (w : Int) (v : Nat) : Int := if (v : Int) < w then bitsN l v 64 else 0
def classOf (l : List Bool) : D := .agg [.int .u64 (bitsN l 0 64), .int .u64 (bitsN l 1 64), .int .u64 (bitsN l 2 64), .int .u64 (bitsN l 3 64)]

@[go_sem] def lv47 : List (Nat × List Nat) := [(0, [0, 2]), (1, [0, 2, 3]), (2, [0, 2, 3, 4]), (3, [0, 2, 3, 4, 8]), (4, [0, 2, 3, 4]), (5, [0, 2, 3, 4, 5]), (6, [0, 2, 3, 4, 5, 6]), (7, [0, 2, 3, 4, 5, 6, 12]), (8, [0, 2, 3, 4, 5, 6]), (9, [0, 2, 3, 4, 5, 6, 21]), (10, [0, 2, 3, 4, 5, 6]), (11, [0, 2, 3, 4, 5, 6]), (12, [2])]
def bs47 : List (Nat × List Nat × List Nat) := []
set_option maxRecDepth 4000 in
set_option maxHeartbeats 2000000 in
theorem c_ref01Of {gl} {l : List Bool} (hl : l.length = 256) : PCon Try.prog gl 47 [bools l] (classOf l) := by
  refine PCon.enter tb_ok (fn := Try.f47) (by kernel_rfl) (by kernel_rfl) rfl (by show 1 ≤ 32; decide) ?_
  repeat' first | refine Z1 fun _ _ => ?_ | refine Z2 ‹_› ?_ | ((first | refine Z3 tb_ok lv47 rfl ?_ | refine Zr rfl ?_); simp only [↓reduceIte, reduceCtorEq, reduceEqDiff, reduceAdd, reduceMul, reduceSub, reduceLeDiff, reduceEq, reduceLT, reduceLE, go_sem]) | (refine Z5 rfl ?_; with_reducible first | refine ZT ?_ | refine ZF ?_) | refine ZS rfl ?_ | refine Z9 fun _ _ => ?_ | refine ZH ?_ | refine Zl ‹_› (by decide) ?_ | fail
  refine .loopC (α := Int) (fun w => ⟨[(0, .d (bools l)), (2, .ref 0 0), (3, .ref 1 0), (4, .d (.int .i64 w))], [(0, .box true [.d (.int .u64 0), .d (.int .u64 0), .d (.int .u64 0), .d (.int .u64 0)]), (1, .box true [.d (.int .u64 (wordW l w 0)), .d (.int .u64 (wordW l w 1)), .d (.int .u64 (wordW l w 2)), .d (.int .u64 (wordW l w 3))])], 2⟩) (fun w => 0 ≤ w ∧ w ≤ 4) (fun w => (4 - w).toNat) 0 ⟨by omega, by omega⟩ (by simp only [↓reduceIte, reduceCtorEq, reduceEqDiff, reduceAdd, reduceMul, reduceSub, reduceLeDiff, reduceEq, reduceLT, reduceLE, go_sem]; simp [wordW]) ?_
  intro w hw Q hQ
  rcases (by omega : w = 0 ∨ w = 1 ∨ w = 2 ∨ w = 3 ∨ w = 4) with rfl | rfl | rfl | rfl | rfl
  · repeat' first | refine Z1 fun _ _ => ?_ | refine Z2 ‹_› ?_ | ((first | refine Z3 tb_ok lv47 rfl ?_ | refine Zr rfl ?_); simp only [↓reduceIte, reduceCtorEq, reduceEqDiff, reduceAdd, reduceMul, reduceSub, reduceLeDiff, reduceEq, reduceLT, reduceLE, go_sem]) | (refine Z5 rfl ?_; with_reducible first | refine ZT ?_ | refine ZF ?_) | refine ZS rfl ?_ | refine Z9 fun _ _ => ?_ | refine ZH ?_ | refine Zl ‹_› (by decide) ?_ | fail
    refine .loopC (α := Nat) (fun i => ⟨[(0, .d (bools l)), (2, .ref 0 0), (3, .ref 1 0), (4, .d (.int .i64 0)), (5, .d (.int .u64 (bitI i))), (6, .d (.int .i64 i))], [(0, .box true [.d (.int .u64 0), .d (.int .u64 0), .d (.int .u64 0), .d (.int .u64 0)]), (1, .box true [.d (.int .u64 (bitsN l 0 i)), .d (.int .u64 (wordW l 0 1)), .d (.int .u64 (wordW l 0 2)), .d (.int .u64 (wordW l 0 3))])], 2⟩) (fun i => i ≤ 64) (fun i => 64 - i) 0 (by omega) (by simp only [↓reduceIte, reduceCtorEq, reduceEqDiff, reduceAdd, reduceMul, reduceSub, reduceLeDiff, reduceEq, reduceLT, reduceLE, go_sem]; simp only [wordW]; simp [bitsN.eq_1, bitI]) ?_
    intro i hi Q2 hQ2
    repeat' first | refine Z1 fun _ _ => ?_ | refine Z2 ‹_› ?_ | ((first | refine Z3 tb_ok lv47 rfl ?_ | refine Zr rfl ?_); simp only [↓reduceIte, reduceCtorEq, reduceEqDiff, reduceAdd, reduceMul, reduceSub, reduceLeDiff, reduceEq, reduceLT, reduceLE, go_sem]) | (refine Z5 rfl ?_; with_reducible first | refine ZT ?_ | refine ZF ?_) | refine ZS rfl ?_ | refine Z9 fun _ _ => ?_ | refine ZH ?_ | refine Zl ‹_› (by decide) ?_ | fail
    refine .cond rfl (fun h => ?_) (fun h => ?_)
    · simp only [decide_eq_true_eq] at h
      repeat' first | refine Z1 fun _ _ => ?_ | refine Z2 ‹_› ?_ | ((first | refine Z3 tb_ok lv47 rfl ?_ | refine Zr rfl ?_); simp only [↓reduceIte, reduceCtorEq, reduceEqDiff, reduceAdd, reduceMul, reduceSub, reduceLeDiff, reduceEq, reduceLT, reduceLE, go_sem]) | (refine Z5 rfl ?_; with_reducible first | refine ZT ?_ | refine ZF ?_) | refine ZS rfl ?_ | refine Z9 fun _ _ => ?_ | refine ZH ?_ | refine Zl ‹_› (by decide) ?_ | fail
      rw [show IntKind.i64.wrap (64 * 0) = 0 from rfl]
      refine idx_map (j := 64 * 0 + i) false rfl rfl rfl rfl (by rw [wrap64 (by omega) (by omega)]; omega) (by rw [wrap64 (by omega) (by omega)]; omega) (by omega) rfl ?_
      simp only [↓reduceIte, reduceCtorEq, reduceEqDiff, reduceAdd, reduceMul, reduceSub, reduceLeDiff, reduceEq, reduceLT, reduceLE, go_sem]
      repeat' first | refine Z1 fun _ _ => ?_ | refine Z2 ‹_› ?_ | ((first | refine Z3 tb_ok lv47 rfl ?_ | refine Zr rfl ?_); simp only [↓reduceIte, reduceCtorEq, reduceEqDiff, reduceAdd, reduceMul, reduceSub, reduceLeDiff, reduceEq, reduceLT, reduceLE, go_sem]) | (refine Z5 rfl ?_; with_reducible first | refine ZT ?_ | refine ZF ?_) | refine ZS rfl ?_ | refine Z9 fun _ _ => ?_ | refine ZH ?_ | refine Zl ‹_› (by decide) ?_ | fail
      refine .cond rfl (fun hb => ?_) (fun hb => ?_)
      · repeat' first | refine Z1 fun _ _ => ?_ | refine Z2 ‹_› ?_ | ((first | refine Z3 tb_ok lv47 rfl ?_ | refine Zr rfl ?_); simp only [↓reduceIte, reduceCtorEq, reduceEqDiff, reduceAdd, reduceMul, reduceSub, reduceLeDiff, reduceEq, reduceLT, reduceLE, go_sem]) | (refine Z5 rfl ?_; with_reducible first | refine ZT ?_ | refine ZF ?_) | refine ZS rfl ?_ | refine Z9 fun _ _ => ?_ | refine ZH ?_ | refine Zl ‹_› (by decide) ?_ | fail
        refine idx_arr (j := 0) rfl rfl rfl rfl rfl (by decide) (by decide) ?_
        simp only [↓reduceIte, reduceCtorEq, reduceEqDiff, reduceAdd, reduceMul, reduceSub, reduceLeDiff, reduceEq, reduceLT, reduceLE, go_sem]
        repeat' first | refine Z1 fun _ _ => ?_ | refine Z2 ‹_› ?_ | ((first | refine Z3 tb_ok lv47 rfl ?_ | refine Zr rfl ?_); simp only [↓reduceIte, reduceCtorEq, reduceEqDiff, reduceAdd, reduceMul, reduceSub, reduceLeDiff, reduceEq, reduceLT, reduceLE, go_sem]) | (refine Z5 rfl ?_; with_reducible first | refine ZT ?_ | refine ZF ?_) | refine ZS rfl ?_ | refine Z9 fun _ _ => ?_ | refine ZH ?_ | refine Zl ‹_› (by decide) ?_ | fail
        refine idx_arr (j := 0) rfl rfl rfl rfl rfl (by decide) (by decide) ?_
        simp only [↓reduceIte, reduceCtorEq, reduceEqDiff, reduceAdd, reduceMul, reduceSub, reduceLeDiff, reduceEq, reduceLT, reduceLE, go_sem]
        repeat' first | refine Z1 fun _ _ => ?_ | refine Z2 ‹_› ?_ | ((first | refine Z3 tb_ok lv47 rfl ?_ | refine Zr rfl ?_); simp only [↓reduceIte, reduceCtorEq, reduceEqDiff, reduceAdd, reduceMul, reduceSub, reduceLeDiff, reduceEq, reduceLT, reduceLE, go_sem]) | (refine Z5 rfl ?_; with_reducible first | refine ZT ?_ | refine ZF ?_) | refine ZS rfl ?_ | refine Z9 fun _ _ => ?_ | refine ZH ?_ | refine Zl ‹_› (by decide) ?_ | fail
        rw [bits_add (by omega) hb, bitI_two (by omega), wrap64 (by omega) (by omega)]
        exact hQ2.next (i + 1) (by omega) (by omega) (by simp only [↓reduceIte, reduceCtorEq, reduceEqDiff, reduceAdd, reduceMul, reduceSub, reduceLeDiff, reduceEq, reduceLT, reduceLE, go_sem]; try simp)
      · repeat' first | refine Z1 fun _ _ => ?_ | refine Z2 ‹_› ?_ | ((first | refine Z3 tb_ok lv47 rfl ?_ | refine Zr rfl ?_); simp only [↓reduceIte, reduceCtorEq, reduceEqDiff, reduceAdd, reduceMul, reduceSub, reduceLeDiff, reduceEq, reduceLT, reduceLE, go_sem]) | (refine Z5 rfl ?_; with_reducible first | refine ZT ?_ | refine ZF ?_) | refine ZS rfl ?_ | refine Z9 fun _ _ => ?_ | refine ZH ?_ | refine Zl ‹_› (by decide) ?_ | fail
        rw [bitI_two (by omega), wrap64 (by omega) (by omega)]
        exact hQ2.next (i + 1) (by omega) (by omega) (by simp only [↓reduceIte, reduceCtorEq, reduceEqDiff, reduceAdd, reduceMul, reduceSub, reduceLeDiff, reduceEq, reduceLT, reduceLE, go_sem]; rw [bits_not (by simpa using hb)]; try simp)
    · simp only [decide_eq_false_iff_not] at h
      obtain rfl : i = 64 := by omega
      repeat' first | refine Z1 fun _ _ => ?_ | refine Z2 ‹_› ?_ | ((first | refine Z3 tb_ok lv47 rfl ?_ | refine Zr rfl ?_); simp only [↓reduceIte, reduceCtorEq, reduceEqDiff, reduceAdd, reduceMul, reduceSub, reduceLeDiff, reduceEq, reduceLT, reduceLE, go_sem]) | (refine Z5 rfl ?_; with_reducible first | refine ZT ?_ | refine ZF ?_) | refine ZS rfl ?_ | refine Z9 fun _ _ => ?_ | refine ZH ?_ | refine Zl ‹_› (by decide) ?_ | fail
      exact hQ.next 1 ⟨by omega, by omega⟩ (by decide) (by simp only [↓reduceIte, reduceCtorEq, reduceEqDiff, reduceAdd, reduceMul, reduceSub, reduceLeDiff, reduceEq, reduceLT, reduceLE, go_sem]; try simp only [wordW]; try simp; try rfl)
  · repeat' first | refine Z1 fun _ _ => ?_ | refine Z2 ‹_› ?_ | ((first | refine Z3 tb_ok lv47 rfl ?_ | refine Zr rfl ?_); simp only [↓reduceIte, reduceCtorEq, reduceEqDiff, reduceAdd, reduceMul, reduceSub, reduceLeDiff, reduceEq, reduceLT, reduceLE, go_sem]) | (refine Z5 rfl ?_; with_reducible first | refine ZT ?_ | refine ZF ?_) | refine ZS rfl ?_ | refine Z9 fun _ _ => ?_ | refine ZH ?_ | refine Zl ‹_› (by decide) ?_ | fail
    refine .loopC (α := Nat) (fun i => ⟨[(0, .d (bools l)), (2, .ref 0 0), (3, .ref 1 0), (4, .d (.int .i64 1)), (5, .d (.int .u64 (bitI i))), (6, .d (.int .i64 i))], [(0, .box true [.d (.int .u64 0), .d (.int .u64 0), .d (.int .u64 0), .d (.int .u64 0)]), (1, .box true [.d (.int .u64 (wordW l 1 0)), .d (.int .u64 (bitsN l 1 i)), .d (.int .u64 (wordW l 1 2)), .d (.int .u64 (wordW l 1 3))])], 2⟩) (fun i => i ≤ 64) (fun i => 64 - i) 0 (by omega) (by simp only [↓reduceIte, reduceCtorEq, reduceEqDiff, reduceAdd, reduceMul, reduceSub, reduceLeDiff, reduceEq, reduceLT, reduceLE, go_sem]; simp only [wordW]; simp [bitsN.eq_1, bitI]) ?_
    intro i hi Q2 hQ2
    repeat' first | refine Z1 fun _ _ => ?_ | refine Z2 ‹_› ?_ | ((first | refine Z3 tb_ok lv47 rfl ?_ | refine Zr rfl ?_); simp only [↓reduceIte, reduceCtorEq, reduceEqDiff, reduceAdd, reduceMul, reduceSub, reduceLeDiff, reduceEq, reduceLT, reduceLE, go_sem]) | (refine Z5 rfl ?_; with_reducible first | refine ZT ?_ | refine ZF ?_) | refine ZS rfl ?_ | refine Z9 fun _ _ => ?_ | refine ZH ?_ | refine Zl ‹_› (by decide) ?_ | fail
    refine .cond rfl (fun h => ?_) (fun h => ?_)
    · simp only [decide_eq_true_eq] at h
      repeat' first | refine Z1 fun _ _ => ?_ | refine Z2 ‹_› ?_ | ((first | refine Z3 tb_ok lv47 rfl ?_ | refine Zr rfl ?_); simp only [↓reduceIte, reduceCtorEq, reduceEqDiff, reduceAdd, reduceMul, reduceSub, reduceLeDiff, reduceEq, reduceLT, reduceLE, go_sem]) | (refine Z5 rfl ?_; with_reducible first | refine ZT ?_ | refine ZF ?_) | refine ZS rfl ?_ | refine Z9 fun _ _ => ?_ | refine ZH ?_ | refine Zl ‹_› (by decide) ?_ | fail
      rw [show IntKind.i64.wrap (64 * 1) = 64 from rfl]
      refine idx_map (j := 64 * 1 + i) false rfl rfl rfl rfl (by rw [wrap64 (by omega) (by omega)]; omega) (by rw [wrap64 (by omega) (by omega)]; omega) (by omega) rfl ?_
      simp only [↓reduceIte, reduceCtorEq, reduceEqDiff, reduceAdd, reduceMul, reduceSub, reduceLeDiff, reduceEq, reduceLT, reduceLE, go_sem]
      repeat' first | refine Z1 fun _ _ => ?_ | refine Z2 ‹_› ?_ | ((first | refine Z3 tb_ok lv47 rfl ?_ | refine Zr rfl ?_); simp only [↓reduceIte, reduceCtorEq, reduceEqDiff, reduceAdd, reduceMul, reduceSub, reduceLeDiff, reduceEq, reduceLT, reduceLE, go_sem]) | (refine Z5 rfl ?_; with_reducible first | refine ZT ?_ | refine ZF ?_) | refine ZS rfl ?_ | refine Z9 fun _ _ => ?_ | refine ZH ?_ | refine Zl ‹_› (by decide) ?_ | fail
      refine .cond rfl (fun hb => ?_) (fun hb => ?_)
      · repeat' first | refine Z1 fun _ _ => ?_ | refine Z2 ‹_› ?_ | ((first | refine Z3 tb_ok lv47 rfl ?_ | refine Zr rfl ?_); simp only [↓reduceIte, reduceCtorEq, reduceEqDiff, reduceAdd, reduceMul, reduceSub, reduceLeDiff, reduceEq, reduceLT, reduceLE, go_sem]) | (refine Z5 rfl ?_; with_reducible first | refine ZT ?_ | refine ZF ?_) | refine ZS rfl ?_ | refine Z9 fun _ _ => ?_ | refine ZH ?_ | refine Zl ‹_› (by decide) ?_ | fail
        refine idx_arr (j := 1) rfl rfl rfl rfl rfl (by decide) (by decide) ?_
        simp only [↓reduceIte, reduceCtorEq, reduceEqDiff, reduceAdd, reduceMul, reduceSub, reduceLeDiff, reduceEq, reduceLT, reduceLE, go_sem]
        repeat' first | refine Z1 fun _ _ => ?_ | refine Z2 ‹_› ?_ | ((first | refine Z3 tb_ok lv47 rfl ?_ | refine Zr rfl ?_); simp only [↓reduceIte, reduceCtorEq, reduceEqDiff, reduceAdd, reduceMul, reduceSub, reduceLeDiff, reduceEq, reduceLT, reduceLE, go_sem]) | (refine Z5 rfl ?_; with_reducible first | refine ZT ?_ | refine ZF ?_) | refine ZS rfl ?_ | refine Z9 fun _ _ => ?_ | refine ZH ?_ | refine Zl ‹_› (by decide) ?_ | fail
        refine idx_arr (j := 1) rfl rfl rfl rfl rfl (by decide) (by decide) ?_
        simp only [↓reduceIte, reduceCtorEq, reduceEqDiff, reduceAdd, reduceMul, reduceSub, reduceLeDiff, reduceEq, reduceLT, reduceLE, go_sem]
        repeat' first | refine Z1 fun _ _ => ?_ | refine Z2 ‹_› ?_ | ((first | refine Z3 tb_ok lv47 rfl ?_ | refine Zr rfl ?_); simp only [↓reduceIte, reduceCtorEq, reduceEqDiff, reduceAdd, reduceMul, reduceSub, reduceLeDiff, reduceEq, reduceLT, reduceLE, go_sem]) | (refine Z5 rfl ?_; with_reducible first | refine ZT ?_ | refine ZF ?_) | refine ZS rfl ?_ | refine Z9 fun _ _ => ?_ | refine ZH ?_ | refine Zl ‹_› (by decide) ?_ | fail
        rw [bits_add (by omega) hb, bitI_two (by omega), wrap64 (by omega) (by omega)]
        exact hQ2.next (i + 1) (by omega) (by omega) (by simp only [↓reduceIte, reduceCtorEq, reduceEqDiff, reduceAdd, reduceMul, reduceSub, reduceLeDiff, reduceEq, reduceLT, reduceLE, go_sem]; try simp)
      · repeat' first | refine Z1 fun _ _ => ?_ | refine Z2 ‹_› ?_ | ((first | refine Z3 tb_ok lv47 rfl ?_ | refine Zr rfl ?_); simp only [↓reduceIte, reduceCtorEq, reduceEqDiff, reduceAdd, reduceMul, reduceSub, reduceLeDiff, reduceEq, reduceLT, reduceLE, go_sem]) | (refine Z5 rfl ?_; with_reducible first | refine ZT ?_ | refine ZF ?_) | refine ZS rfl ?_ | refine Z9 fun _ _ => ?_ | refine ZH ?_ | refine Zl ‹_› (by decide) ?_ | fail
        rw [bitI_two (by omega), wrap64 (by omega) (by omega)]
        exact hQ2.next (i + 1) (by omega) (by omega) (by simp only [↓reduceIte, reduceCtorEq, reduceEqDiff, reduceAdd, reduceMul, reduceSub, reduceLeDiff, reduceEq, reduceLT, reduceLE, go_sem]; rw [bits_not (by simpa using hb)]; try simp)
    · simp only [decide_eq_false_iff_not] at h
      obtain rfl : i = 64 := by omega
      repeat' first | refine Z1 fun _ _ => ?_ | refine Z2 ‹_› ?_ | ((first | refine Z3 tb_ok lv47 rfl ?_ | refine Zr rfl ?_); simp only [↓reduceIte, reduceCtorEq, reduceEqDiff, reduceAdd, reduceMul, reduceSub, reduceLeDiff, reduceEq, reduceLT, reduceLE, go_sem]) | (refine Z5 rfl ?_; with_reducible first | refine ZT ?_ | refine ZF ?_) | refine ZS rfl ?_ | refine Z9 fun _ _ => ?_ | refine ZH ?_ | refine Zl ‹_› (by decide) ?_ | fail
      exact hQ.next 2 ⟨by omega, by omega⟩ (by decide) (by simp only [↓reduceIte, reduceCtorEq, reduceEqDiff, reduceAdd, reduceMul, reduceSub, reduceLeDiff, reduceEq, reduceLT, reduceLE, go_sem]; try simp only [wordW]; try simp; try rfl)
  · repeat' first | refine Z1 fun _ _ => ?_ | refine Z2 ‹_› ?_ | ((first | refine Z3 tb_ok lv47 rfl ?_ | refine Zr rfl ?_); simp only [↓reduceIte, reduceCtorEq, reduceEqDiff, reduceAdd, reduceMul, reduceSub, reduceLeDiff, reduceEq, reduceLT, reduceLE, go_sem]) | (refine Z5 rfl ?_; with_reducible first | refine ZT ?_ | refine ZF ?_) | refine ZS rfl ?_ | refine Z9 fun _ _ => ?_ | refine ZH ?_ | refine Zl ‹_› (by decide) ?_ | fail
    refine .loopC (α := Nat) (fun i => ⟨[(0, .d (bools l)), (2, .ref 0 0), (3, .ref 1 0), (4, .d (.int .i64 2)), (5, .d (.int .u64 (bitI i))), (6, .d (.int .i64 i))], [(0, .box true [.d (.int .u64 0), .d (.int .u64 0), .d (.int .u64 0), .d (.int .u64 0)]), (1, .box true [.d (.int .u64 (wordW l 2 0)), .d (.int .u64 (wordW l 2 1)), .d (.int .u64 (bitsN l 2 i)), .d (.int .u64 (wordW l 2 3))])], 2⟩) (fun i => i ≤ 64) (fun i => 64 - i) 0 (by omega) (by simp only [↓reduceIte, reduceCtorEq, reduceEqDiff, reduceAdd, reduceMul, reduceSub, reduceLeDiff, reduceEq, reduceLT, reduceLE, go_sem]; simp only [wordW]; simp [bitsN.eq_1, bitI]) ?_
    intro i hi Q2 hQ2
    repeat' first | refine Z1 fun _ _ => ?_ | refine Z2 ‹_› ?_ | ((first | refine Z3 tb_ok lv47 rfl ?_ | refine Zr rfl ?_); simp only [↓reduceIte, reduceCtorEq, reduceEqDiff, reduceAdd, reduceMul, reduceSub, reduceLeDiff, reduceEq, reduceLT, reduceLE, go_sem]) | (refine Z5 rfl ?_; with_reducible first | refine ZT ?_ | refine ZF ?_) | refine ZS rfl ?_ | refine Z9 fun _ _ => ?_ | refine ZH ?_ | refine Zl ‹_› (by decide) ?_ | fail
    refine .cond rfl (fun h => ?_) (fun h => ?_)
    · simp only [decide_eq_true_eq] at h
      repeat' first | refine Z1 fun _ _ => ?_ | refine Z2 ‹_› ?_ | ((first | refine Z3 tb_ok lv47 rfl ?_ | refine Zr rfl ?_); simp only [↓reduceIte, reduceCtorEq, reduceEqDiff, reduceAdd, reduceMul, reduceSub, reduceLeDiff, reduceEq, reduceLT, reduceLE, go_sem]) | (refine Z5 rfl ?_; with_reducible first | refine ZT ?_ | refine ZF ?_) | refine ZS rfl ?_ | refine Z9 fun _ _ => ?_ | refine ZH ?_ | refine Zl ‹_› (by decide) ?_ | fail
      rw [show IntKind.i64.wrap (64 * 2) = 128 from rfl]
      refine idx_map (j := 64 * 2 + i) false rfl rfl rfl rfl (by rw [wrap64 (by omega) (by omega)]; omega) (by rw [wrap64 (by omega) (by omega)]; omega) (by omega) rfl ?_
      simp only [↓reduceIte, reduceCtorEq, reduceEqDiff, reduceAdd, reduceMul, reduceSub, reduceLeDiff, reduceEq, reduceLT, reduceLE, go_sem]
      repeat' first | refine Z1 fun _ _ => ?_ | refine Z2 ‹_› ?_ | ((first | refine Z3 tb_ok lv47 rfl ?_ | refine Zr rfl ?_); simp only [↓reduceIte, reduceCtorEq, reduceEqDiff, reduceAdd, reduceMul, reduceSub, reduceLeDiff, reduceEq, reduceLT, reduceLE, go_sem]) | (refine Z5 rfl ?_; with_reducible first | refine ZT ?_ | refine ZF ?_) | refine ZS rfl ?_ | refine Z9 fun _ _ => ?_ | refine ZH ?_ | refine Zl ‹_› (by decide) ?_ | fail
      refine .cond rfl (fun hb => ?_) (fun hb => ?_)
      · repeat' first | refine Z1 fun _ _ => ?_ | refine Z2 ‹_› ?_ | ((first | refine Z3 tb_ok lv47 rfl ?_ | refine Zr rfl ?_); simp only [↓reduceIte, reduceCtorEq, reduceEqDiff, reduceAdd, reduceMul, reduceSub, reduceLeDiff, reduceEq, reduceLT, reduceLE, go_sem]) | (refine Z5 rfl ?_; with_reducible first | refine ZT ?_ | refine ZF ?_) | refine ZS rfl ?_ | refine Z9 fun _ _ => ?_ | refine ZH ?_ | refine Zl ‹_› (by decide) ?_ | fail
        refine idx_arr (j := 2) rfl rfl rfl rfl rfl (by decide) (by decide) ?_
        simp only [↓reduceIte, reduceCtorEq, reduceEqDiff, reduceAdd, reduceMul, reduceSub, reduceLeDiff, reduceEq, reduceLT, reduceLE, go_sem]
        repeat' first | refine Z1 fun _ _ => ?_ | refine Z2 ‹_› ?_ | ((first | refine Z3 tb_ok lv47 rfl ?_ | refine Zr rfl ?_); simp only [↓reduceIte, reduceCtorEq, reduceEqDiff, reduceAdd, reduceMul, reduceSub, reduceLeDiff, reduceEq, reduceLT, reduceLE, go_sem]) | (refine Z5 rfl ?_; with_reducible first | refine ZT ?_ | refine ZF ?_) | refine ZS rfl ?_ | refine Z9 fun _ _ => ?_ | refine ZH ?_ | refine Zl ‹_› (by decide) ?_ | fail
        refine idx_arr (j := 2) rfl rfl rfl rfl rfl (by decide) (by decide) ?_
        simp only [↓reduceIte, reduceCtorEq, reduceEqDiff, reduceAdd, reduceMul, reduceSub, reduceLeDiff, reduceEq, reduceLT, reduceLE, go_sem]
        repeat' first | refine Z1 fun _ _ => ?_ | refine Z2 ‹_› ?_ | ((first | refine Z3 tb_ok lv47 rfl ?_ | refine Zr rfl ?_); simp only [↓reduceIte, reduceCtorEq, reduceEqDiff, reduceAdd, reduceMul, reduceSub, reduceLeDiff, reduceEq, reduceLT, reduceLE, go_sem]) | (refine Z5 rfl ?_; with_reducible first | refine ZT ?_ | refine ZF ?_) | refine ZS rfl ?_ | refine Z9 fun _ _ => ?_ | refine ZH ?_ | refine Zl ‹_› (by decide) ?_ | fail
        rw [bits_add (by omega) hb, bitI_two (by omega), wrap64 (by omega) (by omega)]
        exact hQ2.next (i + 1) (by omega) (by omega) (by simp only [↓reduceIte, reduceCtorEq, reduceEqDiff, reduceAdd, reduceMul, reduceSub, reduceLeDiff, reduceEq, reduceLT, reduceLE, go_sem]; try simp)
      · repeat' first | refine Z1 fun _ _ => ?_ | refine Z2 ‹_› ?_ | ((first | refine Z3 tb_ok lv47 rfl ?_ | refine Zr rfl ?_); simp only [↓reduceIte, reduceCtorEq, reduceEqDiff, reduceAdd, reduceMul, reduceSub, reduceLeDiff, reduceEq, reduceLT, reduceLE, go_sem]) | (refine Z5 rfl ?_; with_reducible first | refine ZT ?_ | refine ZF ?_) | refine ZS rfl ?_ | refine Z9 fun _ _ => ?_ | refine ZH ?_ | refine Zl ‹_› (by decide) ?_ | fail
        rw [bitI_two (by omega), wrap64 (by omega) (by omega)]
        exact hQ2.next (i + 1) (by omega) (by omega) (by simp only [↓reduceIte, reduceCtorEq, reduceEqDiff, reduceAdd, reduceMul, reduceSub, reduceLeDiff, reduceEq, reduceLT, reduceLE, go_sem]; rw [bits_not (by simpa using hb)]; try simp)
    · simp only [decide_eq_false_iff_not] at h
      obtain rfl : i = 64 := by omega
      repeat' first | refine Z1 fun _ _ => ?_ | refine Z2 ‹_› ?_ | ((first | refine Z3 tb_ok lv47 rfl ?_ | refine Zr rfl ?_); simp only [↓reduceIte, reduceCtorEq, reduceEqDiff, reduceAdd, reduceMul, reduceSub, reduceLeDiff, reduceEq, reduceLT, reduceLE, go_sem]) | (refine Z5 rfl ?_; with_reducible first | refine ZT ?_ | refine ZF ?_) | refine ZS rfl ?_ | refine Z9 fun _ _ => ?_ | refine ZH ?_ | refine Zl ‹_› (by decide) ?_ | fail
      exact hQ.next 3 ⟨by omega, by omega⟩ (by decide) (by simp only [↓reduceIte, reduceCtorEq, reduceEqDiff, reduceAdd, reduceMul, reduceSub, reduceLeDiff, reduceEq, reduceLT, reduceLE, go_sem]; try simp only [wordW]; try simp; try rfl)
  · repeat' first | refine Z1 fun _ _ => ?_ | refine Z2 ‹_› ?_ | ((first | refine Z3 tb_ok lv47 rfl ?_ | refine Zr rfl ?_); simp only [↓reduceIte, reduceCtorEq, reduceEqDiff, reduceAdd, reduceMul, reduceSub, reduceLeDiff, reduceEq, reduceLT, reduceLE, go_sem]) | (refine Z5 rfl ?_; with_reducible first | refine ZT ?_ | refine ZF ?_) | refine ZS rfl ?_ | refine Z9 fun _ _ => ?_ | refine ZH ?_ | refine Zl ‹_› (by decide) ?_ | fail
    refine .loopC (α := Nat) (fun i => ⟨[(0, .d (bools l)), (2, .ref 0 0), (3, .ref 1 0), (4, .d (.int .i64 3)), (5, .d (.int .u64 (bitI i))), (6, .d (.int .i64 i))], [(0, .box true [.d (.int .u64 0), .d (.int .u64 0), .d (.int .u64 0), .d (.int .u64 0)]), (1, .box true [.d (.int .u64 (wordW l 3 0)), .d (.int .u64 (wordW l 3 1)), .d (.int .u64 (wordW l 3 2)), .d (.int .u64 (bitsN l 3 i))])], 2⟩) (fun i => i ≤ 64) (fun i => 64 - i) 0 (by omega) (by simp only [↓reduceIte, reduceCtorEq, reduceEqDiff, reduceAdd, reduceMul, reduceSub, reduceLeDiff, reduceEq, reduceLT, reduceLE, go_sem]; simp only [wordW]; simp [bitsN.eq_1, bitI]) ?_
    intro i hi Q2 hQ2
    repeat' first | refine Z1 fun _ _ => ?_ | refine Z2 ‹_› ?_ | ((first | refine Z3 tb_ok lv47 rfl ?_ | refine Zr rfl ?_); simp only [↓reduceIte, reduceCtorEq, reduceEqDiff, reduceAdd, reduceMul, reduceSub, reduceLeDiff, reduceEq, reduceLT, reduceLE, go_sem]) | (refine Z5 rfl ?_; with_reducible first | refine ZT ?_ | refine ZF ?_) | refine ZS rfl ?_ | refine Z9 fun _ _ => ?_ | refine ZH ?_ | refine Zl ‹_› (by decide) ?_ | fail
    refine .cond rfl (fun h => ?_) (fun h => ?_)
    · simp only [decide_eq_true_eq] at h
      repeat' first | refine Z1 fun _ _ => ?_ | refine Z2 ‹_› ?_ | ((first | refine Z3 tb_ok lv47 rfl ?_ | refine Zr rfl ?_); simp only [↓reduceIte, reduceCtorEq, reduceEqDiff, reduceAdd, reduceMul, reduceSub, reduceLeDiff, reduceEq, reduceLT, reduceLE, go_sem]) | (refine Z5 rfl ?_; with_reducible first | refine ZT ?_ | refine ZF ?_) | refine ZS rfl ?_ | refine Z9 fun _ _ => ?_ | refine ZH ?_ | refine Zl ‹_› (by decide) ?_ | fail
      rw [show IntKind.i64.wrap (64 * 3) = 192 from rfl]
      refine idx_map (j := 64 * 3 + i) false rfl rfl rfl rfl (by rw [wrap64 (by omega) (by omega)]; omega) (by rw [wrap64 (by omega) (by omega)]; omega) (by omega) rfl ?_
      simp only [↓reduceIte, reduceCtorEq, reduceEqDiff, reduceAdd, reduceMul, reduceSub, reduceLeDiff, reduceEq, reduceLT, reduceLE, go_sem]
      repeat' first | refine Z1 fun _ _ => ?_ | refine Z2 ‹_› ?_ | ((first | refine Z3 tb_ok lv47 rfl ?_ | refine Zr rfl ?_); simp only [↓reduceIte, reduceCtorEq, reduceEqDiff, reduceAdd, reduceMul, reduceSub, reduceLeDiff, reduceEq, reduceLT, reduceLE, go_sem]) | (refine Z5 rfl ?_; with_reducible first | refine ZT ?_ | refine ZF ?_) | refine ZS rfl ?_ | refine Z9 fun _ _ => ?_ | refine ZH ?_ | refine Zl ‹_› (by decide) ?_ | fail
      refine .cond rfl (fun hb => ?_) (fun hb => ?_)
      · repeat' first | refine Z1 fun _ _ => ?_ | refine Z2 ‹_› ?_ | ((first | refine Z3 tb_ok lv47 rfl ?_ | refine Zr rfl ?_); simp only [↓reduceIte, reduceCtorEq, reduceEqDiff, reduceAdd, reduceMul, reduceSub, reduceLeDiff, reduceEq, reduceLT, reduceLE, go_sem]) | (refine Z5 rfl ?_; with_reducible first | refine ZT ?_ | refine ZF ?_) | refine ZS rfl ?_ | refine Z9 fun _ _ => ?_ | refine ZH ?_ | refine Zl ‹_› (by decide) ?_ | fail
        refine idx_arr (j := 3) rfl rfl rfl rfl rfl (by decide) (by decide) ?_
        simp only [↓reduceIte, reduceCtorEq, reduceEqDiff, reduceAdd, reduceMul, reduceSub, reduceLeDiff, reduceEq, reduceLT, reduceLE, go_sem]
        repeat' first | refine Z1 fun _ _ => ?_ | refine Z2 ‹_› ?_ | ((first | refine Z3 tb_ok lv47 rfl ?_ | refine Zr rfl ?_); simp only [↓reduceIte, reduceCtorEq, reduceEqDiff, reduceAdd, reduceMul, reduceSub, reduceLeDiff, reduceEq, reduceLT, reduceLE, go_sem]) | (refine Z5 rfl ?_; with_reducible first | refine ZT ?_ | refine ZF ?_) | refine ZS rfl ?_ | refine Z9 fun _ _ => ?_ | refine ZH ?_ | refine Zl ‹_› (by decide) ?_ | fail
        refine idx_arr (j := 3) rfl rfl rfl rfl rfl (by decide) (by decide) ?_
        simp only [↓reduceIte, reduceCtorEq, reduceEqDiff, reduceAdd, reduceMul, reduceSub, reduceLeDiff, reduceEq, reduceLT, reduceLE, go_sem]
        repeat' first | refine Z1 fun _ _ => ?_ | refine Z2 ‹_› ?_ | ((first | refine Z3 tb_ok lv47 rfl ?_ | refine Zr rfl ?_); simp only [↓reduceIte, reduceCtorEq, reduceEqDiff, reduceAdd, reduceMul, reduceSub, reduceLeDiff, reduceEq, reduceLT, reduceLE, go_sem]) | (refine Z5 rfl ?_; with_reducible first | refine ZT ?_ | refine ZF ?_) | refine ZS rfl ?_ | refine Z9 fun _ _ => ?_ | refine ZH ?_ | refine Zl ‹_› (by decide) ?_ | fail
        rw [bits_add (by omega) hb, bitI_two (by omega), wrap64 (by omega) (by omega)]
        exact hQ2.next (i + 1) (by omega) (by omega) (by simp only [↓reduceIte, reduceCtorEq, reduceEqDiff, reduceAdd, reduceMul, reduceSub, reduceLeDiff, reduceEq, reduceLT, reduceLE, go_sem]; try simp)
      · repeat' first | refine Z1 fun _ _ => ?_ | refine Z2 ‹_› ?_ | ((first | refine Z3 tb_ok lv47 rfl ?_ | refine Zr rfl ?_); simp only [↓reduceIte, reduceCtorEq, reduceEqDiff, reduceAdd, reduceMul, reduceSub, reduceLeDiff, reduceEq, reduceLT, reduceLE, go_sem]) | (refine Z5 rfl ?_; with_reducible first | refine ZT ?_ | refine ZF ?_) | refine ZS rfl ?_ | refine Z9 fun _ _ => ?_ | refine ZH ?_ | refine Zl ‹_› (by decide) ?_ | fail
        rw [bitI_two (by omega), wrap64 (by omega) (by omega)]
        exact hQ2.next (i + 1) (by omega) (by omega) (by simp only [↓reduceIte, reduceCtorEq, reduceEqDiff, reduceAdd, reduceMul, reduceSub, reduceLeDiff, reduceEq, reduceLT, reduceLE, go_sem]; rw [bits_not (by simpa using hb)]; try simp)
    · simp only [decide_eq_false_iff_not] at h
      obtain rfl : i = 64 := by omega
      repeat' first | refine Z1 fun _ _ => ?_ | refine Z2 ‹_› ?_ | ((first | refine Z3 tb_ok lv47 rfl ?_ | refine Zr rfl ?_); simp only [↓reduceIte, reduceCtorEq, reduceEqDiff, reduceAdd, reduceMul, reduceSub, reduceLeDiff, reduceEq, reduceLT, reduceLE, go_sem]) | (refine Z5 rfl ?_; with_reducible first | refine ZT ?_ | refine ZF ?_) | refine ZS rfl ?_ | refine Z9 fun _ _ => ?_ | refine ZH ?_ | refine Zl ‹_› (by decide) ?_ | fail
      exact hQ.next 4 ⟨by omega, by omega⟩ (by decide) (by simp only [↓reduceIte, reduceCtorEq, reduceEqDiff, reduceAdd, reduceMul, reduceSub, reduceLeDiff, reduceEq, reduceLT, reduceLE, go_sem]; try simp only [wordW]; try simp; try rfl)
  · rw [show wordW l 4 0 = bitsN l 0 64 from rfl, show wordW l 4 1 = bitsN l 1 64 from rfl, show wordW l 4 2 = bitsN l 2 64 from rfl, show wordW l 4 3 = bitsN l 3 64 from rfl]
    repeat' first | refine Z1 fun _ _ => ?_ | refine Z2 ‹_› ?_ | ((first | refine Z3 tb_ok lv47 rfl ?_ | refine Zr rfl ?_); simp only [↓reduceIte, reduceCtorEq, reduceEqDiff, reduceAdd, reduceMul, reduceSub, reduceLeDiff, reduceEq, reduceLT, reduceLE, go_sem]) | (refine Z5 rfl ?_; with_reducible first | refine ZT ?_ | refine ZF ?_) | refine ZS rfl ?_ | refine Z9 fun _ _ => ?_ | refine ZH ?_ | refine Zl ‹_› (by decide) ?_ | fail
    rfl
/-- Of each byte whether it lies in a row. -/
def rowL (a i : Nat) : List Bool := (List.range 256).map fun k => decide (a ≤ k ∧ k < i)
theorem rowL_len {a i : Nat} : (rowL a i).length = 256 := by simp [rowL]
theorem rowL_zero {a : Nat} : (List.replicate 256 [D.bool false] : List (List D)) = (rowL a a).map cellB := by
  refine List.ext_getElem? fun k => ?_
  by_cases hk : k < 256
  · rw [List.getElem?_replicate, if_pos hk, List.getElem?_map, rowL, List.getElem?_map, List.getElem?_range hk]
    have e : ¬ (a ≤ k ∧ k < a) := by omega
    simp only [Option.map_some, cellB, e, decide_false]
  · rw [List.getElem?_replicate, if_neg hk, List.getElem?_eq_none (by rw [List.length_map, rowL_len]; omega)]
theorem rowL_set {a i : Nat} (h : a ≤ i) (hi : i < 256) : ((rowL a i).map cellB).set i [.bool true] = (rowL a (i + 1)).map cellB := by
  refine List.ext_getElem? fun k => ?_
  by_cases hk : k < 256
  · rw [List.getElem?_set]
    split
    · subst_vars
      rw [if_pos (by rw [List.length_map, rowL_len]; omega), List.getElem?_map, rowL, List.getElem?_map, List.getElem?_range hk]
      simp [cellB, h]
    · rw [List.getElem?_map, List.getElem?_map, rowL, rowL, List.getElem?_map, List.getElem?_map, List.getElem?_range hk]
      have e : (a ≤ k ∧ k < i) ↔ (a ≤ k ∧ k < i + 1) := by omega
      simp only [e, Option.map_some]
  · rw [List.getElem?_eq_none (by rw [List.length_set, List.length_map, rowL_len]; omega), List.getElem?_eq_none (by rw [List.length_map, rowL_len]; omega)]
@[go_sem] def lv34 : List (Nat × List Nat) := [(0, [0, 1, 4]), (1, [0, 1, 4, 5]), (2, [1, 4, 5, 6]), (3, [1, 4, 5, 6, 13]), (4, [1, 4, 5, 6]), (5, [1, 4, 5, 6]), (6, [4])]
def bs34 : List (Nat × List Nat × List Nat) := []
set_option maxRecDepth 4000 in
set_option maxHeartbeats 2000000 in
theorem c_ref01Row {gl} {a b : Nat} (ha : a ≤ b) (hb : b ≤ 255) : PCon Try.prog gl 34 [.int .u8 a, .int .u8 b] (classOf (rowL a (b + 1))) := by
  refine PCon.enter tb_ok (fn := Try.f34) (by kernel_rfl) (by kernel_rfl) rfl (by show 2 ≤ 21; decide) ?_
  repeat' first | refine Z1 fun _ _ => ?_ | refine Z2 ‹_› ?_ | ((first | refine Z3 tb_ok lv34 rfl ?_ | refine Zr rfl ?_); simp only [↓reduceIte, reduceCtorEq, reduceEqDiff, reduceAdd, reduceMul, reduceSub, reduceLeDiff, reduceEq, reduceLT, reduceLE, go_sem]) | (refine Z5 rfl ?_; with_reducible first | refine ZT ?_ | refine ZF ?_) | refine ZS rfl ?_ | refine Z9 fun _ _ => ?_ | refine ZH ?_ | refine Zl ‹_› (by decide) ?_ | fail
  refine ⟨by decide, ?_⟩
  rw [show Int.toNat 256 = 256 from rfl, rowL_zero (a := a)]
  repeat' first | refine Z1 fun _ _ => ?_ | refine Z2 ‹_› ?_ | ((first | refine Z3 tb_ok lv34 rfl ?_ | refine Zr rfl ?_); simp only [↓reduceIte, reduceCtorEq, reduceEqDiff, reduceAdd, reduceMul, reduceSub, reduceLeDiff, reduceEq, reduceLT, reduceLE, go_sem]) | (refine Z5 rfl ?_; with_reducible first | refine ZT ?_ | refine ZF ?_) | refine ZS rfl ?_ | refine Z9 fun _ _ => ?_ | refine ZH ?_ | refine Zl ‹_› (by decide) ?_ | fail
  rw [wrap64 (by omega) (by omega)]
  refine .loopC (α := Nat) (fun i => ⟨[(1, .d (.int .u8 b)), (4, .ref 0 0), (5, .own 1), (6, .d (.int .i64 i))], [(0, .box true [.d (.int .u64 0), .d (.int .u64 0), .d (.int .u64 0), .d (.int .u64 0)]), (1, .row true 4 1 ((rowL a i).map cellB))], 2⟩) (fun i => a ≤ i ∧ i ≤ b + 1) (fun i => b + 1 - i) a ⟨by omega, by omega⟩ (by simp only [↓reduceIte, reduceCtorEq, reduceEqDiff, reduceAdd, reduceMul, reduceSub, reduceLeDiff, reduceEq, reduceLT, reduceLE, go_sem]; try simp) ?_
  rintro i ⟨h1, h2⟩ Q hQ
  repeat' first | refine Z1 fun _ _ => ?_ | refine Z2 ‹_› ?_ | ((first | refine Z3 tb_ok lv34 rfl ?_ | refine Zr rfl ?_); simp only [↓reduceIte, reduceCtorEq, reduceEqDiff, reduceAdd, reduceMul, reduceSub, reduceLeDiff, reduceEq, reduceLT, reduceLE, go_sem]) | (refine Z5 rfl ?_; with_reducible first | refine ZT ?_ | refine ZF ?_) | refine ZS rfl ?_ | refine Z9 fun _ _ => ?_ | refine ZH ?_ | refine Zl ‹_› (by decide) ?_ | fail
  rw [wrap64 (z := (b : Int)) (by omega) (by omega)]
  refine .cond rfl (fun h => ?_) (fun h => ?_)
  · simp only [decide_eq_true_eq] at h
    repeat' first | refine Z1 fun _ _ => ?_ | refine Z2 ‹_› ?_ | ((first | refine Z3 tb_ok lv34 rfl ?_ | refine Zr rfl ?_); simp only [↓reduceIte, reduceCtorEq, reduceEqDiff, reduceAdd, reduceMul, reduceSub, reduceLeDiff, reduceEq, reduceLT, reduceLE, go_sem]) | (refine Z5 rfl ?_; with_reducible first | refine ZT ?_ | refine ZF ?_) | refine ZS rfl ?_ | refine Z9 fun _ _ => ?_ | refine ZH ?_ | refine Zl ‹_› (by decide) ?_ | fail
    refine idx_own (j := i) rfl rfl rfl rfl rfl rfl (by omega) (by rw [List.length_map, rowL_len]; omega) ?_
    simp only [↓reduceIte, reduceCtorEq, reduceEqDiff, reduceAdd, reduceMul, reduceSub, reduceLeDiff, reduceEq, reduceLT, reduceLE, go_sem]
    repeat' first | refine Z1 fun _ _ => ?_ | refine Z2 ‹_› ?_ | ((first | refine Z3 tb_ok lv34 rfl ?_ | refine Zr rfl ?_); simp only [↓reduceIte, reduceCtorEq, reduceEqDiff, reduceAdd, reduceMul, reduceSub, reduceLeDiff, reduceEq, reduceLT, reduceLE, go_sem]) | (refine Z5 rfl ?_; with_reducible first | refine ZT ?_ | refine ZF ?_) | refine ZS rfl ?_ | refine Z9 fun _ _ => ?_ | refine ZH ?_ | refine Zl ‹_› (by decide) ?_ | fail
    refine ⟨_, at_map false (by rw [rowL_len]; omega), ?_⟩
    rw [show List.drop 1 (cellB ((rowL a i).getD i false)) = [] from rfl, rowL_set h1 (by omega)]
    repeat' first | refine Z1 fun _ _ => ?_ | refine Z2 ‹_› ?_ | ((first | refine Z3 tb_ok lv34 rfl ?_ | refine Zr rfl ?_); simp only [↓reduceIte, reduceCtorEq, reduceEqDiff, reduceAdd, reduceMul, reduceSub, reduceLeDiff, reduceEq, reduceLT, reduceLE, go_sem]) | (refine Z5 rfl ?_; with_reducible first | refine ZT ?_ | refine ZF ?_) | refine ZS rfl ?_ | refine Z9 fun _ _ => ?_ | refine ZH ?_ | refine Zl ‹_› (by decide) ?_ | fail
    rw [wrap64 (by omega) (by omega)]
    exact hQ.next (i + 1) ⟨by omega, by omega⟩ (by omega) (by simp only [↓reduceIte, reduceCtorEq, reduceEqDiff, reduceAdd, reduceMul, reduceSub, reduceLeDiff, reduceEq, reduceLT, reduceLE, go_sem]; try simp)
  · simp only [decide_eq_false_iff_not] at h
    obtain rfl : i = b + 1 := by omega
    refine .freeze 1 rfl rfl ?_
    simp only [↓reduceIte, reduceCtorEq, reduceEqDiff, reduceAdd, reduceMul, reduceSub, reduceLeDiff, reduceEq, reduceLT, reduceLE, go_sem]
    repeat' first | refine Z1 fun _ _ => ?_ | refine Z2 ‹_› ?_ | ((first | refine Z3 tb_ok lv34 rfl ?_ | refine Zr rfl ?_); simp only [↓reduceIte, reduceCtorEq, reduceEqDiff, reduceAdd, reduceMul, reduceSub, reduceLeDiff, reduceEq, reduceLT, reduceLE, go_sem]) | (refine Z5 rfl ?_; with_reducible first | refine ZT ?_ | refine ZF ?_) | refine ZS rfl ?_ | refine Z9 fun _ _ => ?_ | refine ZH ?_ | refine Zl ‹_› (by decide) ?_ | fail
    have hq := c_ref01Of (gl := gl) (l := rowL a (b + 1)) rowL_len
    rw [classOf] at hq
    refine call_pure rfl rfl (hq) ?_; simp only [↓reduceIte, reduceCtorEq, reduceEqDiff, reduceAdd, reduceMul, reduceSub, reduceLeDiff, reduceEq, reduceLT, reduceLE, go_sem]
    repeat' first | refine Z1 fun _ _ => ?_ | refine Z2 ‹_› ?_ | ((first | refine Z3 tb_ok lv34 rfl ?_ | refine Zr rfl ?_); simp only [↓reduceIte, reduceCtorEq, reduceEqDiff, reduceAdd, reduceMul, reduceSub, reduceLeDiff, reduceEq, reduceLT, reduceLE, go_sem]) | (refine Z5 rfl ?_; with_reducible first | refine ZT ?_ | refine ZF ?_) | refine ZS rfl ?_ | refine Z9 fun _ _ => ?_ | refine ZH ?_ | refine Zl ‹_› (by decide) ?_ | fail
    rfl
end Go.Proofs.Ytpibdbjlilpfiaa
