/- count: through (ref12). -/
import Derived.Test.YtpibdbjlilpfiaaCntP
namespace Go.Proofs.Ytpibdbjlilpfiaa
set_option linter.all false
open Go Go.RowKit
open Nat (reduceEqDiff reduceAdd reduceMul reduceSub reduceLeDiff)
open Int (reduceEq reduceLT reduceLE)

def natsD (l : List Nat) : D := .slice (l.map natC)
/-- What ends answers, of a node. -/
def EndsC (gl : GL) (l : List Nd) (i : Nat) (w : List UInt8) (E : Nat → List Nat) : Prop := ∀ j, j ≤ w.length → PConR Try.prog gl 44 [desc l, .int .i64 i, bys w, .int .i64 j] 3 1 ((E j).map natC) ∧ (E j).length = w.length + 1 ∧ ∀ x ∈ E j, x ≤ 2
theorem plusL_le {a b : List Nat} {t : Nat} : ∀ x ∈ plusL a b t, x ≤ 2 := fun x hx => by
  obtain ⟨i, _, rfl⟩ := List.mem_map.1 hx
  omega
theorem zeroL_le {n : Nat} : ∀ x ∈ zeroL n, x ≤ 2 := fun x hx => by
  rw [List.eq_of_mem_replicate hx]; omega
theorem thruL_le {E : Nat → List Nat} {n : Nat} {row : List Nat} : ∀ k, ∀ x ∈ thruL E n row k, x ≤ 2
  | 0 => zeroL_le
  | k + 1 => by
    rw [thruL_succ]
    split
    · exact plusL_le
    · exact thruL_le k
@[go_sem] def lv55 : List (Nat × List Nat) := [(0, [1, 2, 3, 4]), (1, [1, 2, 3, 4, 9]), (2, [1, 2, 3, 4, 9, 10]), (3, [1, 2, 3, 4, 9, 10, 16]), (4, [1, 2, 3, 4, 9, 10]), (5, [1, 2, 3, 4, 9, 10, 23]), (6, [1, 2, 3, 4, 9, 10]), (7, [8])]
def bs55 : List (Nat × List Nat × List Nat) := [(6, [0, 0, 0, 0, 0, 30, 0, 0, 192, 448, 1023, 2047], [10])]
set_option maxHeartbeats 2000000 in
theorem c_through {gl} {l : List Nd} {w : List UInt8} {i : Nat} {E : Nat → List Nat} {row : List Nat} (hw : w.length ≤ 1000) (hE : EndsC gl l i w E) (hr : row.length = w.length + 1) (hr2 : ∀ x ∈ row, x ≤ 2) : PConR Try.prog gl 55 [desc l, .int .i64 i, bys w, natsD row] 3 1 ((thruL E w.length row (w.length + 1)).map natC) := by
  refine PConR.enter (fn := Try.f55) (by kernel_rfl) (by kernel_rfl) rfl (by show 4 ≤ 36; decide) ?_
  simp only [natsD]
  repeat' first | refine Z1 fun _ _ => ?_ | refine Z2 ‹_› ?_ | ((first | refine Z3 tb_ok lv55 rfl ?_ | refine Z4 tb_ok mix lv55 bs55 rfl (by kernel_rfl) rfl ?_ | refine Zr rfl ?_); simp only [↓reduceIte, reduceCtorEq, reduceEqDiff, reduceAdd, reduceMul, reduceSub, reduceLeDiff, reduceEq, reduceLT, reduceLE, go_sem]) | (refine Z5 rfl ?_; with_reducible first | refine ZT ?_ | refine ZF ?_) | refine ZS rfl ?_ | refine Z9 fun _ _ => ?_ | refine ZH ?_ | refine Zl ‹_› (by decide) ?_ | refine Zo rfl ?_ | refine Zp rfl ?_ | refine Zn rfl ?_ | fail
  refine call_row rfl rfl (c_zero (gl := gl) hw) ?_; simp only [↓reduceIte, reduceCtorEq, reduceEqDiff, reduceAdd, reduceMul, reduceSub, reduceLeDiff, reduceEq, reduceLT, reduceLE, go_sem]
  repeat' first | refine Z1 fun _ _ => ?_ | refine Z2 ‹_› ?_ | ((first | refine Z3 tb_ok lv55 rfl ?_ | refine Z4 tb_ok mix lv55 bs55 rfl (by kernel_rfl) rfl ?_ | refine Zr rfl ?_); simp only [↓reduceIte, reduceCtorEq, reduceEqDiff, reduceAdd, reduceMul, reduceSub, reduceLeDiff, reduceEq, reduceLT, reduceLE, go_sem]) | (refine Z5 rfl ?_; with_reducible first | refine ZT ?_ | refine ZF ?_) | refine ZS rfl ?_ | refine Z9 fun _ _ => ?_ | refine ZH ?_ | refine Zl ‹_› (by decide) ?_ | refine Zo rfl ?_ | refine Zp rfl ?_ | refine Zn rfl ?_ | fail
  refine .loopS (α := Nat) (fun k => ⟨[(1, .d (.int .i64 i)), (2, .d (bys w)), (3, .d (.slice (row.map natC))), (4, .ref 0 0), (9, .own 3), (10, .d (.int .i64 k))], [(3, .row true 3 1 ((thruL E w.length row k).map natC)), (0, .box true [.d (nds l)])], 6⟩) (fun k => k ≤ w.length + 1) (fun k => w.length + 1 - k) 0 (by omega) [] rfl (by simp only [↓reduceIte, reduceCtorEq, reduceEqDiff, reduceAdd, reduceMul, reduceSub, reduceLeDiff, reduceEq, reduceLT, reduceLE, go_sem]; simp [thruL]) ?_
  intro k hk Q hQ
  repeat' first | refine Z1 fun _ _ => ?_ | refine Z2 ‹_› ?_ | ((first | refine Z3 tb_ok lv55 rfl ?_ | refine Z4 tb_ok mix lv55 bs55 rfl (by kernel_rfl) rfl ?_ | refine Zr rfl ?_); simp only [↓reduceIte, reduceCtorEq, reduceEqDiff, reduceAdd, reduceMul, reduceSub, reduceLeDiff, reduceEq, reduceLT, reduceLE, go_sem]) | (refine Z5 rfl ?_; with_reducible first | refine ZT ?_ | refine ZF ?_) | refine ZS rfl ?_ | refine Z9 fun _ _ => ?_ | refine ZH ?_ | refine Zl ‹_› (by decide) ?_ | refine Zo rfl ?_ | refine Zp rfl ?_ | refine Zn rfl ?_ | fail
  refine .cond rfl (fun h => ?_) (fun h => ?_)
  · simp only [decide_eq_true_eq] at h
    have hlt : k < row.length := by omega
    have q1 : row.getD k 0 ≤ 2 := hr2 _ (getD_in 0 hlt)
    repeat' first | refine Z1 fun _ _ => ?_ | refine Z2 ‹_› ?_ | ((first | refine Z3 tb_ok lv55 rfl ?_ | refine Z4 tb_ok mix lv55 bs55 rfl (by kernel_rfl) rfl ?_ | refine Zr rfl ?_); simp only [↓reduceIte, reduceCtorEq, reduceEqDiff, reduceAdd, reduceMul, reduceSub, reduceLeDiff, reduceEq, reduceLT, reduceLE, go_sem]) | (refine Z5 rfl ?_; with_reducible first | refine ZT ?_ | refine ZF ?_) | refine ZS rfl ?_ | refine Z9 fun _ _ => ?_ | refine ZH ?_ | refine Zl ‹_› (by decide) ?_ | refine Zo rfl ?_ | refine Zp rfl ?_ | refine Zn rfl ?_ | fail
    refine @idx_map _ _ _ row natC _ _ k _ _ .i64 (k : Int) _ _ _ (0 : Nat) rfl rfl rfl rfl rfl ?_ ?_ ?_ ?_
    · omega
    · omega
    · rfl
    simp only [↓reduceIte, reduceCtorEq, reduceEqDiff, reduceAdd, reduceMul, reduceSub, reduceLeDiff, reduceEq, reduceLT, reduceLE, go_sem]
    repeat' first | refine Z1 fun _ _ => ?_ | refine Z2 ‹_› ?_ | ((first | refine Z3 tb_ok lv55 rfl ?_ | refine Z4 tb_ok mix lv55 bs55 rfl (by kernel_rfl) rfl ?_ | refine Zr rfl ?_); simp only [↓reduceIte, reduceCtorEq, reduceEqDiff, reduceAdd, reduceMul, reduceSub, reduceLeDiff, reduceEq, reduceLT, reduceLE, go_sem]) | (refine Z5 rfl ?_; with_reducible first | refine ZT ?_ | refine ZF ?_) | refine ZS rfl ?_ | refine Z9 fun _ _ => ?_ | refine ZH ?_ | refine Zl ‹_› (by decide) ?_ | refine Zo rfl ?_ | refine Zp rfl ?_ | refine Zn rfl ?_ | fail
    refine .cond rfl (fun h2 => ?_) (fun h2 => ?_)
    · simp only [decide_eq_true_eq] at h2
      repeat' first | refine Z1 fun _ _ => ?_ | refine Z2 ‹_› ?_ | ((first | refine Z3 tb_ok lv55 rfl ?_ | refine Z4 tb_ok mix lv55 bs55 rfl (by kernel_rfl) rfl ?_ | refine Zr rfl ?_); simp only [↓reduceIte, reduceCtorEq, reduceEqDiff, reduceAdd, reduceMul, reduceSub, reduceLeDiff, reduceEq, reduceLT, reduceLE, go_sem]) | (refine Z5 rfl ?_; with_reducible first | refine ZT ?_ | refine ZF ?_) | refine ZS rfl ?_ | refine Z9 fun _ _ => ?_ | refine ZH ?_ | refine Zl ‹_› (by decide) ?_ | refine Zo rfl ?_ | refine Zp rfl ?_ | refine Zn rfl ?_ | fail
      obtain ⟨e1, e2, e3⟩ := hE k (by omega)
      have e1' := e1.toP
      simp only [desc, nds, bys] at e1'
      refine call_pure rfl rfl (e1') ?_; simp only [↓reduceIte, reduceCtorEq, reduceEqDiff, reduceAdd, reduceMul, reduceSub, reduceLeDiff, reduceEq, reduceLT, reduceLE, go_sem]
      repeat' first | refine Z1 fun _ _ => ?_ | refine Z2 ‹_› ?_ | ((first | refine Z3 tb_ok lv55 rfl ?_ | refine Z4 tb_ok mix lv55 bs55 rfl (by kernel_rfl) rfl ?_ | refine Zr rfl ?_); simp only [↓reduceIte, reduceCtorEq, reduceEqDiff, reduceAdd, reduceMul, reduceSub, reduceLeDiff, reduceEq, reduceLT, reduceLE, go_sem]) | (refine Z5 rfl ?_; with_reducible first | refine ZT ?_ | refine ZF ?_) | refine ZS rfl ?_ | refine Z9 fun _ _ => ?_ | refine ZH ?_ | refine Zl ‹_› (by decide) ?_ | refine Zo rfl ?_ | refine Zp rfl ?_ | refine Zn rfl ?_ | fail
      refine @idx_map _ _ _ row natC _ _ k _ _ .i64 (k : Int) _ _ _ (0 : Nat) rfl rfl rfl rfl rfl ?_ ?_ ?_ ?_
      · omega
      · omega
      · rfl
      refine ⟨trivial, ?_⟩
      simp only [↓reduceIte, reduceCtorEq, reduceEqDiff, reduceAdd, reduceMul, reduceSub, reduceLeDiff, reduceEq, reduceLT, reduceLE, go_sem]
      repeat' first | refine Z1 fun _ _ => ?_ | refine Z2 ‹_› ?_ | ((first | refine Z3 tb_ok lv55 rfl ?_ | refine Z4 tb_ok mix lv55 bs55 rfl (by kernel_rfl) rfl ?_ | refine Zr rfl ?_); simp only [↓reduceIte, reduceCtorEq, reduceEqDiff, reduceAdd, reduceMul, reduceSub, reduceLeDiff, reduceEq, reduceLT, reduceLE, go_sem]) | (refine Z5 rfl ?_; with_reducible first | refine ZT ?_ | refine ZF ?_) | refine ZS rfl ?_ | refine Z9 fun _ _ => ?_ | refine ZH ?_ | refine Zl ‹_› (by decide) ?_ | refine Zo rfl ?_ | refine Zp rfl ?_ | refine Zn rfl ?_ | fail
      have hp := (c_plus (gl := gl) (a := thruL E w.length row k) (b := E k) (t := row.getD k 0) (by rw [thruL_len]; omega) (by rw [thruL_len, e2]) (thruL_le k) e3 q1)
      refine call_row rfl rfl (hp) ?_; simp only [↓reduceIte, reduceCtorEq, reduceEqDiff, reduceAdd, reduceMul, reduceSub, reduceLeDiff, reduceEq, reduceLT, reduceLE, go_sem]
      repeat' first | refine Z1 fun _ _ => ?_ | refine Z2 ‹_› ?_ | ((first | refine Z3 tb_ok lv55 rfl ?_ | refine Z4 tb_ok mix lv55 bs55 rfl (by kernel_rfl) rfl ?_ | refine Zr rfl ?_); simp only [↓reduceIte, reduceCtorEq, reduceEqDiff, reduceAdd, reduceMul, reduceSub, reduceLeDiff, reduceEq, reduceLT, reduceLE, go_sem]) | (refine Z5 rfl ?_; with_reducible first | refine ZT ?_ | refine ZF ?_) | refine ZS rfl ?_ | refine Z9 fun _ _ => ?_ | refine ZH ?_ | refine Zl ‹_› (by decide) ?_ | refine Zo rfl ?_ | refine Zp rfl ?_ | refine Zn rfl ?_ | fail
      rw [wrap64 (by omega) (by omega)]
      refine hQ.next (k + 1) [(25, 3)] (by omega) (by omega) rfl ?_
      rw [thruL_succ, if_pos (by omega)]
      simp only [↓reduceIte, reduceCtorEq, reduceEqDiff, reduceAdd, reduceMul, reduceSub, reduceLeDiff, reduceEq, reduceLT, reduceLE, go_sem]
      simp
    · simp only [decide_eq_false_iff_not] at h2
      repeat' first | refine Z1 fun _ _ => ?_ | refine Z2 ‹_› ?_ | ((first | refine Z3 tb_ok lv55 rfl ?_ | refine Z4 tb_ok mix lv55 bs55 rfl (by kernel_rfl) rfl ?_ | refine Zr rfl ?_); simp only [↓reduceIte, reduceCtorEq, reduceEqDiff, reduceAdd, reduceMul, reduceSub, reduceLeDiff, reduceEq, reduceLT, reduceLE, go_sem]) | (refine Z5 rfl ?_; with_reducible first | refine ZT ?_ | refine ZF ?_) | refine ZS rfl ?_ | refine Z9 fun _ _ => ?_ | refine ZH ?_ | refine Zl ‹_› (by decide) ?_ | refine Zo rfl ?_ | refine Zp rfl ?_ | refine Zn rfl ?_ | fail
      rw [wrap64 (by omega) (by omega)]
      refine hQ.next (k + 1) [] (by omega) (by omega) rfl ?_
      rw [thruL_succ, if_neg (by omega)]
      simp only [↓reduceIte, reduceCtorEq, reduceEqDiff, reduceAdd, reduceMul, reduceSub, reduceLeDiff, reduceEq, reduceLT, reduceLE, go_sem]
      simp
  · simp only [decide_eq_false_iff_not] at h
    have e : k = w.length + 1 := by omega
    repeat' first | refine Z1 fun _ _ => ?_ | refine Z2 ‹_› ?_ | ((first | refine Z3 tb_ok lv55 rfl ?_ | refine Z4 tb_ok mix lv55 bs55 rfl (by kernel_rfl) rfl ?_ | refine Zr rfl ?_); simp only [↓reduceIte, reduceCtorEq, reduceEqDiff, reduceAdd, reduceMul, reduceSub, reduceLeDiff, reduceEq, reduceLT, reduceLE, go_sem]) | (refine Z5 rfl ?_; with_reducible first | refine ZT ?_ | refine ZF ?_) | refine ZS rfl ?_ | refine Z9 fun _ _ => ?_ | refine ZH ?_ | refine Zl ‹_› (by decide) ?_ | refine Zo rfl ?_ | refine Zp rfl ?_ | refine Zn rfl ?_ | fail
    rw [e]
    exact rfl
end Go.Proofs.Ytpibdbjlilpfiaa
