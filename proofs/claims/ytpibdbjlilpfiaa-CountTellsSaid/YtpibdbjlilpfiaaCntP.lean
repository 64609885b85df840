/- count: zero, plus (ref12). -/
import Derived.Test.YtpibdbjlilpfiaaCntO
import Derived.Test.YtpibdbjlilpfiaaCntJ
namespace Go.Proofs.Ytpibdbjlilpfiaa
set_option linter.all false
open Go Go.RowKit
open Nat (reduceEqDiff reduceAdd reduceMul reduceSub reduceLeDiff)
open Int (reduceEq reduceLT reduceLE)

def natC (n : Nat) : List D := [.int .i64 n]
attribute [go_sem] natC
@[go_sem] def lv54 : List (Nat × List Nat) := [(0, [0]), (1, [2])]
def bs54 : List (Nat × List Nat × List Nat) := []
set_option maxHeartbeats 1000000 in
theorem c_zero {gl} {w : List UInt8} (hw : w.length ≤ 1000) : PConR Try.prog gl 54 [bys w] 3 1 ((zeroL w.length).map natC) := by
  refine PConR.enter (fn := Try.f54) (by kernel_rfl) (by kernel_rfl) rfl (by show 1 ≤ 7; decide) ?_
  repeat' first | refine Z1 fun _ _ => ?_ | refine Z2 ‹_› ?_ | ((first | refine Z3 tb_ok lv54 rfl ?_ | refine Zr rfl ?_); simp only [↓reduceIte, reduceCtorEq, reduceEqDiff, reduceAdd, reduceMul, reduceSub, reduceLeDiff, reduceEq, reduceLT, reduceLE, go_sem]) | refine ZS rfl ?_ | refine ZH ?_ | fail
  rw [wrap64 (by omega) (by omega)]
  refine ⟨by omega, by omega, by omega, ?_⟩
  repeat' first | refine Z1 fun _ _ => ?_ | refine Z2 ‹_› ?_ | ((first | refine Z3 tb_ok lv54 rfl ?_ | refine Zr rfl ?_); simp only [↓reduceIte, reduceCtorEq, reduceEqDiff, reduceAdd, reduceMul, reduceSub, reduceLeDiff, reduceEq, reduceLT, reduceLE, go_sem]) | refine ZS rfl ?_ | refine ZH ?_ | fail
  rw [zeroL, List.map_replicate, show ((w.length : Int) + 1).toNat = w.length + 1 by omega]
  exact rfl
def plusI (a b : List Nat) (t i : Nat) : List Nat := (List.range a.length).map fun j => if j < i then min 2 (a.getD j 0 + t * b.getD j 0) else a.getD j 0
theorem plusI_zero {a b : List Nat} {t : Nat} : plusI a b t 0 = a := by
  refine List.ext_getElem (by simp [plusI]) fun i h1 h2 => ?_
  simp [plusI, List.getElem?_eq_getElem h2]
theorem plusI_full {a b : List Nat} {t : Nat} : plusI a b t a.length = plusL a b t := by
  unfold plusI plusL
  refine List.map_congr_left fun i hi => ?_
  rw [if_pos (List.mem_range.1 hi)]
theorem plusI_len {a b : List Nat} {t i : Nat} : (plusI a b t i).length = a.length := by simp [plusI]
theorem plusI_get {a b : List Nat} {t i : Nat} (h : i < a.length) : (plusI a b t i).getD i 0 = a.getD i 0 := by
  rw [plusI, List.getD_eq_getElem?_getD, List.getElem?_map, List.getElem?_range h]
  simp
theorem plusI_step {a b : List Nat} {t i : Nat} (h : i < a.length) : (plusI a b t i).set i (min 2 (a.getD i 0 + t * b.getD i 0)) = plusI a b t (i + 1) := by
  refine List.ext_getElem (by simp [plusI]) fun j h1 h2 => ?_
  rw [List.getElem_set]
  simp only [plusI, List.getElem_map, List.getElem_range]
  by_cases e : i = j
  · subst e
    simp
  · rw [if_neg e]
    by_cases e2 : j < i
    · rw [if_pos e2, if_pos (by omega)]
    · rw [if_neg e2, if_neg (by omega)]
@[go_sem] def lv56 : List (Nat × List Nat) := [(0, [0, 1, 2]), (1, [1, 2, 7]), (2, [1, 2, 7, 8]), (3, [1, 2, 7, 8, 15]), (4, [1, 2, 7, 8]), (5, [1, 2, 7, 8]), (6, [6])]
def bs56 : List (Nat × List Nat × List Nat) := [(5, [0, 0, 0, 0, 12, 28, 0, 0, 0, 384, 896, 1984, 4092, 8188, 16383, 32767], [15])]
set_option maxHeartbeats 1000000 in
theorem c_plus {gl} {a b : List Nat} {t : Nat} (hl : a.length ≤ 1001) (hb : b.length = a.length) (ha : ∀ x ∈ a, x ≤ 2) (hb2 : ∀ x ∈ b, x ≤ 2) (ht : t ≤ 2) : PConR Try.prog gl 56 [.slice (a.map natC), .slice (b.map natC), .int .i64 t] 3 1 ((plusL a b t).map natC) := by
  refine PConR.enter (fn := Try.f56) (by kernel_rfl) (by kernel_rfl) rfl (by show 3 ≤ 34; decide) ?_
  repeat' first | refine Z1 fun _ _ => ?_ | refine Z2 ‹_› ?_ | ((first | refine Z3 tb_ok lv56 rfl ?_ | refine Z4 tb_ok mix lv56 bs56 rfl (by kernel_rfl) rfl ?_ | refine Zr rfl ?_); simp only [↓reduceIte, reduceCtorEq, reduceEqDiff, reduceAdd, reduceMul, reduceSub, reduceLeDiff, reduceEq, reduceLT, reduceLE, go_sem]) | (refine Z5 rfl ?_; with_reducible first | refine ZT ?_ | refine ZF ?_) | refine ZS rfl ?_ | refine Z9 fun _ _ => ?_ | refine ZH ?_ | refine Zl ‹_› (by decide) ?_ | refine Zo rfl ?_ | refine Zp rfl ?_ | refine Zn rfl ?_ | fail
  refine ⟨fun e he => by obtain ⟨x, _, rfl⟩ := List.mem_map.1 he; rfl, by omega, by omega, ?_⟩
  repeat' first | refine Z1 fun _ _ => ?_ | refine Z2 ‹_› ?_ | ((first | refine Z3 tb_ok lv56 rfl ?_ | refine Z4 tb_ok mix lv56 bs56 rfl (by kernel_rfl) rfl ?_ | refine Zr rfl ?_); simp only [↓reduceIte, reduceCtorEq, reduceEqDiff, reduceAdd, reduceMul, reduceSub, reduceLeDiff, reduceEq, reduceLT, reduceLE, go_sem]) | (refine Z5 rfl ?_; with_reducible first | refine ZT ?_ | refine ZF ?_) | refine ZS rfl ?_ | refine Z9 fun _ _ => ?_ | refine ZH ?_ | refine Zl ‹_› (by decide) ?_ | refine Zo rfl ?_ | refine Zp rfl ?_ | refine Zn rfl ?_ | fail
  refine .loopS (α := Nat) (fun i => ⟨[(1, .d (.slice (b.map natC))), (2, .d (.int .i64 t)), (7, .own 3), (8, .d (.int .i64 i))], [(3, .row true 3 1 ((plusI a b t i).map natC))], 5⟩) (fun i => i ≤ a.length) (fun i => a.length - i) 0 (by omega) [] rfl (by simp only [↓reduceIte, reduceCtorEq, reduceEqDiff, reduceAdd, reduceMul, reduceSub, reduceLeDiff, reduceEq, reduceLT, reduceLE, go_sem]; simp [plusI_zero]) ?_
  intro i hi Q hQ
  repeat' first | refine Z1 fun _ _ => ?_ | refine Z2 ‹_› ?_ | ((first | refine Z3 tb_ok lv56 rfl ?_ | refine Z4 tb_ok mix lv56 bs56 rfl (by kernel_rfl) rfl ?_ | refine Zr rfl ?_); simp only [↓reduceIte, reduceCtorEq, reduceEqDiff, reduceAdd, reduceMul, reduceSub, reduceLeDiff, reduceEq, reduceLT, reduceLE, go_sem]) | (refine Z5 rfl ?_; with_reducible first | refine ZT ?_ | refine ZF ?_) | refine ZS rfl ?_ | refine Z9 fun _ _ => ?_ | refine ZH ?_ | refine Zl ‹_› (by decide) ?_ | refine Zo rfl ?_ | refine Zp rfl ?_ | refine Zn rfl ?_ | fail
  refine .cond rfl (fun h => ?_) (fun h => ?_)
  · simp only [decide_eq_true_eq] at h
    have hlt : i < a.length := by omega
    repeat' first | refine Z1 fun _ _ => ?_ | refine Z2 ‹_› ?_ | ((first | refine Z3 tb_ok lv56 rfl ?_ | refine Z4 tb_ok mix lv56 bs56 rfl (by kernel_rfl) rfl ?_ | refine Zr rfl ?_); simp only [↓reduceIte, reduceCtorEq, reduceEqDiff, reduceAdd, reduceMul, reduceSub, reduceLeDiff, reduceEq, reduceLT, reduceLE, go_sem]) | (refine Z5 rfl ?_; with_reducible first | refine ZT ?_ | refine ZF ?_) | refine ZS rfl ?_ | refine Z9 fun _ _ => ?_ | refine ZH ?_ | refine Zl ‹_› (by decide) ?_ | refine Zo rfl ?_ | refine Zp rfl ?_ | refine Zn rfl ?_ | fail
    refine idx_own (j := i) (n := i) rfl rfl rfl rfl rfl rfl (by omega) (by rw [List.length_map, plusI_len]; omega) ?_
    refine ⟨trivial, ?_⟩
    simp only [↓reduceIte, reduceCtorEq, reduceEqDiff, reduceAdd, reduceMul, reduceSub, reduceLeDiff, reduceEq, reduceLT, reduceLE, go_sem]
    repeat' first | refine Z1 fun _ _ => ?_ | refine Z2 ‹_› ?_ | ((first | refine Z3 tb_ok lv56 rfl ?_ | refine Z4 tb_ok mix lv56 bs56 rfl (by kernel_rfl) rfl ?_ | refine Zr rfl ?_); simp only [↓reduceIte, reduceCtorEq, reduceEqDiff, reduceAdd, reduceMul, reduceSub, reduceLeDiff, reduceEq, reduceLT, reduceLE, go_sem]) | (refine Z5 rfl ?_; with_reducible first | refine ZT ?_ | refine ZF ?_) | refine ZS rfl ?_ | refine Z9 fun _ _ => ?_ | refine ZH ?_ | refine Zl ‹_› (by decide) ?_ | refine Zo rfl ?_ | refine Zp rfl ?_ | refine Zn rfl ?_ | fail
    refine ⟨_, at_map 0 (by rw [plusI_len]; exact hlt), ?_⟩
    simp only [↓reduceIte, reduceCtorEq, reduceEqDiff, reduceAdd, reduceMul, reduceSub, reduceLeDiff, reduceEq, reduceLT, reduceLE, go_sem]
    repeat' first | refine Z1 fun _ _ => ?_ | refine Z2 ‹_› ?_ | ((first | refine Z3 tb_ok lv56 rfl ?_ | refine Z4 tb_ok mix lv56 bs56 rfl (by kernel_rfl) rfl ?_ | refine Zr rfl ?_); simp only [↓reduceIte, reduceCtorEq, reduceEqDiff, reduceAdd, reduceMul, reduceSub, reduceLeDiff, reduceEq, reduceLT, reduceLE, go_sem]) | (refine Z5 rfl ?_; with_reducible first | refine ZT ?_ | refine ZF ?_) | refine ZS rfl ?_ | refine Z9 fun _ _ => ?_ | refine ZH ?_ | refine Zl ‹_› (by decide) ?_ | refine Zo rfl ?_ | refine Zp rfl ?_ | refine Zn rfl ?_ | fail
    refine @idx_map _ _ _ b natC _ _ i _ _ .i64 (i : Int) _ _ _ (0 : Nat) rfl rfl rfl rfl rfl ?_ ?_ ?_ ?_
    · omega
    · omega
    · rfl
    refine ⟨trivial, ?_⟩
    simp only [↓reduceIte, reduceCtorEq, reduceEqDiff, reduceAdd, reduceMul, reduceSub, reduceLeDiff, reduceEq, reduceLT, reduceLE, go_sem]
    repeat' first | refine Z1 fun _ _ => ?_ | refine Z2 ‹_› ?_ | ((first | refine Z3 tb_ok lv56 rfl ?_ | refine Z4 tb_ok mix lv56 bs56 rfl (by kernel_rfl) rfl ?_ | refine Zr rfl ?_); simp only [↓reduceIte, reduceCtorEq, reduceEqDiff, reduceAdd, reduceMul, reduceSub, reduceLeDiff, reduceEq, reduceLT, reduceLE, go_sem]) | (refine Z5 rfl ?_; with_reducible first | refine ZT ?_ | refine ZF ?_) | refine ZS rfl ?_ | refine Z9 fun _ _ => ?_ | refine ZH ?_ | refine Zl ‹_› (by decide) ?_ | refine Zo rfl ?_ | refine Zp rfl ?_ | refine Zn rfl ?_ | fail
    have q1 : a.getD i 0 ≤ 2 := ha _ (getD_in 0 hlt)
    have q2 : b.getD i 0 ≤ 2 := hb2 _ (getD_in 0 (by omega))
    have q3 : t * b.getD i 0 ≤ 2 * 2 := Nat.mul_le_mul ht q2
    rw [plusI_get hlt, ← Int.natCast_mul, wrap64 (z := ((t * b.getD i 0 : Nat) : Int)) (by omega) (by omega), ← Int.natCast_add, wrap64 (by omega) (by omega), show min 2 ((a.getD i 0 + t * b.getD i 0 : Nat) : Int) = ((min 2 (a.getD i 0 + t * b.getD i 0) : Nat) : Int) by omega]
    refine idx_own (j := i) (n := i) rfl rfl rfl rfl rfl rfl (by omega) (by rw [List.length_map, plusI_len]; omega) ?_
    refine ⟨trivial, ?_⟩
    simp only [↓reduceIte, reduceCtorEq, reduceEqDiff, reduceAdd, reduceMul, reduceSub, reduceLeDiff, reduceEq, reduceLT, reduceLE, go_sem]
    repeat' first | refine Z1 fun _ _ => ?_ | refine Z2 ‹_› ?_ | ((first | refine Z3 tb_ok lv56 rfl ?_ | refine Z4 tb_ok mix lv56 bs56 rfl (by kernel_rfl) rfl ?_ | refine Zr rfl ?_); simp only [↓reduceIte, reduceCtorEq, reduceEqDiff, reduceAdd, reduceMul, reduceSub, reduceLeDiff, reduceEq, reduceLT, reduceLE, go_sem]) | (refine Z5 rfl ?_; with_reducible first | refine ZT ?_ | refine ZF ?_) | refine ZS rfl ?_ | refine Z9 fun _ _ => ?_ | refine ZH ?_ | refine Zl ‹_› (by decide) ?_ | refine Zo rfl ?_ | refine Zp rfl ?_ | refine Zn rfl ?_ | fail
    refine ⟨_, at_map 0 (by rw [plusI_len]; exact hlt), ?_⟩
    have hset : (List.map natC (plusI a b t i)).set i (D.int .i64 ((min 2 (a.getD i 0 + t * b.getD i 0) : Nat) : Int) :: List.drop 1 (natC ((plusI a b t i).getD i 0))) = (plusI a b t (i + 1)).map natC := by
      rw [← plusI_step hlt, List.map_set]
      rfl
    rw [hset]
    repeat' first | refine Z1 fun _ _ => ?_ | refine Z2 ‹_› ?_ | ((first | refine Z3 tb_ok lv56 rfl ?_ | refine Z4 tb_ok mix lv56 bs56 rfl (by kernel_rfl) rfl ?_ | refine Zr rfl ?_); simp only [↓reduceIte, reduceCtorEq, reduceEqDiff, reduceAdd, reduceMul, reduceSub, reduceLeDiff, reduceEq, reduceLT, reduceLE, go_sem]) | (refine Z5 rfl ?_; with_reducible first | refine ZT ?_ | refine ZF ?_) | refine ZS rfl ?_ | refine Z9 fun _ _ => ?_ | refine ZH ?_ | refine Zl ‹_› (by decide) ?_ | refine Zo rfl ?_ | refine Zp rfl ?_ | refine Zn rfl ?_ | fail
    rw [wrap64 (by omega) (by omega)]
    exact hQ.next (i + 1) [] (by omega) (by omega) rfl (by simp only [↓reduceIte, reduceCtorEq, reduceEqDiff, reduceAdd, reduceMul, reduceSub, reduceLeDiff, reduceEq, reduceLT, reduceLE, go_sem]; try simp)
  · simp only [decide_eq_false_iff_not] at h
    have e : i = a.length := by omega
    repeat' first | refine Z1 fun _ _ => ?_ | refine Z2 ‹_› ?_ | ((first | refine Z3 tb_ok lv56 rfl ?_ | refine Z4 tb_ok mix lv56 bs56 rfl (by kernel_rfl) rfl ?_ | refine Zr rfl ?_); simp only [↓reduceIte, reduceCtorEq, reduceEqDiff, reduceAdd, reduceMul, reduceSub, reduceLeDiff, reduceEq, reduceLT, reduceLE, go_sem]) | (refine Z5 rfl ?_; with_reducible first | refine ZT ?_ | refine ZF ?_) | refine ZS rfl ?_ | refine Z9 fun _ _ => ?_ | refine ZH ?_ | refine Zl ‹_› (by decide) ?_ | refine Zo rfl ?_ | refine Zp rfl ?_ | refine Zn rfl ?_ | fail
    rw [e, plusI_full]
    exact rfl
end Go.Proofs.Ytpibdbjlilpfiaa
