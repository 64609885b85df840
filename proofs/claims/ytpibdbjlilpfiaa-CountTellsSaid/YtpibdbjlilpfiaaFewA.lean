/- Is a description of few nodes? -/
import Derived.Test.YtpibdbjlilpfiaaFormE
namespace Go.Proofs.Ytpibdbjlilpfiaa
set_option linter.all false
open Go Go.RowKit
open Nat (reduceEqDiff reduceAdd reduceMul reduceSub reduceLeDiff)
open Int (reduceEq reduceLT reduceLE)

/-- The texts' lengths together, of the first 200 nodes. -/
def fewN (l : List Nd) : Nat → Int
  | 0 => 0
  | m + 1 => IntKind.i64.wrap (fewN l m + ((l.getD m Nd.z).text.size : Nat))
def few (l : List Nd) : Bool := decide ((l.length : Int) ≤ 100) && decide (fewN l (min l.length 200) ≤ 2000)
@[go_sem] def lv13 : List (Nat × List Nat) := [(0, [1]), (1, [1, 3]), (2, [1, 3, 4]), (3, [1, 3, 4, 13]), (4, [1, 3, 4]), (5, [1, 3, 4]), (6, [2])]
set_option maxRecDepth 4000 in
theorem c_few {gl} (l : List Nd) (hl : l.length ≤ 9223372036854775807) : PCon Try.prog gl 13 [desc l] (.bool (few l)) := by
  refine PCon.enter tb_ok (fn := Try.f13) (by kernel_rfl) (by kernel_rfl) rfl (by show 1 ≤ 33; decide) ?_
  repeat' first | refine Z1 fun _ _ => ?_ | refine Z2 ‹_› ?_ | ((first | refine Z3 tb_ok lv13 rfl ?_ | refine Zr rfl ?_); simp only [↓reduceIte, reduceCtorEq, reduceEqDiff, reduceAdd, reduceMul, reduceSub, reduceLeDiff, reduceEq, reduceLT, reduceLE, go_sem]) | (refine Z5 rfl ?_; with_reducible first | refine ZT ?_ | refine ZF ?_) | refine ZS rfl ?_ | refine Z9 fun _ _ => ?_ | refine ZH ?_ | refine Zl ‹_› (by decide) ?_ | fail
  refine .loopC (α := Nat) (fun i => ⟨[(1, .ref 0 0), (3, .d (.int .i64 (fewN l i))), (4, .d (.int .i64 i))], [(0, .box true [.d (nds l)])], 1⟩) (fun i => i ≤ l.length ∧ i ≤ 200) (fun i => 200 - i) 0 ⟨by omega, by omega⟩ (by simp only [↓reduceIte, reduceCtorEq, reduceEqDiff, reduceAdd, reduceMul, reduceSub, reduceLeDiff, reduceEq, reduceLT, reduceLE, go_sem]; simp [fewN]) ?_
  intro i hi Q hQ
  have fin : i = min l.length 200 → few l = (decide ((l.length : Int) ≤ 100) && decide (fewN l i ≤ 2000)) := fun e => by rw [few, ← e]
  repeat' first | refine Z1 fun _ _ => ?_ | refine Z2 ‹_› ?_ | ((first | refine Z3 tb_ok lv13 rfl ?_ | refine Zr rfl ?_); simp only [↓reduceIte, reduceCtorEq, reduceEqDiff, reduceAdd, reduceMul, reduceSub, reduceLeDiff, reduceEq, reduceLT, reduceLE, go_sem]) | (refine Z5 rfl ?_; with_reducible first | refine ZT ?_ | refine ZF ?_) | refine ZS rfl ?_ | refine Z9 fun _ _ => ?_ | refine ZH ?_ | refine Zl ‹_› (by decide) ?_ | fail
  refine .split rfl (fun h1 => ?_) (fun h1 => ?_) <;> simp only [↓reduceIte, reduceCtorEq, reduceEqDiff, reduceAdd, reduceMul, reduceSub, reduceLeDiff, reduceEq, reduceLT, reduceLE, go_sem, h1]
  · simp only [decide_eq_true_eq] at h1
    repeat' first | refine Z1 fun _ _ => ?_ | refine Z2 ‹_› ?_ | ((first | refine Z3 tb_ok lv13 rfl ?_ | refine Zr rfl ?_); simp only [↓reduceIte, reduceCtorEq, reduceEqDiff, reduceAdd, reduceMul, reduceSub, reduceLeDiff, reduceEq, reduceLT, reduceLE, go_sem]) | (refine Z5 rfl ?_; with_reducible first | refine ZT ?_ | refine ZF ?_) | refine ZS rfl ?_ | refine Z9 fun _ _ => ?_ | refine ZH ?_ | refine Zl ‹_› (by decide) ?_ | fail
    refine .cond rfl (fun hc => ?_) (fun hc => ?_)
    · simp only [decide_eq_true_eq] at hc
      repeat' first | refine Z1 fun _ _ => ?_ | refine Z2 ‹_› ?_ | ((first | refine Z3 tb_ok lv13 rfl ?_ | refine Zr rfl ?_); simp only [↓reduceIte, reduceCtorEq, reduceEqDiff, reduceAdd, reduceMul, reduceSub, reduceLeDiff, reduceEq, reduceLT, reduceLE, go_sem]) | (refine Z5 rfl ?_; with_reducible first | refine ZT ?_ | refine ZF ?_) | refine ZS rfl ?_ | refine Z9 fun _ _ => ?_ | refine ZH ?_ | refine Zl ‹_› (by decide) ?_ | fail
      refine idx_map Nd.z rfl rfl rfl rfl rfl (by omega) (by omega) rfl ?_
      simp only [↓reduceIte, reduceCtorEq, reduceEqDiff, reduceAdd, reduceMul, reduceSub, reduceLeDiff, reduceEq, reduceLT, reduceLE, go_sem]
      repeat' first | refine Z1 fun _ _ => ?_ | refine Z2 ‹_› ?_ | ((first | refine Z3 tb_ok lv13 rfl ?_ | refine Zr rfl ?_); simp only [↓reduceIte, reduceCtorEq, reduceEqDiff, reduceAdd, reduceMul, reduceSub, reduceLeDiff, reduceEq, reduceLT, reduceLE, go_sem]) | (refine Z5 rfl ?_; with_reducible first | refine ZT ?_ | refine ZF ?_) | refine ZS rfl ?_ | refine Z9 fun _ _ => ?_ | refine ZH ?_ | refine Zl ‹_› (by decide) ?_ | fail
      exact hQ.next (i + 1) ⟨by omega, by omega⟩ (by omega) (by simp only [↓reduceIte, reduceCtorEq, reduceEqDiff, reduceAdd, reduceMul, reduceSub, reduceLeDiff, reduceEq, reduceLT, reduceLE, go_sem]; rw [wrap64 (z := (i : Int) + 1) (by omega) (by omega)]; simp [fewN])
    · simp only [decide_eq_false_iff_not] at hc
      have hf := fin (by omega)
      repeat' first | refine Z1 fun _ _ => ?_ | refine Z2 ‹_› ?_ | ((first | refine Z3 tb_ok lv13 rfl ?_ | refine Zr rfl ?_); simp only [↓reduceIte, reduceCtorEq, reduceEqDiff, reduceAdd, reduceMul, reduceSub, reduceLeDiff, reduceEq, reduceLT, reduceLE, go_sem]) | (refine Z5 rfl ?_; with_reducible first | refine ZT ?_ | refine ZF ?_) | refine ZS rfl ?_ | refine Z9 fun _ _ => ?_ | refine ZH ?_ | refine Zl ‹_› (by decide) ?_ | fail
      refine .split rfl (fun h5 => ?_) (fun h5 => ?_) <;> simp only [↓reduceIte, reduceCtorEq, reduceEqDiff, reduceAdd, reduceMul, reduceSub, reduceLeDiff, reduceEq, reduceLT, reduceLE, go_sem, h5]
      all_goals repeat' first | refine Z1 fun _ _ => ?_ | refine Z2 ‹_› ?_ | ((first | refine Z3 tb_ok lv13 rfl ?_ | refine Zr rfl ?_); simp only [↓reduceIte, reduceCtorEq, reduceEqDiff, reduceAdd, reduceMul, reduceSub, reduceLeDiff, reduceEq, reduceLT, reduceLE, go_sem]) | (refine Z5 rfl ?_; with_reducible first | refine ZT ?_ | refine ZF ?_) | refine ZS rfl ?_ | refine Z9 fun _ _ => ?_ | refine ZH ?_ | refine Zl ‹_› (by decide) ?_ | fail
      all_goals (rw [hf, h5]; rfl)
  · simp only [decide_eq_false_iff_not] at h1
    have hf := fin (by omega)
    repeat' first | refine Z1 fun _ _ => ?_ | refine Z2 ‹_› ?_ | ((first | refine Z3 tb_ok lv13 rfl ?_ | refine Zr rfl ?_); simp only [↓reduceIte, reduceCtorEq, reduceEqDiff, reduceAdd, reduceMul, reduceSub, reduceLeDiff, reduceEq, reduceLT, reduceLE, go_sem]) | (refine Z5 rfl ?_; with_reducible first | refine ZT ?_ | refine ZF ?_) | refine ZS rfl ?_ | refine Z9 fun _ _ => ?_ | refine ZH ?_ | refine Zl ‹_› (by decide) ?_ | fail
    refine .split rfl (fun h5 => ?_) (fun h5 => ?_) <;> simp only [↓reduceIte, reduceCtorEq, reduceEqDiff, reduceAdd, reduceMul, reduceSub, reduceLeDiff, reduceEq, reduceLT, reduceLE, go_sem, h5]
    all_goals repeat' first | refine Z1 fun _ _ => ?_ | refine Z2 ‹_› ?_ | ((first | refine Z3 tb_ok lv13 rfl ?_ | refine Zr rfl ?_); simp only [↓reduceIte, reduceCtorEq, reduceEqDiff, reduceAdd, reduceMul, reduceSub, reduceLeDiff, reduceEq, reduceLT, reduceLE, go_sem]) | (refine Z5 rfl ?_; with_reducible first | refine ZT ?_ | refine ZF ?_) | refine ZS rfl ?_ | refine Z9 fun _ _ => ?_ | refine ZH ?_ | refine Zl ‹_› (by decide) ?_ | fail
    all_goals (rw [hf, h5]; rfl)
theorem fewN_eq {l : List Nd} (htx : ∀ i, (l.getD i Nd.z).text.size ≤ 140737488355328) : ∀ m, m ≤ 200 → 0 ≤ fewN l m ∧ fewN l m ≤ m * 140737488355328 ∧ ∀ i, i < m → ((l.getD i Nd.z).text.size : Int) ≤ fewN l m
  | 0, _ => by simp [fewN]
  | m + 1, hm => by
    obtain ⟨h1, h2, h3⟩ := fewN_eq htx m (by omega)
    have h4 := htx m
    have e : fewN l (m + 1) = fewN l m + ((l.getD m Nd.z).text.size : Nat) := by rw [fewN, wrap64 (by omega) (by omega)]
    rw [e]
    refine ⟨by omega, by omega, fun i hi => ?_⟩
    by_cases h : i = m
    · subst h; omega
    · have := h3 i (by omega); omega
/-- A description of few nodes has short texts. -/
theorem few_small {l : List Nd} (htx : ∀ i, (l.getD i Nd.z).text.size ≤ 140737488355328) (h : few l = true) : l.length ≤ 1048576 ∧ ∀ i, (l.getD i Nd.z).text.size ≤ 1048576 := by
  simp only [few, Bool.and_eq_true, decide_eq_true_eq] at h
  refine ⟨by omega, fun i => ?_⟩
  by_cases hi : i < l.length
  · have := (fewN_eq htx (min l.length 200) (by omega)).2.2 i (by omega)
    omega
  · rw [List.getD_eq_getElem?_getD, List.getElem?_eq_none (by omega)]
    simp [Nd.z]
theorem c_fewB {gl} {l : List Nd} {b : Bool} (hl : l.length ≤ 9223372036854775807) (h : few l = b) : PCon Try.prog gl 13 [desc l] (.bool b) := h ▸ c_few l hl

end Go.Proofs.Ytpibdbjlilpfiaa
