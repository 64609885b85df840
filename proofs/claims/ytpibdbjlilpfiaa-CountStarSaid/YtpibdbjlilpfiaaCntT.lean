/- count: ends of any tree, Ways, Fits (ref12). -/
import Derived.Test.YtpibdbjlilpfiaaCntS
namespace Go.Proofs.Ytpibdbjlilpfiaa
set_option linter.all false
open Go Go.RowKit
open Nat (reduceEqDiff reduceAdd reduceMul reduceSub reduceLeDiff)
open Int (reduceEq reduceLT reduceLE)

theorem RowOk.two {α : Type} {r : List Nat} {n : Nat} {S : Nat → α → Prop} (h : RowOk r n S) : ∀ x ∈ r, x ≤ 2 := fun x hx => by
  obtain ⟨i, hi, e⟩ := List.getElem_of_mem hx
  have := (h.cn i (by have := h.len; omega)).le
  rw [List.getD_eq_getElem?_getD, List.getElem?_eq_getElem hi] at this
  rw [← e]
  exact this
@[go_sem] def lv29 : List (Nat × List Nat) := [(0, [1, 2]), (1, [4])]
@[go_sem] def lv28 : List (Nat × List Nat) := [(0, [1, 2]), (1, [4])]
set_option maxHeartbeats 1000000 in
theorem c_Fits {gl} {l : List Nd} {w : List UInt8} : PCon Try.prog gl 28 [desc l, bys w] (.bool (decide (l.length ≤ 16 ∧ w.length ≤ 8))) := by
  refine PCon.enter tb_ok (fn := Try.f28) (by kernel_rfl) (by kernel_rfl) rfl (by show 2 ≤ 14; decide) ?_
  simp only [desc, nds, bys]
  repeat' first | refine Z1 fun _ _ => ?_ | refine Z2 ‹_› ?_ | ((first | refine Z3 tb_ok lv28 rfl ?_ | refine Zr rfl ?_); simp only [↓reduceIte, reduceCtorEq, reduceEqDiff, reduceAdd, reduceMul, reduceSub, reduceLeDiff, reduceEq, reduceLT, reduceLE, go_sem]) | refine ZS rfl ?_ | refine ZH ?_ | fail
  refine .split rfl (fun g1 => ?_) (fun g1 => ?_) <;> simp only [↓reduceIte, reduceCtorEq, reduceEqDiff, reduceAdd, reduceMul, reduceSub, reduceLeDiff, reduceEq, reduceLT, reduceLE, go_sem, g1]
  · simp only [decide_eq_true_eq] at g1
    repeat' first | refine Z1 fun _ _ => ?_ | refine Z2 ‹_› ?_ | ((first | refine Z3 tb_ok lv28 rfl ?_ | refine Zr rfl ?_); simp only [↓reduceIte, reduceCtorEq, reduceEqDiff, reduceAdd, reduceMul, reduceSub, reduceLeDiff, reduceEq, reduceLT, reduceLE, go_sem]) | refine ZS rfl ?_ | refine ZH ?_ | fail
    rw [Bool.eq_iff_iff, decide_eq_true_eq, decide_eq_true_eq]
    omega
  · simp only [decide_eq_false_iff_not] at g1
    repeat' first | refine Z1 fun _ _ => ?_ | refine Z2 ‹_› ?_ | ((first | refine Z3 tb_ok lv28 rfl ?_ | refine Zr rfl ?_); simp only [↓reduceIte, reduceCtorEq, reduceEqDiff, reduceAdd, reduceMul, reduceSub, reduceLeDiff, reduceEq, reduceLT, reduceLE, go_sem]) | refine ZS rfl ?_ | refine ZH ?_ | fail
    rw [Bool.eq_iff_iff, decide_eq_true_eq]
    constructor
    · intro h; cases h
    · omega
end Go.Proofs.Ytpibdbjlilpfiaa
