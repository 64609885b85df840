/- Where a fault stands. -/
import Derived.Test.YtoidlnhgaaohdaaDoorParE
namespace Go.Proofs.YtoidlnhgaaohdaaDoor
set_option linter.all false
open Go Go.RowKit
open Nat (reduceEqDiff reduceAdd reduceMul reduceSub reduceLeDiff)
open Int (reduceEq reduceLT reduceLE)

def placed (l : List Tk) (e : Nat) (os : List Int) (a : Int) : Prop := (∃ m, m ≤ e ∧ a = (tk l m).t) ∨ a ∈ os
theorem halt_placed {l : List Tk} {i e : Nat} {os : List Int} {w a : Int} {j : Nat} (hi : i ≤ e) (h : halt l i os = .bad w a j) : placed l e os a := by
  unfold halt at h
  split at h
  · rename_i hc
    cases h
    refine .inr ?_
    rw [List.getD_eq_getElem?_getD, List.getElem?_eq_getElem (by omega)]
    exact List.getElem_mem _
  · cases h
    exact .inl ⟨i, hi, rfl⟩
theorem placed.less {l : List Tk} {i e : Nat} {os : List Int} {a : Int} (hi : i ≤ e) (h : placed l e (os ++ [(tk l i).t]) a) : placed l e os a := by
  rcases h with h | h
  · exact .inl h
  · rcases List.mem_append.1 h with h | h
    · exact .inr h
    · exact .inl ⟨i, hi, List.mem_singleton.1 h⟩
theorem Rel.placed {l : List Tk} {e : Nat} (he : (tk l e).k = 10) {x : NT} {i : Nat} {os : List Int} {r : PR} (h : Rel l x i os r) : i ≤ e → ∀ w a j, r = .bad w a j → placed l e os a := by
  have ne : ∀ {i : Nat} {k : Int}, i ≤ e → (tk l i).k = k → k ≠ 10 → i + 1 ≤ e := fun {i k} h1 h2 h3 => by
    rcases Nat.lt_or_eq_of_le h1 with h | h
    · exact h
    · subst h; exact absurd (h2.symm.trans he) h3
  induction h with
  | or1 h1 h2 ih1 ih2 | row1 h1 h2 ih1 ih2 | post1 h1 h2 ih1 ih2 => exact fun hi w a j e => ih2 (h1.within he hi).2.1 w a j e
  | or2 h1 ih1 | row2 h1 ih1 | post2 h1 ih1 => exact ih1
  | orN | rowN | postN | atomB | atomT | atomF | groupE | group1 => exact fun _ w a j e => by cases e
  | orY hk h1 h2 ih1 ih2 => exact fun hi w a j e => ih2 (h1.within he (ne hi hk (by decide))).2.1 w a j e
  | rowY hk h1 h2 ih1 ih2 => exact fun hi w a j e => ih2 (h1.within he hi).2.1 w a j e
  | orX hk h1 ih1 => exact fun hi => ih1 (ne hi hk (by decide))
  | rowX hk h1 ih1 => exact ih1
  | postS hk h1 ih1 | postR hk h1 ih1 => exact fun hi => ih1 (ne hi hk (by decide))
  | atomG hk h1 ih1 => exact ih1
  | atomX hk hk2 h1 ih1 => exact fun hi => ih1 (ne hi hk2 (by omega))
  | atomS hk | groupS hk => exact fun hi w a j e => halt_placed hi e
  | @groupD i os hk h64 => exact fun hi w a j e => by cases e; exact .inl ⟨i, hi, rfl⟩
  | groupZ hk h64 h4 h1 h5 ih => exact fun hi w a j e => placed.less hi (halt_placed (h1.within he (ne hi hk (by decide))).2.1 e)
  | group2 hk h64 h4 h1 ih => exact fun hi w a j e => placed.less hi (ih (ne hi hk (by decide)) w a j e)
end Go.Proofs.YtoidlnhgaaohdaaDoor
