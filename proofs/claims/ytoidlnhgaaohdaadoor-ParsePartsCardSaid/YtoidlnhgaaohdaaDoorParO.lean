/- What a result of parsing hangs on. -/
import Derived.Test.YtoidlnhgaaohdaaDoorParE
namespace Go.Proofs.YtoidlnhgaaohdaaDoor
set_option linter.all false
open Go Go.RowKit
open Nat (reduceEqDiff reduceAdd reduceMul reduceSub reduceLeDiff)
open Int (reduceEq reduceLT reduceLE)

theorem halt_agree {l l' : List Tk} {i : Nat} {os : List Int} (h : tk l' i = tk l i) : halt l i os = halt l' i os := by unfold halt; rw [h]
/-- It hangs on the tokens up to its place. -/
theorem Rel.agree {l l' : List Tk} {e : Nat} (he : (tk l e).k = 10) {x : NT} {i : Nat} {os : List Int} {r : PR} (h : Rel l x i os r) : i ≤ e → (∀ m, m ≤ r.place → tk l' m = tk l m) → Rel l' x i os r := by
  have ne : ∀ {i : Nat} {k : Int}, i ≤ e → (tk l i).k = k → k ≠ 10 → i + 1 ≤ e := fun {i k} h1 h2 h3 => by
    rcases Nat.lt_or_eq_of_le h1 with h | h
    · exact h
    · subst h; exact absurd (h2.symm.trans he) h3
  induction h with
  | or1 h1 h2 ih1 ih2 =>
    intro hi hm
    have w1 := h1.within he hi
    have w2 := h2.within he w1.2.1
    exact .or1 (ih1 hi fun m hx => hm m (Nat.le_trans hx w2.1)) (ih2 w1.2.1 hm)
  | row1 h1 h2 ih1 ih2 =>
    intro hi hm
    have w1 := h1.within he hi
    have w2 := h2.within he w1.2.1
    exact .row1 (ih1 hi fun m hx => hm m (Nat.le_trans hx w2.1)) (ih2 w1.2.1 hm)
  | post1 h1 h2 ih1 ih2 =>
    intro hi hm
    have w1 := h1.within he hi
    have w2 := h2.within he w1.2.1
    exact .post1 (ih1 hi fun m hx => hm m (Nat.le_trans hx w2.1)) (ih2 w1.2.1 hm)
  | or2 h1 ih1 => exact fun hi hm => .or2 (ih1 hi hm)
  | row2 h1 ih1 => exact fun hi hm => .row2 (ih1 hi hm)
  | post2 h1 ih1 => exact fun hi hm => .post2 (ih1 hi hm)
  | @orN t ats i os hk => exact fun hi hm => .orN (by rw [hm i (Nat.le_refl _)]; exact hk)
  | @rowN t ats i os hk => exact fun hi hm => .rowN (by rw [hm i (Nat.le_refl _)]; exact hk)
  | @postN t ats i os hk hk2 => exact fun hi hm => .postN (by rw [hm i (Nat.le_refl _)]; exact hk) (by rw [hm i (Nat.le_refl _)]; exact hk2)
  | @orY t ats i os u bts j r hk h1 h2 ih1 ih2 =>
    intro hi hm
    have hi1 := ne hi hk (by decide)
    have w1 := h1.within he hi1
    have w2 := h2.within he w1.2.1
    have l1 : i + 1 ≤ j := w1.1
    have l2 : j ≤ r.place := w2.1
    exact .orY (by rw [hm i (by omega)]; exact hk) (ih1 hi1 fun m hx => hm m (Nat.le_trans hx l2)) (ih2 w1.2.1 hm)
  | @rowY t ats i os u bts j r hk h1 h2 ih1 ih2 =>
    intro hi hm
    have w1 := h1.within he hi
    have w2 := h2.within he w1.2.1
    have l1 : i ≤ j := w1.1
    have l2 : j ≤ r.place := w2.1
    exact .rowY (by rw [hm i (by omega)]; exact hk) (ih1 hi fun m hx => hm m (Nat.le_trans hx l2)) (ih2 w1.2.1 hm)
  | @orX t ats i os w a j hk h1 ih1 =>
    intro hi hm
    have hi1 := ne hi hk (by decide)
    have l1 : i + 1 ≤ j := (h1.within he hi1).1
    exact .orX (by rw [hm i (by show i ≤ j; omega)]; exact hk) (ih1 hi1 hm)
  | @rowX t ats i os w a j hk h1 ih1 =>
    intro hi hm
    have l1 : i ≤ j := (h1.within he hi).1
    exact .rowX (by rw [hm i l1]; exact hk) (ih1 hi hm)
  | @postS t ats i os r hk h1 ih1 =>
    intro hi hm
    have hi1 := ne hi hk (by decide)
    have l1 := (h1.within he hi1).1
    have e1 := hm i (by omega)
    exact .postS (by rw [e1]; exact hk) (by rw [e1]; exact ih1 hi1 hm)
  | @postR t ats i os r hk h1 ih1 =>
    intro hi hm
    have hi1 := ne hi hk (by decide)
    have l1 := (h1.within he hi1).1
    have e1 := hm i (by omega)
    exact .postR (by rw [e1]; exact hk) (by rw [e1]; exact ih1 hi1 hm)
  | @atomG i os r hk h1 ih1 =>
    intro hi hm
    exact .atomG (by rw [hm i (h1.within he hi).1]; exact hk) (ih1 hi hm)
  | @atomB i os hk =>
    intro hi hm
    have e1 := hm i (Nat.le_succ _)
    rw [← e1]
    exact .atomB (by rw [e1]; exact hk)
  | @atomT i os hk =>
    intro hi hm
    have e1 := hm i (Nat.le_succ _)
    rw [← e1]
    exact .atomT (by rw [e1]; exact hk)
  | @atomF i os k t ats j hk hk2 h1 ih1 =>
    intro hi hm
    have hi1 := ne hi hk2 (by omega)
    have l1 : i + 1 ≤ j := (h1.within he hi1).1
    exact .atomF hk (by rw [hm i (by show i ≤ j; omega)]; exact hk2) (ih1 hi1 hm)
  | @atomX i os k w a j hk hk2 h1 ih1 =>
    intro hi hm
    have hi1 := ne hi hk2 (by omega)
    have l1 : i + 1 ≤ j := (h1.within he hi1).1
    exact .atomX hk (by rw [hm i (by show i ≤ j; omega)]; exact hk2) (ih1 hi1 hm)
  | @atomS i os hk =>
    intro hi hm
    have e1 := hm i (by rw [halt_place]; exact Nat.le_refl _)
    rw [halt_agree e1]
    exact .atomS (by rw [e1]; exact hk)
  | @groupS i os hk =>
    intro hi hm
    have e1 := hm i (by rw [halt_place]; exact Nat.le_refl _)
    rw [halt_agree e1]
    exact .groupS (by rw [e1]; exact hk)
  | @groupD i os hk h64 =>
    intro hi hm
    have e1 := hm i (Nat.le_refl _)
    rw [← e1]
    exact .groupD (by rw [e1]; exact hk) h64
  | @groupE i os hk h64 h4 =>
    intro hi hm
    exact .groupE (by rw [hm i (by show i ≤ i + 2; omega)]; exact hk) h64 (by rw [hm (i + 1) (by show i + 1 ≤ i + 2; omega)]; exact h4)
  | @group1 i os t ats j hk h64 h4 h1 h5 ih =>
    intro hi hm
    have hi1 := ne hi hk (by decide)
    have l1 : i + 1 ≤ j := (h1.within he hi1).1
    have e1 := hm i (by show i ≤ j + 1; omega)
    exact .group1 (by rw [e1]; exact hk) h64 (by rw [hm (i + 1) (by show i + 1 ≤ j + 1; omega)]; exact h4) (by rw [e1]; exact ih hi1 fun m hx => hm m (by have : m ≤ j := hx; show m ≤ j + 1; omega)) (by rw [hm j (Nat.le_succ _)]; exact h5)
  | @groupZ i os t ats j hk h64 h4 h1 h5 ih =>
    intro hi hm
    rw [halt_place] at hm
    have hi1 := ne hi hk (by decide)
    have l1 : i + 1 ≤ j := (h1.within he hi1).1
    have e1 := hm i (by omega)
    have ej := hm j (Nat.le_refl _)
    rw [halt_agree ej, ← e1]
    exact .groupZ (by rw [e1]; exact hk) h64 (by rw [hm (i + 1) (by omega)]; exact h4) (by rw [e1]; exact ih hi1 fun m hx => hm m hx) (by rw [ej]; exact h5)
  | @group2 i os w a j hk h64 h4 h1 ih =>
    intro hi hm
    have hi1 := ne hi hk (by decide)
    have l1 : i + 1 ≤ j := (h1.within he hi1).1
    have e1 := hm i (by show i ≤ j; omega)
    exact .group2 (by rw [e1]; exact hk) h64 (by rw [hm (i + 1) (by show i + 1 ≤ j; omega)]; exact h4) (by rw [e1]; exact ih hi1 hm)
end Go.Proofs.YtoidlnhgaaohdaaDoor
