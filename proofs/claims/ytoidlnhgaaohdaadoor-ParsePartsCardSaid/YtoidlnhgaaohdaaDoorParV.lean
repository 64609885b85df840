/- What is parsed, and goes on. -/
import Derived.Test.YtoidlnhgaaohdaaDoorParU
namespace Go.Proofs.YtoidlnhgaaohdaaDoor
set_option linter.all false
open Go Go.RowKit
open Nat (reduceEqDiff reduceAdd reduceMul reduceSub reduceLeDiff)
open Int (reduceEq reduceLT reduceLE)

def NT.isOr : NT → Prop
  | .or | .orL .. => True
  | _ => False
/-- An or goes on. -/
theorem Rel.onOr {l l' : List Tk} {e : Nat} (he : (tk l e).k = 10) {x : NT} {i : Nat} {os : List Int} {r : PR} (h : Rel l x i os r) : ∀ t ats j, r = .ok t ats j → i ≤ e → x.isOr → ∀ os' a0 (Z : PR → Prop), (∀ m, i ≤ m → m < j → sameTk (tk l' m) (tk l m)) → NT.row.ends (tk l' j) → deepOk l' i (j - i) os'.length → (∀ a, ∃ r', Z r' ∧ Rel l' (.orL t a) j os' r') → ∃ r', Z r' ∧ Rel l' (x.with a0) i os' r' := by
  have ne : ∀ {i : Nat} {k : Int}, i ≤ e → (tk l i).k = k → k ≠ 10 → i + 1 ≤ e := fun {i k} h1 h2 h3 => by
    rcases Nat.lt_or_eq_of_le h1 with h | h
    · exact h
    · subst h; exact absurd (h2.symm.trans he) h3
  induction h with
  | orN hk =>
    intro t ats j e hi _ os' a0 Z hs hl hd hr
    cases e
    exact hr a0
  | @or1 i os t1 ats1 j r h1 h2 ih1 ih2 =>
    intro t ats j' e hi _ os' a0 Z hs hl hd hr
    subst e
    have w1 := h1.within he hi
    have l1 : i ≤ j := w1.1
    have wj : j ≤ e := w1.2.1
    have l2 : j ≤ j' := (h2.within he wj).1
    have hl1 : NT.row.ends (tk l' j) := by
      rcases Nat.lt_or_eq_of_le l2 with h | h
      · exact ends_same (hs j l1 h) (h1.fin _ _ _ rfl trivial)
      · subst h; exact hl
    obtain ⟨a1, r1⟩ := h1.move (c := 0) he _ _ _ rfl hi os' [] (fun m x y => hs m x (by omega)) hl1 (hd.head (by omega))
    obtain ⟨q, hq, r2⟩ := ih2 _ _ _ rfl wj trivial os' a1 Z (fun m x y => hs m (by omega) y) hl (hd.tail (r1.flat _ _ _ rfl) l2) hr
    exact ⟨q, hq, .or1 r1 r2⟩
  | @orY t0 ats0 i os u bts j r hk h1 h2 ih1 ih2 =>
    intro t ats j' e hi _ os' a0 Z hs hl hd hr
    subst e
    have hi1 := ne hi hk (by decide)
    have w1 := h1.within he hi1
    have l1 : i + 1 ≤ j := w1.1
    have wj : j ≤ e := w1.2.1
    have l2 : j ≤ j' := (h2.within he wj).1
    have hl1 : NT.row.ends (tk l' j) := by
      rcases Nat.lt_or_eq_of_le l2 with h | h
      · exact ends_same (hs j (by omega) h) (h1.fin _ _ _ rfl trivial)
      · subst h; exact hl
    have k' : (tk l' i).k = 5 := (hs i (Nat.le_refl _) (by omega)).1.trans hk
    have d1 : deepOk l' (i + 1) (j' - (i + 1)) os'.length := hd.tail (.one (by omega) (by omega)) (by omega)
    obtain ⟨a1, r1⟩ := h1.move (c := 0) he _ _ _ rfl hi1 os' [] (fun m x y => hs m (by omega) (by omega)) hl1 (d1.head (by omega))
    obtain ⟨q, hq, r2⟩ := ih2 _ _ _ rfl wj trivial os' (a0 ++ a1 ++ [-1]) Z (fun m x y => hs m (by omega) y) hl (d1.tail (r1.flat _ _ _ rfl) l2) hr
    exact ⟨q, hq, .orY k' r1 r2⟩
  | _ => intro t ats j e hi hx; first | (cases e; done) | exact hx.elim
end Go.Proofs.YtoidlnhgaaohdaaDoor
