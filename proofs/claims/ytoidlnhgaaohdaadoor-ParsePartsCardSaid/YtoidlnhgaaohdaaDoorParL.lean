/- Parsing always comes to something. -/
import Derived.Test.YtoidlnhgaaohdaaDoorParE
namespace Go.Proofs.YtoidlnhgaaohdaaDoor
set_option linter.all false
open Go Go.RowKit
open Nat (reduceEqDiff reduceAdd reduceMul reduceSub reduceLeDiff)
open Int (reduceEq reduceLT reduceLE)

theorem Rel.total {l : List Tk} {e : Nat} (he : (tk l e).k = 10) : ∀ (n i : Nat), e - i = n → i ≤ e → ∀ os, (∃ r, Rel l .or i os r) ∧ (∃ r, Rel l .row i os r) ∧ (∃ r, Rel l .post i os r) ∧ (∃ r, Rel l .atom i os r) ∧ (∃ r, Rel l .group i os r) ∧
    (∀ t ats, ∃ r, Rel l (.orL t ats) i os r) ∧ (∀ t ats, ∃ r, Rel l (.rowL t ats) i os r) ∧ (∀ t ats, ∃ r, Rel l (.postL t ats) i os r) := by
  intro n
  induction n using Nat.strongRecOn with
  | _ n ih =>
    intro i hn hi os
    have up : ∀ {k : Int}, (tk l i).k = k → k ≠ 10 → i + 1 ≤ e := fun {k} h2 h3 => by
      rcases Nat.lt_or_eq_of_le hi with h | h
      · exact h
      · subst h; exact absurd (h2.symm.trans he) h3
    have nxt := fun (j : Nat) (h1 : i < j) (h2 : j ≤ e) => ih (e - j) (by omega) j rfl h2
    have group : ∃ r, Rel l .group i os r := by
      by_cases hk : (tk l i).k = 3
      · have h1 := up hk (by decide)
        by_cases h64 : 64 ≤ os.length
        · exact ⟨_, .groupD hk h64⟩
        · by_cases h4 : (tk l (i + 1)).k = 4
          · exact ⟨_, .groupE hk (by omega) h4⟩
          · obtain ⟨r, hr⟩ := (nxt (i + 1) (by omega) h1 (os ++ [(tk l i).t])).1
            cases r with
            | bad w a j => exact ⟨_, .group2 hk (by omega) h4 hr⟩
            | ok t ats j =>
              by_cases hj : (tk l j).k = 4
              · exact ⟨_, .group1 hk (by omega) h4 hr hj⟩
              · exact ⟨_, .groupZ hk (by omega) h4 hr hj⟩
      · exact ⟨_, .groupS hk⟩
    have atom : ∃ r, Rel l .atom i os r := by
      by_cases h3 : (tk l i).k = 3
      · obtain ⟨r, hr⟩ := group; exact ⟨_, .atomG h3 hr⟩
      · by_cases h1 : (tk l i).k = 1
        · exact ⟨_, .atomB h1⟩
        · by_cases h2 : (tk l i).k = 2
          · exact ⟨_, .atomT h2⟩
          · by_cases h8 : (tk l i).k = 8 ∨ (tk l i).k = 9
            · obtain ⟨r, hr⟩ := (nxt (i + 1) (by omega) (up rfl (by omega)) os).2.2.2.2.1
              cases r with
              | bad w a j => exact ⟨_, .atomX h8 rfl hr⟩
              | ok t ats j => exact ⟨_, .atomF h8 rfl hr⟩
            · exact ⟨_, .atomS fun hb => by simp [begs] at hb; omega⟩
    have postL : ∀ t ats, ∃ r, Rel l (.postL t ats) i os r := fun t ats => by
      by_cases h6 : (tk l i).k = 6
      · obtain ⟨r, hr⟩ := (nxt (i + 1) (by omega) (up h6 (by decide)) os).2.2.2.2.2.2.2 (.one 6 0 0 t) (ats ++ [(tk l i).t])
        exact ⟨_, .postS h6 hr⟩
      · by_cases h7 : (tk l i).k = 7
        · obtain ⟨r, hr⟩ := (nxt (i + 1) (by omega) (up h7 (by decide)) os).2.2.2.2.2.2.2 (.one 7 (tk l i).lo (tk l i).hi t) (ats ++ [(tk l i).t])
          exact ⟨_, .postR h7 hr⟩
        · exact ⟨_, .postN h6 h7⟩
    have post : ∃ r, Rel l .post i os r := by
      obtain ⟨r, hr⟩ := atom
      cases r with
      | bad w a j => exact ⟨_, .post2 hr⟩
      | ok t ats j =>
        obtain ⟨h1, h2, h3⟩ := hr.within he hi
        obtain ⟨r, hr2⟩ := (nxt j (h3 rfl _ _ _ rfl) h2 os).2.2.2.2.2.2.2 t ats
        exact ⟨_, .post1 hr hr2⟩
    have rowL : ∀ t ats, ∃ r, Rel l (.rowL t ats) i os r := fun t ats => by
      by_cases hb : begs (tk l i)
      · obtain ⟨r, hr⟩ := post
        cases r with
        | bad w a j => exact ⟨_, .rowX hb hr⟩
        | ok u bts j =>
          obtain ⟨h1, h2, h3⟩ := hr.within he hi
          obtain ⟨r, hr2⟩ := (nxt j (h3 rfl _ _ _ rfl) h2 os).2.2.2.2.2.2.1 (.two 4 t u) (ats ++ bts ++ [-1])
          exact ⟨_, .rowY hb hr hr2⟩
      · exact ⟨_, .rowN hb⟩
    have row : ∃ r, Rel l .row i os r := by
      obtain ⟨r, hr⟩ := post
      cases r with
      | bad w a j => exact ⟨_, .row2 hr⟩
      | ok t ats j =>
        obtain ⟨h1, h2, h3⟩ := hr.within he hi
        obtain ⟨r, hr2⟩ := (nxt j (h3 rfl _ _ _ rfl) h2 os).2.2.2.2.2.2.1 t ats
        exact ⟨_, .row1 hr hr2⟩
    have orL : ∀ t ats, ∃ r, Rel l (.orL t ats) i os r := fun t ats => by
      by_cases h5 : (tk l i).k = 5
      · have hu := up h5 (by decide)
        obtain ⟨r, hr⟩ := (nxt (i + 1) (by omega) hu os).2.1
        cases r with
        | bad w a j => exact ⟨_, .orX h5 hr⟩
        | ok u bts j =>
          obtain ⟨h1, h2, h3⟩ := hr.within he hu
          simp only [PR.place] at h1 h2
          obtain ⟨r, hr2⟩ := (nxt j (by omega) h2 os).2.2.2.2.2.1 (.two 5 t u) (ats ++ bts ++ [-1])
          exact ⟨_, .orY h5 hr hr2⟩
      · exact ⟨_, .orN h5⟩
    have or : ∃ r, Rel l .or i os r := by
      obtain ⟨r, hr⟩ := row
      cases r with
      | bad w a j => exact ⟨_, .or2 hr⟩
      | ok t ats j =>
        obtain ⟨h1, h2, h3⟩ := hr.within he hi
        obtain ⟨r, hr2⟩ := (nxt j (h3 rfl _ _ _ rfl) h2 os).2.2.2.2.2.1 t ats
        exact ⟨_, .or1 hr hr2⟩
    exact ⟨or, row, post, atom, group, orL, rowL, postL⟩
end Go.Proofs.YtoidlnhgaaohdaaDoor
