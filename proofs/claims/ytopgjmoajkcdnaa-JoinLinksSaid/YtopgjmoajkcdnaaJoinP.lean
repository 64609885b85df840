/- Forests, as plain data. -/
import Derived.Test.YtopgjmoajkcdnaaSpec
namespace Go.Proofs.Ytopgjmoajkcdnaa
set_option linter.all false
open Go Go.RowKit

def frs (u : List Int) : D := .agg [ints u]
attribute [go_sem] frs

/-- Up from a number, so many times at the most. -/
def upF (u : List Int) : Nat → Int → Option Int
  | 0, _ => none
  | m + 1, i => if i < 0 ∨ u.length ≤ i then none else if u.getD i.toNat 0 = i then some i else upF u m (u.getD i.toNat 0)
/-- So many times up. -/
def iter (u : List Int) : Nat → Int → Int
  | 0, i => i
  | m + 1, i => iter u m (u.getD i.toNat 0)
/-- All of them are numbers of the forest. -/
def inR (u : List Int) : Prop := ∀ i, i < u.length → 0 ≤ u.getD i 0 ∧ u.getD i 0 < u.length
/-- Each comes to a root. -/
def okF (u : List Int) : Prop := inR u ∧ ∀ i, i < u.length → u.getD (iter u u.length i).toNat 0 = iter u u.length i

theorem iter_add {u : List Int} : ∀ {m k : Nat} {i : Int}, iter u (m + k) i = iter u k (iter u m i)
  | 0, k, i => by rw [Nat.zero_add]; rfl
  | m + 1, k, i => by rw [show m + 1 + k = (m + k) + 1 by omega, iter, iter_add (m := m), iter]
theorem iter_in {u : List Int} (h : inR u) : ∀ {m : Nat} {i : Int}, 0 ≤ i → i < u.length → 0 ≤ iter u m i ∧ iter u m i < u.length
  | 0, i, h0, h1 => ⟨h0, h1⟩
  | m + 1, i, h0, h1 => by
    have := h i.toNat (by omega)
    rw [iter]
    exact iter_in h this.1 this.2
theorem iter_root {u : List Int} {i : Int} (h : u.getD i.toNat 0 = i) : ∀ m, iter u m i = i
  | 0 => rfl
  | m + 1 => by rw [iter, h, iter_root h m]
theorem iter_succ {u : List Int} {m : Nat} {i : Int} : iter u (m + 1) i = u.getD (iter u m i).toNat 0 := by rw [iter_add (m := m)]; rfl

/-- Once at a root, it stays there. -/
theorem iter_stays {u : List Int} {m k : Nat} {i : Int} (h : u.getD (iter u m i).toNat 0 = iter u m i) (hk : m ≤ k) : iter u k i = iter u m i := by
  obtain ⟨d, rfl⟩ := Nat.exists_eq_add_of_le hk
  rw [iter_add, iter_root h]

/-- Two of more numbers than there are, are the same. -/
theorem pigeon {n : Nat} (f : Nat → Nat) (h : ∀ i, i ≤ n → f i < n) : ∃ i j, i < j ∧ j ≤ n ∧ f i = f j := by
  induction n generalizing f with
  | zero => exact absurd (h 0 (Nat.le_refl _)) (by omega)
  | succ n ih =>
    by_cases hc : ∃ i, i ≤ n ∧ f i = f (n + 1)
    · obtain ⟨i, h1, h2⟩ := hc
      exact ⟨i, n + 1, by omega, Nat.le_refl _, h2⟩
    · obtain ⟨i, j, h1, h2, h3⟩ := ih (fun i => if f i = n then f (n + 1) else f i) (fun i hi => by
        have a1 := h i (by omega)
        have a2 := h (n + 1) (by omega)
        have a3 : f i ≠ f (n + 1) := fun e => hc ⟨i, hi, e⟩
        split <;> omega)
      have a1 : f i ≠ f (n + 1) := fun e => hc ⟨i, by omega, e⟩
      have a2 : f j ≠ f (n + 1) := fun e => hc ⟨j, by omega, e⟩
      refine ⟨i, j, h1, by omega, ?_⟩
      split at h3 <;> split at h3 <;> omega

/-- A root that is ever come to, is come to within so many steps as there are other numbers. -/
theorem root_soon {u : List Int} (h : inR u) {i : Int} (h0 : 0 ≤ i) (h1 : i < u.length) {m : Nat} (hr : u.getD (iter u m i).toNat 0 = iter u m i) : ∃ k, k < u.length ∧ u.getD (iter u k i).toNat 0 = iter u k i ∧ iter u k i = iter u m i := by
  induction m using Nat.strongRecOn with
  | _ m ih =>
  by_cases hm : m < u.length
  · exact ⟨m, hm, hr, rfl⟩
  · obtain ⟨p, q, hpq, hq, he⟩ := pigeon (n := u.length) (fun k => (iter u k i).toNat) (fun k _ => by have := iter_in h (m := k) h0 h1; omega)
    have e : iter u p i = iter u q i := by
      have := iter_in h (m := p) h0 h1
      have := iter_in h (m := q) h0 h1
      omega
    have e2 : iter u (p + (m - q)) i = iter u m i := by
      rw [iter_add, e, ← iter_add]
      congr 1
      omega
    obtain ⟨k, k1, k2, k3⟩ := ih (p + (m - q)) (by omega) (by rw [e2]; exact hr)
    exact ⟨k, k1, k2, k3.trans e2⟩

/-- What 'up' gives, if all are in range. -/
theorem upF_some {u : List Int} (h : inR u) : ∀ {m : Nat} {i : Int}, 0 ≤ i → i < u.length → ∀ {k : Nat}, k < m → u.getD (iter u k i).toNat 0 = iter u k i → upF u m i = some (iter u k i)
  | 0, i, _, _, k, hk, _ => by omega
  | m + 1, i, h0, h1, k, hk, hr => by
    rw [upF, if_neg (by omega)]
    by_cases he : u.getD i.toNat 0 = i
    · rw [if_pos he, iter_root he]
    · rw [if_neg he]
      cases k with
      | zero => exact absurd hr he
      | succ k =>
        have := h i.toNat (by omega)
        exact upF_some h this.1 this.2 (by omega) hr
theorem upF_root {u : List Int} : ∀ {m : Nat} {i r : Int}, upF u m i = some r → (0 ≤ r ∧ r < u.length) ∧ u.getD r.toNat 0 = r ∧ ∃ k, k < m ∧ iter u k i = r
  | 0, i, r, h => by simp [upF] at h
  | m + 1, i, r, h => by
    rw [upF] at h
    split at h
    · cases h
    · split at h
      · injection h with h
        subst h
        rename_i h2
        exact ⟨by omega, h2, 0, by omega, rfl⟩
      · obtain ⟨h1, h2, k, h3, h4⟩ := upF_root h
        exact ⟨h1, h2, k + 1, by omega, h4⟩
theorem upF_range {u : List Int} {m : Nat} {i : Int} (h : upF u (m + 1) i ≠ none) : 0 ≤ i ∧ i < u.length := by
  rw [upF] at h
  split at h
  · exact absurd rfl h
  · omega
/-- The two ways to ask for the form. -/
theorem form_iff {u : List Int} : okF u ↔ ∀ i : Nat, i < u.length → upF u u.length i ≠ none := by
  constructor
  · rintro ⟨h1, h2⟩ i hi
    obtain ⟨k, k1, k2, k3⟩ := root_soon h1 (i := i) (by omega) (by omega) (h2 i hi)
    rw [upF_some h1 (by omega) (by omega) k1 k2]
    simp
  · intro h
    have hr : inR u := fun i hi => by
      have h1 := h i hi
      obtain ⟨n, hn⟩ : ∃ n, u.length = n + 1 := ⟨u.length - 1, by omega⟩
      rw [hn, upF] at h1
      split at h1
      · exact absurd rfl h1
      · simp only [Int.toNat_natCast] at h1
        split at h1
        · rename_i h2; omega
        · cases n with
          | zero => exact absurd rfl h1
          | succ n => exact upF_range h1
    refine ⟨hr, fun i hi => ?_⟩
    have h1 := h i hi
    cases hu : upF u u.length i with
    | none => exact absurd hu h1
    | some r =>
      obtain ⟨_, h2, k, h3, h4⟩ := upF_root hu
      rw [iter_stays (m := k) (by rw [h4]; exact h2) (by omega), h4]
      exact h2
/-- Of a forest that has its form, 'up' is so many times up as there are numbers. -/
theorem up_iter {u : List Int} (h : okF u) {i : Int} (h0 : 0 ≤ i) (h1 : i < u.length) : upF u u.length i = some (iter u u.length i) := by
  have h2 := h.2 i.toNat (by omega)
  rw [show ((i.toNat : Nat) : Int) = i by omega] at h2
  obtain ⟨k, k1, k2, k3⟩ := root_soon h.1 h0 h1 h2
  rw [upF_some h.1 h0 h1 k1 k2, k3]
end Go.Proofs.Ytopgjmoajkcdnaa
