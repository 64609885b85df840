/- Where it is too deep. -/
import Derived.Test.YtoidlnhgaaohdaaDoorParS
import Derived.Test.YtoidlnhgaaohdaaDoorParT
namespace Go.Proofs.YtoidlnhgaaohdaaDoor
set_option linter.all false
open Go Go.RowKit
open Nat (reduceEqDiff reduceAdd reduceMul reduceSub reduceLeDiff)
open Int (reduceEq reduceLT reduceLE)

theorem halt_why {l : List Tk} {i : Nat} {os : List Int} {w a : Int} {j : Nat} (h : halt l i os = .bad w a j) : (w = 6 ∧ (tk l i).k = 10 ∧ 0 < os.length ∨ w = 7 ∧ a = (tk l i).t ∧ ((tk l i).k = 10 → os.length = 0)) ∧ j = i := by
  unfold halt at h
  split at h
  · rename_i hc; cases h; exact ⟨.inl ⟨rfl, hc⟩, rfl⟩
  · rename_i hc; cases h; exact ⟨.inr ⟨rfl, rfl, fun hk => Decidable.byContradiction fun hn => hc ⟨hk, by omega⟩⟩, rfl⟩
/-- What a fault is. -/
theorem Rel.why {l : List Tk} {x : NT} {i : Nat} {os : List Int} {r : PR} (h : Rel l x i os r) : ∀ w a j, r = .bad w a j → (w = 6 ∨ w = 7 ∨ w = 8) ∧ (w = 7 → a = (tk l j).t) := by
  have hh : ∀ {i : Nat} {os : List Int} {w a : Int} {j : Nat}, halt l i os = .bad w a j → (w = 6 ∨ w = 7 ∨ w = 8) ∧ (w = 7 → a = (tk l j).t) := fun h => by
    obtain ⟨h1, rfl⟩ := halt_why h
    rcases h1 with ⟨h1, _⟩ | ⟨h1, h2, _⟩
    · exact ⟨.inl h1, fun h => by omega⟩
    · exact ⟨.inr (.inl h1), fun _ => h2⟩
  induction h with
  | or1 h1 h2 ih1 ih2 | row1 h1 h2 ih1 ih2 | post1 h1 h2 ih1 ih2 | orY hk h1 h2 ih1 ih2 | rowY hk h1 h2 ih1 ih2 => exact ih2
  | or2 h1 ih1 | row2 h1 ih1 | post2 h1 ih1 | orX hk h1 ih1 | rowX hk h1 ih1 | postS hk h1 ih1 | postR hk h1 ih1 | atomG hk h1 ih1 => exact ih1
  | atomX hk hk2 h1 ih1 => exact ih1
  | orN | rowN | postN | atomB | atomT | atomF | groupE | group1 => exact fun w a j e => by cases e
  | atomS hk | groupS hk => exact fun w a j e => hh e
  | groupD hk h64 => exact fun w a j e => by cases e; exact ⟨.inr (.inr rfl), fun h => by omega⟩
  | groupZ hk h64 h4 h1 h5 ih => exact fun w a j e => hh e
  | group2 hk h64 h4 h1 ih => exact ih
theorem Rel.bad8 {l : List Tk} {x : NT} {i : Nat} {os : List Int} {r : PR} (h : Rel l x i os r) : ∀ a j, r = .bad 8 a j → i ≤ j ∧ 64 < cnt l i (j + 1 - i) os.length := by
  have app : ∀ {i j k : Nat} {n : Nat}, flatB l i j → j ≤ k ∧ 64 < cnt l j (k + 1 - j) (n : Int) → i ≤ k ∧ 64 < cnt l i (k + 1 - i) (n : Int) := fun {i j k n} hf ⟨h1, h2⟩ => by
    have e1 := hf.1
    refine ⟨by omega, ?_⟩
    rw [show k + 1 - i = (j - i) + (k + 1 - j) by omega, cnt_add, hf.2 n (by omega), show i + (j - i) = j by omega]
    exact h2
  induction h with
  | or1 h1 h2 ih1 ih2 | row1 h1 h2 ih1 ih2 | post1 h1 h2 ih1 ih2 | rowY hk h1 h2 ih1 ih2 => exact fun a j e => app (h1.flat _ _ _ rfl) (ih2 a j e)
  | orY hk h1 h2 ih1 ih2 => exact fun a j e => app ((flatB.one (by omega) (by omega)).trans (h1.flat _ _ _ rfl)) (ih2 a j e)
  | or2 h1 ih1 | row2 h1 ih1 | post2 h1 ih1 | rowX hk h1 ih1 | atomG hk h1 ih1 => exact ih1
  | orX hk h1 ih1 | postS hk h1 ih1 | postR hk h1 ih1 => exact fun a j e => app (flatB.one (by omega) (by omega)) (ih1 a j e)
  | atomX hk hk2 h1 ih1 => exact fun a j e => app (flatB.one (by omega) (by omega)) (ih1 a j (by cases e; rfl))
  | orN | rowN | postN | atomB | atomT | atomF | groupE | group1 => exact fun a j e => by cases e
  | atomS hk | groupS hk => exact fun a j e => by have := (halt_why e).1; omega
  | groupZ hk h64 h4 h1 h5 ih => exact fun a j e => by have := (halt_why e).1; omega
  | @groupD i os hk h64 =>
    intro a j e
    cases e
    refine ⟨Nat.le_refl _, ?_⟩
    rw [show i + 1 - i = 1 by omega, cnt_one, dstep, if_pos hk]
    omega
  | @group2 i os w a j hk h64 h4 h1 ih =>
    intro a' j' e
    cases e
    obtain ⟨q1, q2⟩ := ih a j rfl
    refine ⟨by omega, ?_⟩
    rw [show j + 1 - i = 1 + (j + 1 - (i + 1)) by omega, cnt_add, cnt_one, dstep, if_pos hk]
    rw [List.length_append, List.length_singleton] at q2
    exact_mod_cast q2
theorem deepF_none {l : List Tk} : ∀ (q i : Nat) (n : Int), l.length - i = q → (deepF (l.drop i) n = none ↔ ∀ m, 0 < m → i + m ≤ l.length → cnt l i m n ≤ 64) := by
  intro q
  induction q with
  | zero =>
    intro i n h
    rw [List.drop_eq_nil_of_le (by omega)]
    exact ⟨fun _ m h1 h2 => by omega, fun _ => rfl⟩
  | succ q ih =>
    intro i n h
    rw [deepF_at (by omega)]
    have step : ∀ m, cnt l i (1 + m) n = cnt l (i + 1) m (dstep n (l.getD i Tk.z)) := fun m => by rw [cnt_add, cnt_one]; rfl
    by_cases hc : 64 < dstep n (l.getD i Tk.z)
    · rw [if_pos hc]
      refine ⟨fun h => (by cases h), fun h1 => ?_⟩
      have := h1 1 (by omega) (by omega)
      rw [cnt_one] at this
      exact absurd this (by show ¬ dstep n (l.getD i Tk.z) ≤ 64; omega)
    · rw [if_neg hc, ih (i + 1) _ (by omega)]
      constructor
      · intro h1 m hm hl
        obtain ⟨m', rfl⟩ : ∃ m', m = 1 + m' := ⟨m - 1, by omega⟩
        rw [step]
        by_cases h0 : m' = 0
        · subst h0; show dstep n (l.getD i Tk.z) ≤ 64; omega
        · exact h1 m' (by omega) (by omega)
      · intro h1 m hm hl
        have := h1 (1 + m) (by omega) (by omega)
        rwa [step] at this
theorem deepF_all {l : List Tk} : deepF l 0 = none ↔ ∀ m, m ≤ l.length → cnt l 0 m 0 ≤ 64 := by
  have h := deepF_none (l := l) l.length 0 0 (by omega)
  rw [List.drop_zero] at h
  rw [h]
  constructor
  · intro h m hm
    by_cases h0 : m = 0
    · subst h0; exact (by decide : (0 : Int) ≤ 64)
    · exact h m (by omega) (by omega)
  · exact fun h m _ hm => h m (by omega)
theorem cnt_same {l l' : List Tk} {i c : Nat} {n : Int} : ∀ {m : Nat}, (∀ q, i ≤ q → q < i + m → (tk l' (q + c)).k = (tk l q).k) → cnt l' (i + c) m n = cnt l i m n
  | 0, _ => rfl
  | m + 1, h => by
    rw [cnt, cnt, cnt_same fun q h1 h2 => h q h1 (by omega)]
    have := h (i + m) (by omega) (by omega)
    rw [show i + m + c = i + c + m by omega] at this
    unfold dstep
    rw [this]
theorem Rel.toodeep {l : List Tk} {a : Int} {j : Nat} (h : Rel l .or 0 [] (.bad 8 a j)) (hl : j < l.length) : deepF l 0 ≠ none := fun hn => by
  have h1 := (h.bad8 _ _ rfl).2
  have h2 := deepF_all.1 hn (j + 1) hl
  simp only [List.length_nil, Nat.sub_zero] at h1
  exact absurd h2 (by
    have : ((0 : Nat) : Int) = 0 := rfl
    rw [this] at h1
    omega)
end Go.Proofs.YtoidlnhgaaohdaaDoor
