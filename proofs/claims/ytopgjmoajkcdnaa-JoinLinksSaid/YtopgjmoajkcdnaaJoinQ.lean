/- What joining makes of the roots. -/
import Derived.Test.YtopgjmoajkcdnaaJoinP
namespace Go.Proofs.Ytopgjmoajkcdnaa
set_option linter.all false
open Go Go.RowKit

section
variable {u : List Int} {a b : Nat}
theorem set_at (ha : a < u.length) : (u.set a (b : Int)).getD a 0 = b := by simp [List.getD_eq_getElem?_getD, List.getElem?_set, ha]
theorem set_ne {i : Nat} (h : i ≠ a) : (u.set a (b : Int)).getD i 0 = u.getD i 0 := by
  simp only [List.getD_eq_getElem?_getD, List.getElem?_set]
  rw [if_neg (fun e => h e.symm)]
theorem iter_set : ∀ {k : Nat} {x : Int}, (∀ j, j < k → (iter u j x).toNat ≠ a) → iter (u.set a (b : Int)) k x = iter u k x
  | 0, x, _ => rfl
  | k + 1, x, h => by
    rw [iter_succ, iter_succ, iter_set fun j hj => h j (by omega), set_ne (h k (by omega))]

/-- The root that a number comes to. -/
def root (u : List Int) (x : Nat) : Nat := (iter u u.length x).toNat
theorem root_lt (h : inR u) {x : Nat} (hx : x < u.length) : root u x < u.length := by
  have := iter_in h (m := u.length) (i := (x : Int)) (by omega) (by omega)
  unfold root
  omega
theorem root_cast (h : inR u) {x : Nat} (hx : x < u.length) : ((root u x : Nat) : Int) = iter u u.length x := by
  have := iter_in h (m := u.length) (i := (x : Int)) (by omega) (by omega)
  unfold root
  omega
theorem root_root (h : okF u) {x : Nat} (hx : x < u.length) : u.getD (root u x) 0 = root u x := by
  rw [root_cast h.1 hx]
  exact h.2 x hx
theorem root_self (h : okF u) {x : Nat} (hx : u.getD x 0 = x) : root u x = x := by
  unfold root
  rw [iter_root (by simpa using hx)]
  omega

/-- Which numbers' roots are turned. -/
theorem root_set (h : okF u) (ha : a < u.length) (hb : b < u.length) (hra : u.getD a 0 = a) (hrb : u.getD b 0 = b) (hab : a ≠ b) {x : Nat} (hx : x < u.length) : root (u.set a (b : Int)) x = if root u x = a then b else root u x := by
  have hlen : (u.set a (b : Int)).length = u.length := by simp
  obtain ⟨k, k1, k2, k3⟩ := root_soon h.1 (i := (x : Int)) (by omega) (by omega) (h.2 x hx)
  have hin := fun m => iter_in h.1 (m := m) (i := (x : Int)) (by omega) (by omega)
  by_cases hr : root u x = a
  · rw [if_pos hr]
    -- the first step at which it comes to a
    have hex : ∃ j, j < u.length ∧ (iter u j x).toNat = a := ⟨k, k1, by rw [k3]; exact hr⟩
    have : ∀ m, (∃ j, j ≤ m ∧ (iter u j x).toNat = a) → ∃ j, j ≤ m ∧ (iter u j x).toNat = a ∧ ∀ i, i < j → (iter u i x).toNat ≠ a := by
      intro m
      induction m with
      | zero => rintro ⟨j, h1, h2⟩; exact ⟨j, h1, h2, fun i hi => by omega⟩
      | succ m ih =>
        intro hm
        by_cases hc : ∃ j, j ≤ m ∧ (iter u j x).toNat = a
        · obtain ⟨j, q1, q2, q3⟩ := ih hc
          exact ⟨j, by omega, q2, q3⟩
        · obtain ⟨j, h1, h2⟩ := hm
          exact ⟨j, h1, h2, fun i hi e => hc ⟨i, by omega, e⟩⟩
    obtain ⟨j, j1, j2, j3⟩ := this (u.length - 1) (by obtain ⟨j, q1, q2⟩ := hex; exact ⟨j, by omega, q2⟩)
    have e1 : iter (u.set a (b : Int)) j x = iter u j x := iter_set j3
    have e2 : iter (u.set a (b : Int)) (j + 1) x = b := by rw [iter_succ, e1, j2, set_at ha]
    have e3 : (u.set a (b : Int)).getD (iter (u.set a (b : Int)) (j + 1) x).toNat 0 = iter (u.set a (b : Int)) (j + 1) x := by
      rw [e2, Int.toNat_natCast, set_ne (fun e => hab e.symm), hrb]
    unfold root
    rw [hlen, iter_stays e3 (by omega), e2]
    omega
  · rw [if_neg hr]
    have hne : ∀ j, j < u.length → (iter u j x).toNat ≠ a := fun j hj e => hr (by
      have e1 : iter u j x = a := by have := hin j; omega
      unfold root
      rw [iter_stays (m := j) (by rw [e1, Int.toNat_natCast, hra]) (by omega), e]
      )
    unfold root
    rw [hlen, iter_set hne]

theorem okF_set (h : okF u) (ha : a < u.length) (hb : b < u.length) (hra : u.getD a 0 = a) (hrb : u.getD b 0 = b) (hab : a ≠ b) : okF (u.set a (b : Int)) := by
  have hlen : (u.set a (b : Int)).length = u.length := by simp
  have hin : inR (u.set a (b : Int)) := fun i hi => by
    rw [hlen] at hi ⊢
    by_cases e : i = a
    · subst e; rw [set_at ha]; omega
    · rw [set_ne e]; exact h.1 i hi
  refine ⟨hin, fun i hi => ?_⟩
  have hi' : i < u.length := by rwa [hlen] at hi
  have hc := root_cast hin hi
  have hs := root_set h ha hb hra hrb hab hi'
  have hr := root_root h hi'
  rw [← hc, Int.toNat_natCast, hs]
  split
  · rw [set_ne (fun e => hab e.symm), hrb]
  · rename_i hne; rw [set_ne hne, hr]
end
end Go.Proofs.Ytopgjmoajkcdnaa
