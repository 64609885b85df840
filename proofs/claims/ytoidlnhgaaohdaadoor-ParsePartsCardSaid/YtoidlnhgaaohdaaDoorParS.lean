/- What is parsed isn't too deep. -/
import Derived.Test.YtoidlnhgaaohdaaDoorParQ
namespace Go.Proofs.YtoidlnhgaaohdaaDoor
set_option linter.all false
open Go Go.RowKit
open Nat (reduceEqDiff reduceAdd reduceMul reduceSub reduceLeDiff)
open Int (reduceEq reduceLT reduceLE)

theorem deepOk.app {l : List Tk} {i j k d : Nat} (h1 : deepOk l i (j - i) d) (hf : flatB l i j) (h2 : deepOk l j (k - j) d) : deepOk l i (k - i) d := fun m hm => by
  have e1 := hf.1
  by_cases h : m ≤ j - i
  · exact h1 m h
  · have := h2 (m - (j - i)) (by omega)
    rw [show m = (j - i) + (m - (j - i)) by omega, cnt_add, hf.2 d (by omega), show i + (j - i) = j by omega]
    exact this
theorem deepOk.nil {l : List Tk} {i d : Nat} (hd : d ≤ 64) : deepOk l i (i - i) d := fun m hm => by
  rw [show m = 0 by omega]
  show (d : Int) ≤ 64
  omega
theorem deepOk.one {l : List Tk} {i d : Nat} (hd : d ≤ 64) (h3 : (tk l i).k ≠ 3) (h4 : (tk l i).k ≠ 4) : deepOk l i (i + 1 - i) d := fun m hm => by
  rcases (by omega : m = 0 ∨ m = 1) with rfl | rfl
  · show (d : Int) ≤ 64; omega
  · rw [cnt_one, dstep_o h3 h4]; omega
theorem deepOk.wrap {l : List Tk} {i j d : Nat} (hd : d < 64) (h3 : (tk l i).k = 3) (hf : flatB l (i + 1) j) (h : deepOk l (i + 1) (j - (i + 1)) (d + 1)) (h4 : (tk l j).k = 4) : deepOk l i (j + 1 - i) d := fun m hm => by
  have e1 := hf.1
  have c1 : cnt l i 1 d = ((d + 1 : Nat) : Int) := by rw [cnt_one, dstep, if_pos h3]; omega
  have cs : m = 0 ∨ (∃ q, m = 1 + q ∧ q ≤ j - (i + 1)) ∨ m = 1 + ((j - (i + 1)) + 1) := by
    by_cases h0 : m = 0
    · exact .inl h0
    · by_cases h5 : m - 1 ≤ j - (i + 1)
      · exact .inr (.inl ⟨m - 1, by omega, h5⟩)
      · exact .inr (.inr (by omega))
  rcases cs with rfl | ⟨q, rfl, hq⟩ | rfl
  · show (d : Int) ≤ 64; omega
  · rw [cnt_add, c1]; exact h q hq
  · rw [cnt_add, c1, cnt_add, hf.2 _ (by omega), show i + 1 + (j - (i + 1)) = j by omega, cnt_one, dstep, if_neg (by omega), if_pos h4]
    omega
theorem Rel.deep {l : List Tk} {x : NT} {i : Nat} {os : List Int} {r : PR} (h : Rel l x i os r) : os.length ≤ 64 → ∀ t ats j, r = .ok t ats j → deepOk l i (j - i) os.length := by
  induction h with
  | or1 h1 h2 ih1 ih2 | row1 h1 h2 ih1 ih2 | post1 h1 h2 ih1 ih2 => exact fun ho t ats j e => (ih1 ho _ _ _ rfl).app (h1.flat _ _ _ rfl) (ih2 ho t ats j e)
  | orN | rowN | postN => exact fun ho t ats j e => by cases e; exact .nil ho
  | orY hk h1 h2 ih1 ih2 => exact fun ho t ats j e => (((deepOk.one ho (by omega) (by omega)).app (.one (by omega) (by omega)) (ih1 ho _ _ _ rfl)).app ((flatB.one (by omega) (by omega)).trans (h1.flat _ _ _ rfl)) (ih2 ho t ats j e))
  | rowY hk h1 h2 ih1 ih2 => exact fun ho t ats j e => (ih1 ho _ _ _ rfl).app (h1.flat _ _ _ rfl) (ih2 ho t ats j e)
  | postS hk h1 ih1 | postR hk h1 ih1 => exact fun ho t ats j e => (deepOk.one ho (by omega) (by omega)).app (.one (by omega) (by omega)) (ih1 ho t ats j e)
  | atomG hk h1 ih1 => exact ih1
  | atomB hk | atomT hk => exact fun ho t ats j e => by cases e; exact .one ho (by omega) (by omega)
  | atomF hk hk2 h1 ih1 => exact fun ho t ats j e => by cases e; exact (deepOk.one ho (by omega) (by omega)).app (.one (by omega) (by omega)) (ih1 ho _ _ _ rfl)
  | atomS | groupS | groupZ => exact fun _ t ats j e => absurd e halt_ok
  | groupE hk h64 h4 => exact fun ho t ats j e => by cases e; exact .wrap h64 hk .refl (.nil (by omega)) h4
  | group1 hk h64 h4 h1 h5 ih => exact fun ho t ats j e => by cases e; exact .wrap h64 hk (h1.flat _ _ _ rfl) (by have := ih (by simp; omega) _ _ _ rfl; rwa [List.length_append, List.length_singleton] at this) h5
  | or2 | orX | row2 | rowX | post2 | atomX | groupD | group2 => exact fun _ t ats j e => by cases e
end Go.Proofs.YtoidlnhgaaohdaaDoor
