/- Brackets are balanced. -/
import Derived.Test.YtoidlnhgaaohdaaDoorParM
import Derived.Test.YtoidlnhgaaohdaaDoorParO
namespace Go.Proofs.YtoidlnhgaaohdaaDoor
set_option linter.all false
open Go Go.RowKit
open Nat (reduceEqDiff reduceAdd reduceMul reduceSub reduceLeDiff)
open Int (reduceEq reduceLT reduceLE)

/-- How many brackets are open behind so many tokens. -/
def cnt (l : List Tk) (i : Nat) : Nat → Int → Int
  | 0, n => n
  | m + 1, n => dstep (cnt l i m n) (tk l (i + m))
theorem cnt_add {l : List Tk} {i a : Nat} {n : Int} : ∀ {b : Nat}, cnt l i (a + b) n = cnt l (i + a) b (cnt l i a n)
  | 0 => rfl
  | b + 1 => by rw [← Nat.add_assoc, cnt, cnt, cnt_add, Nat.add_assoc]
theorem cnt_one {l : List Tk} {i : Nat} {n : Int} : cnt l i 1 n = dstep n (tk l i) := rfl
theorem dstep_o {n : Int} {t : Tk} (h3 : t.k ≠ 3) (h4 : t.k ≠ 4) : dstep n t = n := by rw [dstep, if_neg h3, if_neg h4]
/-- Between two places it is as deep as before. -/
def flatB (l : List Tk) (i j : Nat) : Prop := i ≤ j ∧ ∀ n : Int, 0 ≤ n → cnt l i (j - i) n = n
theorem flatB.refl {l : List Tk} {i : Nat} : flatB l i i := ⟨Nat.le_refl _, fun n _ => by rw [Nat.sub_self]; rfl⟩
theorem flatB.trans {l : List Tk} {i j k : Nat} (h1 : flatB l i j) (h2 : flatB l j k) : flatB l i k := ⟨Nat.le_trans h1.1 h2.1, fun n hn => by
  have e1 := h1.1
  have e2 := h2.1
  rw [show k - i = (j - i) + (k - j) by omega, cnt_add, h1.2 n hn, show i + (j - i) = j by omega, h2.2 n hn]⟩
theorem flatB.one {l : List Tk} {i : Nat} (h3 : (tk l i).k ≠ 3) (h4 : (tk l i).k ≠ 4) : flatB l i (i + 1) := ⟨Nat.le_succ _, fun n _ => by rw [show i + 1 - i = 1 by omega, cnt_one, dstep_o h3 h4]⟩
theorem flatB.wrap {l : List Tk} {i j : Nat} (h3 : (tk l i).k = 3) (h : flatB l (i + 1) j) (h4 : (tk l j).k = 4) : flatB l i (j + 1) := by
  have e1 := h.1
  refine ⟨by omega, fun n hn => ?_⟩
  rw [show j + 1 - i = 1 + ((j - (i + 1)) + 1) by omega, cnt_add, cnt_one, cnt_add, dstep, if_pos h3, h.2 (n + 1) (by omega), show i + 1 + (j - (i + 1)) = j by omega, cnt_one, dstep, if_neg (by omega), if_pos h4]
  omega
theorem Rel.flat {l : List Tk} {x : NT} {i : Nat} {os : List Int} {r : PR} (h : Rel l x i os r) : ∀ t ats j, r = .ok t ats j → flatB l i j := by
  induction h with
  | or1 h1 h2 ih1 ih2 | row1 h1 h2 ih1 ih2 | post1 h1 h2 ih1 ih2 => exact fun t ats j e => (ih1 _ _ _ rfl).trans (ih2 t ats j e)
  | orN | rowN | postN => exact fun t ats j e => by cases e; exact .refl
  | orY hk h1 h2 ih1 ih2 => exact fun t ats j e => ((flatB.one (by omega) (by omega)).trans (ih1 _ _ _ rfl)).trans (ih2 t ats j e)
  | rowY hk h1 h2 ih1 ih2 => exact fun t ats j e => (ih1 _ _ _ rfl).trans (ih2 t ats j e)
  | postS hk h1 ih1 | postR hk h1 ih1 => exact fun t ats j e => (flatB.one (by omega) (by omega)).trans (ih1 t ats j e)
  | atomG hk h1 ih1 => exact ih1
  | atomB hk | atomT hk => exact fun t ats j e => by cases e; exact .one (by omega) (by omega)
  | atomF hk hk2 h1 ih1 => exact fun t ats j e => by cases e; exact (flatB.one (by omega) (by omega)).trans (ih1 _ _ _ rfl)
  | atomS | groupS | groupZ => exact fun t ats j e => absurd e halt_ok
  | groupE hk h64 h4 => exact fun t ats j e => by cases e; exact .wrap hk .refl h4
  | group1 hk h64 h4 h1 h5 ih => exact fun t ats j e => by cases e; exact .wrap hk (ih _ _ _ rfl) h5
  | or2 | orX | row2 | rowX | post2 | atomX | groupD | group2 => exact fun t ats j e => by cases e
end Go.Proofs.YtoidlnhgaaohdaaDoor
