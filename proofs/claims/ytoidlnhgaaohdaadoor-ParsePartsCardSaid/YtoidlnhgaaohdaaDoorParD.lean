/- What parsing is, as a relation. -/
import Derived.Test.YtoidlnhgaaohdaaDoorParC
namespace Go.Proofs.YtoidlnhgaaohdaaDoor
set_option linter.all false
open Go Go.RowKit
open Nat (reduceEqDiff reduceAdd reduceMul reduceSub reduceLeDiff)
open Int (reduceEq reduceLT reduceLE)

/-- What is parsed. -/
inductive NT where
  | or | row | post | atom | group
  | orL (t : T) (ats : List Int) | rowL (t : T) (ats : List Int) | postL (t : T) (ats : List Int)
/-- What comes of it: a description, where its marks stand, and the place behind it; or why, where, and the token's place. -/
inductive PR where
  | ok (t : T) (ats : List Int) (j : Nat)
  | bad (w : Int) (a : Int) (j : Nat)

def tk (l : List Tk) (i : Nat) : Tk := l.getD i Tk.z
def begs (t : Tk) : Prop := t.k ∈ [(1 : Int), 2, 3, 8, 9]
instance {t : Tk} : Decidable (begs t) := by unfold begs; infer_instance
def halt (l : List Tk) (i : Nat) (os : List Int) : PR := if (tk l i).k = 10 ∧ 0 < os.length then .bad 6 (os.getD (os.length - 1) 0) i else .bad 7 (tk l i).t i

inductive Rel (l : List Tk) : NT → Nat → List Int → PR → Prop
  | or1 {i os t ats j r} : Rel l .row i os (.ok t ats j) → Rel l (.orL t ats) j os r → Rel l .or i os r
  | or2 {i os w a j} : Rel l .row i os (.bad w a j) → Rel l .or i os (.bad w a j)
  | orN {t ats i os} : (tk l i).k ≠ 5 → Rel l (.orL t ats) i os (.ok t ats i)
  | orY {t ats i os u bts j r} : (tk l i).k = 5 → Rel l .row (i + 1) os (.ok u bts j) → Rel l (.orL (.two 5 t u) (ats ++ bts ++ [-1])) j os r → Rel l (.orL t ats) i os r
  | orX {t ats i os w a j} : (tk l i).k = 5 → Rel l .row (i + 1) os (.bad w a j) → Rel l (.orL t ats) i os (.bad w a j)
  | row1 {i os t ats j r} : Rel l .post i os (.ok t ats j) → Rel l (.rowL t ats) j os r → Rel l .row i os r
  | row2 {i os w a j} : Rel l .post i os (.bad w a j) → Rel l .row i os (.bad w a j)
  | rowN {t ats i os} : ¬ begs (tk l i) → Rel l (.rowL t ats) i os (.ok t ats i)
  | rowY {t ats i os u bts j r} : begs (tk l i) → Rel l .post i os (.ok u bts j) → Rel l (.rowL (.two 4 t u) (ats ++ bts ++ [-1])) j os r → Rel l (.rowL t ats) i os r
  | rowX {t ats i os w a j} : begs (tk l i) → Rel l .post i os (.bad w a j) → Rel l (.rowL t ats) i os (.bad w a j)
  | post1 {i os t ats j r} : Rel l .atom i os (.ok t ats j) → Rel l (.postL t ats) j os r → Rel l .post i os r
  | post2 {i os w a j} : Rel l .atom i os (.bad w a j) → Rel l .post i os (.bad w a j)
  | postN {t ats i os} : (tk l i).k ≠ 6 → (tk l i).k ≠ 7 → Rel l (.postL t ats) i os (.ok t ats i)
  | postS {t ats i os r} : (tk l i).k = 6 → Rel l (.postL (.one 6 0 0 t) (ats ++ [(tk l i).t])) (i + 1) os r → Rel l (.postL t ats) i os r
  | postR {t ats i os r} : (tk l i).k = 7 → Rel l (.postL (.one 7 (tk l i).lo (tk l i).hi t) (ats ++ [(tk l i).t])) (i + 1) os r → Rel l (.postL t ats) i os r
  | atomG {i os r} : (tk l i).k = 3 → Rel l .group i os r → Rel l .atom i os r
  | atomB {i os} : (tk l i).k = 1 → Rel l .atom i os (.ok (.bytes (tk l i).c0 (tk l i).c1 (tk l i).c2 (tk l i).c3) [-1] (i + 1))
  | atomT {i os} : (tk l i).k = 2 → Rel l .atom i os (.ok (.text (tk l i).text) [-1] (i + 1))
  | atomF {i os k t ats j} : k = 8 ∨ k = 9 → (tk l i).k = k → Rel l .group (i + 1) os (.ok t ats j) → Rel l .atom i os (.ok (.one k 0 0 t) (ats ++ [-1]) j)
  | atomX {i os k w a j} : k = 8 ∨ k = 9 → (tk l i).k = k → Rel l .group (i + 1) os (.bad w a j) → Rel l .atom i os (.bad w a j)
  | atomS {i os} : ¬ begs (tk l i) → Rel l .atom i os (halt l i os)
  | groupS {i os} : (tk l i).k ≠ 3 → Rel l .group i os (halt l i os)
  | groupD {i os} : (tk l i).k = 3 → 64 ≤ os.length → Rel l .group i os (.bad 8 (tk l i).t i)
  | groupE {i os} : (tk l i).k = 3 → os.length < 64 → (tk l (i + 1)).k = 4 → Rel l .group i os (.ok .void [-1] (i + 2))
  | group1 {i os t ats j} : (tk l i).k = 3 → os.length < 64 → (tk l (i + 1)).k ≠ 4 → Rel l .or (i + 1) (os ++ [(tk l i).t]) (.ok t ats j) → (tk l j).k = 4 → Rel l .group i os (.ok t ats (j + 1))
  | groupZ {i os t ats j} : (tk l i).k = 3 → os.length < 64 → (tk l (i + 1)).k ≠ 4 → Rel l .or (i + 1) (os ++ [(tk l i).t]) (.ok t ats j) → (tk l j).k ≠ 4 → Rel l .group i os (halt l j (os ++ [(tk l i).t]))
  | group2 {i os w a j} : (tk l i).k = 3 → os.length < 64 → (tk l (i + 1)).k ≠ 4 → Rel l .or (i + 1) (os ++ [(tk l i).t]) (.bad w a j) → Rel l .group i os (.bad w a j)

/-- The rank of what is parsed, and what is known at its beginning. -/
def NT.rank : NT → Nat
  | .or => 6 | .orL .. => 5 | .row => 4 | .rowL .. => 3 | .post => 2 | .postL .. => 1 | .atom => 1 | .group => 0
def tkOk (t : Tk) : Prop := (t.k = 2 → txtOk t.text) ∧ (t.k = 7 → 0 ≤ t.lo ∧ t.lo ≤ t.hi ∧ t.hi ≤ 255)
/-- What is known of what comes. The base is 'b': as many nodes are spent. -/
def PR.inv (i0 b : Nat) (l : List Tk) : PR → Prop
  | .ok t ats j => t.ok txtOk ∧ ats.length = t.n ∧ t.n + 1 + 2 * i0 ≤ 2 * j + b
  | .bad .. => True
theorem PR.inv_mono {l : List Tk} {r : PR} {i i0 b b0 : Nat} (h : r.inv i b l) (hm : 2 * i0 + b ≤ 2 * i + b0) : r.inv i0 b0 l := by
  cases r with
  | ok t ats j => exact ⟨h.1, h.2.1, by have := h.2.2; omega⟩
  | bad => trivial
theorem halt_inv {l : List Tk} {i : Nat} {os : List Int} {i0 b : Nat} {l' : List Tk} : (halt l i os).inv i0 b l' := by
  unfold halt; split <;> trivial
/-- What is spent at its beginning. -/
def NT.spent : NT → Nat
  | .orL t _ | .rowL t _ | .postL t _ => t.n + 1
  | _ => 0
def NT.good : NT → Prop
  | .orL t ats | .rowL t ats | .postL t ats => t.ok txtOk ∧ ats.length = t.n
  | _ => True
theorem Rel.inv {l : List Tk} (hl : ∀ i, tkOk (tk l i)) {x : NT} {i : Nat} {os : List Int} {r : PR} (h : Rel l x i os r) : x.good → r.inv i x.spent l := by
  induction h with
  | or1 h1 h2 ih1 ih2 =>
    intro _
    obtain ⟨a, b, c⟩ := ih1 trivial
    exact PR.inv_mono (ih2 ⟨a, b⟩) (by simp only [NT.spent, T.n] at *; omega)
  | row1 h1 h2 ih1 ih2 =>
    intro _
    obtain ⟨a, b, c⟩ := ih1 trivial
    exact PR.inv_mono (ih2 ⟨a, b⟩) (by simp only [NT.spent, T.n] at *; omega)
  | post1 h1 h2 ih1 ih2 =>
    intro _
    obtain ⟨a, b, c⟩ := ih1 trivial
    exact PR.inv_mono (ih2 ⟨a, b⟩) (by simp only [NT.spent, T.n] at *; omega)
  | orY hk h1 h2 ih1 ih2 =>
    rintro ⟨g1, g2⟩
    obtain ⟨a, b, c⟩ := ih1 trivial
    exact PR.inv_mono (ih2 ⟨⟨.inr rfl, g1, a⟩, by simp [T.n, g2, b]; omega⟩) (by simp only [NT.spent, T.n] at *; omega)
  | rowY hk h1 h2 ih1 ih2 =>
    rintro ⟨g1, g2⟩
    obtain ⟨a, b, c⟩ := ih1 trivial
    exact PR.inv_mono (ih2 ⟨⟨.inl rfl, g1, a⟩, by simp [T.n, g2, b]; omega⟩) (by simp only [NT.spent, T.n] at *; omega)
  | orN | rowN | postN => rintro ⟨g1, g2⟩; exact ⟨g1, g2, by simp only [NT.spent]; omega⟩
  | postS hk h1 ih1 =>
    rintro ⟨g1, g2⟩
    exact PR.inv_mono (ih1 ⟨⟨.inl ⟨.inl rfl, rfl, rfl⟩, g1⟩, by simp [T.n, g2]⟩) (by simp only [NT.spent, T.n] at *; omega)
  | postR hk h1 ih1 =>
    rintro ⟨g1, g2⟩
    exact PR.inv_mono (ih1 ⟨⟨.inr ⟨rfl, (hl _).2 hk⟩, g1⟩, by simp [T.n, g2]⟩) (by simp only [NT.spent, T.n] at *; omega)
  | atomG hk h1 ih1 => exact ih1
  | atomB => exact fun _ => ⟨trivial, rfl, by simp [T.n]; omega⟩
  | atomT hk => exact fun _ => ⟨(hl _).1 hk, rfl, by simp [T.n]; omega⟩
  | atomF hk hk2 h1 ih1 =>
    intro _
    obtain ⟨a, b, c⟩ := ih1 trivial
    exact ⟨⟨.inl ⟨.inr hk, rfl, rfl⟩, a⟩, by simp [T.n, b], by simp only [NT.spent, T.n] at *; omega⟩
  | atomS | groupS => exact fun _ => halt_inv
  | groupZ => exact fun _ => halt_inv
  | groupE => exact fun _ => ⟨trivial, rfl, by simp [T.n]; omega⟩
  | group1 h1 h2 h3 h4 h5 ih =>
    intro _
    obtain ⟨a, b, c⟩ := ih trivial
    exact ⟨a, b, by simp only [NT.spent] at *; omega⟩
  | _ => exact fun _ => trivial
end Go.Proofs.YtoidlnhgaaohdaaDoor
