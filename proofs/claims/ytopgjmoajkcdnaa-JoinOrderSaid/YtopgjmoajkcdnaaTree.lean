/- Descriptions as trees. -/
import Derived.Test.YtopgjmoajkcdnaaSpec
namespace Go.Proofs.Ytopgjmoajkcdnaa
set_option linter.all false
open Go

inductive T where
  | void
  | bytes (c0 c1 c2 c3 : Int)
  | text (s : ByteArray)
  | two (k : Int) (a b : T)
  | one (k lo hi : Int) (a : T)

def T.n : T → Nat
  | .void => 1
  | .bytes .. => 1
  | .text _ => 1
  | .two _ a b => a.n + b.n + 1
  | .one _ _ _ a => a.n + 1

/-- The node at its end. -/
def T.root (off : Nat) : T → Nd
  | .void => ⟨1, 0, 0, 0, 0, 0, 0, 0, 0, .empty⟩
  | .bytes c0 c1 c2 c3 => ⟨2, 0, 0, 0, 0, c0, c1, c2, c3, .empty⟩
  | .text s => ⟨3, 0, 0, 0, 0, 0, 0, 0, 0, s⟩
  | .two k a b => ⟨k, (off + (a.n - 1) : Nat), (off + a.n + (b.n - 1) : Nat), 0, 0, 0, 0, 0, 0, .empty⟩
  | .one k lo hi a => ⟨k, (off + (a.n - 1) : Nat), 0, lo, hi, 0, 0, 0, 0, .empty⟩

def T.flat (off : Nat) : T → List Nd
  | .void => [T.root off .void]
  | .bytes c0 c1 c2 c3 => [T.root off (.bytes c0 c1 c2 c3)]
  | .text s => [T.root off (.text s)]
  | .two k a b => a.flat off ++ (b.flat (off + a.n) ++ [T.root off (.two k a b)])
  | .one k lo hi a => a.flat off ++ [T.root off (.one k lo hi a)]

theorem T.n_pos : ∀ t : T, 0 < t.n
  | .void => Nat.one_pos
  | .bytes .. => Nat.one_pos
  | .text _ => Nat.one_pos
  | .two .. => Nat.succ_pos _
  | .one .. => Nat.succ_pos _

theorem T.flat_len : ∀ (t : T) (off : Nat), (t.flat off).length = t.n
  | .void, _ => rfl
  | .bytes .., _ => rfl
  | .text _, _ => rfl
  | .two k a b, off => by simp [T.flat, T.n, T.flat_len a, T.flat_len b]; omega
  | .one k lo hi a, off => by simp [T.flat, T.n, T.flat_len a]

/-- The tree's nodes stand in the list from a place on. -/
def Sits (l : List Nd) (off : Nat) (t : T) : Prop := ∀ i, i < t.n → l[off + i]? = (t.flat off)[i]?

section
variable {l : List Nd} {off : Nat} {k lo hi : Int} {a b t : T}

theorem Sits.two1 (h : Sits l off (.two k a b)) : Sits l off a := fun i hi => by
  rw [h i (by simp [T.n]; omega), T.flat, List.getElem?_append_left (by rw [T.flat_len]; exact hi)]
theorem Sits.two2 (h : Sits l off (.two k a b)) : Sits l (off + a.n) b := fun i hi => by
  have := h (a.n + i) (by simp [T.n]; omega)
  rw [← Nat.add_assoc] at this
  rw [this, T.flat, List.getElem?_append_right (by rw [T.flat_len]; omega), T.flat_len, Nat.add_sub_cancel_left, List.getElem?_append_left (by rw [T.flat_len]; exact hi)]
theorem Sits.one1 (h : Sits l off (.one k lo hi a)) : Sits l off a := fun i hi => by
  rw [h i (by simp [T.n]; omega), T.flat, List.getElem?_append_left (by rw [T.flat_len]; exact hi)]
theorem flat_root : ∀ (t : T) (off : Nat), (t.flat off)[t.n - 1]? = some (t.root off)
  | .void, _ => rfl
  | .bytes .., _ => rfl
  | .text _, _ => rfl
  | .two k a b, off => by
    rw [T.flat, List.getElem?_append_right (by rw [T.flat_len]; simp only [T.n]; omega), T.flat_len, List.getElem?_append_right (by rw [T.flat_len]; simp only [T.n]; omega), T.flat_len]
    simp [T.n]
  | .one k lo hi a, off => by
    rw [T.flat, List.getElem?_append_right (by rw [T.flat_len]; simp [T.n]), T.flat_len]
    simp [T.n]
theorem Sits.root (h : Sits l off t) : l[off + (t.n - 1)]? = some (t.root off) := by
  rw [h _ (by have := t.n_pos; omega), flat_root]
theorem Sits.lt (h : Sits l off t) : off + t.n ≤ l.length := by
  have := (List.getElem?_eq_some_iff.1 h.root).1
  have := t.n_pos
  omega
theorem Sits.getD (h : Sits l off t) (d : Nd) : l.getD (off + (t.n - 1)) d = t.root off := by
  rw [List.getD_eq_getElem?_getD, h.root]; rfl
theorem sits_flat (t : T) : Sits (t.flat 0) 0 t := fun i _ => by rw [Nat.zero_add]
end

/-- Is it one that the document lets be? -/
def T.ok (txt : ByteArray → Prop) : T → Prop
  | .void => True
  | .bytes .. => True
  | .text s => txt s
  | .two k a b => (k = 4 ∨ k = 5) ∧ a.ok txt ∧ b.ok txt
  | .one k lo hi a => ((k = 6 ∨ k = 8 ∨ k = 9) ∧ lo = 0 ∧ hi = 0 ∨ k = 7 ∧ 0 ≤ lo ∧ lo ≤ hi ∧ hi ≤ 255) ∧ a.ok txt

def maxSize : Int := 1099511627776
def T.size : T → Int
  | .void => 0
  | .bytes .. => 1
  | .text s => min s.size 1099511627776
  | .two _ a b => min (a.size + b.size) 1099511627776
  | .one k _ hi a => if k = 6 then a.size else if k = 7 then min (a.size * hi) 1099511627776 else if k = 8 then min (min (a.size + 1) 1099511627776 * 256) 1099511627776 else min (256 + min (min (a.size + 1) 1099511627776 * 65536) 1099511627776) 1099511627776
theorem T.size6 {lo hi : Int} {a : T} : (T.one 6 lo hi a).size = a.size := by simp [T.size]
theorem T.size7 {lo hi : Int} {a : T} : (T.one 7 lo hi a).size = min (a.size * hi) 1099511627776 := by simp [T.size]
theorem T.size8 {lo hi : Int} {a : T} : (T.one 8 lo hi a).size = min (min (a.size + 1) 1099511627776 * 256) 1099511627776 := by simp [T.size]
theorem T.size9 {lo hi : Int} {a : T} : (T.one 9 lo hi a).size = min (256 + min (min (a.size + 1) 1099511627776 * 65536) 1099511627776) 1099511627776 := by simp [T.size]
theorem T.size0 : T.void.size = 0 := rfl
theorem T.size1 {a b c d : Int} : (T.bytes a b c d).size = 1 := rfl
theorem T.size3 {s : ByteArray} : (T.text s).size = min (s.size : Int) 1099511627776 := rfl
theorem T.size4 {k : Int} {a b : T} : (T.two k a b).size = min (a.size + b.size) 1099511627776 := rfl
theorem T.size_bd {txt : ByteArray → Prop} : ∀ {t : T}, t.ok txt → 0 ≤ t.size ∧ t.size ≤ 1099511627776
  | .void, _ => by simp [T.size]
  | .bytes .., _ => by simp [T.size]
  | .text s, _ => by simp only [T.size]; omega
  | .two k a b, h => by have := T.size_bd h.2.1; have := T.size_bd h.2.2; simp only [T.size]; omega
  | .one k lo hi a, h => by
    have := T.size_bd h.2
    simp only [T.size]
    have hh : k = 7 → 0 ≤ a.size * hi := fun hk => Int.mul_nonneg (by omega) (by rcases h.1 with ⟨h1, _⟩ | h1 <;> omega)
    split
    · omega
    · split
      · rename_i hk; have := hh hk; omega
      · split <;> omega
end Go.Proofs.Ytopgjmoajkcdnaa
