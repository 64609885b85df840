/- Where the marks stand. -/
import Derived.Test.YtoidlnhgaaohdaaDoorParR
namespace Go.Proofs.YtoidlnhgaaohdaaDoor
set_option linter.all false
open Go Go.RowKit
open Nat (reduceEqDiff reduceAdd reduceMul reduceSub reduceLeDiff)
open Int (reduceEq reduceLT reduceLE)

/-- The kinds of a tree's nodes. -/
def T.kinds : T → List Int
  | .void => [1]
  | .bytes .. => [2]
  | .text _ => [3]
  | .two k a b => a.kinds ++ b.kinds ++ [k]
  | .one k _ _ a => a.kinds ++ [k]
theorem T.kinds_flat : ∀ (t : T) (off : Nat), (t.flat off).map Nd.kind = t.kinds
  | .void, _ => rfl
  | .bytes .., _ => rfl
  | .text _, _ => rfl
  | .two k a b, off => by simp [T.flat, T.kinds, T.kinds_flat a, T.kinds_flat b, T.root]
  | .one k lo hi a, off => by simp [T.flat, T.kinds, T.kinds_flat a, T.root]
theorem T.kinds_len (t : T) : t.kinds.length = t.n := by rw [← T.kinds_flat t 0, List.length_map, T.flat_len]
def mkd (k : Int) : Bool := decide (k = 6 ∨ k = 7)
/-- The marks of a tree: kinds and places. -/
def tmarks (t : T) (ats : List Int) : List (Int × Int) := (t.kinds.zip ats).filter fun p => mkd p.1
/-- The marks of tokens. -/
def kmarks (l : List Tk) (i : Nat) : Nat → List (Int × Int)
  | 0 => []
  | n + 1 => kmarks l i n ++ (if mkd (tk l (i + n)).k then [((tk l (i + n)).k, (tk l (i + n)).t)] else [])
theorem kmarks_add {l : List Tk} {i a : Nat} : ∀ {b : Nat}, kmarks l i (a + b) = kmarks l i a ++ kmarks l (i + a) b
  | 0 => by simp [kmarks]
  | b + 1 => by rw [← Nat.add_assoc, kmarks, kmarks_add, kmarks, List.append_assoc, Nat.add_assoc]
theorem kmarks_split {l : List Tk} {i j k : Nat} (h1 : i ≤ j) (h2 : j ≤ k) : kmarks l i (k - i) = kmarks l i (j - i) ++ kmarks l j (k - j) := by
  rw [show k - i = (j - i) + (k - j) by omega, kmarks_add, show i + (j - i) = j by omega]
theorem kmarks_one {l : List Tk} {i : Nat} : kmarks l i (i + 1 - i) = if mkd (tk l i).k then [((tk l i).k, (tk l i).t)] else [] := by
  rw [show i + 1 - i = 1 by omega]; simp [kmarks]
theorem kmarks_no {l : List Tk} {i j : Nat} (h : i < j) (hk : mkd (tk l i).k = false) : kmarks l i (j - i) = kmarks l (i + 1) (j - (i + 1)) := by
  rw [kmarks_split (Nat.le_succ i) h, kmarks_one, if_neg (by simp [hk]), List.nil_append]
theorem kmarks_yes {l : List Tk} {i j : Nat} (h : i < j) (hk : mkd (tk l i).k = true) : kmarks l i (j - i) = ((tk l i).k, (tk l i).t) :: kmarks l (i + 1) (j - (i + 1)) := by
  rw [kmarks_split (Nat.le_succ i) h, kmarks_one, if_pos hk]; rfl
/-- Each node that is none of them has no place. -/
def blank (t : T) (ats : List Int) : Prop := ∀ p ∈ t.kinds.zip ats, mkd p.1 = false → p.2 = -1
theorem tmarks_two {k : Int} {a b : T} {ats bts : List Int} (h1 : ats.length = a.n) (h2 : bts.length = b.n) (hk : mkd k = false) : tmarks (.two k a b) (ats ++ bts ++ [-1]) = tmarks a ats ++ tmarks b bts := by
  unfold tmarks
  rw [T.kinds, List.zip_append (by simp [T.kinds_len, h1, h2]), List.zip_append (by simp [T.kinds_len, h1])]
  simp [hk]
theorem tmarks_one {k lo hi p : Int} {a : T} {ats : List Int} (h1 : ats.length = a.n) : tmarks (.one k lo hi a) (ats ++ [p]) = tmarks a ats ++ if mkd k then [(k, p)] else [] := by
  unfold tmarks
  rw [T.kinds, List.zip_append (by simp [T.kinds_len, h1])]
  by_cases h : mkd k <;> simp [h]
theorem blank_two {k : Int} {a b : T} {ats bts : List Int} (h1 : ats.length = a.n) (h2 : bts.length = b.n) (ha : blank a ats) (hb : blank b bts) : blank (.two k a b) (ats ++ bts ++ [-1]) := fun p hp hk => by
  rw [T.kinds, List.zip_append (by simp [T.kinds_len, h1, h2]), List.zip_append (by simp [T.kinds_len, h1])] at hp
  simp only [List.mem_append] at hp
  rcases hp with (hp | hp) | hp
  · exact ha p hp hk
  · exact hb p hp hk
  · simp at hp; rw [hp]
theorem blank_one {k lo hi p : Int} {a : T} {ats : List Int} (h1 : ats.length = a.n) (ha : blank a ats) (hp : mkd k = false → p = -1) : blank (.one k lo hi a) (ats ++ [p]) := fun q hq hk => by
  rw [T.kinds, List.zip_append (by simp [T.kinds_len, h1])] at hq
  simp only [List.mem_append] at hq
  rcases hq with hq | hq
  · exact ha q hq hk
  · simp at hq; rw [hq] at hk ⊢; exact hp hk
/-- What stands ahead. -/
def NT.ahead : NT → List (Int × Int)
  | .orL t ats | .rowL t ats | .postL t ats => tmarks t ats
  | _ => []
def NT.good2 : NT → Prop
  | .orL t ats | .rowL t ats | .postL t ats => ats.length = t.n ∧ blank t ats
  | _ => True
theorem Rel.marks {l : List Tk} {e : Nat} (he : (tk l e).k = 10) {x : NT} {i : Nat} {os : List Int} {r : PR} (h : Rel l x i os r) : i ≤ e → x.good2 → ∀ t ats j, r = .ok t ats j → (ats.length = t.n ∧ blank t ats) ∧ tmarks t ats = x.ahead ++ kmarks l i (j - i) := by
  have ne : ∀ {i : Nat} {k : Int}, i ≤ e → (tk l i).k = k → k ≠ 10 → i + 1 ≤ e := fun {i k} h1 h2 h3 => by
    rcases Nat.lt_or_eq_of_le h1 with h | h
    · exact h
    · subst h; exact absurd (h2.symm.trans he) h3
  have no : ∀ {k : Int}, k ≠ 6 → k ≠ 7 → mkd k = false := fun h1 h2 => by simp [mkd, h1, h2]
  induction h with
  | or1 h1 h2 ih1 ih2 | row1 h1 h2 ih1 ih2 | post1 h1 h2 ih1 ih2 =>
    intro hi _ t ats j e
    have w1 := h1.within he hi
    have w2 := h2.within he w1.2.1
    obtain ⟨a1, a2⟩ := ih1 hi trivial _ _ _ rfl
    obtain ⟨b1, b2⟩ := ih2 w1.2.1 a1 _ _ _ e
    subst e
    refine ⟨b1, ?_⟩
    simp only [PR.place] at w1 w2
    rw [b2, kmarks_split w1.1 w2.1]
    simp only [NT.ahead] at a2 ⊢
    rw [a2]
    simp
  | orN | rowN | postN => exact fun _ hg t ats j e => by cases e; exact ⟨hg, by simp [NT.ahead, kmarks]⟩
  | @orY t ats i os u bts j r hk h1 h2 ih1 ih2 =>
    intro hi hg t' ats' j' e
    have hi1 := ne hi hk (by decide)
    have w1 := h1.within he hi1
    have w2 := h2.within he w1.2.1
    have l1 : i + 1 ≤ j := w1.1
    obtain ⟨a1, a2⟩ := ih1 hi1 trivial _ _ _ rfl
    obtain ⟨b1, b2⟩ := ih2 w1.2.1 ⟨by simp [T.n, hg.1, a1.1]; omega, blank_two hg.1 a1.1 hg.2 a1.2⟩ _ _ _ e
    subst e
    have l2 : j ≤ j' := w2.1
    refine ⟨b1, ?_⟩
    rw [b2, kmarks_no (i := i) (j := j') (by omega) (no (by omega) (by omega)), kmarks_split l1 l2]
    simp only [NT.ahead] at a2 ⊢
    rw [tmarks_two hg.1 a1.1 (by decide), a2, List.nil_append, List.append_assoc]
  | @rowY t ats i os u bts j r hk h1 h2 ih1 ih2 =>
    intro hi hg t' ats' j' e
    have w1 := h1.within he hi
    have w2 := h2.within he w1.2.1
    obtain ⟨a1, a2⟩ := ih1 hi trivial _ _ _ rfl
    obtain ⟨b1, b2⟩ := ih2 w1.2.1 ⟨by simp [T.n, hg.1, a1.1]; omega, blank_two hg.1 a1.1 hg.2 a1.2⟩ _ _ _ e
    subst e
    refine ⟨b1, ?_⟩
    simp only [PR.place] at w1 w2
    rw [b2, kmarks_split w1.1 w2.1]
    simp only [NT.ahead] at a2 ⊢
    rw [tmarks_two hg.1 a1.1 (by decide), a2, List.nil_append, List.append_assoc]
  | @postS t ats i os r hk h1 ih1 =>
    intro hi hg t' ats' j' e
    have hi1 := ne hi hk (by decide)
    have l1 := (h1.within he hi1).1
    obtain ⟨b1, b2⟩ := ih1 hi1 ⟨by simp [T.n, hg.1], blank_one hg.1 hg.2 (fun h => by simp [mkd] at h)⟩ _ _ _ e
    subst e
    have l2 : i + 1 ≤ j' := l1
    refine ⟨b1, ?_⟩
    rw [b2, kmarks_yes l2 (by rw [hk]; decide)]
    simp only [NT.ahead]
    rw [tmarks_one hg.1, if_pos (by decide), hk, List.append_assoc]; rfl
  | @postR t ats i os r hk h1 ih1 =>
    intro hi hg t' ats' j' e
    have hi1 := ne hi hk (by decide)
    have l1 := (h1.within he hi1).1
    obtain ⟨b1, b2⟩ := ih1 hi1 ⟨by simp [T.n, hg.1], blank_one hg.1 hg.2 (fun h => by simp [mkd] at h)⟩ _ _ _ e
    subst e
    have l2 : i + 1 ≤ j' := l1
    refine ⟨b1, ?_⟩
    rw [b2, kmarks_yes l2 (by rw [hk]; decide)]
    simp only [NT.ahead]
    rw [tmarks_one hg.1, if_pos (by decide), hk, List.append_assoc]; rfl
  | atomG hk h1 ih1 => exact ih1
  | @atomB i os hk =>
    intro hi _ t ats j e
    cases e
    exact ⟨⟨rfl, fun p hp _ => by simp [T.kinds] at hp; rw [hp]⟩, by rw [kmarks_one, if_neg (by rw [hk]; decide)]; rfl⟩
  | @atomT i os hk =>
    intro hi _ t ats j e
    cases e
    exact ⟨⟨rfl, fun p hp _ => by simp [T.kinds] at hp; rw [hp]⟩, by rw [kmarks_one, if_neg (by rw [hk]; decide)]; rfl⟩
  | @atomF i os k t ats j hk hk2 h1 ih1 =>
    intro hi _ t' ats' j' e
    cases e
    have hi1 := ne hi hk2 (by omega)
    have l1 : i + 1 ≤ j := (h1.within he hi1).1
    obtain ⟨a1, a2⟩ := ih1 hi1 trivial _ _ _ rfl
    refine ⟨⟨by simp [T.n, a1.1], blank_one a1.1 a1.2 fun _ => rfl⟩, ?_⟩
    rw [tmarks_one a1.1, if_neg (by rw [no (by omega) (by omega)]; decide), List.append_nil, a2, kmarks_no l1 (no (by omega) (by omega))]
    rfl
  | atomS | groupS | groupZ => exact fun _ _ t ats j e => absurd e halt_ok
  | @groupE i os hk h64 h4 =>
    intro hi _ t ats j e
    cases e
    refine ⟨⟨rfl, fun p hp _ => by simp [T.kinds] at hp; rw [hp]⟩, ?_⟩
    rw [kmarks_no (i := i) (j := i + 2) (by omega) (no (by omega) (by omega)), kmarks_no (i := i + 1) (j := i + 2) (by omega) (no (by omega) (by omega)), show i + 2 - (i + 1 + 1) = 0 by omega]
    rfl
  | @group1 i os t ats j hk h64 h4 h1 h5 ih =>
    intro hi _ t' ats' j' e
    cases e
    have hi1 := ne hi hk (by decide)
    have l1 : i + 1 ≤ j := (h1.within he hi1).1
    obtain ⟨a1, a2⟩ := ih hi1 trivial _ _ _ rfl
    refine ⟨a1, ?_⟩
    rw [a2, kmarks_no (i := i) (j := j + 1) (by omega) (no (by omega) (by omega)), kmarks_split l1 (Nat.le_succ j), kmarks_one, if_neg (by rw [no (by omega) (by omega)]; decide), List.append_nil]
    rfl
  | or2 | orX | row2 | rowX | post2 | atomX | groupD | group2 => exact fun _ _ t ats j e => by cases e
end Go.Proofs.YtoidlnhgaaohdaaDoor
