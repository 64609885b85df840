/- What is parsed is parsed elsewhere as well. -/
import Derived.Test.YtoidlnhgaaohdaaDoorParP
namespace Go.Proofs.YtoidlnhgaaohdaaDoor
set_option linter.all false
open Go Go.RowKit
open Nat (reduceEqDiff reduceAdd reduceMul reduceSub reduceLeDiff)
open Int (reduceEq reduceLT reduceLE)

/-- The same token, but for its place. -/
def sameTk (t u : Tk) : Prop := t.k = u.k ∧ t.c0 = u.c0 ∧ t.c1 = u.c1 ∧ t.c2 = u.c2 ∧ t.c3 = u.c3 ∧ t.text = u.text ∧ t.lo = u.lo ∧ t.hi = u.hi
/-- The token behind doesn't go on. -/
def NT.ends (t : Tk) : NT → Prop
  | .or | .orL .. => t.k ≠ 5 ∧ ¬ begs t ∧ t.k ≠ 6 ∧ t.k ≠ 7
  | .row | .rowL .. => ¬ begs t ∧ t.k ≠ 6 ∧ t.k ≠ 7
  | .post | .postL .. => t.k ≠ 6 ∧ t.k ≠ 7
  | .atom | .group => True
def NT.with (a : List Int) : NT → NT
  | .orL t _ => .orL t a
  | .rowL t _ => .rowL t a
  | .postL t _ => .postL t a
  | x => x
def NT.start (t : Tk) : NT → Prop
  | .orL .. => ¬ begs t ∧ t.k ≠ 6 ∧ t.k ≠ 7
  | .rowL .. => t.k ≠ 6 ∧ t.k ≠ 7
  | _ => True
/-- It ends at a token that doesn't go on. -/
theorem Rel.fin {l : List Tk} {x : NT} {i : Nat} {os : List Int} {r : PR} (h : Rel l x i os r) : ∀ t ats j, r = .ok t ats j → x.start (tk l i) → x.ends (tk l j) := by
  induction h with
  | or1 h1 h2 ih1 ih2 | row1 h1 h2 ih1 ih2 => exact fun t ats j e _ => ih2 t ats j e (ih1 _ _ _ rfl trivial)
  | post1 h1 h2 ih1 ih2 => exact fun t ats j e _ => ih2 t ats j e trivial
  | orN hk => exact fun t ats j e hs => by cases e; exact ⟨hk, hs⟩
  | rowN hk => exact fun t ats j e hs => by cases e; exact ⟨hk, hs⟩
  | postN hk hk2 => exact fun t ats j e _ => by cases e; exact ⟨hk, hk2⟩
  | orY hk h1 h2 ih1 ih2 | rowY hk h1 h2 ih1 ih2 => exact fun t ats j e _ => ih2 t ats j e (ih1 _ _ _ rfl trivial)
  | postS hk h1 ih1 | postR hk h1 ih1 => exact fun t ats j e _ => ih1 t ats j e trivial
  | atomG | atomB | atomT | atomF | groupE | group1 => exact fun t ats j e _ => trivial
  | atomS | groupS | groupZ => exact fun t ats j e => absurd e halt_ok
  | or2 | orX | row2 | rowX | post2 | atomX | groupD | group2 => exact fun t ats j e => by cases e
theorem begs_same {t u : Tk} (h : sameTk t u) : begs t ↔ begs u := by unfold begs; rw [h.1]
theorem ends_same {t u : Tk} (h : sameTk t u) {x : NT} (hx : x.ends u) : x.ends t := by
  cases x <;> simp only [NT.ends, begs_same h, h.1] at * <;> exact hx
def deepOk (l : List Tk) (i n : Nat) (d : Nat) : Prop := ∀ m, m ≤ n → cnt l i m d ≤ 64
theorem deepOk.head {l : List Tk} {i n n' d : Nat} (h : deepOk l i n d) (hn : n' ≤ n) : deepOk l i n' d := fun m hm => h m (Nat.le_trans hm hn)
theorem deepOk.tail {l : List Tk} {i j k d : Nat} (h : deepOk l i (k - i) d) (hf : flatB l i j) (hk : j ≤ k) : deepOk l j (k - j) d := fun m hm => by
  have e1 := hf.1
  have := h ((j - i) + m) (by omega)
  rwa [cnt_add, hf.2 d (by omega), show i + (j - i) = j by omega] at this
theorem Rel.move {l l' : List Tk} {c e : Nat} (he : (tk l e).k = 10) {x : NT} {i : Nat} {os : List Int} {r : PR} (h : Rel l x i os r) : ∀ t ats j, r = .ok t ats j → i ≤ e → ∀ os' a0, (∀ m, i ≤ m → m < j → sameTk (tk l' (m + c)) (tk l m)) → x.ends (tk l' (j + c)) → deepOk l' (i + c) (j - i) os'.length →
    ∃ ats', Rel l' (x.with a0) (i + c) os' (.ok t ats' (j + c)) := by
  have ne : ∀ {i : Nat} {k : Int}, i ≤ e → (tk l i).k = k → k ≠ 10 → i + 1 ≤ e := fun {i k} h1 h2 h3 => by
    rcases Nat.lt_or_eq_of_le h1 with h | h
    · exact h
    · subst h; exact absurd (h2.symm.trans he) h3
  induction h with
  | @atomB i os hk =>
    intro t ats j e hi os' a0 hs _ _
    cases e
    have := hs i (Nat.le_refl _) (Nat.lt_succ_self _)
    obtain ⟨h1, h2, h3, h4, h5, h6, h7, h8⟩ := this
    refine ⟨[-1], ?_⟩
    rw [← h2, ← h3, ← h4, ← h5, show i + 1 + c = i + c + 1 by omega]
    exact .atomB (h1.trans hk)
  | @atomT i os hk =>
    intro t ats j e hi os' a0 hs _ _
    cases e
    have := hs i (Nat.le_refl _) (Nat.lt_succ_self _)
    obtain ⟨h1, h2, h3, h4, h5, h6, h7, h8⟩ := this
    refine ⟨[-1], ?_⟩
    rw [← h6, show i + 1 + c = i + c + 1 by omega]
    exact .atomT (h1.trans hk)
  | orN hk =>
    intro t ats j e hi os' a0 hs hl _
    cases e
    exact ⟨a0, .orN hl.1⟩
  | rowN hk =>
    intro t ats j e hi os' a0 hs hl _
    cases e
    exact ⟨a0, .rowN hl.1⟩
  | postN hk hk2 =>
    intro t ats j e hi os' a0 hs hl _
    cases e
    exact ⟨a0, .postN hl.1 hl.2⟩
  | @or1 i os t1 ats1 j r h1 h2 ih1 ih2 =>
    intro t ats j' e hi os' a0 hs hl hd
    subst e
    have w1 := h1.within he hi
    have l1 : i ≤ j := w1.1
    have wj : j ≤ e := w1.2.1
    have l2 : j ≤ j' := (h2.within he wj).1
    have hl1 : NT.row.ends (tk l' (j + c)) := by
      rcases Nat.lt_or_eq_of_le l2 with h | h
      · exact ends_same (hs j l1 h) (h1.fin _ _ _ rfl trivial)
      · subst h; exact hl.2
    obtain ⟨a1, r1⟩ := ih1 _ _ _ rfl hi os' [] (fun m x y => hs m x (by omega)) hl1 (hd.head (by omega))
    obtain ⟨a2, r2⟩ := ih2 _ _ _ rfl wj os' a1 (fun m x y => hs m (by omega) y) hl (by
      have := deepOk.tail (k := j' + c) (by rw [show j' + c - (i + c) = j' - i by omega]; exact hd) (r1.flat _ _ _ rfl) (by omega)
      rwa [show j' + c - (j + c) = j' - j by omega] at this)
    exact ⟨a2, .or1 r1 r2⟩
  | @row1 i os t1 ats1 j r h1 h2 ih1 ih2 =>
    intro t ats j' e hi os' a0 hs hl hd
    subst e
    have w1 := h1.within he hi
    have l1 : i ≤ j := w1.1
    have wj : j ≤ e := w1.2.1
    have l2 : j ≤ j' := (h2.within he wj).1
    have hl1 : NT.post.ends (tk l' (j + c)) := by
      rcases Nat.lt_or_eq_of_le l2 with h | h
      · exact ends_same (hs j l1 h) (h1.fin _ _ _ rfl trivial)
      · subst h; exact hl.2
    obtain ⟨a1, r1⟩ := ih1 _ _ _ rfl hi os' [] (fun m x y => hs m x (by omega)) hl1 (hd.head (by omega))
    obtain ⟨a2, r2⟩ := ih2 _ _ _ rfl wj os' a1 (fun m x y => hs m (by omega) y) hl (by
      have := deepOk.tail (k := j' + c) (by rw [show j' + c - (i + c) = j' - i by omega]; exact hd) (r1.flat _ _ _ rfl) (by omega)
      rwa [show j' + c - (j + c) = j' - j by omega] at this)
    exact ⟨a2, .row1 r1 r2⟩
  | @post1 i os t1 ats1 j r h1 h2 ih1 ih2 =>
    intro t ats j' e hi os' a0 hs hl hd
    subst e
    have w1 := h1.within he hi
    have l1 : i ≤ j := w1.1
    have wj : j ≤ e := w1.2.1
    have l2 : j ≤ j' := (h2.within he wj).1
    have hl1 : NT.atom.ends (tk l' (j + c)) := by
      rcases Nat.lt_or_eq_of_le l2 with h | h
      · exact ends_same (hs j l1 h) (h1.fin _ _ _ rfl trivial)
      · subst h; exact trivial
    obtain ⟨a1, r1⟩ := ih1 _ _ _ rfl hi os' [] (fun m x y => hs m x (by omega)) hl1 (hd.head (by omega))
    obtain ⟨a2, r2⟩ := ih2 _ _ _ rfl wj os' a1 (fun m x y => hs m (by omega) y) hl (by
      have := deepOk.tail (k := j' + c) (by rw [show j' + c - (i + c) = j' - i by omega]; exact hd) (r1.flat _ _ _ rfl) (by omega)
      rwa [show j' + c - (j + c) = j' - j by omega] at this)
    exact ⟨a2, .post1 r1 r2⟩
  | @orY t0 ats0 i os u bts j r hk h1 h2 ih1 ih2 =>
    intro t ats j' e hi os' a0 hs hl hd
    subst e
    have hi1 := ne hi hk (by decide)
    have w1 := h1.within he hi1
    have l1 : i + 1 ≤ j := w1.1
    have wj : j ≤ e := w1.2.1
    have l2 : j ≤ j' := (h2.within he wj).1
    have hl1 : NT.row.ends (tk l' (j + c)) := by
      rcases Nat.lt_or_eq_of_le l2 with h | h
      · exact ends_same (hs j (by omega) h) (h1.fin _ _ _ rfl trivial)
      · subst h; exact hl.2
    have s0 := hs i (Nat.le_refl _) (by omega)
    have k' : (tk l' (i + c)).k = 5 := s0.1.trans hk
    have f0 : flatB l' (i + c) (i + 1 + c) := by rw [show i + 1 + c = i + c + 1 by omega]; exact .one (by omega) (by omega)
    have d1 : deepOk l' (i + 1 + c) (j' - (i + 1)) os'.length := by
      have := deepOk.tail (k := j' + c) (by rw [show j' + c - (i + c) = j' - i by omega]; exact hd) f0 (by omega)
      rwa [show j' + c - (i + 1 + c) = j' - (i + 1) by omega] at this
    obtain ⟨a1, r1⟩ := ih1 _ _ _ rfl hi1 os' [] (fun m x y => hs m (by omega) (by omega)) hl1 (d1.head (by omega))
    obtain ⟨a2, r2⟩ := ih2 _ _ _ rfl wj os' (a0 ++ a1 ++ [-1]) (fun m x y => hs m (by omega) y) hl (by
      have := deepOk.tail (k := j' + c) (by rw [show j' + c - (i + 1 + c) = j' - (i + 1) by omega]; exact d1) (r1.flat _ _ _ rfl) (by omega)
      rwa [show j' + c - (j + c) = j' - j by omega] at this)
    rw [show i + 1 + c = i + c + 1 by omega] at r1
    exact ⟨a2, .orY k' r1 r2⟩
  | @rowY t0 ats0 i os u bts j r hk h1 h2 ih1 ih2 =>
    intro t ats j' e hi os' a0 hs hl hd
    subst e
    have w1 := h1.within he hi
    have l1 : i ≤ j := w1.1
    have l0 : i < j := w1.2.2 rfl _ _ _ rfl
    have wj : j ≤ e := w1.2.1
    have l2 : j ≤ j' := (h2.within he wj).1
    have hl1 : NT.post.ends (tk l' (j + c)) := by
      rcases Nat.lt_or_eq_of_le l2 with h | h
      · exact ends_same (hs j l1 h) (h1.fin _ _ _ rfl trivial)
      · subst h; exact hl.2
    have s0 := hs i (Nat.le_refl _) (by omega)
    obtain ⟨a1, r1⟩ := ih1 _ _ _ rfl hi os' [] (fun m x y => hs m x (by omega)) hl1 (hd.head (by omega))
    obtain ⟨a2, r2⟩ := ih2 _ _ _ rfl wj os' (a0 ++ a1 ++ [-1]) (fun m x y => hs m (by omega) y) hl (by
      have := deepOk.tail (k := j' + c) (by rw [show j' + c - (i + c) = j' - i by omega]; exact hd) (r1.flat _ _ _ rfl) (by omega)
      rwa [show j' + c - (j + c) = j' - j by omega] at this)
    exact ⟨a2, .rowY ((begs_same s0).2 hk) r1 r2⟩
  | @atomG i os r hk h1 ih1 =>
    intro t ats j' e hi os' a0 hs hl hd
    subst e
    have l0 : i < j' := (h1.within he hi).2.2 rfl _ _ _ rfl
    obtain ⟨a1, r1⟩ := ih1 _ _ _ rfl hi os' [] hs trivial hd
    exact ⟨a1, .atomG ((hs i (Nat.le_refl _) l0).1.trans hk) r1⟩
  | atomS | groupS | groupZ => exact fun t ats j e => absurd e halt_ok
  | or2 | orX | row2 | rowX | post2 | atomX | groupD | group2 => exact fun t ats j e => by cases e
  | @postS t0 ats0 i os r hk h1 ih1 =>
    intro t ats j' e hi os' a0 hs hl hd
    subst e
    have hi1 := ne hi hk (by decide)
    have l1 : i + 1 ≤ j' := (h1.within he hi1).1
    have s0 := hs i (Nat.le_refl _) (by omega)
    have k' : (tk l' (i + c)).k = 6 := s0.1.trans hk
    have f0 : flatB l' (i + c) (i + 1 + c) := by rw [show i + 1 + c = i + c + 1 by omega]; exact .one (by omega) (by omega)
    have d1 : deepOk l' (i + 1 + c) (j' - (i + 1)) os'.length := by
      have := deepOk.tail (k := j' + c) (by rw [show j' + c - (i + c) = j' - i by omega]; exact hd) f0 (by omega)
      rwa [show j' + c - (i + 1 + c) = j' - (i + 1) by omega] at this
    obtain ⟨a1, r1⟩ := ih1 _ _ _ rfl hi1 os' (a0 ++ [(tk l' (i + c)).t]) (fun m x y => hs m (by omega) y) hl d1
    rw [show i + 1 + c = i + c + 1 by omega] at r1
    refine ⟨a1, .postS k' ?_⟩
    exact r1
  | @postR t0 ats0 i os r hk h1 ih1 =>
    intro t ats j' e hi os' a0 hs hl hd
    subst e
    have hi1 := ne hi hk (by decide)
    have l1 : i + 1 ≤ j' := (h1.within he hi1).1
    have s0 := hs i (Nat.le_refl _) (by omega)
    have k' : (tk l' (i + c)).k = 7 := s0.1.trans hk
    have f0 : flatB l' (i + c) (i + 1 + c) := by rw [show i + 1 + c = i + c + 1 by omega]; exact .one (by omega) (by omega)
    have d1 : deepOk l' (i + 1 + c) (j' - (i + 1)) os'.length := by
      have := deepOk.tail (k := j' + c) (by rw [show j' + c - (i + c) = j' - i by omega]; exact hd) f0 (by omega)
      rwa [show j' + c - (i + 1 + c) = j' - (i + 1) by omega] at this
    obtain ⟨a1, r1⟩ := ih1 _ _ _ rfl hi1 os' (a0 ++ [(tk l' (i + c)).t]) (fun m x y => hs m (by omega) y) hl d1
    rw [show i + 1 + c = i + c + 1 by omega] at r1
    refine ⟨a1, .postR k' ?_⟩
    rw [s0.2.2.2.2.2.2.1, s0.2.2.2.2.2.2.2]
    exact r1
  | @atomF i os k t0 ats0 j hk hk2 h1 ih1 =>
    intro t ats j' e hi os' a0 hs hl hd
    cases e
    have hi1 := ne hi hk2 (by omega)
    have l1 : i + 1 ≤ j := (h1.within he hi1).1
    have s0 := hs i (Nat.le_refl _) (by omega)
    have k' : (tk l' (i + c)).k = k := s0.1.trans hk2
    have f0 : flatB l' (i + c) (i + 1 + c) := by rw [show i + 1 + c = i + c + 1 by omega]; exact .one (by omega) (by omega)
    have d1 : deepOk l' (i + 1 + c) (j - (i + 1)) os'.length := by
      have := deepOk.tail (k := j + c) (by rw [show j + c - (i + c) = j - i by omega]; exact hd) f0 (by omega)
      rwa [show j + c - (i + 1 + c) = j - (i + 1) by omega] at this
    obtain ⟨a1, r1⟩ := ih1 _ _ _ rfl hi1 os' [] (fun m x y => hs m (by omega) y) trivial d1
    rw [show i + 1 + c = i + c + 1 by omega] at r1
    exact ⟨_, .atomF hk k' r1⟩
  | @groupE i os hk h64 h4 =>
    intro t ats j' e hi os' a0 hs hl hd
    cases e
    have s0 := hs i (Nat.le_refl _) (by omega)
    have s1 := hs (i + 1) (by omega) (by omega)
    rw [show i + 1 + c = i + c + 1 by omega] at s1
    have k' : (tk l' (i + c)).k = 3 := s0.1.trans hk
    have hd1 := hd 1 (by omega)
    rw [cnt_one, dstep, if_pos k'] at hd1
    rw [show i + 2 + c = i + c + 2 by omega]
    exact ⟨_, .groupE k' (by omega) (s1.1.trans h4)⟩
  | @group1 i os t0 ats0 j hk h64 h4 h1 h5 ih =>
    intro t ats j' e hi os' a0 hs hl hd
    cases e
    have hi1 := ne hi hk (by decide)
    have l1 : i + 1 < j := (h1.within he hi1).2.2 rfl _ _ _ rfl
    have s0 := hs i (Nat.le_refl _) (by omega)
    have s1 := hs (i + 1) (by omega) (by omega)
    have sj := hs j (by omega) (by omega)
    have k' : (tk l' (i + c)).k = 3 := s0.1.trans hk
    have kj : (tk l' (j + c)).k = 4 := sj.1.trans h5
    have hd1 := hd 1 (by omega)
    rw [cnt_one, dstep, if_pos k'] at hd1
    obtain ⟨a1, r1⟩ := ih _ _ _ rfl hi1 (os' ++ [(tk l' (i + c)).t]) [] (fun m x y => hs m (by omega) (by omega)) ⟨by omega, by unfold begs; rw [kj]; decide, by omega, by omega⟩ (fun m hm => by
      have := hd (1 + m) (by omega)
      rw [cnt_add, cnt_one, dstep, if_pos k'] at this
      rw [List.length_append, List.length_singleton, show i + 1 + c = i + c + 1 by omega]
      exact_mod_cast this)
    rw [show i + 1 + c = i + c + 1 by omega] at r1 s1
    rw [show j + 1 + c = j + c + 1 by omega]
    exact ⟨_, .group1 k' (by omega) (by rw [s1.1]; exact h4) r1 kj⟩
end Go.Proofs.YtoidlnhgaaohdaaDoor
