/- Which tree ends at a node? -/
import Derived.Test.YtopgjmoajkcdnaaTree
namespace Go.Proofs.Ytopgjmoajkcdnaa
set_option linter.all false
open Go

/-- What a node says that a tree ends with. -/
theorem root_says {l : List Nd} {off i : Nat} {txt : ByteArray → Prop} : ∀ {t : T}, Sits l off t → off + t.n = i + 1 → t.ok txt →
    l.getD i Nd.z = ⟨1, 0, 0, 0, 0, 0, 0, 0, 0, .empty⟩ ∨
    (∃ c0 c1 c2 c3, l.getD i Nd.z = ⟨2, 0, 0, 0, 0, c0, c1, c2, c3, .empty⟩) ∨
    (∃ s, l.getD i Nd.z = ⟨3, 0, 0, 0, 0, 0, 0, 0, 0, s⟩ ∧ txt s) ∨
    (∃ (k : Int) (a b : T), (k = 4 ∨ k = 5) ∧ l.getD i Nd.z = ⟨k, (off + a.n : Nat) - 1, (i : Int) - 1, 0, 0, 0, 0, 0, 0, .empty⟩ ∧ Sits l off a ∧ a.ok txt ∧ Sits l (off + a.n) b ∧ b.ok txt ∧ off + a.n + b.n = i) ∨
    (∃ (k lo hi : Int) (a : T), ((k = 6 ∨ k = 8 ∨ k = 9) ∧ lo = 0 ∧ hi = 0 ∨ k = 7 ∧ 0 ≤ lo ∧ lo ≤ hi ∧ hi ≤ 255) ∧ l.getD i Nd.z = ⟨k, (i : Int) - 1, 0, lo, hi, 0, 0, 0, 0, .empty⟩ ∧ Sits l off a ∧ a.ok txt ∧ off + a.n = i) := by
  intro t hs he hok
  have hr := hs.getD Nd.z
  have hp := t.n_pos
  rw [show off + (t.n - 1) = i by omega] at hr
  rw [hr]
  cases t with
  | void => exact .inl rfl
  | bytes c0 c1 c2 c3 => exact .inr (.inl ⟨c0, c1, c2, c3, rfl⟩)
  | text s => exact .inr (.inr (.inl ⟨s, rfl, hok⟩))
  | two k a b =>
    have h1 := a.n_pos
    have h2 := b.n_pos
    simp only [T.n] at he
    refine .inr (.inr (.inr (.inl ⟨k, a, b, hok.1, ?_, hs.two1, hok.2.1, hs.two2, hok.2.2, by omega⟩)))
    simp only [T.root, Nd.mk.injEq, and_true, true_and]
    omega
  | one k lo hi a =>
    have h1 := a.n_pos
    simp only [T.n] at he
    refine .inr (.inr (.inr (.inr ⟨k, lo, hi, a, hok.1, ?_, hs.one1, hok.2, by omega⟩)))
    simp only [T.root, Nd.mk.injEq, and_true, true_and]
    omega

/-- Two trees that end at one place begin at one place. -/
theorem sits_uniq {l : List Nd} {txt : ByteArray → Prop} : ∀ (t : T) {off i : Nat}, Sits l off t → off + t.n = i + 1 → t.ok txt → ∀ {t' : T} {off' : Nat}, Sits l off' t' → off' + t'.n = i + 1 → t'.ok txt → off = off' ∧ t.n = t'.n := by
  intro t
  induction t with
  | void | bytes | text =>
    intro off i hs he hok t' off' hs' he' hok'
    have hr := hs.getD Nd.z
    have hr' := hs'.getD Nd.z
    have hp' := t'.n_pos
    simp only [T.n] at he
    rw [show off' + (t'.n - 1) = off + 0 by omega] at hr'
    have e := hr.symm.trans hr'
    cases t' with
    | void => simp only [T.n] at he'; exact ⟨by omega, rfl⟩
    | bytes => simp only [T.n] at he'; exact ⟨by omega, rfl⟩
    | text => simp only [T.n] at he'; exact ⟨by omega, rfl⟩
    | two => have h1 := congrArg Nd.kind e; have h2 := hok'.1; simp only [T.root] at h1; omega
    | one => have h1 := congrArg Nd.kind e; have h2 := hok'.1; simp only [T.root] at h1; omega
  | two k a b iha ihb =>
    intro off i hs he hok t' off' hs' he' hok'
    have hp := a.n_pos
    have hq := b.n_pos
    have hp' := t'.n_pos
    have hr := hs.getD Nd.z
    have hr' := hs'.getD Nd.z
    have h1 := hok.1
    simp only [T.n] at he
    rw [show off' + (t'.n - 1) = off + ((T.two k a b).n - 1) by simp only [T.n]; omega] at hr'
    have e := hr.symm.trans hr'
    cases t' with
    | void => have h1 := congrArg Nd.kind e; simp only [T.root] at h1; omega
    | bytes => have h1 := congrArg Nd.kind e; simp only [T.root] at h1; omega
    | text => have h1 := congrArg Nd.kind e; simp only [T.root] at h1; omega
    | one k' lo hi a' => have h1 := congrArg Nd.kind e; have h2 := hok'.1; simp only [T.root] at h1; omega
    | two k' a' b' =>
      have hp' := a'.n_pos
      have hq' := b'.n_pos
      simp only [T.n] at he' ⊢
      obtain ⟨h2, h3⟩ := ihb (i := i - 1) hs.two2 (by omega) hok.2.2 hs'.two2 (by omega) hok'.2.2
      obtain ⟨h4, h5⟩ := iha (i := off + a.n - 1) hs.two1 (by omega) hok.2.1 hs'.two1 (by omega) hok'.2.1
      omega
  | one k lo hi a iha =>
    intro off i hs he hok t' off' hs' he' hok'
    have hp := a.n_pos
    have hp' := t'.n_pos
    have hr := hs.getD Nd.z
    have hr' := hs'.getD Nd.z
    have h1 := hok.1
    simp only [T.n] at he
    rw [show off' + (t'.n - 1) = off + ((T.one k lo hi a).n - 1) by simp only [T.n]; omega] at hr'
    have e := hr.symm.trans hr'
    cases t' with
    | void => have h1 := congrArg Nd.kind e; simp only [T.root] at h1; omega
    | bytes => have h1 := congrArg Nd.kind e; simp only [T.root] at h1; omega
    | text => have h1 := congrArg Nd.kind e; simp only [T.root] at h1; omega
    | two k' a' b' => have h1 := congrArg Nd.kind e; have h2 := hok'.1; simp only [T.root] at h1; omega
    | one k' lo' hi' a' =>
      have hp' := a'.n_pos
      simp only [T.n] at he' ⊢
      obtain ⟨h2, h3⟩ := iha (i := i - 1) hs.one1 (by omega) hok.2 hs'.one1 (by omega) hok'.2
      omega

theorem sits_cons {l : List Nd} {off : Nat} : ∀ {t : T}, Sits l off t → off + t.n ≤ l.length := fun h => h.lt
/-- A tree's nodes, from those of its parts and its own. -/
theorem sits_of (l : List Nd) (off : Nat) (t : T) (pre : List Nd) (hf : t.flat off = pre ++ [t.root off]) (hn : t.n = pre.length + 1) (hpre : ∀ i, i < pre.length → l[off + i]? = pre[i]?) (hr : l[off + pre.length]? = some (t.root off)) : Sits l off t := fun i hi => by
  rw [hf]
  by_cases h : i < pre.length
  · rw [List.getElem?_append_left h]; exact hpre i h
  · have : i = pre.length := by omega
    subst this
    rw [hr]; simp
theorem getD_some {l : List Nd} {i : Nat} {n : Nd} (hi : i < l.length) (h : l.getD i Nd.z = n) : l[i]? = some n := by
  rw [List.getD_eq_getElem?_getD, List.getElem?_eq_getElem hi] at h
  rw [List.getElem?_eq_getElem hi, ← h]; rfl
theorem sits_void {l : List Nd} {i : Nat} (hi : i < l.length) (h : l.getD i Nd.z = ⟨1, 0, 0, 0, 0, 0, 0, 0, 0, .empty⟩) : Sits l i .void :=
  sits_of l i .void [] rfl rfl (by simp) (getD_some hi h)
theorem sits_bytes {l : List Nd} {i : Nat} {c0 c1 c2 c3 : Int} (hi : i < l.length) (h : l.getD i Nd.z = ⟨2, 0, 0, 0, 0, c0, c1, c2, c3, .empty⟩) : Sits l i (.bytes c0 c1 c2 c3) :=
  sits_of l i (.bytes c0 c1 c2 c3) [] rfl rfl (by simp) (getD_some hi h)
theorem sits_text {l : List Nd} {i : Nat} {s : ByteArray} (hi : i < l.length) (h : l.getD i Nd.z = ⟨3, 0, 0, 0, 0, 0, 0, 0, 0, s⟩) : Sits l i (.text s) :=
  sits_of l i (.text s) [] rfl rfl (by simp) (getD_some hi h)
theorem sits_one {l : List Nd} {off i : Nat} {k lo hi : Int} {a : T} (hlt : i < l.length) (ha : Sits l off a) (he : off + a.n = i) (h : l.getD i Nd.z = ⟨k, (i : Int) - 1, 0, lo, hi, 0, 0, 0, 0, .empty⟩) : Sits l off (.one k lo hi a) :=
  sits_of l off (.one k lo hi a) (a.flat off) rfl (by rw [T.flat_len]; rfl) (fun j hj => ha j (by rwa [T.flat_len] at hj)) (by
    have := a.n_pos
    rw [T.flat_len, he]
    refine getD_some hlt (h.trans ?_)
    simp only [T.root, Nd.mk.injEq, and_true, true_and]
    omega)
theorem sits_two {l : List Nd} {off i : Nat} {k : Int} {a b : T} (hi : i < l.length) (ha : Sits l off a) (hb : Sits l (off + a.n) b) (he : off + a.n + b.n = i) (h : l.getD i Nd.z = ⟨k, (off + a.n : Nat) - 1, (i : Int) - 1, 0, 0, 0, 0, 0, 0, .empty⟩) : Sits l off (.two k a b) :=
  sits_of l off (.two k a b) (a.flat off ++ b.flat (off + a.n)) (by simp [T.flat]) (by simp [T.flat_len, T.n]) (fun j hj => by
    rw [List.length_append, T.flat_len, T.flat_len] at hj
    by_cases h : j < a.n
    · rw [List.getElem?_append_left (by rwa [T.flat_len])]; exact ha j h
    · rw [List.getElem?_append_right (by rw [T.flat_len]; omega), T.flat_len, ← hb (j - a.n) (by omega)]
      congr 1; omega) (by
    have := a.n_pos
    have := b.n_pos
    rw [List.length_append, T.flat_len, T.flat_len, ← Nat.add_assoc, he]
    refine getD_some hi (h.trans ?_)
    simp only [T.root, Nd.mk.injEq, and_true, true_and]
    omega)

/-- Which is the first one, of the nodes that end ahead of a place? -/
def Fst (txt : ByteArray → Prop) (l : List Nd) (m : Nat) (r : Int) : Prop :=
  (∃ (off : Nat) (t : T), r = off ∧ Sits l off t ∧ off + t.n = m ∧ t.ok txt) ∨ (r = -1 ∧ ∀ (off : Nat) (t : T), Sits l off t → off + t.n = m → t.ok txt → False)
section
variable {txt : ByteArray → Prop} {l : List Nd} {i : Nat} {r : Int}
theorem fst_zero : Fst txt l 0 (-1) := .inr ⟨rfl, fun off t _ h _ => by have := t.n_pos; omega⟩
theorem fst_void (hi : i < l.length) (h : l.getD i Nd.z = ⟨1, 0, 0, 0, 0, 0, 0, 0, 0, .empty⟩) : Fst txt l (i + 1) i := .inl ⟨i, _, rfl, sits_void hi h, rfl, trivial⟩
theorem fst_bytes {c0 c1 c2 c3 : Int} (hi : i < l.length) (h : l.getD i Nd.z = ⟨2, 0, 0, 0, 0, c0, c1, c2, c3, .empty⟩) : Fst txt l (i + 1) i := .inl ⟨i, _, rfl, sits_bytes hi h, rfl, trivial⟩
theorem fst_text {s : ByteArray} (hi : i < l.length) (hs : txt s) (h : l.getD i Nd.z = ⟨3, 0, 0, 0, 0, 0, 0, 0, 0, s⟩) : Fst txt l (i + 1) i := .inl ⟨i, _, rfl, sits_text hi h, rfl, hs⟩
theorem fst_one {k lo hi : Int} (hlt : i < l.length) (hk : (k = 6 ∨ k = 8 ∨ k = 9) ∧ lo = 0 ∧ hi = 0 ∨ k = 7 ∧ 0 ≤ lo ∧ lo ≤ hi ∧ hi ≤ 255) (h : l.getD i Nd.z = ⟨k, (i : Int) - 1, 0, lo, hi, 0, 0, 0, 0, .empty⟩) (hr : Fst txt l i r) : Fst txt l (i + 1) r := by
  rcases hr with ⟨off, t, h1, h2, h3, h4⟩ | ⟨h1, h2⟩
  · exact .inl ⟨off, .one k lo hi t, h1, sits_one hlt h2 h3 h, by simp only [T.n]; omega, hk, h4⟩
  · refine .inr ⟨h1, fun off t q1 q2 q3 => ?_⟩
    rcases root_says q1 q2 q3 with e | ⟨_, _, _, _, e⟩ | ⟨_, e, _⟩ | ⟨k', a, b, e', e, _⟩ | ⟨k', lo', hi', a, _, e, p1, p2, p3⟩
    · have := congrArg Nd.kind (h.symm.trans e); simp only at this; omega
    · have := congrArg Nd.kind (h.symm.trans e); simp only at this; omega
    · have := congrArg Nd.kind (h.symm.trans e); simp only at this; omega
    · have := congrArg Nd.kind (h.symm.trans e); simp only at this; omega
    · exact h2 off a p1 p3 p2
theorem fst_two {k : Int} {ob : Nat} {b : T} (hlt : i < l.length) (hk : k = 4 ∨ k = 5) (hb : Sits l ob b) (he : ob + b.n = i) (hok : b.ok txt) (h : l.getD i Nd.z = ⟨k, (ob : Int) - 1, (i : Int) - 1, 0, 0, 0, 0, 0, 0, .empty⟩) (hr : Fst txt l ob r) : Fst txt l (i + 1) r := by
  rcases hr with ⟨off, t, h1, h2, h3, h4⟩ | ⟨h1, h2⟩
  · subst h3
    exact .inl ⟨off, .two k t b, h1, sits_two hlt h2 hb he h, by simp only [T.n]; omega, hk, h4, hok⟩
  · refine .inr ⟨h1, fun off t q1 q2 q3 => ?_⟩
    rcases root_says q1 q2 q3 with e | ⟨_, _, _, _, e⟩ | ⟨_, e, _⟩ | ⟨k', a, b', e', e, p1, p2, p3, p4, p5⟩ | ⟨k', lo', hi', a, _, e, p1, p2, p3⟩
    · have := congrArg Nd.kind (h.symm.trans e); simp only at this; omega
    · have := congrArg Nd.kind (h.symm.trans e); simp only at this; omega
    · have := congrArg Nd.kind (h.symm.trans e); simp only at this; omega
    · have := b.n_pos
      obtain ⟨u, _⟩ := sits_uniq (i := i - 1) b hb (by omega) hok p3 (by omega) p4
      exact h2 off a p1 u.symm p2
    · have := congrArg Nd.kind (h.symm.trans e); simp only at this; omega
/-- A node that no tree ends with. -/
theorem fst_no (h : ∀ (off : Nat) (t : T), Sits l off t → off + t.n = i + 1 → t.ok txt → False) : Fst txt l (i + 1) (-1) := .inr ⟨rfl, h⟩
theorem no_void (hk : (l.getD i Nd.z).kind = 1) (h : l.getD i Nd.z ≠ ⟨1, 0, 0, 0, 0, 0, 0, 0, 0, .empty⟩) : Fst txt l (i + 1) (-1) := fst_no fun off t q1 q2 q3 => by
  rcases root_says q1 q2 q3 with e | ⟨_, _, _, _, e⟩ | ⟨_, e, _⟩ | ⟨k', a, b', e', e, p1, p2, p3, p4, p5⟩ | ⟨k', lo', hi', a, _, e, p1, p2, p3⟩
  · exact h e
  all_goals (rw [e] at hk; simp only at hk; omega)
theorem no_bytes (hk : (l.getD i Nd.z).kind = 2) (h : ∀ c0 c1 c2 c3, l.getD i Nd.z ≠ ⟨2, 0, 0, 0, 0, c0, c1, c2, c3, .empty⟩) : Fst txt l (i + 1) (-1) := fst_no fun off t q1 q2 q3 => by
  rcases root_says q1 q2 q3 with e | ⟨_, _, _, _, e⟩ | ⟨_, e, _⟩ | ⟨k', a, b', e', e, p1, p2, p3, p4, p5⟩ | ⟨k', lo', hi', a, _, e, p1, p2, p3⟩
  · rw [e] at hk; simp only at hk; omega
  · exact h _ _ _ _ e
  all_goals (rw [e] at hk; simp only at hk; omega)
theorem no_text (hk : (l.getD i Nd.z).kind = 3) (h : ∀ s, l.getD i Nd.z = ⟨3, 0, 0, 0, 0, 0, 0, 0, 0, s⟩ → ¬ txt s) : Fst txt l (i + 1) (-1) := fst_no fun off t q1 q2 q3 => by
  rcases root_says q1 q2 q3 with e | ⟨_, _, _, _, e⟩ | ⟨_, e, _⟩ | ⟨k', a, b', e', e, p1, p2, p3, p4, p5⟩ | ⟨k', lo', hi', a, _, e, p1, p2, p3⟩
  · rw [e] at hk; simp only at hk; omega
  · rw [e] at hk; simp only at hk; omega
  · exact h _ e ‹_›
  all_goals (rw [e] at hk; simp only at hk; omega)
theorem no_one {k : Int} (hk : (l.getD i Nd.z).kind = k) (hk' : k = 6 ∨ k = 7 ∨ k = 8 ∨ k = 9) (h : ∀ lo hi, l.getD i Nd.z = ⟨k, (i : Int) - 1, 0, lo, hi, 0, 0, 0, 0, .empty⟩ → ¬ ((k = 6 ∨ k = 8 ∨ k = 9) ∧ lo = 0 ∧ hi = 0 ∨ k = 7 ∧ 0 ≤ lo ∧ lo ≤ hi ∧ hi ≤ 255)) : Fst txt l (i + 1) (-1) := fst_no fun off t q1 q2 q3 => by
  rcases root_says q1 q2 q3 with e | ⟨_, _, _, _, e⟩ | ⟨_, e, _⟩ | ⟨k', a, b', e', e, p1, p2, p3, p4, p5⟩ | ⟨k', lo', hi', a, p0, e, p1, p2, p3⟩
  · rw [e] at hk; simp only at hk; omega
  · rw [e] at hk; simp only at hk; omega
  · rw [e] at hk; simp only at hk; omega
  · rw [e] at hk; simp only at hk; omega
  · have e2 := e
    rw [e] at hk
    simp only at hk
    subst hk
    exact h _ _ e2 p0
theorem no_two {k : Int} (hk : (l.getD i Nd.z).kind = k) (hk' : k = 4 ∨ k = 5) (hr : Fst txt l i (-1)) : Fst txt l (i + 1) (-1) := fst_no fun off t q1 q2 q3 => by
  rcases root_says q1 q2 q3 with e | ⟨_, _, _, _, e⟩ | ⟨_, e, _⟩ | ⟨k', a, b', e', e, p1, p2, p3, p4, p5⟩ | ⟨k', lo', hi', a, _, e, p1, p2, p3⟩
  · rw [e] at hk; simp only at hk; omega
  · rw [e] at hk; simp only at hk; omega
  · rw [e] at hk; simp only at hk; omega
  · rcases hr with ⟨o, _, h, _⟩ | ⟨_, h⟩
    · omega
    · exact h _ b' p3 p5 p4
  · rw [e] at hk; simp only at hk; omega
theorem no_two' {k : Int} {ob : Nat} {b : T} (hk : (l.getD i Nd.z).kind = k) (hk' : k = 4 ∨ k = 5) (hb : Sits l ob b) (he : ob + b.n = i) (hok : b.ok txt) (h : l.getD i Nd.z ≠ ⟨k, (ob : Int) - 1, (i : Int) - 1, 0, 0, 0, 0, 0, 0, .empty⟩) : Fst txt l (i + 1) (-1) := fst_no fun off t q1 q2 q3 => by
  rcases root_says q1 q2 q3 with e | ⟨_, _, _, _, e⟩ | ⟨_, e, _⟩ | ⟨k', a, b', e', e, p1, p2, p3, p4, p5⟩ | ⟨k', lo', hi', a, _, e, p1, p2, p3⟩
  · rw [e] at hk; simp only at hk; omega
  · rw [e] at hk; simp only at hk; omega
  · rw [e] at hk; simp only at hk; omega
  · have := b.n_pos
    obtain ⟨u, _⟩ := sits_uniq (i := i - 1) b hb (by omega) hok p3 (by omega) p4
    have e2 := e
    rw [e] at hk
    simp only at hk
    subst hk
    subst u
    exact h e2
  · rw [e] at hk; simp only at hk; omega
theorem no_kind {k : Int} (hk : (l.getD i Nd.z).kind = k) (h : ¬ (1 ≤ k ∧ k ≤ 9)) : Fst txt l (i + 1) (-1) := fst_no fun off t q1 q2 q3 => by
  rcases root_says q1 q2 q3 with e | ⟨_, _, _, _, e⟩ | ⟨_, e, _⟩ | ⟨k', a, b', e', e, p1, p2, p3, p4, p5⟩ | ⟨k', lo', hi', a, _, e, p1, p2, p3⟩
  all_goals (rw [e] at hk; simp only at hk; omega)
end

/-- Each of a tree's nodes ends a tree. -/
theorem sits_sub {l : List Nd} {txt : ByteArray → Prop} : ∀ (t : T) {off : Nat}, Sits l off t → t.ok txt → ∀ {i : Nat}, off ≤ i → i < off + t.n → ∃ (t' : T) (off' : Nat), Sits l off' t' ∧ off' + t'.n = i + 1 ∧ t'.ok txt ∧ off ≤ off' := by
  intro t
  induction t with
  | void | bytes | text =>
    intro off hs hok i h1 h2
    simp only [T.n] at h2
    exact ⟨_, off, hs, by simp only [T.n]; omega, hok, Nat.le_refl _⟩
  | two k a b iha ihb =>
    intro off hs hok i h1 h2
    by_cases h3 : i < off + a.n
    · exact iha hs.two1 hok.2.1 h1 h3
    · by_cases h4 : i < off + a.n + b.n
      · obtain ⟨t', off', q1, q2, q3, q4⟩ := ihb hs.two2 hok.2.2 (by omega) h4
        exact ⟨t', off', q1, q2, q3, by omega⟩
      · exact ⟨_, off, hs, by simp only [T.n] at h2 ⊢; omega, hok, Nat.le_refl _⟩
  | one k lo hi a iha =>
    intro off hs hok i h1 h2
    by_cases h3 : i < off + a.n
    · exact iha hs.one1 hok.2 h1 h3
    · exact ⟨_, off, hs, by simp only [T.n] at h2 ⊢; omega, hok, Nat.le_refl _⟩
end Go.Proofs.Ytopgjmoajkcdnaa
