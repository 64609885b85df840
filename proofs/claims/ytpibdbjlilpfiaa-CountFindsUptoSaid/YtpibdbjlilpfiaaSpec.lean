/- Spec: Spec, Tree, Tree2, WaysP. -/
import Derived.Test.YtpibdbjlilpfiaaAbsC
/- What descriptions are, as plain data. -/
namespace Go.Proofs.Ytpibdbjlilpfiaa
set_option linter.all false
open Go Go.RowKit

structure Nd where
  kind : Int
  a : Int
  b : Int
  lo : Int
  hi : Int
  c0 : Int
  c1 : Int
  c2 : Int
  c3 : Int
  text : ByteArray
def Nd.z : Nd := ⟨0, 0, 0, 0, 0, 0, 0, 0, 0, .empty⟩
instance : Inhabited Nd := ⟨Nd.z⟩
def Nd.cells (n : Nd) : List D := [.int .i64 n.kind, .int .i64 n.a, .int .i64 n.b, .int .i64 n.lo, .int .i64 n.hi, .int .u64 n.c0, .int .u64 n.c1, .int .u64 n.c2, .int .u64 n.c3, .str n.text]
def nds (l : List Nd) : D := .slice (l.map Nd.cells)
def desc (l : List Nd) : D := .agg [nds l]
def Nd.cok (n : Nd) : Prop := (0 ≤ n.c0 ∧ n.c0 < 18446744073709551616) ∧ (0 ≤ n.c1 ∧ n.c1 < 18446744073709551616) ∧ (0 ≤ n.c2 ∧ n.c2 < 18446744073709551616) ∧ 0 ≤ n.c3 ∧ n.c3 < 18446744073709551616
def ints (l : List Int) : D := .slice (l.map fun x => [.int .i64 x])
@[simp] theorem Nd.cells_len (n : Nd) : n.cells.length = 10 := rfl
attribute [go_sem] desc nds ints List.length_map Nd.cells Int.toNat_natCast

/-- What is known of lengths. -/
theorem imp_intro {p q : Prop} (h : p → q) : p → q := h
section
variable {P : Program} {gl : GL} {nt : Nat} {Q : AExit → St → Prop} {s : St} {α : Type}
theorem ex_map {l : List α} {f : α → List D} {i : Nat} {n : Int} {sz : Nat} {K : List D → Prop} (d : α) (hn : n.toNat = i) (h0 : 0 ≤ n) (h : i < l.length) (hsz : (f (l.getD i d)).length = sz) (hK : K (f (l.getD i d))) : 0 ≤ n ∧ ∃ e, (l.map f)[n.toNat]? = some e ∧ e.length = sz ∧ K e :=
  ⟨h0, _, by rw [hn]; exact at_map d h, hsz, hK⟩
theorem drop_getD {l : List α} {i : Nat} (h : i < l.length) (d : α) : l.drop i = l.getD i d :: l.drop (i + 1) := by
  rw [List.drop_eq_getElem_cons h, List.getD_eq_getElem?_getD, List.getElem?_eq_getElem h]
  rfl
end
end Go.Proofs.Ytpibdbjlilpfiaa
/- Descriptions as trees. -/
namespace Go.Proofs.Ytpibdbjlilpfiaa
set_option linter.all false
open Go

inductive T where
  | void
  | bytes (c0 c1 c2 c3 : Int)
  | text (s : ByteArray)
  | two (k : Int) (a b : T)
  | one (k lo hi : Int) (a : T)

def T.n : T → Nat
  | .void => 1
  | .bytes .. => 1
  | .text _ => 1
  | .two _ a b => a.n + b.n + 1
  | .one _ _ _ a => a.n + 1

/-- The node at its end. -/
def T.root (off : Nat) : T → Nd
  | .void => ⟨1, 0, 0, 0, 0, 0, 0, 0, 0, .empty⟩
  | .bytes c0 c1 c2 c3 => ⟨2, 0, 0, 0, 0, c0, c1, c2, c3, .empty⟩
  | .text s => ⟨3, 0, 0, 0, 0, 0, 0, 0, 0, s⟩
  | .two k a b => ⟨k, (off + (a.n - 1) : Nat), (off + a.n + (b.n - 1) : Nat), 0, 0, 0, 0, 0, 0, .empty⟩
  | .one k lo hi a => ⟨k, (off + (a.n - 1) : Nat), 0, lo, hi, 0, 0, 0, 0, .empty⟩

def T.flat (off : Nat) : T → List Nd
  | .void => [T.root off .void]
  | .bytes c0 c1 c2 c3 => [T.root off (.bytes c0 c1 c2 c3)]
  | .text s => [T.root off (.text s)]
  | .two k a b => a.flat off ++ (b.flat (off + a.n) ++ [T.root off (.two k a b)])
  | .one k lo hi a => a.flat off ++ [T.root off (.one k lo hi a)]

theorem T.n_pos : ∀ t : T, 0 < t.n
  | .void => Nat.one_pos
  | .bytes .. => Nat.one_pos
  | .text _ => Nat.one_pos
  | .two .. => Nat.succ_pos _
  | .one .. => Nat.succ_pos _

theorem T.flat_len : ∀ (t : T) (off : Nat), (t.flat off).length = t.n
  | .void, _ => rfl
  | .bytes .., _ => rfl
  | .text _, _ => rfl
  | .two k a b, off => by simp [T.flat, T.n, T.flat_len a, T.flat_len b]; omega
  | .one k lo hi a, off => by simp [T.flat, T.n, T.flat_len a]

/-- The tree's nodes stand in the list from a place on. -/
def Sits (l : List Nd) (off : Nat) (t : T) : Prop := ∀ i, i < t.n → l[off + i]? = (t.flat off)[i]?

section
variable {l : List Nd} {off : Nat} {k lo hi : Int} {a b t : T}

theorem Sits.two1 (h : Sits l off (.two k a b)) : Sits l off a := fun i hi => by
  rw [h i (by simp [T.n]; omega), T.flat, List.getElem?_append_left (by rw [T.flat_len]; exact hi)]
theorem Sits.two2 (h : Sits l off (.two k a b)) : Sits l (off + a.n) b := fun i hi => by
  have := h (a.n + i) (by simp [T.n]; omega)
  rw [← Nat.add_assoc] at this
  rw [this, T.flat, List.getElem?_append_right (by rw [T.flat_len]; omega), T.flat_len, Nat.add_sub_cancel_left, List.getElem?_append_left (by rw [T.flat_len]; exact hi)]
theorem Sits.one1 (h : Sits l off (.one k lo hi a)) : Sits l off a := fun i hi => by
  rw [h i (by simp [T.n]; omega), T.flat, List.getElem?_append_left (by rw [T.flat_len]; exact hi)]
theorem flat_root : ∀ (t : T) (off : Nat), (t.flat off)[t.n - 1]? = some (t.root off)
  | .void, _ => rfl
  | .bytes .., _ => rfl
  | .text _, _ => rfl
  | .two k a b, off => by
    rw [T.flat, List.getElem?_append_right (by rw [T.flat_len]; simp only [T.n]; omega), T.flat_len, List.getElem?_append_right (by rw [T.flat_len]; simp only [T.n]; omega), T.flat_len]
    simp [T.n]
  | .one k lo hi a, off => by
    rw [T.flat, List.getElem?_append_right (by rw [T.flat_len]; simp [T.n]), T.flat_len]
    simp [T.n]
theorem Sits.root (h : Sits l off t) : l[off + (t.n - 1)]? = some (t.root off) := by
  rw [h _ (by have := t.n_pos; omega), flat_root]
theorem Sits.lt (h : Sits l off t) : off + t.n ≤ l.length := by
  have := (List.getElem?_eq_some_iff.1 h.root).1
  have := t.n_pos
  omega
theorem Sits.getD (h : Sits l off t) (d : Nd) : l.getD (off + (t.n - 1)) d = t.root off := by
  rw [List.getD_eq_getElem?_getD, h.root]; rfl
theorem sits_flat (t : T) : Sits (t.flat 0) 0 t := fun i _ => by rw [Nat.zero_add]
end

/-- Is it one that the document lets be? -/
def T.ok (txt : ByteArray → Prop) : T → Prop
  | .void => True
  | .bytes .. => True
  | .text s => txt s
  | .two k a b => (k = 4 ∨ k = 5) ∧ a.ok txt ∧ b.ok txt
  | .one k lo hi a => ((k = 6 ∨ k = 8 ∨ k = 9) ∧ lo = 0 ∧ hi = 0 ∨ k = 7 ∧ 0 ≤ lo ∧ lo ≤ hi ∧ hi ≤ 255) ∧ a.ok txt

def maxSize : Int := 1099511627776
def T.size : T → Int
  | .void => 0
  | .bytes .. => 1
  | .text s => min s.size 1099511627776
  | .two _ a b => min (a.size + b.size) 1099511627776
  | .one k _ hi a => if k = 6 then a.size else if k = 7 then min (a.size * hi) 1099511627776 else if k = 8 then min (min (a.size + 1) 1099511627776 * 256) 1099511627776 else min (256 + min (min (a.size + 1) 1099511627776 * 65536) 1099511627776) 1099511627776
theorem T.size6 {lo hi : Int} {a : T} : (T.one 6 lo hi a).size = a.size := by simp [T.size]
theorem T.size7 {lo hi : Int} {a : T} : (T.one 7 lo hi a).size = min (a.size * hi) 1099511627776 := by simp [T.size]
theorem T.size8 {lo hi : Int} {a : T} : (T.one 8 lo hi a).size = min (min (a.size + 1) 1099511627776 * 256) 1099511627776 := by simp [T.size]
theorem T.size9 {lo hi : Int} {a : T} : (T.one 9 lo hi a).size = min (256 + min (min (a.size + 1) 1099511627776 * 65536) 1099511627776) 1099511627776 := by simp [T.size]
theorem T.size0 : T.void.size = 0 := rfl
theorem T.size1 {a b c d : Int} : (T.bytes a b c d).size = 1 := rfl
theorem T.size3 {s : ByteArray} : (T.text s).size = min (s.size : Int) 1099511627776 := rfl
theorem T.size4 {k : Int} {a b : T} : (T.two k a b).size = min (a.size + b.size) 1099511627776 := rfl
theorem T.size_bd {txt : ByteArray → Prop} : ∀ {t : T}, t.ok txt → 0 ≤ t.size ∧ t.size ≤ 1099511627776
  | .void, _ => by simp [T.size]
  | .bytes .., _ => by simp [T.size]
  | .text s, _ => by simp only [T.size]; omega
  | .two k a b, h => by have := T.size_bd h.2.1; have := T.size_bd h.2.2; simp only [T.size]; omega
  | .one k lo hi a, h => by
    have := T.size_bd h.2
    simp only [T.size]
    have hh : k = 7 → 0 ≤ a.size * hi := fun hk => Int.mul_nonneg (by omega) (by rcases h.1 with ⟨h1, _⟩ | h1 <;> omega)
    split
    · omega
    · split
      · rename_i hk; have := hh hk; omega
      · split <;> omega
end Go.Proofs.Ytpibdbjlilpfiaa
/- Which tree ends at a node? -/
namespace Go.Proofs.Ytpibdbjlilpfiaa
set_option linter.all false
open Go

/-- What a node says that a tree ends with. -/
theorem root_says {l : List Nd} {off i : Nat} {txt : ByteArray → Prop} : ∀ {t : T}, Sits l off t → off + t.n = i + 1 → t.ok txt →
    l.getD i Nd.z = ⟨1, 0, 0, 0, 0, 0, 0, 0, 0, .empty⟩ ∨
    (∃ c0 c1 c2 c3, l.getD i Nd.z = ⟨2, 0, 0, 0, 0, c0, c1, c2, c3, .empty⟩) ∨
    (∃ s, l.getD i Nd.z = ⟨3, 0, 0, 0, 0, 0, 0, 0, 0, s⟩ ∧ txt s) ∨
    (∃ (k : Int) (a b : T), (k = 4 ∨ k = 5) ∧ l.getD i Nd.z = ⟨k, (off + a.n : Nat) - 1, (i : Int) - 1, 0, 0, 0, 0, 0, 0, .empty⟩ ∧ Sits l off a ∧ a.ok txt ∧ Sits l (off + a.n) b ∧ b.ok txt ∧ off + a.n + b.n = i) ∨
    (∃ (k lo hi : Int) (a : T), ((k = 6 ∨ k = 8 ∨ k = 9) ∧ lo = 0 ∧ hi = 0 ∨ k = 7 ∧ 0 ≤ lo ∧ lo ≤ hi ∧ hi ≤ 255) ∧ l.getD i Nd.z = ⟨k, (i : Int) - 1, 0, lo, hi, 0, 0, 0, 0, .empty⟩ ∧ Sits l off a ∧ a.ok txt ∧ off + a.n = i) := by
  intro t hs he hok
  have hr := hs.getD Nd.z
  have hp := t.n_pos
  rw [show off + (t.n - 1) = i by omega] at hr
  rw [hr]
  cases t with
  | void => exact .inl rfl
  | bytes c0 c1 c2 c3 => exact .inr (.inl ⟨c0, c1, c2, c3, rfl⟩)
  | text s => exact .inr (.inr (.inl ⟨s, rfl, hok⟩))
  | two k a b =>
    have h1 := a.n_pos
    have h2 := b.n_pos
    simp only [T.n] at he
    refine .inr (.inr (.inr (.inl ⟨k, a, b, hok.1, ?_, hs.two1, hok.2.1, hs.two2, hok.2.2, by omega⟩)))
    simp only [T.root, Nd.mk.injEq, and_true, true_and]
    omega
  | one k lo hi a =>
    have h1 := a.n_pos
    simp only [T.n] at he
    refine .inr (.inr (.inr (.inr ⟨k, lo, hi, a, hok.1, ?_, hs.one1, hok.2, by omega⟩)))
    simp only [T.root, Nd.mk.injEq, and_true, true_and]
    omega

/-- Two trees that end at one place begin at one place. -/
theorem sits_uniq {l : List Nd} {txt : ByteArray → Prop} : ∀ (t : T) {off i : Nat}, Sits l off t → off + t.n = i + 1 → t.ok txt → ∀ {t' : T} {off' : Nat}, Sits l off' t' → off' + t'.n = i + 1 → t'.ok txt → off = off' ∧ t.n = t'.n := by
  intro t
  induction t with
  | void | bytes | text =>
    intro off i hs he hok t' off' hs' he' hok'
    have hr := hs.getD Nd.z
    have hr' := hs'.getD Nd.z
    have hp' := t'.n_pos
    simp only [T.n] at he
    rw [show off' + (t'.n - 1) = off + 0 by omega] at hr'
    have e := hr.symm.trans hr'
    cases t' with
    | void => simp only [T.n] at he'; exact ⟨by omega, rfl⟩
    | bytes => simp only [T.n] at he'; exact ⟨by omega, rfl⟩
    | text => simp only [T.n] at he'; exact ⟨by omega, rfl⟩
    | two => have h1 := congrArg Nd.kind e; have h2 := hok'.1; simp only [T.root] at h1; omega
    | one => have h1 := congrArg Nd.kind e; have h2 := hok'.1; simp only [T.root] at h1; omega
  | two k a b iha ihb =>
    intro off i hs he hok t' off' hs' he' hok'
    have hp := a.n_pos
    have hq := b.n_pos
    have hp' := t'.n_pos
    have hr := hs.getD Nd.z
    have hr' := hs'.getD Nd.z
    have h1 := hok.1
    simp only [T.n] at he
    rw [show off' + (t'.n - 1) = off + ((T.two k a b).n - 1) by simp only [T.n]; omega] at hr'
    have e := hr.symm.trans hr'
    cases t' with
    | void => have h1 := congrArg Nd.kind e; simp only [T.root] at h1; omega
    | bytes => have h1 := congrArg Nd.kind e; simp only [T.root] at h1; omega
    | text => have h1 := congrArg Nd.kind e; simp only [T.root] at h1; omega
    | one k' lo hi a' => have h1 := congrArg Nd.kind e; have h2 := hok'.1; simp only [T.root] at h1; omega
    | two k' a' b' =>
      have hp' := a'.n_pos
      have hq' := b'.n_pos
      simp only [T.n] at he' ⊢
      obtain ⟨h2, h3⟩ := ihb (i := i - 1) hs.two2 (by omega) hok.2.2 hs'.two2 (by omega) hok'.2.2
      obtain ⟨h4, h5⟩ := iha (i := off + a.n - 1) hs.two1 (by omega) hok.2.1 hs'.two1 (by omega) hok'.2.1
      omega
  | one k lo hi a iha =>
    intro off i hs he hok t' off' hs' he' hok'
    have hp := a.n_pos
    have hp' := t'.n_pos
    have hr := hs.getD Nd.z
    have hr' := hs'.getD Nd.z
    have h1 := hok.1
    simp only [T.n] at he
    rw [show off' + (t'.n - 1) = off + ((T.one k lo hi a).n - 1) by simp only [T.n]; omega] at hr'
    have e := hr.symm.trans hr'
    cases t' with
    | void => have h1 := congrArg Nd.kind e; simp only [T.root] at h1; omega
    | bytes => have h1 := congrArg Nd.kind e; simp only [T.root] at h1; omega
    | text => have h1 := congrArg Nd.kind e; simp only [T.root] at h1; omega
    | two k' a' b' => have h1 := congrArg Nd.kind e; have h2 := hok'.1; simp only [T.root] at h1; omega
    | one k' lo' hi' a' =>
      have hp' := a'.n_pos
      simp only [T.n] at he' ⊢
      obtain ⟨h2, h3⟩ := iha (i := i - 1) hs.one1 (by omega) hok.2 hs'.one1 (by omega) hok'.2
      omega

theorem sits_cons {l : List Nd} {off : Nat} : ∀ {t : T}, Sits l off t → off + t.n ≤ l.length := fun h => h.lt
/-- A tree's nodes, from those of its parts and its own. -/
theorem sits_of (l : List Nd) (off : Nat) (t : T) (pre : List Nd) (hf : t.flat off = pre ++ [t.root off]) (hn : t.n = pre.length + 1) (hpre : ∀ i, i < pre.length → l[off + i]? = pre[i]?) (hr : l[off + pre.length]? = some (t.root off)) : Sits l off t := fun i hi => by
  rw [hf]
  by_cases h : i < pre.length
  · rw [List.getElem?_append_left h]; exact hpre i h
  · have : i = pre.length := by omega
    subst this
    rw [hr]; simp
theorem getD_some {l : List Nd} {i : Nat} {n : Nd} (hi : i < l.length) (h : l.getD i Nd.z = n) : l[i]? = some n := by
  rw [List.getD_eq_getElem?_getD, List.getElem?_eq_getElem hi] at h
  rw [List.getElem?_eq_getElem hi, ← h]; rfl
theorem sits_void {l : List Nd} {i : Nat} (hi : i < l.length) (h : l.getD i Nd.z = ⟨1, 0, 0, 0, 0, 0, 0, 0, 0, .empty⟩) : Sits l i .void :=
  sits_of l i .void [] rfl rfl (by simp) (getD_some hi h)
theorem sits_bytes {l : List Nd} {i : Nat} {c0 c1 c2 c3 : Int} (hi : i < l.length) (h : l.getD i Nd.z = ⟨2, 0, 0, 0, 0, c0, c1, c2, c3, .empty⟩) : Sits l i (.bytes c0 c1 c2 c3) :=
  sits_of l i (.bytes c0 c1 c2 c3) [] rfl rfl (by simp) (getD_some hi h)
theorem sits_text {l : List Nd} {i : Nat} {s : ByteArray} (hi : i < l.length) (h : l.getD i Nd.z = ⟨3, 0, 0, 0, 0, 0, 0, 0, 0, s⟩) : Sits l i (.text s) :=
  sits_of l i (.text s) [] rfl rfl (by simp) (getD_some hi h)
theorem sits_one {l : List Nd} {off i : Nat} {k lo hi : Int} {a : T} (hlt : i < l.length) (ha : Sits l off a) (he : off + a.n = i) (h : l.getD i Nd.z = ⟨k, (i : Int) - 1, 0, lo, hi, 0, 0, 0, 0, .empty⟩) : Sits l off (.one k lo hi a) :=
  sits_of l off (.one k lo hi a) (a.flat off) rfl (by rw [T.flat_len]; rfl) (fun j hj => ha j (by rwa [T.flat_len] at hj)) (by
    have := a.n_pos
    rw [T.flat_len, he]
    refine getD_some hlt (h.trans ?_)
    simp only [T.root, Nd.mk.injEq, and_true, true_and]
    omega)
theorem sits_two {l : List Nd} {off i : Nat} {k : Int} {a b : T} (hi : i < l.length) (ha : Sits l off a) (hb : Sits l (off + a.n) b) (he : off + a.n + b.n = i) (h : l.getD i Nd.z = ⟨k, (off + a.n : Nat) - 1, (i : Int) - 1, 0, 0, 0, 0, 0, 0, .empty⟩) : Sits l off (.two k a b) :=
  sits_of l off (.two k a b) (a.flat off ++ b.flat (off + a.n)) (by simp [T.flat]) (by simp [T.flat_len, T.n]) (fun j hj => by
    rw [List.length_append, T.flat_len, T.flat_len] at hj
    by_cases h : j < a.n
    · rw [List.getElem?_append_left (by rwa [T.flat_len])]; exact ha j h
    · rw [List.getElem?_append_right (by rw [T.flat_len]; omega), T.flat_len, ← hb (j - a.n) (by omega)]
      congr 1; omega) (by
    have := a.n_pos
    have := b.n_pos
    rw [List.length_append, T.flat_len, T.flat_len, ← Nat.add_assoc, he]
    refine getD_some hi (h.trans ?_)
    simp only [T.root, Nd.mk.injEq, and_true, true_and]
    omega)

/-- Which is the first one, of the nodes that end ahead of a place? -/
def Fst (txt : ByteArray → Prop) (l : List Nd) (m : Nat) (r : Int) : Prop :=
  (∃ (off : Nat) (t : T), r = off ∧ Sits l off t ∧ off + t.n = m ∧ t.ok txt) ∨ (r = -1 ∧ ∀ (off : Nat) (t : T), Sits l off t → off + t.n = m → t.ok txt → False)
section
variable {txt : ByteArray → Prop} {l : List Nd} {i : Nat} {r : Int}
theorem fst_zero : Fst txt l 0 (-1) := .inr ⟨rfl, fun off t _ h _ => by have := t.n_pos; omega⟩
theorem fst_void (hi : i < l.length) (h : l.getD i Nd.z = ⟨1, 0, 0, 0, 0, 0, 0, 0, 0, .empty⟩) : Fst txt l (i + 1) i := .inl ⟨i, _, rfl, sits_void hi h, rfl, trivial⟩
theorem fst_bytes {c0 c1 c2 c3 : Int} (hi : i < l.length) (h : l.getD i Nd.z = ⟨2, 0, 0, 0, 0, c0, c1, c2, c3, .empty⟩) : Fst txt l (i + 1) i := .inl ⟨i, _, rfl, sits_bytes hi h, rfl, trivial⟩
theorem fst_text {s : ByteArray} (hi : i < l.length) (hs : txt s) (h : l.getD i Nd.z = ⟨3, 0, 0, 0, 0, 0, 0, 0, 0, s⟩) : Fst txt l (i + 1) i := .inl ⟨i, _, rfl, sits_text hi h, rfl, hs⟩
theorem fst_one {k lo hi : Int} (hlt : i < l.length) (hk : (k = 6 ∨ k = 8 ∨ k = 9) ∧ lo = 0 ∧ hi = 0 ∨ k = 7 ∧ 0 ≤ lo ∧ lo ≤ hi ∧ hi ≤ 255) (h : l.getD i Nd.z = ⟨k, (i : Int) - 1, 0, lo, hi, 0, 0, 0, 0, .empty⟩) (hr : Fst txt l i r) : Fst txt l (i + 1) r := by
  rcases hr with ⟨off, t, h1, h2, h3, h4⟩ | ⟨h1, h2⟩
  · exact .inl ⟨off, .one k lo hi t, h1, sits_one hlt h2 h3 h, by simp only [T.n]; omega, hk, h4⟩
  · refine .inr ⟨h1, fun off t q1 q2 q3 => ?_⟩
    rcases root_says q1 q2 q3 with e | ⟨_, _, _, _, e⟩ | ⟨_, e, _⟩ | ⟨k', a, b, e', e, _⟩ | ⟨k', lo', hi', a, _, e, p1, p2, p3⟩
    · have := congrArg Nd.kind (h.symm.trans e); simp only at this; omega
    · have := congrArg Nd.kind (h.symm.trans e); simp only at this; omega
    · have := congrArg Nd.kind (h.symm.trans e); simp only at this; omega
    · have := congrArg Nd.kind (h.symm.trans e); simp only at this; omega
    · exact h2 off a p1 p3 p2
theorem fst_two {k : Int} {ob : Nat} {b : T} (hlt : i < l.length) (hk : k = 4 ∨ k = 5) (hb : Sits l ob b) (he : ob + b.n = i) (hok : b.ok txt) (h : l.getD i Nd.z = ⟨k, (ob : Int) - 1, (i : Int) - 1, 0, 0, 0, 0, 0, 0, .empty⟩) (hr : Fst txt l ob r) : Fst txt l (i + 1) r := by
  rcases hr with ⟨off, t, h1, h2, h3, h4⟩ | ⟨h1, h2⟩
  · subst h3
    exact .inl ⟨off, .two k t b, h1, sits_two hlt h2 hb he h, by simp only [T.n]; omega, hk, h4, hok⟩
  · refine .inr ⟨h1, fun off t q1 q2 q3 => ?_⟩
    rcases root_says q1 q2 q3 with e | ⟨_, _, _, _, e⟩ | ⟨_, e, _⟩ | ⟨k', a, b', e', e, p1, p2, p3, p4, p5⟩ | ⟨k', lo', hi', a, _, e, p1, p2, p3⟩
    · have := congrArg Nd.kind (h.symm.trans e); simp only at this; omega
    · have := congrArg Nd.kind (h.symm.trans e); simp only at this; omega
    · have := congrArg Nd.kind (h.symm.trans e); simp only at this; omega
    · have := b.n_pos
      obtain ⟨u, _⟩ := sits_uniq (i := i - 1) b hb (by omega) hok p3 (by omega) p4
      exact h2 off a p1 u.symm p2
    · have := congrArg Nd.kind (h.symm.trans e); simp only at this; omega
/-- A node that no tree ends with. -/
theorem fst_no (h : ∀ (off : Nat) (t : T), Sits l off t → off + t.n = i + 1 → t.ok txt → False) : Fst txt l (i + 1) (-1) := .inr ⟨rfl, h⟩
theorem no_void (hk : (l.getD i Nd.z).kind = 1) (h : l.getD i Nd.z ≠ ⟨1, 0, 0, 0, 0, 0, 0, 0, 0, .empty⟩) : Fst txt l (i + 1) (-1) := fst_no fun off t q1 q2 q3 => by
  rcases root_says q1 q2 q3 with e | ⟨_, _, _, _, e⟩ | ⟨_, e, _⟩ | ⟨k', a, b', e', e, p1, p2, p3, p4, p5⟩ | ⟨k', lo', hi', a, _, e, p1, p2, p3⟩
  · exact h e
  all_goals (rw [e] at hk; simp only at hk; omega)
theorem no_bytes (hk : (l.getD i Nd.z).kind = 2) (h : ∀ c0 c1 c2 c3, l.getD i Nd.z ≠ ⟨2, 0, 0, 0, 0, c0, c1, c2, c3, .empty⟩) : Fst txt l (i + 1) (-1) := fst_no fun off t q1 q2 q3 => by
  rcases root_says q1 q2 q3 with e | ⟨_, _, _, _, e⟩ | ⟨_, e, _⟩ | ⟨k', a, b', e', e, p1, p2, p3, p4, p5⟩ | ⟨k', lo', hi', a, _, e, p1, p2, p3⟩
  · rw [e] at hk; simp only at hk; omega
  · exact h _ _ _ _ e
  all_goals (rw [e] at hk; simp only at hk; omega)
theorem no_text (hk : (l.getD i Nd.z).kind = 3) (h : ∀ s, l.getD i Nd.z = ⟨3, 0, 0, 0, 0, 0, 0, 0, 0, s⟩ → ¬ txt s) : Fst txt l (i + 1) (-1) := fst_no fun off t q1 q2 q3 => by
  rcases root_says q1 q2 q3 with e | ⟨_, _, _, _, e⟩ | ⟨_, e, _⟩ | ⟨k', a, b', e', e, p1, p2, p3, p4, p5⟩ | ⟨k', lo', hi', a, _, e, p1, p2, p3⟩
  · rw [e] at hk; simp only at hk; omega
  · rw [e] at hk; simp only at hk; omega
  · exact h _ e ‹_›
  all_goals (rw [e] at hk; simp only at hk; omega)
theorem no_one {k : Int} (hk : (l.getD i Nd.z).kind = k) (hk' : k = 6 ∨ k = 7 ∨ k = 8 ∨ k = 9) (h : ∀ lo hi, l.getD i Nd.z = ⟨k, (i : Int) - 1, 0, lo, hi, 0, 0, 0, 0, .empty⟩ → ¬ ((k = 6 ∨ k = 8 ∨ k = 9) ∧ lo = 0 ∧ hi = 0 ∨ k = 7 ∧ 0 ≤ lo ∧ lo ≤ hi ∧ hi ≤ 255)) : Fst txt l (i + 1) (-1) := fst_no fun off t q1 q2 q3 => by
  rcases root_says q1 q2 q3 with e | ⟨_, _, _, _, e⟩ | ⟨_, e, _⟩ | ⟨k', a, b', e', e, p1, p2, p3, p4, p5⟩ | ⟨k', lo', hi', a, p0, e, p1, p2, p3⟩
  · rw [e] at hk; simp only at hk; omega
  · rw [e] at hk; simp only at hk; omega
  · rw [e] at hk; simp only at hk; omega
  · rw [e] at hk; simp only at hk; omega
  · have e2 := e
    rw [e] at hk
    simp only at hk
    subst hk
    exact h _ _ e2 p0
theorem no_two {k : Int} (hk : (l.getD i Nd.z).kind = k) (hk' : k = 4 ∨ k = 5) (hr : Fst txt l i (-1)) : Fst txt l (i + 1) (-1) := fst_no fun off t q1 q2 q3 => by
  rcases root_says q1 q2 q3 with e | ⟨_, _, _, _, e⟩ | ⟨_, e, _⟩ | ⟨k', a, b', e', e, p1, p2, p3, p4, p5⟩ | ⟨k', lo', hi', a, _, e, p1, p2, p3⟩
  · rw [e] at hk; simp only at hk; omega
  · rw [e] at hk; simp only at hk; omega
  · rw [e] at hk; simp only at hk; omega
  · rcases hr with ⟨o, _, h, _⟩ | ⟨_, h⟩
    · omega
    · exact h _ b' p3 p5 p4
  · rw [e] at hk; simp only at hk; omega
theorem no_two' {k : Int} {ob : Nat} {b : T} (hk : (l.getD i Nd.z).kind = k) (hk' : k = 4 ∨ k = 5) (hb : Sits l ob b) (he : ob + b.n = i) (hok : b.ok txt) (h : l.getD i Nd.z ≠ ⟨k, (ob : Int) - 1, (i : Int) - 1, 0, 0, 0, 0, 0, 0, .empty⟩) : Fst txt l (i + 1) (-1) := fst_no fun off t q1 q2 q3 => by
  rcases root_says q1 q2 q3 with e | ⟨_, _, _, _, e⟩ | ⟨_, e, _⟩ | ⟨k', a, b', e', e, p1, p2, p3, p4, p5⟩ | ⟨k', lo', hi', a, _, e, p1, p2, p3⟩
  · rw [e] at hk; simp only at hk; omega
  · rw [e] at hk; simp only at hk; omega
  · rw [e] at hk; simp only at hk; omega
  · have := b.n_pos
    obtain ⟨u, _⟩ := sits_uniq (i := i - 1) b hb (by omega) hok p3 (by omega) p4
    have e2 := e
    rw [e] at hk
    simp only at hk
    subst hk
    subst u
    exact h e2
  · rw [e] at hk; simp only at hk; omega
theorem no_kind {k : Int} (hk : (l.getD i Nd.z).kind = k) (h : ¬ (1 ≤ k ∧ k ≤ 9)) : Fst txt l (i + 1) (-1) := fst_no fun off t q1 q2 q3 => by
  rcases root_says q1 q2 q3 with e | ⟨_, _, _, _, e⟩ | ⟨_, e, _⟩ | ⟨k', a, b', e', e, p1, p2, p3, p4, p5⟩ | ⟨k', lo', hi', a, _, e, p1, p2, p3⟩
  all_goals (rw [e] at hk; simp only at hk; omega)
end

/-- Each of a tree's nodes ends a tree. -/
theorem sits_sub {l : List Nd} {txt : ByteArray → Prop} : ∀ (t : T) {off : Nat}, Sits l off t → t.ok txt → ∀ {i : Nat}, off ≤ i → i < off + t.n → ∃ (t' : T) (off' : Nat), Sits l off' t' ∧ off' + t'.n = i + 1 ∧ t'.ok txt ∧ off ≤ off' := by
  intro t
  induction t with
  | void | bytes | text =>
    intro off hs hok i h1 h2
    simp only [T.n] at h2
    exact ⟨_, off, hs, by simp only [T.n]; omega, hok, Nat.le_refl _⟩
  | two k a b iha ihb =>
    intro off hs hok i h1 h2
    by_cases h3 : i < off + a.n
    · exact iha hs.two1 hok.2.1 h1 h3
    · by_cases h4 : i < off + a.n + b.n
      · obtain ⟨t', off', q1, q2, q3, q4⟩ := ihb hs.two2 hok.2.2 (by omega) h4
        exact ⟨t', off', q1, q2, q3, by omega⟩
      · exact ⟨_, off, hs, by simp only [T.n] at h2 ⊢; omega, hok, Nat.le_refl _⟩
  | one k lo hi a iha =>
    intro off hs hok i h1 h2
    by_cases h3 : i < off + a.n
    · exact iha hs.one1 hok.2 h1 h3
    · exact ⟨_, off, hs, by simp only [T.n] at h2 ⊢; omega, hok, Nat.le_refl _⟩
end Go.Proofs.Ytpibdbjlilpfiaa
/- In how many ways nothing is read, as plain numbers. -/
namespace Go.Proofs.Ytpibdbjlilpfiaa
set_option linter.all false
open Go

def pwF (a : Int) : Nat → Int
  | 0 => 1
  | m + 1 => min 2 (pwF a m * a)
def rpF (a : Int) (lo : Nat) : Nat → Int
  | 0 => 0
  | m + 1 => min 2 (rpF a lo m + pwF a (lo + m))
theorem pwF_bd {a : Int} (h0 : 0 ≤ a) (h2 : a ≤ 2) : ∀ m, 0 ≤ pwF a m ∧ pwF a m ≤ 2
  | 0 => by simp [pwF]
  | m + 1 => by
    have ih := pwF_bd h0 h2 m
    have := Int.mul_nonneg ih.1 h0
    rw [pwF]
    omega
theorem rpF_bd {a : Int} (h0 : 0 ≤ a) (h2 : a ≤ 2) {lo : Nat} : ∀ m, 0 ≤ rpF a lo m ∧ rpF a lo m ≤ 2
  | 0 => by simp [rpF]
  | m + 1 => by
    have ih := rpF_bd h0 h2 (lo := lo) m
    have := pwF_bd h0 h2 (lo + m)
    rw [rpF]
    omega
def T.ways : T → Int
  | .void => 1
  | .bytes .. => 0
  | .text _ => 0
  | .two k a b => if k = 4 then min 2 (a.ways * b.ways) else min 2 (a.ways + b.ways)
  | .one k lo hi a => if k = 6 then (if 0 < a.ways then 2 else 1) else if k = 7 then rpF a.ways lo.toNat (hi.toNat + 1 - lo.toNat) else 0
/-- One node's, of what is told of those ahead of it. -/
def stepW (acc : List Int) (n : Nd) : Int :=
  if n.kind = 1 then 1 else if n.kind = 4 then acc.getD n.a.toNat 0 * acc.getD n.b.toNat 0 else if n.kind = 5 then acc.getD n.a.toNat 0 + acc.getD n.b.toNat 0
  else if n.kind = 6 then (if 0 < acc.getD n.a.toNat 0 then 2 else 1) else if n.kind = 7 then rpF (acc.getD n.a.toNat 0) n.lo.toNat (n.hi.toNat + 1 - n.lo.toNat) else 0
def waysF (l : List Nd) : Nat → List Int
  | 0 => []
  | k + 1 => waysF l k ++ [min 2 (stepW (waysF l k) (l.getD k Nd.z))]
theorem waysF_len {l : List Nd} : ∀ k, (waysF l k).length = k
  | 0 => rfl
  | k + 1 => by rw [waysF, List.length_append, waysF_len k]; rfl
theorem waysF_stays {l : List Nd} {i : Nat} : ∀ {m : Nat}, i < m → (waysF l m).getD i 0 = (waysF l (i + 1)).getD i 0
  | 0, h => by omega
  | m + 1, h => by
    by_cases e : i = m
    · subst e; rfl
    · rw [waysF, ← waysF_stays (m := m) (by omega), List.getD_eq_getElem?_getD, List.getElem?_append_left (by rw [waysF_len]; omega), List.getD_eq_getElem?_getD]
/-- The ways of the node at a place. -/
def wayAt (l : List Nd) (i : Nat) : Int := (waysF l (i + 1)).getD i 0
theorem wayAt_step {l : List Nd} {i : Nat} : wayAt l i = min 2 (stepW (waysF l i) (l.getD i Nd.z)) := by
  rw [wayAt, waysF, List.getD_eq_getElem?_getD, List.getElem?_append_right (by rw [waysF_len]; omega), waysF_len, Nat.sub_self]
  rfl
theorem ways_bd {txt : ByteArray → Prop} : ∀ {t : T}, t.ok txt → 0 ≤ t.ways ∧ t.ways ≤ 2
  | .void, _ => by simp [T.ways]
  | .bytes .., _ => by simp [T.ways]
  | .text _, _ => by simp [T.ways]
  | .two k a b, h => by
    have h1 := ways_bd h.2.1
    have h2 := ways_bd h.2.2
    have := Int.mul_nonneg h1.1 h2.1
    simp only [T.ways]
    split <;> omega
  | .one k lo hi a, h => by
    have h1 := ways_bd h.2
    simp only [T.ways]
    split
    · split <;> omega
    · split
      · exact rpF_bd h1.1 h1.2 _
      · omega
theorem wayAt_tree {l : List Nd} {txt : ByteArray → Prop} : ∀ (t : T) {off : Nat}, Sits l off t → t.ok txt → wayAt l (off + (t.n - 1)) = t.ways := by
  intro t
  induction t with
  | void | bytes | text =>
    intro off hs hok
    rw [wayAt_step, hs.getD]
    simp [T.root, stepW, T.ways] <;> omega
  | two k a b iha ihb =>
    intro off hs hok
    have ha := iha hs.two1 hok.2.1
    have hb := ihb hs.two2 hok.2.2
    have pa := a.n_pos
    have pb := b.n_pos
    have wa := ways_bd hok.2.1
    have wb := ways_bd hok.2.2
    have e1 : (waysF l (off + ((T.two k a b).n - 1))).getD (off + (a.n - 1)) 0 = a.ways := by
      rw [waysF_stays (by simp only [T.n]; omega)]; exact ha
    have e2 : (waysF l (off + ((T.two k a b).n - 1))).getD (off + a.n + (b.n - 1)) 0 = b.ways := by
      rw [waysF_stays (by simp only [T.n]; omega)]; exact hb
    rw [wayAt_step, hs.getD]
    simp only [T.root, stepW, Int.toNat_natCast, e1, e2, T.ways]
    rcases hok.1 with rfl | rfl
    · simp
    · simp
  | one k lo hi a iha =>
    intro off hs hok
    have ha := iha hs.one1 hok.2
    have pa := a.n_pos
    have wa := ways_bd hok.2
    have e1 : (waysF l (off + ((T.one k lo hi a).n - 1))).getD (off + (a.n - 1)) 0 = a.ways := by
      rw [waysF_stays (by simp only [T.n]; omega)]; exact ha
    rw [wayAt_step, hs.getD]
    simp only [T.root, stepW, Int.toNat_natCast, e1, T.ways]
    rcases hok.1 with ⟨rfl | rfl | rfl, rfl, rfl⟩ | ⟨rfl, h⟩
    · simp; split <;> omega
    · simp; omega
    · simp; omega
    · have := rpF_bd wa.1 wa.2 (lo := lo.toNat) (hi.toNat + 1 - lo.toNat)
      simp
      omega
end Go.Proofs.Ytpibdbjlilpfiaa
