/- In how many ways nothing is read, as plain numbers. -/
import Derived.Test.YtpnipapelnkjbaaDoorSpec
namespace Go.Proofs.YtpnipapelnkjbaaDoor
set_option linter.all false
open Go

def pwF (a : Int) : Nat → Int
  | 0 => 1
  | m + 1 => min 2 (pwF a m * a)
def rpF (a : Int) (lo : Nat) : Nat → Int
  | 0 => 0
  | m + 1 => min 2 (rpF a lo m + pwF a (lo + m))
theorem pwF_bd {a : Int} (h0 : 0 ≤ a) (h2 : a ≤ 2) : ∀ m, 0 ≤ pwF a m ∧ pwF a m ≤ 2
  | 0 => by simp [pwF]
  | m + 1 => by
    have ih := pwF_bd h0 h2 m
    have := Int.mul_nonneg ih.1 h0
    rw [pwF]
    omega
theorem rpF_bd {a : Int} (h0 : 0 ≤ a) (h2 : a ≤ 2) {lo : Nat} : ∀ m, 0 ≤ rpF a lo m ∧ rpF a lo m ≤ 2
  | 0 => by simp [rpF]
  | m + 1 => by
    have ih := rpF_bd h0 h2 (lo := lo) m
    have := pwF_bd h0 h2 (lo + m)
    rw [rpF]
    omega
def T.ways : T → Int
  | .void => 1
  | .bytes .. => 0
  | .text _ => 0
  | .two k a b => if k = 4 then min 2 (a.ways * b.ways) else min 2 (a.ways + b.ways)
  | .one k lo hi a => if k = 6 then (if 0 < a.ways then 2 else 1) else if k = 7 then rpF a.ways lo.toNat (hi.toNat + 1 - lo.toNat) else 0
/-- One node's, of what is told of those ahead of it. -/
def stepW (acc : List Int) (n : Nd) : Int :=
  if n.kind = 1 then 1 else if n.kind = 4 then acc.getD n.a.toNat 0 * acc.getD n.b.toNat 0 else if n.kind = 5 then acc.getD n.a.toNat 0 + acc.getD n.b.toNat 0
  else if n.kind = 6 then (if 0 < acc.getD n.a.toNat 0 then 2 else 1) else if n.kind = 7 then rpF (acc.getD n.a.toNat 0) n.lo.toNat (n.hi.toNat + 1 - n.lo.toNat) else 0
def waysF (l : List Nd) : Nat → List Int
  | 0 => []
  | k + 1 => waysF l k ++ [min 2 (stepW (waysF l k) (l.getD k Nd.z))]
theorem waysF_len {l : List Nd} : ∀ k, (waysF l k).length = k
  | 0 => rfl
  | k + 1 => by rw [waysF, List.length_append, waysF_len k]; rfl
theorem waysF_stays {l : List Nd} {i : Nat} : ∀ {m : Nat}, i < m → (waysF l m).getD i 0 = (waysF l (i + 1)).getD i 0
  | 0, h => by omega
  | m + 1, h => by
    by_cases e : i = m
    · subst e; rfl
    · rw [waysF, ← waysF_stays (m := m) (by omega), List.getD_eq_getElem?_getD, List.getElem?_append_left (by rw [waysF_len]; omega), List.getD_eq_getElem?_getD]
/-- The ways of the node at a place. -/
def wayAt (l : List Nd) (i : Nat) : Int := (waysF l (i + 1)).getD i 0
theorem wayAt_step {l : List Nd} {i : Nat} : wayAt l i = min 2 (stepW (waysF l i) (l.getD i Nd.z)) := by
  rw [wayAt, waysF, List.getD_eq_getElem?_getD, List.getElem?_append_right (by rw [waysF_len]; omega), waysF_len, Nat.sub_self]
  rfl
theorem ways_bd {txt : ByteArray → Prop} : ∀ {t : T}, t.ok txt → 0 ≤ t.ways ∧ t.ways ≤ 2
  | .void, _ => by simp [T.ways]
  | .bytes .., _ => by simp [T.ways]
  | .text _, _ => by simp [T.ways]
  | .two k a b, h => by
    have h1 := ways_bd h.2.1
    have h2 := ways_bd h.2.2
    have := Int.mul_nonneg h1.1 h2.1
    simp only [T.ways]
    split <;> omega
  | .one k lo hi a, h => by
    have h1 := ways_bd h.2
    simp only [T.ways]
    split
    · split <;> omega
    · split
      · exact rpF_bd h1.1 h1.2 _
      · omega
theorem wayAt_tree {l : List Nd} {txt : ByteArray → Prop} : ∀ (t : T) {off : Nat}, Sits l off t → t.ok txt → wayAt l (off + (t.n - 1)) = t.ways := by
  intro t
  induction t with
  | void | bytes | text =>
    intro off hs hok
    rw [wayAt_step, hs.getD]
    simp [T.root, stepW, T.ways] <;> omega
  | two k a b iha ihb =>
    intro off hs hok
    have ha := iha hs.two1 hok.2.1
    have hb := ihb hs.two2 hok.2.2
    have pa := a.n_pos
    have pb := b.n_pos
    have wa := ways_bd hok.2.1
    have wb := ways_bd hok.2.2
    have e1 : (waysF l (off + ((T.two k a b).n - 1))).getD (off + (a.n - 1)) 0 = a.ways := by
      rw [waysF_stays (by simp only [T.n]; omega)]; exact ha
    have e2 : (waysF l (off + ((T.two k a b).n - 1))).getD (off + a.n + (b.n - 1)) 0 = b.ways := by
      rw [waysF_stays (by simp only [T.n]; omega)]; exact hb
    rw [wayAt_step, hs.getD]
    simp only [T.root, stepW, Int.toNat_natCast, e1, e2, T.ways]
    rcases hok.1 with rfl | rfl
    · simp
    · simp
  | one k lo hi a iha =>
    intro off hs hok
    have ha := iha hs.one1 hok.2
    have pa := a.n_pos
    have wa := ways_bd hok.2
    have e1 : (waysF l (off + ((T.one k lo hi a).n - 1))).getD (off + (a.n - 1)) 0 = a.ways := by
      rw [waysF_stays (by simp only [T.n]; omega)]; exact ha
    rw [wayAt_step, hs.getD]
    simp only [T.root, stepW, Int.toNat_natCast, e1, T.ways]
    rcases hok.1 with ⟨rfl | rfl | rfl, rfl, rfl⟩ | ⟨rfl, h⟩
    · simp; split <;> omega
    · simp; omega
    · simp; omega
    · have := rpF_bd wa.1 wa.2 (lo := lo.toNat) (hi.toNat + 1 - lo.toNat)
      simp
      omega
end Go.Proofs.YtpnipapelnkjbaaDoor
