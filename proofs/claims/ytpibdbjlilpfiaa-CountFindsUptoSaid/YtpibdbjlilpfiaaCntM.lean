/- count: how many, up to two (plain). -/
import Derived.Test.YtpibdbjlilpfiaaCntL
namespace Go.Proofs.Ytpibdbjlilpfiaa
set_option linter.all false
open Go

/-- So many, at most two counted. -/
structure Cn {α : Type} (S : α → Prop) (n : Nat) : Prop where
  le : n ≤ 2
  one : 1 ≤ n ↔ ∃ x, S x
  two : 2 ≤ n ↔ ∃ x y, S x ∧ S y ∧ x ≠ y
section
variable {α β γ : Type} {S S' : α → Prop} {T : β → Prop} {n m : Nat}
theorem Cn.uniq (h : Cn S n) (h' : Cn S m) : n = m := by
  have a1 := h.one.trans h'.one.symm
  have a2 := h.two.trans h'.two.symm
  have := h.le
  have := h'.le
  by_cases b1 : 1 ≤ n
  · have := a1.1 b1
    by_cases b2 : 2 ≤ n
    · have := a2.1 b2; omega
    · have : ¬ 2 ≤ m := fun h => b2 (a2.2 h)
      omega
  · have : ¬ 1 ≤ m := fun h => b1 (a1.2 h)
    omega
theorem Cn.congr (h : Cn S n) (e : ∀ x, S x ↔ S' x) : Cn S' n := ⟨h.le, h.one.trans ⟨fun ⟨x, hx⟩ => ⟨x, (e x).1 hx⟩, fun ⟨x, hx⟩ => ⟨x, (e x).2 hx⟩⟩, h.two.trans ⟨fun ⟨x, y, a, b, c⟩ => ⟨x, y, (e x).1 a, (e y).1 b, c⟩, fun ⟨x, y, a, b, c⟩ => ⟨x, y, (e x).2 a, (e y).2 b, c⟩⟩⟩
theorem Cn.empty (h : ∀ x, ¬ S x) : Cn S 0 := ⟨by omega, ⟨fun h => by omega, fun ⟨x, hx⟩ => absurd hx (h x)⟩, ⟨fun h => by omega, fun ⟨x, y, a, _⟩ => absurd a (h x)⟩⟩
theorem Cn.unit (v : α) (h : ∀ x, S x ↔ x = v) : Cn S 1 := ⟨by omega, ⟨fun _ => ⟨v, (h v).2 rfl⟩, fun _ => Nat.le_refl _⟩, ⟨fun h => by omega, fun ⟨x, y, a, b, c⟩ => absurd (((h x).1 a).trans ((h y).1 b).symm) c⟩⟩
theorem Cn.zero (h : Cn S 0) (x : α) : ¬ S x := fun hx => by have := h.one.2 ⟨x, hx⟩; omega
theorem Cn.map {f : α → β} (hi : ∀ x y, S x → S y → f x = f y → x = y) (h : Cn S n) : Cn (fun z => ∃ x, S x ∧ z = f x) n :=
  ⟨h.le, h.one.trans ⟨fun ⟨x, hx⟩ => ⟨_, x, hx, rfl⟩, fun ⟨_, x, hx, _⟩ => ⟨x, hx⟩⟩, h.two.trans ⟨fun ⟨x, y, a, b, c⟩ => ⟨_, _, ⟨x, a, rfl⟩, ⟨y, b, rfl⟩, fun e => c (hi x y a b e)⟩, fun ⟨_, _, ⟨x, a, e1⟩, ⟨y, b, e2⟩, c⟩ => ⟨x, y, a, b, fun e => c (by rw [e1, e2, e])⟩⟩⟩
theorem Cn.or (h : Cn S n) (h' : Cn S' m) (hd : ∀ x, S x → ¬ S' x) : Cn (fun x => S x ∨ S' x) (min 2 (n + m)) := by
  refine ⟨by omega, ?_, ?_⟩
  · constructor
    · intro hn
      by_cases a : 1 ≤ n
      · obtain ⟨x, hx⟩ := h.one.1 a; exact ⟨x, .inl hx⟩
      · obtain ⟨x, hx⟩ := h'.one.1 (by omega); exact ⟨x, .inr hx⟩
    · rintro ⟨x, hx | hx⟩
      · have := h.one.2 ⟨x, hx⟩; omega
      · have := h'.one.2 ⟨x, hx⟩; omega
  · constructor
    · intro hn
      by_cases a : 2 ≤ n
      · obtain ⟨x, y, a, b, c⟩ := h.two.1 a; exact ⟨x, y, .inl a, .inl b, c⟩
      · by_cases b : 2 ≤ m
        · obtain ⟨x, y, a, b, c⟩ := h'.two.1 b; exact ⟨x, y, .inr a, .inr b, c⟩
        · obtain ⟨x, hx⟩ := h.one.1 (by omega)
          obtain ⟨y, hy⟩ := h'.one.1 (by omega)
          exact ⟨x, y, .inl hx, .inr hy, fun e => hd x hx (e ▸ hy)⟩
    · rintro ⟨x, y, hx, hy, hne⟩
      rcases hx with hx | hx <;> rcases hy with hy | hy
      · have := h.two.2 ⟨x, y, hx, hy, hne⟩; omega
      · have := h.one.2 ⟨x, hx⟩; have := h'.one.2 ⟨y, hy⟩; omega
      · have := h.one.2 ⟨y, hy⟩; have := h'.one.2 ⟨x, hx⟩; omega
      · have := h'.two.2 ⟨x, y, hx, hy, hne⟩; omega
theorem Cn.prod {J : α → β → γ} (hJ : ∀ x x' y y', S x → S x' → T y → T y' → J x y = J x' y' → x = x' ∧ y = y') (h : Cn S n) (h' : Cn T m) : Cn (fun z => ∃ x y, S x ∧ T y ∧ z = J x y) (min 2 (n * m)) := by
  have hn := h.le
  have hm := h'.le
  have hc : (n = 0 ∨ n = 1 ∨ n = 2) ∧ (m = 0 ∨ m = 1 ∨ m = 2) := by omega
  refine ⟨by omega, ?_, ?_⟩
  · constructor
    · intro hh
      have h0 : n ≠ 0 := fun e => by subst e; rw [Nat.zero_mul] at hh; omega
      have h1 : m ≠ 0 := fun e => by subst e; rw [Nat.mul_zero] at hh; omega
      obtain ⟨x, hx⟩ := h.one.1 (by omega)
      obtain ⟨y, hy⟩ := h'.one.1 (by omega)
      exact ⟨_, x, y, hx, hy, rfl⟩
    · rintro ⟨_, x, y, hx, hy, _⟩
      have := h.one.2 ⟨x, hx⟩
      have := h'.one.2 ⟨y, hy⟩
      have := Nat.mul_le_mul ‹1 ≤ n› ‹1 ≤ m›
      omega
  · constructor
    · intro hh
      have h0 : n ≠ 0 := fun e => by subst e; rw [Nat.zero_mul] at hh; omega
      have h1 : m ≠ 0 := fun e => by subst e; rw [Nat.mul_zero] at hh; omega
      by_cases a : 2 ≤ n
      · obtain ⟨x, x', hx, hx', hne⟩ := h.two.1 a
        obtain ⟨y, hy⟩ := h'.one.1 (by omega)
        exact ⟨_, _, ⟨x, y, hx, hy, rfl⟩, ⟨x', y, hx', hy, rfl⟩, fun e => hne (hJ _ _ _ _ hx hx' hy hy e).1⟩
      · have e1 : n = 1 := by omega
        subst e1
        obtain ⟨x, hx⟩ := h.one.1 (by omega)
        obtain ⟨y, y', hy, hy', hne⟩ := h'.two.1 (by omega)
        exact ⟨_, _, ⟨x, y, hx, hy, rfl⟩, ⟨x, y', hx, hy', rfl⟩, fun e => hne (hJ _ _ _ _ hx hx hy hy' e).2⟩
    · rintro ⟨_, _, ⟨x, y, hx, hy, rfl⟩, ⟨x', y', hx', hy', rfl⟩, hne⟩
      have a1 := h.one.2 ⟨x, hx⟩
      have a2 := h'.one.2 ⟨y, hy⟩
      by_cases e : x = x'
      · have := h'.two.2 ⟨y, y', hy, hy', fun e' => hne (by rw [e, e'])⟩
        have := Nat.mul_le_mul a1 this
        omega
      · have := h.two.2 ⟨x, x', hx, hx', e⟩
        have := Nat.mul_le_mul this a2
        omega
end
theorem Full.cn {l : List Vl} {S : Vl → Prop} (h : Full l S) : Cn S l.length := by
  refine ⟨h.len, ⟨fun hl => ?_, fun ⟨x, hx⟩ => ?_⟩, ⟨fun hl => ?_, fun ⟨x, y, hx, hy, hne⟩ => ?_⟩⟩
  · match l, hl with
    | x :: r, _ => exact ⟨x, h.mem x List.mem_cons_self⟩
  · obtain ⟨u, hu⟩ := h.ne hx
    cases l with
    | nil => cases hu
    | cons => simp
  · obtain ⟨u, v, hu, hv, hne⟩ := two_of h.nd hl
    exact ⟨u, v, h.mem u hu, h.mem v hv, hne⟩
  · refine Nat.le_of_not_lt fun hl => ?_
    have := two_mem (h.all hl x hx) (h.all hl y hy) hne
    omega
theorem fnd_cn {t : T} (hok : t.ok txtOk) (p : List UInt8) : Cn (SV t p) (t.fnd p).length := (fnd_full t hok p).cn
end Go.Proofs.Ytpibdbjlilpfiaa
