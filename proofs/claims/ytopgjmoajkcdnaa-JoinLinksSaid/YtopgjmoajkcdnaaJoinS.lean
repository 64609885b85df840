/- Pairs of numbers in one. -/
import Derived.Test.YtopgjmoajkcdnaaJoinR
namespace Go.Proofs.Ytopgjmoajkcdnaa
set_option linter.all false
open Go Go.RowKit

def prA (m : Nat) (x : Int) : Nat := x.toNat / 256 % m
def prB (m : Nat) (x : Int) : Nat := x.toNat % 256 % m
theorem wrap16 {z : Int} (h1 : 0 ≤ z) (h2 : z ≤ 65535) : IntKind.u16.wrap z = z := by
  simp only [IntKind.wrap, IntKind.bits, IntKind.signed]
  simp
  omega
theorem prA_lt {m : Nat} {x : Int} (hm : 0 < m) : prA m x < m := Nat.mod_lt _ hm
theorem prB_lt {m : Nat} {x : Int} (hm : 0 < m) : prB m x < m := Nat.mod_lt _ hm
theorem run_prA {m : Nat} {x : Int} (h0 : 0 ≤ x) (h1 : x ≤ 65535) (hm : 0 < m) (hm' : m ≤ 1000) : (IntKind.i64.wrap (IntKind.u16.wrap (x.tdiv 256))).tmod (m : Int) = (prA m x : Nat) := by
  obtain ⟨n, rfl⟩ := Int.eq_ofNat_of_zero_le h0
  have e : ((n : Int).tdiv 256) = ((n / 256 : Nat) : Int) := by rw [show (256 : Int) = ((256 : Nat) : Int) from rfl, Int.ofNat_tdiv]
  rw [e, wrap16 (by omega) (by omega), wrap64 (by omega) (by omega), ← Int.ofNat_tmod]
  rfl
theorem run_prB {m : Nat} {x : Int} (h0 : 0 ≤ x) (h1 : x ≤ 65535) (hm : 0 < m) (hm' : m ≤ 1000) : (IntKind.i64.wrap (x.tmod 256)).tmod (m : Int) = (prB m x : Nat) := by
  obtain ⟨n, rfl⟩ := Int.eq_ofNat_of_zero_le h0
  have e : ((n : Int).tmod 256) = ((n % 256 : Nat) : Int) := by rw [show (256 : Int) = ((256 : Nat) : Int) from rfl, Int.ofNat_tmod]
  have : n % 256 < 256 := Nat.mod_lt _ (by omega)
  rw [e, wrap64 (by omega) (by omega), ← Int.ofNat_tmod]
  rfl

theorem many_of {n : Int} {q : Nat} (h0 : 0 ≤ n) (h1 : n ≤ 255) (hq : 0 < q) (hq' : q ≤ 100) : ∃ m : Nat, 0 < m ∧ m ≤ q ∧ IntKind.i64.wrap (1 + IntKind.i64.wrap (n.tmod (q : Int))) = (m : Int) := by
  obtain ⟨k, rfl⟩ := Int.eq_ofNat_of_zero_le h0
  have := Nat.mod_lt k hq
  rw [← Int.ofNat_tmod, wrap64 (z := ((k % q : Nat) : Int)) (by omega) (by omega), wrap64 (by omega) (by omega)]
  exact ⟨1 + k % q, by omega, by omega, by omega⟩
/-- The pairs ahead of a place, as they stand, and from another one on, turned. -/
def EF (m : Nat) (ps : List Int) (p : Nat) (i k : Nat) : Prop := ∃ j, j < p ∧ i = prA m (ps.getD j 0) ∧ k = prB m (ps.getD j 0)
def EG (m t : Nat) (ps : List Int) (p : Nat) (i k : Nat) : Prop := ∃ j, j < p ∧ i = prB m (ps.getD ((j + t) % ps.length) 0) ∧ k = prA m (ps.getD ((j + t) % ps.length) 0)
theorem EF_succ {m : Nat} {ps : List Int} {p : Nat} : (fun i k => EF m ps p i k ∨ i = prA m (ps.getD p 0) ∧ k = prB m (ps.getD p 0)) = EF m ps (p + 1) := by
  funext i k
  refine propext ⟨?_, ?_⟩
  · rintro (⟨j, h1, h2⟩ | h)
    · exact ⟨j, by omega, h2⟩
    · exact ⟨p, by omega, h⟩
  · rintro ⟨j, h1, h2⟩
    by_cases e : j = p
    · subst e; exact .inr h2
    · exact .inl ⟨j, by omega, h2⟩
theorem EG_succ {m t : Nat} {ps : List Int} {p : Nat} : (fun i k => EG m t ps p i k ∨ i = prB m (ps.getD ((p + t) % ps.length) 0) ∧ k = prA m (ps.getD ((p + t) % ps.length) 0)) = EG m t ps (p + 1) := by
  funext i k
  refine propext ⟨?_, ?_⟩
  · rintro (⟨j, h1, h2⟩ | h)
    · exact ⟨j, by omega, h2⟩
    · exact ⟨p, by omega, h⟩
  · rintro ⟨j, h1, h2⟩
    by_cases e : j = p
    · subst e; exact .inr h2
    · exact .inl ⟨j, by omega, h2⟩
theorem EF_zero {m : Nat} {ps : List Int} : EF m ps 0 = fun _ _ => False := by
  funext i k
  exact propext ⟨fun ⟨j, h, _⟩ => by omega, fun h => h.elim⟩
theorem EG_zero {m t : Nat} {ps : List Int} : EG m t ps 0 = fun _ _ => False := by
  funext i k
  exact propext ⟨fun ⟨j, h, _⟩ => by omega, fun h => h.elim⟩
theorem EF_lt {m : Nat} {ps : List Int} {p i k : Nat} (hm : 0 < m) (h : EF m ps p i k) : i < m ∧ k < m := by
  obtain ⟨j, _, rfl, rfl⟩ := h
  exact ⟨prA_lt hm, prB_lt hm⟩
theorem EG_lt {m t : Nat} {ps : List Int} {p i k : Nat} (hm : 0 < m) (h : EG m t ps p i k) : i < m ∧ k < m := by
  obtain ⟨j, _, rfl, rfl⟩ := h
  exact ⟨prB_lt hm, prA_lt hm⟩
/-- All of them link the same numbers, wherever one begins. -/
theorem EF_EG {m t : Nat} {ps : List Int} {i k : Nat} : Conn (EF m ps ps.length) i k ↔ Conn (EG m t ps ps.length) i k := by
  constructor
  · refine Conn.mono fun i k ⟨j, hj, h1, h2⟩ => .symm (.step ?_)
    have hp : 0 < ps.length := by omega
    have ht := Nat.mod_lt t hp
    refine ⟨(j + (ps.length - t % ps.length)) % ps.length, Nat.mod_lt _ hp, ?_⟩
    have e : ((j + (ps.length - t % ps.length)) % ps.length + t) % ps.length = j := by
      rw [Nat.mod_add_mod]
      have e1 : j + (ps.length - t % ps.length) + t = j + ps.length * (1 + t / ps.length) := by
        have := Nat.div_add_mod t ps.length
        rw [Nat.mul_add, Nat.mul_one]
        omega
      rw [e1, Nat.add_mul_mod_self_left, Nat.mod_eq_of_lt hj]
    rw [e]
    exact ⟨h2, h1⟩
  · refine Conn.mono fun i k ⟨j, hj, h1, h2⟩ => .symm (.step ⟨(j + t) % ps.length, Nat.mod_lt _ (by omega), h2, h1⟩)
end Go.Proofs.Ytopgjmoajkcdnaa
