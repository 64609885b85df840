/- scantlinglaw10.SpanForms, SpanTimes. -/
import Derived.Test.YtafacidgajnedaaDoorSpanF
import Derived.Test.YtafacidgajnedaaDoorSpanP
import Derived.Test.YtafacidgajnedaaDoorWaysP
namespace Go.Proofs.YtafacidgajnedaaDoor
set_option linter.all false
open Go Go.RowKit
open Nat (reduceEqDiff reduceAdd reduceMul reduceSub reduceLeDiff)
open Int (reduceEq reduceLT reduceLE)

theorem txt_pos {s : ByteArray} (h : txtOk s) : 0 < s.size := by
  have := h.2
  simp only [textB, Bool.and_eq_true, decide_eq_true_eq] at this
  omega
theorem pwF_pos {a : Int} (h : 0 < a) : ∀ m, 0 < pwF a m
  | 0 => by simp [pwF]
  | m + 1 => by
    have := Int.mul_pos (pwF_pos h m) h
    rw [pwF]; omega
theorem pwF_zero : ∀ m, 0 < m → pwF 0 m = 0
  | 0, h => by omega
  | m + 1, _ => by rw [pwF, Int.mul_zero]; omega
theorem rpF_pos {a : Int} {lo : Nat} (h0 : 0 ≤ a) (h2 : a ≤ 2) (h : 0 < a ∨ lo = 0) : ∀ m, 0 < m → 0 < rpF a lo m
  | 0, hm => by omega
  | m + 1, _ => by
    have hb := rpF_bd h0 h2 (lo := lo) m
    have hw := pwF_bd h0 h2 (lo + m)
    rw [rpF]
    cases m with
    | zero =>
      have : 0 < pwF a lo := by
        rcases h with h | h
        · exact pwF_pos h lo
        · subst h; simp [pwF]
      simp only [Nat.add_zero, rpF]; omega
    | succ m =>
      have := rpF_pos h0 h2 h (m + 1) (by omega)
      omega
theorem rpF_zero {lo : Nat} (h : 0 < lo) : ∀ m, rpF 0 lo m = 0
  | 0 => rfl
  | m + 1 => by rw [rpF, rpF_zero h m, pwF_zero _ (by omega)]; omega
theorem span_zero : ∀ {t : T}, t.ok txtOk → (t.span.1 = 0 ↔ 0 < t.ways)
  | .void, _ => by simp [T.span, T.ways]
  | .bytes c0 c1 c2 c3, _ => by
    simp only [T.span, T.ways]
    split <;> simp [spNo]
  | .text s, h => by
    have := txt_pos h
    simp only [T.span, T.ways]
    omega
  | .two k a b, h => by
    have ia := span_zero h.2.1
    have ib := span_zero h.2.2
    have oa := T.span_ok (fun _ => txtOk_m) h.2.1
    have ob := T.span_ok (fun _ => txtOk_m) h.2.2
    have na := spNo_iff oa
    have nb := spNo_iff ob
    have wa := ways_bd h.2.1
    have wb := ways_bd h.2.2
    simp only [T.span, T.ways]
    rcases h.1 with rfl | rfl
    · simp only [if_true]
      have hm : 0 < min 2 (a.ways * b.ways) ↔ (0 < a.ways ∧ 0 < b.ways) := by
        constructor
        · intro h
          constructor
          · rcases (by omega : a.ways = 0 ∨ 0 < a.ways) with e | e
            · rw [e, Int.zero_mul] at h; omega
            · exact e
          · rcases (by omega : b.ways = 0 ∨ 0 < b.ways) with e | e
            · rw [e, Int.mul_zero] at h; omega
            · exact e
        · rintro ⟨h1, h2⟩
          have := Int.mul_pos h1 h2
          omega
      rw [hm, ← ia, ← ib, spRow]
      split
      · rename_i hn
        have : a.span.1 < 0 ∨ b.span.1 < 0 := hn.imp na.1 nb.1
        simp only [spNo]; omega
      · rename_i hn
        have h1 : ¬ a.span.1 < 0 := fun e => hn (.inl (na.2 e))
        have h2 : ¬ b.span.1 < 0 := fun e => hn (.inr (nb.2 e))
        split <;> simp only [spLow] <;> omega
    · simp only [show ¬ (5 : Int) = 4 by decide, if_false]
      have hm : 0 < min 2 (a.ways + b.ways) ↔ (0 < a.ways ∨ 0 < b.ways) := by omega
      rw [hm, ← ia, ← ib, spOr]
      split
      · rename_i hn
        have := na.1 hn
        omega
      · rename_i hn
        have h1 : ¬ a.span.1 < 0 := fun e => hn (na.2 e)
        split
        · rename_i hn2
          have := nb.1 hn2
          omega
        · rename_i hn2
          have h2 : ¬ b.span.1 < 0 := fun e => hn2 (nb.2 e)
          split <;> simp only [] <;> omega
  | .one k lo hi a, h => by
    have ia := span_zero h.2
    have oa := T.span_ok (fun _ => txtOk_m) h.2
    have na := spNo_iff oa
    have wa := ways_bd h.2
    simp only [T.span, T.ways]
    have hfr : ∀ hd ms : Int, 0 < hd → ¬ (spFrame a.span hd ms).1 = 0 := by
      intro hd ms hh
      rw [spFrame]
      split
      · simp [spNo]
      · rename_i hn
        have h1 : ¬ a.span.1 < 0 := fun e => hn (.inl (na.2 e))
        simp only []
        omega
    rcases h.1 with ⟨rfl | rfl | rfl, rfl, rfl⟩ | ⟨rfl, hk⟩
    · simp only [if_true, spStar]
      split <;> split <;> simp
    · simp [hfr 1 255 (by omega)]
    · simp [hfr 2 65535 (by omega)]
    · simp only [show ¬ (7 : Int) = 6 by decide, if_false, if_true]
      rw [spRep]
      split
      · rename_i hn
        have h1 := na.1 hn.1
        have hz : a.ways = 0 := by omega
        rw [hz, rpF_zero (by omega)]
        simp [spNo]
      · rename_i hn
        split
        · rename_i h2
          have hlo : lo = 0 := by
            rcases h2 with h2 | h2
            · have : ¬ 0 < lo := fun e => hn ⟨h2, e⟩
              omega
            · omega
          have := rpF_pos wa.1 wa.2 (lo := lo.toNat) (.inr (by omega)) (hi.toNat + 1 - lo.toNat) (by omega)
          simp only [true_iff]
          exact this
        · rename_i h2
          have h1 : ¬ a.span.1 < 0 := fun e => h2 (.inl (na.2 e))
          have key : spLow (a.span.1 * lo) = 0 ↔ 0 < rpF a.ways lo.toNat (hi.toNat + 1 - lo.toNat) := by
            simp only [spLow]
            rcases (by omega : lo = 0 ∨ 0 < lo) with e | e
            · have := rpF_pos wa.1 wa.2 (lo := lo.toNat) (.inr (by omega)) (hi.toNat + 1 - lo.toNat) (by omega)
              rw [e, Int.mul_zero]
              rw [e] at this
              omega
            · rcases (by omega : a.span.1 = 0 ∨ 0 < a.span.1) with e2 | e2
              · have := rpF_pos wa.1 wa.2 (lo := lo.toNat) (.inl (ia.1 e2)) (hi.toNat + 1 - lo.toNat) (by omega)
                rw [e2, Int.zero_mul]
                omega
              · have := Int.mul_pos e2 e
                have hz : a.ways = 0 := by omega
                rw [hz, rpF_zero (by omega)]
                omega
          split <;> exact key
end Go.Proofs.YtafacidgajnedaaDoor
