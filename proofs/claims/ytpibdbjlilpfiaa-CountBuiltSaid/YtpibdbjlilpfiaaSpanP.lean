/- How long words are, as plain numbers. -/
import Derived.Test.YtpibdbjlilpfiaaSpec
namespace Go.Proofs.Ytpibdbjlilpfiaa
set_option linter.all false
open Go

/-- A least and a greatest length; (-1, -1): of nothing; the second one -1: no bound. -/
abbrev Sp := Int × Int
def spNo : Sp := (-1, -1)
def spMax : Int := 1099511627776
def spLow (n : Int) : Int := min n 1099511627776
def spHigh (n : Int) : Int := if 1099511627776 < n then -1 else n
def spRow (a b : Sp) : Sp := if a = spNo ∨ b = spNo then spNo else if a.2 = -1 ∨ b.2 = -1 then (spLow (a.1 + b.1), -1) else (spLow (a.1 + b.1), spHigh (a.2 + b.2))
def spOr (a b : Sp) : Sp := if a = spNo then b else if b = spNo then a else if a.2 = -1 ∨ b.2 = -1 then (min a.1 b.1, -1) else (min a.1 b.1, max a.2 b.2)
def spRep (a : Sp) (lo hi : Int) : Sp := if a = spNo ∧ 0 < lo then spNo else if a = spNo ∨ hi = 0 then (0, 0) else if a.2 = -1 then (spLow (a.1 * lo), -1) else (spLow (a.1 * lo), spHigh (a.2 * hi))
def spStar (a : Sp) : Sp := if a = spNo ∨ a.2 = 0 then (0, 0) else (0, -1)
def spFrame (a : Sp) (head most : Int) : Sp := if a = spNo ∨ most < a.1 then spNo else (a.1 + head, (if a.2 = -1 ∨ most < a.2 then most else a.2) + head)
def T.span : T → Sp
  | .void => (0, 0)
  | .bytes c0 c1 c2 c3 => if c0 = 0 ∧ c1 = 0 ∧ c2 = 0 ∧ c3 = 0 then spNo else (1, 1)
  | .text s => ((s.size : Int), (s.size : Int))
  | .two k a b => if k = 4 then spRow a.span b.span else spOr a.span b.span
  | .one k lo hi a => if k = 6 then spStar a.span else if k = 7 then spRep a.span lo hi else if k = 8 then spFrame a.span 1 255 else spFrame a.span 2 65535
/-- What a span may be. -/
def SpOk (s : Sp) : Prop := s = spNo ∨ (0 ≤ s.1 ∧ s.1 ≤ 1099511627776 ∧ (s.2 = -1 ∨ s.1 ≤ s.2 ∧ s.2 ≤ 1099511627776))
theorem spNo_iff {a : Sp} (h : SpOk a) : a = spNo ↔ a.1 < 0 := by
  rcases h with rfl | h
  · simp [spNo]
  · constructor
    · rintro rfl; simp [spNo] at h
    · intro h2; omega
theorem spRow_ok {a b : Sp} (ha : SpOk a) (hb : SpOk b) : SpOk (spRow a b) := by
  unfold spRow
  split
  · exact .inl rfl
  · rename_i h
    have h1 : a ≠ spNo := fun e => h (.inl e)
    have h2 : b ≠ spNo := fun e => h (.inr e)
    rcases ha with ha | ha
    · exact absurd ha h1
    · rcases hb with hb | hb
      · exact absurd hb h2
      · split
        · refine .inr ⟨?_, ?_, .inl rfl⟩ <;> simp only [spLow] <;> omega
        · refine .inr ⟨?_, ?_, ?_⟩
          · simp only [spLow]; omega
          · simp only [spLow]; omega
          · simp only [spLow, spHigh]
            split
            · exact .inl rfl
            · right; omega
theorem spOr_ok {a b : Sp} (ha : SpOk a) (hb : SpOk b) : SpOk (spOr a b) := by
  unfold spOr
  split
  · exact hb
  · split
    · exact ha
    · rename_i h1 h2
      rcases ha with ha | ha
      · exact absurd ha h1
      · rcases hb with hb | hb
        · exact absurd hb h2
        · split
          · exact .inr ⟨by show 0 ≤ min a.1 b.1; omega, by show min a.1 b.1 ≤ _; omega, .inl rfl⟩
          · exact .inr ⟨by show 0 ≤ min a.1 b.1; omega, by show min a.1 b.1 ≤ _; omega, .inr ⟨by show min a.1 b.1 ≤ max a.2 b.2; omega, by show max a.2 b.2 ≤ _; omega⟩⟩
theorem spStar_ok {a : Sp} : SpOk (spStar a) := by
  unfold spStar
  split
  · exact .inr ⟨by decide, by decide, .inr ⟨by decide, by decide⟩⟩
  · exact .inr ⟨by decide, by decide, .inl rfl⟩
theorem spRep_ok {a : Sp} {lo hi : Int} (ha : SpOk a) (h0 : 0 ≤ lo) (h1 : lo ≤ hi) : SpOk (spRep a lo hi) := by
  unfold spRep
  split
  · exact .inl rfl
  · split
    · exact .inr ⟨by decide, by decide, .inr ⟨by decide, by decide⟩⟩
    · rename_i h2 h3
      have hn : a ≠ spNo := fun e => h3 (.inl e)
      rcases ha with ha | ⟨b1, b2, b3⟩
      · exact absurd ha hn
      · have p1 : 0 ≤ a.1 * lo := Int.mul_nonneg b1 h0
        split
        · refine .inr ⟨?_, ?_, .inl rfl⟩ <;> simp only [spLow] <;> omega
        · rename_i h4
          have h5 : a.1 ≤ a.2 := by omega
          have p2 : a.1 * lo ≤ a.2 * hi := Int.mul_le_mul h5 h1 h0 (by omega)
          refine .inr ⟨?_, ?_, ?_⟩
          · simp only [spLow]; omega
          · simp only [spLow]; omega
          · simp only [spLow, spHigh]
            split
            · exact .inl rfl
            · right; omega
theorem spFrame_ok {a : Sp} {head most : Int} (ha : SpOk a) (h0 : 0 ≤ head) (h1 : head ≤ 10) (hm : 0 ≤ most) (hm' : most ≤ 100000) : SpOk (spFrame a head most) := by
  unfold spFrame
  split
  · exact .inl rfl
  · rename_i h
    have hn : a ≠ spNo := fun e => h (.inl e)
    have hl : ¬ most < a.1 := fun e => h (.inr e)
    rcases ha with ha | ⟨b1, b2, b3⟩
    · exact absurd ha hn
    · refine .inr ⟨by show 0 ≤ a.1 + head; omega, by show a.1 + head ≤ _; omega, .inr ⟨?_, ?_⟩⟩
      · show a.1 + head ≤ (if a.2 = -1 ∨ most < a.2 then most else a.2) + head
        split <;> omega
      · show (if a.2 = -1 ∨ most < a.2 then most else a.2) + head ≤ _
        split <;> omega
theorem T.span_ok {txt : ByteArray → Prop} (htx : ∀ s, txt s → s.size ≤ 1099511627776) : ∀ {t : T}, t.ok txt → SpOk t.span
  | .void, _ => .inr ⟨by decide, by decide, .inr ⟨by decide, by decide⟩⟩
  | .bytes c0 c1 c2 c3, _ => by
    simp only [T.span]
    split
    · exact .inl rfl
    · exact .inr ⟨by decide, by decide, .inr ⟨by decide, by decide⟩⟩
  | .text s, h => by
    have := htx s h
    exact .inr ⟨by show (0 : Int) ≤ s.size; omega, by show (s.size : Int) ≤ _; omega, .inr ⟨Int.le_refl _, by show (s.size : Int) ≤ _; omega⟩⟩
  | .two k a b, h => by
    have h1 := T.span_ok htx h.2.1
    have h2 := T.span_ok htx h.2.2
    simp only [T.span]
    split
    · exact spRow_ok h1 h2
    · exact spOr_ok h1 h2
  | .one k lo hi a, h => by
    have h1 := T.span_ok htx h.2
    simp only [T.span]
    split
    · exact spStar_ok
    · split
      · rename_i hk
        rcases h.1 with ⟨h2, _⟩ | h2
        · omega
        · exact spRep_ok h1 h2.2.1 h2.2.2.1
      · split
        · exact spFrame_ok h1 (by omega) (by omega) (by omega) (by omega)
        · exact spFrame_ok h1 (by omega) (by omega) (by omega) (by omega)
end Go.Proofs.Ytpibdbjlilpfiaa
