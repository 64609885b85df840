/- What a value writes is as long as the span lets it be. -/
import Derived.Test.YtpibdbjlilpfiaaVal
import Derived.Test.YtpibdbjlilpfiaaSpanP
namespace Go.Proofs.Ytpibdbjlilpfiaa
set_option linter.all false
open Go

theorem gath_span {f : Vl → Option (List UInt8)} {full : Bool} {L H : Int} : ∀ {l : List Vl} {w : List UInt8}, (∀ x ∈ l, ∀ p, f x = some p → L ≤ p.length ∧ (0 ≤ H → (p.length : Int) ≤ H)) → gath f full l = some w → L * l.length ≤ w.length ∧ (0 ≤ H → (w.length : Int) ≤ H * l.length) ∧ (full = true → l.length ≤ w.length) ∧ (l ≠ [] → ∃ x ∈ l, ∃ p, f x = some p)
  | [], w, _, h => by simp [gath] at h; subst h; simp
  | x :: r, w, hb, h => by
    rw [gath] at h
    cases hf : f x with
    | none => rw [hf] at h; cases h
    | some p =>
      rw [hf] at h
      simp only at h
      split at h
      · cases h
      · rename_i hne
        cases hg : gath f full r with
        | none => rw [hg] at h; cases h
        | some q =>
          rw [hg] at h
          injection h with h
          subst h
          obtain ⟨h1, h2⟩ := hb x List.mem_cons_self p hf
          obtain ⟨i1, i2, i3, _⟩ := gath_span (fun y hy => hb y (List.mem_cons_of_mem _ hy)) hg
          simp only [List.length_append, List.length_cons]
          refine ⟨?_, fun hH => ?_, fun hfull => ?_, fun _ => ⟨x, List.mem_cons_self, p, hf⟩⟩
          · have : L * ((r.length + 1 : Nat) : Int) = L * r.length + L := by rw [Int.natCast_add, Int.mul_add]; simp
            rw [this]; omega
          · have : H * ((r.length + 1 : Nat) : Int) = H * r.length + H := by rw [Int.natCast_add, Int.mul_add]; simp
            have := h2 hH
            have := i2 hH
            omega
          · have := i3 hfull
            subst hfull
            have : p ≠ [] := fun e => hne (by rw [e]; rfl)
            have : 0 < p.length := List.length_pos_iff.2 this
            omega
theorem clsHas_zero {b : Int} : clsHas 0 0 0 0 b = false := by
  have : clsWord 0 0 0 0 b = 0 := by simp [clsWord]
  simp [clsHas, this]
theorem spOk2 {s : Sp} (h : SpOk s) : s.2 = -1 ∨ 0 ≤ s.2 := by
  rcases h with rfl | ⟨h1, h2, h3 | h3⟩
  · exact .inl rfl
  · exact .inl h3
  · exact .inr (by omega)
theorem wr_span {txt : ByteArray → Prop} (htx : ∀ s, txt s → s.size ≤ 1099511627776) : ∀ {t : T} {v : Vl} {w : List UInt8}, t.ok txt → t.wr v = some w → 0 ≤ t.span.1 ∧ t.span.1 ≤ w.length ∧ (0 ≤ t.span.2 → (w.length : Int) ≤ t.span.2)
  | .void, v, w, _, h => by
    rw [T.wr.eq_def] at h
    simp only at h
    split at h
    · injection h with h; subst h; simp [T.span]
    · cases h
  | .bytes c0 c1 c2 c3, v, w, _, h => by
    rw [T.wr.eq_def] at h
    simp only at h
    split at h
    · rename_i hc
      injection h with h; subst h
      simp only [Bool.and_eq_true] at hc
      have hn : ¬ (c0 = 0 ∧ c1 = 0 ∧ c2 = 0 ∧ c3 = 0) := by
        rintro ⟨rfl, rfl, rfl, rfl⟩
        rw [clsHas_zero] at hc
        exact absurd hc.2 (by decide)
      simp [T.span, hn]
    · cases h
  | .text s, v, w, _, h => by
    rw [T.wr.eq_def] at h
    simp only at h
    split at h
    · injection h with h; subst h
      have e : s.data.toList.length = s.size := by rw [Array.length_toList]; rfl
      rw [e]
      simp only [T.span]
      omega
    · cases h
  | .two k a b, v, w, hok, h => by
    have oa := T.span_ok htx hok.2.1
    have ob := T.span_ok htx hok.2.2
    have na := spNo_iff oa
    have nb := spNo_iff ob
    have ha2 := spOk2 oa
    have hb2 := spOk2 ob
    rw [T.wr.eq_def] at h
    simp only at h
    rcases hok.1 with rfl | rfl
    · simp only [if_true] at h
      split at h
      · split at h
        · rename_i x y hk
          split at h
          · rename_i p q hp hq
            injection h with h; subst h
            obtain ⟨a1, a2, a3⟩ := wr_span htx hok.2.1 hp
            obtain ⟨b1, b2, b3⟩ := wr_span htx hok.2.2 hq
            have e : T.span (.two 4 a b) = spRow a.span b.span := by simp [T.span]
            rw [e, spRow, if_neg (by rintro (h | h); have := na.1 h; omega; have := nb.1 h; omega), List.length_append]
            split
            · simp only [spLow]; omega
            · simp only [spLow, spHigh]
              refine ⟨by omega, by omega, ?_⟩
              split
              · intro h; omega
              · intro h
                have := a3
                have := b3
                omega
          · cases h
        · cases h
      · cases h
    · simp only [show ¬ ((5 : Int) = 4) by decide, if_false] at h
      have e : T.span (.two 5 a b) = spOr a.span b.span := by simp [T.span]
      rw [e]
      have ka : ∀ {x p}, a.wr x = some p → p = w → 0 ≤ (spOr a.span b.span).1 ∧ (spOr a.span b.span).1 ≤ w.length ∧ (0 ≤ (spOr a.span b.span).2 → (w.length : Int) ≤ (spOr a.span b.span).2) := fun {x p} hp e => by
        subst e
        obtain ⟨a1, a2, a3⟩ := wr_span htx hok.2.1 hp
        rw [spOr, if_neg (fun h => by have := na.1 h; omega)]
        split
        · exact ⟨a1, a2, a3⟩
        · rename_i hb
          have : ¬ b.span.1 < 0 := fun h => hb (nb.2 h)
          split
          · exact ⟨by show 0 ≤ min a.span.1 b.span.1; omega, by show min a.span.1 b.span.1 ≤ _; omega, fun h => absurd h (by show ¬ (0 ≤ (-1 : Int)); omega)⟩
          · rename_i hn
            have h1 : a.span.2 ≠ -1 := fun e => hn (.inl e)
            rcases oa with oa | ⟨_, _, o3 | o3⟩
            · rw [oa] at a1; exact absurd a1 (by decide)
            · exact absurd o3 h1
            · have := a3 (by omega)
              exact ⟨by show 0 ≤ min a.span.1 b.span.1; omega, by show min a.span.1 b.span.1 ≤ _; omega, fun h => by show _ ≤ max a.span.2 b.span.2; omega⟩
      have kb : ∀ {x p}, b.wr x = some p → p = w → 0 ≤ (spOr a.span b.span).1 ∧ (spOr a.span b.span).1 ≤ w.length ∧ (0 ≤ (spOr a.span b.span).2 → (w.length : Int) ≤ (spOr a.span b.span).2) := fun {x p} hp e => by
        subst e
        obtain ⟨b1, b2, b3⟩ := wr_span htx hok.2.2 hp
        rw [spOr]
        split
        · exact ⟨b1, b2, b3⟩
        · rename_i ha
          have : ¬ a.span.1 < 0 := fun h => ha (na.2 h)
          rw [if_neg (fun h => by have := nb.1 h; omega)]
          split
          · exact ⟨by show 0 ≤ min a.span.1 b.span.1; omega, by show min a.span.1 b.span.1 ≤ _; omega, fun h => absurd h (by show ¬ (0 ≤ (-1 : Int)); omega)⟩
          · rename_i hn
            have h1 : b.span.2 ≠ -1 := fun e => hn (.inr e)
            rcases ob with ob | ⟨_, _, o3 | o3⟩
            · rw [ob] at b1; exact absurd b1 (by decide)
            · exact absurd o3 h1
            · have := b3 (by omega)
              exact ⟨by show 0 ≤ min a.span.1 b.span.1; omega, by show min a.span.1 b.span.1 ≤ _; omega, fun h => by show _ ≤ max a.span.2 b.span.2; omega⟩
      split at h
      · split at h
        · exact ka h rfl
        · cases h
      · split at h
        · split at h
          · exact kb h rfl
          · cases h
        · cases h
  | .one k lo hi a, v, w, hok, h => by
    have oa := T.span_ok htx hok.2
    have na := spNo_iff oa
    have ha2 := spOk2 oa
    have hsub : ∀ x p, a.wr x = some p → 0 ≤ a.span.1 ∧ a.span.1 ≤ p.length ∧ (0 ≤ a.span.2 → (p.length : Int) ≤ a.span.2) := fun x p hp => wr_span htx hok.2 hp
    rw [T.wr.eq_def] at h
    simp only at h
    split at h
    · rcases hok.1 with ⟨rfl | hk89, _, _⟩ | ⟨rfl, h0, h1, h2⟩
      · simp only [if_true] at h
        have e : T.span (.one 6 lo hi a) = spStar a.span := by simp [T.span]
        rw [e, spStar]
        obtain ⟨g1, g2, g3, g4⟩ := gath_span (L := a.span.1) (H := a.span.2) (fun x _ p hp => (hsub x p hp).2) h
        split
        · rename_i hno
          refine ⟨by decide, by omega, fun _ => ?_⟩
          rcases hno with hno | hno
          · by_cases hk : v.kids = []
            · rw [hk] at h
              simp [gath] at h
              subst h
              simp
            · obtain ⟨x, _, p, hp⟩ := g4 hk
              have := (hsub x p hp).1
              have := na.1 hno
              omega
          · have := g2 (by omega)
            rw [hno, Int.zero_mul] at this
            show (w.length : Int) ≤ 0
            omega
        · exact ⟨by decide, by omega, fun h => absurd h (by decide)⟩
      · rcases hk89 with rfl | rfl
        all_goals
          simp only [show ¬ ((8 : Int) = 6) by decide, show ¬ ((8 : Int) = 7) by decide, show ¬ ((9 : Int) = 6) by decide, show ¬ ((9 : Int) = 7) by decide, show ¬ ((9 : Int) = 8) by decide, if_false, if_true] at h
          split at h
          · rename_i x hx
            split at h
            · rename_i p hp
              obtain ⟨a1, a2, a3⟩ := hsub x p hp
              split at h
              · injection h with h; subst h
                first
                  | (have e : T.span (.one 8 lo hi a) = spFrame a.span 1 255 := by simp [T.span]
                     rw [e, spFrame, if_neg (by rintro (h | h); have := na.1 h; omega; omega)]
                     simp only [List.length_cons]
                     refine ⟨by omega, by omega, fun _ => ?_⟩
                     split <;> omega)
                  | (have e : T.span (.one 9 lo hi a) = spFrame a.span 2 65535 := by simp [T.span]
                     rw [e, spFrame, if_neg (by rintro (h | h); have := na.1 h; omega; omega)]
                     simp only [List.length_cons]
                     refine ⟨by omega, by omega, fun _ => ?_⟩
                     split <;> omega)
              · cases h
            · cases h
          · cases h
      · simp only [show ¬ ((7 : Int) = 6) by decide, if_false, if_true] at h
        split at h
        · rename_i hk
          have e : T.span (.one 7 lo hi a) = spRep a.span lo hi := by simp [T.span]
          rw [e, spRep]
          obtain ⟨g1, g2, g3, g4⟩ := gath_span (L := a.span.1) (H := a.span.2) (fun x _ p hp => (hsub x p hp).2) h
          have g3' := g3 rfl
          have hex : v.kids ≠ [] → 0 ≤ a.span.1 := fun hne => by
            obtain ⟨x, _, p, hp⟩ := g4 hne
            exact (hsub x p hp).1
          have hlen : v.kids = [] → w = [] := fun he => by rw [he] at h; simp [gath] at h; first | exact h | exact h.symm
          split
          · rename_i hno
            have hne : v.kids ≠ [] := fun e => by rw [e] at hk; simp at hk; omega
            have := hex hne
            have := na.1 hno.1
            omega
          · split
            · rename_i hz
              have hnil : v.kids = [] := by
                rcases hz with hz | hz
                · by_cases hne : v.kids = []
                  · exact hne
                  · have := hex hne
                    have := na.1 hz
                    omega
                · exact List.eq_nil_of_length_eq_zero (by omega)
              rw [hlen hnil]
              simp
            · rename_i hz
              have hpos : 0 ≤ a.span.1 := by
                have : ¬ a.span.1 < 0 := fun e => hz (.inl (na.2 e))
                omega
              have m1 : a.span.1 * lo ≤ a.span.1 * v.kids.length := Int.mul_le_mul_of_nonneg_left hk.1 hpos
              have m0 : 0 ≤ a.span.1 * lo := Int.mul_nonneg hpos h0
              split
              · refine ⟨?_, ?_, fun h => absurd h (by show ¬ (0 ≤ (-1 : Int)); decide)⟩
                · show 0 ≤ min (a.span.1 * lo) 1099511627776; omega
                · show min (a.span.1 * lo) 1099511627776 ≤ _; omega
              · rename_i hb
                refine ⟨?_, ?_, ?_⟩
                · show 0 ≤ min (a.span.1 * lo) 1099511627776; omega
                · show min (a.span.1 * lo) 1099511627776 ≤ _; omega
                · show 0 ≤ spHigh (a.span.2 * hi) → _ ≤ spHigh (a.span.2 * hi)
                  have hn : 0 ≤ a.span.2 := by
                    rcases oa with oa | ⟨_, _, o3 | o3⟩
                    · exact absurd oa (fun e => hz (.inl e))
                    · exact absurd o3 hb
                    · omega
                  have m2 : a.span.2 * v.kids.length ≤ a.span.2 * hi := Int.mul_le_mul_of_nonneg_left hk.2 hn
                  have := g2 hn
                  rw [spHigh]
                  split
                  · intro h; omega
                  · intro _; omega
        · cases h
    · cases h
end Go.Proofs.Ytpibdbjlilpfiaa
