/- What parse.Parse says of a row of tokens. -/
import Derived.Test.YtoidlnhgaaohdaaDoorParW
import Derived.Test.YtoidlnhgaaohdaaDoorParK
namespace Go.Proofs.YtoidlnhgaaohdaaDoor
set_option linter.all false
open Go Go.RowKit
open Nat (reduceEqDiff reduceAdd reduceMul reduceSub reduceLeDiff)
open Int (reduceEq reduceLT reduceLE)

/-- It has a fault. -/
def BadAt (l : List Tk) (w a : Int) (j : Nat) : Prop := Rel l .or 0 [] (.bad w a j) ∨ ∃ t ats, Rel l .or 0 [] (.ok t ats j) ∧ (tk l j).k ≠ 10 ∧ w = 7 ∧ a = (tk l j).t
theorem parse_bad {l : List Tk} {w a : Int} {j e : Nat} (h : BadAt l w a j) (hl : l.length ≤ 1000) (hok : ∀ i, tkOk (tk l i)) (he : (tk l e).k = 10) (hel : e < l.length) : PCon Tryd.prog glU 9 [tks l] (pout (.bad w a j)) := by
  rcases h with h | ⟨t, ats, h, h1, rfl, rfl⟩
  · exact c_parse h hl hok he hel
  · have := c_parse h hl hok he hel
    rwa [fin, if_neg h1, halt, if_neg (fun c => absurd c.1 h1)] at this
theorem parse_ok {l : List Tk} {t : T} (h : Par l t) (hl : l.length ≤ 1000) (hok : ∀ i, tkOk (tk l i)) : ∃ ats j, PCon Tryd.prog glU 9 [tks l] (pout (.ok t ats j)) := by
  obtain ⟨ats, j, h1, h2, h3⟩ := h
  have := c_parse h1 hl hok h2 (by omega)
  rw [fin, if_pos h2] at this
  exact ⟨ats, j, this⟩
theorem parse_of {l : List Tk} (h : MayP l) : (∃ t ats, Rel l .or 0 [] (.ok t ats (l.length - 1)) ∧ PCon Tryd.prog glU 9 [tks l] (pout (.ok t ats (l.length - 1)))) ∨ ∃ w a j, j < l.length ∧ BadAt l w a j ∧ PCon Tryd.prog glU 9 [tks l] (pout (.bad w a j)) := by
  have hn := h.len.1
  obtain ⟨r, hr⟩ := (Rel.total h.fin _ 0 rfl (Nat.zero_le _) []).1
  have hw := hr.within h.fin (Nat.zero_le _)
  cases r with
  | bad w a j =>
    have h2 : j ≤ l.length - 1 := hw.2.1
    exact .inr ⟨w, a, j, by omega, .inl hr, parse_bad (.inl hr) (by have := h.len.2; omega) h.ok h.fin (by omega)⟩
  | ok t ats j =>
    have h2 : j ≤ l.length - 1 := hw.2.1
    by_cases hk : (tk l j).k = 10
    · have e := (h.tok j (by omega)).2.2.1.1 hk
      have e2 : j = l.length - 1 := by omega
      subst e2
      have := c_parse hr (by have := h.len.2; omega) h.ok hk (by omega)
      rw [fin, if_pos hk] at this
      exact .inl ⟨t, ats, hr, this⟩
    · have hb : BadAt l 7 (tk l j).t j := .inr ⟨t, ats, hr, hk, rfl, rfl⟩
      exact .inr ⟨_, _, j, by omega, hb, parse_bad hb (by have := h.len.2; omega) h.ok h.fin (by omega)⟩
section
variable {l : List Tk} {w a : Int} {j : Nat}
theorem BadAt.why (h : BadAt l w a j) : (w = 6 ∨ w = 7 ∨ w = 8) ∧ (w = 7 → a = (tk l j).t) := by
  rcases h with h | ⟨t, ats, h, h1, rfl, rfl⟩
  · exact Rel.why h _ _ _ rfl
  · exact ⟨.inr (.inl rfl), fun _ => rfl⟩
theorem BadAt.placed {e : Nat} (h : BadAt l w a j) (he : (tk l e).k = 10) : ∃ m, m ≤ e ∧ a = (tk l m).t := by
  rcases h with h | ⟨t, ats, h, h1, rfl, rfl⟩
  · rcases h.placed he (Nat.zero_le _) _ _ _ rfl with h | h
    · exact h
    · cases h
  · exact ⟨j, (h.within he (Nat.zero_le _)).2.1, rfl⟩
theorem BadAt.agree {l' : List Tk} {e : Nat} (h : BadAt l w a j) (he : (tk l e).k = 10) (hs : ∀ m, m ≤ j → tk l' m = tk l m) : BadAt l' w a j := by
  rcases h with h | ⟨t, ats, h, h1, h2, h3⟩
  · exact .inl (h.agree he (Nat.zero_le _) hs)
  · exact .inr ⟨t, ats, h.agree he (Nat.zero_le _) hs, by rw [hs j (Nat.le_refl _)]; exact h1, h2, by rw [hs j (Nat.le_refl _)]; exact h3⟩
theorem BadAt.deep {e : Nat} (h : BadAt l 8 a j) (hj : j < l.length) : deepF l 0 ≠ none := by
  rcases h with h | ⟨t, ats, h, h1, h2, h3⟩
  · exact h.toodeep hj
  · cases h2
end
section
variable {l : List Tk} {t : T} {ats : List Int} {x y : Tk}
end

end Go.Proofs.YtoidlnhgaaohdaaDoor
