/- count: the document's rows are right (plain). -/
import Derived.Test.YtpibdbjlilpfiaaCntN
namespace Go.Proofs.Ytpibdbjlilpfiaa
set_option linter.all false
open Go

theorem gath_cnt {F : Vl → Option (List UInt8)} : ∀ {l : List Vl} {p : List UInt8}, gath F true l = some p → l.length ≤ p.length
  | [], _, _ => Nat.zero_le _
  | x :: r, p, h => by
    obtain ⟨m, h1, h2, _, h4⟩ := gath_cons.1 h
    have := gath_cnt h4
    rw [List.length_drop] at this
    rw [List.length_cons]
    omega
section
variable {w : List UInt8} {F : Vl → Option (List UInt8)} {E : Nat → List Nat} {f : Nat}
def Kds (F : Vl → Option (List UInt8)) (w : List UInt8) (f i : Nat) (l : List Vl) : Prop := f ≤ i ∧ (∀ x ∈ l, x.Wf) ∧ gath F true l = some (part' w f i)
theorem Kds.uniq {i j : Nat} {l : List Vl} (hi : i ≤ w.length) (hj : j ≤ w.length) (h : Kds F w f i l) (h' : Kds F w f j l) : i = j := by
  have := h.2.2.symm.trans h'.2.2
  injection this with this
  have := congrArg List.length this
  rw [part_len hi, part_len hj] at this
  have := h.1
  have := h'.1
  omega
end
theorem sv_seq {a b : T} {p : List UInt8} {v : Vl} : (∃ m x y, 0 ≤ m ∧ m ≤ p.length ∧ SV a (p.take m) x ∧ SV b (p.drop m) y ∧ v = .mk 4 0 .empty 0 [x, y]) ↔ SV (.two 4 a b) p v := by
  unfold SV
  rw [T.wr, if_pos rfl]
  constructor
  · rintro ⟨m, x, y, h1, h2, hx, hy, rfl⟩
    refine ⟨wf_mk (by omega) (by omega) fun z hz => ?_, ?_⟩
    · simp only [List.mem_cons, List.not_mem_nil, or_false] at hz
      rcases hz with rfl | rfl
      · exact hx.1
      · exact hy.1
    · rw [if_pos mk_plain]
      simp only [Vl.kids_mk, hx.2, hy.2, List.take_append_drop]
  · rintro ⟨hwf, h⟩
    split at h
    · rename_i hp
      split at h
      · rename_i x y hk
        split at h
        · rename_i q r hx hy
          cases h
          refine ⟨q.length, x, y, by omega, by simp, ⟨hwf.kid (by rw [hk]; simp), by simpa using hx⟩, ⟨hwf.kid (by rw [hk]; simp), by simpa using hy⟩, ?_⟩
          rw [← hk]
          exact plain_eq hp
        · cases h
      · cases h
    · cases h
theorem sv_or {a b : T} {p : List UInt8} {v : Vl} : ((∃ x, SV a p x ∧ v = .mk 5 0 .empty 0 [x]) ∨ (∃ x, SV b p x ∧ v = .mk 5 0 .empty 1 [x])) ↔ SV (.two 5 a b) p v := by
  unfold SV
  rw [T.wr, if_neg (by decide)]
  constructor
  · rintro (⟨x, hx, rfl⟩ | ⟨x, hx, rfl⟩)
    · refine ⟨wf_mk (by omega) (by omega) fun z hz => by rw [List.mem_singleton.1 hz]; exact hx.1, ?_⟩
      rw [if_pos mk_plain]
      simp only [Vl.kids_mk, hx.2]
    · refine ⟨wf_mk (by omega) (by omega) fun z hz => by rw [List.mem_singleton.1 hz]; exact hx.1, ?_⟩
      rw [if_neg (by simp [Vl.plain, Vl.pick_mk]), if_pos mk_plain]
      simp only [Vl.kids_mk, hx.2]
  · rintro ⟨hwf, h⟩
    split at h
    · rename_i hp
      split at h
      · rename_i x hk
        exact .inl ⟨x, ⟨hwf.kid (by rw [hk]; simp), h⟩, by rw [← hk]; exact plain_eq hp⟩
      · cases h
    · split at h
      · rename_i hp
        split at h
        · rename_i x hk
          exact .inr ⟨x, ⟨hwf.kid (by rw [hk]; simp), h⟩, by rw [← hk]; exact plain_eq hp⟩
        · cases h
      · cases h
theorem sv_many {a : T} {k lo hi : Int} (hk : k = 6 ∨ k = 7) {p : List UInt8} {v : Vl} : SM a.wr k lo hi p v ↔ SV (.one k lo hi a) p v := by
  unfold SM SV
  rw [T.wr]
  constructor
  · rintro ⟨h1, h2, h3, h4⟩
    refine ⟨h1, ?_⟩
    rw [if_pos h2]
    rcases hk with rfl | rfl
    · rw [if_pos rfl]; exact h4
    · rw [if_neg (by decide), if_pos rfl, if_pos (by omega)]; exact h4
  · rintro ⟨h1, h⟩
    split at h
    · rename_i h2
      refine ⟨h1, h2, ?_⟩
      rcases hk with rfl | rfl
      · rw [if_pos rfl] at h; exact ⟨.inl rfl, h⟩
      · rw [if_neg (by decide), if_pos rfl] at h
        split at h
        · rename_i h3; exact ⟨.inr h3, h⟩
        · cases h
    · cases h
end Go.Proofs.Ytpibdbjlilpfiaa
