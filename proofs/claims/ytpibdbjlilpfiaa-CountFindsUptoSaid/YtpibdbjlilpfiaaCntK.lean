/- count: what counting finds is what writes the word (plain). -/
import Derived.Test.YtpibdbjlilpfiaaCntH
namespace Go.Proofs.Ytpibdbjlilpfiaa
set_option linter.all false
open Go

/-- Some of these, no two the same; all, if fewer than two. -/
structure Full (l : List Vl) (S : Vl → Prop) : Prop where
  nd : l.Nodup
  len : l.length ≤ 2
  mem : ∀ v ∈ l, S v
  all : l.length < 2 → ∀ v, S v → v ∈ l
theorem Full.congr {l : List Vl} {S S' : Vl → Prop} (h : Full l S) (e : ∀ v, S v ↔ S' v) : Full l S' := ⟨h.nd, h.len, fun v hv => (e v).1 (h.mem v hv), fun hl v hv => h.all hl v ((e v).2 hv)⟩
theorem any_same {l : List Vl} {v : Vl} : l.any (fun u => u.same v) = true ↔ v ∈ l := by
  rw [List.any_eq_true]
  constructor
  · rintro ⟨u, hu, h⟩
    rw [← (u.same_iff v).1 h]
    exact hu
  · intro h
    exact ⟨v, h, v.same_refl⟩
theorem addV_nd {l : List Vl} {v : Vl} (h : l.Nodup) : (addV l v).Nodup := by
  unfold addV
  split
  · exact h
  · split
    · exact h
    · rename_i h2
      rw [any_same] at h2
      rw [List.nodup_append]
      exact ⟨h, by simp, fun x hx y hy => by rw [List.mem_singleton.1 hy]; exact fun e => h2 (e ▸ hx)⟩
theorem addV_pre {l : List Vl} {v u : Vl} (h : u ∈ l) : u ∈ addV l v := by
  unfold addV
  split
  · exact h
  · split
    · exact h
    · exact List.mem_append_left _ h
theorem addV_has {l : List Vl} {v : Vl} (h : (addV l v).length < 2) : v ∈ addV l v := by
  unfold addV at h ⊢
  split
  · rename_i h1; rw [if_pos h1] at h; omega
  · split
    · rename_i h2; exact any_same.1 h2
    · exact List.mem_append_right _ List.mem_cons_self
theorem addV_le {l : List Vl} {v : Vl} : l.length ≤ (addV l v).length := by
  unfold addV
  split
  · exact Nat.le_refl _
  · split
    · exact Nat.le_refl _
    · simp
theorem addsV_nd : ∀ {m l : List Vl}, l.Nodup → (addsV l m).Nodup
  | [], _, h => h
  | v :: m, l, h => addsV_nd (m := m) (addV_nd h)
theorem addsV_pre {u : Vl} : ∀ {m l : List Vl}, u ∈ l → u ∈ addsV l m
  | [], _, h => h
  | v :: m, l, h => addsV_pre (m := m) (addV_pre h)
theorem addsV_le : ∀ {m l : List Vl}, l.length ≤ (addsV l m).length
  | [], _ => Nat.le_refl _
  | v :: m, l => Nat.le_trans addV_le (addsV_le (m := m))
theorem addsV_has {u : Vl} : ∀ {m l : List Vl}, (addsV l m).length < 2 → u ∈ m → u ∈ addsV l m
  | v :: m, l, h, hu => by
    rcases List.mem_cons.1 hu with rfl | hu
    · exact addsV_pre (m := m) (addV_has (Nat.lt_of_le_of_lt (addsV_le (m := m)) h))
    · exact addsV_has (m := m) h hu
theorem two_mem {l : List Vl} {u v : Vl} (hu : u ∈ l) (hv : v ∈ l) (h : u ≠ v) : 2 ≤ l.length := by
  match l, hu, hv with
  | [x], hu, hv => exact absurd ((List.mem_singleton.1 hu).trans (List.mem_singleton.1 hv).symm) h
  | _ :: _ :: _, _, _ => simp
theorem two_of {l : List Vl} (h : l.Nodup) (h2 : 2 ≤ l.length) : ∃ u v, u ∈ l ∧ v ∈ l ∧ u ≠ v := by
  match l, h, h2 with
  | x :: y :: r, h, _ => exact ⟨x, y, by simp, by simp, fun e => by rw [List.nodup_cons] at h; exact h.1 (e ▸ List.mem_cons_self)⟩
theorem Full.ne {l : List Vl} {S : Vl → Prop} (h : Full l S) {v : Vl} (hv : S v) : ∃ u, u ∈ l := by
  by_cases hl : l.length < 2
  · exact ⟨v, h.all hl v hv⟩
  · match l, hl with
    | x :: _, _ => exact ⟨x, List.mem_cons_self⟩
    | [], hl => simp at hl
theorem crossV_full {A B : List UInt8 → List Vl} {SA SB : List UInt8 → Vl → Prop} {J : Vl → Vl → Vl} (hA : ∀ q, Full (A q) (SA q)) {f : Nat} {p : List UInt8} (hB : ∀ m, f ≤ m → m ≤ p.length → Full (B (p.drop m)) (SB (p.drop m)))
    (hJ : ∀ x x' y y' q q', SB q y → SB q' y' → J x y = J x' y' → x = x' ∧ y = y') : Full (crossV A B J f p) (fun v => ∃ m x y, f ≤ m ∧ m ≤ p.length ∧ SA (p.take m) x ∧ SB (p.drop m) y ∧ v = J x y) := by
  refine ⟨addsV_nd (by simp), addsV_len (by simp), fun v hv => ?_, fun hl v ⟨m, x, y, h1, h2, hx, hy, hv⟩ => ?_⟩
  · rcases addsV_mem hv with h | h
    · cases h
    · obtain ⟨m, x, y, h1, h2, hx, hy, rfl⟩ := crossL_mem.1 h
      exact ⟨m, x, y, h1, h2, (hA _).mem x hx, (hB m h1 h2).mem y hy, rfl⟩
  · subst hv
    obtain ⟨x0, hx0⟩ := (hA _).ne hx
    obtain ⟨y0, hy0⟩ := (hB m h1 h2).ne hy
    have has : ∀ x y, x ∈ A (p.take m) → y ∈ B (p.drop m) → J x y ∈ crossV A B J f p := fun x y hx hy => addsV_has hl (crossL_mem.2 ⟨m, x, y, h1, h2, hx, hy, rfl⟩)
    have sB := (hB m h1 h2).mem
    have la : (A (p.take m)).length < 2 := by
      refine Nat.lt_of_not_le fun h => ?_
      obtain ⟨u, v, hu, hv, hne⟩ := two_of (hA _).nd h
      have := two_mem (has u y0 hu hy0) (has v y0 hv hy0) fun e => hne (hJ _ _ _ _ _ _ (sB y0 hy0) (sB y0 hy0) e).1
      omega
    have lb : (B (p.drop m)).length < 2 := by
      refine Nat.lt_of_not_le fun h => ?_
      obtain ⟨u, v, hu, hv, hne⟩ := two_of (hB m h1 h2).nd h
      have := two_mem (has x0 u hx0 hu) (has x0 v hx0 hv) fun e => hne (hJ _ _ _ _ _ _ (sB u hu) (sB v hv) e).2
      omega
    exact has x y ((hA _).all la x hx) ((hB m h1 h2).all lb y hy)
theorem wrapV_full {l : List Vl} {S : Vl → Prop} {k p : Int} (h : Full l S) : Full (wrapV k p l) (fun v => ∃ x, S x ∧ v = .mk k 0 .empty p [x]) := by
  refine ⟨?_, by rw [wrapV_len]; exact h.len, fun v hv => ?_, fun hl v ⟨x, hx, hv⟩ => ?_⟩
  · have hn := h.nd
    clear h
    induction l with
    | nil => simp [wrapV]
    | cons x r ih =>
      rw [List.nodup_cons] at hn
      rw [wrapV, List.map_cons, List.nodup_cons]
      refine ⟨fun hm => ?_, ih hn.2⟩
      obtain ⟨y, hy, e⟩ := List.mem_map.1 hm
      simp only [Vl.mk.injEq, List.cons.injEq, and_true, true_and] at e
      exact hn.1 (e ▸ hy)
  · obtain ⟨x, hx, rfl⟩ := wrapV_mem.1 hv
    exact ⟨x, h.mem x hx, rfl⟩
  · rw [wrapV_len] at hl
    exact wrapV_mem.2 ⟨x, h.all hl x hx, hv⟩
theorem addsV_full2 {l m : List Vl} {S S' : Vl → Prop} (h : Full l S) (h' : Full m S') : Full (addsV l m) (fun v => S v ∨ S' v) := by
  refine ⟨addsV_nd h.nd, addsV_len h.len, fun v hv => (addsV_mem hv).elim (fun h1 => .inl (h.mem v h1)) fun h1 => .inr (h'.mem v h1), fun hl v hv => ?_⟩
  rcases hv with hv | hv
  · exact addsV_pre (h.all (Nat.lt_of_le_of_lt addsV_le hl) v hv)
  · refine addsV_has hl (h'.all ?_ v hv)
    refine Nat.lt_of_not_le fun h2 => ?_
    obtain ⟨x, y, hx, hy, hne⟩ := two_of h'.nd h2
    have := two_mem (addsV_has hl hx) (addsV_has hl hy) hne
    omega
theorem Full.unit {v : Vl} {S : Vl → Prop} (h : ∀ u, S u ↔ u = v) : Full [v] S := ⟨by simp, by simp, fun u hu => (h u).2 (List.mem_singleton.1 hu), fun _ u hu => List.mem_singleton.2 ((h u).1 hu)⟩
theorem Full.nil {S : Vl → Prop} (h : ∀ u, ¬ S u) : Full [] S := ⟨by simp, by simp, fun u hu => (by cases hu), fun _ u hu => absurd hu (h u)⟩
end Go.Proofs.Ytpibdbjlilpfiaa
