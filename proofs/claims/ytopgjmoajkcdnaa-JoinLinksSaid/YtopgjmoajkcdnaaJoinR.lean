/- Linked numbers. -/
import Derived.Test.YtopgjmoajkcdnaaJoinF
namespace Go.Proofs.Ytopgjmoajkcdnaa
set_option linter.all false
open Go Go.RowKit

theorem nodup_len : ∀ {l m : List Nat}, l.Nodup → (∀ x ∈ l, x ∈ m) → l.length ≤ m.length
  | [], m, _, _ => by simp
  | x :: r, m, hn, hs => by
    rw [List.nodup_cons] at hn
    have hx := hs x List.mem_cons_self
    have ih := nodup_len (m := m.erase x) hn.2 fun y hy => by
      have : y ≠ x := fun e => hn.1 (e ▸ hy)
      exact (List.mem_erase_of_ne this).2 (hs y (List.mem_cons_of_mem _ hy))
    rw [List.length_erase_of_mem hx] at ih
    have := List.length_pos_of_mem hx
    simp only [List.length_cons]
    omega

/-- The roots, as a list. -/
def rootsL (u : List Int) (m : Nat) : List Nat := (List.range m).filter fun i => decide ((i : Int) = u.getD i 0)
theorem rootsF_len {u : List Int} : ∀ m, rootsF u m = ((rootsL u m).length : Nat)
  | 0 => rfl
  | m + 1 => by
    rw [rootsF, rootsF_len m, rootsL, rootsL, List.range_succ, List.filter_append, List.length_append]
    by_cases h : (m : Int) = u.getD m 0
    · rw [if_pos h, List.filter_cons_of_pos (by simpa using h)]; simp
    · rw [if_neg h, List.filter_cons_of_neg (by simpa using h)]; simp
theorem mem_rootsL {u : List Int} {m i : Nat} : i ∈ rootsL u m ↔ i < m ∧ u.getD i 0 = i := by
  simp only [rootsL, List.mem_filter, List.mem_range, decide_eq_true_eq]
  constructor
  · rintro ⟨h1, h2⟩; exact ⟨h1, h2.symm⟩
  · rintro ⟨h1, h2⟩; exact ⟨h1, h2.symm⟩
theorem roots_le {u v : List Int} (hu : okF u) (hv : okF v) (hl : u.length = v.length) (h : ∀ i k, i < u.length → k < u.length → root v i = root v k → root u i = root u k) : rootsF u u.length ≤ rootsF v v.length := by
  rw [rootsF_len, rootsF_len]
  have hnd : (rootsL u u.length).Nodup := List.Pairwise.filter _ List.nodup_range
  have hinj : ∀ x ∈ rootsL u u.length, ∀ y ∈ rootsL u u.length, root v x = root v y → x = y := fun x hx y hy e => by
    rw [mem_rootsL] at hx hy
    have := h x y hx.1 hy.1 e
    rwa [root_self hu hx.2, root_self hu hy.2] at this
  have hmap : ((rootsL u u.length).map (root v)).Nodup := by
    rw [List.nodup_iff_pairwise_ne] at hnd ⊢
    rw [List.pairwise_map]
    exact List.Pairwise.imp_of_mem (fun hx hy hne e => hne (hinj _ hx _ hy e)) hnd
  have := nodup_len (m := rootsL v v.length) hmap fun x hx => by
    obtain ⟨y, hy, rfl⟩ := List.mem_map.1 hx
    rw [mem_rootsL] at hy ⊢
    exact ⟨root_lt hv.1 (by omega), root_root hv (by omega)⟩
  rw [List.length_map] at this
  omega

inductive Conn (E : Nat → Nat → Prop) : Nat → Nat → Prop
  | refl (i : Nat) : Conn E i i
  | step {i k : Nat} (h : E i k) : Conn E i k
  | symm {i k : Nat} (h : Conn E i k) : Conn E k i
  | trans {i j k : Nat} (h : Conn E i j) (h' : Conn E j k) : Conn E i k
theorem Conn.mono {E F : Nat → Nat → Prop} (h : ∀ i k, E i k → Conn F i k) {i k : Nat} (hc : Conn E i k) : Conn F i k := by
  induction hc with
  | refl i => exact .refl i
  | step he => exact h _ _ he
  | symm _ ih => exact .symm ih
  | trans _ _ ih1 ih2 => exact .trans ih1 ih2

/-- Two numbers have one root just if pairs link them. -/
def Links (u : List Int) (E : Nat → Nat → Prop) : Prop := ∀ i k, i < u.length → k < u.length → (root u i = root u k ↔ Conn E i k)
theorem links_join {u : List Int} {E : Nat → Nat → Prop} (hu : okF u) (hE : ∀ i k, E i k → i < u.length ∧ k < u.length) (h : Links u E) {a b : Nat} (ha : a < u.length) (hb : b < u.length) : Links (joinF u (root u a) (root u b)) fun i k => E i k ∨ i = a ∧ k = b := by
  obtain ⟨_, hr, _⟩ := join_facts hu ha hb
  have hlen := joinF_len (u := u) (a := (root u a : Nat)) (b := (root u b : Nat))
  have hup : ∀ {i k}, Conn E i k → Conn (fun i k => E i k ∨ i = a ∧ k = b) i k := fun hc => hc.mono fun i k he => .step (.inl he)
  have hab : Conn (fun i k => E i k ∨ i = a ∧ k = b) a b := .step (.inr ⟨rfl, rfl⟩)
  intro i k hi hk
  rw [hlen] at hi hk
  rw [hr i hi, hr k hk]
  constructor
  · intro e
    by_cases h1 : root u i = root u a <;> by_cases h2 : root u k = root u a
    · exact hup ((h i k hi hk).1 (h1.trans h2.symm))
    · rw [if_pos h1, if_neg h2] at e
      exact .trans (hup ((h i a hi ha).1 h1)) (.trans hab (hup ((h b k hb hk).1 e)))
    · rw [if_neg h1, if_pos h2] at e
      exact .trans (hup ((h i b hi hb).1 e)) (.trans hab.symm (hup ((h a k ha hk).1 h2.symm)))
    · rw [if_neg h1, if_neg h2] at e
      exact hup ((h i k hi hk).1 e)
  · have key : ∀ {i k}, Conn (fun i k => E i k ∨ i = a ∧ k = b) i k → (i < u.length ∧ k < u.length ∧ (if root u i = root u a then root u b else root u i) = if root u k = root u a then root u b else root u k) ∨ i = k := fun hc => by
      induction hc with
      | refl i => exact .inr rfl
      | step he =>
        rcases he with he | ⟨rfl, rfl⟩
        · obtain ⟨q1, q2⟩ := hE _ _ he
          rw [(h _ _ q1 q2).2 (.step he)]
          exact .inl ⟨q1, q2, rfl⟩
        · refine .inl ⟨ha, hb, ?_⟩
          rw [if_pos rfl]
          split <;> rfl
      | symm _ ih =>
        rcases ih with ⟨q1, q2, q3⟩ | rfl
        · exact .inl ⟨q2, q1, q3.symm⟩
        · exact .inr rfl
      | trans _ _ ih1 ih2 =>
        rcases ih1 with ⟨q1, q2, q3⟩ | rfl
        · rcases ih2 with ⟨p1, p2, p3⟩ | rfl
          · exact .inl ⟨q1, p2, q3.trans p3⟩
          · exact .inl ⟨q1, q2, q3⟩
        · exact ih2
    intro hc
    rcases key hc with ⟨_, _, q⟩ | rfl
    · exact q
    · rfl
theorem idL_get {n i : Nat} (h : i < n) : (idL n).getD i 0 = i := by
  simp [idL, List.getD_eq_getElem?_getD, List.getElem?_map, List.getElem?_range h]
theorem okF_id (n : Nat) : okF (idL n) := by
  have hin : inR (idL n) := fun i hi => by rw [idL_len] at hi ⊢; rw [idL_get hi]; omega
  refine ⟨hin, fun i hi => ?_⟩
  rw [idL_len] at hi
  rw [iter_root (by rw [Int.toNat_natCast, idL_get hi]), Int.toNat_natCast, idL_get hi]
theorem root_id {n i : Nat} (h : i < n) : root (idL n) i = i := root_self (okF_id n) (idL_get h)
theorem rootsF_id {n : Nat} : ∀ m, m ≤ n → rootsF (idL n) m = m
  | 0, _ => rfl
  | m + 1, h => by rw [rootsF, rootsF_id m (by omega), idL_get (by omega), if_pos rfl]; omega
theorem conn_false {i k : Nat} (h : Conn (fun _ _ => False) i k) : i = k := by
  induction h with
  | refl i => rfl
  | step h => exact h.elim
  | symm _ ih => exact ih.symm
  | trans _ _ ih1 ih2 => exact ih1.trans ih2
theorem links_id (n : Nat) : Links (idL n) fun _ _ => False := fun i k hi hk => by
  rw [idL_len] at hi hk
  rw [root_id hi, root_id hk]
  exact ⟨fun e => e ▸ .refl i, conn_false⟩
end Go.Proofs.Ytopgjmoajkcdnaa
