/- How arguments are read as data. -/
import Derived.Test.YtpibdbjlilpfiaaAbsC
import Derived.ChangeArms
import Derived.OpenShut
namespace Go.Proofs.Ytpibdbjlilpfiaa
set_option linter.all false
open Go Go.RowKit

section
variable {H : Type} {enc : TypeId × Value → H} {P : Program} {w : World} {t : TypeId} {fuel : Nat} {cs : List Value} {x : DataW H × List MemPlace}

/-- The blocks that are there. -/
def okW (w : World) (b : Nat) : Prop := b < w.heap.size
/-- The cells say these data. -/
def CellsOk (w : World) (ds : List D) (cs : List Value) : Prop := cs.length = ds.length ∧ ∀ (i : Nat) c v, ds[i]? = some c → cs[i]? = some v → Rep w (okW w) c v ∧ v.oneCell' = true
theorem cells_one {c : D} {v : Value} (h : Rep w (okW w) c v) (h1 : v.oneCell' = true) : CellsOk w [c] [v] := ⟨rfl, fun i c' v' hc hv => by
  cases i with
  | zero => simp at hc hv; subst hc; subst hv; exact ⟨h, h1⟩
  | succ i => simp at hc⟩

theorem cells_get {base : Nat} {a : Addr} {n : Nat} {l : List Value} (h : w.cells? base a n = some l) : l.length = n ∧ ∀ i, i < n → w.cell? (a.add i) = l[i]? := by
  unfold World.cells? at h
  split at h
  · refine ⟨by simpa using mapM_some_length h, fun i hi => ?_⟩
    exact mapM_some_get h i i (by simp [hi])
  · cases h

/-- A slice whose elements are read as 'f a'; they are read with less fuel. -/
theorem rd_sliceN {e : TypeId} {sz : Nat} (ht : P.underlying t = some (.slice e)) (hsz : P.cellsOf e = sz) (h0 : 0 < sz) {α : Type} (f : α → List D) (hf : ∀ a, (f a).length = sz) (G : α → DataW H → Prop)
    (he : ∀ {n cs x}, n < fuel → DataW.trod enc P w 0 (fun _ => true) true n e cs = some x → ∃ a, G a x.1 ∧ CellsOk w (f a) cs)
    (h : DataW.trod enc P w 0 (fun _ => true) true fuel t cs = some x) : ∃ (l : List α) (v : Value), cs = [v] ∧ Rep w (okW w) (.slice (l.map f)) v ∧ v.oneCell' = true ∧
      ((l = [] ∧ x.1 = .nil) ∨ ∃ es sp, x.1 = .slice es sp ∧ es.length = l.length ∧ ∀ (i : Nat) a d, l[i]? = some a → es[i]? = some d → G a d) := by
  rcases DataW.trod_slice ht h with ⟨rfl, rfl⟩ | ⟨a, len, cap, elems, rest, n, rfl, rfl, rfl, hb, hlc, hcm, hel, hat, _⟩
  · exact ⟨[], _, rfl, .nil, rfl, .inl ⟨rfl, rfl⟩⟩
  · rw [hsz] at hat
    by_cases hl : len = 0
    · subst hl
      obtain rfl := List.eq_nil_of_length_eq_zero hel
      exact ⟨[], _, rfl, .empty a cap, rfl, .inr ⟨_, _, rfl, rfl, fun i a d ha => by simp at ha⟩⟩
    · have each : ∀ j, j < len → ∃ (a' : α) (d : DataW H × List MemPlace) (l : List Value), elems[j]? = some d ∧ w.cells? 0 (a.add (j * sz)) sz = some l ∧ G a' d.1 ∧ CellsOk w (f a') l := fun j hj => by
        have h1 := hat j hj
        rw [List.getElem?_eq_getElem (by omega), Option.bind_eq_some_iff] at h1
        obtain ⟨l, h2, h3⟩ := h1
        obtain ⟨a', h4, h5⟩ := he (Nat.lt_succ_self _) h3
        exact ⟨a', _, l, List.getElem?_eq_getElem (by omega), h2, h4, h5⟩
      obtain ⟨a0, d0, l0, _, hc0, _, ho0⟩ := each 0 (by omega)
      have hg0 := cells_get hc0
      have hcell0 := hg0.2 0 h0
      have hne : l0[0]? ≠ none := by rw [List.getElem?_eq_getElem (by omega)]; simp
      rw [← hcell0] at hne
      have hspot : a.spot = none ∧ a.block < w.heap.size := by
        have ha0 : (a.add (0 * sz)).add 0 = a := by simp [Addr.add]
        rw [ha0] at hne
        unfold World.cell? at hne
        split at hne
        · rename_i c _ _ hh
          refine ⟨?_, (Array.getElem?_eq_some_iff.1 hh).1⟩
          split at hne
          · exact absurd rfl hne
          · rename_i hs
            cases hsp : a.spot with
            | none => rfl
            | some q => rw [hsp] at hs; simp at hs
        · exact absurd rfl hne
      obtain ⟨b, off, spot⟩ := a
      obtain ⟨rfl, hblk⟩ := hspot
      simp only at hblk
      obtain ⟨as, has, hall⟩ : ∃ as : List α, as.length = len ∧ ∀ j a', as[j]? = some a' → ∃ (d : DataW H × List MemPlace) (l : List Value), elems[j]? = some d ∧ w.cells? 0 (Addr.add ⟨b, off, none⟩ (j * sz)) sz = some l ∧ G a' d.1 ∧ CellsOk w (f a') l := by
        have : ∀ m, m ≤ len → ∃ as : List α, as.length = m ∧ ∀ j a', as[j]? = some a' → ∃ (d : DataW H × List MemPlace) (l : List Value), elems[j]? = some d ∧ w.cells? 0 (Addr.add ⟨b, off, none⟩ (j * sz)) sz = some l ∧ G a' d.1 ∧ CellsOk w (f a') l := by
          intro m
          induction m with
          | zero => intro _; exact ⟨[], rfl, fun j a' h => by simp at h⟩
          | succ m ih =>
            intro hm
            obtain ⟨as, h1, h2⟩ := ih (by omega)
            obtain ⟨a', d, l, q1, q2, q3, q4⟩ := each m (by omega)
            refine ⟨as ++ [a'], by simp [h1], fun j b' hb' => ?_⟩
            by_cases hj : j < as.length
            · rw [List.getElem?_append_left hj] at hb'
              exact h2 j b' hb'
            · rw [List.getElem?_append_right (by omega)] at hb'
              have hj0 : j - as.length = 0 := by
                have := (List.getElem?_eq_some_iff.1 hb').1
                simp at this
                omega
              rw [hj0] at hb'
              simp at hb'
              subst hb'
              obtain rfl : j = m := by omega
              exact ⟨d, l, q1, q2, q3, q4⟩
        exact this len (Nat.le_refl _)
      have hlens : ∀ y ∈ as.map f, y.length = sz := fun y hy => by obtain ⟨a', _, rfl⟩ := List.mem_map.1 hy; exact hf a'
      have hfl : (as.map f).flatten.length = len * sz := by rw [flat_len hlens, List.length_map, has]
      have cellAt : ∀ i, i < len * sz → ∃ c v, (as.map f).flatten[i]? = some c ∧ w.cell? ⟨b, off + i, none⟩ = some v ∧ Rep w (okW w) c v ∧ v.oneCell' = true := fun i hi => by
        have hq : i / sz < len := (Nat.div_lt_iff_lt_mul h0).2 hi
        have hr := Nat.mod_lt i h0
        have hdm : i / sz * sz + i % sz = i := by rw [Nat.mul_comm]; exact Nat.div_add_mod i sz
        obtain ⟨d, l, q1, q2, q3, q4⟩ := hall (i / sz) (as[i / sz]'(by omega)) (List.getElem?_eq_getElem (by omega))
        obtain ⟨g1, g2⟩ := cells_get q2
        have e1 := flat_at hlens (j := i / sz) (x := f (as[i / sz]'(by omega))) (by rw [List.getElem?_map, List.getElem?_eq_getElem (by omega)]; rfl) (i % sz) hr
        rw [hdm] at e1
        generalize hA : as[i / sz]'(by omega) = A at q3 q4 e1
        have hfl' := hf A
        have e3 : (f A)[i % sz]? = some ((f A)[i % sz]'(by omega)) := List.getElem?_eq_getElem (by omega)
        rw [e3] at e1
        have e2 := g2 (i % sz) hr
        have e4 : l[i % sz]? = some (l[i % sz]'(by omega)) := List.getElem?_eq_getElem (by omega)
        rw [e4] at e2
        have ha : (Addr.add (Addr.add ⟨b, off, none⟩ (i / sz * sz)) (i % sz)) = ⟨b, off + i, none⟩ := by
          have h1 : i / sz * sz + i % sz = i := hdm
          simp only [Addr.add]
          split <;> split <;> simp_all <;> omega
        rw [ha] at e2
        exact ⟨_, _, e1, e2, q4.2 (i % sz) _ _ e3 e4⟩
      have key := Rep.slice (w := w) (ok := okW w) (as.map f) b off cap sz (fun i => if i < len * sz then (w.cell? ⟨b, off + i, none⟩).getD (.bool false) else .bool false) hblk (by rw [List.length_map, has]; exact hlc) (by rw [List.length_map, has]; exact Nat.le_trans hlc hcm) hlens (fun i hi => by
        rw [hfl] at hi
        obtain ⟨c, v, q1, q2, q3, q4⟩ := cellAt i hi
        rw [if_pos hi, q2]; rfl) (fun i => by
        split
        · rename_i hi
          obtain ⟨c, v, q1, q2, q3, q4⟩ := cellAt i hi
          rw [q2]; exact q4
        · rfl) (fun i c hc => by
        have hi : i < len * sz := by rw [← hfl]; exact (List.getElem?_eq_some_iff.1 hc).1
        obtain ⟨c', v, q1, q2, q3, q4⟩ := cellAt i hi
        rw [if_pos hi, q2]
        rw [q1] at hc
        injection hc with hc
        subst hc
        exact q3)
      rw [List.length_map, has] at key
      refine ⟨as, _, rfl, key, rfl, .inr ⟨_, _, rfl, by rw [List.length_map, hel, has], fun i a' d ha hd => ?_⟩⟩
      obtain ⟨d', l, q1, _, q3, _⟩ := hall i a' ha
      rw [List.getElem?_map, q1] at hd
      injection hd with hd
      subst hd
      exact q3
/-- A slice whose elements are read as 'f a'. -/
theorem rd_slice {e : TypeId} {sz : Nat} (ht : P.underlying t = some (.slice e)) (hsz : P.cellsOf e = sz) (h0 : 0 < sz) {α : Type} (f : α → List D) (hf : ∀ a, (f a).length = sz) (G : α → DataW H → Prop)
    (he : ∀ {fuel cs x}, DataW.trod enc P w 0 (fun _ => true) true fuel e cs = some x → ∃ a, G a x.1 ∧ CellsOk w (f a) cs)
    (h : DataW.trod enc P w 0 (fun _ => true) true fuel t cs = some x) : ∃ (l : List α) (v : Value), cs = [v] ∧ Rep w (okW w) (.slice (l.map f)) v ∧ v.oneCell' = true ∧
      ((l = [] ∧ x.1 = .nil) ∨ ∃ es sp, x.1 = .slice es sp ∧ es.length = l.length ∧ ∀ (i : Nat) a d, l[i]? = some a → es[i]? = some d → G a d) := rd_sliceN ht hsz h0 f hf G (fun _ => he) h
end
end Go.Proofs.Ytpibdbjlilpfiaa
