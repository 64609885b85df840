/- count: the document's rows (plain). -/
import Derived.Test.YtpibdbjlilpfiaaCntM
namespace Go.Proofs.Ytpibdbjlilpfiaa
set_option linter.all false
open Go

def zeroL (n : Nat) : List Nat := List.replicate (n + 1) 0
def plusL (a b : List Nat) (t : Nat) : List Nat := (List.range a.length).map fun i => min 2 (a.getD i 0 + t * b.getD i 0)
def thruL (E : Nat → List Nat) (n : Nat) (row : List Nat) (k : Nat) : List Nat := (List.range k).foldl (fun out j => if 0 < row.getD j 0 then plusL out (E j) (row.getD j 0) else out) (zeroL n)
def nextL (E : Nat → List Nat) (n : Nat) (now : List Nat) (k : Nat) : List Nat := thruL (fun j => (E j).set j 0) n now k
def timesG (E : Nat → List Nat) (n : Nat) (lo hi : Int) : Nat → Nat → List Nat → List Nat → List Nat
  | 0, _, _, out => out
  | k + 1, t, now, out =>
    let out' := if lo ≤ (t : Int) then plusL out now 1 else out
    if (t : Int) = hi then out' else timesG E n lo hi k (t + 1) (nextL E n now (n + 1)) out'
def timesL (E : Nat → List Nat) (n f : Nat) (lo hi : Int) : List Nat := timesG E n lo hi (n + 2) 0 ((zeroL n).set f 1) (zeroL n)
def T.ends : T → List UInt8 → Nat → List Nat
  | .void, w, f => (zeroL w.length).set f 1
  | .bytes c0 c1 c2 c3, w, f => if f < w.length ∧ clsHas c0 c1 c2 c3 (w.getD f 0).toNat = true then (zeroL w.length).set (f + 1) 1 else zeroL w.length
  | .text s, w, f => if f + s.size ≤ w.length ∧ part' w f (f + s.size) = s.data.toList then (zeroL w.length).set (f + s.size) 1 else zeroL w.length
  | .two k a b, w, f => if k = 4 then thruL (b.ends w) w.length (a.ends w f) (w.length + 1) else plusL (a.ends w f) (b.ends w f) 1
  | .one k lo hi a, w, f => if k = 6 then timesL (a.ends w) w.length f 0 (-1) else if k = 7 then timesL (a.ends w) w.length f lo hi
    else if k = 8 then (if f < w.length ∧ f + 1 + (w.getD f 0).toNat ≤ w.length then (zeroL w.length).set (f + 1 + (w.getD f 0).toNat) ((a.ends (w.take (f + 1 + (w.getD f 0).toNat)) (f + 1)).getD (f + 1 + (w.getD f 0).toNat) 0) else zeroL w.length)
    else (if f + 1 < w.length ∧ f + 2 + 256 * (w.getD f 0).toNat + (w.getD (f + 1) 0).toNat ≤ w.length then (zeroL w.length).set (f + 2 + 256 * (w.getD f 0).toNat + (w.getD (f + 1) 0).toNat) ((a.ends (w.take (f + 2 + 256 * (w.getD f 0).toNat + (w.getD (f + 1) 0).toNat)) (f + 2)).getD (f + 2 + 256 * (w.getD f 0).toNat + (w.getD (f + 1) 0).toNat) 0) else zeroL w.length)

/-- A row that tells how many there are at each place. -/
structure RowOk {α : Type} (r : List Nat) (n : Nat) (S : Nat → α → Prop) : Prop where
  len : r.length = n + 1
  cn : ∀ i, i ≤ n → Cn (S i) (r.getD i 0)
section
variable {α β γ : Type} {n : Nat}
theorem RowOk.congr {r : List Nat} {S S' : Nat → α → Prop} (h : RowOk r n S) (e : ∀ i, i ≤ n → ∀ x, S i x ↔ S' i x) : RowOk r n S' := ⟨h.len, fun i hi => (h.cn i hi).congr (e i hi)⟩
theorem zeroL_len : (zeroL n).length = n + 1 := List.length_replicate
theorem zeroL_get {i : Nat} : (zeroL n).getD i 0 = 0 := by
  rw [zeroL, List.getD_eq_getElem?_getD, List.getElem?_replicate]
  split <;> rfl
theorem zeroL_ok {S : Nat → α → Prop} (h : ∀ i x, i ≤ n → ¬ S i x) : RowOk (zeroL n) n S := ⟨zeroL_len, fun i hi => by rw [zeroL_get]; exact .empty fun x => h i x hi⟩
theorem set_get {r : List Nat} {i j v : Nat} (h : i < r.length) : (r.set i v).getD j 0 = if i = j then v else r.getD j 0 := by
  rw [List.getD_eq_getElem?_getD, List.getElem?_set]
  split
  · rfl
  · rw [List.getD_eq_getElem?_getD]
theorem set_ok {S : Nat → α → Prop} {k v : Nat} (hk : k ≤ n) (h : Cn (S k) v) (h' : ∀ i x, i ≤ n → i ≠ k → ¬ S i x) : RowOk ((zeroL n).set k v) n S := ⟨by rw [List.length_set, zeroL_len], fun i hi => by
  rw [set_get (by rw [zeroL_len]; omega)]
  split
  · rename_i e; exact e ▸ h
  · rename_i e
    rw [zeroL_get]
    exact .empty fun x => h' i x hi (fun e' => e e'.symm)⟩
theorem plusL_len {a b : List Nat} {t : Nat} : (plusL a b t).length = a.length := by simp [plusL]
theorem plusL_get {a b : List Nat} {t i : Nat} (h : i < a.length) : (plusL a b t).getD i 0 = min 2 (a.getD i 0 + t * b.getD i 0) := by
  rw [plusL, List.getD_eq_getElem?_getD, List.getElem?_map, List.getElem?_range h]
  rfl
theorem min2 {o a b : Nat} : min 2 (o + min 2 (a * b)) = min 2 (o + a * b) := by omega
theorem plusL_ok {r q : List Nat} {t : Nat} {S : Nat → γ → Prop} {T : α → Prop} {U : Nat → β → Prop} {J : α → β → γ} (hr : RowOk r n S) (hq : RowOk q n U) (ht : Cn T t)
    (hJ : ∀ i x x' y y', T x → T x' → U i y → U i y' → J x y = J x' y' → x = x' ∧ y = y') (hd : ∀ i z, S i z → ∀ x y, T x → U i y → z ≠ J x y) : RowOk (plusL r q t) n (fun i z => S i z ∨ ∃ x y, T x ∧ U i y ∧ z = J x y) :=
  ⟨by rw [plusL_len, hr.len], fun i hi => by
    rw [plusL_get (by rw [hr.len]; omega), ← min2]
    exact (hr.cn i hi).or (.prod (hJ i) ht (hq.cn i hi)) fun z hz ⟨x, y, hx, hy, e⟩ => hd i z hz x y hx hy e⟩
theorem thruL_len {E : Nat → List Nat} {row : List Nat} : ∀ k, (thruL E n row k).length = n + 1
  | 0 => zeroL_len
  | k + 1 => by
    unfold thruL
    rw [List.range_succ, List.foldl_append, List.foldl_cons, List.foldl_nil]
    have := thruL_len (E := E) (row := row) k
    unfold thruL at this
    split
    · rw [plusL_len, this]
    · exact this
theorem thruL_succ {E : Nat → List Nat} {row : List Nat} {k : Nat} : thruL E n row (k + 1) = if 0 < row.getD k 0 then plusL (thruL E n row k) (E k) (row.getD k 0) else thruL E n row k := by
  unfold thruL
  rw [List.range_succ, List.foldl_append, List.foldl_cons, List.foldl_nil]
theorem thruL_ok {E : Nat → List Nat} {row : List Nat} {T : Nat → α → Prop} {U : Nat → Nat → β → Prop} {J : α → β → γ} (hrow : RowOk row n T) (hE : ∀ j, j ≤ n → (∃ x, T j x) → RowOk (E j) n (U j))
    (hJ : ∀ i j j' x x' y y', j ≤ n → j' ≤ n → T j x → T j' x' → U j i y → U j' i y' → J x y = J x' y' → j = j' ∧ x = x' ∧ y = y') : ∀ k, k ≤ n + 1 → RowOk (thruL E n row k) n (fun i z => ∃ j x y, j < k ∧ T j x ∧ U j i y ∧ z = J x y) := by
  intro k
  induction k with
  | zero => exact fun _ => zeroL_ok fun i z _ ⟨j, x, y, h, _⟩ => by omega
  | succ k ih =>
    intro hk
    have h0 := ih (by omega)
    rw [thruL_succ]
    split
    · rename_i hp
      have hne := (hrow.cn k (by omega)).one.1 (by omega)
      refine (plusL_ok (J := J) h0 (hE k (by omega) hne) (hrow.cn k (by omega)) (fun i x x' y y' a b c d e => (hJ i k k x x' y y' (by omega) (by omega) a b c d e).2) fun i z ⟨j, x', y', hj, hx', hy', hz⟩ x y hx hy e => ?_).congr fun i hi z => ?_
      · have := (hJ i j k x' x y' y (by omega) (by omega) hx' hx hy' hy (hz.symm.trans e)).1
        omega
      · constructor
        · rintro (⟨j, x, y, a, b⟩ | ⟨x, y, a, b, c⟩)
          · exact ⟨j, x, y, by omega, b⟩
          · exact ⟨k, x, y, by omega, a, b, c⟩
        · rintro ⟨j, x, y, a, b, c, d⟩
          by_cases e : j = k
          · subst e; exact .inr ⟨x, y, b, c, d⟩
          · exact .inl ⟨j, x, y, by omega, b, c, d⟩
    · rename_i hp
      have hz : row.getD k 0 = 0 := by omega
      have hc := hrow.cn k (by omega)
      rw [hz] at hc
      refine h0.congr fun i hi z => ?_
      constructor
      · rintro ⟨j, x, y, a, b⟩; exact ⟨j, x, y, by omega, b⟩
      · rintro ⟨j, x, y, a, b, c⟩
        by_cases e : j = k
        · subst e; exact absurd b (hc.zero x)
        · exact ⟨j, x, y, by omega, b, c⟩
end
end Go.Proofs.Ytpibdbjlilpfiaa
