/- Regions whose order is open: one walk in the text's order serves every order. -/
import Derived.Test.YtopgjmoajkcdnaaAbs16
namespace Go.Proofs.Ytopgjmoajkcdnaa
set_option linter.all false
open Go Go.RowKit

/-- What an operation did. -/
structure Tr where
  o : Oper
  w : Bool
  v : Option AV
  e : Eff

def Tr.env (t : Tr) (E : Nat → Option AV) : Nat → Option AV := match t.o.dst with
  | some d => upd1 E d (if t.w then t.v else some und)
  | none => E
def Tr.obj (t : Tr) (id : Nat) (O : Nat → Option Obj1) : Nat → Option Obj1 := if t.w then t.e.app id O else O

/-- Of those that are listed, in the text's order. -/
def foldE (L : Nat → Bool) : Nat → List Tr → (Nat → Option AV) → Nat → Option AV
  | _, [], E => E
  | j, t :: r, E => foldE L (j + 1) r (if L j then t.env E else E)
def foldO (L : Nat → Bool) (base : Nat) : Nat → List Tr → (Nat → Option Obj1) → Nat → Option Obj1
  | _, [], O => O
  | j, t :: r, O => foldO L base (j + 1) r (if L j then t.obj (base + j) O else O)

/-- The slot's value hangs on its writers alone. -/
theorem foldE_congr {L L' : Nat → Bool} {d : Nat} : ∀ (r : List Tr) (j : Nat) (E E' : Nat → Option AV), E d = E' d → (∀ i t, r[i]? = some t → t.o.dst = some d → L (j + i) = L' (j + i)) → foldE L j r E d = foldE L' j r E' d
  | [], _, _, _, h, _ => h
  | t :: r, j, E, E', h, hw => by
    simp only [foldE]
    refine foldE_congr r (j + 1) _ _ ?_ (fun i u hu hd => by
      have := hw (i + 1) u (by simpa using hu) hd
      rwa [show j + 1 + i = j + (i + 1) by omega])
    by_cases hd : t.o.dst = some d
    · have h0 := hw 0 t rfl hd
      rw [Nat.add_zero] at h0
      rw [h0]
      by_cases hl : L' j = true
      · simp [hl, Tr.env, hd, upd1]
      · simp [hl, h]
    · have hne : ∀ F : Nat → Option AV, t.env F d = F d := fun F => by
        unfold Tr.env
        cases hd' : t.o.dst with
        | some d' => exact upd1_ne fun e => hd (by rw [hd', e])
        | none => rfl
      by_cases hl : L j = true <;> by_cases hl' : L' j = true <;> simp [hl, hl', hne, h]

/-- What an effect may turn. -/
def Eff.keys (id : Nat) : Eff → List Nat
  | .none => []
  | .new _ => [id]
  | .turn k _ => [k]
  | .swap k _ => [k, id]
  | .drop ks => ks
theorem Eff.app_ne {id k : Nat} {e : Eff} {O : Nat → Option Obj1} (h : k ∉ e.keys id) : e.app id O k = O k := by
  cases e with
  | none => rfl
  | new o => simp only [Eff.keys, List.mem_singleton] at h; exact upd1_ne h
  | turn q o => simp only [Eff.keys, List.mem_singleton] at h; exact upd1_ne h
  | drop ks => simp only [Eff.keys] at h; simp [Eff.app, h]
  | swap q o =>
    simp only [Eff.keys, List.mem_cons, List.not_mem_nil, or_false, not_or] at h
    show upd1 (upd1 O q Option.none) id (some o) k = O k
    rw [upd1_ne h.2, upd1_ne h.1]
theorem Eff.app_congr {id k : Nat} {e : Eff} {O O' : Nat → Option Obj1} (h : O k = O' k) : e.app id O k = e.app id O' k := by
  cases e with
  | none => exact h
  | new o => simp only [Eff.app, upd1]; split <;> first | rfl | exact h
  | turn q o => simp only [Eff.app, upd1]; split <;> first | rfl | exact h
  | drop ks => simp only [Eff.app]; split <;> first | rfl | exact h
  | swap q o => simp only [Eff.app, upd1]; split <;> first | rfl | (split <;> first | rfl | exact h)

theorem foldO_congr {L L' : Nat → Bool} {k base : Nat} : ∀ (r : List Tr) (j : Nat) (O O' : Nat → Option Obj1), O k = O' k → (∀ i t, r[i]? = some t → t.w = true → k ∈ t.e.keys (base + (j + i)) → L (j + i) = L' (j + i)) → foldO L base j r O k = foldO L' base j r O' k
  | [], _, _, _, h, _ => h
  | t :: r, j, O, O', h, hw => by
    simp only [foldO]
    refine foldO_congr r (j + 1) _ _ ?_ (fun i u hu hwu hk => by
      have := hw (i + 1) u (by simpa using hu) hwu (by rwa [show j + (i + 1) = j + 1 + i by omega])
      rwa [show j + 1 + i = j + (i + 1) by omega])
    by_cases hk : t.w = true ∧ k ∈ t.e.keys (base + j)
    · have h0 := hw 0 t rfl hk.1 (by simpa using hk.2)
      rw [Nat.add_zero] at h0
      rw [h0]
      by_cases hl : L' j = true
      · simp [hl, Tr.obj, hk.1, Eff.app_congr h]
      · simp [hl, h]
    · have hne : ∀ F : Nat → Option Obj1, t.obj (base + j) F k = F k := fun F => by
        unfold Tr.obj
        split
        · rename_i hw'
          exact Eff.app_ne fun hm => hk ⟨hw', hm⟩
        · rfl
      by_cases hl : L j = true <;> by_cases hl' : L' j = true <;> simp [hl, hl', hne, h]

/-! ### The static check -/
def bitsOk (ops : List Oper) (B : List Nat) : Bool := ops.zipIdx.all fun (o, j) =>
  (o.after.all fun e => !Region.binds .any e || decide (e.on < j)) &&
  (let u := o.after.foldl (fun s e => if Region.binds .any e then s ||| 2 ^ e.on ||| B.getD e.on 0 else s) 0
   (B.getD j 0) ||| u == u)
def apartOk (ops : Array Oper) (B : List Nat) : Bool := ops.toList.zipIdx.all fun (x, i) => ops.toList.zipIdx.all fun (y, j) => !decide (i < j) || x.apart ops y || (B.getD j 0).testBit i
/-- Does it only take a part of what a slot holds? -/
def isEx : Op → Bool
  | .extract _ _ => true
  | _ => false
def exAt (ops : Array Oper) (i : Nat) : Bool := match ops[i]? with
  | some o => isEx o.op
  | none => false
/-- Those that turn an own object are ordered with all, but for those that only take a part of data. -/
def effsOk (ops : Array Oper) (B : List Nat) (effs : List Nat) : Bool := effs.all fun j => (List.range ops.size).all fun i => exAt ops i || ((!decide (i < j) || (B.getD j 0).testBit i) && (!decide (j < i) || (B.getD i 0).testBit j))
def noSel (ops : Array Oper) : Bool := Region.noSelect ops
def drawOk (ops : Array Oper) (B : List Nat) (effs : List Nat) : Bool := bitsOk ops.toList B && apartOk ops B && effsOk ops B effs

section
variable {ops : Array Oper} {B : List Nat} {effs : List Nat}

theorem zip_all {α : Type} {l : List α} {p : α × Nat → Bool} (h : l.zipIdx.all p = true) {j : Nat} {x : α} (hx : l[j]? = some x) : p (x, j) = true := by
  rw [List.all_eq_true] at h
  exact h (x, j) (List.mem_iff_getElem?.2 ⟨j, by rw [List.getElem?_zipIdx, hx]; simp⟩)

/-- Listed with all that it waits for. -/
def Closed (ops : Array Oper) (L : Nat → Bool) : Prop := ∀ (j : Nat) o, ops[j]? = some o → L j = true → ∀ e ∈ o.after, Region.binds .any e = true → L e.on = true

theorem fold_bit {after : List Edge} {B : List Nat} {i : Nat} : ∀ {s : Nat}, (after.foldl (fun s e => if Region.binds .any e then s ||| 2 ^ e.on ||| B.getD e.on 0 else s) s).testBit i = true → s.testBit i = true ∨ ∃ e ∈ after, Region.binds .any e = true ∧ (i = e.on ∨ (B.getD e.on 0).testBit i = true) := by
  induction after with
  | nil => intro s h; exact .inl h
  | cons e r ih =>
    intro s h
    simp only [List.foldl_cons] at h
    rcases ih h with h1 | ⟨e', he, hb, h2⟩
    · by_cases hb : Region.binds .any e = true
      · rw [if_pos hb, Nat.testBit_or, Nat.testBit_or, Bool.or_eq_true, Bool.or_eq_true] at h1
        rcases h1 with (h1 | h1) | h1
        · exact .inl h1
        · rw [Nat.testBit_two_pow] at h1
          exact .inr ⟨e, List.mem_cons_self, hb, .inl (by simpa using h1 : e.on = i).symm⟩
        · exact .inr ⟨e, List.mem_cons_self, hb, .inr h1⟩
      · rw [if_neg hb] at h1
        exact .inl h1
    · exact .inr ⟨e', List.mem_cons_of_mem _ he, hb, h2⟩

theorem bit_edge (hB : bitsOk ops.toList B = true) {j : Nat} {o : Oper} (ho : ops[j]? = some o) {i : Nat} (hi : (B.getD j 0).testBit i = true) : ∃ e ∈ o.after, Region.binds .any e = true ∧ e.on < j ∧ (i = e.on ∨ (B.getD e.on 0).testBit i = true) := by
  have ho' : ops.toList[j]? = some o := by simpa using ho
  have h := zip_all hB ho'
  simp only [Bool.and_eq_true] at h
  obtain ⟨h1, h2⟩ := h
  have h3 : B.getD j 0 ||| o.after.foldl (fun s e => if Region.binds .any e then s ||| 2 ^ e.on ||| B.getD e.on 0 else s) 0 = o.after.foldl (fun s e => if Region.binds .any e then s ||| 2 ^ e.on ||| B.getD e.on 0 else s) 0 := by simpa using h2
  have h4 : (o.after.foldl (fun s e => if Region.binds .any e then s ||| 2 ^ e.on ||| B.getD e.on 0 else s) 0).testBit i = true := by
    rw [← h3, Nat.testBit_or, hi, Bool.true_or]
  rw [← Array.foldl_toList] at h4
  rcases fold_bit h4 with h5 | ⟨e, he, hb, h5⟩
  · simp at h5
  · refine ⟨e, Array.mem_toList_iff.1 he, hb, ?_, h5⟩
    have := Array.all_eq_true_iff_forall_mem.1 h1 e (Array.mem_toList_iff.1 he)
    simpa [hb] using this

theorem closed_bit (hB : bitsOk ops.toList B = true) {L : Nat → Bool} (hL : Closed ops L) : ∀ (n j : Nat) (o : Oper), j ≤ n → ops[j]? = some o → L j = true → ∀ i, (B.getD j 0).testBit i = true → L i = true := by
  intro n
  induction n with
  | zero =>
    intro j o hj ho hl i hi
    obtain ⟨e, _, _, h, _⟩ := bit_edge hB ho hi
    omega
  | succ n ih =>
    intro j o hj ho hl i hi
    obtain ⟨e, he, hb, hlt, h⟩ := bit_edge hB ho hi
    have hle := hL j o ho hl e he hb
    rcases h with rfl | h
    · exact hle
    · have hjl : j < ops.size := (Array.getElem?_eq_some_iff.1 ho).1
      exact ih e.on ops[e.on] (by omega) (Array.getElem?_eq_getElem (by omega)) hle i h

theorem bit_lt (hB : bitsOk ops.toList B = true) : ∀ (n j : Nat) (o : Oper), j ≤ n → ops[j]? = some o → ∀ i, (B.getD j 0).testBit i = true → i < j := by
  intro n
  induction n with
  | zero =>
    intro j o hj ho i hi
    obtain ⟨e, _, _, h, _⟩ := bit_edge hB ho hi
    omega
  | succ n ih =>
    intro j o hj ho i hi
    obtain ⟨e, he, hb, hlt, h⟩ := bit_edge hB ho hi
    rcases h with rfl | h
    · exact hlt
    · have hjl : j < ops.size := (Array.getElem?_eq_some_iff.1 ho).1
      have := ih e.on ops[e.on] (by omega) (Array.getElem?_eq_getElem (by omega)) i h
      omega

/-- A ready operation: its bits are listed; what has it among its bits is not. -/
theorem ready_bits (hB : bitsOk ops.toList B = true) {L : Nat → Bool} (hL : Closed ops L) {j : Nat} {o : Oper} (ho : ops[j]? = some o) (hj : L j = false) (hr : ∀ e ∈ o.after, Region.binds .any e = true → L e.on = true) :
    (∀ i, (B.getD j 0).testBit i = true → L i = true) ∧ ∀ i oi, ops[i]? = some oi → (B.getD i 0).testBit j = true → L i = false := by
  refine ⟨fun i hi => ?_, fun i oi hoi hi => ?_⟩
  · obtain ⟨e, he, hb, hlt, h⟩ := bit_edge hB ho hi
    have hle := hr e he hb
    rcases h with rfl | h
    · exact hle
    · have hjl : j < ops.size := (Array.getElem?_eq_some_iff.1 ho).1
      exact closed_bit hB hL e.on e.on ops[e.on] (Nat.le_refl _) (Array.getElem?_eq_getElem (by omega)) hle i h
  · cases hl : L i with
    | false => rfl
    | true =>
      have := closed_bit hB hL i i oi (Nat.le_refl _) hoi hl j hi
      rw [hj] at this
      cases this
end
end Go.Proofs.Ytopgjmoajkcdnaa
