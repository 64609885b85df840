/- Val: Val, CntV. -/
import Derived.Test.YtpibdbjlilpfiaaSpec
/- Values as plain data, and what they write. -/
namespace Go.Proofs.Ytpibdbjlilpfiaa
set_option linter.all false
open Go Go.RowKit

inductive Vl where
  | mk (kind byte : Int) (text : ByteArray) (pick : Int) (kids : List Vl)
def Vl.kind : Vl → Int | .mk k _ _ _ _ => k
def Vl.byte : Vl → Int | .mk _ b _ _ _ => b
def Vl.text : Vl → ByteArray | .mk _ _ t _ _ => t
def Vl.pick : Vl → Int | .mk _ _ _ p _ => p
def Vl.kids : Vl → List Vl | .mk _ _ _ _ l => l
def Vl.z : Vl := .mk 0 0 .empty 0 []
instance : Inhabited Vl := ⟨Vl.z⟩
theorem Vl.eta : ∀ v : Vl, v = .mk v.kind v.byte v.text v.pick v.kids
  | .mk .. => rfl
mutual
def Vl.cells : Vl → List D
  | .mk k b t p l => [.int .i64 k, .int .u8 b, .str t, .int .i64 p, .slice (Vl.cellsL l)]
def Vl.cellsL : List Vl → List (List D)
  | [] => []
  | x :: r => x.cells :: Vl.cellsL r
end
theorem Vl.cellsL_map : ∀ l : List Vl, Vl.cellsL l = l.map Vl.cells
  | [] => rfl
  | x :: r => by rw [Vl.cellsL, Vl.cellsL_map r]; rfl
def vals (l : List Vl) : D := .slice (l.map Vl.cells)
theorem Vl.cells_eq (v : Vl) : v.cells = [.int .i64 v.kind, .int .u8 v.byte, .str v.text, .int .i64 v.pick, .slice (v.kids.map Vl.cells)] := by
  cases v with
  | mk k b t p l => rw [Vl.cells, Vl.cellsL_map]; rfl
theorem Vl.cells_len (v : Vl) : v.cells.length = 5 := by rw [Vl.cells_eq]; rfl
def val (v : Vl) : D := .agg [.int .i64 v.kind, .int .u8 v.byte, .str v.text, .int .i64 v.pick, .slice (v.kids.map Vl.cells)]
def bys (l : List UInt8) : D := .slice (l.map encB)
theorem Vl.kind_mk {k b : Int} {t : ByteArray} {p : Int} {l : List Vl} : (Vl.mk k b t p l).kind = k := rfl
theorem Vl.byte_mk {k b : Int} {t : ByteArray} {p : Int} {l : List Vl} : (Vl.mk k b t p l).byte = b := rfl
theorem Vl.text_mk {k b : Int} {t : ByteArray} {p : Int} {l : List Vl} : (Vl.mk k b t p l).text = t := rfl
theorem Vl.pick_mk {k b : Int} {t : ByteArray} {p : Int} {l : List Vl} : (Vl.mk k b t p l).pick = p := rfl
theorem Vl.kids_mk {k b : Int} {t : ByteArray} {p : Int} {l : List Vl} : (Vl.mk k b t p l).kids = l := rfl
attribute [go_sem] val vals bys Vl.cells_eq Vl.kind_mk Vl.byte_mk Vl.text_mk Vl.pick_mk Vl.kids_mk

theorem vl_ind {P : Vl → Prop} (h : ∀ k b t p l, (∀ x ∈ l, P x) → P (.mk k b t p l)) : ∀ v, P v := by
  intro v
  refine Vl.rec (motive_1 := P) (motive_2 := fun l => ∀ x ∈ l, P x) (fun k b t p l ih => h k b t p l ih) (fun x hx => by cases hx) (fun x r h1 h2 y hy => ?_) v
  rcases List.mem_cons.1 hy with rfl | hy
  · exact h1
  · exact h2 y hy

/-- The whole numbers are in their kinds' bounds, here and in all kids. -/
inductive Vl.Wf : Vl → Prop
  | mk (k b : Int) (t : ByteArray) (p : Int) (l : List Vl) (hk : -9223372036854775808 ≤ k ∧ k ≤ 9223372036854775807) (hb : 0 ≤ b ∧ b ≤ 255) (hp : -9223372036854775808 ≤ p ∧ p ≤ 9223372036854775807) (h : ∀ x ∈ l, Vl.Wf x) : Vl.Wf (.mk k b t p l)
theorem Vl.Wf.kid {v x : Vl} (h : v.Wf) (hx : x ∈ v.kids) : x.Wf := by
  cases h with
  | mk k b t p l _ _ _ h => exact h x hx
theorem Vl.Wf.byte {v : Vl} (h : v.Wf) : 0 ≤ v.byte ∧ v.byte ≤ 255 := by
  cases h with
  | mk k b t p l _ hb _ _ => exact hb
theorem Vl.Wf.kind {v : Vl} (h : v.Wf) : -9223372036854775808 ≤ v.kind ∧ v.kind ≤ 9223372036854775807 := by
  cases h with
  | mk k b t p l hk _ _ _ => exact hk
theorem Vl.Wf.pick {v : Vl} (h : v.Wf) : -9223372036854775808 ≤ v.pick ∧ v.pick ≤ 9223372036854775807 := by
  cases h with
  | mk k b t p l _ _ hp _ => exact hp

mutual
def Vl.bulk : Vl → Nat
  | .mk _ _ t _ l => 1 + t.size + Vl.bulkL l
def Vl.bulkL : List Vl → Nat
  | [] => 0
  | x :: r => x.bulk + Vl.bulkL r
end
mutual
def Vl.many : Vl → Nat
  | .mk _ _ _ _ l => 1 + Vl.manyL l
def Vl.manyL : List Vl → Nat
  | [] => 0
  | x :: r => x.many + Vl.manyL r
end
theorem Vl.bulk_eq (v : Vl) : v.bulk = 1 + v.text.size + Vl.bulkL v.kids := by cases v; rw [Vl.bulk]; rfl
theorem Vl.many_eq (v : Vl) : v.many = 1 + Vl.manyL v.kids := by cases v; rw [Vl.many]; rfl
theorem Vl.bulkL_mem : ∀ {l : List Vl} {x : Vl}, x ∈ l → x.bulk ≤ Vl.bulkL l
  | y :: r, x, h => by
    rw [Vl.bulkL]
    rcases List.mem_cons.1 h with rfl | h
    · omega
    · have := Vl.bulkL_mem h; omega
theorem Vl.manyL_mem : ∀ {l : List Vl} {x : Vl}, x ∈ l → x.many ≤ Vl.manyL l
  | y :: r, x, h => by
    rw [Vl.manyL]
    rcases List.mem_cons.1 h with rfl | h
    · omega
    · have := Vl.manyL_mem h; omega
theorem Vl.bulkL_len : ∀ {l : List Vl}, l.length ≤ Vl.bulkL l
  | [] => Nat.le_refl _
  | y :: r => by
    have := Vl.bulkL_len (l := r)
    have := y.bulk_eq
    rw [Vl.bulkL, List.length_cons]; omega
theorem Vl.many_le : ∀ v : Vl, v.many ≤ v.bulk := vl_ind fun k b t p l ih => by
  rw [Vl.many, Vl.bulk]
  have : Vl.manyL l ≤ Vl.bulkL l := by
    induction l with
    | nil => exact Nat.le_refl _
    | cons x r ihr =>
      rw [Vl.manyL, Vl.bulkL]
      have h1 := ih x List.mem_cons_self
      have h2 := ihr (fun y hy => ih y (List.mem_cons_of_mem _ hy))
      omega
  omega
theorem Vl.manyL_app : ∀ (l m : List Vl), Vl.manyL (l ++ m) = Vl.manyL l + Vl.manyL m
  | [], m => by simp [Vl.manyL]
  | x :: r, m => by rw [List.cons_append, Vl.manyL, Vl.manyL, Vl.manyL_app r m]; omega

mutual
def Vl.same : Vl → Vl → Bool
  | .mk k b t p l, .mk k' b' t' p' l' => (decide (k = k') && (decide (b = b') && (decide (t = t') && decide (p = p')))) && Vl.sameL l l'
def Vl.sameL : List Vl → List Vl → Bool
  | [], [] => true
  | x :: r, y :: s => x.same y && Vl.sameL r s
  | _, _ => false
end
theorem Vl.sameL_iff {l : List Vl} (ih : ∀ x ∈ l, ∀ u : Vl, (x.same u = true ↔ x = u)) : ∀ m, Vl.sameL l m = true ↔ l = m := by
  induction l with
  | nil => intro m; cases m <;> simp [Vl.sameL]
  | cons x r ihr =>
    intro m
    cases m with
    | nil => simp [Vl.sameL]
    | cons y s =>
      rw [Vl.sameL, Bool.and_eq_true, ih x List.mem_cons_self, ihr (fun z hz => ih z (List.mem_cons_of_mem _ hz))]
      simp
theorem Vl.same_iff : ∀ (v u : Vl), v.same u = true ↔ v = u := vl_ind fun k b t p l ih u => by
  cases u with
  | mk k' b' t' p' l' =>
    rw [Vl.same]
    simp only [Bool.and_eq_true, decide_eq_true_eq, Vl.mk.injEq, Vl.sameL_iff ih]
    constructor
    · rintro ⟨⟨a, b, c, d⟩, e⟩; exact ⟨a, b, c, d, e⟩
    · rintro ⟨a, b, c, d, e⟩; exact ⟨⟨a, b, c, d⟩, e⟩
theorem Vl.same_refl (v : Vl) : v.same v = true := (v.same_iff v).2 rfl
theorem Vl.same_eq (v u : Vl) : v.same u = ((decide (v.kind = u.kind) && (decide (v.byte = u.byte) && (decide (v.text = u.text) && decide (v.pick = u.pick)))) && Vl.sameL v.kids u.kids) := by
  cases v; cases u; rw [Vl.same]; rfl
theorem Vl.sameL_len : ∀ {l m : List Vl}, Vl.sameL l m = true → l.length = m.length
  | [], [], _ => rfl
  | x :: r, y :: s, h => by
    rw [Vl.sameL, Bool.and_eq_true] at h
    simp [Vl.sameL_len h.2]
  | [], y :: s, h => by simp [Vl.sameL] at h
  | x :: r, [], h => by simp [Vl.sameL] at h

/-- Only what is told. -/
def Vl.plain (v : Vl) (k b : Int) (t : ByteArray) (p : Int) : Bool := decide (v.kind = k) && (decide (v.byte = b) && (decide (v.text = t) && decide (v.pick = p)))
theorem Vl.plain_iff {v : Vl} {k b : Int} {t : ByteArray} {p : Int} : v.plain k b t p = true ↔ v.kind = k ∧ v.byte = b ∧ v.text = t ∧ v.pick = p := by
  simp [Vl.plain]
/-- Is a byte in a class? -/
def clsWord (c0 c1 c2 c3 b : Int) : Int := if b < 64 then c0 else if b < 128 then c1 else if b < 192 then c2 else c3
def clsHas (c0 c1 c2 c3 b : Int) : Bool := decide (clsWord c0 c1 c2 c3 b / 2 ^ (b % 64).toNat % 2 = 1)
/-- What all of some write, one behind the other. -/
def gath (f : Vl → Option (List UInt8)) (full : Bool) : List Vl → Option (List UInt8)
  | [] => some []
  | x :: r => match f x with
    | none => none
    | some p => if full && p.isEmpty then none else match gath f full r with
      | none => none
      | some q => some (p ++ q)
def byteOf (n : Int) : UInt8 := UInt8.ofNat n.toNat
/-- The word of a value of a description. -/
def T.wr : T → Vl → Option (List UInt8)
  | .void, v => if v.plain 1 0 .empty 0 && v.kids.isEmpty then some [] else none
  | .bytes c0 c1 c2 c3, v => if v.plain 2 v.byte .empty 0 && v.kids.isEmpty && clsHas c0 c1 c2 c3 v.byte then some [byteOf v.byte] else none
  | .text s, v => if v.plain 3 0 s 0 && v.kids.isEmpty then some s.data.toList else none
  | .two k a b, v =>
    if k = 4 then (if v.plain 4 0 .empty 0 then (match v.kids with
      | [x, y] => (match a.wr x, b.wr y with
        | some p, some q => some (p ++ q)
        | _, _ => none)
      | _ => none) else none)
    else if v.plain 5 0 .empty 0 then (match v.kids with
      | [x] => a.wr x
      | _ => none)
    else if v.plain 5 0 .empty 1 then (match v.kids with
      | [x] => b.wr x
      | _ => none)
    else none
  | .one k lo hi a, v =>
    if v.plain k 0 .empty 0 then
      (if k = 6 then gath a.wr true v.kids
       else if k = 7 then (if lo ≤ v.kids.length ∧ (v.kids.length : Int) ≤ hi then gath a.wr true v.kids else none)
       else match v.kids with
        | [x] => (match a.wr x with
          | some p => if k = 8 then (if p.length ≤ 255 then some (byteOf p.length :: p) else none) else (if p.length ≤ 65535 then some (byteOf (p.length / 256) :: byteOf (p.length % 256) :: p) else none)
          | none => none)
        | _ => none)
    else none
/-- The words of classes are words. -/
def T.cok : T → Prop
  | .void => True
  | .bytes c0 c1 c2 c3 => (0 ≤ c0 ∧ c0 < 18446744073709551616) ∧ (0 ≤ c1 ∧ c1 < 18446744073709551616) ∧ (0 ≤ c2 ∧ c2 < 18446744073709551616) ∧ 0 ≤ c3 ∧ c3 < 18446744073709551616
  | .text _ => True
  | .two _ a b => a.cok ∧ b.cok
  | .one _ _ _ a => a.cok
theorem cok_sits {l : List Nd} (h : ∀ i, (l.getD i Nd.z).cok) : ∀ (t : T) (off : Nat), Sits l off t → t.cok
  | .void, _, _ => trivial
  | .bytes c0 c1 c2 c3, off, hs => by
    have := h (off + (T.n (.bytes c0 c1 c2 c3) - 1))
    rw [hs.getD Nd.z] at this
    exact this
  | .text _, _, _ => trivial
  | .two k a b, off, hs => ⟨cok_sits h a _ hs.two1, cok_sits h b _ hs.two2⟩
  | .one k lo hi a, off, hs => cok_sits h a _ hs.one1
theorem encB_byteOf {n : Int} (h0 : 0 ≤ n) (h1 : n ≤ 255) : encB (byteOf n) = [.int .u8 n] := by
  simp only [encB, byteOf, UInt8.toNat_ofNat', List.cons.injEq, D.int.injEq, true_and, and_true]
  omega
theorem gath_len {f : Vl → Option (List UInt8)} {full : Bool} {B : Vl → Nat} : ∀ {l : List Vl} {w : List UInt8}, (∀ x ∈ l, ∀ p, f x = some p → p.length ≤ 3 * B x) → gath f full l = some w → w.length ≤ 3 * (l.map B).sum
  | [], w, _, h => by simp [gath] at h; subst h; simp
  | x :: r, w, hb, h => by
    rw [gath] at h
    cases hf : f x with
    | none => rw [hf] at h; cases h
    | some p =>
      rw [hf] at h
      simp only at h
      split at h
      · cases h
      · cases hg : gath f full r with
        | none => rw [hg] at h; cases h
        | some q =>
          rw [hg] at h
          injection h with h
          subst h
          have h1 := hb x List.mem_cons_self p hf
          have h2 := gath_len (fun y hy => hb y (List.mem_cons_of_mem _ hy)) hg
          simp only [List.length_append, List.map_cons, List.sum_cons]
          omega
theorem bulkL_sum : ∀ l : List Vl, Vl.bulkL l = (l.map Vl.bulk).sum
  | [] => rfl
  | x :: r => by rw [Vl.bulkL, bulkL_sum r]; rfl
/-- A word is no longer than three times the value's bulk. -/
theorem T.wr_len : ∀ {t : T} {v : Vl} {w : List UInt8}, t.wr v = some w → w.length ≤ 3 * v.bulk
  | .void, v, w, h => by
    rw [T.wr] at h; split at h
    · injection h with h; subst h; simp
    · cases h
  | .bytes .., v, w, h => by
    rw [T.wr] at h; split at h
    · injection h with h; subst h
      have := v.bulk_eq
      simp only [List.length_cons, List.length_nil]; omega
    · cases h
  | .text s, v, w, h => by
    rw [T.wr] at h; split at h
    · rename_i hc
      simp only [Bool.and_eq_true, Vl.plain_iff] at hc
      injection h with h; subst h
      have := v.bulk_eq
      rw [hc.1.2.2.1] at this
      have e : s.data.toList.length = s.size := by rw [Array.length_toList]; rfl
      omega
    · cases h
  | .two k a b, v, w, h => by
    have hb := v.bulk_eq
    rw [T.wr] at h
    split at h
    · split at h
      · split at h
        · rename_i x y hk
          rw [hk, Vl.bulkL, Vl.bulkL, Vl.bulkL] at hb
          split at h
          · rename_i p q hp hq
            injection h with h; subst h
            have := T.wr_len hp
            have := T.wr_len hq
            rw [List.length_append]; omega
          · cases h
        · cases h
      · cases h
    · split at h
      · split at h
        · rename_i x hk
          rw [hk, Vl.bulkL, Vl.bulkL] at hb
          have := T.wr_len h
          omega
        · cases h
      · split at h
        · split at h
          · rename_i x hk
            rw [hk, Vl.bulkL, Vl.bulkL] at hb
            have := T.wr_len h
            omega
          · cases h
        · cases h
  | .one k lo hi a, v, w, h => by
    have hb := v.bulk_eq
    rw [T.wr] at h
    have hg : ∀ {full : Bool} {w : List UInt8}, gath a.wr full v.kids = some w → w.length ≤ 3 * v.bulk := fun {full w} hg => by
      have := gath_len (B := Vl.bulk) (fun x _ p hp => T.wr_len hp) hg
      rw [bulkL_sum] at hb
      omega
    split at h
    · split at h
      · exact hg h
      · split at h
        · split at h
          · exact hg h
          · cases h
        · split at h
          · rename_i x hk
            rw [hk, Vl.bulkL, Vl.bulkL] at hb
            split at h
            · rename_i p hp
              have := T.wr_len hp
              split at h
              · split at h
                · injection h with h; subst h; simp only [List.length_cons]; omega
                · cases h
              · split at h
                · injection h with h; subst h; simp only [List.length_cons]; omega
                · cases h
            · cases h
          · cases h
    · cases h
end Go.Proofs.Ytpibdbjlilpfiaa
/- What counting finds, as plain lists. -/
namespace Go.Proofs.Ytpibdbjlilpfiaa
set_option linter.all false
open Go

/-- A value more, if there are few, and it is another one. -/
def addV (l : List Vl) (v : Vl) : List Vl := if 2 ≤ l.length then l else if l.any (fun u => u.same v) then l else l ++ [v]
theorem addV_len {l : List Vl} {v : Vl} (h : l.length ≤ 2) : (addV l v).length ≤ 2 := by
  unfold addV
  split
  · exact h
  · split
    · exact h
    · simp; omega
def addsV (l m : List Vl) : List Vl := m.foldl addV l
theorem addsV_len : ∀ {m l : List Vl}, l.length ≤ 2 → (addsV l m).length ≤ 2
  | [], _, h => h
  | v :: m, l, h => addsV_len (m := m) (addV_len h)
theorem addsV_cons {l m : List Vl} {v : Vl} : addsV l (v :: m) = addsV (addV l v) m := rfl
theorem addsV_app {l m n : List Vl} : addsV l (m ++ n) = addsV (addsV l m) n := List.foldl_append
def wrapV (kind pick : Int) (l : List Vl) : List Vl := l.map fun v => .mk kind 0 .empty pick [v]
/-- What two parts find, one behind the other. -/
def crossL (A B : List UInt8 → List Vl) (J : Vl → Vl → Vl) (from' : Nat) (p : List UInt8) : List Vl := (List.range' from' (p.length + 1 - from')).flatMap fun mid => (B (p.drop mid)).flatMap fun y => (A (p.take mid)).map fun x => J x y
def crossV (A B : List UInt8 → List Vl) (J : Vl → Vl → Vl) (from' : Nat) (p : List UInt8) : List Vl := addsV [] (crossL A B J from' p)
def manyV (F : List UInt8 → List Vl) (k : Int) : Nat → Int → Int → List UInt8 → List Vl
  | 0, _, _, _ => []
  | fuel + 1, lo, hi, p =>
    let out := if p = [] ∧ (k = 6 ∨ lo = 0) then [Vl.mk k 0 .empty 0 []] else []
    if k = 7 ∧ hi = 0 then out
    else addsV out (crossV F (manyV F k fuel (max (lo - 1) 0) (max (hi - 1) 0)) (fun a b => .mk k 0 .empty 0 (a :: b.kids)) 1 p)
theorem fm_congr {α β : Type} {l : List α} {f g : α → List β} (h : ∀ x ∈ l, f x = g x) : l.flatMap f = l.flatMap g := by
  induction l with
  | nil => rfl
  | cons x r ih => rw [List.flatMap_cons, List.flatMap_cons, h x List.mem_cons_self, ih fun y hy => h y (List.mem_cons_of_mem _ hy)]
theorem manyV_fuel {F : List UInt8 → List Vl} {k : Int} : ∀ {n m : Nat} {lo hi : Int} {p : List UInt8}, p.length < n → p.length < m → manyV F k n lo hi p = manyV F k m lo hi p
  | 0, _, _, _, _, h, _ => absurd h (Nat.not_lt_zero _)
  | _, 0, _, _, _, _, h => absurd h (Nat.not_lt_zero _)
  | n + 1, m + 1, lo, hi, p, h1, h2 => by
    have e : crossV F (manyV F k n (max (lo - 1) 0) (max (hi - 1) 0)) (fun a b => .mk k 0 .empty 0 (a :: b.kids)) 1 p = crossV F (manyV F k m (max (lo - 1) 0) (max (hi - 1) 0)) (fun a b => .mk k 0 .empty 0 (a :: b.kids)) 1 p := by
      unfold crossV crossL
      congr 1
      refine fm_congr fun mid hm => ?_
      have := (List.mem_range'_1.1 hm).1
      have h3 := (List.mem_range'_1.1 hm).2
      rw [manyV_fuel (n := n) (m := m) (by rw [List.length_drop]; omega) (by rw [List.length_drop]; omega)]
    simp only [manyV, e]
/-- The number that bytes tell. -/
def told (p : List UInt8) : Nat := p.foldl (fun n b => n * 256 + b.toNat) 0
def frameV (k : Int) (F : List UInt8 → List Vl) (head : Nat) (p : List UInt8) : List Vl := if p.length < head ∨ told (p.take head) ≠ p.length - head then [] else wrapV k 0 (F (p.drop head))
def T.fnd : T → List UInt8 → List Vl
  | .void, p => if p = [] then [.mk 1 0 .empty 0 []] else []
  | .bytes c0 c1 c2 c3, p => match p with
    | [b] => if clsHas c0 c1 c2 c3 b.toNat then [.mk 2 b.toNat .empty 0 []] else []
    | _ => []
  | .text s, p => if p = s.data.toList then [.mk 3 0 s 0 []] else []
  | .two k a b, p => if k = 4 then crossV a.fnd b.fnd (fun x y => .mk k 0 .empty 0 [x, y]) 0 p else addsV (wrapV k 0 (a.fnd p)) (wrapV k 1 (b.fnd p))
  | .one k lo hi a, p => if k = 6 ∨ k = 7 then manyV a.fnd k (p.length + 1) lo hi p else frameV k a.fnd (if k = 8 then 1 else 2) p
/-- A repeat, with other bounds. -/
def T.at' (lo hi : Int) : T → T
  | .one k lo' hi' a => if k = 6 ∨ k = 7 then .one k lo hi a else .one k lo' hi' a
  | t => t
theorem wrapV_len {k p : Int} {l : List Vl} : (wrapV k p l).length = l.length := by simp [wrapV]
theorem manyV_len {F : List UInt8 → List Vl} {k : Int} : ∀ {n : Nat} {lo hi : Int} {p : List UInt8}, (manyV F k n lo hi p).length ≤ 2
  | 0, _, _, _ => by simp [manyV]
  | n + 1, lo, hi, p => by
    have h : (if p = [] ∧ (k = 6 ∨ lo = 0) then [Vl.mk k 0 .empty 0 []] else []).length ≤ 2 := by split <;> simp
    simp only [manyV]
    split
    · exact h
    · exact addsV_len h
theorem T.fnd_len : ∀ (t : T) (p : List UInt8), (t.fnd p).length ≤ 2
  | .void, p => by unfold T.fnd; split <;> simp
  | .bytes c0 c1 c2 c3, p => by unfold T.fnd; split; (split <;> simp); simp
  | .text s, p => by unfold T.fnd; split <;> simp
  | .two k a b, p => by
    unfold T.fnd
    split
    · exact addsV_len (by simp)
    · exact addsV_len (by rw [wrapV_len]; exact a.fnd_len p)
  | .one k lo hi a, p => by
    unfold T.fnd
    split
    · exact manyV_len
    · generalize (if k = 8 then 1 else 2) = hd
      unfold frameV
      split
      · simp
      · rw [wrapV_len]; exact a.fnd_len _
end Go.Proofs.Ytpibdbjlilpfiaa
