/- count: how much counting finds; where it looks. -/
import Derived.Test.YtpibdbjlilpfiaaCntG
namespace Go.Proofs.Ytpibdbjlilpfiaa
set_option linter.all false
open Go Go.RowKit
open Nat (reduceEqDiff reduceAdd reduceMul reduceSub reduceLeDiff)
open Int (reduceEq reduceLT reduceLE)

def cap (n m : Nat) : Nat := n * max 1 (2 * m)
theorem crossL_mem {A B : List UInt8 → List Vl} {J : Vl → Vl → Vl} {f : Nat} {p : List UInt8} {u : Vl} : u ∈ crossL A B J f p ↔ ∃ m x y, f ≤ m ∧ m ≤ p.length ∧ x ∈ A (p.take m) ∧ y ∈ B (p.drop m) ∧ u = J x y := by
  simp only [crossL, List.mem_flatMap, List.mem_map, List.mem_range'_1]
  constructor
  · rintro ⟨m, ⟨h1, h2⟩, y, hy, x, hx, rfl⟩
    exact ⟨m, x, y, h1, by omega, hx, hy, rfl⟩
  · rintro ⟨m, x, y, h1, h2, hx, hy, rfl⟩
    exact ⟨m, ⟨h1, by omega⟩, y, hy, x, hx, rfl⟩
theorem wrapV_mem {k p : Int} {l : List Vl} {u : Vl} : u ∈ wrapV k p l ↔ ∃ x ∈ l, u = .mk k 0 .empty p [x] := by
  simp only [wrapV, List.mem_map]
  constructor
  · rintro ⟨x, hx, rfl⟩; exact ⟨x, hx, rfl⟩
  · rintro ⟨x, hx, rfl⟩; exact ⟨x, hx, rfl⟩
theorem mk_bulk {k b p : Int} {l : List Vl} : (Vl.mk k b .empty p l).bulk = 1 + Vl.bulkL l := by
  rw [Vl.bulk]
  rfl
theorem bulk1 {x : Vl} : Vl.bulkL [x] = x.bulk := by rw [Vl.bulkL, Vl.bulkL]; rfl
theorem bulk2 {x y : Vl} : Vl.bulkL [x, y] = x.bulk + y.bulk := by rw [Vl.bulkL, bulk1]
theorem join_bulk {k : Int} {x y : Vl} : (Vl.mk k 0 .empty 0 (x :: y.kids)).bulk ≤ x.bulk + y.bulk := by
  rw [mk_bulk, Vl.bulkL, y.bulk_eq]
  omega
theorem many_bulk {F : List UInt8 → List Vl} {k : Int} {c : Nat} (hF : ∀ q, ∀ v ∈ F q, v.bulk ≤ cap c q.length) : ∀ (n : Nat) {lo hi : Int} {p : List UInt8}, ∀ v ∈ manyV F k n lo hi p, v.bulk ≤ 1 + 2 * c * p.length := by
  intro n
  induction n with
  | zero => intro lo hi p v hv; simp [manyV] at hv
  | succ n ih =>
    intro lo hi p v hv
    have h0 : ∀ u ∈ (if p = [] ∧ (k = 6 ∨ lo = 0) then [Vl.mk k 0 .empty 0 []] else []), u.bulk ≤ 1 + 2 * c * p.length := fun u hu => by
      split at hu
      · rw [List.mem_singleton.1 hu, mk_bulk, Vl.bulkL]; omega
      · cases hu
    rw [manyV] at hv
    split at hv
    · exact h0 v hv
    · rcases addsV_mem hv with hv | hv
      · exact h0 v hv
      · rcases addsV_mem hv with hv | hv
        · cases hv
        · obtain ⟨m, x, y, h1, h2, hx, hy, rfl⟩ := crossL_mem.1 hv
          have b1 := hF _ x hx
          have b2 := ih _ hy
          rw [List.length_take, Nat.min_eq_left h2, cap, Nat.max_eq_right (by omega)] at b1
          rw [List.length_drop] at b2
          have b3 := @join_bulk k x y
          have e : 2 * c * p.length = c * (2 * m) + 2 * c * (p.length - m) := by
            rw [Nat.mul_comm 2 c, Nat.mul_assoc, Nat.mul_assoc, ← Nat.mul_add]
            congr 1
            omega
          omega
theorem cap_mono {n n' m m' : Nat} (h : n ≤ n') (h' : m ≤ m') : cap n m ≤ cap n' m' := Nat.mul_le_mul h (by omega)
theorem cap_succ {n m : Nat} : cap (n + 1) m = cap n m + max 1 (2 * m) := by rw [cap, cap, Nat.succ_mul]
theorem cap_add {n n' m m' : Nat} : 1 + cap n m + cap n' m' ≤ cap (n + n' + 1) (m + m') := by
  have h1 := cap_mono (Nat.le_refl n) (Nat.le_add_right m m')
  have h2 := cap_mono (Nat.le_refl n') (Nat.le_add_left m' m)
  have h3 : cap (n + n' + 1) (m + m') = cap n (m + m') + cap n' (m + m') + max 1 (2 * (m + m')) := by
    rw [cap_succ, cap, cap, cap, Nat.add_mul]
  omega
theorem T.fnd_bulk : ∀ (t : T) (p : List UInt8), ∀ v ∈ t.fnd p, v.bulk ≤ cap t.n p.length := by
  intro t
  induction t with
  | void =>
    intro p v hv
    rw [T.fnd] at hv
    split at hv
    · rw [List.mem_singleton.1 hv, mk_bulk, Vl.bulkL, cap, T.n]; omega
    · cases hv
  | bytes c0 c1 c2 c3 =>
    intro p v hv
    unfold T.fnd at hv
    split at hv
    · split at hv
      · rw [List.mem_singleton.1 hv, mk_bulk, Vl.bulkL, cap, T.n]; omega
      · cases hv
    · cases hv
  | text s =>
    intro p v hv
    rw [T.fnd] at hv
    split at hv
    · rename_i h
      rw [List.mem_singleton.1 hv, Vl.bulk, Vl.bulkL, cap, T.n]
      have : s.size = p.length := by rw [h, Array.length_toList]; rfl
      omega
    · cases hv
  | two k a b iha ihb =>
    intro p v hv
    rw [T.fnd] at hv
    rw [T.n]
    split at hv
    · rcases addsV_mem hv with hv | hv
      · cases hv
      · obtain ⟨m, x, y, h1, h2, hx, hy, rfl⟩ := crossL_mem.1 hv
        have b1 := iha _ x hx
        have b2 := ihb _ y hy
        rw [List.length_take, Nat.min_eq_left h2] at b1
        rw [List.length_drop] at b2
        rw [mk_bulk, bulk2]
        have := @cap_add a.n b.n m (p.length - m)
        rw [Nat.add_sub_cancel' h2] at this
        omega
    · have c1 := @cap_mono a.n (a.n + b.n) p.length p.length (by omega) (Nat.le_refl _)
      have c2 := @cap_mono b.n (a.n + b.n) p.length p.length (by omega) (Nat.le_refl _)
      rw [cap_succ]
      rcases addsV_mem hv with hv | hv
      · obtain ⟨x, hx, rfl⟩ := wrapV_mem.1 hv
        have b1 := iha _ x hx
        rw [mk_bulk, bulk1]
        omega
      · obtain ⟨x, hx, rfl⟩ := wrapV_mem.1 hv
        have b1 := ihb _ x hx
        rw [mk_bulk, bulk1]
        omega
  | one k lo hi a iha =>
    intro p v hv
    rw [T.fnd] at hv
    rw [T.n]
    split at hv
    · have b1 := many_bulk iha _ v hv
      rw [cap_succ]
      have : 2 * a.n * p.length ≤ cap a.n p.length := by
        rw [cap, Nat.mul_comm 2, Nat.mul_assoc]
        exact Nat.mul_le_mul_left _ (by omega)
      omega
    · generalize (if k = 8 then 1 else 2) = hd at hv
      rw [frameV] at hv
      split at hv
      · cases hv
      · obtain ⟨x, hx, rfl⟩ := wrapV_mem.1 hv
        have b1 := iha _ x hx
        have c1 := @cap_mono a.n a.n (p.drop hd).length p.length (Nat.le_refl _) (by rw [List.length_drop]; omega)
        rw [mk_bulk, bulk1, cap_succ]
        omega
theorem T.at_self (t : T) (off : Nat) : t.at' (t.root off).lo (t.root off).hi = t := by
  cases t with
  | one k lo hi a => simp only [T.at', T.root]; split <;> rfl
  | _ => rfl
theorem T.at_n (t : T) (lo hi : Int) : (t.at' lo hi).n = t.n := by
  cases t with
  | one k lo hi a => simp only [T.at']; split <;> rfl
  | _ => rfl
theorem root_bd {t : T} {txt : ByteArray → Prop} (h : t.ok txt) (off : Nat) : (0 ≤ (t.root off).lo ∧ (t.root off).lo ≤ 255) ∧ 0 ≤ (t.root off).hi ∧ (t.root off).hi ≤ 255 := by
  cases t with
  | one k lo hi a =>
    have := h.1
    simp only [T.root]
    omega
  | _ => simp [T.root]
theorem part_take {w : List UInt8} {a to m : Nat} (h : a + m ≤ to) : (part' w a to).take m = part' w a (a + m) := by
  unfold part'
  rw [List.take_take, Nat.min_eq_left (by omega), Nat.add_sub_cancel_left]
theorem part_drop {w : List UInt8} {a to m : Nat} : (part' w a to).drop m = part' w (a + m) to := by
  unfold part'
  rw [List.drop_take, List.drop_drop, show to - a - m = to - (a + m) by omega]
theorem cross_part {w : List UInt8} {F G : List UInt8 → List Vl} {J : Vl → Vl → Vl} {a to f : Nat} (h : a ≤ to) (hto : to ≤ w.length) : allL (fun mid => F (part' w a mid)) (fun mid => G (part' w mid to)) J (a + f) (to + 1 - (a + f)) = crossL F G J f (part' w a to) := by
  unfold allL crossL
  rw [part_len hto, show List.range' (a + f) (to + 1 - (a + f)) = (List.range' f (to - a + 1 - f)).map (a + ·) by
    rw [List.map_add_range']
    congr 1
    omega, List.flatMap_map]
  refine fm_congr fun m hm => ?_
  have h1 := List.mem_range'_1.1 hm
  rw [atL, part_take (by omega), part_drop]
theorem part_nil {w : List UInt8} {a to : Nat} (h : a ≤ to) (hto : to ≤ w.length) : part' w a to = [] ↔ a = to := by
  rw [← List.length_eq_zero_iff, part_len hto]
  omega
theorem many_step {F : List UInt8 → List Vl} {k lo hi : Int} {w : List UInt8} {a to : Nat} (h : a ≤ to) (hto : to ≤ w.length) : (if k = 7 ∧ hi = 0 then many0 k lo (decide (a = to)) else addsV (many0 k lo (decide (a = to))) (addsV [] (allL (fun mid => F (part' w a mid)) (fun mid => manyV F k ((part' w mid to).length + 1) (max (lo - 1) 0) (max (hi - 1) 0) (part' w mid to)) (fun x y => .mk k 0 .empty 0 (x :: y.kids)) (a + 1) (to - a)))) = manyV F k ((part' w a to).length + 1) lo hi (part' w a to) := by
  rw [manyV]
  have e0 : (if part' w a to = [] ∧ (k = 6 ∨ lo = 0) then [Vl.mk k 0 .empty 0 []] else []) = many0 k lo (decide (a = to)) := by
    unfold many0
    simp only [part_nil h hto, decide_eq_true_eq]
  rw [e0]
  by_cases hz : k = 7 ∧ hi = 0
  · rw [if_pos hz]
    simp only [if_pos hz]
  · rw [if_neg hz]
    simp only [if_neg hz]
    congr 1
    rw [crossV]
    congr 1
    have := cross_part (F := F) (G := fun q => manyV F k (q.length + 1) (max (lo - 1) 0) (max (hi - 1) 0) q) (J := fun x y => .mk k 0 .empty 0 (x :: y.kids)) (f := 1) h hto
    rw [show to - a = to + 1 - (a + 1) by omega, this]
    unfold crossL
    refine fm_congr fun m hm => ?_
    have h1 := List.mem_range'_1.1 hm
    have h2 := part_len (a := a) hto
    show List.flatMap _ (manyV F k (((part' w a to).drop m).length + 1) (max (lo - 1) 0) (max (hi - 1) 0) ((part' w a to).drop m)) = _
    rw [manyV_fuel (n := ((part' w a to).drop m).length + 1) (m := (part' w a to).length) (p := (part' w a to).drop m) (by omega) (by rw [List.length_drop]; omega)]
end Go.Proofs.Ytpibdbjlilpfiaa
