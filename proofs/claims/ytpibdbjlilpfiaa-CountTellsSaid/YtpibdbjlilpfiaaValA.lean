/- Values: a byte in a class; bare, plain; how many. -/
import Derived.Test.YtpibdbjlilpfiaaTab
import Derived.Test.YtpibdbjlilpfiaaVal
import Derived.Laws.Bits64
namespace Go.Proofs.Ytpibdbjlilpfiaa
set_option linter.all false
open Go Go.RowKit
open Nat (reduceEqDiff reduceAdd reduceMul reduceSub reduceLeDiff)
open Int (reduceEq reduceLT reduceLE)

/-- A class. -/
def cls (c0 c1 c2 c3 : Int) : D := .agg [.int .u64 c0, .int .u64 c1, .int .u64 c2, .int .u64 c3]
attribute [go_sem] cls
theorem and_one {a : Int} (h0 : 0 ≤ a) (h1 : a < 18446744073709551616) : IntKind.u64.wrap (BitVec.ofInt 64 a &&& BitVec.ofInt 64 1).toNat = a % 2 := by
  have e1 : (BitVec.ofInt 64 a).toNat = a.toNat := by
    rw [BitVec.toNat_ofInt]; omega
  have e2 : (BitVec.ofInt 64 1).toNat = 1 := by decide
  rw [BitVec.toNat_and, e1, e2, Nat.and_one_is_mod, IntKind.wrap_u64]
  omega
theorem shr_bd {c : Int} (h : 0 ≤ c ∧ c < 18446744073709551616) (m : Nat) : 0 ≤ c / 2 ^ m ∧ c / 2 ^ m < 18446744073709551616 := by
  have hp : (0 : Int) < 2 ^ m := Int.pow_pos (by decide)
  refine ⟨Int.ediv_nonneg h.1 (by omega), ?_⟩
  have := Int.ediv_le_self (2 ^ m) h.1
  omega
theorem has_eq {c b : Int} (h : 0 ≤ c ∧ c < 18446744073709551616) (hb : 0 ≤ b ∧ b ≤ 255) :
    IntKind.u64.wrap (BitVec.ofInt IntKind.u64.bits (c.fdiv (2 ^ min (b.tmod 64).toNat IntKind.u64.bits)) &&& BitVec.ofInt IntKind.u64.bits 1).toNat = c / 2 ^ (b % 64).toNat % 2 := by
  have e1 : b.tmod 64 = b % 64 := Int.tmod_eq_emod_of_nonneg hb.1
  have e2 : min (b % 64).toNat IntKind.u64.bits = (b % 64).toNat := by
    have : IntKind.u64.bits = 64 := rfl
    omega
  rw [e1, e2, Int.fdiv_eq_ediv_of_nonneg _ (Int.le_of_lt (Int.pow_pos (by decide)))]
  have := shr_bd h (b % 64).toNat
  exact and_one this.1 this.2
@[go_sem] def lv48 : List (Nat × List Nat) := [(0, [1, 2]), (1, [4])]
set_option maxRecDepth 4000 in
theorem c_has {gl} {c0 c1 c2 c3 b : Int} (h0 : 0 ≤ c0 ∧ c0 < 18446744073709551616) (h1 : 0 ≤ c1 ∧ c1 < 18446744073709551616) (h2 : 0 ≤ c2 ∧ c2 < 18446744073709551616) (h3 : 0 ≤ c3 ∧ c3 < 18446744073709551616) (hb : 0 ≤ b ∧ b ≤ 255) :
    PCon Try.prog gl 48 [cls c0 c1 c2 c3, .int .u8 b] (.bool (clsHas c0 c1 c2 c3 b)) := by
  have hq : b.tdiv 64 = b / 64 := Int.tdiv_eq_ediv_of_nonneg hb.1
  refine PCon.enter tb_ok (fn := Try.f48) (by kernel_rfl) (by kernel_rfl) rfl (by show 2 ≤ 14; decide) ?_
  repeat' first | refine Z1 fun _ _ => ?_ | refine Z2 ‹_› ?_ | ((first | refine Z3 tb_ok lv48 rfl ?_ | refine Zr rfl ?_); simp only [↓reduceIte, reduceCtorEq, reduceEqDiff, reduceAdd, reduceMul, reduceSub, reduceLeDiff, reduceEq, reduceLT, reduceLE, go_sem]) | refine ZS rfl ?_ | refine ZH ?_ | fail
  rcases (by omega : b < 64 ∨ (64 ≤ b ∧ b < 128) ∨ (128 ≤ b ∧ b < 192) ∨ 192 ≤ b) with h | h | h | h
  · have e : IntKind.u8.wrap (b.tdiv 64) = 0 := by rw [hq, IntKind.wrap_u8]; omega
    rw [e]
    refine idx_arr rfl rfl rfl rfl rfl (by decide) (by decide) ?_
    simp only [show (0 + Int.toNat 0 * 1) = 0 from rfl]
    simp only [↓reduceIte, reduceCtorEq, reduceEqDiff, reduceAdd, reduceMul, reduceSub, reduceLeDiff, reduceEq, reduceLT, reduceLE, go_sem]
    refine ⟨Int.tmod_nonneg _ hb.1, ?_⟩
    repeat' first | refine Z1 fun _ _ => ?_ | refine Z2 ‹_› ?_ | ((first | refine Z3 tb_ok lv48 rfl ?_ | refine Zr rfl ?_); simp only [↓reduceIte, reduceCtorEq, reduceEqDiff, reduceAdd, reduceMul, reduceSub, reduceLeDiff, reduceEq, reduceLT, reduceLE, go_sem]) | refine ZS rfl ?_ | refine ZH ?_ | fail
    refine (congrArg (fun z : Int => decide (z = 1)) (has_eq h0 hb)).trans ?_
    rw [clsHas, clsWord]
    rw [if_pos h]
  · have e : IntKind.u8.wrap (b.tdiv 64) = 1 := by rw [hq, IntKind.wrap_u8]; omega
    rw [e]
    refine idx_arr rfl rfl rfl rfl rfl (by decide) (by decide) ?_
    simp only [show (0 + Int.toNat 1 * 1) = 1 from rfl]
    simp only [↓reduceIte, reduceCtorEq, reduceEqDiff, reduceAdd, reduceMul, reduceSub, reduceLeDiff, reduceEq, reduceLT, reduceLE, go_sem]
    refine ⟨Int.tmod_nonneg _ hb.1, ?_⟩
    repeat' first | refine Z1 fun _ _ => ?_ | refine Z2 ‹_› ?_ | ((first | refine Z3 tb_ok lv48 rfl ?_ | refine Zr rfl ?_); simp only [↓reduceIte, reduceCtorEq, reduceEqDiff, reduceAdd, reduceMul, reduceSub, reduceLeDiff, reduceEq, reduceLT, reduceLE, go_sem]) | refine ZS rfl ?_ | refine ZH ?_ | fail
    refine (congrArg (fun z : Int => decide (z = 1)) (has_eq h1 hb)).trans ?_
    rw [clsHas, clsWord]
    rw [if_neg (by omega), if_pos h.2]
  · have e : IntKind.u8.wrap (b.tdiv 64) = 2 := by rw [hq, IntKind.wrap_u8]; omega
    rw [e]
    refine idx_arr rfl rfl rfl rfl rfl (by decide) (by decide) ?_
    simp only [show (0 + Int.toNat 2 * 1) = 2 from rfl]
    simp only [↓reduceIte, reduceCtorEq, reduceEqDiff, reduceAdd, reduceMul, reduceSub, reduceLeDiff, reduceEq, reduceLT, reduceLE, go_sem]
    refine ⟨Int.tmod_nonneg _ hb.1, ?_⟩
    repeat' first | refine Z1 fun _ _ => ?_ | refine Z2 ‹_› ?_ | ((first | refine Z3 tb_ok lv48 rfl ?_ | refine Zr rfl ?_); simp only [↓reduceIte, reduceCtorEq, reduceEqDiff, reduceAdd, reduceMul, reduceSub, reduceLeDiff, reduceEq, reduceLT, reduceLE, go_sem]) | refine ZS rfl ?_ | refine ZH ?_ | fail
    refine (congrArg (fun z : Int => decide (z = 1)) (has_eq h2 hb)).trans ?_
    rw [clsHas, clsWord]
    rw [if_neg (by omega), if_neg (by omega), if_pos h.2]
  · have e : IntKind.u8.wrap (b.tdiv 64) = 3 := by rw [hq, IntKind.wrap_u8]; omega
    rw [e]
    refine idx_arr rfl rfl rfl rfl rfl (by decide) (by decide) ?_
    simp only [show (0 + Int.toNat 3 * 1) = 3 from rfl]
    simp only [↓reduceIte, reduceCtorEq, reduceEqDiff, reduceAdd, reduceMul, reduceSub, reduceLeDiff, reduceEq, reduceLT, reduceLE, go_sem]
    refine ⟨Int.tmod_nonneg _ hb.1, ?_⟩
    repeat' first | refine Z1 fun _ _ => ?_ | refine Z2 ‹_› ?_ | ((first | refine Z3 tb_ok lv48 rfl ?_ | refine Zr rfl ?_); simp only [↓reduceIte, reduceCtorEq, reduceEqDiff, reduceAdd, reduceMul, reduceSub, reduceLeDiff, reduceEq, reduceLT, reduceLE, go_sem]) | refine ZS rfl ?_ | refine ZH ?_ | fail
    refine (congrArg (fun z : Int => decide (z = 1)) (has_eq h3 hb)).trans ?_
    rw [clsHas, clsWord]
    rw [if_neg (by omega), if_neg (by omega), if_neg (by omega)]
@[go_sem] def lv39 : List (Nat × List Nat) := [(0, [2, 3]), (1, [4])]
set_option maxRecDepth 4000 in
theorem c_bare {gl} {v u : Vl} : PCon Try.prog gl 39 [val v, val u] (.bool (v.plain u.kind u.byte u.text u.pick)) := by
  refine PCon.enter tb_ok (fn := Try.f39) (by kernel_rfl) (by kernel_rfl) rfl (by show 2 ≤ 31; decide) ?_
  repeat' first | refine Z1 fun _ _ => ?_ | refine Z2 ‹_› ?_ | ((first | refine Z3 tb_ok lv39 rfl ?_ | refine Zr rfl ?_); simp only [↓reduceIte, reduceCtorEq, reduceEqDiff, reduceAdd, reduceMul, reduceSub, reduceLeDiff, reduceEq, reduceLT, reduceLE, go_sem]) | refine ZS rfl ?_ | refine ZH ?_ | fail
  repeat' first | (refine .split rfl (fun hg => ?_) (fun hg => ?_) <;> simp only [↓reduceIte, reduceCtorEq, reduceEqDiff, reduceAdd, reduceMul, reduceSub, reduceLeDiff, reduceEq, reduceLT, reduceLE, go_sem, hg]) | fail
  all_goals repeat' first | refine Z1 fun _ _ => ?_ | refine Z2 ‹_› ?_ | ((first | refine Z3 tb_ok lv39 rfl ?_ | refine Zr rfl ?_); simp only [↓reduceIte, reduceCtorEq, reduceEqDiff, reduceAdd, reduceMul, reduceSub, reduceLeDiff, reduceEq, reduceLT, reduceLE, go_sem]) | refine ZS rfl ?_ | refine ZH ?_ | fail
  all_goals simp [Vl.plain, *]
@[go_sem] def lv51 : List (Nat × List Nat) := [(0, [1, 2, 3, 4, 5, 6]), (1, [12])]
theorem getD_mem {l : List Vl} {i : Nat} (hi : i < l.length) : l.getD i Vl.z ∈ l := by rw [List.getD_eq_getElem?_getD, List.getElem?_eq_getElem hi]; exact List.getElem_mem hi
theorem kids_bd {k b : Int} {t : ByteArray} {p : Int} {l : List Vl} {B : Nat} (hb : (Vl.mk k b t p l).bulk ≤ B) : l.length < B ∧ Vl.manyL l < B ∧ t.size < B ∧ ∀ i, i < l.length → (l.getD i Vl.z).bulk < B := by
  rw [Vl.bulk] at hb
  have h1 := Vl.bulkL_len (l := l)
  have h2 := Vl.many_le (.mk 0 0 .empty 0 l)
  rw [Vl.many, Vl.bulk] at h2
  have h3 : ByteArray.empty.size = 0 := rfl
  refine ⟨by omega, by omega, by omega, fun i hi => ?_⟩
  have := Vl.bulkL_mem (getD_mem hi)
  omega
@[go_sem] def lv21 : List (Nat × List Nat) := [(0, [1]), (1, [1, 3]), (2, [3, 7, 8, 9]), (3, [3, 7, 8, 9, 10]), (4, [3, 5, 7, 8, 9]), (5, [3, 7, 8, 9]), (6, [3, 7, 8, 9]), (7, [2])]
@[go_sem] def lv22 : List (Nat × List Nat) := [(0, [1]), (1, [1, 3]), (2, [1, 3, 4]), (3, [1, 3, 4, 9]), (4, [1, 3, 4]), (5, [1, 3, 4]), (6, [2])]
@[go_sem] def lv15 : List (Nat × List Nat) := [(0, [1]), (1, [2])]
theorem sameL_iff' {l m : List Vl} : Vl.sameL l m = true ↔ l = m := Vl.sameL_iff (fun x _ u => x.same_iff u) m
theorem sameL_false {l m : List Vl} {i : Nat} (h : (l.getD i Vl.z).same (m.getD i Vl.z) = false) : Vl.sameL l m = false := by
  cases h2 : Vl.sameL l m with
  | false => rfl
  | true =>
    rw [sameL_iff'.1 h2, Vl.same_refl] at h
    cases h
theorem sameL_true {l m : List Vl} (hl : l.length = m.length) (h : ∀ i, i < l.length → (l.getD i Vl.z).same (m.getD i Vl.z) = true) : Vl.sameL l m = true := by
  rw [sameL_iff']
  apply List.ext_getElem hl
  intro i h1 h2
  have := (Vl.same_iff _ _).1 (h i h1)
  rw [List.getD_eq_getElem?_getD, List.getD_eq_getElem?_getD, List.getElem?_eq_getElem h1, List.getElem?_eq_getElem h2] at this
  exact this
theorem sameL_nlen {l m : List Vl} (hl : l.length ≠ m.length) : Vl.sameL l m = false := by
  cases h2 : Vl.sameL l m with
  | false => rfl
  | true => exact absurd (Vl.sameL_len h2) hl
@[go_sem] def lv40 : List (Nat × List Nat) := [(0, [0, 1, 2]), (1, [0, 1, 2, 14]), (2, [6]), (3, [1, 2, 15, 16, 17]), (4, [1, 2, 15, 16, 17, 18]), (5, [1, 2, 7, 8, 15, 16, 17]), (6, [1, 2, 8, 9, 15, 16, 17]), (7, [1, 2, 15, 16, 17, 30]), (8, [6]), (9, [1, 2, 15, 16, 17]), (10, [6])]
set_option maxRecDepth 4000 in
theorem c_eqf {gl} {l m : List Vl} {f : Nat} {fs cs : List D} (hm : l.length ≤ 1048577) (hf : ∀ i, i < l.length → PCon Try.prog gl f (fs ++ [val (l.getD i Vl.z), val (m.getD i Vl.z)] ++ cs) (.bool ((l.getD i Vl.z).same (m.getD i Vl.z)))) :
    PCon Try.prog gl 40 [vals l, vals m, .fn f fs cs] (.bool (Vl.sameL l m)) := by
  refine PCon.enter tb_ok (fn := Try.f40) (by kernel_rfl) (by kernel_rfl) rfl (by show 3 ≤ 32; decide) ?_
  repeat' first | refine Z1 fun _ _ => ?_ | refine Z2 ‹_› ?_ | ((first | refine Z3 tb_ok lv40 rfl ?_ | refine Zr rfl ?_); simp only [↓reduceIte, reduceCtorEq, reduceEqDiff, reduceAdd, reduceMul, reduceSub, reduceLeDiff, reduceEq, reduceLT, reduceLE, go_sem]) | (refine Z5 rfl ?_; with_reducible first | refine ZT ?_ | refine ZF ?_) | refine ZS rfl ?_ | refine Z9 fun _ _ => ?_ | refine ZH ?_ | refine Zl ‹_› (by decide) ?_ | fail
  refine .cond rfl (fun h => ?_) (fun h => ?_)
  · simp only [decide_eq_true_eq] at h
    repeat' first | refine Z1 fun _ _ => ?_ | refine Z2 ‹_› ?_ | ((first | refine Z3 tb_ok lv40 rfl ?_ | refine Zr rfl ?_); simp only [↓reduceIte, reduceCtorEq, reduceEqDiff, reduceAdd, reduceMul, reduceSub, reduceLeDiff, reduceEq, reduceLT, reduceLE, go_sem]) | (refine Z5 rfl ?_; with_reducible first | refine ZT ?_ | refine ZF ?_) | refine ZS rfl ?_ | refine Z9 fun _ _ => ?_ | refine ZH ?_ | refine Zl ‹_› (by decide) ?_ | fail
    rw [sameL_nlen (by omega)]
  · simp only [decide_eq_false_iff_not] at h
    have hl : l.length = m.length := by omega
    repeat' first | refine Z1 fun _ _ => ?_ | refine Z2 ‹_› ?_ | ((first | refine Z3 tb_ok lv40 rfl ?_ | refine Zr rfl ?_); simp only [↓reduceIte, reduceCtorEq, reduceEqDiff, reduceAdd, reduceMul, reduceSub, reduceLeDiff, reduceEq, reduceLT, reduceLE, go_sem]) | (refine Z5 rfl ?_; with_reducible first | refine ZT ?_ | refine ZF ?_) | refine ZS rfl ?_ | refine Z9 fun _ _ => ?_ | refine ZH ?_ | refine Zl ‹_› (by decide) ?_ | fail
    refine .loopC (α := Nat) (fun i => ⟨[(1, .d (vals m)), (2, .d (.fn f fs cs)), (15, .d (vals l)), (16, .d (.int .i64 l.length)), (17, .d (.int .i64 i))], [], 0⟩) (fun i => i ≤ l.length ∧ ∀ j, j < i → (l.getD j Vl.z).same (m.getD j Vl.z) = true) (fun i => l.length - i) 0 ⟨by omega, fun j hj => by omega⟩ (by simp only [↓reduceIte, reduceCtorEq, reduceEqDiff, reduceAdd, reduceMul, reduceSub, reduceLeDiff, reduceEq, reduceLT, reduceLE, go_sem]; simp) ?_
    rintro i ⟨hi, hall⟩ Q hQ
    repeat' first | refine Z1 fun _ _ => ?_ | refine Z2 ‹_› ?_ | ((first | refine Z3 tb_ok lv40 rfl ?_ | refine Zr rfl ?_); simp only [↓reduceIte, reduceCtorEq, reduceEqDiff, reduceAdd, reduceMul, reduceSub, reduceLeDiff, reduceEq, reduceLT, reduceLE, go_sem]) | (refine Z5 rfl ?_; with_reducible first | refine ZT ?_ | refine ZF ?_) | refine ZS rfl ?_ | refine Z9 fun _ _ => ?_ | refine ZH ?_ | refine Zl ‹_› (by decide) ?_ | fail
    refine .cond rfl (fun h => ?_) (fun h => ?_)
    · simp only [decide_eq_true_eq] at h
      have hlt : i < l.length := by omega
      repeat' first | refine Z1 fun _ _ => ?_ | refine Z2 ‹_› ?_ | ((first | refine Z3 tb_ok lv40 rfl ?_ | refine Zr rfl ?_); simp only [↓reduceIte, reduceCtorEq, reduceEqDiff, reduceAdd, reduceMul, reduceSub, reduceLeDiff, reduceEq, reduceLT, reduceLE, go_sem]) | (refine Z5 rfl ?_; with_reducible first | refine ZT ?_ | refine ZF ?_) | refine ZS rfl ?_ | refine Z9 fun _ _ => ?_ | refine ZH ?_ | refine Zl ‹_› (by decide) ?_ | fail
      refine idx_map Vl.z rfl rfl rfl rfl rfl (by omega) (by omega) (Vl.cells_len _) ?_
      simp only [↓reduceIte, reduceCtorEq, reduceEqDiff, reduceAdd, reduceMul, reduceSub, reduceLeDiff, reduceEq, reduceLT, reduceLE, go_sem]
      repeat' first | refine Z1 fun _ _ => ?_ | refine Z2 ‹_› ?_ | ((first | refine Z3 tb_ok lv40 rfl ?_ | refine Zr rfl ?_); simp only [↓reduceIte, reduceCtorEq, reduceEqDiff, reduceAdd, reduceMul, reduceSub, reduceLeDiff, reduceEq, reduceLT, reduceLE, go_sem]) | (refine Z5 rfl ?_; with_reducible first | refine ZT ?_ | refine ZF ?_) | refine ZS rfl ?_ | refine Z9 fun _ _ => ?_ | refine ZH ?_ | refine Zl ‹_› (by decide) ?_ | fail
      refine idx_map Vl.z rfl rfl rfl rfl rfl (by omega) (by omega) (Vl.cells_len _) ?_
      simp only [↓reduceIte, reduceCtorEq, reduceEqDiff, reduceAdd, reduceMul, reduceSub, reduceLeDiff, reduceEq, reduceLT, reduceLE, go_sem]
      repeat' first | refine Z1 fun _ _ => ?_ | refine Z2 ‹_› ?_ | ((first | refine Z3 tb_ok lv40 rfl ?_ | refine Zr rfl ?_); simp only [↓reduceIte, reduceCtorEq, reduceEqDiff, reduceAdd, reduceMul, reduceSub, reduceLeDiff, reduceEq, reduceLT, reduceLE, go_sem]) | (refine Z5 rfl ?_; with_reducible first | refine ZT ?_ | refine ZF ?_) | refine ZS rfl ?_ | refine Z9 fun _ _ => ?_ | refine ZH ?_ | refine Zl ‹_› (by decide) ?_ | fail
      refine call_pure rfl rfl (hf i hlt) ?_; simp only [↓reduceIte, reduceCtorEq, reduceEqDiff, reduceAdd, reduceMul, reduceSub, reduceLeDiff, reduceEq, reduceLT, reduceLE, go_sem]
      cases hc : (l.getD i Vl.z).same (m.getD i Vl.z) with
      | false =>
        simp only [↓reduceIte, reduceCtorEq, reduceEqDiff, reduceAdd, reduceMul, reduceSub, reduceLeDiff, reduceEq, reduceLT, reduceLE, go_sem]
        repeat' first | refine Z1 fun _ _ => ?_ | refine Z2 ‹_› ?_ | ((first | refine Z3 tb_ok lv40 rfl ?_ | refine Zr rfl ?_); simp only [↓reduceIte, reduceCtorEq, reduceEqDiff, reduceAdd, reduceMul, reduceSub, reduceLeDiff, reduceEq, reduceLT, reduceLE, go_sem]) | (refine Z5 rfl ?_; with_reducible first | refine ZT ?_ | refine ZF ?_) | refine ZS rfl ?_ | refine Z9 fun _ _ => ?_ | refine ZH ?_ | refine Zl ‹_› (by decide) ?_ | fail
        rw [sameL_false hc]
      | true =>
        simp only [↓reduceIte, reduceCtorEq, reduceEqDiff, reduceAdd, reduceMul, reduceSub, reduceLeDiff, reduceEq, reduceLT, reduceLE, go_sem]
        repeat' first | refine Z1 fun _ _ => ?_ | refine Z2 ‹_› ?_ | ((first | refine Z3 tb_ok lv40 rfl ?_ | refine Zr rfl ?_); simp only [↓reduceIte, reduceCtorEq, reduceEqDiff, reduceAdd, reduceMul, reduceSub, reduceLeDiff, reduceEq, reduceLT, reduceLE, go_sem]) | (refine Z5 rfl ?_; with_reducible first | refine ZT ?_ | refine ZF ?_) | refine ZS rfl ?_ | refine Z9 fun _ _ => ?_ | refine ZH ?_ | refine Zl ‹_› (by decide) ?_ | fail
        rw [wrap64 (by omega) (by omega)]
        refine hQ.next (i + 1) ⟨by omega, fun j hj => ?_⟩ (by omega) (by simp only [↓reduceIte, reduceCtorEq, reduceEqDiff, reduceAdd, reduceMul, reduceSub, reduceLeDiff, reduceEq, reduceLT, reduceLE, go_sem]; simp)
        rcases (by omega : j < i ∨ j = i) with h | rfl
        · exact hall j h
        · exact hc
    · simp only [decide_eq_false_iff_not] at h
      repeat' first | refine Z1 fun _ _ => ?_ | refine Z2 ‹_› ?_ | ((first | refine Z3 tb_ok lv40 rfl ?_ | refine Zr rfl ?_); simp only [↓reduceIte, reduceCtorEq, reduceEqDiff, reduceAdd, reduceMul, reduceSub, reduceLeDiff, reduceEq, reduceLT, reduceLE, go_sem]) | (refine Z5 rfl ?_; with_reducible first | refine ZT ?_ | refine ZF ?_) | refine ZS rfl ?_ | refine Z9 fun _ _ => ?_ | refine ZH ?_ | refine Zl ‹_› (by decide) ?_ | fail
      rw [sameL_true hl (fun j hj => hall j (by omega))]
@[go_sem] def lv19 : List (Nat × List Nat) := [(0, [2, 3]), (1, [4])]
set_option maxRecDepth 4000 in
theorem c_same {gl} : ∀ v : Vl, v.bulk ≤ 1048577 → ∀ u : Vl, PCon Try.prog gl 19 [val v, val u] (.bool (v.same u)) := by
  refine vl_ind fun k b t p l ih hb => ?_
  rintro ⟨k', b', t', p', l'⟩
  obtain ⟨b1, b2, b3, b4⟩ := kids_bd hb
  have hsub := fun i (hi : i < l.length) => ih _ (getD_mem hi) (by have := b4 i hi; omega) (l'.getD i Vl.z)
  have hv := Vl.same_eq (.mk k b t p l) (.mk k' b' t' p' l')
  have hbr := c_bare (gl := gl) (v := .mk k b t p l) (u := .mk k' b' t' p' l')
  simp only [go_sem, Vl.plain] at hv hbr
  refine PCon.enter tb_ok (fn := Try.f19) (by kernel_rfl) (by kernel_rfl) rfl (by show 2 ≤ 15; decide) ?_
  repeat' first | refine Z1 fun _ _ => ?_ | refine Z2 ‹_› ?_ | ((first | refine Z3 tb_ok lv19 rfl ?_ | refine Zr rfl ?_); simp only [↓reduceIte, reduceCtorEq, reduceEqDiff, reduceAdd, reduceMul, reduceSub, reduceLeDiff, reduceEq, reduceLT, reduceLE, go_sem]) | refine ZS rfl ?_ | refine ZH ?_ | fail
  refine call_pure rfl rfl (hbr) ?_; simp only [↓reduceIte, reduceCtorEq, reduceEqDiff, reduceAdd, reduceMul, reduceSub, reduceLeDiff, reduceEq, reduceLT, reduceLE, go_sem]
  repeat' first | (refine .split rfl (fun hg => ?_) (fun hg => ?_) <;> simp only [↓reduceIte, reduceCtorEq, reduceEqDiff, reduceAdd, reduceMul, reduceSub, reduceLeDiff, reduceEq, reduceLT, reduceLE, go_sem, hg]) | fail
  · refine call_pure rfl rfl (c_eqf (by omega) hsub) ?_; simp only [↓reduceIte, reduceCtorEq, reduceEqDiff, reduceAdd, reduceMul, reduceSub, reduceLeDiff, reduceEq, reduceLT, reduceLE, go_sem]
    repeat' first | refine Z1 fun _ _ => ?_ | refine Z2 ‹_› ?_ | ((first | refine Z3 tb_ok lv19 rfl ?_ | refine Zr rfl ?_); simp only [↓reduceIte, reduceCtorEq, reduceEqDiff, reduceAdd, reduceMul, reduceSub, reduceLeDiff, reduceEq, reduceLT, reduceLE, go_sem]) | refine ZS rfl ?_ | refine ZH ?_ | fail
    rw [hv, hg, Bool.true_and]
  · repeat' first | refine Z1 fun _ _ => ?_ | refine Z2 ‹_› ?_ | ((first | refine Z3 tb_ok lv19 rfl ?_ | refine Zr rfl ?_); simp only [↓reduceIte, reduceCtorEq, reduceEqDiff, reduceAdd, reduceMul, reduceSub, reduceLeDiff, reduceEq, reduceLT, reduceLE, go_sem]) | refine ZS rfl ?_ | refine ZH ?_ | fail
    rw [hv, hg, Bool.false_and]
end Go.Proofs.Ytpibdbjlilpfiaa
