/- ref03.in, Utf8, ref04.text, First, Form. -/
import Derived.Test.YtpibdbjlilpfiaaTab
import Derived.Test.YtpibdbjlilpfiaaSpec
namespace Go.Proofs.Ytpibdbjlilpfiaa
set_option linter.all false
open Go Go.RowKit
open Nat (reduceEqDiff reduceAdd reduceMul reduceSub reduceLeDiff)
open Int (reduceEq reduceLT reduceLE)

def inB (s : ByteArray) (i lo hi : Int) : Bool := decide (i < s.size) && (decide (lo ≤ byteAt s i.toNat) && decide (byteAt s i.toNat ≤ hi))

@[go_sem] def lv72 : List (Nat × List Nat) := [(0, [0, 1, 2, 3]), (1, [8])]
def bs72 : List (Nat × List Nat × List Nat) := []
theorem c_in {gl} (s : ByteArray) (i lo hi : Int) (h : 0 ≤ i) : PCon Try.prog gl 72 [.str s, .int .i64 i, .int .i64 lo, .int .i64 hi] (.bool (inB s i lo hi)) := by
  have hb := byteAt_bd s i.toNat
  refine PCon.enter tb_ok (fn := Try.f72) (by kernel_rfl) (by kernel_rfl) rfl (by show 4 ≤ 29; decide) ?_
  repeat' first | refine Z1 fun _ _ => ?_ | refine Z2 ‹_› ?_ | ((first | refine Z3 tb_ok lv72 rfl ?_ | refine Zr rfl ?_); simp only [↓reduceIte, reduceCtorEq, reduceEqDiff, reduceAdd, reduceMul, reduceSub, reduceLeDiff, reduceEq, reduceLT, reduceLE, go_sem]) | refine ZS rfl ?_ | refine ZH ?_ | fail
  refine .split rfl (fun h1 => ?_) (fun h1 => ?_) <;> simp only [↓reduceIte, reduceCtorEq, reduceEqDiff, reduceAdd, reduceMul, reduceSub, reduceLeDiff, reduceEq, reduceLT, reduceLE, go_sem, h1]
  · have h1' := h1
    simp only [decide_eq_true_eq] at h1'
    refine idx_str rfl rfl rfl rfl h h1' ?_
    simp only [↓reduceIte, reduceCtorEq, reduceEqDiff, reduceAdd, reduceMul, reduceSub, reduceLeDiff, reduceEq, reduceLT, reduceLE, go_sem]
    rw [wrap64 (by omega) (by omega)]
    refine .split rfl (fun h2 => ?_) (fun h2 => ?_) <;> simp only [↓reduceIte, reduceCtorEq, reduceEqDiff, reduceAdd, reduceMul, reduceSub, reduceLeDiff, reduceEq, reduceLT, reduceLE, go_sem, h2]
    · refine idx_str rfl rfl rfl rfl h h1' ?_
      simp only [↓reduceIte, reduceCtorEq, reduceEqDiff, reduceAdd, reduceMul, reduceSub, reduceLeDiff, reduceEq, reduceLT, reduceLE, go_sem]
      repeat' first | refine Z1 fun _ _ => ?_ | refine Z2 ‹_› ?_ | ((first | refine Z3 tb_ok lv72 rfl ?_ | refine Zr rfl ?_); simp only [↓reduceIte, reduceCtorEq, reduceEqDiff, reduceAdd, reduceMul, reduceSub, reduceLeDiff, reduceEq, reduceLT, reduceLE, go_sem]) | refine ZS rfl ?_ | refine ZH ?_ | fail
      rw [wrap64 (by omega) (by omega), inB, h1, h2]
      rfl
    · repeat' first | refine Z1 fun _ _ => ?_ | refine Z2 ‹_› ?_ | ((first | refine Z3 tb_ok lv72 rfl ?_ | refine Zr rfl ?_); simp only [↓reduceIte, reduceCtorEq, reduceEqDiff, reduceAdd, reduceMul, reduceSub, reduceLeDiff, reduceEq, reduceLT, reduceLE, go_sem]) | refine ZS rfl ?_ | refine ZH ?_ | fail
      rw [inB, h1, h2]
      rfl
  · repeat' first | refine Z1 fun _ _ => ?_ | refine Z2 ‹_› ?_ | ((first | refine Z3 tb_ok lv72 rfl ?_ | refine Zr rfl ?_); simp only [↓reduceIte, reduceCtorEq, reduceEqDiff, reduceAdd, reduceMul, reduceSub, reduceLeDiff, reduceEq, reduceLT, reduceLE, go_sem]) | refine ZS rfl ?_ | refine ZH ?_ | fail
    rw [inB, h1]
    rfl

/-- How far one step goes on: 0 if it's wrong. -/
def u33 (s : ByteArray) (i : Nat) : Bool := (((decide (194 ≤ byteAt s i) && decide (byteAt s i ≤ 223))) && inB s (i + 1) 128 191)
def u45 (s : ByteArray) (i : Nat) : Bool := ((decide (byteAt s i = 224) && inB s (i + 1) 160 191) && inB s (i + 2) 128 191)
def u59 (s : ByteArray) (i : Nat) : Bool := (((((decide (225 ≤ byteAt s i) && decide (byteAt s i ≤ 236)) || decide (byteAt s i = 238)) || decide (byteAt s i = 239)) && inB s (i + 1) 128 191) && inB s (i + 2) 128 191)
def u82 (s : ByteArray) (i : Nat) : Bool := ((decide (byteAt s i = 237) && inB s (i + 1) 128 159) && inB s (i + 2) 128 191)
def u96 (s : ByteArray) (i : Nat) : Bool := (((decide (byteAt s i = 240) && inB s (i + 1) 144 191) && inB s (i + 2) 128 191) && inB s (i + 3) 128 191)
def u113 (s : ByteArray) (i : Nat) : Bool := (((((decide (241 ≤ byteAt s i) && decide (byteAt s i ≤ 243))) && inB s (i + 1) 128 191) && inB s (i + 2) 128 191) && inB s (i + 3) 128 191)
def u131 (s : ByteArray) (i : Nat) : Bool := (((decide (byteAt s i = 244) && inB s (i + 1) 128 143) && inB s (i + 2) 128 191) && inB s (i + 3) 128 191)
def utf8Step (s : ByteArray) (i : Nat) : Nat := if decide (byteAt s i < 128) = true then 1 else if u33 s i = true then 2 else if u45 s i = true then 3 else if u59 s i = true then 3 else if u82 s i = true then 3 else if u96 s i = true then 4 else if u113 s i = true then 4 else if u131 s i = true then 4 else 0
theorem inB_lt {s : ByteArray} {i : Int} {lo hi : Int} (h : inB s i lo hi = true) : i < s.size := by
  simp only [inB, Bool.and_eq_true, decide_eq_true_eq] at h
  exact h.1
theorem u_bd33 {s : ByteArray} {i : Nat} (h : u33 s i = true) : (i : Int) + 1 < s.size := by
  simp only [u33, Bool.and_eq_true] at h
  have := inB_lt h.2
  omega
theorem u_bd45 {s : ByteArray} {i : Nat} (h : u45 s i = true) : (i : Int) + 2 < s.size := by
  simp only [u45, Bool.and_eq_true] at h
  have := inB_lt h.2
  omega
theorem u_bd59 {s : ByteArray} {i : Nat} (h : u59 s i = true) : (i : Int) + 2 < s.size := by
  simp only [u59, Bool.and_eq_true] at h
  have := inB_lt h.2
  omega
theorem u_bd82 {s : ByteArray} {i : Nat} (h : u82 s i = true) : (i : Int) + 2 < s.size := by
  simp only [u82, Bool.and_eq_true] at h
  have := inB_lt h.2
  omega
theorem u_bd96 {s : ByteArray} {i : Nat} (h : u96 s i = true) : (i : Int) + 3 < s.size := by
  simp only [u96, Bool.and_eq_true] at h
  have := inB_lt h.2
  omega
theorem u_bd113 {s : ByteArray} {i : Nat} (h : u113 s i = true) : (i : Int) + 3 < s.size := by
  simp only [u113, Bool.and_eq_true] at h
  have := inB_lt h.2
  omega
theorem u_bd131 {s : ByteArray} {i : Nat} (h : u131 s i = true) : (i : Int) + 3 < s.size := by
  simp only [u131, Bool.and_eq_true] at h
  have := inB_lt h.2
  omega
def utf8F (s : ByteArray) : Nat → Nat → Bool
  | 0, _ => true
  | m + 1, i => if i < s.size then (if utf8Step s i = 0 then false else utf8F s m (i + utf8Step s i)) else true
def utf8B (s : ByteArray) : Bool := utf8F s (s.size + 1) 0
@[go_sem] def lv62 : List (Nat × List Nat) := [(0, [0]), (1, [0, 3]), (2, [0, 3, 11]), (3, [0, 3, 4]), (4, [0, 3, 4, 5]), (5, [0, 3, 4, 5, 6]), (6, [0, 3, 4, 5, 6, 7]), (7, [2]), (8, [0, 3, 4, 5, 6, 7, 28]), (9, [0, 3]), (10, [0, 3, 4, 5, 6, 7, 33]), (11, [0, 3]), (12, [0, 3, 4, 5, 6, 7, 45]), (13, [0, 3]), (14, [0, 3, 4, 5, 6, 7, 59]), (15, [0, 3]), (16, [0, 3, 4, 5, 6, 7, 82]), (17, [0, 3]), (18, [0, 3, 4, 5, 6, 7, 96]), (19, [0, 3]), (20, [0, 3, 4, 6, 7, 113]), (21, [0, 3]), (22, [0, 3, 131]), (23, [0, 3]), (24, [2])]
def bs62 : List (Nat × List Nat × List Nat) := []
set_option maxRecDepth 4000 in
set_option maxHeartbeats 8000000 in
theorem c_utf8 {gl} (s : ByteArray) (hs : s.size ≤ 1048576) : PCon Try.prog gl 62 [.str s] (.bool (utf8B s)) := by
  refine PCon.enter tb_ok (fn := Try.f62) (by kernel_rfl) (by kernel_rfl) rfl (by show 1 ≤ 148; decide) ?_
  repeat' first | refine Z1 fun _ _ => ?_ | refine Z2 ‹_› ?_ | ((first | refine Z3 tb_ok lv62 rfl ?_ | refine Zr rfl ?_); simp only [↓reduceIte, reduceCtorEq, reduceEqDiff, reduceAdd, reduceMul, reduceSub, reduceLeDiff, reduceEq, reduceLT, reduceLE, go_sem]) | (refine Z5 rfl ?_; with_reducible first | refine ZT ?_ | refine ZF ?_) | refine ZS rfl ?_ | refine Z9 fun _ _ => ?_ | refine ZH ?_ | refine Zl ‹_› (by decide) ?_ | fail
  refine .loopC (α := Nat × Nat) (fun a => ⟨[(0, .d (.str s)), (3, .d (.int .i64 a.2))], [], 0⟩) (fun a => a.2 ≤ s.size ∧ s.size < a.1 + a.2 ∧ utf8B s = utf8F s a.1 a.2) (fun a => s.size - a.2) (s.size + 1, 0) ⟨by simp, by simp, rfl⟩ (by simp only [↓reduceIte, reduceCtorEq, reduceEqDiff, reduceAdd, reduceMul, reduceSub, reduceLeDiff, reduceEq, reduceLT, reduceLE, go_sem]; trivial) ?_
  rintro ⟨m, i⟩ ⟨h1, h2, h3⟩ Q hQ
  simp only at h1 h2 h3
  repeat' first | refine Z1 fun _ _ => ?_ | refine Z2 ‹_› ?_ | ((first | refine Z3 tb_ok lv62 rfl ?_ | refine Zr rfl ?_); simp only [↓reduceIte, reduceCtorEq, reduceEqDiff, reduceAdd, reduceMul, reduceSub, reduceLeDiff, reduceEq, reduceLT, reduceLE, go_sem]) | (refine Z5 rfl ?_; with_reducible first | refine ZT ?_ | refine ZF ?_) | refine ZS rfl ?_ | refine Z9 fun _ _ => ?_ | refine ZH ?_ | refine Zl ‹_› (by decide) ?_ | fail
  refine .cond rfl (fun hc => ?_) (fun hc => ?_)
  · simp only [decide_eq_true_eq] at hc
    obtain ⟨m, rfl⟩ : ∃ m', m = m' + 1 := ⟨m - 1, by omega⟩
    rw [utf8F, if_pos (by omega)] at h3
    have hb := byteAt_bd s i
    repeat' first | refine Z1 fun _ _ => ?_ | refine Z2 ‹_› ?_ | ((first | refine Z3 tb_ok lv62 rfl ?_ | refine Zr rfl ?_); simp only [↓reduceIte, reduceCtorEq, reduceEqDiff, reduceAdd, reduceMul, reduceSub, reduceLeDiff, reduceEq, reduceLT, reduceLE, go_sem]) | (refine Z5 rfl ?_; with_reducible first | refine ZT ?_ | refine ZF ?_) | refine ZS rfl ?_ | refine Z9 fun _ _ => ?_ | refine ZH ?_ | refine Zl ‹_› (by decide) ?_ | fail
    refine idx_str rfl rfl rfl rfl (by omega) hc ?_
    simp only [↓reduceIte, reduceCtorEq, reduceEqDiff, reduceAdd, reduceMul, reduceSub, reduceLeDiff, reduceEq, reduceLT, reduceLE, go_sem]
    repeat' first | refine Z1 fun _ _ => ?_ | refine Z2 ‹_› ?_ | ((first | refine Z3 tb_ok lv62 rfl ?_ | refine Zr rfl ?_); simp only [↓reduceIte, reduceCtorEq, reduceEqDiff, reduceAdd, reduceMul, reduceSub, reduceLeDiff, reduceEq, reduceLT, reduceLE, go_sem]) | (refine Z5 rfl ?_; with_reducible first | refine ZT ?_ | refine ZF ?_) | refine ZS rfl ?_ | refine Z9 fun _ _ => ?_ | refine ZH ?_ | refine Zl ‹_› (by decide) ?_ | fail
    rw [wrap64 (z := byteAt s i) (by omega) (by omega), wrap64 (z := (i : Int) + 1) (by omega) (by omega)]
    refine call_pure rfl rfl (c_in s _ 128 191 (by omega)) ?_; simp only [↓reduceIte, reduceCtorEq, reduceEqDiff, reduceAdd, reduceMul, reduceSub, reduceLeDiff, reduceEq, reduceLT, reduceLE, go_sem]
    repeat' first | refine Z1 fun _ _ => ?_ | refine Z2 ‹_› ?_ | ((first | refine Z3 tb_ok lv62 rfl ?_ | refine Zr rfl ?_); simp only [↓reduceIte, reduceCtorEq, reduceEqDiff, reduceAdd, reduceMul, reduceSub, reduceLeDiff, reduceEq, reduceLT, reduceLE, go_sem]) | (refine Z5 rfl ?_; with_reducible first | refine ZT ?_ | refine ZF ?_) | refine ZS rfl ?_ | refine Z9 fun _ _ => ?_ | refine ZH ?_ | refine Zl ‹_› (by decide) ?_ | fail
    rw [wrap64 (z := (i : Int) + 2) (by omega) (by omega)]
    refine call_pure rfl rfl (c_in s _ 128 191 (by omega)) ?_; simp only [↓reduceIte, reduceCtorEq, reduceEqDiff, reduceAdd, reduceMul, reduceSub, reduceLeDiff, reduceEq, reduceLT, reduceLE, go_sem]
    repeat' first | refine Z1 fun _ _ => ?_ | refine Z2 ‹_› ?_ | ((first | refine Z3 tb_ok lv62 rfl ?_ | refine Zr rfl ?_); simp only [↓reduceIte, reduceCtorEq, reduceEqDiff, reduceAdd, reduceMul, reduceSub, reduceLeDiff, reduceEq, reduceLT, reduceLE, go_sem]) | (refine Z5 rfl ?_; with_reducible first | refine ZT ?_ | refine ZF ?_) | refine ZS rfl ?_ | refine Z9 fun _ _ => ?_ | refine ZH ?_ | refine Zl ‹_› (by decide) ?_ | fail
    rw [wrap64 (z := (i : Int) + 3) (by omega) (by omega)]
    refine call_pure rfl rfl (c_in s _ 128 191 (by omega)) ?_; simp only [↓reduceIte, reduceCtorEq, reduceEqDiff, reduceAdd, reduceMul, reduceSub, reduceLeDiff, reduceEq, reduceLT, reduceLE, go_sem]
    repeat' first | refine Z1 fun _ _ => ?_ | refine Z2 ‹_› ?_ | ((first | refine Z3 tb_ok lv62 rfl ?_ | refine Zr rfl ?_); simp only [↓reduceIte, reduceCtorEq, reduceEqDiff, reduceAdd, reduceMul, reduceSub, reduceLeDiff, reduceEq, reduceLT, reduceLE, go_sem]) | (refine Z5 rfl ?_; with_reducible first | refine ZT ?_ | refine ZF ?_) | refine ZS rfl ?_ | refine Z9 fun _ _ => ?_ | refine ZH ?_ | refine Zl ‹_› (by decide) ?_ | fail
    refine .cond rfl (fun g0 => ?_) (fun g0 => ?_)
    · repeat' first | refine Z1 fun _ _ => ?_ | refine Z2 ‹_› ?_ | ((first | refine Z3 tb_ok lv62 rfl ?_ | refine Zr rfl ?_); simp only [↓reduceIte, reduceCtorEq, reduceEqDiff, reduceAdd, reduceMul, reduceSub, reduceLeDiff, reduceEq, reduceLT, reduceLE, go_sem]) | (refine Z5 rfl ?_; with_reducible first | refine ZT ?_ | refine ZF ?_) | refine ZS rfl ?_ | refine Z9 fun _ _ => ?_ | refine ZH ?_ | refine Zl ‹_› (by decide) ?_ | fail
      have hst : utf8Step s i = 1 := by simp [utf8Step, g0]
      rw [hst] at h3
      rw [wrap64 (by omega) (by omega)]
      exact hQ.next (m, i + 1) ⟨by show i + 1 ≤ s.size; omega, by show s.size < m + (i + 1); omega, h3⟩ (by show s.size - (i + 1) < s.size - i; omega) (by simp only [↓reduceIte, reduceCtorEq, reduceEqDiff, reduceAdd, reduceMul, reduceSub, reduceLeDiff, reduceEq, reduceLT, reduceLE, go_sem]; simp)
    · refine .cutS ⟨[(0, .d (.str s)), (3, .d (.int .i64 i)), (4, .d (.int .i64 (byteAt s i))), (5, .d (.bool (inB s (i + 1) 128 191))), (6, .d (.bool (inB s (i + 2) 128 191))), (7, .d (.bool (inB s (i + 3) 128 191))), (33, .d (.bool (u33 s i)))], [], 0⟩ (fun Q' hq => ?_) ?_
      · repeat' first | refine Z1 fun _ _ => ?_ | refine Z2 ‹_› ?_ | ((first | refine Z3 tb_ok lv62 rfl ?_ | refine Zr rfl ?_); simp only [↓reduceIte, reduceCtorEq, reduceEqDiff, reduceAdd, reduceMul, reduceSub, reduceLeDiff, reduceEq, reduceLT, reduceLE, go_sem]) | (refine Z5 rfl ?_; with_reducible first | refine ZT ?_ | refine ZF ?_) | refine ZS rfl ?_ | refine Z9 fun _ _ => ?_ | refine ZH ?_ | refine Zl ‹_› (by decide) ?_ | fail
        repeat' first | (refine .split rfl (fun hg => ?_) (fun hg => ?_) <;> simp only [↓reduceIte, reduceCtorEq, reduceEqDiff, reduceAdd, reduceMul, reduceSub, reduceLeDiff, reduceEq, reduceLT, reduceLE, go_sem, hg]) | fail
        all_goals (refine hq _ ?_; simp only [↓reduceIte, reduceCtorEq, reduceEqDiff, reduceAdd, reduceMul, reduceSub, reduceLeDiff, reduceEq, reduceLT, reduceLE, go_sem]; simp_all [u33] <;> (intros; omega))
      · refine .cond rfl (fun g1 => ?_) (fun g1 => ?_)
        · repeat' first | refine Z1 fun _ _ => ?_ | refine Z2 ‹_› ?_ | ((first | refine Z3 tb_ok lv62 rfl ?_ | refine Zr rfl ?_); simp only [↓reduceIte, reduceCtorEq, reduceEqDiff, reduceAdd, reduceMul, reduceSub, reduceLeDiff, reduceEq, reduceLT, reduceLE, go_sem]) | (refine Z5 rfl ?_; with_reducible first | refine ZT ?_ | refine ZF ?_) | refine ZS rfl ?_ | refine Z9 fun _ _ => ?_ | refine ZH ?_ | refine Zl ‹_› (by decide) ?_ | fail
          have hst : utf8Step s i = 2 := by simp [utf8Step, g0, g1]
          rw [hst] at h3
          rw [wrap64 (by omega) (by omega)]
          exact hQ.next (m, i + 2) ⟨by show i + 2 ≤ s.size; have := u_bd33 g1; omega, by show s.size < m + (i + 2); omega, h3⟩ (by show s.size - (i + 2) < s.size - i; omega) (by simp only [↓reduceIte, reduceCtorEq, reduceEqDiff, reduceAdd, reduceMul, reduceSub, reduceLeDiff, reduceEq, reduceLT, reduceLE, go_sem]; simp)
        · refine .cutS ⟨[(0, .d (.str s)), (3, .d (.int .i64 i)), (4, .d (.int .i64 (byteAt s i))), (5, .d (.bool (inB s (i + 1) 128 191))), (6, .d (.bool (inB s (i + 2) 128 191))), (7, .d (.bool (inB s (i + 3) 128 191))), (45, .d (.bool (u45 s i)))], [], 0⟩ (fun Q' hq => ?_) ?_
          · repeat' first | refine Z1 fun _ _ => ?_ | refine Z2 ‹_› ?_ | ((first | refine Z3 tb_ok lv62 rfl ?_ | refine Zr rfl ?_); simp only [↓reduceIte, reduceCtorEq, reduceEqDiff, reduceAdd, reduceMul, reduceSub, reduceLeDiff, reduceEq, reduceLT, reduceLE, go_sem]) | (refine Z5 rfl ?_; with_reducible first | refine ZT ?_ | refine ZF ?_) | refine ZS rfl ?_ | refine Z9 fun _ _ => ?_ | refine ZH ?_ | refine Zl ‹_› (by decide) ?_ | fail
            repeat' first | (refine .split rfl (fun hg => ?_) (fun hg => ?_) <;> simp only [↓reduceIte, reduceCtorEq, reduceEqDiff, reduceAdd, reduceMul, reduceSub, reduceLeDiff, reduceEq, reduceLT, reduceLE, go_sem, hg]) | fail
            all_goals try rw [wrap64 (z := (i : Int) + 1) (by omega) (by omega)]
            all_goals try (refine call_pure rfl rfl (c_in s _ 160 191 (by omega)) ?_; simp only [↓reduceIte, reduceCtorEq, reduceEqDiff, reduceAdd, reduceMul, reduceSub, reduceLeDiff, reduceEq, reduceLT, reduceLE, go_sem])
            all_goals repeat' first | (refine .split rfl (fun hg => ?_) (fun hg => ?_) <;> simp only [↓reduceIte, reduceCtorEq, reduceEqDiff, reduceAdd, reduceMul, reduceSub, reduceLeDiff, reduceEq, reduceLT, reduceLE, go_sem, hg]) | fail
            all_goals (refine hq _ ?_; simp only [↓reduceIte, reduceCtorEq, reduceEqDiff, reduceAdd, reduceMul, reduceSub, reduceLeDiff, reduceEq, reduceLT, reduceLE, go_sem]; simp_all [u45] <;> (intros; omega))
          · refine .cond rfl (fun g2 => ?_) (fun g2 => ?_)
            · repeat' first | refine Z1 fun _ _ => ?_ | refine Z2 ‹_› ?_ | ((first | refine Z3 tb_ok lv62 rfl ?_ | refine Zr rfl ?_); simp only [↓reduceIte, reduceCtorEq, reduceEqDiff, reduceAdd, reduceMul, reduceSub, reduceLeDiff, reduceEq, reduceLT, reduceLE, go_sem]) | (refine Z5 rfl ?_; with_reducible first | refine ZT ?_ | refine ZF ?_) | refine ZS rfl ?_ | refine Z9 fun _ _ => ?_ | refine ZH ?_ | refine Zl ‹_› (by decide) ?_ | fail
              have hst : utf8Step s i = 3 := by simp [utf8Step, g0, g1, g2]
              rw [hst] at h3
              rw [wrap64 (by omega) (by omega)]
              exact hQ.next (m, i + 3) ⟨by show i + 3 ≤ s.size; have := u_bd45 g2; omega, by show s.size < m + (i + 3); omega, h3⟩ (by show s.size - (i + 3) < s.size - i; omega) (by simp only [↓reduceIte, reduceCtorEq, reduceEqDiff, reduceAdd, reduceMul, reduceSub, reduceLeDiff, reduceEq, reduceLT, reduceLE, go_sem]; simp)
            · refine .cutS ⟨[(0, .d (.str s)), (3, .d (.int .i64 i)), (4, .d (.int .i64 (byteAt s i))), (5, .d (.bool (inB s (i + 1) 128 191))), (6, .d (.bool (inB s (i + 2) 128 191))), (7, .d (.bool (inB s (i + 3) 128 191))), (59, .d (.bool (u59 s i)))], [], 0⟩ (fun Q' hq => ?_) ?_
              · repeat' first | refine Z1 fun _ _ => ?_ | refine Z2 ‹_› ?_ | ((first | refine Z3 tb_ok lv62 rfl ?_ | refine Zr rfl ?_); simp only [↓reduceIte, reduceCtorEq, reduceEqDiff, reduceAdd, reduceMul, reduceSub, reduceLeDiff, reduceEq, reduceLT, reduceLE, go_sem]) | (refine Z5 rfl ?_; with_reducible first | refine ZT ?_ | refine ZF ?_) | refine ZS rfl ?_ | refine Z9 fun _ _ => ?_ | refine ZH ?_ | refine Zl ‹_› (by decide) ?_ | fail
                repeat' first | (refine .split rfl (fun hg => ?_) (fun hg => ?_) <;> simp only [↓reduceIte, reduceCtorEq, reduceEqDiff, reduceAdd, reduceMul, reduceSub, reduceLeDiff, reduceEq, reduceLT, reduceLE, go_sem, hg]) | fail
                all_goals (refine hq _ ?_; simp only [↓reduceIte, reduceCtorEq, reduceEqDiff, reduceAdd, reduceMul, reduceSub, reduceLeDiff, reduceEq, reduceLT, reduceLE, go_sem]; simp_all [u59] <;> (intros; omega))
              · refine .cond rfl (fun g3 => ?_) (fun g3 => ?_)
                · repeat' first | refine Z1 fun _ _ => ?_ | refine Z2 ‹_› ?_ | ((first | refine Z3 tb_ok lv62 rfl ?_ | refine Zr rfl ?_); simp only [↓reduceIte, reduceCtorEq, reduceEqDiff, reduceAdd, reduceMul, reduceSub, reduceLeDiff, reduceEq, reduceLT, reduceLE, go_sem]) | (refine Z5 rfl ?_; with_reducible first | refine ZT ?_ | refine ZF ?_) | refine ZS rfl ?_ | refine Z9 fun _ _ => ?_ | refine ZH ?_ | refine Zl ‹_› (by decide) ?_ | fail
                  have hst : utf8Step s i = 3 := by simp [utf8Step, g0, g1, g2, g3]
                  rw [hst] at h3
                  rw [wrap64 (by omega) (by omega)]
                  exact hQ.next (m, i + 3) ⟨by show i + 3 ≤ s.size; have := u_bd59 g3; omega, by show s.size < m + (i + 3); omega, h3⟩ (by show s.size - (i + 3) < s.size - i; omega) (by simp only [↓reduceIte, reduceCtorEq, reduceEqDiff, reduceAdd, reduceMul, reduceSub, reduceLeDiff, reduceEq, reduceLT, reduceLE, go_sem]; simp)
                · refine .cutS ⟨[(0, .d (.str s)), (3, .d (.int .i64 i)), (4, .d (.int .i64 (byteAt s i))), (5, .d (.bool (inB s (i + 1) 128 191))), (6, .d (.bool (inB s (i + 2) 128 191))), (7, .d (.bool (inB s (i + 3) 128 191))), (82, .d (.bool (u82 s i)))], [], 0⟩ (fun Q' hq => ?_) ?_
                  · repeat' first | refine Z1 fun _ _ => ?_ | refine Z2 ‹_› ?_ | ((first | refine Z3 tb_ok lv62 rfl ?_ | refine Zr rfl ?_); simp only [↓reduceIte, reduceCtorEq, reduceEqDiff, reduceAdd, reduceMul, reduceSub, reduceLeDiff, reduceEq, reduceLT, reduceLE, go_sem]) | (refine Z5 rfl ?_; with_reducible first | refine ZT ?_ | refine ZF ?_) | refine ZS rfl ?_ | refine Z9 fun _ _ => ?_ | refine ZH ?_ | refine Zl ‹_› (by decide) ?_ | fail
                    repeat' first | (refine .split rfl (fun hg => ?_) (fun hg => ?_) <;> simp only [↓reduceIte, reduceCtorEq, reduceEqDiff, reduceAdd, reduceMul, reduceSub, reduceLeDiff, reduceEq, reduceLT, reduceLE, go_sem, hg]) | fail
                    all_goals try rw [wrap64 (z := (i : Int) + 1) (by omega) (by omega)]
                    all_goals try (refine call_pure rfl rfl (c_in s _ 128 159 (by omega)) ?_; simp only [↓reduceIte, reduceCtorEq, reduceEqDiff, reduceAdd, reduceMul, reduceSub, reduceLeDiff, reduceEq, reduceLT, reduceLE, go_sem])
                    all_goals repeat' first | (refine .split rfl (fun hg => ?_) (fun hg => ?_) <;> simp only [↓reduceIte, reduceCtorEq, reduceEqDiff, reduceAdd, reduceMul, reduceSub, reduceLeDiff, reduceEq, reduceLT, reduceLE, go_sem, hg]) | fail
                    all_goals (refine hq _ ?_; simp only [↓reduceIte, reduceCtorEq, reduceEqDiff, reduceAdd, reduceMul, reduceSub, reduceLeDiff, reduceEq, reduceLT, reduceLE, go_sem]; simp_all [u82] <;> (intros; omega))
                  · refine .cond rfl (fun g4 => ?_) (fun g4 => ?_)
                    · repeat' first | refine Z1 fun _ _ => ?_ | refine Z2 ‹_› ?_ | ((first | refine Z3 tb_ok lv62 rfl ?_ | refine Zr rfl ?_); simp only [↓reduceIte, reduceCtorEq, reduceEqDiff, reduceAdd, reduceMul, reduceSub, reduceLeDiff, reduceEq, reduceLT, reduceLE, go_sem]) | (refine Z5 rfl ?_; with_reducible first | refine ZT ?_ | refine ZF ?_) | refine ZS rfl ?_ | refine Z9 fun _ _ => ?_ | refine ZH ?_ | refine Zl ‹_› (by decide) ?_ | fail
                      have hst : utf8Step s i = 3 := by simp [utf8Step, g0, g1, g2, g3, g4]
                      rw [hst] at h3
                      rw [wrap64 (by omega) (by omega)]
                      exact hQ.next (m, i + 3) ⟨by show i + 3 ≤ s.size; have := u_bd82 g4; omega, by show s.size < m + (i + 3); omega, h3⟩ (by show s.size - (i + 3) < s.size - i; omega) (by simp only [↓reduceIte, reduceCtorEq, reduceEqDiff, reduceAdd, reduceMul, reduceSub, reduceLeDiff, reduceEq, reduceLT, reduceLE, go_sem]; simp)
                    · refine .cutS ⟨[(0, .d (.str s)), (3, .d (.int .i64 i)), (4, .d (.int .i64 (byteAt s i))), (5, .d (.bool (inB s (i + 1) 128 191))), (6, .d (.bool (inB s (i + 2) 128 191))), (7, .d (.bool (inB s (i + 3) 128 191))), (96, .d (.bool (u96 s i)))], [], 0⟩ (fun Q' hq => ?_) ?_
                      · repeat' first | refine Z1 fun _ _ => ?_ | refine Z2 ‹_› ?_ | ((first | refine Z3 tb_ok lv62 rfl ?_ | refine Zr rfl ?_); simp only [↓reduceIte, reduceCtorEq, reduceEqDiff, reduceAdd, reduceMul, reduceSub, reduceLeDiff, reduceEq, reduceLT, reduceLE, go_sem]) | (refine Z5 rfl ?_; with_reducible first | refine ZT ?_ | refine ZF ?_) | refine ZS rfl ?_ | refine Z9 fun _ _ => ?_ | refine ZH ?_ | refine Zl ‹_› (by decide) ?_ | fail
                        repeat' first | (refine .split rfl (fun hg => ?_) (fun hg => ?_) <;> simp only [↓reduceIte, reduceCtorEq, reduceEqDiff, reduceAdd, reduceMul, reduceSub, reduceLeDiff, reduceEq, reduceLT, reduceLE, go_sem, hg]) | fail
                        all_goals try rw [wrap64 (z := (i : Int) + 1) (by omega) (by omega)]
                        all_goals try (refine call_pure rfl rfl (c_in s _ 144 191 (by omega)) ?_; simp only [↓reduceIte, reduceCtorEq, reduceEqDiff, reduceAdd, reduceMul, reduceSub, reduceLeDiff, reduceEq, reduceLT, reduceLE, go_sem])
                        all_goals repeat' first | (refine .split rfl (fun hg => ?_) (fun hg => ?_) <;> simp only [↓reduceIte, reduceCtorEq, reduceEqDiff, reduceAdd, reduceMul, reduceSub, reduceLeDiff, reduceEq, reduceLT, reduceLE, go_sem, hg]) | fail
                        all_goals (refine hq _ ?_; simp only [↓reduceIte, reduceCtorEq, reduceEqDiff, reduceAdd, reduceMul, reduceSub, reduceLeDiff, reduceEq, reduceLT, reduceLE, go_sem]; simp_all [u96] <;> (intros; omega))
                      · refine .cond rfl (fun g5 => ?_) (fun g5 => ?_)
                        · repeat' first | refine Z1 fun _ _ => ?_ | refine Z2 ‹_› ?_ | ((first | refine Z3 tb_ok lv62 rfl ?_ | refine Zr rfl ?_); simp only [↓reduceIte, reduceCtorEq, reduceEqDiff, reduceAdd, reduceMul, reduceSub, reduceLeDiff, reduceEq, reduceLT, reduceLE, go_sem]) | (refine Z5 rfl ?_; with_reducible first | refine ZT ?_ | refine ZF ?_) | refine ZS rfl ?_ | refine Z9 fun _ _ => ?_ | refine ZH ?_ | refine Zl ‹_› (by decide) ?_ | fail
                          have hst : utf8Step s i = 4 := by simp [utf8Step, g0, g1, g2, g3, g4, g5]
                          rw [hst] at h3
                          rw [wrap64 (by omega) (by omega)]
                          exact hQ.next (m, i + 4) ⟨by show i + 4 ≤ s.size; have := u_bd96 g5; omega, by show s.size < m + (i + 4); omega, h3⟩ (by show s.size - (i + 4) < s.size - i; omega) (by simp only [↓reduceIte, reduceCtorEq, reduceEqDiff, reduceAdd, reduceMul, reduceSub, reduceLeDiff, reduceEq, reduceLT, reduceLE, go_sem]; simp)
                        · refine .cutS ⟨[(0, .d (.str s)), (3, .d (.int .i64 i)), (6, .d (.bool (inB s (i + 2) 128 191))), (7, .d (.bool (inB s (i + 3) 128 191))), (4, .d (.int .i64 (byteAt s i))), (113, .d (.bool (u113 s i)))], [], 0⟩ (fun Q' hq => ?_) ?_
                          · repeat' first | refine Z1 fun _ _ => ?_ | refine Z2 ‹_› ?_ | ((first | refine Z3 tb_ok lv62 rfl ?_ | refine Zr rfl ?_); simp only [↓reduceIte, reduceCtorEq, reduceEqDiff, reduceAdd, reduceMul, reduceSub, reduceLeDiff, reduceEq, reduceLT, reduceLE, go_sem]) | (refine Z5 rfl ?_; with_reducible first | refine ZT ?_ | refine ZF ?_) | refine ZS rfl ?_ | refine Z9 fun _ _ => ?_ | refine ZH ?_ | refine Zl ‹_› (by decide) ?_ | fail
                            repeat' first | (refine .split rfl (fun hg => ?_) (fun hg => ?_) <;> simp only [↓reduceIte, reduceCtorEq, reduceEqDiff, reduceAdd, reduceMul, reduceSub, reduceLeDiff, reduceEq, reduceLT, reduceLE, go_sem, hg]) | fail
                            all_goals (refine hq _ ?_; simp only [↓reduceIte, reduceCtorEq, reduceEqDiff, reduceAdd, reduceMul, reduceSub, reduceLeDiff, reduceEq, reduceLT, reduceLE, go_sem]; simp_all [u113] <;> (intros; omega))
                          · refine .cond rfl (fun g6 => ?_) (fun g6 => ?_)
                            · repeat' first | refine Z1 fun _ _ => ?_ | refine Z2 ‹_› ?_ | ((first | refine Z3 tb_ok lv62 rfl ?_ | refine Zr rfl ?_); simp only [↓reduceIte, reduceCtorEq, reduceEqDiff, reduceAdd, reduceMul, reduceSub, reduceLeDiff, reduceEq, reduceLT, reduceLE, go_sem]) | (refine Z5 rfl ?_; with_reducible first | refine ZT ?_ | refine ZF ?_) | refine ZS rfl ?_ | refine Z9 fun _ _ => ?_ | refine ZH ?_ | refine Zl ‹_› (by decide) ?_ | fail
                              have hst : utf8Step s i = 4 := by simp [utf8Step, g0, g1, g2, g3, g4, g5, g6]
                              rw [hst] at h3
                              rw [wrap64 (by omega) (by omega)]
                              exact hQ.next (m, i + 4) ⟨by show i + 4 ≤ s.size; have := u_bd113 g6; omega, by show s.size < m + (i + 4); omega, h3⟩ (by show s.size - (i + 4) < s.size - i; omega) (by simp only [↓reduceIte, reduceCtorEq, reduceEqDiff, reduceAdd, reduceMul, reduceSub, reduceLeDiff, reduceEq, reduceLT, reduceLE, go_sem]; simp)
                            · refine .cutS ⟨[(0, .d (.str s)), (3, .d (.int .i64 i)), (131, .d (.bool (u131 s i)))], [], 0⟩ (fun Q' hq => ?_) ?_
                              · repeat' first | refine Z1 fun _ _ => ?_ | refine Z2 ‹_› ?_ | ((first | refine Z3 tb_ok lv62 rfl ?_ | refine Zr rfl ?_); simp only [↓reduceIte, reduceCtorEq, reduceEqDiff, reduceAdd, reduceMul, reduceSub, reduceLeDiff, reduceEq, reduceLT, reduceLE, go_sem]) | (refine Z5 rfl ?_; with_reducible first | refine ZT ?_ | refine ZF ?_) | refine ZS rfl ?_ | refine Z9 fun _ _ => ?_ | refine ZH ?_ | refine Zl ‹_› (by decide) ?_ | fail
                                repeat' first | (refine .split rfl (fun hg => ?_) (fun hg => ?_) <;> simp only [↓reduceIte, reduceCtorEq, reduceEqDiff, reduceAdd, reduceMul, reduceSub, reduceLeDiff, reduceEq, reduceLT, reduceLE, go_sem, hg]) | fail
                                all_goals try rw [wrap64 (z := (i : Int) + 1) (by omega) (by omega)]
                                all_goals try (refine call_pure rfl rfl (c_in s _ 128 143 (by omega)) ?_; simp only [↓reduceIte, reduceCtorEq, reduceEqDiff, reduceAdd, reduceMul, reduceSub, reduceLeDiff, reduceEq, reduceLT, reduceLE, go_sem])
                                all_goals repeat' first | (refine .split rfl (fun hg => ?_) (fun hg => ?_) <;> simp only [↓reduceIte, reduceCtorEq, reduceEqDiff, reduceAdd, reduceMul, reduceSub, reduceLeDiff, reduceEq, reduceLT, reduceLE, go_sem, hg]) | fail
                                all_goals (refine hq _ ?_; simp only [↓reduceIte, reduceCtorEq, reduceEqDiff, reduceAdd, reduceMul, reduceSub, reduceLeDiff, reduceEq, reduceLT, reduceLE, go_sem]; simp_all [u131] <;> (intros; omega))
                              · refine .cond rfl (fun g7 => ?_) (fun g7 => ?_)
                                · repeat' first | refine Z1 fun _ _ => ?_ | refine Z2 ‹_› ?_ | ((first | refine Z3 tb_ok lv62 rfl ?_ | refine Zr rfl ?_); simp only [↓reduceIte, reduceCtorEq, reduceEqDiff, reduceAdd, reduceMul, reduceSub, reduceLeDiff, reduceEq, reduceLT, reduceLE, go_sem]) | (refine Z5 rfl ?_; with_reducible first | refine ZT ?_ | refine ZF ?_) | refine ZS rfl ?_ | refine Z9 fun _ _ => ?_ | refine ZH ?_ | refine Zl ‹_› (by decide) ?_ | fail
                                  have hst : utf8Step s i = 4 := by simp [utf8Step, g0, g1, g2, g3, g4, g5, g6, g7]
                                  rw [hst] at h3
                                  rw [wrap64 (by omega) (by omega)]
                                  exact hQ.next (m, i + 4) ⟨by show i + 4 ≤ s.size; have := u_bd131 g7; omega, by show s.size < m + (i + 4); omega, h3⟩ (by show s.size - (i + 4) < s.size - i; omega) (by simp only [↓reduceIte, reduceCtorEq, reduceEqDiff, reduceAdd, reduceMul, reduceSub, reduceLeDiff, reduceEq, reduceLT, reduceLE, go_sem]; simp)
                                · repeat' first | refine Z1 fun _ _ => ?_ | refine Z2 ‹_› ?_ | ((first | refine Z3 tb_ok lv62 rfl ?_ | refine Zr rfl ?_); simp only [↓reduceIte, reduceCtorEq, reduceEqDiff, reduceAdd, reduceMul, reduceSub, reduceLeDiff, reduceEq, reduceLT, reduceLE, go_sem]) | (refine Z5 rfl ?_; with_reducible first | refine ZT ?_ | refine ZF ?_) | refine ZS rfl ?_ | refine Z9 fun _ _ => ?_ | refine ZH ?_ | refine Zl ‹_› (by decide) ?_ | fail
                                  have hst : utf8Step s i = 0 := by simp [utf8Step, g0, g1, g2, g3, g4, g5, g6, g7]
                                  rw [hst, if_pos rfl] at h3
                                  exact h3.symm
  · simp only [decide_eq_false_iff_not] at hc
    repeat' first | refine Z1 fun _ _ => ?_ | refine Z2 ‹_› ?_ | ((first | refine Z3 tb_ok lv62 rfl ?_ | refine Zr rfl ?_); simp only [↓reduceIte, reduceCtorEq, reduceEqDiff, reduceAdd, reduceMul, reduceSub, reduceLeDiff, reduceEq, reduceLT, reduceLE, go_sem]) | (refine Z5 rfl ?_; with_reducible first | refine ZT ?_ | refine ZF ?_) | refine ZS rfl ?_ | refine Z9 fun _ _ => ?_ | refine ZH ?_ | refine Zl ‹_› (by decide) ?_ | fail
    cases m with
    | zero => omega
    | succ m => rw [utf8F, if_neg (by omega)] at h3; exact h3.symm
end Go.Proofs.Ytpibdbjlilpfiaa
