/- ref04.Form, moved. -/
import Derived.Test.YtpibdbjlilpfiaaFormC
namespace Go.Proofs.Ytpibdbjlilpfiaa
set_option linter.all false
open Go Go.RowKit
open Nat (reduceEqDiff reduceAdd reduceMul reduceSub reduceLeDiff)
open Int (reduceEq reduceLT reduceLE)

theorem sits_all {l : List Nd} {t : T} (h : Sits l 0 t) (hn : t.n = l.length) : l = t.flat 0 := by
  refine List.ext_getElem? fun i => ?_
  by_cases hi : i < t.n
  · have := h i hi
    rwa [Nat.zero_add] at this
  · rw [List.getElem?_eq_none (by omega), List.getElem?_eq_none (by rw [T.flat_len]; omega)]

@[go_sem] def lv35 : List (Nat × List Nat) := [(0, [1]), (1, [2])]
def bs35 : List (Nat × List Nat × List Nat) := []
set_option maxRecDepth 4000 in
theorem c_form {gl} {l : List Nd} (hl : l.length ≤ 1048576) (htx : ∀ i, (l.getD i Nd.z).text.size ≤ 1048576) : ∃ b : Bool, (b = true ↔ ∃ t : T, l = t.flat 0 ∧ t.ok txtOk) ∧ PCon Try.prog gl 35 [desc l] (.bool b) := by
  obtain ⟨r, h1, h2⟩ := c_first (gl := gl) hl htx l.length (Nat.le_refl _)
  refine ⟨decide (0 < l.length) && decide (r = 0), ?_, ?_⟩
  · simp only [Bool.and_eq_true, decide_eq_true_eq]
    constructor
    · rintro ⟨h3, rfl⟩
      rcases h1 with ⟨off, t, e, q1, q2, q3⟩ | ⟨e, _⟩
      · obtain rfl : off = 0 := by omega
        exact ⟨t, sits_all q1 (by omega), q3⟩
      · omega
    · rintro ⟨t, rfl, q⟩
      have hp := t.n_pos
      rw [T.flat_len] at h1 ⊢
      refine ⟨hp, ?_⟩
      rcases h1 with ⟨off, t', e, q1, q2, q3⟩ | ⟨e, h⟩
      · have := (sits_uniq (i := t.n - 1) t' q1 (by omega) q3 (sits_flat t) (by omega) q).1
        omega
      · exact absurd (h 0 t (sits_flat t) (by omega) q) id
  · refine PCon.enter tb_ok (fn := Try.f35) (by kernel_rfl) (by kernel_rfl) rfl (by show 1 ≤ 17; decide) ?_
    repeat' first | refine Z1 fun _ _ => ?_ | refine Z2 ‹_› ?_ | ((first | refine Z3 tb_ok lv35 rfl ?_ | refine Zr rfl ?_); simp only [↓reduceIte, reduceCtorEq, reduceEqDiff, reduceAdd, reduceMul, reduceSub, reduceLeDiff, reduceEq, reduceLT, reduceLE, go_sem]) | refine ZS rfl ?_ | refine ZH ?_ | fail
    refine .split rfl (fun h5 => ?_) (fun h5 => ?_) <;> simp only [↓reduceIte, reduceCtorEq, reduceEqDiff, reduceAdd, reduceMul, reduceSub, reduceLeDiff, reduceEq, reduceLT, reduceLE, go_sem, h5]
    · simp only [decide_eq_true_eq] at h5
      rw [wrap64 (by omega) (by omega)]
      refine call_pure rfl rfl (h2) ?_; simp only [↓reduceIte, reduceCtorEq, reduceEqDiff, reduceAdd, reduceMul, reduceSub, reduceLeDiff, reduceEq, reduceLT, reduceLE, go_sem]
      repeat' first | refine Z1 fun _ _ => ?_ | refine Z2 ‹_› ?_ | ((first | refine Z3 tb_ok lv35 rfl ?_ | refine Zr rfl ?_); simp only [↓reduceIte, reduceCtorEq, reduceEqDiff, reduceAdd, reduceMul, reduceSub, reduceLeDiff, reduceEq, reduceLT, reduceLE, go_sem]) | refine ZS rfl ?_ | refine ZH ?_ | fail
      rw [decide_eq_true (show 0 < l.length by omega)]
      rfl
    · simp only [decide_eq_false_iff_not] at h5
      repeat' first | refine Z1 fun _ _ => ?_ | refine Z2 ‹_› ?_ | ((first | refine Z3 tb_ok lv35 rfl ?_ | refine Zr rfl ?_); simp only [↓reduceIte, reduceCtorEq, reduceEqDiff, reduceAdd, reduceMul, reduceSub, reduceLeDiff, reduceEq, reduceLT, reduceLE, go_sem]) | refine ZS rfl ?_ | refine ZH ?_ | fail
      rw [decide_eq_false (show ¬ 0 < l.length by omega)]
      rfl

/-- A node whose parts' numbers are more. -/
def Nd.mv (by' : Int) (n : Nd) : Nd := { n with a := if 4 ≤ n.kind then IntKind.i64.wrap (n.a + by') else n.a, b := if n.kind = 4 ∨ n.kind = 5 then IntKind.i64.wrap (n.b + by') else n.b }
theorem take_succ_map {α β : Type} {l : List α} {f : α → β} {i : Nat} (d : α) (h : i < l.length) : (l.take (i + 1)).map f = (l.take i).map f ++ [f (l.getD i d)] := by
  rw [List.take_add_one, List.map_append, List.getD_eq_getElem?_getD, List.getElem?_eq_getElem h]
  rfl
/-- Its cells. -/
def mvc (b : Int) (n : Nd) : List D := (n.mv b).cells
theorem mvc_lt {b k x y lo hi c0 c1 c2 c3 : Int} {tx : ByteArray} (h : ¬ 4 ≤ k) : mvc b ⟨k, x, y, lo, hi, c0, c1, c2, c3, tx⟩ = Nd.cells ⟨k, x, y, lo, hi, c0, c1, c2, c3, tx⟩ := by
  simp only [mvc, Nd.mv, if_neg h, if_neg (show ¬ (k = 4 ∨ k = 5) by omega)]
theorem mvc_two {b k x y lo hi c0 c1 c2 c3 : Int} {tx : ByteArray} (h : k = 4 ∨ k = 5) : mvc b ⟨k, x, y, lo, hi, c0, c1, c2, c3, tx⟩ = Nd.cells ⟨k, IntKind.i64.wrap (x + b), IntKind.i64.wrap (y + b), lo, hi, c0, c1, c2, c3, tx⟩ := by
  simp only [mvc, Nd.mv, if_pos h, if_pos (show 4 ≤ k by omega)]
theorem mvc_one {b k x y lo hi c0 c1 c2 c3 : Int} {tx : ByteArray} (h : 4 ≤ k) (h' : ¬ (k = 4 ∨ k = 5)) : mvc b ⟨k, x, y, lo, hi, c0, c1, c2, c3, tx⟩ = Nd.cells ⟨k, IntKind.i64.wrap (x + b), y, lo, hi, c0, c1, c2, c3, tx⟩ := by
  simp only [mvc, Nd.mv, if_neg h', if_pos h]
@[go_sem] def lv43 : List (Nat × List Nat) := [(0, [0, 1]), (1, [0, 1, 5]), (2, [0, 1, 5, 6]), (3, [0, 1, 5, 6, 11]), (4, [0, 1, 5, 6]), (5, [0, 1, 5, 6, 7]), (6, [0, 1, 5, 6, 7, 20]), (7, [0, 1, 5, 6, 7]), (8, [0, 1, 5, 6, 7, 33]), (9, [0, 1, 5, 6, 7]), (10, [0, 1, 5, 6]), (11, [4])]
def bs43 : List (Nat × List Nat × List Nat) := []
set_option maxRecDepth 4000 in
set_option maxHeartbeats 1000000 in
theorem c_moved {gl} {l : List Nd} (b : Int) (hl : l.length ≤ 1048576) : PConR Try.prog gl 43 [nds l, .int .i64 b] 44 10 (l.map (mvc b)) := by
  refine PConR.enter (fn := Try.f43) (by kernel_rfl) (by kernel_rfl) rfl (by show 2 ≤ 44; decide) ?_
  repeat' first | refine Z1 fun _ _ => ?_ | refine Z2 ‹_› ?_ | ((first | refine Z3 tb_ok lv43 rfl ?_ | refine Zr rfl ?_); simp only [↓reduceIte, reduceCtorEq, reduceEqDiff, reduceAdd, reduceMul, reduceSub, reduceLeDiff, reduceEq, reduceLT, reduceLE, go_sem]) | (refine Z5 rfl ?_; with_reducible first | refine ZT ?_ | refine ZF ?_) | refine ZS rfl ?_ | refine Z9 fun _ _ => ?_ | refine ZH ?_ | refine Zl ‹_› (by decide) ?_ | fail
  refine .adopt 5 44 10 rfl (by decide) ?_
  simp only [↓reduceIte, reduceCtorEq, reduceEqDiff, reduceAdd, reduceMul, reduceSub, reduceLeDiff, reduceEq, reduceLT, reduceLE, go_sem]
  refine .loopS (α := Nat) (fun i => ⟨[(5, .own 3), (0, .d (nds l)), (1, .d (.int .i64 b)), (6, .d (.int .i64 i))], [(3, .row true 44 10 ((l.take i).map (mvc b)))], 4⟩) (fun i => i ≤ l.length) (fun i => l.length - i) 0 (by omega) [] rfl (by simp only [↓reduceIte, reduceCtorEq, reduceEqDiff, reduceAdd, reduceMul, reduceSub, reduceLeDiff, reduceEq, reduceLT, reduceLE, go_sem]; simp) ?_
  intro i hi Q hQ
  repeat' first | refine Z1 fun _ _ => ?_ | refine Z2 ‹_› ?_ | ((first | refine Z3 tb_ok lv43 rfl ?_ | refine Zr rfl ?_); simp only [↓reduceIte, reduceCtorEq, reduceEqDiff, reduceAdd, reduceMul, reduceSub, reduceLeDiff, reduceEq, reduceLT, reduceLE, go_sem]) | (refine Z5 rfl ?_; with_reducible first | refine ZT ?_ | refine ZF ?_) | refine ZS rfl ?_ | refine Z9 fun _ _ => ?_ | refine ZH ?_ | refine Zl ‹_› (by decide) ?_ | fail
  refine .cond rfl (fun hc => ?_) (fun hc => ?_)
  · simp only [decide_eq_true_eq] at hc
    repeat' first | refine Z1 fun _ _ => ?_ | refine Z2 ‹_› ?_ | ((first | refine Z3 tb_ok lv43 rfl ?_ | refine Zr rfl ?_); simp only [↓reduceIte, reduceCtorEq, reduceEqDiff, reduceAdd, reduceMul, reduceSub, reduceLeDiff, reduceEq, reduceLT, reduceLE, go_sem]) | (refine Z5 rfl ?_; with_reducible first | refine ZT ?_ | refine ZF ?_) | refine ZS rfl ?_ | refine Z9 fun _ _ => ?_ | refine ZH ?_ | refine Zl ‹_› (by decide) ?_ | fail
    refine idx_map Nd.z rfl rfl rfl rfl rfl (by omega) (by omega) rfl ?_
    simp only [Int.toNat_natCast]
    have fin := take_succ_map (f := mvc b) Nd.z (show i < l.length by omega)
    have wi : IntKind.i64.wrap ((i : Int) + 1) = ((i + 1 : Nat) : Int) := wrap64 (by omega) (by omega)
    rcases hn : l.getD i Nd.z with ⟨k, x, y, lo, hi', c0, c1, c2, c3, tx⟩
    rw [hn] at fin
    simp only [↓reduceIte, reduceCtorEq, reduceEqDiff, reduceAdd, reduceMul, reduceSub, reduceLeDiff, reduceEq, reduceLT, reduceLE, go_sem]
    repeat' first | refine Z1 fun _ _ => ?_ | refine Z2 ‹_› ?_ | ((first | refine Z3 tb_ok lv43 rfl ?_ | refine Zr rfl ?_); simp only [↓reduceIte, reduceCtorEq, reduceEqDiff, reduceAdd, reduceMul, reduceSub, reduceLeDiff, reduceEq, reduceLT, reduceLE, go_sem]) | (refine Z5 rfl ?_; with_reducible first | refine ZT ?_ | refine ZF ?_) | refine ZS rfl ?_ | refine Z9 fun _ _ => ?_ | refine ZH ?_ | refine Zl ‹_› (by decide) ?_ | fail
    by_cases g : k = 4 ∨ k = 5
    · rw [mvc_two g] at fin
      rcases g with rfl | rfl
      all_goals
        simp only [↓reduceIte, reduceCtorEq, reduceEqDiff, reduceAdd, reduceMul, reduceSub, reduceLeDiff, reduceEq, reduceLT, reduceLE, go_sem]
        repeat' first | refine Z1 fun _ _ => ?_ | refine Z2 ‹_› ?_ | ((first | refine Z3 tb_ok lv43 rfl ?_ | refine Zr rfl ?_); simp only [↓reduceIte, reduceCtorEq, reduceEqDiff, reduceAdd, reduceMul, reduceSub, reduceLeDiff, reduceEq, reduceLT, reduceLE, go_sem]) | (refine Z5 rfl ?_; with_reducible first | refine ZT ?_ | refine ZF ?_) | refine ZS rfl ?_ | refine Z9 fun _ _ => ?_ | refine ZH ?_ | refine Zl ‹_› (by decide) ?_ | fail
        refine ⟨fun e he => by rw [he]; rfl, ?_, ?_, ?_⟩
        · rw [List.length_take]; omega
        · rw [List.length_take]; omega
        repeat' first | refine Z1 fun _ _ => ?_ | refine Z2 ‹_› ?_ | ((first | refine Z3 tb_ok lv43 rfl ?_ | refine Zr rfl ?_); simp only [↓reduceIte, reduceCtorEq, reduceEqDiff, reduceAdd, reduceMul, reduceSub, reduceLeDiff, reduceEq, reduceLT, reduceLE, go_sem]) | (refine Z5 rfl ?_; with_reducible first | refine ZT ?_ | refine ZF ?_) | refine ZS rfl ?_ | refine Z9 fun _ _ => ?_ | refine ZH ?_ | refine Zl ‹_› (by decide) ?_ | fail
        exact hQ.next (i + 1) [(40, 3)] (by omega) (by omega) rfl (by simp only [↓reduceIte, reduceCtorEq, reduceEqDiff, reduceAdd, reduceMul, reduceSub, reduceLeDiff, reduceEq, reduceLT, reduceLE, go_sem, fin, wi]; try simp)
    · have h4 : decide (k = 4) = false := by simp; omega
      have h5 : decide (k = 5) = false := by simp; omega
      refine .cond rfl (fun g1 => ?_) (fun g1 => ?_)
      · simp only [decide_eq_true_eq] at g1
        rw [mvc_one g1 g] at fin
        repeat' first | refine Z1 fun _ _ => ?_ | refine Z2 ‹_› ?_ | ((first | refine Z3 tb_ok lv43 rfl ?_ | refine Zr rfl ?_); simp only [↓reduceIte, reduceCtorEq, reduceEqDiff, reduceAdd, reduceMul, reduceSub, reduceLeDiff, reduceEq, reduceLT, reduceLE, go_sem]) | (refine Z5 rfl ?_; with_reducible first | refine ZT ?_ | refine ZF ?_) | refine ZS rfl ?_ | refine Z9 fun _ _ => ?_ | refine ZH ?_ | refine Zl ‹_› (by decide) ?_ | fail
        simp only [↓reduceIte, reduceCtorEq, reduceEqDiff, reduceAdd, reduceMul, reduceSub, reduceLeDiff, reduceEq, reduceLT, reduceLE, go_sem, h4, h5]
        repeat' first | refine Z1 fun _ _ => ?_ | refine Z2 ‹_› ?_ | ((first | refine Z3 tb_ok lv43 rfl ?_ | refine Zr rfl ?_); simp only [↓reduceIte, reduceCtorEq, reduceEqDiff, reduceAdd, reduceMul, reduceSub, reduceLeDiff, reduceEq, reduceLT, reduceLE, go_sem]) | (refine Z5 rfl ?_; with_reducible first | refine ZT ?_ | refine ZF ?_) | refine ZS rfl ?_ | refine Z9 fun _ _ => ?_ | refine ZH ?_ | refine Zl ‹_› (by decide) ?_ | fail
        refine ⟨fun e he => by rw [he]; rfl, ?_, ?_, ?_⟩
        · rw [List.length_take]; omega
        · rw [List.length_take]; omega
        repeat' first | refine Z1 fun _ _ => ?_ | refine Z2 ‹_› ?_ | ((first | refine Z3 tb_ok lv43 rfl ?_ | refine Zr rfl ?_); simp only [↓reduceIte, reduceCtorEq, reduceEqDiff, reduceAdd, reduceMul, reduceSub, reduceLeDiff, reduceEq, reduceLT, reduceLE, go_sem]) | (refine Z5 rfl ?_; with_reducible first | refine ZT ?_ | refine ZF ?_) | refine ZS rfl ?_ | refine Z9 fun _ _ => ?_ | refine ZH ?_ | refine Zl ‹_› (by decide) ?_ | fail
        exact hQ.next (i + 1) [(34, 3)] (by omega) (by omega) rfl (by simp only [↓reduceIte, reduceCtorEq, reduceEqDiff, reduceAdd, reduceMul, reduceSub, reduceLeDiff, reduceEq, reduceLT, reduceLE, go_sem, fin, wi]; try simp)
      · simp only [decide_eq_false_iff_not] at g1
        rw [mvc_lt g1] at fin
        repeat' first | refine Z1 fun _ _ => ?_ | refine Z2 ‹_› ?_ | ((first | refine Z3 tb_ok lv43 rfl ?_ | refine Zr rfl ?_); simp only [↓reduceIte, reduceCtorEq, reduceEqDiff, reduceAdd, reduceMul, reduceSub, reduceLeDiff, reduceEq, reduceLT, reduceLE, go_sem]) | (refine Z5 rfl ?_; with_reducible first | refine ZT ?_ | refine ZF ?_) | refine ZS rfl ?_ | refine Z9 fun _ _ => ?_ | refine ZH ?_ | refine Zl ‹_› (by decide) ?_ | fail
        simp only [↓reduceIte, reduceCtorEq, reduceEqDiff, reduceAdd, reduceMul, reduceSub, reduceLeDiff, reduceEq, reduceLT, reduceLE, go_sem, h4, h5]
        repeat' first | refine Z1 fun _ _ => ?_ | refine Z2 ‹_› ?_ | ((first | refine Z3 tb_ok lv43 rfl ?_ | refine Zr rfl ?_); simp only [↓reduceIte, reduceCtorEq, reduceEqDiff, reduceAdd, reduceMul, reduceSub, reduceLeDiff, reduceEq, reduceLT, reduceLE, go_sem]) | (refine Z5 rfl ?_; with_reducible first | refine ZT ?_ | refine ZF ?_) | refine ZS rfl ?_ | refine Z9 fun _ _ => ?_ | refine ZH ?_ | refine Zl ‹_› (by decide) ?_ | fail
        refine ⟨fun e he => by rw [he]; rfl, ?_, ?_, ?_⟩
        · rw [List.length_take]; omega
        · rw [List.length_take]; omega
        repeat' first | refine Z1 fun _ _ => ?_ | refine Z2 ‹_› ?_ | ((first | refine Z3 tb_ok lv43 rfl ?_ | refine Zr rfl ?_); simp only [↓reduceIte, reduceCtorEq, reduceEqDiff, reduceAdd, reduceMul, reduceSub, reduceLeDiff, reduceEq, reduceLT, reduceLE, go_sem]) | (refine Z5 rfl ?_; with_reducible first | refine ZT ?_ | refine ZF ?_) | refine ZS rfl ?_ | refine Z9 fun _ _ => ?_ | refine ZH ?_ | refine Zl ‹_› (by decide) ?_ | fail
        exact hQ.next (i + 1) [(28, 3)] (by omega) (by omega) rfl (by simp only [↓reduceIte, reduceCtorEq, reduceEqDiff, reduceAdd, reduceMul, reduceSub, reduceLeDiff, reduceEq, reduceLT, reduceLE, go_sem, fin, wi]; try simp)
  · simp only [decide_eq_false_iff_not] at hc
    obtain rfl : i = l.length := by omega
    repeat' first | refine Z1 fun _ _ => ?_ | refine Z2 ‹_› ?_ | ((first | refine Z3 tb_ok lv43 rfl ?_ | refine Zr rfl ?_); simp only [↓reduceIte, reduceCtorEq, reduceEqDiff, reduceAdd, reduceMul, reduceSub, reduceLeDiff, reduceEq, reduceLT, reduceLE, go_sem]) | (refine Z5 rfl ?_; with_reducible first | refine ZT ?_ | refine ZF ?_) | refine ZS rfl ?_ | refine Z9 fun _ _ => ?_ | refine ZH ?_ | refine Zl ‹_› (by decide) ?_ | fail
    rw [List.take_length]
    exact rfl
end Go.Proofs.Ytpibdbjlilpfiaa
