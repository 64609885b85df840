/- count: add, wrap. -/
import Derived.Test.YtpibdbjlilpfiaaValA
import Derived.Test.YtpibdbjlilpfiaaVal
import Derived.Test.YtpibdbjlilpfiaaAbsD
namespace Go.Proofs.Ytpibdbjlilpfiaa
set_option linter.all false
open Go Go.RowKit
open Nat (reduceEqDiff reduceAdd reduceMul reduceSub reduceLeDiff)
open Int (reduceEq reduceLT reduceLE)

@[go_sem] def lv68 : List (Nat × List Nat) := [(0, [0, 3]), (1, [0, 3, 9]), (2, [4]), (3, [0, 3, 11, 12, 13]), (4, [0, 3, 11, 12, 13, 14]), (5, [0, 3, 6, 11, 12, 13]), (6, [0, 3, 11, 12, 13, 19]), (7, [4]), (8, [0, 3, 11, 12, 13]), (9, [4])]
def bs68 : List (Nat × List Nat × List Nat) := []
set_option maxHeartbeats 1000000 in
theorem c_add {gl} {l : List Vl} {v : Vl} (hl : l.length ≤ 2) (hb : ∀ u ∈ l, u.bulk ≤ 1048577) : PConA Try.prog gl 68 [val v] 27 5 (l.map Vl.cells) ((addV l v).map Vl.cells) := by
  refine PConA.enter (fn := Try.f68) (by kernel_rfl) (by kernel_rfl) rfl (by show 2 ≤ 26; decide) ?_
  repeat' first | refine Z1 fun _ _ => ?_ | refine Z2 ‹_› ?_ | ((first | refine Z3 tb_ok lv68 rfl ?_ | refine Zr rfl ?_); simp only [↓reduceIte, reduceCtorEq, reduceEqDiff, reduceAdd, reduceMul, reduceSub, reduceLeDiff, reduceEq, reduceLT, reduceLE, go_sem]) | (refine Z5 rfl ?_; with_reducible first | refine ZT ?_ | refine ZF ?_) | refine ZS rfl ?_ | refine Z9 fun _ _ => ?_ | refine ZH ?_ | refine Zl ‹_› (by decide) ?_ | fail
  by_cases h2 : 2 ≤ l.length
  · have g2 : decide ((2 : Int) ≤ ((l.length : Nat) : Int)) = true := decide_eq_true (by omega)
    simp only [↓reduceIte, reduceCtorEq, reduceEqDiff, reduceAdd, reduceMul, reduceSub, reduceLeDiff, reduceEq, reduceLT, reduceLE, go_sem, g2]
    repeat' first | refine Z1 fun _ _ => ?_ | refine Z2 ‹_› ?_ | ((first | refine Z3 tb_ok lv68 rfl ?_ | refine Zr rfl ?_); simp only [↓reduceIte, reduceCtorEq, reduceEqDiff, reduceAdd, reduceMul, reduceSub, reduceLeDiff, reduceEq, reduceLT, reduceLE, go_sem]) | (refine Z5 rfl ?_; with_reducible first | refine ZT ?_ | refine ZF ?_) | refine ZS rfl ?_ | refine Z9 fun _ _ => ?_ | refine ZH ?_ | refine Zl ‹_› (by decide) ?_ | fail
    rw [addV, if_pos h2]
    exact ⟨_, rfl⟩
  have g2 : decide ((2 : Int) ≤ ((l.length : Nat) : Int)) = false := decide_eq_false (by omega)
  simp only [↓reduceIte, reduceCtorEq, reduceEqDiff, reduceAdd, reduceMul, reduceSub, reduceLeDiff, reduceEq, reduceLT, reduceLE, go_sem, g2]
  repeat' first | refine Z1 fun _ _ => ?_ | refine Z2 ‹_› ?_ | ((first | refine Z3 tb_ok lv68 rfl ?_ | refine Zr rfl ?_); simp only [↓reduceIte, reduceCtorEq, reduceEqDiff, reduceAdd, reduceMul, reduceSub, reduceLeDiff, reduceEq, reduceLT, reduceLE, go_sem]) | (refine Z5 rfl ?_; with_reducible first | refine ZT ?_ | refine ZF ?_) | refine ZS rfl ?_ | refine Z9 fun _ _ => ?_ | refine ZH ?_ | refine Zl ‹_› (by decide) ?_ | fail
  refine .loopC (α := Nat) (fun i => ⟨[(0, .own 0), (3, .ref 1 0), (11, .own 0), (12, .d (.int .i64 l.length)), (13, .d (.int .i64 i))], [(1, .box true [.d (.int .i64 v.kind), .d (.int .u8 v.byte), .d (.str v.text), .d (.int .i64 v.pick), .d (.slice (v.kids.map Vl.cells))]), (0, .row false 27 5 (l.map Vl.cells))], 6⟩) (fun i => i ≤ l.length ∧ ∀ m, m < i → (l.getD m Vl.z).same v = false) (fun i => l.length - i) 0 ⟨by omega, fun m hm => by omega⟩ (by simp only [↓reduceIte, reduceCtorEq, reduceEqDiff, reduceAdd, reduceMul, reduceSub, reduceLeDiff, reduceEq, reduceLT, reduceLE, go_sem]; simp) ?_
  rintro i ⟨hi, hno⟩ Q hQ
  repeat' first | refine Z1 fun _ _ => ?_ | refine Z2 ‹_› ?_ | ((first | refine Z3 tb_ok lv68 rfl ?_ | refine Zr rfl ?_); simp only [↓reduceIte, reduceCtorEq, reduceEqDiff, reduceAdd, reduceMul, reduceSub, reduceLeDiff, reduceEq, reduceLT, reduceLE, go_sem]) | (refine Z5 rfl ?_; with_reducible first | refine ZT ?_ | refine ZF ?_) | refine ZS rfl ?_ | refine Z9 fun _ _ => ?_ | refine ZH ?_ | refine Zl ‹_› (by decide) ?_ | fail
  refine .cond rfl (fun h => ?_) (fun h => ?_)
  · simp only [decide_eq_true_eq] at h
    have hlt : i < l.length := by omega
    have hmem : l.getD i Vl.z ∈ l := by
      rw [List.getD_eq_getElem?_getD, List.getElem?_eq_getElem hlt]
      exact List.getElem_mem _
    repeat' first | refine Z1 fun _ _ => ?_ | refine Z2 ‹_› ?_ | ((first | refine Z3 tb_ok lv68 rfl ?_ | refine Zr rfl ?_); simp only [↓reduceIte, reduceCtorEq, reduceEqDiff, reduceAdd, reduceMul, reduceSub, reduceLeDiff, reduceEq, reduceLT, reduceLE, go_sem]) | (refine Z5 rfl ?_; with_reducible first | refine ZT ?_ | refine ZF ?_) | refine ZS rfl ?_ | refine Z9 fun _ _ => ?_ | refine ZH ?_ | refine Zl ‹_› (by decide) ?_ | fail
    refine idx_own (j := i) rfl rfl rfl rfl rfl rfl (by omega) (by rw [List.length_map]; omega) ?_
    simp only [↓reduceIte, reduceCtorEq, reduceEqDiff, reduceAdd, reduceMul, reduceSub, reduceLeDiff, reduceEq, reduceLT, reduceLE, go_sem]
    repeat' first | refine Z1 fun _ _ => ?_ | refine Z2 ‹_› ?_ | ((first | refine Z3 tb_ok lv68 rfl ?_ | refine Zr rfl ?_); simp only [↓reduceIte, reduceCtorEq, reduceEqDiff, reduceAdd, reduceMul, reduceSub, reduceLeDiff, reduceEq, reduceLT, reduceLE, go_sem]) | (refine Z5 rfl ?_; with_reducible first | refine ZT ?_ | refine ZF ?_) | refine ZS rfl ?_ | refine Z9 fun _ _ => ?_ | refine ZH ?_ | refine Zl ‹_› (by decide) ?_ | fail
    refine ⟨_, at_map Vl.z hlt, ?_⟩
    simp only [↓reduceIte, reduceCtorEq, reduceEqDiff, reduceAdd, reduceMul, reduceSub, reduceLeDiff, reduceEq, reduceLT, reduceLE, go_sem]
    repeat' first | refine Z1 fun _ _ => ?_ | refine Z2 ‹_› ?_ | ((first | refine Z3 tb_ok lv68 rfl ?_ | refine Zr rfl ?_); simp only [↓reduceIte, reduceCtorEq, reduceEqDiff, reduceAdd, reduceMul, reduceSub, reduceLeDiff, reduceEq, reduceLT, reduceLE, go_sem]) | (refine Z5 rfl ?_; with_reducible first | refine ZT ?_ | refine ZF ?_) | refine ZS rfl ?_ | refine Z9 fun _ _ => ?_ | refine ZH ?_ | refine Zl ‹_› (by decide) ?_ | fail
    have hs := c_same (gl := gl) (l.getD i Vl.z) (hb _ hmem) v
    cases hb2 : (l.getD i Vl.z).same v with
    | true =>
      rw [hb2] at hs
      refine call_pure rfl rfl (hs) ?_; simp only [↓reduceIte, reduceCtorEq, reduceEqDiff, reduceAdd, reduceMul, reduceSub, reduceLeDiff, reduceEq, reduceLT, reduceLE, go_sem]
      repeat' first | refine Z1 fun _ _ => ?_ | refine Z2 ‹_› ?_ | ((first | refine Z3 tb_ok lv68 rfl ?_ | refine Zr rfl ?_); simp only [↓reduceIte, reduceCtorEq, reduceEqDiff, reduceAdd, reduceMul, reduceSub, reduceLeDiff, reduceEq, reduceLT, reduceLE, go_sem]) | (refine Z5 rfl ?_; with_reducible first | refine ZT ?_ | refine ZF ?_) | refine ZS rfl ?_ | refine Z9 fun _ _ => ?_ | refine ZH ?_ | refine Zl ‹_› (by decide) ?_ | fail
      rw [addV, if_neg h2, if_pos (List.any_eq_true.2 ⟨_, hmem, hb2⟩)]
      exact ⟨_, rfl⟩
    | false =>
      rw [hb2] at hs
      refine call_pure rfl rfl (hs) ?_; simp only [↓reduceIte, reduceCtorEq, reduceEqDiff, reduceAdd, reduceMul, reduceSub, reduceLeDiff, reduceEq, reduceLT, reduceLE, go_sem]
      repeat' first | refine Z1 fun _ _ => ?_ | refine Z2 ‹_› ?_ | ((first | refine Z3 tb_ok lv68 rfl ?_ | refine Zr rfl ?_); simp only [↓reduceIte, reduceCtorEq, reduceEqDiff, reduceAdd, reduceMul, reduceSub, reduceLeDiff, reduceEq, reduceLT, reduceLE, go_sem]) | (refine Z5 rfl ?_; with_reducible first | refine ZT ?_ | refine ZF ?_) | refine ZS rfl ?_ | refine Z9 fun _ _ => ?_ | refine ZH ?_ | refine Zl ‹_› (by decide) ?_ | fail
      rw [wrap64 (by omega) (by omega)]
      exact hQ.next (i + 1) ⟨hlt, fun m hm => by
        rcases Nat.lt_or_eq_of_le (Nat.le_of_lt_succ hm) with h3 | h3
        · exact hno m h3
        · rw [h3]; exact hb2⟩ (by omega) (by simp only [↓reduceIte, reduceCtorEq, reduceEqDiff, reduceAdd, reduceMul, reduceSub, reduceLeDiff, reduceEq, reduceLT, reduceLE, go_sem]; try simp)
  · simp only [decide_eq_false_iff_not] at h
    have ea : addV l v = l ++ [v] := by
      rw [addV, if_neg h2, if_neg]
      intro hany
      obtain ⟨u, hu, hs⟩ := List.any_eq_true.1 hany
      obtain ⟨m, hm⟩ := List.getElem?_of_mem hu
      have hml := (List.getElem?_eq_some_iff.1 hm).1
      have := hno m (by omega)
      rw [List.getD_eq_getElem?_getD, hm, Option.getD_some, hs] at this
      cases this
    repeat' first | refine Z1 fun _ _ => ?_ | refine Z2 ‹_› ?_ | ((first | refine Z3 tb_ok lv68 rfl ?_ | refine Zr rfl ?_); simp only [↓reduceIte, reduceCtorEq, reduceEqDiff, reduceAdd, reduceMul, reduceSub, reduceLeDiff, reduceEq, reduceLT, reduceLE, go_sem]) | (refine Z5 rfl ?_; with_reducible first | refine ZT ?_ | refine ZF ?_) | refine ZS rfl ?_ | refine Z9 fun _ _ => ?_ | refine ZH ?_ | refine Zl ‹_› (by decide) ?_ | fail
    refine ⟨fun e he => by rw [he]; rfl, by omega, by omega, ?_⟩
    repeat' first | refine Z1 fun _ _ => ?_ | refine Z2 ‹_› ?_ | ((first | refine Z3 tb_ok lv68 rfl ?_ | refine Zr rfl ?_); simp only [↓reduceIte, reduceCtorEq, reduceEqDiff, reduceAdd, reduceMul, reduceSub, reduceLeDiff, reduceEq, reduceLT, reduceLE, go_sem]) | (refine Z5 rfl ?_; with_reducible first | refine ZT ?_ | refine ZF ?_) | refine ZS rfl ?_ | refine Z9 fun _ _ => ?_ | refine ZH ?_ | refine Zl ‹_› (by decide) ?_ | fail
    rw [ea, List.map_append]
    exact ⟨_, by rw [List.map_cons, List.map_nil, Vl.cells_eq v]; rfl⟩
@[go_sem] def lv67 : List (Nat × List Nat) := [(0, [0, 1, 2]), (1, [0, 1, 2, 7]), (2, [0, 1, 7, 10, 11, 12]), (3, [0, 1, 7, 10, 11, 12, 13]), (4, [0, 1, 7, 9, 10, 11, 12]), (5, [0, 1, 7, 10, 11, 12]), (6, [0, 1, 7, 10, 11, 12]), (7, [6])]
def bs67 : List (Nat × List Nat × List Nat) := []
set_option maxHeartbeats 1000000 in
theorem c_wrap12 {gl} {l : List Vl} {k p : Int} (hl : l.length ≤ 4) : PConR Try.prog gl 67 [.int .i64 k, .int .i64 p, vals l] 27 5 ((wrapV k p l).map Vl.cells) := by
  refine PConR.enter (fn := Try.f67) (by kernel_rfl) (by kernel_rfl) rfl (by show 3 ≤ 26; decide) ?_
  repeat' first | refine Z1 fun _ _ => ?_ | refine Z2 ‹_› ?_ | ((first | refine Z3 tb_ok lv67 rfl ?_ | refine Zr rfl ?_); simp only [↓reduceIte, reduceCtorEq, reduceEqDiff, reduceAdd, reduceMul, reduceSub, reduceLeDiff, reduceEq, reduceLT, reduceLE, go_sem]) | (refine Z5 rfl ?_; with_reducible first | refine ZT ?_ | refine ZF ?_) | refine ZS rfl ?_ | refine Z9 fun _ _ => ?_ | refine ZH ?_ | refine Zl ‹_› (by decide) ?_ | fail
  refine .adopt 7 27 5 rfl (by decide) ?_
  simp only [↓reduceIte, reduceCtorEq, reduceEqDiff, reduceAdd, reduceMul, reduceSub, reduceLeDiff, reduceEq, reduceLT, reduceLE, go_sem]
  refine .loopS (α := Nat) (fun i => ⟨[(7, .own 5), (0, .d (.int .i64 k)), (1, .d (.int .i64 p)), (10, .d (vals l)), (11, .d (.int .i64 l.length)), (12, .d (.int .i64 i))], [(5, .row true 27 5 ((wrapV k p (l.take i)).map Vl.cells))], 6⟩) (fun i => i ≤ l.length) (fun i => l.length - i) 0 (by omega) [] rfl (by simp only [↓reduceIte, reduceCtorEq, reduceEqDiff, reduceAdd, reduceMul, reduceSub, reduceLeDiff, reduceEq, reduceLT, reduceLE, go_sem]; simp [wrapV]) ?_
  intro i hi Q hQ
  repeat' first | refine Z1 fun _ _ => ?_ | refine Z2 ‹_› ?_ | ((first | refine Z3 tb_ok lv67 rfl ?_ | refine Zr rfl ?_); simp only [↓reduceIte, reduceCtorEq, reduceEqDiff, reduceAdd, reduceMul, reduceSub, reduceLeDiff, reduceEq, reduceLT, reduceLE, go_sem]) | (refine Z5 rfl ?_; with_reducible first | refine ZT ?_ | refine ZF ?_) | refine ZS rfl ?_ | refine Z9 fun _ _ => ?_ | refine ZH ?_ | refine Zl ‹_› (by decide) ?_ | fail
  refine .cond rfl (fun h => ?_) (fun h => ?_)
  · simp only [decide_eq_true_eq] at h
    have hlt : i < l.length := by omega
    repeat' first | refine Z1 fun _ _ => ?_ | refine Z2 ‹_› ?_ | ((first | refine Z3 tb_ok lv67 rfl ?_ | refine Zr rfl ?_); simp only [↓reduceIte, reduceCtorEq, reduceEqDiff, reduceAdd, reduceMul, reduceSub, reduceLeDiff, reduceEq, reduceLT, reduceLE, go_sem]) | (refine Z5 rfl ?_; with_reducible first | refine ZT ?_ | refine ZF ?_) | refine ZS rfl ?_ | refine Z9 fun _ _ => ?_ | refine ZH ?_ | refine Zl ‹_› (by decide) ?_ | fail
    refine idx_map Vl.z rfl rfl rfl rfl rfl (by omega) (by omega) (Vl.cells_len _) ?_
    simp only [↓reduceIte, reduceCtorEq, reduceEqDiff, reduceAdd, reduceMul, reduceSub, reduceLeDiff, reduceEq, reduceLT, reduceLE, go_sem]
    repeat' first | refine Z1 fun _ _ => ?_ | refine Z2 ‹_› ?_ | ((first | refine Z3 tb_ok lv67 rfl ?_ | refine Zr rfl ?_); simp only [↓reduceIte, reduceCtorEq, reduceEqDiff, reduceAdd, reduceMul, reduceSub, reduceLeDiff, reduceEq, reduceLT, reduceLE, go_sem]) | (refine Z5 rfl ?_; with_reducible first | refine ZT ?_ | refine ZF ?_) | refine ZS rfl ?_ | refine Z9 fun _ _ => ?_ | refine ZH ?_ | refine Zl ‹_› (by decide) ?_ | fail
    have fin : List.map Vl.cells (wrapV k p (l.take i)) ++ [[D.int .i64 k, D.int .u8 0, D.str ByteArray.empty, D.int .i64 p, D.slice [[D.int .i64 (l.getD i Vl.z).kind, D.int .u8 (l.getD i Vl.z).byte, D.str (l.getD i Vl.z).text, D.int .i64 (l.getD i Vl.z).pick, D.slice (List.map Vl.cells (l.getD i Vl.z).kids)]]]] = (wrapV k p (l.take (i + 1))).map Vl.cells := by
      have h1 : l.take (i + 1) = l.take i ++ [l.getD i Vl.z] := by
        rw [List.take_succ, List.getD_eq_getElem?_getD, List.getElem?_eq_getElem hlt]; rfl
      rw [h1]
      simp only [wrapV, List.map_append, List.map_cons, List.map_nil, Vl.cells_eq (.mk _ _ _ _ _), Vl.kind_mk, Vl.byte_mk, Vl.text_mk, Vl.pick_mk, Vl.kids_mk, ← Vl.cells_eq (l.getD i Vl.z)]
    have hlw : (wrapV k p (l.take i)).length ≤ 4 := by simp [wrapV]; omega
    refine ⟨fun e he => by rw [he]; rfl, by omega, by omega, ?_⟩
    rw [fin]
    repeat' first | refine Z1 fun _ _ => ?_ | refine Z2 ‹_› ?_ | ((first | refine Z3 tb_ok lv67 rfl ?_ | refine Zr rfl ?_); simp only [↓reduceIte, reduceCtorEq, reduceEqDiff, reduceAdd, reduceMul, reduceSub, reduceLeDiff, reduceEq, reduceLT, reduceLE, go_sem]) | (refine Z5 rfl ?_; with_reducible first | refine ZT ?_ | refine ZF ?_) | refine ZS rfl ?_ | refine Z9 fun _ _ => ?_ | refine ZH ?_ | refine Zl ‹_› (by decide) ?_ | fail
    rw [wrap64 (by omega) (by omega)]
    exact hQ.next (i + 1) [(18, 5)] (by omega) (by omega) rfl (by simp only [↓reduceIte, reduceCtorEq, reduceEqDiff, reduceAdd, reduceMul, reduceSub, reduceLeDiff, reduceEq, reduceLT, reduceLE, go_sem]; try simp)
  · simp only [decide_eq_false_iff_not] at h
    have e3 : i = l.length := by omega
    repeat' first | refine Z1 fun _ _ => ?_ | refine Z2 ‹_› ?_ | ((first | refine Z3 tb_ok lv67 rfl ?_ | refine Zr rfl ?_); simp only [↓reduceIte, reduceCtorEq, reduceEqDiff, reduceAdd, reduceMul, reduceSub, reduceLeDiff, reduceEq, reduceLT, reduceLE, go_sem]) | (refine Z5 rfl ?_; with_reducible first | refine ZT ?_ | refine ZF ?_) | refine ZS rfl ?_ | refine Z9 fun _ _ => ?_ | refine ZH ?_ | refine Zl ‹_› (by decide) ?_ | fail
    rw [e3, List.take_length]
    rfl
end Go.Proofs.Ytpibdbjlilpfiaa
