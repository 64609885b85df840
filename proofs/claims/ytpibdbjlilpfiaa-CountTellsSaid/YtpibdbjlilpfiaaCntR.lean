/- count: times (ref12). -/
import Derived.Test.YtpibdbjlilpfiaaCntQ
namespace Go.Proofs.Ytpibdbjlilpfiaa
set_option linter.all false
open Go Go.RowKit
open Nat (reduceEqDiff reduceAdd reduceMul reduceSub reduceLeDiff)
open Int (reduceEq reduceLT reduceLE)

@[go_sem] def lv57 : List (Nat × List Nat) := [(0, [1, 2, 3, 4, 5, 6]), (1, [1, 2, 3, 4, 5, 6, 13]), (2, [1, 2, 4, 5, 6, 13]), (3, [1, 2, 4, 5, 6, 13, 14]), (4, [1, 2, 4, 5, 6, 13, 14, 15]), (5, [1, 2, 4, 5, 6, 13, 14, 15, 30]), (6, [1, 2, 4, 5, 6, 13, 14, 15]), (7, [1, 2, 4, 5, 6, 13, 14, 15, 35]), (8, [1, 2, 4, 5, 6, 13, 14, 15]), (9, [1, 2, 4, 5, 6, 13, 14, 15, 41]), (10, [1, 2, 4, 5, 6, 13, 14, 15, 16]), (11, [1, 2, 4, 5, 6, 13, 14, 15, 16, 17]), (12, [1, 2, 4, 5, 6, 13, 14, 15, 16, 17, 47]), (13, [1, 2, 4, 5, 6, 13, 14, 15, 16, 17]), (14, [1, 2, 4, 5, 6, 13, 14, 15, 16, 17, 54]), (15, [1, 2, 4, 5, 6, 13, 14, 15, 16, 17, 18]), (16, [1, 2, 4, 5, 6, 13, 14, 15, 16, 17, 18]), (17, [1, 2, 4, 5, 6, 13, 14, 15, 16, 17]), (18, [1, 2, 4, 5, 6, 13, 14, 15]), (19, [12])]
def bs57 : List (Nat × List Nat × List Nat) := []
set_option maxHeartbeats 4000000 in
theorem c_times {gl} {l : List Nd} {w : List UInt8} {i f : Nat} {lo hi : Int} {E : Nat → List Nat} (hw : w.length ≤ 1000) (hf : f ≤ w.length) (hlo : 0 ≤ lo ∧ lo ≤ 255) (hhi : -1 ≤ hi ∧ hi ≤ 255) (hE : EndsC gl l i w E) :
    PConR Try.prog gl 57 [desc l, .int .i64 i, bys w, .int .i64 f, .int .i64 lo, .int .i64 hi] 3 1 ((timesL E w.length f lo hi).map natC) := by
  refine PConR.enter (fn := Try.f57) (by kernel_rfl) (by kernel_rfl) rfl (by show 6 ≤ 72; decide) ?_
  repeat' first | refine Z1 fun _ _ => ?_ | refine Z2 ‹_› ?_ | ((first | refine Z3 tb_ok lv57 rfl ?_ | refine Zr rfl ?_); simp only [↓reduceIte, reduceCtorEq, reduceEqDiff, reduceAdd, reduceMul, reduceSub, reduceLeDiff, reduceEq, reduceLT, reduceLE, go_sem]) | (refine Z5 rfl ?_; with_reducible first | refine ZT ?_ | refine ZF ?_) | refine ZS rfl ?_ | refine Z9 fun _ _ => ?_ | refine ZH ?_ | refine Zl ‹_› (by decide) ?_ | fail
  refine call_row rfl rfl (c_zero (gl := gl) hw) ?_; simp only [↓reduceIte, reduceCtorEq, reduceEqDiff, reduceAdd, reduceMul, reduceSub, reduceLeDiff, reduceEq, reduceLT, reduceLE, go_sem]
  repeat' first | refine Z1 fun _ _ => ?_ | refine Z2 ‹_› ?_ | ((first | refine Z3 tb_ok lv57 rfl ?_ | refine Zr rfl ?_); simp only [↓reduceIte, reduceCtorEq, reduceEqDiff, reduceAdd, reduceMul, reduceSub, reduceLeDiff, reduceEq, reduceLT, reduceLE, go_sem]) | (refine Z5 rfl ?_; with_reducible first | refine ZT ?_ | refine ZF ?_) | refine ZS rfl ?_ | refine Z9 fun _ _ => ?_ | refine ZH ?_ | refine Zl ‹_› (by decide) ?_ | fail
  refine idx_own (j := f) (n := f) rfl rfl rfl rfl rfl rfl (by omega) (by rw [List.length_map, zeroL_len]; omega) ?_
  simp only [↓reduceIte, reduceCtorEq, reduceEqDiff, reduceAdd, reduceMul, reduceSub, reduceLeDiff, reduceEq, reduceLT, reduceLE, go_sem]
  repeat' first | refine Z1 fun _ _ => ?_ | ((first | refine Z3 tb_ok lv57 rfl ?_ | refine Zr rfl ?_); simp only [↓reduceIte, reduceCtorEq, reduceEqDiff, reduceAdd, reduceMul, reduceSub, reduceLeDiff, reduceEq, reduceLT, reduceLE, go_sem]) | (refine Z5 rfl ?_; with_reducible first | refine ZT ?_ | refine ZF ?_) | refine ZS rfl ?_ | refine Z9 fun _ _ => ?_ | refine ZH ?_ | refine Zl ‹_› (by decide) ?_ | fail
  refine ⟨_, at_map 0 (by rw [zeroL_len]; omega), ?_⟩
  have hset : (List.map natC (zeroL w.length)).set f (D.int .i64 1 :: List.drop 1 (natC ((zeroL w.length).getD f 0))) = ((zeroL w.length).set f 1).map natC := by
    rw [List.map_set]
    rfl
  rw [hset]
  refine Cut.go ‹_› ?_; refine .freeze 3 rfl rfl ?_; simp only [↓reduceIte, reduceCtorEq, reduceEqDiff, reduceAdd, reduceMul, reduceSub, reduceLeDiff, reduceEq, reduceLT, reduceLE, go_sem]
  repeat' first | refine Z1 fun _ _ => ?_ | refine Z2 ‹_› ?_ | ((first | refine Z3 tb_ok lv57 rfl ?_ | refine Zr rfl ?_); simp only [↓reduceIte, reduceCtorEq, reduceEqDiff, reduceAdd, reduceMul, reduceSub, reduceLeDiff, reduceEq, reduceLT, reduceLE, go_sem]) | (refine Z5 rfl ?_; with_reducible first | refine ZT ?_ | refine ZF ?_) | refine ZS rfl ?_ | refine Z9 fun _ _ => ?_ | refine ZH ?_ | refine Zl ‹_› (by decide) ?_ | fail
  refine call_row rfl rfl (c_zero (gl := gl) hw) ?_; simp only [↓reduceIte, reduceCtorEq, reduceEqDiff, reduceAdd, reduceMul, reduceSub, reduceLeDiff, reduceEq, reduceLT, reduceLE, go_sem]
  repeat' first | refine Z1 fun _ _ => ?_ | refine Z2 ‹_› ?_ | ((first | refine Z3 tb_ok lv57 rfl ?_ | refine Zr rfl ?_); simp only [↓reduceIte, reduceCtorEq, reduceEqDiff, reduceAdd, reduceMul, reduceSub, reduceLeDiff, reduceEq, reduceLT, reduceLE, go_sem]) | (refine Z5 rfl ?_; with_reducible first | refine ZT ?_ | refine ZF ?_) | refine ZS rfl ?_ | refine Z9 fun _ _ => ?_ | refine ZH ?_ | refine Zl ‹_› (by decide) ?_ | fail
  refine .loopS (α := Nat × List Nat × List Nat) (fun q => ⟨[(1, .d (.int .i64 i)), (2, .d (bys w)), (4, .d (.int .i64 lo)), (5, .d (.int .i64 hi)), (6, .ref 0 0), (13, .d (.slice (q.2.1.map natC))), (14, .own 10), (15, .d (.int .i64 q.1))], [(10, .row true 3 1 (q.2.2.map natC)), (0, .box true [.d (nds l)])], 11⟩)
    (fun q => q.1 ≤ w.length + 2 ∧ timesG E w.length lo hi (w.length + 2 - q.1) q.1 q.2.1 q.2.2 = timesL E w.length f lo hi ∧ (q.2.1.length = w.length + 1 ∧ ∀ x ∈ q.2.1, x ≤ 2) ∧ q.2.2.length = w.length + 1 ∧ ∀ x ∈ q.2.2, x ≤ 2) (fun q => w.length + 2 - q.1) (0, (zeroL w.length).set f 1, zeroL w.length) ?_ [] rfl (by simp only [↓reduceIte, reduceCtorEq, reduceEqDiff, reduceAdd, reduceMul, reduceSub, reduceLeDiff, reduceEq, reduceLT, reduceLE, go_sem]; simp) ?_
  · refine ⟨by omega, rfl, ⟨by rw [List.length_set, zeroL_len], fun x hx => ?_⟩, zeroL_len, zeroL_le⟩
    rcases List.mem_or_eq_of_mem_set hx with hx | hx
    · exact zeroL_le x hx
    · omega
  rintro ⟨t, now, out⟩ ⟨ht, hG, ⟨ln, an⟩, lo', ao⟩ Q hQ
  simp only at ht hG ln an lo' ao
  repeat' first | refine Z1 fun _ _ => ?_ | refine Z2 ‹_› ?_ | ((first | refine Z3 tb_ok lv57 rfl ?_ | refine Zr rfl ?_); simp only [↓reduceIte, reduceCtorEq, reduceEqDiff, reduceAdd, reduceMul, reduceSub, reduceLeDiff, reduceEq, reduceLT, reduceLE, go_sem]) | (refine Z5 rfl ?_; with_reducible first | refine ZT ?_ | refine ZF ?_) | refine ZS rfl ?_ | refine Z9 fun _ _ => ?_ | refine ZH ?_ | refine Zl ‹_› (by decide) ?_ | fail
  rw [wrap64 (by omega) (by omega)]
  refine .cond rfl (fun h => ?_) (fun h => ?_)
  · simp only [decide_eq_true_eq] at h
    by_cases hlt : lo ≤ (t : Int)
    · have g2 : decide (lo ≤ (t : Int)) = true := decide_eq_true hlt
      have hp := (c_plus (gl := gl) (a := out) (b := now) (t := 1) (by omega) (by omega) ao an (by omega))
      repeat' first | refine Z1 fun _ _ => ?_ | refine Z2 ‹_› ?_ | ((first | refine Z3 tb_ok lv57 rfl ?_ | refine Zr rfl ?_); simp only [↓reduceIte, reduceCtorEq, reduceEqDiff, reduceAdd, reduceMul, reduceSub, reduceLeDiff, reduceEq, reduceLT, reduceLE, go_sem]) | (refine Z5 rfl ?_; with_reducible first | refine ZT ?_ | refine ZF ?_) | refine ZS rfl ?_ | refine Z9 fun _ _ => ?_ | refine ZH ?_ | refine Zl ‹_› (by decide) ?_ | fail
      simp only [↓reduceIte, reduceCtorEq, reduceEqDiff, reduceAdd, reduceMul, reduceSub, reduceLeDiff, reduceEq, reduceLT, reduceLE, go_sem, g2]
      repeat' first | refine Z1 fun _ _ => ?_ | refine Z2 ‹_› ?_ | ((first | refine Z3 tb_ok lv57 rfl ?_ | refine Zr rfl ?_); simp only [↓reduceIte, reduceCtorEq, reduceEqDiff, reduceAdd, reduceMul, reduceSub, reduceLeDiff, reduceEq, reduceLT, reduceLE, go_sem]) | (refine Z5 rfl ?_; with_reducible first | refine ZT ?_ | refine ZF ?_) | refine ZS rfl ?_ | refine Z9 fun _ _ => ?_ | refine ZH ?_ | refine Zl ‹_› (by decide) ?_ | fail
      refine call_row rfl rfl (hp) ?_; simp only [↓reduceIte, reduceCtorEq, reduceEqDiff, reduceAdd, reduceMul, reduceSub, reduceLeDiff, reduceEq, reduceLT, reduceLE, go_sem]
      repeat' first | refine Z1 fun _ _ => ?_ | refine Z2 ‹_› ?_ | ((first | refine Z3 tb_ok lv57 rfl ?_ | refine Zr rfl ?_); simp only [↓reduceIte, reduceCtorEq, reduceEqDiff, reduceAdd, reduceMul, reduceSub, reduceLeDiff, reduceEq, reduceLT, reduceLE, go_sem]) | (refine Z5 rfl ?_; with_reducible first | refine ZT ?_ | refine ZF ?_) | refine ZS rfl ?_ | refine Z9 fun _ _ => ?_ | refine ZH ?_ | refine Zl ‹_› (by decide) ?_ | fail
      by_cases hth : (t : Int) = hi
      · have g3 : decide ((t : Int) = hi) = true := decide_eq_true hth
        simp only [↓reduceIte, reduceCtorEq, reduceEqDiff, reduceAdd, reduceMul, reduceSub, reduceLeDiff, reduceEq, reduceLT, reduceLE, go_sem, g3]
        repeat' first | refine Z1 fun _ _ => ?_ | refine Z2 ‹_› ?_ | ((first | refine Z3 tb_ok lv57 rfl ?_ | refine Zr rfl ?_); simp only [↓reduceIte, reduceCtorEq, reduceEqDiff, reduceAdd, reduceMul, reduceSub, reduceLeDiff, reduceEq, reduceLT, reduceLE, go_sem]) | (refine Z5 rfl ?_; with_reducible first | refine ZT ?_ | refine ZF ?_) | refine ZS rfl ?_ | refine Z9 fun _ _ => ?_ | refine ZH ?_ | refine Zl ‹_› (by decide) ?_ | fail
        rw [← hG, show w.length + 2 - t = (w.length + 1 - t) + 1 by omega, timesG]
        simp only [if_pos hlt, if_pos hth]
        exact rfl
      · have g3 : decide ((t : Int) = hi) = false := decide_eq_false hth
        simp only [↓reduceIte, reduceCtorEq, reduceEqDiff, reduceAdd, reduceMul, reduceSub, reduceLeDiff, reduceEq, reduceLT, reduceLE, go_sem, g3]
        repeat' first | refine Z1 fun _ _ => ?_ | refine Z2 ‹_› ?_ | ((first | refine Z3 tb_ok lv57 rfl ?_ | refine Zr rfl ?_); simp only [↓reduceIte, reduceCtorEq, reduceEqDiff, reduceAdd, reduceMul, reduceSub, reduceLeDiff, reduceEq, reduceLT, reduceLE, go_sem]) | (refine Z5 rfl ?_; with_reducible first | refine ZT ?_ | refine ZF ?_) | refine ZS rfl ?_ | refine Z9 fun _ _ => ?_ | refine ZH ?_ | refine Zl ‹_› (by decide) ?_ | fail
        refine call_pure rfl rfl ((c_zero (gl := gl) hw).toP) ?_; simp only [↓reduceIte, reduceCtorEq, reduceEqDiff, reduceAdd, reduceMul, reduceSub, reduceLeDiff, reduceEq, reduceLT, reduceLE, go_sem]
        repeat' first | refine Z1 fun _ _ => ?_ | refine Z2 ‹_› ?_ | ((first | refine Z3 tb_ok lv57 rfl ?_ | refine Zr rfl ?_); simp only [↓reduceIte, reduceCtorEq, reduceEqDiff, reduceAdd, reduceMul, reduceSub, reduceLeDiff, reduceEq, reduceLT, reduceLE, go_sem]) | (refine Z5 rfl ?_; with_reducible first | refine ZT ?_ | refine ZF ?_) | refine ZS rfl ?_ | refine Z9 fun _ _ => ?_ | refine ZH ?_ | refine Zl ‹_› (by decide) ?_ | fail
        refine .loopC (α := Nat) (fun k => ⟨[(1, .d (.int .i64 i)), (2, .d (bys w)), (4, .d (.int .i64 lo)), (5, .d (.int .i64 hi)), (6, .ref 0 0), (13, .d (.slice (now.map natC))), (14, .own 21), (15, .d (.int .i64 t)), (16, .d (.slice ((nextL E w.length now k).map natC))), (17, .d (.int .i64 k))], [(21, .row true 3 1 ((plusL out now 1).map natC)), (0, .box true [.d (nds l)])], 22⟩) (fun k => k ≤ w.length + 1) (fun k => w.length + 1 - k) 0 (by omega) (by simp only [↓reduceIte, reduceCtorEq, reduceEqDiff, reduceAdd, reduceMul, reduceSub, reduceLeDiff, reduceEq, reduceLT, reduceLE, go_sem]; simp [nextL, thruL]) ?_
        intro k hk Q2 hQ2
        repeat' first | refine Z1 fun _ _ => ?_ | refine Z2 ‹_› ?_ | ((first | refine Z3 tb_ok lv57 rfl ?_ | refine Zr rfl ?_); simp only [↓reduceIte, reduceCtorEq, reduceEqDiff, reduceAdd, reduceMul, reduceSub, reduceLeDiff, reduceEq, reduceLT, reduceLE, go_sem]) | (refine Z5 rfl ?_; with_reducible first | refine ZT ?_ | refine ZF ?_) | refine ZS rfl ?_ | refine Z9 fun _ _ => ?_ | refine ZH ?_ | refine Zl ‹_› (by decide) ?_ | fail
        refine .cond rfl (fun h5 => ?_) (fun h5 => ?_)
        · simp only [decide_eq_true_eq] at h5
          have hkl : k < now.length := by omega
          have q1 : now.getD k 0 ≤ 2 := an _ (getD_in 0 hkl)
          repeat' first | refine Z1 fun _ _ => ?_ | refine Z2 ‹_› ?_ | ((first | refine Z3 tb_ok lv57 rfl ?_ | refine Zr rfl ?_); simp only [↓reduceIte, reduceCtorEq, reduceEqDiff, reduceAdd, reduceMul, reduceSub, reduceLeDiff, reduceEq, reduceLT, reduceLE, go_sem]) | (refine Z5 rfl ?_; with_reducible first | refine ZT ?_ | refine ZF ?_) | refine ZS rfl ?_ | refine Z9 fun _ _ => ?_ | refine ZH ?_ | refine Zl ‹_› (by decide) ?_ | fail
          refine @idx_map _ _ _ now natC _ _ k _ _ .i64 (k : Int) _ _ _ (0 : Nat) rfl rfl rfl rfl rfl ?_ ?_ ?_ ?_
          · omega
          · omega
          · rfl
          simp only [↓reduceIte, reduceCtorEq, reduceEqDiff, reduceAdd, reduceMul, reduceSub, reduceLeDiff, reduceEq, reduceLT, reduceLE, go_sem]
          repeat' first | refine Z1 fun _ _ => ?_ | refine Z2 ‹_› ?_ | ((first | refine Z3 tb_ok lv57 rfl ?_ | refine Zr rfl ?_); simp only [↓reduceIte, reduceCtorEq, reduceEqDiff, reduceAdd, reduceMul, reduceSub, reduceLeDiff, reduceEq, reduceLT, reduceLE, go_sem]) | (refine Z5 rfl ?_; with_reducible first | refine ZT ?_ | refine ZF ?_) | refine ZS rfl ?_ | refine Z9 fun _ _ => ?_ | refine ZH ?_ | refine Zl ‹_› (by decide) ?_ | fail
          refine .cond rfl (fun h6 => ?_) (fun h6 => ?_)
          · simp only [decide_eq_true_eq] at h6
            repeat' first | refine Z1 fun _ _ => ?_ | refine Z2 ‹_› ?_ | ((first | refine Z3 tb_ok lv57 rfl ?_ | refine Zr rfl ?_); simp only [↓reduceIte, reduceCtorEq, reduceEqDiff, reduceAdd, reduceMul, reduceSub, reduceLeDiff, reduceEq, reduceLT, reduceLE, go_sem]) | (refine Z5 rfl ?_; with_reducible first | refine ZT ?_ | refine ZF ?_) | refine ZS rfl ?_ | refine Z9 fun _ _ => ?_ | refine ZH ?_ | refine Zl ‹_› (by decide) ?_ | fail
            obtain ⟨e1, e2, e3⟩ := hE k (by omega)
            simp only [desc, nds, bys] at e1
            refine call_row rfl rfl (e1) ?_; simp only [↓reduceIte, reduceCtorEq, reduceEqDiff, reduceAdd, reduceMul, reduceSub, reduceLeDiff, reduceEq, reduceLT, reduceLE, go_sem]
            repeat' first | refine Z1 fun _ _ => ?_ | refine Z2 ‹_› ?_ | ((first | refine Z3 tb_ok lv57 rfl ?_ | refine Zr rfl ?_); simp only [↓reduceIte, reduceCtorEq, reduceEqDiff, reduceAdd, reduceMul, reduceSub, reduceLeDiff, reduceEq, reduceLT, reduceLE, go_sem]) | (refine Z5 rfl ?_; with_reducible first | refine ZT ?_ | refine ZF ?_) | refine ZS rfl ?_ | refine Z9 fun _ _ => ?_ | refine ZH ?_ | refine Zl ‹_› (by decide) ?_ | fail
            refine idx_own (j := k) (n := k) rfl rfl rfl rfl rfl rfl (by omega) (by rw [List.length_map, e2]; omega) ?_
            simp only [↓reduceIte, reduceCtorEq, reduceEqDiff, reduceAdd, reduceMul, reduceSub, reduceLeDiff, reduceEq, reduceLT, reduceLE, go_sem]
            repeat' first | refine Z1 fun _ _ => ?_ | ((first | refine Z3 tb_ok lv57 rfl ?_ | refine Zr rfl ?_); simp only [↓reduceIte, reduceCtorEq, reduceEqDiff, reduceAdd, reduceMul, reduceSub, reduceLeDiff, reduceEq, reduceLT, reduceLE, go_sem]) | (refine Z5 rfl ?_; with_reducible first | refine ZT ?_ | refine ZF ?_) | refine ZS rfl ?_ | refine Z9 fun _ _ => ?_ | refine ZH ?_ | refine Zl ‹_› (by decide) ?_ | fail
            refine ⟨_, at_map 0 (by omega), ?_⟩
            have hs2 : (List.map natC (E k)).set k (D.int .i64 0 :: List.drop 1 (natC ((E k).getD k 0))) = ((E k).set k 0).map natC := by
              rw [List.map_set]
              rfl
            rw [hs2]
            refine Cut.go ‹_› ?_; refine .freeze 35 rfl rfl ?_; simp only [↓reduceIte, reduceCtorEq, reduceEqDiff, reduceAdd, reduceMul, reduceSub, reduceLeDiff, reduceEq, reduceLT, reduceLE, go_sem]
            repeat' first | refine Z1 fun _ _ => ?_ | refine Z2 ‹_› ?_ | ((first | refine Z3 tb_ok lv57 rfl ?_ | refine Zr rfl ?_); simp only [↓reduceIte, reduceCtorEq, reduceEqDiff, reduceAdd, reduceMul, reduceSub, reduceLeDiff, reduceEq, reduceLT, reduceLE, go_sem]) | (refine Z5 rfl ?_; with_reducible first | refine ZT ?_ | refine ZF ?_) | refine ZS rfl ?_ | refine Z9 fun _ _ => ?_ | refine ZH ?_ | refine Zl ‹_› (by decide) ?_ | fail
            refine @idx_map _ _ _ now natC _ _ k _ _ .i64 (k : Int) _ _ _ (0 : Nat) rfl rfl rfl rfl rfl ?_ ?_ ?_ ?_
            · omega
            · omega
            · rfl
            simp only [↓reduceIte, reduceCtorEq, reduceEqDiff, reduceAdd, reduceMul, reduceSub, reduceLeDiff, reduceEq, reduceLT, reduceLE, go_sem]
            repeat' first | refine Z1 fun _ _ => ?_ | refine Z2 ‹_› ?_ | ((first | refine Z3 tb_ok lv57 rfl ?_ | refine Zr rfl ?_); simp only [↓reduceIte, reduceCtorEq, reduceEqDiff, reduceAdd, reduceMul, reduceSub, reduceLeDiff, reduceEq, reduceLT, reduceLE, go_sem]) | (refine Z5 rfl ?_; with_reducible first | refine ZT ?_ | refine ZF ?_) | refine ZS rfl ?_ | refine Z9 fun _ _ => ?_ | refine ZH ?_ | refine Zl ‹_› (by decide) ?_ | fail
            have hp2 := (c_plus (gl := gl) (a := nextL E w.length now k) (b := (E k).set k 0) (t := now.getD k 0) (by rw [nextL, thruL_len]; omega) (by rw [nextL, thruL_len, List.length_set, e2]) (thruL_le k) (fun x hx => by
              rcases List.mem_or_eq_of_mem_set hx with hx | hx
              · exact e3 x hx
              · omega) q1).toP
            refine call_pure rfl rfl (hp2) ?_; simp only [↓reduceIte, reduceCtorEq, reduceEqDiff, reduceAdd, reduceMul, reduceSub, reduceLeDiff, reduceEq, reduceLT, reduceLE, go_sem]
            repeat' first | refine Z1 fun _ _ => ?_ | refine Z2 ‹_› ?_ | ((first | refine Z3 tb_ok lv57 rfl ?_ | refine Zr rfl ?_); simp only [↓reduceIte, reduceCtorEq, reduceEqDiff, reduceAdd, reduceMul, reduceSub, reduceLeDiff, reduceEq, reduceLT, reduceLE, go_sem]) | (refine Z5 rfl ?_; with_reducible first | refine ZT ?_ | refine ZF ?_) | refine ZS rfl ?_ | refine Z9 fun _ _ => ?_ | refine ZH ?_ | refine Zl ‹_› (by decide) ?_ | fail
            rw [wrap64 (by omega) (by omega)]
            refine hQ2.next (k + 1) (by omega) (by omega) ?_
            rw [show nextL E w.length now (k + 1) = plusL (nextL E w.length now k) ((E k).set k 0) (now.getD k 0) by rw [nextL, thruL_succ, if_pos (by omega)]; rfl]
            simp only [↓reduceIte, reduceCtorEq, reduceEqDiff, reduceAdd, reduceMul, reduceSub, reduceLeDiff, reduceEq, reduceLT, reduceLE, go_sem]
            simp
          · simp only [decide_eq_false_iff_not] at h6
            repeat' first | refine Z1 fun _ _ => ?_ | refine Z2 ‹_› ?_ | ((first | refine Z3 tb_ok lv57 rfl ?_ | refine Zr rfl ?_); simp only [↓reduceIte, reduceCtorEq, reduceEqDiff, reduceAdd, reduceMul, reduceSub, reduceLeDiff, reduceEq, reduceLT, reduceLE, go_sem]) | (refine Z5 rfl ?_; with_reducible first | refine ZT ?_ | refine ZF ?_) | refine ZS rfl ?_ | refine Z9 fun _ _ => ?_ | refine ZH ?_ | refine Zl ‹_› (by decide) ?_ | fail
            rw [wrap64 (by omega) (by omega)]
            refine hQ2.next (k + 1) (by omega) (by omega) ?_
            rw [nextL, thruL_succ, if_neg (by omega)]
            simp only [↓reduceIte, reduceCtorEq, reduceEqDiff, reduceAdd, reduceMul, reduceSub, reduceLeDiff, reduceEq, reduceLT, reduceLE, go_sem]
            simp [nextL]
        · simp only [decide_eq_false_iff_not] at h5
          have e5 : k = w.length + 1 := by omega
          repeat' first | refine Z1 fun _ _ => ?_ | refine Z2 ‹_› ?_ | ((first | refine Z3 tb_ok lv57 rfl ?_ | refine Zr rfl ?_); simp only [↓reduceIte, reduceCtorEq, reduceEqDiff, reduceAdd, reduceMul, reduceSub, reduceLeDiff, reduceEq, reduceLT, reduceLE, go_sem]) | (refine Z5 rfl ?_; with_reducible first | refine ZT ?_ | refine ZF ?_) | refine ZS rfl ?_ | refine Z9 fun _ _ => ?_ | refine ZH ?_ | refine Zl ‹_› (by decide) ?_ | fail
          rw [wrap64 (by omega) (by omega)]
          rw [show w.length + 2 - t = (w.length + 1 - t) + 1 by omega, timesG] at hG
          simp only [if_pos hlt, if_neg hth] at hG
          refine hQ.next (t + 1, nextL E w.length now k, plusL out now 1) [(21, 10)] ⟨by simp only; omega, ?_, ⟨by simp only [nextL, thruL_len], thruL_le k⟩, by simp only [plusL_len]; exact lo', plusL_le⟩ (by simp only; omega) rfl (by simp only [↓reduceIte, reduceCtorEq, reduceEqDiff, reduceAdd, reduceMul, reduceSub, reduceLeDiff, reduceEq, reduceLT, reduceLE, go_sem]; simp)
          simp only
          rw [show w.length + 2 - (t + 1) = w.length + 1 - t by omega, e5]
          exact hG
    · have g2 : decide (lo ≤ (t : Int)) = false := decide_eq_false hlt
      repeat' first | refine Z1 fun _ _ => ?_ | refine Z2 ‹_› ?_ | ((first | refine Z3 tb_ok lv57 rfl ?_ | refine Zr rfl ?_); simp only [↓reduceIte, reduceCtorEq, reduceEqDiff, reduceAdd, reduceMul, reduceSub, reduceLeDiff, reduceEq, reduceLT, reduceLE, go_sem]) | (refine Z5 rfl ?_; with_reducible first | refine ZT ?_ | refine ZF ?_) | refine ZS rfl ?_ | refine Z9 fun _ _ => ?_ | refine ZH ?_ | refine Zl ‹_› (by decide) ?_ | fail
      simp only [↓reduceIte, reduceCtorEq, reduceEqDiff, reduceAdd, reduceMul, reduceSub, reduceLeDiff, reduceEq, reduceLT, reduceLE, go_sem, g2]
      repeat' first | refine Z1 fun _ _ => ?_ | refine Z2 ‹_› ?_ | ((first | refine Z3 tb_ok lv57 rfl ?_ | refine Zr rfl ?_); simp only [↓reduceIte, reduceCtorEq, reduceEqDiff, reduceAdd, reduceMul, reduceSub, reduceLeDiff, reduceEq, reduceLT, reduceLE, go_sem]) | (refine Z5 rfl ?_; with_reducible first | refine ZT ?_ | refine ZF ?_) | refine ZS rfl ?_ | refine Z9 fun _ _ => ?_ | refine ZH ?_ | refine Zl ‹_› (by decide) ?_ | fail
      by_cases hth : (t : Int) = hi
      · have g3 : decide ((t : Int) = hi) = true := decide_eq_true hth
        simp only [↓reduceIte, reduceCtorEq, reduceEqDiff, reduceAdd, reduceMul, reduceSub, reduceLeDiff, reduceEq, reduceLT, reduceLE, go_sem, g3]
        repeat' first | refine Z1 fun _ _ => ?_ | refine Z2 ‹_› ?_ | ((first | refine Z3 tb_ok lv57 rfl ?_ | refine Zr rfl ?_); simp only [↓reduceIte, reduceCtorEq, reduceEqDiff, reduceAdd, reduceMul, reduceSub, reduceLeDiff, reduceEq, reduceLT, reduceLE, go_sem]) | (refine Z5 rfl ?_; with_reducible first | refine ZT ?_ | refine ZF ?_) | refine ZS rfl ?_ | refine Z9 fun _ _ => ?_ | refine ZH ?_ | refine Zl ‹_› (by decide) ?_ | fail
        rw [← hG, show w.length + 2 - t = (w.length + 1 - t) + 1 by omega, timesG]
        simp only [if_neg hlt, if_pos hth]
        exact rfl
      · have g3 : decide ((t : Int) = hi) = false := decide_eq_false hth
        simp only [↓reduceIte, reduceCtorEq, reduceEqDiff, reduceAdd, reduceMul, reduceSub, reduceLeDiff, reduceEq, reduceLT, reduceLE, go_sem, g3]
        repeat' first | refine Z1 fun _ _ => ?_ | refine Z2 ‹_› ?_ | ((first | refine Z3 tb_ok lv57 rfl ?_ | refine Zr rfl ?_); simp only [↓reduceIte, reduceCtorEq, reduceEqDiff, reduceAdd, reduceMul, reduceSub, reduceLeDiff, reduceEq, reduceLT, reduceLE, go_sem]) | (refine Z5 rfl ?_; with_reducible first | refine ZT ?_ | refine ZF ?_) | refine ZS rfl ?_ | refine Z9 fun _ _ => ?_ | refine ZH ?_ | refine Zl ‹_› (by decide) ?_ | fail
        refine call_pure rfl rfl ((c_zero (gl := gl) hw).toP) ?_; simp only [↓reduceIte, reduceCtorEq, reduceEqDiff, reduceAdd, reduceMul, reduceSub, reduceLeDiff, reduceEq, reduceLT, reduceLE, go_sem]
        repeat' first | refine Z1 fun _ _ => ?_ | refine Z2 ‹_› ?_ | ((first | refine Z3 tb_ok lv57 rfl ?_ | refine Zr rfl ?_); simp only [↓reduceIte, reduceCtorEq, reduceEqDiff, reduceAdd, reduceMul, reduceSub, reduceLeDiff, reduceEq, reduceLT, reduceLE, go_sem]) | (refine Z5 rfl ?_; with_reducible first | refine ZT ?_ | refine ZF ?_) | refine ZS rfl ?_ | refine Z9 fun _ _ => ?_ | refine ZH ?_ | refine Zl ‹_› (by decide) ?_ | fail
        refine .loopC (α := Nat) (fun k => ⟨[(1, .d (.int .i64 i)), (2, .d (bys w)), (4, .d (.int .i64 lo)), (5, .d (.int .i64 hi)), (6, .ref 0 0), (13, .d (.slice (now.map natC))), (14, .own 10), (15, .d (.int .i64 t)), (16, .d (.slice ((nextL E w.length now k).map natC))), (17, .d (.int .i64 k))], [(10, .row true 3 1 ((out).map natC)), (0, .box true [.d (nds l)])], 11⟩) (fun k => k ≤ w.length + 1) (fun k => w.length + 1 - k) 0 (by omega) (by simp only [↓reduceIte, reduceCtorEq, reduceEqDiff, reduceAdd, reduceMul, reduceSub, reduceLeDiff, reduceEq, reduceLT, reduceLE, go_sem]; simp [nextL, thruL]) ?_
        intro k hk Q2 hQ2
        repeat' first | refine Z1 fun _ _ => ?_ | refine Z2 ‹_› ?_ | ((first | refine Z3 tb_ok lv57 rfl ?_ | refine Zr rfl ?_); simp only [↓reduceIte, reduceCtorEq, reduceEqDiff, reduceAdd, reduceMul, reduceSub, reduceLeDiff, reduceEq, reduceLT, reduceLE, go_sem]) | (refine Z5 rfl ?_; with_reducible first | refine ZT ?_ | refine ZF ?_) | refine ZS rfl ?_ | refine Z9 fun _ _ => ?_ | refine ZH ?_ | refine Zl ‹_› (by decide) ?_ | fail
        refine .cond rfl (fun h5 => ?_) (fun h5 => ?_)
        · simp only [decide_eq_true_eq] at h5
          have hkl : k < now.length := by omega
          have q1 : now.getD k 0 ≤ 2 := an _ (getD_in 0 hkl)
          repeat' first | refine Z1 fun _ _ => ?_ | refine Z2 ‹_› ?_ | ((first | refine Z3 tb_ok lv57 rfl ?_ | refine Zr rfl ?_); simp only [↓reduceIte, reduceCtorEq, reduceEqDiff, reduceAdd, reduceMul, reduceSub, reduceLeDiff, reduceEq, reduceLT, reduceLE, go_sem]) | (refine Z5 rfl ?_; with_reducible first | refine ZT ?_ | refine ZF ?_) | refine ZS rfl ?_ | refine Z9 fun _ _ => ?_ | refine ZH ?_ | refine Zl ‹_› (by decide) ?_ | fail
          refine @idx_map _ _ _ now natC _ _ k _ _ .i64 (k : Int) _ _ _ (0 : Nat) rfl rfl rfl rfl rfl ?_ ?_ ?_ ?_
          · omega
          · omega
          · rfl
          simp only [↓reduceIte, reduceCtorEq, reduceEqDiff, reduceAdd, reduceMul, reduceSub, reduceLeDiff, reduceEq, reduceLT, reduceLE, go_sem]
          repeat' first | refine Z1 fun _ _ => ?_ | refine Z2 ‹_› ?_ | ((first | refine Z3 tb_ok lv57 rfl ?_ | refine Zr rfl ?_); simp only [↓reduceIte, reduceCtorEq, reduceEqDiff, reduceAdd, reduceMul, reduceSub, reduceLeDiff, reduceEq, reduceLT, reduceLE, go_sem]) | (refine Z5 rfl ?_; with_reducible first | refine ZT ?_ | refine ZF ?_) | refine ZS rfl ?_ | refine Z9 fun _ _ => ?_ | refine ZH ?_ | refine Zl ‹_› (by decide) ?_ | fail
          refine .cond rfl (fun h6 => ?_) (fun h6 => ?_)
          · simp only [decide_eq_true_eq] at h6
            repeat' first | refine Z1 fun _ _ => ?_ | refine Z2 ‹_› ?_ | ((first | refine Z3 tb_ok lv57 rfl ?_ | refine Zr rfl ?_); simp only [↓reduceIte, reduceCtorEq, reduceEqDiff, reduceAdd, reduceMul, reduceSub, reduceLeDiff, reduceEq, reduceLT, reduceLE, go_sem]) | (refine Z5 rfl ?_; with_reducible first | refine ZT ?_ | refine ZF ?_) | refine ZS rfl ?_ | refine Z9 fun _ _ => ?_ | refine ZH ?_ | refine Zl ‹_› (by decide) ?_ | fail
            obtain ⟨e1, e2, e3⟩ := hE k (by omega)
            simp only [desc, nds, bys] at e1
            refine call_row rfl rfl (e1) ?_; simp only [↓reduceIte, reduceCtorEq, reduceEqDiff, reduceAdd, reduceMul, reduceSub, reduceLeDiff, reduceEq, reduceLT, reduceLE, go_sem]
            repeat' first | refine Z1 fun _ _ => ?_ | refine Z2 ‹_› ?_ | ((first | refine Z3 tb_ok lv57 rfl ?_ | refine Zr rfl ?_); simp only [↓reduceIte, reduceCtorEq, reduceEqDiff, reduceAdd, reduceMul, reduceSub, reduceLeDiff, reduceEq, reduceLT, reduceLE, go_sem]) | (refine Z5 rfl ?_; with_reducible first | refine ZT ?_ | refine ZF ?_) | refine ZS rfl ?_ | refine Z9 fun _ _ => ?_ | refine ZH ?_ | refine Zl ‹_› (by decide) ?_ | fail
            refine idx_own (j := k) (n := k) rfl rfl rfl rfl rfl rfl (by omega) (by rw [List.length_map, e2]; omega) ?_
            simp only [↓reduceIte, reduceCtorEq, reduceEqDiff, reduceAdd, reduceMul, reduceSub, reduceLeDiff, reduceEq, reduceLT, reduceLE, go_sem]
            repeat' first | refine Z1 fun _ _ => ?_ | ((first | refine Z3 tb_ok lv57 rfl ?_ | refine Zr rfl ?_); simp only [↓reduceIte, reduceCtorEq, reduceEqDiff, reduceAdd, reduceMul, reduceSub, reduceLeDiff, reduceEq, reduceLT, reduceLE, go_sem]) | (refine Z5 rfl ?_; with_reducible first | refine ZT ?_ | refine ZF ?_) | refine ZS rfl ?_ | refine Z9 fun _ _ => ?_ | refine ZH ?_ | refine Zl ‹_› (by decide) ?_ | fail
            refine ⟨_, at_map 0 (by omega), ?_⟩
            have hs2 : (List.map natC (E k)).set k (D.int .i64 0 :: List.drop 1 (natC ((E k).getD k 0))) = ((E k).set k 0).map natC := by
              rw [List.map_set]
              rfl
            rw [hs2]
            refine Cut.go ‹_› ?_; refine .freeze 24 rfl rfl ?_; simp only [↓reduceIte, reduceCtorEq, reduceEqDiff, reduceAdd, reduceMul, reduceSub, reduceLeDiff, reduceEq, reduceLT, reduceLE, go_sem]
            repeat' first | refine Z1 fun _ _ => ?_ | refine Z2 ‹_› ?_ | ((first | refine Z3 tb_ok lv57 rfl ?_ | refine Zr rfl ?_); simp only [↓reduceIte, reduceCtorEq, reduceEqDiff, reduceAdd, reduceMul, reduceSub, reduceLeDiff, reduceEq, reduceLT, reduceLE, go_sem]) | (refine Z5 rfl ?_; with_reducible first | refine ZT ?_ | refine ZF ?_) | refine ZS rfl ?_ | refine Z9 fun _ _ => ?_ | refine ZH ?_ | refine Zl ‹_› (by decide) ?_ | fail
            refine @idx_map _ _ _ now natC _ _ k _ _ .i64 (k : Int) _ _ _ (0 : Nat) rfl rfl rfl rfl rfl ?_ ?_ ?_ ?_
            · omega
            · omega
            · rfl
            simp only [↓reduceIte, reduceCtorEq, reduceEqDiff, reduceAdd, reduceMul, reduceSub, reduceLeDiff, reduceEq, reduceLT, reduceLE, go_sem]
            repeat' first | refine Z1 fun _ _ => ?_ | refine Z2 ‹_› ?_ | ((first | refine Z3 tb_ok lv57 rfl ?_ | refine Zr rfl ?_); simp only [↓reduceIte, reduceCtorEq, reduceEqDiff, reduceAdd, reduceMul, reduceSub, reduceLeDiff, reduceEq, reduceLT, reduceLE, go_sem]) | (refine Z5 rfl ?_; with_reducible first | refine ZT ?_ | refine ZF ?_) | refine ZS rfl ?_ | refine Z9 fun _ _ => ?_ | refine ZH ?_ | refine Zl ‹_› (by decide) ?_ | fail
            have hp2 := (c_plus (gl := gl) (a := nextL E w.length now k) (b := (E k).set k 0) (t := now.getD k 0) (by rw [nextL, thruL_len]; omega) (by rw [nextL, thruL_len, List.length_set, e2]) (thruL_le k) (fun x hx => by
              rcases List.mem_or_eq_of_mem_set hx with hx | hx
              · exact e3 x hx
              · omega) q1).toP
            refine call_pure rfl rfl (hp2) ?_; simp only [↓reduceIte, reduceCtorEq, reduceEqDiff, reduceAdd, reduceMul, reduceSub, reduceLeDiff, reduceEq, reduceLT, reduceLE, go_sem]
            repeat' first | refine Z1 fun _ _ => ?_ | refine Z2 ‹_› ?_ | ((first | refine Z3 tb_ok lv57 rfl ?_ | refine Zr rfl ?_); simp only [↓reduceIte, reduceCtorEq, reduceEqDiff, reduceAdd, reduceMul, reduceSub, reduceLeDiff, reduceEq, reduceLT, reduceLE, go_sem]) | (refine Z5 rfl ?_; with_reducible first | refine ZT ?_ | refine ZF ?_) | refine ZS rfl ?_ | refine Z9 fun _ _ => ?_ | refine ZH ?_ | refine Zl ‹_› (by decide) ?_ | fail
            rw [wrap64 (by omega) (by omega)]
            refine hQ2.next (k + 1) (by omega) (by omega) ?_
            rw [show nextL E w.length now (k + 1) = plusL (nextL E w.length now k) ((E k).set k 0) (now.getD k 0) by rw [nextL, thruL_succ, if_pos (by omega)]; rfl]
            simp only [↓reduceIte, reduceCtorEq, reduceEqDiff, reduceAdd, reduceMul, reduceSub, reduceLeDiff, reduceEq, reduceLT, reduceLE, go_sem]
            simp
          · simp only [decide_eq_false_iff_not] at h6
            repeat' first | refine Z1 fun _ _ => ?_ | refine Z2 ‹_› ?_ | ((first | refine Z3 tb_ok lv57 rfl ?_ | refine Zr rfl ?_); simp only [↓reduceIte, reduceCtorEq, reduceEqDiff, reduceAdd, reduceMul, reduceSub, reduceLeDiff, reduceEq, reduceLT, reduceLE, go_sem]) | (refine Z5 rfl ?_; with_reducible first | refine ZT ?_ | refine ZF ?_) | refine ZS rfl ?_ | refine Z9 fun _ _ => ?_ | refine ZH ?_ | refine Zl ‹_› (by decide) ?_ | fail
            rw [wrap64 (by omega) (by omega)]
            refine hQ2.next (k + 1) (by omega) (by omega) ?_
            rw [nextL, thruL_succ, if_neg (by omega)]
            simp only [↓reduceIte, reduceCtorEq, reduceEqDiff, reduceAdd, reduceMul, reduceSub, reduceLeDiff, reduceEq, reduceLT, reduceLE, go_sem]
            simp [nextL]
        · simp only [decide_eq_false_iff_not] at h5
          have e5 : k = w.length + 1 := by omega
          repeat' first | refine Z1 fun _ _ => ?_ | refine Z2 ‹_› ?_ | ((first | refine Z3 tb_ok lv57 rfl ?_ | refine Zr rfl ?_); simp only [↓reduceIte, reduceCtorEq, reduceEqDiff, reduceAdd, reduceMul, reduceSub, reduceLeDiff, reduceEq, reduceLT, reduceLE, go_sem]) | (refine Z5 rfl ?_; with_reducible first | refine ZT ?_ | refine ZF ?_) | refine ZS rfl ?_ | refine Z9 fun _ _ => ?_ | refine ZH ?_ | refine Zl ‹_› (by decide) ?_ | fail
          rw [wrap64 (by omega) (by omega)]
          rw [show w.length + 2 - t = (w.length + 1 - t) + 1 by omega, timesG] at hG
          simp only [if_neg hlt, if_neg hth] at hG
          refine hQ.next (t + 1, nextL E w.length now k, out) [] ⟨by simp only; omega, ?_, ⟨by simp only [nextL, thruL_len], thruL_le k⟩, lo', ao⟩ (by simp only; omega) rfl (by simp only [↓reduceIte, reduceCtorEq, reduceEqDiff, reduceAdd, reduceMul, reduceSub, reduceLeDiff, reduceEq, reduceLT, reduceLE, go_sem]; simp)
          simp only
          rw [show w.length + 2 - (t + 1) = w.length + 1 - t by omega, e5]
          exact hG
  · simp only [decide_eq_false_iff_not] at h
    have e : w.length + 2 - t = 0 := by omega
    rw [e, timesG] at hG
    repeat' first | refine Z1 fun _ _ => ?_ | refine Z2 ‹_› ?_ | ((first | refine Z3 tb_ok lv57 rfl ?_ | refine Zr rfl ?_); simp only [↓reduceIte, reduceCtorEq, reduceEqDiff, reduceAdd, reduceMul, reduceSub, reduceLeDiff, reduceEq, reduceLT, reduceLE, go_sem]) | (refine Z5 rfl ?_; with_reducible first | refine ZT ?_ | refine ZF ?_) | refine ZS rfl ?_ | refine Z9 fun _ _ => ?_ | refine ZH ?_ | refine Zl ‹_› (by decide) ?_ | fail
    rw [hG]
    exact rfl
end Go.Proofs.Ytpibdbjlilpfiaa
