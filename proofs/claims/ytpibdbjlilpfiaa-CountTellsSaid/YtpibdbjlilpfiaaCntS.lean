/- count: ends (ref12), of each kind (printed by wip/gen/cnts.py). -/
import Derived.Test.YtpibdbjlilpfiaaCntR
import Derived.Test.YtpibdbjlilpfiaaValB
namespace Go.Proofs.Ytpibdbjlilpfiaa
set_option linter.all false
open Go Go.RowKit
open Nat (reduceEqDiff reduceAdd reduceMul reduceSub reduceLeDiff)
open Int (reduceEq reduceLT reduceLE)

theorem set_nat {r : List Nat} {k v : Nat} : (List.map natC r).set k (D.int .i64 (v : Int) :: List.drop 1 (natC (r.getD k 0))) = (r.set k v).map natC := by
  rw [List.map_set]
  rfl
theorem set_one {r : List Nat} {k : Nat} : (List.map natC r).set k (D.int .i64 1 :: List.drop 1 (natC (r.getD k 0))) = (r.set k 1).map natC := set_nat
@[go_sem] def lv44 : List (Nat × List Nat) := [(0, [1, 2, 3, 4]), (1, [2, 3, 4, 9]), (2, [2, 3, 4, 9, 10]), (3, [2, 3, 4, 9, 10, 21]), (4, [2, 3, 4, 9, 10, 21, 22]), (5, [10]), (6, [2, 3, 4, 9, 10, 21, 27]), (7, [3, 10, 41]), (8, [10]), (9, [2, 3, 4, 9, 10, 21, 46]), (10, [3, 9, 10, 69]), (11, [10]), (12, [2, 3, 4, 9, 10, 21, 77]), (13, [8]), (14, [2, 3, 4, 9, 10, 21, 90]), (15, [8]), (16, [2, 3, 4, 9, 10, 21, 105]), (17, [8]), (18, [2, 3, 4, 9, 10, 21, 113]), (19, [8]), (20, [2, 3, 4, 9, 10, 21, 125]), (21, [2, 3, 4, 9, 10, 130]), (22, [2, 3, 4, 9, 10, 11]), (23, [2, 3, 4, 9, 10, 11, 142]), (24, [10]), (25, [2, 3, 4, 9, 10, 158]), (26, [2, 3, 4, 9, 10, 164]), (27, [2, 3, 4, 9, 10, 12]), (28, [2, 3, 4, 9, 10, 12, 184]), (29, [10]), (30, [8])]
def bs44 : List (Nat × List Nat × List Nat) := [(7, [0, 0, 2, 7, 15, 31, 63, 31, 31, 415, 927, 2047, 4095], [11]), (10, [0, 0, 2, 6, 15, 0, 32, 127, 255, 511, 511, 511, 511, 4607, 12799, 31231, 65535, 131071, 511, 262655, 1048575, 2097151], []), (13, [0, 0, 2, 0, 0, 0, 32, 0, 0, 496, 1023, 2047], [10]), (15, [0, 0, 2, 0, 0, 31, 0, 0, 128, 0, 0, 2047, 4095, 8191], [11, 12]), (24, [0, 0, 0, 0, 8, 0, 0, 96, 0, 256, 1020, 0, 4092, 8188, 16383, 32767], [10, 15]), (27, [0, 1, 0, 0, 12, 28, 60, 124, 255, 0, 0, 1024, 3584, 7680, 15872, 32767, 65535], []), (29, [0, 0, 0, 0, 8, 0, 0, 96, 0, 256, 1020, 0, 4092, 8188, 16383, 32767], [10, 15])]
set_option maxHeartbeats 4000000 in
theorem ends_void {gl} {l : List Nd} {w : List UInt8} {i f : Nat}  (hl : l.length ≤ 1048576) (hi' : i < l.length) (hr : l.getD i Nd.z = ⟨1, 0, 0, 0, 0, 0, 0, 0, 0, .empty⟩) (hf : f ≤ w.length) (hw : w.length ≤ 1000) :
    PConR Try.prog gl 44 [desc l, .int .i64 i, bys w, .int .i64 f] 3 1 ((T.ends .void w f).map natC) := by
  refine PConR.enter (fn := Try.f44) (by kernel_rfl) (by kernel_rfl) rfl (by show 4 ≤ 201; decide) ?_
  simp only [desc, nds, bys]
  repeat' first | refine Z1 fun _ _ => ?_ | refine Z2 ‹_› ?_ | ((first | refine Z3 tb_ok lv44 rfl ?_ | refine Z4 tb_ok mix lv44 bs44 rfl (by kernel_rfl) rfl ?_ | refine Zr rfl ?_); simp only [↓reduceIte, reduceCtorEq, reduceEqDiff, reduceAdd, reduceMul, reduceSub, reduceLeDiff, reduceEq, reduceLT, reduceLE, go_sem]) | (refine Z5 rfl ?_; with_reducible first | refine ZT ?_ | refine ZF ?_) | refine ZS rfl ?_ | refine Z9 fun _ _ => ?_ | refine ZH ?_ | refine Zo rfl ?_ | refine Zp rfl ?_ | refine Zn rfl ?_ | fail
  refine @idx_map _ _ _ l Nd.cells _ _ i _ _ .i64 (i : Int) _ _ _ Nd.z rfl rfl rfl rfl rfl ?_ ?_ ?_ ?_
  · omega
  · omega
  · rfl
  rw [hr]
  simp only [↓reduceIte, reduceCtorEq, reduceEqDiff, reduceAdd, reduceMul, reduceSub, reduceLeDiff, reduceEq, reduceLT, reduceLE, go_sem]
  repeat' first | refine Z1 fun _ _ => ?_ | refine Z2 ‹_› ?_ | ((first | refine Z3 tb_ok lv44 rfl ?_ | refine Z4 tb_ok mix lv44 bs44 rfl (by kernel_rfl) rfl ?_ | refine Zr rfl ?_); simp only [↓reduceIte, reduceCtorEq, reduceEqDiff, reduceAdd, reduceMul, reduceSub, reduceLeDiff, reduceEq, reduceLT, reduceLE, go_sem]) | (refine Z5 rfl ?_; with_reducible first | refine ZT ?_ | refine ZF ?_) | refine ZS rfl ?_ | refine Z9 fun _ _ => ?_ | refine ZH ?_ | refine Zo rfl ?_ | refine Zp rfl ?_ | refine Zn rfl ?_ | fail
  refine call_row rfl rfl (c_zero (gl := gl) hw) ?_; simp only [↓reduceIte, reduceCtorEq, reduceEqDiff, reduceAdd, reduceMul, reduceSub, reduceLeDiff, reduceEq, reduceLT, reduceLE, go_sem]
  repeat' first | refine Z1 fun _ _ => ?_ | refine Z2 ‹_› ?_ | ((first | refine Z3 tb_ok lv44 rfl ?_ | refine Z4 tb_ok mix lv44 bs44 rfl (by kernel_rfl) rfl ?_ | refine Zr rfl ?_); simp only [↓reduceIte, reduceCtorEq, reduceEqDiff, reduceAdd, reduceMul, reduceSub, reduceLeDiff, reduceEq, reduceLT, reduceLE, go_sem]) | (refine Z5 rfl ?_; with_reducible first | refine ZT ?_ | refine ZF ?_) | refine ZS rfl ?_ | refine Z9 fun _ _ => ?_ | refine ZH ?_ | refine Zo rfl ?_ | refine Zp rfl ?_ | refine Zn rfl ?_ | fail
  refine idx_own (j := f) (n := f) rfl rfl rfl rfl rfl rfl (by omega) (by rw [List.length_map, zeroL_len]; omega) ?_
  simp only [↓reduceIte, reduceCtorEq, reduceEqDiff, reduceAdd, reduceMul, reduceSub, reduceLeDiff, reduceEq, reduceLT, reduceLE, go_sem]
  repeat' first | refine Z1 fun _ _ => ?_ | ((first | refine Z3 tb_ok lv44 rfl ?_ | refine Z4 tb_ok mix lv44 bs44 rfl (by kernel_rfl) rfl ?_ | refine Zr rfl ?_); simp only [↓reduceIte, reduceCtorEq, reduceEqDiff, reduceAdd, reduceMul, reduceSub, reduceLeDiff, reduceEq, reduceLT, reduceLE, go_sem]) | (refine Z5 rfl ?_; with_reducible first | refine ZT ?_ | refine ZF ?_) | refine ZS rfl ?_ | refine Z9 fun _ _ => ?_ | refine ZH ?_ | refine Zo rfl ?_ | refine Zp rfl ?_ | refine Zn rfl ?_ | fail
  refine ⟨_, at_map 0 (by rw [zeroL_len]; omega), ?_⟩
  rw [set_one]
  repeat' first | refine Z1 fun _ _ => ?_ | refine Z2 ‹_› ?_ | ((first | refine Z3 tb_ok lv44 rfl ?_ | refine Z4 tb_ok mix lv44 bs44 rfl (by kernel_rfl) rfl ?_ | refine Zr rfl ?_); simp only [↓reduceIte, reduceCtorEq, reduceEqDiff, reduceAdd, reduceMul, reduceSub, reduceLeDiff, reduceEq, reduceLT, reduceLE, go_sem]) | (refine Z5 rfl ?_; with_reducible first | refine ZT ?_ | refine ZF ?_) | refine ZS rfl ?_ | refine Z9 fun _ _ => ?_ | refine ZH ?_ | refine Zo rfl ?_ | refine Zp rfl ?_ | refine Zn rfl ?_ | fail
  rw [T.ends]
  exact rfl
set_option maxHeartbeats 4000000 in
theorem ends_bytes {gl} {l : List Nd} {w : List UInt8} {i f : Nat} {c0 c1 c2 c3 : Int} (hl : l.length ≤ 1048576) (hi' : i < l.length) (hr : l.getD i Nd.z = ⟨2, 0, 0, 0, 0, c0, c1, c2, c3, .empty⟩) (hf : f ≤ w.length) (hw : w.length ≤ 1000) (hc : (T.bytes c0 c1 c2 c3).cok) :
    PConR Try.prog gl 44 [desc l, .int .i64 i, bys w, .int .i64 f] 3 1 ((T.ends (.bytes c0 c1 c2 c3) w f).map natC) := by
  refine PConR.enter (fn := Try.f44) (by kernel_rfl) (by kernel_rfl) rfl (by show 4 ≤ 201; decide) ?_
  simp only [desc, nds, bys]
  repeat' first | refine Z1 fun _ _ => ?_ | refine Z2 ‹_› ?_ | ((first | refine Z3 tb_ok lv44 rfl ?_ | refine Z4 tb_ok mix lv44 bs44 rfl (by kernel_rfl) rfl ?_ | refine Zr rfl ?_); simp only [↓reduceIte, reduceCtorEq, reduceEqDiff, reduceAdd, reduceMul, reduceSub, reduceLeDiff, reduceEq, reduceLT, reduceLE, go_sem]) | (refine Z5 rfl ?_; with_reducible first | refine ZT ?_ | refine ZF ?_) | refine ZS rfl ?_ | refine Z9 fun _ _ => ?_ | refine ZH ?_ | refine Zo rfl ?_ | refine Zp rfl ?_ | refine Zn rfl ?_ | fail
  refine @idx_map _ _ _ l Nd.cells _ _ i _ _ .i64 (i : Int) _ _ _ Nd.z rfl rfl rfl rfl rfl ?_ ?_ ?_ ?_
  · omega
  · omega
  · rfl
  rw [hr]
  simp only [↓reduceIte, reduceCtorEq, reduceEqDiff, reduceAdd, reduceMul, reduceSub, reduceLeDiff, reduceEq, reduceLT, reduceLE, go_sem]
  repeat' first | refine Z1 fun _ _ => ?_ | refine Z2 ‹_› ?_ | ((first | refine Z3 tb_ok lv44 rfl ?_ | refine Z4 tb_ok mix lv44 bs44 rfl (by kernel_rfl) rfl ?_ | refine Zr rfl ?_); simp only [↓reduceIte, reduceCtorEq, reduceEqDiff, reduceAdd, reduceMul, reduceSub, reduceLeDiff, reduceEq, reduceLT, reduceLE, go_sem]) | (refine Z5 rfl ?_; with_reducible first | refine ZT ?_ | refine ZF ?_) | refine ZS rfl ?_ | refine Z9 fun _ _ => ?_ | refine ZH ?_ | refine Zo rfl ?_ | refine Zp rfl ?_ | refine Zn rfl ?_ | fail
  refine call_row rfl rfl (c_zero (gl := gl) hw) ?_; simp only [↓reduceIte, reduceCtorEq, reduceEqDiff, reduceAdd, reduceMul, reduceSub, reduceLeDiff, reduceEq, reduceLT, reduceLE, go_sem]
  repeat' first | refine Z1 fun _ _ => ?_ | refine Z2 ‹_› ?_ | ((first | refine Z3 tb_ok lv44 rfl ?_ | refine Z4 tb_ok mix lv44 bs44 rfl (by kernel_rfl) rfl ?_ | refine Zr rfl ?_); simp only [↓reduceIte, reduceCtorEq, reduceEqDiff, reduceAdd, reduceMul, reduceSub, reduceLeDiff, reduceEq, reduceLT, reduceLE, go_sem]) | (refine Z5 rfl ?_; with_reducible first | refine ZT ?_ | refine ZF ?_) | refine ZS rfl ?_ | refine Z9 fun _ _ => ?_ | refine ZH ?_ | refine Zo rfl ?_ | refine Zp rfl ?_ | refine Zn rfl ?_ | fail
  refine .split rfl (fun g1 => ?_) (fun g1 => ?_) <;> simp only [↓reduceIte, reduceCtorEq, reduceEqDiff, reduceAdd, reduceMul, reduceSub, reduceLeDiff, reduceEq, reduceLT, reduceLE, go_sem, g1]
  · simp only [decide_eq_true_eq] at g1
    have hlt : f < w.length := by omega
    have hs := c_rhas (gl := gl) (c0 := c0) (c1 := c1) (c2 := c2) (c3 := c3) (b := (w.getD f 0).toNat) hc.1 hc.2.1 hc.2.2.1 hc.2.2.2 ⟨by omega, by have := (w.getD f 0).toNat_lt; omega⟩
    simp only [cls] at hs
    repeat' first | refine Z1 fun _ _ => ?_ | refine Z2 ‹_› ?_ | ((first | refine Z3 tb_ok lv44 rfl ?_ | refine Z4 tb_ok mix lv44 bs44 rfl (by kernel_rfl) rfl ?_ | refine Zr rfl ?_); simp only [↓reduceIte, reduceCtorEq, reduceEqDiff, reduceAdd, reduceMul, reduceSub, reduceLeDiff, reduceEq, reduceLT, reduceLE, go_sem]) | (refine Z5 rfl ?_; with_reducible first | refine ZT ?_ | refine ZF ?_) | refine ZS rfl ?_ | refine Z9 fun _ _ => ?_ | refine ZH ?_ | refine Zo rfl ?_ | refine Zp rfl ?_ | refine Zn rfl ?_ | fail
    refine @idx_map _ _ _ w encB _ _ f _ _ .i64 (f : Int) _ _ _ (0 : UInt8) rfl rfl rfl rfl rfl ?_ ?_ ?_ ?_
    · omega
    · omega
    · rfl
    refine ⟨trivial, ?_⟩
    simp only [↓reduceIte, reduceCtorEq, reduceEqDiff, reduceAdd, reduceMul, reduceSub, reduceLeDiff, reduceEq, reduceLT, reduceLE, go_sem, encB]
    repeat' first | refine Z1 fun _ _ => ?_ | refine Z2 ‹_› ?_ | ((first | refine Z3 tb_ok lv44 rfl ?_ | refine Z4 tb_ok mix lv44 bs44 rfl (by kernel_rfl) rfl ?_ | refine Zr rfl ?_); simp only [↓reduceIte, reduceCtorEq, reduceEqDiff, reduceAdd, reduceMul, reduceSub, reduceLeDiff, reduceEq, reduceLT, reduceLE, go_sem]) | (refine Z5 rfl ?_; with_reducible first | refine ZT ?_ | refine ZF ?_) | refine ZS rfl ?_ | refine Z9 fun _ _ => ?_ | refine ZH ?_ | refine Zo rfl ?_ | refine Zp rfl ?_ | refine Zn rfl ?_ | fail
    cases hh : clsHas c0 c1 c2 c3 (w.getD f 0).toNat with
    | true =>
      rw [hh] at hs
      refine call_pure rfl rfl (hs) ?_; simp only [↓reduceIte, reduceCtorEq, reduceEqDiff, reduceAdd, reduceMul, reduceSub, reduceLeDiff, reduceEq, reduceLT, reduceLE, go_sem]
      repeat' first | refine Z1 fun _ _ => ?_ | refine Z2 ‹_› ?_ | ((first | refine Z3 tb_ok lv44 rfl ?_ | refine Z4 tb_ok mix lv44 bs44 rfl (by kernel_rfl) rfl ?_ | refine Zr rfl ?_); simp only [↓reduceIte, reduceCtorEq, reduceEqDiff, reduceAdd, reduceMul, reduceSub, reduceLeDiff, reduceEq, reduceLT, reduceLE, go_sem]) | (refine Z5 rfl ?_; with_reducible first | refine ZT ?_ | refine ZF ?_) | refine ZS rfl ?_ | refine Z9 fun _ _ => ?_ | refine ZH ?_ | refine Zo rfl ?_ | refine Zp rfl ?_ | refine Zn rfl ?_ | fail
      rw [wrap64 (by omega) (by omega)]
      refine idx_own (j := f + 1) (n := (f : Int) + 1) rfl rfl rfl rfl rfl rfl (by omega) (by rw [List.length_map, zeroL_len]; omega) ?_
      simp only [↓reduceIte, reduceCtorEq, reduceEqDiff, reduceAdd, reduceMul, reduceSub, reduceLeDiff, reduceEq, reduceLT, reduceLE, go_sem]
      repeat' first | refine Z1 fun _ _ => ?_ | ((first | refine Z3 tb_ok lv44 rfl ?_ | refine Z4 tb_ok mix lv44 bs44 rfl (by kernel_rfl) rfl ?_ | refine Zr rfl ?_); simp only [↓reduceIte, reduceCtorEq, reduceEqDiff, reduceAdd, reduceMul, reduceSub, reduceLeDiff, reduceEq, reduceLT, reduceLE, go_sem]) | (refine Z5 rfl ?_; with_reducible first | refine ZT ?_ | refine ZF ?_) | refine ZS rfl ?_ | refine Z9 fun _ _ => ?_ | refine ZH ?_ | refine Zo rfl ?_ | refine Zp rfl ?_ | refine Zn rfl ?_ | fail
      refine ⟨_, at_map 0 (by rw [zeroL_len]; omega), ?_⟩
      rw [set_one]
      repeat' first | refine Z1 fun _ _ => ?_ | refine Z2 ‹_› ?_ | ((first | refine Z3 tb_ok lv44 rfl ?_ | refine Z4 tb_ok mix lv44 bs44 rfl (by kernel_rfl) rfl ?_ | refine Zr rfl ?_); simp only [↓reduceIte, reduceCtorEq, reduceEqDiff, reduceAdd, reduceMul, reduceSub, reduceLeDiff, reduceEq, reduceLT, reduceLE, go_sem]) | (refine Z5 rfl ?_; with_reducible first | refine ZT ?_ | refine ZF ?_) | refine ZS rfl ?_ | refine Z9 fun _ _ => ?_ | refine ZH ?_ | refine Zo rfl ?_ | refine Zp rfl ?_ | refine Zn rfl ?_ | fail
      rw [T.ends, if_pos ⟨hlt, hh⟩]
      exact rfl
    | false =>
      rw [hh] at hs
      refine call_pure rfl rfl (hs) ?_; simp only [↓reduceIte, reduceCtorEq, reduceEqDiff, reduceAdd, reduceMul, reduceSub, reduceLeDiff, reduceEq, reduceLT, reduceLE, go_sem]
      repeat' first | refine Z1 fun _ _ => ?_ | refine Z2 ‹_› ?_ | ((first | refine Z3 tb_ok lv44 rfl ?_ | refine Z4 tb_ok mix lv44 bs44 rfl (by kernel_rfl) rfl ?_ | refine Zr rfl ?_); simp only [↓reduceIte, reduceCtorEq, reduceEqDiff, reduceAdd, reduceMul, reduceSub, reduceLeDiff, reduceEq, reduceLT, reduceLE, go_sem]) | (refine Z5 rfl ?_; with_reducible first | refine ZT ?_ | refine ZF ?_) | refine ZS rfl ?_ | refine Z9 fun _ _ => ?_ | refine ZH ?_ | refine Zo rfl ?_ | refine Zp rfl ?_ | refine Zn rfl ?_ | fail
      rw [T.ends, if_neg (by rw [hh]; simp)]
      exact rfl
  · simp only [decide_eq_false_iff_not] at g1
    repeat' first | refine Z1 fun _ _ => ?_ | refine Z2 ‹_› ?_ | ((first | refine Z3 tb_ok lv44 rfl ?_ | refine Z4 tb_ok mix lv44 bs44 rfl (by kernel_rfl) rfl ?_ | refine Zr rfl ?_); simp only [↓reduceIte, reduceCtorEq, reduceEqDiff, reduceAdd, reduceMul, reduceSub, reduceLeDiff, reduceEq, reduceLT, reduceLE, go_sem]) | (refine Z5 rfl ?_; with_reducible first | refine ZT ?_ | refine ZF ?_) | refine ZS rfl ?_ | refine Z9 fun _ _ => ?_ | refine ZH ?_ | refine Zo rfl ?_ | refine Zp rfl ?_ | refine Zn rfl ?_ | fail
    rw [T.ends, if_neg (fun h => g1 (by omega))]
    exact rfl
set_option maxHeartbeats 4000000 in
theorem ends_text {gl} {l : List Nd} {w : List UInt8} {i f : Nat} {s : ByteArray} (hl : l.length ≤ 1048576) (hi' : i < l.length) (hr : l.getD i Nd.z = ⟨3, 0, 0, 0, 0, 0, 0, 0, 0, s⟩) (hf : f ≤ w.length) (hw : w.length ≤ 1000) (hs : txtOk s) :
    PConR Try.prog gl 44 [desc l, .int .i64 i, bys w, .int .i64 f] 3 1 ((T.ends (.text s) w f).map natC) := by
  refine PConR.enter (fn := Try.f44) (by kernel_rfl) (by kernel_rfl) rfl (by show 4 ≤ 201; decide) ?_
  simp only [desc, nds, bys]
  repeat' first | refine Z1 fun _ _ => ?_ | refine Z2 ‹_› ?_ | ((first | refine Z3 tb_ok lv44 rfl ?_ | refine Z4 tb_ok mix lv44 bs44 rfl (by kernel_rfl) rfl ?_ | refine Zr rfl ?_); simp only [↓reduceIte, reduceCtorEq, reduceEqDiff, reduceAdd, reduceMul, reduceSub, reduceLeDiff, reduceEq, reduceLT, reduceLE, go_sem]) | (refine Z5 rfl ?_; with_reducible first | refine ZT ?_ | refine ZF ?_) | refine ZS rfl ?_ | refine Z9 fun _ _ => ?_ | refine ZH ?_ | refine Zo rfl ?_ | refine Zp rfl ?_ | refine Zn rfl ?_ | fail
  refine @idx_map _ _ _ l Nd.cells _ _ i _ _ .i64 (i : Int) _ _ _ Nd.z rfl rfl rfl rfl rfl ?_ ?_ ?_ ?_
  · omega
  · omega
  · rfl
  rw [hr]
  simp only [↓reduceIte, reduceCtorEq, reduceEqDiff, reduceAdd, reduceMul, reduceSub, reduceLeDiff, reduceEq, reduceLT, reduceLE, go_sem]
  repeat' first | refine Z1 fun _ _ => ?_ | refine Z2 ‹_› ?_ | ((first | refine Z3 tb_ok lv44 rfl ?_ | refine Z4 tb_ok mix lv44 bs44 rfl (by kernel_rfl) rfl ?_ | refine Zr rfl ?_); simp only [↓reduceIte, reduceCtorEq, reduceEqDiff, reduceAdd, reduceMul, reduceSub, reduceLeDiff, reduceEq, reduceLT, reduceLE, go_sem]) | (refine Z5 rfl ?_; with_reducible first | refine ZT ?_ | refine ZF ?_) | refine ZS rfl ?_ | refine Z9 fun _ _ => ?_ | refine ZH ?_ | refine Zo rfl ?_ | refine Zp rfl ?_ | refine Zn rfl ?_ | fail
  refine call_row rfl rfl (c_zero (gl := gl) hw) ?_; simp only [↓reduceIte, reduceCtorEq, reduceEqDiff, reduceAdd, reduceMul, reduceSub, reduceLeDiff, reduceEq, reduceLT, reduceLE, go_sem]
  repeat' first | refine Z1 fun _ _ => ?_ | refine Z2 ‹_› ?_ | ((first | refine Z3 tb_ok lv44 rfl ?_ | refine Z4 tb_ok mix lv44 bs44 rfl (by kernel_rfl) rfl ?_ | refine Zr rfl ?_); simp only [↓reduceIte, reduceCtorEq, reduceEqDiff, reduceAdd, reduceMul, reduceSub, reduceLeDiff, reduceEq, reduceLT, reduceLE, go_sem]) | (refine Z5 rfl ?_; with_reducible first | refine ZT ?_ | refine ZF ?_) | refine ZS rfl ?_ | refine Z9 fun _ _ => ?_ | refine ZH ?_ | refine Zo rfl ?_ | refine Zp rfl ?_ | refine Zn rfl ?_ | fail
  have hsz := hs.1
  rw [wrap64 (by omega) (by omega)]
  refine .split rfl (fun g1 => ?_) (fun g1 => ?_) <;> simp only [↓reduceIte, reduceCtorEq, reduceEqDiff, reduceAdd, reduceMul, reduceSub, reduceLeDiff, reduceEq, reduceLT, reduceLE, go_sem, g1]
  · simp only [decide_eq_true_eq] at g1
    have hle : f + s.size ≤ w.length := by omega
    repeat' first | refine Z1 fun _ _ => ?_ | refine Z2 ‹_› ?_ | ((first | refine Z3 tb_ok lv44 rfl ?_ | refine Z4 tb_ok mix lv44 bs44 rfl (by kernel_rfl) rfl ?_ | refine Zr rfl ?_); simp only [↓reduceIte, reduceCtorEq, reduceEqDiff, reduceAdd, reduceMul, reduceSub, reduceLeDiff, reduceEq, reduceLT, reduceLE, go_sem]) | (refine Z5 rfl ?_; with_reducible first | refine ZT ?_ | refine ZF ?_) | refine ZS rfl ?_ | refine Z9 fun _ _ => ?_ | refine ZH ?_ | refine Zo rfl ?_ | refine Zp rfl ?_ | refine Zn rfl ?_ | fail
    rw [wrap64 (by omega) (by omega)]
    refine ⟨fun e he => by obtain ⟨b, _, rfl⟩ := List.mem_map.1 he; rfl, by omega, by omega, by omega, ?_⟩
    rw [show (f : Int) + s.size = ((f + s.size : Nat) : Int) by omega]
    refine touch_go rfl ?_
    refine ⟨Try.underlying5, part' w f (f + s.size), cut_part, ?_⟩
    have hq : decide ({ data := (part' w f (f + s.size)).toArray } = s) = decide (part' w f (f + s.size) = s.data.toList) := by
      rw [Bool.eq_iff_iff, decide_eq_true_eq, decide_eq_true_eq]
      constructor
      · intro e; exact congrArg (fun b => b.data.toList) e
      · intro h; rw [h]
    repeat' first | refine Z1 fun _ _ => ?_ | refine Z2 ‹_› ?_ | ((first | refine Z3 tb_ok lv44 rfl ?_ | refine Z4 tb_ok mix lv44 bs44 rfl (by kernel_rfl) rfl ?_ | refine Zr rfl ?_); simp only [↓reduceIte, reduceCtorEq, reduceEqDiff, reduceAdd, reduceMul, reduceSub, reduceLeDiff, reduceEq, reduceLT, reduceLE, go_sem]) | (refine Z5 rfl ?_; with_reducible first | refine ZT ?_ | refine ZF ?_) | refine ZS rfl ?_ | refine Z9 fun _ _ => ?_ | refine ZH ?_ | refine Zo rfl ?_ | refine Zp rfl ?_ | refine Zn rfl ?_ | fail
    rw [hq]
    refine .cond rfl (fun h => ?_) (fun h => ?_)
    · simp only [decide_eq_true_eq] at h
      repeat' first | refine Z1 fun _ _ => ?_ | refine Z2 ‹_› ?_ | ((first | refine Z3 tb_ok lv44 rfl ?_ | refine Z4 tb_ok mix lv44 bs44 rfl (by kernel_rfl) rfl ?_ | refine Zr rfl ?_); simp only [↓reduceIte, reduceCtorEq, reduceEqDiff, reduceAdd, reduceMul, reduceSub, reduceLeDiff, reduceEq, reduceLT, reduceLE, go_sem]) | (refine Z5 rfl ?_; with_reducible first | refine ZT ?_ | refine ZF ?_) | refine ZS rfl ?_ | refine Z9 fun _ _ => ?_ | refine ZH ?_ | refine Zo rfl ?_ | refine Zp rfl ?_ | refine Zn rfl ?_ | fail
      rw [wrap64 (by omega) (by omega)]
      refine idx_own (j := f + s.size) (n := (f : Int) + s.size) rfl rfl rfl rfl rfl rfl (by omega) (by rw [List.length_map, zeroL_len]; omega) ?_
      simp only [↓reduceIte, reduceCtorEq, reduceEqDiff, reduceAdd, reduceMul, reduceSub, reduceLeDiff, reduceEq, reduceLT, reduceLE, go_sem]
      repeat' first | refine Z1 fun _ _ => ?_ | ((first | refine Z3 tb_ok lv44 rfl ?_ | refine Z4 tb_ok mix lv44 bs44 rfl (by kernel_rfl) rfl ?_ | refine Zr rfl ?_); simp only [↓reduceIte, reduceCtorEq, reduceEqDiff, reduceAdd, reduceMul, reduceSub, reduceLeDiff, reduceEq, reduceLT, reduceLE, go_sem]) | (refine Z5 rfl ?_; with_reducible first | refine ZT ?_ | refine ZF ?_) | refine ZS rfl ?_ | refine Z9 fun _ _ => ?_ | refine ZH ?_ | refine Zo rfl ?_ | refine Zp rfl ?_ | refine Zn rfl ?_ | fail
      refine ⟨_, at_map 0 (by rw [zeroL_len]; omega), ?_⟩
      rw [set_one]
      repeat' first | refine Z1 fun _ _ => ?_ | refine Z2 ‹_› ?_ | ((first | refine Z3 tb_ok lv44 rfl ?_ | refine Z4 tb_ok mix lv44 bs44 rfl (by kernel_rfl) rfl ?_ | refine Zr rfl ?_); simp only [↓reduceIte, reduceCtorEq, reduceEqDiff, reduceAdd, reduceMul, reduceSub, reduceLeDiff, reduceEq, reduceLT, reduceLE, go_sem]) | (refine Z5 rfl ?_; with_reducible first | refine ZT ?_ | refine ZF ?_) | refine ZS rfl ?_ | refine Z9 fun _ _ => ?_ | refine ZH ?_ | refine Zo rfl ?_ | refine Zp rfl ?_ | refine Zn rfl ?_ | fail
      rw [T.ends, if_pos ⟨hle, h⟩]
      exact rfl
    · simp only [decide_eq_false_iff_not] at h
      repeat' first | refine Z1 fun _ _ => ?_ | refine Z2 ‹_› ?_ | ((first | refine Z3 tb_ok lv44 rfl ?_ | refine Z4 tb_ok mix lv44 bs44 rfl (by kernel_rfl) rfl ?_ | refine Zr rfl ?_); simp only [↓reduceIte, reduceCtorEq, reduceEqDiff, reduceAdd, reduceMul, reduceSub, reduceLeDiff, reduceEq, reduceLT, reduceLE, go_sem]) | (refine Z5 rfl ?_; with_reducible first | refine ZT ?_ | refine ZF ?_) | refine ZS rfl ?_ | refine Z9 fun _ _ => ?_ | refine ZH ?_ | refine Zo rfl ?_ | refine Zp rfl ?_ | refine Zn rfl ?_ | fail
      rw [T.ends, if_neg (fun h' => h h'.2)]
      exact rfl
  · simp only [decide_eq_false_iff_not] at g1
    repeat' first | refine Z1 fun _ _ => ?_ | refine Z2 ‹_› ?_ | ((first | refine Z3 tb_ok lv44 rfl ?_ | refine Z4 tb_ok mix lv44 bs44 rfl (by kernel_rfl) rfl ?_ | refine Zr rfl ?_); simp only [↓reduceIte, reduceCtorEq, reduceEqDiff, reduceAdd, reduceMul, reduceSub, reduceLeDiff, reduceEq, reduceLT, reduceLE, go_sem]) | (refine Z5 rfl ?_; with_reducible first | refine ZT ?_ | refine ZF ?_) | refine ZS rfl ?_ | refine Z9 fun _ _ => ?_ | refine ZH ?_ | refine Zo rfl ?_ | refine Zp rfl ?_ | refine Zn rfl ?_ | fail
    rw [T.ends, if_neg (fun h => g1 (by omega))]
    exact rfl
set_option maxHeartbeats 4000000 in
theorem ends_seq {gl} {l : List Nd} {w : List UInt8} {i f : Nat} {ia ib : Nat} {A B : Nat → List Nat} (hl : l.length ≤ 1048576) (hi' : i < l.length) (hr : l.getD i Nd.z = ⟨4, (ia : Int), (ib : Int), 0, 0, 0, 0, 0, 0, .empty⟩) (hf : f ≤ w.length) (hw : w.length ≤ 1000) (hA : EndsC gl l ia w A) (hB : EndsC gl l ib w B) :
    PConR Try.prog gl 44 [desc l, .int .i64 i, bys w, .int .i64 f] 3 1 ((thruL B w.length (A f) (w.length + 1)).map natC) := by
  refine PConR.enter (fn := Try.f44) (by kernel_rfl) (by kernel_rfl) rfl (by show 4 ≤ 201; decide) ?_
  simp only [desc, nds, bys]
  repeat' first | refine Z1 fun _ _ => ?_ | refine Z2 ‹_› ?_ | ((first | refine Z3 tb_ok lv44 rfl ?_ | refine Z4 tb_ok mix lv44 bs44 rfl (by kernel_rfl) rfl ?_ | refine Zr rfl ?_); simp only [↓reduceIte, reduceCtorEq, reduceEqDiff, reduceAdd, reduceMul, reduceSub, reduceLeDiff, reduceEq, reduceLT, reduceLE, go_sem]) | (refine Z5 rfl ?_; with_reducible first | refine ZT ?_ | refine ZF ?_) | refine ZS rfl ?_ | refine Z9 fun _ _ => ?_ | refine ZH ?_ | refine Zo rfl ?_ | refine Zp rfl ?_ | refine Zn rfl ?_ | fail
  refine @idx_map _ _ _ l Nd.cells _ _ i _ _ .i64 (i : Int) _ _ _ Nd.z rfl rfl rfl rfl rfl ?_ ?_ ?_ ?_
  · omega
  · omega
  · rfl
  rw [hr]
  simp only [↓reduceIte, reduceCtorEq, reduceEqDiff, reduceAdd, reduceMul, reduceSub, reduceLeDiff, reduceEq, reduceLT, reduceLE, go_sem]
  repeat' first | refine Z1 fun _ _ => ?_ | refine Z2 ‹_› ?_ | ((first | refine Z3 tb_ok lv44 rfl ?_ | refine Z4 tb_ok mix lv44 bs44 rfl (by kernel_rfl) rfl ?_ | refine Zr rfl ?_); simp only [↓reduceIte, reduceCtorEq, reduceEqDiff, reduceAdd, reduceMul, reduceSub, reduceLeDiff, reduceEq, reduceLT, reduceLE, go_sem]) | (refine Z5 rfl ?_; with_reducible first | refine ZT ?_ | refine ZF ?_) | refine ZS rfl ?_ | refine Z9 fun _ _ => ?_ | refine ZH ?_ | refine Zo rfl ?_ | refine Zp rfl ?_ | refine Zn rfl ?_ | fail
  refine call_row rfl rfl (c_zero (gl := gl) hw) ?_; simp only [↓reduceIte, reduceCtorEq, reduceEqDiff, reduceAdd, reduceMul, reduceSub, reduceLeDiff, reduceEq, reduceLT, reduceLE, go_sem]
  repeat' first | refine Z1 fun _ _ => ?_ | refine Z2 ‹_› ?_ | ((first | refine Z3 tb_ok lv44 rfl ?_ | refine Z4 tb_ok mix lv44 bs44 rfl (by kernel_rfl) rfl ?_ | refine Zr rfl ?_); simp only [↓reduceIte, reduceCtorEq, reduceEqDiff, reduceAdd, reduceMul, reduceSub, reduceLeDiff, reduceEq, reduceLT, reduceLE, go_sem]) | (refine Z5 rfl ?_; with_reducible first | refine ZT ?_ | refine ZF ?_) | refine ZS rfl ?_ | refine Z9 fun _ _ => ?_ | refine ZH ?_ | refine Zo rfl ?_ | refine Zp rfl ?_ | refine Zn rfl ?_ | fail
  obtain ⟨a1, a2, a3⟩ := hA f hf
  have b1 := c_through hw hB a2 a3
  replace a1 := a1.toP
  simp only [desc, nds, bys, natsD] at a1 b1
  refine call_pure rfl rfl (a1) ?_; simp only [↓reduceIte, reduceCtorEq, reduceEqDiff, reduceAdd, reduceMul, reduceSub, reduceLeDiff, reduceEq, reduceLT, reduceLE, go_sem]
  repeat' first | refine Z1 fun _ _ => ?_ | refine Z2 ‹_› ?_ | ((first | refine Z3 tb_ok lv44 rfl ?_ | refine Z4 tb_ok mix lv44 bs44 rfl (by kernel_rfl) rfl ?_ | refine Zr rfl ?_); simp only [↓reduceIte, reduceCtorEq, reduceEqDiff, reduceAdd, reduceMul, reduceSub, reduceLeDiff, reduceEq, reduceLT, reduceLE, go_sem]) | (refine Z5 rfl ?_; with_reducible first | refine ZT ?_ | refine ZF ?_) | refine ZS rfl ?_ | refine Z9 fun _ _ => ?_ | refine ZH ?_ | refine Zo rfl ?_ | refine Zp rfl ?_ | refine Zn rfl ?_ | fail
  refine call_row rfl rfl (b1) ?_; simp only [↓reduceIte, reduceCtorEq, reduceEqDiff, reduceAdd, reduceMul, reduceSub, reduceLeDiff, reduceEq, reduceLT, reduceLE, go_sem]
  repeat' first | refine Z1 fun _ _ => ?_ | refine Z2 ‹_› ?_ | ((first | refine Z3 tb_ok lv44 rfl ?_ | refine Z4 tb_ok mix lv44 bs44 rfl (by kernel_rfl) rfl ?_ | refine Zr rfl ?_); simp only [↓reduceIte, reduceCtorEq, reduceEqDiff, reduceAdd, reduceMul, reduceSub, reduceLeDiff, reduceEq, reduceLT, reduceLE, go_sem]) | (refine Z5 rfl ?_; with_reducible first | refine ZT ?_ | refine ZF ?_) | refine ZS rfl ?_ | refine Z9 fun _ _ => ?_ | refine ZH ?_ | refine Zo rfl ?_ | refine Zp rfl ?_ | refine Zn rfl ?_ | fail
  exact rfl
set_option maxHeartbeats 4000000 in
theorem ends_or {gl} {l : List Nd} {w : List UInt8} {i f : Nat} {ia ib : Nat} {A B : Nat → List Nat} (hl : l.length ≤ 1048576) (hi' : i < l.length) (hr : l.getD i Nd.z = ⟨5, (ia : Int), (ib : Int), 0, 0, 0, 0, 0, 0, .empty⟩) (hf : f ≤ w.length) (hw : w.length ≤ 1000) (hA : EndsC gl l ia w A) (hB : EndsC gl l ib w B) :
    PConR Try.prog gl 44 [desc l, .int .i64 i, bys w, .int .i64 f] 3 1 ((plusL (A f) (B f) 1).map natC) := by
  refine PConR.enter (fn := Try.f44) (by kernel_rfl) (by kernel_rfl) rfl (by show 4 ≤ 201; decide) ?_
  simp only [desc, nds, bys]
  repeat' first | refine Z1 fun _ _ => ?_ | refine Z2 ‹_› ?_ | ((first | refine Z3 tb_ok lv44 rfl ?_ | refine Z4 tb_ok mix lv44 bs44 rfl (by kernel_rfl) rfl ?_ | refine Zr rfl ?_); simp only [↓reduceIte, reduceCtorEq, reduceEqDiff, reduceAdd, reduceMul, reduceSub, reduceLeDiff, reduceEq, reduceLT, reduceLE, go_sem]) | (refine Z5 rfl ?_; with_reducible first | refine ZT ?_ | refine ZF ?_) | refine ZS rfl ?_ | refine Z9 fun _ _ => ?_ | refine ZH ?_ | refine Zo rfl ?_ | refine Zp rfl ?_ | refine Zn rfl ?_ | fail
  refine @idx_map _ _ _ l Nd.cells _ _ i _ _ .i64 (i : Int) _ _ _ Nd.z rfl rfl rfl rfl rfl ?_ ?_ ?_ ?_
  · omega
  · omega
  · rfl
  rw [hr]
  simp only [↓reduceIte, reduceCtorEq, reduceEqDiff, reduceAdd, reduceMul, reduceSub, reduceLeDiff, reduceEq, reduceLT, reduceLE, go_sem]
  repeat' first | refine Z1 fun _ _ => ?_ | refine Z2 ‹_› ?_ | ((first | refine Z3 tb_ok lv44 rfl ?_ | refine Z4 tb_ok mix lv44 bs44 rfl (by kernel_rfl) rfl ?_ | refine Zr rfl ?_); simp only [↓reduceIte, reduceCtorEq, reduceEqDiff, reduceAdd, reduceMul, reduceSub, reduceLeDiff, reduceEq, reduceLT, reduceLE, go_sem]) | (refine Z5 rfl ?_; with_reducible first | refine ZT ?_ | refine ZF ?_) | refine ZS rfl ?_ | refine Z9 fun _ _ => ?_ | refine ZH ?_ | refine Zo rfl ?_ | refine Zp rfl ?_ | refine Zn rfl ?_ | fail
  refine call_row rfl rfl (c_zero (gl := gl) hw) ?_; simp only [↓reduceIte, reduceCtorEq, reduceEqDiff, reduceAdd, reduceMul, reduceSub, reduceLeDiff, reduceEq, reduceLT, reduceLE, go_sem]
  repeat' first | refine Z1 fun _ _ => ?_ | refine Z2 ‹_› ?_ | ((first | refine Z3 tb_ok lv44 rfl ?_ | refine Z4 tb_ok mix lv44 bs44 rfl (by kernel_rfl) rfl ?_ | refine Zr rfl ?_); simp only [↓reduceIte, reduceCtorEq, reduceEqDiff, reduceAdd, reduceMul, reduceSub, reduceLeDiff, reduceEq, reduceLT, reduceLE, go_sem]) | (refine Z5 rfl ?_; with_reducible first | refine ZT ?_ | refine ZF ?_) | refine ZS rfl ?_ | refine Z9 fun _ _ => ?_ | refine ZH ?_ | refine Zo rfl ?_ | refine Zp rfl ?_ | refine Zn rfl ?_ | fail
  obtain ⟨a1, a2, a3⟩ := hA f hf
  obtain ⟨b1, b2, b3⟩ := hB f hf
  replace a1 := a1.toP
  replace b1 := b1.toP
  have p1 := c_plus (gl := gl) (a := A f) (b := B f) (t := 1) (by omega) (by omega) a3 b3 (by omega)
  simp only [desc, nds, bys] at a1 b1
  refine call_pure rfl rfl (a1) ?_; simp only [↓reduceIte, reduceCtorEq, reduceEqDiff, reduceAdd, reduceMul, reduceSub, reduceLeDiff, reduceEq, reduceLT, reduceLE, go_sem]
  repeat' first | refine Z1 fun _ _ => ?_ | refine Z2 ‹_› ?_ | ((first | refine Z3 tb_ok lv44 rfl ?_ | refine Z4 tb_ok mix lv44 bs44 rfl (by kernel_rfl) rfl ?_ | refine Zr rfl ?_); simp only [↓reduceIte, reduceCtorEq, reduceEqDiff, reduceAdd, reduceMul, reduceSub, reduceLeDiff, reduceEq, reduceLT, reduceLE, go_sem]) | (refine Z5 rfl ?_; with_reducible first | refine ZT ?_ | refine ZF ?_) | refine ZS rfl ?_ | refine Z9 fun _ _ => ?_ | refine ZH ?_ | refine Zo rfl ?_ | refine Zp rfl ?_ | refine Zn rfl ?_ | fail
  refine call_pure rfl rfl (b1) ?_; simp only [↓reduceIte, reduceCtorEq, reduceEqDiff, reduceAdd, reduceMul, reduceSub, reduceLeDiff, reduceEq, reduceLT, reduceLE, go_sem]
  repeat' first | refine Z1 fun _ _ => ?_ | refine Z2 ‹_› ?_ | ((first | refine Z3 tb_ok lv44 rfl ?_ | refine Z4 tb_ok mix lv44 bs44 rfl (by kernel_rfl) rfl ?_ | refine Zr rfl ?_); simp only [↓reduceIte, reduceCtorEq, reduceEqDiff, reduceAdd, reduceMul, reduceSub, reduceLeDiff, reduceEq, reduceLT, reduceLE, go_sem]) | (refine Z5 rfl ?_; with_reducible first | refine ZT ?_ | refine ZF ?_) | refine ZS rfl ?_ | refine Z9 fun _ _ => ?_ | refine ZH ?_ | refine Zo rfl ?_ | refine Zp rfl ?_ | refine Zn rfl ?_ | fail
  refine call_row rfl rfl (p1) ?_; simp only [↓reduceIte, reduceCtorEq, reduceEqDiff, reduceAdd, reduceMul, reduceSub, reduceLeDiff, reduceEq, reduceLT, reduceLE, go_sem]
  repeat' first | refine Z1 fun _ _ => ?_ | refine Z2 ‹_› ?_ | ((first | refine Z3 tb_ok lv44 rfl ?_ | refine Z4 tb_ok mix lv44 bs44 rfl (by kernel_rfl) rfl ?_ | refine Zr rfl ?_); simp only [↓reduceIte, reduceCtorEq, reduceEqDiff, reduceAdd, reduceMul, reduceSub, reduceLeDiff, reduceEq, reduceLT, reduceLE, go_sem]) | (refine Z5 rfl ?_; with_reducible first | refine ZT ?_ | refine ZF ?_) | refine ZS rfl ?_ | refine Z9 fun _ _ => ?_ | refine ZH ?_ | refine Zo rfl ?_ | refine Zp rfl ?_ | refine Zn rfl ?_ | fail
  exact rfl
set_option maxHeartbeats 4000000 in
theorem ends_star {gl} {l : List Nd} {w : List UInt8} {i f : Nat} {ia : Nat} {lo hi : Int} {A : Nat → List Nat} (hl : l.length ≤ 1048576) (hi' : i < l.length) (hr : l.getD i Nd.z = ⟨6, (ia : Int), 0, lo, hi, 0, 0, 0, 0, .empty⟩) (hf : f ≤ w.length) (hw : w.length ≤ 1000) (hA : EndsC gl l ia w A) :
    PConR Try.prog gl 44 [desc l, .int .i64 i, bys w, .int .i64 f] 3 1 ((timesL A w.length f 0 (-1)).map natC) := by
  refine PConR.enter (fn := Try.f44) (by kernel_rfl) (by kernel_rfl) rfl (by show 4 ≤ 201; decide) ?_
  simp only [desc, nds, bys]
  repeat' first | refine Z1 fun _ _ => ?_ | refine Z2 ‹_› ?_ | ((first | refine Z3 tb_ok lv44 rfl ?_ | refine Z4 tb_ok mix lv44 bs44 rfl (by kernel_rfl) rfl ?_ | refine Zr rfl ?_); simp only [↓reduceIte, reduceCtorEq, reduceEqDiff, reduceAdd, reduceMul, reduceSub, reduceLeDiff, reduceEq, reduceLT, reduceLE, go_sem]) | (refine Z5 rfl ?_; with_reducible first | refine ZT ?_ | refine ZF ?_) | refine ZS rfl ?_ | refine Z9 fun _ _ => ?_ | refine ZH ?_ | refine Zo rfl ?_ | refine Zp rfl ?_ | refine Zn rfl ?_ | fail
  refine @idx_map _ _ _ l Nd.cells _ _ i _ _ .i64 (i : Int) _ _ _ Nd.z rfl rfl rfl rfl rfl ?_ ?_ ?_ ?_
  · omega
  · omega
  · rfl
  rw [hr]
  simp only [↓reduceIte, reduceCtorEq, reduceEqDiff, reduceAdd, reduceMul, reduceSub, reduceLeDiff, reduceEq, reduceLT, reduceLE, go_sem]
  repeat' first | refine Z1 fun _ _ => ?_ | refine Z2 ‹_› ?_ | ((first | refine Z3 tb_ok lv44 rfl ?_ | refine Z4 tb_ok mix lv44 bs44 rfl (by kernel_rfl) rfl ?_ | refine Zr rfl ?_); simp only [↓reduceIte, reduceCtorEq, reduceEqDiff, reduceAdd, reduceMul, reduceSub, reduceLeDiff, reduceEq, reduceLT, reduceLE, go_sem]) | (refine Z5 rfl ?_; with_reducible first | refine ZT ?_ | refine ZF ?_) | refine ZS rfl ?_ | refine Z9 fun _ _ => ?_ | refine ZH ?_ | refine Zo rfl ?_ | refine Zp rfl ?_ | refine Zn rfl ?_ | fail
  refine call_row rfl rfl (c_zero (gl := gl) hw) ?_; simp only [↓reduceIte, reduceCtorEq, reduceEqDiff, reduceAdd, reduceMul, reduceSub, reduceLeDiff, reduceEq, reduceLT, reduceLE, go_sem]
  repeat' first | refine Z1 fun _ _ => ?_ | refine Z2 ‹_› ?_ | ((first | refine Z3 tb_ok lv44 rfl ?_ | refine Z4 tb_ok mix lv44 bs44 rfl (by kernel_rfl) rfl ?_ | refine Zr rfl ?_); simp only [↓reduceIte, reduceCtorEq, reduceEqDiff, reduceAdd, reduceMul, reduceSub, reduceLeDiff, reduceEq, reduceLT, reduceLE, go_sem]) | (refine Z5 rfl ?_; with_reducible first | refine ZT ?_ | refine ZF ?_) | refine ZS rfl ?_ | refine Z9 fun _ _ => ?_ | refine ZH ?_ | refine Zo rfl ?_ | refine Zp rfl ?_ | refine Zn rfl ?_ | fail
  have t1 := c_times (lo := 0) (hi := -1) hw hf (by omega) (by omega) hA
  simp only [desc, nds, bys] at t1
  refine call_row rfl rfl (t1) ?_; simp only [↓reduceIte, reduceCtorEq, reduceEqDiff, reduceAdd, reduceMul, reduceSub, reduceLeDiff, reduceEq, reduceLT, reduceLE, go_sem]
  repeat' first | refine Z1 fun _ _ => ?_ | refine Z2 ‹_› ?_ | ((first | refine Z3 tb_ok lv44 rfl ?_ | refine Z4 tb_ok mix lv44 bs44 rfl (by kernel_rfl) rfl ?_ | refine Zr rfl ?_); simp only [↓reduceIte, reduceCtorEq, reduceEqDiff, reduceAdd, reduceMul, reduceSub, reduceLeDiff, reduceEq, reduceLT, reduceLE, go_sem]) | (refine Z5 rfl ?_; with_reducible first | refine ZT ?_ | refine ZF ?_) | refine ZS rfl ?_ | refine Z9 fun _ _ => ?_ | refine ZH ?_ | refine Zo rfl ?_ | refine Zp rfl ?_ | refine Zn rfl ?_ | fail
  exact rfl
set_option maxHeartbeats 4000000 in
theorem ends_rep {gl} {l : List Nd} {w : List UInt8} {i f : Nat} {ia : Nat} {lo hi : Int} {A : Nat → List Nat} (hl : l.length ≤ 1048576) (hi' : i < l.length) (hr : l.getD i Nd.z = ⟨7, (ia : Int), 0, lo, hi, 0, 0, 0, 0, .empty⟩) (hf : f ≤ w.length) (hw : w.length ≤ 1000) (hA : EndsC gl l ia w A) (hlo : 0 ≤ lo ∧ lo ≤ 255) (hhi : -1 ≤ hi ∧ hi ≤ 255) :
    PConR Try.prog gl 44 [desc l, .int .i64 i, bys w, .int .i64 f] 3 1 ((timesL A w.length f lo hi).map natC) := by
  refine PConR.enter (fn := Try.f44) (by kernel_rfl) (by kernel_rfl) rfl (by show 4 ≤ 201; decide) ?_
  simp only [desc, nds, bys]
  repeat' first | refine Z1 fun _ _ => ?_ | refine Z2 ‹_› ?_ | ((first | refine Z3 tb_ok lv44 rfl ?_ | refine Z4 tb_ok mix lv44 bs44 rfl (by kernel_rfl) rfl ?_ | refine Zr rfl ?_); simp only [↓reduceIte, reduceCtorEq, reduceEqDiff, reduceAdd, reduceMul, reduceSub, reduceLeDiff, reduceEq, reduceLT, reduceLE, go_sem]) | (refine Z5 rfl ?_; with_reducible first | refine ZT ?_ | refine ZF ?_) | refine ZS rfl ?_ | refine Z9 fun _ _ => ?_ | refine ZH ?_ | refine Zo rfl ?_ | refine Zp rfl ?_ | refine Zn rfl ?_ | fail
  refine @idx_map _ _ _ l Nd.cells _ _ i _ _ .i64 (i : Int) _ _ _ Nd.z rfl rfl rfl rfl rfl ?_ ?_ ?_ ?_
  · omega
  · omega
  · rfl
  rw [hr]
  simp only [↓reduceIte, reduceCtorEq, reduceEqDiff, reduceAdd, reduceMul, reduceSub, reduceLeDiff, reduceEq, reduceLT, reduceLE, go_sem]
  repeat' first | refine Z1 fun _ _ => ?_ | refine Z2 ‹_› ?_ | ((first | refine Z3 tb_ok lv44 rfl ?_ | refine Z4 tb_ok mix lv44 bs44 rfl (by kernel_rfl) rfl ?_ | refine Zr rfl ?_); simp only [↓reduceIte, reduceCtorEq, reduceEqDiff, reduceAdd, reduceMul, reduceSub, reduceLeDiff, reduceEq, reduceLT, reduceLE, go_sem]) | (refine Z5 rfl ?_; with_reducible first | refine ZT ?_ | refine ZF ?_) | refine ZS rfl ?_ | refine Z9 fun _ _ => ?_ | refine ZH ?_ | refine Zo rfl ?_ | refine Zp rfl ?_ | refine Zn rfl ?_ | fail
  refine call_row rfl rfl (c_zero (gl := gl) hw) ?_; simp only [↓reduceIte, reduceCtorEq, reduceEqDiff, reduceAdd, reduceMul, reduceSub, reduceLeDiff, reduceEq, reduceLT, reduceLE, go_sem]
  repeat' first | refine Z1 fun _ _ => ?_ | refine Z2 ‹_› ?_ | ((first | refine Z3 tb_ok lv44 rfl ?_ | refine Z4 tb_ok mix lv44 bs44 rfl (by kernel_rfl) rfl ?_ | refine Zr rfl ?_); simp only [↓reduceIte, reduceCtorEq, reduceEqDiff, reduceAdd, reduceMul, reduceSub, reduceLeDiff, reduceEq, reduceLT, reduceLE, go_sem]) | (refine Z5 rfl ?_; with_reducible first | refine ZT ?_ | refine ZF ?_) | refine ZS rfl ?_ | refine Z9 fun _ _ => ?_ | refine ZH ?_ | refine Zo rfl ?_ | refine Zp rfl ?_ | refine Zn rfl ?_ | fail
  have t1 := c_times hw hf hlo hhi hA
  simp only [desc, nds, bys] at t1
  refine call_row rfl rfl (t1) ?_; simp only [↓reduceIte, reduceCtorEq, reduceEqDiff, reduceAdd, reduceMul, reduceSub, reduceLeDiff, reduceEq, reduceLT, reduceLE, go_sem]
  repeat' first | refine Z1 fun _ _ => ?_ | refine Z2 ‹_› ?_ | ((first | refine Z3 tb_ok lv44 rfl ?_ | refine Z4 tb_ok mix lv44 bs44 rfl (by kernel_rfl) rfl ?_ | refine Zr rfl ?_); simp only [↓reduceIte, reduceCtorEq, reduceEqDiff, reduceAdd, reduceMul, reduceSub, reduceLeDiff, reduceEq, reduceLT, reduceLE, go_sem]) | (refine Z5 rfl ?_; with_reducible first | refine ZT ?_ | refine ZF ?_) | refine ZS rfl ?_ | refine Z9 fun _ _ => ?_ | refine ZH ?_ | refine Zo rfl ?_ | refine Zp rfl ?_ | refine Zn rfl ?_ | fail
  exact rfl
set_option maxHeartbeats 4000000 in
theorem ends_frame {gl} {l : List Nd} {w : List UInt8} {i f : Nat} {ia : Nat} {lo hi : Int} {a : T} (hl : l.length ≤ 1048576) (hi' : i < l.length) (hr : l.getD i Nd.z = ⟨8, (ia : Int), 0, lo, hi, 0, 0, 0, 0, .empty⟩) (hf : f ≤ w.length) (hw : w.length ≤ 1000) (hA : ∀ v : List UInt8, v.length ≤ w.length → EndsC gl l ia v (a.ends v)) :
    PConR Try.prog gl 44 [desc l, .int .i64 i, bys w, .int .i64 f] 3 1 ((T.ends (.one 8 lo hi a) w f).map natC) := by
  refine PConR.enter (fn := Try.f44) (by kernel_rfl) (by kernel_rfl) rfl (by show 4 ≤ 201; decide) ?_
  simp only [desc, nds, bys]
  repeat' first | refine Z1 fun _ _ => ?_ | refine Z2 ‹_› ?_ | ((first | refine Z3 tb_ok lv44 rfl ?_ | refine Z4 tb_ok mix lv44 bs44 rfl (by kernel_rfl) rfl ?_ | refine Zr rfl ?_); simp only [↓reduceIte, reduceCtorEq, reduceEqDiff, reduceAdd, reduceMul, reduceSub, reduceLeDiff, reduceEq, reduceLT, reduceLE, go_sem]) | (refine Z5 rfl ?_; with_reducible first | refine ZT ?_ | refine ZF ?_) | refine ZS rfl ?_ | refine Z9 fun _ _ => ?_ | refine ZH ?_ | refine Zo rfl ?_ | refine Zp rfl ?_ | refine Zn rfl ?_ | fail
  refine @idx_map _ _ _ l Nd.cells _ _ i _ _ .i64 (i : Int) _ _ _ Nd.z rfl rfl rfl rfl rfl ?_ ?_ ?_ ?_
  · omega
  · omega
  · rfl
  rw [hr]
  simp only [↓reduceIte, reduceCtorEq, reduceEqDiff, reduceAdd, reduceMul, reduceSub, reduceLeDiff, reduceEq, reduceLT, reduceLE, go_sem]
  repeat' first | refine Z1 fun _ _ => ?_ | refine Z2 ‹_› ?_ | ((first | refine Z3 tb_ok lv44 rfl ?_ | refine Z4 tb_ok mix lv44 bs44 rfl (by kernel_rfl) rfl ?_ | refine Zr rfl ?_); simp only [↓reduceIte, reduceCtorEq, reduceEqDiff, reduceAdd, reduceMul, reduceSub, reduceLeDiff, reduceEq, reduceLT, reduceLE, go_sem]) | (refine Z5 rfl ?_; with_reducible first | refine ZT ?_ | refine ZF ?_) | refine ZS rfl ?_ | refine Z9 fun _ _ => ?_ | refine ZH ?_ | refine Zo rfl ?_ | refine Zp rfl ?_ | refine Zn rfl ?_ | fail
  refine call_row rfl rfl (c_zero (gl := gl) hw) ?_; simp only [↓reduceIte, reduceCtorEq, reduceEqDiff, reduceAdd, reduceMul, reduceSub, reduceLeDiff, reduceEq, reduceLT, reduceLE, go_sem]
  repeat' first | refine Z1 fun _ _ => ?_ | refine Z2 ‹_› ?_ | ((first | refine Z3 tb_ok lv44 rfl ?_ | refine Z4 tb_ok mix lv44 bs44 rfl (by kernel_rfl) rfl ?_ | refine Zr rfl ?_); simp only [↓reduceIte, reduceCtorEq, reduceEqDiff, reduceAdd, reduceMul, reduceSub, reduceLeDiff, reduceEq, reduceLT, reduceLE, go_sem]) | (refine Z5 rfl ?_; with_reducible first | refine ZT ?_ | refine ZF ?_) | refine ZS rfl ?_ | refine Z9 fun _ _ => ?_ | refine ZH ?_ | refine Zo rfl ?_ | refine Zp rfl ?_ | refine Zn rfl ?_ | fail
  refine .cond rfl (fun h => ?_) (fun h => ?_)
  · simp only [decide_eq_true_eq] at h
    have hlt : f < w.length := by omega
    repeat' first | refine Z1 fun _ _ => ?_ | refine Z2 ‹_› ?_ | ((first | refine Z3 tb_ok lv44 rfl ?_ | refine Z4 tb_ok mix lv44 bs44 rfl (by kernel_rfl) rfl ?_ | refine Zr rfl ?_); simp only [↓reduceIte, reduceCtorEq, reduceEqDiff, reduceAdd, reduceMul, reduceSub, reduceLeDiff, reduceEq, reduceLT, reduceLE, go_sem]) | (refine Z5 rfl ?_; with_reducible first | refine ZT ?_ | refine ZF ?_) | refine ZS rfl ?_ | refine Z9 fun _ _ => ?_ | refine ZH ?_ | refine Zo rfl ?_ | refine Zp rfl ?_ | refine Zn rfl ?_ | fail
    refine @idx_map _ _ _ w encB _ _ f _ _ .i64 (f : Int) _ _ _ (0 : UInt8) rfl rfl rfl rfl rfl ?_ ?_ ?_ ?_
    · omega
    · omega
    · rfl
    simp only [↓reduceIte, reduceCtorEq, reduceEqDiff, reduceAdd, reduceMul, reduceSub, reduceLeDiff, reduceEq, reduceLT, reduceLE, go_sem, encB]
    repeat' first | refine Z1 fun _ _ => ?_ | refine Z2 ‹_› ?_ | ((first | refine Z3 tb_ok lv44 rfl ?_ | refine Z4 tb_ok mix lv44 bs44 rfl (by kernel_rfl) rfl ?_ | refine Zr rfl ?_); simp only [↓reduceIte, reduceCtorEq, reduceEqDiff, reduceAdd, reduceMul, reduceSub, reduceLeDiff, reduceEq, reduceLT, reduceLE, go_sem]) | (refine Z5 rfl ?_; with_reducible first | refine ZT ?_ | refine ZF ?_) | refine ZS rfl ?_ | refine Z9 fun _ _ => ?_ | refine ZH ?_ | refine Zo rfl ?_ | refine Zp rfl ?_ | refine Zn rfl ?_ | fail
    have hb := (w.getD f 0).toNat_lt
    rw [wrap64 (z := (f : Int) + 1) (by omega) (by omega), wrap64 (z := ((w.getD f 0).toNat : Int)) (by omega) (by omega), wrap64 (by omega) (by omega)]
    refine .cond rfl (fun h2 => ?_) (fun h2 => ?_)
    · simp only [decide_eq_true_eq] at h2
      obtain ⟨to, hto⟩ : ∃ to, to = f + 1 + (w.getD f 0).toNat := ⟨_, rfl⟩
      rw [show (f : Int) + 1 + ((w.getD f 0).toNat : Int) = (to : Int) by omega]
      have lto : (w.take to).length = to := by rw [List.length_take]; omega
      obtain ⟨a1, a2, a3⟩ := hA (w.take to) (by omega) (f + 1) (by omega)
      replace a1 := a1.toP
      simp only [desc, nds, bys, Int.natCast_add, List.map_take] at a1
      repeat' first | refine Z1 fun _ _ => ?_ | refine Z2 ‹_› ?_ | ((first | refine Z3 tb_ok lv44 rfl ?_ | refine Z4 tb_ok mix lv44 bs44 rfl (by kernel_rfl) rfl ?_ | refine Zr rfl ?_); simp only [↓reduceIte, reduceCtorEq, reduceEqDiff, reduceAdd, reduceMul, reduceSub, reduceLeDiff, reduceEq, reduceLT, reduceLE, go_sem]) | (refine Z5 rfl ?_; with_reducible first | refine ZT ?_ | refine ZF ?_) | refine ZS rfl ?_ | refine Z9 fun _ _ => ?_ | refine ZH ?_ | refine Zo rfl ?_ | refine Zp rfl ?_ | refine Zn rfl ?_ | fail
      refine ⟨fun e he => by obtain ⟨b, _, rfl⟩ := List.mem_map.1 he; rfl, by omega, by omega, ?_⟩
      repeat' first | refine Z1 fun _ _ => ?_ | refine Z2 ‹_› ?_ | ((first | refine Z3 tb_ok lv44 rfl ?_ | refine Z4 tb_ok mix lv44 bs44 rfl (by kernel_rfl) rfl ?_ | refine Zr rfl ?_); simp only [↓reduceIte, reduceCtorEq, reduceEqDiff, reduceAdd, reduceMul, reduceSub, reduceLeDiff, reduceEq, reduceLT, reduceLE, go_sem]) | (refine Z5 rfl ?_; with_reducible first | refine ZT ?_ | refine ZF ?_) | refine ZS rfl ?_ | refine Z9 fun _ _ => ?_ | refine ZH ?_ | refine Zo rfl ?_ | refine Zp rfl ?_ | refine Zn rfl ?_ | fail
      rw [wrap64 (by omega) (by omega)]
      refine call_pure rfl rfl (a1) ?_; simp only [↓reduceIte, reduceCtorEq, reduceEqDiff, reduceAdd, reduceMul, reduceSub, reduceLeDiff, reduceEq, reduceLT, reduceLE, go_sem]
      repeat' first | refine Z1 fun _ _ => ?_ | refine Z2 ‹_› ?_ | ((first | refine Z3 tb_ok lv44 rfl ?_ | refine Z4 tb_ok mix lv44 bs44 rfl (by kernel_rfl) rfl ?_ | refine Zr rfl ?_); simp only [↓reduceIte, reduceCtorEq, reduceEqDiff, reduceAdd, reduceMul, reduceSub, reduceLeDiff, reduceEq, reduceLT, reduceLE, go_sem]) | (refine Z5 rfl ?_; with_reducible first | refine ZT ?_ | refine ZF ?_) | refine ZS rfl ?_ | refine Z9 fun _ _ => ?_ | refine ZH ?_ | refine Zo rfl ?_ | refine Zp rfl ?_ | refine Zn rfl ?_ | fail
      refine @idx_map _ _ _ (a.ends (List.take to w) (f + 1)) natC _ _ to _ _ .i64 (to : Int) _ _ _ (0 : Nat) rfl rfl rfl rfl rfl ?_ ?_ ?_ ?_
      · omega
      · omega
      · rfl
      refine ⟨trivial, ?_⟩
      simp only [↓reduceIte, reduceCtorEq, reduceEqDiff, reduceAdd, reduceMul, reduceSub, reduceLeDiff, reduceEq, reduceLT, reduceLE, go_sem]
      repeat' first | refine Z1 fun _ _ => ?_ | refine Z2 ‹_› ?_ | ((first | refine Z3 tb_ok lv44 rfl ?_ | refine Z4 tb_ok mix lv44 bs44 rfl (by kernel_rfl) rfl ?_ | refine Zr rfl ?_); simp only [↓reduceIte, reduceCtorEq, reduceEqDiff, reduceAdd, reduceMul, reduceSub, reduceLeDiff, reduceEq, reduceLT, reduceLE, go_sem]) | (refine Z5 rfl ?_; with_reducible first | refine ZT ?_ | refine ZF ?_) | refine ZS rfl ?_ | refine Z9 fun _ _ => ?_ | refine ZH ?_ | refine Zo rfl ?_ | refine Zp rfl ?_ | refine Zn rfl ?_ | fail
      refine idx_own (j := to) (n := to) rfl rfl rfl rfl rfl rfl (by omega) (by rw [List.length_map, zeroL_len]; omega) ?_
      refine ⟨trivial, ?_⟩
      simp only [↓reduceIte, reduceCtorEq, reduceEqDiff, reduceAdd, reduceMul, reduceSub, reduceLeDiff, reduceEq, reduceLT, reduceLE, go_sem]
      repeat' first | refine Z1 fun _ _ => ?_ | refine Z2 ‹_› ?_ | ((first | refine Z3 tb_ok lv44 rfl ?_ | refine Z4 tb_ok mix lv44 bs44 rfl (by kernel_rfl) rfl ?_ | refine Zr rfl ?_); simp only [↓reduceIte, reduceCtorEq, reduceEqDiff, reduceAdd, reduceMul, reduceSub, reduceLeDiff, reduceEq, reduceLT, reduceLE, go_sem]) | (refine Z5 rfl ?_; with_reducible first | refine ZT ?_ | refine ZF ?_) | refine ZS rfl ?_ | refine Z9 fun _ _ => ?_ | refine ZH ?_ | refine Zo rfl ?_ | refine Zp rfl ?_ | refine Zn rfl ?_ | fail
      refine ⟨_, at_map 0 (by rw [zeroL_len]; omega), ?_⟩
      rw [set_nat]
      repeat' first | refine Z1 fun _ _ => ?_ | refine Z2 ‹_› ?_ | ((first | refine Z3 tb_ok lv44 rfl ?_ | refine Z4 tb_ok mix lv44 bs44 rfl (by kernel_rfl) rfl ?_ | refine Zr rfl ?_); simp only [↓reduceIte, reduceCtorEq, reduceEqDiff, reduceAdd, reduceMul, reduceSub, reduceLeDiff, reduceEq, reduceLT, reduceLE, go_sem]) | (refine Z5 rfl ?_; with_reducible first | refine ZT ?_ | refine ZF ?_) | refine ZS rfl ?_ | refine Z9 fun _ _ => ?_ | refine ZH ?_ | refine Zo rfl ?_ | refine Zp rfl ?_ | refine Zn rfl ?_ | fail
      rw [T.ends, if_neg (by decide), if_neg (by decide), if_pos rfl, if_pos ⟨hlt, by omega⟩, ← hto]
      exact rfl
    · simp only [decide_eq_false_iff_not] at h2
      repeat' first | refine Z1 fun _ _ => ?_ | refine Z2 ‹_› ?_ | ((first | refine Z3 tb_ok lv44 rfl ?_ | refine Z4 tb_ok mix lv44 bs44 rfl (by kernel_rfl) rfl ?_ | refine Zr rfl ?_); simp only [↓reduceIte, reduceCtorEq, reduceEqDiff, reduceAdd, reduceMul, reduceSub, reduceLeDiff, reduceEq, reduceLT, reduceLE, go_sem]) | (refine Z5 rfl ?_; with_reducible first | refine ZT ?_ | refine ZF ?_) | refine ZS rfl ?_ | refine Z9 fun _ _ => ?_ | refine ZH ?_ | refine Zo rfl ?_ | refine Zp rfl ?_ | refine Zn rfl ?_ | fail
      rw [T.ends, if_neg (by decide), if_neg (by decide), if_pos rfl, if_neg (fun h' => h2 (by omega))]
      exact rfl
  · simp only [decide_eq_false_iff_not] at h
    repeat' first | refine Z1 fun _ _ => ?_ | refine Z2 ‹_› ?_ | ((first | refine Z3 tb_ok lv44 rfl ?_ | refine Z4 tb_ok mix lv44 bs44 rfl (by kernel_rfl) rfl ?_ | refine Zr rfl ?_); simp only [↓reduceIte, reduceCtorEq, reduceEqDiff, reduceAdd, reduceMul, reduceSub, reduceLeDiff, reduceEq, reduceLT, reduceLE, go_sem]) | (refine Z5 rfl ?_; with_reducible first | refine ZT ?_ | refine ZF ?_) | refine ZS rfl ?_ | refine Z9 fun _ _ => ?_ | refine ZH ?_ | refine Zo rfl ?_ | refine Zp rfl ?_ | refine Zn rfl ?_ | fail
    rw [T.ends, if_neg (by decide), if_neg (by decide), if_pos rfl, if_neg (fun h' => h (by omega))]
    exact rfl
set_option maxHeartbeats 4000000 in
theorem ends_wide {gl} {l : List Nd} {w : List UInt8} {i f : Nat} {ia : Nat} {lo hi : Int} {a : T} (hl : l.length ≤ 1048576) (hi' : i < l.length) (hr : l.getD i Nd.z = ⟨9, (ia : Int), 0, lo, hi, 0, 0, 0, 0, .empty⟩) (hf : f ≤ w.length) (hw : w.length ≤ 1000) (hA : ∀ v : List UInt8, v.length ≤ w.length → EndsC gl l ia v (a.ends v)) :
    PConR Try.prog gl 44 [desc l, .int .i64 i, bys w, .int .i64 f] 3 1 ((T.ends (.one 9 lo hi a) w f).map natC) := by
  refine PConR.enter (fn := Try.f44) (by kernel_rfl) (by kernel_rfl) rfl (by show 4 ≤ 201; decide) ?_
  simp only [desc, nds, bys]
  repeat' first | refine Z1 fun _ _ => ?_ | refine Z2 ‹_› ?_ | ((first | refine Z3 tb_ok lv44 rfl ?_ | refine Z4 tb_ok mix lv44 bs44 rfl (by kernel_rfl) rfl ?_ | refine Zr rfl ?_); simp only [↓reduceIte, reduceCtorEq, reduceEqDiff, reduceAdd, reduceMul, reduceSub, reduceLeDiff, reduceEq, reduceLT, reduceLE, go_sem]) | (refine Z5 rfl ?_; with_reducible first | refine ZT ?_ | refine ZF ?_) | refine ZS rfl ?_ | refine Z9 fun _ _ => ?_ | refine ZH ?_ | refine Zo rfl ?_ | refine Zp rfl ?_ | refine Zn rfl ?_ | fail
  refine @idx_map _ _ _ l Nd.cells _ _ i _ _ .i64 (i : Int) _ _ _ Nd.z rfl rfl rfl rfl rfl ?_ ?_ ?_ ?_
  · omega
  · omega
  · rfl
  rw [hr]
  simp only [↓reduceIte, reduceCtorEq, reduceEqDiff, reduceAdd, reduceMul, reduceSub, reduceLeDiff, reduceEq, reduceLT, reduceLE, go_sem]
  repeat' first | refine Z1 fun _ _ => ?_ | refine Z2 ‹_› ?_ | ((first | refine Z3 tb_ok lv44 rfl ?_ | refine Z4 tb_ok mix lv44 bs44 rfl (by kernel_rfl) rfl ?_ | refine Zr rfl ?_); simp only [↓reduceIte, reduceCtorEq, reduceEqDiff, reduceAdd, reduceMul, reduceSub, reduceLeDiff, reduceEq, reduceLT, reduceLE, go_sem]) | (refine Z5 rfl ?_; with_reducible first | refine ZT ?_ | refine ZF ?_) | refine ZS rfl ?_ | refine Z9 fun _ _ => ?_ | refine ZH ?_ | refine Zo rfl ?_ | refine Zp rfl ?_ | refine Zn rfl ?_ | fail
  refine call_row rfl rfl (c_zero (gl := gl) hw) ?_; simp only [↓reduceIte, reduceCtorEq, reduceEqDiff, reduceAdd, reduceMul, reduceSub, reduceLeDiff, reduceEq, reduceLT, reduceLE, go_sem]
  repeat' first | refine Z1 fun _ _ => ?_ | refine Z2 ‹_› ?_ | ((first | refine Z3 tb_ok lv44 rfl ?_ | refine Z4 tb_ok mix lv44 bs44 rfl (by kernel_rfl) rfl ?_ | refine Zr rfl ?_); simp only [↓reduceIte, reduceCtorEq, reduceEqDiff, reduceAdd, reduceMul, reduceSub, reduceLeDiff, reduceEq, reduceLT, reduceLE, go_sem]) | (refine Z5 rfl ?_; with_reducible first | refine ZT ?_ | refine ZF ?_) | refine ZS rfl ?_ | refine Z9 fun _ _ => ?_ | refine ZH ?_ | refine Zo rfl ?_ | refine Zp rfl ?_ | refine Zn rfl ?_ | fail
  rw [wrap64 (by omega) (by omega)]
  refine .cond rfl (fun h => ?_) (fun h => ?_)
  · simp only [decide_eq_true_eq] at h
    have hlt : f + 1 < w.length := by omega
    repeat' first | refine Z1 fun _ _ => ?_ | refine Z2 ‹_› ?_ | ((first | refine Z3 tb_ok lv44 rfl ?_ | refine Z4 tb_ok mix lv44 bs44 rfl (by kernel_rfl) rfl ?_ | refine Zr rfl ?_); simp only [↓reduceIte, reduceCtorEq, reduceEqDiff, reduceAdd, reduceMul, reduceSub, reduceLeDiff, reduceEq, reduceLT, reduceLE, go_sem]) | (refine Z5 rfl ?_; with_reducible first | refine ZT ?_ | refine ZF ?_) | refine ZS rfl ?_ | refine Z9 fun _ _ => ?_ | refine ZH ?_ | refine Zo rfl ?_ | refine Zp rfl ?_ | refine Zn rfl ?_ | fail
    refine @idx_map _ _ _ w encB _ _ f _ _ .i64 (f : Int) _ _ _ (0 : UInt8) rfl rfl rfl rfl rfl ?_ ?_ ?_ ?_
    · omega
    · omega
    · rfl
    refine ⟨trivial, ?_⟩
    simp only [↓reduceIte, reduceCtorEq, reduceEqDiff, reduceAdd, reduceMul, reduceSub, reduceLeDiff, reduceEq, reduceLT, reduceLE, go_sem, encB]
    repeat' first | refine Z1 fun _ _ => ?_ | refine Z2 ‹_› ?_ | ((first | refine Z3 tb_ok lv44 rfl ?_ | refine Z4 tb_ok mix lv44 bs44 rfl (by kernel_rfl) rfl ?_ | refine Zr rfl ?_); simp only [↓reduceIte, reduceCtorEq, reduceEqDiff, reduceAdd, reduceMul, reduceSub, reduceLeDiff, reduceEq, reduceLT, reduceLE, go_sem]) | (refine Z5 rfl ?_; with_reducible first | refine ZT ?_ | refine ZF ?_) | refine ZS rfl ?_ | refine Z9 fun _ _ => ?_ | refine ZH ?_ | refine Zo rfl ?_ | refine Zp rfl ?_ | refine Zn rfl ?_ | fail
    rw [wrap64 (z := (f : Int) + 1) (by omega) (by omega)]
    refine @idx_map _ _ _ w encB _ _ (f + 1) _ _ .i64 ((f : Int) + 1) _ _ _ (0 : UInt8) rfl rfl rfl rfl rfl ?_ ?_ ?_ ?_
    · omega
    · omega
    · rfl
    refine ⟨trivial, ?_⟩
    simp only [↓reduceIte, reduceCtorEq, reduceEqDiff, reduceAdd, reduceMul, reduceSub, reduceLeDiff, reduceEq, reduceLT, reduceLE, go_sem, encB]
    repeat' first | refine Z1 fun _ _ => ?_ | refine Z2 ‹_› ?_ | ((first | refine Z3 tb_ok lv44 rfl ?_ | refine Z4 tb_ok mix lv44 bs44 rfl (by kernel_rfl) rfl ?_ | refine Zr rfl ?_); simp only [↓reduceIte, reduceCtorEq, reduceEqDiff, reduceAdd, reduceMul, reduceSub, reduceLeDiff, reduceEq, reduceLT, reduceLE, go_sem]) | (refine Z5 rfl ?_; with_reducible first | refine ZT ?_ | refine ZF ?_) | refine ZS rfl ?_ | refine Z9 fun _ _ => ?_ | refine ZH ?_ | refine Zo rfl ?_ | refine Zp rfl ?_ | refine Zn rfl ?_ | fail
    have hb := (w.getD f 0).toNat_lt
    have hb2 := (w.getD (f + 1) 0).toNat_lt
    rw [wrap64 (z := (f : Int) + 2) (by omega) (by omega), wrap64 (z := ((w.getD f 0).toNat : Int)) (by omega) (by omega), wrap64 (z := 256 * ((w.getD f 0).toNat : Int)) (by omega) (by omega), wrap64 (z := ((w.getD (f + 1) 0).toNat : Int)) (by omega) (by omega), wrap64 (z := (f : Int) + 2 + 256 * ((w.getD f 0).toNat : Int)) (by omega) (by omega), wrap64 (by omega) (by omega)]
    repeat' first | refine Z1 fun _ _ => ?_ | refine Z2 ‹_› ?_ | ((first | refine Z3 tb_ok lv44 rfl ?_ | refine Z4 tb_ok mix lv44 bs44 rfl (by kernel_rfl) rfl ?_ | refine Zr rfl ?_); simp only [↓reduceIte, reduceCtorEq, reduceEqDiff, reduceAdd, reduceMul, reduceSub, reduceLeDiff, reduceEq, reduceLT, reduceLE, go_sem]) | (refine Z5 rfl ?_; with_reducible first | refine ZT ?_ | refine ZF ?_) | refine ZS rfl ?_ | refine Z9 fun _ _ => ?_ | refine ZH ?_ | refine Zo rfl ?_ | refine Zp rfl ?_ | refine Zn rfl ?_ | fail
    refine .cond rfl (fun h2 => ?_) (fun h2 => ?_)
    · simp only [decide_eq_true_eq] at h2
      obtain ⟨to, hto⟩ : ∃ to, to = f + 2 + 256 * (w.getD f 0).toNat + (w.getD (f + 1) 0).toNat := ⟨_, rfl⟩
      rw [show (f : Int) + 2 + 256 * ((w.getD f 0).toNat : Int) + ((w.getD (f + 1) 0).toNat : Int) = (to : Int) by omega]
      have lto : (w.take to).length = to := by rw [List.length_take]; omega
      obtain ⟨a1, a2, a3⟩ := hA (w.take to) (by omega) (f + 2) (by omega)
      replace a1 := a1.toP
      simp only [desc, nds, bys, Int.natCast_add, List.map_take] at a1
      repeat' first | refine Z1 fun _ _ => ?_ | refine Z2 ‹_› ?_ | ((first | refine Z3 tb_ok lv44 rfl ?_ | refine Z4 tb_ok mix lv44 bs44 rfl (by kernel_rfl) rfl ?_ | refine Zr rfl ?_); simp only [↓reduceIte, reduceCtorEq, reduceEqDiff, reduceAdd, reduceMul, reduceSub, reduceLeDiff, reduceEq, reduceLT, reduceLE, go_sem]) | (refine Z5 rfl ?_; with_reducible first | refine ZT ?_ | refine ZF ?_) | refine ZS rfl ?_ | refine Z9 fun _ _ => ?_ | refine ZH ?_ | refine Zo rfl ?_ | refine Zp rfl ?_ | refine Zn rfl ?_ | fail
      refine ⟨fun e he => by obtain ⟨b, _, rfl⟩ := List.mem_map.1 he; rfl, by omega, by omega, ?_⟩
      repeat' first | refine Z1 fun _ _ => ?_ | refine Z2 ‹_› ?_ | ((first | refine Z3 tb_ok lv44 rfl ?_ | refine Z4 tb_ok mix lv44 bs44 rfl (by kernel_rfl) rfl ?_ | refine Zr rfl ?_); simp only [↓reduceIte, reduceCtorEq, reduceEqDiff, reduceAdd, reduceMul, reduceSub, reduceLeDiff, reduceEq, reduceLT, reduceLE, go_sem]) | (refine Z5 rfl ?_; with_reducible first | refine ZT ?_ | refine ZF ?_) | refine ZS rfl ?_ | refine Z9 fun _ _ => ?_ | refine ZH ?_ | refine Zo rfl ?_ | refine Zp rfl ?_ | refine Zn rfl ?_ | fail
      rw [wrap64 (by omega) (by omega)]
      refine call_pure rfl rfl (a1) ?_; simp only [↓reduceIte, reduceCtorEq, reduceEqDiff, reduceAdd, reduceMul, reduceSub, reduceLeDiff, reduceEq, reduceLT, reduceLE, go_sem]
      repeat' first | refine Z1 fun _ _ => ?_ | refine Z2 ‹_› ?_ | ((first | refine Z3 tb_ok lv44 rfl ?_ | refine Z4 tb_ok mix lv44 bs44 rfl (by kernel_rfl) rfl ?_ | refine Zr rfl ?_); simp only [↓reduceIte, reduceCtorEq, reduceEqDiff, reduceAdd, reduceMul, reduceSub, reduceLeDiff, reduceEq, reduceLT, reduceLE, go_sem]) | (refine Z5 rfl ?_; with_reducible first | refine ZT ?_ | refine ZF ?_) | refine ZS rfl ?_ | refine Z9 fun _ _ => ?_ | refine ZH ?_ | refine Zo rfl ?_ | refine Zp rfl ?_ | refine Zn rfl ?_ | fail
      refine @idx_map _ _ _ (a.ends (List.take to w) (f + 2)) natC _ _ to _ _ .i64 (to : Int) _ _ _ (0 : Nat) rfl rfl rfl rfl rfl ?_ ?_ ?_ ?_
      · omega
      · omega
      · rfl
      refine ⟨trivial, ?_⟩
      simp only [↓reduceIte, reduceCtorEq, reduceEqDiff, reduceAdd, reduceMul, reduceSub, reduceLeDiff, reduceEq, reduceLT, reduceLE, go_sem]
      repeat' first | refine Z1 fun _ _ => ?_ | refine Z2 ‹_› ?_ | ((first | refine Z3 tb_ok lv44 rfl ?_ | refine Z4 tb_ok mix lv44 bs44 rfl (by kernel_rfl) rfl ?_ | refine Zr rfl ?_); simp only [↓reduceIte, reduceCtorEq, reduceEqDiff, reduceAdd, reduceMul, reduceSub, reduceLeDiff, reduceEq, reduceLT, reduceLE, go_sem]) | (refine Z5 rfl ?_; with_reducible first | refine ZT ?_ | refine ZF ?_) | refine ZS rfl ?_ | refine Z9 fun _ _ => ?_ | refine ZH ?_ | refine Zo rfl ?_ | refine Zp rfl ?_ | refine Zn rfl ?_ | fail
      refine idx_own (j := to) (n := to) rfl rfl rfl rfl rfl rfl (by omega) (by rw [List.length_map, zeroL_len]; omega) ?_
      refine ⟨trivial, ?_⟩
      simp only [↓reduceIte, reduceCtorEq, reduceEqDiff, reduceAdd, reduceMul, reduceSub, reduceLeDiff, reduceEq, reduceLT, reduceLE, go_sem]
      repeat' first | refine Z1 fun _ _ => ?_ | refine Z2 ‹_› ?_ | ((first | refine Z3 tb_ok lv44 rfl ?_ | refine Z4 tb_ok mix lv44 bs44 rfl (by kernel_rfl) rfl ?_ | refine Zr rfl ?_); simp only [↓reduceIte, reduceCtorEq, reduceEqDiff, reduceAdd, reduceMul, reduceSub, reduceLeDiff, reduceEq, reduceLT, reduceLE, go_sem]) | (refine Z5 rfl ?_; with_reducible first | refine ZT ?_ | refine ZF ?_) | refine ZS rfl ?_ | refine Z9 fun _ _ => ?_ | refine ZH ?_ | refine Zo rfl ?_ | refine Zp rfl ?_ | refine Zn rfl ?_ | fail
      refine ⟨_, at_map 0 (by rw [zeroL_len]; omega), ?_⟩
      rw [set_nat]
      repeat' first | refine Z1 fun _ _ => ?_ | refine Z2 ‹_› ?_ | ((first | refine Z3 tb_ok lv44 rfl ?_ | refine Z4 tb_ok mix lv44 bs44 rfl (by kernel_rfl) rfl ?_ | refine Zr rfl ?_); simp only [↓reduceIte, reduceCtorEq, reduceEqDiff, reduceAdd, reduceMul, reduceSub, reduceLeDiff, reduceEq, reduceLT, reduceLE, go_sem]) | (refine Z5 rfl ?_; with_reducible first | refine ZT ?_ | refine ZF ?_) | refine ZS rfl ?_ | refine Z9 fun _ _ => ?_ | refine ZH ?_ | refine Zo rfl ?_ | refine Zp rfl ?_ | refine Zn rfl ?_ | fail
      rw [T.ends, if_neg (by decide), if_neg (by decide), if_neg (by decide), if_pos ⟨hlt, by omega⟩, ← hto]
      exact rfl
    · simp only [decide_eq_false_iff_not] at h2
      repeat' first | refine Z1 fun _ _ => ?_ | refine Z2 ‹_› ?_ | ((first | refine Z3 tb_ok lv44 rfl ?_ | refine Z4 tb_ok mix lv44 bs44 rfl (by kernel_rfl) rfl ?_ | refine Zr rfl ?_); simp only [↓reduceIte, reduceCtorEq, reduceEqDiff, reduceAdd, reduceMul, reduceSub, reduceLeDiff, reduceEq, reduceLT, reduceLE, go_sem]) | (refine Z5 rfl ?_; with_reducible first | refine ZT ?_ | refine ZF ?_) | refine ZS rfl ?_ | refine Z9 fun _ _ => ?_ | refine ZH ?_ | refine Zo rfl ?_ | refine Zp rfl ?_ | refine Zn rfl ?_ | fail
      rw [T.ends, if_neg (by decide), if_neg (by decide), if_neg (by decide), if_neg (fun h' => h2 (by omega))]
      exact rfl
  · simp only [decide_eq_false_iff_not] at h
    repeat' first | refine Z1 fun _ _ => ?_ | refine Z2 ‹_› ?_ | ((first | refine Z3 tb_ok lv44 rfl ?_ | refine Z4 tb_ok mix lv44 bs44 rfl (by kernel_rfl) rfl ?_ | refine Zr rfl ?_); simp only [↓reduceIte, reduceCtorEq, reduceEqDiff, reduceAdd, reduceMul, reduceSub, reduceLeDiff, reduceEq, reduceLT, reduceLE, go_sem]) | (refine Z5 rfl ?_; with_reducible first | refine ZT ?_ | refine ZF ?_) | refine ZS rfl ?_ | refine Z9 fun _ _ => ?_ | refine ZH ?_ | refine Zo rfl ?_ | refine Zp rfl ?_ | refine Zn rfl ?_ | fail
    rw [T.ends, if_neg (by decide), if_neg (by decide), if_neg (by decide), if_neg (fun h' => h (by omega))]
    exact rfl
end Go.Proofs.Ytpibdbjlilpfiaa
