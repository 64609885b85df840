/- count: find, of each kind (printed by wip/gen/cntg.py). -/
import Derived.Test.YtpibdbjlilpfiaaCntF
namespace Go.Proofs.Ytpibdbjlilpfiaa
set_option linter.all false
open Go Go.RowKit
open Nat (reduceEqDiff reduceAdd reduceMul reduceSub reduceLeDiff)
open Int (reduceEq reduceLT reduceLE)

theorem cut_part {w : List UInt8} {a b : Nat} : List.take (b - a) (List.drop a (List.map encB w)) = (part' w a b).map encB := by
  rw [part', List.map_take, List.map_drop]
@[go_sem] def lv58 : List (Nat × List Nat) := [(0, [2, 3]), (1, [2, 3, 5, 6]), (2, [2, 3, 5, 6, 29]), (3, [2, 3, 5, 6, 29, 30]), (4, [5, 34]), (5, [4]), (6, [2, 3, 5, 6, 29, 39]), (7, [5, 6, 51]), (8, [4]), (9, [2, 3, 5, 6, 29, 59]), (10, [5, 65]), (11, [4]), (12, [2, 3, 5, 29, 72]), (13, [4]), (14, [2, 3, 5, 29, 82]), (15, [2, 3, 5, 7]), (16, [7, 109, 110, 111]), (17, [7, 109, 110, 111, 112]), (18, [7, 9, 109, 110, 111]), (19, [7, 109, 110, 111]), (20, [7, 109, 110, 111]), (21, [4]), (22, [2, 3, 5, 29, 120]), (23, [2, 3, 5, 29, 120]), (24, [4]), (25, [2, 3, 5, 29, 127]), (26, [4]), (27, [2, 3, 5, 133]), (28, [4]), (29, [4])]
def bs58 : List (Nat × List Nat × List Nat) := [(1, [0, 1, 3, 7, 15, 0, 32, 127, 255, 0, 512, 1536, 3584, 0, 8192, 0, 32768, 130560, 0, 262655, 1048575], []), (7, [0, 1, 3, 7, 15, 31, 15, 79, 207, 511, 1023], [9]), (8, [0, 1, 0, 4, 12, 31, 63, 127], []), (15, [0, 1, 0, 0, 0, 16, 0, 64, 0, 256, 1016, 2044, 4095, 8191], [12]), (16, [0, 1, 0, 0, 0, 16, 0, 64, 0, 256, 1016, 2044, 4095, 8191, 0], [12])]
set_option maxHeartbeats 4000000 in
theorem find_void {gl} {l : List Nd} {w : List UInt8} {m i a to : Nat} {lo hi : Int}  (hl : l.length ≤ 1048576) (hi' : i < l.length) (hr : l.getD i Nd.z = ⟨1, 0, 0, 0, 0, 0, 0, 0, 0, .empty⟩) (hat : a ≤ to) (hto : to ≤ w.length) (hw : w.length ≤ 1000) :
    PConR Try.prog gl 58 [rdr l w m, keyD [(i : Int), lo, hi, (a : Int), (to : Int)]] 27 5 ((T.fnd .void (part' w a to)).map Vl.cells) := by
  refine PConR.enter (fn := Try.f58) (by kernel_rfl) (by kernel_rfl) rfl (by show 2 ≤ 139; decide) ?_
  simp only [rdr, keyD, List.map_cons, List.map_nil]
  repeat' first | refine Z1 fun _ _ => ?_ | refine Z2 ‹_› ?_ | ((first | refine Z3 tb_ok lv58 rfl ?_ | refine Z4 tb_ok mix lv58 bs58 rfl (by kernel_rfl) rfl ?_ | refine Zr rfl ?_); simp only [↓reduceIte, reduceCtorEq, reduceEqDiff, reduceAdd, reduceMul, reduceSub, reduceLeDiff, reduceEq, reduceLT, reduceLE, go_sem]) | (refine Z5 rfl ?_; with_reducible first | refine ZT ?_ | refine ZF ?_) | refine ZS rfl ?_ | refine Z9 fun _ _ => ?_ | refine ZH ?_ | refine Zl ‹_› (by decide) ?_ | refine Zo rfl ?_ | refine Zp rfl ?_ | refine Zn rfl ?_ | fail
  refine @idx_map _ _ _ l Nd.cells _ _ i _ _ .i64 (i : Int) _ _ _ Nd.z rfl rfl rfl rfl rfl ?_ ?_ ?_ ?_
  · omega
  · omega
  · rfl
  rw [hr]
  refine ⟨trivial, ?_⟩
  simp only [↓reduceIte, reduceCtorEq, reduceEqDiff, reduceAdd, reduceMul, reduceSub, reduceLeDiff, reduceEq, reduceLT, reduceLE, go_sem]
  repeat' first | refine Z1 fun _ _ => ?_ | refine Z2 ‹_› ?_ | ((first | refine Z3 tb_ok lv58 rfl ?_ | refine Z4 tb_ok mix lv58 bs58 rfl (by kernel_rfl) rfl ?_ | refine Zr rfl ?_); simp only [↓reduceIte, reduceCtorEq, reduceEqDiff, reduceAdd, reduceMul, reduceSub, reduceLeDiff, reduceEq, reduceLT, reduceLE, go_sem]) | (refine Z5 rfl ?_; with_reducible first | refine ZT ?_ | refine ZF ?_) | refine ZS rfl ?_ | refine Z9 fun _ _ => ?_ | refine ZH ?_ | refine Zl ‹_› (by decide) ?_ | refine Zo rfl ?_ | refine Zp rfl ?_ | refine Zn rfl ?_ | fail
  refine ⟨fun e he => by obtain ⟨b, _, rfl⟩ := List.mem_map.1 he; rfl, by omega, by omega, by omega, ?_⟩
  rw [cut_part]
  repeat' first | refine Z1 fun _ _ => ?_ | refine Z2 ‹_› ?_ | ((first | refine Z3 tb_ok lv58 rfl ?_ | refine Z4 tb_ok mix lv58 bs58 rfl (by kernel_rfl) rfl ?_ | refine Zr rfl ?_); simp only [↓reduceIte, reduceCtorEq, reduceEqDiff, reduceAdd, reduceMul, reduceSub, reduceLeDiff, reduceEq, reduceLT, reduceLE, go_sem]) | (refine Z5 rfl ?_; with_reducible first | refine ZT ?_ | refine ZF ?_) | refine ZS rfl ?_ | refine Z9 fun _ _ => ?_ | refine ZH ?_ | refine Zl ‹_› (by decide) ?_ | refine Zo rfl ?_ | refine Zp rfl ?_ | refine Zn rfl ?_ | fail
  refine .cond rfl (fun h => ?_) (fun h => ?_)
  · simp only [decide_eq_true_eq] at h
    have h' : part' w a to = [] := List.length_eq_zero_iff.1 (by omega)
    repeat' first | refine Z1 fun _ _ => ?_ | ((first | refine Z3 tb_ok lv58 rfl ?_ | refine Z4 tb_ok mix lv58 bs58 rfl (by kernel_rfl) rfl ?_ | refine Zr rfl ?_); simp only [↓reduceIte, reduceCtorEq, reduceEqDiff, reduceAdd, reduceMul, reduceSub, reduceLeDiff, reduceEq, reduceLT, reduceLE, go_sem]) | (refine Z5 rfl ?_; with_reducible first | refine ZT ?_ | refine ZF ?_) | refine ZS rfl ?_ | refine Z9 fun _ _ => ?_ | refine ZH ?_ | refine Zl ‹_› (by decide) ?_ | refine Zo rfl ?_ | refine Zp rfl ?_ | refine Zn rfl ?_ | fail
    refine Cut.go ‹_› ?_; refine .norm 34 rfl ?_; simp only [↓reduceIte, reduceCtorEq, reduceEqDiff, reduceAdd, reduceMul, reduceSub, reduceLeDiff, reduceEq, reduceLT, reduceLE, go_sem]
    repeat' first | refine Z1 fun _ _ => ?_ | refine Z2 ‹_› ?_ | ((first | refine Z3 tb_ok lv58 rfl ?_ | refine Z4 tb_ok mix lv58 bs58 rfl (by kernel_rfl) rfl ?_ | refine Zr rfl ?_); simp only [↓reduceIte, reduceCtorEq, reduceEqDiff, reduceAdd, reduceMul, reduceSub, reduceLeDiff, reduceEq, reduceLT, reduceLE, go_sem]) | (refine Z5 rfl ?_; with_reducible first | refine ZT ?_ | refine ZF ?_) | refine ZS rfl ?_ | refine Z9 fun _ _ => ?_ | refine ZH ?_ | refine Zl ‹_› (by decide) ?_ | refine Zo rfl ?_ | refine Zp rfl ?_ | refine Zn rfl ?_ | fail
    rw [T.fnd, if_pos h']
    exact rfl
  · simp only [decide_eq_false_iff_not] at h
    have h' : part' w a to ≠ [] := fun e => h (by rw [e]; rfl)
    repeat' first | refine Z1 fun _ _ => ?_ | refine Z2 ‹_› ?_ | ((first | refine Z3 tb_ok lv58 rfl ?_ | refine Z4 tb_ok mix lv58 bs58 rfl (by kernel_rfl) rfl ?_ | refine Zr rfl ?_); simp only [↓reduceIte, reduceCtorEq, reduceEqDiff, reduceAdd, reduceMul, reduceSub, reduceLeDiff, reduceEq, reduceLT, reduceLE, go_sem]) | (refine Z5 rfl ?_; with_reducible first | refine ZT ?_ | refine ZF ?_) | refine ZS rfl ?_ | refine Z9 fun _ _ => ?_ | refine ZH ?_ | refine Zl ‹_› (by decide) ?_ | refine Zo rfl ?_ | refine Zp rfl ?_ | refine Zn rfl ?_ | fail
    rw [T.fnd, if_neg h']
    exact ⟨rfl, by decide⟩
set_option maxHeartbeats 4000000 in
theorem find_bytes {gl} {l : List Nd} {w : List UInt8} {m i a to : Nat} {lo hi : Int} {c0 c1 c2 c3 : Int} (hl : l.length ≤ 1048576) (hi' : i < l.length) (hr : l.getD i Nd.z = ⟨2, 0, 0, 0, 0, c0, c1, c2, c3, .empty⟩) (hat : a ≤ to) (hto : to ≤ w.length) (hw : w.length ≤ 1000) (hc : (T.bytes c0 c1 c2 c3).cok) :
    PConR Try.prog gl 58 [rdr l w m, keyD [(i : Int), lo, hi, (a : Int), (to : Int)]] 27 5 ((T.fnd (.bytes c0 c1 c2 c3) (part' w a to)).map Vl.cells) := by
  refine PConR.enter (fn := Try.f58) (by kernel_rfl) (by kernel_rfl) rfl (by show 2 ≤ 139; decide) ?_
  simp only [rdr, keyD, List.map_cons, List.map_nil]
  repeat' first | refine Z1 fun _ _ => ?_ | refine Z2 ‹_› ?_ | ((first | refine Z3 tb_ok lv58 rfl ?_ | refine Z4 tb_ok mix lv58 bs58 rfl (by kernel_rfl) rfl ?_ | refine Zr rfl ?_); simp only [↓reduceIte, reduceCtorEq, reduceEqDiff, reduceAdd, reduceMul, reduceSub, reduceLeDiff, reduceEq, reduceLT, reduceLE, go_sem]) | (refine Z5 rfl ?_; with_reducible first | refine ZT ?_ | refine ZF ?_) | refine ZS rfl ?_ | refine Z9 fun _ _ => ?_ | refine ZH ?_ | refine Zl ‹_› (by decide) ?_ | refine Zo rfl ?_ | refine Zp rfl ?_ | refine Zn rfl ?_ | fail
  refine @idx_map _ _ _ l Nd.cells _ _ i _ _ .i64 (i : Int) _ _ _ Nd.z rfl rfl rfl rfl rfl ?_ ?_ ?_ ?_
  · omega
  · omega
  · rfl
  rw [hr]
  refine ⟨trivial, ?_⟩
  simp only [↓reduceIte, reduceCtorEq, reduceEqDiff, reduceAdd, reduceMul, reduceSub, reduceLeDiff, reduceEq, reduceLT, reduceLE, go_sem]
  repeat' first | refine Z1 fun _ _ => ?_ | refine Z2 ‹_› ?_ | ((first | refine Z3 tb_ok lv58 rfl ?_ | refine Z4 tb_ok mix lv58 bs58 rfl (by kernel_rfl) rfl ?_ | refine Zr rfl ?_); simp only [↓reduceIte, reduceCtorEq, reduceEqDiff, reduceAdd, reduceMul, reduceSub, reduceLeDiff, reduceEq, reduceLT, reduceLE, go_sem]) | (refine Z5 rfl ?_; with_reducible first | refine ZT ?_ | refine ZF ?_) | refine ZS rfl ?_ | refine Z9 fun _ _ => ?_ | refine ZH ?_ | refine Zl ‹_› (by decide) ?_ | refine Zo rfl ?_ | refine Zp rfl ?_ | refine Zn rfl ?_ | fail
  refine ⟨fun e he => by obtain ⟨b, _, rfl⟩ := List.mem_map.1 he; rfl, by omega, by omega, by omega, ?_⟩
  rw [cut_part]
  repeat' first | refine Z1 fun _ _ => ?_ | refine Z2 ‹_› ?_ | ((first | refine Z3 tb_ok lv58 rfl ?_ | refine Z4 tb_ok mix lv58 bs58 rfl (by kernel_rfl) rfl ?_ | refine Zr rfl ?_); simp only [↓reduceIte, reduceCtorEq, reduceEqDiff, reduceAdd, reduceMul, reduceSub, reduceLeDiff, reduceEq, reduceLT, reduceLE, go_sem]) | (refine Z5 rfl ?_; with_reducible first | refine ZT ?_ | refine ZF ?_) | refine ZS rfl ?_ | refine Z9 fun _ _ => ?_ | refine ZH ?_ | refine Zl ‹_› (by decide) ?_ | refine Zo rfl ?_ | refine Zp rfl ?_ | refine Zn rfl ?_ | fail
  refine .split rfl (fun g1 => ?_) (fun g1 => ?_) <;> simp only [↓reduceIte, reduceCtorEq, reduceEqDiff, reduceAdd, reduceMul, reduceSub, reduceLeDiff, reduceEq, reduceLT, reduceLE, go_sem, g1]
  · simp only [decide_eq_true_eq] at g1
    obtain ⟨b, hb⟩ := List.length_eq_one_iff.1 (show (part' w a to).length = 1 by omega)
    have hs := c_has (gl := gl) (c0 := c0) (c1 := c1) (c2 := c2) (c3 := c3) (b := b.toNat) hc.1 hc.2.1 hc.2.2.1 hc.2.2.2 ⟨by omega, by have := b.toNat_lt; omega⟩
    simp only [cls] at hs
    repeat' first | refine Z1 fun _ _ => ?_ | refine Z2 ‹_› ?_ | ((first | refine Z3 tb_ok lv58 rfl ?_ | refine Z4 tb_ok mix lv58 bs58 rfl (by kernel_rfl) rfl ?_ | refine Zr rfl ?_); simp only [↓reduceIte, reduceCtorEq, reduceEqDiff, reduceAdd, reduceMul, reduceSub, reduceLeDiff, reduceEq, reduceLT, reduceLE, go_sem]) | (refine Z5 rfl ?_; with_reducible first | refine ZT ?_ | refine ZF ?_) | refine ZS rfl ?_ | refine Z9 fun _ _ => ?_ | refine ZH ?_ | refine Zl ‹_› (by decide) ?_ | refine Zo rfl ?_ | refine Zp rfl ?_ | refine Zn rfl ?_ | fail
    refine @idx_map _ _ _ (part' w a to) encB _ _ 0 _ _ .i64 0 _ _ _ (0 : UInt8) rfl rfl rfl rfl rfl ?_ ?_ ?_ ?_
    · omega
    · omega
    · rfl
    rw [hb, List.getD_cons_zero]
    refine ⟨trivial, ?_⟩
    simp only [↓reduceIte, reduceCtorEq, reduceEqDiff, reduceAdd, reduceMul, reduceSub, reduceLeDiff, reduceEq, reduceLT, reduceLE, go_sem, encB]
    repeat' first | refine Z1 fun _ _ => ?_ | refine Z2 ‹_› ?_ | ((first | refine Z3 tb_ok lv58 rfl ?_ | refine Z4 tb_ok mix lv58 bs58 rfl (by kernel_rfl) rfl ?_ | refine Zr rfl ?_); simp only [↓reduceIte, reduceCtorEq, reduceEqDiff, reduceAdd, reduceMul, reduceSub, reduceLeDiff, reduceEq, reduceLT, reduceLE, go_sem]) | (refine Z5 rfl ?_; with_reducible first | refine ZT ?_ | refine ZF ?_) | refine ZS rfl ?_ | refine Z9 fun _ _ => ?_ | refine ZH ?_ | refine Zl ‹_› (by decide) ?_ | refine Zo rfl ?_ | refine Zp rfl ?_ | refine Zn rfl ?_ | fail
    cases hh : clsHas c0 c1 c2 c3 b.toNat with
    | true =>
      rw [hh] at hs
      refine call_pure rfl rfl (hs) ?_; simp only [↓reduceIte, reduceCtorEq, reduceEqDiff, reduceAdd, reduceMul, reduceSub, reduceLeDiff, reduceEq, reduceLT, reduceLE, go_sem]
      repeat' first | refine Z1 fun _ _ => ?_ | refine Z2 ‹_› ?_ | ((first | refine Z3 tb_ok lv58 rfl ?_ | refine Z4 tb_ok mix lv58 bs58 rfl (by kernel_rfl) rfl ?_ | refine Zr rfl ?_); simp only [↓reduceIte, reduceCtorEq, reduceEqDiff, reduceAdd, reduceMul, reduceSub, reduceLeDiff, reduceEq, reduceLT, reduceLE, go_sem]) | (refine Z5 rfl ?_; with_reducible first | refine ZT ?_ | refine ZF ?_) | refine ZS rfl ?_ | refine Z9 fun _ _ => ?_ | refine ZH ?_ | refine Zl ‹_› (by decide) ?_ | refine Zo rfl ?_ | refine Zp rfl ?_ | refine Zn rfl ?_ | fail
      refine @idx_map _ _ _ [b] encB _ _ 0 _ _ .i64 0 _ _ _ (0 : UInt8) rfl rfl rfl rfl rfl ?_ ?_ ?_ ?_
      · exact Int.le_refl 0
      · exact Nat.one_pos
      · rfl
      refine ⟨trivial, ?_⟩
      simp only [↓reduceIte, reduceCtorEq, reduceEqDiff, reduceAdd, reduceMul, reduceSub, reduceLeDiff, reduceEq, reduceLT, reduceLE, go_sem, encB, List.getD_cons_zero]
      repeat' first | refine Z1 fun _ _ => ?_ | ((first | refine Z3 tb_ok lv58 rfl ?_ | refine Z4 tb_ok mix lv58 bs58 rfl (by kernel_rfl) rfl ?_ | refine Zr rfl ?_); simp only [↓reduceIte, reduceCtorEq, reduceEqDiff, reduceAdd, reduceMul, reduceSub, reduceLeDiff, reduceEq, reduceLT, reduceLE, go_sem]) | (refine Z5 rfl ?_; with_reducible first | refine ZT ?_ | refine ZF ?_) | refine ZS rfl ?_ | refine Z9 fun _ _ => ?_ | refine ZH ?_ | refine Zl ‹_› (by decide) ?_ | refine Zo rfl ?_ | refine Zp rfl ?_ | refine Zn rfl ?_ | fail
      refine Cut.go ‹_› ?_; refine .norm 47 rfl ?_; simp only [↓reduceIte, reduceCtorEq, reduceEqDiff, reduceAdd, reduceMul, reduceSub, reduceLeDiff, reduceEq, reduceLT, reduceLE, go_sem]
      repeat' first | refine Z1 fun _ _ => ?_ | refine Z2 ‹_› ?_ | ((first | refine Z3 tb_ok lv58 rfl ?_ | refine Z4 tb_ok mix lv58 bs58 rfl (by kernel_rfl) rfl ?_ | refine Zr rfl ?_); simp only [↓reduceIte, reduceCtorEq, reduceEqDiff, reduceAdd, reduceMul, reduceSub, reduceLeDiff, reduceEq, reduceLT, reduceLE, go_sem]) | (refine Z5 rfl ?_; with_reducible first | refine ZT ?_ | refine ZF ?_) | refine ZS rfl ?_ | refine Z9 fun _ _ => ?_ | refine ZH ?_ | refine Zl ‹_› (by decide) ?_ | refine Zo rfl ?_ | refine Zp rfl ?_ | refine Zn rfl ?_ | fail
      rw [hb, T.fnd, hh]
      exact rfl
    | false =>
      rw [hh] at hs
      refine call_pure rfl rfl (hs) ?_; simp only [↓reduceIte, reduceCtorEq, reduceEqDiff, reduceAdd, reduceMul, reduceSub, reduceLeDiff, reduceEq, reduceLT, reduceLE, go_sem]
      repeat' first | refine Z1 fun _ _ => ?_ | refine Z2 ‹_› ?_ | ((first | refine Z3 tb_ok lv58 rfl ?_ | refine Z4 tb_ok mix lv58 bs58 rfl (by kernel_rfl) rfl ?_ | refine Zr rfl ?_); simp only [↓reduceIte, reduceCtorEq, reduceEqDiff, reduceAdd, reduceMul, reduceSub, reduceLeDiff, reduceEq, reduceLT, reduceLE, go_sem]) | (refine Z5 rfl ?_; with_reducible first | refine ZT ?_ | refine ZF ?_) | refine ZS rfl ?_ | refine Z9 fun _ _ => ?_ | refine ZH ?_ | refine Zl ‹_› (by decide) ?_ | refine Zo rfl ?_ | refine Zp rfl ?_ | refine Zn rfl ?_ | fail
      rw [hb, T.fnd, hh]
      exact ⟨rfl, by decide⟩
  · simp only [decide_eq_false_iff_not] at g1
    have hf : T.fnd (.bytes c0 c1 c2 c3) (part' w a to) = [] := by
      unfold T.fnd
      split
      · rename_i b hb
        rw [hb] at g1
        exact absurd rfl g1
      · rfl
    repeat' first | refine Z1 fun _ _ => ?_ | refine Z2 ‹_› ?_ | ((first | refine Z3 tb_ok lv58 rfl ?_ | refine Z4 tb_ok mix lv58 bs58 rfl (by kernel_rfl) rfl ?_ | refine Zr rfl ?_); simp only [↓reduceIte, reduceCtorEq, reduceEqDiff, reduceAdd, reduceMul, reduceSub, reduceLeDiff, reduceEq, reduceLT, reduceLE, go_sem]) | (refine Z5 rfl ?_; with_reducible first | refine ZT ?_ | refine ZF ?_) | refine ZS rfl ?_ | refine Z9 fun _ _ => ?_ | refine ZH ?_ | refine Zl ‹_› (by decide) ?_ | refine Zo rfl ?_ | refine Zp rfl ?_ | refine Zn rfl ?_ | fail
    rw [hf]
    exact ⟨rfl, by decide⟩
set_option maxHeartbeats 4000000 in
theorem find_text {gl} {l : List Nd} {w : List UInt8} {m i a to : Nat} {lo hi : Int} {s : ByteArray} (hl : l.length ≤ 1048576) (hi' : i < l.length) (hr : l.getD i Nd.z = ⟨3, 0, 0, 0, 0, 0, 0, 0, 0, s⟩) (hat : a ≤ to) (hto : to ≤ w.length) (hw : w.length ≤ 1000) (hs : txtOk s) :
    PConR Try.prog gl 58 [rdr l w m, keyD [(i : Int), lo, hi, (a : Int), (to : Int)]] 27 5 ((T.fnd (.text s) (part' w a to)).map Vl.cells) := by
  refine PConR.enter (fn := Try.f58) (by kernel_rfl) (by kernel_rfl) rfl (by show 2 ≤ 139; decide) ?_
  simp only [rdr, keyD, List.map_cons, List.map_nil]
  repeat' first | refine Z1 fun _ _ => ?_ | refine Z2 ‹_› ?_ | ((first | refine Z3 tb_ok lv58 rfl ?_ | refine Z4 tb_ok mix lv58 bs58 rfl (by kernel_rfl) rfl ?_ | refine Zr rfl ?_); simp only [↓reduceIte, reduceCtorEq, reduceEqDiff, reduceAdd, reduceMul, reduceSub, reduceLeDiff, reduceEq, reduceLT, reduceLE, go_sem]) | (refine Z5 rfl ?_; with_reducible first | refine ZT ?_ | refine ZF ?_) | refine ZS rfl ?_ | refine Z9 fun _ _ => ?_ | refine ZH ?_ | refine Zl ‹_› (by decide) ?_ | refine Zo rfl ?_ | refine Zp rfl ?_ | refine Zn rfl ?_ | fail
  refine @idx_map _ _ _ l Nd.cells _ _ i _ _ .i64 (i : Int) _ _ _ Nd.z rfl rfl rfl rfl rfl ?_ ?_ ?_ ?_
  · omega
  · omega
  · rfl
  rw [hr]
  refine ⟨trivial, ?_⟩
  simp only [↓reduceIte, reduceCtorEq, reduceEqDiff, reduceAdd, reduceMul, reduceSub, reduceLeDiff, reduceEq, reduceLT, reduceLE, go_sem]
  repeat' first | refine Z1 fun _ _ => ?_ | refine Z2 ‹_› ?_ | ((first | refine Z3 tb_ok lv58 rfl ?_ | refine Z4 tb_ok mix lv58 bs58 rfl (by kernel_rfl) rfl ?_ | refine Zr rfl ?_); simp only [↓reduceIte, reduceCtorEq, reduceEqDiff, reduceAdd, reduceMul, reduceSub, reduceLeDiff, reduceEq, reduceLT, reduceLE, go_sem]) | (refine Z5 rfl ?_; with_reducible first | refine ZT ?_ | refine ZF ?_) | refine ZS rfl ?_ | refine Z9 fun _ _ => ?_ | refine ZH ?_ | refine Zl ‹_› (by decide) ?_ | refine Zo rfl ?_ | refine Zp rfl ?_ | refine Zn rfl ?_ | fail
  refine ⟨fun e he => by obtain ⟨b, _, rfl⟩ := List.mem_map.1 he; rfl, by omega, by omega, by omega, ?_⟩
  rw [cut_part]
  repeat' first | refine Z1 fun _ _ => ?_ | refine Z2 ‹_› ?_ | ((first | refine Z3 tb_ok lv58 rfl ?_ | refine Z4 tb_ok mix lv58 bs58 rfl (by kernel_rfl) rfl ?_ | refine Zr rfl ?_); simp only [↓reduceIte, reduceCtorEq, reduceEqDiff, reduceAdd, reduceMul, reduceSub, reduceLeDiff, reduceEq, reduceLT, reduceLE, go_sem]) | (refine Z5 rfl ?_; with_reducible first | refine ZT ?_ | refine ZF ?_) | refine ZS rfl ?_ | refine Z9 fun _ _ => ?_ | refine ZH ?_ | refine Zl ‹_› (by decide) ?_ | refine Zo rfl ?_ | refine Zp rfl ?_ | refine Zn rfl ?_ | fail
  refine ⟨Try.underlying5, _, rfl, ?_⟩
  have hq : decide ({ data := (part' w a to).toArray } = s) = decide (part' w a to = s.data.toList) := by
    rw [Bool.eq_iff_iff, decide_eq_true_eq, decide_eq_true_eq]
    constructor
    · rintro rfl; rfl
    · intro h; rw [h]
  rw [hq]
  refine Z2 ‹_› ?_
  refine .cond rfl (fun h => ?_) (fun h => ?_)
  · simp only [decide_eq_true_eq] at h
    repeat' first | refine Z1 fun _ _ => ?_ | ((first | refine Z3 tb_ok lv58 rfl ?_ | refine Z4 tb_ok mix lv58 bs58 rfl (by kernel_rfl) rfl ?_ | refine Zr rfl ?_); simp only [↓reduceIte, reduceCtorEq, reduceEqDiff, reduceAdd, reduceMul, reduceSub, reduceLeDiff, reduceEq, reduceLT, reduceLE, go_sem]) | (refine Z5 rfl ?_; with_reducible first | refine ZT ?_ | refine ZF ?_) | refine ZS rfl ?_ | refine Z9 fun _ _ => ?_ | refine ZH ?_ | refine Zl ‹_› (by decide) ?_ | refine Zo rfl ?_ | refine Zp rfl ?_ | refine Zn rfl ?_ | fail
    refine Cut.go ‹_› ?_; refine .norm 42 rfl ?_; simp only [↓reduceIte, reduceCtorEq, reduceEqDiff, reduceAdd, reduceMul, reduceSub, reduceLeDiff, reduceEq, reduceLT, reduceLE, go_sem]
    repeat' first | refine Z1 fun _ _ => ?_ | refine Z2 ‹_› ?_ | ((first | refine Z3 tb_ok lv58 rfl ?_ | refine Z4 tb_ok mix lv58 bs58 rfl (by kernel_rfl) rfl ?_ | refine Zr rfl ?_); simp only [↓reduceIte, reduceCtorEq, reduceEqDiff, reduceAdd, reduceMul, reduceSub, reduceLeDiff, reduceEq, reduceLT, reduceLE, go_sem]) | (refine Z5 rfl ?_; with_reducible first | refine ZT ?_ | refine ZF ?_) | refine ZS rfl ?_ | refine Z9 fun _ _ => ?_ | refine ZH ?_ | refine Zl ‹_› (by decide) ?_ | refine Zo rfl ?_ | refine Zp rfl ?_ | refine Zn rfl ?_ | fail
    rw [T.fnd, if_pos h]
    exact rfl
  · simp only [decide_eq_false_iff_not] at h
    repeat' first | refine Z1 fun _ _ => ?_ | refine Z2 ‹_› ?_ | ((first | refine Z3 tb_ok lv58 rfl ?_ | refine Z4 tb_ok mix lv58 bs58 rfl (by kernel_rfl) rfl ?_ | refine Zr rfl ?_); simp only [↓reduceIte, reduceCtorEq, reduceEqDiff, reduceAdd, reduceMul, reduceSub, reduceLeDiff, reduceEq, reduceLT, reduceLE, go_sem]) | (refine Z5 rfl ?_; with_reducible first | refine ZT ?_ | refine ZF ?_) | refine ZS rfl ?_ | refine Z9 fun _ _ => ?_ | refine ZH ?_ | refine Zl ‹_› (by decide) ?_ | refine Zo rfl ?_ | refine Zp rfl ?_ | refine Zn rfl ?_ | fail
    rw [T.fnd, if_neg h]
    exact ⟨rfl, by decide⟩
set_option maxHeartbeats 4000000 in
theorem find_seq {gl} {l : List Nd} {w : List UInt8} {m i a to : Nat} {lo hi : Int} {ia ib : Nat} {A B : Nat → List Vl} (hl : l.length ≤ 1048576) (hi' : i < l.length) (hr : l.getD i Nd.z = ⟨4, (ia : Int), (ib : Int), 0, 0, 0, 0, 0, 0, .empty⟩) (hat : a ≤ to) (hto : to ≤ w.length) (hw : w.length ≤ 1000) (hia : ia < l.length) (hib : ib < l.length) (lA : ∀ mid, (A mid).length ≤ 2) (lB : ∀ mid, (B mid).length ≤ 2) (hA : ∀ mid, a ≤ mid → mid ≤ to → Asks gl l w m ia a mid (A mid)) (hB : ∀ mid, a ≤ mid → mid ≤ to → Asks gl l w m ib mid to (B mid)) (bJ : ∀ mid x y, a ≤ mid → mid ≤ to → x ∈ A mid → y ∈ B mid → (Vl.mk 4 0 .empty 0 [x, y]).bulk ≤ 1048577) :
    PCon Try.prog gl 58 [rdr l w m, keyD [(i : Int), lo, hi, (a : Int), (to : Int)]] (vals (addsV [] (allL A B (fun x y => .mk 4 0 .empty 0 [x, y]) a (to + 1 - a)))) := by
  refine PCon.enter tb_ok (fn := Try.f58) (by kernel_rfl) (by kernel_rfl) rfl (by show 2 ≤ 139; decide) ?_
  simp only [rdr, keyD, List.map_cons, List.map_nil]
  repeat' first | refine Z1 fun _ _ => ?_ | refine Z2 ‹_› ?_ | ((first | refine Z3 tb_ok lv58 rfl ?_ | refine Z4 tb_ok mix lv58 bs58 rfl (by kernel_rfl) rfl ?_ | refine Zr rfl ?_); simp only [↓reduceIte, reduceCtorEq, reduceEqDiff, reduceAdd, reduceMul, reduceSub, reduceLeDiff, reduceEq, reduceLT, reduceLE, go_sem]) | (refine Z5 rfl ?_; with_reducible first | refine ZT ?_ | refine ZF ?_) | refine ZS rfl ?_ | refine Z9 fun _ _ => ?_ | refine ZH ?_ | refine Zl ‹_› (by decide) ?_ | refine Zo rfl ?_ | refine Zp rfl ?_ | refine Zn rfl ?_ | fail
  refine @idx_map _ _ _ l Nd.cells _ _ i _ _ .i64 (i : Int) _ _ _ Nd.z rfl rfl rfl rfl rfl ?_ ?_ ?_ ?_
  · omega
  · omega
  · rfl
  rw [hr]
  refine ⟨trivial, ?_⟩
  simp only [↓reduceIte, reduceCtorEq, reduceEqDiff, reduceAdd, reduceMul, reduceSub, reduceLeDiff, reduceEq, reduceLT, reduceLE, go_sem]
  repeat' first | refine Z1 fun _ _ => ?_ | refine Z2 ‹_› ?_ | ((first | refine Z3 tb_ok lv58 rfl ?_ | refine Z4 tb_ok mix lv58 bs58 rfl (by kernel_rfl) rfl ?_ | refine Zr rfl ?_); simp only [↓reduceIte, reduceCtorEq, reduceEqDiff, reduceAdd, reduceMul, reduceSub, reduceLeDiff, reduceEq, reduceLT, reduceLE, go_sem]) | (refine Z5 rfl ?_; with_reducible first | refine ZT ?_ | refine ZF ?_) | refine ZS rfl ?_ | refine Z9 fun _ _ => ?_ | refine ZH ?_ | refine Zl ‹_› (by decide) ?_ | refine Zo rfl ?_ | refine Zp rfl ?_ | refine Zn rfl ?_ | fail
  refine ⟨fun e he => by obtain ⟨b, _, rfl⟩ := List.mem_map.1 he; rfl, by omega, by omega, by omega, ?_⟩
  rw [cut_part]
  repeat' first | refine Z1 fun _ _ => ?_ | ((first | refine Z3 tb_ok lv58 rfl ?_ | refine Z4 tb_ok mix lv58 bs58 rfl (by kernel_rfl) rfl ?_ | refine Zr rfl ?_); simp only [↓reduceIte, reduceCtorEq, reduceEqDiff, reduceAdd, reduceMul, reduceSub, reduceLeDiff, reduceEq, reduceLT, reduceLE, go_sem]) | (refine Z5 rfl ?_; with_reducible first | refine ZT ?_ | refine ZF ?_) | refine ZS rfl ?_ | refine Z9 fun _ _ => ?_ | refine ZH ?_ | refine Zl ‹_› (by decide) ?_ | refine Zo rfl ?_ | refine Zp rfl ?_ | refine Zn rfl ?_ | fail
  refine Cut.go ‹_› ?_; refine .freeze 21 rfl rfl ?_; simp only [↓reduceIte, reduceCtorEq, reduceEqDiff, reduceAdd, reduceMul, reduceSub, reduceLeDiff, reduceEq, reduceLT, reduceLE, go_sem]; refine .freeze 1 rfl rfl ?_; simp only [↓reduceIte, reduceCtorEq, reduceEqDiff, reduceAdd, reduceMul, reduceSub, reduceLeDiff, reduceEq, reduceLT, reduceLE, go_sem]; refine .freeze 0 rfl rfl ?_; simp only [↓reduceIte, reduceCtorEq, reduceEqDiff, reduceAdd, reduceMul, reduceSub, reduceLeDiff, reduceEq, reduceLT, reduceLE, go_sem]
  repeat' first | refine Z1 fun _ _ => ?_ | refine Z2 ‹_› ?_ | ((first | refine Z3 tb_ok lv58 rfl ?_ | refine Z4 tb_ok mix lv58 bs58 rfl (by kernel_rfl) rfl ?_ | refine Zr rfl ?_); simp only [↓reduceIte, reduceCtorEq, reduceEqDiff, reduceAdd, reduceMul, reduceSub, reduceLeDiff, reduceEq, reduceLT, reduceLE, go_sem]) | (refine Z5 rfl ?_; with_reducible first | refine ZT ?_ | refine ZF ?_) | refine ZS rfl ?_ | refine Z9 fun _ _ => ?_ | refine ZH ?_ | refine Zl ‹_› (by decide) ?_ | refine Zo rfl ?_ | refine Zp rfl ?_ | refine Zn rfl ?_ | fail
  have hc := c_cross (gl := gl) (r := rdr l w m) (n0 := i) (n1 := lo) (n2 := hi) (from' := a) (a := a) (to := to) (f1 := 64) (f2 := 65) (f3 := 66)
    (C1 := [.addr [rdr l w m], .addr (Nd.cells ⟨4, (ia : Int), (ib : Int), 0, 0, 0, 0, 0, 0, .empty⟩), tsk i lo hi a to]) (C2 := [.addr [rdr l w m], .addr (Nd.cells ⟨4, (ia : Int), (ib : Int), 0, 0, 0, 0, 0, 0, .empty⟩), tsk i lo hi a to]) (C3 := [.addr (Nd.cells ⟨4, (ia : Int), (ib : Int), 0, 0, 0, 0, 0, 0, .empty⟩)])
    (A := A) (B := B) (J := fun x y => .mk 4 0 .empty 0 [x, y]) (by omega) (by omega) lA lB bJ (fun mid h1 h2 => c_find1 hl hia rfl (hA mid h1 h2)) (fun mid h1 h2 => c_find2 hl hib rfl (hB mid h1 h2)) (fun mid x y h1 h2 hx hy => c_find3)
  simp only [rdr, keyD, List.map_cons, List.map_nil, tsk, Nd.cells, vals] at hc
  refine call_pure rfl rfl (hc) ?_; simp only [↓reduceIte, reduceCtorEq, reduceEqDiff, reduceAdd, reduceMul, reduceSub, reduceLeDiff, reduceEq, reduceLT, reduceLE, go_sem]
  repeat' first | refine Z1 fun _ _ => ?_ | refine Z2 ‹_› ?_ | ((first | refine Z3 tb_ok lv58 rfl ?_ | refine Z4 tb_ok mix lv58 bs58 rfl (by kernel_rfl) rfl ?_ | refine Zr rfl ?_); simp only [↓reduceIte, reduceCtorEq, reduceEqDiff, reduceAdd, reduceMul, reduceSub, reduceLeDiff, reduceEq, reduceLT, reduceLE, go_sem]) | (refine Z5 rfl ?_; with_reducible first | refine ZT ?_ | refine ZF ?_) | refine ZS rfl ?_ | refine Z9 fun _ _ => ?_ | refine ZH ?_ | refine Zl ‹_› (by decide) ?_ | refine Zo rfl ?_ | refine Zp rfl ?_ | refine Zn rfl ?_ | fail
set_option maxHeartbeats 4000000 in
theorem find_or {gl} {l : List Nd} {w : List UInt8} {m i a to : Nat} {lo hi : Int} {ia ib : Nat} {A B : List Vl} (hl : l.length ≤ 1048576) (hi' : i < l.length) (hr : l.getD i Nd.z = ⟨5, (ia : Int), (ib : Int), 0, 0, 0, 0, 0, 0, .empty⟩) (hat : a ≤ to) (hto : to ≤ w.length) (hw : w.length ≤ 1000) (hia : ia < l.length) (hib : ib < l.length) (lA : A.length ≤ 2) (lB : B.length ≤ 2) (hA : Asks gl l w m ia a to A) (hB : Asks gl l w m ib a to B) (bA : ∀ x ∈ A, (Vl.mk 5 0 .empty 0 [x]).bulk ≤ 1048577) (bB : ∀ x ∈ B, (Vl.mk 5 0 .empty 1 [x]).bulk ≤ 1048577) :
    PConR Try.prog gl 58 [rdr l w m, keyD [(i : Int), lo, hi, (a : Int), (to : Int)]] 27 5 ((addsV (wrapV 5 0 A) (wrapV 5 1 B)).map Vl.cells) := by
  refine PConR.enter (fn := Try.f58) (by kernel_rfl) (by kernel_rfl) rfl (by show 2 ≤ 139; decide) ?_
  simp only [rdr, keyD, List.map_cons, List.map_nil]
  repeat' first | refine Z1 fun _ _ => ?_ | refine Z2 ‹_› ?_ | ((first | refine Z3 tb_ok lv58 rfl ?_ | refine Z4 tb_ok mix lv58 bs58 rfl (by kernel_rfl) rfl ?_ | refine Zr rfl ?_); simp only [↓reduceIte, reduceCtorEq, reduceEqDiff, reduceAdd, reduceMul, reduceSub, reduceLeDiff, reduceEq, reduceLT, reduceLE, go_sem]) | (refine Z5 rfl ?_; with_reducible first | refine ZT ?_ | refine ZF ?_) | refine ZS rfl ?_ | refine Z9 fun _ _ => ?_ | refine ZH ?_ | refine Zl ‹_› (by decide) ?_ | refine Zo rfl ?_ | refine Zp rfl ?_ | refine Zn rfl ?_ | fail
  refine @idx_map _ _ _ l Nd.cells _ _ i _ _ .i64 (i : Int) _ _ _ Nd.z rfl rfl rfl rfl rfl ?_ ?_ ?_ ?_
  · omega
  · omega
  · rfl
  rw [hr]
  refine ⟨trivial, ?_⟩
  simp only [↓reduceIte, reduceCtorEq, reduceEqDiff, reduceAdd, reduceMul, reduceSub, reduceLeDiff, reduceEq, reduceLT, reduceLE, go_sem]
  repeat' first | refine Z1 fun _ _ => ?_ | refine Z2 ‹_› ?_ | ((first | refine Z3 tb_ok lv58 rfl ?_ | refine Z4 tb_ok mix lv58 bs58 rfl (by kernel_rfl) rfl ?_ | refine Zr rfl ?_); simp only [↓reduceIte, reduceCtorEq, reduceEqDiff, reduceAdd, reduceMul, reduceSub, reduceLeDiff, reduceEq, reduceLT, reduceLE, go_sem]) | (refine Z5 rfl ?_; with_reducible first | refine ZT ?_ | refine ZF ?_) | refine ZS rfl ?_ | refine Z9 fun _ _ => ?_ | refine ZH ?_ | refine Zl ‹_› (by decide) ?_ | refine Zo rfl ?_ | refine Zp rfl ?_ | refine Zn rfl ?_ | fail
  refine ⟨fun e he => by obtain ⟨b, _, rfl⟩ := List.mem_map.1 he; rfl, by omega, by omega, by omega, ?_⟩
  rw [cut_part]
  have w1 := c_whole (gl := gl) (w := w) (m := m) (a := a) (b := to) hl hia
  have w2 := c_whole (gl := gl) (w := w) (m := m) (a := a) (b := to) hl hib
  have hq := c_wrap12 (gl := gl) (l := A) (k := 5) (p := 0) (by omega)
  have hq2 := c_wrap12 (gl := gl) (l := B) (k := 5) (p := 1) (by omega)
  unfold Asks at hA hB
  simp only [rdr, keyD, List.map_cons, List.map_nil, vals] at w1 w2 hA hB hq hq2
  repeat' first | refine Z1 fun _ _ => ?_ | refine Z2 ‹_› ?_ | ((first | refine Z3 tb_ok lv58 rfl ?_ | refine Z4 tb_ok mix lv58 bs58 rfl (by kernel_rfl) rfl ?_ | refine Zr rfl ?_); simp only [↓reduceIte, reduceCtorEq, reduceEqDiff, reduceAdd, reduceMul, reduceSub, reduceLeDiff, reduceEq, reduceLT, reduceLE, go_sem]) | (refine Z5 rfl ?_; with_reducible first | refine ZT ?_ | refine ZF ?_) | refine ZS rfl ?_ | refine Z9 fun _ _ => ?_ | refine ZH ?_ | refine Zl ‹_› (by decide) ?_ | refine Zo rfl ?_ | refine Zp rfl ?_ | refine Zn rfl ?_ | fail
  refine call_pure rfl rfl (w1) ?_; simp only [↓reduceIte, reduceCtorEq, reduceEqDiff, reduceAdd, reduceMul, reduceSub, reduceLeDiff, reduceEq, reduceLT, reduceLE, go_sem]
  repeat' first | refine Z1 fun _ _ => ?_ | refine Z2 ‹_› ?_ | ((first | refine Z3 tb_ok lv58 rfl ?_ | refine Z4 tb_ok mix lv58 bs58 rfl (by kernel_rfl) rfl ?_ | refine Zr rfl ?_); simp only [↓reduceIte, reduceCtorEq, reduceEqDiff, reduceAdd, reduceMul, reduceSub, reduceLeDiff, reduceEq, reduceLT, reduceLE, go_sem]) | (refine Z5 rfl ?_; with_reducible first | refine ZT ?_ | refine ZF ?_) | refine ZS rfl ?_ | refine Z9 fun _ _ => ?_ | refine ZH ?_ | refine Zl ‹_› (by decide) ?_ | refine Zo rfl ?_ | refine Zp rfl ?_ | refine Zn rfl ?_ | fail
  refine call_pure rfl rfl (hA) ?_; simp only [↓reduceIte, reduceCtorEq, reduceEqDiff, reduceAdd, reduceMul, reduceSub, reduceLeDiff, reduceEq, reduceLT, reduceLE, go_sem]
  repeat' first | refine Z1 fun _ _ => ?_ | refine Z2 ‹_› ?_ | ((first | refine Z3 tb_ok lv58 rfl ?_ | refine Z4 tb_ok mix lv58 bs58 rfl (by kernel_rfl) rfl ?_ | refine Zr rfl ?_); simp only [↓reduceIte, reduceCtorEq, reduceEqDiff, reduceAdd, reduceMul, reduceSub, reduceLeDiff, reduceEq, reduceLT, reduceLE, go_sem]) | (refine Z5 rfl ?_; with_reducible first | refine ZT ?_ | refine ZF ?_) | refine ZS rfl ?_ | refine Z9 fun _ _ => ?_ | refine ZH ?_ | refine Zl ‹_› (by decide) ?_ | refine Zo rfl ?_ | refine Zp rfl ?_ | refine Zn rfl ?_ | fail
  refine call_row rfl rfl (hq) ?_; simp only [↓reduceIte, reduceCtorEq, reduceEqDiff, reduceAdd, reduceMul, reduceSub, reduceLeDiff, reduceEq, reduceLT, reduceLE, go_sem]
  repeat' first | refine Z1 fun _ _ => ?_ | refine Z2 ‹_› ?_ | ((first | refine Z3 tb_ok lv58 rfl ?_ | refine Z4 tb_ok mix lv58 bs58 rfl (by kernel_rfl) rfl ?_ | refine Zr rfl ?_); simp only [↓reduceIte, reduceCtorEq, reduceEqDiff, reduceAdd, reduceMul, reduceSub, reduceLeDiff, reduceEq, reduceLT, reduceLE, go_sem]) | (refine Z5 rfl ?_; with_reducible first | refine ZT ?_ | refine ZF ?_) | refine ZS rfl ?_ | refine Z9 fun _ _ => ?_ | refine ZH ?_ | refine Zl ‹_› (by decide) ?_ | refine Zo rfl ?_ | refine Zp rfl ?_ | refine Zn rfl ?_ | fail
  refine call_pure rfl rfl (w2) ?_; simp only [↓reduceIte, reduceCtorEq, reduceEqDiff, reduceAdd, reduceMul, reduceSub, reduceLeDiff, reduceEq, reduceLT, reduceLE, go_sem]
  repeat' first | refine Z1 fun _ _ => ?_ | refine Z2 ‹_› ?_ | ((first | refine Z3 tb_ok lv58 rfl ?_ | refine Z4 tb_ok mix lv58 bs58 rfl (by kernel_rfl) rfl ?_ | refine Zr rfl ?_); simp only [↓reduceIte, reduceCtorEq, reduceEqDiff, reduceAdd, reduceMul, reduceSub, reduceLeDiff, reduceEq, reduceLT, reduceLE, go_sem]) | (refine Z5 rfl ?_; with_reducible first | refine ZT ?_ | refine ZF ?_) | refine ZS rfl ?_ | refine Z9 fun _ _ => ?_ | refine ZH ?_ | refine Zl ‹_› (by decide) ?_ | refine Zo rfl ?_ | refine Zp rfl ?_ | refine Zn rfl ?_ | fail
  refine call_pure rfl rfl (hB) ?_; simp only [↓reduceIte, reduceCtorEq, reduceEqDiff, reduceAdd, reduceMul, reduceSub, reduceLeDiff, reduceEq, reduceLT, reduceLE, go_sem]
  repeat' first | refine Z1 fun _ _ => ?_ | refine Z2 ‹_› ?_ | ((first | refine Z3 tb_ok lv58 rfl ?_ | refine Z4 tb_ok mix lv58 bs58 rfl (by kernel_rfl) rfl ?_ | refine Zr rfl ?_); simp only [↓reduceIte, reduceCtorEq, reduceEqDiff, reduceAdd, reduceMul, reduceSub, reduceLeDiff, reduceEq, reduceLT, reduceLE, go_sem]) | (refine Z5 rfl ?_; with_reducible first | refine ZT ?_ | refine ZF ?_) | refine ZS rfl ?_ | refine Z9 fun _ _ => ?_ | refine ZH ?_ | refine Zl ‹_› (by decide) ?_ | refine Zo rfl ?_ | refine Zp rfl ?_ | refine Zn rfl ?_ | fail
  refine call_row rfl rfl (hq2) ?_; simp only [↓reduceIte, reduceCtorEq, reduceEqDiff, reduceAdd, reduceMul, reduceSub, reduceLeDiff, reduceEq, reduceLT, reduceLE, go_sem]
  repeat' first | refine Z1 fun _ _ => ?_ | refine Z2 ‹_› ?_ | ((first | refine Z3 tb_ok lv58 rfl ?_ | refine Z4 tb_ok mix lv58 bs58 rfl (by kernel_rfl) rfl ?_ | refine Zr rfl ?_); simp only [↓reduceIte, reduceCtorEq, reduceEqDiff, reduceAdd, reduceMul, reduceSub, reduceLeDiff, reduceEq, reduceLT, reduceLE, go_sem]) | (refine Z5 rfl ?_; with_reducible first | refine ZT ?_ | refine ZF ?_) | refine ZS rfl ?_ | refine Z9 fun _ _ => ?_ | refine ZH ?_ | refine Zl ‹_› (by decide) ?_ | refine Zo rfl ?_ | refine Zp rfl ?_ | refine Zn rfl ?_ | fail
  have lW : (wrapV 5 1 B).length ≤ 2 := by rw [wrapV_len]; exact lB
  have lV : (wrapV 5 0 A).length ≤ 2 := by rw [wrapV_len]; exact lA
  have hob : ∀ u ∈ wrapV 5 0 A, u.bulk ≤ 1048577 := fun u hu => by
    obtain ⟨x, hx, rfl⟩ := List.mem_map.1 hu
    exact bA x hx
  have hMb : ∀ u ∈ wrapV 5 1 B, u.bulk ≤ 1048577 := fun u hu => by
    obtain ⟨x, hx, rfl⟩ := List.mem_map.1 hu
    exact bB x hx
  generalize hoe : wrapV 5 0 A = out at lV hob ⊢
  generalize hMe : wrapV 5 1 B = M at lW hMb ⊢
  refine .loopS (α := Nat) (fun q => ⟨[(7, .own 48), (109, .own 62), (110, .d (.int .i64 M.length)), (111, .d (.int .i64 q))], [(48, .row true 27 5 ((addsV out (M.take q)).map Vl.cells)), (62, .row true 27 5 (M.map Vl.cells))], 63⟩) (fun q => q ≤ M.length) (fun q => M.length - q) 0 (by omega) [] rfl (by simp only [↓reduceIte, reduceCtorEq, reduceEqDiff, reduceAdd, reduceMul, reduceSub, reduceLeDiff, reduceEq, reduceLT, reduceLE, go_sem]; simp [addsV]) ?_
  intro q hq Q3 hQ3
  repeat' first | refine Z1 fun _ _ => ?_ | refine Z2 ‹_› ?_ | ((first | refine Z3 tb_ok lv58 rfl ?_ | refine Z4 tb_ok mix lv58 bs58 rfl (by kernel_rfl) rfl ?_ | refine Zr rfl ?_); simp only [↓reduceIte, reduceCtorEq, reduceEqDiff, reduceAdd, reduceMul, reduceSub, reduceLeDiff, reduceEq, reduceLT, reduceLE, go_sem]) | (refine Z5 rfl ?_; with_reducible first | refine ZT ?_ | refine ZF ?_) | refine ZS rfl ?_ | refine Z9 fun _ _ => ?_ | refine ZH ?_ | refine Zl ‹_› (by decide) ?_ | refine Zo rfl ?_ | refine Zp rfl ?_ | refine Zn rfl ?_ | fail
  refine .cond rfl (fun g5 => ?_) (fun g5 => ?_)
  · simp only [decide_eq_true_eq] at g5
    have g5' : q < M.length := by omega
    repeat' first | refine Z1 fun _ _ => ?_ | refine Z2 ‹_› ?_ | ((first | refine Z3 tb_ok lv58 rfl ?_ | refine Z4 tb_ok mix lv58 bs58 rfl (by kernel_rfl) rfl ?_ | refine Zr rfl ?_); simp only [↓reduceIte, reduceCtorEq, reduceEqDiff, reduceAdd, reduceMul, reduceSub, reduceLeDiff, reduceEq, reduceLT, reduceLE, go_sem]) | (refine Z5 rfl ?_; with_reducible first | refine ZT ?_ | refine ZF ?_) | refine ZS rfl ?_ | refine Z9 fun _ _ => ?_ | refine ZH ?_ | refine Zl ‹_› (by decide) ?_ | refine Zo rfl ?_ | refine Zp rfl ?_ | refine Zn rfl ?_ | fail
    refine idx_own (j := q) rfl rfl rfl rfl rfl rfl (by omega) (by rw [List.length_map]; omega) ?_
    simp only [↓reduceIte, reduceCtorEq, reduceEqDiff, reduceAdd, reduceMul, reduceSub, reduceLeDiff, reduceEq, reduceLT, reduceLE, go_sem]
    repeat' first | refine Z1 fun _ _ => ?_ | refine Z2 ‹_› ?_ | ((first | refine Z3 tb_ok lv58 rfl ?_ | refine Z4 tb_ok mix lv58 bs58 rfl (by kernel_rfl) rfl ?_ | refine Zr rfl ?_); simp only [↓reduceIte, reduceCtorEq, reduceEqDiff, reduceAdd, reduceMul, reduceSub, reduceLeDiff, reduceEq, reduceLT, reduceLE, go_sem]) | (refine Z5 rfl ?_; with_reducible first | refine ZT ?_ | refine ZF ?_) | refine ZS rfl ?_ | refine Z9 fun _ _ => ?_ | refine ZH ?_ | refine Zl ‹_› (by decide) ?_ | refine Zo rfl ?_ | refine Zp rfl ?_ | refine Zn rfl ?_ | fail
    refine ⟨_, at_map Vl.z g5', ?_⟩
    simp only [↓reduceIte, reduceCtorEq, reduceEqDiff, reduceAdd, reduceMul, reduceSub, reduceLeDiff, reduceEq, reduceLT, reduceLE, go_sem]
    repeat' first | refine Z1 fun _ _ => ?_ | refine Z2 ‹_› ?_ | ((first | refine Z3 tb_ok lv58 rfl ?_ | refine Z4 tb_ok mix lv58 bs58 rfl (by kernel_rfl) rfl ?_ | refine Zr rfl ?_); simp only [↓reduceIte, reduceCtorEq, reduceEqDiff, reduceAdd, reduceMul, reduceSub, reduceLeDiff, reduceEq, reduceLT, reduceLE, go_sem]) | (refine Z5 rfl ?_; with_reducible first | refine ZT ?_ | refine ZF ?_) | refine ZS rfl ?_ | refine Z9 fun _ _ => ?_ | refine ZH ?_ | refine Zl ‹_› (by decide) ?_ | refine Zo rfl ?_ | refine Zp rfl ?_ | refine Zn rfl ?_ | fail
    have hcur : (addsV out (M.take q)).length ≤ 2 := addsV_len (by omega)
    have hbk : ∀ u ∈ addsV out (M.take q), u.bulk ≤ 1048577 := fun u hu => by
      rcases addsV_mem hu with hu | hu
      · exact hob u hu
      · exact hMb u (List.mem_of_mem_take hu)
    have hca := c_add (gl := gl) (v := M.getD q Vl.z) hcur hbk
    simp only [val, Vl.cells_eq] at hca
    rw [show addV (addsV out (M.take q)) (M.getD q Vl.z) = addsV out (M.take (q + 1)) by rw [take_getD Vl.z g5', addsV_app]; rfl] at hca
    refine call_step rfl rfl (st_callA1 rfl rfl rfl rfl rfl (hca)) ?_; simp only [↓reduceIte, reduceCtorEq, reduceEqDiff, reduceAdd, reduceMul, reduceSub, reduceLeDiff, reduceEq, reduceLT, reduceLE, go_sem]
    repeat' first | refine Z1 fun _ _ => ?_ | refine Z2 ‹_› ?_ | ((first | refine Z3 tb_ok lv58 rfl ?_ | refine Z4 tb_ok mix lv58 bs58 rfl (by kernel_rfl) rfl ?_ | refine Zr rfl ?_); simp only [↓reduceIte, reduceCtorEq, reduceEqDiff, reduceAdd, reduceMul, reduceSub, reduceLeDiff, reduceEq, reduceLT, reduceLE, go_sem]) | (refine Z5 rfl ?_; with_reducible first | refine ZT ?_ | refine ZF ?_) | refine ZS rfl ?_ | refine Z9 fun _ _ => ?_ | refine ZH ?_ | refine Zl ‹_› (by decide) ?_ | refine Zo rfl ?_ | refine Zp rfl ?_ | refine Zn rfl ?_ | fail
    rw [wrap64 (by omega) (by omega)]
    exact hQ3.next (q + 1) [(70, 48)] (by omega) (by omega) rfl (by simp only [↓reduceIte, reduceCtorEq, reduceEqDiff, reduceAdd, reduceMul, reduceSub, reduceLeDiff, reduceEq, reduceLT, reduceLE, go_sem]; try simp)
  · simp only [decide_eq_false_iff_not] at g5
    have g5' : q = M.length := by omega
    repeat' first | refine Z1 fun _ _ => ?_ | refine Z2 ‹_› ?_ | ((first | refine Z3 tb_ok lv58 rfl ?_ | refine Z4 tb_ok mix lv58 bs58 rfl (by kernel_rfl) rfl ?_ | refine Zr rfl ?_); simp only [↓reduceIte, reduceCtorEq, reduceEqDiff, reduceAdd, reduceMul, reduceSub, reduceLeDiff, reduceEq, reduceLT, reduceLE, go_sem]) | (refine Z5 rfl ?_; with_reducible first | refine ZT ?_ | refine ZF ?_) | refine ZS rfl ?_ | refine Z9 fun _ _ => ?_ | refine ZH ?_ | refine Zl ‹_› (by decide) ?_ | refine Zo rfl ?_ | refine Zp rfl ?_ | refine Zn rfl ?_ | fail
    rw [g5', List.take_length, hoe, hMe]
    exact rfl
set_option maxHeartbeats 4000000 in
theorem find_frame {gl} {l : List Nd} {w : List UInt8} {m i a to : Nat} {lo hi : Int} {ia : Nat} {R : List Vl} (hl : l.length ≤ 1048576) (hi' : i < l.length) (hr : l.getD i Nd.z = ⟨8, (ia : Int), 0, 0, 0, 0, 0, 0, 0, .empty⟩) (hat : a ≤ to) (hto : to ≤ w.length) (hw : w.length ≤ 1000) (hia : ia < l.length) (lR : R.length ≤ 2) (hA : a + 1 ≤ to → Asks gl l w m ia (a + 1) to R) :
    PCon Try.prog gl 58 [rdr l w m, keyD [(i : Int), lo, hi, (a : Int), (to : Int)]] (vals (if to - a < 1 ∨ told ((part' w a to).take 1) ≠ to - a - 1 then [] else wrapV 8 0 R)) := by
  refine PCon.enter tb_ok (fn := Try.f58) (by kernel_rfl) (by kernel_rfl) rfl (by show 2 ≤ 139; decide) ?_
  simp only [rdr, keyD, List.map_cons, List.map_nil]
  repeat' first | refine Z1 fun _ _ => ?_ | refine Z2 ‹_› ?_ | ((first | refine Z3 tb_ok lv58 rfl ?_ | refine Z4 tb_ok mix lv58 bs58 rfl (by kernel_rfl) rfl ?_ | refine Zr rfl ?_); simp only [↓reduceIte, reduceCtorEq, reduceEqDiff, reduceAdd, reduceMul, reduceSub, reduceLeDiff, reduceEq, reduceLT, reduceLE, go_sem]) | (refine Z5 rfl ?_; with_reducible first | refine ZT ?_ | refine ZF ?_) | refine ZS rfl ?_ | refine Z9 fun _ _ => ?_ | refine ZH ?_ | refine Zl ‹_› (by decide) ?_ | refine Zo rfl ?_ | refine Zp rfl ?_ | refine Zn rfl ?_ | fail
  refine @idx_map _ _ _ l Nd.cells _ _ i _ _ .i64 (i : Int) _ _ _ Nd.z rfl rfl rfl rfl rfl ?_ ?_ ?_ ?_
  · omega
  · omega
  · rfl
  rw [hr]
  refine ⟨trivial, ?_⟩
  simp only [↓reduceIte, reduceCtorEq, reduceEqDiff, reduceAdd, reduceMul, reduceSub, reduceLeDiff, reduceEq, reduceLT, reduceLE, go_sem]
  repeat' first | refine Z1 fun _ _ => ?_ | refine Z2 ‹_› ?_ | ((first | refine Z3 tb_ok lv58 rfl ?_ | refine Z4 tb_ok mix lv58 bs58 rfl (by kernel_rfl) rfl ?_ | refine Zr rfl ?_); simp only [↓reduceIte, reduceCtorEq, reduceEqDiff, reduceAdd, reduceMul, reduceSub, reduceLeDiff, reduceEq, reduceLT, reduceLE, go_sem]) | (refine Z5 rfl ?_; with_reducible first | refine ZT ?_ | refine ZF ?_) | refine ZS rfl ?_ | refine Z9 fun _ _ => ?_ | refine ZH ?_ | refine Zl ‹_› (by decide) ?_ | refine Zo rfl ?_ | refine Zp rfl ?_ | refine Zn rfl ?_ | fail
  refine ⟨fun e he => by obtain ⟨b, _, rfl⟩ := List.mem_map.1 he; rfl, by omega, by omega, by omega, ?_⟩
  rw [cut_part]
  repeat' first | refine Z1 fun _ _ => ?_ | refine Z2 ‹_› ?_ | ((first | refine Z3 tb_ok lv58 rfl ?_ | refine Z4 tb_ok mix lv58 bs58 rfl (by kernel_rfl) rfl ?_ | refine Zr rfl ?_); simp only [↓reduceIte, reduceCtorEq, reduceEqDiff, reduceAdd, reduceMul, reduceSub, reduceLeDiff, reduceEq, reduceLT, reduceLE, go_sem]) | (refine Z5 rfl ?_; with_reducible first | refine ZT ?_ | refine ZF ?_) | refine ZS rfl ?_ | refine Z9 fun _ _ => ?_ | refine ZH ?_ | refine Zl ‹_› (by decide) ?_ | refine Zo rfl ?_ | refine Zp rfl ?_ | refine Zn rfl ?_ | fail
  have hc := (c_cframe (gl := gl) (hd := 1) (k0 := i) (k1 := lo) (k2 := hi) (n := ⟨8, (ia : Int), 0, 0, 0, 0, 0, 0, 0, .empty⟩) hl hia rfl hat hto hw (by decide) hA lR).toP
  simp only [rdr, keyD, List.map_cons, List.map_nil, Nd.cells] at hc
  refine call_pure rfl rfl (hc) ?_; simp only [↓reduceIte, reduceCtorEq, reduceEqDiff, reduceAdd, reduceMul, reduceSub, reduceLeDiff, reduceEq, reduceLT, reduceLE, go_sem]
  repeat' first | refine Z1 fun _ _ => ?_ | refine Z2 ‹_› ?_ | ((first | refine Z3 tb_ok lv58 rfl ?_ | refine Z4 tb_ok mix lv58 bs58 rfl (by kernel_rfl) rfl ?_ | refine Zr rfl ?_); simp only [↓reduceIte, reduceCtorEq, reduceEqDiff, reduceAdd, reduceMul, reduceSub, reduceLeDiff, reduceEq, reduceLT, reduceLE, go_sem]) | (refine Z5 rfl ?_; with_reducible first | refine ZT ?_ | refine ZF ?_) | refine ZS rfl ?_ | refine Z9 fun _ _ => ?_ | refine ZH ?_ | refine Zl ‹_› (by decide) ?_ | refine Zo rfl ?_ | refine Zp rfl ?_ | refine Zn rfl ?_ | fail
set_option maxHeartbeats 4000000 in
theorem find_wide {gl} {l : List Nd} {w : List UInt8} {m i a to : Nat} {lo hi : Int} {ia : Nat} {R : List Vl} (hl : l.length ≤ 1048576) (hi' : i < l.length) (hr : l.getD i Nd.z = ⟨9, (ia : Int), 0, 0, 0, 0, 0, 0, 0, .empty⟩) (hat : a ≤ to) (hto : to ≤ w.length) (hw : w.length ≤ 1000) (hia : ia < l.length) (lR : R.length ≤ 2) (hA : a + 2 ≤ to → Asks gl l w m ia (a + 2) to R) :
    PCon Try.prog gl 58 [rdr l w m, keyD [(i : Int), lo, hi, (a : Int), (to : Int)]] (vals (if to - a < 2 ∨ told ((part' w a to).take 2) ≠ to - a - 2 then [] else wrapV 9 0 R)) := by
  refine PCon.enter tb_ok (fn := Try.f58) (by kernel_rfl) (by kernel_rfl) rfl (by show 2 ≤ 139; decide) ?_
  simp only [rdr, keyD, List.map_cons, List.map_nil]
  repeat' first | refine Z1 fun _ _ => ?_ | refine Z2 ‹_› ?_ | ((first | refine Z3 tb_ok lv58 rfl ?_ | refine Z4 tb_ok mix lv58 bs58 rfl (by kernel_rfl) rfl ?_ | refine Zr rfl ?_); simp only [↓reduceIte, reduceCtorEq, reduceEqDiff, reduceAdd, reduceMul, reduceSub, reduceLeDiff, reduceEq, reduceLT, reduceLE, go_sem]) | (refine Z5 rfl ?_; with_reducible first | refine ZT ?_ | refine ZF ?_) | refine ZS rfl ?_ | refine Z9 fun _ _ => ?_ | refine ZH ?_ | refine Zl ‹_› (by decide) ?_ | refine Zo rfl ?_ | refine Zp rfl ?_ | refine Zn rfl ?_ | fail
  refine @idx_map _ _ _ l Nd.cells _ _ i _ _ .i64 (i : Int) _ _ _ Nd.z rfl rfl rfl rfl rfl ?_ ?_ ?_ ?_
  · omega
  · omega
  · rfl
  rw [hr]
  refine ⟨trivial, ?_⟩
  simp only [↓reduceIte, reduceCtorEq, reduceEqDiff, reduceAdd, reduceMul, reduceSub, reduceLeDiff, reduceEq, reduceLT, reduceLE, go_sem]
  repeat' first | refine Z1 fun _ _ => ?_ | refine Z2 ‹_› ?_ | ((first | refine Z3 tb_ok lv58 rfl ?_ | refine Z4 tb_ok mix lv58 bs58 rfl (by kernel_rfl) rfl ?_ | refine Zr rfl ?_); simp only [↓reduceIte, reduceCtorEq, reduceEqDiff, reduceAdd, reduceMul, reduceSub, reduceLeDiff, reduceEq, reduceLT, reduceLE, go_sem]) | (refine Z5 rfl ?_; with_reducible first | refine ZT ?_ | refine ZF ?_) | refine ZS rfl ?_ | refine Z9 fun _ _ => ?_ | refine ZH ?_ | refine Zl ‹_› (by decide) ?_ | refine Zo rfl ?_ | refine Zp rfl ?_ | refine Zn rfl ?_ | fail
  refine ⟨fun e he => by obtain ⟨b, _, rfl⟩ := List.mem_map.1 he; rfl, by omega, by omega, by omega, ?_⟩
  rw [cut_part]
  repeat' first | refine Z1 fun _ _ => ?_ | refine Z2 ‹_› ?_ | ((first | refine Z3 tb_ok lv58 rfl ?_ | refine Z4 tb_ok mix lv58 bs58 rfl (by kernel_rfl) rfl ?_ | refine Zr rfl ?_); simp only [↓reduceIte, reduceCtorEq, reduceEqDiff, reduceAdd, reduceMul, reduceSub, reduceLeDiff, reduceEq, reduceLT, reduceLE, go_sem]) | (refine Z5 rfl ?_; with_reducible first | refine ZT ?_ | refine ZF ?_) | refine ZS rfl ?_ | refine Z9 fun _ _ => ?_ | refine ZH ?_ | refine Zl ‹_› (by decide) ?_ | refine Zo rfl ?_ | refine Zp rfl ?_ | refine Zn rfl ?_ | fail
  have hc := (c_cframe (gl := gl) (hd := 2) (k0 := i) (k1 := lo) (k2 := hi) (n := ⟨9, (ia : Int), 0, 0, 0, 0, 0, 0, 0, .empty⟩) hl hia rfl hat hto hw (by decide) hA lR).toP
  simp only [rdr, keyD, List.map_cons, List.map_nil, Nd.cells] at hc
  refine call_pure rfl rfl (hc) ?_; simp only [↓reduceIte, reduceCtorEq, reduceEqDiff, reduceAdd, reduceMul, reduceSub, reduceLeDiff, reduceEq, reduceLT, reduceLE, go_sem]
  repeat' first | refine Z1 fun _ _ => ?_ | refine Z2 ‹_› ?_ | ((first | refine Z3 tb_ok lv58 rfl ?_ | refine Z4 tb_ok mix lv58 bs58 rfl (by kernel_rfl) rfl ?_ | refine Zr rfl ?_); simp only [↓reduceIte, reduceCtorEq, reduceEqDiff, reduceAdd, reduceMul, reduceSub, reduceLeDiff, reduceEq, reduceLT, reduceLE, go_sem]) | (refine Z5 rfl ?_; with_reducible first | refine ZT ?_ | refine ZF ?_) | refine ZS rfl ?_ | refine Z9 fun _ _ => ?_ | refine ZH ?_ | refine Zl ‹_› (by decide) ?_ | refine Zo rfl ?_ | refine Zp rfl ?_ | refine Zn rfl ?_ | fail
set_option maxHeartbeats 4000000 in
theorem find_star {gl} {l : List Nd} {w : List UInt8} {m i a to : Nat} {lo hi : Int} {ia : Nat} {nlo nhi : Int} {A B : Nat → List Vl} (hl : l.length ≤ 1048576) (hi' : i < l.length) (hr : l.getD i Nd.z = ⟨6, (ia : Int), 0, nlo, nhi, 0, 0, 0, 0, .empty⟩) (hat : a ≤ to) (hto : to ≤ w.length) (hw : w.length ≤ 1000) (hia : ia < l.length) (hlo : 0 ≤ lo ∧ lo ≤ 255) (hhi : 0 ≤ hi ∧ hi ≤ 255) (hA : ∀ mid, a < mid → mid ≤ to → Asks gl l w m ia a mid (A mid)) (hB : ∀ mid : Nat, a < mid → mid ≤ to → PCon Try.prog gl 45 [rdr l w m, keyD [(i : Int), max (lo - 1) 0, max (hi - 1) 0, (mid : Int), (to : Int)]] (vals (B mid)))
    (lA : ∀ mid, (A mid).length ≤ 2) (lB : ∀ mid, (B mid).length ≤ 2) (bB : ∀ mid y, a < mid → mid ≤ to → y ∈ B mid → y.kids.length ≤ 1048577) (bJ : ∀ mid x y, a < mid → mid ≤ to → x ∈ A mid → y ∈ B mid → (Vl.mk 6 0 .empty 0 (x :: y.kids)).bulk ≤ 1048577) :
    PCon Try.prog gl 58 [rdr l w m, keyD [(i : Int), lo, hi, (a : Int), (to : Int)]] (vals (if (6 : Int) = 7 ∧ hi = 0 then many0 6 lo (decide (a = to)) else addsV (many0 6 lo (decide (a = to))) (addsV [] (allL A B (fun x y => .mk 6 0 .empty 0 (x :: y.kids)) (a + 1) (to - a))))) := by
  refine PCon.enter tb_ok (fn := Try.f58) (by kernel_rfl) (by kernel_rfl) rfl (by show 2 ≤ 139; decide) ?_
  simp only [rdr, keyD, List.map_cons, List.map_nil]
  repeat' first | refine Z1 fun _ _ => ?_ | refine Z2 ‹_› ?_ | ((first | refine Z3 tb_ok lv58 rfl ?_ | refine Z4 tb_ok mix lv58 bs58 rfl (by kernel_rfl) rfl ?_ | refine Zr rfl ?_); simp only [↓reduceIte, reduceCtorEq, reduceEqDiff, reduceAdd, reduceMul, reduceSub, reduceLeDiff, reduceEq, reduceLT, reduceLE, go_sem]) | (refine Z5 rfl ?_; with_reducible first | refine ZT ?_ | refine ZF ?_) | refine ZS rfl ?_ | refine Z9 fun _ _ => ?_ | refine ZH ?_ | refine Zl ‹_› (by decide) ?_ | refine Zo rfl ?_ | refine Zp rfl ?_ | refine Zn rfl ?_ | fail
  refine @idx_map _ _ _ l Nd.cells _ _ i _ _ .i64 (i : Int) _ _ _ Nd.z rfl rfl rfl rfl rfl ?_ ?_ ?_ ?_
  · omega
  · omega
  · rfl
  rw [hr]
  refine ⟨trivial, ?_⟩
  simp only [↓reduceIte, reduceCtorEq, reduceEqDiff, reduceAdd, reduceMul, reduceSub, reduceLeDiff, reduceEq, reduceLT, reduceLE, go_sem]
  repeat' first | refine Z1 fun _ _ => ?_ | refine Z2 ‹_› ?_ | ((first | refine Z3 tb_ok lv58 rfl ?_ | refine Z4 tb_ok mix lv58 bs58 rfl (by kernel_rfl) rfl ?_ | refine Zr rfl ?_); simp only [↓reduceIte, reduceCtorEq, reduceEqDiff, reduceAdd, reduceMul, reduceSub, reduceLeDiff, reduceEq, reduceLT, reduceLE, go_sem]) | (refine Z5 rfl ?_; with_reducible first | refine ZT ?_ | refine ZF ?_) | refine ZS rfl ?_ | refine Z9 fun _ _ => ?_ | refine ZH ?_ | refine Zl ‹_› (by decide) ?_ | refine Zo rfl ?_ | refine Zp rfl ?_ | refine Zn rfl ?_ | fail
  refine ⟨fun e he => by obtain ⟨b, _, rfl⟩ := List.mem_map.1 he; rfl, by omega, by omega, by omega, ?_⟩
  rw [cut_part]
  repeat' first | refine Z1 fun _ _ => ?_ | refine Z2 ‹_› ?_ | ((first | refine Z3 tb_ok lv58 rfl ?_ | refine Z4 tb_ok mix lv58 bs58 rfl (by kernel_rfl) rfl ?_ | refine Zr rfl ?_); simp only [↓reduceIte, reduceCtorEq, reduceEqDiff, reduceAdd, reduceMul, reduceSub, reduceLeDiff, reduceEq, reduceLT, reduceLE, go_sem]) | (refine Z5 rfl ?_; with_reducible first | refine ZT ?_ | refine ZF ?_) | refine ZS rfl ?_ | refine Z9 fun _ _ => ?_ | refine ZH ?_ | refine Zl ‹_› (by decide) ?_ | refine Zo rfl ?_ | refine Zp rfl ?_ | refine Zn rfl ?_ | fail
  have hc := c_cmany (gl := gl) (k0 := i) (n := ⟨6, (ia : Int), 0, nlo, nhi, 0, 0, 0, 0, .empty⟩) hl hia rfl hlo hhi hat (by omega) hA hB lA lB bB bJ
  simp only [rdr, keyD, List.map_cons, List.map_nil, Nd.cells] at hc
  refine call_pure rfl rfl (hc) ?_; simp only [↓reduceIte, reduceCtorEq, reduceEqDiff, reduceAdd, reduceMul, reduceSub, reduceLeDiff, reduceEq, reduceLT, reduceLE, go_sem]
  repeat' first | refine Z1 fun _ _ => ?_ | refine Z2 ‹_› ?_ | ((first | refine Z3 tb_ok lv58 rfl ?_ | refine Z4 tb_ok mix lv58 bs58 rfl (by kernel_rfl) rfl ?_ | refine Zr rfl ?_); simp only [↓reduceIte, reduceCtorEq, reduceEqDiff, reduceAdd, reduceMul, reduceSub, reduceLeDiff, reduceEq, reduceLT, reduceLE, go_sem]) | (refine Z5 rfl ?_; with_reducible first | refine ZT ?_ | refine ZF ?_) | refine ZS rfl ?_ | refine Z9 fun _ _ => ?_ | refine ZH ?_ | refine Zl ‹_› (by decide) ?_ | refine Zo rfl ?_ | refine Zp rfl ?_ | refine Zn rfl ?_ | fail
set_option maxHeartbeats 4000000 in
theorem find_rep {gl} {l : List Nd} {w : List UInt8} {m i a to : Nat} {lo hi : Int} {ia : Nat} {nlo nhi : Int} {A B : Nat → List Vl} (hl : l.length ≤ 1048576) (hi' : i < l.length) (hr : l.getD i Nd.z = ⟨7, (ia : Int), 0, nlo, nhi, 0, 0, 0, 0, .empty⟩) (hat : a ≤ to) (hto : to ≤ w.length) (hw : w.length ≤ 1000) (hia : ia < l.length) (hlo : 0 ≤ lo ∧ lo ≤ 255) (hhi : 0 ≤ hi ∧ hi ≤ 255) (hA : ∀ mid, a < mid → mid ≤ to → Asks gl l w m ia a mid (A mid)) (hB : ∀ mid : Nat, a < mid → mid ≤ to → PCon Try.prog gl 45 [rdr l w m, keyD [(i : Int), max (lo - 1) 0, max (hi - 1) 0, (mid : Int), (to : Int)]] (vals (B mid)))
    (lA : ∀ mid, (A mid).length ≤ 2) (lB : ∀ mid, (B mid).length ≤ 2) (bB : ∀ mid y, a < mid → mid ≤ to → y ∈ B mid → y.kids.length ≤ 1048577) (bJ : ∀ mid x y, a < mid → mid ≤ to → x ∈ A mid → y ∈ B mid → (Vl.mk 7 0 .empty 0 (x :: y.kids)).bulk ≤ 1048577) :
    PCon Try.prog gl 58 [rdr l w m, keyD [(i : Int), lo, hi, (a : Int), (to : Int)]] (vals (if (7 : Int) = 7 ∧ hi = 0 then many0 7 lo (decide (a = to)) else addsV (many0 7 lo (decide (a = to))) (addsV [] (allL A B (fun x y => .mk 7 0 .empty 0 (x :: y.kids)) (a + 1) (to - a))))) := by
  refine PCon.enter tb_ok (fn := Try.f58) (by kernel_rfl) (by kernel_rfl) rfl (by show 2 ≤ 139; decide) ?_
  simp only [rdr, keyD, List.map_cons, List.map_nil]
  repeat' first | refine Z1 fun _ _ => ?_ | refine Z2 ‹_› ?_ | ((first | refine Z3 tb_ok lv58 rfl ?_ | refine Z4 tb_ok mix lv58 bs58 rfl (by kernel_rfl) rfl ?_ | refine Zr rfl ?_); simp only [↓reduceIte, reduceCtorEq, reduceEqDiff, reduceAdd, reduceMul, reduceSub, reduceLeDiff, reduceEq, reduceLT, reduceLE, go_sem]) | (refine Z5 rfl ?_; with_reducible first | refine ZT ?_ | refine ZF ?_) | refine ZS rfl ?_ | refine Z9 fun _ _ => ?_ | refine ZH ?_ | refine Zl ‹_› (by decide) ?_ | refine Zo rfl ?_ | refine Zp rfl ?_ | refine Zn rfl ?_ | fail
  refine @idx_map _ _ _ l Nd.cells _ _ i _ _ .i64 (i : Int) _ _ _ Nd.z rfl rfl rfl rfl rfl ?_ ?_ ?_ ?_
  · omega
  · omega
  · rfl
  rw [hr]
  refine ⟨trivial, ?_⟩
  simp only [↓reduceIte, reduceCtorEq, reduceEqDiff, reduceAdd, reduceMul, reduceSub, reduceLeDiff, reduceEq, reduceLT, reduceLE, go_sem]
  repeat' first | refine Z1 fun _ _ => ?_ | refine Z2 ‹_› ?_ | ((first | refine Z3 tb_ok lv58 rfl ?_ | refine Z4 tb_ok mix lv58 bs58 rfl (by kernel_rfl) rfl ?_ | refine Zr rfl ?_); simp only [↓reduceIte, reduceCtorEq, reduceEqDiff, reduceAdd, reduceMul, reduceSub, reduceLeDiff, reduceEq, reduceLT, reduceLE, go_sem]) | (refine Z5 rfl ?_; with_reducible first | refine ZT ?_ | refine ZF ?_) | refine ZS rfl ?_ | refine Z9 fun _ _ => ?_ | refine ZH ?_ | refine Zl ‹_› (by decide) ?_ | refine Zo rfl ?_ | refine Zp rfl ?_ | refine Zn rfl ?_ | fail
  refine ⟨fun e he => by obtain ⟨b, _, rfl⟩ := List.mem_map.1 he; rfl, by omega, by omega, by omega, ?_⟩
  rw [cut_part]
  repeat' first | refine Z1 fun _ _ => ?_ | refine Z2 ‹_› ?_ | ((first | refine Z3 tb_ok lv58 rfl ?_ | refine Z4 tb_ok mix lv58 bs58 rfl (by kernel_rfl) rfl ?_ | refine Zr rfl ?_); simp only [↓reduceIte, reduceCtorEq, reduceEqDiff, reduceAdd, reduceMul, reduceSub, reduceLeDiff, reduceEq, reduceLT, reduceLE, go_sem]) | (refine Z5 rfl ?_; with_reducible first | refine ZT ?_ | refine ZF ?_) | refine ZS rfl ?_ | refine Z9 fun _ _ => ?_ | refine ZH ?_ | refine Zl ‹_› (by decide) ?_ | refine Zo rfl ?_ | refine Zp rfl ?_ | refine Zn rfl ?_ | fail
  have hc := c_cmany (gl := gl) (k0 := i) (n := ⟨7, (ia : Int), 0, nlo, nhi, 0, 0, 0, 0, .empty⟩) hl hia rfl hlo hhi hat (by omega) hA hB lA lB bB bJ
  simp only [rdr, keyD, List.map_cons, List.map_nil, Nd.cells] at hc
  refine call_pure rfl rfl (hc) ?_; simp only [↓reduceIte, reduceCtorEq, reduceEqDiff, reduceAdd, reduceMul, reduceSub, reduceLeDiff, reduceEq, reduceLT, reduceLE, go_sem]
  repeat' first | refine Z1 fun _ _ => ?_ | refine Z2 ‹_› ?_ | ((first | refine Z3 tb_ok lv58 rfl ?_ | refine Z4 tb_ok mix lv58 bs58 rfl (by kernel_rfl) rfl ?_ | refine Zr rfl ?_); simp only [↓reduceIte, reduceCtorEq, reduceEqDiff, reduceAdd, reduceMul, reduceSub, reduceLeDiff, reduceEq, reduceLT, reduceLE, go_sem]) | (refine Z5 rfl ?_; with_reducible first | refine ZT ?_ | refine ZF ?_) | refine ZS rfl ?_ | refine Z9 fun _ _ => ?_ | refine ZH ?_ | refine Zl ‹_› (by decide) ?_ | refine Zo rfl ?_ | refine Zp rfl ?_ | refine Zn rfl ?_ | fail
end Go.Proofs.Ytpibdbjlilpfiaa
