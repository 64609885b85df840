/- count: frame. -/
import Derived.Test.YtpibdbjlilpfiaaCntE
namespace Go.Proofs.Ytpibdbjlilpfiaa
set_option linter.all false
open Go Go.RowKit
open Nat (reduceEqDiff reduceAdd reduceMul reduceSub reduceLeDiff)
open Int (reduceEq reduceLT reduceLE)

theorem or8 {x b : Nat} (hx : x ≤ 65535) (hb : b < 256) : IntKind.i64.wrap ((BitVec.ofInt 64 (IntKind.i64.wrap ((x : Int) * 2 ^ min (Int.toNat 8) 64)) ||| BitVec.ofInt 64 (IntKind.i64.wrap (b : Int))).toNat : Int) = ((x * 256 + b : Nat) : Int) := by
  have h8 : min (Int.toNat 8) 64 = 8 := by decide
  have e1 : ((x : Int) * 2 ^ 8) = ((x * 256 : Nat) : Int) := by omega
  rw [h8, e1, wrap64 (z := ((x * 256 : Nat) : Int)) (by omega) (by omega), wrap64 (z := (b : Int)) (by omega) (by omega)]
  rw [BitVec.ofInt_natCast, BitVec.ofInt_natCast, BitVec.toNat_or, BitVec.toNat_ofNat, BitVec.toNat_ofNat, Nat.mod_eq_of_lt (by omega), Nat.mod_eq_of_lt (by omega)]
  have e2 := Nat.shiftLeft_add_eq_or_of_lt (b := b) (i := 8) (by omega) x
  rw [Nat.shiftLeft_eq] at e2
  rw [show x * 256 = x * 2 ^ 8 from rfl, ← e2]
  exact wrap64 (by omega) (by omega)
theorem told_snoc {p : List UInt8} {b : UInt8} : told (p ++ [b]) = told p * 256 + b.toNat := by
  unfold told
  rw [List.foldl_append]
  rfl
theorem told_bd {p : List UInt8} (h : p.length ≤ 1) : told p ≤ 255 := by
  match p, h with
  | [], _ => simp [told]
  | [b], _ => have := b.toNat_lt; simp [told]; omega
theorem part_len {w : List UInt8} {a b : Nat} (h : b ≤ w.length) : (part' w a b).length = b - a := by
  unfold part'
  rw [List.length_take, List.length_drop]
  omega
theorem part_get {w : List UInt8} {a b j : Nat} (h : a + j < b) (hb : b ≤ w.length) : (part' w a b).getD j 0 = w.getD (a + j) 0 := by
  unfold part'
  rw [List.getD_eq_getElem?_getD, List.getD_eq_getElem?_getD, List.getElem?_take_of_lt (by omega), List.getElem?_drop]
@[go_sem] def lv70 : List (Nat × List Nat) := [(0, [0, 3, 5, 6]), (1, [0, 3, 5, 6, 9]), (2, [0, 3, 5, 6, 9, 10]), (3, [0, 3, 5, 6, 9, 10, 11]), (4, [0, 3, 5, 6, 9, 10, 11, 29]), (5, [0, 3, 5, 6, 9, 10, 11]), (6, [0, 3, 5, 6, 9, 10, 11]), (7, [0, 3, 5, 6, 49]), (8, [8]), (9, [8])]
def bs70 : List (Nat × List Nat × List Nat) := [(9, [0, 1, 0, 0, 0, 16, 0, 64, 0, 448, 0, 1024, 4088, 8188, 16383, 32767], [14])]
set_option maxHeartbeats 4000000 in
theorem c_cframe {gl} {l : List Nd} {w : List UInt8} {m i a to hd : Nat} {n : Nd} {k0 k1 k2 : Int} {R : List Vl} (hl : l.length ≤ 1048576) (hi' : i < l.length) (hn : n.a = (i : Int)) (hat : a ≤ to) (hto : to ≤ w.length) (hw : w.length ≤ 1000) (hhd : hd = 1 ∨ hd = 2)
    (hv : a + hd ≤ to → Asks gl l w m i (a + hd) to R) (lR : R.length ≤ 2) :
    PConR Try.prog gl 70 [rdr l w m, keyD [k0, k1, k2, a, to], .agg n.cells, .int .i64 hd] 27 5 ((if to - a < hd ∨ told ((part' w a to).take hd) ≠ to - a - hd then [] else wrapV n.kind 0 R).map Vl.cells) := by
  refine PConR.enter (fn := Try.f70) (by kernel_rfl) (by kernel_rfl) rfl (by show 4 ≤ 65; decide) ?_
  simp only [rdr, keyD, List.map_cons, List.map_nil, Nd.cells]
  repeat' first | refine Z1 fun _ _ => ?_ | refine Z2 ‹_› ?_ | ((first | refine Z3 tb_ok lv70 rfl ?_ | refine Z4 tb_ok mix lv70 bs70 rfl (by kernel_rfl) rfl ?_ | refine Zr rfl ?_); simp only [↓reduceIte, reduceCtorEq, reduceEqDiff, reduceAdd, reduceMul, reduceSub, reduceLeDiff, reduceEq, reduceLT, reduceLE, go_sem]) | (refine Z5 rfl ?_; with_reducible first | refine ZT ?_ | refine ZF ?_) | refine ZS rfl ?_ | refine Z9 fun _ _ => ?_ | refine ZH ?_ | refine Zl ‹_› (by decide) ?_ | refine Zo rfl ?_ | refine Zp rfl ?_ | refine Zn rfl ?_ | fail
  rw [wrap64 (z := (to : Int) - a) (by omega) (by omega), wrap64 (by omega) (by omega)]
  refine .loopC (α := Nat) (fun j => ⟨[(0, .d (.addr [.slice (l.map Nd.cells), .slice (w.map encB), .mapv m])), (3, .d (.int .i64 hd)), (5, .ref 0 0), (6, .ref 1 0), (9, .d (.int .i64 ((to : Int) - a - hd))), (10, .d (.int .i64 (told ((part' w a to).take j)))), (11, .d (.int .i64 ((a + j : Nat) : Int)))], [(1, .box true [.d (.int .i64 n.kind), .d (.int .i64 n.a), .d (.int .i64 n.b), .d (.int .i64 n.lo), .d (.int .i64 n.hi), .d (.int .u64 n.c0), .d (.int .u64 n.c1), .d (.int .u64 n.c2), .d (.int .u64 n.c3), .d (.str n.text)]), (0, .box true [.d (.int .i64 k0), .d (.int .i64 k1), .d (.int .i64 k2), .d (.int .i64 a), .d (.int .i64 to)])], 6⟩) (fun j => j ≤ hd ∧ a + j ≤ to) (fun j => to - (a + j)) 0 (by omega) (by simp only [↓reduceIte, reduceCtorEq, reduceEqDiff, reduceAdd, reduceMul, reduceSub, reduceLeDiff, reduceEq, reduceLT, reduceLE, go_sem]; simp [told]) ?_
  rintro j ⟨hj, hj'⟩ Q hQ
  repeat' first | refine Z1 fun _ _ => ?_ | refine Z2 ‹_› ?_ | ((first | refine Z3 tb_ok lv70 rfl ?_ | refine Z4 tb_ok mix lv70 bs70 rfl (by kernel_rfl) rfl ?_ | refine Zr rfl ?_); simp only [↓reduceIte, reduceCtorEq, reduceEqDiff, reduceAdd, reduceMul, reduceSub, reduceLeDiff, reduceEq, reduceLT, reduceLE, go_sem]) | (refine Z5 rfl ?_; with_reducible first | refine ZT ?_ | refine ZF ?_) | refine ZS rfl ?_ | refine Z9 fun _ _ => ?_ | refine ZH ?_ | refine Zl ‹_› (by decide) ?_ | refine Zo rfl ?_ | refine Zp rfl ?_ | refine Zn rfl ?_ | fail
  rw [wrap64 (by omega) (by omega)]
  refine .cond rfl (fun g1 => ?_) (fun g1 => ?_)
  · simp only [decide_eq_true_eq] at g1
    have g1' : j < hd ∧ a + j < to := by omega
    repeat' first | refine Z1 fun _ _ => ?_ | refine Z2 ‹_› ?_ | ((first | refine Z3 tb_ok lv70 rfl ?_ | refine Z4 tb_ok mix lv70 bs70 rfl (by kernel_rfl) rfl ?_ | refine Zr rfl ?_); simp only [↓reduceIte, reduceCtorEq, reduceEqDiff, reduceAdd, reduceMul, reduceSub, reduceLeDiff, reduceEq, reduceLT, reduceLE, go_sem]) | (refine Z5 rfl ?_; with_reducible first | refine ZT ?_ | refine ZF ?_) | refine ZS rfl ?_ | refine Z9 fun _ _ => ?_ | refine ZH ?_ | refine Zl ‹_› (by decide) ?_ | refine Zo rfl ?_ | refine Zp rfl ?_ | refine Zn rfl ?_ | fail
    refine idx_map (j := a + j) (n := ((a + j : Nat) : Int)) (0 : UInt8) rfl rfl rfl rfl rfl (by omega) (by omega) rfl ?_
    simp only [↓reduceIte, reduceCtorEq, reduceEqDiff, reduceAdd, reduceMul, reduceSub, reduceLeDiff, reduceEq, reduceLT, reduceLE, go_sem, encB]
    repeat' first | refine Z1 fun _ _ => ?_ | refine Z2 ‹_› ?_ | ((first | refine Z3 tb_ok lv70 rfl ?_ | refine Z4 tb_ok mix lv70 bs70 rfl (by kernel_rfl) rfl ?_ | refine Zr rfl ?_); simp only [↓reduceIte, reduceCtorEq, reduceEqDiff, reduceAdd, reduceMul, reduceSub, reduceLeDiff, reduceEq, reduceLT, reduceLE, go_sem]) | (refine Z5 rfl ?_; with_reducible first | refine ZT ?_ | refine ZF ?_) | refine ZS rfl ?_ | refine Z9 fun _ _ => ?_ | refine ZH ?_ | refine Zl ‹_› (by decide) ?_ | refine Zo rfl ?_ | refine Zp rfl ?_ | refine Zn rfl ?_ | fail
    have ho := or8 (x := told ((part' w a to).take j)) (b := (w.getD (a + j) 0).toNat) (by have := told_bd (p := (part' w a to).take j) (by rw [List.length_take]; omega); omega) (UInt8.toNat_lt _)
    rw [wrap64 (z := ((a + j : Nat) : Int) + 1) (by omega) (by omega)]
    refine hQ.next (j + 1) (by omega) (by omega) ?_
    rw [take_getD 0 (by rw [part_len hto]; omega), told_snoc, part_get (by omega) hto]
    simp only [↓reduceIte, reduceCtorEq, reduceEqDiff, reduceAdd, reduceMul, reduceSub, reduceLeDiff, reduceEq, reduceLT, reduceLE, go_sem]
    simp
    refine ⟨?_, by omega⟩
    rw [show ((2 : Int) ^ min (Int.toNat 8) 64) = 256 by decide, List.getD_eq_getElem?_getD, Int.natCast_add, Int.natCast_mul] at ho
    exact ho
  · simp only [decide_eq_false_iff_not] at g1
    have g1' : j = hd ∨ a + j = to := by omega
    repeat' first | refine Z1 fun _ _ => ?_ | refine Z2 ‹_› ?_ | ((first | refine Z3 tb_ok lv70 rfl ?_ | refine Z4 tb_ok mix lv70 bs70 rfl (by kernel_rfl) rfl ?_ | refine Zr rfl ?_); simp only [↓reduceIte, reduceCtorEq, reduceEqDiff, reduceAdd, reduceMul, reduceSub, reduceLeDiff, reduceEq, reduceLT, reduceLE, go_sem]) | (refine Z5 rfl ?_; with_reducible first | refine ZT ?_ | refine ZF ?_) | refine ZS rfl ?_ | refine Z9 fun _ _ => ?_ | refine ZH ?_ | refine Zl ‹_› (by decide) ?_ | refine Zo rfl ?_ | refine Zp rfl ?_ | refine Zn rfl ?_ | fail
    refine .split rfl (fun g2 => ?_) (fun g2 => ?_) <;> simp only [↓reduceIte, reduceCtorEq, reduceEqDiff, reduceAdd, reduceMul, reduceSub, reduceLeDiff, reduceEq, reduceLT, reduceLE, go_sem, g2]
    · simp only [decide_eq_true_eq] at g2
      repeat' first | refine Z1 fun _ _ => ?_ | refine Z2 ‹_› ?_ | ((first | refine Z3 tb_ok lv70 rfl ?_ | refine Z4 tb_ok mix lv70 bs70 rfl (by kernel_rfl) rfl ?_ | refine Zr rfl ?_); simp only [↓reduceIte, reduceCtorEq, reduceEqDiff, reduceAdd, reduceMul, reduceSub, reduceLeDiff, reduceEq, reduceLT, reduceLE, go_sem]) | (refine Z5 rfl ?_; with_reducible first | refine ZT ?_ | refine ZF ?_) | refine ZS rfl ?_ | refine Z9 fun _ _ => ?_ | refine ZH ?_ | refine Zl ‹_› (by decide) ?_ | refine Zo rfl ?_ | refine Zp rfl ?_ | refine Zn rfl ?_ | fail
      rw [if_pos (.inl (by omega))]
      exact ⟨rfl, by decide⟩
    · simp only [decide_eq_false_iff_not] at g2
      have e1 : j = hd := by omega
      repeat' first | refine Z1 fun _ _ => ?_ | refine Z2 ‹_› ?_ | ((first | refine Z3 tb_ok lv70 rfl ?_ | refine Z4 tb_ok mix lv70 bs70 rfl (by kernel_rfl) rfl ?_ | refine Zr rfl ?_); simp only [↓reduceIte, reduceCtorEq, reduceEqDiff, reduceAdd, reduceMul, reduceSub, reduceLeDiff, reduceEq, reduceLT, reduceLE, go_sem]) | (refine Z5 rfl ?_; with_reducible first | refine ZT ?_ | refine ZF ?_) | refine ZS rfl ?_ | refine Z9 fun _ _ => ?_ | refine ZH ?_ | refine Zl ‹_› (by decide) ?_ | refine Zo rfl ?_ | refine Zp rfl ?_ | refine Zn rfl ?_ | fail
      refine .cond rfl (fun g3 => ?_) (fun g3 => ?_)
      · simp only [decide_eq_true_eq] at g3
        repeat' first | refine Z1 fun _ _ => ?_ | refine Z2 ‹_› ?_ | ((first | refine Z3 tb_ok lv70 rfl ?_ | refine Z4 tb_ok mix lv70 bs70 rfl (by kernel_rfl) rfl ?_ | refine Zr rfl ?_); simp only [↓reduceIte, reduceCtorEq, reduceEqDiff, reduceAdd, reduceMul, reduceSub, reduceLeDiff, reduceEq, reduceLT, reduceLE, go_sem]) | (refine Z5 rfl ?_; with_reducible first | refine ZT ?_ | refine ZF ?_) | refine ZS rfl ?_ | refine Z9 fun _ _ => ?_ | refine ZH ?_ | refine Zl ‹_› (by decide) ?_ | refine Zo rfl ?_ | refine Zp rfl ?_ | refine Zn rfl ?_ | fail
        rw [if_pos (.inr (by rw [← e1]; omega))]
        exact ⟨rfl, by decide⟩
      · simp only [decide_eq_false_iff_not] at g3
        repeat' first | refine Z1 fun _ _ => ?_ | refine Z2 ‹_› ?_ | ((first | refine Z3 tb_ok lv70 rfl ?_ | refine Z4 tb_ok mix lv70 bs70 rfl (by kernel_rfl) rfl ?_ | refine Zr rfl ?_); simp only [↓reduceIte, reduceCtorEq, reduceEqDiff, reduceAdd, reduceMul, reduceSub, reduceLeDiff, reduceEq, reduceLT, reduceLE, go_sem]) | (refine Z5 rfl ?_; with_reducible first | refine ZT ?_ | refine ZF ?_) | refine ZS rfl ?_ | refine Z9 fun _ _ => ?_ | refine ZH ?_ | refine Zl ‹_› (by decide) ?_ | refine Zo rfl ?_ | refine Zp rfl ?_ | refine Zn rfl ?_ | fail
        have hw' := c_whole (gl := gl) (w := w) (m := m) (a := (a + hd : Nat)) (b := to) hl hi'
        have hv' := hv (by omega)
        unfold Asks at hv'
        simp only [rdr, keyD, List.map_cons, List.map_nil, vals, Int.natCast_add] at hw' hv'
        rw [← hn] at hw' hv'
        rw [wrap64 (z := (a : Int) + hd) (by omega) (by omega)]
        refine call_pure rfl rfl (hw') ?_; simp only [↓reduceIte, reduceCtorEq, reduceEqDiff, reduceAdd, reduceMul, reduceSub, reduceLeDiff, reduceEq, reduceLT, reduceLE, go_sem]
        repeat' first | refine Z1 fun _ _ => ?_ | refine Z2 ‹_› ?_ | ((first | refine Z3 tb_ok lv70 rfl ?_ | refine Z4 tb_ok mix lv70 bs70 rfl (by kernel_rfl) rfl ?_ | refine Zr rfl ?_); simp only [↓reduceIte, reduceCtorEq, reduceEqDiff, reduceAdd, reduceMul, reduceSub, reduceLeDiff, reduceEq, reduceLT, reduceLE, go_sem]) | (refine Z5 rfl ?_; with_reducible first | refine ZT ?_ | refine ZF ?_) | refine ZS rfl ?_ | refine Z9 fun _ _ => ?_ | refine ZH ?_ | refine Zl ‹_› (by decide) ?_ | refine Zo rfl ?_ | refine Zp rfl ?_ | refine Zn rfl ?_ | fail
        refine call_pure rfl rfl (hv') ?_; simp only [↓reduceIte, reduceCtorEq, reduceEqDiff, reduceAdd, reduceMul, reduceSub, reduceLeDiff, reduceEq, reduceLT, reduceLE, go_sem]
        repeat' first | refine Z1 fun _ _ => ?_ | refine Z2 ‹_› ?_ | ((first | refine Z3 tb_ok lv70 rfl ?_ | refine Z4 tb_ok mix lv70 bs70 rfl (by kernel_rfl) rfl ?_ | refine Zr rfl ?_); simp only [↓reduceIte, reduceCtorEq, reduceEqDiff, reduceAdd, reduceMul, reduceSub, reduceLeDiff, reduceEq, reduceLT, reduceLE, go_sem]) | (refine Z5 rfl ?_; with_reducible first | refine ZT ?_ | refine ZF ?_) | refine ZS rfl ?_ | refine Z9 fun _ _ => ?_ | refine ZH ?_ | refine Zl ‹_› (by decide) ?_ | refine Zo rfl ?_ | refine Zp rfl ?_ | refine Zn rfl ?_ | fail
        have hq := c_wrap12 (gl := gl) (l := R) (k := n.kind) (p := 0) (by omega)
        simp only [vals] at hq
        refine call_row rfl rfl (hq) ?_; simp only [↓reduceIte, reduceCtorEq, reduceEqDiff, reduceAdd, reduceMul, reduceSub, reduceLeDiff, reduceEq, reduceLT, reduceLE, go_sem]
        repeat' first | refine Z1 fun _ _ => ?_ | refine Z2 ‹_› ?_ | ((first | refine Z3 tb_ok lv70 rfl ?_ | refine Z4 tb_ok mix lv70 bs70 rfl (by kernel_rfl) rfl ?_ | refine Zr rfl ?_); simp only [↓reduceIte, reduceCtorEq, reduceEqDiff, reduceAdd, reduceMul, reduceSub, reduceLeDiff, reduceEq, reduceLT, reduceLE, go_sem]) | (refine Z5 rfl ?_; with_reducible first | refine ZT ?_ | refine ZF ?_) | refine ZS rfl ?_ | refine Z9 fun _ _ => ?_ | refine ZH ?_ | refine Zl ‹_› (by decide) ?_ | refine Zo rfl ?_ | refine Zp rfl ?_ | refine Zn rfl ?_ | fail
        rw [if_neg (by rw [← e1]; omega)]
        exact rfl
end Go.Proofs.Ytpibdbjlilpfiaa
