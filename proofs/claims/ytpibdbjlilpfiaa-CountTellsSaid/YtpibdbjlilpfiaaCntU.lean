/- scantlinglaw12.awake. -/
import Derived.Test.YtpibdbjlilpfiaaCntT
import Derived.Test.YtpibdbjlilpfiaaSpanD
import Derived.Test.YtpibdbjlilpfiaaWaysB
import Derived.Test.YtpibdbjlilpfiaaFewA
namespace Go.Proofs.Ytpibdbjlilpfiaa
set_option linter.all false
open Go Go.RowKit
open Nat (reduceEqDiff reduceAdd reduceMul reduceSub reduceLeDiff)
open Int (reduceEq reduceLT reduceLE)

def cDot : T := .bytes 18446744073709551615 18446744073709551615 18446744073709551615 18446744073709551615
def cA : T := .text ⟨#[97]⟩
def cOr : T := .two 5 cDot cA
def cSt : T := .one 6 0 0 cOr
def cFr : T := .one 8 0 0 cSt
theorem cDot_ok : cDot.ok txtOk := trivial
theorem cA_ok : cA.ok txtOk := ⟨by decide, by decide +kernel⟩
theorem cOr_ok : cOr.ok txtOk := ⟨.inr rfl, cDot_ok, cA_ok⟩
theorem cSt_ok : cSt.ok txtOk := ⟨.inl ⟨by omega, rfl, rfl⟩, cOr_ok⟩
theorem cFr_ok : cFr.ok txtOk := ⟨.inl ⟨by omega, rfl, rfl⟩, cSt_ok⟩
theorem cDot_c : cDot.cok := ⟨by omega, by omega, by omega, by omega⟩
theorem cOr_c : cOr.cok := ⟨cDot_c, trivial⟩
theorem allRow {gl} : PCon Try.prog gl 34 [.int .u8 0, .int .u8 255] (cls 18446744073709551615 18446744073709551615 18446744073709551615 18446744073709551615) := by
  have e : classOf (rowL 0 (255 + 1)) = cls 18446744073709551615 18446744073709551615 18446744073709551615 18446744073709551615 := by kernel_rfl
  have := c_ref01Row (gl := gl) (a := 0) (b := 255) (by omega) (by omega)
  rw [e] at this
  exact this
def cV0 : Vl := .mk 5 0 .empty 0 [.mk 2 97 .empty 0 []]
def cV1 : Vl := .mk 5 0 .empty 1 [.mk 3 0 ⟨#[97]⟩ 0 []]
theorem list2 {l : List Vl} {a b : Vl} (h : l.length = 2 ∧ (l.getD 0 Vl.z).same a = true ∧ (l.getD 1 Vl.z).same b = true) : l = [a, b] := by
  obtain ⟨h1, h2, h3⟩ := h
  match l, h1 with
  | [x, y], _ =>
    rw [Vl.same_iff] at h2 h3
    have e1 : x = a := h2
    have e2 : y = b := h3
    rw [e1, e2]
theorem f1 : cOr.fnd [97] = [cV0, cV1] := list2 (by decide +kernel)
theorem f2 : (cOr.fnd [98]).length = 1 := by decide +kernel
theorem f3 : (cOr.fnd []) = [] := List.length_eq_zero_iff.1 (by decide +kernel)
theorem f4 : (cSt.fnd []).length = 1 := by decide +kernel
theorem f5 : (cSt.fnd [98, 97]).length = 2 := by decide +kernel
theorem f6 : (cFr.fnd [1, 98]).length = 1 := by decide +kernel
theorem f7 : (cFr.fnd [2, 98]).length = 0 := by decide +kernel
section
variable {vars : List (Nat × List D)} {t : T} {w : List UInt8}
theorem waysS {n : Int} (h : t.n ≤ 1000) (hw : w.length ≤ 100) (hok : t.ok txtOk) (hc : t.cok) (e : ((t.fnd w).length : Int) = n) : PCon Try.prog ⟨vars, none⟩ 30 [desc (t.flat 0), bys w] (.int .i64 n) := e ▸ c_cWays h hw hok hc
theorem hasS {b : Bool} (h : t.n ≤ 1000) (hw : w.length ≤ 100) (hok : t.ok txtOk) (hc : t.cok) (e : decide (0 < (t.fnd w).length) = b) : PCon Try.prog ⟨vars, none⟩ 31 [desc (t.flat 0), bys w] (.bool b) := e ▸ c_cHas h hw hok hc
theorem valsS {l : List Vl} (h : t.n ≤ 1000) (hw : w.length ≤ 100) (hok : t.ok txtOk) (hc : t.cok) (e : t.fnd w = l) : PCon Try.prog ⟨vars, none⟩ 32 [desc (t.flat 0), bys w] (vals l) := e ▸ c_Values h hw hok hc
end
@[go_sem] def lv27 : List (Nat × List Nat) := [(0, []), (1, [1]), (2, [1, 2]), (3, [3]), (4, [3, 4]), (5, [3, 4, 5]), (6, [3, 4, 5, 6]), (7, [0])]
def bs27 : List (Nat × List Nat × List Nat) := [(7, [0, 0, 2, 7, 15, 31, 63, 63, 191, 511, 1023, 2047, 4095, 8191, 16383, 32767, 65535, 131071, 262143, 524287, 1048575, 2097151, 4194303, 4194303, 12582911, 33554431, 67108863, 134217727, 268435455, 536870911, 536870911, 2147483647, 4294967295, 8589934591, 17179869183, 34359738367, 34359738367, 137438953471, 274877906943, 549755813887, 1099511627775, 2199023255551, 4398046511103, 8796093022207, 17592186044415, 35184372088831, 70368744177663, 140737488355327, 281474976710655, 70368744177663, 633318697598975, 1759218604441599, 4503599627370495, 9007199254740991, 18014398509481983, 36028797018963967, 72057594037927935, 144115188075855871, 288230376151711743, 576460752303423487, 1152921504606846975, 2305843009213693951, 4611686018427387903, 9223372036854775807, 18446744073709551615, 36893488147419103231, 73786976294838206463, 147573952589676412927, 295147905179352825855], [3, 9, 14, 19, 25, 31, 37, 52, 64])]
set_option maxRecDepth 4000 in
set_option maxHeartbeats 2000000 in
theorem c_awake12 {vars} : PCon Try.prog ⟨vars, none⟩ 27 [] (.bool true) := by
  have v1 := valsS (vars := vars) (w := [97]) (by decide) (by decide) cOr_ok cOr_c f1
  have v2 := valsS (vars := vars) (w := []) (by decide) (by decide) cOr_ok cOr_c f3
  have w1 := waysS (vars := vars) (n := 2) (w := [97]) (by decide) (by decide) cOr_ok cOr_c (by rw [f1]; rfl)
  have w2 := waysS (vars := vars) (n := 1) (w := [98]) (by decide) (by decide) cOr_ok cOr_c (by rw [f2]; rfl)
  have w3 := waysS (vars := vars) (n := 0) (w := []) (by decide) (by decide) cOr_ok cOr_c (by rw [f3]; rfl)
  have w4 := hasS (vars := vars) (w := []) (b := true) (by decide) (by decide) cSt_ok cOr_c (by rw [f4]; rfl)
  have w5 := waysS (vars := vars) (n := 2) (w := [98, 97]) (by decide) (by decide) cSt_ok cOr_c (by rw [f5]; rfl)
  have w6 := waysS (vars := vars) (n := 1) (w := [1, 98]) (by decide) (by decide) cFr_ok cOr_c (by rw [f6]; rfl)
  have w7 := waysS (vars := vars) (n := 0) (w := [2, 98]) (by decide) (by decide) cFr_ok cOr_c (by rw [f7]; rfl)
  have q1 : PCon Try.prog ⟨vars, none⟩ 25 [.int .i64 5, desc (cDot.flat 0), desc (cA.flat 0)] (desc (cOr.flat 0)) := c_pair (by decide) (by decide) cDot_ok cA_ok
  have q2 : PCon Try.prog ⟨vars, none⟩ 26 [.int .i64 6, .int .i64 0, .int .i64 0, desc (cOr.flat 0)] (desc (cSt.flat 0)) := c_wrap (by decide) cOr_ok
  have q3 : PCon Try.prog ⟨vars, none⟩ 26 [.int .i64 8, .int .i64 0, .int .i64 0, desc (cSt.flat 0)] (desc (cFr.flat 0)) := c_wrap (by decide) cSt_ok
  have sm : PCon Try.prog ⟨vars, none⟩ 20 [val cV0, val cV1] (.bool false) := c_rsame cV0 (by decide +kernel) cV1
  refine PCon.enter tb_ok (fn := Try.f27) (by kernel_rfl) (by kernel_rfl) rfl (by show 0 ≤ 93; decide) ?_
  repeat' first | refine Z1 fun _ _ => ?_ | refine Z2 ‹_› ?_ | ((first | refine Z3 tb_ok lv27 rfl ?_ | refine Z4 tb_ok mix lv27 bs27 rfl (by kernel_rfl) rfl ?_ | refine Zr rfl ?_); simp only [↓reduceIte, reduceCtorEq, reduceEqDiff, reduceAdd, reduceMul, reduceSub, reduceLeDiff, reduceEq, reduceLT, reduceLE, go_sem]) | refine ZS rfl ?_ | refine ZH ?_ | refine Zo rfl ?_ | refine Zp rfl ?_ | refine Zn rfl ?_ | fail
  refine call_pure rfl rfl (allRow) ?_; simp only [↓reduceIte, reduceCtorEq, reduceEqDiff, reduceAdd, reduceMul, reduceSub, reduceLeDiff, reduceEq, reduceLT, reduceLE, go_sem]
  repeat' first | refine Z1 fun _ _ => ?_ | refine Z2 ‹_› ?_ | ((first | refine Z3 tb_ok lv27 rfl ?_ | refine Z4 tb_ok mix lv27 bs27 rfl (by kernel_rfl) rfl ?_ | refine Zr rfl ?_); simp only [↓reduceIte, reduceCtorEq, reduceEqDiff, reduceAdd, reduceMul, reduceSub, reduceLeDiff, reduceEq, reduceLT, reduceLE, go_sem]) | refine ZS rfl ?_ | refine ZH ?_ | refine Zo rfl ?_ | refine Zp rfl ?_ | refine Zn rfl ?_ | fail
  have x1 : (if (⟨#[97]⟩ : ByteArray).size ≤ 1000 then some (AV.d (D.str ⟨#[97]⟩)) else none) = some (AV.d (D.str ⟨#[97]⟩)) := rfl
  simp only [↓reduceIte, reduceCtorEq, reduceEqDiff, reduceAdd, reduceMul, reduceSub, reduceLeDiff, reduceEq, reduceLT, reduceLE, go_sem, x1]
  repeat' first | refine Z1 fun _ _ => ?_ | ((first | refine Z3 tb_ok lv27 rfl ?_ | refine Z4 tb_ok mix lv27 bs27 rfl (by kernel_rfl) rfl ?_ | refine Zr rfl ?_); simp only [↓reduceIte, reduceCtorEq, reduceEqDiff, reduceAdd, reduceMul, reduceSub, reduceLeDiff, reduceEq, reduceLT, reduceLE, go_sem]) | refine ZS rfl ?_ | refine ZH ?_ | refine Zo rfl ?_ | refine Zp rfl ?_ | refine Zn rfl ?_ | fail
  refine Cut.go ‹_› ?_; refine .freeze 3 rfl rfl ?_; simp only [↓reduceIte, reduceCtorEq, reduceEqDiff, reduceAdd, reduceMul, reduceSub, reduceLeDiff, reduceEq, reduceLT, reduceLE, go_sem]; refine .freeze 8 rfl rfl ?_; simp only [↓reduceIte, reduceCtorEq, reduceEqDiff, reduceAdd, reduceMul, reduceSub, reduceLeDiff, reduceEq, reduceLT, reduceLE, go_sem]
  repeat' first | refine Z1 fun _ _ => ?_ | refine Z2 ‹_› ?_ | ((first | refine Z3 tb_ok lv27 rfl ?_ | refine Z4 tb_ok mix lv27 bs27 rfl (by kernel_rfl) rfl ?_ | refine Zr rfl ?_); simp only [↓reduceIte, reduceCtorEq, reduceEqDiff, reduceAdd, reduceMul, reduceSub, reduceLeDiff, reduceEq, reduceLT, reduceLE, go_sem]) | refine ZS rfl ?_ | refine ZH ?_ | refine Zo rfl ?_ | refine Zp rfl ?_ | refine Zn rfl ?_ | fail
  refine call_pure rfl rfl (q1) ?_; simp only [↓reduceIte, reduceCtorEq, reduceEqDiff, reduceAdd, reduceMul, reduceSub, reduceLeDiff, reduceEq, reduceLT, reduceLE, go_sem]
  repeat' first | refine Z1 fun _ _ => ?_ | refine Z2 ‹_› ?_ | ((first | refine Z3 tb_ok lv27 rfl ?_ | refine Z4 tb_ok mix lv27 bs27 rfl (by kernel_rfl) rfl ?_ | refine Zr rfl ?_); simp only [↓reduceIte, reduceCtorEq, reduceEqDiff, reduceAdd, reduceMul, reduceSub, reduceLeDiff, reduceEq, reduceLT, reduceLE, go_sem]) | refine ZS rfl ?_ | refine ZH ?_ | refine Zo rfl ?_ | refine Zp rfl ?_ | refine Zn rfl ?_ | fail
  refine call_pure rfl rfl (q2) ?_; simp only [↓reduceIte, reduceCtorEq, reduceEqDiff, reduceAdd, reduceMul, reduceSub, reduceLeDiff, reduceEq, reduceLT, reduceLE, go_sem]
  repeat' first | refine Z1 fun _ _ => ?_ | refine Z2 ‹_› ?_ | ((first | refine Z3 tb_ok lv27 rfl ?_ | refine Z4 tb_ok mix lv27 bs27 rfl (by kernel_rfl) rfl ?_ | refine Zr rfl ?_); simp only [↓reduceIte, reduceCtorEq, reduceEqDiff, reduceAdd, reduceMul, reduceSub, reduceLeDiff, reduceEq, reduceLT, reduceLE, go_sem]) | refine ZS rfl ?_ | refine ZH ?_ | refine Zo rfl ?_ | refine Zp rfl ?_ | refine Zn rfl ?_ | fail
  refine call_pure rfl rfl (q3) ?_; simp only [↓reduceIte, reduceCtorEq, reduceEqDiff, reduceAdd, reduceMul, reduceSub, reduceLeDiff, reduceEq, reduceLT, reduceLE, go_sem]
  repeat' first | refine Z1 fun _ _ => ?_ | refine Z2 ‹_› ?_ | ((first | refine Z3 tb_ok lv27 rfl ?_ | refine Z4 tb_ok mix lv27 bs27 rfl (by kernel_rfl) rfl ?_ | refine Zr rfl ?_); simp only [↓reduceIte, reduceCtorEq, reduceEqDiff, reduceAdd, reduceMul, reduceSub, reduceLeDiff, reduceEq, reduceLT, reduceLE, go_sem]) | refine ZS rfl ?_ | refine ZH ?_ | refine Zo rfl ?_ | refine Zp rfl ?_ | refine Zn rfl ?_ | fail
  refine ⟨Try.underlying5, ?_⟩
  refine call_pure rfl rfl (v1) ?_; simp only [↓reduceIte, reduceCtorEq, reduceEqDiff, reduceAdd, reduceMul, reduceSub, reduceLeDiff, reduceEq, reduceLT, reduceLE, go_sem]
  repeat' first | refine Z1 fun _ _ => ?_ | refine Z2 ‹_› ?_ | ((first | refine Z3 tb_ok lv27 rfl ?_ | refine Z4 tb_ok mix lv27 bs27 rfl (by kernel_rfl) rfl ?_ | refine Zr rfl ?_); simp only [↓reduceIte, reduceCtorEq, reduceEqDiff, reduceAdd, reduceMul, reduceSub, reduceLeDiff, reduceEq, reduceLT, reduceLE, go_sem]) | refine ZS rfl ?_ | refine ZH ?_ | refine Zo rfl ?_ | refine Zp rfl ?_ | refine Zn rfl ?_ | fail
  refine ⟨Try.underlying5, ?_⟩
  repeat' first | refine Z1 fun _ _ => ?_ | refine Z2 ‹_› ?_ | ((first | refine Z3 tb_ok lv27 rfl ?_ | refine Z4 tb_ok mix lv27 bs27 rfl (by kernel_rfl) rfl ?_ | refine Zr rfl ?_); simp only [↓reduceIte, reduceCtorEq, reduceEqDiff, reduceAdd, reduceMul, reduceSub, reduceLeDiff, reduceEq, reduceLT, reduceLE, go_sem]) | refine ZS rfl ?_ | refine ZH ?_ | refine Zo rfl ?_ | refine Zp rfl ?_ | refine Zn rfl ?_ | fail
  refine call_pure rfl rfl (w1) ?_; simp only [↓reduceIte, reduceCtorEq, reduceEqDiff, reduceAdd, reduceMul, reduceSub, reduceLeDiff, reduceEq, reduceLT, reduceLE, go_sem]
  repeat' first | refine Z1 fun _ _ => ?_ | refine Z2 ‹_› ?_ | ((first | refine Z3 tb_ok lv27 rfl ?_ | refine Z4 tb_ok mix lv27 bs27 rfl (by kernel_rfl) rfl ?_ | refine Zr rfl ?_); simp only [↓reduceIte, reduceCtorEq, reduceEqDiff, reduceAdd, reduceMul, reduceSub, reduceLeDiff, reduceEq, reduceLT, reduceLE, go_sem]) | refine ZS rfl ?_ | refine ZH ?_ | refine Zo rfl ?_ | refine Zp rfl ?_ | refine Zn rfl ?_ | fail
  refine ⟨Try.underlying5, ?_⟩
  repeat' first | refine Z1 fun _ _ => ?_ | refine Z2 ‹_› ?_ | ((first | refine Z3 tb_ok lv27 rfl ?_ | refine Z4 tb_ok mix lv27 bs27 rfl (by kernel_rfl) rfl ?_ | refine Zr rfl ?_); simp only [↓reduceIte, reduceCtorEq, reduceEqDiff, reduceAdd, reduceMul, reduceSub, reduceLeDiff, reduceEq, reduceLT, reduceLE, go_sem]) | refine ZS rfl ?_ | refine ZH ?_ | refine Zo rfl ?_ | refine Zp rfl ?_ | refine Zn rfl ?_ | fail
  refine call_pure rfl rfl (w2) ?_; simp only [↓reduceIte, reduceCtorEq, reduceEqDiff, reduceAdd, reduceMul, reduceSub, reduceLeDiff, reduceEq, reduceLT, reduceLE, go_sem]
  repeat' first | refine Z1 fun _ _ => ?_ | refine Z2 ‹_› ?_ | ((first | refine Z3 tb_ok lv27 rfl ?_ | refine Z4 tb_ok mix lv27 bs27 rfl (by kernel_rfl) rfl ?_ | refine Zr rfl ?_); simp only [↓reduceIte, reduceCtorEq, reduceEqDiff, reduceAdd, reduceMul, reduceSub, reduceLeDiff, reduceEq, reduceLT, reduceLE, go_sem]) | refine ZS rfl ?_ | refine ZH ?_ | refine Zo rfl ?_ | refine Zp rfl ?_ | refine Zn rfl ?_ | fail
  refine call_pure rfl rfl (w3) ?_; simp only [↓reduceIte, reduceCtorEq, reduceEqDiff, reduceAdd, reduceMul, reduceSub, reduceLeDiff, reduceEq, reduceLT, reduceLE, go_sem]
  repeat' first | refine Z1 fun _ _ => ?_ | refine Z2 ‹_› ?_ | ((first | refine Z3 tb_ok lv27 rfl ?_ | refine Z4 tb_ok mix lv27 bs27 rfl (by kernel_rfl) rfl ?_ | refine Zr rfl ?_); simp only [↓reduceIte, reduceCtorEq, reduceEqDiff, reduceAdd, reduceMul, reduceSub, reduceLeDiff, reduceEq, reduceLT, reduceLE, go_sem]) | refine ZS rfl ?_ | refine ZH ?_ | refine Zo rfl ?_ | refine Zp rfl ?_ | refine Zn rfl ?_ | fail
  refine call_pure rfl rfl (w4) ?_; simp only [↓reduceIte, reduceCtorEq, reduceEqDiff, reduceAdd, reduceMul, reduceSub, reduceLeDiff, reduceEq, reduceLT, reduceLE, go_sem]
  repeat' first | refine Z1 fun _ _ => ?_ | refine Z2 ‹_› ?_ | ((first | refine Z3 tb_ok lv27 rfl ?_ | refine Z4 tb_ok mix lv27 bs27 rfl (by kernel_rfl) rfl ?_ | refine Zr rfl ?_); simp only [↓reduceIte, reduceCtorEq, reduceEqDiff, reduceAdd, reduceMul, reduceSub, reduceLeDiff, reduceEq, reduceLT, reduceLE, go_sem]) | refine ZS rfl ?_ | refine ZH ?_ | refine Zo rfl ?_ | refine Zp rfl ?_ | refine Zn rfl ?_ | fail
  refine ⟨Try.underlying5, ?_⟩
  repeat' first | refine Z1 fun _ _ => ?_ | refine Z2 ‹_› ?_ | ((first | refine Z3 tb_ok lv27 rfl ?_ | refine Z4 tb_ok mix lv27 bs27 rfl (by kernel_rfl) rfl ?_ | refine Zr rfl ?_); simp only [↓reduceIte, reduceCtorEq, reduceEqDiff, reduceAdd, reduceMul, reduceSub, reduceLeDiff, reduceEq, reduceLT, reduceLE, go_sem]) | refine ZS rfl ?_ | refine ZH ?_ | refine Zo rfl ?_ | refine Zp rfl ?_ | refine Zn rfl ?_ | fail
  refine call_pure rfl rfl (w5) ?_; simp only [↓reduceIte, reduceCtorEq, reduceEqDiff, reduceAdd, reduceMul, reduceSub, reduceLeDiff, reduceEq, reduceLT, reduceLE, go_sem]
  repeat' first | refine Z1 fun _ _ => ?_ | refine Z2 ‹_› ?_ | ((first | refine Z3 tb_ok lv27 rfl ?_ | refine Z4 tb_ok mix lv27 bs27 rfl (by kernel_rfl) rfl ?_ | refine Zr rfl ?_); simp only [↓reduceIte, reduceCtorEq, reduceEqDiff, reduceAdd, reduceMul, reduceSub, reduceLeDiff, reduceEq, reduceLT, reduceLE, go_sem]) | refine ZS rfl ?_ | refine ZH ?_ | refine Zo rfl ?_ | refine Zp rfl ?_ | refine Zn rfl ?_ | fail
  refine call_pure rfl rfl (w6) ?_; simp only [↓reduceIte, reduceCtorEq, reduceEqDiff, reduceAdd, reduceMul, reduceSub, reduceLeDiff, reduceEq, reduceLT, reduceLE, go_sem]
  repeat' first | refine Z1 fun _ _ => ?_ | refine Z2 ‹_› ?_ | ((first | refine Z3 tb_ok lv27 rfl ?_ | refine Z4 tb_ok mix lv27 bs27 rfl (by kernel_rfl) rfl ?_ | refine Zr rfl ?_); simp only [↓reduceIte, reduceCtorEq, reduceEqDiff, reduceAdd, reduceMul, reduceSub, reduceLeDiff, reduceEq, reduceLT, reduceLE, go_sem]) | refine ZS rfl ?_ | refine ZH ?_ | refine Zo rfl ?_ | refine Zp rfl ?_ | refine Zn rfl ?_ | fail
  refine call_pure rfl rfl (w7) ?_; simp only [↓reduceIte, reduceCtorEq, reduceEqDiff, reduceAdd, reduceMul, reduceSub, reduceLeDiff, reduceEq, reduceLT, reduceLE, go_sem]
  repeat' first | refine Z1 fun _ _ => ?_ | refine Z2 ‹_› ?_ | ((first | refine Z3 tb_ok lv27 rfl ?_ | refine Z4 tb_ok mix lv27 bs27 rfl (by kernel_rfl) rfl ?_ | refine Zr rfl ?_); simp only [↓reduceIte, reduceCtorEq, reduceEqDiff, reduceAdd, reduceMul, reduceSub, reduceLeDiff, reduceEq, reduceLT, reduceLE, go_sem]) | refine ZS rfl ?_ | refine ZH ?_ | refine Zo rfl ?_ | refine Zp rfl ?_ | refine Zn rfl ?_ | fail
  have g2 : decide (((2 : Nat) : Int) = 2) = true := rfl
  simp only [↓reduceIte, reduceCtorEq, reduceEqDiff, reduceAdd, reduceMul, reduceSub, reduceLeDiff, reduceEq, reduceLT, reduceLE, go_sem, g2]
  repeat' first | refine Z1 fun _ _ => ?_ | refine Z2 ‹_› ?_ | ((first | refine Z3 tb_ok lv27 rfl ?_ | refine Z4 tb_ok mix lv27 bs27 rfl (by kernel_rfl) rfl ?_ | refine Zr rfl ?_); simp only [↓reduceIte, reduceCtorEq, reduceEqDiff, reduceAdd, reduceMul, reduceSub, reduceLeDiff, reduceEq, reduceLT, reduceLE, go_sem]) | refine ZS rfl ?_ | refine ZH ?_ | refine Zo rfl ?_ | refine Zp rfl ?_ | refine Zn rfl ?_ | fail
  refine @idx_map _ _ _ [cV0, cV1] Vl.cells _ _ 0 _ _ .i64 0 _ _ _ Vl.z rfl rfl rfl rfl rfl ?_ ?_ ?_ ?_
  · decide
  · decide
  · rfl
  refine ⟨trivial, ?_⟩
  simp only [↓reduceIte, reduceCtorEq, reduceEqDiff, reduceAdd, reduceMul, reduceSub, reduceLeDiff, reduceEq, reduceLT, reduceLE, go_sem, List.getD_cons_zero, List.getD_cons_succ, Vl.cells]
  repeat' first | refine Z1 fun _ _ => ?_ | refine Z2 ‹_› ?_ | ((first | refine Z3 tb_ok lv27 rfl ?_ | refine Z4 tb_ok mix lv27 bs27 rfl (by kernel_rfl) rfl ?_ | refine Zr rfl ?_); simp only [↓reduceIte, reduceCtorEq, reduceEqDiff, reduceAdd, reduceMul, reduceSub, reduceLeDiff, reduceEq, reduceLT, reduceLE, go_sem]) | refine ZS rfl ?_ | refine ZH ?_ | refine Zo rfl ?_ | refine Zp rfl ?_ | refine Zn rfl ?_ | fail
  refine @idx_map _ _ _ [cV0, cV1] Vl.cells _ _ 1 _ _ .i64 1 _ _ _ Vl.z rfl rfl rfl rfl rfl ?_ ?_ ?_ ?_
  · decide
  · decide
  · rfl
  refine ⟨trivial, ?_⟩
  simp only [↓reduceIte, reduceCtorEq, reduceEqDiff, reduceAdd, reduceMul, reduceSub, reduceLeDiff, reduceEq, reduceLT, reduceLE, go_sem, List.getD_cons_zero, List.getD_cons_succ, Vl.cells]
  repeat' first | refine Z1 fun _ _ => ?_ | refine Z2 ‹_› ?_ | ((first | refine Z3 tb_ok lv27 rfl ?_ | refine Z4 tb_ok mix lv27 bs27 rfl (by kernel_rfl) rfl ?_ | refine Zr rfl ?_); simp only [↓reduceIte, reduceCtorEq, reduceEqDiff, reduceAdd, reduceMul, reduceSub, reduceLeDiff, reduceEq, reduceLT, reduceLE, go_sem]) | refine ZS rfl ?_ | refine ZH ?_ | refine Zo rfl ?_ | refine Zp rfl ?_ | refine Zn rfl ?_ | fail
  refine call_pure rfl rfl (sm) ?_; simp only [↓reduceIte, reduceCtorEq, reduceEqDiff, reduceAdd, reduceMul, reduceSub, reduceLeDiff, reduceEq, reduceLT, reduceLE, go_sem]
  repeat' first | refine Z1 fun _ _ => ?_ | refine Z2 ‹_› ?_ | ((first | refine Z3 tb_ok lv27 rfl ?_ | refine Z4 tb_ok mix lv27 bs27 rfl (by kernel_rfl) rfl ?_ | refine Zr rfl ?_); simp only [↓reduceIte, reduceCtorEq, reduceEqDiff, reduceAdd, reduceMul, reduceSub, reduceLeDiff, reduceEq, reduceLT, reduceLE, go_sem]) | refine ZS rfl ?_ | refine ZH ?_ | refine Zo rfl ?_ | refine Zp rfl ?_ | refine Zn rfl ?_ | fail
  refine @idx_map _ _ _ [cV0, cV1] Vl.cells _ _ 0 _ _ .i64 0 _ _ _ Vl.z rfl rfl rfl rfl rfl ?_ ?_ ?_ ?_
  · decide
  · decide
  · rfl
  refine ⟨trivial, ?_⟩
  simp only [↓reduceIte, reduceCtorEq, reduceEqDiff, reduceAdd, reduceMul, reduceSub, reduceLeDiff, reduceEq, reduceLT, reduceLE, go_sem, List.getD_cons_zero, List.getD_cons_succ, Vl.cells]
  repeat' first | refine Z1 fun _ _ => ?_ | refine Z2 ‹_› ?_ | ((first | refine Z3 tb_ok lv27 rfl ?_ | refine Z4 tb_ok mix lv27 bs27 rfl (by kernel_rfl) rfl ?_ | refine Zr rfl ?_); simp only [↓reduceIte, reduceCtorEq, reduceEqDiff, reduceAdd, reduceMul, reduceSub, reduceLeDiff, reduceEq, reduceLT, reduceLE, go_sem]) | refine ZS rfl ?_ | refine ZH ?_ | refine Zo rfl ?_ | refine Zp rfl ?_ | refine Zn rfl ?_ | fail
  have k5 : decide (cV0.kind = 5) = true := rfl
  simp only [↓reduceIte, reduceCtorEq, reduceEqDiff, reduceAdd, reduceMul, reduceSub, reduceLeDiff, reduceEq, reduceLT, reduceLE, go_sem, k5]
  repeat' first | refine Z1 fun _ _ => ?_ | refine Z2 ‹_› ?_ | ((first | refine Z3 tb_ok lv27 rfl ?_ | refine Z4 tb_ok mix lv27 bs27 rfl (by kernel_rfl) rfl ?_ | refine Zr rfl ?_); simp only [↓reduceIte, reduceCtorEq, reduceEqDiff, reduceAdd, reduceMul, reduceSub, reduceLeDiff, reduceEq, reduceLT, reduceLE, go_sem]) | refine ZS rfl ?_ | refine ZH ?_ | refine Zo rfl ?_ | refine Zp rfl ?_ | refine Zn rfl ?_ | fail
  refine call_pure rfl rfl (v2) ?_; simp only [↓reduceIte, reduceCtorEq, reduceEqDiff, reduceAdd, reduceMul, reduceSub, reduceLeDiff, reduceEq, reduceLT, reduceLE, go_sem]
  repeat' first | refine Z1 fun _ _ => ?_ | refine Z2 ‹_› ?_ | ((first | refine Z3 tb_ok lv27 rfl ?_ | refine Z4 tb_ok mix lv27 bs27 rfl (by kernel_rfl) rfl ?_ | refine Zr rfl ?_); simp only [↓reduceIte, reduceCtorEq, reduceEqDiff, reduceAdd, reduceMul, reduceSub, reduceLeDiff, reduceEq, reduceLT, reduceLE, go_sem]) | refine ZS rfl ?_ | refine ZH ?_ | refine Zo rfl ?_ | refine Zp rfl ?_ | refine Zn rfl ?_ | fail
  rfl
end Go.Proofs.Ytpibdbjlilpfiaa
