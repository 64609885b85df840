/- scantlinglaw10.awake. -/
import Derived.Test.YtafacidgajnedaaDoorSpanD
import Derived.Test.YtafacidgajnedaaDoorFormE
namespace Go.Proofs.YtafacidgajnedaaDoor
set_option linter.all false
open Go Go.RowKit
open Nat (reduceEqDiff reduceAdd reduceMul reduceSub reduceLeDiff)
open Int (reduceEq reduceLT reduceLE)

def tDot : T := .bytes 18446744073709551615 18446744073709551615 18446744073709551615 18446744073709551615
def tNo : T := .bytes 0 0 0 0
def tSt : T := .one 6 0 0 tDot
def tFr : T := .one 8 0 0 tSt
def tRp : T := .one 7 2 3 tFr
def tOr : T := .two 5 tNo tDot
def tSn : T := .one 6 0 0 tNo
theorem okDot : tDot.ok txtOk := trivial
theorem okNo : tNo.ok txtOk := trivial
theorem okSt : tSt.ok txtOk := ⟨.inl ⟨by omega, rfl, rfl⟩, trivial⟩
theorem okFr : tFr.ok txtOk := ⟨.inl ⟨by omega, rfl, rfl⟩, okSt⟩
theorem okRp : tRp.ok txtOk := ⟨.inr (by omega), okFr⟩
theorem okOr : tOr.ok txtOk := ⟨by omega, trivial, trivial⟩
theorem okSn : tSn.ok txtOk := ⟨.inl ⟨by omega, rfl, rfl⟩, trivial⟩
theorem dotRow {gl} : PCon Tryd.prog gl 17 [.int .u8 0, .int .u8 255] (.agg [.int .u64 18446744073709551615, .int .u64 18446744073709551615, .int .u64 18446744073709551615, .int .u64 18446744073709551615]) := by
  have h := c_ref01Row (gl := gl) (a := 0) (b := 255) (by omega) (by omega)
  rw [show classOf (rowL 0 (255 + 1)) = .agg [.int .u64 18446744073709551615, .int .u64 18446744073709551615, .int .u64 18446744073709551615, .int .u64 18446744073709551615] by
    rw [classOf, show bitsN (rowL 0 (255 + 1)) 0 64 = 18446744073709551615 by decide +kernel, show bitsN (rowL 0 (255 + 1)) 1 64 = 18446744073709551615 by decide +kernel, show bitsN (rowL 0 (255 + 1)) 2 64 = 18446744073709551615 by decide +kernel, show bitsN (rowL 0 (255 + 1)) 3 64 = 18446744073709551615 by decide +kernel]] at h
  exact h
theorem c_spAt {t : T} {a b : Int} (hl : t.n ≤ 1048576) (hok : t.ok txtOk) (h : t.span = (a, b)) : PCon Tryd.prog glS 12 [desc (t.flat 0)] (.tup [.int .i64 a, .int .i64 b]) := by
  have := c_spOf hl hok
  rw [h] at this
  exact this
@[go_sem] def lv7 : List (Nat × List Nat) := [(0, []), (1, [1]), (2, [1, 2]), (3, [1, 2, 3]), (4, [1, 2, 4]), (5, [1, 2, 4, 5, 6]), (6, [1, 2, 4, 5, 6, 7, 8]), (7, [1, 2, 4, 5, 6, 7, 8, 9, 10]), (8, [1, 2, 5, 6, 7, 8, 9, 10, 11, 12]), (9, [2, 5, 6, 7, 8, 9, 10, 11, 12, 13, 14]), (10, [5, 6, 7, 8, 9, 10, 11, 12, 13, 14, 15, 16]), (11, [0])]
def bs7 : List (Nat × List Nat × List Nat) := []
set_option maxRecDepth 4000 in
set_option maxHeartbeats 2000000 in
theorem c_awake10 : PCon Tryd.prog glS 7 [] (.bool true) := by
  have q1 : PCon Tryd.prog glS 16 [.int .i64 6, .int .i64 0, .int .i64 0, desc (tDot.flat 0)] (desc (tSt.flat 0)) := c_wrap (by decide) okDot
  have q2 : PCon Tryd.prog glS 16 [.int .i64 8, .int .i64 0, .int .i64 0, desc (tSt.flat 0)] (desc (tFr.flat 0)) := c_wrap (by decide) okSt
  have q3 : PCon Tryd.prog glS 16 [.int .i64 7, .int .i64 2, .int .i64 3, desc (tFr.flat 0)] (desc (tRp.flat 0)) := c_wrap (by decide) okFr
  have q4 : PCon Tryd.prog glS 15 [.int .i64 5, desc (tNo.flat 0), desc (tDot.flat 0)] (desc (tOr.flat 0)) := c_pair (by decide) (by decide) okNo okDot
  have q5 : PCon Tryd.prog glS 16 [.int .i64 6, .int .i64 0, .int .i64 0, desc (tNo.flat 0)] (desc (tSn.flat 0)) := c_wrap (by decide) okNo
  have s1 := c_spAt (a := 1) (b := 256) (by decide) okFr (by decide)
  have s2 := c_spAt (a := -1) (b := -1) (by decide) okNo (by decide)
  have n1 : PCon Tryd.prog glS 10 [desc (tFr.flat 0), .int .i64 1] (.tup [.int .i64 0, .int .i64 (-1)]) := by
    have := c_spNode (l := tFr.flat 0) (t := tSt) (off := 0) (by decide) (fun i hi => (sits_flat tFr).one1 i hi) okSt
    rw [show tSt.span = (0, -1) by decide] at this
    exact this
  have s3 := c_spAt (a := 2) (b := 768) (by decide) okRp (by decide)
  have s4 := c_spAt (a := 1) (b := 1) (by decide) okOr (by decide)
  have s5 := c_spAt (a := 0) (b := 0) (by decide) okSn (by decide)
  refine PCon.enter tb_ok (fn := Tryd.f7) (by kernel_rfl) (by kernel_rfl) rfl (by show 0 ≤ 108; decide) ?_
  repeat' first | refine Z1 fun _ _ => ?_ | refine Z2 ‹_› ?_ | ((first | refine Z3 tb_ok lv7 rfl ?_ | refine Z4 tb_ok mix lv7 bs7 rfl (by kernel_rfl) rfl ?_ | refine ret_eq rfl ?_); simp only [↓reduceIte, reduceCtorEq, reduceEqDiff, reduceAdd, reduceMul, reduceSub, reduceLeDiff, reduceEq, reduceLT, reduceLE, go_sem]) | (refine Z5 rfl ?_; with_reducible first | refine condQ_T ?_ | refine condQ_F ?_) | refine Z6 ?_ | refine Z7 ?_ | refine Z8 ?_ | refine Z9 fun _ _ => ?_ | refine Za ‹_› ?_ | refine Zb ‹_› ?_ | refine Zc ‹_› trivial ?_ | refine Zd ‹_› trivial ?_ | refine Ze ‹_› trivial ?_ | refine Zf ‹_› ?_ | refine Zg ?_ | refine Zh ‹_› ?_ | refine Zi ‹_› ?_ | refine Zj ‹_› ?_ | refine Zk ‹_› ?_ | refine Zl ‹_› (by decide) ?_ | refine touch_go rfl ?_ | fail
  refine call_pure rfl rfl (dotRow) ?_; simp only [↓reduceIte, reduceCtorEq, reduceEqDiff, reduceAdd, reduceMul, reduceSub, reduceLeDiff, reduceEq, reduceLT, reduceLE, go_sem]
  refine Cut.go (by assumption) ?_
  refine .freeze 3 rfl rfl ?_
  simp only [↓reduceIte, reduceCtorEq, reduceEqDiff, reduceAdd, reduceMul, reduceSub, reduceLeDiff, reduceEq, reduceLT, reduceLE, go_sem]
  repeat' first | refine Z1 fun _ _ => ?_ | refine Z2 ‹_› ?_ | ((first | refine Z3 tb_ok lv7 rfl ?_ | refine Z4 tb_ok mix lv7 bs7 rfl (by kernel_rfl) rfl ?_ | refine ret_eq rfl ?_); simp only [↓reduceIte, reduceCtorEq, reduceEqDiff, reduceAdd, reduceMul, reduceSub, reduceLeDiff, reduceEq, reduceLT, reduceLE, go_sem]) | (refine Z5 rfl ?_; with_reducible first | refine condQ_T ?_ | refine condQ_F ?_) | refine Z6 ?_ | refine Z7 ?_ | refine Z8 ?_ | refine Z9 fun _ _ => ?_ | refine Za ‹_› ?_ | refine Zb ‹_› ?_ | refine Zc ‹_› trivial ?_ | refine Zd ‹_› trivial ?_ | refine Ze ‹_› trivial ?_ | refine Zf ‹_› ?_ | refine Zg ?_ | refine Zh ‹_› ?_ | refine Zi ‹_› ?_ | refine Zj ‹_› ?_ | refine Zk ‹_› ?_ | refine Zl ‹_› (by decide) ?_ | refine touch_go rfl ?_ | fail
  refine call_pure rfl rfl (q1) ?_; simp only [↓reduceIte, reduceCtorEq, reduceEqDiff, reduceAdd, reduceMul, reduceSub, reduceLeDiff, reduceEq, reduceLT, reduceLE, go_sem]
  refine Cut.go (by assumption) ?_
  refine .freeze 8 rfl rfl ?_
  simp only [↓reduceIte, reduceCtorEq, reduceEqDiff, reduceAdd, reduceMul, reduceSub, reduceLeDiff, reduceEq, reduceLT, reduceLE, go_sem]
  repeat' first | refine Z1 fun _ _ => ?_ | refine Z2 ‹_› ?_ | ((first | refine Z3 tb_ok lv7 rfl ?_ | refine Z4 tb_ok mix lv7 bs7 rfl (by kernel_rfl) rfl ?_ | refine ret_eq rfl ?_); simp only [↓reduceIte, reduceCtorEq, reduceEqDiff, reduceAdd, reduceMul, reduceSub, reduceLeDiff, reduceEq, reduceLT, reduceLE, go_sem]) | (refine Z5 rfl ?_; with_reducible first | refine condQ_T ?_ | refine condQ_F ?_) | refine Z6 ?_ | refine Z7 ?_ | refine Z8 ?_ | refine Z9 fun _ _ => ?_ | refine Za ‹_› ?_ | refine Zb ‹_› ?_ | refine Zc ‹_› trivial ?_ | refine Zd ‹_› trivial ?_ | refine Ze ‹_› trivial ?_ | refine Zf ‹_› ?_ | refine Zg ?_ | refine Zh ‹_› ?_ | refine Zi ‹_› ?_ | refine Zj ‹_› ?_ | refine Zk ‹_› ?_ | refine Zl ‹_› (by decide) ?_ | refine touch_go rfl ?_ | fail
  refine call_pure rfl rfl (q2) ?_; simp only [↓reduceIte, reduceCtorEq, reduceEqDiff, reduceAdd, reduceMul, reduceSub, reduceLeDiff, reduceEq, reduceLT, reduceLE, go_sem]
  repeat' first | refine Z1 fun _ _ => ?_ | refine Z2 ‹_› ?_ | ((first | refine Z3 tb_ok lv7 rfl ?_ | refine Z4 tb_ok mix lv7 bs7 rfl (by kernel_rfl) rfl ?_ | refine ret_eq rfl ?_); simp only [↓reduceIte, reduceCtorEq, reduceEqDiff, reduceAdd, reduceMul, reduceSub, reduceLeDiff, reduceEq, reduceLT, reduceLE, go_sem]) | (refine Z5 rfl ?_; with_reducible first | refine condQ_T ?_ | refine condQ_F ?_) | refine Z6 ?_ | refine Z7 ?_ | refine Z8 ?_ | refine Z9 fun _ _ => ?_ | refine Za ‹_› ?_ | refine Zb ‹_› ?_ | refine Zc ‹_› trivial ?_ | refine Zd ‹_› trivial ?_ | refine Ze ‹_› trivial ?_ | refine Zf ‹_› ?_ | refine Zg ?_ | refine Zh ‹_› ?_ | refine Zi ‹_› ?_ | refine Zj ‹_› ?_ | refine Zk ‹_› ?_ | refine Zl ‹_› (by decide) ?_ | refine touch_go rfl ?_ | fail
  refine call_pure rfl rfl (s1) ?_; simp only [↓reduceIte, reduceCtorEq, reduceEqDiff, reduceAdd, reduceMul, reduceSub, reduceLeDiff, reduceEq, reduceLT, reduceLE, go_sem]
  repeat' first | refine Z1 fun _ _ => ?_ | refine Z2 ‹_› ?_ | ((first | refine Z3 tb_ok lv7 rfl ?_ | refine Z4 tb_ok mix lv7 bs7 rfl (by kernel_rfl) rfl ?_ | refine ret_eq rfl ?_); simp only [↓reduceIte, reduceCtorEq, reduceEqDiff, reduceAdd, reduceMul, reduceSub, reduceLeDiff, reduceEq, reduceLT, reduceLE, go_sem]) | (refine Z5 rfl ?_; with_reducible first | refine condQ_T ?_ | refine condQ_F ?_) | refine Z6 ?_ | refine Z7 ?_ | refine Z8 ?_ | refine Z9 fun _ _ => ?_ | refine Za ‹_› ?_ | refine Zb ‹_› ?_ | refine Zc ‹_› trivial ?_ | refine Zd ‹_› trivial ?_ | refine Ze ‹_› trivial ?_ | refine Zf ‹_› ?_ | refine Zg ?_ | refine Zh ‹_› ?_ | refine Zi ‹_› ?_ | refine Zj ‹_› ?_ | refine Zk ‹_› ?_ | refine Zl ‹_› (by decide) ?_ | refine touch_go rfl ?_ | fail
  refine call_pure rfl rfl (s2) ?_; simp only [↓reduceIte, reduceCtorEq, reduceEqDiff, reduceAdd, reduceMul, reduceSub, reduceLeDiff, reduceEq, reduceLT, reduceLE, go_sem]
  repeat' first | refine Z1 fun _ _ => ?_ | refine Z2 ‹_› ?_ | ((first | refine Z3 tb_ok lv7 rfl ?_ | refine Z4 tb_ok mix lv7 bs7 rfl (by kernel_rfl) rfl ?_ | refine ret_eq rfl ?_); simp only [↓reduceIte, reduceCtorEq, reduceEqDiff, reduceAdd, reduceMul, reduceSub, reduceLeDiff, reduceEq, reduceLT, reduceLE, go_sem]) | (refine Z5 rfl ?_; with_reducible first | refine condQ_T ?_ | refine condQ_F ?_) | refine Z6 ?_ | refine Z7 ?_ | refine Z8 ?_ | refine Z9 fun _ _ => ?_ | refine Za ‹_› ?_ | refine Zb ‹_› ?_ | refine Zc ‹_› trivial ?_ | refine Zd ‹_› trivial ?_ | refine Ze ‹_› trivial ?_ | refine Zf ‹_› ?_ | refine Zg ?_ | refine Zh ‹_› ?_ | refine Zi ‹_› ?_ | refine Zj ‹_› ?_ | refine Zk ‹_› ?_ | refine Zl ‹_› (by decide) ?_ | refine touch_go rfl ?_ | fail
  refine call_pure rfl rfl (n1) ?_; simp only [↓reduceIte, reduceCtorEq, reduceEqDiff, reduceAdd, reduceMul, reduceSub, reduceLeDiff, reduceEq, reduceLT, reduceLE, go_sem]
  repeat' first | refine Z1 fun _ _ => ?_ | refine Z2 ‹_› ?_ | ((first | refine Z3 tb_ok lv7 rfl ?_ | refine Z4 tb_ok mix lv7 bs7 rfl (by kernel_rfl) rfl ?_ | refine ret_eq rfl ?_); simp only [↓reduceIte, reduceCtorEq, reduceEqDiff, reduceAdd, reduceMul, reduceSub, reduceLeDiff, reduceEq, reduceLT, reduceLE, go_sem]) | (refine Z5 rfl ?_; with_reducible first | refine condQ_T ?_ | refine condQ_F ?_) | refine Z6 ?_ | refine Z7 ?_ | refine Z8 ?_ | refine Z9 fun _ _ => ?_ | refine Za ‹_› ?_ | refine Zb ‹_› ?_ | refine Zc ‹_› trivial ?_ | refine Zd ‹_› trivial ?_ | refine Ze ‹_› trivial ?_ | refine Zf ‹_› ?_ | refine Zg ?_ | refine Zh ‹_› ?_ | refine Zi ‹_› ?_ | refine Zj ‹_› ?_ | refine Zk ‹_› ?_ | refine Zl ‹_› (by decide) ?_ | refine touch_go rfl ?_ | fail
  refine call_pure rfl rfl (q3) ?_; simp only [↓reduceIte, reduceCtorEq, reduceEqDiff, reduceAdd, reduceMul, reduceSub, reduceLeDiff, reduceEq, reduceLT, reduceLE, go_sem]
  repeat' first | refine Z1 fun _ _ => ?_ | refine Z2 ‹_› ?_ | ((first | refine Z3 tb_ok lv7 rfl ?_ | refine Z4 tb_ok mix lv7 bs7 rfl (by kernel_rfl) rfl ?_ | refine ret_eq rfl ?_); simp only [↓reduceIte, reduceCtorEq, reduceEqDiff, reduceAdd, reduceMul, reduceSub, reduceLeDiff, reduceEq, reduceLT, reduceLE, go_sem]) | (refine Z5 rfl ?_; with_reducible first | refine condQ_T ?_ | refine condQ_F ?_) | refine Z6 ?_ | refine Z7 ?_ | refine Z8 ?_ | refine Z9 fun _ _ => ?_ | refine Za ‹_› ?_ | refine Zb ‹_› ?_ | refine Zc ‹_› trivial ?_ | refine Zd ‹_› trivial ?_ | refine Ze ‹_› trivial ?_ | refine Zf ‹_› ?_ | refine Zg ?_ | refine Zh ‹_› ?_ | refine Zi ‹_› ?_ | refine Zj ‹_› ?_ | refine Zk ‹_› ?_ | refine Zl ‹_› (by decide) ?_ | refine touch_go rfl ?_ | fail
  refine call_pure rfl rfl (s3) ?_; simp only [↓reduceIte, reduceCtorEq, reduceEqDiff, reduceAdd, reduceMul, reduceSub, reduceLeDiff, reduceEq, reduceLT, reduceLE, go_sem]
  repeat' first | refine Z1 fun _ _ => ?_ | refine Z2 ‹_› ?_ | ((first | refine Z3 tb_ok lv7 rfl ?_ | refine Z4 tb_ok mix lv7 bs7 rfl (by kernel_rfl) rfl ?_ | refine ret_eq rfl ?_); simp only [↓reduceIte, reduceCtorEq, reduceEqDiff, reduceAdd, reduceMul, reduceSub, reduceLeDiff, reduceEq, reduceLT, reduceLE, go_sem]) | (refine Z5 rfl ?_; with_reducible first | refine condQ_T ?_ | refine condQ_F ?_) | refine Z6 ?_ | refine Z7 ?_ | refine Z8 ?_ | refine Z9 fun _ _ => ?_ | refine Za ‹_› ?_ | refine Zb ‹_› ?_ | refine Zc ‹_› trivial ?_ | refine Zd ‹_› trivial ?_ | refine Ze ‹_› trivial ?_ | refine Zf ‹_› ?_ | refine Zg ?_ | refine Zh ‹_› ?_ | refine Zi ‹_› ?_ | refine Zj ‹_› ?_ | refine Zk ‹_› ?_ | refine Zl ‹_› (by decide) ?_ | refine touch_go rfl ?_ | fail
  refine call_pure rfl rfl (q4) ?_; simp only [↓reduceIte, reduceCtorEq, reduceEqDiff, reduceAdd, reduceMul, reduceSub, reduceLeDiff, reduceEq, reduceLT, reduceLE, go_sem]
  repeat' first | refine Z1 fun _ _ => ?_ | refine Z2 ‹_› ?_ | ((first | refine Z3 tb_ok lv7 rfl ?_ | refine Z4 tb_ok mix lv7 bs7 rfl (by kernel_rfl) rfl ?_ | refine ret_eq rfl ?_); simp only [↓reduceIte, reduceCtorEq, reduceEqDiff, reduceAdd, reduceMul, reduceSub, reduceLeDiff, reduceEq, reduceLT, reduceLE, go_sem]) | (refine Z5 rfl ?_; with_reducible first | refine condQ_T ?_ | refine condQ_F ?_) | refine Z6 ?_ | refine Z7 ?_ | refine Z8 ?_ | refine Z9 fun _ _ => ?_ | refine Za ‹_› ?_ | refine Zb ‹_› ?_ | refine Zc ‹_› trivial ?_ | refine Zd ‹_› trivial ?_ | refine Ze ‹_› trivial ?_ | refine Zf ‹_› ?_ | refine Zg ?_ | refine Zh ‹_› ?_ | refine Zi ‹_› ?_ | refine Zj ‹_› ?_ | refine Zk ‹_› ?_ | refine Zl ‹_› (by decide) ?_ | refine touch_go rfl ?_ | fail
  refine call_pure rfl rfl (s4) ?_; simp only [↓reduceIte, reduceCtorEq, reduceEqDiff, reduceAdd, reduceMul, reduceSub, reduceLeDiff, reduceEq, reduceLT, reduceLE, go_sem]
  repeat' first | refine Z1 fun _ _ => ?_ | refine Z2 ‹_› ?_ | ((first | refine Z3 tb_ok lv7 rfl ?_ | refine Z4 tb_ok mix lv7 bs7 rfl (by kernel_rfl) rfl ?_ | refine ret_eq rfl ?_); simp only [↓reduceIte, reduceCtorEq, reduceEqDiff, reduceAdd, reduceMul, reduceSub, reduceLeDiff, reduceEq, reduceLT, reduceLE, go_sem]) | (refine Z5 rfl ?_; with_reducible first | refine condQ_T ?_ | refine condQ_F ?_) | refine Z6 ?_ | refine Z7 ?_ | refine Z8 ?_ | refine Z9 fun _ _ => ?_ | refine Za ‹_› ?_ | refine Zb ‹_› ?_ | refine Zc ‹_› trivial ?_ | refine Zd ‹_› trivial ?_ | refine Ze ‹_› trivial ?_ | refine Zf ‹_› ?_ | refine Zg ?_ | refine Zh ‹_› ?_ | refine Zi ‹_› ?_ | refine Zj ‹_› ?_ | refine Zk ‹_› ?_ | refine Zl ‹_› (by decide) ?_ | refine touch_go rfl ?_ | fail
  refine call_pure rfl rfl (q5) ?_; simp only [↓reduceIte, reduceCtorEq, reduceEqDiff, reduceAdd, reduceMul, reduceSub, reduceLeDiff, reduceEq, reduceLT, reduceLE, go_sem]
  repeat' first | refine Z1 fun _ _ => ?_ | refine Z2 ‹_› ?_ | ((first | refine Z3 tb_ok lv7 rfl ?_ | refine Z4 tb_ok mix lv7 bs7 rfl (by kernel_rfl) rfl ?_ | refine ret_eq rfl ?_); simp only [↓reduceIte, reduceCtorEq, reduceEqDiff, reduceAdd, reduceMul, reduceSub, reduceLeDiff, reduceEq, reduceLT, reduceLE, go_sem]) | (refine Z5 rfl ?_; with_reducible first | refine condQ_T ?_ | refine condQ_F ?_) | refine Z6 ?_ | refine Z7 ?_ | refine Z8 ?_ | refine Z9 fun _ _ => ?_ | refine Za ‹_› ?_ | refine Zb ‹_› ?_ | refine Zc ‹_› trivial ?_ | refine Zd ‹_› trivial ?_ | refine Ze ‹_› trivial ?_ | refine Zf ‹_› ?_ | refine Zg ?_ | refine Zh ‹_› ?_ | refine Zi ‹_› ?_ | refine Zj ‹_› ?_ | refine Zk ‹_› ?_ | refine Zl ‹_› (by decide) ?_ | refine touch_go rfl ?_ | fail
  refine call_pure rfl rfl (s5) ?_; simp only [↓reduceIte, reduceCtorEq, reduceEqDiff, reduceAdd, reduceMul, reduceSub, reduceLeDiff, reduceEq, reduceLT, reduceLE, go_sem]
  repeat' first | refine Z1 fun _ _ => ?_ | refine Z2 ‹_› ?_ | ((first | refine Z3 tb_ok lv7 rfl ?_ | refine Z4 tb_ok mix lv7 bs7 rfl (by kernel_rfl) rfl ?_ | refine ret_eq rfl ?_); simp only [↓reduceIte, reduceCtorEq, reduceEqDiff, reduceAdd, reduceMul, reduceSub, reduceLeDiff, reduceEq, reduceLT, reduceLE, go_sem]) | (refine Z5 rfl ?_; with_reducible first | refine condQ_T ?_ | refine condQ_F ?_) | refine Z6 ?_ | refine Z7 ?_ | refine Z8 ?_ | refine Z9 fun _ _ => ?_ | refine Za ‹_› ?_ | refine Zb ‹_› ?_ | refine Zc ‹_› trivial ?_ | refine Zd ‹_› trivial ?_ | refine Ze ‹_› trivial ?_ | refine Zf ‹_› ?_ | refine Zg ?_ | refine Zh ‹_› ?_ | refine Zi ‹_› ?_ | refine Zj ‹_› ?_ | refine Zk ‹_› ?_ | refine Zl ‹_› (by decide) ?_ | refine touch_go rfl ?_ | fail
end Go.Proofs.YtafacidgajnedaaDoor
