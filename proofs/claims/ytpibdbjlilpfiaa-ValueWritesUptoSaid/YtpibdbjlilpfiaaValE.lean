/- value.write (printed by wip/gen/vale.py). -/
import Derived.Test.YtpibdbjlilpfiaaValK
namespace Go.Proofs.Ytpibdbjlilpfiaa
set_option linter.all false
open Go Go.RowKit
open Nat (reduceEqDiff reduceAdd reduceMul reduceSub reduceLeDiff)
open Int (reduceEq reduceLT reduceLE)

@[go_sem] def lv37 : List (Nat × List Nat) := [(0, [1, 3, 5]), (1, [3, 5, 8]), (2, [3, 5, 8, 9, 10]), (3, [3, 5, 8, 9, 10, 28]), (4, [6, 7]), (5, [3, 5, 8, 9, 10, 39]), (6, [6, 7]), (7, [3, 5, 8, 9, 10, 66]), (8, [6, 7]), (9, [3, 5, 8, 9, 10, 86]), (10, [6, 7]), (11, [3, 5, 8, 9, 10, 107]), (12, [6, 7]), (13, [3, 5, 8, 9, 10, 130]), (14, [6, 7]), (15, [3, 5, 8, 9, 10, 153]), (16, [3, 5, 8, 9, 10, 153]), (17, [6, 7]), (18, [3, 5, 8, 9, 10, 186]), (19, [11, 12]), (20, [6, 7]), (21, [3, 5, 8, 211]), (22, [13, 14]), (23, [6, 7]), (24, [6, 7])]
def bs37 : List (Nat × List Nat × List Nat) := [(2, [0, 1, 3, 0, 0, 16, 48, 120, 255, 511], [])]
/-- What is proved of a part. -/
def WrC (gl : List (Nat × List D)) (l : List Nd) (off : Nat) (t : T) : Prop := ∀ v : Vl, v.bulk ≤ 1048577 → v.Wf → PCon Try.prog gl 37 [desc l, .int .i64 (off + (t.n - 1) : Nat), val v] (resW (t.wr v))
set_option maxRecDepth 4000 in
set_option maxHeartbeats 1000000 in
theorem c_writeA {gl} {l : List Nd} (hl : l.length ≤ 1048576) {off : Nat} (hs : Sits l off (T.void)) : WrC gl l off (T.void) := by
  intro v hv hwf
  have hp := T.n_pos (T.void)
  have hr := hs.getD Nd.z
  have hlt := hs.lt
  have hb0 := c_bare (gl := gl) (v := v) (u := .mk 1 0 .empty 0 [])
  simp only [Vl.kind_mk, Vl.byte_mk, Vl.text_mk, Vl.pick_mk] at hb0
  cases h1 : v.plain 1 0 .empty 0 <;> cases h2 : v.kids.isEmpty
  all_goals
    have k2 := isEmpty_dec h2
    rw [h1] at hb0
    have hw : T.void.wr v = if v.plain 1 0 .empty 0 && v.kids.isEmpty then some [] else none := by rw [T.wr.eq_def]
    rw [h1, h2] at hw
    simp only [Bool.and_true, Bool.and_false, Bool.true_and, Bool.false_and, if_true, Bool.false_eq_true, if_false] at hw
    rw [hw]
    refine PCon.enter tb_ok (fn := Try.f37) (by kernel_rfl) (by kernel_rfl) rfl (by show 3 ≤ 236; decide) ?_
    repeat' first | refine Z1 fun _ _ => ?_ | refine Z2 ‹_› ?_ | ((first | refine Z3 tb_ok lv37 rfl ?_ | refine Z4 tb_ok mix lv37 bs37 rfl (by kernel_rfl) rfl ?_ | refine ret_eq rfl ?_); simp only [↓reduceIte, reduceCtorEq, reduceEqDiff, reduceAdd, reduceMul, reduceSub, reduceLeDiff, reduceEq, reduceLT, reduceLE, go_sem]) | (refine Z5 rfl ?_; with_reducible first | refine condQ_T ?_ | refine condQ_F ?_) | refine Z6 ?_ | refine Z8 ?_ | refine Z9 fun _ _ => ?_ | refine Za ‹_› ?_ | refine Zc ‹_› trivial ?_ | refine Zf ‹_› ?_ | refine touch_go rfl ?_ | refine eff_go rfl ?_ | fail
    refine idx_map Nd.z rfl rfl rfl rfl rfl (by omega) (by omega) rfl ?_
    simp only [Int.toNat_natCast, hr, T.root]
    simp only [↓reduceIte, reduceCtorEq, reduceEqDiff, reduceAdd, reduceMul, reduceSub, reduceLeDiff, reduceEq, reduceLT, reduceLE, go_sem]
    repeat' first | refine Z1 fun _ _ => ?_ | refine Z2 ‹_› ?_ | ((first | refine Z3 tb_ok lv37 rfl ?_ | refine Z4 tb_ok mix lv37 bs37 rfl (by kernel_rfl) rfl ?_ | refine ret_eq rfl ?_); simp only [↓reduceIte, reduceCtorEq, reduceEqDiff, reduceAdd, reduceMul, reduceSub, reduceLeDiff, reduceEq, reduceLT, reduceLE, go_sem]) | (refine Z5 rfl ?_; with_reducible first | refine condQ_T ?_ | refine condQ_F ?_) | refine Z6 ?_ | refine Z8 ?_ | refine Z9 fun _ _ => ?_ | refine Za ‹_› ?_ | refine Zc ‹_› trivial ?_ | refine Zf ‹_› ?_ | refine touch_go rfl ?_ | refine eff_go rfl ?_ | fail
    refine call_pure rfl rfl (hb0) ?_; simp only [↓reduceIte, reduceCtorEq, reduceEqDiff, reduceAdd, reduceMul, reduceSub, reduceLeDiff, reduceEq, reduceLT, reduceLE, go_sem]
    repeat' first | refine Z1 fun _ _ => ?_ | refine Z2 ‹_› ?_ | ((first | refine Z3 tb_ok lv37 rfl ?_ | refine Z4 tb_ok mix lv37 bs37 rfl (by kernel_rfl) rfl ?_ | refine ret_eq rfl ?_); simp only [↓reduceIte, reduceCtorEq, reduceEqDiff, reduceAdd, reduceMul, reduceSub, reduceLeDiff, reduceEq, reduceLT, reduceLE, go_sem]) | (refine Z5 rfl ?_; with_reducible first | refine condQ_T ?_ | refine condQ_F ?_) | refine Z6 ?_ | refine Z8 ?_ | refine Z9 fun _ _ => ?_ | refine Za ‹_› ?_ | refine Zc ‹_› trivial ?_ | refine Zf ‹_› ?_ | refine touch_go rfl ?_ | refine eff_go rfl ?_ | fail
    try
      simp only [↓reduceIte, reduceCtorEq, reduceEqDiff, reduceAdd, reduceMul, reduceSub, reduceLeDiff, reduceEq, reduceLT, reduceLE, go_sem, k2]
      repeat' first | refine Z1 fun _ _ => ?_ | refine Z2 ‹_› ?_ | ((first | refine Z3 tb_ok lv37 rfl ?_ | refine Z4 tb_ok mix lv37 bs37 rfl (by kernel_rfl) rfl ?_ | refine ret_eq rfl ?_); simp only [↓reduceIte, reduceCtorEq, reduceEqDiff, reduceAdd, reduceMul, reduceSub, reduceLeDiff, reduceEq, reduceLT, reduceLE, go_sem]) | (refine Z5 rfl ?_; with_reducible first | refine condQ_T ?_ | refine condQ_F ?_) | refine Z6 ?_ | refine Z8 ?_ | refine Z9 fun _ _ => ?_ | refine Za ‹_› ?_ | refine Zc ‹_› trivial ?_ | refine Zf ‹_› ?_ | refine touch_go rfl ?_ | refine eff_go rfl ?_ | fail
    first | done | rfl
set_option maxRecDepth 4000 in
set_option maxHeartbeats 1000000 in
theorem c_writeB {gl} {l : List Nd} (hl : l.length ≤ 1048576) {off : Nat} {c0 c1 c2 c3 : Int} (hck : (T.bytes c0 c1 c2 c3).cok) (hs : Sits l off (T.bytes c0 c1 c2 c3)) : WrC gl l off (T.bytes c0 c1 c2 c3) := by
  intro v hv hwf
  have hp := T.n_pos (T.bytes c0 c1 c2 c3)
  have hr := hs.getD Nd.z
  have hlt := hs.lt
  have hb0 := c_bare (gl := gl) (v := v) (u := .mk 2 0 .empty 0 [])
  simp only [Vl.kind_mk, Vl.byte_mk, Vl.text_mk, Vl.pick_mk] at hb0
  have hb1 := c_bare (gl := gl) (v := v) (u := .mk 2 v.byte .empty 0 [])
  simp only [Vl.kind_mk, Vl.byte_mk, Vl.text_mk, Vl.pick_mk] at hb1
  have hh := c_has (gl := gl) (b := v.byte) hck.1 hck.2.1 hck.2.2.1 hck.2.2.2 hwf.byte
  cases h1 : v.plain 2 v.byte .empty 0 <;> cases h2 : v.kids.isEmpty <;> cases h3 : clsHas c0 c1 c2 c3 v.byte
  all_goals
    have k2 := isEmpty_dec h2
    rw [h1] at hb1
    rw [h3] at hh
    have hw : (T.bytes c0 c1 c2 c3).wr v = if v.plain 2 v.byte .empty 0 && v.kids.isEmpty && clsHas c0 c1 c2 c3 v.byte then some [byteOf v.byte] else none := by rw [T.wr.eq_def]
    rw [h1, h2, h3] at hw
    simp only [Bool.and_true, Bool.and_false, Bool.true_and, Bool.false_and, if_true, Bool.false_eq_true, if_false] at hw
    rw [hw]
    refine PCon.enter tb_ok (fn := Try.f37) (by kernel_rfl) (by kernel_rfl) rfl (by show 3 ≤ 236; decide) ?_
    repeat' first | refine Z1 fun _ _ => ?_ | refine Z2 ‹_› ?_ | ((first | refine Z3 tb_ok lv37 rfl ?_ | refine Z4 tb_ok mix lv37 bs37 rfl (by kernel_rfl) rfl ?_ | refine ret_eq rfl ?_); simp only [↓reduceIte, reduceCtorEq, reduceEqDiff, reduceAdd, reduceMul, reduceSub, reduceLeDiff, reduceEq, reduceLT, reduceLE, go_sem]) | (refine Z5 rfl ?_; with_reducible first | refine condQ_T ?_ | refine condQ_F ?_) | refine Z6 ?_ | refine Z8 ?_ | refine Z9 fun _ _ => ?_ | refine Za ‹_› ?_ | refine Zc ‹_› trivial ?_ | refine Zf ‹_› ?_ | refine touch_go rfl ?_ | refine eff_go rfl ?_ | fail
    refine idx_map Nd.z rfl rfl rfl rfl rfl (by omega) (by omega) rfl ?_
    simp only [Int.toNat_natCast, hr, T.root]
    simp only [↓reduceIte, reduceCtorEq, reduceEqDiff, reduceAdd, reduceMul, reduceSub, reduceLeDiff, reduceEq, reduceLT, reduceLE, go_sem]
    repeat' first | refine Z1 fun _ _ => ?_ | refine Z2 ‹_› ?_ | ((first | refine Z3 tb_ok lv37 rfl ?_ | refine Z4 tb_ok mix lv37 bs37 rfl (by kernel_rfl) rfl ?_ | refine ret_eq rfl ?_); simp only [↓reduceIte, reduceCtorEq, reduceEqDiff, reduceAdd, reduceMul, reduceSub, reduceLeDiff, reduceEq, reduceLT, reduceLE, go_sem]) | (refine Z5 rfl ?_; with_reducible first | refine condQ_T ?_ | refine condQ_F ?_) | refine Z6 ?_ | refine Z8 ?_ | refine Z9 fun _ _ => ?_ | refine Za ‹_› ?_ | refine Zc ‹_› trivial ?_ | refine Zf ‹_› ?_ | refine touch_go rfl ?_ | refine eff_go rfl ?_ | fail
    refine call_pure rfl rfl (hb0) ?_; simp only [↓reduceIte, reduceCtorEq, reduceEqDiff, reduceAdd, reduceMul, reduceSub, reduceLeDiff, reduceEq, reduceLT, reduceLE, go_sem]
    repeat' first | refine Z1 fun _ _ => ?_ | refine Z2 ‹_› ?_ | ((first | refine Z3 tb_ok lv37 rfl ?_ | refine Z4 tb_ok mix lv37 bs37 rfl (by kernel_rfl) rfl ?_ | refine ret_eq rfl ?_); simp only [↓reduceIte, reduceCtorEq, reduceEqDiff, reduceAdd, reduceMul, reduceSub, reduceLeDiff, reduceEq, reduceLT, reduceLE, go_sem]) | (refine Z5 rfl ?_; with_reducible first | refine condQ_T ?_ | refine condQ_F ?_) | refine Z6 ?_ | refine Z8 ?_ | refine Z9 fun _ _ => ?_ | refine Za ‹_› ?_ | refine Zc ‹_› trivial ?_ | refine Zf ‹_› ?_ | refine touch_go rfl ?_ | refine eff_go rfl ?_ | fail
    refine call_pure rfl rfl (hb1) ?_; simp only [↓reduceIte, reduceCtorEq, reduceEqDiff, reduceAdd, reduceMul, reduceSub, reduceLeDiff, reduceEq, reduceLT, reduceLE, go_sem]
    repeat' first | refine Z1 fun _ _ => ?_ | refine Z2 ‹_› ?_ | ((first | refine Z3 tb_ok lv37 rfl ?_ | refine Z4 tb_ok mix lv37 bs37 rfl (by kernel_rfl) rfl ?_ | refine ret_eq rfl ?_); simp only [↓reduceIte, reduceCtorEq, reduceEqDiff, reduceAdd, reduceMul, reduceSub, reduceLeDiff, reduceEq, reduceLT, reduceLE, go_sem]) | (refine Z5 rfl ?_; with_reducible first | refine condQ_T ?_ | refine condQ_F ?_) | refine Z6 ?_ | refine Z8 ?_ | refine Z9 fun _ _ => ?_ | refine Za ‹_› ?_ | refine Zc ‹_› trivial ?_ | refine Zf ‹_› ?_ | refine touch_go rfl ?_ | refine eff_go rfl ?_ | fail
    try
      simp only [↓reduceIte, reduceCtorEq, reduceEqDiff, reduceAdd, reduceMul, reduceSub, reduceLeDiff, reduceEq, reduceLT, reduceLE, go_sem, k2]
      repeat' first | refine Z1 fun _ _ => ?_ | refine Z2 ‹_› ?_ | ((first | refine Z3 tb_ok lv37 rfl ?_ | refine Z4 tb_ok mix lv37 bs37 rfl (by kernel_rfl) rfl ?_ | refine ret_eq rfl ?_); simp only [↓reduceIte, reduceCtorEq, reduceEqDiff, reduceAdd, reduceMul, reduceSub, reduceLeDiff, reduceEq, reduceLT, reduceLE, go_sem]) | (refine Z5 rfl ?_; with_reducible first | refine condQ_T ?_ | refine condQ_F ?_) | refine Z6 ?_ | refine Z8 ?_ | refine Z9 fun _ _ => ?_ | refine Za ‹_› ?_ | refine Zc ‹_› trivial ?_ | refine Zf ‹_› ?_ | refine touch_go rfl ?_ | refine eff_go rfl ?_ | fail
    try
      refine call_pure rfl rfl (hh) ?_; simp only [↓reduceIte, reduceCtorEq, reduceEqDiff, reduceAdd, reduceMul, reduceSub, reduceLeDiff, reduceEq, reduceLT, reduceLE, go_sem]
      repeat' first | refine Z1 fun _ _ => ?_ | refine Z2 ‹_› ?_ | ((first | refine Z3 tb_ok lv37 rfl ?_ | refine Z4 tb_ok mix lv37 bs37 rfl (by kernel_rfl) rfl ?_ | refine ret_eq rfl ?_); simp only [↓reduceIte, reduceCtorEq, reduceEqDiff, reduceAdd, reduceMul, reduceSub, reduceLeDiff, reduceEq, reduceLT, reduceLE, go_sem]) | (refine Z5 rfl ?_; with_reducible first | refine condQ_T ?_ | refine condQ_F ?_) | refine Z6 ?_ | refine Z8 ?_ | refine Z9 fun _ _ => ?_ | refine Za ‹_› ?_ | refine Zc ‹_› trivial ?_ | refine Zf ‹_› ?_ | refine touch_go rfl ?_ | refine eff_go rfl ?_ | fail
    first | rfl | exact congrArg (fun z => D.tup [D.slice [z], D.bool true]) (encB_byteOf hwf.byte.1 hwf.byte.2).symm
set_option maxRecDepth 4000 in
set_option maxHeartbeats 1000000 in
theorem c_writeC {gl} {l : List Nd} (hl : l.length ≤ 1048576) {off : Nat} {s : ByteArray} (hs : Sits l off (T.text s)) : WrC gl l off (T.text s) := by
  intro v hv hwf
  have hp := T.n_pos (T.text s)
  have hr := hs.getD Nd.z
  have hlt := hs.lt
  have hb0 := c_bare (gl := gl) (v := v) (u := .mk 3 0 .empty 0 [])
  simp only [Vl.kind_mk, Vl.byte_mk, Vl.text_mk, Vl.pick_mk] at hb0
  have hb1 := c_bare (gl := gl) (v := v) (u := .mk 3 0 s 0 [])
  simp only [Vl.kind_mk, Vl.byte_mk, Vl.text_mk, Vl.pick_mk] at hb1
  cases h1 : v.plain 3 0 s 0 <;> cases h2 : v.kids.isEmpty
  all_goals
    have k2 := isEmpty_dec h2
    rw [h1] at hb1
    have hw : (T.text s).wr v = if v.plain 3 0 s 0 && v.kids.isEmpty then some s.data.toList else none := by rw [T.wr.eq_def]
    rw [h1, h2] at hw
    simp only [Bool.and_true, Bool.and_false, Bool.true_and, Bool.false_and, if_true, Bool.false_eq_true, if_false] at hw
    rw [hw]
    refine PCon.enter tb_ok (fn := Try.f37) (by kernel_rfl) (by kernel_rfl) rfl (by show 3 ≤ 236; decide) ?_
    repeat' first | refine Z1 fun _ _ => ?_ | refine Z2 ‹_› ?_ | ((first | refine Z3 tb_ok lv37 rfl ?_ | refine Z4 tb_ok mix lv37 bs37 rfl (by kernel_rfl) rfl ?_ | refine ret_eq rfl ?_); simp only [↓reduceIte, reduceCtorEq, reduceEqDiff, reduceAdd, reduceMul, reduceSub, reduceLeDiff, reduceEq, reduceLT, reduceLE, go_sem]) | (refine Z5 rfl ?_; with_reducible first | refine condQ_T ?_ | refine condQ_F ?_) | refine Z6 ?_ | refine Z8 ?_ | refine Z9 fun _ _ => ?_ | refine Za ‹_› ?_ | refine Zc ‹_› trivial ?_ | refine Zf ‹_› ?_ | refine touch_go rfl ?_ | refine eff_go rfl ?_ | fail
    refine idx_map Nd.z rfl rfl rfl rfl rfl (by omega) (by omega) rfl ?_
    simp only [Int.toNat_natCast, hr, T.root]
    simp only [↓reduceIte, reduceCtorEq, reduceEqDiff, reduceAdd, reduceMul, reduceSub, reduceLeDiff, reduceEq, reduceLT, reduceLE, go_sem]
    repeat' first | refine Z1 fun _ _ => ?_ | refine Z2 ‹_› ?_ | ((first | refine Z3 tb_ok lv37 rfl ?_ | refine Z4 tb_ok mix lv37 bs37 rfl (by kernel_rfl) rfl ?_ | refine ret_eq rfl ?_); simp only [↓reduceIte, reduceCtorEq, reduceEqDiff, reduceAdd, reduceMul, reduceSub, reduceLeDiff, reduceEq, reduceLT, reduceLE, go_sem]) | (refine Z5 rfl ?_; with_reducible first | refine condQ_T ?_ | refine condQ_F ?_) | refine Z6 ?_ | refine Z8 ?_ | refine Z9 fun _ _ => ?_ | refine Za ‹_› ?_ | refine Zc ‹_› trivial ?_ | refine Zf ‹_› ?_ | refine touch_go rfl ?_ | refine eff_go rfl ?_ | fail
    refine call_pure rfl rfl (hb0) ?_; simp only [↓reduceIte, reduceCtorEq, reduceEqDiff, reduceAdd, reduceMul, reduceSub, reduceLeDiff, reduceEq, reduceLT, reduceLE, go_sem]
    repeat' first | refine Z1 fun _ _ => ?_ | refine Z2 ‹_› ?_ | ((first | refine Z3 tb_ok lv37 rfl ?_ | refine Z4 tb_ok mix lv37 bs37 rfl (by kernel_rfl) rfl ?_ | refine ret_eq rfl ?_); simp only [↓reduceIte, reduceCtorEq, reduceEqDiff, reduceAdd, reduceMul, reduceSub, reduceLeDiff, reduceEq, reduceLT, reduceLE, go_sem]) | (refine Z5 rfl ?_; with_reducible first | refine condQ_T ?_ | refine condQ_F ?_) | refine Z6 ?_ | refine Z8 ?_ | refine Z9 fun _ _ => ?_ | refine Za ‹_› ?_ | refine Zc ‹_› trivial ?_ | refine Zf ‹_› ?_ | refine touch_go rfl ?_ | refine eff_go rfl ?_ | fail
    refine call_pure rfl rfl (hb1) ?_; simp only [↓reduceIte, reduceCtorEq, reduceEqDiff, reduceAdd, reduceMul, reduceSub, reduceLeDiff, reduceEq, reduceLT, reduceLE, go_sem]
    repeat' first | refine Z1 fun _ _ => ?_ | refine Z2 ‹_› ?_ | ((first | refine Z3 tb_ok lv37 rfl ?_ | refine Z4 tb_ok mix lv37 bs37 rfl (by kernel_rfl) rfl ?_ | refine ret_eq rfl ?_); simp only [↓reduceIte, reduceCtorEq, reduceEqDiff, reduceAdd, reduceMul, reduceSub, reduceLeDiff, reduceEq, reduceLT, reduceLE, go_sem]) | (refine Z5 rfl ?_; with_reducible first | refine condQ_T ?_ | refine condQ_F ?_) | refine Z6 ?_ | refine Z8 ?_ | refine Z9 fun _ _ => ?_ | refine Za ‹_› ?_ | refine Zc ‹_› trivial ?_ | refine Zf ‹_› ?_ | refine touch_go rfl ?_ | refine eff_go rfl ?_ | fail
    try
      simp only [↓reduceIte, reduceCtorEq, reduceEqDiff, reduceAdd, reduceMul, reduceSub, reduceLeDiff, reduceEq, reduceLT, reduceLE, go_sem, k2]
      repeat' first | refine Z1 fun _ _ => ?_ | refine Z2 ‹_› ?_ | ((first | refine Z3 tb_ok lv37 rfl ?_ | refine Z4 tb_ok mix lv37 bs37 rfl (by kernel_rfl) rfl ?_ | refine ret_eq rfl ?_); simp only [↓reduceIte, reduceCtorEq, reduceEqDiff, reduceAdd, reduceMul, reduceSub, reduceLeDiff, reduceEq, reduceLT, reduceLE, go_sem]) | (refine Z5 rfl ?_; with_reducible first | refine condQ_T ?_ | refine condQ_F ?_) | refine Z6 ?_ | refine Z8 ?_ | refine Z9 fun _ _ => ?_ | refine Za ‹_› ?_ | refine Zc ‹_› trivial ?_ | refine Zf ‹_› ?_ | refine touch_go rfl ?_ | refine eff_go rfl ?_ | fail
    try
      refine ⟨Try.underlying5, ?_⟩
      repeat' first | refine Z1 fun _ _ => ?_ | refine Z2 ‹_› ?_ | ((first | refine Z3 tb_ok lv37 rfl ?_ | refine Z4 tb_ok mix lv37 bs37 rfl (by kernel_rfl) rfl ?_ | refine ret_eq rfl ?_); simp only [↓reduceIte, reduceCtorEq, reduceEqDiff, reduceAdd, reduceMul, reduceSub, reduceLeDiff, reduceEq, reduceLT, reduceLE, go_sem]) | (refine Z5 rfl ?_; with_reducible first | refine condQ_T ?_ | refine condQ_F ?_) | refine Z6 ?_ | refine Z8 ?_ | refine Z9 fun _ _ => ?_ | refine Za ‹_› ?_ | refine Zc ‹_› trivial ?_ | refine Zf ‹_› ?_ | refine touch_go rfl ?_ | refine eff_go rfl ?_ | fail
    first | done | rfl
set_option maxRecDepth 4000 in
set_option maxHeartbeats 1000000 in
theorem c_writeD {gl} {l : List Nd} (hl : l.length ≤ 1048576) {off : Nat} {a b : T} (iha : WrC gl l off a) (ihb : WrC gl l (off + a.n) b) (hs : Sits l off (T.two 4 a b)) : WrC gl l off (T.two 4 a b) := by
  intro v hv hwf
  have hp := T.n_pos (T.two 4 a b)
  have hr := hs.getD Nd.z
  have hlt := hs.lt
  have hb0 := c_bare (gl := gl) (v := v) (u := .mk 4 0 .empty 0 [])
  simp only [Vl.kind_mk, Vl.byte_mk, Vl.text_mk, Vl.pick_mk] at hb0
  have hw : (T.two 4 a b).wr v = if v.plain 4 0 .empty 0 then (match v.kids with
      | [x, y] => (match a.wr x, b.wr y with
        | some p, some q => some (p ++ q)
        | _, _ => none)
      | _ => none) else none := by rw [T.wr.eq_def]; rfl
  cases h1 : v.plain 4 0 .empty 0 <;> cases h2 : decide ((v.kids.length : Int) = 2)
  all_goals rw [h1] at hb0 hw
  case true.true =>
    obtain ⟨x, y, hxy⟩ := match_two h2
    have hk := c_kids (gl := gl) (l := l) (nodes := [((off + (a.n - 1) : Nat) : Int), ((off + a.n + (b.n - 1) : Nat) : Int)]) (full := false) (v := v) (F := fun i => if i = 0 then a.wr else b.wr) hv (by simp) (by simp)
      (fun i hi p hp => by
        have := kid_bulk hv hi
        split at hp
        · exact wr_bd this hp
        · exact wr_bd this hp)
      (fun i hi => by
        rw [hxy] at hi ⊢
        match i, hi with
        | 0, _ => exact iha x (by have := kid_bulk hv (i := 0) (by rw [hxy]; simp); rw [hxy] at this; exact this) (hwf.kid (by rw [hxy]; simp))
        | 1, _ => exact ihb y (by have := kid_bulk hv (i := 1) (by rw [hxy]; simp); rw [hxy] at this; exact this) (hwf.kid (by rw [hxy]; simp)))
    have hg : gathI (fun i => if i = 0 then a.wr else b.wr) false 0 v.kids = (T.two 4 a b).wr v := by
      rw [hw, hxy]
      simp only [gathI, if_true, Bool.false_and, Bool.false_eq_true, if_false]
      cases a.wr x with
      | none => rfl
      | some p =>
        simp only [show ¬ (0 + 1 = 0) by omega, if_false]
        cases b.wr y with
        | none => rfl
        | some q => simp
    rw [hg] at hk
    clear hw hg
    refine PCon.enter tb_ok (fn := Try.f37) (by kernel_rfl) (by kernel_rfl) rfl (by show 3 ≤ 236; decide) ?_
    repeat' first | refine Z1 fun _ _ => ?_ | refine Z2 ‹_› ?_ | ((first | refine Z3 tb_ok lv37 rfl ?_ | refine Z4 tb_ok mix lv37 bs37 rfl (by kernel_rfl) rfl ?_ | refine ret_eq rfl ?_); simp only [↓reduceIte, reduceCtorEq, reduceEqDiff, reduceAdd, reduceMul, reduceSub, reduceLeDiff, reduceEq, reduceLT, reduceLE, go_sem]) | (refine Z5 rfl ?_; with_reducible first | refine condQ_T ?_ | refine condQ_F ?_) | refine Z6 ?_ | refine Z8 ?_ | refine Z9 fun _ _ => ?_ | refine Za ‹_› ?_ | refine Zc ‹_› trivial ?_ | refine Zf ‹_› ?_ | refine touch_go rfl ?_ | refine eff_go rfl ?_ | fail
    refine idx_map Nd.z rfl rfl rfl rfl rfl (by omega) (by omega) rfl ?_
    simp only [Int.toNat_natCast, hr, T.root]
    simp only [↓reduceIte, reduceCtorEq, reduceEqDiff, reduceAdd, reduceMul, reduceSub, reduceLeDiff, reduceEq, reduceLT, reduceLE, go_sem]
    repeat' first | refine Z1 fun _ _ => ?_ | refine Z2 ‹_› ?_ | ((first | refine Z3 tb_ok lv37 rfl ?_ | refine Z4 tb_ok mix lv37 bs37 rfl (by kernel_rfl) rfl ?_ | refine ret_eq rfl ?_); simp only [↓reduceIte, reduceCtorEq, reduceEqDiff, reduceAdd, reduceMul, reduceSub, reduceLeDiff, reduceEq, reduceLT, reduceLE, go_sem]) | (refine Z5 rfl ?_; with_reducible first | refine condQ_T ?_ | refine condQ_F ?_) | refine Z6 ?_ | refine Z8 ?_ | refine Z9 fun _ _ => ?_ | refine Za ‹_› ?_ | refine Zc ‹_› trivial ?_ | refine Zf ‹_› ?_ | refine touch_go rfl ?_ | refine eff_go rfl ?_ | fail
    refine call_pure rfl rfl (hb0) ?_; simp only [↓reduceIte, reduceCtorEq, reduceEqDiff, reduceAdd, reduceMul, reduceSub, reduceLeDiff, reduceEq, reduceLT, reduceLE, go_sem]
    repeat' first | refine Z1 fun _ _ => ?_ | refine Z2 ‹_› ?_ | ((first | refine Z3 tb_ok lv37 rfl ?_ | refine Z4 tb_ok mix lv37 bs37 rfl (by kernel_rfl) rfl ?_ | refine ret_eq rfl ?_); simp only [↓reduceIte, reduceCtorEq, reduceEqDiff, reduceAdd, reduceMul, reduceSub, reduceLeDiff, reduceEq, reduceLT, reduceLE, go_sem]) | (refine Z5 rfl ?_; with_reducible first | refine condQ_T ?_ | refine condQ_F ?_) | refine Z6 ?_ | refine Z8 ?_ | refine Z9 fun _ _ => ?_ | refine Za ‹_› ?_ | refine Zc ‹_› trivial ?_ | refine Zf ‹_› ?_ | refine touch_go rfl ?_ | refine eff_go rfl ?_ | fail
    simp only [↓reduceIte, reduceCtorEq, reduceEqDiff, reduceAdd, reduceMul, reduceSub, reduceLeDiff, reduceEq, reduceLT, reduceLE, go_sem, h2]
    repeat' first | refine Z1 fun _ _ => ?_ | refine Z2 ‹_› ?_ | ((first | refine Z3 tb_ok lv37 rfl ?_ | refine Z4 tb_ok mix lv37 bs37 rfl (by kernel_rfl) rfl ?_ | refine ret_eq rfl ?_); simp only [↓reduceIte, reduceCtorEq, reduceEqDiff, reduceAdd, reduceMul, reduceSub, reduceLeDiff, reduceEq, reduceLT, reduceLE, go_sem]) | (refine Z5 rfl ?_; with_reducible first | refine condQ_T ?_ | refine condQ_F ?_) | refine Z6 ?_ | refine Z8 ?_ | refine Z9 fun _ _ => ?_ | refine Za ‹_› ?_ | refine Zc ‹_› trivial ?_ | refine Zf ‹_› ?_ | refine touch_go rfl ?_ | refine eff_go rfl ?_ | fail
    refine call_pure rfl rfl (hk) ?_; simp only [↓reduceIte, reduceCtorEq, reduceEqDiff, reduceAdd, reduceMul, reduceSub, reduceLeDiff, reduceEq, reduceLT, reduceLE, go_sem]
    repeat' first | refine Z1 fun _ _ => ?_ | refine Z2 ‹_› ?_ | ((first | refine Z3 tb_ok lv37 rfl ?_ | refine Z4 tb_ok mix lv37 bs37 rfl (by kernel_rfl) rfl ?_ | refine ret_eq rfl ?_); simp only [↓reduceIte, reduceCtorEq, reduceEqDiff, reduceAdd, reduceMul, reduceSub, reduceLeDiff, reduceEq, reduceLT, reduceLE, go_sem]) | (refine Z5 rfl ?_; with_reducible first | refine condQ_T ?_ | refine condQ_F ?_) | refine Z6 ?_ | refine Z8 ?_ | refine Z9 fun _ _ => ?_ | refine Za ‹_› ?_ | refine Zc ‹_› trivial ?_ | refine Zf ‹_› ?_ | refine touch_go rfl ?_ | refine eff_go rfl ?_ | fail
  case false.false =>
    have hw' : (T.two 4 a b).wr v = none := by
      rw [hw]
      rfl
    rw [hw']
    refine PCon.enter tb_ok (fn := Try.f37) (by kernel_rfl) (by kernel_rfl) rfl (by show 3 ≤ 236; decide) ?_
    repeat' first | refine Z1 fun _ _ => ?_ | refine Z2 ‹_› ?_ | ((first | refine Z3 tb_ok lv37 rfl ?_ | refine Z4 tb_ok mix lv37 bs37 rfl (by kernel_rfl) rfl ?_ | refine ret_eq rfl ?_); simp only [↓reduceIte, reduceCtorEq, reduceEqDiff, reduceAdd, reduceMul, reduceSub, reduceLeDiff, reduceEq, reduceLT, reduceLE, go_sem]) | (refine Z5 rfl ?_; with_reducible first | refine condQ_T ?_ | refine condQ_F ?_) | refine Z6 ?_ | refine Z8 ?_ | refine Z9 fun _ _ => ?_ | refine Za ‹_› ?_ | refine Zc ‹_› trivial ?_ | refine Zf ‹_› ?_ | refine touch_go rfl ?_ | refine eff_go rfl ?_ | fail
    refine idx_map Nd.z rfl rfl rfl rfl rfl (by omega) (by omega) rfl ?_
    simp only [Int.toNat_natCast, hr, T.root]
    simp only [↓reduceIte, reduceCtorEq, reduceEqDiff, reduceAdd, reduceMul, reduceSub, reduceLeDiff, reduceEq, reduceLT, reduceLE, go_sem]
    repeat' first | refine Z1 fun _ _ => ?_ | refine Z2 ‹_› ?_ | ((first | refine Z3 tb_ok lv37 rfl ?_ | refine Z4 tb_ok mix lv37 bs37 rfl (by kernel_rfl) rfl ?_ | refine ret_eq rfl ?_); simp only [↓reduceIte, reduceCtorEq, reduceEqDiff, reduceAdd, reduceMul, reduceSub, reduceLeDiff, reduceEq, reduceLT, reduceLE, go_sem]) | (refine Z5 rfl ?_; with_reducible first | refine condQ_T ?_ | refine condQ_F ?_) | refine Z6 ?_ | refine Z8 ?_ | refine Z9 fun _ _ => ?_ | refine Za ‹_› ?_ | refine Zc ‹_› trivial ?_ | refine Zf ‹_› ?_ | refine touch_go rfl ?_ | refine eff_go rfl ?_ | fail
    refine call_pure rfl rfl (hb0) ?_; simp only [↓reduceIte, reduceCtorEq, reduceEqDiff, reduceAdd, reduceMul, reduceSub, reduceLeDiff, reduceEq, reduceLT, reduceLE, go_sem]
    repeat' first | refine Z1 fun _ _ => ?_ | refine Z2 ‹_› ?_ | ((first | refine Z3 tb_ok lv37 rfl ?_ | refine Z4 tb_ok mix lv37 bs37 rfl (by kernel_rfl) rfl ?_ | refine ret_eq rfl ?_); simp only [↓reduceIte, reduceCtorEq, reduceEqDiff, reduceAdd, reduceMul, reduceSub, reduceLeDiff, reduceEq, reduceLT, reduceLE, go_sem]) | (refine Z5 rfl ?_; with_reducible first | refine condQ_T ?_ | refine condQ_F ?_) | refine Z6 ?_ | refine Z8 ?_ | refine Z9 fun _ _ => ?_ | refine Za ‹_› ?_ | refine Zc ‹_› trivial ?_ | refine Zf ‹_› ?_ | refine touch_go rfl ?_ | refine eff_go rfl ?_ | fail
    try
      simp only [↓reduceIte, reduceCtorEq, reduceEqDiff, reduceAdd, reduceMul, reduceSub, reduceLeDiff, reduceEq, reduceLT, reduceLE, go_sem, h2]
      repeat' first | refine Z1 fun _ _ => ?_ | refine Z2 ‹_› ?_ | ((first | refine Z3 tb_ok lv37 rfl ?_ | refine Z4 tb_ok mix lv37 bs37 rfl (by kernel_rfl) rfl ?_ | refine ret_eq rfl ?_); simp only [↓reduceIte, reduceCtorEq, reduceEqDiff, reduceAdd, reduceMul, reduceSub, reduceLeDiff, reduceEq, reduceLT, reduceLE, go_sem]) | (refine Z5 rfl ?_; with_reducible first | refine condQ_T ?_ | refine condQ_F ?_) | refine Z6 ?_ | refine Z8 ?_ | refine Z9 fun _ _ => ?_ | refine Za ‹_› ?_ | refine Zc ‹_› trivial ?_ | refine Zf ‹_› ?_ | refine touch_go rfl ?_ | refine eff_go rfl ?_ | fail
    first | done | rfl
  case false.true =>
    have hw' : (T.two 4 a b).wr v = none := by
      rw [hw]
      rfl
    rw [hw']
    refine PCon.enter tb_ok (fn := Try.f37) (by kernel_rfl) (by kernel_rfl) rfl (by show 3 ≤ 236; decide) ?_
    repeat' first | refine Z1 fun _ _ => ?_ | refine Z2 ‹_› ?_ | ((first | refine Z3 tb_ok lv37 rfl ?_ | refine Z4 tb_ok mix lv37 bs37 rfl (by kernel_rfl) rfl ?_ | refine ret_eq rfl ?_); simp only [↓reduceIte, reduceCtorEq, reduceEqDiff, reduceAdd, reduceMul, reduceSub, reduceLeDiff, reduceEq, reduceLT, reduceLE, go_sem]) | (refine Z5 rfl ?_; with_reducible first | refine condQ_T ?_ | refine condQ_F ?_) | refine Z6 ?_ | refine Z8 ?_ | refine Z9 fun _ _ => ?_ | refine Za ‹_› ?_ | refine Zc ‹_› trivial ?_ | refine Zf ‹_› ?_ | refine touch_go rfl ?_ | refine eff_go rfl ?_ | fail
    refine idx_map Nd.z rfl rfl rfl rfl rfl (by omega) (by omega) rfl ?_
    simp only [Int.toNat_natCast, hr, T.root]
    simp only [↓reduceIte, reduceCtorEq, reduceEqDiff, reduceAdd, reduceMul, reduceSub, reduceLeDiff, reduceEq, reduceLT, reduceLE, go_sem]
    repeat' first | refine Z1 fun _ _ => ?_ | refine Z2 ‹_› ?_ | ((first | refine Z3 tb_ok lv37 rfl ?_ | refine Z4 tb_ok mix lv37 bs37 rfl (by kernel_rfl) rfl ?_ | refine ret_eq rfl ?_); simp only [↓reduceIte, reduceCtorEq, reduceEqDiff, reduceAdd, reduceMul, reduceSub, reduceLeDiff, reduceEq, reduceLT, reduceLE, go_sem]) | (refine Z5 rfl ?_; with_reducible first | refine condQ_T ?_ | refine condQ_F ?_) | refine Z6 ?_ | refine Z8 ?_ | refine Z9 fun _ _ => ?_ | refine Za ‹_› ?_ | refine Zc ‹_› trivial ?_ | refine Zf ‹_› ?_ | refine touch_go rfl ?_ | refine eff_go rfl ?_ | fail
    refine call_pure rfl rfl (hb0) ?_; simp only [↓reduceIte, reduceCtorEq, reduceEqDiff, reduceAdd, reduceMul, reduceSub, reduceLeDiff, reduceEq, reduceLT, reduceLE, go_sem]
    repeat' first | refine Z1 fun _ _ => ?_ | refine Z2 ‹_› ?_ | ((first | refine Z3 tb_ok lv37 rfl ?_ | refine Z4 tb_ok mix lv37 bs37 rfl (by kernel_rfl) rfl ?_ | refine ret_eq rfl ?_); simp only [↓reduceIte, reduceCtorEq, reduceEqDiff, reduceAdd, reduceMul, reduceSub, reduceLeDiff, reduceEq, reduceLT, reduceLE, go_sem]) | (refine Z5 rfl ?_; with_reducible first | refine condQ_T ?_ | refine condQ_F ?_) | refine Z6 ?_ | refine Z8 ?_ | refine Z9 fun _ _ => ?_ | refine Za ‹_› ?_ | refine Zc ‹_› trivial ?_ | refine Zf ‹_› ?_ | refine touch_go rfl ?_ | refine eff_go rfl ?_ | fail
    try
      simp only [↓reduceIte, reduceCtorEq, reduceEqDiff, reduceAdd, reduceMul, reduceSub, reduceLeDiff, reduceEq, reduceLT, reduceLE, go_sem, h2]
      repeat' first | refine Z1 fun _ _ => ?_ | refine Z2 ‹_› ?_ | ((first | refine Z3 tb_ok lv37 rfl ?_ | refine Z4 tb_ok mix lv37 bs37 rfl (by kernel_rfl) rfl ?_ | refine ret_eq rfl ?_); simp only [↓reduceIte, reduceCtorEq, reduceEqDiff, reduceAdd, reduceMul, reduceSub, reduceLeDiff, reduceEq, reduceLT, reduceLE, go_sem]) | (refine Z5 rfl ?_; with_reducible first | refine condQ_T ?_ | refine condQ_F ?_) | refine Z6 ?_ | refine Z8 ?_ | refine Z9 fun _ _ => ?_ | refine Za ‹_› ?_ | refine Zc ‹_› trivial ?_ | refine Zf ‹_› ?_ | refine touch_go rfl ?_ | refine eff_go rfl ?_ | fail
    first | done | rfl
  case true.false =>
    have hw' : (T.two 4 a b).wr v = none := by
      rw [hw]
      exact no_twoK h2
    rw [hw']
    refine PCon.enter tb_ok (fn := Try.f37) (by kernel_rfl) (by kernel_rfl) rfl (by show 3 ≤ 236; decide) ?_
    repeat' first | refine Z1 fun _ _ => ?_ | refine Z2 ‹_› ?_ | ((first | refine Z3 tb_ok lv37 rfl ?_ | refine Z4 tb_ok mix lv37 bs37 rfl (by kernel_rfl) rfl ?_ | refine ret_eq rfl ?_); simp only [↓reduceIte, reduceCtorEq, reduceEqDiff, reduceAdd, reduceMul, reduceSub, reduceLeDiff, reduceEq, reduceLT, reduceLE, go_sem]) | (refine Z5 rfl ?_; with_reducible first | refine condQ_T ?_ | refine condQ_F ?_) | refine Z6 ?_ | refine Z8 ?_ | refine Z9 fun _ _ => ?_ | refine Za ‹_› ?_ | refine Zc ‹_› trivial ?_ | refine Zf ‹_› ?_ | refine touch_go rfl ?_ | refine eff_go rfl ?_ | fail
    refine idx_map Nd.z rfl rfl rfl rfl rfl (by omega) (by omega) rfl ?_
    simp only [Int.toNat_natCast, hr, T.root]
    simp only [↓reduceIte, reduceCtorEq, reduceEqDiff, reduceAdd, reduceMul, reduceSub, reduceLeDiff, reduceEq, reduceLT, reduceLE, go_sem]
    repeat' first | refine Z1 fun _ _ => ?_ | refine Z2 ‹_› ?_ | ((first | refine Z3 tb_ok lv37 rfl ?_ | refine Z4 tb_ok mix lv37 bs37 rfl (by kernel_rfl) rfl ?_ | refine ret_eq rfl ?_); simp only [↓reduceIte, reduceCtorEq, reduceEqDiff, reduceAdd, reduceMul, reduceSub, reduceLeDiff, reduceEq, reduceLT, reduceLE, go_sem]) | (refine Z5 rfl ?_; with_reducible first | refine condQ_T ?_ | refine condQ_F ?_) | refine Z6 ?_ | refine Z8 ?_ | refine Z9 fun _ _ => ?_ | refine Za ‹_› ?_ | refine Zc ‹_› trivial ?_ | refine Zf ‹_› ?_ | refine touch_go rfl ?_ | refine eff_go rfl ?_ | fail
    refine call_pure rfl rfl (hb0) ?_; simp only [↓reduceIte, reduceCtorEq, reduceEqDiff, reduceAdd, reduceMul, reduceSub, reduceLeDiff, reduceEq, reduceLT, reduceLE, go_sem]
    repeat' first | refine Z1 fun _ _ => ?_ | refine Z2 ‹_› ?_ | ((first | refine Z3 tb_ok lv37 rfl ?_ | refine Z4 tb_ok mix lv37 bs37 rfl (by kernel_rfl) rfl ?_ | refine ret_eq rfl ?_); simp only [↓reduceIte, reduceCtorEq, reduceEqDiff, reduceAdd, reduceMul, reduceSub, reduceLeDiff, reduceEq, reduceLT, reduceLE, go_sem]) | (refine Z5 rfl ?_; with_reducible first | refine condQ_T ?_ | refine condQ_F ?_) | refine Z6 ?_ | refine Z8 ?_ | refine Z9 fun _ _ => ?_ | refine Za ‹_› ?_ | refine Zc ‹_› trivial ?_ | refine Zf ‹_› ?_ | refine touch_go rfl ?_ | refine eff_go rfl ?_ | fail
    try
      simp only [↓reduceIte, reduceCtorEq, reduceEqDiff, reduceAdd, reduceMul, reduceSub, reduceLeDiff, reduceEq, reduceLT, reduceLE, go_sem, h2]
      repeat' first | refine Z1 fun _ _ => ?_ | refine Z2 ‹_› ?_ | ((first | refine Z3 tb_ok lv37 rfl ?_ | refine Z4 tb_ok mix lv37 bs37 rfl (by kernel_rfl) rfl ?_ | refine ret_eq rfl ?_); simp only [↓reduceIte, reduceCtorEq, reduceEqDiff, reduceAdd, reduceMul, reduceSub, reduceLeDiff, reduceEq, reduceLT, reduceLE, go_sem]) | (refine Z5 rfl ?_; with_reducible first | refine condQ_T ?_ | refine condQ_F ?_) | refine Z6 ?_ | refine Z8 ?_ | refine Z9 fun _ _ => ?_ | refine Za ‹_› ?_ | refine Zc ‹_› trivial ?_ | refine Zf ‹_› ?_ | refine touch_go rfl ?_ | refine eff_go rfl ?_ | fail
    first | done | rfl
set_option maxRecDepth 4000 in
set_option maxHeartbeats 1000000 in
theorem c_writeE {gl} {l : List Nd} (hl : l.length ≤ 1048576) {off : Nat} {a b : T} (iha : WrC gl l off a) (ihb : WrC gl l (off + a.n) b) (hs : Sits l off (T.two 5 a b)) : WrC gl l off (T.two 5 a b) := by
  intro v hv hwf
  have hp := T.n_pos (T.two 5 a b)
  have hr := hs.getD Nd.z
  have hlt := hs.lt
  have hb0 := c_bare (gl := gl) (v := v) (u := .mk 5 0 .empty 0 [])
  simp only [Vl.kind_mk, Vl.byte_mk, Vl.text_mk, Vl.pick_mk] at hb0
  have hb1 := c_bare (gl := gl) (v := v) (u := .mk 5 0 .empty 1 [])
  simp only [Vl.kind_mk, Vl.byte_mk, Vl.text_mk, Vl.pick_mk] at hb1
  have hw : (T.two 5 a b).wr v = if v.plain 5 0 .empty 0 then (match v.kids with
      | [x] => a.wr x
      | _ => none) else if v.plain 5 0 .empty 1 then (match v.kids with
      | [x] => b.wr x
      | _ => none) else none := by rw [T.wr.eq_def]; rfl
  cases h1 : v.plain 5 0 .empty 0 <;> cases h3 : v.plain 5 0 .empty 1 <;> cases h2 : decide ((v.kids.length : Int) = 1)
  all_goals
    rw [h1] at hb0 hw
    rw [h3] at hb1 hw
    simp only [if_true, Bool.false_eq_true, if_false] at hw
  case true.true.false | true.true.true =>
    rw [Vl.plain_iff] at h1 h3
    omega
  case true.false.true =>
    obtain ⟨x, hx⟩ := match_one (α := Unit) h2
    have hk := c_kids (gl := gl) (l := l) (nodes := [((off + (a.n - 1) : Nat) : Int)]) (full := false) (v := v) (F := fun _ => a.wr) hv (by simp) (by simp) (fun i hi p hp => wr_bd (kid_bulk hv hi) hp) (fun i hi => by rw [one_getD]; exact iha _ (kid_bulk hv hi) (hwf.kid (getD_mem hi)))
    have hg : gathI (fun _ => a.wr) false 0 v.kids = (T.two 5 a b).wr v := by
      rw [hw, hx, gath_one]
    rw [hg] at hk
    clear hw hg
    refine PCon.enter tb_ok (fn := Try.f37) (by kernel_rfl) (by kernel_rfl) rfl (by show 3 ≤ 236; decide) ?_
    repeat' first | refine Z1 fun _ _ => ?_ | refine Z2 ‹_› ?_ | ((first | refine Z3 tb_ok lv37 rfl ?_ | refine Z4 tb_ok mix lv37 bs37 rfl (by kernel_rfl) rfl ?_ | refine ret_eq rfl ?_); simp only [↓reduceIte, reduceCtorEq, reduceEqDiff, reduceAdd, reduceMul, reduceSub, reduceLeDiff, reduceEq, reduceLT, reduceLE, go_sem]) | (refine Z5 rfl ?_; with_reducible first | refine condQ_T ?_ | refine condQ_F ?_) | refine Z6 ?_ | refine Z8 ?_ | refine Z9 fun _ _ => ?_ | refine Za ‹_› ?_ | refine Zc ‹_› trivial ?_ | refine Zf ‹_› ?_ | refine touch_go rfl ?_ | refine eff_go rfl ?_ | fail
    refine idx_map Nd.z rfl rfl rfl rfl rfl (by omega) (by omega) rfl ?_
    simp only [Int.toNat_natCast, hr, T.root]
    simp only [↓reduceIte, reduceCtorEq, reduceEqDiff, reduceAdd, reduceMul, reduceSub, reduceLeDiff, reduceEq, reduceLT, reduceLE, go_sem]
    repeat' first | refine Z1 fun _ _ => ?_ | refine Z2 ‹_› ?_ | ((first | refine Z3 tb_ok lv37 rfl ?_ | refine Z4 tb_ok mix lv37 bs37 rfl (by kernel_rfl) rfl ?_ | refine ret_eq rfl ?_); simp only [↓reduceIte, reduceCtorEq, reduceEqDiff, reduceAdd, reduceMul, reduceSub, reduceLeDiff, reduceEq, reduceLT, reduceLE, go_sem]) | (refine Z5 rfl ?_; with_reducible first | refine condQ_T ?_ | refine condQ_F ?_) | refine Z6 ?_ | refine Z8 ?_ | refine Z9 fun _ _ => ?_ | refine Za ‹_› ?_ | refine Zc ‹_› trivial ?_ | refine Zf ‹_› ?_ | refine touch_go rfl ?_ | refine eff_go rfl ?_ | fail
    refine call_pure rfl rfl (hb0) ?_; simp only [↓reduceIte, reduceCtorEq, reduceEqDiff, reduceAdd, reduceMul, reduceSub, reduceLeDiff, reduceEq, reduceLT, reduceLE, go_sem]
    repeat' first | refine Z1 fun _ _ => ?_ | refine Z2 ‹_› ?_ | ((first | refine Z3 tb_ok lv37 rfl ?_ | refine Z4 tb_ok mix lv37 bs37 rfl (by kernel_rfl) rfl ?_ | refine ret_eq rfl ?_); simp only [↓reduceIte, reduceCtorEq, reduceEqDiff, reduceAdd, reduceMul, reduceSub, reduceLeDiff, reduceEq, reduceLT, reduceLE, go_sem]) | (refine Z5 rfl ?_; with_reducible first | refine condQ_T ?_ | refine condQ_F ?_) | refine Z6 ?_ | refine Z8 ?_ | refine Z9 fun _ _ => ?_ | refine Za ‹_› ?_ | refine Zc ‹_› trivial ?_ | refine Zf ‹_› ?_ | refine touch_go rfl ?_ | refine eff_go rfl ?_ | fail
    refine call_pure rfl rfl (hb0) ?_; simp only [↓reduceIte, reduceCtorEq, reduceEqDiff, reduceAdd, reduceMul, reduceSub, reduceLeDiff, reduceEq, reduceLT, reduceLE, go_sem]
    repeat' first | refine Z1 fun _ _ => ?_ | refine Z2 ‹_› ?_ | ((first | refine Z3 tb_ok lv37 rfl ?_ | refine Z4 tb_ok mix lv37 bs37 rfl (by kernel_rfl) rfl ?_ | refine ret_eq rfl ?_); simp only [↓reduceIte, reduceCtorEq, reduceEqDiff, reduceAdd, reduceMul, reduceSub, reduceLeDiff, reduceEq, reduceLT, reduceLE, go_sem]) | (refine Z5 rfl ?_; with_reducible first | refine condQ_T ?_ | refine condQ_F ?_) | refine Z6 ?_ | refine Z8 ?_ | refine Z9 fun _ _ => ?_ | refine Za ‹_› ?_ | refine Zc ‹_› trivial ?_ | refine Zf ‹_› ?_ | refine touch_go rfl ?_ | refine eff_go rfl ?_ | fail
    simp only [↓reduceIte, reduceCtorEq, reduceEqDiff, reduceAdd, reduceMul, reduceSub, reduceLeDiff, reduceEq, reduceLT, reduceLE, go_sem, h2]
    repeat' first | refine Z1 fun _ _ => ?_ | refine Z2 ‹_› ?_ | ((first | refine Z3 tb_ok lv37 rfl ?_ | refine Z4 tb_ok mix lv37 bs37 rfl (by kernel_rfl) rfl ?_ | refine ret_eq rfl ?_); simp only [↓reduceIte, reduceCtorEq, reduceEqDiff, reduceAdd, reduceMul, reduceSub, reduceLeDiff, reduceEq, reduceLT, reduceLE, go_sem]) | (refine Z5 rfl ?_; with_reducible first | refine condQ_T ?_ | refine condQ_F ?_) | refine Z6 ?_ | refine Z8 ?_ | refine Z9 fun _ _ => ?_ | refine Za ‹_› ?_ | refine Zc ‹_› trivial ?_ | refine Zf ‹_› ?_ | refine touch_go rfl ?_ | refine eff_go rfl ?_ | fail
    refine call_pure rfl rfl (hk) ?_; simp only [↓reduceIte, reduceCtorEq, reduceEqDiff, reduceAdd, reduceMul, reduceSub, reduceLeDiff, reduceEq, reduceLT, reduceLE, go_sem]
    repeat' first | refine Z1 fun _ _ => ?_ | refine Z2 ‹_› ?_ | ((first | refine Z3 tb_ok lv37 rfl ?_ | refine Z4 tb_ok mix lv37 bs37 rfl (by kernel_rfl) rfl ?_ | refine ret_eq rfl ?_); simp only [↓reduceIte, reduceCtorEq, reduceEqDiff, reduceAdd, reduceMul, reduceSub, reduceLeDiff, reduceEq, reduceLT, reduceLE, go_sem]) | (refine Z5 rfl ?_; with_reducible first | refine condQ_T ?_ | refine condQ_F ?_) | refine Z6 ?_ | refine Z8 ?_ | refine Z9 fun _ _ => ?_ | refine Za ‹_› ?_ | refine Zc ‹_› trivial ?_ | refine Zf ‹_› ?_ | refine touch_go rfl ?_ | refine eff_go rfl ?_ | fail
  case false.true.true =>
    obtain ⟨x, hx⟩ := match_one (α := Unit) h2
    have hk := c_kids (gl := gl) (l := l) (nodes := [((off + a.n + (b.n - 1) : Nat) : Int)]) (full := false) (v := v) (F := fun _ => b.wr) hv (by simp) (by simp) (fun i hi p hp => wr_bd (kid_bulk hv hi) hp) (fun i hi => by rw [one_getD]; exact ihb _ (kid_bulk hv hi) (hwf.kid (getD_mem hi)))
    have hg : gathI (fun _ => b.wr) false 0 v.kids = (T.two 5 a b).wr v := by
      rw [hw, hx, gath_one]
    rw [hg] at hk
    clear hw hg
    refine PCon.enter tb_ok (fn := Try.f37) (by kernel_rfl) (by kernel_rfl) rfl (by show 3 ≤ 236; decide) ?_
    repeat' first | refine Z1 fun _ _ => ?_ | refine Z2 ‹_› ?_ | ((first | refine Z3 tb_ok lv37 rfl ?_ | refine Z4 tb_ok mix lv37 bs37 rfl (by kernel_rfl) rfl ?_ | refine ret_eq rfl ?_); simp only [↓reduceIte, reduceCtorEq, reduceEqDiff, reduceAdd, reduceMul, reduceSub, reduceLeDiff, reduceEq, reduceLT, reduceLE, go_sem]) | (refine Z5 rfl ?_; with_reducible first | refine condQ_T ?_ | refine condQ_F ?_) | refine Z6 ?_ | refine Z8 ?_ | refine Z9 fun _ _ => ?_ | refine Za ‹_› ?_ | refine Zc ‹_› trivial ?_ | refine Zf ‹_› ?_ | refine touch_go rfl ?_ | refine eff_go rfl ?_ | fail
    refine idx_map Nd.z rfl rfl rfl rfl rfl (by omega) (by omega) rfl ?_
    simp only [Int.toNat_natCast, hr, T.root]
    simp only [↓reduceIte, reduceCtorEq, reduceEqDiff, reduceAdd, reduceMul, reduceSub, reduceLeDiff, reduceEq, reduceLT, reduceLE, go_sem]
    repeat' first | refine Z1 fun _ _ => ?_ | refine Z2 ‹_› ?_ | ((first | refine Z3 tb_ok lv37 rfl ?_ | refine Z4 tb_ok mix lv37 bs37 rfl (by kernel_rfl) rfl ?_ | refine ret_eq rfl ?_); simp only [↓reduceIte, reduceCtorEq, reduceEqDiff, reduceAdd, reduceMul, reduceSub, reduceLeDiff, reduceEq, reduceLT, reduceLE, go_sem]) | (refine Z5 rfl ?_; with_reducible first | refine condQ_T ?_ | refine condQ_F ?_) | refine Z6 ?_ | refine Z8 ?_ | refine Z9 fun _ _ => ?_ | refine Za ‹_› ?_ | refine Zc ‹_› trivial ?_ | refine Zf ‹_› ?_ | refine touch_go rfl ?_ | refine eff_go rfl ?_ | fail
    refine call_pure rfl rfl (hb0) ?_; simp only [↓reduceIte, reduceCtorEq, reduceEqDiff, reduceAdd, reduceMul, reduceSub, reduceLeDiff, reduceEq, reduceLT, reduceLE, go_sem]
    repeat' first | refine Z1 fun _ _ => ?_ | refine Z2 ‹_› ?_ | ((first | refine Z3 tb_ok lv37 rfl ?_ | refine Z4 tb_ok mix lv37 bs37 rfl (by kernel_rfl) rfl ?_ | refine ret_eq rfl ?_); simp only [↓reduceIte, reduceCtorEq, reduceEqDiff, reduceAdd, reduceMul, reduceSub, reduceLeDiff, reduceEq, reduceLT, reduceLE, go_sem]) | (refine Z5 rfl ?_; with_reducible first | refine condQ_T ?_ | refine condQ_F ?_) | refine Z6 ?_ | refine Z8 ?_ | refine Z9 fun _ _ => ?_ | refine Za ‹_› ?_ | refine Zc ‹_› trivial ?_ | refine Zf ‹_› ?_ | refine touch_go rfl ?_ | refine eff_go rfl ?_ | fail
    refine call_pure rfl rfl (hb0) ?_; simp only [↓reduceIte, reduceCtorEq, reduceEqDiff, reduceAdd, reduceMul, reduceSub, reduceLeDiff, reduceEq, reduceLT, reduceLE, go_sem]
    repeat' first | refine Z1 fun _ _ => ?_ | refine Z2 ‹_› ?_ | ((first | refine Z3 tb_ok lv37 rfl ?_ | refine Z4 tb_ok mix lv37 bs37 rfl (by kernel_rfl) rfl ?_ | refine ret_eq rfl ?_); simp only [↓reduceIte, reduceCtorEq, reduceEqDiff, reduceAdd, reduceMul, reduceSub, reduceLeDiff, reduceEq, reduceLT, reduceLE, go_sem]) | (refine Z5 rfl ?_; with_reducible first | refine condQ_T ?_ | refine condQ_F ?_) | refine Z6 ?_ | refine Z8 ?_ | refine Z9 fun _ _ => ?_ | refine Za ‹_› ?_ | refine Zc ‹_› trivial ?_ | refine Zf ‹_› ?_ | refine touch_go rfl ?_ | refine eff_go rfl ?_ | fail
    refine call_pure rfl rfl (hb1) ?_; simp only [↓reduceIte, reduceCtorEq, reduceEqDiff, reduceAdd, reduceMul, reduceSub, reduceLeDiff, reduceEq, reduceLT, reduceLE, go_sem]
    repeat' first | refine Z1 fun _ _ => ?_ | refine Z2 ‹_› ?_ | ((first | refine Z3 tb_ok lv37 rfl ?_ | refine Z4 tb_ok mix lv37 bs37 rfl (by kernel_rfl) rfl ?_ | refine ret_eq rfl ?_); simp only [↓reduceIte, reduceCtorEq, reduceEqDiff, reduceAdd, reduceMul, reduceSub, reduceLeDiff, reduceEq, reduceLT, reduceLE, go_sem]) | (refine Z5 rfl ?_; with_reducible first | refine condQ_T ?_ | refine condQ_F ?_) | refine Z6 ?_ | refine Z8 ?_ | refine Z9 fun _ _ => ?_ | refine Za ‹_› ?_ | refine Zc ‹_› trivial ?_ | refine Zf ‹_› ?_ | refine touch_go rfl ?_ | refine eff_go rfl ?_ | fail
    simp only [↓reduceIte, reduceCtorEq, reduceEqDiff, reduceAdd, reduceMul, reduceSub, reduceLeDiff, reduceEq, reduceLT, reduceLE, go_sem, h2]
    repeat' first | refine Z1 fun _ _ => ?_ | refine Z2 ‹_› ?_ | ((first | refine Z3 tb_ok lv37 rfl ?_ | refine Z4 tb_ok mix lv37 bs37 rfl (by kernel_rfl) rfl ?_ | refine ret_eq rfl ?_); simp only [↓reduceIte, reduceCtorEq, reduceEqDiff, reduceAdd, reduceMul, reduceSub, reduceLeDiff, reduceEq, reduceLT, reduceLE, go_sem]) | (refine Z5 rfl ?_; with_reducible first | refine condQ_T ?_ | refine condQ_F ?_) | refine Z6 ?_ | refine Z8 ?_ | refine Z9 fun _ _ => ?_ | refine Za ‹_› ?_ | refine Zc ‹_› trivial ?_ | refine Zf ‹_› ?_ | refine touch_go rfl ?_ | refine eff_go rfl ?_ | fail
    refine call_pure rfl rfl (hk) ?_; simp only [↓reduceIte, reduceCtorEq, reduceEqDiff, reduceAdd, reduceMul, reduceSub, reduceLeDiff, reduceEq, reduceLT, reduceLE, go_sem]
    repeat' first | refine Z1 fun _ _ => ?_ | refine Z2 ‹_› ?_ | ((first | refine Z3 tb_ok lv37 rfl ?_ | refine Z4 tb_ok mix lv37 bs37 rfl (by kernel_rfl) rfl ?_ | refine ret_eq rfl ?_); simp only [↓reduceIte, reduceCtorEq, reduceEqDiff, reduceAdd, reduceMul, reduceSub, reduceLeDiff, reduceEq, reduceLT, reduceLE, go_sem]) | (refine Z5 rfl ?_; with_reducible first | refine condQ_T ?_ | refine condQ_F ?_) | refine Z6 ?_ | refine Z8 ?_ | refine Z9 fun _ _ => ?_ | refine Za ‹_› ?_ | refine Zc ‹_› trivial ?_ | refine Zf ‹_› ?_ | refine touch_go rfl ?_ | refine eff_go rfl ?_ | fail
  case true.false.false =>
    have hw' : (T.two 5 a b).wr v = none := by
      rw [hw]; exact no_oneK h2
    rw [hw']
    refine PCon.enter tb_ok (fn := Try.f37) (by kernel_rfl) (by kernel_rfl) rfl (by show 3 ≤ 236; decide) ?_
    repeat' first | refine Z1 fun _ _ => ?_ | refine Z2 ‹_› ?_ | ((first | refine Z3 tb_ok lv37 rfl ?_ | refine Z4 tb_ok mix lv37 bs37 rfl (by kernel_rfl) rfl ?_ | refine ret_eq rfl ?_); simp only [↓reduceIte, reduceCtorEq, reduceEqDiff, reduceAdd, reduceMul, reduceSub, reduceLeDiff, reduceEq, reduceLT, reduceLE, go_sem]) | (refine Z5 rfl ?_; with_reducible first | refine condQ_T ?_ | refine condQ_F ?_) | refine Z6 ?_ | refine Z8 ?_ | refine Z9 fun _ _ => ?_ | refine Za ‹_› ?_ | refine Zc ‹_› trivial ?_ | refine Zf ‹_› ?_ | refine touch_go rfl ?_ | refine eff_go rfl ?_ | fail
    refine idx_map Nd.z rfl rfl rfl rfl rfl (by omega) (by omega) rfl ?_
    simp only [Int.toNat_natCast, hr, T.root]
    simp only [↓reduceIte, reduceCtorEq, reduceEqDiff, reduceAdd, reduceMul, reduceSub, reduceLeDiff, reduceEq, reduceLT, reduceLE, go_sem]
    repeat' first | refine Z1 fun _ _ => ?_ | refine Z2 ‹_› ?_ | ((first | refine Z3 tb_ok lv37 rfl ?_ | refine Z4 tb_ok mix lv37 bs37 rfl (by kernel_rfl) rfl ?_ | refine ret_eq rfl ?_); simp only [↓reduceIte, reduceCtorEq, reduceEqDiff, reduceAdd, reduceMul, reduceSub, reduceLeDiff, reduceEq, reduceLT, reduceLE, go_sem]) | (refine Z5 rfl ?_; with_reducible first | refine condQ_T ?_ | refine condQ_F ?_) | refine Z6 ?_ | refine Z8 ?_ | refine Z9 fun _ _ => ?_ | refine Za ‹_› ?_ | refine Zc ‹_› trivial ?_ | refine Zf ‹_› ?_ | refine touch_go rfl ?_ | refine eff_go rfl ?_ | fail
    refine call_pure rfl rfl (hb0) ?_; simp only [↓reduceIte, reduceCtorEq, reduceEqDiff, reduceAdd, reduceMul, reduceSub, reduceLeDiff, reduceEq, reduceLT, reduceLE, go_sem]
    repeat' first | refine Z1 fun _ _ => ?_ | refine Z2 ‹_› ?_ | ((first | refine Z3 tb_ok lv37 rfl ?_ | refine Z4 tb_ok mix lv37 bs37 rfl (by kernel_rfl) rfl ?_ | refine ret_eq rfl ?_); simp only [↓reduceIte, reduceCtorEq, reduceEqDiff, reduceAdd, reduceMul, reduceSub, reduceLeDiff, reduceEq, reduceLT, reduceLE, go_sem]) | (refine Z5 rfl ?_; with_reducible first | refine condQ_T ?_ | refine condQ_F ?_) | refine Z6 ?_ | refine Z8 ?_ | refine Z9 fun _ _ => ?_ | refine Za ‹_› ?_ | refine Zc ‹_› trivial ?_ | refine Zf ‹_› ?_ | refine touch_go rfl ?_ | refine eff_go rfl ?_ | fail
    refine call_pure rfl rfl (hb0) ?_; simp only [↓reduceIte, reduceCtorEq, reduceEqDiff, reduceAdd, reduceMul, reduceSub, reduceLeDiff, reduceEq, reduceLT, reduceLE, go_sem]
    repeat' first | refine Z1 fun _ _ => ?_ | refine Z2 ‹_› ?_ | ((first | refine Z3 tb_ok lv37 rfl ?_ | refine Z4 tb_ok mix lv37 bs37 rfl (by kernel_rfl) rfl ?_ | refine ret_eq rfl ?_); simp only [↓reduceIte, reduceCtorEq, reduceEqDiff, reduceAdd, reduceMul, reduceSub, reduceLeDiff, reduceEq, reduceLT, reduceLE, go_sem]) | (refine Z5 rfl ?_; with_reducible first | refine condQ_T ?_ | refine condQ_F ?_) | refine Z6 ?_ | refine Z8 ?_ | refine Z9 fun _ _ => ?_ | refine Za ‹_› ?_ | refine Zc ‹_› trivial ?_ | refine Zf ‹_› ?_ | refine touch_go rfl ?_ | refine eff_go rfl ?_ | fail
    try
      simp only [↓reduceIte, reduceCtorEq, reduceEqDiff, reduceAdd, reduceMul, reduceSub, reduceLeDiff, reduceEq, reduceLT, reduceLE, go_sem, h2]
      repeat' first | refine Z1 fun _ _ => ?_ | refine Z2 ‹_› ?_ | ((first | refine Z3 tb_ok lv37 rfl ?_ | refine Z4 tb_ok mix lv37 bs37 rfl (by kernel_rfl) rfl ?_ | refine ret_eq rfl ?_); simp only [↓reduceIte, reduceCtorEq, reduceEqDiff, reduceAdd, reduceMul, reduceSub, reduceLeDiff, reduceEq, reduceLT, reduceLE, go_sem]) | (refine Z5 rfl ?_; with_reducible first | refine condQ_T ?_ | refine condQ_F ?_) | refine Z6 ?_ | refine Z8 ?_ | refine Z9 fun _ _ => ?_ | refine Za ‹_› ?_ | refine Zc ‹_› trivial ?_ | refine Zf ‹_› ?_ | refine touch_go rfl ?_ | refine eff_go rfl ?_ | fail
    refine call_pure rfl rfl (hb1) ?_; simp only [↓reduceIte, reduceCtorEq, reduceEqDiff, reduceAdd, reduceMul, reduceSub, reduceLeDiff, reduceEq, reduceLT, reduceLE, go_sem]
    repeat' first | refine Z1 fun _ _ => ?_ | refine Z2 ‹_› ?_ | ((first | refine Z3 tb_ok lv37 rfl ?_ | refine Z4 tb_ok mix lv37 bs37 rfl (by kernel_rfl) rfl ?_ | refine ret_eq rfl ?_); simp only [↓reduceIte, reduceCtorEq, reduceEqDiff, reduceAdd, reduceMul, reduceSub, reduceLeDiff, reduceEq, reduceLT, reduceLE, go_sem]) | (refine Z5 rfl ?_; with_reducible first | refine condQ_T ?_ | refine condQ_F ?_) | refine Z6 ?_ | refine Z8 ?_ | refine Z9 fun _ _ => ?_ | refine Za ‹_› ?_ | refine Zc ‹_› trivial ?_ | refine Zf ‹_› ?_ | refine touch_go rfl ?_ | refine eff_go rfl ?_ | fail
    try
      simp only [↓reduceIte, reduceCtorEq, reduceEqDiff, reduceAdd, reduceMul, reduceSub, reduceLeDiff, reduceEq, reduceLT, reduceLE, go_sem, h2]
      repeat' first | refine Z1 fun _ _ => ?_ | refine Z2 ‹_› ?_ | ((first | refine Z3 tb_ok lv37 rfl ?_ | refine Z4 tb_ok mix lv37 bs37 rfl (by kernel_rfl) rfl ?_ | refine ret_eq rfl ?_); simp only [↓reduceIte, reduceCtorEq, reduceEqDiff, reduceAdd, reduceMul, reduceSub, reduceLeDiff, reduceEq, reduceLT, reduceLE, go_sem]) | (refine Z5 rfl ?_; with_reducible first | refine condQ_T ?_ | refine condQ_F ?_) | refine Z6 ?_ | refine Z8 ?_ | refine Z9 fun _ _ => ?_ | refine Za ‹_› ?_ | refine Zc ‹_› trivial ?_ | refine Zf ‹_› ?_ | refine touch_go rfl ?_ | refine eff_go rfl ?_ | fail
    first | done | rfl
  case false.true.false =>
    have hw' : (T.two 5 a b).wr v = none := by
      rw [hw]; exact no_oneK h2
    rw [hw']
    refine PCon.enter tb_ok (fn := Try.f37) (by kernel_rfl) (by kernel_rfl) rfl (by show 3 ≤ 236; decide) ?_
    repeat' first | refine Z1 fun _ _ => ?_ | refine Z2 ‹_› ?_ | ((first | refine Z3 tb_ok lv37 rfl ?_ | refine Z4 tb_ok mix lv37 bs37 rfl (by kernel_rfl) rfl ?_ | refine ret_eq rfl ?_); simp only [↓reduceIte, reduceCtorEq, reduceEqDiff, reduceAdd, reduceMul, reduceSub, reduceLeDiff, reduceEq, reduceLT, reduceLE, go_sem]) | (refine Z5 rfl ?_; with_reducible first | refine condQ_T ?_ | refine condQ_F ?_) | refine Z6 ?_ | refine Z8 ?_ | refine Z9 fun _ _ => ?_ | refine Za ‹_› ?_ | refine Zc ‹_› trivial ?_ | refine Zf ‹_› ?_ | refine touch_go rfl ?_ | refine eff_go rfl ?_ | fail
    refine idx_map Nd.z rfl rfl rfl rfl rfl (by omega) (by omega) rfl ?_
    simp only [Int.toNat_natCast, hr, T.root]
    simp only [↓reduceIte, reduceCtorEq, reduceEqDiff, reduceAdd, reduceMul, reduceSub, reduceLeDiff, reduceEq, reduceLT, reduceLE, go_sem]
    repeat' first | refine Z1 fun _ _ => ?_ | refine Z2 ‹_› ?_ | ((first | refine Z3 tb_ok lv37 rfl ?_ | refine Z4 tb_ok mix lv37 bs37 rfl (by kernel_rfl) rfl ?_ | refine ret_eq rfl ?_); simp only [↓reduceIte, reduceCtorEq, reduceEqDiff, reduceAdd, reduceMul, reduceSub, reduceLeDiff, reduceEq, reduceLT, reduceLE, go_sem]) | (refine Z5 rfl ?_; with_reducible first | refine condQ_T ?_ | refine condQ_F ?_) | refine Z6 ?_ | refine Z8 ?_ | refine Z9 fun _ _ => ?_ | refine Za ‹_› ?_ | refine Zc ‹_› trivial ?_ | refine Zf ‹_› ?_ | refine touch_go rfl ?_ | refine eff_go rfl ?_ | fail
    refine call_pure rfl rfl (hb0) ?_; simp only [↓reduceIte, reduceCtorEq, reduceEqDiff, reduceAdd, reduceMul, reduceSub, reduceLeDiff, reduceEq, reduceLT, reduceLE, go_sem]
    repeat' first | refine Z1 fun _ _ => ?_ | refine Z2 ‹_› ?_ | ((first | refine Z3 tb_ok lv37 rfl ?_ | refine Z4 tb_ok mix lv37 bs37 rfl (by kernel_rfl) rfl ?_ | refine ret_eq rfl ?_); simp only [↓reduceIte, reduceCtorEq, reduceEqDiff, reduceAdd, reduceMul, reduceSub, reduceLeDiff, reduceEq, reduceLT, reduceLE, go_sem]) | (refine Z5 rfl ?_; with_reducible first | refine condQ_T ?_ | refine condQ_F ?_) | refine Z6 ?_ | refine Z8 ?_ | refine Z9 fun _ _ => ?_ | refine Za ‹_› ?_ | refine Zc ‹_› trivial ?_ | refine Zf ‹_› ?_ | refine touch_go rfl ?_ | refine eff_go rfl ?_ | fail
    refine call_pure rfl rfl (hb0) ?_; simp only [↓reduceIte, reduceCtorEq, reduceEqDiff, reduceAdd, reduceMul, reduceSub, reduceLeDiff, reduceEq, reduceLT, reduceLE, go_sem]
    repeat' first | refine Z1 fun _ _ => ?_ | refine Z2 ‹_› ?_ | ((first | refine Z3 tb_ok lv37 rfl ?_ | refine Z4 tb_ok mix lv37 bs37 rfl (by kernel_rfl) rfl ?_ | refine ret_eq rfl ?_); simp only [↓reduceIte, reduceCtorEq, reduceEqDiff, reduceAdd, reduceMul, reduceSub, reduceLeDiff, reduceEq, reduceLT, reduceLE, go_sem]) | (refine Z5 rfl ?_; with_reducible first | refine condQ_T ?_ | refine condQ_F ?_) | refine Z6 ?_ | refine Z8 ?_ | refine Z9 fun _ _ => ?_ | refine Za ‹_› ?_ | refine Zc ‹_› trivial ?_ | refine Zf ‹_› ?_ | refine touch_go rfl ?_ | refine eff_go rfl ?_ | fail
    try
      simp only [↓reduceIte, reduceCtorEq, reduceEqDiff, reduceAdd, reduceMul, reduceSub, reduceLeDiff, reduceEq, reduceLT, reduceLE, go_sem, h2]
      repeat' first | refine Z1 fun _ _ => ?_ | refine Z2 ‹_› ?_ | ((first | refine Z3 tb_ok lv37 rfl ?_ | refine Z4 tb_ok mix lv37 bs37 rfl (by kernel_rfl) rfl ?_ | refine ret_eq rfl ?_); simp only [↓reduceIte, reduceCtorEq, reduceEqDiff, reduceAdd, reduceMul, reduceSub, reduceLeDiff, reduceEq, reduceLT, reduceLE, go_sem]) | (refine Z5 rfl ?_; with_reducible first | refine condQ_T ?_ | refine condQ_F ?_) | refine Z6 ?_ | refine Z8 ?_ | refine Z9 fun _ _ => ?_ | refine Za ‹_› ?_ | refine Zc ‹_› trivial ?_ | refine Zf ‹_› ?_ | refine touch_go rfl ?_ | refine eff_go rfl ?_ | fail
    refine call_pure rfl rfl (hb1) ?_; simp only [↓reduceIte, reduceCtorEq, reduceEqDiff, reduceAdd, reduceMul, reduceSub, reduceLeDiff, reduceEq, reduceLT, reduceLE, go_sem]
    repeat' first | refine Z1 fun _ _ => ?_ | refine Z2 ‹_› ?_ | ((first | refine Z3 tb_ok lv37 rfl ?_ | refine Z4 tb_ok mix lv37 bs37 rfl (by kernel_rfl) rfl ?_ | refine ret_eq rfl ?_); simp only [↓reduceIte, reduceCtorEq, reduceEqDiff, reduceAdd, reduceMul, reduceSub, reduceLeDiff, reduceEq, reduceLT, reduceLE, go_sem]) | (refine Z5 rfl ?_; with_reducible first | refine condQ_T ?_ | refine condQ_F ?_) | refine Z6 ?_ | refine Z8 ?_ | refine Z9 fun _ _ => ?_ | refine Za ‹_› ?_ | refine Zc ‹_› trivial ?_ | refine Zf ‹_› ?_ | refine touch_go rfl ?_ | refine eff_go rfl ?_ | fail
    try
      simp only [↓reduceIte, reduceCtorEq, reduceEqDiff, reduceAdd, reduceMul, reduceSub, reduceLeDiff, reduceEq, reduceLT, reduceLE, go_sem, h2]
      repeat' first | refine Z1 fun _ _ => ?_ | refine Z2 ‹_› ?_ | ((first | refine Z3 tb_ok lv37 rfl ?_ | refine Z4 tb_ok mix lv37 bs37 rfl (by kernel_rfl) rfl ?_ | refine ret_eq rfl ?_); simp only [↓reduceIte, reduceCtorEq, reduceEqDiff, reduceAdd, reduceMul, reduceSub, reduceLeDiff, reduceEq, reduceLT, reduceLE, go_sem]) | (refine Z5 rfl ?_; with_reducible first | refine condQ_T ?_ | refine condQ_F ?_) | refine Z6 ?_ | refine Z8 ?_ | refine Z9 fun _ _ => ?_ | refine Za ‹_› ?_ | refine Zc ‹_› trivial ?_ | refine Zf ‹_› ?_ | refine touch_go rfl ?_ | refine eff_go rfl ?_ | fail
    first | done | rfl
  case false.false.false =>
    have hw' : (T.two 5 a b).wr v = none := by
      exact hw
    rw [hw']
    refine PCon.enter tb_ok (fn := Try.f37) (by kernel_rfl) (by kernel_rfl) rfl (by show 3 ≤ 236; decide) ?_
    repeat' first | refine Z1 fun _ _ => ?_ | refine Z2 ‹_› ?_ | ((first | refine Z3 tb_ok lv37 rfl ?_ | refine Z4 tb_ok mix lv37 bs37 rfl (by kernel_rfl) rfl ?_ | refine ret_eq rfl ?_); simp only [↓reduceIte, reduceCtorEq, reduceEqDiff, reduceAdd, reduceMul, reduceSub, reduceLeDiff, reduceEq, reduceLT, reduceLE, go_sem]) | (refine Z5 rfl ?_; with_reducible first | refine condQ_T ?_ | refine condQ_F ?_) | refine Z6 ?_ | refine Z8 ?_ | refine Z9 fun _ _ => ?_ | refine Za ‹_› ?_ | refine Zc ‹_› trivial ?_ | refine Zf ‹_› ?_ | refine touch_go rfl ?_ | refine eff_go rfl ?_ | fail
    refine idx_map Nd.z rfl rfl rfl rfl rfl (by omega) (by omega) rfl ?_
    simp only [Int.toNat_natCast, hr, T.root]
    simp only [↓reduceIte, reduceCtorEq, reduceEqDiff, reduceAdd, reduceMul, reduceSub, reduceLeDiff, reduceEq, reduceLT, reduceLE, go_sem]
    repeat' first | refine Z1 fun _ _ => ?_ | refine Z2 ‹_› ?_ | ((first | refine Z3 tb_ok lv37 rfl ?_ | refine Z4 tb_ok mix lv37 bs37 rfl (by kernel_rfl) rfl ?_ | refine ret_eq rfl ?_); simp only [↓reduceIte, reduceCtorEq, reduceEqDiff, reduceAdd, reduceMul, reduceSub, reduceLeDiff, reduceEq, reduceLT, reduceLE, go_sem]) | (refine Z5 rfl ?_; with_reducible first | refine condQ_T ?_ | refine condQ_F ?_) | refine Z6 ?_ | refine Z8 ?_ | refine Z9 fun _ _ => ?_ | refine Za ‹_› ?_ | refine Zc ‹_› trivial ?_ | refine Zf ‹_› ?_ | refine touch_go rfl ?_ | refine eff_go rfl ?_ | fail
    refine call_pure rfl rfl (hb0) ?_; simp only [↓reduceIte, reduceCtorEq, reduceEqDiff, reduceAdd, reduceMul, reduceSub, reduceLeDiff, reduceEq, reduceLT, reduceLE, go_sem]
    repeat' first | refine Z1 fun _ _ => ?_ | refine Z2 ‹_› ?_ | ((first | refine Z3 tb_ok lv37 rfl ?_ | refine Z4 tb_ok mix lv37 bs37 rfl (by kernel_rfl) rfl ?_ | refine ret_eq rfl ?_); simp only [↓reduceIte, reduceCtorEq, reduceEqDiff, reduceAdd, reduceMul, reduceSub, reduceLeDiff, reduceEq, reduceLT, reduceLE, go_sem]) | (refine Z5 rfl ?_; with_reducible first | refine condQ_T ?_ | refine condQ_F ?_) | refine Z6 ?_ | refine Z8 ?_ | refine Z9 fun _ _ => ?_ | refine Za ‹_› ?_ | refine Zc ‹_› trivial ?_ | refine Zf ‹_› ?_ | refine touch_go rfl ?_ | refine eff_go rfl ?_ | fail
    refine call_pure rfl rfl (hb0) ?_; simp only [↓reduceIte, reduceCtorEq, reduceEqDiff, reduceAdd, reduceMul, reduceSub, reduceLeDiff, reduceEq, reduceLT, reduceLE, go_sem]
    repeat' first | refine Z1 fun _ _ => ?_ | refine Z2 ‹_› ?_ | ((first | refine Z3 tb_ok lv37 rfl ?_ | refine Z4 tb_ok mix lv37 bs37 rfl (by kernel_rfl) rfl ?_ | refine ret_eq rfl ?_); simp only [↓reduceIte, reduceCtorEq, reduceEqDiff, reduceAdd, reduceMul, reduceSub, reduceLeDiff, reduceEq, reduceLT, reduceLE, go_sem]) | (refine Z5 rfl ?_; with_reducible first | refine condQ_T ?_ | refine condQ_F ?_) | refine Z6 ?_ | refine Z8 ?_ | refine Z9 fun _ _ => ?_ | refine Za ‹_› ?_ | refine Zc ‹_› trivial ?_ | refine Zf ‹_› ?_ | refine touch_go rfl ?_ | refine eff_go rfl ?_ | fail
    try
      simp only [↓reduceIte, reduceCtorEq, reduceEqDiff, reduceAdd, reduceMul, reduceSub, reduceLeDiff, reduceEq, reduceLT, reduceLE, go_sem, h2]
      repeat' first | refine Z1 fun _ _ => ?_ | refine Z2 ‹_› ?_ | ((first | refine Z3 tb_ok lv37 rfl ?_ | refine Z4 tb_ok mix lv37 bs37 rfl (by kernel_rfl) rfl ?_ | refine ret_eq rfl ?_); simp only [↓reduceIte, reduceCtorEq, reduceEqDiff, reduceAdd, reduceMul, reduceSub, reduceLeDiff, reduceEq, reduceLT, reduceLE, go_sem]) | (refine Z5 rfl ?_; with_reducible first | refine condQ_T ?_ | refine condQ_F ?_) | refine Z6 ?_ | refine Z8 ?_ | refine Z9 fun _ _ => ?_ | refine Za ‹_› ?_ | refine Zc ‹_› trivial ?_ | refine Zf ‹_› ?_ | refine touch_go rfl ?_ | refine eff_go rfl ?_ | fail
    refine call_pure rfl rfl (hb1) ?_; simp only [↓reduceIte, reduceCtorEq, reduceEqDiff, reduceAdd, reduceMul, reduceSub, reduceLeDiff, reduceEq, reduceLT, reduceLE, go_sem]
    repeat' first | refine Z1 fun _ _ => ?_ | refine Z2 ‹_› ?_ | ((first | refine Z3 tb_ok lv37 rfl ?_ | refine Z4 tb_ok mix lv37 bs37 rfl (by kernel_rfl) rfl ?_ | refine ret_eq rfl ?_); simp only [↓reduceIte, reduceCtorEq, reduceEqDiff, reduceAdd, reduceMul, reduceSub, reduceLeDiff, reduceEq, reduceLT, reduceLE, go_sem]) | (refine Z5 rfl ?_; with_reducible first | refine condQ_T ?_ | refine condQ_F ?_) | refine Z6 ?_ | refine Z8 ?_ | refine Z9 fun _ _ => ?_ | refine Za ‹_› ?_ | refine Zc ‹_› trivial ?_ | refine Zf ‹_› ?_ | refine touch_go rfl ?_ | refine eff_go rfl ?_ | fail
    try
      simp only [↓reduceIte, reduceCtorEq, reduceEqDiff, reduceAdd, reduceMul, reduceSub, reduceLeDiff, reduceEq, reduceLT, reduceLE, go_sem, h2]
      repeat' first | refine Z1 fun _ _ => ?_ | refine Z2 ‹_› ?_ | ((first | refine Z3 tb_ok lv37 rfl ?_ | refine Z4 tb_ok mix lv37 bs37 rfl (by kernel_rfl) rfl ?_ | refine ret_eq rfl ?_); simp only [↓reduceIte, reduceCtorEq, reduceEqDiff, reduceAdd, reduceMul, reduceSub, reduceLeDiff, reduceEq, reduceLT, reduceLE, go_sem]) | (refine Z5 rfl ?_; with_reducible first | refine condQ_T ?_ | refine condQ_F ?_) | refine Z6 ?_ | refine Z8 ?_ | refine Z9 fun _ _ => ?_ | refine Za ‹_› ?_ | refine Zc ‹_› trivial ?_ | refine Zf ‹_› ?_ | refine touch_go rfl ?_ | refine eff_go rfl ?_ | fail
    first | done | rfl
  case false.false.true =>
    have hw' : (T.two 5 a b).wr v = none := by
      exact hw
    rw [hw']
    refine PCon.enter tb_ok (fn := Try.f37) (by kernel_rfl) (by kernel_rfl) rfl (by show 3 ≤ 236; decide) ?_
    repeat' first | refine Z1 fun _ _ => ?_ | refine Z2 ‹_› ?_ | ((first | refine Z3 tb_ok lv37 rfl ?_ | refine Z4 tb_ok mix lv37 bs37 rfl (by kernel_rfl) rfl ?_ | refine ret_eq rfl ?_); simp only [↓reduceIte, reduceCtorEq, reduceEqDiff, reduceAdd, reduceMul, reduceSub, reduceLeDiff, reduceEq, reduceLT, reduceLE, go_sem]) | (refine Z5 rfl ?_; with_reducible first | refine condQ_T ?_ | refine condQ_F ?_) | refine Z6 ?_ | refine Z8 ?_ | refine Z9 fun _ _ => ?_ | refine Za ‹_› ?_ | refine Zc ‹_› trivial ?_ | refine Zf ‹_› ?_ | refine touch_go rfl ?_ | refine eff_go rfl ?_ | fail
    refine idx_map Nd.z rfl rfl rfl rfl rfl (by omega) (by omega) rfl ?_
    simp only [Int.toNat_natCast, hr, T.root]
    simp only [↓reduceIte, reduceCtorEq, reduceEqDiff, reduceAdd, reduceMul, reduceSub, reduceLeDiff, reduceEq, reduceLT, reduceLE, go_sem]
    repeat' first | refine Z1 fun _ _ => ?_ | refine Z2 ‹_› ?_ | ((first | refine Z3 tb_ok lv37 rfl ?_ | refine Z4 tb_ok mix lv37 bs37 rfl (by kernel_rfl) rfl ?_ | refine ret_eq rfl ?_); simp only [↓reduceIte, reduceCtorEq, reduceEqDiff, reduceAdd, reduceMul, reduceSub, reduceLeDiff, reduceEq, reduceLT, reduceLE, go_sem]) | (refine Z5 rfl ?_; with_reducible first | refine condQ_T ?_ | refine condQ_F ?_) | refine Z6 ?_ | refine Z8 ?_ | refine Z9 fun _ _ => ?_ | refine Za ‹_› ?_ | refine Zc ‹_› trivial ?_ | refine Zf ‹_› ?_ | refine touch_go rfl ?_ | refine eff_go rfl ?_ | fail
    refine call_pure rfl rfl (hb0) ?_; simp only [↓reduceIte, reduceCtorEq, reduceEqDiff, reduceAdd, reduceMul, reduceSub, reduceLeDiff, reduceEq, reduceLT, reduceLE, go_sem]
    repeat' first | refine Z1 fun _ _ => ?_ | refine Z2 ‹_› ?_ | ((first | refine Z3 tb_ok lv37 rfl ?_ | refine Z4 tb_ok mix lv37 bs37 rfl (by kernel_rfl) rfl ?_ | refine ret_eq rfl ?_); simp only [↓reduceIte, reduceCtorEq, reduceEqDiff, reduceAdd, reduceMul, reduceSub, reduceLeDiff, reduceEq, reduceLT, reduceLE, go_sem]) | (refine Z5 rfl ?_; with_reducible first | refine condQ_T ?_ | refine condQ_F ?_) | refine Z6 ?_ | refine Z8 ?_ | refine Z9 fun _ _ => ?_ | refine Za ‹_› ?_ | refine Zc ‹_› trivial ?_ | refine Zf ‹_› ?_ | refine touch_go rfl ?_ | refine eff_go rfl ?_ | fail
    refine call_pure rfl rfl (hb0) ?_; simp only [↓reduceIte, reduceCtorEq, reduceEqDiff, reduceAdd, reduceMul, reduceSub, reduceLeDiff, reduceEq, reduceLT, reduceLE, go_sem]
    repeat' first | refine Z1 fun _ _ => ?_ | refine Z2 ‹_› ?_ | ((first | refine Z3 tb_ok lv37 rfl ?_ | refine Z4 tb_ok mix lv37 bs37 rfl (by kernel_rfl) rfl ?_ | refine ret_eq rfl ?_); simp only [↓reduceIte, reduceCtorEq, reduceEqDiff, reduceAdd, reduceMul, reduceSub, reduceLeDiff, reduceEq, reduceLT, reduceLE, go_sem]) | (refine Z5 rfl ?_; with_reducible first | refine condQ_T ?_ | refine condQ_F ?_) | refine Z6 ?_ | refine Z8 ?_ | refine Z9 fun _ _ => ?_ | refine Za ‹_› ?_ | refine Zc ‹_› trivial ?_ | refine Zf ‹_› ?_ | refine touch_go rfl ?_ | refine eff_go rfl ?_ | fail
    try
      simp only [↓reduceIte, reduceCtorEq, reduceEqDiff, reduceAdd, reduceMul, reduceSub, reduceLeDiff, reduceEq, reduceLT, reduceLE, go_sem, h2]
      repeat' first | refine Z1 fun _ _ => ?_ | refine Z2 ‹_› ?_ | ((first | refine Z3 tb_ok lv37 rfl ?_ | refine Z4 tb_ok mix lv37 bs37 rfl (by kernel_rfl) rfl ?_ | refine ret_eq rfl ?_); simp only [↓reduceIte, reduceCtorEq, reduceEqDiff, reduceAdd, reduceMul, reduceSub, reduceLeDiff, reduceEq, reduceLT, reduceLE, go_sem]) | (refine Z5 rfl ?_; with_reducible first | refine condQ_T ?_ | refine condQ_F ?_) | refine Z6 ?_ | refine Z8 ?_ | refine Z9 fun _ _ => ?_ | refine Za ‹_› ?_ | refine Zc ‹_› trivial ?_ | refine Zf ‹_› ?_ | refine touch_go rfl ?_ | refine eff_go rfl ?_ | fail
    refine call_pure rfl rfl (hb1) ?_; simp only [↓reduceIte, reduceCtorEq, reduceEqDiff, reduceAdd, reduceMul, reduceSub, reduceLeDiff, reduceEq, reduceLT, reduceLE, go_sem]
    repeat' first | refine Z1 fun _ _ => ?_ | refine Z2 ‹_› ?_ | ((first | refine Z3 tb_ok lv37 rfl ?_ | refine Z4 tb_ok mix lv37 bs37 rfl (by kernel_rfl) rfl ?_ | refine ret_eq rfl ?_); simp only [↓reduceIte, reduceCtorEq, reduceEqDiff, reduceAdd, reduceMul, reduceSub, reduceLeDiff, reduceEq, reduceLT, reduceLE, go_sem]) | (refine Z5 rfl ?_; with_reducible first | refine condQ_T ?_ | refine condQ_F ?_) | refine Z6 ?_ | refine Z8 ?_ | refine Z9 fun _ _ => ?_ | refine Za ‹_› ?_ | refine Zc ‹_› trivial ?_ | refine Zf ‹_› ?_ | refine touch_go rfl ?_ | refine eff_go rfl ?_ | fail
    try
      simp only [↓reduceIte, reduceCtorEq, reduceEqDiff, reduceAdd, reduceMul, reduceSub, reduceLeDiff, reduceEq, reduceLT, reduceLE, go_sem, h2]
      repeat' first | refine Z1 fun _ _ => ?_ | refine Z2 ‹_› ?_ | ((first | refine Z3 tb_ok lv37 rfl ?_ | refine Z4 tb_ok mix lv37 bs37 rfl (by kernel_rfl) rfl ?_ | refine ret_eq rfl ?_); simp only [↓reduceIte, reduceCtorEq, reduceEqDiff, reduceAdd, reduceMul, reduceSub, reduceLeDiff, reduceEq, reduceLT, reduceLE, go_sem]) | (refine Z5 rfl ?_; with_reducible first | refine condQ_T ?_ | refine condQ_F ?_) | refine Z6 ?_ | refine Z8 ?_ | refine Z9 fun _ _ => ?_ | refine Za ‹_› ?_ | refine Zc ‹_› trivial ?_ | refine Zf ‹_› ?_ | refine touch_go rfl ?_ | refine eff_go rfl ?_ | fail
    first | done | rfl
set_option maxRecDepth 4000 in
set_option maxHeartbeats 1000000 in
theorem c_writeF {gl} {l : List Nd} (hl : l.length ≤ 1048576) {off : Nat} {lo hi : Int} {a : T} (iha : WrC gl l off a) (hs : Sits l off (T.one 6 lo hi a)) : WrC gl l off (T.one 6 lo hi a) := by
  intro v hv hwf
  have hp := T.n_pos (T.one 6 lo hi a)
  have hr := hs.getD Nd.z
  have hlt := hs.lt
  have hb0 := c_bare (gl := gl) (v := v) (u := .mk 6 0 .empty 0 [])
  simp only [Vl.kind_mk, Vl.byte_mk, Vl.text_mk, Vl.pick_mk] at hb0
  have hw : (T.one 6 lo hi a).wr v = if v.plain 6 0 .empty 0 then gath a.wr true v.kids else none := by rw [T.wr.eq_def]; rfl
  rw [← gathI_const (i := 0)] at hw
  cases h1 : v.plain 6 0 .empty 0
  all_goals
    rw [h1] at hb0 hw
    simp only [if_true, Bool.false_eq_true, if_false] at hw
    rw [hw]
  case true =>
    have hk := c_kids (gl := gl) (l := l) (nodes := [((off + (a.n - 1) : Nat) : Int)]) (full := true) (v := v) (F := fun _ => a.wr) hv (by simp) (by simp) (fun i hi p hp => wr_bd (kid_bulk hv hi) hp) (fun i hi => by rw [one_getD]; exact iha _ (kid_bulk hv hi) (hwf.kid (getD_mem hi)))
    refine PCon.enter tb_ok (fn := Try.f37) (by kernel_rfl) (by kernel_rfl) rfl (by show 3 ≤ 236; decide) ?_
    repeat' first | refine Z1 fun _ _ => ?_ | refine Z2 ‹_› ?_ | ((first | refine Z3 tb_ok lv37 rfl ?_ | refine Z4 tb_ok mix lv37 bs37 rfl (by kernel_rfl) rfl ?_ | refine ret_eq rfl ?_); simp only [↓reduceIte, reduceCtorEq, reduceEqDiff, reduceAdd, reduceMul, reduceSub, reduceLeDiff, reduceEq, reduceLT, reduceLE, go_sem]) | (refine Z5 rfl ?_; with_reducible first | refine condQ_T ?_ | refine condQ_F ?_) | refine Z6 ?_ | refine Z8 ?_ | refine Z9 fun _ _ => ?_ | refine Za ‹_› ?_ | refine Zc ‹_› trivial ?_ | refine Zf ‹_› ?_ | refine touch_go rfl ?_ | refine eff_go rfl ?_ | fail
    refine idx_map Nd.z rfl rfl rfl rfl rfl (by omega) (by omega) rfl ?_
    simp only [Int.toNat_natCast, hr, T.root]
    simp only [↓reduceIte, reduceCtorEq, reduceEqDiff, reduceAdd, reduceMul, reduceSub, reduceLeDiff, reduceEq, reduceLT, reduceLE, go_sem]
    repeat' first | refine Z1 fun _ _ => ?_ | refine Z2 ‹_› ?_ | ((first | refine Z3 tb_ok lv37 rfl ?_ | refine Z4 tb_ok mix lv37 bs37 rfl (by kernel_rfl) rfl ?_ | refine ret_eq rfl ?_); simp only [↓reduceIte, reduceCtorEq, reduceEqDiff, reduceAdd, reduceMul, reduceSub, reduceLeDiff, reduceEq, reduceLT, reduceLE, go_sem]) | (refine Z5 rfl ?_; with_reducible first | refine condQ_T ?_ | refine condQ_F ?_) | refine Z6 ?_ | refine Z8 ?_ | refine Z9 fun _ _ => ?_ | refine Za ‹_› ?_ | refine Zc ‹_› trivial ?_ | refine Zf ‹_› ?_ | refine touch_go rfl ?_ | refine eff_go rfl ?_ | fail
    refine call_pure rfl rfl (hb0) ?_; simp only [↓reduceIte, reduceCtorEq, reduceEqDiff, reduceAdd, reduceMul, reduceSub, reduceLeDiff, reduceEq, reduceLT, reduceLE, go_sem]
    repeat' first | refine Z1 fun _ _ => ?_ | refine Z2 ‹_› ?_ | ((first | refine Z3 tb_ok lv37 rfl ?_ | refine Z4 tb_ok mix lv37 bs37 rfl (by kernel_rfl) rfl ?_ | refine ret_eq rfl ?_); simp only [↓reduceIte, reduceCtorEq, reduceEqDiff, reduceAdd, reduceMul, reduceSub, reduceLeDiff, reduceEq, reduceLT, reduceLE, go_sem]) | (refine Z5 rfl ?_; with_reducible first | refine condQ_T ?_ | refine condQ_F ?_) | refine Z6 ?_ | refine Z8 ?_ | refine Z9 fun _ _ => ?_ | refine Za ‹_› ?_ | refine Zc ‹_› trivial ?_ | refine Zf ‹_› ?_ | refine touch_go rfl ?_ | refine eff_go rfl ?_ | fail
    refine call_pure rfl rfl (hk) ?_; simp only [↓reduceIte, reduceCtorEq, reduceEqDiff, reduceAdd, reduceMul, reduceSub, reduceLeDiff, reduceEq, reduceLT, reduceLE, go_sem]
    repeat' first | refine Z1 fun _ _ => ?_ | refine Z2 ‹_› ?_ | ((first | refine Z3 tb_ok lv37 rfl ?_ | refine Z4 tb_ok mix lv37 bs37 rfl (by kernel_rfl) rfl ?_ | refine ret_eq rfl ?_); simp only [↓reduceIte, reduceCtorEq, reduceEqDiff, reduceAdd, reduceMul, reduceSub, reduceLeDiff, reduceEq, reduceLT, reduceLE, go_sem]) | (refine Z5 rfl ?_; with_reducible first | refine condQ_T ?_ | refine condQ_F ?_) | refine Z6 ?_ | refine Z8 ?_ | refine Z9 fun _ _ => ?_ | refine Za ‹_› ?_ | refine Zc ‹_› trivial ?_ | refine Zf ‹_› ?_ | refine touch_go rfl ?_ | refine eff_go rfl ?_ | fail
  case false =>
    refine PCon.enter tb_ok (fn := Try.f37) (by kernel_rfl) (by kernel_rfl) rfl (by show 3 ≤ 236; decide) ?_
    repeat' first | refine Z1 fun _ _ => ?_ | refine Z2 ‹_› ?_ | ((first | refine Z3 tb_ok lv37 rfl ?_ | refine Z4 tb_ok mix lv37 bs37 rfl (by kernel_rfl) rfl ?_ | refine ret_eq rfl ?_); simp only [↓reduceIte, reduceCtorEq, reduceEqDiff, reduceAdd, reduceMul, reduceSub, reduceLeDiff, reduceEq, reduceLT, reduceLE, go_sem]) | (refine Z5 rfl ?_; with_reducible first | refine condQ_T ?_ | refine condQ_F ?_) | refine Z6 ?_ | refine Z8 ?_ | refine Z9 fun _ _ => ?_ | refine Za ‹_› ?_ | refine Zc ‹_› trivial ?_ | refine Zf ‹_› ?_ | refine touch_go rfl ?_ | refine eff_go rfl ?_ | fail
    refine idx_map Nd.z rfl rfl rfl rfl rfl (by omega) (by omega) rfl ?_
    simp only [Int.toNat_natCast, hr, T.root]
    simp only [↓reduceIte, reduceCtorEq, reduceEqDiff, reduceAdd, reduceMul, reduceSub, reduceLeDiff, reduceEq, reduceLT, reduceLE, go_sem]
    repeat' first | refine Z1 fun _ _ => ?_ | refine Z2 ‹_› ?_ | ((first | refine Z3 tb_ok lv37 rfl ?_ | refine Z4 tb_ok mix lv37 bs37 rfl (by kernel_rfl) rfl ?_ | refine ret_eq rfl ?_); simp only [↓reduceIte, reduceCtorEq, reduceEqDiff, reduceAdd, reduceMul, reduceSub, reduceLeDiff, reduceEq, reduceLT, reduceLE, go_sem]) | (refine Z5 rfl ?_; with_reducible first | refine condQ_T ?_ | refine condQ_F ?_) | refine Z6 ?_ | refine Z8 ?_ | refine Z9 fun _ _ => ?_ | refine Za ‹_› ?_ | refine Zc ‹_› trivial ?_ | refine Zf ‹_› ?_ | refine touch_go rfl ?_ | refine eff_go rfl ?_ | fail
    refine call_pure rfl rfl (hb0) ?_; simp only [↓reduceIte, reduceCtorEq, reduceEqDiff, reduceAdd, reduceMul, reduceSub, reduceLeDiff, reduceEq, reduceLT, reduceLE, go_sem]
    repeat' first | refine Z1 fun _ _ => ?_ | refine Z2 ‹_› ?_ | ((first | refine Z3 tb_ok lv37 rfl ?_ | refine Z4 tb_ok mix lv37 bs37 rfl (by kernel_rfl) rfl ?_ | refine ret_eq rfl ?_); simp only [↓reduceIte, reduceCtorEq, reduceEqDiff, reduceAdd, reduceMul, reduceSub, reduceLeDiff, reduceEq, reduceLT, reduceLE, go_sem]) | (refine Z5 rfl ?_; with_reducible first | refine condQ_T ?_ | refine condQ_F ?_) | refine Z6 ?_ | refine Z8 ?_ | refine Z9 fun _ _ => ?_ | refine Za ‹_› ?_ | refine Zc ‹_› trivial ?_ | refine Zf ‹_› ?_ | refine touch_go rfl ?_ | refine eff_go rfl ?_ | fail
    first | done | rfl
set_option maxRecDepth 4000 in
set_option maxHeartbeats 1000000 in
theorem c_writeG {gl} {l : List Nd} (hl : l.length ≤ 1048576) {off : Nat} {lo hi : Int} {a : T} (iha : WrC gl l off a) (hs : Sits l off (T.one 7 lo hi a)) : WrC gl l off (T.one 7 lo hi a) := by
  intro v hv hwf
  have hp := T.n_pos (T.one 7 lo hi a)
  have hr := hs.getD Nd.z
  have hlt := hs.lt
  have hb0 := c_bare (gl := gl) (v := v) (u := .mk 7 0 .empty 0 [])
  simp only [Vl.kind_mk, Vl.byte_mk, Vl.text_mk, Vl.pick_mk] at hb0
  have hw : (T.one 7 lo hi a).wr v = if v.plain 7 0 .empty 0 then (if lo ≤ v.kids.length ∧ (v.kids.length : Int) ≤ hi then gath a.wr true v.kids else none) else none := by rw [T.wr.eq_def]; rfl
  rw [← gathI_const (i := 0)] at hw
  have hno : ¬ (v.plain 7 0 .empty 0 = true ∧ lo ≤ (v.kids.length : Int) ∧ (v.kids.length : Int) ≤ hi) → (T.one 7 lo hi a).wr v = none := fun h => by
    rw [hw]
    split
    · split
      · rename_i g1 g2
        exact absurd ⟨g1, g2⟩ h
      · rfl
    · rfl
  cases h1 : v.plain 7 0 .empty 0 with
  | false =>
    rw [hno (fun h => by rw [h1] at h; exact absurd h.1 (by decide))]
    rw [h1] at hb0
    refine PCon.enter tb_ok (fn := Try.f37) (by kernel_rfl) (by kernel_rfl) rfl (by show 3 ≤ 236; decide) ?_
    repeat' first | refine Z1 fun _ _ => ?_ | refine Z2 ‹_› ?_ | ((first | refine Z3 tb_ok lv37 rfl ?_ | refine Z4 tb_ok mix lv37 bs37 rfl (by kernel_rfl) rfl ?_ | refine ret_eq rfl ?_); simp only [↓reduceIte, reduceCtorEq, reduceEqDiff, reduceAdd, reduceMul, reduceSub, reduceLeDiff, reduceEq, reduceLT, reduceLE, go_sem]) | (refine Z5 rfl ?_; with_reducible first | refine condQ_T ?_ | refine condQ_F ?_) | refine Z6 ?_ | refine Z8 ?_ | refine Z9 fun _ _ => ?_ | refine Za ‹_› ?_ | refine Zc ‹_› trivial ?_ | refine Zf ‹_› ?_ | refine touch_go rfl ?_ | refine eff_go rfl ?_ | fail
    refine idx_map Nd.z rfl rfl rfl rfl rfl (by omega) (by omega) rfl ?_
    simp only [Int.toNat_natCast, hr, T.root]
    simp only [↓reduceIte, reduceCtorEq, reduceEqDiff, reduceAdd, reduceMul, reduceSub, reduceLeDiff, reduceEq, reduceLT, reduceLE, go_sem]
    repeat' first | refine Z1 fun _ _ => ?_ | refine Z2 ‹_› ?_ | ((first | refine Z3 tb_ok lv37 rfl ?_ | refine Z4 tb_ok mix lv37 bs37 rfl (by kernel_rfl) rfl ?_ | refine ret_eq rfl ?_); simp only [↓reduceIte, reduceCtorEq, reduceEqDiff, reduceAdd, reduceMul, reduceSub, reduceLeDiff, reduceEq, reduceLT, reduceLE, go_sem]) | (refine Z5 rfl ?_; with_reducible first | refine condQ_T ?_ | refine condQ_F ?_) | refine Z6 ?_ | refine Z8 ?_ | refine Z9 fun _ _ => ?_ | refine Za ‹_› ?_ | refine Zc ‹_› trivial ?_ | refine Zf ‹_› ?_ | refine touch_go rfl ?_ | refine eff_go rfl ?_ | fail
    refine call_pure rfl rfl (hb0) ?_; simp only [↓reduceIte, reduceCtorEq, reduceEqDiff, reduceAdd, reduceMul, reduceSub, reduceLeDiff, reduceEq, reduceLT, reduceLE, go_sem]
    repeat' first | refine Z1 fun _ _ => ?_ | refine Z2 ‹_› ?_ | ((first | refine Z3 tb_ok lv37 rfl ?_ | refine Z4 tb_ok mix lv37 bs37 rfl (by kernel_rfl) rfl ?_ | refine ret_eq rfl ?_); simp only [↓reduceIte, reduceCtorEq, reduceEqDiff, reduceAdd, reduceMul, reduceSub, reduceLeDiff, reduceEq, reduceLT, reduceLE, go_sem]) | (refine Z5 rfl ?_; with_reducible first | refine condQ_T ?_ | refine condQ_F ?_) | refine Z6 ?_ | refine Z8 ?_ | refine Z9 fun _ _ => ?_ | refine Za ‹_› ?_ | refine Zc ‹_› trivial ?_ | refine Zf ‹_› ?_ | refine touch_go rfl ?_ | refine eff_go rfl ?_ | fail
    first | done | rfl
  | true =>
    rw [h1] at hb0
    by_cases h2 : lo ≤ (v.kids.length : Int)
    case neg =>
      rw [hno (fun h => h2 h.2.1)]
      have k2 : decide (lo ≤ (v.kids.length : Int)) = false := decide_eq_false h2
      refine PCon.enter tb_ok (fn := Try.f37) (by kernel_rfl) (by kernel_rfl) rfl (by show 3 ≤ 236; decide) ?_
      repeat' first | refine Z1 fun _ _ => ?_ | refine Z2 ‹_› ?_ | ((first | refine Z3 tb_ok lv37 rfl ?_ | refine Z4 tb_ok mix lv37 bs37 rfl (by kernel_rfl) rfl ?_ | refine ret_eq rfl ?_); simp only [↓reduceIte, reduceCtorEq, reduceEqDiff, reduceAdd, reduceMul, reduceSub, reduceLeDiff, reduceEq, reduceLT, reduceLE, go_sem]) | (refine Z5 rfl ?_; with_reducible first | refine condQ_T ?_ | refine condQ_F ?_) | refine Z6 ?_ | refine Z8 ?_ | refine Z9 fun _ _ => ?_ | refine Za ‹_› ?_ | refine Zc ‹_› trivial ?_ | refine Zf ‹_› ?_ | refine touch_go rfl ?_ | refine eff_go rfl ?_ | fail
      refine idx_map Nd.z rfl rfl rfl rfl rfl (by omega) (by omega) rfl ?_
      simp only [Int.toNat_natCast, hr, T.root]
      simp only [↓reduceIte, reduceCtorEq, reduceEqDiff, reduceAdd, reduceMul, reduceSub, reduceLeDiff, reduceEq, reduceLT, reduceLE, go_sem]
      repeat' first | refine Z1 fun _ _ => ?_ | refine Z2 ‹_› ?_ | ((first | refine Z3 tb_ok lv37 rfl ?_ | refine Z4 tb_ok mix lv37 bs37 rfl (by kernel_rfl) rfl ?_ | refine ret_eq rfl ?_); simp only [↓reduceIte, reduceCtorEq, reduceEqDiff, reduceAdd, reduceMul, reduceSub, reduceLeDiff, reduceEq, reduceLT, reduceLE, go_sem]) | (refine Z5 rfl ?_; with_reducible first | refine condQ_T ?_ | refine condQ_F ?_) | refine Z6 ?_ | refine Z8 ?_ | refine Z9 fun _ _ => ?_ | refine Za ‹_› ?_ | refine Zc ‹_› trivial ?_ | refine Zf ‹_› ?_ | refine touch_go rfl ?_ | refine eff_go rfl ?_ | fail
      refine call_pure rfl rfl (hb0) ?_; simp only [↓reduceIte, reduceCtorEq, reduceEqDiff, reduceAdd, reduceMul, reduceSub, reduceLeDiff, reduceEq, reduceLT, reduceLE, go_sem]
      repeat' first | refine Z1 fun _ _ => ?_ | refine Z2 ‹_› ?_ | ((first | refine Z3 tb_ok lv37 rfl ?_ | refine Z4 tb_ok mix lv37 bs37 rfl (by kernel_rfl) rfl ?_ | refine ret_eq rfl ?_); simp only [↓reduceIte, reduceCtorEq, reduceEqDiff, reduceAdd, reduceMul, reduceSub, reduceLeDiff, reduceEq, reduceLT, reduceLE, go_sem]) | (refine Z5 rfl ?_; with_reducible first | refine condQ_T ?_ | refine condQ_F ?_) | refine Z6 ?_ | refine Z8 ?_ | refine Z9 fun _ _ => ?_ | refine Za ‹_› ?_ | refine Zc ‹_› trivial ?_ | refine Zf ‹_› ?_ | refine touch_go rfl ?_ | refine eff_go rfl ?_ | fail
      simp only [↓reduceIte, reduceCtorEq, reduceEqDiff, reduceAdd, reduceMul, reduceSub, reduceLeDiff, reduceEq, reduceLT, reduceLE, go_sem, k2]
      repeat' first | refine Z1 fun _ _ => ?_ | refine Z2 ‹_› ?_ | ((first | refine Z3 tb_ok lv37 rfl ?_ | refine Z4 tb_ok mix lv37 bs37 rfl (by kernel_rfl) rfl ?_ | refine ret_eq rfl ?_); simp only [↓reduceIte, reduceCtorEq, reduceEqDiff, reduceAdd, reduceMul, reduceSub, reduceLeDiff, reduceEq, reduceLT, reduceLE, go_sem]) | (refine Z5 rfl ?_; with_reducible first | refine condQ_T ?_ | refine condQ_F ?_) | refine Z6 ?_ | refine Z8 ?_ | refine Z9 fun _ _ => ?_ | refine Za ‹_› ?_ | refine Zc ‹_› trivial ?_ | refine Zf ‹_› ?_ | refine touch_go rfl ?_ | refine eff_go rfl ?_ | fail
      first | done | rfl
    by_cases h3 : (v.kids.length : Int) ≤ hi
    case neg =>
      rw [hno (fun h => h3 h.2.2)]
      have k2 : decide (lo ≤ (v.kids.length : Int)) = true := decide_eq_true h2
      have k3 : decide ((v.kids.length : Int) ≤ hi) = false := decide_eq_false h3
      refine PCon.enter tb_ok (fn := Try.f37) (by kernel_rfl) (by kernel_rfl) rfl (by show 3 ≤ 236; decide) ?_
      repeat' first | refine Z1 fun _ _ => ?_ | refine Z2 ‹_› ?_ | ((first | refine Z3 tb_ok lv37 rfl ?_ | refine Z4 tb_ok mix lv37 bs37 rfl (by kernel_rfl) rfl ?_ | refine ret_eq rfl ?_); simp only [↓reduceIte, reduceCtorEq, reduceEqDiff, reduceAdd, reduceMul, reduceSub, reduceLeDiff, reduceEq, reduceLT, reduceLE, go_sem]) | (refine Z5 rfl ?_; with_reducible first | refine condQ_T ?_ | refine condQ_F ?_) | refine Z6 ?_ | refine Z8 ?_ | refine Z9 fun _ _ => ?_ | refine Za ‹_› ?_ | refine Zc ‹_› trivial ?_ | refine Zf ‹_› ?_ | refine touch_go rfl ?_ | refine eff_go rfl ?_ | fail
      refine idx_map Nd.z rfl rfl rfl rfl rfl (by omega) (by omega) rfl ?_
      simp only [Int.toNat_natCast, hr, T.root]
      simp only [↓reduceIte, reduceCtorEq, reduceEqDiff, reduceAdd, reduceMul, reduceSub, reduceLeDiff, reduceEq, reduceLT, reduceLE, go_sem]
      repeat' first | refine Z1 fun _ _ => ?_ | refine Z2 ‹_› ?_ | ((first | refine Z3 tb_ok lv37 rfl ?_ | refine Z4 tb_ok mix lv37 bs37 rfl (by kernel_rfl) rfl ?_ | refine ret_eq rfl ?_); simp only [↓reduceIte, reduceCtorEq, reduceEqDiff, reduceAdd, reduceMul, reduceSub, reduceLeDiff, reduceEq, reduceLT, reduceLE, go_sem]) | (refine Z5 rfl ?_; with_reducible first | refine condQ_T ?_ | refine condQ_F ?_) | refine Z6 ?_ | refine Z8 ?_ | refine Z9 fun _ _ => ?_ | refine Za ‹_› ?_ | refine Zc ‹_› trivial ?_ | refine Zf ‹_› ?_ | refine touch_go rfl ?_ | refine eff_go rfl ?_ | fail
      refine call_pure rfl rfl (hb0) ?_; simp only [↓reduceIte, reduceCtorEq, reduceEqDiff, reduceAdd, reduceMul, reduceSub, reduceLeDiff, reduceEq, reduceLT, reduceLE, go_sem]
      repeat' first | refine Z1 fun _ _ => ?_ | refine Z2 ‹_› ?_ | ((first | refine Z3 tb_ok lv37 rfl ?_ | refine Z4 tb_ok mix lv37 bs37 rfl (by kernel_rfl) rfl ?_ | refine ret_eq rfl ?_); simp only [↓reduceIte, reduceCtorEq, reduceEqDiff, reduceAdd, reduceMul, reduceSub, reduceLeDiff, reduceEq, reduceLT, reduceLE, go_sem]) | (refine Z5 rfl ?_; with_reducible first | refine condQ_T ?_ | refine condQ_F ?_) | refine Z6 ?_ | refine Z8 ?_ | refine Z9 fun _ _ => ?_ | refine Za ‹_› ?_ | refine Zc ‹_› trivial ?_ | refine Zf ‹_› ?_ | refine touch_go rfl ?_ | refine eff_go rfl ?_ | fail
      simp only [↓reduceIte, reduceCtorEq, reduceEqDiff, reduceAdd, reduceMul, reduceSub, reduceLeDiff, reduceEq, reduceLT, reduceLE, go_sem, k2, k3]
      repeat' first | refine Z1 fun _ _ => ?_ | refine Z2 ‹_› ?_ | ((first | refine Z3 tb_ok lv37 rfl ?_ | refine Z4 tb_ok mix lv37 bs37 rfl (by kernel_rfl) rfl ?_ | refine ret_eq rfl ?_); simp only [↓reduceIte, reduceCtorEq, reduceEqDiff, reduceAdd, reduceMul, reduceSub, reduceLeDiff, reduceEq, reduceLT, reduceLE, go_sem]) | (refine Z5 rfl ?_; with_reducible first | refine condQ_T ?_ | refine condQ_F ?_) | refine Z6 ?_ | refine Z8 ?_ | refine Z9 fun _ _ => ?_ | refine Za ‹_› ?_ | refine Zc ‹_› trivial ?_ | refine Zf ‹_› ?_ | refine touch_go rfl ?_ | refine eff_go rfl ?_ | fail
      first | done | rfl
    have k2 : decide (lo ≤ (v.kids.length : Int)) = true := decide_eq_true h2
    have k3 : decide ((v.kids.length : Int) ≤ hi) = true := decide_eq_true h3
    rw [h1, if_pos rfl, if_pos ⟨h2, h3⟩] at hw
    rw [hw]
    have hk := c_kids (gl := gl) (l := l) (nodes := [((off + (a.n - 1) : Nat) : Int)]) (full := true) (v := v) (F := fun _ => a.wr) hv (by simp) (by simp) (fun i hi p hp => wr_bd (kid_bulk hv hi) hp) (fun i hi => by rw [one_getD]; exact iha _ (kid_bulk hv hi) (hwf.kid (getD_mem hi)))
    refine PCon.enter tb_ok (fn := Try.f37) (by kernel_rfl) (by kernel_rfl) rfl (by show 3 ≤ 236; decide) ?_
    repeat' first | refine Z1 fun _ _ => ?_ | refine Z2 ‹_› ?_ | ((first | refine Z3 tb_ok lv37 rfl ?_ | refine Z4 tb_ok mix lv37 bs37 rfl (by kernel_rfl) rfl ?_ | refine ret_eq rfl ?_); simp only [↓reduceIte, reduceCtorEq, reduceEqDiff, reduceAdd, reduceMul, reduceSub, reduceLeDiff, reduceEq, reduceLT, reduceLE, go_sem]) | (refine Z5 rfl ?_; with_reducible first | refine condQ_T ?_ | refine condQ_F ?_) | refine Z6 ?_ | refine Z8 ?_ | refine Z9 fun _ _ => ?_ | refine Za ‹_› ?_ | refine Zc ‹_› trivial ?_ | refine Zf ‹_› ?_ | refine touch_go rfl ?_ | refine eff_go rfl ?_ | fail
    refine idx_map Nd.z rfl rfl rfl rfl rfl (by omega) (by omega) rfl ?_
    simp only [Int.toNat_natCast, hr, T.root]
    simp only [↓reduceIte, reduceCtorEq, reduceEqDiff, reduceAdd, reduceMul, reduceSub, reduceLeDiff, reduceEq, reduceLT, reduceLE, go_sem]
    repeat' first | refine Z1 fun _ _ => ?_ | refine Z2 ‹_› ?_ | ((first | refine Z3 tb_ok lv37 rfl ?_ | refine Z4 tb_ok mix lv37 bs37 rfl (by kernel_rfl) rfl ?_ | refine ret_eq rfl ?_); simp only [↓reduceIte, reduceCtorEq, reduceEqDiff, reduceAdd, reduceMul, reduceSub, reduceLeDiff, reduceEq, reduceLT, reduceLE, go_sem]) | (refine Z5 rfl ?_; with_reducible first | refine condQ_T ?_ | refine condQ_F ?_) | refine Z6 ?_ | refine Z8 ?_ | refine Z9 fun _ _ => ?_ | refine Za ‹_› ?_ | refine Zc ‹_› trivial ?_ | refine Zf ‹_› ?_ | refine touch_go rfl ?_ | refine eff_go rfl ?_ | fail
    refine call_pure rfl rfl (hb0) ?_; simp only [↓reduceIte, reduceCtorEq, reduceEqDiff, reduceAdd, reduceMul, reduceSub, reduceLeDiff, reduceEq, reduceLT, reduceLE, go_sem]
    repeat' first | refine Z1 fun _ _ => ?_ | refine Z2 ‹_› ?_ | ((first | refine Z3 tb_ok lv37 rfl ?_ | refine Z4 tb_ok mix lv37 bs37 rfl (by kernel_rfl) rfl ?_ | refine ret_eq rfl ?_); simp only [↓reduceIte, reduceCtorEq, reduceEqDiff, reduceAdd, reduceMul, reduceSub, reduceLeDiff, reduceEq, reduceLT, reduceLE, go_sem]) | (refine Z5 rfl ?_; with_reducible first | refine condQ_T ?_ | refine condQ_F ?_) | refine Z6 ?_ | refine Z8 ?_ | refine Z9 fun _ _ => ?_ | refine Za ‹_› ?_ | refine Zc ‹_› trivial ?_ | refine Zf ‹_› ?_ | refine touch_go rfl ?_ | refine eff_go rfl ?_ | fail
    simp only [↓reduceIte, reduceCtorEq, reduceEqDiff, reduceAdd, reduceMul, reduceSub, reduceLeDiff, reduceEq, reduceLT, reduceLE, go_sem, k2, k3]
    repeat' first | refine Z1 fun _ _ => ?_ | refine Z2 ‹_› ?_ | ((first | refine Z3 tb_ok lv37 rfl ?_ | refine Z4 tb_ok mix lv37 bs37 rfl (by kernel_rfl) rfl ?_ | refine ret_eq rfl ?_); simp only [↓reduceIte, reduceCtorEq, reduceEqDiff, reduceAdd, reduceMul, reduceSub, reduceLeDiff, reduceEq, reduceLT, reduceLE, go_sem]) | (refine Z5 rfl ?_; with_reducible first | refine condQ_T ?_ | refine condQ_F ?_) | refine Z6 ?_ | refine Z8 ?_ | refine Z9 fun _ _ => ?_ | refine Za ‹_› ?_ | refine Zc ‹_› trivial ?_ | refine Zf ‹_› ?_ | refine touch_go rfl ?_ | refine eff_go rfl ?_ | fail
    refine call_pure rfl rfl (hk) ?_; simp only [↓reduceIte, reduceCtorEq, reduceEqDiff, reduceAdd, reduceMul, reduceSub, reduceLeDiff, reduceEq, reduceLT, reduceLE, go_sem]
    repeat' first | refine Z1 fun _ _ => ?_ | refine Z2 ‹_› ?_ | ((first | refine Z3 tb_ok lv37 rfl ?_ | refine Z4 tb_ok mix lv37 bs37 rfl (by kernel_rfl) rfl ?_ | refine ret_eq rfl ?_); simp only [↓reduceIte, reduceCtorEq, reduceEqDiff, reduceAdd, reduceMul, reduceSub, reduceLeDiff, reduceEq, reduceLT, reduceLE, go_sem]) | (refine Z5 rfl ?_; with_reducible first | refine condQ_T ?_ | refine condQ_F ?_) | refine Z6 ?_ | refine Z8 ?_ | refine Z9 fun _ _ => ?_ | refine Za ‹_› ?_ | refine Zc ‹_› trivial ?_ | refine Zf ‹_› ?_ | refine touch_go rfl ?_ | refine eff_go rfl ?_ | fail
set_option maxRecDepth 4000 in
set_option maxHeartbeats 1000000 in
theorem c_writeH {gl} {l : List Nd} (hl : l.length ≤ 1048576) {off : Nat} {lo hi : Int} {a : T} (iha : WrC gl l off a) (hs : Sits l off (T.one 8 lo hi a)) : WrC gl l off (T.one 8 lo hi a) := by
  intro v hv hwf
  have hp := T.n_pos (T.one 8 lo hi a)
  have hr := hs.getD Nd.z
  have hlt := hs.lt
  have hb0 := c_bare (gl := gl) (v := v) (u := .mk 8 0 .empty 0 [])
  simp only [Vl.kind_mk, Vl.byte_mk, Vl.text_mk, Vl.pick_mk] at hb0
  have hw : (T.one 8 lo hi a).wr v = if v.plain 8 0 .empty 0 then (match v.kids with
      | [x] => frW 255 (a.wr x)
      | _ => none) else none := by
    rw [T.wr.eq_def]
    simp only [show ¬ ((8 : Int) = 6) by decide, show ¬ ((8 : Int) = 7) by decide, if_false]
    cases v.plain 8 0 .empty 0 with
    | false => rfl
    | true =>
      simp only [if_true]
      match v.kids with
      | [] => rfl
      | [x] =>
        simp only [frW]
        cases a.wr x with
        | none => rfl
        | some p =>
          by_cases hp : p.length ≤ 255
          · simp [hp, show (p.length : Int) ≤ 255 by omega]
          · simp [hp, show ¬ (p.length : Int) ≤ 255 by omega]
      | x :: y :: r => rfl
  cases h1 : v.plain 8 0 .empty 0 <;> cases h2 : decide ((v.kids.length : Int) = 1)
  all_goals
    rw [h1] at hb0 hw
    simp only [if_true, Bool.false_eq_true, if_false] at hw
  case true.true =>
    obtain ⟨x, hx⟩ := match_one (α := Unit) h2
    have hk := c_kids (gl := gl) (l := l) (nodes := [((off + (a.n - 1) : Nat) : Int)]) (full := false) (v := v) (F := fun _ => a.wr) hv (by simp) (by simp) (fun i hi p hp => wr_bd (kid_bulk hv hi) hp) (fun i hi => by rw [one_getD]; exact iha _ (kid_bulk hv hi) (hwf.kid (getD_mem hi)))
    have hg : gathI (fun _ => a.wr) false 0 v.kids = a.wr x := by rw [hx, gath_one]
    have hw' : (T.one 8 lo hi a).wr v = frW 255 (a.wr x) := by rw [hw, hx]
    have hxb : x.bulk ≤ 1048577 := by
      have := kid_bulk hv (i := 0) (by rw [hx]; simp)
      rw [hx] at this
      exact this
    have hf := c_frame (gl := gl) (o := a.wr x) (most := 255) (by omega) (by
      cases h : a.wr x with
      | none => simp
      | some p => have := wr_bd hxb h; simp only [Option.getD_some]; omega)
    rw [hg] at hk
    rw [hw']
    clear hw hg
    refine PCon.enter tb_ok (fn := Try.f37) (by kernel_rfl) (by kernel_rfl) rfl (by show 3 ≤ 236; decide) ?_
    repeat' first | refine Z1 fun _ _ => ?_ | refine Z2 ‹_› ?_ | ((first | refine Z3 tb_ok lv37 rfl ?_ | refine Z4 tb_ok mix lv37 bs37 rfl (by kernel_rfl) rfl ?_ | refine ret_eq rfl ?_); simp only [↓reduceIte, reduceCtorEq, reduceEqDiff, reduceAdd, reduceMul, reduceSub, reduceLeDiff, reduceEq, reduceLT, reduceLE, go_sem]) | (refine Z5 rfl ?_; with_reducible first | refine condQ_T ?_ | refine condQ_F ?_) | refine Z6 ?_ | refine Z8 ?_ | refine Z9 fun _ _ => ?_ | refine Za ‹_› ?_ | refine Zc ‹_› trivial ?_ | refine Zf ‹_› ?_ | refine touch_go rfl ?_ | refine eff_go rfl ?_ | fail
    refine idx_map Nd.z rfl rfl rfl rfl rfl (by omega) (by omega) rfl ?_
    simp only [Int.toNat_natCast, hr, T.root]
    simp only [↓reduceIte, reduceCtorEq, reduceEqDiff, reduceAdd, reduceMul, reduceSub, reduceLeDiff, reduceEq, reduceLT, reduceLE, go_sem]
    repeat' first | refine Z1 fun _ _ => ?_ | refine Z2 ‹_› ?_ | ((first | refine Z3 tb_ok lv37 rfl ?_ | refine Z4 tb_ok mix lv37 bs37 rfl (by kernel_rfl) rfl ?_ | refine ret_eq rfl ?_); simp only [↓reduceIte, reduceCtorEq, reduceEqDiff, reduceAdd, reduceMul, reduceSub, reduceLeDiff, reduceEq, reduceLT, reduceLE, go_sem]) | (refine Z5 rfl ?_; with_reducible first | refine condQ_T ?_ | refine condQ_F ?_) | refine Z6 ?_ | refine Z8 ?_ | refine Z9 fun _ _ => ?_ | refine Za ‹_› ?_ | refine Zc ‹_› trivial ?_ | refine Zf ‹_› ?_ | refine touch_go rfl ?_ | refine eff_go rfl ?_ | fail
    refine call_pure rfl rfl (hb0) ?_; simp only [↓reduceIte, reduceCtorEq, reduceEqDiff, reduceAdd, reduceMul, reduceSub, reduceLeDiff, reduceEq, reduceLT, reduceLE, go_sem]
    repeat' first | refine Z1 fun _ _ => ?_ | refine Z2 ‹_› ?_ | ((first | refine Z3 tb_ok lv37 rfl ?_ | refine Z4 tb_ok mix lv37 bs37 rfl (by kernel_rfl) rfl ?_ | refine ret_eq rfl ?_); simp only [↓reduceIte, reduceCtorEq, reduceEqDiff, reduceAdd, reduceMul, reduceSub, reduceLeDiff, reduceEq, reduceLT, reduceLE, go_sem]) | (refine Z5 rfl ?_; with_reducible first | refine condQ_T ?_ | refine condQ_F ?_) | refine Z6 ?_ | refine Z8 ?_ | refine Z9 fun _ _ => ?_ | refine Za ‹_› ?_ | refine Zc ‹_› trivial ?_ | refine Zf ‹_› ?_ | refine touch_go rfl ?_ | refine eff_go rfl ?_ | fail
    simp only [↓reduceIte, reduceCtorEq, reduceEqDiff, reduceAdd, reduceMul, reduceSub, reduceLeDiff, reduceEq, reduceLT, reduceLE, go_sem, h2]
    repeat' first | refine Z1 fun _ _ => ?_ | refine Z2 ‹_› ?_ | ((first | refine Z3 tb_ok lv37 rfl ?_ | refine Z4 tb_ok mix lv37 bs37 rfl (by kernel_rfl) rfl ?_ | refine ret_eq rfl ?_); simp only [↓reduceIte, reduceCtorEq, reduceEqDiff, reduceAdd, reduceMul, reduceSub, reduceLeDiff, reduceEq, reduceLT, reduceLE, go_sem]) | (refine Z5 rfl ?_; with_reducible first | refine condQ_T ?_ | refine condQ_F ?_) | refine Z6 ?_ | refine Z8 ?_ | refine Z9 fun _ _ => ?_ | refine Za ‹_› ?_ | refine Zc ‹_› trivial ?_ | refine Zf ‹_› ?_ | refine touch_go rfl ?_ | refine eff_go rfl ?_ | fail
    refine call_pure rfl rfl (hk) ?_; simp only [↓reduceIte, reduceCtorEq, reduceEqDiff, reduceAdd, reduceMul, reduceSub, reduceLeDiff, reduceEq, reduceLT, reduceLE, go_sem]
    repeat' first | refine Z1 fun _ _ => ?_ | refine Z2 ‹_› ?_ | ((first | refine Z3 tb_ok lv37 rfl ?_ | refine Z4 tb_ok mix lv37 bs37 rfl (by kernel_rfl) rfl ?_ | refine ret_eq rfl ?_); simp only [↓reduceIte, reduceCtorEq, reduceEqDiff, reduceAdd, reduceMul, reduceSub, reduceLeDiff, reduceEq, reduceLT, reduceLE, go_sem]) | (refine Z5 rfl ?_; with_reducible first | refine condQ_T ?_ | refine condQ_F ?_) | refine Z6 ?_ | refine Z8 ?_ | refine Z9 fun _ _ => ?_ | refine Za ‹_› ?_ | refine Zc ‹_› trivial ?_ | refine Zf ‹_› ?_ | refine touch_go rfl ?_ | refine eff_go rfl ?_ | fail
    refine call_pure rfl rfl (hf) ?_; simp only [↓reduceIte, reduceCtorEq, reduceEqDiff, reduceAdd, reduceMul, reduceSub, reduceLeDiff, reduceEq, reduceLT, reduceLE, go_sem]
    repeat' first | refine Z1 fun _ _ => ?_ | refine Z2 ‹_› ?_ | ((first | refine Z3 tb_ok lv37 rfl ?_ | refine Z4 tb_ok mix lv37 bs37 rfl (by kernel_rfl) rfl ?_ | refine ret_eq rfl ?_); simp only [↓reduceIte, reduceCtorEq, reduceEqDiff, reduceAdd, reduceMul, reduceSub, reduceLeDiff, reduceEq, reduceLT, reduceLE, go_sem]) | (refine Z5 rfl ?_; with_reducible first | refine condQ_T ?_ | refine condQ_F ?_) | refine Z6 ?_ | refine Z8 ?_ | refine Z9 fun _ _ => ?_ | refine Za ‹_› ?_ | refine Zc ‹_› trivial ?_ | refine Zf ‹_› ?_ | refine touch_go rfl ?_ | refine eff_go rfl ?_ | fail
  case true.false =>
    have hw' : (T.one 8 lo hi a).wr v = none := by
      rw [hw]; exact no_oneK h2
    rw [hw']
    refine PCon.enter tb_ok (fn := Try.f37) (by kernel_rfl) (by kernel_rfl) rfl (by show 3 ≤ 236; decide) ?_
    repeat' first | refine Z1 fun _ _ => ?_ | refine Z2 ‹_› ?_ | ((first | refine Z3 tb_ok lv37 rfl ?_ | refine Z4 tb_ok mix lv37 bs37 rfl (by kernel_rfl) rfl ?_ | refine ret_eq rfl ?_); simp only [↓reduceIte, reduceCtorEq, reduceEqDiff, reduceAdd, reduceMul, reduceSub, reduceLeDiff, reduceEq, reduceLT, reduceLE, go_sem]) | (refine Z5 rfl ?_; with_reducible first | refine condQ_T ?_ | refine condQ_F ?_) | refine Z6 ?_ | refine Z8 ?_ | refine Z9 fun _ _ => ?_ | refine Za ‹_› ?_ | refine Zc ‹_› trivial ?_ | refine Zf ‹_› ?_ | refine touch_go rfl ?_ | refine eff_go rfl ?_ | fail
    refine idx_map Nd.z rfl rfl rfl rfl rfl (by omega) (by omega) rfl ?_
    simp only [Int.toNat_natCast, hr, T.root]
    simp only [↓reduceIte, reduceCtorEq, reduceEqDiff, reduceAdd, reduceMul, reduceSub, reduceLeDiff, reduceEq, reduceLT, reduceLE, go_sem]
    repeat' first | refine Z1 fun _ _ => ?_ | refine Z2 ‹_› ?_ | ((first | refine Z3 tb_ok lv37 rfl ?_ | refine Z4 tb_ok mix lv37 bs37 rfl (by kernel_rfl) rfl ?_ | refine ret_eq rfl ?_); simp only [↓reduceIte, reduceCtorEq, reduceEqDiff, reduceAdd, reduceMul, reduceSub, reduceLeDiff, reduceEq, reduceLT, reduceLE, go_sem]) | (refine Z5 rfl ?_; with_reducible first | refine condQ_T ?_ | refine condQ_F ?_) | refine Z6 ?_ | refine Z8 ?_ | refine Z9 fun _ _ => ?_ | refine Za ‹_› ?_ | refine Zc ‹_› trivial ?_ | refine Zf ‹_› ?_ | refine touch_go rfl ?_ | refine eff_go rfl ?_ | fail
    refine call_pure rfl rfl (hb0) ?_; simp only [↓reduceIte, reduceCtorEq, reduceEqDiff, reduceAdd, reduceMul, reduceSub, reduceLeDiff, reduceEq, reduceLT, reduceLE, go_sem]
    repeat' first | refine Z1 fun _ _ => ?_ | refine Z2 ‹_› ?_ | ((first | refine Z3 tb_ok lv37 rfl ?_ | refine Z4 tb_ok mix lv37 bs37 rfl (by kernel_rfl) rfl ?_ | refine ret_eq rfl ?_); simp only [↓reduceIte, reduceCtorEq, reduceEqDiff, reduceAdd, reduceMul, reduceSub, reduceLeDiff, reduceEq, reduceLT, reduceLE, go_sem]) | (refine Z5 rfl ?_; with_reducible first | refine condQ_T ?_ | refine condQ_F ?_) | refine Z6 ?_ | refine Z8 ?_ | refine Z9 fun _ _ => ?_ | refine Za ‹_› ?_ | refine Zc ‹_› trivial ?_ | refine Zf ‹_› ?_ | refine touch_go rfl ?_ | refine eff_go rfl ?_ | fail
    try
      simp only [↓reduceIte, reduceCtorEq, reduceEqDiff, reduceAdd, reduceMul, reduceSub, reduceLeDiff, reduceEq, reduceLT, reduceLE, go_sem, h2]
      repeat' first | refine Z1 fun _ _ => ?_ | refine Z2 ‹_› ?_ | ((first | refine Z3 tb_ok lv37 rfl ?_ | refine Z4 tb_ok mix lv37 bs37 rfl (by kernel_rfl) rfl ?_ | refine ret_eq rfl ?_); simp only [↓reduceIte, reduceCtorEq, reduceEqDiff, reduceAdd, reduceMul, reduceSub, reduceLeDiff, reduceEq, reduceLT, reduceLE, go_sem]) | (refine Z5 rfl ?_; with_reducible first | refine condQ_T ?_ | refine condQ_F ?_) | refine Z6 ?_ | refine Z8 ?_ | refine Z9 fun _ _ => ?_ | refine Za ‹_› ?_ | refine Zc ‹_› trivial ?_ | refine Zf ‹_› ?_ | refine touch_go rfl ?_ | refine eff_go rfl ?_ | fail
    first | done | rfl
  case false.true =>
    have hw' : (T.one 8 lo hi a).wr v = none := by
      exact hw
    rw [hw']
    refine PCon.enter tb_ok (fn := Try.f37) (by kernel_rfl) (by kernel_rfl) rfl (by show 3 ≤ 236; decide) ?_
    repeat' first | refine Z1 fun _ _ => ?_ | refine Z2 ‹_› ?_ | ((first | refine Z3 tb_ok lv37 rfl ?_ | refine Z4 tb_ok mix lv37 bs37 rfl (by kernel_rfl) rfl ?_ | refine ret_eq rfl ?_); simp only [↓reduceIte, reduceCtorEq, reduceEqDiff, reduceAdd, reduceMul, reduceSub, reduceLeDiff, reduceEq, reduceLT, reduceLE, go_sem]) | (refine Z5 rfl ?_; with_reducible first | refine condQ_T ?_ | refine condQ_F ?_) | refine Z6 ?_ | refine Z8 ?_ | refine Z9 fun _ _ => ?_ | refine Za ‹_› ?_ | refine Zc ‹_› trivial ?_ | refine Zf ‹_› ?_ | refine touch_go rfl ?_ | refine eff_go rfl ?_ | fail
    refine idx_map Nd.z rfl rfl rfl rfl rfl (by omega) (by omega) rfl ?_
    simp only [Int.toNat_natCast, hr, T.root]
    simp only [↓reduceIte, reduceCtorEq, reduceEqDiff, reduceAdd, reduceMul, reduceSub, reduceLeDiff, reduceEq, reduceLT, reduceLE, go_sem]
    repeat' first | refine Z1 fun _ _ => ?_ | refine Z2 ‹_› ?_ | ((first | refine Z3 tb_ok lv37 rfl ?_ | refine Z4 tb_ok mix lv37 bs37 rfl (by kernel_rfl) rfl ?_ | refine ret_eq rfl ?_); simp only [↓reduceIte, reduceCtorEq, reduceEqDiff, reduceAdd, reduceMul, reduceSub, reduceLeDiff, reduceEq, reduceLT, reduceLE, go_sem]) | (refine Z5 rfl ?_; with_reducible first | refine condQ_T ?_ | refine condQ_F ?_) | refine Z6 ?_ | refine Z8 ?_ | refine Z9 fun _ _ => ?_ | refine Za ‹_› ?_ | refine Zc ‹_› trivial ?_ | refine Zf ‹_› ?_ | refine touch_go rfl ?_ | refine eff_go rfl ?_ | fail
    refine call_pure rfl rfl (hb0) ?_; simp only [↓reduceIte, reduceCtorEq, reduceEqDiff, reduceAdd, reduceMul, reduceSub, reduceLeDiff, reduceEq, reduceLT, reduceLE, go_sem]
    repeat' first | refine Z1 fun _ _ => ?_ | refine Z2 ‹_› ?_ | ((first | refine Z3 tb_ok lv37 rfl ?_ | refine Z4 tb_ok mix lv37 bs37 rfl (by kernel_rfl) rfl ?_ | refine ret_eq rfl ?_); simp only [↓reduceIte, reduceCtorEq, reduceEqDiff, reduceAdd, reduceMul, reduceSub, reduceLeDiff, reduceEq, reduceLT, reduceLE, go_sem]) | (refine Z5 rfl ?_; with_reducible first | refine condQ_T ?_ | refine condQ_F ?_) | refine Z6 ?_ | refine Z8 ?_ | refine Z9 fun _ _ => ?_ | refine Za ‹_› ?_ | refine Zc ‹_› trivial ?_ | refine Zf ‹_› ?_ | refine touch_go rfl ?_ | refine eff_go rfl ?_ | fail
    try
      simp only [↓reduceIte, reduceCtorEq, reduceEqDiff, reduceAdd, reduceMul, reduceSub, reduceLeDiff, reduceEq, reduceLT, reduceLE, go_sem, h2]
      repeat' first | refine Z1 fun _ _ => ?_ | refine Z2 ‹_› ?_ | ((first | refine Z3 tb_ok lv37 rfl ?_ | refine Z4 tb_ok mix lv37 bs37 rfl (by kernel_rfl) rfl ?_ | refine ret_eq rfl ?_); simp only [↓reduceIte, reduceCtorEq, reduceEqDiff, reduceAdd, reduceMul, reduceSub, reduceLeDiff, reduceEq, reduceLT, reduceLE, go_sem]) | (refine Z5 rfl ?_; with_reducible first | refine condQ_T ?_ | refine condQ_F ?_) | refine Z6 ?_ | refine Z8 ?_ | refine Z9 fun _ _ => ?_ | refine Za ‹_› ?_ | refine Zc ‹_› trivial ?_ | refine Zf ‹_› ?_ | refine touch_go rfl ?_ | refine eff_go rfl ?_ | fail
    first | done | rfl
  case false.false =>
    have hw' : (T.one 8 lo hi a).wr v = none := by
      exact hw
    rw [hw']
    refine PCon.enter tb_ok (fn := Try.f37) (by kernel_rfl) (by kernel_rfl) rfl (by show 3 ≤ 236; decide) ?_
    repeat' first | refine Z1 fun _ _ => ?_ | refine Z2 ‹_› ?_ | ((first | refine Z3 tb_ok lv37 rfl ?_ | refine Z4 tb_ok mix lv37 bs37 rfl (by kernel_rfl) rfl ?_ | refine ret_eq rfl ?_); simp only [↓reduceIte, reduceCtorEq, reduceEqDiff, reduceAdd, reduceMul, reduceSub, reduceLeDiff, reduceEq, reduceLT, reduceLE, go_sem]) | (refine Z5 rfl ?_; with_reducible first | refine condQ_T ?_ | refine condQ_F ?_) | refine Z6 ?_ | refine Z8 ?_ | refine Z9 fun _ _ => ?_ | refine Za ‹_› ?_ | refine Zc ‹_› trivial ?_ | refine Zf ‹_› ?_ | refine touch_go rfl ?_ | refine eff_go rfl ?_ | fail
    refine idx_map Nd.z rfl rfl rfl rfl rfl (by omega) (by omega) rfl ?_
    simp only [Int.toNat_natCast, hr, T.root]
    simp only [↓reduceIte, reduceCtorEq, reduceEqDiff, reduceAdd, reduceMul, reduceSub, reduceLeDiff, reduceEq, reduceLT, reduceLE, go_sem]
    repeat' first | refine Z1 fun _ _ => ?_ | refine Z2 ‹_› ?_ | ((first | refine Z3 tb_ok lv37 rfl ?_ | refine Z4 tb_ok mix lv37 bs37 rfl (by kernel_rfl) rfl ?_ | refine ret_eq rfl ?_); simp only [↓reduceIte, reduceCtorEq, reduceEqDiff, reduceAdd, reduceMul, reduceSub, reduceLeDiff, reduceEq, reduceLT, reduceLE, go_sem]) | (refine Z5 rfl ?_; with_reducible first | refine condQ_T ?_ | refine condQ_F ?_) | refine Z6 ?_ | refine Z8 ?_ | refine Z9 fun _ _ => ?_ | refine Za ‹_› ?_ | refine Zc ‹_› trivial ?_ | refine Zf ‹_› ?_ | refine touch_go rfl ?_ | refine eff_go rfl ?_ | fail
    refine call_pure rfl rfl (hb0) ?_; simp only [↓reduceIte, reduceCtorEq, reduceEqDiff, reduceAdd, reduceMul, reduceSub, reduceLeDiff, reduceEq, reduceLT, reduceLE, go_sem]
    repeat' first | refine Z1 fun _ _ => ?_ | refine Z2 ‹_› ?_ | ((first | refine Z3 tb_ok lv37 rfl ?_ | refine Z4 tb_ok mix lv37 bs37 rfl (by kernel_rfl) rfl ?_ | refine ret_eq rfl ?_); simp only [↓reduceIte, reduceCtorEq, reduceEqDiff, reduceAdd, reduceMul, reduceSub, reduceLeDiff, reduceEq, reduceLT, reduceLE, go_sem]) | (refine Z5 rfl ?_; with_reducible first | refine condQ_T ?_ | refine condQ_F ?_) | refine Z6 ?_ | refine Z8 ?_ | refine Z9 fun _ _ => ?_ | refine Za ‹_› ?_ | refine Zc ‹_› trivial ?_ | refine Zf ‹_› ?_ | refine touch_go rfl ?_ | refine eff_go rfl ?_ | fail
    try
      simp only [↓reduceIte, reduceCtorEq, reduceEqDiff, reduceAdd, reduceMul, reduceSub, reduceLeDiff, reduceEq, reduceLT, reduceLE, go_sem, h2]
      repeat' first | refine Z1 fun _ _ => ?_ | refine Z2 ‹_› ?_ | ((first | refine Z3 tb_ok lv37 rfl ?_ | refine Z4 tb_ok mix lv37 bs37 rfl (by kernel_rfl) rfl ?_ | refine ret_eq rfl ?_); simp only [↓reduceIte, reduceCtorEq, reduceEqDiff, reduceAdd, reduceMul, reduceSub, reduceLeDiff, reduceEq, reduceLT, reduceLE, go_sem]) | (refine Z5 rfl ?_; with_reducible first | refine condQ_T ?_ | refine condQ_F ?_) | refine Z6 ?_ | refine Z8 ?_ | refine Z9 fun _ _ => ?_ | refine Za ‹_› ?_ | refine Zc ‹_› trivial ?_ | refine Zf ‹_› ?_ | refine touch_go rfl ?_ | refine eff_go rfl ?_ | fail
    first | done | rfl
set_option maxRecDepth 4000 in
set_option maxHeartbeats 1000000 in
theorem c_writeI {gl} {l : List Nd} (hl : l.length ≤ 1048576) {off : Nat} {lo hi : Int} {a : T} (iha : WrC gl l off a) (hs : Sits l off (T.one 9 lo hi a)) : WrC gl l off (T.one 9 lo hi a) := by
  intro v hv hwf
  have hp := T.n_pos (T.one 9 lo hi a)
  have hr := hs.getD Nd.z
  have hlt := hs.lt
  have hb0 := c_bare (gl := gl) (v := v) (u := .mk 9 0 .empty 0 [])
  simp only [Vl.kind_mk, Vl.byte_mk, Vl.text_mk, Vl.pick_mk] at hb0
  have hw : (T.one 9 lo hi a).wr v = if v.plain 9 0 .empty 0 then (match v.kids with
      | [x] => frW 65535 (a.wr x)
      | _ => none) else none := by
    rw [T.wr.eq_def]
    simp only [show ¬ ((9 : Int) = 6) by decide, show ¬ ((9 : Int) = 7) by decide, if_false]
    cases v.plain 9 0 .empty 0 with
    | false => rfl
    | true =>
      simp only [if_true]
      match v.kids with
      | [] => rfl
      | [x] =>
        simp only [frW]
        cases a.wr x with
        | none => rfl
        | some p =>
          by_cases hp : p.length ≤ 65535
          · simp [hp, show (p.length : Int) ≤ 65535 by omega]
          · simp [hp, show ¬ (p.length : Int) ≤ 65535 by omega]
      | x :: y :: r => rfl
  cases h1 : v.plain 9 0 .empty 0 <;> cases h2 : decide ((v.kids.length : Int) = 1)
  all_goals
    rw [h1] at hb0 hw
    simp only [if_true, Bool.false_eq_true, if_false] at hw
  case true.true =>
    obtain ⟨x, hx⟩ := match_one (α := Unit) h2
    have hk := c_kids (gl := gl) (l := l) (nodes := [((off + (a.n - 1) : Nat) : Int)]) (full := false) (v := v) (F := fun _ => a.wr) hv (by simp) (by simp) (fun i hi p hp => wr_bd (kid_bulk hv hi) hp) (fun i hi => by rw [one_getD]; exact iha _ (kid_bulk hv hi) (hwf.kid (getD_mem hi)))
    have hg : gathI (fun _ => a.wr) false 0 v.kids = a.wr x := by rw [hx, gath_one]
    have hw' : (T.one 9 lo hi a).wr v = frW 65535 (a.wr x) := by rw [hw, hx]
    have hxb : x.bulk ≤ 1048577 := by
      have := kid_bulk hv (i := 0) (by rw [hx]; simp)
      rw [hx] at this
      exact this
    have hf := c_frame (gl := gl) (o := a.wr x) (most := 65535) (by omega) (by
      cases h : a.wr x with
      | none => simp
      | some p => have := wr_bd hxb h; simp only [Option.getD_some]; omega)
    rw [hg] at hk
    rw [hw']
    clear hw hg
    refine PCon.enter tb_ok (fn := Try.f37) (by kernel_rfl) (by kernel_rfl) rfl (by show 3 ≤ 236; decide) ?_
    repeat' first | refine Z1 fun _ _ => ?_ | refine Z2 ‹_› ?_ | ((first | refine Z3 tb_ok lv37 rfl ?_ | refine Z4 tb_ok mix lv37 bs37 rfl (by kernel_rfl) rfl ?_ | refine ret_eq rfl ?_); simp only [↓reduceIte, reduceCtorEq, reduceEqDiff, reduceAdd, reduceMul, reduceSub, reduceLeDiff, reduceEq, reduceLT, reduceLE, go_sem]) | (refine Z5 rfl ?_; with_reducible first | refine condQ_T ?_ | refine condQ_F ?_) | refine Z6 ?_ | refine Z8 ?_ | refine Z9 fun _ _ => ?_ | refine Za ‹_› ?_ | refine Zc ‹_› trivial ?_ | refine Zf ‹_› ?_ | refine touch_go rfl ?_ | refine eff_go rfl ?_ | fail
    refine idx_map Nd.z rfl rfl rfl rfl rfl (by omega) (by omega) rfl ?_
    simp only [Int.toNat_natCast, hr, T.root]
    simp only [↓reduceIte, reduceCtorEq, reduceEqDiff, reduceAdd, reduceMul, reduceSub, reduceLeDiff, reduceEq, reduceLT, reduceLE, go_sem]
    repeat' first | refine Z1 fun _ _ => ?_ | refine Z2 ‹_› ?_ | ((first | refine Z3 tb_ok lv37 rfl ?_ | refine Z4 tb_ok mix lv37 bs37 rfl (by kernel_rfl) rfl ?_ | refine ret_eq rfl ?_); simp only [↓reduceIte, reduceCtorEq, reduceEqDiff, reduceAdd, reduceMul, reduceSub, reduceLeDiff, reduceEq, reduceLT, reduceLE, go_sem]) | (refine Z5 rfl ?_; with_reducible first | refine condQ_T ?_ | refine condQ_F ?_) | refine Z6 ?_ | refine Z8 ?_ | refine Z9 fun _ _ => ?_ | refine Za ‹_› ?_ | refine Zc ‹_› trivial ?_ | refine Zf ‹_› ?_ | refine touch_go rfl ?_ | refine eff_go rfl ?_ | fail
    refine call_pure rfl rfl (hb0) ?_; simp only [↓reduceIte, reduceCtorEq, reduceEqDiff, reduceAdd, reduceMul, reduceSub, reduceLeDiff, reduceEq, reduceLT, reduceLE, go_sem]
    repeat' first | refine Z1 fun _ _ => ?_ | refine Z2 ‹_› ?_ | ((first | refine Z3 tb_ok lv37 rfl ?_ | refine Z4 tb_ok mix lv37 bs37 rfl (by kernel_rfl) rfl ?_ | refine ret_eq rfl ?_); simp only [↓reduceIte, reduceCtorEq, reduceEqDiff, reduceAdd, reduceMul, reduceSub, reduceLeDiff, reduceEq, reduceLT, reduceLE, go_sem]) | (refine Z5 rfl ?_; with_reducible first | refine condQ_T ?_ | refine condQ_F ?_) | refine Z6 ?_ | refine Z8 ?_ | refine Z9 fun _ _ => ?_ | refine Za ‹_› ?_ | refine Zc ‹_› trivial ?_ | refine Zf ‹_› ?_ | refine touch_go rfl ?_ | refine eff_go rfl ?_ | fail
    simp only [↓reduceIte, reduceCtorEq, reduceEqDiff, reduceAdd, reduceMul, reduceSub, reduceLeDiff, reduceEq, reduceLT, reduceLE, go_sem, h2]
    repeat' first | refine Z1 fun _ _ => ?_ | refine Z2 ‹_› ?_ | ((first | refine Z3 tb_ok lv37 rfl ?_ | refine Z4 tb_ok mix lv37 bs37 rfl (by kernel_rfl) rfl ?_ | refine ret_eq rfl ?_); simp only [↓reduceIte, reduceCtorEq, reduceEqDiff, reduceAdd, reduceMul, reduceSub, reduceLeDiff, reduceEq, reduceLT, reduceLE, go_sem]) | (refine Z5 rfl ?_; with_reducible first | refine condQ_T ?_ | refine condQ_F ?_) | refine Z6 ?_ | refine Z8 ?_ | refine Z9 fun _ _ => ?_ | refine Za ‹_› ?_ | refine Zc ‹_› trivial ?_ | refine Zf ‹_› ?_ | refine touch_go rfl ?_ | refine eff_go rfl ?_ | fail
    refine call_pure rfl rfl (hk) ?_; simp only [↓reduceIte, reduceCtorEq, reduceEqDiff, reduceAdd, reduceMul, reduceSub, reduceLeDiff, reduceEq, reduceLT, reduceLE, go_sem]
    repeat' first | refine Z1 fun _ _ => ?_ | refine Z2 ‹_› ?_ | ((first | refine Z3 tb_ok lv37 rfl ?_ | refine Z4 tb_ok mix lv37 bs37 rfl (by kernel_rfl) rfl ?_ | refine ret_eq rfl ?_); simp only [↓reduceIte, reduceCtorEq, reduceEqDiff, reduceAdd, reduceMul, reduceSub, reduceLeDiff, reduceEq, reduceLT, reduceLE, go_sem]) | (refine Z5 rfl ?_; with_reducible first | refine condQ_T ?_ | refine condQ_F ?_) | refine Z6 ?_ | refine Z8 ?_ | refine Z9 fun _ _ => ?_ | refine Za ‹_› ?_ | refine Zc ‹_› trivial ?_ | refine Zf ‹_› ?_ | refine touch_go rfl ?_ | refine eff_go rfl ?_ | fail
    refine call_pure rfl rfl (hf) ?_; simp only [↓reduceIte, reduceCtorEq, reduceEqDiff, reduceAdd, reduceMul, reduceSub, reduceLeDiff, reduceEq, reduceLT, reduceLE, go_sem]
    repeat' first | refine Z1 fun _ _ => ?_ | refine Z2 ‹_› ?_ | ((first | refine Z3 tb_ok lv37 rfl ?_ | refine Z4 tb_ok mix lv37 bs37 rfl (by kernel_rfl) rfl ?_ | refine ret_eq rfl ?_); simp only [↓reduceIte, reduceCtorEq, reduceEqDiff, reduceAdd, reduceMul, reduceSub, reduceLeDiff, reduceEq, reduceLT, reduceLE, go_sem]) | (refine Z5 rfl ?_; with_reducible first | refine condQ_T ?_ | refine condQ_F ?_) | refine Z6 ?_ | refine Z8 ?_ | refine Z9 fun _ _ => ?_ | refine Za ‹_› ?_ | refine Zc ‹_› trivial ?_ | refine Zf ‹_› ?_ | refine touch_go rfl ?_ | refine eff_go rfl ?_ | fail
  case true.false =>
    have hw' : (T.one 9 lo hi a).wr v = none := by
      rw [hw]; exact no_oneK h2
    rw [hw']
    refine PCon.enter tb_ok (fn := Try.f37) (by kernel_rfl) (by kernel_rfl) rfl (by show 3 ≤ 236; decide) ?_
    repeat' first | refine Z1 fun _ _ => ?_ | refine Z2 ‹_› ?_ | ((first | refine Z3 tb_ok lv37 rfl ?_ | refine Z4 tb_ok mix lv37 bs37 rfl (by kernel_rfl) rfl ?_ | refine ret_eq rfl ?_); simp only [↓reduceIte, reduceCtorEq, reduceEqDiff, reduceAdd, reduceMul, reduceSub, reduceLeDiff, reduceEq, reduceLT, reduceLE, go_sem]) | (refine Z5 rfl ?_; with_reducible first | refine condQ_T ?_ | refine condQ_F ?_) | refine Z6 ?_ | refine Z8 ?_ | refine Z9 fun _ _ => ?_ | refine Za ‹_› ?_ | refine Zc ‹_› trivial ?_ | refine Zf ‹_› ?_ | refine touch_go rfl ?_ | refine eff_go rfl ?_ | fail
    refine idx_map Nd.z rfl rfl rfl rfl rfl (by omega) (by omega) rfl ?_
    simp only [Int.toNat_natCast, hr, T.root]
    simp only [↓reduceIte, reduceCtorEq, reduceEqDiff, reduceAdd, reduceMul, reduceSub, reduceLeDiff, reduceEq, reduceLT, reduceLE, go_sem]
    repeat' first | refine Z1 fun _ _ => ?_ | refine Z2 ‹_› ?_ | ((first | refine Z3 tb_ok lv37 rfl ?_ | refine Z4 tb_ok mix lv37 bs37 rfl (by kernel_rfl) rfl ?_ | refine ret_eq rfl ?_); simp only [↓reduceIte, reduceCtorEq, reduceEqDiff, reduceAdd, reduceMul, reduceSub, reduceLeDiff, reduceEq, reduceLT, reduceLE, go_sem]) | (refine Z5 rfl ?_; with_reducible first | refine condQ_T ?_ | refine condQ_F ?_) | refine Z6 ?_ | refine Z8 ?_ | refine Z9 fun _ _ => ?_ | refine Za ‹_› ?_ | refine Zc ‹_› trivial ?_ | refine Zf ‹_› ?_ | refine touch_go rfl ?_ | refine eff_go rfl ?_ | fail
    refine call_pure rfl rfl (hb0) ?_; simp only [↓reduceIte, reduceCtorEq, reduceEqDiff, reduceAdd, reduceMul, reduceSub, reduceLeDiff, reduceEq, reduceLT, reduceLE, go_sem]
    repeat' first | refine Z1 fun _ _ => ?_ | refine Z2 ‹_› ?_ | ((first | refine Z3 tb_ok lv37 rfl ?_ | refine Z4 tb_ok mix lv37 bs37 rfl (by kernel_rfl) rfl ?_ | refine ret_eq rfl ?_); simp only [↓reduceIte, reduceCtorEq, reduceEqDiff, reduceAdd, reduceMul, reduceSub, reduceLeDiff, reduceEq, reduceLT, reduceLE, go_sem]) | (refine Z5 rfl ?_; with_reducible first | refine condQ_T ?_ | refine condQ_F ?_) | refine Z6 ?_ | refine Z8 ?_ | refine Z9 fun _ _ => ?_ | refine Za ‹_› ?_ | refine Zc ‹_› trivial ?_ | refine Zf ‹_› ?_ | refine touch_go rfl ?_ | refine eff_go rfl ?_ | fail
    try
      simp only [↓reduceIte, reduceCtorEq, reduceEqDiff, reduceAdd, reduceMul, reduceSub, reduceLeDiff, reduceEq, reduceLT, reduceLE, go_sem, h2]
      repeat' first | refine Z1 fun _ _ => ?_ | refine Z2 ‹_› ?_ | ((first | refine Z3 tb_ok lv37 rfl ?_ | refine Z4 tb_ok mix lv37 bs37 rfl (by kernel_rfl) rfl ?_ | refine ret_eq rfl ?_); simp only [↓reduceIte, reduceCtorEq, reduceEqDiff, reduceAdd, reduceMul, reduceSub, reduceLeDiff, reduceEq, reduceLT, reduceLE, go_sem]) | (refine Z5 rfl ?_; with_reducible first | refine condQ_T ?_ | refine condQ_F ?_) | refine Z6 ?_ | refine Z8 ?_ | refine Z9 fun _ _ => ?_ | refine Za ‹_› ?_ | refine Zc ‹_› trivial ?_ | refine Zf ‹_› ?_ | refine touch_go rfl ?_ | refine eff_go rfl ?_ | fail
    first | done | rfl
  case false.true =>
    have hw' : (T.one 9 lo hi a).wr v = none := by
      exact hw
    rw [hw']
    refine PCon.enter tb_ok (fn := Try.f37) (by kernel_rfl) (by kernel_rfl) rfl (by show 3 ≤ 236; decide) ?_
    repeat' first | refine Z1 fun _ _ => ?_ | refine Z2 ‹_› ?_ | ((first | refine Z3 tb_ok lv37 rfl ?_ | refine Z4 tb_ok mix lv37 bs37 rfl (by kernel_rfl) rfl ?_ | refine ret_eq rfl ?_); simp only [↓reduceIte, reduceCtorEq, reduceEqDiff, reduceAdd, reduceMul, reduceSub, reduceLeDiff, reduceEq, reduceLT, reduceLE, go_sem]) | (refine Z5 rfl ?_; with_reducible first | refine condQ_T ?_ | refine condQ_F ?_) | refine Z6 ?_ | refine Z8 ?_ | refine Z9 fun _ _ => ?_ | refine Za ‹_› ?_ | refine Zc ‹_› trivial ?_ | refine Zf ‹_› ?_ | refine touch_go rfl ?_ | refine eff_go rfl ?_ | fail
    refine idx_map Nd.z rfl rfl rfl rfl rfl (by omega) (by omega) rfl ?_
    simp only [Int.toNat_natCast, hr, T.root]
    simp only [↓reduceIte, reduceCtorEq, reduceEqDiff, reduceAdd, reduceMul, reduceSub, reduceLeDiff, reduceEq, reduceLT, reduceLE, go_sem]
    repeat' first | refine Z1 fun _ _ => ?_ | refine Z2 ‹_› ?_ | ((first | refine Z3 tb_ok lv37 rfl ?_ | refine Z4 tb_ok mix lv37 bs37 rfl (by kernel_rfl) rfl ?_ | refine ret_eq rfl ?_); simp only [↓reduceIte, reduceCtorEq, reduceEqDiff, reduceAdd, reduceMul, reduceSub, reduceLeDiff, reduceEq, reduceLT, reduceLE, go_sem]) | (refine Z5 rfl ?_; with_reducible first | refine condQ_T ?_ | refine condQ_F ?_) | refine Z6 ?_ | refine Z8 ?_ | refine Z9 fun _ _ => ?_ | refine Za ‹_› ?_ | refine Zc ‹_› trivial ?_ | refine Zf ‹_› ?_ | refine touch_go rfl ?_ | refine eff_go rfl ?_ | fail
    refine call_pure rfl rfl (hb0) ?_; simp only [↓reduceIte, reduceCtorEq, reduceEqDiff, reduceAdd, reduceMul, reduceSub, reduceLeDiff, reduceEq, reduceLT, reduceLE, go_sem]
    repeat' first | refine Z1 fun _ _ => ?_ | refine Z2 ‹_› ?_ | ((first | refine Z3 tb_ok lv37 rfl ?_ | refine Z4 tb_ok mix lv37 bs37 rfl (by kernel_rfl) rfl ?_ | refine ret_eq rfl ?_); simp only [↓reduceIte, reduceCtorEq, reduceEqDiff, reduceAdd, reduceMul, reduceSub, reduceLeDiff, reduceEq, reduceLT, reduceLE, go_sem]) | (refine Z5 rfl ?_; with_reducible first | refine condQ_T ?_ | refine condQ_F ?_) | refine Z6 ?_ | refine Z8 ?_ | refine Z9 fun _ _ => ?_ | refine Za ‹_› ?_ | refine Zc ‹_› trivial ?_ | refine Zf ‹_› ?_ | refine touch_go rfl ?_ | refine eff_go rfl ?_ | fail
    try
      simp only [↓reduceIte, reduceCtorEq, reduceEqDiff, reduceAdd, reduceMul, reduceSub, reduceLeDiff, reduceEq, reduceLT, reduceLE, go_sem, h2]
      repeat' first | refine Z1 fun _ _ => ?_ | refine Z2 ‹_› ?_ | ((first | refine Z3 tb_ok lv37 rfl ?_ | refine Z4 tb_ok mix lv37 bs37 rfl (by kernel_rfl) rfl ?_ | refine ret_eq rfl ?_); simp only [↓reduceIte, reduceCtorEq, reduceEqDiff, reduceAdd, reduceMul, reduceSub, reduceLeDiff, reduceEq, reduceLT, reduceLE, go_sem]) | (refine Z5 rfl ?_; with_reducible first | refine condQ_T ?_ | refine condQ_F ?_) | refine Z6 ?_ | refine Z8 ?_ | refine Z9 fun _ _ => ?_ | refine Za ‹_› ?_ | refine Zc ‹_› trivial ?_ | refine Zf ‹_› ?_ | refine touch_go rfl ?_ | refine eff_go rfl ?_ | fail
    first | done | rfl
  case false.false =>
    have hw' : (T.one 9 lo hi a).wr v = none := by
      exact hw
    rw [hw']
    refine PCon.enter tb_ok (fn := Try.f37) (by kernel_rfl) (by kernel_rfl) rfl (by show 3 ≤ 236; decide) ?_
    repeat' first | refine Z1 fun _ _ => ?_ | refine Z2 ‹_› ?_ | ((first | refine Z3 tb_ok lv37 rfl ?_ | refine Z4 tb_ok mix lv37 bs37 rfl (by kernel_rfl) rfl ?_ | refine ret_eq rfl ?_); simp only [↓reduceIte, reduceCtorEq, reduceEqDiff, reduceAdd, reduceMul, reduceSub, reduceLeDiff, reduceEq, reduceLT, reduceLE, go_sem]) | (refine Z5 rfl ?_; with_reducible first | refine condQ_T ?_ | refine condQ_F ?_) | refine Z6 ?_ | refine Z8 ?_ | refine Z9 fun _ _ => ?_ | refine Za ‹_› ?_ | refine Zc ‹_› trivial ?_ | refine Zf ‹_› ?_ | refine touch_go rfl ?_ | refine eff_go rfl ?_ | fail
    refine idx_map Nd.z rfl rfl rfl rfl rfl (by omega) (by omega) rfl ?_
    simp only [Int.toNat_natCast, hr, T.root]
    simp only [↓reduceIte, reduceCtorEq, reduceEqDiff, reduceAdd, reduceMul, reduceSub, reduceLeDiff, reduceEq, reduceLT, reduceLE, go_sem]
    repeat' first | refine Z1 fun _ _ => ?_ | refine Z2 ‹_› ?_ | ((first | refine Z3 tb_ok lv37 rfl ?_ | refine Z4 tb_ok mix lv37 bs37 rfl (by kernel_rfl) rfl ?_ | refine ret_eq rfl ?_); simp only [↓reduceIte, reduceCtorEq, reduceEqDiff, reduceAdd, reduceMul, reduceSub, reduceLeDiff, reduceEq, reduceLT, reduceLE, go_sem]) | (refine Z5 rfl ?_; with_reducible first | refine condQ_T ?_ | refine condQ_F ?_) | refine Z6 ?_ | refine Z8 ?_ | refine Z9 fun _ _ => ?_ | refine Za ‹_› ?_ | refine Zc ‹_› trivial ?_ | refine Zf ‹_› ?_ | refine touch_go rfl ?_ | refine eff_go rfl ?_ | fail
    refine call_pure rfl rfl (hb0) ?_; simp only [↓reduceIte, reduceCtorEq, reduceEqDiff, reduceAdd, reduceMul, reduceSub, reduceLeDiff, reduceEq, reduceLT, reduceLE, go_sem]
    repeat' first | refine Z1 fun _ _ => ?_ | refine Z2 ‹_› ?_ | ((first | refine Z3 tb_ok lv37 rfl ?_ | refine Z4 tb_ok mix lv37 bs37 rfl (by kernel_rfl) rfl ?_ | refine ret_eq rfl ?_); simp only [↓reduceIte, reduceCtorEq, reduceEqDiff, reduceAdd, reduceMul, reduceSub, reduceLeDiff, reduceEq, reduceLT, reduceLE, go_sem]) | (refine Z5 rfl ?_; with_reducible first | refine condQ_T ?_ | refine condQ_F ?_) | refine Z6 ?_ | refine Z8 ?_ | refine Z9 fun _ _ => ?_ | refine Za ‹_› ?_ | refine Zc ‹_› trivial ?_ | refine Zf ‹_› ?_ | refine touch_go rfl ?_ | refine eff_go rfl ?_ | fail
    try
      simp only [↓reduceIte, reduceCtorEq, reduceEqDiff, reduceAdd, reduceMul, reduceSub, reduceLeDiff, reduceEq, reduceLT, reduceLE, go_sem, h2]
      repeat' first | refine Z1 fun _ _ => ?_ | refine Z2 ‹_› ?_ | ((first | refine Z3 tb_ok lv37 rfl ?_ | refine Z4 tb_ok mix lv37 bs37 rfl (by kernel_rfl) rfl ?_ | refine ret_eq rfl ?_); simp only [↓reduceIte, reduceCtorEq, reduceEqDiff, reduceAdd, reduceMul, reduceSub, reduceLeDiff, reduceEq, reduceLT, reduceLE, go_sem]) | (refine Z5 rfl ?_; with_reducible first | refine condQ_T ?_ | refine condQ_F ?_) | refine Z6 ?_ | refine Z8 ?_ | refine Z9 fun _ _ => ?_ | refine Za ‹_› ?_ | refine Zc ‹_› trivial ?_ | refine Zf ‹_› ?_ | refine touch_go rfl ?_ | refine eff_go rfl ?_ | fail
    first | done | rfl
theorem c_write {gl} {l : List Nd} (hl : l.length ≤ 1048576) : ∀ (t : T) (off : Nat), Sits l off t → t.ok txtOk → t.cok → WrC gl l off t := by
  intro t
  induction t with
  | void => exact fun off hs _ _ => c_writeA hl hs
  | bytes c0 c1 c2 c3 => exact fun off hs _ hc => c_writeB hl hc hs
  | text s => exact fun off hs _ _ => c_writeC hl hs
  | two k a b iha ihb =>
    intro off hs hok hc
    have ha := iha off hs.two1 hok.2.1 hc.1
    have hb := ihb _ hs.two2 hok.2.2 hc.2
    rcases hok.1 with rfl | rfl
    · exact c_writeD hl ha hb hs
    · exact c_writeE hl ha hb hs
  | one k lo hi a iha =>
    intro off hs hok hc
    have ha := iha off hs.one1 hok.2 hc
    rcases hok.1 with ⟨rfl | rfl | rfl, _⟩ | ⟨rfl, _⟩
    · exact c_writeF hl ha hs
    · exact c_writeH hl ha hs
    · exact c_writeI hl ha hs
    · exact c_writeG hl ha hs
end Go.Proofs.Ytpibdbjlilpfiaa
