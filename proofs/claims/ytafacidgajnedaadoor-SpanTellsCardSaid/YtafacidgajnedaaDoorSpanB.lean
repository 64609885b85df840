/- span.of, Node, Of. -/
import Derived.Test.YtafacidgajnedaaDoorSpanA
namespace Go.Proofs.YtafacidgajnedaaDoor
set_option linter.all false
open Go Go.RowKit
open Nat (reduceEqDiff reduceAdd reduceMul reduceSub reduceLeDiff)
open Int (reduceEq reduceLT reduceLE)

theorem txtOk_m {s : ByteArray} (h : txtOk s) : s.size ≤ 1099511627776 := by have := h.1; omega
@[go_sem] def lv20 : List (Nat × List Nat) := [(0, [1, 2, 4]), (1, [2, 4, 5]), (2, [2, 4, 5, 6]), (3, [4, 5, 6, 7]), (4, [4, 5, 6, 7, 16]), (5, [4, 5, 6, 7, 16, 17]), (6, [4, 22]), (7, [4]), (8, [4]), (9, [4, 5, 6, 7, 16, 25]), (10, [4]), (11, [4, 5, 6, 7, 16, 34]), (12, [4]), (13, [4, 5, 6, 7, 16, 38]), (14, [4]), (15, [4, 5, 6, 16, 42]), (16, [4]), (17, [4, 5, 6, 16, 46]), (18, [4]), (19, [4, 6, 16, 51]), (20, [4]), (21, [4, 6, 55]), (22, [4]), (23, [4])]
def bs20 : List (Nat × List Nat × List Nat) := []
set_option maxRecDepth 4000 in
set_option maxHeartbeats 4000000 in
theorem c_of {l : List Nd} (hl : l.length ≤ 1048576) : ∀ (t : T) (off : Nat), Sits l off t → t.ok txtOk →
    PCon Tryd.prog glS 20 [desc l, .int .i64 (off + (t.n - 1) : Nat)] (sp t.span) := by
  intro t
  induction t with
  | void =>
    intro off hs hok
    have hp := T.n_pos .void
    have hr := hs.getD Nd.z
    have hlt := hs.lt
    refine PCon.enter tb_ok (fn := Tryd.f20) (by kernel_rfl) (by kernel_rfl) rfl (by show 2 ≤ 60; decide) ?_
    repeat' first | refine Z1 fun _ _ => ?_ | refine Z2 ‹_› ?_ | ((first | refine Z3 tb_ok lv20 rfl ?_ | refine Z4 tb_ok mix lv20 bs20 rfl (by kernel_rfl) rfl ?_ | refine ret_eq rfl ?_); simp only [↓reduceIte, reduceCtorEq, reduceEqDiff, reduceAdd, reduceMul, reduceSub, reduceLeDiff, reduceEq, reduceLT, reduceLE, go_sem]) | (refine Z5 rfl ?_; with_reducible first | refine condQ_T ?_ | refine condQ_F ?_) | refine Z6 ?_ | refine Z7 ?_ | refine Z8 ?_ | refine Z9 fun _ _ => ?_ | refine Za ‹_› ?_ | refine Zb ‹_› ?_ | refine Zc ‹_› trivial ?_ | refine Zd ‹_› trivial ?_ | refine Ze ‹_› trivial ?_ | refine Zf ‹_› ?_ | refine Zg ?_ | refine Zh ‹_› ?_ | refine Zi ‹_› ?_ | refine Zj ‹_› ?_ | refine Zk ‹_› ?_ | refine Zl ‹_› (by decide) ?_ | refine touch_go rfl ?_ | fail
    refine idx_map Nd.z rfl rfl rfl rfl rfl (by omega) (by omega) rfl ?_
    simp only [Int.toNat_natCast, hr, T.root]
    simp only [↓reduceIte, reduceCtorEq, reduceEqDiff, reduceAdd, reduceMul, reduceSub, reduceLeDiff, reduceEq, reduceLT, reduceLE, go_sem]
    refine Cut.go (by assumption) ?_
    refine .freeze 0 rfl rfl ?_
    simp only [↓reduceIte, reduceCtorEq, reduceEqDiff, reduceAdd, reduceMul, reduceSub, reduceLeDiff, reduceEq, reduceLT, reduceLE, go_sem]
    refine .freeze 7 rfl rfl ?_
    simp only [↓reduceIte, reduceCtorEq, reduceEqDiff, reduceAdd, reduceMul, reduceSub, reduceLeDiff, reduceEq, reduceLT, reduceLE, go_sem]
    repeat' first | refine Z1 fun _ _ => ?_ | refine Z2 ‹_› ?_ | ((first | refine Z3 tb_ok lv20 rfl ?_ | refine Z4 tb_ok mix lv20 bs20 rfl (by kernel_rfl) rfl ?_ | refine ret_eq rfl ?_); simp only [↓reduceIte, reduceCtorEq, reduceEqDiff, reduceAdd, reduceMul, reduceSub, reduceLeDiff, reduceEq, reduceLT, reduceLE, go_sem]) | (refine Z5 rfl ?_; with_reducible first | refine condQ_T ?_ | refine condQ_F ?_) | refine Z6 ?_ | refine Z7 ?_ | refine Z8 ?_ | refine Z9 fun _ _ => ?_ | refine Za ‹_› ?_ | refine Zb ‹_› ?_ | refine Zc ‹_› trivial ?_ | refine Zd ‹_› trivial ?_ | refine Ze ‹_› trivial ?_ | refine Zf ‹_› ?_ | refine Zg ?_ | refine Zh ‹_› ?_ | refine Zi ‹_› ?_ | refine Zj ‹_› ?_ | refine Zk ‹_› ?_ | refine Zl ‹_› (by decide) ?_ | refine touch_go rfl ?_ | fail
    rfl
  | bytes c0 c1 c2 c3 =>
    intro off hs hok
    have hp := T.n_pos (.bytes c0 c1 c2 c3)
    have hr := hs.getD Nd.z
    have hlt := hs.lt
    refine PCon.enter tb_ok (fn := Tryd.f20) (by kernel_rfl) (by kernel_rfl) rfl (by show 2 ≤ 60; decide) ?_
    repeat' first | refine Z1 fun _ _ => ?_ | refine Z2 ‹_› ?_ | ((first | refine Z3 tb_ok lv20 rfl ?_ | refine Z4 tb_ok mix lv20 bs20 rfl (by kernel_rfl) rfl ?_ | refine ret_eq rfl ?_); simp only [↓reduceIte, reduceCtorEq, reduceEqDiff, reduceAdd, reduceMul, reduceSub, reduceLeDiff, reduceEq, reduceLT, reduceLE, go_sem]) | (refine Z5 rfl ?_; with_reducible first | refine condQ_T ?_ | refine condQ_F ?_) | refine Z6 ?_ | refine Z7 ?_ | refine Z8 ?_ | refine Z9 fun _ _ => ?_ | refine Za ‹_› ?_ | refine Zb ‹_› ?_ | refine Zc ‹_› trivial ?_ | refine Zd ‹_› trivial ?_ | refine Ze ‹_› trivial ?_ | refine Zf ‹_› ?_ | refine Zg ?_ | refine Zh ‹_› ?_ | refine Zi ‹_› ?_ | refine Zj ‹_› ?_ | refine Zk ‹_› ?_ | refine Zl ‹_› (by decide) ?_ | refine touch_go rfl ?_ | fail
    refine idx_map Nd.z rfl rfl rfl rfl rfl (by omega) (by omega) rfl ?_
    simp only [Int.toNat_natCast, hr, T.root]
    simp only [↓reduceIte, reduceCtorEq, reduceEqDiff, reduceAdd, reduceMul, reduceSub, reduceLeDiff, reduceEq, reduceLT, reduceLE, go_sem]
    refine Cut.go (by assumption) ?_
    refine .freeze 0 rfl rfl ?_
    simp only [↓reduceIte, reduceCtorEq, reduceEqDiff, reduceAdd, reduceMul, reduceSub, reduceLeDiff, reduceEq, reduceLT, reduceLE, go_sem]
    refine .freeze 7 rfl rfl ?_
    simp only [↓reduceIte, reduceCtorEq, reduceEqDiff, reduceAdd, reduceMul, reduceSub, reduceLeDiff, reduceEq, reduceLT, reduceLE, go_sem]
    repeat' first | refine Z1 fun _ _ => ?_ | refine Z2 ‹_› ?_ | ((first | refine Z3 tb_ok lv20 rfl ?_ | refine Z4 tb_ok mix lv20 bs20 rfl (by kernel_rfl) rfl ?_ | refine ret_eq rfl ?_); simp only [↓reduceIte, reduceCtorEq, reduceEqDiff, reduceAdd, reduceMul, reduceSub, reduceLeDiff, reduceEq, reduceLT, reduceLE, go_sem]) | (refine Z5 rfl ?_; with_reducible first | refine condQ_T ?_ | refine condQ_F ?_) | refine Z6 ?_ | refine Z7 ?_ | refine Z8 ?_ | refine Z9 fun _ _ => ?_ | refine Za ‹_› ?_ | refine Zb ‹_› ?_ | refine Zc ‹_› trivial ?_ | refine Zd ‹_› trivial ?_ | refine Ze ‹_› trivial ?_ | refine Zf ‹_› ?_ | refine Zg ?_ | refine Zh ‹_› ?_ | refine Zi ‹_› ?_ | refine Zj ‹_› ?_ | refine Zk ‹_› ?_ | refine Zl ‹_› (by decide) ?_ | refine touch_go rfl ?_ | fail
    refine .cond rfl (fun h => ?_) (fun h => ?_)
    · simp at h
      repeat' first | refine Z1 fun _ _ => ?_ | refine Z2 ‹_› ?_ | ((first | refine Z3 tb_ok lv20 rfl ?_ | refine Z4 tb_ok mix lv20 bs20 rfl (by kernel_rfl) rfl ?_ | refine ret_eq rfl ?_); simp only [↓reduceIte, reduceCtorEq, reduceEqDiff, reduceAdd, reduceMul, reduceSub, reduceLeDiff, reduceEq, reduceLT, reduceLE, go_sem]) | (refine Z5 rfl ?_; with_reducible first | refine condQ_T ?_ | refine condQ_F ?_) | refine Z6 ?_ | refine Z7 ?_ | refine Z8 ?_ | refine Z9 fun _ _ => ?_ | refine Za ‹_› ?_ | refine Zb ‹_› ?_ | refine Zc ‹_› trivial ?_ | refine Zd ‹_› trivial ?_ | refine Ze ‹_› trivial ?_ | refine Zf ‹_› ?_ | refine Zg ?_ | refine Zh ‹_› ?_ | refine Zi ‹_› ?_ | refine Zj ‹_› ?_ | refine Zk ‹_› ?_ | refine Zl ‹_› (by decide) ?_ | refine touch_go rfl ?_ | fail
      refine sp_eq (a := spNo) ?_
      rw [T.span, if_pos h]
    · have h' : ¬ (c0 = 0 ∧ c1 = 0 ∧ c2 = 0 ∧ c3 = 0) := by
        rintro ⟨rfl, rfl, rfl, rfl⟩
        simp at h
      repeat' first | refine Z1 fun _ _ => ?_ | refine Z2 ‹_› ?_ | ((first | refine Z3 tb_ok lv20 rfl ?_ | refine Z4 tb_ok mix lv20 bs20 rfl (by kernel_rfl) rfl ?_ | refine ret_eq rfl ?_); simp only [↓reduceIte, reduceCtorEq, reduceEqDiff, reduceAdd, reduceMul, reduceSub, reduceLeDiff, reduceEq, reduceLT, reduceLE, go_sem]) | (refine Z5 rfl ?_; with_reducible first | refine condQ_T ?_ | refine condQ_F ?_) | refine Z6 ?_ | refine Z7 ?_ | refine Z8 ?_ | refine Z9 fun _ _ => ?_ | refine Za ‹_› ?_ | refine Zb ‹_› ?_ | refine Zc ‹_› trivial ?_ | refine Zd ‹_› trivial ?_ | refine Ze ‹_› trivial ?_ | refine Zf ‹_› ?_ | refine Zg ?_ | refine Zh ‹_› ?_ | refine Zi ‹_› ?_ | refine Zj ‹_› ?_ | refine Zk ‹_› ?_ | refine Zl ‹_› (by decide) ?_ | refine touch_go rfl ?_ | fail
      refine sp_eq (a := (1, 1)) ?_
      rw [T.span, if_neg h']
  | text s =>
    intro off hs hok
    have hp := T.n_pos (.text s)
    have hr := hs.getD Nd.z
    have hlt := hs.lt
    refine PCon.enter tb_ok (fn := Tryd.f20) (by kernel_rfl) (by kernel_rfl) rfl (by show 2 ≤ 60; decide) ?_
    repeat' first | refine Z1 fun _ _ => ?_ | refine Z2 ‹_› ?_ | ((first | refine Z3 tb_ok lv20 rfl ?_ | refine Z4 tb_ok mix lv20 bs20 rfl (by kernel_rfl) rfl ?_ | refine ret_eq rfl ?_); simp only [↓reduceIte, reduceCtorEq, reduceEqDiff, reduceAdd, reduceMul, reduceSub, reduceLeDiff, reduceEq, reduceLT, reduceLE, go_sem]) | (refine Z5 rfl ?_; with_reducible first | refine condQ_T ?_ | refine condQ_F ?_) | refine Z6 ?_ | refine Z7 ?_ | refine Z8 ?_ | refine Z9 fun _ _ => ?_ | refine Za ‹_› ?_ | refine Zb ‹_› ?_ | refine Zc ‹_› trivial ?_ | refine Zd ‹_› trivial ?_ | refine Ze ‹_› trivial ?_ | refine Zf ‹_› ?_ | refine Zg ?_ | refine Zh ‹_› ?_ | refine Zi ‹_› ?_ | refine Zj ‹_› ?_ | refine Zk ‹_› ?_ | refine Zl ‹_› (by decide) ?_ | refine touch_go rfl ?_ | fail
    refine idx_map Nd.z rfl rfl rfl rfl rfl (by omega) (by omega) rfl ?_
    simp only [Int.toNat_natCast, hr, T.root]
    simp only [↓reduceIte, reduceCtorEq, reduceEqDiff, reduceAdd, reduceMul, reduceSub, reduceLeDiff, reduceEq, reduceLT, reduceLE, go_sem]
    refine Cut.go (by assumption) ?_
    refine .freeze 0 rfl rfl ?_
    simp only [↓reduceIte, reduceCtorEq, reduceEqDiff, reduceAdd, reduceMul, reduceSub, reduceLeDiff, reduceEq, reduceLT, reduceLE, go_sem]
    refine .freeze 7 rfl rfl ?_
    simp only [↓reduceIte, reduceCtorEq, reduceEqDiff, reduceAdd, reduceMul, reduceSub, reduceLeDiff, reduceEq, reduceLT, reduceLE, go_sem]
    repeat' first | refine Z1 fun _ _ => ?_ | refine Z2 ‹_› ?_ | ((first | refine Z3 tb_ok lv20 rfl ?_ | refine Z4 tb_ok mix lv20 bs20 rfl (by kernel_rfl) rfl ?_ | refine ret_eq rfl ?_); simp only [↓reduceIte, reduceCtorEq, reduceEqDiff, reduceAdd, reduceMul, reduceSub, reduceLeDiff, reduceEq, reduceLT, reduceLE, go_sem]) | (refine Z5 rfl ?_; with_reducible first | refine condQ_T ?_ | refine condQ_F ?_) | refine Z6 ?_ | refine Z7 ?_ | refine Z8 ?_ | refine Z9 fun _ _ => ?_ | refine Za ‹_› ?_ | refine Zb ‹_› ?_ | refine Zc ‹_› trivial ?_ | refine Zd ‹_› trivial ?_ | refine Ze ‹_› trivial ?_ | refine Zf ‹_› ?_ | refine Zg ?_ | refine Zh ‹_› ?_ | refine Zi ‹_› ?_ | refine Zj ‹_› ?_ | refine Zk ‹_› ?_ | refine Zl ‹_› (by decide) ?_ | refine touch_go rfl ?_ | fail
    rfl
  | two k a b iha ihb =>
    intro off hs hok
    have pa := a.n_pos
    have pb := b.n_pos
    have ia := iha off hs.two1 hok.2.1
    have ib := ihb (off + a.n) hs.two2 hok.2.2
    have oa := T.span_ok (fun _ => txtOk_m) hok.2.1
    have ob := T.span_ok (fun _ => txtOk_m) hok.2.2
    have hp := T.n_pos (.two k a b)
    rcases hok.1 with rfl | rfl
    · have hr := hs.getD Nd.z
      have hlt := hs.lt
      refine PCon.enter tb_ok (fn := Tryd.f20) (by kernel_rfl) (by kernel_rfl) rfl (by show 2 ≤ 60; decide) ?_
      repeat' first | refine Z1 fun _ _ => ?_ | refine Z2 ‹_› ?_ | ((first | refine Z3 tb_ok lv20 rfl ?_ | refine Z4 tb_ok mix lv20 bs20 rfl (by kernel_rfl) rfl ?_ | refine ret_eq rfl ?_); simp only [↓reduceIte, reduceCtorEq, reduceEqDiff, reduceAdd, reduceMul, reduceSub, reduceLeDiff, reduceEq, reduceLT, reduceLE, go_sem]) | (refine Z5 rfl ?_; with_reducible first | refine condQ_T ?_ | refine condQ_F ?_) | refine Z6 ?_ | refine Z7 ?_ | refine Z8 ?_ | refine Z9 fun _ _ => ?_ | refine Za ‹_› ?_ | refine Zb ‹_› ?_ | refine Zc ‹_› trivial ?_ | refine Zd ‹_› trivial ?_ | refine Ze ‹_› trivial ?_ | refine Zf ‹_› ?_ | refine Zg ?_ | refine Zh ‹_› ?_ | refine Zi ‹_› ?_ | refine Zj ‹_› ?_ | refine Zk ‹_› ?_ | refine Zl ‹_› (by decide) ?_ | refine touch_go rfl ?_ | fail
      refine idx_map Nd.z rfl rfl rfl rfl rfl (by omega) (by omega) rfl ?_
      simp only [Int.toNat_natCast, hr, T.root]
      simp only [↓reduceIte, reduceCtorEq, reduceEqDiff, reduceAdd, reduceMul, reduceSub, reduceLeDiff, reduceEq, reduceLT, reduceLE, go_sem]
      refine Cut.go (by assumption) ?_
      refine .freeze 0 rfl rfl ?_
      simp only [↓reduceIte, reduceCtorEq, reduceEqDiff, reduceAdd, reduceMul, reduceSub, reduceLeDiff, reduceEq, reduceLT, reduceLE, go_sem]
      refine .freeze 7 rfl rfl ?_
      simp only [↓reduceIte, reduceCtorEq, reduceEqDiff, reduceAdd, reduceMul, reduceSub, reduceLeDiff, reduceEq, reduceLT, reduceLE, go_sem]
      repeat' first | refine Z1 fun _ _ => ?_ | refine Z2 ‹_› ?_ | ((first | refine Z3 tb_ok lv20 rfl ?_ | refine Z4 tb_ok mix lv20 bs20 rfl (by kernel_rfl) rfl ?_ | refine ret_eq rfl ?_); simp only [↓reduceIte, reduceCtorEq, reduceEqDiff, reduceAdd, reduceMul, reduceSub, reduceLeDiff, reduceEq, reduceLT, reduceLE, go_sem]) | (refine Z5 rfl ?_; with_reducible first | refine condQ_T ?_ | refine condQ_F ?_) | refine Z6 ?_ | refine Z7 ?_ | refine Z8 ?_ | refine Z9 fun _ _ => ?_ | refine Za ‹_› ?_ | refine Zb ‹_› ?_ | refine Zc ‹_› trivial ?_ | refine Zd ‹_› trivial ?_ | refine Ze ‹_› trivial ?_ | refine Zf ‹_› ?_ | refine Zg ?_ | refine Zh ‹_› ?_ | refine Zi ‹_› ?_ | refine Zj ‹_› ?_ | refine Zk ‹_› ?_ | refine Zl ‹_› (by decide) ?_ | refine touch_go rfl ?_ | fail
      refine call_pure rfl rfl (c_of2 (n := ⟨4, (off + (a.n - 1) : Nat), (off + a.n + (b.n - 1) : Nat), 0, 0, 0, 0, 0, 0, .empty⟩) ia ib (c_row oa ob)) ?_; simp only [↓reduceIte, reduceCtorEq, reduceEqDiff, reduceAdd, reduceMul, reduceSub, reduceLeDiff, reduceEq, reduceLT, reduceLE, go_sem]
      repeat' first | refine Z1 fun _ _ => ?_ | refine Z2 ‹_› ?_ | ((first | refine Z3 tb_ok lv20 rfl ?_ | refine Z4 tb_ok mix lv20 bs20 rfl (by kernel_rfl) rfl ?_ | refine ret_eq rfl ?_); simp only [↓reduceIte, reduceCtorEq, reduceEqDiff, reduceAdd, reduceMul, reduceSub, reduceLeDiff, reduceEq, reduceLT, reduceLE, go_sem]) | (refine Z5 rfl ?_; with_reducible first | refine condQ_T ?_ | refine condQ_F ?_) | refine Z6 ?_ | refine Z7 ?_ | refine Z8 ?_ | refine Z9 fun _ _ => ?_ | refine Za ‹_› ?_ | refine Zb ‹_› ?_ | refine Zc ‹_› trivial ?_ | refine Zd ‹_› trivial ?_ | refine Ze ‹_› trivial ?_ | refine Zf ‹_› ?_ | refine Zg ?_ | refine Zh ‹_› ?_ | refine Zi ‹_› ?_ | refine Zj ‹_› ?_ | refine Zk ‹_› ?_ | refine Zl ‹_› (by decide) ?_ | refine touch_go rfl ?_ | fail
      exact sp_eq (a := spRow a.span b.span) (by simp [T.span])
    · have hr := hs.getD Nd.z
      have hlt := hs.lt
      refine PCon.enter tb_ok (fn := Tryd.f20) (by kernel_rfl) (by kernel_rfl) rfl (by show 2 ≤ 60; decide) ?_
      repeat' first | refine Z1 fun _ _ => ?_ | refine Z2 ‹_› ?_ | ((first | refine Z3 tb_ok lv20 rfl ?_ | refine Z4 tb_ok mix lv20 bs20 rfl (by kernel_rfl) rfl ?_ | refine ret_eq rfl ?_); simp only [↓reduceIte, reduceCtorEq, reduceEqDiff, reduceAdd, reduceMul, reduceSub, reduceLeDiff, reduceEq, reduceLT, reduceLE, go_sem]) | (refine Z5 rfl ?_; with_reducible first | refine condQ_T ?_ | refine condQ_F ?_) | refine Z6 ?_ | refine Z7 ?_ | refine Z8 ?_ | refine Z9 fun _ _ => ?_ | refine Za ‹_› ?_ | refine Zb ‹_› ?_ | refine Zc ‹_› trivial ?_ | refine Zd ‹_› trivial ?_ | refine Ze ‹_› trivial ?_ | refine Zf ‹_› ?_ | refine Zg ?_ | refine Zh ‹_› ?_ | refine Zi ‹_› ?_ | refine Zj ‹_› ?_ | refine Zk ‹_› ?_ | refine Zl ‹_› (by decide) ?_ | refine touch_go rfl ?_ | fail
      refine idx_map Nd.z rfl rfl rfl rfl rfl (by omega) (by omega) rfl ?_
      simp only [Int.toNat_natCast, hr, T.root]
      simp only [↓reduceIte, reduceCtorEq, reduceEqDiff, reduceAdd, reduceMul, reduceSub, reduceLeDiff, reduceEq, reduceLT, reduceLE, go_sem]
      refine Cut.go (by assumption) ?_
      refine .freeze 0 rfl rfl ?_
      simp only [↓reduceIte, reduceCtorEq, reduceEqDiff, reduceAdd, reduceMul, reduceSub, reduceLeDiff, reduceEq, reduceLT, reduceLE, go_sem]
      refine .freeze 7 rfl rfl ?_
      simp only [↓reduceIte, reduceCtorEq, reduceEqDiff, reduceAdd, reduceMul, reduceSub, reduceLeDiff, reduceEq, reduceLT, reduceLE, go_sem]
      repeat' first | refine Z1 fun _ _ => ?_ | refine Z2 ‹_› ?_ | ((first | refine Z3 tb_ok lv20 rfl ?_ | refine Z4 tb_ok mix lv20 bs20 rfl (by kernel_rfl) rfl ?_ | refine ret_eq rfl ?_); simp only [↓reduceIte, reduceCtorEq, reduceEqDiff, reduceAdd, reduceMul, reduceSub, reduceLeDiff, reduceEq, reduceLT, reduceLE, go_sem]) | (refine Z5 rfl ?_; with_reducible first | refine condQ_T ?_ | refine condQ_F ?_) | refine Z6 ?_ | refine Z7 ?_ | refine Z8 ?_ | refine Z9 fun _ _ => ?_ | refine Za ‹_› ?_ | refine Zb ‹_› ?_ | refine Zc ‹_› trivial ?_ | refine Zd ‹_› trivial ?_ | refine Ze ‹_› trivial ?_ | refine Zf ‹_› ?_ | refine Zg ?_ | refine Zh ‹_› ?_ | refine Zi ‹_› ?_ | refine Zj ‹_› ?_ | refine Zk ‹_› ?_ | refine Zl ‹_› (by decide) ?_ | refine touch_go rfl ?_ | fail
      refine call_pure rfl rfl (c_of2 (n := ⟨5, (off + (a.n - 1) : Nat), (off + a.n + (b.n - 1) : Nat), 0, 0, 0, 0, 0, 0, .empty⟩) ia ib (c_or oa ob)) ?_; simp only [↓reduceIte, reduceCtorEq, reduceEqDiff, reduceAdd, reduceMul, reduceSub, reduceLeDiff, reduceEq, reduceLT, reduceLE, go_sem]
      repeat' first | refine Z1 fun _ _ => ?_ | refine Z2 ‹_› ?_ | ((first | refine Z3 tb_ok lv20 rfl ?_ | refine Z4 tb_ok mix lv20 bs20 rfl (by kernel_rfl) rfl ?_ | refine ret_eq rfl ?_); simp only [↓reduceIte, reduceCtorEq, reduceEqDiff, reduceAdd, reduceMul, reduceSub, reduceLeDiff, reduceEq, reduceLT, reduceLE, go_sem]) | (refine Z5 rfl ?_; with_reducible first | refine condQ_T ?_ | refine condQ_F ?_) | refine Z6 ?_ | refine Z7 ?_ | refine Z8 ?_ | refine Z9 fun _ _ => ?_ | refine Za ‹_› ?_ | refine Zb ‹_› ?_ | refine Zc ‹_› trivial ?_ | refine Zd ‹_› trivial ?_ | refine Ze ‹_› trivial ?_ | refine Zf ‹_› ?_ | refine Zg ?_ | refine Zh ‹_› ?_ | refine Zi ‹_› ?_ | refine Zj ‹_› ?_ | refine Zk ‹_› ?_ | refine Zl ‹_› (by decide) ?_ | refine touch_go rfl ?_ | fail
      exact sp_eq (a := spOr a.span b.span) (by simp [T.span])
  | one k lo hi a iha =>
    intro off hs hok
    have pa := a.n_pos
    have ia := iha off hs.one1 hok.2
    have oa := T.span_ok (fun _ => txtOk_m) hok.2
    have hp := T.n_pos (.one k lo hi a)
    rcases hok.1 with ⟨rfl | rfl | rfl, rfl, rfl⟩ | ⟨rfl, hk⟩
    · have hr := hs.getD Nd.z
      have hlt := hs.lt
      refine PCon.enter tb_ok (fn := Tryd.f20) (by kernel_rfl) (by kernel_rfl) rfl (by show 2 ≤ 60; decide) ?_
      repeat' first | refine Z1 fun _ _ => ?_ | refine Z2 ‹_› ?_ | ((first | refine Z3 tb_ok lv20 rfl ?_ | refine Z4 tb_ok mix lv20 bs20 rfl (by kernel_rfl) rfl ?_ | refine ret_eq rfl ?_); simp only [↓reduceIte, reduceCtorEq, reduceEqDiff, reduceAdd, reduceMul, reduceSub, reduceLeDiff, reduceEq, reduceLT, reduceLE, go_sem]) | (refine Z5 rfl ?_; with_reducible first | refine condQ_T ?_ | refine condQ_F ?_) | refine Z6 ?_ | refine Z7 ?_ | refine Z8 ?_ | refine Z9 fun _ _ => ?_ | refine Za ‹_› ?_ | refine Zb ‹_› ?_ | refine Zc ‹_› trivial ?_ | refine Zd ‹_› trivial ?_ | refine Ze ‹_› trivial ?_ | refine Zf ‹_› ?_ | refine Zg ?_ | refine Zh ‹_› ?_ | refine Zi ‹_› ?_ | refine Zj ‹_› ?_ | refine Zk ‹_› ?_ | refine Zl ‹_› (by decide) ?_ | refine touch_go rfl ?_ | fail
      refine idx_map Nd.z rfl rfl rfl rfl rfl (by omega) (by omega) rfl ?_
      simp only [Int.toNat_natCast, hr, T.root]
      simp only [↓reduceIte, reduceCtorEq, reduceEqDiff, reduceAdd, reduceMul, reduceSub, reduceLeDiff, reduceEq, reduceLT, reduceLE, go_sem]
      refine Cut.go (by assumption) ?_
      refine .freeze 0 rfl rfl ?_
      simp only [↓reduceIte, reduceCtorEq, reduceEqDiff, reduceAdd, reduceMul, reduceSub, reduceLeDiff, reduceEq, reduceLT, reduceLE, go_sem]
      refine .freeze 7 rfl rfl ?_
      simp only [↓reduceIte, reduceCtorEq, reduceEqDiff, reduceAdd, reduceMul, reduceSub, reduceLeDiff, reduceEq, reduceLT, reduceLE, go_sem]
      repeat' first | refine Z1 fun _ _ => ?_ | refine Z2 ‹_› ?_ | ((first | refine Z3 tb_ok lv20 rfl ?_ | refine Z4 tb_ok mix lv20 bs20 rfl (by kernel_rfl) rfl ?_ | refine ret_eq rfl ?_); simp only [↓reduceIte, reduceCtorEq, reduceEqDiff, reduceAdd, reduceMul, reduceSub, reduceLeDiff, reduceEq, reduceLT, reduceLE, go_sem]) | (refine Z5 rfl ?_; with_reducible first | refine condQ_T ?_ | refine condQ_F ?_) | refine Z6 ?_ | refine Z7 ?_ | refine Z8 ?_ | refine Z9 fun _ _ => ?_ | refine Za ‹_› ?_ | refine Zb ‹_› ?_ | refine Zc ‹_› trivial ?_ | refine Zd ‹_› trivial ?_ | refine Ze ‹_› trivial ?_ | refine Zf ‹_› ?_ | refine Zg ?_ | refine Zh ‹_› ?_ | refine Zi ‹_› ?_ | refine Zj ‹_› ?_ | refine Zk ‹_› ?_ | refine Zl ‹_› (by decide) ?_ | refine touch_go rfl ?_ | fail
      refine call_pure rfl rfl (c_of1 (n := ⟨6, (off + (a.n - 1) : Nat), 0, 0, 0, 0, 0, 0, 0, .empty⟩) ia c_star) ?_; simp only [↓reduceIte, reduceCtorEq, reduceEqDiff, reduceAdd, reduceMul, reduceSub, reduceLeDiff, reduceEq, reduceLT, reduceLE, go_sem]
      repeat' first | refine Z1 fun _ _ => ?_ | refine Z2 ‹_› ?_ | ((first | refine Z3 tb_ok lv20 rfl ?_ | refine Z4 tb_ok mix lv20 bs20 rfl (by kernel_rfl) rfl ?_ | refine ret_eq rfl ?_); simp only [↓reduceIte, reduceCtorEq, reduceEqDiff, reduceAdd, reduceMul, reduceSub, reduceLeDiff, reduceEq, reduceLT, reduceLE, go_sem]) | (refine Z5 rfl ?_; with_reducible first | refine condQ_T ?_ | refine condQ_F ?_) | refine Z6 ?_ | refine Z7 ?_ | refine Z8 ?_ | refine Z9 fun _ _ => ?_ | refine Za ‹_› ?_ | refine Zb ‹_› ?_ | refine Zc ‹_› trivial ?_ | refine Zd ‹_› trivial ?_ | refine Ze ‹_› trivial ?_ | refine Zf ‹_› ?_ | refine Zg ?_ | refine Zh ‹_› ?_ | refine Zi ‹_› ?_ | refine Zj ‹_› ?_ | refine Zk ‹_› ?_ | refine Zl ‹_› (by decide) ?_ | refine touch_go rfl ?_ | fail
      exact sp_eq (a := spStar a.span) (by simp [T.span])
    · have hr := hs.getD Nd.z
      have hlt := hs.lt
      refine PCon.enter tb_ok (fn := Tryd.f20) (by kernel_rfl) (by kernel_rfl) rfl (by show 2 ≤ 60; decide) ?_
      repeat' first | refine Z1 fun _ _ => ?_ | refine Z2 ‹_› ?_ | ((first | refine Z3 tb_ok lv20 rfl ?_ | refine Z4 tb_ok mix lv20 bs20 rfl (by kernel_rfl) rfl ?_ | refine ret_eq rfl ?_); simp only [↓reduceIte, reduceCtorEq, reduceEqDiff, reduceAdd, reduceMul, reduceSub, reduceLeDiff, reduceEq, reduceLT, reduceLE, go_sem]) | (refine Z5 rfl ?_; with_reducible first | refine condQ_T ?_ | refine condQ_F ?_) | refine Z6 ?_ | refine Z7 ?_ | refine Z8 ?_ | refine Z9 fun _ _ => ?_ | refine Za ‹_› ?_ | refine Zb ‹_› ?_ | refine Zc ‹_› trivial ?_ | refine Zd ‹_› trivial ?_ | refine Ze ‹_› trivial ?_ | refine Zf ‹_› ?_ | refine Zg ?_ | refine Zh ‹_› ?_ | refine Zi ‹_› ?_ | refine Zj ‹_› ?_ | refine Zk ‹_› ?_ | refine Zl ‹_› (by decide) ?_ | refine touch_go rfl ?_ | fail
      refine idx_map Nd.z rfl rfl rfl rfl rfl (by omega) (by omega) rfl ?_
      simp only [Int.toNat_natCast, hr, T.root]
      simp only [↓reduceIte, reduceCtorEq, reduceEqDiff, reduceAdd, reduceMul, reduceSub, reduceLeDiff, reduceEq, reduceLT, reduceLE, go_sem]
      refine Cut.go (by assumption) ?_
      refine .freeze 0 rfl rfl ?_
      simp only [↓reduceIte, reduceCtorEq, reduceEqDiff, reduceAdd, reduceMul, reduceSub, reduceLeDiff, reduceEq, reduceLT, reduceLE, go_sem]
      refine .freeze 7 rfl rfl ?_
      simp only [↓reduceIte, reduceCtorEq, reduceEqDiff, reduceAdd, reduceMul, reduceSub, reduceLeDiff, reduceEq, reduceLT, reduceLE, go_sem]
      repeat' first | refine Z1 fun _ _ => ?_ | refine Z2 ‹_› ?_ | ((first | refine Z3 tb_ok lv20 rfl ?_ | refine Z4 tb_ok mix lv20 bs20 rfl (by kernel_rfl) rfl ?_ | refine ret_eq rfl ?_); simp only [↓reduceIte, reduceCtorEq, reduceEqDiff, reduceAdd, reduceMul, reduceSub, reduceLeDiff, reduceEq, reduceLT, reduceLE, go_sem]) | (refine Z5 rfl ?_; with_reducible first | refine condQ_T ?_ | refine condQ_F ?_) | refine Z6 ?_ | refine Z7 ?_ | refine Z8 ?_ | refine Z9 fun _ _ => ?_ | refine Za ‹_› ?_ | refine Zb ‹_› ?_ | refine Zc ‹_› trivial ?_ | refine Zd ‹_› trivial ?_ | refine Ze ‹_› trivial ?_ | refine Zf ‹_› ?_ | refine Zg ?_ | refine Zh ‹_› ?_ | refine Zi ‹_› ?_ | refine Zj ‹_› ?_ | refine Zk ‹_› ?_ | refine Zl ‹_› (by decide) ?_ | refine touch_go rfl ?_ | fail
      refine call_pure rfl rfl (c_of1 (n := ⟨8, (off + (a.n - 1) : Nat), 0, 0, 0, 0, 0, 0, 0, .empty⟩) ia (c_of5 oa)) ?_; simp only [↓reduceIte, reduceCtorEq, reduceEqDiff, reduceAdd, reduceMul, reduceSub, reduceLeDiff, reduceEq, reduceLT, reduceLE, go_sem]
      repeat' first | refine Z1 fun _ _ => ?_ | refine Z2 ‹_› ?_ | ((first | refine Z3 tb_ok lv20 rfl ?_ | refine Z4 tb_ok mix lv20 bs20 rfl (by kernel_rfl) rfl ?_ | refine ret_eq rfl ?_); simp only [↓reduceIte, reduceCtorEq, reduceEqDiff, reduceAdd, reduceMul, reduceSub, reduceLeDiff, reduceEq, reduceLT, reduceLE, go_sem]) | (refine Z5 rfl ?_; with_reducible first | refine condQ_T ?_ | refine condQ_F ?_) | refine Z6 ?_ | refine Z7 ?_ | refine Z8 ?_ | refine Z9 fun _ _ => ?_ | refine Za ‹_› ?_ | refine Zb ‹_› ?_ | refine Zc ‹_› trivial ?_ | refine Zd ‹_› trivial ?_ | refine Ze ‹_› trivial ?_ | refine Zf ‹_› ?_ | refine Zg ?_ | refine Zh ‹_› ?_ | refine Zi ‹_› ?_ | refine Zj ‹_› ?_ | refine Zk ‹_› ?_ | refine Zl ‹_› (by decide) ?_ | refine touch_go rfl ?_ | fail
      exact sp_eq (a := spFrame a.span 1 255) (by simp [T.span])
    · have hr := hs.getD Nd.z
      have hlt := hs.lt
      refine PCon.enter tb_ok (fn := Tryd.f20) (by kernel_rfl) (by kernel_rfl) rfl (by show 2 ≤ 60; decide) ?_
      repeat' first | refine Z1 fun _ _ => ?_ | refine Z2 ‹_› ?_ | ((first | refine Z3 tb_ok lv20 rfl ?_ | refine Z4 tb_ok mix lv20 bs20 rfl (by kernel_rfl) rfl ?_ | refine ret_eq rfl ?_); simp only [↓reduceIte, reduceCtorEq, reduceEqDiff, reduceAdd, reduceMul, reduceSub, reduceLeDiff, reduceEq, reduceLT, reduceLE, go_sem]) | (refine Z5 rfl ?_; with_reducible first | refine condQ_T ?_ | refine condQ_F ?_) | refine Z6 ?_ | refine Z7 ?_ | refine Z8 ?_ | refine Z9 fun _ _ => ?_ | refine Za ‹_› ?_ | refine Zb ‹_› ?_ | refine Zc ‹_› trivial ?_ | refine Zd ‹_› trivial ?_ | refine Ze ‹_› trivial ?_ | refine Zf ‹_› ?_ | refine Zg ?_ | refine Zh ‹_› ?_ | refine Zi ‹_› ?_ | refine Zj ‹_› ?_ | refine Zk ‹_› ?_ | refine Zl ‹_› (by decide) ?_ | refine touch_go rfl ?_ | fail
      refine idx_map Nd.z rfl rfl rfl rfl rfl (by omega) (by omega) rfl ?_
      simp only [Int.toNat_natCast, hr, T.root]
      simp only [↓reduceIte, reduceCtorEq, reduceEqDiff, reduceAdd, reduceMul, reduceSub, reduceLeDiff, reduceEq, reduceLT, reduceLE, go_sem]
      refine Cut.go (by assumption) ?_
      refine .freeze 0 rfl rfl ?_
      simp only [↓reduceIte, reduceCtorEq, reduceEqDiff, reduceAdd, reduceMul, reduceSub, reduceLeDiff, reduceEq, reduceLT, reduceLE, go_sem]
      refine .freeze 7 rfl rfl ?_
      simp only [↓reduceIte, reduceCtorEq, reduceEqDiff, reduceAdd, reduceMul, reduceSub, reduceLeDiff, reduceEq, reduceLT, reduceLE, go_sem]
      repeat' first | refine Z1 fun _ _ => ?_ | refine Z2 ‹_› ?_ | ((first | refine Z3 tb_ok lv20 rfl ?_ | refine Z4 tb_ok mix lv20 bs20 rfl (by kernel_rfl) rfl ?_ | refine ret_eq rfl ?_); simp only [↓reduceIte, reduceCtorEq, reduceEqDiff, reduceAdd, reduceMul, reduceSub, reduceLeDiff, reduceEq, reduceLT, reduceLE, go_sem]) | (refine Z5 rfl ?_; with_reducible first | refine condQ_T ?_ | refine condQ_F ?_) | refine Z6 ?_ | refine Z7 ?_ | refine Z8 ?_ | refine Z9 fun _ _ => ?_ | refine Za ‹_› ?_ | refine Zb ‹_› ?_ | refine Zc ‹_› trivial ?_ | refine Zd ‹_› trivial ?_ | refine Ze ‹_› trivial ?_ | refine Zf ‹_› ?_ | refine Zg ?_ | refine Zh ‹_› ?_ | refine Zi ‹_› ?_ | refine Zj ‹_› ?_ | refine Zk ‹_› ?_ | refine Zl ‹_› (by decide) ?_ | refine touch_go rfl ?_ | fail
      refine call_pure rfl rfl (c_of1 (n := ⟨9, (off + (a.n - 1) : Nat), 0, 0, 0, 0, 0, 0, 0, .empty⟩) ia (c_of6 oa)) ?_; simp only [↓reduceIte, reduceCtorEq, reduceEqDiff, reduceAdd, reduceMul, reduceSub, reduceLeDiff, reduceEq, reduceLT, reduceLE, go_sem]
      repeat' first | refine Z1 fun _ _ => ?_ | refine Z2 ‹_› ?_ | ((first | refine Z3 tb_ok lv20 rfl ?_ | refine Z4 tb_ok mix lv20 bs20 rfl (by kernel_rfl) rfl ?_ | refine ret_eq rfl ?_); simp only [↓reduceIte, reduceCtorEq, reduceEqDiff, reduceAdd, reduceMul, reduceSub, reduceLeDiff, reduceEq, reduceLT, reduceLE, go_sem]) | (refine Z5 rfl ?_; with_reducible first | refine condQ_T ?_ | refine condQ_F ?_) | refine Z6 ?_ | refine Z7 ?_ | refine Z8 ?_ | refine Z9 fun _ _ => ?_ | refine Za ‹_› ?_ | refine Zb ‹_› ?_ | refine Zc ‹_› trivial ?_ | refine Zd ‹_› trivial ?_ | refine Ze ‹_› trivial ?_ | refine Zf ‹_› ?_ | refine Zg ?_ | refine Zh ‹_› ?_ | refine Zi ‹_› ?_ | refine Zj ‹_› ?_ | refine Zk ‹_› ?_ | refine Zl ‹_› (by decide) ?_ | refine touch_go rfl ?_ | fail
      exact sp_eq (a := spFrame a.span 2 65535) (by simp [T.span])
    · have hr := hs.getD Nd.z
      have hlt := hs.lt
      refine PCon.enter tb_ok (fn := Tryd.f20) (by kernel_rfl) (by kernel_rfl) rfl (by show 2 ≤ 60; decide) ?_
      repeat' first | refine Z1 fun _ _ => ?_ | refine Z2 ‹_› ?_ | ((first | refine Z3 tb_ok lv20 rfl ?_ | refine Z4 tb_ok mix lv20 bs20 rfl (by kernel_rfl) rfl ?_ | refine ret_eq rfl ?_); simp only [↓reduceIte, reduceCtorEq, reduceEqDiff, reduceAdd, reduceMul, reduceSub, reduceLeDiff, reduceEq, reduceLT, reduceLE, go_sem]) | (refine Z5 rfl ?_; with_reducible first | refine condQ_T ?_ | refine condQ_F ?_) | refine Z6 ?_ | refine Z7 ?_ | refine Z8 ?_ | refine Z9 fun _ _ => ?_ | refine Za ‹_› ?_ | refine Zb ‹_› ?_ | refine Zc ‹_› trivial ?_ | refine Zd ‹_› trivial ?_ | refine Ze ‹_› trivial ?_ | refine Zf ‹_› ?_ | refine Zg ?_ | refine Zh ‹_› ?_ | refine Zi ‹_› ?_ | refine Zj ‹_› ?_ | refine Zk ‹_› ?_ | refine Zl ‹_› (by decide) ?_ | refine touch_go rfl ?_ | fail
      refine idx_map Nd.z rfl rfl rfl rfl rfl (by omega) (by omega) rfl ?_
      simp only [Int.toNat_natCast, hr, T.root]
      simp only [↓reduceIte, reduceCtorEq, reduceEqDiff, reduceAdd, reduceMul, reduceSub, reduceLeDiff, reduceEq, reduceLT, reduceLE, go_sem]
      refine Cut.go (by assumption) ?_
      refine .freeze 0 rfl rfl ?_
      simp only [↓reduceIte, reduceCtorEq, reduceEqDiff, reduceAdd, reduceMul, reduceSub, reduceLeDiff, reduceEq, reduceLT, reduceLE, go_sem]
      refine .freeze 7 rfl rfl ?_
      simp only [↓reduceIte, reduceCtorEq, reduceEqDiff, reduceAdd, reduceMul, reduceSub, reduceLeDiff, reduceEq, reduceLT, reduceLE, go_sem]
      repeat' first | refine Z1 fun _ _ => ?_ | refine Z2 ‹_› ?_ | ((first | refine Z3 tb_ok lv20 rfl ?_ | refine Z4 tb_ok mix lv20 bs20 rfl (by kernel_rfl) rfl ?_ | refine ret_eq rfl ?_); simp only [↓reduceIte, reduceCtorEq, reduceEqDiff, reduceAdd, reduceMul, reduceSub, reduceLeDiff, reduceEq, reduceLT, reduceLE, go_sem]) | (refine Z5 rfl ?_; with_reducible first | refine condQ_T ?_ | refine condQ_F ?_) | refine Z6 ?_ | refine Z7 ?_ | refine Z8 ?_ | refine Z9 fun _ _ => ?_ | refine Za ‹_› ?_ | refine Zb ‹_› ?_ | refine Zc ‹_› trivial ?_ | refine Zd ‹_› trivial ?_ | refine Ze ‹_› trivial ?_ | refine Zf ‹_› ?_ | refine Zg ?_ | refine Zh ‹_› ?_ | refine Zi ‹_› ?_ | refine Zj ‹_› ?_ | refine Zk ‹_› ?_ | refine Zl ‹_› (by decide) ?_ | refine touch_go rfl ?_ | fail
      refine call_pure rfl rfl (c_of1 (n := ⟨7, (off + (a.n - 1) : Nat), 0, lo, hi, 0, 0, 0, 0, .empty⟩) ia (c_of4 (n := ⟨7, (off + (a.n - 1) : Nat), 0, lo, hi, 0, 0, 0, 0, .empty⟩) oa hk.1 hk.2.1 hk.2.2)) ?_; simp only [↓reduceIte, reduceCtorEq, reduceEqDiff, reduceAdd, reduceMul, reduceSub, reduceLeDiff, reduceEq, reduceLT, reduceLE, go_sem]
      repeat' first | refine Z1 fun _ _ => ?_ | refine Z2 ‹_› ?_ | ((first | refine Z3 tb_ok lv20 rfl ?_ | refine Z4 tb_ok mix lv20 bs20 rfl (by kernel_rfl) rfl ?_ | refine ret_eq rfl ?_); simp only [↓reduceIte, reduceCtorEq, reduceEqDiff, reduceAdd, reduceMul, reduceSub, reduceLeDiff, reduceEq, reduceLT, reduceLE, go_sem]) | (refine Z5 rfl ?_; with_reducible first | refine condQ_T ?_ | refine condQ_F ?_) | refine Z6 ?_ | refine Z7 ?_ | refine Z8 ?_ | refine Z9 fun _ _ => ?_ | refine Za ‹_› ?_ | refine Zb ‹_› ?_ | refine Zc ‹_› trivial ?_ | refine Zd ‹_› trivial ?_ | refine Ze ‹_› trivial ?_ | refine Zf ‹_› ?_ | refine Zg ?_ | refine Zh ‹_› ?_ | refine Zi ‹_› ?_ | refine Zj ‹_› ?_ | refine Zk ‹_› ?_ | refine Zl ‹_› (by decide) ?_ | refine touch_go rfl ?_ | fail
      exact sp_eq (a := spRep a.span lo hi) (by simp [T.span])
end Go.Proofs.YtafacidgajnedaaDoor
