/- scantlinglaw08.NullCounts. -/
import Derived.Test.YtpnipapelnkjbaaDoorNullD
namespace Go.Proofs.YtpnipapelnkjbaaDoor
set_option linter.all false
open Go Go.RowKit
open Nat (reduceEqDiff reduceAdd reduceMul reduceSub reduceLeDiff)
open Int (reduceEq reduceLT reduceLE)

theorem pw0 : ∀ m, 0 < m → pwF 0 m = 0
  | 0, h => by omega
  | m + 1, _ => by rw [pwF, Int.mul_zero]; omega
theorem rp0 {lo : Nat} (h : 0 < lo) : ∀ m, rpF 0 lo m = 0
  | 0 => rfl
  | m + 1 => by rw [rpF, rp0 h m, pw0 _ (by omega)]; omega
theorem rp1 : ∀ m, 0 < m → rpF 0 0 m = 1
  | 0, h => by omega
  | 1, _ => by simp only [rpF, pwF]; omega
  | m + 2, _ => by rw [rpF, rp1 (m + 1) (by omega), pw0 _ (by omega)]; omega
theorem good6 {lo hi : Int} {a : T} (h : (T.one 6 lo hi a).good = true) : a.ways = 0 := by
  simp only [T.good, Bool.and_eq_true] at h
  simpa using h.2
theorem good7 {lo hi : Int} {a : T} (h : (T.one 7 lo hi a).good = true) : a.ways = 0 := by
  simp only [T.good, Bool.and_eq_true] at h
  simpa using h.2
theorem ways6 {lo hi : Int} {a : T} (h : a.ways = 0) : (T.one 6 lo hi a).ways = 1 := by
  have : (T.one 6 lo hi a).ways = if 0 < a.ways then 2 else 1 := rfl
  rw [this, h]; rfl
theorem ways7 {lo hi : Int} {a : T} (h : a.ways = 0) (h1 : 0 ≤ lo) (h2 : lo ≤ hi) : (T.one 7 lo hi a).ways = if lo = 0 then 1 else 0 := by
  have : (T.one 7 lo hi a).ways = rpF a.ways lo.toNat (hi.toNat + 1 - lo.toNat) := rfl
  rw [this, h]
  split
  · rename_i h0
    subst h0
    exact rp1 _ (by omega)
  · exact rp0 (by omega) _
@[go_sem] def lv4 : List (Nat × List Nat) := [(0, [1, 2]), (1, [1, 2, 19]), (2, [4]), (3, [2, 5]), (4, [2, 5, 6]), (5, [2, 5, 6, 7]), (6, [2, 6, 7, 47]), (7, [4]), (8, [2, 6, 7, 49]), (9, [2, 6, 7, 49, 50]), (10, [2, 6, 7, 49, 50]), (11, [4]), (12, [2, 6, 7, 49, 55]), (13, [4]), (14, [2, 6, 7, 49, 67]), (15, [4]), (16, [2, 6, 7, 81]), (17, [4]), (18, [4])]
def bs4 : List (Nat × List Nat × List Nat) := [(15, [0, 0, 0, 4, 14, 0, 0, 64, 254, 510, 1022, 2047, 4095], []), (17, [0, 0, 0, 4, 14, 0, 0, 64, 254, 510, 1022, 2047, 4095], [])]
set_option maxRecDepth 4000 in
set_option maxHeartbeats 2000000 in
theorem c_nullCounts {l : List Nd} (hl : l.length ≤ 140737488355328) (htx : ∀ i, (l.getD i Nd.z).text.size ≤ 140737488355328) {w : Int} (hw : 0 ≤ w) (hw' : w ≤ 65535) : PCon Tryd.prog glU 4 [desc l, .int .u16 w] (.bool true) := by
  cases hfew : few l with
  | false =>
    refine PCon.enter tb_ok (fn := Tryd.f4) (by kernel_rfl) (by kernel_rfl) rfl (by show 2 ≤ 97; decide) ?_
    repeat' first | refine Z1 fun _ _ => ?_ | refine Z2 ‹_› ?_ | ((first | refine Z3 tb_ok lv4 rfl ?_ | refine Z4 tb_ok mix lv4 bs4 rfl (by kernel_rfl) rfl ?_ | refine ret_eq rfl ?_); simp only [↓reduceIte, reduceCtorEq, reduceEqDiff, reduceAdd, reduceMul, reduceSub, reduceLeDiff, reduceEq, reduceLT, reduceLE, go_sem]) | (refine Z5 rfl ?_; with_reducible first | refine condQ_T ?_ | refine condQ_F ?_) | refine Z6 ?_ | refine Z8 ?_ | refine Z9 fun _ _ => ?_ | refine Za ‹_› ?_ | refine Zc ‹_› trivial ?_ | refine Zf ‹_› ?_ | refine touch_go rfl ?_ | refine eff_go rfl ?_ | fail
    refine call_pure rfl rfl (c_awake08) ?_; simp only [↓reduceIte, reduceCtorEq, reduceEqDiff, reduceAdd, reduceMul, reduceSub, reduceLeDiff, reduceEq, reduceLT, reduceLE, go_sem]
    repeat' first | refine Z1 fun _ _ => ?_ | refine Z2 ‹_› ?_ | ((first | refine Z3 tb_ok lv4 rfl ?_ | refine Z4 tb_ok mix lv4 bs4 rfl (by kernel_rfl) rfl ?_ | refine ret_eq rfl ?_); simp only [↓reduceIte, reduceCtorEq, reduceEqDiff, reduceAdd, reduceMul, reduceSub, reduceLeDiff, reduceEq, reduceLT, reduceLE, go_sem]) | (refine Z5 rfl ?_; with_reducible first | refine condQ_T ?_ | refine condQ_F ?_) | refine Z6 ?_ | refine Z8 ?_ | refine Z9 fun _ _ => ?_ | refine Za ‹_› ?_ | refine Zc ‹_› trivial ?_ | refine Zf ‹_› ?_ | refine touch_go rfl ?_ | refine eff_go rfl ?_ | fail
    refine call_pure rfl rfl (c_fewB (by omega) hfew) ?_; simp only [↓reduceIte, reduceCtorEq, reduceEqDiff, reduceAdd, reduceMul, reduceSub, reduceLeDiff, reduceEq, reduceLT, reduceLE, go_sem]
    repeat' first | refine Z1 fun _ _ => ?_ | refine Z2 ‹_› ?_ | ((first | refine Z3 tb_ok lv4 rfl ?_ | refine Z4 tb_ok mix lv4 bs4 rfl (by kernel_rfl) rfl ?_ | refine ret_eq rfl ?_); simp only [↓reduceIte, reduceCtorEq, reduceEqDiff, reduceAdd, reduceMul, reduceSub, reduceLeDiff, reduceEq, reduceLT, reduceLE, go_sem]) | (refine Z5 rfl ?_; with_reducible first | refine condQ_T ?_ | refine condQ_F ?_) | refine Z6 ?_ | refine Z8 ?_ | refine Z9 fun _ _ => ?_ | refine Za ‹_› ?_ | refine Zc ‹_› trivial ?_ | refine Zf ‹_› ?_ | refine touch_go rfl ?_ | refine eff_go rfl ?_ | fail
    refine call_pure rfl rfl (c_awake08) ?_; simp only [↓reduceIte, reduceCtorEq, reduceEqDiff, reduceAdd, reduceMul, reduceSub, reduceLeDiff, reduceEq, reduceLT, reduceLE, go_sem]
    repeat' first | refine Z1 fun _ _ => ?_ | refine Z2 ‹_› ?_ | ((first | refine Z3 tb_ok lv4 rfl ?_ | refine Z4 tb_ok mix lv4 bs4 rfl (by kernel_rfl) rfl ?_ | refine ret_eq rfl ?_); simp only [↓reduceIte, reduceCtorEq, reduceEqDiff, reduceAdd, reduceMul, reduceSub, reduceLeDiff, reduceEq, reduceLT, reduceLE, go_sem]) | (refine Z5 rfl ?_; with_reducible first | refine condQ_T ?_ | refine condQ_F ?_) | refine Z6 ?_ | refine Z8 ?_ | refine Z9 fun _ _ => ?_ | refine Za ‹_› ?_ | refine Zc ‹_› trivial ?_ | refine Zf ‹_› ?_ | refine touch_go rfl ?_ | refine eff_go rfl ?_ | fail
  | true =>
    have hl0 := hl
    obtain ⟨hl, htx⟩ := few_small htx hfew
    obtain ⟨b, hb, hform⟩ := c_form (gl := glU) hl htx
    cases b
    · have hno : ∀ t : T, l = t.flat 0 → t.ok txtOk → False := fun t h1 h2 => by have := hb.2 ⟨t, h1, h2⟩; cases this
      refine PCon.enter tb_ok (fn := Tryd.f4) (by kernel_rfl) (by kernel_rfl) rfl (by show 2 ≤ 97; decide) ?_
      repeat' first | refine Z1 fun _ _ => ?_ | refine Z2 ‹_› ?_ | ((first | refine Z3 tb_ok lv4 rfl ?_ | refine Z4 tb_ok mix lv4 bs4 rfl (by kernel_rfl) rfl ?_ | refine ret_eq rfl ?_); simp only [↓reduceIte, reduceCtorEq, reduceEqDiff, reduceAdd, reduceMul, reduceSub, reduceLeDiff, reduceEq, reduceLT, reduceLE, go_sem]) | (refine Z5 rfl ?_; with_reducible first | refine condQ_T ?_ | refine condQ_F ?_) | refine Z6 ?_ | refine Z8 ?_ | refine Z9 fun _ _ => ?_ | refine Za ‹_› ?_ | refine Zc ‹_› trivial ?_ | refine Zf ‹_› ?_ | refine touch_go rfl ?_ | refine eff_go rfl ?_ | fail
      refine call_pure rfl rfl (c_awake08) ?_; simp only [↓reduceIte, reduceCtorEq, reduceEqDiff, reduceAdd, reduceMul, reduceSub, reduceLeDiff, reduceEq, reduceLT, reduceLE, go_sem]
      repeat' first | refine Z1 fun _ _ => ?_ | refine Z2 ‹_› ?_ | ((first | refine Z3 tb_ok lv4 rfl ?_ | refine Z4 tb_ok mix lv4 bs4 rfl (by kernel_rfl) rfl ?_ | refine ret_eq rfl ?_); simp only [↓reduceIte, reduceCtorEq, reduceEqDiff, reduceAdd, reduceMul, reduceSub, reduceLeDiff, reduceEq, reduceLT, reduceLE, go_sem]) | (refine Z5 rfl ?_; with_reducible first | refine condQ_T ?_ | refine condQ_F ?_) | refine Z6 ?_ | refine Z8 ?_ | refine Z9 fun _ _ => ?_ | refine Za ‹_› ?_ | refine Zc ‹_› trivial ?_ | refine Zf ‹_› ?_ | refine touch_go rfl ?_ | refine eff_go rfl ?_ | fail
      refine call_pure rfl rfl (c_fewB (by omega) hfew) ?_; simp only [↓reduceIte, reduceCtorEq, reduceEqDiff, reduceAdd, reduceMul, reduceSub, reduceLeDiff, reduceEq, reduceLT, reduceLE, go_sem]
      repeat' first | refine Z1 fun _ _ => ?_ | refine Z2 ‹_› ?_ | ((first | refine Z3 tb_ok lv4 rfl ?_ | refine Z4 tb_ok mix lv4 bs4 rfl (by kernel_rfl) rfl ?_ | refine ret_eq rfl ?_); simp only [↓reduceIte, reduceCtorEq, reduceEqDiff, reduceAdd, reduceMul, reduceSub, reduceLeDiff, reduceEq, reduceLT, reduceLE, go_sem]) | (refine Z5 rfl ?_; with_reducible first | refine condQ_T ?_ | refine condQ_F ?_) | refine Z6 ?_ | refine Z8 ?_ | refine Z9 fun _ _ => ?_ | refine Za ‹_› ?_ | refine Zc ‹_› trivial ?_ | refine Zf ‹_› ?_ | refine touch_go rfl ?_ | refine eff_go rfl ?_ | fail
      refine call_pure rfl rfl (c_rrightF hl htx hno) ?_; simp only [↓reduceIte, reduceCtorEq, reduceEqDiff, reduceAdd, reduceMul, reduceSub, reduceLeDiff, reduceEq, reduceLT, reduceLE, go_sem]
      repeat' first | refine Z1 fun _ _ => ?_ | refine Z2 ‹_› ?_ | ((first | refine Z3 tb_ok lv4 rfl ?_ | refine Z4 tb_ok mix lv4 bs4 rfl (by kernel_rfl) rfl ?_ | refine ret_eq rfl ?_); simp only [↓reduceIte, reduceCtorEq, reduceEqDiff, reduceAdd, reduceMul, reduceSub, reduceLeDiff, reduceEq, reduceLT, reduceLE, go_sem]) | (refine Z5 rfl ?_; with_reducible first | refine condQ_T ?_ | refine condQ_F ?_) | refine Z6 ?_ | refine Z8 ?_ | refine Z9 fun _ _ => ?_ | refine Za ‹_› ?_ | refine Zc ‹_› trivial ?_ | refine Zf ‹_› ?_ | refine touch_go rfl ?_ | refine eff_go rfl ?_ | fail
      refine call_pure rfl rfl (c_awake08) ?_; simp only [↓reduceIte, reduceCtorEq, reduceEqDiff, reduceAdd, reduceMul, reduceSub, reduceLeDiff, reduceEq, reduceLT, reduceLE, go_sem]
      repeat' first | refine Z1 fun _ _ => ?_ | refine Z2 ‹_› ?_ | ((first | refine Z3 tb_ok lv4 rfl ?_ | refine Z4 tb_ok mix lv4 bs4 rfl (by kernel_rfl) rfl ?_ | refine ret_eq rfl ?_); simp only [↓reduceIte, reduceCtorEq, reduceEqDiff, reduceAdd, reduceMul, reduceSub, reduceLeDiff, reduceEq, reduceLT, reduceLE, go_sem]) | (refine Z5 rfl ?_; with_reducible first | refine condQ_T ?_ | refine condQ_F ?_) | refine Z6 ?_ | refine Z8 ?_ | refine Z9 fun _ _ => ?_ | refine Za ‹_› ?_ | refine Zc ‹_› trivial ?_ | refine Zf ‹_› ?_ | refine touch_go rfl ?_ | refine eff_go rfl ?_ | fail
    · obtain ⟨t, rfl, hok⟩ := hb.1 rfl
      have hp := t.n_pos
      have lt := T.flat_len t 0
      have hright := c_rrightT (gl := glU) hok (by omega)
      cases hg : t.good
      · rw [hg] at hright
        refine PCon.enter tb_ok (fn := Tryd.f4) (by kernel_rfl) (by kernel_rfl) rfl (by show 2 ≤ 97; decide) ?_
        repeat' first | refine Z1 fun _ _ => ?_ | refine Z2 ‹_› ?_ | ((first | refine Z3 tb_ok lv4 rfl ?_ | refine Z4 tb_ok mix lv4 bs4 rfl (by kernel_rfl) rfl ?_ | refine ret_eq rfl ?_); simp only [↓reduceIte, reduceCtorEq, reduceEqDiff, reduceAdd, reduceMul, reduceSub, reduceLeDiff, reduceEq, reduceLT, reduceLE, go_sem]) | (refine Z5 rfl ?_; with_reducible first | refine condQ_T ?_ | refine condQ_F ?_) | refine Z6 ?_ | refine Z8 ?_ | refine Z9 fun _ _ => ?_ | refine Za ‹_› ?_ | refine Zc ‹_› trivial ?_ | refine Zf ‹_› ?_ | refine touch_go rfl ?_ | refine eff_go rfl ?_ | fail
        refine call_pure rfl rfl (c_awake08) ?_; simp only [↓reduceIte, reduceCtorEq, reduceEqDiff, reduceAdd, reduceMul, reduceSub, reduceLeDiff, reduceEq, reduceLT, reduceLE, go_sem]
        repeat' first | refine Z1 fun _ _ => ?_ | refine Z2 ‹_› ?_ | ((first | refine Z3 tb_ok lv4 rfl ?_ | refine Z4 tb_ok mix lv4 bs4 rfl (by kernel_rfl) rfl ?_ | refine ret_eq rfl ?_); simp only [↓reduceIte, reduceCtorEq, reduceEqDiff, reduceAdd, reduceMul, reduceSub, reduceLeDiff, reduceEq, reduceLT, reduceLE, go_sem]) | (refine Z5 rfl ?_; with_reducible first | refine condQ_T ?_ | refine condQ_F ?_) | refine Z6 ?_ | refine Z8 ?_ | refine Z9 fun _ _ => ?_ | refine Za ‹_› ?_ | refine Zc ‹_› trivial ?_ | refine Zf ‹_› ?_ | refine touch_go rfl ?_ | refine eff_go rfl ?_ | fail
        refine call_pure rfl rfl (c_fewB (by omega) hfew) ?_; simp only [↓reduceIte, reduceCtorEq, reduceEqDiff, reduceAdd, reduceMul, reduceSub, reduceLeDiff, reduceEq, reduceLT, reduceLE, go_sem]
        repeat' first | refine Z1 fun _ _ => ?_ | refine Z2 ‹_› ?_ | ((first | refine Z3 tb_ok lv4 rfl ?_ | refine Z4 tb_ok mix lv4 bs4 rfl (by kernel_rfl) rfl ?_ | refine ret_eq rfl ?_); simp only [↓reduceIte, reduceCtorEq, reduceEqDiff, reduceAdd, reduceMul, reduceSub, reduceLeDiff, reduceEq, reduceLT, reduceLE, go_sem]) | (refine Z5 rfl ?_; with_reducible first | refine condQ_T ?_ | refine condQ_F ?_) | refine Z6 ?_ | refine Z8 ?_ | refine Z9 fun _ _ => ?_ | refine Za ‹_› ?_ | refine Zc ‹_› trivial ?_ | refine Zf ‹_› ?_ | refine touch_go rfl ?_ | refine eff_go rfl ?_ | fail
        refine call_pure rfl rfl (hright) ?_; simp only [↓reduceIte, reduceCtorEq, reduceEqDiff, reduceAdd, reduceMul, reduceSub, reduceLeDiff, reduceEq, reduceLT, reduceLE, go_sem]
        repeat' first | refine Z1 fun _ _ => ?_ | refine Z2 ‹_› ?_ | ((first | refine Z3 tb_ok lv4 rfl ?_ | refine Z4 tb_ok mix lv4 bs4 rfl (by kernel_rfl) rfl ?_ | refine ret_eq rfl ?_); simp only [↓reduceIte, reduceCtorEq, reduceEqDiff, reduceAdd, reduceMul, reduceSub, reduceLeDiff, reduceEq, reduceLT, reduceLE, go_sem]) | (refine Z5 rfl ?_; with_reducible first | refine condQ_T ?_ | refine condQ_F ?_) | refine Z6 ?_ | refine Z8 ?_ | refine Z9 fun _ _ => ?_ | refine Za ‹_› ?_ | refine Zc ‹_› trivial ?_ | refine Zf ‹_› ?_ | refine touch_go rfl ?_ | refine eff_go rfl ?_ | fail
        refine call_pure rfl rfl (c_awake08) ?_; simp only [↓reduceIte, reduceCtorEq, reduceEqDiff, reduceAdd, reduceMul, reduceSub, reduceLeDiff, reduceEq, reduceLT, reduceLE, go_sem]
        repeat' first | refine Z1 fun _ _ => ?_ | refine Z2 ‹_› ?_ | ((first | refine Z3 tb_ok lv4 rfl ?_ | refine Z4 tb_ok mix lv4 bs4 rfl (by kernel_rfl) rfl ?_ | refine ret_eq rfl ?_); simp only [↓reduceIte, reduceCtorEq, reduceEqDiff, reduceAdd, reduceMul, reduceSub, reduceLeDiff, reduceEq, reduceLT, reduceLE, go_sem]) | (refine Z5 rfl ?_; with_reducible first | refine condQ_T ?_ | refine condQ_F ?_) | refine Z6 ?_ | refine Z8 ?_ | refine Z9 fun _ _ => ?_ | refine Za ‹_› ?_ | refine Zc ‹_› trivial ?_ | refine Zf ‹_› ?_ | refine touch_go rfl ?_ | refine eff_go rfl ?_ | fail
      rw [hg] at hright
      refine PCon.enter tb_ok (fn := Tryd.f4) (by kernel_rfl) (by kernel_rfl) rfl (by show 2 ≤ 97; decide) ?_
      repeat' first | refine Z1 fun _ _ => ?_ | refine Z2 ‹_› ?_ | ((first | refine Z3 tb_ok lv4 rfl ?_ | refine Z4 tb_ok mix lv4 bs4 rfl (by kernel_rfl) rfl ?_ | refine ret_eq rfl ?_); simp only [↓reduceIte, reduceCtorEq, reduceEqDiff, reduceAdd, reduceMul, reduceSub, reduceLeDiff, reduceEq, reduceLT, reduceLE, go_sem]) | (refine Z5 rfl ?_; with_reducible first | refine condQ_T ?_ | refine condQ_F ?_) | refine Z6 ?_ | refine Z8 ?_ | refine Z9 fun _ _ => ?_ | refine Za ‹_› ?_ | refine Zc ‹_› trivial ?_ | refine Zf ‹_› ?_ | refine touch_go rfl ?_ | refine eff_go rfl ?_ | fail
      refine call_pure rfl rfl (c_awake08) ?_; simp only [↓reduceIte, reduceCtorEq, reduceEqDiff, reduceAdd, reduceMul, reduceSub, reduceLeDiff, reduceEq, reduceLT, reduceLE, go_sem]
      repeat' first | refine Z1 fun _ _ => ?_ | refine Z2 ‹_› ?_ | ((first | refine Z3 tb_ok lv4 rfl ?_ | refine Z4 tb_ok mix lv4 bs4 rfl (by kernel_rfl) rfl ?_ | refine ret_eq rfl ?_); simp only [↓reduceIte, reduceCtorEq, reduceEqDiff, reduceAdd, reduceMul, reduceSub, reduceLeDiff, reduceEq, reduceLT, reduceLE, go_sem]) | (refine Z5 rfl ?_; with_reducible first | refine condQ_T ?_ | refine condQ_F ?_) | refine Z6 ?_ | refine Z8 ?_ | refine Z9 fun _ _ => ?_ | refine Za ‹_› ?_ | refine Zc ‹_› trivial ?_ | refine Zf ‹_› ?_ | refine touch_go rfl ?_ | refine eff_go rfl ?_ | fail
      refine call_pure rfl rfl (c_fewB (by omega) hfew) ?_; simp only [↓reduceIte, reduceCtorEq, reduceEqDiff, reduceAdd, reduceMul, reduceSub, reduceLeDiff, reduceEq, reduceLT, reduceLE, go_sem]
      repeat' first | refine Z1 fun _ _ => ?_ | refine Z2 ‹_› ?_ | ((first | refine Z3 tb_ok lv4 rfl ?_ | refine Z4 tb_ok mix lv4 bs4 rfl (by kernel_rfl) rfl ?_ | refine ret_eq rfl ?_); simp only [↓reduceIte, reduceCtorEq, reduceEqDiff, reduceAdd, reduceMul, reduceSub, reduceLeDiff, reduceEq, reduceLT, reduceLE, go_sem]) | (refine Z5 rfl ?_; with_reducible first | refine condQ_T ?_ | refine condQ_F ?_) | refine Z6 ?_ | refine Z8 ?_ | refine Z9 fun _ _ => ?_ | refine Za ‹_› ?_ | refine Zc ‹_› trivial ?_ | refine Zf ‹_› ?_ | refine touch_go rfl ?_ | refine eff_go rfl ?_ | fail
      refine call_pure rfl rfl (hright) ?_; simp only [↓reduceIte, reduceCtorEq, reduceEqDiff, reduceAdd, reduceMul, reduceSub, reduceLeDiff, reduceEq, reduceLT, reduceLE, go_sem]
      repeat' first | refine Z1 fun _ _ => ?_ | refine Z2 ‹_› ?_ | ((first | refine Z3 tb_ok lv4 rfl ?_ | refine Z4 tb_ok mix lv4 bs4 rfl (by kernel_rfl) rfl ?_ | refine ret_eq rfl ?_); simp only [↓reduceIte, reduceCtorEq, reduceEqDiff, reduceAdd, reduceMul, reduceSub, reduceLeDiff, reduceEq, reduceLT, reduceLE, go_sem]) | (refine Z5 rfl ?_; with_reducible first | refine condQ_T ?_ | refine condQ_F ?_) | refine Z6 ?_ | refine Z8 ?_ | refine Z9 fun _ _ => ?_ | refine Za ‹_› ?_ | refine Zc ‹_› trivial ?_ | refine Zf ‹_› ?_ | refine touch_go rfl ?_ | refine eff_go rfl ?_ | fail
      refine ⟨by omega, ?_⟩
      obtain ⟨off, t', e, hs, hok', hlt⟩ := pick_node hok (by omega) hw hw'
      rw [e]
      have hp' := t'.n_pos
      have hg' := good_sub (sits_flat t) hok hg hs hok' (by omega) (by omega)
      have hwb := ways_bd hok'
      have hsub := c_sub (gl := glU) hl (flat_txD hok) hs (i := off + (t'.n - 1)) (by omega) hok'
      have hr1 := c_nrightT hok' (by omega)
      rw [hg'] at hr1
      have k1 : decide (t'.ways < 0) = false := by simp; omega
      have k2 : decide (2 < t'.ways) = false := by simp; omega
      repeat' first | refine Z1 fun _ _ => ?_ | refine Z2 ‹_› ?_ | ((first | refine Z3 tb_ok lv4 rfl ?_ | refine Z4 tb_ok mix lv4 bs4 rfl (by kernel_rfl) rfl ?_ | refine ret_eq rfl ?_); simp only [↓reduceIte, reduceCtorEq, reduceEqDiff, reduceAdd, reduceMul, reduceSub, reduceLeDiff, reduceEq, reduceLT, reduceLE, go_sem]) | (refine Z5 rfl ?_; with_reducible first | refine condQ_T ?_ | refine condQ_F ?_) | refine Z6 ?_ | refine Z8 ?_ | refine Z9 fun _ _ => ?_ | refine Za ‹_› ?_ | refine Zc ‹_› trivial ?_ | refine Zf ‹_› ?_ | refine touch_go rfl ?_ | refine eff_go rfl ?_ | fail
      refine idx_map Nd.z rfl rfl rfl rfl rfl (by omega) (by omega) rfl ?_
      simp only [Int.toNat_natCast, hs.getD Nd.z]
      simp only [↓reduceIte, reduceCtorEq, reduceEqDiff, reduceAdd, reduceMul, reduceSub, reduceLeDiff, reduceEq, reduceLT, reduceLE, go_sem]
      repeat' first | refine Z1 fun _ _ => ?_ | refine Z2 ‹_› ?_ | ((first | refine Z3 tb_ok lv4 rfl ?_ | refine Z4 tb_ok mix lv4 bs4 rfl (by kernel_rfl) rfl ?_ | refine ret_eq rfl ?_); simp only [↓reduceIte, reduceCtorEq, reduceEqDiff, reduceAdd, reduceMul, reduceSub, reduceLeDiff, reduceEq, reduceLT, reduceLE, go_sem]) | (refine Z5 rfl ?_; with_reducible first | refine condQ_T ?_ | refine condQ_F ?_) | refine Z6 ?_ | refine Z8 ?_ | refine Z9 fun _ _ => ?_ | refine Za ‹_› ?_ | refine Zc ‹_› trivial ?_ | refine Zf ‹_› ?_ | refine touch_go rfl ?_ | refine eff_go rfl ?_ | fail
      refine call_pure rfl rfl (c_nways hl t' hs hok') ?_; simp only [↓reduceIte, reduceCtorEq, reduceEqDiff, reduceAdd, reduceMul, reduceSub, reduceLeDiff, reduceEq, reduceLT, reduceLE, go_sem]
      repeat' first | refine Z1 fun _ _ => ?_ | refine Z2 ‹_› ?_ | ((first | refine Z3 tb_ok lv4 rfl ?_ | refine Z4 tb_ok mix lv4 bs4 rfl (by kernel_rfl) rfl ?_ | refine ret_eq rfl ?_); simp only [↓reduceIte, reduceCtorEq, reduceEqDiff, reduceAdd, reduceMul, reduceSub, reduceLeDiff, reduceEq, reduceLT, reduceLE, go_sem]) | (refine Z5 rfl ?_; with_reducible first | refine condQ_T ?_ | refine condQ_F ?_) | refine Z6 ?_ | refine Z8 ?_ | refine Z9 fun _ _ => ?_ | refine Za ‹_› ?_ | refine Zc ‹_› trivial ?_ | refine Zf ‹_› ?_ | refine touch_go rfl ?_ | refine eff_go rfl ?_ | fail
      refine call_pure rfl rfl (hsub) ?_; simp only [↓reduceIte, reduceCtorEq, reduceEqDiff, reduceAdd, reduceMul, reduceSub, reduceLeDiff, reduceEq, reduceLT, reduceLE, go_sem]
      repeat' first | refine Z1 fun _ _ => ?_ | refine Z2 ‹_› ?_ | ((first | refine Z3 tb_ok lv4 rfl ?_ | refine Z4 tb_ok mix lv4 bs4 rfl (by kernel_rfl) rfl ?_ | refine ret_eq rfl ?_); simp only [↓reduceIte, reduceCtorEq, reduceEqDiff, reduceAdd, reduceMul, reduceSub, reduceLeDiff, reduceEq, reduceLT, reduceLE, go_sem]) | (refine Z5 rfl ?_; with_reducible first | refine condQ_T ?_ | refine condQ_F ?_) | refine Z6 ?_ | refine Z8 ?_ | refine Z9 fun _ _ => ?_ | refine Za ‹_› ?_ | refine Zc ‹_› trivial ?_ | refine Zf ‹_› ?_ | refine touch_go rfl ?_ | refine eff_go rfl ?_ | fail
      refine call_pure rfl rfl (hr1) ?_; simp only [↓reduceIte, reduceCtorEq, reduceEqDiff, reduceAdd, reduceMul, reduceSub, reduceLeDiff, reduceEq, reduceLT, reduceLE, go_sem]
      repeat' first | refine Z1 fun _ _ => ?_ | refine Z2 ‹_› ?_ | ((first | refine Z3 tb_ok lv4 rfl ?_ | refine Z4 tb_ok mix lv4 bs4 rfl (by kernel_rfl) rfl ?_ | refine ret_eq rfl ?_); simp only [↓reduceIte, reduceCtorEq, reduceEqDiff, reduceAdd, reduceMul, reduceSub, reduceLeDiff, reduceEq, reduceLT, reduceLE, go_sem]) | (refine Z5 rfl ?_; with_reducible first | refine condQ_T ?_ | refine condQ_F ?_) | refine Z6 ?_ | refine Z8 ?_ | refine Z9 fun _ _ => ?_ | refine Za ‹_› ?_ | refine Zc ‹_› trivial ?_ | refine Zf ‹_› ?_ | refine touch_go rfl ?_ | refine eff_go rfl ?_ | fail
      simp only [↓reduceIte, reduceCtorEq, reduceEqDiff, reduceAdd, reduceMul, reduceSub, reduceLeDiff, reduceEq, reduceLT, reduceLE, go_sem, k1]
      repeat' first | refine Z1 fun _ _ => ?_ | refine Z2 ‹_› ?_ | ((first | refine Z3 tb_ok lv4 rfl ?_ | refine Z4 tb_ok mix lv4 bs4 rfl (by kernel_rfl) rfl ?_ | refine ret_eq rfl ?_); simp only [↓reduceIte, reduceCtorEq, reduceEqDiff, reduceAdd, reduceMul, reduceSub, reduceLeDiff, reduceEq, reduceLT, reduceLE, go_sem]) | (refine Z5 rfl ?_; with_reducible first | refine condQ_T ?_ | refine condQ_F ?_) | refine Z6 ?_ | refine Z8 ?_ | refine Z9 fun _ _ => ?_ | refine Za ‹_› ?_ | refine Zc ‹_› trivial ?_ | refine Zf ‹_› ?_ | refine touch_go rfl ?_ | refine eff_go rfl ?_ | fail
      simp only [↓reduceIte, reduceCtorEq, reduceEqDiff, reduceAdd, reduceMul, reduceSub, reduceLeDiff, reduceEq, reduceLT, reduceLE, go_sem, k2]
      repeat' first | refine Z1 fun _ _ => ?_ | refine Z2 ‹_› ?_ | ((first | refine Z3 tb_ok lv4 rfl ?_ | refine Z4 tb_ok mix lv4 bs4 rfl (by kernel_rfl) rfl ?_ | refine ret_eq rfl ?_); simp only [↓reduceIte, reduceCtorEq, reduceEqDiff, reduceAdd, reduceMul, reduceSub, reduceLeDiff, reduceEq, reduceLT, reduceLE, go_sem]) | (refine Z5 rfl ?_; with_reducible first | refine condQ_T ?_ | refine condQ_F ?_) | refine Z6 ?_ | refine Z8 ?_ | refine Z9 fun _ _ => ?_ | refine Za ‹_› ?_ | refine Zc ‹_› trivial ?_ | refine Zf ‹_› ?_ | refine touch_go rfl ?_ | refine eff_go rfl ?_ | fail
      cases t' with
      | void =>
        simp only [T.root]
        have hz : T.void.ways = 1 := rfl
        simp only [↓reduceIte, reduceCtorEq, reduceEqDiff, reduceAdd, reduceMul, reduceSub, reduceLeDiff, reduceEq, reduceLT, reduceLE, go_sem, hz]
        repeat' first | refine Z1 fun _ _ => ?_ | refine Z2 ‹_› ?_ | ((first | refine Z3 tb_ok lv4 rfl ?_ | refine Z4 tb_ok mix lv4 bs4 rfl (by kernel_rfl) rfl ?_ | refine ret_eq rfl ?_); simp only [↓reduceIte, reduceCtorEq, reduceEqDiff, reduceAdd, reduceMul, reduceSub, reduceLeDiff, reduceEq, reduceLT, reduceLE, go_sem]) | (refine Z5 rfl ?_; with_reducible first | refine condQ_T ?_ | refine condQ_F ?_) | refine Z6 ?_ | refine Z8 ?_ | refine Z9 fun _ _ => ?_ | refine Za ‹_› ?_ | refine Zc ‹_› trivial ?_ | refine Zf ‹_› ?_ | refine touch_go rfl ?_ | refine eff_go rfl ?_ | fail
      | bytes c0 c1 c2 c3 =>
        simp only [T.root]
        have hz : (T.bytes c0 c1 c2 c3).ways = 0 := rfl
        simp only [↓reduceIte, reduceCtorEq, reduceEqDiff, reduceAdd, reduceMul, reduceSub, reduceLeDiff, reduceEq, reduceLT, reduceLE, go_sem, hz]
        repeat' first | refine Z1 fun _ _ => ?_ | refine Z2 ‹_› ?_ | ((first | refine Z3 tb_ok lv4 rfl ?_ | refine Z4 tb_ok mix lv4 bs4 rfl (by kernel_rfl) rfl ?_ | refine ret_eq rfl ?_); simp only [↓reduceIte, reduceCtorEq, reduceEqDiff, reduceAdd, reduceMul, reduceSub, reduceLeDiff, reduceEq, reduceLT, reduceLE, go_sem]) | (refine Z5 rfl ?_; with_reducible first | refine condQ_T ?_ | refine condQ_F ?_) | refine Z6 ?_ | refine Z8 ?_ | refine Z9 fun _ _ => ?_ | refine Za ‹_› ?_ | refine Zc ‹_› trivial ?_ | refine Zf ‹_› ?_ | refine touch_go rfl ?_ | refine eff_go rfl ?_ | fail
      | text s =>
        simp only [T.root]
        have hz : (T.text s).ways = 0 := rfl
        simp only [↓reduceIte, reduceCtorEq, reduceEqDiff, reduceAdd, reduceMul, reduceSub, reduceLeDiff, reduceEq, reduceLT, reduceLE, go_sem, hz]
        repeat' first | refine Z1 fun _ _ => ?_ | refine Z2 ‹_› ?_ | ((first | refine Z3 tb_ok lv4 rfl ?_ | refine Z4 tb_ok mix lv4 bs4 rfl (by kernel_rfl) rfl ?_ | refine ret_eq rfl ?_); simp only [↓reduceIte, reduceCtorEq, reduceEqDiff, reduceAdd, reduceMul, reduceSub, reduceLeDiff, reduceEq, reduceLT, reduceLE, go_sem]) | (refine Z5 rfl ?_; with_reducible first | refine condQ_T ?_ | refine condQ_F ?_) | refine Z6 ?_ | refine Z8 ?_ | refine Z9 fun _ _ => ?_ | refine Za ‹_› ?_ | refine Zc ‹_› trivial ?_ | refine Zf ‹_› ?_ | refine touch_go rfl ?_ | refine eff_go rfl ?_ | fail
      | two k a b =>
        have ba := ways_bd hok'.2.1
        have bb := ways_bd hok'.2.2
        have b3 := Int.mul_nonneg ba.1 bb.1
        have b4 : a.ways * b.ways ≤ 4 := by
          have : a.ways * b.ways ≤ 2 * 2 := Int.mul_le_mul ba.2 bb.2 bb.1 (by decide)
          omega
        have hk := hok'.1
        simp only [T.root]
        rcases hk with rfl | rfl
        · have hz : (T.two 4 a b).ways = min 2 (a.ways * b.ways) := rfl
          simp only [↓reduceIte, reduceCtorEq, reduceEqDiff, reduceAdd, reduceMul, reduceSub, reduceLeDiff, reduceEq, reduceLT, reduceLE, go_sem, hz]
          repeat' first | refine Z1 fun _ _ => ?_ | refine Z2 ‹_› ?_ | ((first | refine Z3 tb_ok lv4 rfl ?_ | refine Z4 tb_ok mix lv4 bs4 rfl (by kernel_rfl) rfl ?_ | refine ret_eq rfl ?_); simp only [↓reduceIte, reduceCtorEq, reduceEqDiff, reduceAdd, reduceMul, reduceSub, reduceLeDiff, reduceEq, reduceLT, reduceLE, go_sem]) | (refine Z5 rfl ?_; with_reducible first | refine condQ_T ?_ | refine condQ_F ?_) | refine Z6 ?_ | refine Z8 ?_ | refine Z9 fun _ _ => ?_ | refine Za ‹_› ?_ | refine Zc ‹_› trivial ?_ | refine Zf ‹_› ?_ | refine touch_go rfl ?_ | refine eff_go rfl ?_ | fail
          refine call_pure rfl rfl (c_nways hl a hs.two1 hok'.2.1) ?_; simp only [↓reduceIte, reduceCtorEq, reduceEqDiff, reduceAdd, reduceMul, reduceSub, reduceLeDiff, reduceEq, reduceLT, reduceLE, go_sem]
          repeat' first | refine Z1 fun _ _ => ?_ | refine Z2 ‹_› ?_ | ((first | refine Z3 tb_ok lv4 rfl ?_ | refine Z4 tb_ok mix lv4 bs4 rfl (by kernel_rfl) rfl ?_ | refine ret_eq rfl ?_); simp only [↓reduceIte, reduceCtorEq, reduceEqDiff, reduceAdd, reduceMul, reduceSub, reduceLeDiff, reduceEq, reduceLT, reduceLE, go_sem]) | (refine Z5 rfl ?_; with_reducible first | refine condQ_T ?_ | refine condQ_F ?_) | refine Z6 ?_ | refine Z8 ?_ | refine Z9 fun _ _ => ?_ | refine Za ‹_› ?_ | refine Zc ‹_› trivial ?_ | refine Zf ‹_› ?_ | refine touch_go rfl ?_ | refine eff_go rfl ?_ | fail
          refine call_pure rfl rfl (c_nways hl b hs.two2 hok'.2.2) ?_; simp only [↓reduceIte, reduceCtorEq, reduceEqDiff, reduceAdd, reduceMul, reduceSub, reduceLeDiff, reduceEq, reduceLT, reduceLE, go_sem]
          rw [wrap64 (by omega) (by omega)]
          repeat' first | refine Z1 fun _ _ => ?_ | refine Z2 ‹_› ?_ | ((first | refine Z3 tb_ok lv4 rfl ?_ | refine Z4 tb_ok mix lv4 bs4 rfl (by kernel_rfl) rfl ?_ | refine ret_eq rfl ?_); simp only [↓reduceIte, reduceCtorEq, reduceEqDiff, reduceAdd, reduceMul, reduceSub, reduceLeDiff, reduceEq, reduceLT, reduceLE, go_sem]) | (refine Z5 rfl ?_; with_reducible first | refine condQ_T ?_ | refine condQ_F ?_) | refine Z6 ?_ | refine Z8 ?_ | refine Z9 fun _ _ => ?_ | refine Za ‹_› ?_ | refine Zc ‹_› trivial ?_ | refine Zf ‹_› ?_ | refine touch_go rfl ?_ | refine eff_go rfl ?_ | fail
        · have hz : (T.two 5 a b).ways = min 2 (a.ways + b.ways) := rfl
          simp only [↓reduceIte, reduceCtorEq, reduceEqDiff, reduceAdd, reduceMul, reduceSub, reduceLeDiff, reduceEq, reduceLT, reduceLE, go_sem, hz]
          repeat' first | refine Z1 fun _ _ => ?_ | refine Z2 ‹_› ?_ | ((first | refine Z3 tb_ok lv4 rfl ?_ | refine Z4 tb_ok mix lv4 bs4 rfl (by kernel_rfl) rfl ?_ | refine ret_eq rfl ?_); simp only [↓reduceIte, reduceCtorEq, reduceEqDiff, reduceAdd, reduceMul, reduceSub, reduceLeDiff, reduceEq, reduceLT, reduceLE, go_sem]) | (refine Z5 rfl ?_; with_reducible first | refine condQ_T ?_ | refine condQ_F ?_) | refine Z6 ?_ | refine Z8 ?_ | refine Z9 fun _ _ => ?_ | refine Za ‹_› ?_ | refine Zc ‹_› trivial ?_ | refine Zf ‹_› ?_ | refine touch_go rfl ?_ | refine eff_go rfl ?_ | fail
          refine call_pure rfl rfl (c_nways hl a hs.two1 hok'.2.1) ?_; simp only [↓reduceIte, reduceCtorEq, reduceEqDiff, reduceAdd, reduceMul, reduceSub, reduceLeDiff, reduceEq, reduceLT, reduceLE, go_sem]
          repeat' first | refine Z1 fun _ _ => ?_ | refine Z2 ‹_› ?_ | ((first | refine Z3 tb_ok lv4 rfl ?_ | refine Z4 tb_ok mix lv4 bs4 rfl (by kernel_rfl) rfl ?_ | refine ret_eq rfl ?_); simp only [↓reduceIte, reduceCtorEq, reduceEqDiff, reduceAdd, reduceMul, reduceSub, reduceLeDiff, reduceEq, reduceLT, reduceLE, go_sem]) | (refine Z5 rfl ?_; with_reducible first | refine condQ_T ?_ | refine condQ_F ?_) | refine Z6 ?_ | refine Z8 ?_ | refine Z9 fun _ _ => ?_ | refine Za ‹_› ?_ | refine Zc ‹_› trivial ?_ | refine Zf ‹_› ?_ | refine touch_go rfl ?_ | refine eff_go rfl ?_ | fail
          refine call_pure rfl rfl (c_nways hl b hs.two2 hok'.2.2) ?_; simp only [↓reduceIte, reduceCtorEq, reduceEqDiff, reduceAdd, reduceMul, reduceSub, reduceLeDiff, reduceEq, reduceLT, reduceLE, go_sem]
          rw [wrap64 (by omega) (by omega)]
          repeat' first | refine Z1 fun _ _ => ?_ | refine Z2 ‹_› ?_ | ((first | refine Z3 tb_ok lv4 rfl ?_ | refine Z4 tb_ok mix lv4 bs4 rfl (by kernel_rfl) rfl ?_ | refine ret_eq rfl ?_); simp only [↓reduceIte, reduceCtorEq, reduceEqDiff, reduceAdd, reduceMul, reduceSub, reduceLeDiff, reduceEq, reduceLT, reduceLE, go_sem]) | (refine Z5 rfl ?_; with_reducible first | refine condQ_T ?_ | refine condQ_F ?_) | refine Z6 ?_ | refine Z8 ?_ | refine Z9 fun _ _ => ?_ | refine Za ‹_› ?_ | refine Zc ‹_› trivial ?_ | refine Zf ‹_› ?_ | refine touch_go rfl ?_ | refine eff_go rfl ?_ | fail
      | one k lo hi a =>
        simp only [T.root]
        rcases hok'.1 with ⟨rfl | rfl | rfl, rfl, rfl⟩ | ⟨rfl, h1, h2, h3⟩
        · have hz := ways6 (lo := 0) (hi := 0) (good6 hg')
          simp only [↓reduceIte, reduceCtorEq, reduceEqDiff, reduceAdd, reduceMul, reduceSub, reduceLeDiff, reduceEq, reduceLT, reduceLE, go_sem, hz]
          repeat' first | refine Z1 fun _ _ => ?_ | refine Z2 ‹_› ?_ | ((first | refine Z3 tb_ok lv4 rfl ?_ | refine Z4 tb_ok mix lv4 bs4 rfl (by kernel_rfl) rfl ?_ | refine ret_eq rfl ?_); simp only [↓reduceIte, reduceCtorEq, reduceEqDiff, reduceAdd, reduceMul, reduceSub, reduceLeDiff, reduceEq, reduceLT, reduceLE, go_sem]) | (refine Z5 rfl ?_; with_reducible first | refine condQ_T ?_ | refine condQ_F ?_) | refine Z6 ?_ | refine Z8 ?_ | refine Z9 fun _ _ => ?_ | refine Za ‹_› ?_ | refine Zc ‹_› trivial ?_ | refine Zf ‹_› ?_ | refine touch_go rfl ?_ | refine eff_go rfl ?_ | fail
        · have hz : (T.one 8 0 0 a).ways = 0 := rfl
          simp only [↓reduceIte, reduceCtorEq, reduceEqDiff, reduceAdd, reduceMul, reduceSub, reduceLeDiff, reduceEq, reduceLT, reduceLE, go_sem, hz]
          repeat' first | refine Z1 fun _ _ => ?_ | refine Z2 ‹_› ?_ | ((first | refine Z3 tb_ok lv4 rfl ?_ | refine Z4 tb_ok mix lv4 bs4 rfl (by kernel_rfl) rfl ?_ | refine ret_eq rfl ?_); simp only [↓reduceIte, reduceCtorEq, reduceEqDiff, reduceAdd, reduceMul, reduceSub, reduceLeDiff, reduceEq, reduceLT, reduceLE, go_sem]) | (refine Z5 rfl ?_; with_reducible first | refine condQ_T ?_ | refine condQ_F ?_) | refine Z6 ?_ | refine Z8 ?_ | refine Z9 fun _ _ => ?_ | refine Za ‹_› ?_ | refine Zc ‹_› trivial ?_ | refine Zf ‹_› ?_ | refine touch_go rfl ?_ | refine eff_go rfl ?_ | fail
        · have hz : (T.one 9 0 0 a).ways = 0 := rfl
          simp only [↓reduceIte, reduceCtorEq, reduceEqDiff, reduceAdd, reduceMul, reduceSub, reduceLeDiff, reduceEq, reduceLT, reduceLE, go_sem, hz]
          repeat' first | refine Z1 fun _ _ => ?_ | refine Z2 ‹_› ?_ | ((first | refine Z3 tb_ok lv4 rfl ?_ | refine Z4 tb_ok mix lv4 bs4 rfl (by kernel_rfl) rfl ?_ | refine ret_eq rfl ?_); simp only [↓reduceIte, reduceCtorEq, reduceEqDiff, reduceAdd, reduceMul, reduceSub, reduceLeDiff, reduceEq, reduceLT, reduceLE, go_sem]) | (refine Z5 rfl ?_; with_reducible first | refine condQ_T ?_ | refine condQ_F ?_) | refine Z6 ?_ | refine Z8 ?_ | refine Z9 fun _ _ => ?_ | refine Za ‹_› ?_ | refine Zc ‹_› trivial ?_ | refine Zf ‹_› ?_ | refine touch_go rfl ?_ | refine eff_go rfl ?_ | fail
        · have hz := ways7 (lo := lo) (hi := hi) (good7 hg') h1 h2
          by_cases h0 : lo = 0
          · rw [if_pos h0] at hz
            subst h0
            simp only [↓reduceIte, reduceCtorEq, reduceEqDiff, reduceAdd, reduceMul, reduceSub, reduceLeDiff, reduceEq, reduceLT, reduceLE, go_sem, hz]
            repeat' first | refine Z1 fun _ _ => ?_ | refine Z2 ‹_› ?_ | ((first | refine Z3 tb_ok lv4 rfl ?_ | refine Z4 tb_ok mix lv4 bs4 rfl (by kernel_rfl) rfl ?_ | refine ret_eq rfl ?_); simp only [↓reduceIte, reduceCtorEq, reduceEqDiff, reduceAdd, reduceMul, reduceSub, reduceLeDiff, reduceEq, reduceLT, reduceLE, go_sem]) | (refine Z5 rfl ?_; with_reducible first | refine condQ_T ?_ | refine condQ_F ?_) | refine Z6 ?_ | refine Z8 ?_ | refine Z9 fun _ _ => ?_ | refine Za ‹_› ?_ | refine Zc ‹_› trivial ?_ | refine Zf ‹_› ?_ | refine touch_go rfl ?_ | refine eff_go rfl ?_ | fail
            simp only [↓reduceIte, reduceCtorEq, reduceEqDiff, reduceAdd, reduceMul, reduceSub, reduceLeDiff, reduceEq, reduceLT, reduceLE, go_sem, beq_self_eq_true]
            repeat' first | refine Z1 fun _ _ => ?_ | refine Z2 ‹_› ?_ | ((first | refine Z3 tb_ok lv4 rfl ?_ | refine Z4 tb_ok mix lv4 bs4 rfl (by kernel_rfl) rfl ?_ | refine ret_eq rfl ?_); simp only [↓reduceIte, reduceCtorEq, reduceEqDiff, reduceAdd, reduceMul, reduceSub, reduceLeDiff, reduceEq, reduceLT, reduceLE, go_sem]) | (refine Z5 rfl ?_; with_reducible first | refine condQ_T ?_ | refine condQ_F ?_) | refine Z6 ?_ | refine Z8 ?_ | refine Z9 fun _ _ => ?_ | refine Za ‹_› ?_ | refine Zc ‹_› trivial ?_ | refine Zf ‹_› ?_ | refine touch_go rfl ?_ | refine eff_go rfl ?_ | fail
          · rw [if_neg h0] at hz
            have d0 : (false == decide (lo = 0)) = true := by simp [h0]
            simp only [↓reduceIte, reduceCtorEq, reduceEqDiff, reduceAdd, reduceMul, reduceSub, reduceLeDiff, reduceEq, reduceLT, reduceLE, go_sem, hz]
            repeat' first | refine Z1 fun _ _ => ?_ | refine Z2 ‹_› ?_ | ((first | refine Z3 tb_ok lv4 rfl ?_ | refine Z4 tb_ok mix lv4 bs4 rfl (by kernel_rfl) rfl ?_ | refine ret_eq rfl ?_); simp only [↓reduceIte, reduceCtorEq, reduceEqDiff, reduceAdd, reduceMul, reduceSub, reduceLeDiff, reduceEq, reduceLT, reduceLE, go_sem]) | (refine Z5 rfl ?_; with_reducible first | refine condQ_T ?_ | refine condQ_F ?_) | refine Z6 ?_ | refine Z8 ?_ | refine Z9 fun _ _ => ?_ | refine Za ‹_› ?_ | refine Zc ‹_› trivial ?_ | refine Zf ‹_› ?_ | refine touch_go rfl ?_ | refine eff_go rfl ?_ | fail
            simp only [↓reduceIte, reduceCtorEq, reduceEqDiff, reduceAdd, reduceMul, reduceSub, reduceLeDiff, reduceEq, reduceLT, reduceLE, go_sem, d0]
            repeat' first | refine Z1 fun _ _ => ?_ | refine Z2 ‹_› ?_ | ((first | refine Z3 tb_ok lv4 rfl ?_ | refine Z4 tb_ok mix lv4 bs4 rfl (by kernel_rfl) rfl ?_ | refine ret_eq rfl ?_); simp only [↓reduceIte, reduceCtorEq, reduceEqDiff, reduceAdd, reduceMul, reduceSub, reduceLeDiff, reduceEq, reduceLT, reduceLE, go_sem]) | (refine Z5 rfl ?_; with_reducible first | refine condQ_T ?_ | refine condQ_F ?_) | refine Z6 ?_ | refine Z8 ?_ | refine Z9 fun _ _ => ?_ | refine Za ‹_› ?_ | refine Zc ‹_› trivial ?_ | refine Zf ‹_› ?_ | refine touch_go rfl ?_ | refine eff_go rfl ?_ | fail
end Go.Proofs.YtpnipapelnkjbaaDoor
