/- scantlinglaw11.ValueOnly. -/
import Derived.Test.YtpibdbjlilpfiaaValH
namespace Go.Proofs.Ytpibdbjlilpfiaa
set_option linter.all false
open Go Go.RowKit
open Nat (reduceEqDiff reduceAdd reduceMul reduceSub reduceLeDiff)
open Int (reduceEq reduceLT reduceLE)

def T.kd : T → Int
  | .void => 1
  | .bytes .. => 2
  | .text _ => 3
  | .two k _ _ => k
  | .one k _ _ _ => k
def T.tx : T → ByteArray
  | .text s => s
  | _ => .empty
def T.kc : T → Nat
  | .two k _ _ => if k = 4 then 2 else 1
  | .one _ _ _ _ => 1
  | _ => 0
/-- What a value that writes a word looks like. -/
theorem wr_fits {txt : ByteArray → Prop} : ∀ {t : T} {v : Vl} {w : List UInt8}, t.ok txt → t.wr v = some w → v.kind = t.kd ∧ v.text = t.tx ∧ (t.kd ≠ 2 → v.byte = 0) ∧ (t.kd ≠ 6 → t.kd ≠ 7 → v.kids.length = t.kc)
  | .void, v, w, _, h => by
    rw [T.wr.eq_def] at h
    simp only at h
    split at h
    · rename_i hc
      simp only [Bool.and_eq_true, Vl.plain_iff, List.isEmpty_iff] at hc
      exact ⟨hc.1.1, hc.1.2.2.1, fun _ => hc.1.2.1, fun _ _ => by rw [hc.2]; rfl⟩
    · cases h
  | .bytes c0 c1 c2 c3, v, w, _, h => by
    rw [T.wr.eq_def] at h
    simp only at h
    split at h
    · rename_i hc
      simp only [Bool.and_eq_true, Vl.plain_iff, List.isEmpty_iff] at hc
      exact ⟨hc.1.1.1, hc.1.1.2.2.1, fun h => absurd rfl h, fun _ _ => by rw [hc.1.2]; rfl⟩
    · cases h
  | .text s, v, w, _, h => by
    rw [T.wr.eq_def] at h
    simp only at h
    split at h
    · rename_i hc
      simp only [Bool.and_eq_true, Vl.plain_iff, List.isEmpty_iff] at hc
      exact ⟨hc.1.1, hc.1.2.2.1, fun _ => hc.1.2.1, fun _ _ => by rw [hc.2]; rfl⟩
    · cases h
  | .two k a b, v, w, hok, h => by
    rw [T.wr.eq_def] at h
    simp only at h
    rcases hok.1 with rfl | rfl
    · simp only [if_true] at h
      split at h
      · rename_i hc
        rw [Vl.plain_iff] at hc
        split at h
        · rename_i x y hk
          exact ⟨hc.1, hc.2.2.1, fun _ => hc.2.1, fun _ _ => by rw [hk]; rfl⟩
        · cases h
      · cases h
    · simp only [show ¬ ((5 : Int) = 4) by decide, if_false] at h
      split at h
      · rename_i hc
        rw [Vl.plain_iff] at hc
        split at h
        · rename_i x hk
          exact ⟨hc.1, hc.2.2.1, fun _ => hc.2.1, fun _ _ => by rw [hk]; rfl⟩
        · cases h
      · split at h
        · rename_i hc
          rw [Vl.plain_iff] at hc
          split at h
          · rename_i x hk
            exact ⟨hc.1, hc.2.2.1, fun _ => hc.2.1, fun _ _ => by rw [hk]; rfl⟩
          · cases h
        · cases h
  | .one k lo hi a, v, w, hok, h => by
    rw [T.wr.eq_def] at h
    simp only at h
    split at h
    · rename_i hc
      rw [Vl.plain_iff] at hc
      refine ⟨hc.1, hc.2.2.1, fun _ => hc.2.1, fun h6 h7 => ?_⟩
      have h6' : ¬ k = 6 := h6
      have h7' : ¬ k = 7 := h7
      simp only [h6', h7', if_false] at h
      split at h
      · rename_i x hk
        rw [hk]; rfl
      · cases h
    · cases h
theorem kd_bd {txt : ByteArray → Prop} : ∀ {t : T}, t.ok txt → 1 ≤ t.kd ∧ t.kd ≤ 9
  | .void, _ => by simp [T.kd]
  | .bytes .., _ => by simp [T.kd]
  | .text _, _ => by simp [T.kd]
  | .two k _ _, h => by have := h.1; simp only [T.kd]; omega
  | .one k _ _ _, h => by have := h.1; simp only [T.kd]; omega
theorem wr_none {txt : ByteArray → Prop} {t : T} {x : Vl} (hok : t.ok txt) (h : ¬ (x.kind = t.kd ∧ x.text = t.tx ∧ (t.kd ≠ 2 → x.byte = 0) ∧ (t.kd ≠ 6 → t.kd ≠ 7 → x.kids.length = t.kc))) : t.wr x = none := by
  cases hw : t.wr x with
  | none => rfl
  | some w => exact absurd (wr_fits hok hw) h
theorem bulkL_app : ∀ (l m : List Vl), Vl.bulkL (l ++ m) = Vl.bulkL l + Vl.bulkL m
  | [], m => by simp [Vl.bulkL]
  | x :: r, m => by rw [List.cons_append, Vl.bulkL, Vl.bulkL, bulkL_app r m]; omega
@[go_sem] def lv5 : List (Nat × List Nat) := [(0, [3, 4, 5, 6]), (1, [3, 4, 5, 6, 44]), (2, [8]), (3, [3, 4, 5, 6, 10]), (4, [3, 4, 5, 6, 53]), (5, [8]), (6, [3, 4, 5, 6, 11]), (7, [3, 4, 5, 6, 11]), (8, [3, 4, 5, 6, 13]), (9, [3, 4, 5, 6, 13, 14]), (10, [3, 4, 5, 6, 13, 14]), (11, [3, 4, 5, 6, 13, 16]), (12, [3, 4, 5, 6, 13, 16, 17]), (13, [3, 4, 5, 6, 13, 16, 17]), (14, [3, 4, 5, 6, 13, 16, 19]), (15, [3, 4, 5, 6, 13, 16, 19, 20]), (16, [3, 4, 5, 13, 16, 19, 20]), (17, [3, 5, 13, 16, 19, 22]), (18, [5, 22, 117]), (19, [8]), (20, [8])]
def bs5 : List (Nat × List Nat × List Nat) := [(16, [0, 0, 2, 7, 0, 16, 63, 127, 255], [6, 8])]
set_option maxRecDepth 4000 in
set_option maxHeartbeats 4000000 in
theorem c_valueOnly {gl} {l : List Nd} (hcl : ∀ i, (l.getD i Nd.z).cok) (hl : l.length ≤ 140737488355328) (htx : ∀ i, (l.getD i Nd.z).text.size ≤ 140737488355328)
    {v u : Vl} (hvu : v.bulk + u.bulk + 1 ≤ 1048577) (hwv : v.Wf) (hwu : u.Wf) {b : Int} (hb0 : 0 ≤ b ∧ b ≤ 255) :
    PCon Try.prog gl 5 [desc l, val v, val u, .int .u8 b] (.bool true) := by
  have hv : v.bulk ≤ 1048577 := by omega
  have hu : u.bulk ≤ 1048577 := by omega
  cases hfew : few l with
  | false =>
    refine PCon.enter tb_ok (fn := Try.f5) (by kernel_rfl) (by kernel_rfl) rfl (by show 4 ≤ 130; decide) ?_
    repeat' first | refine Z1 fun _ _ => ?_ | refine Z2 ‹_› ?_ | ((first | refine Z3 tb_ok lv5 rfl ?_ | refine Z4 tb_ok mix lv5 bs5 rfl (by kernel_rfl) rfl ?_ | refine ret_eq rfl ?_); simp only [↓reduceIte, reduceCtorEq, reduceEqDiff, reduceAdd, reduceMul, reduceSub, reduceLeDiff, reduceEq, reduceLT, reduceLE, go_sem]) | (refine Z5 rfl ?_; with_reducible first | refine condQ_T ?_ | refine condQ_F ?_) | refine Z6 ?_ | refine Z8 ?_ | refine Zc ‹_› trivial ?_ | refine touch_go rfl ?_ | refine eff_go rfl ?_ | fail
    refine call_pure rfl rfl (c_awake11) ?_; simp only [↓reduceIte, reduceCtorEq, reduceEqDiff, reduceAdd, reduceMul, reduceSub, reduceLeDiff, reduceEq, reduceLT, reduceLE, go_sem]
    repeat' first | refine Z1 fun _ _ => ?_ | refine Z2 ‹_› ?_ | ((first | refine Z3 tb_ok lv5 rfl ?_ | refine Z4 tb_ok mix lv5 bs5 rfl (by kernel_rfl) rfl ?_ | refine ret_eq rfl ?_); simp only [↓reduceIte, reduceCtorEq, reduceEqDiff, reduceAdd, reduceMul, reduceSub, reduceLeDiff, reduceEq, reduceLT, reduceLE, go_sem]) | (refine Z5 rfl ?_; with_reducible first | refine condQ_T ?_ | refine condQ_F ?_) | refine Z6 ?_ | refine Z8 ?_ | refine Zc ‹_› trivial ?_ | refine touch_go rfl ?_ | refine eff_go rfl ?_ | fail
    refine call_pure rfl rfl (c_fewB (by omega) hfew) ?_; simp only [↓reduceIte, reduceCtorEq, reduceEqDiff, reduceAdd, reduceMul, reduceSub, reduceLeDiff, reduceEq, reduceLT, reduceLE, go_sem]
    repeat' first | refine Z1 fun _ _ => ?_ | refine Z2 ‹_› ?_ | ((first | refine Z3 tb_ok lv5 rfl ?_ | refine Z4 tb_ok mix lv5 bs5 rfl (by kernel_rfl) rfl ?_ | refine ret_eq rfl ?_); simp only [↓reduceIte, reduceCtorEq, reduceEqDiff, reduceAdd, reduceMul, reduceSub, reduceLeDiff, reduceEq, reduceLT, reduceLE, go_sem]) | (refine Z5 rfl ?_; with_reducible first | refine condQ_T ?_ | refine condQ_F ?_) | refine Z6 ?_ | refine Z8 ?_ | refine Zc ‹_› trivial ?_ | refine touch_go rfl ?_ | refine eff_go rfl ?_ | fail
    refine call_pure rfl rfl (c_awake11) ?_; simp only [↓reduceIte, reduceCtorEq, reduceEqDiff, reduceAdd, reduceMul, reduceSub, reduceLeDiff, reduceEq, reduceLT, reduceLE, go_sem]
    repeat' first | refine Z1 fun _ _ => ?_ | refine Z2 ‹_› ?_ | ((first | refine Z3 tb_ok lv5 rfl ?_ | refine Z4 tb_ok mix lv5 bs5 rfl (by kernel_rfl) rfl ?_ | refine ret_eq rfl ?_); simp only [↓reduceIte, reduceCtorEq, reduceEqDiff, reduceAdd, reduceMul, reduceSub, reduceLeDiff, reduceEq, reduceLT, reduceLE, go_sem]) | (refine Z5 rfl ?_; with_reducible first | refine condQ_T ?_ | refine condQ_F ?_) | refine Z6 ?_ | refine Z8 ?_ | refine Zc ‹_› trivial ?_ | refine touch_go rfl ?_ | refine eff_go rfl ?_ | fail
  | true =>
  obtain ⟨hl, htx⟩ := few_small htx hfew
  obtain ⟨bb, hb, hright⟩ := c_right (gl := gl) hl htx
  cases bb with
  | false =>
    refine PCon.enter tb_ok (fn := Try.f5) (by kernel_rfl) (by kernel_rfl) rfl (by show 4 ≤ 130; decide) ?_
    repeat' first | refine Z1 fun _ _ => ?_ | refine Z2 ‹_› ?_ | ((first | refine Z3 tb_ok lv5 rfl ?_ | refine Z4 tb_ok mix lv5 bs5 rfl (by kernel_rfl) rfl ?_ | refine ret_eq rfl ?_); simp only [↓reduceIte, reduceCtorEq, reduceEqDiff, reduceAdd, reduceMul, reduceSub, reduceLeDiff, reduceEq, reduceLT, reduceLE, go_sem]) | (refine Z5 rfl ?_; with_reducible first | refine condQ_T ?_ | refine condQ_F ?_) | refine Z6 ?_ | refine Z8 ?_ | refine Zc ‹_› trivial ?_ | refine touch_go rfl ?_ | refine eff_go rfl ?_ | fail
    refine call_pure rfl rfl (c_awake11) ?_; simp only [↓reduceIte, reduceCtorEq, reduceEqDiff, reduceAdd, reduceMul, reduceSub, reduceLeDiff, reduceEq, reduceLT, reduceLE, go_sem]
    repeat' first | refine Z1 fun _ _ => ?_ | refine Z2 ‹_› ?_ | ((first | refine Z3 tb_ok lv5 rfl ?_ | refine Z4 tb_ok mix lv5 bs5 rfl (by kernel_rfl) rfl ?_ | refine ret_eq rfl ?_); simp only [↓reduceIte, reduceCtorEq, reduceEqDiff, reduceAdd, reduceMul, reduceSub, reduceLeDiff, reduceEq, reduceLT, reduceLE, go_sem]) | (refine Z5 rfl ?_; with_reducible first | refine condQ_T ?_ | refine condQ_F ?_) | refine Z6 ?_ | refine Z8 ?_ | refine Zc ‹_› trivial ?_ | refine touch_go rfl ?_ | refine eff_go rfl ?_ | fail
    refine call_pure rfl rfl (c_fewB (by omega) hfew) ?_; simp only [↓reduceIte, reduceCtorEq, reduceEqDiff, reduceAdd, reduceMul, reduceSub, reduceLeDiff, reduceEq, reduceLT, reduceLE, go_sem]
    repeat' first | refine Z1 fun _ _ => ?_ | refine Z2 ‹_› ?_ | ((first | refine Z3 tb_ok lv5 rfl ?_ | refine Z4 tb_ok mix lv5 bs5 rfl (by kernel_rfl) rfl ?_ | refine ret_eq rfl ?_); simp only [↓reduceIte, reduceCtorEq, reduceEqDiff, reduceAdd, reduceMul, reduceSub, reduceLeDiff, reduceEq, reduceLT, reduceLE, go_sem]) | (refine Z5 rfl ?_; with_reducible first | refine condQ_T ?_ | refine condQ_F ?_) | refine Z6 ?_ | refine Z8 ?_ | refine Zc ‹_› trivial ?_ | refine touch_go rfl ?_ | refine eff_go rfl ?_ | fail
    refine call_pure rfl rfl (hright) ?_; simp only [↓reduceIte, reduceCtorEq, reduceEqDiff, reduceAdd, reduceMul, reduceSub, reduceLeDiff, reduceEq, reduceLT, reduceLE, go_sem]
    repeat' first | refine Z1 fun _ _ => ?_ | refine Z2 ‹_› ?_ | ((first | refine Z3 tb_ok lv5 rfl ?_ | refine Z4 tb_ok mix lv5 bs5 rfl (by kernel_rfl) rfl ?_ | refine ret_eq rfl ?_); simp only [↓reduceIte, reduceCtorEq, reduceEqDiff, reduceAdd, reduceMul, reduceSub, reduceLeDiff, reduceEq, reduceLT, reduceLE, go_sem]) | (refine Z5 rfl ?_; with_reducible first | refine condQ_T ?_ | refine condQ_F ?_) | refine Z6 ?_ | refine Z8 ?_ | refine Zc ‹_› trivial ?_ | refine touch_go rfl ?_ | refine eff_go rfl ?_ | fail
    refine call_pure rfl rfl (c_awake11) ?_; simp only [↓reduceIte, reduceCtorEq, reduceEqDiff, reduceAdd, reduceMul, reduceSub, reduceLeDiff, reduceEq, reduceLT, reduceLE, go_sem]
    repeat' first | refine Z1 fun _ _ => ?_ | refine Z2 ‹_› ?_ | ((first | refine Z3 tb_ok lv5 rfl ?_ | refine Z4 tb_ok mix lv5 bs5 rfl (by kernel_rfl) rfl ?_ | refine ret_eq rfl ?_); simp only [↓reduceIte, reduceCtorEq, reduceEqDiff, reduceAdd, reduceMul, reduceSub, reduceLeDiff, reduceEq, reduceLT, reduceLE, go_sem]) | (refine Z5 rfl ?_; with_reducible first | refine condQ_T ?_ | refine condQ_F ?_) | refine Z6 ?_ | refine Z8 ?_ | refine Zc ‹_› trivial ?_ | refine touch_go rfl ?_ | refine eff_go rfl ?_ | fail
  | true =>
  obtain ⟨t, rfl, hok⟩ := hb rfl
  have hc := cok_sits hcl t 0 (sits_flat t)
  rw [T.flat_len] at hl
  have hff := c_fewB (gl := gl) (l := t.flat 0) (by rw [T.flat_len]; omega) hfew
  cases h1 : fewV v with
  | false =>
    refine PCon.enter tb_ok (fn := Try.f5) (by kernel_rfl) (by kernel_rfl) rfl (by show 4 ≤ 130; decide) ?_
    repeat' first | refine Z1 fun _ _ => ?_ | refine Z2 ‹_› ?_ | ((first | refine Z3 tb_ok lv5 rfl ?_ | refine Z4 tb_ok mix lv5 bs5 rfl (by kernel_rfl) rfl ?_ | refine ret_eq rfl ?_); simp only [↓reduceIte, reduceCtorEq, reduceEqDiff, reduceAdd, reduceMul, reduceSub, reduceLeDiff, reduceEq, reduceLT, reduceLE, go_sem]) | (refine Z5 rfl ?_; with_reducible first | refine condQ_T ?_ | refine condQ_F ?_) | refine Z6 ?_ | refine Z8 ?_ | refine Zc ‹_› trivial ?_ | refine touch_go rfl ?_ | refine eff_go rfl ?_ | fail
    refine call_pure rfl rfl (c_awake11) ?_; simp only [↓reduceIte, reduceCtorEq, reduceEqDiff, reduceAdd, reduceMul, reduceSub, reduceLeDiff, reduceEq, reduceLT, reduceLE, go_sem]
    repeat' first | refine Z1 fun _ _ => ?_ | refine Z2 ‹_› ?_ | ((first | refine Z3 tb_ok lv5 rfl ?_ | refine Z4 tb_ok mix lv5 bs5 rfl (by kernel_rfl) rfl ?_ | refine ret_eq rfl ?_); simp only [↓reduceIte, reduceCtorEq, reduceEqDiff, reduceAdd, reduceMul, reduceSub, reduceLeDiff, reduceEq, reduceLT, reduceLE, go_sem]) | (refine Z5 rfl ?_; with_reducible first | refine condQ_T ?_ | refine condQ_F ?_) | refine Z6 ?_ | refine Z8 ?_ | refine Zc ‹_› trivial ?_ | refine touch_go rfl ?_ | refine eff_go rfl ?_ | fail
    refine call_pure rfl rfl (hff) ?_; simp only [↓reduceIte, reduceCtorEq, reduceEqDiff, reduceAdd, reduceMul, reduceSub, reduceLeDiff, reduceEq, reduceLT, reduceLE, go_sem]
    repeat' first | refine Z1 fun _ _ => ?_ | refine Z2 ‹_› ?_ | ((first | refine Z3 tb_ok lv5 rfl ?_ | refine Z4 tb_ok mix lv5 bs5 rfl (by kernel_rfl) rfl ?_ | refine ret_eq rfl ?_); simp only [↓reduceIte, reduceCtorEq, reduceEqDiff, reduceAdd, reduceMul, reduceSub, reduceLeDiff, reduceEq, reduceLT, reduceLE, go_sem]) | (refine Z5 rfl ?_; with_reducible first | refine condQ_T ?_ | refine condQ_F ?_) | refine Z6 ?_ | refine Z8 ?_ | refine Zc ‹_› trivial ?_ | refine touch_go rfl ?_ | refine eff_go rfl ?_ | fail
    refine call_pure rfl rfl (hright) ?_; simp only [↓reduceIte, reduceCtorEq, reduceEqDiff, reduceAdd, reduceMul, reduceSub, reduceLeDiff, reduceEq, reduceLT, reduceLE, go_sem]
    repeat' first | refine Z1 fun _ _ => ?_ | refine Z2 ‹_› ?_ | ((first | refine Z3 tb_ok lv5 rfl ?_ | refine Z4 tb_ok mix lv5 bs5 rfl (by kernel_rfl) rfl ?_ | refine ret_eq rfl ?_); simp only [↓reduceIte, reduceCtorEq, reduceEqDiff, reduceAdd, reduceMul, reduceSub, reduceLeDiff, reduceEq, reduceLT, reduceLE, go_sem]) | (refine Z5 rfl ?_; with_reducible first | refine condQ_T ?_ | refine condQ_F ?_) | refine Z6 ?_ | refine Z8 ?_ | refine Zc ‹_› trivial ?_ | refine touch_go rfl ?_ | refine eff_go rfl ?_ | fail
    refine call_pure rfl rfl (c_fewVB hv h1) ?_; simp only [↓reduceIte, reduceCtorEq, reduceEqDiff, reduceAdd, reduceMul, reduceSub, reduceLeDiff, reduceEq, reduceLT, reduceLE, go_sem]
    repeat' first | refine Z1 fun _ _ => ?_ | refine Z2 ‹_› ?_ | ((first | refine Z3 tb_ok lv5 rfl ?_ | refine Z4 tb_ok mix lv5 bs5 rfl (by kernel_rfl) rfl ?_ | refine ret_eq rfl ?_); simp only [↓reduceIte, reduceCtorEq, reduceEqDiff, reduceAdd, reduceMul, reduceSub, reduceLeDiff, reduceEq, reduceLT, reduceLE, go_sem]) | (refine Z5 rfl ?_; with_reducible first | refine condQ_T ?_ | refine condQ_F ?_) | refine Z6 ?_ | refine Z8 ?_ | refine Zc ‹_› trivial ?_ | refine touch_go rfl ?_ | refine eff_go rfl ?_ | fail
    refine call_pure rfl rfl (c_awake11) ?_; simp only [↓reduceIte, reduceCtorEq, reduceEqDiff, reduceAdd, reduceMul, reduceSub, reduceLeDiff, reduceEq, reduceLT, reduceLE, go_sem]
    repeat' first | refine Z1 fun _ _ => ?_ | refine Z2 ‹_› ?_ | ((first | refine Z3 tb_ok lv5 rfl ?_ | refine Z4 tb_ok mix lv5 bs5 rfl (by kernel_rfl) rfl ?_ | refine ret_eq rfl ?_); simp only [↓reduceIte, reduceCtorEq, reduceEqDiff, reduceAdd, reduceMul, reduceSub, reduceLeDiff, reduceEq, reduceLT, reduceLE, go_sem]) | (refine Z5 rfl ?_; with_reducible first | refine condQ_T ?_ | refine condQ_F ?_) | refine Z6 ?_ | refine Z8 ?_ | refine Zc ‹_› trivial ?_ | refine touch_go rfl ?_ | refine eff_go rfl ?_ | fail
  | true =>
  cases h2 : fewV u with
  | false =>
    refine PCon.enter tb_ok (fn := Try.f5) (by kernel_rfl) (by kernel_rfl) rfl (by show 4 ≤ 130; decide) ?_
    repeat' first | refine Z1 fun _ _ => ?_ | refine Z2 ‹_› ?_ | ((first | refine Z3 tb_ok lv5 rfl ?_ | refine Z4 tb_ok mix lv5 bs5 rfl (by kernel_rfl) rfl ?_ | refine ret_eq rfl ?_); simp only [↓reduceIte, reduceCtorEq, reduceEqDiff, reduceAdd, reduceMul, reduceSub, reduceLeDiff, reduceEq, reduceLT, reduceLE, go_sem]) | (refine Z5 rfl ?_; with_reducible first | refine condQ_T ?_ | refine condQ_F ?_) | refine Z6 ?_ | refine Z8 ?_ | refine Zc ‹_› trivial ?_ | refine touch_go rfl ?_ | refine eff_go rfl ?_ | fail
    refine call_pure rfl rfl (c_awake11) ?_; simp only [↓reduceIte, reduceCtorEq, reduceEqDiff, reduceAdd, reduceMul, reduceSub, reduceLeDiff, reduceEq, reduceLT, reduceLE, go_sem]
    repeat' first | refine Z1 fun _ _ => ?_ | refine Z2 ‹_› ?_ | ((first | refine Z3 tb_ok lv5 rfl ?_ | refine Z4 tb_ok mix lv5 bs5 rfl (by kernel_rfl) rfl ?_ | refine ret_eq rfl ?_); simp only [↓reduceIte, reduceCtorEq, reduceEqDiff, reduceAdd, reduceMul, reduceSub, reduceLeDiff, reduceEq, reduceLT, reduceLE, go_sem]) | (refine Z5 rfl ?_; with_reducible first | refine condQ_T ?_ | refine condQ_F ?_) | refine Z6 ?_ | refine Z8 ?_ | refine Zc ‹_› trivial ?_ | refine touch_go rfl ?_ | refine eff_go rfl ?_ | fail
    refine call_pure rfl rfl (hff) ?_; simp only [↓reduceIte, reduceCtorEq, reduceEqDiff, reduceAdd, reduceMul, reduceSub, reduceLeDiff, reduceEq, reduceLT, reduceLE, go_sem]
    repeat' first | refine Z1 fun _ _ => ?_ | refine Z2 ‹_› ?_ | ((first | refine Z3 tb_ok lv5 rfl ?_ | refine Z4 tb_ok mix lv5 bs5 rfl (by kernel_rfl) rfl ?_ | refine ret_eq rfl ?_); simp only [↓reduceIte, reduceCtorEq, reduceEqDiff, reduceAdd, reduceMul, reduceSub, reduceLeDiff, reduceEq, reduceLT, reduceLE, go_sem]) | (refine Z5 rfl ?_; with_reducible first | refine condQ_T ?_ | refine condQ_F ?_) | refine Z6 ?_ | refine Z8 ?_ | refine Zc ‹_› trivial ?_ | refine touch_go rfl ?_ | refine eff_go rfl ?_ | fail
    refine call_pure rfl rfl (hright) ?_; simp only [↓reduceIte, reduceCtorEq, reduceEqDiff, reduceAdd, reduceMul, reduceSub, reduceLeDiff, reduceEq, reduceLT, reduceLE, go_sem]
    repeat' first | refine Z1 fun _ _ => ?_ | refine Z2 ‹_› ?_ | ((first | refine Z3 tb_ok lv5 rfl ?_ | refine Z4 tb_ok mix lv5 bs5 rfl (by kernel_rfl) rfl ?_ | refine ret_eq rfl ?_); simp only [↓reduceIte, reduceCtorEq, reduceEqDiff, reduceAdd, reduceMul, reduceSub, reduceLeDiff, reduceEq, reduceLT, reduceLE, go_sem]) | (refine Z5 rfl ?_; with_reducible first | refine condQ_T ?_ | refine condQ_F ?_) | refine Z6 ?_ | refine Z8 ?_ | refine Zc ‹_› trivial ?_ | refine touch_go rfl ?_ | refine eff_go rfl ?_ | fail
    refine call_pure rfl rfl (c_fewVB hv h1) ?_; simp only [↓reduceIte, reduceCtorEq, reduceEqDiff, reduceAdd, reduceMul, reduceSub, reduceLeDiff, reduceEq, reduceLT, reduceLE, go_sem]
    repeat' first | refine Z1 fun _ _ => ?_ | refine Z2 ‹_› ?_ | ((first | refine Z3 tb_ok lv5 rfl ?_ | refine Z4 tb_ok mix lv5 bs5 rfl (by kernel_rfl) rfl ?_ | refine ret_eq rfl ?_); simp only [↓reduceIte, reduceCtorEq, reduceEqDiff, reduceAdd, reduceMul, reduceSub, reduceLeDiff, reduceEq, reduceLT, reduceLE, go_sem]) | (refine Z5 rfl ?_; with_reducible first | refine condQ_T ?_ | refine condQ_F ?_) | refine Z6 ?_ | refine Z8 ?_ | refine Zc ‹_› trivial ?_ | refine touch_go rfl ?_ | refine eff_go rfl ?_ | fail
    refine call_pure rfl rfl (c_fewVB hu h2) ?_; simp only [↓reduceIte, reduceCtorEq, reduceEqDiff, reduceAdd, reduceMul, reduceSub, reduceLeDiff, reduceEq, reduceLT, reduceLE, go_sem]
    repeat' first | refine Z1 fun _ _ => ?_ | refine Z2 ‹_› ?_ | ((first | refine Z3 tb_ok lv5 rfl ?_ | refine Z4 tb_ok mix lv5 bs5 rfl (by kernel_rfl) rfl ?_ | refine ret_eq rfl ?_); simp only [↓reduceIte, reduceCtorEq, reduceEqDiff, reduceAdd, reduceMul, reduceSub, reduceLeDiff, reduceEq, reduceLT, reduceLE, go_sem]) | (refine Z5 rfl ?_; with_reducible first | refine condQ_T ?_ | refine condQ_F ?_) | refine Z6 ?_ | refine Z8 ?_ | refine Zc ‹_› trivial ?_ | refine touch_go rfl ?_ | refine eff_go rfl ?_ | fail
    refine call_pure rfl rfl (c_awake11) ?_; simp only [↓reduceIte, reduceCtorEq, reduceEqDiff, reduceAdd, reduceMul, reduceSub, reduceLeDiff, reduceEq, reduceLT, reduceLE, go_sem]
    repeat' first | refine Z1 fun _ _ => ?_ | refine Z2 ‹_› ?_ | ((first | refine Z3 tb_ok lv5 rfl ?_ | refine Z4 tb_ok mix lv5 bs5 rfl (by kernel_rfl) rfl ?_ | refine ret_eq rfl ?_); simp only [↓reduceIte, reduceCtorEq, reduceEqDiff, reduceAdd, reduceMul, reduceSub, reduceLeDiff, reduceEq, reduceLT, reduceLE, go_sem]) | (refine Z5 rfl ?_; with_reducible first | refine condQ_T ?_ | refine condQ_F ?_) | refine Z6 ?_ | refine Z8 ?_ | refine Zc ‹_› trivial ?_ | refine touch_go rfl ?_ | refine eff_go rfl ?_ | fail
  | true =>
    have w1 := c_vWrite (gl := gl) hl hok hc hv hwv
    cases hA : t.wr v with
    | none =>
      rw [hA] at w1
      simp only [resW, Option.getD_none, Option.isSome_none, bys, List.map_nil] at w1
      refine PCon.enter tb_ok (fn := Try.f5) (by kernel_rfl) (by kernel_rfl) rfl (by show 4 ≤ 130; decide) ?_
      repeat' first | refine Z1 fun _ _ => ?_ | refine Z2 ‹_› ?_ | ((first | refine Z3 tb_ok lv5 rfl ?_ | refine Z4 tb_ok mix lv5 bs5 rfl (by kernel_rfl) rfl ?_ | refine ret_eq rfl ?_); simp only [↓reduceIte, reduceCtorEq, reduceEqDiff, reduceAdd, reduceMul, reduceSub, reduceLeDiff, reduceEq, reduceLT, reduceLE, go_sem]) | (refine Z5 rfl ?_; with_reducible first | refine condQ_T ?_ | refine condQ_F ?_) | refine Z6 ?_ | refine Z8 ?_ | refine Zc ‹_› trivial ?_ | refine touch_go rfl ?_ | refine eff_go rfl ?_ | fail
      refine call_pure rfl rfl (c_awake11) ?_; simp only [↓reduceIte, reduceCtorEq, reduceEqDiff, reduceAdd, reduceMul, reduceSub, reduceLeDiff, reduceEq, reduceLT, reduceLE, go_sem]
      repeat' first | refine Z1 fun _ _ => ?_ | refine Z2 ‹_› ?_ | ((first | refine Z3 tb_ok lv5 rfl ?_ | refine Z4 tb_ok mix lv5 bs5 rfl (by kernel_rfl) rfl ?_ | refine ret_eq rfl ?_); simp only [↓reduceIte, reduceCtorEq, reduceEqDiff, reduceAdd, reduceMul, reduceSub, reduceLeDiff, reduceEq, reduceLT, reduceLE, go_sem]) | (refine Z5 rfl ?_; with_reducible first | refine condQ_T ?_ | refine condQ_F ?_) | refine Z6 ?_ | refine Z8 ?_ | refine Zc ‹_› trivial ?_ | refine touch_go rfl ?_ | refine eff_go rfl ?_ | fail
      refine call_pure rfl rfl (hff) ?_; simp only [↓reduceIte, reduceCtorEq, reduceEqDiff, reduceAdd, reduceMul, reduceSub, reduceLeDiff, reduceEq, reduceLT, reduceLE, go_sem]
      repeat' first | refine Z1 fun _ _ => ?_ | refine Z2 ‹_› ?_ | ((first | refine Z3 tb_ok lv5 rfl ?_ | refine Z4 tb_ok mix lv5 bs5 rfl (by kernel_rfl) rfl ?_ | refine ret_eq rfl ?_); simp only [↓reduceIte, reduceCtorEq, reduceEqDiff, reduceAdd, reduceMul, reduceSub, reduceLeDiff, reduceEq, reduceLT, reduceLE, go_sem]) | (refine Z5 rfl ?_; with_reducible first | refine condQ_T ?_ | refine condQ_F ?_) | refine Z6 ?_ | refine Z8 ?_ | refine Zc ‹_› trivial ?_ | refine touch_go rfl ?_ | refine eff_go rfl ?_ | fail
      refine call_pure rfl rfl (hright) ?_; simp only [↓reduceIte, reduceCtorEq, reduceEqDiff, reduceAdd, reduceMul, reduceSub, reduceLeDiff, reduceEq, reduceLT, reduceLE, go_sem]
      repeat' first | refine Z1 fun _ _ => ?_ | refine Z2 ‹_› ?_ | ((first | refine Z3 tb_ok lv5 rfl ?_ | refine Z4 tb_ok mix lv5 bs5 rfl (by kernel_rfl) rfl ?_ | refine ret_eq rfl ?_); simp only [↓reduceIte, reduceCtorEq, reduceEqDiff, reduceAdd, reduceMul, reduceSub, reduceLeDiff, reduceEq, reduceLT, reduceLE, go_sem]) | (refine Z5 rfl ?_; with_reducible first | refine condQ_T ?_ | refine condQ_F ?_) | refine Z6 ?_ | refine Z8 ?_ | refine Zc ‹_› trivial ?_ | refine touch_go rfl ?_ | refine eff_go rfl ?_ | fail
      refine call_pure rfl rfl (c_fewVB hv h1) ?_; simp only [↓reduceIte, reduceCtorEq, reduceEqDiff, reduceAdd, reduceMul, reduceSub, reduceLeDiff, reduceEq, reduceLT, reduceLE, go_sem]
      repeat' first | refine Z1 fun _ _ => ?_ | refine Z2 ‹_› ?_ | ((first | refine Z3 tb_ok lv5 rfl ?_ | refine Z4 tb_ok mix lv5 bs5 rfl (by kernel_rfl) rfl ?_ | refine ret_eq rfl ?_); simp only [↓reduceIte, reduceCtorEq, reduceEqDiff, reduceAdd, reduceMul, reduceSub, reduceLeDiff, reduceEq, reduceLT, reduceLE, go_sem]) | (refine Z5 rfl ?_; with_reducible first | refine condQ_T ?_ | refine condQ_F ?_) | refine Z6 ?_ | refine Z8 ?_ | refine Zc ‹_› trivial ?_ | refine touch_go rfl ?_ | refine eff_go rfl ?_ | fail
      refine call_pure rfl rfl (c_fewVB hu h2) ?_; simp only [↓reduceIte, reduceCtorEq, reduceEqDiff, reduceAdd, reduceMul, reduceSub, reduceLeDiff, reduceEq, reduceLT, reduceLE, go_sem]
      repeat' first | refine Z1 fun _ _ => ?_ | refine Z2 ‹_› ?_ | ((first | refine Z3 tb_ok lv5 rfl ?_ | refine Z4 tb_ok mix lv5 bs5 rfl (by kernel_rfl) rfl ?_ | refine ret_eq rfl ?_); simp only [↓reduceIte, reduceCtorEq, reduceEqDiff, reduceAdd, reduceMul, reduceSub, reduceLeDiff, reduceEq, reduceLT, reduceLE, go_sem]) | (refine Z5 rfl ?_; with_reducible first | refine condQ_T ?_ | refine condQ_F ?_) | refine Z6 ?_ | refine Z8 ?_ | refine Zc ‹_› trivial ?_ | refine touch_go rfl ?_ | refine eff_go rfl ?_ | fail
      refine call_pure rfl rfl (w1) ?_; simp only [↓reduceIte, reduceCtorEq, reduceEqDiff, reduceAdd, reduceMul, reduceSub, reduceLeDiff, reduceEq, reduceLT, reduceLE, go_sem]
      repeat' first | refine Z1 fun _ _ => ?_ | refine Z2 ‹_› ?_ | ((first | refine Z3 tb_ok lv5 rfl ?_ | refine Z4 tb_ok mix lv5 bs5 rfl (by kernel_rfl) rfl ?_ | refine ret_eq rfl ?_); simp only [↓reduceIte, reduceCtorEq, reduceEqDiff, reduceAdd, reduceMul, reduceSub, reduceLeDiff, reduceEq, reduceLT, reduceLE, go_sem]) | (refine Z5 rfl ?_; with_reducible first | refine condQ_T ?_ | refine condQ_F ?_) | refine Z6 ?_ | refine Z8 ?_ | refine Zc ‹_› trivial ?_ | refine touch_go rfl ?_ | refine eff_go rfl ?_ | fail
    | some w =>
      obtain ⟨f1, f2, f3, f4⟩ := wr_fits hok hA
      have hkd := kd_bd hok
      obtain ⟨vk, vb, vt, vp, vl⟩ := v
      simp only [Vl.kind_mk, Vl.byte_mk, Vl.text_mk, Vl.pick_mk, Vl.kids_mk] at f1 f2 f3 f4
      have hbv : (Vl.mk vk vb vt vp vl).bulk = 1 + vt.size + Vl.bulkL vl := by rw [Vl.bulk]
      have hkids := fun x hx => hwv.kid (x := x) hx
      have hk1 := hwv.kind
      have hk2 := hwv.byte
      have hk3 := hwv.pick
      simp only [Vl.kind_mk, Vl.byte_mk, Vl.text_mk, Vl.pick_mk, Vl.kids_mk] at hkids hk1 hk2 hk3
      have ek : IntKind.i64.wrap (1 + vk.tmod 9) = 1 + vk % 9 := by
        rw [Int.tmod_eq_emod_of_nonneg (by omega), wrap64 (by omega) (by omega)]
      have xs : (vt ++ (⟨#[120]⟩ : ByteArray)).size = vt.size + 1 := ByteArray.size_append
      have x2 : (Vl.mk (1 + vk % 9) vb vt vp vl).Wf := .mk _ _ _ _ _ (by omega) hk2 hk3 hkids
      have y2 : (Vl.mk vk vb (vt ++ ⟨#[120]⟩) vp vl).Wf := .mk _ _ _ _ _ hk1 hk2 hk3 hkids
      have z2 : (Vl.mk vk b vt vp vl).Wf := .mk _ _ _ _ _ hk1 hb0 hk3 hkids
      have m2 : (Vl.mk vk vb vt vp (vl ++ [u])).Wf := .mk _ _ _ _ _ hk1 hk2 hk3 (fun x hx => by
        rcases List.mem_append.1 hx with h | h
        · exact hkids x h
        · rcases List.mem_cons.1 h with rfl | h
          · exact hwu
          · cases h)
      have bm : (Vl.mk vk vb vt vp (vl ++ [u])).bulk ≤ 1048577 := by rw [Vl.bulk, bulkL_app, Vl.bulkL, Vl.bulkL]; omega
      have cx := wrS (gl := gl) hl hok hc (by rw [Vl.bulk]; omega) x2 (wr_none hok (fun h => by have := h.1; simp only [Vl.kind_mk] at this; omega))
      have cy := wrS (gl := gl) hl hok hc (by rw [Vl.bulk]; omega) y2 (wr_none hok (fun h => by have := h.2.1; simp only [Vl.text_mk] at this; rw [← f2] at this; have := congrArg ByteArray.size this; omega))
      have cz := wrS (gl := gl) hl hok hc (by rw [Vl.bulk]; omega) z2 rfl
      have cm := wrS (gl := gl) hl hok hc bm m2 rfl
      have hz : t.kd ≠ 2 → ((t.wr (.mk vk b vt vp vl)).isSome = decide (b = vb)) := fun h => by
        by_cases hbb : b = vb
        · rw [hbb, hA]; simp
        · rw [wr_none hok (fun h' => hbb (by have := h'.2.2.1 h; simp only [Vl.byte_mk] at this; rw [this, f3 h]))]
          simp [hbb]
      have hm : t.kd ≠ 6 → t.kd ≠ 7 → t.wr (.mk vk vb vt vp (vl ++ [u])) = none := fun h h' => wr_none hok (fun hh => by
        have h3 := hh.2.2.2 h h'
        have h4 := f4 h h'
        simp only [Vl.kids_mk, List.length_append, List.length_cons, List.length_nil] at h3
        omega)
      rw [hA] at w1
      have hlv : vl.length ≤ 1048577 := by have := Vl.bulkL_len (l := vl); omega
      simp only [resW, val, Option.getD_none, Option.getD_some, Option.isSome_none, Option.isSome_some, bys, List.map_nil, Vl.kind_mk, Vl.byte_mk, Vl.text_mk, Vl.pick_mk, Vl.kids_mk, List.map_append, List.map_cons, Vl.cells_eq] at w1 cx cy cz cm
      refine PCon.enter tb_ok (fn := Try.f5) (by kernel_rfl) (by kernel_rfl) rfl (by show 4 ≤ 130; decide) ?_
      repeat' first | refine Z1 fun _ _ => ?_ | refine Z2 ‹_› ?_ | ((first | refine Z3 tb_ok lv5 rfl ?_ | refine Z4 tb_ok mix lv5 bs5 rfl (by kernel_rfl) rfl ?_ | refine ret_eq rfl ?_); simp only [↓reduceIte, reduceCtorEq, reduceEqDiff, reduceAdd, reduceMul, reduceSub, reduceLeDiff, reduceEq, reduceLT, reduceLE, go_sem]) | (refine Z5 rfl ?_; with_reducible first | refine condQ_T ?_ | refine condQ_F ?_) | refine Z6 ?_ | refine Z8 ?_ | refine Zc ‹_› trivial ?_ | refine touch_go rfl ?_ | refine eff_go rfl ?_ | fail
      refine call_pure rfl rfl (c_awake11) ?_; simp only [↓reduceIte, reduceCtorEq, reduceEqDiff, reduceAdd, reduceMul, reduceSub, reduceLeDiff, reduceEq, reduceLT, reduceLE, go_sem]
      repeat' first | refine Z1 fun _ _ => ?_ | refine Z2 ‹_› ?_ | ((first | refine Z3 tb_ok lv5 rfl ?_ | refine Z4 tb_ok mix lv5 bs5 rfl (by kernel_rfl) rfl ?_ | refine ret_eq rfl ?_); simp only [↓reduceIte, reduceCtorEq, reduceEqDiff, reduceAdd, reduceMul, reduceSub, reduceLeDiff, reduceEq, reduceLT, reduceLE, go_sem]) | (refine Z5 rfl ?_; with_reducible first | refine condQ_T ?_ | refine condQ_F ?_) | refine Z6 ?_ | refine Z8 ?_ | refine Zc ‹_› trivial ?_ | refine touch_go rfl ?_ | refine eff_go rfl ?_ | fail
      refine call_pure rfl rfl (hff) ?_; simp only [↓reduceIte, reduceCtorEq, reduceEqDiff, reduceAdd, reduceMul, reduceSub, reduceLeDiff, reduceEq, reduceLT, reduceLE, go_sem]
      repeat' first | refine Z1 fun _ _ => ?_ | refine Z2 ‹_› ?_ | ((first | refine Z3 tb_ok lv5 rfl ?_ | refine Z4 tb_ok mix lv5 bs5 rfl (by kernel_rfl) rfl ?_ | refine ret_eq rfl ?_); simp only [↓reduceIte, reduceCtorEq, reduceEqDiff, reduceAdd, reduceMul, reduceSub, reduceLeDiff, reduceEq, reduceLT, reduceLE, go_sem]) | (refine Z5 rfl ?_; with_reducible first | refine condQ_T ?_ | refine condQ_F ?_) | refine Z6 ?_ | refine Z8 ?_ | refine Zc ‹_› trivial ?_ | refine touch_go rfl ?_ | refine eff_go rfl ?_ | fail
      refine call_pure rfl rfl (hright) ?_; simp only [↓reduceIte, reduceCtorEq, reduceEqDiff, reduceAdd, reduceMul, reduceSub, reduceLeDiff, reduceEq, reduceLT, reduceLE, go_sem]
      repeat' first | refine Z1 fun _ _ => ?_ | refine Z2 ‹_› ?_ | ((first | refine Z3 tb_ok lv5 rfl ?_ | refine Z4 tb_ok mix lv5 bs5 rfl (by kernel_rfl) rfl ?_ | refine ret_eq rfl ?_); simp only [↓reduceIte, reduceCtorEq, reduceEqDiff, reduceAdd, reduceMul, reduceSub, reduceLeDiff, reduceEq, reduceLT, reduceLE, go_sem]) | (refine Z5 rfl ?_; with_reducible first | refine condQ_T ?_ | refine condQ_F ?_) | refine Z6 ?_ | refine Z8 ?_ | refine Zc ‹_› trivial ?_ | refine touch_go rfl ?_ | refine eff_go rfl ?_ | fail
      refine call_pure rfl rfl (c_fewVB hv h1) ?_; simp only [↓reduceIte, reduceCtorEq, reduceEqDiff, reduceAdd, reduceMul, reduceSub, reduceLeDiff, reduceEq, reduceLT, reduceLE, go_sem]
      repeat' first | refine Z1 fun _ _ => ?_ | refine Z2 ‹_› ?_ | ((first | refine Z3 tb_ok lv5 rfl ?_ | refine Z4 tb_ok mix lv5 bs5 rfl (by kernel_rfl) rfl ?_ | refine ret_eq rfl ?_); simp only [↓reduceIte, reduceCtorEq, reduceEqDiff, reduceAdd, reduceMul, reduceSub, reduceLeDiff, reduceEq, reduceLT, reduceLE, go_sem]) | (refine Z5 rfl ?_; with_reducible first | refine condQ_T ?_ | refine condQ_F ?_) | refine Z6 ?_ | refine Z8 ?_ | refine Zc ‹_› trivial ?_ | refine touch_go rfl ?_ | refine eff_go rfl ?_ | fail
      refine call_pure rfl rfl (c_fewVB hu h2) ?_; simp only [↓reduceIte, reduceCtorEq, reduceEqDiff, reduceAdd, reduceMul, reduceSub, reduceLeDiff, reduceEq, reduceLT, reduceLE, go_sem]
      repeat' first | refine Z1 fun _ _ => ?_ | refine Z2 ‹_› ?_ | ((first | refine Z3 tb_ok lv5 rfl ?_ | refine Z4 tb_ok mix lv5 bs5 rfl (by kernel_rfl) rfl ?_ | refine ret_eq rfl ?_); simp only [↓reduceIte, reduceCtorEq, reduceEqDiff, reduceAdd, reduceMul, reduceSub, reduceLeDiff, reduceEq, reduceLT, reduceLE, go_sem]) | (refine Z5 rfl ?_; with_reducible first | refine condQ_T ?_ | refine condQ_F ?_) | refine Z6 ?_ | refine Z8 ?_ | refine Zc ‹_› trivial ?_ | refine touch_go rfl ?_ | refine eff_go rfl ?_ | fail
      refine call_pure rfl rfl (w1) ?_; simp only [↓reduceIte, reduceCtorEq, reduceEqDiff, reduceAdd, reduceMul, reduceSub, reduceLeDiff, reduceEq, reduceLT, reduceLE, go_sem]
      repeat' first | refine Z1 fun _ _ => ?_ | refine Z2 ‹_› ?_ | ((first | refine Z3 tb_ok lv5 rfl ?_ | refine Z4 tb_ok mix lv5 bs5 rfl (by kernel_rfl) rfl ?_ | refine ret_eq rfl ?_); simp only [↓reduceIte, reduceCtorEq, reduceEqDiff, reduceAdd, reduceMul, reduceSub, reduceLeDiff, reduceEq, reduceLT, reduceLE, go_sem]) | (refine Z5 rfl ?_; with_reducible first | refine condQ_T ?_ | refine condQ_F ?_) | refine Z6 ?_ | refine Z8 ?_ | refine Zc ‹_› trivial ?_ | refine touch_go rfl ?_ | refine eff_go rfl ?_ | fail
      rw [ek]
      refine call_pure rfl rfl (cx) ?_; simp only [↓reduceIte, reduceCtorEq, reduceEqDiff, reduceAdd, reduceMul, reduceSub, reduceLeDiff, reduceEq, reduceLT, reduceLE, go_sem]
      repeat' first | refine Z1 fun _ _ => ?_ | refine Z2 ‹_› ?_ | ((first | refine Z3 tb_ok lv5 rfl ?_ | refine Z4 tb_ok mix lv5 bs5 rfl (by kernel_rfl) rfl ?_ | refine ret_eq rfl ?_); simp only [↓reduceIte, reduceCtorEq, reduceEqDiff, reduceAdd, reduceMul, reduceSub, reduceLeDiff, reduceEq, reduceLT, reduceLE, go_sem]) | (refine Z5 rfl ?_; with_reducible first | refine condQ_T ?_ | refine condQ_F ?_) | refine Z6 ?_ | refine Z8 ?_ | refine Zc ‹_› trivial ?_ | refine touch_go rfl ?_ | refine eff_go rfl ?_ | fail
      have xz : (⟨#[120]⟩ : ByteArray).size = 1 := rfl
      simp only [↓reduceIte, reduceCtorEq, reduceEqDiff, reduceAdd, reduceMul, reduceSub, reduceLeDiff, reduceEq, reduceLT, reduceLE, go_sem, xz]
      refine ⟨by omega, ?_⟩
      repeat' first | refine Z1 fun _ _ => ?_ | refine Z2 ‹_› ?_ | ((first | refine Z3 tb_ok lv5 rfl ?_ | refine Z4 tb_ok mix lv5 bs5 rfl (by kernel_rfl) rfl ?_ | refine ret_eq rfl ?_); simp only [↓reduceIte, reduceCtorEq, reduceEqDiff, reduceAdd, reduceMul, reduceSub, reduceLeDiff, reduceEq, reduceLT, reduceLE, go_sem]) | (refine Z5 rfl ?_; with_reducible first | refine condQ_T ?_ | refine condQ_F ?_) | refine Z6 ?_ | refine Z8 ?_ | refine Zc ‹_› trivial ?_ | refine touch_go rfl ?_ | refine eff_go rfl ?_ | fail
      refine call_pure rfl rfl (cy) ?_; simp only [↓reduceIte, reduceCtorEq, reduceEqDiff, reduceAdd, reduceMul, reduceSub, reduceLeDiff, reduceEq, reduceLT, reduceLE, go_sem]
      repeat' first | refine Z1 fun _ _ => ?_ | refine Z2 ‹_› ?_ | ((first | refine Z3 tb_ok lv5 rfl ?_ | refine Z4 tb_ok mix lv5 bs5 rfl (by kernel_rfl) rfl ?_ | refine ret_eq rfl ?_); simp only [↓reduceIte, reduceCtorEq, reduceEqDiff, reduceAdd, reduceMul, reduceSub, reduceLeDiff, reduceEq, reduceLT, reduceLE, go_sem]) | (refine Z5 rfl ?_; with_reducible first | refine condQ_T ?_ | refine condQ_F ?_) | refine Z6 ?_ | refine Z8 ?_ | refine Zc ‹_› trivial ?_ | refine touch_go rfl ?_ | refine eff_go rfl ?_ | fail
      refine call_pure rfl rfl (cz) ?_; simp only [↓reduceIte, reduceCtorEq, reduceEqDiff, reduceAdd, reduceMul, reduceSub, reduceLeDiff, reduceEq, reduceLT, reduceLE, go_sem]
      repeat' first | refine Z1 fun _ _ => ?_ | refine Z2 ‹_› ?_ | ((first | refine Z3 tb_ok lv5 rfl ?_ | refine Z4 tb_ok mix lv5 bs5 rfl (by kernel_rfl) rfl ?_ | refine ret_eq rfl ?_); simp only [↓reduceIte, reduceCtorEq, reduceEqDiff, reduceAdd, reduceMul, reduceSub, reduceLeDiff, reduceEq, reduceLT, reduceLE, go_sem]) | (refine Z5 rfl ?_; with_reducible first | refine condQ_T ?_ | refine condQ_F ?_) | refine Z6 ?_ | refine Z8 ?_ | refine Zc ‹_› trivial ?_ | refine touch_go rfl ?_ | refine eff_go rfl ?_ | fail
      have hcl5 : ∀ e ∈ vl.map Vl.cells, e.length = 5 := fun e he => by obtain ⟨y, _, rfl⟩ := List.mem_map.1 he; exact Vl.cells_len y
      refine ⟨hcl5, by omega, by omega, ?_⟩
      repeat' first | refine Z1 fun _ _ => ?_ | refine Z2 ‹_› ?_ | ((first | refine Z3 tb_ok lv5 rfl ?_ | refine Z4 tb_ok mix lv5 bs5 rfl (by kernel_rfl) rfl ?_ | refine ret_eq rfl ?_); simp only [↓reduceIte, reduceCtorEq, reduceEqDiff, reduceAdd, reduceMul, reduceSub, reduceLeDiff, reduceEq, reduceLT, reduceLE, go_sem]) | (refine Z5 rfl ?_; with_reducible first | refine condQ_T ?_ | refine condQ_F ?_) | refine Z6 ?_ | refine Z8 ?_ | refine Zc ‹_› trivial ?_ | refine touch_go rfl ?_ | refine eff_go rfl ?_ | fail
      refine ⟨fun e he => by rw [he]; rfl, by omega, by omega, ?_⟩
      repeat' first | refine Z1 fun _ _ => ?_ | refine Z2 ‹_› ?_ | ((first | refine Z3 tb_ok lv5 rfl ?_ | refine Z4 tb_ok mix lv5 bs5 rfl (by kernel_rfl) rfl ?_ | refine ret_eq rfl ?_); simp only [↓reduceIte, reduceCtorEq, reduceEqDiff, reduceAdd, reduceMul, reduceSub, reduceLeDiff, reduceEq, reduceLT, reduceLE, go_sem]) | (refine Z5 rfl ?_; with_reducible first | refine condQ_T ?_ | refine condQ_F ?_) | refine Z6 ?_ | refine Z8 ?_ | refine Zc ‹_› trivial ?_ | refine touch_go rfl ?_ | refine eff_go rfl ?_ | fail
      refine call_pure rfl rfl (cm) ?_; simp only [↓reduceIte, reduceCtorEq, reduceEqDiff, reduceAdd, reduceMul, reduceSub, reduceLeDiff, reduceEq, reduceLT, reduceLE, go_sem]
      repeat' first | refine Z1 fun _ _ => ?_ | refine Z2 ‹_› ?_ | ((first | refine Z3 tb_ok lv5 rfl ?_ | refine Z4 tb_ok mix lv5 bs5 rfl (by kernel_rfl) rfl ?_ | refine ret_eq rfl ?_); simp only [↓reduceIte, reduceCtorEq, reduceEqDiff, reduceAdd, reduceMul, reduceSub, reduceLeDiff, reduceEq, reduceLT, reduceLE, go_sem]) | (refine Z5 rfl ?_; with_reducible first | refine condQ_T ?_ | refine condQ_F ?_) | refine Z6 ?_ | refine Z8 ?_ | refine Zc ‹_› trivial ?_ | refine touch_go rfl ?_ | refine eff_go rfl ?_ | fail
      by_cases h2k : vk = 2
      · have k2 : decide (¬ vk = 2) = false := by simp [h2k]
        have k6 : decide (vk = 6) = false := by simp; omega
        have k7 : decide (vk = 7) = false := by simp; omega
        rw [hm (by omega) (by omega)]
        simp only [↓reduceIte, reduceCtorEq, reduceEqDiff, reduceAdd, reduceMul, reduceSub, reduceLeDiff, reduceEq, reduceLT, reduceLE, go_sem, k2, Option.isSome_none]
        repeat' first | refine Z1 fun _ _ => ?_ | refine Z2 ‹_› ?_ | ((first | refine Z3 tb_ok lv5 rfl ?_ | refine Z4 tb_ok mix lv5 bs5 rfl (by kernel_rfl) rfl ?_ | refine ret_eq rfl ?_); simp only [↓reduceIte, reduceCtorEq, reduceEqDiff, reduceAdd, reduceMul, reduceSub, reduceLeDiff, reduceEq, reduceLT, reduceLE, go_sem]) | (refine Z5 rfl ?_; with_reducible first | refine condQ_T ?_ | refine condQ_F ?_) | refine Z6 ?_ | refine Z8 ?_ | refine Zc ‹_› trivial ?_ | refine touch_go rfl ?_ | refine eff_go rfl ?_ | fail
        simp only [↓reduceIte, reduceCtorEq, reduceEqDiff, reduceAdd, reduceMul, reduceSub, reduceLeDiff, reduceEq, reduceLT, reduceLE, go_sem, k6, k7, Option.isSome_none]
        repeat' first | refine Z1 fun _ _ => ?_ | refine Z2 ‹_› ?_ | ((first | refine Z3 tb_ok lv5 rfl ?_ | refine Z4 tb_ok mix lv5 bs5 rfl (by kernel_rfl) rfl ?_ | refine ret_eq rfl ?_); simp only [↓reduceIte, reduceCtorEq, reduceEqDiff, reduceAdd, reduceMul, reduceSub, reduceLeDiff, reduceEq, reduceLT, reduceLE, go_sem]) | (refine Z5 rfl ?_; with_reducible first | refine condQ_T ?_ | refine condQ_F ?_) | refine Z6 ?_ | refine Z8 ?_ | refine Zc ‹_› trivial ?_ | refine touch_go rfl ?_ | refine eff_go rfl ?_ | fail
      · have k2 : decide (¬ vk = 2) = true := by simp [h2k]
        rw [hz (by omega)]
        simp only [↓reduceIte, reduceCtorEq, reduceEqDiff, reduceAdd, reduceMul, reduceSub, reduceLeDiff, reduceEq, reduceLT, reduceLE, go_sem, k2]
        repeat' first | refine Z1 fun _ _ => ?_ | refine Z2 ‹_› ?_ | ((first | refine Z3 tb_ok lv5 rfl ?_ | refine Z4 tb_ok mix lv5 bs5 rfl (by kernel_rfl) rfl ?_ | refine ret_eq rfl ?_); simp only [↓reduceIte, reduceCtorEq, reduceEqDiff, reduceAdd, reduceMul, reduceSub, reduceLeDiff, reduceEq, reduceLT, reduceLE, go_sem]) | (refine Z5 rfl ?_; with_reducible first | refine condQ_T ?_ | refine condQ_F ?_) | refine Z6 ?_ | refine Z8 ?_ | refine Zc ‹_› trivial ?_ | refine touch_go rfl ?_ | refine eff_go rfl ?_ | fail
        try
          simp only [↓reduceIte, reduceCtorEq, reduceEqDiff, reduceAdd, reduceMul, reduceSub, reduceLeDiff, reduceEq, reduceLT, reduceLE, go_sem, beq_self_eq_true, Bool.not_true]
          repeat' first | refine Z1 fun _ _ => ?_ | refine Z2 ‹_› ?_ | ((first | refine Z3 tb_ok lv5 rfl ?_ | refine Z4 tb_ok mix lv5 bs5 rfl (by kernel_rfl) rfl ?_ | refine ret_eq rfl ?_); simp only [↓reduceIte, reduceCtorEq, reduceEqDiff, reduceAdd, reduceMul, reduceSub, reduceLeDiff, reduceEq, reduceLT, reduceLE, go_sem]) | (refine Z5 rfl ?_; with_reducible first | refine condQ_T ?_ | refine condQ_F ?_) | refine Z6 ?_ | refine Z8 ?_ | refine Zc ‹_› trivial ?_ | refine touch_go rfl ?_ | refine eff_go rfl ?_ | fail
        by_cases h6 : vk = 6
        · have k6 : decide (vk = 6) = true := by simp [h6]
          simp only [↓reduceIte, reduceCtorEq, reduceEqDiff, reduceAdd, reduceMul, reduceSub, reduceLeDiff, reduceEq, reduceLT, reduceLE, go_sem, k6]
          repeat' first | refine Z1 fun _ _ => ?_ | refine Z2 ‹_› ?_ | ((first | refine Z3 tb_ok lv5 rfl ?_ | refine Z4 tb_ok mix lv5 bs5 rfl (by kernel_rfl) rfl ?_ | refine ret_eq rfl ?_); simp only [↓reduceIte, reduceCtorEq, reduceEqDiff, reduceAdd, reduceMul, reduceSub, reduceLeDiff, reduceEq, reduceLT, reduceLE, go_sem]) | (refine Z5 rfl ?_; with_reducible first | refine condQ_T ?_ | refine condQ_F ?_) | refine Z6 ?_ | refine Z8 ?_ | refine Zc ‹_› trivial ?_ | refine touch_go rfl ?_ | refine eff_go rfl ?_ | fail
        · have k6 : decide (vk = 6) = false := by simp [h6]
          by_cases h7 : vk = 7
          · have k7 : decide (vk = 7) = true := by simp [h7]
            simp only [↓reduceIte, reduceCtorEq, reduceEqDiff, reduceAdd, reduceMul, reduceSub, reduceLeDiff, reduceEq, reduceLT, reduceLE, go_sem, k6, k7]
            repeat' first | refine Z1 fun _ _ => ?_ | refine Z2 ‹_› ?_ | ((first | refine Z3 tb_ok lv5 rfl ?_ | refine Z4 tb_ok mix lv5 bs5 rfl (by kernel_rfl) rfl ?_ | refine ret_eq rfl ?_); simp only [↓reduceIte, reduceCtorEq, reduceEqDiff, reduceAdd, reduceMul, reduceSub, reduceLeDiff, reduceEq, reduceLT, reduceLE, go_sem]) | (refine Z5 rfl ?_; with_reducible first | refine condQ_T ?_ | refine condQ_F ?_) | refine Z6 ?_ | refine Z8 ?_ | refine Zc ‹_› trivial ?_ | refine touch_go rfl ?_ | refine eff_go rfl ?_ | fail
            try
              simp only [↓reduceIte, reduceCtorEq, reduceEqDiff, reduceAdd, reduceMul, reduceSub, reduceLeDiff, reduceEq, reduceLT, reduceLE, go_sem, k7]
              repeat' first | refine Z1 fun _ _ => ?_ | refine Z2 ‹_› ?_ | ((first | refine Z3 tb_ok lv5 rfl ?_ | refine Z4 tb_ok mix lv5 bs5 rfl (by kernel_rfl) rfl ?_ | refine ret_eq rfl ?_); simp only [↓reduceIte, reduceCtorEq, reduceEqDiff, reduceAdd, reduceMul, reduceSub, reduceLeDiff, reduceEq, reduceLT, reduceLE, go_sem]) | (refine Z5 rfl ?_; with_reducible first | refine condQ_T ?_ | refine condQ_F ?_) | refine Z6 ?_ | refine Z8 ?_ | refine Zc ‹_› trivial ?_ | refine touch_go rfl ?_ | refine eff_go rfl ?_ | fail
          · have k7 : decide (vk = 7) = false := by simp [h7]
            rw [hm (by omega) (by omega)]
            simp only [↓reduceIte, reduceCtorEq, reduceEqDiff, reduceAdd, reduceMul, reduceSub, reduceLeDiff, reduceEq, reduceLT, reduceLE, go_sem, k6, k7]
            repeat' first | refine Z1 fun _ _ => ?_ | refine Z2 ‹_› ?_ | ((first | refine Z3 tb_ok lv5 rfl ?_ | refine Z4 tb_ok mix lv5 bs5 rfl (by kernel_rfl) rfl ?_ | refine ret_eq rfl ?_); simp only [↓reduceIte, reduceCtorEq, reduceEqDiff, reduceAdd, reduceMul, reduceSub, reduceLeDiff, reduceEq, reduceLT, reduceLE, go_sem]) | (refine Z5 rfl ?_; with_reducible first | refine condQ_T ?_ | refine condQ_F ?_) | refine Z6 ?_ | refine Z8 ?_ | refine Zc ‹_› trivial ?_ | refine touch_go rfl ?_ | refine eff_go rfl ?_ | fail
            try
              simp only [↓reduceIte, reduceCtorEq, reduceEqDiff, reduceAdd, reduceMul, reduceSub, reduceLeDiff, reduceEq, reduceLT, reduceLE, go_sem, k7, Option.isSome_none]
              repeat' first | refine Z1 fun _ _ => ?_ | refine Z2 ‹_› ?_ | ((first | refine Z3 tb_ok lv5 rfl ?_ | refine Z4 tb_ok mix lv5 bs5 rfl (by kernel_rfl) rfl ?_ | refine ret_eq rfl ?_); simp only [↓reduceIte, reduceCtorEq, reduceEqDiff, reduceAdd, reduceMul, reduceSub, reduceLeDiff, reduceEq, reduceLT, reduceLE, go_sem]) | (refine Z5 rfl ?_; with_reducible first | refine condQ_T ?_ | refine condQ_F ?_) | refine Z6 ?_ | refine Z8 ?_ | refine Zc ‹_› trivial ?_ | refine touch_go rfl ?_ | refine eff_go rfl ?_ | fail
end Go.Proofs.Ytpibdbjlilpfiaa
