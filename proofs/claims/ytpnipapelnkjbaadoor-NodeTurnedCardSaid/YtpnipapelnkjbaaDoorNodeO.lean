/- scantlinglaw04.NodeTurned. -/
import Derived.Test.YtpnipapelnkjbaaDoorNodeL
namespace Go.Proofs.YtpnipapelnkjbaaDoor
set_option linter.all false
open Go Go.RowKit
open Nat (reduceEqDiff reduceAdd reduceMul reduceSub reduceLeDiff)
open Int (reduceEq reduceLT reduceLE)

@[go_sem] def lv11 : List (Nat × List Nat) := [(0, [1, 2, 3, 4]), (1, [1, 2, 3, 4, 28]), (2, [8]), (3, [1, 2, 3, 4, 9]), (4, [2, 3, 4, 9, 10]), (5, [3, 4, 9]), (6, [3, 4, 53]), (7, [8]), (8, [4, 11]), (9, [4, 11, 12]), (10, [8])]
def bs11 : List (Nat × List Nat × List Nat) := [(10, [0, 1, 0, 4, 15, 31, 63, 0, 255, 511, 1023, 1023, 3071, 8191, 1023, 17407, 50175, 115711, 246783, 524287, 1048575, 2097151, 4194303, 8388607, 16777215], [19, 21])]
set_option maxRecDepth 4000 in
set_option maxHeartbeats 2000000 in
theorem c_nodeTurned {l : List Nd} (hl : l.length ≤ 140737488355328) (htx : ∀ i, (l.getD i Nd.z).text.size ≤ 140737488355328) {w z c : Int} (hw : 0 ≤ w) (hw' : w ≤ 65535) (hz : -128 ≤ z) (hz' : z ≤ 127) (hc : 0 ≤ c) (hc' : c ≤ 65535) : PCon Tryd.prog glU 11 [desc l, .int .u16 w, .int .i8 z, .int .u16 c] (.bool true) := by
  cases hfew : few l with
  | false =>
    refine PCon.enter tb_ok (fn := Tryd.f11) (by kernel_rfl) (by kernel_rfl) rfl (by show 4 ≤ 88; decide) ?_
    repeat' first | refine Z1 fun _ _ => ?_ | refine Z2 ‹_› ?_ | ((first | refine Z3 tb_ok lv11 rfl ?_ | refine Z4 tb_ok mix lv11 bs11 rfl (by kernel_rfl) rfl ?_ | refine ret_eq rfl ?_); simp only [↓reduceIte, reduceCtorEq, reduceEqDiff, reduceAdd, reduceMul, reduceSub, reduceLeDiff, reduceEq, reduceLT, reduceLE, go_sem]) | (refine Z5 rfl ?_; with_reducible first | refine condQ_T ?_ | refine condQ_F ?_) | refine Z6 ?_ | refine Z8 ?_ | refine Zc ‹_› trivial ?_ | refine touch_go rfl ?_ | refine eff_go rfl ?_ | fail
    refine call_pure rfl rfl (c_awake04) ?_; simp only [↓reduceIte, reduceCtorEq, reduceEqDiff, reduceAdd, reduceMul, reduceSub, reduceLeDiff, reduceEq, reduceLT, reduceLE, go_sem]
    repeat' first | refine Z1 fun _ _ => ?_ | refine Z2 ‹_› ?_ | ((first | refine Z3 tb_ok lv11 rfl ?_ | refine Z4 tb_ok mix lv11 bs11 rfl (by kernel_rfl) rfl ?_ | refine ret_eq rfl ?_); simp only [↓reduceIte, reduceCtorEq, reduceEqDiff, reduceAdd, reduceMul, reduceSub, reduceLeDiff, reduceEq, reduceLT, reduceLE, go_sem]) | (refine Z5 rfl ?_; with_reducible first | refine condQ_T ?_ | refine condQ_F ?_) | refine Z6 ?_ | refine Z8 ?_ | refine Zc ‹_› trivial ?_ | refine touch_go rfl ?_ | refine eff_go rfl ?_ | fail
    refine call_pure rfl rfl (c_fewB (by omega) hfew) ?_; simp only [↓reduceIte, reduceCtorEq, reduceEqDiff, reduceAdd, reduceMul, reduceSub, reduceLeDiff, reduceEq, reduceLT, reduceLE, go_sem]
    repeat' first | refine Z1 fun _ _ => ?_ | refine Z2 ‹_› ?_ | ((first | refine Z3 tb_ok lv11 rfl ?_ | refine Z4 tb_ok mix lv11 bs11 rfl (by kernel_rfl) rfl ?_ | refine ret_eq rfl ?_); simp only [↓reduceIte, reduceCtorEq, reduceEqDiff, reduceAdd, reduceMul, reduceSub, reduceLeDiff, reduceEq, reduceLT, reduceLE, go_sem]) | (refine Z5 rfl ?_; with_reducible first | refine condQ_T ?_ | refine condQ_F ?_) | refine Z6 ?_ | refine Z8 ?_ | refine Zc ‹_› trivial ?_ | refine touch_go rfl ?_ | refine eff_go rfl ?_ | fail
    refine call_pure rfl rfl (c_awake04) ?_; simp only [↓reduceIte, reduceCtorEq, reduceEqDiff, reduceAdd, reduceMul, reduceSub, reduceLeDiff, reduceEq, reduceLT, reduceLE, go_sem]
    repeat' first | refine Z1 fun _ _ => ?_ | refine Z2 ‹_› ?_ | ((first | refine Z3 tb_ok lv11 rfl ?_ | refine Z4 tb_ok mix lv11 bs11 rfl (by kernel_rfl) rfl ?_ | refine ret_eq rfl ?_); simp only [↓reduceIte, reduceCtorEq, reduceEqDiff, reduceAdd, reduceMul, reduceSub, reduceLeDiff, reduceEq, reduceLT, reduceLE, go_sem]) | (refine Z5 rfl ?_; with_reducible first | refine condQ_T ?_ | refine condQ_F ?_) | refine Z6 ?_ | refine Z8 ?_ | refine Zc ‹_› trivial ?_ | refine touch_go rfl ?_ | refine eff_go rfl ?_ | fail
  | true =>
    have hl0 := hl
    obtain ⟨hl, htx⟩ := few_small htx hfew
    obtain ⟨b, hb, hform⟩ := c_form (gl := glU) hl htx
    cases b
    · refine PCon.enter tb_ok (fn := Tryd.f11) (by kernel_rfl) (by kernel_rfl) rfl (by show 4 ≤ 88; decide) ?_
      repeat' first | refine Z1 fun _ _ => ?_ | refine Z2 ‹_› ?_ | ((first | refine Z3 tb_ok lv11 rfl ?_ | refine Z4 tb_ok mix lv11 bs11 rfl (by kernel_rfl) rfl ?_ | refine ret_eq rfl ?_); simp only [↓reduceIte, reduceCtorEq, reduceEqDiff, reduceAdd, reduceMul, reduceSub, reduceLeDiff, reduceEq, reduceLT, reduceLE, go_sem]) | (refine Z5 rfl ?_; with_reducible first | refine condQ_T ?_ | refine condQ_F ?_) | refine Z6 ?_ | refine Z8 ?_ | refine Zc ‹_› trivial ?_ | refine touch_go rfl ?_ | refine eff_go rfl ?_ | fail
      refine call_pure rfl rfl (c_awake04) ?_; simp only [↓reduceIte, reduceCtorEq, reduceEqDiff, reduceAdd, reduceMul, reduceSub, reduceLeDiff, reduceEq, reduceLT, reduceLE, go_sem]
      repeat' first | refine Z1 fun _ _ => ?_ | refine Z2 ‹_› ?_ | ((first | refine Z3 tb_ok lv11 rfl ?_ | refine Z4 tb_ok mix lv11 bs11 rfl (by kernel_rfl) rfl ?_ | refine ret_eq rfl ?_); simp only [↓reduceIte, reduceCtorEq, reduceEqDiff, reduceAdd, reduceMul, reduceSub, reduceLeDiff, reduceEq, reduceLT, reduceLE, go_sem]) | (refine Z5 rfl ?_; with_reducible first | refine condQ_T ?_ | refine condQ_F ?_) | refine Z6 ?_ | refine Z8 ?_ | refine Zc ‹_› trivial ?_ | refine touch_go rfl ?_ | refine eff_go rfl ?_ | fail
      refine call_pure rfl rfl (c_fewB (by omega) hfew) ?_; simp only [↓reduceIte, reduceCtorEq, reduceEqDiff, reduceAdd, reduceMul, reduceSub, reduceLeDiff, reduceEq, reduceLT, reduceLE, go_sem]
      repeat' first | refine Z1 fun _ _ => ?_ | refine Z2 ‹_› ?_ | ((first | refine Z3 tb_ok lv11 rfl ?_ | refine Z4 tb_ok mix lv11 bs11 rfl (by kernel_rfl) rfl ?_ | refine ret_eq rfl ?_); simp only [↓reduceIte, reduceCtorEq, reduceEqDiff, reduceAdd, reduceMul, reduceSub, reduceLeDiff, reduceEq, reduceLT, reduceLE, go_sem]) | (refine Z5 rfl ?_; with_reducible first | refine condQ_T ?_ | refine condQ_F ?_) | refine Z6 ?_ | refine Z8 ?_ | refine Zc ‹_› trivial ?_ | refine touch_go rfl ?_ | refine eff_go rfl ?_ | fail
      refine call_pure rfl rfl (hform) ?_; simp only [↓reduceIte, reduceCtorEq, reduceEqDiff, reduceAdd, reduceMul, reduceSub, reduceLeDiff, reduceEq, reduceLT, reduceLE, go_sem]
      repeat' first | refine Z1 fun _ _ => ?_ | refine Z2 ‹_› ?_ | ((first | refine Z3 tb_ok lv11 rfl ?_ | refine Z4 tb_ok mix lv11 bs11 rfl (by kernel_rfl) rfl ?_ | refine ret_eq rfl ?_); simp only [↓reduceIte, reduceCtorEq, reduceEqDiff, reduceAdd, reduceMul, reduceSub, reduceLeDiff, reduceEq, reduceLT, reduceLE, go_sem]) | (refine Z5 rfl ?_; with_reducible first | refine condQ_T ?_ | refine condQ_F ?_) | refine Z6 ?_ | refine Z8 ?_ | refine Zc ‹_› trivial ?_ | refine touch_go rfl ?_ | refine eff_go rfl ?_ | fail
      refine call_pure rfl rfl (c_awake04) ?_; simp only [↓reduceIte, reduceCtorEq, reduceEqDiff, reduceAdd, reduceMul, reduceSub, reduceLeDiff, reduceEq, reduceLT, reduceLE, go_sem]
      repeat' first | refine Z1 fun _ _ => ?_ | refine Z2 ‹_› ?_ | ((first | refine Z3 tb_ok lv11 rfl ?_ | refine Z4 tb_ok mix lv11 bs11 rfl (by kernel_rfl) rfl ?_ | refine ret_eq rfl ?_); simp only [↓reduceIte, reduceCtorEq, reduceEqDiff, reduceAdd, reduceMul, reduceSub, reduceLeDiff, reduceEq, reduceLT, reduceLE, go_sem]) | (refine Z5 rfl ?_; with_reducible first | refine condQ_T ?_ | refine condQ_F ?_) | refine Z6 ?_ | refine Z8 ?_ | refine Zc ‹_› trivial ?_ | refine touch_go rfl ?_ | refine eff_go rfl ?_ | fail
    · obtain ⟨t, rfl, hok⟩ := hb.1 rfl
      have hp := t.n_pos
      rw [T.flat_len] at hl
      have lt := T.flat_len t 0
      have h100 := few_len hfew
      refine PCon.enter tb_ok (fn := Tryd.f11) (by kernel_rfl) (by kernel_rfl) rfl (by show 4 ≤ 88; decide) ?_
      repeat' first | refine Z1 fun _ _ => ?_ | refine Z2 ‹_› ?_ | ((first | refine Z3 tb_ok lv11 rfl ?_ | refine Z4 tb_ok mix lv11 bs11 rfl (by kernel_rfl) rfl ?_ | refine ret_eq rfl ?_); simp only [↓reduceIte, reduceCtorEq, reduceEqDiff, reduceAdd, reduceMul, reduceSub, reduceLeDiff, reduceEq, reduceLT, reduceLE, go_sem]) | (refine Z5 rfl ?_; with_reducible first | refine condQ_T ?_ | refine condQ_F ?_) | refine Z6 ?_ | refine Z8 ?_ | refine Zc ‹_› trivial ?_ | refine touch_go rfl ?_ | refine eff_go rfl ?_ | fail
      refine call_pure rfl rfl (c_awake04) ?_; simp only [↓reduceIte, reduceCtorEq, reduceEqDiff, reduceAdd, reduceMul, reduceSub, reduceLeDiff, reduceEq, reduceLT, reduceLE, go_sem]
      repeat' first | refine Z1 fun _ _ => ?_ | refine Z2 ‹_› ?_ | ((first | refine Z3 tb_ok lv11 rfl ?_ | refine Z4 tb_ok mix lv11 bs11 rfl (by kernel_rfl) rfl ?_ | refine ret_eq rfl ?_); simp only [↓reduceIte, reduceCtorEq, reduceEqDiff, reduceAdd, reduceMul, reduceSub, reduceLeDiff, reduceEq, reduceLT, reduceLE, go_sem]) | (refine Z5 rfl ?_; with_reducible first | refine condQ_T ?_ | refine condQ_F ?_) | refine Z6 ?_ | refine Z8 ?_ | refine Zc ‹_› trivial ?_ | refine touch_go rfl ?_ | refine eff_go rfl ?_ | fail
      refine call_pure rfl rfl (c_fewB (by omega) hfew) ?_; simp only [↓reduceIte, reduceCtorEq, reduceEqDiff, reduceAdd, reduceMul, reduceSub, reduceLeDiff, reduceEq, reduceLT, reduceLE, go_sem]
      repeat' first | refine Z1 fun _ _ => ?_ | refine Z2 ‹_› ?_ | ((first | refine Z3 tb_ok lv11 rfl ?_ | refine Z4 tb_ok mix lv11 bs11 rfl (by kernel_rfl) rfl ?_ | refine ret_eq rfl ?_); simp only [↓reduceIte, reduceCtorEq, reduceEqDiff, reduceAdd, reduceMul, reduceSub, reduceLeDiff, reduceEq, reduceLT, reduceLE, go_sem]) | (refine Z5 rfl ?_; with_reducible first | refine condQ_T ?_ | refine condQ_F ?_) | refine Z6 ?_ | refine Z8 ?_ | refine Zc ‹_› trivial ?_ | refine touch_go rfl ?_ | refine eff_go rfl ?_ | fail
      refine call_pure rfl rfl (hform) ?_; simp only [↓reduceIte, reduceCtorEq, reduceEqDiff, reduceAdd, reduceMul, reduceSub, reduceLeDiff, reduceEq, reduceLT, reduceLE, go_sem]
      repeat' first | refine Z1 fun _ _ => ?_ | refine Z2 ‹_› ?_ | ((first | refine Z3 tb_ok lv11 rfl ?_ | refine Z4 tb_ok mix lv11 bs11 rfl (by kernel_rfl) rfl ?_ | refine ret_eq rfl ?_); simp only [↓reduceIte, reduceCtorEq, reduceEqDiff, reduceAdd, reduceMul, reduceSub, reduceLeDiff, reduceEq, reduceLT, reduceLE, go_sem]) | (refine Z5 rfl ?_; with_reducible first | refine condQ_T ?_ | refine condQ_F ?_) | refine Z6 ?_ | refine Z8 ?_ | refine Zc ‹_› trivial ?_ | refine touch_go rfl ?_ | refine eff_go rfl ?_ | fail
      refine .cond rfl (fun h0 => ?_) (fun h0 => ?_)
      · repeat' first | refine Z1 fun _ _ => ?_ | refine Z2 ‹_› ?_ | ((first | refine Z3 tb_ok lv11 rfl ?_ | refine Z4 tb_ok mix lv11 bs11 rfl (by kernel_rfl) rfl ?_ | refine ret_eq rfl ?_); simp only [↓reduceIte, reduceCtorEq, reduceEqDiff, reduceAdd, reduceMul, reduceSub, reduceLeDiff, reduceEq, reduceLT, reduceLE, go_sem]) | (refine Z5 rfl ?_; with_reducible first | refine condQ_T ?_ | refine condQ_F ?_) | refine Z6 ?_ | refine Z8 ?_ | refine Zc ‹_› trivial ?_ | refine touch_go rfl ?_ | refine eff_go rfl ?_ | fail
        refine call_pure rfl rfl (c_awake04) ?_; simp only [↓reduceIte, reduceCtorEq, reduceEqDiff, reduceAdd, reduceMul, reduceSub, reduceLeDiff, reduceEq, reduceLT, reduceLE, go_sem]
        repeat' first | refine Z1 fun _ _ => ?_ | refine Z2 ‹_› ?_ | ((first | refine Z3 tb_ok lv11 rfl ?_ | refine Z4 tb_ok mix lv11 bs11 rfl (by kernel_rfl) rfl ?_ | refine ret_eq rfl ?_); simp only [↓reduceIte, reduceCtorEq, reduceEqDiff, reduceAdd, reduceMul, reduceSub, reduceLeDiff, reduceEq, reduceLT, reduceLE, go_sem]) | (refine Z5 rfl ?_; with_reducible first | refine condQ_T ?_ | refine condQ_F ?_) | refine Z6 ?_ | refine Z8 ?_ | refine Zc ‹_› trivial ?_ | refine touch_go rfl ?_ | refine eff_go rfl ?_ | fail
      simp only [decide_eq_false_iff_not] at h0
      repeat' first | refine Z1 fun _ _ => ?_ | refine Z2 ‹_› ?_ | ((first | refine Z3 tb_ok lv11 rfl ?_ | refine Z4 tb_ok mix lv11 bs11 rfl (by kernel_rfl) rfl ?_ | refine ret_eq rfl ?_); simp only [↓reduceIte, reduceCtorEq, reduceEqDiff, reduceAdd, reduceMul, reduceSub, reduceLeDiff, reduceEq, reduceLT, reduceLE, go_sem]) | (refine Z5 rfl ?_; with_reducible first | refine condQ_T ?_ | refine condQ_F ?_) | refine Z6 ?_ | refine Z8 ?_ | refine Zc ‹_› trivial ?_ | refine touch_go rfl ?_ | refine eff_go rfl ?_ | fail
      refine ⟨fun e he => by obtain ⟨n, _, rfl⟩ := List.mem_map.1 he; rfl, by omega, by omega, ?_⟩
      repeat' first | refine Z1 fun _ _ => ?_ | refine Z2 ‹_› ?_ | ((first | refine Z3 tb_ok lv11 rfl ?_ | refine Z4 tb_ok mix lv11 bs11 rfl (by kernel_rfl) rfl ?_ | refine ret_eq rfl ?_); simp only [↓reduceIte, reduceCtorEq, reduceEqDiff, reduceAdd, reduceMul, reduceSub, reduceLeDiff, reduceEq, reduceLT, reduceLE, go_sem]) | (refine Z5 rfl ?_; with_reducible first | refine condQ_T ?_ | refine condQ_F ?_) | refine Z6 ?_ | refine Z8 ?_ | refine Zc ‹_› trivial ?_ | refine touch_go rfl ?_ | refine eff_go rfl ?_ | fail
      refine ⟨by omega, ?_⟩
      obtain ⟨off, t', e, hs, hok', hlt⟩ := pick_node hok hl hw hw'
      rw [e]
      have hp' := t'.n_pos
      have he : off + t'.n = (off + (t'.n - 1)) + 1 := by omega
      have lt' := T.flat_len t' 0
      repeat' first | refine Z1 fun _ _ => ?_ | refine Z2 ‹_› ?_ | ((first | refine Z3 tb_ok lv11 rfl ?_ | refine Z4 tb_ok mix lv11 bs11 rfl (by kernel_rfl) rfl ?_ | refine ret_eq rfl ?_); simp only [↓reduceIte, reduceCtorEq, reduceEqDiff, reduceAdd, reduceMul, reduceSub, reduceLeDiff, reduceEq, reduceLT, reduceLE, go_sem]) | (refine Z5 rfl ?_; with_reducible first | refine condQ_T ?_ | refine condQ_F ?_) | refine Z6 ?_ | refine Z8 ?_ | refine Zc ‹_› trivial ?_ | refine touch_go rfl ?_ | refine eff_go rfl ?_ | fail
      refine idx_own (j := off + (t'.n - 1)) rfl rfl rfl rfl rfl rfl (by omega) (by simp; omega) ?_
      simp only [↓reduceIte, reduceCtorEq, reduceEqDiff, reduceAdd, reduceMul, reduceSub, reduceLeDiff, reduceEq, reduceLT, reduceLE, go_sem]
      refine ⟨_, at_map Nd.z (show off + (t'.n - 1) < (T.flat 0 t).length by omega), ?_⟩
      have hroot := hs.getD Nd.z
      have hna : -1 ≤ (t'.root off).a ∧ (t'.root off).a ≤ 1048576 := by
        cases t' <;> simp only [T.root, T.n] at hlt hp' ⊢ <;> omega
      generalize hn : (T.flat 0 t).getD (off + (t'.n - 1)) Nd.z = n
      rw [← hroot, hn] at hna
      have hne : IntKind.i64.wrap (n.a + IntKind.i64.wrap z) ≠ n.a := by
        rw [wrap64 (z := z) (by omega) (by omega), wrap64 (by omega) (by omega)]; omega
      simp only [↓reduceIte, reduceCtorEq, reduceEqDiff, reduceAdd, reduceMul, reduceSub, reduceLeDiff, reduceEq, reduceLT, reduceLE, go_sem]
      refine idx_own (j := off + (t'.n - 1)) rfl rfl rfl rfl rfl rfl (by omega) (by simp; omega) ?_
      simp only [↓reduceIte, reduceCtorEq, reduceEqDiff, reduceAdd, reduceMul, reduceSub, reduceLeDiff, reduceEq, reduceLT, reduceLE, go_sem]
      refine ⟨_, at_map Nd.z (show off + (t'.n - 1) < (T.flat 0 t).length by omega), ?_⟩
      rw [hn]
      simp only [↓reduceIte, reduceCtorEq, reduceEqDiff, reduceAdd, reduceMul, reduceSub, reduceLeDiff, reduceEq, reduceLT, reduceLE, go_sem]
      have fin : (List.map Nd.cells (T.flat 0 t)).set (off + (t'.n - 1)) (Nd.cells { n with a := IntKind.i64.wrap (n.a + IntKind.i64.wrap z) }) = List.map Nd.cells ((T.flat 0 t).set (off + (t'.n - 1)) { n with a := IntKind.i64.wrap (n.a + IntKind.i64.wrap z) }) := by rw [List.map_set]
      simp only [Nd.cells] at fin
      simp only [↓reduceIte, reduceCtorEq, reduceEqDiff, reduceAdd, reduceMul, reduceSub, reduceLeDiff, reduceEq, reduceLT, reduceLE, go_sem, fin]
      repeat' first | refine Z1 fun _ _ => ?_ | refine Z2 ‹_› ?_ | ((first | refine Z3 tb_ok lv11 rfl ?_ | refine Z4 tb_ok mix lv11 bs11 rfl (by kernel_rfl) rfl ?_ | refine ret_eq rfl ?_); simp only [↓reduceIte, reduceCtorEq, reduceEqDiff, reduceAdd, reduceMul, reduceSub, reduceLeDiff, reduceEq, reduceLT, reduceLE, go_sem]) | (refine Z5 rfl ?_; with_reducible first | refine condQ_T ?_ | refine condQ_F ?_) | refine Z6 ?_ | refine Z8 ?_ | refine Zc ‹_› trivial ?_ | refine touch_go rfl ?_ | refine eff_go rfl ?_ | fail
      have hturn := turned_no hok (i := off + (t'.n - 1)) (by omega) (z := IntKind.i64.wrap (n.a + IntKind.i64.wrap z)) (by rw [hn]; exact hne)
      rw [hn] at hturn
      have hset : ((T.flat 0 t).set (off + (t'.n - 1)) { n with a := IntKind.i64.wrap (n.a + IntKind.i64.wrap z) }).length = t.n := by rw [List.length_set, lt]
      have hno := c_nformF (by rw [hset]; exact hl) (tx_mem fun x hx => by
        rcases List.mem_or_eq_of_mem_set hx with hx | rfl
        · exact flat_tx hok x hx
        · have := flat_txD hok (off := 0) (off + (t'.n - 1))
          rw [hn] at this
          exact this) hturn
      refine call_pure rfl rfl (hno) ?_; simp only [↓reduceIte, reduceCtorEq, reduceEqDiff, reduceAdd, reduceMul, reduceSub, reduceLeDiff, reduceEq, reduceLT, reduceLE, go_sem]
      repeat' first | refine Z1 fun _ _ => ?_ | refine Z2 ‹_› ?_ | ((first | refine Z3 tb_ok lv11 rfl ?_ | refine Z4 tb_ok mix lv11 bs11 rfl (by kernel_rfl) rfl ?_ | refine ret_eq rfl ?_); simp only [↓reduceIte, reduceCtorEq, reduceEqDiff, reduceAdd, reduceMul, reduceSub, reduceLeDiff, reduceEq, reduceLT, reduceLE, go_sem]) | (refine Z5 rfl ?_; with_reducible first | refine condQ_T ?_ | refine condQ_F ?_) | refine Z6 ?_ | refine Z8 ?_ | refine Zc ‹_› trivial ?_ | refine touch_go rfl ?_ | refine eff_go rfl ?_ | fail
      refine ⟨by omega, ?_⟩
      obtain ⟨off2, t2, e2, hs2, hok2, hlt2⟩ := pick_node hok hl hc hc'
      rw [e2]
      have hp2 := t2.n_pos
      have he2 : off2 + t2.n = (off2 + (t2.n - 1)) + 1 := by omega
      repeat' first | refine Z1 fun _ _ => ?_ | refine Z2 ‹_› ?_ | ((first | refine Z3 tb_ok lv11 rfl ?_ | refine Z4 tb_ok mix lv11 bs11 rfl (by kernel_rfl) rfl ?_ | refine ret_eq rfl ?_); simp only [↓reduceIte, reduceCtorEq, reduceEqDiff, reduceAdd, reduceMul, reduceSub, reduceLeDiff, reduceEq, reduceLT, reduceLE, go_sem]) | (refine Z5 rfl ?_; with_reducible first | refine condQ_T ?_ | refine condQ_F ?_) | refine Z6 ?_ | refine Z8 ?_ | refine Zc ‹_› trivial ?_ | refine touch_go rfl ?_ | refine eff_go rfl ?_ | fail
      refine call_pure rfl rfl (c_nfirstT hok hl hs2 he2 hok2) ?_; simp only [↓reduceIte, reduceCtorEq, reduceEqDiff, reduceAdd, reduceMul, reduceSub, reduceLeDiff, reduceEq, reduceLT, reduceLE, go_sem]
      repeat' first | refine Z1 fun _ _ => ?_ | refine Z2 ‹_› ?_ | ((first | refine Z3 tb_ok lv11 rfl ?_ | refine Z4 tb_ok mix lv11 bs11 rfl (by kernel_rfl) rfl ?_ | refine ret_eq rfl ?_); simp only [↓reduceIte, reduceCtorEq, reduceEqDiff, reduceAdd, reduceMul, reduceSub, reduceLeDiff, reduceEq, reduceLT, reduceLE, go_sem]) | (refine Z5 rfl ?_; with_reducible first | refine condQ_T ?_ | refine condQ_F ?_) | refine Z6 ?_ | refine Z8 ?_ | refine Zc ‹_› trivial ?_ | refine touch_go rfl ?_ | refine eff_go rfl ?_ | fail
      have q1 : IntKind.i64.wrap (((off2 + (t2.n - 1) : Nat) : Int) + 1) = ((off2 + (t2.n - 1) + 1 : Nat) : Int) := by rw [wrap64 (by omega) (by omega)]; omega
      simp only [↓reduceIte, reduceCtorEq, reduceEqDiff, reduceAdd, reduceMul, reduceSub, reduceLeDiff, reduceEq, reduceLT, reduceLE, go_sem, q1]
      repeat' first | refine Z1 fun _ _ => ?_ | refine Z2 ‹_› ?_ | ((first | refine Z3 tb_ok lv11 rfl ?_ | refine Z4 tb_ok mix lv11 bs11 rfl (by kernel_rfl) rfl ?_ | refine ret_eq rfl ?_); simp only [↓reduceIte, reduceCtorEq, reduceEqDiff, reduceAdd, reduceMul, reduceSub, reduceLeDiff, reduceEq, reduceLT, reduceLE, go_sem]) | (refine Z5 rfl ?_; with_reducible first | refine condQ_T ?_ | refine condQ_F ?_) | refine Z6 ?_ | refine Z8 ?_ | refine Zc ‹_› trivial ?_ | refine touch_go rfl ?_ | refine eff_go rfl ?_ | fail
      have hcut : List.take (off2 + (t2.n - 1) + 1 - 0) (List.map Nd.cells (T.flat 0 t)) = List.map Nd.cells ((T.flat 0 t).take (off2 + (t2.n - 1) + 1)) := by rw [← List.map_take, Nat.sub_zero]
      refine ⟨fun e he => by obtain ⟨n, _, rfl⟩ := List.mem_map.1 he; rfl, by omega, by omega, ?_⟩
      simp only [↓reduceIte, reduceCtorEq, reduceEqDiff, reduceAdd, reduceMul, reduceSub, reduceLeDiff, reduceEq, reduceLT, reduceLE, go_sem, hcut]
      repeat' first | refine Z1 fun _ _ => ?_ | refine Z2 ‹_› ?_ | ((first | refine Z3 tb_ok lv11 rfl ?_ | refine Z4 tb_ok mix lv11 bs11 rfl (by kernel_rfl) rfl ?_ | refine ret_eq rfl ?_); simp only [↓reduceIte, reduceCtorEq, reduceEqDiff, reduceAdd, reduceMul, reduceSub, reduceLeDiff, reduceEq, reduceLT, reduceLE, go_sem]) | (refine Z5 rfl ?_; with_reducible first | refine condQ_T ?_ | refine condQ_F ?_) | refine Z6 ?_ | refine Z8 ?_ | refine Zc ‹_› trivial ?_ | refine touch_go rfl ?_ | refine eff_go rfl ?_ | fail
      have hfr : frOk ((T.flat 0 t).take (off2 + (t2.n - 1) + 1)) = decide ((off2 : Int) = 0) := by
        rw [Bool.eq_iff_iff, frOk_iff (tx_mem fun x hx => flat_tx hok x (List.mem_of_mem_take hx)), cut_whole hs2 he2 hok2, decide_eq_true_eq]
        omega
      have hfo := c_nform (l := (T.flat 0 t).take (off2 + (t2.n - 1) + 1)) (by rw [List.length_take]; omega) (tx_mem fun x hx => flat_tx hok x (List.mem_of_mem_take hx))
      rw [hfr] at hfo
      refine call_pure rfl rfl (hfo) ?_; simp only [↓reduceIte, reduceCtorEq, reduceEqDiff, reduceAdd, reduceMul, reduceSub, reduceLeDiff, reduceEq, reduceLT, reduceLE, go_sem]
      have hbeq : ∀ b : Bool, (b == b) = true := fun b => by cases b <;> rfl
      simp only [↓reduceIte, reduceCtorEq, reduceEqDiff, reduceAdd, reduceMul, reduceSub, reduceLeDiff, reduceEq, reduceLT, reduceLE, go_sem, hbeq]
      repeat' first | refine Z1 fun _ _ => ?_ | refine Z2 ‹_› ?_ | ((first | refine Z3 tb_ok lv11 rfl ?_ | refine Z4 tb_ok mix lv11 bs11 rfl (by kernel_rfl) rfl ?_ | refine ret_eq rfl ?_); simp only [↓reduceIte, reduceCtorEq, reduceEqDiff, reduceAdd, reduceMul, reduceSub, reduceLeDiff, reduceEq, reduceLT, reduceLE, go_sem]) | (refine Z5 rfl ?_; with_reducible first | refine condQ_T ?_ | refine condQ_F ?_) | refine Z6 ?_ | refine Z8 ?_ | refine Zc ‹_› trivial ?_ | refine touch_go rfl ?_ | refine eff_go rfl ?_ | fail
      refine ⟨fun e he => by obtain ⟨n, _, rfl⟩ := List.mem_map.1 he; rfl, by omega, by omega, ?_⟩
      repeat' first | refine Z1 fun _ _ => ?_ | refine Z2 ‹_› ?_ | ((first | refine Z3 tb_ok lv11 rfl ?_ | refine Z4 tb_ok mix lv11 bs11 rfl (by kernel_rfl) rfl ?_ | refine ret_eq rfl ?_); simp only [↓reduceIte, reduceCtorEq, reduceEqDiff, reduceAdd, reduceMul, reduceSub, reduceLeDiff, reduceEq, reduceLT, reduceLE, go_sem]) | (refine Z5 rfl ?_; with_reducible first | refine condQ_T ?_ | refine condQ_F ?_) | refine Z6 ?_ | refine Z8 ?_ | refine Zc ‹_› trivial ?_ | refine touch_go rfl ?_ | refine eff_go rfl ?_ | fail
      refine idx_map (j := 0) Nd.z rfl rfl rfl rfl rfl (by omega) (by omega) rfl ?_
      simp only [↓reduceIte, reduceCtorEq, reduceEqDiff, reduceAdd, reduceMul, reduceSub, reduceLeDiff, reduceEq, reduceLT, reduceLE, go_sem]
      repeat' first | refine Z1 fun _ _ => ?_ | refine Z2 ‹_› ?_ | ((first | refine Z3 tb_ok lv11 rfl ?_ | refine Z4 tb_ok mix lv11 bs11 rfl (by kernel_rfl) rfl ?_ | refine ret_eq rfl ?_); simp only [↓reduceIte, reduceCtorEq, reduceEqDiff, reduceAdd, reduceMul, reduceSub, reduceLeDiff, reduceEq, reduceLT, reduceLE, go_sem]) | (refine Z5 rfl ?_; with_reducible first | refine condQ_T ?_ | refine condQ_F ?_) | refine Z6 ?_ | refine Z8 ?_ | refine Zc ‹_› trivial ?_ | refine touch_go rfl ?_ | refine eff_go rfl ?_ | fail
      generalize hq0 : (T.flat 0 t).getD 0 Nd.z = q0
      refine ⟨fun e he => by rw [he]; rfl, by omega, by omega, ?_⟩
      have hmo := no_more hok
      rw [hq0] at hmo
      have hap : List.map Nd.cells (T.flat 0 t) ++ [Nd.cells q0] = List.map Nd.cells (T.flat 0 t ++ [q0]) := by simp
      simp only [Nd.cells] at hap
      have hno2 := c_nformF (l := T.flat 0 t ++ [q0]) (by simp only [List.length_append, lt, List.length_singleton]; omega) (tx_mem fun x hx => by
        rcases List.mem_append.1 hx with hx | hx
        · exact flat_tx hok x hx
        · simp at hx
          subst hx
          rw [← hq0]
          exact flat_txD hok 0) hmo
      simp only [↓reduceIte, reduceCtorEq, reduceEqDiff, reduceAdd, reduceMul, reduceSub, reduceLeDiff, reduceEq, reduceLT, reduceLE, go_sem, hap]
      repeat' first | refine Z1 fun _ _ => ?_ | refine Z2 ‹_› ?_ | ((first | refine Z3 tb_ok lv11 rfl ?_ | refine Z4 tb_ok mix lv11 bs11 rfl (by kernel_rfl) rfl ?_ | refine ret_eq rfl ?_); simp only [↓reduceIte, reduceCtorEq, reduceEqDiff, reduceAdd, reduceMul, reduceSub, reduceLeDiff, reduceEq, reduceLT, reduceLE, go_sem]) | (refine Z5 rfl ?_; with_reducible first | refine condQ_T ?_ | refine condQ_F ?_) | refine Z6 ?_ | refine Z8 ?_ | refine Zc ‹_› trivial ?_ | refine touch_go rfl ?_ | refine eff_go rfl ?_ | fail
      refine call_pure rfl rfl (hno2) ?_; simp only [↓reduceIte, reduceCtorEq, reduceEqDiff, reduceAdd, reduceMul, reduceSub, reduceLeDiff, reduceEq, reduceLT, reduceLE, go_sem]
      repeat' first | refine Z1 fun _ _ => ?_ | refine Z2 ‹_› ?_ | ((first | refine Z3 tb_ok lv11 rfl ?_ | refine Z4 tb_ok mix lv11 bs11 rfl (by kernel_rfl) rfl ?_ | refine ret_eq rfl ?_); simp only [↓reduceIte, reduceCtorEq, reduceEqDiff, reduceAdd, reduceMul, reduceSub, reduceLeDiff, reduceEq, reduceLT, reduceLE, go_sem]) | (refine Z5 rfl ?_; with_reducible first | refine condQ_T ?_ | refine condQ_F ?_) | refine Z6 ?_ | refine Z8 ?_ | refine Zc ‹_› trivial ?_ | refine touch_go rfl ?_ | refine eff_go rfl ?_ | fail
end Go.Proofs.YtpnipapelnkjbaaDoor
