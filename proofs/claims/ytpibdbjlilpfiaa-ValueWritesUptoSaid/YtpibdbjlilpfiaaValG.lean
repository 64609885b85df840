/- value.Write, scantlingref11.Write; what a description's values write. -/
import Derived.Test.YtpibdbjlilpfiaaValE
import Derived.Test.YtpibdbjlilpfiaaValF
import Derived.Test.YtpibdbjlilpfiaaSpanD
import Derived.Test.YtpibdbjlilpfiaaWaysB
import Derived.Test.YtpibdbjlilpfiaaFewA
namespace Go.Proofs.Ytpibdbjlilpfiaa
set_option linter.all false
open Go Go.RowKit
open Nat (reduceEqDiff reduceAdd reduceMul reduceSub reduceLeDiff)
open Int (reduceEq reduceLT reduceLE)

@[go_sem] def lv16 : List (Nat × List Nat) := [(0, [2, 3]), (1, [4, 5])]
def bs16 : List (Nat × List Nat × List Nat) := []
theorem c_vWrite {gl} {t : T} (hl : t.n ≤ 1048576) (hok : t.ok txtOk) (hc : t.cok) {v : Vl} (hv : v.bulk ≤ 1048577) (hwf : v.Wf) : PCon Try.prog gl 16 [desc (t.flat 0), val v] (resW (t.wr v)) := by
  have h0 := t.flat_len 0
  have hp := t.n_pos
  refine PCon.enter tb_ok (fn := Try.f16) (by kernel_rfl) (by kernel_rfl) rfl (by show 2 ≤ 15; decide) ?_
  repeat' first | refine Z1 fun _ _ => ?_ | refine Z2 ‹_› ?_ | ((first | refine Z3 tb_ok lv16 rfl ?_ | refine ret_eq rfl ?_); simp only [↓reduceIte, reduceCtorEq, reduceEqDiff, reduceAdd, reduceMul, reduceSub, reduceLeDiff, reduceEq, reduceLT, reduceLE, go_sem]) | refine Z8 ?_ | refine Zc ‹_› trivial ?_ | fail
  rw [h0, wrap64 (by omega) (by omega), show ((t.n : Int) - 1) = ((0 + (t.n - 1) : Nat) : Int) by omega]
  refine call_pure rfl rfl (c_write (by omega) t 0 (sits_flat t) hok hc v hv hwf) ?_; simp only [↓reduceIte, reduceCtorEq, reduceEqDiff, reduceAdd, reduceMul, reduceSub, reduceLeDiff, reduceEq, reduceLT, reduceLE, go_sem]
  repeat' first | refine Z1 fun _ _ => ?_ | refine Z2 ‹_› ?_ | ((first | refine Z3 tb_ok lv16 rfl ?_ | refine ret_eq rfl ?_); simp only [↓reduceIte, reduceCtorEq, reduceEqDiff, reduceAdd, reduceMul, reduceSub, reduceLeDiff, reduceEq, reduceLT, reduceLE, go_sem]) | refine Z8 ?_ | refine Zc ‹_› trivial ?_ | fail
@[go_sem] def lv17 : List (Nat × List Nat) := [(0, [2, 3]), (1, [4, 5])]
def bs17 : List (Nat × List Nat × List Nat) := []
theorem c_rWrite {gl} {t : T} (hl : t.n ≤ 1048576) (hok : t.ok txtOk) (hc : t.cok) {v : Vl} (hv : v.bulk ≤ 1048577) (hwf : v.Wf) : PCon Try.prog gl 17 [desc (t.flat 0), val v] (resW (t.wr v)) := by
  have h0 := t.flat_len 0
  have hp := t.n_pos
  refine PCon.enter tb_ok (fn := Try.f17) (by kernel_rfl) (by kernel_rfl) rfl (by show 2 ≤ 15; decide) ?_
  repeat' first | refine Z1 fun _ _ => ?_ | refine Z2 ‹_› ?_ | ((first | refine Z3 tb_ok lv17 rfl ?_ | refine ret_eq rfl ?_); simp only [↓reduceIte, reduceCtorEq, reduceEqDiff, reduceAdd, reduceMul, reduceSub, reduceLeDiff, reduceEq, reduceLT, reduceLE, go_sem]) | refine Z8 ?_ | refine Zc ‹_› trivial ?_ | fail
  rw [h0, wrap64 (by omega) (by omega), show ((t.n : Int) - 1) = ((0 + (t.n - 1) : Nat) : Int) by omega]
  refine call_pure rfl rfl (c_at (by omega) t 0 (sits_flat t) hok hc v hv hwf) ?_; simp only [↓reduceIte, reduceCtorEq, reduceEqDiff, reduceAdd, reduceMul, reduceSub, reduceLeDiff, reduceEq, reduceLT, reduceLE, go_sem]
  repeat' first | refine Z1 fun _ _ => ?_ | refine Z2 ‹_› ?_ | ((first | refine Z3 tb_ok lv17 rfl ?_ | refine ret_eq rfl ?_); simp only [↓reduceIte, reduceCtorEq, reduceEqDiff, reduceAdd, reduceMul, reduceSub, reduceLeDiff, reduceEq, reduceLT, reduceLE, go_sem]) | refine Z8 ?_ | refine Zc ‹_› trivial ?_ | fail
def vDot : T := .bytes 255 0 0 0
def vSt : T := .one 6 0 0 vDot
def vFr : T := .one 8 0 0 vSt
def vWd : T := .one 9 0 0 vSt
theorem vDot_ok : vDot.ok txtOk := trivial
theorem vSt_ok : vSt.ok txtOk := ⟨.inl ⟨by omega, rfl, rfl⟩, trivial⟩
theorem vFr_ok : vFr.ok txtOk := ⟨.inl ⟨by omega, rfl, rfl⟩, vSt_ok⟩
theorem vWd_ok : vWd.ok txtOk := ⟨.inl ⟨by omega, rfl, rfl⟩, vSt_ok⟩
theorem vDot_c : vDot.cok := ⟨by omega, by omega, by omega, by omega⟩
theorem sevenRow {gl} : PCon Try.prog gl 34 [.int .u8 0, .int .u8 7] (cls 255 0 0 0) := by
  have := c_ref01Row (gl := gl) (a := 0) (b := 7) (by omega) (by omega)
  exact this
def vSeven : Vl := .mk 2 7 .empty 0 []
def vStar : Vl := .mk 6 0 .empty 0 [vSeven, vSeven]
theorem vSeven_wf : vSeven.Wf := .mk _ _ _ _ _ (by omega) (by omega) (by omega) (fun x h => by cases h)
theorem vStar_wf : vStar.Wf := .mk _ _ _ _ _ (by omega) (by omega) (by omega) (fun x h => by
  rcases List.mem_cons.1 h with rfl | h
  · exact vSeven_wf
  · rcases List.mem_cons.1 h with rfl | h
    · exact vSeven_wf
    · cases h)
theorem wf_one {k p : Int} {x : Vl} (h : x.Wf) (hk : -9223372036854775808 ≤ k ∧ k ≤ 9223372036854775807) (hp : -9223372036854775808 ≤ p ∧ p ≤ 9223372036854775807) : (Vl.mk k 0 .empty p [x]).Wf := .mk _ _ _ _ _ hk (by omega) hp (fun y h2 => by
  rcases List.mem_cons.1 h2 with rfl | h2
  · exact h
  · cases h2)
theorem wr1 : vFr.wr (.mk 8 0 .empty 0 [vStar]) = some [2, 7, 7] := by decide +kernel
theorem wr2 : vDot.wr (.mk 2 8 .empty 0 []) = none := by decide +kernel
theorem wr3 : vSt.wr vSeven = none := by decide +kernel
theorem wr4 : vSt.wr (.mk 6 0 .empty 0 []) = some [] := by decide +kernel
theorem wr5 : vWd.wr (.mk 9 0 .empty 0 [vStar]) = some [0, 2, 7, 7] := by decide +kernel
theorem wrS {gl} {t : T} {v : Vl} {o : Option (List UInt8)} (hl : t.n ≤ 1048576) (hok : t.ok txtOk) (hc : t.cok) (hv : v.bulk ≤ 1048577) (hwf : v.Wf) (h : t.wr v = o) : PCon Try.prog gl 16 [desc (t.flat 0), val v] (resW o) := h ▸ c_vWrite hl hok hc hv hwf
@[go_sem] def lv12 : List (Nat × List Nat) := [(0, []), (1, [1]), (2, [1, 2]), (3, [1, 2, 3]), (4, [1, 2, 3, 4]), (5, [1, 2, 3, 4, 5]), (6, [1, 2, 4, 5, 6, 7]), (7, [2, 4, 5, 6, 7, 9]), (8, [2, 4, 5, 6, 7, 9, 11]), (9, [2, 4, 5, 6, 7, 9, 11, 12, 13]), (10, [4, 5, 6, 7, 9, 11, 12, 13, 14, 15]), (11, [0])]
def bs12 : List (Nat × List Nat × List Nat) := [(10, [0, 1, 0, 4, 12, 31, 63, 127, 127, 255, 1023], [5])]
set_option maxRecDepth 4000 in
set_option maxHeartbeats 2000000 in
theorem c_awake11 {gl} : PCon Try.prog gl 12 [] (.bool true) := by
  have s1 := wrS (gl := gl) (t := vFr) (v := .mk 8 0 .empty 0 [vStar]) (by decide) vFr_ok vDot_c (by decide +kernel) (wf_one vStar_wf (by omega) (by omega)) wr1
  have s2 := wrS (gl := gl) (t := vDot) (v := .mk 2 8 .empty 0 []) (by decide) vDot_ok vDot_c (by decide +kernel) (.mk _ _ _ _ _ (by omega) (by omega) (by omega) (fun x h => by cases h)) wr2
  have s3 := wrS (gl := gl) (t := vSt) (v := vSeven) (by decide) vSt_ok vDot_c (by decide +kernel) vSeven_wf wr3
  have s4 := wrS (gl := gl) (t := vSt) (v := .mk 6 0 .empty 0 []) (by decide) vSt_ok vDot_c (by decide +kernel) (.mk _ _ _ _ _ (by omega) (by omega) (by omega) (fun x h => by cases h)) wr4
  have s5 := wrS (gl := gl) (t := vWd) (v := .mk 9 0 .empty 0 [vStar]) (by decide) vWd_ok vDot_c (by decide +kernel) (wf_one vStar_wf (by omega) (by omega)) wr5
  have q1 : PCon Try.prog gl 26 [.int .i64 6, .int .i64 0, .int .i64 0, desc (vDot.flat 0)] (desc (vSt.flat 0)) := c_wrap (by decide) vDot_ok
  have q2 : PCon Try.prog gl 26 [.int .i64 8, .int .i64 0, .int .i64 0, desc (vSt.flat 0)] (desc (vFr.flat 0)) := c_wrap (by decide) vSt_ok
  have q3 : PCon Try.prog gl 26 [.int .i64 9, .int .i64 0, .int .i64 0, desc (vSt.flat 0)] (desc (vWd.flat 0)) := c_wrap (by decide) vSt_ok
  have e1 : PCon Try.prog gl 19 [val vStar, val vStar] (.bool true) := c_same vStar (by decide +kernel) vStar
  have e2 : PCon Try.prog gl 19 [val vStar, val vSeven] (.bool false) := c_same vStar (by decide +kernel) vSeven
  have e3 : PCon Try.prog gl 21 [val vStar] (.int .i64 3) := c_many vStar (by decide +kernel)
  have b1 : PCon Try.prog gl 18 [bys [2, 7, 7], bys [2, 7, 7]] (.bool true) := c_bytes (by decide)
  have b2 : PCon Try.prog gl 18 [bys [0, 2, 7, 7], bys [0, 2, 7, 7]] (.bool true) := c_bytes (by decide)
  refine PCon.enter tb_ok (fn := Try.f12) (by kernel_rfl) (by kernel_rfl) rfl (by show 0 ≤ 110; decide) ?_
  repeat' first | refine Z1 fun _ _ => ?_ | refine Z2 ‹_› ?_ | ((first | refine Z3 tb_ok lv12 rfl ?_ | refine Z4 tb_ok mix lv12 bs12 rfl (by kernel_rfl) rfl ?_ | refine ret_eq rfl ?_); simp only [↓reduceIte, reduceCtorEq, reduceEqDiff, reduceAdd, reduceMul, reduceSub, reduceLeDiff, reduceEq, reduceLT, reduceLE, go_sem]) | refine Z8 ?_ | refine Zc ‹_› trivial ?_ | refine touch_go rfl ?_ | refine eff_go rfl ?_ | fail
  refine call_pure rfl rfl (sevenRow) ?_; simp only [↓reduceIte, reduceCtorEq, reduceEqDiff, reduceAdd, reduceMul, reduceSub, reduceLeDiff, reduceEq, reduceLT, reduceLE, go_sem]
  refine Cut.go ‹_› ?_; refine .freeze 3 rfl rfl ?_; simp only [↓reduceIte, reduceCtorEq, reduceEqDiff, reduceAdd, reduceMul, reduceSub, reduceLeDiff, reduceEq, reduceLT, reduceLE, go_sem]
  repeat' first | refine Z1 fun _ _ => ?_ | refine Z2 ‹_› ?_ | ((first | refine Z3 tb_ok lv12 rfl ?_ | refine Z4 tb_ok mix lv12 bs12 rfl (by kernel_rfl) rfl ?_ | refine ret_eq rfl ?_); simp only [↓reduceIte, reduceCtorEq, reduceEqDiff, reduceAdd, reduceMul, reduceSub, reduceLeDiff, reduceEq, reduceLT, reduceLE, go_sem]) | refine Z8 ?_ | refine Zc ‹_› trivial ?_ | refine touch_go rfl ?_ | refine eff_go rfl ?_ | fail
  refine call_pure rfl rfl (q1) ?_; simp only [↓reduceIte, reduceCtorEq, reduceEqDiff, reduceAdd, reduceMul, reduceSub, reduceLeDiff, reduceEq, reduceLT, reduceLE, go_sem]
  repeat' first | refine Z1 fun _ _ => ?_ | refine Z2 ‹_› ?_ | ((first | refine Z3 tb_ok lv12 rfl ?_ | refine Z4 tb_ok mix lv12 bs12 rfl (by kernel_rfl) rfl ?_ | refine ret_eq rfl ?_); simp only [↓reduceIte, reduceCtorEq, reduceEqDiff, reduceAdd, reduceMul, reduceSub, reduceLeDiff, reduceEq, reduceLT, reduceLE, go_sem]) | refine Z8 ?_ | refine Zc ‹_› trivial ?_ | refine touch_go rfl ?_ | refine eff_go rfl ?_ | fail
  refine call_pure rfl rfl (q2) ?_; simp only [↓reduceIte, reduceCtorEq, reduceEqDiff, reduceAdd, reduceMul, reduceSub, reduceLeDiff, reduceEq, reduceLT, reduceLE, go_sem]
  refine Z2 ‹_› ?_
  repeat' first | refine Z1 fun _ _ => ?_ | ((first | refine Z3 tb_ok lv12 rfl ?_ | refine Z4 tb_ok mix lv12 bs12 rfl (by kernel_rfl) rfl ?_ | refine ret_eq rfl ?_); simp only [↓reduceIte, reduceCtorEq, reduceEqDiff, reduceAdd, reduceMul, reduceSub, reduceLeDiff, reduceEq, reduceLT, reduceLE, go_sem]) | refine Z8 ?_ | refine Zc ‹_› trivial ?_ | refine touch_go rfl ?_ | refine eff_go rfl ?_ | fail
  refine Cut.go ‹_› ?_; refine .norm 16 rfl ?_; simp only [↓reduceIte, reduceCtorEq, reduceEqDiff, reduceAdd, reduceMul, reduceSub, reduceLeDiff, reduceEq, reduceLT, reduceLE, go_sem]
  repeat' first | refine Z1 fun _ _ => ?_ | ((first | refine Z3 tb_ok lv12 rfl ?_ | refine Z4 tb_ok mix lv12 bs12 rfl (by kernel_rfl) rfl ?_ | refine ret_eq rfl ?_); simp only [↓reduceIte, reduceCtorEq, reduceEqDiff, reduceAdd, reduceMul, reduceSub, reduceLeDiff, reduceEq, reduceLT, reduceLE, go_sem]) | refine Z8 ?_ | refine Zc ‹_› trivial ?_ | refine touch_go rfl ?_ | refine eff_go rfl ?_ | fail
  refine Cut.go ‹_› ?_; refine .freeze 20 rfl rfl ?_; simp only [↓reduceIte, reduceCtorEq, reduceEqDiff, reduceAdd, reduceMul, reduceSub, reduceLeDiff, reduceEq, reduceLT, reduceLE, go_sem]
  repeat' first | refine Z1 fun _ _ => ?_ | refine Z2 ‹_› ?_ | ((first | refine Z3 tb_ok lv12 rfl ?_ | refine Z4 tb_ok mix lv12 bs12 rfl (by kernel_rfl) rfl ?_ | refine ret_eq rfl ?_); simp only [↓reduceIte, reduceCtorEq, reduceEqDiff, reduceAdd, reduceMul, reduceSub, reduceLeDiff, reduceEq, reduceLT, reduceLE, go_sem]) | refine Z8 ?_ | refine Zc ‹_› trivial ?_ | refine touch_go rfl ?_ | refine eff_go rfl ?_ | fail
  refine call_pure rfl rfl (s1) ?_; simp only [↓reduceIte, reduceCtorEq, reduceEqDiff, reduceAdd, reduceMul, reduceSub, reduceLeDiff, reduceEq, reduceLT, reduceLE, go_sem]
  repeat' first | refine Z1 fun _ _ => ?_ | refine Z2 ‹_› ?_ | ((first | refine Z3 tb_ok lv12 rfl ?_ | refine Z4 tb_ok mix lv12 bs12 rfl (by kernel_rfl) rfl ?_ | refine ret_eq rfl ?_); simp only [↓reduceIte, reduceCtorEq, reduceEqDiff, reduceAdd, reduceMul, reduceSub, reduceLeDiff, reduceEq, reduceLT, reduceLE, go_sem]) | refine Z8 ?_ | refine Zc ‹_› trivial ?_ | refine touch_go rfl ?_ | refine eff_go rfl ?_ | fail
  refine call_pure rfl rfl (s2) ?_; simp only [↓reduceIte, reduceCtorEq, reduceEqDiff, reduceAdd, reduceMul, reduceSub, reduceLeDiff, reduceEq, reduceLT, reduceLE, go_sem]
  repeat' first | refine Z1 fun _ _ => ?_ | refine Z2 ‹_› ?_ | ((first | refine Z3 tb_ok lv12 rfl ?_ | refine Z4 tb_ok mix lv12 bs12 rfl (by kernel_rfl) rfl ?_ | refine ret_eq rfl ?_); simp only [↓reduceIte, reduceCtorEq, reduceEqDiff, reduceAdd, reduceMul, reduceSub, reduceLeDiff, reduceEq, reduceLT, reduceLE, go_sem]) | refine Z8 ?_ | refine Zc ‹_› trivial ?_ | refine touch_go rfl ?_ | refine eff_go rfl ?_ | fail
  refine call_pure rfl rfl (s3) ?_; simp only [↓reduceIte, reduceCtorEq, reduceEqDiff, reduceAdd, reduceMul, reduceSub, reduceLeDiff, reduceEq, reduceLT, reduceLE, go_sem]
  repeat' first | refine Z1 fun _ _ => ?_ | refine Z2 ‹_› ?_ | ((first | refine Z3 tb_ok lv12 rfl ?_ | refine Z4 tb_ok mix lv12 bs12 rfl (by kernel_rfl) rfl ?_ | refine ret_eq rfl ?_); simp only [↓reduceIte, reduceCtorEq, reduceEqDiff, reduceAdd, reduceMul, reduceSub, reduceLeDiff, reduceEq, reduceLT, reduceLE, go_sem]) | refine Z8 ?_ | refine Zc ‹_› trivial ?_ | refine touch_go rfl ?_ | refine eff_go rfl ?_ | fail
  refine call_pure rfl rfl (s4) ?_; simp only [↓reduceIte, reduceCtorEq, reduceEqDiff, reduceAdd, reduceMul, reduceSub, reduceLeDiff, reduceEq, reduceLT, reduceLE, go_sem]
  repeat' first | refine Z1 fun _ _ => ?_ | refine Z2 ‹_› ?_ | ((first | refine Z3 tb_ok lv12 rfl ?_ | refine Z4 tb_ok mix lv12 bs12 rfl (by kernel_rfl) rfl ?_ | refine ret_eq rfl ?_); simp only [↓reduceIte, reduceCtorEq, reduceEqDiff, reduceAdd, reduceMul, reduceSub, reduceLeDiff, reduceEq, reduceLT, reduceLE, go_sem]) | refine Z8 ?_ | refine Zc ‹_› trivial ?_ | refine touch_go rfl ?_ | refine eff_go rfl ?_ | fail
  refine call_pure rfl rfl (q3) ?_; simp only [↓reduceIte, reduceCtorEq, reduceEqDiff, reduceAdd, reduceMul, reduceSub, reduceLeDiff, reduceEq, reduceLT, reduceLE, go_sem]
  repeat' first | refine Z1 fun _ _ => ?_ | refine Z2 ‹_› ?_ | ((first | refine Z3 tb_ok lv12 rfl ?_ | refine Z4 tb_ok mix lv12 bs12 rfl (by kernel_rfl) rfl ?_ | refine ret_eq rfl ?_); simp only [↓reduceIte, reduceCtorEq, reduceEqDiff, reduceAdd, reduceMul, reduceSub, reduceLeDiff, reduceEq, reduceLT, reduceLE, go_sem]) | refine Z8 ?_ | refine Zc ‹_› trivial ?_ | refine touch_go rfl ?_ | refine eff_go rfl ?_ | fail
  refine call_pure rfl rfl (s5) ?_; simp only [↓reduceIte, reduceCtorEq, reduceEqDiff, reduceAdd, reduceMul, reduceSub, reduceLeDiff, reduceEq, reduceLT, reduceLE, go_sem]
  repeat' first | refine Z1 fun _ _ => ?_ | refine Z2 ‹_› ?_ | ((first | refine Z3 tb_ok lv12 rfl ?_ | refine Z4 tb_ok mix lv12 bs12 rfl (by kernel_rfl) rfl ?_ | refine ret_eq rfl ?_); simp only [↓reduceIte, reduceCtorEq, reduceEqDiff, reduceAdd, reduceMul, reduceSub, reduceLeDiff, reduceEq, reduceLT, reduceLE, go_sem]) | refine Z8 ?_ | refine Zc ‹_› trivial ?_ | refine touch_go rfl ?_ | refine eff_go rfl ?_ | fail
  refine call_pure rfl rfl (b1) ?_; simp only [↓reduceIte, reduceCtorEq, reduceEqDiff, reduceAdd, reduceMul, reduceSub, reduceLeDiff, reduceEq, reduceLT, reduceLE, go_sem]
  simp only [↓reduceIte, reduceCtorEq, reduceEqDiff, reduceAdd, reduceMul, reduceSub, reduceLeDiff, reduceEq, reduceLT, reduceLE, go_sem, Option.isSome_none, Option.isSome_some, Option.getD_some, List.length_nil]
  repeat' first | refine Z1 fun _ _ => ?_ | refine Z2 ‹_› ?_ | ((first | refine Z3 tb_ok lv12 rfl ?_ | refine Z4 tb_ok mix lv12 bs12 rfl (by kernel_rfl) rfl ?_ | refine ret_eq rfl ?_); simp only [↓reduceIte, reduceCtorEq, reduceEqDiff, reduceAdd, reduceMul, reduceSub, reduceLeDiff, reduceEq, reduceLT, reduceLE, go_sem]) | refine Z8 ?_ | refine Zc ‹_› trivial ?_ | refine touch_go rfl ?_ | refine eff_go rfl ?_ | fail
  simp only [↓reduceIte, reduceCtorEq, reduceEqDiff, reduceAdd, reduceMul, reduceSub, reduceLeDiff, reduceEq, reduceLT, reduceLE, go_sem, Int.ofNat_zero, Int.natCast_zero, Int.cast_ofNat_Int]
  repeat' first | refine Z1 fun _ _ => ?_ | refine Z2 ‹_› ?_ | ((first | refine Z3 tb_ok lv12 rfl ?_ | refine Z4 tb_ok mix lv12 bs12 rfl (by kernel_rfl) rfl ?_ | refine ret_eq rfl ?_); simp only [↓reduceIte, reduceCtorEq, reduceEqDiff, reduceAdd, reduceMul, reduceSub, reduceLeDiff, reduceEq, reduceLT, reduceLE, go_sem]) | refine Z8 ?_ | refine Zc ‹_› trivial ?_ | refine touch_go rfl ?_ | refine eff_go rfl ?_ | fail
  refine call_pure rfl rfl (b2) ?_; simp only [↓reduceIte, reduceCtorEq, reduceEqDiff, reduceAdd, reduceMul, reduceSub, reduceLeDiff, reduceEq, reduceLT, reduceLE, go_sem]
  repeat' first | refine Z1 fun _ _ => ?_ | refine Z2 ‹_› ?_ | ((first | refine Z3 tb_ok lv12 rfl ?_ | refine Z4 tb_ok mix lv12 bs12 rfl (by kernel_rfl) rfl ?_ | refine ret_eq rfl ?_); simp only [↓reduceIte, reduceCtorEq, reduceEqDiff, reduceAdd, reduceMul, reduceSub, reduceLeDiff, reduceEq, reduceLT, reduceLE, go_sem]) | refine Z8 ?_ | refine Zc ‹_› trivial ?_ | refine touch_go rfl ?_ | refine eff_go rfl ?_ | fail
  refine call_pure rfl rfl (e1) ?_; simp only [↓reduceIte, reduceCtorEq, reduceEqDiff, reduceAdd, reduceMul, reduceSub, reduceLeDiff, reduceEq, reduceLT, reduceLE, go_sem]
  repeat' first | refine Z1 fun _ _ => ?_ | refine Z2 ‹_› ?_ | ((first | refine Z3 tb_ok lv12 rfl ?_ | refine Z4 tb_ok mix lv12 bs12 rfl (by kernel_rfl) rfl ?_ | refine ret_eq rfl ?_); simp only [↓reduceIte, reduceCtorEq, reduceEqDiff, reduceAdd, reduceMul, reduceSub, reduceLeDiff, reduceEq, reduceLT, reduceLE, go_sem]) | refine Z8 ?_ | refine Zc ‹_› trivial ?_ | refine touch_go rfl ?_ | refine eff_go rfl ?_ | fail
  refine call_pure rfl rfl (e2) ?_; simp only [↓reduceIte, reduceCtorEq, reduceEqDiff, reduceAdd, reduceMul, reduceSub, reduceLeDiff, reduceEq, reduceLT, reduceLE, go_sem]
  repeat' first | refine Z1 fun _ _ => ?_ | refine Z2 ‹_› ?_ | ((first | refine Z3 tb_ok lv12 rfl ?_ | refine Z4 tb_ok mix lv12 bs12 rfl (by kernel_rfl) rfl ?_ | refine ret_eq rfl ?_); simp only [↓reduceIte, reduceCtorEq, reduceEqDiff, reduceAdd, reduceMul, reduceSub, reduceLeDiff, reduceEq, reduceLT, reduceLE, go_sem]) | refine Z8 ?_ | refine Zc ‹_› trivial ?_ | refine touch_go rfl ?_ | refine eff_go rfl ?_ | fail
  refine call_pure rfl rfl (e3) ?_; simp only [↓reduceIte, reduceCtorEq, reduceEqDiff, reduceAdd, reduceMul, reduceSub, reduceLeDiff, reduceEq, reduceLT, reduceLE, go_sem]
  repeat' first | refine Z1 fun _ _ => ?_ | refine Z2 ‹_› ?_ | ((first | refine Z3 tb_ok lv12 rfl ?_ | refine Z4 tb_ok mix lv12 bs12 rfl (by kernel_rfl) rfl ?_ | refine ret_eq rfl ?_); simp only [↓reduceIte, reduceCtorEq, reduceEqDiff, reduceAdd, reduceMul, reduceSub, reduceLeDiff, reduceEq, reduceLT, reduceLE, go_sem]) | refine Z8 ?_ | refine Zc ‹_› trivial ?_ | refine touch_go rfl ?_ | refine eff_go rfl ?_ | fail
end Go.Proofs.Ytpibdbjlilpfiaa
