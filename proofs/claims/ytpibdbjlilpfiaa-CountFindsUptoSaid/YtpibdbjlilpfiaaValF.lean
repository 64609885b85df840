/- scantlingref11.At (printed by wip/gen/valf.py). -/
import Derived.Test.YtpibdbjlilpfiaaValK
namespace Go.Proofs.Ytpibdbjlilpfiaa
set_option linter.all false
open Go Go.RowKit
open Nat (reduceEqDiff reduceAdd reduceMul reduceSub reduceLeDiff)
open Int (reduceEq reduceLT reduceLE)

@[go_sem] def lv38 : List (Nat × List Nat) := [(0, [1, 3, 5]), (1, [3, 5, 8]), (2, [3, 5, 8, 9]), (3, [3, 5, 8, 9, 29]), (4, [3, 5, 8, 9, 29, 30]), (5, [6, 7]), (6, [3, 5, 8, 9, 29, 34]), (7, [5, 48]), (8, [6, 7]), (9, [6, 7]), (10, [3, 5, 8, 9, 29, 52]), (11, [8, 58]), (12, [6, 7]), (13, [6, 7]), (14, [3, 5, 8, 9, 29, 62]), (15, [3, 5, 8, 66]), (16, [6, 7]), (17, [3, 5, 8, 10, 11]), (18, [10, 11, 12, 13]), (19, [10, 12, 94]), (20, [6, 7]), (21, [6, 7]), (22, [3, 5, 8, 9, 29, 100]), (23, [3, 5, 8, 103]), (24, [6, 7]), (25, [3, 5, 8, 115]), (26, [6, 7]), (27, [6, 7]), (28, [3, 5, 8, 9, 29, 126]), (29, [3, 5, 8, 9, 126]), (30, [3, 5, 8, 9, 151]), (31, [6, 7]), (32, [3, 5, 8, 9, 14]), (33, [3, 5, 8, 9, 14, 15]), (34, [3, 5, 8, 9, 14, 15, 155]), (35, [3, 5, 8, 9, 14, 15]), (36, [3, 5, 8, 9, 14, 15, 16, 17]), (37, [3, 5, 8, 9, 14, 15, 16, 176]), (38, [6, 7]), (39, [3, 5, 8, 9, 14, 15]), (40, [6, 7]), (41, [3, 5, 8, 185]), (42, [6, 7]), (43, [8, 18, 19]), (44, [8, 18, 213]), (45, [6, 7]), (46, [18, 216]), (47, [6, 7]), (48, [6, 7])]
def bs38 : List (Nat × List Nat × List Nat) := [(17, [0, 0, 2, 0, 8, 24, 56, 127, 255, 511, 511, 1023, 4095], [7]), (18, [0, 0, 2, 0, 8, 24, 56, 127, 255, 511, 511, 1023, 4095], [7]), (24, [0, 0, 2, 0, 8, 24, 56, 127, 255, 255, 1023, 2047], [7]), (26, [0, 0, 2, 0, 8, 24, 56, 127, 255, 255, 1023, 2047], [7]), (36, [0, 0, 2, 0, 8, 0, 56, 120, 255, 511, 1023, 1023, 2047, 8191], [8]), (43, [0, 0, 2, 0, 8, 24, 56, 127, 255, 511, 511, 1023, 4095], [7])]
/-- What is proved of a part. -/
def AtC (gl : GL) (l : List Nd) (off : Nat) (t : T) : Prop := ∀ v : Vl, v.bulk ≤ 1048577 → v.Wf → PCon Try.prog gl 38 [desc l, .int .i64 (off + (t.n - 1) : Nat), val v] (resW (t.wr v))
theorem len_isEmpty {v : Vl} : decide ((v.kids.length : Int) = 0) = v.kids.isEmpty := by
  cases hk : v.kids with
  | nil => rfl
  | cons x r => simp; omega
theorem enc_one {l : List UInt8} : ∀ e ∈ l.map encB, e.length = 1 := fun e he => by
  obtain ⟨n, _, rfl⟩ := List.mem_map.1 he
  rfl
theorem res_none (o : Option (List UInt8)) (h : o = none) : resW o = .tup [.slice [], .bool false] := by subst h; rfl
theorem res_some (o : Option (List UInt8)) (p : List UInt8) (h : o = some p) : resW o = .tup [.slice (p.map encB), .bool true] := by subst h; rfl
set_option maxRecDepth 4000 in
set_option maxHeartbeats 1000000 in
theorem c_atA {gl} {l : List Nd} (hl : l.length ≤ 1048576) {off : Nat} (hs : Sits l off (T.void)) : AtC gl l off (T.void) := by
  intro v hv hwf
  have hp := T.n_pos (T.void)
  have hr := hs.getD Nd.z
  have hlt := hs.lt
  have hb0 := c_plain (gl := gl) (v := v) (k := 1) (b := 0) (t := .empty) (p := 0) (n := 0)
  have hw : T.void.wr v = if v.plain 1 0 .empty 0 && v.kids.isEmpty then some [] else none := by rw [T.wr.eq_def]
  rw [← len_isEmpty] at hw
  cases h1 : (v.plain 1 0 .empty 0 && decide ((v.kids.length : Int) = 0))
  all_goals
    rw [h1] at hw hb0
    rw [hw]
    refine PCon.enter tb_ok (fn := Try.f38) (by kernel_rfl) (by kernel_rfl) rfl (by show 3 ≤ 234; decide) ?_
    repeat' first | refine Z1 fun _ _ => ?_ | refine Z2 ‹_› ?_ | ((first | refine Z3 tb_ok lv38 rfl ?_ | refine Z4 tb_ok mix lv38 bs38 rfl (by kernel_rfl) rfl ?_ | refine Zr rfl ?_); simp only [↓reduceIte, reduceCtorEq, reduceEqDiff, reduceAdd, reduceMul, reduceSub, reduceLeDiff, reduceEq, reduceLT, reduceLE, go_sem]) | (refine Z5 rfl ?_; with_reducible first | refine ZT ?_ | refine ZF ?_) | refine ZS rfl ?_ | refine Z9 fun _ _ => ?_ | refine ZH ?_ | refine Zl ‹_› (by decide) ?_ | refine Zo rfl ?_ | refine Zp rfl ?_ | refine Zn rfl ?_ | fail
    refine idx_map Nd.z rfl rfl rfl rfl rfl (by omega) (by omega) rfl ?_
    simp only [Int.toNat_natCast, hr, T.root]
    simp only [↓reduceIte, reduceCtorEq, reduceEqDiff, reduceAdd, reduceMul, reduceSub, reduceLeDiff, reduceEq, reduceLT, reduceLE, go_sem]
    repeat' first | refine Z1 fun _ _ => ?_ | refine Z2 ‹_› ?_ | ((first | refine Z3 tb_ok lv38 rfl ?_ | refine Z4 tb_ok mix lv38 bs38 rfl (by kernel_rfl) rfl ?_ | refine Zr rfl ?_); simp only [↓reduceIte, reduceCtorEq, reduceEqDiff, reduceAdd, reduceMul, reduceSub, reduceLeDiff, reduceEq, reduceLT, reduceLE, go_sem]) | (refine Z5 rfl ?_; with_reducible first | refine ZT ?_ | refine ZF ?_) | refine ZS rfl ?_ | refine Z9 fun _ _ => ?_ | refine ZH ?_ | refine Zl ‹_› (by decide) ?_ | refine Zo rfl ?_ | refine Zp rfl ?_ | refine Zn rfl ?_ | fail
    refine call_pure rfl rfl (hb0) ?_; simp only [↓reduceIte, reduceCtorEq, reduceEqDiff, reduceAdd, reduceMul, reduceSub, reduceLeDiff, reduceEq, reduceLT, reduceLE, go_sem]
    repeat' first | refine Z1 fun _ _ => ?_ | refine Z2 ‹_› ?_ | ((first | refine Z3 tb_ok lv38 rfl ?_ | refine Z4 tb_ok mix lv38 bs38 rfl (by kernel_rfl) rfl ?_ | refine Zr rfl ?_); simp only [↓reduceIte, reduceCtorEq, reduceEqDiff, reduceAdd, reduceMul, reduceSub, reduceLeDiff, reduceEq, reduceLT, reduceLE, go_sem]) | (refine Z5 rfl ?_; with_reducible first | refine ZT ?_ | refine ZF ?_) | refine ZS rfl ?_ | refine Z9 fun _ _ => ?_ | refine ZH ?_ | refine Zl ‹_› (by decide) ?_ | refine Zo rfl ?_ | refine Zp rfl ?_ | refine Zn rfl ?_ | fail
    first | done | rfl
set_option maxRecDepth 4000 in
set_option maxHeartbeats 1000000 in
theorem c_atB {gl} {l : List Nd} (hl : l.length ≤ 1048576) {off : Nat} {c0 c1 c2 c3 : Int} (hck : (T.bytes c0 c1 c2 c3).cok) (hs : Sits l off (T.bytes c0 c1 c2 c3)) : AtC gl l off (T.bytes c0 c1 c2 c3) := by
  intro v hv hwf
  have hp := T.n_pos (T.bytes c0 c1 c2 c3)
  have hr := hs.getD Nd.z
  have hlt := hs.lt
  have hb0 := c_plain (gl := gl) (v := v) (k := 2) (b := v.byte) (t := .empty) (p := 0) (n := 0)
  have hh := c_rhas (gl := gl) (b := v.byte) hck.1 hck.2.1 hck.2.2.1 hck.2.2.2 hwf.byte
  have hw : (T.bytes c0 c1 c2 c3).wr v = if v.plain 2 v.byte .empty 0 && v.kids.isEmpty && clsHas c0 c1 c2 c3 v.byte then some [byteOf v.byte] else none := by rw [T.wr.eq_def]
  rw [← len_isEmpty] at hw
  cases h1 : (v.plain 2 v.byte .empty 0 && decide ((v.kids.length : Int) = 0)) <;> cases h3 : clsHas c0 c1 c2 c3 v.byte
  all_goals
    rw [h3] at hh
    rw [h1, h3] at hw
    rw [h1] at hb0
    rw [hw]
    refine PCon.enter tb_ok (fn := Try.f38) (by kernel_rfl) (by kernel_rfl) rfl (by show 3 ≤ 234; decide) ?_
    repeat' first | refine Z1 fun _ _ => ?_ | refine Z2 ‹_› ?_ | ((first | refine Z3 tb_ok lv38 rfl ?_ | refine Z4 tb_ok mix lv38 bs38 rfl (by kernel_rfl) rfl ?_ | refine Zr rfl ?_); simp only [↓reduceIte, reduceCtorEq, reduceEqDiff, reduceAdd, reduceMul, reduceSub, reduceLeDiff, reduceEq, reduceLT, reduceLE, go_sem]) | (refine Z5 rfl ?_; with_reducible first | refine ZT ?_ | refine ZF ?_) | refine ZS rfl ?_ | refine Z9 fun _ _ => ?_ | refine ZH ?_ | refine Zl ‹_› (by decide) ?_ | refine Zo rfl ?_ | refine Zp rfl ?_ | refine Zn rfl ?_ | fail
    refine idx_map Nd.z rfl rfl rfl rfl rfl (by omega) (by omega) rfl ?_
    simp only [Int.toNat_natCast, hr, T.root]
    simp only [↓reduceIte, reduceCtorEq, reduceEqDiff, reduceAdd, reduceMul, reduceSub, reduceLeDiff, reduceEq, reduceLT, reduceLE, go_sem]
    repeat' first | refine Z1 fun _ _ => ?_ | refine Z2 ‹_› ?_ | ((first | refine Z3 tb_ok lv38 rfl ?_ | refine Z4 tb_ok mix lv38 bs38 rfl (by kernel_rfl) rfl ?_ | refine Zr rfl ?_); simp only [↓reduceIte, reduceCtorEq, reduceEqDiff, reduceAdd, reduceMul, reduceSub, reduceLeDiff, reduceEq, reduceLT, reduceLE, go_sem]) | (refine Z5 rfl ?_; with_reducible first | refine ZT ?_ | refine ZF ?_) | refine ZS rfl ?_ | refine Z9 fun _ _ => ?_ | refine ZH ?_ | refine Zl ‹_› (by decide) ?_ | refine Zo rfl ?_ | refine Zp rfl ?_ | refine Zn rfl ?_ | fail
    refine call_pure rfl rfl (hb0) ?_; simp only [↓reduceIte, reduceCtorEq, reduceEqDiff, reduceAdd, reduceMul, reduceSub, reduceLeDiff, reduceEq, reduceLT, reduceLE, go_sem]
    repeat' first | refine Z1 fun _ _ => ?_ | refine Z2 ‹_› ?_ | ((first | refine Z3 tb_ok lv38 rfl ?_ | refine Z4 tb_ok mix lv38 bs38 rfl (by kernel_rfl) rfl ?_ | refine Zr rfl ?_); simp only [↓reduceIte, reduceCtorEq, reduceEqDiff, reduceAdd, reduceMul, reduceSub, reduceLeDiff, reduceEq, reduceLT, reduceLE, go_sem]) | (refine Z5 rfl ?_; with_reducible first | refine ZT ?_ | refine ZF ?_) | refine ZS rfl ?_ | refine Z9 fun _ _ => ?_ | refine ZH ?_ | refine Zl ‹_› (by decide) ?_ | refine Zo rfl ?_ | refine Zp rfl ?_ | refine Zn rfl ?_ | fail
    try
      refine call_pure rfl rfl (hh) ?_; simp only [↓reduceIte, reduceCtorEq, reduceEqDiff, reduceAdd, reduceMul, reduceSub, reduceLeDiff, reduceEq, reduceLT, reduceLE, go_sem]
      repeat' first | refine Z1 fun _ _ => ?_ | refine Z2 ‹_› ?_ | ((first | refine Z3 tb_ok lv38 rfl ?_ | refine Z4 tb_ok mix lv38 bs38 rfl (by kernel_rfl) rfl ?_ | refine Zr rfl ?_); simp only [↓reduceIte, reduceCtorEq, reduceEqDiff, reduceAdd, reduceMul, reduceSub, reduceLeDiff, reduceEq, reduceLT, reduceLE, go_sem]) | (refine Z5 rfl ?_; with_reducible first | refine ZT ?_ | refine ZF ?_) | refine ZS rfl ?_ | refine Z9 fun _ _ => ?_ | refine ZH ?_ | refine Zl ‹_› (by decide) ?_ | refine Zo rfl ?_ | refine Zp rfl ?_ | refine Zn rfl ?_ | fail
    first | done | rfl | exact congrArg (fun z => D.tup [D.slice [z], D.bool true]) (encB_byteOf hwf.byte.1 hwf.byte.2).symm
set_option maxRecDepth 4000 in
set_option maxHeartbeats 1000000 in
theorem c_atC {gl} {l : List Nd} (hl : l.length ≤ 1048576) {off : Nat} {s : ByteArray} (hs : Sits l off (T.text s)) : AtC gl l off (T.text s) := by
  intro v hv hwf
  have hp := T.n_pos (T.text s)
  have hr := hs.getD Nd.z
  have hlt := hs.lt
  have hb0 := c_plain (gl := gl) (v := v) (k := 3) (b := 0) (t := s) (p := 0) (n := 0)
  have hw : (T.text s).wr v = if v.plain 3 0 s 0 && v.kids.isEmpty then some s.data.toList else none := by rw [T.wr.eq_def]
  rw [← len_isEmpty] at hw
  cases h1 : (v.plain 3 0 s 0 && decide ((v.kids.length : Int) = 0))
  all_goals
    rw [h1] at hw hb0
    rw [hw]
    refine PCon.enter tb_ok (fn := Try.f38) (by kernel_rfl) (by kernel_rfl) rfl (by show 3 ≤ 234; decide) ?_
    repeat' first | refine Z1 fun _ _ => ?_ | refine Z2 ‹_› ?_ | ((first | refine Z3 tb_ok lv38 rfl ?_ | refine Z4 tb_ok mix lv38 bs38 rfl (by kernel_rfl) rfl ?_ | refine Zr rfl ?_); simp only [↓reduceIte, reduceCtorEq, reduceEqDiff, reduceAdd, reduceMul, reduceSub, reduceLeDiff, reduceEq, reduceLT, reduceLE, go_sem]) | (refine Z5 rfl ?_; with_reducible first | refine ZT ?_ | refine ZF ?_) | refine ZS rfl ?_ | refine Z9 fun _ _ => ?_ | refine ZH ?_ | refine Zl ‹_› (by decide) ?_ | refine Zo rfl ?_ | refine Zp rfl ?_ | refine Zn rfl ?_ | fail
    refine idx_map Nd.z rfl rfl rfl rfl rfl (by omega) (by omega) rfl ?_
    simp only [Int.toNat_natCast, hr, T.root]
    simp only [↓reduceIte, reduceCtorEq, reduceEqDiff, reduceAdd, reduceMul, reduceSub, reduceLeDiff, reduceEq, reduceLT, reduceLE, go_sem]
    repeat' first | refine Z1 fun _ _ => ?_ | refine Z2 ‹_› ?_ | ((first | refine Z3 tb_ok lv38 rfl ?_ | refine Z4 tb_ok mix lv38 bs38 rfl (by kernel_rfl) rfl ?_ | refine Zr rfl ?_); simp only [↓reduceIte, reduceCtorEq, reduceEqDiff, reduceAdd, reduceMul, reduceSub, reduceLeDiff, reduceEq, reduceLT, reduceLE, go_sem]) | (refine Z5 rfl ?_; with_reducible first | refine ZT ?_ | refine ZF ?_) | refine ZS rfl ?_ | refine Z9 fun _ _ => ?_ | refine ZH ?_ | refine Zl ‹_› (by decide) ?_ | refine Zo rfl ?_ | refine Zp rfl ?_ | refine Zn rfl ?_ | fail
    refine call_pure rfl rfl (hb0) ?_; simp only [↓reduceIte, reduceCtorEq, reduceEqDiff, reduceAdd, reduceMul, reduceSub, reduceLeDiff, reduceEq, reduceLT, reduceLE, go_sem]
    repeat' first | refine Z1 fun _ _ => ?_ | refine Z2 ‹_› ?_ | ((first | refine Z3 tb_ok lv38 rfl ?_ | refine Z4 tb_ok mix lv38 bs38 rfl (by kernel_rfl) rfl ?_ | refine Zr rfl ?_); simp only [↓reduceIte, reduceCtorEq, reduceEqDiff, reduceAdd, reduceMul, reduceSub, reduceLeDiff, reduceEq, reduceLT, reduceLE, go_sem]) | (refine Z5 rfl ?_; with_reducible first | refine ZT ?_ | refine ZF ?_) | refine ZS rfl ?_ | refine Z9 fun _ _ => ?_ | refine ZH ?_ | refine Zl ‹_› (by decide) ?_ | refine Zo rfl ?_ | refine Zp rfl ?_ | refine Zn rfl ?_ | fail
    try
      refine ⟨Try.underlying5, ?_⟩
      repeat' first | refine Z1 fun _ _ => ?_ | refine Z2 ‹_› ?_ | ((first | refine Z3 tb_ok lv38 rfl ?_ | refine Z4 tb_ok mix lv38 bs38 rfl (by kernel_rfl) rfl ?_ | refine Zr rfl ?_); simp only [↓reduceIte, reduceCtorEq, reduceEqDiff, reduceAdd, reduceMul, reduceSub, reduceLeDiff, reduceEq, reduceLT, reduceLE, go_sem]) | (refine Z5 rfl ?_; with_reducible first | refine ZT ?_ | refine ZF ?_) | refine ZS rfl ?_ | refine Z9 fun _ _ => ?_ | refine ZH ?_ | refine Zl ‹_› (by decide) ?_ | refine Zo rfl ?_ | refine Zp rfl ?_ | refine Zn rfl ?_ | fail
    first | done | rfl
set_option maxRecDepth 4000 in
set_option maxHeartbeats 1000000 in
theorem c_atD {gl} {l : List Nd} (hl : l.length ≤ 1048576) {off : Nat} {a b : T} (iha : AtC gl l off a) (ihb : AtC gl l (off + a.n) b) (hs : Sits l off (T.two 4 a b)) : AtC gl l off (T.two 4 a b) := by
  intro v hv hwf
  have hp := T.n_pos (T.two 4 a b)
  have hr := hs.getD Nd.z
  have hlt := hs.lt
  have hb0 := c_plain (gl := gl) (v := v) (k := 4) (b := 0) (t := .empty) (p := 0) (n := 2)
  have hw : (T.two 4 a b).wr v = if v.plain 4 0 .empty 0 then (match v.kids with
      | [x, y] => (match a.wr x, b.wr y with
        | some p, some q => some (p ++ q)
        | _, _ => none)
      | _ => none) else none := by rw [T.wr.eq_def]; rfl
  cases h1 : v.plain 4 0 .empty 0 <;> cases h2 : decide ((v.kids.length : Int) = 2)
  all_goals
    rw [h1, h2] at hb0
    simp only [Bool.and_true, Bool.and_false] at hb0
  case true.true =>
    obtain ⟨x, y, hxy⟩ := match_two h2
    have hlen : v.kids.length = 2 := by rw [hxy]; rfl
    have ka := iha _ (kid_bulk hv (i := 0) (by omega)) (hwf.kid (getD_mem (i := 0) (by omega)))
    have kb := ihb _ (kid_bulk hv (i := 1) (by omega)) (hwf.kid (getD_mem (i := 1) (by omega)))
    have gx : v.kids.getD 0 Vl.z = x := by rw [hxy]; rfl
    have gy : v.kids.getD 1 Vl.z = y := by rw [hxy]; rfl
    have hba : ∀ p, a.wr (v.kids.getD 0 Vl.z) = some p → p.length ≤ 4194304 := fun p h => wr_bd (kid_bulk hv (i := 0) (by omega)) h
    have hbb : ∀ p, b.wr (v.kids.getD 1 Vl.z) = some p → p.length ≤ 4194304 := fun p h => wr_bd (kid_bulk hv (i := 1) (by omega)) h
    have hw2 : (T.two 4 a b).wr v = match a.wr (v.kids.getD 0 Vl.z), b.wr (v.kids.getD 1 Vl.z) with
        | some p, some q => some (p ++ q)
        | _, _ => none := by rw [hw, h1, gx, gy, hxy]; rfl
    rw [hw2]
    clear hw hw2 gx gy
    cases ha : a.wr (v.kids.getD 0 Vl.z) <;> cases hb : b.wr (v.kids.getD 1 Vl.z)
    all_goals
      rw [ha] at ka hba
      rw [hb] at kb hbb
      refine PCon.enter tb_ok (fn := Try.f38) (by kernel_rfl) (by kernel_rfl) rfl (by show 3 ≤ 234; decide) ?_
      repeat' first | refine Z1 fun _ _ => ?_ | refine Z2 ‹_› ?_ | ((first | refine Z3 tb_ok lv38 rfl ?_ | refine Z4 tb_ok mix lv38 bs38 rfl (by kernel_rfl) rfl ?_ | refine Zr rfl ?_); simp only [↓reduceIte, reduceCtorEq, reduceEqDiff, reduceAdd, reduceMul, reduceSub, reduceLeDiff, reduceEq, reduceLT, reduceLE, go_sem]) | (refine Z5 rfl ?_; with_reducible first | refine ZT ?_ | refine ZF ?_) | refine ZS rfl ?_ | refine Z9 fun _ _ => ?_ | refine ZH ?_ | refine Zl ‹_› (by decide) ?_ | refine Zo rfl ?_ | refine Zp rfl ?_ | refine Zn rfl ?_ | fail
      refine idx_map Nd.z rfl rfl rfl rfl rfl (by omega) (by omega) rfl ?_
      simp only [Int.toNat_natCast, hr, T.root]
      simp only [↓reduceIte, reduceCtorEq, reduceEqDiff, reduceAdd, reduceMul, reduceSub, reduceLeDiff, reduceEq, reduceLT, reduceLE, go_sem]
      repeat' first | refine Z1 fun _ _ => ?_ | refine Z2 ‹_› ?_ | ((first | refine Z3 tb_ok lv38 rfl ?_ | refine Z4 tb_ok mix lv38 bs38 rfl (by kernel_rfl) rfl ?_ | refine Zr rfl ?_); simp only [↓reduceIte, reduceCtorEq, reduceEqDiff, reduceAdd, reduceMul, reduceSub, reduceLeDiff, reduceEq, reduceLT, reduceLE, go_sem]) | (refine Z5 rfl ?_; with_reducible first | refine ZT ?_ | refine ZF ?_) | refine ZS rfl ?_ | refine Z9 fun _ _ => ?_ | refine ZH ?_ | refine Zl ‹_› (by decide) ?_ | refine Zo rfl ?_ | refine Zp rfl ?_ | refine Zn rfl ?_ | fail
      refine call_pure rfl rfl (hb0) ?_; simp only [↓reduceIte, reduceCtorEq, reduceEqDiff, reduceAdd, reduceMul, reduceSub, reduceLeDiff, reduceEq, reduceLT, reduceLE, go_sem]
      repeat' first | refine Z1 fun _ _ => ?_ | refine Z2 ‹_› ?_ | ((first | refine Z3 tb_ok lv38 rfl ?_ | refine Z4 tb_ok mix lv38 bs38 rfl (by kernel_rfl) rfl ?_ | refine Zr rfl ?_); simp only [↓reduceIte, reduceCtorEq, reduceEqDiff, reduceAdd, reduceMul, reduceSub, reduceLeDiff, reduceEq, reduceLT, reduceLE, go_sem]) | (refine Z5 rfl ?_; with_reducible first | refine ZT ?_ | refine ZF ?_) | refine ZS rfl ?_ | refine Z9 fun _ _ => ?_ | refine ZH ?_ | refine Zl ‹_› (by decide) ?_ | refine Zo rfl ?_ | refine Zp rfl ?_ | refine Zn rfl ?_ | fail
      refine idx_map (j := 0) Vl.z rfl rfl rfl rfl rfl (by omega) (by omega) (Vl.cells_len _) ?_
      simp only [↓reduceIte, reduceCtorEq, reduceEqDiff, reduceAdd, reduceMul, reduceSub, reduceLeDiff, reduceEq, reduceLT, reduceLE, go_sem]
      repeat' first | refine Z1 fun _ _ => ?_ | refine Z2 ‹_› ?_ | ((first | refine Z3 tb_ok lv38 rfl ?_ | refine Z4 tb_ok mix lv38 bs38 rfl (by kernel_rfl) rfl ?_ | refine Zr rfl ?_); simp only [↓reduceIte, reduceCtorEq, reduceEqDiff, reduceAdd, reduceMul, reduceSub, reduceLeDiff, reduceEq, reduceLT, reduceLE, go_sem]) | (refine Z5 rfl ?_; with_reducible first | refine ZT ?_ | refine ZF ?_) | refine ZS rfl ?_ | refine Z9 fun _ _ => ?_ | refine ZH ?_ | refine Zl ‹_› (by decide) ?_ | refine Zo rfl ?_ | refine Zp rfl ?_ | refine Zn rfl ?_ | fail
      refine call_pure rfl rfl (ka) ?_; simp only [↓reduceIte, reduceCtorEq, reduceEqDiff, reduceAdd, reduceMul, reduceSub, reduceLeDiff, reduceEq, reduceLT, reduceLE, go_sem]
      repeat' first | refine Z1 fun _ _ => ?_ | refine Z2 ‹_› ?_ | ((first | refine Z3 tb_ok lv38 rfl ?_ | refine Z4 tb_ok mix lv38 bs38 rfl (by kernel_rfl) rfl ?_ | refine Zr rfl ?_); simp only [↓reduceIte, reduceCtorEq, reduceEqDiff, reduceAdd, reduceMul, reduceSub, reduceLeDiff, reduceEq, reduceLT, reduceLE, go_sem]) | (refine Z5 rfl ?_; with_reducible first | refine ZT ?_ | refine ZF ?_) | refine ZS rfl ?_ | refine Z9 fun _ _ => ?_ | refine ZH ?_ | refine Zl ‹_› (by decide) ?_ | refine Zo rfl ?_ | refine Zp rfl ?_ | refine Zn rfl ?_ | fail
      refine idx_map (j := 1) Vl.z rfl rfl rfl rfl rfl (by omega) (by omega) (Vl.cells_len _) ?_
      simp only [↓reduceIte, reduceCtorEq, reduceEqDiff, reduceAdd, reduceMul, reduceSub, reduceLeDiff, reduceEq, reduceLT, reduceLE, go_sem]
      repeat' first | refine Z1 fun _ _ => ?_ | refine Z2 ‹_› ?_ | ((first | refine Z3 tb_ok lv38 rfl ?_ | refine Z4 tb_ok mix lv38 bs38 rfl (by kernel_rfl) rfl ?_ | refine Zr rfl ?_); simp only [↓reduceIte, reduceCtorEq, reduceEqDiff, reduceAdd, reduceMul, reduceSub, reduceLeDiff, reduceEq, reduceLT, reduceLE, go_sem]) | (refine Z5 rfl ?_; with_reducible first | refine ZT ?_ | refine ZF ?_) | refine ZS rfl ?_ | refine Z9 fun _ _ => ?_ | refine ZH ?_ | refine Zl ‹_› (by decide) ?_ | refine Zo rfl ?_ | refine Zp rfl ?_ | refine Zn rfl ?_ | fail
      refine call_pure rfl rfl (kb) ?_; simp only [↓reduceIte, reduceCtorEq, reduceEqDiff, reduceAdd, reduceMul, reduceSub, reduceLeDiff, reduceEq, reduceLT, reduceLE, go_sem]
      repeat' first | refine Z1 fun _ _ => ?_ | refine Z2 ‹_› ?_ | ((first | refine Z3 tb_ok lv38 rfl ?_ | refine Z4 tb_ok mix lv38 bs38 rfl (by kernel_rfl) rfl ?_ | refine Zr rfl ?_); simp only [↓reduceIte, reduceCtorEq, reduceEqDiff, reduceAdd, reduceMul, reduceSub, reduceLeDiff, reduceEq, reduceLT, reduceLE, go_sem]) | (refine Z5 rfl ?_; with_reducible first | refine ZT ?_ | refine ZF ?_) | refine ZS rfl ?_ | refine Z9 fun _ _ => ?_ | refine ZH ?_ | refine Zl ‹_› (by decide) ?_ | refine Zo rfl ?_ | refine Zp rfl ?_ | refine Zn rfl ?_ | fail
      simp only [↓reduceIte, reduceCtorEq, reduceEqDiff, reduceAdd, reduceMul, reduceSub, reduceLeDiff, reduceEq, reduceLT, reduceLE, go_sem, Option.isSome_none, Option.isSome_some, Option.getD_none, Option.getD_some]
      repeat' first | refine Z1 fun _ _ => ?_ | refine Z2 ‹_› ?_ | ((first | refine Z3 tb_ok lv38 rfl ?_ | refine Z4 tb_ok mix lv38 bs38 rfl (by kernel_rfl) rfl ?_ | refine Zr rfl ?_); simp only [↓reduceIte, reduceCtorEq, reduceEqDiff, reduceAdd, reduceMul, reduceSub, reduceLeDiff, reduceEq, reduceLT, reduceLE, go_sem]) | (refine Z5 rfl ?_; with_reducible first | refine ZT ?_ | refine ZF ?_) | refine ZS rfl ?_ | refine Z9 fun _ _ => ?_ | refine ZH ?_ | refine Zl ‹_› (by decide) ?_ | refine Zo rfl ?_ | refine Zp rfl ?_ | refine Zn rfl ?_ | fail
      try
        refine ⟨enc_one, by have := hba _ rfl; omega, by have := hba _ rfl; omega, enc_one, by have := hba _ rfl; have := hbb _ rfl; omega, by have := hba _ rfl; have := hbb _ rfl; omega, ?_⟩
        repeat' first | refine Z1 fun _ _ => ?_ | refine Z2 ‹_› ?_ | ((first | refine Z3 tb_ok lv38 rfl ?_ | refine Z4 tb_ok mix lv38 bs38 rfl (by kernel_rfl) rfl ?_ | refine Zr rfl ?_); simp only [↓reduceIte, reduceCtorEq, reduceEqDiff, reduceAdd, reduceMul, reduceSub, reduceLeDiff, reduceEq, reduceLT, reduceLE, go_sem]) | (refine Z5 rfl ?_; with_reducible first | refine ZT ?_ | refine ZF ?_) | refine ZS rfl ?_ | refine Z9 fun _ _ => ?_ | refine ZH ?_ | refine Zl ‹_› (by decide) ?_ | refine Zo rfl ?_ | refine Zp rfl ?_ | refine Zn rfl ?_ | fail
      first | done | rfl | exact congrArg (fun z => D.tup [D.slice z, D.bool true]) List.map_append.symm
  all_goals
    have hw' : (T.two 4 a b).wr v = none := by
      rw [hw, h1]
      first | rfl | exact no_twoK h2
    rw [hw']
    refine PCon.enter tb_ok (fn := Try.f38) (by kernel_rfl) (by kernel_rfl) rfl (by show 3 ≤ 234; decide) ?_
    repeat' first | refine Z1 fun _ _ => ?_ | refine Z2 ‹_› ?_ | ((first | refine Z3 tb_ok lv38 rfl ?_ | refine Z4 tb_ok mix lv38 bs38 rfl (by kernel_rfl) rfl ?_ | refine Zr rfl ?_); simp only [↓reduceIte, reduceCtorEq, reduceEqDiff, reduceAdd, reduceMul, reduceSub, reduceLeDiff, reduceEq, reduceLT, reduceLE, go_sem]) | (refine Z5 rfl ?_; with_reducible first | refine ZT ?_ | refine ZF ?_) | refine ZS rfl ?_ | refine Z9 fun _ _ => ?_ | refine ZH ?_ | refine Zl ‹_› (by decide) ?_ | refine Zo rfl ?_ | refine Zp rfl ?_ | refine Zn rfl ?_ | fail
    refine idx_map Nd.z rfl rfl rfl rfl rfl (by omega) (by omega) rfl ?_
    simp only [Int.toNat_natCast, hr, T.root]
    simp only [↓reduceIte, reduceCtorEq, reduceEqDiff, reduceAdd, reduceMul, reduceSub, reduceLeDiff, reduceEq, reduceLT, reduceLE, go_sem]
    repeat' first | refine Z1 fun _ _ => ?_ | refine Z2 ‹_› ?_ | ((first | refine Z3 tb_ok lv38 rfl ?_ | refine Z4 tb_ok mix lv38 bs38 rfl (by kernel_rfl) rfl ?_ | refine Zr rfl ?_); simp only [↓reduceIte, reduceCtorEq, reduceEqDiff, reduceAdd, reduceMul, reduceSub, reduceLeDiff, reduceEq, reduceLT, reduceLE, go_sem]) | (refine Z5 rfl ?_; with_reducible first | refine ZT ?_ | refine ZF ?_) | refine ZS rfl ?_ | refine Z9 fun _ _ => ?_ | refine ZH ?_ | refine Zl ‹_› (by decide) ?_ | refine Zo rfl ?_ | refine Zp rfl ?_ | refine Zn rfl ?_ | fail
    refine call_pure rfl rfl (hb0) ?_; simp only [↓reduceIte, reduceCtorEq, reduceEqDiff, reduceAdd, reduceMul, reduceSub, reduceLeDiff, reduceEq, reduceLT, reduceLE, go_sem]
    repeat' first | refine Z1 fun _ _ => ?_ | refine Z2 ‹_› ?_ | ((first | refine Z3 tb_ok lv38 rfl ?_ | refine Z4 tb_ok mix lv38 bs38 rfl (by kernel_rfl) rfl ?_ | refine Zr rfl ?_); simp only [↓reduceIte, reduceCtorEq, reduceEqDiff, reduceAdd, reduceMul, reduceSub, reduceLeDiff, reduceEq, reduceLT, reduceLE, go_sem]) | (refine Z5 rfl ?_; with_reducible first | refine ZT ?_ | refine ZF ?_) | refine ZS rfl ?_ | refine Z9 fun _ _ => ?_ | refine ZH ?_ | refine Zl ‹_› (by decide) ?_ | refine Zo rfl ?_ | refine Zp rfl ?_ | refine Zn rfl ?_ | fail
    first | done | rfl
set_option maxRecDepth 4000 in
set_option maxHeartbeats 1000000 in
theorem c_atE {gl} {l : List Nd} (hl : l.length ≤ 1048576) {off : Nat} {a b : T} (iha : AtC gl l off a) (ihb : AtC gl l (off + a.n) b) (hs : Sits l off (T.two 5 a b)) : AtC gl l off (T.two 5 a b) := by
  intro v hv hwf
  have hp := T.n_pos (T.two 5 a b)
  have hr := hs.getD Nd.z
  have hlt := hs.lt
  have hb0 := c_plain (gl := gl) (v := v) (k := 5) (b := 0) (t := .empty) (p := 0) (n := 1)
  have hb1 := c_plain (gl := gl) (v := v) (k := 5) (b := 0) (t := .empty) (p := 1) (n := 1)
  have hw : (T.two 5 a b).wr v = if v.plain 5 0 .empty 0 then (match v.kids with
      | [x] => a.wr x
      | _ => none) else if v.plain 5 0 .empty 1 then (match v.kids with
      | [x] => b.wr x
      | _ => none) else none := by rw [T.wr.eq_def]; rfl
  cases h2 : decide ((v.kids.length : Int) = 1) with
  | true =>
    obtain ⟨x, hx⟩ := match_one (α := Unit) h2
    have hlen : v.kids.length = 1 := by rw [hx]; rfl
    have gx : v.kids.getD 0 Vl.z = x := by rw [hx]; rfl
    have ka := iha _ (kid_bulk hv (i := 0) (by omega)) (hwf.kid (getD_mem (i := 0) (by omega)))
    have kb := ihb _ (kid_bulk hv (i := 0) (by omega)) (hwf.kid (getD_mem (i := 0) (by omega)))
    rw [h2, Bool.and_true] at hb0 hb1
    have hw2 : (T.two 5 a b).wr v = if v.plain 5 0 .empty 0 then a.wr (v.kids.getD 0 Vl.z) else if v.plain 5 0 .empty 1 then b.wr (v.kids.getD 0 Vl.z) else none := by rw [hw, gx, hx]
    rw [hw2]
    clear hw hw2 gx
    cases h1 : v.plain 5 0 .empty 0 with
    | true =>
      rw [h1] at hb0
      simp only [if_true]
      refine PCon.enter tb_ok (fn := Try.f38) (by kernel_rfl) (by kernel_rfl) rfl (by show 3 ≤ 234; decide) ?_
      repeat' first | refine Z1 fun _ _ => ?_ | refine Z2 ‹_› ?_ | ((first | refine Z3 tb_ok lv38 rfl ?_ | refine Z4 tb_ok mix lv38 bs38 rfl (by kernel_rfl) rfl ?_ | refine Zr rfl ?_); simp only [↓reduceIte, reduceCtorEq, reduceEqDiff, reduceAdd, reduceMul, reduceSub, reduceLeDiff, reduceEq, reduceLT, reduceLE, go_sem]) | (refine Z5 rfl ?_; with_reducible first | refine ZT ?_ | refine ZF ?_) | refine ZS rfl ?_ | refine Z9 fun _ _ => ?_ | refine ZH ?_ | refine Zl ‹_› (by decide) ?_ | refine Zo rfl ?_ | refine Zp rfl ?_ | refine Zn rfl ?_ | fail
      refine idx_map Nd.z rfl rfl rfl rfl rfl (by omega) (by omega) rfl ?_
      simp only [Int.toNat_natCast, hr, T.root]
      simp only [↓reduceIte, reduceCtorEq, reduceEqDiff, reduceAdd, reduceMul, reduceSub, reduceLeDiff, reduceEq, reduceLT, reduceLE, go_sem]
      repeat' first | refine Z1 fun _ _ => ?_ | refine Z2 ‹_› ?_ | ((first | refine Z3 tb_ok lv38 rfl ?_ | refine Z4 tb_ok mix lv38 bs38 rfl (by kernel_rfl) rfl ?_ | refine Zr rfl ?_); simp only [↓reduceIte, reduceCtorEq, reduceEqDiff, reduceAdd, reduceMul, reduceSub, reduceLeDiff, reduceEq, reduceLT, reduceLE, go_sem]) | (refine Z5 rfl ?_; with_reducible first | refine ZT ?_ | refine ZF ?_) | refine ZS rfl ?_ | refine Z9 fun _ _ => ?_ | refine ZH ?_ | refine Zl ‹_› (by decide) ?_ | refine Zo rfl ?_ | refine Zp rfl ?_ | refine Zn rfl ?_ | fail
      refine call_pure rfl rfl (hb0) ?_; simp only [↓reduceIte, reduceCtorEq, reduceEqDiff, reduceAdd, reduceMul, reduceSub, reduceLeDiff, reduceEq, reduceLT, reduceLE, go_sem]
      repeat' first | refine Z1 fun _ _ => ?_ | refine Z2 ‹_› ?_ | ((first | refine Z3 tb_ok lv38 rfl ?_ | refine Z4 tb_ok mix lv38 bs38 rfl (by kernel_rfl) rfl ?_ | refine Zr rfl ?_); simp only [↓reduceIte, reduceCtorEq, reduceEqDiff, reduceAdd, reduceMul, reduceSub, reduceLeDiff, reduceEq, reduceLT, reduceLE, go_sem]) | (refine Z5 rfl ?_; with_reducible first | refine ZT ?_ | refine ZF ?_) | refine ZS rfl ?_ | refine Z9 fun _ _ => ?_ | refine ZH ?_ | refine Zl ‹_› (by decide) ?_ | refine Zo rfl ?_ | refine Zp rfl ?_ | refine Zn rfl ?_ | fail
      refine idx_map (j := 0) Vl.z rfl rfl rfl rfl rfl (by omega) (by omega) (Vl.cells_len _) ?_
      simp only [↓reduceIte, reduceCtorEq, reduceEqDiff, reduceAdd, reduceMul, reduceSub, reduceLeDiff, reduceEq, reduceLT, reduceLE, go_sem]
      repeat' first | refine Z1 fun _ _ => ?_ | refine Z2 ‹_› ?_ | ((first | refine Z3 tb_ok lv38 rfl ?_ | refine Z4 tb_ok mix lv38 bs38 rfl (by kernel_rfl) rfl ?_ | refine Zr rfl ?_); simp only [↓reduceIte, reduceCtorEq, reduceEqDiff, reduceAdd, reduceMul, reduceSub, reduceLeDiff, reduceEq, reduceLT, reduceLE, go_sem]) | (refine Z5 rfl ?_; with_reducible first | refine ZT ?_ | refine ZF ?_) | refine ZS rfl ?_ | refine Z9 fun _ _ => ?_ | refine ZH ?_ | refine Zl ‹_› (by decide) ?_ | refine Zo rfl ?_ | refine Zp rfl ?_ | refine Zn rfl ?_ | fail
      refine call_pure rfl rfl (ka) ?_; simp only [↓reduceIte, reduceCtorEq, reduceEqDiff, reduceAdd, reduceMul, reduceSub, reduceLeDiff, reduceEq, reduceLT, reduceLE, go_sem]
      repeat' first | refine Z1 fun _ _ => ?_ | refine Z2 ‹_› ?_ | ((first | refine Z3 tb_ok lv38 rfl ?_ | refine Z4 tb_ok mix lv38 bs38 rfl (by kernel_rfl) rfl ?_ | refine Zr rfl ?_); simp only [↓reduceIte, reduceCtorEq, reduceEqDiff, reduceAdd, reduceMul, reduceSub, reduceLeDiff, reduceEq, reduceLT, reduceLE, go_sem]) | (refine Z5 rfl ?_; with_reducible first | refine ZT ?_ | refine ZF ?_) | refine ZS rfl ?_ | refine Z9 fun _ _ => ?_ | refine ZH ?_ | refine Zl ‹_› (by decide) ?_ | refine Zo rfl ?_ | refine Zp rfl ?_ | refine Zn rfl ?_ | fail
    | false =>
      rw [h1] at hb0
      cases h3 : v.plain 5 0 .empty 1
      all_goals
        rw [h3] at hb1
        simp only [if_true, Bool.false_eq_true, if_false]
        refine PCon.enter tb_ok (fn := Try.f38) (by kernel_rfl) (by kernel_rfl) rfl (by show 3 ≤ 234; decide) ?_
        repeat' first | refine Z1 fun _ _ => ?_ | refine Z2 ‹_› ?_ | ((first | refine Z3 tb_ok lv38 rfl ?_ | refine Z4 tb_ok mix lv38 bs38 rfl (by kernel_rfl) rfl ?_ | refine Zr rfl ?_); simp only [↓reduceIte, reduceCtorEq, reduceEqDiff, reduceAdd, reduceMul, reduceSub, reduceLeDiff, reduceEq, reduceLT, reduceLE, go_sem]) | (refine Z5 rfl ?_; with_reducible first | refine ZT ?_ | refine ZF ?_) | refine ZS rfl ?_ | refine Z9 fun _ _ => ?_ | refine ZH ?_ | refine Zl ‹_› (by decide) ?_ | refine Zo rfl ?_ | refine Zp rfl ?_ | refine Zn rfl ?_ | fail
        refine idx_map Nd.z rfl rfl rfl rfl rfl (by omega) (by omega) rfl ?_
        simp only [Int.toNat_natCast, hr, T.root]
        simp only [↓reduceIte, reduceCtorEq, reduceEqDiff, reduceAdd, reduceMul, reduceSub, reduceLeDiff, reduceEq, reduceLT, reduceLE, go_sem]
        repeat' first | refine Z1 fun _ _ => ?_ | refine Z2 ‹_› ?_ | ((first | refine Z3 tb_ok lv38 rfl ?_ | refine Z4 tb_ok mix lv38 bs38 rfl (by kernel_rfl) rfl ?_ | refine Zr rfl ?_); simp only [↓reduceIte, reduceCtorEq, reduceEqDiff, reduceAdd, reduceMul, reduceSub, reduceLeDiff, reduceEq, reduceLT, reduceLE, go_sem]) | (refine Z5 rfl ?_; with_reducible first | refine ZT ?_ | refine ZF ?_) | refine ZS rfl ?_ | refine Z9 fun _ _ => ?_ | refine ZH ?_ | refine Zl ‹_› (by decide) ?_ | refine Zo rfl ?_ | refine Zp rfl ?_ | refine Zn rfl ?_ | fail
        refine call_pure rfl rfl (hb0) ?_; simp only [↓reduceIte, reduceCtorEq, reduceEqDiff, reduceAdd, reduceMul, reduceSub, reduceLeDiff, reduceEq, reduceLT, reduceLE, go_sem]
        repeat' first | refine Z1 fun _ _ => ?_ | refine Z2 ‹_› ?_ | ((first | refine Z3 tb_ok lv38 rfl ?_ | refine Z4 tb_ok mix lv38 bs38 rfl (by kernel_rfl) rfl ?_ | refine Zr rfl ?_); simp only [↓reduceIte, reduceCtorEq, reduceEqDiff, reduceAdd, reduceMul, reduceSub, reduceLeDiff, reduceEq, reduceLT, reduceLE, go_sem]) | (refine Z5 rfl ?_; with_reducible first | refine ZT ?_ | refine ZF ?_) | refine ZS rfl ?_ | refine Z9 fun _ _ => ?_ | refine ZH ?_ | refine Zl ‹_› (by decide) ?_ | refine Zo rfl ?_ | refine Zp rfl ?_ | refine Zn rfl ?_ | fail
        refine call_pure rfl rfl (hb1) ?_; simp only [↓reduceIte, reduceCtorEq, reduceEqDiff, reduceAdd, reduceMul, reduceSub, reduceLeDiff, reduceEq, reduceLT, reduceLE, go_sem]
        repeat' first | refine Z1 fun _ _ => ?_ | refine Z2 ‹_› ?_ | ((first | refine Z3 tb_ok lv38 rfl ?_ | refine Z4 tb_ok mix lv38 bs38 rfl (by kernel_rfl) rfl ?_ | refine Zr rfl ?_); simp only [↓reduceIte, reduceCtorEq, reduceEqDiff, reduceAdd, reduceMul, reduceSub, reduceLeDiff, reduceEq, reduceLT, reduceLE, go_sem]) | (refine Z5 rfl ?_; with_reducible first | refine ZT ?_ | refine ZF ?_) | refine ZS rfl ?_ | refine Z9 fun _ _ => ?_ | refine ZH ?_ | refine Zl ‹_› (by decide) ?_ | refine Zo rfl ?_ | refine Zp rfl ?_ | refine Zn rfl ?_ | fail
        try
          refine idx_map (j := 0) Vl.z rfl rfl rfl rfl rfl (by omega) (by omega) (Vl.cells_len _) ?_
          simp only [↓reduceIte, reduceCtorEq, reduceEqDiff, reduceAdd, reduceMul, reduceSub, reduceLeDiff, reduceEq, reduceLT, reduceLE, go_sem]
          repeat' first | refine Z1 fun _ _ => ?_ | refine Z2 ‹_› ?_ | ((first | refine Z3 tb_ok lv38 rfl ?_ | refine Z4 tb_ok mix lv38 bs38 rfl (by kernel_rfl) rfl ?_ | refine Zr rfl ?_); simp only [↓reduceIte, reduceCtorEq, reduceEqDiff, reduceAdd, reduceMul, reduceSub, reduceLeDiff, reduceEq, reduceLT, reduceLE, go_sem]) | (refine Z5 rfl ?_; with_reducible first | refine ZT ?_ | refine ZF ?_) | refine ZS rfl ?_ | refine Z9 fun _ _ => ?_ | refine ZH ?_ | refine Zl ‹_› (by decide) ?_ | refine Zo rfl ?_ | refine Zp rfl ?_ | refine Zn rfl ?_ | fail
          refine call_pure rfl rfl (kb) ?_; simp only [↓reduceIte, reduceCtorEq, reduceEqDiff, reduceAdd, reduceMul, reduceSub, reduceLeDiff, reduceEq, reduceLT, reduceLE, go_sem]
          repeat' first | refine Z1 fun _ _ => ?_ | refine Z2 ‹_› ?_ | ((first | refine Z3 tb_ok lv38 rfl ?_ | refine Z4 tb_ok mix lv38 bs38 rfl (by kernel_rfl) rfl ?_ | refine Zr rfl ?_); simp only [↓reduceIte, reduceCtorEq, reduceEqDiff, reduceAdd, reduceMul, reduceSub, reduceLeDiff, reduceEq, reduceLT, reduceLE, go_sem]) | (refine Z5 rfl ?_; with_reducible first | refine ZT ?_ | refine ZF ?_) | refine ZS rfl ?_ | refine Z9 fun _ _ => ?_ | refine ZH ?_ | refine Zl ‹_› (by decide) ?_ | refine Zo rfl ?_ | refine Zp rfl ?_ | refine Zn rfl ?_ | fail
        first | done | rfl
  | false =>
    rw [h2, Bool.and_false] at hb0 hb1
    have hw' : (T.two 5 a b).wr v = none := by
      rw [hw]
      split
      · exact no_oneK h2
      · split
        · exact no_oneK h2
        · rfl
    rw [hw']
    refine PCon.enter tb_ok (fn := Try.f38) (by kernel_rfl) (by kernel_rfl) rfl (by show 3 ≤ 234; decide) ?_
    repeat' first | refine Z1 fun _ _ => ?_ | refine Z2 ‹_› ?_ | ((first | refine Z3 tb_ok lv38 rfl ?_ | refine Z4 tb_ok mix lv38 bs38 rfl (by kernel_rfl) rfl ?_ | refine Zr rfl ?_); simp only [↓reduceIte, reduceCtorEq, reduceEqDiff, reduceAdd, reduceMul, reduceSub, reduceLeDiff, reduceEq, reduceLT, reduceLE, go_sem]) | (refine Z5 rfl ?_; with_reducible first | refine ZT ?_ | refine ZF ?_) | refine ZS rfl ?_ | refine Z9 fun _ _ => ?_ | refine ZH ?_ | refine Zl ‹_› (by decide) ?_ | refine Zo rfl ?_ | refine Zp rfl ?_ | refine Zn rfl ?_ | fail
    refine idx_map Nd.z rfl rfl rfl rfl rfl (by omega) (by omega) rfl ?_
    simp only [Int.toNat_natCast, hr, T.root]
    simp only [↓reduceIte, reduceCtorEq, reduceEqDiff, reduceAdd, reduceMul, reduceSub, reduceLeDiff, reduceEq, reduceLT, reduceLE, go_sem]
    repeat' first | refine Z1 fun _ _ => ?_ | refine Z2 ‹_› ?_ | ((first | refine Z3 tb_ok lv38 rfl ?_ | refine Z4 tb_ok mix lv38 bs38 rfl (by kernel_rfl) rfl ?_ | refine Zr rfl ?_); simp only [↓reduceIte, reduceCtorEq, reduceEqDiff, reduceAdd, reduceMul, reduceSub, reduceLeDiff, reduceEq, reduceLT, reduceLE, go_sem]) | (refine Z5 rfl ?_; with_reducible first | refine ZT ?_ | refine ZF ?_) | refine ZS rfl ?_ | refine Z9 fun _ _ => ?_ | refine ZH ?_ | refine Zl ‹_› (by decide) ?_ | refine Zo rfl ?_ | refine Zp rfl ?_ | refine Zn rfl ?_ | fail
    refine call_pure rfl rfl (hb0) ?_; simp only [↓reduceIte, reduceCtorEq, reduceEqDiff, reduceAdd, reduceMul, reduceSub, reduceLeDiff, reduceEq, reduceLT, reduceLE, go_sem]
    repeat' first | refine Z1 fun _ _ => ?_ | refine Z2 ‹_› ?_ | ((first | refine Z3 tb_ok lv38 rfl ?_ | refine Z4 tb_ok mix lv38 bs38 rfl (by kernel_rfl) rfl ?_ | refine Zr rfl ?_); simp only [↓reduceIte, reduceCtorEq, reduceEqDiff, reduceAdd, reduceMul, reduceSub, reduceLeDiff, reduceEq, reduceLT, reduceLE, go_sem]) | (refine Z5 rfl ?_; with_reducible first | refine ZT ?_ | refine ZF ?_) | refine ZS rfl ?_ | refine Z9 fun _ _ => ?_ | refine ZH ?_ | refine Zl ‹_› (by decide) ?_ | refine Zo rfl ?_ | refine Zp rfl ?_ | refine Zn rfl ?_ | fail
    refine call_pure rfl rfl (hb1) ?_; simp only [↓reduceIte, reduceCtorEq, reduceEqDiff, reduceAdd, reduceMul, reduceSub, reduceLeDiff, reduceEq, reduceLT, reduceLE, go_sem]
    repeat' first | refine Z1 fun _ _ => ?_ | refine Z2 ‹_› ?_ | ((first | refine Z3 tb_ok lv38 rfl ?_ | refine Z4 tb_ok mix lv38 bs38 rfl (by kernel_rfl) rfl ?_ | refine Zr rfl ?_); simp only [↓reduceIte, reduceCtorEq, reduceEqDiff, reduceAdd, reduceMul, reduceSub, reduceLeDiff, reduceEq, reduceLT, reduceLE, go_sem]) | (refine Z5 rfl ?_; with_reducible first | refine ZT ?_ | refine ZF ?_) | refine ZS rfl ?_ | refine Z9 fun _ _ => ?_ | refine ZH ?_ | refine Zl ‹_› (by decide) ?_ | refine Zo rfl ?_ | refine Zp rfl ?_ | refine Zn rfl ?_ | fail
    first | done | rfl
set_option maxRecDepth 4000 in
set_option maxHeartbeats 1000000 in
theorem c_atF {gl} {l : List Nd} (hl : l.length ≤ 1048576) {off : Nat} {lo hi : Int} {a : T} (iha : AtC gl l off a) (hs : Sits l off (T.one 6 lo hi a)) : AtC gl l off (T.one 6 lo hi a) := by
  intro v hv hwf
  have hp := T.n_pos (T.one 6 lo hi a)
  have hr := hs.getD Nd.z
  have hlt := hs.lt
  have hb0 := c_plain (gl := gl) (v := v) (k := 6) (b := 0) (t := .empty) (p := 0) (n := v.kids.length)
  have hkl : v.kids.length ≤ 1048577 := by
    have := v.bulk_eq
    have := Vl.bulkL_len (l := v.kids)
    omega
  rw [decide_eq_true (rfl : (v.kids.length : Int) = (v.kids.length : Int)), Bool.and_true] at hb0
  have hw : (T.one 6 lo hi a).wr v = if v.plain 6 0 .empty 0 then gath a.wr true v.kids else none := by rw [T.wr.eq_def]; rfl
  cases h1 : v.plain 6 0 .empty 0 with
  | false =>
    rw [h1] at hb0 hw
    rw [hw]
    refine PCon.enter tb_ok (fn := Try.f38) (by kernel_rfl) (by kernel_rfl) rfl (by show 3 ≤ 234; decide) ?_
    repeat' first | refine Z1 fun _ _ => ?_ | refine Z2 ‹_› ?_ | ((first | refine Z3 tb_ok lv38 rfl ?_ | refine Z4 tb_ok mix lv38 bs38 rfl (by kernel_rfl) rfl ?_ | refine Zr rfl ?_); simp only [↓reduceIte, reduceCtorEq, reduceEqDiff, reduceAdd, reduceMul, reduceSub, reduceLeDiff, reduceEq, reduceLT, reduceLE, go_sem]) | (refine Z5 rfl ?_; with_reducible first | refine ZT ?_ | refine ZF ?_) | refine ZS rfl ?_ | refine Z9 fun _ _ => ?_ | refine ZH ?_ | refine Zl ‹_› (by decide) ?_ | refine Zo rfl ?_ | refine Zp rfl ?_ | refine Zn rfl ?_ | fail
    refine idx_map Nd.z rfl rfl rfl rfl rfl (by omega) (by omega) rfl ?_
    simp only [Int.toNat_natCast, hr, T.root]
    simp only [↓reduceIte, reduceCtorEq, reduceEqDiff, reduceAdd, reduceMul, reduceSub, reduceLeDiff, reduceEq, reduceLT, reduceLE, go_sem]
    repeat' first | refine Z1 fun _ _ => ?_ | refine Z2 ‹_› ?_ | ((first | refine Z3 tb_ok lv38 rfl ?_ | refine Z4 tb_ok mix lv38 bs38 rfl (by kernel_rfl) rfl ?_ | refine Zr rfl ?_); simp only [↓reduceIte, reduceCtorEq, reduceEqDiff, reduceAdd, reduceMul, reduceSub, reduceLeDiff, reduceEq, reduceLT, reduceLE, go_sem]) | (refine Z5 rfl ?_; with_reducible first | refine ZT ?_ | refine ZF ?_) | refine ZS rfl ?_ | refine Z9 fun _ _ => ?_ | refine ZH ?_ | refine Zl ‹_› (by decide) ?_ | refine Zo rfl ?_ | refine Zp rfl ?_ | refine Zn rfl ?_ | fail
    refine call_pure rfl rfl (hb0) ?_; simp only [↓reduceIte, reduceCtorEq, reduceEqDiff, reduceAdd, reduceMul, reduceSub, reduceLeDiff, reduceEq, reduceLT, reduceLE, go_sem]
    repeat' first | refine Z1 fun _ _ => ?_ | refine Z2 ‹_› ?_ | ((first | refine Z3 tb_ok lv38 rfl ?_ | refine Z4 tb_ok mix lv38 bs38 rfl (by kernel_rfl) rfl ?_ | refine Zr rfl ?_); simp only [↓reduceIte, reduceCtorEq, reduceEqDiff, reduceAdd, reduceMul, reduceSub, reduceLeDiff, reduceEq, reduceLT, reduceLE, go_sem]) | (refine Z5 rfl ?_; with_reducible first | refine ZT ?_ | refine ZF ?_) | refine ZS rfl ?_ | refine Z9 fun _ _ => ?_ | refine ZH ?_ | refine Zl ‹_› (by decide) ?_ | refine Zo rfl ?_ | refine Zp rfl ?_ | refine Zn rfl ?_ | fail
    first | done | rfl
  | true =>
    rw [h1] at hb0 hw
    simp only [if_true] at hw
    rw [hw]
    refine PCon.enter tb_ok (fn := Try.f38) (by kernel_rfl) (by kernel_rfl) rfl (by show 3 ≤ 234; decide) ?_
    repeat' first | refine Z1 fun _ _ => ?_ | refine Z2 ‹_› ?_ | ((first | refine Z3 tb_ok lv38 rfl ?_ | refine Z4 tb_ok mix lv38 bs38 rfl (by kernel_rfl) rfl ?_ | refine Zr rfl ?_); simp only [↓reduceIte, reduceCtorEq, reduceEqDiff, reduceAdd, reduceMul, reduceSub, reduceLeDiff, reduceEq, reduceLT, reduceLE, go_sem]) | (refine Z5 rfl ?_; with_reducible first | refine ZT ?_ | refine ZF ?_) | refine ZS rfl ?_ | refine Z9 fun _ _ => ?_ | refine ZH ?_ | refine Zl ‹_› (by decide) ?_ | refine Zo rfl ?_ | refine Zp rfl ?_ | refine Zn rfl ?_ | fail
    refine idx_map Nd.z rfl rfl rfl rfl rfl (by omega) (by omega) rfl ?_
    simp only [Int.toNat_natCast, hr, T.root]
    simp only [↓reduceIte, reduceCtorEq, reduceEqDiff, reduceAdd, reduceMul, reduceSub, reduceLeDiff, reduceEq, reduceLT, reduceLE, go_sem]
    repeat' first | refine Z1 fun _ _ => ?_ | refine Z2 ‹_› ?_ | ((first | refine Z3 tb_ok lv38 rfl ?_ | refine Z4 tb_ok mix lv38 bs38 rfl (by kernel_rfl) rfl ?_ | refine Zr rfl ?_); simp only [↓reduceIte, reduceCtorEq, reduceEqDiff, reduceAdd, reduceMul, reduceSub, reduceLeDiff, reduceEq, reduceLT, reduceLE, go_sem]) | (refine Z5 rfl ?_; with_reducible first | refine ZT ?_ | refine ZF ?_) | refine ZS rfl ?_ | refine Z9 fun _ _ => ?_ | refine ZH ?_ | refine Zl ‹_› (by decide) ?_ | refine Zo rfl ?_ | refine Zp rfl ?_ | refine Zn rfl ?_ | fail
    refine call_pure rfl rfl (hb0) ?_; simp only [↓reduceIte, reduceCtorEq, reduceEqDiff, reduceAdd, reduceMul, reduceSub, reduceLeDiff, reduceEq, reduceLT, reduceLE, go_sem]
    repeat' first | refine Z1 fun _ _ => ?_ | refine Z2 ‹_› ?_ | ((first | refine Z3 tb_ok lv38 rfl ?_ | refine Z4 tb_ok mix lv38 bs38 rfl (by kernel_rfl) rfl ?_ | refine Zr rfl ?_); simp only [↓reduceIte, reduceCtorEq, reduceEqDiff, reduceAdd, reduceMul, reduceSub, reduceLeDiff, reduceEq, reduceLT, reduceLE, go_sem]) | (refine Z5 rfl ?_; with_reducible first | refine ZT ?_ | refine ZF ?_) | refine ZS rfl ?_ | refine Z9 fun _ _ => ?_ | refine ZH ?_ | refine Zl ‹_› (by decide) ?_ | refine Zo rfl ?_ | refine Zp rfl ?_ | refine Zn rfl ?_ | fail
    rw [← gathI_const (i := 0)] at *
    refine .loopS (α := Nat × List UInt8) (fun c => ⟨[(3, .ref 0 0), (5, .ref 1 0), (8, .ref 9 0), (9, .d (.int .i64 v.kids.length)), (14, .own 2), (15, .d (.int .i64 c.1))], [(2, .row true 5 1 (c.2.map encB)), (9, .box true [.d (.int .i64 6), .d (.int .i64 (off + (a.n - 1) : Nat)), .d (.int .i64 0), .d (.int .i64 lo), .d (.int .i64 hi), .d (.int .u64 0), .d (.int .u64 0), .d (.int .u64 0), .d (.int .u64 0), .d (.str .empty)]), (1, .box true [.d (.int .i64 v.kind), .d (.int .u8 v.byte), .d (.str v.text), .d (.int .i64 v.pick), .d (vals v.kids)]), (0, .box true [.d (nds l)])], 10⟩)
      (fun c => c.1 ≤ v.kids.length ∧ c.2.length ≤ c.1 * 4194304 ∧ gathI (fun _ => a.wr) true 0 v.kids = (gathI (fun _ => a.wr) true c.1 (v.kids.drop c.1)).map (c.2 ++ ·)) (fun c => v.kids.length - c.1) (0, []) ⟨by omega, by simp, by simp⟩ [(52, 2)] rfl (by simp only [↓reduceIte, reduceCtorEq, reduceEqDiff, reduceAdd, reduceMul, reduceSub, reduceLeDiff, reduceEq, reduceLT, reduceLE, go_sem]; simp) ?_
    rintro ⟨i, w⟩ ⟨hi', hwl, hg⟩ Q hQ
    simp only at hi' hwl hg
    repeat' first | refine Z1 fun _ _ => ?_ | refine Z2 ‹_› ?_ | ((first | refine Z3 tb_ok lv38 rfl ?_ | refine Z4 tb_ok mix lv38 bs38 rfl (by kernel_rfl) rfl ?_ | refine Zr rfl ?_); simp only [↓reduceIte, reduceCtorEq, reduceEqDiff, reduceAdd, reduceMul, reduceSub, reduceLeDiff, reduceEq, reduceLT, reduceLE, go_sem]) | (refine Z5 rfl ?_; with_reducible first | refine ZT ?_ | refine ZF ?_) | refine ZS rfl ?_ | refine Z9 fun _ _ => ?_ | refine ZH ?_ | refine Zl ‹_› (by decide) ?_ | refine Zo rfl ?_ | refine Zp rfl ?_ | refine Zn rfl ?_ | fail
    refine .cond rfl (fun h => ?_) (fun h => ?_)
    · simp only [decide_eq_true_eq] at h
      have hlt' : i < v.kids.length := by omega
      rw [drop_getD hlt' Vl.z, gathI] at hg
      have ka := iha _ (kid_bulk hv hlt') (hwf.kid (getD_mem hlt'))
      have kb : ∀ p, a.wr (v.kids.getD i Vl.z) = some p → p.length ≤ 4194304 := fun p h => wr_bd (kid_bulk hv hlt') h
      cases hF : a.wr (v.kids.getD i Vl.z) with
      | none =>
        rw [hF] at hg ka
        repeat' first | refine Z1 fun _ _ => ?_ | refine Z2 ‹_› ?_ | ((first | refine Z3 tb_ok lv38 rfl ?_ | refine Z4 tb_ok mix lv38 bs38 rfl (by kernel_rfl) rfl ?_ | refine Zr rfl ?_); simp only [↓reduceIte, reduceCtorEq, reduceEqDiff, reduceAdd, reduceMul, reduceSub, reduceLeDiff, reduceEq, reduceLT, reduceLE, go_sem]) | (refine Z5 rfl ?_; with_reducible first | refine ZT ?_ | refine ZF ?_) | refine ZS rfl ?_ | refine Z9 fun _ _ => ?_ | refine ZH ?_ | refine Zl ‹_› (by decide) ?_ | refine Zo rfl ?_ | refine Zp rfl ?_ | refine Zn rfl ?_ | fail
        refine idx_map Vl.z rfl rfl rfl rfl rfl (by omega) (by omega) (Vl.cells_len _) ?_
        simp only [↓reduceIte, reduceCtorEq, reduceEqDiff, reduceAdd, reduceMul, reduceSub, reduceLeDiff, reduceEq, reduceLT, reduceLE, go_sem]
        repeat' first | refine Z1 fun _ _ => ?_ | refine Z2 ‹_› ?_ | ((first | refine Z3 tb_ok lv38 rfl ?_ | refine Z4 tb_ok mix lv38 bs38 rfl (by kernel_rfl) rfl ?_ | refine Zr rfl ?_); simp only [↓reduceIte, reduceCtorEq, reduceEqDiff, reduceAdd, reduceMul, reduceSub, reduceLeDiff, reduceEq, reduceLT, reduceLE, go_sem]) | (refine Z5 rfl ?_; with_reducible first | refine ZT ?_ | refine ZF ?_) | refine ZS rfl ?_ | refine Z9 fun _ _ => ?_ | refine ZH ?_ | refine Zl ‹_› (by decide) ?_ | refine Zo rfl ?_ | refine Zp rfl ?_ | refine Zn rfl ?_ | fail
        refine call_pure rfl rfl (ka) ?_; simp only [↓reduceIte, reduceCtorEq, reduceEqDiff, reduceAdd, reduceMul, reduceSub, reduceLeDiff, reduceEq, reduceLT, reduceLE, go_sem]
        repeat' first | refine Z1 fun _ _ => ?_ | refine Z2 ‹_› ?_ | ((first | refine Z3 tb_ok lv38 rfl ?_ | refine Z4 tb_ok mix lv38 bs38 rfl (by kernel_rfl) rfl ?_ | refine Zr rfl ?_); simp only [↓reduceIte, reduceCtorEq, reduceEqDiff, reduceAdd, reduceMul, reduceSub, reduceLeDiff, reduceEq, reduceLT, reduceLE, go_sem]) | (refine Z5 rfl ?_; with_reducible first | refine ZT ?_ | refine ZF ?_) | refine ZS rfl ?_ | refine Z9 fun _ _ => ?_ | refine ZH ?_ | refine Zl ‹_› (by decide) ?_ | refine Zo rfl ?_ | refine Zp rfl ?_ | refine Zn rfl ?_ | fail
        try
          simp only [↓reduceIte, reduceCtorEq, reduceEqDiff, reduceAdd, reduceMul, reduceSub, reduceLeDiff, reduceEq, reduceLT, reduceLE, go_sem, Option.isSome_none, Option.getD_none]
          repeat' first | refine Z1 fun _ _ => ?_ | refine Z2 ‹_› ?_ | ((first | refine Z3 tb_ok lv38 rfl ?_ | refine Z4 tb_ok mix lv38 bs38 rfl (by kernel_rfl) rfl ?_ | refine Zr rfl ?_); simp only [↓reduceIte, reduceCtorEq, reduceEqDiff, reduceAdd, reduceMul, reduceSub, reduceLeDiff, reduceEq, reduceLT, reduceLE, go_sem]) | (refine Z5 rfl ?_; with_reducible first | refine ZT ?_ | refine ZF ?_) | refine ZS rfl ?_ | refine Z9 fun _ _ => ?_ | refine ZH ?_ | refine Zl ‹_› (by decide) ?_ | refine Zo rfl ?_ | refine Zp rfl ?_ | refine Zn rfl ?_ | fail
        rw [hg]
        rfl
      | some p =>
        rw [hF] at hg ka
        have hp' := kb p hF
        simp only [Bool.true_and] at hg
        repeat' first | refine Z1 fun _ _ => ?_ | refine Z2 ‹_› ?_ | ((first | refine Z3 tb_ok lv38 rfl ?_ | refine Z4 tb_ok mix lv38 bs38 rfl (by kernel_rfl) rfl ?_ | refine Zr rfl ?_); simp only [↓reduceIte, reduceCtorEq, reduceEqDiff, reduceAdd, reduceMul, reduceSub, reduceLeDiff, reduceEq, reduceLT, reduceLE, go_sem]) | (refine Z5 rfl ?_; with_reducible first | refine ZT ?_ | refine ZF ?_) | refine ZS rfl ?_ | refine Z9 fun _ _ => ?_ | refine ZH ?_ | refine Zl ‹_› (by decide) ?_ | refine Zo rfl ?_ | refine Zp rfl ?_ | refine Zn rfl ?_ | fail
        refine idx_map Vl.z rfl rfl rfl rfl rfl (by omega) (by omega) (Vl.cells_len _) ?_
        simp only [↓reduceIte, reduceCtorEq, reduceEqDiff, reduceAdd, reduceMul, reduceSub, reduceLeDiff, reduceEq, reduceLT, reduceLE, go_sem]
        repeat' first | refine Z1 fun _ _ => ?_ | refine Z2 ‹_› ?_ | ((first | refine Z3 tb_ok lv38 rfl ?_ | refine Z4 tb_ok mix lv38 bs38 rfl (by kernel_rfl) rfl ?_ | refine Zr rfl ?_); simp only [↓reduceIte, reduceCtorEq, reduceEqDiff, reduceAdd, reduceMul, reduceSub, reduceLeDiff, reduceEq, reduceLT, reduceLE, go_sem]) | (refine Z5 rfl ?_; with_reducible first | refine ZT ?_ | refine ZF ?_) | refine ZS rfl ?_ | refine Z9 fun _ _ => ?_ | refine ZH ?_ | refine Zl ‹_› (by decide) ?_ | refine Zo rfl ?_ | refine Zp rfl ?_ | refine Zn rfl ?_ | fail
        refine call_pure rfl rfl (ka) ?_; simp only [↓reduceIte, reduceCtorEq, reduceEqDiff, reduceAdd, reduceMul, reduceSub, reduceLeDiff, reduceEq, reduceLT, reduceLE, go_sem]
        repeat' first | refine Z1 fun _ _ => ?_ | refine Z2 ‹_› ?_ | ((first | refine Z3 tb_ok lv38 rfl ?_ | refine Z4 tb_ok mix lv38 bs38 rfl (by kernel_rfl) rfl ?_ | refine Zr rfl ?_); simp only [↓reduceIte, reduceCtorEq, reduceEqDiff, reduceAdd, reduceMul, reduceSub, reduceLeDiff, reduceEq, reduceLT, reduceLE, go_sem]) | (refine Z5 rfl ?_; with_reducible first | refine ZT ?_ | refine ZF ?_) | refine ZS rfl ?_ | refine Z9 fun _ _ => ?_ | refine ZH ?_ | refine Zl ‹_› (by decide) ?_ | refine Zo rfl ?_ | refine Zp rfl ?_ | refine Zn rfl ?_ | fail
        cases hc : p.isEmpty with
        | true =>
          have k4 : decide ((p.length : Int) = 0) = true := by cases p with
            | nil => rfl
            | cons x r => simp at hc
          rw [hc, if_pos rfl] at hg
          simp only [↓reduceIte, reduceCtorEq, reduceEqDiff, reduceAdd, reduceMul, reduceSub, reduceLeDiff, reduceEq, reduceLT, reduceLE, go_sem, Option.isSome_some, Option.getD_some, k4]
          repeat' first | refine Z1 fun _ _ => ?_ | refine Z2 ‹_› ?_ | ((first | refine Z3 tb_ok lv38 rfl ?_ | refine Z4 tb_ok mix lv38 bs38 rfl (by kernel_rfl) rfl ?_ | refine Zr rfl ?_); simp only [↓reduceIte, reduceCtorEq, reduceEqDiff, reduceAdd, reduceMul, reduceSub, reduceLeDiff, reduceEq, reduceLT, reduceLE, go_sem]) | (refine Z5 rfl ?_; with_reducible first | refine ZT ?_ | refine ZF ?_) | refine ZS rfl ?_ | refine Z9 fun _ _ => ?_ | refine ZH ?_ | refine Zl ‹_› (by decide) ?_ | refine Zo rfl ?_ | refine Zp rfl ?_ | refine Zn rfl ?_ | fail
          rw [hg]
          rfl
        | false =>
          have k4 : decide ((p.length : Int) = 0) = false := by cases p with
            | nil => simp at hc
            | cons x r => simp; omega
          rw [hc] at hg
          simp only [Bool.false_eq_true, if_false] at hg
          simp only [↓reduceIte, reduceCtorEq, reduceEqDiff, reduceAdd, reduceMul, reduceSub, reduceLeDiff, reduceEq, reduceLT, reduceLE, go_sem, Option.isSome_some, Option.getD_some, k4]
          repeat' first | refine Z1 fun _ _ => ?_ | refine Z2 ‹_› ?_ | ((first | refine Z3 tb_ok lv38 rfl ?_ | refine Z4 tb_ok mix lv38 bs38 rfl (by kernel_rfl) rfl ?_ | refine Zr rfl ?_); simp only [↓reduceIte, reduceCtorEq, reduceEqDiff, reduceAdd, reduceMul, reduceSub, reduceLeDiff, reduceEq, reduceLT, reduceLE, go_sem]) | (refine Z5 rfl ?_; with_reducible first | refine ZT ?_ | refine ZF ?_) | refine ZS rfl ?_ | refine Z9 fun _ _ => ?_ | refine ZH ?_ | refine Zl ‹_› (by decide) ?_ | refine Zo rfl ?_ | refine Zp rfl ?_ | refine Zn rfl ?_ | fail
          refine ⟨enc_one, by omega, by omega, ?_⟩
          repeat' first | refine Z1 fun _ _ => ?_ | refine Z2 ‹_› ?_ | ((first | refine Z3 tb_ok lv38 rfl ?_ | refine Z4 tb_ok mix lv38 bs38 rfl (by kernel_rfl) rfl ?_ | refine Zr rfl ?_); simp only [↓reduceIte, reduceCtorEq, reduceEqDiff, reduceAdd, reduceMul, reduceSub, reduceLeDiff, reduceEq, reduceLT, reduceLE, go_sem]) | (refine Z5 rfl ?_; with_reducible first | refine ZT ?_ | refine ZF ?_) | refine ZS rfl ?_ | refine Z9 fun _ _ => ?_ | refine ZH ?_ | refine Zl ‹_› (by decide) ?_ | refine Zo rfl ?_ | refine Zp rfl ?_ | refine Zn rfl ?_ | fail
          rw [wrap64 (by omega) (by omega)]
          refine hQ.next (i + 1, w ++ p) [(36, 2)] ⟨by omega, by simp only [List.length_append]; omega, ?_⟩ (by simp only; omega) rfl (by simp only [↓reduceIte, reduceCtorEq, reduceEqDiff, reduceAdd, reduceMul, reduceSub, reduceLeDiff, reduceEq, reduceLT, reduceLE, go_sem]; simp)
          rw [hg]
          cases gathI (fun _ => a.wr) true (i + 1) (v.kids.drop (i + 1)) with
          | none => rfl
          | some q => simp
    · simp only [decide_eq_false_iff_not] at h
      have ei : i = v.kids.length := by omega
      subst ei
      repeat' first | refine Z1 fun _ _ => ?_ | refine Z2 ‹_› ?_ | ((first | refine Z3 tb_ok lv38 rfl ?_ | refine Z4 tb_ok mix lv38 bs38 rfl (by kernel_rfl) rfl ?_ | refine Zr rfl ?_); simp only [↓reduceIte, reduceCtorEq, reduceEqDiff, reduceAdd, reduceMul, reduceSub, reduceLeDiff, reduceEq, reduceLT, reduceLE, go_sem]) | (refine Z5 rfl ?_; with_reducible first | refine ZT ?_ | refine ZF ?_) | refine ZS rfl ?_ | refine Z9 fun _ _ => ?_ | refine ZH ?_ | refine Zl ‹_› (by decide) ?_ | refine Zo rfl ?_ | refine Zp rfl ?_ | refine Zn rfl ?_ | fail
      rw [hg, List.drop_length]
      simp [gathI, resW]
set_option maxRecDepth 4000 in
set_option maxHeartbeats 1000000 in
theorem c_atG {gl} {l : List Nd} (hl : l.length ≤ 1048576) {off : Nat} {lo hi : Int} {a : T} (iha : AtC gl l off a) (hs : Sits l off (T.one 7 lo hi a)) : AtC gl l off (T.one 7 lo hi a) := by
  intro v hv hwf
  have hp := T.n_pos (T.one 7 lo hi a)
  have hr := hs.getD Nd.z
  have hlt := hs.lt
  have hb0 := c_plain (gl := gl) (v := v) (k := 7) (b := 0) (t := .empty) (p := 0) (n := v.kids.length)
  have hkl : v.kids.length ≤ 1048577 := by
    have := v.bulk_eq
    have := Vl.bulkL_len (l := v.kids)
    omega
  rw [decide_eq_true (rfl : (v.kids.length : Int) = (v.kids.length : Int)), Bool.and_true] at hb0
  have hw : (T.one 7 lo hi a).wr v = if v.plain 7 0 .empty 0 then (if lo ≤ v.kids.length ∧ (v.kids.length : Int) ≤ hi then gath a.wr true v.kids else none) else none := by rw [T.wr.eq_def]; rfl
  cases h1 : v.plain 7 0 .empty 0 with
  | false =>
    rw [h1] at hb0 hw
    rw [hw]
    refine PCon.enter tb_ok (fn := Try.f38) (by kernel_rfl) (by kernel_rfl) rfl (by show 3 ≤ 234; decide) ?_
    repeat' first | refine Z1 fun _ _ => ?_ | refine Z2 ‹_› ?_ | ((first | refine Z3 tb_ok lv38 rfl ?_ | refine Z4 tb_ok mix lv38 bs38 rfl (by kernel_rfl) rfl ?_ | refine Zr rfl ?_); simp only [↓reduceIte, reduceCtorEq, reduceEqDiff, reduceAdd, reduceMul, reduceSub, reduceLeDiff, reduceEq, reduceLT, reduceLE, go_sem]) | (refine Z5 rfl ?_; with_reducible first | refine ZT ?_ | refine ZF ?_) | refine ZS rfl ?_ | refine Z9 fun _ _ => ?_ | refine ZH ?_ | refine Zl ‹_› (by decide) ?_ | refine Zo rfl ?_ | refine Zp rfl ?_ | refine Zn rfl ?_ | fail
    refine idx_map Nd.z rfl rfl rfl rfl rfl (by omega) (by omega) rfl ?_
    simp only [Int.toNat_natCast, hr, T.root]
    simp only [↓reduceIte, reduceCtorEq, reduceEqDiff, reduceAdd, reduceMul, reduceSub, reduceLeDiff, reduceEq, reduceLT, reduceLE, go_sem]
    repeat' first | refine Z1 fun _ _ => ?_ | refine Z2 ‹_› ?_ | ((first | refine Z3 tb_ok lv38 rfl ?_ | refine Z4 tb_ok mix lv38 bs38 rfl (by kernel_rfl) rfl ?_ | refine Zr rfl ?_); simp only [↓reduceIte, reduceCtorEq, reduceEqDiff, reduceAdd, reduceMul, reduceSub, reduceLeDiff, reduceEq, reduceLT, reduceLE, go_sem]) | (refine Z5 rfl ?_; with_reducible first | refine ZT ?_ | refine ZF ?_) | refine ZS rfl ?_ | refine Z9 fun _ _ => ?_ | refine ZH ?_ | refine Zl ‹_› (by decide) ?_ | refine Zo rfl ?_ | refine Zp rfl ?_ | refine Zn rfl ?_ | fail
    refine call_pure rfl rfl (hb0) ?_; simp only [↓reduceIte, reduceCtorEq, reduceEqDiff, reduceAdd, reduceMul, reduceSub, reduceLeDiff, reduceEq, reduceLT, reduceLE, go_sem]
    repeat' first | refine Z1 fun _ _ => ?_ | refine Z2 ‹_› ?_ | ((first | refine Z3 tb_ok lv38 rfl ?_ | refine Z4 tb_ok mix lv38 bs38 rfl (by kernel_rfl) rfl ?_ | refine Zr rfl ?_); simp only [↓reduceIte, reduceCtorEq, reduceEqDiff, reduceAdd, reduceMul, reduceSub, reduceLeDiff, reduceEq, reduceLT, reduceLE, go_sem]) | (refine Z5 rfl ?_; with_reducible first | refine ZT ?_ | refine ZF ?_) | refine ZS rfl ?_ | refine Z9 fun _ _ => ?_ | refine ZH ?_ | refine Zl ‹_› (by decide) ?_ | refine Zo rfl ?_ | refine Zp rfl ?_ | refine Zn rfl ?_ | fail
    first | done | rfl
  | true =>
    rw [h1] at hb0 hw
    simp only [if_true] at hw
    by_cases h2 : lo ≤ (v.kids.length : Int)
    case neg =>
      rw [hw, if_neg (fun h => h2 h.1)]
      have k2 : decide ((v.kids.length : Int) < lo) = true := by simp; omega
      refine PCon.enter tb_ok (fn := Try.f38) (by kernel_rfl) (by kernel_rfl) rfl (by show 3 ≤ 234; decide) ?_
      repeat' first | refine Z1 fun _ _ => ?_ | refine Z2 ‹_› ?_ | ((first | refine Z3 tb_ok lv38 rfl ?_ | refine Z4 tb_ok mix lv38 bs38 rfl (by kernel_rfl) rfl ?_ | refine Zr rfl ?_); simp only [↓reduceIte, reduceCtorEq, reduceEqDiff, reduceAdd, reduceMul, reduceSub, reduceLeDiff, reduceEq, reduceLT, reduceLE, go_sem]) | (refine Z5 rfl ?_; with_reducible first | refine ZT ?_ | refine ZF ?_) | refine ZS rfl ?_ | refine Z9 fun _ _ => ?_ | refine ZH ?_ | refine Zl ‹_› (by decide) ?_ | refine Zo rfl ?_ | refine Zp rfl ?_ | refine Zn rfl ?_ | fail
      refine idx_map Nd.z rfl rfl rfl rfl rfl (by omega) (by omega) rfl ?_
      simp only [Int.toNat_natCast, hr, T.root]
      simp only [↓reduceIte, reduceCtorEq, reduceEqDiff, reduceAdd, reduceMul, reduceSub, reduceLeDiff, reduceEq, reduceLT, reduceLE, go_sem]
      repeat' first | refine Z1 fun _ _ => ?_ | refine Z2 ‹_› ?_ | ((first | refine Z3 tb_ok lv38 rfl ?_ | refine Z4 tb_ok mix lv38 bs38 rfl (by kernel_rfl) rfl ?_ | refine Zr rfl ?_); simp only [↓reduceIte, reduceCtorEq, reduceEqDiff, reduceAdd, reduceMul, reduceSub, reduceLeDiff, reduceEq, reduceLT, reduceLE, go_sem]) | (refine Z5 rfl ?_; with_reducible first | refine ZT ?_ | refine ZF ?_) | refine ZS rfl ?_ | refine Z9 fun _ _ => ?_ | refine ZH ?_ | refine Zl ‹_› (by decide) ?_ | refine Zo rfl ?_ | refine Zp rfl ?_ | refine Zn rfl ?_ | fail
      refine call_pure rfl rfl (hb0) ?_; simp only [↓reduceIte, reduceCtorEq, reduceEqDiff, reduceAdd, reduceMul, reduceSub, reduceLeDiff, reduceEq, reduceLT, reduceLE, go_sem]
      repeat' first | refine Z1 fun _ _ => ?_ | refine Z2 ‹_› ?_ | ((first | refine Z3 tb_ok lv38 rfl ?_ | refine Z4 tb_ok mix lv38 bs38 rfl (by kernel_rfl) rfl ?_ | refine Zr rfl ?_); simp only [↓reduceIte, reduceCtorEq, reduceEqDiff, reduceAdd, reduceMul, reduceSub, reduceLeDiff, reduceEq, reduceLT, reduceLE, go_sem]) | (refine Z5 rfl ?_; with_reducible first | refine ZT ?_ | refine ZF ?_) | refine ZS rfl ?_ | refine Z9 fun _ _ => ?_ | refine ZH ?_ | refine Zl ‹_› (by decide) ?_ | refine Zo rfl ?_ | refine Zp rfl ?_ | refine Zn rfl ?_ | fail
      simp only [↓reduceIte, reduceCtorEq, reduceEqDiff, reduceAdd, reduceMul, reduceSub, reduceLeDiff, reduceEq, reduceLT, reduceLE, go_sem, k2]
      repeat' first | refine Z1 fun _ _ => ?_ | refine Z2 ‹_› ?_ | ((first | refine Z3 tb_ok lv38 rfl ?_ | refine Z4 tb_ok mix lv38 bs38 rfl (by kernel_rfl) rfl ?_ | refine Zr rfl ?_); simp only [↓reduceIte, reduceCtorEq, reduceEqDiff, reduceAdd, reduceMul, reduceSub, reduceLeDiff, reduceEq, reduceLT, reduceLE, go_sem]) | (refine Z5 rfl ?_; with_reducible first | refine ZT ?_ | refine ZF ?_) | refine ZS rfl ?_ | refine Z9 fun _ _ => ?_ | refine ZH ?_ | refine Zl ‹_› (by decide) ?_ | refine Zo rfl ?_ | refine Zp rfl ?_ | refine Zn rfl ?_ | fail
      first | done | rfl
    by_cases h3 : (v.kids.length : Int) ≤ hi
    case neg =>
      rw [hw, if_neg (fun h => h3 h.2)]
      have k2 : decide ((v.kids.length : Int) < lo) = false := by simp; omega
      have k3 : decide ((v.kids.length : Int) > hi) = true := by simp; omega
      refine PCon.enter tb_ok (fn := Try.f38) (by kernel_rfl) (by kernel_rfl) rfl (by show 3 ≤ 234; decide) ?_
      repeat' first | refine Z1 fun _ _ => ?_ | refine Z2 ‹_› ?_ | ((first | refine Z3 tb_ok lv38 rfl ?_ | refine Z4 tb_ok mix lv38 bs38 rfl (by kernel_rfl) rfl ?_ | refine Zr rfl ?_); simp only [↓reduceIte, reduceCtorEq, reduceEqDiff, reduceAdd, reduceMul, reduceSub, reduceLeDiff, reduceEq, reduceLT, reduceLE, go_sem]) | (refine Z5 rfl ?_; with_reducible first | refine ZT ?_ | refine ZF ?_) | refine ZS rfl ?_ | refine Z9 fun _ _ => ?_ | refine ZH ?_ | refine Zl ‹_› (by decide) ?_ | refine Zo rfl ?_ | refine Zp rfl ?_ | refine Zn rfl ?_ | fail
      refine idx_map Nd.z rfl rfl rfl rfl rfl (by omega) (by omega) rfl ?_
      simp only [Int.toNat_natCast, hr, T.root]
      simp only [↓reduceIte, reduceCtorEq, reduceEqDiff, reduceAdd, reduceMul, reduceSub, reduceLeDiff, reduceEq, reduceLT, reduceLE, go_sem]
      repeat' first | refine Z1 fun _ _ => ?_ | refine Z2 ‹_› ?_ | ((first | refine Z3 tb_ok lv38 rfl ?_ | refine Z4 tb_ok mix lv38 bs38 rfl (by kernel_rfl) rfl ?_ | refine Zr rfl ?_); simp only [↓reduceIte, reduceCtorEq, reduceEqDiff, reduceAdd, reduceMul, reduceSub, reduceLeDiff, reduceEq, reduceLT, reduceLE, go_sem]) | (refine Z5 rfl ?_; with_reducible first | refine ZT ?_ | refine ZF ?_) | refine ZS rfl ?_ | refine Z9 fun _ _ => ?_ | refine ZH ?_ | refine Zl ‹_› (by decide) ?_ | refine Zo rfl ?_ | refine Zp rfl ?_ | refine Zn rfl ?_ | fail
      refine call_pure rfl rfl (hb0) ?_; simp only [↓reduceIte, reduceCtorEq, reduceEqDiff, reduceAdd, reduceMul, reduceSub, reduceLeDiff, reduceEq, reduceLT, reduceLE, go_sem]
      repeat' first | refine Z1 fun _ _ => ?_ | refine Z2 ‹_› ?_ | ((first | refine Z3 tb_ok lv38 rfl ?_ | refine Z4 tb_ok mix lv38 bs38 rfl (by kernel_rfl) rfl ?_ | refine Zr rfl ?_); simp only [↓reduceIte, reduceCtorEq, reduceEqDiff, reduceAdd, reduceMul, reduceSub, reduceLeDiff, reduceEq, reduceLT, reduceLE, go_sem]) | (refine Z5 rfl ?_; with_reducible first | refine ZT ?_ | refine ZF ?_) | refine ZS rfl ?_ | refine Z9 fun _ _ => ?_ | refine ZH ?_ | refine Zl ‹_› (by decide) ?_ | refine Zo rfl ?_ | refine Zp rfl ?_ | refine Zn rfl ?_ | fail
      simp only [↓reduceIte, reduceCtorEq, reduceEqDiff, reduceAdd, reduceMul, reduceSub, reduceLeDiff, reduceEq, reduceLT, reduceLE, go_sem, k2, k3]
      repeat' first | refine Z1 fun _ _ => ?_ | refine Z2 ‹_› ?_ | ((first | refine Z3 tb_ok lv38 rfl ?_ | refine Z4 tb_ok mix lv38 bs38 rfl (by kernel_rfl) rfl ?_ | refine Zr rfl ?_); simp only [↓reduceIte, reduceCtorEq, reduceEqDiff, reduceAdd, reduceMul, reduceSub, reduceLeDiff, reduceEq, reduceLT, reduceLE, go_sem]) | (refine Z5 rfl ?_; with_reducible first | refine ZT ?_ | refine ZF ?_) | refine ZS rfl ?_ | refine Z9 fun _ _ => ?_ | refine ZH ?_ | refine Zl ‹_› (by decide) ?_ | refine Zo rfl ?_ | refine Zp rfl ?_ | refine Zn rfl ?_ | fail
      first | done | rfl
    rw [if_pos ⟨h2, h3⟩] at hw
    have k2 : decide ((v.kids.length : Int) < lo) = false := by simp; omega
    have k3 : decide ((v.kids.length : Int) > hi) = false := by simp; omega
    rw [hw]
    refine PCon.enter tb_ok (fn := Try.f38) (by kernel_rfl) (by kernel_rfl) rfl (by show 3 ≤ 234; decide) ?_
    repeat' first | refine Z1 fun _ _ => ?_ | refine Z2 ‹_› ?_ | ((first | refine Z3 tb_ok lv38 rfl ?_ | refine Z4 tb_ok mix lv38 bs38 rfl (by kernel_rfl) rfl ?_ | refine Zr rfl ?_); simp only [↓reduceIte, reduceCtorEq, reduceEqDiff, reduceAdd, reduceMul, reduceSub, reduceLeDiff, reduceEq, reduceLT, reduceLE, go_sem]) | (refine Z5 rfl ?_; with_reducible first | refine ZT ?_ | refine ZF ?_) | refine ZS rfl ?_ | refine Z9 fun _ _ => ?_ | refine ZH ?_ | refine Zl ‹_› (by decide) ?_ | refine Zo rfl ?_ | refine Zp rfl ?_ | refine Zn rfl ?_ | fail
    refine idx_map Nd.z rfl rfl rfl rfl rfl (by omega) (by omega) rfl ?_
    simp only [Int.toNat_natCast, hr, T.root]
    simp only [↓reduceIte, reduceCtorEq, reduceEqDiff, reduceAdd, reduceMul, reduceSub, reduceLeDiff, reduceEq, reduceLT, reduceLE, go_sem]
    repeat' first | refine Z1 fun _ _ => ?_ | refine Z2 ‹_› ?_ | ((first | refine Z3 tb_ok lv38 rfl ?_ | refine Z4 tb_ok mix lv38 bs38 rfl (by kernel_rfl) rfl ?_ | refine Zr rfl ?_); simp only [↓reduceIte, reduceCtorEq, reduceEqDiff, reduceAdd, reduceMul, reduceSub, reduceLeDiff, reduceEq, reduceLT, reduceLE, go_sem]) | (refine Z5 rfl ?_; with_reducible first | refine ZT ?_ | refine ZF ?_) | refine ZS rfl ?_ | refine Z9 fun _ _ => ?_ | refine ZH ?_ | refine Zl ‹_› (by decide) ?_ | refine Zo rfl ?_ | refine Zp rfl ?_ | refine Zn rfl ?_ | fail
    refine call_pure rfl rfl (hb0) ?_; simp only [↓reduceIte, reduceCtorEq, reduceEqDiff, reduceAdd, reduceMul, reduceSub, reduceLeDiff, reduceEq, reduceLT, reduceLE, go_sem]
    repeat' first | refine Z1 fun _ _ => ?_ | refine Z2 ‹_› ?_ | ((first | refine Z3 tb_ok lv38 rfl ?_ | refine Z4 tb_ok mix lv38 bs38 rfl (by kernel_rfl) rfl ?_ | refine Zr rfl ?_); simp only [↓reduceIte, reduceCtorEq, reduceEqDiff, reduceAdd, reduceMul, reduceSub, reduceLeDiff, reduceEq, reduceLT, reduceLE, go_sem]) | (refine Z5 rfl ?_; with_reducible first | refine ZT ?_ | refine ZF ?_) | refine ZS rfl ?_ | refine Z9 fun _ _ => ?_ | refine ZH ?_ | refine Zl ‹_› (by decide) ?_ | refine Zo rfl ?_ | refine Zp rfl ?_ | refine Zn rfl ?_ | fail
    simp only [↓reduceIte, reduceCtorEq, reduceEqDiff, reduceAdd, reduceMul, reduceSub, reduceLeDiff, reduceEq, reduceLT, reduceLE, go_sem, k2, k3]
    repeat' first | refine Z1 fun _ _ => ?_ | refine Z2 ‹_› ?_ | ((first | refine Z3 tb_ok lv38 rfl ?_ | refine Z4 tb_ok mix lv38 bs38 rfl (by kernel_rfl) rfl ?_ | refine Zr rfl ?_); simp only [↓reduceIte, reduceCtorEq, reduceEqDiff, reduceAdd, reduceMul, reduceSub, reduceLeDiff, reduceEq, reduceLT, reduceLE, go_sem]) | (refine Z5 rfl ?_; with_reducible first | refine ZT ?_ | refine ZF ?_) | refine ZS rfl ?_ | refine Z9 fun _ _ => ?_ | refine ZH ?_ | refine Zl ‹_› (by decide) ?_ | refine Zo rfl ?_ | refine Zp rfl ?_ | refine Zn rfl ?_ | fail
    rw [← gathI_const (i := 0)] at *
    refine .loopS (α := Nat × List UInt8) (fun c => ⟨[(3, .ref 0 0), (5, .ref 1 0), (8, .ref 9 0), (9, .d (.int .i64 v.kids.length)), (14, .own 2), (15, .d (.int .i64 c.1))], [(2, .row true 5 1 (c.2.map encB)), (9, .box true [.d (.int .i64 7), .d (.int .i64 (off + (a.n - 1) : Nat)), .d (.int .i64 0), .d (.int .i64 lo), .d (.int .i64 hi), .d (.int .u64 0), .d (.int .u64 0), .d (.int .u64 0), .d (.int .u64 0), .d (.str .empty)]), (1, .box true [.d (.int .i64 v.kind), .d (.int .u8 v.byte), .d (.str v.text), .d (.int .i64 v.pick), .d (vals v.kids)]), (0, .box true [.d (nds l)])], 10⟩)
      (fun c => c.1 ≤ v.kids.length ∧ c.2.length ≤ c.1 * 4194304 ∧ gathI (fun _ => a.wr) true 0 v.kids = (gathI (fun _ => a.wr) true c.1 (v.kids.drop c.1)).map (c.2 ++ ·)) (fun c => v.kids.length - c.1) (0, []) ⟨by omega, by simp, by simp⟩ [(54, 2)] rfl (by simp only [↓reduceIte, reduceCtorEq, reduceEqDiff, reduceAdd, reduceMul, reduceSub, reduceLeDiff, reduceEq, reduceLT, reduceLE, go_sem]; simp) ?_
    rintro ⟨i, w⟩ ⟨hi', hwl, hg⟩ Q hQ
    simp only at hi' hwl hg
    repeat' first | refine Z1 fun _ _ => ?_ | refine Z2 ‹_› ?_ | ((first | refine Z3 tb_ok lv38 rfl ?_ | refine Z4 tb_ok mix lv38 bs38 rfl (by kernel_rfl) rfl ?_ | refine Zr rfl ?_); simp only [↓reduceIte, reduceCtorEq, reduceEqDiff, reduceAdd, reduceMul, reduceSub, reduceLeDiff, reduceEq, reduceLT, reduceLE, go_sem]) | (refine Z5 rfl ?_; with_reducible first | refine ZT ?_ | refine ZF ?_) | refine ZS rfl ?_ | refine Z9 fun _ _ => ?_ | refine ZH ?_ | refine Zl ‹_› (by decide) ?_ | refine Zo rfl ?_ | refine Zp rfl ?_ | refine Zn rfl ?_ | fail
    refine .cond rfl (fun h => ?_) (fun h => ?_)
    · simp only [decide_eq_true_eq] at h
      have hlt' : i < v.kids.length := by omega
      rw [drop_getD hlt' Vl.z, gathI] at hg
      have ka := iha _ (kid_bulk hv hlt') (hwf.kid (getD_mem hlt'))
      have kb : ∀ p, a.wr (v.kids.getD i Vl.z) = some p → p.length ≤ 4194304 := fun p h => wr_bd (kid_bulk hv hlt') h
      cases hF : a.wr (v.kids.getD i Vl.z) with
      | none =>
        rw [hF] at hg ka
        repeat' first | refine Z1 fun _ _ => ?_ | refine Z2 ‹_› ?_ | ((first | refine Z3 tb_ok lv38 rfl ?_ | refine Z4 tb_ok mix lv38 bs38 rfl (by kernel_rfl) rfl ?_ | refine Zr rfl ?_); simp only [↓reduceIte, reduceCtorEq, reduceEqDiff, reduceAdd, reduceMul, reduceSub, reduceLeDiff, reduceEq, reduceLT, reduceLE, go_sem]) | (refine Z5 rfl ?_; with_reducible first | refine ZT ?_ | refine ZF ?_) | refine ZS rfl ?_ | refine Z9 fun _ _ => ?_ | refine ZH ?_ | refine Zl ‹_› (by decide) ?_ | refine Zo rfl ?_ | refine Zp rfl ?_ | refine Zn rfl ?_ | fail
        refine idx_map Vl.z rfl rfl rfl rfl rfl (by omega) (by omega) (Vl.cells_len _) ?_
        simp only [↓reduceIte, reduceCtorEq, reduceEqDiff, reduceAdd, reduceMul, reduceSub, reduceLeDiff, reduceEq, reduceLT, reduceLE, go_sem]
        repeat' first | refine Z1 fun _ _ => ?_ | refine Z2 ‹_› ?_ | ((first | refine Z3 tb_ok lv38 rfl ?_ | refine Z4 tb_ok mix lv38 bs38 rfl (by kernel_rfl) rfl ?_ | refine Zr rfl ?_); simp only [↓reduceIte, reduceCtorEq, reduceEqDiff, reduceAdd, reduceMul, reduceSub, reduceLeDiff, reduceEq, reduceLT, reduceLE, go_sem]) | (refine Z5 rfl ?_; with_reducible first | refine ZT ?_ | refine ZF ?_) | refine ZS rfl ?_ | refine Z9 fun _ _ => ?_ | refine ZH ?_ | refine Zl ‹_› (by decide) ?_ | refine Zo rfl ?_ | refine Zp rfl ?_ | refine Zn rfl ?_ | fail
        refine call_pure rfl rfl (ka) ?_; simp only [↓reduceIte, reduceCtorEq, reduceEqDiff, reduceAdd, reduceMul, reduceSub, reduceLeDiff, reduceEq, reduceLT, reduceLE, go_sem]
        repeat' first | refine Z1 fun _ _ => ?_ | refine Z2 ‹_› ?_ | ((first | refine Z3 tb_ok lv38 rfl ?_ | refine Z4 tb_ok mix lv38 bs38 rfl (by kernel_rfl) rfl ?_ | refine Zr rfl ?_); simp only [↓reduceIte, reduceCtorEq, reduceEqDiff, reduceAdd, reduceMul, reduceSub, reduceLeDiff, reduceEq, reduceLT, reduceLE, go_sem]) | (refine Z5 rfl ?_; with_reducible first | refine ZT ?_ | refine ZF ?_) | refine ZS rfl ?_ | refine Z9 fun _ _ => ?_ | refine ZH ?_ | refine Zl ‹_› (by decide) ?_ | refine Zo rfl ?_ | refine Zp rfl ?_ | refine Zn rfl ?_ | fail
        try
          simp only [↓reduceIte, reduceCtorEq, reduceEqDiff, reduceAdd, reduceMul, reduceSub, reduceLeDiff, reduceEq, reduceLT, reduceLE, go_sem, Option.isSome_none, Option.getD_none]
          repeat' first | refine Z1 fun _ _ => ?_ | refine Z2 ‹_› ?_ | ((first | refine Z3 tb_ok lv38 rfl ?_ | refine Z4 tb_ok mix lv38 bs38 rfl (by kernel_rfl) rfl ?_ | refine Zr rfl ?_); simp only [↓reduceIte, reduceCtorEq, reduceEqDiff, reduceAdd, reduceMul, reduceSub, reduceLeDiff, reduceEq, reduceLT, reduceLE, go_sem]) | (refine Z5 rfl ?_; with_reducible first | refine ZT ?_ | refine ZF ?_) | refine ZS rfl ?_ | refine Z9 fun _ _ => ?_ | refine ZH ?_ | refine Zl ‹_› (by decide) ?_ | refine Zo rfl ?_ | refine Zp rfl ?_ | refine Zn rfl ?_ | fail
        rw [hg]
        rfl
      | some p =>
        rw [hF] at hg ka
        have hp' := kb p hF
        simp only [Bool.true_and] at hg
        repeat' first | refine Z1 fun _ _ => ?_ | refine Z2 ‹_› ?_ | ((first | refine Z3 tb_ok lv38 rfl ?_ | refine Z4 tb_ok mix lv38 bs38 rfl (by kernel_rfl) rfl ?_ | refine Zr rfl ?_); simp only [↓reduceIte, reduceCtorEq, reduceEqDiff, reduceAdd, reduceMul, reduceSub, reduceLeDiff, reduceEq, reduceLT, reduceLE, go_sem]) | (refine Z5 rfl ?_; with_reducible first | refine ZT ?_ | refine ZF ?_) | refine ZS rfl ?_ | refine Z9 fun _ _ => ?_ | refine ZH ?_ | refine Zl ‹_› (by decide) ?_ | refine Zo rfl ?_ | refine Zp rfl ?_ | refine Zn rfl ?_ | fail
        refine idx_map Vl.z rfl rfl rfl rfl rfl (by omega) (by omega) (Vl.cells_len _) ?_
        simp only [↓reduceIte, reduceCtorEq, reduceEqDiff, reduceAdd, reduceMul, reduceSub, reduceLeDiff, reduceEq, reduceLT, reduceLE, go_sem]
        repeat' first | refine Z1 fun _ _ => ?_ | refine Z2 ‹_› ?_ | ((first | refine Z3 tb_ok lv38 rfl ?_ | refine Z4 tb_ok mix lv38 bs38 rfl (by kernel_rfl) rfl ?_ | refine Zr rfl ?_); simp only [↓reduceIte, reduceCtorEq, reduceEqDiff, reduceAdd, reduceMul, reduceSub, reduceLeDiff, reduceEq, reduceLT, reduceLE, go_sem]) | (refine Z5 rfl ?_; with_reducible first | refine ZT ?_ | refine ZF ?_) | refine ZS rfl ?_ | refine Z9 fun _ _ => ?_ | refine ZH ?_ | refine Zl ‹_› (by decide) ?_ | refine Zo rfl ?_ | refine Zp rfl ?_ | refine Zn rfl ?_ | fail
        refine call_pure rfl rfl (ka) ?_; simp only [↓reduceIte, reduceCtorEq, reduceEqDiff, reduceAdd, reduceMul, reduceSub, reduceLeDiff, reduceEq, reduceLT, reduceLE, go_sem]
        repeat' first | refine Z1 fun _ _ => ?_ | refine Z2 ‹_› ?_ | ((first | refine Z3 tb_ok lv38 rfl ?_ | refine Z4 tb_ok mix lv38 bs38 rfl (by kernel_rfl) rfl ?_ | refine Zr rfl ?_); simp only [↓reduceIte, reduceCtorEq, reduceEqDiff, reduceAdd, reduceMul, reduceSub, reduceLeDiff, reduceEq, reduceLT, reduceLE, go_sem]) | (refine Z5 rfl ?_; with_reducible first | refine ZT ?_ | refine ZF ?_) | refine ZS rfl ?_ | refine Z9 fun _ _ => ?_ | refine ZH ?_ | refine Zl ‹_› (by decide) ?_ | refine Zo rfl ?_ | refine Zp rfl ?_ | refine Zn rfl ?_ | fail
        cases hc : p.isEmpty with
        | true =>
          have k4 : decide ((p.length : Int) = 0) = true := by cases p with
            | nil => rfl
            | cons x r => simp at hc
          rw [hc, if_pos rfl] at hg
          simp only [↓reduceIte, reduceCtorEq, reduceEqDiff, reduceAdd, reduceMul, reduceSub, reduceLeDiff, reduceEq, reduceLT, reduceLE, go_sem, Option.isSome_some, Option.getD_some, k4]
          repeat' first | refine Z1 fun _ _ => ?_ | refine Z2 ‹_› ?_ | ((first | refine Z3 tb_ok lv38 rfl ?_ | refine Z4 tb_ok mix lv38 bs38 rfl (by kernel_rfl) rfl ?_ | refine Zr rfl ?_); simp only [↓reduceIte, reduceCtorEq, reduceEqDiff, reduceAdd, reduceMul, reduceSub, reduceLeDiff, reduceEq, reduceLT, reduceLE, go_sem]) | (refine Z5 rfl ?_; with_reducible first | refine ZT ?_ | refine ZF ?_) | refine ZS rfl ?_ | refine Z9 fun _ _ => ?_ | refine ZH ?_ | refine Zl ‹_› (by decide) ?_ | refine Zo rfl ?_ | refine Zp rfl ?_ | refine Zn rfl ?_ | fail
          rw [hg]
          rfl
        | false =>
          have k4 : decide ((p.length : Int) = 0) = false := by cases p with
            | nil => simp at hc
            | cons x r => simp; omega
          rw [hc] at hg
          simp only [Bool.false_eq_true, if_false] at hg
          simp only [↓reduceIte, reduceCtorEq, reduceEqDiff, reduceAdd, reduceMul, reduceSub, reduceLeDiff, reduceEq, reduceLT, reduceLE, go_sem, Option.isSome_some, Option.getD_some, k4]
          repeat' first | refine Z1 fun _ _ => ?_ | refine Z2 ‹_› ?_ | ((first | refine Z3 tb_ok lv38 rfl ?_ | refine Z4 tb_ok mix lv38 bs38 rfl (by kernel_rfl) rfl ?_ | refine Zr rfl ?_); simp only [↓reduceIte, reduceCtorEq, reduceEqDiff, reduceAdd, reduceMul, reduceSub, reduceLeDiff, reduceEq, reduceLT, reduceLE, go_sem]) | (refine Z5 rfl ?_; with_reducible first | refine ZT ?_ | refine ZF ?_) | refine ZS rfl ?_ | refine Z9 fun _ _ => ?_ | refine ZH ?_ | refine Zl ‹_› (by decide) ?_ | refine Zo rfl ?_ | refine Zp rfl ?_ | refine Zn rfl ?_ | fail
          refine ⟨enc_one, by omega, by omega, ?_⟩
          repeat' first | refine Z1 fun _ _ => ?_ | refine Z2 ‹_› ?_ | ((first | refine Z3 tb_ok lv38 rfl ?_ | refine Z4 tb_ok mix lv38 bs38 rfl (by kernel_rfl) rfl ?_ | refine Zr rfl ?_); simp only [↓reduceIte, reduceCtorEq, reduceEqDiff, reduceAdd, reduceMul, reduceSub, reduceLeDiff, reduceEq, reduceLT, reduceLE, go_sem]) | (refine Z5 rfl ?_; with_reducible first | refine ZT ?_ | refine ZF ?_) | refine ZS rfl ?_ | refine Z9 fun _ _ => ?_ | refine ZH ?_ | refine Zl ‹_› (by decide) ?_ | refine Zo rfl ?_ | refine Zp rfl ?_ | refine Zn rfl ?_ | fail
          rw [wrap64 (by omega) (by omega)]
          refine hQ.next (i + 1, w ++ p) [(36, 2)] ⟨by omega, by simp only [List.length_append]; omega, ?_⟩ (by simp only; omega) rfl (by simp only [↓reduceIte, reduceCtorEq, reduceEqDiff, reduceAdd, reduceMul, reduceSub, reduceLeDiff, reduceEq, reduceLT, reduceLE, go_sem]; simp)
          rw [hg]
          cases gathI (fun _ => a.wr) true (i + 1) (v.kids.drop (i + 1)) with
          | none => rfl
          | some q => simp
    · simp only [decide_eq_false_iff_not] at h
      have ei : i = v.kids.length := by omega
      subst ei
      repeat' first | refine Z1 fun _ _ => ?_ | refine Z2 ‹_› ?_ | ((first | refine Z3 tb_ok lv38 rfl ?_ | refine Z4 tb_ok mix lv38 bs38 rfl (by kernel_rfl) rfl ?_ | refine Zr rfl ?_); simp only [↓reduceIte, reduceCtorEq, reduceEqDiff, reduceAdd, reduceMul, reduceSub, reduceLeDiff, reduceEq, reduceLT, reduceLE, go_sem]) | (refine Z5 rfl ?_; with_reducible first | refine ZT ?_ | refine ZF ?_) | refine ZS rfl ?_ | refine Z9 fun _ _ => ?_ | refine ZH ?_ | refine Zl ‹_› (by decide) ?_ | refine Zo rfl ?_ | refine Zp rfl ?_ | refine Zn rfl ?_ | fail
      rw [hg, List.drop_length]
      simp [gathI, resW]
set_option maxRecDepth 4000 in
set_option maxHeartbeats 1000000 in
theorem c_atH {gl} {l : List Nd} (hl : l.length ≤ 1048576) {off : Nat} {lo hi : Int} {a : T} (iha : AtC gl l off a) (hs : Sits l off (T.one 8 lo hi a)) : AtC gl l off (T.one 8 lo hi a) := by
  intro v hv hwf
  have hp := T.n_pos (T.one 8 lo hi a)
  have hr := hs.getD Nd.z
  have hlt := hs.lt
  have hb0 := c_plain (gl := gl) (v := v) (k := 8) (b := 0) (t := .empty) (p := 0) (n := 1)
  have hw : (T.one 8 lo hi a).wr v = if v.plain 8 0 .empty 0 then (match v.kids with
      | [x] => frW 255 (a.wr x)
      | _ => none) else none := by
    rw [T.wr.eq_def]
    simp only [show ¬ ((8 : Int) = 6) by decide, show ¬ ((8 : Int) = 7) by decide, if_false]
    cases v.plain 8 0 .empty 0 with
    | false => rfl
    | true =>
      simp only [if_true]
      match v.kids with
      | [] => rfl
      | [x] =>
        simp only [frW]
        cases a.wr x with
        | none => rfl
        | some p =>
          by_cases hp : p.length ≤ 255
          · simp [hp, show (p.length : Int) ≤ 255 by omega]
          · simp [hp, show ¬ (p.length : Int) ≤ 255 by omega]
      | x :: y :: r => rfl
  cases h1 : v.plain 8 0 .empty 0 <;> cases h2 : decide ((v.kids.length : Int) = 1)
  all_goals
    rw [h1] at hw
    rw [h1, h2] at hb0
    simp only [Bool.and_true, Bool.and_false] at hb0
    simp only [if_true, Bool.false_eq_true, if_false] at hw
  case true.true =>
    obtain ⟨x, hx⟩ := match_one (α := Unit) h2
    have hlen : v.kids.length = 1 := by rw [hx]; rfl
    have gx : v.kids.getD 0 Vl.z = x := by rw [hx]; rfl
    have ka := iha _ (kid_bulk hv (i := 0) (by omega)) (hwf.kid (getD_mem (i := 0) (by omega)))
    have kb : ∀ p, a.wr (v.kids.getD 0 Vl.z) = some p → p.length ≤ 4194304 := fun p h => wr_bd (kid_bulk hv (i := 0) (by omega)) h
    have hw' : (T.one 8 lo hi a).wr v = frW 255 (a.wr (v.kids.getD 0 Vl.z)) := by rw [hw, gx, hx]
    rw [hw']
    clear hw hw' gx
    cases hF : a.wr (v.kids.getD 0 Vl.z) with
    | none =>
      rw [hF] at ka
      refine PCon.enter tb_ok (fn := Try.f38) (by kernel_rfl) (by kernel_rfl) rfl (by show 3 ≤ 234; decide) ?_
      repeat' first | refine Z1 fun _ _ => ?_ | refine Z2 ‹_› ?_ | ((first | refine Z3 tb_ok lv38 rfl ?_ | refine Z4 tb_ok mix lv38 bs38 rfl (by kernel_rfl) rfl ?_ | refine Zr rfl ?_); simp only [↓reduceIte, reduceCtorEq, reduceEqDiff, reduceAdd, reduceMul, reduceSub, reduceLeDiff, reduceEq, reduceLT, reduceLE, go_sem]) | (refine Z5 rfl ?_; with_reducible first | refine ZT ?_ | refine ZF ?_) | refine ZS rfl ?_ | refine Z9 fun _ _ => ?_ | refine ZH ?_ | refine Zl ‹_› (by decide) ?_ | refine Zo rfl ?_ | refine Zp rfl ?_ | refine Zn rfl ?_ | fail
      refine idx_map Nd.z rfl rfl rfl rfl rfl (by omega) (by omega) rfl ?_
      simp only [Int.toNat_natCast, hr, T.root]
      simp only [↓reduceIte, reduceCtorEq, reduceEqDiff, reduceAdd, reduceMul, reduceSub, reduceLeDiff, reduceEq, reduceLT, reduceLE, go_sem]
      repeat' first | refine Z1 fun _ _ => ?_ | refine Z2 ‹_› ?_ | ((first | refine Z3 tb_ok lv38 rfl ?_ | refine Z4 tb_ok mix lv38 bs38 rfl (by kernel_rfl) rfl ?_ | refine Zr rfl ?_); simp only [↓reduceIte, reduceCtorEq, reduceEqDiff, reduceAdd, reduceMul, reduceSub, reduceLeDiff, reduceEq, reduceLT, reduceLE, go_sem]) | (refine Z5 rfl ?_; with_reducible first | refine ZT ?_ | refine ZF ?_) | refine ZS rfl ?_ | refine Z9 fun _ _ => ?_ | refine ZH ?_ | refine Zl ‹_› (by decide) ?_ | refine Zo rfl ?_ | refine Zp rfl ?_ | refine Zn rfl ?_ | fail
      refine call_pure rfl rfl (hb0) ?_; simp only [↓reduceIte, reduceCtorEq, reduceEqDiff, reduceAdd, reduceMul, reduceSub, reduceLeDiff, reduceEq, reduceLT, reduceLE, go_sem]
      repeat' first | refine Z1 fun _ _ => ?_ | refine Z2 ‹_› ?_ | ((first | refine Z3 tb_ok lv38 rfl ?_ | refine Z4 tb_ok mix lv38 bs38 rfl (by kernel_rfl) rfl ?_ | refine Zr rfl ?_); simp only [↓reduceIte, reduceCtorEq, reduceEqDiff, reduceAdd, reduceMul, reduceSub, reduceLeDiff, reduceEq, reduceLT, reduceLE, go_sem]) | (refine Z5 rfl ?_; with_reducible first | refine ZT ?_ | refine ZF ?_) | refine ZS rfl ?_ | refine Z9 fun _ _ => ?_ | refine ZH ?_ | refine Zl ‹_› (by decide) ?_ | refine Zo rfl ?_ | refine Zp rfl ?_ | refine Zn rfl ?_ | fail
      refine idx_map (j := 0) Vl.z rfl rfl rfl rfl rfl (by omega) (by omega) (Vl.cells_len _) ?_
      simp only [↓reduceIte, reduceCtorEq, reduceEqDiff, reduceAdd, reduceMul, reduceSub, reduceLeDiff, reduceEq, reduceLT, reduceLE, go_sem]
      repeat' first | refine Z1 fun _ _ => ?_ | refine Z2 ‹_› ?_ | ((first | refine Z3 tb_ok lv38 rfl ?_ | refine Z4 tb_ok mix lv38 bs38 rfl (by kernel_rfl) rfl ?_ | refine Zr rfl ?_); simp only [↓reduceIte, reduceCtorEq, reduceEqDiff, reduceAdd, reduceMul, reduceSub, reduceLeDiff, reduceEq, reduceLT, reduceLE, go_sem]) | (refine Z5 rfl ?_; with_reducible first | refine ZT ?_ | refine ZF ?_) | refine ZS rfl ?_ | refine Z9 fun _ _ => ?_ | refine ZH ?_ | refine Zl ‹_› (by decide) ?_ | refine Zo rfl ?_ | refine Zp rfl ?_ | refine Zn rfl ?_ | fail
      refine call_pure rfl rfl (ka) ?_; simp only [↓reduceIte, reduceCtorEq, reduceEqDiff, reduceAdd, reduceMul, reduceSub, reduceLeDiff, reduceEq, reduceLT, reduceLE, go_sem]
      repeat' first | refine Z1 fun _ _ => ?_ | refine Z2 ‹_› ?_ | ((first | refine Z3 tb_ok lv38 rfl ?_ | refine Z4 tb_ok mix lv38 bs38 rfl (by kernel_rfl) rfl ?_ | refine Zr rfl ?_); simp only [↓reduceIte, reduceCtorEq, reduceEqDiff, reduceAdd, reduceMul, reduceSub, reduceLeDiff, reduceEq, reduceLT, reduceLE, go_sem]) | (refine Z5 rfl ?_; with_reducible first | refine ZT ?_ | refine ZF ?_) | refine ZS rfl ?_ | refine Z9 fun _ _ => ?_ | refine ZH ?_ | refine Zl ‹_› (by decide) ?_ | refine Zo rfl ?_ | refine Zp rfl ?_ | refine Zn rfl ?_ | fail
      try
        simp only [↓reduceIte, reduceCtorEq, reduceEqDiff, reduceAdd, reduceMul, reduceSub, reduceLeDiff, reduceEq, reduceLT, reduceLE, go_sem, Option.isSome_none, Option.getD_none]
        repeat' first | refine Z1 fun _ _ => ?_ | refine Z2 ‹_› ?_ | ((first | refine Z3 tb_ok lv38 rfl ?_ | refine Z4 tb_ok mix lv38 bs38 rfl (by kernel_rfl) rfl ?_ | refine Zr rfl ?_); simp only [↓reduceIte, reduceCtorEq, reduceEqDiff, reduceAdd, reduceMul, reduceSub, reduceLeDiff, reduceEq, reduceLT, reduceLE, go_sem]) | (refine Z5 rfl ?_; with_reducible first | refine ZT ?_ | refine ZF ?_) | refine ZS rfl ?_ | refine Z9 fun _ _ => ?_ | refine ZH ?_ | refine Zl ‹_› (by decide) ?_ | refine Zo rfl ?_ | refine Zp rfl ?_ | refine Zn rfl ?_ | fail
      first | done | rfl
    | some p =>
      rw [hF] at ka
      have hp' := kb p hF
      have k5 : decide ((p.length : Int) > 255) = decide (255 < (p.length : Int)) := rfl
      by_cases h5 : (p.length : Int) ≤ 255
      · have hfr : frW 255 (some p) = some (byteOf p.length :: p) := by simp only [frW, if_pos h5]; rfl
        rw [hfr]
        have k6 : decide ((p.length : Int) > 255) = false := by simp; omega
        have k7 : decide ((p.length : Int) > 65535) = false := by simp; omega
        have e1 : IntKind.u8.wrap (p.length : Int) = ((byteOf p.length).toNat : Int) := by
          rw [IntKind.wrap_u8]; simp only [byteOf, UInt8.toNat_ofNat']; omega
        have e2 : IntKind.u8.wrap (IntKind.i64.wrap ((p.length : Int).tdiv 256)) = ((byteOf (p.length / 256 : Nat)).toNat : Int) := by
          rw [Int.tdiv_eq_ediv_of_nonneg (by omega), wrap64 (by omega) (by omega), IntKind.wrap_u8]; simp only [byteOf, UInt8.toNat_ofNat']; omega
        have e3 : IntKind.u8.wrap ((p.length : Int).tmod 256) = ((byteOf (p.length % 256 : Nat)).toNat : Int) := by
          rw [Int.tmod_eq_emod_of_nonneg (by omega), IntKind.wrap_u8]; simp only [byteOf, UInt8.toNat_ofNat']; omega
        refine PCon.enter tb_ok (fn := Try.f38) (by kernel_rfl) (by kernel_rfl) rfl (by show 3 ≤ 234; decide) ?_
        repeat' first | refine Z1 fun _ _ => ?_ | refine Z2 ‹_› ?_ | ((first | refine Z3 tb_ok lv38 rfl ?_ | refine Z4 tb_ok mix lv38 bs38 rfl (by kernel_rfl) rfl ?_ | refine Zr rfl ?_); simp only [↓reduceIte, reduceCtorEq, reduceEqDiff, reduceAdd, reduceMul, reduceSub, reduceLeDiff, reduceEq, reduceLT, reduceLE, go_sem]) | (refine Z5 rfl ?_; with_reducible first | refine ZT ?_ | refine ZF ?_) | refine ZS rfl ?_ | refine Z9 fun _ _ => ?_ | refine ZH ?_ | refine Zl ‹_› (by decide) ?_ | refine Zo rfl ?_ | refine Zp rfl ?_ | refine Zn rfl ?_ | fail
        refine idx_map Nd.z rfl rfl rfl rfl rfl (by omega) (by omega) rfl ?_
        simp only [Int.toNat_natCast, hr, T.root]
        simp only [↓reduceIte, reduceCtorEq, reduceEqDiff, reduceAdd, reduceMul, reduceSub, reduceLeDiff, reduceEq, reduceLT, reduceLE, go_sem]
        repeat' first | refine Z1 fun _ _ => ?_ | refine Z2 ‹_› ?_ | ((first | refine Z3 tb_ok lv38 rfl ?_ | refine Z4 tb_ok mix lv38 bs38 rfl (by kernel_rfl) rfl ?_ | refine Zr rfl ?_); simp only [↓reduceIte, reduceCtorEq, reduceEqDiff, reduceAdd, reduceMul, reduceSub, reduceLeDiff, reduceEq, reduceLT, reduceLE, go_sem]) | (refine Z5 rfl ?_; with_reducible first | refine ZT ?_ | refine ZF ?_) | refine ZS rfl ?_ | refine Z9 fun _ _ => ?_ | refine ZH ?_ | refine Zl ‹_› (by decide) ?_ | refine Zo rfl ?_ | refine Zp rfl ?_ | refine Zn rfl ?_ | fail
        refine call_pure rfl rfl (hb0) ?_; simp only [↓reduceIte, reduceCtorEq, reduceEqDiff, reduceAdd, reduceMul, reduceSub, reduceLeDiff, reduceEq, reduceLT, reduceLE, go_sem]
        repeat' first | refine Z1 fun _ _ => ?_ | refine Z2 ‹_› ?_ | ((first | refine Z3 tb_ok lv38 rfl ?_ | refine Z4 tb_ok mix lv38 bs38 rfl (by kernel_rfl) rfl ?_ | refine Zr rfl ?_); simp only [↓reduceIte, reduceCtorEq, reduceEqDiff, reduceAdd, reduceMul, reduceSub, reduceLeDiff, reduceEq, reduceLT, reduceLE, go_sem]) | (refine Z5 rfl ?_; with_reducible first | refine ZT ?_ | refine ZF ?_) | refine ZS rfl ?_ | refine Z9 fun _ _ => ?_ | refine ZH ?_ | refine Zl ‹_› (by decide) ?_ | refine Zo rfl ?_ | refine Zp rfl ?_ | refine Zn rfl ?_ | fail
        refine idx_map (j := 0) Vl.z rfl rfl rfl rfl rfl (by omega) (by omega) (Vl.cells_len _) ?_
        simp only [↓reduceIte, reduceCtorEq, reduceEqDiff, reduceAdd, reduceMul, reduceSub, reduceLeDiff, reduceEq, reduceLT, reduceLE, go_sem]
        repeat' first | refine Z1 fun _ _ => ?_ | refine Z2 ‹_› ?_ | ((first | refine Z3 tb_ok lv38 rfl ?_ | refine Z4 tb_ok mix lv38 bs38 rfl (by kernel_rfl) rfl ?_ | refine Zr rfl ?_); simp only [↓reduceIte, reduceCtorEq, reduceEqDiff, reduceAdd, reduceMul, reduceSub, reduceLeDiff, reduceEq, reduceLT, reduceLE, go_sem]) | (refine Z5 rfl ?_; with_reducible first | refine ZT ?_ | refine ZF ?_) | refine ZS rfl ?_ | refine Z9 fun _ _ => ?_ | refine ZH ?_ | refine Zl ‹_› (by decide) ?_ | refine Zo rfl ?_ | refine Zp rfl ?_ | refine Zn rfl ?_ | fail
        refine call_pure rfl rfl (ka) ?_; simp only [↓reduceIte, reduceCtorEq, reduceEqDiff, reduceAdd, reduceMul, reduceSub, reduceLeDiff, reduceEq, reduceLT, reduceLE, go_sem]
        repeat' first | refine Z1 fun _ _ => ?_ | refine Z2 ‹_› ?_ | ((first | refine Z3 tb_ok lv38 rfl ?_ | refine Z4 tb_ok mix lv38 bs38 rfl (by kernel_rfl) rfl ?_ | refine Zr rfl ?_); simp only [↓reduceIte, reduceCtorEq, reduceEqDiff, reduceAdd, reduceMul, reduceSub, reduceLeDiff, reduceEq, reduceLT, reduceLE, go_sem]) | (refine Z5 rfl ?_; with_reducible first | refine ZT ?_ | refine ZF ?_) | refine ZS rfl ?_ | refine Z9 fun _ _ => ?_ | refine ZH ?_ | refine Zl ‹_› (by decide) ?_ | refine Zo rfl ?_ | refine Zp rfl ?_ | refine Zn rfl ?_ | fail
        simp only [↓reduceIte, reduceCtorEq, reduceEqDiff, reduceAdd, reduceMul, reduceSub, reduceLeDiff, reduceEq, reduceLT, reduceLE, go_sem, Option.isSome_some, Option.getD_some, k6, k7]
        repeat' first | refine Z1 fun _ _ => ?_ | refine Z2 ‹_› ?_ | ((first | refine Z3 tb_ok lv38 rfl ?_ | refine Z4 tb_ok mix lv38 bs38 rfl (by kernel_rfl) rfl ?_ | refine Zr rfl ?_); simp only [↓reduceIte, reduceCtorEq, reduceEqDiff, reduceAdd, reduceMul, reduceSub, reduceLeDiff, reduceEq, reduceLT, reduceLE, go_sem]) | (refine Z5 rfl ?_; with_reducible first | refine ZT ?_ | refine ZF ?_) | refine ZS rfl ?_ | refine Z9 fun _ _ => ?_ | refine ZH ?_ | refine Zl ‹_› (by decide) ?_ | refine Zo rfl ?_ | refine Zp rfl ?_ | refine Zn rfl ?_ | fail
        refine ⟨enc_one, by omega, by omega, ?_⟩
        repeat' first | refine Z1 fun _ _ => ?_ | refine Z2 ‹_› ?_ | ((first | refine Z3 tb_ok lv38 rfl ?_ | refine Z4 tb_ok mix lv38 bs38 rfl (by kernel_rfl) rfl ?_ | refine Zr rfl ?_); simp only [↓reduceIte, reduceCtorEq, reduceEqDiff, reduceAdd, reduceMul, reduceSub, reduceLeDiff, reduceEq, reduceLT, reduceLE, go_sem]) | (refine Z5 rfl ?_; with_reducible first | refine ZT ?_ | refine ZF ?_) | refine ZS rfl ?_ | refine Z9 fun _ _ => ?_ | refine ZH ?_ | refine Zl ‹_› (by decide) ?_ | refine Zo rfl ?_ | refine Zp rfl ?_ | refine Zn rfl ?_ | fail
        rw [e1]
        rfl
      · have hfr : frW 255 (some p) = none := by simp only [frW, if_neg h5]
        rw [hfr]
        have k6 : decide ((p.length : Int) > 255) = true := by simp; omega
        have k7 : decide ((p.length : Int) > 255) = true := by simp; omega
        refine PCon.enter tb_ok (fn := Try.f38) (by kernel_rfl) (by kernel_rfl) rfl (by show 3 ≤ 234; decide) ?_
        repeat' first | refine Z1 fun _ _ => ?_ | refine Z2 ‹_› ?_ | ((first | refine Z3 tb_ok lv38 rfl ?_ | refine Z4 tb_ok mix lv38 bs38 rfl (by kernel_rfl) rfl ?_ | refine Zr rfl ?_); simp only [↓reduceIte, reduceCtorEq, reduceEqDiff, reduceAdd, reduceMul, reduceSub, reduceLeDiff, reduceEq, reduceLT, reduceLE, go_sem]) | (refine Z5 rfl ?_; with_reducible first | refine ZT ?_ | refine ZF ?_) | refine ZS rfl ?_ | refine Z9 fun _ _ => ?_ | refine ZH ?_ | refine Zl ‹_› (by decide) ?_ | refine Zo rfl ?_ | refine Zp rfl ?_ | refine Zn rfl ?_ | fail
        refine idx_map Nd.z rfl rfl rfl rfl rfl (by omega) (by omega) rfl ?_
        simp only [Int.toNat_natCast, hr, T.root]
        simp only [↓reduceIte, reduceCtorEq, reduceEqDiff, reduceAdd, reduceMul, reduceSub, reduceLeDiff, reduceEq, reduceLT, reduceLE, go_sem]
        repeat' first | refine Z1 fun _ _ => ?_ | refine Z2 ‹_› ?_ | ((first | refine Z3 tb_ok lv38 rfl ?_ | refine Z4 tb_ok mix lv38 bs38 rfl (by kernel_rfl) rfl ?_ | refine Zr rfl ?_); simp only [↓reduceIte, reduceCtorEq, reduceEqDiff, reduceAdd, reduceMul, reduceSub, reduceLeDiff, reduceEq, reduceLT, reduceLE, go_sem]) | (refine Z5 rfl ?_; with_reducible first | refine ZT ?_ | refine ZF ?_) | refine ZS rfl ?_ | refine Z9 fun _ _ => ?_ | refine ZH ?_ | refine Zl ‹_› (by decide) ?_ | refine Zo rfl ?_ | refine Zp rfl ?_ | refine Zn rfl ?_ | fail
        refine call_pure rfl rfl (hb0) ?_; simp only [↓reduceIte, reduceCtorEq, reduceEqDiff, reduceAdd, reduceMul, reduceSub, reduceLeDiff, reduceEq, reduceLT, reduceLE, go_sem]
        repeat' first | refine Z1 fun _ _ => ?_ | refine Z2 ‹_› ?_ | ((first | refine Z3 tb_ok lv38 rfl ?_ | refine Z4 tb_ok mix lv38 bs38 rfl (by kernel_rfl) rfl ?_ | refine Zr rfl ?_); simp only [↓reduceIte, reduceCtorEq, reduceEqDiff, reduceAdd, reduceMul, reduceSub, reduceLeDiff, reduceEq, reduceLT, reduceLE, go_sem]) | (refine Z5 rfl ?_; with_reducible first | refine ZT ?_ | refine ZF ?_) | refine ZS rfl ?_ | refine Z9 fun _ _ => ?_ | refine ZH ?_ | refine Zl ‹_› (by decide) ?_ | refine Zo rfl ?_ | refine Zp rfl ?_ | refine Zn rfl ?_ | fail
        refine idx_map (j := 0) Vl.z rfl rfl rfl rfl rfl (by omega) (by omega) (Vl.cells_len _) ?_
        simp only [↓reduceIte, reduceCtorEq, reduceEqDiff, reduceAdd, reduceMul, reduceSub, reduceLeDiff, reduceEq, reduceLT, reduceLE, go_sem]
        repeat' first | refine Z1 fun _ _ => ?_ | refine Z2 ‹_› ?_ | ((first | refine Z3 tb_ok lv38 rfl ?_ | refine Z4 tb_ok mix lv38 bs38 rfl (by kernel_rfl) rfl ?_ | refine Zr rfl ?_); simp only [↓reduceIte, reduceCtorEq, reduceEqDiff, reduceAdd, reduceMul, reduceSub, reduceLeDiff, reduceEq, reduceLT, reduceLE, go_sem]) | (refine Z5 rfl ?_; with_reducible first | refine ZT ?_ | refine ZF ?_) | refine ZS rfl ?_ | refine Z9 fun _ _ => ?_ | refine ZH ?_ | refine Zl ‹_› (by decide) ?_ | refine Zo rfl ?_ | refine Zp rfl ?_ | refine Zn rfl ?_ | fail
        refine call_pure rfl rfl (ka) ?_; simp only [↓reduceIte, reduceCtorEq, reduceEqDiff, reduceAdd, reduceMul, reduceSub, reduceLeDiff, reduceEq, reduceLT, reduceLE, go_sem]
        repeat' first | refine Z1 fun _ _ => ?_ | refine Z2 ‹_› ?_ | ((first | refine Z3 tb_ok lv38 rfl ?_ | refine Z4 tb_ok mix lv38 bs38 rfl (by kernel_rfl) rfl ?_ | refine Zr rfl ?_); simp only [↓reduceIte, reduceCtorEq, reduceEqDiff, reduceAdd, reduceMul, reduceSub, reduceLeDiff, reduceEq, reduceLT, reduceLE, go_sem]) | (refine Z5 rfl ?_; with_reducible first | refine ZT ?_ | refine ZF ?_) | refine ZS rfl ?_ | refine Z9 fun _ _ => ?_ | refine ZH ?_ | refine Zl ‹_› (by decide) ?_ | refine Zo rfl ?_ | refine Zp rfl ?_ | refine Zn rfl ?_ | fail
        simp only [↓reduceIte, reduceCtorEq, reduceEqDiff, reduceAdd, reduceMul, reduceSub, reduceLeDiff, reduceEq, reduceLT, reduceLE, go_sem, Option.isSome_some, Option.getD_some, k6, k7]
        repeat' first | refine Z1 fun _ _ => ?_ | refine Z2 ‹_› ?_ | ((first | refine Z3 tb_ok lv38 rfl ?_ | refine Z4 tb_ok mix lv38 bs38 rfl (by kernel_rfl) rfl ?_ | refine Zr rfl ?_); simp only [↓reduceIte, reduceCtorEq, reduceEqDiff, reduceAdd, reduceMul, reduceSub, reduceLeDiff, reduceEq, reduceLT, reduceLE, go_sem]) | (refine Z5 rfl ?_; with_reducible first | refine ZT ?_ | refine ZF ?_) | refine ZS rfl ?_ | refine Z9 fun _ _ => ?_ | refine ZH ?_ | refine Zl ‹_› (by decide) ?_ | refine Zo rfl ?_ | refine Zp rfl ?_ | refine Zn rfl ?_ | fail
        first | done | rfl
  case true.false =>
    have hw' : (T.one 8 lo hi a).wr v = none := by
      rw [hw]; exact no_oneK h2
    rw [hw']
    refine PCon.enter tb_ok (fn := Try.f38) (by kernel_rfl) (by kernel_rfl) rfl (by show 3 ≤ 234; decide) ?_
    repeat' first | refine Z1 fun _ _ => ?_ | refine Z2 ‹_› ?_ | ((first | refine Z3 tb_ok lv38 rfl ?_ | refine Z4 tb_ok mix lv38 bs38 rfl (by kernel_rfl) rfl ?_ | refine Zr rfl ?_); simp only [↓reduceIte, reduceCtorEq, reduceEqDiff, reduceAdd, reduceMul, reduceSub, reduceLeDiff, reduceEq, reduceLT, reduceLE, go_sem]) | (refine Z5 rfl ?_; with_reducible first | refine ZT ?_ | refine ZF ?_) | refine ZS rfl ?_ | refine Z9 fun _ _ => ?_ | refine ZH ?_ | refine Zl ‹_› (by decide) ?_ | refine Zo rfl ?_ | refine Zp rfl ?_ | refine Zn rfl ?_ | fail
    refine idx_map Nd.z rfl rfl rfl rfl rfl (by omega) (by omega) rfl ?_
    simp only [Int.toNat_natCast, hr, T.root]
    simp only [↓reduceIte, reduceCtorEq, reduceEqDiff, reduceAdd, reduceMul, reduceSub, reduceLeDiff, reduceEq, reduceLT, reduceLE, go_sem]
    repeat' first | refine Z1 fun _ _ => ?_ | refine Z2 ‹_› ?_ | ((first | refine Z3 tb_ok lv38 rfl ?_ | refine Z4 tb_ok mix lv38 bs38 rfl (by kernel_rfl) rfl ?_ | refine Zr rfl ?_); simp only [↓reduceIte, reduceCtorEq, reduceEqDiff, reduceAdd, reduceMul, reduceSub, reduceLeDiff, reduceEq, reduceLT, reduceLE, go_sem]) | (refine Z5 rfl ?_; with_reducible first | refine ZT ?_ | refine ZF ?_) | refine ZS rfl ?_ | refine Z9 fun _ _ => ?_ | refine ZH ?_ | refine Zl ‹_› (by decide) ?_ | refine Zo rfl ?_ | refine Zp rfl ?_ | refine Zn rfl ?_ | fail
    refine call_pure rfl rfl (hb0) ?_; simp only [↓reduceIte, reduceCtorEq, reduceEqDiff, reduceAdd, reduceMul, reduceSub, reduceLeDiff, reduceEq, reduceLT, reduceLE, go_sem]
    repeat' first | refine Z1 fun _ _ => ?_ | refine Z2 ‹_› ?_ | ((first | refine Z3 tb_ok lv38 rfl ?_ | refine Z4 tb_ok mix lv38 bs38 rfl (by kernel_rfl) rfl ?_ | refine Zr rfl ?_); simp only [↓reduceIte, reduceCtorEq, reduceEqDiff, reduceAdd, reduceMul, reduceSub, reduceLeDiff, reduceEq, reduceLT, reduceLE, go_sem]) | (refine Z5 rfl ?_; with_reducible first | refine ZT ?_ | refine ZF ?_) | refine ZS rfl ?_ | refine Z9 fun _ _ => ?_ | refine ZH ?_ | refine Zl ‹_› (by decide) ?_ | refine Zo rfl ?_ | refine Zp rfl ?_ | refine Zn rfl ?_ | fail
    first | done | rfl
  case false.true =>
    have hw' : (T.one 8 lo hi a).wr v = none := by
      exact hw
    rw [hw']
    refine PCon.enter tb_ok (fn := Try.f38) (by kernel_rfl) (by kernel_rfl) rfl (by show 3 ≤ 234; decide) ?_
    repeat' first | refine Z1 fun _ _ => ?_ | refine Z2 ‹_› ?_ | ((first | refine Z3 tb_ok lv38 rfl ?_ | refine Z4 tb_ok mix lv38 bs38 rfl (by kernel_rfl) rfl ?_ | refine Zr rfl ?_); simp only [↓reduceIte, reduceCtorEq, reduceEqDiff, reduceAdd, reduceMul, reduceSub, reduceLeDiff, reduceEq, reduceLT, reduceLE, go_sem]) | (refine Z5 rfl ?_; with_reducible first | refine ZT ?_ | refine ZF ?_) | refine ZS rfl ?_ | refine Z9 fun _ _ => ?_ | refine ZH ?_ | refine Zl ‹_› (by decide) ?_ | refine Zo rfl ?_ | refine Zp rfl ?_ | refine Zn rfl ?_ | fail
    refine idx_map Nd.z rfl rfl rfl rfl rfl (by omega) (by omega) rfl ?_
    simp only [Int.toNat_natCast, hr, T.root]
    simp only [↓reduceIte, reduceCtorEq, reduceEqDiff, reduceAdd, reduceMul, reduceSub, reduceLeDiff, reduceEq, reduceLT, reduceLE, go_sem]
    repeat' first | refine Z1 fun _ _ => ?_ | refine Z2 ‹_› ?_ | ((first | refine Z3 tb_ok lv38 rfl ?_ | refine Z4 tb_ok mix lv38 bs38 rfl (by kernel_rfl) rfl ?_ | refine Zr rfl ?_); simp only [↓reduceIte, reduceCtorEq, reduceEqDiff, reduceAdd, reduceMul, reduceSub, reduceLeDiff, reduceEq, reduceLT, reduceLE, go_sem]) | (refine Z5 rfl ?_; with_reducible first | refine ZT ?_ | refine ZF ?_) | refine ZS rfl ?_ | refine Z9 fun _ _ => ?_ | refine ZH ?_ | refine Zl ‹_› (by decide) ?_ | refine Zo rfl ?_ | refine Zp rfl ?_ | refine Zn rfl ?_ | fail
    refine call_pure rfl rfl (hb0) ?_; simp only [↓reduceIte, reduceCtorEq, reduceEqDiff, reduceAdd, reduceMul, reduceSub, reduceLeDiff, reduceEq, reduceLT, reduceLE, go_sem]
    repeat' first | refine Z1 fun _ _ => ?_ | refine Z2 ‹_› ?_ | ((first | refine Z3 tb_ok lv38 rfl ?_ | refine Z4 tb_ok mix lv38 bs38 rfl (by kernel_rfl) rfl ?_ | refine Zr rfl ?_); simp only [↓reduceIte, reduceCtorEq, reduceEqDiff, reduceAdd, reduceMul, reduceSub, reduceLeDiff, reduceEq, reduceLT, reduceLE, go_sem]) | (refine Z5 rfl ?_; with_reducible first | refine ZT ?_ | refine ZF ?_) | refine ZS rfl ?_ | refine Z9 fun _ _ => ?_ | refine ZH ?_ | refine Zl ‹_› (by decide) ?_ | refine Zo rfl ?_ | refine Zp rfl ?_ | refine Zn rfl ?_ | fail
    first | done | rfl
  case false.false =>
    have hw' : (T.one 8 lo hi a).wr v = none := by
      exact hw
    rw [hw']
    refine PCon.enter tb_ok (fn := Try.f38) (by kernel_rfl) (by kernel_rfl) rfl (by show 3 ≤ 234; decide) ?_
    repeat' first | refine Z1 fun _ _ => ?_ | refine Z2 ‹_› ?_ | ((first | refine Z3 tb_ok lv38 rfl ?_ | refine Z4 tb_ok mix lv38 bs38 rfl (by kernel_rfl) rfl ?_ | refine Zr rfl ?_); simp only [↓reduceIte, reduceCtorEq, reduceEqDiff, reduceAdd, reduceMul, reduceSub, reduceLeDiff, reduceEq, reduceLT, reduceLE, go_sem]) | (refine Z5 rfl ?_; with_reducible first | refine ZT ?_ | refine ZF ?_) | refine ZS rfl ?_ | refine Z9 fun _ _ => ?_ | refine ZH ?_ | refine Zl ‹_› (by decide) ?_ | refine Zo rfl ?_ | refine Zp rfl ?_ | refine Zn rfl ?_ | fail
    refine idx_map Nd.z rfl rfl rfl rfl rfl (by omega) (by omega) rfl ?_
    simp only [Int.toNat_natCast, hr, T.root]
    simp only [↓reduceIte, reduceCtorEq, reduceEqDiff, reduceAdd, reduceMul, reduceSub, reduceLeDiff, reduceEq, reduceLT, reduceLE, go_sem]
    repeat' first | refine Z1 fun _ _ => ?_ | refine Z2 ‹_› ?_ | ((first | refine Z3 tb_ok lv38 rfl ?_ | refine Z4 tb_ok mix lv38 bs38 rfl (by kernel_rfl) rfl ?_ | refine Zr rfl ?_); simp only [↓reduceIte, reduceCtorEq, reduceEqDiff, reduceAdd, reduceMul, reduceSub, reduceLeDiff, reduceEq, reduceLT, reduceLE, go_sem]) | (refine Z5 rfl ?_; with_reducible first | refine ZT ?_ | refine ZF ?_) | refine ZS rfl ?_ | refine Z9 fun _ _ => ?_ | refine ZH ?_ | refine Zl ‹_› (by decide) ?_ | refine Zo rfl ?_ | refine Zp rfl ?_ | refine Zn rfl ?_ | fail
    refine call_pure rfl rfl (hb0) ?_; simp only [↓reduceIte, reduceCtorEq, reduceEqDiff, reduceAdd, reduceMul, reduceSub, reduceLeDiff, reduceEq, reduceLT, reduceLE, go_sem]
    repeat' first | refine Z1 fun _ _ => ?_ | refine Z2 ‹_› ?_ | ((first | refine Z3 tb_ok lv38 rfl ?_ | refine Z4 tb_ok mix lv38 bs38 rfl (by kernel_rfl) rfl ?_ | refine Zr rfl ?_); simp only [↓reduceIte, reduceCtorEq, reduceEqDiff, reduceAdd, reduceMul, reduceSub, reduceLeDiff, reduceEq, reduceLT, reduceLE, go_sem]) | (refine Z5 rfl ?_; with_reducible first | refine ZT ?_ | refine ZF ?_) | refine ZS rfl ?_ | refine Z9 fun _ _ => ?_ | refine ZH ?_ | refine Zl ‹_› (by decide) ?_ | refine Zo rfl ?_ | refine Zp rfl ?_ | refine Zn rfl ?_ | fail
    first | done | rfl
set_option maxRecDepth 4000 in
set_option maxHeartbeats 1000000 in
theorem c_atI {gl} {l : List Nd} (hl : l.length ≤ 1048576) {off : Nat} {lo hi : Int} {a : T} (iha : AtC gl l off a) (hs : Sits l off (T.one 9 lo hi a)) : AtC gl l off (T.one 9 lo hi a) := by
  intro v hv hwf
  have hp := T.n_pos (T.one 9 lo hi a)
  have hr := hs.getD Nd.z
  have hlt := hs.lt
  have hb0 := c_plain (gl := gl) (v := v) (k := 9) (b := 0) (t := .empty) (p := 0) (n := 1)
  have hw : (T.one 9 lo hi a).wr v = if v.plain 9 0 .empty 0 then (match v.kids with
      | [x] => frW 65535 (a.wr x)
      | _ => none) else none := by
    rw [T.wr.eq_def]
    simp only [show ¬ ((9 : Int) = 6) by decide, show ¬ ((9 : Int) = 7) by decide, if_false]
    cases v.plain 9 0 .empty 0 with
    | false => rfl
    | true =>
      simp only [if_true]
      match v.kids with
      | [] => rfl
      | [x] =>
        simp only [frW]
        cases a.wr x with
        | none => rfl
        | some p =>
          by_cases hp : p.length ≤ 65535
          · simp [hp, show (p.length : Int) ≤ 65535 by omega]
          · simp [hp, show ¬ (p.length : Int) ≤ 65535 by omega]
      | x :: y :: r => rfl
  cases h1 : v.plain 9 0 .empty 0 <;> cases h2 : decide ((v.kids.length : Int) = 1)
  all_goals
    rw [h1] at hw
    rw [h1, h2] at hb0
    simp only [Bool.and_true, Bool.and_false] at hb0
    simp only [if_true, Bool.false_eq_true, if_false] at hw
  case true.true =>
    obtain ⟨x, hx⟩ := match_one (α := Unit) h2
    have hlen : v.kids.length = 1 := by rw [hx]; rfl
    have gx : v.kids.getD 0 Vl.z = x := by rw [hx]; rfl
    have ka := iha _ (kid_bulk hv (i := 0) (by omega)) (hwf.kid (getD_mem (i := 0) (by omega)))
    have kb : ∀ p, a.wr (v.kids.getD 0 Vl.z) = some p → p.length ≤ 4194304 := fun p h => wr_bd (kid_bulk hv (i := 0) (by omega)) h
    have hw' : (T.one 9 lo hi a).wr v = frW 65535 (a.wr (v.kids.getD 0 Vl.z)) := by rw [hw, gx, hx]
    rw [hw']
    clear hw hw' gx
    cases hF : a.wr (v.kids.getD 0 Vl.z) with
    | none =>
      rw [hF] at ka
      refine PCon.enter tb_ok (fn := Try.f38) (by kernel_rfl) (by kernel_rfl) rfl (by show 3 ≤ 234; decide) ?_
      repeat' first | refine Z1 fun _ _ => ?_ | refine Z2 ‹_› ?_ | ((first | refine Z3 tb_ok lv38 rfl ?_ | refine Z4 tb_ok mix lv38 bs38 rfl (by kernel_rfl) rfl ?_ | refine Zr rfl ?_); simp only [↓reduceIte, reduceCtorEq, reduceEqDiff, reduceAdd, reduceMul, reduceSub, reduceLeDiff, reduceEq, reduceLT, reduceLE, go_sem]) | (refine Z5 rfl ?_; with_reducible first | refine ZT ?_ | refine ZF ?_) | refine ZS rfl ?_ | refine Z9 fun _ _ => ?_ | refine ZH ?_ | refine Zl ‹_› (by decide) ?_ | refine Zo rfl ?_ | refine Zp rfl ?_ | refine Zn rfl ?_ | fail
      refine idx_map Nd.z rfl rfl rfl rfl rfl (by omega) (by omega) rfl ?_
      simp only [Int.toNat_natCast, hr, T.root]
      simp only [↓reduceIte, reduceCtorEq, reduceEqDiff, reduceAdd, reduceMul, reduceSub, reduceLeDiff, reduceEq, reduceLT, reduceLE, go_sem]
      repeat' first | refine Z1 fun _ _ => ?_ | refine Z2 ‹_› ?_ | ((first | refine Z3 tb_ok lv38 rfl ?_ | refine Z4 tb_ok mix lv38 bs38 rfl (by kernel_rfl) rfl ?_ | refine Zr rfl ?_); simp only [↓reduceIte, reduceCtorEq, reduceEqDiff, reduceAdd, reduceMul, reduceSub, reduceLeDiff, reduceEq, reduceLT, reduceLE, go_sem]) | (refine Z5 rfl ?_; with_reducible first | refine ZT ?_ | refine ZF ?_) | refine ZS rfl ?_ | refine Z9 fun _ _ => ?_ | refine ZH ?_ | refine Zl ‹_› (by decide) ?_ | refine Zo rfl ?_ | refine Zp rfl ?_ | refine Zn rfl ?_ | fail
      refine call_pure rfl rfl (hb0) ?_; simp only [↓reduceIte, reduceCtorEq, reduceEqDiff, reduceAdd, reduceMul, reduceSub, reduceLeDiff, reduceEq, reduceLT, reduceLE, go_sem]
      repeat' first | refine Z1 fun _ _ => ?_ | refine Z2 ‹_› ?_ | ((first | refine Z3 tb_ok lv38 rfl ?_ | refine Z4 tb_ok mix lv38 bs38 rfl (by kernel_rfl) rfl ?_ | refine Zr rfl ?_); simp only [↓reduceIte, reduceCtorEq, reduceEqDiff, reduceAdd, reduceMul, reduceSub, reduceLeDiff, reduceEq, reduceLT, reduceLE, go_sem]) | (refine Z5 rfl ?_; with_reducible first | refine ZT ?_ | refine ZF ?_) | refine ZS rfl ?_ | refine Z9 fun _ _ => ?_ | refine ZH ?_ | refine Zl ‹_› (by decide) ?_ | refine Zo rfl ?_ | refine Zp rfl ?_ | refine Zn rfl ?_ | fail
      refine idx_map (j := 0) Vl.z rfl rfl rfl rfl rfl (by omega) (by omega) (Vl.cells_len _) ?_
      simp only [↓reduceIte, reduceCtorEq, reduceEqDiff, reduceAdd, reduceMul, reduceSub, reduceLeDiff, reduceEq, reduceLT, reduceLE, go_sem]
      repeat' first | refine Z1 fun _ _ => ?_ | refine Z2 ‹_› ?_ | ((first | refine Z3 tb_ok lv38 rfl ?_ | refine Z4 tb_ok mix lv38 bs38 rfl (by kernel_rfl) rfl ?_ | refine Zr rfl ?_); simp only [↓reduceIte, reduceCtorEq, reduceEqDiff, reduceAdd, reduceMul, reduceSub, reduceLeDiff, reduceEq, reduceLT, reduceLE, go_sem]) | (refine Z5 rfl ?_; with_reducible first | refine ZT ?_ | refine ZF ?_) | refine ZS rfl ?_ | refine Z9 fun _ _ => ?_ | refine ZH ?_ | refine Zl ‹_› (by decide) ?_ | refine Zo rfl ?_ | refine Zp rfl ?_ | refine Zn rfl ?_ | fail
      refine call_pure rfl rfl (ka) ?_; simp only [↓reduceIte, reduceCtorEq, reduceEqDiff, reduceAdd, reduceMul, reduceSub, reduceLeDiff, reduceEq, reduceLT, reduceLE, go_sem]
      repeat' first | refine Z1 fun _ _ => ?_ | refine Z2 ‹_› ?_ | ((first | refine Z3 tb_ok lv38 rfl ?_ | refine Z4 tb_ok mix lv38 bs38 rfl (by kernel_rfl) rfl ?_ | refine Zr rfl ?_); simp only [↓reduceIte, reduceCtorEq, reduceEqDiff, reduceAdd, reduceMul, reduceSub, reduceLeDiff, reduceEq, reduceLT, reduceLE, go_sem]) | (refine Z5 rfl ?_; with_reducible first | refine ZT ?_ | refine ZF ?_) | refine ZS rfl ?_ | refine Z9 fun _ _ => ?_ | refine ZH ?_ | refine Zl ‹_› (by decide) ?_ | refine Zo rfl ?_ | refine Zp rfl ?_ | refine Zn rfl ?_ | fail
      try
        simp only [↓reduceIte, reduceCtorEq, reduceEqDiff, reduceAdd, reduceMul, reduceSub, reduceLeDiff, reduceEq, reduceLT, reduceLE, go_sem, Option.isSome_none, Option.getD_none]
        repeat' first | refine Z1 fun _ _ => ?_ | refine Z2 ‹_› ?_ | ((first | refine Z3 tb_ok lv38 rfl ?_ | refine Z4 tb_ok mix lv38 bs38 rfl (by kernel_rfl) rfl ?_ | refine Zr rfl ?_); simp only [↓reduceIte, reduceCtorEq, reduceEqDiff, reduceAdd, reduceMul, reduceSub, reduceLeDiff, reduceEq, reduceLT, reduceLE, go_sem]) | (refine Z5 rfl ?_; with_reducible first | refine ZT ?_ | refine ZF ?_) | refine ZS rfl ?_ | refine Z9 fun _ _ => ?_ | refine ZH ?_ | refine Zl ‹_› (by decide) ?_ | refine Zo rfl ?_ | refine Zp rfl ?_ | refine Zn rfl ?_ | fail
      first | done | rfl
    | some p =>
      rw [hF] at ka
      have hp' := kb p hF
      have k5 : decide ((p.length : Int) > 255) = decide (255 < (p.length : Int)) := rfl
      by_cases h5 : (p.length : Int) ≤ 65535
      · have hfr : frW 65535 (some p) = some (byteOf (p.length / 256 : Nat) :: byteOf (p.length % 256 : Nat) :: p) := by simp only [frW, if_pos h5]; rfl
        rw [hfr]
        have k6 : decide ((p.length : Int) > 255) = decide (255 < (p.length : Int)) := by rfl
        have k7 : decide ((p.length : Int) > 65535) = false := by simp; omega
        have e1 : IntKind.u8.wrap (p.length : Int) = ((byteOf p.length).toNat : Int) := by
          rw [IntKind.wrap_u8]; simp only [byteOf, UInt8.toNat_ofNat']; omega
        have e2 : IntKind.u8.wrap (IntKind.i64.wrap ((p.length : Int).tdiv 256)) = ((byteOf (p.length / 256 : Nat)).toNat : Int) := by
          rw [Int.tdiv_eq_ediv_of_nonneg (by omega), wrap64 (by omega) (by omega), IntKind.wrap_u8]; simp only [byteOf, UInt8.toNat_ofNat']; omega
        have e3 : IntKind.u8.wrap ((p.length : Int).tmod 256) = ((byteOf (p.length % 256 : Nat)).toNat : Int) := by
          rw [Int.tmod_eq_emod_of_nonneg (by omega), IntKind.wrap_u8]; simp only [byteOf, UInt8.toNat_ofNat']; omega
        refine PCon.enter tb_ok (fn := Try.f38) (by kernel_rfl) (by kernel_rfl) rfl (by show 3 ≤ 234; decide) ?_
        repeat' first | refine Z1 fun _ _ => ?_ | refine Z2 ‹_› ?_ | ((first | refine Z3 tb_ok lv38 rfl ?_ | refine Z4 tb_ok mix lv38 bs38 rfl (by kernel_rfl) rfl ?_ | refine Zr rfl ?_); simp only [↓reduceIte, reduceCtorEq, reduceEqDiff, reduceAdd, reduceMul, reduceSub, reduceLeDiff, reduceEq, reduceLT, reduceLE, go_sem]) | (refine Z5 rfl ?_; with_reducible first | refine ZT ?_ | refine ZF ?_) | refine ZS rfl ?_ | refine Z9 fun _ _ => ?_ | refine ZH ?_ | refine Zl ‹_› (by decide) ?_ | refine Zo rfl ?_ | refine Zp rfl ?_ | refine Zn rfl ?_ | fail
        refine idx_map Nd.z rfl rfl rfl rfl rfl (by omega) (by omega) rfl ?_
        simp only [Int.toNat_natCast, hr, T.root]
        simp only [↓reduceIte, reduceCtorEq, reduceEqDiff, reduceAdd, reduceMul, reduceSub, reduceLeDiff, reduceEq, reduceLT, reduceLE, go_sem]
        repeat' first | refine Z1 fun _ _ => ?_ | refine Z2 ‹_› ?_ | ((first | refine Z3 tb_ok lv38 rfl ?_ | refine Z4 tb_ok mix lv38 bs38 rfl (by kernel_rfl) rfl ?_ | refine Zr rfl ?_); simp only [↓reduceIte, reduceCtorEq, reduceEqDiff, reduceAdd, reduceMul, reduceSub, reduceLeDiff, reduceEq, reduceLT, reduceLE, go_sem]) | (refine Z5 rfl ?_; with_reducible first | refine ZT ?_ | refine ZF ?_) | refine ZS rfl ?_ | refine Z9 fun _ _ => ?_ | refine ZH ?_ | refine Zl ‹_› (by decide) ?_ | refine Zo rfl ?_ | refine Zp rfl ?_ | refine Zn rfl ?_ | fail
        refine call_pure rfl rfl (hb0) ?_; simp only [↓reduceIte, reduceCtorEq, reduceEqDiff, reduceAdd, reduceMul, reduceSub, reduceLeDiff, reduceEq, reduceLT, reduceLE, go_sem]
        repeat' first | refine Z1 fun _ _ => ?_ | refine Z2 ‹_› ?_ | ((first | refine Z3 tb_ok lv38 rfl ?_ | refine Z4 tb_ok mix lv38 bs38 rfl (by kernel_rfl) rfl ?_ | refine Zr rfl ?_); simp only [↓reduceIte, reduceCtorEq, reduceEqDiff, reduceAdd, reduceMul, reduceSub, reduceLeDiff, reduceEq, reduceLT, reduceLE, go_sem]) | (refine Z5 rfl ?_; with_reducible first | refine ZT ?_ | refine ZF ?_) | refine ZS rfl ?_ | refine Z9 fun _ _ => ?_ | refine ZH ?_ | refine Zl ‹_› (by decide) ?_ | refine Zo rfl ?_ | refine Zp rfl ?_ | refine Zn rfl ?_ | fail
        refine idx_map (j := 0) Vl.z rfl rfl rfl rfl rfl (by omega) (by omega) (Vl.cells_len _) ?_
        simp only [↓reduceIte, reduceCtorEq, reduceEqDiff, reduceAdd, reduceMul, reduceSub, reduceLeDiff, reduceEq, reduceLT, reduceLE, go_sem]
        repeat' first | refine Z1 fun _ _ => ?_ | refine Z2 ‹_› ?_ | ((first | refine Z3 tb_ok lv38 rfl ?_ | refine Z4 tb_ok mix lv38 bs38 rfl (by kernel_rfl) rfl ?_ | refine Zr rfl ?_); simp only [↓reduceIte, reduceCtorEq, reduceEqDiff, reduceAdd, reduceMul, reduceSub, reduceLeDiff, reduceEq, reduceLT, reduceLE, go_sem]) | (refine Z5 rfl ?_; with_reducible first | refine ZT ?_ | refine ZF ?_) | refine ZS rfl ?_ | refine Z9 fun _ _ => ?_ | refine ZH ?_ | refine Zl ‹_› (by decide) ?_ | refine Zo rfl ?_ | refine Zp rfl ?_ | refine Zn rfl ?_ | fail
        refine call_pure rfl rfl (ka) ?_; simp only [↓reduceIte, reduceCtorEq, reduceEqDiff, reduceAdd, reduceMul, reduceSub, reduceLeDiff, reduceEq, reduceLT, reduceLE, go_sem]
        repeat' first | refine Z1 fun _ _ => ?_ | refine Z2 ‹_› ?_ | ((first | refine Z3 tb_ok lv38 rfl ?_ | refine Z4 tb_ok mix lv38 bs38 rfl (by kernel_rfl) rfl ?_ | refine Zr rfl ?_); simp only [↓reduceIte, reduceCtorEq, reduceEqDiff, reduceAdd, reduceMul, reduceSub, reduceLeDiff, reduceEq, reduceLT, reduceLE, go_sem]) | (refine Z5 rfl ?_; with_reducible first | refine ZT ?_ | refine ZF ?_) | refine ZS rfl ?_ | refine Z9 fun _ _ => ?_ | refine ZH ?_ | refine Zl ‹_› (by decide) ?_ | refine Zo rfl ?_ | refine Zp rfl ?_ | refine Zn rfl ?_ | fail
        simp only [↓reduceIte, reduceCtorEq, reduceEqDiff, reduceAdd, reduceMul, reduceSub, reduceLeDiff, reduceEq, reduceLT, reduceLE, go_sem, Option.isSome_some, Option.getD_some, k6, k7]
        repeat' first | refine Z1 fun _ _ => ?_ | refine Z2 ‹_› ?_ | ((first | refine Z3 tb_ok lv38 rfl ?_ | refine Z4 tb_ok mix lv38 bs38 rfl (by kernel_rfl) rfl ?_ | refine Zr rfl ?_); simp only [↓reduceIte, reduceCtorEq, reduceEqDiff, reduceAdd, reduceMul, reduceSub, reduceLeDiff, reduceEq, reduceLT, reduceLE, go_sem]) | (refine Z5 rfl ?_; with_reducible first | refine ZT ?_ | refine ZF ?_) | refine ZS rfl ?_ | refine Z9 fun _ _ => ?_ | refine ZH ?_ | refine Zl ‹_› (by decide) ?_ | refine Zo rfl ?_ | refine Zp rfl ?_ | refine Zn rfl ?_ | fail
        refine ⟨enc_one, by omega, by omega, ?_⟩
        repeat' first | refine Z1 fun _ _ => ?_ | refine Z2 ‹_› ?_ | ((first | refine Z3 tb_ok lv38 rfl ?_ | refine Z4 tb_ok mix lv38 bs38 rfl (by kernel_rfl) rfl ?_ | refine Zr rfl ?_); simp only [↓reduceIte, reduceCtorEq, reduceEqDiff, reduceAdd, reduceMul, reduceSub, reduceLeDiff, reduceEq, reduceLT, reduceLE, go_sem]) | (refine Z5 rfl ?_; with_reducible first | refine ZT ?_ | refine ZF ?_) | refine ZS rfl ?_ | refine Z9 fun _ _ => ?_ | refine ZH ?_ | refine Zl ‹_› (by decide) ?_ | refine Zo rfl ?_ | refine Zp rfl ?_ | refine Zn rfl ?_ | fail
        rw [e2, e3]
        rfl
      · have hfr : frW 65535 (some p) = none := by simp only [frW, if_neg h5]
        rw [hfr]
        have k6 : decide ((p.length : Int) > 255) = true := by simp; omega
        have k7 : decide ((p.length : Int) > 65535) = true := by simp; omega
        refine PCon.enter tb_ok (fn := Try.f38) (by kernel_rfl) (by kernel_rfl) rfl (by show 3 ≤ 234; decide) ?_
        repeat' first | refine Z1 fun _ _ => ?_ | refine Z2 ‹_› ?_ | ((first | refine Z3 tb_ok lv38 rfl ?_ | refine Z4 tb_ok mix lv38 bs38 rfl (by kernel_rfl) rfl ?_ | refine Zr rfl ?_); simp only [↓reduceIte, reduceCtorEq, reduceEqDiff, reduceAdd, reduceMul, reduceSub, reduceLeDiff, reduceEq, reduceLT, reduceLE, go_sem]) | (refine Z5 rfl ?_; with_reducible first | refine ZT ?_ | refine ZF ?_) | refine ZS rfl ?_ | refine Z9 fun _ _ => ?_ | refine ZH ?_ | refine Zl ‹_› (by decide) ?_ | refine Zo rfl ?_ | refine Zp rfl ?_ | refine Zn rfl ?_ | fail
        refine idx_map Nd.z rfl rfl rfl rfl rfl (by omega) (by omega) rfl ?_
        simp only [Int.toNat_natCast, hr, T.root]
        simp only [↓reduceIte, reduceCtorEq, reduceEqDiff, reduceAdd, reduceMul, reduceSub, reduceLeDiff, reduceEq, reduceLT, reduceLE, go_sem]
        repeat' first | refine Z1 fun _ _ => ?_ | refine Z2 ‹_› ?_ | ((first | refine Z3 tb_ok lv38 rfl ?_ | refine Z4 tb_ok mix lv38 bs38 rfl (by kernel_rfl) rfl ?_ | refine Zr rfl ?_); simp only [↓reduceIte, reduceCtorEq, reduceEqDiff, reduceAdd, reduceMul, reduceSub, reduceLeDiff, reduceEq, reduceLT, reduceLE, go_sem]) | (refine Z5 rfl ?_; with_reducible first | refine ZT ?_ | refine ZF ?_) | refine ZS rfl ?_ | refine Z9 fun _ _ => ?_ | refine ZH ?_ | refine Zl ‹_› (by decide) ?_ | refine Zo rfl ?_ | refine Zp rfl ?_ | refine Zn rfl ?_ | fail
        refine call_pure rfl rfl (hb0) ?_; simp only [↓reduceIte, reduceCtorEq, reduceEqDiff, reduceAdd, reduceMul, reduceSub, reduceLeDiff, reduceEq, reduceLT, reduceLE, go_sem]
        repeat' first | refine Z1 fun _ _ => ?_ | refine Z2 ‹_› ?_ | ((first | refine Z3 tb_ok lv38 rfl ?_ | refine Z4 tb_ok mix lv38 bs38 rfl (by kernel_rfl) rfl ?_ | refine Zr rfl ?_); simp only [↓reduceIte, reduceCtorEq, reduceEqDiff, reduceAdd, reduceMul, reduceSub, reduceLeDiff, reduceEq, reduceLT, reduceLE, go_sem]) | (refine Z5 rfl ?_; with_reducible first | refine ZT ?_ | refine ZF ?_) | refine ZS rfl ?_ | refine Z9 fun _ _ => ?_ | refine ZH ?_ | refine Zl ‹_› (by decide) ?_ | refine Zo rfl ?_ | refine Zp rfl ?_ | refine Zn rfl ?_ | fail
        refine idx_map (j := 0) Vl.z rfl rfl rfl rfl rfl (by omega) (by omega) (Vl.cells_len _) ?_
        simp only [↓reduceIte, reduceCtorEq, reduceEqDiff, reduceAdd, reduceMul, reduceSub, reduceLeDiff, reduceEq, reduceLT, reduceLE, go_sem]
        repeat' first | refine Z1 fun _ _ => ?_ | refine Z2 ‹_› ?_ | ((first | refine Z3 tb_ok lv38 rfl ?_ | refine Z4 tb_ok mix lv38 bs38 rfl (by kernel_rfl) rfl ?_ | refine Zr rfl ?_); simp only [↓reduceIte, reduceCtorEq, reduceEqDiff, reduceAdd, reduceMul, reduceSub, reduceLeDiff, reduceEq, reduceLT, reduceLE, go_sem]) | (refine Z5 rfl ?_; with_reducible first | refine ZT ?_ | refine ZF ?_) | refine ZS rfl ?_ | refine Z9 fun _ _ => ?_ | refine ZH ?_ | refine Zl ‹_› (by decide) ?_ | refine Zo rfl ?_ | refine Zp rfl ?_ | refine Zn rfl ?_ | fail
        refine call_pure rfl rfl (ka) ?_; simp only [↓reduceIte, reduceCtorEq, reduceEqDiff, reduceAdd, reduceMul, reduceSub, reduceLeDiff, reduceEq, reduceLT, reduceLE, go_sem]
        repeat' first | refine Z1 fun _ _ => ?_ | refine Z2 ‹_› ?_ | ((first | refine Z3 tb_ok lv38 rfl ?_ | refine Z4 tb_ok mix lv38 bs38 rfl (by kernel_rfl) rfl ?_ | refine Zr rfl ?_); simp only [↓reduceIte, reduceCtorEq, reduceEqDiff, reduceAdd, reduceMul, reduceSub, reduceLeDiff, reduceEq, reduceLT, reduceLE, go_sem]) | (refine Z5 rfl ?_; with_reducible first | refine ZT ?_ | refine ZF ?_) | refine ZS rfl ?_ | refine Z9 fun _ _ => ?_ | refine ZH ?_ | refine Zl ‹_› (by decide) ?_ | refine Zo rfl ?_ | refine Zp rfl ?_ | refine Zn rfl ?_ | fail
        simp only [↓reduceIte, reduceCtorEq, reduceEqDiff, reduceAdd, reduceMul, reduceSub, reduceLeDiff, reduceEq, reduceLT, reduceLE, go_sem, Option.isSome_some, Option.getD_some, k6, k7]
        repeat' first | refine Z1 fun _ _ => ?_ | refine Z2 ‹_› ?_ | ((first | refine Z3 tb_ok lv38 rfl ?_ | refine Z4 tb_ok mix lv38 bs38 rfl (by kernel_rfl) rfl ?_ | refine Zr rfl ?_); simp only [↓reduceIte, reduceCtorEq, reduceEqDiff, reduceAdd, reduceMul, reduceSub, reduceLeDiff, reduceEq, reduceLT, reduceLE, go_sem]) | (refine Z5 rfl ?_; with_reducible first | refine ZT ?_ | refine ZF ?_) | refine ZS rfl ?_ | refine Z9 fun _ _ => ?_ | refine ZH ?_ | refine Zl ‹_› (by decide) ?_ | refine Zo rfl ?_ | refine Zp rfl ?_ | refine Zn rfl ?_ | fail
        first | done | rfl
  case true.false =>
    have hw' : (T.one 9 lo hi a).wr v = none := by
      rw [hw]; exact no_oneK h2
    rw [hw']
    refine PCon.enter tb_ok (fn := Try.f38) (by kernel_rfl) (by kernel_rfl) rfl (by show 3 ≤ 234; decide) ?_
    repeat' first | refine Z1 fun _ _ => ?_ | refine Z2 ‹_› ?_ | ((first | refine Z3 tb_ok lv38 rfl ?_ | refine Z4 tb_ok mix lv38 bs38 rfl (by kernel_rfl) rfl ?_ | refine Zr rfl ?_); simp only [↓reduceIte, reduceCtorEq, reduceEqDiff, reduceAdd, reduceMul, reduceSub, reduceLeDiff, reduceEq, reduceLT, reduceLE, go_sem]) | (refine Z5 rfl ?_; with_reducible first | refine ZT ?_ | refine ZF ?_) | refine ZS rfl ?_ | refine Z9 fun _ _ => ?_ | refine ZH ?_ | refine Zl ‹_› (by decide) ?_ | refine Zo rfl ?_ | refine Zp rfl ?_ | refine Zn rfl ?_ | fail
    refine idx_map Nd.z rfl rfl rfl rfl rfl (by omega) (by omega) rfl ?_
    simp only [Int.toNat_natCast, hr, T.root]
    simp only [↓reduceIte, reduceCtorEq, reduceEqDiff, reduceAdd, reduceMul, reduceSub, reduceLeDiff, reduceEq, reduceLT, reduceLE, go_sem]
    repeat' first | refine Z1 fun _ _ => ?_ | refine Z2 ‹_› ?_ | ((first | refine Z3 tb_ok lv38 rfl ?_ | refine Z4 tb_ok mix lv38 bs38 rfl (by kernel_rfl) rfl ?_ | refine Zr rfl ?_); simp only [↓reduceIte, reduceCtorEq, reduceEqDiff, reduceAdd, reduceMul, reduceSub, reduceLeDiff, reduceEq, reduceLT, reduceLE, go_sem]) | (refine Z5 rfl ?_; with_reducible first | refine ZT ?_ | refine ZF ?_) | refine ZS rfl ?_ | refine Z9 fun _ _ => ?_ | refine ZH ?_ | refine Zl ‹_› (by decide) ?_ | refine Zo rfl ?_ | refine Zp rfl ?_ | refine Zn rfl ?_ | fail
    refine call_pure rfl rfl (hb0) ?_; simp only [↓reduceIte, reduceCtorEq, reduceEqDiff, reduceAdd, reduceMul, reduceSub, reduceLeDiff, reduceEq, reduceLT, reduceLE, go_sem]
    repeat' first | refine Z1 fun _ _ => ?_ | refine Z2 ‹_› ?_ | ((first | refine Z3 tb_ok lv38 rfl ?_ | refine Z4 tb_ok mix lv38 bs38 rfl (by kernel_rfl) rfl ?_ | refine Zr rfl ?_); simp only [↓reduceIte, reduceCtorEq, reduceEqDiff, reduceAdd, reduceMul, reduceSub, reduceLeDiff, reduceEq, reduceLT, reduceLE, go_sem]) | (refine Z5 rfl ?_; with_reducible first | refine ZT ?_ | refine ZF ?_) | refine ZS rfl ?_ | refine Z9 fun _ _ => ?_ | refine ZH ?_ | refine Zl ‹_› (by decide) ?_ | refine Zo rfl ?_ | refine Zp rfl ?_ | refine Zn rfl ?_ | fail
    first | done | rfl
  case false.true =>
    have hw' : (T.one 9 lo hi a).wr v = none := by
      exact hw
    rw [hw']
    refine PCon.enter tb_ok (fn := Try.f38) (by kernel_rfl) (by kernel_rfl) rfl (by show 3 ≤ 234; decide) ?_
    repeat' first | refine Z1 fun _ _ => ?_ | refine Z2 ‹_› ?_ | ((first | refine Z3 tb_ok lv38 rfl ?_ | refine Z4 tb_ok mix lv38 bs38 rfl (by kernel_rfl) rfl ?_ | refine Zr rfl ?_); simp only [↓reduceIte, reduceCtorEq, reduceEqDiff, reduceAdd, reduceMul, reduceSub, reduceLeDiff, reduceEq, reduceLT, reduceLE, go_sem]) | (refine Z5 rfl ?_; with_reducible first | refine ZT ?_ | refine ZF ?_) | refine ZS rfl ?_ | refine Z9 fun _ _ => ?_ | refine ZH ?_ | refine Zl ‹_› (by decide) ?_ | refine Zo rfl ?_ | refine Zp rfl ?_ | refine Zn rfl ?_ | fail
    refine idx_map Nd.z rfl rfl rfl rfl rfl (by omega) (by omega) rfl ?_
    simp only [Int.toNat_natCast, hr, T.root]
    simp only [↓reduceIte, reduceCtorEq, reduceEqDiff, reduceAdd, reduceMul, reduceSub, reduceLeDiff, reduceEq, reduceLT, reduceLE, go_sem]
    repeat' first | refine Z1 fun _ _ => ?_ | refine Z2 ‹_› ?_ | ((first | refine Z3 tb_ok lv38 rfl ?_ | refine Z4 tb_ok mix lv38 bs38 rfl (by kernel_rfl) rfl ?_ | refine Zr rfl ?_); simp only [↓reduceIte, reduceCtorEq, reduceEqDiff, reduceAdd, reduceMul, reduceSub, reduceLeDiff, reduceEq, reduceLT, reduceLE, go_sem]) | (refine Z5 rfl ?_; with_reducible first | refine ZT ?_ | refine ZF ?_) | refine ZS rfl ?_ | refine Z9 fun _ _ => ?_ | refine ZH ?_ | refine Zl ‹_› (by decide) ?_ | refine Zo rfl ?_ | refine Zp rfl ?_ | refine Zn rfl ?_ | fail
    refine call_pure rfl rfl (hb0) ?_; simp only [↓reduceIte, reduceCtorEq, reduceEqDiff, reduceAdd, reduceMul, reduceSub, reduceLeDiff, reduceEq, reduceLT, reduceLE, go_sem]
    repeat' first | refine Z1 fun _ _ => ?_ | refine Z2 ‹_› ?_ | ((first | refine Z3 tb_ok lv38 rfl ?_ | refine Z4 tb_ok mix lv38 bs38 rfl (by kernel_rfl) rfl ?_ | refine Zr rfl ?_); simp only [↓reduceIte, reduceCtorEq, reduceEqDiff, reduceAdd, reduceMul, reduceSub, reduceLeDiff, reduceEq, reduceLT, reduceLE, go_sem]) | (refine Z5 rfl ?_; with_reducible first | refine ZT ?_ | refine ZF ?_) | refine ZS rfl ?_ | refine Z9 fun _ _ => ?_ | refine ZH ?_ | refine Zl ‹_› (by decide) ?_ | refine Zo rfl ?_ | refine Zp rfl ?_ | refine Zn rfl ?_ | fail
    first | done | rfl
  case false.false =>
    have hw' : (T.one 9 lo hi a).wr v = none := by
      exact hw
    rw [hw']
    refine PCon.enter tb_ok (fn := Try.f38) (by kernel_rfl) (by kernel_rfl) rfl (by show 3 ≤ 234; decide) ?_
    repeat' first | refine Z1 fun _ _ => ?_ | refine Z2 ‹_› ?_ | ((first | refine Z3 tb_ok lv38 rfl ?_ | refine Z4 tb_ok mix lv38 bs38 rfl (by kernel_rfl) rfl ?_ | refine Zr rfl ?_); simp only [↓reduceIte, reduceCtorEq, reduceEqDiff, reduceAdd, reduceMul, reduceSub, reduceLeDiff, reduceEq, reduceLT, reduceLE, go_sem]) | (refine Z5 rfl ?_; with_reducible first | refine ZT ?_ | refine ZF ?_) | refine ZS rfl ?_ | refine Z9 fun _ _ => ?_ | refine ZH ?_ | refine Zl ‹_› (by decide) ?_ | refine Zo rfl ?_ | refine Zp rfl ?_ | refine Zn rfl ?_ | fail
    refine idx_map Nd.z rfl rfl rfl rfl rfl (by omega) (by omega) rfl ?_
    simp only [Int.toNat_natCast, hr, T.root]
    simp only [↓reduceIte, reduceCtorEq, reduceEqDiff, reduceAdd, reduceMul, reduceSub, reduceLeDiff, reduceEq, reduceLT, reduceLE, go_sem]
    repeat' first | refine Z1 fun _ _ => ?_ | refine Z2 ‹_› ?_ | ((first | refine Z3 tb_ok lv38 rfl ?_ | refine Z4 tb_ok mix lv38 bs38 rfl (by kernel_rfl) rfl ?_ | refine Zr rfl ?_); simp only [↓reduceIte, reduceCtorEq, reduceEqDiff, reduceAdd, reduceMul, reduceSub, reduceLeDiff, reduceEq, reduceLT, reduceLE, go_sem]) | (refine Z5 rfl ?_; with_reducible first | refine ZT ?_ | refine ZF ?_) | refine ZS rfl ?_ | refine Z9 fun _ _ => ?_ | refine ZH ?_ | refine Zl ‹_› (by decide) ?_ | refine Zo rfl ?_ | refine Zp rfl ?_ | refine Zn rfl ?_ | fail
    refine call_pure rfl rfl (hb0) ?_; simp only [↓reduceIte, reduceCtorEq, reduceEqDiff, reduceAdd, reduceMul, reduceSub, reduceLeDiff, reduceEq, reduceLT, reduceLE, go_sem]
    repeat' first | refine Z1 fun _ _ => ?_ | refine Z2 ‹_› ?_ | ((first | refine Z3 tb_ok lv38 rfl ?_ | refine Z4 tb_ok mix lv38 bs38 rfl (by kernel_rfl) rfl ?_ | refine Zr rfl ?_); simp only [↓reduceIte, reduceCtorEq, reduceEqDiff, reduceAdd, reduceMul, reduceSub, reduceLeDiff, reduceEq, reduceLT, reduceLE, go_sem]) | (refine Z5 rfl ?_; with_reducible first | refine ZT ?_ | refine ZF ?_) | refine ZS rfl ?_ | refine Z9 fun _ _ => ?_ | refine ZH ?_ | refine Zl ‹_› (by decide) ?_ | refine Zo rfl ?_ | refine Zp rfl ?_ | refine Zn rfl ?_ | fail
    first | done | rfl
theorem c_at {gl} {l : List Nd} (hl : l.length ≤ 1048576) : ∀ (t : T) (off : Nat), Sits l off t → t.ok txtOk → t.cok → AtC gl l off t := by
  intro t
  induction t with
  | void => exact fun off hs _ _ => c_atA hl hs
  | bytes c0 c1 c2 c3 => exact fun off hs _ hc => c_atB hl hc hs
  | text s => exact fun off hs _ _ => c_atC hl hs
  | two k a b iha ihb =>
    intro off hs hok hc
    have ha := iha off hs.two1 hok.2.1 hc.1
    have hb := ihb _ hs.two2 hok.2.2 hc.2
    rcases hok.1 with rfl | rfl
    · exact c_atD hl ha hb hs
    · exact c_atE hl ha hb hs
  | one k lo hi a iha =>
    intro off hs hok hc
    have ha := iha off hs.one1 hok.2 hc
    rcases hok.1 with ⟨rfl | rfl | rfl, _⟩ | ⟨rfl, _⟩
    · exact c_atF hl ha hs
    · exact c_atH hl ha hs
    · exact c_atI hl ha hs
    · exact c_atG hl ha hs
end Go.Proofs.Ytpibdbjlilpfiaa
