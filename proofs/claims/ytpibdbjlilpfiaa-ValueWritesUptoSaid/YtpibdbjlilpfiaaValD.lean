/- Values: frame, gather, kids. -/
import Derived.Test.YtpibdbjlilpfiaaValC
namespace Go.Proofs.Ytpibdbjlilpfiaa
set_option linter.all false
open Go Go.RowKit
open Nat (reduceEqDiff reduceAdd reduceMul reduceSub reduceLeDiff)
open Int (reduceEq reduceLT reduceLE)

/-- A word, or none. -/
def resW (o : Option (List UInt8)) : D := .tup [bys (o.getD []), .bool o.isSome]
def resF (full : Bool) (o : Option (List UInt8)) : D := .tup [bys (o.getD []), .bool (match o with
  | none => false
  | some w => !(full && w.isEmpty))]
attribute [go_sem] resW
def gathI (f : Nat → Vl → Option (List UInt8)) (full : Bool) : Nat → List Vl → Option (List UInt8)
  | _, [] => some []
  | i, x :: r => match f i x with
    | none => none
    | some p => if full && p.isEmpty then none else match gathI f full (i + 1) r with
      | none => none
      | some q => some (p ++ q)
theorem gathI_const {f : Vl → Option (List UInt8)} {full : Bool} : ∀ {l : List Vl} {i : Nat}, gathI (fun _ => f) full i l = gath f full l
  | [], _ => rfl
  | x :: r, i => by
    rw [gathI, gath]
    cases f x with
    | none => rfl
    | some p =>
      simp only [gathI_const]
      split
      · rfl
      · cases gath f full r <;> rfl
/-- What a frame writes. -/
def frW (most : Int) (o : Option (List UInt8)) : Option (List UInt8) := match o with
  | none => none
  | some p => if (p.length : Int) ≤ most then some (if 255 < most then byteOf (p.length / 256 : Nat) :: byteOf (p.length % 256 : Nat) :: p else byteOf p.length :: p) else none
@[go_sem] def lv50 : List (Nat × List Nat) := [(0, [0, 1, 2]), (1, [0, 2, 16]), (2, [6, 7]), (3, [0, 2, 8]), (4, [0, 8, 22]), (5, [0, 8]), (6, [6, 7])]
def bs50 : List (Nat × List Nat × List Nat) := []
set_option maxRecDepth 4000 in
theorem c_frame {gl} {o : Option (List UInt8)} {most : Int} (hm : most = 255 ∨ most = 65535) (hl : (o.getD []).length ≤ 9223372036854775807) : PCon Try.prog gl 50 [bys (o.getD []), .bool o.isSome, .int .i64 most] (resW (frW most o)) := by
  cases o with
  | none =>
    refine PCon.enter tb_ok (fn := Try.f50) (by kernel_rfl) (by kernel_rfl) rfl (by show 3 ≤ 35; decide) ?_
    repeat' first | refine Z1 fun _ _ => ?_ | refine Z2 ‹_› ?_ | ((first | refine Z3 tb_ok lv50 rfl ?_ | refine ret_eq rfl ?_); simp only [↓reduceIte, reduceCtorEq, reduceEqDiff, reduceAdd, reduceMul, reduceSub, reduceLeDiff, reduceEq, reduceLT, reduceLE, go_sem]) | (refine Z5 rfl ?_; with_reducible first | refine condQ_T ?_ | refine condQ_F ?_) | refine Z6 ?_ | refine Z8 ?_ | refine Zc ‹_› trivial ?_ | fail
    rfl
  | some p =>
    have hcc : ∀ (a b : List UInt8), a.length + b.length ≤ 4194304 → PCon Try.prog gl 61 [.slice [[bys a], [bys b]]] (bys (a ++ b)) := fun a b hl => by
      have := (c_concat (gl := gl) (ll := [a, b]) (by simpa using hl) (by simp only [List.length_cons, List.length_nil]; omega)).toP
      have e : bys (a ++ b) = .slice ([a, b].flatten.map encB) := by simp [bys]
      rw [e]
      exact this
    simp only [Option.getD_some, Option.isSome_some]
    by_cases h : (p.length : Int) ≤ most
    · have k1 : decide ((p.length : Int) > most) = false := by simp; omega
      have e1 : IntKind.u8.wrap (p.length : Int) = ((byteOf (p.length % 256 : Nat)).toNat : Int) := by
        rw [IntKind.wrap_u8]; simp only [byteOf, UInt8.toNat_ofNat']; omega
      have e2 : IntKind.u8.wrap ((p.length : Int).fdiv (2 ^ min (Int.toNat 8) 64)) = ((byteOf (p.length / 256 : Nat)).toNat : Int) := by
        have : (p.length : Int).fdiv (2 ^ min (Int.toNat 8) 64) = (p.length : Int) / 256 := by
          rw [Int.fdiv_eq_ediv_of_nonneg _ (by decide)]; rfl
        rw [this, IntKind.wrap_u8]; simp only [byteOf, UInt8.toNat_ofNat']; omega
      rcases hm with rfl | rfl
      · have hfr : frW 255 (some p) = some (byteOf p.length :: p) := by simp only [frW, if_pos h]; rfl
        rw [hfr]
        refine PCon.enter tb_ok (fn := Try.f50) (by kernel_rfl) (by kernel_rfl) rfl (by show 3 ≤ 35; decide) ?_
        repeat' first | refine Z1 fun _ _ => ?_ | refine Z2 ‹_› ?_ | ((first | refine Z3 tb_ok lv50 rfl ?_ | refine ret_eq rfl ?_); simp only [↓reduceIte, reduceCtorEq, reduceEqDiff, reduceAdd, reduceMul, reduceSub, reduceLeDiff, reduceEq, reduceLT, reduceLE, go_sem]) | (refine Z5 rfl ?_; with_reducible first | refine condQ_T ?_ | refine condQ_F ?_) | refine Z6 ?_ | refine Z8 ?_ | refine Zc ‹_› trivial ?_ | fail
        simp only [↓reduceIte, reduceCtorEq, reduceEqDiff, reduceAdd, reduceMul, reduceSub, reduceLeDiff, reduceEq, reduceLT, reduceLE, go_sem, k1]
        repeat' first | refine Z1 fun _ _ => ?_ | ((first | refine Z3 tb_ok lv50 rfl ?_ | refine ret_eq rfl ?_); simp only [↓reduceIte, reduceCtorEq, reduceEqDiff, reduceAdd, reduceMul, reduceSub, reduceLeDiff, reduceEq, reduceLT, reduceLE, go_sem]) | (refine Z5 rfl ?_; with_reducible first | refine condQ_T ?_ | refine condQ_F ?_) | refine Z6 ?_ | refine Z8 ?_ | refine Zc ‹_› trivial ?_ | fail
        refine Z2 ‹_› ?_
        repeat' first | refine Z1 fun _ _ => ?_ | ((first | refine Z3 tb_ok lv50 rfl ?_ | refine ret_eq rfl ?_); simp only [↓reduceIte, reduceCtorEq, reduceEqDiff, reduceAdd, reduceMul, reduceSub, reduceLeDiff, reduceEq, reduceLT, reduceLE, go_sem]) | (refine Z5 rfl ?_; with_reducible first | refine condQ_T ?_ | refine condQ_F ?_) | refine Z6 ?_ | refine Z8 ?_ | refine Zc ‹_› trivial ?_ | fail
        rw [e1]
        refine Cut.go ‹_› ?_; refine .freeze 13 rfl rfl ?_; simp only [↓reduceIte, reduceCtorEq, reduceEqDiff, reduceAdd, reduceMul, reduceSub, reduceLeDiff, reduceEq, reduceLT, reduceLE, go_sem]
        repeat' first | refine Z1 fun _ _ => ?_ | refine Z2 ‹_› ?_ | ((first | refine Z3 tb_ok lv50 rfl ?_ | refine ret_eq rfl ?_); simp only [↓reduceIte, reduceCtorEq, reduceEqDiff, reduceAdd, reduceMul, reduceSub, reduceLeDiff, reduceEq, reduceLT, reduceLE, go_sem]) | (refine Z5 rfl ?_; with_reducible first | refine condQ_T ?_ | refine condQ_F ?_) | refine Z6 ?_ | refine Z8 ?_ | refine Zc ‹_› trivial ?_ | fail
        refine call_pure rfl rfl (hcc [byteOf (p.length % 256 : Nat)] p (by simp only [List.length_cons, List.length_nil]; omega)) ?_; simp only [↓reduceIte, reduceCtorEq, reduceEqDiff, reduceAdd, reduceMul, reduceSub, reduceLeDiff, reduceEq, reduceLT, reduceLE, go_sem]
        repeat' first | refine Z1 fun _ _ => ?_ | refine Z2 ‹_› ?_ | ((first | refine Z3 tb_ok lv50 rfl ?_ | refine ret_eq rfl ?_); simp only [↓reduceIte, reduceCtorEq, reduceEqDiff, reduceAdd, reduceMul, reduceSub, reduceLeDiff, reduceEq, reduceLT, reduceLE, go_sem]) | (refine Z5 rfl ?_; with_reducible first | refine condQ_T ?_ | refine condQ_F ?_) | refine Z6 ?_ | refine Z8 ?_ | refine Zc ‹_› trivial ?_ | fail
        have : p.length % 256 = p.length := by omega
        rw [this]
        rfl
      · have hfr : frW 65535 (some p) = some (byteOf (p.length / 256 : Nat) :: byteOf (p.length % 256 : Nat) :: p) := by simp only [frW, if_pos h]; rfl
        rw [hfr]
        refine PCon.enter tb_ok (fn := Try.f50) (by kernel_rfl) (by kernel_rfl) rfl (by show 3 ≤ 35; decide) ?_
        repeat' first | refine Z1 fun _ _ => ?_ | refine Z2 ‹_› ?_ | ((first | refine Z3 tb_ok lv50 rfl ?_ | refine ret_eq rfl ?_); simp only [↓reduceIte, reduceCtorEq, reduceEqDiff, reduceAdd, reduceMul, reduceSub, reduceLeDiff, reduceEq, reduceLT, reduceLE, go_sem]) | (refine Z5 rfl ?_; with_reducible first | refine condQ_T ?_ | refine condQ_F ?_) | refine Z6 ?_ | refine Z8 ?_ | refine Zc ‹_› trivial ?_ | fail
        simp only [↓reduceIte, reduceCtorEq, reduceEqDiff, reduceAdd, reduceMul, reduceSub, reduceLeDiff, reduceEq, reduceLT, reduceLE, go_sem, k1]
        repeat' first | refine Z1 fun _ _ => ?_ | ((first | refine Z3 tb_ok lv50 rfl ?_ | refine ret_eq rfl ?_); simp only [↓reduceIte, reduceCtorEq, reduceEqDiff, reduceAdd, reduceMul, reduceSub, reduceLeDiff, reduceEq, reduceLT, reduceLE, go_sem]) | (refine Z5 rfl ?_; with_reducible first | refine condQ_T ?_ | refine condQ_F ?_) | refine Z6 ?_ | refine Z8 ?_ | refine Zc ‹_› trivial ?_ | fail
        refine Z2 ‹_› ?_
        repeat' first | refine Z1 fun _ _ => ?_ | ((first | refine Z3 tb_ok lv50 rfl ?_ | refine ret_eq rfl ?_); simp only [↓reduceIte, reduceCtorEq, reduceEqDiff, reduceAdd, reduceMul, reduceSub, reduceLeDiff, reduceEq, reduceLT, reduceLE, go_sem]) | (refine Z5 rfl ?_; with_reducible first | refine condQ_T ?_ | refine condQ_F ?_) | refine Z6 ?_ | refine Z8 ?_ | refine Zc ‹_› trivial ?_ | fail
        refine Z2 ‹_› ?_
        repeat' first | refine Z1 fun _ _ => ?_ | ((first | refine Z3 tb_ok lv50 rfl ?_ | refine ret_eq rfl ?_); simp only [↓reduceIte, reduceCtorEq, reduceEqDiff, reduceAdd, reduceMul, reduceSub, reduceLeDiff, reduceEq, reduceLT, reduceLE, go_sem]) | (refine Z5 rfl ?_; with_reducible first | refine condQ_T ?_ | refine condQ_F ?_) | refine Z6 ?_ | refine Z8 ?_ | refine Zc ‹_› trivial ?_ | fail
        refine Z2 ‹_› ?_
        repeat' first | refine Z1 fun _ _ => ?_ | ((first | refine Z3 tb_ok lv50 rfl ?_ | refine ret_eq rfl ?_); simp only [↓reduceIte, reduceCtorEq, reduceEqDiff, reduceAdd, reduceMul, reduceSub, reduceLeDiff, reduceEq, reduceLT, reduceLE, go_sem]) | (refine Z5 rfl ?_; with_reducible first | refine condQ_T ?_ | refine condQ_F ?_) | refine Z6 ?_ | refine Z8 ?_ | refine Zc ‹_› trivial ?_ | fail
        rw [e2, e1]
        refine Cut.go ‹_› ?_; refine .freeze 24 rfl rfl ?_; simp only [↓reduceIte, reduceCtorEq, reduceEqDiff, reduceAdd, reduceMul, reduceSub, reduceLeDiff, reduceEq, reduceLT, reduceLE, go_sem]
        repeat' first | refine Z1 fun _ _ => ?_ | refine Z2 ‹_› ?_ | ((first | refine Z3 tb_ok lv50 rfl ?_ | refine ret_eq rfl ?_); simp only [↓reduceIte, reduceCtorEq, reduceEqDiff, reduceAdd, reduceMul, reduceSub, reduceLeDiff, reduceEq, reduceLT, reduceLE, go_sem]) | (refine Z5 rfl ?_; with_reducible first | refine condQ_T ?_ | refine condQ_F ?_) | refine Z6 ?_ | refine Z8 ?_ | refine Zc ‹_› trivial ?_ | fail
        refine call_pure rfl rfl (hcc [byteOf (p.length / 256 : Nat), byteOf (p.length % 256 : Nat)] p (by simp only [List.length_cons, List.length_nil]; omega)) ?_; simp only [↓reduceIte, reduceCtorEq, reduceEqDiff, reduceAdd, reduceMul, reduceSub, reduceLeDiff, reduceEq, reduceLT, reduceLE, go_sem]
        repeat' first | refine Z1 fun _ _ => ?_ | refine Z2 ‹_› ?_ | ((first | refine Z3 tb_ok lv50 rfl ?_ | refine ret_eq rfl ?_); simp only [↓reduceIte, reduceCtorEq, reduceEqDiff, reduceAdd, reduceMul, reduceSub, reduceLeDiff, reduceEq, reduceLT, reduceLE, go_sem]) | (refine Z5 rfl ?_; with_reducible first | refine condQ_T ?_ | refine condQ_F ?_) | refine Z6 ?_ | refine Z8 ?_ | refine Zc ‹_› trivial ?_ | fail
        rfl
    · have k1 : decide ((p.length : Int) > most) = true := by simp; omega
      have hfr : frW most (some p) = none := by simp only [frW, if_neg h]
      rw [hfr]
      refine PCon.enter tb_ok (fn := Try.f50) (by kernel_rfl) (by kernel_rfl) rfl (by show 3 ≤ 35; decide) ?_
      repeat' first | refine Z1 fun _ _ => ?_ | refine Z2 ‹_› ?_ | ((first | refine Z3 tb_ok lv50 rfl ?_ | refine ret_eq rfl ?_); simp only [↓reduceIte, reduceCtorEq, reduceEqDiff, reduceAdd, reduceMul, reduceSub, reduceLeDiff, reduceEq, reduceLT, reduceLE, go_sem]) | (refine Z5 rfl ?_; with_reducible first | refine condQ_T ?_ | refine condQ_F ?_) | refine Z6 ?_ | refine Z8 ?_ | refine Zc ‹_› trivial ?_ | fail
      simp only [↓reduceIte, reduceCtorEq, reduceEqDiff, reduceAdd, reduceMul, reduceSub, reduceLeDiff, reduceEq, reduceLT, reduceLE, go_sem, k1]
      repeat' first | refine Z1 fun _ _ => ?_ | refine Z2 ‹_› ?_ | ((first | refine Z3 tb_ok lv50 rfl ?_ | refine ret_eq rfl ?_); simp only [↓reduceIte, reduceCtorEq, reduceEqDiff, reduceAdd, reduceMul, reduceSub, reduceLeDiff, reduceEq, reduceLT, reduceLE, go_sem]) | (refine Z5 rfl ?_; with_reducible first | refine condQ_T ?_ | refine condQ_F ?_) | refine Z6 ?_ | refine Z8 ?_ | refine Zc ‹_› trivial ?_ | fail
      rfl
@[go_sem] def lv59 : List (Nat × List Nat) := [(0, [0, 1]), (1, [0, 1, 6]), (2, [1, 6, 11, 12, 13]), (3, [1, 6, 11, 12, 13, 14]), (4, [1, 6, 7, 8, 11, 12, 13]), (5, [1, 6, 9, 10, 11, 12, 13]), (6, [1, 6, 9, 11, 12, 13, 26]), (7, [4, 5]), (8, [1, 6, 11, 12, 13]), (9, [1, 6, 11, 12, 13]), (10, [4, 5])]
def bs59 : List (Nat × List Nat × List Nat) := []
set_option maxRecDepth 4000 in
theorem c_gather {gl} {F : Nat → Vl → Option (List UInt8)} {full : Bool} {l : List Vl} {f : Nat} {fs cs : List D} (hl : l.length ≤ 1048577) (hb : ∀ i, i < l.length → ∀ p, F i (l.getD i Vl.z) = some p → p.length ≤ 4194304)
    (hf : ∀ i : Nat, i < l.length → PCon Try.prog gl f (fs ++ [.int .i64 i, val (l.getD i Vl.z)] ++ cs) (resF full (F i (l.getD i Vl.z)))) :
    PCon Try.prog gl 59 [vals l, .fn f fs cs] (resW (gathI F full 0 l)) := by
  refine PCon.enter tb_ok (fn := Try.f59) (by kernel_rfl) (by kernel_rfl) rfl (by show 2 ≤ 32; decide) ?_
  repeat' first | refine Z1 fun _ _ => ?_ | refine Z2 ‹_› ?_ | ((first | refine Z3 tb_ok lv59 rfl ?_ | refine ret_eq rfl ?_); simp only [↓reduceIte, reduceCtorEq, reduceEqDiff, reduceAdd, reduceMul, reduceSub, reduceLeDiff, reduceEq, reduceLT, reduceLE, go_sem]) | (refine Z5 rfl ?_; with_reducible first | refine condQ_T ?_ | refine condQ_F ?_) | refine Z6 ?_ | refine Z7 ?_ | refine Z8 ?_ | refine Z9 fun _ _ => ?_ | refine Za ‹_› ?_ | refine Zb ‹_› ?_ | refine Zc ‹_› trivial ?_ | refine Zd ‹_› trivial ?_ | refine Ze ‹_› trivial ?_ | refine Zf ‹_› ?_ | refine Zl ‹_› (by decide) ?_ | fail
  refine .adopt 6 5 1 rfl (by decide) ?_
  simp only [↓reduceIte, reduceCtorEq, reduceEqDiff, reduceAdd, reduceMul, reduceSub, reduceLeDiff, reduceEq, reduceLT, reduceLE, go_sem]
  refine .loopS (α := Nat × List UInt8) (fun a => ⟨[(6, .own 1), (1, .d (.fn f fs cs)), (11, .d (vals l)), (12, .d (.int .i64 l.length)), (13, .d (.int .i64 a.1))], [(1, .row true 5 1 (a.2.map encB))], 2⟩) (fun a => a.1 ≤ l.length ∧ a.2.length ≤ a.1 * 4194304 ∧ gathI F full 0 l = (gathI F full a.1 (l.drop a.1)).map (a.2 ++ ·)) (fun a => l.length - a.1) (0, []) ⟨by omega, by simp, by simp⟩ [(6, 1)] rfl (by simp only [↓reduceIte, reduceCtorEq, reduceEqDiff, reduceAdd, reduceMul, reduceSub, reduceLeDiff, reduceEq, reduceLT, reduceLE, go_sem]; simp) ?_
  rintro ⟨i, w⟩ ⟨hi, hw, hg⟩ Q hQ
  simp only at hi hw hg
  repeat' first | refine Z1 fun _ _ => ?_ | refine Z2 ‹_› ?_ | ((first | refine Z3 tb_ok lv59 rfl ?_ | refine ret_eq rfl ?_); simp only [↓reduceIte, reduceCtorEq, reduceEqDiff, reduceAdd, reduceMul, reduceSub, reduceLeDiff, reduceEq, reduceLT, reduceLE, go_sem]) | (refine Z5 rfl ?_; with_reducible first | refine condQ_T ?_ | refine condQ_F ?_) | refine Z6 ?_ | refine Z7 ?_ | refine Z8 ?_ | refine Z9 fun _ _ => ?_ | refine Za ‹_› ?_ | refine Zb ‹_› ?_ | refine Zc ‹_› trivial ?_ | refine Zd ‹_› trivial ?_ | refine Ze ‹_› trivial ?_ | refine Zf ‹_› ?_ | refine Zl ‹_› (by decide) ?_ | fail
  refine .cond rfl (fun h => ?_) (fun h => ?_)
  · simp only [decide_eq_true_eq] at h
    have hlt : i < l.length := by omega
    rw [drop_getD hlt Vl.z, gathI] at hg
    have hfi := hf i hlt
    have hbi := hb i hlt
    repeat' first | refine Z1 fun _ _ => ?_ | refine Z2 ‹_› ?_ | ((first | refine Z3 tb_ok lv59 rfl ?_ | refine ret_eq rfl ?_); simp only [↓reduceIte, reduceCtorEq, reduceEqDiff, reduceAdd, reduceMul, reduceSub, reduceLeDiff, reduceEq, reduceLT, reduceLE, go_sem]) | (refine Z5 rfl ?_; with_reducible first | refine condQ_T ?_ | refine condQ_F ?_) | refine Z6 ?_ | refine Z7 ?_ | refine Z8 ?_ | refine Z9 fun _ _ => ?_ | refine Za ‹_› ?_ | refine Zb ‹_› ?_ | refine Zc ‹_› trivial ?_ | refine Zd ‹_› trivial ?_ | refine Ze ‹_› trivial ?_ | refine Zf ‹_› ?_ | refine Zl ‹_› (by decide) ?_ | fail
    refine idx_map Vl.z rfl rfl rfl rfl rfl (by omega) (by omega) (Vl.cells_len _) ?_
    simp only [↓reduceIte, reduceCtorEq, reduceEqDiff, reduceAdd, reduceMul, reduceSub, reduceLeDiff, reduceEq, reduceLT, reduceLE, go_sem]
    repeat' first | refine Z1 fun _ _ => ?_ | refine Z2 ‹_› ?_ | ((first | refine Z3 tb_ok lv59 rfl ?_ | refine ret_eq rfl ?_); simp only [↓reduceIte, reduceCtorEq, reduceEqDiff, reduceAdd, reduceMul, reduceSub, reduceLeDiff, reduceEq, reduceLT, reduceLE, go_sem]) | (refine Z5 rfl ?_; with_reducible first | refine condQ_T ?_ | refine condQ_F ?_) | refine Z6 ?_ | refine Z7 ?_ | refine Z8 ?_ | refine Z9 fun _ _ => ?_ | refine Za ‹_› ?_ | refine Zb ‹_› ?_ | refine Zc ‹_› trivial ?_ | refine Zd ‹_› trivial ?_ | refine Ze ‹_› trivial ?_ | refine Zf ‹_› ?_ | refine Zl ‹_› (by decide) ?_ | fail
    refine call_pure rfl rfl (hfi) ?_; simp only [↓reduceIte, reduceCtorEq, reduceEqDiff, reduceAdd, reduceMul, reduceSub, reduceLeDiff, reduceEq, reduceLT, reduceLE, go_sem]
    cases hF : F i (l.getD i Vl.z) with
    | none =>
      rw [hF] at hg
      simp only [resF, Option.getD_none, bys, List.map_nil]
      simp only [↓reduceIte, reduceCtorEq, reduceEqDiff, reduceAdd, reduceMul, reduceSub, reduceLeDiff, reduceEq, reduceLT, reduceLE, go_sem]
      repeat' first | refine Z1 fun _ _ => ?_ | refine Z2 ‹_› ?_ | ((first | refine Z3 tb_ok lv59 rfl ?_ | refine ret_eq rfl ?_); simp only [↓reduceIte, reduceCtorEq, reduceEqDiff, reduceAdd, reduceMul, reduceSub, reduceLeDiff, reduceEq, reduceLT, reduceLE, go_sem]) | (refine Z5 rfl ?_; with_reducible first | refine condQ_T ?_ | refine condQ_F ?_) | refine Z6 ?_ | refine Z7 ?_ | refine Z8 ?_ | refine Z9 fun _ _ => ?_ | refine Za ‹_› ?_ | refine Zb ‹_› ?_ | refine Zc ‹_› trivial ?_ | refine Zd ‹_› trivial ?_ | refine Ze ‹_› trivial ?_ | refine Zf ‹_› ?_ | refine Zl ‹_› (by decide) ?_ | fail
      rw [hg]
      rfl
    | some p =>
      rw [hF] at hg hbi
      have hp := hbi p rfl
      simp only [resF, Option.getD_some, bys]
      cases hc : (full && p.isEmpty) with
      | true =>
        simp only [hc, if_true] at hg
        simp only [↓reduceIte, reduceCtorEq, reduceEqDiff, reduceAdd, reduceMul, reduceSub, reduceLeDiff, reduceEq, reduceLT, reduceLE, go_sem, Bool.not_true]
        repeat' first | refine Z1 fun _ _ => ?_ | refine Z2 ‹_› ?_ | ((first | refine Z3 tb_ok lv59 rfl ?_ | refine ret_eq rfl ?_); simp only [↓reduceIte, reduceCtorEq, reduceEqDiff, reduceAdd, reduceMul, reduceSub, reduceLeDiff, reduceEq, reduceLT, reduceLE, go_sem]) | (refine Z5 rfl ?_; with_reducible first | refine condQ_T ?_ | refine condQ_F ?_) | refine Z6 ?_ | refine Z7 ?_ | refine Z8 ?_ | refine Z9 fun _ _ => ?_ | refine Za ‹_› ?_ | refine Zb ‹_› ?_ | refine Zc ‹_› trivial ?_ | refine Zd ‹_› trivial ?_ | refine Ze ‹_› trivial ?_ | refine Zf ‹_› ?_ | refine Zl ‹_› (by decide) ?_ | fail
        rw [hg]
        rfl
      | false =>
        simp only [hc, Bool.false_eq_true, if_false] at hg
        simp only [↓reduceIte, reduceCtorEq, reduceEqDiff, reduceAdd, reduceMul, reduceSub, reduceLeDiff, reduceEq, reduceLT, reduceLE, go_sem, Bool.not_false]
        repeat' first | refine Z1 fun _ _ => ?_ | refine Z2 ‹_› ?_ | ((first | refine Z3 tb_ok lv59 rfl ?_ | refine ret_eq rfl ?_); simp only [↓reduceIte, reduceCtorEq, reduceEqDiff, reduceAdd, reduceMul, reduceSub, reduceLeDiff, reduceEq, reduceLT, reduceLE, go_sem]) | (refine Z5 rfl ?_; with_reducible first | refine condQ_T ?_ | refine condQ_F ?_) | refine Z6 ?_ | refine Z7 ?_ | refine Z8 ?_ | refine Z9 fun _ _ => ?_ | refine Za ‹_› ?_ | refine Zb ‹_› ?_ | refine Zc ‹_› trivial ?_ | refine Zd ‹_› trivial ?_ | refine Ze ‹_› trivial ?_ | refine Zf ‹_› ?_ | refine Zl ‹_› (by decide) ?_ | fail
        refine ⟨fun e he => by obtain ⟨n, _, rfl⟩ := List.mem_map.1 he; rfl, by omega, by omega, ?_⟩
        repeat' first | refine Z1 fun _ _ => ?_ | refine Z2 ‹_› ?_ | ((first | refine Z3 tb_ok lv59 rfl ?_ | refine ret_eq rfl ?_); simp only [↓reduceIte, reduceCtorEq, reduceEqDiff, reduceAdd, reduceMul, reduceSub, reduceLeDiff, reduceEq, reduceLT, reduceLE, go_sem]) | (refine Z5 rfl ?_; with_reducible first | refine condQ_T ?_ | refine condQ_F ?_) | refine Z6 ?_ | refine Z7 ?_ | refine Z8 ?_ | refine Z9 fun _ _ => ?_ | refine Za ‹_› ?_ | refine Zb ‹_› ?_ | refine Zc ‹_› trivial ?_ | refine Zd ‹_› trivial ?_ | refine Ze ‹_› trivial ?_ | refine Zf ‹_› ?_ | refine Zl ‹_› (by decide) ?_ | fail
        rw [wrap64 (by omega) (by omega)]
        refine hQ.next (i + 1, w ++ p) [(22, 1)] ⟨by omega, by simp only [List.length_append]; omega, ?_⟩ (by simp only; omega) rfl (by simp only [↓reduceIte, reduceCtorEq, reduceEqDiff, reduceAdd, reduceMul, reduceSub, reduceLeDiff, reduceEq, reduceLT, reduceLE, go_sem]; simp)
        rw [hg]
        cases gathI F full (i + 1) (l.drop (i + 1)) with
        | none => rfl
        | some q => simp
  · simp only [decide_eq_false_iff_not] at h
    have ei : i = l.length := by omega
    subst ei
    repeat' first | refine Z1 fun _ _ => ?_ | refine Z2 ‹_› ?_ | ((first | refine Z3 tb_ok lv59 rfl ?_ | refine ret_eq rfl ?_); simp only [↓reduceIte, reduceCtorEq, reduceEqDiff, reduceAdd, reduceMul, reduceSub, reduceLeDiff, reduceEq, reduceLT, reduceLE, go_sem]) | (refine Z5 rfl ?_; with_reducible first | refine condQ_T ?_ | refine condQ_F ?_) | refine Z6 ?_ | refine Z7 ?_ | refine Z8 ?_ | refine Z9 fun _ _ => ?_ | refine Za ‹_› ?_ | refine Zb ‹_› ?_ | refine Zc ‹_› trivial ?_ | refine Zd ‹_› trivial ?_ | refine Ze ‹_› trivial ?_ | refine Zf ‹_› ?_ | refine Zl ‹_› (by decide) ?_ | fail
    rw [hg, List.drop_length]
    simp [gathI, resW]
@[go_sem] def lv60 : List (Nat × List Nat) := [(0, [0, 2, 3, 4, 6]), (1, [4, 9, 10]), (2, [7, 8])]
def bs60 : List (Nat × List Nat × List Nat) := [(1, [0, 0, 0, 0, 8, 24, 60, 126, 254, 0, 1023, 2047, 4095, 4095, 8191, 32767], [10])]
set_option maxRecDepth 4000 in
theorem c_kids1 {gl} {l : List Nd} {nodes : List Int} {full : Bool} {i : Nat} {v : Vl} {o : Option (List UInt8)} (hn : 0 < nodes.length) (hn' : nodes.length ≤ 1000) (hi : i ≤ 1048577)
    (hw : PCon Try.prog gl 37 [desc l, .int .i64 (nodes.getD (min i (nodes.length - 1)) 0), val v] (resW o)) :
    PCon Try.prog gl 60 [.int .i64 i, val v, .addr [nds l], .addr [ints nodes], .addr [.bool full]] (resF full o) := by
  have hj : min (i : Int) (IntKind.i64.wrap (nodes.length - 1)) = ((min i (nodes.length - 1) : Nat) : Int) := by
    rw [wrap64 (by omega) (by omega)]; omega
  obtain ⟨j, hjj⟩ : ∃ j, j = min i (nodes.length - 1) := ⟨_, rfl⟩
  rw [← hjj] at hj hw
  refine PCon.enter tb_ok (fn := Try.f60) (by kernel_rfl) (by kernel_rfl) rfl (by show 5 ≤ 36; decide) ?_
  repeat' first | refine Z1 fun _ _ => ?_ | refine Z2 ‹_› ?_ | ((first | refine Z3 tb_ok lv60 rfl ?_ | refine Z4 tb_ok mix lv60 bs60 rfl (by kernel_rfl) rfl ?_ | refine ret_eq rfl ?_); simp only [↓reduceIte, reduceCtorEq, reduceEqDiff, reduceAdd, reduceMul, reduceSub, reduceLeDiff, reduceEq, reduceLT, reduceLE, go_sem]) | refine Z8 ?_ | refine Zc ‹_› trivial ?_ | refine touch_go rfl ?_ | refine eff_go rfl ?_ | fail
  rw [hj]
  refine idx_map 0 rfl rfl rfl rfl rfl (by omega) (by omega) rfl ?_
  simp only [↓reduceIte, reduceCtorEq, reduceEqDiff, reduceAdd, reduceMul, reduceSub, reduceLeDiff, reduceEq, reduceLT, reduceLE, go_sem]
  repeat' first | refine Z1 fun _ _ => ?_ | refine Z2 ‹_› ?_ | ((first | refine Z3 tb_ok lv60 rfl ?_ | refine Z4 tb_ok mix lv60 bs60 rfl (by kernel_rfl) rfl ?_ | refine ret_eq rfl ?_); simp only [↓reduceIte, reduceCtorEq, reduceEqDiff, reduceAdd, reduceMul, reduceSub, reduceLeDiff, reduceEq, reduceLT, reduceLE, go_sem]) | refine Z8 ?_ | refine Zc ‹_› trivial ?_ | refine touch_go rfl ?_ | refine eff_go rfl ?_ | fail
  refine call_pure rfl rfl (hw) ?_; simp only [↓reduceIte, reduceCtorEq, reduceEqDiff, reduceAdd, reduceMul, reduceSub, reduceLeDiff, reduceEq, reduceLT, reduceLE, go_sem]
  cases o with
  | none =>
    simp only [↓reduceIte, reduceCtorEq, reduceEqDiff, reduceAdd, reduceMul, reduceSub, reduceLeDiff, reduceEq, reduceLT, reduceLE, go_sem, Option.isSome_none, Option.getD_none]
    repeat' first | refine Z1 fun _ _ => ?_ | refine Z2 ‹_› ?_ | ((first | refine Z3 tb_ok lv60 rfl ?_ | refine Z4 tb_ok mix lv60 bs60 rfl (by kernel_rfl) rfl ?_ | refine ret_eq rfl ?_); simp only [↓reduceIte, reduceCtorEq, reduceEqDiff, reduceAdd, reduceMul, reduceSub, reduceLeDiff, reduceEq, reduceLT, reduceLE, go_sem]) | refine Z8 ?_ | refine Zc ‹_› trivial ?_ | refine touch_go rfl ?_ | refine eff_go rfl ?_ | fail
    rfl
  | some w =>
    cases full with
    | false =>
      simp only [↓reduceIte, reduceCtorEq, reduceEqDiff, reduceAdd, reduceMul, reduceSub, reduceLeDiff, reduceEq, reduceLT, reduceLE, go_sem, Option.isSome_some, Option.getD_some]
      repeat' first | refine Z1 fun _ _ => ?_ | refine Z2 ‹_› ?_ | ((first | refine Z3 tb_ok lv60 rfl ?_ | refine Z4 tb_ok mix lv60 bs60 rfl (by kernel_rfl) rfl ?_ | refine ret_eq rfl ?_); simp only [↓reduceIte, reduceCtorEq, reduceEqDiff, reduceAdd, reduceMul, reduceSub, reduceLeDiff, reduceEq, reduceLT, reduceLE, go_sem]) | refine Z8 ?_ | refine Zc ‹_› trivial ?_ | refine touch_go rfl ?_ | refine eff_go rfl ?_ | fail
      rfl
    | true =>
      simp only [↓reduceIte, reduceCtorEq, reduceEqDiff, reduceAdd, reduceMul, reduceSub, reduceLeDiff, reduceEq, reduceLT, reduceLE, go_sem, Option.isSome_some, Option.getD_some]
      repeat' first | refine Z1 fun _ _ => ?_ | refine Z2 ‹_› ?_ | ((first | refine Z3 tb_ok lv60 rfl ?_ | refine Z4 tb_ok mix lv60 bs60 rfl (by kernel_rfl) rfl ?_ | refine ret_eq rfl ?_); simp only [↓reduceIte, reduceCtorEq, reduceEqDiff, reduceAdd, reduceMul, reduceSub, reduceLeDiff, reduceEq, reduceLT, reduceLE, go_sem]) | refine Z8 ?_ | refine Zc ‹_› trivial ?_ | refine touch_go rfl ?_ | refine eff_go rfl ?_ | fail
      simp only [resF, bys, Option.getD_some, Bool.true_and]
      cases w with
      | nil => rfl
      | cons x r => simp
@[go_sem] def lv49 : List (Nat × List Nat) := [(0, [4, 5, 6, 7]), (1, [8, 9])]
def bs49 : List (Nat × List Nat × List Nat) := []
set_option maxRecDepth 4000 in
theorem c_kids {gl} {l : List Nd} {nodes : List Int} {full : Bool} {v : Vl} {F : Nat → Vl → Option (List UInt8)} (hv : v.bulk ≤ 1048577) (hn : 0 < nodes.length) (hn' : nodes.length ≤ 1000) (hb : ∀ i, i < v.kids.length → ∀ p, F i (v.kids.getD i Vl.z) = some p → p.length ≤ 4194304)
    (hw : ∀ i, i < v.kids.length → PCon Try.prog gl 37 [desc l, .int .i64 (nodes.getD (min i (nodes.length - 1)) 0), val (v.kids.getD i Vl.z)] (resW (F i (v.kids.getD i Vl.z)))) :
    PCon Try.prog gl 49 [desc l, val v, .bool full, ints nodes] (resW (gathI F full 0 v.kids)) := by
  have hk : v.kids.length ≤ 1048577 := by
    have := v.bulk_eq
    have := Vl.bulkL_len (l := v.kids)
    omega
  refine PCon.enter tb_ok (fn := Try.f49) (by kernel_rfl) (by kernel_rfl) rfl (by show 4 ≤ 16; decide) ?_
  repeat' first | refine Z1 fun _ _ => ?_ | ((first | refine Z3 tb_ok lv49 rfl ?_ | refine ret_eq rfl ?_); simp only [↓reduceIte, reduceCtorEq, reduceEqDiff, reduceAdd, reduceMul, reduceSub, reduceLeDiff, reduceEq, reduceLT, reduceLE, go_sem]) | refine Z8 ?_ | refine Zc ‹_› trivial ?_ | fail
  refine Cut.go ‹_› ?_; refine .freeze 0 rfl rfl ?_; simp only [↓reduceIte, reduceCtorEq, reduceEqDiff, reduceAdd, reduceMul, reduceSub, reduceLeDiff, reduceEq, reduceLT, reduceLE, go_sem]; refine .freeze 2 rfl rfl ?_; simp only [↓reduceIte, reduceCtorEq, reduceEqDiff, reduceAdd, reduceMul, reduceSub, reduceLeDiff, reduceEq, reduceLT, reduceLE, go_sem]; refine .freeze 3 rfl rfl ?_; simp only [↓reduceIte, reduceCtorEq, reduceEqDiff, reduceAdd, reduceMul, reduceSub, reduceLeDiff, reduceEq, reduceLT, reduceLE, go_sem]
  repeat' first | refine Z1 fun _ _ => ?_ | refine Z2 ‹_› ?_ | ((first | refine Z3 tb_ok lv49 rfl ?_ | refine ret_eq rfl ?_); simp only [↓reduceIte, reduceCtorEq, reduceEqDiff, reduceAdd, reduceMul, reduceSub, reduceLeDiff, reduceEq, reduceLT, reduceLE, go_sem]) | refine Z8 ?_ | refine Zc ‹_› trivial ?_ | fail
  refine call_pure rfl rfl (c_gather (F := F) (full := full) hk hb (fun i hi => c_kids1 hn hn' (by omega) (hw i hi))) ?_; simp only [↓reduceIte, reduceCtorEq, reduceEqDiff, reduceAdd, reduceMul, reduceSub, reduceLeDiff, reduceEq, reduceLT, reduceLE, go_sem]
  repeat' first | refine Z1 fun _ _ => ?_ | refine Z2 ‹_› ?_ | ((first | refine Z3 tb_ok lv49 rfl ?_ | refine ret_eq rfl ?_); simp only [↓reduceIte, reduceCtorEq, reduceEqDiff, reduceAdd, reduceMul, reduceSub, reduceLeDiff, reduceEq, reduceLT, reduceLE, go_sem]) | refine Z8 ?_ | refine Zc ‹_› trivial ?_ | fail
end Go.Proofs.Ytpibdbjlilpfiaa
