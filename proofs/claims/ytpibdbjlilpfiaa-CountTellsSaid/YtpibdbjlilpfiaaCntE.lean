/- count: many. -/
import Derived.Test.YtpibdbjlilpfiaaCntD
namespace Go.Proofs.Ytpibdbjlilpfiaa
set_option linter.all false
open Go Go.RowKit
open Nat (reduceEqDiff reduceAdd reduceMul reduceSub reduceLeDiff)
open Int (reduceEq reduceLT reduceLE)

theorem take_getD {α : Type} {l : List α} (d : α) {i : Nat} (h : i < l.length) : l.take (i + 1) = l.take i ++ [l.getD i d] := by
  rw [List.take_succ, List.getElem?_eq_getElem h, List.getD_eq_getElem?_getD, List.getElem?_eq_getElem h]
  rfl
def many0 (k lo : Int) (e : Bool) : List Vl := if e = true ∧ (k = 6 ∨ lo = 0) then [Vl.mk k 0 .empty 0 []] else []
theorem many0_len {k lo : Int} {e : Bool} : (many0 k lo e).length ≤ 1 := by unfold many0; split <;> simp
def many0D (k lo : Int) (e : Bool) : List (List D) := if e = true ∧ (k = 6 ∨ lo = 0) then [[.int .i64 k, .int .u8 0, .str .empty, .int .i64 0, .nils]] else []
theorem many0_norm {k lo : Int} {e : Bool} : (Obj1.row true 27 5 (many0D k lo e)).norm = Obj1.row true 27 5 ((many0 k lo e).map Vl.cells) := by
  unfold many0D many0
  split <;> rfl
@[go_sem] def lv69 : List (Nat × List Nat) := [(0, [3, 4, 5]), (1, [3, 4, 5, 7]), (2, [3, 4, 5, 7, 26]), (3, [3, 4, 5, 7]), (4, [3, 4, 5, 7, 40]), (5, [6]), (6, [3, 4, 5, 7, 8]), (7, [7, 9]), (8, [7, 66, 67, 68]), (9, [7, 66, 67, 68, 69]), (10, [7, 11, 66, 67, 68]), (11, [7, 66, 67, 68]), (12, [7, 66, 67, 68]), (13, [6])]
def bs69 : List (Nat × List Nat × List Nat) := []
set_option maxHeartbeats 4000000 in
theorem c_cmany {gl} {l : List Nd} {w : List UInt8} {m i a to : Nat} {n : Nd} {k0 lo hi : Int} {A B : Nat → List Vl} (hl : l.length ≤ 1048576) (hi' : i < l.length) (hn : n.a = (i : Int)) (hlo : 0 ≤ lo ∧ lo ≤ 255) (hhi : 0 ≤ hi ∧ hi ≤ 255) (hat : a ≤ to) (hto : to ≤ 1000)
    (hA : ∀ mid, a < mid → mid ≤ to → Asks gl l w m i a mid (A mid)) (hB : ∀ mid : Nat, a < mid → mid ≤ to → PCon Try.prog gl 45 [rdr l w m, keyD [k0, max (lo - 1) 0, max (hi - 1) 0, (mid : Int), (to : Int)]] (vals (B mid)))
    (lA : ∀ mid, (A mid).length ≤ 2) (lB : ∀ mid, (B mid).length ≤ 2) (bB : ∀ mid y, a < mid → mid ≤ to → y ∈ B mid → y.kids.length ≤ 1048577) (bJ : ∀ mid x y, a < mid → mid ≤ to → x ∈ A mid → y ∈ B mid → (Vl.mk n.kind 0 .empty 0 (x :: y.kids)).bulk ≤ 1048577) :
    PCon Try.prog gl 69 [rdr l w m, keyD [k0, lo, hi, a, to], .agg n.cells] (vals (if n.kind = 7 ∧ hi = 0 then many0 n.kind lo (decide (a = to)) else addsV (many0 n.kind lo (decide (a = to))) (addsV [] (allL A B (fun x y => .mk n.kind 0 .empty 0 (x :: y.kids)) (a + 1) (to - a))))) := by
  refine PCon.enter tb_ok (fn := Try.f69) (by kernel_rfl) (by kernel_rfl) rfl (by show 3 ≤ 77; decide) ?_
  simp only [rdr, keyD, List.map_cons, List.map_nil, Nd.cells]
  repeat' first | refine Z1 fun _ _ => ?_ | ((first | refine Z3 tb_ok lv69 rfl ?_ | refine Zr rfl ?_); simp only [↓reduceIte, reduceCtorEq, reduceEqDiff, reduceAdd, reduceMul, reduceSub, reduceLeDiff, reduceEq, reduceLT, reduceLE, go_sem]) | (refine Z5 rfl ?_; with_reducible first | refine ZT ?_ | refine ZF ?_) | refine ZS rfl ?_ | refine Z9 fun _ _ => ?_ | refine ZH ?_ | refine Zl ‹_› (by decide) ?_ | fail
  refine Z2 ‹_› ?_
  repeat' first | refine Z1 fun _ _ => ?_ | ((first | refine Z3 tb_ok lv69 rfl ?_ | refine Zr rfl ?_); simp only [↓reduceIte, reduceCtorEq, reduceEqDiff, reduceAdd, reduceMul, reduceSub, reduceLeDiff, reduceEq, reduceLT, reduceLE, go_sem]) | (refine Z5 rfl ?_; with_reducible first | refine ZT ?_ | refine ZF ?_) | refine ZS rfl ?_ | refine Z9 fun _ _ => ?_ | refine ZH ?_ | refine Zl ‹_› (by decide) ?_ | fail
  refine Z2 ‹_› ?_
  refine .adopt 7 27 5 rfl (by decide) ?_
  simp only [↓reduceIte, reduceCtorEq, reduceEqDiff, reduceAdd, reduceMul, reduceSub, reduceLeDiff, reduceEq, reduceLT, reduceLE, go_sem]
  refine .cutW ⟨[(3, .ref 0 0), (4, .ref 1 0), (5, .ref 2 0), (7, .own 5)], [(5, .row true 27 5 (many0D n.kind lo (decide (a = to)))), (2, .box true [.d (.int .i64 n.kind), .d (.int .i64 n.a), .d (.int .i64 n.b), .d (.int .i64 n.lo), .d (.int .i64 n.hi), .d (.int .u64 n.c0), .d (.int .u64 n.c1), .d (.int .u64 n.c2), .d (.int .u64 n.c3), .d (.str n.text)]), (1, .box true [.d (.int .i64 k0), .d (.int .i64 lo), .d (.int .i64 hi), .d (.int .i64 a), .d (.int .i64 to)]), (0, .box true [.d (.addr [.slice (l.map Nd.cells), .slice (w.map encB), .mapv m])])], 6⟩ (fun Q' hQ' => ?_) ?_
  · repeat' first | refine Z1 fun _ _ => ?_ | refine Z2 ‹_› ?_ | ((first | refine Z3 tb_ok lv69 rfl ?_ | refine Zr rfl ?_); simp only [↓reduceIte, reduceCtorEq, reduceEqDiff, reduceAdd, reduceMul, reduceSub, reduceLeDiff, reduceEq, reduceLT, reduceLE, go_sem]) | (refine Z5 rfl ?_; with_reducible first | refine ZT ?_ | refine ZF ?_) | refine ZS rfl ?_ | refine Z9 fun _ _ => ?_ | refine ZH ?_ | refine Zl ‹_› (by decide) ?_ | fail
    refine .split rfl (fun e1 => ?_) (fun e1 => ?_) <;> simp only [↓reduceIte, reduceCtorEq, reduceEqDiff, reduceAdd, reduceMul, reduceSub, reduceLeDiff, reduceEq, reduceLT, reduceLE, go_sem, e1]
    · simp only [decide_eq_true_eq] at e1
      have e1' : a = to := by omega
      refine .split rfl (fun e2 => ?_) (fun e2 => ?_) <;> simp only [↓reduceIte, reduceCtorEq, reduceEqDiff, reduceAdd, reduceMul, reduceSub, reduceLeDiff, reduceEq, reduceLT, reduceLE, go_sem, e2]
      · repeat' first | refine Z1 fun _ _ => ?_ | refine Z2 ‹_› ?_ | ((first | refine Z3 tb_ok lv69 rfl ?_ | refine Zr rfl ?_); simp only [↓reduceIte, reduceCtorEq, reduceEqDiff, reduceAdd, reduceMul, reduceSub, reduceLeDiff, reduceEq, reduceLT, reduceLE, go_sem]) | (refine Z5 rfl ?_; with_reducible first | refine ZT ?_ | refine ZF ?_) | refine ZS rfl ?_ | refine Z9 fun _ _ => ?_ | refine ZH ?_ | refine Zl ‹_› (by decide) ?_ | fail
        simp only [decide_eq_true_eq] at e2
        refine ⟨fun e he => by rw [he]; rfl, ?_⟩
        refine hQ' _ [(26, 5)] (by rfl) ?_
        rw [show many0D n.kind lo (decide (a = to)) = [[.int .i64 n.kind, .int .u8 0, .str .empty, .int .i64 0, .nils]] by simp [many0D, e1', e2]]
        simp only [↓reduceIte, reduceCtorEq, reduceEqDiff, reduceAdd, reduceMul, reduceSub, reduceLeDiff, reduceEq, reduceLT, reduceLE, go_sem]
        simp
      · simp only [decide_eq_false_iff_not] at e2
        by_cases e3 : lo = 0
        · have g3 : decide (lo = 0) = true := decide_eq_true e3
          simp only [↓reduceIte, reduceCtorEq, reduceEqDiff, reduceAdd, reduceMul, reduceSub, reduceLeDiff, reduceEq, reduceLT, reduceLE, go_sem, g3]
          repeat' first | refine Z1 fun _ _ => ?_ | refine Z2 ‹_› ?_ | ((first | refine Z3 tb_ok lv69 rfl ?_ | refine Zr rfl ?_); simp only [↓reduceIte, reduceCtorEq, reduceEqDiff, reduceAdd, reduceMul, reduceSub, reduceLeDiff, reduceEq, reduceLT, reduceLE, go_sem]) | (refine Z5 rfl ?_; with_reducible first | refine ZT ?_ | refine ZF ?_) | refine ZS rfl ?_ | refine Z9 fun _ _ => ?_ | refine ZH ?_ | refine Zl ‹_› (by decide) ?_ | fail
          refine ⟨fun e he => by rw [he]; rfl, ?_⟩
          refine hQ' _ [(26, 5)] (by rfl) ?_
          rw [show many0D n.kind lo (decide (a = to)) = [[.int .i64 n.kind, .int .u8 0, .str .empty, .int .i64 0, .nils]] by simp [many0D, e1', e3]]
          simp only [↓reduceIte, reduceCtorEq, reduceEqDiff, reduceAdd, reduceMul, reduceSub, reduceLeDiff, reduceEq, reduceLT, reduceLE, go_sem]
          simp
        · have g3 : decide (lo = 0) = false := decide_eq_false e3
          simp only [↓reduceIte, reduceCtorEq, reduceEqDiff, reduceAdd, reduceMul, reduceSub, reduceLeDiff, reduceEq, reduceLT, reduceLE, go_sem, g3]
          repeat' first | refine Z1 fun _ _ => ?_ | refine Z2 ‹_› ?_ | ((first | refine Z3 tb_ok lv69 rfl ?_ | refine Zr rfl ?_); simp only [↓reduceIte, reduceCtorEq, reduceEqDiff, reduceAdd, reduceMul, reduceSub, reduceLeDiff, reduceEq, reduceLT, reduceLE, go_sem]) | (refine Z5 rfl ?_; with_reducible first | refine ZT ?_ | refine ZF ?_) | refine ZS rfl ?_ | refine Z9 fun _ _ => ?_ | refine ZH ?_ | refine Zl ‹_› (by decide) ?_ | fail
          refine hQ' _ [] (by rfl) ?_
          rw [show many0D n.kind lo (decide (a = to)) = [] by simp [many0D, e1', e2, e3]]
          simp only [↓reduceIte, reduceCtorEq, reduceEqDiff, reduceAdd, reduceMul, reduceSub, reduceLeDiff, reduceEq, reduceLT, reduceLE, go_sem]
          simp
    · simp only [decide_eq_false_iff_not] at e1
      have e1' : a ≠ to := by omega
      repeat' first | refine Z1 fun _ _ => ?_ | refine Z2 ‹_› ?_ | ((first | refine Z3 tb_ok lv69 rfl ?_ | refine Zr rfl ?_); simp only [↓reduceIte, reduceCtorEq, reduceEqDiff, reduceAdd, reduceMul, reduceSub, reduceLeDiff, reduceEq, reduceLT, reduceLE, go_sem]) | (refine Z5 rfl ?_; with_reducible first | refine ZT ?_ | refine ZF ?_) | refine ZS rfl ?_ | refine Z9 fun _ _ => ?_ | refine ZH ?_ | refine Zl ‹_› (by decide) ?_ | fail
      refine hQ' _ [] (by rfl) ?_
      rw [show many0D n.kind lo (decide (a = to)) = [] by simp [many0D, e1']]
      simp only [↓reduceIte, reduceCtorEq, reduceEqDiff, reduceAdd, reduceMul, reduceSub, reduceLeDiff, reduceEq, reduceLT, reduceLE, go_sem]
      simp
  refine .norm 5 rfl ?_
  rw [many0_norm]
  simp only [↓reduceIte, reduceCtorEq, reduceEqDiff, reduceAdd, reduceMul, reduceSub, reduceLeDiff, reduceEq, reduceLT, reduceLE, go_sem]
  by_cases hz : n.kind = 7 ∧ hi = 0
  · have g4 : decide (n.kind = 7) = true := decide_eq_true hz.1
    have g5 : decide (hi = 0) = true := decide_eq_true hz.2
    repeat' first | refine Z1 fun _ _ => ?_ | refine Z2 ‹_› ?_ | ((first | refine Z3 tb_ok lv69 rfl ?_ | refine Zr rfl ?_); simp only [↓reduceIte, reduceCtorEq, reduceEqDiff, reduceAdd, reduceMul, reduceSub, reduceLeDiff, reduceEq, reduceLT, reduceLE, go_sem]) | (refine Z5 rfl ?_; with_reducible first | refine ZT ?_ | refine ZF ?_) | refine ZS rfl ?_ | refine Z9 fun _ _ => ?_ | refine ZH ?_ | refine Zl ‹_› (by decide) ?_ | fail
    simp only [↓reduceIte, reduceCtorEq, reduceEqDiff, reduceAdd, reduceMul, reduceSub, reduceLeDiff, reduceEq, reduceLT, reduceLE, go_sem, g4, g5]
    repeat' first | refine Z1 fun _ _ => ?_ | refine Z2 ‹_› ?_ | ((first | refine Z3 tb_ok lv69 rfl ?_ | refine Zr rfl ?_); simp only [↓reduceIte, reduceCtorEq, reduceEqDiff, reduceAdd, reduceMul, reduceSub, reduceLeDiff, reduceEq, reduceLT, reduceLE, go_sem]) | (refine Z5 rfl ?_; with_reducible first | refine ZT ?_ | refine ZF ?_) | refine ZS rfl ?_ | refine Z9 fun _ _ => ?_ | refine ZH ?_ | refine Zl ‹_› (by decide) ?_ | fail
    rw [if_pos hz]
  rw [if_neg hz]
  refine .cutW ⟨[(3, .ref 0 0), (4, .ref 1 0), (5, .ref 2 0), (7, .own 5)], [(5, .row true 27 5 ((many0 n.kind lo (decide (a = to))).map Vl.cells)), (2, .box true [.d (.int .i64 n.kind), .d (.int .i64 n.a), .d (.int .i64 n.b), .d (.int .i64 n.lo), .d (.int .i64 n.hi), .d (.int .u64 n.c0), .d (.int .u64 n.c1), .d (.int .u64 n.c2), .d (.int .u64 n.c3), .d (.str n.text)]), (1, .box true [.d (.int .i64 k0), .d (.int .i64 lo), .d (.int .i64 hi), .d (.int .i64 a), .d (.int .i64 to)]), (0, .box true [.d (.addr [.slice (l.map Nd.cells), .slice (w.map encB), .mapv m])])], 6⟩ (fun Q' hQ' => ?_) ?_
  · by_cases e4 : n.kind = 7
    · have g4 : decide (n.kind = 7) = true := decide_eq_true e4
      have g5 : decide (hi = 0) = false := decide_eq_false fun h => hz ⟨e4, h⟩
      repeat' first | refine Z1 fun _ _ => ?_ | refine Z2 ‹_› ?_ | ((first | refine Z3 tb_ok lv69 rfl ?_ | refine Zr rfl ?_); simp only [↓reduceIte, reduceCtorEq, reduceEqDiff, reduceAdd, reduceMul, reduceSub, reduceLeDiff, reduceEq, reduceLT, reduceLE, go_sem]) | (refine Z5 rfl ?_; with_reducible first | refine ZT ?_ | refine ZF ?_) | refine ZS rfl ?_ | refine Z9 fun _ _ => ?_ | refine ZH ?_ | refine Zl ‹_› (by decide) ?_ | fail
      simp only [↓reduceIte, reduceCtorEq, reduceEqDiff, reduceAdd, reduceMul, reduceSub, reduceLeDiff, reduceEq, reduceLT, reduceLE, go_sem, g4, g5]
      repeat' first | refine Z1 fun _ _ => ?_ | refine Z2 ‹_› ?_ | ((first | refine Z3 tb_ok lv69 rfl ?_ | refine Zr rfl ?_); simp only [↓reduceIte, reduceCtorEq, reduceEqDiff, reduceAdd, reduceMul, reduceSub, reduceLeDiff, reduceEq, reduceLT, reduceLE, go_sem]) | (refine Z5 rfl ?_; with_reducible first | refine ZT ?_ | refine ZF ?_) | refine ZS rfl ?_ | refine Z9 fun _ _ => ?_ | refine ZH ?_ | refine Zl ‹_› (by decide) ?_ | fail
      exact hQ' _ [] (by rfl) (by simp only [↓reduceIte, reduceCtorEq, reduceEqDiff, reduceAdd, reduceMul, reduceSub, reduceLeDiff, reduceEq, reduceLT, reduceLE, go_sem]; simp)
    · have g4 : decide (n.kind = 7) = false := decide_eq_false e4
      repeat' first | refine Z1 fun _ _ => ?_ | refine Z2 ‹_› ?_ | ((first | refine Z3 tb_ok lv69 rfl ?_ | refine Zr rfl ?_); simp only [↓reduceIte, reduceCtorEq, reduceEqDiff, reduceAdd, reduceMul, reduceSub, reduceLeDiff, reduceEq, reduceLT, reduceLE, go_sem]) | (refine Z5 rfl ?_; with_reducible first | refine ZT ?_ | refine ZF ?_) | refine ZS rfl ?_ | refine Z9 fun _ _ => ?_ | refine ZH ?_ | refine Zl ‹_› (by decide) ?_ | fail
      simp only [↓reduceIte, reduceCtorEq, reduceEqDiff, reduceAdd, reduceMul, reduceSub, reduceLeDiff, reduceEq, reduceLT, reduceLE, go_sem, g4]
      repeat' first | refine Z1 fun _ _ => ?_ | refine Z2 ‹_› ?_ | ((first | refine Z3 tb_ok lv69 rfl ?_ | refine Zr rfl ?_); simp only [↓reduceIte, reduceCtorEq, reduceEqDiff, reduceAdd, reduceMul, reduceSub, reduceLeDiff, reduceEq, reduceLT, reduceLE, go_sem]) | (refine Z5 rfl ?_; with_reducible first | refine ZT ?_ | refine ZF ?_) | refine ZS rfl ?_ | refine Z9 fun _ _ => ?_ | refine ZH ?_ | refine Zl ‹_› (by decide) ?_ | fail
      exact hQ' _ [] (by rfl) (by simp only [↓reduceIte, reduceCtorEq, reduceEqDiff, reduceAdd, reduceMul, reduceSub, reduceLeDiff, reduceEq, reduceLT, reduceLE, go_sem]; simp)
  repeat' first | refine Z1 fun _ _ => ?_ | ((first | refine Z3 tb_ok lv69 rfl ?_ | refine Zr rfl ?_); simp only [↓reduceIte, reduceCtorEq, reduceEqDiff, reduceAdd, reduceMul, reduceSub, reduceLeDiff, reduceEq, reduceLT, reduceLE, go_sem]) | (refine Z5 rfl ?_; with_reducible first | refine ZT ?_ | refine ZF ?_) | refine ZS rfl ?_ | refine Z9 fun _ _ => ?_ | refine ZH ?_ | refine Zl ‹_› (by decide) ?_ | fail
  rw [wrap64 (by omega) (by omega), wrap64 (by omega) (by omega)]
  refine Cut.go ‹_› ?_; refine .freeze 21 rfl rfl ?_; simp only [↓reduceIte, reduceCtorEq, reduceEqDiff, reduceAdd, reduceMul, reduceSub, reduceLeDiff, reduceEq, reduceLT, reduceLE, go_sem]; refine .freeze 2 rfl rfl ?_; simp only [↓reduceIte, reduceCtorEq, reduceEqDiff, reduceAdd, reduceMul, reduceSub, reduceLeDiff, reduceEq, reduceLT, reduceLE, go_sem]; refine .freeze 1 rfl rfl ?_; simp only [↓reduceIte, reduceCtorEq, reduceEqDiff, reduceAdd, reduceMul, reduceSub, reduceLeDiff, reduceEq, reduceLT, reduceLE, go_sem]; refine .freeze 0 rfl rfl ?_; simp only [↓reduceIte, reduceCtorEq, reduceEqDiff, reduceAdd, reduceMul, reduceSub, reduceLeDiff, reduceEq, reduceLT, reduceLE, go_sem]
  repeat' first | refine Z1 fun _ _ => ?_ | refine Z2 ‹_› ?_ | ((first | refine Z3 tb_ok lv69 rfl ?_ | refine Zr rfl ?_); simp only [↓reduceIte, reduceCtorEq, reduceEqDiff, reduceAdd, reduceMul, reduceSub, reduceLeDiff, reduceEq, reduceLT, reduceLE, go_sem]) | (refine Z5 rfl ?_; with_reducible first | refine ZT ?_ | refine ZF ?_) | refine ZS rfl ?_ | refine Z9 fun _ _ => ?_ | refine ZH ?_ | refine Zl ‹_› (by decide) ?_ | fail
  rw [wrap64 (by omega) (by omega)]
  have hc := c_cross (gl := gl) (r := rdr l w m) (n0 := k0) (n1 := lo) (n2 := hi) (from' := a) (a := a + 1) (to := to) (f1 := 73) (f2 := 74) (f3 := 75) (C1 := [.addr [rdr l w m], .addr n.cells, tsk k0 lo hi a to])
    (C2 := [tsk k0 (max (lo - 1) 0) (max (hi - 1) 0) a to, .addr [rdr l w m]]) (C3 := [.addr n.cells]) (A := A) (B := B) (J := fun x y => .mk n.kind 0 .empty 0 (x :: y.kids)) (by omega) (by omega) lA lB (fun mid x y h1 h2 => bJ mid x y (by omega) h2)
    (fun mid h1 h2 => c_many1 hl hi' hn (hA mid (by omega) h2)) (fun mid h1 h2 => c_many2 (hB mid (by omega) h2)) (fun mid x y h1 h2 _ hy => c_many3 (bB mid y (by omega) h2 hy))
  rw [Nat.add_sub_add_right] at hc
  have hM : (addsV [] (allL A B (fun x y => .mk n.kind 0 .empty 0 (x :: y.kids)) (a + 1) (to - a))).length ≤ 2 := addsV_len (by simp)
  have hMb : ∀ u ∈ addsV [] (allL A B (fun x y => Vl.mk n.kind 0 .empty 0 (x :: y.kids)) (a + 1) (to - a)), u.bulk ≤ 1048577 := fun u hu => by
    rcases addsV_mem hu with hu | hu
    · cases hu
    · obtain ⟨mid, x, y, q1, q2, q3, q4, rfl⟩ := allL_mem.1 hu
      exact bJ mid x y (by omega) (by omega) q3 q4
  generalize hMe : addsV [] (allL A B (fun x y => .mk n.kind 0 .empty 0 (x :: y.kids)) (a + 1) (to - a)) = M at hc hM hMb ⊢
  simp only [rdr, keyD, List.map_cons, List.map_nil, tsk, Nd.cells, Int.natCast_add, Int.natCast_one, vals] at hc
  refine call_pure rfl rfl (hc) ?_; simp only [↓reduceIte, reduceCtorEq, reduceEqDiff, reduceAdd, reduceMul, reduceSub, reduceLeDiff, reduceEq, reduceLT, reduceLE, go_sem]
  repeat' first | refine Z1 fun _ _ => ?_ | refine Z2 ‹_› ?_ | ((first | refine Z3 tb_ok lv69 rfl ?_ | refine Zr rfl ?_); simp only [↓reduceIte, reduceCtorEq, reduceEqDiff, reduceAdd, reduceMul, reduceSub, reduceLeDiff, reduceEq, reduceLT, reduceLE, go_sem]) | (refine Z5 rfl ?_; with_reducible first | refine ZT ?_ | refine ZF ?_) | refine ZS rfl ?_ | refine Z9 fun _ _ => ?_ | refine ZH ?_ | refine Zl ‹_› (by decide) ?_ | fail
  have ho0 := many0_len (k := n.kind) (lo := lo) (e := decide (a = to))
  have hob : ∀ u ∈ many0 n.kind lo (decide (a = to)), u.bulk ≤ 1048577 := fun u hu => by
    unfold many0 at hu
    split at hu
    · rw [List.mem_singleton.1 hu, Vl.bulk, Vl.bulkL, show ByteArray.empty.size = 0 from rfl]; omega
    · cases hu
  generalize hoe : many0 n.kind lo (decide (a = to)) = out at ho0 hob ⊢
  refine .loopS (α := Nat) (fun q => ⟨[(7, .own 5), (66, .d (vals M)), (67, .d (.int .i64 M.length)), (68, .d (.int .i64 q))], [(5, .row true 27 5 ((addsV out (M.take q)).map Vl.cells))], 6⟩) (fun q => q ≤ M.length) (fun q => M.length - q) 0 (by omega) [] rfl (by simp only [↓reduceIte, reduceCtorEq, reduceEqDiff, reduceAdd, reduceMul, reduceSub, reduceLeDiff, reduceEq, reduceLT, reduceLE, go_sem]; simp [addsV]) ?_
  intro q hq Q3 hQ3
  repeat' first | refine Z1 fun _ _ => ?_ | refine Z2 ‹_› ?_ | ((first | refine Z3 tb_ok lv69 rfl ?_ | refine Zr rfl ?_); simp only [↓reduceIte, reduceCtorEq, reduceEqDiff, reduceAdd, reduceMul, reduceSub, reduceLeDiff, reduceEq, reduceLT, reduceLE, go_sem]) | (refine Z5 rfl ?_; with_reducible first | refine ZT ?_ | refine ZF ?_) | refine ZS rfl ?_ | refine Z9 fun _ _ => ?_ | refine ZH ?_ | refine Zl ‹_› (by decide) ?_ | fail
  refine .cond rfl (fun g5 => ?_) (fun g5 => ?_)
  · simp only [decide_eq_true_eq] at g5
    have g5' : q < M.length := by omega
    repeat' first | refine Z1 fun _ _ => ?_ | refine Z2 ‹_› ?_ | ((first | refine Z3 tb_ok lv69 rfl ?_ | refine Zr rfl ?_); simp only [↓reduceIte, reduceCtorEq, reduceEqDiff, reduceAdd, reduceMul, reduceSub, reduceLeDiff, reduceEq, reduceLT, reduceLE, go_sem]) | (refine Z5 rfl ?_; with_reducible first | refine ZT ?_ | refine ZF ?_) | refine ZS rfl ?_ | refine Z9 fun _ _ => ?_ | refine ZH ?_ | refine Zl ‹_› (by decide) ?_ | fail
    refine idx_map (j := q) Vl.z rfl rfl rfl rfl rfl (by omega) (by omega) (Vl.cells_len _) ?_
    simp only [↓reduceIte, reduceCtorEq, reduceEqDiff, reduceAdd, reduceMul, reduceSub, reduceLeDiff, reduceEq, reduceLT, reduceLE, go_sem]
    repeat' first | refine Z1 fun _ _ => ?_ | refine Z2 ‹_› ?_ | ((first | refine Z3 tb_ok lv69 rfl ?_ | refine Zr rfl ?_); simp only [↓reduceIte, reduceCtorEq, reduceEqDiff, reduceAdd, reduceMul, reduceSub, reduceLeDiff, reduceEq, reduceLT, reduceLE, go_sem]) | (refine Z5 rfl ?_; with_reducible first | refine ZT ?_ | refine ZF ?_) | refine ZS rfl ?_ | refine Z9 fun _ _ => ?_ | refine ZH ?_ | refine Zl ‹_› (by decide) ?_ | fail
    have hcur : (addsV out (M.take q)).length ≤ 2 := addsV_len (by omega)
    have hbk : ∀ u ∈ addsV out (M.take q), u.bulk ≤ 1048577 := fun u hu => by
      rcases addsV_mem hu with hu | hu
      · exact hob u hu
      · exact hMb u (List.mem_of_mem_take hu)
    have hca := c_add (gl := gl) (v := M.getD q Vl.z) hcur hbk
    simp only [val, Vl.cells_eq] at hca
    rw [show addV (addsV out (M.take q)) (M.getD q Vl.z) = addsV out (M.take (q + 1)) by rw [take_getD Vl.z g5', addsV_app]; rfl] at hca
    refine call_step rfl rfl (st_callA1 rfl rfl rfl rfl rfl (hca)) ?_; simp only [↓reduceIte, reduceCtorEq, reduceEqDiff, reduceAdd, reduceMul, reduceSub, reduceLeDiff, reduceEq, reduceLT, reduceLE, go_sem]
    repeat' first | refine Z1 fun _ _ => ?_ | refine Z2 ‹_› ?_ | ((first | refine Z3 tb_ok lv69 rfl ?_ | refine Zr rfl ?_); simp only [↓reduceIte, reduceCtorEq, reduceEqDiff, reduceAdd, reduceMul, reduceSub, reduceLeDiff, reduceEq, reduceLT, reduceLE, go_sem]) | (refine Z5 rfl ?_; with_reducible first | refine ZT ?_ | refine ZF ?_) | refine ZS rfl ?_ | refine Z9 fun _ _ => ?_ | refine ZH ?_ | refine Zl ‹_› (by decide) ?_ | fail
    rw [wrap64 (by omega) (by omega)]
    exact hQ3.next (q + 1) [(13, 5)] (by omega) (by omega) rfl (by simp only [↓reduceIte, reduceCtorEq, reduceEqDiff, reduceAdd, reduceMul, reduceSub, reduceLeDiff, reduceEq, reduceLT, reduceLE, go_sem]; try simp)
  · simp only [decide_eq_false_iff_not] at g5
    have g5' : q = M.length := by omega
    repeat' first | refine Z1 fun _ _ => ?_ | refine Z2 ‹_› ?_ | ((first | refine Z3 tb_ok lv69 rfl ?_ | refine Zr rfl ?_); simp only [↓reduceIte, reduceCtorEq, reduceEqDiff, reduceAdd, reduceMul, reduceSub, reduceLeDiff, reduceEq, reduceLT, reduceLE, go_sem]) | (refine Z5 rfl ?_; with_reducible first | refine ZT ?_ | refine ZF ?_) | refine ZS rfl ?_ | refine Z9 fun _ _ => ?_ | refine ZH ?_ | refine Zl ‹_› (by decide) ?_ | fail
    rw [g5', List.take_length, hoe, hMe]
end Go.Proofs.Ytpibdbjlilpfiaa
