/- slices.Clone, node.moved: walks. -/
import Derived.Test.YtoidlnhgaaohdaaDoorNodeC
import Derived.Test.YtoidlnhgaaohdaaDoorFormF
namespace Go.Proofs.YtoidlnhgaaohdaaDoor
set_option linter.all false
open Go Go.RowKit
open Nat (reduceEqDiff reduceAdd reduceMul reduceSub reduceLeDiff)
open Int (reduceEq reduceLT reduceLE)

@[go_sem] def lv56 : List (Nat × List Nat) := [(0, [0]), (1, [0, 4]), (2, [2]), (3, [2])]
def bs56 : List (Nat × List Nat × List Nat) := []
set_option maxHeartbeats 1000000 in
theorem c_clone {gl} {l : List Nd} (hl : l.length ≤ 1048576) : PConR Tryd.prog gl 56 [nds l] 43 10 (l.map Nd.cells) := by
  cases l with
  | nil =>
    refine PConR.enter (fn := Tryd.f56) (by kernel_rfl) (by kernel_rfl) rfl (by show 1 ≤ 8; decide) ?_
    repeat' first | refine Z1 fun _ _ => ?_ | refine Z2 ‹_› ?_ | ((first | refine Z3 tb_ok lv56 rfl ?_ | refine ret_eq rfl ?_); simp only [↓reduceIte, reduceCtorEq, reduceEqDiff, reduceAdd, reduceMul, reduceSub, reduceLeDiff, reduceEq, reduceLT, reduceLE, go_sem]) | (refine Z5 rfl ?_; with_reducible first | refine condQ_T ?_ | refine condQ_F ?_) | refine Z6 ?_ | refine Z8 ?_ | refine Zc ‹_› trivial ?_ | fail
    refine .condAny rfl ?_ ?_
    · repeat' first | refine Z1 fun _ _ => ?_ | refine Z2 ‹_› ?_ | ((first | refine Z3 tb_ok lv56 rfl ?_ | refine ret_eq rfl ?_); simp only [↓reduceIte, reduceCtorEq, reduceEqDiff, reduceAdd, reduceMul, reduceSub, reduceLeDiff, reduceEq, reduceLT, reduceLE, go_sem]) | (refine Z5 rfl ?_; with_reducible first | refine condQ_T ?_ | refine condQ_F ?_) | refine Z6 ?_ | refine Z8 ?_ | refine Zc ‹_› trivial ?_ | fail
      first | exact rfl | exact ⟨rfl, rfl⟩ | trivial
    · repeat' first | refine Z1 fun _ _ => ?_ | refine Z2 ‹_› ?_ | ((first | refine Z3 tb_ok lv56 rfl ?_ | refine ret_eq rfl ?_); simp only [↓reduceIte, reduceCtorEq, reduceEqDiff, reduceAdd, reduceMul, reduceSub, reduceLeDiff, reduceEq, reduceLT, reduceLE, go_sem]) | (refine Z5 rfl ?_; with_reducible first | refine condQ_T ?_ | refine condQ_F ?_) | refine Z6 ?_ | refine Z8 ?_ | refine Zc ‹_› trivial ?_ | fail
      refine ⟨fun e he => he.elim, ?_⟩
      repeat' first | refine Z1 fun _ _ => ?_ | refine Z2 ‹_› ?_ | ((first | refine Z3 tb_ok lv56 rfl ?_ | refine ret_eq rfl ?_); simp only [↓reduceIte, reduceCtorEq, reduceEqDiff, reduceAdd, reduceMul, reduceSub, reduceLeDiff, reduceEq, reduceLT, reduceLE, go_sem]) | (refine Z5 rfl ?_; with_reducible first | refine condQ_T ?_ | refine condQ_F ?_) | refine Z6 ?_ | refine Z8 ?_ | refine Zc ‹_› trivial ?_ | fail
      first | exact rfl | exact ⟨rfl, rfl⟩ | trivial
  | cons x l =>
    simp only [List.length_cons] at hl
    refine PConR.enter (fn := Tryd.f56) (by kernel_rfl) (by kernel_rfl) rfl (by show 1 ≤ 8; decide) ?_
    repeat' first | refine Z1 fun _ _ => ?_ | refine Z2 ‹_› ?_ | ((first | refine Z3 tb_ok lv56 rfl ?_ | refine ret_eq rfl ?_); simp only [↓reduceIte, reduceCtorEq, reduceEqDiff, reduceAdd, reduceMul, reduceSub, reduceLeDiff, reduceEq, reduceLT, reduceLE, go_sem]) | (refine Z5 rfl ?_; with_reducible first | refine condQ_T ?_ | refine condQ_F ?_) | refine Z6 ?_ | refine Z8 ?_ | refine Zc ‹_› trivial ?_ | fail
    refine ⟨fun e he => ?_, by omega, by omega, ?_⟩
    · rcases he with rfl | he
      · rfl
      · obtain ⟨n, _, rfl⟩ := List.mem_map.1 he
        rfl
    repeat' first | refine Z1 fun _ _ => ?_ | refine Z2 ‹_› ?_ | ((first | refine Z3 tb_ok lv56 rfl ?_ | refine ret_eq rfl ?_); simp only [↓reduceIte, reduceCtorEq, reduceEqDiff, reduceAdd, reduceMul, reduceSub, reduceLeDiff, reduceEq, reduceLT, reduceLE, go_sem]) | (refine Z5 rfl ?_; with_reducible first | refine condQ_T ?_ | refine condQ_F ?_) | refine Z6 ?_ | refine Z8 ?_ | refine Zc ‹_› trivial ?_ | fail
    first | exact rfl | exact ⟨rfl, rfl⟩ | trivial
/-- What node.moved does with a node. -/
def Nd.pmv (d : Int) (n : Nd) : Nd :=
  if n.kind = 6 ∨ n.kind = 7 ∨ n.kind = 8 ∨ n.kind = 9 then { n with a := IntKind.i64.wrap (n.a + d) }
  else if n.kind = 4 ∨ n.kind = 5 then { n with a := IntKind.i64.wrap (n.a + d), b := IntKind.i64.wrap (n.b + d) }
  else n
def mvTo (d : Int) (l : List Nd) (i : Nat) : List Nd := (l.take i).map (Nd.pmv d) ++ l.drop i
theorem mvTo_len {d : Int} {l : List Nd} {i : Nat} : (mvTo d l i).length = l.length := by simp [mvTo]; omega
theorem mvTo_at {d : Int} {l : List Nd} {i : Nat} (hi : i < l.length) : (mvTo d l i).getD i Nd.z = l.getD i Nd.z := by
  simp only [mvTo, List.getD_eq_getElem?_getD]
  rw [List.getElem?_append_right (by simp; omega)]
  simp [Nat.min_eq_left (Nat.le_of_lt hi)]
theorem mvTo_succ {d : Int} {l : List Nd} {i : Nat} (hi : i < l.length) : mvTo d l (i + 1) = (mvTo d l i).set i (Nd.pmv d (l.getD i Nd.z)) := by
  simp only [mvTo]
  have hl : ((l.take i).map (Nd.pmv d)).length = i := by simp; omega
  rw [List.set_append_right _ _ (by omega), drop_getD hi Nd.z, hl, Nat.sub_self, List.set_cons_zero, take_succ_map Nd.z hi, List.append_assoc]
  rfl
@[go_sem] def lv44 : List (Nat × List Nat) := [(0, [0, 1]), (1, [1, 5]), (2, [1, 5, 10, 11]), (3, [1, 5, 10, 11, 12]), (4, [1, 5, 6, 10, 11]), (5, [1, 5, 6, 10, 11, 18]), (6, [1, 5, 6, 10, 11, 18, 20]), (7, [1, 5, 10, 11]), (8, [1, 5, 6, 10, 11, 32]), (9, [1, 5, 6, 10, 11]), (10, [1, 5, 10, 11]), (11, [1, 5, 10, 11]), (12, [4])]
def bs44 : List (Nat × List Nat × List Nat) := []
set_option maxHeartbeats 4000000 in
theorem c_nmoved {l : List Nd} (d : Int) (hl : l.length ≤ 1048576) (htx : ∀ i, (l.getD i Nd.z).text.size ≤ 1048576) : PConR Tryd.prog glU 44 [nds l, .int .i64 d] 43 10 ((l.map (Nd.pmv d)).map Nd.cells) := by
  refine PConR.enter (fn := Tryd.f44) (by kernel_rfl) (by kernel_rfl) rfl (by show 2 ≤ 54; decide) ?_
  repeat' first | refine Z1 fun _ _ => ?_ | refine Z2 ‹_› ?_ | ((first | refine Z3 tb_ok lv44 rfl ?_ | refine ret_eq rfl ?_); simp only [↓reduceIte, reduceCtorEq, reduceEqDiff, reduceAdd, reduceMul, reduceSub, reduceLeDiff, reduceEq, reduceLT, reduceLE, go_sem]) | (refine Z5 rfl ?_; with_reducible first | refine condQ_T ?_ | refine condQ_F ?_) | refine Z6 ?_ | refine Z7 ?_ | refine Z8 ?_ | refine Z9 fun _ _ => ?_ | refine Za ‹_› ?_ | refine Zb ‹_› ?_ | refine Zc ‹_› trivial ?_ | refine Zd ‹_› trivial ?_ | refine Ze ‹_› trivial ?_ | refine Zf ‹_› ?_ | refine Zl ‹_› (by decide) ?_ | fail
  refine call_row rfl rfl (c_clone hl) ?_; simp only [↓reduceIte, reduceCtorEq, reduceEqDiff, reduceAdd, reduceMul, reduceSub, reduceLeDiff, reduceEq, reduceLT, reduceLE, go_sem]
  repeat' first | refine Z1 fun _ _ => ?_ | refine Z2 ‹_› ?_ | ((first | refine Z3 tb_ok lv44 rfl ?_ | refine ret_eq rfl ?_); simp only [↓reduceIte, reduceCtorEq, reduceEqDiff, reduceAdd, reduceMul, reduceSub, reduceLeDiff, reduceEq, reduceLT, reduceLE, go_sem]) | (refine Z5 rfl ?_; with_reducible first | refine condQ_T ?_ | refine condQ_F ?_) | refine Z6 ?_ | refine Z7 ?_ | refine Z8 ?_ | refine Z9 fun _ _ => ?_ | refine Za ‹_› ?_ | refine Zb ‹_› ?_ | refine Zc ‹_› trivial ?_ | refine Zd ‹_› trivial ?_ | refine Ze ‹_› trivial ?_ | refine Zf ‹_› ?_ | refine Zl ‹_› (by decide) ?_ | fail
  refine .loopC (α := Nat) (fun i => ⟨[(1, .d (.int .i64 d)), (5, .own 2), (10, .d (.int .i64 l.length)), (11, .d (.int .i64 i))], [(2, .row true 43 10 ((mvTo d l i).map Nd.cells))], 3⟩) (fun i => i ≤ l.length) (fun i => l.length - i) 0 (by omega) (by simp only [↓reduceIte, reduceCtorEq, reduceEqDiff, reduceAdd, reduceMul, reduceSub, reduceLeDiff, reduceEq, reduceLT, reduceLE, go_sem]; simp [mvTo]) ?_
  intro i hi Q hQ
  have hlen := mvTo_len (d := d) (l := l) (i := i)
  repeat' first | refine Z1 fun _ _ => ?_ | refine Z2 ‹_› ?_ | ((first | refine Z3 tb_ok lv44 rfl ?_ | refine ret_eq rfl ?_); simp only [↓reduceIte, reduceCtorEq, reduceEqDiff, reduceAdd, reduceMul, reduceSub, reduceLeDiff, reduceEq, reduceLT, reduceLE, go_sem]) | (refine Z5 rfl ?_; with_reducible first | refine condQ_T ?_ | refine condQ_F ?_) | refine Z6 ?_ | refine Z7 ?_ | refine Z8 ?_ | refine Z9 fun _ _ => ?_ | refine Za ‹_› ?_ | refine Zb ‹_› ?_ | refine Zc ‹_› trivial ?_ | refine Zd ‹_› trivial ?_ | refine Ze ‹_› trivial ?_ | refine Zf ‹_› ?_ | refine Zl ‹_› (by decide) ?_ | fail
  refine .cond rfl (fun g => ?_) (fun g => ?_)
  · simp only [decide_eq_true_eq] at g
    have hat := mvTo_at (d := d) (show i < l.length by omega)
    have hsu := mvTo_succ (d := d) (show i < l.length by omega)
    have wi : IntKind.i64.wrap ((i : Int) + 1) = ((i + 1 : Nat) : Int) := wrap64 (by omega) (by omega)
    have hof := c_of (l.getD i Nd.z) (htx i)
    repeat' first | refine Z1 fun _ _ => ?_ | refine Z2 ‹_› ?_ | ((first | refine Z3 tb_ok lv44 rfl ?_ | refine ret_eq rfl ?_); simp only [↓reduceIte, reduceCtorEq, reduceEqDiff, reduceAdd, reduceMul, reduceSub, reduceLeDiff, reduceEq, reduceLT, reduceLE, go_sem]) | (refine Z5 rfl ?_; with_reducible first | refine condQ_T ?_ | refine condQ_F ?_) | refine Z6 ?_ | refine Z7 ?_ | refine Z8 ?_ | refine Z9 fun _ _ => ?_ | refine Za ‹_› ?_ | refine Zb ‹_› ?_ | refine Zc ‹_› trivial ?_ | refine Zd ‹_› trivial ?_ | refine Ze ‹_› trivial ?_ | refine Zf ‹_› ?_ | refine Zl ‹_› (by decide) ?_ | fail
    refine idx_own (j := i) rfl rfl rfl rfl rfl (by omega) (by omega) (by simp; omega) ?_
    simp only [↓reduceIte, reduceCtorEq, reduceEqDiff, reduceAdd, reduceMul, reduceSub, reduceLeDiff, reduceEq, reduceLT, reduceLE, go_sem]
    refine ⟨_, at_map Nd.z (show i < (mvTo d l i).length by omega), ?_⟩
    rw [hat]
    generalize hn : l.getD i Nd.z = n at hof hsu
    simp only [↓reduceIte, reduceCtorEq, reduceEqDiff, reduceAdd, reduceMul, reduceSub, reduceLeDiff, reduceEq, reduceLT, reduceLE, go_sem]
    repeat' first | refine Z1 fun _ _ => ?_ | refine Z2 ‹_› ?_ | ((first | refine Z3 tb_ok lv44 rfl ?_ | refine ret_eq rfl ?_); simp only [↓reduceIte, reduceCtorEq, reduceEqDiff, reduceAdd, reduceMul, reduceSub, reduceLeDiff, reduceEq, reduceLT, reduceLE, go_sem]) | (refine Z5 rfl ?_; with_reducible first | refine condQ_T ?_ | refine condQ_F ?_) | refine Z6 ?_ | refine Z7 ?_ | refine Z8 ?_ | refine Z9 fun _ _ => ?_ | refine Za ‹_› ?_ | refine Zb ‹_› ?_ | refine Zc ‹_› trivial ?_ | refine Zd ‹_› trivial ?_ | refine Ze ‹_› trivial ?_ | refine Zf ‹_› ?_ | refine Zl ‹_› (by decide) ?_ | fail
    refine call_pure rfl rfl (hof) ?_; simp only [↓reduceIte, reduceCtorEq, reduceEqDiff, reduceAdd, reduceMul, reduceSub, reduceLeDiff, reduceEq, reduceLT, reduceLE, go_sem]
    by_cases k1 : n.kind = 6 ∨ n.kind = 7 ∨ n.kind = 8 ∨ n.kind = 9
    · rw [shape_one k1]
      repeat' first | refine Z1 fun _ _ => ?_ | refine Z2 ‹_› ?_ | ((first | refine Z3 tb_ok lv44 rfl ?_ | refine ret_eq rfl ?_); simp only [↓reduceIte, reduceCtorEq, reduceEqDiff, reduceAdd, reduceMul, reduceSub, reduceLeDiff, reduceEq, reduceLT, reduceLE, go_sem]) | (refine Z5 rfl ?_; with_reducible first | refine condQ_T ?_ | refine condQ_F ?_) | refine Z6 ?_ | refine Z7 ?_ | refine Z8 ?_ | refine Z9 fun _ _ => ?_ | refine Za ‹_› ?_ | refine Zb ‹_› ?_ | refine Zc ‹_› trivial ?_ | refine Zd ‹_› trivial ?_ | refine Ze ‹_› trivial ?_ | refine Zf ‹_› ?_ | refine Zl ‹_› (by decide) ?_ | fail
      refine idx_own (j := i) rfl rfl rfl rfl rfl (by omega) (by omega) (by simp; omega) ?_
      simp only [↓reduceIte, reduceCtorEq, reduceEqDiff, reduceAdd, reduceMul, reduceSub, reduceLeDiff, reduceEq, reduceLT, reduceLE, go_sem]
      refine ⟨_, at_map Nd.z (show i < (mvTo d l i).length by omega), ?_⟩
      rw [hat, hn]
      simp only [↓reduceIte, reduceCtorEq, reduceEqDiff, reduceAdd, reduceMul, reduceSub, reduceLeDiff, reduceEq, reduceLT, reduceLE, go_sem]
      refine idx_own (j := i) rfl rfl rfl rfl rfl (by omega) (by omega) (by simp; omega) ?_
      simp only [↓reduceIte, reduceCtorEq, reduceEqDiff, reduceAdd, reduceMul, reduceSub, reduceLeDiff, reduceEq, reduceLT, reduceLE, go_sem]
      refine ⟨_, at_map Nd.z (show i < (mvTo d l i).length by omega), ?_⟩
      rw [hat, hn]
      simp only [↓reduceIte, reduceCtorEq, reduceEqDiff, reduceAdd, reduceMul, reduceSub, reduceLeDiff, reduceEq, reduceLT, reduceLE, go_sem]
      repeat' first | refine Z1 fun _ _ => ?_ | refine Z2 ‹_› ?_ | ((first | refine Z3 tb_ok lv44 rfl ?_ | refine ret_eq rfl ?_); simp only [↓reduceIte, reduceCtorEq, reduceEqDiff, reduceAdd, reduceMul, reduceSub, reduceLeDiff, reduceEq, reduceLT, reduceLE, go_sem]) | (refine Z5 rfl ?_; with_reducible first | refine condQ_T ?_ | refine condQ_F ?_) | refine Z6 ?_ | refine Z7 ?_ | refine Z8 ?_ | refine Z9 fun _ _ => ?_ | refine Za ‹_› ?_ | refine Zb ‹_› ?_ | refine Zc ‹_› trivial ?_ | refine Zd ‹_› trivial ?_ | refine Ze ‹_› trivial ?_ | refine Zf ‹_› ?_ | refine Zl ‹_› (by decide) ?_ | fail
      have fin : (List.map Nd.cells (mvTo d l i)).set i (Nd.cells { n with a := IntKind.i64.wrap (n.a + d) }) = List.map Nd.cells (mvTo d l (i + 1)) := by
        rw [hsu, Nd.pmv, if_pos k1, List.map_set]
      simp only [Nd.cells] at fin
      exact hQ.next (i + 1) (by omega) (by omega) (by simp only [↓reduceIte, reduceCtorEq, reduceEqDiff, reduceAdd, reduceMul, reduceSub, reduceLeDiff, reduceEq, reduceLT, reduceLE, go_sem, wi, fin]; try simp)
    by_cases k2 : n.kind = 4 ∨ n.kind = 5
    · rw [shape_two k2]
      repeat' first | refine Z1 fun _ _ => ?_ | refine Z2 ‹_› ?_ | ((first | refine Z3 tb_ok lv44 rfl ?_ | refine ret_eq rfl ?_); simp only [↓reduceIte, reduceCtorEq, reduceEqDiff, reduceAdd, reduceMul, reduceSub, reduceLeDiff, reduceEq, reduceLT, reduceLE, go_sem]) | (refine Z5 rfl ?_; with_reducible first | refine condQ_T ?_ | refine condQ_F ?_) | refine Z6 ?_ | refine Z7 ?_ | refine Z8 ?_ | refine Z9 fun _ _ => ?_ | refine Za ‹_› ?_ | refine Zb ‹_› ?_ | refine Zc ‹_› trivial ?_ | refine Zd ‹_› trivial ?_ | refine Ze ‹_› trivial ?_ | refine Zf ‹_› ?_ | refine Zl ‹_› (by decide) ?_ | fail
      have fin : ((mvTo d l i).set i { n with a := IntKind.i64.wrap (n.a + d) }).set i { n with a := IntKind.i64.wrap (n.a + d), b := IntKind.i64.wrap (n.b + d) } = mvTo d l (i + 1) := by
        rw [hsu, Nd.pmv, if_neg k1, if_pos k2, List.set_set]
      have mid : (List.map Nd.cells (mvTo d l i)).set i (Nd.cells { n with a := IntKind.i64.wrap (n.a + d) }) = List.map Nd.cells ((mvTo d l i).set i { n with a := IntKind.i64.wrap (n.a + d) }) := by rw [List.map_set]
      have at2 : ((mvTo d l i).set i { n with a := IntKind.i64.wrap (n.a + d) }).getD i Nd.z = { n with a := IntKind.i64.wrap (n.a + d) } := by
        rw [List.getD_eq_getElem?_getD, List.getElem?_set_self (by omega)]
        rfl
      have len2 : ((mvTo d l i).set i { n with a := IntKind.i64.wrap (n.a + d) }).length = l.length := by rw [List.length_set, hlen]
      simp only [Nd.cells] at mid
      refine idx_own (j := i) rfl rfl rfl rfl rfl (by omega) (by omega) (by simp; omega) ?_
      simp only [↓reduceIte, reduceCtorEq, reduceEqDiff, reduceAdd, reduceMul, reduceSub, reduceLeDiff, reduceEq, reduceLT, reduceLE, go_sem]
      refine ⟨_, at_map Nd.z (show i < (mvTo d l i).length by omega), ?_⟩
      rw [hat, hn]
      simp only [↓reduceIte, reduceCtorEq, reduceEqDiff, reduceAdd, reduceMul, reduceSub, reduceLeDiff, reduceEq, reduceLT, reduceLE, go_sem]
      refine idx_own (j := i) rfl rfl rfl rfl rfl (by omega) (by omega) (by simp; omega) ?_
      simp only [↓reduceIte, reduceCtorEq, reduceEqDiff, reduceAdd, reduceMul, reduceSub, reduceLeDiff, reduceEq, reduceLT, reduceLE, go_sem]
      refine ⟨_, at_map Nd.z (show i < (mvTo d l i).length by omega), ?_⟩
      rw [hat, hn]
      simp only [↓reduceIte, reduceCtorEq, reduceEqDiff, reduceAdd, reduceMul, reduceSub, reduceLeDiff, reduceEq, reduceLT, reduceLE, go_sem, mid]
      repeat' first | refine Z1 fun _ _ => ?_ | refine Z2 ‹_› ?_ | ((first | refine Z3 tb_ok lv44 rfl ?_ | refine ret_eq rfl ?_); simp only [↓reduceIte, reduceCtorEq, reduceEqDiff, reduceAdd, reduceMul, reduceSub, reduceLeDiff, reduceEq, reduceLT, reduceLE, go_sem]) | (refine Z5 rfl ?_; with_reducible first | refine condQ_T ?_ | refine condQ_F ?_) | refine Z6 ?_ | refine Z7 ?_ | refine Z8 ?_ | refine Z9 fun _ _ => ?_ | refine Za ‹_› ?_ | refine Zb ‹_› ?_ | refine Zc ‹_› trivial ?_ | refine Zd ‹_› trivial ?_ | refine Ze ‹_› trivial ?_ | refine Zf ‹_› ?_ | refine Zl ‹_› (by decide) ?_ | fail
      generalize hB : (mvTo d l i).set i { n with a := IntKind.i64.wrap (n.a + d) } = B at fin at2 len2
      refine idx_own (j := i) rfl rfl rfl rfl rfl (by omega) (by omega) (by simp; omega) ?_
      simp only [↓reduceIte, reduceCtorEq, reduceEqDiff, reduceAdd, reduceMul, reduceSub, reduceLeDiff, reduceEq, reduceLT, reduceLE, go_sem]
      refine ⟨_, at_map Nd.z (show i < B.length by omega), ?_⟩
      rw [at2]
      simp only [↓reduceIte, reduceCtorEq, reduceEqDiff, reduceAdd, reduceMul, reduceSub, reduceLeDiff, reduceEq, reduceLT, reduceLE, go_sem]
      refine idx_own (j := i) rfl rfl rfl rfl rfl (by omega) (by omega) (by simp; omega) ?_
      simp only [↓reduceIte, reduceCtorEq, reduceEqDiff, reduceAdd, reduceMul, reduceSub, reduceLeDiff, reduceEq, reduceLT, reduceLE, go_sem]
      refine ⟨_, at_map Nd.z (show i < B.length by omega), ?_⟩
      rw [at2]
      simp only [↓reduceIte, reduceCtorEq, reduceEqDiff, reduceAdd, reduceMul, reduceSub, reduceLeDiff, reduceEq, reduceLT, reduceLE, go_sem]
      repeat' first | refine Z1 fun _ _ => ?_ | refine Z2 ‹_› ?_ | ((first | refine Z3 tb_ok lv44 rfl ?_ | refine ret_eq rfl ?_); simp only [↓reduceIte, reduceCtorEq, reduceEqDiff, reduceAdd, reduceMul, reduceSub, reduceLeDiff, reduceEq, reduceLT, reduceLE, go_sem]) | (refine Z5 rfl ?_; with_reducible first | refine condQ_T ?_ | refine condQ_F ?_) | refine Z6 ?_ | refine Z7 ?_ | refine Z8 ?_ | refine Z9 fun _ _ => ?_ | refine Za ‹_› ?_ | refine Zb ‹_› ?_ | refine Zc ‹_› trivial ?_ | refine Zd ‹_› trivial ?_ | refine Ze ‹_› trivial ?_ | refine Zf ‹_› ?_ | refine Zl ‹_› (by decide) ?_ | fail
      have fin2 : (List.map Nd.cells B).set i (Nd.cells { n with a := IntKind.i64.wrap (n.a + d), b := IntKind.i64.wrap (n.b + d) }) = List.map Nd.cells (mvTo d l (i + 1)) := by
        rw [← fin, List.map_set]
      simp only [Nd.cells] at fin2
      exact hQ.next (i + 1) (by omega) (by omega) (by simp only [↓reduceIte, reduceCtorEq, reduceEqDiff, reduceAdd, reduceMul, reduceSub, reduceLeDiff, reduceEq, reduceLT, reduceLE, go_sem, wi, fin2]; try simp)
    · have hsh : shapeD n = .iface 101 (.agg [.bool (fitsB n)]) ∨ shapeD n = .iface 103 (.agg []) := by
        unfold shapeD
        rw [if_neg k1, if_neg k2]
        split
        · exact .inl rfl
        · exact .inr rfl
      have hp : n.pmv d = n := by rw [Nd.pmv, if_neg k1, if_neg k2]
      have hs2 : mvTo d l (i + 1) = mvTo d l i := by
        rw [hsu, hp, ← hn, ← hat, List.getD_eq_getElem?_getD, List.getElem?_eq_getElem (by omega)]
        exact List.set_getElem_self _
      rcases hsh with e | e
      all_goals
        rw [e]
        repeat' first | refine Z1 fun _ _ => ?_ | refine Z2 ‹_› ?_ | ((first | refine Z3 tb_ok lv44 rfl ?_ | refine ret_eq rfl ?_); simp only [↓reduceIte, reduceCtorEq, reduceEqDiff, reduceAdd, reduceMul, reduceSub, reduceLeDiff, reduceEq, reduceLT, reduceLE, go_sem]) | (refine Z5 rfl ?_; with_reducible first | refine condQ_T ?_ | refine condQ_F ?_) | refine Z6 ?_ | refine Z7 ?_ | refine Z8 ?_ | refine Z9 fun _ _ => ?_ | refine Za ‹_› ?_ | refine Zb ‹_› ?_ | refine Zc ‹_› trivial ?_ | refine Zd ‹_› trivial ?_ | refine Ze ‹_› trivial ?_ | refine Zf ‹_› ?_ | refine Zl ‹_› (by decide) ?_ | fail
        exact hQ.next (i + 1) (by omega) (by omega) (by simp only [↓reduceIte, reduceCtorEq, reduceEqDiff, reduceAdd, reduceMul, reduceSub, reduceLeDiff, reduceEq, reduceLT, reduceLE, go_sem, wi, hs2]; try simp)
  · simp only [decide_eq_false_iff_not] at g
    obtain rfl : i = l.length := by omega
    repeat' first | refine Z1 fun _ _ => ?_ | refine Z2 ‹_› ?_ | ((first | refine Z3 tb_ok lv44 rfl ?_ | refine ret_eq rfl ?_); simp only [↓reduceIte, reduceCtorEq, reduceEqDiff, reduceAdd, reduceMul, reduceSub, reduceLeDiff, reduceEq, reduceLT, reduceLE, go_sem]) | (refine Z5 rfl ?_; with_reducible first | refine condQ_T ?_ | refine condQ_F ?_) | refine Z6 ?_ | refine Z7 ?_ | refine Z8 ?_ | refine Z9 fun _ _ => ?_ | refine Za ‹_› ?_ | refine Zb ‹_› ?_ | refine Zc ‹_› trivial ?_ | refine Zd ‹_› trivial ?_ | refine Ze ‹_› trivial ?_ | refine Zf ‹_› ?_ | refine Zl ‹_› (by decide) ?_ | fail
    rw [mvTo, List.take_length, List.drop_length, List.append_nil]
    exact rfl
theorem pmv_eq {b : Int} {n : Nd} (h : 1 ≤ n.kind) (h' : n.kind ≤ 9) : n.pmv b = n.mv b := by
  unfold Nd.pmv Nd.mv
  by_cases h1 : n.kind = 6 ∨ n.kind = 7 ∨ n.kind = 8 ∨ n.kind = 9
  · rw [if_pos h1, if_pos (show 4 ≤ n.kind by omega), if_neg (show ¬ (n.kind = 4 ∨ n.kind = 5) by omega)]
  · by_cases h2 : n.kind = 4 ∨ n.kind = 5
    · rw [if_neg h1, if_pos h2, if_pos (show 4 ≤ n.kind by omega), if_pos h2]
    · rw [if_neg h1, if_neg h2, if_neg (show ¬ 4 ≤ n.kind by omega), if_neg h2]
theorem pmv_mv {txt : ByteArray → Prop} {b : Int} : ∀ {t : T} {off : Nat}, t.ok txt → (t.flat off).map (Nd.pmv b) = (t.flat off).map (Nd.mv b) := by
  intro t
  induction t with
  | void | bytes | text =>
    intro off hok
    rfl
  | two k x y ihx ihy =>
    intro off hok
    have h := hok.1
    simp only [T.flat, List.map_append, List.map_cons, List.map_nil]
    rw [ihx hok.2.1, ihy hok.2.2, pmv_eq (show 1 ≤ k by omega) (show k ≤ 9 by omega)]
  | one k lo hi x ihx =>
    intro off hok
    have h := hok.1
    simp only [T.flat, List.map_append, List.map_cons, List.map_nil]
    rw [ihx hok.2, pmv_eq (show 1 ≤ k by omega) (show k ≤ 9 by omega)]
end Go.Proofs.YtoidlnhgaaohdaaDoor
