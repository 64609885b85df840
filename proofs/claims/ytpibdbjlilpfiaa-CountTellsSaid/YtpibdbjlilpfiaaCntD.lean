/- count: the functions that cross gets. -/
import Derived.Test.YtpibdbjlilpfiaaCntC
namespace Go.Proofs.Ytpibdbjlilpfiaa
set_option linter.all false
open Go Go.RowKit
open Nat (reduceEqDiff reduceAdd reduceMul reduceSub reduceLeDiff)
open Int (reduceEq reduceLT reduceLE)

/-- What is known of a node's values, read here. -/
def Asks (gl : GL) (l : List Nd) (w : List UInt8) (m i a b : Nat) (R : List Vl) : Prop := PCon Try.prog gl 45 [rdr l w m, keyD [(i : Int), (l.getD i Nd.z).lo, (l.getD i Nd.z).hi, (a : Int), (b : Int)]] (vals R)
def tsk (k0 k1 k2 k3 k4 : Int) : D := .addr [.int .i64 k0, .int .i64 k1, .int .i64 k2, .int .i64 k3, .int .i64 k4]
@[go_sem] def lv64 : List (Nat × List Nat) := [(0, [0, 1, 2, 3]), (1, [5])]
def bs64 : List (Nat × List Nat × List Nat) := [(1, [0, 0, 0, 4, 0, 16, 0, 126, 255, 511], [8])]
set_option maxHeartbeats 1000000 in
theorem c_find1 {gl} {l : List Nd} {w : List UInt8} {m i a b : Nat} {n : Nd} {k0 k1 k2 k4 : Int} {R : List Vl} (hl : l.length ≤ 1048576) (hi : i < l.length) (hn : n.a = (i : Int)) (hv : Asks gl l w m i a b R) :
    PCon Try.prog gl 64 [.int .i64 b, .addr [rdr l w m], .addr n.cells, tsk k0 k1 k2 a k4] (vals R) := by
  have hw := c_whole (gl := gl) (w := w) (m := m) (a := a) (b := b) hl hi
  unfold Asks at hv
  simp only [rdr, keyD, List.map_cons, List.map_nil] at hw hv
  refine PCon.enter tb_ok (fn := Try.f64) (by kernel_rfl) (by kernel_rfl) rfl (by show 4 ≤ 15; decide) ?_
  simp only [rdr, tsk, Nd.cells, hn]
  repeat' first | refine Z1 fun _ _ => ?_ | refine Z2 ‹_› ?_ | ((first | refine Z3 tb_ok lv64 rfl ?_ | refine Z4 tb_ok mix lv64 bs64 rfl (by kernel_rfl) rfl ?_ | refine Zr rfl ?_); simp only [↓reduceIte, reduceCtorEq, reduceEqDiff, reduceAdd, reduceMul, reduceSub, reduceLeDiff, reduceEq, reduceLT, reduceLE, go_sem]) | refine ZS rfl ?_ | refine ZH ?_ | refine Zo rfl ?_ | refine Zp rfl ?_ | refine Zn rfl ?_ | fail
  refine call_pure rfl rfl (hw) ?_; simp only [↓reduceIte, reduceCtorEq, reduceEqDiff, reduceAdd, reduceMul, reduceSub, reduceLeDiff, reduceEq, reduceLT, reduceLE, go_sem]
  repeat' first | refine Z1 fun _ _ => ?_ | refine Z2 ‹_› ?_ | ((first | refine Z3 tb_ok lv64 rfl ?_ | refine Z4 tb_ok mix lv64 bs64 rfl (by kernel_rfl) rfl ?_ | refine Zr rfl ?_); simp only [↓reduceIte, reduceCtorEq, reduceEqDiff, reduceAdd, reduceMul, reduceSub, reduceLeDiff, reduceEq, reduceLT, reduceLE, go_sem]) | refine ZS rfl ?_ | refine ZH ?_ | refine Zo rfl ?_ | refine Zp rfl ?_ | refine Zn rfl ?_ | fail
  refine call_pure rfl rfl (hv) ?_; simp only [↓reduceIte, reduceCtorEq, reduceEqDiff, reduceAdd, reduceMul, reduceSub, reduceLeDiff, reduceEq, reduceLT, reduceLE, go_sem]
  repeat' first | refine Z1 fun _ _ => ?_ | refine Z2 ‹_› ?_ | ((first | refine Z3 tb_ok lv64 rfl ?_ | refine Z4 tb_ok mix lv64 bs64 rfl (by kernel_rfl) rfl ?_ | refine Zr rfl ?_); simp only [↓reduceIte, reduceCtorEq, reduceEqDiff, reduceAdd, reduceMul, reduceSub, reduceLeDiff, reduceEq, reduceLT, reduceLE, go_sem]) | refine ZS rfl ?_ | refine ZH ?_ | refine Zo rfl ?_ | refine Zp rfl ?_ | refine Zn rfl ?_ | fail
@[go_sem] def lv65 : List (Nat × List Nat) := [(0, [0, 1, 2, 3]), (1, [5])]
def bs65 : List (Nat × List Nat × List Nat) := [(1, [0, 0, 0, 4, 0, 0, 32, 126, 255, 511], [8])]
set_option maxHeartbeats 1000000 in
theorem c_find2 {gl} {l : List Nd} {w : List UInt8} {m i a b : Nat} {n : Nd} {k0 k1 k2 k3 : Int} {R : List Vl} (hl : l.length ≤ 1048576) (hi : i < l.length) (hn : n.b = (i : Int)) (hv : Asks gl l w m i a b R) :
    PCon Try.prog gl 65 [.int .i64 a, .addr [rdr l w m], .addr n.cells, tsk k0 k1 k2 k3 b] (vals R) := by
  have hw := c_whole (gl := gl) (w := w) (m := m) (a := a) (b := b) hl hi
  unfold Asks at hv
  simp only [rdr, keyD, List.map_cons, List.map_nil] at hw hv
  refine PCon.enter tb_ok (fn := Try.f65) (by kernel_rfl) (by kernel_rfl) rfl (by show 4 ≤ 15; decide) ?_
  simp only [rdr, tsk, Nd.cells, hn]
  repeat' first | refine Z1 fun _ _ => ?_ | refine Z2 ‹_› ?_ | ((first | refine Z3 tb_ok lv65 rfl ?_ | refine Z4 tb_ok mix lv65 bs65 rfl (by kernel_rfl) rfl ?_ | refine Zr rfl ?_); simp only [↓reduceIte, reduceCtorEq, reduceEqDiff, reduceAdd, reduceMul, reduceSub, reduceLeDiff, reduceEq, reduceLT, reduceLE, go_sem]) | refine ZS rfl ?_ | refine ZH ?_ | refine Zo rfl ?_ | refine Zp rfl ?_ | refine Zn rfl ?_ | fail
  refine call_pure rfl rfl (hw) ?_; simp only [↓reduceIte, reduceCtorEq, reduceEqDiff, reduceAdd, reduceMul, reduceSub, reduceLeDiff, reduceEq, reduceLT, reduceLE, go_sem]
  repeat' first | refine Z1 fun _ _ => ?_ | refine Z2 ‹_› ?_ | ((first | refine Z3 tb_ok lv65 rfl ?_ | refine Z4 tb_ok mix lv65 bs65 rfl (by kernel_rfl) rfl ?_ | refine Zr rfl ?_); simp only [↓reduceIte, reduceCtorEq, reduceEqDiff, reduceAdd, reduceMul, reduceSub, reduceLeDiff, reduceEq, reduceLT, reduceLE, go_sem]) | refine ZS rfl ?_ | refine ZH ?_ | refine Zo rfl ?_ | refine Zp rfl ?_ | refine Zn rfl ?_ | fail
  refine call_pure rfl rfl (hv) ?_; simp only [↓reduceIte, reduceCtorEq, reduceEqDiff, reduceAdd, reduceMul, reduceSub, reduceLeDiff, reduceEq, reduceLT, reduceLE, go_sem]
  repeat' first | refine Z1 fun _ _ => ?_ | refine Z2 ‹_› ?_ | ((first | refine Z3 tb_ok lv65 rfl ?_ | refine Z4 tb_ok mix lv65 bs65 rfl (by kernel_rfl) rfl ?_ | refine Zr rfl ?_); simp only [↓reduceIte, reduceCtorEq, reduceEqDiff, reduceAdd, reduceMul, reduceSub, reduceLeDiff, reduceEq, reduceLT, reduceLE, go_sem]) | refine ZS rfl ?_ | refine ZH ?_ | refine Zo rfl ?_ | refine Zp rfl ?_ | refine Zn rfl ?_ | fail
@[go_sem] def lv73 : List (Nat × List Nat) := [(0, [0, 1, 2, 3]), (1, [5])]
def bs73 : List (Nat × List Nat × List Nat) := [(1, [0, 0, 0, 4, 0, 16, 0, 126, 255, 511], [8])]
set_option maxHeartbeats 1000000 in
theorem c_many1 {gl} {l : List Nd} {w : List UInt8} {m i a b : Nat} {n : Nd} {k0 k1 k2 k4 : Int} {R : List Vl} (hl : l.length ≤ 1048576) (hi : i < l.length) (hn : n.a = (i : Int)) (hv : Asks gl l w m i a b R) :
    PCon Try.prog gl 73 [.int .i64 b, .addr [rdr l w m], .addr n.cells, tsk k0 k1 k2 a k4] (vals R) := by
  have hw := c_whole (gl := gl) (w := w) (m := m) (a := a) (b := b) hl hi
  unfold Asks at hv
  simp only [rdr, keyD, List.map_cons, List.map_nil] at hw hv
  refine PCon.enter tb_ok (fn := Try.f73) (by kernel_rfl) (by kernel_rfl) rfl (by show 4 ≤ 15; decide) ?_
  simp only [rdr, tsk, Nd.cells, hn]
  repeat' first | refine Z1 fun _ _ => ?_ | refine Z2 ‹_› ?_ | ((first | refine Z3 tb_ok lv73 rfl ?_ | refine Z4 tb_ok mix lv73 bs73 rfl (by kernel_rfl) rfl ?_ | refine Zr rfl ?_); simp only [↓reduceIte, reduceCtorEq, reduceEqDiff, reduceAdd, reduceMul, reduceSub, reduceLeDiff, reduceEq, reduceLT, reduceLE, go_sem]) | refine ZS rfl ?_ | refine ZH ?_ | refine Zo rfl ?_ | refine Zp rfl ?_ | refine Zn rfl ?_ | fail
  refine call_pure rfl rfl (hw) ?_; simp only [↓reduceIte, reduceCtorEq, reduceEqDiff, reduceAdd, reduceMul, reduceSub, reduceLeDiff, reduceEq, reduceLT, reduceLE, go_sem]
  repeat' first | refine Z1 fun _ _ => ?_ | refine Z2 ‹_› ?_ | ((first | refine Z3 tb_ok lv73 rfl ?_ | refine Z4 tb_ok mix lv73 bs73 rfl (by kernel_rfl) rfl ?_ | refine Zr rfl ?_); simp only [↓reduceIte, reduceCtorEq, reduceEqDiff, reduceAdd, reduceMul, reduceSub, reduceLeDiff, reduceEq, reduceLT, reduceLE, go_sem]) | refine ZS rfl ?_ | refine ZH ?_ | refine Zo rfl ?_ | refine Zp rfl ?_ | refine Zn rfl ?_ | fail
  refine call_pure rfl rfl (hv) ?_; simp only [↓reduceIte, reduceCtorEq, reduceEqDiff, reduceAdd, reduceMul, reduceSub, reduceLeDiff, reduceEq, reduceLT, reduceLE, go_sem]
  repeat' first | refine Z1 fun _ _ => ?_ | refine Z2 ‹_› ?_ | ((first | refine Z3 tb_ok lv73 rfl ?_ | refine Z4 tb_ok mix lv73 bs73 rfl (by kernel_rfl) rfl ?_ | refine Zr rfl ?_); simp only [↓reduceIte, reduceCtorEq, reduceEqDiff, reduceAdd, reduceMul, reduceSub, reduceLeDiff, reduceEq, reduceLT, reduceLE, go_sem]) | refine ZS rfl ?_ | refine ZH ?_ | refine Zo rfl ?_ | refine Zp rfl ?_ | refine Zn rfl ?_ | fail
@[go_sem] def lv74 : List (Nat × List Nat) := [(0, [0, 1, 2]), (1, [0, 2, 5]), (2, [2, 5]), (3, [4])]
def bs74 : List (Nat × List Nat × List Nat) := []
set_option maxHeartbeats 1000000 in
theorem c_many2 {gl} {l : List Nd} {w : List UInt8} {m a : Nat} {k0 k1 k2 k3 k4 : Int} {R : List Vl} (hv : PCon Try.prog gl 45 [rdr l w m, keyD [k0, k1, k2, a, k4]] (vals R)) :
    PCon Try.prog gl 74 [.int .i64 a, tsk k0 k1 k2 k3 k4, .addr [rdr l w m]] (vals R) := by
  simp only [rdr, keyD, List.map_cons, List.map_nil] at hv
  refine PCon.enter tb_ok (fn := Try.f74) (by kernel_rfl) (by kernel_rfl) rfl (by show 3 ≤ 12; decide) ?_
  simp only [rdr, tsk]
  repeat' first | refine Z1 fun _ _ => ?_ | refine Z2 ‹_› ?_ | ((first | refine Z3 tb_ok lv74 rfl ?_ | refine Zr rfl ?_); simp only [↓reduceIte, reduceCtorEq, reduceEqDiff, reduceAdd, reduceMul, reduceSub, reduceLeDiff, reduceEq, reduceLT, reduceLE, go_sem]) | refine ZS rfl ?_ | refine ZH ?_ | fail
  refine call_pure rfl rfl (hv) ?_; simp only [↓reduceIte, reduceCtorEq, reduceEqDiff, reduceAdd, reduceMul, reduceSub, reduceLeDiff, reduceEq, reduceLT, reduceLE, go_sem]
  repeat' first | refine Z1 fun _ _ => ?_ | refine Z2 ‹_› ?_ | ((first | refine Z3 tb_ok lv74 rfl ?_ | refine Zr rfl ?_); simp only [↓reduceIte, reduceCtorEq, reduceEqDiff, reduceAdd, reduceMul, reduceSub, reduceLeDiff, reduceEq, reduceLT, reduceLE, go_sem]) | refine ZS rfl ?_ | refine ZH ?_ | fail
@[go_sem] def lv66 : List (Nat × List Nat) := [(0, [2, 3, 4, 5]), (1, [5])]
def bs66 : List (Nat × List Nat × List Nat) := []
set_option maxHeartbeats 1000000 in
theorem c_find3 {gl} {n : Nd} {x y : Vl} : PCon Try.prog gl 66 [val x, val y, .addr n.cells] (val (.mk n.kind 0 .empty 0 [x, y])) := by
  refine PCon.enter tb_ok (fn := Try.f66) (by kernel_rfl) (by kernel_rfl) rfl (by show 3 ≤ 12; decide) ?_
  simp only [Nd.cells]
  repeat' first | refine Z1 fun _ _ => ?_ | refine Z2 ‹_› ?_ | ((first | refine Z3 tb_ok lv66 rfl ?_ | refine Zr rfl ?_); simp only [↓reduceIte, reduceCtorEq, reduceEqDiff, reduceAdd, reduceMul, reduceSub, reduceLeDiff, reduceEq, reduceLT, reduceLE, go_sem]) | refine ZS rfl ?_ | refine ZH ?_ | fail
@[go_sem] def lv75 : List (Nat × List Nat) := [(0, [2, 3, 4, 5]), (1, [5])]
def bs75 : List (Nat × List Nat × List Nat) := [(1, [0, 1, 0, 4, 0, 16, 60, 127, 255], [8])]
set_option maxHeartbeats 1000000 in
theorem c_many3 {gl} {n : Nd} {x y : Vl} (hy : y.kids.length ≤ 1048577) : PCon Try.prog gl 75 [val x, val y, .addr n.cells] (val (.mk n.kind 0 .empty 0 (x :: y.kids))) := by
  refine PCon.enter tb_ok (fn := Try.f75) (by kernel_rfl) (by kernel_rfl) rfl (by show 3 ≤ 14; decide) ?_
  simp only [Nd.cells]
  repeat' first | refine Z1 fun _ _ => ?_ | refine Z2 ‹_› ?_ | ((first | refine Z3 tb_ok lv75 rfl ?_ | refine Z4 tb_ok mix lv75 bs75 rfl (by kernel_rfl) rfl ?_ | refine Zr rfl ?_); simp only [↓reduceIte, reduceCtorEq, reduceEqDiff, reduceAdd, reduceMul, reduceSub, reduceLeDiff, reduceEq, reduceLT, reduceLE, go_sem]) | refine ZS rfl ?_ | refine ZH ?_ | refine Zo rfl ?_ | refine Zp rfl ?_ | refine Zn rfl ?_ | fail
  refine ⟨fun e he => ?_, by omega, by omega, ?_⟩
  · obtain ⟨u, _, rfl⟩ := List.mem_map.1 he
    exact Vl.cells_len u
  repeat' first | refine Z1 fun _ _ => ?_ | refine Z2 ‹_› ?_ | ((first | refine Z3 tb_ok lv75 rfl ?_ | refine Z4 tb_ok mix lv75 bs75 rfl (by kernel_rfl) rfl ?_ | refine Zr rfl ?_); simp only [↓reduceIte, reduceCtorEq, reduceEqDiff, reduceAdd, reduceMul, reduceSub, reduceLeDiff, reduceEq, reduceLT, reduceLE, go_sem]) | refine ZS rfl ?_ | refine ZH ?_ | refine Zo rfl ?_ | refine Zp rfl ?_ | refine Zn rfl ?_ | fail
end Go.Proofs.Ytpibdbjlilpfiaa
