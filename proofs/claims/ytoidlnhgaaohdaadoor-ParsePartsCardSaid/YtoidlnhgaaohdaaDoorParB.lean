/- parse: leaf, wrap, pair, begins; slices.Contains of ints. -/
import Derived.Test.YtoidlnhgaaohdaaDoorParA
import Derived.Test.YtoidlnhgaaohdaaDoorNodeW
namespace Go.Proofs.YtoidlnhgaaohdaaDoor
set_option linter.all false
open Go Go.RowKit
open Nat (reduceEqDiff reduceAdd reduceMul reduceSub reduceLeDiff)
open Int (reduceEq reduceLT reduceLE)

/-- A token. -/
structure Tk where
  (k t c0 c1 c2 c3 : Int) (text : ByteArray) (lo hi : Int)
def Tk.cells (t : Tk) : List D := [.int .i64 t.k, .int .i64 t.t, .int .u64 t.c0, .int .u64 t.c1, .int .u64 t.c2, .int .u64 t.c3, .str t.text, .int .i64 t.lo, .int .i64 t.hi]
def Tk.z : Tk := ⟨0, 0, 0, 0, 0, 0, .empty, 0, 0⟩
def tks (l : List Tk) : D := .slice (l.map Tk.cells)
def part (l : List Nd) (ats : List Int) : D := .agg [nds l, ints ats]
@[simp] theorem Tk.cells_len (t : Tk) : t.cells.length = 9 := rfl
attribute [go_sem] Tk.cells tks part

@[go_sem] def lv42 : List (Nat × List Nat) := [(0, [0, 1]), (1, [4])]
def bs42 : List (Nat × List Nat × List Nat) := []
theorem c_containsI {gl} {l : List Int} {x : Int} (hl : l.length ≤ 4194304) : PCon Tryd.prog gl 42 [ints l, .int .i64 x] (.bool (decide (x ∈ l))) := by
  refine PCon.enter tb_ok (fn := Tryd.f42) (by kernel_rfl) (by kernel_rfl) rfl (by show 2 ≤ 9; decide) ?_
  repeat' first | refine Z1 fun _ _ => ?_ | refine Z2 ‹_› ?_ | ((first | refine Z3 tb_ok lv42 rfl ?_ | refine ret_eq rfl ?_); simp only [↓reduceIte, reduceCtorEq, reduceEqDiff, reduceAdd, reduceMul, reduceSub, reduceLeDiff, reduceEq, reduceLT, reduceLE, go_sem]) | refine Z8 ?_ | refine Zc ‹_› trivial ?_ | fail
  have h := c_indexI (gl := gl) (x := x) hl
  simp only [ints] at h
  refine call_pure rfl rfl (h) ?_; simp only [↓reduceIte, reduceCtorEq, reduceEqDiff, reduceAdd, reduceMul, reduceSub, reduceLeDiff, reduceEq, reduceLT, reduceLE, go_sem]
  repeat' first | refine Z1 fun _ _ => ?_ | refine Z2 ‹_› ?_ | ((first | refine Z3 tb_ok lv42 rfl ?_ | refine ret_eq rfl ?_); simp only [↓reduceIte, reduceCtorEq, reduceEqDiff, reduceAdd, reduceMul, reduceSub, reduceLeDiff, reduceEq, reduceLT, reduceLE, go_sem]) | refine Z8 ?_ | refine Zc ‹_› trivial ?_ | fail
  exact decide_eq_decide.2 (idxOf_nn (Int.le_refl 0))
@[go_sem] def lv52 : List (Nat × List Nat) := [(0, [1, 2]), (1, [2])]
def bs52 : List (Nat × List Nat × List Nat) := []
theorem c_leaf {gl} (n : Nd) : PCon Tryd.prog gl 52 [.agg n.cells] (part [n] [-1]) := by
  refine PCon.enter tb_ok (fn := Tryd.f52) (by kernel_rfl) (by kernel_rfl) rfl (by show 1 ≤ 7; decide) ?_
  repeat' first | refine Z1 fun _ _ => ?_ | refine Z2 ‹_› ?_ | ((first | refine Z3 tb_ok lv52 rfl ?_ | refine ret_eq rfl ?_); simp only [↓reduceIte, reduceCtorEq, reduceEqDiff, reduceAdd, reduceMul, reduceSub, reduceLeDiff, reduceEq, reduceLT, reduceLE, go_sem]) | refine Z8 ?_ | refine Zc ‹_› trivial ?_ | fail
  have h := c_nleaf (gl := gl) n
  simp only [desc, nds, Nd.cells, List.map_cons, List.map_nil] at h
  refine call_pure rfl rfl (h) ?_; simp only [↓reduceIte, reduceCtorEq, reduceEqDiff, reduceAdd, reduceMul, reduceSub, reduceLeDiff, reduceEq, reduceLT, reduceLE, go_sem]
  repeat' first | refine Z1 fun _ _ => ?_ | refine Z2 ‹_› ?_ | ((first | refine Z3 tb_ok lv52 rfl ?_ | refine ret_eq rfl ?_); simp only [↓reduceIte, reduceCtorEq, reduceEqDiff, reduceAdd, reduceMul, reduceSub, reduceLeDiff, reduceEq, reduceLT, reduceLE, go_sem]) | refine Z8 ?_ | refine Zc ‹_› trivial ?_ | fail
@[go_sem] def lv41 : List (Nat × List Nat) := [(0, [0, 2, 5, 7, 8]), (1, [8])]
def bs41 : List (Nat × List Nat × List Nat) := [(1, [0, 0, 2, 0, 8, 0, 32, 127, 0, 256, 0, 1024, 3840, 8191, 16383, 32767], [13, 15])]
theorem c_pwrap {gl} {a : T} {ats : List Int} {t : Tk} {k p : Int} (hn : a.n ≤ 1048576) (ha : ats.length ≤ 1048576) : PCon Tryd.prog gl 41 [.int .i64 k, .agg t.cells, .int .i64 p, part (a.flat 0) ats] (part ((T.one k t.lo t.hi a).flat 0) (ats ++ [p])) := by
  refine PCon.enter tb_ok (fn := Tryd.f41) (by kernel_rfl) (by kernel_rfl) rfl (by show 4 ≤ 24; decide) ?_
  repeat' first | refine Z1 fun _ _ => ?_ | refine Z2 ‹_› ?_ | ((first | refine Z3 tb_ok lv41 rfl ?_ | refine Z4 tb_ok mix lv41 bs41 rfl (by kernel_rfl) rfl ?_ | refine ret_eq rfl ?_); simp only [↓reduceIte, reduceCtorEq, reduceEqDiff, reduceAdd, reduceMul, reduceSub, reduceLeDiff, reduceEq, reduceLT, reduceLE, go_sem]) | refine Z8 ?_ | refine Zc ‹_› trivial ?_ | refine touch_go rfl ?_ | refine eff_go rfl ?_ | refine And.intro (show List.all _ _ = true from rfl) ?_ | fail
  have h := c_nwrapT (gl := gl) (k := k) (lo := t.lo) (hi := t.hi) hn
  simp only [desc, nds] at h
  refine call_pure rfl rfl (h) ?_; simp only [↓reduceIte, reduceCtorEq, reduceEqDiff, reduceAdd, reduceMul, reduceSub, reduceLeDiff, reduceEq, reduceLT, reduceLE, go_sem]
  repeat' first | refine Z1 fun _ _ => ?_ | refine Z2 ‹_› ?_ | ((first | refine Z3 tb_ok lv41 rfl ?_ | refine Z4 tb_ok mix lv41 bs41 rfl (by kernel_rfl) rfl ?_ | refine ret_eq rfl ?_); simp only [↓reduceIte, reduceCtorEq, reduceEqDiff, reduceAdd, reduceMul, reduceSub, reduceLeDiff, reduceEq, reduceLT, reduceLE, go_sem]) | refine Z8 ?_ | refine Zc ‹_› trivial ?_ | refine touch_go rfl ?_ | refine eff_go rfl ?_ | refine And.intro (show List.all _ _ = true from rfl) ?_ | fail
  have h2 := c_cat2 (gl := gl) (a := ats) (b := [p]) (by simp; omega)
  simp only [ints, List.map_cons, List.map_nil] at h2
  refine call_row rfl rfl (h2) ?_; simp only [↓reduceIte, reduceCtorEq, reduceEqDiff, reduceAdd, reduceMul, reduceSub, reduceLeDiff, reduceEq, reduceLT, reduceLE, go_sem]
  repeat' first | refine Z1 fun _ _ => ?_ | refine Z2 ‹_› ?_ | ((first | refine Z3 tb_ok lv41 rfl ?_ | refine Z4 tb_ok mix lv41 bs41 rfl (by kernel_rfl) rfl ?_ | refine ret_eq rfl ?_); simp only [↓reduceIte, reduceCtorEq, reduceEqDiff, reduceAdd, reduceMul, reduceSub, reduceLeDiff, reduceEq, reduceLT, reduceLE, go_sem]) | refine Z8 ?_ | refine Zc ‹_› trivial ?_ | refine touch_go rfl ?_ | refine eff_go rfl ?_ | refine And.intro (show List.all _ _ = true from rfl) ?_ | fail
@[go_sem] def lv26 : List (Nat × List Nat) := [(0, [0, 4, 5, 6]), (1, [6])]
def bs26 : List (Nat × List Nat × List Nat) := [(1, [0, 0, 2, 0, 8, 31, 0, 64, 0, 256, 0, 1984, 4095, 8191, 16383], [12, 14])]
theorem c_ppair {a b : T} {ats bts : List Int} {k : Int} (hok : b.ok txtOk) (hn : a.n ≤ 1048576) (hm : b.n ≤ 1048576) (ha : ats.length ≤ 1048576) (hb : bts.length ≤ 1048576) : PCon Tryd.prog glU 26 [.int .i64 k, part (a.flat 0) ats, part (b.flat 0) bts] (part ((T.two k a b).flat 0) (ats ++ bts ++ [-1])) := by
  refine PCon.enter tb_ok (fn := Tryd.f26) (by kernel_rfl) (by kernel_rfl) rfl (by show 3 ≤ 21; decide) ?_
  repeat' first | refine Z1 fun _ _ => ?_ | refine Z2 ‹_› ?_ | ((first | refine Z3 tb_ok lv26 rfl ?_ | refine Z4 tb_ok mix lv26 bs26 rfl (by kernel_rfl) rfl ?_ | refine ret_eq rfl ?_); simp only [↓reduceIte, reduceCtorEq, reduceEqDiff, reduceAdd, reduceMul, reduceSub, reduceLeDiff, reduceEq, reduceLT, reduceLE, go_sem]) | refine Z8 ?_ | refine Zc ‹_› trivial ?_ | refine touch_go rfl ?_ | refine eff_go rfl ?_ | refine And.intro (show List.all _ _ = true from rfl) ?_ | fail
  have h := c_npairT (k := k) hok hn hm
  simp only [desc, nds] at h
  refine call_pure rfl rfl (h) ?_; simp only [↓reduceIte, reduceCtorEq, reduceEqDiff, reduceAdd, reduceMul, reduceSub, reduceLeDiff, reduceEq, reduceLT, reduceLE, go_sem]
  repeat' first | refine Z1 fun _ _ => ?_ | refine Z2 ‹_› ?_ | ((first | refine Z3 tb_ok lv26 rfl ?_ | refine Z4 tb_ok mix lv26 bs26 rfl (by kernel_rfl) rfl ?_ | refine ret_eq rfl ?_); simp only [↓reduceIte, reduceCtorEq, reduceEqDiff, reduceAdd, reduceMul, reduceSub, reduceLeDiff, reduceEq, reduceLT, reduceLE, go_sem]) | refine Z8 ?_ | refine Zc ‹_› trivial ?_ | refine touch_go rfl ?_ | refine eff_go rfl ?_ | refine And.intro (show List.all _ _ = true from rfl) ?_ | fail
  have h2 := c_cat3 (gl := glU) (a := ats) (b := bts) (c := [-1]) (by simp; omega)
  simp only [ints, List.map_cons, List.map_nil] at h2
  refine call_row rfl rfl (h2) ?_; simp only [↓reduceIte, reduceCtorEq, reduceEqDiff, reduceAdd, reduceMul, reduceSub, reduceLeDiff, reduceEq, reduceLT, reduceLE, go_sem]
  repeat' first | refine Z1 fun _ _ => ?_ | refine Z2 ‹_› ?_ | ((first | refine Z3 tb_ok lv26 rfl ?_ | refine Z4 tb_ok mix lv26 bs26 rfl (by kernel_rfl) rfl ?_ | refine ret_eq rfl ?_); simp only [↓reduceIte, reduceCtorEq, reduceEqDiff, reduceAdd, reduceMul, reduceSub, reduceLeDiff, reduceEq, reduceLT, reduceLE, go_sem]) | refine Z8 ?_ | refine Zc ‹_› trivial ?_ | refine touch_go rfl ?_ | refine eff_go rfl ?_ | refine And.intro (show List.all _ _ = true from rfl) ?_ | fail
@[go_sem] def lv31 : List (Nat × List Nat) := [(0, [1]), (1, [2])]
def bs31 : List (Nat × List Nat × List Nat) := []
theorem c_begins {gl} {t : Tk} : PCon Tryd.prog gl 31 [.agg t.cells] (.bool (decide (t.k ∈ [(1 : Int), 2, 3, 8, 9]))) := by
  refine PCon.enter tb_ok (fn := Tryd.f31) (by kernel_rfl) (by kernel_rfl) rfl (by show 1 ≤ 7; decide) ?_
  repeat' first | refine Z1 fun _ _ => ?_ | refine Z2 ‹_› ?_ | ((first | refine Z3 tb_ok lv31 rfl ?_ | refine ret_eq rfl ?_); simp only [↓reduceIte, reduceCtorEq, reduceEqDiff, reduceAdd, reduceMul, reduceSub, reduceLeDiff, reduceEq, reduceLT, reduceLE, go_sem]) | refine Z8 ?_ | refine Zc ‹_› trivial ?_ | fail
  have h := c_containsI (gl := gl) (l := [1, 2, 3, 8, 9]) (x := t.k) (by simp)
  simp only [ints, List.map_cons, List.map_nil] at h
  refine call_pure rfl rfl (h) ?_; simp only [↓reduceIte, reduceCtorEq, reduceEqDiff, reduceAdd, reduceMul, reduceSub, reduceLeDiff, reduceEq, reduceLT, reduceLE, go_sem]
  repeat' first | refine Z1 fun _ _ => ?_ | refine Z2 ‹_› ?_ | ((first | refine Z3 tb_ok lv31 rfl ?_ | refine ret_eq rfl ?_); simp only [↓reduceIte, reduceCtorEq, reduceEqDiff, reduceAdd, reduceMul, reduceSub, reduceLeDiff, reduceEq, reduceLT, reduceLE, go_sem]) | refine Z8 ?_ | refine Zc ‹_› trivial ?_ | fail
end Go.Proofs.YtoidlnhgaaohdaaDoor
