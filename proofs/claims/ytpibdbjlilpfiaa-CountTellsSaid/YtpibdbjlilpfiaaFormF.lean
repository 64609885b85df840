/- ref04.Wrap, Pair; trees' nodes moved. -/
import Derived.Test.YtpibdbjlilpfiaaFormD
namespace Go.Proofs.Ytpibdbjlilpfiaa
set_option linter.all false
open Go Go.RowKit
open Nat (reduceEqDiff reduceAdd reduceMul reduceSub reduceLeDiff)
open Int (reduceEq reduceLT reduceLE)

/-- A tree's nodes, moved. -/
theorem flat_mv {txt : ByteArray → Prop} {b : Int} : ∀ {t : T} {off off' : Nat}, t.ok txt → (off' : Int) = off + b → off + t.n ≤ 1099511627776 → off' + t.n ≤ 1099511627776 → (t.flat off).map (Nd.mv b) = t.flat off' := by
  intro t
  induction t with
  | void | bytes | text =>
    intro off off' hok he h1 h2
    rfl
  | two k x y ihx ihy =>
    intro off off' hok he h1 h2
    have hx := x.n_pos
    have hy := y.n_pos
    simp only [T.n] at h1 h2
    simp only [T.flat, List.map_append, List.map_cons, List.map_nil]
    rw [ihx hok.2.1 he (by omega) (by omega), ihy (off' := off' + x.n) hok.2.2 (by omega) (by omega) (by omega)]
    have h := hok.1
    have h4 : (4 : Int) ≤ k := by omega
    simp only [Nd.mv, T.root]
    rw [wrap64 (by omega) (by omega), wrap64 (by omega) (by omega), show ((off + (x.n - 1) : Nat) : Int) + b = (off' + (x.n - 1) : Nat) by omega, show ((off + x.n + (y.n - 1) : Nat) : Int) + b = (off' + x.n + (y.n - 1) : Nat) by omega]
    simp [h4, h]
  | one k lo hi x ihx =>
    intro off off' hok he h1 h2
    have hx := x.n_pos
    simp only [T.n] at h1 h2
    simp only [T.flat, List.map_append, List.map_cons, List.map_nil]
    rw [ihx hok.2 he (by omega) (by omega)]
    have h := hok.1
    have h4 : (4 : Int) ≤ k := by omega
    have h5 : ¬ (k = 4 ∨ k = 5) := by omega
    simp only [Nd.mv, T.root]
    rw [wrap64 (by omega) (by omega), show ((off + (x.n - 1) : Nat) : Int) + b = (off' + (x.n - 1) : Nat) by omega]
    simp [h4, h5]
theorem mvc_map {l : List Nd} {b : Int} : l.map (mvc b) = (l.map (Nd.mv b)).map Nd.cells := by rw [List.map_map]; rfl
theorem sits_cut {l : List Nd} {off : Nat} {t : T} (h : Sits l off t) : (l.drop off).take t.n = t.flat off := by
  refine List.ext_getElem? fun i => ?_
  rw [List.getElem?_take]
  split
  · rename_i hi
    rw [List.getElem?_drop]
    exact h i hi
  · rw [List.getElem?_eq_none (by rw [T.flat_len]; omega)]

@[go_sem] def lv26 : List (Nat × List Nat) := [(0, [0, 1, 2, 7, 8]), (1, [8])]
def bs26 : List (Nat × List Nat × List Nat) := [(1, [0, 1, 3, 0, 0, 16, 48, 112, 0, 0, 1016, 2040, 4095, 8191, 16383], [12, 14])]
theorem c_wrap {gl} {t : T} {k lo hi : Int} {txt : ByteArray → Prop} (hl : t.n ≤ 1048576) (hok : t.ok txt) : PCon Try.prog gl 26 [.int .i64 k, .int .i64 lo, .int .i64 hi, desc (t.flat 0)] (desc ((T.one k lo hi t).flat 0)) := by
  have hp := t.n_pos
  have hlen := t.flat_len 0
  refine PCon.enter tb_ok (fn := Try.f26) (by kernel_rfl) (by kernel_rfl) rfl (by show 4 ≤ 23; decide) ?_
  repeat' first | refine Z1 fun _ _ => ?_ | refine Z2 ‹_› ?_ | ((first | refine Z3 tb_ok lv26 rfl ?_ | refine Z4 tb_ok mix lv26 bs26 rfl (by kernel_rfl) rfl ?_ | refine Zr rfl ?_); simp only [↓reduceIte, reduceCtorEq, reduceEqDiff, reduceAdd, reduceMul, reduceSub, reduceLeDiff, reduceEq, reduceLT, reduceLE, go_sem]) | refine ZS rfl ?_ | refine ZH ?_ | refine Zo rfl ?_ | refine Zp rfl ?_ | refine Zn rfl ?_ | fail
  refine call_row rfl rfl (c_moved 0 (by omega)) ?_; simp only [↓reduceIte, reduceCtorEq, reduceEqDiff, reduceAdd, reduceMul, reduceSub, reduceLeDiff, reduceEq, reduceLT, reduceLE, go_sem]
  repeat' first | refine Z1 fun _ _ => ?_ | refine Z2 ‹_› ?_ | ((first | refine Z3 tb_ok lv26 rfl ?_ | refine Z4 tb_ok mix lv26 bs26 rfl (by kernel_rfl) rfl ?_ | refine Zr rfl ?_); simp only [↓reduceIte, reduceCtorEq, reduceEqDiff, reduceAdd, reduceMul, reduceSub, reduceLeDiff, reduceEq, reduceLT, reduceLE, go_sem]) | refine ZS rfl ?_ | refine ZH ?_ | refine Zo rfl ?_ | refine Zp rfl ?_ | refine Zn rfl ?_ | fail
  refine ⟨fun e he => by rw [he]; rfl, by omega, by omega, rfl, rfl, ?_⟩
  repeat' first | refine Z1 fun _ _ => ?_ | refine Z2 ‹_› ?_ | ((first | refine Z3 tb_ok lv26 rfl ?_ | refine Z4 tb_ok mix lv26 bs26 rfl (by kernel_rfl) rfl ?_ | refine Zr rfl ?_); simp only [↓reduceIte, reduceCtorEq, reduceEqDiff, reduceAdd, reduceMul, reduceSub, reduceLeDiff, reduceEq, reduceLT, reduceLE, go_sem]) | refine ZS rfl ?_ | refine ZH ?_ | refine Zo rfl ?_ | refine Zp rfl ?_ | refine Zn rfl ?_ | fail
  rw [mvc_map, flat_mv (off' := 0) hok (by omega) (by omega) (by omega), hlen, wrap64 (by omega) (by omega), show ((t.n : Int) - 1) = ((0 + (t.n - 1) : Nat) : Int) by omega]
  simp [T.flat, T.root, Nd.cells]
@[go_sem] def lv25 : List (Nat × List Nat) := [(0, [0, 4, 5, 6]), (1, [0, 4, 5, 6, 7]), (2, [6])]
def bs25 : List (Nat × List Nat × List Nat) := [(1, [0, 1, 3, 0, 8, 0, 32, 96, 255, 511, 1023], [8, 9])]
theorem c_pair {gl} {a b : T} {k : Int} {txt : ByteArray → Prop} (hl : a.n ≤ 1048576) (hl' : b.n ≤ 1048576) (hok : a.ok txt) (hok' : b.ok txt) : PCon Try.prog gl 25 [.int .i64 k, desc (a.flat 0), desc (b.flat 0)] (desc ((T.two k a b).flat 0)) := by
  have hp := a.n_pos
  have hq := b.n_pos
  have hlen := a.flat_len 0
  have hlen' := b.flat_len 0
  refine PCon.enter tb_ok (fn := Try.f25) (by kernel_rfl) (by kernel_rfl) rfl (by show 3 ≤ 36; decide) ?_
  repeat' first | refine Z1 fun _ _ => ?_ | refine Z2 ‹_› ?_ | ((first | refine Z3 tb_ok lv25 rfl ?_ | refine Z4 tb_ok mix lv25 bs25 rfl (by kernel_rfl) rfl ?_ | refine Zr rfl ?_); simp only [↓reduceIte, reduceCtorEq, reduceEqDiff, reduceAdd, reduceMul, reduceSub, reduceLeDiff, reduceEq, reduceLT, reduceLE, go_sem]) | refine ZS rfl ?_ | refine ZH ?_ | refine Zo rfl ?_ | refine Zp rfl ?_ | refine Zn rfl ?_ | fail
  refine call_row rfl rfl (c_moved 0 (by omega)) ?_; simp only [↓reduceIte, reduceCtorEq, reduceEqDiff, reduceAdd, reduceMul, reduceSub, reduceLeDiff, reduceEq, reduceLT, reduceLE, go_sem]
  repeat' first | refine Z1 fun _ _ => ?_ | refine Z2 ‹_› ?_ | ((first | refine Z3 tb_ok lv25 rfl ?_ | refine Z4 tb_ok mix lv25 bs25 rfl (by kernel_rfl) rfl ?_ | refine Zr rfl ?_); simp only [↓reduceIte, reduceCtorEq, reduceEqDiff, reduceAdd, reduceMul, reduceSub, reduceLeDiff, reduceEq, reduceLT, reduceLE, go_sem]) | refine ZS rfl ?_ | refine ZH ?_ | refine Zo rfl ?_ | refine Zp rfl ?_ | refine Zn rfl ?_ | fail
  refine call_row rfl rfl (c_moved _ (by omega)) ?_; simp only [↓reduceIte, reduceCtorEq, reduceEqDiff, reduceAdd, reduceMul, reduceSub, reduceLeDiff, reduceEq, reduceLT, reduceLE, go_sem]
  repeat' first | refine Z1 fun _ _ => ?_ | refine Z2 ‹_› ?_ | ((first | refine Z3 tb_ok lv25 rfl ?_ | refine Z4 tb_ok mix lv25 bs25 rfl (by kernel_rfl) rfl ?_ | refine Zr rfl ?_); simp only [↓reduceIte, reduceCtorEq, reduceEqDiff, reduceAdd, reduceMul, reduceSub, reduceLeDiff, reduceEq, reduceLT, reduceLE, go_sem]) | refine ZS rfl ?_ | refine ZH ?_ | refine Zo rfl ?_ | refine Zp rfl ?_ | refine Zn rfl ?_ | fail
  refine ⟨fun e he => by obtain ⟨n, _, rfl⟩ := List.mem_map.1 he; rfl, by omega, by omega, rfl, ?_⟩
  repeat' first | refine Z1 fun _ _ => ?_ | refine Z2 ‹_› ?_ | ((first | refine Z3 tb_ok lv25 rfl ?_ | refine Z4 tb_ok mix lv25 bs25 rfl (by kernel_rfl) rfl ?_ | refine Zr rfl ?_); simp only [↓reduceIte, reduceCtorEq, reduceEqDiff, reduceAdd, reduceMul, reduceSub, reduceLeDiff, reduceEq, reduceLT, reduceLE, go_sem]) | refine ZS rfl ?_ | refine ZH ?_ | refine Zo rfl ?_ | refine Zp rfl ?_ | refine Zn rfl ?_ | fail
  refine ⟨fun e he => by rw [he]; rfl, by simp only [List.length_append, List.length_map]; omega, by simp only [List.length_append, List.length_map]; omega, ?_⟩
  repeat' first | refine Z1 fun _ _ => ?_ | refine Z2 ‹_› ?_ | ((first | refine Z3 tb_ok lv25 rfl ?_ | refine Z4 tb_ok mix lv25 bs25 rfl (by kernel_rfl) rfl ?_ | refine Zr rfl ?_); simp only [↓reduceIte, reduceCtorEq, reduceEqDiff, reduceAdd, reduceMul, reduceSub, reduceLeDiff, reduceEq, reduceLT, reduceLE, go_sem]) | refine ZS rfl ?_ | refine ZH ?_ | refine Zo rfl ?_ | refine Zp rfl ?_ | refine Zn rfl ?_ | fail
  rw [mvc_map, mvc_map, hlen, hlen', flat_mv (off' := 0) hok (by omega) (by omega) (by omega), flat_mv (off' := 0 + a.n) hok' (by omega) (by omega) (by omega), wrap64 (z := (a.n : Int) - 1) (by omega) (by omega), wrap64 (z := (a.n : Int) + b.n) (by omega) (by omega), wrap64 (by omega) (by omega), show ((a.n : Int) - 1) = ((0 + (a.n - 1) : Nat) : Int) by omega, show ((a.n : Int) + b.n - 1) = ((0 + a.n + (b.n - 1) : Nat) : Int) by omega]
  simp [T.flat, T.root, Nd.cells]
end Go.Proofs.Ytpibdbjlilpfiaa
