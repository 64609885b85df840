/- node.Leaf, Wrap, Pair: walks, and over trees. -/
import Derived.Test.YtoidlnhgaaohdaaDoorNodeH
namespace Go.Proofs.YtoidlnhgaaohdaaDoor
set_option linter.all false
open Go Go.RowKit
open Nat (reduceEqDiff reduceAdd reduceMul reduceSub reduceLeDiff)
open Int (reduceEq reduceLT reduceLE)

theorem flat_tx : ∀ {t : T}, t.ok txtOk → ∀ {off : Nat}, ∀ n ∈ t.flat off, n.text.size ≤ 1048576
  | .void, _, _, n, h => by simp [T.flat, T.root] at h; subst h; decide
  | .bytes .., _, _, n, h => by simp [T.flat, T.root] at h; subst h; exact Nat.zero_le _
  | .text s, hs, _, n, h => by simp [T.flat, T.root] at h; subst h; exact hs.1
  | .two k a b, hs, off, n, h => by
    simp only [T.flat, List.mem_append, List.mem_singleton] at h
    rcases h with h | h | h
    · exact flat_tx hs.2.1 n h
    · exact flat_tx hs.2.2 n h
    · subst h; simp [T.root]
  | .one k lo hi a, hs, off, n, h => by
    simp only [T.flat, List.mem_append, List.mem_singleton] at h
    rcases h with h | h
    · exact flat_tx hs.2 n h
    · subst h; simp [T.root]
theorem tx_mem {l : List Nd} (h : ∀ n ∈ l, n.text.size ≤ 1048576) (i : Nat) : (l.getD i Nd.z).text.size ≤ 1048576 := by
  by_cases hi : i < l.length
  · rw [List.getD_eq_getElem?_getD, List.getElem?_eq_getElem hi]
    exact h _ (List.getElem_mem _)
  · rw [List.getD_eq_getElem?_getD, List.getElem?_eq_none (by omega)]
    simp [Nd.z]
theorem mem_tx {l : List Nd} (h : ∀ i, (l.getD i Nd.z).text.size ≤ 1048576) (n : Nd) (hn : n ∈ l) : n.text.size ≤ 1048576 := by
  obtain ⟨i, hi, rfl⟩ := List.getElem_of_mem hn
  have := h i
  rwa [List.getD_eq_getElem?_getD, List.getElem?_eq_getElem hi] at this
theorem flat_txD {t : T} (hok : t.ok txtOk) {off : Nat} (i : Nat) : ((t.flat off).getD i Nd.z).text.size ≤ 1048576 := tx_mem (flat_tx hok) i

theorem flat_pmv {b : Int} {t : T} {off off' : Nat} (hok : t.ok txtOk) (h : (off' : Int) = off + b) (h1 : off + t.n ≤ 1099511627776) (h2 : off' + t.n ≤ 1099511627776) : (t.flat off).map (Nd.pmv b) = t.flat off' := by
  rw [pmv_mv hok, flat_mv hok h h1 h2]

@[go_sem] def lv60 : List (Nat × List Nat) := [(0, [1, 2]), (1, [2])]
def bs60 : List (Nat × List Nat × List Nat) := []
theorem c_nleaf {gl} (n : Nd) : PCon Tryd.prog gl 60 [.agg n.cells] (desc [n]) := by
  refine PCon.enter tb_ok (fn := Tryd.f60) (by kernel_rfl) (by kernel_rfl) rfl (by show 1 ≤ 6; decide) ?_
  repeat' first | refine Z1 fun _ _ => ?_ | refine Z2 ‹_› ?_ | ((first | refine Z3 tb_ok lv60 rfl ?_ | refine ret_eq rfl ?_); simp only [↓reduceIte, reduceCtorEq, reduceEqDiff, reduceAdd, reduceMul, reduceSub, reduceLeDiff, reduceEq, reduceLT, reduceLE, go_sem]) | refine Z8 ?_ | refine Zc ‹_› trivial ?_ | fail
theorem c_cat {gl} {a b : List Nd} (hl : a.length + b.length ≤ 4194304) : PConR Tryd.prog gl 43 [.slice [[nds a], [nds b]]] 43 10 ((a ++ b).map Nd.cells) := by
  have h := c_concat (gl := gl) (ll := [a, b]) (by simpa using hl) (by simp)
  have e : [a, b].flatten = a ++ b := by simp
  rw [e] at h
  exact h
@[go_sem] def lv53 : List (Nat × List Nat) := [(0, [0, 1, 2, 7, 8]), (1, [7, 8, 9]), (2, [8])]
def bs53 : List (Nat × List Nat × List Nat) := []
theorem cw_nwrap {gl} {l : List Nd} {k lo hi : Int} (hl : l.length ≤ 1048576) : PConW Tryd.prog gl 53 [.int .i64 k, .int .i64 lo, .int .i64 hi, desc l] 43 10 ((l ++ [(⟨k, (l.length : Int) - 1, 0, lo, hi, 0, 0, 0, 0, .empty⟩ : Nd)]).map Nd.cells) := by
  refine PConW.enter tb_ok (fn := Tryd.f53) (by kernel_rfl) (by kernel_rfl) rfl (by show 4 ≤ 25; decide) ?_
  repeat' first | refine Z1 fun _ _ => ?_ | refine Z2 ‹_› ?_ | ((first | refine Z3 tb_ok lv53 rfl ?_ | refine ret_eq rfl ?_); simp only [↓reduceIte, reduceCtorEq, reduceEqDiff, reduceAdd, reduceMul, reduceSub, reduceLeDiff, reduceEq, reduceLT, reduceLE, go_sem]) | refine Z8 ?_ | refine Zc ‹_› trivial ?_ | fail
  rw [wrap64 (by omega) (by omega)]
  have h := c_cat (gl := gl) (a := l) (b := [⟨k, (l.length : Int) - 1, 0, lo, hi, 0, 0, 0, 0, .empty⟩]) (by simp; omega)
  refine call_row rfl rfl (h) ?_; simp only [↓reduceIte, reduceCtorEq, reduceEqDiff, reduceAdd, reduceMul, reduceSub, reduceLeDiff, reduceEq, reduceLT, reduceLE, go_sem]
  repeat' first | refine Z1 fun _ _ => ?_ | refine Z2 ‹_› ?_ | ((first | refine Z3 tb_ok lv53 rfl ?_ | refine ret_eq rfl ?_); simp only [↓reduceIte, reduceCtorEq, reduceEqDiff, reduceAdd, reduceMul, reduceSub, reduceLeDiff, reduceEq, reduceLT, reduceLE, go_sem]) | refine Z8 ?_ | refine Zc ‹_› trivial ?_ | fail
  exact rfl
@[go_sem] def lv32 : List (Nat × List Nat) := [(0, [0, 4, 5, 6]), (1, [0, 4, 6, 7]), (2, [6])]
def bs32 : List (Nat × List Nat × List Nat) := [(1, [0, 1, 0, 4, 0, 16, 48, 124, 255, 511, 1023], [9])]
theorem cw_npair {l m : List Nd} {k : Int} (hl : l.length ≤ 1048576) (hm : m.length ≤ 1048576) (htx : ∀ i, (m.getD i Nd.z).text.size ≤ 1048576) : PConW Tryd.prog glU 32 [.int .i64 k, desc l, desc m] 43 10 ((l ++ m.map (Nd.pmv l.length) ++ [(⟨k, (l.length : Int) - 1, (l.length : Int) + m.length - 1, 0, 0, 0, 0, 0, 0, .empty⟩ : Nd)]).map Nd.cells) := by
  refine PConW.enter tb_ok (fn := Tryd.f32) (by kernel_rfl) (by kernel_rfl) rfl (by show 3 ≤ 31; decide) ?_
  repeat' first | refine Z1 fun _ _ => ?_ | refine Z2 ‹_› ?_ | ((first | refine Z3 tb_ok lv32 rfl ?_ | refine Z4 tb_ok mix lv32 bs32 rfl (by kernel_rfl) rfl ?_ | refine ret_eq rfl ?_); simp only [↓reduceIte, reduceCtorEq, reduceEqDiff, reduceAdd, reduceMul, reduceSub, reduceLeDiff, reduceEq, reduceLT, reduceLE, go_sem]) | refine Z8 ?_ | refine Zc ‹_› trivial ?_ | refine touch_go rfl ?_ | refine eff_go rfl ?_ | refine And.intro (show List.all _ _ = true from rfl) ?_ | fail
  have h := (c_nmoved (l := m) (l.length : Int) hm htx).toP
  refine call_pure rfl rfl (h) ?_; simp only [↓reduceIte, reduceCtorEq, reduceEqDiff, reduceAdd, reduceMul, reduceSub, reduceLeDiff, reduceEq, reduceLT, reduceLE, go_sem]
  repeat' first | refine Z1 fun _ _ => ?_ | refine Z2 ‹_› ?_ | ((first | refine Z3 tb_ok lv32 rfl ?_ | refine Z4 tb_ok mix lv32 bs32 rfl (by kernel_rfl) rfl ?_ | refine ret_eq rfl ?_); simp only [↓reduceIte, reduceCtorEq, reduceEqDiff, reduceAdd, reduceMul, reduceSub, reduceLeDiff, reduceEq, reduceLT, reduceLE, go_sem]) | refine Z8 ?_ | refine Zc ‹_› trivial ?_ | refine touch_go rfl ?_ | refine eff_go rfl ?_ | refine And.intro (show List.all _ _ = true from rfl) ?_ | fail
  have h2 := c_cat (gl := glU) (a := l) (b := m.map (Nd.pmv l.length)) (by simp; omega)
  refine call_row rfl rfl (h2) ?_; simp only [↓reduceIte, reduceCtorEq, reduceEqDiff, reduceAdd, reduceMul, reduceSub, reduceLeDiff, reduceEq, reduceLT, reduceLE, go_sem]
  repeat' first | refine Z1 fun _ _ => ?_ | refine Z2 ‹_› ?_ | ((first | refine Z3 tb_ok lv32 rfl ?_ | refine Z4 tb_ok mix lv32 bs32 rfl (by kernel_rfl) rfl ?_ | refine ret_eq rfl ?_); simp only [↓reduceIte, reduceCtorEq, reduceEqDiff, reduceAdd, reduceMul, reduceSub, reduceLeDiff, reduceEq, reduceLT, reduceLE, go_sem]) | refine Z8 ?_ | refine Zc ‹_› trivial ?_ | refine touch_go rfl ?_ | refine eff_go rfl ?_ | refine And.intro (show List.all _ _ = true from rfl) ?_ | fail
  have e : (l ++ m.map (Nd.pmv l.length)).length = l.length + m.length := by simp
  rw [e]
  refine ⟨fun e he => by rw [he]; rfl, by omega, by omega, ?_⟩
  repeat' first | refine Z1 fun _ _ => ?_ | refine Z2 ‹_› ?_ | ((first | refine Z3 tb_ok lv32 rfl ?_ | refine Z4 tb_ok mix lv32 bs32 rfl (by kernel_rfl) rfl ?_ | refine ret_eq rfl ?_); simp only [↓reduceIte, reduceCtorEq, reduceEqDiff, reduceAdd, reduceMul, reduceSub, reduceLeDiff, reduceEq, reduceLT, reduceLE, go_sem]) | refine Z8 ?_ | refine Zc ‹_› trivial ?_ | refine touch_go rfl ?_ | refine eff_go rfl ?_ | refine And.intro (show List.all _ _ = true from rfl) ?_ | fail
  rw [wrap64 (z := (l.length : Int) - 1) (by omega) (by omega), wrap64 (by omega) (by omega), show (((l.length + m.length : Nat) : Int) - 1) = (l.length : Int) + m.length - 1 by omega]
  have fin : List.map Nd.cells (l ++ List.map (Nd.pmv l.length) m) ++ [Nd.cells ⟨k, (l.length : Int) - 1, (l.length : Int) + m.length - 1, 0, 0, 0, 0, 0, 0, .empty⟩] = List.map Nd.cells (l ++ List.map (Nd.pmv l.length) m ++ [⟨k, (l.length : Int) - 1, (l.length : Int) + m.length - 1, 0, 0, 0, 0, 0, 0, .empty⟩]) := by simp
  simp only [Nd.cells] at fin
  simp only [↓reduceIte, reduceCtorEq, reduceEqDiff, reduceAdd, reduceMul, reduceSub, reduceLeDiff, reduceEq, reduceLT, reduceLE, go_sem, fin]
  exact rfl
theorem wrap_flat {a : T} {k lo hi : Int} : a.flat 0 ++ [⟨k, ((a.flat 0).length : Int) - 1, 0, lo, hi, 0, 0, 0, 0, .empty⟩] = (T.one k lo hi a).flat 0 := by
  have := a.n_pos
  simp only [T.flat, T.root, T.flat_len, Nat.zero_add]
  rw [show ((a.n - 1 : Nat) : Int) = (a.n : Int) - 1 by omega]
theorem pair_flat {a b : T} {k : Int} (hok : b.ok txtOk) (hb : a.n + b.n ≤ 1099511627776) : a.flat 0 ++ (b.flat 0).map (Nd.pmv (a.flat 0).length) ++ [⟨k, ((a.flat 0).length : Int) - 1, ((a.flat 0).length : Int) + (b.flat 0).length - 1, 0, 0, 0, 0, 0, 0, .empty⟩] = (T.two k a b).flat 0 := by
  have := a.n_pos
  have := b.n_pos
  rw [flat_pmv (off' := a.n) hok (by simp [T.flat_len]) (by omega) (by omega)]
  simp only [T.flat, T.root, T.flat_len, Nat.zero_add, List.append_assoc]
  rw [show ((a.n - 1 : Nat) : Int) = (a.n : Int) - 1 by omega, show ((a.n + (b.n - 1) : Nat) : Int) = (a.n : Int) + b.n - 1 by omega]
theorem c_nwrapT {gl} {a : T} {k lo hi : Int} (hn : a.n ≤ 1048576) : PCon Tryd.prog gl 53 [.int .i64 k, .int .i64 lo, .int .i64 hi, desc (a.flat 0)] (desc ((T.one k lo hi a).flat 0)) := by
  have h := (cw_nwrap (gl := gl) (l := a.flat 0) (k := k) (lo := lo) (hi := hi) (by rw [T.flat_len]; exact hn)).toP
  rwa [wrap_flat] at h
theorem c_npairT {a b : T} {k : Int} (hb : b.ok txtOk) (hn : a.n ≤ 1048576) (hm : b.n ≤ 1048576) : PCon Tryd.prog glU 32 [.int .i64 k, desc (a.flat 0), desc (b.flat 0)] (desc ((T.two k a b).flat 0)) := by
  have h := (cw_npair (l := a.flat 0) (m := b.flat 0) (k := k) (by rw [T.flat_len]; exact hn) (by rw [T.flat_len]; exact hm) (flat_txD hb)).toP
  rwa [pair_flat hb (by omega)] at h
end Go.Proofs.YtoidlnhgaaohdaaDoor
