/- count: ends of any tree, Ways, Fits (ref12). -/
import Derived.Test.YtpibdbjlilpfiaaCntS
namespace Go.Proofs.Ytpibdbjlilpfiaa
set_option linter.all false
open Go Go.RowKit
open Nat (reduceEqDiff reduceAdd reduceMul reduceSub reduceLeDiff)
open Int (reduceEq reduceLT reduceLE)

theorem RowOk.two {α : Type} {r : List Nat} {n : Nat} {S : Nat → α → Prop} (h : RowOk r n S) : ∀ x ∈ r, x ≤ 2 := fun x hx => by
  obtain ⟨i, hi, e⟩ := List.getElem_of_mem hx
  have := (h.cn i (by have := h.len; omega)).le
  rw [List.getD_eq_getElem?_getD, List.getElem?_eq_getElem hi] at this
  rw [← e]
  exact this
theorem ends_at {gl} {l : List Nd} (hl : l.length ≤ 1048576) : ∀ (t : T) {off : Nat} (w : List UInt8), w.length ≤ 1000 → Sits l off t → t.ok txtOk → t.cok → EndsC gl l (off + (t.n - 1)) w (t.ends w) := by
  intro t
  induction t with
  | void =>
    intro off w hw hs hok hc j hj
    have hr := ends_ok .void hok w j hj
    exact ⟨ends_void hl (by have := hs.lt; have := T.n_pos .void; omega) (hs.getD Nd.z) hj hw, hr.len, hr.two⟩
  | bytes c0 c1 c2 c3 =>
    intro off w hw hs hok hc j hj
    have hr := ends_ok (.bytes c0 c1 c2 c3) hok w j hj
    exact ⟨ends_bytes hl (by have := hs.lt; have := T.n_pos (.bytes c0 c1 c2 c3); omega) (hs.getD Nd.z) hj hw hc, hr.len, hr.two⟩
  | text s =>
    intro off w hw hs hok hc j hj
    have hr := ends_ok (.text s) hok w j hj
    exact ⟨ends_text hl (by have := hs.lt; have := T.n_pos (.text s); omega) (hs.getD Nd.z) hj hw hok, hr.len, hr.two⟩
  | two k x y ihx ihy =>
    intro off w hw hs hok hc j hj
    have hr := ends_ok (.two k x y) hok w j hj
    refine ⟨?_, hr.len, hr.two⟩
    have hx := ihx w hw hs.two1 hok.2.1 hc.1
    have hy := ihy w hw hs.two2 hok.2.2 hc.2
    have lt := hs.lt
    have px := x.n_pos
    have py := y.n_pos
    have hn : (T.two k x y).n = x.n + y.n + 1 := rfl
    rcases hok.1 with rfl | rfl
    · rw [T.ends, if_pos rfl]
      exact ends_seq (ia := off + (x.n - 1)) (ib := off + x.n + (y.n - 1)) hl (by omega) (hs.getD Nd.z) hj hw hx hy
    · rw [T.ends, if_neg (by decide)]
      exact ends_or (ia := off + (x.n - 1)) (ib := off + x.n + (y.n - 1)) hl (by omega) (hs.getD Nd.z) hj hw hx hy
  | one k lo hi x ihx =>
    intro off w hw hs hok hc j hj
    have hr := ends_ok (.one k lo hi x) hok w j hj
    refine ⟨?_, hr.len, hr.two⟩
    have lt := hs.lt
    have px := x.n_pos
    have hn : (T.one k lo hi x).n = x.n + 1 := rfl
    rcases (show k = 6 ∨ k = 7 ∨ k = 8 ∨ k = 9 by have := hok.1; omega) with rfl | rfl | rfl | rfl
    · rw [T.ends, if_pos rfl]
      exact ends_star (ia := off + (x.n - 1)) hl (by omega) (hs.getD Nd.z) hj hw (ihx w hw hs.one1 hok.2 hc)
    · rw [T.ends, if_neg (by decide), if_pos rfl]
      have h7 := hok.1
      exact ends_rep (ia := off + (x.n - 1)) hl (by omega) (hs.getD Nd.z) hj hw (ihx w hw hs.one1 hok.2 hc) (by omega) (by omega)
    · exact ends_frame (ia := off + (x.n - 1)) hl (by omega) (hs.getD Nd.z) hj hw (fun v hv => ihx v (by omega) hs.one1 hok.2 hc)
    · exact ends_wide (ia := off + (x.n - 1)) hl (by omega) (hs.getD Nd.z) hj hw (fun v hv => ihx v (by omega) hs.one1 hok.2 hc)
@[go_sem] def lv29 : List (Nat × List Nat) := [(0, [1, 2]), (1, [4])]
def bs29 : List (Nat × List Nat × List Nat) := []
set_option maxHeartbeats 1000000 in
theorem c_r12Ways {gl} {t : T} {w : List UInt8} (hl : t.n ≤ 1048576) (hw : w.length ≤ 1000) (hok : t.ok txtOk) (hc : t.cok) : PCon Try.prog gl 29 [desc (t.flat 0), bys w] (.int .i64 (t.fnd w).length) := by
  have hfl : (t.flat 0).length = t.n := T.flat_len ..
  have px := t.n_pos
  obtain ⟨e1, e2, e3⟩ := ends_at (gl := gl) (by omega) t w hw (sits_flat t) hok hc 0 (Nat.zero_le _)
  replace e1 := e1.toP
  simp only [desc, nds, bys] at e1
  refine PCon.enter tb_ok (fn := Try.f29) (by kernel_rfl) (by kernel_rfl) rfl (by show 2 ≤ 16; decide) ?_
  simp only [desc, nds, bys]
  repeat' first | refine Z1 fun _ _ => ?_ | refine Z2 ‹_› ?_ | ((first | refine Z3 tb_ok lv29 rfl ?_ | refine Zr rfl ?_); simp only [↓reduceIte, reduceCtorEq, reduceEqDiff, reduceAdd, reduceMul, reduceSub, reduceLeDiff, reduceEq, reduceLT, reduceLE, go_sem]) | refine ZS rfl ?_ | refine ZH ?_ | fail
  rw [wrap64 (by omega) (by omega), show (((t.flat 0).length : Int) - 1) = ((0 + (t.n - 1) : Nat) : Int) by omega]
  refine call_pure rfl rfl (e1) ?_; simp only [↓reduceIte, reduceCtorEq, reduceEqDiff, reduceAdd, reduceMul, reduceSub, reduceLeDiff, reduceEq, reduceLT, reduceLE, go_sem]
  repeat' first | refine Z1 fun _ _ => ?_ | refine Z2 ‹_› ?_ | ((first | refine Z3 tb_ok lv29 rfl ?_ | refine Zr rfl ?_); simp only [↓reduceIte, reduceCtorEq, reduceEqDiff, reduceAdd, reduceMul, reduceSub, reduceLeDiff, reduceEq, reduceLT, reduceLE, go_sem]) | refine ZS rfl ?_ | refine ZH ?_ | fail
  refine @idx_map _ _ _ (t.ends w 0) natC _ _ w.length _ _ .i64 (w.length : Int) _ _ _ (0 : Nat) rfl rfl rfl rfl rfl ?_ ?_ ?_ ?_
  · omega
  · omega
  · rfl
  simp only [↓reduceIte, reduceCtorEq, reduceEqDiff, reduceAdd, reduceMul, reduceSub, reduceLeDiff, reduceEq, reduceLT, reduceLE, go_sem]
  repeat' first | refine Z1 fun _ _ => ?_ | refine Z2 ‹_› ?_ | ((first | refine Z3 tb_ok lv29 rfl ?_ | refine Zr rfl ?_); simp only [↓reduceIte, reduceCtorEq, reduceEqDiff, reduceAdd, reduceMul, reduceSub, reduceLeDiff, reduceEq, reduceLT, reduceLE, go_sem]) | refine ZS rfl ?_ | refine ZH ?_ | fail
  rw [ends_ways hok]
@[go_sem] def lv28 : List (Nat × List Nat) := [(0, [1, 2]), (1, [4])]
def bs28 : List (Nat × List Nat × List Nat) := []
set_option maxHeartbeats 1000000 in
theorem c_Fits {gl} {l : List Nd} {w : List UInt8} : PCon Try.prog gl 28 [desc l, bys w] (.bool (decide (l.length ≤ 16 ∧ w.length ≤ 8))) := by
  refine PCon.enter tb_ok (fn := Try.f28) (by kernel_rfl) (by kernel_rfl) rfl (by show 2 ≤ 14; decide) ?_
  simp only [desc, nds, bys]
  repeat' first | refine Z1 fun _ _ => ?_ | refine Z2 ‹_› ?_ | ((first | refine Z3 tb_ok lv28 rfl ?_ | refine Zr rfl ?_); simp only [↓reduceIte, reduceCtorEq, reduceEqDiff, reduceAdd, reduceMul, reduceSub, reduceLeDiff, reduceEq, reduceLT, reduceLE, go_sem]) | refine ZS rfl ?_ | refine ZH ?_ | fail
  refine .split rfl (fun g1 => ?_) (fun g1 => ?_) <;> simp only [↓reduceIte, reduceCtorEq, reduceEqDiff, reduceAdd, reduceMul, reduceSub, reduceLeDiff, reduceEq, reduceLT, reduceLE, go_sem, g1]
  · simp only [decide_eq_true_eq] at g1
    repeat' first | refine Z1 fun _ _ => ?_ | refine Z2 ‹_› ?_ | ((first | refine Z3 tb_ok lv28 rfl ?_ | refine Zr rfl ?_); simp only [↓reduceIte, reduceCtorEq, reduceEqDiff, reduceAdd, reduceMul, reduceSub, reduceLeDiff, reduceEq, reduceLT, reduceLE, go_sem]) | refine ZS rfl ?_ | refine ZH ?_ | fail
    rw [Bool.eq_iff_iff, decide_eq_true_eq, decide_eq_true_eq]
    omega
  · simp only [decide_eq_false_iff_not] at g1
    repeat' first | refine Z1 fun _ _ => ?_ | refine Z2 ‹_› ?_ | ((first | refine Z3 tb_ok lv28 rfl ?_ | refine Zr rfl ?_); simp only [↓reduceIte, reduceCtorEq, reduceEqDiff, reduceAdd, reduceMul, reduceSub, reduceLeDiff, reduceEq, reduceLT, reduceLE, go_sem]) | refine ZS rfl ?_ | refine ZH ?_ | fail
    rw [Bool.eq_iff_iff, decide_eq_true_eq]
    constructor
    · intro h; cases h
    · omega
end Go.Proofs.Ytpibdbjlilpfiaa
