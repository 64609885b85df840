/- scantlinglaw05.awake. -/
import Derived.Test.YtoidlnhgaaohdaaDoorParY
import Derived.Test.YtoidlnhgaaohdaaDoorParTo
namespace Go.Proofs.YtoidlnhgaaohdaaDoor
set_option linter.all false
open Go Go.RowKit
open Nat (reduceEqDiff reduceAdd reduceMul reduceSub reduceLeDiff)
open Int (reduceEq reduceLT reduceLE)

abbrev aw1 : ByteArray := ⟨#[46, 42, 124, 98, 40, 41]⟩
abbrev aw2 : ByteArray := ⟨#[40, 40, 46]⟩
abbrev aw3 : ByteArray := ⟨#[46, 124, 42]⟩
abbrev aw4 : ByteArray := ⟨#[46, 41]⟩
abbrev aw5 : ByteArray := ⟨#[40, 46, 41]⟩
theorem tkok_of {l : List Tk} (h : ∀ t ∈ l, t.k ≠ 2 ∧ t.k ≠ 7) (i : Nat) : tkOk (tk l i) := by
  by_cases hi : i < l.length
  · have := h (tk l i) (by rw [tk, List.getD_eq_getElem?_getD, List.getElem?_eq_getElem hi]; exact List.getElem_mem _)
    exact ⟨fun e => absurd e this.1, fun e => absurd e this.2⟩
  · rw [tk_out (by omega)]; exact tkOk_z
section
variable (b0 b1 b2 b3 : Int)
def tB (i : Int) : Tk := ⟨1, i, b0, b1, b2, b3, .empty, 0, 0⟩
def tS (k i : Int) : Tk := { tkN k with t := i }
def awL1 : List Tk := [tB b0 b1 b2 b3 0, tS 6 1, tS 5 2, tS 8 3, tS 3 4, tS 4 5, tS 10 6]
def awL2 : List Tk := [tS 3 0, tS 3 1, tB b0 b1 b2 b3 2, tS 10 3]
def awL3 : List Tk := [tB b0 b1 b2 b3 0, tS 5 1, tS 6 2, tS 10 3]
def awL4 : List Tk := [tB b0 b1 b2 b3 0, tS 4 1, tS 10 2]
def awL5 : List Tk := [tS 3 0, tB b0 b1 b2 b3 1, tS 4 2, tS 10 3]
def awT : T := .two 5 (.one 6 0 0 (.bytes b0 b1 b2 b3)) (.one 8 0 0 .void)
theorem nb {t : Tk} {k : Int} (h : t.k = k) (hk : k ≠ 1 ∧ k ≠ 2 ∧ k ≠ 3 ∧ k ≠ 8 ∧ k ≠ 9) : ¬ begs t := by
  unfold begs; rw [h]; simp; omega
theorem aw_rel1 : Rel (awL1 b0 b1 b2 b3) .or 0 [] (.ok (awT b0 b1 b2 b3) [-1, 1, -1, -1, -1] 6) :=
  .or1 (.row1 (.post1 (.atomB rfl) (.postS rfl (.postN (show ¬ (5 : Int) = 6 by decide) (show ¬ (5 : Int) = 7 by decide)))) (.rowN (nb (k := 5) rfl (by decide))))
    (.orY rfl (.row1 (.post1 (.atomF (.inl rfl) rfl (.groupE rfl (by decide) rfl)) (.postN (show ¬ (10 : Int) = 6 by decide) (show ¬ (10 : Int) = 7 by decide))) (.rowN (nb (k := 10) rfl (by decide)))) (.orN (show ¬ (10 : Int) = 5 by decide)))
theorem aw_rel2 : BadAt (awL2 b0 b1 b2 b3) 6 1 3 := by
  have h0 : Rel (awL2 b0 b1 b2 b3) .or 2 [0, 1] (.ok (.bytes b0 b1 b2 b3) [-1] 3) := .or1 (.row1 (.post1 (.atomB rfl) (.postN (show ¬ (10 : Int) = 6 by decide) (show ¬ (10 : Int) = 7 by decide))) (.rowN (nb (k := 10) rfl (by decide)))) (.orN (show ¬ (10 : Int) = 5 by decide))
  have h1 : Rel (awL2 b0 b1 b2 b3) .group 1 [0] (.bad 6 1 3) := Rel.groupZ (l := awL2 b0 b1 b2 b3) (i := 1) (os := [0]) rfl (by decide) (show ¬ (1 : Int) = 4 by decide) h0 (show ¬ (10 : Int) = 4 by decide)
  have h2 : Rel (awL2 b0 b1 b2 b3) .group 0 [] (.bad 6 1 3) := Rel.group2 (l := awL2 b0 b1 b2 b3) (i := 0) (os := []) rfl (by decide) (show ¬ (3 : Int) = 4 by decide) (.or2 (.row2 (.post2 (.atomG rfl h1))))
  exact .inl (.or2 (.row2 (.post2 (.atomG rfl h2))))
theorem aw_rel3 : BadAt (awL3 b0 b1 b2 b3) 7 2 2 :=
  .inl (.or1 (.row1 (.post1 (.atomB rfl) (.postN (show ¬ (5 : Int) = 6 by decide) (show ¬ (5 : Int) = 7 by decide))) (.rowN (nb (k := 5) rfl (by decide))))
    (.orX rfl (.row2 (.post2 (Rel.atomS (nb (k := 6) rfl (by decide)))))))
theorem aw_rel4 : BadAt (awL4 b0 b1 b2 b3) 7 1 1 :=
  .inr ⟨_, _, .or1 (.row1 (.post1 (.atomB rfl) (.postN (show ¬ (4 : Int) = 6 by decide) (show ¬ (4 : Int) = 7 by decide))) (.rowN (nb (k := 4) rfl (by decide)))) (.orN (show ¬ (4 : Int) = 5 by decide)), (show ¬ (4 : Int) = 10 by decide), rfl, rfl⟩
end
abbrev awN (b0 b1 b2 b3 : Int) : List Nd := [⟨2, 0, 0, 0, 0, b0, b1, b2, b3, .empty⟩, ⟨6, 0, 0, 0, 0, 0, 0, 0, 0, .empty⟩, ⟨1, 0, 0, 0, 0, 0, 0, 0, 0, .empty⟩, ⟨8, 2, 0, 0, 0, 0, 0, 0, 0, .empty⟩, ⟨5, 1, 3, 0, 0, 0, 0, 0, 0, .empty⟩]
theorem awN_eq {b0 b1 b2 b3 : Int} : (awT b0 b1 b2 b3).flat 0 = awN b0 b1 b2 b3 := rfl
theorem shp {c : Int} (h : c ∈ [(46 : Int), 40, 41, 124, 42, 98]) : c = 46 ∨ 0 < shK c := by
  simp only [List.mem_cons, List.not_mem_nil, or_false] at h
  rcases h with rfl | rfl | rfl | rfl | rfl | rfl
  · exact .inl rfl
  all_goals exact .inr (by decide)
@[go_sem] def lv7 : List (Nat × List Nat) := [(0, []), (1, [1, 2, 3]), (2, [1, 2, 3, 7, 8]), (3, [1, 2, 3, 7, 8, 11, 12]), (4, [1, 2, 3, 7, 8, 11, 12, 15, 16]), (5, [1, 2, 3, 7, 8, 11, 12, 15, 16, 18]), (6, [1, 2, 3, 7, 8, 11, 12, 15, 16, 18, 60]), (7, [0]), (8, [0])]
def bs7 : List (Nat × List Nat × List Nat) := []
set_option maxRecDepth 4000 in
set_option maxHeartbeats 1000000 in
theorem c_awake05 : PCon Tryd.prog glU 7 [] (.bool true) := by
  obtain ⟨b0, hb0⟩ : ∃ x, bitsN (rowL 0 256) 0 64 = x := ⟨_, rfl⟩
  obtain ⟨b1, hb1⟩ : ∃ x, bitsN (rowL 0 256) 1 64 = x := ⟨_, rfl⟩
  obtain ⟨b2, hb2⟩ : ∃ x, bitsN (rowL 0 256) 2 64 = x := ⟨_, rfl⟩
  obtain ⟨b3, hb3⟩ : ∃ x, bitsN (rowL 0 256) 3 64 = x := ⟨_, rfl⟩
  have tb : ∀ i, tokB 46 i = tB b0 b1 b2 b3 i := fun i => by rw [← hb0, ← hb1, ← hb2, ← hb3]; rfl
  have ts : ∀ (c : Int) (i : Nat) (k : Int), c ≠ 46 → shK c = k → tokB c i = tS k i := fun c i k h1 h2 => by rw [tokB, if_neg h1, h2]; rfl
  have t1 : PCon Tryd.prog glU 17 [.str aw1] (tks (awL1 b0 b1 b2 b3)) := c_tokens (by decide) (fun i hi => by
    have hi : i < 6 := hi
    rcases (by omega : i = 0 ∨ i = 1 ∨ i = 2 ∨ i = 3 ∨ i = 4 ∨ i = 5) with rfl | rfl | rfl | rfl | rfl | rfl <;> exact shp (by decide)) (by
    show [tokB 46 0, tokB 42 1, tokB 124 2, tokB 98 3, tokB 40 4, tokB 41 5, _] = _
    rw [tb, ts 42 1 6 (by decide) rfl, ts 124 2 5 (by decide) rfl, ts 98 3 8 (by decide) rfl, ts 40 4 3 (by decide) rfl, ts 41 5 4 (by decide) rfl]
    rfl)
  have t2 : PCon Tryd.prog glU 17 [.str aw2] (tks (awL2 b0 b1 b2 b3)) := c_tokens (by decide) (fun i hi => by
    have hi : i < 3 := hi
    rcases (by omega : i = 0 ∨ i = 1 ∨ i = 2) with rfl | rfl | rfl <;> exact shp (by decide)) (by
    show [tokB 40 0, tokB 40 1, tokB 46 2, _] = _
    rw [tb, ts 40 0 3 (by decide) rfl, ts 40 1 3 (by decide) rfl]
    rfl)
  have t3 : PCon Tryd.prog glU 17 [.str aw3] (tks (awL3 b0 b1 b2 b3)) := c_tokens (by decide) (fun i hi => by
    have hi : i < 3 := hi
    rcases (by omega : i = 0 ∨ i = 1 ∨ i = 2) with rfl | rfl | rfl <;> exact shp (by decide)) (by
    show [tokB 46 0, tokB 124 1, tokB 42 2, _] = _
    rw [tb, ts 124 1 5 (by decide) rfl, ts 42 2 6 (by decide) rfl]
    rfl)
  have t4 : PCon Tryd.prog glU 17 [.str aw4] (tks (awL4 b0 b1 b2 b3)) := c_tokens (by decide) (fun i hi => by
    have hi : i < 2 := hi
    rcases (by omega : i = 0 ∨ i = 1) with rfl | rfl <;> exact shp (by decide)) (by
    show [tokB 46 0, tokB 41 1, _] = _
    rw [tb, ts 41 1 4 (by decide) rfl]
    rfl)
  have t5 : PCon Tryd.prog glU 17 [.str aw5] (tks (awL5 b0 b1 b2 b3)) := c_tokens (by decide) (fun i hi => by
    have hi : i < 3 := hi
    rcases (by omega : i = 0 ∨ i = 1 ∨ i = 2) with rfl | rfl | rfl <;> exact shp (by decide)) (by
    show [tokB 40 0, tokB 46 1, tokB 41 2, _] = _
    rw [tb, ts 40 0 3 (by decide) rfl, ts 41 2 4 (by decide) rfl]
    rfl)
  have p1 := c_parse (aw_rel1 b0 b1 b2 b3) (show 7 ≤ 1000 by decide) (tkok_of (by simp [awL1, tB, tS, tkN])) (e := 6) rfl (show 6 < 7 by decide)
  rw [show fin (awL1 b0 b1 b2 b3) (.ok (awT b0 b1 b2 b3) [-1, 1, -1, -1, -1] 6) = .ok (awT b0 b1 b2 b3) [-1, 1, -1, -1, -1] 6 from rfl] at p1
  have p2 := parse_bad (aw_rel2 b0 b1 b2 b3) (show 4 ≤ 1000 by decide) (tkok_of (by simp [awL2, tB, tS, tkN])) (e := 3) rfl (show 3 < 4 by decide)
  have p3 := parse_bad (aw_rel3 b0 b1 b2 b3) (show 4 ≤ 1000 by decide) (tkok_of (by simp [awL3, tB, tS, tkN])) (e := 3) rfl (show 3 < 4 by decide)
  have p4 := parse_bad (aw_rel4 b0 b1 b2 b3) (show 3 ≤ 1000 by decide) (tkok_of (by simp [awL4, tB, tS, tkN])) (e := 2) rfl (show 2 < 3 by decide)
  have p5 := c_deep (gl := glU) (l := awL5 b0 b1 b2 b3) (show 4 ≤ 1048576 by decide)
  rw [show dout (deepF (awL5 b0 b1 b2 b3) 0) = .tup [.int .i64 0, .bool false] from rfl] at p5
  rw [pout, awN_eq] at p1
  rw [pout] at p2 p3 p4
  have e1 : (#[46, 42, 124, 98, 40, 41] : Array UInt8).size = 6 := rfl
  have e2 : (#[40, 40, 46] : Array UInt8).size = 3 := rfl
  have e3 : (#[46, 124, 42] : Array UInt8).size = 3 := rfl
  have e4 : (#[46, 41] : Array UInt8).size = 2 := rfl
  have e5 : (#[40, 46, 41] : Array UInt8).size = 3 := rfl
  refine PCon.enter tb_ok (fn := Tryd.f7) (by kernel_rfl) (by kernel_rfl) rfl (by show 0 ≤ 135; decide) ?_
  repeat' first | refine Z1 fun _ _ => ?_ | refine Z2 ‹_› ?_ | ((first | refine Z3 tb_ok lv7 rfl ?_ | refine ret_eq rfl ?_); simp only [↓reduceIte, reduceCtorEq, reduceEqDiff, reduceAdd, reduceMul, reduceSub, reduceLeDiff, reduceEq, reduceLT, reduceLE, go_sem]) | (refine Z5 rfl ?_; with_reducible first | refine condQ_T ?_ | refine condQ_F ?_) | refine Z6 ?_ | refine Z8 ?_ | refine Zc ‹_› trivial ?_ | fail
  simp only [↓reduceIte, reduceCtorEq, reduceEqDiff, reduceAdd, reduceMul, reduceSub, reduceLeDiff, reduceEq, reduceLT, reduceLE, go_sem, e1]
  refine call_pure rfl rfl (t1) ?_; simp only [↓reduceIte, reduceCtorEq, reduceEqDiff, reduceAdd, reduceMul, reduceSub, reduceLeDiff, reduceEq, reduceLT, reduceLE, go_sem]
  repeat' first | refine Z1 fun _ _ => ?_ | refine Z2 ‹_› ?_ | ((first | refine Z3 tb_ok lv7 rfl ?_ | refine ret_eq rfl ?_); simp only [↓reduceIte, reduceCtorEq, reduceEqDiff, reduceAdd, reduceMul, reduceSub, reduceLeDiff, reduceEq, reduceLT, reduceLE, go_sem]) | (refine Z5 rfl ?_; with_reducible first | refine condQ_T ?_ | refine condQ_F ?_) | refine Z6 ?_ | refine Z8 ?_ | refine Zc ‹_› trivial ?_ | fail
  refine call_pure rfl rfl (p1) ?_; simp only [↓reduceIte, reduceCtorEq, reduceEqDiff, reduceAdd, reduceMul, reduceSub, reduceLeDiff, reduceEq, reduceLT, reduceLE, go_sem]
  repeat' first | refine Z1 fun _ _ => ?_ | refine Z2 ‹_› ?_ | ((first | refine Z3 tb_ok lv7 rfl ?_ | refine ret_eq rfl ?_); simp only [↓reduceIte, reduceCtorEq, reduceEqDiff, reduceAdd, reduceMul, reduceSub, reduceLeDiff, reduceEq, reduceLT, reduceLE, go_sem]) | (refine Z5 rfl ?_; with_reducible first | refine condQ_T ?_ | refine condQ_F ?_) | refine Z6 ?_ | refine Z8 ?_ | refine Zc ‹_› trivial ?_ | fail
  simp only [↓reduceIte, reduceCtorEq, reduceEqDiff, reduceAdd, reduceMul, reduceSub, reduceLeDiff, reduceEq, reduceLT, reduceLE, go_sem, e2]
  refine call_pure rfl rfl (t2) ?_; simp only [↓reduceIte, reduceCtorEq, reduceEqDiff, reduceAdd, reduceMul, reduceSub, reduceLeDiff, reduceEq, reduceLT, reduceLE, go_sem]
  repeat' first | refine Z1 fun _ _ => ?_ | refine Z2 ‹_› ?_ | ((first | refine Z3 tb_ok lv7 rfl ?_ | refine ret_eq rfl ?_); simp only [↓reduceIte, reduceCtorEq, reduceEqDiff, reduceAdd, reduceMul, reduceSub, reduceLeDiff, reduceEq, reduceLT, reduceLE, go_sem]) | (refine Z5 rfl ?_; with_reducible first | refine condQ_T ?_ | refine condQ_F ?_) | refine Z6 ?_ | refine Z8 ?_ | refine Zc ‹_› trivial ?_ | fail
  refine call_pure rfl rfl (p2) ?_; simp only [↓reduceIte, reduceCtorEq, reduceEqDiff, reduceAdd, reduceMul, reduceSub, reduceLeDiff, reduceEq, reduceLT, reduceLE, go_sem]
  repeat' first | refine Z1 fun _ _ => ?_ | refine Z2 ‹_› ?_ | ((first | refine Z3 tb_ok lv7 rfl ?_ | refine ret_eq rfl ?_); simp only [↓reduceIte, reduceCtorEq, reduceEqDiff, reduceAdd, reduceMul, reduceSub, reduceLeDiff, reduceEq, reduceLT, reduceLE, go_sem]) | (refine Z5 rfl ?_; with_reducible first | refine condQ_T ?_ | refine condQ_F ?_) | refine Z6 ?_ | refine Z8 ?_ | refine Zc ‹_› trivial ?_ | fail
  simp only [↓reduceIte, reduceCtorEq, reduceEqDiff, reduceAdd, reduceMul, reduceSub, reduceLeDiff, reduceEq, reduceLT, reduceLE, go_sem, e3]
  refine call_pure rfl rfl (t3) ?_; simp only [↓reduceIte, reduceCtorEq, reduceEqDiff, reduceAdd, reduceMul, reduceSub, reduceLeDiff, reduceEq, reduceLT, reduceLE, go_sem]
  repeat' first | refine Z1 fun _ _ => ?_ | refine Z2 ‹_› ?_ | ((first | refine Z3 tb_ok lv7 rfl ?_ | refine ret_eq rfl ?_); simp only [↓reduceIte, reduceCtorEq, reduceEqDiff, reduceAdd, reduceMul, reduceSub, reduceLeDiff, reduceEq, reduceLT, reduceLE, go_sem]) | (refine Z5 rfl ?_; with_reducible first | refine condQ_T ?_ | refine condQ_F ?_) | refine Z6 ?_ | refine Z8 ?_ | refine Zc ‹_› trivial ?_ | fail
  refine call_pure rfl rfl (p3) ?_; simp only [↓reduceIte, reduceCtorEq, reduceEqDiff, reduceAdd, reduceMul, reduceSub, reduceLeDiff, reduceEq, reduceLT, reduceLE, go_sem]
  repeat' first | refine Z1 fun _ _ => ?_ | refine Z2 ‹_› ?_ | ((first | refine Z3 tb_ok lv7 rfl ?_ | refine ret_eq rfl ?_); simp only [↓reduceIte, reduceCtorEq, reduceEqDiff, reduceAdd, reduceMul, reduceSub, reduceLeDiff, reduceEq, reduceLT, reduceLE, go_sem]) | (refine Z5 rfl ?_; with_reducible first | refine condQ_T ?_ | refine condQ_F ?_) | refine Z6 ?_ | refine Z8 ?_ | refine Zc ‹_› trivial ?_ | fail
  simp only [↓reduceIte, reduceCtorEq, reduceEqDiff, reduceAdd, reduceMul, reduceSub, reduceLeDiff, reduceEq, reduceLT, reduceLE, go_sem, e4]
  refine call_pure rfl rfl (t4) ?_; simp only [↓reduceIte, reduceCtorEq, reduceEqDiff, reduceAdd, reduceMul, reduceSub, reduceLeDiff, reduceEq, reduceLT, reduceLE, go_sem]
  repeat' first | refine Z1 fun _ _ => ?_ | refine Z2 ‹_› ?_ | ((first | refine Z3 tb_ok lv7 rfl ?_ | refine ret_eq rfl ?_); simp only [↓reduceIte, reduceCtorEq, reduceEqDiff, reduceAdd, reduceMul, reduceSub, reduceLeDiff, reduceEq, reduceLT, reduceLE, go_sem]) | (refine Z5 rfl ?_; with_reducible first | refine condQ_T ?_ | refine condQ_F ?_) | refine Z6 ?_ | refine Z8 ?_ | refine Zc ‹_› trivial ?_ | fail
  refine call_pure rfl rfl (p4) ?_; simp only [↓reduceIte, reduceCtorEq, reduceEqDiff, reduceAdd, reduceMul, reduceSub, reduceLeDiff, reduceEq, reduceLT, reduceLE, go_sem]
  repeat' first | refine Z1 fun _ _ => ?_ | refine Z2 ‹_› ?_ | ((first | refine Z3 tb_ok lv7 rfl ?_ | refine ret_eq rfl ?_); simp only [↓reduceIte, reduceCtorEq, reduceEqDiff, reduceAdd, reduceMul, reduceSub, reduceLeDiff, reduceEq, reduceLT, reduceLE, go_sem]) | (refine Z5 rfl ?_; with_reducible first | refine condQ_T ?_ | refine condQ_F ?_) | refine Z6 ?_ | refine Z8 ?_ | refine Zc ‹_› trivial ?_ | fail
  simp only [↓reduceIte, reduceCtorEq, reduceEqDiff, reduceAdd, reduceMul, reduceSub, reduceLeDiff, reduceEq, reduceLT, reduceLE, go_sem, e5]
  refine call_pure rfl rfl (t5) ?_; simp only [↓reduceIte, reduceCtorEq, reduceEqDiff, reduceAdd, reduceMul, reduceSub, reduceLeDiff, reduceEq, reduceLT, reduceLE, go_sem]
  repeat' first | refine Z1 fun _ _ => ?_ | refine Z2 ‹_› ?_ | ((first | refine Z3 tb_ok lv7 rfl ?_ | refine ret_eq rfl ?_); simp only [↓reduceIte, reduceCtorEq, reduceEqDiff, reduceAdd, reduceMul, reduceSub, reduceLeDiff, reduceEq, reduceLT, reduceLE, go_sem]) | (refine Z5 rfl ?_; with_reducible first | refine condQ_T ?_ | refine condQ_F ?_) | refine Z6 ?_ | refine Z8 ?_ | refine Zc ‹_› trivial ?_ | fail
  refine call_pure rfl rfl (p5) ?_; simp only [↓reduceIte, reduceCtorEq, reduceEqDiff, reduceAdd, reduceMul, reduceSub, reduceLeDiff, reduceEq, reduceLT, reduceLE, go_sem]
  repeat' first | refine Z1 fun _ _ => ?_ | refine Z2 ‹_› ?_ | ((first | refine Z3 tb_ok lv7 rfl ?_ | refine ret_eq rfl ?_); simp only [↓reduceIte, reduceCtorEq, reduceEqDiff, reduceAdd, reduceMul, reduceSub, reduceLeDiff, reduceEq, reduceLT, reduceLE, go_sem]) | (refine Z5 rfl ?_; with_reducible first | refine condQ_T ?_ | refine condQ_F ?_) | refine Z6 ?_ | refine Z8 ?_ | refine Zc ‹_› trivial ?_ | fail
  have d4 : decide (¬ ((5 : Nat) : Int) = 5) = false := rfl
  simp only [↓reduceIte, reduceCtorEq, reduceEqDiff, reduceAdd, reduceMul, reduceSub, reduceLeDiff, reduceEq, reduceLT, reduceLE, go_sem, d4]
  repeat' first | refine Z1 fun _ _ => ?_ | refine Z2 ‹_› ?_ | ((first | refine Z3 tb_ok lv7 rfl ?_ | refine ret_eq rfl ?_); simp only [↓reduceIte, reduceCtorEq, reduceEqDiff, reduceAdd, reduceMul, reduceSub, reduceLeDiff, reduceEq, reduceLT, reduceLE, go_sem]) | (refine Z5 rfl ?_; with_reducible first | refine condQ_T ?_ | refine condQ_F ?_) | refine Z6 ?_ | refine Z8 ?_ | refine Zc ‹_› trivial ?_ | fail
  refine idx_map (l := awN b0 b1 b2 b3) (f := Nd.cells) (j := 1) Nd.z rfl rfl rfl rfl rfl (by decide) (show 1 < 5 by decide) rfl ?_
  have g1 : (awN b0 b1 b2 b3).getD 1 Nd.z = ⟨6, 0, 0, 0, 0, 0, 0, 0, 0, .empty⟩ := rfl
  simp only [↓reduceIte, reduceCtorEq, reduceEqDiff, reduceAdd, reduceMul, reduceSub, reduceLeDiff, reduceEq, reduceLT, reduceLE, go_sem, g1, Bool.true_and]
  repeat' first | refine Z1 fun _ _ => ?_ | refine Z2 ‹_› ?_ | ((first | refine Z3 tb_ok lv7 rfl ?_ | refine ret_eq rfl ?_); simp only [↓reduceIte, reduceCtorEq, reduceEqDiff, reduceAdd, reduceMul, reduceSub, reduceLeDiff, reduceEq, reduceLT, reduceLE, go_sem]) | (refine Z5 rfl ?_; with_reducible first | refine condQ_T ?_ | refine condQ_F ?_) | refine Z6 ?_ | refine Z8 ?_ | refine Zc ‹_› trivial ?_ | fail
  refine idx_map (l := [-1, 1, -1, -1, -1]) (f := fun x : Int => [D.int .i64 x]) (j := 1) (0 : Int) rfl rfl rfl rfl rfl (by decide) (by decide) rfl ?_
  have k1 : ([-1, 1, -1, -1, -1] : List Int).getD 1 0 = 1 := rfl
  simp only [↓reduceIte, reduceCtorEq, reduceEqDiff, reduceAdd, reduceMul, reduceSub, reduceLeDiff, reduceEq, reduceLT, reduceLE, go_sem, k1, Bool.true_and]
  repeat' first | refine Z1 fun _ _ => ?_ | refine Z2 ‹_› ?_ | ((first | refine Z3 tb_ok lv7 rfl ?_ | refine ret_eq rfl ?_); simp only [↓reduceIte, reduceCtorEq, reduceEqDiff, reduceAdd, reduceMul, reduceSub, reduceLeDiff, reduceEq, reduceLT, reduceLE, go_sem]) | (refine Z5 rfl ?_; with_reducible first | refine condQ_T ?_ | refine condQ_F ?_) | refine Z6 ?_ | refine Z8 ?_ | refine Zc ‹_› trivial ?_ | fail
  refine idx_map (l := [-1, 1, -1, -1, -1]) (f := fun x : Int => [D.int .i64 x]) (j := 0) (0 : Int) rfl rfl rfl rfl rfl (by decide) (by decide) rfl ?_
  have k0 : ([-1, 1, -1, -1, -1] : List Int).getD 0 0 = -1 := rfl
  simp only [↓reduceIte, reduceCtorEq, reduceEqDiff, reduceAdd, reduceMul, reduceSub, reduceLeDiff, reduceEq, reduceLT, reduceLE, go_sem, k0, Bool.true_and]
  repeat' first | refine Z1 fun _ _ => ?_ | refine Z2 ‹_› ?_ | ((first | refine Z3 tb_ok lv7 rfl ?_ | refine ret_eq rfl ?_); simp only [↓reduceIte, reduceCtorEq, reduceEqDiff, reduceAdd, reduceMul, reduceSub, reduceLeDiff, reduceEq, reduceLT, reduceLE, go_sem]) | (refine Z5 rfl ?_; with_reducible first | refine condQ_T ?_ | refine condQ_F ?_) | refine Z6 ?_ | refine Z8 ?_ | refine Zc ‹_› trivial ?_ | fail
  refine idx_map (l := awN b0 b1 b2 b3) (f := Nd.cells) (j := 2) Nd.z rfl rfl rfl rfl rfl (by decide) (show 2 < 5 by decide) rfl ?_
  have g2 : (awN b0 b1 b2 b3).getD 2 Nd.z = ⟨1, 0, 0, 0, 0, 0, 0, 0, 0, .empty⟩ := rfl
  simp only [↓reduceIte, reduceCtorEq, reduceEqDiff, reduceAdd, reduceMul, reduceSub, reduceLeDiff, reduceEq, reduceLT, reduceLE, go_sem, g2, Bool.true_and]
  repeat' first | refine Z1 fun _ _ => ?_ | refine Z2 ‹_› ?_ | ((first | refine Z3 tb_ok lv7 rfl ?_ | refine ret_eq rfl ?_); simp only [↓reduceIte, reduceCtorEq, reduceEqDiff, reduceAdd, reduceMul, reduceSub, reduceLeDiff, reduceEq, reduceLT, reduceLE, go_sem]) | (refine Z5 rfl ?_; with_reducible first | refine condQ_T ?_ | refine condQ_F ?_) | refine Z6 ?_ | refine Z8 ?_ | refine Zc ‹_› trivial ?_ | fail
  refine idx_map (l := awN b0 b1 b2 b3) (f := Nd.cells) (j := 3) Nd.z rfl rfl rfl rfl rfl (by decide) (show 3 < 5 by decide) rfl ?_
  have g3 : (awN b0 b1 b2 b3).getD 3 Nd.z = ⟨8, 2, 0, 0, 0, 0, 0, 0, 0, .empty⟩ := rfl
  simp only [↓reduceIte, reduceCtorEq, reduceEqDiff, reduceAdd, reduceMul, reduceSub, reduceLeDiff, reduceEq, reduceLT, reduceLE, go_sem, g3, Bool.true_and]
  repeat' first | refine Z1 fun _ _ => ?_ | refine Z2 ‹_› ?_ | ((first | refine Z3 tb_ok lv7 rfl ?_ | refine ret_eq rfl ?_); simp only [↓reduceIte, reduceCtorEq, reduceEqDiff, reduceAdd, reduceMul, reduceSub, reduceLeDiff, reduceEq, reduceLT, reduceLE, go_sem]) | (refine Z5 rfl ?_; with_reducible first | refine condQ_T ?_ | refine condQ_F ?_) | refine Z6 ?_ | refine Z8 ?_ | refine Zc ‹_› trivial ?_ | fail
  refine idx_map (l := awN b0 b1 b2 b3) (f := Nd.cells) (j := 4) Nd.z rfl rfl rfl rfl rfl (by decide) (show 4 < 5 by decide) rfl ?_
  have g4 : (awN b0 b1 b2 b3).getD 4 Nd.z = ⟨5, 1, 3, 0, 0, 0, 0, 0, 0, .empty⟩ := rfl
  simp only [↓reduceIte, reduceCtorEq, reduceEqDiff, reduceAdd, reduceMul, reduceSub, reduceLeDiff, reduceEq, reduceLT, reduceLE, go_sem, g4, Bool.true_and]
  repeat' first | refine Z1 fun _ _ => ?_ | refine Z2 ‹_› ?_ | ((first | refine Z3 tb_ok lv7 rfl ?_ | refine ret_eq rfl ?_); simp only [↓reduceIte, reduceCtorEq, reduceEqDiff, reduceAdd, reduceMul, reduceSub, reduceLeDiff, reduceEq, reduceLT, reduceLE, go_sem]) | (refine Z5 rfl ?_; with_reducible first | refine condQ_T ?_ | refine condQ_F ?_) | refine Z6 ?_ | refine Z8 ?_ | refine Zc ‹_› trivial ?_ | fail
end Go.Proofs.YtoidlnhgaaohdaaDoor
