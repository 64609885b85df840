/- parse: post. -/
import Derived.Test.YtoidlnhgaaohdaaDoorParF
namespace Go.Proofs.YtoidlnhgaaohdaaDoor
set_option linter.all false
open Go Go.RowKit
open Nat (reduceEqDiff reduceAdd reduceMul reduceSub reduceLeDiff)
open Int (reduceEq reduceLT reduceLE)

@[go_sem] def lv30 : List (Nat × List Nat) := [(0, [0, 2]), (1, [0, 2, 3]), (2, [0, 2, 3, 4]), (3, [0, 2, 3, 4, 10]), (4, [2]), (5, [0, 2, 3, 4, 10, 12]), (6, [0, 2, 3]), (7, [0, 2, 3, 4, 19]), (8, [0, 2, 3]), (9, [0, 2, 3])]
def bs30 : List (Nat × List Nat × List Nat) := []
set_option maxHeartbeats 1000000 in
theorem c_post {gl} {l : List Tk} {i e : Nat} {os : List Int} {r : PR} (hl : l.length ≤ 400000) (hok : ∀ i, tkOk (tk l i)) (he : (tk l e).k = 10) (hel : e < l.length) (hi : i ≤ e) (ho : os.length ≤ 64)
    (ha : ∀ r', Rel l .atom i os r' → MB gl 40 l i os r') (h : Rel l .post i os r) : MB gl 30 l i os r := by
  cases h with
  | post2 h1 =>
    have hc := ha _ h1
    refine PConB.enter tb_ok (fn := Tryd.f30) (by kernel_rfl) (by kernel_rfl) rfl (by show 1 ≤ 33; decide) ?_
    repeat' first | refine Z1 fun _ _ => ?_ | refine Z2 ‹_› ?_ | ((first | refine Z3 tb_ok lv30 rfl ?_ | refine ret_eq rfl ?_); simp only [↓reduceIte, reduceCtorEq, reduceEqDiff, reduceAdd, reduceMul, reduceSub, reduceLeDiff, reduceEq, reduceLT, reduceLE, go_sem]) | (refine Z5 rfl ?_; with_reducible first | refine condQ_T ?_ | refine condQ_F ?_) | refine Z8 ?_ | refine Z9 fun _ _ => ?_ | refine Za ‹_› ?_ | refine Zc ‹_› trivial ?_ | refine Zd ‹_› trivial ?_ | refine Ze ‹_› trivial ?_ | refine Zf ‹_› ?_ | refine Zm ‹_› ?_ | fail
    refine cb_pan (hc) rfl rfl rfl rfl rfl ?_; try simp only [↓reduceIte, reduceCtorEq, reduceEqDiff, reduceAdd, reduceMul, reduceSub, reduceLeDiff, reduceEq, reduceLT, reduceLE, go_sem]
    repeat' first | refine Z1 fun _ _ => ?_ | refine Z2 ‹_› ?_ | ((first | refine Z3 tb_ok lv30 rfl ?_ | refine ret_eq rfl ?_); simp only [↓reduceIte, reduceCtorEq, reduceEqDiff, reduceAdd, reduceMul, reduceSub, reduceLeDiff, reduceEq, reduceLT, reduceLE, go_sem]) | (refine Z5 rfl ?_; with_reducible first | refine condQ_T ?_ | refine condQ_F ?_) | refine Z8 ?_ | refine Z9 fun _ _ => ?_ | refine Za ‹_› ?_ | refine Zc ‹_› trivial ?_ | refine Zd ‹_› trivial ?_ | refine Ze ‹_› trivial ?_ | refine Zf ‹_› ?_ | refine Zm ‹_› ?_ | fail
    exact rfl
  | @post1 _ _ t ats j _ h1 h2 =>
    have hc := ha _ h1
    have hj := (h1.within he hi).2.1
    obtain ⟨v1, v2, v3⟩ := h1.inv hok trivial
    simp only [PR.place, NT.spent] at hj v3
    refine PConB.enter tb_ok (fn := Tryd.f30) (by kernel_rfl) (by kernel_rfl) rfl (by show 1 ≤ 33; decide) ?_
    repeat' first | refine Z1 fun _ _ => ?_ | refine Z2 ‹_› ?_ | ((first | refine Z3 tb_ok lv30 rfl ?_ | refine ret_eq rfl ?_); simp only [↓reduceIte, reduceCtorEq, reduceEqDiff, reduceAdd, reduceMul, reduceSub, reduceLeDiff, reduceEq, reduceLT, reduceLE, go_sem]) | (refine Z5 rfl ?_; with_reducible first | refine condQ_T ?_ | refine condQ_F ?_) | refine Z8 ?_ | refine Z9 fun _ _ => ?_ | refine Za ‹_› ?_ | refine Zc ‹_› trivial ?_ | refine Zd ‹_› trivial ?_ | refine Ze ‹_› trivial ?_ | refine Zf ‹_› ?_ | refine Zm ‹_› ?_ | fail
    refine cb_ret (hc) rfl rfl rfl rfl rfl ?_; simp only [↓reduceIte, reduceCtorEq, reduceEqDiff, reduceAdd, reduceMul, reduceSub, reduceLeDiff, reduceEq, reduceLT, reduceLE, go_sem]
    repeat' first | refine Z1 fun _ _ => ?_ | refine Z2 ‹_› ?_ | ((first | refine Z3 tb_ok lv30 rfl ?_ | refine ret_eq rfl ?_); simp only [↓reduceIte, reduceCtorEq, reduceEqDiff, reduceAdd, reduceMul, reduceSub, reduceLeDiff, reduceEq, reduceLT, reduceLE, go_sem]) | (refine Z5 rfl ?_; with_reducible first | refine condQ_T ?_ | refine condQ_F ?_) | refine Z8 ?_ | refine Z9 fun _ _ => ?_ | refine Za ‹_› ?_ | refine Zc ‹_› trivial ?_ | refine Zd ‹_› trivial ?_ | refine Ze ‹_› trivial ?_ | refine Zf ‹_› ?_ | refine Zm ‹_› ?_ | fail
    refine .loopS (α := T × List Int × Nat) (fun a => ⟨[(0, .ref 0 0), (2, .ref 2 0), (3, .ref 5 0)], [(5, .box true [.d (nds (a.1.flat 0)), .d (ints a.2.1)]), (0, .box false [.d (tks l), .d (.int .i64 a.2.2), .own 4, .d (.int .i64 0)]), (4, .row false 3 1 (irow os)), (2, .box true [.d .nils, .d .nils])], 7⟩)
      (fun a => Rel l (.postL a.1 a.2.1) a.2.2 os r ∧ a.2.2 ≤ e ∧ a.1.ok txtOk ∧ a.2.1.length = a.1.n ∧ a.1.n + 1 ≤ 2 * a.2.2) (fun a => e - a.2.2) (t, ats, j) ⟨h2, hj, v1, v2, by show t.n + 1 ≤ 2 * j; omega⟩ [] rfl (by simp only [↓reduceIte, reduceCtorEq, reduceEqDiff, reduceAdd, reduceMul, reduceSub, reduceLeDiff, reduceEq, reduceLT, reduceLE, go_sem]; simp) ?_
    rintro ⟨t, ats, j⟩ ⟨h2, hj, v1, v2, v3⟩ Q hQ
    simp only at h2 hj v1 v2 v3
    have hjl : j < l.length := by omega
    have nx := c_next (gl := gl) (os := os) (by omega) hjl
    simp only [↓reduceIte, reduceCtorEq, reduceEqDiff, reduceAdd, reduceMul, reduceSub, reduceLeDiff, reduceEq, reduceLT, reduceLE, go_sem]
    repeat' first | refine Z1 fun _ _ => ?_ | refine Z2 ‹_› ?_ | ((first | refine Z3 tb_ok lv30 rfl ?_ | refine ret_eq rfl ?_); simp only [↓reduceIte, reduceCtorEq, reduceEqDiff, reduceAdd, reduceMul, reduceSub, reduceLeDiff, reduceEq, reduceLT, reduceLE, go_sem]) | (refine Z5 rfl ?_; with_reducible first | refine condQ_T ?_ | refine condQ_F ?_) | refine Z8 ?_ | refine Z9 fun _ _ => ?_ | refine Za ‹_› ?_ | refine Zc ‹_› trivial ?_ | refine Zd ‹_› trivial ?_ | refine Ze ‹_› trivial ?_ | refine Zf ‹_› ?_ | refine Zm ‹_› ?_ | fail
    refine cb_ret (nx) rfl rfl rfl rfl rfl ?_; simp only [↓reduceIte, reduceCtorEq, reduceEqDiff, reduceAdd, reduceMul, reduceSub, reduceLeDiff, reduceEq, reduceLT, reduceLE, go_sem]
    repeat' first | refine Z1 fun _ _ => ?_ | refine Z2 ‹_› ?_ | ((first | refine Z3 tb_ok lv30 rfl ?_ | refine ret_eq rfl ?_); simp only [↓reduceIte, reduceCtorEq, reduceEqDiff, reduceAdd, reduceMul, reduceSub, reduceLeDiff, reduceEq, reduceLT, reduceLE, go_sem]) | (refine Z5 rfl ?_; with_reducible first | refine condQ_T ?_ | refine condQ_F ?_) | refine Z8 ?_ | refine Z9 fun _ _ => ?_ | refine Za ‹_› ?_ | refine Zc ‹_› trivial ?_ | refine Zd ‹_› trivial ?_ | refine Ze ‹_› trivial ?_ | refine Zf ‹_› ?_ | refine Zm ‹_› ?_ | fail
    have wj : IntKind.i64.wrap ((j : Int) + 1) = ((j + 1 : Nat) : Int) := wrap64 (by omega) (by omega)
    have tn := t.n_pos
    cases h2 with
    | postN k6 k7 =>
      have f6 : decide ((l.getD j Tk.z).k = 6) = false := decide_eq_false k6
      have f7 : decide ((l.getD j Tk.z).k = 7) = false := decide_eq_false k7
      simp only [↓reduceIte, reduceCtorEq, reduceEqDiff, reduceAdd, reduceMul, reduceSub, reduceLeDiff, reduceEq, reduceLT, reduceLE, go_sem, f6]
      repeat' first | refine Z1 fun _ _ => ?_ | refine Z2 ‹_› ?_ | ((first | refine Z3 tb_ok lv30 rfl ?_ | refine ret_eq rfl ?_); simp only [↓reduceIte, reduceCtorEq, reduceEqDiff, reduceAdd, reduceMul, reduceSub, reduceLeDiff, reduceEq, reduceLT, reduceLE, go_sem]) | (refine Z5 rfl ?_; with_reducible first | refine condQ_T ?_ | refine condQ_F ?_) | refine Z8 ?_ | refine Z9 fun _ _ => ?_ | refine Za ‹_› ?_ | refine Zc ‹_› trivial ?_ | refine Zd ‹_› trivial ?_ | refine Ze ‹_› trivial ?_ | refine Zf ‹_› ?_ | refine Zm ‹_› ?_ | fail
      simp only [↓reduceIte, reduceCtorEq, reduceEqDiff, reduceAdd, reduceMul, reduceSub, reduceLeDiff, reduceEq, reduceLT, reduceLE, go_sem, f7]
      repeat' first | refine Z1 fun _ _ => ?_ | refine Z2 ‹_› ?_ | ((first | refine Z3 tb_ok lv30 rfl ?_ | refine ret_eq rfl ?_); simp only [↓reduceIte, reduceCtorEq, reduceEqDiff, reduceAdd, reduceMul, reduceSub, reduceLeDiff, reduceEq, reduceLT, reduceLE, go_sem]) | (refine Z5 rfl ?_; with_reducible first | refine condQ_T ?_ | refine condQ_F ?_) | refine Z8 ?_ | refine Z9 fun _ _ => ?_ | refine Za ‹_› ?_ | refine Zc ‹_› trivial ?_ | refine Zd ‹_› trivial ?_ | refine Ze ‹_› trivial ?_ | refine Zf ‹_› ?_ | refine Zm ‹_› ?_ | fail
      exact retB_ret 0 8 rfl rfl rfl rfl
    | postS k6 h3 =>
      have f6 : decide ((l.getD j Tk.z).k = 6) = true := decide_eq_true k6
      simp only [↓reduceIte, reduceCtorEq, reduceEqDiff, reduceAdd, reduceMul, reduceSub, reduceLeDiff, reduceEq, reduceLT, reduceLE, go_sem, f6]
      repeat' first | refine Z1 fun _ _ => ?_ | refine Z2 ‹_› ?_ | ((first | refine Z3 tb_ok lv30 rfl ?_ | refine ret_eq rfl ?_); simp only [↓reduceIte, reduceCtorEq, reduceEqDiff, reduceAdd, reduceMul, reduceSub, reduceLeDiff, reduceEq, reduceLT, reduceLE, go_sem]) | (refine Z5 rfl ?_; with_reducible first | refine condQ_T ?_ | refine condQ_F ?_) | refine Z8 ?_ | refine Z9 fun _ _ => ?_ | refine Za ‹_› ?_ | refine Zc ‹_› trivial ?_ | refine Zd ‹_› trivial ?_ | refine Ze ‹_› trivial ?_ | refine Zf ‹_› ?_ | refine Zm ‹_› ?_ | fail
      refine call_pure rfl rfl (c_pwrap (gl := gl) (a := t) (ats := ats) (t := Tk.z) (k := 6) (p := (l.getD j Tk.z).t) (by omega) (by omega)) ?_; simp only [↓reduceIte, reduceCtorEq, reduceEqDiff, reduceAdd, reduceMul, reduceSub, reduceLeDiff, reduceEq, reduceLT, reduceLE, go_sem]
      repeat' first | refine Z1 fun _ _ => ?_ | refine Z2 ‹_› ?_ | ((first | refine Z3 tb_ok lv30 rfl ?_ | refine ret_eq rfl ?_); simp only [↓reduceIte, reduceCtorEq, reduceEqDiff, reduceAdd, reduceMul, reduceSub, reduceLeDiff, reduceEq, reduceLT, reduceLE, go_sem]) | (refine Z5 rfl ?_; with_reducible first | refine condQ_T ?_ | refine condQ_F ?_) | refine Z8 ?_ | refine Z9 fun _ _ => ?_ | refine Za ‹_› ?_ | refine Zc ‹_› trivial ?_ | refine Zd ‹_› trivial ?_ | refine Ze ‹_› trivial ?_ | refine Zf ‹_› ?_ | refine Zm ‹_› ?_ | fail
      rw [wj]
      have je : j + 1 ≤ e := by
        refine Nat.lt_of_le_of_ne hj fun e1 => ?_
        subst e1
        rw [k6] at he
        cases he
      exact hQ.next (.one 6 0 0 t, ats ++ [(l.getD j Tk.z).t], j + 1) [(8, 4)] ⟨h3, je, ⟨.inl ⟨.inl rfl, rfl, rfl⟩, v1⟩, by simp [T.n, v2], by simp only [T.n]; omega⟩ (by show e - (j + 1) < e - j; omega) rfl (by simp only [↓reduceIte, reduceCtorEq, reduceEqDiff, reduceAdd, reduceMul, reduceSub, reduceLeDiff, reduceEq, reduceLT, reduceLE, go_sem]; simp [Tk.z])
    | postR k7 h3 =>
      have f6 : decide ((l.getD j Tk.z).k = 6) = false := decide_eq_false (by rw [show (l.getD j Tk.z).k = 7 from k7]; decide)
      have f7 : decide ((l.getD j Tk.z).k = 7) = true := decide_eq_true k7
      simp only [↓reduceIte, reduceCtorEq, reduceEqDiff, reduceAdd, reduceMul, reduceSub, reduceLeDiff, reduceEq, reduceLT, reduceLE, go_sem, f6]
      repeat' first | refine Z1 fun _ _ => ?_ | refine Z2 ‹_› ?_ | ((first | refine Z3 tb_ok lv30 rfl ?_ | refine ret_eq rfl ?_); simp only [↓reduceIte, reduceCtorEq, reduceEqDiff, reduceAdd, reduceMul, reduceSub, reduceLeDiff, reduceEq, reduceLT, reduceLE, go_sem]) | (refine Z5 rfl ?_; with_reducible first | refine condQ_T ?_ | refine condQ_F ?_) | refine Z8 ?_ | refine Z9 fun _ _ => ?_ | refine Za ‹_› ?_ | refine Zc ‹_› trivial ?_ | refine Zd ‹_› trivial ?_ | refine Ze ‹_› trivial ?_ | refine Zf ‹_› ?_ | refine Zm ‹_› ?_ | fail
      simp only [↓reduceIte, reduceCtorEq, reduceEqDiff, reduceAdd, reduceMul, reduceSub, reduceLeDiff, reduceEq, reduceLT, reduceLE, go_sem, f7]
      repeat' first | refine Z1 fun _ _ => ?_ | refine Z2 ‹_› ?_ | ((first | refine Z3 tb_ok lv30 rfl ?_ | refine ret_eq rfl ?_); simp only [↓reduceIte, reduceCtorEq, reduceEqDiff, reduceAdd, reduceMul, reduceSub, reduceLeDiff, reduceEq, reduceLT, reduceLE, go_sem]) | (refine Z5 rfl ?_; with_reducible first | refine condQ_T ?_ | refine condQ_F ?_) | refine Z8 ?_ | refine Z9 fun _ _ => ?_ | refine Za ‹_› ?_ | refine Zc ‹_› trivial ?_ | refine Zd ‹_› trivial ?_ | refine Ze ‹_› trivial ?_ | refine Zf ‹_› ?_ | refine Zm ‹_› ?_ | fail
      refine call_pure rfl rfl (c_pwrap (gl := gl) (a := t) (ats := ats) (t := l.getD j Tk.z) (k := 7) (p := (l.getD j Tk.z).t) (by omega) (by omega)) ?_; simp only [↓reduceIte, reduceCtorEq, reduceEqDiff, reduceAdd, reduceMul, reduceSub, reduceLeDiff, reduceEq, reduceLT, reduceLE, go_sem]
      repeat' first | refine Z1 fun _ _ => ?_ | refine Z2 ‹_› ?_ | ((first | refine Z3 tb_ok lv30 rfl ?_ | refine ret_eq rfl ?_); simp only [↓reduceIte, reduceCtorEq, reduceEqDiff, reduceAdd, reduceMul, reduceSub, reduceLeDiff, reduceEq, reduceLT, reduceLE, go_sem]) | (refine Z5 rfl ?_; with_reducible first | refine condQ_T ?_ | refine condQ_F ?_) | refine Z8 ?_ | refine Z9 fun _ _ => ?_ | refine Za ‹_› ?_ | refine Zc ‹_› trivial ?_ | refine Zd ‹_› trivial ?_ | refine Ze ‹_› trivial ?_ | refine Zf ‹_› ?_ | refine Zm ‹_› ?_ | fail
      rw [wj]
      have je : j + 1 ≤ e := by
        refine Nat.lt_of_le_of_ne hj fun e1 => ?_
        subst e1
        rw [k7] at he
        cases he
      exact hQ.next (.one 7 (l.getD j Tk.z).lo (l.getD j Tk.z).hi t, ats ++ [(l.getD j Tk.z).t], j + 1) [(8, 4)] ⟨h3, je, ⟨.inr ⟨rfl, (hok j).2 k7⟩, v1⟩, by simp [T.n, v2], by simp only [T.n]; omega⟩ (by show e - (j + 1) < e - j; omega) rfl (by simp only [↓reduceIte, reduceCtorEq, reduceEqDiff, reduceAdd, reduceMul, reduceSub, reduceLeDiff, reduceEq, reduceLT, reduceLE, go_sem]; simp)
end Go.Proofs.YtoidlnhgaaohdaaDoor
