/- parse: or. -/
import Derived.Test.YtoidlnhgaaohdaaDoorParH
namespace Go.Proofs.YtoidlnhgaaohdaaDoor
set_option linter.all false
open Go Go.RowKit
open Nat (reduceEqDiff reduceAdd reduceMul reduceSub reduceLeDiff)
open Int (reduceEq reduceLT reduceLE)

@[go_sem] def lv19 : List (Nat × List Nat) := [(0, [0, 2]), (1, [0, 2, 3]), (2, [0, 2, 3, 9]), (3, [0, 2, 3]), (4, [0, 2, 3]), (5, [2])]
def bs19 : List (Nat × List Nat × List Nat) := []
set_option maxHeartbeats 1000000 in
theorem c_or {l : List Tk} {i e : Nat} {os : List Int} {r : PR} (hl : l.length ≤ 400000) (hok : ∀ i, tkOk (tk l i)) (he : (tk l e).k = 10) (hel : e < l.length) (hi : i ≤ e) (ho : os.length ≤ 64)
    (ha : ∀ j r', i ≤ j → j ≤ e → Rel l .row j os r' → MB glU 24 l j os r') (h : Rel l .or i os r) : MB glU 19 l i os r := by
  cases h with
  | or2 h1 =>
    have hc := ha _ _ (Nat.le_refl _) hi h1
    refine PConB.enter tb_ok (fn := Tryd.f19) (by kernel_rfl) (by kernel_rfl) rfl (by show 1 ≤ 22; decide) ?_
    repeat' first | refine Z1 fun _ _ => ?_ | refine Z2 ‹_› ?_ | ((first | refine Z3 tb_ok lv19 rfl ?_ | refine Z4 tb_ok mix lv19 bs19 rfl (by kernel_rfl) rfl ?_ | refine ret_eq rfl ?_); simp only [↓reduceIte, reduceCtorEq, reduceEqDiff, reduceAdd, reduceMul, reduceSub, reduceLeDiff, reduceEq, reduceLT, reduceLE, go_sem]) | (refine Z5 rfl ?_; with_reducible first | refine condQ_T ?_ | refine condQ_F ?_) | refine Z6 ?_ | refine Z7 ?_ | refine Z8 ?_ | refine Z9 fun _ _ => ?_ | refine Za ‹_› ?_ | refine Zb ‹_› ?_ | refine Zc ‹_› trivial ?_ | refine Zd ‹_› trivial ?_ | refine Ze ‹_› trivial ?_ | refine Zf ‹_› ?_ | refine Zm ‹_› ?_ | refine Zl ‹_› (by decide) ?_ | refine touch_go rfl ?_ | refine eff_go rfl ?_ | refine And.intro (show List.all _ _ = true from rfl) ?_ | fail
    refine cb_pan (hc) rfl rfl rfl rfl rfl ?_; try simp only [↓reduceIte, reduceCtorEq, reduceEqDiff, reduceAdd, reduceMul, reduceSub, reduceLeDiff, reduceEq, reduceLT, reduceLE, go_sem]
    repeat' first | refine Z1 fun _ _ => ?_ | refine Z2 ‹_› ?_ | ((first | refine Z3 tb_ok lv19 rfl ?_ | refine Z4 tb_ok mix lv19 bs19 rfl (by kernel_rfl) rfl ?_ | refine ret_eq rfl ?_); simp only [↓reduceIte, reduceCtorEq, reduceEqDiff, reduceAdd, reduceMul, reduceSub, reduceLeDiff, reduceEq, reduceLT, reduceLE, go_sem]) | (refine Z5 rfl ?_; with_reducible first | refine condQ_T ?_ | refine condQ_F ?_) | refine Z6 ?_ | refine Z7 ?_ | refine Z8 ?_ | refine Z9 fun _ _ => ?_ | refine Za ‹_› ?_ | refine Zb ‹_› ?_ | refine Zc ‹_› trivial ?_ | refine Zd ‹_› trivial ?_ | refine Ze ‹_› trivial ?_ | refine Zf ‹_› ?_ | refine Zm ‹_› ?_ | refine Zl ‹_› (by decide) ?_ | refine touch_go rfl ?_ | refine eff_go rfl ?_ | refine And.intro (show List.all _ _ = true from rfl) ?_ | fail
    exact rfl
  | @or1 _ _ t ats j _ h1 h2 =>
    have hc := ha _ _ (Nat.le_refl _) hi h1
    obtain ⟨hij, hj, _⟩ := h1.within he hi
    obtain ⟨v1, v2, v3⟩ := h1.inv hok trivial
    simp only [PR.place, NT.spent] at hj v3 hij
    refine PConB.enter tb_ok (fn := Tryd.f19) (by kernel_rfl) (by kernel_rfl) rfl (by show 1 ≤ 22; decide) ?_
    repeat' first | refine Z1 fun _ _ => ?_ | refine Z2 ‹_› ?_ | ((first | refine Z3 tb_ok lv19 rfl ?_ | refine Z4 tb_ok mix lv19 bs19 rfl (by kernel_rfl) rfl ?_ | refine ret_eq rfl ?_); simp only [↓reduceIte, reduceCtorEq, reduceEqDiff, reduceAdd, reduceMul, reduceSub, reduceLeDiff, reduceEq, reduceLT, reduceLE, go_sem]) | (refine Z5 rfl ?_; with_reducible first | refine condQ_T ?_ | refine condQ_F ?_) | refine Z6 ?_ | refine Z7 ?_ | refine Z8 ?_ | refine Z9 fun _ _ => ?_ | refine Za ‹_› ?_ | refine Zb ‹_› ?_ | refine Zc ‹_› trivial ?_ | refine Zd ‹_› trivial ?_ | refine Ze ‹_› trivial ?_ | refine Zf ‹_› ?_ | refine Zm ‹_› ?_ | refine Zl ‹_› (by decide) ?_ | refine touch_go rfl ?_ | refine eff_go rfl ?_ | refine And.intro (show List.all _ _ = true from rfl) ?_ | fail
    refine cb_ret (hc) rfl rfl rfl rfl rfl ?_; simp only [↓reduceIte, reduceCtorEq, reduceEqDiff, reduceAdd, reduceMul, reduceSub, reduceLeDiff, reduceEq, reduceLT, reduceLE, go_sem]
    repeat' first | refine Z1 fun _ _ => ?_ | refine Z2 ‹_› ?_ | ((first | refine Z3 tb_ok lv19 rfl ?_ | refine Z4 tb_ok mix lv19 bs19 rfl (by kernel_rfl) rfl ?_ | refine ret_eq rfl ?_); simp only [↓reduceIte, reduceCtorEq, reduceEqDiff, reduceAdd, reduceMul, reduceSub, reduceLeDiff, reduceEq, reduceLT, reduceLE, go_sem]) | (refine Z5 rfl ?_; with_reducible first | refine condQ_T ?_ | refine condQ_F ?_) | refine Z6 ?_ | refine Z7 ?_ | refine Z8 ?_ | refine Z9 fun _ _ => ?_ | refine Za ‹_› ?_ | refine Zb ‹_› ?_ | refine Zc ‹_› trivial ?_ | refine Zd ‹_› trivial ?_ | refine Ze ‹_› trivial ?_ | refine Zf ‹_› ?_ | refine Zm ‹_› ?_ | refine Zl ‹_› (by decide) ?_ | refine touch_go rfl ?_ | refine eff_go rfl ?_ | refine And.intro (show List.all _ _ = true from rfl) ?_ | fail
    refine .loopS (α := T × List Int × Nat) (fun a => ⟨[(0, .ref 0 0), (2, .ref 2 0), (3, .ref 5 0)], [(5, .box true [.d (nds (a.1.flat 0)), .d (ints a.2.1)]), (0, .box false [.d (tks l), .d (.int .i64 a.2.2), .own 4, .d (.int .i64 0)]), (4, .row false 3 1 (irow os)), (2, .box true [.d .nils, .d .nils])], 7⟩)
      (fun a => Rel l (.orL a.1 a.2.1) a.2.2 os r ∧ (i ≤ a.2.2 ∧ a.2.2 ≤ e) ∧ a.1.ok txtOk ∧ a.2.1.length = a.1.n ∧ a.1.n + 1 ≤ 2 * a.2.2) (fun a => e - a.2.2) (t, ats, j) ⟨h2, ⟨hij, hj⟩, v1, v2, by show t.n + 1 ≤ 2 * j; omega⟩ [] rfl (by simp only [↓reduceIte, reduceCtorEq, reduceEqDiff, reduceAdd, reduceMul, reduceSub, reduceLeDiff, reduceEq, reduceLT, reduceLE, go_sem]; simp) ?_
    rintro ⟨t, ats, j⟩ ⟨h2, ⟨hij, hj⟩, v1, v2, v3⟩ Q hQ
    simp only at h2 hj v1 v2 v3 hij
    have hjl : j < l.length := by omega
    have nx := c_next (gl := glU) (os := os) (by omega) hjl
    have tn := t.n_pos
    cases h2 with
    | orN k =>
      have f : decide ((l.getD j Tk.z).k = 5) = false := decide_eq_false k
      simp only [↓reduceIte, reduceCtorEq, reduceEqDiff, reduceAdd, reduceMul, reduceSub, reduceLeDiff, reduceEq, reduceLT, reduceLE, go_sem]
      repeat' first | refine Z1 fun _ _ => ?_ | refine Z2 ‹_› ?_ | ((first | refine Z3 tb_ok lv19 rfl ?_ | refine Z4 tb_ok mix lv19 bs19 rfl (by kernel_rfl) rfl ?_ | refine ret_eq rfl ?_); simp only [↓reduceIte, reduceCtorEq, reduceEqDiff, reduceAdd, reduceMul, reduceSub, reduceLeDiff, reduceEq, reduceLT, reduceLE, go_sem]) | (refine Z5 rfl ?_; with_reducible first | refine condQ_T ?_ | refine condQ_F ?_) | refine Z6 ?_ | refine Z7 ?_ | refine Z8 ?_ | refine Z9 fun _ _ => ?_ | refine Za ‹_› ?_ | refine Zb ‹_› ?_ | refine Zc ‹_› trivial ?_ | refine Zd ‹_› trivial ?_ | refine Ze ‹_› trivial ?_ | refine Zf ‹_› ?_ | refine Zm ‹_› ?_ | refine Zl ‹_› (by decide) ?_ | refine touch_go rfl ?_ | refine eff_go rfl ?_ | refine And.intro (show List.all _ _ = true from rfl) ?_ | fail
      refine cb_ret (nx) rfl rfl rfl rfl rfl ?_; simp only [↓reduceIte, reduceCtorEq, reduceEqDiff, reduceAdd, reduceMul, reduceSub, reduceLeDiff, reduceEq, reduceLT, reduceLE, go_sem]
      repeat' first | refine Z1 fun _ _ => ?_ | refine Z2 ‹_› ?_ | ((first | refine Z3 tb_ok lv19 rfl ?_ | refine Z4 tb_ok mix lv19 bs19 rfl (by kernel_rfl) rfl ?_ | refine ret_eq rfl ?_); simp only [↓reduceIte, reduceCtorEq, reduceEqDiff, reduceAdd, reduceMul, reduceSub, reduceLeDiff, reduceEq, reduceLT, reduceLE, go_sem]) | (refine Z5 rfl ?_; with_reducible first | refine condQ_T ?_ | refine condQ_F ?_) | refine Z6 ?_ | refine Z7 ?_ | refine Z8 ?_ | refine Z9 fun _ _ => ?_ | refine Za ‹_› ?_ | refine Zb ‹_› ?_ | refine Zc ‹_› trivial ?_ | refine Zd ‹_› trivial ?_ | refine Ze ‹_› trivial ?_ | refine Zf ‹_› ?_ | refine Zm ‹_› ?_ | refine Zl ‹_› (by decide) ?_ | refine touch_go rfl ?_ | refine eff_go rfl ?_ | refine And.intro (show List.all _ _ = true from rfl) ?_ | fail
      simp only [↓reduceIte, reduceCtorEq, reduceEqDiff, reduceAdd, reduceMul, reduceSub, reduceLeDiff, reduceEq, reduceLT, reduceLE, go_sem, f]
      repeat' first | refine Z1 fun _ _ => ?_ | refine Z2 ‹_› ?_ | ((first | refine Z3 tb_ok lv19 rfl ?_ | refine Z4 tb_ok mix lv19 bs19 rfl (by kernel_rfl) rfl ?_ | refine ret_eq rfl ?_); simp only [↓reduceIte, reduceCtorEq, reduceEqDiff, reduceAdd, reduceMul, reduceSub, reduceLeDiff, reduceEq, reduceLT, reduceLE, go_sem]) | (refine Z5 rfl ?_; with_reducible first | refine condQ_T ?_ | refine condQ_F ?_) | refine Z6 ?_ | refine Z7 ?_ | refine Z8 ?_ | refine Z9 fun _ _ => ?_ | refine Za ‹_› ?_ | refine Zb ‹_› ?_ | refine Zc ‹_› trivial ?_ | refine Zd ‹_› trivial ?_ | refine Ze ‹_› trivial ?_ | refine Zf ‹_› ?_ | refine Zm ‹_› ?_ | refine Zl ‹_› (by decide) ?_ | refine touch_go rfl ?_ | refine eff_go rfl ?_ | refine And.intro (show List.all _ _ = true from rfl) ?_ | fail
      exact retB_ret 0 8 rfl rfl rfl rfl
    | @orY _ _ _ _ u bts m _ k h3 h4 =>
      have f : decide ((l.getD j Tk.z).k = 5) = true := decide_eq_true k
      have wj : IntKind.i64.wrap ((j : Int) + 1) = ((j + 1 : Nat) : Int) := wrap64 (by omega) (by omega)
      have je : j + 1 ≤ e := by
        refine Nat.lt_of_le_of_ne hj fun e1 => ?_
        subst e1
        rw [k] at he
        cases he
      have hc := ha _ _ (by omega) je h3
      simp only [↓reduceIte, reduceCtorEq, reduceEqDiff, reduceAdd, reduceMul, reduceSub, reduceLeDiff, reduceEq, reduceLT, reduceLE, go_sem]
      repeat' first | refine Z1 fun _ _ => ?_ | refine Z2 ‹_› ?_ | ((first | refine Z3 tb_ok lv19 rfl ?_ | refine Z4 tb_ok mix lv19 bs19 rfl (by kernel_rfl) rfl ?_ | refine ret_eq rfl ?_); simp only [↓reduceIte, reduceCtorEq, reduceEqDiff, reduceAdd, reduceMul, reduceSub, reduceLeDiff, reduceEq, reduceLT, reduceLE, go_sem]) | (refine Z5 rfl ?_; with_reducible first | refine condQ_T ?_ | refine condQ_F ?_) | refine Z6 ?_ | refine Z7 ?_ | refine Z8 ?_ | refine Z9 fun _ _ => ?_ | refine Za ‹_› ?_ | refine Zb ‹_› ?_ | refine Zc ‹_› trivial ?_ | refine Zd ‹_› trivial ?_ | refine Ze ‹_› trivial ?_ | refine Zf ‹_› ?_ | refine Zm ‹_› ?_ | refine Zl ‹_› (by decide) ?_ | refine touch_go rfl ?_ | refine eff_go rfl ?_ | refine And.intro (show List.all _ _ = true from rfl) ?_ | fail
      refine cb_ret (nx) rfl rfl rfl rfl rfl ?_; simp only [↓reduceIte, reduceCtorEq, reduceEqDiff, reduceAdd, reduceMul, reduceSub, reduceLeDiff, reduceEq, reduceLT, reduceLE, go_sem]
      repeat' first | refine Z1 fun _ _ => ?_ | refine Z2 ‹_› ?_ | ((first | refine Z3 tb_ok lv19 rfl ?_ | refine Z4 tb_ok mix lv19 bs19 rfl (by kernel_rfl) rfl ?_ | refine ret_eq rfl ?_); simp only [↓reduceIte, reduceCtorEq, reduceEqDiff, reduceAdd, reduceMul, reduceSub, reduceLeDiff, reduceEq, reduceLT, reduceLE, go_sem]) | (refine Z5 rfl ?_; with_reducible first | refine condQ_T ?_ | refine condQ_F ?_) | refine Z6 ?_ | refine Z7 ?_ | refine Z8 ?_ | refine Z9 fun _ _ => ?_ | refine Za ‹_› ?_ | refine Zb ‹_› ?_ | refine Zc ‹_› trivial ?_ | refine Zd ‹_› trivial ?_ | refine Ze ‹_› trivial ?_ | refine Zf ‹_› ?_ | refine Zm ‹_› ?_ | refine Zl ‹_› (by decide) ?_ | refine touch_go rfl ?_ | refine eff_go rfl ?_ | refine And.intro (show List.all _ _ = true from rfl) ?_ | fail
      simp only [↓reduceIte, reduceCtorEq, reduceEqDiff, reduceAdd, reduceMul, reduceSub, reduceLeDiff, reduceEq, reduceLT, reduceLE, go_sem, f]
      repeat' first | refine Z1 fun _ _ => ?_ | refine Z2 ‹_› ?_ | ((first | refine Z3 tb_ok lv19 rfl ?_ | refine Z4 tb_ok mix lv19 bs19 rfl (by kernel_rfl) rfl ?_ | refine ret_eq rfl ?_); simp only [↓reduceIte, reduceCtorEq, reduceEqDiff, reduceAdd, reduceMul, reduceSub, reduceLeDiff, reduceEq, reduceLT, reduceLE, go_sem]) | (refine Z5 rfl ?_; with_reducible first | refine condQ_T ?_ | refine condQ_F ?_) | refine Z6 ?_ | refine Z7 ?_ | refine Z8 ?_ | refine Z9 fun _ _ => ?_ | refine Za ‹_› ?_ | refine Zb ‹_› ?_ | refine Zc ‹_› trivial ?_ | refine Zd ‹_› trivial ?_ | refine Ze ‹_› trivial ?_ | refine Zf ‹_› ?_ | refine Zm ‹_› ?_ | refine Zl ‹_› (by decide) ?_ | refine touch_go rfl ?_ | refine eff_go rfl ?_ | refine And.intro (show List.all _ _ = true from rfl) ?_ | fail
      rw [wj]
      repeat' first | refine Z1 fun _ _ => ?_ | refine Z2 ‹_› ?_ | ((first | refine Z3 tb_ok lv19 rfl ?_ | refine Z4 tb_ok mix lv19 bs19 rfl (by kernel_rfl) rfl ?_ | refine ret_eq rfl ?_); simp only [↓reduceIte, reduceCtorEq, reduceEqDiff, reduceAdd, reduceMul, reduceSub, reduceLeDiff, reduceEq, reduceLT, reduceLE, go_sem]) | (refine Z5 rfl ?_; with_reducible first | refine condQ_T ?_ | refine condQ_F ?_) | refine Z6 ?_ | refine Z7 ?_ | refine Z8 ?_ | refine Z9 fun _ _ => ?_ | refine Za ‹_› ?_ | refine Zb ‹_› ?_ | refine Zc ‹_› trivial ?_ | refine Zd ‹_› trivial ?_ | refine Ze ‹_› trivial ?_ | refine Zf ‹_› ?_ | refine Zm ‹_› ?_ | refine Zl ‹_› (by decide) ?_ | refine touch_go rfl ?_ | refine eff_go rfl ?_ | refine And.intro (show List.all _ _ = true from rfl) ?_ | fail
      refine .regionA tb_ok mix [0, 2, 3] tree5 (by kernel_rfl) rfl ?_
      simp only [tree5]
      simp only [↓reduceIte, reduceCtorEq, reduceEqDiff, reduceAdd, reduceMul, reduceSub, reduceLeDiff, reduceEq, reduceLT, reduceLE, go_sem]
      obtain ⟨hjm, hm, _⟩ := h3.within he je
      obtain ⟨w1, w2, w3⟩ := h3.inv hok trivial
      have pr := (h3.within he je).2.2 rfl _ _ _ rfl
      simp only [PR.place, NT.spent] at hm w3 hjm
      have cp := c_ppair (a := t) (b := u) (ats := ats) (bts := bts) (k := 5) w1 (by omega) (by omega) (by omega) (by omega)
      refine ⟨?_, ?_, ?_⟩
      all_goals
        refine cb_ret (hc) rfl rfl rfl rfl rfl ?_; simp only [↓reduceIte, reduceCtorEq, reduceEqDiff, reduceAdd, reduceMul, reduceSub, reduceLeDiff, reduceEq, reduceLT, reduceLE, go_sem]
        refine call_pure rfl rfl (cp) ?_; simp only [↓reduceIte, reduceCtorEq, reduceEqDiff, reduceAdd, reduceMul, reduceSub, reduceLeDiff, reduceEq, reduceLT, reduceLE, go_sem]
        repeat' first | refine Z1 fun _ _ => ?_ | refine Z2 ‹_› ?_ | ((first | refine Z3 tb_ok lv19 rfl ?_ | refine Z4 tb_ok mix lv19 bs19 rfl (by kernel_rfl) rfl ?_ | refine ret_eq rfl ?_); simp only [↓reduceIte, reduceCtorEq, reduceEqDiff, reduceAdd, reduceMul, reduceSub, reduceLeDiff, reduceEq, reduceLT, reduceLE, go_sem]) | (refine Z5 rfl ?_; with_reducible first | refine condQ_T ?_ | refine condQ_F ?_) | refine Z6 ?_ | refine Z7 ?_ | refine Z8 ?_ | refine Z9 fun _ _ => ?_ | refine Za ‹_› ?_ | refine Zb ‹_› ?_ | refine Zc ‹_› trivial ?_ | refine Zd ‹_› trivial ?_ | refine Ze ‹_› trivial ?_ | refine Zf ‹_› ?_ | refine Zm ‹_› ?_ | refine Zl ‹_› (by decide) ?_ | refine touch_go rfl ?_ | refine eff_go rfl ?_ | refine And.intro (show List.all _ _ = true from rfl) ?_ | fail
        first
          | exact hQ.next (.two 5 t u, ats ++ bts ++ [-1], m) [(20, 4)] ⟨h4, ⟨by show i ≤ m; omega, hm⟩, ⟨.inr rfl, v1, w1⟩, by simp [T.n, v2, w2]; omega, by simp only [T.n]; omega⟩ (by show e - m < e - j; omega) rfl (by simp only [↓reduceIte, reduceCtorEq, reduceEqDiff, reduceAdd, reduceMul, reduceSub, reduceLeDiff, reduceEq, reduceLT, reduceLE, go_sem]; simp)
          | exact hQ.next (.two 5 t u, ats ++ bts ++ [-1], m) [(21, 4)] ⟨h4, ⟨by show i ≤ m; omega, hm⟩, ⟨.inr rfl, v1, w1⟩, by simp [T.n, v2, w2]; omega, by simp only [T.n]; omega⟩ (by show e - m < e - j; omega) rfl (by simp only [↓reduceIte, reduceCtorEq, reduceEqDiff, reduceAdd, reduceMul, reduceSub, reduceLeDiff, reduceEq, reduceLT, reduceLE, go_sem]; simp)
    | orX k h3 =>
      have f : decide ((l.getD j Tk.z).k = 5) = true := decide_eq_true k
      have wj : IntKind.i64.wrap ((j : Int) + 1) = ((j + 1 : Nat) : Int) := wrap64 (by omega) (by omega)
      have je : j + 1 ≤ e := by
        refine Nat.lt_of_le_of_ne hj fun e1 => ?_
        subst e1
        rw [k] at he
        cases he
      have hc := ha _ _ (by omega) je h3
      simp only [↓reduceIte, reduceCtorEq, reduceEqDiff, reduceAdd, reduceMul, reduceSub, reduceLeDiff, reduceEq, reduceLT, reduceLE, go_sem]
      repeat' first | refine Z1 fun _ _ => ?_ | refine Z2 ‹_› ?_ | ((first | refine Z3 tb_ok lv19 rfl ?_ | refine Z4 tb_ok mix lv19 bs19 rfl (by kernel_rfl) rfl ?_ | refine ret_eq rfl ?_); simp only [↓reduceIte, reduceCtorEq, reduceEqDiff, reduceAdd, reduceMul, reduceSub, reduceLeDiff, reduceEq, reduceLT, reduceLE, go_sem]) | (refine Z5 rfl ?_; with_reducible first | refine condQ_T ?_ | refine condQ_F ?_) | refine Z6 ?_ | refine Z7 ?_ | refine Z8 ?_ | refine Z9 fun _ _ => ?_ | refine Za ‹_› ?_ | refine Zb ‹_› ?_ | refine Zc ‹_› trivial ?_ | refine Zd ‹_› trivial ?_ | refine Ze ‹_› trivial ?_ | refine Zf ‹_› ?_ | refine Zm ‹_› ?_ | refine Zl ‹_› (by decide) ?_ | refine touch_go rfl ?_ | refine eff_go rfl ?_ | refine And.intro (show List.all _ _ = true from rfl) ?_ | fail
      refine cb_ret (nx) rfl rfl rfl rfl rfl ?_; simp only [↓reduceIte, reduceCtorEq, reduceEqDiff, reduceAdd, reduceMul, reduceSub, reduceLeDiff, reduceEq, reduceLT, reduceLE, go_sem]
      repeat' first | refine Z1 fun _ _ => ?_ | refine Z2 ‹_› ?_ | ((first | refine Z3 tb_ok lv19 rfl ?_ | refine Z4 tb_ok mix lv19 bs19 rfl (by kernel_rfl) rfl ?_ | refine ret_eq rfl ?_); simp only [↓reduceIte, reduceCtorEq, reduceEqDiff, reduceAdd, reduceMul, reduceSub, reduceLeDiff, reduceEq, reduceLT, reduceLE, go_sem]) | (refine Z5 rfl ?_; with_reducible first | refine condQ_T ?_ | refine condQ_F ?_) | refine Z6 ?_ | refine Z7 ?_ | refine Z8 ?_ | refine Z9 fun _ _ => ?_ | refine Za ‹_› ?_ | refine Zb ‹_› ?_ | refine Zc ‹_› trivial ?_ | refine Zd ‹_› trivial ?_ | refine Ze ‹_› trivial ?_ | refine Zf ‹_› ?_ | refine Zm ‹_› ?_ | refine Zl ‹_› (by decide) ?_ | refine touch_go rfl ?_ | refine eff_go rfl ?_ | refine And.intro (show List.all _ _ = true from rfl) ?_ | fail
      simp only [↓reduceIte, reduceCtorEq, reduceEqDiff, reduceAdd, reduceMul, reduceSub, reduceLeDiff, reduceEq, reduceLT, reduceLE, go_sem, f]
      repeat' first | refine Z1 fun _ _ => ?_ | refine Z2 ‹_› ?_ | ((first | refine Z3 tb_ok lv19 rfl ?_ | refine Z4 tb_ok mix lv19 bs19 rfl (by kernel_rfl) rfl ?_ | refine ret_eq rfl ?_); simp only [↓reduceIte, reduceCtorEq, reduceEqDiff, reduceAdd, reduceMul, reduceSub, reduceLeDiff, reduceEq, reduceLT, reduceLE, go_sem]) | (refine Z5 rfl ?_; with_reducible first | refine condQ_T ?_ | refine condQ_F ?_) | refine Z6 ?_ | refine Z7 ?_ | refine Z8 ?_ | refine Z9 fun _ _ => ?_ | refine Za ‹_› ?_ | refine Zb ‹_› ?_ | refine Zc ‹_› trivial ?_ | refine Zd ‹_› trivial ?_ | refine Ze ‹_› trivial ?_ | refine Zf ‹_› ?_ | refine Zm ‹_› ?_ | refine Zl ‹_› (by decide) ?_ | refine touch_go rfl ?_ | refine eff_go rfl ?_ | refine And.intro (show List.all _ _ = true from rfl) ?_ | fail
      rw [wj]
      repeat' first | refine Z1 fun _ _ => ?_ | refine Z2 ‹_› ?_ | ((first | refine Z3 tb_ok lv19 rfl ?_ | refine Z4 tb_ok mix lv19 bs19 rfl (by kernel_rfl) rfl ?_ | refine ret_eq rfl ?_); simp only [↓reduceIte, reduceCtorEq, reduceEqDiff, reduceAdd, reduceMul, reduceSub, reduceLeDiff, reduceEq, reduceLT, reduceLE, go_sem]) | (refine Z5 rfl ?_; with_reducible first | refine condQ_T ?_ | refine condQ_F ?_) | refine Z6 ?_ | refine Z7 ?_ | refine Z8 ?_ | refine Z9 fun _ _ => ?_ | refine Za ‹_› ?_ | refine Zb ‹_› ?_ | refine Zc ‹_› trivial ?_ | refine Zd ‹_› trivial ?_ | refine Ze ‹_› trivial ?_ | refine Zf ‹_› ?_ | refine Zm ‹_› ?_ | refine Zl ‹_› (by decide) ?_ | refine touch_go rfl ?_ | refine eff_go rfl ?_ | refine And.intro (show List.all _ _ = true from rfl) ?_ | fail
      refine .regionA tb_ok mix [0, 2, 3] tree5 (by kernel_rfl) rfl ?_
      simp only [tree5]
      simp only [↓reduceIte, reduceCtorEq, reduceEqDiff, reduceAdd, reduceMul, reduceSub, reduceLeDiff, reduceEq, reduceLT, reduceLE, go_sem]
      refine ⟨?_, ?_, ?_⟩
      all_goals
        refine cb_pan (hc) rfl rfl rfl rfl rfl ?_; try simp only [↓reduceIte, reduceCtorEq, reduceEqDiff, reduceAdd, reduceMul, reduceSub, reduceLeDiff, reduceEq, reduceLT, reduceLE, go_sem]
        repeat' first | refine Z1 fun _ _ => ?_ | refine Z2 ‹_› ?_ | ((first | refine Z3 tb_ok lv19 rfl ?_ | refine Z4 tb_ok mix lv19 bs19 rfl (by kernel_rfl) rfl ?_ | refine ret_eq rfl ?_); simp only [↓reduceIte, reduceCtorEq, reduceEqDiff, reduceAdd, reduceMul, reduceSub, reduceLeDiff, reduceEq, reduceLT, reduceLE, go_sem]) | (refine Z5 rfl ?_; with_reducible first | refine condQ_T ?_ | refine condQ_F ?_) | refine Z6 ?_ | refine Z7 ?_ | refine Z8 ?_ | refine Z9 fun _ _ => ?_ | refine Za ‹_› ?_ | refine Zb ‹_› ?_ | refine Zc ‹_› trivial ?_ | refine Zd ‹_› trivial ?_ | refine Ze ‹_› trivial ?_ | refine Zf ‹_› ?_ | refine Zm ‹_› ?_ | refine Zl ‹_› (by decide) ?_ | refine touch_go rfl ?_ | refine eff_go rfl ?_ | refine And.intro (show List.all _ _ = true from rfl) ?_ | fail
        exact rfl
/-- All of them. -/
theorem c_all {l : List Tk} {e : Nat} (hl : l.length ≤ 400000) (hok : ∀ i, tkOk (tk l i)) (he : (tk l e).k = 10) (hel : e < l.length) : ∀ (n i : Nat) (os : List Int) (r : PR), e - i = n → i ≤ e → os.length ≤ 64 → Rel l .or i os r → MB glU 19 l i os r := by
  intro n
  induction n using Nat.strongRecOn with
  | _ n ih =>
    intro i os r hn hi ho h
    have hg : ∀ j r', i ≤ j → j ≤ e → Rel l .group j os r' → MB glU 51 l j os r' := fun j r' h1 h2 h3 =>
      c_group (by omega) he hel h2 ho (fun os' r2 h4 h5 h6 => ih (e - (j + 1)) (by omega) (j + 1) os' r2 rfl h4 h5 h6) h3
    have ha : ∀ j r', i ≤ j → j ≤ e → Rel l .atom j os r' → MB glU 40 l j os r' := fun j r' h1 h2 h3 =>
      c_atom hl hok he hel h2 ho (fun k r2 h4 h5 h6 => hg k r2 (by omega) h5 h6) h3
    have hp : ∀ j r', i ≤ j → j ≤ e → Rel l .post j os r' → MB glU 30 l j os r' := fun j r' h1 h2 h3 =>
      c_post hl hok he hel h2 ho (fun r2 h6 => ha j r2 h1 h2 h6) h3
    have hr : ∀ j r', i ≤ j → j ≤ e → Rel l .row j os r' → MB glU 24 l j os r' := fun j r' h1 h2 h3 =>
      c_row hl hok he hel h2 ho (fun k r2 h4 h5 h6 => hp k r2 (by omega) h5 h6) h3
    exact c_or hl hok he hel hi ho (fun k r2 h4 h5 h6 => hr k r2 h4 h5 h6) h
end Go.Proofs.YtoidlnhgaaohdaaDoor
