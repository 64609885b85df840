/- parse: group. -/
import Derived.Test.YtoidlnhgaaohdaaDoorParD
namespace Go.Proofs.YtoidlnhgaaohdaaDoor
set_option linter.all false
open Go Go.RowKit
open Nat (reduceEqDiff reduceAdd reduceMul reduceSub reduceLeDiff)
open Int (reduceEq reduceLT reduceLE)

def PR.place : PR → Nat
  | .ok _ _ j => j
  | .bad _ _ j => j
def NT.isL : NT → Bool
  | .orL .. | .rowL .. | .postL .. => true
  | _ => false
theorem halt_place {l : List Tk} {i : Nat} {os : List Int} : (halt l i os).place = i := by unfold halt; split <;> rfl
theorem halt_ok {l : List Tk} {i : Nat} {os : List Int} {t : T} {ats : List Int} {j : Nat} : halt l i os ≠ .ok t ats j := by unfold halt; split <;> simp
/-- The end stays ahead. -/
theorem Rel.within {l : List Tk} {e : Nat} (he : (tk l e).k = 10) {x : NT} {i : Nat} {os : List Int} {r : PR} (h : Rel l x i os r) : i ≤ e → i ≤ r.place ∧ r.place ≤ e ∧ (x.isL = false → ∀ t ats j, r = .ok t ats j → i < j) := by
  have ne : ∀ {i : Nat} {k : Int}, i ≤ e → (tk l i).k = k → k ≠ 10 → i + 1 ≤ e := fun {i k} h1 h2 h3 => by
    rcases Nat.lt_or_eq_of_le h1 with h | h
    · exact h
    · subst h; exact absurd (h2.symm.trans he) h3
  have nb : ∀ {i : Nat}, i ≤ e → begs (tk l i) → i + 1 ≤ e := fun {i} h1 h2 => by
    rcases Nat.lt_or_eq_of_le h1 with h | h
    · exact h
    · subst h; simp [begs, he] at h2
  induction h with
  | or1 h1 h2 ih1 ih2 | row1 h1 h2 ih1 ih2 | post1 h1 h2 ih1 ih2 =>
    intro hi
    obtain ⟨a1, a2, a3⟩ := ih1 hi
    obtain ⟨b1, b2, b3⟩ := ih2 a2
    have := a3 rfl _ _ _ rfl
    simp only [PR.place] at *
    exact ⟨by omega, b2, fun _ t ats j e => by subst e; simp only at *; omega⟩
  | or2 h1 ih1 | row2 h1 ih1 | post2 h1 ih1 => exact fun hi => ⟨(ih1 hi).1, (ih1 hi).2.1, fun _ _ _ _ e => by cases e⟩
  | orN | rowN | postN => exact fun hi => ⟨Nat.le_refl _, hi, fun e => by simp [NT.isL] at e⟩
  | orY hk h1 h2 ih1 ih2 =>
    intro hi
    obtain ⟨a1, a2, a3⟩ := ih1 (ne hi hk (by decide))
    obtain ⟨b1, b2, b3⟩ := ih2 a2
    simp only [PR.place] at *
    exact ⟨by omega, b2, fun e => by simp [NT.isL] at e⟩
  | orX hk h1 ih1 => exact fun hi => ⟨by have := (ih1 (ne hi hk (by decide))).1; omega, (ih1 (ne hi hk (by decide))).2.1, fun _ _ _ _ e => by cases e⟩
  | rowY hk h1 h2 ih1 ih2 =>
    intro hi
    obtain ⟨a1, a2, a3⟩ := ih1 hi
    obtain ⟨b1, b2, b3⟩ := ih2 a2
    simp only [PR.place] at *
    exact ⟨by omega, b2, fun e => by simp [NT.isL] at e⟩
  | rowX hk h1 ih1 => exact fun hi => ⟨(ih1 hi).1, (ih1 hi).2.1, fun _ _ _ _ e => by cases e⟩
  | postS hk h1 ih1 | postR hk h1 ih1 => exact fun hi => ⟨by have := (ih1 (ne hi hk (by decide))).1; omega, (ih1 (ne hi hk (by decide))).2.1, fun e => by simp [NT.isL] at e⟩
  | atomG hk h1 ih1 => exact ih1
  | atomB hk | atomT hk => exact fun hi => ⟨Nat.le_succ _, ne hi hk (by decide), fun _ _ _ _ e => by cases e; omega⟩
  | atomF hk hk2 h1 ih1 =>
    intro hi
    obtain ⟨a1, a2, a3⟩ := ih1 (ne hi hk2 (by omega))
    simp only [PR.place] at *
    exact ⟨by omega, a2, fun _ _ _ _ e => by cases e; omega⟩
  | atomX hk hk2 h1 ih1 => exact fun hi => ⟨by have := (ih1 (ne hi hk2 (by omega))).1; omega, (ih1 (ne hi hk2 (by omega))).2.1, fun _ _ _ _ e => by cases e⟩
  | atomS | groupS => exact fun hi => by rw [halt_place]; exact ⟨Nat.le_refl _, hi, fun _ _ _ _ e => absurd e halt_ok⟩
  | groupD => exact fun hi => ⟨Nat.le_refl _, hi, fun _ _ _ _ e => by cases e⟩
  | groupE hk h1 h2 => exact fun hi => ⟨by simp only [PR.place]; omega, ne (ne hi hk (by decide)) h2 (by decide), fun _ _ _ _ e => by cases e; omega⟩
  | group1 hk h1 h2 h3 h4 ih =>
    intro hi
    obtain ⟨a1, a2, a3⟩ := ih (ne hi hk (by decide))
    simp only [PR.place] at *
    exact ⟨by omega, ne a2 h4 (by decide), fun _ _ _ _ e => by cases e; omega⟩
  | groupZ hk h1 h2 h3 h4 ih =>
    intro hi
    obtain ⟨a1, a2, a3⟩ := ih (ne hi hk (by decide))
    rw [halt_place]
    simp only [PR.place] at *
    exact ⟨by omega, a2, fun _ _ _ _ e => absurd e halt_ok⟩
  | group2 hk h1 h2 h3 ih =>
    intro hi
    obtain ⟨a1, a2, a3⟩ := ih (ne hi hk (by decide))
    simp only [PR.place] at *
    exact ⟨by omega, a2, fun _ _ _ _ e => by cases e⟩

/-- How a method ends. -/
def toEnd (l : List Tk) (os : List Int) : PR → PEnd
  | .ok t ats j => .ret (part (t.flat 0) ats) (pcells l j) (irow os)
  | .bad w a _ => .panic (flt w a)
theorem halt_end {l : List Tk} {i : Nat} {os os' : List Int} : toEnd l os' (halt l i os) = .panic (stopAt l i os) := by
  unfold halt stopAt tk
  split <;> rfl
def MB (gl : List (Nat × List D)) (f : Nat) (l : List Tk) (i : Nat) (os : List Int) (r : PR) : Prop := PConB Tryd.prog gl f [] (pcells l i) 3 1 (irow os) (toEnd l os r)

@[go_sem] def lv51 : List (Nat × List Nat) := [(0, [0, 2]), (1, [0, 2, 3]), (2, [0, 2, 3]), (3, [0, 2, 3, 23]), (4, [0, 2]), (5, [0, 2, 4]), (6, [0, 2, 4, 33]), (7, [0, 2, 4]), (8, [0, 2, 4]), (9, [2, 4]), (10, [2])]
def bs51 : List (Nat × List Nat × List Nat) := [(2, [0, 0, 2, 6, 14, 0, 32, 96, 254, 511, 1023, 2047], [8, 11]), (9, [0, 0, 2, 6, 14, 0, 32, 96, 224, 480, 992, 2046, 4095, 8191, 16383], [11, 14])]
theorem c_group {gl} {l : List Tk} {i e : Nat} {os : List Int} {r : PR} (hl : l.length ≤ 1048576) (he : (tk l e).k = 10) (hel : e < l.length) (hi : i ≤ e) (ho : os.length ≤ 64)
    (hor : ∀ os' r', i + 1 ≤ e → os'.length ≤ 64 → Rel l .or (i + 1) os' r' → MB gl 19 l (i + 1) os' r') (h : Rel l .group i os r) : MB gl 51 l i os r := by
  have hil : i < l.length := by omega
  have take : ∀ {j k os}, j < l.length → List.length os ≤ 1048576 → (tk l j).k = k → _ := fun {j k os} h1 h2 h3 => c_take (gl := gl) (os := os) (k := k) hl h1 h2 h3
  have takeX : ∀ {j k os}, j < l.length → List.length os ≤ 1048576 → (tk l j).k ≠ k → _ := fun {j k os} h1 h2 h3 => c_takeX (gl := gl) (os := os) (k := k) hl h1 h2 h3
  cases h with
  | groupS hk =>
    rw [MB, halt_end]
    refine PConB.enter tb_ok (fn := Tryd.f51) (by kernel_rfl) (by kernel_rfl) rfl (by show 1 ≤ 53; decide) ?_
    repeat' first | refine Z1 fun _ _ => ?_ | refine Z2 ‹_› ?_ | ((first | refine Z3 tb_ok lv51 rfl ?_ | refine Z4 tb_ok mix lv51 bs51 rfl (by kernel_rfl) rfl ?_ | refine ret_eq rfl ?_); simp only [↓reduceIte, reduceCtorEq, reduceEqDiff, reduceAdd, reduceMul, reduceSub, reduceLeDiff, reduceEq, reduceLT, reduceLE, go_sem]) | (refine Z5 rfl ?_; with_reducible first | refine condQ_T ?_ | refine condQ_F ?_) | refine Z6 ?_ | refine Z8 ?_ | refine Zc ‹_› trivial ?_ | refine touch_go rfl ?_ | refine eff_go rfl ?_ | refine And.intro (show List.all _ _ = true from rfl) ?_ | fail
    refine cb_pan (takeX (os := os) hil (by omega) hk) rfl rfl rfl rfl rfl ?_; try simp only [↓reduceIte, reduceCtorEq, reduceEqDiff, reduceAdd, reduceMul, reduceSub, reduceLeDiff, reduceEq, reduceLT, reduceLE, go_sem]
    repeat' first | refine Z1 fun _ _ => ?_ | refine Z2 ‹_› ?_ | ((first | refine Z3 tb_ok lv51 rfl ?_ | refine Z4 tb_ok mix lv51 bs51 rfl (by kernel_rfl) rfl ?_ | refine ret_eq rfl ?_); simp only [↓reduceIte, reduceCtorEq, reduceEqDiff, reduceAdd, reduceMul, reduceSub, reduceLeDiff, reduceEq, reduceLT, reduceLE, go_sem]) | (refine Z5 rfl ?_; with_reducible first | refine condQ_T ?_ | refine condQ_F ?_) | refine Z6 ?_ | refine Z8 ?_ | refine Zc ‹_› trivial ?_ | refine touch_go rfl ?_ | refine eff_go rfl ?_ | refine And.intro (show List.all _ _ = true from rfl) ?_ | fail
    exact rfl
  | groupD hk h64 =>
    have e1 : ∀ a : Int, (List.map (fun x => [D.int .i64 x]) os ++ [[D.int .i64 a]]) = List.map (fun x => [D.int .i64 x]) (os ++ [a]) := fun a => by simp
    refine PConB.enter tb_ok (fn := Tryd.f51) (by kernel_rfl) (by kernel_rfl) rfl (by show 1 ≤ 53; decide) ?_
    repeat' first | refine Z1 fun _ _ => ?_ | refine Z2 ‹_› ?_ | ((first | refine Z3 tb_ok lv51 rfl ?_ | refine Z4 tb_ok mix lv51 bs51 rfl (by kernel_rfl) rfl ?_ | refine ret_eq rfl ?_); simp only [↓reduceIte, reduceCtorEq, reduceEqDiff, reduceAdd, reduceMul, reduceSub, reduceLeDiff, reduceEq, reduceLT, reduceLE, go_sem]) | (refine Z5 rfl ?_; with_reducible first | refine condQ_T ?_ | refine condQ_F ?_) | refine Z6 ?_ | refine Z8 ?_ | refine Zc ‹_› trivial ?_ | refine touch_go rfl ?_ | refine eff_go rfl ?_ | refine And.intro (show List.all _ _ = true from rfl) ?_ | fail
    refine cb_ret (take (os := os) hil (by omega) hk) rfl rfl rfl rfl rfl ?_; simp only [↓reduceIte, reduceCtorEq, reduceEqDiff, reduceAdd, reduceMul, reduceSub, reduceLeDiff, reduceEq, reduceLT, reduceLE, go_sem]
    repeat' first | refine Z1 fun _ _ => ?_ | refine Z2 ‹_› ?_ | ((first | refine Z3 tb_ok lv51 rfl ?_ | refine Z4 tb_ok mix lv51 bs51 rfl (by kernel_rfl) rfl ?_ | refine ret_eq rfl ?_); simp only [↓reduceIte, reduceCtorEq, reduceEqDiff, reduceAdd, reduceMul, reduceSub, reduceLeDiff, reduceEq, reduceLT, reduceLE, go_sem]) | (refine Z5 rfl ?_; with_reducible first | refine condQ_T ?_ | refine condQ_F ?_) | refine Z6 ?_ | refine Z8 ?_ | refine Zc ‹_› trivial ?_ | refine touch_go rfl ?_ | refine eff_go rfl ?_ | refine And.intro (show List.all _ _ = true from rfl) ?_ | fail
    refine ⟨fun e he => by rw [he]; rfl, by omega, by omega, ?_⟩
    simp only [↓reduceIte, reduceCtorEq, reduceEqDiff, reduceAdd, reduceMul, reduceSub, reduceLeDiff, reduceEq, reduceLT, reduceLE, go_sem, e1]
    repeat' first | refine Z1 fun _ _ => ?_ | refine Z2 ‹_› ?_ | ((first | refine Z3 tb_ok lv51 rfl ?_ | refine Z4 tb_ok mix lv51 bs51 rfl (by kernel_rfl) rfl ?_ | refine ret_eq rfl ?_); simp only [↓reduceIte, reduceCtorEq, reduceEqDiff, reduceAdd, reduceMul, reduceSub, reduceLeDiff, reduceEq, reduceLT, reduceLE, go_sem]) | (refine Z5 rfl ?_; with_reducible first | refine condQ_T ?_ | refine condQ_F ?_) | refine Z6 ?_ | refine Z8 ?_ | refine Zc ‹_› trivial ?_ | refine touch_go rfl ?_ | refine eff_go rfl ?_ | refine And.intro (show List.all _ _ = true from rfl) ?_ | fail
    have e2 : decide ((64 : Int) < ((os ++ [(l.getD i Tk.z).t]).length : Nat)) = true := by simp; omega
    simp only [↓reduceIte, reduceCtorEq, reduceEqDiff, reduceAdd, reduceMul, reduceSub, reduceLeDiff, reduceEq, reduceLT, reduceLE, go_sem, e2]
    repeat' first | refine Z1 fun _ _ => ?_ | refine Z2 ‹_› ?_ | ((first | refine Z3 tb_ok lv51 rfl ?_ | refine Z4 tb_ok mix lv51 bs51 rfl (by kernel_rfl) rfl ?_ | refine ret_eq rfl ?_); simp only [↓reduceIte, reduceCtorEq, reduceEqDiff, reduceAdd, reduceMul, reduceSub, reduceLeDiff, reduceEq, reduceLT, reduceLE, go_sem]) | (refine Z5 rfl ?_; with_reducible first | refine condQ_T ?_ | refine condQ_F ?_) | refine Z6 ?_ | refine Z8 ?_ | refine Zc ‹_› trivial ?_ | refine touch_go rfl ?_ | refine eff_go rfl ?_ | refine And.intro (show List.all _ _ = true from rfl) ?_ | fail
    exact rfl
  | groupE hk h64 hn =>
    have e1 : ∀ a : Int, (List.map (fun x => [D.int .i64 x]) os ++ [[D.int .i64 a]]) = List.map (fun x => [D.int .i64 x]) (os ++ [a]) := fun a => by simp
    have ol : (os ++ [(l.getD i Tk.z).t]).length = os.length + 1 := by simp
    have e2 : decide ((64 : Int) < ((os ++ [(l.getD i Tk.z).t]).length : Nat)) = false := by rw [ol]; simp; omega
    have wr : IntKind.i64.wrap (((os ++ [(l.getD i Tk.z).t]).length : Nat) - 1) = (os.length : Int) := by rw [wrap64 (by omega) (by omega), ol]; omega
    have tke : List.take (os.length : Int).toNat (List.map (fun x => [D.int .i64 x]) (os ++ [(l.getD i Tk.z).t])) = List.map (fun x => [D.int .i64 x]) os := by simp
    have hie : i + 1 ≤ e := by
      refine Nat.lt_of_le_of_ne hi fun e1 => ?_
      subst e1
      rw [hk] at he
      cases he
    have hi1 : i + 1 < l.length := by omega
    refine PConB.enter tb_ok (fn := Tryd.f51) (by kernel_rfl) (by kernel_rfl) rfl (by show 1 ≤ 53; decide) ?_
    repeat' first | refine Z1 fun _ _ => ?_ | refine Z2 ‹_› ?_ | ((first | refine Z3 tb_ok lv51 rfl ?_ | refine Z4 tb_ok mix lv51 bs51 rfl (by kernel_rfl) rfl ?_ | refine ret_eq rfl ?_); simp only [↓reduceIte, reduceCtorEq, reduceEqDiff, reduceAdd, reduceMul, reduceSub, reduceLeDiff, reduceEq, reduceLT, reduceLE, go_sem]) | (refine Z5 rfl ?_; with_reducible first | refine condQ_T ?_ | refine condQ_F ?_) | refine Z6 ?_ | refine Z8 ?_ | refine Zc ‹_› trivial ?_ | refine touch_go rfl ?_ | refine eff_go rfl ?_ | refine And.intro (show List.all _ _ = true from rfl) ?_ | fail
    refine cb_ret (take (os := os) hil (by omega) hk) rfl rfl rfl rfl rfl ?_; simp only [↓reduceIte, reduceCtorEq, reduceEqDiff, reduceAdd, reduceMul, reduceSub, reduceLeDiff, reduceEq, reduceLT, reduceLE, go_sem]
    repeat' first | refine Z1 fun _ _ => ?_ | refine Z2 ‹_› ?_ | ((first | refine Z3 tb_ok lv51 rfl ?_ | refine Z4 tb_ok mix lv51 bs51 rfl (by kernel_rfl) rfl ?_ | refine ret_eq rfl ?_); simp only [↓reduceIte, reduceCtorEq, reduceEqDiff, reduceAdd, reduceMul, reduceSub, reduceLeDiff, reduceEq, reduceLT, reduceLE, go_sem]) | (refine Z5 rfl ?_; with_reducible first | refine condQ_T ?_ | refine condQ_F ?_) | refine Z6 ?_ | refine Z8 ?_ | refine Zc ‹_› trivial ?_ | refine touch_go rfl ?_ | refine eff_go rfl ?_ | refine And.intro (show List.all _ _ = true from rfl) ?_ | fail
    refine ⟨fun e he => by rw [he]; rfl, by omega, by omega, ?_⟩
    simp only [↓reduceIte, reduceCtorEq, reduceEqDiff, reduceAdd, reduceMul, reduceSub, reduceLeDiff, reduceEq, reduceLT, reduceLE, go_sem, e1]
    repeat' first | refine Z1 fun _ _ => ?_ | refine Z2 ‹_› ?_ | ((first | refine Z3 tb_ok lv51 rfl ?_ | refine Z4 tb_ok mix lv51 bs51 rfl (by kernel_rfl) rfl ?_ | refine ret_eq rfl ?_); simp only [↓reduceIte, reduceCtorEq, reduceEqDiff, reduceAdd, reduceMul, reduceSub, reduceLeDiff, reduceEq, reduceLT, reduceLE, go_sem]) | (refine Z5 rfl ?_; with_reducible first | refine condQ_T ?_ | refine condQ_F ?_) | refine Z6 ?_ | refine Z8 ?_ | refine Zc ‹_› trivial ?_ | refine touch_go rfl ?_ | refine eff_go rfl ?_ | refine And.intro (show List.all _ _ = true from rfl) ?_ | fail
    simp only [↓reduceIte, reduceCtorEq, reduceEqDiff, reduceAdd, reduceMul, reduceSub, reduceLeDiff, reduceEq, reduceLT, reduceLE, go_sem, e2]
    repeat' first | refine Z1 fun _ _ => ?_ | refine Z2 ‹_› ?_ | ((first | refine Z3 tb_ok lv51 rfl ?_ | refine Z4 tb_ok mix lv51 bs51 rfl (by kernel_rfl) rfl ?_ | refine ret_eq rfl ?_); simp only [↓reduceIte, reduceCtorEq, reduceEqDiff, reduceAdd, reduceMul, reduceSub, reduceLeDiff, reduceEq, reduceLT, reduceLE, go_sem]) | (refine Z5 rfl ?_; with_reducible first | refine condQ_T ?_ | refine condQ_F ?_) | refine Z6 ?_ | refine Z8 ?_ | refine Zc ‹_› trivial ?_ | refine touch_go rfl ?_ | refine eff_go rfl ?_ | refine And.intro (show List.all _ _ = true from rfl) ?_ | fail
    refine call_pure rfl rfl (c_leaf ⟨1, 0, 0, 0, 0, 0, 0, 0, 0, .empty⟩) ?_; simp only [↓reduceIte, reduceCtorEq, reduceEqDiff, reduceAdd, reduceMul, reduceSub, reduceLeDiff, reduceEq, reduceLT, reduceLE, go_sem]
    repeat' first | refine Z1 fun _ _ => ?_ | refine Z2 ‹_› ?_ | ((first | refine Z3 tb_ok lv51 rfl ?_ | refine Z4 tb_ok mix lv51 bs51 rfl (by kernel_rfl) rfl ?_ | refine ret_eq rfl ?_); simp only [↓reduceIte, reduceCtorEq, reduceEqDiff, reduceAdd, reduceMul, reduceSub, reduceLeDiff, reduceEq, reduceLT, reduceLE, go_sem]) | (refine Z5 rfl ?_; with_reducible first | refine condQ_T ?_ | refine condQ_F ?_) | refine Z6 ?_ | refine Z8 ?_ | refine Zc ‹_› trivial ?_ | refine touch_go rfl ?_ | refine eff_go rfl ?_ | refine And.intro (show List.all _ _ = true from rfl) ?_ | fail
    refine cb_ret (c_next (os := os ++ [(l.getD i Tk.z).t]) hl hi1) rfl rfl rfl rfl rfl ?_; simp only [↓reduceIte, reduceCtorEq, reduceEqDiff, reduceAdd, reduceMul, reduceSub, reduceLeDiff, reduceEq, reduceLT, reduceLE, go_sem]
    repeat' first | refine Z1 fun _ _ => ?_ | refine Z2 ‹_› ?_ | ((first | refine Z3 tb_ok lv51 rfl ?_ | refine Z4 tb_ok mix lv51 bs51 rfl (by kernel_rfl) rfl ?_ | refine ret_eq rfl ?_); simp only [↓reduceIte, reduceCtorEq, reduceEqDiff, reduceAdd, reduceMul, reduceSub, reduceLeDiff, reduceEq, reduceLT, reduceLE, go_sem]) | (refine Z5 rfl ?_; with_reducible first | refine condQ_T ?_ | refine condQ_F ?_) | refine Z6 ?_ | refine Z8 ?_ | refine Zc ‹_› trivial ?_ | refine touch_go rfl ?_ | refine eff_go rfl ?_ | refine And.intro (show List.all _ _ = true from rfl) ?_ | fail
    refine .cond rfl (fun h => ?_) (fun h => ?_)
    · simp only [decide_eq_true_eq] at h; exact absurd hn h
    · repeat' first | refine Z1 fun _ _ => ?_ | refine Z2 ‹_› ?_ | ((first | refine Z3 tb_ok lv51 rfl ?_ | refine Z4 tb_ok mix lv51 bs51 rfl (by kernel_rfl) rfl ?_ | refine ret_eq rfl ?_); simp only [↓reduceIte, reduceCtorEq, reduceEqDiff, reduceAdd, reduceMul, reduceSub, reduceLeDiff, reduceEq, reduceLT, reduceLE, go_sem]) | (refine Z5 rfl ?_; with_reducible first | refine condQ_T ?_ | refine condQ_F ?_) | refine Z6 ?_ | refine Z8 ?_ | refine Zc ‹_› trivial ?_ | refine touch_go rfl ?_ | refine eff_go rfl ?_ | refine And.intro (show List.all _ _ = true from rfl) ?_ | fail
      refine cb_ret (take (os := os ++ [(l.getD i Tk.z).t]) hi1 (by omega) hn) rfl rfl rfl rfl rfl ?_; simp only [↓reduceIte, reduceCtorEq, reduceEqDiff, reduceAdd, reduceMul, reduceSub, reduceLeDiff, reduceEq, reduceLT, reduceLE, go_sem]
      repeat' first | refine Z1 fun _ _ => ?_ | refine Z2 ‹_› ?_ | ((first | refine Z3 tb_ok lv51 rfl ?_ | refine Z4 tb_ok mix lv51 bs51 rfl (by kernel_rfl) rfl ?_ | refine ret_eq rfl ?_); simp only [↓reduceIte, reduceCtorEq, reduceEqDiff, reduceAdd, reduceMul, reduceSub, reduceLeDiff, reduceEq, reduceLT, reduceLE, go_sem]) | (refine Z5 rfl ?_; with_reducible first | refine condQ_T ?_ | refine condQ_F ?_) | refine Z6 ?_ | refine Z8 ?_ | refine Zc ‹_› trivial ?_ | refine touch_go rfl ?_ | refine eff_go rfl ?_ | refine And.intro (show List.all _ _ = true from rfl) ?_ | fail
      refine ⟨by rw [wr]; omega, by rw [wr]; omega, ?_⟩
      rw [wr, tke]
      repeat' first | refine Z1 fun _ _ => ?_ | refine Z2 ‹_› ?_ | ((first | refine Z3 tb_ok lv51 rfl ?_ | refine Z4 tb_ok mix lv51 bs51 rfl (by kernel_rfl) rfl ?_ | refine ret_eq rfl ?_); simp only [↓reduceIte, reduceCtorEq, reduceEqDiff, reduceAdd, reduceMul, reduceSub, reduceLeDiff, reduceEq, reduceLT, reduceLE, go_sem]) | (refine Z5 rfl ?_; with_reducible first | refine condQ_T ?_ | refine condQ_F ?_) | refine Z6 ?_ | refine Z8 ?_ | refine Zc ‹_› trivial ?_ | refine touch_go rfl ?_ | refine eff_go rfl ?_ | refine And.intro (show List.all _ _ = true from rfl) ?_ | fail
      exact retB_ret 0 46 rfl rfl rfl rfl
  | group1 hk h64 hn h1 h2 =>
    have e1 : ∀ a : Int, (List.map (fun x => [D.int .i64 x]) os ++ [[D.int .i64 a]]) = List.map (fun x => [D.int .i64 x]) (os ++ [a]) := fun a => by simp
    have ol : (os ++ [(l.getD i Tk.z).t]).length = os.length + 1 := by simp
    have e2 : decide ((64 : Int) < ((os ++ [(l.getD i Tk.z).t]).length : Nat)) = false := by rw [ol]; simp; omega
    have wr : IntKind.i64.wrap (((os ++ [(l.getD i Tk.z).t]).length : Nat) - 1) = (os.length : Int) := by rw [wrap64 (by omega) (by omega), ol]; omega
    have tke : List.take (os.length : Int).toNat (List.map (fun x => [D.int .i64 x]) (os ++ [(l.getD i Tk.z).t])) = List.map (fun x => [D.int .i64 x]) os := by simp
    have hie : i + 1 ≤ e := by
      refine Nat.lt_of_le_of_ne hi fun e1 => ?_
      subst e1
      rw [hk] at he
      cases he
    have hi1 : i + 1 < l.length := by omega
    refine PConB.enter tb_ok (fn := Tryd.f51) (by kernel_rfl) (by kernel_rfl) rfl (by show 1 ≤ 53; decide) ?_
    repeat' first | refine Z1 fun _ _ => ?_ | refine Z2 ‹_› ?_ | ((first | refine Z3 tb_ok lv51 rfl ?_ | refine Z4 tb_ok mix lv51 bs51 rfl (by kernel_rfl) rfl ?_ | refine ret_eq rfl ?_); simp only [↓reduceIte, reduceCtorEq, reduceEqDiff, reduceAdd, reduceMul, reduceSub, reduceLeDiff, reduceEq, reduceLT, reduceLE, go_sem]) | (refine Z5 rfl ?_; with_reducible first | refine condQ_T ?_ | refine condQ_F ?_) | refine Z6 ?_ | refine Z8 ?_ | refine Zc ‹_› trivial ?_ | refine touch_go rfl ?_ | refine eff_go rfl ?_ | refine And.intro (show List.all _ _ = true from rfl) ?_ | fail
    refine cb_ret (take (os := os) hil (by omega) hk) rfl rfl rfl rfl rfl ?_; simp only [↓reduceIte, reduceCtorEq, reduceEqDiff, reduceAdd, reduceMul, reduceSub, reduceLeDiff, reduceEq, reduceLT, reduceLE, go_sem]
    repeat' first | refine Z1 fun _ _ => ?_ | refine Z2 ‹_› ?_ | ((first | refine Z3 tb_ok lv51 rfl ?_ | refine Z4 tb_ok mix lv51 bs51 rfl (by kernel_rfl) rfl ?_ | refine ret_eq rfl ?_); simp only [↓reduceIte, reduceCtorEq, reduceEqDiff, reduceAdd, reduceMul, reduceSub, reduceLeDiff, reduceEq, reduceLT, reduceLE, go_sem]) | (refine Z5 rfl ?_; with_reducible first | refine condQ_T ?_ | refine condQ_F ?_) | refine Z6 ?_ | refine Z8 ?_ | refine Zc ‹_› trivial ?_ | refine touch_go rfl ?_ | refine eff_go rfl ?_ | refine And.intro (show List.all _ _ = true from rfl) ?_ | fail
    refine ⟨fun e he => by rw [he]; rfl, by omega, by omega, ?_⟩
    simp only [↓reduceIte, reduceCtorEq, reduceEqDiff, reduceAdd, reduceMul, reduceSub, reduceLeDiff, reduceEq, reduceLT, reduceLE, go_sem, e1]
    repeat' first | refine Z1 fun _ _ => ?_ | refine Z2 ‹_› ?_ | ((first | refine Z3 tb_ok lv51 rfl ?_ | refine Z4 tb_ok mix lv51 bs51 rfl (by kernel_rfl) rfl ?_ | refine ret_eq rfl ?_); simp only [↓reduceIte, reduceCtorEq, reduceEqDiff, reduceAdd, reduceMul, reduceSub, reduceLeDiff, reduceEq, reduceLT, reduceLE, go_sem]) | (refine Z5 rfl ?_; with_reducible first | refine condQ_T ?_ | refine condQ_F ?_) | refine Z6 ?_ | refine Z8 ?_ | refine Zc ‹_› trivial ?_ | refine touch_go rfl ?_ | refine eff_go rfl ?_ | refine And.intro (show List.all _ _ = true from rfl) ?_ | fail
    simp only [↓reduceIte, reduceCtorEq, reduceEqDiff, reduceAdd, reduceMul, reduceSub, reduceLeDiff, reduceEq, reduceLT, reduceLE, go_sem, e2]
    repeat' first | refine Z1 fun _ _ => ?_ | refine Z2 ‹_› ?_ | ((first | refine Z3 tb_ok lv51 rfl ?_ | refine Z4 tb_ok mix lv51 bs51 rfl (by kernel_rfl) rfl ?_ | refine ret_eq rfl ?_); simp only [↓reduceIte, reduceCtorEq, reduceEqDiff, reduceAdd, reduceMul, reduceSub, reduceLeDiff, reduceEq, reduceLT, reduceLE, go_sem]) | (refine Z5 rfl ?_; with_reducible first | refine condQ_T ?_ | refine condQ_F ?_) | refine Z6 ?_ | refine Z8 ?_ | refine Zc ‹_› trivial ?_ | refine touch_go rfl ?_ | refine eff_go rfl ?_ | refine And.intro (show List.all _ _ = true from rfl) ?_ | fail
    refine call_pure rfl rfl (c_leaf ⟨1, 0, 0, 0, 0, 0, 0, 0, 0, .empty⟩) ?_; simp only [↓reduceIte, reduceCtorEq, reduceEqDiff, reduceAdd, reduceMul, reduceSub, reduceLeDiff, reduceEq, reduceLT, reduceLE, go_sem]
    repeat' first | refine Z1 fun _ _ => ?_ | refine Z2 ‹_› ?_ | ((first | refine Z3 tb_ok lv51 rfl ?_ | refine Z4 tb_ok mix lv51 bs51 rfl (by kernel_rfl) rfl ?_ | refine ret_eq rfl ?_); simp only [↓reduceIte, reduceCtorEq, reduceEqDiff, reduceAdd, reduceMul, reduceSub, reduceLeDiff, reduceEq, reduceLT, reduceLE, go_sem]) | (refine Z5 rfl ?_; with_reducible first | refine condQ_T ?_ | refine condQ_F ?_) | refine Z6 ?_ | refine Z8 ?_ | refine Zc ‹_› trivial ?_ | refine touch_go rfl ?_ | refine eff_go rfl ?_ | refine And.intro (show List.all _ _ = true from rfl) ?_ | fail
    refine cb_ret (c_next (os := os ++ [(l.getD i Tk.z).t]) hl hi1) rfl rfl rfl rfl rfl ?_; simp only [↓reduceIte, reduceCtorEq, reduceEqDiff, reduceAdd, reduceMul, reduceSub, reduceLeDiff, reduceEq, reduceLT, reduceLE, go_sem]
    repeat' first | refine Z1 fun _ _ => ?_ | refine Z2 ‹_› ?_ | ((first | refine Z3 tb_ok lv51 rfl ?_ | refine Z4 tb_ok mix lv51 bs51 rfl (by kernel_rfl) rfl ?_ | refine ret_eq rfl ?_); simp only [↓reduceIte, reduceCtorEq, reduceEqDiff, reduceAdd, reduceMul, reduceSub, reduceLeDiff, reduceEq, reduceLT, reduceLE, go_sem]) | (refine Z5 rfl ?_; with_reducible first | refine condQ_T ?_ | refine condQ_F ?_) | refine Z6 ?_ | refine Z8 ?_ | refine Zc ‹_› trivial ?_ | refine touch_go rfl ?_ | refine eff_go rfl ?_ | refine And.intro (show List.all _ _ = true from rfl) ?_ | fail
    refine .cond rfl (fun h => ?_) (fun h => ?_)
    · repeat' first | refine Z1 fun _ _ => ?_ | refine Z2 ‹_› ?_ | ((first | refine Z3 tb_ok lv51 rfl ?_ | refine Z4 tb_ok mix lv51 bs51 rfl (by kernel_rfl) rfl ?_ | refine ret_eq rfl ?_); simp only [↓reduceIte, reduceCtorEq, reduceEqDiff, reduceAdd, reduceMul, reduceSub, reduceLeDiff, reduceEq, reduceLT, reduceLE, go_sem]) | (refine Z5 rfl ?_; with_reducible first | refine condQ_T ?_ | refine condQ_F ?_) | refine Z6 ?_ | refine Z8 ?_ | refine Zc ‹_› trivial ?_ | refine touch_go rfl ?_ | refine eff_go rfl ?_ | refine And.intro (show List.all _ _ = true from rfl) ?_ | fail
      have hc := hor _ _ hie (by rw [List.length_append, List.length_singleton]; omega) h1
      simp only [MB, toEnd] at hc
      refine cb_ret (hc) rfl rfl rfl rfl rfl ?_; simp only [↓reduceIte, reduceCtorEq, reduceEqDiff, reduceAdd, reduceMul, reduceSub, reduceLeDiff, reduceEq, reduceLT, reduceLE, go_sem]
      have jl := (h1.within he (by omega)).2.1
      simp only [PR.place] at jl
      repeat' first | refine Z1 fun _ _ => ?_ | refine Z2 ‹_› ?_ | ((first | refine Z3 tb_ok lv51 rfl ?_ | refine Z4 tb_ok mix lv51 bs51 rfl (by kernel_rfl) rfl ?_ | refine ret_eq rfl ?_); simp only [↓reduceIte, reduceCtorEq, reduceEqDiff, reduceAdd, reduceMul, reduceSub, reduceLeDiff, reduceEq, reduceLT, reduceLE, go_sem]) | (refine Z5 rfl ?_; with_reducible first | refine condQ_T ?_ | refine condQ_F ?_) | refine Z6 ?_ | refine Z8 ?_ | refine Zc ‹_› trivial ?_ | refine touch_go rfl ?_ | refine eff_go rfl ?_ | refine And.intro (show List.all _ _ = true from rfl) ?_ | fail
      refine cb_ret (take (os := os ++ [(l.getD i Tk.z).t]) (by omega) (by omega) h2) rfl rfl rfl rfl rfl ?_; simp only [↓reduceIte, reduceCtorEq, reduceEqDiff, reduceAdd, reduceMul, reduceSub, reduceLeDiff, reduceEq, reduceLT, reduceLE, go_sem]
      repeat' first | refine Z1 fun _ _ => ?_ | refine Z2 ‹_› ?_ | ((first | refine Z3 tb_ok lv51 rfl ?_ | refine Z4 tb_ok mix lv51 bs51 rfl (by kernel_rfl) rfl ?_ | refine ret_eq rfl ?_); simp only [↓reduceIte, reduceCtorEq, reduceEqDiff, reduceAdd, reduceMul, reduceSub, reduceLeDiff, reduceEq, reduceLT, reduceLE, go_sem]) | (refine Z5 rfl ?_; with_reducible first | refine condQ_T ?_ | refine condQ_F ?_) | refine Z6 ?_ | refine Z8 ?_ | refine Zc ‹_› trivial ?_ | refine touch_go rfl ?_ | refine eff_go rfl ?_ | refine And.intro (show List.all _ _ = true from rfl) ?_ | fail
      refine ⟨by rw [wr]; omega, by rw [wr]; omega, ?_⟩
      rw [wr, tke]
      repeat' first | refine Z1 fun _ _ => ?_ | refine Z2 ‹_› ?_ | ((first | refine Z3 tb_ok lv51 rfl ?_ | refine Z4 tb_ok mix lv51 bs51 rfl (by kernel_rfl) rfl ?_ | refine ret_eq rfl ?_); simp only [↓reduceIte, reduceCtorEq, reduceEqDiff, reduceAdd, reduceMul, reduceSub, reduceLeDiff, reduceEq, reduceLT, reduceLE, go_sem]) | (refine Z5 rfl ?_; with_reducible first | refine condQ_T ?_ | refine condQ_F ?_) | refine Z6 ?_ | refine Z8 ?_ | refine Zc ‹_› trivial ?_ | refine touch_go rfl ?_ | refine eff_go rfl ?_ | refine And.intro (show List.all _ _ = true from rfl) ?_ | fail
      exact retB_ret 0 49 rfl rfl rfl rfl
    · simp only [decide_eq_false_iff_not, Decidable.not_not] at h; exact absurd h hn
  | groupZ hk h64 hn h1 h2 =>
    rw [MB, halt_end]
    have e1 : ∀ a : Int, (List.map (fun x => [D.int .i64 x]) os ++ [[D.int .i64 a]]) = List.map (fun x => [D.int .i64 x]) (os ++ [a]) := fun a => by simp
    have ol : (os ++ [(l.getD i Tk.z).t]).length = os.length + 1 := by simp
    have e2 : decide ((64 : Int) < ((os ++ [(l.getD i Tk.z).t]).length : Nat)) = false := by rw [ol]; simp; omega
    have wr : IntKind.i64.wrap (((os ++ [(l.getD i Tk.z).t]).length : Nat) - 1) = (os.length : Int) := by rw [wrap64 (by omega) (by omega), ol]; omega
    have tke : List.take (os.length : Int).toNat (List.map (fun x => [D.int .i64 x]) (os ++ [(l.getD i Tk.z).t])) = List.map (fun x => [D.int .i64 x]) os := by simp
    have hie : i + 1 ≤ e := by
      refine Nat.lt_of_le_of_ne hi fun e1 => ?_
      subst e1
      rw [hk] at he
      cases he
    have hi1 : i + 1 < l.length := by omega
    refine PConB.enter tb_ok (fn := Tryd.f51) (by kernel_rfl) (by kernel_rfl) rfl (by show 1 ≤ 53; decide) ?_
    repeat' first | refine Z1 fun _ _ => ?_ | refine Z2 ‹_› ?_ | ((first | refine Z3 tb_ok lv51 rfl ?_ | refine Z4 tb_ok mix lv51 bs51 rfl (by kernel_rfl) rfl ?_ | refine ret_eq rfl ?_); simp only [↓reduceIte, reduceCtorEq, reduceEqDiff, reduceAdd, reduceMul, reduceSub, reduceLeDiff, reduceEq, reduceLT, reduceLE, go_sem]) | (refine Z5 rfl ?_; with_reducible first | refine condQ_T ?_ | refine condQ_F ?_) | refine Z6 ?_ | refine Z8 ?_ | refine Zc ‹_› trivial ?_ | refine touch_go rfl ?_ | refine eff_go rfl ?_ | refine And.intro (show List.all _ _ = true from rfl) ?_ | fail
    refine cb_ret (take (os := os) hil (by omega) hk) rfl rfl rfl rfl rfl ?_; simp only [↓reduceIte, reduceCtorEq, reduceEqDiff, reduceAdd, reduceMul, reduceSub, reduceLeDiff, reduceEq, reduceLT, reduceLE, go_sem]
    repeat' first | refine Z1 fun _ _ => ?_ | refine Z2 ‹_› ?_ | ((first | refine Z3 tb_ok lv51 rfl ?_ | refine Z4 tb_ok mix lv51 bs51 rfl (by kernel_rfl) rfl ?_ | refine ret_eq rfl ?_); simp only [↓reduceIte, reduceCtorEq, reduceEqDiff, reduceAdd, reduceMul, reduceSub, reduceLeDiff, reduceEq, reduceLT, reduceLE, go_sem]) | (refine Z5 rfl ?_; with_reducible first | refine condQ_T ?_ | refine condQ_F ?_) | refine Z6 ?_ | refine Z8 ?_ | refine Zc ‹_› trivial ?_ | refine touch_go rfl ?_ | refine eff_go rfl ?_ | refine And.intro (show List.all _ _ = true from rfl) ?_ | fail
    refine ⟨fun e he => by rw [he]; rfl, by omega, by omega, ?_⟩
    simp only [↓reduceIte, reduceCtorEq, reduceEqDiff, reduceAdd, reduceMul, reduceSub, reduceLeDiff, reduceEq, reduceLT, reduceLE, go_sem, e1]
    repeat' first | refine Z1 fun _ _ => ?_ | refine Z2 ‹_› ?_ | ((first | refine Z3 tb_ok lv51 rfl ?_ | refine Z4 tb_ok mix lv51 bs51 rfl (by kernel_rfl) rfl ?_ | refine ret_eq rfl ?_); simp only [↓reduceIte, reduceCtorEq, reduceEqDiff, reduceAdd, reduceMul, reduceSub, reduceLeDiff, reduceEq, reduceLT, reduceLE, go_sem]) | (refine Z5 rfl ?_; with_reducible first | refine condQ_T ?_ | refine condQ_F ?_) | refine Z6 ?_ | refine Z8 ?_ | refine Zc ‹_› trivial ?_ | refine touch_go rfl ?_ | refine eff_go rfl ?_ | refine And.intro (show List.all _ _ = true from rfl) ?_ | fail
    simp only [↓reduceIte, reduceCtorEq, reduceEqDiff, reduceAdd, reduceMul, reduceSub, reduceLeDiff, reduceEq, reduceLT, reduceLE, go_sem, e2]
    repeat' first | refine Z1 fun _ _ => ?_ | refine Z2 ‹_› ?_ | ((first | refine Z3 tb_ok lv51 rfl ?_ | refine Z4 tb_ok mix lv51 bs51 rfl (by kernel_rfl) rfl ?_ | refine ret_eq rfl ?_); simp only [↓reduceIte, reduceCtorEq, reduceEqDiff, reduceAdd, reduceMul, reduceSub, reduceLeDiff, reduceEq, reduceLT, reduceLE, go_sem]) | (refine Z5 rfl ?_; with_reducible first | refine condQ_T ?_ | refine condQ_F ?_) | refine Z6 ?_ | refine Z8 ?_ | refine Zc ‹_› trivial ?_ | refine touch_go rfl ?_ | refine eff_go rfl ?_ | refine And.intro (show List.all _ _ = true from rfl) ?_ | fail
    refine call_pure rfl rfl (c_leaf ⟨1, 0, 0, 0, 0, 0, 0, 0, 0, .empty⟩) ?_; simp only [↓reduceIte, reduceCtorEq, reduceEqDiff, reduceAdd, reduceMul, reduceSub, reduceLeDiff, reduceEq, reduceLT, reduceLE, go_sem]
    repeat' first | refine Z1 fun _ _ => ?_ | refine Z2 ‹_› ?_ | ((first | refine Z3 tb_ok lv51 rfl ?_ | refine Z4 tb_ok mix lv51 bs51 rfl (by kernel_rfl) rfl ?_ | refine ret_eq rfl ?_); simp only [↓reduceIte, reduceCtorEq, reduceEqDiff, reduceAdd, reduceMul, reduceSub, reduceLeDiff, reduceEq, reduceLT, reduceLE, go_sem]) | (refine Z5 rfl ?_; with_reducible first | refine condQ_T ?_ | refine condQ_F ?_) | refine Z6 ?_ | refine Z8 ?_ | refine Zc ‹_› trivial ?_ | refine touch_go rfl ?_ | refine eff_go rfl ?_ | refine And.intro (show List.all _ _ = true from rfl) ?_ | fail
    refine cb_ret (c_next (os := os ++ [(l.getD i Tk.z).t]) hl hi1) rfl rfl rfl rfl rfl ?_; simp only [↓reduceIte, reduceCtorEq, reduceEqDiff, reduceAdd, reduceMul, reduceSub, reduceLeDiff, reduceEq, reduceLT, reduceLE, go_sem]
    repeat' first | refine Z1 fun _ _ => ?_ | refine Z2 ‹_› ?_ | ((first | refine Z3 tb_ok lv51 rfl ?_ | refine Z4 tb_ok mix lv51 bs51 rfl (by kernel_rfl) rfl ?_ | refine ret_eq rfl ?_); simp only [↓reduceIte, reduceCtorEq, reduceEqDiff, reduceAdd, reduceMul, reduceSub, reduceLeDiff, reduceEq, reduceLT, reduceLE, go_sem]) | (refine Z5 rfl ?_; with_reducible first | refine condQ_T ?_ | refine condQ_F ?_) | refine Z6 ?_ | refine Z8 ?_ | refine Zc ‹_› trivial ?_ | refine touch_go rfl ?_ | refine eff_go rfl ?_ | refine And.intro (show List.all _ _ = true from rfl) ?_ | fail
    refine .cond rfl (fun h => ?_) (fun h => ?_)
    · repeat' first | refine Z1 fun _ _ => ?_ | refine Z2 ‹_› ?_ | ((first | refine Z3 tb_ok lv51 rfl ?_ | refine Z4 tb_ok mix lv51 bs51 rfl (by kernel_rfl) rfl ?_ | refine ret_eq rfl ?_); simp only [↓reduceIte, reduceCtorEq, reduceEqDiff, reduceAdd, reduceMul, reduceSub, reduceLeDiff, reduceEq, reduceLT, reduceLE, go_sem]) | (refine Z5 rfl ?_; with_reducible first | refine condQ_T ?_ | refine condQ_F ?_) | refine Z6 ?_ | refine Z8 ?_ | refine Zc ‹_› trivial ?_ | refine touch_go rfl ?_ | refine eff_go rfl ?_ | refine And.intro (show List.all _ _ = true from rfl) ?_ | fail
      have hc := hor _ _ hie (by rw [List.length_append, List.length_singleton]; omega) h1
      simp only [MB, toEnd] at hc
      refine cb_ret (hc) rfl rfl rfl rfl rfl ?_; simp only [↓reduceIte, reduceCtorEq, reduceEqDiff, reduceAdd, reduceMul, reduceSub, reduceLeDiff, reduceEq, reduceLT, reduceLE, go_sem]
      have jl := (h1.within he (by omega)).2.1
      simp only [PR.place] at jl
      repeat' first | refine Z1 fun _ _ => ?_ | refine Z2 ‹_› ?_ | ((first | refine Z3 tb_ok lv51 rfl ?_ | refine Z4 tb_ok mix lv51 bs51 rfl (by kernel_rfl) rfl ?_ | refine ret_eq rfl ?_); simp only [↓reduceIte, reduceCtorEq, reduceEqDiff, reduceAdd, reduceMul, reduceSub, reduceLeDiff, reduceEq, reduceLT, reduceLE, go_sem]) | (refine Z5 rfl ?_; with_reducible first | refine condQ_T ?_ | refine condQ_F ?_) | refine Z6 ?_ | refine Z8 ?_ | refine Zc ‹_› trivial ?_ | refine touch_go rfl ?_ | refine eff_go rfl ?_ | refine And.intro (show List.all _ _ = true from rfl) ?_ | fail
      refine cb_pan (takeX (os := os ++ [(l.getD i Tk.z).t]) (by omega) (by omega) h2) rfl rfl rfl rfl rfl ?_; try simp only [↓reduceIte, reduceCtorEq, reduceEqDiff, reduceAdd, reduceMul, reduceSub, reduceLeDiff, reduceEq, reduceLT, reduceLE, go_sem]
      repeat' first | refine Z1 fun _ _ => ?_ | refine Z2 ‹_› ?_ | ((first | refine Z3 tb_ok lv51 rfl ?_ | refine Z4 tb_ok mix lv51 bs51 rfl (by kernel_rfl) rfl ?_ | refine ret_eq rfl ?_); simp only [↓reduceIte, reduceCtorEq, reduceEqDiff, reduceAdd, reduceMul, reduceSub, reduceLeDiff, reduceEq, reduceLT, reduceLE, go_sem]) | (refine Z5 rfl ?_; with_reducible first | refine condQ_T ?_ | refine condQ_F ?_) | refine Z6 ?_ | refine Z8 ?_ | refine Zc ‹_› trivial ?_ | refine touch_go rfl ?_ | refine eff_go rfl ?_ | refine And.intro (show List.all _ _ = true from rfl) ?_ | fail
      exact rfl
    · simp only [decide_eq_false_iff_not, Decidable.not_not] at h; exact absurd h hn
  | group2 hk h64 hn h1 =>
    have e1 : ∀ a : Int, (List.map (fun x => [D.int .i64 x]) os ++ [[D.int .i64 a]]) = List.map (fun x => [D.int .i64 x]) (os ++ [a]) := fun a => by simp
    have ol : (os ++ [(l.getD i Tk.z).t]).length = os.length + 1 := by simp
    have e2 : decide ((64 : Int) < ((os ++ [(l.getD i Tk.z).t]).length : Nat)) = false := by rw [ol]; simp; omega
    have wr : IntKind.i64.wrap (((os ++ [(l.getD i Tk.z).t]).length : Nat) - 1) = (os.length : Int) := by rw [wrap64 (by omega) (by omega), ol]; omega
    have tke : List.take (os.length : Int).toNat (List.map (fun x => [D.int .i64 x]) (os ++ [(l.getD i Tk.z).t])) = List.map (fun x => [D.int .i64 x]) os := by simp
    have hie : i + 1 ≤ e := by
      refine Nat.lt_of_le_of_ne hi fun e1 => ?_
      subst e1
      rw [hk] at he
      cases he
    have hi1 : i + 1 < l.length := by omega
    refine PConB.enter tb_ok (fn := Tryd.f51) (by kernel_rfl) (by kernel_rfl) rfl (by show 1 ≤ 53; decide) ?_
    repeat' first | refine Z1 fun _ _ => ?_ | refine Z2 ‹_› ?_ | ((first | refine Z3 tb_ok lv51 rfl ?_ | refine Z4 tb_ok mix lv51 bs51 rfl (by kernel_rfl) rfl ?_ | refine ret_eq rfl ?_); simp only [↓reduceIte, reduceCtorEq, reduceEqDiff, reduceAdd, reduceMul, reduceSub, reduceLeDiff, reduceEq, reduceLT, reduceLE, go_sem]) | (refine Z5 rfl ?_; with_reducible first | refine condQ_T ?_ | refine condQ_F ?_) | refine Z6 ?_ | refine Z8 ?_ | refine Zc ‹_› trivial ?_ | refine touch_go rfl ?_ | refine eff_go rfl ?_ | refine And.intro (show List.all _ _ = true from rfl) ?_ | fail
    refine cb_ret (take (os := os) hil (by omega) hk) rfl rfl rfl rfl rfl ?_; simp only [↓reduceIte, reduceCtorEq, reduceEqDiff, reduceAdd, reduceMul, reduceSub, reduceLeDiff, reduceEq, reduceLT, reduceLE, go_sem]
    repeat' first | refine Z1 fun _ _ => ?_ | refine Z2 ‹_› ?_ | ((first | refine Z3 tb_ok lv51 rfl ?_ | refine Z4 tb_ok mix lv51 bs51 rfl (by kernel_rfl) rfl ?_ | refine ret_eq rfl ?_); simp only [↓reduceIte, reduceCtorEq, reduceEqDiff, reduceAdd, reduceMul, reduceSub, reduceLeDiff, reduceEq, reduceLT, reduceLE, go_sem]) | (refine Z5 rfl ?_; with_reducible first | refine condQ_T ?_ | refine condQ_F ?_) | refine Z6 ?_ | refine Z8 ?_ | refine Zc ‹_› trivial ?_ | refine touch_go rfl ?_ | refine eff_go rfl ?_ | refine And.intro (show List.all _ _ = true from rfl) ?_ | fail
    refine ⟨fun e he => by rw [he]; rfl, by omega, by omega, ?_⟩
    simp only [↓reduceIte, reduceCtorEq, reduceEqDiff, reduceAdd, reduceMul, reduceSub, reduceLeDiff, reduceEq, reduceLT, reduceLE, go_sem, e1]
    repeat' first | refine Z1 fun _ _ => ?_ | refine Z2 ‹_› ?_ | ((first | refine Z3 tb_ok lv51 rfl ?_ | refine Z4 tb_ok mix lv51 bs51 rfl (by kernel_rfl) rfl ?_ | refine ret_eq rfl ?_); simp only [↓reduceIte, reduceCtorEq, reduceEqDiff, reduceAdd, reduceMul, reduceSub, reduceLeDiff, reduceEq, reduceLT, reduceLE, go_sem]) | (refine Z5 rfl ?_; with_reducible first | refine condQ_T ?_ | refine condQ_F ?_) | refine Z6 ?_ | refine Z8 ?_ | refine Zc ‹_› trivial ?_ | refine touch_go rfl ?_ | refine eff_go rfl ?_ | refine And.intro (show List.all _ _ = true from rfl) ?_ | fail
    simp only [↓reduceIte, reduceCtorEq, reduceEqDiff, reduceAdd, reduceMul, reduceSub, reduceLeDiff, reduceEq, reduceLT, reduceLE, go_sem, e2]
    repeat' first | refine Z1 fun _ _ => ?_ | refine Z2 ‹_› ?_ | ((first | refine Z3 tb_ok lv51 rfl ?_ | refine Z4 tb_ok mix lv51 bs51 rfl (by kernel_rfl) rfl ?_ | refine ret_eq rfl ?_); simp only [↓reduceIte, reduceCtorEq, reduceEqDiff, reduceAdd, reduceMul, reduceSub, reduceLeDiff, reduceEq, reduceLT, reduceLE, go_sem]) | (refine Z5 rfl ?_; with_reducible first | refine condQ_T ?_ | refine condQ_F ?_) | refine Z6 ?_ | refine Z8 ?_ | refine Zc ‹_› trivial ?_ | refine touch_go rfl ?_ | refine eff_go rfl ?_ | refine And.intro (show List.all _ _ = true from rfl) ?_ | fail
    refine call_pure rfl rfl (c_leaf ⟨1, 0, 0, 0, 0, 0, 0, 0, 0, .empty⟩) ?_; simp only [↓reduceIte, reduceCtorEq, reduceEqDiff, reduceAdd, reduceMul, reduceSub, reduceLeDiff, reduceEq, reduceLT, reduceLE, go_sem]
    repeat' first | refine Z1 fun _ _ => ?_ | refine Z2 ‹_› ?_ | ((first | refine Z3 tb_ok lv51 rfl ?_ | refine Z4 tb_ok mix lv51 bs51 rfl (by kernel_rfl) rfl ?_ | refine ret_eq rfl ?_); simp only [↓reduceIte, reduceCtorEq, reduceEqDiff, reduceAdd, reduceMul, reduceSub, reduceLeDiff, reduceEq, reduceLT, reduceLE, go_sem]) | (refine Z5 rfl ?_; with_reducible first | refine condQ_T ?_ | refine condQ_F ?_) | refine Z6 ?_ | refine Z8 ?_ | refine Zc ‹_› trivial ?_ | refine touch_go rfl ?_ | refine eff_go rfl ?_ | refine And.intro (show List.all _ _ = true from rfl) ?_ | fail
    refine cb_ret (c_next (os := os ++ [(l.getD i Tk.z).t]) hl hi1) rfl rfl rfl rfl rfl ?_; simp only [↓reduceIte, reduceCtorEq, reduceEqDiff, reduceAdd, reduceMul, reduceSub, reduceLeDiff, reduceEq, reduceLT, reduceLE, go_sem]
    repeat' first | refine Z1 fun _ _ => ?_ | refine Z2 ‹_› ?_ | ((first | refine Z3 tb_ok lv51 rfl ?_ | refine Z4 tb_ok mix lv51 bs51 rfl (by kernel_rfl) rfl ?_ | refine ret_eq rfl ?_); simp only [↓reduceIte, reduceCtorEq, reduceEqDiff, reduceAdd, reduceMul, reduceSub, reduceLeDiff, reduceEq, reduceLT, reduceLE, go_sem]) | (refine Z5 rfl ?_; with_reducible first | refine condQ_T ?_ | refine condQ_F ?_) | refine Z6 ?_ | refine Z8 ?_ | refine Zc ‹_› trivial ?_ | refine touch_go rfl ?_ | refine eff_go rfl ?_ | refine And.intro (show List.all _ _ = true from rfl) ?_ | fail
    refine .cond rfl (fun h => ?_) (fun h => ?_)
    · repeat' first | refine Z1 fun _ _ => ?_ | refine Z2 ‹_› ?_ | ((first | refine Z3 tb_ok lv51 rfl ?_ | refine Z4 tb_ok mix lv51 bs51 rfl (by kernel_rfl) rfl ?_ | refine ret_eq rfl ?_); simp only [↓reduceIte, reduceCtorEq, reduceEqDiff, reduceAdd, reduceMul, reduceSub, reduceLeDiff, reduceEq, reduceLT, reduceLE, go_sem]) | (refine Z5 rfl ?_; with_reducible first | refine condQ_T ?_ | refine condQ_F ?_) | refine Z6 ?_ | refine Z8 ?_ | refine Zc ‹_› trivial ?_ | refine touch_go rfl ?_ | refine eff_go rfl ?_ | refine And.intro (show List.all _ _ = true from rfl) ?_ | fail
      have hc := hor _ _ hie (by rw [List.length_append, List.length_singleton]; omega) h1
      simp only [MB, toEnd] at hc
      refine cb_pan (hc) rfl rfl rfl rfl rfl ?_; try simp only [↓reduceIte, reduceCtorEq, reduceEqDiff, reduceAdd, reduceMul, reduceSub, reduceLeDiff, reduceEq, reduceLT, reduceLE, go_sem]
      repeat' first | refine Z1 fun _ _ => ?_ | refine Z2 ‹_› ?_ | ((first | refine Z3 tb_ok lv51 rfl ?_ | refine Z4 tb_ok mix lv51 bs51 rfl (by kernel_rfl) rfl ?_ | refine ret_eq rfl ?_); simp only [↓reduceIte, reduceCtorEq, reduceEqDiff, reduceAdd, reduceMul, reduceSub, reduceLeDiff, reduceEq, reduceLT, reduceLE, go_sem]) | (refine Z5 rfl ?_; with_reducible first | refine condQ_T ?_ | refine condQ_F ?_) | refine Z6 ?_ | refine Z8 ?_ | refine Zc ‹_› trivial ?_ | refine touch_go rfl ?_ | refine eff_go rfl ?_ | refine And.intro (show List.all _ _ = true from rfl) ?_ | fail
      exact rfl
    · simp only [decide_eq_false_iff_not, Decidable.not_not] at h; exact absurd h hn
end Go.Proofs.YtoidlnhgaaohdaaDoor
