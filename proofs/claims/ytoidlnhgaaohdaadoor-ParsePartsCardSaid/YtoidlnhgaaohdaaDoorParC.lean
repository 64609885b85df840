/- parse: next, stop, take. -/
import Derived.Test.YtoidlnhgaaohdaaDoorParB
import Derived.Test.YtoidlnhgaaohdaaDoorAbsQ
namespace Go.Proofs.YtoidlnhgaaohdaaDoor
set_option linter.all false
open Go Go.RowKit
open Nat (reduceEqDiff reduceAdd reduceMul reduceSub reduceLeDiff)
open Int (reduceEq reduceLT reduceLE)

theorem Zm {id : Nat} {Q Q' : AExit → St → Prop} {x : D} {s : St} (h : Bl id Q Q') (k : Q (.panic x) s) : Q' (.panic x) s := h.e _ s (fun h => nomatch h) k
/-- The parser's cells. -/
def pcells (l : List Tk) (i : Nat) : List (Option D) := [some (tks l), some (.int .i64 i), none, some (.int .i64 0)]
def irow (l : List Int) : List (List D) := l.map fun x => [.int .i64 x]
attribute [go_sem] pcells irow toAV

section
variable {P : Program} {gl : List (Nat × List D)} {O : Nat → Option Obj1} {id : Nat} {KP : D → Prop} {K : Option AV → Eff → Prop} {y : Operand} {g : Operand → Option AV} {f k j : Nat} {ags : List Operand} {r : List Operand} {fr fr1 : Bool} {ds : List D} {cells cells' : List (Option D)} {te : TypeId} {sz : Nat} {xs xs' : List (List D)} {q : D}
theorem cb_ret (hc : PConB P gl f ds cells te sz xs (.ret q cells' xs')) (ha : ags = y :: r) (hy : g y = some (.ref k 0)) (hd : getAR g r = some ds) (hO : O k = some (.box fr (toAV j cells))) (hj : O j = some (.row fr1 te sz xs)) (hK : K (some (.d q)) (.pass [k, j] [(k, .box fr (toAV id cells')), (id, .row fr1 te sz xs')])) : callB P gl g O id f ags KP K := box_ret ha hy hd hO hj hc hK
theorem cb_pan (hc : PConB P gl f ds cells te sz xs (.panic q)) (ha : ags = y :: r) (hy : g y = some (.ref k 0)) (hd : getAR g r = some ds) (hO : O k = some (.box fr (toAV j cells))) (hj : O j = some (.row fr1 te sz xs)) (hK : KP q) : callB P gl g O id f ags KP K := box_pan ha hy hd hO hj hc hK
end

@[go_sem] def lv25 : List (Nat × List Nat) := [(0, [0, 2]), (1, [2])]
def bs25 : List (Nat × List Nat × List Nat) := [(1, [0, 1, 3, 7, 0, 16, 48, 112, 255, 511, 1023], [10])]
theorem c_next {gl} {l : List Tk} {i : Nat} {os : List Int} (hl : l.length ≤ 1048576) (hi : i < l.length) : PConB Tryd.prog gl 25 [] (pcells l i) 3 1 (irow os) (.ret (.agg (l.getD i Tk.z).cells) (pcells l i) (irow os)) := by
  refine PConB.enter tb_ok (fn := Tryd.f25) (by kernel_rfl) (by kernel_rfl) rfl (by show 1 ≤ 13; decide) ?_
  repeat' first | refine Z1 fun _ _ => ?_ | refine Z2 ‹_› ?_ | ((first | refine Z3 tb_ok lv25 rfl ?_ | refine Z4 tb_ok mix lv25 bs25 rfl (by kernel_rfl) rfl ?_ | refine ret_eq rfl ?_); simp only [↓reduceIte, reduceCtorEq, reduceEqDiff, reduceAdd, reduceMul, reduceSub, reduceLeDiff, reduceEq, reduceLT, reduceLE, go_sem]) | refine Z8 ?_ | refine Zc ‹_› trivial ?_ | refine touch_go rfl ?_ | refine eff_go rfl ?_ | refine And.intro (show List.all _ _ = true from rfl) ?_ | fail
  refine idx_map Tk.z rfl rfl rfl rfl rfl (by omega) (by omega) rfl ?_
  simp only [↓reduceIte, reduceCtorEq, reduceEqDiff, reduceAdd, reduceMul, reduceSub, reduceLeDiff, reduceEq, reduceLT, reduceLE, go_sem]
  repeat' first | refine Z1 fun _ _ => ?_ | refine Z2 ‹_› ?_ | ((first | refine Z3 tb_ok lv25 rfl ?_ | refine Z4 tb_ok mix lv25 bs25 rfl (by kernel_rfl) rfl ?_ | refine ret_eq rfl ?_); simp only [↓reduceIte, reduceCtorEq, reduceEqDiff, reduceAdd, reduceMul, reduceSub, reduceLeDiff, reduceEq, reduceLT, reduceLE, go_sem]) | refine Z8 ?_ | refine Zc ‹_› trivial ?_ | refine touch_go rfl ?_ | refine eff_go rfl ?_ | refine And.intro (show List.all _ _ = true from rfl) ?_ | fail
  exact retB_ret 0 1 rfl rfl rfl rfl
@[go_sem] def lv27 : List (Nat × List Nat) := [(0, [0, 2]), (1, [0, 2, 3]), (2, [0, 2, 3, 17]), (3, [2]), (4, [])]
def bs27 : List (Nat × List Nat × List Nat) := []
/-- Why, and where, parsing stops. -/
def flt (w : Int) (at' : Int) : D := .iface 50 (.agg [.int .i64 w, .int .i64 at'])
def stopAt (l : List Tk) (i : Nat) (os : List Int) : D := if (l.getD i Tk.z).k = 10 ∧ 0 < os.length then flt 6 (os.getD (os.length - 1) 0) else flt 7 (l.getD i Tk.z).t
theorem c_stop {gl} {l : List Tk} {i : Nat} {os : List Int} (hl : l.length ≤ 1048576) (hi : i < l.length) (ho : os.length ≤ 1048576) : PConB Tryd.prog gl 27 [] (pcells l i) 3 1 (irow os) (.panic (stopAt l i os)) := by
  refine PConB.enter tb_ok (fn := Tryd.f27) (by kernel_rfl) (by kernel_rfl) rfl (by show 1 ≤ 32; decide) ?_
  repeat' first | refine Z1 fun _ _ => ?_ | refine Z2 ‹_› ?_ | ((first | refine Z3 tb_ok lv27 rfl ?_ | refine ret_eq rfl ?_); simp only [↓reduceIte, reduceCtorEq, reduceEqDiff, reduceAdd, reduceMul, reduceSub, reduceLeDiff, reduceEq, reduceLT, reduceLE, go_sem]) | (refine Z5 rfl ?_; with_reducible first | refine condQ_T ?_ | refine condQ_F ?_) | refine Z6 ?_ | refine Z8 ?_ | refine Zc ‹_› trivial ?_ | fail
  have h := c_next (gl := gl) (os := os) hl hi
  refine cb_ret (h) rfl rfl rfl rfl rfl ?_; simp only [↓reduceIte, reduceCtorEq, reduceEqDiff, reduceAdd, reduceMul, reduceSub, reduceLeDiff, reduceEq, reduceLT, reduceLE, go_sem]
  repeat' first | refine Z1 fun _ _ => ?_ | refine Z2 ‹_› ?_ | ((first | refine Z3 tb_ok lv27 rfl ?_ | refine ret_eq rfl ?_); simp only [↓reduceIte, reduceCtorEq, reduceEqDiff, reduceAdd, reduceMul, reduceSub, reduceLeDiff, reduceEq, reduceLT, reduceLE, go_sem]) | (refine Z5 rfl ?_; with_reducible first | refine condQ_T ?_ | refine condQ_F ?_) | refine Z6 ?_ | refine Z8 ?_ | refine Zc ‹_› trivial ?_ | fail
  refine .split rfl (fun hg => ?_) (fun hg => ?_) <;> simp only [↓reduceIte, reduceCtorEq, reduceEqDiff, reduceAdd, reduceMul, reduceSub, reduceLeDiff, reduceEq, reduceLT, reduceLE, go_sem, hg]
  · repeat' first | refine Z1 fun _ _ => ?_ | refine Z2 ‹_› ?_ | ((first | refine Z3 tb_ok lv27 rfl ?_ | refine ret_eq rfl ?_); simp only [↓reduceIte, reduceCtorEq, reduceEqDiff, reduceAdd, reduceMul, reduceSub, reduceLeDiff, reduceEq, reduceLT, reduceLE, go_sem]) | (refine Z5 rfl ?_; with_reducible first | refine condQ_T ?_ | refine condQ_F ?_) | refine Z6 ?_ | refine Z8 ?_ | refine Zc ‹_› trivial ?_ | fail
    refine .cond rfl (fun h => ?_) (fun h => ?_)
    · simp only [decide_eq_true_eq] at h hg
      have hp : 0 < os.length := by omega
      repeat' first | refine Z1 fun _ _ => ?_ | refine Z2 ‹_› ?_ | ((first | refine Z3 tb_ok lv27 rfl ?_ | refine ret_eq rfl ?_); simp only [↓reduceIte, reduceCtorEq, reduceEqDiff, reduceAdd, reduceMul, reduceSub, reduceLeDiff, reduceEq, reduceLT, reduceLE, go_sem]) | (refine Z5 rfl ?_; with_reducible first | refine condQ_T ?_ | refine condQ_F ?_) | refine Z6 ?_ | refine Z8 ?_ | refine Zc ‹_› trivial ?_ | fail
      rw [wrap64 (by omega) (by omega)]
      refine idx_own (j := os.length - 1) rfl rfl rfl rfl rfl (by omega) (by omega) (by rw [List.length_map]; omega) ?_
      simp only [↓reduceIte, reduceCtorEq, reduceEqDiff, reduceAdd, reduceMul, reduceSub, reduceLeDiff, reduceEq, reduceLT, reduceLE, go_sem]
      refine ⟨_, at_map (0 : Int) (by omega), ?_⟩
      simp only [↓reduceIte, reduceCtorEq, reduceEqDiff, reduceAdd, reduceMul, reduceSub, reduceLeDiff, reduceEq, reduceLT, reduceLE, go_sem]
      repeat' first | refine Z1 fun _ _ => ?_ | refine Z2 ‹_› ?_ | ((first | refine Z3 tb_ok lv27 rfl ?_ | refine ret_eq rfl ?_); simp only [↓reduceIte, reduceCtorEq, reduceEqDiff, reduceAdd, reduceMul, reduceSub, reduceLeDiff, reduceEq, reduceLT, reduceLE, go_sem]) | (refine Z5 rfl ?_; with_reducible first | refine condQ_T ?_ | refine condQ_F ?_) | refine Z6 ?_ | refine Z8 ?_ | refine Zc ‹_› trivial ?_ | fail
      rw [stopAt, if_pos ⟨hg, hp⟩]
      exact rfl
    · have e : stopAt l i os = flt 7 (l.getD i Tk.z).t := if_neg fun c => by simp only [decide_eq_false_iff_not] at h; have := c.2; omega
      repeat' first | refine Z1 fun _ _ => ?_ | refine Z2 ‹_› ?_ | ((first | refine Z3 tb_ok lv27 rfl ?_ | refine ret_eq rfl ?_); simp only [↓reduceIte, reduceCtorEq, reduceEqDiff, reduceAdd, reduceMul, reduceSub, reduceLeDiff, reduceEq, reduceLT, reduceLE, go_sem]) | (refine Z5 rfl ?_; with_reducible first | refine condQ_T ?_ | refine condQ_F ?_) | refine Z6 ?_ | refine Z8 ?_ | refine Zc ‹_› trivial ?_ | fail
      rw [e]
      exact rfl
  · have e : stopAt l i os = flt 7 (l.getD i Tk.z).t := if_neg fun c => by simp at hg; exact hg c.1
    repeat' first | refine Z1 fun _ _ => ?_ | refine Z2 ‹_› ?_ | ((first | refine Z3 tb_ok lv27 rfl ?_ | refine ret_eq rfl ?_); simp only [↓reduceIte, reduceCtorEq, reduceEqDiff, reduceAdd, reduceMul, reduceSub, reduceLeDiff, reduceEq, reduceLT, reduceLE, go_sem]) | (refine Z5 rfl ?_; with_reducible first | refine condQ_T ?_ | refine condQ_F ?_) | refine Z6 ?_ | refine Z8 ?_ | refine Zc ‹_› trivial ?_ | fail
    rw [e]
    exact rfl
@[go_sem] def lv20 : List (Nat × List Nat) := [(0, [0, 1, 4]), (1, [0, 1, 4, 5]), (2, [0, 4, 5, 11]), (3, [0, 4, 5]), (4, [4, 5]), (5, [4])]
def bs20 : List (Nat × List Nat × List Nat) := []
theorem c_take {gl} {l : List Tk} {i : Nat} {os : List Int} {k : Int} (hl : l.length ≤ 1048576) (hi : i < l.length) (ho : os.length ≤ 1048576) (hk : (l.getD i Tk.z).k = k) : PConB Tryd.prog gl 20 [.int .i64 k] (pcells l i) 3 1 (irow os) (.ret (.agg (l.getD i Tk.z).cells) (pcells l (i + 1)) (irow os)) := by
  refine PConB.enter tb_ok (fn := Tryd.f20) (by kernel_rfl) (by kernel_rfl) rfl (by show 2 ≤ 22; decide) ?_
  repeat' first | refine Z1 fun _ _ => ?_ | refine Z2 ‹_› ?_ | ((first | refine Z3 tb_ok lv20 rfl ?_ | refine ret_eq rfl ?_); simp only [↓reduceIte, reduceCtorEq, reduceEqDiff, reduceAdd, reduceMul, reduceSub, reduceLeDiff, reduceEq, reduceLT, reduceLE, go_sem]) | (refine Z5 rfl ?_; with_reducible first | refine condQ_T ?_ | refine condQ_F ?_) | refine Z6 ?_ | refine Z8 ?_ | refine Zc ‹_› trivial ?_ | fail
  have h := c_next (gl := gl) (os := os) hl hi
  refine cb_ret (h) rfl rfl rfl rfl rfl ?_; simp only [↓reduceIte, reduceCtorEq, reduceEqDiff, reduceAdd, reduceMul, reduceSub, reduceLeDiff, reduceEq, reduceLT, reduceLE, go_sem]
  repeat' first | refine Z1 fun _ _ => ?_ | refine Z2 ‹_› ?_ | ((first | refine Z3 tb_ok lv20 rfl ?_ | refine ret_eq rfl ?_); simp only [↓reduceIte, reduceCtorEq, reduceEqDiff, reduceAdd, reduceMul, reduceSub, reduceLeDiff, reduceEq, reduceLT, reduceLE, go_sem]) | (refine Z5 rfl ?_; with_reducible first | refine condQ_T ?_ | refine condQ_F ?_) | refine Z6 ?_ | refine Z8 ?_ | refine Zc ‹_› trivial ?_ | fail
  refine .cond rfl (fun h => ?_) (fun h => ?_)
  · simp only [decide_eq_true_eq] at h; exact absurd hk h
  · repeat' first | refine Z1 fun _ _ => ?_ | refine Z2 ‹_› ?_ | ((first | refine Z3 tb_ok lv20 rfl ?_ | refine ret_eq rfl ?_); simp only [↓reduceIte, reduceCtorEq, reduceEqDiff, reduceAdd, reduceMul, reduceSub, reduceLeDiff, reduceEq, reduceLT, reduceLE, go_sem]) | (refine Z5 rfl ?_; with_reducible first | refine condQ_T ?_ | refine condQ_F ?_) | refine Z6 ?_ | refine Z8 ?_ | refine Zc ‹_› trivial ?_ | fail
    rw [wrap64 (by omega) (by omega)]
    exact retB_ret 0 4 rfl rfl rfl rfl
theorem c_takeX {gl} {l : List Tk} {i : Nat} {os : List Int} {k : Int} (hl : l.length ≤ 1048576) (hi : i < l.length) (ho : os.length ≤ 1048576) (hk : (l.getD i Tk.z).k ≠ k) : PConB Tryd.prog gl 20 [.int .i64 k] (pcells l i) 3 1 (irow os) (.panic (stopAt l i os)) := by
  refine PConB.enter tb_ok (fn := Tryd.f20) (by kernel_rfl) (by kernel_rfl) rfl (by show 2 ≤ 22; decide) ?_
  repeat' first | refine Z1 fun _ _ => ?_ | refine Z2 ‹_› ?_ | ((first | refine Z3 tb_ok lv20 rfl ?_ | refine ret_eq rfl ?_); simp only [↓reduceIte, reduceCtorEq, reduceEqDiff, reduceAdd, reduceMul, reduceSub, reduceLeDiff, reduceEq, reduceLT, reduceLE, go_sem]) | (refine Z5 rfl ?_; with_reducible first | refine condQ_T ?_ | refine condQ_F ?_) | refine Z6 ?_ | refine Z8 ?_ | refine Zc ‹_› trivial ?_ | fail
  have h := c_next (gl := gl) (os := os) hl hi
  refine cb_ret (h) rfl rfl rfl rfl rfl ?_; simp only [↓reduceIte, reduceCtorEq, reduceEqDiff, reduceAdd, reduceMul, reduceSub, reduceLeDiff, reduceEq, reduceLT, reduceLE, go_sem]
  repeat' first | refine Z1 fun _ _ => ?_ | refine Z2 ‹_› ?_ | ((first | refine Z3 tb_ok lv20 rfl ?_ | refine ret_eq rfl ?_); simp only [↓reduceIte, reduceCtorEq, reduceEqDiff, reduceAdd, reduceMul, reduceSub, reduceLeDiff, reduceEq, reduceLT, reduceLE, go_sem]) | (refine Z5 rfl ?_; with_reducible first | refine condQ_T ?_ | refine condQ_F ?_) | refine Z6 ?_ | refine Z8 ?_ | refine Zc ‹_› trivial ?_ | fail
  refine .cond rfl (fun h => ?_) (fun h => ?_)
  · repeat' first | refine Z1 fun _ _ => ?_ | refine Z2 ‹_› ?_ | ((first | refine Z3 tb_ok lv20 rfl ?_ | refine ret_eq rfl ?_); simp only [↓reduceIte, reduceCtorEq, reduceEqDiff, reduceAdd, reduceMul, reduceSub, reduceLeDiff, reduceEq, reduceLT, reduceLE, go_sem]) | (refine Z5 rfl ?_; with_reducible first | refine condQ_T ?_ | refine condQ_F ?_) | refine Z6 ?_ | refine Z8 ?_ | refine Zc ‹_› trivial ?_ | fail
    have h2 := c_stop (gl := gl) hl hi ho
    refine cb_pan (h2) rfl rfl rfl rfl rfl ?_; try simp only [↓reduceIte, reduceCtorEq, reduceEqDiff, reduceAdd, reduceMul, reduceSub, reduceLeDiff, reduceEq, reduceLT, reduceLE, go_sem]
    repeat' first | refine Z1 fun _ _ => ?_ | refine Z2 ‹_› ?_ | ((first | refine Z3 tb_ok lv20 rfl ?_ | refine ret_eq rfl ?_); simp only [↓reduceIte, reduceCtorEq, reduceEqDiff, reduceAdd, reduceMul, reduceSub, reduceLeDiff, reduceEq, reduceLT, reduceLE, go_sem]) | (refine Z5 rfl ?_; with_reducible first | refine condQ_T ?_ | refine condQ_F ?_) | refine Z6 ?_ | refine Z8 ?_ | refine Zc ‹_› trivial ?_ | fail
    exact rfl
  · simp only [decide_eq_false_iff_not, Decidable.not_not] at h; exact absurd h hk
end Go.Proofs.YtoidlnhgaaohdaaDoor
