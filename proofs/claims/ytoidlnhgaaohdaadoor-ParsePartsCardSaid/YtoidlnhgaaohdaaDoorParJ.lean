/- parse.Parse's deferred closure. -/
import Derived.Test.YtoidlnhgaaohdaaDoorTab
import Derived.Test.YtoidlnhgaaohdaaDoorAbsR
import Derived.Defers
import Derived.Recover
namespace Go.Proofs.YtoidlnhgaaohdaaDoor
set_option linter.all false
open Go Go.RowKit
open Nat (reduceEqDiff reduceAdd reduceMul reduceSub reduceLeDiff)
open Int (reduceEq reduceLT reduceLE)

theorem catch_idle (v0 v1 v2 v3 : Value) (w : World) :
    CallsD Tryd.prog 18 #[v0, v1, v2, v3] .returning w fun e u' w' => e = .returned (.tuple #[]) ∧ u' = .returning ∧ w' = w := by
  refine callsD_of_wpS (fn := Tryd.f18) (by kernel_rfl) rfl fun c₀ cs hu => ?_
  refine wpS_seq ?_
  refine wpS_region ?_
  simp [wpOpsS, go_sem, recoverD, hu, Exit.thenS, Tryd.f18]
  refine wpS_seq ?_
  refine wpS_region ?_
  simp [wpOpsS, go_sem, Exit.thenS]
  refine wpS_cond (t := false) (by simp [Act.eval, Array.replicate]) ?_
  simp only [Bool.false_eq_true, if_false]
  refine wpS_of_wp (wp_skip ?_)
  cases c₀
  simp_all [bodyPostS, results]

@[go_sem] def lv18 : List (Nat × List Nat) := [(0, [0, 1, 2, 3, 4]), (1, [0, 1, 2, 3, 4, 9]), (2, [0, 1, 2, 3, 4, 5, 6]), (3, [0, 1, 2, 3, 4, 5, 16]), (4, [0, 1, 2, 3, 5]), (5, [])]
def bs18 : List (Nat × List Nat × List Nat) := [(5, [0, 0, 2, 0, 8, 1, 33, 103, 255], [8])]
def tcatch_255 : Sch := .node [(8, .done)]
def tcatch_127 : Sch := .node [(7, tcatch_255)]
def tcatch_63 : Sch := .node [(6, tcatch_127)]
def tcatch_31 : Sch := .node [(5, tcatch_63)]
def tcatch_239 : Sch := .node [(4, tcatch_255)]
def tcatch_111 : Sch := .node [(4, tcatch_127), (7, tcatch_239)]
def tcatch_47 : Sch := .node [(4, tcatch_63), (6, tcatch_111)]
def tcatch_15 : Sch := .node [(4, tcatch_31), (5, tcatch_47)]
def tcatch_231 : Sch := .node [(3, tcatch_239)]
def tcatch_103 : Sch := .node [(3, tcatch_111), (7, tcatch_231)]
def tcatch_39 : Sch := .node [(3, tcatch_47), (6, tcatch_103)]
def tcatch_7 : Sch := .node [(3, tcatch_15), (5, tcatch_39)]
def tcatch_123 : Sch := .node [(2, tcatch_127)]
def tcatch_59 : Sch := .node [(2, tcatch_63), (6, tcatch_123)]
def tcatch_27 : Sch := .node [(2, tcatch_31), (5, tcatch_59)]
def tcatch_107 : Sch := .node [(2, tcatch_111), (4, tcatch_123)]
def tcatch_43 : Sch := .node [(2, tcatch_47), (4, tcatch_59), (6, tcatch_107)]
def tcatch_11 : Sch := .node [(2, tcatch_15), (4, tcatch_27), (5, tcatch_43)]
def tcatch_99 : Sch := .node [(2, tcatch_103), (3, tcatch_107)]
def tcatch_35 : Sch := .node [(2, tcatch_39), (3, tcatch_43), (6, tcatch_99)]
def tcatch_3 : Sch := .node [(2, tcatch_7), (3, tcatch_11), (5, tcatch_35)]
def tcatch_121 : Sch := .node [(1, tcatch_123)]
def tcatch_57 : Sch := .node [(1, tcatch_59), (6, tcatch_121)]
def tcatch_25 : Sch := .node [(1, tcatch_27), (5, tcatch_57)]
def tcatch_105 : Sch := .node [(1, tcatch_107), (4, tcatch_121)]
def tcatch_41 : Sch := .node [(1, tcatch_43), (4, tcatch_57), (6, tcatch_105)]
def tcatch_9 : Sch := .node [(1, tcatch_11), (4, tcatch_25), (5, tcatch_41)]
def tcatch_97 : Sch := .node [(1, tcatch_99), (3, tcatch_105)]
def tcatch_33 : Sch := .node [(1, tcatch_35), (3, tcatch_41), (6, tcatch_97)]
def tcatch_1 : Sch := .node [(1, tcatch_3), (3, tcatch_9), (5, tcatch_33)]
def tcatch_30 : Sch := .node [(0, tcatch_31)]
def tcatch_14 : Sch := .node [(0, tcatch_15), (4, tcatch_30)]
def tcatch_6 : Sch := .node [(0, tcatch_7), (3, tcatch_14)]
def tcatch_26 : Sch := .node [(0, tcatch_27), (2, tcatch_30)]
def tcatch_10 : Sch := .node [(0, tcatch_11), (2, tcatch_14), (4, tcatch_26)]
def tcatch_2 : Sch := .node [(0, tcatch_3), (2, tcatch_6), (3, tcatch_10)]
def tcatch_24 : Sch := .node [(0, tcatch_25), (1, tcatch_26)]
def tcatch_8 : Sch := .node [(0, tcatch_9), (1, tcatch_10), (4, tcatch_24)]
def tcatch : Sch := .node [(0, tcatch_1), (1, tcatch_2), (3, tcatch_8)]
theorem lt4 {p : Nat → Prop} (h0 : p 0) (h1 : p 1) (h2 : p 2) (h3 : p 3) : ∀ k, k < 4 → p k
  | 0, _ => h0 | 1, _ => h1 | 2, _ => h2 | 3, _ => h3 | n + 4, h => absurd h (by omega)
def xs4 (k : Nat) : D := if k < 2 then .nils else .int .i64 0
def ys4 (w at' : Int) (k : Nat) : D := if k < 2 then .nils else if k = 2 then .int .i64 w else .int .i64 at'
set_option maxHeartbeats 0 in
theorem catch_panicking {gl} {ok : Nat → Prop} {bs : Nat → Nat} {v : Value} {w : World} {c at' : Int} (hok : ∀ b, ok b → b < w.heap.size ∧ ∀ k, k < 4 → b ≠ bs k) (hgl : Glob gl w ok) (hinj : ∀ i j, i < 4 → j < 4 → bs i = bs j → i = j)
    (hb : ∀ k σ, k < 4 → RepO w ok σ (.box false [.d (xs4 k)]) (.pointer (some ⟨bs k, 0, none⟩))) (hv : Rep w ok (.iface 50 (.agg [.int .i64 c, .int .i64 at'])) v) :
    CallsD Tryd.prog 18 #[.pointer (some ⟨bs 0, 0, none⟩), .pointer (some ⟨bs 1, 0, none⟩), .pointer (some ⟨bs 2, 0, none⟩), .pointer (some ⟨bs 3, 0, none⟩)] (.panicking [{ v := v, recovered := false }]) w fun e u' w' => e = .returned (.tuple #[]) ∧ u' = .panicking [{ v := v, recovered := true }] ∧ Four w w' ok bs (ys4 c at') := by
  obtain ⟨v', rfl⟩ : ∃ v', v = .iface 50 v' := by cases hv with | iface _ _ v' _ => exact ⟨v', rfl⟩
  refine callsD_of_wpS (fn := Tryd.f18) (by kernel_rfl) rfl fun c₀ cs hu => ?_
  refine wpS_seq ?_
  refine wpS_region ?_
  simp [wpOpsS, go_sem, recoverD, hu, Exit.thenS, Tryd.f18]
  refine wpS_seq ?_
  refine wpS_region ?_
  simp [wpOpsS, go_sem, Exit.thenS]
  refine wpS_cond (t := true) (by simp [Act.eval, Array.replicate]) ?_
  simp only [if_true]
  refine wpS_of_wp ?_
  refine wp_mono ((?aw : AWk Tryd.prog gl 23 _ (fun e s => e = .normal ∧ ∀ k, k < 4 → look s.own k = some (.box false [.d (ys4 c at' k)])) ⟨[(0, .ref 0 0), (1, .ref 1 0), (2, .ref 2 0), (3, .ref 3 0), (4, .d (.iface 50 (.agg [.int .i64 c, .int .i64 at'])))], box4 xs4, 4⟩) (ctx4 gl w ok bs) _ w (sig4 bs) rfl (sr_four hok hgl hinj hb rfl ?sz ?hE)) fun e a' w' ⟨ae, s', σ', q1, q2, q3⟩ => ?_
  case aw =>
    rw [show box4 xs4 = [(0, .box false [.d .nils]), (1, .box false [.d .nils]), (2, .box false [.d (.int .i64 0)]), (3, .box false [.d (.int .i64 0)])] from rfl]
    refine .seq ?_
    refine .regionL tb_ok lv18 rfl ?_
    simp only [↓reduceIte, reduceCtorEq, reduceEqDiff, reduceAdd, reduceMul, reduceSub, reduceLeDiff, reduceEq, reduceLT, reduceLE, go_sem]
    refine .seq ?_
    refine .seq ?_
    refine .regionL tb_ok lv18 rfl ?_
    simp only [↓reduceIte, reduceCtorEq, reduceEqDiff, reduceAdd, reduceMul, reduceSub, reduceLeDiff, reduceEq, reduceLT, reduceLE, go_sem]
    refine .condF rfl ?_
    refine .skip ?_
    simp only [↓reduceIte, reduceCtorEq, reduceEqDiff, reduceAdd, reduceMul, reduceSub, reduceLeDiff, reduceEq, reduceLT, reduceLE, go_sem]
    refine .regionA tb_ok mix [] tcatch (by kernel_rfl) rfl ?_
    simp only [tcatch_255, tcatch_127, tcatch_63, tcatch_31, tcatch_239, tcatch_111, tcatch_47, tcatch_15, tcatch_231, tcatch_103, tcatch_39, tcatch_7, tcatch_123, tcatch_59, tcatch_27, tcatch_107, tcatch_43, tcatch_11, tcatch_99, tcatch_35, tcatch_3, tcatch_121, tcatch_57, tcatch_25, tcatch_105, tcatch_41, tcatch_9, tcatch_97, tcatch_33, tcatch_1, tcatch_30, tcatch_14, tcatch_6, tcatch_26, tcatch_10, tcatch_2, tcatch_24, tcatch_8, tcatch]
    simp (config := { maxSteps := 20000000 }) only [↓reduceIte, reduceCtorEq, reduceEqDiff, reduceAdd, reduceMul, reduceSub, reduceLeDiff, reduceEq, reduceLT, reduceLE, go_sem]
    repeat' apply And.intro
    all_goals exact lt4 rfl rfl rfl rfl
  case sz => simp
  case hE =>
    intro t x hx
    simp only [look] at hx
    split at hx
    · rename_i e; cases hx; subst e; exact .inl ⟨0, by decide, rfl, by simp [Array.getD_eq_getD_getElem?]⟩
    · split at hx
      · rename_i e; cases hx; subst e; exact .inl ⟨1, by decide, rfl, by simp [Array.getD_eq_getD_getElem?]⟩
      · split at hx
        · rename_i e; cases hx; subst e; exact .inl ⟨2, by decide, rfl, by simp [Array.getD_eq_getD_getElem?]⟩
        · split at hx
          · rename_i e; cases hx; subst e; exact .inl ⟨3, by decide, rfl, by simp [Array.getD_eq_getD_getElem?]⟩
          · split at hx
            · rename_i e; cases hx; subst e; exact .inr ⟨_, rfl, by simpa [Array.getD_eq_getD_getElem?] using hv⟩
            · cases hx
  · obtain ⟨rfl, q1⟩ := q1
    cases q3
    have h4 := four_end q2 q1
    exact ⟨q2.defers, _, rfl, .tuple #[], by simp [results], rfl, rfl, h4⟩
end Go.Proofs.YtoidlnhgaaohdaaDoor
