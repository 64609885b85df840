/- count: Values, Ways, Has. -/
import Derived.Test.YtpibdbjlilpfiaaCntI
import Derived.Test.YtpibdbjlilpfiaaAbsD
namespace Go.Proofs.Ytpibdbjlilpfiaa
set_option linter.all false
open Go Go.RowKit
open Nat (reduceEqDiff reduceAdd reduceMul reduceSub reduceLeDiff)
open Int (reduceEq reduceLT reduceLE)

@[go_sem] def lv32 : List (Nat × List Nat) := [(0, [1, 2]), (1, [1, 2, 5]), (2, [4])]
def bs32 : List (Nat × List Nat × List Nat) := []
set_option maxHeartbeats 2000000 in
theorem c_Values {vars : List (Nat × List D)} {t : T} {w : List UInt8} (hl : t.n ≤ 1000) (hw : w.length ≤ 100) (hok : t.ok txtOk) (hc : t.cok) : PCon Try.prog ⟨vars, none⟩ 32 [desc (t.flat 0), bys w] (vals (t.fnd w)) := by
  have lt : 0 + t.n ≤ (t.flat 0).length := by rw [T.flat_len]; omega
  have px := t.n_pos
  have hs := sits_flat t
  refine PCon.freshE (fn := Try.f32) (by kernel_rfl) (by kernel_rfl) rfl (by show 2 ≤ 21; decide) ?_
  simp only [desc, nds, bys]
  refine AWF.seq ?_
  repeat' first | refine Z1 fun _ _ => ?_ | refine Z2 ‹_› ?_ | ((first | refine Z3 tb_ok lv32 rfl ?_ | refine Zr rfl ?_); simp only [↓reduceIte, reduceCtorEq, reduceEqDiff, reduceAdd, reduceMul, reduceSub, reduceLeDiff, reduceEq, reduceLT, reduceLE, go_sem]) | refine ZS rfl ?_ | refine ZH ?_ | fail
  refine AWF.seq ?_
  repeat' first | refine Z1 fun _ _ => ?_ | refine Z2 ‹_› ?_ | ((first | refine Z3 tb_ok lv32 rfl ?_ | refine Zr rfl ?_); simp only [↓reduceIte, reduceCtorEq, reduceEqDiff, reduceAdd, reduceMul, reduceSub, reduceLeDiff, reduceEq, reduceLT, reduceLE, go_sem]) | refine ZS rfl ?_ | refine ZH ?_ | fail
  refine AWF.freeze 0 rfl rfl ?_
  simp only [↓reduceIte, reduceCtorEq, reduceEqDiff, reduceAdd, reduceMul, reduceSub, reduceLeDiff, reduceEq, reduceLT, reduceLE, go_sem]
  refine AWF.fresh (I := CI (t.flat 0) w) 5 [nds (t.flat 0), bys w] [(1, bys w), (2, .addr [nds (t.flat 0)])] tb_ok ⟨?_, ?_, fun m => ?_⟩
  · exact ⟨6, 4, by decide, rfl, rfl, rfl⟩
  · intro t' d h
    simp only [List.map_cons, List.map_nil, look] at h ⊢
    split at h
    · rename_i e
      subst e
      exact h
    · split at h
      · rename_i e
        subst e
        exact h
      · cases h
  · have hw' := c_whole (gl := gM vars (t.flat 0) w m) (l := t.flat 0) (w := w) (m := m) (i := 0 + (t.n - 1)) (a := 0) (b := w.length) (by rw [T.flat_len]; omega) (by omega)
    have hv := (values_at (vars := vars) (m := m) (by rw [T.flat_len]; omega) hw t hs hok hc).asks hs hok (Nat.zero_le _) (Nat.le_refl w.length)
    rw [show part' w 0 w.length = w by simp [part']] at hv
    unfold Asks at hv
    simp only [gM, rdr, keyD, List.map_cons, List.map_nil, nds, bys, vals, Int.natCast_zero] at hw' hv
    simp only [nds, bys, List.map_cons, List.map_nil, List.cons_append, List.nil_append]
    repeat' first | refine Z1 fun _ _ => ?_ | refine Z2 ‹_› ?_ | ((first | refine Z3 tb_ok lv32 rfl ?_ | refine Zr rfl ?_); simp only [↓reduceIte, reduceCtorEq, reduceEqDiff, reduceAdd, reduceMul, reduceSub, reduceLeDiff, reduceEq, reduceLT, reduceLE, go_sem]) | refine ZS rfl ?_ | refine ZH ?_ | fail
    have hfl : (t.flat 0).length = t.n := T.flat_len ..
    rw [wrap64 (by omega) (by omega), show (((t.flat 0).length : Int) - 1) = ((0 + (t.n - 1) : Nat) : Int) by rw [T.flat_len]; omega]
    refine call_pure rfl rfl (hw') ?_; simp only [↓reduceIte, reduceCtorEq, reduceEqDiff, reduceAdd, reduceMul, reduceSub, reduceLeDiff, reduceEq, reduceLT, reduceLE, go_sem]
    repeat' first | refine Z1 fun _ _ => ?_ | refine Z2 ‹_› ?_ | ((first | refine Z3 tb_ok lv32 rfl ?_ | refine Zr rfl ?_); simp only [↓reduceIte, reduceCtorEq, reduceEqDiff, reduceAdd, reduceMul, reduceSub, reduceLeDiff, reduceEq, reduceLT, reduceLE, go_sem]) | refine ZS rfl ?_ | refine ZH ?_ | fail
    refine call_pure rfl rfl (hv) ?_; simp only [↓reduceIte, reduceCtorEq, reduceEqDiff, reduceAdd, reduceMul, reduceSub, reduceLeDiff, reduceEq, reduceLT, reduceLE, go_sem]
    repeat' first | refine Z1 fun _ _ => ?_ | refine Z2 ‹_› ?_ | ((first | refine Z3 tb_ok lv32 rfl ?_ | refine Zr rfl ?_); simp only [↓reduceIte, reduceCtorEq, reduceEqDiff, reduceAdd, reduceMul, reduceSub, reduceLeDiff, reduceEq, reduceLT, reduceLE, go_sem]) | refine ZS rfl ?_ | refine ZH ?_ | fail
@[go_sem] def lv30 : List (Nat × List Nat) := [(0, [1, 2]), (1, [4])]
def bs30 : List (Nat × List Nat × List Nat) := []
set_option maxHeartbeats 1000000 in
theorem c_cWays {vars : List (Nat × List D)} {t : T} {w : List UInt8} (hl : t.n ≤ 1000) (hw : w.length ≤ 100) (hok : t.ok txtOk) (hc : t.cok) : PCon Try.prog ⟨vars, none⟩ 30 [desc (t.flat 0), bys w] (.int .i64 (t.fnd w).length) := by
  have h := c_Values (vars := vars) hl hw hok hc
  simp only [desc, nds, bys, vals] at h
  refine PCon.enter tb_ok (fn := Try.f30) (by kernel_rfl) (by kernel_rfl) rfl (by show 2 ≤ 9; decide) ?_
  simp only [desc, nds, bys]
  repeat' first | refine Z1 fun _ _ => ?_ | refine Z2 ‹_› ?_ | ((first | refine Z3 tb_ok lv30 rfl ?_ | refine Zr rfl ?_); simp only [↓reduceIte, reduceCtorEq, reduceEqDiff, reduceAdd, reduceMul, reduceSub, reduceLeDiff, reduceEq, reduceLT, reduceLE, go_sem]) | refine ZS rfl ?_ | refine ZH ?_ | fail
  refine call_pure rfl rfl (h) ?_; simp only [↓reduceIte, reduceCtorEq, reduceEqDiff, reduceAdd, reduceMul, reduceSub, reduceLeDiff, reduceEq, reduceLT, reduceLE, go_sem]
  repeat' first | refine Z1 fun _ _ => ?_ | refine Z2 ‹_› ?_ | ((first | refine Z3 tb_ok lv30 rfl ?_ | refine Zr rfl ?_); simp only [↓reduceIte, reduceCtorEq, reduceEqDiff, reduceAdd, reduceMul, reduceSub, reduceLeDiff, reduceEq, reduceLT, reduceLE, go_sem]) | refine ZS rfl ?_ | refine ZH ?_ | fail
@[go_sem] def lv31 : List (Nat × List Nat) := [(0, [1, 2]), (1, [4])]
def bs31 : List (Nat × List Nat × List Nat) := []
set_option maxHeartbeats 1000000 in
theorem c_cHas {vars : List (Nat × List D)} {t : T} {w : List UInt8} (hl : t.n ≤ 1000) (hw : w.length ≤ 100) (hok : t.ok txtOk) (hc : t.cok) : PCon Try.prog ⟨vars, none⟩ 31 [desc (t.flat 0), bys w] (.bool (decide (0 < (t.fnd w).length))) := by
  have h := c_cWays (vars := vars) hl hw hok hc
  simp only [desc, nds, bys, vals] at h
  refine PCon.enter tb_ok (fn := Try.f31) (by kernel_rfl) (by kernel_rfl) rfl (by show 2 ≤ 9; decide) ?_
  simp only [desc, nds, bys]
  repeat' first | refine Z1 fun _ _ => ?_ | refine Z2 ‹_› ?_ | ((first | refine Z3 tb_ok lv31 rfl ?_ | refine Zr rfl ?_); simp only [↓reduceIte, reduceCtorEq, reduceEqDiff, reduceAdd, reduceMul, reduceSub, reduceLeDiff, reduceEq, reduceLT, reduceLE, go_sem]) | refine ZS rfl ?_ | refine ZH ?_ | fail
  refine call_pure rfl rfl (h) ?_; simp only [↓reduceIte, reduceCtorEq, reduceEqDiff, reduceAdd, reduceMul, reduceSub, reduceLeDiff, reduceEq, reduceLT, reduceLE, go_sem]
  repeat' first | refine Z1 fun _ _ => ?_ | refine Z2 ‹_› ?_ | ((first | refine Z3 tb_ok lv31 rfl ?_ | refine Zr rfl ?_); simp only [↓reduceIte, reduceCtorEq, reduceEqDiff, reduceAdd, reduceMul, reduceSub, reduceLeDiff, reduceEq, reduceLT, reduceLE, go_sem]) | refine ZS rfl ?_ | refine ZH ?_ | fail
  rw [Bool.eq_iff_iff, decide_eq_true_eq, decide_eq_true_eq]
  omega
end Go.Proofs.Ytpibdbjlilpfiaa
