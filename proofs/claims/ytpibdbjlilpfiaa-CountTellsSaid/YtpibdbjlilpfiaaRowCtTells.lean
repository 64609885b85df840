/- Proved: scantlinglaw12.CountTells returns true, and its arguments read as they did, whatever the input. No condition beyond the statement's own. -/
import Derived.Test.YtpibdbjlilpfiaaCntX1
import Derived.Test.YtpibdbjlilpfiaaRowS
import Derived.Test.YtpibdbjlilpfiaaRdBy
namespace Go.Proofs.Ytpibdbjlilpfiaa
set_option linter.all false
open Go Go.ChangeShapes Go.WideShapes Go.ChangeAt Go.RowKit
open Nat (reduceEqDiff reduceAdd reduceMul reduceSub reduceLeDiff)
open Int (reduceEq reduceLT reduceLE)

set_option maxRecDepth 100000 in
theorem lifted_countTells (os : Os) (started : os.Started) (H : Type) (enc : TypeId × Value → H) :
    ReturnsInHanded {} Try.checked os 7 .any (Rows.countTellsSpec.pre6 enc Try.prog Try.f7 Rows.countTellsRow.domain false) (Rows.countTellsSpec.post enc Try.prog Try.f7 false true false false) := by
  refine returnsInHanded_of_change_sized (C := Try.checked) own_ok started (by kernel_rfl) Try.func7
    (ChangeSpec.witness6 (enc := enc) (C := Try.checked) false ⟨#[], #[.agg #[.slice none 0 0], .slice none 0 0], []⟩ 8 (by kernel_rfl) (by kernel_rfl) (by kernel_rfl) (by kernel_rfl)) ?_
  intro W base args ds gs before hval0 hW _ hsz0 _
  have hsz : (DataW.weightsEach Try.prog (Try.f7.params.toList ++ Rows.countTellsSpec.plain.varTypes Try.prog) (ds ++ gs)).all (· ≤ reachBytes) = true := hsz0
  have hval : ∀ (j : Nat) t v, Try.f7.params[j]? = some t → args[j]? = some v → Value.okWide Try.prog W .any base t v := hval0
  have hW' := hW
  obtain ⟨p, q, hA0, hV, rfl, hfz, hnd⟩ := hW
  have hA : DataW.TrodAll enc Try.prog W 0 (fun _ => true) true Try.f7.params.toList args.toList ds p := hA0
  rw [Try.params7] at hA hval hsz
  obtain ⟨v0, vs0, d0, ds0, p0, q0, hargs, rfl, rfl, h0, r0⟩ := trodAll_cons hA
  obtain ⟨v1, vs1, d1, ds1, p1, q1, rfl, rfl, rfl, h1, r1⟩ := trodAll_cons r0
  obtain ⟨rfl, rfl, rfl⟩ := trodAll_nil r1
  obtain rfl : args = [v0, v1].toArray := by rw [← hargs]
  obtain ⟨rfl, rfl⟩ := trodVars_none hV
  obtain ⟨l0, hr0, hc0, hb0⟩ := rd_descC (hval 0 _ v0 rfl rfl) h0
  have hf0 := hb0 _ (fits_of hsz (j := 0) rfl rfl)
  obtain ⟨l1, hr1⟩ := rd_bytesA (hval 1 _ v1 rfl rfl) h1
  exact law_calls (vs := [v0, v1]) laid_ok hW' rfl rfl rfl Try.underlying4 (by kernel_rfl) (c_countTells (l := l0) (w := l1) hc0 (by have := hf0.1; omega) hf0.2) rfl (rep_two hr0 hr1)

theorem countTells_holds : Rows.CountTellsSaid :=
  OpenClaim.holds_of_wide 7 Try.f7 rfl rfl rfl rfl rfl rfl rfl ⟨rfl, rfl, rfl, rfl, rfl⟩ rfl rfl rfl rfl rfl (by kernel_rfl) Try.func7 (by kernel_rfl)
    (of_decide_eq_true (by kernel_rfl)) (by unfold Func.isWrapper; first | (rw [if_pos (by decide +kernel)]; kernel_rfl) | (rw [if_neg (by decide +kernel)]; exact ⟨rfl, rfl⟩))
    (fun os started H enc _ => lifted_countTells os started H enc)
end Go.Proofs.Ytpibdbjlilpfiaa
