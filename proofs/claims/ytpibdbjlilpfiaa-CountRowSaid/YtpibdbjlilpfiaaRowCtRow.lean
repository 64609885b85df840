/- Proved: scantlinglaw12.CountRow returns true, and its arguments read as they did, whatever the input. No condition beyond the statement's own. -/
import Derived.Test.YtpibdbjlilpfiaaCntX5
import Derived.Test.YtpibdbjlilpfiaaRowS
import Derived.Test.YtpibdbjlilpfiaaRdBy
namespace Go.Proofs.Ytpibdbjlilpfiaa
set_option linter.all false
open Go Go.ChangeShapes Go.WideShapes Go.ChangeAt Go.RowKit
open Nat (reduceEqDiff reduceAdd reduceMul reduceSub reduceLeDiff)
open Int (reduceEq reduceLT reduceLE)

set_option maxRecDepth 100000 in
theorem lifted_countRow (os : Os) (started : os.Started) (H : Type) (enc : TypeId × Value → H) :
    ReturnsInHanded {} Try.checked os 11 .any (Rows.countRowSpec.pre6 enc Try.prog Try.f11 Rows.countRowRow.domain false) (Rows.countRowSpec.post enc Try.prog Try.f11 false true false false) := by
  refine returnsInHanded_of_change_sized (C := Try.checked) own_ok started (by kernel_rfl) Try.func11
    (ChangeSpec.witness6 (enc := enc) (C := Try.checked) false ⟨#[], #[.agg #[.slice none 0 0], .agg #[.slice none 0 0], .slice none 0 0], []⟩ 8 (by kernel_rfl) (by kernel_rfl) (by kernel_rfl) (by kernel_rfl)) ?_
  intro W base args ds gs before hval0 hW _ hsz0 _
  have hsz : (DataW.weightsEach Try.prog (Try.f11.params.toList ++ Rows.countRowSpec.plain.varTypes Try.prog) (ds ++ gs)).all (· ≤ reachBytes) = true := hsz0
  have hval : ∀ (j : Nat) t v, Try.f11.params[j]? = some t → args[j]? = some v → Value.okWide Try.prog W .any base t v := hval0
  have hW' := hW
  obtain ⟨p, q, hA0, hV, rfl, hfz, hnd⟩ := hW
  have hA : DataW.TrodAll enc Try.prog W 0 (fun _ => true) true Try.f11.params.toList args.toList ds p := hA0
  rw [Try.params11] at hA hval hsz
  obtain ⟨v0, vs0, d0, ds0, p0, q0, hargs, rfl, rfl, h0, r0⟩ := trodAll_cons hA
  obtain ⟨v1, vs1, d1, ds1, p1, q1, rfl, rfl, rfl, h1, r1⟩ := trodAll_cons r0
  obtain ⟨v2, vs2, d2, ds2, p2, q2, rfl, rfl, rfl, h2, r2⟩ := trodAll_cons r1
  obtain ⟨rfl, rfl, rfl⟩ := trodAll_nil r2
  obtain rfl : args = [v0, v1, v2].toArray := by rw [← hargs]
  obtain ⟨rfl, rfl⟩ := trodVars_none hV
  obtain ⟨l0, hr0, hc0, hb0⟩ := rd_descC (hval 0 _ v0 rfl rfl) h0
  have hf0 := hb0 _ (fits_of hsz (j := 0) rfl rfl)
  obtain ⟨l1, hr1, hc1, hb1⟩ := rd_descC (hval 1 _ v1 rfl rfl) h1
  have hf1 := hb1 _ (fits_of hsz (j := 1) rfl rfl)
  obtain ⟨l2, hr2⟩ := rd_bytesA (hval 2 _ v2 rfl rfl) h2
  exact law_calls (vs := [v0, v1, v2]) laid_ok hW' rfl rfl rfl Try.underlying4 (by kernel_rfl) (c_countRow (l := l0) (m := l1) (w := l2) hc0 (by have := hf0.1; omega) hf0.2 hc1 (by have := hf1.1; omega) hf1.2) rfl (rep_three hr0 hr1 hr2)

theorem countRow_holds : Rows.CountRowSaid :=
  OpenClaim.holds_of_wide 11 Try.f11 rfl rfl rfl rfl rfl rfl rfl ⟨rfl, rfl, rfl, rfl, rfl⟩ rfl rfl rfl rfl rfl (by kernel_rfl) Try.func11 (by kernel_rfl)
    (of_decide_eq_true (by kernel_rfl)) (by unfold Func.isWrapper; first | (rw [if_pos (by decide +kernel)]; kernel_rfl) | (rw [if_neg (by decide +kernel)]; exact ⟨rfl, rfl⟩))
    (fun os started H enc _ => lifted_countRow os started H enc)
end Go.Proofs.Ytpibdbjlilpfiaa
