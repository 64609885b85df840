/- Proved: scantlinglaw12.CountFinds returns true, and its arguments read as they did, whatever the input whose bulk is at most 1048576. No condition beyond the statement's own. -/
import Derived.Test.YtpibdbjlilpfiaaCntX2
import Derived.Test.YtpibdbjlilpfiaaRowS
import Derived.Test.YtpibdbjlilpfiaaRdVl
import Derived.Test.YtpibdbjlilpfiaaRdBy
import Derived.Deep.CondSized
namespace Go.Proofs.Ytpibdbjlilpfiaa
set_option linter.all false
open Go Go.ChangeShapes Go.WideShapes Go.ChangeAt Go.RowKit
open Nat (reduceEqDiff reduceAdd reduceMul reduceSub reduceLeDiff)
open Int (reduceEq reduceLT reduceLE)

set_option maxRecDepth 100000 in
theorem lifted_countFinds (os : Os) (started : os.Started) (H : Type) (enc : TypeId × Value → H) (F : Stop.Interp) :
    ReturnsInHanded {} Try.checked os 8 .any ((Rows.OpenSpec.upto Rows.countFindsSpec).pre6 enc Try.prog Try.f8 Rows.countFindsUptoRow.domain false) (((Rows.OpenSpec.upto Rows.countFindsSpec).at F).post enc Try.prog Try.f8 false true false false) := by
  refine returnsInHanded_of_cond_sized (C := Try.checked) (s := Rows.OpenSpec.upto Rows.countFindsSpec) (k := Rows.uptoSmall) rfl own_ok started (by kernel_rfl) Try.func8
    (OpenSpec.witness (enc := enc) (C := Try.checked) (s := Rows.OpenSpec.upto Rows.countFindsSpec) (k := Rows.uptoSmall) rfl false ⟨#[], #[.agg #[.slice none 0 0], .slice none 0 0, .agg #[.int .i64 0, .int .u8 0, .string ByteArray.empty, .int .i64 0, .slice none 0 0]], []⟩ 8 (by kernel_rfl) (by kernel_rfl) (by kernel_rfl)
      (x := ([.agg [.nil], .nil, .agg [.lit (.int .i64 0), .lit (.int .u8 0), .lit (.string []), .lit (.int .i64 0), .nil]], [], [])) (by kernel_rfl) rfl (by kernel_rfl)) ?_
  intro W base args ds gs before hval0 hW0 _ hk hsz0 _
  have hsz : (DataW.weightsEach Try.prog (Try.f8.params.toList ++ Rows.countFindsSpec.plain.varTypes Try.prog) (ds ++ gs)).all (· ≤ reachBytes) = true := hsz0
  have hval : ∀ (j : Nat) t v, Try.f8.params[j]? = some t → args[j]? = some v → Value.okWide Try.prog W .any base t v := hval0
  have hW : DataW.Whole enc Try.prog Try.f8.params.toList Rows.countFindsSpec.vars false W args.toList ds gs before := hW0
  have hW' := hW
  obtain ⟨p, q, hA0, hV, rfl, hfz, hnd⟩ := hW
  have hA : DataW.TrodAll enc Try.prog W 0 (fun _ => true) true Try.f8.params.toList args.toList ds p := hA0
  rw [Try.params8] at hA hval hsz
  obtain ⟨v0, vs0, d0, ds0, p0, q0, hargs, rfl, rfl, h0, r0⟩ := trodAll_cons hA
  obtain ⟨v1, vs1, d1, ds1, p1, q1, rfl, rfl, rfl, h1, r1⟩ := trodAll_cons r0
  obtain ⟨v2, vs2, d2, ds2, p2, q2, rfl, rfl, rfl, h2, r2⟩ := trodAll_cons r1
  obtain ⟨rfl, rfl, rfl⟩ := trodAll_nil r2
  obtain rfl : args = [v0, v1, v2].toArray := by rw [← hargs]
  obtain ⟨rfl, rfl⟩ := trodVars_none hV
  obtain ⟨l0, hr0, hc0, hb0⟩ := rd_descC (hval 0 _ v0 rfl rfl) h0
  have hf0 := hb0 _ (fits_of hsz (j := 0) rfl rfl)
  obtain ⟨l1, hr1⟩ := rd_bytesA (hval 1 _ v1 rfl rfl) h1
  obtain ⟨u2, hr2, hw2, hu2⟩ := rd_value (hval 2 _ v2 rfl rfl) h2
  have hbk : Rows.uptoBulkAll ([d0, d1, d2] ++ []) ≤ 1048576 := of_decide_eq_true hk
  simp only [List.append_nil, Rows.uptoBulkAll] at hbk
  exact law_calls (vs := [v0, v1, v2]) laid_ok hW' rfl rfl rfl Try.underlying4 (by kernel_rfl) (c_countFinds (l := l0) (w := l1) (v := u2) hc0 (by have := hf0.1; omega) hf0.2 (by omega) hw2) rfl (rep_three hr0 hr1 hr2)

theorem countFinds_holds : Rows.CountFindsUptoSaid :=
  OpenClaim.holds_of_cond 8 Try.f8 rfl rfl rfl rfl rfl rfl rfl ⟨rfl, rfl, rfl, rfl, rfl⟩ rfl rfl rfl rfl rfl (by kernel_rfl) Try.func8 (by kernel_rfl)
    (of_decide_eq_true (by kernel_rfl)) (by unfold Func.isWrapper; first | (rw [if_pos (by decide +kernel)]; kernel_rfl) | (rw [if_neg (by decide +kernel)]; exact ⟨rfl, rfl⟩))
    (fun os started H enc _ F => lifted_countFinds os started H enc F)
end Go.Proofs.Ytpibdbjlilpfiaa
