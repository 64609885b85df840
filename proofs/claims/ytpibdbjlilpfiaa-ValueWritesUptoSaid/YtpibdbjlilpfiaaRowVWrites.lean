/- Proved: scantlinglaw11.ValueWrites returns true, and its arguments read as they did, whatever the input whose bulk is at most 1048576. No condition beyond the statement's own. -/
import Derived.Test.YtpibdbjlilpfiaaValM
import Derived.Test.YtpibdbjlilpfiaaRowS
import Derived.Test.YtpibdbjlilpfiaaRdVl
import Derived.Deep.CondSized
namespace Go.Proofs.Ytpibdbjlilpfiaa
set_option linter.all false
open Go Go.ChangeShapes Go.WideShapes Go.ChangeAt Go.RowKit
open Nat (reduceEqDiff reduceAdd reduceMul reduceSub reduceLeDiff)
open Int (reduceEq reduceLT reduceLE)

set_option maxRecDepth 100000 in
theorem lifted_valueWrites (os : Os) (started : os.Started) (H : Type) (enc : TypeId × Value → H) (F : Stop.Interp) :
    ReturnsInHanded {} Try.checked os 4 .any ((Rows.OpenSpec.upto Rows.valueWritesSpec).pre6 enc Try.prog Try.f4 Rows.valueWritesUptoRow.domain false) (((Rows.OpenSpec.upto Rows.valueWritesSpec).at F).post enc Try.prog Try.f4 false true false false) := by
  refine returnsInHanded_of_cond_sized (C := Try.checked) (s := Rows.OpenSpec.upto Rows.valueWritesSpec) (k := Rows.uptoSmall) rfl own_ok started (by kernel_rfl) Try.func4
    (OpenSpec.witness (enc := enc) (C := Try.checked) (s := Rows.OpenSpec.upto Rows.valueWritesSpec) (k := Rows.uptoSmall) rfl false ⟨#[], #[.agg #[.slice none 0 0], .agg #[.int .i64 0, .int .u8 0, .string ByteArray.empty, .int .i64 0, .slice none 0 0]], []⟩ 8 (by kernel_rfl) (by kernel_rfl) (by kernel_rfl)
      (x := ([.agg [.nil], .agg [.lit (.int .i64 0), .lit (.int .u8 0), .lit (.string []), .lit (.int .i64 0), .nil]], [], [])) (by kernel_rfl) rfl (by kernel_rfl)) ?_
  intro W base args ds gs before hval0 hW0 _ hk hsz0 _
  have hsz : (DataW.weightsEach Try.prog (Try.f4.params.toList ++ Rows.valueWritesSpec.plain.varTypes Try.prog) (ds ++ gs)).all (· ≤ reachBytes) = true := hsz0
  have hval : ∀ (j : Nat) t v, Try.f4.params[j]? = some t → args[j]? = some v → Value.okWide Try.prog W .any base t v := hval0
  have hW : DataW.Whole enc Try.prog Try.f4.params.toList Rows.valueWritesSpec.vars false W args.toList ds gs before := hW0
  have hW' := hW
  obtain ⟨p, q, hA0, hV, rfl, hfz, hnd⟩ := hW
  have hA : DataW.TrodAll enc Try.prog W 0 (fun _ => true) true Try.f4.params.toList args.toList ds p := hA0
  rw [Try.params4] at hA hval hsz
  obtain ⟨v0, vs0, d0, ds0, p0, q0, hargs, rfl, rfl, h0, r0⟩ := trodAll_cons hA
  obtain ⟨v1, vs1, d1, ds1, p1, q1, rfl, rfl, rfl, h1, r1⟩ := trodAll_cons r0
  obtain ⟨rfl, rfl, rfl⟩ := trodAll_nil r1
  obtain rfl : args = [v0, v1].toArray := by rw [← hargs]
  obtain ⟨rfl, rfl⟩ := trodVars_none hV
  obtain ⟨l0, hr0, hc0, hb0⟩ := rd_descC (hval 0 _ v0 rfl rfl) h0
  have hf0 := hb0 _ (fits_of hsz (j := 0) rfl rfl)
  obtain ⟨u1, hr1, hw1, hu1⟩ := rd_value (hval 1 _ v1 rfl rfl) h1
  have hbk : Rows.uptoBulkAll ([d0, d1] ++ []) ≤ 1048576 := of_decide_eq_true hk
  simp only [List.append_nil, Rows.uptoBulkAll] at hbk
  exact law_calls (vs := [v0, v1]) laid_ok hW' rfl rfl rfl Try.underlying4 (by kernel_rfl) (c_valueWrites (l := l0) hc0 (by have := hf0.1; omega) hf0.2 (v := u1) (by omega) hw1) rfl (rep_two hr0 hr1)

theorem valueWrites_holds : Rows.ValueWritesUptoSaid :=
  OpenClaim.holds_of_cond 4 Try.f4 rfl rfl rfl rfl rfl rfl rfl ⟨rfl, rfl, rfl, rfl, rfl⟩ rfl rfl rfl rfl rfl (by kernel_rfl) Try.func4 (by kernel_rfl)
    (of_decide_eq_true (by kernel_rfl)) (by unfold Func.isWrapper; first | (rw [if_pos (by decide +kernel)]; kernel_rfl) | (rw [if_neg (by decide +kernel)]; exact ⟨rfl, rfl⟩))
    (fun os started H enc _ F => lifted_valueWrites os started H enc F)
end Go.Proofs.Ytpibdbjlilpfiaa
