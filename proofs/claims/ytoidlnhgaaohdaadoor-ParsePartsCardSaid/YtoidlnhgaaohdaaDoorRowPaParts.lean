/- Proved: scantlinglaw05.ParseParts returns true, and its arguments read as they did, whatever the input. No condition beyond the statement's own. -/
import Derived.Test.YtoidlnhgaaohdaaDoorParPa
import Derived.Test.YtoidlnhgaaohdaaDoorRdUp
import Derived.Test.YtoidlnhgaaohdaaDoorCards
import Derived.Test.YtoidlnhgaaohdaaDoorTie
namespace Go.Proofs.YtoidlnhgaaohdaaDoor
set_option linter.all false
open Go Go.ChangeShapes Go.WideShapes Go.ChangeAt Go.RowKit
open Nat (reduceEqDiff reduceAdd reduceMul reduceSub reduceLeDiff)
open Int (reduceEq reduceLT reduceLE)

theorem laid_met_parseParts (os : Os) : laidMet Tryd.prog Rows.parsePartsRow.laid ((laidWorld os).forCall (fun _ _ => 0) ⟨#[], #[.slice none 0 0, .slice none 0 0], []⟩).memory := laidMet_of_run' 8 (by kernel_rfl) (by kernel_rfl)
theorem reads_parseParts (os : Os) {H : Type} (enc : TypeId × Value → H) : ∃ places, DataW.whole enc Tryd.prog ((laidWorld os).forCall (fun _ _ => 0) ⟨#[], #[.slice none 0 0, .slice none 0 0], []⟩).memory Tryd.f6.params.toList Rows.parsePartsSpec.vars false (#[.slice none 0 0, .slice none 0 0] : Array Value).toList 8 = some ([.nil, .nil], [], places) := ⟨[], by kernel_rfl⟩
set_option maxRecDepth 100000 in
theorem lifted_parseParts (os : Os) (started : os.Started) (H : Type) (enc : TypeId × Value → H) (F : Stop.Interp) :
    ReturnsInHanded {} Tryd.checked os 6 .any ((OpenSpec.ofChange Rows.parsePartsSpec).preRow enc Tryd.prog Tryd.f6 Rows.parsePartsRow.domain false Rows.parsePartsRow.laid) (((OpenSpec.ofChange Rows.parsePartsSpec).at F).post enc Tryd.prog Tryd.f6 false true false false) := by
  obtain ⟨places, hx⟩ := reads_parseParts os enc
  refine returnsInHanded_of_row (C := Tryd.checked) (s := OpenSpec.ofChange Rows.parsePartsSpec) own_ok started (by kernel_rfl) Tryd.func6
    (witness_row_at (enc := enc) (C := Tryd.checked) false (laidWorld os) #[.slice none 0 0, .slice none 0 0] rfl (by kernel_rfl) (by kernel_rfl) (by kernel_rfl)
      (OpenSpec.preRow_of_cond 8 hx (by kernel_rfl) (fun k hk => by cases hk) (by kernel_rfl) (laid_met_parseParts os))) ?_
  intro W base args ds gs before hval0 hW0 _ _ hsz0 hL _ _
  have hG : Glob glU W (okW W) := glob_laid hL
  have hW : DataW.Whole enc Tryd.prog Tryd.f6.params.toList Rows.parsePartsSpec.vars false W args.toList ds gs before := hW0
  have hsz : (DataW.weightsEach Tryd.prog (Tryd.f6.params.toList ++ Rows.parsePartsSpec.plain.varTypes Tryd.prog) (ds ++ gs)).all (· ≤ reachBytes) = true := hsz0
  have hval : ∀ (j : Nat) t v, Tryd.f6.params[j]? = some t → args[j]? = some v → Value.okWide Tryd.prog W .any base t v := hval0
  have hW' := hW
  obtain ⟨p, q, hA0, hV, rfl, hfz, hnd⟩ := hW
  have hA : DataW.TrodAll enc Tryd.prog W 0 (fun _ => true) true Tryd.f6.params.toList args.toList ds p := hA0
  rw [Tryd.params6] at hA hval hsz
  obtain ⟨v0, vs0, d0, ds0, p0, q0, hargs, rfl, rfl, h0, r0⟩ := trodAll_cons hA
  obtain ⟨v1, vs1, d1, ds1, p1, q1, rfl, rfl, rfl, h1, r1⟩ := trodAll_cons r0
  obtain ⟨rfl, rfl, rfl⟩ := trodAll_nil r1
  obtain rfl : args = [v0, v1].toArray := by rw [← hargs]
  obtain ⟨rfl, rfl⟩ := trodVars_none hV
  obtain ⟨l0, hr0, hb0⟩ := rd_toks (hval 0 _ v0 rfl rfl) h0
  have hf0 := hb0 _ (fits_of hsz (j := 0) rfl rfl)
  obtain ⟨l1, hr1, hb1⟩ := rd_toks (hval 1 _ v1 rfl rfl) h1
  have hf1 := hb1 _ (fits_of hsz (j := 1) rfl rfl)
  exact law_callsG (vs := [v0, v1]) laid_ok hW' rfl rfl rfl Tryd.underlying4 (by kernel_rfl) hG (c_parseParts (a := l0) (b := l1)) rfl (rep_two hr0 hr1)

theorem parseParts_said : Rows.ParsePartsSaid :=
  OpenClaim.holds_of_cond 6 Tryd.f6 rfl rfl rfl rfl rfl rfl rfl ⟨rfl, rfl, rfl, rfl, rfl⟩ rfl rfl rfl rfl rfl (by kernel_rfl) Tryd.func6 (by kernel_rfl)
    (of_decide_eq_true (by kernel_rfl)) (by unfold Func.isWrapper; first | (rw [if_pos (by decide +kernel)]; kernel_rfl) | (rw [if_neg (by decide +kernel)]; exact ⟨rfl, rfl⟩))
    (fun os started H enc _ F => by rw [OpenClaim.pre_eq_preRow]; exact lifted_parseParts os started H enc F)
theorem plain_parseParts (f : FuncId) (fn : Func) (hf : Tryd.pinned.checked.prog.funcNamed "scantling/scantlinglaw05.ParseParts" = some f) (hfn : Tryd.pinned.checked.prog.funcs[f]? = some fn) :
    true = Tryd.pinned.checked.prog.looks [] ∧ ∀ (j : Nat) t, fn.params[j]? = some t → Tryd.pinned.checked.prog.wantsStandIn t = false := by
  obtain rfl : f = 6 := Option.some.inj ((show Tryd.prog.funcNamed "scantling/scantlinglaw05.ParseParts" = some 6 by kernel_rfl).symm.trans hf) |>.symm
  obtain rfl : fn = Tryd.f6 := (Option.some.inj (Tryd.func6.symm.trans hfn)).symm
  refine ⟨by kernel_rfl, fun j t ht => ?_⟩
  rw [Tryd.params6] at ht
  have hall : ([22, 22] : List Nat).all (fun t => Tryd.prog.wantsStandIn t == false) = true := by kernel_rfl
  have hm := List.all_eq_true.1 hall t (by simpa using Array.mem_of_getElem? ht)
  exact (show Tryd.prog.wantsStandIn t = false by simpa using hm)
/-- The card. -/
theorem parseParts_holds : Rows.ParsePartsCardSaid :=
  Claim7.holds_tied_plain_at .later [] _ _ _ _ parseParts_said (fun _ h => by cases h) (by kernel_rfl) (fun _ h => by cases h) parseParts_row_tie rfl ⟨rfl, rfl⟩ (by kernel_rfl) rfl plain_parseParts (by kernel_rfl)
end Go.Proofs.YtoidlnhgaaohdaaDoor
