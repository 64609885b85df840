/- Proved: scantlinglaw05.ParseOnly returns true, and its arguments read as they did, whatever the input. No condition beyond the statement's own. -/
import Derived.Test.YtoidlnhgaaohdaaDoorParOn
import Derived.Test.YtoidlnhgaaohdaaDoorRdUp
import Derived.Test.YtoidlnhgaaohdaaDoorCards
import Derived.Test.YtoidlnhgaaohdaaDoorTie
namespace Go.Proofs.YtoidlnhgaaohdaaDoor
set_option linter.all false
open Go Go.ChangeShapes Go.WideShapes Go.ChangeAt Go.RowKit
open Nat (reduceEqDiff reduceAdd reduceMul reduceSub reduceLeDiff)
open Int (reduceEq reduceLT reduceLE)

theorem rep_one {W : World} {x : D} {v : Value} (h : Rep W (okW W) x v) : ∀ (i : Nat) x' v', [x][i]? = some x' → [v][i]? = some v' → Rep W (okW W) x' v'
  | 0, _, _, h1, h2 => by simp at h1 h2; subst h1; subst h2; exact h
  | i + 1, _, _, h1, _ => by simp at h1

theorem laid_met_parseOnly (os : Os) : laidMet Tryd.prog Rows.parseOnlyRow.laid ((laidWorld os).forCall (fun _ _ => 0) ⟨#[], #[.slice none 0 0], []⟩).memory := laidMet_of_run' 8 (by kernel_rfl) (by kernel_rfl)
theorem reads_parseOnly (os : Os) {H : Type} (enc : TypeId × Value → H) : ∃ places, DataW.whole enc Tryd.prog ((laidWorld os).forCall (fun _ _ => 0) ⟨#[], #[.slice none 0 0], []⟩).memory Tryd.f5.params.toList Rows.parseOnlySpec.vars false (#[.slice none 0 0] : Array Value).toList 8 = some ([.nil], [], places) := ⟨[], by kernel_rfl⟩
set_option maxRecDepth 100000 in
theorem lifted_parseOnly (os : Os) (started : os.Started) (H : Type) (enc : TypeId × Value → H) (F : Stop.Interp) :
    ReturnsInHanded {} Tryd.checked os 5 .any ((OpenSpec.ofChange Rows.parseOnlySpec).preRow enc Tryd.prog Tryd.f5 Rows.parseOnlyRow.domain false Rows.parseOnlyRow.laid) (((OpenSpec.ofChange Rows.parseOnlySpec).at F).post enc Tryd.prog Tryd.f5 false true false false) := by
  obtain ⟨places, hx⟩ := reads_parseOnly os enc
  refine returnsInHanded_of_row (C := Tryd.checked) (s := OpenSpec.ofChange Rows.parseOnlySpec) own_ok started (by kernel_rfl) Tryd.func5
    (witness_row_at (enc := enc) (C := Tryd.checked) false (laidWorld os) #[.slice none 0 0] rfl (by kernel_rfl) (by kernel_rfl) (by kernel_rfl)
      (OpenSpec.preRow_of_cond 8 hx (by kernel_rfl) (fun k hk => by cases hk) (by kernel_rfl) (laid_met_parseOnly os))) ?_
  intro W base args ds gs before hval0 hW0 _ _ hsz0 hL _ _
  have hG : Glob glU W (okW W) := glob_laid hL
  have hW : DataW.Whole enc Tryd.prog Tryd.f5.params.toList Rows.parseOnlySpec.vars false W args.toList ds gs before := hW0
  have hsz : (DataW.weightsEach Tryd.prog (Tryd.f5.params.toList ++ Rows.parseOnlySpec.plain.varTypes Tryd.prog) (ds ++ gs)).all (· ≤ reachBytes) = true := hsz0
  have hval : ∀ (j : Nat) t v, Tryd.f5.params[j]? = some t → args[j]? = some v → Value.okWide Tryd.prog W .any base t v := hval0
  have hW' := hW
  obtain ⟨p, q, hA0, hV, rfl, hfz, hnd⟩ := hW
  have hA : DataW.TrodAll enc Tryd.prog W 0 (fun _ => true) true Tryd.f5.params.toList args.toList ds p := hA0
  rw [Tryd.params5] at hA hval hsz
  obtain ⟨v0, vs0, d0, ds0, p0, q0, hargs, rfl, rfl, h0, r0⟩ := trodAll_cons hA
  obtain ⟨rfl, rfl, rfl⟩ := trodAll_nil r0
  obtain rfl : args = [v0].toArray := by rw [← hargs]
  obtain ⟨rfl, rfl⟩ := trodVars_none hV
  obtain ⟨l0, hr0, hb0⟩ := rd_toks (hval 0 _ v0 rfl rfl) h0
  have hf0 := hb0 _ (fits_of hsz (j := 0) rfl rfl)
  exact law_callsG (vs := [v0]) laid_ok hW' rfl rfl rfl Tryd.underlying4 (by kernel_rfl) hG (c_parseOnly (l := l0)) rfl (rep_one hr0)

theorem parseOnly_said : Rows.ParseOnlySaid :=
  OpenClaim.holds_of_cond 5 Tryd.f5 rfl rfl rfl rfl rfl rfl rfl ⟨rfl, rfl, rfl, rfl, rfl⟩ rfl rfl rfl rfl rfl (by kernel_rfl) Tryd.func5 (by kernel_rfl)
    (of_decide_eq_true (by kernel_rfl)) (by unfold Func.isWrapper; first | (rw [if_pos (by decide +kernel)]; kernel_rfl) | (rw [if_neg (by decide +kernel)]; exact ⟨rfl, rfl⟩))
    (fun os started H enc _ F => by rw [OpenClaim.pre_eq_preRow]; exact lifted_parseOnly os started H enc F)
theorem plain_parseOnly (f : FuncId) (fn : Func) (hf : Tryd.pinned.checked.prog.funcNamed "scantling/scantlinglaw05.ParseOnly" = some f) (hfn : Tryd.pinned.checked.prog.funcs[f]? = some fn) :
    true = Tryd.pinned.checked.prog.looks [] ∧ ∀ (j : Nat) t, fn.params[j]? = some t → Tryd.pinned.checked.prog.wantsStandIn t = false := by
  obtain rfl : f = 5 := Option.some.inj ((show Tryd.prog.funcNamed "scantling/scantlinglaw05.ParseOnly" = some 5 by kernel_rfl).symm.trans hf) |>.symm
  obtain rfl : fn = Tryd.f5 := (Option.some.inj (Tryd.func5.symm.trans hfn)).symm
  refine ⟨by kernel_rfl, fun j t ht => ?_⟩
  rw [Tryd.params5] at ht
  have hall : ([22] : List Nat).all (fun t => Tryd.prog.wantsStandIn t == false) = true := by kernel_rfl
  have hm := List.all_eq_true.1 hall t (by simpa using Array.mem_of_getElem? ht)
  exact (show Tryd.prog.wantsStandIn t = false by simpa using hm)
/-- The card. -/
theorem parseOnly_holds : Rows.ParseOnlyCardSaid :=
  Claim7.holds_tied_plain_at .later [] _ _ _ _ parseOnly_said (fun _ h => by cases h) (by kernel_rfl) (fun _ h => by cases h) parseOnly_row_tie rfl ⟨rfl, rfl⟩ (by kernel_rfl) rfl plain_parseOnly (by kernel_rfl)
end Go.Proofs.YtoidlnhgaaohdaaDoor
