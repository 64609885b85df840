/- How bytes are read. -/
import Derived.Test.YtpibdbjlilpfiaaRdNd
import Derived.Test.YtpibdbjlilpfiaaVal
namespace Go.Proofs.Ytpibdbjlilpfiaa
set_option linter.all false
open Go Go.RowKit
open Nat (reduceEqDiff reduceAdd reduceMul reduceSub reduceLeDiff)
open Int (reduceEq reduceLT reduceLE)

section
variable {H : Type} {enc : TypeId × Value → H} {w : World}
/-- A row of bytes, as it is handed in. -/
theorem rd_bytesA {base : Nat} {v : Value} {d : DataW H} {ps : List MemPlace} (hv : Value.okWide Try.prog w .any base 31 v) (h : DataW.Trod enc Try.prog w 0 (fun _ => true) true 31 v d ps) : ∃ l : List UInt8, Rep w (okW w) (bys l) v := by
  obtain ⟨fuel, h⟩ := h
  have hc1 : Try.prog.cellsOf 5 = 1 := by kernel_rfl
  obtain ⟨l, v', h1, h2, h3, h4⟩ := rd_slice Try.underlying31 hc1 (by decide) encB (fun _ => rfl) (fun _ _ => True) (fun h => by
    obtain ⟨n, rfl, rfl, hw⟩ := DataW.trod_int Try.underlying5 h
    have hn : 0 ≤ n ∧ n ≤ 255 := by simpa [Lit.wf, IntKind.min, IntKind.max, IntKind.signed, IntKind.bits] using hw
    refine ⟨UInt8.ofNat n.toNat, trivial, ?_⟩
    have e : encB (UInt8.ofNat n.toNat) = [D.int .u8 n] := by
      unfold encB
      rw [UInt8.toNat_ofNat', show ((n.toNat % 2 ^ 8 : Nat) : Int) = n by omega]
    rw [e]
    exact cells_one (.int _ _) rfl) h
  obtain ⟨a0, len, cap, rfl⟩ := Go.WideShapes.okWide_slice Try.underlying31 hv
  have hvv : Value.slice a0 len cap = v' := by
    simp [Value.cells] at h1
    exact h1
  subst hvv
  exact ⟨l, h2⟩
end
end Go.Proofs.Ytpibdbjlilpfiaa
