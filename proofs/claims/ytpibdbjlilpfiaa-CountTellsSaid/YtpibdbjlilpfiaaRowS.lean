/- What all rows share. -/
import Derived.Test.YtpibdbjlilpfiaaRdNd
import Derived.Test.YtpibdbjlilpfiaaRowG
import Derived.SizedLaws
namespace Go.Proofs.Ytpibdbjlilpfiaa
set_option linter.all false
open Go Go.ChangeShapes Go.WideShapes Go.ChangeAt Go.RowKit
open Nat (reduceEqDiff reduceAdd reduceMul reduceSub reduceLeDiff)
open Int (reduceEq reduceLT reduceLE)

theorem own_ok : ownKnob Try.prog.godebug = none := by kernel_rfl
theorem laid_ok : laidOutB Try.prog = true := by kernel_rfl
theorem fits_of {H : Type} {ts : List TypeId} {ds : List (DataW H)} (h : (DataW.weightsEach Try.prog ts ds).all (· ≤ reachBytes) = true) {j : Nat} {t : TypeId} {d : DataW H} (ht : ts[j]? = some t) (hd : ds[j]? = some d) : Fits t d 140737488355328 := fun m hm => by
  have h1 := List.all_eq_true.1 h _ (DataW.weights_mem_each ht hd m hm)
  have h2 := reachBytes_lt
  simp only [decide_eq_true_eq] at h1
  omega
end Go.Proofs.Ytpibdbjlilpfiaa
