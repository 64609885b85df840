/- Where the marks stand. -/
import Derived.Test.YtoidlnhgaaohdaaDoorParR
namespace Go.Proofs.YtoidlnhgaaohdaaDoor
set_option linter.all false
open Go Go.RowKit
open Nat (reduceEqDiff reduceAdd reduceMul reduceSub reduceLeDiff)
open Int (reduceEq reduceLT reduceLE)

end Go.Proofs.YtoidlnhgaaohdaaDoor
