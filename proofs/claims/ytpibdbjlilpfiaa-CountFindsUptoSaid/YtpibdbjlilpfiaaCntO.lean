/- count: the document's rows are right (plain). -/
import Derived.Test.YtpibdbjlilpfiaaCntN
namespace Go.Proofs.Ytpibdbjlilpfiaa
set_option linter.all false
open Go

section
variable {w : List UInt8} {F : Vl → Option (List UInt8)} {E : Nat → List Nat} {f : Nat}
end
end Go.Proofs.Ytpibdbjlilpfiaa
