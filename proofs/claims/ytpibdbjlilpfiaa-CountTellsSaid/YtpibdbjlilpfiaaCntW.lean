/- count: laws of ways (plain). -/
import Derived.Test.YtpibdbjlilpfiaaCntO
import Derived.Test.YtpibdbjlilpfiaaSpec
namespace Go.Proofs.Ytpibdbjlilpfiaa
set_option linter.all false
open Go

section
variable {t r : T} {w : List UInt8}
end
end Go.Proofs.Ytpibdbjlilpfiaa
