/- count: laws of ways (plain). -/
import Derived.Test.YtpibdbjlilpfiaaCntO
import Derived.Test.YtpibdbjlilpfiaaSpec
namespace Go.Proofs.Ytpibdbjlilpfiaa
set_option linter.all false
open Go

section
variable {t r : T} {w : List UInt8}
theorem pos_ex (hok : t.ok txtOk) : 0 < (t.fnd w).length ↔ ∃ v, SV t w v := (fnd_cn hok w).one
end
end Go.Proofs.Ytpibdbjlilpfiaa
