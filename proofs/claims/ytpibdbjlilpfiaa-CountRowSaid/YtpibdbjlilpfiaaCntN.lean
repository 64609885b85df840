/- count: the document's rows (plain). -/
import Derived.Test.YtpibdbjlilpfiaaCntM
namespace Go.Proofs.Ytpibdbjlilpfiaa
set_option linter.all false
open Go

/-- A row that tells how many there are at each place. -/
structure RowOk {α : Type} (r : List Nat) (n : Nat) (S : Nat → α → Prop) : Prop where
  len : r.length = n + 1
  cn : ∀ i, i ≤ n → Cn (S i) (r.getD i 0)
section
variable {α β γ : Type} {n : Nat}
theorem RowOk.congr {r : List Nat} {S S' : Nat → α → Prop} (h : RowOk r n S) (e : ∀ i, i ≤ n → ∀ x, S i x ↔ S' i x) : RowOk r n S' := ⟨h.len, fun i hi => (h.cn i hi).congr (e i hi)⟩
theorem min2 {o a b : Nat} : min 2 (o + min 2 (a * b)) = min 2 (o + a * b) := by omega
end
end Go.Proofs.Ytpibdbjlilpfiaa
