/- What descriptions are, as plain data. -/
import Derived.Test.YtopgjmoajkcdnaaAbs24
namespace Go.Proofs.Ytopgjmoajkcdnaa
set_option linter.all false
open Go Go.RowKit

structure Nd where
  kind : Int
  a : Int
  b : Int
  lo : Int
  hi : Int
  c0 : Int
  c1 : Int
  c2 : Int
  c3 : Int
  text : ByteArray
def Nd.z : Nd := ⟨0, 0, 0, 0, 0, 0, 0, 0, 0, .empty⟩
instance : Inhabited Nd := ⟨Nd.z⟩
def Nd.cells (n : Nd) : List D := [.int .i64 n.kind, .int .i64 n.a, .int .i64 n.b, .int .i64 n.lo, .int .i64 n.hi, .int .u64 n.c0, .int .u64 n.c1, .int .u64 n.c2, .int .u64 n.c3, .str n.text]
def nds (l : List Nd) : D := .slice (l.map Nd.cells)
def desc (l : List Nd) : D := .agg [nds l]
def ints (l : List Int) : D := .slice (l.map fun x => [.int .i64 x])
@[simp] theorem Nd.cells_len (n : Nd) : n.cells.length = 10 := rfl
attribute [go_sem] desc nds ints List.length_map Nd.cells Int.toNat_natCast

/-- What is known of lengths. -/
theorem imp_intro {p q : Prop} (h : p → q) : p → q := h
section
variable {P : Program} {gl : List (Nat × List D)} {nt : Nat} {Q : AExit → St → Prop} {s : St} {α : Type}
theorem ex_map {l : List α} {f : α → List D} {i : Nat} {n : Int} {sz : Nat} {K : List D → Prop} (d : α) (hn : n.toNat = i) (h0 : 0 ≤ n) (h : i < l.length) (hsz : (f (l.getD i d)).length = sz) (hK : K (f (l.getD i d))) : 0 ≤ n ∧ ∃ e, (l.map f)[n.toNat]? = some e ∧ e.length = sz ∧ K e :=
  ⟨h0, _, by rw [hn]; exact at_map d h, hsz, hK⟩
theorem drop_getD {l : List α} {i : Nat} (h : i < l.length) (d : α) : l.drop i = l.getD i d :: l.drop (i + 1) := by
  rw [List.drop_eq_getElem_cons h, List.getD_eq_getElem?_getD, List.getElem?_eq_getElem h]
  rfl
end
end Go.Proofs.Ytopgjmoajkcdnaa
