/-
  NARROWER THAN 'FOR EVERY INPUT', by the rows' own cells (each row's printed sentence says how): ValueTells: loops · ValueWrites: loops · ValueOnly: loops · ValueBuilt: loops · CountFinds: loops.
  DERIVED. THE GIVEN ROWS OF THIS SEAT. 9 by the template 'for every input the law returns true; each argument reads behind the call as it read before'; 0 by the template 'total and deterministic' (their statements: YtpibdbjlilpfiaaTotals.lean).
  GIVEN WITH THE SEED: the statements are not yours to turn. If you find one false, say at which input.
  Laid BY PROGRAM, IN A SANDBOX (cutbox-rows.mjs): the forced cells as the released guide's own fill.sh prints them over the translation 0c502cdb4c0ea586… (all of the seat's roots in one cut). By AI agents, Wed Nov 11 2026. No macro, syntax, notation, axiom, sorry.
-/
import Derived.Test.YtpibdbjlilpfiaaChecked
import GoSem.Claim
import GoSem.ClaimJoined
import GoSem.ClaimMapViews
import Derived.JoinedTies
import Derived.KernelRfl
namespace Go.Proofs.Ytpibdbjlilpfiaa
/- THE CELL 'sum', in the pinned program and in every row, IS THE sha256 OF THE DUMP (.gsa) THAT YtpibdbjlilpfiaaProg.lean LOADS. Nothing in Lean hashes anything: it is a label: what it is worth is what the hold of that sum in a sandbox is worth. -/
noncomputable def Try.pinned : Pinned := { name := "ytpibdbjlilpfiaa", sum := "0c502cdb4c0ea586aaa90ab82b314e52fe91eb136add61f113a1216508950c13", checked := Try.checked }
namespace Rows
def none {H : Type} : Left H := { results := [], args := [] }

/-- 'scantlinglaw11.ValueTells': WHATEVER THE INPUT: true; the input reads as it did. -/
def valueTellsSpec : ChangeSpec := { name := "valueTells", fn := fun _ => fun
  | [d1, d2, d3] => { results := [.lit (.bool true)], args := [d1, d2, d3] }
  | _ => none }
def valueTellsRow : OpenClaim := { program := "ytpibdbjlilpfiaa", sum := "0c502cdb4c0ea586aaa90ab82b314e52fe91eb136add61f113a1216508950c13", func := "scantling/scantlinglaw11.ValueTells", spec := "valueTells", unfollowed := true, recurses := true, loops := true, plainKeys := false, apart := false }
def ValueTellsSaid : Prop := valueTellsRow.holds Try.pinned (OpenSpec.ofChange valueTellsSpec)

/-- ITS FALSE NEIGHBOUR: 'it returns false'. Refute it at one input. -/
def valueTellsWrong : ChangeSpec := { name := "valueTells", fn := fun _ => fun
  | [d1, d2, d3] => { results := [.lit (.bool false)], args := [d1, d2, d3] }
  | _ => none }
def ValueTellsWrongFalsely : Prop := valueTellsRow.holds Try.pinned (OpenSpec.ofChange valueTellsWrong)

/-- 'scantlinglaw11.ValueWrites': WHATEVER THE INPUT: true; the input reads as it did. -/
def valueWritesSpec : ChangeSpec := { name := "valueWrites", fn := fun _ => fun
  | [d1, d2] => { results := [.lit (.bool true)], args := [d1, d2] }
  | _ => none }
def valueWritesRow : OpenClaim := { program := "ytpibdbjlilpfiaa", sum := "0c502cdb4c0ea586aaa90ab82b314e52fe91eb136add61f113a1216508950c13", func := "scantling/scantlinglaw11.ValueWrites", spec := "valueWrites", unfollowed := true, recurses := true, loops := true, plainKeys := false, apart := false }
def ValueWritesSaid : Prop := valueWritesRow.holds Try.pinned (OpenSpec.ofChange valueWritesSpec)

/-- ITS FALSE NEIGHBOUR: 'it returns false'. Refute it at one input. -/
def valueWritesWrong : ChangeSpec := { name := "valueWrites", fn := fun _ => fun
  | [d1, d2] => { results := [.lit (.bool false)], args := [d1, d2] }
  | _ => none }
def ValueWritesWrongFalsely : Prop := valueWritesRow.holds Try.pinned (OpenSpec.ofChange valueWritesWrong)

/-- 'scantlinglaw11.ValueOnly': WHATEVER THE INPUT: true; the input reads as it did. -/
def valueOnlySpec : ChangeSpec := { name := "valueOnly", fn := fun _ => fun
  | [d1, d2, d3, d4] => { results := [.lit (.bool true)], args := [d1, d2, d3, d4] }
  | _ => none }
def valueOnlyRow : OpenClaim := { program := "ytpibdbjlilpfiaa", sum := "0c502cdb4c0ea586aaa90ab82b314e52fe91eb136add61f113a1216508950c13", func := "scantling/scantlinglaw11.ValueOnly", spec := "valueOnly", unfollowed := true, recurses := true, loops := true, plainKeys := false, apart := false }
def ValueOnlySaid : Prop := valueOnlyRow.holds Try.pinned (OpenSpec.ofChange valueOnlySpec)

/-- ITS FALSE NEIGHBOUR: 'it returns false'. Refute it at one input. -/
def valueOnlyWrong : ChangeSpec := { name := "valueOnly", fn := fun _ => fun
  | [d1, d2, d3, d4] => { results := [.lit (.bool false)], args := [d1, d2, d3, d4] }
  | _ => none }
def ValueOnlyWrongFalsely : Prop := valueOnlyRow.holds Try.pinned (OpenSpec.ofChange valueOnlyWrong)

/-- 'scantlinglaw11.ValueBuilt': WHATEVER THE INPUT: true; the input reads as it did. -/
def valueBuiltSpec : ChangeSpec := { name := "valueBuilt", fn := fun _ => fun
  | [d1, d2, d3, d4] => { results := [.lit (.bool true)], args := [d1, d2, d3, d4] }
  | _ => none }
def valueBuiltRow : OpenClaim := { program := "ytpibdbjlilpfiaa", sum := "0c502cdb4c0ea586aaa90ab82b314e52fe91eb136add61f113a1216508950c13", func := "scantling/scantlinglaw11.ValueBuilt", spec := "valueBuilt", unfollowed := true, recurses := true, loops := true, plainKeys := false, apart := false }
def ValueBuiltSaid : Prop := valueBuiltRow.holds Try.pinned (OpenSpec.ofChange valueBuiltSpec)

/-- ITS FALSE NEIGHBOUR: 'it returns false'. Refute it at one input. -/
def valueBuiltWrong : ChangeSpec := { name := "valueBuilt", fn := fun _ => fun
  | [d1, d2, d3, d4] => { results := [.lit (.bool false)], args := [d1, d2, d3, d4] }
  | _ => none }
def ValueBuiltWrongFalsely : Prop := valueBuiltRow.holds Try.pinned (OpenSpec.ofChange valueBuiltWrong)

/-- 'scantlinglaw12.CountTells': WHATEVER THE INPUT: true; the input reads as it did. -/
def countTellsSpec : ChangeSpec := { name := "countTells", fn := fun _ => fun
  | [d1, d2] => { results := [.lit (.bool true)], args := [d1, d2] }
  | _ => none }
def countTellsRow : OpenClaim := { program := "ytpibdbjlilpfiaa", sum := "0c502cdb4c0ea586aaa90ab82b314e52fe91eb136add61f113a1216508950c13", func := "scantling/scantlinglaw12.CountTells", spec := "countTells", unfollowed := true, recurses := true, plainKeys := false, apart := false }
def CountTellsSaid : Prop := countTellsRow.holds Try.pinned (OpenSpec.ofChange countTellsSpec)

/-- ITS FALSE NEIGHBOUR: 'it returns false'. Refute it at one input. -/
def countTellsWrong : ChangeSpec := { name := "countTells", fn := fun _ => fun
  | [d1, d2] => { results := [.lit (.bool false)], args := [d1, d2] }
  | _ => none }
def CountTellsWrongFalsely : Prop := countTellsRow.holds Try.pinned (OpenSpec.ofChange countTellsWrong)

/-- 'scantlinglaw12.CountFinds': WHATEVER THE INPUT: true; the input reads as it did. -/
def countFindsSpec : ChangeSpec := { name := "countFinds", fn := fun _ => fun
  | [d1, d2, d3] => { results := [.lit (.bool true)], args := [d1, d2, d3] }
  | _ => none }
def countFindsRow : OpenClaim := { program := "ytpibdbjlilpfiaa", sum := "0c502cdb4c0ea586aaa90ab82b314e52fe91eb136add61f113a1216508950c13", func := "scantling/scantlinglaw12.CountFinds", spec := "countFinds", unfollowed := true, recurses := true, loops := true, plainKeys := false, apart := false }
def CountFindsSaid : Prop := countFindsRow.holds Try.pinned (OpenSpec.ofChange countFindsSpec)

/-- ITS FALSE NEIGHBOUR: 'it returns false'. Refute it at one input. -/
def countFindsWrong : ChangeSpec := { name := "countFinds", fn := fun _ => fun
  | [d1, d2, d3] => { results := [.lit (.bool false)], args := [d1, d2, d3] }
  | _ => none }
def CountFindsWrongFalsely : Prop := countFindsRow.holds Try.pinned (OpenSpec.ofChange countFindsWrong)

/-- 'scantlinglaw12.CountBuilt': WHATEVER THE INPUT: true; the input reads as it did. -/
def countBuiltSpec : ChangeSpec := { name := "countBuilt", fn := fun _ => fun
  | [d1, d2, d3] => { results := [.lit (.bool true)], args := [d1, d2, d3] }
  | _ => none }
def countBuiltRow : OpenClaim := { program := "ytpibdbjlilpfiaa", sum := "0c502cdb4c0ea586aaa90ab82b314e52fe91eb136add61f113a1216508950c13", func := "scantling/scantlinglaw12.CountBuilt", spec := "countBuilt", unfollowed := true, recurses := true, plainKeys := false, apart := false }
def CountBuiltSaid : Prop := countBuiltRow.holds Try.pinned (OpenSpec.ofChange countBuiltSpec)

/-- ITS FALSE NEIGHBOUR: 'it returns false'. Refute it at one input. -/
def countBuiltWrong : ChangeSpec := { name := "countBuilt", fn := fun _ => fun
  | [d1, d2, d3] => { results := [.lit (.bool false)], args := [d1, d2, d3] }
  | _ => none }
def CountBuiltWrongFalsely : Prop := countBuiltRow.holds Try.pinned (OpenSpec.ofChange countBuiltWrong)

/-- 'scantlinglaw12.CountStar': WHATEVER THE INPUT: true; the input reads as it did. -/
def countStarSpec : ChangeSpec := { name := "countStar", fn := fun _ => fun
  | [d1, d2] => { results := [.lit (.bool true)], args := [d1, d2] }
  | _ => none }
def countStarRow : OpenClaim := { program := "ytpibdbjlilpfiaa", sum := "0c502cdb4c0ea586aaa90ab82b314e52fe91eb136add61f113a1216508950c13", func := "scantling/scantlinglaw12.CountStar", spec := "countStar", unfollowed := true, recurses := true, plainKeys := false, apart := false }
def CountStarSaid : Prop := countStarRow.holds Try.pinned (OpenSpec.ofChange countStarSpec)

/-- ITS FALSE NEIGHBOUR: 'it returns false'. Refute it at one input. -/
def countStarWrong : ChangeSpec := { name := "countStar", fn := fun _ => fun
  | [d1, d2] => { results := [.lit (.bool false)], args := [d1, d2] }
  | _ => none }
def CountStarWrongFalsely : Prop := countStarRow.holds Try.pinned (OpenSpec.ofChange countStarWrong)

/-- 'scantlinglaw12.CountRow': WHATEVER THE INPUT: true; the input reads as it did. -/
def countRowSpec : ChangeSpec := { name := "countRow", fn := fun _ => fun
  | [d1, d2, d3] => { results := [.lit (.bool true)], args := [d1, d2, d3] }
  | _ => none }
def countRowRow : OpenClaim := { program := "ytpibdbjlilpfiaa", sum := "0c502cdb4c0ea586aaa90ab82b314e52fe91eb136add61f113a1216508950c13", func := "scantling/scantlinglaw12.CountRow", spec := "countRow", unfollowed := true, recurses := true, plainKeys := false, apart := false }
def CountRowSaid : Prop := countRowRow.holds Try.pinned (OpenSpec.ofChange countRowSpec)

/-- ITS FALSE NEIGHBOUR: 'it returns false'. Refute it at one input. -/
def countRowWrong : ChangeSpec := { name := "countRow", fn := fun _ => fun
  | [d1, d2, d3] => { results := [.lit (.bool false)], args := [d1, d2, d3] }
  | _ => none }
def CountRowWrongFalsely : Prop := countRowRow.holds Try.pinned (OpenSpec.ofChange countRowWrong)

/- THE SECOND FORM. 'bulk': how many values and letters a reading holds, each counted each time it is reached (what is shared counts as often as it is met; a slice's spare places count too). A statement '..UptoSaid' is the law's where the arguments, and the package variables that the reading takes, are together of bulk at most 1048576: NARROWER than '..Said'. Prove '..Said' where nothing that the law and all that it calls make is longer than what came in: it says more and counts as full. Else prove '..UptoSaid'. A law counts once. -/
mutual
def uptoBulk {H : Type} : DataW H → Nat
  | .lit (.string bytes) => bytes.length + 1
  | .lit _ => 1
  | .nil => 1
  | .ptr d => uptoBulk d + 1
  | .slice elems spare => uptoBulkAll elems + uptoBulkAll spare + 1
  | .agg parts => uptoBulkAll parts + 1
  | .iface _ d => uptoBulk d + 1
  | .map entries => uptoBulkEntries entries + 1
  | .held _ => 1
def uptoBulkAll {H : Type} : List (DataW H) → Nat
  | [] => 0
  | d :: r => uptoBulk d + uptoBulkAll r
def uptoBulkEntries {H : Type} : List (Lit × DataW H) → Nat
  | [] => 0
  | x :: r => uptoBulkEntry x + uptoBulkEntries r
def uptoBulkEntry {H : Type} : Lit × DataW H → Nat
  | (.string bytes, d) => bytes.length + uptoBulk d + 1
  | (_, d) => uptoBulk d + 1
 end
def uptoSmall : (H : Type) → List (DataW H) → Bool := fun _ ds => decide (uptoBulkAll ds ≤ 1048576)
def OpenSpec.upto (s : _root_.Go.ChangeSpec) : _root_.Go.OpenSpec := { _root_.Go.OpenSpec.ofChange s with cond := some uptoSmall }

/-- 'scantlinglaw11.ValueTells', WHERE WHAT IT READS IS OF BULK AT MOST 1048576: true; the input reads as it did. -/
def valueTellsUptoRow : OpenClaim := { program := "ytpibdbjlilpfiaa", sum := "0c502cdb4c0ea586aaa90ab82b314e52fe91eb136add61f113a1216508950c13", func := "scantling/scantlinglaw11.ValueTells", spec := "valueTells", unfollowed := true, recurses := true, loops := true, plainKeys := false, apart := false, narrowed := true }
def ValueTellsUptoSaid : Prop := valueTellsUptoRow.holds Try.pinned (OpenSpec.upto valueTellsSpec)

/-- 'scantlinglaw11.ValueWrites', WHERE WHAT IT READS IS OF BULK AT MOST 1048576: true; the input reads as it did. -/
def valueWritesUptoRow : OpenClaim := { program := "ytpibdbjlilpfiaa", sum := "0c502cdb4c0ea586aaa90ab82b314e52fe91eb136add61f113a1216508950c13", func := "scantling/scantlinglaw11.ValueWrites", spec := "valueWrites", unfollowed := true, recurses := true, loops := true, plainKeys := false, apart := false, narrowed := true }
def ValueWritesUptoSaid : Prop := valueWritesUptoRow.holds Try.pinned (OpenSpec.upto valueWritesSpec)

/-- 'scantlinglaw11.ValueOnly', WHERE WHAT IT READS IS OF BULK AT MOST 1048576: true; the input reads as it did. -/
def valueOnlyUptoRow : OpenClaim := { program := "ytpibdbjlilpfiaa", sum := "0c502cdb4c0ea586aaa90ab82b314e52fe91eb136add61f113a1216508950c13", func := "scantling/scantlinglaw11.ValueOnly", spec := "valueOnly", unfollowed := true, recurses := true, loops := true, plainKeys := false, apart := false, narrowed := true }
def ValueOnlyUptoSaid : Prop := valueOnlyUptoRow.holds Try.pinned (OpenSpec.upto valueOnlySpec)

/-- 'scantlinglaw11.ValueBuilt', WHERE WHAT IT READS IS OF BULK AT MOST 1048576: true; the input reads as it did. -/
def valueBuiltUptoRow : OpenClaim := { program := "ytpibdbjlilpfiaa", sum := "0c502cdb4c0ea586aaa90ab82b314e52fe91eb136add61f113a1216508950c13", func := "scantling/scantlinglaw11.ValueBuilt", spec := "valueBuilt", unfollowed := true, recurses := true, loops := true, plainKeys := false, apart := false, narrowed := true }
def ValueBuiltUptoSaid : Prop := valueBuiltUptoRow.holds Try.pinned (OpenSpec.upto valueBuiltSpec)

/-- 'scantlinglaw12.CountTells', WHERE WHAT IT READS IS OF BULK AT MOST 1048576: true; the input reads as it did. -/
def countTellsUptoRow : OpenClaim := { program := "ytpibdbjlilpfiaa", sum := "0c502cdb4c0ea586aaa90ab82b314e52fe91eb136add61f113a1216508950c13", func := "scantling/scantlinglaw12.CountTells", spec := "countTells", unfollowed := true, recurses := true, plainKeys := false, apart := false, narrowed := true }
def CountTellsUptoSaid : Prop := countTellsUptoRow.holds Try.pinned (OpenSpec.upto countTellsSpec)

/-- 'scantlinglaw12.CountFinds', WHERE WHAT IT READS IS OF BULK AT MOST 1048576: true; the input reads as it did. -/
def countFindsUptoRow : OpenClaim := { program := "ytpibdbjlilpfiaa", sum := "0c502cdb4c0ea586aaa90ab82b314e52fe91eb136add61f113a1216508950c13", func := "scantling/scantlinglaw12.CountFinds", spec := "countFinds", unfollowed := true, recurses := true, loops := true, plainKeys := false, apart := false, narrowed := true }
def CountFindsUptoSaid : Prop := countFindsUptoRow.holds Try.pinned (OpenSpec.upto countFindsSpec)

/-- 'scantlinglaw12.CountBuilt', WHERE WHAT IT READS IS OF BULK AT MOST 1048576: true; the input reads as it did. -/
def countBuiltUptoRow : OpenClaim := { program := "ytpibdbjlilpfiaa", sum := "0c502cdb4c0ea586aaa90ab82b314e52fe91eb136add61f113a1216508950c13", func := "scantling/scantlinglaw12.CountBuilt", spec := "countBuilt", unfollowed := true, recurses := true, plainKeys := false, apart := false, narrowed := true }
def CountBuiltUptoSaid : Prop := countBuiltUptoRow.holds Try.pinned (OpenSpec.upto countBuiltSpec)

/-- 'scantlinglaw12.CountStar', WHERE WHAT IT READS IS OF BULK AT MOST 1048576: true; the input reads as it did. -/
def countStarUptoRow : OpenClaim := { program := "ytpibdbjlilpfiaa", sum := "0c502cdb4c0ea586aaa90ab82b314e52fe91eb136add61f113a1216508950c13", func := "scantling/scantlinglaw12.CountStar", spec := "countStar", unfollowed := true, recurses := true, plainKeys := false, apart := false, narrowed := true }
def CountStarUptoSaid : Prop := countStarUptoRow.holds Try.pinned (OpenSpec.upto countStarSpec)

/-- 'scantlinglaw12.CountRow', WHERE WHAT IT READS IS OF BULK AT MOST 1048576: true; the input reads as it did. -/
def countRowUptoRow : OpenClaim := { program := "ytpibdbjlilpfiaa", sum := "0c502cdb4c0ea586aaa90ab82b314e52fe91eb136add61f113a1216508950c13", func := "scantling/scantlinglaw12.CountRow", spec := "countRow", unfollowed := true, recurses := true, plainKeys := false, apart := false, narrowed := true }
def CountRowUptoSaid : Prop := countRowUptoRow.holds Try.pinned (OpenSpec.upto countRowSpec)

end Rows
end Go.Proofs.Ytpibdbjlilpfiaa
