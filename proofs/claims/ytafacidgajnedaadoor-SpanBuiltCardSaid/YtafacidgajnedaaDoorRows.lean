/-
  NARROWER THAN 'FOR EVERY INPUT', by the rows' own cells (each row's printed sentence says how): SpanTells: laid · SpanForms: laid · SpanBuilt: laid · SpanTimes: laid.
  DERIVED. THE GIVEN ROWS OF THIS SEAT. 4 by the template 'for every input the law returns true; each argument reads behind the call as it read before'; 0 by the template 'total and deterministic' (their statements: YtafacidgajnedaaDoorTotals.lean).
  GIVEN WITH THE SEED: the statements are not yours to turn. If you find one false, say at which input.
  Laid BY PROGRAM, IN A SANDBOX (cutbox-rows.mjs): the forced cells as the released guide's own fill.sh prints them over the translation b6ebca5a609e00b4… (all of the seat's roots in one cut). By AI agents, Wed Nov 11 2026. No macro, syntax, notation, axiom, sorry.
-/
import Derived.Test.YtafacidgajnedaaDoorChecked
import GoSem.Claim
import GoSem.ClaimJoined
import GoSem.ClaimMapViews
import Derived.JoinedTies
import Derived.KernelRfl
namespace Go.Proofs.YtafacidgajnedaaDoor
/- THE CELL 'sum', in the pinned program and in every row, IS THE sha256 OF THE DUMP (.gsa) THAT YtafacidgajnedaaDoorProg.lean LOADS. Nothing in Lean hashes anything: it is a label: what it is worth is what the hold of that sum in a sandbox is worth. -/
noncomputable def Tryd.pinned : Pinned := { name := "ytafacidgajnedaadoor", sum := "b6ebca5a609e00b4d6e5cf9437effa72f96b2915a04881571245ad77a9f1c482", checked := Tryd.checked }
namespace Rows
def none {H : Type} : Left H := { results := [], args := [] }

/- WHAT THE LISTED PACKAGE-LEVEL VARIABLES READ AS WHEN THE CALL BEGINS. Each datum BY PROGRAM (the guide's laid-datum.mjs) off the statement by which the dump's own 'gosem.cut.vars' lays the variable. In a bare row this is a premise. The card (YtafacidgajnedaaDoorCards.lean) ties it to the program's text. -/
def laid_scantling_span_nothing {H : Type} : DataW H := .agg [.lit (.int .i64 (-1)), .lit (.int .i64 (-1))]

/-- 'scantlinglaw10.SpanTells': WHATEVER THE INPUT: true; the input reads as it did. -/
def spanTellsSpec : ChangeSpec := { name := "spanTells", fn := fun _ => fun
  | [d1, d2] => { results := [.lit (.bool true)], args := [d1, d2] }
  | _ => none }
def spanTellsRow : OpenClaim := { program := "ytafacidgajnedaadoor", sum := "b6ebca5a609e00b4d6e5cf9437effa72f96b2915a04881571245ad77a9f1c482", func := "scantling/scantlinglaw10.SpanTells", spec := "spanTells", unfollowed := true, recurses := true, named := ["scantling/span.nothing"], apart := false, laid := [("scantling/span.nothing", laid_scantling_span_nothing)] }
def SpanTellsSaid : Prop := spanTellsRow.holds Tryd.pinned (OpenSpec.ofChange spanTellsSpec)

/-- ITS FALSE NEIGHBOUR: 'it returns false'. Refute it at one input. -/
def spanTellsWrong : ChangeSpec := { name := "spanTells", fn := fun _ => fun
  | [d1, d2] => { results := [.lit (.bool false)], args := [d1, d2] }
  | _ => none }
def SpanTellsWrongFalsely : Prop := spanTellsRow.holds Tryd.pinned (OpenSpec.ofChange spanTellsWrong)

/-- 'scantlinglaw10.SpanForms': WHATEVER THE INPUT: true; the input reads as it did. -/
def spanFormsSpec : ChangeSpec := { name := "spanForms", fn := fun _ => fun
  | [d1, d2] => { results := [.lit (.bool true)], args := [d1, d2] }
  | _ => none }
def spanFormsRow : OpenClaim := { program := "ytafacidgajnedaadoor", sum := "b6ebca5a609e00b4d6e5cf9437effa72f96b2915a04881571245ad77a9f1c482", func := "scantling/scantlinglaw10.SpanForms", spec := "spanForms", unfollowed := true, recurses := true, named := ["scantling/span.nothing"], apart := false, laid := [("scantling/span.nothing", laid_scantling_span_nothing)] }
def SpanFormsSaid : Prop := spanFormsRow.holds Tryd.pinned (OpenSpec.ofChange spanFormsSpec)

/-- ITS FALSE NEIGHBOUR: 'it returns false'. Refute it at one input. -/
def spanFormsWrong : ChangeSpec := { name := "spanForms", fn := fun _ => fun
  | [d1, d2] => { results := [.lit (.bool false)], args := [d1, d2] }
  | _ => none }
def SpanFormsWrongFalsely : Prop := spanFormsRow.holds Tryd.pinned (OpenSpec.ofChange spanFormsWrong)

/-- 'scantlinglaw10.SpanBuilt': WHATEVER THE INPUT: true; the input reads as it did. -/
def spanBuiltSpec : ChangeSpec := { name := "spanBuilt", fn := fun _ => fun
  | [d1, d2] => { results := [.lit (.bool true)], args := [d1, d2] }
  | _ => none }
def spanBuiltRow : OpenClaim := { program := "ytafacidgajnedaadoor", sum := "b6ebca5a609e00b4d6e5cf9437effa72f96b2915a04881571245ad77a9f1c482", func := "scantling/scantlinglaw10.SpanBuilt", spec := "spanBuilt", unfollowed := true, recurses := true, named := ["scantling/span.nothing"], apart := false, laid := [("scantling/span.nothing", laid_scantling_span_nothing)] }
def SpanBuiltSaid : Prop := spanBuiltRow.holds Tryd.pinned (OpenSpec.ofChange spanBuiltSpec)

/-- ITS FALSE NEIGHBOUR: 'it returns false'. Refute it at one input. -/
def spanBuiltWrong : ChangeSpec := { name := "spanBuilt", fn := fun _ => fun
  | [d1, d2] => { results := [.lit (.bool false)], args := [d1, d2] }
  | _ => none }
def SpanBuiltWrongFalsely : Prop := spanBuiltRow.holds Tryd.pinned (OpenSpec.ofChange spanBuiltWrong)

/-- 'scantlinglaw10.SpanTimes': WHATEVER THE INPUT: true; the input reads as it did. -/
def spanTimesSpec : ChangeSpec := { name := "spanTimes", fn := fun _ => fun
  | [d1, d2] => { results := [.lit (.bool true)], args := [d1, d2] }
  | _ => none }
def spanTimesRow : OpenClaim := { program := "ytafacidgajnedaadoor", sum := "b6ebca5a609e00b4d6e5cf9437effa72f96b2915a04881571245ad77a9f1c482", func := "scantling/scantlinglaw10.SpanTimes", spec := "spanTimes", unfollowed := true, recurses := true, named := ["scantling/span.nothing"], apart := false, laid := [("scantling/span.nothing", laid_scantling_span_nothing)] }
def SpanTimesSaid : Prop := spanTimesRow.holds Tryd.pinned (OpenSpec.ofChange spanTimesSpec)

/-- ITS FALSE NEIGHBOUR: 'it returns false'. Refute it at one input. -/
def spanTimesWrong : ChangeSpec := { name := "spanTimes", fn := fun _ => fun
  | [d1, d2] => { results := [.lit (.bool false)], args := [d1, d2] }
  | _ => none }
def SpanTimesWrongFalsely : Prop := spanTimesRow.holds Tryd.pinned (OpenSpec.ofChange spanTimesWrong)

/- THE SECOND FORM. 'bulk': how many values and letters a reading holds, each counted each time it is reached (what is shared counts as often as it is met; a slice's spare places count too). A statement '..UptoSaid' is the law's where the arguments, and the package variables that the reading takes, are together of bulk at most 1048576: NARROWER than '..Said'. Prove '..Said' where nothing that the law and all that it calls make is longer than what came in: it says more and counts as full. Else prove '..UptoSaid'. A law counts once. -/
mutual
def uptoBulk {H : Type} : DataW H → Nat
  | .lit (.string bytes) => bytes.length + 1
  | .lit _ => 1
  | .nil => 1
  | .ptr d => uptoBulk d + 1
  | .slice elems spare => uptoBulkAll elems + uptoBulkAll spare + 1
  | .agg parts => uptoBulkAll parts + 1
  | .iface _ d => uptoBulk d + 1
  | .map entries => uptoBulkEntries entries + 1
  | .held _ => 1
def uptoBulkAll {H : Type} : List (DataW H) → Nat
  | [] => 0
  | d :: r => uptoBulk d + uptoBulkAll r
def uptoBulkEntries {H : Type} : List (Lit × DataW H) → Nat
  | [] => 0
  | x :: r => uptoBulkEntry x + uptoBulkEntries r
def uptoBulkEntry {H : Type} : Lit × DataW H → Nat
  | (.string bytes, d) => bytes.length + uptoBulk d + 1
  | (_, d) => uptoBulk d + 1
 end
def uptoSmall : (H : Type) → List (DataW H) → Bool := fun _ ds => decide (uptoBulkAll ds ≤ 1048576)
def OpenSpec.upto (s : _root_.Go.ChangeSpec) : _root_.Go.OpenSpec := { _root_.Go.OpenSpec.ofChange s with cond := some uptoSmall }

/-- 'scantlinglaw10.SpanTells', WHERE WHAT IT READS IS OF BULK AT MOST 1048576: true; the input reads as it did. -/
def spanTellsUptoRow : OpenClaim := { program := "ytafacidgajnedaadoor", sum := "b6ebca5a609e00b4d6e5cf9437effa72f96b2915a04881571245ad77a9f1c482", func := "scantling/scantlinglaw10.SpanTells", spec := "spanTells", unfollowed := true, recurses := true, named := ["scantling/span.nothing"], apart := false, laid := [("scantling/span.nothing", laid_scantling_span_nothing)], narrowed := true }
def SpanTellsUptoSaid : Prop := spanTellsUptoRow.holds Tryd.pinned (OpenSpec.upto spanTellsSpec)

/-- 'scantlinglaw10.SpanForms', WHERE WHAT IT READS IS OF BULK AT MOST 1048576: true; the input reads as it did. -/
def spanFormsUptoRow : OpenClaim := { program := "ytafacidgajnedaadoor", sum := "b6ebca5a609e00b4d6e5cf9437effa72f96b2915a04881571245ad77a9f1c482", func := "scantling/scantlinglaw10.SpanForms", spec := "spanForms", unfollowed := true, recurses := true, named := ["scantling/span.nothing"], apart := false, laid := [("scantling/span.nothing", laid_scantling_span_nothing)], narrowed := true }
def SpanFormsUptoSaid : Prop := spanFormsUptoRow.holds Tryd.pinned (OpenSpec.upto spanFormsSpec)

/-- 'scantlinglaw10.SpanBuilt', WHERE WHAT IT READS IS OF BULK AT MOST 1048576: true; the input reads as it did. -/
def spanBuiltUptoRow : OpenClaim := { program := "ytafacidgajnedaadoor", sum := "b6ebca5a609e00b4d6e5cf9437effa72f96b2915a04881571245ad77a9f1c482", func := "scantling/scantlinglaw10.SpanBuilt", spec := "spanBuilt", unfollowed := true, recurses := true, named := ["scantling/span.nothing"], apart := false, laid := [("scantling/span.nothing", laid_scantling_span_nothing)], narrowed := true }
def SpanBuiltUptoSaid : Prop := spanBuiltUptoRow.holds Tryd.pinned (OpenSpec.upto spanBuiltSpec)

/-- 'scantlinglaw10.SpanTimes', WHERE WHAT IT READS IS OF BULK AT MOST 1048576: true; the input reads as it did. -/
def spanTimesUptoRow : OpenClaim := { program := "ytafacidgajnedaadoor", sum := "b6ebca5a609e00b4d6e5cf9437effa72f96b2915a04881571245ad77a9f1c482", func := "scantling/scantlinglaw10.SpanTimes", spec := "spanTimes", unfollowed := true, recurses := true, named := ["scantling/span.nothing"], apart := false, laid := [("scantling/span.nothing", laid_scantling_span_nothing)], narrowed := true }
def SpanTimesUptoSaid : Prop := spanTimesUptoRow.holds Tryd.pinned (OpenSpec.upto spanTimesSpec)

end Rows
end Go.Proofs.YtafacidgajnedaaDoor
