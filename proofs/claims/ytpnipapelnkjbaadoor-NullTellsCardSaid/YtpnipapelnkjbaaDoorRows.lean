/-
  NARROWER THAN 'FOR EVERY INPUT', by the rows' own cells (each row's printed sentence says how): NullTells: laid · NullCounts: laid · NullBuilt: laid · NullTimes: laid · NodeForms: laid · NodeBuilds: laid · NodeParts: laid · NodeKeeps: laid · NodeTurned: laid.
  DERIVED. THE GIVEN ROWS OF THIS SEAT. 9 by the template 'for every input the law returns true; each argument reads behind the call as it read before'; 0 by the template 'total and deterministic' (their statements: YtpnipapelnkjbaaDoorTotals.lean).
  GIVEN WITH THE SEED: the statements are not yours to turn. If you find one false, say at which input.
  Laid BY PROGRAM, IN A SANDBOX (cutbox-rows.mjs): the forced cells as the released guide's own fill.sh prints them over the translation 5dd4de98acc356bf… (all of the seat's roots in one cut). By AI agents, Wed Nov 11 2026. No macro, syntax, notation, axiom, sorry.
-/
import Derived.Test.YtpnipapelnkjbaaDoorChecked
import GoSem.PinnedTables
import GoSem.Claim
import GoSem.ClaimJoined
import GoSem.ClaimMapViews
import Derived.JoinedTies
import Derived.KernelRfl
namespace Go.Proofs.YtpnipapelnkjbaaDoor
/- THE CELL 'sum', in the pinned program and in every row, IS THE sha256 OF THE DUMP (.gsa) THAT YtpnipapelnkjbaaDoorProg.lean LOADS. Nothing in Lean hashes anything: it is a label: what it is worth is what the hold of that sum in a sandbox is worth. -/
noncomputable def Tryd.pinned : Pinned := { name := "ytpnipapelnkjbaadoor", sum := "5dd4de98acc356bf57ae3fc88e9788164a99c465591079cdd676ffcb1fd026c1", checked := Tryd.checked }
namespace Rows
def none {H : Type} : Left H := { results := [], args := [] }

/- WHAT THE LISTED PACKAGE-LEVEL VARIABLES READ AS WHEN THE CALL BEGINS. Each datum BY PROGRAM (the guide's laid-datum.mjs) off the statement by which the dump's own 'gosem.cut.vars' lays the variable. In a bare row this is a premise. The card (YtpnipapelnkjbaaDoorCards.lean) ties it to the program's text. -/
def laid_unicode_utf8_acceptRanges {H : Type} : DataW H := .agg [.agg [.lit (.int .u8 128), .lit (.int .u8 191)], .agg [.lit (.int .u8 160), .lit (.int .u8 191)], .agg [.lit (.int .u8 128), .lit (.int .u8 159)], .agg [.lit (.int .u8 144), .lit (.int .u8 191)], .agg [.lit (.int .u8 128), .lit (.int .u8 143)], .agg [.lit (.int .u8 0), .lit (.int .u8 0)], .agg [.lit (.int .u8 0), .lit (.int .u8 0)], .agg [.lit (.int .u8 0), .lit (.int .u8 0)], .agg [.lit (.int .u8 0), .lit (.int .u8 0)], .agg [.lit (.int .u8 0), .lit (.int .u8 0)], .agg [.lit (.int .u8 0), .lit (.int .u8 0)], .agg [.lit (.int .u8 0), .lit (.int .u8 0)], .agg [.lit (.int .u8 0), .lit (.int .u8 0)], .agg [.lit (.int .u8 0), .lit (.int .u8 0)], .agg [.lit (.int .u8 0), .lit (.int .u8 0)], .agg [.lit (.int .u8 0), .lit (.int .u8 0)]]
/-- One of Go's own tables, pinned by name: the form's constant. -/
def laid_unicode_utf8_first : DataW Unit := Go.Pinned.utf8First

/-- 'scantlinglaw08.NullTells': WHATEVER THE INPUT: true; the input reads as it did. -/
def nullTellsSpec : ChangeSpec := { name := "nullTells", fn := fun _ => fun
  | [d1, d2] => { results := [.lit (.bool true)], args := [d1, d2] }
  | _ => none }
def nullTellsRow : OpenClaim := { program := "ytpnipapelnkjbaadoor", sum := "5dd4de98acc356bf57ae3fc88e9788164a99c465591079cdd676ffcb1fd026c1", func := "scantling/scantlinglaw08.NullTells", spec := "nullTells", inPlace := ["internal/bytealg.IndexByteString", "internal/bytealg.IndexString"], unfollowed := true, recurses := true, named := ["unicode/utf8.first", "unicode/utf8.acceptRanges", "internal/bytealg.MaxLen"], apart := false, laid := [("unicode/utf8.acceptRanges", laid_unicode_utf8_acceptRanges), ("unicode/utf8.first", laid_unicode_utf8_first)] }
def NullTellsSaid : Prop := nullTellsRow.holds Tryd.pinned (OpenSpec.ofChange nullTellsSpec)

/-- ITS FALSE NEIGHBOUR: 'it returns false'. Refute it at one input. -/
def nullTellsWrong : ChangeSpec := { name := "nullTells", fn := fun _ => fun
  | [d1, d2] => { results := [.lit (.bool false)], args := [d1, d2] }
  | _ => none }
def NullTellsWrongFalsely : Prop := nullTellsRow.holds Tryd.pinned (OpenSpec.ofChange nullTellsWrong)

/-- 'scantlinglaw08.NullCounts': WHATEVER THE INPUT: true; the input reads as it did. -/
def nullCountsSpec : ChangeSpec := { name := "nullCounts", fn := fun _ => fun
  | [d1, d2] => { results := [.lit (.bool true)], args := [d1, d2] }
  | _ => none }
def nullCountsRow : OpenClaim := { program := "ytpnipapelnkjbaadoor", sum := "5dd4de98acc356bf57ae3fc88e9788164a99c465591079cdd676ffcb1fd026c1", func := "scantling/scantlinglaw08.NullCounts", spec := "nullCounts", inPlace := ["internal/bytealg.IndexByteString", "internal/bytealg.IndexString"], unfollowed := true, recurses := true, named := ["unicode/utf8.first", "unicode/utf8.acceptRanges", "internal/bytealg.MaxLen"], apart := false, laid := [("unicode/utf8.acceptRanges", laid_unicode_utf8_acceptRanges), ("unicode/utf8.first", laid_unicode_utf8_first)] }
def NullCountsSaid : Prop := nullCountsRow.holds Tryd.pinned (OpenSpec.ofChange nullCountsSpec)

/-- ITS FALSE NEIGHBOUR: 'it returns false'. Refute it at one input. -/
def nullCountsWrong : ChangeSpec := { name := "nullCounts", fn := fun _ => fun
  | [d1, d2] => { results := [.lit (.bool false)], args := [d1, d2] }
  | _ => none }
def NullCountsWrongFalsely : Prop := nullCountsRow.holds Tryd.pinned (OpenSpec.ofChange nullCountsWrong)

/-- 'scantlinglaw08.NullBuilt': WHATEVER THE INPUT: true; the input reads as it did. -/
def nullBuiltSpec : ChangeSpec := { name := "nullBuilt", fn := fun _ => fun
  | [d1, d2] => { results := [.lit (.bool true)], args := [d1, d2] }
  | _ => none }
def nullBuiltRow : OpenClaim := { program := "ytpnipapelnkjbaadoor", sum := "5dd4de98acc356bf57ae3fc88e9788164a99c465591079cdd676ffcb1fd026c1", func := "scantling/scantlinglaw08.NullBuilt", spec := "nullBuilt", inPlace := ["internal/bytealg.IndexByteString", "internal/bytealg.IndexString"], unfollowed := true, recurses := true, named := ["unicode/utf8.first", "unicode/utf8.acceptRanges", "internal/bytealg.MaxLen"], apart := false, laid := [("unicode/utf8.acceptRanges", laid_unicode_utf8_acceptRanges), ("unicode/utf8.first", laid_unicode_utf8_first)] }
def NullBuiltSaid : Prop := nullBuiltRow.holds Tryd.pinned (OpenSpec.ofChange nullBuiltSpec)

/-- ITS FALSE NEIGHBOUR: 'it returns false'. Refute it at one input. -/
def nullBuiltWrong : ChangeSpec := { name := "nullBuilt", fn := fun _ => fun
  | [d1, d2] => { results := [.lit (.bool false)], args := [d1, d2] }
  | _ => none }
def NullBuiltWrongFalsely : Prop := nullBuiltRow.holds Tryd.pinned (OpenSpec.ofChange nullBuiltWrong)

/-- 'scantlinglaw08.NullTimes': WHATEVER THE INPUT: true; the input reads as it did. -/
def nullTimesSpec : ChangeSpec := { name := "nullTimes", fn := fun _ => fun
  | [d1, d2, d3] => { results := [.lit (.bool true)], args := [d1, d2, d3] }
  | _ => none }
def nullTimesRow : OpenClaim := { program := "ytpnipapelnkjbaadoor", sum := "5dd4de98acc356bf57ae3fc88e9788164a99c465591079cdd676ffcb1fd026c1", func := "scantling/scantlinglaw08.NullTimes", spec := "nullTimes", inPlace := ["internal/bytealg.IndexByteString", "internal/bytealg.IndexString"], unfollowed := true, recurses := true, named := ["unicode/utf8.first", "unicode/utf8.acceptRanges", "internal/bytealg.MaxLen"], apart := false, laid := [("unicode/utf8.acceptRanges", laid_unicode_utf8_acceptRanges), ("unicode/utf8.first", laid_unicode_utf8_first)] }
def NullTimesSaid : Prop := nullTimesRow.holds Tryd.pinned (OpenSpec.ofChange nullTimesSpec)

/-- ITS FALSE NEIGHBOUR: 'it returns false'. Refute it at one input. -/
def nullTimesWrong : ChangeSpec := { name := "nullTimes", fn := fun _ => fun
  | [d1, d2, d3] => { results := [.lit (.bool false)], args := [d1, d2, d3] }
  | _ => none }
def NullTimesWrongFalsely : Prop := nullTimesRow.holds Tryd.pinned (OpenSpec.ofChange nullTimesWrong)

/-- 'scantlinglaw04.NodeForms': WHATEVER THE INPUT: true; the input reads as it did. -/
def nodeFormsSpec : ChangeSpec := { name := "nodeForms", fn := fun _ => fun
  | [d1, d2, d3] => { results := [.lit (.bool true)], args := [d1, d2, d3] }
  | _ => none }
def nodeFormsRow : OpenClaim := { program := "ytpnipapelnkjbaadoor", sum := "5dd4de98acc356bf57ae3fc88e9788164a99c465591079cdd676ffcb1fd026c1", func := "scantling/scantlinglaw04.NodeForms", spec := "nodeForms", inPlace := ["internal/bytealg.IndexByteString", "internal/bytealg.IndexString"], recurses := true, named := ["unicode/utf8.first", "unicode/utf8.acceptRanges", "internal/bytealg.MaxLen"], apart := false, laid := [("unicode/utf8.acceptRanges", laid_unicode_utf8_acceptRanges), ("unicode/utf8.first", laid_unicode_utf8_first)] }
def NodeFormsSaid : Prop := nodeFormsRow.holds Tryd.pinned (OpenSpec.ofChange nodeFormsSpec)

/-- ITS FALSE NEIGHBOUR: 'it returns false'. Refute it at one input. -/
def nodeFormsWrong : ChangeSpec := { name := "nodeForms", fn := fun _ => fun
  | [d1, d2, d3] => { results := [.lit (.bool false)], args := [d1, d2, d3] }
  | _ => none }
def NodeFormsWrongFalsely : Prop := nodeFormsRow.holds Tryd.pinned (OpenSpec.ofChange nodeFormsWrong)

/-- 'scantlinglaw04.NodeBuilds': WHATEVER THE INPUT: true; the input reads as it did. -/
def nodeBuildsSpec : ChangeSpec := { name := "nodeBuilds", fn := fun _ => fun
  | [d1, d2, d3, d4] => { results := [.lit (.bool true)], args := [d1, d2, d3, d4] }
  | _ => none }
def nodeBuildsRow : OpenClaim := { program := "ytpnipapelnkjbaadoor", sum := "5dd4de98acc356bf57ae3fc88e9788164a99c465591079cdd676ffcb1fd026c1", func := "scantling/scantlinglaw04.NodeBuilds", spec := "nodeBuilds", inPlace := ["internal/bytealg.IndexByteString", "internal/bytealg.IndexString"], recurses := true, named := ["unicode/utf8.first", "unicode/utf8.acceptRanges", "internal/bytealg.MaxLen"], apart := false, laid := [("unicode/utf8.acceptRanges", laid_unicode_utf8_acceptRanges), ("unicode/utf8.first", laid_unicode_utf8_first)] }
def NodeBuildsSaid : Prop := nodeBuildsRow.holds Tryd.pinned (OpenSpec.ofChange nodeBuildsSpec)

/-- ITS FALSE NEIGHBOUR: 'it returns false'. Refute it at one input. -/
def nodeBuildsWrong : ChangeSpec := { name := "nodeBuilds", fn := fun _ => fun
  | [d1, d2, d3, d4] => { results := [.lit (.bool false)], args := [d1, d2, d3, d4] }
  | _ => none }
def NodeBuildsWrongFalsely : Prop := nodeBuildsRow.holds Tryd.pinned (OpenSpec.ofChange nodeBuildsWrong)

/-- 'scantlinglaw04.NodeParts': WHATEVER THE INPUT: true; the input reads as it did. -/
def nodePartsSpec : ChangeSpec := { name := "nodeParts", fn := fun _ => fun
  | [d1, d2] => { results := [.lit (.bool true)], args := [d1, d2] }
  | _ => none }
def nodePartsRow : OpenClaim := { program := "ytpnipapelnkjbaadoor", sum := "5dd4de98acc356bf57ae3fc88e9788164a99c465591079cdd676ffcb1fd026c1", func := "scantling/scantlinglaw04.NodeParts", spec := "nodeParts", inPlace := ["internal/bytealg.IndexByteString", "internal/bytealg.IndexString"], recurses := true, named := ["unicode/utf8.first", "unicode/utf8.acceptRanges", "internal/bytealg.MaxLen"], apart := false, laid := [("unicode/utf8.acceptRanges", laid_unicode_utf8_acceptRanges), ("unicode/utf8.first", laid_unicode_utf8_first)] }
def NodePartsSaid : Prop := nodePartsRow.holds Tryd.pinned (OpenSpec.ofChange nodePartsSpec)

/-- ITS FALSE NEIGHBOUR: 'it returns false'. Refute it at one input. -/
def nodePartsWrong : ChangeSpec := { name := "nodeParts", fn := fun _ => fun
  | [d1, d2] => { results := [.lit (.bool false)], args := [d1, d2] }
  | _ => none }
def NodePartsWrongFalsely : Prop := nodePartsRow.holds Tryd.pinned (OpenSpec.ofChange nodePartsWrong)

/-- 'scantlinglaw04.NodeKeeps': WHATEVER THE INPUT: true; the input reads as it did. -/
def nodeKeepsSpec : ChangeSpec := { name := "nodeKeeps", fn := fun _ => fun
  | [d1, d2, d3] => { results := [.lit (.bool true)], args := [d1, d2, d3] }
  | _ => none }
def nodeKeepsRow : OpenClaim := { program := "ytpnipapelnkjbaadoor", sum := "5dd4de98acc356bf57ae3fc88e9788164a99c465591079cdd676ffcb1fd026c1", func := "scantling/scantlinglaw04.NodeKeeps", spec := "nodeKeeps", inPlace := ["internal/bytealg.IndexByteString", "internal/bytealg.IndexString"], recurses := true, named := ["unicode/utf8.first", "unicode/utf8.acceptRanges", "internal/bytealg.MaxLen"], apart := false, laid := [("unicode/utf8.acceptRanges", laid_unicode_utf8_acceptRanges), ("unicode/utf8.first", laid_unicode_utf8_first)] }
def NodeKeepsSaid : Prop := nodeKeepsRow.holds Tryd.pinned (OpenSpec.ofChange nodeKeepsSpec)

/-- ITS FALSE NEIGHBOUR: 'it returns false'. Refute it at one input. -/
def nodeKeepsWrong : ChangeSpec := { name := "nodeKeeps", fn := fun _ => fun
  | [d1, d2, d3] => { results := [.lit (.bool false)], args := [d1, d2, d3] }
  | _ => none }
def NodeKeepsWrongFalsely : Prop := nodeKeepsRow.holds Tryd.pinned (OpenSpec.ofChange nodeKeepsWrong)

/-- 'scantlinglaw04.NodeTurned': WHATEVER THE INPUT: true; the input reads as it did. -/
def nodeTurnedSpec : ChangeSpec := { name := "nodeTurned", fn := fun _ => fun
  | [d1, d2, d3, d4] => { results := [.lit (.bool true)], args := [d1, d2, d3, d4] }
  | _ => none }
def nodeTurnedRow : OpenClaim := { program := "ytpnipapelnkjbaadoor", sum := "5dd4de98acc356bf57ae3fc88e9788164a99c465591079cdd676ffcb1fd026c1", func := "scantling/scantlinglaw04.NodeTurned", spec := "nodeTurned", inPlace := ["internal/bytealg.IndexByteString", "internal/bytealg.IndexString"], recurses := true, named := ["unicode/utf8.first", "unicode/utf8.acceptRanges", "internal/bytealg.MaxLen"], apart := false, laid := [("unicode/utf8.acceptRanges", laid_unicode_utf8_acceptRanges), ("unicode/utf8.first", laid_unicode_utf8_first)] }
def NodeTurnedSaid : Prop := nodeTurnedRow.holds Tryd.pinned (OpenSpec.ofChange nodeTurnedSpec)

/-- ITS FALSE NEIGHBOUR: 'it returns false'. Refute it at one input. -/
def nodeTurnedWrong : ChangeSpec := { name := "nodeTurned", fn := fun _ => fun
  | [d1, d2, d3, d4] => { results := [.lit (.bool false)], args := [d1, d2, d3, d4] }
  | _ => none }
def NodeTurnedWrongFalsely : Prop := nodeTurnedRow.holds Tryd.pinned (OpenSpec.ofChange nodeTurnedWrong)

/- THE SECOND FORM. 'bulk': how many values and letters a reading holds, each counted each time it is reached (what is shared counts as often as it is met; a slice's spare places count too). A statement '..UptoSaid' is the law's where the arguments, and the package variables that the reading takes, are together of bulk at most 1048576: NARROWER than '..Said'. Prove '..Said' where nothing that the law and all that it calls make is longer than what came in: it says more and counts as full. Else prove '..UptoSaid'. A law counts once. -/
mutual
def uptoBulk {H : Type} : DataW H → Nat
  | .lit (.string bytes) => bytes.length + 1
  | .lit _ => 1
  | .nil => 1
  | .ptr d => uptoBulk d + 1
  | .slice elems spare => uptoBulkAll elems + uptoBulkAll spare + 1
  | .agg parts => uptoBulkAll parts + 1
  | .iface _ d => uptoBulk d + 1
  | .map entries => uptoBulkEntries entries + 1
  | .held _ => 1
def uptoBulkAll {H : Type} : List (DataW H) → Nat
  | [] => 0
  | d :: r => uptoBulk d + uptoBulkAll r
def uptoBulkEntries {H : Type} : List (Lit × DataW H) → Nat
  | [] => 0
  | x :: r => uptoBulkEntry x + uptoBulkEntries r
def uptoBulkEntry {H : Type} : Lit × DataW H → Nat
  | (.string bytes, d) => bytes.length + uptoBulk d + 1
  | (_, d) => uptoBulk d + 1
 end
def uptoSmall : (H : Type) → List (DataW H) → Bool := fun _ ds => decide (uptoBulkAll ds ≤ 1048576)
def OpenSpec.upto (s : _root_.Go.ChangeSpec) : _root_.Go.OpenSpec := { _root_.Go.OpenSpec.ofChange s with cond := some uptoSmall }

/-- 'scantlinglaw08.NullTells', WHERE WHAT IT READS IS OF BULK AT MOST 1048576: true; the input reads as it did. -/
def nullTellsUptoRow : OpenClaim := { program := "ytpnipapelnkjbaadoor", sum := "5dd4de98acc356bf57ae3fc88e9788164a99c465591079cdd676ffcb1fd026c1", func := "scantling/scantlinglaw08.NullTells", spec := "nullTells", inPlace := ["internal/bytealg.IndexByteString", "internal/bytealg.IndexString"], unfollowed := true, recurses := true, named := ["unicode/utf8.first", "unicode/utf8.acceptRanges", "internal/bytealg.MaxLen"], apart := false, laid := [("unicode/utf8.acceptRanges", laid_unicode_utf8_acceptRanges), ("unicode/utf8.first", laid_unicode_utf8_first)], narrowed := true }
def NullTellsUptoSaid : Prop := nullTellsUptoRow.holds Tryd.pinned (OpenSpec.upto nullTellsSpec)

/-- 'scantlinglaw08.NullCounts', WHERE WHAT IT READS IS OF BULK AT MOST 1048576: true; the input reads as it did. -/
def nullCountsUptoRow : OpenClaim := { program := "ytpnipapelnkjbaadoor", sum := "5dd4de98acc356bf57ae3fc88e9788164a99c465591079cdd676ffcb1fd026c1", func := "scantling/scantlinglaw08.NullCounts", spec := "nullCounts", inPlace := ["internal/bytealg.IndexByteString", "internal/bytealg.IndexString"], unfollowed := true, recurses := true, named := ["unicode/utf8.first", "unicode/utf8.acceptRanges", "internal/bytealg.MaxLen"], apart := false, laid := [("unicode/utf8.acceptRanges", laid_unicode_utf8_acceptRanges), ("unicode/utf8.first", laid_unicode_utf8_first)], narrowed := true }
def NullCountsUptoSaid : Prop := nullCountsUptoRow.holds Tryd.pinned (OpenSpec.upto nullCountsSpec)

/-- 'scantlinglaw08.NullBuilt', WHERE WHAT IT READS IS OF BULK AT MOST 1048576: true; the input reads as it did. -/
def nullBuiltUptoRow : OpenClaim := { program := "ytpnipapelnkjbaadoor", sum := "5dd4de98acc356bf57ae3fc88e9788164a99c465591079cdd676ffcb1fd026c1", func := "scantling/scantlinglaw08.NullBuilt", spec := "nullBuilt", inPlace := ["internal/bytealg.IndexByteString", "internal/bytealg.IndexString"], unfollowed := true, recurses := true, named := ["unicode/utf8.first", "unicode/utf8.acceptRanges", "internal/bytealg.MaxLen"], apart := false, laid := [("unicode/utf8.acceptRanges", laid_unicode_utf8_acceptRanges), ("unicode/utf8.first", laid_unicode_utf8_first)], narrowed := true }
def NullBuiltUptoSaid : Prop := nullBuiltUptoRow.holds Tryd.pinned (OpenSpec.upto nullBuiltSpec)

/-- 'scantlinglaw08.NullTimes', WHERE WHAT IT READS IS OF BULK AT MOST 1048576: true; the input reads as it did. -/
def nullTimesUptoRow : OpenClaim := { program := "ytpnipapelnkjbaadoor", sum := "5dd4de98acc356bf57ae3fc88e9788164a99c465591079cdd676ffcb1fd026c1", func := "scantling/scantlinglaw08.NullTimes", spec := "nullTimes", inPlace := ["internal/bytealg.IndexByteString", "internal/bytealg.IndexString"], unfollowed := true, recurses := true, named := ["unicode/utf8.first", "unicode/utf8.acceptRanges", "internal/bytealg.MaxLen"], apart := false, laid := [("unicode/utf8.acceptRanges", laid_unicode_utf8_acceptRanges), ("unicode/utf8.first", laid_unicode_utf8_first)], narrowed := true }
def NullTimesUptoSaid : Prop := nullTimesUptoRow.holds Tryd.pinned (OpenSpec.upto nullTimesSpec)

/-- 'scantlinglaw04.NodeForms', WHERE WHAT IT READS IS OF BULK AT MOST 1048576: true; the input reads as it did. -/
def nodeFormsUptoRow : OpenClaim := { program := "ytpnipapelnkjbaadoor", sum := "5dd4de98acc356bf57ae3fc88e9788164a99c465591079cdd676ffcb1fd026c1", func := "scantling/scantlinglaw04.NodeForms", spec := "nodeForms", inPlace := ["internal/bytealg.IndexByteString", "internal/bytealg.IndexString"], recurses := true, named := ["unicode/utf8.first", "unicode/utf8.acceptRanges", "internal/bytealg.MaxLen"], apart := false, laid := [("unicode/utf8.acceptRanges", laid_unicode_utf8_acceptRanges), ("unicode/utf8.first", laid_unicode_utf8_first)], narrowed := true }
def NodeFormsUptoSaid : Prop := nodeFormsUptoRow.holds Tryd.pinned (OpenSpec.upto nodeFormsSpec)

/-- 'scantlinglaw04.NodeBuilds', WHERE WHAT IT READS IS OF BULK AT MOST 1048576: true; the input reads as it did. -/
def nodeBuildsUptoRow : OpenClaim := { program := "ytpnipapelnkjbaadoor", sum := "5dd4de98acc356bf57ae3fc88e9788164a99c465591079cdd676ffcb1fd026c1", func := "scantling/scantlinglaw04.NodeBuilds", spec := "nodeBuilds", inPlace := ["internal/bytealg.IndexByteString", "internal/bytealg.IndexString"], recurses := true, named := ["unicode/utf8.first", "unicode/utf8.acceptRanges", "internal/bytealg.MaxLen"], apart := false, laid := [("unicode/utf8.acceptRanges", laid_unicode_utf8_acceptRanges), ("unicode/utf8.first", laid_unicode_utf8_first)], narrowed := true }
def NodeBuildsUptoSaid : Prop := nodeBuildsUptoRow.holds Tryd.pinned (OpenSpec.upto nodeBuildsSpec)

/-- 'scantlinglaw04.NodeParts', WHERE WHAT IT READS IS OF BULK AT MOST 1048576: true; the input reads as it did. -/
def nodePartsUptoRow : OpenClaim := { program := "ytpnipapelnkjbaadoor", sum := "5dd4de98acc356bf57ae3fc88e9788164a99c465591079cdd676ffcb1fd026c1", func := "scantling/scantlinglaw04.NodeParts", spec := "nodeParts", inPlace := ["internal/bytealg.IndexByteString", "internal/bytealg.IndexString"], recurses := true, named := ["unicode/utf8.first", "unicode/utf8.acceptRanges", "internal/bytealg.MaxLen"], apart := false, laid := [("unicode/utf8.acceptRanges", laid_unicode_utf8_acceptRanges), ("unicode/utf8.first", laid_unicode_utf8_first)], narrowed := true }
def NodePartsUptoSaid : Prop := nodePartsUptoRow.holds Tryd.pinned (OpenSpec.upto nodePartsSpec)

/-- 'scantlinglaw04.NodeKeeps', WHERE WHAT IT READS IS OF BULK AT MOST 1048576: true; the input reads as it did. -/
def nodeKeepsUptoRow : OpenClaim := { program := "ytpnipapelnkjbaadoor", sum := "5dd4de98acc356bf57ae3fc88e9788164a99c465591079cdd676ffcb1fd026c1", func := "scantling/scantlinglaw04.NodeKeeps", spec := "nodeKeeps", inPlace := ["internal/bytealg.IndexByteString", "internal/bytealg.IndexString"], recurses := true, named := ["unicode/utf8.first", "unicode/utf8.acceptRanges", "internal/bytealg.MaxLen"], apart := false, laid := [("unicode/utf8.acceptRanges", laid_unicode_utf8_acceptRanges), ("unicode/utf8.first", laid_unicode_utf8_first)], narrowed := true }
def NodeKeepsUptoSaid : Prop := nodeKeepsUptoRow.holds Tryd.pinned (OpenSpec.upto nodeKeepsSpec)

/-- 'scantlinglaw04.NodeTurned', WHERE WHAT IT READS IS OF BULK AT MOST 1048576: true; the input reads as it did. -/
def nodeTurnedUptoRow : OpenClaim := { program := "ytpnipapelnkjbaadoor", sum := "5dd4de98acc356bf57ae3fc88e9788164a99c465591079cdd676ffcb1fd026c1", func := "scantling/scantlinglaw04.NodeTurned", spec := "nodeTurned", inPlace := ["internal/bytealg.IndexByteString", "internal/bytealg.IndexString"], recurses := true, named := ["unicode/utf8.first", "unicode/utf8.acceptRanges", "internal/bytealg.MaxLen"], apart := false, laid := [("unicode/utf8.acceptRanges", laid_unicode_utf8_acceptRanges), ("unicode/utf8.first", laid_unicode_utf8_first)], narrowed := true }
def NodeTurnedUptoSaid : Prop := nodeTurnedUptoRow.holds Tryd.pinned (OpenSpec.upto nodeTurnedSpec)

end Rows
end Go.Proofs.YtpnipapelnkjbaaDoor
