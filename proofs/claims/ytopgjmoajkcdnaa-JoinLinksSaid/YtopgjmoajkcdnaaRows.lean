/-
  No cell of these rows narrows 'for every input' (looked for: loops, veiled, ifaces, maps, wideKeys, modest, calm, conditions, laid).
  DERIVED. THE GIVEN ROWS OF THIS SEAT. 8 by the template 'for every input the law returns true; each argument reads behind the call as it read before'; 0 by the template 'total and deterministic' (their statements: YtopgjmoajkcdnaaTotals.lean).
  GIVEN WITH THE SEED: the statements are not yours to turn. If you find one false, say at which input.
  Laid BY PROGRAM, IN A SANDBOX (cutbox-rows.mjs): the forced cells as the released guide's own fill.sh prints them over the translation ee68f883f4ed6db0… (all of the seat's roots in one cut). By AI agents, Wed Nov 11 2026. No macro, syntax, notation, axiom, sorry.
-/
import Derived.Test.YtopgjmoajkcdnaaChecked
import GoSem.Claim
import GoSem.ClaimJoined
import GoSem.ClaimMapViews
import Derived.JoinedTies
import Derived.KernelRfl
namespace Go.Proofs.Ytopgjmoajkcdnaa
/- THE CELL 'sum', in the pinned program and in every row, IS THE sha256 OF THE DUMP (.gsa) THAT YtopgjmoajkcdnaaProg.lean LOADS. Nothing in Lean hashes anything: it is a label: what it is worth is what the hold of that sum in a sandbox is worth. -/
noncomputable def Try.pinned : Pinned := { name := "ytopgjmoajkcdnaa", sum := "ee68f883f4ed6db0a23d1fd091e94792e5aeb3cb80d92794c5f288a1b1501377", checked := Try.checked }
namespace Rows
def none {H : Type} : Left H := { results := [], args := [] }

/-- 'scantlinglaw07.SizeTells': WHATEVER THE INPUT: true; the input reads as it did. -/
def sizeTellsSpec : ChangeSpec := { name := "sizeTells", fn := fun _ => fun
  | [d1, d2, d3] => { results := [.lit (.bool true)], args := [d1, d2, d3] }
  | _ => none }
def sizeTellsRow : OpenClaim := { program := "ytopgjmoajkcdnaa", sum := "ee68f883f4ed6db0a23d1fd091e94792e5aeb3cb80d92794c5f288a1b1501377", func := "scantling/scantlinglaw07.SizeTells", spec := "sizeTells", recurses := true, apart := false }
def SizeTellsSaid : Prop := sizeTellsRow.holds Try.pinned (OpenSpec.ofChange sizeTellsSpec)

/-- ITS FALSE NEIGHBOUR: 'it returns false'. Refute it at one input. -/
def sizeTellsWrong : ChangeSpec := { name := "sizeTells", fn := fun _ => fun
  | [d1, d2, d3] => { results := [.lit (.bool false)], args := [d1, d2, d3] }
  | _ => none }
def SizeTellsWrongFalsely : Prop := sizeTellsRow.holds Try.pinned (OpenSpec.ofChange sizeTellsWrong)

/-- 'scantlinglaw07.SizeBounds': WHATEVER THE INPUT: true; the input reads as it did. -/
def sizeBoundsSpec : ChangeSpec := { name := "sizeBounds", fn := fun _ => fun
  | [d1, d2] => { results := [.lit (.bool true)], args := [d1, d2] }
  | _ => none }
def sizeBoundsRow : OpenClaim := { program := "ytopgjmoajkcdnaa", sum := "ee68f883f4ed6db0a23d1fd091e94792e5aeb3cb80d92794c5f288a1b1501377", func := "scantling/scantlinglaw07.SizeBounds", spec := "sizeBounds", recurses := true, apart := false }
def SizeBoundsSaid : Prop := sizeBoundsRow.holds Try.pinned (OpenSpec.ofChange sizeBoundsSpec)

/-- ITS FALSE NEIGHBOUR: 'it returns false'. Refute it at one input. -/
def sizeBoundsWrong : ChangeSpec := { name := "sizeBounds", fn := fun _ => fun
  | [d1, d2] => { results := [.lit (.bool false)], args := [d1, d2] }
  | _ => none }
def SizeBoundsWrongFalsely : Prop := sizeBoundsRow.holds Try.pinned (OpenSpec.ofChange sizeBoundsWrong)

/-- 'scantlinglaw07.SizeBuilt': WHATEVER THE INPUT: true; the input reads as it did. -/
def sizeBuiltSpec : ChangeSpec := { name := "sizeBuilt", fn := fun _ => fun
  | [d1, d2, d3] => { results := [.lit (.bool true)], args := [d1, d2, d3] }
  | _ => none }
def sizeBuiltRow : OpenClaim := { program := "ytopgjmoajkcdnaa", sum := "ee68f883f4ed6db0a23d1fd091e94792e5aeb3cb80d92794c5f288a1b1501377", func := "scantling/scantlinglaw07.SizeBuilt", spec := "sizeBuilt", recurses := true, apart := false }
def SizeBuiltSaid : Prop := sizeBuiltRow.holds Try.pinned (OpenSpec.ofChange sizeBuiltSpec)

/-- ITS FALSE NEIGHBOUR: 'it returns false'. Refute it at one input. -/
def sizeBuiltWrong : ChangeSpec := { name := "sizeBuilt", fn := fun _ => fun
  | [d1, d2, d3] => { results := [.lit (.bool false)], args := [d1, d2, d3] }
  | _ => none }
def SizeBuiltWrongFalsely : Prop := sizeBuiltRow.holds Try.pinned (OpenSpec.ofChange sizeBuiltWrong)

/-- 'scantlinglaw07.SizeFrames': WHATEVER THE INPUT: true; the input reads as it did. -/
def sizeFramesSpec : ChangeSpec := { name := "sizeFrames", fn := fun _ => fun
  | [d1, d2] => { results := [.lit (.bool true)], args := [d1, d2] }
  | _ => none }
def sizeFramesRow : OpenClaim := { program := "ytopgjmoajkcdnaa", sum := "ee68f883f4ed6db0a23d1fd091e94792e5aeb3cb80d92794c5f288a1b1501377", func := "scantling/scantlinglaw07.SizeFrames", spec := "sizeFrames", recurses := true, apart := false }
def SizeFramesSaid : Prop := sizeFramesRow.holds Try.pinned (OpenSpec.ofChange sizeFramesSpec)

/-- ITS FALSE NEIGHBOUR: 'it returns false'. Refute it at one input. -/
def sizeFramesWrong : ChangeSpec := { name := "sizeFrames", fn := fun _ => fun
  | [d1, d2] => { results := [.lit (.bool false)], args := [d1, d2] }
  | _ => none }
def SizeFramesWrongFalsely : Prop := sizeFramesRow.holds Try.pinned (OpenSpec.ofChange sizeFramesWrong)

/-- 'scantlinglaw23.JoinTells': WHATEVER THE INPUT: true; the input reads as it did. -/
def joinTellsSpec : ChangeSpec := { name := "joinTells", fn := fun _ => fun
  | [d1, d2, d3, d4] => { results := [.lit (.bool true)], args := [d1, d2, d3, d4] }
  | _ => none }
def joinTellsRow : OpenClaim := { program := "ytopgjmoajkcdnaa", sum := "ee68f883f4ed6db0a23d1fd091e94792e5aeb3cb80d92794c5f288a1b1501377", func := "scantling/scantlinglaw23.JoinTells", spec := "joinTells", apart := false }
def JoinTellsSaid : Prop := joinTellsRow.holds Try.pinned (OpenSpec.ofChange joinTellsSpec)

/-- ITS FALSE NEIGHBOUR: 'it returns false'. Refute it at one input. -/
def joinTellsWrong : ChangeSpec := { name := "joinTells", fn := fun _ => fun
  | [d1, d2, d3, d4] => { results := [.lit (.bool false)], args := [d1, d2, d3, d4] }
  | _ => none }
def JoinTellsWrongFalsely : Prop := joinTellsRow.holds Try.pinned (OpenSpec.ofChange joinTellsWrong)

/-- 'scantlinglaw23.JoinLinks': WHATEVER THE INPUT: true; the input reads as it did. -/
def joinLinksSpec : ChangeSpec := { name := "joinLinks", fn := fun _ => fun
  | [d1, d2] => { results := [.lit (.bool true)], args := [d1, d2] }
  | _ => none }
def joinLinksRow : OpenClaim := { program := "ytopgjmoajkcdnaa", sum := "ee68f883f4ed6db0a23d1fd091e94792e5aeb3cb80d92794c5f288a1b1501377", func := "scantling/scantlinglaw23.JoinLinks", spec := "joinLinks", apart := false }
def JoinLinksSaid : Prop := joinLinksRow.holds Try.pinned (OpenSpec.ofChange joinLinksSpec)

/-- ITS FALSE NEIGHBOUR: 'it returns false'. Refute it at one input. -/
def joinLinksWrong : ChangeSpec := { name := "joinLinks", fn := fun _ => fun
  | [d1, d2] => { results := [.lit (.bool false)], args := [d1, d2] }
  | _ => none }
def JoinLinksWrongFalsely : Prop := joinLinksRow.holds Try.pinned (OpenSpec.ofChange joinLinksWrong)

/-- 'scantlinglaw23.JoinRoots': WHATEVER THE INPUT: true; the input reads as it did. -/
def joinRootsSpec : ChangeSpec := { name := "joinRoots", fn := fun _ => fun
  | [d1, d2, d3] => { results := [.lit (.bool true)], args := [d1, d2, d3] }
  | _ => none }
def joinRootsRow : OpenClaim := { program := "ytopgjmoajkcdnaa", sum := "ee68f883f4ed6db0a23d1fd091e94792e5aeb3cb80d92794c5f288a1b1501377", func := "scantling/scantlinglaw23.JoinRoots", spec := "joinRoots", apart := false }
def JoinRootsSaid : Prop := joinRootsRow.holds Try.pinned (OpenSpec.ofChange joinRootsSpec)

/-- ITS FALSE NEIGHBOUR: 'it returns false'. Refute it at one input. -/
def joinRootsWrong : ChangeSpec := { name := "joinRoots", fn := fun _ => fun
  | [d1, d2, d3] => { results := [.lit (.bool false)], args := [d1, d2, d3] }
  | _ => none }
def JoinRootsWrongFalsely : Prop := joinRootsRow.holds Try.pinned (OpenSpec.ofChange joinRootsWrong)

/-- 'scantlinglaw23.JoinOrder': WHATEVER THE INPUT: true; the input reads as it did. -/
def joinOrderSpec : ChangeSpec := { name := "joinOrder", fn := fun _ => fun
  | [d1, d2, d3] => { results := [.lit (.bool true)], args := [d1, d2, d3] }
  | _ => none }
def joinOrderRow : OpenClaim := { program := "ytopgjmoajkcdnaa", sum := "ee68f883f4ed6db0a23d1fd091e94792e5aeb3cb80d92794c5f288a1b1501377", func := "scantling/scantlinglaw23.JoinOrder", spec := "joinOrder", apart := false }
def JoinOrderSaid : Prop := joinOrderRow.holds Try.pinned (OpenSpec.ofChange joinOrderSpec)

/-- ITS FALSE NEIGHBOUR: 'it returns false'. Refute it at one input. -/
def joinOrderWrong : ChangeSpec := { name := "joinOrder", fn := fun _ => fun
  | [d1, d2, d3] => { results := [.lit (.bool false)], args := [d1, d2, d3] }
  | _ => none }
def JoinOrderWrongFalsely : Prop := joinOrderRow.holds Try.pinned (OpenSpec.ofChange joinOrderWrong)

/- THE SECOND FORM. 'bulk': how many values and letters a reading holds, each counted each time it is reached (what is shared counts as often as it is met; a slice's spare places count too). A statement '..UptoSaid' is the law's where the arguments, and the package variables that the reading takes, are together of bulk at most 1048576: NARROWER than '..Said'. Prove '..Said' where nothing that the law and all that it calls make is longer than what came in: it says more and counts as full. Else prove '..UptoSaid'. A law counts once. -/
mutual
def uptoBulk {H : Type} : DataW H → Nat
  | .lit (.string bytes) => bytes.length + 1
  | .lit _ => 1
  | .nil => 1
  | .ptr d => uptoBulk d + 1
  | .slice elems spare => uptoBulkAll elems + uptoBulkAll spare + 1
  | .agg parts => uptoBulkAll parts + 1
  | .iface _ d => uptoBulk d + 1
  | .map entries => uptoBulkEntries entries + 1
  | .held _ => 1
def uptoBulkAll {H : Type} : List (DataW H) → Nat
  | [] => 0
  | d :: r => uptoBulk d + uptoBulkAll r
def uptoBulkEntries {H : Type} : List (Lit × DataW H) → Nat
  | [] => 0
  | x :: r => uptoBulkEntry x + uptoBulkEntries r
def uptoBulkEntry {H : Type} : Lit × DataW H → Nat
  | (.string bytes, d) => bytes.length + uptoBulk d + 1
  | (_, d) => uptoBulk d + 1
 end
def uptoSmall : (H : Type) → List (DataW H) → Bool := fun _ ds => decide (uptoBulkAll ds ≤ 1048576)
def OpenSpec.upto (s : _root_.Go.ChangeSpec) : _root_.Go.OpenSpec := { _root_.Go.OpenSpec.ofChange s with cond := some uptoSmall }

/-- 'scantlinglaw07.SizeTells', WHERE WHAT IT READS IS OF BULK AT MOST 1048576: true; the input reads as it did. -/
def sizeTellsUptoRow : OpenClaim := { program := "ytopgjmoajkcdnaa", sum := "ee68f883f4ed6db0a23d1fd091e94792e5aeb3cb80d92794c5f288a1b1501377", func := "scantling/scantlinglaw07.SizeTells", spec := "sizeTells", recurses := true, apart := false, narrowed := true }
def SizeTellsUptoSaid : Prop := sizeTellsUptoRow.holds Try.pinned (OpenSpec.upto sizeTellsSpec)

/-- 'scantlinglaw07.SizeBounds', WHERE WHAT IT READS IS OF BULK AT MOST 1048576: true; the input reads as it did. -/
def sizeBoundsUptoRow : OpenClaim := { program := "ytopgjmoajkcdnaa", sum := "ee68f883f4ed6db0a23d1fd091e94792e5aeb3cb80d92794c5f288a1b1501377", func := "scantling/scantlinglaw07.SizeBounds", spec := "sizeBounds", recurses := true, apart := false, narrowed := true }
def SizeBoundsUptoSaid : Prop := sizeBoundsUptoRow.holds Try.pinned (OpenSpec.upto sizeBoundsSpec)

/-- 'scantlinglaw07.SizeBuilt', WHERE WHAT IT READS IS OF BULK AT MOST 1048576: true; the input reads as it did. -/
def sizeBuiltUptoRow : OpenClaim := { program := "ytopgjmoajkcdnaa", sum := "ee68f883f4ed6db0a23d1fd091e94792e5aeb3cb80d92794c5f288a1b1501377", func := "scantling/scantlinglaw07.SizeBuilt", spec := "sizeBuilt", recurses := true, apart := false, narrowed := true }
def SizeBuiltUptoSaid : Prop := sizeBuiltUptoRow.holds Try.pinned (OpenSpec.upto sizeBuiltSpec)

/-- 'scantlinglaw07.SizeFrames', WHERE WHAT IT READS IS OF BULK AT MOST 1048576: true; the input reads as it did. -/
def sizeFramesUptoRow : OpenClaim := { program := "ytopgjmoajkcdnaa", sum := "ee68f883f4ed6db0a23d1fd091e94792e5aeb3cb80d92794c5f288a1b1501377", func := "scantling/scantlinglaw07.SizeFrames", spec := "sizeFrames", recurses := true, apart := false, narrowed := true }
def SizeFramesUptoSaid : Prop := sizeFramesUptoRow.holds Try.pinned (OpenSpec.upto sizeFramesSpec)

/-- 'scantlinglaw23.JoinTells', WHERE WHAT IT READS IS OF BULK AT MOST 1048576: true; the input reads as it did. -/
def joinTellsUptoRow : OpenClaim := { program := "ytopgjmoajkcdnaa", sum := "ee68f883f4ed6db0a23d1fd091e94792e5aeb3cb80d92794c5f288a1b1501377", func := "scantling/scantlinglaw23.JoinTells", spec := "joinTells", apart := false, narrowed := true }
def JoinTellsUptoSaid : Prop := joinTellsUptoRow.holds Try.pinned (OpenSpec.upto joinTellsSpec)

/-- 'scantlinglaw23.JoinLinks', WHERE WHAT IT READS IS OF BULK AT MOST 1048576: true; the input reads as it did. -/
def joinLinksUptoRow : OpenClaim := { program := "ytopgjmoajkcdnaa", sum := "ee68f883f4ed6db0a23d1fd091e94792e5aeb3cb80d92794c5f288a1b1501377", func := "scantling/scantlinglaw23.JoinLinks", spec := "joinLinks", apart := false, narrowed := true }
def JoinLinksUptoSaid : Prop := joinLinksUptoRow.holds Try.pinned (OpenSpec.upto joinLinksSpec)

/-- 'scantlinglaw23.JoinRoots', WHERE WHAT IT READS IS OF BULK AT MOST 1048576: true; the input reads as it did. -/
def joinRootsUptoRow : OpenClaim := { program := "ytopgjmoajkcdnaa", sum := "ee68f883f4ed6db0a23d1fd091e94792e5aeb3cb80d92794c5f288a1b1501377", func := "scantling/scantlinglaw23.JoinRoots", spec := "joinRoots", apart := false, narrowed := true }
def JoinRootsUptoSaid : Prop := joinRootsUptoRow.holds Try.pinned (OpenSpec.upto joinRootsSpec)

/-- 'scantlinglaw23.JoinOrder', WHERE WHAT IT READS IS OF BULK AT MOST 1048576: true; the input reads as it did. -/
def joinOrderUptoRow : OpenClaim := { program := "ytopgjmoajkcdnaa", sum := "ee68f883f4ed6db0a23d1fd091e94792e5aeb3cb80d92794c5f288a1b1501377", func := "scantling/scantlinglaw23.JoinOrder", spec := "joinOrder", apart := false, narrowed := true }
def JoinOrderUptoSaid : Prop := joinOrderUptoRow.holds Try.pinned (OpenSpec.upto joinOrderSpec)

end Rows
end Go.Proofs.Ytopgjmoajkcdnaa
