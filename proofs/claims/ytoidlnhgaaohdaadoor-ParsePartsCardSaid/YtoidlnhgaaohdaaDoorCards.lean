/-
  DERIVED. GIVEN WITH THE SEED: THE CARDS: each row of YtoidlnhgaaohdaaDoorRows.lean that lists a variable, with what it lists TIED to the program's text (the seventh form; the later family's looks); each row that meets fmt, with fmt's text TOLD by the authors' own Lean function (tested against real Go, not proved from fmt's source: count such statements apart). THE CARD IS WHAT COUNTS. Prove the row's statement (the work); the ties are given (YtoidlnhgaaohdaaDoorTie.lean); close each card by the builder's one call (the guide's Derived/Test/ToyasCard.lean, 'card_holds'). Laid BY PROGRAM, IN A SANDBOX (cutbox-door.mjs). By AI agents, Wed Nov 11 2026. No macro, syntax, notation, axiom, sorry.
-/
import Derived.Test.YtoidlnhgaaohdaaDoorRows
import GoSem.ClaimSeven
namespace Go.Proofs.YtoidlnhgaaohdaaDoor
namespace Rows

/-- THE TIED CARD OF 'scantlinglaw05.ParseFaults'. -/
def parseFaultsCard : Claim7 := { stood := { row := parseFaultsRow, standIns := [], harness := (true, "931cc6d66f9ed0da8f71fdb725656c713120315bded1c4682a3703052935bcee"), looks := true }, kinds := [], alts := [], laidByText := true, laidKinds := [.data, .pinned], laidTests := true, laidLooks := .later }
def ParseFaultsCardSaid : Prop := Claim7.holds Tryd.pinned (.plain (OpenSpec.ofChange parseFaultsSpec)) parseFaultsCard

/-- THE TIED CARD OF 'scantlinglaw05.ParseDeep'. -/
def parseDeepCard : Claim7 := { stood := { row := parseDeepRow, standIns := [], harness := (true, "931cc6d66f9ed0da8f71fdb725656c713120315bded1c4682a3703052935bcee"), looks := true }, kinds := [], alts := [], laidByText := true, laidKinds := [.data, .pinned], laidTests := true, laidLooks := .later }
def ParseDeepCardSaid : Prop := Claim7.holds Tryd.pinned (.plain (OpenSpec.ofChange parseDeepSpec)) parseDeepCard

/-- THE TIED CARD OF 'scantlinglaw05.ParseOnly'. -/
def parseOnlyCard : Claim7 := { stood := { row := parseOnlyRow, standIns := [], harness := (true, "931cc6d66f9ed0da8f71fdb725656c713120315bded1c4682a3703052935bcee"), looks := true }, kinds := [], alts := [], laidByText := true, laidKinds := [.data, .pinned], laidTests := true, laidLooks := .later }
def ParseOnlyCardSaid : Prop := Claim7.holds Tryd.pinned (.plain (OpenSpec.ofChange parseOnlySpec)) parseOnlyCard

/-- THE TIED CARD OF 'scantlinglaw05.ParseParts'. -/
def parsePartsCard : Claim7 := { stood := { row := parsePartsRow, standIns := [], harness := (true, "931cc6d66f9ed0da8f71fdb725656c713120315bded1c4682a3703052935bcee"), looks := true }, kinds := [], alts := [], laidByText := true, laidKinds := [.data, .pinned], laidTests := true, laidLooks := .later }
def ParsePartsCardSaid : Prop := Claim7.holds Tryd.pinned (.plain (OpenSpec.ofChange parsePartsSpec)) parsePartsCard

/-- THE SECOND FORM's CARD OF 'scantlinglaw05.ParseFaults'. -/
def parseFaultsUptoCard : Claim7 := { stood := { row := parseFaultsUptoRow, standIns := [], harness := (true, "931cc6d66f9ed0da8f71fdb725656c713120315bded1c4682a3703052935bcee"), looks := true }, kinds := [], alts := [], laidByText := true, laidKinds := [.data, .pinned], laidTests := true, laidLooks := .later }
def ParseFaultsUptoCardSaid : Prop := Claim7.holds Tryd.pinned (.plain (OpenSpec.upto parseFaultsSpec)) parseFaultsUptoCard

/-- THE SECOND FORM's CARD OF 'scantlinglaw05.ParseDeep'. -/
def parseDeepUptoCard : Claim7 := { stood := { row := parseDeepUptoRow, standIns := [], harness := (true, "931cc6d66f9ed0da8f71fdb725656c713120315bded1c4682a3703052935bcee"), looks := true }, kinds := [], alts := [], laidByText := true, laidKinds := [.data, .pinned], laidTests := true, laidLooks := .later }
def ParseDeepUptoCardSaid : Prop := Claim7.holds Tryd.pinned (.plain (OpenSpec.upto parseDeepSpec)) parseDeepUptoCard

/-- THE SECOND FORM's CARD OF 'scantlinglaw05.ParseOnly'. -/
def parseOnlyUptoCard : Claim7 := { stood := { row := parseOnlyUptoRow, standIns := [], harness := (true, "931cc6d66f9ed0da8f71fdb725656c713120315bded1c4682a3703052935bcee"), looks := true }, kinds := [], alts := [], laidByText := true, laidKinds := [.data, .pinned], laidTests := true, laidLooks := .later }
def ParseOnlyUptoCardSaid : Prop := Claim7.holds Tryd.pinned (.plain (OpenSpec.upto parseOnlySpec)) parseOnlyUptoCard

/-- THE SECOND FORM's CARD OF 'scantlinglaw05.ParseParts'. -/
def parsePartsUptoCard : Claim7 := { stood := { row := parsePartsUptoRow, standIns := [], harness := (true, "931cc6d66f9ed0da8f71fdb725656c713120315bded1c4682a3703052935bcee"), looks := true }, kinds := [], alts := [], laidByText := true, laidKinds := [.data, .pinned], laidTests := true, laidLooks := .later }
def ParsePartsUptoCardSaid : Prop := Claim7.holds Tryd.pinned (.plain (OpenSpec.upto parsePartsSpec)) parsePartsUptoCard
end Rows
end Go.Proofs.YtoidlnhgaaohdaaDoor
