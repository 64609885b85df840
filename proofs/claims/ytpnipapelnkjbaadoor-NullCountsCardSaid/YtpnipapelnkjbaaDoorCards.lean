/-
  DERIVED. GIVEN WITH THE SEED: THE CARDS: each row of YtpnipapelnkjbaaDoorRows.lean that lists a variable, with what it lists TIED to the program's text (the seventh form; the later family's looks); each row that meets fmt, with fmt's text TOLD by the authors' own Lean function (tested against real Go, not proved from fmt's source: count such statements apart). THE CARD IS WHAT COUNTS. Prove the row's statement (the work); the ties are given (YtpnipapelnkjbaaDoorTie.lean); close each card by the builder's one call (the guide's Derived/Test/ToyasCard.lean, 'card_holds'). Laid BY PROGRAM, IN A SANDBOX (cutbox-door.mjs). By AI agents, Wed Nov 11 2026. No macro, syntax, notation, axiom, sorry.
-/
import Derived.Test.YtpnipapelnkjbaaDoorRows
import GoSem.ClaimSeven
namespace Go.Proofs.YtpnipapelnkjbaaDoor
namespace Rows

/-- THE TIED CARD OF 'scantlinglaw08.NullTells'. -/
def nullTellsCard : Claim7 := { stood := { row := nullTellsRow, standIns := [], harness := (true, "b065dcd46c1e77f940abdeb64afef570f1e3bb364f9dd03dfe7a05f614ad37b3"), looks := true }, kinds := [], alts := [], laidByText := true, laidKinds := [.data, .pinned], laidTests := true, laidLooks := .later }
def NullTellsCardSaid : Prop := Claim7.holds Tryd.pinned (.plain (OpenSpec.ofChange nullTellsSpec)) nullTellsCard

/-- THE TIED CARD OF 'scantlinglaw08.NullCounts'. -/
def nullCountsCard : Claim7 := { stood := { row := nullCountsRow, standIns := [], harness := (true, "b065dcd46c1e77f940abdeb64afef570f1e3bb364f9dd03dfe7a05f614ad37b3"), looks := true }, kinds := [], alts := [], laidByText := true, laidKinds := [.data, .pinned], laidTests := true, laidLooks := .later }
def NullCountsCardSaid : Prop := Claim7.holds Tryd.pinned (.plain (OpenSpec.ofChange nullCountsSpec)) nullCountsCard

/-- THE TIED CARD OF 'scantlinglaw08.NullBuilt'. -/
def nullBuiltCard : Claim7 := { stood := { row := nullBuiltRow, standIns := [], harness := (true, "b065dcd46c1e77f940abdeb64afef570f1e3bb364f9dd03dfe7a05f614ad37b3"), looks := true }, kinds := [], alts := [], laidByText := true, laidKinds := [.data, .pinned], laidTests := true, laidLooks := .later }
def NullBuiltCardSaid : Prop := Claim7.holds Tryd.pinned (.plain (OpenSpec.ofChange nullBuiltSpec)) nullBuiltCard

/-- THE TIED CARD OF 'scantlinglaw08.NullTimes'. -/
def nullTimesCard : Claim7 := { stood := { row := nullTimesRow, standIns := [], harness := (true, "b065dcd46c1e77f940abdeb64afef570f1e3bb364f9dd03dfe7a05f614ad37b3"), looks := true }, kinds := [], alts := [], laidByText := true, laidKinds := [.data, .pinned], laidTests := true, laidLooks := .later }
def NullTimesCardSaid : Prop := Claim7.holds Tryd.pinned (.plain (OpenSpec.ofChange nullTimesSpec)) nullTimesCard

/-- THE TIED CARD OF 'scantlinglaw04.NodeForms'. -/
def nodeFormsCard : Claim7 := { stood := { row := nodeFormsRow, standIns := [], harness := (true, "b065dcd46c1e77f940abdeb64afef570f1e3bb364f9dd03dfe7a05f614ad37b3"), looks := true }, kinds := [], alts := [], laidByText := true, laidKinds := [.data, .pinned], laidTests := true, laidLooks := .later }
def NodeFormsCardSaid : Prop := Claim7.holds Tryd.pinned (.plain (OpenSpec.ofChange nodeFormsSpec)) nodeFormsCard

/-- THE TIED CARD OF 'scantlinglaw04.NodeBuilds'. -/
def nodeBuildsCard : Claim7 := { stood := { row := nodeBuildsRow, standIns := [], harness := (true, "b065dcd46c1e77f940abdeb64afef570f1e3bb364f9dd03dfe7a05f614ad37b3"), looks := true }, kinds := [], alts := [], laidByText := true, laidKinds := [.data, .pinned], laidTests := true, laidLooks := .later }
def NodeBuildsCardSaid : Prop := Claim7.holds Tryd.pinned (.plain (OpenSpec.ofChange nodeBuildsSpec)) nodeBuildsCard

/-- THE TIED CARD OF 'scantlinglaw04.NodeParts'. -/
def nodePartsCard : Claim7 := { stood := { row := nodePartsRow, standIns := [], harness := (true, "b065dcd46c1e77f940abdeb64afef570f1e3bb364f9dd03dfe7a05f614ad37b3"), looks := true }, kinds := [], alts := [], laidByText := true, laidKinds := [.data, .pinned], laidTests := true, laidLooks := .later }
def NodePartsCardSaid : Prop := Claim7.holds Tryd.pinned (.plain (OpenSpec.ofChange nodePartsSpec)) nodePartsCard

/-- THE TIED CARD OF 'scantlinglaw04.NodeKeeps'. -/
def nodeKeepsCard : Claim7 := { stood := { row := nodeKeepsRow, standIns := [], harness := (true, "b065dcd46c1e77f940abdeb64afef570f1e3bb364f9dd03dfe7a05f614ad37b3"), looks := true }, kinds := [], alts := [], laidByText := true, laidKinds := [.data, .pinned], laidTests := true, laidLooks := .later }
def NodeKeepsCardSaid : Prop := Claim7.holds Tryd.pinned (.plain (OpenSpec.ofChange nodeKeepsSpec)) nodeKeepsCard

/-- THE TIED CARD OF 'scantlinglaw04.NodeTurned'. -/
def nodeTurnedCard : Claim7 := { stood := { row := nodeTurnedRow, standIns := [], harness := (true, "b065dcd46c1e77f940abdeb64afef570f1e3bb364f9dd03dfe7a05f614ad37b3"), looks := true }, kinds := [], alts := [], laidByText := true, laidKinds := [.data, .pinned], laidTests := true, laidLooks := .later }
def NodeTurnedCardSaid : Prop := Claim7.holds Tryd.pinned (.plain (OpenSpec.ofChange nodeTurnedSpec)) nodeTurnedCard

/-- THE SECOND FORM's CARD OF 'scantlinglaw08.NullTells'. -/
def nullTellsUptoCard : Claim7 := { stood := { row := nullTellsUptoRow, standIns := [], harness := (true, "b065dcd46c1e77f940abdeb64afef570f1e3bb364f9dd03dfe7a05f614ad37b3"), looks := true }, kinds := [], alts := [], laidByText := true, laidKinds := [.data, .pinned], laidTests := true, laidLooks := .later }
def NullTellsUptoCardSaid : Prop := Claim7.holds Tryd.pinned (.plain (OpenSpec.upto nullTellsSpec)) nullTellsUptoCard

/-- THE SECOND FORM's CARD OF 'scantlinglaw08.NullCounts'. -/
def nullCountsUptoCard : Claim7 := { stood := { row := nullCountsUptoRow, standIns := [], harness := (true, "b065dcd46c1e77f940abdeb64afef570f1e3bb364f9dd03dfe7a05f614ad37b3"), looks := true }, kinds := [], alts := [], laidByText := true, laidKinds := [.data, .pinned], laidTests := true, laidLooks := .later }
def NullCountsUptoCardSaid : Prop := Claim7.holds Tryd.pinned (.plain (OpenSpec.upto nullCountsSpec)) nullCountsUptoCard

/-- THE SECOND FORM's CARD OF 'scantlinglaw08.NullBuilt'. -/
def nullBuiltUptoCard : Claim7 := { stood := { row := nullBuiltUptoRow, standIns := [], harness := (true, "b065dcd46c1e77f940abdeb64afef570f1e3bb364f9dd03dfe7a05f614ad37b3"), looks := true }, kinds := [], alts := [], laidByText := true, laidKinds := [.data, .pinned], laidTests := true, laidLooks := .later }
def NullBuiltUptoCardSaid : Prop := Claim7.holds Tryd.pinned (.plain (OpenSpec.upto nullBuiltSpec)) nullBuiltUptoCard

/-- THE SECOND FORM's CARD OF 'scantlinglaw08.NullTimes'. -/
def nullTimesUptoCard : Claim7 := { stood := { row := nullTimesUptoRow, standIns := [], harness := (true, "b065dcd46c1e77f940abdeb64afef570f1e3bb364f9dd03dfe7a05f614ad37b3"), looks := true }, kinds := [], alts := [], laidByText := true, laidKinds := [.data, .pinned], laidTests := true, laidLooks := .later }
def NullTimesUptoCardSaid : Prop := Claim7.holds Tryd.pinned (.plain (OpenSpec.upto nullTimesSpec)) nullTimesUptoCard

/-- THE SECOND FORM's CARD OF 'scantlinglaw04.NodeForms'. -/
def nodeFormsUptoCard : Claim7 := { stood := { row := nodeFormsUptoRow, standIns := [], harness := (true, "b065dcd46c1e77f940abdeb64afef570f1e3bb364f9dd03dfe7a05f614ad37b3"), looks := true }, kinds := [], alts := [], laidByText := true, laidKinds := [.data, .pinned], laidTests := true, laidLooks := .later }
def NodeFormsUptoCardSaid : Prop := Claim7.holds Tryd.pinned (.plain (OpenSpec.upto nodeFormsSpec)) nodeFormsUptoCard

/-- THE SECOND FORM's CARD OF 'scantlinglaw04.NodeBuilds'. -/
def nodeBuildsUptoCard : Claim7 := { stood := { row := nodeBuildsUptoRow, standIns := [], harness := (true, "b065dcd46c1e77f940abdeb64afef570f1e3bb364f9dd03dfe7a05f614ad37b3"), looks := true }, kinds := [], alts := [], laidByText := true, laidKinds := [.data, .pinned], laidTests := true, laidLooks := .later }
def NodeBuildsUptoCardSaid : Prop := Claim7.holds Tryd.pinned (.plain (OpenSpec.upto nodeBuildsSpec)) nodeBuildsUptoCard

/-- THE SECOND FORM's CARD OF 'scantlinglaw04.NodeParts'. -/
def nodePartsUptoCard : Claim7 := { stood := { row := nodePartsUptoRow, standIns := [], harness := (true, "b065dcd46c1e77f940abdeb64afef570f1e3bb364f9dd03dfe7a05f614ad37b3"), looks := true }, kinds := [], alts := [], laidByText := true, laidKinds := [.data, .pinned], laidTests := true, laidLooks := .later }
def NodePartsUptoCardSaid : Prop := Claim7.holds Tryd.pinned (.plain (OpenSpec.upto nodePartsSpec)) nodePartsUptoCard

/-- THE SECOND FORM's CARD OF 'scantlinglaw04.NodeKeeps'. -/
def nodeKeepsUptoCard : Claim7 := { stood := { row := nodeKeepsUptoRow, standIns := [], harness := (true, "b065dcd46c1e77f940abdeb64afef570f1e3bb364f9dd03dfe7a05f614ad37b3"), looks := true }, kinds := [], alts := [], laidByText := true, laidKinds := [.data, .pinned], laidTests := true, laidLooks := .later }
def NodeKeepsUptoCardSaid : Prop := Claim7.holds Tryd.pinned (.plain (OpenSpec.upto nodeKeepsSpec)) nodeKeepsUptoCard

/-- THE SECOND FORM's CARD OF 'scantlinglaw04.NodeTurned'. -/
def nodeTurnedUptoCard : Claim7 := { stood := { row := nodeTurnedUptoRow, standIns := [], harness := (true, "b065dcd46c1e77f940abdeb64afef570f1e3bb364f9dd03dfe7a05f614ad37b3"), looks := true }, kinds := [], alts := [], laidByText := true, laidKinds := [.data, .pinned], laidTests := true, laidLooks := .later }
def NodeTurnedUptoCardSaid : Prop := Claim7.holds Tryd.pinned (.plain (OpenSpec.upto nodeTurnedSpec)) nodeTurnedUptoCard
end Rows
end Go.Proofs.YtpnipapelnkjbaaDoor
