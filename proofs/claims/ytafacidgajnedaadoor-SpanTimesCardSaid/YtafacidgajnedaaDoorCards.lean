/-
  DERIVED. GIVEN WITH THE SEED: THE CARDS: each row of YtafacidgajnedaaDoorRows.lean that lists a variable, with what it lists TIED to the program's text (the seventh form; the later family's looks); each row that meets fmt, with fmt's text TOLD by the authors' own Lean function (tested against real Go, not proved from fmt's source: count such statements apart). THE CARD IS WHAT COUNTS. Prove the row's statement (the work); the ties are given (YtafacidgajnedaaDoorTie.lean); close each card by the builder's one call (the guide's Derived/Test/ToyasCard.lean, 'card_holds'). Laid BY PROGRAM, IN A SANDBOX (cutbox-door.mjs). By AI agents, Wed Nov 11 2026. No macro, syntax, notation, axiom, sorry.
-/
import Derived.Test.YtafacidgajnedaaDoorRows
import GoSem.ClaimSeven
namespace Go.Proofs.YtafacidgajnedaaDoor
namespace Rows

/-- THE TIED CARD OF 'scantlinglaw10.SpanTells'. -/
def spanTellsCard : Claim7 := { stood := { row := spanTellsRow, standIns := [], harness := (true, "e7727a761fb17bb24bc2e51879dcb282335a42b1a5425e3027be398307fdf983"), looks := false }, kinds := [], alts := [], laidByText := true, laidKinds := [.data], laidTests := true, laidLooks := .later }
def SpanTellsCardSaid : Prop := Claim7.holds Tryd.pinned (.plain (OpenSpec.ofChange spanTellsSpec)) spanTellsCard

/-- THE TIED CARD OF 'scantlinglaw10.SpanForms'. -/
def spanFormsCard : Claim7 := { stood := { row := spanFormsRow, standIns := [], harness := (true, "e7727a761fb17bb24bc2e51879dcb282335a42b1a5425e3027be398307fdf983"), looks := false }, kinds := [], alts := [], laidByText := true, laidKinds := [.data], laidTests := true, laidLooks := .later }
def SpanFormsCardSaid : Prop := Claim7.holds Tryd.pinned (.plain (OpenSpec.ofChange spanFormsSpec)) spanFormsCard

/-- THE TIED CARD OF 'scantlinglaw10.SpanBuilt'. -/
def spanBuiltCard : Claim7 := { stood := { row := spanBuiltRow, standIns := [], harness := (true, "e7727a761fb17bb24bc2e51879dcb282335a42b1a5425e3027be398307fdf983"), looks := false }, kinds := [], alts := [], laidByText := true, laidKinds := [.data], laidTests := true, laidLooks := .later }
def SpanBuiltCardSaid : Prop := Claim7.holds Tryd.pinned (.plain (OpenSpec.ofChange spanBuiltSpec)) spanBuiltCard

/-- THE TIED CARD OF 'scantlinglaw10.SpanTimes'. -/
def spanTimesCard : Claim7 := { stood := { row := spanTimesRow, standIns := [], harness := (true, "e7727a761fb17bb24bc2e51879dcb282335a42b1a5425e3027be398307fdf983"), looks := false }, kinds := [], alts := [], laidByText := true, laidKinds := [.data], laidTests := true, laidLooks := .later }
def SpanTimesCardSaid : Prop := Claim7.holds Tryd.pinned (.plain (OpenSpec.ofChange spanTimesSpec)) spanTimesCard

/-- THE SECOND FORM's CARD OF 'scantlinglaw10.SpanTells'. -/
def spanTellsUptoCard : Claim7 := { stood := { row := spanTellsUptoRow, standIns := [], harness := (true, "e7727a761fb17bb24bc2e51879dcb282335a42b1a5425e3027be398307fdf983"), looks := false }, kinds := [], alts := [], laidByText := true, laidKinds := [.data], laidTests := true, laidLooks := .later }
def SpanTellsUptoCardSaid : Prop := Claim7.holds Tryd.pinned (.plain (OpenSpec.upto spanTellsSpec)) spanTellsUptoCard

/-- THE SECOND FORM's CARD OF 'scantlinglaw10.SpanForms'. -/
def spanFormsUptoCard : Claim7 := { stood := { row := spanFormsUptoRow, standIns := [], harness := (true, "e7727a761fb17bb24bc2e51879dcb282335a42b1a5425e3027be398307fdf983"), looks := false }, kinds := [], alts := [], laidByText := true, laidKinds := [.data], laidTests := true, laidLooks := .later }
def SpanFormsUptoCardSaid : Prop := Claim7.holds Tryd.pinned (.plain (OpenSpec.upto spanFormsSpec)) spanFormsUptoCard

/-- THE SECOND FORM's CARD OF 'scantlinglaw10.SpanBuilt'. -/
def spanBuiltUptoCard : Claim7 := { stood := { row := spanBuiltUptoRow, standIns := [], harness := (true, "e7727a761fb17bb24bc2e51879dcb282335a42b1a5425e3027be398307fdf983"), looks := false }, kinds := [], alts := [], laidByText := true, laidKinds := [.data], laidTests := true, laidLooks := .later }
def SpanBuiltUptoCardSaid : Prop := Claim7.holds Tryd.pinned (.plain (OpenSpec.upto spanBuiltSpec)) spanBuiltUptoCard

/-- THE SECOND FORM's CARD OF 'scantlinglaw10.SpanTimes'. -/
def spanTimesUptoCard : Claim7 := { stood := { row := spanTimesUptoRow, standIns := [], harness := (true, "e7727a761fb17bb24bc2e51879dcb282335a42b1a5425e3027be398307fdf983"), looks := false }, kinds := [], alts := [], laidByText := true, laidKinds := [.data], laidTests := true, laidLooks := .later }
def SpanTimesUptoCardSaid : Prop := Claim7.holds Tryd.pinned (.plain (OpenSpec.upto spanTimesSpec)) spanTimesUptoCard
end Rows
end Go.Proofs.YtafacidgajnedaaDoor
