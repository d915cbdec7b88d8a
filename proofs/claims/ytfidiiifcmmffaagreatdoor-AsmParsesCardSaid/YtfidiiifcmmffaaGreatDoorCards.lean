/-
  DERIVED. GIVEN WITH THE SEED: THE CARDS: each row of YtfidiiifcmmffaaGreatDoorRows.lean that lists a variable, with what it lists TIED to the program's text (the seventh form; the later family's looks); each row that meets fmt, with fmt's text TOLD by the authors' own Lean function (tested against real Go, not proved from fmt's source: count such statements apart). THE CARD IS WHAT COUNTS. Prove the row's statement (the work); the ties are given (YtfidiiifcmmffaaGreatDoorTie.lean); close each card by the builder's one call (the guide's Derived/Test/ToyasCard.lean, 'card_holds'). Laid BY PROGRAM, IN A SANDBOX (cutbox-door.mjs). By AI agents, Wed Nov 11 2026. No macro, syntax, notation, axiom, sorry.
-/
import Derived.Test.YtfidiiifcmmffaaGreatDoorRows
import GoSem.ClaimSeven
namespace Go.Proofs.YtfidiiifcmmffaaGreatDoor
namespace Rows

/-- THE TIED CARD OF 'runriglaw21.AsmPrints'. -/
def asmPrintsCard : Claim7 := { stood := { row := asmPrintsRow, standIns := [], harness := (true, "d8b6c4da4c966afb99629eed73b91becec2b41b380c1429a1430e778e07db5b6"), looks := true }, kinds := [], alts := [], laidByText := true, laidKinds := [.data, .data, .data, .data, .sentinel, .sentinel, .listed, .data, .pinned], laidTests := true, laidLooks := .later }
def AsmPrintsCardSaid : Prop := Claim7.holds Tryz.pinned (.plain (OpenSpec.ofChange asmPrintsSpec)) asmPrintsCard

/-- THE TIED CARD OF 'runriglaw21.AsmLines'. -/
def asmLinesCard : Claim7 := { stood := { row := asmLinesRow, standIns := [], harness := (true, "d8b6c4da4c966afb99629eed73b91becec2b41b380c1429a1430e778e07db5b6"), looks := true }, kinds := [], alts := [], laidByText := true, laidKinds := [.data, .data, .data, .data, .sentinel, .sentinel, .listed, .data, .pinned], laidTests := true, laidLooks := .later }
def AsmLinesCardSaid : Prop := Claim7.holds Tryz.pinned (.plain (OpenSpec.ofChange asmLinesSpec)) asmLinesCard

/-- THE TIED CARD OF 'runriglaw21.AsmParses'. -/
def asmParsesCard : Claim7 := { stood := { row := asmParsesRow, standIns := [], harness := (true, "d8b6c4da4c966afb99629eed73b91becec2b41b380c1429a1430e778e07db5b6"), looks := true }, kinds := [], alts := [], laidByText := true, laidKinds := [.data, .data, .data, .data, .sentinel, .sentinel, .listed, .data, .pinned], laidTests := true, laidLooks := .later }
def AsmParsesCardSaid : Prop := Claim7.holds Tryz.pinned (.plain (OpenSpec.ofChange asmParsesSpec)) asmParsesCard

/-- THE TIED CARD OF 'runriglaw21.AsmLabels'. -/
def asmLabelsCard : Claim7 := { stood := { row := asmLabelsRow, standIns := [], harness := (true, "d8b6c4da4c966afb99629eed73b91becec2b41b380c1429a1430e778e07db5b6"), looks := true }, kinds := [], alts := [], laidByText := true, laidKinds := [.data, .data, .data, .data, .sentinel, .sentinel, .listed, .data, .pinned], laidTests := true, laidLooks := .later }
def AsmLabelsCardSaid : Prop := Claim7.holds Tryz.pinned (.plain (OpenSpec.ofChange asmLabelsSpec)) asmLabelsCard

/-- THE TIED CARD OF 'runriglaw21.AsmTexts'. -/
def asmTextsCard : Claim7 := { stood := { row := asmTextsRow, standIns := [], harness := (true, "d8b6c4da4c966afb99629eed73b91becec2b41b380c1429a1430e778e07db5b6"), looks := true }, kinds := [], alts := [], laidByText := true, laidKinds := [.data, .data, .data, .data, .sentinel, .sentinel, .listed, .data, .pinned], laidTests := true, laidLooks := .later }
def AsmTextsCardSaid : Prop := Claim7.holds Tryz.pinned (.plain (OpenSpec.ofChange asmTextsSpec)) asmTextsCard

/-- THE SECOND FORM's CARD OF 'runriglaw21.AsmPrints'. -/
def asmPrintsUptoCard : Claim7 := { stood := { row := asmPrintsUptoRow, standIns := [], harness := (true, "d8b6c4da4c966afb99629eed73b91becec2b41b380c1429a1430e778e07db5b6"), looks := true }, kinds := [], alts := [], laidByText := true, laidKinds := [.data, .data, .data, .data, .sentinel, .sentinel, .listed, .data, .pinned], laidTests := true, laidLooks := .later }
def AsmPrintsUptoCardSaid : Prop := Claim7.holds Tryz.pinned (.plain (OpenSpec.upto asmPrintsSpec)) asmPrintsUptoCard

/-- THE SECOND FORM's CARD OF 'runriglaw21.AsmLines'. -/
def asmLinesUptoCard : Claim7 := { stood := { row := asmLinesUptoRow, standIns := [], harness := (true, "d8b6c4da4c966afb99629eed73b91becec2b41b380c1429a1430e778e07db5b6"), looks := true }, kinds := [], alts := [], laidByText := true, laidKinds := [.data, .data, .data, .data, .sentinel, .sentinel, .listed, .data, .pinned], laidTests := true, laidLooks := .later }
def AsmLinesUptoCardSaid : Prop := Claim7.holds Tryz.pinned (.plain (OpenSpec.upto asmLinesSpec)) asmLinesUptoCard

/-- THE SECOND FORM's CARD OF 'runriglaw21.AsmParses'. -/
def asmParsesUptoCard : Claim7 := { stood := { row := asmParsesUptoRow, standIns := [], harness := (true, "d8b6c4da4c966afb99629eed73b91becec2b41b380c1429a1430e778e07db5b6"), looks := true }, kinds := [], alts := [], laidByText := true, laidKinds := [.data, .data, .data, .data, .sentinel, .sentinel, .listed, .data, .pinned], laidTests := true, laidLooks := .later }
def AsmParsesUptoCardSaid : Prop := Claim7.holds Tryz.pinned (.plain (OpenSpec.upto asmParsesSpec)) asmParsesUptoCard

/-- THE SECOND FORM's CARD OF 'runriglaw21.AsmLabels'. -/
def asmLabelsUptoCard : Claim7 := { stood := { row := asmLabelsUptoRow, standIns := [], harness := (true, "d8b6c4da4c966afb99629eed73b91becec2b41b380c1429a1430e778e07db5b6"), looks := true }, kinds := [], alts := [], laidByText := true, laidKinds := [.data, .data, .data, .data, .sentinel, .sentinel, .listed, .data, .pinned], laidTests := true, laidLooks := .later }
def AsmLabelsUptoCardSaid : Prop := Claim7.holds Tryz.pinned (.plain (OpenSpec.upto asmLabelsSpec)) asmLabelsUptoCard

/-- THE SECOND FORM's CARD OF 'runriglaw21.AsmTexts'. -/
def asmTextsUptoCard : Claim7 := { stood := { row := asmTextsUptoRow, standIns := [], harness := (true, "d8b6c4da4c966afb99629eed73b91becec2b41b380c1429a1430e778e07db5b6"), looks := true }, kinds := [], alts := [], laidByText := true, laidKinds := [.data, .data, .data, .data, .sentinel, .sentinel, .listed, .data, .pinned], laidTests := true, laidLooks := .later }
def AsmTextsUptoCardSaid : Prop := Claim7.holds Tryz.pinned (.plain (OpenSpec.upto asmTextsSpec)) asmTextsUptoCard
end Rows
end Go.Proofs.YtfidiiifcmmffaaGreatDoor
