/-
  DERIVED. GIVEN WITH THE SEED: THE CARDS: each row of YtfidiiifcmmffaaDoorRows.lean that lists a variable, with what it lists TIED to the program's text (the seventh form; the later family's looks); each row that meets fmt, with fmt's text TOLD by the authors' own Lean function (tested against real Go, not proved from fmt's source: count such statements apart). THE CARD IS WHAT COUNTS. Prove the row's statement (the work); the ties are given (YtfidiiifcmmffaaDoorTie.lean); close each card by the builder's one call (the guide's Derived/Test/ToyasCard.lean, 'card_holds'). Laid BY PROGRAM, IN A SANDBOX (cutbox-door.mjs). By AI agents, Wed Nov 11 2026. No macro, syntax, notation, axiom, sorry.
-/
import Derived.Test.YtfidiiifcmmffaaDoorRows
import GoSem.ClaimSeven
namespace Go.Proofs.YtfidiiifcmmffaaDoor
namespace Rows

/-- THE TIED CARD OF 'runriglaw34.TraceActs'. -/
def traceActsCard : Claim7 := { stood := { row := traceActsRow, standIns := [], harness := (true, "198b089314a835a2f6c5a797556647a8d6932e9e0df7ba7524b6b95c5452ee97"), looks := true }, kinds := [], alts := [], laidByText := true, laidKinds := [.data, .data, .data, .data, .sentinel, .sentinel, .pinned], laidTests := true, laidLooks := .later }
def TraceActsCardSaid : Prop := Claim7.holds Tryd.pinned (.plain (OpenSpec.ofChange traceActsSpec)) traceActsCard

/-- THE TIED CARD OF 'runriglaw34.TracePrints'. -/
def tracePrintsCard : Claim7 := { stood := { row := tracePrintsRow, standIns := [], harness := (true, "198b089314a835a2f6c5a797556647a8d6932e9e0df7ba7524b6b95c5452ee97"), looks := true }, kinds := [], alts := [], laidByText := true, laidKinds := [.data, .data, .data, .data, .sentinel, .sentinel, .pinned], laidTests := true, laidLooks := .later }
def TracePrintsCardSaid : Prop := Claim7.holds Tryd.pinned (.plain (OpenSpec.ofChange tracePrintsSpec)) tracePrintsCard

/-- THE TIED CARD OF 'runriglaw34.TraceRuns'. -/
def traceRunsCard : Claim7 := { stood := { row := traceRunsRow, standIns := [], harness := (true, "198b089314a835a2f6c5a797556647a8d6932e9e0df7ba7524b6b95c5452ee97"), looks := true }, kinds := [], alts := [], laidByText := true, laidKinds := [.data, .data, .data, .data, .sentinel, .sentinel, .pinned], laidTests := true, laidLooks := .later }
def TraceRunsCardSaid : Prop := Claim7.holds Tryd.pinned (.plain (OpenSpec.ofChange traceRunsSpec)) traceRunsCard

/-- THE SECOND FORM's CARD OF 'runriglaw34.TraceActs'. -/
def traceActsUptoCard : Claim7 := { stood := { row := traceActsUptoRow, standIns := [], harness := (true, "198b089314a835a2f6c5a797556647a8d6932e9e0df7ba7524b6b95c5452ee97"), looks := true }, kinds := [], alts := [], laidByText := true, laidKinds := [.data, .data, .data, .data, .sentinel, .sentinel, .pinned], laidTests := true, laidLooks := .later }
def TraceActsUptoCardSaid : Prop := Claim7.holds Tryd.pinned (.plain (OpenSpec.upto traceActsSpec)) traceActsUptoCard

/-- THE SECOND FORM's CARD OF 'runriglaw34.TracePrints'. -/
def tracePrintsUptoCard : Claim7 := { stood := { row := tracePrintsUptoRow, standIns := [], harness := (true, "198b089314a835a2f6c5a797556647a8d6932e9e0df7ba7524b6b95c5452ee97"), looks := true }, kinds := [], alts := [], laidByText := true, laidKinds := [.data, .data, .data, .data, .sentinel, .sentinel, .pinned], laidTests := true, laidLooks := .later }
def TracePrintsUptoCardSaid : Prop := Claim7.holds Tryd.pinned (.plain (OpenSpec.upto tracePrintsSpec)) tracePrintsUptoCard

/-- THE SECOND FORM's CARD OF 'runriglaw34.TraceRuns'. -/
def traceRunsUptoCard : Claim7 := { stood := { row := traceRunsUptoRow, standIns := [], harness := (true, "198b089314a835a2f6c5a797556647a8d6932e9e0df7ba7524b6b95c5452ee97"), looks := true }, kinds := [], alts := [], laidByText := true, laidKinds := [.data, .data, .data, .data, .sentinel, .sentinel, .pinned], laidTests := true, laidLooks := .later }
def TraceRunsUptoCardSaid : Prop := Claim7.holds Tryd.pinned (.plain (OpenSpec.upto traceRunsSpec)) traceRunsUptoCard
end Rows
end Go.Proofs.YtfidiiifcmmffaaDoor
