/-
  DERIVED. GIVEN WITH THE SEED: THE CARDS: each row of YtdjaeoeejcmhdaaGreatDoorRows.lean that lists a variable, with what it lists TIED to the program's text (the seventh form; the later family's looks); each row that meets fmt, with fmt's text TOLD by the authors' own Lean function (tested against real Go, not proved from fmt's source: count such statements apart). THE CARD IS WHAT COUNTS. Prove the row's statement (the work); the ties are given (YtdjaeoeejcmhdaaGreatDoorTie.lean); close each card by the builder's one call (the guide's Derived/Test/ToyasCard.lean, 'card_holds'). Laid BY PROGRAM, IN A SANDBOX (cutbox-door.mjs). By AI agents, Wed Nov 11 2026. No macro, syntax, notation, axiom, sorry.
-/
import Derived.Test.YtdjaeoeejcmhdaaGreatDoorRows
import GoSem.ClaimSeven
namespace Go.Proofs.YtdjaeoeejcmhdaaGreatDoor
namespace Rows

/-- THE TIED CARD OF 'runriglaw24.HomeMoves'. -/
def homeMovesCard : Claim7 := { stood := { row := homeMovesRow, standIns := [], harness := (true, "d6eb54e790de2ec2c36fdfd9708cc2d2e48c2d2c412155e35b8f8f3b1630423e"), looks := false }, kinds := [], alts := [], laidByText := true, laidKinds := [.data, .data, .pinned], laidTests := true, laidLooks := .later }
def HomeMovesCardSaid : Prop := Claim7.holds Tryz.pinned (.plain (OpenSpec.ofChange homeMovesSpec)) homeMovesCard

/-- THE SECOND FORM's CARD OF 'runriglaw24.HomeMoves'. -/
def homeMovesUptoCard : Claim7 := { stood := { row := homeMovesUptoRow, standIns := [], harness := (true, "d6eb54e790de2ec2c36fdfd9708cc2d2e48c2d2c412155e35b8f8f3b1630423e"), looks := false }, kinds := [], alts := [], laidByText := true, laidKinds := [.data, .data, .pinned], laidTests := true, laidLooks := .later }
def HomeMovesUptoCardSaid : Prop := Claim7.holds Tryz.pinned (.plain (OpenSpec.upto homeMovesSpec)) homeMovesUptoCard
end Rows
end Go.Proofs.YtdjaeoeejcmhdaaGreatDoor
