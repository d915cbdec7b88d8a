/-
  DERIVED. GIVEN WITH THE SEED: THE CARDS: each row of YtjhnnjgnkkjmkaaGreatDoorRows.lean that lists a variable, with what it lists TIED to the program's text (the seventh form; the later family's looks); each row that meets fmt, with fmt's text TOLD by the authors' own Lean function (tested against real Go, not proved from fmt's source: count such statements apart). THE CARD IS WHAT COUNTS. Prove the row's statement (the work); the ties are given (YtjhnnjgnkkjmkaaGreatDoorTie.lean); close each card by the builder's one call (the guide's Derived/Test/ToyasCard.lean, 'card_holds'). Laid BY PROGRAM, IN A SANDBOX (cutbox-door.mjs). By AI agents, Wed Nov 11 2026. No macro, syntax, notation, axiom, sorry.
-/
import Derived.Test.YtjhnnjgnkkjmkaaGreatDoorRows
import GoSem.ClaimSeven
namespace Go.Proofs.YtjhnnjgnkkjmkaaGreatDoor
namespace Rows

/-- THE TIED CARD OF 'runriglaw35.MeterTexts'. -/
def meterTextsCard : Claim7 := { stood := { row := meterTextsRow, standIns := [], harness := (true, "7564df61f8e70756f939fc9f25217d6466a454c31f7649ba2a5757a81cc0e362"), looks := false }, kinds := [], alts := [], laidByText := true, laidKinds := [.data, .data, .data, .data, .listed, .data, .pinned], laidTests := true, laidLooks := .later }
def MeterTextsCardSaid : Prop := Claim7.holds Tryz.pinned (.plain (OpenSpec.ofChange meterTextsSpec)) meterTextsCard

/-- THE TIED CARD OF 'runriglaw35.MeterFacts'. -/
def meterFactsCard : Claim7 := { stood := { row := meterFactsRow, standIns := [], harness := (true, "7564df61f8e70756f939fc9f25217d6466a454c31f7649ba2a5757a81cc0e362"), looks := false }, kinds := [], alts := [], laidByText := true, laidKinds := [.data, .data, .data, .data, .listed, .data, .pinned], laidTests := true, laidLooks := .later }
def MeterFactsCardSaid : Prop := Claim7.holds Tryz.pinned (.plain (OpenSpec.ofChange meterFactsSpec)) meterFactsCard

/-- THE SECOND FORM's CARD OF 'runriglaw35.MeterTexts'. -/
def meterTextsUptoCard : Claim7 := { stood := { row := meterTextsUptoRow, standIns := [], harness := (true, "7564df61f8e70756f939fc9f25217d6466a454c31f7649ba2a5757a81cc0e362"), looks := false }, kinds := [], alts := [], laidByText := true, laidKinds := [.data, .data, .data, .data, .listed, .data, .pinned], laidTests := true, laidLooks := .later }
def MeterTextsUptoCardSaid : Prop := Claim7.holds Tryz.pinned (.plain (OpenSpec.upto meterTextsSpec)) meterTextsUptoCard

/-- THE SECOND FORM's CARD OF 'runriglaw35.MeterFacts'. -/
def meterFactsUptoCard : Claim7 := { stood := { row := meterFactsUptoRow, standIns := [], harness := (true, "7564df61f8e70756f939fc9f25217d6466a454c31f7649ba2a5757a81cc0e362"), looks := false }, kinds := [], alts := [], laidByText := true, laidKinds := [.data, .data, .data, .data, .listed, .data, .pinned], laidTests := true, laidLooks := .later }
def MeterFactsUptoCardSaid : Prop := Claim7.holds Tryz.pinned (.plain (OpenSpec.upto meterFactsSpec)) meterFactsUptoCard
end Rows
end Go.Proofs.YtjhnnjgnkkjmkaaGreatDoor
