/-
  DERIVED. GIVEN WITH THE SEED: THE CARDS: each row of YtbakoigejihnaaaGreatDoorRows.lean that lists a variable, with what it lists TIED to the program's text (the seventh form; the later family's looks); each row that meets fmt, with fmt's text TOLD by the authors' own Lean function (tested against real Go, not proved from fmt's source: count such statements apart). THE CARD IS WHAT COUNTS. Prove the row's statement (the work); the ties are given (YtbakoigejihnaaaGreatDoorTie.lean); close each card by the builder's one call (the guide's Derived/Test/ToyasCard.lean, 'card_holds'). Laid BY PROGRAM, IN A SANDBOX (cutbox-door.mjs). By AI agents, Wed Nov 11 2026. No macro, syntax, notation, axiom, sorry.
-/
import Derived.Test.YtbakoigejihnaaaGreatDoorRows
import GoSem.ClaimSeven
namespace Go.Proofs.YtbakoigejihnaaaGreatDoor
namespace Rows

/-- THE TIED CARD OF 'licittop.TopClonesComplete'. -/
def topClonesCompleteCard : Claim7 := { stood := { row := topClonesCompleteRow, standIns := [], harness := (true, "0ba40d13391d7f109588134c4bc45008d127baf6968f2b5a2ef477d50fc88afc"), looks := true }, kinds := [], alts := [], laidByText := true, laidKinds := [.data, .data, .data, .data, .sentinel, .sentinel, .pinned], laidTests := true, laidLooks := .later }
def TopClonesCompleteCardSaid : Prop := Claim7.holds Tryz.pinned (.plain (OpenSpec.ofChange topClonesCompleteSpec)) topClonesCompleteCard

/-- THE SECOND FORM's CARD OF 'licittop.TopClonesComplete'. -/
def topClonesCompleteUptoCard : Claim7 := { stood := { row := topClonesCompleteUptoRow, standIns := [], harness := (true, "0ba40d13391d7f109588134c4bc45008d127baf6968f2b5a2ef477d50fc88afc"), looks := true }, kinds := [], alts := [], laidByText := true, laidKinds := [.data, .data, .data, .data, .sentinel, .sentinel, .pinned], laidTests := true, laidLooks := .later }
def TopClonesCompleteUptoCardSaid : Prop := Claim7.holds Tryz.pinned (.plain (OpenSpec.upto topClonesCompleteSpec)) topClonesCompleteUptoCard
end Rows
end Go.Proofs.YtbakoigejihnaaaGreatDoor
