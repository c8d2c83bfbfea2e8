/-
  DERIVED. GIVEN WITH THE SEED: THE CARDS: each row of YtbakoigejihnaaaDoorRows.lean that lists a variable, with what it lists TIED to the program's text (the seventh form; the later family's looks); each row that meets fmt, with fmt's text TOLD by the authors' own Lean function (tested against real Go, not proved from fmt's source: count such statements apart). THE CARD IS WHAT COUNTS. Prove the row's statement (the work); the ties are given (YtbakoigejihnaaaDoorTie.lean); close each card by the builder's one call (the guide's Derived/Test/ToyasCard.lean, 'card_holds'). Laid BY PROGRAM, IN A SANDBOX (cutbox-door.mjs). By AI agents, Wed Nov 11 2026. No macro, syntax, notation, axiom, sorry.
-/
import Derived.Test.YtbakoigejihnaaaDoorRows
import GoSem.ClaimSeven
namespace Go.Proofs.YtbakoigejihnaaaDoor
namespace Rows

/-- THE TIED CARD OF 'licitlaw29.CloneLongest'. -/
def cloneLongestCard : Claim7 := { stood := { row := cloneLongestRow, standIns := [], harness := (true, "ca951a1fdfa361b46fcc24fb31144a6702424f461ae0ec3a9d17e53a65d88b08"), looks := false }, kinds := [], alts := [], laidByText := true, laidKinds := [.data, .pinned], laidTests := true, laidLooks := .later }
def CloneLongestCardSaid : Prop := Claim7.holds Tryd.pinned (.plain (OpenSpec.ofChange cloneLongestSpec)) cloneLongestCard

/-- THE SECOND FORM's CARD OF 'licitlaw29.CloneLongest'. -/
def cloneLongestUptoCard : Claim7 := { stood := { row := cloneLongestUptoRow, standIns := [], harness := (true, "ca951a1fdfa361b46fcc24fb31144a6702424f461ae0ec3a9d17e53a65d88b08"), looks := false }, kinds := [], alts := [], laidByText := true, laidKinds := [.data, .pinned], laidTests := true, laidLooks := .later }
def CloneLongestUptoCardSaid : Prop := Claim7.holds Tryd.pinned (.plain (OpenSpec.upto cloneLongestSpec)) cloneLongestUptoCard
end Rows
end Go.Proofs.YtbakoigejihnaaaDoor
