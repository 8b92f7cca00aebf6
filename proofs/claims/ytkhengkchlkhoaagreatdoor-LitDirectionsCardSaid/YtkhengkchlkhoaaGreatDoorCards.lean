/-
  DERIVED. GIVEN WITH THE SEED: THE CARDS: each row of YtkhengkchlkhoaaGreatDoorRows.lean that lists a variable, with what it lists TIED to the program's text (the seventh form; the later family's looks); each row that meets fmt, with fmt's text TOLD by the authors' own Lean function (tested against real Go, not proved from fmt's source: count such statements apart). THE CARD IS WHAT COUNTS. Prove the row's statement (the work); the ties are given (YtkhengkchlkhoaaGreatDoorTie.lean); close each card by the builder's one call (the guide's Derived/Test/ToyasCard.lean, 'card_holds'). Laid BY PROGRAM, IN A SANDBOX (cutbox-door.mjs). By AI agents, Wed Nov 11 2026. No macro, syntax, notation, axiom, sorry.
-/
import Derived.Test.YtkhengkchlkhoaaGreatDoorRows
import GoSem.ClaimSeven
namespace Go.Proofs.YtkhengkchlkhoaaGreatDoor
namespace Rows

/-- THE TIED CARD OF 'vergelaw12.LitDirections'. -/
def litDirectionsCard : Claim7 := { stood := { row := litDirectionsRow, standIns := [], harness := (true, "f3edf0a8cdd3a65a139437fc937dc5695065f35eab6c7074e08f1ffc50a55388"), looks := true }, kinds := [], alts := [], laidByText := true, laidKinds := [.data, .data, .data], laidTests := true, laidLooks := .later }
def LitDirectionsCardSaid : Prop := Claim7.holds Tryz.pinned (.plain (OpenSpec.ofChange litDirectionsSpec)) litDirectionsCard

/-- THE SECOND FORM's CARD OF 'vergelaw12.LitDirections'. -/
def litDirectionsUptoCard : Claim7 := { stood := { row := litDirectionsUptoRow, standIns := [], harness := (true, "f3edf0a8cdd3a65a139437fc937dc5695065f35eab6c7074e08f1ffc50a55388"), looks := true }, kinds := [], alts := [], laidByText := true, laidKinds := [.data, .data, .data], laidTests := true, laidLooks := .later }
def LitDirectionsUptoCardSaid : Prop := Claim7.holds Tryz.pinned (.plain (OpenSpec.upto litDirectionsSpec)) litDirectionsUptoCard
end Rows
end Go.Proofs.YtkhengkchlkhoaaGreatDoor
