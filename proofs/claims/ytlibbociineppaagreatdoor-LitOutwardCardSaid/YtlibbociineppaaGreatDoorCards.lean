/-
  DERIVED. GIVEN WITH THE SEED: THE CARDS: each row of YtlibbociineppaaGreatDoorRows.lean that lists a variable, with what it lists TIED to the program's text (the seventh form; the later family's looks); each row that meets fmt, with fmt's text TOLD by the authors' own Lean function (tested against real Go, not proved from fmt's source: count such statements apart). THE CARD IS WHAT COUNTS. Prove the row's statement (the work); the ties are given (YtlibbociineppaaGreatDoorTie.lean); close each card by the builder's one call (the guide's Derived/Test/ToyasCard.lean, 'card_holds'). Laid BY PROGRAM, IN A SANDBOX (cutbox-door.mjs). By AI agents, Wed Nov 11 2026. No macro, syntax, notation, axiom, sorry.
-/
import Derived.Test.YtlibbociineppaaGreatDoorRows
import GoSem.ClaimSeven
namespace Go.Proofs.YtlibbociineppaaGreatDoor
namespace Rows

/-- THE TIED CARD OF 'vergelaw12.LitOutward'. -/
def litOutwardCard : Claim7 := { stood := { row := litOutwardRow, standIns := [], harness := (true, "63bcf2b56f97b6ffccac51921aa00023ff74eec11435f74e46bb51596486981b"), looks := true }, kinds := [], alts := [], laidByText := true, laidKinds := [.data, .data, .data], laidTests := true, laidLooks := .later }
def LitOutwardCardSaid : Prop := Claim7.holds Tryz.pinned (.plain (OpenSpec.ofChange litOutwardSpec)) litOutwardCard

/-- THE SECOND FORM's CARD OF 'vergelaw12.LitOutward'. -/
def litOutwardUptoCard : Claim7 := { stood := { row := litOutwardUptoRow, standIns := [], harness := (true, "63bcf2b56f97b6ffccac51921aa00023ff74eec11435f74e46bb51596486981b"), looks := true }, kinds := [], alts := [], laidByText := true, laidKinds := [.data, .data, .data], laidTests := true, laidLooks := .later }
def LitOutwardUptoCardSaid : Prop := Claim7.holds Tryz.pinned (.plain (OpenSpec.upto litOutwardSpec)) litOutwardUptoCard
end Rows
end Go.Proofs.YtlibbociineppaaGreatDoor
