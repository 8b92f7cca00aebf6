/-
  DERIVED. GIVEN WITH THE SEED: THE CARDS: each row of YtigmpifjcijdbaaGreatDoorRows.lean that lists a variable, with what it lists TIED to the program's text (the seventh form; the later family's looks); each row that meets fmt, with fmt's text TOLD by the authors' own Lean function (tested against real Go, not proved from fmt's source: count such statements apart). THE CARD IS WHAT COUNTS. Prove the row's statement (the work); the ties are given (YtigmpifjcijdbaaGreatDoorTie.lean); close each card by the builder's one call (the guide's Derived/Test/ToyasCard.lean, 'card_holds'). Laid BY PROGRAM, IN A SANDBOX (cutbox-door.mjs). By AI agents, Wed Nov 11 2026. No macro, syntax, notation, axiom, sorry.
-/
import Derived.Test.YtigmpifjcijdbaaGreatDoorRows
import GoSem.ClaimSeven
namespace Go.Proofs.YtigmpifjcijdbaaGreatDoor
namespace Rows

/-- THE TIED CARD OF 'vergelaw12.LitSpelt'. -/
def litSpeltCard : Claim7 := { stood := { row := litSpeltRow, standIns := [], harness := (true, "112dd71e868a479b2242bf640f210404d4e9b80888320533dc07937b20420d44"), looks := true }, kinds := [], alts := [], laidByText := true, laidKinds := [.data, .data, .data], laidTests := true, laidLooks := .later }
def LitSpeltCardSaid : Prop := Claim7.holds Tryz.pinned (.plain (OpenSpec.ofChange litSpeltSpec)) litSpeltCard

/-- THE SECOND FORM's CARD OF 'vergelaw12.LitSpelt'. -/
def litSpeltUptoCard : Claim7 := { stood := { row := litSpeltUptoRow, standIns := [], harness := (true, "112dd71e868a479b2242bf640f210404d4e9b80888320533dc07937b20420d44"), looks := true }, kinds := [], alts := [], laidByText := true, laidKinds := [.data, .data, .data], laidTests := true, laidLooks := .later }
def LitSpeltUptoCardSaid : Prop := Claim7.holds Tryz.pinned (.plain (OpenSpec.upto litSpeltSpec)) litSpeltUptoCard
end Rows
end Go.Proofs.YtigmpifjcijdbaaGreatDoor
