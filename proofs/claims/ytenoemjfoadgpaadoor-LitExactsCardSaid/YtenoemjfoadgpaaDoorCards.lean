/-
  DERIVED. GIVEN WITH THE SEED: THE CARDS: each row of YtenoemjfoadgpaaDoorRows.lean that lists a variable, with what it lists TIED to the program's text (the seventh form; the later family's looks); each row that meets fmt, with fmt's text TOLD by the authors' own Lean function (tested against real Go, not proved from fmt's source: count such statements apart). THE CARD IS WHAT COUNTS. Prove the row's statement (the work); the ties are given (YtenoemjfoadgpaaDoorTie.lean); close each card by the builder's one call (the guide's Derived/Test/ToyasCard.lean, 'card_holds'). Laid BY PROGRAM, IN A SANDBOX (cutbox-door.mjs). By AI agents, Wed Nov 11 2026. No macro, syntax, notation, axiom, sorry.
-/
import Derived.Test.YtenoemjfoadgpaaDoorRows
import GoSem.ClaimSeven
namespace Go.Proofs.YtenoemjfoadgpaaDoor
namespace Rows

/-- THE TIED CARD OF 'vergelaw12.LitExacts'. -/
def litExactsCard : Claim7 := { stood := { row := litExactsRow, standIns := [], harness := (true, "19accb93c4acd1fc8826b12c45262d5f38b36f4f0d6682d1aff30ce06dd325b5"), looks := false }, kinds := [], alts := [], laidByText := true, laidKinds := [.data, .data, .data], laidTests := true, laidLooks := .later }
def LitExactsCardSaid : Prop := Claim7.holds Tryd.pinned (.plain (OpenSpec.ofChange litExactsSpec)) litExactsCard

/-- THE SECOND FORM's CARD OF 'vergelaw12.LitExacts'. -/
def litExactsUptoCard : Claim7 := { stood := { row := litExactsUptoRow, standIns := [], harness := (true, "19accb93c4acd1fc8826b12c45262d5f38b36f4f0d6682d1aff30ce06dd325b5"), looks := false }, kinds := [], alts := [], laidByText := true, laidKinds := [.data, .data, .data], laidTests := true, laidLooks := .later }
def LitExactsUptoCardSaid : Prop := Claim7.holds Tryd.pinned (.plain (OpenSpec.upto litExactsSpec)) litExactsUptoCard
end Rows
end Go.Proofs.YtenoemjfoadgpaaDoor
