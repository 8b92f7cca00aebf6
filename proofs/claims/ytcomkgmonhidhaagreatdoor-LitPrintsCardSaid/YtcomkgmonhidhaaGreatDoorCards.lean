/-
  DERIVED. GIVEN WITH THE SEED: THE CARDS: each row of YtcomkgmonhidhaaGreatDoorRows.lean that lists a variable, with what it lists TIED to the program's text (the seventh form; the later family's looks); each row that meets fmt, with fmt's text TOLD by the authors' own Lean function (tested against real Go, not proved from fmt's source: count such statements apart). THE CARD IS WHAT COUNTS. Prove the row's statement (the work); the ties are given (YtcomkgmonhidhaaGreatDoorTie.lean); close each card by the builder's one call (the guide's Derived/Test/ToyasCard.lean, 'card_holds'). Laid BY PROGRAM, IN A SANDBOX (cutbox-door.mjs). By AI agents, Wed Nov 11 2026. No macro, syntax, notation, axiom, sorry.
-/
import Derived.Test.YtcomkgmonhidhaaGreatDoorRows
import GoSem.ClaimSeven
namespace Go.Proofs.YtcomkgmonhidhaaGreatDoor
namespace Rows

/-- THE TIED CARD OF 'vergelaw12.LitPrints'. -/
def litPrintsCard : Claim7 := { stood := { row := litPrintsRow, standIns := [], harness := (true, "8482cf08c2169cc7c01a4e86d2efb03f39488f342ad20ed29d5caaf16d2b6b1e"), looks := false }, kinds := [], alts := [], laidByText := true, laidKinds := [.data, .data, .data], laidTests := true, laidLooks := .later }
def LitPrintsCardSaid : Prop := Claim7.holds Tryz.pinned (.plain (OpenSpec.ofChange litPrintsSpec)) litPrintsCard

/-- THE SECOND FORM's CARD OF 'vergelaw12.LitPrints'. -/
def litPrintsUptoCard : Claim7 := { stood := { row := litPrintsUptoRow, standIns := [], harness := (true, "8482cf08c2169cc7c01a4e86d2efb03f39488f342ad20ed29d5caaf16d2b6b1e"), looks := false }, kinds := [], alts := [], laidByText := true, laidKinds := [.data, .data, .data], laidTests := true, laidLooks := .later }
def LitPrintsUptoCardSaid : Prop := Claim7.holds Tryz.pinned (.plain (OpenSpec.upto litPrintsSpec)) litPrintsUptoCard
end Rows
end Go.Proofs.YtcomkgmonhidhaaGreatDoor
