/-
  DERIVED. GIVEN WITH THE SEED: THE CARDS: each row of YtiadjcilfljdaaaDoorRows.lean that lists a variable, with what it lists TIED to the program's text (the seventh form; the later family's looks); each row that meets fmt, with fmt's text TOLD by the authors' own Lean function (tested against real Go, not proved from fmt's source: count such statements apart). THE CARD IS WHAT COUNTS. Prove the row's statement (the work); the ties are given (YtiadjcilfljdaaaDoorTie.lean); close each card by the builder's one call (the guide's Derived/Test/ToyasCard.lean, 'card_holds'). Laid BY PROGRAM, IN A SANDBOX (cutbox-door.mjs). By AI agents, Wed Nov 11 2026. No macro, syntax, notation, axiom, sorry.
-/
import Derived.Test.YtiadjcilfljdaaaDoorRows
import GoSem.ClaimSeven
namespace Go.Proofs.YtiadjcilfljdaaaDoor
namespace Rows

/-- THE TIED CARD OF 'vergelaw5.DigitsHexes'. -/
def digitsHexesCard : Claim7 := { stood := { row := digitsHexesRow, standIns := [], harness := (true, "5bc36797ed0ae3e6ad37be4d8f1d38cb77f2044c1b9812e074138d073b55c124"), looks := false }, kinds := [], alts := [], laidByText := true, laidKinds := [.data, .data, .data], laidTests := true, laidLooks := .later }
def DigitsHexesCardSaid : Prop := Claim7.holds Tryd.pinned (.plain (OpenSpec.ofChange digitsHexesSpec)) digitsHexesCard

/-- THE TIED CARD OF 'vergelaw5.DigitsExacts'. -/
def digitsExactsCard : Claim7 := { stood := { row := digitsExactsRow, standIns := [], harness := (true, "5bc36797ed0ae3e6ad37be4d8f1d38cb77f2044c1b9812e074138d073b55c124"), looks := false }, kinds := [], alts := [], laidByText := true, laidKinds := [.data, .data, .data], laidTests := true, laidLooks := .later }
def DigitsExactsCardSaid : Prop := Claim7.holds Tryd.pinned (.plain (OpenSpec.ofChange digitsExactsSpec)) digitsExactsCard

/-- THE TIED CARD OF 'vergelaw5.DigitsShorts'. -/
def digitsShortsCard : Claim7 := { stood := { row := digitsShortsRow, standIns := [], harness := (true, "5bc36797ed0ae3e6ad37be4d8f1d38cb77f2044c1b9812e074138d073b55c124"), looks := false }, kinds := [], alts := [], laidByText := true, laidKinds := [.data, .data, .data], laidTests := true, laidLooks := .later }
def DigitsShortsCardSaid : Prop := Claim7.holds Tryd.pinned (.plain (OpenSpec.ofChange digitsShortsSpec)) digitsShortsCard

/-- THE SECOND FORM's CARD OF 'vergelaw5.DigitsHexes'. -/
def digitsHexesUptoCard : Claim7 := { stood := { row := digitsHexesUptoRow, standIns := [], harness := (true, "5bc36797ed0ae3e6ad37be4d8f1d38cb77f2044c1b9812e074138d073b55c124"), looks := false }, kinds := [], alts := [], laidByText := true, laidKinds := [.data, .data, .data], laidTests := true, laidLooks := .later }
def DigitsHexesUptoCardSaid : Prop := Claim7.holds Tryd.pinned (.plain (OpenSpec.upto digitsHexesSpec)) digitsHexesUptoCard

/-- THE SECOND FORM's CARD OF 'vergelaw5.DigitsExacts'. -/
def digitsExactsUptoCard : Claim7 := { stood := { row := digitsExactsUptoRow, standIns := [], harness := (true, "5bc36797ed0ae3e6ad37be4d8f1d38cb77f2044c1b9812e074138d073b55c124"), looks := false }, kinds := [], alts := [], laidByText := true, laidKinds := [.data, .data, .data], laidTests := true, laidLooks := .later }
def DigitsExactsUptoCardSaid : Prop := Claim7.holds Tryd.pinned (.plain (OpenSpec.upto digitsExactsSpec)) digitsExactsUptoCard

/-- THE SECOND FORM's CARD OF 'vergelaw5.DigitsShorts'. -/
def digitsShortsUptoCard : Claim7 := { stood := { row := digitsShortsUptoRow, standIns := [], harness := (true, "5bc36797ed0ae3e6ad37be4d8f1d38cb77f2044c1b9812e074138d073b55c124"), looks := false }, kinds := [], alts := [], laidByText := true, laidKinds := [.data, .data, .data], laidTests := true, laidLooks := .later }
def DigitsShortsUptoCardSaid : Prop := Claim7.holds Tryd.pinned (.plain (OpenSpec.upto digitsShortsSpec)) digitsShortsUptoCard
end Rows
end Go.Proofs.YtiadjcilfljdaaaDoor
