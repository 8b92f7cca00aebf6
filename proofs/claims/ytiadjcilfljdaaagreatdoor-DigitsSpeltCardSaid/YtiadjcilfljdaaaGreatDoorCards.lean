/-
  DERIVED. GIVEN WITH THE SEED: THE CARDS: each row of YtiadjcilfljdaaaGreatDoorRows.lean that lists a variable, with what it lists TIED to the program's text (the seventh form; the later family's looks); each row that meets fmt, with fmt's text TOLD by the authors' own Lean function (tested against real Go, not proved from fmt's source: count such statements apart). THE CARD IS WHAT COUNTS. Prove the row's statement (the work); the ties are given (YtiadjcilfljdaaaGreatDoorTie.lean); close each card by the builder's one call (the guide's Derived/Test/ToyasCard.lean, 'card_holds'). Laid BY PROGRAM, IN A SANDBOX (cutbox-door.mjs). By AI agents, Wed Nov 11 2026. No macro, syntax, notation, axiom, sorry.
-/
import Derived.Test.YtiadjcilfljdaaaGreatDoorRows
import GoSem.ClaimSeven
namespace Go.Proofs.YtiadjcilfljdaaaGreatDoor
namespace Rows

/-- THE TIED CARD OF 'vergelaw5.DigitsFewest'. -/
def digitsFewestCard : Claim7 := { stood := { row := digitsFewestRow, standIns := [], harness := (true, "d57e46e35efd303770a823a814b45ee59d911c2a1c48ea96927386c0a9db80ff"), looks := true }, kinds := [], alts := [], laidByText := true, laidKinds := [.data, .data, .data], laidTests := true, laidLooks := .later }
def DigitsFewestCardSaid : Prop := Claim7.holds Tryz.pinned (.plain (OpenSpec.ofChange digitsFewestSpec)) digitsFewestCard

/-- THE TIED CARD OF 'vergelaw5.DigitsOrder'. -/
def digitsOrderCard : Claim7 := { stood := { row := digitsOrderRow, standIns := [], harness := (true, "d57e46e35efd303770a823a814b45ee59d911c2a1c48ea96927386c0a9db80ff"), looks := true }, kinds := [], alts := [], laidByText := true, laidKinds := [.data, .data, .data], laidTests := true, laidLooks := .later }
def DigitsOrderCardSaid : Prop := Claim7.holds Tryz.pinned (.plain (OpenSpec.ofChange digitsOrderSpec)) digitsOrderCard

/-- THE TIED CARD OF 'vergelaw5.DigitsSpelt'. -/
def digitsSpeltCard : Claim7 := { stood := { row := digitsSpeltRow, standIns := [], harness := (true, "d57e46e35efd303770a823a814b45ee59d911c2a1c48ea96927386c0a9db80ff"), looks := true }, kinds := [], alts := [], laidByText := true, laidKinds := [.data, .data, .data], laidTests := true, laidLooks := .later }
def DigitsSpeltCardSaid : Prop := Claim7.holds Tryz.pinned (.plain (OpenSpec.ofChange digitsSpeltSpec)) digitsSpeltCard

/-- THE TIED CARD OF 'vergelaw5.DigitsAround'. -/
def digitsAroundCard : Claim7 := { stood := { row := digitsAroundRow, standIns := [], harness := (true, "d57e46e35efd303770a823a814b45ee59d911c2a1c48ea96927386c0a9db80ff"), looks := true }, kinds := [], alts := [], laidByText := true, laidKinds := [.data, .data, .data], laidTests := true, laidLooks := .later }
def DigitsAroundCardSaid : Prop := Claim7.holds Tryz.pinned (.plain (OpenSpec.ofChange digitsAroundSpec)) digitsAroundCard

/-- THE TIED CARD OF 'vergelaw5.DigitsBound'. -/
def digitsBoundCard : Claim7 := { stood := { row := digitsBoundRow, standIns := [], harness := (true, "d57e46e35efd303770a823a814b45ee59d911c2a1c48ea96927386c0a9db80ff"), looks := true }, kinds := [], alts := [], laidByText := true, laidKinds := [.data, .data, .data], laidTests := true, laidLooks := .later }
def DigitsBoundCardSaid : Prop := Claim7.holds Tryz.pinned (.plain (OpenSpec.ofChange digitsBoundSpec)) digitsBoundCard

/-- THE TIED CARD OF 'vergelaw5.DigitsBack'. -/
def digitsBackCard : Claim7 := { stood := { row := digitsBackRow, standIns := [], harness := (true, "d57e46e35efd303770a823a814b45ee59d911c2a1c48ea96927386c0a9db80ff"), looks := true }, kinds := [], alts := [], laidByText := true, laidKinds := [.data, .data, .data], laidTests := true, laidLooks := .later }
def DigitsBackCardSaid : Prop := Claim7.holds Tryz.pinned (.plain (OpenSpec.ofChange digitsBackSpec)) digitsBackCard

/-- THE TIED CARD OF 'vergelaw5.DigitsKnown'. -/
def digitsKnownCard : Claim7 := { stood := { row := digitsKnownRow, standIns := [], harness := (true, "d57e46e35efd303770a823a814b45ee59d911c2a1c48ea96927386c0a9db80ff"), looks := true }, kinds := [], alts := [], laidByText := true, laidKinds := [.data, .data, .data], laidTests := true, laidLooks := .later }
def DigitsKnownCardSaid : Prop := Claim7.holds Tryz.pinned (.plain (OpenSpec.ofChange digitsKnownSpec)) digitsKnownCard

/-- THE SECOND FORM's CARD OF 'vergelaw5.DigitsFewest'. -/
def digitsFewestUptoCard : Claim7 := { stood := { row := digitsFewestUptoRow, standIns := [], harness := (true, "d57e46e35efd303770a823a814b45ee59d911c2a1c48ea96927386c0a9db80ff"), looks := true }, kinds := [], alts := [], laidByText := true, laidKinds := [.data, .data, .data], laidTests := true, laidLooks := .later }
def DigitsFewestUptoCardSaid : Prop := Claim7.holds Tryz.pinned (.plain (OpenSpec.upto digitsFewestSpec)) digitsFewestUptoCard

/-- THE SECOND FORM's CARD OF 'vergelaw5.DigitsOrder'. -/
def digitsOrderUptoCard : Claim7 := { stood := { row := digitsOrderUptoRow, standIns := [], harness := (true, "d57e46e35efd303770a823a814b45ee59d911c2a1c48ea96927386c0a9db80ff"), looks := true }, kinds := [], alts := [], laidByText := true, laidKinds := [.data, .data, .data], laidTests := true, laidLooks := .later }
def DigitsOrderUptoCardSaid : Prop := Claim7.holds Tryz.pinned (.plain (OpenSpec.upto digitsOrderSpec)) digitsOrderUptoCard

/-- THE SECOND FORM's CARD OF 'vergelaw5.DigitsSpelt'. -/
def digitsSpeltUptoCard : Claim7 := { stood := { row := digitsSpeltUptoRow, standIns := [], harness := (true, "d57e46e35efd303770a823a814b45ee59d911c2a1c48ea96927386c0a9db80ff"), looks := true }, kinds := [], alts := [], laidByText := true, laidKinds := [.data, .data, .data], laidTests := true, laidLooks := .later }
def DigitsSpeltUptoCardSaid : Prop := Claim7.holds Tryz.pinned (.plain (OpenSpec.upto digitsSpeltSpec)) digitsSpeltUptoCard

/-- THE SECOND FORM's CARD OF 'vergelaw5.DigitsAround'. -/
def digitsAroundUptoCard : Claim7 := { stood := { row := digitsAroundUptoRow, standIns := [], harness := (true, "d57e46e35efd303770a823a814b45ee59d911c2a1c48ea96927386c0a9db80ff"), looks := true }, kinds := [], alts := [], laidByText := true, laidKinds := [.data, .data, .data], laidTests := true, laidLooks := .later }
def DigitsAroundUptoCardSaid : Prop := Claim7.holds Tryz.pinned (.plain (OpenSpec.upto digitsAroundSpec)) digitsAroundUptoCard

/-- THE SECOND FORM's CARD OF 'vergelaw5.DigitsBound'. -/
def digitsBoundUptoCard : Claim7 := { stood := { row := digitsBoundUptoRow, standIns := [], harness := (true, "d57e46e35efd303770a823a814b45ee59d911c2a1c48ea96927386c0a9db80ff"), looks := true }, kinds := [], alts := [], laidByText := true, laidKinds := [.data, .data, .data], laidTests := true, laidLooks := .later }
def DigitsBoundUptoCardSaid : Prop := Claim7.holds Tryz.pinned (.plain (OpenSpec.upto digitsBoundSpec)) digitsBoundUptoCard

/-- THE SECOND FORM's CARD OF 'vergelaw5.DigitsBack'. -/
def digitsBackUptoCard : Claim7 := { stood := { row := digitsBackUptoRow, standIns := [], harness := (true, "d57e46e35efd303770a823a814b45ee59d911c2a1c48ea96927386c0a9db80ff"), looks := true }, kinds := [], alts := [], laidByText := true, laidKinds := [.data, .data, .data], laidTests := true, laidLooks := .later }
def DigitsBackUptoCardSaid : Prop := Claim7.holds Tryz.pinned (.plain (OpenSpec.upto digitsBackSpec)) digitsBackUptoCard

/-- THE SECOND FORM's CARD OF 'vergelaw5.DigitsKnown'. -/
def digitsKnownUptoCard : Claim7 := { stood := { row := digitsKnownUptoRow, standIns := [], harness := (true, "d57e46e35efd303770a823a814b45ee59d911c2a1c48ea96927386c0a9db80ff"), looks := true }, kinds := [], alts := [], laidByText := true, laidKinds := [.data, .data, .data], laidTests := true, laidLooks := .later }
def DigitsKnownUptoCardSaid : Prop := Claim7.holds Tryz.pinned (.plain (OpenSpec.upto digitsKnownSpec)) digitsKnownUptoCard
end Rows
end Go.Proofs.YtiadjcilfljdaaaGreatDoor
