/-
  DERIVED. GIVEN WITH THE SEED: THE CARDS: each row of YtniogjkkhkibhaaDoorRows.lean that lists a variable, with what it lists TIED to the program's text (the seventh form; the later family's looks); each row that meets fmt, with fmt's text TOLD by the authors' own Lean function (tested against real Go, not proved from fmt's source: count such statements apart). THE CARD IS WHAT COUNTS. Prove the row's statement (the work); the ties are given (YtniogjkkhkibhaaDoorTie.lean); close each card by the builder's one call (the guide's Derived/Test/ToyasCard.lean, 'card_holds'). Laid BY PROGRAM, IN A SANDBOX (cutbox-door.mjs). By AI agents, Wed Nov 11 2026. No macro, syntax, notation, axiom, sorry.
-/
import Derived.Test.YtniogjkkhkibhaaDoorRows
import GoSem.ClaimSeven
namespace Go.Proofs.YtniogjkkhkibhaaDoor
namespace Rows

/-- THE TIED CARD OF 'vergelaw2.NatBits'. -/
def natBitsCard : Claim7 := { stood := { row := natBitsRow, standIns := [], harness := (true, "57cc1c6c7a57f9a7b95854ca6a8126e00408e423d0dab0b7ecbdce2bb99ef2ee"), looks := false }, kinds := [], alts := [], laidByText := true, laidKinds := [.data], laidTests := true, laidLooks := .later }
def NatBitsCardSaid : Prop := Claim7.holds Tryd.pinned (.plain (OpenSpec.ofChange natBitsSpec)) natBitsCard

/-- THE TIED CARD OF 'vergelaw2.NatKnown'. -/
def natKnownCard : Claim7 := { stood := { row := natKnownRow, standIns := [], harness := (true, "57cc1c6c7a57f9a7b95854ca6a8126e00408e423d0dab0b7ecbdce2bb99ef2ee"), looks := false }, kinds := [], alts := [], laidByText := true, laidKinds := [.data], laidTests := true, laidLooks := .later }
def NatKnownCardSaid : Prop := Claim7.holds Tryd.pinned (.plain (OpenSpec.ofChange natKnownSpec)) natKnownCard

/-- THE TIED CARD OF 'vergelaw2.NatNumbers'. -/
def natNumbersCard : Claim7 := { stood := { row := natNumbersRow, standIns := [], harness := (true, "57cc1c6c7a57f9a7b95854ca6a8126e00408e423d0dab0b7ecbdce2bb99ef2ee"), looks := false }, kinds := [], alts := [], laidByText := true, laidKinds := [.data], laidTests := true, laidLooks := .later }
def NatNumbersCardSaid : Prop := Claim7.holds Tryd.pinned (.plain (OpenSpec.ofChange natNumbersSpec)) natNumbersCard

/-- THE TIED CARD OF 'vergelaw2.NatSums'. -/
def natSumsCard : Claim7 := { stood := { row := natSumsRow, standIns := [], harness := (true, "57cc1c6c7a57f9a7b95854ca6a8126e00408e423d0dab0b7ecbdce2bb99ef2ee"), looks := false }, kinds := [], alts := [], laidByText := true, laidKinds := [.data], laidTests := true, laidLooks := .later }
def NatSumsCardSaid : Prop := Claim7.holds Tryd.pinned (.plain (OpenSpec.ofChange natSumsSpec)) natSumsCard

/-- THE TIED CARD OF 'vergelaw2.NatDifferences'. -/
def natDifferencesCard : Claim7 := { stood := { row := natDifferencesRow, standIns := [], harness := (true, "57cc1c6c7a57f9a7b95854ca6a8126e00408e423d0dab0b7ecbdce2bb99ef2ee"), looks := false }, kinds := [], alts := [], laidByText := true, laidKinds := [.data], laidTests := true, laidLooks := .later }
def NatDifferencesCardSaid : Prop := Claim7.holds Tryd.pinned (.plain (OpenSpec.ofChange natDifferencesSpec)) natDifferencesCard

/-- THE TIED CARD OF 'vergelaw2.NatProducts'. -/
def natProductsCard : Claim7 := { stood := { row := natProductsRow, standIns := [], harness := (true, "57cc1c6c7a57f9a7b95854ca6a8126e00408e423d0dab0b7ecbdce2bb99ef2ee"), looks := false }, kinds := [], alts := [], laidByText := true, laidKinds := [.data], laidTests := true, laidLooks := .later }
def NatProductsCardSaid : Prop := Claim7.holds Tryd.pinned (.plain (OpenSpec.ofChange natProductsSpec)) natProductsCard

/-- THE TIED CARD OF 'vergelaw2.NatQuotients'. -/
def natQuotientsCard : Claim7 := { stood := { row := natQuotientsRow, standIns := [], harness := (true, "57cc1c6c7a57f9a7b95854ca6a8126e00408e423d0dab0b7ecbdce2bb99ef2ee"), looks := false }, kinds := [], alts := [], laidByText := true, laidKinds := [.data], laidTests := true, laidLooks := .later }
def NatQuotientsCardSaid : Prop := Claim7.holds Tryd.pinned (.plain (OpenSpec.ofChange natQuotientsSpec)) natQuotientsCard

/-- THE TIED CARD OF 'vergelaw2.NatRoots'. -/
def natRootsCard : Claim7 := { stood := { row := natRootsRow, standIns := [], harness := (true, "57cc1c6c7a57f9a7b95854ca6a8126e00408e423d0dab0b7ecbdce2bb99ef2ee"), looks := false }, kinds := [], alts := [], laidByText := true, laidKinds := [.data], laidTests := true, laidLooks := .later }
def NatRootsCardSaid : Prop := Claim7.holds Tryd.pinned (.plain (OpenSpec.ofChange natRootsSpec)) natRootsCard

/-- THE TIED CARD OF 'vergelaw2.NatPowers'. -/
def natPowersCard : Claim7 := { stood := { row := natPowersRow, standIns := [], harness := (true, "57cc1c6c7a57f9a7b95854ca6a8126e00408e423d0dab0b7ecbdce2bb99ef2ee"), looks := false }, kinds := [], alts := [], laidByText := true, laidKinds := [.data], laidTests := true, laidLooks := .later }
def NatPowersCardSaid : Prop := Claim7.holds Tryd.pinned (.plain (OpenSpec.ofChange natPowersSpec)) natPowersCard

/-- THE TIED CARD OF 'vergelaw2.NatShifts'. -/
def natShiftsCard : Claim7 := { stood := { row := natShiftsRow, standIns := [], harness := (true, "57cc1c6c7a57f9a7b95854ca6a8126e00408e423d0dab0b7ecbdce2bb99ef2ee"), looks := false }, kinds := [], alts := [], laidByText := true, laidKinds := [.data], laidTests := true, laidLooks := .later }
def NatShiftsCardSaid : Prop := Claim7.holds Tryd.pinned (.plain (OpenSpec.ofChange natShiftsSpec)) natShiftsCard

/-- THE TIED CARD OF 'vergelaw2.NatPlays'. -/
def natPlaysCard : Claim7 := { stood := { row := natPlaysRow, standIns := [], harness := (true, "57cc1c6c7a57f9a7b95854ca6a8126e00408e423d0dab0b7ecbdce2bb99ef2ee"), looks := false }, kinds := [], alts := [], laidByText := true, laidKinds := [.data], laidTests := true, laidLooks := .later }
def NatPlaysCardSaid : Prop := Claim7.holds Tryd.pinned (.plain (OpenSpec.ofChange natPlaysSpec)) natPlaysCard

/-- THE SECOND FORM's CARD OF 'vergelaw2.NatBits'. -/
def natBitsUptoCard : Claim7 := { stood := { row := natBitsUptoRow, standIns := [], harness := (true, "57cc1c6c7a57f9a7b95854ca6a8126e00408e423d0dab0b7ecbdce2bb99ef2ee"), looks := false }, kinds := [], alts := [], laidByText := true, laidKinds := [.data], laidTests := true, laidLooks := .later }
def NatBitsUptoCardSaid : Prop := Claim7.holds Tryd.pinned (.plain (OpenSpec.upto natBitsSpec)) natBitsUptoCard

/-- THE SECOND FORM's CARD OF 'vergelaw2.NatKnown'. -/
def natKnownUptoCard : Claim7 := { stood := { row := natKnownUptoRow, standIns := [], harness := (true, "57cc1c6c7a57f9a7b95854ca6a8126e00408e423d0dab0b7ecbdce2bb99ef2ee"), looks := false }, kinds := [], alts := [], laidByText := true, laidKinds := [.data], laidTests := true, laidLooks := .later }
def NatKnownUptoCardSaid : Prop := Claim7.holds Tryd.pinned (.plain (OpenSpec.upto natKnownSpec)) natKnownUptoCard

/-- THE SECOND FORM's CARD OF 'vergelaw2.NatNumbers'. -/
def natNumbersUptoCard : Claim7 := { stood := { row := natNumbersUptoRow, standIns := [], harness := (true, "57cc1c6c7a57f9a7b95854ca6a8126e00408e423d0dab0b7ecbdce2bb99ef2ee"), looks := false }, kinds := [], alts := [], laidByText := true, laidKinds := [.data], laidTests := true, laidLooks := .later }
def NatNumbersUptoCardSaid : Prop := Claim7.holds Tryd.pinned (.plain (OpenSpec.upto natNumbersSpec)) natNumbersUptoCard

/-- THE SECOND FORM's CARD OF 'vergelaw2.NatSums'. -/
def natSumsUptoCard : Claim7 := { stood := { row := natSumsUptoRow, standIns := [], harness := (true, "57cc1c6c7a57f9a7b95854ca6a8126e00408e423d0dab0b7ecbdce2bb99ef2ee"), looks := false }, kinds := [], alts := [], laidByText := true, laidKinds := [.data], laidTests := true, laidLooks := .later }
def NatSumsUptoCardSaid : Prop := Claim7.holds Tryd.pinned (.plain (OpenSpec.upto natSumsSpec)) natSumsUptoCard

/-- THE SECOND FORM's CARD OF 'vergelaw2.NatDifferences'. -/
def natDifferencesUptoCard : Claim7 := { stood := { row := natDifferencesUptoRow, standIns := [], harness := (true, "57cc1c6c7a57f9a7b95854ca6a8126e00408e423d0dab0b7ecbdce2bb99ef2ee"), looks := false }, kinds := [], alts := [], laidByText := true, laidKinds := [.data], laidTests := true, laidLooks := .later }
def NatDifferencesUptoCardSaid : Prop := Claim7.holds Tryd.pinned (.plain (OpenSpec.upto natDifferencesSpec)) natDifferencesUptoCard

/-- THE SECOND FORM's CARD OF 'vergelaw2.NatProducts'. -/
def natProductsUptoCard : Claim7 := { stood := { row := natProductsUptoRow, standIns := [], harness := (true, "57cc1c6c7a57f9a7b95854ca6a8126e00408e423d0dab0b7ecbdce2bb99ef2ee"), looks := false }, kinds := [], alts := [], laidByText := true, laidKinds := [.data], laidTests := true, laidLooks := .later }
def NatProductsUptoCardSaid : Prop := Claim7.holds Tryd.pinned (.plain (OpenSpec.upto natProductsSpec)) natProductsUptoCard

/-- THE SECOND FORM's CARD OF 'vergelaw2.NatQuotients'. -/
def natQuotientsUptoCard : Claim7 := { stood := { row := natQuotientsUptoRow, standIns := [], harness := (true, "57cc1c6c7a57f9a7b95854ca6a8126e00408e423d0dab0b7ecbdce2bb99ef2ee"), looks := false }, kinds := [], alts := [], laidByText := true, laidKinds := [.data], laidTests := true, laidLooks := .later }
def NatQuotientsUptoCardSaid : Prop := Claim7.holds Tryd.pinned (.plain (OpenSpec.upto natQuotientsSpec)) natQuotientsUptoCard

/-- THE SECOND FORM's CARD OF 'vergelaw2.NatRoots'. -/
def natRootsUptoCard : Claim7 := { stood := { row := natRootsUptoRow, standIns := [], harness := (true, "57cc1c6c7a57f9a7b95854ca6a8126e00408e423d0dab0b7ecbdce2bb99ef2ee"), looks := false }, kinds := [], alts := [], laidByText := true, laidKinds := [.data], laidTests := true, laidLooks := .later }
def NatRootsUptoCardSaid : Prop := Claim7.holds Tryd.pinned (.plain (OpenSpec.upto natRootsSpec)) natRootsUptoCard

/-- THE SECOND FORM's CARD OF 'vergelaw2.NatPowers'. -/
def natPowersUptoCard : Claim7 := { stood := { row := natPowersUptoRow, standIns := [], harness := (true, "57cc1c6c7a57f9a7b95854ca6a8126e00408e423d0dab0b7ecbdce2bb99ef2ee"), looks := false }, kinds := [], alts := [], laidByText := true, laidKinds := [.data], laidTests := true, laidLooks := .later }
def NatPowersUptoCardSaid : Prop := Claim7.holds Tryd.pinned (.plain (OpenSpec.upto natPowersSpec)) natPowersUptoCard

/-- THE SECOND FORM's CARD OF 'vergelaw2.NatShifts'. -/
def natShiftsUptoCard : Claim7 := { stood := { row := natShiftsUptoRow, standIns := [], harness := (true, "57cc1c6c7a57f9a7b95854ca6a8126e00408e423d0dab0b7ecbdce2bb99ef2ee"), looks := false }, kinds := [], alts := [], laidByText := true, laidKinds := [.data], laidTests := true, laidLooks := .later }
def NatShiftsUptoCardSaid : Prop := Claim7.holds Tryd.pinned (.plain (OpenSpec.upto natShiftsSpec)) natShiftsUptoCard

/-- THE SECOND FORM's CARD OF 'vergelaw2.NatPlays'. -/
def natPlaysUptoCard : Claim7 := { stood := { row := natPlaysUptoRow, standIns := [], harness := (true, "57cc1c6c7a57f9a7b95854ca6a8126e00408e423d0dab0b7ecbdce2bb99ef2ee"), looks := false }, kinds := [], alts := [], laidByText := true, laidKinds := [.data], laidTests := true, laidLooks := .later }
def NatPlaysUptoCardSaid : Prop := Claim7.holds Tryd.pinned (.plain (OpenSpec.upto natPlaysSpec)) natPlaysUptoCard
end Rows
end Go.Proofs.YtniogjkkhkibhaaDoor
