/-
  NARROWER THAN 'FOR EVERY INPUT', by the rows' own cells (each row's printed sentence says how): NatBits: laid · NatKnown: laid · NatNumbers: laid · NatSums: laid · NatDifferences: laid · NatProducts: laid · NatQuotients: laid · NatRoots: laid · NatPowers: laid · NatShifts: laid · NatPlays: laid.
  DERIVED. THE GIVEN ROWS OF THIS SEAT. 11 by the template 'for every input the law returns true; each argument reads behind the call as it read before'; 0 by the template 'total and deterministic' (their statements: YtniogjkkhkibhaaDoorTotals.lean).
  GIVEN WITH THE SEED: the statements are not yours to turn. If you find one false, say at which input.
  Laid BY PROGRAM, IN A SANDBOX (cutbox-rows.mjs): the forced cells as the released guide's own fill.sh prints them over the translation 1000261309172a21… (all of the seat's roots in one cut). By AI agents, Wed Nov 11 2026. No macro, syntax, notation, axiom, sorry.
-/
import Derived.Test.YtniogjkkhkibhaaDoorChecked
import GoSem.Claim
import GoSem.ClaimJoined
import GoSem.ClaimMapViews
import Derived.JoinedTies
import Derived.KernelRfl
namespace Go.Proofs.YtniogjkkhkibhaaDoor
/- THE CELL 'sum', in the pinned program and in every row, IS THE sha256 OF THE DUMP (.gsa) THAT YtniogjkkhkibhaaDoorProg.lean LOADS. Nothing in Lean hashes anything: it is a label: what it is worth is what the hold of that sum in a sandbox is worth. -/
noncomputable def Tryd.pinned : Pinned := { name := "ytniogjkkhkibhaadoor", sum := "1000261309172a217868db47c3062f2e1a7f043749986bfc06b1f445957869bc", checked := Tryd.checked }
namespace Rows
def none {H : Type} : Left H := { results := [], args := [] }

/- WHAT THE LISTED PACKAGE-LEVEL VARIABLES READ AS WHEN THE CALL BEGINS. Each datum BY PROGRAM (the guide's laid-datum.mjs) off the statement by which the dump's own 'gosem.cut.vars' lays the variable. In a bare row this is a premise. The card (YtniogjkkhkibhaaDoorCards.lean) ties it to the program's text. -/
def laid_math_bits_deBruijn32tab {H : Type} : DataW H := .agg [.lit (.int .u8 0), .lit (.int .u8 1), .lit (.int .u8 28), .lit (.int .u8 2), .lit (.int .u8 29), .lit (.int .u8 14), .lit (.int .u8 24), .lit (.int .u8 3), .lit (.int .u8 30), .lit (.int .u8 22), .lit (.int .u8 20), .lit (.int .u8 15), .lit (.int .u8 25), .lit (.int .u8 17), .lit (.int .u8 4), .lit (.int .u8 8), .lit (.int .u8 31), .lit (.int .u8 27), .lit (.int .u8 13), .lit (.int .u8 23), .lit (.int .u8 21), .lit (.int .u8 19), .lit (.int .u8 16), .lit (.int .u8 7), .lit (.int .u8 26), .lit (.int .u8 12), .lit (.int .u8 18), .lit (.int .u8 6), .lit (.int .u8 11), .lit (.int .u8 5), .lit (.int .u8 10), .lit (.int .u8 9)]

/-- 'vergelaw2.NatBits': WHATEVER THE INPUT: true; the input reads as it did. -/
def natBitsSpec : ChangeSpec := { name := "natBits", fn := fun _ => fun
  | [d] => { results := [.lit (.bool true)], args := [d] }
  | _ => none }
def natBitsRow : OpenClaim := { program := "ytniogjkkhkibhaadoor", sum := "1000261309172a217868db47c3062f2e1a7f043749986bfc06b1f445957869bc", func := "verge/vergelaw2.NatBits", spec := "natBits", named := ["math/bits.deBruijn32tab"], apart := false, laid := [("math/bits.deBruijn32tab", laid_math_bits_deBruijn32tab)] }
def NatBitsSaid : Prop := natBitsRow.holds Tryd.pinned (OpenSpec.ofChange natBitsSpec)

/-- ITS FALSE NEIGHBOUR: 'it returns false'. Refute it at one input. -/
def natBitsWrong : ChangeSpec := { name := "natBits", fn := fun _ => fun
  | [d] => { results := [.lit (.bool false)], args := [d] }
  | _ => none }
def NatBitsWrongFalsely : Prop := natBitsRow.holds Tryd.pinned (OpenSpec.ofChange natBitsWrong)

/-- 'vergelaw2.NatKnown': WHATEVER THE INPUT: true; the input reads as it did. -/
def natKnownSpec : ChangeSpec := { name := "natKnown", fn := fun _ => fun
  | [] => { results := [.lit (.bool true)], args := [] }
  | _ => none }
def natKnownRow : OpenClaim := { program := "ytniogjkkhkibhaadoor", sum := "1000261309172a217868db47c3062f2e1a7f043749986bfc06b1f445957869bc", func := "verge/vergelaw2.NatKnown", spec := "natKnown", named := ["math/bits.deBruijn32tab"], apart := false, laid := [("math/bits.deBruijn32tab", laid_math_bits_deBruijn32tab)] }
def NatKnownSaid : Prop := natKnownRow.holds Tryd.pinned (OpenSpec.ofChange natKnownSpec)

/-- ITS FALSE NEIGHBOUR: 'it returns false'. Refute it at one input. -/
def natKnownWrong : ChangeSpec := { name := "natKnown", fn := fun _ => fun
  | [] => { results := [.lit (.bool false)], args := [] }
  | _ => none }
def NatKnownWrongFalsely : Prop := natKnownRow.holds Tryd.pinned (OpenSpec.ofChange natKnownWrong)

/-- 'vergelaw2.NatNumbers': WHATEVER THE INPUT: true; the input reads as it did. -/
def natNumbersSpec : ChangeSpec := { name := "natNumbers", fn := fun _ => fun
  | [d1, d2, d3] => { results := [.lit (.bool true)], args := [d1, d2, d3] }
  | _ => none }
def natNumbersRow : OpenClaim := { program := "ytniogjkkhkibhaadoor", sum := "1000261309172a217868db47c3062f2e1a7f043749986bfc06b1f445957869bc", func := "verge/vergelaw2.NatNumbers", spec := "natNumbers", named := ["math/bits.deBruijn32tab"], apart := false, laid := [("math/bits.deBruijn32tab", laid_math_bits_deBruijn32tab)] }
def NatNumbersSaid : Prop := natNumbersRow.holds Tryd.pinned (OpenSpec.ofChange natNumbersSpec)

/-- ITS FALSE NEIGHBOUR: 'it returns false'. Refute it at one input. -/
def natNumbersWrong : ChangeSpec := { name := "natNumbers", fn := fun _ => fun
  | [d1, d2, d3] => { results := [.lit (.bool false)], args := [d1, d2, d3] }
  | _ => none }
def NatNumbersWrongFalsely : Prop := natNumbersRow.holds Tryd.pinned (OpenSpec.ofChange natNumbersWrong)

/-- 'vergelaw2.NatSums': WHATEVER THE INPUT: true; the input reads as it did. -/
def natSumsSpec : ChangeSpec := { name := "natSums", fn := fun _ => fun
  | [d1, d2] => { results := [.lit (.bool true)], args := [d1, d2] }
  | _ => none }
def natSumsRow : OpenClaim := { program := "ytniogjkkhkibhaadoor", sum := "1000261309172a217868db47c3062f2e1a7f043749986bfc06b1f445957869bc", func := "verge/vergelaw2.NatSums", spec := "natSums", named := ["math/bits.deBruijn32tab"], apart := false, laid := [("math/bits.deBruijn32tab", laid_math_bits_deBruijn32tab)] }
def NatSumsSaid : Prop := natSumsRow.holds Tryd.pinned (OpenSpec.ofChange natSumsSpec)

/-- ITS FALSE NEIGHBOUR: 'it returns false'. Refute it at one input. -/
def natSumsWrong : ChangeSpec := { name := "natSums", fn := fun _ => fun
  | [d1, d2] => { results := [.lit (.bool false)], args := [d1, d2] }
  | _ => none }
def NatSumsWrongFalsely : Prop := natSumsRow.holds Tryd.pinned (OpenSpec.ofChange natSumsWrong)

/-- 'vergelaw2.NatDifferences': WHATEVER THE INPUT: true; the input reads as it did. -/
def natDifferencesSpec : ChangeSpec := { name := "natDifferences", fn := fun _ => fun
  | [d1, d2] => { results := [.lit (.bool true)], args := [d1, d2] }
  | _ => none }
def natDifferencesRow : OpenClaim := { program := "ytniogjkkhkibhaadoor", sum := "1000261309172a217868db47c3062f2e1a7f043749986bfc06b1f445957869bc", func := "verge/vergelaw2.NatDifferences", spec := "natDifferences", named := ["math/bits.deBruijn32tab"], apart := false, laid := [("math/bits.deBruijn32tab", laid_math_bits_deBruijn32tab)] }
def NatDifferencesSaid : Prop := natDifferencesRow.holds Tryd.pinned (OpenSpec.ofChange natDifferencesSpec)

/-- ITS FALSE NEIGHBOUR: 'it returns false'. Refute it at one input. -/
def natDifferencesWrong : ChangeSpec := { name := "natDifferences", fn := fun _ => fun
  | [d1, d2] => { results := [.lit (.bool false)], args := [d1, d2] }
  | _ => none }
def NatDifferencesWrongFalsely : Prop := natDifferencesRow.holds Tryd.pinned (OpenSpec.ofChange natDifferencesWrong)

/-- 'vergelaw2.NatProducts': WHATEVER THE INPUT: true; the input reads as it did. -/
def natProductsSpec : ChangeSpec := { name := "natProducts", fn := fun _ => fun
  | [d1, d2] => { results := [.lit (.bool true)], args := [d1, d2] }
  | _ => none }
def natProductsRow : OpenClaim := { program := "ytniogjkkhkibhaadoor", sum := "1000261309172a217868db47c3062f2e1a7f043749986bfc06b1f445957869bc", func := "verge/vergelaw2.NatProducts", spec := "natProducts", named := ["math/bits.deBruijn32tab"], apart := false, laid := [("math/bits.deBruijn32tab", laid_math_bits_deBruijn32tab)] }
def NatProductsSaid : Prop := natProductsRow.holds Tryd.pinned (OpenSpec.ofChange natProductsSpec)

/-- ITS FALSE NEIGHBOUR: 'it returns false'. Refute it at one input. -/
def natProductsWrong : ChangeSpec := { name := "natProducts", fn := fun _ => fun
  | [d1, d2] => { results := [.lit (.bool false)], args := [d1, d2] }
  | _ => none }
def NatProductsWrongFalsely : Prop := natProductsRow.holds Tryd.pinned (OpenSpec.ofChange natProductsWrong)

/-- 'vergelaw2.NatQuotients': WHATEVER THE INPUT: true; the input reads as it did. -/
def natQuotientsSpec : ChangeSpec := { name := "natQuotients", fn := fun _ => fun
  | [d1, d2] => { results := [.lit (.bool true)], args := [d1, d2] }
  | _ => none }
def natQuotientsRow : OpenClaim := { program := "ytniogjkkhkibhaadoor", sum := "1000261309172a217868db47c3062f2e1a7f043749986bfc06b1f445957869bc", func := "verge/vergelaw2.NatQuotients", spec := "natQuotients", named := ["math/bits.deBruijn32tab"], apart := false, laid := [("math/bits.deBruijn32tab", laid_math_bits_deBruijn32tab)] }
def NatQuotientsSaid : Prop := natQuotientsRow.holds Tryd.pinned (OpenSpec.ofChange natQuotientsSpec)

/-- ITS FALSE NEIGHBOUR: 'it returns false'. Refute it at one input. -/
def natQuotientsWrong : ChangeSpec := { name := "natQuotients", fn := fun _ => fun
  | [d1, d2] => { results := [.lit (.bool false)], args := [d1, d2] }
  | _ => none }
def NatQuotientsWrongFalsely : Prop := natQuotientsRow.holds Tryd.pinned (OpenSpec.ofChange natQuotientsWrong)

/-- 'vergelaw2.NatRoots': WHATEVER THE INPUT: true; the input reads as it did. -/
def natRootsSpec : ChangeSpec := { name := "natRoots", fn := fun _ => fun
  | [d] => { results := [.lit (.bool true)], args := [d] }
  | _ => none }
def natRootsRow : OpenClaim := { program := "ytniogjkkhkibhaadoor", sum := "1000261309172a217868db47c3062f2e1a7f043749986bfc06b1f445957869bc", func := "verge/vergelaw2.NatRoots", spec := "natRoots", named := ["math/bits.deBruijn32tab"], apart := false, laid := [("math/bits.deBruijn32tab", laid_math_bits_deBruijn32tab)] }
def NatRootsSaid : Prop := natRootsRow.holds Tryd.pinned (OpenSpec.ofChange natRootsSpec)

/-- ITS FALSE NEIGHBOUR: 'it returns false'. Refute it at one input. -/
def natRootsWrong : ChangeSpec := { name := "natRoots", fn := fun _ => fun
  | [d] => { results := [.lit (.bool false)], args := [d] }
  | _ => none }
def NatRootsWrongFalsely : Prop := natRootsRow.holds Tryd.pinned (OpenSpec.ofChange natRootsWrong)

/-- 'vergelaw2.NatPowers': WHATEVER THE INPUT: true; the input reads as it did. -/
def natPowersSpec : ChangeSpec := { name := "natPowers", fn := fun _ => fun
  | [d1, d2] => { results := [.lit (.bool true)], args := [d1, d2] }
  | _ => none }
def natPowersRow : OpenClaim := { program := "ytniogjkkhkibhaadoor", sum := "1000261309172a217868db47c3062f2e1a7f043749986bfc06b1f445957869bc", func := "verge/vergelaw2.NatPowers", spec := "natPowers", named := ["math/bits.deBruijn32tab"], apart := false, laid := [("math/bits.deBruijn32tab", laid_math_bits_deBruijn32tab)] }
def NatPowersSaid : Prop := natPowersRow.holds Tryd.pinned (OpenSpec.ofChange natPowersSpec)

/-- ITS FALSE NEIGHBOUR: 'it returns false'. Refute it at one input. -/
def natPowersWrong : ChangeSpec := { name := "natPowers", fn := fun _ => fun
  | [d1, d2] => { results := [.lit (.bool false)], args := [d1, d2] }
  | _ => none }
def NatPowersWrongFalsely : Prop := natPowersRow.holds Tryd.pinned (OpenSpec.ofChange natPowersWrong)

/-- 'vergelaw2.NatShifts': WHATEVER THE INPUT: true; the input reads as it did. -/
def natShiftsSpec : ChangeSpec := { name := "natShifts", fn := fun _ => fun
  | [d1, d2] => { results := [.lit (.bool true)], args := [d1, d2] }
  | _ => none }
def natShiftsRow : OpenClaim := { program := "ytniogjkkhkibhaadoor", sum := "1000261309172a217868db47c3062f2e1a7f043749986bfc06b1f445957869bc", func := "verge/vergelaw2.NatShifts", spec := "natShifts", named := ["math/bits.deBruijn32tab"], apart := false, laid := [("math/bits.deBruijn32tab", laid_math_bits_deBruijn32tab)] }
def NatShiftsSaid : Prop := natShiftsRow.holds Tryd.pinned (OpenSpec.ofChange natShiftsSpec)

/-- ITS FALSE NEIGHBOUR: 'it returns false'. Refute it at one input. -/
def natShiftsWrong : ChangeSpec := { name := "natShifts", fn := fun _ => fun
  | [d1, d2] => { results := [.lit (.bool false)], args := [d1, d2] }
  | _ => none }
def NatShiftsWrongFalsely : Prop := natShiftsRow.holds Tryd.pinned (OpenSpec.ofChange natShiftsWrong)

/-- 'vergelaw2.NatPlays': WHATEVER THE INPUT: true; the input reads as it did. -/
def natPlaysSpec : ChangeSpec := { name := "natPlays", fn := fun _ => fun
  | [d1, d2] => { results := [.lit (.bool true)], args := [d1, d2] }
  | _ => none }
def natPlaysRow : OpenClaim := { program := "ytniogjkkhkibhaadoor", sum := "1000261309172a217868db47c3062f2e1a7f043749986bfc06b1f445957869bc", func := "verge/vergelaw2.NatPlays", spec := "natPlays", named := ["math/bits.deBruijn32tab"], apart := false, laid := [("math/bits.deBruijn32tab", laid_math_bits_deBruijn32tab)] }
def NatPlaysSaid : Prop := natPlaysRow.holds Tryd.pinned (OpenSpec.ofChange natPlaysSpec)

/-- ITS FALSE NEIGHBOUR: 'it returns false'. Refute it at one input. -/
def natPlaysWrong : ChangeSpec := { name := "natPlays", fn := fun _ => fun
  | [d1, d2] => { results := [.lit (.bool false)], args := [d1, d2] }
  | _ => none }
def NatPlaysWrongFalsely : Prop := natPlaysRow.holds Tryd.pinned (OpenSpec.ofChange natPlaysWrong)

/- THE SECOND FORM. 'bulk': how many values and letters a reading holds, each counted each time it is reached (what is shared counts as often as it is met; a slice's spare places count too). A statement '..UptoSaid' is the law's where the arguments, and the package variables that the reading takes, are together of bulk at most 1048576: NARROWER than '..Said'. Prove '..Said' where nothing that the law and all that it calls make is longer than what came in: it says more and counts as full. Else prove '..UptoSaid'. A law counts once. -/
mutual
def uptoBulk {H : Type} : DataW H → Nat
  | .lit (.string bytes) => bytes.length + 1
  | .lit _ => 1
  | .nil => 1
  | .ptr d => uptoBulk d + 1
  | .slice elems spare => uptoBulkAll elems + uptoBulkAll spare + 1
  | .agg parts => uptoBulkAll parts + 1
  | .iface _ d => uptoBulk d + 1
  | .map entries => uptoBulkEntries entries + 1
  | .held _ => 1
def uptoBulkAll {H : Type} : List (DataW H) → Nat
  | [] => 0
  | d :: r => uptoBulk d + uptoBulkAll r
def uptoBulkEntries {H : Type} : List (Lit × DataW H) → Nat
  | [] => 0
  | x :: r => uptoBulkEntry x + uptoBulkEntries r
def uptoBulkEntry {H : Type} : Lit × DataW H → Nat
  | (.string bytes, d) => bytes.length + uptoBulk d + 1
  | (_, d) => uptoBulk d + 1
 end
def uptoSmall : (H : Type) → List (DataW H) → Bool := fun _ ds => decide (uptoBulkAll ds ≤ 1048576)
def OpenSpec.upto (s : _root_.Go.ChangeSpec) : _root_.Go.OpenSpec := { _root_.Go.OpenSpec.ofChange s with cond := some uptoSmall }

/-- 'vergelaw2.NatBits', WHERE WHAT IT READS IS OF BULK AT MOST 1048576: true; the input reads as it did. -/
def natBitsUptoRow : OpenClaim := { program := "ytniogjkkhkibhaadoor", sum := "1000261309172a217868db47c3062f2e1a7f043749986bfc06b1f445957869bc", func := "verge/vergelaw2.NatBits", spec := "natBits", named := ["math/bits.deBruijn32tab"], apart := false, laid := [("math/bits.deBruijn32tab", laid_math_bits_deBruijn32tab)], narrowed := true }
def NatBitsUptoSaid : Prop := natBitsUptoRow.holds Tryd.pinned (OpenSpec.upto natBitsSpec)

/-- 'vergelaw2.NatKnown', WHERE WHAT IT READS IS OF BULK AT MOST 1048576: true; the input reads as it did. -/
def natKnownUptoRow : OpenClaim := { program := "ytniogjkkhkibhaadoor", sum := "1000261309172a217868db47c3062f2e1a7f043749986bfc06b1f445957869bc", func := "verge/vergelaw2.NatKnown", spec := "natKnown", named := ["math/bits.deBruijn32tab"], apart := false, laid := [("math/bits.deBruijn32tab", laid_math_bits_deBruijn32tab)], narrowed := true }
def NatKnownUptoSaid : Prop := natKnownUptoRow.holds Tryd.pinned (OpenSpec.upto natKnownSpec)

/-- 'vergelaw2.NatNumbers', WHERE WHAT IT READS IS OF BULK AT MOST 1048576: true; the input reads as it did. -/
def natNumbersUptoRow : OpenClaim := { program := "ytniogjkkhkibhaadoor", sum := "1000261309172a217868db47c3062f2e1a7f043749986bfc06b1f445957869bc", func := "verge/vergelaw2.NatNumbers", spec := "natNumbers", named := ["math/bits.deBruijn32tab"], apart := false, laid := [("math/bits.deBruijn32tab", laid_math_bits_deBruijn32tab)], narrowed := true }
def NatNumbersUptoSaid : Prop := natNumbersUptoRow.holds Tryd.pinned (OpenSpec.upto natNumbersSpec)

/-- 'vergelaw2.NatSums', WHERE WHAT IT READS IS OF BULK AT MOST 1048576: true; the input reads as it did. -/
def natSumsUptoRow : OpenClaim := { program := "ytniogjkkhkibhaadoor", sum := "1000261309172a217868db47c3062f2e1a7f043749986bfc06b1f445957869bc", func := "verge/vergelaw2.NatSums", spec := "natSums", named := ["math/bits.deBruijn32tab"], apart := false, laid := [("math/bits.deBruijn32tab", laid_math_bits_deBruijn32tab)], narrowed := true }
def NatSumsUptoSaid : Prop := natSumsUptoRow.holds Tryd.pinned (OpenSpec.upto natSumsSpec)

/-- 'vergelaw2.NatDifferences', WHERE WHAT IT READS IS OF BULK AT MOST 1048576: true; the input reads as it did. -/
def natDifferencesUptoRow : OpenClaim := { program := "ytniogjkkhkibhaadoor", sum := "1000261309172a217868db47c3062f2e1a7f043749986bfc06b1f445957869bc", func := "verge/vergelaw2.NatDifferences", spec := "natDifferences", named := ["math/bits.deBruijn32tab"], apart := false, laid := [("math/bits.deBruijn32tab", laid_math_bits_deBruijn32tab)], narrowed := true }
def NatDifferencesUptoSaid : Prop := natDifferencesUptoRow.holds Tryd.pinned (OpenSpec.upto natDifferencesSpec)

/-- 'vergelaw2.NatProducts', WHERE WHAT IT READS IS OF BULK AT MOST 1048576: true; the input reads as it did. -/
def natProductsUptoRow : OpenClaim := { program := "ytniogjkkhkibhaadoor", sum := "1000261309172a217868db47c3062f2e1a7f043749986bfc06b1f445957869bc", func := "verge/vergelaw2.NatProducts", spec := "natProducts", named := ["math/bits.deBruijn32tab"], apart := false, laid := [("math/bits.deBruijn32tab", laid_math_bits_deBruijn32tab)], narrowed := true }
def NatProductsUptoSaid : Prop := natProductsUptoRow.holds Tryd.pinned (OpenSpec.upto natProductsSpec)

/-- 'vergelaw2.NatQuotients', WHERE WHAT IT READS IS OF BULK AT MOST 1048576: true; the input reads as it did. -/
def natQuotientsUptoRow : OpenClaim := { program := "ytniogjkkhkibhaadoor", sum := "1000261309172a217868db47c3062f2e1a7f043749986bfc06b1f445957869bc", func := "verge/vergelaw2.NatQuotients", spec := "natQuotients", named := ["math/bits.deBruijn32tab"], apart := false, laid := [("math/bits.deBruijn32tab", laid_math_bits_deBruijn32tab)], narrowed := true }
def NatQuotientsUptoSaid : Prop := natQuotientsUptoRow.holds Tryd.pinned (OpenSpec.upto natQuotientsSpec)

/-- 'vergelaw2.NatRoots', WHERE WHAT IT READS IS OF BULK AT MOST 1048576: true; the input reads as it did. -/
def natRootsUptoRow : OpenClaim := { program := "ytniogjkkhkibhaadoor", sum := "1000261309172a217868db47c3062f2e1a7f043749986bfc06b1f445957869bc", func := "verge/vergelaw2.NatRoots", spec := "natRoots", named := ["math/bits.deBruijn32tab"], apart := false, laid := [("math/bits.deBruijn32tab", laid_math_bits_deBruijn32tab)], narrowed := true }
def NatRootsUptoSaid : Prop := natRootsUptoRow.holds Tryd.pinned (OpenSpec.upto natRootsSpec)

/-- 'vergelaw2.NatPowers', WHERE WHAT IT READS IS OF BULK AT MOST 1048576: true; the input reads as it did. -/
def natPowersUptoRow : OpenClaim := { program := "ytniogjkkhkibhaadoor", sum := "1000261309172a217868db47c3062f2e1a7f043749986bfc06b1f445957869bc", func := "verge/vergelaw2.NatPowers", spec := "natPowers", named := ["math/bits.deBruijn32tab"], apart := false, laid := [("math/bits.deBruijn32tab", laid_math_bits_deBruijn32tab)], narrowed := true }
def NatPowersUptoSaid : Prop := natPowersUptoRow.holds Tryd.pinned (OpenSpec.upto natPowersSpec)

/-- 'vergelaw2.NatShifts', WHERE WHAT IT READS IS OF BULK AT MOST 1048576: true; the input reads as it did. -/
def natShiftsUptoRow : OpenClaim := { program := "ytniogjkkhkibhaadoor", sum := "1000261309172a217868db47c3062f2e1a7f043749986bfc06b1f445957869bc", func := "verge/vergelaw2.NatShifts", spec := "natShifts", named := ["math/bits.deBruijn32tab"], apart := false, laid := [("math/bits.deBruijn32tab", laid_math_bits_deBruijn32tab)], narrowed := true }
def NatShiftsUptoSaid : Prop := natShiftsUptoRow.holds Tryd.pinned (OpenSpec.upto natShiftsSpec)

/-- 'vergelaw2.NatPlays', WHERE WHAT IT READS IS OF BULK AT MOST 1048576: true; the input reads as it did. -/
def natPlaysUptoRow : OpenClaim := { program := "ytniogjkkhkibhaadoor", sum := "1000261309172a217868db47c3062f2e1a7f043749986bfc06b1f445957869bc", func := "verge/vergelaw2.NatPlays", spec := "natPlays", named := ["math/bits.deBruijn32tab"], apart := false, laid := [("math/bits.deBruijn32tab", laid_math_bits_deBruijn32tab)], narrowed := true }
def NatPlaysUptoSaid : Prop := natPlaysUptoRow.holds Tryd.pinned (OpenSpec.upto natPlaysSpec)

end Rows
end Go.Proofs.YtniogjkkhkibhaaDoor
