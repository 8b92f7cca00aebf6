/-
  NARROWER THAN 'FOR EVERY INPUT', by the rows' own cells (each row's printed sentence says how): DigitsFewest: laid · DigitsOrder: laid · DigitsSpelt: laid · DigitsAround: laid · DigitsBound: laid · DigitsBack: laid · DigitsKnown: laid.
  DERIVED. THE GIVEN ROWS OF THIS SEAT. 7 by the template 'for every input the law returns true; each argument reads behind the call as it read before'; 0 by the template 'total and deterministic' (their statements: YtiadjcilfljdaaaGreatDoorTotals.lean).
  GIVEN WITH THE SEED: the statements are not yours to turn. If you find one false, say at which input.
  Laid BY PROGRAM, IN A SANDBOX (cutbox-rows.mjs): the forced cells as the released guide's own fill.sh prints them over the translation 2ea58b84f215346c… (all of the seat's roots in one cut). By AI agents, Wed Nov 11 2026. No macro, syntax, notation, axiom, sorry.
-/
import Derived.Test.YtiadjcilfljdaaaGreatDoorChecked
import GoSem.Claim
import GoSem.ClaimJoined
import GoSem.ClaimMapViews
import Derived.JoinedTies
import Derived.KernelRfl
namespace Go.Proofs.YtiadjcilfljdaaaGreatDoor
/- THE CELL 'sum', in the pinned program and in every row, IS THE sha256 OF THE DUMP (.gsa) THAT YtiadjcilfljdaaaGreatDoorProg.lean LOADS. Nothing in Lean hashes anything: it is a label: what it is worth is what the hold of that sum in a sandbox is worth. -/
noncomputable def Tryz.pinned : Pinned := { name := "ytiadjcilfljdaaagreatdoor", sum := "2ea58b84f215346ca8e8448f8761b4c7cbbfb28e5bdd5ea6309374f6f0fd09a0", checked := Tryz.checked }
namespace Rows
def none {H : Type} : Left H := { results := [], args := [] }

/- WHAT THE LISTED PACKAGE-LEVEL VARIABLES READ AS WHEN THE CALL BEGINS. Each datum BY PROGRAM (the guide's laid-datum.mjs) off the statement by which the dump's own 'gosem.cut.vars' lays the variable. In a bare row this is a premise. The card (YtiadjcilfljdaaaGreatDoorCards.lean) ties it to the program's text. -/
def laid_math_bits_deBruijn32tab {H : Type} : DataW H := .agg [.lit (.int .u8 0), .lit (.int .u8 1), .lit (.int .u8 28), .lit (.int .u8 2), .lit (.int .u8 29), .lit (.int .u8 14), .lit (.int .u8 24), .lit (.int .u8 3), .lit (.int .u8 30), .lit (.int .u8 22), .lit (.int .u8 20), .lit (.int .u8 15), .lit (.int .u8 25), .lit (.int .u8 17), .lit (.int .u8 4), .lit (.int .u8 8), .lit (.int .u8 31), .lit (.int .u8 27), .lit (.int .u8 13), .lit (.int .u8 23), .lit (.int .u8 21), .lit (.int .u8 19), .lit (.int .u8 16), .lit (.int .u8 7), .lit (.int .u8 26), .lit (.int .u8 12), .lit (.int .u8 18), .lit (.int .u8 6), .lit (.int .u8 11), .lit (.int .u8 5), .lit (.int .u8 10), .lit (.int .u8 9)]
def laid_math_bits_deBruijn64tab {H : Type} : DataW H := .agg [.lit (.int .u8 0), .lit (.int .u8 1), .lit (.int .u8 56), .lit (.int .u8 2), .lit (.int .u8 57), .lit (.int .u8 49), .lit (.int .u8 28), .lit (.int .u8 3), .lit (.int .u8 61), .lit (.int .u8 58), .lit (.int .u8 42), .lit (.int .u8 50), .lit (.int .u8 38), .lit (.int .u8 29), .lit (.int .u8 17), .lit (.int .u8 4), .lit (.int .u8 62), .lit (.int .u8 47), .lit (.int .u8 59), .lit (.int .u8 36), .lit (.int .u8 45), .lit (.int .u8 43), .lit (.int .u8 51), .lit (.int .u8 22), .lit (.int .u8 53), .lit (.int .u8 39), .lit (.int .u8 33), .lit (.int .u8 30), .lit (.int .u8 24), .lit (.int .u8 18), .lit (.int .u8 12), .lit (.int .u8 5), .lit (.int .u8 63), .lit (.int .u8 55), .lit (.int .u8 48), .lit (.int .u8 27), .lit (.int .u8 60), .lit (.int .u8 41), .lit (.int .u8 37), .lit (.int .u8 16), .lit (.int .u8 46), .lit (.int .u8 35), .lit (.int .u8 44), .lit (.int .u8 21), .lit (.int .u8 52), .lit (.int .u8 32), .lit (.int .u8 23), .lit (.int .u8 11), .lit (.int .u8 54), .lit (.int .u8 26), .lit (.int .u8 40), .lit (.int .u8 15), .lit (.int .u8 34), .lit (.int .u8 20), .lit (.int .u8 31), .lit (.int .u8 10), .lit (.int .u8 25), .lit (.int .u8 14), .lit (.int .u8 19), .lit (.int .u8 9), .lit (.int .u8 13), .lit (.int .u8 8), .lit (.int .u8 7), .lit (.int .u8 6)]
def laid_internal_strconv_uint64pow10 {H : Type} : DataW H := .agg [.lit (.int .u64 1), .lit (.int .u64 10), .lit (.int .u64 100), .lit (.int .u64 1000), .lit (.int .u64 10000), .lit (.int .u64 100000), .lit (.int .u64 1000000), .lit (.int .u64 10000000), .lit (.int .u64 100000000), .lit (.int .u64 1000000000), .lit (.int .u64 10000000000), .lit (.int .u64 100000000000), .lit (.int .u64 1000000000000), .lit (.int .u64 10000000000000), .lit (.int .u64 100000000000000), .lit (.int .u64 1000000000000000), .lit (.int .u64 10000000000000000), .lit (.int .u64 100000000000000000), .lit (.int .u64 1000000000000000000), .lit (.int .u64 10000000000000000000)]

/-- 'vergelaw5.DigitsFewest': WHATEVER THE INPUT: true; the input reads as it did. -/
def digitsFewestSpec : ChangeSpec := { name := "digitsFewest", fn := fun _ => fun
  | [d] => { results := [.lit (.bool true)], args := [d] }
  | _ => none }
def digitsFewestRow : OpenClaim := { program := "ytiadjcilfljdaaagreatdoor", sum := "2ea58b84f215346ca8e8448f8761b4c7cbbfb28e5bdd5ea6309374f6f0fd09a0", func := "verge/vergelaw5.DigitsFewest", spec := "digitsFewest", inPlace := ["math.Float64frombits", "math.Float64bits", "math.archFloor", "math.archTrunc"], unfollowed := true, recurses := true, named := ["internal/strconv.uint64pow10", "math/bits.deBruijn32tab", "math/bits.deBruijn64tab"], apart := false, laid := [("math/bits.deBruijn32tab", laid_math_bits_deBruijn32tab), ("math/bits.deBruijn64tab", laid_math_bits_deBruijn64tab), ("internal/strconv.uint64pow10", laid_internal_strconv_uint64pow10)] }
def DigitsFewestSaid : Prop := digitsFewestRow.holds Tryz.pinned (OpenSpec.ofChange digitsFewestSpec)

/-- ITS FALSE NEIGHBOUR: 'it returns false'. Refute it at one input. -/
def digitsFewestWrong : ChangeSpec := { name := "digitsFewest", fn := fun _ => fun
  | [d] => { results := [.lit (.bool false)], args := [d] }
  | _ => none }
def DigitsFewestWrongFalsely : Prop := digitsFewestRow.holds Tryz.pinned (OpenSpec.ofChange digitsFewestWrong)

/-- 'vergelaw5.DigitsOrder': WHATEVER THE INPUT: true; the input reads as it did. -/
def digitsOrderSpec : ChangeSpec := { name := "digitsOrder", fn := fun _ => fun
  | [d1, d2, d3] => { results := [.lit (.bool true)], args := [d1, d2, d3] }
  | _ => none }
def digitsOrderRow : OpenClaim := { program := "ytiadjcilfljdaaagreatdoor", sum := "2ea58b84f215346ca8e8448f8761b4c7cbbfb28e5bdd5ea6309374f6f0fd09a0", func := "verge/vergelaw5.DigitsOrder", spec := "digitsOrder", inPlace := ["math.Float64frombits", "math.Float64bits", "math.archFloor", "math.archTrunc"], unfollowed := true, recurses := true, named := ["internal/strconv.uint64pow10", "math/bits.deBruijn32tab", "math/bits.deBruijn64tab"], apart := false, laid := [("math/bits.deBruijn32tab", laid_math_bits_deBruijn32tab), ("math/bits.deBruijn64tab", laid_math_bits_deBruijn64tab), ("internal/strconv.uint64pow10", laid_internal_strconv_uint64pow10)] }
def DigitsOrderSaid : Prop := digitsOrderRow.holds Tryz.pinned (OpenSpec.ofChange digitsOrderSpec)

/-- ITS FALSE NEIGHBOUR: 'it returns false'. Refute it at one input. -/
def digitsOrderWrong : ChangeSpec := { name := "digitsOrder", fn := fun _ => fun
  | [d1, d2, d3] => { results := [.lit (.bool false)], args := [d1, d2, d3] }
  | _ => none }
def DigitsOrderWrongFalsely : Prop := digitsOrderRow.holds Tryz.pinned (OpenSpec.ofChange digitsOrderWrong)

/-- 'vergelaw5.DigitsSpelt': WHATEVER THE INPUT: true; the input reads as it did. -/
def digitsSpeltSpec : ChangeSpec := { name := "digitsSpelt", fn := fun _ => fun
  | [d1, d2] => { results := [.lit (.bool true)], args := [d1, d2] }
  | _ => none }
def digitsSpeltRow : OpenClaim := { program := "ytiadjcilfljdaaagreatdoor", sum := "2ea58b84f215346ca8e8448f8761b4c7cbbfb28e5bdd5ea6309374f6f0fd09a0", func := "verge/vergelaw5.DigitsSpelt", spec := "digitsSpelt", inPlace := ["math.Float64frombits", "math.Float64bits", "math.archFloor", "math.archTrunc"], unfollowed := true, recurses := true, named := ["internal/strconv.uint64pow10", "math/bits.deBruijn32tab", "math/bits.deBruijn64tab"], apart := false, laid := [("math/bits.deBruijn32tab", laid_math_bits_deBruijn32tab), ("math/bits.deBruijn64tab", laid_math_bits_deBruijn64tab), ("internal/strconv.uint64pow10", laid_internal_strconv_uint64pow10)] }
def DigitsSpeltSaid : Prop := digitsSpeltRow.holds Tryz.pinned (OpenSpec.ofChange digitsSpeltSpec)

/-- ITS FALSE NEIGHBOUR: 'it returns false'. Refute it at one input. -/
def digitsSpeltWrong : ChangeSpec := { name := "digitsSpelt", fn := fun _ => fun
  | [d1, d2] => { results := [.lit (.bool false)], args := [d1, d2] }
  | _ => none }
def DigitsSpeltWrongFalsely : Prop := digitsSpeltRow.holds Tryz.pinned (OpenSpec.ofChange digitsSpeltWrong)

/-- 'vergelaw5.DigitsAround': WHATEVER THE INPUT: true; the input reads as it did. -/
def digitsAroundSpec : ChangeSpec := { name := "digitsAround", fn := fun _ => fun
  | [d1, d2] => { results := [.lit (.bool true)], args := [d1, d2] }
  | _ => none }
def digitsAroundRow : OpenClaim := { program := "ytiadjcilfljdaaagreatdoor", sum := "2ea58b84f215346ca8e8448f8761b4c7cbbfb28e5bdd5ea6309374f6f0fd09a0", func := "verge/vergelaw5.DigitsAround", spec := "digitsAround", inPlace := ["math.Float64frombits", "math.Float64bits", "math.archFloor", "math.archTrunc"], unfollowed := true, recurses := true, named := ["internal/strconv.uint64pow10", "math/bits.deBruijn32tab", "math/bits.deBruijn64tab"], apart := false, laid := [("math/bits.deBruijn32tab", laid_math_bits_deBruijn32tab), ("math/bits.deBruijn64tab", laid_math_bits_deBruijn64tab), ("internal/strconv.uint64pow10", laid_internal_strconv_uint64pow10)] }
def DigitsAroundSaid : Prop := digitsAroundRow.holds Tryz.pinned (OpenSpec.ofChange digitsAroundSpec)

/-- ITS FALSE NEIGHBOUR: 'it returns false'. Refute it at one input. -/
def digitsAroundWrong : ChangeSpec := { name := "digitsAround", fn := fun _ => fun
  | [d1, d2] => { results := [.lit (.bool false)], args := [d1, d2] }
  | _ => none }
def DigitsAroundWrongFalsely : Prop := digitsAroundRow.holds Tryz.pinned (OpenSpec.ofChange digitsAroundWrong)

/-- 'vergelaw5.DigitsBound': WHATEVER THE INPUT: true; the input reads as it did. -/
def digitsBoundSpec : ChangeSpec := { name := "digitsBound", fn := fun _ => fun
  | [d] => { results := [.lit (.bool true)], args := [d] }
  | _ => none }
def digitsBoundRow : OpenClaim := { program := "ytiadjcilfljdaaagreatdoor", sum := "2ea58b84f215346ca8e8448f8761b4c7cbbfb28e5bdd5ea6309374f6f0fd09a0", func := "verge/vergelaw5.DigitsBound", spec := "digitsBound", inPlace := ["math.Float64frombits", "math.Float64bits", "math.archFloor", "math.archTrunc"], unfollowed := true, recurses := true, named := ["internal/strconv.uint64pow10", "math/bits.deBruijn32tab", "math/bits.deBruijn64tab"], apart := false, laid := [("math/bits.deBruijn32tab", laid_math_bits_deBruijn32tab), ("math/bits.deBruijn64tab", laid_math_bits_deBruijn64tab), ("internal/strconv.uint64pow10", laid_internal_strconv_uint64pow10)] }
def DigitsBoundSaid : Prop := digitsBoundRow.holds Tryz.pinned (OpenSpec.ofChange digitsBoundSpec)

/-- ITS FALSE NEIGHBOUR: 'it returns false'. Refute it at one input. -/
def digitsBoundWrong : ChangeSpec := { name := "digitsBound", fn := fun _ => fun
  | [d] => { results := [.lit (.bool false)], args := [d] }
  | _ => none }
def DigitsBoundWrongFalsely : Prop := digitsBoundRow.holds Tryz.pinned (OpenSpec.ofChange digitsBoundWrong)

/-- 'vergelaw5.DigitsBack': WHATEVER THE INPUT: true; the input reads as it did. -/
def digitsBackSpec : ChangeSpec := { name := "digitsBack", fn := fun _ => fun
  | [d1, d2] => { results := [.lit (.bool true)], args := [d1, d2] }
  | _ => none }
def digitsBackRow : OpenClaim := { program := "ytiadjcilfljdaaagreatdoor", sum := "2ea58b84f215346ca8e8448f8761b4c7cbbfb28e5bdd5ea6309374f6f0fd09a0", func := "verge/vergelaw5.DigitsBack", spec := "digitsBack", inPlace := ["math.Float64frombits", "math.Float64bits", "math.archFloor", "math.archTrunc"], unfollowed := true, recurses := true, named := ["internal/strconv.uint64pow10", "math/bits.deBruijn32tab", "math/bits.deBruijn64tab"], apart := false, laid := [("math/bits.deBruijn32tab", laid_math_bits_deBruijn32tab), ("math/bits.deBruijn64tab", laid_math_bits_deBruijn64tab), ("internal/strconv.uint64pow10", laid_internal_strconv_uint64pow10)] }
def DigitsBackSaid : Prop := digitsBackRow.holds Tryz.pinned (OpenSpec.ofChange digitsBackSpec)

/-- ITS FALSE NEIGHBOUR: 'it returns false'. Refute it at one input. -/
def digitsBackWrong : ChangeSpec := { name := "digitsBack", fn := fun _ => fun
  | [d1, d2] => { results := [.lit (.bool false)], args := [d1, d2] }
  | _ => none }
def DigitsBackWrongFalsely : Prop := digitsBackRow.holds Tryz.pinned (OpenSpec.ofChange digitsBackWrong)

/-- 'vergelaw5.DigitsKnown': WHATEVER THE INPUT: true; the input reads as it did. -/
def digitsKnownSpec : ChangeSpec := { name := "digitsKnown", fn := fun _ => fun
  | [] => { results := [.lit (.bool true)], args := [] }
  | _ => none }
def digitsKnownRow : OpenClaim := { program := "ytiadjcilfljdaaagreatdoor", sum := "2ea58b84f215346ca8e8448f8761b4c7cbbfb28e5bdd5ea6309374f6f0fd09a0", func := "verge/vergelaw5.DigitsKnown", spec := "digitsKnown", inPlace := ["math.Float64frombits", "math.Float64bits", "math.archFloor", "math.archTrunc"], unfollowed := true, recurses := true, named := ["internal/strconv.uint64pow10", "math/bits.deBruijn32tab", "math/bits.deBruijn64tab"], apart := false, laid := [("math/bits.deBruijn32tab", laid_math_bits_deBruijn32tab), ("math/bits.deBruijn64tab", laid_math_bits_deBruijn64tab), ("internal/strconv.uint64pow10", laid_internal_strconv_uint64pow10)] }
def DigitsKnownSaid : Prop := digitsKnownRow.holds Tryz.pinned (OpenSpec.ofChange digitsKnownSpec)

/-- ITS FALSE NEIGHBOUR: 'it returns false'. Refute it at one input. -/
def digitsKnownWrong : ChangeSpec := { name := "digitsKnown", fn := fun _ => fun
  | [] => { results := [.lit (.bool false)], args := [] }
  | _ => none }
def DigitsKnownWrongFalsely : Prop := digitsKnownRow.holds Tryz.pinned (OpenSpec.ofChange digitsKnownWrong)

/- THE SECOND FORM. 'bulk': how many values and letters a reading holds, each counted each time it is reached (what is shared counts as often as it is met; a slice's spare places count too). A statement '..UptoSaid' is the law's where the arguments, and the package variables that the reading takes, are together of bulk at most 1048576: NARROWER than '..Said'. Prove '..Said' where nothing that the law and all that it calls make is longer than what came in: it says more and counts as full. Else prove '..UptoSaid'. A law counts once. -/
mutual
def uptoBulk {H : Type} : DataW H → Nat
  | .lit (.string bytes) => bytes.length + 1
  | .lit _ => 1
  | .nil => 1
  | .ptr d => uptoBulk d + 1
  | .slice elems spare => uptoBulkAll elems + uptoBulkAll spare + 1
  | .agg parts => uptoBulkAll parts + 1
  | .iface _ d => uptoBulk d + 1
  | .map entries => uptoBulkEntries entries + 1
  | .held _ => 1
def uptoBulkAll {H : Type} : List (DataW H) → Nat
  | [] => 0
  | d :: r => uptoBulk d + uptoBulkAll r
def uptoBulkEntries {H : Type} : List (Lit × DataW H) → Nat
  | [] => 0
  | x :: r => uptoBulkEntry x + uptoBulkEntries r
def uptoBulkEntry {H : Type} : Lit × DataW H → Nat
  | (.string bytes, d) => bytes.length + uptoBulk d + 1
  | (_, d) => uptoBulk d + 1
 end
def uptoSmall : (H : Type) → List (DataW H) → Bool := fun _ ds => decide (uptoBulkAll ds ≤ 1048576)
def OpenSpec.upto (s : _root_.Go.ChangeSpec) : _root_.Go.OpenSpec := { _root_.Go.OpenSpec.ofChange s with cond := some uptoSmall }

/-- 'vergelaw5.DigitsFewest', WHERE WHAT IT READS IS OF BULK AT MOST 1048576: true; the input reads as it did. -/
def digitsFewestUptoRow : OpenClaim := { program := "ytiadjcilfljdaaagreatdoor", sum := "2ea58b84f215346ca8e8448f8761b4c7cbbfb28e5bdd5ea6309374f6f0fd09a0", func := "verge/vergelaw5.DigitsFewest", spec := "digitsFewest", inPlace := ["math.Float64frombits", "math.Float64bits", "math.archFloor", "math.archTrunc"], unfollowed := true, recurses := true, named := ["internal/strconv.uint64pow10", "math/bits.deBruijn32tab", "math/bits.deBruijn64tab"], apart := false, laid := [("math/bits.deBruijn32tab", laid_math_bits_deBruijn32tab), ("math/bits.deBruijn64tab", laid_math_bits_deBruijn64tab), ("internal/strconv.uint64pow10", laid_internal_strconv_uint64pow10)], narrowed := true }
def DigitsFewestUptoSaid : Prop := digitsFewestUptoRow.holds Tryz.pinned (OpenSpec.upto digitsFewestSpec)

/-- 'vergelaw5.DigitsOrder', WHERE WHAT IT READS IS OF BULK AT MOST 1048576: true; the input reads as it did. -/
def digitsOrderUptoRow : OpenClaim := { program := "ytiadjcilfljdaaagreatdoor", sum := "2ea58b84f215346ca8e8448f8761b4c7cbbfb28e5bdd5ea6309374f6f0fd09a0", func := "verge/vergelaw5.DigitsOrder", spec := "digitsOrder", inPlace := ["math.Float64frombits", "math.Float64bits", "math.archFloor", "math.archTrunc"], unfollowed := true, recurses := true, named := ["internal/strconv.uint64pow10", "math/bits.deBruijn32tab", "math/bits.deBruijn64tab"], apart := false, laid := [("math/bits.deBruijn32tab", laid_math_bits_deBruijn32tab), ("math/bits.deBruijn64tab", laid_math_bits_deBruijn64tab), ("internal/strconv.uint64pow10", laid_internal_strconv_uint64pow10)], narrowed := true }
def DigitsOrderUptoSaid : Prop := digitsOrderUptoRow.holds Tryz.pinned (OpenSpec.upto digitsOrderSpec)

/-- 'vergelaw5.DigitsSpelt', WHERE WHAT IT READS IS OF BULK AT MOST 1048576: true; the input reads as it did. -/
def digitsSpeltUptoRow : OpenClaim := { program := "ytiadjcilfljdaaagreatdoor", sum := "2ea58b84f215346ca8e8448f8761b4c7cbbfb28e5bdd5ea6309374f6f0fd09a0", func := "verge/vergelaw5.DigitsSpelt", spec := "digitsSpelt", inPlace := ["math.Float64frombits", "math.Float64bits", "math.archFloor", "math.archTrunc"], unfollowed := true, recurses := true, named := ["internal/strconv.uint64pow10", "math/bits.deBruijn32tab", "math/bits.deBruijn64tab"], apart := false, laid := [("math/bits.deBruijn32tab", laid_math_bits_deBruijn32tab), ("math/bits.deBruijn64tab", laid_math_bits_deBruijn64tab), ("internal/strconv.uint64pow10", laid_internal_strconv_uint64pow10)], narrowed := true }
def DigitsSpeltUptoSaid : Prop := digitsSpeltUptoRow.holds Tryz.pinned (OpenSpec.upto digitsSpeltSpec)

/-- 'vergelaw5.DigitsAround', WHERE WHAT IT READS IS OF BULK AT MOST 1048576: true; the input reads as it did. -/
def digitsAroundUptoRow : OpenClaim := { program := "ytiadjcilfljdaaagreatdoor", sum := "2ea58b84f215346ca8e8448f8761b4c7cbbfb28e5bdd5ea6309374f6f0fd09a0", func := "verge/vergelaw5.DigitsAround", spec := "digitsAround", inPlace := ["math.Float64frombits", "math.Float64bits", "math.archFloor", "math.archTrunc"], unfollowed := true, recurses := true, named := ["internal/strconv.uint64pow10", "math/bits.deBruijn32tab", "math/bits.deBruijn64tab"], apart := false, laid := [("math/bits.deBruijn32tab", laid_math_bits_deBruijn32tab), ("math/bits.deBruijn64tab", laid_math_bits_deBruijn64tab), ("internal/strconv.uint64pow10", laid_internal_strconv_uint64pow10)], narrowed := true }
def DigitsAroundUptoSaid : Prop := digitsAroundUptoRow.holds Tryz.pinned (OpenSpec.upto digitsAroundSpec)

/-- 'vergelaw5.DigitsBound', WHERE WHAT IT READS IS OF BULK AT MOST 1048576: true; the input reads as it did. -/
def digitsBoundUptoRow : OpenClaim := { program := "ytiadjcilfljdaaagreatdoor", sum := "2ea58b84f215346ca8e8448f8761b4c7cbbfb28e5bdd5ea6309374f6f0fd09a0", func := "verge/vergelaw5.DigitsBound", spec := "digitsBound", inPlace := ["math.Float64frombits", "math.Float64bits", "math.archFloor", "math.archTrunc"], unfollowed := true, recurses := true, named := ["internal/strconv.uint64pow10", "math/bits.deBruijn32tab", "math/bits.deBruijn64tab"], apart := false, laid := [("math/bits.deBruijn32tab", laid_math_bits_deBruijn32tab), ("math/bits.deBruijn64tab", laid_math_bits_deBruijn64tab), ("internal/strconv.uint64pow10", laid_internal_strconv_uint64pow10)], narrowed := true }
def DigitsBoundUptoSaid : Prop := digitsBoundUptoRow.holds Tryz.pinned (OpenSpec.upto digitsBoundSpec)

/-- 'vergelaw5.DigitsBack', WHERE WHAT IT READS IS OF BULK AT MOST 1048576: true; the input reads as it did. -/
def digitsBackUptoRow : OpenClaim := { program := "ytiadjcilfljdaaagreatdoor", sum := "2ea58b84f215346ca8e8448f8761b4c7cbbfb28e5bdd5ea6309374f6f0fd09a0", func := "verge/vergelaw5.DigitsBack", spec := "digitsBack", inPlace := ["math.Float64frombits", "math.Float64bits", "math.archFloor", "math.archTrunc"], unfollowed := true, recurses := true, named := ["internal/strconv.uint64pow10", "math/bits.deBruijn32tab", "math/bits.deBruijn64tab"], apart := false, laid := [("math/bits.deBruijn32tab", laid_math_bits_deBruijn32tab), ("math/bits.deBruijn64tab", laid_math_bits_deBruijn64tab), ("internal/strconv.uint64pow10", laid_internal_strconv_uint64pow10)], narrowed := true }
def DigitsBackUptoSaid : Prop := digitsBackUptoRow.holds Tryz.pinned (OpenSpec.upto digitsBackSpec)

/-- 'vergelaw5.DigitsKnown', WHERE WHAT IT READS IS OF BULK AT MOST 1048576: true; the input reads as it did. -/
def digitsKnownUptoRow : OpenClaim := { program := "ytiadjcilfljdaaagreatdoor", sum := "2ea58b84f215346ca8e8448f8761b4c7cbbfb28e5bdd5ea6309374f6f0fd09a0", func := "verge/vergelaw5.DigitsKnown", spec := "digitsKnown", inPlace := ["math.Float64frombits", "math.Float64bits", "math.archFloor", "math.archTrunc"], unfollowed := true, recurses := true, named := ["internal/strconv.uint64pow10", "math/bits.deBruijn32tab", "math/bits.deBruijn64tab"], apart := false, laid := [("math/bits.deBruijn32tab", laid_math_bits_deBruijn32tab), ("math/bits.deBruijn64tab", laid_math_bits_deBruijn64tab), ("internal/strconv.uint64pow10", laid_internal_strconv_uint64pow10)], narrowed := true }
def DigitsKnownUptoSaid : Prop := digitsKnownUptoRow.holds Tryz.pinned (OpenSpec.upto digitsKnownSpec)

end Rows
end Go.Proofs.YtiadjcilfljdaaaGreatDoor
