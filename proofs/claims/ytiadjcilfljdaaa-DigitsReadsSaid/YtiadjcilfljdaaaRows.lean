/-
  No cell of these rows narrows 'for every input' (looked for: loops, veiled, ifaces, maps, wideKeys, modest, calm, conditions, laid).
  DERIVED. THE GIVEN ROWS OF THIS SEAT. 3 by the template 'for every input the law returns true; each argument reads behind the call as it read before'; 0 by the template 'total and deterministic' (their statements: YtiadjcilfljdaaaTotals.lean).
  GIVEN WITH THE SEED: the statements are not yours to turn. If you find one false, say at which input.
  Laid BY PROGRAM, IN A SANDBOX (cutbox-rows.mjs): the forced cells as the released guide's own fill.sh prints them over the translation bfdf466bd3b9cb90… (all of the seat's roots in one cut). By AI agents, Wed Nov 11 2026. No macro, syntax, notation, axiom, sorry.
-/
import Derived.Test.YtiadjcilfljdaaaChecked
import GoSem.Claim
import GoSem.ClaimJoined
import GoSem.ClaimMapViews
import Derived.JoinedTies
import Derived.KernelRfl
namespace Go.Proofs.Ytiadjcilfljdaaa
/- THE CELL 'sum', in the pinned program and in every row, IS THE sha256 OF THE DUMP (.gsa) THAT YtiadjcilfljdaaaProg.lean LOADS. Nothing in Lean hashes anything: it is a label: what it is worth is what the hold of that sum in a sandbox is worth. -/
noncomputable def Try.pinned : Pinned := { name := "ytiadjcilfljdaaa", sum := "bfdf466bd3b9cb904c8c36037ccda8217bffb9008bcce03b7d20e8094a1622a6", checked := Try.checked }
namespace Rows
def none {H : Type} : Left H := { results := [], args := [] }

/-- 'vergelaw5.DigitsNames': WHATEVER THE INPUT: true; the input reads as it did. -/
def digitsNamesSpec : ChangeSpec := { name := "digitsNames", fn := fun _ => fun
  | [] => { results := [.lit (.bool true)], args := [] }
  | _ => none }
def digitsNamesRow : OpenClaim := { program := "ytiadjcilfljdaaa", sum := "bfdf466bd3b9cb904c8c36037ccda8217bffb9008bcce03b7d20e8094a1622a6", func := "verge/vergelaw5.DigitsNames", spec := "digitsNames", apart := false }
def DigitsNamesSaid : Prop := digitsNamesRow.holds Try.pinned (OpenSpec.ofChange digitsNamesSpec)

/-- ITS FALSE NEIGHBOUR: 'it returns false'. Refute it at one input. -/
def digitsNamesWrong : ChangeSpec := { name := "digitsNames", fn := fun _ => fun
  | [] => { results := [.lit (.bool false)], args := [] }
  | _ => none }
def DigitsNamesWrongFalsely : Prop := digitsNamesRow.holds Try.pinned (OpenSpec.ofChange digitsNamesWrong)

/-- 'vergelaw5.DigitsCmps': WHATEVER THE INPUT: true; the input reads as it did. -/
def digitsCmpsSpec : ChangeSpec := { name := "digitsCmps", fn := fun _ => fun
  | [d1, d2] => { results := [.lit (.bool true)], args := [d1, d2] }
  | _ => none }
def digitsCmpsRow : OpenClaim := { program := "ytiadjcilfljdaaa", sum := "bfdf466bd3b9cb904c8c36037ccda8217bffb9008bcce03b7d20e8094a1622a6", func := "verge/vergelaw5.DigitsCmps", spec := "digitsCmps", unfollowed := true, recurses := true, apart := false }
def DigitsCmpsSaid : Prop := digitsCmpsRow.holds Try.pinned (OpenSpec.ofChange digitsCmpsSpec)

/-- ITS FALSE NEIGHBOUR: 'it returns false'. Refute it at one input. -/
def digitsCmpsWrong : ChangeSpec := { name := "digitsCmps", fn := fun _ => fun
  | [d1, d2] => { results := [.lit (.bool false)], args := [d1, d2] }
  | _ => none }
def DigitsCmpsWrongFalsely : Prop := digitsCmpsRow.holds Try.pinned (OpenSpec.ofChange digitsCmpsWrong)

/-- 'vergelaw5.DigitsReads': WHATEVER THE INPUT: true; the input reads as it did. -/
def digitsReadsSpec : ChangeSpec := { name := "digitsReads", fn := fun _ => fun
  | [d1, d2] => { results := [.lit (.bool true)], args := [d1, d2] }
  | _ => none }
def digitsReadsRow : OpenClaim := { program := "ytiadjcilfljdaaa", sum := "bfdf466bd3b9cb904c8c36037ccda8217bffb9008bcce03b7d20e8094a1622a6", func := "verge/vergelaw5.DigitsReads", spec := "digitsReads", inPlace := ["math.Float64frombits", "math.Float64bits"], unfollowed := true, recurses := true, apart := false }
def DigitsReadsSaid : Prop := digitsReadsRow.holds Try.pinned (OpenSpec.ofChange digitsReadsSpec)

/-- ITS FALSE NEIGHBOUR: 'it returns false'. Refute it at one input. -/
def digitsReadsWrong : ChangeSpec := { name := "digitsReads", fn := fun _ => fun
  | [d1, d2] => { results := [.lit (.bool false)], args := [d1, d2] }
  | _ => none }
def DigitsReadsWrongFalsely : Prop := digitsReadsRow.holds Try.pinned (OpenSpec.ofChange digitsReadsWrong)

/- THE SECOND FORM. 'bulk': how many values and letters a reading holds, each counted each time it is reached (what is shared counts as often as it is met; a slice's spare places count too). A statement '..UptoSaid' is the law's where the arguments, and the package variables that the reading takes, are together of bulk at most 1048576: NARROWER than '..Said'. Prove '..Said' where nothing that the law and all that it calls make is longer than what came in: it says more and counts as full. Else prove '..UptoSaid'. A law counts once. -/
mutual
def uptoBulk {H : Type} : DataW H → Nat
  | .lit (.string bytes) => bytes.length + 1
  | .lit _ => 1
  | .nil => 1
  | .ptr d => uptoBulk d + 1
  | .slice elems spare => uptoBulkAll elems + uptoBulkAll spare + 1
  | .agg parts => uptoBulkAll parts + 1
  | .iface _ d => uptoBulk d + 1
  | .map entries => uptoBulkEntries entries + 1
  | .held _ => 1
def uptoBulkAll {H : Type} : List (DataW H) → Nat
  | [] => 0
  | d :: r => uptoBulk d + uptoBulkAll r
def uptoBulkEntries {H : Type} : List (Lit × DataW H) → Nat
  | [] => 0
  | x :: r => uptoBulkEntry x + uptoBulkEntries r
def uptoBulkEntry {H : Type} : Lit × DataW H → Nat
  | (.string bytes, d) => bytes.length + uptoBulk d + 1
  | (_, d) => uptoBulk d + 1
 end
def uptoSmall : (H : Type) → List (DataW H) → Bool := fun _ ds => decide (uptoBulkAll ds ≤ 1048576)
def OpenSpec.upto (s : _root_.Go.ChangeSpec) : _root_.Go.OpenSpec := { _root_.Go.OpenSpec.ofChange s with cond := some uptoSmall }

/-- 'vergelaw5.DigitsNames', WHERE WHAT IT READS IS OF BULK AT MOST 1048576: true; the input reads as it did. -/
def digitsNamesUptoRow : OpenClaim := { program := "ytiadjcilfljdaaa", sum := "bfdf466bd3b9cb904c8c36037ccda8217bffb9008bcce03b7d20e8094a1622a6", func := "verge/vergelaw5.DigitsNames", spec := "digitsNames", apart := false, narrowed := true }
def DigitsNamesUptoSaid : Prop := digitsNamesUptoRow.holds Try.pinned (OpenSpec.upto digitsNamesSpec)

/-- 'vergelaw5.DigitsCmps', WHERE WHAT IT READS IS OF BULK AT MOST 1048576: true; the input reads as it did. -/
def digitsCmpsUptoRow : OpenClaim := { program := "ytiadjcilfljdaaa", sum := "bfdf466bd3b9cb904c8c36037ccda8217bffb9008bcce03b7d20e8094a1622a6", func := "verge/vergelaw5.DigitsCmps", spec := "digitsCmps", unfollowed := true, recurses := true, apart := false, narrowed := true }
def DigitsCmpsUptoSaid : Prop := digitsCmpsUptoRow.holds Try.pinned (OpenSpec.upto digitsCmpsSpec)

/-- 'vergelaw5.DigitsReads', WHERE WHAT IT READS IS OF BULK AT MOST 1048576: true; the input reads as it did. -/
def digitsReadsUptoRow : OpenClaim := { program := "ytiadjcilfljdaaa", sum := "bfdf466bd3b9cb904c8c36037ccda8217bffb9008bcce03b7d20e8094a1622a6", func := "verge/vergelaw5.DigitsReads", spec := "digitsReads", inPlace := ["math.Float64frombits", "math.Float64bits"], unfollowed := true, recurses := true, apart := false, narrowed := true }
def DigitsReadsUptoSaid : Prop := digitsReadsUptoRow.holds Try.pinned (OpenSpec.upto digitsReadsSpec)

end Rows
end Go.Proofs.Ytiadjcilfljdaaa
