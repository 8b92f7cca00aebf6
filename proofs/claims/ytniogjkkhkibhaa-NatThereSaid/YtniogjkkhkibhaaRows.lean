/-
  No cell of these rows narrows 'for every input' (looked for: loops, veiled, ifaces, maps, wideKeys, modest, calm, conditions, laid).
  DERIVED. THE GIVEN ROWS OF THIS SEAT. 4 by the template 'for every input the law returns true; each argument reads behind the call as it read before'; 0 by the template 'total and deterministic' (their statements: YtniogjkkhkibhaaTotals.lean).
  GIVEN WITH THE SEED: the statements are not yours to turn. If you find one false, say at which input.
  Laid BY PROGRAM, IN A SANDBOX (cutbox-rows.mjs): the forced cells as the released guide's own fill.sh prints them over the translation 9fa7689fb86e9a69… (all of the seat's roots in one cut). By AI agents, Wed Nov 11 2026. No macro, syntax, notation, axiom, sorry.
-/
import Derived.Test.YtniogjkkhkibhaaChecked
import GoSem.Claim
import GoSem.ClaimJoined
import GoSem.ClaimMapViews
import Derived.JoinedTies
import Derived.KernelRfl
namespace Go.Proofs.Ytniogjkkhkibhaa
/- THE CELL 'sum', in the pinned program and in every row, IS THE sha256 OF THE DUMP (.gsa) THAT YtniogjkkhkibhaaProg.lean LOADS. Nothing in Lean hashes anything: it is a label: what it is worth is what the hold of that sum in a sandbox is worth. -/
noncomputable def Try.pinned : Pinned := { name := "ytniogjkkhkibhaa", sum := "9fa7689fb86e9a69008b110cb9b33cc4dc1d834602829c005e526bd7a98c94b6", checked := Try.checked }
namespace Rows
def none {H : Type} : Left H := { results := [], args := [] }

/-- 'vergelaw2.NatNames': WHATEVER THE INPUT: true; the input reads as it did. -/
def natNamesSpec : ChangeSpec := { name := "natNames", fn := fun _ => fun
  | [] => { results := [.lit (.bool true)], args := [] }
  | _ => none }
def natNamesRow : OpenClaim := { program := "ytniogjkkhkibhaa", sum := "9fa7689fb86e9a69008b110cb9b33cc4dc1d834602829c005e526bd7a98c94b6", func := "verge/vergelaw2.NatNames", spec := "natNames", apart := false }
def NatNamesSaid : Prop := natNamesRow.holds Try.pinned (OpenSpec.ofChange natNamesSpec)

/-- ITS FALSE NEIGHBOUR: 'it returns false'. Refute it at one input. -/
def natNamesWrong : ChangeSpec := { name := "natNames", fn := fun _ => fun
  | [] => { results := [.lit (.bool false)], args := [] }
  | _ => none }
def NatNamesWrongFalsely : Prop := natNamesRow.holds Try.pinned (OpenSpec.ofChange natNamesWrong)

/-- 'vergelaw2.NatRing': WHATEVER THE INPUT: true; the input reads as it did. -/
def natRingSpec : ChangeSpec := { name := "natRing", fn := fun _ => fun
  | [d1, d2, d3] => { results := [.lit (.bool true)], args := [d1, d2, d3] }
  | _ => none }
def natRingRow : OpenClaim := { program := "ytniogjkkhkibhaa", sum := "9fa7689fb86e9a69008b110cb9b33cc4dc1d834602829c005e526bd7a98c94b6", func := "verge/vergelaw2.NatRing", spec := "natRing", apart := false }
def NatRingSaid : Prop := natRingRow.holds Try.pinned (OpenSpec.ofChange natRingSpec)

/-- ITS FALSE NEIGHBOUR: 'it returns false'. Refute it at one input. -/
def natRingWrong : ChangeSpec := { name := "natRing", fn := fun _ => fun
  | [d1, d2, d3] => { results := [.lit (.bool false)], args := [d1, d2, d3] }
  | _ => none }
def NatRingWrongFalsely : Prop := natRingRow.holds Try.pinned (OpenSpec.ofChange natRingWrong)

/-- 'vergelaw2.NatGrows': WHATEVER THE INPUT: true; the input reads as it did. -/
def natGrowsSpec : ChangeSpec := { name := "natGrows", fn := fun _ => fun
  | [d1, d2, d3] => { results := [.lit (.bool true)], args := [d1, d2, d3] }
  | _ => none }
def natGrowsRow : OpenClaim := { program := "ytniogjkkhkibhaa", sum := "9fa7689fb86e9a69008b110cb9b33cc4dc1d834602829c005e526bd7a98c94b6", func := "verge/vergelaw2.NatGrows", spec := "natGrows", apart := false }
def NatGrowsSaid : Prop := natGrowsRow.holds Try.pinned (OpenSpec.ofChange natGrowsSpec)

/-- ITS FALSE NEIGHBOUR: 'it returns false'. Refute it at one input. -/
def natGrowsWrong : ChangeSpec := { name := "natGrows", fn := fun _ => fun
  | [d1, d2, d3] => { results := [.lit (.bool false)], args := [d1, d2, d3] }
  | _ => none }
def NatGrowsWrongFalsely : Prop := natGrowsRow.holds Try.pinned (OpenSpec.ofChange natGrowsWrong)

/-- 'vergelaw2.NatThere': WHATEVER THE INPUT: true; the input reads as it did. -/
def natThereSpec : ChangeSpec := { name := "natThere", fn := fun _ => fun
  | [d1, d2, d3] => { results := [.lit (.bool true)], args := [d1, d2, d3] }
  | _ => none }
def natThereRow : OpenClaim := { program := "ytniogjkkhkibhaa", sum := "9fa7689fb86e9a69008b110cb9b33cc4dc1d834602829c005e526bd7a98c94b6", func := "verge/vergelaw2.NatThere", spec := "natThere", apart := false }
def NatThereSaid : Prop := natThereRow.holds Try.pinned (OpenSpec.ofChange natThereSpec)

/-- ITS FALSE NEIGHBOUR: 'it returns false'. Refute it at one input. -/
def natThereWrong : ChangeSpec := { name := "natThere", fn := fun _ => fun
  | [d1, d2, d3] => { results := [.lit (.bool false)], args := [d1, d2, d3] }
  | _ => none }
def NatThereWrongFalsely : Prop := natThereRow.holds Try.pinned (OpenSpec.ofChange natThereWrong)

/- THE SECOND FORM. 'bulk': how many values and letters a reading holds, each counted each time it is reached (what is shared counts as often as it is met; a slice's spare places count too). A statement '..UptoSaid' is the law's where the arguments, and the package variables that the reading takes, are together of bulk at most 1048576: NARROWER than '..Said'. Prove '..Said' where nothing that the law and all that it calls make is longer than what came in: it says more and counts as full. Else prove '..UptoSaid'. A law counts once. -/
mutual
def uptoBulk {H : Type} : DataW H → Nat
  | .lit (.string bytes) => bytes.length + 1
  | .lit _ => 1
  | .nil => 1
  | .ptr d => uptoBulk d + 1
  | .slice elems spare => uptoBulkAll elems + uptoBulkAll spare + 1
  | .agg parts => uptoBulkAll parts + 1
  | .iface _ d => uptoBulk d + 1
  | .map entries => uptoBulkEntries entries + 1
  | .held _ => 1
def uptoBulkAll {H : Type} : List (DataW H) → Nat
  | [] => 0
  | d :: r => uptoBulk d + uptoBulkAll r
def uptoBulkEntries {H : Type} : List (Lit × DataW H) → Nat
  | [] => 0
  | x :: r => uptoBulkEntry x + uptoBulkEntries r
def uptoBulkEntry {H : Type} : Lit × DataW H → Nat
  | (.string bytes, d) => bytes.length + uptoBulk d + 1
  | (_, d) => uptoBulk d + 1
 end
def uptoSmall : (H : Type) → List (DataW H) → Bool := fun _ ds => decide (uptoBulkAll ds ≤ 1048576)
def OpenSpec.upto (s : _root_.Go.ChangeSpec) : _root_.Go.OpenSpec := { _root_.Go.OpenSpec.ofChange s with cond := some uptoSmall }

/-- 'vergelaw2.NatNames', WHERE WHAT IT READS IS OF BULK AT MOST 1048576: true; the input reads as it did. -/
def natNamesUptoRow : OpenClaim := { program := "ytniogjkkhkibhaa", sum := "9fa7689fb86e9a69008b110cb9b33cc4dc1d834602829c005e526bd7a98c94b6", func := "verge/vergelaw2.NatNames", spec := "natNames", apart := false, narrowed := true }
def NatNamesUptoSaid : Prop := natNamesUptoRow.holds Try.pinned (OpenSpec.upto natNamesSpec)

/-- 'vergelaw2.NatRing', WHERE WHAT IT READS IS OF BULK AT MOST 1048576: true; the input reads as it did. -/
def natRingUptoRow : OpenClaim := { program := "ytniogjkkhkibhaa", sum := "9fa7689fb86e9a69008b110cb9b33cc4dc1d834602829c005e526bd7a98c94b6", func := "verge/vergelaw2.NatRing", spec := "natRing", apart := false, narrowed := true }
def NatRingUptoSaid : Prop := natRingUptoRow.holds Try.pinned (OpenSpec.upto natRingSpec)

/-- 'vergelaw2.NatGrows', WHERE WHAT IT READS IS OF BULK AT MOST 1048576: true; the input reads as it did. -/
def natGrowsUptoRow : OpenClaim := { program := "ytniogjkkhkibhaa", sum := "9fa7689fb86e9a69008b110cb9b33cc4dc1d834602829c005e526bd7a98c94b6", func := "verge/vergelaw2.NatGrows", spec := "natGrows", apart := false, narrowed := true }
def NatGrowsUptoSaid : Prop := natGrowsUptoRow.holds Try.pinned (OpenSpec.upto natGrowsSpec)

/-- 'vergelaw2.NatThere', WHERE WHAT IT READS IS OF BULK AT MOST 1048576: true; the input reads as it did. -/
def natThereUptoRow : OpenClaim := { program := "ytniogjkkhkibhaa", sum := "9fa7689fb86e9a69008b110cb9b33cc4dc1d834602829c005e526bd7a98c94b6", func := "verge/vergelaw2.NatThere", spec := "natThere", apart := false, narrowed := true }
def NatThereUptoSaid : Prop := natThereUptoRow.holds Try.pinned (OpenSpec.upto natThereSpec)

end Rows
end Go.Proofs.Ytniogjkkhkibhaa
