/-
  No cell of these rows narrows 'for every input' (looked for: loops, veiled, ifaces, maps, wideKeys, modest, calm, conditions, laid).
  DERIVED. THE GIVEN ROWS OF THIS SEAT. 11 by the template 'for every input the law returns true; each argument reads behind the call as it read before'; 0 by the template 'total and deterministic' (their statements: YtmmbbkeefphaiaaTotals.lean).
  GIVEN WITH THE SEED: the statements are not yours to turn. If you find one false, say at which input.
  Laid BY PROGRAM, IN A SANDBOX (cutbox-rows.mjs): the forced cells as the released guide's own fill.sh prints them over the translation b14d7be752e529cc… (all of the seat's roots in one cut). By AI agents, Wed Nov 11 2026. No macro, syntax, notation, axiom, sorry.
-/
import Derived.Test.YtmmbbkeefphaiaaChecked
import GoSem.Claim
import GoSem.ClaimJoined
import GoSem.ClaimMapViews
import Derived.JoinedTies
import Derived.KernelRfl
namespace Go.Proofs.Ytmmbbkeefphaiaa
/- THE CELL 'sum', in the pinned program and in every row, IS THE sha256 OF THE DUMP (.gsa) THAT YtmmbbkeefphaiaaProg.lean LOADS. Nothing in Lean hashes anything: it is a label: what it is worth is what the hold of that sum in a sandbox is worth. -/
noncomputable def Try.pinned : Pinned := { name := "ytmmbbkeefphaiaa", sum := "b14d7be752e529cc2c18727030fb33b096fe552e005309b0ca124a902adb9ad1", checked := Try.checked }
namespace Rows
def none {H : Type} : Left H := { results := [], args := [] }

/-- 'vergelaw8.MeasEnds': WHATEVER THE INPUT: true; the input reads as it did. -/
def measEndsSpec : ChangeSpec := { name := "measEnds", fn := fun _ => fun
  | [d] => { results := [.lit (.bool true)], args := [d] }
  | _ => none }
def measEndsRow : OpenClaim := { program := "ytmmbbkeefphaiaa", sum := "b14d7be752e529cc2c18727030fb33b096fe552e005309b0ca124a902adb9ad1", func := "verge/vergelaw8.MeasEnds", spec := "measEnds", inPlace := ["math.Float64frombits", "math.Float64bits"], apart := false }
def MeasEndsSaid : Prop := measEndsRow.holds Try.pinned (OpenSpec.ofChange measEndsSpec)

/-- ITS FALSE NEIGHBOUR: 'it returns false'. Refute it at one input. -/
def measEndsWrong : ChangeSpec := { name := "measEnds", fn := fun _ => fun
  | [d] => { results := [.lit (.bool false)], args := [d] }
  | _ => none }
def MeasEndsWrongFalsely : Prop := measEndsRow.holds Try.pinned (OpenSpec.ofChange measEndsWrong)

/-- 'vergelaw8.MeasMags': WHATEVER THE INPUT: true; the input reads as it did. -/
def measMagsSpec : ChangeSpec := { name := "measMags", fn := fun _ => fun
  | [d] => { results := [.lit (.bool true)], args := [d] }
  | _ => none }
def measMagsRow : OpenClaim := { program := "ytmmbbkeefphaiaa", sum := "b14d7be752e529cc2c18727030fb33b096fe552e005309b0ca124a902adb9ad1", func := "verge/vergelaw8.MeasMags", spec := "measMags", inPlace := ["math.Float64frombits", "math.Float64bits"], apart := false }
def MeasMagsSaid : Prop := measMagsRow.holds Try.pinned (OpenSpec.ofChange measMagsSpec)

/-- ITS FALSE NEIGHBOUR: 'it returns false'. Refute it at one input. -/
def measMagsWrong : ChangeSpec := { name := "measMags", fn := fun _ => fun
  | [d] => { results := [.lit (.bool false)], args := [d] }
  | _ => none }
def MeasMagsWrongFalsely : Prop := measMagsRow.holds Try.pinned (OpenSpec.ofChange measMagsWrong)

/-- 'vergelaw8.MeasReach': WHATEVER THE INPUT: true; the input reads as it did. -/
def measReachSpec : ChangeSpec := { name := "measReach", fn := fun _ => fun
  | [d1, d2] => { results := [.lit (.bool true)], args := [d1, d2] }
  | _ => none }
def measReachRow : OpenClaim := { program := "ytmmbbkeefphaiaa", sum := "b14d7be752e529cc2c18727030fb33b096fe552e005309b0ca124a902adb9ad1", func := "verge/vergelaw8.MeasReach", spec := "measReach", inPlace := ["math.Float64frombits", "math.Float64bits"], apart := false }
def MeasReachSaid : Prop := measReachRow.holds Try.pinned (OpenSpec.ofChange measReachSpec)

/-- ITS FALSE NEIGHBOUR: 'it returns false'. Refute it at one input. -/
def measReachWrong : ChangeSpec := { name := "measReach", fn := fun _ => fun
  | [d1, d2] => { results := [.lit (.bool false)], args := [d1, d2] }
  | _ => none }
def MeasReachWrongFalsely : Prop := measReachRow.holds Try.pinned (OpenSpec.ofChange measReachWrong)

/-- 'vergelaw8.MeasMids': WHATEVER THE INPUT: true; the input reads as it did. -/
def measMidsSpec : ChangeSpec := { name := "measMids", fn := fun _ => fun
  | [d] => { results := [.lit (.bool true)], args := [d] }
  | _ => none }
def measMidsRow : OpenClaim := { program := "ytmmbbkeefphaiaa", sum := "b14d7be752e529cc2c18727030fb33b096fe552e005309b0ca124a902adb9ad1", func := "verge/vergelaw8.MeasMids", spec := "measMids", inPlace := ["math.Float64frombits", "math.Float64bits"], apart := false }
def MeasMidsSaid : Prop := measMidsRow.holds Try.pinned (OpenSpec.ofChange measMidsSpec)

/-- ITS FALSE NEIGHBOUR: 'it returns false'. Refute it at one input. -/
def measMidsWrong : ChangeSpec := { name := "measMids", fn := fun _ => fun
  | [d] => { results := [.lit (.bool false)], args := [d] }
  | _ => none }
def MeasMidsWrongFalsely : Prop := measMidsRow.holds Try.pinned (OpenSpec.ofChange measMidsWrong)

/-- 'vergelaw8.MeasWids': WHATEVER THE INPUT: true; the input reads as it did. -/
def measWidsSpec : ChangeSpec := { name := "measWids", fn := fun _ => fun
  | [d] => { results := [.lit (.bool true)], args := [d] }
  | _ => none }
def measWidsRow : OpenClaim := { program := "ytmmbbkeefphaiaa", sum := "b14d7be752e529cc2c18727030fb33b096fe552e005309b0ca124a902adb9ad1", func := "verge/vergelaw8.MeasWids", spec := "measWids", inPlace := ["math.Float64frombits", "math.Float64bits"], apart := false }
def MeasWidsSaid : Prop := measWidsRow.holds Try.pinned (OpenSpec.ofChange measWidsSpec)

/-- ITS FALSE NEIGHBOUR: 'it returns false'. Refute it at one input. -/
def measWidsWrong : ChangeSpec := { name := "measWids", fn := fun _ => fun
  | [d] => { results := [.lit (.bool false)], args := [d] }
  | _ => none }
def MeasWidsWrongFalsely : Prop := measWidsRow.holds Try.pinned (OpenSpec.ofChange measWidsWrong)

/-- 'vergelaw8.MeasDists': WHATEVER THE INPUT: true; the input reads as it did. -/
def measDistsSpec : ChangeSpec := { name := "measDists", fn := fun _ => fun
  | [d1, d2] => { results := [.lit (.bool true)], args := [d1, d2] }
  | _ => none }
def measDistsRow : OpenClaim := { program := "ytmmbbkeefphaiaa", sum := "b14d7be752e529cc2c18727030fb33b096fe552e005309b0ca124a902adb9ad1", func := "verge/vergelaw8.MeasDists", spec := "measDists", inPlace := ["math.Float64frombits", "math.Float64bits"], apart := false }
def MeasDistsSaid : Prop := measDistsRow.holds Try.pinned (OpenSpec.ofChange measDistsSpec)

/-- ITS FALSE NEIGHBOUR: 'it returns false'. Refute it at one input. -/
def measDistsWrong : ChangeSpec := { name := "measDists", fn := fun _ => fun
  | [d1, d2] => { results := [.lit (.bool false)], args := [d1, d2] }
  | _ => none }
def MeasDistsWrongFalsely : Prop := measDistsRow.holds Try.pinned (OpenSpec.ofChange measDistsWrong)

/-- 'vergelaw8.MeasTriangle': WHATEVER THE INPUT: true; the input reads as it did. -/
def measTriangleSpec : ChangeSpec := { name := "measTriangle", fn := fun _ => fun
  | [d1, d2, d3] => { results := [.lit (.bool true)], args := [d1, d2, d3] }
  | _ => none }
def measTriangleRow : OpenClaim := { program := "ytmmbbkeefphaiaa", sum := "b14d7be752e529cc2c18727030fb33b096fe552e005309b0ca124a902adb9ad1", func := "verge/vergelaw8.MeasTriangle", spec := "measTriangle", inPlace := ["math.Float64frombits", "math.Float64bits"], apart := false }
def MeasTriangleSaid : Prop := measTriangleRow.holds Try.pinned (OpenSpec.ofChange measTriangleSpec)

/-- ITS FALSE NEIGHBOUR: 'it returns false'. Refute it at one input. -/
def measTriangleWrong : ChangeSpec := { name := "measTriangle", fn := fun _ => fun
  | [d1, d2, d3] => { results := [.lit (.bool false)], args := [d1, d2, d3] }
  | _ => none }
def MeasTriangleWrongFalsely : Prop := measTriangleRow.holds Try.pinned (OpenSpec.ofChange measTriangleWrong)

/-- 'vergelaw8.MeasRads': WHATEVER THE INPUT: true; the input reads as it did. -/
def measRadsSpec : ChangeSpec := { name := "measRads", fn := fun _ => fun
  | [d] => { results := [.lit (.bool true)], args := [d] }
  | _ => none }
def measRadsRow : OpenClaim := { program := "ytmmbbkeefphaiaa", sum := "b14d7be752e529cc2c18727030fb33b096fe552e005309b0ca124a902adb9ad1", func := "verge/vergelaw8.MeasRads", spec := "measRads", inPlace := ["math.Float64frombits", "math.Float64bits"], apart := false }
def MeasRadsSaid : Prop := measRadsRow.holds Try.pinned (OpenSpec.ofChange measRadsSpec)

/-- ITS FALSE NEIGHBOUR: 'it returns false'. Refute it at one input. -/
def measRadsWrong : ChangeSpec := { name := "measRads", fn := fun _ => fun
  | [d] => { results := [.lit (.bool false)], args := [d] }
  | _ => none }
def MeasRadsWrongFalsely : Prop := measRadsRow.holds Try.pinned (OpenSpec.ofChange measRadsWrong)

/-- 'vergelaw8.MeasCentre': WHATEVER THE INPUT: true; the input reads as it did. -/
def measCentreSpec : ChangeSpec := { name := "measCentre", fn := fun _ => fun
  | [d1, d2] => { results := [.lit (.bool true)], args := [d1, d2] }
  | _ => none }
def measCentreRow : OpenClaim := { program := "ytmmbbkeefphaiaa", sum := "b14d7be752e529cc2c18727030fb33b096fe552e005309b0ca124a902adb9ad1", func := "verge/vergelaw8.MeasCentre", spec := "measCentre", inPlace := ["math.Float64frombits", "math.Float64bits"], apart := false }
def MeasCentreSaid : Prop := measCentreRow.holds Try.pinned (OpenSpec.ofChange measCentreSpec)

/-- ITS FALSE NEIGHBOUR: 'it returns false'. Refute it at one input. -/
def measCentreWrong : ChangeSpec := { name := "measCentre", fn := fun _ => fun
  | [d1, d2] => { results := [.lit (.bool false)], args := [d1, d2] }
  | _ => none }
def MeasCentreWrongFalsely : Prop := measCentreRow.holds Try.pinned (OpenSpec.ofChange measCentreWrong)

/-- 'vergelaw8.MeasMirror': WHATEVER THE INPUT: true; the input reads as it did. -/
def measMirrorSpec : ChangeSpec := { name := "measMirror", fn := fun _ => fun
  | [d] => { results := [.lit (.bool true)], args := [d] }
  | _ => none }
def measMirrorRow : OpenClaim := { program := "ytmmbbkeefphaiaa", sum := "b14d7be752e529cc2c18727030fb33b096fe552e005309b0ca124a902adb9ad1", func := "verge/vergelaw8.MeasMirror", spec := "measMirror", inPlace := ["math.Float64frombits", "math.Float64bits"], apart := false }
def MeasMirrorSaid : Prop := measMirrorRow.holds Try.pinned (OpenSpec.ofChange measMirrorSpec)

/-- ITS FALSE NEIGHBOUR: 'it returns false'. Refute it at one input. -/
def measMirrorWrong : ChangeSpec := { name := "measMirror", fn := fun _ => fun
  | [d] => { results := [.lit (.bool false)], args := [d] }
  | _ => none }
def MeasMirrorWrongFalsely : Prop := measMirrorRow.holds Try.pinned (OpenSpec.ofChange measMirrorWrong)

/-- 'vergelaw8.MeasKnown': WHATEVER THE INPUT: true; the input reads as it did. -/
def measKnownSpec : ChangeSpec := { name := "measKnown", fn := fun _ => fun
  | [] => { results := [.lit (.bool true)], args := [] }
  | _ => none }
def measKnownRow : OpenClaim := { program := "ytmmbbkeefphaiaa", sum := "b14d7be752e529cc2c18727030fb33b096fe552e005309b0ca124a902adb9ad1", func := "verge/vergelaw8.MeasKnown", spec := "measKnown", inPlace := ["math.Float64frombits", "math.Float64bits"], apart := false }
def MeasKnownSaid : Prop := measKnownRow.holds Try.pinned (OpenSpec.ofChange measKnownSpec)

/-- ITS FALSE NEIGHBOUR: 'it returns false'. Refute it at one input. -/
def measKnownWrong : ChangeSpec := { name := "measKnown", fn := fun _ => fun
  | [] => { results := [.lit (.bool false)], args := [] }
  | _ => none }
def MeasKnownWrongFalsely : Prop := measKnownRow.holds Try.pinned (OpenSpec.ofChange measKnownWrong)

/- THE SECOND FORM. 'bulk': how many values and letters a reading holds, each counted each time it is reached (what is shared counts as often as it is met; a slice's spare places count too). A statement '..UptoSaid' is the law's where the arguments, and the package variables that the reading takes, are together of bulk at most 1048576: NARROWER than '..Said'. Prove '..Said' where nothing that the law and all that it calls make is longer than what came in: it says more and counts as full. Else prove '..UptoSaid'. A law counts once. -/
mutual
def uptoBulk {H : Type} : DataW H → Nat
  | .lit (.string bytes) => bytes.length + 1
  | .lit _ => 1
  | .nil => 1
  | .ptr d => uptoBulk d + 1
  | .slice elems spare => uptoBulkAll elems + uptoBulkAll spare + 1
  | .agg parts => uptoBulkAll parts + 1
  | .iface _ d => uptoBulk d + 1
  | .map entries => uptoBulkEntries entries + 1
  | .held _ => 1
def uptoBulkAll {H : Type} : List (DataW H) → Nat
  | [] => 0
  | d :: r => uptoBulk d + uptoBulkAll r
def uptoBulkEntries {H : Type} : List (Lit × DataW H) → Nat
  | [] => 0
  | x :: r => uptoBulkEntry x + uptoBulkEntries r
def uptoBulkEntry {H : Type} : Lit × DataW H → Nat
  | (.string bytes, d) => bytes.length + uptoBulk d + 1
  | (_, d) => uptoBulk d + 1
 end
def uptoSmall : (H : Type) → List (DataW H) → Bool := fun _ ds => decide (uptoBulkAll ds ≤ 1048576)
def OpenSpec.upto (s : _root_.Go.ChangeSpec) : _root_.Go.OpenSpec := { _root_.Go.OpenSpec.ofChange s with cond := some uptoSmall }

/-- 'vergelaw8.MeasEnds', WHERE WHAT IT READS IS OF BULK AT MOST 1048576: true; the input reads as it did. -/
def measEndsUptoRow : OpenClaim := { program := "ytmmbbkeefphaiaa", sum := "b14d7be752e529cc2c18727030fb33b096fe552e005309b0ca124a902adb9ad1", func := "verge/vergelaw8.MeasEnds", spec := "measEnds", inPlace := ["math.Float64frombits", "math.Float64bits"], apart := false, narrowed := true }
def MeasEndsUptoSaid : Prop := measEndsUptoRow.holds Try.pinned (OpenSpec.upto measEndsSpec)

/-- 'vergelaw8.MeasMags', WHERE WHAT IT READS IS OF BULK AT MOST 1048576: true; the input reads as it did. -/
def measMagsUptoRow : OpenClaim := { program := "ytmmbbkeefphaiaa", sum := "b14d7be752e529cc2c18727030fb33b096fe552e005309b0ca124a902adb9ad1", func := "verge/vergelaw8.MeasMags", spec := "measMags", inPlace := ["math.Float64frombits", "math.Float64bits"], apart := false, narrowed := true }
def MeasMagsUptoSaid : Prop := measMagsUptoRow.holds Try.pinned (OpenSpec.upto measMagsSpec)

/-- 'vergelaw8.MeasReach', WHERE WHAT IT READS IS OF BULK AT MOST 1048576: true; the input reads as it did. -/
def measReachUptoRow : OpenClaim := { program := "ytmmbbkeefphaiaa", sum := "b14d7be752e529cc2c18727030fb33b096fe552e005309b0ca124a902adb9ad1", func := "verge/vergelaw8.MeasReach", spec := "measReach", inPlace := ["math.Float64frombits", "math.Float64bits"], apart := false, narrowed := true }
def MeasReachUptoSaid : Prop := measReachUptoRow.holds Try.pinned (OpenSpec.upto measReachSpec)

/-- 'vergelaw8.MeasMids', WHERE WHAT IT READS IS OF BULK AT MOST 1048576: true; the input reads as it did. -/
def measMidsUptoRow : OpenClaim := { program := "ytmmbbkeefphaiaa", sum := "b14d7be752e529cc2c18727030fb33b096fe552e005309b0ca124a902adb9ad1", func := "verge/vergelaw8.MeasMids", spec := "measMids", inPlace := ["math.Float64frombits", "math.Float64bits"], apart := false, narrowed := true }
def MeasMidsUptoSaid : Prop := measMidsUptoRow.holds Try.pinned (OpenSpec.upto measMidsSpec)

/-- 'vergelaw8.MeasWids', WHERE WHAT IT READS IS OF BULK AT MOST 1048576: true; the input reads as it did. -/
def measWidsUptoRow : OpenClaim := { program := "ytmmbbkeefphaiaa", sum := "b14d7be752e529cc2c18727030fb33b096fe552e005309b0ca124a902adb9ad1", func := "verge/vergelaw8.MeasWids", spec := "measWids", inPlace := ["math.Float64frombits", "math.Float64bits"], apart := false, narrowed := true }
def MeasWidsUptoSaid : Prop := measWidsUptoRow.holds Try.pinned (OpenSpec.upto measWidsSpec)

/-- 'vergelaw8.MeasDists', WHERE WHAT IT READS IS OF BULK AT MOST 1048576: true; the input reads as it did. -/
def measDistsUptoRow : OpenClaim := { program := "ytmmbbkeefphaiaa", sum := "b14d7be752e529cc2c18727030fb33b096fe552e005309b0ca124a902adb9ad1", func := "verge/vergelaw8.MeasDists", spec := "measDists", inPlace := ["math.Float64frombits", "math.Float64bits"], apart := false, narrowed := true }
def MeasDistsUptoSaid : Prop := measDistsUptoRow.holds Try.pinned (OpenSpec.upto measDistsSpec)

/-- 'vergelaw8.MeasTriangle', WHERE WHAT IT READS IS OF BULK AT MOST 1048576: true; the input reads as it did. -/
def measTriangleUptoRow : OpenClaim := { program := "ytmmbbkeefphaiaa", sum := "b14d7be752e529cc2c18727030fb33b096fe552e005309b0ca124a902adb9ad1", func := "verge/vergelaw8.MeasTriangle", spec := "measTriangle", inPlace := ["math.Float64frombits", "math.Float64bits"], apart := false, narrowed := true }
def MeasTriangleUptoSaid : Prop := measTriangleUptoRow.holds Try.pinned (OpenSpec.upto measTriangleSpec)

/-- 'vergelaw8.MeasRads', WHERE WHAT IT READS IS OF BULK AT MOST 1048576: true; the input reads as it did. -/
def measRadsUptoRow : OpenClaim := { program := "ytmmbbkeefphaiaa", sum := "b14d7be752e529cc2c18727030fb33b096fe552e005309b0ca124a902adb9ad1", func := "verge/vergelaw8.MeasRads", spec := "measRads", inPlace := ["math.Float64frombits", "math.Float64bits"], apart := false, narrowed := true }
def MeasRadsUptoSaid : Prop := measRadsUptoRow.holds Try.pinned (OpenSpec.upto measRadsSpec)

/-- 'vergelaw8.MeasCentre', WHERE WHAT IT READS IS OF BULK AT MOST 1048576: true; the input reads as it did. -/
def measCentreUptoRow : OpenClaim := { program := "ytmmbbkeefphaiaa", sum := "b14d7be752e529cc2c18727030fb33b096fe552e005309b0ca124a902adb9ad1", func := "verge/vergelaw8.MeasCentre", spec := "measCentre", inPlace := ["math.Float64frombits", "math.Float64bits"], apart := false, narrowed := true }
def MeasCentreUptoSaid : Prop := measCentreUptoRow.holds Try.pinned (OpenSpec.upto measCentreSpec)

/-- 'vergelaw8.MeasMirror', WHERE WHAT IT READS IS OF BULK AT MOST 1048576: true; the input reads as it did. -/
def measMirrorUptoRow : OpenClaim := { program := "ytmmbbkeefphaiaa", sum := "b14d7be752e529cc2c18727030fb33b096fe552e005309b0ca124a902adb9ad1", func := "verge/vergelaw8.MeasMirror", spec := "measMirror", inPlace := ["math.Float64frombits", "math.Float64bits"], apart := false, narrowed := true }
def MeasMirrorUptoSaid : Prop := measMirrorUptoRow.holds Try.pinned (OpenSpec.upto measMirrorSpec)

/-- 'vergelaw8.MeasKnown', WHERE WHAT IT READS IS OF BULK AT MOST 1048576: true; the input reads as it did. -/
def measKnownUptoRow : OpenClaim := { program := "ytmmbbkeefphaiaa", sum := "b14d7be752e529cc2c18727030fb33b096fe552e005309b0ca124a902adb9ad1", func := "verge/vergelaw8.MeasKnown", spec := "measKnown", inPlace := ["math.Float64frombits", "math.Float64bits"], apart := false, narrowed := true }
def MeasKnownUptoSaid : Prop := measKnownUptoRow.holds Try.pinned (OpenSpec.upto measKnownSpec)

end Rows
end Go.Proofs.Ytmmbbkeefphaiaa
