/- Layer 5: the document's letters: digit, hex, value, the table of states, find, behind, exponent. -/
import Derived.Test.YtcomkgmonhidhaaGreatDoorG03
import Derived.Test.YtcomkgmonhidhaaGreatDoorG04
import Derived.Laws.DeepStrings4
section
namespace Go.Proofs.YtcomkgmonhidhaaGreatDoor
set_option linter.unusedVariables false
set_option linter.unusedSimpArgs false
open Go.RowKit Verge

theorem c_eq (c : UInt8) (n : Nat) : ((c.toNat : Int) == (n : Int)) = decide (c.toNat = n) := by
  rw [Bool.eq_iff_iff]; simp; omega
theorem ret_bool {a b : Bool} (h : a = b) : Ending.returned (.bool a) = .returned (.bool b) := by rw [h]
theorem ret_st {x : Int} {b : Nat} (h : b = x.toNat) (h0 : 0 ≤ x) : Ending.returned (.int .i64 x) = .returned (.int .i64 (b : Int)) := by rw [h, Int.toNat_of_nonneg h0]
end Go.Proofs.YtcomkgmonhidhaaGreatDoor
end

section
namespace Go.Proofs.YtcomkgmonhidhaaGreatDoor
set_option linter.unusedVariables false
set_option linter.unusedSimpArgs false
open Go.RowKit Verge

end Go.Proofs.YtcomkgmonhidhaaGreatDoor
end
