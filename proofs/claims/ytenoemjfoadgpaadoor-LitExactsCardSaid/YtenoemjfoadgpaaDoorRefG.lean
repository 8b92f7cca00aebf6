/- The document's own naturals: By. -/
import Derived.Test.YtenoemjfoadgpaaDoorRefE
namespace Go.Proofs.YtenoemjfoadgpaaDoor
set_option linter.unusedVariables false
set_option linter.unusedSimpArgs false
open Go.RowKit Verge

/-- What By answers: the quotient and the rest. -/
def ByPost (w : World) (q r : Nat) : Ending → World → Prop := fun en w' =>
  ∃ A c A' c', en = .returned (.tuple #[.slice A (dig q).length c, .slice A' (dig r).length c']) ∧ Rd w' A (dig q) ∧ (dig q).length ≤ c ∧ c ≤ maxLen ∧ Rd w' A' (dig r) ∧ (dig r).length ≤ c' ∧ c' ≤ maxLen ∧ Below w.heap.size w w'

section
variable (A : Option Addr) (n c : Nat) (X : List Nat) (A' : Option Addr) (n' c' : Nat) (Y : List Nat) (w : World) (h : Rd w A X) (hn : X.length = n) (h' : Rd w A' Y) (hn' : Y.length = n') (hm : n ≤ 35184372088700) (hm' : n' ≤ 35184372088700)
include h hn h' hn' hm hm'

end
end Go.Proofs.YtenoemjfoadgpaaDoor
