/- Predicates of the values of a region's operations, by their numbers. -/
import Derived.Test.YtiadjcilfljdaaaDoorReg
namespace Go.Proofs.YtiadjcilfljdaaaDoor
set_option linter.unusedVariables false
set_option linter.unusedSimpArgs false
open Go Go.RowKit

def IsV (u : Value) : Value → World → Prop := fun v _ => v = u
def Mono (φ : Value → World → Prop) : Prop := ∀ v w w', Below w.heap.size w w' → φ v w → φ v w'
theorem IsV.mono (u : Value) : Mono (IsV u) := fun _ _ _ _ h => h
theorem mono_true : Mono (fun _ _ => True) := fun _ _ _ _ _ => trivial
def MonoAll : List (Value → World → Prop) → Prop
  | [] => True
  | φ :: φs => Mono φ ∧ MonoAll φs
def Pick (φs : List (Value → World → Prop)) (i : Nat) : Value → World → Prop := φs.getD i (fun _ _ => True)
theorem mono_pick : ∀ {φs : List (Value → World → Prop)}, MonoAll φs → ∀ i v w w', Below w.heap.size w w' → Pick φs i v w → Pick φs i v w'
  | [], _, i, v, w, w', _, h => by unfold Pick at *; simp
  | φ :: φs, h, 0, v, w, w', hb, hv => h.1 v w w' hb hv
  | φ :: φs, h, i + 1, v, w, w', hb, hv => mono_pick h.2 i v w w' hb hv
end Go.Proofs.YtiadjcilfljdaaaDoor
