/- Calls of nat, more: Len and Zeros of a short list. -/
import Derived.Test.YtniogjkkhkibhaaDoorLawD
import Derived.Test.YtniogjkkhkibhaaDoorNatZ
import Derived.Test.YtniogjkkhkibhaaDoorPlainK
namespace Go.Proofs.YtniogjkkhkibhaaDoor
set_option linter.unusedVariables false
set_option linter.unusedSimpArgs false
open Go.RowKit Verge

theorem len_l {A : Option Addr} {n c x : Nat} {w : World} (h : Li w A n c x) : Calls Tryd.prog 20 #[.slice A n c] w fun e w' => e = .returned (.int .i64 (blen x : Nat)) ∧ Below w.heap.size w w' := by
  obtain ⟨xs, h1, h2, h3, h4, h9, h5⟩ := h
  have := len_any A n c xs w h1 h2 (by omega)
  rw [h5] at this
  refine this.mono ?_
  rintro e w' ⟨rfl, rfl⟩
  exact ⟨rfl, Below.refl _ _⟩
theorem zeros_l {A : Option Addr} {n c x : Nat} {w : World} (h : Li w A n c x) (hT : Tab w) : Calls Tryd.prog 21 #[.slice A n c] w fun e w' => e = .returned (.int .i64 (ntz x : Nat)) ∧ Below w.heap.size w w' := by
  obtain ⟨xs, h1, h2, h3, h4, h9, h5⟩ := h
  have := zeros_any A n c xs w h1 h2 (by omega) hT
  rw [h5] at this
  refine this.mono ?_
  rintro e w' ⟨rfl, rfl⟩
  exact ⟨rfl, Below.refl _ _⟩
end Go.Proofs.YtniogjkkhkibhaaDoor
