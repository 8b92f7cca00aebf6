/- Vergeref3: made, infinite, greatest: a pattern out of its parts. -/
import Derived.Test.YtigmpifjcijdbaaGreatDoorG24
import Derived.Test.YtigmpifjcijdbaaGreatDoorG23
import Derived.Test.YtigmpifjcijdbaaGreatDoorG08
import Derived.Test.YtigmpifjcijdbaaGreatDoorG22
namespace Go.Proofs.YtigmpifjcijdbaaGreatDoor
set_option linter.unusedVariables false
set_option linter.unusedSimpArgs false
open Go.RowKit Verge
section
set_option maxRecDepth 20000
set_option maxHeartbeats 2000000
end
end Go.Proofs.YtigmpifjcijdbaaGreatDoor
namespace Go.Proofs.YtigmpifjcijdbaaGreatDoor
set_option linter.unusedVariables false
set_option linter.unusedSimpArgs false
open Go.RowKit Verge
section
variable {w:World} {v u:Value} {xs ys:List Nat}
end
section
variable (d:Int) (s:Bool) (X Y:List Nat) (va vb:Value) (K:Nat) (w:World)
end
theorem rngA_cut (N D j:Nat) (hj:0<j):rngA (N*j) (D*j)=rngA N D:=by
 unfold rngA
 rw [Nat.mul_div_mul_right _ _ hj]
 have:FV (fl (N / D))*(D*j)=N*j↔FV (fl (N / D))*D=N:=by
  rw [←Nat.mul_assoc]
  exact ⟨fun h=>Nat.eq_of_mul_eq_mul_right hj h,fun h=>by rw [h]⟩
 simp only [this]
theorem rng_cut (d:Int) (s:Bool) (N D j:Nat) (hj:0<j):rng d s (N*j) (D*j)=rng d s N D:=by
 unfold rng
 rw [rngA_cut N D j hj,rngN_cut N D j hj,Nat.mul_div_mul_right _ _ hj]
end Go.Proofs.YtigmpifjcijdbaaGreatDoor
