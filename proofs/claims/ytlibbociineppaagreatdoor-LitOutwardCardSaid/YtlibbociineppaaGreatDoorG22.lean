/- Contracts of vergeref2's ratios: RSign, RNeg, RCmp. -/
import Derived.Test.YtlibbociineppaaGreatDoorG13
import Derived.Test.YtlibbociineppaaGreatDoorG20
import Derived.Test.YtlibbociineppaaGreatDoorG17
section
namespace Go.Proofs.YtlibbociineppaaGreatDoor
set_option linter.unusedVariables false
set_option linter.unusedSimpArgs false
open Go.RowKit Verge
section
variable (s:Bool) (A:Option Addr) (n c:Nat) (X:List Nat) (B:Option Addr) (m d:Nat) (Y:List Nat) (w:World) (h:Rd w A X) (hn:X.length=n) (hnb:n≤35184372088800)
include h hn hnb
end
end Go.Proofs.YtlibbociineppaaGreatDoor
end

section
namespace Go.Proofs.YtlibbociineppaaGreatDoor
set_option linter.unusedVariables false
set_option linter.unusedSimpArgs false
open Go.RowKit Verge
section
variable (s:Bool) (X Y:List Nat) (va vb:Value) (w:World)
end
end Go.Proofs.YtlibbociineppaaGreatDoor
namespace Go.Proofs.YtlibbociineppaaGreatDoor
set_option linter.unusedVariables false
set_option linter.unusedSimpArgs false
open Go.RowKit Verge
section
variable {s t:Bool} {X Y U V:List Nat} {va vb:Value} {w:World}
end
end Go.Proofs.YtlibbociineppaaGreatDoor
namespace Go.Proofs.YtlibbociineppaaGreatDoor
set_option linter.unusedVariables false
set_option linter.unusedSimpArgs false
open Go.RowKit Verge
def sv (s:Bool) (n:Nat):Int:=if s then -(n:Int) else n
def IsRV (p:Int) (q:Nat) (k:Nat) (v:Value) (w:World):Prop:=∃s X Y,IsR s X Y v w∧0<q∧0<val Y∧sv s (val X)*q=p*val Y∧X.length≤k∧Y.length≤k
theorem IsRV.mono (p:Int) (q k:Nat):Mono (IsRV p q k):=fun _ _ _ hb ⟨s,X,Y,h,r⟩=>⟨s,X,Y,IsR.mono _ _ _ _ _ _ hb h,r⟩
theorem IsRV.le {p:Int} {q k k':Nat} {v:Value} {w:World} (h:IsRV p q k v w) (hk:k≤k'):IsRV p q k' v w:=by
 obtain ⟨s,X,Y,hr,hq,hy,hs,h1,h2⟩:=h
 exact ⟨s,X,Y,hr,hq,hy,hs,by omega,by omega⟩
theorem sv_mul (s:Bool) (x y:Nat):sv s (x*y)=sv s x*y:=by
 unfold sv;cases s <;> simp [Int.neg_mul]
section
variable {p p':Int} {q q' k k':Nat} {va vb:Value} {w:World}
def icmp (a b:Int):Int:=if a<b then -1 else if a=b then 0 else 1
def KU:Nat:=1074
end
end Go.Proofs.YtlibbociineppaaGreatDoor
end

section
namespace Go.Proofs.YtlibbociineppaaGreatDoor
set_option linter.unusedVariables false
set_option linter.unusedSimpArgs false
open Go.RowKit Verge
theorem vl_X {c:UInt8} (h:isX c=true):vl c=dvl c∧dvl c<16:=by
 have h1:vl c=dvl c:=if_pos h
 have h2:pB 16 c=true:=by rw [pB16];exact h
 have h3:vl c<16:=of_decide_eq_true h2
 exact ⟨h1,by omega⟩
theorem vl_D {c:UInt8} (h:isD c=true):vl c=dvl c∧dvl c<10:=by
 have h1:vl c=dvl c:=if_pos (isX_D h)
 have h2:pB 10 c=true:=by rw [pB10];exact h
 have h3:vl c<10:=of_decide_eq_true h2
 exact ⟨h1,by omega⟩
theorem isR_two {c:UInt8} {s:List UInt8} {j k:UInt8} (h:c.toNat=j.toNat∨c.toNat=k.toNat):isR [j,k] (c::s)=(true,s):=by
 refine if_pos ?_
 rcases h with h | h
 ·rw [UInt8.toNat_inj.1 h];simp
 ·rw [UInt8.toNat_inj.1 h];simp
def NumOk (w:World) (b:Nat) (n:Bool) (N D:Nat) (K:Int) (e:Ending) (w':World):Prop:=∃v1 v2,e=.returned (.agg #[.bool n,v1,v2,.int .i64 K])∧IsT N v1 w'∧IsT D v2 w'∧w.grownBy w' (some b)
def NumNo (w:World) (b:Nat) (at0:Nat) (c:Int) (e:Ending) (w':World):Prop:=e=.panicked [{ v:=.iface 140 (.agg #[.int .i64 (at0:Int),.int .i64 c]),recovered:=false }]∧w.grownBy w' (some b)
end Go.Proofs.YtlibbociineppaaGreatDoor
end
