/- Layer 5: the document's value, whole, exponent, behind. -/
import Derived.Test.YtlibbociineppaaGreatDoorG08
import Derived.Laws.OwnMore
import Derived.Test.YtlibbociineppaaGreatDoorG07
import Derived.Test.YtlibbociineppaaGreatDoorG06
import Derived.Test.YtlibbociineppaaGreatDoorG22
import Derived.Test.YtlibbociineppaaGreatDoorG13
section
namespace Go.Proofs.YtlibbociineppaaGreatDoor
set_option linter.unusedVariables false
set_option linter.unusedSimpArgs false
open Go.RowKit Verge
end Go.Proofs.YtlibbociineppaaGreatDoor
end

section
namespace Go.Proofs.YtlibbociineppaaGreatDoor
set_option linter.unusedVariables false
set_option linter.unusedSimpArgs false
open Go.RowKit Verge
theorem Grow.at {w:World} {B g n cap:Nat} {xs:List Nat} (h:Grow w B (.slice (some ⟨g,0,none⟩) n cap) xs) (hn:xs.length=n) {j x:Nat} (hj:xs[j]?=some x) :
  w.cell? ⟨g,j,none⟩=some (.int .u32 (x:Int))∧w.frozen? ⟨g,j,none⟩=false:=by
 subst hn
 have hlt:j<xs.length:=by
  rw [List.getElem?_eq_some_iff] at hj;exact hj.1
 refine ⟨(World.ownsRow.cellAt h.2 j (by omega)).trans ?_,World.ownsRow.frozenAt h.2 j⟩
 rw [u32s_get,hj]
 rfl
theorem Grow.put {w:World} {B g n cap:Nat} {xs:List Nat} (h:Grow w B (.slice (some ⟨g,0,none⟩) n cap) xs) (hn:xs.length=n) (j v:Nat) (hv:v<4294967296) :
  Grow (w.setCell ⟨g,j,none⟩ (.int .u32 (v:Int))) B (.slice (some ⟨g,0,none⟩) n cap) (xs.set j v):=by
 subst hn
 refine ⟨h.1.set j hv,?_⟩
 have:=(World.ownsRow.stored h.2 j (.int .u32 (v:Int))).1
 rw [List.length_set]
 have e:(u32s xs).set j (.int .u32 (v:Int))=u32s (xs.set j v):=by simp [u32s,List.map_set]
 rw [e] at this
 exact this
theorem Grow.form {w:World} {B:Nat} {v:Value} {xs:List Nat} (h:Grow w B v xs) (hn:0<xs.length):∃g cap,v=.slice (some ⟨g,0,none⟩) xs.length cap∧xs.length≤cap∧cap≤maxLen∧B≤g∧g<w.heap.size:=by
 have hl:=World.ownsRow.lt h.2
 rcases h.2.2 with ⟨_,h0⟩ | ⟨g,cap,cur,rfl,hb,_,h1,h2,_⟩
 ·omega
 ·exact ⟨g,cap,rfl,h1,h2,hb,(hl g rfl).2⟩
end Go.Proofs.YtlibbociineppaaGreatDoor
end

section
namespace Go.Proofs.YtlibbociineppaaGreatDoor
set_option linter.unusedVariables false
set_option linter.unusedSimpArgs false
open Go.RowKit Verge
end Go.Proofs.YtlibbociineppaaGreatDoor
end

section
namespace Go.Proofs.YtlibbociineppaaGreatDoor
set_option linter.unusedVariables false
set_option linter.unusedSimpArgs false
open Go.RowKit Verge
end Go.Proofs.YtlibbociineppaaGreatDoor
end

section
namespace Go.Proofs.YtlibbociineppaaGreatDoor
set_option linter.unusedVariables false
set_option linter.unusedSimpArgs false
open Go Go.RowKit
section
variable {P:Program} {ops:Array Oper} {Φ:Nat→Value→World→Prop} {a0:Act} {w0:World} {Q:Exit→Act→World→Prop}
variable (hok:regOk ops a0.tmps.size=true) (hmono:∀i v w w',Below w.heap.size w w'→Φ i v w→Φ i v w') {front rest:List Oper} (hfr:ops.toList=front++rest) (heach:Each P ops Φ a0 w0 0 front)
include hok hmono hfr heach
end
end Go.Proofs.YtlibbociineppaaGreatDoor
end

section
namespace Go.Proofs.YtlibbociineppaaGreatDoor
set_option linter.unusedVariables false
set_option linter.unusedSimpArgs false
open Go.RowKit Verge
theorem IsRV.agg {p:Int} {q k:Nat} {v:Value} {w:World} (h:IsRV p q k v w):∃s A n c B m d,v=.agg #[.bool s,.slice A n c,.slice B m d]:=by
 obtain ⟨s,X,Y,⟨va,vb,hv,⟨A,c1,ha,hA⟩,⟨B,c2,hb,hB'⟩⟩,_⟩:=h
 exact ⟨s,A,_,c1,B,_,c2,by rw [hv,ha,hb]⟩
end Go.Proofs.YtlibbociineppaaGreatDoor
end

section
namespace Go.Proofs.YtlibbociineppaaGreatDoor
set_option linter.unusedVariables false
set_option linter.unusedSimpArgs false
open Go.RowKit Verge
end Go.Proofs.YtlibbociineppaaGreatDoor
end

section
namespace Go.Proofs.YtlibbociineppaaGreatDoor
set_option linter.unusedVariables false
set_option linter.unusedSimpArgs false
open Go.RowKit Verge
end Go.Proofs.YtlibbociineppaaGreatDoor
end

section
namespace Go.Proofs.YtlibbociineppaaGreatDoor
set_option linter.unusedVariables false
set_option linter.unusedSimpArgs false
open Go.RowKit Verge
end Go.Proofs.YtlibbociineppaaGreatDoor
end

section
namespace Go.Proofs.YtlibbociineppaaGreatDoor
set_option linter.unusedVariables false
set_option linter.unusedSimpArgs false
open Go.RowKit Verge
end Go.Proofs.YtlibbociineppaaGreatDoor
end
