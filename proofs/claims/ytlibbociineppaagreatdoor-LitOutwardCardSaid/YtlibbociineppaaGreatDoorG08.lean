/- Layer 5: the document's find, behind, exponent, value. -/
import Derived.Test.YtlibbociineppaaGreatDoorG05
import Derived.Test.YtlibbociineppaaGreatDoorG07
namespace Go.Proofs.YtlibbociineppaaGreatDoor
set_option linter.unusedVariables false
set_option linter.unusedSimpArgs false
open Go.RowKit Verge
theorem bs_at (l:List UInt8) (i:Nat) (c:UInt8) (h:l[i]?=some c):∀hi:i<(bs l).size,(bs l)[i]'hi=c:=by
 intro hi
 obtain ⟨h1,h2⟩:=List.getElem?_eq_some_iff.1 h
 show (bs l).data[i]=c
 rw [←h2]
 simp [bs]
theorem bs_sub (d:List UInt8) (i j:Nat):(bs d).extract i j=bs ((d.drop i).take (j - i)):=by
 apply ByteArray.ext
 simp [bs,ByteArray.data_extract,List.extract_toArray,List.extract_eq_take_drop]
end Go.Proofs.YtlibbociineppaaGreatDoor
