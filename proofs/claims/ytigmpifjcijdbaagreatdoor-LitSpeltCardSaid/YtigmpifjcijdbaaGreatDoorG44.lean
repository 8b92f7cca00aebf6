/- Layer 5: the scientific form, by the document and by the program. -/
import Derived.Test.YtigmpifjcijdbaaGreatDoorG43
import Derived.Laws.DeepStrings4
import Derived.Test.YtigmpifjcijdbaaGreatDoorG24
section
namespace Go.Proofs.YtigmpifjcijdbaaGreatDoor
set_option linter.unusedVariables false
set_option linter.unusedSimpArgs false
open Go.RowKit Verge
theorem bs_cut (d:List UInt8) (i j:Nat):(bs d).extract i j=bs ((d.drop i).take (j - i)):=ByteArray.extract_mk d i j
set_option maxHeartbeats 1000000 in
theorem formp_any (neg:Bool) (d:List UInt8) (k:Int) (h1:1≤d.length) (h2:d.length≤9000) (hk : -9000≤k) (hk2:k≤9000) (w:World) (hP:Pow10 w):Calls Tryz.prog 67 #[.bool neg,.string (bs d),.int .i64 k] w fun e w'=>e=.returned (.string (bs (ftext neg d k)))∧Below w.heap.size w w':=by
 have HI:=Lib.hid (fun W (hW:Pow10 W)=>itoa5 ((d.length:Int) - 1+k) (by omega) (by omega) W hW)
 have HIL:=itoa_len ((d.length:Int) - 1+k) (by omega) (by omega)
 have HY:Hid (ftext neg d k=(if neg=true then [45] else [])++(d.take 1++(if 1<d.length then 46::d.drop 1 else []))++101::Lib.itoa ((d.length:Int) - 1+k)):=Lib.hid rfl
 have hc1:=bs_cut d 0 1
 have hc2:=bs_cut d 1 d.length
 rw [List.drop_zero,Nat.sub_zero] at hc1
 rw [List.take_of_length_le (by simp)] at hc2
 have hsz:=bs_size d
 obtain ⟨tx,htx⟩:∃t,ftext neg d k=t:=⟨_,rfl⟩
 rw [htx] at HY ⊢
 obtain ⟨J,hJ⟩:∃J,Lib.itoa ((d.length:Int) - 1+k)=J:=⟨_,rfl⟩
 rw [hJ] at HI HIL HY
 have l1:(d.take 1).length≤1:=by simp;omega
 have l2:(d.drop 1).length≤9000:=by simp;omega
 generalize d.take 1=p at *
 generalize d.drop 1=q at *
 obtain ⟨n,hn⟩:∃n,d.length=n:=⟨_,rfl⟩
 rw [hn] at HY hc2 hsz HI h1 h2
 generalize bs d=D at *
 have hbp:=bs_size p
 have hbq:=bs_size q
 have hbJ:=bs_size J
 have HPP:=Lib.hid hP
 clear htx hJ hn hP
 by_cases hl:1<n
 ·rw [if_pos hl] at HY
  have hlI:(1:Int)<n:=by omega
  cases neg
  ·have e0:({ data:=#[] }:ByteArray)=bs []:=rfl
   have z0:({ data:=#[] }:ByteArray).size+(bs p).size≤9223372036854775807:=by rw [e0];simp only [bs_append,bs_size,List.length_append,List.length_cons,List.length_nil];omega
   have z1:({ data:=#[46] }:ByteArray).size+(bs q).size≤9223372036854775807:=by rw [show ({ data:=#[46] }:ByteArray)=bs [46] from rfl];simp only [bs_append,bs_size,List.length_append,List.length_cons,List.length_nil];omega
   have z2:(({ data:=#[] }:ByteArray)++bs p).size+(({ data:=#[46] }:ByteArray)++bs q).size≤9223372036854775807:=by rw [show ({ data:=#[46] }:ByteArray)=bs [46] from rfl,e0];simp only [bs_append,bs_size,List.length_append,List.length_cons,List.length_nil];omega
   have z3:(({ data:=#[] }:ByteArray)++bs p++(({ data:=#[46] }:ByteArray)++bs q)).size+({ data:=#[101] }:ByteArray).size≤9223372036854775807:=by rw [show ({ data:=#[46] }:ByteArray)=bs [46] from rfl,show ({ data:=#[101] }:ByteArray)=bs [101] from rfl,e0];simp only [bs_append,bs_size,List.length_append,List.length_cons,List.length_nil];omega
   have z4:(({ data:=#[] }:ByteArray)++bs p++(({ data:=#[46] }:ByteArray)++bs q)++({ data:=#[101] }:ByteArray)).size+(bs J).size≤9223372036854775807:=by rw [show ({ data:=#[46] }:ByteArray)=bs [46] from rfl,show ({ data:=#[101] }:ByteArray)=bs [101] from rfl,e0];simp only [bs_append,bs_size,List.length_append,List.length_cons,List.length_nil];omega
   clear hbp hbq hbJ l1 l2 HIL e0
   go_enter Tryz.func67,Tryz.ntmps67
   go_wp2_with fail
   refine (HI.out _ HPP.out).mono ?_
   rintro e w1 ⟨rfl,hb⟩
   have HW:=Lib.hid hb
   clear hb
   go_wp2
   go_ret
   refine ⟨?_,HW.out⟩
   simp only [show ({ data:=#[46] }:ByteArray)=bs [46] from rfl,show ({ data:=#[101] }:ByteArray)=bs [101] from rfl,show ({ data:=#[] }:ByteArray)=bs [] from rfl,bs_append]
   rw [HY.out]
   simp
  ·have e0:({ data:=#[] }:ByteArray)=bs []:=rfl
   have z0:({ data:=#[45] }:ByteArray).size+(bs p).size≤9223372036854775807:=by rw [show ({ data:=#[45] }:ByteArray)=bs [45] from rfl];simp only [bs_append,bs_size,List.length_append,List.length_cons,List.length_nil];omega
   have z1:({ data:=#[46] }:ByteArray).size+(bs q).size≤9223372036854775807:=by rw [show ({ data:=#[46] }:ByteArray)=bs [46] from rfl];simp only [bs_append,bs_size,List.length_append,List.length_cons,List.length_nil];omega
   have z2:(({ data:=#[45] }:ByteArray)++bs p).size+(({ data:=#[46] }:ByteArray)++bs q).size≤9223372036854775807:=by rw [show ({ data:=#[45] }:ByteArray)=bs [45] from rfl,show ({ data:=#[46] }:ByteArray)=bs [46] from rfl];simp only [bs_append,bs_size,List.length_append,List.length_cons,List.length_nil];omega
   have z3:(({ data:=#[45] }:ByteArray)++bs p++(({ data:=#[46] }:ByteArray)++bs q)).size+({ data:=#[101] }:ByteArray).size≤9223372036854775807:=by rw [show ({ data:=#[45] }:ByteArray)=bs [45] from rfl,show ({ data:=#[46] }:ByteArray)=bs [46] from rfl,show ({ data:=#[101] }:ByteArray)=bs [101] from rfl];simp only [bs_append,bs_size,List.length_append,List.length_cons,List.length_nil];omega
   have z4:(({ data:=#[45] }:ByteArray)++bs p++(({ data:=#[46] }:ByteArray)++bs q)++({ data:=#[101] }:ByteArray)).size+(bs J).size≤9223372036854775807:=by rw [show ({ data:=#[45] }:ByteArray)=bs [45] from rfl,show ({ data:=#[46] }:ByteArray)=bs [46] from rfl,show ({ data:=#[101] }:ByteArray)=bs [101] from rfl];simp only [bs_append,bs_size,List.length_append,List.length_cons,List.length_nil];omega
   clear hbp hbq hbJ l1 l2 HIL e0
   go_enter Tryz.func67,Tryz.ntmps67
   go_wp2_with fail
   refine (HI.out _ HPP.out).mono ?_
   rintro e w1 ⟨rfl,hb⟩
   have HW:=Lib.hid hb
   clear hb
   go_wp2
   go_ret
   refine ⟨?_,HW.out⟩
   simp only [show ({ data:=#[45] }:ByteArray)=bs [45] from rfl,show ({ data:=#[46] }:ByteArray)=bs [46] from rfl,show ({ data:=#[101] }:ByteArray)=bs [101] from rfl,bs_append]
   rw [HY.out]
   simp
 ·rw [if_neg hl] at HY
  have hlI:¬(1:Int)<n:=by omega
  cases neg
  ·have e0:({ data:=#[] }:ByteArray)=bs []:=rfl
   have z0:({ data:=#[] }:ByteArray).size+(bs p).size≤9223372036854775807:=by rw [e0];simp only [bs_append,bs_size,List.length_append,List.length_cons,List.length_nil];omega
   have z1:(({ data:=#[] }:ByteArray)++bs p).size+({ data:=#[101] }:ByteArray).size≤9223372036854775807:=by rw [show ({ data:=#[101] }:ByteArray)=bs [101] from rfl,e0];simp only [bs_append,bs_size,List.length_append,List.length_cons,List.length_nil];omega
   have z2:(({ data:=#[] }:ByteArray)++bs p++({ data:=#[101] }:ByteArray)).size+(bs J).size≤9223372036854775807:=by rw [show ({ data:=#[101] }:ByteArray)=bs [101] from rfl,e0];simp only [bs_append,bs_size,List.length_append,List.length_cons,List.length_nil];omega
   clear hbp hbq hbJ l1 l2 HIL e0
   go_enter Tryz.func67,Tryz.ntmps67
   go_wp2_with fail
   refine (HI.out _ HPP.out).mono ?_
   rintro e w1 ⟨rfl,hb⟩
   have HW:=Lib.hid hb
   clear hb
   go_wp2
   go_ret
   refine ⟨?_,HW.out⟩
   simp only [show ({ data:=#[101] }:ByteArray)=bs [101] from rfl,show ({ data:=#[] }:ByteArray)=bs [] from rfl,bs_append]
   rw [HY.out]
   simp
  ·have e0:({ data:=#[] }:ByteArray)=bs []:=rfl
   have z0:({ data:=#[45] }:ByteArray).size+(bs p).size≤9223372036854775807:=by rw [show ({ data:=#[45] }:ByteArray)=bs [45] from rfl];simp only [bs_append,bs_size,List.length_append,List.length_cons,List.length_nil];omega
   have z1:(({ data:=#[45] }:ByteArray)++bs p).size+({ data:=#[101] }:ByteArray).size≤9223372036854775807:=by rw [show ({ data:=#[45] }:ByteArray)=bs [45] from rfl,show ({ data:=#[101] }:ByteArray)=bs [101] from rfl];simp only [bs_append,bs_size,List.length_append,List.length_cons,List.length_nil];omega
   have z2:(({ data:=#[45] }:ByteArray)++bs p++({ data:=#[101] }:ByteArray)).size+(bs J).size≤9223372036854775807:=by rw [show ({ data:=#[45] }:ByteArray)=bs [45] from rfl,show ({ data:=#[101] }:ByteArray)=bs [101] from rfl];simp only [bs_append,bs_size,List.length_append,List.length_cons,List.length_nil];omega
   clear hbp hbq hbJ l1 l2 HIL e0
   go_enter Tryz.func67,Tryz.ntmps67
   go_wp2_with fail
   refine (HI.out _ HPP.out).mono ?_
   rintro e w1 ⟨rfl,hb⟩
   have HW:=Lib.hid hb
   clear hb
   go_wp2
   go_ret
   refine ⟨?_,HW.out⟩
   simp only [show ({ data:=#[45] }:ByteArray)=bs [45] from rfl,show ({ data:=#[101] }:ByteArray)=bs [101] from rfl,bs_append]
   rw [HY.out]
   simp
end Go.Proofs.YtigmpifjcijdbaaGreatDoor
end

section
namespace Go.Proofs.YtigmpifjcijdbaaGreatDoor
set_option linter.unusedVariables false
set_option linter.unusedSimpArgs false
open Go.RowKit Verge
end Go.Proofs.YtigmpifjcijdbaaGreatDoor
end
