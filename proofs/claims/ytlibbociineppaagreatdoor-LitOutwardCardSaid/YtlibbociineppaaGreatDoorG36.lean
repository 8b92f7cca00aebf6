/- Layer 5: Hex, by the program: the parts. -/
import Derived.Test.YtlibbociineppaaGreatDoorG35
import Derived.Test.YtlibbociineppaaGreatDoorG19
import Derived.Laws.DeepStrings4
import Derived.Test.YtlibbociineppaaGreatDoorG22
section
namespace Go.Proofs.YtlibbociineppaaGreatDoor
set_option linter.unusedVariables false
set_option linter.unusedSimpArgs false
open Go.RowKit Verge
def fwrong (b:Nat):Bool:=decide (9218868437227405312≤fabs b)
theorem wrong_any (b:Nat) (hb:b<18446744073709551616) (w:World):Calls Tryz.prog 33 #[.float .f64 b] w fun e w'=>e=.returned (.bool (fwrong b))∧w=w':=by
 have H1:=Lib.hid (fun W=>isnan_any b hb W)
 have H2:=Lib.hid (fun W=>isinf_0 b hb W)
 have he:fwrong b=(decide (fnan b)||decide (fabs b=9218868437227405312)):=by
  unfold fwrong
  rw [Bool.eq_iff_iff]
  simp only [Bool.or_eq_true,decide_eq_true_eq]
  unfold fnan fabs
  omega
 rw [he]
 cases e1:decide (fnan b)
 ·rw [e1] at H1
  obtain ⟨r,hr⟩:∃r,decide (fabs b=9218868437227405312)=r:=⟨_,rfl⟩
  rw [hr] at H2 ⊢
  clear e1 hr he hb
  go_enter Tryz.func33,Tryz.ntmps33
  go_wp2_with fail
  refine (H1.out _).mono ?_
  rintro e w1 ⟨rfl,rfl⟩
  go_wp2_with fail
  refine (H2.out _).mono ?_
  rintro e w1 ⟨rfl,rfl⟩
  go_wp2
  go_ret
  exact ⟨by simp,rfl⟩
 ·rw [e1] at H1
  clear e1 he hb H2
  go_enter Tryz.func33,Tryz.ntmps33
  go_wp2_with fail
  refine (H1.out _).mono ?_
  rintro e w1 ⟨rfl,rfl⟩
  go_wp2
  go_ret
  exact ⟨by simp,rfl⟩
theorem or52 (x:Nat) (hx:x<4503599627370496):x ||| 4503599627370496=x+4503599627370496:=by
 have:=Nat.two_pow_add_eq_or_of_lt (i:=52) (b:=x) hx 1
 rw [Nat.mul_one,show (2:Nat)^52=4503599627370496 by decide] at this
 rw [Nat.or_comm,←this];omega
set_option maxHeartbeats 1000000 in
theorem part_any (b:Nat) (hb:b<18446744073709551616) (w:World):Calls Tryz.prog 53 #[.float .f64 b] w fun e w'=>e=.returned (.tuple #[.int .u64 (fbF b:Nat),.int .i64 ((fbE b:Int) - 1074)])∧w=w':=by
 have h1:=bits_any b
 have e1:Go.bits .and .u64 ((b / 4503599627370496:Nat):Int) 2047=((b%9223372036854775808 / 4503599627370496:Nat):Int):=by
  have:=Go.u64_and_nat (b / 4503599627370496) 2047 (by omega) (by omega)
  rw [show (2047:Nat)=2^11 - 1 from rfl,Nat.and_two_pow_sub_one_eq_mod] at this
  have h2:b / 4503599627370496%2^11=b%9223372036854775808 / 4503599627370496:=by omega
  rw [h2] at this
  exact this
 have e2:Go.bits .and .u64 (b:Int) 4503599627370495=((b%4503599627370496:Nat):Int):=by
  have:=Go.u64_and_nat b 4503599627370495 hb (by omega)
  rw [show (4503599627370495:Nat)=2^52 - 1 from rfl,Nat.and_two_pow_sub_one_eq_mod] at this
  exact this
 have e1:Go.bits .and .u64 ((b:Int) / 4503599627370496) 2047=((b%9223372036854775808 / 4503599627370496:Nat):Int):=by
  rw [←e1];congr 1
 have hqf:∃Q F:Nat,b%9223372036854775808 / 4503599627370496=Q∧b%4503599627370496=F∧Q≤2047∧F<4503599627370496∧fbF b=(if Q=0 then F else F+4503599627370496)∧fbE b=Q - 1:=by
  refine ⟨_,_,rfl,rfl,by omega,by omega,?_,rfl⟩
  unfold fbF
  by_cases hl:b%9223372036854775808<4503599627370496
  ·rw [if_pos hl,if_pos (Nat.div_eq_of_lt hl)]
  ·rw [if_neg hl,if_neg (by omega)];omega
 obtain ⟨Q,F,hQ,hF,hQb,hFb,hfe,hee⟩:=hqf
 rw [hQ] at e1
 rw [hF] at e2
 rw [hfe,hee]
 have e3:Go.bits .or .u64 (F:Int) 4503599627370496=((F+4503599627370496:Nat):Int):=by
  have:=Go.u64_or_nat F 4503599627370496 (by omega) (by omega)
  rw [or52 F hFb] at this
  exact this
 have hbI:(0:Int)≤b:=by omega
 clear hQ hF hfe hee
 by_cases hq:Q=0
 ·subst hq
  rw [if_pos rfl]
  clear e3
  go_enter Tryz.func53,Tryz.ntmps53
  go_wp2
  go_ret2
  exact ⟨rfl,rfl⟩
 ·rw [if_neg hq]
  have hq1:(0:Int)<Q:=by omega
  have hs:((Q - 1:Nat):Int)=(Q:Int) - 1:=by omega
  rw [hs]
  clear hs hq
  go_enter Tryz.func53,Tryz.ntmps53
  go_wp2
  go_ret2
  exact ⟨rfl,rfl⟩
end Go.Proofs.YtlibbociineppaaGreatDoor
end

section
namespace Go.Proofs.YtlibbociineppaaGreatDoor
set_option linter.unusedVariables false
set_option linter.unusedSimpArgs false
open Go.RowKit Verge
theorem txt_pos {n:Nat} (h:0<n):txt n=Lib.decDigits n:=by unfold txt;rw [if_neg (by omega)]
theorem itoa_pos {n:Nat} (h:0<n):Lib.itoa (n:Int)=txt n:=by unfold Lib.itoa;rw [if_neg (by omega),txt_pos h];rfl
theorem itoa_neg (n:Nat):Lib.itoa (-((n:Int)+1))=45::txt (n+1):=by
 unfold Lib.itoa
 rw [if_pos (by omega),txt_pos (by omega),show (-((n:Int)+1)).natAbs=n+1 by omega]
theorem itoa_zero:Lib.itoa 0=[48]:=by
 unfold Lib.itoa
 rw [if_neg (by omega)]
 show Lib.decDigits 0=[48]
 rw [Lib.decDigits,dif_pos (by omega)]
 rfl
end Go.Proofs.YtlibbociineppaaGreatDoor
namespace Go.Proofs.YtlibbociineppaaGreatDoor
set_option linter.unusedVariables false
set_option linter.unusedSimpArgs false
open Go.RowKit Verge
theorem below_growS (w:World) (k:Nat) (os:Array Obj):Below w.heap.size w (Go.Sort.grow (w.drewN k) os):=
 ⟨rfl,rfl,rfl,by simp [Go.Sort.grow],fun i hi=>by simp [Go.Sort.grow,Array.getElem?_append,hi]⟩
def Pow10 (w:World):Prop:=Lib.TabIs Tryz.prog w "internal/strconv.uint64pow10" .u64 Lib.pow10Tab
theorem Pow10.below {w w':World} (h:Pow10 w) (hb:Below w.heap.size w w'):Pow10 w':=by
 unfold Pow10 Lib.TabIs World.var? at *
 cases hg:Tryz.prog.globalNamed "internal/strconv.uint64pow10" with
 | none=>simp [hg] at h
 | some g =>
  simp only [hg,Option.bind_some] at h ⊢
  have hl:g<w.heap.size:=by
   by_cases hr:g<w.heap.size
   ·exact hr
   ·rw [Array.getElem?_eq_none (by omega)] at h;cases h
  rw [hb.block g hl]
  exact h
theorem itoa5 (n:Int) (h0 : -9223372036854775808≤n) (h1:n≤9223372036854775807) (w:World) (h:Pow10 w):Calls Tryz.prog 52 #[.int .i64 n] w fun e w'=>e=.returned (.string (bs (Lib.itoa n)))∧Below w.heap.size w w':=by
 refine (Go.Proofs.Tryz.strconv_Itoa n h0 h1 w h).mono ?_
 rintro e w' ⟨rfl,k,os,rfl⟩
 exact ⟨rfl,below_growS w k os⟩
theorem fnan_w {b:Nat} (h:fwrong b=false):¬fnan b:=by
 have:=of_decide_eq_false h
 unfold fnan;unfold fabs at this;omega
theorem itoa_len (n:Int) (h0 : -9223372036854775808≤n) (h1:n≤9223372036854775807):(Lib.itoa n).length≤65:=by
 rcases Int.lt_trichotomy n 0 with h | h | h
 ·obtain ⟨m,hm⟩:=Int.eq_ofNat_of_zero_le (show 0 ≤ -(n+1) by omega)
  obtain rfl:n = -((m:Int)+1):=by omega
  rw [itoa_neg,List.length_cons]
  have:=txt_len (m+1)
  have:blen (m+1)≤64:=(blen_lt _ _).2 (by omega)
  omega
 ·subst h;rw [itoa_zero];simp
 ·obtain ⟨m,rfl⟩:=Int.eq_ofNat_of_zero_le (show 0≤n by omega)
  rw [itoa_pos (by omega)]
  have:=txt_len m
  have:blen m≤64:=(blen_lt _ _).2 (by omega)
  omega
end Go.Proofs.YtlibbociineppaaGreatDoor
end

section
namespace Go.Proofs.YtlibbociineppaaGreatDoor
set_option linter.unusedVariables false
set_option linter.unusedSimpArgs false
open Go.RowKit Verge
theorem bs_cut (d:List UInt8) (i j:Nat):(bs d).extract i j=bs ((d.drop i).take (j - i)):=ByteArray.extract_mk d i j
set_option maxHeartbeats 1000000 in
theorem formp_any (neg:Bool) (d:List UInt8) (k:Int) (h1:1≤d.length) (h2:d.length≤9000) (hk : -9000≤k) (hk2:k≤9000) (w:World) (hP:Pow10 w):Calls Tryz.prog 34 #[.bool neg,.string (bs d),.int .i64 k] w fun e w'=>e=.returned (.string (bs (ftext neg d k)))∧Below w.heap.size w w':=by
 have HI:=Lib.hid (fun W (hW:Pow10 W)=>itoa5 ((d.length:Int) - 1+k) (by omega) (by omega) W hW)
 have HIL:=itoa_len ((d.length:Int) - 1+k) (by omega) (by omega)
 have HY:Hid (ftext neg d k=(if neg=true then [45] else [])++(d.take 1++(if 1<d.length then 46::d.drop 1 else []))++101::Lib.itoa ((d.length:Int) - 1+k)):=Lib.hid rfl
 have hc1:=bs_cut d 0 1
 have hc2:=bs_cut d 1 d.length
 rw [List.drop_zero,Nat.sub_zero] at hc1
 rw [List.take_of_length_le (by simp)] at hc2
 have hsz:=bs_size d
 obtain ⟨tx,htx⟩:∃t,ftext neg d k=t:=⟨_,rfl⟩
 rw [htx] at HY ⊢
 obtain ⟨J,hJ⟩:∃J,Lib.itoa ((d.length:Int) - 1+k)=J:=⟨_,rfl⟩
 rw [hJ] at HI HIL HY
 have l1:(d.take 1).length≤1:=by simp;omega
 have l2:(d.drop 1).length≤9000:=by simp;omega
 generalize d.take 1=p at *
 generalize d.drop 1=q at *
 obtain ⟨n,hn⟩:∃n,d.length=n:=⟨_,rfl⟩
 rw [hn] at HY hc2 hsz HI h1 h2
 generalize bs d=D at *
 have hbp:=bs_size p
 have hbq:=bs_size q
 have hbJ:=bs_size J
 have HPP:=Lib.hid hP
 clear htx hJ hn hP
 by_cases hl:1<n
 ·rw [if_pos hl] at HY
  have hlI:(1:Int)<n:=by omega
  cases neg
  ·have e0:({ data:=#[] }:ByteArray)=bs []:=rfl
   have z0:({ data:=#[] }:ByteArray).size+(bs p).size≤9223372036854775807:=by rw [e0];simp only [bs_append,bs_size,List.length_append,List.length_cons,List.length_nil];omega
   have z1:({ data:=#[46] }:ByteArray).size+(bs q).size≤9223372036854775807:=by rw [show ({ data:=#[46] }:ByteArray)=bs [46] from rfl];simp only [bs_append,bs_size,List.length_append,List.length_cons,List.length_nil];omega
   have z2:(({ data:=#[] }:ByteArray)++bs p).size+(({ data:=#[46] }:ByteArray)++bs q).size≤9223372036854775807:=by rw [show ({ data:=#[46] }:ByteArray)=bs [46] from rfl,e0];simp only [bs_append,bs_size,List.length_append,List.length_cons,List.length_nil];omega
   have z3:(({ data:=#[] }:ByteArray)++bs p++(({ data:=#[46] }:ByteArray)++bs q)).size+({ data:=#[101] }:ByteArray).size≤9223372036854775807:=by rw [show ({ data:=#[46] }:ByteArray)=bs [46] from rfl,show ({ data:=#[101] }:ByteArray)=bs [101] from rfl,e0];simp only [bs_append,bs_size,List.length_append,List.length_cons,List.length_nil];omega
   have z4:(({ data:=#[] }:ByteArray)++bs p++(({ data:=#[46] }:ByteArray)++bs q)++({ data:=#[101] }:ByteArray)).size+(bs J).size≤9223372036854775807:=by rw [show ({ data:=#[46] }:ByteArray)=bs [46] from rfl,show ({ data:=#[101] }:ByteArray)=bs [101] from rfl,e0];simp only [bs_append,bs_size,List.length_append,List.length_cons,List.length_nil];omega
   clear hbp hbq hbJ l1 l2 HIL e0
   go_enter Tryz.func34,Tryz.ntmps34
   go_wp2_with fail
   refine (HI.out _ HPP.out).mono ?_
   rintro e w1 ⟨rfl,hb⟩
   have HW:=Lib.hid hb
   clear hb
   go_wp2
   go_ret
   refine ⟨?_,HW.out⟩
   simp only [show ({ data:=#[46] }:ByteArray)=bs [46] from rfl,show ({ data:=#[101] }:ByteArray)=bs [101] from rfl,show ({ data:=#[] }:ByteArray)=bs [] from rfl,bs_append]
   rw [HY.out]
   simp
  ·have e0:({ data:=#[] }:ByteArray)=bs []:=rfl
   have z0:({ data:=#[45] }:ByteArray).size+(bs p).size≤9223372036854775807:=by rw [show ({ data:=#[45] }:ByteArray)=bs [45] from rfl];simp only [bs_append,bs_size,List.length_append,List.length_cons,List.length_nil];omega
   have z1:({ data:=#[46] }:ByteArray).size+(bs q).size≤9223372036854775807:=by rw [show ({ data:=#[46] }:ByteArray)=bs [46] from rfl];simp only [bs_append,bs_size,List.length_append,List.length_cons,List.length_nil];omega
   have z2:(({ data:=#[45] }:ByteArray)++bs p).size+(({ data:=#[46] }:ByteArray)++bs q).size≤9223372036854775807:=by rw [show ({ data:=#[45] }:ByteArray)=bs [45] from rfl,show ({ data:=#[46] }:ByteArray)=bs [46] from rfl];simp only [bs_append,bs_size,List.length_append,List.length_cons,List.length_nil];omega
   have z3:(({ data:=#[45] }:ByteArray)++bs p++(({ data:=#[46] }:ByteArray)++bs q)).size+({ data:=#[101] }:ByteArray).size≤9223372036854775807:=by rw [show ({ data:=#[45] }:ByteArray)=bs [45] from rfl,show ({ data:=#[46] }:ByteArray)=bs [46] from rfl,show ({ data:=#[101] }:ByteArray)=bs [101] from rfl];simp only [bs_append,bs_size,List.length_append,List.length_cons,List.length_nil];omega
   have z4:(({ data:=#[45] }:ByteArray)++bs p++(({ data:=#[46] }:ByteArray)++bs q)++({ data:=#[101] }:ByteArray)).size+(bs J).size≤9223372036854775807:=by rw [show ({ data:=#[45] }:ByteArray)=bs [45] from rfl,show ({ data:=#[46] }:ByteArray)=bs [46] from rfl,show ({ data:=#[101] }:ByteArray)=bs [101] from rfl];simp only [bs_append,bs_size,List.length_append,List.length_cons,List.length_nil];omega
   clear hbp hbq hbJ l1 l2 HIL e0
   go_enter Tryz.func34,Tryz.ntmps34
   go_wp2_with fail
   refine (HI.out _ HPP.out).mono ?_
   rintro e w1 ⟨rfl,hb⟩
   have HW:=Lib.hid hb
   clear hb
   go_wp2
   go_ret
   refine ⟨?_,HW.out⟩
   simp only [show ({ data:=#[45] }:ByteArray)=bs [45] from rfl,show ({ data:=#[46] }:ByteArray)=bs [46] from rfl,show ({ data:=#[101] }:ByteArray)=bs [101] from rfl,bs_append]
   rw [HY.out]
   simp
 ·rw [if_neg hl] at HY
  have hlI:¬(1:Int)<n:=by omega
  cases neg
  ·have e0:({ data:=#[] }:ByteArray)=bs []:=rfl
   have z0:({ data:=#[] }:ByteArray).size+(bs p).size≤9223372036854775807:=by rw [e0];simp only [bs_append,bs_size,List.length_append,List.length_cons,List.length_nil];omega
   have z1:(({ data:=#[] }:ByteArray)++bs p).size+({ data:=#[101] }:ByteArray).size≤9223372036854775807:=by rw [show ({ data:=#[101] }:ByteArray)=bs [101] from rfl,e0];simp only [bs_append,bs_size,List.length_append,List.length_cons,List.length_nil];omega
   have z2:(({ data:=#[] }:ByteArray)++bs p++({ data:=#[101] }:ByteArray)).size+(bs J).size≤9223372036854775807:=by rw [show ({ data:=#[101] }:ByteArray)=bs [101] from rfl,e0];simp only [bs_append,bs_size,List.length_append,List.length_cons,List.length_nil];omega
   clear hbp hbq hbJ l1 l2 HIL e0
   go_enter Tryz.func34,Tryz.ntmps34
   go_wp2_with fail
   refine (HI.out _ HPP.out).mono ?_
   rintro e w1 ⟨rfl,hb⟩
   have HW:=Lib.hid hb
   clear hb
   go_wp2
   go_ret
   refine ⟨?_,HW.out⟩
   simp only [show ({ data:=#[101] }:ByteArray)=bs [101] from rfl,show ({ data:=#[] }:ByteArray)=bs [] from rfl,bs_append]
   rw [HY.out]
   simp
  ·have e0:({ data:=#[] }:ByteArray)=bs []:=rfl
   have z0:({ data:=#[45] }:ByteArray).size+(bs p).size≤9223372036854775807:=by rw [show ({ data:=#[45] }:ByteArray)=bs [45] from rfl];simp only [bs_append,bs_size,List.length_append,List.length_cons,List.length_nil];omega
   have z1:(({ data:=#[45] }:ByteArray)++bs p).size+({ data:=#[101] }:ByteArray).size≤9223372036854775807:=by rw [show ({ data:=#[45] }:ByteArray)=bs [45] from rfl,show ({ data:=#[101] }:ByteArray)=bs [101] from rfl];simp only [bs_append,bs_size,List.length_append,List.length_cons,List.length_nil];omega
   have z2:(({ data:=#[45] }:ByteArray)++bs p++({ data:=#[101] }:ByteArray)).size+(bs J).size≤9223372036854775807:=by rw [show ({ data:=#[45] }:ByteArray)=bs [45] from rfl,show ({ data:=#[101] }:ByteArray)=bs [101] from rfl];simp only [bs_append,bs_size,List.length_append,List.length_cons,List.length_nil];omega
   clear hbp hbq hbJ l1 l2 HIL e0
   go_enter Tryz.func34,Tryz.ntmps34
   go_wp2_with fail
   refine (HI.out _ HPP.out).mono ?_
   rintro e w1 ⟨rfl,hb⟩
   have HW:=Lib.hid hb
   clear hb
   go_wp2
   go_ret
   refine ⟨?_,HW.out⟩
   simp only [show ({ data:=#[45] }:ByteArray)=bs [45] from rfl,show ({ data:=#[101] }:ByteArray)=bs [101] from rfl,bs_append]
   rw [HY.out]
   simp
end Go.Proofs.YtlibbociineppaaGreatDoor
end

section
namespace Go.Proofs.YtlibbociineppaaGreatDoor
set_option linter.unusedVariables false
set_option linter.unusedSimpArgs false
open Go.RowKit Verge
end Go.Proofs.YtlibbociineppaaGreatDoor
end
