/- Layer 5: ratio, Exact, a row of bytes, letters, by the program. -/
import Derived.Test.YtigmpifjcijdbaaGreatDoorG18
import Derived.Test.YtigmpifjcijdbaaGreatDoorG43
import Derived.Test.YtigmpifjcijdbaaGreatDoorG44
import Derived.Test.YtigmpifjcijdbaaGreatDoorG09
import Derived.Laws.BytesArg
import Derived.Test.YtigmpifjcijdbaaGreatDoorG27
import Derived.Test.YtigmpifjcijdbaaGreatDoorG15
section
namespace Go.Proofs.YtigmpifjcijdbaaGreatDoor
set_option linter.unusedVariables false
set_option linter.unusedSimpArgs false
open Go.RowKit Verge
theorem ratio_any (b:Nat) (hb:b<18446744073709551616) (w:World):Calls Tryz.prog 69 #[.float .f64 b] w fun e w'=>∃v1 v2,e=.returned (.tuple #[v1,v2])∧IsT (fbF b*2^((fbE b:Int) - 1074).toNat) v1 w'∧IsT (2^(-((fbE b:Int) - 1074)).toNat) v2 w'∧Below w.heap.size w w':=by
 have H2:=Lib.hid (fun W=>part_any b hb W)
 have hF:=fbF_lt b
 have hE:fbE b≤2047:=by unfold fbE;omega
 generalize fbF b=F at *
 obtain ⟨E,hEE⟩:∃E:Int,(fbE b:Int) - 1074=E:=⟨_,rfl⟩
 rw [hEE] at H2 ⊢
 have hE1 : -1074≤E:=by omega
 have hE2:E≤1000:=by omega
 have hFb:blen F≤53:=(blen_lt _ _).2 (by omega)
 have H3:=Lib.hid (fun W=>nsmall_is (w:=W) F (by omega))
 have h1b:blen 1≤1:=(blen_lt _ _).2 (by decide)
 have HONE:=Lib.hid (fun (W:World)=>(Blk.new W #[.int .u32 1] [1] (W32.cons (by omega) W32.nil) (by simp [u32s])).rd)
 have hd1:dig 1=[1]:=dig_one
 clear hEE hE hb
 by_cases h0:0<E
 ·have e2:(-E).toNat=0:=by omega
  obtain ⟨x,hx⟩:=Int.eq_ofNat_of_zero_le (show 0≤E by omega)
  subst hx
  rw [e2,Nat.pow_zero,Int.toNat_natCast]
  have H4:=Lib.hid (fun W v (hv:IsT F v W)=>nshl_is (w:=W) x hv (by omega))
  clear e2 hFb h1b hF
  go_enter Tryz.func69,Tryz.ntmps69
  go_wp2_with fail
  refine (H2.out _).mono ?_
  rintro e w1 ⟨rfl,rfl⟩
  go_wp2_with fail
  refine (H3.out _).mono ?_
  rintro e w1 ⟨v,rfl,hv,hb⟩
  have HV:=Lib.hid (IsT.mono _ _ _ _ (rnew w1 (.cells #[.int .u32 1] 52)) hv)
  have HB:=Lib.hid (raft hb (rnew w1 (.cells #[.int .u32 1] 52)))
  clear hv hb
  go_wp2_with fail
  refine (H4.out _ _ HV.out).mono ?_
  rintro e w2 ⟨vt,rfl,⟨v2,v3,rfl,hv2,rfl⟩,hb2⟩
  have HV2:=Lib.hid hv2
  have HR:=Lib.hid ((HONE.out w1).below hb2)
  have HB:=Lib.hid (raft HB.out hb2)
  clear hv2 hb2
  go_wp2
  go_ret2
  refine ⟨_,_,rfl,HV2.out,⟨_,by rw [hd1];rfl,by rw [hd1];exact HR.out⟩,HB.out⟩
 ·have e2:E.toNat=0:=by omega
  obtain ⟨x,hx⟩:=Int.eq_ofNat_of_zero_le (show 0 ≤ -E by omega)
  rw [e2,Nat.pow_zero,Nat.mul_one,hx,Int.toNat_natCast]
  have H4:=Lib.hid (fun W v (hv:IsT 1 v W)=>nshl_is (w:=W) x hv (by omega))
  simp only [Nat.one_mul] at H4
  clear e2 hFb h1b hF
  go_enter Tryz.func69,Tryz.ntmps69
  go_wp2_with fail
  refine (H2.out _).mono ?_
  rintro e w1 ⟨rfl,rfl⟩
  go_wp2_with fail
  refine (H3.out _).mono ?_
  rintro e w1 ⟨v,rfl,hv,hb⟩
  have HV:=Lib.hid (IsT.mono _ _ _ _ (rnew w1 (.cells #[.int .u32 1] 52)) hv)
  have HB:=Lib.hid (raft hb (rnew w1 (.cells #[.int .u32 1] 52)))
  clear hv hb
  go_wp2_with fail
  refine (H4.out _ _ ⟨_,by rw [hd1];rfl,by rw [hd1];exact HONE.out w1⟩).mono ?_
  rintro e w2 ⟨vt,rfl,⟨v2,v3,rfl,hv2,rfl⟩,hb2⟩
  have HV2:=Lib.hid hv2
  have HV:=Lib.hid (IsT.mono _ _ _ _ hb2 HV.out)
  have HB:=Lib.hid (raft HB.out hb2)
  clear hv2 hb2
  go_wp2
  go_ret2
  exact ⟨_,_,rfl,HV.out,HV2.out,HB.out⟩
def Letters:Prop:=∀(N:Nat) (v:Value) (W:World),IsT N v W→0<N→blen N≤10000→Calls Tryz.prog 74 #[v] W fun e w'=>e=.returned (.string (bs (txt N)))∧Below W.heap.size W w'
theorem exactp_wrong (b:Nat) (hb:b<18446744073709551616) (h:fwrong b=true) (w:World):Calls Tryz.prog 52 #[.float .f64 b] w fun e w'=>e=.returned (.tuple #[.string (bs []),.int .i64 1])∧Below w.heap.size w w':=by
 have H1:=Lib.hid (fun W=>wrong_any b hb W)
 rw [h] at H1
 clear h hb
 go_enter Tryz.func52,Tryz.ntmps52
 go_wp2_with fail
 refine (H1.out _).mono ?_
 rintro e w1 ⟨rfl,rfl⟩
 go_wp2
 go_ret2
 exact ⟨rfl,Below.refl _ _⟩
theorem exactp_zero (b:Nat) (hb:b<18446744073709551616) (h:b=0∨b=9223372036854775808) (w:World):Calls Tryz.prog 52 #[.float .f64 b] w fun e w'=>e=.returned (.tuple #[.string (bs [48,101,48]),.int .i64 0])∧Below w.heap.size w w':=by
 have H1:=Lib.hid (fun W=>wrong_any b hb W)
 have e0:fwrong b=false:=by unfold fwrong fabs;refine decide_eq_false ?_;omega
 rw [e0] at H1
 have hz:(FloatKind.f64.format.order b 0==some .eq)=true:=(f_isz hb).trans (decide_eq_true h)
 clear h hb e0
 go_enter Tryz.func52,Tryz.ntmps52
 go_wp2_with fail
 refine (H1.out _).mono ?_
 rintro e w1 ⟨rfl,rfl⟩
 go_wp2
 go_ret2
 exact ⟨rfl,Below.refl _ _⟩
set_option maxRecDepth 20000 in
set_option maxHeartbeats 8000000 in
theorem exactp_num (b:Nat) (hb:b<18446744073709551616) (hw:fwrong b=false) (hF:fbF b≠0) (HLet:Letters) (A K:Nat) (hA:A=fbF b*2^((fbE b:Int) - 1074).toNat*5^(-((fbE b:Int) - 1074)).toNat) (hK:K=(-((fbE b:Int) - 1074)).toNat) (w:World) (hP:Pow10 w) :
  Calls Tryz.prog 52 #[.float .f64 b] w fun e w'=>e=.returned (.tuple #[.string (bs (ftext (decide (9223372036854775808≤b)) (txt (core A)) ((tz10 A:Int) - (K:Int)))),.int .i64 0])∧Below w.heap.size w w':=by
 have H1:=Lib.hid (fun W=>wrong_any b hb W)
 rw [hw] at H1
 have hA0:0<A:=(exact_law hF hA hK).1
 have H2:=Lib.hid (fun W=>ratio_any b hb W)
 have hb0:¬(b=0∨b=9223372036854775808):=by
  rintro (h | h) <;> (subst h;exact hF (by decide))
 have hz:(FloatKind.f64.format.order b 0==some .eq)=false:=(f_isz hb).trans (decide_eq_false hb0)
 obtain ⟨s,hs⟩:∃s,decide (9223372036854775808≤b)=s:=⟨_,rfl⟩
 have hlt:(FloatKind.f64.format.order b 0==some .lt)=s:=by
  refine (f_lt hb (by omega)).trans ?_
  rw [←hs]
  refine decide_eq_decide.2 ?_
  have e:FK 0=0:=rfl
  rw [e]
  have:=fnan_w hw
  constructor
  ·rintro ⟨_,_,h⟩;unfold FK at h;split at h <;> omega
  ·intro h;refine ⟨this,by decide,?_⟩;unfold FK;rw [if_neg (by omega)];omega
 rw [hs]
 have hFl:=fbF_blen b
 have hE:fbE b≤2047:=by unfold fbE;omega
 rw [←hK] at hA H2
 have hK1:K≤1074:=by omega
 have hX1:((fbE b:Int) - 1074).toNat≤1000:=by omega
 generalize ((fbE b:Int) - 1074).toNat=x at *
 generalize fbF b=F at *
 have hNb:blen (F*2^x)≤53+1001:=by
  refine blen_mul_le hFl ?_
  rw [blen_of _ _ (Nat.le_refl _) (Nat.pow_lt_pow_right (by omega) (by omega))];omega
 have h5b:=five_blen K
 have hAb:blen A≤9000:=by rw [hA];have:=blen_mul_le hNb h5b;omega
 have h2b:blen (2^K)=K+1:=blen_of _ _ (Nat.le_refl _) (Nat.pow_lt_pow_right (by omega) (by omega))
 have H3:=Lib.hid (fun W v (hv:IsT (2^K) v W)=>nlen_is (w:=W) hv (by omega))
 rw [h2b] at H3
 have HFIVE:=Lib.hid (fun (W:World)=>(Blk.new W #[.int .u32 5] [5] (W32.cons (by omega) W32.nil) (by simp [u32s])).rd)
 have hd5:dig 5=[5]:=by rw [dig_pos (by omega)];simp [dig_zero]
 have H4:=Lib.hid (fun W v (hv:IsT 5 v W)=>npow_is (w:=W) K hv ((blen_lt _ _).2 (Nat.lt_of_lt_of_le (show 5<2^3 by decide) (Nat.pow_le_pow_right (by omega) (by omega)))) (by omega) (by omega))
 have H5:=Lib.hid (fun W v u (hv:IsT (F*2^x) v W) (hu:IsT (5^K) u W)=>nmul_is (w:=W) hv hu (by omega) (by omega))
 rw [←hA] at H5
 have H6:=Lib.hid (fun W v (hv:IsT A v W)=>HLet A v W hv hA0 (by omega))
 have htl:(txt A).length≤9000:=Nat.le_trans (txt_len A) hAb
 have HPP:=Lib.hid hP
 clear hA hFl hNb h5b h2b hAb hs hb0 hw hF HLet hK hP
 go_enter Tryz.func52,Tryz.ntmps52
 go_wp2_with fail
 refine (H1.out _).mono ?_
 rintro e w1 ⟨rfl,rfl⟩
 go_wp2_with fail
 refine (H2.out _).mono ?_
 rintro e w1 ⟨v1,v2,rfl,hv1,hv2,hb1⟩
 have HV1:=Lib.hid hv1
 have HV2:=Lib.hid hv2
 have HB:=Lib.hid hb1
 clear hv1 hv2 hb1 hz H1 H2
 go_wp2_with fail
 refine (H3.out _ _ HV2.out).mono ?_
 rintro e w2 ⟨_,rfl,rfl,hb2⟩
 have HV1:=Lib.hid (IsT.mono _ _ _ _ hb2 HV1.out)
 have HB:=Lib.hid (raft HB.out hb2)
 clear hb2 H3
 go_wp2_with fail
 refine (H4.out _ _ ⟨_,by rw [hd5];rfl,by rw [hd5];exact HFIVE.out w2⟩).mono ?_
 rintro e w3 ⟨_,rfl,⟨u1,u2,rfl,hu1,rfl⟩,hb3⟩
 have HU:=Lib.hid hu1
 have HV1:=Lib.hid (IsT.mono _ _ _ _ (raft (rnew w2 _) hb3) HV1.out)
 have HB:=Lib.hid (raft HB.out (raft (rnew w2 _) hb3))
 clear hu1 hb3 H4
 go_wp2_with fail
 refine (H5.out _ _ _ HV1.out HU.out).mono ?_
 rintro e w4 ⟨_,rfl,⟨u3,u4,rfl,hu3,rfl⟩,hb4⟩
 have HU:=Lib.hid hu3
 have HB:=Lib.hid (raft HB.out hb4)
 clear hu3 hb4 H5
 go_wp2_with fail
 refine (H6.out _ _ HU.out).mono ?_
 rintro e w5 ⟨rfl,hb5⟩
 have HB:=Lib.hid (raft HB.out hb5)
 clear hb5 H6
 have hsz0:(bs (txt A)).size=(txt A).length:=bs_size _
 obtain ⟨LB,hLB⟩:∃LB,(txt A).length=LB:=⟨_,rfl⟩
 rw [hLB] at hsz0 htl
 have HLB:=Lib.hid hLB
 obtain ⟨S,hS⟩:∃S,bs (txt A)=S:=⟨_,rfl⟩
 rw [hS] at hsz0 ⊢
 have HS:=Lib.hid hS
 obtain ⟨LBI,hLBI⟩:∃LBI:Int,(LB:Int)=LBI:=⟨_,rfl⟩
 have HLT:=Lib.hid (And.intro htl hLBI)
 have hszA:(S.size:Int)=LBI:=by rw [hsz0];exact hLBI
 clear hsz0 hS hLB hLBI htl
 go_upto_region 11 with fail
 go_loopg [12] A (fun m nv wr=>∃(t L:Nat) (rest:List UInt8) (nI:Int),nv=.int .i64 nI∧w5=wr∧Hid (nI=(L:Int)+1∧(txt (m / 10)).length=L∧0<m∧core m=core A∧tz10 m+t=tz10 A∧t+(L+1)=LB∧txt A=txt m++rest))
 case atStart =>
  have h1:=txt_step hA0
  have h2:(txt A).length=(txt (A / 10)).length+1:=by rw [h1,List.length_append];rfl
  exact ⟨0,_,[],_,rfl,rfl,by have:=HLB.out;have:=HLT.out;omega,rfl,hA0,rfl,by omega,by have:=HLB.out;omega,by simp⟩
 case round =>
  obtain ⟨t,L,rest,nI,rfl,rfl,hI⟩:=hrel
  obtain ⟨m,hm⟩:∃m,gk=m:=⟨_,rfl⟩
  simp only [hm] at *
  obtain ⟨i0,iL,i1,i2,i3,i4,i5⟩:=hI.out
  have hst:=txt_step i1
  obtain ⟨c,hc⟩:∃c,UInt8.ofNat (48+m%10)=c:=⟨_,rfl⟩
  rw [hc] at hst
  have hx:∀h:L<S.size,S[L]'h=c:=by
   intro h
   have hd:S.data.toList=txt (m / 10)++[c]++rest:=by rw [←HS.out,bs_list,i5,hst]
   show S.data[L]=c
   rw [←Array.getElem_toList]
   simp only [hd]
   simp [←iL]
  have hnI:nI - 1=(L:Int):=by omega
  have htl:=HLT.out.1
  have hLBI:=HLT.out.2
  have hLb:(L:Int)<LBI:=by omega
  have hn1:0<nI:=by omega
  have hn2:nI≤9000:=by omega
  have hn3:nI≤LBI:=by omega
  have hn4:LBI≤9000:=by omega
  by_cases h0:m%10=0
  ·have hc48:c=48:=by rw [←hc,h0];rfl
   subst hc48
   have HN:Hid (0<m / 10∧core (m / 10)=core A∧tz10 (m / 10)+(t+1)=tz10 A∧txt A=txt (m / 10)++([48]++rest)):=Lib.hid
    ⟨by omega,by rw [←i2,core_step i1 h0],by rw [←i3,tz10_step i1 h0];omega,by rw [i5,hst,List.append_assoc]⟩
   have hL2:(txt (m / 10 / 10)).length+1=L:=by
    rw [←iL,txt_step HN.out.1,List.length_append];rfl
   have HL2:=Lib.hid (show nI - 1=((txt (m / 10 / 10)).length:Int)+1∧(t+1)+((txt (m / 10 / 10)).length+1)=LB by omega)
   clear hst hI i0 iL i1 i2 i3 i4 i5 hm hL2 htl hLBI
   go_wp2
   go_roundg (m / 10)
   case measure=>have:=HN.out.1;omega
   case rel=>exact ⟨t+1,_,_,_,rfl,rfl,by have:=HL2.out.1;omega,rfl,HN.out.1,HN.out.2.1,HN.out.2.2.1,HL2.out.2,HN.out.2.2.2⟩
  ·have hne:¬(c.toNat:Int)=48:=by
    rw [←hc]
    intro e
    have h1:(UInt8.ofNat (48+m%10)).toNat=48+m%10:=by simp;omega
    omega
   have hml:(txt m).length=L+1:=by rw [hst,List.length_append,iL];rfl
   have hcut:S.extract 0 nI.toNat=bs (txt m):=by
    rw [show nI.toNat=L+1 by omega,←HS.out,bs_cut,List.drop_zero,Nat.sub_zero,i5,←hml,List.take_left]
   have hkt:LBI - nI - K=(t:Int) - K:=by omega
   have HF:=Lib.hid (fun W (hW:Pow10 W)=>formp_any s (txt m) ((t:Int) - K) (by omega) (by omega) (by omega) (by omega) W hW)
   have e1:core A=m:=by rw [←i2,core_end h0]
   have e2:(tz10 A:Int) - K=(t:Int) - K:=by rw [tz10_end h0] at i3;omega
   have HE:Hid (ftext s (txt m) ((t:Int) - K)=ftext s (txt (core A)) ((tz10 A:Int) - K)):=Lib.hid (by rw [e1,e2])
   obtain ⟨D,hD⟩:∃D,bs (txt m)=D:=⟨_,rfl⟩
   rw [hD] at hcut
   simp only [hD] at HF
   obtain ⟨kI,hkI⟩:∃kI,(t:Int) - K=kI:=⟨_,rfl⟩
   rw [hkI] at hkt HF HE
   clear hst hI i0 iL i1 i2 i3 i4 i5 hm e1 e2 hc hD hkI hml htl hLBI
   go_wp2_with fail
   refine (HF.out _ (HPP.out.below HB.out)).mono ?_
   rintro e w6 ⟨rfl,hb6⟩
   have HB:=Lib.hid (raft HB.out hb6)
   clear hb6
   go_wp2
   go_ret2
   refine ⟨?_,HB.out⟩
   rw [←HE.out]
   simp
def b8s (xs:List UInt8):List Value:=xs.map fun x=>.int .u8 (x.toNat:Int)
theorem b8s_get (xs:List UInt8) (i:Nat):(b8s xs)[i]?=(xs[i]?).map fun x=>.int .u8 (x.toNat:Int):=by simp [b8s]
def GrowB (w:World) (B:Nat) (v:Value) (xs:List UInt8):Prop:=w.ownsRow B 5 1 v xs.length (b8s xs)
theorem GrowB.nil (w:World) (B:Nat):GrowB w B (.slice none 0 0) []:=World.ownsRow_nil w B _ 1
theorem GrowB.lt {w:World} {B:Nat} {v:Value} {xs:List UInt8} (h:GrowB w B v xs):∀k,v.ownBlock=some k→B≤k:=fun k hk=>(World.ownsRow.lt h k hk).1
theorem GrowB.alloc {w:World} {B:Nat} {v:Value} {xs:List UInt8} (h:GrowB w B v xs) (o:Obj):GrowB (w.alloc o) B v xs:=World.ownsRow.alloc h o
theorem Tryz.info5:(Tryz.prog.info? 5).map (fun i=>(i.zero,i.size,i.bytes))=some (some (.int .u8 0),1,1):=by kernel_rfl
theorem own_grown {W w':World} {B g:Nat} {v:Value} {xs:List UInt8} {A':Option Addr} {ys:List Nat} {o:Obj} (hO:Own W g A' ys) (hown:GrowB W B v xs) (h2:(W.alloc o).grownBy w' v.ownBlock):Own w' g A' ys:=by
 refine ⟨hO.1,fun hne => ?_⟩
 obtain ⟨e,cs,hg,ht⟩:=hO.2 hne
 refine ⟨e,cs,?_,ht⟩
 have hlt:g<W.heap.size:=by
  by_cases h:g<W.heap.size
  ·exact h
  ·rw [Array.getElem?_eq_none (by omega)] at hg;cases hg
 have h3:(W.alloc o).heap[g]?=W.heap[g]?:=(rnew W o).block g hlt
 rw [h2.block g (by simp;omega) ?_,h3]
 ·exact hg
 ·rcases hown.2 with ⟨rfl,_⟩ | ⟨g',cap',cur',rfl,_,hg',_⟩
  ·simp [Value.ownBlock]
  ·simp only [Value.ownBlock,ne_eq,Option.some.injEq]
   intro eq
   subst eq
   rw [hg] at hg'
   simp at hg'
theorem wpList_pushB {w:World} {ops:Array Oper} {rest:List Oper} {o:Oper} {a:Act} {Q:Exit→Act→World→Prop} (hgd:o.guard=none) (s x:Operand)
  (ho:o.op=.call { callee:=.builtin .append,args:=#[s,x],argTypes:=#[58,58] })
  (B:Nat) (v:Value) (xs:List UInt8) (hs:a.eval s=v) (W:World) (zI:Int) (z:UInt8) (hw:w=W.alloc (.cells #[.int .u8 zI] 5)) (hz:(z.toNat:Int)=zI) (hown:GrowB W B v xs)
  (hx:a.eval x=.slice (some ⟨W.heap.size,0,none⟩) 1 1) (hb:xs.length+1≤35184372088832) (hB:B≤W.heap.size) (A:World) (hA:Below B A W)
  (h:∀v' w',GrowB w' B v' (xs++[z])→Below B A w'→(∀g A' ys,Own W g A' ys→Own w' g A' ys)→wpList Tryz.prog ops Q rest (a.put o.dst v') w'):wpList Tryz.prog ops Q (o::rest) a w:=by
 subst hw hz
 obtain ⟨i0,hi,hz0,hz1,hz2⟩:=info_parts Tryz.info5
 refine wpList_append_own _ hgd s x 58 ho B 5 i0 (.int .u8 0) 1 1 Tryz.underlying58 hi hz0 hz1 hz2 rfl (by decide) v xs.length (b8s xs) hs (hown.alloc _)
  ⟨W.heap.size,0,none⟩ 1 1 [.int .u8 (z.toNat:Int)] hx rfl ?_ (by intro u hu;simp at hu;subst hu;rfl) (by unfold maxLen;omega) (by omega) (by simp;omega) ?_
 ·intro j u hu
  rcases j with _ | j
  ·simp at hu;subst hu
   rw [Addr.add,if_pos rfl]
   simp [World.cell?_alloc_new]
  ·simp at hu
 ·intro v' w' h1 h2 _
  refine h v' w' ?_ ?_ ?_
  ·show World.ownsRow _ _ _ _ _ _ _
   rw [List.length_append]
   have e:b8s (xs++[z])=b8s xs++[.int .u8 (z.toNat:Int)]:=by simp [b8s]
   rw [e];exact h1
  ·exact (hA.alloc hB _).grown h2 (by simp;omega) (fun k hk=>hown.lt k hk)
  ·exact fun g A' ys hO=>own_grown hO hown h2
theorem GrowB.later {w w':World} {B:Nat} {v:Value} {xs:List UInt8} (h:GrowB w B v xs) (hb:Below w.heap.size w w'):GrowB w' B v xs:=
 World.ownsRow.kept (row:=none) h ⟨hb.os,hb.tape,hb.output,hb.size,fun k hk _=>hb.block k hk⟩ (by cases hv:v.ownBlock with | none=>exact .inl rfl | some k=>exact .inr (by simp))
theorem GrowB.form {w:World} {B:Nat} {v:Value} {xs:List UInt8} (h:GrowB w B v xs) (hn:0<xs.length):∃g cap,v=.slice (some ⟨g,0,none⟩) xs.length cap∧xs.length≤cap∧cap≤maxLen∧B≤g∧g<w.heap.size:=by
 have hl:=World.ownsRow.lt h
 rcases h.2 with ⟨_,h0⟩ | ⟨g,cap,cur,rfl,hb,_,h1,h2,_⟩
 ·omega
 ·exact ⟨g,cap,rfl,h1,h2,hb,(hl g rfl).2⟩
theorem GrowB.at {w:World} {B g n cap:Nat} {xs:List UInt8} (h:GrowB w B (.slice (some ⟨g,0,none⟩) n cap) xs) (hn:xs.length=n) {j:Nat} {c:UInt8} (hj:xs[j]?=some c) :
  w.cell? ⟨g,j,none⟩=some (.int .u8 (c.toNat:Int))∧w.frozen? ⟨g,j,none⟩=false:=by
 subst hn
 have hlt:j<xs.length:=by
  rw [List.getElem?_eq_some_iff] at hj;exact hj.1
 refine ⟨(World.ownsRow.cellAt h j (by omega)).trans ?_,World.ownsRow.frozenAt h j⟩
 rw [b8s_get,hj]
 rfl
theorem GrowB.put {w:World} {B g n cap:Nat} {xs:List UInt8} (h:GrowB w B (.slice (some ⟨g,0,none⟩) n cap) xs) (hn:xs.length=n) (j:Nat) (c:UInt8) :
  GrowB (w.setCell ⟨g,j,none⟩ (.int .u8 (c.toNat:Int))) B (.slice (some ⟨g,0,none⟩) n cap) (xs.set j c):=by
 subst hn
 show World.ownsRow _ _ _ _ _ _ _
 have:=(World.ownsRow.stored h j (.int .u8 (c.toNat:Int))).1
 rw [List.length_set]
 have e:(b8s xs).set j (.int .u8 (c.toNat:Int))=b8s (xs.set j c):=by simp [b8s,List.map_set]
 rw [e] at this
 exact this
theorem bytes_back:((fun n:Int=>UInt8.ofNat n.toNat) ∘ fun x:UInt8=>(x.toNat:Int))=id:=by funext x;simp
theorem convN (w:World) (b off n cap:Nat) (xs:List UInt8) (hn:xs.length=n) (h:∀(i:Nat) (c:UInt8),xs[i]?=some c→w.cell? ⟨b,off+i,none⟩=some (.int .u8 (c.toNat:Int))):(convert 58 9 (.slice (some ⟨b,off,none⟩) n cap)).run Tryz.prog w=.ok (.string (bs xs)) w:=by
 subst hn
 have:=run_convert_bytes_arg (P:=Tryz.prog) w 58 5 Tryz.underlying58 Tryz.underlying5 b off xs.length cap (xs.map fun x=>(x.toNat:Int)) (by simp) (fun i hi=>by
  have:=h i xs[i] (List.getElem?_eq_getElem hi)
  rw [List.getD_eq_getElem?_getD,List.getElem?_map,List.getElem?_eq_getElem hi]
  exact this) 9 Tryz.underlying9
 rw [this]
 simp only [strOfNums,bs,List.map_map,bytes_back,List.map_id]
set_option maxRecDepth 20000 in
set_option maxHeartbeats 8000000 in
theorem letters_any:Letters:=by
 intro N v w hv hN0 hNb
 have HV:=Lib.hid hv
 have htN:(txt N).length≤10000:=Nat.le_trans (txt_len N) hNb
 have HTEN:=Lib.hid (fun (W:World)=>(Blk.new W #[.int .u32 1000000000] [1000000000] (W32.cons (by omega) W32.nil) (by simp [u32s])).rd)
 have hd10:dig 1000000000=[1000000000]:=by rw [dig_pos (by omega)];simp [dig_zero]
 have HT:=Lib.hid (And.intro hN0 (And.intro hNb htN))
 clear hv hN0 hNb htN
 go_enter Tryz.func74,Tryz.ntmps74
 go_wp2
 go_loopg [0,3] N (fun n av ov wr=>∃o:List UInt8,Hid (n≤N∧IsT n av wr∧GrowB wr w.heap.size ov o∧txt n++o.reverse=txt N∧Below w.heap.size w wr))
 case atStart=>exact ⟨[],Nat.le_refl _,HV.out,GrowB.nil _ _,by simp,Below.refl _ _⟩
 case round =>
  clear HV
  obtain ⟨o,hI⟩:=hrel
  obtain ⟨n,hn⟩:∃n,gk=n:=⟨_,rfl⟩
  simp only [hn] at *
  obtain ⟨i1,⟨A,rfl,hR⟩,i3,i4,i5⟩:=hI.out
  have HR:=Lib.hid hR
  have hbn:blen n≤10000:=Nat.le_trans ((blen_lt _ _).2 (Nat.lt_of_le_of_lt i1 ((blen_lt _ _).1 (Nat.le_refl _)))) HT.out.2.1
  rcases Nat.eq_zero_or_pos n with h0 | h0
  ·have HO:=Lib.hid (And.intro i3 i5)
   have ho:o.reverse=txt N:=by rw [h0,txt_zero] at i4;exact i4
   have HOR:=Lib.hid ho
   have hl0:(dig n).length=0:=by rw [h0,dig_zero];rfl
   rw [hl0]
   clear hI i1 i3 i4 i5 hbn hR ho hn
   have hoN:o≠[]:=by
    rintro rfl
    have h1:=HOR.out
    have h2:=HT.out.1
    rw [List.reverse_nil] at h1
    have:=txt_some h2
    rw [←h1] at this
    simp at this
   have hol:0<o.length:=List.length_pos_iff.2 hoN
   have hoL:o.length≤10000:=by
    have h1:=HOR.out
    have h2:=HT.out.2.2
    rw [←h1,List.length_reverse] at h2
    exact h2
   obtain ⟨g,cap,rfl,hc1,hc2,hg1,hg2⟩:=HO.out.1.form hol
   obtain ⟨L,hL⟩:∃L,o.length=L:=⟨_,rfl⟩
   have HL:=Lib.hid hL
   rw [hL] at HO hol hoL hc1 ⊢
   have HGG:=Lib.hid hg1
   unfold maxLen at hc2
   clear hoN hL hg1 hg2
   go_upto_region 12 with fail
   obtain ⟨wo,rfl⟩:∃wo:World,wo=wr:=⟨_,rfl⟩
   go_loopw [10,11] (fun iv jv wr=>∃(i:Nat) (jI:Int) (l:List UInt8),iv=.int .i64 (i:Int)∧jv=.int .i64 jI∧i≤L∧jI=(L:Int) - 1 - i∧Hid (GrowB wr w.heap.size (.slice (some ⟨g,0,none⟩) L cap) l∧l.length=L∧Below w.heap.size w wr∧∀k:Nat,k<L→l[k]?=if k<i∨L - 1 - k<i then o[L - 1 - k]? else o[k]?)) (fun iv _ _=>L - (intOf iv).toNat)
   case atStart=>exact ⟨0,_,o,rfl,rfl,by omega,by omega,HO.out.1,HL.out,HO.out.2,fun k hk=>by rw [if_neg (by omega)]⟩
   case round =>
    clear HO HR
    obtain ⟨i,jI,l,rfl,rfl,hiL,hj,hI⟩:=hrel
    by_cases hij:(i:Int)<jI
    ·obtain ⟨j,rfl⟩:=Int.eq_ofNat_of_zero_le (show 0≤jI by omega)
     have hjN:j=L - 1 - i:=by omega
     obtain ⟨h1,h2,h3,h4⟩:=hI.out
     have hli:=h4 i (by omega)
     have hlj:=h4 j (by omega)
     obtain ⟨ci,hci⟩:∃c,l[i]?=some c:=⟨_,List.getElem?_eq_getElem (by omega)⟩
     obtain ⟨cj,hcj⟩:∃c,l[j]?=some c:=⟨_,List.getElem?_eq_getElem (by omega)⟩
     obtain ⟨k1,k2⟩:=h1.at h2 hci
     obtain ⟨k3,k4⟩:=h1.at h2 hcj
     have HG1:=Lib.hid ((h1.put h2 i cj).put (by rw [List.length_set];exact h2) j ci)
     have HB1:=Lib.hid ((h3.setCell HGG.out (Value.int .u8 (cj.toNat:Int)) (p:=⟨g,i,none⟩)).setCell HGG.out (Value.int .u8 (ci.toNat:Int)) (p:=⟨g,j,none⟩))
     have HP:=Lib.hid (show ∀k:Nat,k<L→((l.set i cj).set j ci)[k]?=if k<i+1∨L - 1 - k<i+1 then o[L - 1 - k]? else o[k]? by
      intro k hk
      have hk4:=h4 k hk
      rw [if_neg (by omega),hci] at hli
      rw [if_neg (by omega),hcj] at hlj
      rw [List.getElem?_set,List.getElem?_set]
      by_cases e1:j=k
      ·subst e1
       rw [if_pos rfl,if_pos (by rw [List.length_set];omega),if_pos (by omega),show L - 1 - j=i by omega]
       exact hli
      ·rw [if_neg e1]
       by_cases e2:i=k
       ·subst e2
        rw [if_pos rfl,if_pos (by omega),if_pos (by omega),show L - 1 - i=j by omega]
        exact hlj
       ·rw [if_neg e2,hk4]
        by_cases e3:k<i∨L - 1 - k<i
        ·rw [if_pos e3,if_pos (by omega)]
        ·rw [if_neg e3,if_neg (by omega)])
     have HLL:=Lib.hid (show ((l.set i cj).set j ci).length=L by rw [List.length_set,List.length_set];exact h2)
     have hne:i≠j:=by omega
     have hiL2:(i:Int)<(L:Int):=by omega
     have hjL2:(j:Int)<(L:Int):=by omega
     have HJ:=Lib.hid hj
     clear hI h1 h2 h3 h4 hli hlj hci hcj hjN hj
     go_upto_region 14 with fail
     go_region
     go_wp2
     go_roundw
     case rel=>exact ⟨i+1,(j:Int) - 1,_,by go_num,rfl,by omega,by have:=HJ.out;omega,HG1.out,HLL.out,below_drewN HB1.out 1,HP.out⟩
     case measure=>simp [intOf];omega
    ·obtain ⟨h1,h2,h3,h4⟩:=hI.out
     have hle:l=o.reverse:=by
      apply List.ext_getElem?
      intro k
      by_cases hk:k<L
      ·rw [h4 k hk,List.getElem?_reverse (by rw [HL.out];exact hk),HL.out]
       by_cases e:k<i∨L - 1 - k<i
       ·rw [if_pos e]
       ·rw [if_neg e,show L - 1 - k=k by omega]
      ·rw [List.getElem?_eq_none (by omega),List.getElem?_eq_none (by rw [List.length_reverse,HL.out];omega)]
     have hcv:=convN wr g 0 L cap l h2 (fun i c hc=>by rw [Nat.zero_add];exact (h1.at h2 hc).1)
     rw [hle,HOR.out] at hcv
     have HB:=Lib.hid h3
     clear h1 h2 h3 h4 hI hle
     go_wp2
     go_ret
     exact ⟨rfl,HB.out⟩
  ·have hd0:0<((dig n).length:Int):=by have:=dig_length_pos (show n≠0 by omega);omega
   have HQ:=Lib.hid (fun W v u (hv:IsT n v W) (hu:IsT 1000000000 u W)=>nquo_own (w:=W) hv hu (by omega) (Nat.le_trans (show blen 1000000000≤30 from (blen_lt _ _).2 (by decide)) (by omega)) (by omega))
   obtain ⟨q,hq⟩:∃q,n / 1000000000=q:=⟨_,rfl⟩
   obtain ⟨r,hr⟩:∃r,n%1000000000=r:=⟨_,rfl⟩
   simp only [hq,hr] at HQ
   have hr9:r<1000000000:=by omega
   have HWd:=Lib.hid (fun W v (hv:IsT r v W)=>nword_is (w:=W) hv (by omega))
   have HN:=Lib.hid (show q<n∧q≤N∧txt (chunk q r 9)++o.reverse=txt N from ⟨by omega,by omega,by rw [←hq,←hr,chunk_all];exact i4⟩)
   have HO:=Lib.hid (And.intro i3 i5)
   obtain ⟨m,hm⟩:∃m,(dig n).length=m:=⟨_,rfl⟩
   have hARG:IsT n (.slice A m m) wr:=⟨A,by rw [hm],hR⟩
   have HARG:=Lib.hid hARG
   rw [hm] at hd0 ⊢
   clear hI i1 i3 i4 i5 hbn hR hn hq hr hm HR hARG
   go_wp2_with fail
   refine (HQ.out _ _ _ (IsT.mono _ _ _ _ (rnew wr _) HARG.out) ⟨_,by rw [hd10];rfl,by rw [hd10];exact HTEN.out wr⟩).mono ?_
   rintro e w1 ⟨g1,A1,A2,rfl,hO1,hv2,hb1⟩
   have HB1:=Lib.hid (raft (rnew wr _) hb1)
   have HV2:=Lib.hid hv2
   have HO1:=Lib.hid hO1
   clear hO1 hv2 hb1 HQ HARG
   go_wp2_with fail
   refine (HWd.out _ _ HV2.out).mono ?_
   rintro e w2 ⟨_,rfl,rfl,hb2⟩
   have HO1:=Lib.hid (HO1.out.later hb2)
   have HG:=Lib.hid ((HO.out.1.later HB1.out).later hb2)
   have HW:=Lib.hid (HO.out.2.trans ((raft HB1.out hb2).mono HO.out.2.size))
   clear hb2 HB1 HV2 HWd HO
   obtain ⟨m2,hm2⟩:∃m2,(dig q).length=m2:=⟨_,rfl⟩
   have hz:(0<m2↔0<q):=by
    rw [←hm2]
    constructor
    ·intro h;rcases Nat.eq_zero_or_pos q with e | e
     ·rw [e,dig_zero] at h;simp at h
     ·exact e
    ·intro h;exact dig_length_pos (by omega)
   rw [hm2]
   have HM2:=Lib.hid hm2
   have HZ:=Lib.hid hz
   clear hm2 hz h0 hd0
   go_upto_region 6 with fail
   go_loopw [3,7,9] (fun ov vv kv wr=>∃(k r1:Nat) (o1:List UInt8),k≤9∧kv=.int .i64 (k:Int)∧vv=.int .u64 (r1:Int)∧r1<10^(9 - k)∧Hid (txt (chunk q r1 (9 - k))++o1.reverse=txt N∧GrowB wr w.heap.size ov o1∧Own wr g1 A1 (dig q)∧Below w.heap.size w wr)) (fun _ _ kv _=>9 - (intOf kv).toNat)
   case atStart=>exact ⟨0,r,o,by omega,rfl,rfl,hr9,HN.out.2.2,HG.out,HO1.out,HW.out⟩
   case round =>
    clear HG HO1 HW
    obtain ⟨k,r1,o1,hk,rfl,rfl,hr1,hK⟩:=hrel
    have hrb:r1<1000000000:=Nat.lt_of_lt_of_le hr1 (Nat.le_trans (Nat.pow_le_pow_right (by omega) (show 9 - k≤9 by omega)) (by decide))
    by_cases hgo:k<9∧(0<q∨0<r1)
    ·obtain ⟨hk9,hpos⟩:=hgo
     obtain ⟨j,hj⟩:∃j,9 - k=j+1:=⟨8 - k,by omega⟩
     have hj2:9 - (k+1)=j:=by omega
     rw [hj] at hr1 hK
     obtain ⟨hs1,hs2,hs3⟩:=chunk_step (q:=q) hr1
     obtain ⟨d,hd⟩:∃d,r1%10=d:=⟨_,rfl⟩
     obtain ⟨r2,hr2⟩:∃d,r1 / 10=d:=⟨_,rfl⟩
     have hd10:d<10:=by omega
     have hdI:(r1:Int)%10=(d:Int):=by omega
     have hrI:(r1:Int) / 10=(r2:Int):=by omega
     have hnx:Hid (txt (chunk q r2 j)++(UInt8.ofNat (48+d)::o1.reverse)=txt N∧r2<10^j):=Lib.hid (by
      refine ⟨?_,by rw [←hr2];exact hs3⟩
      have h1:=hK.out.1
      rw [txt_step (chunk_pos.2 hpos),hs1,hs2,hd,hr2] at h1
      simpa using h1)
     have hlen:o1.length+1≤35184372088832:=by
      have h1:=txt_le hK.out.1
      rw [List.length_reverse] at h1
      have:=HT.out.2.1
      omega
     have hxt:((UInt8.ofNat (48+d)).toNat:Int)=48+(d:Int):=by
      have:(UInt8.ofNat (48+d)).toNat=48+d:=by simp [UInt8.toNat_ofNat];omega
      omega
     obtain ⟨x,hx⟩:∃x,UInt8.ofNat (48+d)=x:=⟨_,rfl⟩
     rw [hx] at hxt hnx
     clear hx
     have t9:decide ((k:Int)<9)=true:=decide_eq_true (by omega)
     have HJ:=Lib.hid hj2
     have HP:=Lib.hid hpos
     have hG:=hK.out.2.1
     have hsz:=hK.out.2.2.2.size
     have hbw:=hK.out.2.2.2
     have HOq:=Lib.hid hK.out.2.2.1
     have HXT:=Lib.hid hxt
     clear hs1 hs2 hs3 hd hr2 hK hpos hj hr1 hj2 hxt
     by_cases hm0:0<m2
     ·go_wp2_with (refine wpList_pushB rfl _ _ rfl w.heap.size _ o1 rfl wr _ x rfl HXT.out hG rfl hlen hsz w hbw ?_;intro v' w3 hG1 hb1 hOw1;have HG1:=Lib.hid hG1;have HB1:=Lib.hid hb1;have HOq:=Lib.hid (hOw1 _ _ _ HOq.out);clear hG1 hb1 hOw1 hG hbw hsz)
      go_roundw
      case rel=>exact ⟨k+1,r2,o1++[x],by omega,by go_num,rfl,by rw [HJ.out];exact hnx.out.2,by rw [HJ.out,List.reverse_append];exact hnx.out.1,HG1.out,HOq.out,HB1.out⟩
      case measure=>simp [intOf];omega
     ·have hr0:0<r1:=by
       rcases HP.out with h | h
       ·exact absurd (HZ.out.2 h) hm0
       ·exact h
      have hr0':0<(r1:Int):=by omega
      have hm0':decide (0<(m2:Int))=false:=decide_eq_false (by omega)
      go_wp2_with (refine wpList_pushB rfl _ _ rfl w.heap.size _ o1 rfl wr _ x rfl HXT.out hG rfl hlen hsz w hbw ?_;intro v' w3 hG1 hb1 hOw1;have HG1:=Lib.hid hG1;have HB1:=Lib.hid hb1;have HOq:=Lib.hid (hOw1 _ _ _ HOq.out);clear hG1 hb1 hOw1 hG hbw hsz)
      go_roundw
      case rel=>exact ⟨k+1,r2,o1++[x],by omega,by go_num,rfl,by rw [HJ.out];exact hnx.out.2,by rw [HJ.out,List.reverse_append];exact hnx.out.1,HG1.out,HOq.out,HB1.out⟩
      case measure=>simp [intOf];omega
    ·have hend:Hid (txt q++o1.reverse=txt N):=Lib.hid (by
      have h1:=hK.out.1
      by_cases hk9:k<9
      ·have e1:q=0:=by
        rcases Nat.eq_zero_or_pos q with e | e
        ·exact e
        ·exact absurd ⟨hk9,.inl e⟩ hgo
       have e2:r1=0:=by
        rcases Nat.eq_zero_or_pos r1 with e | e
        ·exact e
        ·exact absurd ⟨hk9,.inr e⟩ hgo
       rw [e1,e2] at h1
       rw [e1]
       have:chunk 0 0 (9 - k)=0:=by unfold chunk;omega
       rw [this] at h1
       exact h1
      ·have e:9 - k=0:=by omega
       rw [e] at hr1 h1
       have:r1=0:=by omega
       rw [this,chunk_end] at h1
       exact h1)
     have HK:=Lib.hid hK.out.2
     clear hK hr1
     by_cases hk9:k<9
     ·have hm0:¬0<m2:=fun h=>hgo ⟨hk9,.inl (HZ.out.1 h)⟩
      have hm0':decide (0<(m2:Int))=false:=decide_eq_false (by omega)
      obtain rfl:r1=0:=by
       rcases Nat.eq_zero_or_pos r1 with e | e
       ·exact e
       ·exact absurd ⟨hk9,.inr e⟩ hgo
      have t9:decide ((k:Int)<9)=true:=decide_eq_true (by omega)
      clear hgo hrb
      go_wp2
      go_roundg q
      case measure=>exact HN.out.1
      case rel=>exact ⟨o1,HN.out.2.1,⟨A1,by rw [HM2.out],HK.out.2.1.rd⟩,HK.out.1,hend.out,HK.out.2.2⟩
     ·have t9:decide ((k:Int)<9)=false:=decide_eq_false (by omega)
      clear hgo hrb
      go_wp2
      go_roundg q
      case measure=>exact HN.out.1
      case rel=>exact ⟨o1,HN.out.2.1,⟨A1,by rw [HM2.out],HK.out.2.1.rd⟩,HK.out.1,hend.out,HK.out.2.2⟩
end Go.Proofs.YtigmpifjcijdbaaGreatDoor
end

section
namespace Go.Proofs.YtigmpifjcijdbaaGreatDoor
set_option linter.unusedVariables false
set_option linter.unusedSimpArgs false
open Go.RowKit Verge
def exT (b:Nat):List UInt8:=if fwrong b=true then [] else if fbF b=0 then [48,101,48] else ftext (decide (9223372036854775808<b)) (txt (core (fbN b*5^(blen (fbD b) - 1)))) ((tz10 (fbN b*5^(blen (fbD b) - 1)):Int) - ((blen (fbD b) - 1:Nat):Int))
def exC (b:Nat):Int:=if fwrong b=true then 1 else 0
theorem fbF_zero' {b:Nat} (hb:b<18446744073709551616) (h:fbF b=0):b=0∨b=9223372036854775808:=by
 unfold fbF at h;split at h <;> omega
theorem exP (b:Nat) (hb:b<18446744073709551616) (w:World) (hP:Pow10 w):Calls Tryz.prog 52 #[.float .f64 b] w fun e w'=>e=.returned (.tuple #[.string (bs (exT b)),.int .i64 (exC b)])∧Below w.heap.size w w':=by
 unfold exT exC
 by_cases h:fwrong b=true
 ·rw [if_pos h,if_pos h];exact exactp_wrong b hb h w
 ·rw [if_neg h,if_neg h]
  by_cases h0:fbF b=0
  ·rw [if_pos h0];exact exactp_zero b hb (fbF_zero' hb h0) w
  ·rw [if_neg h0]
   have hb0:b≠9223372036854775808:=by rintro rfl;exact h0 (by decide)
   have hsg:decide (9223372036854775808<b)=decide (9223372036854775808≤b):=decide_eq_decide.2 (by omega)
   obtain ⟨_,_,l3,l4⟩:=exact_law h0 (rfl:_=fbF b*2^((fbE b:Int) - 1074).toNat*5^(-((fbE b:Int) - 1074)).toNat) (rfl:_=(-((fbE b:Int) - 1074)).toNat)
   rw [←l3,←l4,hsg]
   exact exactp_num b hb (by simpa using h) h0 letters_any _ _ rfl rfl w hP
end Go.Proofs.YtigmpifjcijdbaaGreatDoor
end
