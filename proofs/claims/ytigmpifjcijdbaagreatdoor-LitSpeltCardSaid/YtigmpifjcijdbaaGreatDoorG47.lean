/- Layer 5, the program: Print of a number that is not 0: the walk. -/
import Derived.Test.YtigmpifjcijdbaaGreatDoorG46
import Derived.Test.YtigmpifjcijdbaaGreatDoorG45
import Derived.Test.YtigmpifjcijdbaaGreatDoorG39
section
namespace Go.Proofs.YtigmpifjcijdbaaGreatDoor
set_option linter.unusedVariables false
set_option linter.unusedSimpArgs false
open Go.RowKit Verge
set_option maxRecDepth 40000 in
set_option maxHeartbeats 16000000 in
theorem print_num (d:Int) (b:Nat) (n:Nat) (hb:b<18446744073709551616) (h1:1≤n) (h2:n≤1100) (hw:fwrong b=false) (hF:fbF b≠0) (N D:Nat) (hN:N=fbF b*2^((fbE b:Int) - 1074).toNat) (hD:D=2^(-((fbE b:Int) - 1074)).toNat) (w:World) (hP:Pow10 w) :
  Calls Tryz.prog 51 #[.int .i64 d,.float .f64 b,.int .i64 (n:Int)] w fun e w'=>∃K:Int,-1600≤K∧K≤1000∧dcnt (qat N D K)=n∧e=.returned (.tuple #[.string (bs (prT d (decide (9223372036854775808≤b)) N D K n)),.int .i64 0])∧Below w.heap.size w w':=by
 have H1:=Lib.hid (fun W=>wrong_any b hb W)
 rw [hw] at H1
 have H2:=Lib.hid (fun W=>ratio_any b hb W)
 rw [←hN,←hD] at H2
 have hb0:¬(b=0∨b=9223372036854775808):=by
  rintro (h | h) <;> (subst h;exact hF (by decide))
 have hz:(FloatKind.f64.format.order b 0==some .eq)=false:=(f_isz hb).trans (decide_eq_false hb0)
 obtain ⟨s,hs⟩:∃s,decide (9223372036854775808≤b)=s:=⟨_,rfl⟩
 have hlt:(FloatKind.f64.format.order b 0==some .lt)=s:=by
  refine (f_lt hb (by omega)).trans ?_
  rw [←hs]
  refine decide_eq_decide.2 ?_
  have e:FK 0=0:=rfl
  rw [e]
  have:=fnan_w hw
  constructor
  ·rintro ⟨_,_,h⟩;unfold FK at h;split at h <;> omega
  ·intro h;refine ⟨this,by decide,?_⟩;unfold FK;rw [if_neg (by omega)];omega
 rw [hs]
 have hfab:fabs b<9218868437227405312:=by unfold fwrong at hw;have:=of_decide_eq_false hw;omega
 have hfab0:fabs b≠0:=by
  intro e
  refine hb0 ?_
  unfold fabs at e
  omega
 have H3:=Lib.hid (fun W=>frexpW_any b hb hfab hfab0 W)
 have hFl:=fbF_blen b
 have hE:fbE b≤2047:=by unfold fbE;omega
 have hNb:blen N≤1060:=by
  rw [hN]
  have:blen (fbF b*2^((fbE b:Int) - 1074).toNat)≤53+(((fbE b:Int) - 1074).toNat+1):=blen_mul_le hFl (by
   rw [blen_of _ _ (Nat.le_refl _) (Nat.pow_lt_pow_right (by omega) (by omega))];omega)
  omega
 have hDb:blen D≤1075:=by
  rw [hD,blen_of _ _ (Nat.le_refl _) (Nat.pow_lt_pow_right (by omega) (by omega))];omega
 have hD0:0<D:=by rw [hD];exact Nat.two_pow_pos _
 have hN0:0<N:=by rw [hN];exact Nat.mul_pos (Nat.pos_of_ne_zero hF) (Nat.two_pow_pos _)
 have hlo:¬belowT N D (-336):=by
  have h3:=(blen_lt D _).1 (show blen D≤1116 by omega)
  have h4:=pow_336
  unfold belowT
  rw [show (-(-336:Int)).toNat=336 from rfl,show ((-336:Int)).toNat=0 from rfl,Nat.pow_zero,Nat.mul_one]
  generalize (2:Nat)^1116=p2 at *
  generalize (10:Nat)^336=p10 at *
  have:=Nat.mul_le_mul hN0 (Nat.le_refl p10)
  omega
 have hhi:belowT N D 336:=by
  have h3:=(blen_lt N _).1 (show blen N≤1116 by omega)
  have h4:=pow_336
  unfold belowT
  rw [show (-(336:Int)).toNat=0 from rfl,show ((336:Int)).toNat=336 from rfl,Nat.pow_zero,Nat.mul_one]
  generalize (2:Nat)^1116=p2 at *
  generalize (10:Nat)^336=p10 at *
  have:=Nat.mul_le_mul hD0 (Nat.le_refl p10)
  omega
 have HST:=Lib.hid (fun K=>prt_step (N:=N) (D:=D) (n:=n) (K:=K) hD0 hlo hhi h1 h2)
 have HAB:Hid (∀K:Int,-1600≤K→K≤1000→blen (N*10^(-K).toNat)≤8000∧blen (D*10^K.toNat)≤8000∧D*10^K.toNat≠0∧blen (qat N D K)≤8000∧blen (N*10^(-K).toNat%(D*10^K.toNat))≤8000):=Lib.hid (fun K k1 k2=>by
  have a1:=blen_mul_le hNb (blen_ten (-K).toNat)
  have a2:=blen_mul_le hDb (blen_ten K.toNat)
  have a3:0<D*10^K.toNat:=Nat.mul_pos hD0 (Nat.pow_pos (by omega))
  refine ⟨by omega,by omega,by omega,?_,?_⟩
  ·refine Nat.le_trans ((blen_lt _ _).2 (Nat.lt_of_le_of_lt (Nat.div_le_self _ _) ((blen_lt (N*10^(-K).toNat) _).1 (Nat.le_refl _)))) (by omega)
  ·refine Nat.le_trans ((blen_lt _ _).2 (Nat.lt_of_le_of_lt (Nat.mod_le _ _) ((blen_lt (N*10^(-K).toNat) _).1 (Nat.le_refl _)))) (by omega))
 have HND:=Lib.hid (And.intro hNb hDb)
 have HPP:=Lib.hid hP
 have HY1:Hid (∀W:World,IsT 1 (.slice (some ⟨W.heap.size,0,none⟩) 1 1) (W.alloc (.cells #[.int .u32 1] 52))):=Lib.hid (fun W=>by
  have hd1:dig 1=[1]:=by rw [dig_pos (by omega)];simp [dig_zero]
  exact ⟨_,by rw [hd1];rfl,by rw [hd1];exact (Blk.new W #[.int .u32 1] [1] (W32.cons (by omega) W32.nil) (by simp [u32s])).rd⟩)
 clear hN hD hFl hE hNb hDb hlo hhi hs hb0 hw hF hP hN0 hfab hfab0
 go_enter Tryz.func51,Tryz.ntmps51
 go_wp2_with fail
 refine (H1.out _).mono ?_
 rintro e w1 ⟨rfl,rfl⟩
 go_wp2_with fail
 refine (H2.out _).mono ?_
 rintro e w1 ⟨v1,v2,rfl,hv1,hv2,hb1⟩
 have HV1:=Lib.hid hv1
 have HV2:=Lib.hid hv2
 have HB:=Lib.hid hb1
 clear hv1 hv2 hb1
 go_wp2_with fail
 refine (H3.out _).mono ?_
 rintro en w2 ⟨y,e,rfl,⟨he1,he2⟩,rfl⟩
 obtain ⟨yy,k0,hy1,hy2,hy3,hy4,hk1,hk2⟩:=est_spec he1 he2
 have hmul:∀t w,(binOp .mul t (.float .f64 (floatOfInt .f64 e)) (.float .f64 4599094494223104489)).run Tryz.prog w=.ok (.float .f64 yy) w:=fun t w=>run_float_arith w .mul t .f64 _ _ _ hy1
 have HFl:=Lib.hid (fun W=>floor_any yy hy2 W)
 have hcv:∀w,(convert 32 3 (.float .f64 (flr yy))).run Tryz.prog w=.ok (.int .i64 k0) w:=fun w=>run_convert_float_int w 32 3 .f64 .i64 _ k0 (by rw [Tryz.underlying32];rfl) Tryz.underlying3 (by
  unfold floatToIntVal;rw [hy4];exact if_pos (by simp [IntKind.min,IntKind.max,IntKind.signed,IntKind.bits];omega))
 clear hy1 hy2 hy3 hy4
 go_wp2_with fail
 refine (HFl.out _).mono ?_
 rintro en w3 ⟨rfl,rfl⟩
 go_wp2
 clear hmul hcv HFl he1 he2
 have hKK:Hid (∃K0,k0 - (n:Int)=K0):=Lib.hid ⟨_,rfl⟩
 obtain ⟨K0,hK0⟩:=hKK.out
 rw [hK0]
 have hK1 : -1600≤K0:=by omega
 have hK2:K0≤1000:=by omega
 clear hKK hK0 hk1 hk2
 go_loopg [11,12,13,14,15,16] (prM N D n K0) (fun gk kv _ _ _ _ _ wr=>∃K:Int,kv=.int .i64 K ∧ -1600≤K∧K≤1000∧Hid (gk=prM N D n K∧Below w.heap.size w wr∧IsT N v1 wr∧IsT D v2 wr))
 case atStart=>exact ⟨K0,rfl,hK1,hK2,rfl,HB.out,HV1.out,HV2.out⟩
 case round =>
  clear HB HV1 HV2 hK1 hK2
  obtain ⟨K,rfl,hK1,hK2,hI⟩:=hrel
  have HI:=Lib.hid hI.out.2
  have HG:=Lib.hid hI.out.1
  obtain ⟨a1,a2,a3,a4,a5⟩:=HAB.out K hK1 hK2
  have HBy:=Lib.hid (by10_any (-K) HI.out.2.1 HI.out.2.2 (by omega) (by omega) (by have:=HND.out;omega) (by have:=HND.out;omega))
  rw [show -(-K)=K by omega] at HBy
  have hst:=HST.out K hK1 hK2
  obtain ⟨q,hq⟩:∃q,qat N D K=q:=⟨_,rfl⟩
  have hq':N*10^(-K).toNat / (D*10^K.toNat)=q:=hq
  obtain ⟨A,hA⟩:∃A,N*10^(-K).toNat=A:=⟨_,rfl⟩
  obtain ⟨B,hBB⟩:∃B,D*10^K.toNat=B:=⟨_,rfl⟩
  obtain ⟨r,hr⟩:∃r,A%B=r:=⟨_,rfl⟩
  rw [hq] at hst a4
  rw [hA,hBB] at HBy hq' a5
  rw [hA] at a1
  rw [hBB] at a2 a3
  rw [hr] at a5
  have HQ:=Lib.hid (fun W v u (hv:IsT A v W) (hu:IsT B u W)=>nquo_is hv hu (by omega) (by omega) a3)
  simp only [hq',hr] at HQ
  have HLt:=Lib.hid (fun W v (hv:IsT q v W)=>letters_all q v W hv (by omega))
  have HX:=Lib.hid (And.intro hq (And.intro hA (And.intro hBB hr)))
  have HST2:=Lib.hid hst
  have HBN:=Lib.hid (And.intro a1 (And.intro a2 (And.intro a4 a5)))
  clear hI a1 a2 a3 a4 a5 hst hq hq' hA hBB hr
  go_wp2_with fail
  refine (HBy.out).mono ?_
  rintro en w4 ⟨vt,rfl,⟨va,vb,rfl,hva,hvb⟩,hb4⟩
  have HVA:=Lib.hid hva
  have HVB:=Lib.hid hvb
  have HI:=Lib.hid (And.intro (raft HI.out.1 hb4) (And.intro (IsT.mono _ _ _ _ hb4 HI.out.2.1) (IsT.mono _ _ _ _ hb4 HI.out.2.2)))
  clear hva hvb hb4 HBy
  go_wp2_with fail
  refine (HQ.out _ _ _ HVA.out HVB.out).mono ?_
  rintro en w5 ⟨vt,rfl,⟨vq,vr,ve,rfl,hvq,hvr,rfl⟩,hb5⟩
  have HVQ:=Lib.hid hvq
  have HVR:=Lib.hid hvr
  have HVB:=Lib.hid (IsT.mono _ _ _ _ hb5 HVB.out)
  have HI:=Lib.hid (And.intro (raft HI.out.1 hb5) (And.intro (IsT.mono _ _ _ _ hb5 HI.out.2.1) (IsT.mono _ _ _ _ hb5 HI.out.2.2)))
  clear hvq hvr hb5 HQ HVA
  go_wp2_with fail
  refine (HLt.out _ _ HVQ.out).mono ?_
  rintro en w6 ⟨rfl,hb6⟩
  have HVQ:=Lib.hid (IsT.mono _ _ _ _ hb6 HVQ.out)
  have HVR:=Lib.hid (IsT.mono _ _ _ _ hb6 HVR.out)
  have HVB:=Lib.hid (IsT.mono _ _ _ _ hb6 HVB.out)
  have HI:=Lib.hid (And.intro (raft HI.out.1 hb6) (And.intro (IsT.mono _ _ _ _ hb6 HI.out.2.1) (IsT.mono _ _ _ _ hb6 HI.out.2.2)))
  have hsz:(bs (txt q)).size=dcnt q:=bs_size _
  have hdq:dcnt q≤8000:=Nat.le_trans (txt_len q) HBN.out.2.2.1
  obtain ⟨m,hm⟩:∃m,dcnt q=m:=⟨_,rfl⟩
  rw [hm] at hsz hdq HST2
  have HM:=Lib.hid hm
  generalize bs (txt q)=S at *
  clear hb6 HLt hm
  by_cases c1:n<m
  ·have c1I:(n:Int)<(m:Int):=by omega
   obtain ⟨s1,s2,s3⟩:=HST2.out (by omega)
   go_wp2
   go_roundg (prM N D n (K+(m:Int) - n))
   case measure=>rw [HG.out];exact s3
   case rel=>exact ⟨_,by congr 1;omega,s1,s2,rfl,HI.out⟩
  ·have c1I:¬(n:Int)<(m:Int):=by omega
   by_cases c2:m<n
   ·have c2I:(m:Int)<(n:Int):=by omega
    obtain ⟨s1,s2,s3⟩:=HST2.out (by omega)
    go_wp2
    go_roundg (prM N D n (K+(m:Int) - n))
    case measure=>rw [HG.out];exact s3
    case rel=>exact ⟨_,by congr 1;omega,s1,s2,rfl,HI.out⟩
   ·have c2I:¬(m:Int)<(n:Int):=by omega
    obtain rfl:m=n:=by omega
    clear c1 c2 c1I c2I HST2 HG
    have HSh:=Lib.hid (fun W v (hv:IsT r v W)=>nshl_is (w:=W) 1 hv (by have:=HBN.out.2.2.2;omega))
    simp only [show r*2^1=2*r by omega] at HSh
    have hr2:blen (2*r)≤9000:=by
     have h1:=(blen_lt r _).1 HBN.out.2.2.2
     obtain ⟨z,hz⟩:∃z,z=8000:=⟨_,rfl⟩
     rw [←hz] at h1
     refine Nat.le_trans ((blen_lt (2*r) (z+1)).2 ?_) (by omega)
     rw [Nat.pow_succ];omega
    have HUp:=Lib.hid (fun W v u t (hv:IsT q v W) (hu:IsT (2*r) u W) (ht:IsT B t W)=>dup_any (w:=W) d s hv hu ht (by omega) (by have:=HBN.out.2.1;omega))
    have hQl:=prQ_len (d:=d) (s:=s) (N:=N) (D:=D) (K:=K) (n:=m) (by rw [HX.out.1];exact HM.out) h1
    have hQd:prQ d s N D K=if upB d s q (2*r) B=true then q+1 else q:=by
     unfold prQ;rw [HX.out.1,HX.out.2.1,HX.out.2.2.1,HX.out.2.2.2]
    have hRes:prT d s N D K m=ftext s ((txt (prQ d s N D K)).take m) (if m<(txt (prQ d s N D K)).length then K+1 else K):=rfl
    rw [HX.out.1] at hQl
    obtain ⟨Q,hQ⟩:∃Q,prQ d s N D K=Q:=⟨_,rfl⟩
    rw [hQ] at hQl hQd hRes
    obtain ⟨ub,hub⟩:∃u,upB d s q (2*r) B=u:=⟨_,rfl⟩
    rw [hub] at hQd
    simp only [hub] at HUp
    have HAd:=Lib.hid (fun W v u (hv:IsT q v W) (hu:IsT 1 u W)=>nadd_is (w:=W) hv hu (by
     have h1:=(blen_lt q _).1 HBN.out.2.2.1
     obtain ⟨z,hz⟩:∃z,z=8000:=⟨_,rfl⟩
     rw [←hz] at h1
     refine Nat.le_trans ((blen_lt (q+1) (z+1)).2 ?_) (by omega)
     rw [Nat.pow_succ];have:=Nat.two_pow_pos z;omega))
    have HLQ:=Lib.hid (fun W v (hv:IsT Q v W)=>letters_all Q v W hv (by have:=HBN.out.2.2.1;omega))
    have hcut:=bs_cut (txt Q) 0 m
    rw [List.drop_zero,Nat.sub_zero] at hcut
    have hszQ:(bs (txt Q)).size=(txt Q).length:=bs_size _
    have htk:((txt Q).take m).length=m:=by rw [List.length_take];omega
    have HF0:=Lib.hid (fun W (hW:Pow10 W)=>formp_any s ((txt Q).take m) K (by omega) (by omega) (by omega) (by omega) W hW)
    have HF1:=Lib.hid (fun W (hW:Pow10 W)=>formp_any s ((txt Q).take m) (K+1) (by omega) (by omega) (by omega) (by omega) W hW)
    have htkall:(txt Q).length=m→bs (txt Q)=bs ((txt Q).take m):=fun h=>by rw [List.take_of_length_le (by omega)]
    have HRes:=Lib.hid hRes
    have HQl:=Lib.hid hQl
    have HTK:=Lib.hid htkall
    have HSZ:=Lib.hid hszQ
    obtain ⟨L,hL⟩:∃L,(txt Q).length=L:=⟨_,rfl⟩
    rw [hL] at HQl HRes HTK hszQ
    have hL1:m≤L:=HQl.out.1
    have hL2:L≤m+1:=HQl.out.2.1
    have HQd:=Lib.hid hQd
    have HL12:=Lib.hid (And.intro hL1 hL2)
    have HEND:Hid (dcnt (qat N D K)=m):=Lib.hid (by rw [HX.out.1];exact HM.out)
    generalize bs ((txt Q).take m)=T at *
    generalize bs (txt Q)=SQ at *
    clear hQl hRes hQ htk htkall hL hr2 hub HBN HX HM hQd hL1 hL2
    go_wp2_with fail
    refine (HSh.out _ _ HVR.out).mono ?_
    rintro en w7 ⟨vt,rfl,⟨vr2,ve,rfl,hr2,rfl⟩,hb7⟩
    have HVR2:=Lib.hid hr2
    have HVQ:=Lib.hid (IsT.mono _ _ _ _ hb7 HVQ.out)
    have HVB:=Lib.hid (IsT.mono _ _ _ _ hb7 HVB.out)
    have HB:=Lib.hid (raft HI.out.1 hb7)
    clear hr2 hb7 HI HVR HSh
    go_wp2_with fail
    refine (HUp.out _ _ _ _ HVQ.out HVR2.out HVB.out).mono ?_
    rintro en w8 ⟨vt,rfl,rfl,hb8⟩
    have HVQ:=Lib.hid (IsT.mono _ _ _ _ hb8 HVQ.out)
    have HB:=Lib.hid (raft HB.out hb8)
    clear hb8 HVB HVR2 HUp
    cases ub
    ·have hQd:=HQd.out
     rw [if_neg (by simp)] at hQd
     subst hQd
     clear HQd
     go_wp2_with fail
     refine (HLQ.out _ _ HVQ.out).mono ?_
     rintro en w9 ⟨rfl,hb9⟩
     have HB:=Lib.hid (raft HB.out hb9)
     clear hb9
     by_cases hLm:m<L
     ·have hLI:(m:Int)<(L:Int):=by omega
      go_wp2_with fail
      refine (HF1.out _ (HPP.out.below HB.out)).mono ?_
      rintro en w10 ⟨rfl,hb10⟩
      have HB:=Lib.hid (raft HB.out hb10)
      clear hb10
      go_wp2
      go_ret2
      have hT:ftext s ((txt Q).take m) (K+1)=prT d s N D K m:=by rw [HRes.out,if_pos hLm]
      clear HRes
      refine ⟨K,hK1,hK2,HEND.out,?_,HB.out⟩
      rw [←hT]
      generalize ftext s ((txt Q).take m) (K+1)=tt at *
      rfl
     ·have hLI:¬(m:Int)<(L:Int):=by omega
      have hSQ:=HTK.out (by have:=HL12.out;omega)
      rw [←hSQ] at HF0
      clear hSQ HTK hcut
      go_wp2_with fail
      refine (HF0.out _ (HPP.out.below HB.out)).mono ?_
      rintro en w10 ⟨rfl,hb10⟩
      have HB:=Lib.hid (raft HB.out hb10)
      clear hb10
      go_wp2
      go_ret2
      have hT:ftext s ((txt Q).take m) K=prT d s N D K m:=by rw [HRes.out,if_neg hLm]
      clear HRes
      refine ⟨K,hK1,hK2,HEND.out,?_,HB.out⟩
      rw [←hT]
      generalize ftext s ((txt Q).take m) K=tt at *
      rfl
    ·have hQd:=HQd.out
     rw [if_pos rfl] at hQd
     subst hQd
     clear HQd
     go_wp2_with fail
     refine (HAd.out _ _ _ (IsT.mono _ _ _ _ (rnew w8 _) HVQ.out) (HY1.out w8)).mono ?_
     rintro en w8b ⟨vt,rfl,⟨vq2,ve,rfl,hq2,rfl⟩,hb8b⟩
     have HVQ:=Lib.hid hq2
     have HB:=Lib.hid (raft HB.out (raft (rnew w8 _) hb8b))
     clear hq2 hb8b
     go_wp2_with fail
     refine (HLQ.out _ _ HVQ.out).mono ?_
     rintro en w9 ⟨rfl,hb9⟩
     have HB:=Lib.hid (raft HB.out hb9)
     clear hb9
     by_cases hLm:m<L
     ·have hLI:(m:Int)<(L:Int):=by omega
      go_wp2_with fail
      refine (HF1.out _ (HPP.out.below HB.out)).mono ?_
      rintro en w10 ⟨rfl,hb10⟩
      have HB:=Lib.hid (raft HB.out hb10)
      clear hb10
      go_wp2
      go_ret2
      have hT:ftext s ((txt (q+1)).take m) (K+1)=prT d s N D K m:=by rw [HRes.out,if_pos hLm]
      clear HRes
      refine ⟨K,hK1,hK2,HEND.out,?_,HB.out⟩
      rw [←hT]
      generalize ftext s ((txt (q+1)).take m) (K+1)=tt at *
      rfl
     ·have hLI:¬(m:Int)<(L:Int):=by omega
      have hSQ:=HTK.out (by have:=HL12.out;omega)
      rw [←hSQ] at HF0
      clear hSQ HTK hcut
      go_wp2_with fail
      refine (HF0.out _ (HPP.out.below HB.out)).mono ?_
      rintro en w10 ⟨rfl,hb10⟩
      have HB:=Lib.hid (raft HB.out hb10)
      clear hb10
      go_wp2
      go_ret2
      have hT:ftext s ((txt (q+1)).take m) K=prT d s N D K m:=by rw [HRes.out,if_neg hLm]
      clear HRes
      refine ⟨K,hK1,hK2,HEND.out,?_,HB.out⟩
      rw [←hT]
      generalize ftext s ((txt (q+1)).take m) K=tt at *
      rfl
end Go.Proofs.YtigmpifjcijdbaaGreatDoor
end

section
namespace Go.Proofs.YtigmpifjcijdbaaGreatDoor
set_option linter.unusedVariables false
set_option linter.unusedSimpArgs false
open Go.RowKit Verge
def PrP (d:Int) (b n:Nat) (t:List UInt8) (c:Int):Prop:=∀W,Pow10 W→Calls Tryz.prog 51 #[.int .i64 d,.float .f64 b,.int .i64 (n:Int)] W fun e w'=>e=.returned (.tuple #[.string (bs t),.int .i64 c])∧Below W.heap.size W w'
end Go.Proofs.YtigmpifjcijdbaaGreatDoor
end

section
namespace Go.Proofs.YtigmpifjcijdbaaGreatDoor
set_option linter.unusedVariables false
set_option linter.unusedSimpArgs false
open Go.RowKit Verge
theorem core_le (n:Nat):core n≤n:=by
 induction n using Nat.strongRecOn with
 | ind n ih =>
  by_cases h:0<n∧n%10=0
  ·rw [core_step h.1 h.2]
   exact Nat.le_trans (ih (n / 10) (by omega)) (by omega)
  ·rw [core,dif_neg h];exact Nat.le_refl _
theorem tz10_blen (n:Nat):tz10 n≤blen n:=by
 induction n using Nat.strongRecOn with
 | ind n ih =>
  by_cases h:0<n∧n%10=0
  ·rw [tz10_step h.1 h.2]
   have h1:=ih (n / 10) (by omega)
   have h2:=blen_pos (show n≠0 by omega)
   have h3:blen (n / 10)≤blen n - 1:=by
    rw [blen_lt]
    have h4:=(blen_lt n _).1 (Nat.le_refl _)
    have h5:(2:Nat)^blen n=2*2^(blen n - 1):=by rw [←Nat.pow_succ'];congr 1;omega
    omega
   omega
  ·rw [tz10,dif_neg h];exact Nat.zero_le _
theorem exT_len (b:Nat):(exT b).length≤20000:=by
 unfold exT
 by_cases h:fwrong b=true
 ·rw [if_pos h];simp
 ·rw [if_neg h]
  by_cases h0:fbF b=0
  ·rw [if_pos h0];simp
  ·rw [if_neg h0]
   obtain ⟨l1,_,l3,l4⟩:=exact_law h0 (rfl:_=fbF b*2^((fbE b:Int) - 1074).toNat*5^(-((fbE b:Int) - 1074)).toNat) (rfl:_=(-((fbE b:Int) - 1074)).toNat)
   rw [←l3,←l4]
   have hFl:=fbF_blen b
   have hE:fbE b≤2047:=by unfold fbE;omega
   have hK1:(-((fbE b:Int) - 1074)).toNat≤1074:=by omega
   have hX1:((fbE b:Int) - 1074).toNat≤1000:=by omega
   generalize ((fbE b:Int) - 1074).toNat=x at *
   generalize (-((fbE b:Int) - 1074)).toNat=K at *
   generalize fbF b=F at *
   have hNb:blen (F*2^x)≤53+1001:=by
    refine blen_mul_le hFl ?_
    rw [blen_of _ _ (Nat.le_refl _) (Nat.pow_lt_pow_right (by omega) (by omega))];omega
   have h5b:=five_blen K
   have hAb:blen (F*2^x*5^K)≤9000:=by have:=blen_mul_le hNb h5b;omega
   clear l3 l4
   generalize F*2^x*5^K=A at *
   have hc:(txt (core A)).length≤9000:=by
    refine Nat.le_trans (txt_len _) ?_
    rw [blen_lt]
    have:=(blen_lt A 9000).1 hAb
    exact Nat.lt_of_le_of_lt (core_le A) this
   have ht:=tz10_blen A
   have hi:=itoa_len (((txt (core A)).length:Int) - 1+((tz10 A:Int) - K)) (by omega) (by omega)
   unfold ftext
   generalize Lib.itoa _=I at *
   generalize txt (core A)=D at *
   simp only [List.length_append,List.length_cons,List.length_take]
   split <;> split <;> simp <;> omega
def litT (lo hi:Nat):List UInt8:=
 if lo=9218868437227405312∧hi=18442240474082181120 then [91,101,109,112,116,121,93]
 else if lo=18442240474082181120∧hi=9218868437227405312 then [91,101,110,116,105,114,101,93]
 else if lo=hi then [91]++exT lo++[93]
 else [91]++(if lo=18442240474082181120 then [45,105,110,102] else exT lo)++[44,32]++(if hi=9218868437227405312 then [105,110,102] else exT hi)++[93]
end Go.Proofs.YtigmpifjcijdbaaGreatDoor
end

section
namespace Go.Proofs.YtigmpifjcijdbaaGreatDoor
set_option linter.unusedVariables false
set_option linter.unusedSimpArgs false
open Go.RowKit Verge
theorem end_any (d:Int) (b:Nat) (hb:b<18446744073709551616) (w:World) (hP:Pow10 w):Calls Tryz.prog 53 #[.int .i64 d,.float .f64 b] w fun e w'=>e=.returned (.string (bs (exT b)))∧Below w.heap.size w w':=by
 have H:=Lib.hid (exP b hb w hP)
 clear hP
 go_enter Tryz.func53,Tryz.ntmps53
 go_wp2_with (go_at_call 52;refine H.out.mono ?_;rintro e w1 ⟨rfl,hb1⟩;have HB1:=Lib.hid hb1;clear hb1)
 go_ret
 exact ⟨rfl,HB1.out⟩
set_option maxHeartbeats 2000000 in
theorem written_any (x y:Nat) (hx:x<18446744073709551616) (hy:y<18446744073709551616) (hx1:x≠9218868437227405312) (hy1:y≠18442240474082181120) (w:World) (hP:Pow10 w):Calls Tryz.prog 49 #[.agg #[.float .f64 x,.float .f64 y],.func (.func 53) #[] #[]] w fun e w'=>e=.returned (.string (bs ([91]++(if x=18442240474082181120 then [45,105,110,102] else exT x)++[44,32]++(if y=9218868437227405312 then [105,110,102] else exT y)++[93])))∧Below w.heap.size w w':=by
 have HB:=Lib.hid (fun o=>bnew w o)
 have key:∀(c d:List UInt8),bs [91]++bs c++bs [44,32]++bs d++bs [93]=bs ([91]++c++[44,32]++d++[93]):=by
  intro c d;simp only [bs_append]
 rw [←key]
 have i1:decide (fabs x=9218868437227405312)=decide (x=18442240474082181120):=decide_eq_decide.2 (by unfold fabs;omega)
 have i2:decide (fabs y=9218868437227405312)=decide (y=9218868437227405312):=decide_eq_decide.2 (by unfold fabs;omega)
 have I1:=Lib.hid (fun W=>isinf_0 x hx W)
 have I2:=Lib.hid (fun W=>isinf_0 y hy W)
 rw [i1] at I1
 rw [i2] at I2
 have E1:=Lib.hid (fun d W (h:Pow10 W)=>end_any d x hx W h)
 have E2:=Lib.hid (fun d W (h:Pow10 W)=>end_any d y hy W h)
 have a1:=exT_len x
 have a2:=exT_len y
 have HPP:=Lib.hid hP
 generalize exT x=a at *
 generalize exT y=b at *
 have l0:(bs [91]).size=1:=rfl
 have l1:(bs [44,32]).size=2:=rfl
 have l2:(bs [93]).size=1:=rfl
 have l3:(bs [45,105,110,102]).size=4:=rfl
 have l4:(bs [105,110,102]).size=3:=rfl
 have e0:({ data:=#[91] }:ByteArray)=bs [91]:=rfl
 have e1:({ data:=#[44,32] }:ByteArray)=bs [44,32]:=rfl
 have e2:({ data:=#[93] }:ByteArray)=bs [93]:=rfl
 have e3:({ data:=#[45,105,110,102] }:ByteArray)=bs [45,105,110,102]:=rfl
 have e4:({ data:=#[105,110,102] }:ByteArray)=bs [105,110,102]:=rfl
 have ha2:(bs a).size≤20000:=by rw [bs_size];exact a1
 have hb2:(bs b).size≤20000:=by rw [bs_size];exact a2
 clear key a1 a2 i1 i2 hx hy hx1 hy1 hP
 obtain ⟨c0,c1,f0,f1,hz⟩:=box1 (w:=w) (a:=.float .f64 x) (b:=.float .f64 y) (t:=34) (Below.refl _ _)
 by_cases hx:x=18442240474082181120 <;> by_cases hy:y=9218868437227405312
 ·rw [if_pos hx,if_pos hy]
  rw [decide_eq_true hx] at I1
  rw [decide_eq_true hy] at I2
  clear hx hy
  go_enter Tryz.func49,Tryz.ntmps49
  go_wp2_with fail
  refine (I1.out _).mono ?_
  rintro e w1 ⟨rfl,rfl⟩
  go_wp2_with fail
  refine (I2.out _).mono ?_
  rintro e w3 ⟨rfl,rfl⟩
  go_wp2
  go_ret
  exact ⟨rfl,HB.out _⟩
 ·rw [if_pos hx,if_neg hy]
  rw [decide_eq_true hx] at I1
  rw [decide_eq_false hy] at I2
  clear hx hy
  go_enter Tryz.func49,Tryz.ntmps49
  go_wp2_with fail
  refine (I1.out _).mono ?_
  rintro e w1 ⟨rfl,rfl⟩
  go_wp2_with fail
  refine (I2.out _).mono ?_
  rintro e w3 ⟨rfl,rfl⟩
  go_wp2_with fail
  refine (E2.out _ _ (HPP.out.below (HB.out _))).mono ?_
  rintro e w4 ⟨rfl,hb⟩
  obtain ⟨c0,c1,f0,f1,hz⟩:=box1 hb
  have HW:=Lib.hid (baft (HB.out _) hb)
  clear hb
  go_wp2
  go_ret
  exact ⟨rfl,HW.out⟩
 ·rw [if_neg hx,if_pos hy]
  rw [decide_eq_false hx] at I1
  rw [decide_eq_true hy] at I2
  clear hx hy
  go_enter Tryz.func49,Tryz.ntmps49
  go_wp2_with fail
  refine (I1.out _).mono ?_
  rintro e w1 ⟨rfl,rfl⟩
  go_wp2_with fail
  refine (E1.out _ _ (HPP.out.below (HB.out _))).mono ?_
  rintro e w2 ⟨rfl,hb⟩
  obtain ⟨c0,c1,f0,f1,hz⟩:=box1 hb
  have HW:=Lib.hid (baft (HB.out _) hb)
  clear hb
  go_wp2_with fail
  refine (I2.out _).mono ?_
  rintro e w3 ⟨rfl,rfl⟩
  go_wp2
  go_ret
  exact ⟨rfl,HW.out⟩
 ·rw [if_neg hx,if_neg hy]
  rw [decide_eq_false hx] at I1
  rw [decide_eq_false hy] at I2
  clear hx hy
  go_enter Tryz.func49,Tryz.ntmps49
  go_wp2_with fail
  refine (I1.out _).mono ?_
  rintro e w1 ⟨rfl,rfl⟩
  go_wp2_with fail
  refine (E1.out _ _ (HPP.out.below (HB.out _))).mono ?_
  rintro e w2 ⟨rfl,hb⟩
  obtain ⟨c0,c1,f0,f1,hz⟩:=box1 hb
  have HW:=Lib.hid (baft (HB.out _) hb)
  clear hb
  go_wp2_with fail
  refine (I2.out _).mono ?_
  rintro e w3 ⟨rfl,rfl⟩
  go_wp2_with fail
  refine (E2.out _ _ (HPP.out.below HW.out)).mono ?_
  rintro e w4 ⟨rfl,hb⟩
  have HW:=Lib.hid (baft HW.out hb)
  clear hb
  go_wp2
  go_ret
  exact ⟨rfl,HW.out⟩
end Go.Proofs.YtigmpifjcijdbaaGreatDoor
end
