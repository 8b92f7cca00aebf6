/- The document's own naturals: By. -/
import Derived.Test.YtkhengkchlkhoaaGreatDoorG09
import Derived.Test.YtkhengkchlkhoaaGreatDoorG06
section
namespace Go.Proofs.YtkhengkchlkhoaaGreatDoor
set_option linter.unusedVariables false
set_option linter.unusedSimpArgs false
open Go.RowKit Verge
def ByPost (w:World) (q r:Nat):Ending→World→Prop:=fun en w' =>
 ∃A c A' c',en=.returned (.tuple #[.slice A (dig q).length c,.slice A' (dig r).length c'])∧Rd w' A (dig q)∧(dig q).length≤c∧c≤maxLen∧Rd w' A' (dig r)∧(dig r).length≤c'∧c'≤maxLen∧Below w.heap.size w w'
section
variable (A:Option Addr) (n c:Nat) (X:List Nat) (A':Option Addr) (n' c':Nat) (Y:List Nat) (w:World) (h:Rd w A X) (hn:X.length=n) (h':Rd w A' Y) (hn':Y.length=n') (hm:n≤35184372088700) (hm':n'≤35184372088700)
include h hn h' hn' hm hm'
set_option maxHeartbeats 1000000 in
theorem rby_less (hlt:val X<val Y):Calls Tryz.prog 52 #[.slice A n c,.slice A' n' c'] w (ByPost w (val X / val Y) (val X%val Y)):=by
 rw [Nat.div_eq_of_lt hlt,Nat.mod_eq_of_lt hlt]
 have hc:=rcmp_any A n c X A' n' c' Y w h hn h' hn' (by omega) (by omega)
 rw [cmp_lt hlt] at hc
 have HC:=Lib.hid hc
 have HN:=Lib.hid (fun W hW=>rnorm_any A n c X W hW hn (by omega))
 clear hc hlt
 unfold ByPost
 rw [dig_zero]
 go_enter Tryz.func52,Tryz.ntmps52
 go_wp2_with (first
  | (go_at_call 23;refine HC.out.mono ?_;rintro e w' ⟨rfl,d,rfl⟩)
  | (go_at_call 31;refine (HN.out _ (h.drewN _)).mono ?_;rintro e w' ⟨A2,c2,rfl,h1,h2,h3,h4⟩))
 go_ret2
 exact ⟨none,0,A2,c2,rfl,Rd.nil,Nat.le_refl _,by decide,h1,h2,h3,(below_drewN (Below.refl _ w) d).trans (h4.mono (by simp))⟩
set_option maxRecDepth 100000 in
set_option maxHeartbeats 8000000 in
theorem rby_main (hy:0<val Y) (hge:val Y≤val X):Calls Tryz.prog 52 #[.slice A n c,.slice A' n' c'] w (ByPost w (val X / val Y) (val X%val Y)):=by
 obtain ⟨vc,hvc⟩:∃vc,cmp (val X) (val Y)=vc:=⟨_,rfl⟩
 have hvc0:0≤vc:=by rw [←hvc];unfold cmp;rw [if_neg (by omega)];split <;> decide
 have hc:=rcmp_any A n c X A' n' c' Y w h hn h' hn' (by omega) (by omega)
 rw [hvc] at hc
 have HC:=Lib.hid hc
 have hl:=fun W hW=>rlen_any A' n' c' Y W hW hn' (by omega)
 obtain ⟨k,hk⟩:∃k,blen (val Y)=k+1:=⟨blen (val Y) - 1,by have:=blen_pos (n:=val Y) (by omega);omega⟩
 have hkb:k<32*n':=by
  have h1:=blen_words_le (n:=val Y) (k:=n') (by rw [←wl_eq h'.1];have:=wl_le Y;omega)
  omega
 rw [hk] at hl
 have HL:=Lib.hid hl
 obtain ⟨s,hs⟩:∃s,31 - k%32=s:=⟨_,rfl⟩
 have hs32:s<32:=by omega
 have hsI:31 - (k:Int)%32=(s:Int):=by omega
 have hl1:=fun W hW=>rleft_any A n c X s _ W rfl hW hn (by omega) (by have:=wl_le X;omega)
 have hl2:=fun W hW=>rleft_any A' n' c' Y s _ W rfl hW hn' (by omega) (by have:=wl_le Y;omega)
 have hX:=dig_length_le (n:=val X) (k:=n)
 have hUl:(dig (val X*2^s)).length≤n+1:=by
  rw [dig_length_le,Nat.pow_succ]
  have h1:=val_lt h.1
  rw [hn] at h1
  have h2:2^s≤4294967296:=by
   have:=Nat.pow_le_pow_right (n:=2) (by omega) (show s≤32 by omega)
   simpa using this
  exact Nat.mul_lt_mul_of_lt_of_le h1 h2 (by omega)
 have hVl:(dig (val Y*2^s)).length≤n'+1:=by
  rw [dig_length_le,Nat.pow_succ]
  have h1:=val_lt h'.1
  rw [hn'] at h1
  have h2:2^s≤4294967296:=by
   have:=Nat.pow_le_pow_right (n:=2) (by omega) (show s≤32 by omega)
   simpa using this
  exact Nat.mul_lt_mul_of_lt_of_le h1 h2 (by omega)
 have hV0:0<val Y*2^s:=Nat.mul_pos hy (Nat.pow_pos (by omega))
 have hfin:=fun Q R=>by_div (val X) (val Y) s Q R hy
 generalize val X*2^s=U at *
 generalize val Y*2^s=V at *
 have HL1:=Lib.hid hl1
 have HL2:=Lib.hid hl2
 have HF:=Lib.hid hfin
 have HR:=Lib.hid (And.intro h h')
 have hVp:=dig_length_pos (n:=V) (by omega)
 have hVlt:=dig_length_le.1 (Nat.le_refl (dig V).length)
 clear hc hl hk hl1 hl2 hX hfin hvc hs
 obtain ⟨nv,hnv⟩:∃nv,(dig V).length=nv+1:=⟨(dig V).length - 1,by omega⟩
 obtain ⟨nu,hnu⟩:∃nu,(dig U).length=nu:=⟨_,rfl⟩
 unfold Doc at HL1 HL2
 rw [hnu] at HL1 hUl
 rw [hnv] at HL2 hVl hVlt
 have HNU:=Lib.hid (And.intro hnu hnv)
 have HVV:=Lib.hid (And.intro hVlt hV0)
 clear hnu hnv hVp hVlt h h' hn hn' hV0 hy hge
 have hmk1:∀W:World,(Instr.makeSlice 23 (.int .i64 (nu:Int)) (.int .i64 (nu:Int))).run Tryz.prog W=.ok (.slice (some ⟨W.heap.size,0,none⟩) nu nu) (W.alloc (.cells (u32s (List.replicate nu 0)).toArray 50)):=
  fun W=>run_make_u32 nu (by omega) W
 have hmk2:∀W:World,(Instr.makeSlice 23 (.int .i64 ((nv:Int)+1+1)) (.int .i64 ((nv:Int)+1+1))).run Tryz.prog W=.ok (.slice (some ⟨W.heap.size,0,none⟩) (nv+2) (nv+2)) (W.alloc (.cells (u32s (List.replicate (nv+2) 0)).toArray 50)):=
  fun W=>run_make_u32 (nv+2) (by omega) W
 go_enter Tryz.func52,Tryz.ntmps52
 go_wp2_with (first
  | (go_at_call 23;refine HC.out.mono ?_;rintro e w' ⟨rfl,d,rfl⟩)
  | (go_at_call 49;refine (HL.out _ (HR.out.2.drewN _)).mono ?_;rintro e w' ⟨rfl,rfl⟩)
  | (go_at_call 34;have hh:=HL1.out _ (HR.out.1.drewN d);(with_reducible refine hh.mono ?_);clear hh;rintro e w1 ⟨Au,cu,rfl,hRu,hcu,hcu2,hb1⟩)
  | (go_at_call 34;have hh:=HL2.out _ ((HR.out.2.drewN d).below hb1);(with_reducible refine hh.mono ?_);clear hh;rintro e w2 ⟨Av,cv,rfl,hRv,hcv,hcv2,hb2⟩))
 clear hmk1 hmk2
 have hbw:Below w.heap.size w w2:=((below_drewN (Below.refl _ w) d).trans (hb1.mono (by simp))).trans (hb2.mono (by have:=hb1.size;simpa using this))
 have hRu2:=hRu.below hb2
 have hY:=fun W (hb:Below w2.heap.size w2 W)=>hRv.below hb
 have hU:=fun W (hb:Below w2.heap.size w2 W)=>hRu2.below hb
 have HY:=Lib.hid hY
 have HU:=Lib.hid hU
 have HB:=Lib.hid hbw
 have hB0:Blk ((w2.alloc (.cells (u32s (List.replicate nu 0)).toArray 50)).alloc (.cells (u32s (List.replicate (nv+2) 0)).toArray 50)) (w2.heap.size+1) (List.replicate (nv+2) 0):=by
  have:=Blk.made (w2.alloc (.cells (u32s (List.replicate nu 0)).toArray 50)) (nv+2)
  simpa using this
 have HB0:=Lib.hid hB0
 have hszw:w.heap.size≤w2.heap.size:=hbw.size
 clear hb1 hb2 hRu hRv hRu2 hY hU hbw hB0
 go_loopw [11,12,13,14] (fun iv _ _ _ wr=>∃(i:Nat) (Q R:List Nat),i≤nu∧iv=.int .i64 ((i:Int) - 1)∧Blk wr w2.heap.size Q∧Blk wr (w2.heap.size+1) R ∧
  Hid (Q.length=nu∧R.length=nv+2∧val ((dig U).drop i)=V*val (Q.drop i)+val R∧val R<V)∧Below w2.heap.size w2 wr) (fun iv _ _ _ _=>(intOf iv+1).toNat)
 case atStart=>exact ⟨nu,List.replicate nu 0,List.replicate (nv+2) 0,Nat.le_refl _,rfl,(Blk.made w2 nu).alloc _,HB0.out,
  ⟨by simp,by simp,by rw [List.drop_of_length_le (by rw [HNU.out.1];omega),List.drop_of_length_le (by simp),val_zeros];simp,by rw [val_zeros];exact HVV.out.2⟩,((Below.refl _ w2).alloc (Nat.le_refl _) _).alloc (by simp) _⟩
 case round =>
  obtain ⟨i,Q,R,hi,hiv,hQ,hR,hI,hb⟩:=hrel
  rcases i with _ | j
  ·obtain rfl:u11=.int .i64 (-1):=by rw [hiv];rfl
   clear hiv
   have hUV:U=V*val Q+val R:=by
    have:=hI.out.2.2.1
    rwa [List.drop_zero,List.drop_zero,val_dig] at this
   obtain ⟨f1,f2⟩:=HF.out _ _ hUV hI.out.2.2.2
   have hr:=fun W hW=>rright_any (some ⟨w2.heap.size+1,0,none⟩) (nv+2) (nv+2) R s _ W rfl (by omega) hW hI.out.2.1 (by omega)
   have hq:=fun W hW=>rnorm_any (some ⟨w2.heap.size,0,none⟩) nu nu Q W hW hI.out.1 (by omega)
   unfold RightPost at hr
   rw [f1] at hq
   rw [f2] at hr
   have HRt:=Lib.hid hr
   have HQn:=Lib.hid hq
   clear hUV f1 f2 hr hq
   go_wp2_with (first
    | (go_at_call 33;refine (HRt.out _ hR.rd).mono ?_;rintro e w3 ⟨A3,c3,rfl,r1,r2,r3,hb3⟩)
    | (go_at_call 31;refine (HQn.out _ (hQ.later hb3).rd).mono ?_;rintro e w4 ⟨A4,c4,rfl,q1,q2,q3,hb4⟩))
   go_ret2
   have hbb:=hb.trans ((hb3.mono hb.size).trans (hb4.mono (Nat.le_trans hb.size hb3.size)))
   exact ⟨A4,c4,A3,c3,rfl,q1,q2,q3,r1.below hb4,r2,r3,HB.out.trans (hbb.mono hszw)⟩
  ·obtain rfl:u11=.int .i64 (j:Int):=by rw [hiv];congr 1;omega
   clear hiv
   go_wp2
   obtain ⟨wo,rfl⟩:∃wo:World,wo=wr:=⟨_,rfl⟩
   go_loopw [12] (fun pv wr=>∃(p:Nat) (L:List Nat),p≤nv+1∧pv=.int .i64 p∧Blk wr w2.heap.size Q∧Blk wr (w2.heap.size+1) L ∧
    Hid (L.length=nv+2∧(∀t,t≤p→L.getD t 0=R.getD t 0)∧(∀t,p<t→t≤nv+1→L.getD t 0=R.getD (t - 1) 0))∧Below w2.heap.size w2 wr) (fun pv _=>(intOf pv).toNat)
   case atStart=>exact ⟨nv+1,R,Nat.le_refl _,by congr 1 <;> omega,hQ,hR,⟨hI.out.2.1,fun _ _=>rfl,fun t h1 h2=>by omega⟩,hb⟩
   case round =>
    clear hQ hb
    obtain ⟨p,L,hp,hpv,hQ,hL,hJ,hb⟩:=hrel
    rcases p with _ | t
    ·obtain rfl:u12=.int .i64 0:=hpv
     obtain ⟨bu,ou,heu,hcu⟩:=(HU.out _ hb).cell (k:=j) (by rw [HNU.out.1];omega)
     subst heu
     have hx32:=(w32_dig U).getD j
     obtain ⟨x,hgx⟩:∃x,(dig U).getD j 0=x:=⟨_,rfl⟩
     rw [hgx] at hcu hx32
     have hcl:=hL.cell (i:=0) (by have:=hJ.out.1;omega)
     have hfz:=hL.frozen 0
     have hsh:=shifted L R (nv+1) x (by have:=hJ.out.1;omega) hI.out.2.1 (fun t h1 h2=>hJ.out.2.2 t h1 h2)
     have hvR:=val_top_zero hR.1 (nv+1) hI.out.2.1 (Nat.lt_trans hI.out.2.2.2 HVV.out.1)
     have hT:val (L.set 0 x)=x+4294967296*val R:=by rw [hsh,val_cons,hvR]
     obtain ⟨T,hTT⟩:∃T,x+4294967296*val R=T:=⟨_,rfl⟩
     have hTV:T<4294967296*V:=by have:=hI.out.2.2.2;omega
     rw [hTT] at hT
     have HT:=Lib.hid (And.intro hT (And.intro hTT (And.intro hTV hgx)))
     have hnj:(j:Int)<(nu:Int):=by omega
     clear hsh hvR hT hTT hTV hgx
     go_wp2
     clear hcl hfz hcu
     obtain ⟨wo2,hwo2⟩:∃wo:World,wo=wr:=⟨_,rfl⟩
     subst hwo2
     go_loopw [13,14] (fun dv _ wr=>∃(d:Nat) (L:List Nat),dv=.int .u64 d∧d≤4294967295∧Blk wr w2.heap.size Q∧Blk wr (w2.heap.size+1) L∧Hid (L.length=nv+2∧val L+d*V=T)∧Below w2.heap.size w2 wr) (fun dv _ _=>4294967296 - (intOf dv).toNat)
     case atStart=>exact ⟨0,L.set 0 x,rfl,by omega,hQ.far (by simp) _,hL.setI 0 (by omega) (by omega) (by omega),⟨by rw [List.length_set];exact hJ.out.1,by rw [HT.out.1];simp⟩,hb.setCell (by simp) _⟩
     case round =>
      clear hQ hL hb
      obtain ⟨d,L,rfl,hd,hQ,hL,hK,hb⟩:=hrel
      have hRv:=HY.out _ hb
      have hcm:=rcmp_any (some ⟨w2.heap.size+1,0,none⟩) (nv+2) (nv+2) L Av (nv+1) cv (dig V) _ hL.rd hK.out.1 hRv HNU.out.2 (by omega) (by omega)
      rw [val_dig] at hcm
      by_cases hge:V≤val L
      ·obtain ⟨v1,hv1⟩:∃v1,cmp (val L) V=v1:=⟨_,rfl⟩
       have hv10:0≤v1:=by rw [←hv1];unfold cmp;rw [if_neg (by omega)];split <;> decide
       rw [hv1] at hcm
       have HC2:=Lib.hid hcm
       have hgs:=fun W hL hV=>rguess_any (some ⟨w2.heap.size+1,0,none⟩) (nv+2) L Av nv cv (dig V) W hL hK.out.1 hV HNU.out.2 (by rw [val_dig];exact hge) (by omega)
       rw [val_dig] at hgs
       have HGS:=Lib.hid hgs
       clear hcm hgs hge hv1
       go_wp2_with fail
       refine HC2.out.mono ?_
       rintro e w' ⟨rfl,d1,rfl⟩
       go_wp2_with fail
       refine (HGS.out _ (hL.drewN d1).rd (hRv.drewN d1)).mono ?_
       rintro e w' ⟨g,rfl,hg1,hg2,d2,rfl⟩
       have hgd:(d+g)*V≤T:=by rw [Nat.add_mul];have:=hK.out.2;omega
       have hdg:d+g≤4294967295:=by
        rcases Nat.lt_or_ge 4294967295 (d+g) with h1 | h1
        ·have:=Nat.mul_le_mul_right V h1
         have:=HT.out.2.2.1
         omega
        ·exact h1
       have hsb:=rsub_any (w2.heap.size+1) (nv+2) (nv+2) L Av (nv+1) cv (dig V) g _ (hL.drewN (d1+d2)) hK.out.1 (fun w' hG=>HY.out w' ((below_drewN hb (d1+d2)).grown hG (by have:=hb.size;simpa using this) (by intro k hk;simp at hk;omega))) HNU.out.2 (by omega) (by omega) (by rw [val_dig];exact hg2) (by omega)
       rw [val_dig] at hsb
       have HSB:=Lib.hid hsb
       clear hsb hgd
       go_wp2_with fail
       refine HSB.out.mono ?_
       rintro e w5 ⟨rfl,L',hG5,hL5,hl5,hv5⟩
       have HV5:=Lib.hid hv5
       have hQ5:=(hQ.drewN (d1+d2)).grown hG5 (by simp)
       have hb5:=(below_drewN hb (d1+d2)).grown hG5 (by have:=hb.size;simpa using this) (by intro k hk;simp at hk;omega)
       have hdgI:(d:Int)+(g:Int)<18446744073709551616:=by omega
       clear hv5
       go_wp2_with fail
       go_roundw
       case rel=>exact ⟨d+g,L',by congr 1,hdg,hQ5,hL5,⟨hl5,by rw [Nat.add_mul];have h1:=HV5.out;have h2:=hK.out.2;omega⟩,hb5⟩
       case measure=>simp [intOf];omega
      ·rw [cmp_lt (by omega)] at hcm
       have HC2:=Lib.hid hcm
       have hjQ:j<Q.length:=by rw [hI.out.1];omega
       have hclq:=hQ.cell (i:=j) hjQ
       have hfzq:=hQ.frozen j
       have HJQ:=Lib.hid (And.intro hjQ (show val L<V by omega))
       clear hcm hge hjQ
       go_wp2_with fail
       refine HC2.out.mono ?_
       rintro e w' ⟨rfl,d1,rfl⟩
       go_wp2
       go_roundw
       case rel=>exact ⟨j,Q.set j d,L,by omega,rfl,(hQ.setI j (by omega) (by omega) (by omega)).drewN _,(hL.far (by simp) _).drewN _,
        ⟨by rw [List.length_set];exact hI.out.1,hK.out.1,by_step Q (dig U) j x (val R) T d (val L) V HJQ.out.1 HT.out.2.2.2 hI.out.2.2.1 HT.out.2.1.symm hK.out.2,HJQ.out.2⟩,below_drewN (hb.setCell (by simp) _) _⟩
       case measure=>simp [intOf]
    ·obtain rfl:=hpv
     have hcl:=hL.cell (i:=t) (by have:=hJ.out.1;omega)
     have hcl2:=hL.cell (i:=t+1) (by have:=hJ.out.1;omega)
     have hfz:=hL.frozen (t+1)
     have hx32:=hL.1.getD t
     obtain ⟨x,hgx⟩:∃x,L.getD t 0=x:=⟨_,rfl⟩
     rw [hgx] at hcl hx32
     have HG:=Lib.hid hgx;clear hgx
     go_wp2
     go_roundw
     case rel=>exact ⟨t,L.set (t+1) x,by omega,by congr 1 <;> omega,hQ.far (by simp) _,hL.setI (t+1) (by omega) (by omega) (by omega),
      ⟨by rw [List.length_set];exact hJ.out.1,fun k hk=>by rw [Verge.getD_set_ne _ _ _ _ (by omega)];exact hJ.out.2.1 k (by omega),fun k h1 h2=>by
       rcases Nat.eq_or_lt_of_le (show t+1≤k from h1) with e | e
       ·rw [←e,getD_set_self _ _ _ (by have:=hJ.out.1;omega),←HG.out,hJ.out.2.1 t (by omega)];rfl
       ·rw [Verge.getD_set_ne _ _ _ _ (by omega)];exact hJ.out.2.2 k e h2⟩,hb.setCell (by simp) _⟩
     case measure=>simp [intOf]
theorem rby_any (hy:0<val Y):Calls Tryz.prog 52 #[.slice A n c,.slice A' n' c'] w (ByPost w (val X / val Y) (val X%val Y)):=by
 rcases Nat.lt_or_ge (val X) (val Y) with hlt | hge
 ·exact rby_less A n c X A' n' c' Y w h hn h' hn' hm hm' hlt
 ·exact rby_main A n c X A' n' c' Y w h hn h' hn' hm hm' hy hge
end
end Go.Proofs.YtkhengkchlkhoaaGreatDoor
end

section
namespace Verge
set_option linter.unusedVariables false
set_option linter.unusedSimpArgs false
def fracE (n d:Nat) (e:Int):Int:=e+ntz n - ntz d
def fracN (n d:Nat) (e:Int):Nat:=if n=0 then 0 else (n / 2^ntz n)*2^(fracE n d e).toNat
def fracD (n d:Nat) (e:Int):Nat:=if n=0 then 1 else (d / 2^ntz d)*2^(-(fracE n d e)).toNat
theorem dig_div_length (n k:Nat):(dig (n / 2^k)).length+k / 32≤(dig n).length∨n / 2^k=0:=by
 by_cases h0:n / 2^k=0
 ·exact .inr h0
 ·left
  have hp:=dig_le_pow h0
  have hl:=dig_length_pos h0
  have h1:4294967296^((dig (n / 2^k)).length - 1)*2^k≤n:=Nat.le_trans (Nat.mul_le_mul_right _ hp) (Nat.div_mul_le_self _ _)
  have h2:(4294967296:Nat)^((dig (n / 2^k)).length - 1+k / 32)≤n:=by
   refine Nat.le_trans ?_ h1
   rw [Nat.pow_add]
   refine Nat.mul_le_mul_left _ ?_
   rw [show (4294967296:Nat)=2^32 from rfl,←Nat.pow_mul]
   exact Nat.pow_le_pow_right (by omega) (by omega)
  have h3:¬(dig n).length≤(dig (n / 2^k)).length - 1+k / 32:=fun h=>by
   have:=dig_length_le.1 h
   omega
  omega
theorem ntz_words_le (n:Nat):ntz n / 32≤(dig n).length:=by
 by_cases h:n=0
 ·subst h;rw [ntz_zero];omega
 ·obtain ⟨m,hm⟩:=ntz_spec n h
  have h1:n / 2^ntz n≠0:=by
   have h2:=Nat.two_pow_pos (ntz n)
   have:n / 2^ntz n=2*m+1:=Nat.div_eq_of_eq_mul_right h2 hm
   omega
  rcases dig_div_length n (ntz n) with h2 | h2
  ·omega
  ·exact absurd h2 h1
theorem frac_val (n d:Nat) (e:Int) (hd:d≠0) (k:Nat) (hk:0≤(k:Int)+e):fracN n d e*d*2^k=n*fracD n d e*2^((k:Int)+e).toNat:=by
 unfold fracN fracD
 by_cases hn:n=0
 ·simp [hn]
 ·rw [if_neg hn,if_neg hn]
  obtain ⟨m,hm⟩:=ntz_spec n hn
  obtain ⟨l,hl⟩:=ntz_spec d hd
  have e1:n / 2^ntz n=2*m+1:=Nat.div_eq_of_eq_mul_right (Nat.two_pow_pos _) hm
  have e2:d / 2^ntz d=2*l+1:=Nat.div_eq_of_eq_mul_right (Nat.two_pow_pos _) hl
  rw [e1,e2]
  unfold fracE
  obtain ⟨a,ha⟩:∃a,ntz n=a:=⟨_,rfl⟩
  obtain ⟨b,hb⟩:∃b,ntz d=b:=⟨_,rfl⟩
  rw [ha] at hm ⊢
  rw [hb] at hl ⊢
  rw [hm,hl]
  obtain ⟨u,hu⟩:∃u,(e+a - b).toNat=u:=⟨_,rfl⟩
  obtain ⟨v,hv⟩:∃v,(-(e+a - b)).toNat=v:=⟨_,rfl⟩
  obtain ⟨t,ht⟩:∃t,((k:Int)+e).toNat=t:=⟨_,rfl⟩
  rw [hu,hv,ht]
  have hs:u+b+k=a+v+t:=by omega
  have h1:(2*m+1)*2^u*(2^b*(2*l+1))*2^k=(2*m+1)*(2*l+1)*2^(u+b+k):=by rw [Nat.pow_add,Nat.pow_add];grind
  have h2:2^a*(2*m+1)*((2*l+1)*2^v)*2^t=(2*m+1)*(2*l+1)*2^(a+v+t):=by rw [Nat.pow_add,Nat.pow_add];grind
  rw [h1,h2,hs]
theorem fracD_pos (n d:Nat) (e:Int) (hd:d≠0):0<fracD n d e:=by
 unfold fracD
 split
 ·omega
 ·obtain ⟨l,hl⟩:=ntz_spec d hd
  have e2:d / 2^ntz d=2*l+1:=Nat.div_eq_of_eq_mul_right (Nat.two_pow_pos _) hl
  rw [e2]
  exact Nat.mul_pos (by omega) (Nat.two_pow_pos _)
theorem fracN_zero (n d:Nat) (e:Int):fracN n d e=0↔n=0:=by
 unfold fracN
 split
 ·rename_i h;simp [h]
 ·rename_i h
  obtain ⟨m,hm⟩:=ntz_spec n h
  have e1:n / 2^ntz n=2*m+1:=Nat.div_eq_of_eq_mul_right (Nat.two_pow_pos _) hm
  rw [e1]
  have:=Nat.mul_pos (show 0<2*m+1 by omega) (Nat.two_pow_pos (fracE n d e).toNat)
  omega
theorem fracN_wl {n d:Nat} {e:Int} (he:0<fracE n d e):(fracE n d e).toNat / 32+(dig (n / 2^ntz n)).length+1≤e.toNat / 32+(dig n).length+3:=by
 have h1:(fracE n d e).toNat≤e.toNat+ntz n:=by unfold fracE at he ⊢;omega
 rcases dig_div_length n (ntz n) with h | h
 ·omega
 ·rw [h,dig_zero]
  have:=ntz_words_le n
  simp only [List.length_nil]
  omega
theorem fracD_wl {n d:Nat} {e:Int} (he:fracE n d e<0):(-(fracE n d e)).toNat / 32+(dig (d / 2^ntz d)).length+1≤(-e).toNat / 32+(dig d).length+3:=by
 have h1:(-(fracE n d e)).toNat≤(-e).toNat+ntz d:=by unfold fracE at he ⊢;omega
 rcases dig_div_length d (ntz d) with h | h
 ·omega
 ·rw [h,dig_zero]
  have:=ntz_words_le d
  simp only [List.length_nil]
  omega
end Verge
namespace Go.Proofs.YtkhengkchlkhoaaGreatDoor
set_option linter.unusedVariables false
set_option linter.unusedSimpArgs false
open Go.RowKit Verge
theorem rnew (W:World) (o:Obj):Below W.heap.size W (W.alloc o):=(Below.refl _ W).alloc (Nat.le_refl _) o
theorem raft {a b c:World} (h1:Below a.heap.size a b) (h2:Below b.heap.size b c):Below a.heap.size a c:=h1.trans (h2.mono h1.size)
theorem setb' (w:World) (r i:Nat) (u:Value) (b:Nat) (h:b≠r):(w.setCell ⟨r,i,none⟩ u).heap[b]?=w.heap[b]?:=Below.heap_setCell w ⟨r,i,none⟩ u b h
theorem Rd.apart {w w':World} {r:Nat} {A:Option Addr} {xs:List Nat} (h:Rd w A xs) (hr:∀i z,w.cell? ⟨r,i,none⟩≠some (.int .u32 z)) (hk:∀b,b≠r→w'.heap[b]?=w.heap[b]?):Rd w' A xs:=by
 refine ⟨h.1,fun hn => ?_⟩
 obtain ⟨b,o,rfl,hc⟩:=h.2 hn
 refine ⟨b,o,rfl,fun k x hx => ?_⟩
 have hb:b≠r:=by
  rintro rfl
  exact hr _ _ (hc k x hx)
 have e:=World.cell?_of_block (w:=w) (w':=w') (a:=⟨b,o+k,none⟩) (hk b hb)
 rw [e]
 exact hc k x hx
abbrev ratO:Obj:=.cells #[.bool false,.slice none 0 0,.slice none 0 0] 25
def Box (w:World) (r:Nat):Prop:=w.heap[r]?=some ratO
theorem Box.new (w:World):Box (w.alloc ratO) w.heap.size:=by
 show (w.heap.push _)[w.heap.size]?=_
 simp
theorem Box.lt {w:World} {r:Nat} (h:Box w r):r<w.heap.size:=by
 by_cases hr:r<w.heap.size
 ·exact hr
 ·unfold Box at h;rw [Array.getElem?_eq_none (by omega)] at h;cases h
theorem Box.later {w w':World} {r:Nat} (h:Box w r) (hb:Below w.heap.size w w'):Box w' r:=(hb.block r h.lt).trans h
theorem Box.cells {w:World} {r:Nat} (h:Box w r):w.cell? ⟨r,0,none⟩=some (.bool false)∧w.cell? ⟨r,1,none⟩=some (.slice none 0 0)∧w.cell? ⟨r,2,none⟩=some (.slice none 0 0) ∧
  w.frozen? ⟨r,0,none⟩=false∧w.frozen? ⟨r,1,none⟩=false∧w.frozen? ⟨r,2,none⟩=false:=by
 unfold Box at h
 refine ⟨?_,?_,?_,?_,?_,?_⟩ <;> simp [World.cell?,World.frozen?,h]
theorem Box.no {w:World} {r:Nat} (h:Box w r):∀i z,w.cell? ⟨r,i,none⟩≠some (.int .u32 z):=by
 intro i z e
 unfold Box at h
 simp only [World.cell?,h] at e
 rcases i with _ | _ | _ | i <;> simp at e
def put3 (w:World) (r:Nat) (a b c:Value):World:=((w.setCell ⟨r,0,none⟩ a).setCell ⟨r,1,none⟩ b).setCell ⟨r,2,none⟩ c
theorem Rd.put3 {w:World} {r:Nat} {A:Option Addr} {xs:List Nat} (h:Rd w A xs) (hB:Box w r) (a b c:Value):Rd (put3 w r a b c) A xs:=
 h.apart hB.no fun k hk=>(setb' _ r 2 c k hk).trans ((setb' _ r 1 b k hk).trans (setb' _ r 0 a k hk))
theorem put3_below {B:Nat} {w0 w:World} {r:Nat} (h:Below B w0 w) (hr:B≤r) (a b c:Value):Below B w0 (put3 w r a b c):=((h.setCell hr a).setCell hr b).setCell hr c
def RatP (w:World) (s:Bool) (N D:Nat) (e:Ending) (w':World):Prop:=
 ∃A1 c1 A2 c2,e=.returned (.agg #[.bool s,.slice A1 (dig N).length c1,.slice A2 (dig D).length c2])∧Rd w' A1 (dig N)∧Rd w' A2 (dig D)∧Below w.heap.size w w'
theorem val_dig' (n:Nat):val (dig n)=n:=val_dig n
theorem dig_one:dig 1=[1]:=by rw [dig];simp [dig_zero]
set_option maxRecDepth 20000 in
set_option maxHeartbeats 4000000 in
theorem rfrac_any (s:Bool) (A:Option Addr) (n0 c:Nat) (X:List Nat) (A':Option Addr) (m0 c':Nat) (Y:List Nat) (e:Int) (w:World) (h:Rd w A X) (hn:X.length=n0) (h':Rd w A' Y) (hn':Y.length=m0)
  (hb1:n0+e.toNat / 32+4≤35184372088800) (hb2:m0+(-e).toNat / 32+4≤35184372088800) :
  Calls Tryz.prog 16 #[.bool s,.slice A n0 c,.slice A' m0 c',.int .i64 e] w (RatP w (s&&decide (val X≠0)) (fracN (val X) (val Y) e) (fracD (val X) (val Y) e)):=by
 have hx1:(dig (val X)).length≤n0:=by rw [←wl_eq h.1,←hn];exact wl_le X
 have hy1:(dig (val Y)).length≤m0:=by rw [←wl_eq h'.1,←hn'];exact wl_le Y
 have H1:=Lib.hid (fun W (hW:Rd W A X)=>rnorm_any A n0 c X W hW hn (by omega))
 have H2:=Lib.hid (fun W (hW:Rd W A' Y)=>rnorm_any A' m0 c' Y W hW hn' (by omega))
 have HX:=Lib.hid h
 have HY:=Lib.hid h'
 obtain ⟨x,hx⟩:∃x,val X=x:=⟨_,rfl⟩
 obtain ⟨y,hy⟩:∃y,val Y=y:=⟨_,rfl⟩
 rw [hx] at hx1
 rw [hy] at hy1
 simp only [hx,hy] at H1 H2 ⊢
 have hkx:=ntz_words_le x
 have hky:=ntz_words_le y
 have HB0:=Lib.hid (rnew w ratO)
 clear h h' hn hn' hx hy
 obtain ⟨P,hP⟩:∃P:Ending→World→Prop,P=RatP w (s&&decide (x≠0)) (fracN x y e) (fracD x y e):=⟨_,rfl⟩
 rw [←hP]
 have HP:=Lib.hid hP
 clear hP
 go_enter Tryz.func16,Tryz.ntmps16
 go_wp2_with fail
 refine (H1.out _ (HX.out.below HB0.out)).mono ?_
 rintro en w1 ⟨A1,c1,rfl,hR1,hl1,hm1,hb⟩
 have HB:=Lib.hid ((Box.new w).later hb)
 have HY:=Lib.hid (HY.out.below (raft HB0.out hb))
 have HR1:=Lib.hid hR1
 have HW:=Lib.hid (raft HB0.out hb)
 clear hR1 hb
 go_wp2_with fail
 refine (H2.out _ HY.out).mono ?_
 rintro en w2 ⟨A2,c2,rfl,hR2,hl2,hm2,hb⟩
 have HB:=Lib.hid (HB.out.later hb)
 have HR1:=Lib.hid (HR1.out.below hb)
 have HR2:=Lib.hid hR2
 have HW:=Lib.hid (raft HW.out hb)
 clear hR2 hb
 by_cases h0:x=0
 ·subst h0
  obtain ⟨b0,b1,b2,f0,f1,f2⟩:=HB.out.cells
  have hl0:(dig 0).length=0:=by rw [dig_zero];rfl
  rw [hl0]
  clear hx1 hl1 hkx
  have hz:=HB.out.lt
  go_wp2
  refine bodyPost_ret (v:=.agg #[.bool false,.slice none 0 0,.slice (some ⟨w2.heap.size,0,none⟩) 1 1]) (by simp [results,Tryz.results16,go_sem,b0,b1,b2,hz]) rfl ?_
  rw [HP.out]
  have eN:fracN 0 y e=0:=by simp [fracN]
  have eD:fracD 0 y e=1:=by simp [fracD]
  rw [eN,eD]
  refine ⟨none,0,some ⟨w2.heap.size,0,none⟩,1,by rw [dig_zero,dig_one];simp,by rw [dig_zero];exact Rd.nil,?_,(put3_below HW.out (Nat.le_refl _) _ _ _).alloc (by have:=HW.out.size;simp [put3];omega) _⟩
  rw [dig_one]
  have:=(Blk.new (put3 w2 w.heap.size (.bool false) (.slice none 0 0) (.slice (some ⟨w2.heap.size,0,none⟩) 1 1)) #[.int .u32 1] [1] (W32.cons (by omega) W32.nil) (by simp [u32s])).rd
  simpa [put3] using this
 ·have hlx:0<(dig x).length:=dig_length_pos h0
  have hne:¬((dig x).length:Int)=0:=by omega
  have he0 : -1125899906843000≤e∧e≤1125899906843000:=by omega
  obtain ⟨he1,he2⟩:=he0
  have HZ:=Lib.hid (fun W (hW:Rd W A1 (dig x))=>rzeros_any A1 (dig x).length c1 (dig x) W hW rfl (by omega) (by omega))
  have HR:=Lib.hid (fun W (hW:Rd W A1 (dig x))=>rright_any A1 (dig x).length c1 (dig x) (ntz x) (ntz x:Nat) W rfl (by omega) hW rfl (by omega))
  have HZ2:=Lib.hid (fun W (hW:Rd W A2 (dig y))=>rzeros_any A2 (dig y).length c2 (dig y) W hW rfl (by omega) (by omega))
  have HR':=Lib.hid (fun W (hW:Rd W A2 (dig y))=>rright_any A2 (dig y).length c2 (dig y) (ntz y) (ntz y:Nat) W rfl (by omega) hW rfl (by omega))
  simp only [val_dig'] at HZ HR HZ2 HR'
  have HNE:=Lib.hid h0
  clear h0
  go_wp2_with fail
  refine (HZ.out _ HR1.out).mono ?_
  rintro en w3 ⟨rfl,rfl⟩
  go_wp2_with fail
  refine (HR.out _ HR1.out).mono ?_
  rintro en w3 ⟨A3,c3,rfl,hR3,hl3,hm3,hb⟩
  have HB:=Lib.hid (HB.out.later hb)
  have HR2:=Lib.hid (HR2.out.below hb)
  have HR3:=Lib.hid hR3
  have HW:=Lib.hid (raft HW.out hb)
  clear hR3 hb
  go_wp2_with fail
  refine (HZ2.out _ HR2.out).mono ?_
  rintro en w4 ⟨rfl,rfl⟩
  go_wp2_with fail
  refine (HR'.out _ HR2.out).mono ?_
  rintro en w4 ⟨A4,c4,rfl,hR4,hl4,hm4,hb⟩
  have HB:=Lib.hid (HB.out.later hb)
  have HR3:=Lib.hid (HR3.out.below hb)
  have HR4:=Lib.hid hR4
  have HW:=Lib.hid (raft HW.out hb)
  clear hR4 hb
  go_upto_region 11 with fail
  have hfe:fracE x y e=e+ntz x - ntz y:=rfl
  have hW1:=fun h=>fracN_wl (n:=x) (d:=y) (e:=e) h
  have hW2:=fun h=>fracD_wl (n:=x) (d:=y) (e:=e) h
  rw [hfe] at hW1 hW2
  have hEb : -2251799813690000≤e+ntz x - ntz y∧e+ntz x - ntz y≤2251799813690000:=by omega
  obtain ⟨E,hE⟩:∃E:Int,e+ntz x - ntz y=E:=⟨_,rfl⟩
  rw [hE] at hfe hEb hW1 hW2 ⊢
  have HE:=Lib.hid hfe
  obtain ⟨hE1,hE2⟩:=hEb
  have HW1:=Lib.hid hW1
  have HW2:=Lib.hid hW2
  clear hE hfe hW1 hW2
  by_cases hp:0<E
  ·have hnn:¬E<0:=by omega
   have hk1:=HW1.out hp
   go_wp2_with fail
   refine (rleft_any A3 _ c3 (dig (x / 2^ntz x)) E.toNat E _ (by omega) HR3.out rfl (by omega) (by rw [wl_dig];omega)).mono ?_
   rw [val_dig]
   rintro en w5 ⟨A5,c5,rfl,hR5,hl5,hm5,hb⟩
   have HB:=Lib.hid (HB.out.later hb)
   have HR4:=Lib.hid (HR4.out.below hb)
   have HR5:=Lib.hid hR5
   have HW:=Lib.hid (raft HW.out hb)
   clear hR5 hb hk1
   obtain ⟨b0,b1,b2,f0,f1,f2⟩:=HB.out.cells
   have hz:=HB.out.lt
   go_wp2
   refine bodyPost_ret (v:=.agg #[.bool s,.slice A5 (dig (x / 2^ntz x*2^E.toNat)).length c5,.slice A4 (dig (y / 2^ntz y)).length c4]) (by simp [results,Tryz.results16,go_sem,b0,b1,b2,hz]) rfl ?_
   rw [HP.out]
   have eN:fracN x y e=x / 2^ntz x*2^E.toNat:=by unfold fracN;rw [if_neg HNE.out,HE.out]
   have eD:fracD x y e=y / 2^ntz y:=by unfold fracD;rw [if_neg HNE.out,HE.out];simp [show (-E).toNat=0 by omega]
   rw [eN,eD,decide_eq_true HNE.out,Bool.and_true]
   exact ⟨_,_,_,_,rfl,HR5.out.put3 HB.out _ _ _,HR4.out.put3 HB.out _ _ _,put3_below HW.out (Nat.le_refl _) _ _ _⟩
  ·by_cases hn:E<0
   ·have hk1:=HW2.out hn
    have hp':¬0<E:=hp
    go_wp2_with fail
    refine (rleft_any A4 _ c4 (dig (y / 2^ntz y)) (-E).toNat (-E) _ (by omega) HR4.out rfl (by omega) (by rw [wl_dig];omega)).mono ?_
    rw [val_dig]
    rintro en w5 ⟨A5,c5,rfl,hR5,hl5,hm5,hb⟩
    have HB:=Lib.hid (HB.out.later hb)
    have HR3:=Lib.hid (HR3.out.below hb)
    have HR5:=Lib.hid hR5
    have HW:=Lib.hid (raft HW.out hb)
    clear hR5 hb hk1
    obtain ⟨b0,b1,b2,f0,f1,f2⟩:=HB.out.cells
    have hz:=HB.out.lt
    go_wp2
    refine bodyPost_ret (v:=.agg #[.bool s,.slice A3 (dig (x / 2^ntz x)).length c3,.slice A5 (dig (y / 2^ntz y*2^(-E).toNat)).length c5]) (by simp [results,Tryz.results16,go_sem,b0,b1,b2,hz]) rfl ?_
    rw [HP.out]
    have eN:fracN x y e=x / 2^ntz x:=by unfold fracN;rw [if_neg HNE.out,HE.out];simp [show E.toNat=0 by omega]
    have eD:fracD x y e=y / 2^ntz y*2^(-E).toNat:=by unfold fracD;rw [if_neg HNE.out,HE.out]
    rw [eN,eD,decide_eq_true HNE.out,Bool.and_true]
    exact ⟨_,_,_,_,rfl,HR3.out.put3 HB.out _ _ _,HR5.out.put3 HB.out _ _ _,put3_below HW.out (Nat.le_refl _) _ _ _⟩
   ·obtain rfl:E=0:=by omega
    obtain ⟨b0,b1,b2,f0,f1,f2⟩:=HB.out.cells
    have hz:=HB.out.lt
    go_wp2
    refine bodyPost_ret (v:=.agg #[.bool s,.slice A3 (dig (x / 2^ntz x)).length c3,.slice A4 (dig (y / 2^ntz y)).length c4]) (by simp [results,Tryz.results16,go_sem,b0,b1,b2,hz]) rfl ?_
    rw [HP.out]
    have eN:fracN x y e=x / 2^ntz x:=by unfold fracN;rw [if_neg HNE.out,HE.out];simp
    have eD:fracD x y e=y / 2^ntz y:=by unfold fracD;rw [if_neg HNE.out,HE.out];simp
    rw [eN,eD,decide_eq_true HNE.out,Bool.and_true]
    exact ⟨_,_,_,_,rfl,HR3.out.put3 HB.out _ _ _,HR4.out.put3 HB.out _ _ _,put3_below HW.out (Nat.le_refl _) _ _ _⟩
end Go.Proofs.YtkhengkchlkhoaaGreatDoor
end
