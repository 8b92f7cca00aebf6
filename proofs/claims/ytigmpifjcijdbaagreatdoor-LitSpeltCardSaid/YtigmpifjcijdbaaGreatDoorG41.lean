/- Layer 12, the program: the reader over a literal: an uncertain one. -/
import Derived.Test.YtigmpifjcijdbaaGreatDoorG37
import Derived.Test.YtigmpifjcijdbaaGreatDoorG40
namespace Go.Proofs.YtigmpifjcijdbaaGreatDoor
set_option linter.unusedVariables false
set_option linter.unusedSimpArgs false
open Go.RowKit Verge Verge.Lit
def unMid (u:Un):Nat:=numB 10 (u.a++u.b)*2
def unBy (u:Un):Nat:=if u.rad=[] then 1 else numB 10 u.rad*2
def unSc (u:Un):Int:=-(u.b.length:Int)+(match u.exp with | none=>0 | some e=>expV e)
def unLo (u:Un):Nat:=if (u.endless&&decide (u.way≠1))=true then 18442240474082181120 else halfP (-1) (hlf u.neg true (decide (u.way≠1)) (unMid u) (unBy u)) (unSc u)
def unHi (u:Un):Nat:=if (u.endless&&decide (u.way≠2))=true then 9218868437227405312 else halfP 1 (hlf u.neg false (decide (u.way≠2)) (unMid u) (unBy u)) (unSc u)
def lateUn (len:Nat) (u:Un) (x:Int×Int):Int×Int:=
 match u.exp with
 | none=>x
 | some e=>lateX len e x
structure UnM (w:World) (b:Nat) (l r:List UInt8) (d:Bool) (x:Int×Int) (R:Nat) (W:World):Prop where
 rd:LR W b l r d x
 gr:w.grownBy W (some b)
 hr:W.heap[R]?=some (mO 0 0 false false false { data:=#[] } 0)
theorem UnM.step {w:World} {b:Nat} {l r s:List UInt8} {d:Bool} {x z:Int×Int} {R:Nat} {W W':World} (h:UnM w b l r d x R W) (hR:b≠R) (h1:LR W' b l s d z) (h2:W.grownBy W' (some b)):UnM w b l s d z R W':=
 ⟨h1,grownBy_trans h.gr h2,grown_keep h2 hR h.hr⟩
theorem UnM.below {w:World} {b:Nat} {l r:List UInt8} {d:Bool} {x:Int×Int} {R:Nat} {W W':World} (h:UnM w b l r d x R W) (hR:b≠R) (hb:Below W.heap.size W W'):UnM w b l r d x R W':=h.step hR (h.rd.later hb) (grownBy_below hb)
theorem ptL_is (r:List UInt8):ptL r=(if (isL 46 r).1=true then ((isL 46 r).2.takeWhile isD,(isL 46 r).2.dropWhile isD) else ([],(isL 46 r).2)):=by
 unfold ptL
 by_cases h:pk r=46
 ·rw [if_pos h,isL_pk h (by decide)];rfl
 ·rw [if_neg h,isL_no h];rfl
theorem tw_nil {r:List UInt8} (h:r.takeWhile isD=[]):r.dropWhile isD=r:=by
 have:=List.takeWhile_append_dropWhile (p:=isD) (l:=r)
 rwa [h] at this
theorem below_le {B:Nat} {a w:World} (h:Below a.heap.size a w) (hB:B≤a.heap.size):Below B a w:=⟨h.os,h.tape,h.output,h.size,fun g hg=>h.block g (Nat.lt_of_lt_of_le hg hB)⟩
theorem blen_tenK (n:Nat):blen (10^n)≤10*(n / 3)+8:=by
 refine (blen_lt _ _).2 ?_
 have h1:(10:Nat)^3≤2^10:=by decide
 obtain ⟨m,r,hm,hr,hd⟩:∃m r,n=3*m+r∧r<3∧n / 3=m:=⟨n / 3,n%3,by omega,by omega,rfl⟩
 have h2:(10:Nat)^(3*m)≤2^(10*m):=by rw [Nat.pow_mul,Nat.pow_mul];exact Nat.pow_le_pow_left h1 m
 have h3:(10:Nat)^r<2^8:=by
  have:r=0∨r=1∨r=2:=by omega
  rcases this with rfl | rfl | rfl <;> decide
 rw [hd,hm,Nat.pow_add,Nat.pow_add]
 exact Nat.mul_lt_mul_of_le_of_lt h2 h3 (Nat.pow_pos (by omega))
theorem blenD {s:List UInt8} (h:∀c∈s,isD c=true) (hl:s.length≤4096):blen (numB 10 s)≤13660:=by
 have h1:=Verge.numB_lt 10 s (fun c hc=>(dvl_D (h c hc)).2)
 have h2:=blen_leL (Nat.le_of_lt h1)
 have h3:=blen_tenK s.length
 omega
set_option maxRecDepth 100000 in
set_option maxHeartbeats 8000000 in
theorem uncertain_any (w:World) (b:Nat) (l r:List UInt8) (d:Bool) (x:Int×Int) (h:LR w b l r d x) (hl:l.length≤4096):Calls Tryz.prog 57 #[.pointer (some ⟨b,0,none⟩)] w
  (LAns w b l (uncL r) fun y e w'=>e=.returned (mV (unLo y.1) (unHi y.1) false (!y.1.endless) false { data:=#[] } 0)∧LR w' b l y.2 d (lateUn l.length y.1 x)):=by
 have HE:=Lib.hid (fun W=>entire_any W)
 have HI:=Lib.hid (fun W s k h (hk:k≤255)=>lis_any W b l s d x k h (by omega) hk)
 have HFI:=Lib.hid (fun W s h=>figures_any W b l s d x h (by omega))
 have HFA:=Lib.hid (fun W s h=>lfail_any W b l s d x h)
 have HWA:=Lib.hid (fun W s h=>want_any W b l s d x 63 h (by omega) (by omega))
 have HEX:=Lib.hid (fun W s h=>lexponent_any W b l s d x h hl)
 have hsf:=store_f
 obtain ⟨g1,g2,g3⟩:=isL_sg r
 obtain ⟨y,hy⟩:∃y,uncL r=y:=⟨_,rfl⟩
 rw [hy]
 unfold uncL at hy
 obtain ⟨r1,hr1⟩:∃r1,(sg r).2=r1:=⟨_,rfl⟩
 obtain ⟨ng,hng⟩:∃n,(sg r).1=n:=⟨_,rfl⟩
 rw [hr1,hng] at hy
 rw [hng] at g1
 rw [hr1] at g2 g3
 have HY:=Lib.hid hy
 have HG:=Lib.hid (And.intro g1 (And.intro g2 g3))
 have HL:=Lib.hid hl
 obtain ⟨R,hR⟩:∃R,w.heap.size=R:=⟨_,rfl⟩
 have hbR:b≠R:=by have:=h.lt;omega
 have H0:Hid (UnM w b l r d x R (w.alloc (mO 0 0 false false false { data:=#[] } 0))):=Lib.hid ⟨h.later (rnew w _),grownBy_alloc (grownBy_refl _ _) _,by rw [←hR,heap_alloc_new]⟩
 have HR:=Lib.hid hR
 clear h hy hr1 hng g1 g2 g3 hl
 go_enter Tryz.func57,Tryz.ntmps57
 go_wp2_with fail
 refine (HI.out _ _ 45 H0.out.rd (by omega)).mono ?_
 rw [HG.out.1]
 rintro e w1 ⟨rfl,h1,k1⟩
 have H1:=Lib.hid (H0.out.step hbR h1 k1)
 clear h1 k1 H0 hR
 go_upto_if 20 with fail
 go_cut [22] from 21 to 22 (fun s wx=>Hid (UnM w b l r1 d x R wx))
 case first =>
  cases ng with
  | true =>
   have:=HG.out.2.1 HG.out.1
   rw [this] at H1
   go_wp2
   go_meet
   exact H1
  | false =>
   have:=HG.out.2.2 HG.out.1
   go_wp2_with fail
   refine (HI.out _ _ 43 H1.out.rd (by omega)).mono ?_
   rw [this]
   rintro e w2 ⟨rfl,h2,k2⟩
   have H2:=Lib.hid (H1.out.step hbR h2 k2)
   clear h2 k2
   go_wp2
   go_meet
   exact H2
 case rest =>
  have H2:=hcut
  clear hcut H1 HG
  go_wp2_with fail
  refine (HFI.out _ _ H2.out.rd).mono ?_
  rintro e w3 ⟨rfl,h3,k3⟩
  have hy:=HY.out
  obtain ⟨ds,hds⟩:∃z,r1.takeWhile isD=z:=⟨_,rfl⟩
  obtain ⟨r2,hr2⟩:∃z,r1.dropWhile isD=z:=⟨_,rfl⟩
  rw [hds,hr2] at hy
  rw [hr2] at h3
  rw [hds]
  have H3:=Lib.hid (H2.out.step hbR h3 k3)
  have hdd:∀c∈ds,isD c=true:=by rw [←hds];exact take_all
  have hsp:ds++r2=r1:=by rw [←hds,←hr2];exact List.takeWhile_append_dropWhile
  have hlen:ds.length+r2.length≤4096:=by
   have h1:=congrArg List.length hsp
   have h2:=H2.out.rd.1
   have h3:=HL.out
   rw [List.length_append] at h1
   omega
  have HD:=Lib.hid (And.intro hdd hlen)
  obtain ⟨bb,r3,hpt⟩:∃bb r3,ptL r2=(bb,r3):=⟨_,_,rfl⟩
  rw [hpt] at hy
  rw [ptL_is] at hpt
  have HPT:=Lib.hid hpt
  have HY:=Lib.hid hy
  clear h3 k3 hds hr2 hdd hsp hlen hpt hy H2
  go_wp2_with fail
  refine (HI.out _ _ 46 H3.out.rd (by omega)).mono ?_
  rintro e w4 ⟨rfl,h4,k4⟩
  have H4:=Lib.hid (H3.out.step hbR h4 k4)
  clear h4 k4 H3
  go_upto_if 26 with fail
  go_cut [4,5] from 4 to 34 (fun sv cv wx=>sv=.string (bs (ds++bb))∧cv=.int .i64 (-(bb.length:Int))∧Hid (UnM w b l r3 d x R wx∧(∀c∈bb,isD c=true)∧(ds++bb).length≤4096))
  case first =>
   have hpt:=HPT.out
   cases hb:(isL 46 r2).1 with
   | true =>
    rw [hb,if_pos rfl] at hpt
    go_wp2_with fail
    refine (HFI.out _ _ H4.out.rd).mono ?_
    rintro e w5 ⟨rfl,h5,k5⟩
    injection hpt with hp1 hp2
    rw [hp2] at h5
    rw [hp1]
    have hbd:∀c∈bb,isD c=true:=by rw [←hp1];exact take_all
    have hbl:bb.length+r3.length≤r2.length:=by
     have h1:bb++r3=(isL 46 r2).2:=by rw [←hp1,←hp2];exact List.takeWhile_append_dropWhile
     have h2:=congrArg List.length h1
     have h3:(isL 46 r2).2.length≤r2.length:=by
      cases r2 with
      | nil=>exact Nat.le_refl _
      | cons c s =>
       by_cases e:lo c=46
       ·rw [show isL 46 (c::s)=(true,s) from if_pos e];simp
       ·rw [show isL 46 (c::s)=(false,c::s) from if_neg e];simp
     rw [List.length_append] at h2
     omega
    have hsum:(ds++bb).length≤4096:=by
     have:=HD.out.2
     rw [List.length_append];omega
    have H5:=Lib.hid (And.intro (H4.out.step hbR h5 k5) (And.intro hbd hsum))
    have hcat:bs ds++bs bb=bs (ds++bb):=bs_append ds bb
    have z1:=bs_size ds
    have z2:=bs_size bb
    have z3:bb.length≤4096:=by have:=HD.out.2;omega
    have z4:ds.length≤4096:=by have:=HD.out.2;omega
    obtain ⟨lb,hlb⟩:∃z,bb.length=z:=⟨_,rfl⟩
    have HLB:=Lib.hid hlb
    rw [hlb] at z2 z3
    have hnb:¬9223372036854775807<(bs ds).size+(bs bb).size:=by omega
    clear hp1 hp2 hbd hbl hsum h5 k5 hlb H4
    obtain ⟨X1,hX1⟩:∃z,bs ds=z:=⟨_,rfl⟩
    obtain ⟨X2,hX2⟩:∃z,bs bb=z:=⟨_,rfl⟩
    obtain ⟨X3,hX3⟩:∃z,bs (ds++bb)=z:=⟨_,rfl⟩
    rw [hX1,hX2,hX3] at hcat
    rw [hX1] at z1
    rw [hX2] at z2
    rw [hX1,hX2] at hnb
    rw [hX1,hX2]
    have HX3:=Lib.hid hX3
    clear hX1 hX2 hX3
    go_wp2
    go_meet
    rw [HX3.out,HLB.out]
    exact ⟨rfl,rfl,H5.out⟩
   | false =>
    rw [hb,if_neg (by simp)] at hpt
    injection hpt with hp1 hp2
    subst hp1
    rw [hp2] at H4
    have hsum:(ds++[]).length≤4096:=by
     have:=HD.out.2
     rw [List.length_append];simp;omega
    have H5:Hid (UnM w b l r3 d x R w4∧(∀c∈([]:List UInt8),isD c=true)∧(ds++[]).length≤4096):=Lib.hid ⟨H4.out,by simp,hsum⟩
    clear hsum hp2
    have ha:bs (ds++[])=bs ds:=by rw [List.append_nil]
    have HA:=Lib.hid ha
    clear ha
    go_wp2
    go_meet
    rw [HA.out]
    exact ⟨rfl,rfl,H5.out⟩
  case rest =>
   obtain ⟨rfl,rfl,hC⟩:=hcut
   have H5:=Lib.hid hC.out.1
   have HBB:=Lib.hid (And.intro hC.out.2.1 hC.out.2.2)
   have hb4:bb.length≤4096:=by
    have:=hC.out.2.2
    rw [List.length_append] at this;omega
   have hy:=HY.out
   clear hC H4 HPT
   obtain ⟨ab,hab⟩:∃z,ds++bb=z:=⟨_,rfl⟩
   have HAB:=Lib.hid hab
   rw [hab] at hy
   rw [hab]
   obtain ⟨lb,hlb⟩:∃z,bb.length=z:=⟨_,rfl⟩
   have HLB:=Lib.hid hlb
   rw [hlb] at hb4
   rw [hlb]
   have hem:=empty_bs ab
   clear hlb
   by_cases h0:ab=[]
   ·rw [if_pos h0] at hy
    subst hy
    have hem':(bs ab).toList.isEmpty=true:=by rw [hem,h0];rfl
    obtain ⟨S,hS⟩:∃S,bs ab=S:=⟨_,rfl⟩
    rw [hS] at hem' ⊢
    clear hem hS h0 hab
    go_wp2_with fail
    refine (HFA.out _ _ H5.out.rd).mono ?_
    rintro e w6 ⟨rfl,rfl⟩
    exact ⟨rfl,rfl,H5.out.gr⟩
   ·rw [if_neg h0] at hy
    have hem':(bs ab).toList.isEmpty=false:=bs_ne h0
    have HNA:Hid (∀c∈ab,isD c=true):=Lib.hid (by
     rw [←hab]
     intro c hc
     rcases List.mem_append.1 hc with hc | hc
     ·exact HD.out.1 c hc
     ·exact HBB.out.1 c hc)
    have HAL:Hid (ab.length≤4096):=Lib.hid (by rw [←hab];exact HBB.out.2)
    obtain ⟨S,hS⟩:∃S,bs ab=S:=⟨_,rfl⟩
    rw [hS] at hem' ⊢
    have HS:=Lib.hid hS
    unfold qryL at hy
    have HY:=Lib.hid hy
    clear hem hS h0 hab hy
    go_wp2_with fail
    refine (HWA.out _ _ H5.out.rd).mono ?_
    intro e w6 h6
    have hy:=HY.out
    cases hw:wantL 63 r3 with
    | error k =>
     rw [hw] at h6 hy
     obtain ⟨rfl,g6⟩:=h6
     subst hy
     exact ⟨rfl,rfl,grownBy_trans H5.out.gr g6⟩
    | ok r4 =>
     rw [hw,bind_ok] at hy
     rw [hw] at h6
     obtain ⟨⟨rfl,h6⟩,g6⟩:=h6
     have H6:=Lib.hid (H5.out.step hbR h6 g6)
     have HY:=Lib.hid hy
     clear h6 g6 hw hy H5
     go_wp2_with fail
     refine (HFI.out _ _ H6.out.rd).mono ?_
     rintro e w7 ⟨rfl,h7,k7⟩
     obtain ⟨rad,hrad⟩:∃z,r4.takeWhile isD=z:=⟨_,rfl⟩
     rw [hrad]
     have H7:=Lib.hid (H6.out.step hbR h7 k7)
     have HRA:Hid ((∀c∈rad,isD c=true)∧rad.length≤4096):=Lib.hid (by
      refine ⟨by rw [←hrad];exact take_all,?_⟩
      have h1:=(List.takeWhile_sublist (l:=r4) isD).length_le
      have h2:=H6.out.rd.1
      have h3:=HL.out
      rw [hrad] at h1
      omega)
     have HRD:=Lib.hid hrad
     have hemr:=empty_bs rad
     obtain ⟨SR,hSR⟩:∃S,bs rad=S:=⟨_,rfl⟩
     rw [hSR] at hemr ⊢
     have HSR:=Lib.hid hSR
     clear h7 k7 hrad hSR H6
     go_upto_region 13 with fail
     go_cut [8] from 8 to 48 (fun ev wx=>ev=.bool (radL r4).1.2∧Hid (UnM w b l (radL r4).2 d x R wx))
     case first =>
      by_cases hr0:rad=[]
      ·have hemt:SR.toList.isEmpty=true:=by rw [hemr,hr0];rfl
       have hr4:r4.dropWhile isD=r4:=tw_nil (HRD.out.trans hr0)
       rw [hr4] at H7
       have hR0:=HRD.out.trans hr0
       have hres:radL r4=(([],(isL 63 r4).1),(isL 63 r4).2):=by
        unfold radL
        by_cases h63:pk r4=63
        ·rw [if_pos ⟨hR0,h63⟩,isL_pk h63 (by decide)]
        ·rw [if_neg (fun e=>h63 e.2),isL_no h63,hr4,hR0]
       have HRES:=Lib.hid hres
       clear hres hR0 hr4 hr0 hemr
       go_wp2_with fail
       refine (HI.out _ _ 63 H7.out.rd (by omega)).mono ?_
       rintro e w8 ⟨rfl,h8,k8⟩
       have H8:=Lib.hid (H7.out.step hbR h8 k8)
       clear h8 k8
       go_wp2
       go_meet
       rw [HRES.out]
       exact ⟨rfl,H8.out⟩
      ·have hemt:SR.toList.isEmpty=false:=by
        rw [hemr];simpa using hr0
       have hres:radL r4=((rad,false),r4.dropWhile isD):=by
        unfold radL
        rw [if_neg (fun e=>hr0 (HRD.out.symm.trans e.1)),HRD.out]
       have HRES:=Lib.hid hres
       clear hres hr0 hemr
       go_wp2
       go_meet
       rw [HRES.out]
       exact ⟨rfl,H7.out⟩
     case rest =>
      obtain ⟨rfl,hC⟩:=hcut
      have H8:=hC
      clear hC H7 HWA HFI
      have hy:=HY.out
      have hrr:(radL r4).1.1=rad:=by
       unfold radL
       by_cases h:r4.takeWhile isD=[]∧pk r4=63
       ·rw [if_pos h];exact h.1.symm.trans HRD.out
       ·rw [if_neg h];exact HRD.out
      rw [hrr] at hy
      obtain ⟨en,hen⟩:∃z,(radL r4).1.2=z:=⟨_,rfl⟩
      obtain ⟨r5,hr5⟩:∃z,(radL r4).2=z:=⟨_,rfl⟩
      rw [hr5] at H8
      rw [hen,hr5] at hy
      rw [hen]
      obtain ⟨wy,hwy⟩:∃z,(wayL r5).1=z:=⟨_,rfl⟩
      obtain ⟨r6,hr6⟩:∃z,(wayL r5).2=z:=⟨_,rfl⟩
      rw [hwy,hr6] at hy
      have HWY:=Lib.hid (And.intro hwy hr6)
      have HY:=Lib.hid hy
      clear hy hrr hen hr5 hwy hr6
      go_wp2_with fail
      refine (HI.out _ _ 117 H8.out.rd (by omega)).mono ?_
      rintro e w9 ⟨rfl,h9,k9⟩
      have H9:=Lib.hid (H8.out.step hbR h9 k9)
      clear h9 k9 H8
      go_upto_if 50 with fail
      go_cut [9,10] from 9 to 52 (fun uv dv wx=>uv=.bool (decide (wy≠2))∧dv=.bool (decide (wy≠1))∧Hid (UnM w b l r6 d x R wx))
      case first =>
       have hw1:=HWY.out
       unfold wayL at hw1
       by_cases hu:pk r5=117
       ·rw [if_pos hu] at hw1
        rw [isL_pk hu (by decide)] at H9 ⊢
        obtain ⟨e1,e2⟩:=hw1
        subst e1
        have H10:Hid (UnM w b l r6 d x R w9):=Lib.hid (e2▸H9.out)
        clear hu e2
        go_wp2
        go_meet
        exact ⟨by simp,by simp,H10⟩
       ·rw [if_neg hu] at hw1
        rw [isL_no hu] at H9 ⊢
        clear hu
        go_wp2_with fail
        refine (HI.out _ _ 100 H9.out.rd (by omega)).mono ?_
        rintro e w10 ⟨rfl,h10,k10⟩
        have H10:=Lib.hid (H9.out.step hbR h10 k10)
        clear h10 k10
        by_cases hd0:pk r5=100
        ·rw [if_pos hd0] at hw1
         rw [isL_pk hd0 (by decide)] at H10 ⊢
         obtain ⟨e1,e2⟩:=hw1
         subst e1
         have H11:Hid (UnM w b l r6 d x R w10):=Lib.hid (e2▸H10.out)
         clear hd0 e2
         go_wp2
         go_meet
         exact ⟨by simp,by simp,H11⟩
        ·rw [if_neg hd0] at hw1
         rw [isL_no hd0] at H10 ⊢
         obtain ⟨e1,e2⟩:=hw1
         subst e1
         have H11:Hid (UnM w b l r6 d x R w10):=Lib.hid (e2▸H10.out)
         clear hd0 e2
         go_wp2
         go_meet
         exact ⟨by simp,by simp,H11⟩
      case rest =>
       obtain ⟨rfl,rfl,hC⟩:=hcut
       have H10:=hC
       clear hC H9
       go_wp2_with fail
       refine (HI.out _ _ 101 H10.out.rd (by omega)).mono ?_
       rintro e w11 ⟨rfl,h11,k11⟩
       have H11:=Lib.hid (H10.out.step hbR h11 k11)
       clear h11 k11 H10
       go_upto_if 54 with fail
       go_cut [5,7,8,9,10] from 5 to 58 (fun cv rv ev uv dv wx=>∃(sc:Int) (ex:Option (Bool×List UInt8×Nat)) (r7:List UInt8),cv=.int .i64 sc∧rv=.string SR∧ev=.bool en∧uv=.bool (decide (wy≠2))∧dv=.bool (decide (wy≠1)) ∧ -14200≤sc∧sc≤10000∧Hid (y=.ok (⟨ng,ds,bb,rad,en,wy,ex⟩,r7)∧sc=unSc ⟨ng,ds,bb,rad,en,wy,ex⟩∧UnM w b l r7 d (lateUn l.length ⟨ng,ds,bb,rad,en,wy,ex⟩ x) R wx))
       case first =>
        have hy:=HY.out
        unfold optE at hy
        by_cases he:pk r6=101
        ·rw [if_pos he,bind_bind] at hy
         rw [isL_pk he (by decide)] at H11 ⊢
         have HY:=Lib.hid hy
         clear hy he
         go_wp2_with fail
         refine (HEX.out _ _ H11.out.rd).mono ?_
         intro e w12 h12
         have hy:=HY.out
         cases hx:expL (r6.drop 1) with
         | error k =>
          rw [hx] at h12 hy
          obtain ⟨rfl,g12⟩:=h12
          subst hy
          exact ⟨rfl,rfl,grownBy_trans H11.out.gr g12⟩
         | ok z =>
          rw [hx,bind_ok,bind_ok] at hy
          rw [hx] at h12
          obtain ⟨⟨rfl,h12⟩,g12⟩:=h12
          have hev : -9999≤expV z.1∧expV z.1≤9999:=by unfold expV;split <;> omega
          obtain ⟨ev,hev2⟩:∃ev,expV z.1=ev:=⟨_,rfl⟩
          rw [hev2] at hev ⊢
          have HEV:=Lib.hid hev2
          have H12:=Lib.hid (H11.out.step hbR h12 g12)
          have HY:=Lib.hid hy
          clear h12 g12 hx hy hev2 H11
          go_wp2
          go_meet
          refine ⟨-(lb:Int)+ev,some z.1,z.2,rfl,rfl,rfl,by simp,by simp,by omega,by omega,HY.out.symm,?_,H12.out⟩
          show _ = -(bb.length:Int)+expV z.1
          rw [HLB.out,HEV.out]
        ·rw [if_neg he,bind_ok] at hy
         rw [isL_no he] at H11 ⊢
         have HY:=Lib.hid hy
         clear hy he
         go_wp2
         go_meet
         refine ⟨-(lb:Int),none,r6,rfl,rfl,rfl,by simp,by simp,by omega,by omega,HY.out.symm,?_,H11.out⟩
         show _ = -(bb.length:Int)+0
         rw [HLB.out,Int.add_zero]
       case rest =>
        obtain ⟨sc,ex,r7,rfl,rfl,rfl,rfl,rfl,hs1,hs2,hC⟩:=hcut
        have HY2:=Lib.hid hC.out.1
        have HSC:=Lib.hid hC.out.2.1
        have H12:=Lib.hid hC.out.2.2
        have HNA1:=Lib.hid (fun W=>lnatural_any ab HNA.out (by have:=HAL.out;omega) W)
        have HNA2:=Lib.hid (fun W=>lnatural_any rad HRA.out.1 (by have:=HRA.out.2;omega) W)
        have hb1:=blenD HNA.out HAL.out
        have hb2:=blenD HRA.out.1 HRA.out.2
        rw [HS.out] at HNA1
        rw [HSR.out] at HNA2
        have HMu:=Lib.hid (fun W n m v u (hv:IsT n v W) (hu:IsT m u W) h h'=>nmul_is hv hu h h')
        have HO:=Lib.hid (fun W n h0 h=>ist_one W n h0 h)
        obtain ⟨NA,hNA⟩:∃N,numB 10 ab=N:=⟨_,rfl⟩
        obtain ⟨NR,hNR⟩:∃N,numB 10 rad=N:=⟨_,rfl⟩
        rw [hNA] at HNA1 hb1
        rw [hNR] at HNA2 hb2
        have HNN:=Lib.hid (And.intro hNA hNR)
        have HBB1:=Lib.hid (And.intro hb1 hb2)
        clear hC HY H11 HI HEX hNA hNR hb1 hb2
        go_wp2_with fail
        refine (HNA1.out _).mono ?_
        rintro e w13 ⟨v1,rfl,hv1,k13⟩
        have H13:Hid (IsT NA v1 w13∧IsT 2 (.slice (some ⟨wc.heap.size,0,none⟩) 1 1) w13∧Below wc.heap.size wc w13):=Lib.hid ⟨hv1,IsT.mono _ _ _ _ k13 (HO.out wc 2 (by omega) (by omega)),raft (rnew _ _) k13⟩
        clear hv1 k13
        go_wp2_with fail
        refine (HMu.out _ _ _ _ _ H13.out.1 H13.out.2.1 (by have:=HBB1.out.1;omega) (by decide)).mono ?_
        rintro e w14 ⟨v2,rfl,⟨mv,v4,rfl,hv2,rfl⟩,k14⟩
        have H14:Hid (IsT (NA*2) mv w14∧IsT 2 (.slice (some ⟨wc.heap.size,0,none⟩) 1 1) w14∧Below wc.heap.size wc w14):=Lib.hid ⟨hv2,IsT.mono _ _ _ _ k14 H13.out.2.1,raft H13.out.2.2 k14⟩
        clear hv2 k14 H13
        go_wp2_with fail
        refine (HNA2.out _).mono ?_
        rintro e w15 ⟨v5,rfl,hv5,k15⟩
        have H15:Hid (IsT NR v5 w15∧IsT (NA*2) mv w15∧IsT 2 (.slice (some ⟨wc.heap.size,0,none⟩) 1 1) w15∧Below wc.heap.size wc w15):=Lib.hid ⟨hv5,IsT.mono _ _ _ _ k15 H14.out.1,IsT.mono _ _ _ _ k15 H14.out.2.1,raft H14.out.2.2 k15⟩
        clear hv5 k15 H14
        go_wp2_with fail
        refine (HMu.out _ _ _ _ _ H15.out.1 H15.out.2.2.1 (by have:=HBB1.out.2;omega) (by decide)).mono ?_
        rintro e w16 ⟨v6,rfl,⟨bv,v8,rfl,hv6,rfl⟩,k16⟩
        have H16:Hid (IsT (NR*2) bv w16∧IsT (NA*2) mv w16∧Below wc.heap.size wc w16):=Lib.hid ⟨hv6,IsT.mono _ _ _ _ k16 H15.out.2.1,raft H15.out.2.2.2 k16⟩
        clear hv6 k16 H15
        obtain ⟨BY,hBY⟩:∃B,unBy ⟨ng,ds,bb,rad,en,wy,ex⟩=B:=⟨_,rfl⟩
        have hby2:BY=if rad=[] then 1 else NR*2:=by rw [←hBY,←HNN.out.2];rfl
        have HBY:=Lib.hid hBY
        have HBY2:=Lib.hid hby2
        clear hBY hby2
        go_upto_if 75 with fail
        go_cut [14] from 14 to 76 (fun bv wx=>Hid (IsT BY bv wx∧IsT (NA*2) mv wx∧Below wc.heap.size wc wx))
        case first =>
         have hb:=HBY2.out
         by_cases hr0:rad=[]
         ·rw [if_pos hr0] at hb
          have hemt:SR.toList.isEmpty=true:=by rw [hemr,hr0];rfl
          have hemu:rad.isEmpty=true:=by rw [hr0];rfl
          clear hemr hr0
          go_wp2
          all_goals first
           | (rename_i hx;rw [hemu] at hx;cases hx;done)
           | (go_meet;rw [hb];exact ⟨HO.out _ 1 (by omega) (by omega),IsT.mono _ _ _ _ (rnew _ _) H16.out.2.1,raft H16.out.2.2 (rnew _ _)⟩)
         ·rw [if_neg hr0] at hb
          have hemt:SR.toList.isEmpty=false:=by rw [hemr];simpa using hr0
          have hemu:rad.isEmpty=false:=by simpa using hr0
          clear hemr hr0
          go_wp2
          all_goals first
           | (rename_i hx;rw [hemu] at hx;cases hx;done)
           | (go_meet;rw [hb];exact H16.out)
        case rest =>
         have H17:=hcut
         clear hcut H16
         go_wp2_with fail
         refine (HE.out _).mono ?_
         rintro e w18 ⟨rfl,k18⟩
         obtain ⟨M,hM⟩:∃M,w18.heap.size=M:=⟨_,rfl⟩
         have hbl:=H12.out.rd.lt
         have hsz12:=H17.out.2.2.size
         have hsz18:=k18.size
         have hR12:R<_:=(Array.getElem?_eq_some_iff.1 H12.out.hr).1
         have hbM:b≠M:=by omega
         have hRM:R≠M:=by omega
         have hgw:=H12.out.gr.size
         have HMW:Hid (w.heap.size≤M):=Lib.hid (by omega)
         have HMB:=Lib.hid (And.intro (IsT.mono _ _ _ _ k18 H17.out.1) (IsT.mono _ _ _ _ k18 H17.out.2.1))
         have h19:BrM w b l r7 d (lateUn l.length ⟨ng,ds,bb,rad,en,wy,ex⟩ x) M R 18442240474082181120 9218868437227405312 false (!en) false (w18.alloc (mO 18442240474082181120 9218868437227405312 false (!en) false { data:=#[] } 0)):=by
          have hb:=raft H17.out.2.2 (raft k18 (rnew w18 (mO 18442240474082181120 9218868437227405312 false (!en) false { data:=#[] } 0)))
          refine ⟨H12.out.rd.later hb,grownBy_trans H12.out.gr (grownBy_below hb),?_,below_keep hb hR12 H12.out.hr⟩
          rw [←hM,heap_alloc_new]
         have H19:=Lib.hid (And.intro h19 (rnew w18 (mO 18442240474082181120 9218868437227405312 false (!en) false { data:=#[] } 0)))
         have HMV:Hid (w18.heap.size≤M):=Lib.hid (by omega)
         have HBL:Hid (blen (NA*2)≤13700∧blen BY≤13700):=Lib.hid (by
          have h1:=HBB1.out
          have e2:blen 2=2:=by decide
          refine ⟨Nat.le_trans (lblen_mul h1.1 (Nat.le_of_eq e2)) (by omega),?_⟩
          rw [HBY2.out]
          split
          ·decide
          ·exact Nat.le_trans (lblen_mul h1.2 (Nat.le_of_eq e2)) (by omega))
         have HMID:Hid (unMid ⟨ng,ds,bb,rad,en,wy,ex⟩=NA*2):=Lib.hid (by
          show numB 10 (ds++bb)*2=_
          rw [HAB.out,HNN.out.1])
         have hM0:=hM
         clear h19 k18 H17 hbl hsz12 hsz18 hR12 hgw HNA1 HNA2 HMu HO
         obtain ⟨dn,hdn⟩:∃z,decide (wy≠1)=z:=⟨_,rfl⟩
         obtain ⟨up,hup⟩:∃z,decide (wy≠2)=z:=⟨_,rfl⟩
         have hdn':(!decide (wy=1))=dn:=by rw [←hdn];simp
         have hup':(!decide (wy=2))=up:=by rw [←hup];simp
         have HDU:=Lib.hid (And.intro hdn hup)
         have hlo:unLo ⟨ng,ds,bb,rad,en,wy,ex⟩=if (en&&dn)=true then 18442240474082181120 else halfP (-1) (hlf ng true dn (NA*2) BY) sc:=by
          unfold unLo;rw [HMID.out,HBY.out,←HSC.out];simp only [hdn]
         have hhi:unHi ⟨ng,ds,bb,rad,en,wy,ex⟩=if (en&&up)=true then 9218868437227405312 else halfP 1 (hlf ng false up (NA*2) BY) sc:=by
          unfold unHi;rw [HMID.out,HBY.out,←HSC.out];simp only [hup]
         have HLO:=Lib.hid hlo
         have HHI:=Lib.hid hhi
         clear hlo hhi hdn hup
         cases en with
         | false =>
          go_wp2_with fail
          refine (half_any (-1) ng true dn (NA*2) BY _ _ _ (IsT.mono _ _ _ _ H19.out.2 HMB.out.2) (IsT.mono _ _ _ _ H19.out.2 HMB.out.1) (by have:=HBL.out.1;omega) (by have:=HBL.out.2;omega) sc hs1 hs2 HBL.out.1 HBL.out.2).mono ?_
          rintro e H20w ⟨v9,rfl,rfl,H20b⟩
          obtain ⟨PH20,hPH20⟩:∃P,halfP (-1) (hlf ng true dn (NA*2) BY) sc=P:=⟨_,rfl⟩
          rw [hPH20]
          have HPH20:=Lib.hid hPH20
          have H20':=Lib.hid (H19.out.1.below H20b)
          obtain ⟨⟨m0,m1,m2,m3,m4,m5,m6⟩,f0,f1,f2,f3,f4,f5,f6⟩:=mO_cells H20'.out.hm
          have H20:=Lib.hid (And.intro (H20'.out.store hbM hRM HMW.out 0 (.float .f64 PH20) ((mO_set H20'.out.hm _).2.2.2.1 _ rfl)) (below_set (H19.out.2.trans (below_le H20b H19.out.2.size)) M 0 (.float .f64 PH20) HMV.out))
          clear H20b hPH20 H19 H20'
          go_wp2_with fail
          refine (half_any (1) ng false up (NA*2) BY _ _ _ (IsT.mono _ _ _ _ H20.out.2 HMB.out.2) (IsT.mono _ _ _ _ H20.out.2 HMB.out.1) (by have:=HBL.out.1;omega) (by have:=HBL.out.2;omega) sc hs1 hs2 HBL.out.1 HBL.out.2).mono ?_
          rintro e H21w ⟨v9,rfl,rfl,H21b⟩
          obtain ⟨PH21,hPH21⟩:∃P,halfP (1) (hlf ng false up (NA*2) BY) sc=P:=⟨_,rfl⟩
          rw [hPH21]
          have HPH21:=Lib.hid hPH21
          have H21':=Lib.hid (H20.out.1.below H21b)
          obtain ⟨⟨m0,m1,m2,m3,m4,m5,m6⟩,f0,f1,f2,f3,f4,f5,f6⟩:=mO_cells H21'.out.hm
          have H21:=Lib.hid (And.intro (H21'.out.store hbM hRM HMW.out 1 (.float .f64 PH21) ((mO_set H21'.out.hm _).2.2.2.2.1 _ rfl)) (below_set (H20.out.2.trans (below_le H21b H20.out.2.size)) M 1 (.float .f64 PH21) HMV.out))
          clear H21b hPH21 H20 H21'
          obtain ⟨⟨y0,y1,y2,y3,y4,y5,y6⟩,_⟩:=mO_cells H21.out.1.hm
          obtain ⟨_,q0,q1,q2,q3,q4,q5,q6⟩:=mO_cells H21.out.1.hr
          go_wp2
          obtain ⟨⟨z0,z1,z2,z3,z4,z5,z6⟩,_⟩:=mO_cells (putM_is (lo':=PH20) (hi':=PH21) (e':=false) (bd':=true) (n':=false) (wd':={ data:=#[] }) (at1:=0) H21.out.1.hr)
          unfold putM at z0 z1 z2 z3 z4 z5 z6
          obtain ⟨f1,f2⟩:=putM_far (lo:=PH20) (hi:=PH21) (e:=false) (bd:=true) (n:=false) (wd:={ data:=#[] }) (at0:=0) H21.out.1.rd hbR H21.out.1.gr (Nat.le_of_eq HR.out)
          refine bodyPost_ret (v:=mV PH20 PH21 false true false { data:=#[] } 0) (by simp [results,Tryz.results57,go_sem,z0,z1,z2,z3,z4,z5,z6]) rfl ?_
          rw [HY2.out]
          refine ⟨⟨?_,f1⟩,f2⟩
          have elo:unLo ⟨ng,ds,bb,rad,false,wy,ex⟩=PH20:=(HLO.out.trans (if_neg (by simp))).trans HPH20.out
          have ehi:unHi ⟨ng,ds,bb,rad,false,wy,ex⟩=PH21:=(HHI.out.trans (if_neg (by simp))).trans HPH21.out
          dsimp only
          rw [elo,ehi]
          rfl
         | true =>
          cases dn with
          | false =>
           go_wp2_with fail
           refine (half_any (-1) ng true false (NA*2) BY _ _ _ (IsT.mono _ _ _ _ H19.out.2 HMB.out.2) (IsT.mono _ _ _ _ H19.out.2 HMB.out.1) (by have:=HBL.out.1;omega) (by have:=HBL.out.2;omega) sc hs1 hs2 HBL.out.1 HBL.out.2).mono ?_
           rintro e H20w ⟨v9,rfl,rfl,H20b⟩
           obtain ⟨PH20,hPH20⟩:∃P,halfP (-1) (hlf ng true false (NA*2) BY) sc=P:=⟨_,rfl⟩
           rw [hPH20]
           have HPH20:=Lib.hid hPH20
           have H20':=Lib.hid (H19.out.1.below H20b)
           obtain ⟨⟨m0,m1,m2,m3,m4,m5,m6⟩,f0,f1,f2,f3,f4,f5,f6⟩:=mO_cells H20'.out.hm
           have H20:=Lib.hid (And.intro (H20'.out.store hbM hRM HMW.out 0 (.float .f64 PH20) ((mO_set H20'.out.hm _).2.2.2.1 _ rfl)) (below_set (H19.out.2.trans (below_le H20b H19.out.2.size)) M 0 (.float .f64 PH20) HMV.out))
           clear H20b hPH20 H19 H20'
           cases up with
           | false =>
            go_wp2_with fail
            refine (half_any (1) ng false false (NA*2) BY _ _ _ (IsT.mono _ _ _ _ H20.out.2 HMB.out.2) (IsT.mono _ _ _ _ H20.out.2 HMB.out.1) (by have:=HBL.out.1;omega) (by have:=HBL.out.2;omega) sc hs1 hs2 HBL.out.1 HBL.out.2).mono ?_
            rintro e H21w ⟨v9,rfl,rfl,H21b⟩
            obtain ⟨PH21,hPH21⟩:∃P,halfP (1) (hlf ng false false (NA*2) BY) sc=P:=⟨_,rfl⟩
            rw [hPH21]
            have HPH21:=Lib.hid hPH21
            have H21':=Lib.hid (H20.out.1.below H21b)
            obtain ⟨⟨m0,m1,m2,m3,m4,m5,m6⟩,f0,f1,f2,f3,f4,f5,f6⟩:=mO_cells H21'.out.hm
            have H21:=Lib.hid (And.intro (H21'.out.store hbM hRM HMW.out 1 (.float .f64 PH21) ((mO_set H21'.out.hm _).2.2.2.2.1 _ rfl)) (below_set (H20.out.2.trans (below_le H21b H20.out.2.size)) M 1 (.float .f64 PH21) HMV.out))
            clear H21b hPH21 H20 H21'
            obtain ⟨⟨y0,y1,y2,y3,y4,y5,y6⟩,_⟩:=mO_cells H21.out.1.hm
            obtain ⟨_,q0,q1,q2,q3,q4,q5,q6⟩:=mO_cells H21.out.1.hr
            go_wp2
            obtain ⟨⟨z0,z1,z2,z3,z4,z5,z6⟩,_⟩:=mO_cells (putM_is (lo':=PH20) (hi':=PH21) (e':=false) (bd':=false) (n':=false) (wd':={ data:=#[] }) (at1:=0) H21.out.1.hr)
            unfold putM at z0 z1 z2 z3 z4 z5 z6
            obtain ⟨f1,f2⟩:=putM_far (lo:=PH20) (hi:=PH21) (e:=false) (bd:=false) (n:=false) (wd:={ data:=#[] }) (at0:=0) H21.out.1.rd hbR H21.out.1.gr (Nat.le_of_eq HR.out)
            refine bodyPost_ret (v:=mV PH20 PH21 false false false { data:=#[] } 0) (by simp [results,Tryz.results57,go_sem,z0,z1,z2,z3,z4,z5,z6]) rfl ?_
            rw [HY2.out]
            refine ⟨⟨?_,f1⟩,f2⟩
            have elo:unLo ⟨ng,ds,bb,rad,true,wy,ex⟩=PH20:=(HLO.out.trans (if_neg (by simp))).trans HPH20.out
            have ehi:unHi ⟨ng,ds,bb,rad,true,wy,ex⟩=PH21:=(HHI.out.trans (if_neg (by simp))).trans HPH21.out
            dsimp only
            rw [elo,ehi]
            rfl
           | true =>
            obtain ⟨⟨y0,y1,y2,y3,y4,y5,y6⟩,_⟩:=mO_cells H20.out.1.hm
            obtain ⟨_,q0,q1,q2,q3,q4,q5,q6⟩:=mO_cells H20.out.1.hr
            go_wp2
            obtain ⟨⟨z0,z1,z2,z3,z4,z5,z6⟩,_⟩:=mO_cells (putM_is (lo':=PH20) (hi':=9218868437227405312) (e':=false) (bd':=false) (n':=false) (wd':={ data:=#[] }) (at1:=0) H20.out.1.hr)
            unfold putM at z0 z1 z2 z3 z4 z5 z6
            obtain ⟨f1,f2⟩:=putM_far (lo:=PH20) (hi:=9218868437227405312) (e:=false) (bd:=false) (n:=false) (wd:={ data:=#[] }) (at0:=0) H20.out.1.rd hbR H20.out.1.gr (Nat.le_of_eq HR.out)
            refine bodyPost_ret (v:=mV PH20 9218868437227405312 false false false { data:=#[] } 0) (by simp [results,Tryz.results57,go_sem,z0,z1,z2,z3,z4,z5,z6]) rfl ?_
            rw [HY2.out]
            refine ⟨⟨?_,f1⟩,f2⟩
            have elo:unLo ⟨ng,ds,bb,rad,true,wy,ex⟩=PH20:=(HLO.out.trans (if_neg (by simp))).trans HPH20.out
            have ehi:unHi ⟨ng,ds,bb,rad,true,wy,ex⟩=9218868437227405312:=HHI.out.trans (if_pos (by simp))
            dsimp only
            rw [elo,ehi]
            rfl
          | true =>
           cases up with
           | false =>
            go_wp2_with fail
            refine (half_any (1) ng false false (NA*2) BY _ _ _ (IsT.mono _ _ _ _ H19.out.2 HMB.out.2) (IsT.mono _ _ _ _ H19.out.2 HMB.out.1) (by have:=HBL.out.1;omega) (by have:=HBL.out.2;omega) sc hs1 hs2 HBL.out.1 HBL.out.2).mono ?_
            rintro e H21w ⟨v9,rfl,rfl,H21b⟩
            obtain ⟨PH21,hPH21⟩:∃P,halfP (1) (hlf ng false false (NA*2) BY) sc=P:=⟨_,rfl⟩
            rw [hPH21]
            have HPH21:=Lib.hid hPH21
            have H21':=Lib.hid (H19.out.1.below H21b)
            obtain ⟨⟨m0,m1,m2,m3,m4,m5,m6⟩,f0,f1,f2,f3,f4,f5,f6⟩:=mO_cells H21'.out.hm
            have H21:=Lib.hid (And.intro (H21'.out.store hbM hRM HMW.out 1 (.float .f64 PH21) ((mO_set H21'.out.hm _).2.2.2.2.1 _ rfl)) (below_set (H19.out.2.trans (below_le H21b H19.out.2.size)) M 1 (.float .f64 PH21) HMV.out))
            clear H21b hPH21 H19 H21'
            obtain ⟨⟨y0,y1,y2,y3,y4,y5,y6⟩,_⟩:=mO_cells H21.out.1.hm
            obtain ⟨_,q0,q1,q2,q3,q4,q5,q6⟩:=mO_cells H21.out.1.hr
            go_wp2
            obtain ⟨⟨z0,z1,z2,z3,z4,z5,z6⟩,_⟩:=mO_cells (putM_is (lo':=18442240474082181120) (hi':=PH21) (e':=false) (bd':=false) (n':=false) (wd':={ data:=#[] }) (at1:=0) H21.out.1.hr)
            unfold putM at z0 z1 z2 z3 z4 z5 z6
            obtain ⟨f1,f2⟩:=putM_far (lo:=18442240474082181120) (hi:=PH21) (e:=false) (bd:=false) (n:=false) (wd:={ data:=#[] }) (at0:=0) H21.out.1.rd hbR H21.out.1.gr (Nat.le_of_eq HR.out)
            refine bodyPost_ret (v:=mV 18442240474082181120 PH21 false false false { data:=#[] } 0) (by simp [results,Tryz.results57,go_sem,z0,z1,z2,z3,z4,z5,z6]) rfl ?_
            rw [HY2.out]
            refine ⟨⟨?_,f1⟩,f2⟩
            have elo:unLo ⟨ng,ds,bb,rad,true,wy,ex⟩=18442240474082181120:=HLO.out.trans (if_pos (by simp))
            have ehi:unHi ⟨ng,ds,bb,rad,true,wy,ex⟩=PH21:=(HHI.out.trans (if_neg (by simp))).trans HPH21.out
            dsimp only
            rw [elo,ehi]
            rfl
           | true =>
            have H19:Hid (BrM w b l r7 d (lateUn l.length ⟨ng,ds,bb,rad,true,wy,ex⟩ x) M R 18442240474082181120 9218868437227405312 false false false (w18.alloc (mO 18442240474082181120 9218868437227405312 false false false { data:=#[] } 0))∧Below w18.heap.size w18 (w18.alloc (mO 18442240474082181120 9218868437227405312 false false false { data:=#[] } 0))):=H19
            go_upto_if 85 with fail
            generalize w18.alloc (mO 18442240474082181120 9218868437227405312 false false false { data:=#[] } 0)=W19 at H19 ⊢
            obtain ⟨⟨y0,y1,y2,y3,y4,y5,y6⟩,_⟩:=mO_cells H19.out.1.hm
            obtain ⟨_,q0,q1,q2,q3,q4,q5,q6⟩:=mO_cells H19.out.1.hr
            go_wp2
            obtain ⟨⟨z0,z1,z2,z3,z4,z5,z6⟩,_⟩:=mO_cells (putM_is (lo':=18442240474082181120) (hi':=9218868437227405312) (e':=false) (bd':=false) (n':=false) (wd':={ data:=#[] }) (at1:=0) H19.out.1.hr)
            unfold putM at z0 z1 z2 z3 z4 z5 z6
            obtain ⟨f1,f2⟩:=putM_far (lo:=18442240474082181120) (hi:=9218868437227405312) (e:=false) (bd:=false) (n:=false) (wd:={ data:=#[] }) (at0:=0) H19.out.1.rd hbR H19.out.1.gr (Nat.le_of_eq HR.out)
            refine bodyPost_ret (v:=mV 18442240474082181120 9218868437227405312 false false false { data:=#[] } 0) (by simp [results,Tryz.results57,go_sem,z0,z1,z2,z3,z4,z5,z6]) rfl ?_
            rw [HY2.out]
            refine ⟨⟨?_,f1⟩,f2⟩
            have elo:unLo ⟨ng,ds,bb,rad,true,wy,ex⟩=18442240474082181120:=HLO.out.trans (if_pos (by simp))
            have ehi:unHi ⟨ng,ds,bb,rad,true,wy,ex⟩=9218868437227405312:=HHI.out.trans (if_pos (by simp))
            dsimp only
            rw [elo,ehi]
            rfl
end Go.Proofs.YtigmpifjcijdbaaGreatDoor
