/- Layer 12, the program: the number of digits; an exponent; half of a number. -/
import Derived.Test.YtigmpifjcijdbaaGreatDoorG21
import Derived.Test.YtigmpifjcijdbaaGreatDoorG35
import Derived.Test.YtigmpifjcijdbaaGreatDoorG11
import Derived.Test.YtigmpifjcijdbaaGreatDoorG01
section
namespace Go.Proofs.YtigmpifjcijdbaaGreatDoor
set_option linter.unusedVariables false
set_option linter.unusedSimpArgs false
open Go.RowKit Verge Verge.Lit
theorem ist_one (w:World) (n:Nat) (h0:0<n) (h:n<4294967296):IsT n (.slice (some ⟨w.heap.size,0,none⟩) 1 1) (w.alloc (.cells #[.int .u32 (n:Int)] 52)):=by
 have hd:dig n=[n]:=by
  rw [dig_pos (by omega)]
  rw [Nat.div_eq_of_lt h,dig_zero,Nat.mod_eq_of_lt h]
 have hb:=(Blk.new w #[.int .u32 (n:Int)] [n] (by intro x hx;simp at hx;omega) rfl).rd
 exact ⟨_,by rw [hd];rfl,by rw [hd];exact hb⟩
theorem ist_nil (w:World):IsT 0 (.slice none 0 0) w:=⟨none,by rw [dig_zero];rfl,by rw [dig_zero];exact Rd.nil⟩
theorem nadd_one {n:Nat} {v:Value} {w:World} (k:Nat) (hk:k<4294967296) (hv:IsT n v w) (h:blen (n+k)≤500000):Calls Tryz.prog 77 #[v,.slice (some ⟨w.heap.size,0,none⟩) 1 1] (w.alloc (.cells #[.int .u32 (k:Int)] 52)) (Ans w (Is2 (IsT (n+k)) (IsV (.int .i64 0)))):=by
 have hb:=(Blk.new w #[.int .u32 (k:Int)] [k] (by intro x hx;simp at hx;omega) rfl).rd
 have hB:=rnew w (.cells #[.int .u32 (k:Int)] 52)
 have hv':=IsT.mono n _ _ _ hB hv
 obtain ⟨A,rfl,hR⟩:=hv'
 have hl:=len_of_blen h
 have h1:=dig_length_mono (show n≤n+k by omega)
 have h2:=dig_length_mono (show k≤n+k by omega)
 have e:nadd n k=(dig (n+k),0):=by
  rw [nadd_fit,fit_no ((long_false _).2 (by omega))]
  rw [(long_false _).2 (by omega),(long_false _).2 (by omega)];rfl
 have:=add_any A _ (dig n).length (dig n) (some ⟨w.heap.size,0,none⟩) 1 1 [k] (w.alloc (.cells #[.int .u32 (k:Int)] 52)) hR rfl (Nat.le_refl _) (by omega) hb rfl (Nat.le_refl _) (by omega)
 rw [val_dig,show val [k]=k by simp [val],e] at this
 exact this.mono fun en w' ⟨g,A1,hg,he,hO,hb⟩=>⟨_,he,⟨_,_,rfl,⟨A1,rfl,hO.rd⟩,rfl⟩,raft hB hb⟩
theorem blenT {s:List UInt8} (h:∀c∈s,isD c=true) (hl:s.length≤5000):blen (numB 10 s)≤20000:=blenB (by omega) (fun c hc=>(dvl_D (h c hc)).2) hl
set_option maxRecDepth 100000 in
set_option maxHeartbeats 2000000 in
theorem lnatural_any (s:List UInt8) (hs:∀c∈s,isD c=true) (hl:s.length≤5000) (w:World):Calls Tryz.prog 91 #[.string (bs s)] w (Ans w (IsT (numB 10 s))):=by
 have HMu:=Lib.hid (fun W n m v u (hv:IsT n v W) (hu:IsT m u W) h h'=>nmul_is hv hu h h')
 have HAd:=Lib.hid (fun W n m v u (hv:IsT n v W) (hu:IsT m u W) h=>nadd_is hv hu h)
 have HO:=Lib.hid (fun W n h0 h=>ist_one W n h0 h)
 obtain ⟨cap,W2,hcv,hcb,hcc⟩:=conv_bytes w s
 have hcells:=Lib.hid hcc
 obtain ⟨n,hn⟩:∃n,s.length=n:=⟨_,rfl⟩
 rw [hn] at hcv hl
 have HS:=Lib.hid (And.intro hs hn)
 have HB0:=Lib.hid hcb
 obtain ⟨S,hS⟩:∃S,bs s=S:=⟨_,rfl⟩
 rw [hS] at hcv ⊢
 obtain ⟨g,hg⟩:∃g,w.heap.size=g:=⟨_,rfl⟩
 rw [hg] at hcv
 have HG:=Lib.hid hg
 clear hs hcb hcc hn hS hg
 go_enter Tryz.func91,Tryz.ntmps91
 go_wp2
 go_loopw [3,9] (fun av iv wr=>∃i:Nat,i≤n∧iv=.int .i64 (i:Int)∧Hid (IsT (numB 10 (s.take i)) av wr∧Below w.heap.size w wr∧Below W2.heap.size W2 wr)) (fun _ iv _=>n - (intOf iv).toNat)
 case atStart=>exact ⟨0,by omega,rfl,ist_nil _,HB0.out,Below.refl _ _⟩
 case round =>
  obtain ⟨i,hi,rfl,hI⟩:=hrel
  by_cases hlt:i<n
  ·have hltI:(i:Int)<(n:Int):=by omega
   obtain ⟨c,hc⟩:∃c,s[i]?=some c:=⟨_,List.getElem?_eq_getElem (by rw [HS.out.2];exact hlt)⟩
   have hd:=HS.out.1 c (List.mem_of_getElem? hc)
   have hdi:=isD_iff.1 hd
   have hgw:g<W2.heap.size:=by
    have h:=hcells.out i c hc
    have:=World.block_lt_of_cell? W2 _ h
    rw [HG.out] at this
    exact this
   have hcell:wr.cell? ⟨g,i,none⟩=some (.int .u8 (c.toNat:Int)):=by
    have h:=hcells.out i c hc
    rw [HG.out] at h
    exact (bcell hI.out.2.2 g i hgw).trans h
   have htk:=numB_take hc 10
   rw [(dvl_D hd).1] at htk
   have hbl:blen (numB 10 (s.take i))≤20000:=blenT (fun c hc=>HS.out.1 c (List.mem_of_mem_take hc)) (by rw [List.length_take];omega)
   have hbl2:blen (numB 10 (s.take (i+1)))≤20000:=blenT (fun c hc=>HS.out.1 c (List.mem_of_mem_take hc)) (by rw [List.length_take];have:=HS.out.2;omega)
   have HBL:=Lib.hid (And.intro hbl (And.intro hbl2 htk))
   obtain ⟨k,hk⟩:∃k,c.toNat - 48=k:=⟨_,rfl⟩
   have hck:(c.toNat:Int)=48+(k:Int):=by omega
   have hk9:k≤9:=by omega
   rw [hck] at hcell
   have HK:=Lib.hid hk
   clear hc hd hdi htk hbl hbl2 hk hck hcv
   obtain ⟨W0,rfl⟩:∃W0,W0=wr:=⟨_,rfl⟩
   go_wp2_with fail
   refine (HMu.out _ _ 10 _ _ (IsT.mono _ _ _ _ (rnew W0 _) hI.out.1) (HO.out W0 10 (by omega) (by omega)) (by have:=HBL.out.1;omega) (by decide)).mono ?_
   rintro e w3 ⟨v3,rfl,⟨v4,v5,rfl,hv4,rfl⟩,hb3⟩
   have hb3':Below W0.heap.size W0 w3:=raft (rnew W0 _) hb3
   have H3:=Lib.hid (And.intro hv4 hb3')
   clear hb3 hb3' hv4
   have hw1:IntKind.u8.wrap (48+(k:Int) - 48)=(k:Int):=by simp [IntKind.wrap,IntKind.bits];omega
   go_wp2_with fail
   refine (nadd_one k (by omega) H3.out.1 (by
    have h1:=HBL.out.2.1
    rw [HBL.out.2.2,HK.out] at h1
    omega)).mono ?_
   rintro e w6 ⟨v6,rfl,⟨v7,v8,rfl,hv7,rfl⟩,hb6⟩
   have H6:=Lib.hid (And.intro hv7 (raft H3.out.2 hb6))
   clear hb6 hv7
   go_wp2
   go_roundw
   case rel =>
    refine ⟨i+1,by omega,by go_num,?_,raft hI.out.2.1 H6.out.2,raft hI.out.2.2 H6.out.2⟩
    rw [HBL.out.2.2,HK.out]
    exact H6.out.1
   case measure=>simp [intOf];omega
  ·obtain rfl:n=i:=by omega
   go_wp2
   go_ret
   have:=hI.out
   rw [List.take_of_length_le (by rw [HS.out.2];exact Nat.le_refl _)] at this
   exact ⟨_,rfl,this.1,this.2.1⟩
def expV (y:Bool×List UInt8×Nat):Int:=if y.1=true then -((min (numB 10 y.2.1) 9999:Nat):Int) else ((min (numB 10 y.2.1) 9999:Nat):Int)
def lateX (len:Nat) (y:Bool×List UInt8×Nat) (x:Int×Int):Int×Int:=if 9999<numB 10 y.2.1 then kp x ((len - y.2.2:Nat):Int) 51 else x
theorem isL_sg (r:List UInt8):(isL 45 r).1=(sg r).1∧((isL 45 r).1=true→(isL 45 r).2=(sg r).2)∧((isL 45 r).1=false→(isL 43 (isL 45 r).2).2=(sg r).2):=by
 cases r with
 | nil=>exact ⟨rfl,fun _=>rfl,fun _=>rfl⟩
 | cons c s =>
  by_cases h5:c.toNat=45
  ·have e:isL 45 (c::s)=(true,s):=if_pos ((lo_sym (by omega)).2 h5)
   rw [e,sg_yes (.inr h5)]
   exact ⟨(decide_eq_true h5).symm,fun _=>rfl,fun h=>absurd h (by simp)⟩
  ·have e:isL 45 (c::s)=(false,c::s):=if_neg (fun h=>h5 ((lo_sym (by omega)).1 h))
   rw [e]
   by_cases h3:c.toNat=43
   ·have e:isL 43 (c::s)=(true,s):=if_pos ((lo_sym (by omega)).2 h3)
    dsimp only
    rw [e,sg_yes (.inl h3)]
    exact ⟨(decide_eq_false h5).symm,fun h=>absurd h (by simp),fun _=>rfl⟩
   ·have e:isL 43 (c::s)=(false,c::s):=if_neg (fun h=>h3 ((lo_sym (by omega)).1 h))
    dsimp only
    rw [e,sg_no (by omega)]
    exact ⟨rfl,fun h=>absurd h (by simp),fun _=>rfl⟩
theorem kp_kp (x:Int×Int) (p:Int) (c:Prop) [Decidable c]:kp (if c then kp x p 51 else x) p 51=kp x p 51:=by
 unfold kp
 split
 ·split <;> simp_all
 ·rfl
set_option maxRecDepth 100000 in
set_option maxHeartbeats 2000000 in
theorem lexponent_any (w:World) (b:Nat) (l r:List UInt8) (d:Bool) (x:Int×Int) (h:LR w b l r d x) (hl:l.length≤4096):Calls Tryz.prog 90 #[.pointer (some ⟨b,0,none⟩)] w
  (LAns w b l (expL r) fun y e w'=>e=.returned (.int .i64 (expV y.1))∧LR w' b l y.2 d (lateX l.length y.1 x)):=by
 have HIm:=Lib.hid (lis_any w b l r d x 45 h (by omega) (by omega))
 have HIp:=Lib.hid (fun W s h=>lis_any W b l s d x 43 h (by omega) (by omega))
 have HFI:=Lib.hid (fun W s h=>figures_any W b l s d x h (by omega))
 have HFA:=Lib.hid (fun W s h=>lfail_any W b l s d x h)
 have HKP:=Lib.hid (fun W s z p c h=>keep_any W b l s d z p c h)
 obtain ⟨g1,g2,g3⟩:=isL_sg r
 obtain ⟨y,hy⟩:∃y,expL r=y:=⟨_,rfl⟩
 rw [hy]
 unfold expL at hy
 obtain ⟨r1,hr1⟩:∃r1,(sg r).2=r1:=⟨_,rfl⟩
 obtain ⟨ng,hng⟩:∃n,(sg r).1=n:=⟨_,rfl⟩
 rw [hr1,hng] at hy
 rw [hng] at g1
 rw [hr1] at g2 g3
 have HY:=Lib.hid hy
 have HG:=Lib.hid (And.intro g1 (And.intro g2 g3))
 rw [g1] at HIm
 have HL:=Lib.hid hl
 have HBL:=Lib.hid h.lt
 clear h hy hr1 hng g1 g2 g3 hl
 go_enter Tryz.func90,Tryz.ntmps90
 go_wp2_with fail
 refine (HIm.out).mono ?_
 rintro e w1 ⟨rfl,h1,k1⟩
 have H1:=Lib.hid (And.intro h1 k1)
 clear h1 k1 HIm
 go_upto_if 12 with fail
 go_cut [14] from 13 to 14 (fun s wx=>Hid (LR wx b l r1 d x∧w.grownBy wx (some b)))
 case first =>
  cases ng with
  | true =>
   have:=HG.out.2.1 HG.out.1
   rw [this] at H1
   go_wp2
   go_meet
   exact H1
  | false =>
   have:=HG.out.2.2 HG.out.1
   go_wp2_with fail
   refine (HIp.out _ _ H1.out.1).mono ?_
   rw [this]
   rintro e w2 ⟨rfl,h2,k2⟩
   have H2:=Lib.hid (And.intro h2 (grownBy_trans H1.out.2 k2))
   clear h2 k2
   go_wp2
   go_meet
   exact H2
 case rest =>
  have H2:=hcut
  clear hcut H1 HIp HG
  obtain ⟨q,hq⟩:∃q,l.length - r1.length=q:=⟨_,rfl⟩
  obtain ⟨c0,c1,f0,f1⟩:=H2.out.1.cells rfl hq
  go_wp2_with fail
  refine (HFI.out _ _ H2.out.1).mono ?_
  rintro e w3 ⟨rfl,h3,k3⟩
  have hy:=HY.out
  obtain ⟨ds,hds⟩:∃z,r1.takeWhile isD=z:=⟨_,rfl⟩
  obtain ⟨r2,hr2⟩:∃z,r1.dropWhile isD=z:=⟨_,rfl⟩
  rw [hds,hr2] at hy
  rw [hr2] at h3
  rw [hds]
  have H3:=Lib.hid (And.intro h3 (grownBy_trans H2.out.2 k3))
  have hdd:∀c∈ds,isD c=true:=by rw [←hds];exact take_all
  have hsp:ds++r2=r1:=by rw [←hds,←hr2];exact List.takeWhile_append_dropWhile
  have hem:=empty_bs ds
  have HD:=Lib.hid (And.intro hdd (And.intro hsp hq))
  clear h3 k3 hds hr2 hdd hsp
  by_cases h0:ds=[]
  ·rw [if_pos h0] at hy
   subst h0
   subst hy
   have hem':(bs []).toList.isEmpty=true:=hem
   obtain ⟨S,hS⟩:∃S,bs []=S:=⟨_,rfl⟩
   rw [hS] at hem' ⊢
   clear hem
   have hr:r2=r1:=HD.out.2.1
   go_wp2_with fail
   refine (HFA.out _ _ H3.out.1).mono ?_
   rintro e w4 ⟨rfl,rfl⟩
   rw [hr]
   exact ⟨rfl,rfl,H3.out.2⟩
  ·rw [if_neg h0] at hy
   subst hy
   have hem':(bs ds).toList.isEmpty=false:=bs_ne h0
   obtain ⟨cap,W2,hcv,hcb,hcc⟩:=conv_bytes w3 ds
   obtain ⟨n,hn⟩:∃n,ds.length=n:=⟨_,rfl⟩
   rw [hn] at hcv
   have hn4:n≤4096:=by
    have h1:=congrArg List.length HD.out.2.1
    have h2:=H2.out.1.1
    have h3:=HL.out
    rw [List.length_append] at h1
    omega
   obtain ⟨S,hS⟩:∃S,bs ds=S:=⟨_,rfl⟩
   rw [hS] at hem' hcv ⊢
   obtain ⟨g,hg⟩:∃g,w3.heap.size=g:=⟨_,rfl⟩
   rw [hg] at hcv
   have hbg:b≠g:=by have:=H3.out.1.lt;omega
   have HCC:=Lib.hid (And.intro hcc (And.intro hg hn))
   have H4:=Lib.hid (And.intro (H3.out.1.later hcb) (grownBy_trans H3.out.2 (grownBy_below hcb)))
   clear hem h0 hS hg hcc hcb H3 hn
   go_wp2
   go_loopw [6,28] (fun vv iv wr=>∃i m:Nat,i≤n∧iv=.int .i64 (i:Int)∧vv=.int .i64 (m:Int)∧m≤9999 ∧
    Hid (m=min (numB 10 (ds.take i)) 9999∧LR wr b l r2 d (if 9999<numB 10 (ds.take i) then kp x (q:Int) 51 else x)∧w.grownBy wr (some b)∧∀j c,ds[j]?=some c→wr.cell? ⟨g,j,none⟩=some (.int .u8 (c.toNat:Int)))) (fun _ iv _=>n - (intOf iv).toNat)
   case atStart=>exact ⟨0,0,by omega,rfl,rfl,by omega,by simp [numB],by rw [if_neg (by simp [numB])];exact H4.out.1,H4.out.2,fun j c hj=>by have:=HCC.out.1 j c hj;rw [HCC.out.2.1] at this;exact this⟩
   case round =>
    obtain ⟨i,m,hi,rfl,rfl,hm,hI⟩:=hrel
    by_cases hlt:i<n
    ·have hltI:(i:Int)<(n:Int):=by omega
     obtain ⟨c,hc⟩:∃c,ds[i]?=some c:=⟨_,List.getElem?_eq_getElem (by rw [HCC.out.2.2];exact hlt)⟩
     have hcell:=hI.out.2.2.2 i c hc
     have hd:=HD.out.1 c (List.mem_of_getElem? hc)
     have hdi:=isD_iff.1 hd
     have htk:=numB_take hc 10
     rw [(dvl_D hd).1] at htk
     obtain ⟨k,hk⟩:∃k,c.toNat - 48=k:=⟨_,rfl⟩
     have hck:(c.toNat:Int)=48+(k:Int):=by omega
     have hk9:k≤9:=by omega
     rw [hck] at hcell
     rw [hk] at htk
     have HK:=Lib.hid htk
     have hw1:IntKind.u8.wrap (48+(k:Int) - 48)=(k:Int):=by simp [IntKind.wrap,IntKind.bits];omega
     clear hc hd hdi htk hk hck hcv
     by_cases hbig:9999<10*m+k
     ·have hbigI:(9999:Int)<10*(m:Int)+(k:Int):=by omega
      go_wp2_with fail
      refine (HKP.out _ _ _ _ _ hI.out.2.1).mono ?_
      rintro e w5 ⟨rfl,h5,k5⟩
      rw [kp_kp] at h5
      have H5:=Lib.hid (And.intro h5 k5)
      clear h5 k5
      go_wp2
      go_roundw
      case rel =>
       have hm1:=hI.out.1
       have hb:9999<numB 10 (ds.take (i+1)):=by rw [HK.out];omega
       refine ⟨i+1,9999,by omega,by go_num,rfl,by omega,by omega,?_,grownBy_trans hI.out.2.2.1 H5.out.2,fun j c hj => ?_⟩
       ·rw [if_pos hb];exact H5.out.1
       ·have h1:=hI.out.2.2.2 j c hj
        have h2:=H5.out.2.block g (World.block_lt_of_cell? _ _ h1) (by intro e;injection e with e;exact hbg e.symm)
        rw [World.cell?_of_block (a:=⟨g,j,none⟩) h2];exact h1
      case measure=>simp [intOf];omega
     ·have hbigI:¬(9999:Int)<10*(m:Int)+(k:Int):=by omega
      go_wp2
      go_roundw
      case rel =>
       have hm1:=hI.out.1
       have hb:¬9999<numB 10 (ds.take i):=by omega
       have hb2:¬9999<numB 10 (ds.take (i+1)):=by rw [HK.out];omega
       have h2:=hI.out.2.1
       rw [if_neg hb] at h2
       refine ⟨i+1,10*m+k,by omega,by go_num,by go_num,by omega,by rw [HK.out];omega,?_,hI.out.2.2⟩
       rw [if_neg hb2];exact h2
      case measure=>simp [intOf];omega
    ·obtain rfl:n=i:=by omega
     have htk:ds.take n=ds:=List.take_of_length_le (by rw [HCC.out.2.2];exact Nat.le_refl _)
     have hfin:=hI.out
     rw [htk] at hfin
     have HF:=Lib.hid hfin
     clear hfin htk
     cases ng with
     | true =>
      go_wp2
      go_ret
      refine ⟨⟨?_,?_⟩,HF.out.2.2.1⟩
      ·rw [HF.out.1];rfl
      ·show LR _ b l r2 d (if 9999<numB 10 ds then kp x ((l.length - r1.length:Nat):Int) 51 else x)
       rw [HD.out.2.2];exact HF.out.2.1
     | false =>
      go_wp2
      go_ret
      refine ⟨⟨?_,?_⟩,HF.out.2.2.1⟩
      ·rw [HF.out.1];rfl
      ·show LR _ b l r2 d (if 9999<numB 10 ds then kp x ((l.length - r1.length:Nat):Int) 51 else x)
       rw [HD.out.2.2];exact HF.out.2.1
end Go.Proofs.YtigmpifjcijdbaaGreatDoor
end

section
namespace Go.Proofs.YtigmpifjcijdbaaGreatDoor
set_option linter.unusedVariables false
set_option linter.unusedSimpArgs false
open Go.RowKit Verge
set_option maxHeartbeats 1000000 in
theorem less_any (g nl cl:Nat) (L:List Nat) (B:Option Addr) (nb cb:Nat) (Y:List Nat) (w:World)
  (hL:Blk w g L) (hl:L.length=nl) (hY:∀w',w.grownBy w' (some g)→Rd w' B Y) (hn:Y.length=nb) (hle:nb≤nl) (hv:val Y≤val L) (hm:nl≤140737488355328) :
  Calls Tryz.prog 135 #[.slice (some ⟨g,0,none⟩) nl cl,.slice B nb cb] w fun e w'=>e=.returned (.tuple #[]) ∧
   ∃L',w.grownBy w' (some g)∧Blk w' g L'∧L'.length=nl∧val L'+val Y=val L:=by
 have HY:=Lib.hid hY
 have HN:=Lib.hid (And.intro hl (And.intro hn hv))
 have HL:=Lib.hid hL
 clear hY hl hn hL hv
 go_enter Tryz.func135,Tryz.ntmps135
 go_wp2
 go_loopw [4,5,6,9] (fun bv _ _ i wr=>∃(k c:Nat) (L':List Nat),k≤nl∧i=.int .i64 k∧bv=.int .u32 c∧c≤1∧Blk wr g L' ∧
  Hid (L'.length=nl∧val (L'.take k)+val (Y.take k)=val (L.take k)+c*4294967296^k∧L'.drop k=L.drop k)∧w.grownBy wr (some g)) (fun _ _ _ i _=>nl - (intOf i).toNat)
 case atStart=>exact ⟨0,0,L,by omega,rfl,rfl,by omega,HL.out,⟨HN.out.1,by simp,rfl⟩,grownBy_refl w _⟩
 case round =>
  obtain ⟨k,c,L',hk,rfl,rfl,hc,hL',hI,hG⟩:=hrel
  have hlen:=hI.out.1
  by_cases hkn:k<nl
  ·have hcl:=hL'.cell (i:=k) (by omega)
   have hfz:=hL'.frozen k
   have hx32:=hL'.1.getD k
   clear hlen
   obtain ⟨x,hgx⟩:∃x,L'.getD k 0=x:=⟨_,rfl⟩
   rw [hgx] at hcl hx32
   have HGX:=Lib.hid hgx;clear hgx
   by_cases hkb:k<nb
   ·obtain ⟨b,o,rfl,hcy⟩:=(HY.out _ hG).cell (k:=k) (by rw [HN.out.2.1];exact hkb)
    have hy32:=(HY.out _ hG).1.getD k
    obtain ⟨y,hgy⟩:∃y,Y.getD k 0=y:=⟨_,rfl⟩
    rw [hgy] at hcy hy32
    have HGY:=Lib.hid hgy;clear hgy
    have hge:decide (nb≤k)=false:=by simp;omega
    go_wp2_with (go_at_call 128;refine (sub32_any _ _ _ (by omega) (by omega) (by omega) (by omega) (by omega) (by omega) _).mono ?_;rintro e w' ⟨rfl,rfl⟩)
    go_roundw
    case rel =>
     obtain ⟨h1,h2,h3⟩:=hI.out
     obtain ⟨s,hs⟩:∃s:Nat,((x:Int) - y - c)%4294967296=s:=⟨(((x:Int) - y - c)%4294967296).toNat,by omega⟩
     obtain ⟨c',hc'⟩:∃c':Nat,((y:Int)+c - x+4294967295) / 4294967296=c':=⟨(((y:Int)+c - x+4294967295) / 4294967296).toNat,by omega⟩
     obtain ⟨h4,h5⟩:=sub_step L L' Y k c s c' (by omega) (by have:=HN.out.1;omega) h3 h2 (by rw [HGX.out,HGY.out];omega)
     exact ⟨k+1,c',L'.set k s,by omega,by go_num,by rw [hc'],by omega,hL'.setI k (by omega) (by omega) (by omega),⟨by rw [List.length_set];exact h1,h4,h5⟩,grownBy_set hG _ _⟩
    case measure=>simp [intOf];omega
   ·have hgy:Y.getD k 0=0:=getD_ge Y (by rw [HN.out.2.1];omega)
    have HGY:=Lib.hid hgy;clear hgy
    have hge:decide (nb≤k)=true:=by simp;omega
    rcases Nat.eq_zero_or_pos c with h0 | h0
    ·subst h0
     go_wp2
     refine bodyPost_ret (results_none rfl _ _ _) rfl ?_
     obtain ⟨h1,h2,h3⟩:=hI.out
     exact ⟨rfl,L',hG,hL',h1,sub_early L L' Y k (by have:=HN.out.1;omega) (by have:=HN.out.1;omega) h3 (by have:=HN.out.2.1;omega) h2⟩
    ·obtain rfl:c=1:=by omega
     go_wp2_with (go_at_call 128;refine (sub32_any _ _ _ (by omega) (by omega) (by omega) (by omega) (by omega) (by omega) _).mono ?_;rintro e w' ⟨rfl,rfl⟩)
     go_roundw
     case rel =>
      obtain ⟨h1,h2,h3⟩:=hI.out
      obtain ⟨h4,h5⟩:=sub_step L L' Y k 1 ((x+4294967295)%4294967296) (if x=0 then 1 else 0) (by omega) (by have:=HN.out.1;omega) h3 h2 (by rw [HGX.out,HGY.out];split <;> omega)
      exact ⟨k+1,_,L'.set k ((x+4294967295)%4294967296),by omega,by go_num,by congr 1;split <;> omega,by split <;> omega,hL'.setI k (by omega) (by omega) (by omega),⟨by rw [List.length_set];exact h1,h4,h5⟩,grownBy_set hG _ _⟩
     case measure=>simp [intOf];omega
  ·obtain rfl:k=nl:=by omega
   clear hlen
   go_wp2
   go_end0
   obtain ⟨h1,h2,h3⟩:=hI.out
   exact ⟨rfl,L',hG,hL',h1,sub_end L L' Y k c hL'.1 h1 HN.out.1 (by have:=HN.out.2.1;omega) HN.out.2.2 h2⟩
set_option maxHeartbeats 1000000 in
theorem sub_any (A:Option Addr) (n c:Nat) (xs:List Nat) (A':Option Addr) (n' c':Nat) (ys:List Nat) (w:World)
  (h:Rd w A xs) (hn:xs.length=n) (hc:n≤c) (hm:n≤70368744177664) (h':Rd w A' ys) (hn':ys.length=n') (hc':n'≤c') (hm':n'≤70368744177664) :
  Calls Tryz.prog 124 #[.slice A n c,.slice A' n' c'] w fun e w'=>∃g A1,w.heap.size≤g ∧
   e=.returned (.tuple #[.slice A1 (nsub (val xs) (val ys)).1.length (nsub (val xs) (val ys)).1.length,.int .i64 (nsub (val xs) (val ys)).2]) ∧
   Own w' g A1 (nsub (val xs) (val ys)).1∧Below w.heap.size w w':=by
 have hA:∀(o:Obj) (k:Nat),Rd ((w.alloc o).drewN k) A xs:=fun o k=>Rd.drewN (h.keep (fun b o hb=>World.cell?_alloc_lt w _ _ hb)) k
 have hA':∀(o:Obj) (k:Nat),Rd ((w.alloc o).drewN k) A' ys:=fun o k=>Rd.drewN (h'.keep (fun b o hb=>World.cell?_alloc_lt w _ _ hb)) k
 have hB1:∀(o:Obj) (k:Nat),Below w.heap.size w ((w.alloc o).drewN k):=fun o k=>below_drewN ((Below.refl _ w).alloc (Nat.le_refl _) o) k
 have HC:=Lib.hid (cmp_any A n c xs A' n' c' ys w h hn (by omega) h' hn' (by omega))
 by_cases hlt:val xs<val ys
 ·rw [nsub_arg hlt]
  rw [cmp_lt hlt] at HC
  clear hlt
  go_enter Tryz.func124,Tryz.ntmps124
  go_wp2_with (go_at_call 107;refine HC.out.mono ?_;rintro e w' ⟨rfl,kd,rfl⟩)
  go_ret2
  exact ⟨w.heap.size,none,by omega,rfl,Own.nil _ _ _,below_drewN (Below.refl _ w) _⟩
 ·have hcmp:cmp (val xs) (val ys)=0∨cmp (val xs) (val ys)=1:=by
   unfold cmp;rw [if_neg hlt];split <;> simp
  obtain ⟨cv,hcv⟩:∃cv,cmp (val xs) (val ys)=cv:=⟨_,rfl⟩
  rw [hcv] at HC hcmp
  have hcv0:0≤cv:=by omega
  have hcv1:cv≤1:=by omega
  clear hcv hcmp
  by_cases hlong:(long (val xs)||long (val ys))=true
  ·rw [nsub_long hlt hlong]
   clear hlt
   go_enter Tryz.func124,Tryz.ntmps124
   go_wp2_with (first
    | (go_at_call 107;refine HC.out.mono ?_;rintro e w' ⟨rfl,kd,rfl⟩)
    | (go_at_call 106;refine (long2_any _ A n c xs A' n' c' ys _ (hA _ _) hn (by omega) (hA' _ _) hn' (by omega) (by simp [World.cell?_alloc_new]) (by simp [World.cell?_alloc_new])).mono ?_;rintro e w' ⟨rfl,rfl⟩))
   go_ret2
   exact ⟨w.heap.size,none,by omega,rfl,Own.nil _ _ _,hB1 _ _⟩
  ·have hlong':(long (val xs)||long (val ys))=false:=by simpa using hlong
   clear hlong
   rw [nsub_fit hlt hlong']
   have hlx:wl xs≤16384:=by
    have:=hlong';rw [Bool.or_eq_false_iff,long_false,long_false,←wl_eq h.1,←wl_eq h'.1] at this;exact this.1
   have hly:wl ys≤16384:=by
    have:=hlong';rw [Bool.or_eq_false_iff,long_false,long_false,←wl_eq h.1,←wl_eq h'.1] at this;exact this.2
   have hmono:wl ys≤wl xs:=by
    rw [wl_eq h.1,wl_eq h'.1];exact dig_length_mono (by omega)
   have hlx':(dig (val xs)).length=wl xs:=(wl_eq h.1).symm
   have cut2:=fun W=>run_cut_h W A' n' c' (wl ys) (by have:=wl_le ys;omega)
   have HY:=Lib.hid (fun W hW=>words_any A' n' c' ys W hW hn' (by omega))
   have HV:=Lib.hid (And.intro hlx' (And.intro (show (ys.take (wl ys)).length=wl ys from length_norm ys) (And.intro (show val (ys.take (wl ys))=val ys from val_norm ys) (And.intro hn (And.intro hn' (show val ys≤val xs by omega))))))
   have hWn:wl ys≤n':=by have:=wl_le ys;omega
   have hbx:wl ys≤(dig (val xs)).length∧(dig (val xs)).length≤16384:=by omega
   clear hlx' hn hn' hlt
   go_enter Tryz.func124,Tryz.ntmps124
   go_wp2_with (first
    | (go_at_call 107;refine HC.out.mono ?_;rintro e w' ⟨rfl,kd,rfl⟩)
    | (go_at_call 106;refine (long2_any _ A n c xs A' n' c' ys _ (hA _ _) HV.out.2.2.2.1 (by omega) (hA' _ _) HV.out.2.2.2.2.1 (by omega) (by simp [World.cell?_alloc_new]) (by simp [World.cell?_alloc_new])).mono ?_;rintro e w' ⟨rfl,rfl⟩)
    | fail)
   refine (norm_any A n c xs _ (hA _ _) HV.out.2.2.2.1 hm).mono ?_
   rintro e w2 ⟨g,A2,hg,rfl,-,hB2,rfl,hb⟩
   have hg':w.heap.size+1≤g:=by simpa using hg
   have hbw:Below w.heap.size w w2:=(hB1 _ _).trans (hb.mono (by simp))
   have hY2:=(hA' _ _).below hb
   have hYg:∀w',w2.grownBy w' (some g)→Rd w' A' (ys.take (wl ys)):=fun w' hG=>(h'.take _).keep (bcell (hbw.grown hG (by have:=hbw.size;omega) (by intro k hk;injection hk;omega)))
   have HYg:=Lib.hid hYg
   have HB2:=Lib.hid hB2
   clear hYg hB2 hg hA hA' hB1
   go_wp2_with fail
   refine (HY.out _ hY2).mono ?_
   rintro e w' ⟨rfl,rfl⟩
   go_wp2_with fail
   refine (less_any g _ _ (dig (val xs)) A' (wl ys) c' (ys.take (wl ys)) w2 HB2.out rfl HYg.out HV.out.2.1 hbx.1 (by rw [val_dig,HV.out.2.2.1];exact HV.out.2.2.2.2.2) (by omega)).mono ?_
   rintro e w3 ⟨rfl,L',hG,hL',hlen,hv⟩
   have hb3:Below w.heap.size w w3:=hbw.grown hG (by have:=hbw.size;omega) (by intro k hk;injection hk;omega)
   have hv3:val L'=val xs - val ys:=by rw [val_dig,HV.out.2.2.1] at hv;omega
   have HL:=Lib.hid (And.intro hL' (And.intro hlen hv3))
   clear hL' hlen hv hv3 hG HYg HB2 hY2
   go_wp2_with fail
   refine (fit_any g _ _ L' w3 HL.out.1 HL.out.2.1 (Nat.le_refl _) (by omega)).mono ?_
   rintro e w' ⟨A1,rfl,ho,rfl⟩
   rw [HL.out.2.2] at ho ⊢
   have HO:=Lib.hid ho
   clear ho
   go_wp2
   go_ret2
   exact ⟨g,A1,by omega,rfl,HO.out,hb3⟩
end Go.Proofs.YtigmpifjcijdbaaGreatDoor
end
