/- Layer 5: the document's value, whole, exponent, behind. -/
import Derived.Test.YtigmpifjcijdbaaGreatDoorG10
import Derived.Laws.OwnMore
section
namespace Go.Proofs.YtigmpifjcijdbaaGreatDoor
set_option linter.unusedVariables false
set_option linter.unusedSimpArgs false
open Go.RowKit Verge
theorem value5_any (c:UInt8) (hc:isX c=true) (w:World):Calls Tryz.prog 39 #[.int .u8 (c.toNat:Int)] w fun e w'=>e=.returned (.int .u32 (dvl c:Nat))∧w=w':=by
 have H:=Lib.hid (fun W=>digit5_any c W)
 have hx:=isX_iff.1 hc
 have hd0:=isD_iff (c:=c)
 have hlt:(c.toNat:Int)≤255:=by have:=c.toNat_lt;omega
 by_cases hd:isD c=true
 ·rw [hd] at H
  have hdd:=hd0.1 hd
  have h1:(48:Int)≤c.toNat:=by omega
  have h2:(c.toNat:Int)≤57:=by omega
  have HV:=Lib.hid (show dvl c=c.toNat - 48 by unfold dvl;rw [if_pos hdd.2])
  clear hd hdd hd0 hx hc
  go_enter Tryz.func39,Tryz.ntmps39
  go_wp2_with (go_at_call 32;refine (H.out _).mono ?_;rintro e w1 ⟨rfl,rfl⟩)
  go_ret
  exact ⟨ret_int (a:=(c.toNat:Int) - 48) (by rw [HV.out];omega),rfl⟩
 ·have hd':isD c=false:=by simpa using hd
  rw [hd'] at H
  by_cases h97:97≤c.toNat
  ·have h1:(97:Int)≤c.toNat:=by omega
   have h2:(c.toNat:Int)≤102:=by
    rcases hx with h | h | h
    ·exact absurd (hd0.2 h) hd
    ·omega
    ·omega
   have HV:=Lib.hid (show dvl c=c.toNat - 87 by unfold dvl;rw [if_neg (by omega),if_pos h97])
   clear hd hd' hd0 hx hc h97
   go_enter Tryz.func39,Tryz.ntmps39
   go_wp2_with (go_at_call 32;refine (H.out _).mono ?_;rintro e w1 ⟨rfl,rfl⟩)
   go_ret
   exact ⟨ret_int (a:=(c.toNat:Int) - 97+10) (by rw [HV.out];omega),rfl⟩
  ·have hr:65≤c.toNat∧c.toNat≤70:=by
    rcases hx with h | h | h
    ·exact absurd (hd0.2 h) hd
    ·omega
    ·exact h
   have h1:(65:Int)≤c.toNat:=by omega
   have h2:(c.toNat:Int)≤70:=by omega
   have h3:decide ((97:Int)≤c.toNat)=false:=decide_eq_false (by omega)
   have HV:=Lib.hid (show dvl c=c.toNat - 55 by unfold dvl;rw [if_neg (by omega),if_neg h97])
   clear hd hd' hd0 hx hc h97 hr
   go_enter Tryz.func39,Tryz.ntmps39
   go_wp2_with (go_at_call 32;refine (H.out _).mono ?_;rintro e w1 ⟨rfl,rfl⟩)
   go_ret
   exact ⟨ret_int (a:=(c.toNat:Int) - 65+10) (by rw [HV.out];omega),rfl⟩
theorem behind5_any (l:List UInt8) (hl:l.length≤100000) (w:World):Calls Tryz.prog 19 #[.string (bs l)] w fun e w'=>e=.returned (.int .i64 (if fnd [46] l<0 then 0 else (l.length:Int) - 1 - fnd [46] l))∧Below w.heap.size w w':=by
 have H:=Lib.hid (fun W=>find5_any l [46] hl (by decide) W)
 have h0 : -1≤fnd [46] l∧fnd [46] l≤100000:=by
  unfold fnd
  split <;> omega
 have hs:(bs l).size=l.length:=bs_size l
 generalize fnd [46] l=f at *
 generalize bs l=S at *
 obtain ⟨L,hL⟩:∃L,l.length=L:=⟨_,rfl⟩
 rw [hL] at hs hl ⊢
 clear hL
 obtain ⟨h1,h2⟩:=h0
 by_cases hf:f<0
 ·rw [if_pos hf]
  go_enter Tryz.func19,Tryz.ntmps19
  go_wp2_with (go_at_call 15;refine (H.out _).mono ?_;rintro e w1 ⟨rfl,hb⟩)
  go_ret
  exact ⟨rfl,by assumption⟩
 ·rw [if_neg hf]
  have hf':decide (f<0)=false:=decide_eq_false hf
  go_enter Tryz.func19,Tryz.ntmps19
  go_wp2_with (go_at_call 15;refine (H.out _).mono ?_;rintro e w1 ⟨rfl,hb⟩)
  go_ret
  exact ⟨rfl,by assumption⟩
theorem sg_from (e:List UInt8):(sg e).2=e.drop (e.length - (sg e).2.length)∧(sg e).2.length≤e.length∧e.length≤(sg e).2.length+1:=by
 rcases sg_text e with ⟨c,hc,he,_⟩ | ⟨h,_⟩
 ·have hl:e.length=(sg e).2.length+1:=by conv=>lhs;rw [he,List.length_cons]
  refine ⟨?_,by omega,by omega⟩
  rw [hl,show (sg e).2.length+1 - (sg e).2.length=1 by omega]
  conv=>rhs;rw [he]
  rfl
 ·rw [h];simp
theorem numB_takeL (b:Nat) (hb:0<b) (l:List UInt8) (k:Nat):numB b (l.take k)≤numB b l:=by
 conv=>rhs;rw [←List.take_append_drop k l]
 exact numB_mono b hb _ _
theorem numB_takeS (b:Nat) (l:List UInt8) (k:Nat) (c:UInt8) (h:l[k]?=some c):numB b (l.take (k+1))=numB b (l.take k)*b+dvl c:=by
 rw [List.take_add_one,h]
 exact numB_snoc b _ c
set_option maxHeartbeats 2000000 in
theorem expo_core (pre D:List UInt8) (hpre:pre=[43]∨pre=[45]∨pre=[]) (h0:D≠[]) (hd:∀c∈D,isD c=true) (hl:D.length≤100000) (w:World) :
  Calls Tryz.prog 16 #[.string (bs (pre++D))] w fun en w'=>en=.returned (.tuple #[.int .i64 (if 9999<numB 10 D then 0 else if pre=[45] then -(numB 10 D:Int) else numB 10 D),.bool (decide (9999<numB 10 D)),.int .i64 (pre.length:Int)])∧w=w':=by
 have HT:=Lib.hid (fun k=>numB_takeL 10 (by omega) D k)
 have HS:=Lib.hid (fun k c=>numB_takeS 10 D k c)
 have hat:∀k,k<D.length→∃c,D[k]?=some c∧(pre++D)[pre.length+k]?=some c∧isD c=true:=by
  intro k hk
  refine ⟨_,List.getElem?_eq_getElem hk,?_,hd _ (List.getElem_mem hk)⟩
  rw [List.getElem?_append_right (by omega),show pre.length+k - pre.length=k by omega]
  exact List.getElem?_eq_getElem hk
 have HAT:=Lib.hid hat
 have hDp:=List.length_pos_iff.2 h0
 have HB:=Lib.hid (fun i c h=>bs_at (pre++D) i c h)
 have hsz:(bs (pre++D)).size=pre.length+D.length:=by rw [bs_size,List.length_append]
 obtain ⟨z,hz,hzc⟩:∃z:UInt8,(pre++D)[0]?=some z∧((pre=[43]∧z=43)∨(pre=[45]∧z=45)∨(pre=[]∧isD z=true)):=by
  rcases hpre with rfl | rfl | rfl
  ·exact ⟨43,rfl,.inl ⟨rfl,rfl⟩⟩
  ·exact ⟨45,rfl,.inr (.inl ⟨rfl,rfl⟩)⟩
  ·obtain ⟨c,hc,_,hh⟩:=hat 0 hDp
   exact ⟨c,by simpa using hc,.inr (.inr ⟨rfl,hh⟩)⟩
 have hz0:=HB.out 0 z hz
 obtain ⟨S,hS⟩:∃S,bs (pre++D)=S:=⟨_,rfl⟩
 simp only [hS] at hsz HB hz0 ⊢
 obtain ⟨L,hL⟩:∃L,D.length=L:=⟨_,rfl⟩
 rw [hL] at hsz hDp hl
 have HN:=Lib.hid (show numB 10 (D.take L)=numB 10 D by rw [←hL,List.take_length])
 rw [hL] at HAT
 obtain ⟨N,hN⟩:∃N,numB 10 D=N:=⟨_,rfl⟩
 simp only [hN] at HT HN ⊢
 have HSS:=Lib.hid hS
 clear hL hat h0 hd hz hpre hN
 obtain ⟨X,hX⟩:∃X:Int,(if 9999<N then 0 else if pre=[45] then -(N:Int) else N)=X:=⟨_,rfl⟩
 obtain ⟨Y,hY⟩:∃Y,decide (9999<N)=Y:=⟨_,rfl⟩
 rw [hX,hY]
 have HXY:=Lib.hid (And.intro hX hY)
 clear hX hY
 rcases hzc with ⟨rfl,rfl⟩ | ⟨rfl,rfl⟩ | ⟨rfl,hzd⟩
 ·simp only [List.length_cons,List.length_nil] at hsz HAT ⊢
  have hz1:=hz0 (by omega)
  clear hz0
  go_enter Tryz.func16,Tryz.ntmps16
  go_wp2
  go_loop [6,7] (fun v iv=>∃j n:Nat,1≤j∧j≤1+L∧iv=.int .i64 (j:Int)∧v=.int .i64 (n:Int)∧n≤9999∧Hid (n=numB 10 (D.take (j - 1)))) (fun _ iv=>1+L - (intOf iv).toNat)
  case atStart=>exact ⟨1,0,by omega,by omega,rfl,rfl,by omega,rfl⟩
  case round =>
   obtain ⟨j,n,hj1,hj2,rfl,rfl,hn,hI⟩:=hrel
   by_cases hlt:j<1+L
   ·have hltI:(j:Int)<(S.size:Int):=by omega
    obtain ⟨c,hc1,hc2,hc3⟩:=HAT.out (j - 1) (by omega)
    rw [show 1+(j - 1)=j by omega] at hc2
    have hcS:=HB.out j c hc2 (by omega)
    have hcd:=isD_iff.1 hc3
    have hc48:(48:Int)≤c.toNat:=by omega
    have hc57:(c.toNat:Int)≤57:=by omega
    have HST:=Lib.hid (show numB 10 (D.take (j+1 - 1))=10*n+(c.toNat - 48) by
     rw [show j+1 - 1=j - 1+1 by omega,HS.out _ _ hc1,←hI.out,(dvl_D hc3).1];omega)
    have HLE:=Lib.hid (HT.out (j+1 - 1))
    obtain ⟨m,hm⟩:∃m,10*n+(c.toNat - 48)=m:=⟨_,rfl⟩
    rw [hm] at HST
    have hmI:10*(n:Int)+((c.toNat:Int) - 48)=(m:Int):=by omega
    have HM:=Lib.hid hm
    clear hc1 hc2 hc3 hcd hm hI
    by_cases hbig:9999<m
    ·have hbI:decide ((9999:Int)<(m:Int))=true:=decide_eq_true (by omega)
     have HF:Hid (9999<N):=Lib.hid (by have:=HST.out;have:=HLE.out;omega)
     clear hbig
     go_wp2
     go_ret3
     refine ⟨?_,rfl⟩
     rw [←HXY.out.1,←HXY.out.2,if_pos HF.out,decide_eq_true HF.out]
     rfl
    ·have hbI:decide ((9999:Int)<(m:Int))=false:=decide_eq_false (by omega)
     have HBG:=Lib.hid hbig
     clear hbig
     go_wp2
     go_round
     case rel=>exact ⟨j+1,m,by omega,by omega,by go_num,rfl,by have:=HBG.out;omega,HST.out.symm⟩
     case measure=>simp [intOf];omega
   ·obtain rfl:j=1+L:=by omega
    have HE:Hid (n=N):=Lib.hid (by rw [←HN.out,hI.out,show 1+L - 1=L by omega])
    have hge:¬((1+L:Nat):Int)<(S.size:Int):=by omega
    clear hI hlt
    go_wp2
    go_ret3
    refine ⟨?_,rfl⟩
    have e:=HE.out
    rw [←HXY.out.1,←HXY.out.2,←e,if_neg (by omega),decide_eq_false (by omega)]
    rfl
 ·simp only [List.length_cons,List.length_nil] at hsz HAT ⊢
  have hz1:=hz0 (by omega)
  clear hz0
  go_enter Tryz.func16,Tryz.ntmps16
  go_wp2
  go_loop [6,7] (fun v iv=>∃j n:Nat,1≤j∧j≤1+L∧iv=.int .i64 (j:Int)∧v=.int .i64 (n:Int)∧n≤9999∧Hid (n=numB 10 (D.take (j - 1)))) (fun _ iv=>1+L - (intOf iv).toNat)
  case atStart=>exact ⟨1,0,by omega,by omega,rfl,rfl,by omega,rfl⟩
  case round =>
   obtain ⟨j,n,hj1,hj2,rfl,rfl,hn,hI⟩:=hrel
   by_cases hlt:j<1+L
   ·have hltI:(j:Int)<(S.size:Int):=by omega
    obtain ⟨c,hc1,hc2,hc3⟩:=HAT.out (j - 1) (by omega)
    rw [show 1+(j - 1)=j by omega] at hc2
    have hcS:=HB.out j c hc2 (by omega)
    have hcd:=isD_iff.1 hc3
    have hc48:(48:Int)≤c.toNat:=by omega
    have hc57:(c.toNat:Int)≤57:=by omega
    have HST:=Lib.hid (show numB 10 (D.take (j+1 - 1))=10*n+(c.toNat - 48) by
     rw [show j+1 - 1=j - 1+1 by omega,HS.out _ _ hc1,←hI.out,(dvl_D hc3).1];omega)
    have HLE:=Lib.hid (HT.out (j+1 - 1))
    obtain ⟨m,hm⟩:∃m,10*n+(c.toNat - 48)=m:=⟨_,rfl⟩
    rw [hm] at HST
    have hmI:10*(n:Int)+((c.toNat:Int) - 48)=(m:Int):=by omega
    have HM:=Lib.hid hm
    clear hc1 hc2 hc3 hcd hm hI
    by_cases hbig:9999<m
    ·have hbI:decide ((9999:Int)<(m:Int))=true:=decide_eq_true (by omega)
     have HF:Hid (9999<N):=Lib.hid (by have:=HST.out;have:=HLE.out;omega)
     clear hbig
     go_wp2
     go_ret3
     refine ⟨?_,rfl⟩
     rw [←HXY.out.1,←HXY.out.2,if_pos HF.out,decide_eq_true HF.out]
     rfl
    ·have hbI:decide ((9999:Int)<(m:Int))=false:=decide_eq_false (by omega)
     have HBG:=Lib.hid hbig
     clear hbig
     go_wp2
     go_round
     case rel=>exact ⟨j+1,m,by omega,by omega,by go_num,rfl,by have:=HBG.out;omega,HST.out.symm⟩
     case measure=>simp [intOf];omega
   ·obtain rfl:j=1+L:=by omega
    have HE:Hid (n=N):=Lib.hid (by rw [←HN.out,hI.out,show 1+L - 1=L by omega])
    have hge:¬((1+L:Nat):Int)<(S.size:Int):=by omega
    clear hI hlt
    go_wp2
    go_ret3
    refine ⟨?_,rfl⟩
    have e:=HE.out
    rw [←HXY.out.1,←HXY.out.2,←e,if_neg (by omega),decide_eq_false (by omega)]
    rfl
 ·simp only [List.length_nil] at hsz HAT ⊢
  have hzd':=isD_iff.1 hzd
  have e1:((z.toNat:Int)==43)=false:=by simp;omega
  have e2:((z.toNat:Int)==45)=false:=by simp;omega
  clear hzd hzd'
  have hz1:=hz0 (by omega)
  clear hz0
  go_enter Tryz.func16,Tryz.ntmps16
  go_wp2
  go_loop [6,7] (fun v iv=>∃j n:Nat,0≤j∧j≤0+L∧iv=.int .i64 (j:Int)∧v=.int .i64 (n:Int)∧n≤9999∧Hid (n=numB 10 (D.take (j - 0)))) (fun _ iv=>1+L - (intOf iv).toNat)
  case atStart=>exact ⟨0,0,by omega,by omega,rfl,rfl,by omega,rfl⟩
  case round =>
   obtain ⟨j,n,hj1,hj2,rfl,rfl,hn,hI⟩:=hrel
   by_cases hlt:j<0+L
   ·have hltI:(j:Int)<(S.size:Int):=by omega
    obtain ⟨c,hc1,hc2,hc3⟩:=HAT.out (j - 0) (by omega)
    rw [show 0+(j - 0)=j by omega] at hc2
    have hcS:=HB.out j c hc2 (by omega)
    have hcd:=isD_iff.1 hc3
    have hc48:(48:Int)≤c.toNat:=by omega
    have hc57:(c.toNat:Int)≤57:=by omega
    have HST:=Lib.hid (show numB 10 (D.take (j+1 - 0))=10*n+(c.toNat - 48) by
     rw [show j+1 - 0=j - 0+1 by omega,HS.out _ _ hc1,←hI.out,(dvl_D hc3).1];omega)
    have HLE:=Lib.hid (HT.out (j+1 - 0))
    obtain ⟨m,hm⟩:∃m,10*n+(c.toNat - 48)=m:=⟨_,rfl⟩
    rw [hm] at HST
    have hmI:10*(n:Int)+((c.toNat:Int) - 48)=(m:Int):=by omega
    have HM:=Lib.hid hm
    clear hc1 hc2 hc3 hcd hm hI
    by_cases hbig:9999<m
    ·have hbI:decide ((9999:Int)<(m:Int))=true:=decide_eq_true (by omega)
     have HF:Hid (9999<N):=Lib.hid (by have:=HST.out;have:=HLE.out;omega)
     clear hbig
     go_wp2
     go_ret3
     refine ⟨?_,rfl⟩
     rw [←HXY.out.1,←HXY.out.2,if_pos HF.out,decide_eq_true HF.out]
     rfl
    ·have hbI:decide ((9999:Int)<(m:Int))=false:=decide_eq_false (by omega)
     have HBG:=Lib.hid hbig
     clear hbig
     go_wp2
     go_round
     case rel=>exact ⟨j+1,m,by omega,by omega,by go_num,rfl,by have:=HBG.out;omega,HST.out.symm⟩
     case measure=>simp [intOf];omega
   ·obtain rfl:j=0+L:=by omega
    have HE:Hid (n=N):=Lib.hid (by rw [←HN.out,hI.out,show 0+L - 0=L by omega])
    have hge:¬((0+L:Nat):Int)<(S.size:Int):=by omega
    clear hI hlt
    go_wp2
    go_ret3
    refine ⟨?_,rfl⟩
    have e:=HE.out
    rw [←HXY.out.1,←HXY.out.2,←e,if_neg (by omega),decide_eq_false (by omega)]
    rfl
theorem exponent5_any (e:List UInt8) (h0:(sg e).2≠[]) (hd:∀c∈(sg e).2,isD c=true) (hl:e.length≤100000) (w:World) :
  Calls Tryz.prog 16 #[.string (bs e)] w fun en w'=>en=.returned (.tuple #[.int .i64 (if 9999<numB 10 (sg e).2 then 0 else xvl e),.bool (decide (9999<numB 10 (sg e).2)),.int .i64 ((e.length - (sg e).2.length:Nat):Int)])∧w=w':=by
 rcases sg_text e with ⟨c,hc,he,h1⟩ | ⟨h,hn⟩
 ·have hl2:e.length=(sg e).2.length+1:=by conv=>lhs;rw [he,List.length_cons]
  unfold xvl
  rw [h1,show e.length - (sg e).2.length=1 by omega]
  generalize (sg e).2=D at *
  subst he
  have hc':c=43∨c=45:=by
   rcases hc with h | h
   ·exact .inl (UInt8.toNat_inj.1 h)
   ·exact .inr (UInt8.toNat_inj.1 h)
  rcases hc' with rfl | rfl
  ·have:=expo_core [43] D (.inl rfl) h0 hd (by omega) w
   simpa using this
  ·have:=expo_core [45] D (.inr (.inl rfl)) h0 hd (by omega) w
   simpa using this
 ·unfold xvl
  rw [h] at h0 hd ⊢
  have:=expo_core [] e (.inr (.inr rfl)) h0 hd hl w
  simpa using this
end Go.Proofs.YtigmpifjcijdbaaGreatDoor
end

section
namespace Go.Proofs.YtigmpifjcijdbaaGreatDoor
set_option linter.unusedVariables false
set_option linter.unusedSimpArgs false
open Go.RowKit Verge
theorem Grow.at {w:World} {B g n cap:Nat} {xs:List Nat} (h:Grow w B (.slice (some ⟨g,0,none⟩) n cap) xs) (hn:xs.length=n) {j x:Nat} (hj:xs[j]?=some x) :
  w.cell? ⟨g,j,none⟩=some (.int .u32 (x:Int))∧w.frozen? ⟨g,j,none⟩=false:=by
 subst hn
 have hlt:j<xs.length:=by
  rw [List.getElem?_eq_some_iff] at hj;exact hj.1
 refine ⟨(World.ownsRow.cellAt h.2 j (by omega)).trans ?_,World.ownsRow.frozenAt h.2 j⟩
 rw [u32s_get,hj]
 rfl
theorem Grow.put {w:World} {B g n cap:Nat} {xs:List Nat} (h:Grow w B (.slice (some ⟨g,0,none⟩) n cap) xs) (hn:xs.length=n) (j v:Nat) (hv:v<4294967296) :
  Grow (w.setCell ⟨g,j,none⟩ (.int .u32 (v:Int))) B (.slice (some ⟨g,0,none⟩) n cap) (xs.set j v):=by
 subst hn
 refine ⟨h.1.set j hv,?_⟩
 have:=(World.ownsRow.stored h.2 j (.int .u32 (v:Int))).1
 rw [List.length_set]
 have e:(u32s xs).set j (.int .u32 (v:Int))=u32s (xs.set j v):=by simp [u32s,List.map_set]
 rw [e] at this
 exact this
theorem Grow.form {w:World} {B:Nat} {v:Value} {xs:List Nat} (h:Grow w B v xs) (hn:0<xs.length):∃g cap,v=.slice (some ⟨g,0,none⟩) xs.length cap∧xs.length≤cap∧cap≤maxLen∧B≤g∧g<w.heap.size:=by
 have hl:=World.ownsRow.lt h.2
 rcases h.2.2 with ⟨_,h0⟩ | ⟨g,cap,cur,rfl,hb,_,h1,h2,_⟩
 ·omega
 ·exact ⟨g,cap,rfl,h1,h2,hb,(hl g rfl).2⟩
theorem Grow.doc {w W:World} {v:Value} {n:Nat} (h:Grow W w.heap.size v (dig n)) (hb:Below w.heap.size w W):Doc w n (.returned v) W:=by
 obtain ⟨A,c,rfl,hR,h1,h2⟩:=h.rd
 exact ⟨A,c,rfl,hR,h1,h2,hb⟩
def dgs (b:Nat) (c:UInt8):Bool:=if b=16 then isX c else isD c
theorem dgs_X {b:Nat} {c:UInt8} (h:dgs b c=true):isX c=true:=by
 unfold dgs at h;split at h
 ·exact h
 ·exact isX_D h
theorem dgs_lt {b:Nat} (hb:b=10∨b=16) {c:UInt8} (h:dgs b c=true):dvl c<b:=by
 unfold dgs at h
 rcases hb with rfl | rfl
 ·exact (dvl_D h).2
 ·exact dvl_X h
theorem filt_step (b:Nat) (l:List UInt8) (i:Nat) (c:UInt8) (h:l[i]?=some c):(l.take (i+1)).filter (dgs b)=(l.take i).filter (dgs b)++if dgs b c then [c] else []:=by
 rw [List.take_add_one,h,List.filter_append]
 by_cases hc:dgs b c=true <;> simp [hc]
theorem dig_len16 {n i:Nat} (h:n<16^i):(dig n).length≤i / 8+1:=by
 rw [dig_length_le,pow32]
 refine Nat.lt_of_lt_of_le h ?_
 rw [show (16:Nat)=2^4 from rfl,←Nat.pow_mul]
 exact Nat.pow_le_pow_right (by omega) (by omega)
theorem whole_step (Z X:List Nat) (j k x d b V:Nat) (hj:j<Z.length) (hx:X.getD j 0=x) (h:val (Z.take j)+k*4294967296^j=b*val (X.take j)+d) :
  val ((Z.set j ((k+x*b)%4294967296)).take (j+1))+(k+x*b) / 4294967296*4294967296^(j+1)=b*val (X.take (j+1))+d:=by
 rw [val_take_set _ _ _ hj,val_take_succ,hx,Nat.pow_succ]
 have hdm:=Nat.div_add_mod (k+x*b) 4294967296
 generalize (k+x*b)%4294967296=r at *
 generalize (k+x*b) / 4294967296=q at *
 generalize 4294967296^j=P at *
 have e1:P*r+q*(P*4294967296)=P*(4294967296*q+r):=by grind
 rw [Nat.add_assoc,e1,hdm]
 grind
theorem whole_end {Z:List Nat} {n N:Nat} (hZ:W32 Z) (hv:val Z=N) (hn:Z.length=(dig n).length) (h:n≤N):Z=dig N:=by
 have h1:dig N=norm Z:=by rw [←hv,dig_val hZ]
 have h2:=dig_length_mono h
 rw [h1,length_norm,←hn] at h2
 rw [h1,norm,List.take_of_length_le h2]
theorem whole_endC {Z:List Nat} {k N:Nat} (hZ:W32 Z) (hk:k<4294967296) (h0:0<k) (hv:val Z+k*4294967296^Z.length=N):Z++[k]=dig N:=by
 have hv2:val (Z++[k])=N:=by
  rw [val_append,←hv,show val [k]=k by simp [val],Nat.mul_comm k]
 have h1:dig N=norm (Z++[k]):=by rw [←hv2,dig_val (hZ.append (W32.cons hk W32.nil))]
 have h2:wl (Z++[k])=Z.length+1:=by
  refine wl_of _ _ (by simp) (fun i x hi hx => ?_) (fun i x hi hx => ?_)
  ·rw [List.getElem?_eq_none (by simp;omega)] at hx;cases hx
  ·obtain rfl:i=Z.length:=by omega
   simp at hx
   omega
 rw [h1,norm,h2,List.take_of_length_le (by simp)]
set_option maxRecDepth 20000 in
set_option maxHeartbeats 8000000 in
theorem whole5_any (l:List UInt8) (base:Nat) (hb:base=10∨base=16) (hl:l.length≤100000) (w:World):Calls Tryz.prog 18 #[.string (bs l),.int .u32 (base:Int)] w (Doc w (numB base (l.filter (dgs base)))):=by
 have hs:(bs l).size=l.length:=bs_size l
 obtain ⟨S,hS⟩:∃S,bs l=S:=⟨_,rfl⟩
 have HSA:=Lib.hid (fun i c h=>(hS▸bs_at l i c h:∀hi:i<S.size,S[i]'hi=c))
 rw [hS] at hs ⊢
 obtain ⟨L,hL⟩:∃L,l.length=L:=⟨_,rfl⟩
 rw [hL] at hs hl
 have HL:=Lib.hid hL
 have HB:=Lib.hid hb
 have hb16:base≤16:=by omega
 clear hS hL hb
 go_enter Tryz.func18,Tryz.ntmps18
 go_wp2
 go_loopw [5,6] (fun lv iv wr=>∃(i n:Nat),i≤L∧iv=.int .i64 (i:Int)∧Hid (n=numB base ((l.take i).filter (dgs base))∧n<base^i∧Grow wr w.heap.size lv (dig n)∧Below w.heap.size w wr)) (fun _ iv _=>L - (intOf iv).toNat)
 case atStart=>exact ⟨0,0,by omega,rfl,rfl,by simp,by rw [dig_zero];exact Grow.nil _ _,Below.refl _ _⟩
 case round =>
  obtain ⟨i,n,hi,rfl,hI⟩:=hrel
  obtain ⟨wo,rfl⟩:∃wo:World,wo=wr:=⟨_,rfl⟩
  by_cases hlt:i<L
  ·have hltI:(i:Int)<(L:Int):=by omega
   obtain ⟨c,hc⟩:∃c,l[i]?=some c:=⟨_,List.getElem?_eq_getElem (by rw [HL.out];exact hlt)⟩
   have hcS:=HSA.out i c hc
   have HF:=Lib.hid (filt_step base l i c hc)
   have HD:=Lib.hid (fun W=>digit5_any c W)
   have HX:=Lib.hid (fun W=>hex5_any c W)
   obtain ⟨A,cap,rfl,hR,hc1,hc2⟩:=hI.out.2.2.1.rd
   clear hc
   by_cases hd:dgs base c=true
   ·have HV:=Lib.hid (fun W=>value5_any c (dgs_X hd) W)
    have hdl:=dgs_lt HB.out hd
    obtain ⟨d,hdd⟩:∃d,dvl c=d:=⟨_,rfl⟩
    rw [hdd] at HV hdl
    have HDD:=Lib.hid (And.intro hd hdd)
    have hcase:isD c=true∨(isD c=false∧isX c=true∧((base:Int)==16)=true):=by
     rcases HB.out with rfl | rfl
     ·exact .inl hd
     ·cases h:isD c
      ·exact .inr ⟨rfl,hd,rfl⟩
      ·exact .inl rfl
    have hG0:=hI.out.2.2.1
    have hN:=dig_len16 (Nat.lt_of_lt_of_le hI.out.2.1 (Nat.pow_le_pow_left hb16 i))
    obtain ⟨X,hX⟩:∃X,dig n=X:=⟨_,rfl⟩
    obtain ⟨N,hN'⟩:∃N,X.length=N:=⟨_,rfl⟩
    rw [hX,hN'] at hN
    rw [hX,hN'] at hc1 ⊢
    have HXX:=Lib.hid (And.intro hX hN')
    have hW:=hI.out.2.2.2
    have HN0:=Lib.hid (And.intro hI.out.1 hI.out.2.1)
    have HG:=Lib.hid (hX▸hG0)
    have hbpos:0<base:=by rcases HB.out with rfl | rfl <;> omega
    clear hX hN' hI hd hdd hG0 hR
    have fin:∀(kk:Nat) (vv:Value) (Z:List Nat) (wr:World),val Z+kk*4294967296^N=base*val X+d→Z.length=N→Grow wr w.heap.size vv (if 0<kk then Z++[kk] else Z)→W32 Z→kk<4294967296→Below w.heap.size w wr →
      ∃(i1 n1:Nat),i1≤L∧(Value.int .i64 ((i:Int)+1))=.int .i64 (i1:Int)∧i<i1∧Hid (n1=numB base ((l.take i1).filter (dgs base))∧n1<base^i1∧Grow wr w.heap.size vv (dig n1)∧Below w.heap.size w wr):=by
     intro kk vv Z wr h1 h2 h3 h4 h5 h6
     obtain ⟨hX,hN'⟩:=HXX.out
     have hv:val X=n:=by rw [←hX,val_dig]
     rw [hv] at h1
     refine ⟨i+1,base*n+d,by omega,by go_num,by omega,?_,?_,?_,h6⟩
     ·rw [HF.out,HDD.out.1,if_pos rfl,numB_snoc,←HN0.out.1,HDD.out.2,Nat.mul_comm]
     ·have:=HN0.out.2
      rw [Nat.pow_succ]
      have h7:base*(n+1)≤base*base^i:=Nat.mul_le_mul_left _ this
      rw [Nat.mul_add,Nat.mul_comm base (base^i)] at h7
      omega
     ·by_cases hk:0<kk
      ·rw [if_pos hk] at h3
       rw [←whole_endC h4 h5 hk (by rw [h2];exact h1)]
       exact h3
      ·obtain rfl:kk=0:=by omega
       rw [if_neg hk] at h3
       rw [Nat.zero_mul,Nat.add_zero] at h1
       rw [←whole_end h4 h1 (by rw [hX,hN'];exact h2) (by have:=Nat.le_mul_of_pos_left n hbpos;omega)]
       exact h3
    have FIN:=Lib.hid fin
    clear fin
    rcases hcase with h1 | ⟨h1,h2,h3⟩
    all_goals
     rw [h1] at HD
     try rw [h2] at HX
     clear h1
     try clear h2
     go_wp2_with (first | (go_at_call 32;refine (HD.out _).mono ?_;rintro e w1 ⟨rfl,rfl⟩) | (go_at_call 38;refine (HX.out _).mono ?_;rintro e w1 ⟨rfl,rfl⟩) | (go_at_call 39;refine (HV.out _).mono ?_;rintro e w1 ⟨rfl,rfl⟩))
     go_loopw [7,8] (fun cv jv wr=>∃(j k:Nat) (Z:List Nat),j≤N∧jv=.int .i64 (j:Int)∧cv=.int .u64 (k:Int)∧k<base∧Hid (Z.length=N∧W32 Z∧val (Z.take j)+k*4294967296^j=base*val (X.take j)+d∧Z.drop j=X.drop j∧Grow wr w.heap.size (.slice A N cap) Z∧Below w.heap.size w wr)) (fun _ jv _=>N - (intOf jv).toNat)
     case atStart =>
      exact ⟨0,d,X,by omega,rfl,rfl,hdl,HXX.out.2,HG.out.1,by simp,rfl,by have:=HG.out;rw [HXX.out.2] at this;exact this,hW⟩
     case round =>
      obtain ⟨j,k,Z,hj,rfl,rfl,hk,hJ⟩:=hrel
      by_cases hjt:j<N
      ·have hjtI:(j:Int)<(N:Int):=by omega
       obtain ⟨h1,h2,h3,h4,h5,h6⟩:=hJ.out
       obtain ⟨g,cap',he,_⟩:=h5.form (by omega)
       simp only [Value.slice.injEq] at he
       obtain ⟨rfl,_,rfl⟩:=he
       have hx:X[j]?=some (X.getD j 0):=get_of_lt X (by rw [HXX.out.2];exact hjt)
       have hz:Z[j]?=X[j]?:=by
        have:=congrArg (fun t=>t[0]?) h4
        simpa using this
       obtain ⟨x,hgx⟩:∃x,X.getD j 0=x:=⟨_,rfl⟩
       rw [hgx] at hx
       obtain ⟨hcell,hfz⟩:=h5.at h1 (hz.trans hx)
       have hx32:x<4294967296:=h2.get (hz.trans hx)
       obtain ⟨q,hq⟩:∃q,x*base=q:=⟨_,rfl⟩
       have hqb:q≤4294967295*base:=by rw [←hq];exact Nat.mul_le_mul_right _ (by omega)
       have hqI:(x:Int)*(base:Int)=(q:Int):=by rw [←hq];simp
       obtain ⟨s,hs⟩:∃s,k+q=s:=⟨_,rfl⟩
       have hsb:s<4294967296*base:=by omega
       have hsI:(k:Int)+(q:Int)=(s:Int):=by omega
       have hmk:=mask64 s (by omega)
       have hmk':Go.bits .and .u64 (s:Int) 4294967295=(s:Int)%4294967296:=by rw [hmk];omega
       have hput:=h5.put h1 j (s%4294967296) (by omega)
       have hpe:((s%4294967296:Nat):Int)=(s:Int)%4294967296:=by omega
       rw [hpe] at hput
       have HPUT:=Lib.hid (And.intro hput (And.intro h6 (show w.heap.size≤g from h5.lt g rfl)))
       have hst:=whole_step Z X j k x d base 0 (by omega) hgx h3
       rw [hq,hs] at hst
       have HST:=Lib.hid (And.intro h1 (And.intro (h2.set j (v:=s%4294967296) (by omega)) (And.intro hst (show (Z.set j (s%4294967296)).drop (j+1)=X.drop (j+1) by
        rw [drop_set_gt _ _ _ _ (by omega),←List.drop_drop,←List.drop_drop,h4]))))
       have HK:=Lib.hid (show s / 4294967296<base by rw [Nat.div_lt_iff_lt_mul (by omega),Nat.mul_comm];exact hsb)
       clear hJ h1 h2 h3 h4 h5 h6 hx hz hgx hq hs hmk hput hpe hst
       go_wp2
       go_roundw
       case rel =>
        exact ⟨j+1,s / 4294967296,Z.set j (s%4294967296),by omega,by go_num,by congr 1 <;> omega,HK.out,by rw [List.length_set];exact HST.out.1,HST.out.2.1,HST.out.2.2.1,HST.out.2.2.2,HPUT.out.1,HPUT.out.2.1.setCell HPUT.out.2.2 _⟩
       case measure=>simp [intOf];omega
      ·obtain rfl:j=N:=by omega
       obtain ⟨h1,h2,h3,h4,h5,h6⟩:=hJ.out
       have t1:Z.take j=Z:=List.take_of_length_le (by omega)
       have t2:X.take j=X:=List.take_of_length_le (by have:=HXX.out.2;omega)
       rw [t1,t2] at h3
       clear t1 t2
       by_cases hk0:0<k
       ·have HH:=Lib.hid (And.intro h3 (And.intro h1 h2))
        have hsz:=h6.size
        have hk32:k<4294967296:=by omega
        have hlen:Z.length+1≤35184372088832:=by rw [h1];omega
        have hkI:(0:Int)<k:=by omega
        clear hJ h1 h2 h3 h4
        go_wp2_with (refine wpList_push rfl _ _ rfl w.heap.size _ Z rfl wr _ k rfl rfl hk32 h5 rfl hlen hsz w h6 ?_;intro v' w1 hG1 hb1)
        obtain ⟨i1,n1,f1,f2,f3,f4⟩:=FIN.out k v' Z w1 HH.out.1 HH.out.2.1 (by rw [if_pos hk0];exact hG1) HH.out.2.2 hk32 hb1
        have F4:=Lib.hid f4
        have F2:=Lib.hid f2
        clear f4 f2 hG1 hb1
        go_wp2
        go_roundw
        case rel=>exact ⟨i1,n1,f1,F2.out,F4.out.out⟩
        case measure =>
         have:=F2.out
         simp at this
         simp [intOf];omega
       ·obtain rfl:k=0:=by omega
        obtain ⟨i1,n1,f1,f2,f3,f4⟩:=FIN.out 0 _ Z wr h3 h1 (by rw [if_neg hk0];exact h5) h2 (by omega) h6
        have F4:=Lib.hid f4
        have F2:=Lib.hid f2
        clear f4 f2 hJ h1 h2 h3 h4 h5 h6 hk0
        go_wp2
        go_roundw
        case rel=>exact ⟨i1,n1,f1,F2.out,F4.out.out⟩
        case measure =>
         have:=F2.out
         simp at this
         simp [intOf];omega
   ·have hd':dgs base c=false:=by simpa using hd
    have hdD:isD c=false:=by
     rcases HB.out with rfl | rfl
     ·exact hd'
     ·cases h:isD c
      ·rfl
      ·rw [show dgs 16 c=isX c from rfl,isX_D h] at hd';cases hd'
    rw [hdD] at HD
    have HI:=Lib.hid (show n=numB base ((l.take (i+1)).filter (dgs base))∧n<base^(i+1)∧Grow wo w.heap.size (.slice A (dig n).length cap) (dig n)∧Below w.heap.size w wo by
     refine ⟨by rw [HF.out,hd'];simpa using hI.out.1,?_,hI.out.2.2⟩
     rw [Nat.pow_succ]
     have h1:=hI.out.2.1
     have:base^i*1≤base^i*base:=Nat.mul_le_mul_left _ (by rcases HB.out with rfl | rfl <;> omega)
     omega)
    clear hI hd hR hc1 hc2
    by_cases h16:base=16
    ·subst h16
     rw [show isX c=false from hd'] at HX
     clear hd' hdD
     go_wp2_with (first | (go_at_call 32;refine (HD.out _).mono ?_;rintro e w1 ⟨rfl,rfl⟩) | (go_at_call 38;refine (HX.out _).mono ?_;rintro e w1 ⟨rfl,rfl⟩))
     go_roundw
     case rel=>first | exact ⟨i+1,n,by omega,by go_num,HI.out⟩ | ((repeat apply Exists.intro);exact ⟨⟨i+1,n,by omega,by go_num,HI.out⟩,rfl⟩)
     case measure=>simp [intOf];omega
    ·have h16':((base:Int)==16)=false:=by simpa using (by omega:¬(base:Int)=16)
     clear hd' hdD h16
     go_wp2_with (first | (go_at_call 32;refine (HD.out _).mono ?_;rintro e w1 ⟨rfl,rfl⟩))
     go_roundw
     case rel=>first | exact ⟨i+1,n,by omega,by go_num,HI.out⟩ | ((repeat apply Exists.intro);exact ⟨⟨i+1,n,by omega,by go_num,HI.out⟩,rfl⟩)
     case measure=>simp [intOf];omega
  ·obtain rfl:i=L:=by omega
   go_wp2
   go_ret
   have:=hI.out.1
   rw [List.take_of_length_le (by have:=HL.out;omega)] at this
   rw [←this]
   exact hI.out.2.2.1.doc hI.out.2.2.2
end Go.Proofs.YtigmpifjcijdbaaGreatDoor
end
