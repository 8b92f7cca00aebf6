/- Layer 5: the document's Value on texts of the right form. -/
import Derived.Test.YtigmpifjcijdbaaGreatDoorG28
namespace Go.Proofs.YtigmpifjcijdbaaGreatDoor
set_option linter.unusedVariables false
set_option linter.unusedSimpArgs false
open Go.RowKit Verge
set_option maxRecDepth 100000 in
set_option maxHeartbeats 4000000 in
theorem value5_frzero (pre T:List UInt8) (hpre:pre=[43]∨pre=[45]∨pre=[]) (hl:pre.length+T.length≤4096) (c0:UInt8) (hc0:T[0]?=some c0) (hc0n:¬(c0.toNat=43∨c0.toNat=45)) (hfrm:∃s,(fun s=>s=10) s∧frm (run 0 (pre++T))=.ok s) (q:Nat) (a d:List UInt8) (hq:fnd [47] T=(q:Int)) (hTl:T.length=q+1+d.length) (hdr:T.drop (q+1)=d) (htk:T.take q=a) (hfa:a.filter (dgs 10)=a) (hfd:d.filter (dgs 10)=d) (hz0:numB 10 d=0) (w:World) :
  Calls Tryz.prog 5 #[.string (bs (pre++T))] w (Ans w (IsVal (.error (pre.length+T.length - d.length,50)))):=by
 have hs:(bs (pre++T)).size=pre.length+T.length:=by rw [bs_size,List.length_append]
 obtain ⟨S,hS⟩:∃S,bs (pre++T)=S:=⟨_,rfl⟩
 have HSA:=Lib.hid (fun i c h=>(hS▸bs_at (pre++T) i c h:∀hi:i<S.size,S[i]'hi=c))
 have hcut0:(bs (pre++T)).extract pre.length (bs (pre++T)).size=bs T:=by
  rw [hs,bs_sub,List.drop_left,List.take_of_length_le (by omega)]
 have hLp:0<pre.length+T.length:=by have:=(List.getElem?_eq_some_iff.1 hc0).1;omega
 obtain ⟨z,hz,hzc⟩:∃z:UInt8,(pre++T)[0]?=some z∧((pre=[43]∧z=43)∨(pre=[45]∧z=45)∨(pre=[]∧((z.toNat:Int)==43)=false∧((z.toNat:Int)==45)=false)):=by
  rcases hpre with rfl | rfl | rfl
  ·exact ⟨43,rfl,.inl ⟨rfl,rfl⟩⟩
  ·exact ⟨45,rfl,.inr (.inl ⟨rfl,rfl⟩)⟩
  ·exact ⟨c0,hc0,.inr (.inr ⟨rfl,by simp;omega,by simp;omega⟩)⟩
 rw [hS] at hs hcut0 ⊢
 have hzS:=HSA.out 0 z hz (by rw [hs];exact hLp)
 have hTl2:T.length≤4096:=by omega
 have hTs:(bs T).size=T.length:=bs_size T
 obtain ⟨L,hL⟩:∃L,pre.length+T.length=L:=⟨_,rfl⟩
 rw [hL] at hs hl hLp
 rw [hs] at hcut0
 have HL:=Lib.hid (And.intro (show (pre++T).length=L by rw [List.length_append];exact hL) hfrm)
 have hcutE:(bs T).extract (q+1) T.length=bs d:=by
  rw [bs_sub,hdr,List.take_of_length_le (by omega)]
 have hcutQ:(bs T).extract 0 q=bs a:=by rw [bs_sub,List.drop_zero,Nat.sub_zero,htk]
 have hal:a.length≤4096:=by rw [←htk,List.length_take];omega
 have HFND:=Lib.hid (fun W=>find5_any T [47] (by omega) (by decide) W)
 rw [hq] at HFND
 have HWE:=Lib.hid (fun W=>whole5_any d 10 (.inl rfl) (by omega) W)
 rw [hfd,show ((10:Nat):Int)=10 from rfl] at HWE
 rw [hz0] at HWE
 generalize bs T=TT at *
 generalize bs d=EE at *
 clear hq hdr hfa hfd htk hz0
 clear hS hfrm hz hc0 hc0n hpre
 obtain ⟨R,hR⟩:∃R:Except (Nat×Int) (Bool×Nat×Nat×Int),.error (pre.length+T.length - d.length,50)=R:=⟨_,rfl⟩
 rw [hR]
 have HR0:=Lib.hid hR
 clear hR
 obtain ⟨P,hP⟩:∃P:Ending→World→Prop,P=Ans w (IsVal R):=⟨_,rfl⟩
 rw [←hP]
 have HP:=Lib.hid hP
 have HW0:=Lib.hid (raft (rnew w ratO) (rnew _ ratO))
 have HBR:=Lib.hid ((Box.new w).later (rnew _ ratO))
 have hbox:=Box.new (w.alloc ratO)
 rw [show (w.alloc ratO).heap.size=w.heap.size+1 by simp] at hbox
 have HBX:=Lib.hid hbox
 have HZ:=Lib.hid (And.intro hzc (And.intro hzS hcut0))
 obtain ⟨tl,htl⟩:∃tl,T.length=tl:=⟨_,rfl⟩
 rw [htl] at hTs hTl hTl2 hcutE
 have hq1:q+1≤tl:=by omega
 have hqtl:q≤tl:=by omega
 have HC:=Lib.hid (And.intro hcutE (And.intro hTs hcutQ))
 have HTL:=Lib.hid (And.intro hTl (And.intro htl hL))
 clear hcutE hTs hcutQ hTl htl hL
 clear hP hbox hzc hzS hcut0
 go_enter Tryz.func5,Tryz.ntmps5
 go_wp2
 go_loop [6,7] (fun sv iv=>∃i s:Nat,i≤L∧s≤17∧sv=.int .i64 (s:Int)∧iv=.int .i64 (i:Int)∧Hid (run 0 (pre++T)=run s ((pre++T).drop i))) (fun _ iv=>L - (intOf iv).toNat)
 case atStart=>exact ⟨0,0,by omega,by omega,rfl,rfl,rfl⟩
 case round =>
  obtain ⟨i,s,hi,hs17,rfl,rfl,hI⟩:=hrel
  by_cases hlt:i<L
  ·have hltI:(i:Int)<(L:Int):=by omega
   obtain ⟨c,hc⟩:∃c,(pre++T)[i]?=some c:=⟨_,List.getElem?_eq_getElem (by rw [HL.out.1];exact hlt)⟩
   have hcS:=HSA.out i c hc
   have hdr:(pre++T).drop i=c::(pre++T).drop (i+1):=by
    rw [List.drop_eq_getElem_cons (by rw [HL.out.1];exact hlt)]
    congr 1
    exact (List.getElem?_eq_some_iff.1 hc).2
   have HN:=Lib.hid (fun W=>next5_any s (by omega) c W)
   obtain ⟨t,ht⟩:∃t,nx s c=t:=⟨_,rfl⟩
   rw [ht] at HN
   have h18:t≠18:=by
    intro h
    obtain ⟨k,hk1,hk2⟩:=HL.out.2
    rw [hI.out,hdr,run_stop (ht.trans h)] at hk2
    unfold frm at hk2
    rw [if_neg (by simp)] at hk2
    cases hk2
   have hn18:t≤18:=by rw [←ht];exact nx_le s c
   have h18':((t:Int)==18)=false:=by simpa using (by omega:¬(t:Int)=18)
   have HR:=Lib.hid (show run 0 (pre++T)=run t ((pre++T).drop (i+1)) by rw [hI.out,hdr,run_go ht h18])
   have HT:=Lib.hid (show t≤17 by omega)
   clear hc hdr ht hI hn18 h18
   go_wp2_with (go_at_call 13;refine (HN.out _).mono ?_;rintro e w1 ⟨rfl,rfl⟩)
   go_round
   case rel=>exact ⟨i+1,t,by omega,HT.out,rfl,by go_num,HR.out⟩
   case measure=>simp [intOf];omega
  ·obtain rfl:i=L:=by omega
   have hrun:run 0 (pre++T)=(s,[]):=by rw [hI.out,List.drop_of_length_le (by rw [HL.out.1];omega)];rfl
   have hst:(fun s=>s=10) s∧endS s=true:=by
    obtain ⟨k,hk1,hk2⟩:=HL.out.2
    rw [hrun] at hk2
    unfold frm at hk2
    by_cases he:endS s=true
    ·rw [if_pos ⟨rfl,he⟩] at hk2
     injection hk2 with hk2
     subst hk2
     exact ⟨hk1,he⟩
    ·rw [if_neg (fun h=>he h.2)] at hk2
     cases hk2
   obtain ⟨hst,he⟩:=hst
   have HE:=Lib.hid (fun W=>ends5_any s W)
   rw [he] at HE
   clear he hrun hI
   subst hst
   obtain ⟨hcutE,hTs,hcutQ⟩:=HC.out
   have hd0:(dig 0).length=0:=by rw [dig_zero];rfl
   obtain ⟨hzc,hzS,hcut0⟩:=HZ.out
   rcases hzc with ⟨rfl,rfl⟩ | ⟨rfl,rfl⟩ | ⟨rfl,e1,e2⟩
   ·rw [show ([43]:List UInt8).length=1 from rfl] at hcut0
    go_wp2_with (first | (go_at_call 14;refine (HE.out _).mono ?_;rintro e w1 ⟨rfl,rfl⟩) | (go_at_call 15;refine (HFND.out _).mono ?_;rintro e w1 ⟨rfl,hb⟩;have HW0:=Lib.hid (raft HW0.out hb);have HBX:=Lib.hid (HBX.out.later hb);have HBR:=Lib.hid (HBR.out.later hb);obtain ⟨x0,x1,x2,x3,x4,x5⟩:=HBX.out.cells;obtain ⟨y0,y1,y2,y3,y4,y5⟩:=HBR.out.cells;have hrz:=HBR.out.lt;clear hb) | (go_at_call 18;(with_reducible refine (HWE.out _).mono ?_);rintro e w3 ⟨A1,c1,rfl,hR1,hl1,hm1,hb⟩;have HV1:=Lib.hid (show IsN 0 (.slice A1 (dig 0).length c1) w3 from ⟨A1,c1,rfl,hR1⟩);have HW0:=Lib.hid (raft HW0.out hb);have HBX:=Lib.hid (HBX.out.later hb);have HBR:=Lib.hid (HBR.out.later hb);obtain ⟨x0,x1,x2,x3,x4,x5⟩:=HBX.out.cells;obtain ⟨y0,y1,y2,y3,y4,y5⟩:=HBR.out.cells;have hrz:=HBR.out.lt;clear hR1 hl1 hm1 hb))
    have hpl:(1+(q:Int)+1:Int)=((1+T.length - d.length:Nat):Int):=by have:=HTL.out;simp at this;omega
    refine bodyPost_ret (v:=.tuple #[.agg #[.bool false,.slice none 0 0,.slice none 0 0],.int .i64 (1+(q:Int)+1),.int .i64 50]) (by simp [results,Tryz.results5,go_sem,y0,y1,y2,y3,y4,y5,hrz]) rfl ?_
    rw [HP.out]
    refine ⟨_,rfl,?_,put3_below HW0.out (Nat.le_refl _) _ _ _⟩
    rw [←HR0.out]
    show Value.tuple _=Value.tuple _
    rw [hpl]
    rfl
   ·rw [show ([45]:List UInt8).length=1 from rfl] at hcut0
    go_wp2_with (first | (go_at_call 14;refine (HE.out _).mono ?_;rintro e w1 ⟨rfl,rfl⟩) | (go_at_call 15;refine (HFND.out _).mono ?_;rintro e w1 ⟨rfl,hb⟩;have HW0:=Lib.hid (raft HW0.out hb);have HBX:=Lib.hid (HBX.out.later hb);have HBR:=Lib.hid (HBR.out.later hb);obtain ⟨x0,x1,x2,x3,x4,x5⟩:=HBX.out.cells;obtain ⟨y0,y1,y2,y3,y4,y5⟩:=HBR.out.cells;have hrz:=HBR.out.lt;clear hb) | (go_at_call 18;(with_reducible refine (HWE.out _).mono ?_);rintro e w3 ⟨A1,c1,rfl,hR1,hl1,hm1,hb⟩;have HV1:=Lib.hid (show IsN 0 (.slice A1 (dig 0).length c1) w3 from ⟨A1,c1,rfl,hR1⟩);have HW0:=Lib.hid (raft HW0.out hb);have HBX:=Lib.hid (HBX.out.later hb);have HBR:=Lib.hid (HBR.out.later hb);obtain ⟨x0,x1,x2,x3,x4,x5⟩:=HBX.out.cells;obtain ⟨y0,y1,y2,y3,y4,y5⟩:=HBR.out.cells;have hrz:=HBR.out.lt;clear hR1 hl1 hm1 hb))
    have hpl:(1+(q:Int)+1:Int)=((1+T.length - d.length:Nat):Int):=by have:=HTL.out;simp at this;omega
    refine bodyPost_ret (v:=.tuple #[.agg #[.bool false,.slice none 0 0,.slice none 0 0],.int .i64 (1+(q:Int)+1),.int .i64 50]) (by simp [results,Tryz.results5,go_sem,y0,y1,y2,y3,y4,y5,hrz]) rfl ?_
    rw [HP.out]
    refine ⟨_,rfl,?_,put3_below HW0.out (Nat.le_refl _) _ _ _⟩
    rw [←HR0.out]
    show Value.tuple _=Value.tuple _
    rw [hpl]
    rfl
   ·rw [show ([]:List UInt8).length=0 from rfl] at hcut0
    go_wp2_with (first | (go_at_call 14;refine (HE.out _).mono ?_;rintro e w1 ⟨rfl,rfl⟩) | (go_at_call 15;refine (HFND.out _).mono ?_;rintro e w1 ⟨rfl,hb⟩;have HW0:=Lib.hid (raft HW0.out hb);have HBX:=Lib.hid (HBX.out.later hb);have HBR:=Lib.hid (HBR.out.later hb);obtain ⟨x0,x1,x2,x3,x4,x5⟩:=HBX.out.cells;obtain ⟨y0,y1,y2,y3,y4,y5⟩:=HBR.out.cells;have hrz:=HBR.out.lt;clear hb) | (go_at_call 18;(with_reducible refine (HWE.out _).mono ?_);rintro e w3 ⟨A1,c1,rfl,hR1,hl1,hm1,hb⟩;have HV1:=Lib.hid (show IsN 0 (.slice A1 (dig 0).length c1) w3 from ⟨A1,c1,rfl,hR1⟩);have HW0:=Lib.hid (raft HW0.out hb);have HBX:=Lib.hid (HBX.out.later hb);have HBR:=Lib.hid (HBR.out.later hb);obtain ⟨x0,x1,x2,x3,x4,x5⟩:=HBX.out.cells;obtain ⟨y0,y1,y2,y3,y4,y5⟩:=HBR.out.cells;have hrz:=HBR.out.lt;clear hR1 hl1 hm1 hb))
    have hpl:((q:Int)+1:Int)=((0+T.length - d.length:Nat):Int):=by have:=HTL.out;simp at this;omega
    refine bodyPost_ret (v:=.tuple #[.agg #[.bool false,.slice none 0 0,.slice none 0 0],.int .i64 ((q:Int)+1),.int .i64 50]) (by simp [results,Tryz.results5,go_sem,y0,y1,y2,y3,y4,y5,hrz]) rfl ?_
    rw [HP.out]
    refine ⟨_,rfl,?_,put3_below HW0.out (Nat.le_refl _) _ _ _⟩
    rw [←HR0.out]
    show Value.tuple _=Value.tuple _
    rw [hpl]
    rfl
set_option maxRecDepth 100000 in
set_option maxHeartbeats 4000000 in
theorem value5_fr (pre T:List UInt8) (hpre:pre=[43]∨pre=[45]∨pre=[]) (hl:pre.length+T.length≤4096) (c0:UInt8) (hc0:T[0]?=some c0) (hc0n:¬(c0.toNat=43∨c0.toNat=45)) (hfrm:∃s,(fun s=>s=10) s∧frm (run 0 (pre++T))=.ok s) (q:Nat) (a d:List UInt8) (hq:fnd [47] T=(q:Int)) (hTl:T.length=q+1+d.length) (hdr:T.drop (q+1)=d) (htk:T.take q=a) (hfa:a.filter (dgs 10)=a) (hfd:d.filter (dgs 10)=d) (ng:Bool) (hng:ng=decide (pre=[45])) (hd1:0<numB 10 d) (w:World) :
  Calls Tryz.prog 5 #[.string (bs (pre++T))] w (Ans w (IsVal (.ok (ng,numB 10 a,numB 10 d,0)))):=by
 have hs:(bs (pre++T)).size=pre.length+T.length:=by rw [bs_size,List.length_append]
 obtain ⟨S,hS⟩:∃S,bs (pre++T)=S:=⟨_,rfl⟩
 have HSA:=Lib.hid (fun i c h=>(hS▸bs_at (pre++T) i c h:∀hi:i<S.size,S[i]'hi=c))
 have hcut0:(bs (pre++T)).extract pre.length (bs (pre++T)).size=bs T:=by
  rw [hs,bs_sub,List.drop_left,List.take_of_length_le (by omega)]
 have hLp:0<pre.length+T.length:=by have:=(List.getElem?_eq_some_iff.1 hc0).1;omega
 obtain ⟨z,hz,hzc⟩:∃z:UInt8,(pre++T)[0]?=some z∧((pre=[43]∧z=43)∨(pre=[45]∧z=45)∨(pre=[]∧((z.toNat:Int)==43)=false∧((z.toNat:Int)==45)=false)):=by
  rcases hpre with rfl | rfl | rfl
  ·exact ⟨43,rfl,.inl ⟨rfl,rfl⟩⟩
  ·exact ⟨45,rfl,.inr (.inl ⟨rfl,rfl⟩)⟩
  ·exact ⟨c0,hc0,.inr (.inr ⟨rfl,by simp;omega,by simp;omega⟩)⟩
 rw [hS] at hs hcut0 ⊢
 have hzS:=HSA.out 0 z hz (by rw [hs];exact hLp)
 have hTl2:T.length≤4096:=by omega
 have hTs:(bs T).size=T.length:=bs_size T
 obtain ⟨L,hL⟩:∃L,pre.length+T.length=L:=⟨_,rfl⟩
 rw [hL] at hs hl hLp
 rw [hs] at hcut0
 have HL:=Lib.hid (And.intro (show (pre++T).length=L by rw [List.length_append];exact hL) hfrm)
 have hcutE:(bs T).extract (q+1) T.length=bs d:=by
  rw [bs_sub,hdr,List.take_of_length_le (by omega)]
 have hcutQ:(bs T).extract 0 q=bs a:=by rw [bs_sub,List.drop_zero,Nat.sub_zero,htk]
 have hal:a.length≤4096:=by rw [←htk,List.length_take];omega
 have HFND:=Lib.hid (fun W=>find5_any T [47] (by omega) (by decide) W)
 rw [hq] at HFND
 have HWE:=Lib.hid (fun W=>whole5_any d 10 (.inl rfl) (by omega) W)
 rw [hfd,show ((10:Nat):Int)=10 from rfl] at HWE
 have HWQ:=Lib.hid (fun W=>whole5_any a 10 (.inl rfl) (by omega) W)
 rw [hfa] at HWQ
 have b16:∀l:List UInt8,l.filter (dgs 10)=l→l.length≤4096→(dig (numB 10 l)).length≤513:=fun l hf hl=>by
  have h1:numB 10 l<10^l.length:=numB_lt 10 l (fun c hc=>by rw [←hf] at hc;exact dgs_lt (.inl rfl) (List.mem_filter.1 hc).2)
  have:=dig_len16 (n:=numB 10 l) (i:=l.length) (Nat.lt_of_lt_of_le h1 (Nat.pow_le_pow_left (by omega) _))
  omega
 have l1:=b16 a hfa hal
 have l2:=b16 d hfd (by omega)
 have HFR:=Lib.hid (fun W v u (hv:IsN (numB 10 a) v W) (hu:IsN (numB 10 d) u W)=>frac_rv (s:=ng) (e:=0) hd1 hv hu (by simp;omega) (by simp;omega))
 obtain ⟨PP,hPP⟩:∃PP,sv ng (numB 10 a*2^(0:Int).toNat)=PP:=⟨_,rfl⟩
 obtain ⟨PQ,hPQ⟩:∃PQ,numB 10 d*2^(-(0:Int)).toNat=PQ:=⟨_,rfl⟩
 have HR1:∀(n:Bool) (r:Value) (W:World),n=ng→IsRV PP PQ 10000 r W→IsVal (.ok (n,numB 10 a,numB 10 d,0)) (.tuple #[r,.int .i64 0,.int .i64 0]) W:=by
  rintro n r W rfl hr
  refine ⟨r,rfl,?_⟩
  rw [hPP,hPQ];exact hr
 rw [hPP,hPQ] at HFR
 have hdl:=dig_length_pos (show numB 10 d≠0 by omega)
 generalize numB 10 a=NA at *
 generalize numB 10 d=ND at *
 generalize bs T=TT at *
 generalize bs d=EE at *
 generalize bs a=QQ at *
 have hdl2:(((dig ND).length:Int)==0)=false:=by simp;intro h;rw [h] at hdl;simp at hdl
 clear hq hdr hfa hfd htk hd1 b16 l1 l2 hPP hPQ hdl
 clear hS hfrm hz hc0 hc0n hpre
 obtain ⟨R,hR⟩:∃R:Except (Nat×Int) (Bool×Nat×Nat×Int),.ok (ng,NA,ND,0)=R:=⟨_,rfl⟩
 rw [hR]
 have HR0:=Lib.hid hR
 clear hR
 obtain ⟨P,hP⟩:∃P:Ending→World→Prop,P=Ans w (IsVal R):=⟨_,rfl⟩
 rw [←hP]
 have HP:=Lib.hid hP
 have HW0:=Lib.hid (raft (rnew w ratO) (rnew _ ratO))
 have HBR:=Lib.hid ((Box.new w).later (rnew _ ratO))
 have hbox:=Box.new (w.alloc ratO)
 rw [show (w.alloc ratO).heap.size=w.heap.size+1 by simp] at hbox
 have HBX:=Lib.hid hbox
 have HZ:=Lib.hid (And.intro hzc (And.intro hzS hcut0))
 obtain ⟨tl,htl⟩:∃tl,T.length=tl:=⟨_,rfl⟩
 rw [htl] at hTs hTl hTl2 hcutE
 have hq1:q+1≤tl:=by omega
 have hqtl:q≤tl:=by omega
 have HC:=Lib.hid (And.intro hcutE (And.intro hTs hcutQ))
 have HTL:=Lib.hid (And.intro hTl (And.intro htl hL))
 clear hcutE hTs hcutQ hTl htl hL
 have HNG:=Lib.hid (And.intro hng (And.intro HR1 hdl2))
 clear hng HR1 hdl2
 clear hP hbox hzc hzS hcut0
 go_enter Tryz.func5,Tryz.ntmps5
 go_wp2
 go_loop [6,7] (fun sv iv=>∃i s:Nat,i≤L∧s≤17∧sv=.int .i64 (s:Int)∧iv=.int .i64 (i:Int)∧Hid (run 0 (pre++T)=run s ((pre++T).drop i))) (fun _ iv=>L - (intOf iv).toNat)
 case atStart=>exact ⟨0,0,by omega,by omega,rfl,rfl,rfl⟩
 case round =>
  obtain ⟨i,s,hi,hs17,rfl,rfl,hI⟩:=hrel
  by_cases hlt:i<L
  ·have hltI:(i:Int)<(L:Int):=by omega
   obtain ⟨c,hc⟩:∃c,(pre++T)[i]?=some c:=⟨_,List.getElem?_eq_getElem (by rw [HL.out.1];exact hlt)⟩
   have hcS:=HSA.out i c hc
   have hdr:(pre++T).drop i=c::(pre++T).drop (i+1):=by
    rw [List.drop_eq_getElem_cons (by rw [HL.out.1];exact hlt)]
    congr 1
    exact (List.getElem?_eq_some_iff.1 hc).2
   have HN:=Lib.hid (fun W=>next5_any s (by omega) c W)
   obtain ⟨t,ht⟩:∃t,nx s c=t:=⟨_,rfl⟩
   rw [ht] at HN
   have h18:t≠18:=by
    intro h
    obtain ⟨k,hk1,hk2⟩:=HL.out.2
    rw [hI.out,hdr,run_stop (ht.trans h)] at hk2
    unfold frm at hk2
    rw [if_neg (by simp)] at hk2
    cases hk2
   have hn18:t≤18:=by rw [←ht];exact nx_le s c
   have h18':((t:Int)==18)=false:=by simpa using (by omega:¬(t:Int)=18)
   have HR:=Lib.hid (show run 0 (pre++T)=run t ((pre++T).drop (i+1)) by rw [hI.out,hdr,run_go ht h18])
   have HT:=Lib.hid (show t≤17 by omega)
   clear hc hdr ht hI hn18 h18
   go_wp2_with (go_at_call 13;refine (HN.out _).mono ?_;rintro e w1 ⟨rfl,rfl⟩)
   go_round
   case rel=>exact ⟨i+1,t,by omega,HT.out,rfl,by go_num,HR.out⟩
   case measure=>simp [intOf];omega
  ·obtain rfl:i=L:=by omega
   have hrun:run 0 (pre++T)=(s,[]):=by rw [hI.out,List.drop_of_length_le (by rw [HL.out.1];omega)];rfl
   have hst:(fun s=>s=10) s∧endS s=true:=by
    obtain ⟨k,hk1,hk2⟩:=HL.out.2
    rw [hrun] at hk2
    unfold frm at hk2
    by_cases he:endS s=true
    ·rw [if_pos ⟨rfl,he⟩] at hk2
     injection hk2 with hk2
     subst hk2
     exact ⟨hk1,he⟩
    ·rw [if_neg (fun h=>he h.2)] at hk2
     cases hk2
   obtain ⟨hst,he⟩:=hst
   have HE:=Lib.hid (fun W=>ends5_any s W)
   rw [he] at HE
   clear he hrun hI
   subst hst
   obtain ⟨hcutE,hTs,hcutQ⟩:=HC.out
   have hdl2:=HNG.out.2.2
   obtain ⟨hzc,hzS,hcut0⟩:=HZ.out
   rcases hzc with ⟨rfl,rfl⟩ | ⟨rfl,rfl⟩ | ⟨rfl,e1,e2⟩
   ·rw [show ([43]:List UInt8).length=1 from rfl] at hcut0
    obtain rfl:ng=false:=by rw [HNG.out.1];decide
    go_wp2_with (first | (go_at_call 14;refine (HE.out _).mono ?_;rintro e w1 ⟨rfl,rfl⟩) | (go_at_call 15;refine (HFND.out _).mono ?_;rintro e w1 ⟨rfl,hb⟩;have HW0:=Lib.hid (raft HW0.out hb);have HBX:=Lib.hid (HBX.out.later hb);have HBR:=Lib.hid (HBR.out.later hb);obtain ⟨x0,x1,x2,x3,x4,x5⟩:=HBX.out.cells;obtain ⟨y0,y1,y2,y3,y4,y5⟩:=HBR.out.cells;have hrz:=HBR.out.lt;clear hb) | (go_at_call 18;(with_reducible refine (HWE.out _).mono ?_);rintro e w3 ⟨A1,c1,rfl,hR1,hl1,hm1,hb⟩;have HV1:=Lib.hid (show IsN ND (.slice A1 (dig ND).length c1) w3 from ⟨A1,c1,rfl,hR1⟩);have HW0:=Lib.hid (raft HW0.out hb);have HBX:=Lib.hid (HBX.out.later hb);have HBR:=Lib.hid (HBR.out.later hb);obtain ⟨x0,x1,x2,x3,x4,x5⟩:=HBX.out.cells;obtain ⟨y0,y1,y2,y3,y4,y5⟩:=HBR.out.cells;have hrz:=HBR.out.lt;clear hR1 hl1 hm1 hb))
    refine (HWQ.out _).mono ?_
    rintro e w4 ⟨A2,c2,rfl,hR2,hl2,hm2,hb⟩
    have HV1:=Lib.hid (IsN.mono _ _ _ _ hb HV1.out)
    have HV2:=Lib.hid (show IsN NA (.slice A2 (dig NA).length c2) w4 from ⟨A2,c2,rfl,hR2⟩)
    have HW0:=Lib.hid (raft HW0.out hb)
    have HBX:=Lib.hid (HBX.out.later hb)
    have HBR:=Lib.hid (HBR.out.later hb)
    obtain ⟨x0,x1,x2,x3,x4,x5⟩:=HBX.out.cells
    obtain ⟨y0,y1,y2,y3,y4,y5⟩:=HBR.out.cells
    have hrz:=HBR.out.lt
    clear hR2 hl2 hm2 hb
    go_wp2_with fail
    refine (HFR.out _ _ _ HV2.out HV1.out).mono ?_
    rintro e w6 ⟨v6,rfl,hv6,hb⟩
    obtain ⟨sg',A',n',c',B',m',d',hagg⟩:=hv6.agg
    rw [hagg] at hv6
    have HQ:=Lib.hid hv6
    have HW0:=Lib.hid (raft HW0.out hb)
    have HBX:=Lib.hid (HBX.out.later hb)
    have HBR:=Lib.hid (HBR.out.later hb)
    obtain ⟨x0,x1,x2,x3,x4,x5⟩:=HBX.out.cells
    obtain ⟨y0,y1,y2,y3,y4,y5⟩:=HBR.out.cells
    have hrz:=HBR.out.lt
    subst hagg
    clear hb hv6
    go_wp2
    refine bodyPost_ret (v:=.tuple #[.agg #[.bool sg',.slice A' n' c',.slice B' m' d'],.int .i64 0,.int .i64 0]) (by simp [results,Tryz.results5,go_sem,y0,y1,y2,y3,y4,y5,hrz]) rfl ?_
    rw [HP.out]
    refine ⟨_,rfl,?_,put3_below HW0.out (Nat.le_refl _) _ _ _⟩
    rw [←HR0.out]
    exact HNG.out.2.1 _ _ _ rfl (IsRV.put3 HQ.out HBR.out _ _ _)
   ·rw [show ([45]:List UInt8).length=1 from rfl] at hcut0
    obtain rfl:ng=true:=by rw [HNG.out.1];decide
    go_wp2_with (first | (go_at_call 14;refine (HE.out _).mono ?_;rintro e w1 ⟨rfl,rfl⟩) | (go_at_call 15;refine (HFND.out _).mono ?_;rintro e w1 ⟨rfl,hb⟩;have HW0:=Lib.hid (raft HW0.out hb);have HBX:=Lib.hid (HBX.out.later hb);have HBR:=Lib.hid (HBR.out.later hb);obtain ⟨x0,x1,x2,x3,x4,x5⟩:=HBX.out.cells;obtain ⟨y0,y1,y2,y3,y4,y5⟩:=HBR.out.cells;have hrz:=HBR.out.lt;clear hb) | (go_at_call 18;(with_reducible refine (HWE.out _).mono ?_);rintro e w3 ⟨A1,c1,rfl,hR1,hl1,hm1,hb⟩;have HV1:=Lib.hid (show IsN ND (.slice A1 (dig ND).length c1) w3 from ⟨A1,c1,rfl,hR1⟩);have HW0:=Lib.hid (raft HW0.out hb);have HBX:=Lib.hid (HBX.out.later hb);have HBR:=Lib.hid (HBR.out.later hb);obtain ⟨x0,x1,x2,x3,x4,x5⟩:=HBX.out.cells;obtain ⟨y0,y1,y2,y3,y4,y5⟩:=HBR.out.cells;have hrz:=HBR.out.lt;clear hR1 hl1 hm1 hb))
    refine (HWQ.out _).mono ?_
    rintro e w4 ⟨A2,c2,rfl,hR2,hl2,hm2,hb⟩
    have HV1:=Lib.hid (IsN.mono _ _ _ _ hb HV1.out)
    have HV2:=Lib.hid (show IsN NA (.slice A2 (dig NA).length c2) w4 from ⟨A2,c2,rfl,hR2⟩)
    have HW0:=Lib.hid (raft HW0.out hb)
    have HBX:=Lib.hid (HBX.out.later hb)
    have HBR:=Lib.hid (HBR.out.later hb)
    obtain ⟨x0,x1,x2,x3,x4,x5⟩:=HBX.out.cells
    obtain ⟨y0,y1,y2,y3,y4,y5⟩:=HBR.out.cells
    have hrz:=HBR.out.lt
    clear hR2 hl2 hm2 hb
    go_wp2_with fail
    refine (HFR.out _ _ _ HV2.out HV1.out).mono ?_
    rintro e w6 ⟨v6,rfl,hv6,hb⟩
    obtain ⟨sg',A',n',c',B',m',d',hagg⟩:=hv6.agg
    rw [hagg] at hv6
    have HQ:=Lib.hid hv6
    have HW0:=Lib.hid (raft HW0.out hb)
    have HBX:=Lib.hid (HBX.out.later hb)
    have HBR:=Lib.hid (HBR.out.later hb)
    obtain ⟨x0,x1,x2,x3,x4,x5⟩:=HBX.out.cells
    obtain ⟨y0,y1,y2,y3,y4,y5⟩:=HBR.out.cells
    have hrz:=HBR.out.lt
    subst hagg
    clear hb hv6
    go_wp2
    refine bodyPost_ret (v:=.tuple #[.agg #[.bool sg',.slice A' n' c',.slice B' m' d'],.int .i64 0,.int .i64 0]) (by simp [results,Tryz.results5,go_sem,y0,y1,y2,y3,y4,y5,hrz]) rfl ?_
    rw [HP.out]
    refine ⟨_,rfl,?_,put3_below HW0.out (Nat.le_refl _) _ _ _⟩
    rw [←HR0.out]
    exact HNG.out.2.1 _ _ _ rfl (IsRV.put3 HQ.out HBR.out _ _ _)
   ·rw [show ([]:List UInt8).length=0 from rfl] at hcut0
    obtain rfl:ng=false:=by rw [HNG.out.1];decide
    go_wp2_with (first | (go_at_call 14;refine (HE.out _).mono ?_;rintro e w1 ⟨rfl,rfl⟩) | (go_at_call 15;refine (HFND.out _).mono ?_;rintro e w1 ⟨rfl,hb⟩;have HW0:=Lib.hid (raft HW0.out hb);have HBX:=Lib.hid (HBX.out.later hb);have HBR:=Lib.hid (HBR.out.later hb);obtain ⟨x0,x1,x2,x3,x4,x5⟩:=HBX.out.cells;obtain ⟨y0,y1,y2,y3,y4,y5⟩:=HBR.out.cells;have hrz:=HBR.out.lt;clear hb) | (go_at_call 18;(with_reducible refine (HWE.out _).mono ?_);rintro e w3 ⟨A1,c1,rfl,hR1,hl1,hm1,hb⟩;have HV1:=Lib.hid (show IsN ND (.slice A1 (dig ND).length c1) w3 from ⟨A1,c1,rfl,hR1⟩);have HW0:=Lib.hid (raft HW0.out hb);have HBX:=Lib.hid (HBX.out.later hb);have HBR:=Lib.hid (HBR.out.later hb);obtain ⟨x0,x1,x2,x3,x4,x5⟩:=HBX.out.cells;obtain ⟨y0,y1,y2,y3,y4,y5⟩:=HBR.out.cells;have hrz:=HBR.out.lt;clear hR1 hl1 hm1 hb))
    refine (HWQ.out _).mono ?_
    rintro e w4 ⟨A2,c2,rfl,hR2,hl2,hm2,hb⟩
    have HV1:=Lib.hid (IsN.mono _ _ _ _ hb HV1.out)
    have HV2:=Lib.hid (show IsN NA (.slice A2 (dig NA).length c2) w4 from ⟨A2,c2,rfl,hR2⟩)
    have HW0:=Lib.hid (raft HW0.out hb)
    have HBX:=Lib.hid (HBX.out.later hb)
    have HBR:=Lib.hid (HBR.out.later hb)
    obtain ⟨x0,x1,x2,x3,x4,x5⟩:=HBX.out.cells
    obtain ⟨y0,y1,y2,y3,y4,y5⟩:=HBR.out.cells
    have hrz:=HBR.out.lt
    clear hR2 hl2 hm2 hb
    go_wp2_with fail
    refine (HFR.out _ _ _ HV2.out HV1.out).mono ?_
    rintro e w6 ⟨v6,rfl,hv6,hb⟩
    obtain ⟨sg',A',n',c',B',m',d',hagg⟩:=hv6.agg
    rw [hagg] at hv6
    have HQ:=Lib.hid hv6
    have HW0:=Lib.hid (raft HW0.out hb)
    have HBX:=Lib.hid (HBX.out.later hb)
    have HBR:=Lib.hid (HBR.out.later hb)
    obtain ⟨x0,x1,x2,x3,x4,x5⟩:=HBX.out.cells
    obtain ⟨y0,y1,y2,y3,y4,y5⟩:=HBR.out.cells
    have hrz:=HBR.out.lt
    subst hagg
    clear hb hv6
    go_wp2
    refine bodyPost_ret (v:=.tuple #[.agg #[.bool sg',.slice A' n' c',.slice B' m' d'],.int .i64 0,.int .i64 0]) (by simp [results,Tryz.results5,go_sem,y0,y1,y2,y3,y4,y5,hrz]) rfl ?_
    rw [HP.out]
    refine ⟨_,rfl,?_,put3_below HW0.out (Nat.le_refl _) _ _ _⟩
    rw [←HR0.out]
    exact HNG.out.2.1 _ _ _ rfl (IsRV.put3 HQ.out HBR.out _ _ _)
end Go.Proofs.YtigmpifjcijdbaaGreatDoor
