/- Layer 5: the document's Value on texts of the right form. -/
import Derived.Test.YtigmpifjcijdbaaGreatDoorG27
namespace Go.Proofs.YtigmpifjcijdbaaGreatDoor
set_option linter.unusedVariables false
set_option linter.unusedSimpArgs false
open Go.RowKit Verge
theorem fnd_app {m pre e:List UInt8} {p:UInt8} (h:∀c∈pre,c∉m) (hp:p∈m):fnd m (pre++p::e)=pre.length:=by
 refine fndN_found (c:=p) (fun k hk d hd => ?_) (by simp) hp
 rw [List.getElem?_append_left hk] at hd
 exact h d (List.mem_of_getElem? hd)
theorem fnd_not {m l:List UInt8} (h:∀c∈l,c∉m):fnd m l = -1:=fnd_none fun k _ d hd=>h d (List.mem_of_getElem? hd)
theorem filt_all {p:UInt8→Bool} {l:List UInt8} (h:∀c∈l,p c=true):l.filter p=l:=List.filter_eq_self.2 h
theorem filt_pt {q:Nat} {a:List UInt8} {b:Option (List UInt8)} (ha:∀c∈a,dgs q c=true) (hb:∀c∈ob b,dgs q c=true):(a++pt b).filter (dgs q)=a++ob b:=by
 rw [List.filter_append,filt_all ha]
 congr 1
 cases b with
 | none=>rfl
 | some b =>
  have h46:dgs q 46=false:=by unfold dgs;split <;> decide
  show (46::b).filter (dgs q)=b
  rw [List.filter_cons_of_neg (by simp [h46])]
  exact filt_all hb
theorem behind_pt {a:List UInt8} {b:Option (List UInt8)} (ha:∀c∈a,c∉[(46:UInt8)]):(if fnd [46] (a++pt b)<0 then 0 else ((a++pt b).length:Int) - 1 - fnd [46] (a++pt b))=((ob b).length:Int):=by
 cases b with
 | none =>
  have:fnd [46] (a++pt none) = -1:=fnd_not (by simpa [pt] using ha)
  rw [this];simp [ob]
 | some b =>
  have:fnd [46] (a++pt (some b))=a.length:=fnd_app ha (by simp)
  rw [this,if_neg (by omega)]
  simp [pt,ob];omega
theorem d_not {m:List UInt8} (hm:∀c∈m,isX c=false) {c:UInt8} (h:isX c=true):c∉m:=fun hc=>by rw [hm c hc] at h;cases h
theorem d_notD {m:List UInt8} (hm:∀c∈m,isD c=false) {c:UInt8} (h:isD c=true):c∉m:=fun hc=>by rw [hm c hc] at h;cases h
theorem u8_mem {c:UInt8} {x y:UInt8} (h:c.toNat=x.toNat∨c.toNat=y.toNat):c∈[x,y]:=by
 rcases h with h | h
 ·rw [UInt8.toNat_inj.1 h];simp
 ·rw [UInt8.toNat_inj.1 h];simp
theorem pt_not {m:List UInt8} {b:Option (List UInt8)} (h:∀c∈ob b,c∉m) (h46:(46:UInt8)∉m):∀c∈pt b,c∉m:=by
 cases b with
 | none=>intro c hc;simp [pt] at hc
 | some b =>
  intro c hc
  rcases List.mem_cons.1 hc with rfl | hc
  ·exact h46
  ·exact h c hc
theorem sg_pre (l:List UInt8):∃pre,(pre=[43]∨pre=[45]∨pre=[])∧l=pre++(sg l).2∧(sg l).1=decide (pre=[45]):=by
 rcases sg_text l with ⟨c,hc,he,h1⟩ | ⟨h,_⟩
 ·rcases hc with h | h
  ·have:c=43:=UInt8.toNat_inj.1 h
   subst this
   exact ⟨[43],.inl rfl,he,by rw [h1];decide⟩
  ·have:c=45:=UInt8.toNat_inj.1 h
   subst this
   exact ⟨[45],.inr (.inl rfl),he,by rw [h1];decide⟩
 ·exact ⟨[],.inr (.inr rfl),by rw [h];rfl,by rw [h];rfl⟩
theorem IsRV.put3 {p:Int} {q k r:Nat} {v:Value} {w:World} (h:IsRV p q k v w) (hB:Box w r) (a b c:Value):IsRV p q k v (put3 w r a b c):=by
 obtain ⟨s,X,Y,⟨x,y,rfl,⟨A,n,rfl,hA⟩,⟨B,m,rfl,hB'⟩⟩,hr⟩:=h
 exact ⟨s,X,Y,⟨_,_,rfl,⟨A,n,rfl,hA.put3 hB a b c⟩,⟨B,m,rfl,hB'.put3 hB a b c⟩⟩,hr⟩
theorem IsRV.agg {p:Int} {q k:Nat} {v:Value} {w:World} (h:IsRV p q k v w):∃s A n c B m d,v=.agg #[.bool s,.slice A n c,.slice B m d]:=by
 obtain ⟨s,X,Y,⟨va,vb,hv,⟨A,c1,ha,hA⟩,⟨B,c2,hb,hB'⟩⟩,_⟩:=h
 exact ⟨s,A,_,c1,B,_,c2,by rw [hv,ha,hb]⟩
theorem frac_rv {s:Bool} {x y:Nat} {e:Int} {v u:Value} {w:World} (hy:0<y) (hv:IsN x v w) (hu:IsN y u w) (h1:e.toNat / 32+(dig x).length+4≤10000) (h2:(-e).toNat / 32+(dig y).length+4≤10000) :
  Calls Tryz.prog 17 #[.bool s,v,u,.int .i64 e] w (Ans w (IsRV (sv s (x*2^e.toNat)) (y*2^(-e).toNat) 10000)):=by
 have:=frac_is s e hv hu (by omega) (by omega)
 rw [val_dig,val_dig] at this
 exact this.mono fun e w' ⟨v,he,hv,hb⟩=>⟨v,he,rv_frac hy hv (by omega) (by omega),hb⟩
theorem ten5_any (n:Nat) (hn:n≤30000) (w:World):Calls Tryz.prog 20 #[.int .i64 (n:Int)] w (Doc w (10^n)):=by
 have hd10:dig 10=[10]:=by rw [dig_pos (by omega)];simp [dig_zero]
 have hl:(dig (10^n)).length≤17592186044000:=by
  have:=dig_len16 (n:=10^n) (i:=n+1) (by
   have h1:10^n≤16^n:=Nat.pow_le_pow_left (by omega) n
   have h2:16^n<16^(n+1):=Nat.pow_lt_pow_right (by omega) (by omega)
   omega)
  omega
 have hv10:val [10]=10:=by simp [val]
 have HT:=Lib.hid (fun W=>(Blk.new W #[.int .u32 10] [10] (W32.cons (by omega) W32.nil) (by simp [u32s])).rd)
 have HP:=Lib.hid (fun W (h:Rd W (some ⟨w.heap.size,0,none⟩) [10])=>rpower_any (some ⟨w.heap.size,0,none⟩) 1 1 [10] n n W rfl (by omega) h rfl (by omega) (by rw [hv10,hd10];decide) (by rw [hv10];exact hl))
 rw [hv10] at HP
 have HB:=Lib.hid (rnew w (.cells #[.int .u32 10] 52))
 generalize 10^n=T at *
 clear hl hd10 hv10
 go_enter Tryz.func20,Tryz.ntmps20
 go_wp2_with fail
 refine (HP.out _ (HT.out w)).mono ?_
 rintro e w1 ⟨A1,c1,rfl,hR,h1,h2,hb⟩
 have HR:=Lib.hid (And.intro hR (And.intro h1 (And.intro h2 (raft HB.out hb))))
 clear hR h1 h2 hb
 go_wp2
 go_ret
 exact ⟨A1,c1,rfl,HR.out.1,HR.out.2.1,HR.out.2.2.1,HR.out.2.2.2⟩
theorem one_is (W:World):IsN 1 (.slice (some ⟨W.heap.size,0,none⟩) 1 1) (W.alloc (.cells #[.int .u32 1] 52)):=by
 refine ⟨some ⟨W.heap.size,0,none⟩,1,?_,?_⟩
 ·rw [dig_one];rfl
 ·rw [dig_one];exact (Blk.new W #[.int .u32 1] [1] (W32.cons (by omega) W32.nil) (by simp [u32s])).rd
set_option maxRecDepth 100000 in
set_option maxHeartbeats 4000000 in
theorem value5_hxlate (pre T:List UInt8) (hpre:pre=[43]∨pre=[45]∨pre=[]) (hl:pre.length+T.length≤4096) (c0:UInt8) (hc0:T[0]?=some c0) (hc0n:¬(c0.toNat=43∨c0.toNat=45)) (hfrm:∃s,(fun s=>s=17) s∧frm (run 0 (pre++T))=.ok s) (q:Nat) (e D:List UInt8) (b:Nat) (hq:fnd [112,80] T=(q:Int)) (hq2:2≤q) (hTl:T.length=q+1+e.length) (hdr:T.drop (q+1)=e) (he0:(sg e).2≠[]) (hed:∀c∈(sg e).2,isD c=true) (hlate:9999<numB 10 (sg e).2) (w:World) :
  Calls Tryz.prog 5 #[.string (bs (pre++T))] w (Ans w (IsVal (.error (pre.length+T.length - (sg e).2.length,51)))):=by
 have hs:(bs (pre++T)).size=pre.length+T.length:=by rw [bs_size,List.length_append]
 obtain ⟨S,hS⟩:∃S,bs (pre++T)=S:=⟨_,rfl⟩
 have HSA:=Lib.hid (fun i c h=>(hS▸bs_at (pre++T) i c h:∀hi:i<S.size,S[i]'hi=c))
 have hcut0:(bs (pre++T)).extract pre.length (bs (pre++T)).size=bs T:=by
  rw [hs,bs_sub,List.drop_left,List.take_of_length_le (by omega)]
 have hLp:0<pre.length+T.length:=by have:=(List.getElem?_eq_some_iff.1 hc0).1;omega
 obtain ⟨z,hz,hzc⟩:∃z:UInt8,(pre++T)[0]?=some z∧((pre=[43]∧z=43)∨(pre=[45]∧z=45)∨(pre=[]∧((z.toNat:Int)==43)=false∧((z.toNat:Int)==45)=false)):=by
  rcases hpre with rfl | rfl | rfl
  ·exact ⟨43,rfl,.inl ⟨rfl,rfl⟩⟩
  ·exact ⟨45,rfl,.inr (.inl ⟨rfl,rfl⟩)⟩
  ·exact ⟨c0,hc0,.inr (.inr ⟨rfl,by simp;omega,by simp;omega⟩)⟩
 rw [hS] at hs hcut0 ⊢
 have hzS:=HSA.out 0 z hz (by rw [hs];exact hLp)
 have hTl2:T.length≤4096:=by omega
 have hTs:(bs T).size=T.length:=bs_size T
 obtain ⟨L,hL⟩:∃L,pre.length+T.length=L:=⟨_,rfl⟩
 rw [hL] at hs hl hLp
 rw [hs] at hcut0
 have HL:=Lib.hid (And.intro (show (pre++T).length=L by rw [List.length_append];exact hL) hfrm)
 have hcutE:(bs T).extract (q+1) T.length=bs e:=by
  rw [bs_sub,hdr,List.take_of_length_le (by omega)]
 have HFND:=Lib.hid (fun W=>find5_any T [112,80] (by omega) (by decide) W)
 rw [hq] at HFND
 have HEXP:=Lib.hid (fun W=>exponent5_any e he0 hed (by omega) W)
 obtain ⟨hsg1,hsg2,hsg3⟩:=sg_from e
 obtain ⟨fr,hfr⟩:∃fr,e.length - (sg e).2.length=fr:=⟨_,rfl⟩
 rw [hfr] at HEXP
 have hfr1:fr≤1:=by omega
 rw [if_pos hlate,decide_eq_true hlate] at HEXP
 generalize bs T=TT at *
 generalize bs e=EE at *
 clear hq hdr he0 hed hlate
 clear hS hfrm hz hc0 hc0n hpre
 obtain ⟨R,hR⟩:∃R:Except (Nat×Int) (Bool×Nat×Nat×Int),.error (pre.length+T.length - (sg e).2.length,51)=R:=⟨_,rfl⟩
 rw [hR]
 have HR0:=Lib.hid hR
 clear hR
 obtain ⟨P,hP⟩:∃P:Ending→World→Prop,P=Ans w (IsVal R):=⟨_,rfl⟩
 rw [←hP]
 have HP:=Lib.hid hP
 have HW0:=Lib.hid (raft (rnew w ratO) (rnew _ ratO))
 have HBR:=Lib.hid ((Box.new w).later (rnew _ ratO))
 have hbox:=Box.new (w.alloc ratO)
 rw [show (w.alloc ratO).heap.size=w.heap.size+1 by simp] at hbox
 have HBX:=Lib.hid hbox
 have HZ:=Lib.hid (And.intro hzc (And.intro hzS hcut0))
 obtain ⟨tl,htl⟩:∃tl,T.length=tl:=⟨_,rfl⟩
 rw [htl] at hTs hTl hTl2 hcutE
 have hq1:q+1≤tl:=by omega
 have HC:=Lib.hid (And.intro hcutE hTs)
 have HTL:=Lib.hid (And.intro hTl (And.intro htl (And.intro hfr (And.intro hsg2 hL))))
 clear hcutE hTs hTl hsg1 hsg2 hsg3 htl hfr hL
 clear hP hbox hzc hzS hcut0
 go_enter Tryz.func5,Tryz.ntmps5
 go_wp2
 go_loop [6,7] (fun sv iv=>∃i s:Nat,i≤L∧s≤17∧sv=.int .i64 (s:Int)∧iv=.int .i64 (i:Int)∧Hid (run 0 (pre++T)=run s ((pre++T).drop i))) (fun _ iv=>L - (intOf iv).toNat)
 case atStart=>exact ⟨0,0,by omega,by omega,rfl,rfl,rfl⟩
 case round =>
  obtain ⟨i,s,hi,hs17,rfl,rfl,hI⟩:=hrel
  by_cases hlt:i<L
  ·have hltI:(i:Int)<(L:Int):=by omega
   obtain ⟨c,hc⟩:∃c,(pre++T)[i]?=some c:=⟨_,List.getElem?_eq_getElem (by rw [HL.out.1];exact hlt)⟩
   have hcS:=HSA.out i c hc
   have hdr:(pre++T).drop i=c::(pre++T).drop (i+1):=by
    rw [List.drop_eq_getElem_cons (by rw [HL.out.1];exact hlt)]
    congr 1
    exact (List.getElem?_eq_some_iff.1 hc).2
   have HN:=Lib.hid (fun W=>next5_any s (by omega) c W)
   obtain ⟨t,ht⟩:∃t,nx s c=t:=⟨_,rfl⟩
   rw [ht] at HN
   have h18:t≠18:=by
    intro h
    obtain ⟨k,hk1,hk2⟩:=HL.out.2
    rw [hI.out,hdr,run_stop (ht.trans h)] at hk2
    unfold frm at hk2
    rw [if_neg (by simp)] at hk2
    cases hk2
   have hn18:t≤18:=by rw [←ht];exact nx_le s c
   have h18':((t:Int)==18)=false:=by simpa using (by omega:¬(t:Int)=18)
   have HR:=Lib.hid (show run 0 (pre++T)=run t ((pre++T).drop (i+1)) by rw [hI.out,hdr,run_go ht h18])
   have HT:=Lib.hid (show t≤17 by omega)
   clear hc hdr ht hI hn18 h18
   go_wp2_with (go_at_call 13;refine (HN.out _).mono ?_;rintro e w1 ⟨rfl,rfl⟩)
   go_round
   case rel=>exact ⟨i+1,t,by omega,HT.out,rfl,by go_num,HR.out⟩
   case measure=>simp [intOf];omega
  ·obtain rfl:i=L:=by omega
   have hrun:run 0 (pre++T)=(s,[]):=by rw [hI.out,List.drop_of_length_le (by rw [HL.out.1];omega)];rfl
   have hst:(fun s=>s=17) s∧endS s=true:=by
    obtain ⟨k,hk1,hk2⟩:=HL.out.2
    rw [hrun] at hk2
    unfold frm at hk2
    by_cases he:endS s=true
    ·rw [if_pos ⟨rfl,he⟩] at hk2
     injection hk2 with hk2
     subst hk2
     exact ⟨hk1,he⟩
    ·rw [if_neg (fun h=>he h.2)] at hk2
     cases hk2
   obtain ⟨hst,he⟩:=hst
   have HE:=Lib.hid (fun W=>ends5_any s W)
   rw [he] at HE
   clear he hrun hI
   subst hst
   obtain ⟨hcutE,hTs⟩:=HC.out
   obtain ⟨hzc,hzS,hcut0⟩:=HZ.out
   rcases hzc with ⟨rfl,rfl⟩ | ⟨rfl,rfl⟩ | ⟨rfl,e1,e2⟩
   ·rw [show ([43]:List UInt8).length=1 from rfl] at hcut0
    go_wp2_with (first | (go_at_call 14;refine (HE.out _).mono ?_;rintro e w1 ⟨rfl,rfl⟩) | (go_at_call 15;refine (HFND.out _).mono ?_;rintro e w1 ⟨rfl,hb⟩;have HW0:=Lib.hid (raft HW0.out hb);have HBX:=Lib.hid (HBX.out.later hb);have HBR:=Lib.hid (HBR.out.later hb);obtain ⟨x0,x1,x2,x3,x4,x5⟩:=HBX.out.cells;obtain ⟨y0,y1,y2,y3,y4,y5⟩:=HBR.out.cells;have hrz:=HBR.out.lt;clear hb) | (go_at_call 16;refine (HEXP.out _).mono ?_;rintro e w1 ⟨rfl,rfl⟩))
    have hpl:(1+(q:Int)+1+(fr:Int):Int)=((1+T.length - (sg e).2.length:Nat):Int):=by have:=HTL.out;simp at this;omega
    refine bodyPost_ret (v:=.tuple #[.agg #[.bool false,.slice none 0 0,.slice none 0 0],.int .i64 (1+(q:Int)+1+(fr:Int)),.int .i64 51]) (by simp [results,Tryz.results5,go_sem,y0,y1,y2,y3,y4,y5,hrz]) rfl ?_
    rw [HP.out]
    refine ⟨_,rfl,?_,put3_below HW0.out (Nat.le_refl _) _ _ _⟩
    rw [←HR0.out]
    show Value.tuple _=Value.tuple _
    rw [hpl]
    rfl
   ·rw [show ([45]:List UInt8).length=1 from rfl] at hcut0
    go_wp2_with (first | (go_at_call 14;refine (HE.out _).mono ?_;rintro e w1 ⟨rfl,rfl⟩) | (go_at_call 15;refine (HFND.out _).mono ?_;rintro e w1 ⟨rfl,hb⟩;have HW0:=Lib.hid (raft HW0.out hb);have HBX:=Lib.hid (HBX.out.later hb);have HBR:=Lib.hid (HBR.out.later hb);obtain ⟨x0,x1,x2,x3,x4,x5⟩:=HBX.out.cells;obtain ⟨y0,y1,y2,y3,y4,y5⟩:=HBR.out.cells;have hrz:=HBR.out.lt;clear hb) | (go_at_call 16;refine (HEXP.out _).mono ?_;rintro e w1 ⟨rfl,rfl⟩))
    have hpl:(1+(q:Int)+1+(fr:Int):Int)=((1+T.length - (sg e).2.length:Nat):Int):=by have:=HTL.out;simp at this;omega
    refine bodyPost_ret (v:=.tuple #[.agg #[.bool false,.slice none 0 0,.slice none 0 0],.int .i64 (1+(q:Int)+1+(fr:Int)),.int .i64 51]) (by simp [results,Tryz.results5,go_sem,y0,y1,y2,y3,y4,y5,hrz]) rfl ?_
    rw [HP.out]
    refine ⟨_,rfl,?_,put3_below HW0.out (Nat.le_refl _) _ _ _⟩
    rw [←HR0.out]
    show Value.tuple _=Value.tuple _
    rw [hpl]
    rfl
   ·rw [show ([]:List UInt8).length=0 from rfl] at hcut0
    go_wp2_with (first | (go_at_call 14;refine (HE.out _).mono ?_;rintro e w1 ⟨rfl,rfl⟩) | (go_at_call 15;refine (HFND.out _).mono ?_;rintro e w1 ⟨rfl,hb⟩;have HW0:=Lib.hid (raft HW0.out hb);have HBX:=Lib.hid (HBX.out.later hb);have HBR:=Lib.hid (HBR.out.later hb);obtain ⟨x0,x1,x2,x3,x4,x5⟩:=HBX.out.cells;obtain ⟨y0,y1,y2,y3,y4,y5⟩:=HBR.out.cells;have hrz:=HBR.out.lt;clear hb) | (go_at_call 16;refine (HEXP.out _).mono ?_;rintro e w1 ⟨rfl,rfl⟩))
    have hpl:((q:Int)+1+(fr:Int):Int)=((0+T.length - (sg e).2.length:Nat):Int):=by have:=HTL.out;simp at this;omega
    refine bodyPost_ret (v:=.tuple #[.agg #[.bool false,.slice none 0 0,.slice none 0 0],.int .i64 ((q:Int)+1+(fr:Int)),.int .i64 51]) (by simp [results,Tryz.results5,go_sem,y0,y1,y2,y3,y4,y5,hrz]) rfl ?_
    rw [HP.out]
    refine ⟨_,rfl,?_,put3_below HW0.out (Nat.le_refl _) _ _ _⟩
    rw [←HR0.out]
    show Value.tuple _=Value.tuple _
    rw [hpl]
    rfl
set_option maxRecDepth 100000 in
set_option maxHeartbeats 4000000 in
theorem value5_hx (pre T:List UInt8) (hpre:pre=[43]∨pre=[45]∨pre=[]) (hl:pre.length+T.length≤4096) (c0:UInt8) (hc0:T[0]?=some c0) (hc0n:¬(c0.toNat=43∨c0.toNat=45)) (hfrm:∃s,(fun s=>s=17) s∧frm (run 0 (pre++T))=.ok s) (q:Nat) (e D:List UInt8) (b:Nat) (hq:fnd [112,80] T=(q:Int)) (hq2:2≤q) (hTl:T.length=q+1+e.length) (hdr:T.drop (q+1)=e) (he0:(sg e).2≠[]) (hed:∀c∈(sg e).2,isD c=true) (ng:Bool) (hng:ng=decide (pre=[45])) (hnl:¬9999<numB 10 (sg e).2) (hmid:((T.take q).drop 2).filter (dgs 16)=D) (hbh:(if fnd [46] (T.take q)<0 then 0 else ((T.take q).length:Int) - 1 - fnd [46] (T.take q))=(b:Int)) (w:World) :
  Calls Tryz.prog 5 #[.string (bs (pre++T))] w (Ans w (IsVal (.ok (ng,numB 16 D,1,xvl e - 4*(b:Int))))):=by
 have hs:(bs (pre++T)).size=pre.length+T.length:=by rw [bs_size,List.length_append]
 obtain ⟨S,hS⟩:∃S,bs (pre++T)=S:=⟨_,rfl⟩
 have HSA:=Lib.hid (fun i c h=>(hS▸bs_at (pre++T) i c h:∀hi:i<S.size,S[i]'hi=c))
 have hcut0:(bs (pre++T)).extract pre.length (bs (pre++T)).size=bs T:=by
  rw [hs,bs_sub,List.drop_left,List.take_of_length_le (by omega)]
 have hLp:0<pre.length+T.length:=by have:=(List.getElem?_eq_some_iff.1 hc0).1;omega
 obtain ⟨z,hz,hzc⟩:∃z:UInt8,(pre++T)[0]?=some z∧((pre=[43]∧z=43)∨(pre=[45]∧z=45)∨(pre=[]∧((z.toNat:Int)==43)=false∧((z.toNat:Int)==45)=false)):=by
  rcases hpre with rfl | rfl | rfl
  ·exact ⟨43,rfl,.inl ⟨rfl,rfl⟩⟩
  ·exact ⟨45,rfl,.inr (.inl ⟨rfl,rfl⟩)⟩
  ·exact ⟨c0,hc0,.inr (.inr ⟨rfl,by simp;omega,by simp;omega⟩)⟩
 rw [hS] at hs hcut0 ⊢
 have hzS:=HSA.out 0 z hz (by rw [hs];exact hLp)
 have hTl2:T.length≤4096:=by omega
 have hTs:(bs T).size=T.length:=bs_size T
 obtain ⟨L,hL⟩:∃L,pre.length+T.length=L:=⟨_,rfl⟩
 rw [hL] at hs hl hLp
 rw [hs] at hcut0
 have HL:=Lib.hid (And.intro (show (pre++T).length=L by rw [List.length_append];exact hL) hfrm)
 have hcutE:(bs T).extract (q+1) T.length=bs e:=by
  rw [bs_sub,hdr,List.take_of_length_le (by omega)]
 have HFND:=Lib.hid (fun W=>find5_any T [112,80] (by omega) (by decide) W)
 rw [hq] at HFND
 have HEXP:=Lib.hid (fun W=>exponent5_any e he0 hed (by omega) W)
 obtain ⟨hsg1,hsg2,hsg3⟩:=sg_from e
 obtain ⟨fr,hfr⟩:∃fr,e.length - (sg e).2.length=fr:=⟨_,rfl⟩
 rw [hfr] at HEXP
 have hfr1:fr≤1:=by omega
 rw [if_neg hnl,decide_eq_false hnl] at HEXP
 have hcutM:(bs T).extract 2 q=bs ((T.take q).drop 2):=by
  rw [bs_sub,List.drop_take]
 have hcutQ:(bs T).extract 0 q=bs (T.take q):=by rw [bs_sub,List.drop_zero,Nat.sub_zero]
 have hDl:D.length≤4096:=by
  rw [←hmid]
  refine Nat.le_trans (List.length_filter_le _ _) ?_
  rw [List.length_drop,List.length_take];omega
 have hDd:∀c∈D,dvl c<16:=fun c hc=>by
  rw [←hmid] at hc
  exact dgs_lt (.inr rfl) (List.mem_filter.1 hc).2
 have hNBl:(dig (numB 16 D)).length≤513:=by
  have:=dig_len16 (n:=numB 16 D) (i:=D.length) (numB_lt 16 D hDd)
  omega
 have hbb:(b:Int)≤4096:=by
  rw [←hbh]
  have h1:=List.length_take_le q T
  split
  ·omega
  ·have : -1≤fnd [46] (T.take q):=by unfold fnd;split <;> omega
   omega
 have hxv : -9999≤xvl e∧xvl e≤9999:=by unfold xvl;split <;> omega
 have HWH:=Lib.hid (fun W=>whole5_any ((T.take q).drop 2) 16 (.inr rfl) (by rw [List.length_drop,List.length_take];omega) W)
 rw [hmid] at HWH
 have HBH:=Lib.hid (fun W=>behind5_any (T.take q) (by rw [List.length_take];omega) W)
 rw [hbh] at HBH
 obtain ⟨ex,hex⟩:∃ex,xvl e - 4*(b:Int)=ex:=⟨_,rfl⟩
 rw [hex]
 have hexb : -30000≤ex∧ex≤9999:=by omega
 have HFR:=Lib.hid (fun W v u (hv:IsN (numB 16 D) v W) (hu:IsN 1 u W)=>frac_rv (s:=ng) (e:=ex) (by omega) hv hu (by omega) (by rw [dig_one];simp;omega))
 obtain ⟨PP,hPP⟩:∃PP,sv ng (numB 16 D*2^ex.toNat)=PP:=⟨_,rfl⟩
 obtain ⟨PQ,hPQ⟩:∃PQ,1*2^(-ex).toNat=PQ:=⟨_,rfl⟩
 have HR1:∀(n:Bool) (r:Value) (W:World),n=ng→IsRV PP PQ 10000 r W→IsVal (.ok (n,numB 16 D,1,ex)) (.tuple #[r,.int .i64 0,.int .i64 0]) W:=by
  rintro n r W rfl hr
  refine ⟨r,rfl,?_⟩
  rw [hPP,hPQ];exact hr
 rw [hPP,hPQ] at HFR
 generalize numB 16 D=NB at *
 obtain ⟨xv,hxe⟩:∃xv,xvl e=xv:=⟨_,rfl⟩
 rw [hxe] at HEXP hex hxv
 have hex1:=hxv.1
 have hex2:=hxv.2
 generalize bs T=TT at *
 generalize bs e=EE at *
 generalize bs ((T.take q).drop 2)=MM at *
 generalize bs (T.take q)=QQ at *
 have hb0:(0:Int)≤(b:Int):=by omega
 clear hq hdr he0 hed hnl hmid hbh hDl hDd hNBl hexb hPP hPQ hxe hxv
 clear hS hfrm hz hc0 hc0n hpre
 obtain ⟨R,hR⟩:∃R:Except (Nat×Int) (Bool×Nat×Nat×Int),.ok (ng,NB,1,ex)=R:=⟨_,rfl⟩
 rw [hR]
 have HR0:=Lib.hid hR
 clear hR
 obtain ⟨P,hP⟩:∃P:Ending→World→Prop,P=Ans w (IsVal R):=⟨_,rfl⟩
 rw [←hP]
 have HP:=Lib.hid hP
 have HW0:=Lib.hid (raft (rnew w ratO) (rnew _ ratO))
 have HBR:=Lib.hid ((Box.new w).later (rnew _ ratO))
 have hbox:=Box.new (w.alloc ratO)
 rw [show (w.alloc ratO).heap.size=w.heap.size+1 by simp] at hbox
 have HBX:=Lib.hid hbox
 have HZ:=Lib.hid (And.intro hzc (And.intro hzS hcut0))
 obtain ⟨tl,htl⟩:∃tl,T.length=tl:=⟨_,rfl⟩
 rw [htl] at hTs hTl hTl2 hcutE
 have hq1:q+1≤tl:=by omega
 have HC:=Lib.hid (And.intro hcutE (And.intro hTs (And.intro hcutM (And.intro hcutQ hex))))
 have HNG:=Lib.hid (And.intro hng HR1)
 have HTL:=Lib.hid (And.intro hTl (And.intro htl (And.intro hfr (And.intro hsg2 hL))))
 clear hcutM hcutQ hex hng HR1 hcutE hTs hTl hsg1 hsg2 hsg3 htl hfr hL
 clear hP hbox hzc hzS hcut0
 go_enter Tryz.func5,Tryz.ntmps5
 go_wp2
 go_loop [6,7] (fun sv iv=>∃i s:Nat,i≤L∧s≤17∧sv=.int .i64 (s:Int)∧iv=.int .i64 (i:Int)∧Hid (run 0 (pre++T)=run s ((pre++T).drop i))) (fun _ iv=>L - (intOf iv).toNat)
 case atStart=>exact ⟨0,0,by omega,by omega,rfl,rfl,rfl⟩
 case round =>
  obtain ⟨i,s,hi,hs17,rfl,rfl,hI⟩:=hrel
  by_cases hlt:i<L
  ·have hltI:(i:Int)<(L:Int):=by omega
   obtain ⟨c,hc⟩:∃c,(pre++T)[i]?=some c:=⟨_,List.getElem?_eq_getElem (by rw [HL.out.1];exact hlt)⟩
   have hcS:=HSA.out i c hc
   have hdr:(pre++T).drop i=c::(pre++T).drop (i+1):=by
    rw [List.drop_eq_getElem_cons (by rw [HL.out.1];exact hlt)]
    congr 1
    exact (List.getElem?_eq_some_iff.1 hc).2
   have HN:=Lib.hid (fun W=>next5_any s (by omega) c W)
   obtain ⟨t,ht⟩:∃t,nx s c=t:=⟨_,rfl⟩
   rw [ht] at HN
   have h18:t≠18:=by
    intro h
    obtain ⟨k,hk1,hk2⟩:=HL.out.2
    rw [hI.out,hdr,run_stop (ht.trans h)] at hk2
    unfold frm at hk2
    rw [if_neg (by simp)] at hk2
    cases hk2
   have hn18:t≤18:=by rw [←ht];exact nx_le s c
   have h18':((t:Int)==18)=false:=by simpa using (by omega:¬(t:Int)=18)
   have HR:=Lib.hid (show run 0 (pre++T)=run t ((pre++T).drop (i+1)) by rw [hI.out,hdr,run_go ht h18])
   have HT:=Lib.hid (show t≤17 by omega)
   clear hc hdr ht hI hn18 h18
   go_wp2_with (go_at_call 13;refine (HN.out _).mono ?_;rintro e w1 ⟨rfl,rfl⟩)
   go_round
   case rel=>exact ⟨i+1,t,by omega,HT.out,rfl,by go_num,HR.out⟩
   case measure=>simp [intOf];omega
  ·obtain rfl:i=L:=by omega
   have hrun:run 0 (pre++T)=(s,[]):=by rw [hI.out,List.drop_of_length_le (by rw [HL.out.1];omega)];rfl
   have hst:(fun s=>s=17) s∧endS s=true:=by
    obtain ⟨k,hk1,hk2⟩:=HL.out.2
    rw [hrun] at hk2
    unfold frm at hk2
    by_cases he:endS s=true
    ·rw [if_pos ⟨rfl,he⟩] at hk2
     injection hk2 with hk2
     subst hk2
     exact ⟨hk1,he⟩
    ·rw [if_neg (fun h=>he h.2)] at hk2
     cases hk2
   obtain ⟨hst,he⟩:=hst
   have HE:=Lib.hid (fun W=>ends5_any s W)
   rw [he] at HE
   clear he hrun hI
   subst hst
   obtain ⟨hcutE,hTs,hcutM,hcutQ,hex⟩:=HC.out
   have hqtl:q≤tl:=by omega
   have hq2I:(2:Int)≤(q:Int):=by omega
   have hw4:IntKind.i64.wrap (4*(b:Int))=4*(b:Int):=by rw [IntKind.wrap_i64];omega
   have hw5:IntKind.i64.wrap ex=ex:=by rw [IntKind.wrap_i64,←hex];omega
   obtain ⟨hzc,hzS,hcut0⟩:=HZ.out
   rcases hzc with ⟨rfl,rfl⟩ | ⟨rfl,rfl⟩ | ⟨rfl,e1,e2⟩
   ·rw [show ([43]:List UInt8).length=1 from rfl] at hcut0
    obtain rfl:ng=false:=by rw [HNG.out.1];decide
    go_wp2_with (first | (go_at_call 14;refine (HE.out _).mono ?_;rintro e w1 ⟨rfl,rfl⟩) | (go_at_call 15;refine (HFND.out _).mono ?_;rintro e w1 ⟨rfl,hb⟩;have HW0:=Lib.hid (raft HW0.out hb);have HBX:=Lib.hid (HBX.out.later hb);have HBR:=Lib.hid (HBR.out.later hb);obtain ⟨x0,x1,x2,x3,x4,x5⟩:=HBX.out.cells;obtain ⟨y0,y1,y2,y3,y4,y5⟩:=HBR.out.cells;have hrz:=HBR.out.lt;clear hb) | (go_at_call 16;refine (HEXP.out _).mono ?_;rintro e w1 ⟨rfl,rfl⟩))
    refine region_tail 14 (Pick [IsV (.bool false),IsV (.string TT),IsV (.int .i64 (q:Int)),IsV (.string MM),(IsN NB),(IsN 1),IsV (.int .i64 xv),IsV (.string TT),IsV (.int .i64 (q:Int)),IsV (.string QQ),IsV (.int .i64 (b:Int)),IsV (.int .i64 (4*(b:Int))),IsV (.int .i64 ex),(IsRV PP PQ 10000)]) (by kernel_rfl) (by kernel_rfl) (by kernel_rfl) (mono_pick ⟨IsV.mono _,IsV.mono _,IsV.mono _,IsV.mono _,IsN.mono _,IsN.mono _,IsV.mono _,IsV.mono _,IsV.mono _,IsV.mono _,IsV.mono _,IsV.mono _,IsV.mono _,IsRV.mono _ _ _,trivial⟩) ⟨?_,?_,?_,?_,?_,?_,?_,?_,?_,?_,?_,?_,?_,?_,trivial⟩ ?_
    ·intro a W hsz hb hS
     have h8:a.tmps.getD 8 undef=.bool false:=hS.1
     clear hS hsz
     refine will_of rfl ?_
     intro K hK
     go_simp
     exact hK _ _ ⟨Below.refl _ _,rfl⟩
    ·intro a W hsz hb hS
     have h10:a.tmps.getD 10 undef=.string TT:=hS.1
     clear hS hsz
     refine will_of rfl ?_
     intro K hK
     go_simp
     exact hK _ _ ⟨Below.refl _ _,rfl⟩
    ·intro a W hsz hb hS
     have h11:a.tmps.getD 11 undef=.int .i64 (q:Int):=hS.1
     clear hS hsz
     refine will_of rfl ?_
     intro K hK
     go_simp
     exact hK _ _ ⟨Below.refl _ _,rfl⟩
    ·intro a W hsz hb hS
     have h82:a.tmps.getD 82 undef=.string TT:=hS.1
     have h83:a.tmps.getD 83 undef=.int .i64 (q:Int):=hS.2.1
     clear hS hsz
     refine will_of rfl ?_
     intro K hK
     go_simp
     exact hK _ _ ⟨Below.refl _ _,rfl⟩
    ·intro a W hsz hb hS
     have h84:a.tmps.getD 84 undef=.string MM:=hS.1
     clear hS hsz
     refine will_of rfl ?_
     intro K hK
     go_simp
     refine (HWH.out W).mono ?_
     rintro e W' ⟨A6,c6,rfl,h6,_,_,hb'⟩
     exact hK _ _ ⟨hb',A6,c6,rfl,h6⟩
    ·intro a W hsz hb hS
     clear hS hsz
     refine will_of rfl ?_
     intro K hK
     go_simp
     exact hK _ _ ⟨rnew W _,one_is W⟩
    ·intro a W hsz hb hS
     have h12:a.tmps.getD 12 undef=.int .i64 xv:=hS.1
     clear hS hsz
     refine will_of rfl ?_
     intro K hK
     go_simp
     exact hK _ _ ⟨Below.refl _ _,rfl⟩
    ·intro a W hsz hb hS
     have h10:a.tmps.getD 10 undef=.string TT:=hS.1
     clear hS hsz
     refine will_of rfl ?_
     intro K hK
     go_simp
     exact hK _ _ ⟨Below.refl _ _,rfl⟩
    ·intro a W hsz hb hS
     have h11:a.tmps.getD 11 undef=.int .i64 (q:Int):=hS.1
     clear hS hsz
     refine will_of rfl ?_
     intro K hK
     go_simp
     exact hK _ _ ⟨Below.refl _ _,rfl⟩
    ·intro a W hsz hb hS
     have h88:a.tmps.getD 88 undef=.string TT:=hS.1
     have h89:a.tmps.getD 89 undef=.int .i64 (q:Int):=hS.2.1
     clear hS hsz
     refine will_of rfl ?_
     intro K hK
     go_simp
     exact hK _ _ ⟨Below.refl _ _,rfl⟩
    ·intro a W hsz hb hS
     have h90:a.tmps.getD 90 undef=.string QQ:=hS.1
     clear hS hsz
     refine will_of rfl ?_
     intro K hK
     go_simp
     refine (HBH.out W).mono ?_
     rintro e W' ⟨rfl,hb'⟩
     exact hK _ _ ⟨hb',rfl⟩
    ·intro a W hsz hb hS
     have h91:a.tmps.getD 91 undef=.int .i64 (b:Int):=hS.1
     clear hS hsz
     refine will_of rfl ?_
     intro K hK
     go_simp
     exact hK _ _ ⟨Below.refl _ _,rfl⟩
    ·intro a W hsz hb hS
     have h87:a.tmps.getD 87 undef=.int .i64 xv:=hS.1
     have h92:a.tmps.getD 92 undef=.int .i64 (4*(b:Int)):=hS.2.1
     clear hS hsz
     refine will_of rfl ?_
     intro K hK
     go_simp
     exact hK _ _ ⟨Below.refl _ _,rfl⟩
    ·intro a W hsz hb hS
     have h81:a.tmps.getD 81 undef=.bool false:=hS.1
     have q85:(IsN NB) (a.tmps.getD 85 undef) W:=hS.2.1
     have q86:(IsN 1) (a.tmps.getD 86 undef) W:=hS.2.2.1
     have h93:a.tmps.getD 93 undef=.int .i64 ex:=hS.2.2.2.1
     clear hS hsz
     obtain ⟨v85,h85⟩:∃v,a.tmps.getD 85 undef=v:=⟨_,rfl⟩
     rw [h85] at q85
     obtain ⟨v86,h86⟩:∃v,a.tmps.getD 86 undef=v:=⟨_,rfl⟩
     rw [h86] at q86
     refine will_of rfl ?_
     intro K hK
     go_simp
     refine (HFR.out W _ _ q85 q86).mono ?_
     rintro e W' ⟨v,rfl,hv,hb'⟩
     exact hK _ _ ⟨hb',hv⟩
    intro f W hb hH
    have e0:f 0=.bool false:=hH.1
    have e1:f 1=.string TT:=hH.2.1
    have e2:f 2=.int .i64 (q:Int):=hH.2.2.1
    have e3:f 3=.string MM:=hH.2.2.2.1
    obtain ⟨x4,y4⟩:∃x,f 4=x:=⟨_,rfl⟩
    have q4:(IsN NB) (f 4) W:=hH.2.2.2.2.1
    rw [y4] at q4
    obtain ⟨x5,y5⟩:∃x,f 5=x:=⟨_,rfl⟩
    have q5:(IsN 1) (f 5) W:=hH.2.2.2.2.2.1
    rw [y5] at q5
    have e6:f 6=.int .i64 xv:=hH.2.2.2.2.2.2.1
    have e7:f 7=.string TT:=hH.2.2.2.2.2.2.2.1
    have e8:f 8=.int .i64 (q:Int):=hH.2.2.2.2.2.2.2.2.1
    have e9:f 9=.string QQ:=hH.2.2.2.2.2.2.2.2.2.1
    have e10:f 10=.int .i64 (b:Int):=hH.2.2.2.2.2.2.2.2.2.2.1
    have e11:f 11=.int .i64 (4*(b:Int)):=hH.2.2.2.2.2.2.2.2.2.2.2.1
    have e12:f 12=.int .i64 ex:=hH.2.2.2.2.2.2.2.2.2.2.2.2.1
    obtain ⟨x13,y13⟩:∃x,f 13=x:=⟨_,rfl⟩
    have q13:(IsRV PP PQ 10000) (f 13) W:=hH.2.2.2.2.2.2.2.2.2.2.2.2.2.1
    rw [y13] at q13
    simp only [List.take_succ_cons,List.take_zero,List.drop_succ_cons,List.drop_zero,putFrom,Act.put,List.setIfInBounds_toArray,List.set_cons_zero,List.set_cons_succ,Nat.reduceAdd,e0,e1,e2,e3,y4,y5,e6,e7,e8,e9,e10,e11,e12,y13]
    clear e0 e1 e2 e3 y4 y5 e6 e7 e8 e9 e10 e11 e12 y13 hH f
    obtain ⟨sg',A',n',c',B',m',d',hagg⟩:=q13.agg
    rw [hagg] at q13
    have HQ:=Lib.hid q13
    have HW0:=Lib.hid (raft HW0.out hb)
    have HBX:=Lib.hid (HBX.out.later hb)
    have HBR:=Lib.hid (HBR.out.later hb)
    obtain ⟨x0,x1,x2,x3,x4,x5⟩:=HBX.out.cells
    obtain ⟨y0,y1,y2,y3,y4,y5⟩:=HBR.out.cells
    have hrz:=HBR.out.lt
    subst hagg
    clear hb q13
    go_wp2
    refine bodyPost_ret (v:=.tuple #[.agg #[.bool sg',.slice A' n' c',.slice B' m' d'],.int .i64 0,.int .i64 0]) (by simp [results,Tryz.results5,go_sem,y0,y1,y2,y3,y4,y5,hrz]) rfl ?_
    rw [HP.out]
    refine ⟨_,rfl,?_,put3_below HW0.out (Nat.le_refl _) _ _ _⟩
    rw [←HR0.out]
    exact HNG.out.2 _ _ _ rfl (IsRV.put3 HQ.out HBR.out _ _ _)
   ·rw [show ([45]:List UInt8).length=1 from rfl] at hcut0
    obtain rfl:ng=true:=by rw [HNG.out.1];decide
    go_wp2_with (first | (go_at_call 14;refine (HE.out _).mono ?_;rintro e w1 ⟨rfl,rfl⟩) | (go_at_call 15;refine (HFND.out _).mono ?_;rintro e w1 ⟨rfl,hb⟩;have HW0:=Lib.hid (raft HW0.out hb);have HBX:=Lib.hid (HBX.out.later hb);have HBR:=Lib.hid (HBR.out.later hb);obtain ⟨x0,x1,x2,x3,x4,x5⟩:=HBX.out.cells;obtain ⟨y0,y1,y2,y3,y4,y5⟩:=HBR.out.cells;have hrz:=HBR.out.lt;clear hb) | (go_at_call 16;refine (HEXP.out _).mono ?_;rintro e w1 ⟨rfl,rfl⟩))
    refine region_tail 14 (Pick [IsV (.bool true),IsV (.string TT),IsV (.int .i64 (q:Int)),IsV (.string MM),(IsN NB),(IsN 1),IsV (.int .i64 xv),IsV (.string TT),IsV (.int .i64 (q:Int)),IsV (.string QQ),IsV (.int .i64 (b:Int)),IsV (.int .i64 (4*(b:Int))),IsV (.int .i64 ex),(IsRV PP PQ 10000)]) (by kernel_rfl) (by kernel_rfl) (by kernel_rfl) (mono_pick ⟨IsV.mono _,IsV.mono _,IsV.mono _,IsV.mono _,IsN.mono _,IsN.mono _,IsV.mono _,IsV.mono _,IsV.mono _,IsV.mono _,IsV.mono _,IsV.mono _,IsV.mono _,IsRV.mono _ _ _,trivial⟩) ⟨?_,?_,?_,?_,?_,?_,?_,?_,?_,?_,?_,?_,?_,?_,trivial⟩ ?_
    ·intro a W hsz hb hS
     have h8:a.tmps.getD 8 undef=.bool true:=hS.1
     clear hS hsz
     refine will_of rfl ?_
     intro K hK
     go_simp
     exact hK _ _ ⟨Below.refl _ _,rfl⟩
    ·intro a W hsz hb hS
     have h10:a.tmps.getD 10 undef=.string TT:=hS.1
     clear hS hsz
     refine will_of rfl ?_
     intro K hK
     go_simp
     exact hK _ _ ⟨Below.refl _ _,rfl⟩
    ·intro a W hsz hb hS
     have h11:a.tmps.getD 11 undef=.int .i64 (q:Int):=hS.1
     clear hS hsz
     refine will_of rfl ?_
     intro K hK
     go_simp
     exact hK _ _ ⟨Below.refl _ _,rfl⟩
    ·intro a W hsz hb hS
     have h82:a.tmps.getD 82 undef=.string TT:=hS.1
     have h83:a.tmps.getD 83 undef=.int .i64 (q:Int):=hS.2.1
     clear hS hsz
     refine will_of rfl ?_
     intro K hK
     go_simp
     exact hK _ _ ⟨Below.refl _ _,rfl⟩
    ·intro a W hsz hb hS
     have h84:a.tmps.getD 84 undef=.string MM:=hS.1
     clear hS hsz
     refine will_of rfl ?_
     intro K hK
     go_simp
     refine (HWH.out W).mono ?_
     rintro e W' ⟨A6,c6,rfl,h6,_,_,hb'⟩
     exact hK _ _ ⟨hb',A6,c6,rfl,h6⟩
    ·intro a W hsz hb hS
     clear hS hsz
     refine will_of rfl ?_
     intro K hK
     go_simp
     exact hK _ _ ⟨rnew W _,one_is W⟩
    ·intro a W hsz hb hS
     have h12:a.tmps.getD 12 undef=.int .i64 xv:=hS.1
     clear hS hsz
     refine will_of rfl ?_
     intro K hK
     go_simp
     exact hK _ _ ⟨Below.refl _ _,rfl⟩
    ·intro a W hsz hb hS
     have h10:a.tmps.getD 10 undef=.string TT:=hS.1
     clear hS hsz
     refine will_of rfl ?_
     intro K hK
     go_simp
     exact hK _ _ ⟨Below.refl _ _,rfl⟩
    ·intro a W hsz hb hS
     have h11:a.tmps.getD 11 undef=.int .i64 (q:Int):=hS.1
     clear hS hsz
     refine will_of rfl ?_
     intro K hK
     go_simp
     exact hK _ _ ⟨Below.refl _ _,rfl⟩
    ·intro a W hsz hb hS
     have h88:a.tmps.getD 88 undef=.string TT:=hS.1
     have h89:a.tmps.getD 89 undef=.int .i64 (q:Int):=hS.2.1
     clear hS hsz
     refine will_of rfl ?_
     intro K hK
     go_simp
     exact hK _ _ ⟨Below.refl _ _,rfl⟩
    ·intro a W hsz hb hS
     have h90:a.tmps.getD 90 undef=.string QQ:=hS.1
     clear hS hsz
     refine will_of rfl ?_
     intro K hK
     go_simp
     refine (HBH.out W).mono ?_
     rintro e W' ⟨rfl,hb'⟩
     exact hK _ _ ⟨hb',rfl⟩
    ·intro a W hsz hb hS
     have h91:a.tmps.getD 91 undef=.int .i64 (b:Int):=hS.1
     clear hS hsz
     refine will_of rfl ?_
     intro K hK
     go_simp
     exact hK _ _ ⟨Below.refl _ _,rfl⟩
    ·intro a W hsz hb hS
     have h87:a.tmps.getD 87 undef=.int .i64 xv:=hS.1
     have h92:a.tmps.getD 92 undef=.int .i64 (4*(b:Int)):=hS.2.1
     clear hS hsz
     refine will_of rfl ?_
     intro K hK
     go_simp
     exact hK _ _ ⟨Below.refl _ _,rfl⟩
    ·intro a W hsz hb hS
     have h81:a.tmps.getD 81 undef=.bool true:=hS.1
     have q85:(IsN NB) (a.tmps.getD 85 undef) W:=hS.2.1
     have q86:(IsN 1) (a.tmps.getD 86 undef) W:=hS.2.2.1
     have h93:a.tmps.getD 93 undef=.int .i64 ex:=hS.2.2.2.1
     clear hS hsz
     obtain ⟨v85,h85⟩:∃v,a.tmps.getD 85 undef=v:=⟨_,rfl⟩
     rw [h85] at q85
     obtain ⟨v86,h86⟩:∃v,a.tmps.getD 86 undef=v:=⟨_,rfl⟩
     rw [h86] at q86
     refine will_of rfl ?_
     intro K hK
     go_simp
     refine (HFR.out W _ _ q85 q86).mono ?_
     rintro e W' ⟨v,rfl,hv,hb'⟩
     exact hK _ _ ⟨hb',hv⟩
    intro f W hb hH
    have e0:f 0=.bool true:=hH.1
    have e1:f 1=.string TT:=hH.2.1
    have e2:f 2=.int .i64 (q:Int):=hH.2.2.1
    have e3:f 3=.string MM:=hH.2.2.2.1
    obtain ⟨x4,y4⟩:∃x,f 4=x:=⟨_,rfl⟩
    have q4:(IsN NB) (f 4) W:=hH.2.2.2.2.1
    rw [y4] at q4
    obtain ⟨x5,y5⟩:∃x,f 5=x:=⟨_,rfl⟩
    have q5:(IsN 1) (f 5) W:=hH.2.2.2.2.2.1
    rw [y5] at q5
    have e6:f 6=.int .i64 xv:=hH.2.2.2.2.2.2.1
    have e7:f 7=.string TT:=hH.2.2.2.2.2.2.2.1
    have e8:f 8=.int .i64 (q:Int):=hH.2.2.2.2.2.2.2.2.1
    have e9:f 9=.string QQ:=hH.2.2.2.2.2.2.2.2.2.1
    have e10:f 10=.int .i64 (b:Int):=hH.2.2.2.2.2.2.2.2.2.2.1
    have e11:f 11=.int .i64 (4*(b:Int)):=hH.2.2.2.2.2.2.2.2.2.2.2.1
    have e12:f 12=.int .i64 ex:=hH.2.2.2.2.2.2.2.2.2.2.2.2.1
    obtain ⟨x13,y13⟩:∃x,f 13=x:=⟨_,rfl⟩
    have q13:(IsRV PP PQ 10000) (f 13) W:=hH.2.2.2.2.2.2.2.2.2.2.2.2.2.1
    rw [y13] at q13
    simp only [List.take_succ_cons,List.take_zero,List.drop_succ_cons,List.drop_zero,putFrom,Act.put,List.setIfInBounds_toArray,List.set_cons_zero,List.set_cons_succ,Nat.reduceAdd,e0,e1,e2,e3,y4,y5,e6,e7,e8,e9,e10,e11,e12,y13]
    clear e0 e1 e2 e3 y4 y5 e6 e7 e8 e9 e10 e11 e12 y13 hH f
    obtain ⟨sg',A',n',c',B',m',d',hagg⟩:=q13.agg
    rw [hagg] at q13
    have HQ:=Lib.hid q13
    have HW0:=Lib.hid (raft HW0.out hb)
    have HBX:=Lib.hid (HBX.out.later hb)
    have HBR:=Lib.hid (HBR.out.later hb)
    obtain ⟨x0,x1,x2,x3,x4,x5⟩:=HBX.out.cells
    obtain ⟨y0,y1,y2,y3,y4,y5⟩:=HBR.out.cells
    have hrz:=HBR.out.lt
    subst hagg
    clear hb q13
    go_wp2
    refine bodyPost_ret (v:=.tuple #[.agg #[.bool sg',.slice A' n' c',.slice B' m' d'],.int .i64 0,.int .i64 0]) (by simp [results,Tryz.results5,go_sem,y0,y1,y2,y3,y4,y5,hrz]) rfl ?_
    rw [HP.out]
    refine ⟨_,rfl,?_,put3_below HW0.out (Nat.le_refl _) _ _ _⟩
    rw [←HR0.out]
    exact HNG.out.2 _ _ _ rfl (IsRV.put3 HQ.out HBR.out _ _ _)
   ·rw [show ([]:List UInt8).length=0 from rfl] at hcut0
    obtain rfl:ng=false:=by rw [HNG.out.1];decide
    go_wp2_with (first | (go_at_call 14;refine (HE.out _).mono ?_;rintro e w1 ⟨rfl,rfl⟩) | (go_at_call 15;refine (HFND.out _).mono ?_;rintro e w1 ⟨rfl,hb⟩;have HW0:=Lib.hid (raft HW0.out hb);have HBX:=Lib.hid (HBX.out.later hb);have HBR:=Lib.hid (HBR.out.later hb);obtain ⟨x0,x1,x2,x3,x4,x5⟩:=HBX.out.cells;obtain ⟨y0,y1,y2,y3,y4,y5⟩:=HBR.out.cells;have hrz:=HBR.out.lt;clear hb) | (go_at_call 16;refine (HEXP.out _).mono ?_;rintro e w1 ⟨rfl,rfl⟩))
    refine region_tail 14 (Pick [IsV (.bool false),IsV (.string TT),IsV (.int .i64 (q:Int)),IsV (.string MM),(IsN NB),(IsN 1),IsV (.int .i64 xv),IsV (.string TT),IsV (.int .i64 (q:Int)),IsV (.string QQ),IsV (.int .i64 (b:Int)),IsV (.int .i64 (4*(b:Int))),IsV (.int .i64 ex),(IsRV PP PQ 10000)]) (by kernel_rfl) (by kernel_rfl) (by kernel_rfl) (mono_pick ⟨IsV.mono _,IsV.mono _,IsV.mono _,IsV.mono _,IsN.mono _,IsN.mono _,IsV.mono _,IsV.mono _,IsV.mono _,IsV.mono _,IsV.mono _,IsV.mono _,IsV.mono _,IsRV.mono _ _ _,trivial⟩) ⟨?_,?_,?_,?_,?_,?_,?_,?_,?_,?_,?_,?_,?_,?_,trivial⟩ ?_
    ·intro a W hsz hb hS
     have h8:a.tmps.getD 8 undef=.bool false:=hS.1
     clear hS hsz
     refine will_of rfl ?_
     intro K hK
     go_simp
     exact hK _ _ ⟨Below.refl _ _,rfl⟩
    ·intro a W hsz hb hS
     have h10:a.tmps.getD 10 undef=.string TT:=hS.1
     clear hS hsz
     refine will_of rfl ?_
     intro K hK
     go_simp
     exact hK _ _ ⟨Below.refl _ _,rfl⟩
    ·intro a W hsz hb hS
     have h11:a.tmps.getD 11 undef=.int .i64 (q:Int):=hS.1
     clear hS hsz
     refine will_of rfl ?_
     intro K hK
     go_simp
     exact hK _ _ ⟨Below.refl _ _,rfl⟩
    ·intro a W hsz hb hS
     have h82:a.tmps.getD 82 undef=.string TT:=hS.1
     have h83:a.tmps.getD 83 undef=.int .i64 (q:Int):=hS.2.1
     clear hS hsz
     refine will_of rfl ?_
     intro K hK
     go_simp
     exact hK _ _ ⟨Below.refl _ _,rfl⟩
    ·intro a W hsz hb hS
     have h84:a.tmps.getD 84 undef=.string MM:=hS.1
     clear hS hsz
     refine will_of rfl ?_
     intro K hK
     go_simp
     refine (HWH.out W).mono ?_
     rintro e W' ⟨A6,c6,rfl,h6,_,_,hb'⟩
     exact hK _ _ ⟨hb',A6,c6,rfl,h6⟩
    ·intro a W hsz hb hS
     clear hS hsz
     refine will_of rfl ?_
     intro K hK
     go_simp
     exact hK _ _ ⟨rnew W _,one_is W⟩
    ·intro a W hsz hb hS
     have h12:a.tmps.getD 12 undef=.int .i64 xv:=hS.1
     clear hS hsz
     refine will_of rfl ?_
     intro K hK
     go_simp
     exact hK _ _ ⟨Below.refl _ _,rfl⟩
    ·intro a W hsz hb hS
     have h10:a.tmps.getD 10 undef=.string TT:=hS.1
     clear hS hsz
     refine will_of rfl ?_
     intro K hK
     go_simp
     exact hK _ _ ⟨Below.refl _ _,rfl⟩
    ·intro a W hsz hb hS
     have h11:a.tmps.getD 11 undef=.int .i64 (q:Int):=hS.1
     clear hS hsz
     refine will_of rfl ?_
     intro K hK
     go_simp
     exact hK _ _ ⟨Below.refl _ _,rfl⟩
    ·intro a W hsz hb hS
     have h88:a.tmps.getD 88 undef=.string TT:=hS.1
     have h89:a.tmps.getD 89 undef=.int .i64 (q:Int):=hS.2.1
     clear hS hsz
     refine will_of rfl ?_
     intro K hK
     go_simp
     exact hK _ _ ⟨Below.refl _ _,rfl⟩
    ·intro a W hsz hb hS
     have h90:a.tmps.getD 90 undef=.string QQ:=hS.1
     clear hS hsz
     refine will_of rfl ?_
     intro K hK
     go_simp
     refine (HBH.out W).mono ?_
     rintro e W' ⟨rfl,hb'⟩
     exact hK _ _ ⟨hb',rfl⟩
    ·intro a W hsz hb hS
     have h91:a.tmps.getD 91 undef=.int .i64 (b:Int):=hS.1
     clear hS hsz
     refine will_of rfl ?_
     intro K hK
     go_simp
     exact hK _ _ ⟨Below.refl _ _,rfl⟩
    ·intro a W hsz hb hS
     have h87:a.tmps.getD 87 undef=.int .i64 xv:=hS.1
     have h92:a.tmps.getD 92 undef=.int .i64 (4*(b:Int)):=hS.2.1
     clear hS hsz
     refine will_of rfl ?_
     intro K hK
     go_simp
     exact hK _ _ ⟨Below.refl _ _,rfl⟩
    ·intro a W hsz hb hS
     have h81:a.tmps.getD 81 undef=.bool false:=hS.1
     have q85:(IsN NB) (a.tmps.getD 85 undef) W:=hS.2.1
     have q86:(IsN 1) (a.tmps.getD 86 undef) W:=hS.2.2.1
     have h93:a.tmps.getD 93 undef=.int .i64 ex:=hS.2.2.2.1
     clear hS hsz
     obtain ⟨v85,h85⟩:∃v,a.tmps.getD 85 undef=v:=⟨_,rfl⟩
     rw [h85] at q85
     obtain ⟨v86,h86⟩:∃v,a.tmps.getD 86 undef=v:=⟨_,rfl⟩
     rw [h86] at q86
     refine will_of rfl ?_
     intro K hK
     go_simp
     refine (HFR.out W _ _ q85 q86).mono ?_
     rintro e W' ⟨v,rfl,hv,hb'⟩
     exact hK _ _ ⟨hb',hv⟩
    intro f W hb hH
    have e0:f 0=.bool false:=hH.1
    have e1:f 1=.string TT:=hH.2.1
    have e2:f 2=.int .i64 (q:Int):=hH.2.2.1
    have e3:f 3=.string MM:=hH.2.2.2.1
    obtain ⟨x4,y4⟩:∃x,f 4=x:=⟨_,rfl⟩
    have q4:(IsN NB) (f 4) W:=hH.2.2.2.2.1
    rw [y4] at q4
    obtain ⟨x5,y5⟩:∃x,f 5=x:=⟨_,rfl⟩
    have q5:(IsN 1) (f 5) W:=hH.2.2.2.2.2.1
    rw [y5] at q5
    have e6:f 6=.int .i64 xv:=hH.2.2.2.2.2.2.1
    have e7:f 7=.string TT:=hH.2.2.2.2.2.2.2.1
    have e8:f 8=.int .i64 (q:Int):=hH.2.2.2.2.2.2.2.2.1
    have e9:f 9=.string QQ:=hH.2.2.2.2.2.2.2.2.2.1
    have e10:f 10=.int .i64 (b:Int):=hH.2.2.2.2.2.2.2.2.2.2.1
    have e11:f 11=.int .i64 (4*(b:Int)):=hH.2.2.2.2.2.2.2.2.2.2.2.1
    have e12:f 12=.int .i64 ex:=hH.2.2.2.2.2.2.2.2.2.2.2.2.1
    obtain ⟨x13,y13⟩:∃x,f 13=x:=⟨_,rfl⟩
    have q13:(IsRV PP PQ 10000) (f 13) W:=hH.2.2.2.2.2.2.2.2.2.2.2.2.2.1
    rw [y13] at q13
    simp only [List.take_succ_cons,List.take_zero,List.drop_succ_cons,List.drop_zero,putFrom,Act.put,List.setIfInBounds_toArray,List.set_cons_zero,List.set_cons_succ,Nat.reduceAdd,e0,e1,e2,e3,y4,y5,e6,e7,e8,e9,e10,e11,e12,y13]
    clear e0 e1 e2 e3 y4 y5 e6 e7 e8 e9 e10 e11 e12 y13 hH f
    obtain ⟨sg',A',n',c',B',m',d',hagg⟩:=q13.agg
    rw [hagg] at q13
    have HQ:=Lib.hid q13
    have HW0:=Lib.hid (raft HW0.out hb)
    have HBX:=Lib.hid (HBX.out.later hb)
    have HBR:=Lib.hid (HBR.out.later hb)
    obtain ⟨x0,x1,x2,x3,x4,x5⟩:=HBX.out.cells
    obtain ⟨y0,y1,y2,y3,y4,y5⟩:=HBR.out.cells
    have hrz:=HBR.out.lt
    subst hagg
    clear hb q13
    go_wp2
    refine bodyPost_ret (v:=.tuple #[.agg #[.bool sg',.slice A' n' c',.slice B' m' d'],.int .i64 0,.int .i64 0]) (by simp [results,Tryz.results5,go_sem,y0,y1,y2,y3,y4,y5,hrz]) rfl ?_
    rw [HP.out]
    refine ⟨_,rfl,?_,put3_below HW0.out (Nat.le_refl _) _ _ _⟩
    rw [←HR0.out]
    exact HNG.out.2 _ _ _ rfl (IsRV.put3 HQ.out HBR.out _ _ _)
end Go.Proofs.YtigmpifjcijdbaaGreatDoor
