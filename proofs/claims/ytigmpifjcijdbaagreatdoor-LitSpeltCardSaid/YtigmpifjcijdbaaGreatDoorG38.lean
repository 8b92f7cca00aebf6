/- Layer 12, the program: the reader over a literal: its words; infinity; a numeral. -/
import Derived.Test.YtigmpifjcijdbaaGreatDoorG37
import Derived.Test.YtigmpifjcijdbaaGreatDoorG21
import Derived.Test.YtigmpifjcijdbaaGreatDoorG35
import Derived.Deep.CutBlock
section
namespace Go.Proofs.YtigmpifjcijdbaaGreatDoor
set_option linter.unusedVariables false
set_option linter.unusedSimpArgs false
open Go.RowKit Verge Verge.Lit
theorem roww_new (w:World) (ws:List (List UInt8)):RowW (w.alloc (.cells ((ws.map fun l=>Value.string (bs l)).toArray) 9)) w.heap.size ws:=by
 refine ⟨by show w.heap.size<(w.heap.push _).size;simp,fun j s hj => ?_⟩
 have h:=heap_alloc_new w (.cells ((ws.map fun l=>Value.string (bs l)).toArray) 9)
 unfold World.cell?
 rw [h]
 simp [hj]
theorem wrd_word (t:List UInt8):∀(r:List UInt8) (n:Nat),n≤t.length→wrd n [t] r=(spl ((t.drop n).map UInt8.toNat) r).bind fun s=>.ok (t,s)
 | r,n,hn=>by
  by_cases h:t.length=n
  ·rw [wrd_hit (i:=0) (by omega) rfl h,List.drop_eq_nil_of_le (by omega)];rfl
  ·have hm:∀u∈[t],u.length≠n:=by intro u hu;rw [List.mem_singleton.1 hu];exact h
   have hlt:n<t.length:=by omega
   have hd:(t.drop n).map UInt8.toNat=(t[n]'hlt).toNat::(t.drop (n+1)).map UInt8.toNat:=by rw [List.drop_eq_getElem_cons hlt];rfl
   cases r with
   | nil=>rw [wrd_nil hm,hd];rfl
   | cons c s =>
    rw [wrd_cons hm,hd]
    have hp:(t[n]?.map UInt8.toNat)=some (t[n]'hlt).toNat:=by rw [List.getElem?_eq_getElem hlt];rfl
    show _=(if lo c=(t[n]'hlt).toNat then _ else Except.error (s.length+1):Except Nat (List UInt8)).bind _
    by_cases hq:lo c=(t[n]'hlt).toNat
    ·have hf:[t].filter (fun t=>decide ((t[n]?.map UInt8.toNat)=some (lo c)))=[t]:=by
      rw [List.filter_cons_of_pos (by rw [hp,hq];simp)];rfl
     rw [hf,if_neg (by simp),if_pos hq,wrd_word t s (n+1) (by omega)]
    ·have hf:[t].filter (fun t=>decide ((t[n]?.map UInt8.toNat)=some (lo c)))=[]:=by
      rw [List.filter_cons_of_neg (by rw [hp];simp;exact fun e=>hq e.symm)];rfl
     rw [hf,if_pos rfl,if_neg hq];rfl
theorem wrd_one (t:List UInt8) (r:List UInt8):wrd 0 [t] r=(spl (t.map UInt8.toNat) r).bind fun s=>.ok (t,s):=wrd_word t r 0 (Nat.zero_le _)
theorem wrd_ee (r:List UInt8):wrd 0 [wEmp,wEnt] r=(eeL r).bind fun x=>.ok (if x.1=true then wEmp else wEnt,x.2):=by
 unfold eeL
 cases r with
 | nil=>rfl
 | cons c s =>
  rw [wrd_cons (by intro t ht;simp at ht;rcases ht with rfl | rfl <;> decide)]
  by_cases h:lo c=101
  ·have hf:[wEmp,wEnt].filter (fun t=>decide ((t[0]?.map UInt8.toNat)=some (lo c)))=[wEmp,wEnt]:=by simp [wEmp,wEnt,h]
   rw [hf,if_neg (by simp),show spl [101] (c::s)=.ok s from if_pos h,bind_ok]
   cases s with
   | nil=>rfl
   | cons e u =>
    rw [wrd_cons (by intro t ht;simp at ht;rcases ht with rfl | rfl <;> decide)]
    by_cases h1:pk (e::u)=109
    ·have h1':lo e=109:=h1
     have hf:[wEmp,wEnt].filter (fun t=>decide ((t[0+1]?.map UInt8.toNat)=some (lo e)))=[wEmp]:=by simp [wEmp,wEnt,h1']
     rw [hf,if_neg (by simp),if_pos h1,bind_bind,wrd_word wEmp u (0+1+1) (by decide)]
     rw [spl_cons,show spl [109] (e::u)=.ok u from if_pos h1',bind_ok];rfl
    ·have h1':¬lo e=109:=h1
     rw [if_neg h1]
     by_cases h2:lo e=110
     ·have hf:[wEmp,wEnt].filter (fun t=>decide ((t[0+1]?.map UInt8.toNat)=some (lo e)))=[wEnt]:=by simp [wEmp,wEnt,h2]
      rw [hf,if_neg (by simp),bind_bind,wrd_word wEnt u (0+1+1) (by decide)]
      rw [spl_cons,show spl [110] (e::u)=.ok u from if_pos h2,bind_ok];rfl
     ·have hf:[wEmp,wEnt].filter (fun t=>decide ((t[0+1]?.map UInt8.toNat)=some (lo e)))=[]:=by
       have a1:¬109=lo e:=fun e=>h1' e.symm
       have a2:¬110=lo e:=fun e=>h2 e.symm
       simp [wEmp,wEnt,a1,a2]
      rw [hf,if_pos rfl,spl_no (r:=e::u) h2];rfl
  ·have hf:[wEmp,wEnt].filter (fun t=>decide ((t[0]?.map UInt8.toNat)=some (lo c)))=[]:=by
    have a1:¬101=lo c:=fun e=>h e.symm
    simp [wEmp,wEnt,a1]
   rw [hf,if_pos rfl,spl_no (r:=c::s) h];rfl
theorem LAns.map {α β:Type} {w w2:World} {b:Nat} {l:List UInt8} {y:Except Nat α} {f:α→β} {good:α→Ending→World→Prop} {good2:β→Ending→World→Prop} (hg:w.grownBy w2 (some b)) (h:∀a e w',good a e w'→good2 (f a) e w') {e:Ending} {w':World} (k:LAns w2 b l y good e w') :
  LAns w b l (y.bind fun a=>.ok (f a)) good2 e w':=by
 cases y with
 | error k'=>exact ⟨k.1,grownBy_trans hg k.2⟩
 | ok a=>exact ⟨h a e w' k.1,grownBy_trans hg k.2⟩
theorem LAns.mono {α:Type} {w w2:World} {b:Nat} {l:List UInt8} {y:Except Nat α} {good good2:α→Ending→World→Prop} (hg:w.grownBy w2 (some b)) (h:∀a e w',good a e w'→good2 a e w') {e:Ending} {w':World} (k:LAns w2 b l y good e w') :
  LAns w b l y good2 e w':=by
 cases y with
 | error k'=>exact ⟨k.1,grownBy_trans hg k.2⟩
 | ok a=>exact ⟨h a e w' k.1,grownBy_trans hg k.2⟩
theorem word1_any (w:World) (b:Nat) (l r:List UInt8) (d:Bool) (x:Int×Int) (t:List UInt8) (S:ByteArray) (hS:bs t=S) (ht:t.length≤10) (h:LR w b l r d x) (hl:l.length≤100000) :
  Calls Tryz.prog 58 #[.pointer (some ⟨b,0,none⟩),.slice (some ⟨w.heap.size,0,none⟩) 1 1] (w.alloc (.cells #[.string S] 9)) (LAns w b l (spl (t.map UInt8.toNat) r) fun s e w'=>e=.returned (.string S)∧LR w' b l s d x):=by
 subst hS
 have h1:=lword_any (w.alloc (.cells #[.string (bs t)] 9)) b l r d x w.heap.size 1 [t] (h.later (rnew w _)) hl (roww_new w [t]) (by simp) (by simp) (by simpa using ht)
 rw [wrd_one] at h1
 refine h1.mono fun e w' h2 => ?_
 cases hs:spl (t.map UInt8.toNat) r with
 | error k =>
  rw [hs] at h2
  exact ⟨h2.1,grownBy_trans (grownBy_alloc (grownBy_refl _ _) _) h2.2⟩
 | ok s =>
  rw [hs] at h2
  exact ⟨h2.1,grownBy_trans (grownBy_alloc (grownBy_refl _ _) _) h2.2⟩
theorem word2_any (w:World) (b:Nat) (l r:List UInt8) (d:Bool) (x:Int×Int) (h:LR w b l r d x) (hl:l.length≤100000) :
  Calls Tryz.prog 58 #[.pointer (some ⟨b,0,none⟩),.slice (some ⟨w.heap.size,0,none⟩) 2 2] (w.alloc (.cells #[.string { data:=#[101,109,112,116,121] },.string { data:=#[101,110,116,105,114,101] }] 9)) (LAns w b l (eeL r) fun s e w'=>e=.returned (.string (if s.1=true then { data:=#[101,109,112,116,121] } else { data:=#[101,110,116,105,114,101] }))∧LR w' b l s.2 d x):=by
 have h1:=lword_any (w.alloc (.cells #[.string { data:=#[101,109,112,116,121] },.string { data:=#[101,110,116,105,114,101] }] 9)) b l r d x w.heap.size 2 [wEmp,wEnt] (h.later (rnew w _)) hl (roww_new w [wEmp,wEnt]) (by simp) (by simp) (by intro t ht;simp at ht;rcases ht with rfl | rfl <;> decide)
 rw [wrd_ee] at h1
 refine h1.mono fun e w' h2 => ?_
 cases hs:eeL r with
 | error k =>
  rw [hs] at h2
  exact ⟨h2.1,grownBy_trans (grownBy_alloc (grownBy_refl _ _) _) h2.2⟩
 | ok s =>
  rw [hs] at h2
  refine ⟨⟨h2.1.1.trans ?_,h2.1.2⟩,grownBy_trans (grownBy_alloc (grownBy_refl _ _) _) h2.2⟩
  cases s.1 <;> rfl
set_option maxRecDepth 100000 in
set_option maxHeartbeats 1000000 in
theorem infinity_any (w:World) (b:Nat) (l r:List UInt8) (d:Bool) (x:Int×Int) (h:LR w b l r d x) (hl:l.length≤100000):Calls Tryz.prog 86 #[.pointer (some ⟨b,0,none⟩)] w
  (LAns w b l (infL r) fun s e w'=>e=.returned (.tuple #[])∧LR w' b l s d x):=by
 have HW1:=Lib.hid (word1_any w b l r d x [105,110,102] { data:=#[105,110,102] } rfl (by simp) h hl)
 have HW2:=Lib.hid (fun W s h=>word1_any W b l s d x [105,110,105,116,121] { data:=#[105,110,105,116,121] } rfl (by simp) h hl)
 have HP:=Lib.hid (fun W s h=>peek_any W b l s d x 0 h hl (by omega))
 rw [show List.map UInt8.toNat [105,110,102]=[105,110,102] from rfl] at HW1
 rw [show List.map UInt8.toNat [105,110,105,116,121]=[105,110,105,116,121] from rfl] at HW2
 obtain ⟨y,hy⟩:∃y,infL r=y:=⟨_,rfl⟩
 rw [hy]
 unfold infL at hy
 have HY:=Lib.hid hy
 clear h hy
 go_enter Tryz.func86,Tryz.ntmps86
 go_wp2_with fail
 refine (HW1.out).mono ?_
 intro e w1 h1
 have hy:=HY.out
 cases hs:spl [105,110,102] r with
 | error k =>
  rw [hs] at h1 hy
  obtain ⟨rfl,g1⟩:=h1
  subst hy
  exact ⟨rfl,rfl,g1⟩
 | ok s =>
  rw [hs] at h1 hy
  rw [bind_ok] at hy
  obtain ⟨⟨rfl,h1⟩,g1⟩:=h1
  have H1:=Lib.hid (And.intro h1 g1)
  have HY:=Lib.hid hy
  clear h1 g1 hs hy HW1
  go_wp2_with fail
  refine (HP.out _ _ H1.out.1).mono ?_
  rintro e w2 ⟨rfl,m,rfl⟩
  rw [show s.drop 0=s from rfl]
  have hy:=HY.out
  obtain ⟨v,hv⟩:∃v,pk s=v:=⟨_,rfl⟩
  rw [hv] at hy ⊢
  have HV:=Lib.hid hv
  clear hv
  by_cases h5:v=105
  ·subst h5
   rw [if_pos rfl] at hy
   have HY:=Lib.hid hy
   clear hy
   go_wp2_with fail
   refine (HW2.out _ _ (H1.out.1.drewN m)).mono ?_
   intro e w3 h3
   rw [HY.out] at h3
   cases y with
   | error k =>
    obtain ⟨rfl,g3⟩:=h3
    exact ⟨rfl,rfl,grownBy_trans (grownBy_drewN H1.out.2 m) g3⟩
   | ok u =>
    obtain ⟨⟨rfl,h3⟩,g3⟩:=h3
    have H3:=Lib.hid (And.intro h3 g3)
    clear h3 g3
    go_wp2
    go_end0
    exact ⟨⟨rfl,H3.out.1⟩,grownBy_trans (grownBy_drewN H1.out.2 m) H3.out.2⟩
  ·rw [if_neg h5] at hy
   have h5I:¬(v:Int)=105:=by omega
   have h5b:((v:Int)==105)=false:=by simpa using h5I
   have h5n:(v==105)=false:=by simpa using h5
   have HY:=Lib.hid hy
   clear hy
   go_wp2
   go_end0
   rw [←HY.out]
   exact ⟨⟨rfl,H1.out.1.drewN m⟩,grownBy_drewN H1.out.2 m⟩
end Go.Proofs.YtigmpifjcijdbaaGreatDoor
end

section
namespace Go.Proofs.YtigmpifjcijdbaaGreatDoor
set_option linter.unusedVariables false
set_option linter.unusedSimpArgs false
open Go.RowKit Verge Verge.Lit
theorem ndl_iff {c:UInt8}:ndl c=true↔c.toNat≠32∧c.toNat≠9∧c.toNat≠10∧c.toNat≠13∧c.toNat≠44∧c.toNat≠93:=by
 simp [ndl,blk];omega
def lateN (q:Nat) (s:List UInt8) (x:Int×Int):Int×Int:=
 match nlt s with
 | none=>x
 | some (p,c)=>kp x ((q+p:Nat):Int) c
theorem readS_err {d:Int} {s:List UInt8} {a:Nat} {c:Int} (h:scn s=.error (a,c)):readS d s=(0,(a:Int),c):=by
 unfold readS;rw [h]
theorem readS_fine {d:Int} {s:List UInt8} {x:Bool×Nat×Nat×Int} (h:scn s=.ok x):∃P,readS d s=(P,0,0):=by
 unfold readS;rw [h];exact ⟨_,rfl⟩
theorem scn_cut {s:List UInt8} (hs:s.length≤4096) {k:Nat} (h:cut s=.error k):scn s=.error (s.length - k,50):=by
 unfold scn;rw [if_neg (by omega),h]
theorem scn_late {s:List UInt8} (hs:s.length≤4096) {n:Bool} {p:Pc} {k:Nat} {c:Int} (h:cut s=.ok (n,p)) (hl:p.late=some (k,c)):scn s=.error (s.length - k,c):=by
 unfold scn;rw [if_neg (by omega),h]
 simp only [hl]
theorem scn_fine {s:List UInt8} (hs:s.length≤4096) {n:Bool} {p:Pc} (h:cut s=.ok (n,p)) (hl:p.late=none):scn s=.ok (n,p.num,p.den,p.two):=by
 unfold scn;rw [if_neg (by omega),h]
 simp only [hl]
set_option maxRecDepth 100000 in
set_option maxHeartbeats 4000000 in
theorem lnumeral_any (w:World) (b:Nat) (l r:List UInt8) (d:Bool) (x:Int×Int) (h:LR w b l r d x) (hl:l.length≤4096):Calls Tryz.prog 87 #[.pointer (some ⟨b,0,none⟩)] w
  (LAns w b l (numL r) fun y e w'=>e=.returned (.string (bs y.1))∧LR w' b l y.2 d (lateN (l.length - r.length) y.1 x)):=by
 have h1:=h.1
 have h2:=h.2.1
 obtain ⟨S,hS⟩:∃S,bs l=S:=⟨_,rfl⟩
 obtain ⟨q,hq⟩:∃q,l.length - r.length=q:=⟨_,rfl⟩
 obtain ⟨c0,c1,f0,f1⟩:=h.cells hS hq
 have hs:S.size=l.length:=by rw [←hS];exact bs_size _
 have HSA:=Lib.hid (fun i c h=>(hS▸bs_at l i c h:∀hi:i<S.size,S[i]'hi=c))
 have HR:=Lib.hid h
 obtain ⟨n,hn⟩:∃n,r.length=n:=⟨_,rfl⟩
 obtain ⟨L,hL⟩:∃L,l.length=L:=⟨_,rfl⟩
 have HF:=Lib.hid (fun W s y h=>lfail_any W b l s d y h)
 have HK:=Lib.hid (fun W s p c h=>keep_any W b l s d x p c h)
 obtain ⟨N,hN⟩:∃N,r.takeWhile ndl=N:=⟨_,rfl⟩
 obtain ⟨u,hu⟩:∃u,r.dropWhile ndl=u:=⟨_,rfl⟩
 have hNu:N++u=r:=by rw [←hN,←hu];exact List.takeWhile_append_dropWhile
 have hNl:N.length≤4096:=by
  have:=congrArg List.length hNu
  rw [List.length_append] at this;omega
 have HRD:=Lib.hid (fun W=>readA_any 0 N (by omega) W)
 obtain ⟨y,hy⟩:∃y,numL r=y:=⟨_,rfl⟩
 rw [hq,hy]
 unfold numL at hy
 rw [hN,hu] at hy
 rw [hL] at hs hl
 have hqL:q≤L:=by omega
 have hqn:q+n=L:=by omega
 have HN:=Lib.hid (And.intro hn (And.intro hL (And.intro hq hqn)))
 have HSS:=Lib.hid hS
 have HT:=Lib.hid (And.intro hN (And.intro hu hNu))
 have HY:=Lib.hid hy
 have HDR:=Lib.hid h2
 clear h hS h1 h2 hL hq hqn hn hN hu hNu hy
 go_enter Tryz.func87,Tryz.ntmps87
 go_upto_block 0 with fail
 go_cut [] (fun wx=>Hid (LR wx b l u d x∧w.grownBy wx (some b)))
 case first =>
  go_wp2
  go_loopw [] (fun wr=>∃i p:Nat,i≤n∧p≤L∧wr.cell? ⟨b,0,none⟩=some (.string S)∧wr.cell? ⟨b,1,none⟩=some (.int .i64 (p:Int))∧wr.frozen? ⟨b,1,none⟩=false ∧
   Hid (p=q+i∧LR wr b l (r.drop i) d x∧w.grownBy wr (some b)∧∀k<i,∀e,r[k]?=some e→ndl e=true)) (fun wr=>L - (intOf ((wr.cell? ⟨b,1,none⟩).getD undef)).toNat)
  case atStart=>exact ⟨0,q,by omega,hqL,c0,c1,f1,rfl,by simpa using HR.out,grownBy_refl _ _,fun k hk=>by omega⟩
  case round =>
   obtain ⟨i,p,hi,hp,d0,d1,g1,hI⟩:=hrel
   by_cases hlt:i<n
   ·obtain ⟨c,hc⟩:∃c,r[i]?=some c:=⟨_,List.getElem?_eq_getElem (by rw [HN.out.1];exact hlt)⟩
    have hcl:=rest_at HR.out.1 HR.out.2.1 c hc
    rw [HN.out.2.2.1,←hI.out.1] at hcl
    have hcS:=HSA.out p c hcl
    have hpL:p<L:=by have:=hI.out.1;have:=HN.out.2.2.2;omega
    have hpI:(p:Int)<(L:Int):=by omega
    have hpd:decide ((p:Int)<(L:Int))=true:=by simpa using hpI
    have hpn:decide (p<L)=true:=by simpa using hpL
    have HC:=Lib.hid hc
    clear hc hcl
    by_cases hv:ndl c=true
    ·obtain ⟨n1,n2,n3,n4,n5,n6⟩:=ndl_iff.1 hv
     have HV:=Lib.hid hv
     have m1:¬(c.toNat:Int)=32:=by omega
     have m2:¬(c.toNat:Int)=9:=by omega
     have m3:¬(c.toNat:Int)=10:=by omega
     have m4:¬(c.toNat:Int)=13:=by omega
     have m5:¬(c.toNat:Int)=44:=by omega
     have m6:¬(c.toNat:Int)=93:=by omega
     have h3:∀m,LR ((wr.drewN m).setCell ⟨b,1,none⟩ (.int .i64 ((p:Int)+1))) b l (r.drop (i+1)) d x:=by
      intro m
      obtain ⟨h4,h5⟩:=rest_drop HR.out.1 HR.out.2.1 (i+1) (by have:=HN.out;omega)
      refine LR.go (hI.out.2.1.drewN m) _ h4 h5 ?_
      rw [List.length_drop]
      have:=HN.out;have:=hI.out.1;omega
     have H3:=Lib.hid h3
     have HG3:=Lib.hid (fun m=>grownBy_set (grownBy_drewN hI.out.2.2.1 m) 1 (.int .i64 ((p:Int)+1)))
     have hp1:p+1≤L:=by omega
     clear hv h3
     go_upto_region 2 with fail
     go_quiet (fail)
     go_wp2
     go_upto_region 3 with fail
     go_quiet (fail)
     go_wp2
     go_roundw
     case rel =>
      have h3:=H3.out
      refine ⟨i+1,p+1,by omega,hp1,?_,?_,?_,by have:=hI.out.1;omega,h3 _,HG3.out _,fun k hk e he => ?_⟩
      ·exact ((h3 _).cells HSS.out (q:=p+1) (by rw [List.length_drop];have:=HN.out;have:=hI.out.1;omega)).1
      ·exact ((h3 _).cells HSS.out (q:=p+1) (by rw [List.length_drop];have:=HN.out;have:=hI.out.1;omega)).2.1
      ·exact ((h3 _).cells HSS.out (q:=p+1) (by rw [List.length_drop];have:=HN.out;have:=hI.out.1;omega)).2.2.2
      ·by_cases hki:k=i
       ·subst hki
        rw [HC.out] at he
        injection he with he
        subst he
        exact HV.out
       ·exact hI.out.2.2.2 k (by omega) e he
     case measure =>
      rw [d1,((H3.out _).cells HSS.out (q:=p+1) (by rw [List.length_drop];have:=HN.out;have:=hI.out.1;omega)).2.1]
      show L - ((p+1:Nat):Int).toNat<L - (p:Int).toNat
      omega
    ·have hvf:ndl c=false:=by simpa using hv
     have hb':c.toNat=32∨c.toNat=9∨c.toNat=10∨c.toNat=13∨c.toNat=44∨c.toNat=93:=by
      rw [ndl_iff] at hv;omega
     have hdr:=(take_at hI.out.2.2.2 HC.out hvf).2
     rw [HT.out.2.1] at hdr
     have HD:=Lib.hid hdr
     clear hv hvf hdr
     rcases hb' with hb' | hb' | hb' | hb' | hb' | hb'
     all_goals
      have hbI:(c.toNat:Int)=_:=congrArg Nat.cast hb'
      go_upto_region 2 with fail
      go_quiet (fail)
      go_wp2
      go_upto_region 3 with fail
      go_quiet (fail)
      go_wp2
      go_meet
      rw [HD.out]
      exact ⟨hI.out.2.1.drewN _,grownBy_drewN hI.out.2.2.1 _⟩
   ·have hin:i=n:=by omega
    have hpI:¬(p:Int)<(L:Int):=by have:=hI.out.1;have:=HN.out.2.2.2;omega
    have hpd:decide ((p:Int)<(L:Int))=false:=by simpa using hpI
    have hpn:decide (p<L)=false:=by simp;omega
    have hall:=(take_end (p:=ndl) (r:=r) (fun k hk e he=>hI.out.2.2.2 k (by have:=HN.out;omega) e he)).2
    rw [HT.out.2.1] at hall
    have HAL:=Lib.hid hall
    clear hall
    go_upto_region 2 with fail
    go_quiet (fail)
    go_wp2
    go_meet
    rw [HAL.out]
    have h3:=hI.out.2.1
    rw [List.drop_eq_nil_of_le (by have:=HN.out;omega)] at h3
    exact ⟨h3.drewN _,grownBy_drewN hI.out.2.2.1 _⟩
 case rest =>
  have HC:=hcut
  clear hcut c0 c1 f0 f1
  obtain ⟨p,hp⟩:∃p,l.length - u.length=p:=⟨_,rfl⟩
  obtain ⟨c0,c1,f0,f1⟩:=HC.out.1.cells HSS.out hp
  obtain ⟨z,hz⟩:∃z,N.length=z:=⟨_,rfl⟩
  have hzu:z+u.length=n:=by
   have:=congrArg List.length HT.out.2.2
   rw [List.length_append,hz,HN.out.1] at this
   exact this
  have hpq:p=q+z:=by have:=HN.out;omega
  obtain ⟨BN,hBN⟩:∃BN,bs N=BN:=⟨_,rfl⟩
  have hst:S.extract q p=BN:=by
   rw [←hBN,←HSS.out,bs_sub,←HN.out.2.2.1,HDR.out,HN.out.2.2.1,show p - q=z by omega,←hz,←HT.out.2.2,List.take_left]
  have hbz:BN.size=z:=by rw [←hBN,←hz];exact bs_size N
  have HBA:=Lib.hid (fun i c h=>(hBN▸bs_at N i c h:∀hi:i<BN.size,BN[i]'hi=c))
  have hqp:q≤p:=by omega
  have hpL:p≤L:=by have:=HN.out;omega
  have hqpI:(q:Int)≤(p:Int):=by omega
  have hpLI:(p:Int)≤(L:Int):=by omega
  rw [hBN] at HRD
  have HZ:=Lib.hid (And.intro hz (And.intro hzu hpq))
  have HBN:=Lib.hid hBN
  rw [hz] at hNl
  clear hz hzu hpq hBN
  go_upto_region 11 with fail
  go_quiet (fail)
  have HLR:=Lib.hid (HC.out.1.drewN nq)
  have HG:=Lib.hid (grownBy_drewN HC.out.2 nq)
  clear c0 c1 f0 f1
  have hy:=HY.out
  have hNl4:N.length≤4096:=by have:=HZ.out.1;omega
  cases hct:cut N with
  | error k =>
   rw [hct] at hy
   have hkz:=cut_le hct
   rw [readS_err (scn_cut hNl4 hct)] at HRD
   have hsl:=@cut_slash N k hct
   obtain ⟨a,ha⟩:∃a,N.length - k=a:=⟨_,rfl⟩
   rw [ha] at HRD hsl
   have haz:a≤z:=by have:=HZ.out.1;omega
   have hLR2:∀W m,LR W b l u d x→LR ((W.drewN m).setCell ⟨b,1,none⟩ (.int .i64 ((q:Int)+(a:Int)))) b l (r.drop a) d x:=by
    intro W m h
    obtain ⟨h4,h5⟩:=rest_drop HR.out.1 HR.out.2.1 a (by have:=HN.out;have:=HZ.out;omega)
    refine LR.go (h.drewN m) _ h4 h5 ?_
    rw [List.length_drop]
    have:=HN.out;have:=HZ.out;omega
   have HLR2:=Lib.hid hLR2
   have hyk:y=.error (r.drop a).length:=by
    rw [←hy,List.length_drop]
    have:=HN.out;have:=HZ.out
    show Except.error (k+u.length)=_
    congr 1
    omega
   subst hyk
   have hw1:IntKind.i64.wrap ((q:Int)+(a:Int))=(q:Int)+(a:Int):=IntWalk.i64_in _ (by omega)
   have hcs:a=0∨(0<a∧a=z)∨(∃e c:UInt8,0<a∧a<z∧N[a - 1]?=some e∧N[a]?=some c∧(e.toNat≠47∨e.toNat=47∧c.toNat≠48)):=by
    by_cases h0:a=0
    ·exact .inl h0
    ·by_cases h1:a=z
     ·exact .inr (.inl ⟨by omega,h1⟩)
     ·have hl1:a - 1<N.length:=by have:=HZ.out.1;omega
      have hl2:a<N.length:=by have:=HZ.out.1;omega
      have e1:=List.getElem?_eq_getElem hl1
      have e2:=List.getElem?_eq_getElem hl2
      refine .inr (.inr ⟨N[a - 1],N[a],by omega,by omega,e1,e2,?_⟩)
      have:=hsl (by omega) e2 e1
      by_cases h47:(N[a - 1]).toNat=47
      ·exact .inr ⟨h47,fun h=>this ⟨h47,h⟩⟩
      ·exact .inl h47
   clear hy HY hct hsl hLR2 ha hkz hNl4
   have hqa:q+a≤4096:=by have:=HN.out;have:=HZ.out;omega
   rcases hcs with h0 | ⟨h0,h1⟩ | ⟨e,c,h0,h1,h2,h3,h4⟩
   ·subst h0
    go_wp2_with fail
    refine (HRD.out _).mono ?_
    rintro en w2 ⟨v2,rfl,rfl,hb2⟩
    have hlr2:=HLR.out.later hb2
    obtain ⟨c0,c1,f0,f1⟩:=hlr2.cells HSS.out hp
    have H2:=Lib.hid (And.intro hlr2 (grownBy_trans HG.out (grownBy_below (row:=some b) hb2)))
    clear hlr2 hb2
    dsimp only
    go_wp2_with fail
    refine (HF.out _ _ _ (HLR2.out _ 0 H2.out.1)).mono ?_
    rintro en w3 ⟨rfl,rfl⟩
    exact ⟨rfl,rfl,grownBy_set H2.out.2 _ _⟩
   ·subst h1
    have a1:(0:Int)<(a:Int):=by omega
    have a2:¬(a:Int)<(a:Int):=by omega
    go_wp2_with fail
    refine (HRD.out _).mono ?_
    rintro en w2 ⟨v2,rfl,rfl,hb2⟩
    have hlr2:=HLR.out.later hb2
    obtain ⟨c0,c1,f0,f1⟩:=hlr2.cells HSS.out hp
    have H2:=Lib.hid (And.intro hlr2 (grownBy_trans HG.out (grownBy_below (row:=some b) hb2)))
    clear hlr2 hb2
    dsimp only
    go_wp2_with fail
    refine (HF.out _ _ _ (HLR2.out _ 0 H2.out.1)).mono ?_
    rintro en w3 ⟨rfl,rfl⟩
    exact ⟨rfl,rfl,grownBy_set H2.out.2 _ _⟩
   ·have a1:(0:Int)<(a:Int):=by omega
    have a2:(a:Int)<(z:Int):=by omega
    obtain ⟨j,hj⟩:∃j,a - 1=j:=⟨_,rfl⟩
    have a3:(a:Int) - 1=(j:Int):=by omega
    have a4:IntKind.i64.wrap ((a:Int) - 1)=(j:Int):=by rw [IntWalk.i64_in _ (by omega)];omega
    have a5:(0:Int)≤(j:Int):=by omega
    have a6:(j:Int)<(z:Int):=by omega
    rw [hj] at h2
    have i1:=HBA.out j e h2
    have i2:=HBA.out a c h3
    have jz:j<z:=by omega
    clear h2 h3 hj
    rcases h4 with h4 | ⟨h4,h5⟩
    ·have b1:¬(e.toNat:Int)=47:=by omega
     have b2:((e.toNat:Int)==47)=false:=by simpa using b1
     go_wp2_with fail
     refine (HRD.out _).mono ?_
     rintro en w2 ⟨v2,rfl,rfl,hb2⟩
     have hlr2:=HLR.out.later hb2
     obtain ⟨c0,c1,f0,f1⟩:=hlr2.cells HSS.out hp
     have H2:=Lib.hid (And.intro hlr2 (grownBy_trans HG.out (grownBy_below (row:=some b) hb2)))
     clear hlr2 hb2
     dsimp only
     go_wp2_with fail
     refine (HF.out _ _ _ (HLR2.out _ 0 H2.out.1)).mono ?_
     rintro en w3 ⟨rfl,rfl⟩
     exact ⟨rfl,rfl,grownBy_set H2.out.2 _ _⟩
    ·have b1:(e.toNat:Int)=47:=by omega
     have b3:¬(c.toNat:Int)=48:=by omega
     have b4:((c.toNat:Int)==48)=false:=by simpa using b3
     go_wp2_with fail
     refine (HRD.out _).mono ?_
     rintro en w2 ⟨v2,rfl,rfl,hb2⟩
     have hlr2:=HLR.out.later hb2
     obtain ⟨c0,c1,f0,f1⟩:=hlr2.cells HSS.out hp
     have H2:=Lib.hid (And.intro hlr2 (grownBy_trans HG.out (grownBy_below (row:=some b) hb2)))
     clear hlr2 hb2
     dsimp only
     go_wp2_with fail
     refine (HF.out _ _ _ (HLR2.out _ 0 H2.out.1)).mono ?_
     rintro en w3 ⟨rfl,rfl⟩
     exact ⟨rfl,rfl,grownBy_set H2.out.2 _ _⟩
  | ok np =>
   obtain ⟨ng,pc⟩:=np
   rw [hct] at hy
   have hyk:y=.ok (N,u):=hy.symm
   subst hyk
   clear HY
   cases hlt:pc.late with
   | none =>
    obtain ⟨P,hP⟩:=readS_fine (d:=0) (scn_fine hNl4 hct hlt)
    rw [hP] at HRD
    have HLN:Hid (lateN q N x=x):=Lib.hid (by unfold lateN;rw [nlt_none hct hlt])
    clear hy hct hlt hP hNl4
    go_wp2_with fail
    refine (HRD.out _).mono ?_
    rintro en w2 ⟨v2,rfl,rfl,hb2⟩
    have hlr2:=HLR.out.later hb2
    obtain ⟨c0,c1,f0,f1⟩:=hlr2.cells HSS.out hp
    have H2:=Lib.hid (And.intro hlr2 (grownBy_trans HG.out (grownBy_below (row:=some b) hb2)))
    clear hlr2 hb2
    dsimp only
    go_wp2
    go_ret
    rw [←HBN.out]
    refine ⟨⟨rfl,?_⟩,H2.out.2⟩
    show LR _ b l u d (lateN q N x)
    rw [HLN.out]
    exact H2.out.1
   | some kc =>
    obtain ⟨k,c⟩:=kc
    rw [readS_err (scn_late hNl4 hct hlt)] at HRD
    have hcode:=late_code hlt
    have hnl:=nlt_late hct hlt
    obtain ⟨a,ha⟩:∃a,N.length - k=a:=⟨_,rfl⟩
    rw [ha] at HRD hnl
    have HLN:Hid (lateN q N x=kp x ((q+a:Nat):Int) (if c=50 then 120 else c)):=Lib.hid (by unfold lateN;rw [hnl])
    have haz:a≤z:=by have:=HZ.out.1;omega
    have hqa:q+a≤4096:=by have:=HN.out;have:=HZ.out;omega
    have hw1:IntKind.i64.wrap ((q:Int)+(a:Int))=(q:Int)+(a:Int):=IntWalk.i64_in _ (by omega)
    rcases hcode with rfl | rfl
    ·obtain ⟨l1,l2,⟨e,l3,l4⟩,c,l5,l6⟩:=late_50 hct hlt
     rw [ha] at l1 l2 l3 l5
     have a1:(0:Int)<(a:Int):=by omega
     have hazl:a<z:=by have:=HZ.out.1;omega
     have a2:(a:Int)<(z:Int):=by omega
     obtain ⟨j,hj⟩:∃j,a - 1=j:=⟨_,rfl⟩
     have a3:(a:Int) - 1=(j:Int):=by omega
     have a4:IntKind.i64.wrap ((a:Int) - 1)=(j:Int):=by rw [IntWalk.i64_in _ (by omega)];omega
     have a5:(0:Int)≤(j:Int):=by omega
     have a6:(j:Int)<(z:Int):=by omega
     rw [hj] at l3
     have i1:=HBA.out j e l3
     have i2:=HBA.out a c l5
     have jz:j<z:=by omega
     have b1:(e.toNat:Int)=47:=by omega
     have b2:(c.toNat:Int)=48:=by omega
     clear hy hct hlt hNl4 hnl ha l1 l2 l3 l5 hj
     go_wp2_with fail
     refine (HRD.out _).mono ?_
     rintro en w2 ⟨v2,rfl,rfl,hb2⟩
     have hlr2:=HLR.out.later hb2
     obtain ⟨c0,c1,f0,f1⟩:=hlr2.cells HSS.out hp
     have H2:=Lib.hid (And.intro hlr2 (grownBy_trans HG.out (grownBy_below (row:=some b) hb2)))
     clear hlr2 hb2
     dsimp only
     go_wp2_with fail
     refine (HK.out _ _ _ _ H2.out.1).mono ?_
     rintro en w3 ⟨rfl,h3,g3⟩
     have H3:=Lib.hid (And.intro h3 (grownBy_trans H2.out.2 g3))
     clear h3 g3
     go_wp2
     go_ret
     rw [←HBN.out]
     refine ⟨⟨rfl,?_⟩,H3.out.2⟩
     show LR _ b l u d (lateN q N x)
     rw [HLN.out]
     exact H3.out.1
    ·clear hy hct hlt hNl4 hnl ha
     go_wp2_with fail
     refine (HRD.out _).mono ?_
     rintro en w2 ⟨v2,rfl,rfl,hb2⟩
     have hlr2:=HLR.out.later hb2
     obtain ⟨c0,c1,f0,f1⟩:=hlr2.cells HSS.out hp
     have H2:=Lib.hid (And.intro hlr2 (grownBy_trans HG.out (grownBy_below (row:=some b) hb2)))
     clear hlr2 hb2
     dsimp only
     go_wp2_with fail
     refine (HK.out _ _ _ _ H2.out.1).mono ?_
     rintro en w3 ⟨rfl,h3,g3⟩
     have H3:=Lib.hid (And.intro h3 (grownBy_trans H2.out.2 g3))
     clear h3 g3
     go_wp2
     go_ret
     rw [←HBN.out]
     refine ⟨⟨rfl,?_⟩,H3.out.2⟩
     show LR _ b l u d (lateN q N x)
     rw [HLN.out]
     exact H3.out.1
end Go.Proofs.YtigmpifjcijdbaaGreatDoor
end
