/- Layer 5, the program: the reader over a text: value, is, fail. -/
import Derived.Test.YtigmpifjcijdbaaGreatDoorG10
import Derived.Test.YtigmpifjcijdbaaGreatDoorG11
section
namespace Go.Proofs.YtigmpifjcijdbaaGreatDoor
set_option linter.unusedVariables false
set_option linter.unusedSimpArgs false
open Go.RowKit Verge
def vl (c:UInt8):Nat:=if isX c then dvl c else 99
theorem ret_u32 {a:Int} {b:Nat} (h:a=b):Ending.returned (.int .u32 a)=.returned (.int .u32 (b:Int)):=by rw [h]
theorem value_any (c:UInt8) (w:World):Calls Tryz.prog 155 #[.int .u8 (c.toNat:Int)] w fun e w'=>e=.returned (.int .u32 (vl c:Int))∧w=w':=by
 have hc:=c.toNat_lt
 have hcl:(48≤c.toNat∧c.toNat≤57∧vl c=c.toNat - 48)∨(97≤c.toNat∧c.toNat≤102∧vl c=c.toNat - 87)∨(65≤c.toNat∧c.toNat≤70∧vl c=c.toNat - 55)∨(¬((48≤c.toNat∧c.toNat≤57)∨(97≤c.toNat∧c.toNat≤102)∨(65≤c.toNat∧c.toNat≤70))∧vl c=99):=by
  unfold vl
  by_cases h:isX c=true
  ·rw [if_pos h]
   have h':=isX_iff.1 h
   unfold dvl
   rcases h' with h' | h' | h'
   ·left;rw [if_pos (by omega)];omega
   ·right;left;rw [if_neg (by omega),if_pos (by omega)];omega
   ·right;right;left;rw [if_neg (by omega),if_neg (by omega)];omega
  ·have h':isX c=false:=by simpa using h
   right;right;right
   rw [h']
   exact ⟨isX_no.1 h',rfl⟩
 generalize vl c=v at hcl ⊢
 generalize c.toNat=n at hcl hc ⊢
 have HC:=Lib.hid hcl
 clear hcl
 go_enter Tryz.func155,Tryz.ntmps155
 go_wp2
 all_goals
  go_ret
  refine ⟨ret_u32 ?_,rfl⟩
  have h':=HC.out
  first
  | omega
  | (go_num;omega)
  | (simp [IntKind.wrap,IntKind.bits] <;> omega)
abbrev rdO (l:List UInt8) (q:Nat):Obj:=.cells #[.string (bs l),.int .i64 (q:Int)] 153
def Rdr (w:World) (b:Nat) (l r:List UInt8):Prop:=r.length≤l.length∧l.drop (l.length - r.length)=r∧w.heap[b]?=some (rdO l (l.length - r.length))
theorem Rdr.lt {w:World} {b:Nat} {l r:List UInt8} (h:Rdr w b l r):b<w.heap.size:=(Array.getElem?_eq_some_iff.1 h.2.2).1
theorem Rdr.cells {w:World} {b:Nat} {l r:List UInt8} (h:Rdr w b l r):w.cell? ⟨b,0,none⟩=some (.string (bs l))∧w.cell? ⟨b,1,none⟩=some (.int .i64 ((l.length - r.length:Nat):Int))∧w.frozen? ⟨b,0,none⟩=false∧w.frozen? ⟨b,1,none⟩=false:=by
 have h:=h.2.2
 refine ⟨?_,?_,?_,?_⟩ <;> simp [World.cell?,World.frozen?,h]
theorem Rdr.later {w w':World} {b:Nat} {l r:List UInt8} (h:Rdr w b l r) (hb:Below w.heap.size w w'):Rdr w' b l r:=⟨h.1,h.2.1,(hb.block b h.lt).trans h.2.2⟩
theorem Rdr.drewN {w:World} {b:Nat} {l r:List UInt8} (h:Rdr w b l r) (n:Nat):Rdr (w.drewN n) b l r:=h
theorem Rdr.set {w:World} {b:Nat} {l r:List UInt8} (h:Rdr w b l r) (s:List UInt8) (h1:s.length≤l.length) (h2:l.drop (l.length - s.length)=s) {k:Int} (hk:k=((l.length - s.length:Nat):Int)) :
  Rdr (w.setCell ⟨b,1,none⟩ (.int .i64 k)) b l s:=by
 refine ⟨h1,h2,?_⟩
 have h:=h.2.2
 subst hk
 simp [World.setCell,Array.getElem?_modify,h]
theorem rest_at {l r:List UInt8} (h1:r.length≤l.length) (h2:l.drop (l.length - r.length)=r) {i:Nat} (c:UInt8) (hc:r[i]?=some c):l[l.length - r.length+i]?=some c:=by
 rw [←List.getElem?_drop,h2,hc]
theorem rest_drop {l r:List UInt8} (h1:r.length≤l.length) (h2:l.drop (l.length - r.length)=r) (k:Nat) (hk:k≤r.length):(r.drop k).length≤l.length∧l.drop (l.length - (r.drop k).length)=r.drop k:=by
 refine ⟨by rw [List.length_drop];omega,?_⟩
 have:l.length - (r.drop k).length=(l.length - r.length)+k:=by rw [List.length_drop];omega
 rw [this,←List.drop_drop,h2]
def isR (m r:List UInt8):Bool×List UInt8:=match r with | []=>(false,[]) | c::s=>if c∈m then (true,s) else (false,c::s)
theorem fail_any (w:World) (b:Nat) (l r:List UInt8) (h:Rdr w b l r):Calls Tryz.prog 141 #[.pointer (some ⟨b,0,none⟩)] w fun e w' =>
  e=.panicked [{ v:=.iface 150 (.agg #[.int .i64 ((l.length - r.length:Nat):Int),.int .i64 50]),recovered:=false }]∧w=w':=by
 obtain ⟨c0,c1,f0,f1⟩:=h.cells
 clear h
 go_enter Tryz.func141,Tryz.ntmps141
 go_wp2
 exact ⟨rfl,⟨rfl,rfl⟩⟩
set_option maxHeartbeats 1000000 in
theorem is_any (w:World) (b:Nat) (l r m:List UInt8) (h:Rdr w b l r) (hl:l.length≤100000) (hm:m.length≤100):Calls Tryz.prog 139 #[.pointer (some ⟨b,0,none⟩),.string (bs m)] w fun e w' =>
  e=.returned (.bool (isR m r).1)∧Rdr w' b l (isR m r).2∧w.grownBy w' (some b):=by
 obtain ⟨c0,c1,f0,f1⟩:=h.cells
 have HR:=Lib.hid h
 obtain ⟨S,hS⟩:∃S,bs l=S:=⟨_,rfl⟩
 obtain ⟨M,hM⟩:∃M,bs m=M:=⟨_,rfl⟩
 have hs:S.size=l.length:=by rw [←hS];exact bs_size _
 have hms:M.size=m.length:=by rw [←hM];exact bs_size _
 have HSA:=Lib.hid (fun i c h=>(hS▸bs_at l i c h:∀hi:i<S.size,S[i]'hi=c))
 have HMA:=Lib.hid (fun i c h=>(hM▸bs_at m i c h:∀hi:i<M.size,M[i]'hi=c))
 rw [hM]
 rw [hS] at c0
 have h1:=h.1
 have h2:=h.2.1
 clear h hS hM
 cases r with
 | nil =>
  obtain ⟨L,hL⟩:∃L,l.length=L:=⟨_,rfl⟩
  rw [show (l.length - ([]:List UInt8).length:Nat)=L by simp [hL]] at c1
  rw [hL] at hs hl
  have HL:=Lib.hid hL
  have HH:=Lib.hid (And.intro h1 h2)
  clear hL h1 h2
  go_enter Tryz.func139,Tryz.ntmps139
  go_upto_region 1 with fail
  go_quiet (fail)
  go_wp2
  go_ret
  exact ⟨rfl,HR.out.drewN _,grownBy_drewN (grownBy_refl _ _) _⟩
 | cons c s =>
  have hc:=rest_at h1 h2 (i:=0) c rfl
  rw [Nat.add_zero] at hc
  have h3:=rest_drop h1 h2 1 (by simp)
  rw [List.drop_one,List.tail_cons] at h3
  have hq1:(l.length - s.length)=(l.length - (c::s).length)+1:=by
   have:s.length+1≤l.length:=h1
   rw [List.length_cons];omega
  have hqL:l.length - (c::s).length<l.length:=by
   have:s.length+1≤l.length:=h1
   rw [List.length_cons];omega
  generalize l.length - (c::s).length=q at *
  have hcS:=HSA.out q c hc
  have HC:=Lib.hid (And.intro hc (And.intro h3 hq1))
  obtain ⟨L,hL⟩:∃L,l.length=L:=⟨_,rfl⟩
  obtain ⟨K,hK⟩:∃K,m.length=K:=⟨_,rfl⟩
  rw [hL] at hs hl hqL
  rw [hK] at hms hm
  have HL:=Lib.hid hL
  have HK:=Lib.hid hK
  have hqI:(q:Int)<(L:Int):=by omega
  clear hL hK hc h3 hq1 h1 h2
  go_enter Tryz.func139,Tryz.ntmps139
  go_upto_region 1 with fail
  go_quiet (fail)
  go_wp2
  go_loopw [18] (fun iv wr=>∃i n:Nat,i≤K∧iv=.int .i64 (i:Int)∧wr=w.drewN n∧Hid (∀k<i,∀d,m[k]?=some d→c≠d)) (fun iv _=>K - (intOf iv).toNat)
  case atStart=>exact ⟨0,_,by omega,rfl,rfl,fun k hk=>by omega⟩
  case round =>
   obtain ⟨i,n,hi,rfl,rfl,hI⟩:=hrel
   by_cases hlt:i<K
   ·have hltI:(i:Int)<(K:Int):=by omega
    obtain ⟨d,hd⟩:∃d,m[i]?=some d:=⟨_,List.getElem?_eq_getElem (by rw [HK.out];exact hlt)⟩
    have hdM:=HMA.out i d hd
    have HD:=Lib.hid hd
    clear hd
    by_cases he:c=d
    ·subst he
     go_upto_region 5 with fail
     go_quiet (fail)
     go_wp2
     go_ret
     have e:isR m (c::s)=(true,s):=if_pos (List.mem_of_getElem? HD.out)
     rw [e]
     refine ⟨rfl,?_,?_⟩
     ·repeat refine Rdr.drewN ?_ _
      refine Rdr.set (r:=c::s) HR.out s HC.out.2.1.1 HC.out.2.1.2 ?_
      have:=HC.out.2.2
      go_num
     ·repeat refine grownBy_drewN ?_ _
      exact grownBy_set (grownBy_drewN (grownBy_refl w _) _) _ _
    ·have hne:¬((c.toNat:Int)=(d.toNat:Int)):=fun e=>he (UInt8.toNat_inj.1 (by omega))
     have HE:=Lib.hid he
     clear he
     go_upto_region 5 with fail
     go_quiet (fail)
     go_wp2
     go_roundw
     case rel =>
      refine ⟨i+1,_,by omega,by go_num,rfl,fun k hk e h => ?_⟩
      by_cases e1:k=i
      ·subst e1
       rw [HD.out] at h
       injection h with h
       rw [←h];exact HE.out
      ·exact hI.out k (by omega) e h
     case measure=>simp [intOf];omega
   ·go_wp2
    go_ret
    have e:isR m (c::s)=(false,c::s):=if_neg (fun hm=>by
     obtain ⟨p,hp,he⟩:=List.getElem_of_mem hm
     have:=HK.out
     exact hI.out p (by omega) c (by rw [List.getElem?_eq_getElem hp,he]) rfl)
    rw [e]
    exact ⟨rfl,HR.out.drewN _,grownBy_drewN (grownBy_refl _ _) _⟩
end Go.Proofs.YtigmpifjcijdbaaGreatDoor
end

section
namespace Go.Proofs.YtigmpifjcijdbaaGreatDoor
set_option linter.unusedVariables false
set_option linter.unusedSimpArgs false
open Go.RowKit Verge
theorem take_at {p:UInt8→Bool}:∀{r:List UInt8} {i:Nat} {c:UInt8},(∀k<i,∀d,r[k]?=some d→p d=true)→r[i]?=some c→p c=false→r.takeWhile p=r.take i∧r.dropWhile p=r.drop i
 | [],i,c,_,h,_=>by simp at h
 | x::xs,0,c,_,h,hp=>by
  have hx:x=c:=by simpa using h
  subst hx
  exact ⟨by rw [List.takeWhile_cons_of_neg (by simp [hp])];rfl,by rw [List.dropWhile_cons_of_neg (by simp [hp])];rfl⟩
 | x::xs,i+1,c,h,hc,hp=>by
  have hx:p x=true:=h 0 (by omega) x rfl
  have ih:=take_at (r:=xs) (i:=i) (c:=c) (fun k hk d hd=>h (k+1) (by omega) d hd) hc hp
  exact ⟨by rw [List.takeWhile_cons_of_pos hx,List.take_succ_cons,ih.1],by rw [List.dropWhile_cons_of_pos hx,List.drop_succ_cons,ih.2]⟩
theorem take_end {p:UInt8→Bool} {r:List UInt8} (h:∀k<r.length,∀d,r[k]?=some d→p d=true):r.takeWhile p=r∧r.dropWhile p=[]:=by
 have:∀d∈r,p d=true:=fun d hd=>by
  obtain ⟨k,hk,e⟩:=List.getElem_of_mem hd
  exact h k hk d (by rw [List.getElem?_eq_getElem hk,e])
 clear h
 induction r with
 | nil=>exact ⟨rfl,rfl⟩
 | cons x xs ih =>
  have hx:=this x List.mem_cons_self
  have:=ih fun d hd=>this d (List.mem_cons_of_mem _ hd)
  exact ⟨by rw [List.takeWhile_cons_of_pos hx,this.1],by rw [List.dropWhile_cons_of_pos hx,this.2]⟩
def pB (B:Nat) (c:UInt8):Bool:=decide (vl c<B)
theorem pB10:pB 10=isD:=by
 funext c
 unfold pB vl
 by_cases h:isX c=true
 ·rw [if_pos h,Bool.eq_iff_iff,decide_eq_true_iff,isD_iff]
  have:=isX_iff.1 h
  unfold dvl
  rcases this with h' | h' | h'
  ·rw [if_pos (by omega)];omega
  ·rw [if_neg (by omega),if_pos (by omega)];omega
  ·rw [if_neg (by omega),if_neg (by omega)];omega
 ·have h':isX c=false:=by simpa using h
  rw [h']
  have hd:isD c=false:=by
   by_cases hd:isD c=true
   ·exact absurd (isX_D hd) h
   ·simpa using hd
  rw [hd];rfl
theorem pB16:pB 16=isX:=by
 funext c
 unfold pB vl
 by_cases h:isX c=true
 ·rw [if_pos h,h]
  have:=isX_iff.1 h
  unfold dvl
  rcases this with h' | h' | h'
  ·rw [if_pos (by omega)];simp;omega
  ·rw [if_neg (by omega),if_pos (by omega)];simp;omega
  ·rw [if_neg (by omega),if_neg (by omega)];simp;omega
 ·have h':isX c=false:=by simpa using h
  rw [h'];rfl
theorem Rdr.cellsAt {w:World} {b q:Nat} {l r:List UInt8} {S:ByteArray} (h:Rdr w b l r) (hS:bs l=S) (hq:l.length - r.length=q):w.cell? ⟨b,0,none⟩=some (.string S)∧w.cell? ⟨b,1,none⟩=some (.int .i64 (q:Int))∧w.frozen? ⟨b,0,none⟩=false∧w.frozen? ⟨b,1,none⟩=false:=by
 subst hS;subst hq;exact h.cells
set_option maxHeartbeats 2000000 in
theorem digits_any (w:World) (b:Nat) (l r:List UInt8) (B:Nat) (h:Rdr w b l r) (hl:l.length≤100000):Calls Tryz.prog 154 #[.pointer (some ⟨b,0,none⟩),.int .u32 (B:Int)] w fun e w' =>
  e=.returned (.string (bs (r.takeWhile (pB B))))∧Rdr w' b l (r.dropWhile (pB B))∧w.grownBy w' (some b):=by
 obtain ⟨c0,c1,f0,f1⟩:=h.cells
 have HR:=Lib.hid h
 have HV:=Lib.hid (fun c W=>value_any c W)
 obtain ⟨S,hS⟩:∃S,bs l=S:=⟨_,rfl⟩
 have hs:S.size=l.length:=by rw [←hS];exact bs_size _
 have HSA:=Lib.hid (fun i c h=>(hS▸bs_at l i c h:∀hi:i<S.size,S[i]'hi=c))
 have HSS:=Lib.hid hS
 rw [hS] at c0
 have h1:=h.1
 have h2:=h.2.1
 clear h hS
 obtain ⟨L,hL⟩:∃L,l.length=L:=⟨_,rfl⟩
 obtain ⟨q,hq⟩:∃q,l.length - r.length=q:=⟨_,rfl⟩
 obtain ⟨n,hn⟩:∃n,r.length=n:=⟨_,rfl⟩
 rw [hq] at c1
 have hqn:q+n=L:=by omega
 have HH:=Lib.hid (And.intro h1 (And.intro h2 (And.intro hq hn)))
 rw [hL] at hs hl
 have HL:=Lib.hid hL
 have HQ:=Lib.hid hqn
 have hqL:q≤L:=by omega
 clear hL hq hn h1 h2 hqn
 go_enter Tryz.func154,Tryz.ntmps154
 go_wp2
 go_loopw [20] (fun _ wr=>∃i p:Nat,i≤n∧p≤L∧wr.cell? ⟨b,0,none⟩=some (.string S)∧wr.cell? ⟨b,1,none⟩=some (.int .i64 (p:Int))∧wr.frozen? ⟨b,0,none⟩=false∧wr.frozen? ⟨b,1,none⟩=false ∧
   Hid (p=q+i∧Rdr wr b l (r.drop i)∧w.grownBy wr (some b)∧∀k<i,∀d,r[k]?=some d→pB B d=true)) (fun _ wr=>L - (intOf ((wr.cell? ⟨b,1,none⟩).getD undef)).toNat)
 case atStart=>exact ⟨0,q,by omega,hqL,c0,c1,f0,f1,rfl,by simpa using HR.out,grownBy_refl _ _,fun k hk=>by omega⟩
 case round =>
  obtain ⟨i,p,hi,hp,d0,d1,g0,g1,hI⟩:=hrel
  by_cases hlt:i<n
  ·obtain ⟨c,hc⟩:∃c,r[i]?=some c:=⟨_,List.getElem?_eq_getElem (by rw [HH.out.2.2.2];exact hlt)⟩
   have hcl:=rest_at HH.out.1 HH.out.2.1 c hc
   rw [HH.out.2.2.1,←hI.out.1] at hcl
   have hcS:=HSA.out p c hcl
   have hpL:p<L:=by have:=hI.out.1;have:=HQ.out;omega
   have hpI:(p:Int)<(L:Int):=by omega
   have hpd:decide ((p:Int)<(L:Int))=true:=by simpa using hpI
   have HC:=Lib.hid hc
   clear hc hcl
   by_cases hv:vl c<B
   ·have hvd:decide (((vl c:Nat):Int)<(B:Int))=true:=by simpa using hv
    have HV2:=Lib.hid hv
    clear hv
    go_upto_region 2 with fail
    go_quiet ((go_at_call 155;with_reducible exact quiet_left (HV.out _ _)))
    go_wp2
    go_roundw
    case rel =>
     have hR:Rdr ((wr.drewN nq).setCell ⟨b,1,none⟩ (.int .i64 ((p:Int)+1))) b l (r.drop (i+1)):=by
      have h3:=rest_drop HH.out.1 HH.out.2.1 (i+1) (by have:=HH.out.2.2.2;omega)
      refine Rdr.set (r:=r.drop i) (hI.out.2.1.drewN _) _ h3.1 h3.2 ?_
      have:=hI.out.1
      obtain ⟨e1,_,e3,e4⟩:=HH.out
      rw [List.length_drop]
      omega
     obtain ⟨k0,k1,k2,k3⟩:=hR.cellsAt (q:=p+1) HSS.out (by
      have:=hI.out.1
      obtain ⟨e1,_,e3,e4⟩:=HH.out
      rw [List.length_drop]
      omega)
     refine ⟨i+1,p+1,by omega,by omega,k0,k1,k2,k3,by have:=hI.out.1;omega,hR,grownBy_set (grownBy_drewN hI.out.2.2.1 _) _ _,fun k hk d hd => ?_⟩
     by_cases e:k=i
     ·subst e
      rw [HC.out] at hd
      injection hd with hd
      subst hd
      exact decide_eq_true HV2.out
     ·exact hI.out.2.2.2 k (by omega) d hd
    case measure =>
     rw [d1,show ((((wr.drewN nq).setCell ⟨b,1,none⟩ (.int .i64 ((p:Int)+1))).cell? ⟨b,1,none⟩))=some (.int .i64 ((p:Int)+1)) from by
      have hR:Rdr ((wr.drewN nq).setCell ⟨b,1,none⟩ (.int .i64 ((p:Int)+1))) b l (r.drop (i+1)):=by
       have h3:=rest_drop HH.out.1 HH.out.2.1 (i+1) (by have:=HH.out.2.2.2;omega)
       refine Rdr.set (r:=r.drop i) (hI.out.2.1.drewN _) _ h3.1 h3.2 ?_
       have:=hI.out.1
       obtain ⟨e1,_,e3,e4⟩:=HH.out
       rw [List.length_drop]
       omega
      exact (hR.cellsAt (q:=p+1) HSS.out (by
       have:=hI.out.1
       obtain ⟨e1,_,e3,e4⟩:=HH.out
       rw [List.length_drop]
       omega)).2.1]
     show L - (p+1:Int).toNat<L - (p:Int).toNat
     omega
   ·have hvd:decide (((vl c:Nat):Int)<(B:Int))=false:=by simpa using hv
    have HV2:=Lib.hid hv
    clear hv
    go_upto_region 2 with fail
    go_quiet ((go_at_call 155;with_reducible exact quiet_left (HV.out _ _)))
    go_wp2
    have hqp:q≤p:=by have:=hI.out.1;omega
    have hqpI:(q:Int)≤(p:Int):=by omega
    go_upto_region 4 with fail
    go_quiet (fail)
    go_wp2
    go_ret
    obtain ⟨t1,t2⟩:=take_at hI.out.2.2.2 HC.out (decide_eq_false HV2.out)
    rw [t1,t2]
    refine ⟨?_,?_,?_⟩
    ·have hp':=hI.out.1
     rw [←HSS.out,bs_sub,←HH.out.2.2.1,HH.out.2.1,HH.out.2.2.1,show p - q=i by omega]
     rfl
    ·exact (hI.out.2.1.drewN _).drewN _
    ·exact grownBy_drewN (grownBy_drewN hI.out.2.2.1 _) _
  ·have hpl:p=L:=by have:=hI.out.1;have:=HQ.out;omega
   have hin:i=n:=by omega
   have hqp:q≤L:=by have:=HQ.out;omega
   have hqpI:(q:Int)≤(L:Int):=by omega
   subst hin
   subst hpl
   go_upto_region 2 with fail
   go_quiet ((go_at_call 155;with_reducible exact quiet_left (HV.out _ _)))
   go_wp2
   go_upto_region 4 with fail
   go_quiet (fail)
   go_wp2
   go_ret
   obtain ⟨t1,t2⟩:=take_end (p:=pB B) (r:=r) (fun k hk d hd=>hI.out.2.2.2 k (by rw [←HH.out.2.2.2];exact hk) d hd)
   rw [t1,t2]
   have hR:=hI.out.2.1
   rw [List.drop_eq_nil_of_le (by have:=HH.out.2.2.2;omega)] at hR
   refine ⟨?_,?_,?_⟩
   ·have hp':=hI.out.1
    rw [←HSS.out,bs_sub,←HH.out.2.2.1,HH.out.2.1,HH.out.2.2.1,List.take_of_length_le (by have:=HH.out.2.2.2;omega)]
    rfl
   ·exact (hR.drewN _).drewN _
   ·exact grownBy_drewN (grownBy_drewN hI.out.2.2.1 _) _
def Fails (l r:List UInt8) (e:Ending):Prop:=e=.panicked [{ v:=.iface 150 (.agg #[.int .i64 ((l.length - r.length:Nat):Int),.int .i64 50]),recovered:=false }]
theorem bs_nil:bs []={ data:=#[] }:=rfl
theorem bs_ne {a:List UInt8} (h:a≠[]):(bs a).toList.isEmpty=false:=by
 rw [ByteArray.toList_eq,bs_list]
 cases a with
 | nil=>exact absurd rfl h
 | cons=>rfl
theorem some_ok (w:World) (b:Nat) (l r:List UInt8) (B:Nat) (h:Rdr w b l r) (hl:l.length≤100000) (hne:r.takeWhile (pB B)≠[]):Calls Tryz.prog 144 #[.pointer (some ⟨b,0,none⟩),.int .u32 (B:Int)] w fun e w' =>
  e=.returned (.string (bs (r.takeWhile (pB B))))∧Rdr w' b l (r.dropWhile (pB B))∧w.grownBy w' (some b):=by
 have HD:=Lib.hid (digits_any w b l r B h hl)
 have hz:=bs_ne hne
 generalize bs (r.takeWhile (pB B))=t at *
 clear h hne
 go_enter Tryz.func144,Tryz.ntmps144
 go_wp2_with (go_at_call 154;refine (HD.out).mono ?_;rintro e w1 ⟨rfl,h1⟩;have H1:=Lib.hid h1;clear h1)
 go_ret
 exact ⟨rfl,H1.out⟩
theorem some_no (w:World) (b:Nat) (l r:List UInt8) (B:Nat) (h:Rdr w b l r) (hl:l.length≤100000) (he:r.takeWhile (pB B)=[]):Calls Tryz.prog 144 #[.pointer (some ⟨b,0,none⟩),.int .u32 (B:Int)] w fun e w' =>
  Fails l (r.dropWhile (pB B)) e∧w.grownBy w' (some b):=by
 have h0:=digits_any w b l r B h hl
 rw [he,bs_nil] at h0
 have HD:=Lib.hid h0
 have HF:=Lib.hid (fun W h=>fail_any W b l (r.dropWhile (pB B)) h)
 clear h he h0
 go_enter Tryz.func144,Tryz.ntmps144
 go_wp2_with (first | (go_at_call 154;refine (HD.out).mono ?_;rintro e w1 ⟨rfl,h1⟩;have H1:=Lib.hid h1;clear h1) | (go_at_call 141;refine (HF.out _ H1.out.1).mono ?_;rintro e w2 ⟨rfl,rfl⟩))
 exact ⟨rfl,⟨rfl,H1.out.2⟩⟩
end Go.Proofs.YtigmpifjcijdbaaGreatDoor
end

section
namespace Go.Proofs.YtigmpifjcijdbaaGreatDoor
set_option linter.unusedVariables false
set_option linter.unusedSimpArgs false
open Go.RowKit Verge
theorem isR_one {c:UInt8} {s:List UInt8} {k:UInt8}:isR [k] (c::s)=if c.toNat=k.toNat then (true,s) else (false,c::s):=by
 show (if c∈[k] then _ else _)=_
 by_cases h:c=k
 ·subst h;rw [if_pos List.mem_cons_self,if_pos rfl]
 ·rw [if_neg (by simpa using h),if_neg (fun e=>h (UInt8.toNat_inj.1 e))]
theorem empty_bs (a:List UInt8):(bs a).toList.isEmpty=a.isEmpty:=by rw [ByteArray.toList_eq,bs_list]
theorem ptd_np {p:UInt8→Bool} {r a r1:List UInt8} (ha:r.takeWhile p=a) (hr:r.dropWhile p=r1) (h:¬ ∃c s,r1=c::s∧c.toNat=46):ptd p r=if a=[] then .error r1.length else .ok (a,none,r1):=by
 unfold ptd
 rw [ha,hr]
 cases r1 with
 | nil=>rfl
 | cons c s=>exact if_neg fun e=>h ⟨c,s,rfl,e⟩
theorem ptd_pt {p:UInt8→Bool} {r a s:List UInt8} {c:UInt8} (ha:r.takeWhile p=a) (hr:r.dropWhile p=c::s) (h:c.toNat=46):ptd p r=if a=[]∧s.takeWhile p=[] then .error (s.dropWhile p).length else .ok (a,some (s.takeWhile p),s.dropWhile p):=by
 unfold ptd
 rw [ha,hr]
 exact if_pos h
def kOf:Option (List UInt8)→Int
 | none => -1
 | some b=>b.length
def Point (w:World) (b:Nat) (l:List UInt8) (x:Except Nat (List UInt8×Option (List UInt8)×List UInt8)) (e:Ending) (w':World):Prop:=
 match x with
 | .error k=>e=.panicked [{ v:=.iface 150 (.agg #[.int .i64 ((l.length - k:Nat):Int),.int .i64 50]),recovered:=false }]∧w.grownBy w' (some b)
 | .ok (p,q,s)=>e=.returned (.tuple #[.string (bs (p++ob q)),.int .i64 (kOf q)])∧Rdr w' b l s∧w.grownBy w' (some b)
set_option maxHeartbeats 1000000 in
theorem pointed_any (w:World) (b:Nat) (l r:List UInt8) (B:Nat) (h:Rdr w b l r) (hl:l.length≤100000):Calls Tryz.prog 140 #[.pointer (some ⟨b,0,none⟩),.int .u32 (B:Int)] w (Point w b l (ptd (pB B) r)):=by
 have h0:=digits_any w b l r B h hl
 have HF:=Lib.hid (fun W r h=>fail_any W b l r h)
 have HI:=Lib.hid (fun W r h=>is_any W b l r [46] h hl (by simp))
 have HD2:=Lib.hid (fun W r h=>digits_any W b l r B h hl)
 rw [show bs [46]={ data:=#[46] } from rfl] at HI
 obtain ⟨a,ha⟩:∃a,r.takeWhile (pB B)=a:=⟨_,rfl⟩
 obtain ⟨r1,hr1⟩:∃r1,r.dropWhile (pB B)=r1:=⟨_,rfl⟩
 rw [ha,hr1] at h0
 have HD:=Lib.hid h0
 have hla:a.length≤100000:=by
  have h1:=(List.takeWhile_sublist (l:=r) (pB B)).length_le
  rw [ha] at h1
  have:=h.1
  omega
 have hla':(bs a).size=a.length:=bs_size a
 have hlr1:r1.length≤100000:=by
  have h1:=(List.dropWhile_sublist (l:=r) (pB B)).length_le
  rw [hr1] at h1
  have:=h.1
  omega
 clear h h0
 by_cases hp:∃c s,r1=c::s∧c.toNat=46
 ·obtain ⟨c,s,rfl,hc⟩:=hp
  rw [ptd_pt ha hr1 hc]
  clear ha hr1
  have hi:isR [46] (c::s)=(true,s):=isR_one.trans (if_pos hc)
  have hI:=fun W h=>HI.out W (c::s) h
  rw [hi] at hI
  have HI':=Lib.hid hI
  clear HI hi hI hc
  have hD:=fun W h=>HD2.out W s h
  obtain ⟨t,ht⟩:∃t,s.takeWhile (pB B)=t:=⟨_,rfl⟩
  obtain ⟨u,hu⟩:∃u,s.dropWhile (pB B)=u:=⟨_,rfl⟩
  rw [ht,hu] at hD
  rw [ht,hu]
  have HD':=Lib.hid hD
  have hlt:t.length≤100000:=by
   have h1:=(List.takeWhile_sublist (l:=s) (pB B)).length_le
   rw [ht] at h1
   rw [List.length_cons] at hlr1
   omega
  have hlt':(bs t).size=t.length:=bs_size t
  have hnb:¬9223372036854775807<(bs a).size+(bs t).size:=by omega
  have HT:=Lib.hid hlt'
  clear HD2 hD ht hu hlr1 hla hlt hlt' hla'
  have hcat:bs a++bs t=bs (a++t):=bs_append a t
  have hem:=empty_bs (a++t)
  by_cases hn:a=[]∧t=[]
  ·rw [if_pos hn]
   have hem':(bs (a++t)).toList.isEmpty=true:=by rw [hem,hn.1,hn.2];rfl
   clear hem hn
   generalize bs (a++t)=X at *
   generalize bs a=XA at *
   generalize bs t=XT at *
   go_enter Tryz.func140,Tryz.ntmps140
   go_wp2_with (first
    | (go_at_call 154;(with_reducible refine (HD.out).mono ?_);rintro e w1 ⟨rfl,h1⟩;have H1:=Lib.hid h1;clear h1)
    | (go_at_call 139;refine (HI'.out _ H1.out.1).mono ?_;rintro e w2 ⟨rfl,h2⟩;have H2:=Lib.hid h2;clear h2)
    | (go_at_call 154;refine (HD'.out _ H2.out.1).mono ?_;rintro e w3 ⟨rfl,h3⟩;have H3:=Lib.hid h3;clear h3)
    | (go_at_call 141;refine (HF.out _ _ H3.out.1).mono ?_;rintro e w4 ⟨rfl,rfl⟩))
   exact ⟨rfl,rfl,grownBy_trans H1.out.2 (grownBy_trans H2.out.2 H3.out.2)⟩
  ·rw [if_neg hn]
   have hem':(bs (a++t)).toList.isEmpty=false:=by
    rw [hem]
    cases a with
    | nil=>cases t with
     | nil=>exact absurd ⟨rfl,rfl⟩ hn
     | cons=>rfl
    | cons=>rfl
   clear hem hn
   show Calls _ _ _ _ fun e w'=>e=.returned (.tuple #[.string (bs (a++t)),.int .i64 (t.length:Int)])∧Rdr w' b l u∧w.grownBy w' (some b)
   rw [←HT.out]
   clear HT
   generalize bs (a++t)=X at *
   generalize bs a=XA at *
   generalize bs t=XT at *
   go_enter Tryz.func140,Tryz.ntmps140
   go_wp2_with (first
    | (go_at_call 154;(with_reducible refine (HD.out).mono ?_);rintro e w1 ⟨rfl,h1⟩;have H1:=Lib.hid h1;clear h1)
    | (go_at_call 139;refine (HI'.out _ H1.out.1).mono ?_;rintro e w2 ⟨rfl,h2⟩;have H2:=Lib.hid h2;clear h2)
    | (go_at_call 154;refine (HD'.out _ H2.out.1).mono ?_;rintro e w3 ⟨rfl,h3⟩;have H3:=Lib.hid h3;clear h3))
   go_ret2
   exact ⟨rfl,H3.out.1,grownBy_trans H1.out.2 (grownBy_trans H2.out.2 H3.out.2)⟩
 ·have hi:isR [46] r1=(false,r1):=by
   cases r1 with
   | nil=>rfl
   | cons c s=>exact isR_one.trans (if_neg fun e=>hp ⟨c,s,rfl,e⟩)
  have hI:=fun W h=>HI.out W r1 h
  rw [hi] at hI
  have HI':=Lib.hid hI
  have hpt:=ptd_np ha hr1 hp
  rw [hpt]
  clear ha hr1 hpt HI hi hI hp HD2 hlr1 hla hla'
  have hem:=empty_bs a
  by_cases hn:a=[]
  ·rw [if_pos hn]
   have hem':(bs a).toList.isEmpty=true:=by rw [hem,hn];rfl
   clear hem hn
   generalize bs a=XA at *
   go_enter Tryz.func140,Tryz.ntmps140
   go_wp2_with (first
    | (go_at_call 154;(with_reducible refine (HD.out).mono ?_);rintro e w1 ⟨rfl,h1⟩;have H1:=Lib.hid h1;clear h1)
    | (go_at_call 139;refine (HI'.out _ H1.out.1).mono ?_;rintro e w2 ⟨rfl,h2⟩;have H2:=Lib.hid h2;clear h2)
    | (go_at_call 141;refine (HF.out _ _ H2.out.1).mono ?_;rintro e w4 ⟨rfl,rfl⟩))
   exact ⟨rfl,rfl,grownBy_trans H1.out.2 H2.out.2⟩
  ·rw [if_neg hn]
   have hem':(bs a).toList.isEmpty=false:=bs_ne hn
   clear hem hn
   show Calls _ _ _ _ fun e w'=>e=.returned (.tuple #[.string (bs (a++[])),.int .i64 (-1)])∧Rdr w' b l r1∧w.grownBy w' (some b)
   rw [List.append_nil]
   generalize bs a=XA at *
   go_enter Tryz.func140,Tryz.ntmps140
   go_wp2_with (first
    | (go_at_call 154;(with_reducible refine (HD.out).mono ?_);rintro e w1 ⟨rfl,h1⟩;have H1:=Lib.hid h1;clear h1)
    | (go_at_call 139;refine (HI'.out _ H1.out.1).mono ?_;rintro e w2 ⟨rfl,h2⟩;have H2:=Lib.hid h2;clear h2))
   go_ret2
   exact ⟨rfl,H2.out.1,grownBy_trans H1.out.2 H2.out.2⟩
end Go.Proofs.YtigmpifjcijdbaaGreatDoor
end
