/- Layer 12, the program: the reader over a literal: blanks, figures. -/
import Derived.Test.YtigmpifjcijdbaaGreatDoorG20
import Derived.Lib.OthersKept
import Derived.WalkSmall
import Derived.Test.YtigmpifjcijdbaaGreatDoorG14
import Derived.Test.YtigmpifjcijdbaaGreatDoorG02
section
namespace Go.Proofs.YtigmpifjcijdbaaGreatDoor
set_option linter.unusedVariables false
set_option linter.unusedSimpArgs false
open Go.RowKit Verge Verge.Lit
theorem LR.iterAt {w:World} {b:Nat} {l r:List UInt8} {d:Bool} {x:Int×Int} (h:LR w b l r d x) {P:Nat} (hP:b≠P) (s:ByteArray) (p:Nat):LR (w.iterAt P s p) b l r d x:=⟨h.1,h.2.1,(Lib.iterAt_other w P b s p hP).trans h.2.2⟩
theorem grown_iterAt {a w:World} {row:Option Nat} (h:a.grownBy w row) {P:Nat} (hP:a.heap.size≤P) (s:ByteArray) (p:Nat):a.grownBy (w.iterAt P s p) row:=
 ⟨h.os,h.tape,h.output,by rw [Lib.iterAt_size];exact h.size,fun k hk hr=>(Lib.iterAt_other w P k s p (by omega)).trans (h.block k hk hr)⟩
theorem blk_iff {c:UInt8}:blk c=true↔(c.toNat=32∨c.toNat=9∨c.toNat=10∨c.toNat=13):=by simp [blk]
theorem rune_no {T:ByteArray} {i:Nat} {c:UInt8} (hi:i<T.size) (hc:T[i]'hi=c) (hb:blk c=false):(Utf8.decode T i).1≠32∧(Utf8.decode T i).1≠9∧(Utf8.decode T i).1≠10∧(Utf8.decode T i).1≠13:=by
 have hb':¬(c.toNat=32∨c.toNat=9∨c.toNat=10∨c.toNat=13):=by rw [←blk_iff,hb];simp
 by_cases ha:(T[i]'hi).toNat<128
 ·rw [decode_ascii T i hi ha,hc]
  exact ⟨fun e=>hb' (.inl e),fun e=>hb' (.inr (.inl e)),fun e=>hb' (.inr (.inr (.inl e))),fun e=>hb' (.inr (.inr (.inr e)))⟩
 ·have:=(decode_high T i hi (by omega)).1
  omega
theorem rune_blk {T:ByteArray} {i:Nat} {c:UInt8} (hi:i<T.size) (hc:T[i]'hi=c) (hb:blk c=true):Utf8.decode T i=(c.toNat,1):=by
 have:=blk_iff.1 hb
 rw [decode_ascii T i hi (by rw [hc];omega),hc]
theorem below_iter (w:World) (s:ByteArray) (p:Nat):Below w.heap.size w (w.iter s p):=rnew w (.stringIter s p)
set_option maxRecDepth 100000 in
set_option maxHeartbeats 2000000 in
theorem blanks_any (w:World) (b:Nat) (l r:List UInt8) (d:Bool) (x:Int×Int) (h:LR w b l r d x) (hl:l.length≤100000):Calls Tryz.prog 82 #[.pointer (some ⟨b,0,none⟩)] w fun e w' =>
  e=.returned (.tuple #[])∧LR w' b l (r.dropWhile blk) d x∧w.grownBy w' (some b):=by
 have h1:=h.1
 have h2:=h.2.1
 obtain ⟨S,hS⟩:∃S,bs l=S:=⟨_,rfl⟩
 obtain ⟨q,hq⟩:∃q,l.length - r.length=q:=⟨_,rfl⟩
 obtain ⟨c0,c1,f0,f1⟩:=h.cells hS hq
 have hbl:=h.lt
 have hs:S.size=l.length:=by rw [←hS];exact bs_size _
 have HR:=Lib.hid h
 obtain ⟨T,hT⟩:∃T,bs r=T:=⟨_,rfl⟩
 have hst:S.extract q S.size=T:=by
  rw [←hT,←hS,bs_sub,bs_size,←hq,h2,List.take_of_length_le (by omega)]
 obtain ⟨n,hn⟩:∃n,r.length=n:=⟨_,rfl⟩
 have hts:T.size=n:=by rw [←hT,←hn];exact bs_size _
 have HTA:=Lib.hid (fun i c h=>(hT▸bs_at r i c h:∀hi:i<T.size,T[i]'hi=c))
 obtain ⟨L,hL⟩:∃L,l.length=L:=⟨_,rfl⟩
 rw [hL] at hs hl
 have hqL:q≤L:=by omega
 have hqn:q+n=L:=by omega
 rw [hs] at hst
 have hbw:b≠w.heap.size:=by omega
 have HN:=Lib.hid (And.intro hn (And.intro hL (And.intro hq hqn)))
 clear h hS hT h1 h2 hL hq
 go_enter Tryz.func82,Tryz.ntmps82
 go_wp2
 have hit0:(w.iter T 0).heap[w.heap.size]?=some (.stringIter T 0):=World.iter_heap w T 0
 have hb0:Below w.heap.size w (w.iter T 0):=below_iter w T 0
 have HR0:=Lib.hid (HR.out.later hb0)
 have HG0:=Lib.hid (grownBy_below (row:=some b) hb0)
 clear hb0 c0 c1 f0 f1 hst
 go_loopw [] (fun wr=>∃i p:Nat,i≤n∧p=q+i∧wr.heap[w.heap.size]?=some (.stringIter T i)∧wr.cell? ⟨b,1,none⟩=some (.int .i64 (p:Int))∧wr.frozen? ⟨b,1,none⟩=false ∧
   Hid (LR wr b l (r.drop i) d x∧w.grownBy wr (some b)∧∀k<i,∀e,r[k]?=some e→blk e=true)) (fun wr=>T.size - wr.iterPos w.heap.size)
 case atStart =>
  obtain ⟨k0,k1,k2,k3⟩:=HR0.out.cells rfl HN.out.2.2.1
  exact ⟨0,q,by omega,rfl,hit0,k1,k3,by simpa using HR0.out,HG0.out,fun k hk=>by omega⟩
 case round =>
  obtain ⟨i,p,hi,hp,hit,d1,g1,hI⟩:=hrel
  have hpl:p≤100000:=by omega
  by_cases hlt:i<n
  ·obtain ⟨c,hc⟩:∃c,r[i]?=some c:=⟨_,List.getElem?_eq_getElem (by rw [hn];exact hlt)⟩
   have hiT:i<T.size:=by omega
   have hcT:=HTA.out i c hc hiT
   have hnx:∀ty,(Instr.next (.pointer (some ⟨w.heap.size,0,none⟩)) true ty).run Tryz.prog wr=_:=fun ty=>Lib.run_next_any_at wr w.heap.size T i ty hit hiT
   have HC:=Lib.hid hc
   have HP:=Lib.hid hp
   have hw1:IntKind.i64.wrap ((q:Int)+(i:Int))=(p:Int):=by rw [IntWalk.i64_in _ (by omega)];omega
   by_cases hb:blk c=true
   ·have hrb:=rune_blk hiT hcT hb
    rw [hrb] at hnx
    have hb':=blk_iff.1 hb
    have HBK:=Lib.hid hb
    have hit2:=Lib.iterAt_heap wr w.heap.size T i (i+1) hit
    have hR2:=LR.iterAt hI.out.1 hbw T (i+1)
    obtain ⟨k0,k1,k2,k3⟩:=hR2.cells rfl (q:=p) (by rw [List.length_drop];have:=HN.out;have:=HP.out;omega)
    have HR2:=Lib.hid hR2
    have HG2:=Lib.hid (grown_iterAt hI.out.2.1 (Nat.le_refl w.heap.size) T (i+1))
    have HIT:=Lib.hid hit
    clear hrb hb hcT hR2 hit
    clear hp hqn hn hqL
    rcases hb' with hb' | hb' | hb' | hb'
    all_goals
     rw [hb'] at hnx
     clear hb'
     go_wp2
     go_roundw
     case rel =>
      have h3:LR ((wr.iterAt w.heap.size T (i+1)).setCell ⟨b,1,none⟩ (.int .i64 ((p:Int)+1))) b l (r.drop (i+1)) d x:=by
       obtain ⟨h4,h5⟩:=rest_drop HR.out.1 HR.out.2.1 (i+1) (by have:=HN.out;omega)
       refine LR.go HR2.out _ h4 h5 ?_
       rw [List.length_drop]
       have:=HN.out;have:=HP.out;omega
      obtain ⟨j0,j1,j2,j3⟩:=h3.cells rfl (q:=p+1) (by rw [List.length_drop];have:=HN.out;have:=HP.out;omega)
      refine ⟨i+1,p+1,by omega,by have:=HP.out;omega,?_,j1,j3,h3,grownBy_set HG2.out _ _,fun k hk e he => ?_⟩
      ·rw [set_other _ _ _ _ _ (Ne.symm hbw)];exact hit2
      ·by_cases hki:k=i
       ·subst hki
        rw [HC.out] at he
        injection he with he
        subst he
        exact HBK.out
       ·exact hI.out.2.2 k (by omega) e he
     case measure =>
      have e1:((wr.iterAt w.heap.size T (i+1)).setCell ⟨b,1,none⟩ (.int .i64 ((p:Int)+1))).heap[w.heap.size]?=some (.stringIter T (i+1)):=by
       rw [set_other _ _ _ _ _ (Ne.symm hbw)];exact hit2
      rw [iterPos_of e1,iterPos_of HIT.out]
      omega
   ·have hbf:blk c=false:=by simpa using hb
    obtain ⟨z1,z2,z3,z4⟩:=rune_no hiT hcT hbf
    obtain ⟨ρ,hρ⟩:∃ρ,(Utf8.decode T i).1=ρ:=⟨_,rfl⟩
    obtain ⟨wd,hwd⟩:∃k,(Utf8.decode T i).2=k:=⟨_,rfl⟩
    rw [hρ,hwd] at hnx
    rw [hρ] at z1 z2 z3 z4
    have hR2:=LR.iterAt hI.out.1 hbw T (i+wd)
    obtain ⟨k0,k1,k2,k3⟩:=hR2.cells rfl (q:=p) (by rw [List.length_drop];have:=HN.out;have:=HP.out;omega)
    have HR2:=Lib.hid hR2
    have HG2:=Lib.hid (grown_iterAt hI.out.2.1 (Nat.le_refl w.heap.size) T (i+wd))
    clear hρ hwd hb hcT hR2 hit
    have y1:((ρ:Int) != 32)=true:=by simp;omega
    have y2:((ρ:Int) != 9)=true:=by simp;omega
    have y3:((ρ:Int) != 10)=true:=by simp;omega
    have y4:((ρ:Int) != 13)=true:=by simp;omega
    clear z1 z2 z3 z4 hp hqn hn hqL
    have HBF:=Lib.hid hbf
    clear hbf
    go_wp2
    refine bodyPost_ret (v:=.tuple #[]) (results_none rfl _ _ _) rfl ?_
    rw [(take_at hI.out.2.2 HC.out HBF.out).2]
    refine ⟨rfl,?_,grownBy_set HG2.out _ _⟩
    refine LR.go HR2.out _ HR2.out.1 HR2.out.2.1 ?_
    rw [List.length_drop]
    have:=HN.out;have:=HP.out;omega
  ·have hnx:∀ty,(Instr.next (.pointer (some ⟨w.heap.size,0,none⟩)) true ty).run Tryz.prog wr=_:=fun ty=>Lib.run_next_end_at wr w.heap.size T i ty hit (by omega)
   have HH:=Lib.hid (And.intro hp (And.intro hn hqn))
   clear hp hn hqn hqL
   go_wp2
   go_end0
   have hin:i=n:=by omega
   have hall:=(take_end (p:=blk) (r:=r) (fun k hk e he=>hI.out.2.2 k (by have:=HN.out;omega) e he)).2
   rw [hall]
   have h3:=hI.out.1
   rw [List.drop_eq_nil_of_le (by have:=HN.out;omega)] at h3
   exact ⟨rfl,h3,hI.out.2.1⟩
theorem pk_dig {r:List UInt8} {i:Nat}:(48≤pk (r.drop i)∧pk (r.drop i)≤57)↔∃c,r[i]?=some c∧isD c=true:=by
 cases h:r[i]? with
 | none=>rw [drop_pk0 (by simpa using h)];simp
 | some c =>
  rw [drop_pk h]
  have e:(48≤lo c∧lo c≤57)↔isD c=true:=by
   rw [isD_iff];unfold lo;split <;> omega
  rw [e];simp
set_option maxRecDepth 100000 in
set_option maxHeartbeats 2000000 in
theorem figures_any (w:World) (b:Nat) (l r:List UInt8) (d:Bool) (x:Int×Int) (h:LR w b l r d x) (hl:l.length≤100000):Calls Tryz.prog 89 #[.pointer (some ⟨b,0,none⟩)] w fun e w' =>
  e=.returned (.string (bs (r.takeWhile isD)))∧LR w' b l (r.dropWhile isD) d x∧w.grownBy w' (some b):=by
 have HPK:=Lib.hid (fun W s h=>peek_any W b l s d x 0 h hl (by omega))
 have h1:=h.1
 have h2:=h.2.1
 obtain ⟨S,hS⟩:∃S,bs l=S:=⟨_,rfl⟩
 obtain ⟨q,hq⟩:∃q,l.length - r.length=q:=⟨_,rfl⟩
 obtain ⟨c0,c1,f0,f1⟩:=h.cells hS hq
 have hs:S.size=l.length:=by rw [←hS];exact bs_size _
 have HR:=Lib.hid h
 obtain ⟨n,hn⟩:∃n,r.length=n:=⟨_,rfl⟩
 obtain ⟨L,hL⟩:∃L,l.length=L:=⟨_,rfl⟩
 rw [hL] at hs hl
 have hqL:q≤L:=by omega
 have hqn:q+n=L:=by omega
 have HN:=Lib.hid (And.intro hn (And.intro hL (And.intro hq hqn)))
 have HSS:=Lib.hid hS
 have HDR:=Lib.hid h2
 clear h hS h1 h2 hL hq hqn hn
 go_enter Tryz.func89,Tryz.ntmps89
 go_wp2_with (go_at_call 83;refine (HPK.out _ _ HR.out).mono ?_;rintro e w1 ⟨rfl,m,rfl⟩;have c0':(w.drewN m).cell? ⟨b,0,none⟩=some (.string S):=c0;have c1':(w.drewN m).cell? ⟨b,1,none⟩=some (.int .i64 (q:Int)):=c1)
 go_loopw [4] (fun cv wr=>∃i p v:Nat,i≤n∧p≤L∧cv=.int .u8 (v:Int)∧wr.cell? ⟨b,0,none⟩=some (.string S)∧wr.cell? ⟨b,1,none⟩=some (.int .i64 (p:Int))∧wr.frozen? ⟨b,1,none⟩=false ∧
   Hid (v=pk (r.drop i)∧p=q+i∧LR wr b l (r.drop i) d x∧w.grownBy wr (some b)∧∀k<i,∀e,r[k]?=some e→isD e=true)) (fun _ wr=>L - (intOf ((wr.cell? ⟨b,1,none⟩).getD undef)).toNat)
 case atStart=>exact ⟨0,q,_,by omega,hqL,rfl,c0,c1,f1,rfl,rfl,by simpa using HR.out.drewN m,grownBy_drewN (grownBy_refl _ _) _,fun k hk=>by omega⟩
 case round =>
  obtain ⟨i,p,v,hi,hp,rfl,d0,d1,g1,hI⟩:=hrel
  have hpl:p≤100000:=by omega
  by_cases hv:48≤v∧v≤57
  ·have hex:∃c,r[i]?=some c∧isD c=true:=by
    refine pk_dig.1 ?_
    rw [←hI.out.1];exact hv
   have hlt:i<n:=by
    obtain ⟨c,hc,_⟩:=hex
    obtain ⟨hc,_⟩:=List.getElem?_eq_some_iff.1 hc
    have:=HN.out.1;omega
   have HX:=Lib.hid hex
   have v1:(48:Int)≤(v:Int):=by omega
   have v2:(v:Int)≤57:=by omega
   have h3:LR (wr.setCell ⟨b,1,none⟩ (.int .i64 ((p:Int)+1))) b l (r.drop (i+1)) d x:=by
    obtain ⟨h4,h5⟩:=rest_drop HR.out.1 HR.out.2.1 (i+1) (by have:=HN.out;omega)
    refine LR.go hI.out.2.2.1 _ h4 h5 ?_
    rw [List.length_drop]
    have:=HN.out;have:=hI.out.2.1;omega
   obtain ⟨j0,j1,j2,j3⟩:=h3.cells HSS.out (q:=p+1) (by rw [List.length_drop];have:=HN.out;have:=hI.out.2.1;omega)
   have H3:=Lib.hid (And.intro h3 (And.intro j0 (And.intro j1 j3)))
   have HG3:=Lib.hid (grownBy_set hI.out.2.2.2.1 1 (.int .i64 ((p:Int)+1)))
   have hp1:p+1≤L:=by have:=HN.out;have:=hI.out.2.1;omega
   clear hex hv h3 j0 j1 j2 j3
   go_wp2_with (go_at_call 83;refine (HPK.out _ _ H3.out.1).mono ?_;rintro e w1 ⟨rfl,m2,rfl⟩)
   go_roundw
   case rel =>
    refine ⟨i+1,p+1,_,by omega,hp1,rfl,H3.out.2.1,H3.out.2.2.1,H3.out.2.2.2,rfl,by have:=hI.out.2.1;omega,H3.out.1.drewN m2,grownBy_drewN HG3.out _,fun k hk e he => ?_⟩
    by_cases hki:k=i
    ·subst hki
     obtain ⟨c,hc,hd⟩:=HX.out
     rw [hc] at he
     injection he with he
     subst he
     exact hd
    ·exact hI.out.2.2.2.2 k (by omega) e he
   case measure =>
    rw [d1,show (((wr.setCell ⟨b,1,none⟩ (.int .i64 ((p:Int)+1))).drewN m2).cell? ⟨b,1,none⟩)=some (.int .i64 ((p+1:Nat):Int)) from H3.out.2.2.1]
    show L - ((p+1:Nat):Int).toNat<L - (p:Int).toNat
    omega
  ·have hnx:¬ ∃c,r[i]?=some c∧isD c=true:=by
    intro h
    refine hv ?_
    rw [hI.out.1]
    exact pk_dig.2 h
   have htd:r.takeWhile isD=r.take i∧r.dropWhile isD=r.drop i:=by
    cases hc:r[i]? with
    | some c =>
     refine take_at hI.out.2.2.2.2 hc ?_
     by_cases hd:isD c=true
     ·exact absurd ⟨c,hc,hd⟩ hnx
     ·simpa using hd
    | none =>
     have hge:r.length≤i:=by simpa using hc
     have:=take_end (p:=isD) (r:=r) (fun k hk e he=>hI.out.2.2.2.2 k (by omega) e he)
     rw [this.1,this.2,List.take_of_length_le hge,List.drop_eq_nil_of_le hge]
     exact ⟨rfl,rfl⟩
   have HTD:=Lib.hid htd
   have hqp:q≤p:=by have:=hI.out.2.1;omega
   have hqpI:(q:Int)≤(p:Int):=by omega
   have hvi:¬(48:Int)≤(v:Int)∨(48:Int)≤(v:Int)∧¬(v:Int)≤57:=by omega
   clear hnx htd hv
   rcases hvi with v1 | ⟨v1,v2⟩
   all_goals
    go_upto_region 6 with fail
    go_quiet (fail)
    go_wp2
    go_ret
    rw [HTD.out.1,HTD.out.2]
    refine ⟨?_,hI.out.2.2.1.drewN _,grownBy_drewN hI.out.2.2.2.1 _⟩
    have hpi:=hI.out.2.1
    rw [←HSS.out,bs_sub,show p - q=i by omega]
    have:=HDR.out
    rw [HN.out.2.2.1] at this
    rw [this]
    rfl
end Go.Proofs.YtigmpifjcijdbaaGreatDoor
end

section
namespace Verge.Lit
set_option linter.unusedVariables false
set_option linter.unusedSimpArgs false
theorem lo_sym {c:UInt8} {k:Nat} (h:k<65∨90<k∧k<97∨122<k):lo c=k↔c.toNat=k:=by
 unfold lo;split <;> omega
theorem smc_lo (c:UInt8):(smc c).toNat=lo c:=by
 have:=c.toNat_lt
 unfold smc lo
 split
 ·rw [UInt8.toNat_add];simp;omega
 ·rfl
theorem smc_eq {c k:UInt8}:smc c=k↔lo c=k.toNat:=by
 rw [←smc_lo];exact ⟨fun h=>by rw [h],fun h=>UInt8.toNat_inj.1 h⟩
theorem F_nil {dec:Bool} {s:DS} (h:cmpl s=false):F dec s []=.error 0:=by unfold F;rw [if_neg (by simp [h])]
theorem F_go {dec:Bool} {s t:DS} {c:UInt8} {r:List UInt8} (h:nx12 dec s c=t) (ht:t.pl≠24):F dec s (c::r)=F dec t r:=by
 subst h
 show (if _ then _ else _)=_
 rw [if_neg ht]
theorem F_dead {dec:Bool} {s:DS} {c:UInt8} {r:List UInt8} (h:nx12 dec s c=dd):F dec s (c::r)=.error (r.length+1):=by
 show (if _ then _ else _)=_
 rw [if_pos (by rw [h];rfl)]
theorem F_same {dec:Bool} {s t:DS} {c:UInt8} {r:List UInt8} (h:nx12 dec s c=nx12 dec t c):F dec s (c::r)=F dec t (c::r):=by
 show (if _ then _ else _)=(if _ then _ else _)
 rw [h]
def Sp (dec:Bool) (s:DS) (w:List Nat) (t:DS):Prop:=∀r,F dec s r=(spl w r).bind fun r'=>F dec t r'
theorem bind_ok {α β:Type} (a:α) (f:α→Except Nat β):(Except.ok a:Except Nat α).bind f=f a:=rfl
theorem bind_bind {α β γ:Type} (x:Except Nat α) (f:α→Except Nat β) (g:β→Except Nat γ):(x.bind f).bind g=x.bind fun a=>(f a).bind g:=by cases x <;> rfl
theorem bind_congr {α β:Type} {x:Except Nat α} {f g:α→Except Nat β} (h:∀a,x=.ok a→f a=g a):x.bind f=x.bind g:=by
 cases x with
 | error k=>rfl
 | ok a=>exact h a rfl
theorem spl_cons (k:Nat) (w:List Nat) (r:List UInt8):spl (k::w) r=(spl [k] r).bind (spl w):=by
 cases r with
 | nil=>rfl
 | cons c s =>
  show (if lo c=k then spl w s else .error (s.length+1))=(if lo c=k then spl [] s else Except.error (s.length+1)).bind (spl w)
  by_cases h:lo c=k
  ·rw [if_pos h,if_pos h];rfl
  ·rw [if_neg h,if_neg h];rfl
theorem spl_append (v w:List Nat) (r:List UInt8):spl (v++w) r=(spl v r).bind (spl w):=by
 induction v generalizing r with
 | nil=>rfl
 | cons k v ih=>rw [List.cons_append,spl_cons,spl_cons k v,bind_bind];exact bind_congr fun a _=>ih a
theorem spl_no {k:Nat} {w:List Nat} {r:List UInt8} (h:pk r≠k):spl (k::w) r=.error r.length:=by
 cases r with
 | nil=>rfl
 | cons c s=>exact if_neg h
theorem Sp.one {dec:Bool} {s t:DS} {n:Nat} (k:UInt8) (hk:k.toNat=n) (hc:cmpl s=false) (ht:t.pl≠24) (h:∀c,smc c=k→nx12 dec s c=t) (h':∀c,lo c≠k.toNat→nx12 dec s c=dd):Sp dec s [n] t:=by
 subst hk
 intro r
 cases r with
 | nil=>exact F_nil hc
 | cons c r =>
  show _=(if lo c=k.toNat then spl [] r else Except.error (r.length+1)).bind _
  by_cases e:lo c=k.toNat
  ·rw [if_pos e];exact F_go (h c (smc_eq.2 e)) ht
  ·rw [if_neg e];exact F_dead (h' c e)
theorem Sp.trans {dec:Bool} {s t u:DS} {v w:List Nat} (h:Sp dec s v t) (k:Sp dec t w u):Sp dec s (v++w) u:=by
 intro r
 rw [h r,spl_append,bind_bind]
 exact bind_congr fun a _=>k a
section words
variable (dec:Bool)
def U (r:List UInt8):Except Nat Unit:=(undL dec r).bind fun y=>endL y.2
theorem F4 (w:List UInt8) (hw:w=wEmp∨w=wEnt∨w=wNai∧dec=true) (r:List UInt8):F dec ⟨4,0,w⟩ r=F dec ⟨5,0,w⟩ r:=by
 cases r with
 | nil=>rfl
 | cons c t =>
  refine F_same ?_
  rcases hw with rfl | rfl | ⟨rfl,rfl⟩
  ·by_cases hb:blk c=true <;> by_cases h93:c.toNat=93 <;> cases dec <;> simp [nx12,lowP,wds,hb,h93,spe,wEmp,wEnt,wNai,List.isPrefixOf,clsd,blk] <;> simp_all [blk]
  ·by_cases hb:blk c=true <;> by_cases h93:c.toNat=93 <;> cases dec <;> simp [nx12,lowP,wds,hb,h93,spe,wEmp,wEnt,wNai,List.isPrefixOf,clsd,blk] <;> simp_all [blk]
  ·by_cases hb:blk c=true <;> by_cases h93:c.toNat=93 <;> simp [nx12,lowP,wds,hb,h93,spe,wEmp,wEnt,wNai,List.isPrefixOf,clsd,blk] <;> simp_all [blk]
theorem nx_delim {c:UInt8} (h:ndl c=false) (n:Nat):nx n c=18:=by
 have h:c.toNat=32∨c.toNat=9∨c.toNat=10∨c.toNat=13∨c.toNat=44∨c.toNat=93:=by
  simp [ndl,blk] at h;omega
 have hd:isD c=false:=isD_no.2 (by omega)
 have hx:isX c=false:=isX_no.2 (by omega)
 have hs:isS c=false:=by
  by_cases e:isS c=true
  ·have:=isS_iff.1 e;omega
  ·simpa using e
 unfold nx nxH
 rw [hd,hx,hs]
 simp [show c.toNat≠48 by omega,show c.toNat≠46 by omega,show c.toNat≠120 by omega,show c.toNat≠88 by omega,show c.toNat≠101 by omega,show c.toNat≠69 by omega,show c.toNat≠47 by omega,show c.toNat≠112 by omega,show c.toNat≠80 by omega]
theorem frm_agree {k:Nat} (l:List UInt8):frm (run 0 l)=.error k↔cut l=.error k:=by
 have:=cut_agree l
 cases h1:frm (run 0 l) with
 | error j =>
  rw [h1] at this
  cases h2:cut l with
  | error m=>rw [h2] at this;have:j=m:=this;subst this;constructor <;> (intro h;injection h with h;rw [h])
  | ok p=>rw [h2] at this;exact this.elim
 | ok j =>
  rw [h1] at this
  cases h2:cut l with
  | error m=>rw [h2] at this;exact this.elim
  | ok p=>simp
theorem isL_pk {k:Nat} {r:List UInt8} (h:pk r=k) (hk:k≠0):isL k r=(true,r.drop 1):=by
 cases r with
 | nil=>exact absurd h.symm hk
 | cons c s=>exact if_pos h
theorem isL_no {k:Nat} {r:List UInt8} (h:pk r≠k):isL k r=(false,r):=by
 cases r with
 | nil=>rfl
 | cons c s=>exact if_neg h
end words
end Verge.Lit
end

section
namespace Verge.Lit
set_option linter.unusedVariables false
set_option linter.unusedSimpArgs false
theorem nx_slash {s:Nat} {c:UInt8} (hc:c.toNat=47):nx s c=9∨nx s c=18:=by
 have hd:isD c=false:=isD_no.2 (by omega)
 have hx:isX c=false:=isX_no.2 (by omega)
 have hs:isS c=false:=by
  by_cases e:isS c=true
  ·have:=isS_iff.1 e;omega
  ·simpa using e
 unfold nx nxH
 rw [hd,hx,hs,hc]
 simp
 repeat' split
 all_goals (simp <;> omega)
theorem nx_9_0 {c:UInt8} (hc:c.toNat=48):nx 9 c≠18:=by
 have hd:isD c=true:=isD_iff.2 (by omega)
 simp [nx,hd]
theorem run_slash:∀(s:List UInt8) (n t:Nat) (u:List UInt8) (c:UInt8),run n s=(t,c::u)→c.toNat=48→∀p e,s=p++e::c::u→e.toNat≠47
 | [],n,t,u,c,h,hc,p,e,hs=>by simp at hs
 | a::s,n,t,u,c,h,hc,p,e,hs=>by
  intro he
  rw [run] at h
  by_cases hn:nx n a=18
  ·rw [if_pos hn] at h
   injection h with h1 h2
   have:=congrArg List.length h2
   rw [hs] at this
   simp at this
   omega
  ·rw [if_neg hn] at h
   cases p with
   | nil =>
    rw [List.nil_append] at hs
    injection hs with h1 h2
    subst h1 h2
    rcases nx_slash (s:=n) he with h9 | h9
    ·rw [h9,run,if_neg (nx_9_0 hc)] at h
     have hl:∀(l:List UInt8) m,(run m l).2.length≤l.length:=by
      intro l
      induction l with
      | nil=>intro m;exact Nat.le_refl _
      | cons x xs ih =>
       intro m
       rw [run]
       split
       ·exact Nat.le_refl _
       ·exact Nat.le_succ_of_le (ih _)
     have:=hl u (nx 9 c)
     rw [h] at this
     simp at this
     omega
    ·exact hn h9
   | cons b p =>
    rw [List.cons_append] at hs
    injection hs with h1 h2
    exact run_slash s _ t u c h hc p e h2 he
theorem run_suffix:∀(s:List UInt8) (n:Nat),∃p,s=p++(run n s).2
 | [],n=>⟨[],rfl⟩
 | a::s,n=>by
  rw [run]
  split
  ·exact ⟨[],rfl⟩
  ·obtain ⟨p,hp⟩:=run_suffix s (nx n a)
   exact ⟨a::p,by rw [List.cons_append,←hp]⟩
theorem cut_slash {s:List UInt8} {k:Nat} (h:cut s=.error k) {c e:UInt8} (h1:0<s.length - k) (hc:s[s.length - k]?=some c) (he:s[s.length - k - 1]?=some e):¬(e.toNat=47∧c.toNat=48):=by
 rintro ⟨e47,c48⟩
 have hf:=(frm_agree (k:=k) s).2 h
 have hlt:s.length - k<s.length:=(List.getElem?_eq_some_iff.1 hc).1
 cases hr:run 0 s with
 | mk t u =>
  rw [hr] at hf
  unfold frm at hf
  split at hf
  ·cases hf
  ·injection hf with hf
   have hf:u.length=k:=hf
   obtain ⟨p,hp⟩:=run_suffix s 0
   rw [hr] at hp
   have hp:s=p++u:=hp
   have hpl:p.length=s.length - k:=by rw [hp,List.length_append];omega
   cases u with
   | nil=>simp at hf;omega
   | cons c' u' =>
    rw [←hpl,hp,List.getElem?_append_right (Nat.le_refl _),Nat.sub_self] at hc
    have:c'=c:=by simpa using hc
    subst this
    rcases List.eq_nil_or_concat p with rfl | ⟨p',e',rfl⟩
    ·simp at hpl;omega
    ·have e2:e'=e:=by
      rw [←hpl,hp] at he
      simp at he
      exact he
     subst e2
     exact run_slash s 0 t u' c' hr c48 p' e' (by rw [hp];simp) e47
theorem cut_le {s:List UInt8} {k:Nat} (h:cut s=.error k):k≤s.length:=by
 have hf:=(frm_agree (k:=k) s).2 h
 unfold frm at hf
 split at hf
 ·cases hf
 ·injection hf with hf
  obtain ⟨p,hp⟩:=run_suffix s 0
  have:=congrArg List.length hp
  rw [List.length_append] at this
  omega
theorem numB_zero:∀{d:List UInt8} (a:Nat),d.foldl (fun a c=>a*10+dvl c) a=0→a=0∧∀c∈d,dvl c=0
 | [],a,h=>⟨h,fun c hc=>by simp at hc⟩
 | x::d,a,h=>by
  rw [List.foldl_cons] at h
  obtain ⟨h1,h2⟩:=numB_zero _ h
  refine ⟨by omega,fun c hc => ?_⟩
  rcases List.mem_cons.1 hc with rfl | hc
  ·omega
  ·exact h2 c hc
theorem late_50 {s:List UInt8} {n:Bool} {p:Pc} {k:Nat} (h:cut s=.ok (n,p)) (hl:p.late=some (k,50)) :
  0<s.length - k∧s.length - k<s.length∧(∃e,s[s.length - k - 1]?=some e∧e.toNat=47)∧∃c,s[s.length - k]?=some c∧c.toNat=48:=by
 obtain ⟨_,hok⟩:=cut_ok h
 obtain ⟨pre,hpre⟩:∃pre,s=pre++(sg s).2:=by
  rcases sg_text s with ⟨c,_,h,_⟩ | ⟨h,_⟩
  ·exact ⟨[c],h⟩
  ·exact ⟨[],by rw [h];rfl⟩
 cases p with
 | hx a b e =>
  simp only [Pc.late] at hl
  split at hl
  ·injection hl with hl;injection hl with _ hl;cases hl
  ·cases hl
 | dc a b e =>
  cases e with
  | none=>cases hl
  | some e =>
   simp only [Pc.late] at hl
   split at hl
   ·injection hl with hl;injection hl with _ hl;cases hl
   ·cases hl
 | fr a d =>
  simp only [Pc.late] at hl
  split at hl
  ·rename_i hz
   injection hl with hl
   injection hl with hk _
   obtain ⟨c,hc,ht,ha,hane,hdne,hd⟩:=hok
   rw [ht] at hpre
   subst hk
   have hlen:s.length=pre.length+a.length+1+d.length:=by
    have:=congrArg List.length hpre
    simp at this;omega
   cases d with
   | nil=>exact absurd rfl hdne
   | cons x d =>
    have hx:=hd x List.mem_cons_self
    have hx0:=(numB_zero 0 hz).2 x List.mem_cons_self
    have:=isD_iff.1 hx
    rw [(dvl_D hx).1] at hx0
    rw [List.length_cons] at hlen
    refine ⟨by rw [List.length_cons];omega,by rw [List.length_cons];omega,⟨c,?_,hc⟩,x,?_,by omega⟩
    ·rw [List.length_cons,show s.length - (d.length+1) - 1=(pre++a).length by rw [List.length_append];omega,hpre,←List.append_assoc]
     simp
    ·rw [List.length_cons,show s.length - (d.length+1)=(pre++a++[c]).length by simp;omega,hpre]
     rw [show pre++(a++c::x::d)=(pre++a++[c])++x::d by simp]
     simp
  ·cases hl
theorem late_code {p:Pc} {k:Nat} {c:Int} (hl:p.late=some (k,c)):c=50∨c=51:=by
 cases p with
 | hx a b e =>
  simp only [Pc.late] at hl
  split at hl
  ·injection hl with hl;injection hl with _ hl;exact .inr hl.symm
  ·cases hl
 | fr a d =>
  simp only [Pc.late] at hl
  split at hl
  ·injection hl with hl;injection hl with _ hl;exact .inl hl.symm
  ·cases hl
 | dc a b e =>
  cases e with
  | none=>cases hl
  | some e =>
   simp only [Pc.late] at hl
   split at hl
   ·injection hl with hl;injection hl with _ hl;exact .inr hl.symm
   ·cases hl
def nlt (s:List UInt8):Option (Nat×Int):=
 match cut s with
 | .ok (_,p)=>p.late.map fun x=>(s.length - x.1,if x.2=50 then 120 else x.2)
 | .error _=>none
theorem nlt_late {s:List UInt8} {n:Bool} {p:Pc} {k:Nat} {c:Int} (h:cut s=.ok (n,p)) (hl:p.late=some (k,c)):nlt s=some (s.length - k,if c=50 then 120 else c):=by
 unfold nlt;rw [h];show Option.map _ p.late=_;rw [hl];rfl
theorem nlt_none {s:List UInt8} {n:Bool} {p:Pc} (h:cut s=.ok (n,p)) (hl:p.late=none):nlt s=none:=by
 unfold nlt;rw [h];show Option.map _ p.late=_;rw [hl];rfl
end Verge.Lit
end

section
namespace Go.Proofs.YtigmpifjcijdbaaGreatDoor
set_option linter.unusedVariables false
set_option linter.unusedSimpArgs false
open Go.RowKit Verge
theorem from_any (b:Int) (w:World):(callFunc 94 #[.int .u64 b]).run Tryz.prog w=.ok (.value (.float .f64 b.toNat)) w:=by
 rw [run_callFunc_extern (e:=Extern.MathFloatBits.float64frombits) Tryz.func94 (by kernel_rfl) (by kernel_rfl) (by kernel_rfl) (by kernel_rfl)]
 rfl
theorem bits_any (b:Nat) (w:World):(callFunc 27 #[.float .f64 b]).run Tryz.prog w=.ok (.value (.int .u64 (b:Int))) w:=by
 rw [run_callFunc_extern (e:=Extern.MathFloatBits.float64bits) Tryz.func27 (by kernel_rfl) (by kernel_rfl) (by kernel_rfl) (by kernel_rfl)]
 rfl
def fabs (x:Nat):Nat:=x%9223372036854775808
theorem abs_any (x:Nat) (hx:x<18446744073709551616) (w:World):Calls Tryz.prog 95 #[.float .f64 x] w fun e w'=>e=.returned (.float .f64 (fabs x))∧w=w':=by
 have hb:bits .andNot .u64 (x:Int) 9223372036854775808=((fabs x:Nat):Int):=by
  have:=Go.u64_andNot_nat x 9223372036854775808 hx (by omega)
  rw [andNot_sign x hx] at this
  exact this
 have h1:=bits_any x
 have h2:=from_any (fabs x:Nat)
 obtain ⟨a,ha⟩:∃a,fabs x=a:=⟨_,rfl⟩
 rw [ha] at hb h2 ⊢
 clear ha
 go_enter Tryz.func95,Tryz.ntmps95
 go_wp2
 go_ret
 exact ⟨rfl,rfl⟩
theorem isnan_any (x:Nat) (hx:x<18446744073709551616) (w:World):Calls Tryz.prog 96 #[.float .f64 x] w fun e w'=>e=.returned (.bool (decide (fnan x)))∧w=w':=by
 have ho:(FloatKind.f64.format.order x x != some .eq)=decide (fnan x):=f_self hx
 go_enter Tryz.func96,Tryz.ntmps96
 go_wp2
 go_ret
 exact ⟨rfl,rfl⟩
theorem gt_max {x:Nat} (hx:x<18446744073709551616):(FloatKind.f64.format.order x 9218868437227405311==some .gt)=decide (x=9218868437227405312):=by
 refine (f_gt hx (y:=9218868437227405311) (by omega)).trans (decide_eq_decide.2 ?_)
 unfold fnan FK
 constructor
 ·rintro ⟨h1,_,h2⟩
  split at h2 <;> split at h2 <;> omega
 ·rintro rfl;decide
theorem isinf_0 (x:Nat) (hx:x<18446744073709551616) (w:World):Calls Tryz.prog 65 #[.float .f64 x,.int .i64 0] w fun e w'=>e=.returned (.bool (decide (fabs x=9218868437227405312)))∧w=w':=by
 have ho:=gt_max (x:=fabs x) (by unfold fabs;omega)
 have ha:=Lib.hid (fun W=>abs_any x hx W)
 obtain ⟨a,hae⟩:∃a,fabs x=a:=⟨_,rfl⟩
 rw [hae] at ho ha ⊢
 go_enter Tryz.func65,Tryz.ntmps65
 go_wp2_with fail
 refine (ha.out _).mono ?_
 rintro en w1 ⟨rfl,rfl⟩
 go_wp2
 go_ret
 exact ⟨rfl,rfl⟩
end Go.Proofs.YtigmpifjcijdbaaGreatDoor
end
