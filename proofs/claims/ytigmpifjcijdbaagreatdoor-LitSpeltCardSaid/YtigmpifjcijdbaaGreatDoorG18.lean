/- Contracts of nat: up, Shl. -/
import Derived.Test.YtigmpifjcijdbaaGreatDoorG11
import Derived.Test.YtigmpifjcijdbaaGreatDoorG02
import Derived.Test.YtigmpifjcijdbaaGreatDoorG06
import Derived.Test.YtigmpifjcijdbaaGreatDoorG17
import Derived.Test.YtigmpifjcijdbaaGreatDoorG07
import Derived.Test.YtigmpifjcijdbaaGreatDoorG01
import Derived.Test.YtigmpifjcijdbaaGreatDoorG15
section
namespace Go.Proofs.YtigmpifjcijdbaaGreatDoor
set_option linter.unusedVariables false
set_option linter.unusedSimpArgs false
open Go.RowKit Verge
set_option maxHeartbeats 1000000 in
theorem up_any (A:Option Addr) (n c:Nat) (X:List Nat) (e:Nat) (w:World) (h:Rd w A X) (hn:X.length=n) (hm:e / 32+n+1≤70368744177663) :
  Calls Tryz.prog 116 #[.slice A n c,.int .i64 (e:Int)] w fun e' w'=>∃A1,e'=.returned (.slice A1 (dig (val X*2^e)).length (dig (val X*2^e)).length) ∧
   Own w' w.heap.size A1 (dig (val X*2^e))∧Below w.heap.size w w':=by
 obtain ⟨k,hk⟩:∃k,e / 32=k:=⟨_,rfl⟩
 obtain ⟨r,hr⟩:∃r,e%32=r:=⟨_,rfl⟩
 have hkI:(e:Int) / 32=(k:Int):=by omega
 have hrI:(e:Int)%32=(r:Int):=by omega
 have hr32:r<32:=by omega
 rw [hk] at hm
 have hmk:∀W:World,(Instr.makeSlice 23 (.int .i64 (k:Int)) (.int .i64 ((k:Int)+(n:Int)+1))).run Tryz.prog W=.ok (.slice (some ⟨W.heap.size,0,none⟩) k (k+n+1)) (W.alloc (.cells (u32s (List.replicate (k+n+1) 0)).toArray 52)):=fun W=>by
  have:=run_make_u32c k (k+n+1) (by omega) (by omega) W
  exact this
 have hS:=fun W hW=>shift_any A n c X r W hW hn (by omega) hr32
 have HS:=Lib.hid hS
 have HR:=Lib.hid (fun o=>(h.keep (fun b o' hb=>World.cell?_alloc_lt w o _ hb):Rd (w.alloc o) A X))
 have HE:=Lib.hid (And.intro hk hr)
 have he:e≤9223372036854775807:=by omega
 clear hS hk hr h
 go_enter Tryz.func116,Tryz.ntmps116
 go_wp2_with fail
 refine (HS.out _ (HR.out _)).mono ?_
 rintro e' w2 ⟨rfl,S,hB,hl,hv,hb⟩
 have hS2:Blk w2 (w.heap.size+1) S:=by simpa using hB
 have hZ:Blk w2 w.heap.size (List.replicate (k+n+1) 0):=(Blk.made w (k+n+1)).later hb
 have hb2:Below w.heap.size w w2:=((Below.refl _ w).alloc (Nat.le_refl _) _).trans (hb.mono (by simp))
 have H2:=Lib.hid (And.intro hS2 (And.intro hl (And.intro hv hZ)))
 clear hB hl hv hS2 hZ hb hkI hrI
 go_wp2_with (refine wpList_append_u32 rfl (.tmp 15) (.tmp 19) rfl w.heap.size k (k+n+1) (w.heap.size+1) (n+1) (n+1) S _ rfl rfl H2.out.2.2.2 (by simp) H2.out.1 H2.out.2.1 (by omega) ?_;intro w3 hB3 hG3)
 obtain ⟨u1,u2⟩:=up_row S k n r (val X) e H2.out.2.1 H2.out.2.2.1 HE.out.1 HE.out.2
 have hb3:Below w.heap.size w w3:=hb2.grown hG3 hb2.size (by intro q hq;injection hq;omega)
 obtain ⟨T,hT⟩:∃T,(List.replicate (k+n+1) 0).take k++S++(List.replicate (k+n+1) 0).drop (k+(n+1))=T:=⟨_,rfl⟩
 rw [hT] at hB3 u1 u2
 have ho:=hB3.own (wl T) (wl_le T)
 rw [show T.take (wl T)=dig (val T) from (dig_val hB3.1).symm,u2] at ho
 have hc:=cut_any (some ⟨w.heap.size,0,none⟩) (k+(n+1)) (k+n+1) T w3 hB3.rd u1 (by omega) (by omega)
 rw [wl_eq hB3.1,u2] at hc
 have HC:=Lib.hid hc
 have HO:=Lib.hid ho
 clear ho hc u1 u2 hT hB3 hG3
 refine HC.out.mono ?_
 rintro e' w' ⟨rfl,rfl⟩
 go_wp2
 go_ret
 exact ⟨_,rfl,HO.out,hb3⟩
set_option maxHeartbeats 1000000 in
theorem shl_any (A:Option Addr) (n c:Nat) (xs:List Nat) (e:Int) (w:World) (h:Rd w A xs) (hn:xs.length=n) (hc:n≤c) (hm:n≤70368744177663) (he0 : -9223372036854775808≤e) (he1:e≤9223372036854775807) :
  Calls Tryz.prog 75 #[.slice A n c,.int .i64 e] w fun e' w'=>∃g A1,w.heap.size≤g ∧
   e'=.returned (.tuple #[.slice A1 (nshl (val xs) e).1.length (nshl (val xs) e).1.length,.int .i64 (nshl (val xs) e).2]) ∧
   Own w' g A1 (nshl (val xs) e).1∧Below w.heap.size w w':=by
 by_cases hneg:e<0
 ·have hr:nshl (val xs) e=([],1):=by simp only [nshl,hneg,if_true]
  rw [hr]
  clear hr
  go_enter Tryz.func75,Tryz.ntmps75
  go_wp2
  go_ret2
  exact ⟨w.heap.size,none,by omega,rfl,Own.nil _ _ _,Below.refl _ w⟩
 ·have hle:=wl_le xs
  have cut1:=fun W=>run_cut_h W A n c (wl xs) (by omega)
  have HX:=Lib.hid (fun W hW=>words_any A n c xs W hW hn (by omega))
  have hV1:=(show (xs.take (wl xs)).length=wl xs from length_norm xs)
  have hV2:=(show val (xs.take (wl xs))=val xs from val_norm xs)
  have hL:=long1_any (w.heap.size) A (wl xs) c (xs.take (wl xs))
  rw [hV2] at hL
  have HL:=Lib.hid hL
  have HT:=Lib.hid (fun (o:Obj)=>(h.keep (fun b o' hb=>World.cell?_alloc_lt w o _ hb):Rd (w.alloc o) A xs))
  have HB:=Lib.hid (fun (o:Obj)=>((Below.refl _ w).alloc (Nat.le_refl _) o:Below w.heap.size w (w.alloc o)))
  have HV:=Lib.hid (And.intro hV1 (And.intro hV2 h))
  have hN:wl xs≤70368744177663:=by omega
  by_cases hlong:long (val xs)=true
  ·have hr:nshl (val xs) e=([],2):=by simp only [nshl,hneg,hlong,if_true,if_false]
   rw [hr]
   clear hr hn hL hV1 hV2 hle h
   go_enter Tryz.func75,Tryz.ntmps75
   go_wp2_with (first
    | (go_at_call 105;refine (HX.out _ HV.out.2.2).mono ?_;rintro e' w' ⟨rfl,rfl⟩)
    | (go_at_call 106;refine (HL.out _ ((HT.out _).take _) HV.out.1 (by omega) (by simp [World.cell?_alloc_new])).mono ?_;rintro e' w' ⟨rfl,rfl⟩))
   go_ret2
   exact ⟨w.heap.size,none,by omega,rfl,Own.nil _ _ _,HB.out _⟩
  ·have hlong':long (val xs)=false:=by simpa using hlong
   have hwl:wl xs≤16384:=by rw [wl_eq h.1];exact (long_false _).1 hlong'
   rcases Nat.eq_zero_or_pos (wl xs) with h0 | h0
   ·have hv0:=(val_eq_zero_iff xs).2 h0
    have hr:nshl (val xs) e=([],0):=by simp only [nshl,hneg,hlong',hv0];simp [hlong',←hv0]
    rw [hr]
    have hb0:((wl xs:Int)==0)=true:=by simp [h0]
    clear hr hn hL hV1 hV2 hle h h0 hv0
    go_enter Tryz.func75,Tryz.ntmps75
    go_wp2_with (first
     | (go_at_call 105;refine (HX.out _ HV.out.2.2).mono ?_;rintro e' w' ⟨rfl,rfl⟩)
     | (go_at_call 106;refine (HL.out _ ((HT.out _).take _) HV.out.1 (by omega) (by simp [World.cell?_alloc_new])).mono ?_;rintro e' w' ⟨rfl,rfl⟩))
    go_ret2
    exact ⟨w.heap.size,none,by omega,rfl,Own.nil _ _ _,HB.out _⟩
   ·have hv0:=pos_of_wl h0
    have hb0:((wl xs:Int)==0)=false:=by simp;omega
    have hN1:=fun W hW=>len_any A (wl xs) c (xs.take (wl xs)) W hW hV1 (by omega)
    rw [hV2] at hN1
    have HN1:=Lib.hid hN1
    have hbl:blen (val xs)≤524288:=blen_le_words ((long_false _).1 hlong')
    by_cases hbig:524288 - (blen (val xs):Int)<e
    ·have hr:nshl (val xs) e=([],2):=by simp [nshl,hneg,hlong',hv0,hbig]
     rw [hr]
     clear hr hn hL hV1 hV2 hle h h0 hv0 hN1
     go_enter Tryz.func75,Tryz.ntmps75
     go_wp2_with (first
      | (go_at_call 105;refine (HX.out _ HV.out.2.2).mono ?_;rintro e' w' ⟨rfl,rfl⟩)
      | (go_at_call 106;refine (HL.out _ ((HT.out _).take _) HV.out.1 (by omega) (by simp [World.cell?_alloc_new])).mono ?_;rintro e' w' ⟨rfl,rfl⟩)
      | (go_at_call 78;refine (HN1.out _ ((HT.out _).take _)).mono ?_;rintro e' w' ⟨rfl,rfl⟩))
     go_ret2
     exact ⟨w.heap.size,none,by omega,rfl,Own.nil _ _ _,HB.out _⟩
    ·obtain ⟨q,rfl⟩:∃q:Nat,e=q:=⟨e.toNat,by omega⟩
     have hr:nshl (val xs) (q:Int)=(dig (val xs*2^q),0):=by simp [nshl,hlong',hv0,hbig]
     rw [hr]
     have hU:=fun W hW=>up_any A (wl xs) c (xs.take (wl xs)) q W hW hV1 (by omega)
     rw [hV2] at hU
     have HU:=Lib.hid hU
     clear hr hn hL hV1 hV2 hle h h0 hv0 hN1 hU
     go_enter Tryz.func75,Tryz.ntmps75
     go_wp2_with (first
      | (go_at_call 105;refine (HX.out _ HV.out.2.2).mono ?_;rintro e' w' ⟨rfl,rfl⟩)
      | (go_at_call 106;refine (HL.out _ ((HT.out _).take _) HV.out.1 (by omega) (by simp [World.cell?_alloc_new])).mono ?_;rintro e' w' ⟨rfl,rfl⟩)
      | (go_at_call 78;refine (HN1.out _ ((HT.out _).take _)).mono ?_;rintro e' w' ⟨rfl,rfl⟩)
      | (go_at_call 116;refine (HU.out _ ((HT.out _).take _)).mono ?_;rintro e' w2 ⟨A1,rfl,ho,hb⟩))
     go_ret2
     exact ⟨_,A1,by simp,rfl,ho,(HB.out _).trans (hb.mono (by simp))⟩
end Go.Proofs.YtigmpifjcijdbaaGreatDoor
end

section
namespace Go.Proofs.YtigmpifjcijdbaaGreatDoor
set_option linter.unusedVariables false
set_option linter.unusedSimpArgs false
open Go.RowKit Verge
def PowPost (w:World) (r:List Nat) (er:Int) (en:Ending) (w':World):Prop:=
 ∃g A1,w.heap.size≤g∧en=.returned (.tuple #[.slice A1 r.length r.length,.int .i64 er])∧Own w' g A1 r∧Below w.heap.size w w'
theorem dig_1:dig 1=[1]:=by rw [dig_pos (by omega)];simp [dig_zero]
theorem pow_mul (A1:Option Addr) (x:Nat) (A2:Option Addr) (y:Nat) (W:World) (hx:(dig x).length≤40000) (hy:(dig y).length≤40000) (hR:Rd W A1 (dig x)) (hR2:Rd W A2 (dig y)) :
  Calls Tryz.prog 120 #[.slice A1 (dig x).length (dig x).length,.slice A2 (dig y).length (dig y).length] W fun e w'=>∃L,e=.returned (.slice (some ⟨W.heap.size,0,none⟩) L.length L.length) ∧
   Blk w' W.heap.size L∧L.length≤80000∧Hid (val L=x*y)∧Below W.heap.size W w':=by
 have:=mulrow_any A1 (dig x).length (dig x).length (dig x) A2 (dig y).length (dig y).length (dig y) W hR rfl (by omega) hR2 rfl
 refine this.mono ?_
 rintro e w' ⟨rfl,L,h1,h2,h3,h4⟩
 rw [val_dig,val_dig] at h3
 exact ⟨L,by rw [h2],h1,by omega,h3,h4⟩
theorem pow_cut (g v:Nat) (L:List Nat) (W:World) (hB:Blk W g L) (hl:L.length≤80000) (hv:val L=v) :
  Calls Tryz.prog 113 #[.slice (some ⟨g,0,none⟩) L.length L.length] W fun e w'=>∃A1,e=.returned (.slice A1 (dig v).length (dig v).length)∧Own W g A1 (dig v)∧W=w':=by
 refine (cut_any _ L.length L.length L W hB.rd rfl (Nat.le_refl _) (by omega)).mono ?_
 rintro e w' ⟨rfl,rfl⟩
 have h1:=dig_val hB.1
 rw [hv] at h1
 have ho:=hB.own (wl L) (wl_le L)
 rw [h1,length_norm]
 exact ⟨_,rfl,ho,rfl⟩
theorem and1 (m:Nat) (hm:m≤1000000):Go.bits .and .i64 (m:Int) 1=((m%2:Nat):Int):=by
 have h127:(BitVec.ofInt 64 1).toNat=2^1 - 1:=by decide
 have key:(BitVec.ofInt 64 (m:Int) &&& BitVec.ofInt 64 1).toNat=((m:Int)%((2^64:Nat):Int)).toNat%2^1:=by
  rw [BitVec.toNat_and,BitVec.toNat_ofInt,h127,Nat.and_two_pow_sub_one_eq_mod]
 show IntKind.i64.wrap ((BitVec.ofInt 64 (m:Int) &&& BitVec.ofInt 64 1).toNat:Nat)=((m%2:Nat):Int)
 rw [key,IntKind.wrap_i64]
 omega
section
variable (A:Option Addr) (n c:Nat) (xs:List Nat) (w:World) (h:Rd w A xs) (hn:xs.length=n) (hm:n≤70368744177663) (a:Nat) (ha:val xs=a)
include h hn hm ha
set_option maxHeartbeats 1000000 in
theorem pow_none (e:Int) (he0 : -9223372036854775808≤e) (he1:e≤9223372036854775807) (hs:e<0∨long a=true) :
    Calls Tryz.prog 79 #[.slice A n c,.int .i64 e] w (PowPost w (npow a e).1 (npow a e).2):=by
  by_cases hneg:e<0
  · rw [npow_neg hneg]
    clear hs
    go_enter Tryz.func79,Tryz.ntmps79
    go_wp2
    go_ret2
    exact ⟨w.heap.size,none,by omega,rfl,Own.nil _ _ _,Below.refl _ w⟩
  · have hlo : long a = true := by rcases hs with hs | hs; · exact absurd hs hneg
                                   · exact hs
    rw [npow_long hneg hlo]
    have hL:=fun W hW h0=>long1_any (w.heap.size) A n c xs W hW hn (by omega) h0
    rw [ha,hlo] at hL
    have HL:=Lib.hid hL
    have HT:=Lib.hid (fun (o:Obj)=>(h.keep (fun b o' hb=>World.cell?_alloc_lt w o _ hb):Rd (w.alloc o) A xs))
    have HB:=Lib.hid (fun (o:Obj)=>((Below.refl _ w).alloc (Nat.le_refl _) o:Below w.heap.size w (w.alloc o)))
    clear hs hlo hL hn ha h
    go_enter Tryz.func79,Tryz.ntmps79
    go_wp2_with (go_at_call 106;refine (HL.out _ (HT.out _) (by simp [World.cell?_alloc_new])).mono ?_;rintro e' w' ⟨rfl,rfl⟩)
    go_ret2
    exact ⟨w.heap.size,none,by omega,rfl,Own.nil _ _ _,HB.out _⟩
set_option maxHeartbeats 1000000 in
theorem pow_short (k:Nat) (hk1:k≤9223372036854775807) (hlo:long a=false) (hs:k=0∨blen a<2∨(∃j,blen a=j+2∧524288 / (j+1)<k)) :
  Calls Tryz.prog 79 #[.slice A n c,.int .i64 (k:Int)] w (PowPost w (npow a k).1 (npow a k).2):=by
 have hL:=fun W hW h0=>long1_any (w.heap.size) A n c xs W hW hn (by omega) h0
 rw [ha,hlo] at hL
 have HL:=Lib.hid hL
 have hNr:=fun W hW=>norm_any A n c xs W hW hn (by omega)
 rw [ha] at hNr
 have HNr:=Lib.hid hNr
 have hLn:=fun W hW=>len_any A n c xs W hW hn (by omega)
 rw [ha] at hLn
 have HLn:=Lib.hid hLn
 have HT:=Lib.hid (fun (o:Obj)=>(h.keep (fun b o' hb=>World.cell?_alloc_lt w o _ hb):Rd (w.alloc o) A xs))
 have HB:=Lib.hid (fun (o:Obj)=>((Below.refl _ w).alloc (Nat.le_refl _) o:Below w.heap.size w (w.alloc o)))
 have hbl:=blen_le_words ((long_false _).1 hlo)
 rw [npow_fit hlo]
 by_cases hk0:k=0
 ·subst hk0
  rw [Nat.pow_zero,fit_small (by rw [dig_1];simp),dig_1]
  clear hs hlo hL hn ha h hNr hLn hbl hk1
  go_enter Tryz.func79,Tryz.ntmps79
  go_wp2_with (first
   | (go_at_call 106;refine (HL.out _ (HT.out _) (by simp [World.cell?_alloc_new])).mono ?_;rintro e' w' ⟨rfl,rfl⟩)
   | (go_at_call 108;refine (HNr.out _ (HT.out _)).mono ?_;rintro en w1 ⟨g,A',hg,rfl,hO,hBa,rfl,hb1⟩)
   | (go_at_call 78;refine (HLn.out _ ((HT.out _).below hb1)).mono ?_;rintro en w2 ⟨rfl,rfl⟩))
  go_ret2
  have hs1:=hb1.size
  simp at hs1
  exact ⟨_,_,by omega,rfl,(Blk.new w1 _ [1] (by intro y hy;simp at hy;omega) rfl).own 1 (by simp),(((HB.out _).trans (hb1.mono (by simp))).alloc (by omega) _)⟩
 ·have hb0:((k:Int)==0)=false:=by rw [beq_eq_false_iff_ne];omega
  by_cases hb2:blen a<2
  ·have ha1:a=0∨a=1:=by
    have:a<2^1:=by rw [←blen_lt];omega
    omega
   have hpk:a^k=a:=by
    rcases ha1 with rfl | rfl
    ·exact Nat.zero_pow (by omega)
    ·exact Nat.one_pow k
   rw [hpk,fit_no hlo]
   clear hs hlo hL hn ha h hNr hLn hbl ha1 hpk
   go_enter Tryz.func79,Tryz.ntmps79
   go_wp2_with (first
    | (go_at_call 106;refine (HL.out _ (HT.out _) (by simp [World.cell?_alloc_new])).mono ?_;rintro e' w' ⟨rfl,rfl⟩)
    | (go_at_call 108;refine (HNr.out _ (HT.out _)).mono ?_;rintro en w1 ⟨g,A',hg,rfl,hO,hBa,rfl,hb1⟩)
    | (go_at_call 78;refine (HLn.out _ ((HT.out _).below hb1)).mono ?_;rintro en w2 ⟨rfl,rfl⟩))
   go_ret2
   have hs1:=hb1.size
   simp at hs1
   exact ⟨g,_,by simp at hg;omega,rfl,hO,(HB.out _).trans (hb1.mono (by simp))⟩
  ·obtain ⟨j,hj,hjk⟩:∃j,blen a=j+2∧524288 / (j+1)<k:=by
    rcases hs with hs | hs | hs
    ·exact absurd hs hk0
    ·exact absurd hs hb2
    ·exact hs
   have hpl:=pow_long a k j hj hjk
   rw [fit_yes hpl]
   have hdj:(524288:Int) / ((j:Int)+2 - 1)<(k:Int):=by
    rw [show ((j:Int)+2 - 1)=((j+1:Nat):Int) by omega,show (524288:Int)=((524288:Nat):Int) from rfl,←Int.natCast_ediv]
    exact Int.ofNat_lt.2 hjk
   rw [hj] at hLn
   have HLn:=Lib.hid hLn
   rw [hj] at hbl
   clear hs hlo hL hn ha h hNr hLn hpl hb2 hj hjk
   go_enter Tryz.func79,Tryz.ntmps79
   go_wp2_with (first
    | (go_at_call 106;refine (HL.out _ (HT.out _) (by simp [World.cell?_alloc_new])).mono ?_;rintro e' w' ⟨rfl,rfl⟩)
    | (go_at_call 108;refine (HNr.out _ (HT.out _)).mono ?_;rintro en w1 ⟨g,A',hg,rfl,hO,hBa,rfl,hb1⟩)
    | (go_at_call 78;refine (HLn.out _ ((HT.out _).below hb1)).mono ?_;rintro en w2 ⟨rfl,rfl⟩))
   go_ret2
   exact ⟨w.heap.size,none,by omega,rfl,Own.nil _ _ _,(HB.out _).trans (hb1.mono (by simp))⟩
set_option maxRecDepth 100000 in
set_option maxHeartbeats 4000000 in
theorem pow_main (k:Nat) (hlo:long a=false) (hk0:k≠0) (j:Nat) (hj:blen a=j+2) (hjk:k≤524288 / (j+1)) :
  Calls Tryz.prog 79 #[.slice A n c,.int .i64 (k:Int)] w (PowPost w (npow a k).1 (npow a k).2):=by
 have hL:=fun W hW h0=>long1_any (w.heap.size) A n c xs W hW hn (by omega) h0
 rw [ha,hlo] at hL
 have HL:=Lib.hid hL
 have hNr:=fun W hW=>norm_any A n c xs W hW hn (by omega)
 rw [ha] at hNr
 have HNr:=Lib.hid hNr
 have hLn:=fun W hW=>len_any A n c xs W hW hn (by omega)
 rw [ha,hj] at hLn
 have HLn:=Lib.hid hLn
 have HT:=Lib.hid (fun (o:Obj)=>(h.keep (fun b o' hb=>World.cell?_alloc_lt w o _ hb):Rd (w.alloc o) A xs))
 have HB:=Lib.hid (fun (o:Obj)=>((Below.refl _ w).alloc (Nat.le_refl _) o:Below w.heap.size w (w.alloc o)))
 have hbl:=blen_le_words ((long_false _).1 hlo)
 rw [hj] at hbl
 rw [npow_fit hlo]
 have hb0:((k:Int)==0)=false:=by rw [beq_eq_false_iff_ne];omega
 have hkb:k≤524288:=Nat.le_trans hjk (Nat.div_le_self _ _)
 have hdj:(k:Int)≤(524288:Int) / ((j:Int)+2 - 1):=by
  rw [show ((j:Int)+2 - 1)=((j+1:Nat):Int) by omega,show (524288:Int)=((524288:Nat):Int) from rfl,←Int.natCast_ediv]
  exact Int.ofNat_le.2 hjk
 have hw:=pow_words a k j hj hjk
 have ha0:0<a:=by
  rcases Nat.eq_zero_or_pos a with e | e
  ·rw [e,blen_zero] at hj;omega
  ·exact e
 have hst:=powInv_start ha0 (show 0<k by omega)
 generalize a^k=T at *
 have HS:=Lib.hid hst
 have hd1:1=(dig 1).length:=by rw [dig_1];rfl
 have HD1:=Lib.hid hd1
 clear hlo hL hn ha h hNr hLn hj hjk hst hd1
 go_enter Tryz.func79,Tryz.ntmps79
 go_wp2_with (first
  | (go_at_call 106;refine (HL.out _ (HT.out _) (by simp [World.cell?_alloc_new])).mono ?_;rintro e' w' ⟨rfl,rfl⟩)
  | (go_at_call 108;refine (HNr.out _ (HT.out _)).mono ?_;rintro en w1 ⟨g,A',hg,rfl,hO,hBa,rfl,hb1⟩)
  | (go_at_call 78;refine (HLn.out _ ((HT.out _).below hb1)).mono ?_;rintro en w2 ⟨rfl,rfl⟩))
 have hs1:=hb1.size
 simp at hs1 hg
 have hO1:Own (w1.alloc (.cells #[.int .u32 1] 52)) w1.heap.size (some ⟨w1.heap.size,0,none⟩) (dig 1):=by
  rw [dig_1];exact (Blk.new w1 _ [1] (by intro y hy;simp at hy;omega) rfl).own 1 (by simp)
 have hb3:=((HB.out _).trans (hb1.mono (by simp))).alloc (by omega) (.cells #[.int .u32 1] 52)
 have HE:=Lib.hid (And.intro (hO.later ((Below.refl _ w1).alloc (Nat.le_refl _) (.cells #[.int .u32 1] 52))) (And.intro hO1 (And.intro hb3 hs1)))
 clear hO hBa hb1 hO1 hb3 hs1 HNr HLn HL HT HB
 go_loopw [1,6,8] (fun nv xv pv wr=>∃(m x p gx gp:Nat) (Ax Ap:Option Addr),nv=.int .i64 m∧xv=.slice Ax (dig x).length (dig x).length∧pv=.slice Ap (dig p).length (dig p).length ∧
   m≤524288∧w.heap.size≤gx∧w.heap.size≤gp∧Own wr gx Ax (dig x)∧Own wr gp Ap (dig p)∧Hid (PowInv T p x m)∧Below w.heap.size w wr) (fun nv _ _ _=>(intOf nv).toNat)
 case atStart=>exact ⟨k,a,1,g,w1.heap.size,_,some ⟨w1.heap.size,0,none⟩,rfl,rfl,by rw [←HD1.out],hkb,by omega,by have:=HE.out.2.2.2;omega,HE.out.1,HE.out.2.1,HS.out,HE.out.2.2.1⟩
 case round =>
  obtain ⟨m,x,p,gx,gp,Ax,Ap,rfl,rfl,rfl,hm5,hgx,hgp,hOx,hOp,hI,hbw⟩:=hrel
  have hm0:=hI.out.2.2.2
  have hle:=powInv_le hI.out
  have hlx:=dig_length_mono hle.1
  have hlp:=dig_length_mono hle.2
  have hpx:=dig_length_mono (powInv_x hI.out)
  have hand:=and1 m (by omega)
  have hd2:((m:Int) / 2)=((m / 2:Nat):Int):=by omega
  have hd2':=Lib.hid hd2
  rcases Nat.mod_two_eq_zero_or_one m with hm2 | hm2
  ·rw [hm2] at hand
   have hne:0<m / 2:=by omega
   have hzz:((m:Int) / 2==0)=false:=by rw [beq_eq_false_iff_ne];omega
   have HI:=Lib.hid (powInv_even hI.out hm2 hne)
   clear hI hle hpx hd2 hm2
   go_wp2_with (first
    | (go_at_call 120;refine (pow_mul Ax x Ax x _ (by omega) (by omega) hOx.rd hOx.rd).mono ?_;rintro en w3 ⟨L,rfl,hBL,hLl,hLv,hb3⟩)
    | (go_at_call 113;refine (pow_cut _ (x*x) L _ hBL hLl hLv.out).mono ?_;rintro en w4 ⟨A4,rfl,hO4,rfl⟩))
   go_roundw
   case rel=>exact ⟨m / 2,x*x,p,_,gp,A4,Ap,by rw [hd2'.out],rfl,rfl,by omega,hbw.size,hgp,hO4,hOp.later hb3,HI.out,hbw.trans (hb3.mono hbw.size)⟩
   case measure=>simp [intOf];omega
  ·rw [hm2] at hand
   have hpm:0<p*x:=Nat.mul_pos hI.out.2.1 hI.out.2.2.1
   obtain ⟨q,hq⟩:∃q,p*x=q:=⟨_,rfl⟩
   rw [hq] at hpx
   have HMul:=pow_mul Ap p Ax x
   have HCut:=fun gg=>pow_cut gg q
   rw [hq] at HMul
   have HMul:=Lib.hid HMul
   have HCut:=Lib.hid HCut
   by_cases hql:16384<(dig q).length
   ·have hTl:fit T=([],2):=fit_yes ((long_iff T).2 (by omega))
    rw [hTl]
    have hp1:=powInv_x hI.out
    clear hI hle hd2 hm2 hq hpm hTl hp1
    go_wp2_with (first
     | (go_at_call 120;refine (HMul.out _ (by omega) (by omega) hOp.rd hOx.rd).mono ?_;rintro en w3 ⟨L,rfl,hBL,hLl,hLv,hb3⟩)
     | (go_at_call 113;refine (HCut.out _ L _ hBL hLl hLv.out).mono ?_;rintro en w4 ⟨A4,rfl,hO4,rfl⟩))
    go_ret2
    exact ⟨w.heap.size,none,Nat.le_refl _,rfl,Own.nil _ _ _,hbw.trans (hb3.mono hbw.size)⟩
   ·by_cases hz0:m / 2=0
    ·have hTq:T=q:=by rw [←hq];exact (powInv_end hI.out (by omega)).symm
     subst hTq
     rw [fit_small (by omega)]
     have hzz:((m:Int) / 2==0)=true:=by rw [beq_iff_eq];omega
     clear hI hle hd2 hm2 hq hpm hz0
     go_wp2_with (first
      | (go_at_call 120;refine (HMul.out _ (by omega) (by omega) hOp.rd hOx.rd).mono ?_;rintro en w3 ⟨L,rfl,hBL,hLl,hLv,hb3⟩)
      | (go_at_call 113;refine (HCut.out _ L _ hBL hLl hLv.out).mono ?_;rintro en w4 ⟨A4,rfl,hO4,rfl⟩))
     go_ret2
     exact ⟨_,A4,hbw.size,rfl,hO4,hbw.trans (hb3.mono hbw.size)⟩
    ·have hzz:((m:Int) / 2==0)=false:=by rw [beq_eq_false_iff_ne];omega
     have hio:=powInv_odd hI.out hm2 (by omega)
     rw [hq] at hio
     have HI:=Lib.hid hio
     have HMulx:=pow_mul Ax x Ax x
     have HCutx:=fun gg=>pow_cut gg (x*x)
     have HMulx:=Lib.hid HMulx
     have HCutx:=Lib.hid HCutx
     clear hI hle hd2 hm2 hq hpm hio
     go_wp2_with fail
     refine (HMul.out _ (by omega) (by omega) hOp.rd hOx.rd).mono ?_
     rintro en w3 ⟨L,rfl,hBL,hLl,hLv,hb3⟩
     go_wp2_with fail
     refine (HCut.out _ L _ hBL hLl hLv.out).mono ?_
     rintro en w4 ⟨A4,rfl,hO4,rfl⟩
     go_wp2_with fail
     refine (HMulx.out _ (by omega) (by omega) (hOx.later hb3).rd (hOx.later hb3).rd).mono ?_
     rintro en w5 ⟨L2,rfl,hBL2,hLl2,hLv2,hb5⟩
     go_wp2_with fail
     refine (HCutx.out _ L2 _ hBL2 hLl2 hLv2.out).mono ?_
     rintro en w6 ⟨A6,rfl,hO6,rfl⟩
     go_wp2_with fail
     have hbb:=hbw.trans (hb3.mono hbw.size)
     go_roundw
     case rel=>exact ⟨m / 2,x*x,q,_,_,A6,A4,by rw [hd2'.out],rfl,rfl,by omega,hbb.size,hbw.size,hO6,hO4.later hb5,HI.out,hbb.trans (hb5.mono hbb.size)⟩
     case measure=>simp [intOf];omega
theorem pow_any (e:Int) (he0 : -9223372036854775808≤e) (he1:e≤9223372036854775807) :
  Calls Tryz.prog 79 #[.slice A n c,.int .i64 e] w (PowPost w (npow a e).1 (npow a e).2):=by
 by_cases hs:e<0∨long a=true
 ·exact pow_none A n c xs w h hn hm a ha e he0 he1 hs
 ·have hlo:long a=false:=by
   cases hb:long a with
   | true=>exact absurd (.inr hb) hs
   | false=>rfl
  obtain ⟨k,rfl⟩:=Int.eq_ofNat_of_zero_le (show 0≤e by omega)
  by_cases h2:k=0∨blen a<2∨(∃j,blen a=j+2∧524288 / (j+1)<k)
  ·exact pow_short A n c xs w h hn hm a ha k (by omega) hlo h2
  ·obtain ⟨j,hj⟩:∃j,blen a=j+2:=⟨blen a - 2,by omega⟩
   refine pow_main A n c xs w h hn hm a ha k hlo (by omega) j hj ?_
   rcases Nat.lt_or_ge (524288 / (j+1)) k with hl | hl
   ·exact absurd (.inr (.inr ⟨j,hj,hl⟩)) h2
   ·exact hl
end
end Go.Proofs.YtigmpifjcijdbaaGreatDoor
end

section
namespace Go.Proofs.YtigmpifjcijdbaaGreatDoor
set_option linter.unusedVariables false
set_option linter.unusedSimpArgs false
open Go.RowKit Verge
theorem word_any (A:Option Addr) (n c:Nat) (xs:List Nat) (w:World) (h:Rd w A xs) (hn:xs.length=n) (hm:n≤140737488355328) :
  Calls Tryz.prog 115 #[.slice A n c] w fun e w'=>e=.returned (.tuple #[.int .u64 (if val xs<18446744073709551616 then (val xs:Nat) else 0),.bool (decide (val xs<18446744073709551616))])∧∃k,w.drewN k=w':=by
 have hle:=wl_le xs
 have hv:val xs=val (xs.take (wl xs)):=(val_norm xs).symm
 by_cases h2:2<wl xs
 ·have hbig:¬val xs<18446744073709551616:=by
   have h3:=(dig_length_le (n:=val xs) (k:=2))
   rw [←wl_eq h.1] at h3
   intro hlt
   have:=h3.2 hlt
   omega
  rw [if_neg hbig,decide_eq_false hbig]
  have e0:((wl xs:Int)==0)=false:=by simp;omega
  have e1:((wl xs:Int)==1)=false:=by simp;omega
  have e2:((wl xs:Int)==2)=false:=by simp;omega
  clear hbig hv
  have HN:=Lib.hid hn;clear hn
  go_enter Tryz.func115,Tryz.ntmps115
  go_wp2_with (go_at_call 105;refine (words_any A n c xs _ h HN.out hm).mono ?_;rintro e w' ⟨rfl,rfl⟩)
  go_ret2
  exact ⟨rfl,0,rfl⟩
 ·have W:=fun W' hW=>words_any A n c xs W' hW hn hm
  obtain hw | hw | hw:wl xs=0∨wl xs=1∨wl xs=2:=by omega
  ·have hv0:=(val_eq_zero_iff xs).2 hw
   rw [hv0]
   rw [hw] at W
   have HW:=Lib.hid W;clear W hv hv0 hw h2 hle hn
   go_enter Tryz.func115,Tryz.ntmps115
   go_wp2_with (go_at_call 105;refine (HW.out _ h).mono ?_;rintro e w' ⟨rfl,rfl⟩)
   go_ret2
   exact ⟨rfl,0,rfl⟩
  ·have hv1:val xs=xs.getD 0 0:=by rw [hv,hw,val_take_succ];simp
   rw [hv1]
   rw [hw] at W
   obtain ⟨b,o,rfl,hc⟩:=h.cell (k:=0) (by omega)
   rw [Nat.add_zero] at hc
   have hn0:0<n:=by omega
   have hx:=h.1.getD 0
   have HW:=Lib.hid W
   have HH:=Lib.hid h
   have hp:decide (xs.getD 0 0<18446744073709551616)=true:=decide_eq_true (by omega)
   rw [if_pos (by omega),hp]
   clear W h hv hv1 hw h2 hle hn hp
   generalize xs.getD 0 0=x at *
   go_enter Tryz.func115,Tryz.ntmps115
   go_wp2_with (go_at_call 105;refine (HW.out _ HH.out).mono ?_;rintro e w' ⟨rfl,rfl⟩)
   go_ret2
   exact ⟨rfl,0,rfl⟩
  ·have hv1:val xs=xs.getD 0 0+4294967296*xs.getD 1 0:=by rw [hv,hw,val_take_succ,val_take_succ];simp
   rw [hv1]
   rw [hw] at W
   obtain ⟨b,o,rfl,hc⟩:=h.cells (by omega)
   have hc0:=hc 0 (by omega)
   rw [Nat.add_zero] at hc0
   have hn0:1<n:=by omega
   have hc1:=hc 1 (by omega)
   have hx:=h.1.getD 0
   have hy:=h.1.getD 1
   have HW:=Lib.hid W
   have HH:=Lib.hid h
   have hp:decide (xs.getD 0 0+4294967296*xs.getD 1 0<18446744073709551616)=true:=decide_eq_true (by omega)
   rw [if_pos (by omega),hp]
   clear W h hv hv1 hw h2 hle hn hp hc
   generalize xs.getD 0 0=x at *
   generalize xs.getD 1 0=y at *
   go_enter Tryz.func115,Tryz.ntmps115
   go_wp2_with (go_at_call 105;refine (HW.out _ HH.out).mono ?_;rintro e w' ⟨rfl,rfl⟩)
   have hor:=or_hi' x y hx hy
   go_quiet (fail)
   go_wp2
   go_ret2
   exact ⟨rfl,_,rfl⟩
end Go.Proofs.YtigmpifjcijdbaaGreatDoor
end

section
namespace Go.Proofs.YtigmpifjcijdbaaGreatDoor
set_option linter.unusedVariables false
set_option linter.unusedSimpArgs false
open Go.RowKit Verge
def IsT (n:Nat) (v:Value) (w:World):Prop:=∃A,v=.slice A (dig n).length (dig n).length∧Rd w A (dig n)
theorem IsT.mono (n:Nat):Mono (IsT n):=fun _ _ _ hb ⟨A,e,h⟩=>⟨A,e,h.below hb⟩
def Is3 (φ ψ χ:Value→World→Prop) (v:Value) (w:World):Prop:=∃a b c,v=.tuple #[a,b,c]∧φ a w∧ψ b w∧χ c w
theorem len_of_blen {n:Nat} (h:blen n≤500000):(dig n).length≤15625:=by
 obtain ⟨k,hk⟩:∃k,k=15625:=⟨_,rfl⟩
 rw [←hk,dig_length_le,pow32,←blen_lt];omega
variable {n m:Nat} {v u:Value} {w:World}
theorem nlen_is (hv:IsT n v w) (h:blen n≤500000):Calls Tryz.prog 78 #[v] w (Ans w (IsV (.int .i64 (blen n:Nat)))):=by
 obtain ⟨A,rfl,hR⟩:=hv
 have hl:=len_of_blen h
 have:=len_any A _ (dig n).length (dig n) w hR rfl (by omega)
 rw [val_dig] at this
 exact ans_quiet this
theorem nshl_is (e:Nat) (hv:IsT n v w) (h:blen n+e≤500000):Calls Tryz.prog 75 #[v,.int .i64 (e:Int)] w (Ans w (Is2 (IsT (n*2^e)) (IsV (.int .i64 0)))):=by
 obtain ⟨A,rfl,hR⟩:=hv
 have hl:=len_of_blen (n:=n) (by omega)
 have e1:nshl n (e:Int)=(dig (n*2^e),0):=by
  unfold nshl
  rw [if_neg (by omega),(long_false _).2 (by omega),if_neg (by simp)]
  by_cases h0:n=0
  ·subst h0;rw [if_pos rfl,Nat.zero_mul,dig_zero]
  ·rw [if_neg h0,if_neg (by omega),Int.toNat_natCast]
 have:=shl_any A _ (dig n).length (dig n) (e:Int) w hR rfl (Nat.le_refl _) (by omega) (by omega) (by omega)
 rw [val_dig,e1] at this
 exact this.mono fun en w' ⟨g,A1,hg,he,hO,hb⟩=>⟨_,he,⟨_,_,rfl,⟨A1,rfl,hO.rd⟩,rfl⟩,hb⟩
theorem nsmall_is (n:Nat) (h:n<18446744073709551616):Calls Tryz.prog 99 #[.int .u64 (n:Int)] w (Ans w (IsT n)):=by
 have:=small_any (n:Int) w (by omega) (by omega)
 rw [Int.toNat_natCast] at this
 exact this.mono fun en w' ⟨g,A1,hg,he,hO,hb⟩=>⟨_,he,⟨A1,rfl,hO.rd⟩,hb⟩
theorem nword_is (hv:IsT n v w) (h:n<18446744073709551616):Calls Tryz.prog 115 #[v] w (Ans w (IsV (.tuple #[.int .u64 (n:Int),.bool true]))):=by
 obtain ⟨A,rfl,hR⟩:=hv
 have hl:(dig n).length≤2:=dig_length_le.2 (by omega)
 have:=word_any A _ (dig n).length (dig n) w hR rfl (by omega)
 rw [val_dig,if_pos h,decide_eq_true h] at this
 exact ans_drew this
theorem nmul_is (hv:IsT n v w) (hu:IsT m u w) (h:blen n≤100000) (h':blen m≤100000):Calls Tryz.prog 80 #[v,u] w (Ans w (Is2 (IsT (n*m)) (IsV (.int .i64 0)))):=by
 obtain ⟨A,rfl,hR⟩:=hv
 obtain ⟨B,rfl,hS⟩:=hu
 have hl:=len_of_blen (n:=n) (by omega)
 have hl':=len_of_blen (n:=m) (by omega)
 have hp:blen (n*m)≤200000:=by
  have h2:=(blen_lt n _).1 (Nat.le_refl (blen n))
  have h3:=(blen_lt m _).1 (Nat.le_refl (blen m))
  have:blen (n*m)≤blen n+blen m:=by
   rw [blen_lt,Nat.pow_add]
   rcases Nat.eq_zero_or_pos m with h0 | h0
   ·subst h0;rw [Nat.mul_zero];exact Nat.mul_pos (Nat.two_pow_pos _) (Nat.two_pow_pos _)
   ·exact Nat.lt_of_lt_of_le (Nat.mul_lt_mul_of_pos_right h2 h0) (Nat.mul_le_mul_left _ (Nat.le_of_lt h3))
  omega
 have hlp:=len_of_blen (n:=n*m) (by omega)
 have e:nmul n m=(dig (n*m),0):=by
  unfold nmul
  rw [(long_false _).2 (by omega),(long_false _).2 (by omega),fit_no ((long_false _).2 (by omega)),decide_eq_false (by omega)]
  rfl
 have:=mul_any A _ (dig n).length (dig n) B _ (dig m).length (dig m) w hR rfl (Nat.le_refl _) (by omega) hS rfl (Nat.le_refl _) (by omega)
 rw [val_dig,val_dig,e] at this
 exact this.mono fun en w' ⟨g,A1,hg,he,hO,hb⟩=>⟨_,he,⟨_,_,rfl,⟨A1,rfl,hO.rd⟩,rfl⟩,hb⟩
theorem nquo_is (hv:IsT n v w) (hu:IsT m u w) (h:blen n≤100000) (h':blen m≤100000) (h0:m≠0):Calls Tryz.prog 73 #[v,u] w (Ans w (Is3 (IsT (n / m)) (IsT (n%m)) (IsV (.int .i64 0)))):=by
 obtain ⟨A,rfl,hR⟩:=hv
 obtain ⟨B,rfl,hS⟩:=hu
 have hl:=len_of_blen (n:=n) (by omega)
 have hl':=len_of_blen (n:=m) (by omega)
 have e:nquo n m=(dig (n / m),dig (n%m),0):=by
  unfold nquo
  rw [if_neg h0,(long_false _).2 (by omega),(long_false _).2 (by omega)]
  rfl
 have:=quo_any A _ (dig n).length (dig n) B _ (dig m).length (dig m) w hR rfl (Nat.le_refl _) (by omega) hS rfl (Nat.le_refl _) (by omega)
 rw [val_dig,val_dig,e] at this
 unfold QuoPost at this
 exact this.mono fun en w' ⟨g1,g2,A1,A2,_,_,_,he,hO,hO2,hb⟩=>⟨_,he,⟨_,_,_,rfl,⟨A1,rfl,hO.rd⟩,⟨A2,rfl,hO2.rd⟩,rfl⟩,hb⟩
theorem nquo_own (hv:IsT n v w) (hu:IsT m u w) (h:blen n≤100000) (h':blen m≤100000) (h0:m≠0):Calls Tryz.prog 73 #[v,u] w fun e w'=>∃g1 A1 A2,e=.returned (.tuple #[.slice A1 (dig (n / m)).length (dig (n / m)).length,.slice A2 (dig (n%m)).length (dig (n%m)).length,.int .i64 0])∧Own w' g1 A1 (dig (n / m))∧IsT (n%m) (.slice A2 (dig (n%m)).length (dig (n%m)).length) w'∧Below w.heap.size w w':=by
 obtain ⟨A,rfl,hR⟩:=hv
 obtain ⟨B,rfl,hS⟩:=hu
 have hl:=len_of_blen (n:=n) (by omega)
 have hl':=len_of_blen (n:=m) (by omega)
 have e:nquo n m=(dig (n / m),dig (n%m),0):=by
  unfold nquo
  rw [if_neg h0,(long_false _).2 (by omega),(long_false _).2 (by omega)]
  rfl
 have:=quo_any A _ (dig n).length (dig n) B _ (dig m).length (dig m) w hR rfl (Nat.le_refl _) (by omega) hS rfl (Nat.le_refl _) (by omega)
 rw [val_dig,val_dig,e] at this
 unfold QuoPost at this
 exact this.mono fun en w' ⟨g1,g2,A1,A2,_,_,_,he,hO,hO2,hb⟩=>⟨g1,A1,A2,he,hO,⟨A2,rfl,hO2.rd⟩,hb⟩
theorem npow_is (k:Nat) (hv:IsT n v w) (h:blen n≤100) (h':blen (n^k)≤100000) (hk:k≤1000000):Calls Tryz.prog 79 #[v,.int .i64 (k:Int)] w (Ans w (Is2 (IsT (n^k)) (IsV (.int .i64 0)))):=by
 obtain ⟨A,rfl,hR⟩:=hv
 have hl:=len_of_blen (n:=n) (by omega)
 have hlp:=len_of_blen (n:=n^k) (by omega)
 have e:npow n (k:Int)=(dig (n^k),0):=by
  unfold npow
  rw [if_neg (by omega),(long_false _).2 (by omega),Int.toNat_natCast,fit_no ((long_false _).2 (by omega))]
  rfl
 have:=pow_any A _ (dig n).length (dig n) w hR rfl (by omega) n (val_dig n) (k:Int) (by omega) (by omega)
 rw [e] at this
 unfold PowPost at this
 exact this.mono fun en w' ⟨g,A1,hg,he,hO,hb⟩=>⟨_,he,⟨_,_,rfl,⟨A1,rfl,hO.rd⟩,rfl⟩,hb⟩
end Go.Proofs.YtigmpifjcijdbaaGreatDoor
end
