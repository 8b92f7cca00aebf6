/- The document's own naturals: Power (off XRefH, for a seat without Square). -/
import Derived.Test.YtigmpifjcijdbaaGreatDoorG08
import Derived.Test.YtigmpifjcijdbaaGreatDoorG06
import Derived.Test.YtigmpifjcijdbaaGreatDoorG26
import Derived.Test.YtigmpifjcijdbaaGreatDoorG24
import Derived.Test.YtigmpifjcijdbaaGreatDoorG15
section
namespace Go.Proofs.YtigmpifjcijdbaaGreatDoor
set_option linter.unusedVariables false
set_option linter.unusedSimpArgs false
open Go.RowKit Verge
theorem rtimes_d (A:Option Addr) (c x:Nat) (A':Option Addr) (c' y:Nat) (W:World) (h:Rd W A (dig x)) (h':Rd W A' (dig y)) (hb:(dig x).length+(dig y).length≤35184372088800) :
  Calls Tryz.prog 21 #[.slice A (dig x).length c,.slice A' (dig y).length c'] W (Doc W (x*y)):=by
 have:=rtimes_any A (dig x).length c (dig x) A' (dig y).length c' (dig y) W h rfl h' rfl (by omega) (by omega) (by rw [wl_dig,wl_dig];exact hb)
 rwa [val_dig,val_dig] at this
set_option maxRecDepth 100000 in
set_option maxHeartbeats 4000000 in
theorem rpower_any (A:Option Addr) (n c:Nat) (X:List Nat) (k:Nat) (kI:Int) (w:World) (hkI:(k:Int)=kI) (hk:k≤9223372036854775807) (h:Rd w A X) (hn:X.length=n) (hm:n≤35184372088600) (hVl:(dig (val X)).length≤17592186044000) (hT:(dig (val X^k)).length≤17592186044000) :
  Calls Tryz.prog 40 #[.slice A n c,.int .i64 kI] w (Doc w (val X^k)):=by
 subst hkI
 have hN:=fun W hW=>rnorm_any A n c X W hW hn (by omega)
 obtain ⟨V,hV⟩:∃V,val X=V:=⟨_,rfl⟩
 rw [hV] at hN hVl hT ⊢
 obtain ⟨T,hTT⟩:∃T,V^k=T:=⟨_,rfl⟩
 rw [hTT] at hT ⊢
 obtain ⟨M,hM⟩:∃M,max (max T V) 1=M:=⟨_,rfl⟩
 have hM1:T≤M:=by omega
 have hM2:V≤M:=by omega
 have hM3:1≤M:=by omega
 have hMl:(dig M).length≤17592186044001:=by
  have h3:M=T∨M=V∨M=1:=by omega
  rcases h3 with h3 | h3 | h3
  ·rw [h3];omega
  ·rw [h3];omega
  ·rw [h3];exact Nat.le_trans (dig_length_le.2 (show 1<4294967296^1 by omega)) (by omega)
 have hst:PwInv T V M 1 V k:=⟨by rw [Nat.one_mul];exact hTT,hM2,hM3,fun h0=>⟨h0,by omega⟩,fun h0=>h0⟩
 have hd1:1=(dig 1).length:=by rw [dig_pos (by omega)];simp [dig_zero]
 have hdd1:dig 1=[1]:=by rw [dig_pos (by omega)];simp [dig_zero]
 have HN:=Lib.hid hN
 have HS:=Lib.hid (And.intro hst (And.intro hd1 (And.intro hdd1 hM1)))
 have HML:=Lib.hid hMl
 clear hN hV hTT hM hM2 hM3 hst hd1 hdd1 hn hMl hM1
 go_enter Tryz.func40,Tryz.ntmps40
 go_wp2_with fail
 have hal:=(Below.refl w.heap.size w).alloc (Nat.le_refl _) (.cells #[.int .u32 1] 52)
 refine (HN.out _ (h.below hal)).mono ?_
 rintro e w1 ⟨A1,c1,rfl,d1,d1a,d1b,b1w⟩
 have hp1:Rd w1 (some ⟨w.heap.size,0,none⟩) (dig 1):=by
  rw [HS.out.2.2.1]
  exact ((Blk.new w #[.int .u32 1] [1] (W32.cons (by omega) W32.nil) rfl).later b1w).rd
 have hW:=hal.trans (b1w.mono hal.size)
 clear hal b1w
 go_wp2_with fail
 go_loopw [1,5,6] (fun mv pv xv wr=>∃(m p x cp cx:Nat) (Ap Ax:Option Addr),mv=.int .i64 m∧pv=.slice Ap (dig p).length cp∧xv=.slice Ax (dig x).length cx∧m≤k ∧
  Rd wr Ap (dig p)∧Rd wr Ax (dig x)∧Hid (PwInv T V M p x m∧(dig p).length≤cp∧cp≤maxLen)∧Below w.heap.size w wr) (fun mv _ _ _=>(intOf mv).toNat)
 case atStart=>exact ⟨k,1,V,1,c1,some ⟨w.heap.size,0,none⟩,A1,rfl,by rw [←HS.out.2.1],rfl,Nat.le_refl _,hp1,d1,⟨HS.out.1,by rw [←HS.out.2.1];omega,by decide⟩,hW⟩
 case round =>
  clear hW d1 hp1
  obtain ⟨m,p,x,cp,cx,Ap,Ax,hmv,rfl,rfl,hmk,hRp,hRx,hI,hW⟩:=hrel
  rcases Nat.eq_zero_or_pos m with hm0 | hm0
  ·subst hm0
   obtain rfl:u1=.int .i64 0:=hmv
   go_wp2
   go_ret
   obtain ⟨⟨h1,h2,h3,h4,h5⟩,h6,h7⟩:=hI.out
   have e:p=T:=by simpa using h1
   subst e
   exact ⟨Ap,cp,rfl,hRp,h6,h7,hW⟩
  ·obtain rfl:=hmv
   have hlp:=Nat.le_trans (dig_length_mono hI.out.1.2.2.1) HML.out
   have hlx:=Nat.le_trans (dig_length_mono hI.out.1.2.1) HML.out
   have hmul:=Lib.hid (rtimes_d Ap cp p Ax cx x wr hRp hRx (by omega))
   rcases Nat.mod_two_eq_zero_or_one m with hm2 | hm2
   ·have hmI:(m:Int)%2=0:=by omega
    have hne:0<m / 2:=by omega
    have hev:=pw_even hI.out.1 HS.out.2.2.2 hm2 hne
    obtain ⟨m2,hm2e⟩:∃m2,m / 2=m2:=⟨_,rfl⟩
    have hm2I:(m:Int) / 2=(m2:Int):=by omega
    have hm2p:(0:Int)<(m2:Int):=by omega
    have hm2lt:m2<m:=by omega
    rw [hm2e] at hev
    have HEV:=Lib.hid (And.intro hev hI.out.2)
    have hsq:=Lib.hid (rtimes_d Ax cx x Ax cx x wr hRx hRx (by omega))
    clear hev hm2 hne hm2e hmul
    go_wp2_with (go_at_call 21;refine hsq.out.mono ?_;rintro e w3 ⟨A3,c3,rfl,d3,d3a,d3b,b3w⟩)
    go_roundw
    case rel=>exact ⟨m2,p,x*x,cp,c3,Ap,A3,rfl,rfl,rfl,by omega,hRp.below b3w,d3,HEV.out,hW.trans (b3w.mono hW.size)⟩
    case measure=>simp [intOf];omega
   ·have hmI:(m:Int)%2=1:=by omega
    obtain ⟨m2,hm2e⟩:∃m2,m / 2=m2:=⟨_,rfl⟩
    have hm2I:(m:Int) / 2=(m2:Int):=by omega
    have hm2lt:m2<m:=by omega
    obtain ⟨q,hq⟩:∃q,p*x=q:=⟨_,rfl⟩
    rw [hq] at hmul
    rcases Nat.eq_zero_or_pos m2 with hz | hz
    ·subst hz
     have hla:=pw_last hI.out.1 HS.out.2.2.2 (by omega)
     rw [hq] at hla
     have HLA:=Lib.hid hla
     clear hla hm2 hm2e hq
     go_wp2_with (go_at_call 21;refine hmul.out.mono ?_;rintro e w3 ⟨A3,c3,rfl,d3,d3a,d3b,b3w⟩)
     go_roundw
     case rel=>exact ⟨0,q,x,c3,cx,A3,Ax,rfl,rfl,rfl,by omega,d3,hRx.below b3w,⟨HLA.out,d3a,d3b⟩,hW.trans (b3w.mono hW.size)⟩
     case measure=>simp [intOf];omega
    ·have hod:=pw_odd hI.out.1 HS.out.2.2.2 hm2 (by omega)
     rw [hm2e,hq] at hod
     have HOD:=Lib.hid hod
     have hm2p:(0:Int)<(m2:Int):=by omega
     clear hod hm2 hm2e hq hz
     go_wp2_with fail
     refine hmul.out.mono ?_
     rintro e w3 ⟨A3,c3,rfl,d3,d3a,d3b,b3w⟩
     go_wp2_with fail
     refine (rtimes_d Ax cx x Ax cx x w3 (hRx.below b3w) (hRx.below b3w) (by omega)).mono ?_
     rintro e w4 ⟨A4,c4,rfl,d4,d4a,d4b,b4w⟩
     go_wp2_with fail
     have hW3:=hW.trans (b3w.mono hW.size)
     go_roundw
     case rel=>exact ⟨m2,q,x*x,c3,c4,A3,A4,rfl,rfl,rfl,by omega,d3.below b4w,d4,⟨HOD.out,d3a,d3b⟩,hW3.trans (b4w.mono hW3.size)⟩
     case measure=>simp [intOf];omega
end Go.Proofs.YtigmpifjcijdbaaGreatDoor
end

section
namespace Go.Proofs.YtigmpifjcijdbaaGreatDoor
set_option linter.unusedVariables false
set_option linter.unusedSimpArgs false
open Go.RowKit Verge
theorem ite_le' {p:Prop} [Decidable p] {a b k:Nat} (ha:a≤k) (hb:b≤k):(if p then a else b)≤k:=by split <;> assumption
theorem nxH_le (s:Nat) (c:UInt8):nxH s c≤18:=by
 unfold nxH
 repeat' (first | decide | apply ite_le')
theorem nx_le (s:Nat) (c:UInt8):nx s c≤18:=by
 unfold nx
 repeat' (first | decide | exact nxH_le s c | apply ite_le')
theorem vdig_shl_len (a b:Nat):(dig (a*2^b)).length≤b / 32+(dig a).length+1:=by
 rw [dig_length_le,pow32]
 have h:=dig_length_le.1 (Nat.le_refl (dig a).length)
 rw [pow32] at h
 have h1:a*2^b<2^(32*(dig a).length)*2^b:=Nat.mul_lt_mul_of_pos_right h (Nat.two_pow_pos b)
 rw [←Nat.pow_add] at h1
 exact Nat.lt_of_lt_of_le h1 (Nat.pow_le_pow_right (by omega) (by omega))
theorem dig_div_len (n k:Nat):(dig (n / k)).length≤(dig n).length:=dig_length_mono (Nat.div_le_self _ _)
theorem fracN_len (n d:Nat) (e:Int):(dig (fracN n d e)).length≤e.toNat / 32+(dig n).length+3:=by
 by_cases hn:n=0
 ·have:fracN n d e=0:=by unfold fracN;rw [if_pos hn]
  rw [this,dig_zero];simp
 ·have hN:fracN n d e=(n / 2^ntz n)*2^(fracE n d e).toNat:=by unfold fracN;rw [if_neg hn]
  rw [hN]
  have h1:=vdig_shl_len (n / 2^ntz n) (fracE n d e).toNat
  have h2:=dig_div_len n (2^ntz n)
  by_cases he:0<fracE n d e
  ·have:=fracN_wl (n:=n) (d:=d) he
   omega
  ·have:(fracE n d e).toNat=0:=by omega
   rw [this] at h1 ⊢
   omega
theorem fracD_len (n d:Nat) (e:Int):(dig (fracD n d e)).length≤(-e).toNat / 32+(dig d).length+3:=by
 by_cases hn:n=0
 ·have:fracD n d e=1:=by unfold fracD;rw [if_pos hn]
  rw [this,dig_one];simp
 ·have hN:fracD n d e=(d / 2^ntz d)*2^(-(fracE n d e)).toNat:=by unfold fracD;rw [if_neg hn]
  rw [hN]
  have h1:=vdig_shl_len (d / 2^ntz d) (-(fracE n d e)).toNat
  have h2:=dig_div_len d (2^ntz d)
  by_cases he:fracE n d e<0
  ·have:=fracD_wl (n:=n) (d:=d) he
   omega
  ·have:(-(fracE n d e)).toNat=0:=by omega
   rw [this] at h1 ⊢
   omega
theorem rv_frac {s:Bool} {x y:Nat} {e:Int} {k:Nat} {v:Value} {w:World} (hy:0<y) (h:IsQ (s&&decide (x≠0)) (fracN x y e) (fracD x y e) v w) (h1:e.toNat / 32+(dig x).length+3≤k) (h2:(-e).toNat / 32+(dig y).length+3≤k) :
  IsRV (sv s (x*2^e.toNat)) (y*2^(-e).toNat) k v w:=by
 refine ⟨_,_,_,h,Nat.mul_pos hy (Nat.two_pow_pos _),by rw [val_dig];exact fracD_pos x y e (by omega),?_,Nat.le_trans (fracN_len x y e) h1,Nat.le_trans (fracD_len x y e) h2⟩
 have hv:=frac_val x y e (by omega) (-e).toNat (by omega)
 rw [show ((-e).toNat:Int)+e=(e.toNat:Int) by omega,Int.toNat_natCast] at hv
 have hs:sv (s&&decide (x≠0)) (fracN x y e)=sv s (fracN x y e):=by
  by_cases hx:x=0
  ·have:fracN x y e=0:=(fracN_zero x y e).2 hx
   rw [this];unfold sv;cases s <;> simp
  ·simp [hx]
 rw [val_dig,val_dig,hs]
 have e1:sv s (fracN x y e)*((y*2^(-e).toNat:Nat):Int)=sv s (fracN x y e*y*2^(-e).toNat):=by
  unfold sv;cases s <;> simp [Int.mul_assoc,Int.neg_mul]
 have e2:sv s (x*2^e.toNat)*(fracD x y e:Int)=sv s (x*fracD x y e*2^e.toNat):=by
  unfold sv;cases s <;> simp <;> grind
 rw [e1,e2,hv]
def IsVal (r:Except (Nat×Int) (Bool×Nat×Nat×Int)) (v:Value) (w:World):Prop:=
 match r with
 | .error (p,e)=>v=.tuple #[.agg #[.bool false,.slice none 0 0,.slice none 0 0],.int .i64 (p:Int),.int .i64 e]
 | .ok (n,x,y,t)=>∃r,v=.tuple #[r,.int .i64 0,.int .i64 0]∧IsRV (sv n (x*2^t.toNat)) (y*2^(-t).toNat) 10000 r w
set_option maxRecDepth 100000 in
theorem value5_long (l:List UInt8) (hl:4096<l.length) (hl2:l.length≤140737488355328) (w:World):Calls Tryz.prog 5 #[.string (bs l)] w (Ans w (IsVal (.error (4096,2)))):=by
 have hs:(bs l).size=l.length:=bs_size l
 generalize bs l=S at *
 obtain ⟨L,hL⟩:∃L,l.length=L:=⟨_,rfl⟩
 rw [hL] at hs hl hl2
 clear hL
 obtain ⟨P,hP⟩:∃P:Ending→World→Prop,P=Ans w (IsVal (.error (4096,2))):=⟨_,rfl⟩
 rw [←hP]
 have HP:=Lib.hid hP
 clear hP
 go_enter Tryz.func5,Tryz.ntmps5
 go_wp2
 refine bodyPost_ret (v:=.tuple #[.agg #[.bool false,.slice none 0 0,.slice none 0 0],.int .i64 4096,.int .i64 2]) (by simp [results,Tryz.results5,go_sem]) rfl ?_
 rw [HP.out]
 exact ⟨_,rfl,rfl,raft (rnew w _) (rnew _ _)⟩
set_option maxRecDepth 100000 in
set_option maxHeartbeats 1000000 in
theorem value5_bad (l:List UInt8) (hl:l.length≤4096) (k:Nat) (hk:frm (run 0 l)=.error k) (w:World):Calls Tryz.prog 5 #[.string (bs l)] w (Ans w (IsVal (.error (l.length - k,50)))):=by
 have hs:(bs l).size=l.length:=bs_size l
 obtain ⟨S,hS⟩:∃S,bs l=S:=⟨_,rfl⟩
 have HSA:=Lib.hid (fun i c h=>(hS▸bs_at l i c h:∀hi:i<S.size,S[i]'hi=c))
 rw [hS] at hs ⊢
 obtain ⟨L,hL⟩:∃L,l.length=L:=⟨_,rfl⟩
 rw [hL] at hs hl ⊢
 have HL:=Lib.hid (And.intro hL hk)
 clear hL hS hk
 obtain ⟨P,hP⟩:∃P:Ending→World→Prop,P=Ans w (IsVal (.error (L - k,50))):=⟨_,rfl⟩
 rw [←hP]
 have HP:=Lib.hid hP
 have HW0:=Lib.hid (raft (rnew w ratO) (rnew _ ratO))
 clear hP
 go_enter Tryz.func5,Tryz.ntmps5
 go_wp2
 go_loop [6,7] (fun sv iv=>∃i s:Nat,i≤L∧s≤17∧sv=.int .i64 (s:Int)∧iv=.int .i64 (i:Int)∧Hid (run 0 l=run s (l.drop i))) (fun _ iv=>L - (intOf iv).toNat)
 case atStart=>exact ⟨0,0,by omega,by omega,rfl,rfl,rfl⟩
 case round =>
  obtain ⟨i,s,hi,hs17,rfl,rfl,hI⟩:=hrel
  by_cases hlt:i<L
  ·have hltI:(i:Int)<(L:Int):=by omega
   obtain ⟨c,hc⟩:∃c,l[i]?=some c:=⟨_,List.getElem?_eq_getElem (by rw [HL.out.1];exact hlt)⟩
   have hcS:=HSA.out i c hc
   have hdr:l.drop i=c::l.drop (i+1):=by
    rw [List.drop_eq_getElem_cons (by rw [HL.out.1];exact hlt)]
    congr 1
    exact (List.getElem?_eq_some_iff.1 hc).2
   have HN:=Lib.hid (fun W=>next5_any s (by omega) c W)
   have hn18:nx s c≤18:=nx_le s c
   obtain ⟨t,ht⟩:∃t,nx s c=t:=⟨_,rfl⟩
   rw [ht] at HN hn18
   by_cases h18:t=18
   ·subst h18
    have HK:Hid (L - k=i):=Lib.hid (by
     have h1:=HL.out.2
     rw [hI.out,hdr,run_stop ht] at h1
     unfold frm at h1
     rw [if_neg (by simp)] at h1
     injection h1 with h1
     have h3:(c::l.drop (i+1)).length=k:=h1
     have h2:=congrArg List.length hdr
     rw [List.length_drop,HL.out.1,h3] at h2
     omega)
    clear hc hdr ht hI hn18
    go_wp2_with (go_at_call 13;refine (HN.out _).mono ?_;rintro e w1 ⟨rfl,rfl⟩)
    refine bodyPost_ret (v:=.tuple #[.agg #[.bool false,.slice none 0 0,.slice none 0 0],.int .i64 (i:Int),.int .i64 50]) (by simp [results,Tryz.results5,go_sem]) rfl ?_
    rw [HP.out,HK.out]
    exact ⟨_,rfl,rfl,HW0.out⟩
   ·have h18':((t:Int)==18)=false:=by simpa using (by omega:¬(t:Int)=18)
    have HR:=Lib.hid (show run 0 l=run t (l.drop (i+1)) by rw [hI.out,hdr,run_go ht h18])
    have HT:=Lib.hid (show t≤17 by omega)
    clear hc hdr ht hI hn18 h18
    go_wp2_with (go_at_call 13;refine (HN.out _).mono ?_;rintro e w1 ⟨rfl,rfl⟩)
    go_round
    case rel=>exact ⟨i+1,t,by omega,HT.out,rfl,by go_num,HR.out⟩
    case measure=>simp [intOf];omega
  ·obtain rfl:i=L:=by omega
   have hrun:run 0 l=(s,[]):=by rw [hI.out,List.drop_of_length_le (by rw [HL.out.1];omega)];rfl
   have he:endS s=false∧k=0:=by
    have h1:=HL.out.2
    rw [hrun] at h1
    unfold frm at h1
    by_cases he:endS s=true
    ·rw [if_pos ⟨rfl,he⟩] at h1;cases h1
    ·rw [if_neg (fun h=>he h.2)] at h1
     injection h1 with h1
     exact ⟨by simpa using he,h1.symm⟩
   obtain ⟨he,rfl⟩:=he
   have HE:=Lib.hid (fun W=>ends5_any s W)
   rw [he] at HE
   clear he hrun hI
   go_wp2_with (go_at_call 14;refine (HE.out _).mono ?_;rintro e w1 ⟨rfl,rfl⟩)
   refine bodyPost_ret (v:=.tuple #[.agg #[.bool false,.slice none 0 0,.slice none 0 0],.int .i64 (i:Int),.int .i64 50]) (by simp [results,Tryz.results5,go_sem]) rfl ?_
   rw [HP.out]
   exact ⟨_,rfl,rfl,HW0.out⟩
end Go.Proofs.YtigmpifjcijdbaaGreatDoor
end

section
namespace Go.Proofs.YtigmpifjcijdbaaGreatDoor
set_option linter.unusedVariables false
set_option linter.unusedSimpArgs false
open Go Go.RowKit
def tailOk (ops:Array Oper) (m:Nat):Bool:=(List.range ops.size).all fun i=>decide (i<m)||(List.range i).all fun j=>(ancB ops i).contains j
theorem tailOk_at {ops:Array Oper} {m:Nat} (h:tailOk ops m=true) {i:Nat} (hm:m≤i) (hi:i<ops.size):((List.range i).all fun j=>(ancB ops i).contains j)=true:=by
 have:=List.all_eq_true.1 h i (List.mem_range.2 hi)
 simp only [Bool.or_eq_true,decide_eq_true_eq] at this
 rcases this with h | h
 ·omega
 ·exact h
theorem range_ge (m n:Nat):((List.range n).filter fun j=>decide (m≤j)).length=n - m:=by
 induction n with
 | zero=>simp
 | succ n ih =>
  rw [List.range_succ,List.filter_append,List.length_append,ih]
  by_cases h:m≤n
  ·simp [h];omega
  ·simp [h];omega
section
variable {P:Program} {ops:Array Oper} {Φ:Nat→Value→World→Prop} {a0:Act} {w0:World} {Q:Exit→Act→World→Prop}
theorem seq_any (hok:regOk ops a0.tmps.size=true) {m:Nat} (hlast:tailOk ops m=true):∀{n:Nat} (hn:m≤n) (r:List Oper) (hr:ops.toList.drop n=r) (L:Array Bool) (hLs:L.size=ops.size) (hall:∀j,j<ops.size→L.getD j false=decide (j<n)) (fuel:Nat) (hf:ops.size - n≤fuel) (a:Act) (w:World),
  wpList P ops Q r a w→wpAny P .any ops Q fuel L a w:=by
 intro n hn r
 induction r generalizing n with
 | nil =>
  intro hr L hLs hall fuel hf a w hw
  have hn2:ops.size≤n:=by
   have:=congrArg List.length hr
   simp at this;omega
  exact any_done hLs (fun j hj=>by rw [hall j hj];simp;omega) (by simpa [wpList] using hw) fuel
 | cons o r ih =>
  intro hr L hLs hall fuel hf a w hw
  have hn2:n<ops.size:=by
   have:=congrArg List.length hr
   simp at this;omega
  have ho:ops[n]?=some o:=by
   have:=congrArg (fun l=>l[0]?) hr
   simpa using this
  have hr2:ops.toList.drop (n+1)=r:=by
   have:=congrArg List.tail hr
   simpa using this
  obtain ⟨fuel,rfl⟩:∃k,fuel=k+1:=⟨fuel - 1,by omega⟩
  have hshut:∀j o,ops[j]?=some o→L.getD j false=true→∀e∈o.after,Region.binds .any e=true→L.getD e.on false=true:=by
   intro j oj hoj hj e he hb
   have hjs:=(Array.getElem?_eq_some_iff.1 hoj).1
   have hone:=reg_one hok hoj
   unfold regOne at hone
   simp only [Bool.and_eq_true] at hone
   have:=(Array.all_eq_true'.1 hone.1.1) e he
   simp only [Bool.or_eq_true,Bool.not_eq_true',decide_eq_true_eq,hb] at this
   rw [hall j hjs] at hj
   have hj:=of_decide_eq_true hj
   rcases this with h | h
   ·cases h
   ·rw [hall e.on (by omega)];simp;omega
  refine ⟨fun h0 => ?_,fun i hi => ?_⟩
  ·have:=ready_none hok hLs h0 n hn2
   rw [hall n hn2] at this
   simp at this
  ·unfold Region.ready at hi
   rw [List.mem_filter] at hi
   obtain ⟨hi1,hi2⟩:=hi
   have hi1:=List.mem_range.1 hi1
   have hoi:ops[i]?=some ops[i]:=Array.getElem?_eq_getElem hi1
   rw [getD_tf hLs hi1,hoi] at hi2
   simp only [Option.map_some,Option.getD_some,Bool.and_eq_true,Bool.not_eq_true',Array.all_eq_true',Bool.or_eq_true] at hi2
   obtain ⟨hL,hr'⟩:=hi2
   have hr':∀e∈ops[i].after,Region.binds .any e=true→L.getD e.on false=true:=fun e he hb=>by
    rcases hr' e he with h | h
    ·rw [hb] at h;cases h
    ·exact h
   have hge:n≤i:=by
    rw [hall i hi1] at hL
    simpa using hL
   have hin:i=n:=by
    rcases Nat.lt_or_ge n i with h | h
    ·exfalso
     have hanc:=tailOk_at hlast (show m≤i by omega) hi1
     have hmem:=List.all_eq_true.1 hanc n (List.mem_range.2 h)
     rcases anc_listed hshut (fun o ho'=>by rw [hoi] at ho';injection ho' with e;subst e;exact hr') n (by simpa using hmem) with h' | h'
     ·omega
     ·rw [hall n hn2] at h';simp at h'
    ·omega
   subst hin
   have hdone:∀a' w',wpList P ops Q r a' w'→wpAny P .any ops Q fuel (L.setIfInBounds i true) a' w':=fun a' w' hq =>
    ih (n:=i+1) (by omega) hr2 _ (by simp [hLs]) (fun j hj=>by
     rw [getD_set_tf (by omega)]
     by_cases e:j=i
     ·rw [if_pos e];simp;omega
     ·rw [if_neg e,hall j hj];exact decide_eq_decide.2 (by omega)) fuel (by omega) a' w' hq
   unfold wpOp
   rw [ho]
   simp only []
   simp only [wpList] at hw
   split
   ·rename_i hww
    rw [if_pos hww] at hw
    exact hw.imp (Oper.wp_mono hdone) id
   ·rename_i hww
    rw [if_neg hww] at hw
    exact hdone _ _ hw
variable (hok:regOk ops a0.tmps.size=true) (hmono:∀i v w w',Below w.heap.size w w'→Φ i v w→Φ i v w') {front rest:List Oper} (hfr:ops.toList=front++rest) (heach:Each P ops Φ a0 w0 0 front)
include hok hmono hfr heach
theorem reg_anyT (hlast:tailOk ops front.length=true)
    (hfin:∀f w',Below w0.heap.size w0 w'→HoldFrom Φ f w' 0 front→wpList P ops Q rest (putFrom f 0 front a0) w') :
    ∀(fuel:Nat) (L:Array Bool) (f:Nat→Value) (a:Act) (w:World),L.size=ops.size→(∀j,front.length≤j→L.getD j false=false)→((List.range ops.size).filter fun j => !L.getD j false).length≤fuel→RegInv ops Φ a0 w0 L f a w→wpAny P .any ops Q fuel L a w:=by
  have hlen:ops.size=front.length+rest.length:=by
    have:=congrArg List.length hfr
    simpa using this
  have hend:∀(L:Array Bool) (f:Nat→Value) (a:Act) (w:World),RegInv ops Φ a0 w0 L f a w→(∀j,j<ops.size→L.getD j false=decide (j<front.length))→wpList P ops Q rest a w:=by
    intro L f a w hI hall
    rw [reg_front hok hfr hI hall]
    exact hfin f w hI.below (hold_of f w _ 0 fun j hj=>by rw [Nat.zero_add];exact hI.hold j (by rw [hall j (by omega)];simpa using hj))
  have hnorm:∀(L:Array Bool) (f:Nat→Value) (a:Act) (w:World),L.size=ops.size→(∀j,front.length≤j→L.getD j false=false)→RegInv ops Φ a0 w0 L f a w→Region.ready .any ops L=[]→Q .normal a w:=by
    intro L f a w hLs hback hI h0
    have hall:=ready_none hok hLs h0
    have hle:rest.length=0:=by
      rcases Nat.eq_zero_or_pos rest.length with h | h
      · exact h
      · have:=hall front.length (by omega)
        rw [hback _ (Nat.le_refl _)] at this
        cases this
    have hrest:rest=[]:=List.eq_nil_of_length_eq_zero hle
    subst hrest
    have:=hend L f a w hI (fun j hj=>by rw [hall j hj];simp;omega)
    simpa [wpList] using this
  intro fuel
  induction fuel with
  | zero =>
    intro L f a w hLs hback hcnt hI
    have hall:∀j,j<ops.size→L.getD j false=true:=by
      intro j hj
      cases hL:L.getD j false with
      | true=>rfl
      | false =>
        exfalso
        have:j∈(List.range ops.size).filter fun j => !L.getD j false:=List.mem_filter.2 ⟨List.mem_range.2 hj,by simp [hL]⟩
        have:=List.length_pos_of_mem this
        omega
    exact ⟨ready_all hLs hall,hnorm L f a w hLs hback hI (ready_all hLs hall)⟩
  | succ fuel ih =>
    intro L f a w hLs hback hcnt hI
    refine ⟨fun h0=>hnorm L f a w hLs hback hI h0,fun i hi => ?_⟩
    unfold Region.ready at hi
    rw [List.mem_filter] at hi
    obtain ⟨hi1,hi2⟩:=hi
    have hi1:=List.mem_range.1 hi1
    have ho:ops[i]?=some ops[i]:=Array.getElem?_eq_getElem hi1
    rw [getD_tf hLs hi1,ho] at hi2
    simp only [Option.map_some,Option.getD_some,Bool.and_eq_true,Bool.not_eq_true',Array.all_eq_true',Bool.or_eq_true] at hi2
    obtain ⟨hL,hr⟩:=hi2
    have hr':∀e∈ops[i].after,Region.binds .any e=true→L.getD e.on false=true:=fun e he hb=>by
      rcases hr e he with h | h
      · rw [hb] at h;cases h
      · exact h
    unfold wpOp
    rw [ho]
    simp only []
    by_cases hif:i<front.length
    · have hstep := reg_step (Q := Q) hok hmono hfr heach hLs hI hif ho hL hr' (K := wpAny P .any ops Q fuel (L.setIfInBounds i true)) (fun f' a' w' hI' => ih _ f' a' w' (by simp [hLs]) (fun j hj => by
          rw [getD_set_tf (by omega),if_neg (by omega)];exact hback j hj) ?_ hI')
      · split
        · rename_i hw;rw [if_pos hw] at hstep;exact .inl hstep
        · rename_i hw;rw [if_neg hw] at hstep;exact hstep
      · have hlt:((List.range ops.size).filter fun j => !(L.setIfInBounds i true).getD j false).length<((List.range ops.size).filter fun j => !L.getD j false).length:=by
          have e1:((List.range ops.size).filter fun j => !(L.setIfInBounds i true).getD j false)=((List.range ops.size).filter fun j => !L.getD j false).filter (fun j=>decide (j≠i)):=by
            rw [List.filter_filter]
            refine List.filter_congr fun j _ => ?_
            rw [getD_set_tf (by omega)]
            by_cases e:j=i
            · simp [e]
            · simp [e]
          rw [e1]
          refine List.length_filter_lt_length_iff_exists.2 ⟨i,List.mem_filter.2 ⟨List.mem_range.2 hi1,by simp [hL]⟩,by simp⟩
        omega
    ·
      have hin:i=front.length:=by
        rcases Nat.lt_or_ge front.length i with h | h
        · exfalso
          have hanc:=tailOk_at hlast (show front.length≤i by omega) hi1
          have hmem:=List.all_eq_true.1 hanc front.length (List.mem_range.2 h)
          rcases anc_listed hI.shut (fun o ho'=>by rw [ho] at ho';injection ho' with e;subst e;exact hr') front.length (by simpa using hmem) with h' | h'
          · omega
          · rw [hback _ (Nat.le_refl _)] at h';cases h'
        · omega
      subst hin
      have hanc:=tailOk_at hlast (Nat.le_refl _) hi1
      have hall:∀j,j<ops.size→L.getD j false=decide (j<front.length):=by
        intro j hj
        by_cases hjf:j<front.length
        · have hmem:=List.all_eq_true.1 hanc j (List.mem_range.2 hjf)
          rcases anc_listed hI.shut (fun o ho'=>by rw [ho] at ho';injection ho' with e;subst e;exact hr') j (by simpa using hmem) with h | h
          · omega
          · rw [h];simp [hjf]
        · rw [hback j (by omega)];simp [hjf]
      have hw:=hend L f a w hI hall
      have hseq:=seq_any hok hlast (n:=front.length) (Nat.le_refl _) rest (by rw [hfr,List.drop_left]) L hLs hall (fuel+1) (by
        have e:((List.range ops.size).filter fun j => !L.getD j false).length=ops.size - front.length:=by
          have h1:((List.range ops.size).filter fun j => !L.getD j false)=(List.range ops.size).filter fun j=>decide (front.length≤j):=List.filter_congr fun j hj=>by
            rw [hall j (List.mem_range.1 hj)]
            by_cases h:j<front.length <;> simp [h] <;> omega
          rw [h1]
          exact range_ge _ _
        omega) a w hw
      have:=hseq.2 front.length (by
        unfold Region.ready
        rw [List.mem_filter]
        refine ⟨List.mem_range.2 hi1,?_⟩
        rw [getD_tf hLs hi1,ho,hL]
        simp only [Bool.not_false,Option.map_some,Option.getD_some,Bool.true_and,Array.all_eq_true',Bool.or_eq_true,Bool.not_eq_true']
        exact hr)
      unfold wpOp at this
      rw [ho] at this
      exact this
theorem region_eachT {id:Nat} (hm:P.follows .mixedOrders=true) (hlast:tailOk ops front.length=true)
  (hfin:∀f w',Below w0.heap.size w0 w'→HoldFrom Φ f w' 0 front→wpList P ops Q rest (putFrom f 0 front a0) w'):(Code.region id ops true).wp P Q a0 w0:=by
 have hf0:∀j,(Array.replicate ops.size false).getD j false=false:=fun j=>by simp [Array.getD]
 refine wp_region_any hm (reg_anyT hok hmono hfr heach hlast hfin ops.size _ (fun _=>undef) a0 _ (by simp) (fun j _=>hf0 j) ?_ ⟨?_,?_,?_,?_⟩)
 ·exact Nat.le_trans (List.length_filter_le _ _) (by simp)
 ·refine ⟨rfl,rfl,fun s hs => ?_⟩
  cases ownerOf ops s with
  | none=>rfl
  | some j=>simp [hf0 j]
 ·exact ⟨rfl,rfl,rfl,Nat.le_refl _,fun _ _=>rfl⟩
 ·intro j hj
  rw [hf0 j] at hj;cases hj
 ·intro j o ho hj
  rw [hf0 j] at hj;cases hj
end
theorem region_tail {P:Program} {ops:Array Oper} {a0:Act} {w0:World} {Q:Exit→Act→World→Prop} {id:Nat} (k:Nat) (Φ:Nat→Value→World→Prop) (hm:P.follows .mixedOrders=true) (hok:regOk ops a0.tmps.size=true) (hlast:tailOk ops (ops.toList.take k).length=true)
  (hmono:∀i v w w',Below w.heap.size w w'→Φ i v w→Φ i v w') (heach:Each P ops Φ a0 w0 0 (ops.toList.take k))
  (hfin:∀f w',Below w0.heap.size w0 w'→HoldFrom Φ f w' 0 (ops.toList.take k)→wpList P ops Q (ops.toList.drop k) (putFrom f 0 (ops.toList.take k) a0) w'):(Code.region id ops true).wp P Q a0 w0:=
 region_eachT hok hmono (List.take_append_drop k _).symm heach hm hlast hfin
end Go.Proofs.YtigmpifjcijdbaaGreatDoor
end
