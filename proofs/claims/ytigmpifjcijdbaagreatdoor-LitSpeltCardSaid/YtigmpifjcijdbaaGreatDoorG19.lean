/- Layer 5, the program: the number of digits; powers of ten. -/
import Derived.Test.YtigmpifjcijdbaaGreatDoorG13
import Derived.Test.YtigmpifjcijdbaaGreatDoorG18
section
namespace Go.Proofs.YtigmpifjcijdbaaGreatDoor
set_option linter.unusedVariables false
set_option linter.unusedSimpArgs false
open Go.RowKit Verge
section
variable {n m:Nat} {v u:Value} {w:World}
theorem ncmp_is (hv:IsT n v w) (hu:IsT m u w) (h:blen n≤500000) (h':blen m≤500000):Calls Tryz.prog 107 #[v,u] w (Ans w (IsV (.int .i64 (cmp n m)))):=by
 obtain ⟨A,rfl,hR⟩:=hv
 obtain ⟨B,rfl,hS⟩:=hu
 have hl:=len_of_blen h
 have hl':=len_of_blen h'
 have:=cmp_any A _ (dig n).length (dig n) B _ (dig m).length (dig m) w hR rfl (by omega) hS rfl (by omega)
 rw [val_dig,val_dig] at this
 exact ans_drew this
theorem nadd_is (hv:IsT n v w) (hu:IsT m u w) (h:blen (n+m)≤500000):Calls Tryz.prog 77 #[v,u] w (Ans w (Is2 (IsT (n+m)) (IsV (.int .i64 0)))):=by
 obtain ⟨A,rfl,hR⟩:=hv
 obtain ⟨B,rfl,hS⟩:=hu
 have hl:=len_of_blen h
 have h1:=dig_length_mono (show n≤n+m by omega)
 have h2:=dig_length_mono (show m≤n+m by omega)
 have e:nadd n m=(dig (n+m),0):=by
  rw [nadd_fit,fit_no ((long_false _).2 (by omega))]
  rw [(long_false _).2 (by omega),(long_false _).2 (by omega)];rfl
 have:=add_any A _ (dig n).length (dig n) B _ (dig m).length (dig m) w hR rfl (Nat.le_refl _) (by omega) hS rfl (Nat.le_refl _) (by omega)
 rw [val_dig,val_dig,e] at this
 exact this.mono fun en w' ⟨g,A1,hg,he,hO,hb⟩=>⟨_,he,⟨_,_,rfl,⟨A1,rfl,hO.rd⟩,rfl⟩,hb⟩
end
theorem numB_app (b:Nat) (l:List UInt8):∀k:List UInt8,numB b (l++k)=numB b l*b^k.length+numB b k:=by
 have key:∀(n:Nat) (k:List UInt8),k.length=n→numB b (l++k)=numB b l*b^k.length+numB b k:=by
  intro n
  induction n with
  | zero =>
   intro k hk
   obtain rfl:k=[]:=List.eq_nil_of_length_eq_zero hk
   simp [numB]
  | succ n ih =>
   intro k hk
   have hne:k≠[]:=by rintro rfl;simp at hk
   obtain ⟨q,c,rfl⟩:∃q c,k=q++[c]:=⟨k.dropLast,k.getLast hne,(List.dropLast_concat_getLast hne).symm⟩
   have hq:q.length=n:=by simpa using hk
   rw [←List.append_assoc,numB_snoc,ih q hq,numB_snoc,List.length_append,Nat.add_mul]
   show _=numB b l*b^(q.length+1)+_
   rw [Nat.pow_succ,Nat.mul_assoc,Nat.add_assoc]
 exact fun k=>key _ k rfl
theorem numB_ltR {B:Nat}:∀{l:List UInt8},(∀c∈l,dvl c<B)→numB B l<B^l.length:=by
 intro l
 have key:∀(n:Nat) (k:List UInt8),k.length=n→(∀c∈k,dvl c<B)→numB B k<B^k.length:=by
  intro n
  induction n with
  | zero =>
   intro k hk _
   obtain rfl:k=[]:=List.eq_nil_of_length_eq_zero hk
   simp [numB]
  | succ n ih =>
   intro k hk h
   have hne:k≠[]:=by rintro rfl;simp at hk
   obtain ⟨q,c,rfl⟩:∃q c,k=q++[c]:=⟨k.dropLast,k.getLast hne,(List.dropLast_concat_getLast hne).symm⟩
   have hq:q.length=n:=by simpa using hk
   have h1:=ih q hq fun c hc=>h c (List.mem_append_left _ hc)
   have h2:=h c (by simp)
   rw [numB_snoc,List.length_append]
   show _<B^(q.length+1)
   rw [Nat.pow_succ]
   have:=Nat.mul_le_mul_right B (show numB B q+1≤B^q.length from h1)
   rw [Nat.add_mul] at this
   omega
 exact key _ l rfl
def slen:Value→Nat | .string x=>x.size | _=>0
theorem blenB {B:Nat} (hB:B≤16) {l:List UInt8} (h:∀c∈l,dvl c<B) (hl:l.length≤5000):blen (numB B l)≤20000:=by
 obtain ⟨K,hK⟩:∃K,K=20000:=⟨_,rfl⟩
 rw [←hK]
 refine (blen_lt _ _).2 (Nat.lt_of_lt_of_le (numB_ltR h) (Nat.le_trans (Nat.pow_le_pow_left hB _) ?_))
 rw [show (16:Nat)=2^4 from rfl,←Nat.pow_mul]
 exact Nat.pow_le_pow_right (by omega) (by omega)
theorem pow7 {B i:Nat} (hB:B≤16) (hB1:1≤B) (hi:i<7):B^i*B≤268435456:=by
 rw [←Nat.pow_succ]
 refine Nat.le_trans (Nat.pow_le_pow_right hB1 (show i+1≤7 by omega)) (Nat.le_trans (Nat.pow_le_pow_left hB 7) (by decide))
theorem isEmpty_true {a:List UInt8} (h:a=[]):(bs a).toList.isEmpty=true:=by rw [empty_bs,h];rfl
set_option maxHeartbeats 2000000 in
theorem natural_any (s:List UInt8) (B:Nat) (hB:B=10∨B=16) (hs:∀c∈s,vl c=dvl c∧dvl c<B) (hl:s.length≤5000) (w:World) :
  Calls Tryz.prog 143 #[.string (bs s),.int .u32 (B:Int)] w (Ans w (IsT (numB B s))):=by
 have HV:=Lib.hid (fun c W=>value_any c W)
 have HSm:=Lib.hid (fun W n h=>nsmall_is (w:=W) n h)
 have HMu:=Lib.hid (fun W n m v u (hv:IsT n v W) (hu:IsT m u W) h h'=>nmul_is hv hu h h')
 have HAd:=Lib.hid (fun W n m v u (hv:IsT n v W) (hu:IsT m u W) h=>nadd_is hv hu h)
 have HS:=Lib.hid (And.intro hs hl)
 have hB16:B≤16:=by omega
 clear hs hl
 go_enter Tryz.func143,Tryz.ntmps143
 go_wp2
 go_loopw [0,5] (fun sv lv wr=>∃(P t:List UInt8) (V:Value),sv=.string (bs t)∧lv=V∧Hid (s=P++t∧IsT (numB B P) V wr∧Below w.heap.size w wr)) (fun sv _ _=>slen sv)
 case atStart=>exact ⟨[],s,_,rfl,rfl,rfl,⟨none,by rw [show numB B []=0 from rfl,dig_zero];rfl,by rw [show numB B []=0 from rfl,dig_zero];exact Rd.nil⟩,Below.refl _ _⟩
 case round =>
  obtain ⟨P,t,V,rfl,rfl,hI⟩:=hrel
  by_cases ht:t=[]
  ·have hem:=isEmpty_true ht
   have HT:=Lib.hid ht
   clear ht
   generalize bs t=X at *
   go_wp2
   go_ret
   have h1:=hI.out.1
   rw [HT.out,List.append_nil] at h1
   rw [h1]
   exact ⟨_,rfl,hI.out.2.1,hI.out.2.2⟩
  ·have hem:=bs_ne ht
   obtain ⟨X,hX⟩:∃X,bs t=X:=⟨_,rfl⟩
   have hsz:X.size=t.length:=by rw [←hX];exact bs_size _
   have HXA:=Lib.hid (fun i c h=>(hX▸bs_at t i c h:∀hi:i<X.size,X[i]'hi=c))
   have HX:=Lib.hid hX
   rw [hX] at hem ⊢
   obtain ⟨L,hL⟩:∃L,t.length=L:=⟨_,rfl⟩
   rw [hL] at hsz
   have hL0:1≤L:=by
    rw [←hL];exact List.length_pos_iff.2 ht
   have hL1:L≤5000:=by
    have h1:=HS.out.2
    rw [hI.out.1,List.length_append] at h1
    omega
   have HL:=Lib.hid hL
   clear hX hL ht
   obtain ⟨wo,rfl⟩:∃wo:World,wo=wr:=⟨_,rfl⟩
   go_upto_region 3 with fail
   go_cut [6] from 12 to 14 (fun s wx=>∃k:Nat,s=.int .i64 (k:Int)∧1≤k∧k≤7∧k≤L∧wx=wo)
   case first =>
    go_wp2
    all_goals go_meet
    ·exact ⟨7,rfl,by omega,by omega,by omega,rfl⟩
    ·exact ⟨L,rfl,by omega,by omega,by omega,rfl⟩
   case rest =>
    obtain ⟨k,rfl,hk1,hk7,hkL,rfl⟩:=hcut
    go_wp2
    go_loopw [7,8,16] (fun tv qv iv wx=>∃i T Q:Nat,i≤k∧iv=.int .i64 (i:Int)∧tv=.int .u64 (T:Int)∧qv=.int .u64 (Q:Int)∧T≤268435456∧Q<T∧wx=wc∧Hid (T=B^i∧Q=numB B (t.take i))) (fun _ _ iv _=>k - (intOf iv).toNat)
    case atStart=>exact ⟨0,1,0,by omega,rfl,rfl,rfl,by omega,by omega,rfl,rfl,by simp [numB]⟩
    case round =>
     obtain ⟨i,T,Q,hi,rfl,rfl,rfl,hT,hQ,rfl,hJ⟩:=hrel
     by_cases hlt:i<k
     ·have hltI:(i:Int)<(k:Int):=by omega
      obtain ⟨c,hc⟩:∃c,t[i]?=some c:=⟨_,List.getElem?_eq_getElem (by rw [HL.out];omega)⟩
      have hcS:=HXA.out i c hc
      have hv:=HS.out.1 c (by rw [hI.out.1];exact List.mem_append_right _ (List.mem_of_getElem? hc))
      have hN:=numB_take hc B
      have hTB:T*B≤268435456:=by rw [hJ.out.1];exact pow7 hB16 (by omega) (by omega)
      have hvB:vl c<B:=by rw [hv.1];exact hv.2
      have hQB:Q*B+vl c<T*B:=by
       have:=Nat.mul_le_mul_right B (show Q+1≤T from hQ)
       rw [Nat.add_mul] at this
       omega
      have HCC:=Lib.hid (And.intro hc (And.intro hv.1 hN))
      clear hc hv hN
      have hw1:IntKind.u64.wrap ((T:Int)*(B:Int))=((T*B:Nat):Int):=by
       rw [←Int.natCast_mul,IntKind.wrap_u64];omega
      have hw2:IntKind.u64.wrap ((Q:Int)*(B:Int))=((Q*B:Nat):Int):=by
       rw [←Int.natCast_mul,IntKind.wrap_u64];omega
      have hw3:IntKind.u64.wrap (((Q*B:Nat):Int)+((vl c:Nat):Int))=((Q*B+vl c:Nat):Int):=by
       rw [←Int.natCast_add,IntKind.wrap_u64];omega
      generalize hTB0:T*B=TB at *
      generalize hQB0:Q*B=QB at *
      have H0:=Lib.hid (And.intro hTB0 hQB0)
      clear hTB0 hQB0
      go_wp2_with (go_at_call 155;refine (HV.out _ _).mono ?_;rintro e w1 ⟨rfl,rfl⟩)
      go_roundw
      case rel =>
       obtain ⟨e1,e2⟩:=H0.out
       refine ⟨i+1,TB,QB+vl c,by omega,by go_num,rfl,by go_num,hTB,hQB,trivial,?_,?_⟩
       ·rw [←e1,Nat.pow_succ,hJ.out.1]
       ·rw [←e2,HCC.out.2.2,hJ.out.2,HCC.out.2.1]
      case measure=>simp [intOf];omega
     ·obtain rfl:i=k:=by omega
      have hT64:T<18446744073709551616:=by omega
      have hQ64:Q<18446744073709551616:=by omega
      have hPs:∀c∈P,dvl c<B:=fun c hc=>(HS.out.1 c (by rw [hI.out.1];exact List.mem_append_left _ hc)).2
      have hts:∀c∈t,dvl c<B:=fun c hc=>(HS.out.1 c (by rw [hI.out.1];exact List.mem_append_right _ hc)).2
      have hlen:(P++t).length≤5000:=by rw [←hI.out.1];exact HS.out.2
      have hbP:blen (numB B P)≤100000:=Nat.le_trans (blenB hB16 hPs (by rw [List.length_append] at hlen;omega)) (by omega)
      have hbT:blen T≤100000:=Nat.le_trans ((blen_lt T 64).2 hT64) (by omega)
      have hsum:numB B P*T+Q=numB B (P++t.take i):=by
       rw [numB_app,List.length_take,Nat.min_eq_left (by rw [HL.out];omega),←hJ.out.1,←hJ.out.2]
      have hbS:blen (numB B P*T+Q)≤500000:=by
       rw [hsum]
       refine Nat.le_trans (blenB hB16 (fun c hc => ?_) ?_) (by omega)
       ·rcases List.mem_append.1 hc with hc | hc
        ·exact hPs c hc
        ·exact hts c (List.mem_of_mem_take hc)
       ·rw [List.length_append,List.length_take]
        rw [List.length_append] at hlen
        omega
      have HB:=Lib.hid (And.intro hbP (And.intro hbT (And.intro hsum hbS)))
      have tk1:True:=trivial
      have tk2:True:=trivial
      clear hbP hbT hsum hbS hPs hts hlen
      go_wp2_with (first
       | (go_at_call 99;have tk:=tk1;clear tk1 tk;refine (HSm.out _ T hT64).mono ?_;rintro e wa ⟨a,rfl,ha⟩;have HA:=Lib.hid ha;clear ha)
       | (go_at_call 80;refine (HMu.out _ _ _ _ _ (IsT.mono _ _ _ _ HA.out.2 hI.out.2.1) HA.out.1 HB.out.1 HB.out.2.1).mono ?_;rintro e wb ⟨m0,rfl,⟨m1,m2,rfl,hm1,rfl⟩,hmb⟩;have HM:=Lib.hid (And.intro hm1 hmb);clear hm1 hmb)
       | (go_at_call 99;have tk:=tk2;clear tk2 tk;refine (HSm.out _ Q hQ64).mono ?_;rintro e wd ⟨d,rfl,hd⟩;have HD:=Lib.hid hd;clear hd)
       | (go_at_call 77;refine (HAd.out _ _ _ _ _ (IsT.mono _ _ _ _ HD.out.2 HM.out.1) HD.out.1 HB.out.2.2.2).mono ?_;rintro e we ⟨m3,rfl,⟨m4,m5,rfl,hm1,rfl⟩,hmb⟩;have HE:=Lib.hid (And.intro hm1 hmb);clear hm1 hmb))
      have hex:X.extract i L=bs (t.drop i):=by
       rw [←HX.out,bs_sub,List.take_of_length_le (by rw [List.length_drop,HL.out];omega)]
      go_roundw
      case rel =>
       refine ⟨P++t.take i,t.drop i,m4,by rw [hex],rfl,?_,?_,?_⟩
       ·rw [List.append_assoc,List.take_append_drop];exact hI.out.1
       ·rw [←HB.out.2.2.1];exact HE.out.1
       ·exact raft (raft (raft (raft hI.out.2.2 HA.out.2) HM.out.2) HD.out.2) HE.out.2
      case measure =>
       rw [hex]
       show (bs (t.drop i)).size<X.size
       rw [bs_size,List.length_drop,HL.out,hsz]
       omega
theorem ten_any (n:Nat) (hn:n≤20000) (w:World):Calls Tryz.prog 104 #[.int .i64 (n:Int)] w (Ans w (IsT (10^n))):=by
 have hd:dig 10=[10]:=by rw [dig_pos (by omega)];simp [dig_zero]
 have hb:=(Blk.new w #[.int .u32 10] [10] (by intro x hx;simp at hx;omega) rfl).rd
 have hT:IsT 10 (.slice (some ⟨w.heap.size,0,none⟩) 1 1) (w.alloc (.cells #[.int .u32 10] 52)):=⟨_,by rw [hd];rfl,by rw [hd];exact hb⟩
 have hbl:blen (10^n)≤100000:=by
  obtain ⟨K,hK⟩:∃K,K=100000:=⟨_,rfl⟩
  rw [←hK]
  refine (blen_lt _ _).2 (Nat.lt_of_le_of_lt (Nat.pow_le_pow_left (show 10≤2^4 by decide) n) ?_)
  rw [←Nat.pow_mul]
  exact Nat.pow_lt_pow_right (by omega) (by omega)
 have HP:=Lib.hid (npow_is n hT ((blen_lt 10 100).2 (by decide)) hbl (by omega))
 have HW:=Lib.hid (rnew w (.cells #[.int .u32 10] 52))
 clear hd hb hT hbl
 go_enter Tryz.func104,Tryz.ntmps104
 go_wp2_with (go_at_call 79;refine HP.out.mono ?_;rintro e wb ⟨m0,rfl,⟨m1,m2,rfl,hm1,rfl⟩,hmb⟩;have HM:=Lib.hid (And.intro hm1 hmb);clear hm1 hmb)
 go_ret
 exact ⟨_,rfl,HM.out.1,raft HW.out HM.out.2⟩
end Go.Proofs.YtigmpifjcijdbaaGreatDoor
end

section
namespace Go.Proofs.YtigmpifjcijdbaaGreatDoor
set_option linter.unusedVariables false
set_option linter.unusedSimpArgs false
open Go.RowKit Verge
abbrev nmO (n:Bool) (V D:Value) (k:Int):Obj:=.cells #[.bool n,V,D,.int .i64 k] 142
structure St (w0:World) (b:Nat) (l:List UInt8) (P Q:Nat) (r:List UInt8) (n:Bool) (N:Nat) (V:Value) (M:Nat) (D:Value) (k x y:Int) (w:World):Prop where
 rdr:Rdr w b l r
 grow:w0.grownBy w (some b)
 num:w.heap[P]?=some (nmO n V D k)
 late:w.heap[Q]?=some (fO (.int .i64 x) (.int .i64 y))
 isV:IsT N V w
 isD:IsT M D w
 bl:b<w0.heap.size
 pl:w0.heap.size+1≤P
 ql:w0.heap.size+1≤Q
 ne:P≠Q
 res:w.heap[w0.heap.size]?=some (nmO false (.slice none 0 0) (.slice none 0 0) 0)
variable {w0 w w':World} {b:Nat} {l r s:List UInt8} {P Q:Nat} {n:Bool} {N M:Nat} {V D:Value} {k x y:Int}
theorem Rdr.no (h:Rdr w b l r):∀i z,w.cell? ⟨b,i,none⟩≠some (.int .u32 z):=by
 intro i z e
 have h:=h.2.2
 simp only [World.cell?,h] at e
 rcases i with _ | _ | i <;> simp at e
theorem Rd.step {A:Option Addr} {xs:List Nat} (h:Rd w A xs) (bad:Nat→Prop) (hn:∀g,bad g→∀i z,w.cell? ⟨g,i,none⟩≠some (.int .u32 z)) (hk:∀g,g<w.heap.size→¬bad g→w'.heap[g]?=w.heap[g]?):Rd w' A xs:=by
 refine ⟨h.1,fun hne => ?_⟩
 obtain ⟨g,o,rfl,hc⟩:=h.2 hne
 refine ⟨g,o,rfl,fun j z hz => ?_⟩
 have hcz:=hc j z hz
 have hb:¬bad g:=fun hb=>hn g hb _ _ hcz
 have hlt:g<w.heap.size:=World.block_lt_of_cell? w _ hcz
 rw [World.cell?_of_block (w:=w) (w':=w') (a:=⟨g,o+j,none⟩) (hk g hlt hb)]
 exact hcz
theorem IsT.step {v:Value} (h:IsT N v w) (bad:Nat→Prop) (hn:∀g,bad g→∀i z,w.cell? ⟨g,i,none⟩≠some (.int .u32 z)) (hk:∀g,g<w.heap.size→¬bad g→w'.heap[g]?=w.heap[g]?):IsT N v w':=by
 obtain ⟨A,e,hR⟩:=h
 exact ⟨A,e,hR.step bad hn hk⟩
theorem IsT.not {v:Value} (h:IsT N v w):∀z,v ≠ .int .u32 z:=by
 obtain ⟨A,rfl,_⟩:=h
 intro z e;cases e
theorem St.no (h:St w0 b l P Q r n N V M D k x y w):∀g,(g=b∨g=P∨g=Q)→∀i z,w.cell? ⟨g,i,none⟩≠some (.int .u32 z):=by
 rintro g (rfl | rfl | rfl) i z e
 ·exact h.rdr.no i z e
 ·have h1:=h.num
  simp only [World.cell?,h1] at e
  rcases i with _ | _ | _ | _ | i
  ·simp at e
  ·simp at e;exact h.isV.not _ e
  ·simp at e;exact h.isD.not _ e
  ·simp at e
  ·simp at e
 ·have h1:=h.late
  simp only [World.cell?,h1] at e
  rcases i with _ | _ | i <;> simp at e
theorem St.bne (h:St w0 b l P Q r n N V M D k x y w):b≠P∧b≠Q:=⟨by have:=h.bl;have:=h.pl;omega,by have:=h.bl;have:=h.ql;omega⟩
theorem St.plt (h:St w0 b l P Q r n N V M D k x y w):P<w.heap.size∧Q<w.heap.size:=⟨(Array.getElem?_eq_some_iff.1 h.num).1,(Array.getElem?_eq_some_iff.1 h.late).1⟩
theorem St.go (h:St w0 b l P Q r n N V M D k x y w) (hr:Rdr w' b l s) (hg:w.grownBy w' (some b)):St w0 b l P Q s n N V M D k x y w':=by
 have hk:∀g,g<w.heap.size→¬(g=b∨g=P∨g=Q)→w'.heap[g]?=w.heap[g]?:=fun g hg' hne=>hg.block g hg' (by intro e;injection e with e;exact hne (.inl e))
 exact ⟨hr,grownBy_trans h.grow hg,(hg.block P h.plt.1 (by intro e;injection e with e;exact h.bne.1 e.symm)).trans h.num,(hg.block Q h.plt.2 (by intro e;injection e with e;exact h.bne.2 e.symm)).trans h.late,
  h.isV.step _ h.no hk,h.isD.step _ h.no hk,h.bl,h.pl,h.ql,h.ne,(hg.block _ (Array.getElem?_eq_some_iff.1 h.res).1 (by intro e;injection e with e;have:=h.bl;omega)).trans h.res⟩
theorem St.below (h:St w0 b l P Q r n N V M D k x y w) (hb:Below w.heap.size w w'):St w0 b l P Q r n N V M D k x y w':=h.go (h.rdr.later hb) (grownBy_below hb)
theorem St.drewN (h:St w0 b l P Q r n N V M D k x y w) (j:Nat):St w0 b l P Q r n N V M D k x y (w.drewN j):=⟨h.rdr,grownBy_drewN h.grow j,h.num,h.late,h.isV,h.isD,h.bl,h.pl,h.ql,h.ne,h.res⟩
theorem St.drew (h:St w0 b l P Q r n N V M D k x y w):St w0 b l P Q r n N V M D k x y w.drew:=h.drewN 1
theorem set_other (w:World) (p i g:Nat) (v:Value) (h:g≠p):(w.setCell ⟨p,i,none⟩ v).heap[g]?=w.heap[g]?:=setb' w p i v g h
theorem St.put (h:St w0 b l P Q r n N V M D k x y w) {i:Nat} {u:Value} {n':Bool} {N' M':Nat} {V' D':Value} {k':Int} (he:(#[.bool n,V,D,.int .i64 k]:Array Value).setIfInBounds i u=#[.bool n',V',D',.int .i64 k'])
  (hv:IsT N' V' w) (hd:IsT M' D' w):St w0 b l P Q r n' N' V' M' D' k' x y (w.setCell ⟨P,i,none⟩ u):=by
 have hk:∀g,g<w.heap.size→¬(g=b∨g=P∨g=Q)→(w.setCell ⟨P,i,none⟩ u).heap[g]?=w.heap[g]?:=fun g _ hne=>set_other w P i g u (fun e=>hne (.inr (.inl e)))
 refine ⟨h.rdr.far h.bne.1 _ _,grown_far h.grow (Nat.le_of_succ_le h.pl) _ _,?_,(set_other w P i Q u (Ne.symm h.ne)).trans h.late,hv.step _ h.no hk,hd.step _ h.no hk,h.bl,h.pl,h.ql,h.ne,(set_other w P i _ u (by have:=h.pl;omega)).trans h.res⟩
 have h1:=h.num
 have he':=congrArg Array.toList he
 simp [World.setCell,Array.getElem?_modify,h1]
 simpa using he'
theorem St.putN (h:St w0 b l P Q r n N V M D k x y w) (m:Bool):St w0 b l P Q r m N V M D k x y (w.setCell ⟨P,0,none⟩ (.bool m)):=h.put rfl h.isV h.isD
theorem St.putV (h:St w0 b l P Q r n N V M D k x y w) {N':Nat} {V':Value} (hv:IsT N' V' w):St w0 b l P Q r n N' V' M D k x y (w.setCell ⟨P,1,none⟩ V'):=h.put rfl hv h.isD
theorem St.putD (h:St w0 b l P Q r n N V M D k x y w) {M':Nat} {D':Value} (hd:IsT M' D' w):St w0 b l P Q r n N V M' D' k x y (w.setCell ⟨P,2,none⟩ D'):=h.put rfl h.isV hd
theorem St.putK (h:St w0 b l P Q r n N V M D k x y w) (k':Int):St w0 b l P Q r n N V M D k' x y (w.setCell ⟨P,3,none⟩ (.int .i64 k')):=h.put rfl h.isV h.isD
theorem St.fault (h:St w0 b l P Q r n N V M D k x y w) (x' y':Int):St w0 b l P Q r n N V M D k x' y' ((w.setCell ⟨Q,0,none⟩ (.int .i64 x')).setCell ⟨Q,1,none⟩ (.int .i64 y')):=by
 have hk:∀g,g<w.heap.size→¬(g=b∨g=P∨g=Q)→((w.setCell ⟨Q,0,none⟩ (.int .i64 x')).setCell ⟨Q,1,none⟩ (.int .i64 y')).heap[g]?=w.heap[g]?:=fun g _ hne=>(set_other _ Q 1 g _ (fun e=>hne (.inr (.inr e)))).trans (set_other w Q 0 g _ (fun e=>hne (.inr (.inr e))))
 exact ⟨(h.rdr.far h.bne.2 _ _).far h.bne.2 _ _,grown_far (grown_far h.grow (Nat.le_of_succ_le h.ql) _ _) (Nat.le_of_succ_le h.ql) _ _,((set_other _ Q 1 P _ h.ne).trans (set_other w Q 0 P _ h.ne)).trans h.num,fO_set h.late _ _,h.isV.step _ h.no hk,h.isD.step _ h.no hk,h.bl,h.pl,h.ql,h.ne,((set_other _ Q 1 _ _ (by have:=h.ql;omega)).trans (set_other w Q 0 _ _ (by have:=h.ql;omega))).trans h.res⟩
theorem IsT.nil (w:World):IsT 0 (.slice none 0 0) w:=⟨none,by rw [dig_zero];rfl,by rw [dig_zero];exact Rd.nil⟩
theorem St.start {w:World} (h:Rdr w b l r):St w b l (w.heap.size+1) (w.heap.size+1+1) r false 0 (.slice none 0 0) 1 (.slice (some ⟨w.heap.size+1+1+1,0,none⟩) 1 1) 0 0 0 ((((w.alloc (nmO false (.slice none 0 0) (.slice none 0 0) 0)).alloc (nmO false (.slice none 0 0) (.slice (some ⟨w.heap.size+1+1+1,0,none⟩) 1 1) 0)).alloc (fO (.int .i64 0) (.int .i64 0))).alloc (.cells #[.int .u32 1] 52)):=by
 have e1:(w.alloc (nmO false (.slice none 0 0) (.slice none 0 0) 0)).heap.size=w.heap.size+1:=by show (w.heap.push _).size=_;simp
 have e2:((w.alloc (nmO false (.slice none 0 0) (.slice none 0 0) 0)).alloc (nmO false (.slice none 0 0) (.slice (some ⟨w.heap.size+1+1+1,0,none⟩) 1 1) 0)).heap.size=w.heap.size+1+1:=by show ((w.heap.push _).push _).size=_;simp
 have e3:(((w.alloc (nmO false (.slice none 0 0) (.slice none 0 0) 0)).alloc (nmO false (.slice none 0 0) (.slice (some ⟨w.heap.size+1+1+1,0,none⟩) 1 1) 0)).alloc (fO (.int .i64 0) (.int .i64 0))).heap.size=w.heap.size+1+1+1:=by show (((w.heap.push _).push _).push _).size=_;simp
 have b1:Below w.heap.size w ((((w.alloc (nmO false (.slice none 0 0) (.slice none 0 0) 0)).alloc (nmO false (.slice none 0 0) (.slice (some ⟨w.heap.size+1+1+1,0,none⟩) 1 1) 0)).alloc (fO (.int .i64 0) (.int .i64 0))).alloc (.cells #[.int .u32 1] 52)):=raft (raft (raft (rnew w _) (rnew _ _)) (rnew _ _)) (rnew _ _)
 have hx:((((w.alloc (nmO false (.slice none 0 0) (.slice none 0 0) 0)).alloc (nmO false (.slice none 0 0) (.slice (some ⟨w.heap.size+1+1+1,0,none⟩) 1 1) 0)).alloc (fO (.int .i64 0) (.int .i64 0))).alloc (.cells #[.int .u32 1] 52)).heap[w.heap.size+1]?=some (nmO false (.slice none 0 0) (.slice (some ⟨w.heap.size+1+1+1,0,none⟩) 1 1) 0):=by
  have hq0:=heap_alloc_new (w.alloc (nmO false (.slice none 0 0) (.slice none 0 0) 0)) (nmO false (.slice none 0 0) (.slice (some ⟨w.heap.size+1+1+1,0,none⟩) 1 1) 0)
  rw [e1] at hq0
  exact ((rnew _ _).block _ (by rw [e3];omega)).trans (((rnew _ _).block _ (by rw [e2];omega)).trans hq0)
 have hq:((((w.alloc (nmO false (.slice none 0 0) (.slice none 0 0) 0)).alloc (nmO false (.slice none 0 0) (.slice (some ⟨w.heap.size+1+1+1,0,none⟩) 1 1) 0)).alloc (fO (.int .i64 0) (.int .i64 0))).alloc (.cells #[.int .u32 1] 52)).heap[w.heap.size+1+1]?=some (fO (.int .i64 0) (.int .i64 0)):=by
  have hq0:=heap_alloc_new ((w.alloc (nmO false (.slice none 0 0) (.slice none 0 0) 0)).alloc (nmO false (.slice none 0 0) (.slice (some ⟨w.heap.size+1+1+1,0,none⟩) 1 1) 0)) (fO (.int .i64 0) (.int .i64 0))
  rw [e2] at hq0
  exact ((rnew _ _).block _ (by rw [e3];omega)).trans hq0
 have hT:IsT 1 (.slice (some ⟨w.heap.size+1+1+1,0,none⟩) 1 1) ((((w.alloc (nmO false (.slice none 0 0) (.slice none 0 0) 0)).alloc (nmO false (.slice none 0 0) (.slice (some ⟨w.heap.size+1+1+1,0,none⟩) 1 1) 0)).alloc (fO (.int .i64 0) (.int .i64 0))).alloc (.cells #[.int .u32 1] 52)):=by
  have hb:=(Blk.new (((w.alloc (nmO false (.slice none 0 0) (.slice none 0 0) 0)).alloc (nmO false (.slice none 0 0) (.slice (some ⟨w.heap.size+1+1+1,0,none⟩) 1 1) 0)).alloc (fO (.int .i64 0) (.int .i64 0))) #[.int .u32 1] [1] (by intro x hx;simp at hx;omega) rfl).rd
  rw [e3] at hb
  exact ⟨_,by rw [dig_1];rfl,by rw [dig_1];exact hb⟩
 have hlt:=h.lt
 have hres:=((rnew (((w.alloc (nmO false (.slice none 0 0) (.slice none 0 0) 0)).alloc (nmO false (.slice none 0 0) (.slice (some ⟨w.heap.size+1+1+1,0,none⟩) 1 1) 0)).alloc (fO (.int .i64 0) (.int .i64 0))) (.cells #[.int .u32 1] 52)).block w.heap.size (by rw [e3];omega)).trans (((rnew _ _).block _ (by rw [e2];omega)).trans (((rnew _ _).block _ (by rw [e1];omega)).trans (heap_alloc_new w (nmO false (.slice none 0 0) (.slice none 0 0) 0))))
 exact ⟨h.later b1,grownBy_below b1,hx,hq,IsT.nil _,hT,hlt,by omega,by omega,by omega,hres⟩
theorem St.cells (h:St w0 b l P Q r n N V M D k x y w):(w.cell? ⟨P,0,none⟩=some (.bool n)∧w.cell? ⟨P,1,none⟩=some V∧w.cell? ⟨P,2,none⟩=some D∧w.cell? ⟨P,3,none⟩=some (.int .i64 k)) ∧
  (w.frozen? ⟨P,0,none⟩=false∧w.frozen? ⟨P,1,none⟩=false∧w.frozen? ⟨P,2,none⟩=false∧w.frozen? ⟨P,3,none⟩=false) ∧
  w.cell? ⟨Q,0,none⟩=some (.int .i64 x)∧w.cell? ⟨Q,1,none⟩=some (.int .i64 y)∧w.frozen? ⟨Q,0,none⟩=false∧w.frozen? ⟨Q,1,none⟩=false:=by
 have h1:=h.num
 have h2:=h.late
 refine ⟨⟨?_,?_,?_,?_⟩,⟨?_,?_,?_,?_⟩,?_,?_,?_,?_⟩ <;> simp [World.cell?,World.frozen?,h1,h2]
theorem St.rcells (h:St w0 b l P Q r n N V M D k x y w):(w.cell? ⟨w0.heap.size,0,none⟩=some (.bool false)∧w.cell? ⟨w0.heap.size,1,none⟩=some (.slice none 0 0)∧w.cell? ⟨w0.heap.size,2,none⟩=some (.slice none 0 0)∧w.cell? ⟨w0.heap.size,3,none⟩=some (.int .i64 0)) ∧
  (w.frozen? ⟨w0.heap.size,0,none⟩=false∧w.frozen? ⟨w0.heap.size,1,none⟩=false∧w.frozen? ⟨w0.heap.size,2,none⟩=false∧w.frozen? ⟨w0.heap.size,3,none⟩=false):=by
 have h1:=h.res
 refine ⟨⟨?_,?_,?_,?_⟩,?_,?_,?_,?_⟩ <;> simp [World.cell?,World.frozen?,h1]
def putR (w:World) (R:Nat) (n:Bool) (V D:Value) (k:Int):World:=(((w.setCell ⟨R,0,none⟩ (.bool n)).setCell ⟨R,1,none⟩ V).setCell ⟨R,2,none⟩ D).setCell ⟨R,3,none⟩ (.int .i64 k)
theorem putR_other (w:World) (R g:Nat) (n:Bool) (V D:Value) (k:Int) (h:g≠R):(putR w R n V D k).heap[g]?=w.heap[g]?:=(((set_other _ R 3 g _ h).trans (set_other _ R 2 g _ h)).trans (set_other _ R 1 g _ h)).trans (set_other _ R 0 g _ h)
theorem putR_cells {w:World} {R:Nat} {n0:Bool} {V0 D0:Value} {k0:Int} (h:w.heap[R]?=some (nmO n0 V0 D0 k0)) (n:Bool) (V D:Value) (k:Int):(putR w R n V D k).heap[R]?=some (nmO n V D k):=by
 simp [putR,World.setCell,Array.getElem?_modify,h]
theorem St.out (h:St w0 b l P Q r n N V M D k x y w):(putR w w0.heap.size n V D k).heap[w0.heap.size]?=some (nmO n V D k)∧IsT N V (putR w w0.heap.size n V D k)∧IsT M D (putR w w0.heap.size n V D k)∧w0.grownBy (putR w w0.heap.size n V D k) (some b):=by
 have hn:∀g,g=w0.heap.size→∀i z,w.cell? ⟨g,i,none⟩≠some (.int .u32 z):=by
  rintro g rfl i z e
  have h1:=h.res
  simp only [World.cell?,h1] at e
  rcases i with _ | _ | _ | _ | i <;> simp at e
 have hk:∀g,g<w.heap.size→¬g=w0.heap.size→(putR w w0.heap.size n V D k).heap[g]?=w.heap[g]?:=fun g _ hne=>putR_other w _ g n V D k hne
 refine ⟨putR_cells h.res _ _ _ _,h.isV.step _ hn hk,h.isD.step _ hn hk,?_⟩
 exact grown_far (grown_far (grown_far (grown_far h.grow (Nat.le_refl _) _ _) (Nat.le_refl _) _ _) (Nat.le_refl _) _ _) (Nat.le_refl _) _ _
theorem putR_read {w:World} {R:Nat} {n:Bool} {V D:Value} {k:Int} (h:(putR w R n V D k).heap[R]?=some (nmO n V D k)):(putR w R n V D k).cell? ⟨R,0,none⟩=some (.bool n)∧(putR w R n V D k).cell? ⟨R,1,none⟩=some V∧(putR w R n V D k).cell? ⟨R,2,none⟩=some D∧(putR w R n V D k).cell? ⟨R,3,none⟩=some (.int .i64 k):=by
 generalize putR w R n V D k=W at *
 refine ⟨?_,?_,?_,?_⟩ <;> simp [World.cell?,h]
end Go.Proofs.YtigmpifjcijdbaaGreatDoor
end
