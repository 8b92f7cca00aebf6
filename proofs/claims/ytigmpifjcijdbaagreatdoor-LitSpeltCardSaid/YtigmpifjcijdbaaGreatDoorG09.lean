/- Plain words on ratios of naturals: what vergeref2's Frac makes of two numbers and a power of 2. -/
import Derived.Test.YtigmpifjcijdbaaGreatDoorG06
import Derived.Test.YtigmpifjcijdbaaGreatDoorG08
namespace Verge
set_option linter.unusedVariables false
set_option linter.unusedSimpArgs false
def fracE (n d:Nat) (e:Int):Int:=e+ntz n - ntz d
def fracN (n d:Nat) (e:Int):Nat:=if n=0 then 0 else (n / 2^ntz n)*2^(fracE n d e).toNat
def fracD (n d:Nat) (e:Int):Nat:=if n=0 then 1 else (d / 2^ntz d)*2^(-(fracE n d e)).toNat
theorem dig_div_length (n k:Nat):(dig (n / 2^k)).length+k / 32≤(dig n).length∨n / 2^k=0:=by
 by_cases h0:n / 2^k=0
 ·exact .inr h0
 ·left
  have hp:=dig_le_pow h0
  have hl:=dig_length_pos h0
  have h1:4294967296^((dig (n / 2^k)).length - 1)*2^k≤n:=Nat.le_trans (Nat.mul_le_mul_right _ hp) (Nat.div_mul_le_self _ _)
  have h2:(4294967296:Nat)^((dig (n / 2^k)).length - 1+k / 32)≤n:=by
   refine Nat.le_trans ?_ h1
   rw [Nat.pow_add]
   refine Nat.mul_le_mul_left _ ?_
   rw [show (4294967296:Nat)=2^32 from rfl,←Nat.pow_mul]
   exact Nat.pow_le_pow_right (by omega) (by omega)
  have h3:¬(dig n).length≤(dig (n / 2^k)).length - 1+k / 32:=fun h=>by
   have:=dig_length_le.1 h
   omega
  omega
theorem ntz_words_le (n:Nat):ntz n / 32≤(dig n).length:=by
 by_cases h:n=0
 ·subst h;rw [ntz_zero];omega
 ·obtain ⟨m,hm⟩:=ntz_spec n h
  have h1:n / 2^ntz n≠0:=by
   have h2:=Nat.two_pow_pos (ntz n)
   have:n / 2^ntz n=2*m+1:=Nat.div_eq_of_eq_mul_right h2 hm
   omega
  rcases dig_div_length n (ntz n) with h2 | h2
  ·omega
  ·exact absurd h2 h1
theorem frac_val (n d:Nat) (e:Int) (hd:d≠0) (k:Nat) (hk:0≤(k:Int)+e):fracN n d e*d*2^k=n*fracD n d e*2^((k:Int)+e).toNat:=by
 unfold fracN fracD
 by_cases hn:n=0
 ·simp [hn]
 ·rw [if_neg hn,if_neg hn]
  obtain ⟨m,hm⟩:=ntz_spec n hn
  obtain ⟨l,hl⟩:=ntz_spec d hd
  have e1:n / 2^ntz n=2*m+1:=Nat.div_eq_of_eq_mul_right (Nat.two_pow_pos _) hm
  have e2:d / 2^ntz d=2*l+1:=Nat.div_eq_of_eq_mul_right (Nat.two_pow_pos _) hl
  rw [e1,e2]
  unfold fracE
  obtain ⟨a,ha⟩:∃a,ntz n=a:=⟨_,rfl⟩
  obtain ⟨b,hb⟩:∃b,ntz d=b:=⟨_,rfl⟩
  rw [ha] at hm ⊢
  rw [hb] at hl ⊢
  rw [hm,hl]
  obtain ⟨u,hu⟩:∃u,(e+a - b).toNat=u:=⟨_,rfl⟩
  obtain ⟨v,hv⟩:∃v,(-(e+a - b)).toNat=v:=⟨_,rfl⟩
  obtain ⟨t,ht⟩:∃t,((k:Int)+e).toNat=t:=⟨_,rfl⟩
  rw [hu,hv,ht]
  have hs:u+b+k=a+v+t:=by omega
  have h1:(2*m+1)*2^u*(2^b*(2*l+1))*2^k=(2*m+1)*(2*l+1)*2^(u+b+k):=by rw [Nat.pow_add,Nat.pow_add];grind
  have h2:2^a*(2*m+1)*((2*l+1)*2^v)*2^t=(2*m+1)*(2*l+1)*2^(a+v+t):=by rw [Nat.pow_add,Nat.pow_add];grind
  rw [h1,h2,hs]
theorem fracD_pos (n d:Nat) (e:Int) (hd:d≠0):0<fracD n d e:=by
 unfold fracD
 split
 ·omega
 ·obtain ⟨l,hl⟩:=ntz_spec d hd
  have e2:d / 2^ntz d=2*l+1:=Nat.div_eq_of_eq_mul_right (Nat.two_pow_pos _) hl
  rw [e2]
  exact Nat.mul_pos (by omega) (Nat.two_pow_pos _)
theorem fracN_zero (n d:Nat) (e:Int):fracN n d e=0↔n=0:=by
 unfold fracN
 split
 ·rename_i h;simp [h]
 ·rename_i h
  obtain ⟨m,hm⟩:=ntz_spec n h
  have e1:n / 2^ntz n=2*m+1:=Nat.div_eq_of_eq_mul_right (Nat.two_pow_pos _) hm
  rw [e1]
  have:=Nat.mul_pos (show 0<2*m+1 by omega) (Nat.two_pow_pos (fracE n d e).toNat)
  omega
theorem fracN_wl {n d:Nat} {e:Int} (he:0<fracE n d e):(fracE n d e).toNat / 32+(dig (n / 2^ntz n)).length+1≤e.toNat / 32+(dig n).length+3:=by
 have h1:(fracE n d e).toNat≤e.toNat+ntz n:=by unfold fracE at he ⊢;omega
 rcases dig_div_length n (ntz n) with h | h
 ·omega
 ·rw [h,dig_zero]
  have:=ntz_words_le n
  simp only [List.length_nil]
  omega
theorem fracD_wl {n d:Nat} {e:Int} (he:fracE n d e<0):(-(fracE n d e)).toNat / 32+(dig (d / 2^ntz d)).length+1≤(-e).toNat / 32+(dig d).length+3:=by
 have h1:(-(fracE n d e)).toNat≤(-e).toNat+ntz d:=by unfold fracE at he ⊢;omega
 rcases dig_div_length d (ntz d) with h | h
 ·omega
 ·rw [h,dig_zero]
  have:=ntz_words_le d
  simp only [List.length_nil]
  omega
end Verge
namespace Go.Proofs.YtigmpifjcijdbaaGreatDoor
set_option linter.unusedVariables false
set_option linter.unusedSimpArgs false
open Go.RowKit Verge
theorem rnew (W:World) (o:Obj):Below W.heap.size W (W.alloc o):=(Below.refl _ W).alloc (Nat.le_refl _) o
theorem raft {a b c:World} (h1:Below a.heap.size a b) (h2:Below b.heap.size b c):Below a.heap.size a c:=h1.trans (h2.mono h1.size)
theorem setb' (w:World) (r i:Nat) (u:Value) (b:Nat) (h:b≠r):(w.setCell ⟨r,i,none⟩ u).heap[b]?=w.heap[b]?:=Below.heap_setCell w ⟨r,i,none⟩ u b h
theorem Rd.apart {w w':World} {r:Nat} {A:Option Addr} {xs:List Nat} (h:Rd w A xs) (hr:∀i z,w.cell? ⟨r,i,none⟩≠some (.int .u32 z)) (hk:∀b,b≠r→w'.heap[b]?=w.heap[b]?):Rd w' A xs:=by
 refine ⟨h.1,fun hn => ?_⟩
 obtain ⟨b,o,rfl,hc⟩:=h.2 hn
 refine ⟨b,o,rfl,fun k x hx => ?_⟩
 have hb:b≠r:=by
  rintro rfl
  exact hr _ _ (hc k x hx)
 have e:=World.cell?_of_block (w:=w) (w':=w') (a:=⟨b,o+k,none⟩) (hk b hb)
 rw [e]
 exact hc k x hx
abbrev ratO:Obj:=.cells #[.bool false,.slice none 0 0,.slice none 0 0] 25
def Box (w:World) (r:Nat):Prop:=w.heap[r]?=some ratO
theorem Box.new (w:World):Box (w.alloc ratO) w.heap.size:=by
 show (w.heap.push _)[w.heap.size]?=_
 simp
theorem Box.lt {w:World} {r:Nat} (h:Box w r):r<w.heap.size:=by
 by_cases hr:r<w.heap.size
 ·exact hr
 ·unfold Box at h;rw [Array.getElem?_eq_none (by omega)] at h;cases h
theorem Box.later {w w':World} {r:Nat} (h:Box w r) (hb:Below w.heap.size w w'):Box w' r:=(hb.block r h.lt).trans h
theorem Box.cells {w:World} {r:Nat} (h:Box w r):w.cell? ⟨r,0,none⟩=some (.bool false)∧w.cell? ⟨r,1,none⟩=some (.slice none 0 0)∧w.cell? ⟨r,2,none⟩=some (.slice none 0 0) ∧
  w.frozen? ⟨r,0,none⟩=false∧w.frozen? ⟨r,1,none⟩=false∧w.frozen? ⟨r,2,none⟩=false:=by
 unfold Box at h
 refine ⟨?_,?_,?_,?_,?_,?_⟩ <;> simp [World.cell?,World.frozen?,h]
theorem Box.no {w:World} {r:Nat} (h:Box w r):∀i z,w.cell? ⟨r,i,none⟩≠some (.int .u32 z):=by
 intro i z e
 unfold Box at h
 simp only [World.cell?,h] at e
 rcases i with _ | _ | _ | i <;> simp at e
def put3 (w:World) (r:Nat) (a b c:Value):World:=((w.setCell ⟨r,0,none⟩ a).setCell ⟨r,1,none⟩ b).setCell ⟨r,2,none⟩ c
theorem Rd.put3 {w:World} {r:Nat} {A:Option Addr} {xs:List Nat} (h:Rd w A xs) (hB:Box w r) (a b c:Value):Rd (put3 w r a b c) A xs:=
 h.apart hB.no fun k hk=>(setb' _ r 2 c k hk).trans ((setb' _ r 1 b k hk).trans (setb' _ r 0 a k hk))
theorem put3_below {B:Nat} {w0 w:World} {r:Nat} (h:Below B w0 w) (hr:B≤r) (a b c:Value):Below B w0 (put3 w r a b c):=((h.setCell hr a).setCell hr b).setCell hr c
def RatP (w:World) (s:Bool) (N D:Nat) (e:Ending) (w':World):Prop:=
 ∃A1 c1 A2 c2,e=.returned (.agg #[.bool s,.slice A1 (dig N).length c1,.slice A2 (dig D).length c2])∧Rd w' A1 (dig N)∧Rd w' A2 (dig D)∧Below w.heap.size w w'
theorem val_dig' (n:Nat):val (dig n)=n:=val_dig n
theorem dig_one:dig 1=[1]:=by rw [dig];simp [dig_zero]
set_option maxRecDepth 20000 in
set_option maxHeartbeats 4000000 in
theorem rfrac_any (s:Bool) (A:Option Addr) (n0 c:Nat) (X:List Nat) (A':Option Addr) (m0 c':Nat) (Y:List Nat) (e:Int) (w:World) (h:Rd w A X) (hn:X.length=n0) (h':Rd w A' Y) (hn':Y.length=m0)
  (hb1:n0+e.toNat / 32+4≤35184372088800) (hb2:m0+(-e).toNat / 32+4≤35184372088800) :
  Calls Tryz.prog 17 #[.bool s,.slice A n0 c,.slice A' m0 c',.int .i64 e] w (RatP w (s&&decide (val X≠0)) (fracN (val X) (val Y) e) (fracD (val X) (val Y) e)):=by
 have hx1:(dig (val X)).length≤n0:=by rw [←wl_eq h.1,←hn];exact wl_le X
 have hy1:(dig (val Y)).length≤m0:=by rw [←wl_eq h'.1,←hn'];exact wl_le Y
 have H1:=Lib.hid (fun W (hW:Rd W A X)=>rnorm_any A n0 c X W hW hn (by omega))
 have H2:=Lib.hid (fun W (hW:Rd W A' Y)=>rnorm_any A' m0 c' Y W hW hn' (by omega))
 have HX:=Lib.hid h
 have HY:=Lib.hid h'
 obtain ⟨x,hx⟩:∃x,val X=x:=⟨_,rfl⟩
 obtain ⟨y,hy⟩:∃y,val Y=y:=⟨_,rfl⟩
 rw [hx] at hx1
 rw [hy] at hy1
 simp only [hx,hy] at H1 H2 ⊢
 have hkx:=ntz_words_le x
 have hky:=ntz_words_le y
 have HB0:=Lib.hid (rnew w ratO)
 clear h h' hn hn' hx hy
 obtain ⟨P,hP⟩:∃P:Ending→World→Prop,P=RatP w (s&&decide (x≠0)) (fracN x y e) (fracD x y e):=⟨_,rfl⟩
 rw [←hP]
 have HP:=Lib.hid hP
 clear hP
 go_enter Tryz.func17,Tryz.ntmps17
 go_wp2_with fail
 refine (H1.out _ (HX.out.below HB0.out)).mono ?_
 rintro en w1 ⟨A1,c1,rfl,hR1,hl1,hm1,hb⟩
 have HB:=Lib.hid ((Box.new w).later hb)
 have HY:=Lib.hid (HY.out.below (raft HB0.out hb))
 have HR1:=Lib.hid hR1
 have HW:=Lib.hid (raft HB0.out hb)
 clear hR1 hb
 go_wp2_with fail
 refine (H2.out _ HY.out).mono ?_
 rintro en w2 ⟨A2,c2,rfl,hR2,hl2,hm2,hb⟩
 have HB:=Lib.hid (HB.out.later hb)
 have HR1:=Lib.hid (HR1.out.below hb)
 have HR2:=Lib.hid hR2
 have HW:=Lib.hid (raft HW.out hb)
 clear hR2 hb
 by_cases h0:x=0
 ·subst h0
  obtain ⟨b0,b1,b2,f0,f1,f2⟩:=HB.out.cells
  have hl0:(dig 0).length=0:=by rw [dig_zero];rfl
  rw [hl0]
  clear hx1 hl1 hkx
  have hz:=HB.out.lt
  go_wp2
  refine bodyPost_ret (v:=.agg #[.bool false,.slice none 0 0,.slice (some ⟨w2.heap.size,0,none⟩) 1 1]) (by simp [results,Tryz.results17,go_sem,b0,b1,b2,hz]) rfl ?_
  rw [HP.out]
  have eN:fracN 0 y e=0:=by simp [fracN]
  have eD:fracD 0 y e=1:=by simp [fracD]
  rw [eN,eD]
  refine ⟨none,0,some ⟨w2.heap.size,0,none⟩,1,by rw [dig_zero,dig_one];simp,by rw [dig_zero];exact Rd.nil,?_,(put3_below HW.out (Nat.le_refl _) _ _ _).alloc (by have:=HW.out.size;simp [put3];omega) _⟩
  rw [dig_one]
  have:=(Blk.new (put3 w2 w.heap.size (.bool false) (.slice none 0 0) (.slice (some ⟨w2.heap.size,0,none⟩) 1 1)) #[.int .u32 1] [1] (W32.cons (by omega) W32.nil) (by simp [u32s])).rd
  simpa [put3] using this
 ·have hlx:0<(dig x).length:=dig_length_pos h0
  have hne:¬((dig x).length:Int)=0:=by omega
  have he0 : -1125899906843000≤e∧e≤1125899906843000:=by omega
  obtain ⟨he1,he2⟩:=he0
  have HZ:=Lib.hid (fun W (hW:Rd W A1 (dig x))=>rzeros_any A1 (dig x).length c1 (dig x) W hW rfl (by omega) (by omega))
  have HR:=Lib.hid (fun W (hW:Rd W A1 (dig x))=>rright_any A1 (dig x).length c1 (dig x) (ntz x) (ntz x:Nat) W rfl (by omega) hW rfl (by omega))
  have HZ2:=Lib.hid (fun W (hW:Rd W A2 (dig y))=>rzeros_any A2 (dig y).length c2 (dig y) W hW rfl (by omega) (by omega))
  have HR':=Lib.hid (fun W (hW:Rd W A2 (dig y))=>rright_any A2 (dig y).length c2 (dig y) (ntz y) (ntz y:Nat) W rfl (by omega) hW rfl (by omega))
  simp only [val_dig'] at HZ HR HZ2 HR'
  have HNE:=Lib.hid h0
  clear h0
  go_wp2_with fail
  refine (HZ.out _ HR1.out).mono ?_
  rintro en w3 ⟨rfl,rfl⟩
  go_wp2_with fail
  refine (HR.out _ HR1.out).mono ?_
  rintro en w3 ⟨A3,c3,rfl,hR3,hl3,hm3,hb⟩
  have HB:=Lib.hid (HB.out.later hb)
  have HR2:=Lib.hid (HR2.out.below hb)
  have HR3:=Lib.hid hR3
  have HW:=Lib.hid (raft HW.out hb)
  clear hR3 hb
  go_wp2_with fail
  refine (HZ2.out _ HR2.out).mono ?_
  rintro en w4 ⟨rfl,rfl⟩
  go_wp2_with fail
  refine (HR'.out _ HR2.out).mono ?_
  rintro en w4 ⟨A4,c4,rfl,hR4,hl4,hm4,hb⟩
  have HB:=Lib.hid (HB.out.later hb)
  have HR3:=Lib.hid (HR3.out.below hb)
  have HR4:=Lib.hid hR4
  have HW:=Lib.hid (raft HW.out hb)
  clear hR4 hb
  go_upto_region 11 with fail
  have hfe:fracE x y e=e+ntz x - ntz y:=rfl
  have hW1:=fun h=>fracN_wl (n:=x) (d:=y) (e:=e) h
  have hW2:=fun h=>fracD_wl (n:=x) (d:=y) (e:=e) h
  rw [hfe] at hW1 hW2
  have hEb : -2251799813690000≤e+ntz x - ntz y∧e+ntz x - ntz y≤2251799813690000:=by omega
  obtain ⟨E,hE⟩:∃E:Int,e+ntz x - ntz y=E:=⟨_,rfl⟩
  rw [hE] at hfe hEb hW1 hW2 ⊢
  have HE:=Lib.hid hfe
  obtain ⟨hE1,hE2⟩:=hEb
  have HW1:=Lib.hid hW1
  have HW2:=Lib.hid hW2
  clear hE hfe hW1 hW2
  by_cases hp:0<E
  ·have hnn:¬E<0:=by omega
   have hk1:=HW1.out hp
   go_wp2_with fail
   refine (rleft_any A3 _ c3 (dig (x / 2^ntz x)) E.toNat E _ (by omega) HR3.out rfl (by omega) (by rw [wl_dig];omega)).mono ?_
   rw [val_dig]
   rintro en w5 ⟨A5,c5,rfl,hR5,hl5,hm5,hb⟩
   have HB:=Lib.hid (HB.out.later hb)
   have HR4:=Lib.hid (HR4.out.below hb)
   have HR5:=Lib.hid hR5
   have HW:=Lib.hid (raft HW.out hb)
   clear hR5 hb hk1
   obtain ⟨b0,b1,b2,f0,f1,f2⟩:=HB.out.cells
   have hz:=HB.out.lt
   go_wp2
   refine bodyPost_ret (v:=.agg #[.bool s,.slice A5 (dig (x / 2^ntz x*2^E.toNat)).length c5,.slice A4 (dig (y / 2^ntz y)).length c4]) (by simp [results,Tryz.results17,go_sem,b0,b1,b2,hz]) rfl ?_
   rw [HP.out]
   have eN:fracN x y e=x / 2^ntz x*2^E.toNat:=by unfold fracN;rw [if_neg HNE.out,HE.out]
   have eD:fracD x y e=y / 2^ntz y:=by unfold fracD;rw [if_neg HNE.out,HE.out];simp [show (-E).toNat=0 by omega]
   rw [eN,eD,decide_eq_true HNE.out,Bool.and_true]
   exact ⟨_,_,_,_,rfl,HR5.out.put3 HB.out _ _ _,HR4.out.put3 HB.out _ _ _,put3_below HW.out (Nat.le_refl _) _ _ _⟩
  ·by_cases hn:E<0
   ·have hk1:=HW2.out hn
    have hp':¬0<E:=hp
    go_wp2_with fail
    refine (rleft_any A4 _ c4 (dig (y / 2^ntz y)) (-E).toNat (-E) _ (by omega) HR4.out rfl (by omega) (by rw [wl_dig];omega)).mono ?_
    rw [val_dig]
    rintro en w5 ⟨A5,c5,rfl,hR5,hl5,hm5,hb⟩
    have HB:=Lib.hid (HB.out.later hb)
    have HR3:=Lib.hid (HR3.out.below hb)
    have HR5:=Lib.hid hR5
    have HW:=Lib.hid (raft HW.out hb)
    clear hR5 hb hk1
    obtain ⟨b0,b1,b2,f0,f1,f2⟩:=HB.out.cells
    have hz:=HB.out.lt
    go_wp2
    refine bodyPost_ret (v:=.agg #[.bool s,.slice A3 (dig (x / 2^ntz x)).length c3,.slice A5 (dig (y / 2^ntz y*2^(-E).toNat)).length c5]) (by simp [results,Tryz.results17,go_sem,b0,b1,b2,hz]) rfl ?_
    rw [HP.out]
    have eN:fracN x y e=x / 2^ntz x:=by unfold fracN;rw [if_neg HNE.out,HE.out];simp [show E.toNat=0 by omega]
    have eD:fracD x y e=y / 2^ntz y*2^(-E).toNat:=by unfold fracD;rw [if_neg HNE.out,HE.out]
    rw [eN,eD,decide_eq_true HNE.out,Bool.and_true]
    exact ⟨_,_,_,_,rfl,HR3.out.put3 HB.out _ _ _,HR5.out.put3 HB.out _ _ _,put3_below HW.out (Nat.le_refl _) _ _ _⟩
   ·obtain rfl:E=0:=by omega
    obtain ⟨b0,b1,b2,f0,f1,f2⟩:=HB.out.cells
    have hz:=HB.out.lt
    go_wp2
    refine bodyPost_ret (v:=.agg #[.bool s,.slice A3 (dig (x / 2^ntz x)).length c3,.slice A4 (dig (y / 2^ntz y)).length c4]) (by simp [results,Tryz.results17,go_sem,b0,b1,b2,hz]) rfl ?_
    rw [HP.out]
    have eN:fracN x y e=x / 2^ntz x:=by unfold fracN;rw [if_neg HNE.out,HE.out];simp
    have eD:fracD x y e=y / 2^ntz y:=by unfold fracD;rw [if_neg HNE.out,HE.out];simp
    rw [eN,eD,decide_eq_true HNE.out,Bool.and_true]
    exact ⟨_,_,_,_,rfl,HR3.out.put3 HB.out _ _ _,HR4.out.put3 HB.out _ _ _,put3_below HW.out (Nat.le_refl _) _ _ _⟩
end Go.Proofs.YtigmpifjcijdbaaGreatDoor
