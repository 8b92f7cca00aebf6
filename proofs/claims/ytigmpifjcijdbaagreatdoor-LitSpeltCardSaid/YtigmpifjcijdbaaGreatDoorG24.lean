/- Contracts of vergeref2's ratios: RSign, RNeg, RCmp. -/
import Derived.Test.YtigmpifjcijdbaaGreatDoorG15
import Derived.Test.YtigmpifjcijdbaaGreatDoorG22
import Derived.Test.YtigmpifjcijdbaaGreatDoorG19
section
namespace Go.Proofs.YtigmpifjcijdbaaGreatDoor
set_option linter.unusedVariables false
set_option linter.unusedSimpArgs false
open Go.RowKit Verge
abbrev ratV (s:Bool) (A:Option Addr) (n c:Nat) (B:Option Addr) (m d:Nat):Value:=.agg #[.bool s,.slice A n c,.slice B m d]
def rsgn (s:Bool) (n:Nat):Int:=if n=0 then 0 else if s then -1 else 1
section
variable (s:Bool) (A:Option Addr) (n c:Nat) (X:List Nat) (B:Option Addr) (m d:Nat) (Y:List Nat) (w:World) (h:Rd w A X) (hn:X.length=n) (hnb:n≤35184372088800)
include h hn hnb
theorem rsign_any:Calls Tryz.prog 22 #[ratV s A n c B m d] w fun e w'=>e=.returned (.int .i64 (rsgn s (val X)))∧Below w.heap.size w w':=by
 have H1:=Lib.hid (fun W (hW:Rd W A X)=>rnorm_any A n c X W hW hn hnb)
 have HB:=Lib.hid (rnew w (.cells #[.bool s,.slice A n c,.slice B m d] 25))
 have HX:=Lib.hid h
 have HC:=Lib.hid (Box3.new w (.bool s) (.slice A n c) (.slice B m d))
 obtain ⟨x,hx⟩:∃x,val X=x:=⟨_,rfl⟩
 simp only [hx] at H1 ⊢
 clear h hn hnb hx
 unfold rsgn
 by_cases h0:x=0
 ·have hl:(dig x).length=0:=by rw [h0,dig_zero];rfl
  rw [if_pos h0]
  have H0:=Lib.hid h0
  clear h0
  go_enter Tryz.func22,Tryz.ntmps22
  go_wp2_with fail
  refine (H1.out _ (HX.out.below HB.out)).mono ?_
  rintro en w1 ⟨A1,c1,rfl,hR1,hl1,hm1,hb⟩
  have HW:=Lib.hid (raft HB.out hb)
  obtain ⟨b0,b1,b2⟩:=(HC.out.later hb).cells
  clear hR1 hb
  rw [hl]
  go_wp2
  go_ret
  exact ⟨rfl,HW.out⟩
 ·have hl:¬((dig x).length:Int)=0:=by have:=dig_length_pos h0;omega
  rw [if_neg h0]
  clear h0
  cases s
  ·go_enter Tryz.func22,Tryz.ntmps22
   go_wp2_with fail
   refine (H1.out _ (HX.out.below HB.out)).mono ?_
   rintro en w1 ⟨A1,c1,rfl,hR1,hl1,hm1,hb⟩
   have HW:=Lib.hid (raft HB.out hb)
   obtain ⟨b0,b1,b2⟩:=(HC.out.later hb).cells
   clear hR1 hb
   go_wp2
   go_ret
   exact ⟨rfl,HW.out⟩
  ·go_enter Tryz.func22,Tryz.ntmps22
   go_wp2_with fail
   refine (H1.out _ (HX.out.below HB.out)).mono ?_
   rintro en w1 ⟨A1,c1,rfl,hR1,hl1,hm1,hb⟩
   have HW:=Lib.hid (raft HB.out hb)
   obtain ⟨b0,b1,b2⟩:=(HC.out.later hb).cells
   clear hR1 hb
   go_wp2
   go_ret
   exact ⟨rfl,HW.out⟩
end
theorem size_alloc1 (w:World) (o:Obj):(w.alloc o).heap.size=w.heap.size+1:=by simp
def rcmp (s:Bool) (x y:Nat) (t:Bool) (u v:Nat):Int:=
 if rsgn s x<rsgn t u then -1 else if rsgn t u<rsgn s x then 1 else if x=0 then 0 else if s then -cmp (x*v) (u*y) else cmp (x*v) (u*y)
set_option maxRecDepth 20000 in
set_option maxHeartbeats 8000000 in
theorem rrcmp_any (s:Bool) (A:Option Addr) (n c:Nat) (X:List Nat) (B:Option Addr) (m d:Nat) (Y:List Nat) (t:Bool) (A':Option Addr) (n' c':Nat) (X':List Nat) (B':Option Addr) (m' d':Nat) (Y':List Nat) (w:World)
  (h:Rd w A X) (hn:X.length=n) (k:Rd w B Y) (hm:Y.length=m) (h':Rd w A' X') (hn':X'.length=n') (k':Rd w B' Y') (hm':Y'.length=m')
  (h1:n+m'≤35184372088800) (h2:n'+m≤35184372088800) :
  Calls Tryz.prog 6 #[ratV s A n c B m d,ratV t A' n' c' B' m' d'] w fun e w'=>e=.returned (.int .i64 (rcmp s (val X) (val Y) t (val X') (val Y')))∧Below w.heap.size w w':=by
 have wx:wl X≤n:=hn▸wl_le X
 have wy:wl Y≤m:=hm▸wl_le Y
 have wx':wl X'≤n':=hn'▸wl_le X'
 have wy':wl Y'≤m':=hm'▸wl_le Y'
 have S1:=Lib.hid (fun W (hW:Rd W A X)=>rsign_any s A n c X B m d W hW hn (by omega))
 have S2:=Lib.hid (fun W (hW:Rd W A' X')=>rsign_any t A' n' c' X' B' m' d' W hW hn' (by omega))
 have T1:=Lib.hid (fun W (hW:Rd W A X) (hW':Rd W B' Y')=>rtimes_any A n c X B' m' d' Y' W hW hn hW' hm' (by omega) (by omega) (by omega))
 have T2:=Lib.hid (fun W (hW:Rd W A' X') (hW':Rd W B Y)=>rtimes_any A' n' c' X' B m d Y W hW hn' hW' hm (by omega) (by omega) (by omega))
 have D1:(dig (val X*val Y')).length≤n+m':=Nat.le_trans (dig_mul_length _ _) (by rw [←wl_eq h.1,←wl_eq k'.1];omega)
 have D2:(dig (val X'*val Y)).length≤n'+m:=Nat.le_trans (dig_mul_length _ _) (by rw [←wl_eq h'.1,←wl_eq k.1];omega)
 have HX:=Lib.hid h
 have HY:=Lib.hid k
 have HX':=Lib.hid h'
 have HY':=Lib.hid k'
 have HB:=Lib.hid (raft (rnew w (.cells #[.bool s,.slice A n c,.slice B m d] 25)) (rnew _ (.cells #[.bool t,.slice A' n' c',.slice B' m' d'] 25)))
 have HC:=Lib.hid ((Box3.new w (.bool s) (.slice A n c) (.slice B m d)).later (rnew _ (.cells #[.bool t,.slice A' n' c',.slice B' m' d'] 25)))
 have HC':=Lib.hid (Box3.new (w.alloc (.cells #[.bool s,.slice A n c,.slice B m d] 25)) (.bool t) (.slice A' n' c') (.slice B' m' d'))
 rw [size_alloc1] at HC'
 obtain ⟨x,hx⟩:∃x,val X=x:=⟨_,rfl⟩
 obtain ⟨y,hy⟩:∃y,val Y=y:=⟨_,rfl⟩
 obtain ⟨u,hu⟩:∃u,val X'=u:=⟨_,rfl⟩
 obtain ⟨v,hv⟩:∃v,val Y'=v:=⟨_,rfl⟩
 simp only [hx,hy,hu,hv] at S1 S2 T1 T2 D1 D2 ⊢
 clear h k h' k' hn hm hn' hm' hx hy hu hv wx wy wx' wy'
 obtain ⟨p,hp⟩:∃p,rsgn s x=p:=⟨_,rfl⟩
 obtain ⟨q,hq⟩:∃q,rsgn t u=q:=⟨_,rfl⟩
 have hx0:x=0↔p=0:=by rw [←hp];unfold rsgn;split <;> (try split) <;> simp_all
 have hpb : -1≤p∧p≤1:=by rw [←hp];unfold rsgn;split <;> (try split) <;> omega
 have hqb : -1≤q∧q≤1:=by rw [←hq];unfold rsgn;split <;> (try split) <;> omega
 unfold rcmp
 rw [hp,hq]
 rw [hp] at S1
 rw [hq] at S2
 clear hp hq
 simp only [hx0]
 obtain ⟨hp1,hp2⟩:=hpb
 obtain ⟨hq1,hq2⟩:=hqb
 obtain ⟨P,hP⟩:∃P:Ending→World→Prop,P=fun e w'=>e=.returned (.int .i64 (if p<q then -1 else if q<p then 1 else if p=0 then 0 else if s then -cmp (x*v) (u*y) else cmp (x*v) (u*y)))∧Below w.heap.size w w':=⟨_,rfl⟩
 rw [←hP]
 have HP:=Lib.hid hP
 clear hP hx0
 go_enter Tryz.func6,Tryz.ntmps6
 go_wp2_with fail
 refine (S1.out _ (HX.out.below HB.out)).mono ?_
 rintro en w1 ⟨rfl,hb⟩
 have HC:=Lib.hid (HC.out.later hb)
 have HC':=Lib.hid (HC'.out.later hb)
 have HB:=Lib.hid (raft HB.out hb)
 obtain ⟨b0,b1,b2⟩:=HC'.out.cells
 clear hb
 go_wp2_with fail
 refine (S2.out _ (HX'.out.below HB.out)).mono ?_
 rintro en w2 ⟨rfl,hb⟩
 have HC:=Lib.hid (HC.out.later hb)
 have HC':=Lib.hid (HC'.out.later hb)
 have HB:=Lib.hid (raft HB.out hb)
 clear hb b0 b1 b2
 obtain ⟨b0,b1,b2⟩:=HC'.out.cells
 obtain ⟨a0,a1,a2⟩:=HC.out.cells
 by_cases hlt:p<q
 ·go_wp2
  rw [HP.out,if_pos hlt]
  exact ⟨rfl,HB.out⟩
 ·by_cases hgt:q<p
  ·go_wp2
   rw [HP.out,if_neg (show ¬p<q by omega),if_pos hgt]
   exact ⟨rfl,HB.out⟩
  ·obtain rfl:p=q:=by omega
   have X2:=Lib.hid (HX.out.below HB.out)
   have Y2:=Lib.hid (HY.out.below HB.out)
   have X2':=Lib.hid (HX'.out.below HB.out)
   have Y2':=Lib.hid (HY'.out.below HB.out)
   go_upto_region 7 with fail
   refine region_at 12 (Pick [IsV (.pointer (some ⟨w.heap.size,1,none⟩)),IsV (.slice A n c),IsV (.pointer (some ⟨w.heap.size+1,2,none⟩)),IsV (.slice B' m' d'),IsN (x*v),IsV (.pointer (some ⟨w.heap.size+1,1,none⟩)),IsV (.slice A' n' c'),IsV (.pointer (some ⟨w.heap.size,2,none⟩)),IsV (.slice B m d),IsN (u*y),IsV (.int .i64 (cmp (x*v) (u*y))),IsV (.int .i64 (cmp (x*v) (u*y)))]) (by kernel_rfl) (by kernel_rfl) (by kernel_rfl) (mono_pick ⟨IsV.mono _,IsV.mono _,IsV.mono _,IsV.mono _,IsN.mono _,IsV.mono _,IsV.mono _,IsV.mono _,IsV.mono _,IsN.mono _,IsV.mono _,IsV.mono _,trivial⟩) ⟨?_,?_,?_,?_,?_,?_,?_,?_,?_,?_,?_,?_,trivial⟩ ?_
   ·intro a W hsz hb hS
    have h2:a.tmps.getD 2 undef=.pointer (some ⟨w.heap.size,0,none⟩):=hS.1
    clear hS hsz
    refine will_of rfl ?_
    intro K hK
    go_simp
    exact hK _ _ ⟨Below.refl _ _,rfl⟩
   ·intro a W hsz hb hS
    have h18:a.tmps.getD 18 undef=.pointer (some ⟨w.heap.size,1,none⟩):=hS.1
    clear hS hsz
    refine will_of rfl ?_
    obtain ⟨k0,k1,k2⟩:=(HC.out.later hb).cells
    obtain ⟨l0,l1,l2⟩:=(HC'.out.later hb).cells
    intro K hK
    go_simp
    exact hK _ _ ⟨Below.refl _ _,rfl⟩
   ·intro a W hsz hb hS
    have h3:a.tmps.getD 3 undef=.pointer (some ⟨w.heap.size+1,0,none⟩):=hS.1
    clear hS hsz
    refine will_of rfl ?_
    intro K hK
    go_simp
    exact hK _ _ ⟨Below.refl _ _,rfl⟩
   ·intro a W hsz hb hS
    have h20:a.tmps.getD 20 undef=.pointer (some ⟨w.heap.size+1,2,none⟩):=hS.1
    clear hS hsz
    refine will_of rfl ?_
    obtain ⟨k0,k1,k2⟩:=(HC.out.later hb).cells
    obtain ⟨l0,l1,l2⟩:=(HC'.out.later hb).cells
    intro K hK
    go_simp
    exact hK _ _ ⟨Below.refl _ _,rfl⟩
   ·intro a W hsz hb hS
    have h19:a.tmps.getD 19 undef=.slice A n c:=hS.1
    have h21:a.tmps.getD 21 undef=.slice B' m' d':=hS.2.1
    clear hS hsz
    refine will_of rfl ?_
    obtain ⟨k0,k1,k2⟩:=(HC.out.later hb).cells
    obtain ⟨l0,l1,l2⟩:=(HC'.out.later hb).cells
    intro K hK
    go_simp
    refine (ans_doc (T1.out _ (X2.out.below hb) (Y2'.out.below hb))).mono ?_
    rintro e W' ⟨vv,rfl,hv,hb'⟩
    exact hK _ _ ⟨hb',hv⟩
   ·intro a W hsz hb hS
    have h3:a.tmps.getD 3 undef=.pointer (some ⟨w.heap.size+1,0,none⟩):=hS.1
    clear hS hsz
    refine will_of rfl ?_
    intro K hK
    go_simp
    exact hK _ _ ⟨Below.refl _ _,rfl⟩
   ·intro a W hsz hb hS
    have h23:a.tmps.getD 23 undef=.pointer (some ⟨w.heap.size+1,1,none⟩):=hS.1
    clear hS hsz
    refine will_of rfl ?_
    obtain ⟨k0,k1,k2⟩:=(HC.out.later hb).cells
    obtain ⟨l0,l1,l2⟩:=(HC'.out.later hb).cells
    intro K hK
    go_simp
    exact hK _ _ ⟨Below.refl _ _,rfl⟩
   ·intro a W hsz hb hS
    have h2:a.tmps.getD 2 undef=.pointer (some ⟨w.heap.size,0,none⟩):=hS.1
    clear hS hsz
    refine will_of rfl ?_
    intro K hK
    go_simp
    exact hK _ _ ⟨Below.refl _ _,rfl⟩
   ·intro a W hsz hb hS
    have h25:a.tmps.getD 25 undef=.pointer (some ⟨w.heap.size,2,none⟩):=hS.1
    clear hS hsz
    refine will_of rfl ?_
    obtain ⟨k0,k1,k2⟩:=(HC.out.later hb).cells
    obtain ⟨l0,l1,l2⟩:=(HC'.out.later hb).cells
    intro K hK
    go_simp
    exact hK _ _ ⟨Below.refl _ _,rfl⟩
   ·intro a W hsz hb hS
    have h24:a.tmps.getD 24 undef=.slice A' n' c':=hS.1
    have h26:a.tmps.getD 26 undef=.slice B m d:=hS.2.1
    clear hS hsz
    refine will_of rfl ?_
    obtain ⟨k0,k1,k2⟩:=(HC.out.later hb).cells
    obtain ⟨l0,l1,l2⟩:=(HC'.out.later hb).cells
    intro K hK
    go_simp
    refine (ans_doc (T2.out _ (X2'.out.below hb) (Y2.out.below hb))).mono ?_
    rintro e W' ⟨vv,rfl,hv,hb'⟩
    exact hK _ _ ⟨hb',hv⟩
   ·intro a W hsz hb hS
    have q22:IsN (x*v) (a.tmps.getD 22 undef) W:=hS.1
    have q27:IsN (u*y) (a.tmps.getD 27 undef) W:=hS.2.1
    clear hS hsz
    obtain ⟨v22,h22⟩:∃v,a.tmps.getD 22 undef=v:=⟨_,rfl⟩
    rw [h22] at q22
    obtain ⟨v27,h27⟩:∃v,a.tmps.getD 27 undef=v:=⟨_,rfl⟩
    rw [h27] at q27
    refine will_of rfl ?_
    obtain ⟨k0,k1,k2⟩:=(HC.out.later hb).cells
    obtain ⟨l0,l1,l2⟩:=(HC'.out.later hb).cells
    intro K hK
    go_simp
    have hq:=cmp_is q22 q27 (by omega) (by omega)
    rw [val_dig,val_dig] at hq
    (with_reducible refine hq.mono ?_)
    rintro e W' ⟨_,rfl,rfl,hb'⟩
    exact hK _ _ ⟨hb',rfl⟩
   ·intro a W hsz hb hS
    have h28:a.tmps.getD 28 undef=.int .i64 (cmp (x*v) (u*y)):=hS.1
    clear hS hsz
    refine will_of rfl ?_
    intro K hK
    go_simp
    exact hK _ _ ⟨Below.refl _ _,rfl⟩
   intro f W hb hH
   have e0:f 0=.pointer (some ⟨w.heap.size,1,none⟩):=hH.1
   have e1:f 1=.slice A n c:=hH.2.1
   have e2:f 2=.pointer (some ⟨w.heap.size+1,2,none⟩):=hH.2.2.1
   have e3:f 3=.slice B' m' d':=hH.2.2.2.1
   obtain ⟨x4,y4⟩:∃x,f 4=x:=⟨_,rfl⟩
   have q4:IsN (x*v) (f 4) W:=hH.2.2.2.2.1
   rw [y4] at q4
   have e5:f 5=.pointer (some ⟨w.heap.size+1,1,none⟩):=hH.2.2.2.2.2.1
   have e6:f 6=.slice A' n' c':=hH.2.2.2.2.2.2.1
   have e7:f 7=.pointer (some ⟨w.heap.size,2,none⟩):=hH.2.2.2.2.2.2.2.1
   have e8:f 8=.slice B m d:=hH.2.2.2.2.2.2.2.2.1
   obtain ⟨x9,y9⟩:∃x,f 9=x:=⟨_,rfl⟩
   have q9:IsN (u*y) (f 9) W:=hH.2.2.2.2.2.2.2.2.2.1
   rw [y9] at q9
   have e10:f 10=.int .i64 (cmp (x*v) (u*y)):=hH.2.2.2.2.2.2.2.2.2.2.1
   have e11:f 11=.int .i64 (cmp (x*v) (u*y)):=hH.2.2.2.2.2.2.2.2.2.2.2.1
   simp only [List.take_succ_cons,List.take_zero,List.drop_succ_cons,List.drop_zero,putFrom,Act.put,List.setIfInBounds_toArray,List.set_cons_zero,List.set_cons_succ,Nat.reduceAdd,e0,e1,e2,e3,y4,e5,e6,e7,e8,y9,e10,e11]
   clear e0 e1 e2 e3 y4 e5 e6 e7 e8 y9 e10 e11 hH f
   clear q4 q9
   have HC:=Lib.hid (HC.out.later hb)
   have HB:=Lib.hid (raft HB.out hb)
   clear b0 b1 b2 a0 a1 a2 hb
   obtain ⟨a0,a1,a2⟩:=HC.out.cells
   rw [if_neg (show ¬p<p by omega),if_neg (show ¬p<p by omega)] at HP
   obtain ⟨r,hr⟩:∃r,cmp (x*v) (u*y)=r:=⟨_,rfl⟩
   have hrb : -1≤r∧r≤1:=by rw [←hr];unfold cmp;split <;> (try split) <;> omega
   obtain ⟨hr1,hr2⟩:=hrb
   rw [hr] at HP ⊢
   by_cases hp0:p=0
   ·rw [if_pos hp0] at HP
    rcases (show s=true∨s=false by cases s <;> simp) with hs | hs
    ·rw [hs] at a0
     go_wp2
     rw [HP.out]
     exact ⟨rfl,HB.out⟩
    ·rw [hs] at a0
     go_wp2
     rw [HP.out]
     exact ⟨rfl,HB.out⟩
   ·rw [if_neg hp0] at HP
    rcases (show s=true∨s=false by cases s <;> simp) with hs | hs
    ·rw [hs] at a0
     rw [if_pos hs] at HP
     go_wp2
     rw [HP.out]
     exact ⟨rfl,HB.out⟩
    ·rw [hs] at a0
     rw [if_neg (by rw [hs];simp)] at HP
     go_wp2
     rw [HP.out]
     exact ⟨rfl,HB.out⟩
end Go.Proofs.YtigmpifjcijdbaaGreatDoor
end

section
namespace Go.Proofs.YtigmpifjcijdbaaGreatDoor
set_option linter.unusedVariables false
set_option linter.unusedSimpArgs false
open Go.RowKit Verge
section
variable (s:Bool) (X Y:List Nat) (va vb:Value) (w:World)
end
end Go.Proofs.YtigmpifjcijdbaaGreatDoor
namespace Go.Proofs.YtigmpifjcijdbaaGreatDoor
set_option linter.unusedVariables false
set_option linter.unusedSimpArgs false
open Go.RowKit Verge
section
variable {s t:Bool} {X Y U V:List Nat} {va vb:Value} {w:World}
end
end Go.Proofs.YtigmpifjcijdbaaGreatDoor
namespace Go.Proofs.YtigmpifjcijdbaaGreatDoor
set_option linter.unusedVariables false
set_option linter.unusedSimpArgs false
open Go.RowKit Verge
def sv (s:Bool) (n:Nat):Int:=if s then -(n:Int) else n
def IsRV (p:Int) (q:Nat) (k:Nat) (v:Value) (w:World):Prop:=∃s X Y,IsR s X Y v w∧0<q∧0<val Y∧sv s (val X)*q=p*val Y∧X.length≤k∧Y.length≤k
theorem IsRV.mono (p:Int) (q k:Nat):Mono (IsRV p q k):=fun _ _ _ hb ⟨s,X,Y,h,r⟩=>⟨s,X,Y,IsR.mono _ _ _ _ _ _ hb h,r⟩
theorem IsRV.le {p:Int} {q k k':Nat} {v:Value} {w:World} (h:IsRV p q k v w) (hk:k≤k'):IsRV p q k' v w:=by
 obtain ⟨s,X,Y,hr,hq,hy,hs,h1,h2⟩:=h
 exact ⟨s,X,Y,hr,hq,hy,hs,by omega,by omega⟩
theorem sv_mul (s:Bool) (x y:Nat):sv s (x*y)=sv s x*y:=by
 unfold sv;cases s <;> simp [Int.neg_mul]
section
variable {p p':Int} {q q' k k':Nat} {va vb:Value} {w:World}
def isgn (p:Int):Int:=if p<0 then -1 else if p=0 then 0 else 1
def icmp (a b:Int):Int:=if a<b then -1 else if a=b then 0 else 1
theorem sgn_mul {a:Int} {b:Nat} (hb:0<b):(0<a*b↔0<a)∧(a*b<0↔a<0)∧(a*b=0↔a=0):=by
 have hb':(0:Int)<b:=by omega
 refine ⟨⟨fun h => ?_,fun h=>Int.mul_pos h hb'⟩,⟨fun h => ?_,fun h=>Int.mul_neg_of_neg_of_pos h hb'⟩,⟨fun h => ?_,fun h=>by rw [h,Int.zero_mul]⟩⟩
 ·rcases ilt_or_ge 0 a with h1 | h1
  ·exact h1
  ·have:=Int.mul_nonneg (show 0 ≤ -a by omega) (show (0:Int)≤b by omega)
   rw [Int.neg_mul] at this;omega
 ·rcases ilt_or_ge a 0 with h1 | h1
  ·exact h1
  ·have:=Int.mul_nonneg h1 (show (0:Int)≤b by omega);omega
 ·rcases Int.mul_eq_zero.1 h with h | h <;> omega
theorem rsgn_sv (s:Bool) (n:Nat):rsgn s n=isgn (sv s n):=by
 unfold rsgn isgn sv
 cases s <;> (by_cases h:n=0) <;> simp [h] <;> omega
theorem cmp_icmp (x y:Nat):cmp x y=icmp x y:=by
 rcases Nat.lt_trichotomy x y with h | h | h
 ·unfold cmp icmp
  have:(x:Int)<y:=by omega
  simp [h]
 ·subst h;unfold cmp icmp;simp
 ·have h1:¬x<y:=by omega
  have h2:¬(x:Int)=y:=by omega
  have h3:¬x=y:=by omega
  unfold cmp icmp
  rw [if_neg h1,if_pos h,if_neg (by omega),if_neg h2]
theorem rcmp_sv (s:Bool) (x y:Nat) (t:Bool) (u v:Nat) (hy:0<y) (hv:0<v):rcmp s x y t u v=icmp (sv s x*v) (sv t u*y):=by
 unfold rcmp
 rw [cmp_icmp,rsgn_sv,rsgn_sv]
 have a1:=sgn_mul (a:=sv s x) hv
 have a2:=sgn_mul (a:=sv t u) hy
 have e1:sv s x*v=sv s (x*v):=(sv_mul s x v).symm
 have e2:sv t u*y=sv t (u*y):=(sv_mul t u y).symm
 by_cases hlt:isgn (sv s x)<isgn (sv t u)
 ·rw [if_pos hlt]
  unfold icmp
  rw [if_pos]
  unfold isgn at hlt
  clear e1 e2
  obtain ⟨a11,a12,a13⟩:=a1
  obtain ⟨a21,a22,a23⟩:=a2
  generalize sv s x*(v:Int)=A at *
  generalize sv t u*(y:Int)=B at *
  generalize sv s x=a at *
  generalize sv t u=b at *
  split at hlt <;> (try split at hlt) <;> (try split at hlt) <;> omega
 ·rw [if_neg hlt]
  by_cases hgt:isgn (sv t u)<isgn (sv s x)
  ·rw [if_pos hgt]
   unfold icmp
   have h:sv t u*y<sv s x*v:=by
    unfold isgn at hgt
    obtain ⟨a11,a12,a13⟩:=a1
    obtain ⟨a21,a22,a23⟩:=a2
    clear e1 e2 hlt
    generalize sv s x*(v:Int)=A at *
    generalize sv t u*(y:Int)=B at *
    generalize sv s x=a at *
    generalize sv t u=b at *
    split at hgt <;> (try split at hgt) <;> (try split at hgt) <;> omega
   rw [if_neg (by omega),if_neg (by omega)]
  ·rw [if_neg hgt]
   have heq:isgn (sv s x)=isgn (sv t u):=by omega
   by_cases hx:x=0
   ·rw [if_pos hx]
    subst hx
    have h0:sv s 0=0:=by unfold sv;cases s <;> rfl
    have h1:sv t u=0:=by
     rw [h0] at heq
     unfold isgn at heq
     split at heq <;> (try split at heq) <;> (try split at heq) <;> omega
    rw [h0,h1];simp [icmp]
   ·rw [if_neg hx,e1,e2]
    have hst:s=t:=by
     unfold isgn sv at heq
     cases s <;> cases t <;> simp at heq ⊢ <;> (try split at heq) <;> (try split at heq) <;> (try split at heq) <;> omega
    subst hst
    unfold icmp sv
    cases s
    ·simp
    ·simp only [if_true]
     generalize x*v=A
     generalize u*y=B
     split <;> (try split) <;> (try split) <;> (try split) <;> omega
theorem sgn_mul' {a m:Int} (hm:0<m):a*m<0↔a<0:=by
 have:=(sgn_mul (a:=a) (b:=m.toNat) (by omega)).2.1
 rwa [show ((m.toNat:Nat):Int)=m by omega] at this
theorem rv_cmp' (ha:IsRV p q k va w) (hb:IsRV p' q' k' vb w) (h1:k+k'≤35184372088800) :
  Calls Tryz.prog 6 #[va,vb] w (Ans w (IsV (.int .i64 (icmp (p*q') (p'*q))))):=by
 obtain ⟨s,X,Y,⟨a,b,rfl,⟨A,c,rfl,hA⟩,⟨B,d,rfl,hB⟩⟩,hq,hy,hs,l1,l2⟩:=ha
 obtain ⟨t,U,V,⟨a',b',rfl,⟨A',c',rfl,hA'⟩,⟨B',d',rfl,hB'⟩⟩,hq',hv,ht,l3,l4⟩:=hb
 have:=ans_below (rrcmp_any s A _ c X B _ d Y t A' _ c' U B' _ d' V w hA rfl hB rfl hA' rfl hB' rfl (by omega) (by omega))
 rw [rcmp_sv _ _ _ _ _ _ hy hv] at this
 have e:icmp (sv s (val X)*val V) (sv t (val U)*val Y)=icmp (p*q') (p'*q):=by
  have hqq:(0:Int)<(q:Int)*q':=Int.mul_pos (by omega) (by omega)
  have hyv:(0:Int)<(val Y:Int)*val V:=Int.mul_pos (by omega) (by omega)
  have h3:sv s (val X)*val V*(q*q')=p*q'*(val Y*val V):=by
   rw [show sv s (val X)*(val V:Int)*(q*q')=(sv s (val X)*q)*(val V*q') by grind,hs];grind
  have h4:sv t (val U)*val Y*(q*q')=p'*q*(val Y*val V):=by
   rw [show sv t (val U)*(val Y:Int)*(q*q')=(sv t (val U)*q')*(val Y*q) by grind,ht];grind
  have cong:∀{a b c d m n:Int},0<m→0<n→a*m=c*n→b*m=d*n→icmp a b=icmp c d:=by
   intro a b c d m n hm hn h1 h2
   have l:a<b↔c<d:=by
    have k1:=sgn_mul' (a:=a - b) hm
    have k2:=sgn_mul' (a:=c - d) hn
    rw [Int.sub_mul] at k1 k2
    omega
   have g:a=b↔c=d:=by
    constructor
    ·intro h;subst h
     rw [h1] at h2
     exact Int.eq_of_mul_eq_mul_right (by omega) h2
    ·intro h;subst h
     rw [←h1] at h2
     exact (Int.eq_of_mul_eq_mul_right (by omega) h2).symm
   unfold icmp
   simp only [l,g]
  exact cong hqq hyv h3 h4
 rw [e] at this
 exact this
theorem rv_cmp (ha:IsRV p q k va w) (hb:IsRV p' q' k' vb w) (h1:k≤8796093022000) (h2:k'≤8796093022000) :
  Calls Tryz.prog 6 #[va,vb] w (Ans w (IsV (.int .i64 (icmp (p*q') (p'*q))))):=rv_cmp' ha hb (by omega)
def KU:Nat:=1074
end
end Go.Proofs.YtigmpifjcijdbaaGreatDoor
end

section
namespace Go.Proofs.YtigmpifjcijdbaaGreatDoor
set_option linter.unusedVariables false
set_option linter.unusedSimpArgs false
open Go.RowKit Verge
theorem vl_X {c:UInt8} (h:isX c=true):vl c=dvl c∧dvl c<16:=by
 have h1:vl c=dvl c:=if_pos h
 have h2:pB 16 c=true:=by rw [pB16];exact h
 have h3:vl c<16:=of_decide_eq_true h2
 exact ⟨h1,by omega⟩
theorem vl_D {c:UInt8} (h:isD c=true):vl c=dvl c∧dvl c<10:=by
 have h1:vl c=dvl c:=if_pos (isX_D h)
 have h2:pB 10 c=true:=by rw [pB10];exact h
 have h3:vl c<10:=of_decide_eq_true h2
 exact ⟨h1,by omega⟩
theorem isR_two {c:UInt8} {s:List UInt8} {j k:UInt8} (h:c.toNat=j.toNat∨c.toNat=k.toNat):isR [j,k] (c::s)=(true,s):=by
 refine if_pos ?_
 rcases h with h | h
 ·rw [UInt8.toNat_inj.1 h];simp
 ·rw [UInt8.toNat_inj.1 h];simp
def NumOk (w:World) (b:Nat) (n:Bool) (N D:Nat) (K:Int) (e:Ending) (w':World):Prop:=∃v1 v2,e=.returned (.agg #[.bool n,v1,v2,.int .i64 K])∧IsT N v1 w'∧IsT D v2 w'∧w.grownBy w' (some b)
def NumNo (w:World) (b:Nat) (at0:Nat) (c:Int) (e:Ending) (w':World):Prop:=e=.panicked [{ v:=.iface 150 (.agg #[.int .i64 (at0:Int),.int .i64 c]),recovered:=false }]∧w.grownBy w' (some b)
end Go.Proofs.YtigmpifjcijdbaaGreatDoor
end
