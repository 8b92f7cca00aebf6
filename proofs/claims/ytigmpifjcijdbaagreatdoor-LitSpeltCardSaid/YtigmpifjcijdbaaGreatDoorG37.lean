/- Layer 12, the program: half of a number, rounded. -/
import Derived.Test.YtigmpifjcijdbaaGreatDoorG36
import Derived.Test.YtigmpifjcijdbaaGreatDoorG21
import Derived.Test.YtigmpifjcijdbaaGreatDoorG18
section
namespace Go.Proofs.YtigmpifjcijdbaaGreatDoor
set_option linter.unusedVariables false
set_option linter.unusedSimpArgs false
open Go.RowKit Verge Verge.Lit
def hlf (neg away mv:Bool) (A B:Nat):Bool×Nat:=if mv=true then (if neg=away then (neg,A+B) else if B≤A then (neg,A - B) else (!neg,B - A)) else (neg,A)
def halfP (dd:Int) (x:Bool×Nat) (scale:Int):Nat:=fpat x.1 (rng dd x.1 (x.2*10^scale.toNat*2^KU) (2*10^(-scale).toNat))
theorem lsub_is {n m:Nat} {v u:Value} {w:World} (hv:IsT n v w) (hu:IsT m u w) (h:blen n≤500000) (hm:m≤n):Calls Tryz.prog 124 #[v,u] w (Ans w (Is2 (IsT (n - m)) (IsV (.int .i64 0)))):=by
 obtain ⟨A,rfl,hR⟩:=hv
 obtain ⟨B,rfl,hS⟩:=hu
 have hl:=len_of_blen h
 have h1:=dig_length_mono hm
 have h2:=dig_length_mono (show n - m≤n by omega)
 have e:nsub n m=(dig (n - m),0):=by
  rw [nsub_fit (by omega),fit_no ((long_false _).2 (by omega))]
  rw [(long_false _).2 (by omega),(long_false _).2 (by omega)];rfl
 have:=sub_any A _ (dig n).length (dig n) B _ (dig m).length (dig m) w hR rfl (Nat.le_refl _) (by omega) hS rfl (Nat.le_refl _) (by omega)
 rw [val_dig,val_dig,e] at this
 exact this.mono fun en w' ⟨g,A1,hg,he,hO,hb⟩=>⟨_,he,⟨_,_,rfl,⟨A1,rfl,hO.rd⟩,rfl⟩,hb⟩
theorem blen_tenL (n:Nat) (hn:n≤14200):blen (10^n)≤47400:=by
 obtain ⟨K,hK⟩:∃K,K=47400:=⟨_,rfl⟩
 rw [←hK]
 refine (blen_lt _ _).2 ?_
 have h1:(10:Nat)^3≤2^10:=by decide
 obtain ⟨m,r,hm,hr⟩:∃m r,n=3*m+r∧r<3:=⟨n / 3,n%3,by omega,by omega⟩
 have h2:(10:Nat)^(3*m)≤2^(10*m):=by rw [Nat.pow_mul,Nat.pow_mul];exact Nat.pow_le_pow_left h1 m
 have h3:(10:Nat)^r<2^8:=by
  have:r=0∨r=1∨r=2:=by omega
  rcases this with rfl | rfl | rfl <;> decide
 rw [hm,Nat.pow_add]
 refine Nat.lt_of_lt_of_le (Nat.mul_lt_mul_of_le_of_lt h2 h3 (Nat.pow_pos (by omega))) ?_
 rw [←Nat.pow_add]
 exact Nat.pow_le_pow_right (by omega) (by omega)
theorem blen_leL {n m:Nat} (h:n≤m):blen n≤blen m:=(blen_lt _ _).2 (Nat.lt_of_le_of_lt h ((blen_lt _ _).1 (Nat.le_refl _)))
theorem blen_addL {A B k:Nat} (h:blen A≤k) (h':blen B≤k):blen (A+B)≤k+1:=by
 rw [blen_lt] at h h' ⊢
 rw [Nat.pow_succ];omega
theorem blen_ten' (n:Nat) (hn:n≤10000):blen (10^n)≤33600:=by
 obtain ⟨K,hK⟩:∃K,K=33600:=⟨_,rfl⟩
 rw [←hK]
 refine (blen_lt _ _).2 ?_
 have h1:(10:Nat)^3≤2^10:=by decide
 obtain ⟨m,r,hm,hr⟩:∃m r,n=3*m+r∧r<3:=⟨n / 3,n%3,by omega,by omega⟩
 have h2:(10:Nat)^(3*m)≤2^(10*m):=by rw [Nat.pow_mul,Nat.pow_mul];exact Nat.pow_le_pow_left h1 m
 have h3:(10:Nat)^r<2^8:=by
  have:r=0∨r=1∨r=2:=by omega
  rcases this with rfl | rfl | rfl <;> decide
 rw [hm,Nat.pow_add]
 refine Nat.lt_of_lt_of_le (Nat.mul_lt_mul_of_le_of_lt h2 h3 (Nat.pow_pos (by omega))) ?_
 rw [←Nat.pow_add]
 exact Nat.pow_le_pow_right (by omega) (by omega)
theorem lblen_mul {A B a b:Nat} (h:blen A≤a) (h':blen B≤b):blen (A*B)≤a+b:=by
 rw [blen_lt] at h h' ⊢
 rw [Nat.pow_add]
 exact Nat.mul_lt_mul'' h h'
theorem cmp_sgn (a b:Nat):(0≤cmp a b)↔b≤a:=by
 unfold cmp
 split
 ·constructor <;> intro <;> omega
 ·split <;> (constructor <;> intro <;> omega)
set_option maxRecDepth 100000 in
set_option maxHeartbeats 4000000 in
theorem half_any (dd:Int) (neg away mv:Bool) (A B:Nat) (va vb:Value) (w:World) (hA:IsT A va w) (hB:IsT B vb w) (a1:blen A≤20000) (b1:blen B≤20000) (scale:Int) (s1 : -14200≤scale) (s2:scale≤10000) (hAB:blen A≤13700) (hBB:blen B≤13700) :
  Calls Tryz.prog 92 #[.int .i64 dd,.bool neg,va,.bool away,vb,.bool mv,.int .i64 scale] w (Ans w (IsV (.float .f64 (halfP dd (hlf neg away mv A B) scale)))):=by
 have HMu:=Lib.hid (fun W n m v u (hv:IsT n v W) (hu:IsT m u W) h h'=>nmul_is hv hu h h')
 have HO:=Lib.hid (fun W n h0 h=>ist_one W n h0 h)
 have HO10:Hid (∀W:World,IsT 10 (.slice (some ⟨W.heap.size+1,0,none⟩) 1 1) ((W.alloc (.cells #[.int .u32 2] 52)).alloc (.cells #[.int .u32 10] 52))):=Lib.hid (by
  intro W
  have h:=ist_one (W.alloc (.cells #[.int .u32 2] 52)) 10 (by omega) (by omega)
  rw [show (W.alloc (.cells #[.int .u32 2] 52)).heap.size=W.heap.size+1 from by show (W.heap.push _).size=_;simp] at h
  exact h)
 have HAd:=Lib.hid (fun (h:blen (A+B)≤500000)=>nadd_is hA hB h)
 have HSu:=Lib.hid (fun (h:B≤A)=>lsub_is hA hB (by omega) h)
 have HSv:=Lib.hid (fun W (hb:Below w.heap.size w W) (h:A≤B)=>lsub_is (IsT.mono _ _ _ _ hb hB) (IsT.mono _ _ _ _ hb hA) (by omega) h)
 have HSw:=Lib.hid (fun W (hb:Below w.heap.size w W) (h:B≤A)=>lsub_is (IsT.mono _ _ _ _ hb hA) (IsT.mono _ _ _ _ hb hB) (by omega) h)
 have HC:=Lib.hid (ncmp_is hA hB (by omega) (by omega))
 have HA:=Lib.hid hA
 have hAdd:blen (A+B)≤13701:=blen_addL hAB hBB
 have hNb:blen (hlf neg away mv A B).2≤13701:=by
  unfold hlf
  have e1:blen (A - B)≤13701:=Nat.le_trans (blen_leL (Nat.sub_le _ _)) (by omega)
  have e2:blen (B - A)≤13701:=Nat.le_trans (blen_leL (Nat.sub_le _ _)) (by omega)
  split
  ·split
   ·exact hAdd
   ·split
    ·exact e1
    ·exact e2
  ·show blen A≤_;omega
 obtain ⟨X,hX⟩:∃X,hlf neg away mv A B=X:=⟨_,rfl⟩
 rw [hX] at hNb ⊢
 have HX:=Lib.hid hX
 have HADD:=Lib.hid hAdd
 clear hA hB hX hAdd
 go_enter Tryz.func92,Tryz.ntmps92
 go_upto_if 18 with fail
 go_cut [1,2,6] from 1 to 45 (fun nv av sv wx=>sv=.int .i64 scale∧nv=.bool X.1∧Hid (IsT X.2 av wx∧Below w.heap.size w wx))
 case first =>
  have hx:=HX.out
  unfold hlf at hx
  cases mv with
  | false =>
   rw [if_neg (by simp)] at hx
   subst hx
   go_wp2
   go_meet
   exact ⟨rfl,rfl,HA.out,Below.refl _ _⟩
  | true =>
   rw [if_pos rfl] at hx
   by_cases hna:neg=away
   ·rw [if_pos hna] at hx
    subst hna
    subst hx
    have hd:(neg==neg)=true:=by simp
    go_wp2_with fail
    refine (HAd.out (by have:=HADD.out;omega)).mono ?_
    rintro e w1 ⟨v1,rfl,⟨v2,v3,rfl,hv2,rfl⟩,hb1⟩
    have H1:=Lib.hid (And.intro hv2 hb1)
    clear hv2 hb1
    go_wp2
    go_meet
    exact ⟨rfl,rfl,H1.out⟩
   ·rw [if_neg hna] at hx
    have hd:(neg==away)=false:=by simpa using hna
    have hcs:=cmp_sgn A B
    have HNA:=Lib.hid hna
    clear hna
    go_wp2_with fail
    refine HC.out.mono ?_
    rintro e w1 ⟨v1,rfl,rfl,hb1⟩
    obtain ⟨o,ho⟩:∃o,cmp A B=o:=⟨_,rfl⟩
    rw [ho] at hcs ⊢
    have HB1:=Lib.hid hb1
    clear hb1 ho
    by_cases hle:B≤A
    ·rw [if_pos hle] at hx
     subst hx
     have ho:=hcs.2 hle
     clear hcs
     go_wp2_with fail
     refine (HSw.out _ HB1.out hle).mono ?_
     rintro e w2 ⟨v2,rfl,⟨v3,v4,rfl,hv3,rfl⟩,hb2⟩
     have H2:=Lib.hid (And.intro hv3 (raft HB1.out hb2))
     clear hv3 hb2
     go_wp2
     go_meet
     exact ⟨rfl,rfl,H2.out⟩
    ·rw [if_neg hle] at hx
     subst hx
     have ho:¬0≤o:=fun h=>hle (hcs.1 h)
     clear hcs
     go_wp2_with fail
     refine (HSv.out _ HB1.out (by omega)).mono ?_
     rintro e w2 ⟨v2,rfl,⟨v3,v4,rfl,hv3,rfl⟩,hb2⟩
     have H2:=Lib.hid (And.intro hv3 (raft HB1.out hb2))
     clear hv3 hb2
     go_wp2
     go_meet
     exact ⟨rfl,rfl,H2.out⟩
 case rest =>
  obtain ⟨rfl,rfl,hC⟩:=hcut
  obtain ⟨sg,N⟩:=X
  have hC:Hid (IsT N _ _∧_):=hC
  dsimp only at hNb ⊢
  have H0:=hC
  clear hC HX HC HSw HSv HSu HAd HA
  obtain ⟨k,hk⟩:∃k:Nat,scale=(k:Int)∨scale = -((k+1:Nat):Int):=by
   by_cases h:0≤scale
   ·exact ⟨scale.toNat,.inl (by omega)⟩
   ·exact ⟨(-scale).toNat - 1,.inr (by omega)⟩
  rcases hk with rfl | rfl
  ·have e1:¬(k:Int)<0:=by omega
   have e2:¬(k:Int) < -(k:Int):=by omega
   have e3 : -(k:Int)≤(k:Int):=by omega
   have hk1:k≤10000:=by omega
   go_wp2_with fail
   refine (npow_is k (HO10.out _) (by decide) (Nat.le_trans (blen_tenL _ (by omega)) (by omega)) (by omega)).mono ?_
   rintro e w1 ⟨v1,rfl,⟨v2,v3,rfl,hv2,rfl⟩,hb1⟩
   have hbt:=blen_tenL (k) (by omega)
   have H1:Hid (IsT N _ w1∧IsT 2 _ w1∧IsT (10^(k)) v2 w1∧Below w.heap.size w w1):=Lib.hid ⟨IsT.mono _ _ _ _ (raft (rnew _ _) (raft (rnew _ _) hb1)) H0.out.1,IsT.mono _ _ _ _ (raft (rnew _ _) hb1) (HO.out _ 2 (by omega) (by omega)),hv2,raft H0.out.2 (raft (rnew _ _) (raft (rnew _ _) hb1))⟩
   clear hv2 hb1 H0
   go_wp2_with fail
   refine (HMu.out _ _ _ _ _ H1.out.1 H1.out.2.2.1 (by omega) (by omega)).mono ?_
   rintro e w2 ⟨v4,rfl,⟨v5,v6,rfl,hv5,rfl⟩,hb2⟩
   have hbn:blen (N*10^(k))≤60000:=Nat.le_trans (lblen_mul hNb (blen_ten' (k) (by omega))) (by omega)
   have H2:Hid (IsT 2 _ w2∧IsT (N*10^(k)) v5 w2∧Below w.heap.size w w2):=Lib.hid ⟨IsT.mono _ _ _ _ hb2 H1.out.2.1,hv5,raft H1.out.2.2.2 hb2⟩
   clear hv5 hb2 H1
   go_wp2_with fail
   refine (rratio_any dd sg KU 0 rfl H2.out.2.1 H2.out.1 (by omega) hbn (by decide) (by omega) (by omega)).mono ?_
   rintro e w3 ⟨v7,rfl,rfl,hb3⟩
   have H3:=Lib.hid (raft H2.out.2.2 hb3)
   clear hb3
   go_wp2
   go_ret
   refine ⟨_,rfl,?_,H3.out⟩
   show Value.float .f64 _=Value.float .f64 (halfP dd (sg,N) (k:Int))
   unfold halfP
   rw [show ((k:Nat):Int).toNat=k by omega,show (-((k:Nat):Int)).toNat=0 by omega,Nat.pow_zero,Nat.mul_one]
  ·have e1:(-((k+1:Nat):Int))<0:=by omega
   have e2 : -((k+1:Nat):Int)<((k+1:Nat):Int):=by omega
   have hk1:k+1≤14200:=by omega
   go_wp2_with fail
   refine (npow_is (k+1) (HO10.out _) (by decide) (Nat.le_trans (blen_tenL _ (by omega)) (by omega)) (by omega)).mono ?_
   rintro e w1 ⟨v1,rfl,⟨v2,v3,rfl,hv2,rfl⟩,hb1⟩
   have hbt:=blen_tenL (k+1) (by omega)
   have H1:Hid (IsT N _ w1∧IsT 2 _ w1∧IsT (10^(k+1)) v2 w1∧Below w.heap.size w w1):=Lib.hid ⟨IsT.mono _ _ _ _ (raft (rnew _ _) (raft (rnew _ _) hb1)) H0.out.1,IsT.mono _ _ _ _ (raft (rnew _ _) hb1) (HO.out _ 2 (by omega) (by omega)),hv2,raft H0.out.2 (raft (rnew _ _) (raft (rnew _ _) hb1))⟩
   clear hv2 hb1 H0
   go_wp2_with fail
   refine (HMu.out _ _ _ _ _ H1.out.2.1 H1.out.2.2.1 (by decide) (by omega)).mono ?_
   rintro e w2 ⟨v4,rfl,⟨v5,v6,rfl,hv5,rfl⟩,hb2⟩
   have hbn:blen (2*10^(k+1))≤60000:=Nat.le_trans (lblen_mul (Nat.le_refl _) (Nat.le_refl _)) (by rw [show blen 2=2 from by decide];omega)
   have hpos:0<2*10^(k+1):=Nat.mul_pos (by omega) (Nat.pow_pos (by omega))
   have H2:Hid (IsT N _ w2∧IsT (2*10^(k+1)) v5 w2∧Below w.heap.size w w2):=Lib.hid ⟨IsT.mono _ _ _ _ hb2 H1.out.1,hv5,raft H1.out.2.2.2 hb2⟩
   clear hv5 hb2 H1
   go_wp2_with fail
   refine (rratio_any dd sg KU 0 rfl H2.out.1 H2.out.2.1 hpos (by omega) hbn (by omega) (by omega)).mono ?_
   rintro e w3 ⟨v7,rfl,rfl,hb3⟩
   have H3:=Lib.hid (raft H2.out.2.2 hb3)
   clear hb3
   go_wp2
   go_ret
   refine ⟨_,rfl,?_,H3.out⟩
   show Value.float .f64 _=Value.float .f64 (halfP dd (sg,N) (-((k+1:Nat):Int)))
   unfold halfP
   rw [show (-((k+1:Nat):Int)).toNat=0 by omega,show (- -((k+1:Nat):Int)).toNat=k+1 by omega,Nat.pow_zero,Nat.mul_one]
end Go.Proofs.YtigmpifjcijdbaaGreatDoor
end

section
namespace Go.Proofs.YtigmpifjcijdbaaGreatDoor
set_option linter.unusedVariables false
set_option linter.unusedSimpArgs false
open Go.RowKit Verge Verge.Lit
def wrd (n:Nat) (ws:List (List UInt8)):List UInt8→Except Nat (List UInt8×List UInt8)
 | []=>match ws.find? (fun t=>decide (t.length=n)) with
  | some t=>.ok (t,[])
  | none=>.error 0
 | c::s=>match ws.find? (fun t=>decide (t.length=n)) with
  | some t=>.ok (t,c::s)
  | none=>if ws.filter (fun t=>decide ((t[n]?.map UInt8.toNat)=some (lo c)))=[] then .error (s.length+1) else wrd (n+1) (ws.filter (fun t=>decide ((t[n]?.map UInt8.toNat)=some (lo c)))) s
theorem wrd_hit {n:Nat} {ws:List (List UInt8)} {r t:List UInt8} {i:Nat} (h:∀j<i,∀u,ws[j]?=some u→u.length≠n) (hi:ws[i]?=some t) (ht:t.length=n):wrd n ws r=.ok (t,r):=by
 have hf:ws.find? (fun t=>decide (t.length=n))=some t:=by
  induction ws generalizing i with
  | nil=>simp at hi
  | cons u us ih =>
   cases i with
   | zero =>
    have:u=t:=by simpa using hi
    subst this
    simp [ht]
   | succ i =>
    rw [List.find?_cons_of_neg (by simpa using h 0 (by omega) u rfl)]
    exact ih (i:=i) (fun j hj v hv=>h (j+1) (by omega) v (by simpa using hv)) (by simpa using hi)
 cases r with
 | nil=>unfold wrd;rw [hf]
 | cons c s=>unfold wrd;rw [hf]
theorem wrd_none {n:Nat} {ws:List (List UInt8)} (h:∀t∈ws,t.length≠n):ws.find? (fun t=>decide (t.length=n))=none:=by
 rw [List.find?_eq_none]
 intro t ht;simpa using h t ht
theorem wrd_nil {n:Nat} {ws:List (List UInt8)} (h:∀t∈ws,t.length≠n):wrd n ws []=.error 0:=by
 unfold wrd;rw [wrd_none h]
theorem wrd_cons {n:Nat} {ws:List (List UInt8)} {c:UInt8} {s:List UInt8} (h:∀t∈ws,t.length≠n) :
  wrd n ws (c::s)=if ws.filter (fun t=>decide ((t[n]?.map UInt8.toNat)=some (lo c)))=[] then .error (s.length+1) else wrd (n+1) (ws.filter (fun t=>decide ((t[n]?.map UInt8.toNat)=some (lo c)))) s:=by
 rw [wrd,wrd_none h]
def RowW (W:World) (g:Nat) (Ls:List (List UInt8)):Prop:=g<W.heap.size∧∀(j:Nat) (s:List UInt8),Ls[j]?=some s→W.cell? ⟨g,j,none⟩=some (.string (bs s))
theorem RowW.later {W W':World} {g:Nat} {Ls:List (List UInt8)} (h:RowW W g Ls) {B:Nat} (hB:g<B) (hb:Below B W W'):RowW W' g Ls:=
 ⟨Nat.lt_of_lt_of_le h.1 hb.size,fun j s hj=>(bcell hb g j hB).trans (h.2 j s hj)⟩
theorem Tryz.infow9:(Tryz.prog.info? 9).map (fun i=>(i.zero,i.size,i.bytes))=some (some (.string { data:=#[] }),1,16):=by kernel_rfl
theorem roww_of {W:World} {B n:Nat} {A:Option Addr} {cap:Nat} {Ls:List (List UInt8)} (h:W.ownsRow B 9 1 (.slice A n cap) n (Ls.map fun l=>.string (bs l))) (h0:0<n):∃g,B≤g∧A=some ⟨g,0,none⟩∧RowW W g Ls:=by
 rcases h.2 with ⟨_,e⟩ | ⟨g,cap',cur,e,hb,hg,h1,h2,h3,h4⟩
 ·have:n=0:=by
   have h1:=h.1
   rw [e] at h1
   simp at h1
   omega
  omega
 ·injection e with e1 e2 e3
  subst e1
  refine ⟨g,hb,rfl,(Array.getElem?_eq_some_iff.1 hg).1,fun j s hj => ?_⟩
  have e:cur[j]?=some (.string (bs s)):=by
   have hx:(Ls.map fun l=>Value.string (bs l))[j]?=some (.string (bs s)):=by rw [List.getElem?_map,hj];rfl
   rw [←h4,List.getElem?_take] at hx
   split at hx
   ·simpa using hx
   ·cases hx
  simp [World.cell?,hg,e]
theorem own_shape {W:World} {B n:Nat} {v:Value} {xs:List Value} (h:W.ownsRow B 9 1 v n xs):∃A cap,v=.slice A n cap:=by
 rcases h.2 with ⟨e,e2⟩ | ⟨g,cap',cur,e,hb,hg,h1,h2,h3,h4⟩
 ·have:n=0:=by
   have h1:=h.1
   rw [e2] at h1
   simp at h1
   omega
  subst this
  exact ⟨_,_,e⟩
 ·exact ⟨_,_,e⟩
theorem wpList_push1 {w:World} {ops:Array Oper} {rest:List Oper} {o:Oper} {a:Act} {Q:Exit→Act→World→Prop} (hgd:o.guard=none) (s x:Operand)
  (ho:o.op=.call { callee:=.builtin .append,args:=#[s,x],argTypes:=#[30,30] })
  (B:Nat) (v:Value) (n:Nat) (xs:List Value) (hs:a.eval s=v) (W:World) (y:ByteArray) (hw:w=W.alloc (.cells #[.string y] 9)) (hown:W.ownsRow B 9 1 v n xs)
  (hx:a.eval x=.slice (some ⟨W.heap.size,0,none⟩) 1 1) (hb:n≤10) (hB:B≤W.heap.size) (A:World) (hA:Below B A W)
  (h:∀v' w',w'.ownsRow B 9 1 v' (n+1) (xs++[.string y])→Below B A w'→wpList Tryz.prog ops Q rest (a.put o.dst v') w'):wpList Tryz.prog ops Q (o::rest) a w:=by
 subst hw
 obtain ⟨i0,hi,hz0,hz1,hz2⟩:=info_parts Tryz.infow9
 refine wpList_append_own _ hgd s x 30 ho B 9 i0 (.string { data:=#[] }) 1 16 Tryz.underlying30 hi hz0 hz1 hz2 rfl (by decide) v n xs hs (World.ownsRow.alloc hown _)
  ⟨W.heap.size,0,none⟩ 1 1 [.string y] hx rfl ?_ (by intro u hu;simp at hu;rcases hu with rfl | rfl <;> rfl) (by unfold maxLen;omega) (by omega) (by simp;omega) ?_
 ·intro j u hu
  rcases j with _ | j
  ·simp at hu;subst hu
   rw [Addr.add,if_pos rfl]
   simp [World.cell?_alloc_new]
  ·simp at hu
 ·intro v' w' h1 h2 _
  exact h v' w' h1 ((hA.alloc hB _).grown h2 (by simp;omega) (fun k hk=>(World.ownsRow.lt hown k hk).1))
theorem filter_take {α:Type} (p:α→Bool) (l:List α) (i:Nat) (t:α) (h:l[i]?=some t):(l.take (i+1)).filter p=(l.take i).filter p++(if p t=true then [t] else []):=by
 rw [List.take_add_one,h,List.filter_append]
 by_cases hp:p t=true <;> simp [hp]
set_option maxRecDepth 100000 in
set_option maxHeartbeats 4000000 in
theorem lword_any (w:World) (b:Nat) (l r:List UInt8) (d:Bool) (x:Int×Int) (g0 cap0:Nat) (ws:List (List UInt8)) (h:LR w b l r d x) (hl:l.length≤100000) (hr:RowW w g0 ws) (hm0:0<ws.length) (hm:ws.length≤4) (hle:∀t∈ws,t.length≤10) :
  Calls Tryz.prog 58 #[.pointer (some ⟨b,0,none⟩),.slice (some ⟨g0,0,none⟩) ws.length cap0] w (LAns w b l (wrd 0 ws r) fun y e w'=>e=.returned (.string (bs y.1))∧LR w' b l y.2 d x):=by
 obtain ⟨S,hS⟩:∃S,bs l=S:=⟨_,rfl⟩
 obtain ⟨L,hL⟩:∃L,l.length=L:=⟨_,rfl⟩
 have hs:S.size=L:=by rw [←hS,←hL];exact bs_size _
 have HSA:=Lib.hid (fun i c h=>(hS▸bs_at l i c h:∀hi:i<S.size,S[i]'hi=c))
 have HSS:=Lib.hid (And.intro hS hL)
 have HF:=Lib.hid (fun W s h=>lfail_any W b l s d x h)
 have HV:=Lib.hid (fun c W=>lsmall_any c W)
 have HR:=Lib.hid (And.intro h (And.intro hr hle))
 rw [hL] at hl
 obtain ⟨m0,hM0⟩:∃m,ws.length=m:=⟨_,rfl⟩
 rw [hM0] at hm hm0 ⊢
 have HM0:=Lib.hid hM0
 clear h hr hS hL hle hM0
 go_enter Tryz.func58,Tryz.ntmps58
 go_wp2
 go_loopw [1,5] (fun sv nv wr=>∃(n m g cap p:Nat) (us:List (List UInt8)) (r':List UInt8),sv=.slice (some ⟨g,0,none⟩) m cap∧nv=.int .i64 (n:Int)∧m≤4∧n≤10∧p≤L∧wr.cell? ⟨b,0,none⟩=some (.string S)∧wr.cell? ⟨b,1,none⟩=some (.int .i64 (p:Int))∧wr.frozen? ⟨b,1,none⟩=false ∧
   Hid (us.length=m∧0<m∧RowW wr g us∧LR wr b l r' d x∧w.grownBy wr (some b)∧wrd n us r'=wrd 0 ws r∧(∀t∈us,n≤t.length∧t.length≤10)∧p=L - r'.length)) (fun _ _ wr=>L - (intOf ((wr.cell? ⟨b,1,none⟩).getD undef)).toNat)
 case atStart =>
  obtain ⟨k0,k1,k2,k3⟩:=HR.out.1.cells HSS.out.1 (q:=L - r.length) (by rw [HSS.out.2])
  exact ⟨0,m0,g0,cap0,L - r.length,ws,r,rfl,rfl,hm,by omega,by omega,k0,k1,k3,HM0.out,hm0,HR.out.2.1,HR.out.1,grownBy_refl _ _,rfl,fun t ht=>⟨Nat.zero_le _,HR.out.2.2 t ht⟩,rfl⟩
 case round =>
  obtain ⟨n,m,g,cap,p,us,r',rfl,rfl,hmm,hnn,hpL,d0,d1,g1,hI⟩:=hrel
  go_wp2
  go_loopw [13] (fun iv wr2=>∃i:Nat,i≤m∧iv=.int .i64 (i:Int)∧wr2=wr∧Hid (∀j<i,∀t,us[j]?=some t→t.length≠n)) (fun iv _=>m - (intOf iv).toNat)
  case atStart=>exact ⟨0,by omega,rfl,rfl,fun j hj=>by omega⟩
  case round =>
   obtain ⟨i,hi,rfl,rfl,hJ⟩:=hrel
   by_cases hlt:i<m
   ·have hltI:(i:Int)<(m:Int):=by omega
    obtain ⟨t,ht⟩:∃t,us[i]?=some t:=⟨_,List.getElem?_eq_getElem (by rw [hI.out.1];exact hlt)⟩
    have hcell:=hI.out.2.2.1.2 i t ht
    have htl:=bs_size t
    have htb:=(hI.out.2.2.2.2.2.2.1 t (List.mem_of_getElem? ht)).2
    have HT:=Lib.hid ht
    obtain ⟨z,hz⟩:∃z,t.length=z:=⟨_,rfl⟩
    have HZ:=Lib.hid hz
    obtain ⟨BW,hBW⟩:∃BW,bs t=BW:=⟨_,rfl⟩
    have HBW:=Lib.hid hBW
    rw [hBW] at hcell htl
    rw [hz] at htl htb
    clear ht hz hBW
    by_cases hn:n=z
    ·subst hn
     clear hltI
     have hltI:(i:Int)<(m:Int):=by omega
     go_wp2
     go_ret
     rw [←hI.out.2.2.2.2.2.1,wrd_hit hJ.out HT.out HZ.out,←HBW.out]
     exact ⟨⟨rfl,hI.out.2.2.2.1⟩,hI.out.2.2.2.2.1⟩
    ·have hnI:¬(n:Int)=(z:Int):=by omega
     have HNE:=Lib.hid hn
     clear hn
     go_wp2
     go_roundw
     case rel =>
      refine ⟨i+1,by omega,by go_num,(by first | rfl | trivial),fun j hj u hu => ?_⟩
      by_cases e:j=i
      ·subst e
       rw [HT.out] at hu
       injection hu with hu
       subst hu
       rw [HZ.out];exact fun e=>HNE.out e.symm
      ·exact hJ.out j (by omega) u hu
     case measure=>simp [intOf];omega
   ·obtain rfl:m=i:=by omega
    have hmiss:∀t∈us,t.length≠n:=by
     intro t ht
     obtain ⟨j,hj,e⟩:=List.getElem_of_mem ht
     exact hJ.out j (by rw [←hI.out.1];exact hj) t (by rw [List.getElem?_eq_getElem hj,e])
    have HMS:=Lib.hid hmiss
    have HRW:=Lib.hid hI.out.2.2.1
    clear hmiss hlt hi
    cases r' with
    | nil =>
     have hpe:p=L:=by have:=hI.out.2.2.2.2.2.2.2;simpa using this
     have hpI:¬(p:Int)<(L:Int):=by omega
     have hpd:decide ((p:Int)<(L:Int))=false:=by simpa using hpI
     have hpn:decide (p<L)=false:=by simp;omega
     clear hpe
     go_wp2
     go_loopw [8,25] (fun v iv wr2=>∃i k:Nat,i≤m∧v=.slice none 0 0∧iv=.int .i64 (i:Int)∧wr2=wr.drewN k) (fun _ iv _=>m - (intOf iv).toNat)
     case atStart=>exact ⟨0,0,by omega,rfl,rfl,rfl⟩
     case round =>
      obtain ⟨i,k,hi,rfl,rfl,rfl⟩:=hrel
      by_cases hlt:i<m
      ·have hltI:(i:Int)<(m:Int):=by omega
       obtain ⟨t,ht⟩:∃t,us[i]?=some t:=⟨_,List.getElem?_eq_getElem (by rw [hI.out.1];exact hlt)⟩
       have hcell:=HRW.out.2 i t ht
       obtain ⟨BW,hBW⟩:∃BW,bs t=BW:=⟨_,rfl⟩
       rw [hBW] at hcell
       clear ht hBW
       go_upto_region 12 with fail
       go_quiet (fail)
       go_wp2
       go_roundw
       case rel=>exact ⟨i+1,_,by omega,(by first | rfl | trivial),by go_num,(by first | rfl | exact World.drewN_drewN _ _ _)⟩
       case measure=>simp [intOf];omega
      ·obtain rfl:m=i:=by omega
       go_wp2_with (go_at_call 59;refine (HF.out _ _ (hI.out.2.2.2.1.drewN _)).mono ?_;rintro e w2 ⟨rfl,rfl⟩)
       rw [←hI.out.2.2.2.2.2.1,wrd_nil HMS.out]
       exact ⟨rfl,rfl,grownBy_drewN hI.out.2.2.2.2.1 _⟩
    | cons c s =>
     have hpl:=hI.out.2.2.2.2.2.2.2
     have hrl:=hI.out.2.2.2.1.1
     have hpL2:p<L:=by
      have:=HSS.out.2
      rw [List.length_cons] at hpl hrl
      omega
     have hpd:decide ((p:Int)<(L:Int))=true:=by simp;omega
     have hpn:decide (p<L)=true:=by simp;omega
     have hcl:=rest_at hI.out.2.2.2.1.1 hI.out.2.2.2.1.2.1 (i:=0) c rfl
     rw [Nat.add_zero,HSS.out.2,←hpl] at hcl
     have hcS:=HSA.out p c hcl
     clear hpl hrl hcl
     have hpI:(p:Int)<(L:Int):=by omega
     obtain ⟨W0,rfl⟩:∃W0,W0=wr:=⟨_,rfl⟩
     have HB0:=Lib.hid (Below.refl W0.heap.size W0)
     go_wp2
     go_loopw [8,25] (fun v iv wr2=>∃(i k cap2:Nat) (A:Option Addr),i≤m∧k≤i∧v=.slice A k cap2∧iv=.int .i64 (i:Int)∧wr2.cell? ⟨b,0,none⟩=some (.string S)∧wr2.cell? ⟨b,1,none⟩=some (.int .i64 (p:Int))∧wr2.frozen? ⟨b,1,none⟩=false ∧
       Hid (((us.take i).filter fun t=>decide ((t[n]?.map UInt8.toNat)=some (lo c))).length=k∧Below W0.heap.size W0 wr2∧wr2.ownsRow W0.heap.size 9 1 (.slice A k cap2) k (((us.take i).filter fun t=>decide ((t[n]?.map UInt8.toNat)=some (lo c))).map fun l=>.string (bs l)))) (fun _ iv _=>m - (intOf iv).toNat)
     case atStart=>exact ⟨0,0,0,none,by omega,by omega,rfl,rfl,d0,d1,g1,rfl,HB0.out,⟨rfl,.inl ⟨rfl,rfl⟩⟩⟩
     case round =>
      obtain ⟨i,k,cap2,A,hi,hki,rfl,rfl,e0,e1,e2,hK⟩:=hrel
      by_cases hlt:i<m
      ·have hltI:(i:Int)<(m:Int):=by omega
       obtain ⟨t,ht⟩:∃t,us[i]?=some t:=⟨_,List.getElem?_eq_getElem (by rw [hI.out.1];exact hlt)⟩
       have hrw2:=HRW.out.later HRW.out.1 hK.out.2.1
       have hcell:=hrw2.2 i t ht
       have htm:=List.mem_of_getElem? ht
       have htn:n<t.length:=by
        have h1:=(hI.out.2.2.2.2.2.2.1 t htm).1
        have h2:=HMS.out t htm
        omega
       obtain ⟨a,ha⟩:∃a,t[n]?=some a:=⟨_,List.getElem?_eq_getElem htn⟩
       have hta:=bs_at t n a ha
       have htl:=bs_size t
       have hft:=filter_take (fun t=>decide ((t[n]?.map UInt8.toNat)=some (lo c))) us i t ht
       have HFT:=Lib.hid hft
       obtain ⟨z,hz⟩:∃z,t.length=z:=⟨_,rfl⟩
       rw [hz] at htn htl
       have hnI:(n:Int)<(z:Int):=by omega
       obtain ⟨BW,hBW⟩:∃BW,bs t=BW:=⟨_,rfl⟩
       rw [hBW] at hcell htl hta
       have HBW:=Lib.hid (And.intro hBW ha)
       clear ht hz hBW hft ha htm hrw2
       by_cases hq:a.toNat=lo c
       ·have hqI:(a.toNat:Int)=(lo c:Int):=by omega
        have hqb:((a.toNat:Int)==(lo c:Int))=true:=by simpa using hqI
        have hqn:(a.toNat==lo c)=true:=by simpa using hq
        have HQ:=Lib.hid hq
        go_upto_region 12 with fail
        go_quiet ((go_at_call 81;with_reducible (first | exact quiet_left (HV.out _ _) | exact quiet_add_left (HV.out _ _))))
        go_wp2_with (refine wpList_push1 rfl _ _ rfl W0.heap.size _ k _ rfl _ _ rfl hK.out.2.2 rfl (by omega) (below_drewN hK.out.2.1 0).size W0 (below_drewN hK.out.2.1 _) ?_;intro v' w3 hr1 hb1;have HR1:=Lib.hid hr1;have HB3:=Lib.hid hb1;clear hr1 hb1)
        obtain ⟨A3,cap3,rfl⟩:=own_shape HR1.out
        have hlr3:=hI.out.2.2.2.1.later HB3.out
        obtain ⟨j0,j1,j2,j3⟩:=hlr3.cells HSS.out.1 (q:=p) (by rw [HSS.out.2];exact hI.out.2.2.2.2.2.2.2.symm)
        have HLR3:=Lib.hid hlr3
        clear hlr3
        go_roundw
        case rel =>
         have e:=HFT.out
         rw [if_pos (by simp only [HBW.out.2,Option.map_some,decide_eq_true_eq,Option.some.injEq];exact HQ.out)] at e
         refine ⟨i+1,k+1,cap3,A3,by omega,by omega,rfl,by go_num,j0,j1,j3,?_⟩
         rw [e]
         refine ⟨by rw [List.length_append,hK.out.1];rfl,HB3.out,?_⟩
         rw [List.map_append]
         have e2:List.map (fun l=>Value.string (bs l)) [t]=[Value.string BW]:=by rw [←HBW.out.1];rfl
         rw [e2]
         exact HR1.out
        case measure=>simp [intOf];omega
       ·have hqI:¬(a.toNat:Int)=(lo c:Int):=by omega
        have hqb:((a.toNat:Int)==(lo c:Int))=false:=by simpa using hqI
        have hqn:(a.toNat==lo c)=false:=by simpa using hq
        have HQ:=Lib.hid hq
        go_upto_region 12 with fail
        go_quiet ((go_at_call 81;with_reducible (first | exact quiet_left (HV.out _ _) | exact quiet_add_left (HV.out _ _))))
        go_wp2
        go_roundw
        case rel =>
         have e:=HFT.out
         rw [if_neg (by simp only [HBW.out.2,Option.map_some,decide_eq_true_eq,Option.some.injEq];exact HQ.out),List.append_nil] at e
         refine ⟨i+1,k,cap2,A,by omega,by omega,rfl,by go_num,e0,e1,e2,?_⟩
         rw [e]
         exact ⟨hK.out.1,below_drewN hK.out.2.1 _,hK.out.2.2⟩
        case measure=>simp [intOf];omega
      ·obtain rfl:m=i:=by omega
       have htk:us.take m=us:=List.take_of_length_le (by rw [hI.out.1];exact Nat.le_refl _)
       have hw:=wrd_cons (c:=c) (s:=s) HMS.out
       rw [hI.out.2.2.2.2.2.1] at hw
       have hk2:=hK.out
       rw [htk] at hk2
       have HK2:=Lib.hid hk2
       have HW:=Lib.hid hw
       have hlr2:=hI.out.2.2.2.1.later hk2.2.1
       have HLR2:=Lib.hid hlr2
       have hg2:=grownBy_trans hI.out.2.2.2.2.1 (grownBy_below (row:=some b) hk2.2.1)
       have HG2:=Lib.hid hg2
       clear hk2 hw htk hg2
       by_cases hk0:k=0
       ·have hkI:(k:Int)=0:=by omega
        have hkb:((k:Int)==0)=true:=by simpa using hkI
        have hkn:(k==0)=true:=by simpa using hk0
        have hnil:(us.filter fun t=>decide ((t[n]?.map UInt8.toNat)=some (lo c)))=[]:=List.length_eq_zero_iff.1 (HK2.out.1.trans hk0)
        have HNIL:=Lib.hid hnil
        clear hnil
        go_wp2_with (go_at_call 59;refine (HF.out _ _ HLR2.out).mono ?_;rintro e w2 ⟨rfl,rfl⟩)
        rw [HW.out,if_pos HNIL.out]
        exact ⟨rfl,rfl,HG2.out⟩
       ·have hkI:¬(k:Int)=0:=by omega
        have hkb:((k:Int)==0)=false:=by simpa using hkI
        have hkn:(k==0)=false:=by simpa using hk0
        have hne:(us.filter fun t=>decide ((t[n]?.map UInt8.toNat)=some (lo c)))≠[]:=fun e=>hk0 (by rw [←HK2.out.1,e];rfl)
        have HNE:=Lib.hid hne
        obtain ⟨g2,hg2,rfl,hrow2⟩:=roww_of HK2.out.2.2 (by omega)
        have HROW2:=Lib.hid hrow2
        have HG2':=Lib.hid hg2
        have hbl2:=hI.out.2.2.2.1.lt
        have hbg:b≠g2:=by omega
        have HBG:=Lib.hid hbg
        clear hne hrow2 hg2 hbl2 hbg
        go_wp2
        have h3:=LR.drop (r:=c::s) HLR2.out 1 (by simp) (k:=(p:Int)+1) (by rw [HSS.out.2,←hI.out.2.2.2.2.2.2.2];rfl)
        obtain ⟨j0,j1,j2,j3⟩:=h3.cells HSS.out.1 (q:=p+1) (by
         have h5:=hI.out.2.2.2.2.2.2.2
         have h6:=hI.out.2.2.2.1.1
         have h7:=HSS.out.2
         rw [List.length_cons] at h5 h6
         rw [h7]
         show L - s.length=p+1
         omega)
        go_roundw
        case rel =>
         refine ⟨n+1,k,g2,cap2,p+1,_,s,rfl,by go_num,by omega,?_,by omega,j0,j1,j3,HK2.out.1,by omega,?_,h3,grownBy_set HG2.out _ _,?_,?_,?_⟩
         ·obtain ⟨t,ht⟩:=List.exists_mem_of_ne_nil _ HNE.out
          have h1:=List.mem_filter.1 ht
          have h2:=(hI.out.2.2.2.2.2.2.1 t h1.1)
          have h4:=HMS.out t h1.1
          omega
         ·refine ⟨?_,fun j u hu => ?_⟩
          ·have:=HROW2.out.1
           simpa [World.setCell] using this
          ·exact (far_cell (Ne.symm HBG.out) 1 j _).trans (HROW2.out.2 j u hu)
         ·rw [HW.out,if_neg HNE.out]
         ·intro t ht
          have h1:=List.mem_filter.1 ht
          have h2:=(hI.out.2.2.2.2.2.2.1 t h1.1)
          have h4:=HMS.out t h1.1
          omega
         ·have h5:=hI.out.2.2.2.2.2.2.2
          have h6:=hI.out.2.2.2.1.1
          have h7:=HSS.out.2
          rw [List.length_cons] at h5 h6
          omega
        case measure =>
         rw [j1,d1]
         show L - ((p+1:Nat):Int).toNat<L - (p:Int).toNat
         omega
end Go.Proofs.YtigmpifjcijdbaaGreatDoor
end
