/- Layer 5, the program: what numeral is to answer, plain. -/
import Derived.Test.YtigmpifjcijdbaaGreatDoorG24
import Derived.Deep.CutBlock
import Derived.Test.YtigmpifjcijdbaaGreatDoorG15
namespace Go.Proofs.YtigmpifjcijdbaaGreatDoor
set_option linter.unusedVariables false
set_option linter.unusedSimpArgs false
open Go.RowKit Verge
def NumAns (w:World) (b:Nat):Except (Nat×Int) (Bool×Nat×Nat×Int)→Ending→World→Prop
 | .error (p,c),e,w'=>NumNo w b p c e w'
 | .ok (n,N,D,K),e,w'=>NumOk w b n N D K e w'
def fin (l r:List UInt8) (n:Bool) (N M:Nat) (k x y:Int):Except (Nat×Int) (Bool×Nat×Nat×Int):=
 if r≠[] then .error (l.length - r.length,50) else if y≠0 then .error (x.toNat,y) else .ok (n,N,M,k)
theorem fin_left {l r:List UInt8} {n:Bool} {N M:Nat} {k x y:Int} (h:r≠[]):fin l r n N M k x y=.error (l.length - r.length,50):=if_pos h
theorem fin_late {l:List UInt8} {n:Bool} {N M:Nat} {k x y:Int} (h:y≠0):fin l [] n N M k x y=.error (x.toNat,y):=by
 unfold fin;rw [if_neg (by simp),if_pos h]
theorem fin_ok {l:List UInt8} {n:Bool} {N M:Nat} {k x:Int}:fin l [] n N M k x 0=.ok (n,N,M,k):=by
 unfold fin;rw [if_neg (by simp),if_neg (by simp)]
variable {l:List UInt8}
theorem scn_err (hl:l.length≤4096) {k:Nat} (h:cut l=.error k):scn l=.error (l.length - k,50):=by
 unfold scn;rw [if_neg (by omega),h]
theorem scn_ok (hl:l.length≤4096) {n:Bool} {p:Pc} (h:cut l=.ok (n,p)):scn l=match p.late with | some (k,c)=>.error (l.length - k,c) | none=>.ok (n,p.num,p.den,p.two):=by
 unfold scn;rw [if_neg (by omega),h]
 rfl
theorem cut_hx {t:List UInt8} (hh:hexy (sg l).2=some t):cut l=(cutH t).map fun p=>((sg l).1,p):=by unfold cut;rw [hh]
theorem cut_dc (hh:hexy (sg l).2=none):cut l=(cutD (sg l).2).map fun p=>((sg l).1,p):=by unfold cut;rw [hh]
theorem xpo_all {s d u:List UInt8} (hd:(sg s).2.takeWhile isD=d) (hu:(sg s).2.dropWhile isD=u):xpo s=if d=[]∨u≠[] then .error u.length else .ok s:=by
 unfold xpo;rw [hd,hu]
theorem sg_dig {s d:List UInt8} (hd:(sg s).2.takeWhile isD=d) (hu:(sg s).2.dropWhile isD=[]):(sg s).2=d:=by
 have h1:=List.takeWhile_append_dropWhile (p:=isD) (l:=(sg s).2)
 rw [hd,hu,List.append_nil] at h1
 exact h1.symm
def xnum (n:Bool) (d:List UInt8):Int:=if n then -((min (numB 10 d) 9999:Nat):Int) else ((min (numB 10 d) 9999:Nat):Int)
theorem xnum_le (n:Bool) (d:List UInt8) : -9999≤xnum n d∧xnum n d≤9999:=by unfold xnum;split <;> omega
theorem xnum_ok {s d:List UInt8} (hd:(sg s).2.takeWhile isD=d) (hu:(sg s).2.dropWhile isD=[]) (hlate:¬9999<numB 10 d):xnum (sg s).1 d=xvl s:=by
 unfold xvl xnum
 rw [sg_dig hd hu,Nat.min_eq_left (by omega)]
theorem lateO_no {p x:Nat} (h:¬9999<x):lateO p x=(0,0):=if_neg h
theorem lateO_is {p x:Nat} (h:9999<x):lateO p x=((p:Int),51):=if_pos h
section hex
variable {t:List UInt8} (hl:l.length≤4096) (hh:hexy (sg l).2=some t)
include hl hh
theorem hx_e1 {k:Nat} (hp:ptd isX t=.error k):scn l=.error (l.length - k,50):=by
 refine scn_err hl ?_
 rw [cut_hx hh];unfold cutH;rw [hp];rfl
theorem hx_e2 {a:List UInt8} {b:Option (List UInt8)} {r:List UInt8} (hp:ptd isX t=.ok (a,b,r)) (h:(isR [112,80] r).1=false):scn l=.error (l.length - r.length,50):=by
 refine scn_err hl ?_
 rw [cut_hx hh];unfold cutH;rw [hp]
 cases r with
 | nil=>rfl
 | cons c s =>
  dsimp only
  have hc:¬(c.toNat=112∨c.toNat=80):=by
   intro hc
   rw [isR_two (j:=112) (k:=80) hc] at h
   cases h
  rw [if_neg hc];rfl
theorem hx_e3 {a:List UInt8} {b:Option (List UInt8)} {c:UInt8} {s u:List UInt8} (hp:ptd isX t=.ok (a,b,c::s)) (hc:c.toNat=112∨c.toNat=80) (hd:(sg s).2.takeWhile isD=[]) (hu:(sg s).2.dropWhile isD=u) :
  scn l=.error (l.length - u.length,50):=by
 refine scn_err hl ?_
 rw [cut_hx hh];unfold cutH;rw [hp]
 dsimp only
 rw [if_pos hc,xpo_all hd hu,if_pos (.inl rfl)];rfl
theorem hx_ok {a:List UInt8} {b:Option (List UInt8)} {c:UInt8} {s d u:List UInt8} (hp:ptd isX t=.ok (a,b,c::s)) (hc:c.toNat=112∨c.toNat=80) (hd:(sg s).2.takeWhile isD=d) (hu:(sg s).2.dropWhile isD=u) (hne:d≠[]) :
  scn l=fin l u (sg l).1 (numB 16 (a++ob b)) 1 (xnum (sg s).1 d - 4*((ob b).length:Int)) (lateO (l.length - (sg s).2.length) (numB 10 d)).1 (lateO (l.length - (sg s).2.length) (numB 10 d)).2:=by
 have hcut:cut l=(cutH t).map fun p=>((sg l).1,p):=cut_hx hh
 unfold cutH at hcut
 rw [hp] at hcut
 dsimp only at hcut
 rw [if_pos hc,xpo_all hd hu] at hcut
 by_cases h0:u=[]
 ·subst h0
  rw [if_neg (by simp [hne])] at hcut
  rw [scn_ok hl hcut]
  have he:=sg_dig hd hu
  by_cases hlate:9999<numB 10 d
  ·rw [lateO_is hlate,fin_late (by simp)]
   have:(Pc.hx a b s).late=some ((sg s).2.length,51):=if_pos (by rw [he];exact hlate)
   rw [this]
   simp
  ·rw [lateO_no hlate,fin_ok]
   have:(Pc.hx a b s).late=none:=if_neg (by rw [he];exact hlate)
   rw [this,xnum_ok hd hu hlate]
   rfl
 ·rw [if_pos (.inr h0)] at hcut
  rw [scn_err hl hcut,fin_left h0]
end hex
section dec
variable (hl:l.length≤4096) (hh:hexy (sg l).2=none)
include hl hh
theorem dc_e1 {k:Nat} (hp:ptd isD (sg l).2=.error k):scn l=.error (l.length - k,50):=by
 refine scn_err hl ?_
 rw [cut_dc hh];unfold cutD;rw [hp];rfl
theorem fr_e {a:List UInt8} {c:UInt8} {s u:List UInt8} (hp:ptd isD (sg l).2=.ok (a,none,c::s)) (hc:c.toNat=47) (hd:s.takeWhile isD=[]) (hu:s.dropWhile isD=u):scn l=.error (l.length - u.length,50):=by
 refine scn_err hl ?_
 rw [cut_dc hh];unfold cutD;rw [hp]
 dsimp only
 rw [if_pos ⟨rfl,hc⟩,hd,hu,if_pos (.inl rfl)];rfl
theorem fr_ok {a:List UInt8} {c:UInt8} {s d u:List UInt8} (hp:ptd isD (sg l).2=.ok (a,none,c::s)) (hc:c.toNat=47) (hd:s.takeWhile isD=d) (hu:s.dropWhile isD=u) (hne:d≠[]) :
  scn l=fin l u (sg l).1 (numB 10 a) (numB 10 d) 0 (if numB 10 d=0 then ((l.length - s.length:Nat):Int) else 0) (if numB 10 d=0 then 50 else 0):=by
 have hcut:cut l=(cutD (sg l).2).map fun p=>((sg l).1,p):=cut_dc hh
 unfold cutD at hcut
 rw [hp] at hcut
 dsimp only at hcut
 rw [if_pos ⟨rfl,hc⟩,hd,hu] at hcut
 by_cases h0:u=[]
 ·subst h0
  rw [if_neg (by simp [hne])] at hcut
  rw [scn_ok hl hcut]
  have he:s=d:=by
   have h1:=List.takeWhile_append_dropWhile (p:=isD) (l:=s)
   rw [hd,hu,List.append_nil] at h1
   exact h1.symm
  by_cases hz:numB 10 d=0
  ·rw [if_pos hz,if_pos hz,fin_late (by simp)]
   have:(Pc.fr a s).late=some (s.length,50):=if_pos (by rw [he];exact hz)
   rw [this]
   simp
  ·rw [if_neg hz,if_neg hz,fin_ok]
   have:(Pc.fr a s).late=none:=if_neg (by rw [he];exact hz)
   rw [this,he]
   rfl
 ·rw [if_pos (.inr h0)] at hcut
  rw [scn_err hl hcut,fin_left h0]
theorem dc_e3 {a:List UInt8} {b:Option (List UInt8)} {c:UInt8} {s u:List UInt8} (hp:ptd isD (sg l).2=.ok (a,b,c::s)) (hc:c.toNat=101∨c.toNat=69) (hd:(sg s).2.takeWhile isD=[]) (hu:(sg s).2.dropWhile isD=u) :
  scn l=.error (l.length - u.length,50):=by
 refine scn_err hl ?_
 rw [cut_dc hh];unfold cutD;rw [hp]
 dsimp only
 rw [if_neg (by omega),if_pos hc,xpo_all hd hu,if_pos (.inl rfl)];rfl
theorem dc_ex {a:List UInt8} {b:Option (List UInt8)} {c:UInt8} {s d u:List UInt8} (hp:ptd isD (sg l).2=.ok (a,b,c::s)) (hc:c.toNat=101∨c.toNat=69) (hd:(sg s).2.takeWhile isD=d) (hu:(sg s).2.dropWhile isD=u) (hne:d≠[]) {X:Int} (hX:X=xnum (sg s).1 d - ((ob b).length:Int)) :
  scn l=fin l u (sg l).1 (numB 10 (a++ob b)*10^X.toNat) (10^(-X).toNat) 0 (lateO (l.length - (sg s).2.length) (numB 10 d)).1 (lateO (l.length - (sg s).2.length) (numB 10 d)).2:=by
 have hcut:cut l=(cutD (sg l).2).map fun p=>((sg l).1,p):=cut_dc hh
 unfold cutD at hcut
 rw [hp] at hcut
 dsimp only at hcut
 rw [if_neg (by omega),if_pos hc,xpo_all hd hu] at hcut
 by_cases h0:u=[]
 ·subst h0
  rw [if_neg (by simp [hne])] at hcut
  rw [scn_ok hl hcut]
  have he:=sg_dig hd hu
  by_cases hlate:9999<numB 10 d
  ·rw [lateO_is hlate,fin_late (by simp)]
   have:(Pc.dc a b (some s)).late=some ((sg s).2.length,51):=if_pos (by rw [he];exact hlate)
   rw [this]
   simp
  ·rw [lateO_no hlate,fin_ok]
   have:(Pc.dc a b (some s)).late=none:=if_neg (by rw [he];exact hlate)
   rw [this,hX,xnum_ok hd hu hlate]
   rfl
 ·rw [if_pos (.inr h0)] at hcut
  rw [scn_err hl hcut,fin_left h0]
theorem dc_no {a:List UInt8} {b:Option (List UInt8)} {r:List UInt8} (hp:ptd isD (sg l).2=.ok (a,b,r)) (h1:b=none→(isR [47] r).1=false) (h2:(isR [101,69] r).1=false) {X:Int} (hX:X=0 - ((ob b).length:Int)) :
  scn l=fin l r (sg l).1 (numB 10 (a++ob b)*10^X.toNat) (10^(-X).toNat) 0 0 0:=by
 have hcut:cut l=(cutD (sg l).2).map fun p=>((sg l).1,p):=cut_dc hh
 unfold cutD at hcut
 rw [hp] at hcut
 cases r with
 | nil =>
  dsimp only at hcut
  rw [scn_ok hl hcut,fin_ok,hX]
  rfl
 | cons c s =>
  dsimp only at hcut
  have h3:¬(b=none∧c.toNat=47):=by
   rintro ⟨hb,hc⟩
   have:=h1 hb
   rw [isR_one,if_pos (by exact hc)] at this
   cases this
  have h4:¬(c.toNat=101∨c.toNat=69):=by
   intro hc
   rw [isR_two (j:=101) (k:=69) hc] at h2
   cases h2
  rw [if_neg h3,if_neg h4] at hcut
  rw [scn_err hl hcut,fin_left (by simp)]
end dec
theorem isR_f {m r:List UInt8} (h:(isR m r).1=false):isR m r=(false,r):=by
 cases r with
 | nil=>rfl
 | cons c s =>
  by_cases hc:c∈m
  ·have e:isR m (c::s)=(true,s):=if_pos hc
   rw [e] at h;cases h
  ·exact if_neg hc
theorem isR_t {j k:UInt8} {r:List UInt8} (h:¬(isR [j,k] r).1=false):∃c s,r=c::s∧(c.toNat=j.toNat∨c.toNat=k.toNat):=by
 cases r with
 | nil=>exact absurd rfl h
 | cons c s =>
  refine ⟨c,s,rfl,Classical.byContradiction fun hc=>h ?_⟩
  refine congrArg Prod.fst (show (if c∈[j,k] then (true,s) else (false,c::s))=(false,c::s) from if_neg ?_)
  intro hm
  simp at hm
  rcases hm with rfl | rfl
  ·exact hc (.inl rfl)
  ·exact hc (.inr rfl)
theorem isR_t1 {j:UInt8} {r:List UInt8} (h:¬(isR [j] r).1=false):∃c s,r=c::s∧c.toNat=j.toNat:=by
 cases r with
 | nil=>exact absurd rfl h
 | cons c s =>
  refine ⟨c,s,rfl,Classical.byContradiction fun hc=>h ?_⟩
  rw [isR_one,if_neg hc]
theorem ptd_lens {p:UInt8→Bool} {l a:List UInt8} {b:Option (List UInt8)} {r:List UInt8} (h:ptd p l=.ok (a,b,r)):(a++ob b).length+r.length≤l.length∧(∀c∈a++ob b,p c=true):=by
 obtain ⟨p1,p2,p3,p4,_⟩:=ptd_ok h
 have hlen:=congrArg List.length p1
 rw [List.length_append,List.length_append] at hlen
 have hpo:(ob b).length≤(pt b).length:=by cases b <;> simp [ob,pt]
 refine ⟨by rw [List.length_append];omega,fun c hc => ?_⟩
 rcases List.mem_append.1 hc with hc | hc
 ·exact p2 c hc
 ·exact p3 c hc
theorem kOf_is (b:Option (List UInt8)):(kOf b = -1∧(ob b).length=0)∨kOf b=((ob b).length:Int):=by
 cases b with
 | none=>exact .inl ⟨rfl,rfl⟩
 | some q=>exact .inr rfl
theorem hexy_some {T t:List UInt8} (h:hexy T=some t):∃z x,T=z::x::t∧z.toNat=48∧(x.toNat=120∨x.toNat=88):=by
 match T,h with
 | c::x::r,h =>
  have h':(if c.toNat=48∧(x.toNat=120∨x.toNat=88) then some r else none)=some t:=h
  by_cases hc:c.toNat=48∧(x.toNat=120∨x.toNat=88)
  ·rw [if_pos hc] at h'
   injection h' with h'
   subst h'
   exact ⟨c,x,rfl,hc.1,hc.2⟩
  ·rw [if_neg hc] at h';cases h'
theorem hexy_none {T:List UInt8} (h:hexy T=none):(isR [48] T).1=false∨(isR [48] T).1=true∧(isR [120,88] (isR [48] T).2).1=false:=by
 cases T with
 | nil=>exact .inl rfl
 | cons c r =>
  rw [isR_one]
  by_cases hc:c.toNat=(48:UInt8).toNat
  ·rw [if_pos hc]
   right
   refine ⟨rfl,?_⟩
   cases r with
   | nil=>rfl
   | cons x s =>
    have h':(if c.toNat=48∧(x.toNat=120∨x.toNat=88) then some s else none)=none:=h
    by_cases hx:c.toNat=48∧(x.toNat=120∨x.toNat=88)
    ·rw [if_pos hx] at h';cases h'
    ·refine congrArg Prod.fst (show (if x∈[(120:UInt8),88] then (true,s) else (false,x::s))=(false,x::s) from if_neg ?_)
     intro hm
     have hc':c.toNat=48:=hc
     refine hx ⟨hc',?_⟩
     simp at hm
     rcases hm with rfl | rfl
     ·exact .inl rfl
     ·exact .inr rfl
  ·rw [if_neg hc];exact .inl rfl
end Go.Proofs.YtigmpifjcijdbaaGreatDoor
namespace Go.Proofs.YtigmpifjcijdbaaGreatDoor
set_option linter.unusedVariables false
set_option linter.unusedSimpArgs false
open Go.RowKit Verge
set_option maxRecDepth 100000 in
set_option maxHeartbeats 8000000 in
theorem num_hex (w:World) (b:Nat) (l:List UInt8) (h:Rdr w b l l) (hl:l.length≤4096) (t:List UInt8) (hh:hexy (sg l).2=some t) :
  Calls Tryz.prog 130 #[.pointer (some ⟨b,0,none⟩)] w (NumAns w b (scn l)):=by
 have hS:=St.start h
 have hbl:=h.lt
 have hbP:¬b=w.heap.size+1:=by omega
 have hbP':¬w.heap.size+1=b:=by omega
 have hbQ:¬b=w.heap.size+1+1:=by omega
 have hbQ':¬w.heap.size+1+1=b:=by omega
 have hbR:¬b=w.heap.size:=by omega
 obtain ⟨g1,g2,g3⟩:=sgR l
 obtain ⟨z,x,hr,hz,hx⟩:=hexy_some hh
 have hrl:(z::x::t).length≤l.length:=by rw [←hr];exact sg_le l
 have HIm:=Lib.hid (fun W h=>is_any W b l l [45] h (by omega) (by simp))
 have HIp:=Lib.hid (fun W h=>is_any W b l (isR [45] l).2 [43] h (by omega) (by simp))
 rw [show bs [45]={ data:=#[45] } from rfl] at HIm
 rw [show bs [43]={ data:=#[43] } from rfl] at HIp
 have e0:isR [48] (z::x::t)=(true,x::t):=isR_one.trans (if_pos hz)
 have e1:isR [120,88] (x::t)=(true,t):=isR_two hx
 have hI0:=fun W h=>is_any W b l (z::x::t) [48] h (by omega) (by simp)
 have hI1:=fun W h=>is_any W b l (x::t) [120,88] h (by omega) (by simp)
 rw [e0,show bs [48]={ data:=#[48] } from rfl] at hI0
 rw [e1,show bs [120,88]={ data:=#[120,88] } from rfl] at hI1
 have hP:=fun W h=>pointed_any W b l t 16 h (by omega)
 rw [pB16,show ((16:Nat):Int)=16 from rfl] at hP
 have HI0:=Lib.hid hI0
 have HI1:=Lib.hid hI1
 have HPt:=Lib.hid hP
 have htl:t.length+2≤l.length:=hrl
 rw [hr] at g2 g3
 rw [g1] at HIm
 have HS:=Lib.hid hS
 have HL:=Lib.hid (And.intro hl hh)
 have hln:l.length≤4096:=hl
 have HG:=Lib.hid (And.intro g2 g3)
 obtain ⟨S1,hS1⟩:∃S,bs l=S:=⟨_,rfl⟩
 have hszS:S1.size=l.length:=by rw [←hS1];exact bs_size l
 generalize hn:(sg l).1=n at *
 have HN:=Lib.hid hn
 clear hS g1 g2 g3 hrl e0 e1 hI0 hI1 hP hr hl hz hx h hh hn
 go_enter Tryz.func130,Tryz.ntmps130
 go_upto_region 4 with fail
 go_cut [14] from 14 to 16 (fun s wx=>Hid (St w b l (w.heap.size+1) (w.heap.size+1+1) (isR [45] l).2 n 0 (.slice none 0 0) 1 (.slice (some ⟨w.heap.size+1+1+1,0,none⟩) 1 1) 0 0 0 wx))
 case first =>
  go_wp2_with (go_at_call 139;refine (HIm.out _ HS.out.rdr).mono ?_;rintro e w1 ⟨rfl,h1⟩;have hs:=HS.out.go h1.1 h1.2;obtain ⟨⟨q0,q1,q2,q3⟩,⟨f0,f1,f2,f3⟩,m0,m1,mf0,mf1⟩:=hs.cells;have HS1:=Lib.hid hs;clear hs h1)
  go_meet
  exact HS1.out.putN n
 case rest =>
  have HS1:=hcut
  clear hcut HIm HS
  obtain ⟨⟨q0,q1,q2,q3⟩,⟨f0,f1,f2,f3⟩,m0,m1,mf0,mf1⟩:=HS1.out.cells
  go_upto_if 19 with fail
  go_cut [20] from 20 to 21 (fun s wx=>Hid (St w b l (w.heap.size+1) (w.heap.size+1+1) (z::x::t) n 0 (.slice none 0 0) 1 (.slice (some ⟨w.heap.size+1+1+1,0,none⟩) 1 1) 0 0 0 wx))
  case first =>
   cases n with
   | true =>
    have hg:=HG.out.1 rfl
    rw [hg] at HS1
    go_wp2
    go_meet
    exact HS1
   | false =>
    have hg:=HG.out.2 rfl
    rw [hg] at HIp
    go_wp2_with (go_at_call 139;refine (HIp.out _ HS1.out.rdr).mono ?_;rintro e w9 ⟨rfl,h1⟩;have HS2:=Lib.hid (HS1.out.go h1.1 h1.2);clear h1)
    go_meet
    exact HS2
  case rest =>
   have HS2:=hcut
   clear hcut HS1 q0 q1 q2 q3 f0 f1 f2 f3 m0 m1 mf0 mf1 HIp HG
   obtain ⟨⟨q0,q1,q2,q3⟩,⟨f0,f1,f2,f3⟩,m0,m1,mf0,mf1⟩:=HS2.out.cells
   obtain ⟨c0,c1,cf0,cf1⟩:=HS2.out.rdr.cellsAt hS1 rfl
   go_upto_block 0 with fail
   go_cut [] (fun wx=>∃(r:List UInt8) (N M:Nat) (V D:Value) (k fx fy:Int),Hid (St w b l (w.heap.size+1) (w.heap.size+1+1) r n N V M D k fx fy wx)∧Hid (scn l=fin l r n N M k fx fy)∧0≤fx)
   case first =>
    clear q0 q1 q2 q3 f0 f1 f2 f3 m0 m1 mf0 mf1 c0 c1 cf0 cf1
    cases hp:ptd isX t with
    | error k =>
     have HF:=Lib.hid (hx_e1 HL.out.1 HL.out.2 hp)
     have hPt':=HPt.out
     rw [hp] at hPt'
     unfold Point at hPt'
     dsimp only at hPt'
     have HP:=Lib.hid hPt'
     clear hPt' hp HPt
     go_wp2_with (first
      | (go_at_call 139;(with_reducible refine (HI0.out _ HS2.out.rdr).mono ?_);rintro e w2 ⟨rfl,h1⟩;have HS3:=Lib.hid (HS2.out.go h1.1 h1.2);clear h1)
      | (go_at_call 139;(with_reducible refine (HI1.out _ HS3.out.rdr).mono ?_);rintro e w3 ⟨rfl,h1⟩;have HS4:=Lib.hid (HS3.out.go h1.1 h1.2);clear h1)
      | (go_at_call 140;(with_reducible refine (HP.out _ HS4.out.rdr).mono ?_);rintro e w4 ⟨rfl,h1⟩))
     rw [HF.out]
     exact ⟨rfl,rfl,grownBy_trans HS4.out.grow h1⟩
    | ok abr =>
     obtain ⟨a,bo,r1⟩:=abr
     have hPt':=HPt.out
     rw [hp] at hPt'
     unfold Point at hPt'
     dsimp only at hPt'
     obtain ⟨hal,hac⟩:=ptd_lens hp
     have hN:=fun W=>natural_any (a++ob bo) 16 (.inr rfl) (fun c hc=>vl_X (hac c hc)) (by omega) W
     rw [show ((16:Nat):Int)=16 from rfl] at hN
     have HNt:=Lib.hid hN
     have hko:=kOf_is bo
     have hnlb:(ob bo).length≤4096:=by rw [List.length_append] at hal;omega
     generalize hA:a++ob bo=A at *
     generalize hnl:(ob bo).length=nl at *
     have HPP:=Lib.hid (And.intro hp (And.intro hA hnl))
     generalize kOf bo=ko at *
     have HP:=Lib.hid hPt'
     generalize hNA:numB 16 A=NA at *
     have HNA:=Lib.hid hNA
     generalize bs A=BA at *
     have hr1l:r1.length≤4096:=by omega
     have hI2:=fun W h=>is_any W b l r1 [112,80] h (by omega) (by simp)
     rw [show bs [112,80]={ data:=#[112,80] } from rfl] at hI2
     clear hPt' HPt hN hal hac hp hA hnl hNA
     by_cases hi:(isR [112,80] r1).1=false
     ·have HF:=Lib.hid (hx_e2 HL.out.1 HL.out.2 HPP.out.1 hi)
      rw [isR_f hi] at hI2
      have HI2:=Lib.hid hI2
      have HFl:=Lib.hid (fun W h=>fail_any W b l r1 h)
      clear hI2 hi
      go_wp2_with (first
       | (go_at_call 139;(with_reducible refine (HI0.out _ HS2.out.rdr).mono ?_);rintro e w2 ⟨rfl,h1⟩;have HS3:=Lib.hid (HS2.out.go h1.1 h1.2);clear h1)
       | (go_at_call 139;(with_reducible refine (HI1.out _ HS3.out.rdr).mono ?_);rintro e w3 ⟨rfl,h1⟩;have HS4:=Lib.hid (HS3.out.go h1.1 h1.2);clear h1)
       | (go_at_call 140;(with_reducible refine (HP.out _ HS4.out.rdr).mono ?_);rintro e w4 ⟨rfl,h1⟩;have HS5:=Lib.hid (HS4.out.go h1.1 h1.2);clear h1)
       | (go_at_call 139;(with_reducible refine (HI2.out _ HS5.out.rdr).mono ?_);rintro e w5 ⟨rfl,h1⟩;have HS6:=Lib.hid (HS5.out.go h1.1 h1.2);clear h1)
       | (go_at_call 141;(with_reducible refine (HFl.out _ HS6.out.rdr).mono ?_);rintro e wz ⟨rfl,rfl⟩))
      rw [HF.out]
      exact ⟨rfl,rfl,HS6.out.grow⟩
     ·obtain ⟨c,s,rfl,hc⟩:=isR_t hi
      rw [isR_two hc] at hI2
      have HI2:=Lib.hid hI2
      have HC:=Lib.hid hc
      obtain ⟨d,hd⟩:∃d,(sg s).2.takeWhile isD=d:=⟨_,rfl⟩
      obtain ⟨u,hu⟩:∃u,(sg s).2.dropWhile isD=u:=⟨_,rfl⟩
      clear hI2 hi hc
      by_cases hd0:d=[]
      ·subst hd0
       have HF:=Lib.hid (hx_e3 HL.out.1 HL.out.2 HPP.out.1 HC.out hd hu)
       have HXn:=Lib.hid (fun W h=>exponent_no W b l s h (by omega) u hd hu)
       clear hd hu
       go_wp2_with (first
        | (go_at_call 139;(with_reducible refine (HI0.out _ HS2.out.rdr).mono ?_);rintro e w2 ⟨rfl,h1⟩;have HS3:=Lib.hid (HS2.out.go h1.1 h1.2);clear h1)
        | (go_at_call 139;(with_reducible refine (HI1.out _ HS3.out.rdr).mono ?_);rintro e w3 ⟨rfl,h1⟩;have HS4:=Lib.hid (HS3.out.go h1.1 h1.2);clear h1)
        | (go_at_call 140;(with_reducible refine (HP.out _ HS4.out.rdr).mono ?_);rintro e w4 ⟨rfl,h1⟩;have HS5:=Lib.hid (HS4.out.go h1.1 h1.2);clear h1)
        | (go_at_call 139;(with_reducible refine (HI2.out _ HS5.out.rdr).mono ?_);rintro e w5 ⟨rfl,h1⟩;have HS6:=Lib.hid (HS5.out.go h1.1 h1.2);clear h1)
        | (go_at_call 142;(with_reducible refine (HXn.out _ HS6.out.rdr).mono ?_);rintro e wz ⟨rfl,h1⟩))
       rw [HF.out]
       exact ⟨rfl,rfl,grownBy_trans HS6.out.grow h1⟩
      ·have hfin:=hx_ok HL.out.1 HL.out.2 HPP.out.1 HC.out hd hu hd0
       have hX:=fun W h=>exponent_any W b l s h (by omega) d u hd hu hd0
       have hxn:(if (sg s).1 then -((min (numB 10 d) 9999:Nat):Int) else ((min (numB 10 d) 9999:Nat):Int))=xnum (sg s).1 d:=rfl
       rw [hxn] at hX
       rw [HPP.out.2.1,HPP.out.2.2,HNA.out,HN.out] at hfin
       have hXl:=xnum_le (sg s).1 d
       have hLX:0≤(lateO (l.length - (sg s).2.length) (numB 10 d)).1:=by unfold lateO;split <;> simp
       generalize xnum (sg s).1 d=X at *
       generalize (lateO (l.length - (sg s).2.length) (numB 10 d)).1=LX at *
       generalize (lateO (l.length - (sg s).2.length) (numB 10 d)).2=LY at *
       have HX:=Lib.hid hX
       have HF:=Lib.hid hfin
       clear hd hu hX hfin hd0 hxn
       rcases hko with ⟨rfl,rfl⟩ | rfl
       ·go_wp2_with (first
         | (go_at_call 139;(with_reducible refine (HI0.out _ HS2.out.rdr).mono ?_);rintro e w2 ⟨rfl,h1⟩;have HS3:=Lib.hid (HS2.out.go h1.1 h1.2);clear h1)
         | (go_at_call 139;(with_reducible refine (HI1.out _ HS3.out.rdr).mono ?_);rintro e w3 ⟨rfl,h1⟩;have HS4:=Lib.hid (HS3.out.go h1.1 h1.2);clear h1)
         | (go_at_call 140;(with_reducible refine (HP.out _ HS4.out.rdr).mono ?_);rintro e w4 ⟨rfl,h1⟩;have HS5:=Lib.hid (HS4.out.go h1.1 h1.2);clear h1)
         | (go_at_call 139;(with_reducible refine (HI2.out _ HS5.out.rdr).mono ?_);rintro e w5 ⟨rfl,h1⟩;have HS6:=Lib.hid (HS5.out.go h1.1 h1.2);clear h1)
         | (go_at_call 142;(with_reducible refine (HX.out _ HS6.out.rdr).mono ?_);rintro e w6 ⟨rfl,h1⟩;have hs:=HS6.out.go h1.1 h1.2;obtain ⟨⟨q60,q61,q62,q63⟩,⟨f60,f61,f62,f63⟩,m60,m61,mf60,mf61⟩:=hs.cells;have HS7:=Lib.hid ((hs.putK X).fault LX LY);clear hs h1)
         | (go_at_call 143;(with_reducible refine (HNt.out _).mono ?_);rintro e w7 ⟨v7,rfl,⟨A7,rfl,hR7⟩,hb7⟩;have hv7:IsT NA (.slice A7 (dig NA).length (dig NA).length) w7:=⟨A7,rfl,hR7⟩;have hs:=HS7.out.below hb7;obtain ⟨⟨q70,q71,q72,q73⟩,⟨f70,f71,f72,f73⟩,m70,m71,mf70,mf71⟩:=hs.cells;have HS8:=Lib.hid (hs.putV hv7);clear hs hv7 hR7 hb7))
        go_meet
        exact ⟨u,NA,1,_,_,X,LX,LY,Lib.hid (HS8.out.putK X),Lib.hid (by rw [HF.out];simp),hLX⟩
       ·go_wp2_with (first
         | (go_at_call 139;(with_reducible refine (HI0.out _ HS2.out.rdr).mono ?_);rintro e w2 ⟨rfl,h1⟩;have HS3:=Lib.hid (HS2.out.go h1.1 h1.2);clear h1)
         | (go_at_call 139;(with_reducible refine (HI1.out _ HS3.out.rdr).mono ?_);rintro e w3 ⟨rfl,h1⟩;have HS4:=Lib.hid (HS3.out.go h1.1 h1.2);clear h1)
         | (go_at_call 140;(with_reducible refine (HP.out _ HS4.out.rdr).mono ?_);rintro e w4 ⟨rfl,h1⟩;have HS5:=Lib.hid (HS4.out.go h1.1 h1.2);clear h1)
         | (go_at_call 139;(with_reducible refine (HI2.out _ HS5.out.rdr).mono ?_);rintro e w5 ⟨rfl,h1⟩;have HS6:=Lib.hid (HS5.out.go h1.1 h1.2);clear h1)
         | (go_at_call 142;(with_reducible refine (HX.out _ HS6.out.rdr).mono ?_);rintro e w6 ⟨rfl,h1⟩;have hs:=HS6.out.go h1.1 h1.2;obtain ⟨⟨q60,q61,q62,q63⟩,⟨f60,f61,f62,f63⟩,m60,m61,mf60,mf61⟩:=hs.cells;have HS7:=Lib.hid ((hs.putK X).fault LX LY);clear hs h1)
         | (go_at_call 143;(with_reducible refine (HNt.out _).mono ?_);rintro e w7 ⟨v7,rfl,⟨A7,rfl,hR7⟩,hb7⟩;have hv7:IsT NA (.slice A7 (dig NA).length (dig NA).length) w7:=⟨A7,rfl,hR7⟩;have hs:=HS7.out.below hb7;obtain ⟨⟨q70,q71,q72,q73⟩,⟨f70,f71,f72,f73⟩,m70,m71,mf70,mf71⟩:=hs.cells;have HS8:=Lib.hid (hs.putV hv7);clear hs hv7 hR7 hb7))
        go_meet
        exact ⟨u,NA,1,_,_,X - 4*(nl:Int),LX,LY,Lib.hid (HS8.out.putK _),HF,hLX⟩
   case rest =>
    obtain ⟨r,N,M,V,D,k,fx,fy,HS3,HF,hfx⟩:=hcut
    obtain ⟨AV,rfl,hRV⟩:=HS3.out.isV
    obtain ⟨AD,rfl,hRD⟩:=HS3.out.isD
    clear hRV hRD
    clear HS2
    obtain ⟨⟨p0,p1,p2,p3⟩,⟨pf0,pf1,pf2,pf3⟩,m0,m1,mf0,mf1⟩:=HS3.out.cells
    obtain ⟨c0,c1,cf0,cf1⟩:=HS3.out.rdr.cellsAt hS1 rfl
    obtain ⟨⟨z0,z1,z2,z3⟩,zf0,zf1,zf2,zf3⟩:=HS3.out.rcells
    cases r with
    | cons c0' r' =>
     have hrl':=HS3.out.rdr.1
     have hlt:((l.length - (c0'::r').length:Nat):Int)<(l.length:Int):=by
      rw [List.length_cons] at hrl' ⊢;omega
     have HFl:=Lib.hid (fun W h=>fail_any W b l (c0'::r') h)
     generalize hq:l.length - (c0'::r').length=q at *
     have HQ:=Lib.hid hq
     clear hq hrl'
     go_upto_region 30 with fail
     go_quiet (fail)
     go_wp2_with (go_at_call 141;refine (HFl.out _ (HS3.out.drewN _).rdr).mono ?_;rintro e wz ⟨rfl,rfl⟩)
     rw [HF.out,fin_left (by simp),HQ.out]
     exact ⟨rfl,rfl,(HS3.out.drewN _).grow⟩
    | nil =>
     rw [show l.length - ([]:List UInt8).length=l.length from rfl] at c1
     by_cases hy:fy=0
     ·subst hy
      go_upto_region 30 with fail
      go_quiet (fail)
      go_wp2
      obtain ⟨o1,o2,o3,o4⟩:=(HS3.out.drewN nq).out
      obtain ⟨y0,y1,y2,y3⟩:=putR_read o1
      unfold putR at y0 y1 y2 y3
      rw [HF.out,fin_ok]
      refine bodyPost_ret (v:=.agg #[.bool n,.slice AV (dig N).length (dig N).length,.slice AD (dig M).length (dig M).length,.int .i64 k]) (by simp [results,Tryz.results130,go_sem,y0,y1,y2,y3]) rfl ?_
      exact ⟨_,_,rfl,o2,o3,o4⟩
     ·have hyb:(fy != 0)=true:=by simpa using hy
      go_upto_region 30 with fail
      go_quiet (fail)
      go_wp2
      rw [HF.out,fin_late hy]
      have e:((fx.toNat:Nat):Int)=fx:=Int.toNat_of_nonneg hfx
      exact ⟨rfl,by rw [e],(HS3.out.drewN _).grow⟩
end Go.Proofs.YtigmpifjcijdbaaGreatDoor
namespace Go.Proofs.YtigmpifjcijdbaaGreatDoor
set_option linter.unusedVariables false
set_option linter.unusedSimpArgs false
open Go Go.RowKit
def lateOk (ops:Array Oper) (m p:Nat):Bool:=decide (m+1=ops.size)&&decide (p<m)&&(List.range m).all fun j=>decide (j=p)||(ancB ops m).contains j
def storeOk (ops:Array Oper) (m p:Nat):Bool:=
 match ops[m]?,ops[p]? with
 | some s,some o=>s.guard.isNone&&s.dst.isNone&&(match s.op,o.dst with | .store _ (.tmp x) (.tmp y),some d=>decide (d≠x)&&decide (d≠y) | _,_=>false)
 | _,_=>false
theorem exec_put {s:Oper} {t:TypeId} {x y d:Nat} (hs:s.op=.store t (.tmp x) (.tmp y)) (hx:d≠x) (hy:d≠y) (a:Act) (v:Value):execOp (a.put (some d) v).eval s=execOp a.eval s:=by
 have e:∀t,d≠t→(a.put (some d) v).eval (.tmp t)=a.eval (.tmp t):=by
  intro t ht
  simp only [Act.put,Act.eval,Array.getD_eq_getD_getElem?]
  rw [Array.getElem?_setIfInBounds_ne ht]
 unfold execOp
 rw [hs]
 simp only [e x hx,e y hy]
theorem store_ok {ops:Array Oper} {m p:Nat} (h:storeOk ops m p=true):∀s,ops[m]?=some s→s.guard=none∧s.dst=none∧∀o,ops[p]?=some o→∀(a:Act) (v:Value),execOp (a.put o.dst v).eval s=execOp a.eval s:=by
 intro s hs
 unfold storeOk at h
 rw [hs] at h
 cases ho:ops[p]? with
 | none=>rw [ho] at h;cases h
 | some o =>
  rw [ho] at h
  simp only [Bool.and_eq_true,Option.isNone_iff_eq_none] at h
  refine ⟨h.1.1,h.1.2,fun o' ho' a v => ?_⟩
  injection ho' with ho'
  subst ho'
  have h2:=h.2
  split at h2
  ·rename_i t x y d hop hd
   simp only [Bool.and_eq_true,decide_eq_true_eq] at h2
   rw [hd]
   exact exec_put hop h2.1 h2.2 a v
  ·cases h2
def Leave (P:Program) (s:Oper) (a:Act) (w:World) (C:World→Prop):Prop:=∃w2,((execOp a.eval s).run P w=.ok .skip w2∨∃v,(execOp a.eval s).run P w=.ok (.value v) w2)∧C w2
theorem Leave.wp {P:Program} {s:Oper} {a:Act} {w:World} {C:World→Prop} {K:Act→World→Prop} {Q:Exit→Act→World→Prop} (hd:s.dst=none) (h:Leave P s a w C) (hK:∀w2,C w2→K a w2):s.wp P a w K Q:=by
 obtain ⟨w2,h,hc⟩:=h
 have hp:∀v,a.put s.dst v=a:=fun v=>by unfold Act.put;rw [hd]
 unfold Oper.wp
 rcases h with h | ⟨v,h⟩
 ·rw [h,Oper.upon_skip,hp];exact hK w2 hc
 ·rw [h,Oper.upon_value,hp];exact hK w2 hc
section
variable {P:Program} {ops:Array Oper} {Φ:Nat→Value→World→Prop} {a0:Act} {w0:World} {Q:Exit→Act→World→Prop}
variable (hok:regOk ops a0.tmps.size=true) (hmono:∀i v w w',Below w.heap.size w w'→Φ i v w→Φ i v w') {front rest:List Oper} (hfr:ops.toList=front++rest) (heach:Each P ops Φ a0 w0 0 front)
include hok hmono hfr heach
theorem reg_late (p:Nat) (hlast:lateOk ops front.length p=true)
    (hpure:∀o,ops[p]?=some o→o.guard=none∧∀(a:Act) (w:World),a.tmps.size=a0.tmps.size→Sees ops Φ a0 p a w (o.looksAt ops)→∃v,∀w2,(execOp a.eval o).run P w2=.ok (.value v) w2)
    (hst:∀s,ops[front.length]?=some s→s.guard=none∧s.dst=none∧∀o,ops[p]?=some o→∀(a:Act) (v:Value),execOp (a.put o.dst v).eval s=execOp a.eval s)
    (hfin:∀f w',Below w0.heap.size w0 w'→HoldFrom Φ f w' 0 front→∀s,ops[front.length]?=some s→Leave P s (putFrom f 0 front a0) w' (Q .normal (putFrom f 0 front a0))) :
    ∀(fuel:Nat) (L:Array Bool) (f:Nat→Value) (a:Act) (w:World),L.size=ops.size→(∀j,front.length≤j→L.getD j false=false)→((List.range ops.size).filter fun j => !L.getD j false).length≤fuel→RegInv ops Φ a0 w0 L f a w→wpAny P .any ops Q fuel L a w:=by
  have hlen:ops.size=front.length+rest.length:=by
    have:=congrArg List.length hfr
    simpa using this
  unfold lateOk at hlast
  simp only [Bool.and_eq_true,decide_eq_true_eq] at hlast
  obtain ⟨⟨hsize,hpm⟩,hanc⟩:=hlast
  have hop:ops[p]?=some ops[p]:=Array.getElem?_eq_getElem (by omega)
  have hos:ops[front.length]?=some ops[front.length]:=Array.getElem?_eq_getElem (by omega)
  obtain ⟨hgp,hrunp⟩:=hpure _ hop
  obtain ⟨hgs,hds,hsame⟩:=hst _ hos
  have hsame:=hsame _ hop
  have hend:∀(L:Array Bool) (f:Nat→Value) (a:Act) (w:World),RegInv ops Φ a0 w0 L f a w→(∀j,j<ops.size→L.getD j false=decide (j<front.length))→Leave P ops[front.length] a w (Q .normal a):=by
    intro L f a w hI hall
    rw [reg_front hok hfr hI hall]
    exact hfin f w hI.below (hold_of f w _ 0 fun j hj=>by rw [Nat.zero_add];exact hI.hold j (by rw [hall j (by omega)];simpa using hj)) _ hos
  have hwant:∀o:Oper,o.guard=none→∀ys,Region.wanted o ys=true:=fun o ho ys=>by simp [Region.wanted,ho]
  have hnorm:∀(L:Array Bool) (f:Nat→Value) (a:Act) (w:World),L.size=ops.size→(∀j,front.length≤j→L.getD j false=false)→RegInv ops Φ a0 w0 L f a w→Region.ready .any ops L=[]→Q .normal a w:=by
    intro L f a w hLs hback hI h0
    have hall:=ready_none hok hLs h0
    have:=hall front.length (by omega)
    rw [hback _ (Nat.le_refl _)] at this
    cases this
  intro fuel
  induction fuel with
  | zero =>
    intro L f a w hLs hback hcnt hI
    have hall:∀j,j<ops.size→L.getD j false=true:=by
      intro j hj
      cases hL:L.getD j false with
      | true=>rfl
      | false =>
        exfalso
        have:j∈(List.range ops.size).filter fun j => !L.getD j false:=List.mem_filter.2 ⟨List.mem_range.2 hj,by simp [hL]⟩
        have:=List.length_pos_of_mem this
        omega
    exact ⟨ready_all hLs hall,hnorm L f a w hLs hback hI (ready_all hLs hall)⟩
  | succ fuel ih =>
    intro L f a w hLs hback hcnt hI
    refine ⟨fun h0=>hnorm L f a w hLs hback hI h0,fun i hi => ?_⟩
    unfold Region.ready at hi
    rw [List.mem_filter] at hi
    obtain ⟨hi1,hi2⟩:=hi
    have hi1:=List.mem_range.1 hi1
    have ho:ops[i]?=some ops[i]:=Array.getElem?_eq_getElem hi1
    rw [getD_tf hLs hi1,ho] at hi2
    simp only [Option.map_some,Option.getD_some,Bool.and_eq_true,Bool.not_eq_true',Array.all_eq_true',Bool.or_eq_true] at hi2
    obtain ⟨hL,hr⟩:=hi2
    have hr':∀e∈ops[i].after,Region.binds .any e=true→L.getD e.on false=true:=fun e he hb=>by
      rcases hr e he with h | h
      · rw [hb] at h;cases h
      · exact h
    unfold wpOp
    rw [ho]
    simp only []
    by_cases hif:i<front.length
    · have hstep := reg_step (Q := Q) hok hmono hfr heach hLs hI hif ho hL hr' (K := wpAny P .any ops Q fuel (L.setIfInBounds i true)) (fun f' a' w' hI' => ih _ f' a' w' (by simp [hLs]) (fun j hj => by
          rw [getD_set_tf (by omega),if_neg (by omega)];exact hback j hj) ?_ hI')
      · split
        · rename_i hw;rw [if_pos hw] at hstep;exact .inl hstep
        · rename_i hw;rw [if_neg hw] at hstep;exact hstep
      · have hlt:((List.range ops.size).filter fun j => !(L.setIfInBounds i true).getD j false).length<((List.range ops.size).filter fun j => !L.getD j false).length:=by
          have e1:((List.range ops.size).filter fun j => !(L.setIfInBounds i true).getD j false)=((List.range ops.size).filter fun j => !L.getD j false).filter (fun j=>decide (j≠i)):=by
            rw [List.filter_filter]
            refine List.filter_congr fun j _ => ?_
            rw [getD_set_tf (by omega)]
            by_cases e:j=i
            · simp [e]
            · simp [e]
          rw [e1]
          refine List.length_filter_lt_length_iff_exists.2 ⟨i,List.mem_filter.2 ⟨List.mem_range.2 hi1,by simp [hL]⟩,by simp⟩
        omega
    ·
      obtain rfl:i=front.length:=by omega
      have hoth:∀j,j<front.length→j≠p→L.getD j false=true:=by
        intro j hj hjp
        have hmem:=List.all_eq_true.1 hanc j (List.mem_range.2 hj)
        simp only [Bool.or_eq_true,decide_eq_true_eq] at hmem
        rcases hmem with h | h
        · exact absurd h hjp
        · rcases anc_listed hI.shut (fun o ho'=>by rw [ho] at ho';injection ho' with e;subst e;exact hr') j (by simpa using h) with h | h
          · omega
          · exact h
      rw [if_pos (hwant _ hgs _)]
      refine .inl ?_
      cases hLp:L.getD p false with
      | true =>
        have hall:∀j,j<ops.size→L.getD j false=decide (j<front.length):=by
          intro j hj
          by_cases hjf:j<front.length
          · by_cases e:j=p
            · subst e;rw [hLp];simp [hjf]
            · rw [hoth j hjf e];simp [hjf]
          · rw [hback j (by omega)];simp [hjf]
        refine (hend L f a w hI hall).wp hds fun w2 hq=>any_done (by simp [hLs]) (fun j hj => ?_) hq fuel
        rw [getD_set_tf (by omega)]
        by_cases e:j=front.length
        · rw [if_pos e]
        · rw [if_neg e,hall j hj];simp;omega
      | false =>
        have hrp:∀e∈ops[p].after,Region.binds .any e=true→L.getD e.on false=true:=by
          intro e he hb
          have hone:=reg_one hok hop
          unfold regOne at hone
          simp only [Bool.and_eq_true] at hone
          have:=(Array.all_eq_true'.1 hone.1.1) e he
          simp only [Bool.or_eq_true,Bool.not_eq_true',decide_eq_true_eq] at this
          rcases this with h | h
          · rw [hb] at h;cases h
          · exact hoth e.on (by omega) (by omega)
        have hsees:=reg_sees hok hI hop hLp hrp _ fun s hs=>hs
        obtain ⟨v,hrun⟩:=hrunp a w hI.desc.2.1 hsees
        have hs:=reg_step (Q:=Q) hok hmono hfr heach hLs hI hpm hop hLp hrp (K:=fun a' w'=>∃f',RegInv ops Φ a0 w0 (L.setIfInBounds p true) f' a' w') (fun f' a' w' h=>⟨f',h⟩)
        rw [if_pos (hwant _ hgp _)] at hs
        unfold Oper.wp at hs
        rw [hrun w,Oper.upon_value] at hs
        obtain ⟨f',hI'⟩:=hs
        have hall:∀j,j<ops.size→(L.setIfInBounds p true).getD j false=decide (j<front.length):=by
          intro j hj
          rw [getD_set_tf (by omega)]
          by_cases e:j=p
          · rw [if_pos e];simp;omega
          · rw [if_neg e]
            by_cases hjf:j<front.length
            · rw [hoth j hjf e];simp [hjf]
            · rw [hback j (by omega)];simp [hjf]
        have hl:=hend _ f' _ w hI' hall
        have hl2:Leave P ops[front.length] a w (Q .normal (a.put ops[p].dst v)):=by
          obtain ⟨w2,h,hc⟩:=hl
          rw [hsame] at h
          exact ⟨w2,h,hc⟩
        refine hl2.wp hds fun w2 hq => ?_
        have hset:∀j,(L.setIfInBounds front.length true).getD j false=if j=front.length then true else L.getD j false:=fun j=>getD_set_tf (by omega) j
        have hpu:(L.setIfInBounds front.length true).getD p false=false:=by rw [hset,if_neg (by omega)];exact hLp
        cases fuel with
        | zero =>
          exfalso
          have m1:p∈(List.range ops.size).filter fun j => !L.getD j false:=List.mem_filter.2 ⟨List.mem_range.2 (by omega),by simp [hLp]⟩
          have m2:front.length∈(List.range ops.size).filter fun j => !L.getD j false:=List.mem_filter.2 ⟨List.mem_range.2 (by omega),by simp [hL]⟩
          cases hx:(List.range ops.size).filter fun j => !L.getD j false with
          | nil=>rw [hx] at m1;cases m1
          | cons x xs =>
            cases xs with
            | nil =>
              rw [hx] at m1 m2
              simp at m1 m2
              omega
            | cons y ys=>rw [hx] at hcnt;simp at hcnt
        | succ k =>
          refine ⟨fun h0 => ?_,fun i hi => ?_⟩
          · have:=ready_none hok (by simp [hLs]) h0 p (by omega)
            rw [hpu] at this;cases this
          · unfold Region.ready at hi
            rw [List.mem_filter] at hi
            have hi1:=List.mem_range.1 hi.1
            have hi2:=hi.2
            rw [getD_tf (by simp [hLs]) hi1] at hi2
            simp only [Bool.and_eq_true,Bool.not_eq_true'] at hi2
            have hip:i=p:=by
              refine Classical.byContradiction fun e => ?_
              have:=hi2.1
              rw [hset] at this
              by_cases e2:i=front.length
              · rw [if_pos e2] at this;cases this
              · rw [if_neg e2,hoth i (by omega) e] at this;cases this
            subst hip
            unfold wpOp
            rw [hop]
            simp only []
            rw [if_pos (hwant _ hgp _)]
            refine .inl ?_
            unfold Oper.wp
            rw [hrun w2,Oper.upon_value]
            refine any_done (by simp [hLs]) (fun j hj => ?_) hq k
            rw [getD_set_tf (by simp [hLs];omega),hset]
            by_cases e:j=i
            · rw [if_pos e]
            · rw [if_neg e]
              by_cases e2:j=front.length
              · rw [if_pos e2]
              · rw [if_neg e2];exact hoth j (by omega) e
end
theorem region_late {P:Program} {ops:Array Oper} {a0:Act} {w0:World} {Q:Exit→Act→World→Prop} {id:Nat} (k p:Nat) (Φ:Nat→Value→World→Prop) (hm:P.follows .mixedOrders=true) (hok:regOk ops a0.tmps.size=true) (hlast:lateOk ops (ops.toList.take k).length p=true)
  (hmono:∀i v w w',Below w.heap.size w w'→Φ i v w→Φ i v w') (heach:Each P ops Φ a0 w0 0 (ops.toList.take k))
  (hpure:∀o,ops[p]?=some o→o.guard=none∧∀(a:Act) (w:World),a.tmps.size=a0.tmps.size→Sees ops Φ a0 p a w (o.looksAt ops)→∃v,∀w2,(execOp a.eval o).run P w2=.ok (.value v) w2)
  (hst:∀s,ops[(ops.toList.take k).length]?=some s→s.guard=none∧s.dst=none∧∀o,ops[p]?=some o→∀(a:Act) (v:Value),execOp (a.put o.dst v).eval s=execOp a.eval s)
  (hfin:∀f w',Below w0.heap.size w0 w'→HoldFrom Φ f w' 0 (ops.toList.take k)→∀s,ops[(ops.toList.take k).length]?=some s→Leave P s (putFrom f 0 (ops.toList.take k) a0) w' (Q .normal (putFrom f 0 (ops.toList.take k) a0))):(Code.region id ops true).wp P Q a0 w0:=by
 have hf0:∀j,(Array.replicate ops.size false).getD j false=false:=fun j=>by simp [Array.getD]
 refine wp_region_any hm (reg_late hok hmono (List.take_append_drop k _).symm heach p hlast hpure hst hfin ops.size _ (fun _=>undef) a0 _ (by simp) (fun j _=>hf0 j) ?_ ⟨?_,?_,?_,?_⟩)
 ·exact Nat.le_trans (List.length_filter_le _ _) (by simp)
 ·refine ⟨rfl,rfl,fun s hs => ?_⟩
  cases ownerOf ops s with
  | none=>rfl
  | some j=>simp [hf0 j]
 ·exact ⟨rfl,rfl,rfl,Nat.le_refl _,fun _ _=>rfl⟩
 ·intro j hj
  rw [hf0 j] at hj;cases hj
 ·intro j o ho hj
  rw [hf0 j] at hj;cases hj
end Go.Proofs.YtigmpifjcijdbaaGreatDoor
namespace Go.Proofs.YtigmpifjcijdbaaGreatDoor
set_option linter.unusedVariables false
set_option linter.unusedSimpArgs false
open Go.RowKit Verge
theorem ten_bits (k:Nat) (h:k≤9999):blen (10^k)≤40000:=by
 obtain ⟨z,hz⟩:∃z,z=40000:=⟨_,rfl⟩
 rw [←hz,blen_lt]
 have h1:10^k≤16^k:=Nat.pow_le_pow_left (by omega) k
 have h2:16^k=2^(4*k):=by rw [Nat.pow_mul]
 have h3:2^(4*k)<2^z:=Nat.pow_lt_pow_right (by omega) (by omega)
 omega
theorem dig_len0 {n:Nat} (h:(dig n).length=0):n=0:=by
 have:=val_dig n
 rw [List.length_eq_zero_iff.1 h] at this
 exact this.symm
set_option maxRecDepth 100000 in
set_option maxHeartbeats 16000000 in
theorem num_dec (w:World) (b:Nat) (l:List UInt8) (h:Rdr w b l l) (hl:l.length≤4096) (hh:hexy (sg l).2=none) :
  Calls Tryz.prog 130 #[.pointer (some ⟨b,0,none⟩)] w (NumAns w b (scn l)):=by
 have hS:=St.start h
 have hbl:=h.lt
 have hbP:¬b=w.heap.size+1:=by omega
 have hbP':¬w.heap.size+1=b:=by omega
 have hbQ:¬b=w.heap.size+1+1:=by omega
 have hbQ':¬w.heap.size+1+1=b:=by omega
 have hbR:¬b=w.heap.size:=by omega
 obtain ⟨g1,g2,g3⟩:=sgR l
 obtain ⟨T,hr⟩:∃T,(sg l).2=T:=⟨_,rfl⟩
 have hrl:T.length≤l.length:=by rw [←hr];exact sg_le l
 have HIm:=Lib.hid (fun W h=>is_any W b l l [45] h (by omega) (by simp))
 have HIp:=Lib.hid (fun W h=>is_any W b l (isR [45] l).2 [43] h (by omega) (by simp))
 rw [show bs [45]={ data:=#[45] } from rfl] at HIm
 rw [show bs [43]={ data:=#[43] } from rfl] at HIp
 have hP:=fun W h=>pointed_any W b l T 10 h (by omega)
 rw [pB10,show ((10:Nat):Int)=10 from rfl] at hP
 have HPt:=Lib.hid hP
 rw [hr] at g2 g3
 rw [g1] at HIm
 have HS:=Lib.hid hS
 have HL:=Lib.hid (And.intro hl (And.intro hh hr))
 have hln:l.length≤4096:=hl
 have HG:=Lib.hid (And.intro g2 g3)
 obtain ⟨S1,hS1⟩:∃S,bs l=S:=⟨_,rfl⟩
 have hszS:S1.size=l.length:=by rw [←hS1];exact bs_size l
 generalize hn:(sg l).1=n at *
 have HN:=Lib.hid hn
 clear hS g1 g2 g3 hP hr hl h hh hn
 go_enter Tryz.func130,Tryz.ntmps130
 go_upto_region 4 with fail
 go_cut [14] from 14 to 16 (fun s wx=>Hid (St w b l (w.heap.size+1) (w.heap.size+1+1) (isR [45] l).2 n 0 (.slice none 0 0) 1 (.slice (some ⟨w.heap.size+1+1+1,0,none⟩) 1 1) 0 0 0 wx))
 case first =>
  go_wp2_with (go_at_call 139;refine (HIm.out _ HS.out.rdr).mono ?_;rintro e w1 ⟨rfl,h1⟩;have hs:=HS.out.go h1.1 h1.2;obtain ⟨⟨q0,q1,q2,q3⟩,⟨f0,f1,f2,f3⟩,m0,m1,mf0,mf1⟩:=hs.cells;have HS1:=Lib.hid hs;clear hs h1)
  go_meet
  exact HS1.out.putN n
 case rest =>
  have HS1:=hcut
  clear hcut HIm HS
  obtain ⟨⟨q0,q1,q2,q3⟩,⟨f0,f1,f2,f3⟩,m0,m1,mf0,mf1⟩:=HS1.out.cells
  go_upto_if 19 with fail
  go_cut [20] from 20 to 21 (fun s wx=>Hid (St w b l (w.heap.size+1) (w.heap.size+1+1) T n 0 (.slice none 0 0) 1 (.slice (some ⟨w.heap.size+1+1+1,0,none⟩) 1 1) 0 0 0 wx))
  case first =>
   cases n with
   | true =>
    have hg:=HG.out.1 rfl
    rw [hg] at HS1
    go_wp2
    go_meet
    exact HS1
   | false =>
    have hg:=HG.out.2 rfl
    rw [hg] at HIp
    go_wp2_with (go_at_call 139;refine (HIp.out _ HS1.out.rdr).mono ?_;rintro e w9 ⟨rfl,h1⟩;have HS2:=Lib.hid (HS1.out.go h1.1 h1.2);clear h1)
    go_meet
    exact HS2
  case rest =>
   have HS2:=hcut
   clear hcut HS1 q0 q1 q2 q3 f0 f1 f2 f3 m0 m1 mf0 mf1 HIp HG
   obtain ⟨⟨q0,q1,q2,q3⟩,⟨f0,f1,f2,f3⟩,m0,m1,mf0,mf1⟩:=HS2.out.cells
   obtain ⟨c0,c1,cf0,cf1⟩:=HS2.out.rdr.cellsAt hS1 rfl
   go_upto_block 0 with fail
   go_cut [] (fun wx=>∃(r:List UInt8) (N M:Nat) (V D:Value) (k fx fy:Int),Hid (St w b l (w.heap.size+1) (w.heap.size+1+1) r n N V M D k fx fy wx)∧Hid (scn l=fin l r n N M k fx fy)∧0≤fx)
   case first =>
    clear q0 q1 q2 q3 f0 f1 f2 f3 m0 m1 mf0 mf1
    have hT1:=HS2.out.rdr.1
    have hT2:=HS2.out.rdr.2.1
    have hI0:=fun W h=>is_any W b l T [48] h (by omega) (by simp)
    have hI1:=fun W h=>is_any W b l (isR [48] T).2 [120,88] h (by omega) (by simp)
    rw [show bs [48]={ data:=#[48] } from rfl] at hI0
    rw [show bs [120,88]={ data:=#[120,88] } from rfl] at hI1
    go_upto_region 23 with fail
    go_cut [84] (fun c wx=>c=.bool false∧∃T':List UInt8,Hid (St w b l (w.heap.size+1) (w.heap.size+1+1) T' n 0 (.slice none 0 0) 1 (.slice (some ⟨w.heap.size+1+1+1,0,none⟩) 1 1) 0 0 0 wx))
    case first =>
     rcases hexy_none (HL.out.2.2▸HL.out.2.1) with h0 | ⟨h0,h1⟩
     ·rw [h0] at hI0
      have HI0:=Lib.hid hI0
      clear hI0 hI1 h0
      go_wp2_with (go_at_call 139;refine (HI0.out _ HS2.out.rdr).mono ?_;rintro e w2 ⟨rfl,h1⟩;have HS3:=Lib.hid (HS2.out.go h1.1 h1.2);clear h1)
      go_meet
      exact ⟨rfl,_,HS3⟩
     ·rw [h0] at hI0
      rw [h1] at hI1
      have HI0:=Lib.hid hI0
      have HI1:=Lib.hid hI1
      clear hI0 hI1 h0 h1
      go_wp2_with (first
       | (go_at_call 139;(with_reducible refine (HI0.out _ HS2.out.rdr).mono ?_);rintro e w2 ⟨rfl,h1⟩;have HS3:=Lib.hid (HS2.out.go h1.1 h1.2);clear h1)
       | (go_at_call 139;(with_reducible refine (HI1.out _ HS3.out.rdr).mono ?_);rintro e w3 ⟨rfl,h1⟩;have HS4:=Lib.hid (HS3.out.go h1.1 h1.2);clear h1))
      go_meet
      exact ⟨rfl,_,HS4⟩
    case rest =>
     obtain ⟨rfl,T',HS3⟩:=hcut
     clear hI0 hI1 c0 c1 cf0 cf1 HS2
     obtain ⟨c0,c1,cf0,cf1⟩:=HS3.out.rdr.cellsAt hS1 rfl
     have HS4:=Lib.hid (HS3.out.go (HS3.out.rdr.set T hT1 hT2 rfl) (grownBy_set (grownBy_refl wc _) _ _))
     have hTl:T.length≤4096:=by omega
     clear hT1 hT2
     cases hp:ptd isD T with
     | error k =>
      have HF:=Lib.hid (dc_e1 HL.out.1 HL.out.2.1 (HL.out.2.2.symm▸hp))
      have hPt':=HPt.out
      rw [hp] at hPt'
      unfold Point at hPt'
      dsimp only at hPt'
      have HP:=Lib.hid hPt'
      clear hPt' hp HPt
      go_wp2_with (go_at_call 140;(with_reducible refine (HP.out _ HS4.out.rdr).mono ?_);rintro e w4 ⟨rfl,h1⟩)
      rw [HF.out]
      exact ⟨rfl,rfl,grownBy_trans HS4.out.grow h1⟩
     | ok abr =>
      obtain ⟨a,bo,r1⟩:=abr
      have hPt':=HPt.out
      rw [hp] at hPt'
      unfold Point at hPt'
      dsimp only at hPt'
      obtain ⟨hal,hac⟩:=ptd_lens hp
      have hN:=fun W=>natural_any (a++ob bo) 10 (.inl rfl) (fun c hc=>vl_D (hac c hc)) (by omega) W
      rw [show ((10:Nat):Int)=10 from rfl] at hN
      have hr1l:r1.length≤4096:=by omega
      have hI47:=fun W h=>is_any W b l r1 [47] h (by omega) (by simp)
      rw [show bs [47]={ data:=#[47] } from rfl] at hI47
      have hIe:=fun W h=>is_any W b l r1 [101,69] h (by omega) (by simp)
      rw [show bs [101,69]={ data:=#[101,69] } from rfl] at hIe
      have hNb:blen (numB 10 (a++ob bo))≤20000:=blenB (by omega) (fun c hc=>(vl_D (hac c hc)).2) (by omega)
      have hnlb:(ob bo).length≤4096:=by rw [List.length_append] at hal;omega
      rw [←HL.out.2.2] at hp
      clear HPt hal hac hTl
      cases bo with
      | none =>
       rw [show kOf none = -1 from rfl] at hPt'
       rw [show a++ob none=a by simp [ob]] at hPt' hN hNb
       clear hnlb
       by_cases h47:(isR [47] r1).1=false
       ·rw [isR_f h47] at hI47
        by_cases he:(isR [101,69] r1).1=false
        ·have hfin:=dc_no HL.out.1 HL.out.2.1 hp (fun _=>h47) he (X:=0 - ((ob none).length:Int)) rfl
         rw [isR_f he] at hIe
         rw [show a++ob none=a by simp [ob],show (0 - ((ob none).length:Int))=0 by simp [ob],HN.out] at hfin
         have hT0:=fun W=>ten_any 0 (by omega) W
         rw [show ((0:Nat):Int)=0 from rfl] at hT0
         obtain ⟨TX,hTX⟩:∃TX,TX=10^0:=⟨_,rfl⟩
         rw [←hTX] at hT0
         have HBl:=Lib.hid (And.intro (show blen (numB 10 a)≤100000 by omega) (show blen TX≤100000 by rw [hTX];decide))
         have HTX:=Lib.hid hTX
         generalize hNA:numB 10 a=NA at *
         generalize bs a=BA at *
         have HP:=Lib.hid hPt'
         have HNt:=Lib.hid hN
         have HI47:=Lib.hid hI47
         have HIe:=Lib.hid hIe
         have HTen:=Lib.hid hT0
         have HF:=Lib.hid hfin
         clear hPt' hN hI47 hIe hT0 hfin hp he h47 hTX hNA hNb
         go_wp2_with (first
          | (go_at_call 140;(with_reducible refine (HP.out _ HS4.out.rdr).mono ?_);rintro e w5 ⟨rfl,h1⟩;have HS5:=Lib.hid (HS4.out.go h1.1 h1.2);clear h1)
          | (go_at_call 143;(with_reducible refine (HNt.out _).mono ?_);rintro e w6 ⟨v6,rfl,⟨A6,rfl,hR6⟩,hb6⟩;have hv6:IsT NA (.slice A6 (dig NA).length (dig NA).length) w6:=⟨A6,rfl,hR6⟩;have hs:=HS5.out.below hb6;obtain ⟨⟨q60,q61,q62,q63⟩,⟨f60,f61,f62,f63⟩,m60,m61,mf60,mf61⟩:=hs.cells;have HS6:=Lib.hid (hs.putV hv6);clear hs hv6 hR6 hb6)
          | (go_at_call 139;(with_reducible refine (HI47.out _ HS6.out.rdr).mono ?_);rintro e w7 ⟨rfl,h1⟩;have HS7:=Lib.hid (HS6.out.go h1.1 h1.2);clear h1)
          | (go_at_call 139;(with_reducible refine (HIe.out _ HS7.out.rdr).mono ?_);rintro e w8 ⟨rfl,h1⟩;have HS8:=Lib.hid (HS7.out.go h1.1 h1.2);clear h1))
         have HSr:=Lib.hid (HS8.out)
         clear HS8
         refine region_late 9 7 (Pick [IsV (.pointer (some ⟨w.heap.size+1,1,none⟩)),IsV (.slice A6 (dig NA).length (dig NA).length),IsV (.int .i64 0),(IsT TX),(Is2 (IsT (NA*TX)) (IsV (.int .i64 0))),(Is2 (IsT (NA*TX)) (IsV (.int .i64 0))),(IsT (NA*TX)),IsV (.int .i64 0),IsV (.pointer (some ⟨w.heap.size+1,1,none⟩))]) (by kernel_rfl) (by kernel_rfl) (by kernel_rfl) (mono_pick ⟨IsV.mono _,IsV.mono _,IsV.mono _,IsT.mono _,Is2.mono (IsT.mono _) (IsV.mono _),Is2.mono (IsT.mono _) (IsV.mono _),IsT.mono _,IsV.mono _,IsV.mono _,trivial⟩) ⟨?_,?_,?_,?_,?_,?_,?_,?_,?_,trivial⟩ ?_ ?_ ?_
         ·intro a W hsz hb hS
          have h3:a.tmps.getD 3 undef=.pointer (some ⟨w.heap.size+1,0,none⟩):=hS.1
          clear hS hsz
          refine will_of rfl ?_
          intro K hK
          go_simp
          exact hK _ _ ⟨Below.refl _ _,rfl⟩
         ·intro a W hsz hb hS
          have h76:a.tmps.getD 76 undef=.pointer (some ⟨w.heap.size+1,1,none⟩):=hS.1
          clear hS hsz
          refine will_of rfl ?_
          have hsW:=HSr.out.below hb
          obtain ⟨⟨qb0,qb1,qb2,qb3⟩,⟨fb0,fb1,fb2,fb3⟩,mb0,mb1,mfb0,mfb1⟩:=hsW.cells
          intro K hK
          go_simp
          exact hK _ _ ⟨Below.refl _ _,rfl⟩
         ·intro a W hsz hb hS
          have h11:a.tmps.getD 11 undef=.int .i64 0:=hS.1
          clear hS hsz
          refine will_of rfl ?_
          intro K hK
          go_simp
          exact hK _ _ ⟨Below.refl _ _,rfl⟩
         ·intro a W hsz hb hS
          have h78:a.tmps.getD 78 undef=.int .i64 0:=hS.1
          clear hS hsz
          refine will_of rfl ?_
          have hsW:=HSr.out.below hb
          obtain ⟨⟨qb0,qb1,qb2,qb3⟩,⟨fb0,fb1,fb2,fb3⟩,mb0,mb1,mfb0,mfb1⟩:=hsW.cells
          intro K hK
          go_simp
          refine (HTen.out W).mono ?_
          rintro e W' ⟨v,rfl,hv,hb'⟩
          exact hK _ _ ⟨hb',hv⟩
         ·intro a W hsz hb hS
          have h77:a.tmps.getD 77 undef=.slice A6 (dig NA).length (dig NA).length:=hS.1
          have q79:(IsT TX) (a.tmps.getD 79 undef) W:=hS.2.1
          clear hS hsz
          obtain ⟨v79,h79⟩:∃v,a.tmps.getD 79 undef=v:=⟨_,rfl⟩
          rw [h79] at q79
          refine will_of rfl ?_
          have hsW:=HSr.out.below hb
          obtain ⟨⟨qb0,qb1,qb2,qb3⟩,⟨fb0,fb1,fb2,fb3⟩,mb0,mb1,mfb0,mfb1⟩:=hsW.cells
          intro K hK
          go_simp
          refine (nmul_is hsW.isV q79 HBl.out.1 HBl.out.2).mono ?_
          rintro e W' ⟨v,rfl,hv,hb'⟩
          exact hK _ _ ⟨hb',hv⟩
         ·intro a W hsz hb hS
          have q80:(Is2 (IsT (NA*TX)) (IsV (.int .i64 0))) (a.tmps.getD 80 undef) W:=hS.1
          clear hS hsz
          obtain ⟨v80,h80⟩:∃v,a.tmps.getD 80 undef=v:=⟨_,rfl⟩
          rw [h80] at q80
          refine will_of rfl ?_
          intro K hK
          go_simp
          exact hK _ _ ⟨Below.refl _ _,q80⟩
         ·intro a W hsz hb hS
          have q75:(Is2 (IsT (NA*TX)) (IsV (.int .i64 0))) (a.tmps.getD 75 undef) W:=hS.1
          clear hS hsz
          obtain ⟨v75,h75⟩:∃v,a.tmps.getD 75 undef=v:=⟨_,rfl⟩
          rw [h75] at q75
          refine will_of rfl ?_
          intro K hK
          obtain ⟨m1,m2,rfl,hm1,hm2⟩:=q75
          go_simp
          exact hK _ _ ⟨Below.refl _ _,hm1⟩
         ·intro a W hsz hb hS
          have q75:(Is2 (IsT (NA*TX)) (IsV (.int .i64 0))) (a.tmps.getD 75 undef) W:=hS.1
          clear hS hsz
          obtain ⟨v75,h75⟩:∃v,a.tmps.getD 75 undef=v:=⟨_,rfl⟩
          rw [h75] at q75
          refine will_of rfl ?_
          intro K hK
          obtain ⟨m1,m2,rfl,hm1,rfl⟩:=q75
          go_simp
          exact hK _ _ ⟨Below.refl _ _,rfl⟩
         ·intro a W hsz hb hS
          have h3:a.tmps.getD 3 undef=.pointer (some ⟨w.heap.size+1,0,none⟩):=hS.1
          clear hS hsz
          refine will_of rfl ?_
          intro K hK
          go_simp
          exact hK _ _ ⟨Below.refl _ _,rfl⟩
         ·intro o ho
          obtain rfl:_=o:=Option.some.inj ho
          refine ⟨rfl,fun a W hsz hS => ?_⟩
          have q75:(Is2 (IsT (NA*TX)) (IsV (.int .i64 0))) (a.tmps.getD 75 undef) W:=hS.1
          obtain ⟨m1,m2,h75,_,rfl⟩:=q75
          clear hS
          exact ⟨.int .i64 0,fun w2=>by go_simp⟩
         ·exact store_ok (by kernel_rfl)
         intro f W hb hH s hs
         obtain rfl:_=s:=Option.some.inj hs
         have e0:f 0=.pointer (some ⟨w.heap.size+1,1,none⟩):=hH.1
         have e1:f 1=.slice A6 (dig NA).length (dig NA).length:=hH.2.1
         have e2:f 2=.int .i64 0:=hH.2.2.1
         obtain ⟨x3,y3⟩:∃x,f 3=x:=⟨_,rfl⟩
         have q3:(IsT TX) (f 3) W:=hH.2.2.2.1
         rw [y3] at q3
         obtain ⟨x4,y4⟩:∃x,f 4=x:=⟨_,rfl⟩
         have q4:(Is2 (IsT (NA*TX)) (IsV (.int .i64 0))) (f 4) W:=hH.2.2.2.2.1
         rw [y4] at q4
         obtain ⟨x5,y5⟩:∃x,f 5=x:=⟨_,rfl⟩
         have q5:(Is2 (IsT (NA*TX)) (IsV (.int .i64 0))) (f 5) W:=hH.2.2.2.2.2.1
         rw [y5] at q5
         obtain ⟨x6,y6⟩:∃x,f 6=x:=⟨_,rfl⟩
         have q6:(IsT (NA*TX)) (f 6) W:=hH.2.2.2.2.2.2.1
         rw [y6] at q6
         have e7:f 7=.int .i64 0:=hH.2.2.2.2.2.2.2.1
         have e8:f 8=.pointer (some ⟨w.heap.size+1,1,none⟩):=hH.2.2.2.2.2.2.2.2.1
         simp only [List.take_succ_cons,List.take_zero,List.drop_succ_cons,List.drop_zero,putFrom,Act.put,List.setIfInBounds_toArray,List.set_cons_zero,List.set_cons_succ,Nat.reduceAdd,e0,e1,e2,y3,y4,y5,y6,e7,e8]
         clear e0 e1 e2 y3 y4 y5 y6 e7 e8 hH f
         have hsW:=HSr.out.below hb
         obtain ⟨⟨qb0,qb1,qb2,qb3⟩,⟨fb0,fb1,fb2,fb3⟩,mb0,mb1,mfb0,mfb1⟩:=hsW.cells
         obtain ⟨A12,rfl,hR12⟩:=q6
         have HS12:=Lib.hid (hsW.putV (N':=NA*TX) ⟨A12,rfl,hR12⟩)
         clear hsW hR12
         refine ⟨W.setCell ⟨w.heap.size+1,1,none⟩ (.slice A12 (dig (NA*TX)).length (dig (NA*TX)).length),.inl (by go_simp),?_⟩
         go_wp2
         go_meet
         exact ⟨r1,NA*TX,1,_,_,0,0,0,HS12,Lib.hid (by rw [HF.out,HTX.out];rfl),by omega⟩
        ·obtain ⟨c,s,rfl,hc⟩:=isR_t he
         rw [isR_two hc] at hIe
         obtain ⟨d,hd⟩:∃d,(sg s).2.takeWhile isD=d:=⟨_,rfl⟩
         obtain ⟨u,hu⟩:∃u,(sg s).2.dropWhile isD=u:=⟨_,rfl⟩
         have hc':c.toNat=101∨c.toNat=69:=hc
         have HC:=Lib.hid hc'
         clear hc hc' he
         by_cases hd0:d=[]
         ·subst hd0
          have HF:=Lib.hid (dc_e3 HL.out.1 HL.out.2.1 hp HC.out hd hu)
          have HXn:=Lib.hid (fun W h=>exponent_no W b l s h (by omega) u hd hu)
          generalize hNA:numB 10 a=NA at *
          generalize bs a=BA at *
          have HP:=Lib.hid hPt'
          have HNt:=Lib.hid hN
          have HIe:=Lib.hid hIe
          have HI47:=Lib.hid hI47
          clear hd hu hPt' hN hIe hp hNA hNb hI47 h47
          go_wp2_with (first
           | (go_at_call 140;(with_reducible refine (HP.out _ HS4.out.rdr).mono ?_);rintro e w5 ⟨rfl,h1⟩;have HS5:=Lib.hid (HS4.out.go h1.1 h1.2);clear h1)
           | (go_at_call 143;(with_reducible refine (HNt.out _).mono ?_);rintro e w6 ⟨v6,rfl,⟨A6,rfl,hR6⟩,hb6⟩;have hv6:IsT NA (.slice A6 (dig NA).length (dig NA).length) w6:=⟨A6,rfl,hR6⟩;have hs:=HS5.out.below hb6;obtain ⟨⟨q60,q61,q62,q63⟩,⟨f60,f61,f62,f63⟩,m60,m61,mf60,mf61⟩:=hs.cells;have HS6:=Lib.hid (hs.putV hv6);clear hs hv6 hR6 hb6)
           | (go_at_call 139;(with_reducible refine (HI47.out _ HS6.out.rdr).mono ?_);rintro e w7 ⟨rfl,h1⟩;have HS7:=Lib.hid (HS6.out.go h1.1 h1.2);clear h1)
           | (go_at_call 139;(with_reducible refine (HIe.out _ HS7.out.rdr).mono ?_);rintro e w8 ⟨rfl,h1⟩;have HS8:=Lib.hid (HS7.out.go h1.1 h1.2);clear h1)
           | (go_at_call 142;(with_reducible refine (HXn.out _ HS8.out.rdr).mono ?_);rintro e wz ⟨rfl,h1⟩))
          rw [HF.out]
          exact ⟨rfl,rfl,grownBy_trans HS8.out.grow h1⟩
         ·have hfin:=fun X hX=>dc_ex HL.out.1 HL.out.2.1 hp HC.out hd hu hd0 (X:=X) hX
          have hX:=fun W h=>exponent_any W b l s h (by omega) d u hd hu hd0
          have hxn:(if (sg s).1 then -((min (numB 10 d) 9999:Nat):Int) else ((min (numB 10 d) 9999:Nat):Int))=xnum (sg s).1 d:=rfl
          rw [hxn] at hX
          rw [HN.out] at hfin
          have hXl:=xnum_le (sg s).1 d
          have hLX:0≤(lateO (l.length - (sg s).2.length) (numB 10 d)).1:=by unfold lateO;split <;> simp
          generalize xnum (sg s).1 d=X at *
          generalize (lateO (l.length - (sg s).2.length) (numB 10 d)).1=LX at *
          generalize (lateO (l.length - (sg s).2.length) (numB 10 d)).2=LY at *
          rw [show a++ob none=a by simp [ob]] at hfin
          have hfin:=hfin X (by simp [ob])
          generalize hNA:numB 10 a=NA at *
          generalize bs a=BA at *
          have HX:=Lib.hid hX
          have HF:=Lib.hid hfin
          have HP:=Lib.hid hPt'
          have HNt:=Lib.hid hN
          have HIe:=Lib.hid hIe
          have HI47:=Lib.hid hI47
          clear hd hu hX hfin hPt' hN hIe hp hNA hd0 hxn hI47 h47
          by_cases hneg:X<0
          ·obtain ⟨k,hk⟩:∃k:Nat,-X=(k:Int):=⟨(-X).toNat,by omega⟩
           have hT0:=fun W=>ten_any k (by omega) W
           obtain ⟨TX,hTX⟩:∃TX,TX=10^k:=⟨_,rfl⟩
           rw [←hTX,←hk] at hT0
           have HTX:=Lib.hid (And.intro hTX hk)
           have HTen:=Lib.hid hT0
           clear hT0 hTX hk hNb
           go_wp2_with (first
            | (go_at_call 140;(with_reducible refine (HP.out _ HS4.out.rdr).mono ?_);rintro e w5 ⟨rfl,h1⟩;have HS5:=Lib.hid (HS4.out.go h1.1 h1.2);clear h1)
            | (go_at_call 143;(with_reducible refine (HNt.out _).mono ?_);rintro e w6 ⟨v6,rfl,⟨A6,rfl,hR6⟩,hb6⟩;have hv6:IsT NA (.slice A6 (dig NA).length (dig NA).length) w6:=⟨A6,rfl,hR6⟩;have hs:=HS5.out.below hb6;obtain ⟨⟨q60,q61,q62,q63⟩,⟨f60,f61,f62,f63⟩,m60,m61,mf60,mf61⟩:=hs.cells;have HS6:=Lib.hid (hs.putV hv6);clear hs hv6 hR6 hb6)
            | (go_at_call 139;(with_reducible refine (HI47.out _ HS6.out.rdr).mono ?_);rintro e w7 ⟨rfl,h1⟩;have HS7:=Lib.hid (HS6.out.go h1.1 h1.2);clear h1)
            | (go_at_call 139;(with_reducible refine (HIe.out _ HS7.out.rdr).mono ?_);rintro e w8 ⟨rfl,h1⟩;have HS8:=Lib.hid (HS7.out.go h1.1 h1.2);clear h1)
            | (go_at_call 142;(with_reducible refine (HX.out _ HS8.out.rdr).mono ?_);rintro e w9 ⟨rfl,h1⟩;have hs:=HS8.out.go h1.1 h1.2;obtain ⟨⟨q90,q91,q92,q93⟩,⟨f90,f91,f92,f93⟩,m90,m91,mf90,mf91⟩:=hs.cells;have HS9:=Lib.hid (hs.fault LX LY);clear hs h1)
            | (go_at_call 104;(with_reducible refine (HTen.out _).mono ?_);rintro e w10 ⟨v10,rfl,⟨A10,rfl,hR10⟩,hb10⟩;have hv10:IsT TX (.slice A10 (dig TX).length (dig TX).length) w10:=⟨A10,rfl,hR10⟩;have hs:=HS9.out.below hb10;obtain ⟨⟨qa0,qa1,qa2,qa3⟩,⟨fa0,fa1,fa2,fa3⟩,ma0,ma1,mfa0,mfa1⟩:=hs.cells;have HS10:=Lib.hid (hs.putD hv10);clear hs hv10 hR10 hb10))
           go_meet
           exact ⟨u,NA,TX,_,_,0,LX,LY,HS10,Lib.hid (by rw [HF.out,HTX.out.1,show (-X).toNat=k by have:=HTX.out.2;omega,show (X:Int).toNat=0 by omega];simp),hLX⟩
          ·obtain ⟨k,hk⟩:∃k:Nat,X=(k:Int):=⟨(X:Int).toNat,by omega⟩
           have hT0:=fun W=>ten_any k (by omega) W
           obtain ⟨TX,hTX⟩:∃TX,TX=10^k:=⟨_,rfl⟩
           have hb10:blen (10^k)≤40000:=ten_bits k (by omega)
           rw [←hTX] at hT0 hb10
           rw [←hk] at hT0
           have HBl:=Lib.hid (And.intro (show blen NA≤100000 by omega) (show blen TX≤100000 by omega))
           have HTX:=Lib.hid (And.intro hTX hk)
           have HTen:=Lib.hid hT0
           clear hT0 hTX hk hNb hb10
           go_wp2_with (first
            | (go_at_call 140;(with_reducible refine (HP.out _ HS4.out.rdr).mono ?_);rintro e w5 ⟨rfl,h1⟩;have HS5:=Lib.hid (HS4.out.go h1.1 h1.2);clear h1)
            | (go_at_call 143;(with_reducible refine (HNt.out _).mono ?_);rintro e w6 ⟨v6,rfl,⟨A6,rfl,hR6⟩,hb6⟩;have hv6:IsT NA (.slice A6 (dig NA).length (dig NA).length) w6:=⟨A6,rfl,hR6⟩;have hs:=HS5.out.below hb6;obtain ⟨⟨q60,q61,q62,q63⟩,⟨f60,f61,f62,f63⟩,m60,m61,mf60,mf61⟩:=hs.cells;have HS6:=Lib.hid (hs.putV hv6);clear hs hv6 hR6 hb6)
            | (go_at_call 139;(with_reducible refine (HI47.out _ HS6.out.rdr).mono ?_);rintro e w7 ⟨rfl,h1⟩;have HS7:=Lib.hid (HS6.out.go h1.1 h1.2);clear h1)
            | (go_at_call 139;(with_reducible refine (HIe.out _ HS7.out.rdr).mono ?_);rintro e w8 ⟨rfl,h1⟩;have HS8:=Lib.hid (HS7.out.go h1.1 h1.2);clear h1)
            | (go_at_call 142;(with_reducible refine (HX.out _ HS8.out.rdr).mono ?_);rintro e w9 ⟨rfl,h1⟩;have hs:=HS8.out.go h1.1 h1.2;obtain ⟨⟨q90,q91,q92,q93⟩,⟨f90,f91,f92,f93⟩,m90,m91,mf90,mf91⟩:=hs.cells;have HS9:=Lib.hid (hs.fault LX LY);clear hs h1))
           have HSr:=Lib.hid (HS9.out)
           clear HS9
           refine region_late 9 7 (Pick [IsV (.pointer (some ⟨w.heap.size+1,1,none⟩)),IsV (.slice A6 (dig NA).length (dig NA).length),IsV (.int .i64 X),(IsT TX),(Is2 (IsT (NA*TX)) (IsV (.int .i64 0))),(Is2 (IsT (NA*TX)) (IsV (.int .i64 0))),(IsT (NA*TX)),IsV (.int .i64 0),IsV (.pointer (some ⟨w.heap.size+1,1,none⟩))]) (by kernel_rfl) (by kernel_rfl) (by kernel_rfl) (mono_pick ⟨IsV.mono _,IsV.mono _,IsV.mono _,IsT.mono _,Is2.mono (IsT.mono _) (IsV.mono _),Is2.mono (IsT.mono _) (IsV.mono _),IsT.mono _,IsV.mono _,IsV.mono _,trivial⟩) ⟨?_,?_,?_,?_,?_,?_,?_,?_,?_,trivial⟩ ?_ ?_ ?_
           ·intro a W hsz hb hS
            have h3:a.tmps.getD 3 undef=.pointer (some ⟨w.heap.size+1,0,none⟩):=hS.1
            clear hS hsz
            refine will_of rfl ?_
            intro K hK
            go_simp
            exact hK _ _ ⟨Below.refl _ _,rfl⟩
           ·intro a W hsz hb hS
            have h76:a.tmps.getD 76 undef=.pointer (some ⟨w.heap.size+1,1,none⟩):=hS.1
            clear hS hsz
            refine will_of rfl ?_
            have hsW:=HSr.out.below hb
            obtain ⟨⟨qb0,qb1,qb2,qb3⟩,⟨fb0,fb1,fb2,fb3⟩,mb0,mb1,mfb0,mfb1⟩:=hsW.cells
            intro K hK
            go_simp
            exact hK _ _ ⟨Below.refl _ _,rfl⟩
           ·intro a W hsz hb hS
            have h11:a.tmps.getD 11 undef=.int .i64 X:=hS.1
            clear hS hsz
            refine will_of rfl ?_
            intro K hK
            go_simp
            exact hK _ _ ⟨Below.refl _ _,rfl⟩
           ·intro a W hsz hb hS
            have h78:a.tmps.getD 78 undef=.int .i64 X:=hS.1
            clear hS hsz
            refine will_of rfl ?_
            have hsW:=HSr.out.below hb
            obtain ⟨⟨qb0,qb1,qb2,qb3⟩,⟨fb0,fb1,fb2,fb3⟩,mb0,mb1,mfb0,mfb1⟩:=hsW.cells
            intro K hK
            go_simp
            refine (HTen.out W).mono ?_
            rintro e W' ⟨v,rfl,hv,hb'⟩
            exact hK _ _ ⟨hb',hv⟩
           ·intro a W hsz hb hS
            have h77:a.tmps.getD 77 undef=.slice A6 (dig NA).length (dig NA).length:=hS.1
            have q79:(IsT TX) (a.tmps.getD 79 undef) W:=hS.2.1
            clear hS hsz
            obtain ⟨v79,h79⟩:∃v,a.tmps.getD 79 undef=v:=⟨_,rfl⟩
            rw [h79] at q79
            refine will_of rfl ?_
            have hsW:=HSr.out.below hb
            obtain ⟨⟨qb0,qb1,qb2,qb3⟩,⟨fb0,fb1,fb2,fb3⟩,mb0,mb1,mfb0,mfb1⟩:=hsW.cells
            intro K hK
            go_simp
            refine (nmul_is hsW.isV q79 HBl.out.1 HBl.out.2).mono ?_
            rintro e W' ⟨v,rfl,hv,hb'⟩
            exact hK _ _ ⟨hb',hv⟩
           ·intro a W hsz hb hS
            have q80:(Is2 (IsT (NA*TX)) (IsV (.int .i64 0))) (a.tmps.getD 80 undef) W:=hS.1
            clear hS hsz
            obtain ⟨v80,h80⟩:∃v,a.tmps.getD 80 undef=v:=⟨_,rfl⟩
            rw [h80] at q80
            refine will_of rfl ?_
            intro K hK
            go_simp
            exact hK _ _ ⟨Below.refl _ _,q80⟩
           ·intro a W hsz hb hS
            have q75:(Is2 (IsT (NA*TX)) (IsV (.int .i64 0))) (a.tmps.getD 75 undef) W:=hS.1
            clear hS hsz
            obtain ⟨v75,h75⟩:∃v,a.tmps.getD 75 undef=v:=⟨_,rfl⟩
            rw [h75] at q75
            refine will_of rfl ?_
            intro K hK
            obtain ⟨m1,m2,rfl,hm1,hm2⟩:=q75
            go_simp
            exact hK _ _ ⟨Below.refl _ _,hm1⟩
           ·intro a W hsz hb hS
            have q75:(Is2 (IsT (NA*TX)) (IsV (.int .i64 0))) (a.tmps.getD 75 undef) W:=hS.1
            clear hS hsz
            obtain ⟨v75,h75⟩:∃v,a.tmps.getD 75 undef=v:=⟨_,rfl⟩
            rw [h75] at q75
            refine will_of rfl ?_
            intro K hK
            obtain ⟨m1,m2,rfl,hm1,rfl⟩:=q75
            go_simp
            exact hK _ _ ⟨Below.refl _ _,rfl⟩
           ·intro a W hsz hb hS
            have h3:a.tmps.getD 3 undef=.pointer (some ⟨w.heap.size+1,0,none⟩):=hS.1
            clear hS hsz
            refine will_of rfl ?_
            intro K hK
            go_simp
            exact hK _ _ ⟨Below.refl _ _,rfl⟩
           ·intro o ho
            obtain rfl:_=o:=Option.some.inj ho
            refine ⟨rfl,fun a W hsz hS => ?_⟩
            have q75:(Is2 (IsT (NA*TX)) (IsV (.int .i64 0))) (a.tmps.getD 75 undef) W:=hS.1
            obtain ⟨m1,m2,h75,_,rfl⟩:=q75
            clear hS
            exact ⟨.int .i64 0,fun w2=>by go_simp⟩
           ·exact store_ok (by kernel_rfl)
           intro f W hb hH s hs
           obtain rfl:_=s:=Option.some.inj hs
           have e0:f 0=.pointer (some ⟨w.heap.size+1,1,none⟩):=hH.1
           have e1:f 1=.slice A6 (dig NA).length (dig NA).length:=hH.2.1
           have e2:f 2=.int .i64 X:=hH.2.2.1
           obtain ⟨x3,y3⟩:∃x,f 3=x:=⟨_,rfl⟩
           have q3:(IsT TX) (f 3) W:=hH.2.2.2.1
           rw [y3] at q3
           obtain ⟨x4,y4⟩:∃x,f 4=x:=⟨_,rfl⟩
           have q4:(Is2 (IsT (NA*TX)) (IsV (.int .i64 0))) (f 4) W:=hH.2.2.2.2.1
           rw [y4] at q4
           obtain ⟨x5,y5⟩:∃x,f 5=x:=⟨_,rfl⟩
           have q5:(Is2 (IsT (NA*TX)) (IsV (.int .i64 0))) (f 5) W:=hH.2.2.2.2.2.1
           rw [y5] at q5
           obtain ⟨x6,y6⟩:∃x,f 6=x:=⟨_,rfl⟩
           have q6:(IsT (NA*TX)) (f 6) W:=hH.2.2.2.2.2.2.1
           rw [y6] at q6
           have e7:f 7=.int .i64 0:=hH.2.2.2.2.2.2.2.1
           have e8:f 8=.pointer (some ⟨w.heap.size+1,1,none⟩):=hH.2.2.2.2.2.2.2.2.1
           simp only [List.take_succ_cons,List.take_zero,List.drop_succ_cons,List.drop_zero,putFrom,Act.put,List.setIfInBounds_toArray,List.set_cons_zero,List.set_cons_succ,Nat.reduceAdd,e0,e1,e2,y3,y4,y5,y6,e7,e8]
           clear e0 e1 e2 y3 y4 y5 y6 e7 e8 hH f
           have hsW:=HSr.out.below hb
           obtain ⟨⟨qb0,qb1,qb2,qb3⟩,⟨fb0,fb1,fb2,fb3⟩,mb0,mb1,mfb0,mfb1⟩:=hsW.cells
           obtain ⟨A12,rfl,hR12⟩:=q6
           have HS12:=Lib.hid (hsW.putV (N':=NA*TX) ⟨A12,rfl,hR12⟩)
           clear hsW hR12
           refine ⟨W.setCell ⟨w.heap.size+1,1,none⟩ (.slice A12 (dig (NA*TX)).length (dig (NA*TX)).length),.inl (by go_simp),?_⟩
           go_wp2
           go_meet
           exact ⟨u,NA*TX,1,_,_,0,LX,LY,HS12,Lib.hid (by rw [HF.out,HTX.out.1,show (X:Int).toNat=k by have:=HTX.out.2;omega,show (-X).toNat=0 by have:=HTX.out.2;omega,Nat.pow_zero]),hLX⟩
       ·obtain ⟨c,s,rfl,hc⟩:=isR_t1 h47
        have hc':c.toNat=47:=hc
        rw [isR_one,if_pos hc] at hI47
        obtain ⟨d,hd⟩:∃d,s.takeWhile isD=d:=⟨_,rfl⟩
        obtain ⟨u,hu⟩:∃u,s.dropWhile isD=u:=⟨_,rfl⟩
        clear hc h47 hIe hNb
        by_cases hd0:d=[]
        ·subst hd0
         have HF:=Lib.hid (fr_e HL.out.1 HL.out.2.1 hp hc' hd hu)
         have hSn:=fun W h=>some_no W b l s 10 h (by omega)
         rw [pB10,hd,hu,show ((10:Nat):Int)=10 from rfl] at hSn
         have HSn:=Lib.hid (fun W h=>hSn W h rfl)
         generalize hNA:numB 10 a=NA at *
         generalize bs a=BA at *
         have HP:=Lib.hid hPt'
         have HNt:=Lib.hid hN
         have HI47:=Lib.hid hI47
         clear hd hu hSn hPt' hN hI47 hp hNA
         go_wp2_with (first
          | (go_at_call 140;(with_reducible refine (HP.out _ HS4.out.rdr).mono ?_);rintro e w5 ⟨rfl,h1⟩;have HS5:=Lib.hid (HS4.out.go h1.1 h1.2);clear h1)
          | (go_at_call 143;(with_reducible refine (HNt.out _).mono ?_);rintro e w6 ⟨v6,rfl,⟨A6,rfl,hR6⟩,hb6⟩;have hv6:IsT NA (.slice A6 (dig NA).length (dig NA).length) w6:=⟨A6,rfl,hR6⟩;have hs:=HS5.out.below hb6;obtain ⟨⟨q60,q61,q62,q63⟩,⟨f60,f61,f62,f63⟩,m60,m61,mf60,mf61⟩:=hs.cells;have HS6:=Lib.hid (hs.putV hv6);clear hs hv6 hR6 hb6)
          | (go_at_call 139;(with_reducible refine (HI47.out _ HS6.out.rdr).mono ?_);rintro e w7 ⟨rfl,h1⟩;have HS7:=Lib.hid (HS6.out.go h1.1 h1.2);obtain ⟨c70,c71,cf70,cf71⟩:=HS7.out.rdr.cellsAt hS1 rfl;clear h1)
          | (go_at_call 144;(with_reducible refine (HSn.out _ HS7.out.rdr).mono ?_);rintro e wz ⟨rfl,h1⟩))
         rw [HF.out]
         exact ⟨rfl,rfl,grownBy_trans HS7.out.grow h1⟩
        ·have hfin:=fr_ok HL.out.1 HL.out.2.1 hp hc' hd hu hd0
         have hdc:∀c∈d,isD c=true:=by rw [←hd];exact take_all
         have hdl:d.length≤4096:=by
          have:=List.takeWhile_append_dropWhile (p:=isD) (l:=s)
          have:=congrArg List.length this
          rw [List.length_append,hd] at this
          rw [List.length_cons] at hr1l
          omega
         have hNd:=fun W=>natural_any d 10 (.inl rfl) (fun c hc=>vl_D (hdc c hc)) (by omega) W
         rw [show ((10:Nat):Int)=10 from rfl] at hNd
         have hSo:=fun W h=>some_ok W b l s 10 h (by omega)
         rw [pB10,hd,hu,show ((10:Nat):Int)=10 from rfl] at hSo
         have HSo:=Lib.hid (fun W h=>hSo W h hd0)
         rw [HN.out] at hfin
         generalize hNA:numB 10 a=NA at *
         generalize bs a=BA at *
         generalize hND:numB 10 d=ND at *
         generalize bs d=BD at *
         have HP:=Lib.hid hPt'
         have HNt:=Lib.hid hN
         have HNd:=Lib.hid hNd
         have HI47:=Lib.hid hI47
         have hq1:l.length - s.length=l.length - s.length:=rfl
         clear hSo hPt' hN hNd hI47 hp hNA hND hd hu hd0 hdc hdl hq1
         by_cases hz:ND=0
         ·rw [if_pos hz,if_pos hz] at hfin
          have HF:=Lib.hid hfin
          have hdl:(((dig ND).length:Nat):Int)=0:=by rw [hz,dig_zero];rfl
          clear hfin hz
          go_wp2_with (first
           | (go_at_call 140;(with_reducible refine (HP.out _ HS4.out.rdr).mono ?_);rintro e w5 ⟨rfl,h1⟩;have HS5:=Lib.hid (HS4.out.go h1.1 h1.2);clear h1)
           | (go_at_call 143;(with_reducible refine (HNt.out _).mono ?_);rintro e w6 ⟨v6,rfl,⟨A6,rfl,hR6⟩,hb6⟩;have hv6:IsT NA (.slice A6 (dig NA).length (dig NA).length) w6:=⟨A6,rfl,hR6⟩;have hs:=HS5.out.below hb6;obtain ⟨⟨q60,q61,q62,q63⟩,⟨f60,f61,f62,f63⟩,m60,m61,mf60,mf61⟩:=hs.cells;have HS6:=Lib.hid (hs.putV hv6);clear hs hv6 hR6 hb6)
           | (go_at_call 139;(with_reducible refine (HI47.out _ HS6.out.rdr).mono ?_);rintro e w7 ⟨rfl,h1⟩;have HS7:=Lib.hid (HS6.out.go h1.1 h1.2);obtain ⟨c70,c71,cf70,cf71⟩:=HS7.out.rdr.cellsAt hS1 rfl;clear h1)
           | (go_at_call 144;(with_reducible refine (HSo.out _ HS7.out.rdr).mono ?_);rintro e w8 ⟨rfl,h1⟩;have HS8:=Lib.hid (HS7.out.go h1.1 h1.2);clear h1)
           | (go_at_call 143;(with_reducible refine (HNd.out _).mono ?_);rintro e w9 ⟨v9,rfl,⟨A9,rfl,hR9⟩,hb9⟩;have hv9:IsT ND (.slice A9 (dig ND).length (dig ND).length) w9:=⟨A9,rfl,hR9⟩;have hs:=HS8.out.below hb9;obtain ⟨⟨q90,q91,q92,q93⟩,⟨f90,f91,f92,f93⟩,m90,m91,mf90,mf91⟩:=hs.cells;have HS9:=Lib.hid (hs.putD hv9);clear hs hv9 hR9 hb9))
          go_meet
          exact ⟨u,NA,ND,_,_,0,_,50,Lib.hid (HS9.out.fault _ 50),Lib.hid HF.out,by omega⟩
         ·rw [if_neg hz,if_neg hz] at hfin
          have HF:=Lib.hid hfin
          have hdl:¬(((dig ND).length:Nat):Int)=0:=by
           intro e
           exact hz (dig_len0 (by omega))
          clear hfin
          go_wp2_with (first
           | (go_at_call 140;(with_reducible refine (HP.out _ HS4.out.rdr).mono ?_);rintro e w5 ⟨rfl,h1⟩;have HS5:=Lib.hid (HS4.out.go h1.1 h1.2);clear h1)
           | (go_at_call 143;(with_reducible refine (HNt.out _).mono ?_);rintro e w6 ⟨v6,rfl,⟨A6,rfl,hR6⟩,hb6⟩;have hv6:IsT NA (.slice A6 (dig NA).length (dig NA).length) w6:=⟨A6,rfl,hR6⟩;have hs:=HS5.out.below hb6;obtain ⟨⟨q60,q61,q62,q63⟩,⟨f60,f61,f62,f63⟩,m60,m61,mf60,mf61⟩:=hs.cells;have HS6:=Lib.hid (hs.putV hv6);clear hs hv6 hR6 hb6)
           | (go_at_call 139;(with_reducible refine (HI47.out _ HS6.out.rdr).mono ?_);rintro e w7 ⟨rfl,h1⟩;have HS7:=Lib.hid (HS6.out.go h1.1 h1.2);obtain ⟨c70,c71,cf70,cf71⟩:=HS7.out.rdr.cellsAt hS1 rfl;clear h1)
           | (go_at_call 144;(with_reducible refine (HSo.out _ HS7.out.rdr).mono ?_);rintro e w8 ⟨rfl,h1⟩;have HS8:=Lib.hid (HS7.out.go h1.1 h1.2);clear h1)
           | (go_at_call 143;(with_reducible refine (HNd.out _).mono ?_);rintro e w9 ⟨v9,rfl,⟨A9,rfl,hR9⟩,hb9⟩;have hv9:IsT ND (.slice A9 (dig ND).length (dig ND).length) w9:=⟨A9,rfl,hR9⟩;have hs:=HS8.out.below hb9;obtain ⟨⟨q90,q91,q92,q93⟩,⟨f90,f91,f92,f93⟩,m90,m91,mf90,mf91⟩:=hs.cells;have HS9:=Lib.hid (hs.putD hv9);clear hs hv9 hR9 hb9))
          go_meet
          exact ⟨u,NA,ND,_,_,0,0,0,HS9,Lib.hid HF.out,by omega⟩
      | some bq =>
       rw [show kOf (some bq)=((ob (some bq)).length:Int) from rfl] at hPt'
       clear hI47
       by_cases he:(isR [101,69] r1).1=false
       ·have hfin:=dc_no HL.out.1 HL.out.2.1 hp (fun e=>by cases e) he (X:=0 - ((ob (some bq)).length:Int)) rfl
        rw [isR_f he] at hIe
        generalize hA:a++ob (some bq)=A at *
        generalize hnl:(ob (some bq)).length=nl at *
        rw [HN.out] at hfin
        generalize hNA:numB 10 A=NA at *
        generalize bs A=BA at *
        have HP:=Lib.hid hPt'
        have HNt:=Lib.hid hN
        have HIe:=Lib.hid hIe
        by_cases hnl0:nl=0
        ·subst hnl0
         have hT0:=fun W=>ten_any 0 (by omega) W
         rw [show ((0:Nat):Int)=0 from rfl] at hT0
         obtain ⟨TX,hTX⟩:∃TX,TX=10^0:=⟨_,rfl⟩
         rw [←hTX] at hT0
         have HBl:=Lib.hid (And.intro (show blen NA≤100000 by omega) (show blen TX≤100000 by rw [hTX];decide))
         have HTX:=Lib.hid hTX
         have HTen:=Lib.hid hT0
         have HF:=Lib.hid hfin
         clear hPt' hN hIe hT0 hfin hp he hTX hNA hNb hA hnl
         go_wp2_with (first
          | (go_at_call 140;(with_reducible refine (HP.out _ HS4.out.rdr).mono ?_);rintro e w5 ⟨rfl,h1⟩;have HS5:=Lib.hid (HS4.out.go h1.1 h1.2);clear h1)
          | (go_at_call 143;(with_reducible refine (HNt.out _).mono ?_);rintro e w6 ⟨v6,rfl,⟨A6,rfl,hR6⟩,hb6⟩;have hv6:IsT NA (.slice A6 (dig NA).length (dig NA).length) w6:=⟨A6,rfl,hR6⟩;have hs:=HS5.out.below hb6;obtain ⟨⟨q60,q61,q62,q63⟩,⟨f60,f61,f62,f63⟩,m60,m61,mf60,mf61⟩:=hs.cells;have HS6:=Lib.hid (hs.putV hv6);clear hs hv6 hR6 hb6)
          | (go_at_call 139;(with_reducible refine (HIe.out _ HS6.out.rdr).mono ?_);rintro e w8 ⟨rfl,h1⟩;have HS8:=Lib.hid (HS6.out.go h1.1 h1.2);clear h1))
         have HSr:=Lib.hid (HS8.out)
         clear HS8
         refine region_late 9 7 (Pick [IsV (.pointer (some ⟨w.heap.size+1,1,none⟩)),IsV (.slice A6 (dig NA).length (dig NA).length),IsV (.int .i64 0),(IsT TX),(Is2 (IsT (NA*TX)) (IsV (.int .i64 0))),(Is2 (IsT (NA*TX)) (IsV (.int .i64 0))),(IsT (NA*TX)),IsV (.int .i64 0),IsV (.pointer (some ⟨w.heap.size+1,1,none⟩))]) (by kernel_rfl) (by kernel_rfl) (by kernel_rfl) (mono_pick ⟨IsV.mono _,IsV.mono _,IsV.mono _,IsT.mono _,Is2.mono (IsT.mono _) (IsV.mono _),Is2.mono (IsT.mono _) (IsV.mono _),IsT.mono _,IsV.mono _,IsV.mono _,trivial⟩) ⟨?_,?_,?_,?_,?_,?_,?_,?_,?_,trivial⟩ ?_ ?_ ?_
         ·intro a W hsz hb hS
          have h3:a.tmps.getD 3 undef=.pointer (some ⟨w.heap.size+1,0,none⟩):=hS.1
          clear hS hsz
          refine will_of rfl ?_
          intro K hK
          go_simp
          exact hK _ _ ⟨Below.refl _ _,rfl⟩
         ·intro a W hsz hb hS
          have h76:a.tmps.getD 76 undef=.pointer (some ⟨w.heap.size+1,1,none⟩):=hS.1
          clear hS hsz
          refine will_of rfl ?_
          have hsW:=HSr.out.below hb
          obtain ⟨⟨qb0,qb1,qb2,qb3⟩,⟨fb0,fb1,fb2,fb3⟩,mb0,mb1,mfb0,mfb1⟩:=hsW.cells
          intro K hK
          go_simp
          exact hK _ _ ⟨Below.refl _ _,rfl⟩
         ·intro a W hsz hb hS
          have h11:a.tmps.getD 11 undef=.int .i64 0:=hS.1
          clear hS hsz
          refine will_of rfl ?_
          intro K hK
          go_simp
          exact hK _ _ ⟨Below.refl _ _,rfl⟩
         ·intro a W hsz hb hS
          have h78:a.tmps.getD 78 undef=.int .i64 0:=hS.1
          clear hS hsz
          refine will_of rfl ?_
          have hsW:=HSr.out.below hb
          obtain ⟨⟨qb0,qb1,qb2,qb3⟩,⟨fb0,fb1,fb2,fb3⟩,mb0,mb1,mfb0,mfb1⟩:=hsW.cells
          intro K hK
          go_simp
          refine (HTen.out W).mono ?_
          rintro e W' ⟨v,rfl,hv,hb'⟩
          exact hK _ _ ⟨hb',hv⟩
         ·intro a W hsz hb hS
          have h77:a.tmps.getD 77 undef=.slice A6 (dig NA).length (dig NA).length:=hS.1
          have q79:(IsT TX) (a.tmps.getD 79 undef) W:=hS.2.1
          clear hS hsz
          obtain ⟨v79,h79⟩:∃v,a.tmps.getD 79 undef=v:=⟨_,rfl⟩
          rw [h79] at q79
          refine will_of rfl ?_
          have hsW:=HSr.out.below hb
          obtain ⟨⟨qb0,qb1,qb2,qb3⟩,⟨fb0,fb1,fb2,fb3⟩,mb0,mb1,mfb0,mfb1⟩:=hsW.cells
          intro K hK
          go_simp
          refine (nmul_is hsW.isV q79 HBl.out.1 HBl.out.2).mono ?_
          rintro e W' ⟨v,rfl,hv,hb'⟩
          exact hK _ _ ⟨hb',hv⟩
         ·intro a W hsz hb hS
          have q80:(Is2 (IsT (NA*TX)) (IsV (.int .i64 0))) (a.tmps.getD 80 undef) W:=hS.1
          clear hS hsz
          obtain ⟨v80,h80⟩:∃v,a.tmps.getD 80 undef=v:=⟨_,rfl⟩
          rw [h80] at q80
          refine will_of rfl ?_
          intro K hK
          go_simp
          exact hK _ _ ⟨Below.refl _ _,q80⟩
         ·intro a W hsz hb hS
          have q75:(Is2 (IsT (NA*TX)) (IsV (.int .i64 0))) (a.tmps.getD 75 undef) W:=hS.1
          clear hS hsz
          obtain ⟨v75,h75⟩:∃v,a.tmps.getD 75 undef=v:=⟨_,rfl⟩
          rw [h75] at q75
          refine will_of rfl ?_
          intro K hK
          obtain ⟨m1,m2,rfl,hm1,hm2⟩:=q75
          go_simp
          exact hK _ _ ⟨Below.refl _ _,hm1⟩
         ·intro a W hsz hb hS
          have q75:(Is2 (IsT (NA*TX)) (IsV (.int .i64 0))) (a.tmps.getD 75 undef) W:=hS.1
          clear hS hsz
          obtain ⟨v75,h75⟩:∃v,a.tmps.getD 75 undef=v:=⟨_,rfl⟩
          rw [h75] at q75
          refine will_of rfl ?_
          intro K hK
          obtain ⟨m1,m2,rfl,hm1,rfl⟩:=q75
          go_simp
          exact hK _ _ ⟨Below.refl _ _,rfl⟩
         ·intro a W hsz hb hS
          have h3:a.tmps.getD 3 undef=.pointer (some ⟨w.heap.size+1,0,none⟩):=hS.1
          clear hS hsz
          refine will_of rfl ?_
          intro K hK
          go_simp
          exact hK _ _ ⟨Below.refl _ _,rfl⟩
         ·intro o ho
          obtain rfl:_=o:=Option.some.inj ho
          refine ⟨rfl,fun a W hsz hS => ?_⟩
          have q75:(Is2 (IsT (NA*TX)) (IsV (.int .i64 0))) (a.tmps.getD 75 undef) W:=hS.1
          obtain ⟨m1,m2,h75,_,rfl⟩:=q75
          clear hS
          exact ⟨.int .i64 0,fun w2=>by go_simp⟩
         ·exact store_ok (by kernel_rfl)
         intro f W hb hH s hs
         obtain rfl:_=s:=Option.some.inj hs
         have e0:f 0=.pointer (some ⟨w.heap.size+1,1,none⟩):=hH.1
         have e1:f 1=.slice A6 (dig NA).length (dig NA).length:=hH.2.1
         have e2:f 2=.int .i64 0:=hH.2.2.1
         obtain ⟨x3,y3⟩:∃x,f 3=x:=⟨_,rfl⟩
         have q3:(IsT TX) (f 3) W:=hH.2.2.2.1
         rw [y3] at q3
         obtain ⟨x4,y4⟩:∃x,f 4=x:=⟨_,rfl⟩
         have q4:(Is2 (IsT (NA*TX)) (IsV (.int .i64 0))) (f 4) W:=hH.2.2.2.2.1
         rw [y4] at q4
         obtain ⟨x5,y5⟩:∃x,f 5=x:=⟨_,rfl⟩
         have q5:(Is2 (IsT (NA*TX)) (IsV (.int .i64 0))) (f 5) W:=hH.2.2.2.2.2.1
         rw [y5] at q5
         obtain ⟨x6,y6⟩:∃x,f 6=x:=⟨_,rfl⟩
         have q6:(IsT (NA*TX)) (f 6) W:=hH.2.2.2.2.2.2.1
         rw [y6] at q6
         have e7:f 7=.int .i64 0:=hH.2.2.2.2.2.2.2.1
         have e8:f 8=.pointer (some ⟨w.heap.size+1,1,none⟩):=hH.2.2.2.2.2.2.2.2.1
         simp only [List.take_succ_cons,List.take_zero,List.drop_succ_cons,List.drop_zero,putFrom,Act.put,List.setIfInBounds_toArray,List.set_cons_zero,List.set_cons_succ,Nat.reduceAdd,e0,e1,e2,y3,y4,y5,y6,e7,e8]
         clear e0 e1 e2 y3 y4 y5 y6 e7 e8 hH f
         have hsW:=HSr.out.below hb
         obtain ⟨⟨qb0,qb1,qb2,qb3⟩,⟨fb0,fb1,fb2,fb3⟩,mb0,mb1,mfb0,mfb1⟩:=hsW.cells
         obtain ⟨A12,rfl,hR12⟩:=q6
         have HS12:=Lib.hid (hsW.putV (N':=NA*TX) ⟨A12,rfl,hR12⟩)
         clear hsW hR12
         refine ⟨W.setCell ⟨w.heap.size+1,1,none⟩ (.slice A12 (dig (NA*TX)).length (dig (NA*TX)).length),.inl (by go_simp),?_⟩
         go_wp2
         go_meet
         exact ⟨r1,NA*TX,1,_,_,0,0,0,HS12,Lib.hid (by rw [HF.out,HTX.out];rfl),by omega⟩
        ·have hT0:=fun W=>ten_any nl (by omega) W
         obtain ⟨TX,hTX⟩:∃TX,TX=10^nl:=⟨_,rfl⟩
         rw [←hTX] at hT0
         have HTX:=Lib.hid hTX
         have HTen:=Lib.hid hT0
         have HF:=Lib.hid hfin
         have hneg:0 - (nl:Int)<0:=by omega
         have hneg2 : -(nl:Int)<0:=by omega
         have hpos:0<(nl:Int):=by omega
         clear hPt' hN hIe hT0 hfin hp he hTX hNA hNb hA hnl
         go_wp2_with (first
          | (go_at_call 140;(with_reducible refine (HP.out _ HS4.out.rdr).mono ?_);rintro e w5 ⟨rfl,h1⟩;have HS5:=Lib.hid (HS4.out.go h1.1 h1.2);clear h1)
          | (go_at_call 143;(with_reducible refine (HNt.out _).mono ?_);rintro e w6 ⟨v6,rfl,⟨A6,rfl,hR6⟩,hb6⟩;have hv6:IsT NA (.slice A6 (dig NA).length (dig NA).length) w6:=⟨A6,rfl,hR6⟩;have hs:=HS5.out.below hb6;obtain ⟨⟨q60,q61,q62,q63⟩,⟨f60,f61,f62,f63⟩,m60,m61,mf60,mf61⟩:=hs.cells;have HS6:=Lib.hid (hs.putV hv6);clear hs hv6 hR6 hb6)
          | (go_at_call 139;(with_reducible refine (HIe.out _ HS6.out.rdr).mono ?_);rintro e w8 ⟨rfl,h1⟩;have HS8:=Lib.hid (HS6.out.go h1.1 h1.2);clear h1)
          | (go_at_call 104;(with_reducible refine (HTen.out _).mono ?_);rintro e w10 ⟨v10,rfl,⟨A10,rfl,hR10⟩,hb10⟩;have hv10:IsT TX (.slice A10 (dig TX).length (dig TX).length) w10:=⟨A10,rfl,hR10⟩;have hs:=HS8.out.below hb10;obtain ⟨⟨qa0,qa1,qa2,qa3⟩,⟨fa0,fa1,fa2,fa3⟩,ma0,ma1,mfa0,mfa1⟩:=hs.cells;have HS10:=Lib.hid (hs.putD hv10);clear hs hv10 hR10 hb10))
         go_meet
         exact ⟨r1,NA,TX,_,_,0,0,0,HS10,Lib.hid (by rw [HF.out,HTX.out,show (0 - (nl:Int)).toNat=0 by omega,show (-(0 - (nl:Int))).toNat=nl by omega];simp),by omega⟩
       ·obtain ⟨c,s,rfl,hc⟩:=isR_t he
        rw [isR_two hc] at hIe
        obtain ⟨d,hd⟩:∃d,(sg s).2.takeWhile isD=d:=⟨_,rfl⟩
        obtain ⟨u,hu⟩:∃u,(sg s).2.dropWhile isD=u:=⟨_,rfl⟩
        have hc':c.toNat=101∨c.toNat=69:=hc
        have HC:=Lib.hid hc'
        clear hc hc' he
        by_cases hd0:d=[]
        ·subst hd0
         have HF:=Lib.hid (dc_e3 HL.out.1 HL.out.2.1 hp HC.out hd hu)
         have HXn:=Lib.hid (fun W h=>exponent_no W b l s h (by omega) u hd hu)
         generalize hA:a++ob (some bq)=A at *
         generalize hnl:(ob (some bq)).length=nl at *
         generalize hNA:numB 10 A=NA at *
         generalize bs A=BA at *
         have HP:=Lib.hid hPt'
         have HNt:=Lib.hid hN
         have HIe:=Lib.hid hIe
         clear hd hu hPt' hN hIe hp hNA hNb  hA hnl
         go_wp2_with (first
          | (go_at_call 140;(with_reducible refine (HP.out _ HS4.out.rdr).mono ?_);rintro e w5 ⟨rfl,h1⟩;have HS5:=Lib.hid (HS4.out.go h1.1 h1.2);clear h1)
          | (go_at_call 143;(with_reducible refine (HNt.out _).mono ?_);rintro e w6 ⟨v6,rfl,⟨A6,rfl,hR6⟩,hb6⟩;have hv6:IsT NA (.slice A6 (dig NA).length (dig NA).length) w6:=⟨A6,rfl,hR6⟩;have hs:=HS5.out.below hb6;obtain ⟨⟨q60,q61,q62,q63⟩,⟨f60,f61,f62,f63⟩,m60,m61,mf60,mf61⟩:=hs.cells;have HS6:=Lib.hid (hs.putV hv6);clear hs hv6 hR6 hb6)
          | (go_at_call 139;(with_reducible refine (HIe.out _ HS6.out.rdr).mono ?_);rintro e w8 ⟨rfl,h1⟩;have HS8:=Lib.hid (HS6.out.go h1.1 h1.2);clear h1)
          | (go_at_call 142;(with_reducible refine (HXn.out _ HS8.out.rdr).mono ?_);rintro e wz ⟨rfl,h1⟩))
         rw [HF.out]
         exact ⟨rfl,rfl,grownBy_trans HS8.out.grow h1⟩
        ·have hfin:=fun X hX=>dc_ex HL.out.1 HL.out.2.1 hp HC.out hd hu hd0 (X:=X) hX
         have hX:=fun W h=>exponent_any W b l s h (by omega) d u hd hu hd0
         have hxn:(if (sg s).1 then -((min (numB 10 d) 9999:Nat):Int) else ((min (numB 10 d) 9999:Nat):Int))=xnum (sg s).1 d:=rfl
         rw [hxn] at hX
         rw [HN.out] at hfin
         have hXl:=xnum_le (sg s).1 d
         have hLX:0≤(lateO (l.length - (sg s).2.length) (numB 10 d)).1:=by unfold lateO;split <;> simp
         generalize xnum (sg s).1 d=X at *
         generalize (lateO (l.length - (sg s).2.length) (numB 10 d)).1=LX at *
         generalize (lateO (l.length - (sg s).2.length) (numB 10 d)).2=LY at *
         have hfin:=hfin (X - ((ob (some bq)).length:Int)) rfl
         generalize hA:a++ob (some bq)=A at *
         generalize hnl:(ob (some bq)).length=nl at *
         generalize hNA:numB 10 A=NA at *
         generalize bs A=BA at *
         have HX:=Lib.hid hX
         have HF:=Lib.hid hfin
         have HP:=Lib.hid hPt'
         have HNt:=Lib.hid hN
         have HIe:=Lib.hid hIe
         clear hd hu hX hfin hPt' hN hIe hp hNA hd0 hxn  hA hnl
         by_cases hneg:(X - (nl:Int))<0
         ·obtain ⟨k,hk⟩:∃k:Nat,-(X - (nl:Int))=(k:Int):=⟨(-(X - (nl:Int))).toNat,by omega⟩
          have hT0:=fun W=>ten_any k (by omega) W
          obtain ⟨TX,hTX⟩:∃TX,TX=10^k:=⟨_,rfl⟩
          rw [←hTX,←hk] at hT0
          have HTX:=Lib.hid (And.intro hTX hk)
          have HTen:=Lib.hid hT0
          clear hT0 hTX hk hNb
          go_wp2_with (first
           | (go_at_call 140;(with_reducible refine (HP.out _ HS4.out.rdr).mono ?_);rintro e w5 ⟨rfl,h1⟩;have HS5:=Lib.hid (HS4.out.go h1.1 h1.2);clear h1)
           | (go_at_call 143;(with_reducible refine (HNt.out _).mono ?_);rintro e w6 ⟨v6,rfl,⟨A6,rfl,hR6⟩,hb6⟩;have hv6:IsT NA (.slice A6 (dig NA).length (dig NA).length) w6:=⟨A6,rfl,hR6⟩;have hs:=HS5.out.below hb6;obtain ⟨⟨q60,q61,q62,q63⟩,⟨f60,f61,f62,f63⟩,m60,m61,mf60,mf61⟩:=hs.cells;have HS6:=Lib.hid (hs.putV hv6);clear hs hv6 hR6 hb6)
           | (go_at_call 139;(with_reducible refine (HIe.out _ HS6.out.rdr).mono ?_);rintro e w8 ⟨rfl,h1⟩;have HS8:=Lib.hid (HS6.out.go h1.1 h1.2);clear h1)
           | (go_at_call 142;(with_reducible refine (HX.out _ HS8.out.rdr).mono ?_);rintro e w9 ⟨rfl,h1⟩;have hs:=HS8.out.go h1.1 h1.2;obtain ⟨⟨q90,q91,q92,q93⟩,⟨f90,f91,f92,f93⟩,m90,m91,mf90,mf91⟩:=hs.cells;have HS9:=Lib.hid (hs.fault LX LY);clear hs h1)
           | (go_at_call 104;(with_reducible refine (HTen.out _).mono ?_);rintro e w10 ⟨v10,rfl,⟨A10,rfl,hR10⟩,hb10⟩;have hv10:IsT TX (.slice A10 (dig TX).length (dig TX).length) w10:=⟨A10,rfl,hR10⟩;have hs:=HS9.out.below hb10;obtain ⟨⟨qa0,qa1,qa2,qa3⟩,⟨fa0,fa1,fa2,fa3⟩,ma0,ma1,mfa0,mfa1⟩:=hs.cells;have HS10:=Lib.hid (hs.putD hv10);clear hs hv10 hR10 hb10))
          go_meet
          exact ⟨u,NA,TX,_,_,0,LX,LY,HS10,Lib.hid (by rw [HF.out,HTX.out.1,show (-(X - (nl:Int))).toNat=k by have:=HTX.out.2;omega,show ((X - (nl:Int)):Int).toNat=0 by omega];simp),hLX⟩
         ·obtain ⟨k,hk⟩:∃k:Nat,(X - (nl:Int))=(k:Int):=⟨((X - (nl:Int)):Int).toNat,by omega⟩
          have hT0:=fun W=>ten_any k (by omega) W
          obtain ⟨TX,hTX⟩:∃TX,TX=10^k:=⟨_,rfl⟩
          have hb10:blen (10^k)≤40000:=ten_bits k (by omega)
          rw [←hTX] at hT0 hb10
          rw [←hk] at hT0
          have HBl:=Lib.hid (And.intro (show blen NA≤100000 by omega) (show blen TX≤100000 by omega))
          have HTX:=Lib.hid (And.intro hTX hk)
          have HTen:=Lib.hid hT0
          clear hT0 hTX hk hNb hb10
          go_wp2_with (first
           | (go_at_call 140;(with_reducible refine (HP.out _ HS4.out.rdr).mono ?_);rintro e w5 ⟨rfl,h1⟩;have HS5:=Lib.hid (HS4.out.go h1.1 h1.2);clear h1)
           | (go_at_call 143;(with_reducible refine (HNt.out _).mono ?_);rintro e w6 ⟨v6,rfl,⟨A6,rfl,hR6⟩,hb6⟩;have hv6:IsT NA (.slice A6 (dig NA).length (dig NA).length) w6:=⟨A6,rfl,hR6⟩;have hs:=HS5.out.below hb6;obtain ⟨⟨q60,q61,q62,q63⟩,⟨f60,f61,f62,f63⟩,m60,m61,mf60,mf61⟩:=hs.cells;have HS6:=Lib.hid (hs.putV hv6);clear hs hv6 hR6 hb6)
           | (go_at_call 139;(with_reducible refine (HIe.out _ HS6.out.rdr).mono ?_);rintro e w8 ⟨rfl,h1⟩;have HS8:=Lib.hid (HS6.out.go h1.1 h1.2);clear h1)
           | (go_at_call 142;(with_reducible refine (HX.out _ HS8.out.rdr).mono ?_);rintro e w9 ⟨rfl,h1⟩;have hs:=HS8.out.go h1.1 h1.2;obtain ⟨⟨q90,q91,q92,q93⟩,⟨f90,f91,f92,f93⟩,m90,m91,mf90,mf91⟩:=hs.cells;have HS9:=Lib.hid (hs.fault LX LY);clear hs h1))
          have HSr:=Lib.hid (HS9.out)
          clear HS9
          refine region_late 9 7 (Pick [IsV (.pointer (some ⟨w.heap.size+1,1,none⟩)),IsV (.slice A6 (dig NA).length (dig NA).length),IsV (.int .i64 (X - (nl:Int))),(IsT TX),(Is2 (IsT (NA*TX)) (IsV (.int .i64 0))),(Is2 (IsT (NA*TX)) (IsV (.int .i64 0))),(IsT (NA*TX)),IsV (.int .i64 0),IsV (.pointer (some ⟨w.heap.size+1,1,none⟩))]) (by kernel_rfl) (by kernel_rfl) (by kernel_rfl) (mono_pick ⟨IsV.mono _,IsV.mono _,IsV.mono _,IsT.mono _,Is2.mono (IsT.mono _) (IsV.mono _),Is2.mono (IsT.mono _) (IsV.mono _),IsT.mono _,IsV.mono _,IsV.mono _,trivial⟩) ⟨?_,?_,?_,?_,?_,?_,?_,?_,?_,trivial⟩ ?_ ?_ ?_
          ·intro a W hsz hb hS
           have h3:a.tmps.getD 3 undef=.pointer (some ⟨w.heap.size+1,0,none⟩):=hS.1
           clear hS hsz
           refine will_of rfl ?_
           intro K hK
           go_simp
           exact hK _ _ ⟨Below.refl _ _,rfl⟩
          ·intro a W hsz hb hS
           have h76:a.tmps.getD 76 undef=.pointer (some ⟨w.heap.size+1,1,none⟩):=hS.1
           clear hS hsz
           refine will_of rfl ?_
           have hsW:=HSr.out.below hb
           obtain ⟨⟨qb0,qb1,qb2,qb3⟩,⟨fb0,fb1,fb2,fb3⟩,mb0,mb1,mfb0,mfb1⟩:=hsW.cells
           intro K hK
           go_simp
           exact hK _ _ ⟨Below.refl _ _,rfl⟩
          ·intro a W hsz hb hS
           have h11:a.tmps.getD 11 undef=.int .i64 (X - (nl:Int)):=hS.1
           clear hS hsz
           refine will_of rfl ?_
           intro K hK
           go_simp
           exact hK _ _ ⟨Below.refl _ _,rfl⟩
          ·intro a W hsz hb hS
           have h78:a.tmps.getD 78 undef=.int .i64 (X - (nl:Int)):=hS.1
           clear hS hsz
           refine will_of rfl ?_
           have hsW:=HSr.out.below hb
           obtain ⟨⟨qb0,qb1,qb2,qb3⟩,⟨fb0,fb1,fb2,fb3⟩,mb0,mb1,mfb0,mfb1⟩:=hsW.cells
           intro K hK
           go_simp
           refine (HTen.out W).mono ?_
           rintro e W' ⟨v,rfl,hv,hb'⟩
           exact hK _ _ ⟨hb',hv⟩
          ·intro a W hsz hb hS
           have h77:a.tmps.getD 77 undef=.slice A6 (dig NA).length (dig NA).length:=hS.1
           have q79:(IsT TX) (a.tmps.getD 79 undef) W:=hS.2.1
           clear hS hsz
           obtain ⟨v79,h79⟩:∃v,a.tmps.getD 79 undef=v:=⟨_,rfl⟩
           rw [h79] at q79
           refine will_of rfl ?_
           have hsW:=HSr.out.below hb
           obtain ⟨⟨qb0,qb1,qb2,qb3⟩,⟨fb0,fb1,fb2,fb3⟩,mb0,mb1,mfb0,mfb1⟩:=hsW.cells
           intro K hK
           go_simp
           refine (nmul_is hsW.isV q79 HBl.out.1 HBl.out.2).mono ?_
           rintro e W' ⟨v,rfl,hv,hb'⟩
           exact hK _ _ ⟨hb',hv⟩
          ·intro a W hsz hb hS
           have q80:(Is2 (IsT (NA*TX)) (IsV (.int .i64 0))) (a.tmps.getD 80 undef) W:=hS.1
           clear hS hsz
           obtain ⟨v80,h80⟩:∃v,a.tmps.getD 80 undef=v:=⟨_,rfl⟩
           rw [h80] at q80
           refine will_of rfl ?_
           intro K hK
           go_simp
           exact hK _ _ ⟨Below.refl _ _,q80⟩
          ·intro a W hsz hb hS
           have q75:(Is2 (IsT (NA*TX)) (IsV (.int .i64 0))) (a.tmps.getD 75 undef) W:=hS.1
           clear hS hsz
           obtain ⟨v75,h75⟩:∃v,a.tmps.getD 75 undef=v:=⟨_,rfl⟩
           rw [h75] at q75
           refine will_of rfl ?_
           intro K hK
           obtain ⟨m1,m2,rfl,hm1,hm2⟩:=q75
           go_simp
           exact hK _ _ ⟨Below.refl _ _,hm1⟩
          ·intro a W hsz hb hS
           have q75:(Is2 (IsT (NA*TX)) (IsV (.int .i64 0))) (a.tmps.getD 75 undef) W:=hS.1
           clear hS hsz
           obtain ⟨v75,h75⟩:∃v,a.tmps.getD 75 undef=v:=⟨_,rfl⟩
           rw [h75] at q75
           refine will_of rfl ?_
           intro K hK
           obtain ⟨m1,m2,rfl,hm1,rfl⟩:=q75
           go_simp
           exact hK _ _ ⟨Below.refl _ _,rfl⟩
          ·intro a W hsz hb hS
           have h3:a.tmps.getD 3 undef=.pointer (some ⟨w.heap.size+1,0,none⟩):=hS.1
           clear hS hsz
           refine will_of rfl ?_
           intro K hK
           go_simp
           exact hK _ _ ⟨Below.refl _ _,rfl⟩
          ·intro o ho
           obtain rfl:_=o:=Option.some.inj ho
           refine ⟨rfl,fun a W hsz hS => ?_⟩
           have q75:(Is2 (IsT (NA*TX)) (IsV (.int .i64 0))) (a.tmps.getD 75 undef) W:=hS.1
           obtain ⟨m1,m2,h75,_,rfl⟩:=q75
           clear hS
           exact ⟨.int .i64 0,fun w2=>by go_simp⟩
          ·exact store_ok (by kernel_rfl)
          intro f W hb hH s hs
          obtain rfl:_=s:=Option.some.inj hs
          have e0:f 0=.pointer (some ⟨w.heap.size+1,1,none⟩):=hH.1
          have e1:f 1=.slice A6 (dig NA).length (dig NA).length:=hH.2.1
          have e2:f 2=.int .i64 (X - (nl:Int)):=hH.2.2.1
          obtain ⟨x3,y3⟩:∃x,f 3=x:=⟨_,rfl⟩
          have q3:(IsT TX) (f 3) W:=hH.2.2.2.1
          rw [y3] at q3
          obtain ⟨x4,y4⟩:∃x,f 4=x:=⟨_,rfl⟩
          have q4:(Is2 (IsT (NA*TX)) (IsV (.int .i64 0))) (f 4) W:=hH.2.2.2.2.1
          rw [y4] at q4
          obtain ⟨x5,y5⟩:∃x,f 5=x:=⟨_,rfl⟩
          have q5:(Is2 (IsT (NA*TX)) (IsV (.int .i64 0))) (f 5) W:=hH.2.2.2.2.2.1
          rw [y5] at q5
          obtain ⟨x6,y6⟩:∃x,f 6=x:=⟨_,rfl⟩
          have q6:(IsT (NA*TX)) (f 6) W:=hH.2.2.2.2.2.2.1
          rw [y6] at q6
          have e7:f 7=.int .i64 0:=hH.2.2.2.2.2.2.2.1
          have e8:f 8=.pointer (some ⟨w.heap.size+1,1,none⟩):=hH.2.2.2.2.2.2.2.2.1
          simp only [List.take_succ_cons,List.take_zero,List.drop_succ_cons,List.drop_zero,putFrom,Act.put,List.setIfInBounds_toArray,List.set_cons_zero,List.set_cons_succ,Nat.reduceAdd,e0,e1,e2,y3,y4,y5,y6,e7,e8]
          clear e0 e1 e2 y3 y4 y5 y6 e7 e8 hH f
          have hsW:=HSr.out.below hb
          obtain ⟨⟨qb0,qb1,qb2,qb3⟩,⟨fb0,fb1,fb2,fb3⟩,mb0,mb1,mfb0,mfb1⟩:=hsW.cells
          obtain ⟨A12,rfl,hR12⟩:=q6
          have HS12:=Lib.hid (hsW.putV (N':=NA*TX) ⟨A12,rfl,hR12⟩)
          clear hsW hR12
          refine ⟨W.setCell ⟨w.heap.size+1,1,none⟩ (.slice A12 (dig (NA*TX)).length (dig (NA*TX)).length),.inl (by go_simp),?_⟩
          go_wp2
          go_meet
          exact ⟨u,NA*TX,1,_,_,0,LX,LY,HS12,Lib.hid (by rw [HF.out,HTX.out.1,show ((X - (nl:Int)):Int).toNat=k by have:=HTX.out.2;omega,show (-(X - (nl:Int))).toNat=0 by have:=HTX.out.2;omega,Nat.pow_zero]),hLX⟩
   case rest =>
    obtain ⟨r,N,M,V,D,k,fx,fy,HS3,HF,hfx⟩:=hcut
    obtain ⟨AV,rfl,hRV⟩:=HS3.out.isV
    obtain ⟨AD,rfl,hRD⟩:=HS3.out.isD
    clear hRV hRD
    clear HS2
    obtain ⟨⟨p0,p1,p2,p3⟩,⟨pf0,pf1,pf2,pf3⟩,m0,m1,mf0,mf1⟩:=HS3.out.cells
    obtain ⟨c0,c1,cf0,cf1⟩:=HS3.out.rdr.cellsAt hS1 rfl
    obtain ⟨⟨z0,z1,z2,z3⟩,zf0,zf1,zf2,zf3⟩:=HS3.out.rcells
    cases r with
    | cons c0' r' =>
     have hrl':=HS3.out.rdr.1
     have hlt:((l.length - (c0'::r').length:Nat):Int)<(l.length:Int):=by
      rw [List.length_cons] at hrl' ⊢;omega
     have HFl:=Lib.hid (fun W h=>fail_any W b l (c0'::r') h)
     generalize hq:l.length - (c0'::r').length=q at *
     have HQ:=Lib.hid hq
     clear hq hrl'
     go_upto_region 30 with fail
     go_quiet (fail)
     go_wp2_with (go_at_call 141;refine (HFl.out _ (HS3.out.drewN _).rdr).mono ?_;rintro e wz ⟨rfl,rfl⟩)
     rw [HF.out,fin_left (by simp),HQ.out]
     exact ⟨rfl,rfl,(HS3.out.drewN _).grow⟩
    | nil =>
     rw [show l.length - ([]:List UInt8).length=l.length from rfl] at c1
     by_cases hy:fy=0
     ·subst hy
      go_upto_region 30 with fail
      go_quiet (fail)
      go_wp2
      obtain ⟨o1,o2,o3,o4⟩:=(HS3.out.drewN nq).out
      obtain ⟨y0,y1,y2,y3⟩:=putR_read o1
      unfold putR at y0 y1 y2 y3
      rw [HF.out,fin_ok]
      refine bodyPost_ret (v:=.agg #[.bool n,.slice AV (dig N).length (dig N).length,.slice AD (dig M).length (dig M).length,.int .i64 k]) (by simp [results,Tryz.results130,go_sem,y0,y1,y2,y3]) rfl ?_
      exact ⟨_,_,rfl,o2,o3,o4⟩
     ·have hyb:(fy != 0)=true:=by simpa using hy
      go_upto_region 30 with fail
      go_quiet (fail)
      go_wp2
      rw [HF.out,fin_late hy]
      have e:((fx.toNat:Nat):Int)=fx:=Int.toNat_of_nonneg hfx
      exact ⟨rfl,by rw [e],(HS3.out.drewN _).grow⟩
end Go.Proofs.YtigmpifjcijdbaaGreatDoor
