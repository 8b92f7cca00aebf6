/- Contracts of nat: down, Shr. -/
import Derived.Test.YtigmpifjcijdbaaGreatDoorG18
import Derived.Deep.CutBlock
import Derived.Test.YtigmpifjcijdbaaGreatDoorG23
import Derived.Test.YtigmpifjcijdbaaGreatDoorG24
import Derived.Test.YtigmpifjcijdbaaGreatDoorG33
import Derived.Test.YtigmpifjcijdbaaGreatDoorG34
namespace Go.Proofs.YtigmpifjcijdbaaGreatDoor
set_option linter.unusedVariables false
set_option linter.unusedSimpArgs false
open Go.RowKit Verge
def DownPost (w:World) (v e:Nat) (en:Ending) (w':World):Prop:=
 ∃g A1,w.heap.size≤g∧en=.returned (.tuple #[.slice A1 (dig (v / 2^e)).length (dig (v / 2^e)).length,.bool (decide (v%2^e≠0))])∧Own w' g A1 (dig (v / 2^e))∧Below w.heap.size w w'
set_option maxHeartbeats 1000000 in
theorem down_none (A:Option Addr) (n c:Nat) (X:List Nat) (e:Nat) (w:World) (h:Rd w A X) (hn:X.length=n) (hc:n≤c) (hm:n≤70368744177663) (he:e≤9223372036854775807) (hk:wl X≤e / 32) :
  Calls Tryz.prog 156 #[.slice A n c,.int .i64 (e:Int)] w (DownPost w (val X) e):=by
 have hle:=wl_le X
 have cut1:=fun W=>run_cut_h W A n c (wl X) (by omega)
 have hX:=words_any A n c X w h hn (by omega)
 obtain ⟨d1,d2⟩:=down_all h.1 e hk
 have hd:decide (val X%2^e≠0)=decide (0<wl X):=by
  rw [d2]
  have:=val_eq_zero_iff X
  by_cases h0:wl X=0
  ·simp [h0,this.2 h0]
  ·have h1:val X≠0:=fun e=>h0 (this.1 e)
   simp [h1];omega
 obtain ⟨k,hke⟩:∃k,e / 32=k:=⟨_,rfl⟩
 have hkI:(e:Int) / 32=(k:Int):=by omega
 rw [hke] at hk
 have HX:=Lib.hid hX
 have HD:=Lib.hid (And.intro d1 hd)
 clear hX d1 d2 hd hn h hke
 go_enter Tryz.func156,Tryz.ntmps156
 go_wp2
 go_step3
 go_wp2_with (go_at_call 105;refine HX.out.mono ?_;rintro en w' ⟨rfl,rfl⟩)
 rw [Exit.noGoto_ret]
 go_ret2
 unfold DownPost
 rw [HD.out.1,HD.out.2,dig_zero]
 exact ⟨w.heap.size,none,by omega,by simp,Own.nil _ _ _,Below.refl _ w⟩
set_option maxRecDepth 100000 in
set_option maxHeartbeats 8000000 in
theorem down_some (A:Option Addr) (n c:Nat) (X:List Nat) (e:Nat) (w:World) (h:Rd w A X) (hn:X.length=n) (hc:n≤c) (hm:n≤70368744177663) (hmc:c≤140737488355328) (he:e≤9223372036854775807) (hk:e / 32<wl X) :
  Calls Tryz.prog 156 #[.slice A n c,.int .i64 (e:Int)] w (DownPost w (val X) e):=by
 have hle:=wl_le X
 have cut1:=fun W=>run_cut_h W A n c (wl X) (by omega)
 have hX:=words_any A n c X w h hn (by omega)
 obtain ⟨k,hke⟩:∃k,e / 32=k:=⟨_,rfl⟩
 obtain ⟨r,hre⟩:∃r,e%32=r:=⟨_,rfl⟩
 have hkI:(e:Int) / 32=(k:Int):=by omega
 have hrI:(e:Int)%32=(r:Int):=by omega
 have hr32:r<32:=by omega
 rw [hke] at hk
 obtain ⟨x,hgx⟩:∃x,X.getD k 0=x:=⟨_,rfl⟩
 have hx32:x<4294967296:=by rw [←hgx];exact h.1.getD k
 have hlost:=down_lost h.1 e x (by rw [hke];omega) (by rw [hke];exact hgx)
 have hdiv:=down_div h.1 e
 rw [hke,hre] at hlost hdiv
 obtain ⟨b,o,rfl,hcl⟩:=h.cells (by omega)
 have hck:=hcl k (by omega)
 rw [hgx] at hck
 have hci:∀i,i<k→w.cell? ⟨b,o+i,none⟩=some (.int .u32 ((X.getD i 0:Nat):Int)):=fun i hi=>hcl i (by omega)
 have hi32:∀i,X.getD i 0<4294967296:=fun i=>h.1.getD i
 have h2r:2^r≤2147483648:=by
  have:=Nat.pow_le_pow_right (n:=2) (by omega) (show r≤31 by omega)
  simpa using this
 have h2p:0<2^r:=Nat.pow_pos (by omega)
 obtain ⟨N,hN⟩:∃N,wl X=N:=⟨_,rfl⟩
 rw [hN] at cut1 hX hk
 have HX:=Lib.hid hX
 have HD:=Lib.hid (And.intro hlost (And.intro hdiv (And.intro hn hN)))
 have HC:=Lib.hid hci
 have H32:=Lib.hid hi32
 have HH:=Lib.hid h
 have hNn:N≤n:=by omega
 have hj1:(k:Int)<(N:Int):=by omega
 obtain ⟨y,hy⟩:∃y,x%2^r=y:=⟨_,rfl⟩
 have hand:bits .and .u32 (x:Int) (((2:Int)^r - 1)%4294967296)=(y:Int):=by
  have e1:(((2:Int)^r - 1)%4294967296)=((2^r - 1:Nat):Int):=by
   have:((2:Int)^r)=((2^r:Nat):Int):=by simp
   rw [this];omega
  rw [e1,u32_and_nat x (2^r - 1) hx32 (by omega),Nat.and_two_pow_sub_one_eq_mod,hy]
 obtain ⟨l0,hl0⟩:∃l0,((y:Int) != 0)=l0:=⟨_,rfl⟩
 have HY:=Lib.hid (And.intro hy hl0)
 have HRI:=Lib.hid hrI
 clear hX hn h hke hre hlost hdiv hcl hci hi32 hgx hN hle hy
 go_enter Tryz.func156,Tryz.ntmps156
 go_wp2
 go_step3
 go_wp2_with (go_at_call 105;refine HX.out.mono ?_;rintro en w' ⟨rfl,rfl⟩)
 go_quiet (fail)
 clear hrI
 go_wp2
 clear hand
 go_step3
 go_upto_block 0 with (fail)
 go_cut [6] from 7 to 44 (fun s6 wx=>∃l:Bool,s6=.bool l∧Hid (l=true↔y≠0∨val (X.take k)≠0)∧∃d,wx=w.drewN d)
 case first =>
  go_wp2
  go_loop [6,7,33,36,38] (fun lv _ iv _ _=>∃(i:Nat) (l:Bool),i≤k∧iv=.int .i64 i∧lv=.bool l∧Hid (l=true↔y≠0∨val (X.take i)≠0)) (fun _ _ iv _ _=>k - (intOf iv).toNat)
  case atStart=>exact ⟨0,l0,by omega,rfl,rfl,show _↔_ by
   rw [←HY.out.2];simp⟩
  case round =>
   obtain ⟨i,l,hi,rfl,rfl,hl⟩:=hrel
   by_cases hik:i<k
   ·cases l with
    | true =>
     go_wp2
     go_meet
     case rel =>
      refine ⟨true,rfl,show _↔_ from ⟨fun _ => ?_,fun _=>rfl⟩,_,rfl⟩
      rcases hl.out.1 (by trivial) with h | h
      ·exact .inl h
      ·have:=val_take_mono X (show i≤k by omega)
       exact .inr (by omega)
    | false =>
     have hci:=HC.out i hik
     have hz32:=H32.out i
     obtain ⟨z,hgz⟩:∃z,X.getD i 0=z:=⟨_,rfl⟩
     rw [hgz] at hci hz32
     have HGZ:=Lib.hid hgz
     clear hgz
     have hj2:(i:Int)<(N:Int):=by omega
     by_cases hz:z=0
     ·subst hz
      go_wp2
      go_round
      case rel=>exact ⟨i+1,false,by omega,by go_num,rfl,show _↔_ by
       rw [lost_step X i 0 HGZ.out];have:=hl.out;simp at this ⊢;exact this⟩
      case measure=>simp [intOf];omega
     ·have hzb:((z:Int) != 0)=true:=by simpa using hz
      go_wp2
      go_round
      case rel=>exact ⟨i+1,true,by omega,by go_num,rfl,show _↔_ by
       rw [lost_step X i z HGZ.out];simp [hz]⟩
      case measure=>simp [intOf];omega
   ·obtain rfl:i=k:=by omega
    go_wp2
    go_meet
    case rel=>exact ⟨l,rfl,hl.out,_,rfl⟩
 case rest =>
  obtain ⟨l,rfl,hl,d,rfl⟩:=hcut
  have hrd:Rd (w.drewN d) (some ⟨b,o+k,none⟩) ((X.take N).drop k):=by
   have:=(HH.out.take N).cut (c:=c) (l:=k) (by rw [List.length_take];omega)
   rw [cutA,if_neg (by omega)] at this
   rw [←add_none];exact this.drewN d
  have hNr:=norm_any (some ⟨b,o+k,none⟩) (N - k) (c - k) ((X.take N).drop k) (w.drewN d) hrd (by have:=HD.out.2.2.1;rw [List.length_drop,List.length_take];omega) (by omega)
  obtain ⟨z,hz⟩:∃z,val ((X.take N).drop k)=z:=⟨_,rfl⟩
  have hzl:(dig z).length≤n:=by
   rw [←hz,←wl_eq ((HH.out.1.take N).drop k)]
   have:=wl_le ((X.take N).drop k)
   have h2:=HD.out.2.2.1
   rw [List.length_drop,List.length_take] at this
   omega
  rw [hz] at hNr
  have HZ:=Lib.hid hz;clear hz hrd
  go_wp2_with (first
   | (go_at_call 108;refine hNr.mono ?_;rintro en w' ⟨g,A',hg,rfl,hO,hB,rfl,hb⟩)
   | (go_at_call 114;rw [HRI.out];refine (back_any g (dig z).length (dig z).length (dig z) r w' hB (Nat.le_refl _) (Nat.le_refl _) (by omega) hr32).mono ?_;rintro en w2 ⟨A2,rfl,hO2,hG⟩))
  rw [Exit.noGoto_ret]
  go_ret2
  obtain ⟨h1,h2,h3,h4⟩:=HD.out
  have hzv:z / 2^r=val X / 2^e:=by
   have e1:=val_div (X.take N) (HH.out.1.take N) k
   have e2:val (X.take N)=val X:=by rw [←h4];exact val_norm X
   rw [HZ.out,e2,val_div X HH.out.1] at e1
   rw [h2,e1]
  have hlb:l=decide (val X%2^e≠0):=by
   have h5:=hl.out
   rw [←HY.out.1] at h5
   have:l=true↔val X%2^e≠0:=h5.trans h1.symm
   cases l <;> simp at this ⊢ <;> omega
  rw [List.take_length,val_dig,hzv] at hO2
  subst hlb
  refine ⟨g,A2,hg,?_,hO2,?_⟩
  ·rw [val_dig,hzv];rfl
  exact (below_drewN (Below.refl _ w) d |>.trans hb).grown hG (by have:=hb.size;exact this) (by intro k hk;simp at hk;have:w.heap.size≤g:=hg;omega)
theorem down_any (A:Option Addr) (n c:Nat) (X:List Nat) (e:Nat) (w:World) (h:Rd w A X) (hn:X.length=n) (hc:n≤c) (hm:n≤70368744177663) (hmc:c≤140737488355328) (he:e≤9223372036854775807) :
  Calls Tryz.prog 156 #[.slice A n c,.int .i64 (e:Int)] w (DownPost w (val X) e):=by
 by_cases hk:wl X≤e / 32
 ·exact down_none A n c X e w h hn hc hm he hk
 ·exact down_some A n c X e w h hn hc hm hmc he (by omega)
set_option maxHeartbeats 1000000 in
theorem shr_any (A:Option Addr) (n c:Nat) (xs:List Nat) (e:Int) (w:World) (h:Rd w A xs) (hn:xs.length=n) (hc:n≤c) (hm:n≤70368744177663) (hmc:c≤140737488355328) (he0 : -9223372036854775808≤e) (he1:e≤9223372036854775807) :
  Calls Tryz.prog 146 #[.slice A n c,.int .i64 e] w fun en w'=>∃g A1,w.heap.size≤g ∧
   en=.returned (.tuple #[.slice A1 (nshr (val xs) e).1.length (nshr (val xs) e).1.length,.bool (nshr (val xs) e).2.1,.int .i64 (nshr (val xs) e).2.2])∧Own w' g A1 (nshr (val xs) e).1∧Below w.heap.size w w':=by
 by_cases hneg:e<0
 ·have hr:nshr (val xs) e=([],false,1):=by simp only [nshr,hneg,if_true]
  rw [hr]
  clear hr
  go_enter Tryz.func146,Tryz.ntmps146
  go_wp2
  go_ret3
  exact ⟨w.heap.size,none,by omega,rfl,Own.nil _ _ _,Below.refl _ w⟩
 ·have HL:=Lib.hid (fun W hW h0=>long1_any (w.heap.size) A n c xs W hW hn (by omega) h0)
  have HT:=Lib.hid (fun (o:Obj)=>(h.keep (fun b o' hb=>World.cell?_alloc_lt w o _ hb):Rd (w.alloc o) A xs))
  have HB:=Lib.hid (fun (o:Obj)=>((Below.refl _ w).alloc (Nat.le_refl _) o:Below w.heap.size w (w.alloc o)))
  by_cases hlong:long (val xs)=true
  ·have hr:nshr (val xs) e=([],false,2):=by simp only [nshr,hneg,hlong,if_true,if_false]
   rw [hr]
   clear hr hn h
   go_enter Tryz.func146,Tryz.ntmps146
   go_wp2_with (go_at_call 106;refine (HL.out _ (HT.out _) (by simp [World.cell?_alloc_new])).mono ?_;rintro e' w' ⟨rfl,rfl⟩)
   go_ret3
   exact ⟨w.heap.size,none,by omega,rfl,Own.nil _ _ _,HB.out _⟩
  ·have hlong':long (val xs)=false:=by simpa using hlong
   obtain ⟨q,rfl⟩:∃q:Nat,e=q:=⟨e.toNat,by omega⟩
   have hr:nshr (val xs) (q:Int)=(dig (val xs / 2^q),decide (val xs%2^q≠0),0):=by simp [nshr,hlong']
   rw [hr]
   have HD:=Lib.hid (fun W hW=>down_any A n c xs q W hW hn hc hm hmc (by omega))
   clear hr hn h
   go_enter Tryz.func146,Tryz.ntmps146
   go_wp2_with (first
    | (go_at_call 106;refine (HL.out _ (HT.out _) (by simp [World.cell?_alloc_new])).mono ?_;rintro e' w' ⟨rfl,rfl⟩)
    | (go_at_call 156;refine (HD.out _ (HT.out _)).mono ?_;rintro en w2 ⟨g,A1,hg,rfl,hO,hb⟩))
   go_ret3
   refine ⟨g,A1,?_,by simp,hO,?_⟩
   ·have:w.heap.size+1≤g:=by simpa using hg
    omega
   ·exact (HB.out _).trans (hb.mono (by simp))
end Go.Proofs.YtigmpifjcijdbaaGreatDoor
namespace Go.Proofs.YtigmpifjcijdbaaGreatDoor
set_option linter.unusedVariables false
set_option linter.unusedSimpArgs false
open Go.RowKit Verge
theorem or1 (g w:Nat) (h:w<4):(4*g+w) ||| 1=4*g+(w ||| 1):=by
 have e:4*g+w=2^2*g+w:=by omega
 have e2:2^2*g+w=2^2*g ||| w:=Nat.two_pow_add_eq_or_of_lt (i:=2) (by omega) g
 have hw:w ||| 1<4:=by
  have:w=0∨w=1∨w=2∨w=3:=by omega
  rcases this with rfl | rfl | rfl | rfl <;> decide
 rw [e,e2,Nat.or_assoc,←Nat.two_pow_add_eq_or_of_lt (i:=2) (by omega) g]
def vOf (W:Nat) (L:Bool):Nat:=if L then W ||| 1 else W
theorem quarter (M Q g r W:Nat) (L:Bool) (hQ:0<Q) (hg:M / Q=g) (hr:M%Q=r) (hW:4*M / Q=W) (hL:L=decide (4*M%Q≠0)) :
  vOf W L / 4=g∧(vOf W L%4≠0↔r≠0)∧((vOf W L%4=3∨vOf W L%4=2∧g%2=1)↔(Q<2*r∨Q=2*r∧g%2=1)):=by
 have hrQ:r<Q:=by rw [←hr];exact Nat.mod_lt _ hQ
 have hM:M=Q*g+r:=by rw [←hg,←hr];exact (Nat.div_add_mod M Q).symm
 obtain ⟨w,t,hwt,ht,hw4⟩:∃w t,4*r=w*Q+t∧t<Q∧w<4:=by
  refine ⟨4*r / Q,4*r%Q,by have:=Nat.div_add_mod (4*r) Q;rw [Nat.mul_comm Q] at this;exact this.symm,Nat.mod_lt _ hQ,?_⟩
  rw [Nat.div_lt_iff_lt_mul hQ];omega
 have h4:4*M=t+(4*g+w)*Q:=by
  rw [hM,Nat.mul_add,hwt,Nat.add_mul]
  have:4*(Q*g)=4*g*Q:=by ac_rfl
  omega
 have hWe:W=4*g+w:=by
  rw [←hW,h4,Nat.add_mul_div_right _ _ hQ,Nat.div_eq_of_lt ht,Nat.zero_add]
 have hLe:4*M%Q=t:=by rw [h4,Nat.add_mul_mod_self_right,Nat.mod_eq_of_lt ht]
 rw [hLe] at hL
 have hV:vOf W L=4*g+(if t≠0 then w ||| 1 else w):=by
  unfold vOf
  rw [hL,hWe]
  by_cases c:t=0
  ·simp [c]
  ·simp only [ne_eq,c,not_false_eq_true,decide_true,if_true]
   exact or1 g w hw4
 obtain ⟨u,hu⟩:∃u,(if t≠0 then w ||| 1 else w)=u:=⟨_,rfl⟩
 rw [hu] at hV
 have hu4:u<4∧(t=0→u=w)∧(t≠0→(w≤1→u=1)∧(2≤w→u=3)):=by
  rw [←hu]
  by_cases c:t=0
  ·simp [c];omega
  ·simp only [ne_eq,c,not_false_eq_true,if_true]
   have:w=0∨w=1∨w=2∨w=3:=by omega
   rcases this with rfl | rfl | rfl | rfl <;> simp
 obtain ⟨u1,u2,u3⟩:=hu4
 rw [hV]
 have hd:(4*g+u) / 4=g:=by omega
 have hm:(4*g+u)%4=u:=by omega
 rw [hd,hm]
 clear hV hu hL hLe hWe h4 hW hM hg hr hd hm
 have hcase:w=0∨w=1∨w=2∨w=3:=by omega
 refine ⟨rfl,?_,?_⟩
 ·rcases hcase with rfl | rfl | rfl | rfl <;> omega
 ·rcases hcase with rfl | rfl | rfl | rfl <;> omega
def ofX (b e:Int):Int:=max (b - 53+e) (-1074)
def incV (d:Int) (s:Bool) (V:Nat):Nat:=
 if d=1∨d = -1 then (if V%4≠0∧(decide (d = -1)=s) then 1 else 0) else (if V%4=3∨V%4=2∧V / 4%2=1 then 1 else 0)
def ofR (d:Int) (s:Bool) (G:Nat) (e:Int) (more:Bool):Nat:=
 if 1023<(blen G:Int) - 1+e then (if d=1∧s=true∨d = -1∧s=false then 9218868437227405311 else 9218868437227405312)
 else (ofX (blen G) e+1074).toNat*4503599627370496+(vOf (G / 2^(ofX (blen G) e - 2 - e).toNat) (decide (G%2^(ofX (blen G) e - 2 - e).toNat≠0)||more) / 4+incV d s (vOf (G / 2^(ofX (blen G) e - 2 - e).toNat) (decide (G%2^(ofX (blen G) e - 2 - e).toNat≠0)||more)))
section
variable {n m K:Nat} (hn:0<n) (hm:0<m) (hK:K=1074)
include hn hm hK
theorem ofR_rng (d:Int) (s:Bool) (a b G:Nat) (e:Int) (more:Bool) (he:e=(b:Int) - a) (hG:n*2^a / (m*2^b)=G) (hmore:more=decide (n*2^a%(m*2^b)≠0)) (hG0:G≠0) (hcut:1≤ofX (blen G) e - 2 - e) :
  ofR d s G e more=rng d s (n*2^K) m:=by
 have hQ:0<m*2^b:=Nat.mul_pos hm (Nat.two_pow_pos _)
 have hF:rF n m=(blen G:Int) - 1+e:=by
  obtain ⟨J,hJ,hJ1⟩:∃J:Nat,a≤J∧(-(rF n m)).toNat≤J:=⟨a+(-(rF n m)).toNat,by omega,by omega⟩
  obtain ⟨t,ht⟩:∃t:Nat,(t:Int)=rF n m+J:=⟨(rF n m+J).toNat,by omega⟩
  obtain ⟨s1,s2⟩:=rF_spec hn hm J t ht
  obtain ⟨i,hi⟩:∃i,J=a+i:=⟨J - a,by omega⟩
  have g1:G*(m*2^b)≤n*2^a:=by rw [←hG];exact Nat.div_mul_le_self _ _
  have g2:n*2^a<(G+1)*(m*2^b):=(Nat.div_lt_iff_lt_mul hQ).1 (by rw [hG];omega)
  have p1:G<2^blen G:=(blen_lt _ _).1 (Nat.le_refl _)
  have p2:2^(blen G - 1)≤G:=blen_le hG0
  have p3:0<blen G:=by
   rcases Nat.eq_zero_or_pos (blen G) with h | h
   ·rw [h] at p1;omega
   ·exact h
  have k1:m*2^t<m*2^(b+blen G+i):=by
   refine Nat.lt_of_le_of_lt s1 ?_
   rw [hi,Nat.pow_add,←Nat.mul_assoc]
   calc n*2^a*2^i<(G+1)*(m*2^b)*2^i:=Nat.mul_lt_mul_of_pos_right g2 (Nat.two_pow_pos _)
    _≤2^blen G*(m*2^b)*2^i:=Nat.mul_le_mul_right _ (Nat.mul_le_mul_right _ p1)
    _=m*2^(b+blen G+i):=by rw [Nat.pow_add,Nat.pow_add];ac_rfl
  have k2:m*2^(b+(blen G - 1)+i)<m*2^(t+1):=by
   refine Nat.lt_of_le_of_lt ?_ s2
   rw [hi,Nat.pow_add 2 a i,←Nat.mul_assoc]
   calc m*2^(b+(blen G - 1)+i)=2^(blen G - 1)*(m*2^b)*2^i:=by rw [Nat.pow_add,Nat.pow_add];ac_rfl
    _≤G*(m*2^b)*2^i:=Nat.mul_le_mul_right _ (Nat.mul_le_mul_right _ p2)
    _≤n*2^a*2^i:=Nat.mul_le_mul_right _ g1
  have k3:=(Nat.pow_lt_pow_iff_right (by omega:1<2)).1 (Nat.lt_of_mul_lt_mul_left k1)
  have k4:=(Nat.pow_lt_pow_iff_right (by omega:1<2)).1 (Nat.lt_of_mul_lt_mul_left k2)
  omega
 unfold ofR
 rw [←hF]
 by_cases ho:1023<rF n m
 ·rw [if_pos ho,rng_over hn hm hK d s ho]
  cases s <;> by_cases h1:d=1 <;> by_cases h2:d = -1 <;> simp [h1,h2] <;> omega
 ·rw [if_neg ho]
  have hX:ofX (blen G) e=(rK n m:Int) - 1074:=by
   unfold ofX rK;omega
  obtain ⟨x,y,hxy,h0⟩:∃x y:Nat,(rK n m:Int) - 1074=(y:Int) - x∧(x=0∨y=0):=⟨(1074 - (rK n m:Int)).toNat,((rK n m:Int) - 1074).toNat,by omega,by omega⟩
  obtain ⟨c,hc⟩:∃c:Nat,ofX (blen G) e - 2 - e=(c:Int):=⟨(ofX (blen G) e - 2 - e).toNat,by omega⟩
  obtain ⟨_,_,_,hrng⟩:=rng_in hn hm hK d s (by omega) x y hxy h0 _ _ _ rfl rfl rfl
  rw [hrng,hc,hX,Int.toNat_natCast,show ((rK n m:Int) - 1074+1074).toNat=rK n m by omega]
  have hsum:b+c+(x+2)=y+a:=by omega
  have hcom:m*2^y*2^a=m*2^b*2^c*2^(x+2):=by
   rw [Nat.mul_assoc m,←Nat.pow_add,Nat.mul_assoc (m*2^b),←Nat.pow_add,Nat.mul_assoc m,←Nat.pow_add]
   congr 2
   omega
  have hnum:4*(n*2^x)*2^a=n*2^a*2^(x+2):=by
   rw [Nat.pow_add];have:(2:Nat)^2=4:=rfl
   rw [this];ac_rfl
  have hW:4*(n*2^x) / (m*2^y)=G / 2^c:=by
   rw [←Nat.mul_div_mul_right _ _ (Nat.two_pow_pos a),hnum,hcom,Nat.mul_div_mul_right _ _ (Nat.two_pow_pos _),←hG,Nat.div_div_eq_div_mul]
  have hR:4*(n*2^x)%(m*2^y)*2^a=(n*2^a%(m*2^b*2^c))*2^(x+2):=by
   rw [←Nat.mul_mod_mul_right,hnum,hcom,Nat.mul_mod_mul_right]
  have hR2:n*2^a%(m*2^b*2^c)=n*2^a%(m*2^b)+m*2^b*(G%2^c):=by
   rw [Nat.mod_mul,hG]
  have hL:(decide (G%2^c≠0)||more)=decide (4*(n*2^x)%(m*2^y)≠0):=by
   rw [hmore,Bool.eq_iff_iff]
   simp only [Bool.or_eq_true,decide_eq_true_eq,ne_eq]
   constructor
   ·intro h hz
    rw [hz,Nat.zero_mul] at hR
    have h3:n*2^a%(m*2^b*2^c)=0:=by
     rcases Nat.mul_eq_zero.1 hR.symm with h | h
     ·exact h
     ·exact absurd h (Nat.ne_of_gt (Nat.two_pow_pos _))
    rw [h3] at hR2
    rcases h with h | h
    ·have:0<m*2^b*(G%2^c):=Nat.mul_pos hQ (Nat.pos_of_ne_zero h)
     omega
    ·omega
   ·intro h
    refine Classical.byContradiction fun hno => ?_
    have hno':G%2^c=0∧n*2^a%(m*2^b)=0:=by
     constructor
     ·exact Classical.byContradiction fun q=>hno (.inl q)
     ·exact Classical.byContradiction fun q=>hno (.inr q)
    rw [hno'.1,hno'.2,Nat.mul_zero] at hR2
    rw [hR2,Nat.zero_add,Nat.zero_mul] at hR
    rcases Nat.mul_eq_zero.1 hR with q | q
    ·exact h q
    ·exact absurd q (Nat.ne_of_gt (Nat.two_pow_pos _))
  rw [hL]
  obtain ⟨q1,q2,q3⟩:=quarter (n*2^x) (m*2^y) _ _ (G / 2^c) _ (Nat.mul_pos hm (Nat.two_pow_pos _)) rfl rfl hW rfl
  generalize vOf (G / 2^c) (decide (4*(n*2^x)%(m*2^y)≠0))=V at *
  rw [q1]
  congr 1
  congr 1
  unfold incV
  rw [q1]
  by_cases h1:d=1∨d = -1
  ·rw [if_pos h1]
   by_cases hr:n*2^x%(m*2^y)=0
   ·have hv:¬V%4≠0:=fun h=>q2.1 h hr
    rw [if_neg (fun h=>hv h.1),if_neg]
    rintro (h | h)
    ·exact h.2 hr
    ·omega
   ·have hv:V%4≠0:=q2.2 hr
    rcases h1 with rfl | rfl
    ·cases s
     ·rw [if_pos ⟨hv,by decide⟩,if_pos (.inl ⟨.inl ⟨rfl,rfl⟩,hr⟩)]
     ·rw [if_neg (by simp),if_neg (by simp)]
    ·cases s
     ·rw [if_neg (by simp),if_neg (by simp)]
     ·rw [if_pos ⟨hv,by decide⟩,if_pos (.inl ⟨.inr ⟨rfl,rfl⟩,hr⟩)]
  ·rw [if_neg h1]
   by_cases hv:V%4=3∨V%4=2∧n*2^x / (m*2^y)%2=1
   ·have hv2:(m*2^y<2*(n*2^x%(m*2^y))∨m*2^y=2*(n*2^x%(m*2^y))∧n*2^x / (m*2^y)%2=1):=q3.1 hv
    rw [if_pos hv,if_pos (.inr ⟨by omega,hv2⟩)]
   ·rw [if_neg hv,if_neg]
    rintro (h | h)
    ·omega
    ·refine hv (q3.2 ?_)
     rcases h.2 with h | h
     ·exact .inl h
     ·exact .inr ⟨by omega,h.2⟩
end
end Go.Proofs.YtigmpifjcijdbaaGreatDoor
namespace Go.Proofs.YtigmpifjcijdbaaGreatDoor
set_option linter.unusedVariables false
set_option linter.unusedSimpArgs false
open Go.RowKit Verge
section
variable {N D:Nat} (hN:0<N) (hD:0<D)
include hN hD
theorem quo_bits (k:Nat) (h:57+blen D≤blen N+k):57≤blen (N*2^k / D)∧N*2^k / D≠0:=by
 have h1:=blen_le (show N≠0 by omega)
 have h2:=(blen_lt D _).1 (Nat.le_refl _)
 have h3:=blen_pos (show N≠0 by omega)
 have hge:2^56≤N*2^k / D:=by
  rw [Nat.le_div_iff_mul_le hD]
  calc 2^56*D≤2^56*2^blen D:=Nat.mul_le_mul_left _ (Nat.le_of_lt h2)
   _=2^(56+blen D):=(Nat.pow_add _ _ _).symm
   _≤2^(blen N - 1+k):=Nat.pow_le_pow_right (by omega) (by omega)
   _=2^(blen N - 1)*2^k:=Nat.pow_add _ _ _
   _≤N*2^k:=Nat.mul_le_mul_right _ h1
 constructor
 ·refine Classical.byContradiction fun hc => ?_
  have:N*2^k / D<2^56:=(blen_lt _ _).1 (by omega)
  omega
 ·intro h0
  rw [h0] at hge
  have:0<2^56:=Nat.two_pow_pos _
  omega
theorem quo_rng (d:Int) (s:Bool) (k J:Nat) (K:Int) (hJ:J=1074) (h:57+blen D≤blen N+k) :
  ofR d s (N*2^k / D) (K - k) (decide (N*2^k%D≠0))=rng d s (N*2^K.toNat*2^J) (D*2^(-K).toNat)∧1≤ofX (blen (N*2^k / D)) (K - k) - 2 - (K - k):=by
 obtain ⟨h1,h2⟩:=quo_bits hN hD k h
 have hc:1≤ofX (blen (N*2^k / D)) (K - k) - 2 - (K - k):=by unfold ofX;omega
 refine ⟨?_,hc⟩
 have e1:N*2^K.toNat*2^(k+(-K).toNat)=N*2^k*2^(K.toNat+(-K).toNat):=by
  rw [Nat.pow_add 2 k,Nat.pow_add 2 K.toNat];ac_rfl
 have e2:D*2^(-K).toNat*2^K.toNat=D*2^(K.toNat+(-K).toNat):=by
  rw [Nat.pow_add];ac_rfl
 refine ofR_rng (n:=N*2^K.toNat) (m:=D*2^(-K).toNat) (Nat.mul_pos hN (Nat.two_pow_pos _)) (Nat.mul_pos hD (Nat.two_pow_pos _)) hJ d s (k+(-K).toNat) K.toNat _ _ _ (by omega) ?_ ?_ h2 hc
 ·rw [e1,e2,Nat.mul_div_mul_right _ _ (Nat.two_pow_pos _)]
 ·rw [e1,e2,Nat.mul_mod_mul_right]
  have hp:=Nat.two_pow_pos (K.toNat+(-K).toNat)
  rw [decide_eq_decide]
  constructor
  ·intro hne hz
   rcases Nat.mul_eq_zero.1 hz with q | q
   ·exact hne q
   ·omega
  ·intro hne hz
   exact hne (by rw [hz,Nat.zero_mul])
theorem tiny_rng (d:Int) (s:Bool) (J:Nat) (K:Int) (hJ:J=1074) (h:(blen N:Int) - blen D+K < -1100) :
  ofR d s 1 (-1200) false=rng d s (N*2^K.toNat*2^J) (D*2^(-K).toNat):=by
 have h1:=(blen_lt N _).1 (Nat.le_refl _)
 have h2:=blen_le (show D≠0 by omega)
 have h3:=blen_pos (show D≠0 by omega)
 obtain ⟨n,hn⟩:∃n,N*2^K.toNat=n:=⟨_,rfl⟩
 obtain ⟨m,hm⟩:∃m,D*2^(-K).toNat=m:=⟨_,rfl⟩
 have hn0:0<n:=by rw [←hn];exact Nat.mul_pos hN (Nat.two_pow_pos _)
 have hm0:0<m:=by rw [←hm];exact Nat.mul_pos hD (Nat.two_pow_pos _)
 obtain ⟨z,hz⟩:∃z,z=1080:=⟨_,rfl⟩
 have hlt:n*2^z<m:=by
  rw [←hn,←hm]
  calc N*2^K.toNat*2^z<2^blen N*2^K.toNat*2^z:=Nat.mul_lt_mul_of_pos_right (Nat.mul_lt_mul_of_pos_right h1 (Nat.two_pow_pos _)) (Nat.two_pow_pos _)
   _=2^(blen N+K.toNat+z):=by rw [←Nat.pow_add,←Nat.pow_add]
   _≤2^(blen D - 1+(-K).toNat):=Nat.pow_le_pow_right (by omega) (by omega)
   _=2^(blen D - 1)*2^(-K).toNat:=Nat.pow_add _ _ _
   _≤D*2^(-K).toNat:=Nat.mul_le_mul_right _ h2
 rw [hn,hm]
 have hF:rF n m ≤ -1075:=by
  obtain ⟨t,ht⟩:∃t:Nat,(t:Int)=rF n m+((z+(-(rF n m)).toNat:Nat):Int):=⟨(rF n m+((z+(-(rF n m)).toNat:Nat):Int)).toNat,by omega⟩
  obtain ⟨s1,s2⟩:=rF_spec hn0 hm0 (z+(-(rF n m)).toNat) t ht
  have:m*2^t<m*2^(-(rF n m)).toNat:=by
   refine Nat.lt_of_le_of_lt s1 ?_
   rw [Nat.pow_add,←Nat.mul_assoc]
   exact Nat.mul_lt_mul_of_pos_right hlt (Nat.two_pow_pos _)
  have:=(Nat.pow_lt_pow_iff_right (by omega:1<2)).1 (Nat.lt_of_mul_lt_mul_left this)
  omega
 have hk:rK n m=0:=by unfold rK;omega
 have hJz:n*2^J*2<m:=by
  refine Nat.lt_of_le_of_lt ?_ hlt
  rw [Nat.mul_assoc,←Nat.pow_succ]
  exact Nat.mul_le_mul_left _ (Nat.pow_le_pow_right (by omega) (by omega))
 have hpos:0<n*2^J:=Nat.mul_pos hn0 (Nat.two_pow_pos _)
 obtain ⟨_,_,_,hrng⟩:=rng_in hn0 hm0 hJ d s (by omega) J 0 (by rw [hk,hJ];omega) (.inr rfl) _ _ _ rfl rfl rfl
 rw [hrng,hk,Nat.pow_zero,Nat.mul_one,Nat.div_eq_of_lt (by omega),Nat.mod_eq_of_lt (by omega)]
 have hb1:blen 1=1:=by decide
 have hX:ofX (blen 1) (-1200) = -1074:=by rw [hb1];decide
 unfold ofR
 rw [if_neg (by rw [hb1];omega),hX,show ((-1074:Int) - 2 - -1200).toNat=124 by decide]
 have hV:vOf (1 / 2^124) (decide (1%2^124≠0)||false)=1:=by decide
 rw [hV,show ((-1074:Int)+1074).toNat=0 by decide]
 congr 1
 congr 1
 unfold incV
 generalize n*2^J=y at *
 by_cases hd:d=1∨d = -1
 ·rw [if_pos hd]
  rcases hd with rfl | rfl
  ·cases s
   ·rw [if_pos ⟨by decide,by decide⟩,if_pos (.inl ⟨.inl ⟨rfl,rfl⟩,by omega⟩)]
   ·rw [if_neg (by simp),if_neg (by simp)]
  ·cases s
   ·rw [if_neg (by simp),if_neg (by simp)]
   ·rw [if_pos ⟨by decide,by decide⟩,if_pos (.inl ⟨.inr ⟨rfl,rfl⟩,by omega⟩)]
 ·rw [if_neg hd,if_neg (by omega),if_neg (by omega)]
end
end Go.Proofs.YtigmpifjcijdbaaGreatDoor
namespace Go.Proofs.YtigmpifjcijdbaaGreatDoor
set_option linter.unusedVariables false
set_option linter.unusedSimpArgs false
open Go.RowKit Verge
theorem and2047 (m:Nat) (hm:m≤1000000):Go.bits .and .i64 (m:Int) 2047=((m%2048:Nat):Int):=by
 have h127:(BitVec.ofInt 64 2047).toNat=2^11 - 1:=by decide
 have key:(BitVec.ofInt 64 (m:Int) &&& BitVec.ofInt 64 2047).toNat=((m:Int)%((2^64:Nat):Int)).toNat%2^11:=by
  rw [BitVec.toNat_and,BitVec.toNat_ofInt,h127,Nat.and_two_pow_sub_one_eq_mod]
 show IntKind.i64.wrap ((BitVec.ofInt 64 (m:Int) &&& BitVec.ofInt 64 2047).toNat:Nat)=((m%2048:Nat):Int)
 rw [key,IntKind.wrap_i64]
 omega
theorem norm_gen (F:Nat) (h:4503599627370496≤F) (h2:F<9218868437227405312) (w:World):Calls Tryz.prog 126 #[.float .f64 F] w fun e w'=>e=.returned (.tuple #[.float .f64 F,.int .i64 0])∧w=w':=by
 have HA:=Lib.hid (fun W=>abs_any F (by omega) W)
 rw [show fabs F=F by unfold fabs;omega] at HA
 have o1:(FloatKind.f64.format.order F 4503599627370496==some .lt)=false:=by
  refine (f_lt (by omega) (by omega)).trans (decide_eq_false ?_)
  rintro ⟨_,_,h⟩
  revert h;unfold FK;split <;> (try split) <;> omega
 clear h h2
 go_enter Tryz.func126,Tryz.ntmps126
 go_wp2_with fail
 refine (HA.out _).mono ?_
 rintro en w1 ⟨rfl,rfl⟩
 go_wp2
 go_ret2
 exact ⟨rfl,rfl⟩
def ilow (S:Nat):Nat:=(S.log2+1023)*4503599627370496+(S*2^(52 - S.log2) - 4503599627370496)
def plow (S:Nat):Nat:=(S.log2+2)*4503599627370496+(S*2^(52 - S.log2) - 4503599627370496)
theorem low_spec {S:Nat} (h0:S≠0) (h:S<4503599627370496):S.log2≤51∧4503599627370496≤S*2^(52 - S.log2)∧S*2^(52 - S.log2)<9007199254740992:=by
 have h1:S.log2<52:=(Nat.log2_lt h0).2 h
 have h2:2^S.log2≤S:=Nat.log2_self_le h0
 have h3:S<2^(S.log2+1):=Nat.lt_log2_self
 have e:2^S.log2*2^(52 - S.log2)=4503599627370496:=by rw [←Nat.pow_add,show S.log2+(52 - S.log2)=52 by omega]
 have e2:2^(S.log2+1)*2^(52 - S.log2)=9007199254740992:=by rw [←Nat.pow_add,show S.log2+1+(52 - S.log2)=53 by omega]
 refine ⟨by omega,?_,?_⟩
 ·rw [←e];exact Nat.mul_le_mul_right _ h2
 ·rw [←e2];exact Nat.mul_lt_mul_of_pos_right h3 (Nat.two_pow_pos _)
theorem int_low {S:Nat} (h0:S≠0) (h:S<4503599627370496):FloatKind.f64.nearest (S:Int)=ilow S:=by
 obtain ⟨l1,l2,l3⟩:=low_spec h0 h
 show Ieee.double.nearest (decide ((S:Int)<0)) (S:Int).natAbs 0=_
 rw [decide_eq_false (by omega),Int.natAbs_natCast,nearest_any _ _ _ 0 (by omega)]
 obtain ⟨K,hK⟩:∃K:Nat,K=1074:=⟨_,rfl⟩
 rw [show ((0:Int)+1074+((0:Nat):Int)).toNat=K by omega]
 have hv:S*2^K=FV (ilow S):=by
  have:=FV_scale (S.log2+1022) (S*2^(52 - S.log2)) l2 l3
  have e:ilow S=(S.log2+1022)*4503599627370496+S*2^(52 - S.log2):=by unfold ilow;omega
  rw [e,this,Nat.mul_assoc,←Nat.pow_add,show 52 - S.log2+(S.log2+1022)=K by omega]
 rw [hv]
 have:=rngN_FV (ilow S)
 rw [Nat.pow_zero,this,Nat.min_eq_left (by unfold ilow;omega)]
 rfl
theorem mul_low {S:Nat} (h0:S≠0) (h:S<4503599627370496):Ieee.double.mul 4368491638549381120 (plow S)=some S:=by
 obtain ⟨l1,l2,l3⟩:=low_spec h0 h
 have hp:plow S<9218868437227405312:=by unfold plow;omega
 obtain ⟨k,m,e,hm⟩:=read_num (x:=plow S) (by omega) (by omega)
 unfold Ieee.Format.mul
 have e2:Ieee.double.read 4368491638549381120=.number false 4503599627370496 (-105):=rfl
 rw [e,e2]
 show some (Ieee.double.nearest (false ^^ decide (9223372036854775808≤plow S)) (4503599627370496*m) (-105+(-1074+(k:Int))))=_
 rw [decide_eq_false (by omega),Bool.xor_false,nearest_any _ _ _ 105 (by omega)]
 rw [show (-105+(-1074+(k:Int))+1074+((105:Nat):Int)).toNat=k by omega,Nat.mul_assoc,hm,Nat.mod_eq_of_lt (by omega)]
 have hv:FV (plow S)=S*2^53:=by
  have:=FV_scale (S.log2+1) (S*2^(52 - S.log2)) l2 l3
  have e:plow S=(S.log2+1)*4503599627370496+S*2^(52 - S.log2):=by unfold plow;omega
  rw [e,this,Nat.mul_assoc,←Nat.pow_add,show 52 - S.log2+(S.log2+1)=53 by omega]
 have hS:FV S=S:=by unfold FV;rw [if_pos h]
 rw [hv,show 4503599627370496*(S*2^53)=FV S*2^105 by rw [hS,Nat.mul_left_comm],rngN_pat (Nat.two_pow_pos 105),Nat.min_eq_left (by omega)]
 rfl
set_option maxRecDepth 40000 in
set_option maxHeartbeats 1000000 in
theorem ldexp_low (F Q j P S:Nat) (y:Int) (hF1:4503599627370496≤F) (hF2:F<9218868437227405312) (hq:wrap64 ((F:Int) / 4503599627370496)=(Q:Int)) (ha:bits BinOp.and IntKind.i64 (Q:Int) 2047=j)
  (hy:wrap64 (-1074+wrap64 ((j:Int) - 1023))=y) (y1 : -1075≤y) (y2:y < -1022)
  (hz:bits BinOp.or IntKind.u64 (bits BinOp.andNot IntKind.u64 (F:Int) 9218868437227405312) ((y+53+1023)*4503599627370496)=(P:Int)) (hm0:Ieee.double.mul 4368491638549381120 P=some S) (w:World) :
  Calls Tryz.prog 158 #[.float .f64 F,.int .i64 (-1074)] w fun e w'=>e=.returned (.float .f64 S)∧w=w':=by
 have HI:=Lib.hid (fun W=>isinf_0 F (by omega) W)
 rw [decide_eq_false (by unfold fabs;omega)] at HI
 have HN:=Lib.hid (fun W=>isnan_any F (by omega) W)
 rw [decide_eq_false (by unfold fnan;omega)] at HN
 have HM:=Lib.hid (fun W=>norm_gen F hF1 hF2 W)
 have oz:(FloatKind.f64.format.order F 0==some .eq)=false:=(o_isz (by omega)).trans (decide_eq_false (by omega))
 have bF:=bits_any F
 have bR:=from_any (P:Int)
 rw [Int.toNat_natCast] at bR
 have hm:∀t w,(binOp .mul t (.float .f64 4368491638549381120) (.float .f64 P)).run Tryz.prog w=.ok (.float .f64 S) w:=fun t w=>run_float_arith w .mul t .f64 _ P S hm0
 have y3:decide (y < -1075)=false:=decide_eq_false (by omega)
 have y4:decide (1023<y)=false:=decide_eq_false (by omega)
 have y5:decide (y < -1022)=true:=decide_eq_true (by omega)
 clear hF1 hF2 hm0
 go_enter Tryz.func158,Tryz.ntmps158
 go_wp2_with fail
 refine (HI.out _).mono ?_
 rintro en w1 ⟨rfl,rfl⟩
 go_wp2_with fail
 refine (HN.out _).mono ?_
 rintro en w1 ⟨rfl,rfl⟩
 go_wp2_with fail
 refine (HM.out _).mono ?_
 rintro en w1 ⟨rfl,rfl⟩
 go_wp2
 go_ret
 exact ⟨rfl,rfl⟩
theorem ldexp_zero (w:World):Calls Tryz.prog 158 #[.float .f64 0,.int .i64 (-1074)] w fun e w'=>e=.returned (.float .f64 0)∧w=w':=by
 have oz:(FloatKind.f64.format.order 0 0==some .eq)=true:=(o_isz (by omega)).trans (decide_eq_true (.inl rfl))
 go_enter Tryz.func158,Tryz.ntmps158
 go_wp2
 go_ret
 exact ⟨rfl,rfl⟩
theorem ldexp_all (k S:Nat) (h:S≤9007199254740992) (hk:k≤2045) (hs:S<4503599627370496→k=0) (w:World) :
  Calls Tryz.prog 147 #[.float .f64 (FloatKind.f64.nearest (S:Int)),.int .i64 ((k:Int) - 1074)] w fun e w'=>e=.returned (.float .f64 (k*4503599627370496+S))∧w=w':=by
 by_cases c:S<4503599627370496
 ·have hk0:=hs c
  subst hk0
  rw [show ((0:Nat):Int) - 1074 = -1074 by omega,Nat.zero_mul,Nat.zero_add]
  have hL:∀W,Calls Tryz.prog 158 #[.float .f64 (FloatKind.f64.nearest (S:Int)),.int .i64 (-1074)] W fun e w'=>e=.returned (.float .f64 S)∧W=w':=by
   intro W
   by_cases h0:S=0
   ·subst h0
    exact ldexp_zero W
   ·rw [int_low h0 c]
    obtain ⟨l1,l2,l3⟩:=low_spec h0 c
    have hF1:4503599627370496≤ilow S:=by unfold ilow;omega
    have hF2:ilow S<9218868437227405312:=by unfold ilow;omega
    have hq:ilow S / 4503599627370496=S.log2+1023:=by unfold ilow;omega
    have hmd:ilow S%4503599627370496=S*2^(52 - S.log2) - 4503599627370496:=by unfold ilow;omega
    refine ldexp_low (ilow S) (S.log2+1023) (S.log2+1023) (plow S) S ((S.log2:Int) - 1074) hF1 hF2 (by rw [wrap64_self] <;> omega) ?_ ?_ (by omega) (by omega) ?_ (mul_low h0 c) W
    ·have:=and2047 (S.log2+1023) (by omega)
     rw [this,Nat.mod_eq_of_lt (by omega)]
    ·rw [wrap64_self (x:=((S.log2+1023:Nat):Int) - 1023) (by omega) (by omega),wrap64_self] <;> omega
    ·have a1:=Go.u64_andNot_nat (ilow S) 9218868437227405312 (by omega) (by omega)
     rw [and_frac (ilow S) (by omega)] at a1
     have a1':bits BinOp.andNot IntKind.u64 (ilow S:Int) 9218868437227405312=((ilow S%4503599627370496:Nat):Int):=a1
     rw [a1']
     have a2:=Go.u64_or_nat (ilow S%4503599627370496) ((S.log2+2)*4503599627370496) (by omega) (by omega)
     have a3:(((S.log2:Int) - 1074+53+1023)*4503599627370496)=(((S.log2+2)*4503599627370496:Nat):Int):=by omega
     rw [a3,a2,Nat.or_comm,Go.nat_join 52 _ _ (Nat.mul_mod_left _ _) (Nat.mod_lt _ (by omega)),hmd]
     rfl
  generalize FloatKind.f64.nearest (S:Int)=F at *
  have HL:=Lib.hid hL
  clear hL h hs hk c
  go_enter Tryz.func147,Tryz.ntmps147
  go_wp2_with fail
  refine (HL.out _).mono ?_
  rintro en w1 ⟨rfl,rfl⟩
  go_wp2
  go_ret
  exact ⟨rfl,rfl⟩
 ·rw [int_pat (by omega) h]
  exact ldexp_pat k S (by omega) h hk w
theorem beyond_any (d:Int) (s:Bool) (w:World):Calls Tryz.prog 145 #[.int .i64 d,.bool s] w fun e w'=>e=.returned (.float .f64 (fpat s (if d=1∧s=true∨d = -1∧s=false then 9218868437227405311 else 9218868437227405312)))∧w=w':=by
 have HP:=Lib.hid (fun W=>infp_any W)
 have hn:∀W:World,(Op.unary .neg (.float .f64 9218868437227405311)).run Tryz.prog W=.ok (.float .f64 18442240474082181119) W:=fun W=>by
  have:=run_neg_f 9218868437227405311 (by omega) W
  rw [this];rfl
 have hn2:∀W:World,(Op.unary .neg (.float .f64 9218868437227405312)).run Tryz.prog W=.ok (.float .f64 18442240474082181120) W:=fun W=>by
  have:=run_neg_f 9218868437227405312 (by omega) W
  rw [this];rfl
 have key:∀R:Nat,(fpat s (if d=1∧s=true∨d = -1∧s=false then 9218868437227405311 else 9218868437227405312))=R→Calls Tryz.prog 145 #[.int .i64 d,.bool s] w fun e w'=>e=.returned (.float .f64 R)∧w=w':=by
  intro R hR
  by_cases d1:d=1
  ·subst d1
   cases s
   ·have:R=9218868437227405312:=by rw [←hR];simp [fpat]
    subst this
    clear hR
    go_enter Tryz.func145,Tryz.ntmps145
    go_wp2_with (go_at_call 64;refine (HP.out _).mono ?_;rintro en w1 ⟨rfl,rfl⟩)
    go_ret
    exact ⟨rfl,rfl⟩
   ·have:R=18442240474082181119:=by rw [←hR];simp [fpat]
    subst this
    clear hR
    go_enter Tryz.func145,Tryz.ntmps145
    go_wp2_with (go_at_call 64;refine (HP.out _).mono ?_;rintro en w1 ⟨rfl,rfl⟩)
    go_ret
    exact ⟨rfl,rfl⟩
  ·have f1:(d==1)=false:=by simpa using d1
   by_cases d2:d = -1
   ·subst d2
    cases s
    ·have:R=9218868437227405311:=by rw [←hR];simp [fpat]
     subst this
     clear hR
     go_enter Tryz.func145,Tryz.ntmps145
     go_wp2_with (go_at_call 64;refine (HP.out _).mono ?_;rintro en w1 ⟨rfl,rfl⟩)
     go_ret
     exact ⟨rfl,rfl⟩
    ·have:R=18442240474082181120:=by rw [←hR];simp [fpat]
     subst this
     clear hR
     go_enter Tryz.func145,Tryz.ntmps145
     go_wp2_with (go_at_call 64;refine (HP.out _).mono ?_;rintro en w1 ⟨rfl,rfl⟩)
     go_ret
     exact ⟨rfl,rfl⟩
   ·have f2:(d == -1)=false:=by simpa using d2
    cases s
    ·have:R=9218868437227405312:=by rw [←hR];simp [fpat,d1,d2]
     subst this
     clear hR
     go_enter Tryz.func145,Tryz.ntmps145
     go_wp2_with (go_at_call 64;refine (HP.out _).mono ?_;rintro en w1 ⟨rfl,rfl⟩)
     go_ret
     exact ⟨rfl,rfl⟩
    ·have:R=18442240474082181120:=by rw [←hR];simp [fpat,d1,d2]
     subst this
     clear hR
     go_enter Tryz.func145,Tryz.ntmps145
     go_wp2_with (go_at_call 64;refine (HP.out _).mono ?_;rintro en w1 ⟨rfl,rfl⟩)
     go_ret
     exact ⟨rfl,rfl⟩
 exact key _ rfl
end Go.Proofs.YtigmpifjcijdbaaGreatDoor
namespace Go.Proofs.YtigmpifjcijdbaaGreatDoor
set_option linter.unusedVariables false
set_option linter.unusedSimpArgs false
open Go.RowKit Verge
theorem vOf_lt {W n:Nat} {L:Bool} (h:W<4*n):vOf W L<4*n:=by
 unfold vOf
 split
 ·have h1:W=4*(W / 4)+W%4:=by omega
  have h2:=or1 (W / 4) (W%4) (by omega)
  rw [←h1] at h2
  have h3:W%4 ||| 1<4:=by
   have:W%4=0∨W%4=1∨W%4=2∨W%4=3:=by omega
   rcases this with e | e | e | e <;> rw [e] <;> decide
  omega
 ·exact h
theorem vOf_ge {W n:Nat} {L:Bool} (h:4*n≤W):4*n≤vOf W L:=by
 unfold vOf
 split
 ·exact Nat.le_trans h Nat.left_le_or
 ·exact h
theorem of_facts (d:Int) (s:Bool) (G:Nat) (e:Int) (more:Bool) (hG:G≠0) (c k:Nat) (hc:ofX (blen G) e - 2 - e=(c:Int)) (hk:ofX (blen G) e+1074=(k:Int)) (V:Nat) (hV:vOf (G / 2^c) (decide (G%2^c≠0)||more)=V) :
  G / 2^c<36028797018963968∧V<36028797018963968∧V / 4+incV d s V≤9007199254740992∧(V / 4+incV d s V<4503599627370496→k=0)∧incV d s V≤1:=by
 have hi:incV d s V≤1:=by unfold incV;split <;> split <;> omega
 have hb:=(blen_lt G (blen G)).1 (Nat.le_refl _)
 have hb2:=blen_le hG
 have hW:G / 2^c<36028797018963968:=by
  rw [Nat.div_lt_iff_lt_mul (Nat.two_pow_pos _)]
  have h1:blen G≤55+c:=by unfold ofX at hc;omega
  calc G<2^blen G:=hb
   _≤2^(55+c):=Nat.pow_le_pow_right (by omega) h1
   _=36028797018963968*2^c:=by rw [Nat.pow_add]
 have hVl:V<36028797018963968:=by rw [←hV];exact vOf_lt (n:=9007199254740992) hW
 refine ⟨hW,hVl,by omega,fun hlt => ?_,hi⟩
 refine Classical.byContradiction fun hk0 => ?_
 have hcb:blen G - 1=54+c∨blen G - 1+1=55+c:=by unfold ofX at hc hk;omega
 have h2:2^(54+c)≤G:=Nat.le_trans (Nat.pow_le_pow_right (by omega) (by omega)) hb2
 have h3:4*4503599627370496≤G / 2^c:=by
  rw [Nat.le_div_iff_mul_le (Nat.two_pow_pos _)]
  calc 4*4503599627370496*2^c=2^(54+c):=by rw [Nat.pow_add]
   _≤G:=h2
 have h4:4*4503599627370496≤V:=by rw [←hV];exact vOf_ge (n:=4503599627370496) h3
 omega
variable {w:World} {v:Value} {G:Nat}
theorem rshr_is (e:Nat) (hv:IsT G v w) (h:blen G≤500000) (he:e≤500000):Calls Tryz.prog 146 #[v,.int .i64 (e:Int)] w (Ans w (Is3 (IsT (G / 2^e)) (IsV (.bool (decide (G%2^e≠0)))) (IsV (.int .i64 0)))):=by
 obtain ⟨A,rfl,hR⟩:=hv
 have hl:=len_of_blen (n:=G) (by omega)
 have e1:nshr G (e:Int)=(dig (G / 2^e),decide (G%2^e≠0),0):=by
  unfold nshr
  rw [if_neg (by omega),(long_false _).2 (by omega),if_neg (by simp),Int.toNat_natCast]
 have:=shr_any A _ (dig G).length (dig G) (e:Int) w hR rfl (Nat.le_refl _) (by omega) (by omega) (by omega) (by omega)
 rw [val_dig,e1] at this
 exact this.mono fun en w' ⟨g,A1,hg,he,hO,hb⟩=>⟨_,he,⟨_,_,_,rfl,⟨A1,rfl,hO.rd⟩,rfl,rfl⟩,hb⟩
set_option maxRecDepth 40000 in
set_option maxHeartbeats 1000000 in
theorem of_overR (d:Int) (s:Bool) (e:Int) (more:Bool) (hv:IsT G v w) (hG:G≠0) (h:blen G≤400000) (h1 : -400000≤e) (h2:e≤400000) (ho:1023<(blen G:Int) - 1+e) :
  Calls Tryz.prog 133 #[.int .i64 d,.bool s,v,.int .i64 e,.bool more] w (Ans w (IsV (.float .f64 (fpat s (ofR d s G e more))))):=by
 have HL:=Lib.hid (nlen_is hv (by omega))
 have hR:ofR d s G e more=(if d=1∧s=true∨d = -1∧s=false then 9218868437227405311 else 9218868437227405312):=by unfold ofR;rw [if_pos ho]
 have hB:=fun W=>beyond_any d s W
 rw [←hR] at hB
 have HB:=Lib.hid hB
 have hp:=blen_pos hG
 generalize fpat s (ofR d s G e more)=R at *
 generalize blen G=b at *
 have e0:((b:Int)==0)=false:=by simp;omega
 have e1:decide (1023<(b:Int) - 1+e)=true:=decide_eq_true ho
 clear hv hR hB hG
 go_enter Tryz.func133,Tryz.ntmps133
 go_wp2_with (first
  | (go_at_call 78;refine (HL.out).mono ?_;rintro en w1 ⟨_,rfl,rfl,hb⟩)
  | (go_at_call 145;refine (HB.out _).mono ?_;rintro en w2 ⟨rfl,rfl⟩))
 go_ret
 exact ⟨_,rfl,rfl,hb⟩
set_option maxRecDepth 40000 in
set_option maxHeartbeats 4000000 in
theorem of_in2 (d:Int) (s:Bool) (e:Int) (more:Bool) (hv:IsT G v w) (hG:G≠0) (h:blen G≤400000) (h1 : -400000≤e) (h2:e≤400000) (ho:¬1023<(blen G:Int) - 1+e) (hcut:1≤ofX (blen G) e - 2 - e) :
  Calls Tryz.prog 133 #[.int .i64 d,.bool s,v,.int .i64 e,.bool more] w (Ans w (IsV (.float .f64 (fpat s (ofR d s G e more))))):=by
 obtain ⟨c,hc⟩:∃c:Nat,ofX (blen G) e - 2 - e=(c:Int):=⟨(ofX (blen G) e - 2 - e).toNat,by omega⟩
 obtain ⟨k,hk⟩:∃k:Nat,ofX (blen G) e+1074=(k:Int):=⟨(ofX (blen G) e+1074).toNat,by unfold ofX;omega⟩
 obtain ⟨V,hV⟩:∃V,vOf (G / 2^c) (decide (G%2^c≠0)||more)=V:=⟨_,rfl⟩
 obtain ⟨f1,f2,f3,f4,f5⟩:=of_facts d s G e more hG c k hc hk V hV
 have hR:ofR d s G e more=k*4503599627370496+(V / 4+incV d s V):=by
  unfold ofR;rw [if_neg ho,hc,hk,Int.toNat_natCast,Int.toNat_natCast,hV]
 rw [hR]
 have hk2:k≤2045:=by unfold ofX at hk;omega
 have hcl:c≤500000:=by unfold ofX at hc;omega
 have HL:=Lib.hid (nlen_is hv (by omega))
 have HV0:=Lib.hid hv
 have hp:=blen_pos hG
 have Hsr:Hid (∀(i:Int) (hi:i=c) W,IsT G v W→Calls Tryz.prog 146 #[v,.int .i64 i] W (Ans W (Is3 (IsT (G / 2^c)) (IsV (.bool (decide (G%2^c≠0)))) (IsV (.int .i64 0))))):=
  Lib.hid (fun i hi W hu=>by subst hi;exact rshr_is c hu (by omega) hcl)
 obtain ⟨E,hE⟩:∃E,ofX (blen G) e=E:=⟨_,rfl⟩
 rw [hE] at hc hk hcut
 have hE':(-1074≤(blen G:Int) - 53+e∧E=(blen G:Int) - 53+e)∨((blen G:Int) - 53+e < -1074∧E = -1074):=by rw [←hE];unfold ofX;omega
 generalize blen G=b at *
 have e0:((b:Int)==0)=false:=by simp;omega
 have e1:decide (1023<(b:Int) - 1+e)=false:=decide_eq_false ho
 have e2:decide (e<E - 2)=true:=decide_eq_true (by omega)
 have hE1 : -1074≤E∧E≤400000:=by omega
 obtain ⟨hEa,hEb⟩:=hE1
 have HE:=Lib.hid hE'
 have HK:=Lib.hid (And.intro hc (And.intro hk hk2))
 have HW:=Lib.hid (fun W u (hu:IsT (G / 2^c) u W)=>nword_is hu (by omega))
 generalize G / 2^c=X at *
 generalize decide (G%2^c≠0)=L0 at *
 have HV:=Lib.hid hV
 have HF:=Lib.hid (And.intro f1 (And.intro f2 (And.intro f3 (And.intro f4 f5))))
 have hor:Hid (bits BinOp.or .u64 (X:Int) 1=((X ||| 1:Nat):Int)):=Lib.hid (Go.u64_or_nat X 1 (by omega) (by omega))
 clear hE hE' hv hG hc hk hV f1 f2 f3 f4 f5 hk2 hcl hR
 go_enter Tryz.func133,Tryz.ntmps133
 go_upto_region 6 with (go_at_call 78;refine (HL.out).mono ?_;rintro en w1 ⟨_,rfl,rfl,hb⟩;have HB:=Lib.hid hb;clear hb)
 go_cut [12] (fun s12 wx=>s12=.int .i64 E∧wx=w1)
 case first =>
  rcases HE.out with ⟨h3,h4⟩ | ⟨h3,h4⟩
  ·go_wp2
   go_meet
   exact ⟨by rw [h4],rfl⟩
  ·go_wp2
   go_meet
   exact ⟨by rw [h4],rfl⟩
 case rest =>
  obtain ⟨rfl,rfl⟩:=hcut
  go_upto_region 12 with (go_at_call 146;refine (Hsr.out _ (by have:=HK.out;omega) _ (IsT.mono _ _ _ _ HB.out HV0.out)).mono ?_;rintro en w2 ⟨_,rfl,⟨_,_,_,rfl,hx,rfl,rfl⟩,hb⟩;have HB2:=Lib.hid (raft HB.out hb);have HX:=Lib.hid hx;clear hb hx)
  go_upto_region 13 with (go_at_call 115;refine (HW.out _ _ HX.out).mono ?_;rintro en w3 ⟨_,rfl,rfl,hb⟩;have HB3:=Lib.hid (raft HB2.out hb);clear hb)
  go_cut [67] (fun s67 wx=>s67=.bool (L0||more)∧wx=w3)
  case first =>
   cases L0
   ·go_wp2
    go_meet
    exact ⟨by cases more <;> rfl,rfl⟩
   ·go_wp2
    go_meet
    exact ⟨rfl,rfl⟩
  case rest =>
   obtain ⟨rfl,rfl⟩:=hcut
   obtain ⟨L,hL⟩:∃L,(L0||more)=L:=⟨_,rfl⟩
   rw [hL] at HV ⊢
   clear hL
   go_upto_if 67 with fail
   go_cut [16] (fun s16 wx=>s16=.int .u64 (V:Nat)∧wx=wc)
   case first =>
    have hv:=HV.out
    unfold vOf at hv
    cases L
    ·go_wp2
     go_meet
     exact ⟨by rw [←hv];rfl,rfl⟩
    ·go_wp2
     go_meet
     exact ⟨by rw [←hv,hor.out];rfl,rfl⟩
   case rest =>
    obtain ⟨rfl,rfl⟩:=hcut
    obtain ⟨f1,f2,f3,f4,f5⟩:=HF.out
    have hI:incV d s V=incV d s V:=rfl
    unfold incV at hI
    obtain ⟨q,hq⟩:∃q,V / 4=q:=⟨_,rfl⟩
    obtain ⟨r,hr⟩:∃r,V%4=r:=⟨_,rfl⟩
    rw [hq] at f3 f4
    have HQ:=Lib.hid hq
    have hi:Hid (incV d s V=if d=1∨d = -1 then (if r≠0∧(decide (d = -1)=s) then 1 else 0) else (if r=3∨r=2∧q%2=1 then 1 else 0)):=Lib.hid (by unfold incV;rw [hq,hr])
    have ha:bits BinOp.and .u64 (V:Int) 3=(r:Int):=by
     have:=Go.u64_and_nat V 3 (by omega) (by omega)
     rw [Go.nat_mask2,hr] at this
     exact this
    have hq4:(V:Int) / 4=(q:Int):=by omega
    have hr4:r<4:=by omega
    have hqb:q<9007199254740992:=by omega
    have hq1:bits BinOp.and .u64 (q:Int) 1=((q%2:Nat):Int):=by
     have:bits BinOp.and .u64 (q:Int) 1=((q &&& 1:Nat):Int):=Go.u64_and_nat q 1 (by omega) (by omega)
     rw [this,Nat.and_one_is_mod]
    generalize incV d s V=I at *
    have HG:=Lib.hid (And.intro f3 (And.intro f4 f5))
    clear hI f1 f2 f3 f4 f5 hq hr HF HV
    go_upto_block 0 with fail
    go_cut [18] (fun s18 wx=>s18=.int .u64 ((q+I:Nat):Int)∧wx=wc)
    case first =>
     have hii:=hi.out
     by_cases hd:d=1∨d = -1
     ·rw [if_pos hd] at hii
      by_cases hr0:r=0
      ·subst hr0
       rw [if_neg (by simp)] at hii
       subst hii
       rcases hd with rfl | rfl
       ·go_wp2
        go_meet
        exact ⟨rfl,rfl⟩
       ·go_wp2
        go_meet
        exact ⟨rfl,rfl⟩
      ·have g0:0<r:=by omega
       have g3:decide (0<(r:Int))=true:=decide_eq_true (by omega)
       rcases hd with rfl | rfl
       ·cases s
        ·rw [if_pos ⟨hr0,by decide⟩] at hii
         subst hii
         go_wp2
         go_meet
         exact ⟨rfl,rfl⟩
        ·rw [if_neg (by simp)] at hii
         subst hii
         go_wp2
         go_meet
         exact ⟨rfl,rfl⟩
       ·cases s
        ·rw [if_neg (by simp)] at hii
         subst hii
         go_wp2
         go_meet
         exact ⟨rfl,rfl⟩
        ·rw [if_pos ⟨hr0,by decide⟩] at hii
         subst hii
         go_wp2
         go_meet
         exact ⟨rfl,rfl⟩
     ·rw [if_neg hd] at hii
      have g1:(d == -1)=false:=by simp only [beq_eq_false_iff_ne,ne_eq];omega
      have g2:(d==1)=false:=by simp only [beq_eq_false_iff_ne,ne_eq];omega
      by_cases r3:r=3
      ·subst r3
       rw [if_pos (.inl rfl)] at hii
       subst hii
       go_wp2
       go_meet
       exact ⟨rfl,rfl⟩
      ·have g3:(r==3)=false:=by simpa using r3
       by_cases r2:r=2
       ·subst r2
        by_cases qo:q%2=1
        ·rw [if_pos (.inr ⟨rfl,qo⟩)] at hii
         rw [qo] at hq1
         subst hii
         go_wp2
         go_meet
         exact ⟨rfl,rfl⟩
        ·rw [if_neg (by omega)] at hii
         rw [show q%2=0 by omega] at hq1
         subst hii
         go_wp2
         go_meet
         exact ⟨rfl,rfl⟩
       ·have g4:(r==2)=false:=by simpa using r2
        rw [if_neg (by omega)] at hii
        subst hii
        go_wp2
        go_meet
        exact ⟨rfl,rfl⟩
    case rest =>
     obtain ⟨rfl,rfl⟩:=hcut
     obtain ⟨k1,k2,k3⟩:=HK.out
     obtain ⟨j1,j2,j3⟩:=HG.out
     obtain ⟨S,hS⟩:∃S,q+I=S:=⟨_,rfl⟩
     rw [hS] at j1 j2 ⊢
     have hL:=fun W=>ldexp_all k S j1 k3 j2 W
     rw [show (k:Int) - 1074=E by omega] at hL
     have HLd:Hid (∀W,Calls Tryz.prog 147 #[.float .f64 (floatOfInt FloatKind.f64 (S:Int)),.int .i64 E] W fun e w'=>e=.returned (.float .f64 (k*4503599627370496+S))∧W=w'):=Lib.hid hL
     obtain ⟨Z,hZ⟩:∃Z,k*4503599627370496+S=Z:=⟨_,rfl⟩
     have hZb:Z<9223372036854775808:=by omega
     rw [hZ] at HLd
     have hfin:Hid (k*4503599627370496+(V / 4+I)=Z):=Lib.hid (by rw [HQ.out,hS];exact hZ)
     clear hL hZ hS j1 j2 j3 k1 k2 k3
     by_cases z0:Z=0
     ·subst z0
      have o1:(FloatKind.f64.format.order 0 0==some .eq)=true:=(o_isz (by omega)).trans (decide_eq_true (.inl rfl))
      have o2:(FloatKind.f64.format.order 0 0 != some .eq)=false:=by
       show (!(FloatKind.f64.format.order 0 0==some .eq))=false
       rw [o1];rfl
      cases s
      ·go_wp2_with (go_at_call 147;refine (HLd.out _).mono ?_;rintro en w5 ⟨rfl,rfl⟩)
       go_ret
       exact ⟨_,rfl,by rw [hfin.out];rfl,HB3.out⟩
      ·go_wp2_with (go_at_call 147;refine (HLd.out _).mono ?_;rintro en w5 ⟨rfl,rfl⟩)
       go_ret
       exact ⟨_,rfl,by rw [hfin.out];rfl,HB3.out⟩
     ·have o1:(FloatKind.f64.format.order Z 0==some .eq)=false:=(o_isz (by omega)).trans (decide_eq_false (by omega))
      have o2:(FloatKind.f64.format.order Z 0 != some .eq)=true:=by
       show (!(FloatKind.f64.format.order Z 0==some .eq))=true
       rw [o1];rfl
      have hng:∀W:World,(Op.unary .neg (.float .f64 Z)).run Tryz.prog W=.ok (.float .f64 (9223372036854775808+Z)) W:=fun W=>by
       have:=run_neg_f Z (by omega) W
       rw [this];unfold fneg;rw [if_neg (by omega),Nat.add_comm]
      have hp1:fpat false Z=Z:=by unfold fpat;rw [if_neg z0];rfl
      have hp2:fpat true Z=9223372036854775808+Z:=by unfold fpat;rw [if_neg z0];rfl
      cases s
      ·go_wp2_with (go_at_call 147;refine (HLd.out _).mono ?_;rintro en w5 ⟨rfl,rfl⟩)
       go_ret
       exact ⟨_,rfl,by rw [hfin.out,hp1];rfl,HB3.out⟩
      ·obtain ⟨D,hD⟩:∃D,9223372036854775808+Z=D:=⟨_,rfl⟩
       rw [hD] at hng hp2
       go_wp2_with (go_at_call 147;refine (HLd.out _).mono ?_;rintro en w5 ⟨rfl,rfl⟩)
       go_ret
       exact ⟨_,rfl,by rw [hfin.out,hp2];rfl,HB3.out⟩
theorem of_gen (d:Int) (s:Bool) (e:Int) (more:Bool) (hv:IsT G v w) (hG:G≠0) (h:blen G≤400000) (h1 : -400000≤e) (h2:e≤400000) (hcut:1≤ofX (blen G) e - 2 - e) :
  Calls Tryz.prog 133 #[.int .i64 d,.bool s,v,.int .i64 e,.bool more] w (Ans w (IsV (.float .f64 (fpat s (ofR d s G e more))))):=by
 by_cases ho:1023<(blen G:Int) - 1+e
 ·exact of_overR d s e more hv hG h h1 h2 ho
 ·exact of_in2 d s e more hv hG h h1 h2 ho hcut
end Go.Proofs.YtigmpifjcijdbaaGreatDoor
namespace Go.Proofs.YtigmpifjcijdbaaGreatDoor
set_option linter.unusedVariables false
set_option linter.unusedSimpArgs false
open Go.RowKit Verge
variable {w:World} {v u:Value} {N D:Nat}
theorem len_pos (n:Nat):((0:Int)<((dig n).length:Nat))↔n≠0:=by
 constructor
 ·rintro h rfl;rw [dig_zero] at h;simp at h
 ·intro h;have:=dig_length_pos h;omega
theorem hold_any (K:Int) (h1 : -27000≤K) (h2:K≤27000) (w:World):Calls Tryz.prog 132 #[.int .i64 K] w fun e w'=>e=.returned (.int .i64 K)∧w=w':=by
 go_enter Tryz.func132,Tryz.ntmps132
 go_wp2
 go_ret
 exact ⟨rfl,rfl⟩
theorem of_quo (d:Int) (s:Bool) (k J:Nat) (K i:Int) (q:Value) (hJ:J=1074) (hN:0<N) (hD:0<D) (h:57+blen D≤blen N+k) (hb:blen (N*2^k / D)≤400000) (hk:k≤200000) (h1 : -27000≤K) (h2:K≤27000) (hi:i=K - k) (m:Bool) (hm:m=decide (N*2^k%D≠0)) (hq:IsT (N*2^k / D) q w) :
  Calls Tryz.prog 133 #[.int .i64 d,.bool s,q,.int .i64 i,.bool m] w (Ans w (IsV (.float .f64 (fpat s (rng d s (N*2^K.toNat*2^J) (D*2^(-K).toNat)))))):=by
 subst hi hm
 obtain ⟨r1,r2⟩:=quo_rng hN hD d s k J K hJ h
 obtain ⟨_,q2⟩:=quo_bits hN hD k h
 rw [←r1]
 exact of_gen d s (K - k) _ hq q2 hb (by omega) (by omega) r2
theorem quo_bl (k b:Nat) (h:blen (N*2^k)≤b):blen (N*2^k / D)≤b:=(blen_lt _ _).2 (Nat.lt_of_le_of_lt (Nat.div_le_self _ _) ((blen_lt _ _).1 h))
theorem shl_bl (k:Nat) (hN:0<N):blen (N*2^k)≤blen N+k:=by
 rw [blen_lt,Nat.pow_add]
 exact Nat.mul_lt_mul_of_pos_right ((blen_lt _ _).1 (Nat.le_refl _)) (Nat.two_pow_pos _)
set_option maxRecDepth 40000 in
set_option maxHeartbeats 2000000 in
theorem long_any (d:Int) (s:Bool) (J:Nat) (K:Int) (hJ:J=1074) (hv:IsT N v w) (hu:IsT D u w) (hN:0<N) (hD:0<D) (n1:blen N≤60000) (n2:blen D≤60000) (h1 : -27000≤K) (h2:K≤27000) (hl:57+blen D≤blen N) :
  Calls Tryz.prog 134 #[.int .i64 d,.bool s,v,u,.int .i64 K] w (Ans w (IsV (.float .f64 (fpat s (rng d s (N*2^K.toNat*2^J) (D*2^(-K).toNat)))))):=by
 have hof:=fun W i q (hi:i=K - ((0:Nat):Int)) m (hm:m=decide (N*2^0%D≠0)) (hq:IsT (N*2^0 / D) q W)=>of_quo d s 0 J K i q hJ hN hD (by omega) (quo_bl 0 400000 (by rw [Nat.pow_zero,Nat.mul_one];omega)) (by omega) h1 h2 hi m hm hq
 obtain ⟨q57,_⟩:=quo_bits hN hD 0 (by omega)
 have hqb:blen (N*2^0 / D)≤60000:=quo_bl 0 60000 (by rw [Nat.pow_zero,Nat.mul_one];exact n1)
 rw [Nat.pow_zero,Nat.mul_one] at hof q57 hqb
 generalize fpat s (rng d s (N*2^K.toNat*2^J) (D*2^(-K).toNat))=R at *
 have HOf:=Lib.hid hof
 have HV:=Lib.hid (And.intro hv hu)
 have HLv:=Lib.hid (fun W (hb:Below w.heap.size w W)=>nlen_is (IsT.mono _ _ _ _ hb hv) (by omega))
 have HLu:=Lib.hid (nlen_is hu (by omega))
 have HSh:=Lib.hid (fun W (hb:Below w.heap.size w W)=>nshl_is 0 (IsT.mono _ _ _ _ hb hv) (by omega))
 rw [Nat.pow_zero,Nat.mul_one,show ((0:Nat):Int)=0 from rfl] at HSh
 have HQ:=Lib.hid (fun W x (hx:IsT N x W) (hb:Below w.heap.size w W)=>nquo_is hx (IsT.mono _ _ _ _ hb hu) (by omega) (by omega) (by omega))
 have HLq:=Lib.hid (fun W x (hx:IsT (N / D) x W)=>nlen_is hx (by omega))
 have hlp:=len_pos (N%D)
 obtain ⟨R0,hR0⟩:∃x,N%D=x:=⟨_,rfl⟩
 have hm0:decide (N%D≠0)=decide (0<(dig R0).length):=by rw [hR0,decide_eq_decide,←hR0];omega
 have HM:=Lib.hid hm0
 rw [hR0] at HQ
 clear hof hv hu hJ hlp hR0 hm0
 generalize N / D=G at *
 generalize blen G=bg at *
 have gq:decide ((bg:Int)<57)=false:=decide_eq_false (by omega)
 have hnm:(blen D:Int) - (blen N:Int)≤0:=by omega
 generalize blen N=bn at *
 generalize blen D=bd at *
 go_enter Tryz.func134,Tryz.ntmps134
 go_wp2_with (first
  | (go_at_call 78;(with_reducible refine (HLu.out).mono ?_);rintro en w1 ⟨_,rfl,rfl,hb⟩;have HB1:=Lib.hid hb;clear hb)
  | (go_at_call 78;(with_reducible refine (HLv.out _ HB1.out).mono ?_);rintro en w2 ⟨_,rfl,rfl,hb⟩;have HB2:=Lib.hid (raft HB1.out hb);clear hb)
  | (go_at_call 75;(with_reducible refine (HSh.out _ HB2.out).mono ?_);rintro en w3 ⟨_,rfl,⟨x3,y3,rfl,hx,rfl⟩,hb⟩;have HX3:=Lib.hid hx;have HB3:=Lib.hid (raft HB2.out hb);clear hb hx)
  | (go_at_call 73;(with_reducible refine (HQ.out _ _ HX3.out HB3.out).mono ?_);rintro en w4 ⟨_,rfl,⟨x4,y4,z4,rfl,hx,⟨Ay,rfl,hy⟩,rfl⟩,hb⟩;have HX4:=Lib.hid hx;have HB4:=Lib.hid (raft HB3.out hb);clear hb hx hy))
 go_loopw [11,14,15] (fun s11 s14 s15 wr=>s11=.int .i64 0∧s14=x4∧s15=.slice Ay (dig R0).length (dig R0).length∧wr=w4) (fun _ _ _ _=>0)
 case atStart=>exact ⟨rfl,rfl,rfl,rfl⟩
 case round =>
  obtain ⟨rfl,rfl,rfl,rfl⟩:=hrel
  go_wp2_with (go_at_call 78;(with_reducible refine (HLq.out _ _ HX4.out).mono ?_);rintro en w5 ⟨_,rfl,rfl,hb⟩;have HX5:=Lib.hid (IsT.mono _ _ _ _ hb HX4.out);have HB5:=Lib.hid (raft HB4.out hb);clear hb)
  refine (HOf.out _ _ _ (by omega) _ HM.out.symm HX5.out).mono ?_
  rintro en w6 ⟨_,rfl,rfl,hb⟩
  go_wp2
  go_ret
  exact ⟨_,rfl,rfl,raft HB5.out hb⟩
set_option maxRecDepth 40000 in
set_option maxHeartbeats 4000000 in
theorem rratio_any (d:Int) (s:Bool) (J:Nat) (K:Int) (hJ:J=1074) (hv:IsT N v w) (hu:IsT D u w) (hD:0<D) (n1:blen N≤60000) (n2:blen D≤60000) (h1 : -27000≤K) (h2:K≤27000) :
  Calls Tryz.prog 123 #[.int .i64 d,.bool s,v,u,.int .i64 K] w (Ans w (IsV (.float .f64 (fpat s (rng d s (N*2^K.toNat*2^J) (D*2^(-K).toNat)))))):=by
 have HLv:=Lib.hid (nlen_is hv (by omega))
 have HLu:=Lib.hid (fun W (hb:Below w.heap.size w W)=>nlen_is (IsT.mono _ _ _ _ hb hu) (by omega))
 have HH:=Lib.hid (fun W=>hold_any K h1 h2 W)
 have hdp:=blen_pos (show D≠0 by omega)
 by_cases hN0:N=0
 ·have hR:fpat s (rng d s (N*2^K.toNat*2^J) (D*2^(-K).toNat))=0:=by rw [hN0,Nat.zero_mul,Nat.zero_mul,rng_zero];rfl
  have hb0:blen N=0:=by rw [hN0];exact blen_zero
  rw [hR]
  rw [hb0] at HLv
  generalize blen D=bd at *
  have g1:decide (524288<(bd:Int))=false:=decide_eq_false (by omega)
  have g2:((bd:Int)==0)=false:=by simp;omega
  have g3:¬bd=0:=by omega
  have g4:(bd==0)=false:=by simpa using g3
  clear hv hu hR hJ hN0 hb0
  go_enter Tryz.func123,Tryz.ntmps123
  go_wp2_with (first
   | (go_at_call 78;(with_reducible refine (HLv.out).mono ?_);rintro en w1 ⟨_,rfl,rfl,hb⟩;have HB1:=Lib.hid hb;clear hb)
   | (go_at_call 78;(with_reducible refine (HLu.out _ HB1.out).mono ?_);rintro en w2 ⟨_,rfl,rfl,hb⟩;have HB2:=Lib.hid (raft HB1.out hb);clear hb))
  go_ret
  exact ⟨_,rfl,rfl,HB2.out⟩
 ·have hnp:=blen_pos hN0
  have hNp:0<N:=by omega
  by_cases ht:(blen N:Int) - blen D+K < -1100
  ·have hr:=tiny_rng hNp hD d s J K hJ ht
   rw [←hr]
   have hof:=fun W x (hx:IsT 1 x W)=>of_gen d s (-1200) false hx (by omega) (by decide) (by omega) (by omega) (by decide)
   generalize fpat s (ofR d s 1 (-1200) false)=R at *
   have HOf:=Lib.hid hof
   have h1L:=Lib.hid (fun W:World=>(⟨_,by rw [dig_one];rfl,by rw [dig_one];exact (Blk.new W #[.int .u32 1] [1] (by intro x hx;simp at hx;omega) rfl).rd⟩:IsT 1 (.slice (some ⟨W.heap.size,0,none⟩) 1 1) (W.alloc (.cells #[.int .u32 1] 52))))
   generalize blen D=bd at *
   generalize blen N=bn at *
   have g1:decide (524288<(bd:Int))=false:=decide_eq_false (by omega)
   have g2:((bd:Int)==0)=false:=by simp;omega
   have g4:(bd==0)=false:=by simp;omega
   have g5:decide (524288<(bn:Int))=false:=decide_eq_false (by omega)
   have g6:((bn:Int)==0)=false:=by simp;omega
   have g7:(bn==0)=false:=by simp;omega
   have g8:decide ((bn:Int) - bd+K < -1100)=true:=decide_eq_true ht
   clear hv hu hr hof hJ
   go_enter Tryz.func123,Tryz.ntmps123
   go_wp2_with (first
    | (go_at_call 78;(with_reducible refine (HLv.out).mono ?_);rintro en w1 ⟨_,rfl,rfl,hb⟩;have HB1:=Lib.hid hb;clear hb)
    | (go_at_call 78;(with_reducible refine (HLu.out _ HB1.out).mono ?_);rintro en w2 ⟨_,rfl,rfl,hb⟩;have HB2:=Lib.hid (raft HB1.out hb);clear hb)
    | (go_at_call 132;refine (HH.out _).mono ?_;rintro en w3 ⟨rfl,rfl⟩)
    | (go_at_call 133;refine (HOf.out _ _ (h1L.out _)).mono ?_;rintro en w4 ⟨_,rfl,rfl,hb⟩;have HB4:=Lib.hid (raft HB2.out (raft (rnew _ _) hb));clear hb))
   go_ret
   exact ⟨_,rfl,rfl,HB4.out⟩
  ·by_cases hl:57+blen D≤blen N
   ·have hlong:=fun W (hb:Below w.heap.size w W)=>long_any d s J K hJ (IsT.mono _ _ _ _ hb hv) (IsT.mono _ _ _ _ hb hu) hNp hD n1 n2 h1 h2 hl
    generalize fpat s (rng d s (N*2^K.toNat*2^J) (D*2^(-K).toNat))=R at *
    have HLg:=Lib.hid hlong
    generalize blen D=bd at *
    generalize blen N=bn at *
    have g1:decide (524288<(bd:Int))=false:=decide_eq_false (by omega)
    have g2:((bd:Int)==0)=false:=by simp;omega
    have g4:(bd==0)=false:=by simp;omega
    have g5:decide (524288<(bn:Int))=false:=decide_eq_false (by omega)
    have g6:((bn:Int)==0)=false:=by simp;omega
    have g7:(bn==0)=false:=by simp;omega
    have g8:decide ((bn:Int) - bd+K < -1100)=false:=decide_eq_false ht
    have g9:57+(bd:Int) - bn≤0:=by omega
    have g10:decide (57+(bd:Int)≤bn)=true:=decide_eq_true (by omega)
    have g11:decide (57+bd≤bn)=true:=decide_eq_true (by omega)
    clear hv hu hlong hJ
    go_enter Tryz.func123,Tryz.ntmps123
    go_wp2_with (first
     | (go_at_call 78;(with_reducible refine (HLv.out).mono ?_);rintro en w1 ⟨_,rfl,rfl,hb⟩;have HB1:=Lib.hid hb;clear hb)
     | (go_at_call 78;(with_reducible refine (HLu.out _ HB1.out).mono ?_);rintro en w2 ⟨_,rfl,rfl,hb⟩;have HB2:=Lib.hid (raft HB1.out hb);clear hb)
     | (go_at_call 132;refine (HH.out _).mono ?_;rintro en w3 ⟨rfl,rfl⟩)
     | (go_at_call 134;refine (HLg.out _ HB2.out).mono ?_;rintro en w4 ⟨_,rfl,rfl,hb⟩;have HB4:=Lib.hid (raft HB2.out hb);clear hb))
    go_ret
    exact ⟨_,rfl,rfl,HB4.out⟩
   ·obtain ⟨k,hk⟩:∃k:Nat,57+(blen D:Int) - blen N=(k:Int):=⟨(57+(blen D:Int) - blen N).toNat,by omega⟩
    have hsb:=shl_bl (N:=N) k hNp
    have hsb2:blen (N*2^k)≤60057:=by omega
    have hof:=fun W i q (hi:i=K - (k:Int)) m (hm:m=decide (N*2^k%D≠0)) (hq:IsT (N*2^k / D) q W)=>of_quo d s k J K i q hJ hNp hD (by omega) (quo_bl k 400000 (by omega)) (by omega) h1 h2 hi m hm hq
    generalize fpat s (rng d s (N*2^K.toNat*2^J) (D*2^(-K).toNat))=R at *
    have HOf:=Lib.hid hof
    have HSh:=Lib.hid (fun W (hb:Below w.heap.size w W)=>nshl_is k (IsT.mono _ _ _ _ hb hv) (by omega))
    rw [←hk] at HSh
    have HQ:=Lib.hid (fun W x (hx:IsT (N*2^k) x W) (hb:Below w.heap.size w W)=>nquo_is hx (IsT.mono _ _ _ _ hb hu) (by omega) (by omega) (by omega))
    obtain ⟨R0,hR0⟩:∃x,N*2^k%D=x:=⟨_,rfl⟩
    have hlp:=len_pos (N*2^k%D)
    have hm0:decide (N*2^k%D≠0)=decide (0<(dig R0).length):=by rw [hR0,decide_eq_decide,←hR0];omega
    have HM:=Lib.hid hm0
    rw [hR0] at HQ
    have HK:=Lib.hid hk
    generalize blen D=bd at *
    generalize blen N=bn at *
    have g1:decide (524288<(bd:Int))=false:=decide_eq_false (by omega)
    have g2:((bd:Int)==0)=false:=by simp;omega
    have g4:(bd==0)=false:=by simp;omega
    have g5:decide (524288<(bn:Int))=false:=decide_eq_false (by omega)
    have g6:((bn:Int)==0)=false:=by simp;omega
    have g7:(bn==0)=false:=by simp;omega
    have g8:decide ((bn:Int) - bd+K < -1100)=false:=decide_eq_false ht
    have g9:¬57+(bd:Int) - bn≤0:=by omega
    have g10:decide (57+(bd:Int)≤bn)=false:=decide_eq_false (by omega)
    have g11:decide (57+bd≤bn)=false:=decide_eq_false (by omega)
    clear hv hu hof hJ hk hsb hsb2 hlp hm0 hR0
    go_enter Tryz.func123,Tryz.ntmps123
    go_wp2_with (first
     | (go_at_call 78;(with_reducible refine (HLv.out).mono ?_);rintro en w1 ⟨_,rfl,rfl,hb⟩;have HB1:=Lib.hid hb;clear hb)
     | (go_at_call 78;(with_reducible refine (HLu.out _ HB1.out).mono ?_);rintro en w2 ⟨_,rfl,rfl,hb⟩;have HB2:=Lib.hid (raft HB1.out hb);clear hb)
     | (go_at_call 132;refine (HH.out _).mono ?_;rintro en w3 ⟨rfl,rfl⟩)
     | (go_at_call 75;(with_reducible refine (HSh.out _ HB2.out).mono ?_);rintro en w4 ⟨_,rfl,⟨x3,y3,rfl,hx,rfl⟩,hb⟩;have HX3:=Lib.hid hx;have HB3:=Lib.hid (raft HB2.out hb);clear hb hx)
     | (go_at_call 73;(with_reducible refine (HQ.out _ _ HX3.out HB3.out).mono ?_);rintro en w5 ⟨_,rfl,⟨x4,y4,z4,rfl,hx,⟨Ay,rfl,hy⟩,rfl⟩,hb⟩;have HX4:=Lib.hid hx;have HB4:=Lib.hid (raft HB3.out hb);clear hb hx hy)
     | (go_at_call 133;refine (HOf.out _ _ _ (by have:=HK.out;omega) _ HM.out.symm HX4.out).mono ?_;rintro en w6 ⟨_,rfl,rfl,hb⟩;have HB5:=Lib.hid (raft HB4.out hb);clear hb))
    go_ret
    exact ⟨_,rfl,rfl,HB5.out⟩
end Go.Proofs.YtigmpifjcijdbaaGreatDoor
namespace Go.Proofs.YtigmpifjcijdbaaGreatDoor
set_option linter.unusedVariables false
set_option linter.unusedSimpArgs false
open Go.RowKit Verge
def readS (d:Int) (s:List UInt8):Nat×Int×Int:=
 match scn s with
 | .error (p,c)=>(0,(p:Int),c)
 | .ok (n,N,D,K)=>(fpat n (rng d n (N*2^K.toNat*2^KU) (D*2^(-K).toNat)),0,0)
theorem rng_top (d:Int) (s:Bool) (N D:Nat):rng d s N D≤9218868437227405312:=by
 unfold rng
 split
 ·split
  ·exact Nat.min_le_right _ _
  ·exact Nat.le_trans (Nat.min_le_right _ _) (by omega)
 ·exact Nat.min_le_right _ _
set_option maxRecDepth 100000 in
set_option maxHeartbeats 2000000 in
theorem readA_any (d:Int) (s:List UInt8) (hs:s.length≤140737488355328) (w:World):Calls Tryz.prog 88 #[.int .i64 d,.string (bs s)] w (Ans w (IsV (.tuple #[.float .f64 (readS d s).1,.int .i64 (readS d s).2.1,.int .i64 (readS d s).2.2]))):=by
 have h1:=fun W=>scan_any s hs W
 unfold readS
 cases hs':scn s with
 | error pc =>
  obtain ⟨p,c⟩:=pc
  rw [hs'] at h1
  have hc:=scn_code hs'
  have hcn:(c != 0)=true:=by rcases hc with rfl | rfl | rfl <;> rfl
  have HS1:=Lib.hid h1
  generalize bs s=S at *
  clear h1 hc hs'
  go_enter Tryz.func88,Tryz.ntmps88
  go_wp2_with (go_at_call 122;(with_reducible refine (HS1.out _).mono ?_);rintro e w1 ⟨v1,rfl,rfl,hb1⟩)
  refine bodyPost_ret (v:=.tuple #[.float .f64 0,.int .i64 (p:Int),.int .i64 c]) (by simp [results,Tryz.results88,go_sem]) rfl ?_
  exact ⟨_,rfl,rfl,raft hb1 (rnew w1 _)⟩
 | ok x =>
  obtain ⟨n,N,D,K⟩:=x
  rw [hs'] at h1
  obtain ⟨b1,b2,b3,b4,b5⟩:=scn_bd hs'
  dsimp only
  have hr:=fun W v u (hv:IsT N v W) (hu:IsT D u W)=>rratio_any d n KU K rfl hv hu b3 b1 b2 b4 b5
  have HS1:=Lib.hid h1
  generalize bs s=S at *
  generalize fpat n (rng d n (N*2^K.toNat*2^KU) (D*2^(-K).toNat))=R at *
  have HR:=Lib.hid hr
  clear h1 hs' hr b1 b2 b3 b4 b5
  go_enter Tryz.func88,Tryz.ntmps88
  go_wp2_with (first
   | (go_at_call 122;(with_reducible refine (HS1.out _).mono ?_);rintro e w1 ⟨v1,rfl,⟨x1,x2,rfl,⟨X1,rfl,hX1⟩,⟨X2,rfl,hX2⟩⟩,hb1⟩;have HB1:=Lib.hid (And.intro (raft hb1 (rnew w1 (nmO n (.slice X1 (dig N).length (dig N).length) (.slice X2 (dig D).length (dig D).length) K))) (And.intro (IsT.mono N _ _ _ (rnew w1 (nmO n (.slice X1 (dig N).length (dig N).length) (.slice X2 (dig D).length (dig D).length) K)) ⟨X1,rfl,hX1⟩) (IsT.mono D _ _ _ (rnew w1 (nmO n (.slice X1 (dig N).length (dig N).length) (.slice X2 (dig D).length (dig D).length) K)) ⟨X2,rfl,hX2⟩)));clear hb1 hX1 hX2)
   | (go_at_call 123;refine (HR.out _ _ _ HB1.out.2.1 HB1.out.2.2).mono ?_;rintro e w2 ⟨v2,rfl,rfl,hb2⟩;have HB2:=Lib.hid (raft HB1.out.1 hb2);clear hb2))
  refine bodyPost_ret (v:=.tuple #[.float .f64 R,.int .i64 0,.int .i64 0]) (by simp [results,Tryz.results88,go_sem]) rfl ?_
  exact ⟨_,rfl,rfl,HB2.out⟩
end Go.Proofs.YtigmpifjcijdbaaGreatDoor
