/- Layer 12, plain: what is printed of an interval is read to one that holds it; with a digit more it lies within; with 800 it is the interval. -/
import Derived.Test.YtlibbociineppaaGreatDoorG42
import Derived.Test.YtlibbociineppaaGreatDoorG44
import Derived.Test.YtlibbociineppaaGreatDoorG40
namespace Go.Proofs.YtlibbociineppaaGreatDoor
set_option linter.unusedVariables false
set_option linter.unusedSimpArgs false
open Go.RowKit Verge Verge.Lit
def fvalidL (x y:Nat):Bool:=(decide (x=9218868437227405312)&&decide (y=18442240474082181120))||(fsound x y&&(decide (x≠9223372036854775808)&&decide (y≠9223372036854775808)))
theorem xle_trans {x y z:Bool×Nat×Nat×Int} (hx:0<x.2.2.1) (hy:0<y.2.2.1) (hz:0<z.2.2.1) (h1:xle x y) (h2:xle y z):xle x z:=by
 unfold xle at *
 generalize sv x.1 x.2.1=a at *
 generalize sv y.1 y.2.1=b at *
 generalize sv z.1 z.2.1=c at *
 generalize x.2.2.1=A at *
 generalize y.2.2.1=B at *
 generalize z.2.2.1=C at *
 have hB:(0:Int)<B:=by omega
 refine Int.le_of_mul_le_mul_right ?_ hB
 calc a*C*B=a*B*C:=by ac_rfl
  _≤b*A*C:=Int.mul_le_mul_of_nonneg_right h1 (by omega)
  _=b*C*A:=by ac_rfl
  _≤c*B*A:=Int.mul_le_mul_of_nonneg_right h2 (by omega)
  _=c*A*B:=by ac_rfl
theorem xle_form {x y:Bool×Nat×Nat×Int} (ex:x.2.2.2=0) (ey:y.2.2.2=0) (h:xle x y):sv x.1 (x.2.1*y.2.2.1*2^(x.2.2.2 - y.2.2.2).toNat)≤sv y.1 (y.2.1*x.2.2.1*2^(y.2.2.2 - x.2.2.2).toNat):=by
 rw [ex,ey,show ((0:Int) - 0).toNat=0 from rfl,Nat.pow_zero,Nat.mul_one,Nat.mul_one,sv_mul,sv_mul]
 exact h
theorem xle_FK (d:Int) {x y:Bool×Nat×Nat×Int} (hx:0<x.2.2.1) (hy:0<y.2.2.1) (ex:x.2.2.2=0) (ey:y.2.2.2=0) (h:xle x y):FK (ordP d x)≤FK (ordP d y):=ord_less d hx hy (xle_form ex ey h)
theorem xle_ord {x y:Bool×Nat×Nat×Int} (ex:x.2.2.2=0) (ey:y.2.2.2=0) (h:xle x y):ordS x y≤0:=by
 have:=xle_form ex ey h
 unfold ordS icmp
 split
 ·omega
 ·split <;> omega
theorem fin_rung {b:Nat} (hw:fwrong b=false):b%9223372036854775808≤9218868437227405311:=by
 unfold fwrong fabs at hw
 have:=of_decide_eq_false hw
 omega
theorem ordP_xb (d:Int) {b:Nat} (hb:b<18446744073709551616) (hw:fwrong b=false) (hz:b≠9223372036854775808):ordP d (xb b)=b:=by
 have hr:=fin_rung hw
 unfold ordP xb
 dsimp only
 rw [show ((0:Int).toNat)=0 from rfl,show ((-(0:Int)).toNat)=0 from rfl,Nat.pow_zero,Nat.mul_one,Nat.mul_one]
 rw [rng_eq (M:=FV (b%9223372036854775808)) (E:=1) (Nat.two_pow_pos _) (by omega) (by rw [Nat.mul_one])]
 rw [rng_backO d _ hr]
 unfold fpat sgb
 by_cases h0:b%9223372036854775808=0
 ·rw [if_pos h0];omega
 ·rw [if_neg h0]
  by_cases h:9223372036854775808≤b
  ·rw [decide_eq_true h,if_pos rfl];omega
  ·rw [decide_eq_false h,if_neg (by simp)];omega
theorem FV_leO {a b:Nat} (h:a≤b):FV a≤FV b:=FV_mono h
theorem xb_le {a b:Nat} (ha:a<18446744073709551616) (hb:b<18446744073709551616) (h:FK a≤FK b):xle (xb a) (xb b):=by
 unfold xle xb
 dsimp only
 refine Int.mul_le_mul_of_nonneg_right ?_ (Int.natCast_nonneg _)
 unfold FK at h
 unfold sv sgb
 by_cases h1:a<9223372036854775808
 ·by_cases h2:b<9223372036854775808
  ·rw [if_pos h1,if_pos h2] at h
   rw [decide_eq_false (by omega),decide_eq_false (by omega)]
   have:=FV_leO (show a%9223372036854775808≤b%9223372036854775808 by omega)
   simp;omega
  ·rw [if_pos h1,if_neg h2] at h
   have e1:a%9223372036854775808=0:=by omega
   have e2:b%9223372036854775808=0:=by omega
   rw [e1,e2,FV_zero];split <;> split <;> simp
 ·by_cases h2:b<9223372036854775808
  ·rw [decide_eq_true (by omega),decide_eq_false (by omega)]
   simp <;> omega
  ·rw [if_neg h1,if_neg h2] at h
   rw [decide_eq_true (by omega),decide_eq_true (by omega)]
   have:=FV_leO (show b%9223372036854775808≤a%9223372036854775808 by omega)
   simp;omega
theorem readS_of {s:List UInt8} {x:Bool×Nat×Nat×Int} (h:scn s=.ok x) (d:Int):readS d s=(ordP d x,0,0):=by
 unfold readS;rw [h];rfl
theorem ordP_ok (d:Int) (x:Bool×Nat×Nat×Int):ordP d x<18446744073709551616∧¬fnan (ordP d x)∧ordP d x≠9223372036854775808:=by
 unfold ordP
 have:=rng_top d x.1 (x.2.1*2^x.2.2.2.toNat*2^KU) (x.2.2.1*2^(-x.2.2.2).toNat)
 generalize rng d x.1 (x.2.1*2^x.2.2.2.toNat*2^KU) (x.2.2.1*2^(-x.2.2.2).toNat)=r at *
 unfold fpat fnan
 split
 ·omega
 ·split <;> omega
def LoE (b:Nat):Prop:=b<18446744073709551616∧b≠9223372036854775808∧(b=18442240474082181120∨fwrong b=false)
def HiE (b:Nat):Prop:=b<18446744073709551616∧b≠9223372036854775808∧(b=9218868437227405312∨fwrong b=false)
def rLo (b n:Nat):Nat:=if b=18442240474082181120 then 18442240474082181120 else (readS (-1) (ptT (-1) b n)).1
def rHi (b n:Nat):Nat:=if b=9218868437227405312 then 9218868437227405312 else (readS 1 (ptT 1 b n)).1
theorem rLo_law {b n:Nat} (h:LoE b) (h1:1≤n) (h2:n≤1001):FK (rLo b n)≤FK (rLo b (n+1))∧FK (rLo b (n+1))≤FK b∧rLo b 800=b∧rLo b n<18446744073709551616∧¬fnan (rLo b n)∧rLo b n≠9223372036854775808∧rLo b (n+1)<18446744073709551616∧¬fnan (rLo b (n+1))∧rLo b (n+1)≠9223372036854775808:=by
 obtain ⟨hb,hz,hw⟩:=h
 unfold rLo
 by_cases e:b=18442240474082181120
 ·subst e
  rw [if_pos rfl,if_pos rfl,if_pos rfl]
  exact ⟨Int.le_refl _,Int.le_refl _,rfl,by omega,by decide,by omega,by omega,by decide,by omega⟩
 ·have hw':fwrong b=false:=by rcases hw with h | h;exact absurd h e;exact h
  rw [if_neg e,if_neg e,if_neg e]
  obtain ⟨x,y,z,sx,sy,sz,px,py,pz,ex,ey,ez,hl,_,z1,z2⟩:=pt_law (d:=-1) (.inr rfl) hw' h1 h2
  obtain ⟨l1,l2⟩:=hl rfl
  rw [readS_of sx,readS_of sy,readS_of sz]
  dsimp only
  have pB:0<(xb b).2.2.1:=Nat.two_pow_pos _
  have k1:=xle_FK (-1) px py ex ey l1
  have k2:=xle_FK (-1) py pB ey rfl l2
  have k3:=xle_FK (-1) pz pB ez rfl z1
  have k4:=xle_FK (-1) pB pz rfl ez z2
  have k5:=FK_pat (rng_top _ _ _ _) (rng_top _ _ _ _) (Int.le_antisymm k3 k4)
  have k5:ordP (-1) z=ordP (-1) (xb b):=k5
  rw [ordP_xb _ hb hw' hz] at k2 k5
  exact ⟨k1,k2,k5,(ordP_ok _ _).1,(ordP_ok _ _).2.1,(ordP_ok _ _).2.2,(ordP_ok _ _).1,(ordP_ok _ _).2.1,(ordP_ok _ _).2.2⟩
theorem rHi_law {b n:Nat} (h:HiE b) (h1:1≤n) (h2:n≤1001):FK (rHi b (n+1))≤FK (rHi b n)∧FK b≤FK (rHi b (n+1))∧rHi b 800=b∧rHi b n<18446744073709551616∧¬fnan (rHi b n)∧rHi b n≠9223372036854775808∧rHi b (n+1)<18446744073709551616∧¬fnan (rHi b (n+1))∧rHi b (n+1)≠9223372036854775808:=by
 obtain ⟨hb,hz,hw⟩:=h
 unfold rHi
 by_cases e:b=9218868437227405312
 ·subst e
  rw [if_pos rfl,if_pos rfl,if_pos rfl]
  exact ⟨Int.le_refl _,Int.le_refl _,rfl,by omega,by decide,by omega,by omega,by decide,by omega⟩
 ·have hw':fwrong b=false:=by rcases hw with h | h;exact absurd h e;exact h
  rw [if_neg e,if_neg e,if_neg e]
  obtain ⟨x,y,z,sx,sy,sz,px,py,pz,ex,ey,ez,_,hl,z1,z2⟩:=pt_law (d:=1) (.inl rfl) hw' h1 h2
  obtain ⟨l1,l2⟩:=hl rfl
  rw [readS_of sx,readS_of sy,readS_of sz]
  dsimp only
  have pB:0<(xb b).2.2.1:=Nat.two_pow_pos _
  have k1:=xle_FK 1 py px ey ex l1
  have k2:=xle_FK 1 pB py rfl ey l2
  have k3:=xle_FK 1 pz pB ez rfl z1
  have k4:=xle_FK 1 pB pz rfl ez z2
  have k5:=FK_pat (rng_top _ _ _ _) (rng_top _ _ _ _) (Int.le_antisymm k3 k4)
  have k5:ordP 1 z=ordP 1 (xb b):=k5
  rw [ordP_xb _ hb hw' hz] at k2 k5
  exact ⟨k1,k2,k5,(ordP_ok _ _).1,(ordP_ok _ _).2.1,(ordP_ok _ _).2.2,(ordP_ok _ _).1,(ordP_ok _ _).2.1,(ordP_ok _ _).2.2⟩
def prE (d:Int) (b n:Nat):List UInt8:=if fwrong b=true then [] else ptT d b n
def prC (b:Nat):Int:=if fwrong b=true then 1 else 0
theorem prE_PrP (d:Int) (b n:Nat) (hb:b<18446744073709551616) (h1:1≤n) (h2:n≤1100):PrP d b n (prE d b n) (prC b)∧(prE d b n).length≤1200:=by
 unfold prE prC
 by_cases hw:fwrong b=true
 ·rw [if_pos hw,if_pos hw]
  exact ⟨fun W _=>print_bad d b n hb (.inr (.inr hw)) W,by simp⟩
 ·rw [if_neg hw,if_neg hw]
  have hw':fwrong b=false:=by simpa using hw
  exact ⟨pt_PrP d b n hb h1 h2 hw',ptT_len hw' h1 h2⟩
def outT (lo hi n:Nat):List UInt8:=litQ lo hi (prE (-1) lo n) (prE 1 hi n)
theorem pt_scn {d:Int} (hd:d=1∨d = -1) {b n:Nat} (hw:fwrong b=false) (h1:1≤n) (h2:n≤1001):∃x,scn (ptT d b n)=.ok x∧0<x.2.2.1∧x.2.2.2=0∧(d = -1→xle x (xb b))∧(d=1→xle (xb b) x):=by
 obtain ⟨x,y,z,sx,sy,sz,px,py,pz,ex,ey,ez,ha,hb,z1,z2⟩:=pt_law hd hw h1 h2
 have pB:0<(xb b).2.2.1:=Nat.two_pow_pos _
 exact ⟨x,sx,px,ex,fun e=>xle_trans px py pB (ha e).1 (ha e).2,fun e=>xle_trans pB py px (hb e).2 (hb e).1⟩
theorem nil_bl:AllB []:=fun c hc=>by cases hc
theorem one_bl:AllB [32]:=fun c hc=>by
 rw [List.mem_singleton] at hc
 rw [hc];decide
theorem inf_w:InfW [105,110,102]:=.inl rfl
theorem out_read {lo hi n:Nat} (hl:LoE lo) (hh:HiE hi) (hle:FK lo≤FK hi) (h1:1≤n) (h2:n≤1001):litRd (outT lo hi n)=((rLo lo n,rHi hi n),0,0):=by
 obtain ⟨bl,zl,wl⟩:=hl
 obtain ⟨bh,zh,wh⟩:=hh
 have hne:¬(lo=9218868437227405312∧hi=18442240474082181120):=by
  rintro ⟨rfl,rfl⟩
  exact absurd hle (by decide)
 unfold outT litQ rLo rHi
 rw [if_neg hne]
 by_cases e1:lo=18442240474082181120
 ·by_cases e2:hi=9218868437227405312
  ·rw [if_pos ⟨e1,e2⟩,if_pos e1,if_pos e2]
   rfl
  ·rw [if_neg (fun h=>e2 h.2),if_pos e1,if_neg e2,if_pos e1,if_neg e2]
   have hw:fwrong hi=false:=by rcases wh with h | h;exact absurd h e2;exact h
   obtain ⟨x,sx,px,ex,_,_⟩:=pt_scn (d:=1) (.inl rfl) hw h1 h2
   have hlen:=ptT_len (d:=1) hw h1 (by omega:n≤1100)
   have hp:prE 1 hi n=ptT 1 hi n:=by unfold prE;rw [if_neg (by rw [hw];simp)]
   rw [hp]
   generalize ptT 1 hi n=t at *
   obtain ⟨xq,hcq,hnq⟩:=scn_cuts sx
   have hb:=bra_inf (w:=[105,110,102]) inf_w nil_bl nil_bl (upp_num hcq one_bl nil_bl)
   have hr:=rd_upp sx hb (by simp;omega)
   refine Eq.trans (congrArg litRd ?_) hr
   simp
 ·have hwl:fwrong lo=false:=by rcases wl with h | h;exact absurd h e1;exact h
  obtain ⟨x,sx,px,ex,hx,_⟩:=pt_scn (d:=-1) (.inr rfl) hwl h1 h2
  have hx:=hx rfl
  have hlenl:=ptT_len (d:=-1) hwl h1 (by omega:n≤1100)
  have hpl:prE (-1) lo n=ptT (-1) lo n:=by unfold prE;rw [if_neg (by rw [hwl];simp)]
  rw [if_neg (fun h=>e1 h.1),if_neg e1,if_neg e1,hpl]
  by_cases e2:hi=9218868437227405312
  ·rw [if_pos e2,if_pos e2]
   generalize ptT (-1) lo n=t at *
   have hr:=rd_low sx nil_bl nil_bl (upp_inf (w:=[105,110,102]) inf_w false one_bl nil_bl) (by simp;omega)
   refine Eq.trans (congrArg litRd ?_) hr
   simp
  ·rw [if_neg e2,if_neg e2]
   have hw:fwrong hi=false:=by rcases wh with h | h;exact absurd h e2;exact h
   obtain ⟨y,sy,py,ey,_,hy⟩:=pt_scn (d:=1) (.inl rfl) hw h1 h2
   have hy:=hy rfl
   have hlen:=ptT_len (d:=1) hw h1 (by omega:n≤1100)
   have hp:prE 1 hi n=ptT 1 hi n:=by unfold prE;rw [if_neg (by rw [hw];simp)]
   rw [hp]
   have pA:0<(xb lo).2.2.1:=Nat.two_pow_pos _
   have pB:0<(xb hi).2.2.1:=Nat.two_pow_pos _
   have ho:ordS x y≤0:=xle_ord ex ey (xle_trans px pA py hx (xle_trans pA pB py (xb_le bl bh hle) hy))
   generalize ptT 1 hi n=t at *
   generalize ptT (-1) lo n=s at *
   have hr:=rd_two sx sy ho nil_bl nil_bl one_bl nil_bl (by simp;omega)
   refine Eq.trans (congrArg litRd ?_) hr
   simp
def FIn (p q:Nat×Nat):Prop:=p.1<18446744073709551616∧p.2<18446744073709551616∧q.1<18446744073709551616∧q.2<18446744073709551616∧fvalidL p.1 p.2=true∧fvalidL q.1 q.2=true ∧
 ((p.1=9218868437227405312∧p.2=18442240474082181120)∨(¬(p.1=9218868437227405312∧p.2=18442240474082181120)∧¬(q.1=9218868437227405312∧q.2=18442240474082181120)∧fabove q.1 p.1=false∧fabove p.2 q.2=false))
theorem fin_of {a b c d:Nat} (ha:a<18446744073709551616) (hb:b<18446744073709551616) (hc:c<18446744073709551616) (hd:d<18446744073709551616) (na:¬fnan a) (nb:¬fnan b) (nc:¬fnan c) (nd:¬fnan d) (za:a≠9223372036854775808) (zb:b≠9223372036854775808) (zc:c≠9223372036854775808) (zd:d≠9223372036854775808)
  (h1:FK c≤FK a) (h2:FK a≤FK b) (h3:FK b≤FK d) (h4:FK a<9218868437227405312) (h5 : -9218868437227405312<FK b):FIn (a,b) (c,d):=by
 have key:∀{x y:Nat},¬fnan x→¬fnan y→x≠9223372036854775808→y≠9223372036854775808→FK x≤FK y→FK x<9218868437227405312 → -9218868437227405312<FK y→fvalidL x y=true∧¬(x=9218868437227405312∧y=18442240474082181120):=by
  intro x y nx ny zx zy l1 l2 l3
  have hs:fsound x y=true:=decide_eq_true ⟨nx,ny,l1,l2,l3⟩
  refine ⟨?_,?_⟩
  ·unfold fvalidL
   rw [hs,decide_eq_true zx,decide_eq_true zy];simp
  ·rintro ⟨rfl,rfl⟩
   exact absurd l1 (by decide)
 obtain ⟨k1,k2⟩:=key na nb za zb h2 h4 h5
 obtain ⟨k3,k4⟩:=key nc nd zc zd (by omega) (by omega) (by omega)
 refine ⟨ha,hb,hc,hd,k1,k3,.inr ⟨k2,k4,?_,?_⟩⟩
 ·exact decide_eq_false (fun h=>by have:=h.2.2;dsimp only at this;omega)
 ·exact decide_eq_false (fun h=>by have:=h.2.2;dsimp only at this;omega)
theorem sound_ends {x y:Nat} (hx:x<18446744073709551616) (hy:y<18446744073709551616) (hs:fsound x y=true):LoE (flo x y)∧HiE (fhi x y)∧FK (flo x y)≤FK (fhi x y)∧FK (flo x y)<9218868437227405312 ∧ -9218868437227405312<FK (fhi x y)∧¬fnan (flo x y)∧¬fnan (fhi x y):=by
 have h:=of_decide_eq_true hs
 obtain ⟨nx,ny,l1,l2,l3⟩:=h
 have kz:∀z:Nat,z<18446744073709551616→¬fnan z→fz z<18446744073709551616∧fz z≠9223372036854775808∧FK (fz z)=FK z∧¬fnan (fz z):=by
  intro z hz nz
  unfold fz
  by_cases e:z=0∨z=9223372036854775808
  ·rw [if_pos e]
   refine ⟨by omega,by omega,?_,by decide⟩
   rcases e with rfl | rfl <;> decide
  ·rw [if_neg e]
   exact ⟨hz,by omega,rfl,nz⟩
 obtain ⟨a1,a2,a3,a4⟩:=kz x hx nx
 obtain ⟨b1,b2,b3,b4⟩:=kz y hy ny
 unfold flo fhi
 rw [if_pos hs,if_pos hs]
 generalize fz x=a at *
 generalize fz y=b at *
 rw [←a3] at l1 l2
 rw [←b3] at l1 l3
 clear a3 b3
 refine ⟨⟨a1,a2,?_⟩,⟨b1,b2,?_⟩,l1,l2,l3,a4,b4⟩
 ·unfold fnan at a4
  unfold FK at l2
  unfold fwrong fabs
  by_cases e:a=18442240474082181120
  ·exact .inl e
  ·right
   refine decide_eq_false ?_
   clear l1 l3 b4
   split at l2 <;> omega
 ·unfold fnan at b4
  unfold FK at l3
  unfold fwrong fabs
  by_cases e:b=9218868437227405312
  ·exact .inl e
  ·right
   refine decide_eq_false ?_
   clear l1 l2 a4
   split at l3 <;> omega
theorem out_law {x y n:Nat} (hx:x<18446744073709551616) (hy:y<18446744073709551616) (h1:1≤n) (h2:n≤1000) :
  ∃a b:Nat×Nat,litRd (outT (flo x y) (fhi x y) n)=(a,0,0)∧litRd (outT (flo x y) (fhi x y) (n+1))=(b,0,0)∧litRd (outT (flo x y) (fhi x y) 800)=((flo x y,fhi x y),0,0)∧FIn (flo x y,fhi x y) b∧FIn b a:=by
 by_cases hs:fsound x y=true
 ·obtain ⟨hl,hh,hle,l4,l5,n1,n2⟩:=sound_ends hx hy hs
  generalize flo x y=lo at *
  generalize fhi x y=hi at *
  obtain ⟨p1,p2,p3,p4,p5,p6,p7,p8,p9⟩:=rLo_law hl h1 (by omega)
  obtain ⟨q1,q2,q3,q4,q5,q6,q7,q8,q9⟩:=rHi_law hh h1 (by omega)
  refine ⟨_,_,out_read hl hh hle h1 (by omega),out_read hl hh hle (by omega) (by omega),?_,?_,?_⟩
  ·rw [out_read hl hh hle (by omega) (by omega),p3,q3]
  ·exact fin_of hl.1 hh.1 p7 q7 n1 n2 p8 q8 hl.2.1 hh.2.1 p9 q9 p2 hle q2 l4 l5
  ·exact fin_of p7 q7 p4 q4 p8 q8 p5 q5 p9 q9 p6 q6 p1 (by omega) q1 (by omega) (by omega)
 ·have e1:flo x y=9218868437227405312:=by unfold flo;rw [if_neg hs]
  have e2:fhi x y=18442240474082181120:=by unfold fhi;rw [if_neg hs]
  rw [e1,e2]
  have hR:∀m,litRd (outT 9218868437227405312 18442240474082181120 m)=((9218868437227405312,18442240474082181120),0,0):=by
   intro m
   unfold outT litQ
   rw [if_pos ⟨rfl,rfl⟩]
   rfl
  have hF:FIn (9218868437227405312,18442240474082181120) (9218868437227405312,18442240474082181120):=by
   refine ⟨by omega,by omega,by omega,by omega,?_,?_,.inl ⟨rfl,rfl⟩⟩ <;> · unfold fvalidL;simp
  exact ⟨_,_,hR _,hR _,hR _,hF,hF⟩
end Go.Proofs.YtlibbociineppaaGreatDoor
