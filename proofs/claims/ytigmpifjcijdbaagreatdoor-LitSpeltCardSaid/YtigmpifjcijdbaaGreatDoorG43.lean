/- Layer 5, plain: how many digits a natural has; a quotient's digits when the power of ten turns. -/
import Derived.Test.YtigmpifjcijdbaaGreatDoorG03
import Derived.Test.YtigmpifjcijdbaaGreatDoorG42
import Derived.Test.YtigmpifjcijdbaaGreatDoorG14
import Derived.Test.YtigmpifjcijdbaaGreatDoorG04
import Derived.Lib.ItoaLen
import Derived.Test.YtigmpifjcijdbaaGreatDoorG35
import Derived.Laws.BytesArg
import Derived.Test.YtigmpifjcijdbaaGreatDoorG07
import Derived.Test.YtigmpifjcijdbaaGreatDoorG06
import Derived.Laws.OwnMore
import Derived.Laws.Concat
import Derived.Shelf.Small.Bits
import Derived.Shelf.Strconv.Itoa0
import Derived.Shelf.Strconv.Itoa1
import Derived.Shelf.LaysM
import Derived.Shelf.Strconv.Itoa2
import Derived.Shelf.Strconv.Itoa3
import Derived.Test.YtigmpifjcijdbaaGreatDoorProg
import Derived.Test.YtigmpifjcijdbaaGreatDoorG21
section
namespace Go.Proofs.YtigmpifjcijdbaaGreatDoor
set_option linter.unusedVariables false
set_option linter.unusedSimpArgs false
open Go.RowKit Verge
def dcnt (q:Nat):Nat:=(txt q).length
theorem dcnt_zero:dcnt 0=0:=rfl
theorem dcnt_step {q:Nat} (h:0<q):dcnt q=dcnt (q / 10)+1:=by
 unfold dcnt
 rw [txt_step h,List.length_append]
 rfl
theorem dcnt_spec (q:Nat):q<10^dcnt q∧(0<q→0<dcnt q∧10^(dcnt q - 1)≤q):=by
 induction q using Nat.strongRecOn with
 | _ q ih =>
  by_cases h:q=0
  ·subst h
   exact ⟨by rw [dcnt_zero];decide,fun h=>absurd h (by omega)⟩
  ·have hq:0<q:=by omega
   have hs:=dcnt_step hq
   obtain ⟨h1,h2⟩:=ih (q / 10) (by omega)
   rw [hs]
   refine ⟨?_,fun _=>⟨by omega,?_⟩⟩
   ·rw [Nat.pow_succ];omega
   ·rw [Nat.add_sub_cancel]
    by_cases h0:q / 10=0
    ·rw [h0,dcnt_zero,Nat.pow_zero];exact hq
    ·obtain ⟨h3,h4⟩:=h2 (by omega)
     have:dcnt (q / 10)=dcnt (q / 10) - 1+1:=by omega
     rw [this,Nat.pow_succ]
     omega
theorem dcnt_le (q m:Nat):dcnt q≤m↔q<10^m:=by
 obtain ⟨h1,h2⟩:=dcnt_spec q
 constructor
 ·intro h
  exact Nat.lt_of_lt_of_le h1 (Nat.pow_le_pow_right (by omega) h)
 ·intro h
  refine Classical.byContradiction fun hc => ?_
  have hq:0<q:=by
   rcases Nat.eq_zero_or_pos q with e | e
   ·subst e;rw [dcnt_zero] at hc;omega
   ·exact e
  obtain ⟨h3,h4⟩:=h2 hq
  have:10^m≤10^(dcnt q - 1):=Nat.pow_le_pow_right (by omega) (by omega)
  omega
def qat (N D:Nat) (K:Int):Nat:=N*10^(-K).toNat / (D*10^K.toNat)
def belowT (N D:Nat) (t:Int):Prop:=N*10^(-t).toNat<D*10^t.toNat
theorem cross {N D x y u v:Nat} (h:(y:Int) - x=(v:Int) - u):N*10^x<D*10^y↔N*10^u<D*10^v:=by
 have key:∀{x y u v:Nat},y+u=v+x→N*10^x<D*10^y→N*10^u<D*10^v:=by
  intro x y u v e hlt
  have h1:N*10^x*10^u<D*10^y*10^u:=Nat.mul_lt_mul_of_pos_right hlt (Nat.pow_pos (by omega))
  have e1:D*10^y*10^u=D*10^v*10^x:=by
   rw [Nat.mul_assoc,←Nat.pow_add,e,Nat.pow_add,←Nat.mul_assoc]
  have e2:N*10^x*10^u=N*10^u*10^x:=by rw [Nat.mul_assoc,Nat.mul_comm (10^x),←Nat.mul_assoc]
  rw [e1,e2] at h1
  exact Nat.lt_of_mul_lt_mul_right h1
 exact ⟨key (by omega),key (by omega)⟩
theorem belowT_mono {N D:Nat} {t u:Int} (h:belowT N D t) (hu:t≤u):belowT N D u:=by
 unfold belowT at *
 obtain ⟨i,hi⟩:∃i:Nat,u=t+(i:Int):=⟨(u - t).toNat,by omega⟩
 have h1:N*10^(-t).toNat<D*10^(t.toNat+i):=Nat.lt_of_lt_of_le h (Nat.mul_le_mul_left _ (Nat.pow_le_pow_right (by omega) (by omega)))
 exact (cross (by omega)).1 h1
section
variable {N D:Nat} (hD:0<D)
include hD
theorem qat_le (K:Int) (m:Nat):dcnt (qat N D K)≤m↔belowT N D (K+m):=by
 rw [dcnt_le]
 unfold qat belowT
 rw [Nat.div_lt_iff_lt_mul (Nat.mul_pos hD (Nat.pow_pos (by omega))),show 10^m*(D*10^K.toNat)=D*10^(m+K.toNat) by rw [Nat.pow_add];ac_rfl]
 exact cross (by omega)
theorem qat_top {K:Int} {m:Nat} (hm:0<m):dcnt (qat N D K)=m↔belowT N D (K+m)∧¬belowT N D (K+m - 1):=by
 have h1:=qat_le (N:=N) hD K m
 have h2:=qat_le (N:=N) hD K (m - 1)
 rw [show K+((m - 1:Nat):Int)=K+m - 1 by omega] at h2
 constructor
 ·intro h
  exact ⟨h1.1 (by omega),fun hb=>by have:=h2.2 hb;omega⟩
 ·rintro ⟨ha,hb⟩
  have:=h1.2 ha
  have:¬dcnt (qat N D K)≤m - 1:=fun h=>hb (h2.1 h)
  omega
theorem qat_turn {K:Int} {m n:Nat} (hm:0<m) (hn:0<n) (h:dcnt (qat N D K)=m):dcnt (qat N D (K+m - n))=n:=by
 rw [qat_top hD hn]
 have:=(qat_top hD hm).1 h
 rw [show K+(m:Int) - n+n=K+m by omega]
 exact this
end
end Go.Proofs.YtigmpifjcijdbaaGreatDoor
end

section
namespace Go.Proofs.YtigmpifjcijdbaaGreatDoor
set_option linter.unusedVariables false
set_option linter.unusedSimpArgs false
open Go.RowKit Verge
end Go.Proofs.YtigmpifjcijdbaaGreatDoor
end

section
namespace Go.Proofs.YtigmpifjcijdbaaGreatDoor
set_option linter.unusedVariables false
set_option linter.unusedSimpArgs false
open Go.RowKit Verge
def hxm (b:Nat):Nat:=fbF b*2^(53 - blen (fbF b))
def hxe (b:Nat):Int:=(fbE b:Int) - 1075+blen (fbF b)
theorem blen_shl {o u:Nat} (h:o≠0):blen (o*2^u)=blen o+u:=by
 have e:o*2^u / 2^u=o:=Nat.mul_div_cancel _ (Nat.two_pow_pos u)
 have:=blen_div (o*2^u) u (by rw [e];exact h)
 rw [e] at this
 omega
theorem fbF_blen (b:Nat):blen (fbF b)≤53:=(blen_lt _ _).2 (by have:=fbF_lt b;omega)
theorem hx_doc {b:Nat} (h:fbF b≠0):fbN b≠0∧fbN b*2^52 / 2^(blen (fbN b) - 1)=hxm b∧((blen (fbN b) - 1:Nat):Int) - ((blen (fbD b) - 1:Nat):Int)=hxe b:=by
 have n1:ntz 1=0:=ntz_of 1 0 0 (by simp)
 obtain ⟨m,hm⟩:=ntz_spec (fbF b) h
 have hF:=fbF_blen b
 unfold hxm hxe fbN fbD fracN fracD fracE
 rw [if_neg h,if_neg h,n1]
 generalize ntz (fbF b)=t at *
 have ho:fbF b / 2^t=2*m+1:=by rw [hm];exact Nat.mul_div_cancel_left _ (Nat.two_pow_pos t)
 have hb:blen (fbF b)=t+blen (2*m+1):=by
  have:=blen_div (fbF b) t (by rw [ho];omega)
  rw [ho] at this;exact this
 rw [ho]
 rw [hb] at hF ⊢
 generalize ho2:2*m+1=o at *
 have h0:o≠0:=by omega
 have hp:=blen_pos h0
 obtain ⟨E,hE⟩:∃E:Int,(fbE b:Int) - 1074+t - 0=E:=⟨_,rfl⟩
 have hE':((fbE b:Int) - 1074+(t:Int) - ((0:Nat):Int))=E:=hE
 rw [hE']
 obtain ⟨u,hu⟩:∃u,E.toNat=u:=⟨_,rfl⟩
 obtain ⟨d,hd⟩:∃u,(-E).toNat=u:=⟨_,rfl⟩
 rw [hu,hd]
 have hD:blen (1 / 2^0*2^d)=d+1:=by
  rw [show (1:Nat) / 2^0*2^d=2^d by simp]
  exact blen_of _ d (Nat.le_refl _) (Nat.pow_lt_pow_right (by omega) (by omega))
 rw [hD,blen_shl h0]
 refine ⟨Nat.mul_ne_zero h0 (by have:=Nat.two_pow_pos u;omega),?_,by omega⟩
 have e1:o*2^u*2^52=o*2^(53 - blen o)*2^(blen o+u - 1):=by
  rw [Nat.mul_assoc,Nat.mul_assoc,←Nat.pow_add,←Nat.pow_add]
  congr 2;omega
 rw [e1,Nat.mul_div_cancel _ (Nat.two_pow_pos _),hm,Nat.mul_comm (2^t),Nat.mul_assoc,←Nat.pow_add]
 congr 2;omega
end Go.Proofs.YtigmpifjcijdbaaGreatDoor
namespace Go.Proofs.YtigmpifjcijdbaaGreatDoor
set_option linter.unusedVariables false
set_option linter.unusedSimpArgs false
open Go.RowKit Verge
def tz10 (n:Nat):Nat:=if h:0<n∧n%10=0 then tz10 (n / 10)+1 else 0
termination_by n
decreasing_by omega
def core (n:Nat):Nat:=if h:0<n∧n%10=0 then core (n / 10) else n
termination_by n
decreasing_by omega
theorem tz10_step {n:Nat} (h:0<n) (h0:n%10=0):tz10 n=tz10 (n / 10)+1:=by rw [tz10,dif_pos ⟨h,h0⟩]
theorem tz10_end {n:Nat} (h0:n%10≠0):tz10 n=0:=by rw [tz10,dif_neg (by omega)]
theorem core_step {n:Nat} (h:0<n) (h0:n%10=0):core n=core (n / 10):=by rw [core,dif_pos ⟨h,h0⟩]
theorem core_end {n:Nat} (h0:n%10≠0):core n=n:=by rw [core,dif_neg (by omega)]
theorem core_pow {n:Nat} (h:0<n):∀t,core (n*10^t)=core n∧tz10 (n*10^t)=tz10 n+t
 | 0=>by simp
 | t+1=>by
  have hp:0<n*10^(t+1):=Nat.mul_pos h (Nat.pow_pos (by omega))
  have e:n*10^(t+1)=n*10^t*10:=by rw [Nat.pow_succ,Nat.mul_assoc]
  have hm:n*10^(t+1)%10=0:=by rw [e];omega
  have hd:n*10^(t+1) / 10=n*10^t:=by rw [e];omega
  obtain ⟨i1,i2⟩:=core_pow h t
  rw [core_step hp hm,tz10_step hp hm,hd,i1,i2]
  exact ⟨rfl,by omega⟩
theorem txt_some {n:Nat} (h:0<n):0<(txt n).length:=by rw [txt_step h,List.length_append];simp
def ftext (neg:Bool) (d:List UInt8) (k:Int):List UInt8:=
 (if neg=true then [45] else [])++(d.take 1++(if 1<d.length then 46::d.drop 1 else []))++101::Lib.itoa ((d.length:Int) - 1+k)
theorem exact_law {b:Nat} (h:fbF b≠0) {A k:Nat} (hA:A=fbF b*2^((fbE b:Int) - 1074).toNat*5^(-((fbE b:Int) - 1074)).toNat) (hk:k=(-((fbE b:Int) - 1074)).toNat) :
  0<A∧0<fbN b*5^(blen (fbD b) - 1)∧core A=core (fbN b*5^(blen (fbD b) - 1))∧(tz10 A:Int) - k=(tz10 (fbN b*5^(blen (fbD b) - 1)):Int) - ((blen (fbD b) - 1:Nat):Int):=by
 have n1:ntz 1=0:=ntz_of 1 0 0 (by simp)
 obtain ⟨m,hm⟩:=ntz_spec (fbF b) h
 have hN:fbN b≠0:=(hx_doc h).1
 have hA0:0<A:=by
  rw [hA]
  exact Nat.mul_pos (Nat.mul_pos (by omega) (Nat.two_pow_pos _)) (Nat.pow_pos (by omega))
 have hB0:0<fbN b*5^(blen (fbD b) - 1):=Nat.mul_pos (by omega) (Nat.pow_pos (by omega))
 refine ⟨hA0,hB0,?_⟩
 suffices hs:∃t,A=fbN b*5^(blen (fbD b) - 1)*10^t∧k=(blen (fbD b) - 1)+t by
  obtain ⟨t,e1,e2⟩:=hs
  obtain ⟨c1,c2⟩:=core_pow hB0 t
  rw [e1,c1,c2,e2]
  exact ⟨rfl,by omega⟩
 have hD:fbD b=2^(-((fbE b:Int) - 1074+ntz (fbF b))).toNat:=by
  unfold fbD fracD fracE
  rw [if_neg h,n1]
  simp
 have hNN:fbN b=(2*m+1)*2^((fbE b:Int) - 1074+ntz (fbF b)).toNat:=by
  unfold fbN fracN fracE
  rw [if_neg h,n1]
  have ho:fbF b / 2^ntz (fbF b)=2*m+1:=Nat.div_eq_of_eq_mul_right (Nat.two_pow_pos _) hm
  rw [ho]
  simp
 have hbl:blen (fbD b) - 1=(-((fbE b:Int) - 1074+ntz (fbF b))).toNat:=by
  rw [hD,blen_of _ _ (Nat.le_refl _) (Nat.pow_lt_pow_right (by omega) (by omega))]
  omega
 rw [hbl,hNN]
 generalize hE:(fbE b:Int) - 1074=E at *
 generalize ntz (fbF b)=t at *
 rw [hm] at hA
 obtain ⟨u,hu⟩:∃u,(-E).toNat=u:=⟨_,rfl⟩
 obtain ⟨v,hv⟩:∃u,E.toNat=u:=⟨_,rfl⟩
 obtain ⟨x,hx⟩:∃u,(-(E+t)).toNat=u:=⟨_,rfl⟩
 obtain ⟨y,hy⟩:∃u,(E+t).toNat=u:=⟨_,rfl⟩
 rw [hu,hv] at hA
 rw [hu] at hk
 rw [hx,hy]
 refine ⟨u - x,?_,by omega⟩
 have e10:(10:Nat)^(u - x)=2^(u - x)*5^(u - x):=by rw [←Nat.mul_pow]
 have e2:t+v=y+(u - x):=by omega
 have e5:u=x+(u - x):=by omega
 rw [hA,e10]
 have p2:(2:Nat)^t*2^v=2^y*2^(u - x):=by rw [←Nat.pow_add,←Nat.pow_add,e2]
 have p5:(5:Nat)^u=5^x*5^(u - x):=by rw [←Nat.pow_add,←e5]
 rw [p5]
 generalize (5:Nat)^x=f at *
 generalize (5:Nat)^(u - x)=g at *
 calc 2^t*(2*m+1)*2^v*(f*g)=(2^t*2^v)*((2*m+1)*(f*g)):=by ac_rfl
  _=(2^y*2^(u - x))*((2*m+1)*(f*g)):=by rw [p2]
  _=(2*m+1)*2^y*f*(2^(u - x)*g):=by ac_rfl
theorem five_blen (k:Nat):blen (5^k)≤3*k+1:=by
 rw [blen_lt,Nat.pow_succ,Nat.pow_mul]
 have h1:(5:Nat)^k≤(2^3)^k:=Nat.pow_le_pow_left (by omega) k
 have h2:=Nat.pow_pos (n:=k) (show 0<(2:Nat)^3 by decide)
 omega
theorem blen_mul_le {x y i j:Nat} (h1:blen x≤i) (h2:blen y≤j):blen (x*y)≤i+j:=by
 rw [blen_lt] at *
 rw [Nat.pow_add]
 rcases Nat.eq_zero_or_pos y with h | h
 ·subst h;rw [Nat.mul_zero];exact Nat.mul_pos (Nat.two_pow_pos _) (Nat.two_pow_pos _)
 ·exact Nat.lt_of_lt_of_le (Nat.mul_lt_mul_of_pos_right h1 h) (Nat.mul_le_mul_left _ (Nat.le_of_lt h2))
end Go.Proofs.YtigmpifjcijdbaaGreatDoor
end

section
namespace Go.Proofs.YtigmpifjcijdbaaGreatDoor
set_option linter.unusedVariables false
set_option linter.unusedSimpArgs false
open Go.RowKit Verge
end Go.Proofs.YtigmpifjcijdbaaGreatDoor
end

section
namespace Go.Proofs.YtigmpifjcijdbaaGreatDoor
set_option linter.unusedVariables false
set_option linter.unusedSimpArgs false
open Go.RowKit Verge
theorem fl_leO {N M D:Nat} (hD:0<D) (h:N≤M):fl (N / D)≤fl (M / D):=(div_FV hD).2 (Nat.le_trans (fl_div_le N D hD) h)
theorem rngA_mono {N M D:Nat} (hD:0<D) (h:N≤M):rngA N D≤rngA M D:=by
 have h1:=fl_leO hD h
 have h2:=fl_div_le N D hD
 have h3:=fl_div_le M D hD
 unfold rngA
 generalize fl (N / D)=a at *
 generalize fl (M / D)=b at *
 by_cases e1:FV a*D=N
 ·rw [if_pos e1];split <;> omega
 ·rw [if_neg e1]
  by_cases e2:FV b*D=M
  ·rw [if_pos e2]
   rcases Nat.lt_or_ge a b with h4 | h4
   ·omega
   ·obtain rfl:a=b:=by omega
    exact absurd (show FV a*D=N by omega) e1
  ·rw [if_neg e2];omega
theorem rngN_monoO {N M D:Nat} (hD:0<D) (h:N≤M):rngN N D≤rngN M D:=by
 have h1:=fl_leO hD h
 unfold rngN
 generalize fl (N / D)=a at *
 generalize fl (M / D)=b at *
 rcases Nat.lt_or_ge a b with h4 | h4
 ·generalize (FV a+FV (a+1))*D=A
  generalize (FV b+FV (b+1))*D=B
  repeat' split
  all_goals omega
 ·obtain rfl:a=b:=by omega
  generalize (FV a+FV (a+1))*D=A
  repeat' split
  all_goals omega
theorem rng_mono {d:Int} {s:Bool} {N M D:Nat} (hD:0<D) (h:N≤M):rng d s N D≤rng d s M D:=by
 have h1:=fl_leO hD h
 have h2:=rngA_mono hD h
 have h3:=rngN_monoO hD h
 unfold rng
 repeat' split
 all_goals omega
theorem rng_le {d:Int} {s:Bool} {N D M E:Nat} (hD:0<D) (hE:0<E) (h:N*E≤M*D):rng d s N D≤rng d s M E:=by
 rw [←rng_cut d s N D E hE,←rng_cut d s M E D hD,Nat.mul_comm E D]
 exact rng_mono (Nat.mul_pos hD hE) h
theorem crossed (A D B E:Nat) (K L:Int) (U:Nat) (hU:0<U):∃c,0<c∧A*2^K.toNat*U*(E*2^(-L).toNat)=A*E*2^(K - L).toNat*c∧B*2^L.toNat*U*(D*2^(-K).toNat)=B*D*2^(L - K).toNat*c:=by
 obtain ⟨j,hj⟩:∃j:Nat,K.toNat+(-L).toNat=(K - L).toNat+j:=⟨K.toNat+(-L).toNat - (K - L).toNat,by omega⟩
 have hj2:L.toNat+(-K).toNat=(L - K).toNat+j:=by omega
 refine ⟨2^j*U,Nat.mul_pos (Nat.two_pow_pos _) hU,?_,?_⟩
 ·have:2^K.toNat*2^(-L).toNat=2^(K - L).toNat*2^j:=by rw [←Nat.pow_add,←Nat.pow_add,hj]
  calc A*2^K.toNat*U*(E*2^(-L).toNat)=A*E*(2^K.toNat*2^(-L).toNat)*U:=by ac_rfl
   _=_:=by rw [this];ac_rfl
 ·have:2^L.toNat*2^(-K).toNat=2^(L - K).toNat*2^j:=by rw [←Nat.pow_add,←Nat.pow_add,hj2]
  calc B*2^L.toNat*U*(D*2^(-K).toNat)=B*D*(2^L.toNat*2^(-K).toNat)*U:=by ac_rfl
   _=_:=by rw [this];ac_rfl
def ordP (d:Int) (x:Bool×Nat×Nat×Int):Nat:=fpat x.1 (rng d x.1 (x.2.1*2^x.2.2.2.toNat*2^KU) (x.2.2.1*2^(-x.2.2.2).toNat))
theorem FK_fpat {s:Bool} {r:Nat} (h:r≤9218868437227405312):FK (fpat s r)=if s=true then -(r:Int) else r:=by
 unfold fpat FK
 by_cases h0:r=0
 ·subst h0;cases s <;> rfl
 ·rw [if_neg h0]
  cases s
  ·simp only [Bool.false_eq_true,if_false];rw [if_pos (by omega)]
  ·simp only [if_true];rw [if_neg (by omega)];omega
theorem icmp_self (a:Int):icmp a a=0:=by unfold icmp;rw [if_neg (by omega),if_pos rfl]
theorem icmp_cases (a b:Int):(icmp a b = -1∧icmp b a=1∧a<b)∨(icmp a b=0∧icmp b a=0∧a=b)∨(icmp a b=1∧icmp b a = -1∧b<a):=by
 unfold icmp
 rcases Int.lt_trichotomy a b with h | h | h
 ·left;rw [if_pos h,if_neg (by omega),if_neg (by omega)];exact ⟨rfl,rfl,h⟩
 ·right;left;rw [if_neg (by omega),if_pos h,if_neg (by omega),if_pos h.symm];exact ⟨rfl,rfl,h⟩
 ·right;right;rw [if_neg (by omega),if_neg (by omega),if_pos h];exact ⟨rfl,rfl,h⟩
theorem ord_less (d:Int) {x y:Bool×Nat×Nat×Int} (hx:0<x.2.2.1) (hy:0<y.2.2.1) (h:sv x.1 (x.2.1*y.2.2.1*2^(x.2.2.2 - y.2.2.2).toNat)≤sv y.1 (y.2.1*x.2.2.1*2^(y.2.2.2 - x.2.2.2).toNat)):FK (ordP d x)≤FK (ordP d y):=by
 obtain ⟨s,A,D,K⟩:=x
 obtain ⟨t,B,E,L⟩:=y
 simp only at hx hy h ⊢
 unfold ordP
 simp only
 rw [FK_fpat (rng_top _ _ _ _),FK_fpat (rng_top _ _ _ _)]
 obtain ⟨c,hc,e1,e2⟩:=crossed A D B E K L (2^KU) (Nat.two_pow_pos _)
 have hD:0<D*2^(-K).toNat:=Nat.mul_pos hx (Nat.two_pow_pos _)
 have hE:0<E*2^(-L).toNat:=Nat.mul_pos hy (Nat.two_pow_pos _)
 generalize D*2^(-K).toNat=D' at *
 generalize E*2^(-L).toNat=E' at *
 generalize A*2^K.toNat*2^KU=A' at *
 generalize B*2^L.toNat*2^KU=B' at *
 generalize A*E*2^(K - L).toNat=a at *
 generalize B*D*2^(L - K).toNat=b at *
 unfold sv at h
 cases s <;> cases t
 ·have h':a≤b:=by simp at h;omega
  have:=rng_le (d:=d) (s:=false) hD hE (by rw [e1,e2];exact Nat.mul_le_mul_right c h')
  simp;omega
 ·have h':a=0∧b=0:=by simp at h;omega
  have hA:A'=0:=by
   have:=e1;rw [h'.1,Nat.zero_mul] at this
   rcases Nat.mul_eq_zero.1 this with h | h
   ·exact h
   ·omega
  have hB:B'=0:=by
   have:=e2;rw [h'.2,Nat.zero_mul] at this
   rcases Nat.mul_eq_zero.1 this with h | h
   ·exact h
   ·omega
  rw [hA,hB,rng_zero,rng_zero];simp
 ·simp <;> omega
 ·have h':b≤a:=by simp at h;omega
  have:=rng_le (d:=d) (s:=true) hE hD (by rw [e1,e2];exact Nat.mul_le_mul_right c h')
  simp;omega
theorem FK_pat {s t:Bool} {r u:Nat} (h:r≤9218868437227405312) (h':u≤9218868437227405312) (e:FK (fpat s r)=FK (fpat t u)):fpat s r=fpat t u:=by
 rw [FK_fpat h,FK_fpat h'] at e
 unfold fpat
 cases s <;> cases t <;> simp at e ⊢ <;> (repeat' split) <;> omega
theorem ord_law (d:Int) {x y:Bool×Nat×Nat×Int} (hx:0<x.2.2.1) (hy:0<y.2.2.1) :
  (ordS x y = -1∧ordS y x=1∧FK (ordP d x)≤FK (ordP d y))∨(ordS x y=0∧ordS y x=0∧ordP d x=ordP d y)∨(ordS x y=1∧ordS y x = -1∧FK (ordP d y)≤FK (ordP d x)):=by
 unfold ordS
 rcases icmp_cases (sv x.1 (x.2.1*y.2.2.1*2^(x.2.2.2 - y.2.2.2).toNat)) (sv y.1 (y.2.1*x.2.2.1*2^(y.2.2.2 - x.2.2.2).toNat)) with ⟨h1,h2,h⟩ | ⟨h1,h2,h⟩ | ⟨h1,h2,h⟩
 ·exact .inl ⟨h1,h2,ord_less d hx hy (Int.le_of_lt h)⟩
 ·exact .inr (.inl ⟨h1,h2,FK_pat (rng_top _ _ _ _) (rng_top _ _ _ _) (Int.le_antisymm (ord_less d hx hy (Int.le_of_eq h)) (ord_less d hy hx (Int.le_of_eq h.symm)))⟩)
 ·exact .inr (.inr ⟨h1,h2,ord_less d hy hx (Int.le_of_lt h)⟩)
theorem ordS_self (x:Bool×Nat×Nat×Int):ordS x x=0:=icmp_self _
end Go.Proofs.YtigmpifjcijdbaaGreatDoor
end

section
namespace Go.Proofs.YtigmpifjcijdbaaGreatDoor
set_option linter.unusedVariables false
set_option linter.unusedSimpArgs false
open Go.RowKit Verge
def Tab16 (w:World):Prop:=w.cell? ⟨3,15,none⟩=some (.int .u8 4)
theorem Tab16.below {w w':World} (h:Tab16 w) (hb:Below w.heap.size w w'):Tab16 w':=(bcell hb _ _ (lt_of_cell h)).trans h
end Go.Proofs.YtigmpifjcijdbaaGreatDoor
end

section
namespace Go.Proofs.YtigmpifjcijdbaaGreatDoor
set_option linter.unusedVariables false
set_option linter.unusedSimpArgs false
open Go.RowKit Verge
theorem txt_len:∀n:Nat,(txt n).length≤blen n:=by
 intro n
 induction n using Nat.strongRecOn with
 | _ n ih =>
  rcases Nat.eq_zero_or_pos n with h | h
  ·subst h;exact Nat.le_refl _
  ·rw [txt_step h,List.length_append]
   have h1:=ih (n / 10) (by omega)
   have h2:blen (n / 10)+1≤blen n:=by
    rcases Nat.eq_zero_or_pos (n / 10) with e | e
    ·rw [e,blen_zero];have:=blen_pos (show n≠0 by omega);omega
    ·have h3:=blen_le (show n / 10≠0 by omega)
     have h4:=blen_pos (show n / 10≠0 by omega)
     have h5:¬blen n≤blen (n / 10):=by
      rw [blen_lt]
      have:2^blen (n / 10)=2*2^(blen (n / 10) - 1):=by
       rw [show blen (n / 10)=(blen (n / 10) - 1)+1 by omega,Nat.pow_succ,Nat.add_sub_cancel];omega
      omega
     omega
   simp
   omega
theorem Grow.mono {w:World} {B B':Nat} {v:Value} {xs:List Nat} (h:Grow w B v xs) (hB:B'≤B):Grow w B' v xs:=⟨h.1,h.2.1,h.2.2.imp id fun ⟨g,cap,cur,h1,h2,h3⟩=>⟨g,cap,cur,h1,Nat.le_trans hB h2,h3⟩⟩
theorem Grow.later {w w':World} {B:Nat} {v:Value} {xs:List Nat} (h:Grow w B v xs) (hb:Below w.heap.size w w'):Grow w' B v xs:=
 ⟨h.1,h.2.kept (row:=none) ⟨hb.os,hb.tape,hb.output,hb.size,fun k hk _=>hb.block k hk⟩ (by cases hv:v.ownBlock with | none=>exact .inl rfl | some k=>exact .inr (by simp))⟩
theorem Grow.putN {w:World} {B g n cap:Nat} {xs:List Nat} (h:Grow w B (.slice (some ⟨g,0,none⟩) n cap) xs) (hn:xs.length=n) (j:Nat) {v:Nat} (hv:v<4294967296) :
  Grow (w.setCell ⟨g,j,none⟩ (.int .u32 (v:Int))) B (.slice (some ⟨g,0,none⟩) n cap) (xs.set j v):=by
 subst hn
 refine ⟨h.1.set j hv,?_⟩
 have:=(h.2.stored j (.int .u32 (v:Int))).1
 rw [List.length_set]
 have e:(u32s xs).set j (.int .u32 (v:Int))=u32s (xs.set j v):=by simp [u32s,List.map_set]
 rw [e] at this
 exact this
end Go.Proofs.YtigmpifjcijdbaaGreatDoor
end

section
namespace Go.Proofs.YtigmpifjcijdbaaGreatDoor
set_option linter.unusedVariables false
set_option linter.unusedSimpArgs false
open Go.RowKit Verge
theorem txt_le {q N:Nat} {t:List UInt8} (h:txt q++t=txt N):t.length≤blen N:=by
 have h1:=txt_len N
 rw [←h,List.length_append] at h1
 omega
end Go.Proofs.YtigmpifjcijdbaaGreatDoor
end

section
namespace Go.Proofs
open Go.Shelf
def Tryz.laysM171_ren:Go.Shelf.Ren:=⟨fun | 171=>97 | 243=>125 | 246=>136 | 283=>148 | 284=>149 | 285=>150 | 286=>151 | 129=>160 | 317=>159 | 318=>161 | 319=>162 | 320=>163 | 337=>164 | 338=>165 | n=>n,fun | 3=>3 | 9=>9 | 2=>2 | 4=>4 | 171=>172 | 0=>0 | 53=>39 | 37=>58 | 5=>5 | 173=>175 | 212=>178 | 51=>52 | 20=>20 | 213=>179 | 46=>77 | 232=>181 | 233=>182 | n=>n,fun | 17=>1 | 18=>2 | 19=>3 | n=>n⟩
theorem Tryz.laysM171:Go.Proofs.LaysM.n171 Tryz.prog Tryz.laysM171_ren:={
 mixed:=by kernel_rfl
 f129:=Tryz.func160.trans (congrArg some (by kernel_rfl))
 f171:=Tryz.func97.trans (congrArg some (by kernel_rfl))
 f243:=Tryz.func125.trans (congrArg some (by kernel_rfl))
 f246:=Tryz.func136.trans (congrArg some (by kernel_rfl))
 f283:=Tryz.func148.trans (congrArg some (by kernel_rfl))
 f284:=Tryz.func149.trans (congrArg some (by kernel_rfl))
 f285:=Tryz.func150.trans (congrArg some (by kernel_rfl))
 f286:=Tryz.func151.trans (congrArg some (by kernel_rfl))
 f317:=Tryz.func159.trans (congrArg some (by kernel_rfl))
 f318:=Tryz.func161.trans (congrArg some (by kernel_rfl))
 f319:=Tryz.func162.trans (congrArg some (by kernel_rfl))
 f320:=Tryz.func163.trans (congrArg some (by kernel_rfl))
 f337:=Tryz.func164.trans (congrArg some (by kernel_rfl))
 f338:=Tryz.func165.trans (congrArg some (by kernel_rfl))
 t0:=Tryz.underlying0
 a0:=Tryz.isAgg0
 z0:=Tryz.sizeOf0
 v0:=Tryz.zeroValue0
 t2:=Tryz.underlying2
 a2:=Tryz.isAgg2
 z2:=Tryz.sizeOf2
 v2:=Tryz.zeroValue2
 t3:=Tryz.underlying3
 a3:=Tryz.isAgg3
 z3:=Tryz.sizeOf3
 v3:=Tryz.zeroValue3
 t4:=Tryz.underlying4
 a4:=Tryz.isAgg4
 z4:=Tryz.sizeOf4
 v4:=Tryz.zeroValue4
 t5:=Tryz.underlying5
 a5:=Tryz.isAgg5
 z5:=Tryz.sizeOf5
 v5:=Tryz.zeroValue5
 t9:=Tryz.underlying9
 a9:=Tryz.isAgg9
 z9:=Tryz.sizeOf9
 v9:=Tryz.zeroValue9
 t20:=Tryz.underlying20
 a20:=Tryz.isAgg20
 z20:=Tryz.sizeOf20
 v20:=Tryz.zeroValue20
 t37:=Tryz.underlying58
 a37:=Tryz.isAgg58
 z37:=Tryz.sizeOf58
 v37:=Tryz.zeroValue58
 t46:=Tryz.underlying77
 a46:=Tryz.isAgg77
 z46:=Tryz.sizeOf77
 v46:=Tryz.zeroValue77
 t51:=Tryz.underlying52
 a51:=Tryz.isAgg52
 z51:=Tryz.sizeOf52
 v51:=Tryz.zeroValue52
 t53:=Tryz.underlying39
 a53:=Tryz.isAgg39
 z53:=Tryz.sizeOf39
 v53:=Tryz.zeroValue39
 t171:=Tryz.underlying172
 a171:=Tryz.isAgg172
 z171:=Tryz.sizeOf172
 v171:=Tryz.zeroValue172
 t173:=Tryz.underlying175
 a173:=Tryz.isAgg175
 z173:=Tryz.sizeOf175
 v173:=Tryz.zeroValue175
 t212:=Tryz.underlying178
 a212:=Tryz.isAgg178
 z212:=Tryz.sizeOf178
 v212:=Tryz.zeroValue178
 t213:=Tryz.underlying179
 a213:=Tryz.isAgg179
 z213:=Tryz.sizeOf179
 t232:=Tryz.underlying181
 a232:=Tryz.isAgg181
 z232:=Tryz.sizeOf181
 v232:=Tryz.zeroValue181
 t233:=Tryz.underlying182
 a233:=Tryz.isAgg182
 z233:=Tryz.sizeOf182
 v233:=Tryz.zeroValue182
 g17:=by kernel_rfl
 g18:=by kernel_rfl
 g19:=by kernel_rfl
 i0:=by kernel_rfl
 i2:=by kernel_rfl
 i3:=by kernel_rfl
 i4:=by kernel_rfl
 i5:=by kernel_rfl
 i9:=by kernel_rfl
 i20:=by kernel_rfl
 i37:=by kernel_rfl
 i46:=by kernel_rfl
 i51:=by kernel_rfl
 i53:=by kernel_rfl
 i171:=by kernel_rfl
 i173:=by kernel_rfl
 i212:=by kernel_rfl
 i232:=by kernel_rfl
 i233:=by kernel_rfl
 m17:=by kernel_rfl
 m18:=by kernel_rfl
 m19:=by kernel_rfl }
open Go.RowKit Go.Sort Go.Lib in
theorem Tryz.strconv_Itoa (n:Int) (h0 : -9223372036854775808≤n) (h1:n≤9223372036854775807) (w:World) (htab:Lib.TabIs Tryz.prog w "internal/strconv.uint64pow10" .u64 Lib.pow10Tab) :
  Calls Tryz.prog 97 #[.int .i64 n] w fun e w'=>e=.returned (.string ⟨(Lib.itoa n).toArray⟩)∧∃k os,w'=grow (w.drewN k) os:=Any.strconv_Itoa Tryz.laysM171 n h0 h1 w htab
end Go.Proofs
end

section
namespace Go.Proofs.YtigmpifjcijdbaaGreatDoor
set_option linter.unusedVariables false
set_option linter.unusedSimpArgs false
open Go.RowKit Verge
def fwrong (b:Nat):Bool:=decide (9218868437227405312≤fabs b)
theorem wrong_any (b:Nat) (hb:b<18446744073709551616) (w:World):Calls Tryz.prog 66 #[.float .f64 b] w fun e w'=>e=.returned (.bool (fwrong b))∧w=w':=by
 have H1:=Lib.hid (fun W=>isnan_any b hb W)
 have H2:=Lib.hid (fun W=>isinf_0 b hb W)
 have he:fwrong b=(decide (fnan b)||decide (fabs b=9218868437227405312)):=by
  unfold fwrong
  rw [Bool.eq_iff_iff]
  simp only [Bool.or_eq_true,decide_eq_true_eq]
  unfold fnan fabs
  omega
 rw [he]
 cases e1:decide (fnan b)
 ·rw [e1] at H1
  obtain ⟨r,hr⟩:∃r,decide (fabs b=9218868437227405312)=r:=⟨_,rfl⟩
  rw [hr] at H2 ⊢
  clear e1 hr he hb
  go_enter Tryz.func66,Tryz.ntmps66
  go_wp2_with fail
  refine (H1.out _).mono ?_
  rintro e w1 ⟨rfl,rfl⟩
  go_wp2_with fail
  refine (H2.out _).mono ?_
  rintro e w1 ⟨rfl,rfl⟩
  go_wp2
  go_ret
  exact ⟨by simp,rfl⟩
 ·rw [e1] at H1
  clear e1 he hb H2
  go_enter Tryz.func66,Tryz.ntmps66
  go_wp2_with fail
  refine (H1.out _).mono ?_
  rintro e w1 ⟨rfl,rfl⟩
  go_wp2
  go_ret
  exact ⟨by simp,rfl⟩
theorem or52 (x:Nat) (hx:x<4503599627370496):x ||| 4503599627370496=x+4503599627370496:=by
 have:=Nat.two_pow_add_eq_or_of_lt (i:=52) (b:=x) hx 1
 rw [Nat.mul_one,show (2:Nat)^52=4503599627370496 by decide] at this
 rw [Nat.or_comm,←this];omega
set_option maxHeartbeats 1000000 in
theorem part_any (b:Nat) (hb:b<18446744073709551616) (w:World):Calls Tryz.prog 98 #[.float .f64 b] w fun e w'=>e=.returned (.tuple #[.int .u64 (fbF b:Nat),.int .i64 ((fbE b:Int) - 1074)])∧w=w':=by
 have h1:=bits_any b
 have e1:Go.bits .and .u64 ((b / 4503599627370496:Nat):Int) 2047=((b%9223372036854775808 / 4503599627370496:Nat):Int):=by
  have:=Go.u64_and_nat (b / 4503599627370496) 2047 (by omega) (by omega)
  rw [show (2047:Nat)=2^11 - 1 from rfl,Nat.and_two_pow_sub_one_eq_mod] at this
  have h2:b / 4503599627370496%2^11=b%9223372036854775808 / 4503599627370496:=by omega
  rw [h2] at this
  exact this
 have e2:Go.bits .and .u64 (b:Int) 4503599627370495=((b%4503599627370496:Nat):Int):=by
  have:=Go.u64_and_nat b 4503599627370495 hb (by omega)
  rw [show (4503599627370495:Nat)=2^52 - 1 from rfl,Nat.and_two_pow_sub_one_eq_mod] at this
  exact this
 have e1:Go.bits .and .u64 ((b:Int) / 4503599627370496) 2047=((b%9223372036854775808 / 4503599627370496:Nat):Int):=by
  rw [←e1];congr 1
 have hqf:∃Q F:Nat,b%9223372036854775808 / 4503599627370496=Q∧b%4503599627370496=F∧Q≤2047∧F<4503599627370496∧fbF b=(if Q=0 then F else F+4503599627370496)∧fbE b=Q - 1:=by
  refine ⟨_,_,rfl,rfl,by omega,by omega,?_,rfl⟩
  unfold fbF
  by_cases hl:b%9223372036854775808<4503599627370496
  ·rw [if_pos hl,if_pos (Nat.div_eq_of_lt hl)]
  ·rw [if_neg hl,if_neg (by omega)];omega
 obtain ⟨Q,F,hQ,hF,hQb,hFb,hfe,hee⟩:=hqf
 rw [hQ] at e1
 rw [hF] at e2
 rw [hfe,hee]
 have e3:Go.bits .or .u64 (F:Int) 4503599627370496=((F+4503599627370496:Nat):Int):=by
  have:=Go.u64_or_nat F 4503599627370496 (by omega) (by omega)
  rw [or52 F hFb] at this
  exact this
 have hbI:(0:Int)≤b:=by omega
 clear hQ hF hfe hee
 by_cases hq:Q=0
 ·subst hq
  rw [if_pos rfl]
  clear e3
  go_enter Tryz.func98,Tryz.ntmps98
  go_wp2
  go_ret2
  exact ⟨rfl,rfl⟩
 ·rw [if_neg hq]
  have hq1:(0:Int)<Q:=by omega
  have hs:((Q - 1:Nat):Int)=(Q:Int) - 1:=by omega
  rw [hs]
  clear hs hq
  go_enter Tryz.func98,Tryz.ntmps98
  go_wp2
  go_ret2
  exact ⟨rfl,rfl⟩
end Go.Proofs.YtigmpifjcijdbaaGreatDoor
end

section
namespace Go.Proofs.YtigmpifjcijdbaaGreatDoor
set_option linter.unusedVariables false
set_option linter.unusedSimpArgs false
open Go.RowKit Verge
theorem txt_pos {n:Nat} (h:0<n):txt n=Lib.decDigits n:=by unfold txt;rw [if_neg (by omega)]
theorem itoa_pos {n:Nat} (h:0<n):Lib.itoa (n:Int)=txt n:=by unfold Lib.itoa;rw [if_neg (by omega),txt_pos h];rfl
theorem itoa_neg (n:Nat):Lib.itoa (-((n:Int)+1))=45::txt (n+1):=by
 unfold Lib.itoa
 rw [if_pos (by omega),txt_pos (by omega),show (-((n:Int)+1)).natAbs=n+1 by omega]
theorem itoa_zero:Lib.itoa 0=[48]:=by
 unfold Lib.itoa
 rw [if_neg (by omega)]
 show Lib.decDigits 0=[48]
 rw [Lib.decDigits,dif_pos (by omega)]
 rfl
end Go.Proofs.YtigmpifjcijdbaaGreatDoor
namespace Go.Proofs.YtigmpifjcijdbaaGreatDoor
set_option linter.unusedVariables false
set_option linter.unusedSimpArgs false
open Go.RowKit Verge
theorem below_growS (w:World) (k:Nat) (os:Array Obj):Below w.heap.size w (Go.Sort.grow (w.drewN k) os):=
 ⟨rfl,rfl,rfl,by simp [Go.Sort.grow],fun i hi=>by simp [Go.Sort.grow,Array.getElem?_append,hi]⟩
def Pow10 (w:World):Prop:=Lib.TabIs Tryz.prog w "internal/strconv.uint64pow10" .u64 Lib.pow10Tab
theorem Pow10.below {w w':World} (h:Pow10 w) (hb:Below w.heap.size w w'):Pow10 w':=by
 unfold Pow10 Lib.TabIs World.var? at *
 cases hg:Tryz.prog.globalNamed "internal/strconv.uint64pow10" with
 | none=>simp [hg] at h
 | some g =>
  simp only [hg,Option.bind_some] at h ⊢
  have hl:g<w.heap.size:=by
   by_cases hr:g<w.heap.size
   ·exact hr
   ·rw [Array.getElem?_eq_none (by omega)] at h;cases h
  rw [hb.block g hl]
  exact h
theorem itoa5 (n:Int) (h0 : -9223372036854775808≤n) (h1:n≤9223372036854775807) (w:World) (h:Pow10 w):Calls Tryz.prog 97 #[.int .i64 n] w fun e w'=>e=.returned (.string (bs (Lib.itoa n)))∧Below w.heap.size w w':=by
 refine (Go.Proofs.Tryz.strconv_Itoa n h0 h1 w h).mono ?_
 rintro e w' ⟨rfl,k,os,rfl⟩
 exact ⟨rfl,below_growS w k os⟩
theorem fnan_w {b:Nat} (h:fwrong b=false):¬fnan b:=by
 have:=of_decide_eq_false h
 unfold fnan;unfold fabs at this;omega
theorem itoa_len (n:Int) (h0 : -9223372036854775808≤n) (h1:n≤9223372036854775807):(Lib.itoa n).length≤65:=by
 rcases Int.lt_trichotomy n 0 with h | h | h
 ·obtain ⟨m,hm⟩:=Int.eq_ofNat_of_zero_le (show 0 ≤ -(n+1) by omega)
  obtain rfl:n = -((m:Int)+1):=by omega
  rw [itoa_neg,List.length_cons]
  have:=txt_len (m+1)
  have:blen (m+1)≤64:=(blen_lt _ _).2 (by omega)
  omega
 ·subst h;rw [itoa_zero];simp
 ·obtain ⟨m,rfl⟩:=Int.eq_ofNat_of_zero_le (show 0≤n by omega)
  rw [itoa_pos (by omega)]
  have:=txt_len m
  have:blen m≤64:=(blen_lt _ _).2 (by omega)
  omega
end Go.Proofs.YtigmpifjcijdbaaGreatDoor
end
