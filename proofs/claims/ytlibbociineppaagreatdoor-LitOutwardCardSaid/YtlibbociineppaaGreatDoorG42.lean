/- Layer 12, plain: a number that is printed in so many digits and read again. -/
import Derived.Test.YtlibbociineppaaGreatDoorG39
import Derived.Test.YtlibbociineppaaGreatDoorG35
namespace Go.Proofs.YtlibbociineppaaGreatDoor
set_option linter.unusedVariables false
set_option linter.unusedSimpArgs false
open Go.RowKit Verge
theorem prQ_twoO (d:Int) (s:Bool) (N D:Nat) (K:Int):prQ d s N D K=qat N D K∨prQ d s N D K=qat N D K+1:=by unfold prQ;split <;> simp
theorem prT_scnO {d:Int} {s:Bool} {N D:Nat} {K:Int} {n:Nat} (h:dcnt (qat N D K)=n) (h1:1≤n) (h2:n≤1100) (k1 : -1600≤K) (k2:K≤1000) :
  ∃P Q,scn (prT d s N D K n)=.ok (s,P,Q,0)∧0<Q∧P*10^(-K).toNat=prQ d s N D K*10^K.toNat*Q:=by
 obtain ⟨l1,l2,_,l4⟩:=prQ_len (d:=d) (s:=s) h h1
 have htw:=prQ_twoO d s N D K
 have hsp:=dcnt_spec (qat N D K)
 rw [h] at hsp
 unfold prT
 generalize prQ d s N D K=q at *
 rcases Nat.lt_or_ge n (txt q).length with hl | hl
 ·have hlen:(txt q).length=n+1:=by omega
  have hq:q=10^n:=by
   have:¬dcnt q≤n:=by show ¬(txt q).length≤n;omega
   rw [dcnt_le] at this
   rcases htw with e | e
   ·rw [e] at this;omega
   ·omega
  have hq10:q%10=0:=by
   obtain ⟨m,rfl⟩:∃m,n=m+1:=⟨n - 1,by omega⟩
   rw [hq,Nat.pow_succ];omega
  have hst:=txt_step l4
  have hlen2:(txt (q / 10)).length=n:=by
   have:=congrArg List.length hst
   rw [List.length_append,hlen] at this
   simpa using this.symm
  have ht:(txt q).take n=txt (q / 10):=by rw [hst,←hlen2,List.take_left]
  rw [if_pos hl,ht]
  refine ⟨q / 10*10^(K+1).toNat,10^(-(K+1)).toNat,?_,Nat.pow_pos (by omega),?_⟩
  ·rw [scn_ftext s _ (txt_dig _) (by omega) (by omega) (K+1) (by omega) (by omega),txt_num]
  ·have e:q=q / 10*10:=by omega
   rw [Nat.mul_assoc,←Nat.pow_add]
   have e2:(K+1).toNat+(-K).toNat=K.toNat+(-(K+1)).toNat+1:=by omega
   rw [e2,Nat.pow_succ,Nat.pow_add]
   generalize 10^K.toNat=X
   generalize 10^(-(K+1)).toNat=Y
   calc q / 10*(X*Y*10)=q / 10*10*X*Y:=by ac_rfl
    _=_:=by rw [←e]
 ·have ht:(txt q).take n=txt q:=List.take_of_length_le hl
  rw [if_neg (by omega),ht]
  refine ⟨q*10^K.toNat,10^(-K).toNat,?_,Nat.pow_pos (by omega),rfl⟩
  rw [scn_ftext s _ (txt_dig _) (by omega) (by omega) K (by omega) (by omega),txt_num]
theorem prQ_dirO {d:Int} (hd:d=1∨d = -1) (s:Bool) (N D:Nat) (K:Int):prQ d s N D K=if N*10^(-K).toNat%(D*10^K.toNat)≠0∧decide (d = -1)=s then qat N D K+1 else qat N D K:=by
 unfold prQ upB
 rw [if_pos hd]
 generalize N*10^(-K).toNat%(D*10^K.toNat)=m
 by_cases h:m≠0∧decide (d = -1)=s
 ·rw [if_pos h,if_pos (decide_eq_true ⟨by omega,h.2⟩)]
 ·rw [if_neg h,if_neg (by rw [decide_eq_true_eq];exact fun g=>h ⟨by omega,g.2⟩)]
theorem FV_fbO (b:Nat):FV (b%9223372036854775808)=fbF b*2^fbE b:=by
 unfold FV fbF fbE
 by_cases h:b%9223372036854775808<4503599627370496
 ·rw [if_pos h,if_pos h,Nat.div_eq_of_lt h];simp;omega
 ·rw [if_neg h,if_neg h]
  have:b%9223372036854775808%4503599627370496=b%4503599627370496:=by omega
  rw [this]
theorem rng_backO (d:Int) (s:Bool) {r:Nat} (hr:r≤9218868437227405311):rng d s (FV r) 1=r:=by
 have h1:fl (FV r / 1)=r:=by rw [Nat.div_one,fl_FV]
 have h2:FV r<FV (r+1):=FV_lt (by omega)
 have hA:rngA (FV r) 1=r:=by unfold rngA;rw [h1,if_pos (by omega)]
 have hN:rngN (FV r) 1=r:=by unfold rngN;rw [h1,if_pos (by omega)]
 unfold rng
 rw [hA,hN,h1]
 repeat' split
 all_goals omega
def fN (b:Nat):Nat:=fbF b*2^((fbE b:Int) - 1074).toNat
def fD (b:Nat):Nat:=2^(-((fbE b:Int) - 1074)).toNat
def sgb (b:Nat):Bool:=decide (9223372036854775808≤b)
def Kd (b n:Nat):Int:=-336+((dcnt (qat (fN b) (fD b) (-336)):Nat):Int) - (n:Int)
def ptT (d:Int) (b n:Nat):List UInt8:=if fbF b=0 then ftext false (List.replicate n 48) (1 - (n:Int)) else prT d (sgb b) (fN b) (fD b) (Kd b n) n
theorem kd_ok {b n:Nat} (hF:fbF b≠0) (hw:fwrong b=false) (h1:1≤n):dcnt (qat (fN b) (fD b) (Kd b n))=n ∧ -335 - (n:Int)≤Kd b n∧Kd b n≤336 - (n:Int)∧0<fD b∧0<fN b:=by
 obtain ⟨t1,t2,hD0,hN0⟩:=fin_tens hF hw (N:=fN b) (D:=fD b) rfl rfl
 have hm:=qat_low hD0 t1
 have hm2:dcnt (qat (fN b) (fD b) (-336))≤672:=by
  rw [qat_le hD0];exact t2
 refine ⟨qat_turn hD0 hm h1 rfl,?_,?_,hD0,hN0⟩
 ·unfold Kd;omega
 ·unfold Kd;omega
theorem ftext_len (neg:Bool) (d:List UInt8) (k:Int) (h1:d.length≤1102) (k1 : -9999≤(d.length:Int) - 1+k) (k2:(d.length:Int) - 1+k≤9999):(ftext neg d k).length≤1200:=by
 have hi:=itoa_len ((d.length:Int) - 1+k) (by omega) (by omega)
 unfold ftext
 have a1:(if neg=true then [45] else []:List UInt8).length≤1:=by split <;> simp
 have a2:(d.take 1++(if 1<d.length then 46::d.drop 1 else []):List UInt8).length≤d.length+1:=by
  rw [List.length_append,List.length_take]
  split
  ·rw [List.length_cons,List.length_drop];omega
  ·rw [List.length_nil];omega
 have a3:(101::Lib.itoa ((d.length:Int) - 1+k):List UInt8).length=(Lib.itoa ((d.length:Int) - 1+k)).length+1:=List.length_cons
 rw [List.length_append,List.length_append,a3]
 generalize (if neg=true then [45] else []:List UInt8)=A at *
 generalize (d.take 1++(if 1<d.length then 46::d.drop 1 else []):List UInt8)=B at *
 omega
theorem ptT_len {d:Int} {b n:Nat} (hw:fwrong b=false) (h1:1≤n) (h2:n≤1100):(ptT d b n).length≤1200:=by
 unfold ptT
 by_cases h0:fbF b=0
 ·rw [if_pos h0]
  exact ftext_len _ _ _ (by simp;omega) (by simp;omega) (by simp;omega)
 ·rw [if_neg h0]
  obtain ⟨k0,k1,k2,k3,k4⟩:=kd_ok h0 hw h1
  obtain ⟨l1,l2,_⟩:=prQ_len (d:=d) (s:=sgb b) k0 h1
  unfold prT
  have hkk : -1600≤(if n<(txt (prQ d (sgb b) (fN b) (fD b) (Kd b n))).length then Kd b n+1 else Kd b n)∧(if n<(txt (prQ d (sgb b) (fN b) (fD b) (Kd b n))).length then Kd b n+1 else Kd b n)≤1600:=by split <;> omega
  generalize (if n<(txt (prQ d (sgb b) (fN b) (fD b) (Kd b n))).length then Kd b n+1 else Kd b n)=kk at *
  exact ftext_len _ _ _ (by rw [List.length_take];omega) (by rw [List.length_take];omega) (by rw [List.length_take];omega)
theorem pt_PrP (d:Int) (b n:Nat) (hb:b<18446744073709551616) (h1:1≤n) (h2:n≤1100) (hw:fwrong b=false):PrP d b n (ptT d b n) 0:=by
 unfold ptT
 by_cases h0:fbF b=0
 ·rw [if_pos h0]
  exact fun W hW=>print_zero d b n hb h1 h2 (fbF_zero' hb h0) W hW
 ·rw [if_neg h0]
  obtain ⟨k0,k1,k2,k3,k4⟩:=kd_ok h0 hw h1
  intro W hW
  refine (print_num d b n hb h1 h2 hw h0 (fN b) (fD b) rfl rfl W hW).mono ?_
  rintro e w1 ⟨L,l1,l2,hL,rfl,hb1⟩
  obtain rfl:L=Kd b n:=qat_one k3 h1 hL k0
  exact ⟨rfl,hb1⟩
theorem unitsO (b:Nat):fN b*2^KU=FV (b%9223372036854775808)*fD b:=by
 obtain ⟨z,hz⟩:∃z,KU=z:=⟨_,rfl⟩
 have hz2:z=1074:=by rw [←hz];rfl
 rw [FV_fbO,hz]
 unfold fN fD
 rw [Nat.mul_assoc,←Nat.pow_add,Nat.mul_assoc,←Nat.pow_add,show ((fbE b:Int) - 1074).toNat+z=fbE b+(-((fbE b:Int) - 1074)).toNat by omega]
def prA (aw:Bool) (N D:Nat) (K:Int):Nat:=qat N D K+if N*10^(-K).toNat%(D*10^K.toNat)≠0∧aw=true then 1 else 0
theorem prQ_A {d:Int} (hd:d=1∨d = -1) (s:Bool) (N D:Nat) (K:Int):prQ d s N D K=prA (decide (d = -1)==s) N D K:=by
 rw [prQ_dirO hd]
 unfold prA
 by_cases h:N*10^(-K).toNat%(D*10^K.toNat)≠0∧decide (d = -1)=s
 ·rw [if_pos h,if_pos ⟨h.1,beq_iff_eq.2 h.2⟩]
 ·rw [if_neg h,if_neg (fun g=>h ⟨g.1,beq_iff_eq.1 g.2⟩)];rfl
theorem prA_in {N D:Nat} (hD:0<D) (K:Int):prA false N D K*(D*10^K.toNat)≤N*10^(-K).toNat∧N*10^(-K).toNat≤prA true N D K*(D*10^K.toNat):=by
 unfold prA qat
 have hY:0<D*10^K.toNat:=Nat.mul_pos hD (Nat.pow_pos (by omega))
 generalize N*10^(-K).toNat=X
 generalize D*10^K.toNat=Y at *
 have hd:=Nat.div_add_mod X Y
 have hm:=Nat.mod_lt X hY
 generalize X%Y=m at *
 have e:X / Y*Y=Y*(X / Y):=Nat.mul_comm _ _
 constructor
 ·rw [if_neg (by simp),Nat.add_zero,e];omega
 ·by_cases h:m≠0
  ·rw [if_pos ⟨h,rfl⟩,Nat.succ_mul,e];omega
  ·rw [if_neg (fun g=>h g.1),Nat.add_zero,e];omega
theorem grid_step {X Y X' Y':Nat} (hY:0<Y) (hY':0<Y') (h:X'*Y=10*X*Y') :
  10*(X / Y)≤X' / Y'∧(X' / Y'+(if X'%Y'≠0 then 1 else 0)≤10*(X / Y+(if X%Y≠0 then 1 else 0))):=by
 have hd:=Nat.div_add_mod X Y
 have hm:=Nat.mod_lt X hY
 generalize X / Y=q at *
 generalize X%Y=m at *
 constructor
 ·rw [Nat.le_div_iff_mul_le hY']
  refine Nat.le_of_mul_le_mul_right ?_ hY
  rw [h,←hd]
  calc 10*q*Y'*Y=10*(Y*q)*Y':=by ac_rfl
   _≤_:=Nat.mul_le_mul_right _ (by omega)
 ·by_cases h0:m=0
  ·have hx:X'=10*q*Y':=by
    refine Nat.eq_of_mul_eq_mul_right hY ?_
    rw [h,←hd,h0,Nat.add_zero];ac_rfl
   rw [hx,Nat.mul_div_cancel _ hY',Nat.mul_mod_left,if_neg (by simp),if_neg (by omega)]
   omega
  ·rw [if_pos h0]
   have:X' / Y'<10*(q+1):=by
    rw [Nat.div_lt_iff_lt_mul hY']
    refine Nat.lt_of_mul_lt_mul_right (a:=Y) ?_
    rw [h,←hd]
    calc 10*(Y*q+m)*Y'<10*(Y*q+Y)*Y':=Nat.mul_lt_mul_of_pos_right (by omega) hY'
     _=10*(q+1)*Y'*Y:=by rw [←Nat.mul_succ];show 10*(Y*(q+1))*Y'=_;ac_rfl
   split <;> omega
theorem ten_step (K:Int):10^(-(K - 1)).toNat*10^K.toNat=10*10^(-K).toNat*10^(K - 1).toNat:=by
 rcases Int.lt_or_le 0 K with h | h
 ·rw [show (-(K - 1)).toNat=0 by omega,show (-K).toNat=0 by omega,show K.toNat=(K - 1).toNat+1 by omega,Nat.pow_succ];simp [Nat.mul_comm]
 ·rw [show (-(K - 1)).toNat=(-K).toNat+1 by omega,show K.toNat=0 by omega,show (K - 1).toNat=0 by omega,Nat.pow_succ];simp [Nat.mul_comm]
theorem prA_step {N D:Nat} (hD:0<D) (K:Int):10*prA false N D K≤prA false N D (K - 1)∧prA true N D (K - 1)≤10*prA true N D K:=by
 have hY:0<D*10^K.toNat:=Nat.mul_pos hD (Nat.pow_pos (by omega))
 have hY':0<D*10^(K - 1).toNat:=Nat.mul_pos hD (Nat.pow_pos (by omega))
 have hts:=ten_step K
 have h:N*10^(-(K - 1)).toNat*(D*10^K.toNat)=10*(N*10^(-K).toNat)*(D*10^(K - 1).toNat):=by
  calc N*10^(-(K - 1)).toNat*(D*10^K.toNat)=N*D*(10^(-(K - 1)).toNat*10^K.toNat):=by ac_rfl
   _=N*D*(10*10^(-K).toNat*10^(K - 1).toNat):=by rw [hts]
   _=_:=by ac_rfl
 obtain ⟨g1,g2⟩:=grid_step hY hY' h
 unfold prA qat
 constructor
 ·simpa using g1
 ·simpa using g2
theorem tens_big:2^53*5^1074<10^799:=by decide +kernel
theorem tens_big' (z x y:Nat) (hz:z=1074) (hx:x=53) (hy:y=799):2^x*5^z<10^y:=by rw [hz,hx,hy];exact tens_big
theorem prA_all {b:Nat} (hF:fbF b≠0) (hw:fwrong b=false) (aw:Bool):prA aw (fN b) (fD b) (Kd b 800)*(fD b*10^(Kd b 800).toNat)=fN b*10^(-(Kd b 800)).toNat:=by
 obtain ⟨k0,k1,k2,k3,k4⟩:=kd_ok hF hw (n:=800) (by omega)
 have hsp:=dcnt_spec (qat (fN b) (fD b) (Kd b 800))
 rw [k0] at hsp
 have hq:0<qat (fN b) (fD b) (Kd b 800):=by
  rcases Nat.eq_zero_or_pos (qat (fN b) (fD b) (Kd b 800)) with e | e
  ·rw [e,dcnt_zero] at k0;omega
  ·exact e
 have hge:=(hsp.2 hq).2
 clear hsp hq
 have hK:(Kd b 800).toNat=0:=by omega
 have hFl:=fbF_blen b
 have hF53:fbF b<2^53:=(blen_lt (fbF b) 53).1 hFl
 have hdvd:fD b∣fN b*10^(-(Kd b 800)).toNat:=by
  obtain ⟨k,hk⟩:∃k,(-(Kd b 800)).toNat=k:=⟨_,rfl⟩
  unfold qat at hge
  rw [hK,hk,Nat.pow_zero,Nat.mul_one,Nat.le_div_iff_mul_le k3] at hge
  rw [hk]
  by_cases hE:1074≤fbE b
  ·have:fD b=1:=by unfold fD;rw [show (-((fbE b:Int) - 1074)).toNat=0 by omega]
   rw [this];exact Nat.one_dvd _
  ·obtain ⟨y,hy⟩:∃y,(-((fbE b:Int) - 1074)).toNat=y:=⟨_,rfl⟩
   have hy2:y≤1074:=by omega
   have eN:fN b=fbF b:=by unfold fN;rw [show ((fbE b:Int) - 1074).toNat=0 by omega,Nat.pow_zero,Nat.mul_one]
   have eD:fD b=2^y:=by unfold fD;rw [hy]
   rw [eN,eD] at hge ⊢
   have hyk:y≤k:=by
    obtain ⟨z,hz⟩:∃z,z=1074:=⟨_,rfl⟩
    obtain ⟨u,hu⟩:∃u,u=53:=⟨_,rfl⟩
    obtain ⟨v,hv⟩:∃v,v=800 - 1:=⟨_,rfl⟩
    rw [←hv] at hge
    rw [←hu] at hF53
    refine Classical.byContradiction fun hc => ?_
    have c1:10^k≤5^y*2^y:=by
     rw [←Nat.mul_pow]
     exact Nat.pow_le_pow_right (by omega) (by omega)
    have c2:5^y≤5^z:=Nat.pow_le_pow_right (by omega) (by omega)
    have c3:10^v*2^y≤2^u*5^z*2^y:=by
     refine Nat.le_trans hge ?_
     refine Nat.le_trans (Nat.mul_le_mul (Nat.le_of_lt hF53) c1) ?_
     rw [←Nat.mul_assoc]
     exact Nat.mul_le_mul_right _ (Nat.mul_le_mul_left _ c2)
    have c4:=Nat.le_of_mul_le_mul_right c3 (Nat.two_pow_pos y)
    exact absurd (tens_big' z u v hz hu hv) (Nat.not_lt.2 c4)
   have e10:(10:Nat)^k=2^y*(2^(k - y)*5^k):=by
    rw [←Nat.mul_assoc,←Nat.pow_add,show y+(k - y)=k by omega,←Nat.mul_pow]
   rw [e10]
   exact ⟨fbF b*(2^(k - y)*5^k),by ac_rfl⟩
 have hmod:=Nat.mod_eq_zero_of_dvd hdvd
 unfold prA qat
 rw [hK,Nat.pow_zero,Nat.mul_one,hmod,if_neg (fun g=>g.1 rfl),Nat.add_zero]
 exact Nat.div_mul_cancel hdvd
theorem pt_num {d:Int} (hd:d=1∨d = -1) {b n:Nat} (hF:fbF b≠0) (hw:fwrong b=false) (h1:1≤n) (h2:n≤1100) :
  ∃P Q,scn (ptT d b n)=.ok (sgb b,P,Q,0)∧0<Q∧P*10^(-(Kd b n)).toNat=prA (decide (d = -1)==sgb b) (fN b) (fD b) (Kd b n)*10^(Kd b n).toNat*Q:=by
 obtain ⟨k0,k1,k2,k3,k4⟩:=kd_ok hF hw h1
 obtain ⟨P,Q,a1,a2,a3⟩:=prT_scnO (d:=d) (s:=sgb b) k0 h1 h2 (by omega) (by omega)
 rw [prQ_A hd] at a3
 refine ⟨P,Q,?_,a2,a3⟩
 unfold ptT
 rw [if_neg hF]
 exact a1
theorem pt_zero {d:Int} {b n:Nat} (hF:fbF b=0) (h1:1≤n) (h2:n≤1100):∃Q,scn (ptT d b n)=.ok (false,0,Q,0)∧0<Q:=by
 have hn:numB 10 (List.replicate n 48)=0:=by
  clear h1 h2
  induction n with
  | zero=>rfl
  | succ m ih=>rw [List.replicate_succ',numB_push,ih];rfl
 have hs:=scn_ftext false (List.replicate n 48) (fun z hz=>by rw [List.eq_of_mem_replicate hz];decide) (by simpa using h1) (by simp;omega) (1 - (n:Int)) (by simp;omega) (by simp;omega)
 rw [hn,Nat.zero_mul] at hs
 refine ⟨_,?_,Nat.pow_pos (n:=(-(1 - (n:Int))).toNat) (show 0<10 by omega)⟩
 unfold ptT
 rw [if_pos hF]
 exact hs
def xle (x y:Bool×Nat×Nat×Int):Prop:=sv x.1 x.2.1*(y.2.2.1:Int)≤sv y.1 y.2.1*(x.2.2.1:Int)
theorem sv_of {s:Bool} {a b c e:Nat} (h1:s=false→a*c≤b*e) (h2:s=true→b*e≤a*c):sv s a*(c:Int)≤sv s b*(e:Int):=by
 rw [←sv_mul,←sv_mul]
 generalize a*c=X at *
 generalize b*e=Y at *
 unfold sv
 cases s
 ·have:=h1 rfl;simp;omega
 ·have:=h2 rfl;simp;omega
def xb (b:Nat):Bool×Nat×Nat×Int:=(sgb b,FV (b%9223372036854775808),2^KU,0)
theorem pt_law {d:Int} (hd:d=1∨d = -1) {b n:Nat} (hw:fwrong b=false) (h1:1≤n) (h2:n≤1001) :
  ∃x y z,scn (ptT d b n)=.ok x∧scn (ptT d b (n+1))=.ok y∧scn (ptT d b 800)=.ok z∧0<x.2.2.1∧0<y.2.2.1∧0<z.2.2.1∧x.2.2.2=0∧y.2.2.2=0∧z.2.2.2=0 ∧
   (d = -1→xle x y∧xle y (xb b))∧(d=1→xle y x∧xle (xb b) y)∧xle z (xb b)∧xle (xb b) z:=by
 by_cases hF:fbF b=0
 ·obtain ⟨Q1,e1,q1⟩:=pt_zero (d:=d) hF h1 (by omega)
  obtain ⟨Q2,e2,q2⟩:=pt_zero (d:=d) hF (n:=n+1) (by omega) (by omega)
  obtain ⟨Q3,e3,q3⟩:=pt_zero (d:=d) hF (n:=800) (by omega) (by omega)
  have hV:FV (b%9223372036854775808)=0:=by rw [FV_fbO,hF,Nat.zero_mul]
  have s0:∀s,sv s 0=0:=by intro s;cases s <;> rfl
  refine ⟨_,_,_,e1,e2,e3,q1,q2,q3,rfl,rfl,rfl,fun _=>⟨?_,?_⟩,fun _=>⟨?_,?_⟩,?_,?_⟩ <;> simp [xle,xb,hV,s0]
 ·obtain ⟨k0,k1,k2,k3,k4⟩:=kd_ok hF hw h1
  obtain ⟨P1,Q1,e1,q1,a1⟩:=pt_num hd hF hw h1 (by omega)
  obtain ⟨P2,Q2,e2,q2,a2⟩:=pt_num hd hF hw (n:=n+1) (by omega) (by omega)
  obtain ⟨P3,Q3,e3,q3,a3⟩:=pt_num hd hF hw (n:=800) (by omega) (by omega)
  have hK:Kd b (n+1)=Kd b n - 1:=by unfold Kd;omega
  rw [hK] at a2
  have hU:=unitsO b
  have hst:=prA_step (N:=fN b) k3 (Kd b n)
  have hin:=prA_in (N:=fN b) k3 (Kd b n - 1)
  have hts:=ten_step (Kd b n)
  have hall:=prA_all hF hw (decide (d = -1)==sgb b)
  have t1:0<10^(-(Kd b n)).toNat:=Nat.pow_pos (by omega)
  have t2:0<10^(-(Kd b n - 1)).toNat:=Nat.pow_pos (by omega)
  have t3:0<10^(-(Kd b 800)).toNat:=Nat.pow_pos (by omega)
  have hs:d=1∧(decide (d = -1)==sgb b) = !sgb b∨d = -1∧(decide (d = -1)==sgb b)=sgb b:=by
   rcases hd with rfl | rfl
   ·left;refine ⟨rfl,?_⟩;cases sgb b <;> rfl
   ·right;refine ⟨rfl,?_⟩;cases sgb b <;> rfl
  obtain ⟨aw,haw⟩:∃aw,(decide (d = -1)==sgb b)=aw:=⟨_,rfl⟩
  rw [haw] at a1 a2 a3 hall hs
  unfold xb
  generalize 2^KU=W at *
  generalize FV (b%9223372036854775808)=F at *
  generalize fN b=N at *
  generalize fD b=D at *
  generalize Kd b n=K at *
  generalize Kd b 800=L at *
  have m2:∀x y:Nat,P2*W*(10^(-(K - 1)).toNat*D)=prA aw N D (K - 1)*(D*10^(K - 1).toNat)*(Q2*W)∧F*Q2*(10^(-(K - 1)).toNat*D)=N*10^(-(K - 1)).toNat*(Q2*W):=by
   intro _ _
   constructor
   ·calc P2*W*(10^(-(K - 1)).toNat*D)=P2*10^(-(K - 1)).toNat*(W*D):=by ac_rfl
     _=prA aw N D (K - 1)*10^(K - 1).toNat*Q2*(W*D):=by rw [a2]
     _=_:=by ac_rfl
   ·calc F*Q2*(10^(-(K - 1)).toNat*D)=F*D*(Q2*10^(-(K - 1)).toNat):=by ac_rfl
     _=N*W*(Q2*10^(-(K - 1)).toNat):=by rw [hU]
     _=_:=by ac_rfl
  obtain ⟨m3,m4⟩:=m2 0 0
  clear m2
  have c2:0<10^(-(K - 1)).toNat*D:=Nat.mul_pos t2 k3
  have r1:aw=false→P2*W≤F*Q2:=by
   intro h
   refine Nat.le_of_mul_le_mul_right ?_ c2
   rw [m3,m4,h]
   exact Nat.mul_le_mul_right _ hin.1
  have r2:aw=true→F*Q2≤P2*W:=by
   intro h
   refine Nat.le_of_mul_le_mul_right ?_ c2
   rw [m3,m4,h]
   exact Nat.mul_le_mul_right _ hin.2
  have c1:0<10^(-K).toNat*10^(-(K - 1)).toNat:=Nat.mul_pos t1 t2
  have m5:P1*Q2*(10^(-K).toNat*10^(-(K - 1)).toNat)=10*prA aw N D K*(10^(-K).toNat*10^(K - 1).toNat*Q1*Q2):=by
   calc P1*Q2*(10^(-K).toNat*10^(-(K - 1)).toNat)=P1*10^(-K).toNat*(Q2*10^(-(K - 1)).toNat):=by ac_rfl
    _=prA aw N D K*10^K.toNat*Q1*(Q2*10^(-(K - 1)).toNat):=by rw [a1]
    _=prA aw N D K*Q1*Q2*(10^(-(K - 1)).toNat*10^K.toNat):=by ac_rfl
    _=prA aw N D K*Q1*Q2*(10*10^(-K).toNat*10^(K - 1).toNat):=by rw [hts]
    _=_:=by ac_rfl
  have m6:P2*Q1*(10^(-K).toNat*10^(-(K - 1)).toNat)=prA aw N D (K - 1)*(10^(-K).toNat*10^(K - 1).toNat*Q1*Q2):=by
   calc P2*Q1*(10^(-K).toNat*10^(-(K - 1)).toNat)=P2*10^(-(K - 1)).toNat*(Q1*10^(-K).toNat):=by ac_rfl
    _=prA aw N D (K - 1)*10^(K - 1).toNat*Q2*(Q1*10^(-K).toNat):=by rw [a2]
    _=_:=by ac_rfl
  have r3:aw=false→P1*Q2≤P2*Q1:=by
   intro h
   refine Nat.le_of_mul_le_mul_right ?_ c1
   rw [m5,m6,h]
   exact Nat.mul_le_mul_right _ hst.1
  have r4:aw=true→P2*Q1≤P1*Q2:=by
   intro h
   refine Nat.le_of_mul_le_mul_right ?_ c1
   rw [m5,m6,h]
   exact Nat.mul_le_mul_right _ hst.2
  have r5:P3*W=F*Q3:=by
   refine Nat.eq_of_mul_eq_mul_right (Nat.mul_pos t3 k3) ?_
   calc P3*W*(10^(-L).toNat*D)=P3*10^(-L).toNat*(W*D):=by ac_rfl
    _=prA aw N D L*10^L.toNat*Q3*(W*D):=by rw [a3]
    _=prA aw N D L*(D*10^L.toNat)*(Q3*W):=by ac_rfl
    _=N*10^(-L).toNat*(Q3*W):=by rw [hall]
    _=N*W*(10^(-L).toNat*Q3):=by ac_rfl
    _=F*D*(10^(-L).toNat*Q3):=by rw [hU]
    _=_:=by ac_rfl
  generalize sgb b=s at *
  clear m3 m4 m5 m6 hall hts hin hst a1 a2 a3 hU
  refine ⟨_,_,_,e1,e2,e3,q1,q2,q3,rfl,rfl,rfl,fun h => ?_,fun h => ?_,?_,?_⟩
  ·have ha:aw=s:=by rcases hs with ⟨h',_⟩ | ⟨_,h'⟩;omega;exact h'
   subst ha
   exact ⟨sv_of r3 r4,sv_of r1 r2⟩
  ·have ha:aw = !s:=by rcases hs with ⟨_,h'⟩ | ⟨h',_⟩;exact h';omega
   have hx:(s=false→aw=true)∧(s=true→aw=false):=by rw [ha];cases s <;> simp
   exact ⟨sv_of (fun g=>r4 (hx.1 g)) (fun g=>r3 (hx.2 g)),sv_of (fun g=>r2 (hx.1 g)) (fun g=>r1 (hx.2 g))⟩
  ·exact sv_of (fun _=>Nat.le_of_eq r5) (fun _=>Nat.le_of_eq r5.symm)
  ·exact sv_of (fun _=>Nat.le_of_eq r5.symm) (fun _=>Nat.le_of_eq r5)
end Go.Proofs.YtlibbociineppaaGreatDoor
