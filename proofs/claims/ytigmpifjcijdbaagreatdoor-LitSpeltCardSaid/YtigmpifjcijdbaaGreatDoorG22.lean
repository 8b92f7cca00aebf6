/- Plain words on binary64: rounding what is told in units of the least number; sums. -/
import Derived.Test.YtigmpifjcijdbaaGreatDoorG14
namespace Verge
set_option linter.unusedVariables false
set_option linter.unusedSimpArgs false
def fl (q:Nat):Nat:=if q<4503599627370496 then q else (q.log2 - 52)*4503599627370496+q / 2^(q.log2 - 52)
theorem FV_succ (r:Nat):FV (r+1)=FV r+2^(r / 4503599627370496 - 1):=by
 unfold FV
 by_cases h:r<4503599627370496
 ·have hd:r / 4503599627370496=0:=Nat.div_eq_of_lt h
  rw [if_pos h,hd]
  by_cases h1:r+1<4503599627370496
  ·rw [if_pos h1]
  ·have:r+1=4503599627370496:=by omega
   rw [if_neg h1,this]
 ·have h1:¬r+1<4503599627370496:=by omega
  rw [if_neg h,if_neg h1]
  obtain ⟨e,he⟩:∃e,r / 4503599627370496=e+1:=⟨r / 4503599627370496 - 1,by omega⟩
  rw [he]
  by_cases h2:r%4503599627370496+1<4503599627370496
  ·have e1:(r+1) / 4503599627370496=e+1:=by omega
   have e2:(r+1)%4503599627370496=r%4503599627370496+1:=by omega
   rw [e1,e2,Nat.add_sub_cancel,←Nat.add_assoc,Nat.add_mul (4503599627370496+r%4503599627370496) 1,Nat.one_mul]
  ·have e1:(r+1) / 4503599627370496=e+2:=by omega
   have e2:(r+1)%4503599627370496=0:=by omega
   have e3:r%4503599627370496=4503599627370495:=by omega
   rw [e1,e2,e3,Nat.add_sub_cancel,show e+2 - 1=e+1 by omega,Nat.pow_succ]
   omega
theorem FV_scale (e s:Nat) (h1:4503599627370496≤s) (h2:s<9007199254740992):FV (e*4503599627370496+s)=s*2^e:=by
 unfold FV
 rw [if_neg (by omega),show (e*4503599627370496+s) / 4503599627370496 - 1=e by omega,show (e*4503599627370496+s)%4503599627370496=s - 4503599627370496 by omega,show 4503599627370496+(s - 4503599627370496)=s by omega]
theorem FV_top (e:Nat):FV (e*4503599627370496+9007199254740992)=9007199254740992*2^e:=by
 have:=FV_scale (e+1) 4503599627370496 (by omega) (by omega)
 rw [show e*4503599627370496+9007199254740992=(e+1)*4503599627370496+4503599627370496 by omega,this,Nat.pow_succ]
 omega
theorem FV_small {r:Nat} (h:r<9007199254740992):FV r=r:=by
 by_cases h1:r<4503599627370496
 ·unfold FV;rw [if_pos h1]
 ·have:=FV_scale 0 r (by omega) h
  rw [Nat.zero_mul,Nat.zero_add] at this
  rw [this];simp
theorem fl_parts {q:Nat} (h:4503599627370496≤q):∃k s,q.log2=k+52∧s=q / 2^k∧4503599627370496≤s∧s<9007199254740992∧fl q=k*4503599627370496+s:=by
 have hq:q≠0:=by omega
 have hl:52≤q.log2:=(Nat.le_log2 hq).2 (by omega)
 have h1:=Nat.log2_self_le hq
 have h2:=Nat.lt_log2_self (n:=q)
 refine ⟨q.log2 - 52,q / 2^(q.log2 - 52),by omega,rfl,?_,?_,?_⟩
 ·rw [Nat.le_div_iff_mul_le (Nat.two_pow_pos _)]
  have:4503599627370496*2^(q.log2 - 52)=2^q.log2:=by
   rw [show (4503599627370496:Nat)=2^52 by rfl,←Nat.pow_add];congr 1;omega
  omega
 ·rw [Nat.div_lt_iff_lt_mul (Nat.two_pow_pos _)]
  have:9007199254740992*2^(q.log2 - 52)=2^(q.log2+1):=by
   rw [show (9007199254740992:Nat)=2^53 by rfl,←Nat.pow_add];congr 1;omega
  omega
 ·unfold fl;rw [if_neg (by omega)]
theorem FV_fl_le (q:Nat):FV (fl q)≤q:=by
 by_cases h:q<4503599627370496
 ·unfold fl;rw [if_pos h,FV_small (by omega)];omega
 ·obtain ⟨k,s,_,hs,h1,h2,e⟩:=fl_parts (Nat.le_of_not_lt h)
  rw [e,FV_scale k s h1 h2,hs]
  exact Nat.div_mul_le_self q _
theorem lt_FV_fl (q:Nat):q<FV (fl q+1):=by
 by_cases h:q<4503599627370496
 ·unfold fl;rw [if_pos h,FV_small (by omega)];omega
 ·obtain ⟨k,s,_,hs,h1,h2,e⟩:=fl_parts (Nat.le_of_not_lt h)
  have:q<(s+1)*2^k:=by
   rw [hs]
   have:=Nat.div_add_mod q (2^k)
   have:=Nat.mod_lt q (Nat.two_pow_pos k)
   rw [Nat.add_mul,Nat.one_mul,Nat.mul_comm]
   omega
  rw [FV_succ,e,FV_scale k s h1 h2,show (k*4503599627370496+s) / 4503599627370496 - 1=k by omega]
  rw [Nat.add_mul,Nat.one_mul] at this
  exact this
theorem FV_mono {r s:Nat} (h:r≤s):FV r≤FV s:=by
 rcases Nat.eq_or_lt_of_le h with h | h
 ·subst h;omega
 ·exact Nat.le_of_lt (FV_lt h)
theorem FV_le_iff {r q:Nat}:FV r≤q↔r≤fl q:=by
 constructor
 ·intro h
  rcases Nat.lt_or_ge (fl q) r with h1 | h1
  ·have:=FV_mono (show fl q+1≤r from h1)
   have:=lt_FV_fl q
   omega
  ·exact h1
 ·intro h
  exact Nat.le_trans (FV_mono h) (FV_fl_le q)
theorem fl_FV (r:Nat):fl (FV r)=r:=by
 have h1:=FV_le_iff.1 (Nat.le_refl (FV r))
 have h2:=FV_fl_le (FV r)
 rcases Nat.eq_or_lt_of_le h1 with h | h
 ·exact h.symm
 ·have:=FV_lt h;omega
def rngA (N D:Nat):Nat:=if FV (fl (N / D))*D=N then fl (N / D) else fl (N / D)+1
def rngN (N D:Nat):Nat:=
 if 2*N<(FV (fl (N / D))+FV (fl (N / D)+1))*D then fl (N / D)
 else if (FV (fl (N / D))+FV (fl (N / D)+1))*D<2*N then fl (N / D)+1
 else if fl (N / D)%2=0 then fl (N / D) else fl (N / D)+1
def rng (d:Int) (s:Bool) (N D:Nat):Nat:=
 if d=1∨d = -1 then (if (d==1) = !s then min (rngA N D) 9218868437227405312 else min (fl (N / D)) 9218868437227405311) else min (rngN N D) 9218868437227405312
def fpat (s:Bool) (r:Nat):Nat:=if r=0 then 0 else if s then 9223372036854775808+r else r
def fword (s:Bool) (r:Nat):Nat:=if s then 9223372036854775808+r else r
theorem div_FV {r N D:Nat} (hD:0<D):r≤fl (N / D)↔FV r*D≤N:=by
 rw [←FV_le_iff,Nat.le_div_iff_mul_le hD]
theorem fl_div_le (N D:Nat) (hD:0<D):FV (fl (N / D))*D≤N:=(div_FV hD).1 (Nat.le_refl _)
theorem nearest_eq (s:Bool) (m k:Nat):Ieee.double.nearest s m (-1074+(k:Nat))=fword s (min (rngN (m*2^k) 1) 9218868437227405312):=by
 unfold Ieee.Format.nearest
 by_cases h0:m=0
 ·subst h0
  rw [if_pos rfl]
  have:rngN (0*2^k) 1=0:=by rw [Nat.zero_mul];decide
  rw [this]
  cases s <;> rfl
 rw [if_neg h0]
 have hk0:=Nat.two_pow_pos k
 have hz:m*2^k≠0:=Nat.mul_ne_zero h0 (by omega)
 have hlog:(m*2^k).log2=m.log2+k:=by
  refine (Nat.log2_eq_iff hz).2 ⟨?_,?_⟩
  ·rw [Nat.pow_add];exact Nat.mul_le_mul_right _ (Nat.log2_self_le h0)
  ·rw [show m.log2+k+1=(m.log2+1)+k by omega,Nat.pow_add]
   exact Nat.mul_lt_mul_of_pos_right Nat.lt_log2_self hk0
 show fword s (min (((max (-1074+(k:Int)+(m.log2:Nat) - (52:Nat)) (-1074) - (-1074)).toNat*4503599627370496 +
  Ieee.Toward.even.cut s (m <<< (-1074+(k:Int) - max (-1074+(k:Int)+(m.log2:Nat) - (52:Nat)) (-1074)).toNat) (max (-1074+(k:Int)+(m.log2:Nat) - (52:Nat)) (-1074) - (-1074+(k:Int))).toNat)) 9218868437227405312)=_
 congr 2
 by_cases hs:k+m.log2<52
 ·rw [show max (-1074+(k:Int)+(m.log2:Nat) - (52:Nat)) (-1074) = -1074 by omega]
  rw [show ((-1074:Int) - (-1074)).toNat=0 by omega,show (-1074+(k:Int) - (-1074)).toNat=k by omega,show ((-1074:Int) - (-1074+(k:Int))).toNat=0 by omega]
  have hc:Ieee.Toward.even.cut s (m <<< k) 0=m*2^k:=by
   unfold Ieee.Toward.cut
   simp [Nat.mod_one,Nat.shiftLeft_eq]
  rw [hc,Nat.zero_mul,Nat.zero_add]
  have hlt:m*2^k<4503599627370496:=by
   have h:=Nat.lt_log2_self (n:=m*2^k)
   rw [hlog] at h
   exact Nat.lt_of_lt_of_le h (Nat.pow_le_pow_right (by omega) (show m.log2+k+1≤52 by omega))
  have hfl:fl (m*2^k)=m*2^k:=by unfold fl;rw [if_pos hlt]
  unfold rngN
  rw [Nat.div_one,hfl,FV_small (by omega),FV_small (by omega),if_pos (by omega)]
 ·have hge:4503599627370496≤m*2^k:=by
   have h:=Nat.log2_self_le hz
   rw [hlog] at h
   exact Nat.le_trans (show 2^52≤2^(m.log2+k) from Nat.pow_le_pow_right (by omega) (by omega)) h
  obtain ⟨u,t,hu,ht,t1,t2,hf⟩:=fl_parts hge
  rw [hlog] at hu
  rw [show max (-1074+(k:Int)+(m.log2:Nat) - (52:Nat)) (-1074) = -1074+(u:Int) by omega]
  rw [show (-1074+(u:Int) - (-1074)).toNat=u by omega,show (-1074+(k:Int) - (-1074+(u:Int))).toNat=k - u by omega,show (-1074+(u:Int) - (-1074+(k:Int))).toNat=u - k by omega]
  unfold rngN
  rw [Nat.div_one,FV_succ,hf,FV_scale u t t1 t2,show (u*4503599627370496+t) / 4503599627370496 - 1=u by omega]
  have hu0:=Nat.two_pow_pos u
  have hmod:=Nat.div_add_mod (m*2^k) (2^u)
  rw [←ht,Nat.mul_comm] at hmod
  have hml:=Nat.mod_lt (m*2^k) hu0
  rcases Nat.le_total u k with huk | huk
  ·have e:2^k=2^(k - u)*2^u:=by rw [←Nat.pow_add];congr 1;omega
   have hz0:m*2^k%2^u=0:=by rw [e,←Nat.mul_assoc];exact Nat.mul_mod_left _ _
   have hc:Ieee.Toward.even.cut s (m <<< (k - u)) (u - k)=t:=by
    rw [show u - k=0 by omega]
    unfold Ieee.Toward.cut
    have:t=m*2^(k - u):=by
     rw [ht,e,←Nat.mul_assoc,Nat.mul_div_cancel _ hu0]
    simp [Nat.mod_one,Nat.shiftLeft_eq,this]
   rw [hc,if_pos (by omega)]
  ·have e:2^u=2^(u - k)*2^k:=by rw [←Nat.pow_add];congr 1;omega
   have hg0:=Nat.two_pow_pos (u - k)
   have ht':t=m / 2^(u - k):=by
    rw [ht,e,Nat.mul_div_mul_right _ _ hk0]
   have hr:m*2^k%2^u=m%2^(u - k)*2^k:=by rw [e,Nat.mul_mod_mul_right]
   have hc:Ieee.Toward.even.cut s (m <<< (k - u)) (u - k)=if 2^(u - k)<2*(m%2^(u - k))∨2^(u - k)=2*(m%2^(u - k))∧t%2=1 then t+1 else t:=by
    rw [show k - u=0 by omega]
    unfold Ieee.Toward.cut
    rw [Nat.shiftLeft_zero,show min (u - k) (m.log2+2)=u - k by omega,Nat.one_shiftLeft]
    dsimp only
    rw [←ht']
    by_cases c1:2^(u - k)<2*(m%2^(u - k))
    ·simp [c1]
    ·by_cases c2:2^(u - k)=2*(m%2^(u - k))
     ·by_cases c3:t%2=1
      ·simp [c1,←c2,c3]
      ·simp [c1,←c2,c3]
     ·simp [c1,c2]
   rw [hc]
   have hA:2^(u - k)<2*(m%2^(u - k))↔2^u<2*(m*2^k%2^u):=by
    rw [hr,e,←Nat.mul_assoc]
    exact (Nat.mul_lt_mul_right hk0).symm
   have hB:2^(u - k)=2*(m%2^(u - k))↔2^u=2*(m*2^k%2^u):=by
    rw [hr]
    constructor
    ·intro h;rw [e,←Nat.mul_assoc,←h]
    ·intro h
     rw [e,←Nat.mul_assoc] at h
     exact Nat.eq_of_mul_eq_mul_right hk0 h
   simp only [hA,hB]
   by_cases c1:2^u<2*(m*2^k%2^u)
   ·rw [if_pos (.inl c1),if_neg (by omega),if_pos (by omega)];omega
   ·by_cases c2:2^u=2*(m*2^k%2^u)
    ·by_cases c3:t%2=1
     ·rw [if_pos (.inr ⟨c2,c3⟩),if_neg (by omega),if_neg (by omega),if_neg (by omega)];omega
     ·rw [if_neg (by omega),if_neg (by omega),if_neg (by omega),if_pos (by omega)]
    ·rw [if_neg (by omega),if_pos (by omega)]
end Verge
namespace Verge
set_option linter.unusedVariables false
set_option linter.unusedSimpArgs false
def Fn (n:Nat):Prop:=FV (fl n)=n
theorem rngN_one (n:Nat):rngN n 1=if 2*n<FV (fl n)+FV (fl n+1) then fl n else if FV (fl n)+FV (fl n+1)<2*n then fl n+1 else if fl n%2=0 then fl n else fl n+1:=by
 unfold rngN;rw [Nat.div_one,Nat.mul_one]
theorem rngN_FV (r:Nat):rngN (FV r) 1=r:=by
 have:=FV_lt (show r<r+1 by omega)
 rw [rngN_one,fl_FV,if_pos (by omega)]
theorem ilt_or_ge (a b:Int):a<b∨b≤a:=by omega
def F (z:Int):Prop:=Fn z.natAbs
end Verge
namespace Verge
set_option linter.unusedVariables false
set_option linter.unusedSimpArgs false
end Verge
namespace Verge
set_option linter.unusedVariables false
set_option linter.unusedSimpArgs false
end Verge
namespace Verge
set_option linter.unusedVariables false
set_option linter.unusedSimpArgs false
theorem cut_even (s:Bool) (m d:Nat) (h:d≤m.log2+2):Ieee.Toward.even.cut s m d=if 2^d<2*(m%2^d)∨2^d=2*(m%2^d)∧m / 2^d%2=1 then m / 2^d+1 else m / 2^d:=by
 unfold Ieee.Toward.cut
 rw [Nat.min_eq_left h,Nat.one_shiftLeft]
 dsimp only
 by_cases c1:2^d<2*(m%2^d)
 ·simp [c1]
 ·by_cases c2:2^d=2*(m%2^d)
  ·by_cases c3:m / 2^d%2=1
   ·simp [c1,←c2,c3]
   ·simp [c1,←c2,c3]
  ·simp [c1,c2]
theorem nearest_low (s:Bool) (m c:Nat):Ieee.double.nearest s m (-1074 - (c:Nat))=fword s (min (rngN m (2^c)) 9218868437227405312):=by
 have hc0:=Nat.two_pow_pos c
 by_cases h0:m=0
 ·subst h0
  unfold Ieee.Format.nearest
  rw [if_pos rfl]
  have:rngN 0 (2^c)=0:=by
   unfold rngN
   rw [Nat.zero_div]
   have:fl 0=0:=rfl
   rw [this,if_pos]
   rw [show FV 0=0 from rfl,show FV (0+1)=1 from rfl];omega
  rw [this]
  cases s <;> rfl
 unfold Ieee.Format.nearest
 rw [if_neg h0]
 show fword s (min (((max (-1074 - (c:Int)+(m.log2:Nat) - (52:Nat)) (-1074) - (-1074)).toNat*4503599627370496 +
  Ieee.Toward.even.cut s (m <<< (-1074 - (c:Int) - max (-1074 - (c:Int)+(m.log2:Nat) - (52:Nat)) (-1074)).toNat) (max (-1074 - (c:Int)+(m.log2:Nat) - (52:Nat)) (-1074) - (-1074 - (c:Int))).toNat)) 9218868437227405312)=_
 congr 2
 have hl1:=Nat.log2_self_le h0
 have hl2:=Nat.lt_log2_self (n:=m)
 unfold rngN
 by_cases hs:m.log2≤52+c
 ·rw [show max (-1074 - (c:Int)+(m.log2:Nat) - (52:Nat)) (-1074) = -1074 by omega]
  rw [show ((-1074:Int) - (-1074)).toNat=0 by omega,show (-1074 - (c:Int) - (-1074)).toNat=0 by omega,show ((-1074:Int) - (-1074 - (c:Int))).toNat=c by omega]
  rw [Nat.shiftLeft_zero,Nat.zero_mul,Nat.zero_add]
  have hq:m / 2^c<9007199254740992:=by
   rw [Nat.div_lt_iff_lt_mul hc0]
   refine Nat.lt_of_lt_of_le hl2 ?_
   rw [show (9007199254740992:Nat)=2^53 by rfl,←Nat.pow_add]
   exact Nat.pow_le_pow_right (by omega) (by omega)
  have hfl:fl (m / 2^c)=m / 2^c:=by
   have:=fl_FV (m / 2^c)
   rwa [FV_small hq] at this
  have hF1:FV (m / 2^c+1)=m / 2^c+1:=by
   by_cases h:m / 2^c+1<9007199254740992
   ·exact FV_small h
   ·have e:=FV_top 0
    rw [Nat.zero_mul,Nat.zero_add] at e
    rw [show m / 2^c+1=9007199254740992 by omega,e]
  rw [hfl,hF1,FV_small hq]
  have hd:=Nat.div_add_mod m (2^c)
  have hm:=Nat.mod_lt m hc0
  have e1:(m / 2^c+(m / 2^c+1))*2^c=2*(2^c*(m / 2^c))+2^c:=by grind
  rw [e1]
  by_cases hbig:c≤m.log2+2
  ·rw [cut_even s m c hbig]
   by_cases c1:2^c<2*(m%2^c)
   ·rw [if_pos (.inl c1),if_neg (by omega),if_pos (by omega)]
   ·by_cases c2:2^c=2*(m%2^c)
    ·by_cases c3:m / 2^c%2=1
     ·rw [if_pos (.inr ⟨c2,c3⟩),if_neg (by omega),if_neg (by omega),if_neg (by omega)]
     ·rw [if_neg (by omega),if_neg (by omega),if_neg (by omega),if_pos (by omega)]
    ·rw [if_neg (by omega),if_pos (by omega)]
  ·have h1:2^(m.log2+2)≤2^c:=Nat.pow_le_pow_right (by omega) (by omega)
   have h2:2^(m.log2+2)=2*2^(m.log2+1):=by rw [Nat.pow_succ];omega
   have hz:m / 2^c=0:=Nat.div_eq_of_lt (by omega)
   have hzm:m%2^c=m:=Nat.mod_eq_of_lt (by omega)
   have hcut:Ieee.Toward.even.cut s m c=0:=by
    unfold Ieee.Toward.cut
    rw [Nat.min_eq_right (by omega),Nat.one_shiftLeft]
    have a1:m / 2^(m.log2+2)=0:=Nat.div_eq_of_lt (by omega)
    have a2:m%2^(m.log2+2)=m:=Nat.mod_eq_of_lt (by omega)
    dsimp only
    rw [a1,a2]
    have a3:¬2^(m.log2+2)<2*m:=by omega
    have a4:¬2^(m.log2+2)=2*m:=by omega
    simp [a3,a4]
   rw [hcut,hz]
   rw [if_pos (by omega)]
 ·obtain ⟨u,hu⟩:∃u,m.log2=52+c+u:=⟨m.log2 - 52 - c,by omega⟩
  rw [show max (-1074 - (c:Int)+(m.log2:Nat) - (52:Nat)) (-1074) = -1074+(u:Int) by omega]
  rw [show (-1074+(u:Int) - (-1074)).toNat=u by omega,show (-1074 - (c:Int) - (-1074+(u:Int))).toNat=0 by omega,show (-1074+(u:Int) - (-1074 - (c:Int))).toNat=c+u by omega]
  rw [Nat.shiftLeft_zero,cut_even s m (c+u) (by omega)]
  have hq:m / 2^c≠0:=by
   have:2^c≤m:=Nat.le_trans (Nat.pow_le_pow_right (by omega) (by omega)) hl1
   have:=Nat.div_pos this hc0
   omega
  have hge:4503599627370496≤m / 2^c:=by
   rw [Nat.le_div_iff_mul_le hc0]
   refine Nat.le_trans ?_ hl1
   rw [show (4503599627370496:Nat)=2^52 by rfl,←Nat.pow_add]
   exact Nat.pow_le_pow_right (by omega) (by omega)
  obtain ⟨k,t,hk,ht,t1,t2,hf⟩:=fl_parts hge
  have hlog:(m / 2^c).log2=52+u:=by
   refine (Nat.log2_eq_iff hq).2 ⟨?_,?_⟩
   ·rw [Nat.le_div_iff_mul_le hc0,←Nat.pow_add]
    exact Nat.le_trans (Nat.pow_le_pow_right (by omega) (by omega)) hl1
   ·rw [Nat.div_lt_iff_lt_mul hc0,←Nat.pow_add]
    exact Nat.lt_of_lt_of_le hl2 (Nat.pow_le_pow_right (by omega) (by omega))
  obtain rfl:k=u:=by omega
  have ht':m / 2^(c+k)=t:=by rw [ht,Nat.div_div_eq_div_mul,←Nat.pow_add]
  rw [FV_succ,hf,FV_scale k t t1 t2,show (k*4503599627370496+t) / 4503599627370496 - 1=k by omega,ht']
  have hd:=Nat.div_add_mod m (2^(c+k))
  have hm:=Nat.mod_lt m (Nat.two_pow_pos (c+k))
  rw [ht'] at hd
  have e1:(t*2^k+(t*2^k+2^k))*2^c=2*(2^(c+k)*t)+2^(c+k):=by rw [Nat.pow_add];grind
  rw [e1]
  by_cases c1:2^(c+k)<2*(m%2^(c+k))
  ·rw [if_pos (.inl c1),if_neg (by omega),if_pos (by omega)];omega
  ·by_cases c2:2^(c+k)=2*(m%2^(c+k))
   ·by_cases c3:t%2=1
    ·rw [if_pos (.inr ⟨c2,c3⟩),if_neg (by omega),if_neg (by omega),if_neg (by omega)];omega
    ·rw [if_neg (by omega),if_neg (by omega),if_neg (by omega),if_pos (by omega)]
   ·rw [if_neg (by omega),if_pos (by omega)]
theorem rngN_cut (N D j:Nat) (hj:0<j):rngN (N*j) (D*j)=rngN N D:=by
 unfold rngN
 rw [Nat.mul_div_mul_right _ _ hj]
 obtain ⟨a,ha⟩:∃a,FV (fl (N / D))+FV (fl (N / D)+1)=a:=⟨_,rfl⟩
 rw [ha]
 have e:a*(D*j)=a*D*j:=by rw [Nat.mul_assoc]
 have e2:2*(N*j)=2*N*j:=by rw [Nat.mul_assoc]
 rw [e,e2]
 simp only [Nat.mul_lt_mul_right hj]
theorem nearest_any (s:Bool) (m:Nat) (p:Int) (j:Nat) (hj:0≤p+1074+(j:Int)):Ieee.double.nearest s m p=fword s (min (rngN (m*2^(p+1074+(j:Int)).toNat) (2^j)) 9218868437227405312):=by
 rcases ilt_or_ge (p+1074) 0 with h | h
 ·obtain ⟨c,hc⟩:∃c:Nat,p = -1074 - (c:Int):=⟨(-1074 - p).toNat,by omega⟩
  rw [hc,nearest_low]
  have e:(-1074 - (c:Int)+1074+(j:Int)).toNat=j - c:=by omega
  have e2:2^j=2^c*2^(j - c):=by rw [←Nat.pow_add];congr 1;omega
  rw [e,e2,rngN_cut _ _ _ (Nat.two_pow_pos _)]
 ·obtain ⟨c,hc⟩:∃c:Nat,p = -1074+(c:Int):=⟨(p+1074).toNat,by omega⟩
  rw [hc,nearest_eq]
  have e:(-1074+(c:Int)+1074+(j:Int)).toNat=c+j:=by omega
  have e2:m*2^(c+j)=m*2^c*2^j:=by rw [Nat.pow_add,Nat.mul_assoc]
  rw [e,e2]
  have:=rngN_cut (m*2^c) 1 (2^j) (Nat.two_pow_pos _)
  rw [Nat.one_mul] at this
  rw [this]
end Verge
namespace Verge
set_option linter.unusedVariables false
set_option linter.unusedSimpArgs false
end Verge
