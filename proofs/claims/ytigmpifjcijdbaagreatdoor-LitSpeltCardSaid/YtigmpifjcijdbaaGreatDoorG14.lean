/- Plain words on binary64: the order of patterns, as the model's 'order' tells it. -/
import Derived.Laws.FloatBits
import Derived.Test.YtigmpifjcijdbaaGreatDoorG09
import Derived.Deep.RegionWith
section
namespace Verge
set_option linter.unusedVariables false
set_option linter.unusedSimpArgs false
def fnan (x:Nat):Prop:=9218868437227405312<x%9223372036854775808
instance (x:Nat):Decidable (fnan x):=by unfold fnan;infer_instance
def FK (x:Nat):Int:=if x<9223372036854775808 then (x:Int) else 9223372036854775808 - (x:Int)
def FV (r:Nat):Nat:=if r<4503599627370496 then r else (4503599627370496+r%4503599627370496)*2^(r / 4503599627370496 - 1)
theorem FV_lt_succ_binade (r:Nat):FV r<4503599627370496*2^(r / 4503599627370496):=by
 unfold FV
 split
 ·rename_i h
  rw [Nat.div_eq_of_lt h];omega
 ·rename_i h
  obtain ⟨e,he⟩:∃e,r / 4503599627370496=e+1:=⟨r / 4503599627370496 - 1,by omega⟩
  have hm:r%4503599627370496<4503599627370496:=Nat.mod_lt _ (by omega)
  rw [he,Nat.add_sub_cancel,Nat.pow_succ]
  have:=Nat.two_pow_pos e
  have h1:(4503599627370496+r%4503599627370496)*2^e<(2*4503599627370496)*2^e:=Nat.mul_lt_mul_of_pos_right (by omega) this
  have h2:(2*4503599627370496)*2^e=4503599627370496*(2^e*2):=by grind
  omega
theorem FV_ge_binade (r:Nat) (h:4503599627370496≤r):4503599627370496*2^(r / 4503599627370496 - 1)≤FV r:=by
 unfold FV
 rw [if_neg (by omega)]
 exact Nat.mul_le_mul_right _ (by omega)
theorem FV_lt {r s:Nat} (h:r<s):FV r<FV s:=by
 have hd:r / 4503599627370496≤s / 4503599627370496:=Nat.div_le_div_right (by omega)
 rcases Nat.eq_or_lt_of_le hd with he | he
 ·unfold FV
  by_cases hr:r<4503599627370496
  ·have:s<4503599627370496:=by rw [Nat.div_eq_of_lt hr] at he;omega
   rw [if_pos hr,if_pos this];exact h
  ·have:¬s<4503599627370496:=by omega
   rw [if_neg hr,if_neg this,he]
   refine Nat.mul_lt_mul_of_pos_right ?_ (Nat.two_pow_pos _)
   have a:=Nat.div_add_mod r 4503599627370496
   have b:=Nat.div_add_mod s 4503599627370496
   rw [he] at a
   omega
 ·have h1:=FV_lt_succ_binade r
  have h2:=FV_ge_binade s (by omega)
  have h3:2^(r / 4503599627370496)≤2^(s / 4503599627370496 - 1):=Nat.pow_le_pow_right (by omega) (by omega)
  have h4:=Nat.mul_le_mul_left 4503599627370496 h3
  omega
theorem FV_zero:FV 0=0:=rfl
theorem compare_congr {a b c d:Int} (hl:a<b↔c<d) (he:a=b↔c=d):compare a b=compare c d:=by
 show compareOfLessAndEq a b=compareOfLessAndEq c d
 unfold compareOfLessAndEq
 by_cases h1:a<b
 ·rw [if_pos h1,if_pos (hl.1 h1)]
 ·rw [if_neg h1,if_neg (fun h=>h1 (hl.2 h))]
  by_cases h2:a=b
  ·rw [if_pos h2,if_pos (he.1 h2)]
  ·rw [if_neg h2,if_neg (fun h=>h2 (he.2 h))]
theorem read_num {x:Nat} (hx:x<18446744073709551616) (h:x%9223372036854775808<9218868437227405312) :
  ∃k m,Ieee.double.read x=.number (decide (9223372036854775808≤x)) m (-1074+(k:Nat))∧m*2^k=FV (x%9223372036854775808):=by
 have hs:(x / Ieee.double.signWeight%2==1)=decide (9223372036854775808≤x):=by
  show (x / 9223372036854775808%2==1)=_
  by_cases h1:9223372036854775808≤x
  ·have:x / 9223372036854775808=1:=by omega
   simp [this,h1]
  ·have:x / 9223372036854775808=0:=by omega
   simp [this,h1]
 unfold Ieee.Format.read
 simp only [hs]
 show ∃k m,(if x%9223372036854775808<4503599627370496 then Ieee.Datum.number (decide (9223372036854775808≤x)) (x%9223372036854775808) (-1074) else if x%9223372036854775808<9218868437227405312 then
  Ieee.Datum.number (decide (9223372036854775808≤x)) (4503599627370496+x%9223372036854775808%4503599627370496) (-1074+((x%9223372036854775808 / 4503599627370496 - 1:Nat):Int)) else _)=_∧_
 by_cases h0:x%9223372036854775808<4503599627370496
 ·rw [if_pos h0]
  exact ⟨0,_,rfl,by unfold FV;rw [if_pos h0];simp⟩
 ·rw [if_neg h0,if_pos h]
  exact ⟨_,_,rfl,by unfold FV;rw [if_neg h0]⟩
theorem read_inf {x:Nat} (hx:x<18446744073709551616) (h:x%9223372036854775808=9218868437227405312):Ieee.double.read x=.infinity (decide (9223372036854775808≤x)):=by
 have:x=9218868437227405312∨x=18442240474082181120:=by omega
 rcases this with rfl | rfl <;> rfl
theorem read_nan {x:Nat} (hx:x<18446744073709551616) (h:fnan x):∃s t,Ieee.double.read x=.nan s t:=by
 unfold fnan at h
 unfold Ieee.Format.read
 show ∃s t,(if x%9223372036854775808<4503599627370496 then _ else if x%9223372036854775808<9218868437227405312 then _ else if x%9223372036854775808=9218868437227405312 then _ else Ieee.Datum.nan _ _)=_
 rw [if_neg (by omega),if_neg (by omega),if_neg (by omega)]
 exact ⟨_,_,rfl⟩
theorem FK_neg {x:Nat} (h:9223372036854775808≤x) (hx:x<18446744073709551616):FK x = -((x%9223372036854775808:Nat):Int):=by
 unfold FK;rw [if_neg (by omega)];omega
theorem FK_pos {x:Nat} (h:¬9223372036854775808≤x):FK x=((x%9223372036854775808:Nat):Int):=by
 unfold FK;rw [if_pos (by omega)];omega
theorem shl_pow (m u:Nat):m <<< u=m*2^u:=Nat.shiftLeft_eq m u
theorem signed_scale (s:Bool) (m k c:Nat) (hc:c≤k):(2^c:Nat)*Ieee.signed s m (k - c)=if s then -((m*2^k:Nat):Int) else ((m*2^k:Nat):Int):=by
 have e:2^c*(m*2^(k - c))=m*2^k:=by
  have:2^k=2^c*2^(k - c):=by rw [←Nat.pow_add];congr 1;omega
  rw [this];grind
 unfold Ieee.signed
 rw [shl_pow]
 cases s
 ·simp only [Bool.false_eq_true,if_false]
  exact_mod_cast e
 ·simp only [if_true]
  have:((2^c*(m*2^(k - c)):Nat):Int)=((m*2^k:Nat):Int):=by rw [e]
  rw [Int.mul_neg]
  push_cast at this ⊢
  omega
theorem FK_val {x:Nat} (hx:x<18446744073709551616):(if decide (9223372036854775808≤x) then -((FV (x%9223372036854775808):Nat):Int) else ((FV (x%9223372036854775808):Nat):Int))=if FK x<0 then -((FV (FK x).natAbs:Nat):Int) else ((FV (FK x).natAbs:Nat):Int):=by
 by_cases h:9223372036854775808≤x
 ·rw [FK_neg h hx]
  rcases Nat.eq_zero_or_pos (x%9223372036854775808) with h0 | h0
  ·rw [h0];simp [h,FV_zero]
  ·have:(-((x%9223372036854775808:Nat):Int))<0:=by omega
   rw [if_pos this,Int.natAbs_neg,Int.natAbs_natCast];simp [h]
 ·rw [FK_pos h]
  rw [if_neg (show ¬(((x%9223372036854775808:Nat):Int))<0 by omega),Int.natAbs_natCast];simp [h]
def SV (k:Int):Int:=if k<0 then -((FV k.natAbs:Nat):Int) else ((FV k.natAbs:Nat):Int)
theorem SV_lt {a b:Int} (h:a<b):SV a<SV b:=by
 unfold SV
 by_cases ha:a<0
 ·rw [if_pos ha]
  by_cases hb:b<0
  ·rw [if_pos hb]
   have:b.natAbs<a.natAbs:=by omega
   have:=FV_lt this
   omega
  ·rw [if_neg hb]
   have:0<a.natAbs:=by omega
   have:=FV_lt this
   rw [FV_zero] at this
   omega
 ·rw [if_neg ha,if_neg (by omega)]
  have:a.natAbs<b.natAbs:=by omega
  have:=FV_lt this
  omega
theorem SV_lt_iff {a b:Int}:SV a<SV b↔a<b:=by
 constructor
 ·intro h
  rcases Int.lt_trichotomy a b with h1 | h1 | h1
  ·exact h1
  ·subst h1;omega
  ·have:=SV_lt h1;omega
 ·exact SV_lt
theorem SV_inj {a b:Int}:SV a=SV b↔a=b:=by
 constructor
 ·intro h
  rcases Int.lt_trichotomy a b with h1 | h1 | h1
  ·have:=SV_lt h1;omega
  ·exact h1
  ·have:=SV_lt h1;omega
 ·intro h;rw [h]
theorem FK_range {x:Nat} (hx:x<18446744073709551616) (h:¬fnan x) : -9218868437227405312≤FK x∧FK x≤9218868437227405312:=by
 unfold fnan at h
 by_cases h1:9223372036854775808≤x
 ·rw [FK_neg h1 hx];omega
 ·rw [FK_pos h1];omega
theorem order_eq {x y:Nat} (hx:x<18446744073709551616) (hy:y<18446744073709551616) (nx:¬fnan x) (ny:¬fnan y) :
  Ieee.double.order x y=some (compare (FK x) (FK y)):=by
 unfold Ieee.Format.order
 have kx:=FK_range hx nx
 have ky:=FK_range hy ny
 unfold fnan at nx ny
 rcases Nat.eq_or_lt_of_le (Nat.le_of_not_lt nx) with ix | ix
 ·rw [read_inf hx ix]
  rcases Nat.eq_or_lt_of_le (Nat.le_of_not_lt ny) with iy | iy
  ·rw [read_inf hy iy]
   have hx':x=9218868437227405312∨x=18442240474082181120:=by omega
   have hy':y=9218868437227405312∨y=18442240474082181120:=by omega
   rcases hx' with rfl | rfl <;> rcases hy' with rfl | rfl <;> rfl
  ·obtain ⟨l,n,e,_⟩:=read_num hy iy
   rw [e]
   have hx':x=9218868437227405312∨x=18442240474082181120:=by omega
   have hk : -9218868437227405312<FK y∧FK y<9218868437227405312:=by
    by_cases h1:9223372036854775808≤y
    ·rw [FK_neg h1 hy];omega
    ·rw [FK_pos h1];omega
   rcases hx' with rfl | rfl
   ·show some Ordering.gt=some (compareOfLessAndEq _ _)
    unfold compareOfLessAndEq
    rw [if_neg (by rw [FK_pos (by omega)];omega),if_neg (by rw [FK_pos (by omega)];omega)]
   ·show some Ordering.lt=some (compareOfLessAndEq _ _)
    unfold compareOfLessAndEq
    rw [if_pos (by rw [FK_neg (by omega) (by omega)];omega)]
 ·obtain ⟨k,m,ex,vx⟩:=read_num hx ix
  rw [ex]
  have hkx : -9218868437227405312<FK x∧FK x<9218868437227405312:=by
   by_cases h1:9223372036854775808≤x
   ·rw [FK_neg h1 hx];omega
   ·rw [FK_pos h1];omega
  rcases Nat.eq_or_lt_of_le (Nat.le_of_not_lt ny) with iy | iy
  ·rw [read_inf hy iy]
   have hy':y=9218868437227405312∨y=18442240474082181120:=by omega
   rcases hy' with rfl | rfl
   ·show some Ordering.lt=some (compareOfLessAndEq _ _)
    unfold compareOfLessAndEq
    rw [if_pos (by rw [FK_pos (x:=9218868437227405312) (by omega)];omega)]
   ·show some Ordering.gt=some (compareOfLessAndEq _ _)
    unfold compareOfLessAndEq
    rw [if_neg (by rw [FK_neg (x:=18442240474082181120) (by omega) (by omega)];omega),if_neg (by rw [FK_neg (x:=18442240474082181120) (by omega) (by omega)];omega)]
  ·obtain ⟨l,n,ey,vy⟩:=read_num hy iy
   rw [ey]
   show some (compare (Ieee.signed _ m _) (Ieee.signed _ n _))=_
   have h1:(-1074+(k:Int) - min (-1074+(k:Int)) (-1074+(l:Int))).toNat=k - min k l:=by omega
   have h2:(-1074+(l:Int) - min (-1074+(k:Int)) (-1074+(l:Int))).toNat=l - min k l:=by omega
   rw [h1,h2]
   have s1:=signed_scale (decide (9223372036854775808≤x)) m k (min k l) (Nat.min_le_left _ _)
   have s2:=signed_scale (decide (9223372036854775808≤y)) n l (min k l) (Nat.min_le_right _ _)
   rw [vx,FK_val hx] at s1
   rw [vy,FK_val hy] at s2
   have hp:(0:Int)<((2^min k l:Nat):Int):=by exact_mod_cast Nat.two_pow_pos _
   obtain ⟨p,hpe⟩:∃p:Int,((2^min k l:Nat):Int)=p:=⟨_,rfl⟩
   rw [hpe] at s1 s2 hp
   obtain ⟨a,ha⟩:∃a,Ieee.signed (decide (9223372036854775808≤x)) m (k - min k l)=a:=⟨_,rfl⟩
   obtain ⟨b,hb⟩:∃b,Ieee.signed (decide (9223372036854775808≤y)) n (l - min k l)=b:=⟨_,rfl⟩
   rw [ha,hb]
   rw [ha] at s1
   rw [hb] at s2
   have s1:p*a=SV (FK x):=s1
   have s2:p*b=SV (FK y):=s2
   refine congrArg some (compare_congr ?_ ?_)
   ·refine Iff.trans ?_ (SV_lt_iff (a:=FK x) (b:=FK y))
    rw [←s1,←s2]
    exact (Int.mul_lt_mul_left hp).symm
   ·refine Iff.trans ?_ (SV_inj (a:=FK x) (b:=FK y))
    rw [←s1,←s2]
    exact ⟨fun h=>by rw [h],fun h=>Int.eq_of_mul_eq_mul_left (by omega) h⟩
theorem order_nan {x y:Nat} (hx:x<18446744073709551616) (hy:y<18446744073709551616) (h:fnan x∨fnan y):Ieee.double.order x y=none:=by
 unfold Ieee.Format.order
 rcases h with h | h
 ·obtain ⟨s,t,e⟩:=read_nan hx h
  rw [e];rfl
 ·obtain ⟨s,t,e⟩:=read_nan hy h
  rw [e]
  cases Ieee.double.read x <;> rfl
theorem order_cases {x y:Nat} (hx:x<18446744073709551616) (hy:y<18446744073709551616):Ieee.double.order x y=if ¬fnan x∧¬fnan y then some (compareOfLessAndEq (FK x) (FK y)) else none:=by
 by_cases h:¬fnan x∧¬fnan y
 ·rw [if_pos h,order_eq hx hy h.1 h.2];rfl
 ·rw [if_neg h,order_nan hx hy]
  by_cases h1:fnan x
  ·exact .inl h1
  ·exact .inr (Classical.not_not.1 fun h2=>h ⟨h1,h2⟩)
theorem cmpLE {a b:Int}:compareOfLessAndEq a b=if a<b then .lt else if a=b then .eq else .gt:=rfl
theorem f_lt {x y:Nat} (hx:x<18446744073709551616) (hy:y<18446744073709551616):(Ieee.double.order x y==some .lt)=decide (¬fnan x∧¬fnan y∧FK x<FK y):=by
 rw [order_cases hx hy,cmpLE]
 by_cases h1:fnan x <;> by_cases h2:fnan y <;> by_cases h3:FK x<FK y <;> by_cases h4:FK x=FK y <;> simp [h1,h2,h3,h4] <;> first | decide | omega
theorem f_eq {x y:Nat} (hx:x<18446744073709551616) (hy:y<18446744073709551616):(Ieee.double.order x y==some .eq)=decide (¬fnan x∧¬fnan y∧FK x=FK y):=by
 rw [order_cases hx hy,cmpLE]
 by_cases h1:fnan x <;> by_cases h2:fnan y <;> by_cases h3:FK x<FK y <;> by_cases h4:FK x=FK y <;> simp [h1,h2,h3,h4] <;> first | decide | omega
theorem f_gt {x y:Nat} (hx:x<18446744073709551616) (hy:y<18446744073709551616):(Ieee.double.order x y==some .gt)=decide (¬fnan x∧¬fnan y∧FK y<FK x):=by
 rw [order_cases hx hy,cmpLE]
 by_cases h1:fnan x <;> by_cases h2:fnan y <;> by_cases h3:FK x<FK y <;> by_cases h4:FK x=FK y <;> simp [h1,h2,h3,h4] <;> first | decide | omega
theorem f_le {x y:Nat} (hx:x<18446744073709551616) (hy:y<18446744073709551616):(Ieee.double.order x y==some .lt||Ieee.double.order x y==some .eq)=decide (¬fnan x∧¬fnan y∧FK x≤FK y):=by
 rw [f_lt hx hy,f_eq hx hy]
 by_cases h1:fnan x <;> by_cases h2:fnan y <;> by_cases h3:FK x<FK y <;> by_cases h4:FK x=FK y <;> simp [h1,h2,h3,h4] <;> omega
theorem f_self {x:Nat} (hx:x<18446744073709551616):(Ieee.double.order x x != some .eq)=decide (fnan x):=by
 have:=f_eq hx hx
 rw [bne,this]
 by_cases h:fnan x <;> simp [h]
theorem f_isz {x:Nat} (hx:x<18446744073709551616):(Ieee.double.order x 0==some .eq)=decide (x=0∨x=9223372036854775808):=by
 rw [f_eq hx (by omega)]
 have h0:FK 0=0:=rfl
 rw [h0]
 refine decide_eq_decide.2 ?_
 constructor
 ·rintro ⟨_,_,h⟩
  by_cases h1:9223372036854775808≤x
  ·rw [FK_neg h1 hx] at h;omega
  ·rw [FK_pos h1] at h;omega
 ·rintro (rfl | rfl)
  ·exact ⟨by decide,by decide,rfl⟩
  ·exact ⟨by decide,by decide,rfl⟩
def fplain (x:Nat):Nat:=if x=9223372036854775808 then 0 else if fnan x then 9221120237041090561 else x
def fz (x:Nat):Nat:=if x=0∨x=9223372036854775808 then 0 else x
def fkey (x:Nat):Nat:=if 9223372036854775808≤fplain x then 18446744073709551615 - fplain x else fplain x+9223372036854775808
def fabove (x y:Nat):Bool:=decide (¬fnan x∧¬fnan y∧FK y<FK x)
def fsound (lo hi:Nat):Bool:=decide (¬fnan lo∧¬fnan hi∧FK lo≤FK hi∧FK lo<9218868437227405312 ∧ -9218868437227405312<FK hi)
def flo (lo hi:Nat):Nat:=if fsound lo hi=true then fz lo else 9218868437227405312
def fhi (lo hi:Nat):Nat:=if fsound lo hi=true then fz hi else 18442240474082181120
theorem fkey_lt {x y:Nat} (hx:x<18446744073709551616) (hy:y<18446744073709551616) (nx:¬fnan x) (ny:¬fnan y):fkey y<fkey x↔FK y<FK x:=by
 have kx:fplain x=if x=9223372036854775808 then 0 else x:=by unfold fplain;rw [if_neg nx]
 have ky:fplain y=if y=9223372036854775808 then 0 else y:=by unfold fplain;rw [if_neg ny]
 unfold fkey FK
 rw [kx,ky]
 split <;> split <;> split <;> split <;> (try split) <;> (try split) <;> omega
theorem fplain_lt {x:Nat} (hx:x<18446744073709551616):fplain x<18446744073709551616:=by unfold fplain;split <;> (try split) <;> omega
theorem fz_lt {x:Nat} (hx:x<18446744073709551616):fz x<18446744073709551616:=by unfold fz;split <;> omega
theorem flo_lt {x y:Nat} (hx:x<18446744073709551616):flo x y<18446744073709551616:=by
 unfold flo;split
 ·exact fz_lt hx
 ·omega
theorem fhi_lt {x y:Nat} (hy:y<18446744073709551616):fhi x y<18446744073709551616:=by
 unfold fhi;split
 ·exact fz_lt hy
 ·omega
theorem FK_fz {x:Nat} (hx:x<18446744073709551616):FK (fz x)=FK x:=by
 unfold fz FK;split
 ·rename_i h;rcases h with rfl | rfl <;> rfl
 ·rfl
theorem fnan_fz {x:Nat} (n:¬fnan x):¬fnan (fz x):=by
 unfold fz;split
 ·decide
 ·exact n
theorem fnan_flo {x y:Nat}:¬fnan (flo x y):=by
 unfold flo;split
 ·rename_i h
  exact fnan_fz (of_decide_eq_true h).1
 ·decide
theorem fnan_fhi {x y:Nat}:¬fnan (fhi x y):=by
 unfold fhi;split
 ·rename_i h
  exact fnan_fz (of_decide_eq_true h).2.1
 ·decide
theorem andNot_sign (x:Nat) (hx:x<18446744073709551616):x &&& (18446744073709551615 - 9223372036854775808)=x%9223372036854775808:=by
 show x &&& (2^63 - 1)=x%2^63
 exact Nat.and_two_pow_sub_one_eq_mod x 63
theorem or_sign (x:Nat) (hx:x<9223372036854775808):x ||| 9223372036854775808=x+9223372036854775808:=by
 have:=Nat.two_pow_add_eq_or_of_lt (i:=63) (b:=x) (by simpa using hx) 1
 rw [Nat.or_comm]
 simp at this
 omega
theorem xor_all (p:Nat) (hp:p<18446744073709551616):18446744073709551615 ^^^ p=18446744073709551615 - p:=by
 refine Nat.eq_of_testBit_eq fun i => ?_
 have h1:(18446744073709551615:Nat).testBit i=decide (i<64):=by
  show (2^64 - 1).testBit i=_
  exact Nat.testBit_two_pow_sub_one 64 i
 have h2:(18446744073709551615 - p).testBit i=(decide (i<64) && !p.testBit i):=by
  have:=Nat.testBit_two_pow_sub_succ (n:=64) (x:=p) (by simpa using hp) i
  have e:18446744073709551615 - p=2^64 - (p+1):=by omega
  rw [e];exact this
 rw [Nat.testBit_xor,h1,h2]
 by_cases hi:i<64
 ·simp [hi]
 ·have:p.testBit i=false:=Nat.testBit_lt_two_pow (Nat.lt_of_lt_of_le hp (by show 2^64≤2^i;exact Nat.pow_le_pow_right (by omega) (by omega)))
  simp [hi,this]
end Verge
end

section
namespace Go.Proofs.YtigmpifjcijdbaaGreatDoor
set_option linter.unusedVariables false
set_option linter.unusedSimpArgs false
open Go.RowKit Verge
def Box3 (w:World) (r:Nat) (a b c:Value):Prop:=w.heap[r]?=some (.cells #[a,b,c] 25)
section
variable {w w':World} {r:Nat} {a b c:Value}
theorem Box3.new (w:World) (a b c:Value):Box3 (w.alloc (.cells #[a,b,c] 25)) w.heap.size a b c:=by
 show (w.heap.push _)[w.heap.size]?=_
 simp
theorem Box3.lt (h:Box3 w r a b c):r<w.heap.size:=by
 by_cases hr:r<w.heap.size
 ·exact hr
 ·unfold Box3 at h;rw [Array.getElem?_eq_none (by omega)] at h;cases h
theorem Box3.later (h:Box3 w r a b c) (hb:Below w.heap.size w w'):Box3 w' r a b c:=(hb.block r h.lt).trans h
theorem Box3.cells (h:Box3 w r a b c):w.cell? ⟨r,0,none⟩=some a∧w.cell? ⟨r,1,none⟩=some b∧w.cell? ⟨r,2,none⟩=some c:=by
 unfold Box3 at h
 refine ⟨?_,?_,?_⟩ <;> simp [World.cell?,h]
end
def fbF (b:Nat):Nat:=if b%9223372036854775808<4503599627370496 then b%4503599627370496 else 4503599627370496+b%4503599627370496
def fbE (b:Nat):Nat:=b%9223372036854775808 / 4503599627370496 - 1
def fbN (b:Nat):Nat:=fracN (fbF b) 1 ((fbE b:Int) - 1074)
def fbD (b:Nat):Nat:=fracD (fbF b) 1 ((fbE b:Int) - 1074)
theorem fbF_lt (b:Nat):fbF b<9007199254740992:=by unfold fbF;split <;> omega
end Go.Proofs.YtigmpifjcijdbaaGreatDoor
end
