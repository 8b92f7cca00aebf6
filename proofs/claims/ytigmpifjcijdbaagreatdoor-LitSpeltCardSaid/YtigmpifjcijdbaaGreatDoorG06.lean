/- Plain arithmetic for the trial of a quotient's word. -/
import Derived.Test.YtigmpifjcijdbaaGreatDoorG01
import Derived.Lib.TrailingZeros
import Derived.Laws.BitsAllLaws
namespace Verge
set_option linter.unusedVariables false
set_option linter.unusedSimpArgs false
def PW (k:Nat):Nat:=4294967296^k
theorem PW_zero:PW 0=1:=rfl
theorem getD_append_left' (P D:List Nat) (i:Nat):(P++D).getD (P.length+i) 0=D.getD i 0:=by
 rw [List.getD_eq_getElem?_getD,List.getElem?_append_right (by omega),Nat.add_sub_cancel_left,List.getD_eq_getElem?_getD]
theorem set_append_left' (P D:List Nat) (i v:Nat):(P++D).set (P.length+i) v=P++D.set i v:=by
 rw [List.set_append_right _ _ (by omega),Nat.add_sub_cancel_left]
structure Trial (D V:List Nat) (m:Nat) (un u1 u2 v1 v2:Nat):Prop where
 d32:W32 D
 v32:W32 V
 vl:V.length=m+2
 dl:m+3≤D.length
 lt:val D<val V*4294967296
 gun:D.getD (m+2) 0=un
 gu1:D.getD (m+1) 0=u1
 gu2:D.getD m 0=u2
 gv1:V.getD (m+1) 0=v1
 gv2:V.getD m 0=v2
 top:2147483648≤v1
section
variable {D V:List Nat} {m un u1 u2 v1 v2:Nat}
theorem Trial.un32 (h:Trial D V m un u1 u2 v1 v2):un<4294967296:=by rw [←h.gun];exact h.d32.getD _
theorem Trial.u132 (h:Trial D V m un u1 u2 v1 v2):u1<4294967296:=by rw [←h.gu1];exact h.d32.getD _
theorem Trial.u232 (h:Trial D V m un u1 u2 v1 v2):u2<4294967296:=by rw [←h.gu2];exact h.d32.getD _
theorem Trial.v132 (h:Trial D V m un u1 u2 v1 v2):v1<4294967296:=by rw [←h.gv1];exact h.v32.getD _
theorem Trial.v232 (h:Trial D V m un u1 u2 v1 v2):v2<4294967296:=by rw [←h.gv2];exact h.v32.getD _
theorem Trial.valV (h:Trial D V m un u1 u2 v1 v2):val V=val (V.take m)+4294967296^m*(v2+4294967296*v1)∧val (V.take m)<4294967296^m:=by
 have h1:=val_lt (h.v32.take m)
 rw [List.length_take,Nat.min_eq_left (by have:=h.vl;omega)] at h1
 refine ⟨?_,h1⟩
 rw [val_split V m (by have:=h.vl;omega),val_drop V m,val_drop V (m+1),h.gv1,h.gv2,List.drop_of_length_le (by have:=h.vl;omega)]
 simp
theorem Trial.zero (h:Trial D V m un u1 u2 v1 v2):val (D.drop (m+3))=0:=by
 have h1:=val_lt h.v32
 rw [h.vl] at h1
 have h2:val D<4294967296^(m+3):=by
  rw [show m+3=(m+2)+1 by omega,Nat.pow_succ]
  exact Nat.lt_trans h.lt (Nat.mul_lt_mul_of_pos_right h1 (by omega))
 rw [←val_div D h.d32]
 exact Nat.div_eq_of_lt h2
theorem Trial.valD (h:Trial D V m un u1 u2 v1 v2):val D=val (D.take m)+4294967296^m*(u2+4294967296*(u1+4294967296*un))∧val (D.take m)<4294967296^m:=by
 have h1:=val_lt (h.d32.take m)
 rw [List.length_take,Nat.min_eq_left (by have:=h.dl;omega)] at h1
 refine ⟨?_,h1⟩
 rw [val_split D m (by have:=h.dl;omega),val_drop D m,val_drop D (m+1),val_drop D (m+2),h.gun,h.gu1,h.gu2,h.zero]
 simp
theorem Trial.take (h:Trial D V m un u1 u2 v1 v2):val (D.take (m+3))=val D:=by
 have:=val_split D (m+3) h.dl
 rw [h.zero] at this
 omega
theorem Trial.un_le (h:Trial D V m un u1 u2 v1 v2):un≤v1:=by
 obtain ⟨e1,l1⟩:=h.valV
 obtain ⟨e2,l2⟩:=h.valD
 have h3:=h.lt
 have hv2:=h.v232
 rw [e1,e2] at h3
 generalize 4294967296^m=P at *
 rcases Nat.lt_or_ge v1 un with hc | hc
 ·exfalso
  have:(P*(v2+4294967296*v1)+P)*4294967296≤P*(4294967296*(4294967296*un)):=by
   have e:(P*(v2+4294967296*v1)+P)*4294967296=P*((v2+1+4294967296*v1)*4294967296):=by grind
   rw [e]
   exact Nat.mul_le_mul_left _ (by omega)
  have e3:P*(u2+4294967296*(u1+4294967296*un))=P*(u2+4294967296*u1)+P*(4294967296*(4294967296*un)):=by grind
  rw [e3] at h3
  have:(val (V.take m)+P*(v2+4294967296*v1))*4294967296<(P*(v2+4294967296*v1)+P)*4294967296:=Nat.mul_lt_mul_of_pos_right (by omega) (by omega)
  have:=Nat.zero_le (P*(u2+4294967296*u1))
  omega
 ·exact hc
def Tries (D V:List Nat) (top v1 x rest:Nat):Prop:=x*v1+rest=top∧val D<(x+1)*val V
theorem Trial.start (h:Trial D V m un u1 u2 v1 v2) (top:Nat) (ht:u1+4294967296*un=top):Tries D V top v1 (top / v1) (top%v1):=by
 refine ⟨by rw [Nat.mul_comm];exact Nat.div_add_mod top v1,?_⟩
 obtain ⟨e1,l1⟩:=h.valV
 obtain ⟨e2,l2⟩:=h.valD
 have hu2:=h.u232
 have h3:top<(top / v1+1)*v1:=by
  rw [Nat.mul_comm];exact Nat.lt_mul_div_succ top (by have:=h.top;omega)
 rw [e2,e1,ht]
 generalize 4294967296^m=P at *
 generalize top / v1=x at *
 have h4:P*(u2+4294967296*top)+P≤P*(4294967296*((x+1)*v1)):=by
  have e:P*(u2+4294967296*top)+P=P*(u2+4294967296*top+1):=by grind
  rw [e]
  exact Nat.mul_le_mul_left _ (by omega)
 have h5:P*(4294967296*((x+1)*v1))≤(x+1)*(val (V.take m)+P*(v2+4294967296*v1)):=by
  have e:(x+1)*(val (V.take m)+P*(v2+4294967296*v1))=P*(4294967296*((x+1)*v1))+((x+1)*val (V.take m)+(x+1)*(P*v2)):=by grind
  omega
 omega
theorem Trial.xle (h:Trial D V m un u1 u2 v1 v2) (top x rest:Nat) (ht:u1+4294967296*un=top) (hx:Tries D V top v1 x rest):x≤4294967297:=by
 have h1:=h.un_le
 have h2:=h.u132
 have h3:=h.top
 rcases Nat.lt_or_ge 4294967297 x with hc | hc
 ·exfalso
  have:4294967298*v1≤x*v1:=Nat.mul_le_mul_right _ hc
  have:=hx.1
  omega
 ·exact hc
theorem Trial.down (h:Trial D V m un u1 u2 v1 v2) (top x rest:Nat) (ht:u1+4294967296*un=top) (hx:Tries D V top v1 x rest)
  (hg:4294967296≤x∨rest*4294967296+u2<x*v2):0<x∧Tries D V top v1 (x - 1) (rest+v1):=by
 have h0:0<x:=by
  rcases hg with hg | hg
  ·omega
  ·rcases Nat.eq_zero_or_pos x with h0 | h0
   ·subst h0;omega
   ·exact h0
 obtain ⟨y,rfl⟩:∃y,x=y+1:=⟨x - 1,by omega⟩
 refine ⟨h0,by have:=hx.1;rw [Nat.add_mul] at this;rw [Nat.add_sub_cancel];omega,?_⟩
 rw [Nat.add_sub_cancel]
 rcases hg with hg | hg
 ·have h1:=h.lt
  have:4294967296*val V≤(y+1)*val V:=Nat.mul_le_mul_right _ hg
  rw [Nat.mul_comm] at h1
  omega
 ·obtain ⟨e1,l1⟩:=h.valV
  obtain ⟨e2,l2⟩:=h.valD
  have h5:=hx.1
  rw [e2,e1,ht]
  generalize 4294967296^m=P at *
  have h6:u2+4294967296*top+1≤(y+1)*(v2+4294967296*v1):=by
   have e:(y+1)*(v2+4294967296*v1)=(y+1)*v2+4294967296*((y+1)*v1):=by grind
   rw [e]
   omega
  have h7:P*(u2+4294967296*top+1)≤P*((y+1)*(v2+4294967296*v1)):=Nat.mul_le_mul_left _ h6
  have e8:(y+1)*(val (V.take m)+P*(v2+4294967296*v1))=P*((y+1)*(v2+4294967296*v1))+(y+1)*val (V.take m):=by grind
  have e9:P*(u2+4294967296*top+1)=P*(u2+4294967296*top)+P:=by grind
  have:=Nat.zero_le ((y+1)*val (V.take m))
  omega
theorem Trial.stop (h:Trial D V m un u1 u2 v1 v2) (top x rest:Nat) (ht:u1+4294967296*un=top) (hx:Tries D V top v1 x rest)
  (hg:4294967296≤rest∨x<4294967296∧x*v2≤rest*4294967296+u2):x<4294967296∧x*val V<val D+val V:=by
 have h1:=h.un_le
 have h2:=h.u132
 have h3:=h.top
 have h4:=h.v232
 have hxB:x<4294967296:=by
  rcases hg with hg | hg
  ·rcases Nat.lt_or_ge x 4294967296 with hc | hc
   ·exact hc
   ·exfalso
    have:4294967296*v1≤x*v1:=Nat.mul_le_mul_right _ hc
    have:=hx.1
    omega
  ·exact hg.1
 refine ⟨hxB,?_⟩
 have hg2:x*v2≤rest*4294967296+u2:=by
  rcases hg with hg | hg
  ·have:x*v2≤4294967295*4294967295:=Nat.mul_le_mul (by omega) (by omega)
   omega
  ·exact hg.2
 obtain ⟨e1,l1⟩:=h.valV
 obtain ⟨e2,l2⟩:=h.valD
 have h5:=hx.1
 rw [e2,e1,ht]
 have hP:0<4294967296^m:=Nat.pow_pos (by omega)
 generalize 4294967296^m=P at *
 have h6:x*(v2+4294967296*v1)≤u2+4294967296*top:=by
  have e:x*(v2+4294967296*v1)=x*v2+4294967296*(x*v1):=by grind
  rw [e]
  omega
 have h7:P*(x*(v2+4294967296*v1))≤P*(u2+4294967296*top):=Nat.mul_le_mul_left _ h6
 have h8:x*val (V.take m)≤4294967296*P:=Nat.mul_le_mul (by omega) (by omega)
 have h9:4294967296*P≤P*(v2+4294967296*v1):=by
  rw [Nat.mul_comm];exact Nat.mul_le_mul_left _ (by omega)
 have h10:x*val (V.take m)<4294967296*P:=by
  rcases Nat.eq_zero_or_pos x with h0 | h0
  ·subst h0;simp;exact hP
  ·have:x*val (V.take m)<x*P:=Nat.mul_lt_mul_of_pos_left l1 h0
   have:x*P≤4294967296*P:=Nat.mul_le_mul_right _ (by omega)
   omega
 have e:x*(val (V.take m)+P*(v2+4294967296*v1))=x*val (V.take m)+P*(x*(v2+4294967296*v1)):=by grind
 omega
end
theorem take_step (D D' V:List Nat) (i x y u c b s c' b' lo:Nat) (hi:i<D'.length) (hl:D'.length=D.length) (hd:D'.drop i=D.drop i) (hu:D'.getD i 0=u) (hy:V.getD i 0=y)
  (h:val (D'.take i)+x*val (V.take i)=val (D.take i)+(c+b)*PW i)
  (hc:c+x*y=lo+4294967296*c') (hs:s+lo+b=u+4294967296*b') :
  val ((D'.set i s).take (i+1))+x*val (V.take (i+1))=val (D.take (i+1))+(c'+b')*PW (i+1)∧(D'.set i s).drop (i+1)=D.drop (i+1):=by
 simp only [PW] at *
 have hg:D.getD i 0=u:=by
  have h1:=getD_drop D' i 0
  have h2:=getD_drop D i 0
  rw [Nat.add_zero] at h1 h2
  rw [←h2,←hd,h1,hu]
 constructor
 ·rw [val_take_set D' i s hi,val_take_succ V,val_take_succ D,hg,hy,Nat.pow_succ]
  generalize 4294967296^i=P at *
  grind
 ·rw [drop_set_gt D' i (i+1) s (by omega)]
  have:=congrArg (List.drop 1) hd
  rwa [List.drop_drop,List.drop_drop] at this
theorem give_step (D D' V:List Nat) (i y u c s c':Nat) (hi:i<D'.length) (hd:D'.drop i=D.drop i) (hu:D'.getD i 0=u) (hy:V.getD i 0=y)
  (h:val (D'.take i)+c*PW i=val (D.take i)+val (V.take i)) (hs:u+y+c=s+4294967296*c') :
  val ((D'.set i s).take (i+1))+c'*PW (i+1)=val (D.take (i+1))+val (V.take (i+1))∧(D'.set i s).drop (i+1)=D.drop (i+1):=by
 simp only [PW] at *
 have hg:D.getD i 0=u:=by
  have h1:=getD_drop D' i 0
  have h2:=getD_drop D i 0
  rw [Nat.add_zero] at h1 h2
  rw [←h2,←hd,h1,hu]
 constructor
 ·rw [val_take_set D' i s hi,val_take_succ V,val_take_succ D,hg,hy,Nat.pow_succ]
  generalize 4294967296^i=P at *
  grind
 ·rw [drop_set_gt D' i (i+1) s (by omega)]
  have:=congrArg (List.drop 1) hd
  rwa [List.drop_drop,List.drop_drop] at this
theorem sub_word (u lo b s bb:Nat) (hs:((u:Int) - lo - b)%4294967296=s) (hb:((lo:Int)+b - u+4294967295) / 4294967296=bb):s+lo+b=u+4294967296*bb:=by omega
theorem take_last {D D' V:List Nat} {k x t c b s b' Q:Nat} (hQ:PW k=Q) (hV:V.length=k) (hk:k<D'.length) (hl:D'.length=D.length) (hd:D'.drop k=D.drop k) (ht:D'.getD k 0=t)
  (h:val (D'.take k)+x*val (V.take k)=val (D.take k)+(c+b)*PW k) (hs:s+c+b=t+4294967296*b') :
  val ((D'.set k s).take (k+1))+x*val V=val (D.take (k+1))+Q*(4294967296*b')∧(D'.set k s).drop (k+1)=D.drop (k+1):=by
 simp only [PW] at *
 have hg:D.getD k 0=t:=by
  have h1:=getD_drop D' k 0
  have h2:=getD_drop D k 0
  rw [Nat.add_zero] at h1 h2
  rw [←h2,←hd,h1,ht]
 rw [List.take_of_length_le (l:=V) (by omega),hQ] at h
 constructor
 ·rw [val_take_set D' k s hk,val_take_succ D,hg,hQ]
  have e1:Q*s+Q*c+Q*b=Q*t+Q*(4294967296*b'):=by rw [←Nat.mul_add,←Nat.mul_add,←Nat.mul_add,hs]
  have e2:(c+b)*Q=Q*c+Q*b:=by rw [Nat.mul_comm,Nat.mul_add]
  rw [e2] at h
  generalize Q*s=a1 at *
  generalize Q*c=a2 at *
  generalize Q*b=a3 at *
  generalize Q*t=a4 at *
  generalize Q*(4294967296*b')=a5 at *
  omega
 ·rw [drop_set_gt D' k (k+1) s (by omega)]
  have:=congrArg (List.drop 1) hd
  rwa [List.drop_drop,List.drop_drop] at this
theorem take_over {D D' V E:List Nat} {m un u1 u2 v1 v2 x s' Q:Nat} (h:Trial D V m un u1 u2 v1 v2) (hE:D'.set (m+2) s'=E)
  (t1:val ((D'.set (m+2) s').take (m+2+1))+x*val V=val (D.take (m+2+1))+Q*(4294967296*1)) (t2:(D'.set (m+2) s').drop (m+2+1)=D.drop (m+2+1)) :
  val (E.take (m+3))+x*val V=val D+Q*4294967296∧E.drop (m+3)=D.drop (m+3):=by
 have e:=h.take
 rw [hE] at t1 t2
 have e3:m+2+1=m+3:=by omega
 rw [e3] at t1 t2
 rw [e,Nat.mul_one] at t1
 exact And.intro t1 t2
theorem trial_fit {D V E:List Nat} {m un u1 u2 v1 v2 x:Nat} (h:Trial D V m un u1 u2 v1 v2) (hq:val D<(x+1)*val V) (hE:E.drop (m+3)=D.drop (m+3)) (hl:E.length=D.length)
  (hv:val (E.take (m+3))+x*val V=val D):val E=val D%val V∧x=val D / val V:=by
 have hz:=h.zero
 have hdl:=h.dl
 clear h
 generalize m+3=k at *
 have e1:val E=val (E.take k):=by
  rw [val_split E k (by omega),hE,hz,Nat.mul_zero,Nat.add_zero]
 generalize val D=d at *
 generalize val V=v at *
 rw [e1]
 generalize val (E.take k)=r at *
 have e2:d=v*x+r:=by rw [Nat.mul_comm];omega
 have e3:r<v:=by
  rw [Nat.add_mul,Nat.one_mul] at hq
  omega
 constructor
 ·rw [e2,Nat.mul_add_mod,Nat.mod_eq_of_lt e3]
 ·rw [e2,Nat.mul_add_div (by omega),Nat.div_eq_of_lt e3,Nat.add_zero]
theorem fit_end {D D' V:List Nat} {m un u1 u2 v1 v2 x t c b s:Nat} (h:Trial D V m un u1 u2 v1 v2) (hq:val D<(x+1)*val V) (hl:D'.length=D.length) (hd:D'.drop (m+2)=D.drop (m+2))
  (ht:D'.getD (m+2) 0=t) (hv:val (D'.take (m+2))+x*val (V.take (m+2))=val (D.take (m+2))+(c+b)*PW (m+2)) (hs:s+c+b=t) :
  val (D'.set (m+2) s)=val D%val V∧x=val D / val V:=by
 have hdl:=h.dl
 have hvl:=h.vl
 have htk:=h.take
 obtain ⟨Q,hQ⟩:∃Q,PW (m+2)=Q:=⟨_,rfl⟩
 obtain ⟨t1,t2⟩:=take_last (k:=m+2) (s:=s) (b':=0) hQ hvl (by omega) hl hd ht hv (by omega)
 refine trial_fit h hq t2 (by rw [List.length_set];exact hl) ?_
 have e3:m+2+1=m+3:=by omega
 rw [e3,htk] at t1
 rw [t1]
 omega
theorem over_plain (f e t c Q v d x:Nat) (hQ:0<Q) (ht:t<4294967296) (hc:c≤1) (hf:f<Q) (hvQ:v<Q) (hq:d<(x+1)*v) (hs:x*v<d+v)
  (hv:e+Q*t+x*v=d+Q*4294967296) (he:e<Q) (hg:f+c*Q=e+v) :
  f+Q*((t+c)%4294967296)=d%v∧0<x∧x - 1=d / v:=by
 have hx0:0<x:=by
  rcases Nat.eq_zero_or_pos x with h0 | h0
  ·subst h0
   exfalso
   have h7:Q*t+Q≤Q*4294967296:=by
    rw [←Nat.mul_succ];exact Nat.mul_le_mul_left _ ht
   omega
  ·exact h0
 obtain ⟨y,rfl⟩:∃y,x=y+1:=⟨x - 1,by omega⟩
 have e5:(y+1)*v=v*y+v:=by rw [Nat.add_mul,Nat.one_mul,Nat.mul_comm]
 have e6:(y+1+1)*v=v*y+v+v:=by rw [Nat.add_mul,e5,Nat.one_mul]
 rw [e5] at hv hs
 rw [e6] at hq
 obtain ⟨Y,hY⟩:∃Y,v*y=Y:=⟨_,rfl⟩
 rw [hY] at hv hs hq
 have h8:Q*(t+c)=Q*t+c*Q:=by rw [Nat.mul_add,Nat.mul_comm Q c]
 obtain ⟨cq,hcq⟩:∃cq,c*Q=cq:=⟨_,rfl⟩
 obtain ⟨qt,hqt⟩:∃qt,Q*t=qt:=⟨_,rfl⟩
 rw [hcq,hqt] at h8
 rw [hcq] at hg
 rw [hqt] at hv
 have hkey:t+c=4294967296:=by
  rcases Nat.lt_or_ge (t+c) 4294967296 with hlt | hge
  ·exfalso
   have h7:Q*(t+c)+Q≤Q*4294967296:=by
    rw [←Nat.mul_succ];exact Nat.mul_le_mul_left _ hlt
   rw [h8] at h7
   omega
  ·omega
 rw [hkey] at h8
 have e9:d=v*y+f:=by rw [hY];omega
 have hqtQ:qt+Q≤Q*4294967296:=by
  rw [←hqt,←Nat.mul_succ];exact Nat.mul_le_mul_left _ ht
 have hfv:f<v:=by rw [hY] at e9;omega
 rw [hkey,Nat.mod_self,Nat.mul_zero,Nat.add_zero]
 refine ⟨?_,by omega,?_⟩
 ·rw [e9,Nat.mul_add_mod,Nat.mod_eq_of_lt hfv]
 ·rw [e9,Nat.mul_add_div (by omega),Nat.div_eq_of_lt hfv,Nat.add_zero];omega
theorem over_pos {E:List Nat} {k x Q d v:Nat} (hQ:PW k=Q) (hE32:W32 E) (hk:k<E.length) (hv:val (E.take (k+1))+x*v=d+Q*4294967296):0<x:=by
 simp only [PW] at hQ
 rcases Nat.eq_zero_or_pos x with h0 | h0
 ·subst h0
  exfalso
  have h1:=val_lt (hE32.take k)
  rw [List.length_take,Nat.min_eq_left (by omega),hQ] at h1
  rw [val_take_succ,hQ] at hv
  have h2:Q*E.getD k 0+Q≤Q*4294967296:=by
   rw [←Nat.mul_succ];exact Nat.mul_le_mul_left _ (hE32.getD k)
  omega
 ·exact h0
theorem trial_over {D V E F:List Nat} {m un u1 u2 v1 v2 x c Q:Nat} (h:Trial D V m un u1 u2 v1 v2) (hq:val D<(x+1)*val V) (hs:x*val V<val D+val V)
  (hQ:PW (m+2)=Q)
  (hE:E.drop (m+3)=D.drop (m+3)) (hlE:E.length=D.length) (hE32:W32 E) (hF32:W32 F)
  (hv:val (E.take (m+3))+x*val V=val D+Q*4294967296) (hF:F.drop (m+2)=E.drop (m+2)) (hlF:F.length=E.length)
  (hg0:val (F.take (m+2))+c*PW (m+2)=val (E.take (m+2))+val (V.take (m+2))) (hc:c≤1) :
  val (F.set (m+2) ((F.getD (m+2) 0+c)%4294967296))=val D%val V∧0<x∧x - 1=val D / val V:=by
 have hdl:=h.dl
 have hz:=h.zero
 have hvl:=h.vl
 have hV32:=h.v32
 have hg:=hg0
 rw [hQ,List.take_of_length_le (l:=V) (Nat.le_of_eq hvl)] at hg
 clear h hg0
 have e3:m+3=(m+2)+1:=rfl
 rw [e3] at *
 generalize m+2=k at *
 simp only [PW] at hQ
 have hGF:F.getD k 0=E.getD k 0:=by
  have h1:=getD_drop F k 0
  have h2:=getD_drop E k 0
  rw [Nat.add_zero] at h1 h2
  rw [←h1,←h2,hF]
 have hd3:F.drop (k+1)=D.drop (k+1):=by
  rw [←hE]
  have:=congrArg (List.drop 1) hF
  rwa [List.drop_drop,List.drop_drop] at this
 obtain ⟨t,ht⟩:∃t,F.getD k 0=t:=⟨_,rfl⟩
 have ht32:t<4294967296:=by rw [←ht];exact hF32.getD _
 have e0:val (F.set k ((F.getD k 0+c)%4294967296))=val (F.take k)+Q*((t+c)%4294967296):=by
  rw [val_split _ (k+1) (by rw [List.length_set];omega),drop_set_gt _ _ _ _ (by omega),hd3,hz,val_take_set _ _ _ (by omega),ht,hQ,Nat.mul_zero,Nat.add_zero]
 have e1:val (E.take (k+1))=val (E.take k)+Q*t:=by rw [val_take_succ,←hGF,ht,hQ]
 rw [e1] at hv
 rw [e0]
 have hVlt:=val_lt hV32
 rw [hvl,hQ] at hVlt
 have h4:=val_lt (hF32.take k)
 rw [List.length_take,Nat.min_eq_left (by omega),hQ] at h4
 have h5:=val_lt (hE32.take k)
 rw [List.length_take,Nat.min_eq_left (by omega),hQ] at h5
 exact over_plain _ _ t c Q _ _ x (by omega) ht32 hc h4 hVlt hq hs hv h5 hg
end Verge
namespace Verge
set_option linter.unusedVariables false
set_option linter.unusedSimpArgs false
def nquo (a b:Nat):List Nat×List Nat×Int:=if b=0 then ([],[],1) else if long a||long b then ([],[],2) else (dig (a / b),dig (a%b),0)
theorem nquo_zero (a:Nat):nquo a 0=([],[],1):=by simp [nquo]
theorem nquo_long {a b:Nat} (h0:b≠0) (h:(long a||long b)=true):nquo a b=([],[],2):=by simp only [nquo,h,h0,if_true,if_false]
theorem nquo_ok {a b:Nat} (h0:b≠0) (h:(long a||long b)=false):nquo a b=(dig (a / b),dig (a%b),0):=by simp [nquo,h,h0]
theorem pos_of_wl {xs:List Nat} (h:0<wl xs):val xs≠0:=fun e=>by have:=(val_eq_zero_iff xs).1 e;omega
theorem top_shift {ys L:List Nat} {k s:Nat} (hy:W32 ys) (hk:wl ys=k+1) (hs:blen (ys.getD k 0)+s=32) (hL:W32 L) (hl:L.length=k+2) (hv:val L=val ys*2^s) :
  val (L.take (k+1))=val ys*2^s∧2147483648≤(L.take (k+1)).getD k 0:=by
 have hb:=blen_words hy k hk
 have h0:val ys≠0:=pos_of_wl (by omega)
 have h1:=(blen_lt (val ys) _).1 (Nat.le_refl _)
 have h2:=blen_le h0
 have hbp:=blen_pos h0
 have h3:val L<4294967296^(k+1):=by
  rw [hv,pow32,show 32*(k+1)=blen (val ys)+s by omega,Nat.pow_add]
  exact Nat.mul_lt_mul_of_pos_right h1 (Nat.pow_pos (by omega))
 have h4:2147483648*4294967296^k≤val L:=by
  rw [hv,pow32,show (2147483648:Nat)=2^31 by rfl,←Nat.pow_add,show 31+32*k=(blen (val ys) - 1)+s by omega,Nat.pow_add]
  exact Nat.mul_le_mul_right _ h2
 have e1:val (L.take (k+1))=val L:=by
  have hz:val (L.drop (k+1))=0:=by rw [←val_div L hL];exact Nat.div_eq_of_lt h3
  have:=val_split L (k+1) (by omega)
  rw [hz,Nat.mul_zero,Nat.add_zero] at this
  exact this.symm
 refine ⟨by rw [e1,hv],?_⟩
 have h5:=val_take_succ L k
 have h6:=val_lt (hL.take k)
 rw [List.length_take,Nat.min_eq_left (by omega)] at h6
 rw [getD_take L (k+1) k (by omega)]
 rw [←e1,h5] at h4
 rcases Nat.lt_or_ge (L.getD k 0) 2147483648 with hc | hc
 ·exfalso
  have:4294967296^k*L.getD k 0+4294967296^k≤2147483648*4294967296^k:=by
   rw [←Nat.mul_succ,Nat.mul_comm];exact Nat.mul_le_mul_right _ hc
  omega
 ·exact hc
def QInv (tot:Nat) (U Q V:List Nat) (p:Nat):Prop:=tot=val U+PW p*(val V*val (Q.drop p))∧val (U.drop p)<val V
theorem quo_lt {U V:List Nat} {j:Nat} (hU:W32 U) (h:val (U.drop (j+1))<val V):val (U.drop j)<val V*4294967296:=by
 rw [val_drop]
 have:=hU.getD j
 omega
theorem quo_step {tot:Nat} {U Q V D:List Nat} {j q:Nat} (hj:j<Q.length) (hjU:j≤U.length) (hI:QInv tot U Q V (j+1)) (hq:q=val (U.drop j) / val V) (hD:val D=val (U.drop j)%val V)
  (hV:0<val V):QInv tot (U.take j++D) (Q.set j q) V j:=by
 obtain ⟨h1,h2⟩:=hI
 have hl:(U.take j).length=j:=by rw [List.length_take];omega
 refine ⟨?_,?_⟩
 ·rw [h1,val_append,hl,val_split U j hjU,val_drop (Q.set j q),getD_set_self _ _ _ hj,drop_set_gt _ _ _ _ (by omega)]
  have e:val (U.drop j)=val V*q+val D:=by rw [hq,hD];exact (Nat.div_add_mod _ _).symm
  rw [e]
  simp only [PW,Nat.pow_succ]
  generalize 4294967296^j=P
  grind
 ·have e2:(U.take j++D).drop j=D:=by
   rw [List.drop_append_of_le_length (by omega),List.drop_of_length_le (by omega),List.nil_append]
  rw [e2,hD]
  exact Nat.mod_lt _ hV
theorem quo_end {a b s:Nat} {U Q V:List Nat} (hb:0<b) (hV:val V=b*2^s) (hI:QInv (a*2^s) U Q V 0):val Q=a / b∧val U / 2^s=a%b∧val U<val V:=by
 obtain ⟨h1,h2⟩:=hI
 rw [List.drop_zero,PW_zero,Nat.one_mul] at h1
 rw [List.drop_zero] at h2
 have hp:0<2^s:=Nat.pow_pos (by omega)
 rw [hV] at h1 h2
 generalize 2^s=P at *
 have e0:b*P*val Q=P*(b*val Q):=by grind
 rw [e0] at h1
 have e1:(val U)%P=0:=by
  have:(a*P)%P=0:=Nat.mul_mod_left _ _
  rw [h1,Nat.add_mul_mod_self_left] at this
  exact this
 obtain ⟨r,hr⟩:∃r,val U=P*r:=⟨val U / P,by have:=Nat.div_add_mod (val U) P;omega⟩
 have e2:a=b*val Q+r:=by
  rw [hr,←Nat.mul_add,Nat.mul_comm a P] at h1
  have:=Nat.eq_of_mul_eq_mul_left hp h1
  omega
 have e3:r<b:=by
  rw [hr,Nat.mul_comm b P] at h2
  exact Nat.lt_of_mul_lt_mul_left h2
 refine ⟨?_,?_,by rw [hV];exact h2⟩
 ·rw [e2,Nat.mul_add_div hb,Nat.div_eq_of_lt e3,Nat.add_zero]
 ·rw [hr,Nat.mul_div_cancel_left _ hp,e2,Nat.mul_add_mod,Nat.mod_eq_of_lt e3]
theorem quo_start {xs U V Q:List Nat} {s m K:Nat} (hx:W32 xs) (hs:s<32) (hxl:wl xs=K+(m+2)) (hU:W32 U) (hl:U.length=K+(m+2)+1) (hv:val U=val xs*2^s)
  (hV32:W32 V) (hVl:V.length=m+2) (hVt:2147483648≤V.getD (m+1) 0) (hQ:Q.drop (K+1)=[]):QInv (val xs*2^s) U Q V (K+1):=by
 refine ⟨by rw [hQ,val_nil,Nat.mul_zero,Nat.mul_zero,Nat.add_zero,hv],?_⟩
 rw [←val_div U hU]
 have h1:val xs<4294967296^(K+(m+2)):=by
  rw [←dig_length_le,←wl_eq hx];omega
 have h2:2^s≤2147483648:=by
  have:=Nat.pow_le_pow_right (n:=2) (by omega) (show s≤31 by omega)
  simpa using this
 have h3:val V=val (V.take (m+1))+4294967296^(m+1)*V.getD (m+1) 0:=by
  rw [←val_take_succ,List.take_of_length_le (by omega)]
 rw [Nat.div_lt_iff_lt_mul (Nat.pow_pos (by omega)),hv]
 have h4:val xs*2^s<4294967296^(K+(m+2))*2147483648:=by
  have:=Nat.mul_lt_mul_of_pos_right h1 (show 0<2^s from Nat.pow_pos (by omega))
  have:=Nat.mul_le_mul_left (4294967296^(K+(m+2))) h2
  omega
 have h5:4294967296^(K+(m+2))*2147483648≤val V*4294967296^(K+1):=by
  rw [show K+(m+2)=(m+1)+(K+1) by omega,Nat.pow_add,Nat.mul_assoc,Nat.mul_comm (4294967296^(K+1)),←Nat.mul_assoc]
  refine Nat.mul_le_mul_right _ ?_
  have:=Nat.mul_le_mul_left (4294967296^(m+1)) hVt
  omega
 omega
theorem trial_of {U V:List Nat} {j m K:Nat} (hU:W32 U) (hV:W32 V) (hVl:V.length=m+2) (hVt:2147483648≤V.getD (m+1) 0) (hl:U.length=K+(m+2)+1) (hj:j≤K)
  (h:val (U.drop (j+1))<val V):Trial (U.drop j) V m ((U.drop j).getD (m+2) 0) ((U.drop j).getD (m+1) 0) ((U.drop j).getD m 0) (V.getD (m+1) 0) (V.getD m 0):=
 ⟨hU.drop j,hV,hVl,by rw [List.length_drop];omega,quo_lt hU h,rfl,rfl,rfl,rfl,rfl,hVt⟩
theorem rest_take {U V:List Nat} {m:Nat} (hU:W32 U) (hV:W32 V) (hVl:V.length=m+2) (hl:m+2≤U.length) (h:val U<val V):val (U.take (m+2))=val U:=by
 have h1:=val_lt hV
 rw [hVl] at h1
 have h2:=val_split U (m+2) hl
 have h3:val (U.drop (m+2))=0:=by rw [←val_div U hU];exact Nat.div_eq_of_lt (Nat.lt_trans h h1)
 rw [h3,Nat.mul_zero,Nat.add_zero] at h2
 exact h2.symm
end Verge
namespace Verge
set_option linter.unusedVariables false
set_option linter.unusedSimpArgs false
def nshl (a:Nat) (e:Int):List Nat×Int:=if e<0 then ([],1) else if long a then ([],2) else if a=0 then ([],0) else if 524288 - (blen a:Int)<e then ([],2) else (dig (a*2^e.toNat),0)
def nshr (a:Nat) (e:Int):List Nat×Bool×Int:=if e<0 then ([],false,1) else if long a then ([],false,2) else (dig (a / 2^e.toNat),decide (a%2^e.toNat≠0),0)
theorem up_val (S:List Nat) (k r c v:Nat) (hS:val S=v*2^r):val ((List.replicate c 0).take k++S)=v*2^(32*(min k c)+r):=by
 rw [val_append,List.take_replicate,val_zeros,List.length_replicate,hS,pow32,Nat.pow_add]
 grind
theorem up_row (S:List Nat) (k n r v e:Nat) (hl:S.length=n+1) (hS:val S=v*2^r) (hk:e / 32=k) (hr:e%32=r) :
  ((List.replicate (k+n+1) 0).take k++S++(List.replicate (k+n+1) 0).drop (k+(n+1))).length=k+(n+1) ∧
  val ((List.replicate (k+n+1) 0).take k++S++(List.replicate (k+n+1) 0).drop (k+(n+1)))=v*2^e:=by
 have h0:(List.replicate (k+n+1) 0).drop (k+(n+1))=[]:=List.drop_of_length_le (by simp;omega)
 rw [h0,List.append_nil]
 refine ⟨by simp [hl];omega,?_⟩
 rw [up_val S k r (k+n+1) v hS,Nat.min_eq_left (by omega),←hk,←hr,Nat.div_add_mod]
theorem pow_shift (e:Nat):2^e=4294967296^(e / 32)*2^(e%32):=by
 rw [pow32,←Nat.pow_add,Nat.div_add_mod]
theorem down_all {xs:List Nat} (h:W32 xs) (e:Nat) (hl:wl xs≤e / 32):val xs / 2^e=0∧val xs%2^e=val xs:=by
 have h1:val xs<2^e:=by
  have h2:val xs<4294967296^(e / 32):=by rw [←dig_length_le,←wl_eq h];exact hl
  rw [pow_shift]
  have:=Nat.mul_le_mul_left (4294967296^(e / 32)) (show 1≤2^(e%32) from Nat.pow_pos (by omega))
  omega
 exact ⟨Nat.div_eq_of_lt h1,Nat.mod_eq_of_lt h1⟩
theorem val_take_mono (xs:List Nat) {i k:Nat} (h:i≤k):val (xs.take i)≤val (xs.take k):=by
 obtain ⟨d,rfl⟩:∃d,k=i+d:=⟨k - i,by omega⟩
 induction d with
 | zero=>exact Nat.le_refl _
 | succ d ih =>
  have:=ih (by omega)
  rw [←Nat.add_assoc,val_take_succ]
  omega
theorem lost_step (xs:List Nat) (i z:Nat) (hz:xs.getD i 0=z):val (xs.take (i+1))≠0↔val (xs.take i)≠0∨z≠0:=by
 rw [val_take_succ,hz]
 have hP:0<4294967296^i:=Nat.pow_pos (by omega)
 generalize 4294967296^i=P at *
 constructor
 ·intro hn
  rcases Nat.eq_zero_or_pos z with h0 | h0
  ·subst h0;left;simpa using hn
  ·right;omega
 ·rintro (h0 | h0)
  ·omega
  ·have:1*1≤P*z:=Nat.mul_le_mul hP (by omega)
   omega
theorem down_div {xs:List Nat} (h:W32 xs) (e:Nat):val xs / 2^e=val (xs.drop (e / 32)) / 2^(e%32):=by
 rw [pow_shift,←Nat.div_div_eq_div_mul,val_div xs h]
theorem down_mod {xs:List Nat} (h:W32 xs) (e x:Nat) (hk:e / 32<xs.length) (hx:xs.getD (e / 32) 0=x) :
  val xs%2^e=val (xs.take (e / 32))+4294967296^(e / 32)*(x%2^(e%32)):=by
 rw [pow_shift,Nat.mod_mul,val_div xs h,val_drop,hx]
 have h1:=val_lt (h.take (e / 32))
 rw [List.length_take,Nat.min_eq_left (by omega)] at h1
 have h2:val xs%4294967296^(e / 32)=val (xs.take (e / 32)):=by
  rw [val_split xs (e / 32) (by omega),Nat.add_mul_mod_self_left,Nat.mod_eq_of_lt h1]
 rw [h2]
 have h3:2^(e%32)*2^(32 - e%32)=4294967296:=by rw [←Nat.pow_add,show e%32+(32 - e%32)=32 by omega]
 have h4:(x+4294967296*val (xs.drop (e / 32+1)))%2^(e%32)=x%2^(e%32):=by
  rw [←h3,Nat.mul_assoc,Nat.add_mul_mod_self_left]
 rw [h4]
theorem down_lost {xs:List Nat} (h:W32 xs) (e x:Nat) (hk:e / 32<xs.length) (hx:xs.getD (e / 32) 0=x) :
  val xs%2^e≠0↔x%2^(e%32)≠0∨val (xs.take (e / 32))≠0:=by
 rw [down_mod h e x hk hx]
 have hP:0<4294967296^(e / 32):=Nat.pow_pos (by omega)
 generalize 4294967296^(e / 32)=P at *
 generalize x%2^(e%32)=r
 constructor
 ·intro hn
  rcases Nat.eq_zero_or_pos r with h0 | h0
  ·right;subst h0;simpa using hn
  ·left;omega
 ·rintro (h0 | h0)
  ·have:1*1≤P*r:=Nat.mul_le_mul hP (by omega)
   omega
  ·omega
end Verge
namespace Verge
set_option linter.unusedVariables false
set_option linter.unusedSimpArgs false
theorem words_of_le (x k:Nat) (h:x≤2^(32*k)):(dig x).length≤k+1:=by
 rw [dig_length_le,Nat.pow_succ,pow32]
 have:0<2^(32*k):=Nat.pow_pos (by omega)
 omega
end Verge
namespace Verge
set_option linter.unusedVariables false
set_option linter.unusedSimpArgs false
theorem dig_mul_length (a b:Nat):(dig (a*b)).length≤(dig a).length+(dig b).length:=by
 rw [dig_length_le,Nat.pow_add]
 have h1:=(dig_length_le (n:=a) (k:=(dig a).length)).1 (Nat.le_refl _)
 have h2:=(dig_length_le (n:=b) (k:=(dig b).length)).1 (Nat.le_refl _)
 rcases Nat.eq_zero_or_pos b with rfl | hb
 ·rw [Nat.mul_zero];exact Nat.mul_pos (Nat.pow_pos (by omega)) (Nat.pow_pos (by omega))
 ·exact Nat.lt_of_lt_of_le (Nat.mul_lt_mul_of_pos_right h1 hb) (Nat.mul_le_mul_left _ (Nat.le_of_lt h2))
end Verge
namespace Verge
set_option linter.unusedVariables false
set_option linter.unusedSimpArgs false
def npow (a:Nat) (e:Int):List Nat×Int:=if e<0 then ([],1) else if long a then ([],2) else fit (a^e.toNat)
theorem npow_neg {a:Nat} {e:Int} (h:e<0):npow a e=([],1):=by simp [npow,h]
theorem npow_long {a:Nat} {e:Int} (h:¬e<0) (hl:long a=true):npow a e=([],2):=by simp [npow,h,hl]
theorem npow_fit {a:Nat} {n:Nat} (hl:long a=false):npow a (n:Int)=fit (a^n):=by simp [npow,hl];omega
theorem fit_small {n:Nat} (h:(dig n).length≤16384):fit n=(dig n,0):=fit_no ((long_false n).2 h)
theorem pow_long (a n k:Nat) (hk:blen a=k+2) (hn:524288 / (k+1)<n):long (a^n)=true:=by
 rw [long_iff]
 rcases Nat.lt_or_ge 16384 (dig (a^n)).length with h | h
 ·exact h
 ·have h1:=blen_le_words h
  have ha:a≠0:=by rintro rfl;simp [blen] at hk
  have h2:=blen_le ha
  rw [hk] at h2
  have h3:2^((k+1)*n)≤a^n:=by
   rw [Nat.pow_mul]
   exact Nat.pow_le_pow_left h2 n
  have h4:524288<(k+1)*n:=by
   have:=Nat.lt_mul_of_div_lt hn (by omega)
   rw [Nat.mul_comm] at this
   omega
  have h5:¬blen (a^n)≤(k+1)*n:=fun h=>by
   rw [blen_lt] at h
   exact absurd (Nat.lt_of_lt_of_le h h3) (Nat.lt_irrefl _)
  omega
theorem pow_words (a n k:Nat) (hk:blen a=k+2) (hn:n≤524288 / (k+1)):(dig (a^n)).length≤32769:=by
 have h1:a<2^(k+2):=by rw [←blen_lt];omega
 have h2:a^n≤2^((k+2)*n):=by
  rw [Nat.pow_mul]
  exact Nat.pow_le_pow_left (Nat.le_of_lt h1) n
 have h3:(k+1)*n≤524288:=by
  have:=Nat.mul_le_of_le_div _ _ _ hn
  rwa [Nat.mul_comm] at this
 obtain ⟨K,hK⟩:∃K,K=32768:=⟨_,rfl⟩
 have h4:(k+2)*n≤32*K:=by
  have e:(k+2)*n=(k+1)*n+n:=by rw [show k+2=(k+1)+1 by omega,Nat.add_mul,Nat.one_mul]
  have:n≤(k+1)*n:=Nat.le_mul_of_pos_left _ (by omega)
  omega
 have:=words_of_le _ _ (Nat.le_trans h2 (Nat.pow_le_pow_right (by omega) h4))
 omega
def PowInv (T p x m:Nat):Prop:=p*x^m=T∧0<p∧0<x∧0<m
theorem powInv_start {a n:Nat} (ha:0<a) (hn:0<n):PowInv (a^n) 1 a n:=⟨by rw [Nat.one_mul],by omega,ha,hn⟩
theorem powInv_x {T p x m:Nat} (h:PowInv T p x m):p*x≤T:=by
 obtain ⟨h1,h2,h3,h4⟩:=h
 rw [←h1]
 refine Nat.mul_le_mul_left _ ?_
 calc x=x^1:=(Nat.pow_one x).symm
  _≤x^m:=Nat.pow_le_pow_right h3 h4
theorem powInv_le {T p x m:Nat} (h:PowInv T p x m):p≤T∧x≤T:=by
 have h1:=powInv_x h
 obtain ⟨_,h2,h3,_⟩:=h
 constructor
 ·exact Nat.le_trans (Nat.le_mul_of_pos_right _ h3) h1
 ·exact Nat.le_trans (Nat.le_mul_of_pos_left _ h2) h1
theorem powInv_odd {T p x m:Nat} (h:PowInv T p x m) (ho:m%2=1) (hm:0<m / 2):PowInv T (p*x) (x*x) (m / 2):=by
 obtain ⟨h1,h2,h3,h4⟩:=h
 refine ⟨?_,Nat.mul_pos h2 h3,Nat.mul_pos h3 h3,hm⟩
 have e:m=2*(m / 2)+1:=by omega
 rw [←h1]
 conv=>rhs;rw [e,Nat.pow_succ,Nat.pow_mul,Nat.pow_two]
 rw [Nat.mul_assoc,Nat.mul_comm x]
theorem powInv_even {T p x m:Nat} (h:PowInv T p x m) (ho:m%2=0) (hm:0<m / 2):PowInv T p (x*x) (m / 2):=by
 obtain ⟨h1,h2,h3,h4⟩:=h
 refine ⟨?_,h2,Nat.mul_pos h3 h3,hm⟩
 have e:m=2*(m / 2):=by omega
 rw [←h1]
 conv=>rhs;rw [e,Nat.pow_mul,Nat.pow_two]
theorem powInv_end {T p x m:Nat} (h:PowInv T p x m) (hm:m=1):p*x=T:=by
 rw [←h.1,hm,Nat.pow_one]
end Verge
namespace Verge
set_option linter.unusedVariables false
set_option linter.unusedSimpArgs false
theorem odd_unique:∀(a b m l:Nat),2^a*(2*m+1)=2^b*(2*l+1)→a=b:=by
 intro a
 induction a with
 | zero =>
  intro b m l h
  rcases b with _ | b
  ·rfl
  ·rw [Nat.pow_succ,Nat.pow_zero,Nat.one_mul,Nat.mul_comm (2^b),Nat.mul_assoc] at h;omega
 | succ a ih =>
  intro b m l h
  rcases b with _ | b
  ·rw [Nat.pow_succ,Nat.pow_zero,Nat.one_mul,Nat.mul_comm (2^a),Nat.mul_assoc] at h;omega
  ·rw [Nat.pow_succ,Nat.pow_succ,Nat.mul_comm (2^a),Nat.mul_comm (2^b),Nat.mul_assoc,Nat.mul_assoc] at h
   rw [ih b m l (by omega)]
def ntz (n:Nat):Nat:=if n=0 then 0 else Go.Lib.ctzFrom n n
theorem ntz_zero:ntz 0=0:=rfl
theorem ntz_of (n k m:Nat) (h:n=2^k*(2*m+1)):ntz n=k:=by
 have h0:0<n:=by rw [h];exact Nat.mul_pos (Nat.pow_pos (by omega)) (by omega)
 obtain ⟨l,hl,_⟩:=Go.Lib.ctzFrom_spec n n h0 (Nat.lt_two_pow_self)
 rw [ntz,if_neg (by omega)]
 exact odd_unique _ _ l m (hl.symm.trans h)
theorem ntz_spec (n:Nat) (h:n≠0):∃m,n=2^ntz n*(2*m+1):=by
 obtain ⟨l,hl,_⟩:=Go.Lib.ctzFrom_spec n n (by omega) (Nat.lt_two_pow_self)
 refine ⟨l,?_⟩
 rw [ntz,if_neg h]
 exact hl
theorem val_take_zero (xs:List Nat) (k:Nat) (hz:∀j,j<k→xs.getD j 0=0):val (xs.take k)=0:=by
 induction k with
 | zero=>simp
 | succ k ih=>rw [val_take_succ,ih (fun j hj=>hz j (by omega)),hz k (by omega)];simp
end Verge
namespace Verge
set_option linter.unusedVariables false
set_option linter.unusedSimpArgs false
theorem bit_word {X:List Nat} (hX:W32 X) (i j:Nat) (hj:j<32):val X / 2^(32*i+j)%2=X.getD i 0 / 2^j%2:=by
 rw [Nat.pow_add,←Nat.div_div_eq_div_mul,←pow32,val_div X hX,val_drop X i]
 obtain ⟨d,hd⟩:∃d,32=j+(d+1):=⟨31 - j,by omega⟩
 have e:4294967296=2^j*(2*2^d):=by
  rw [←Nat.pow_succ',←Nat.pow_add,show j+d.succ=32 by omega]
 rw [show 4294967296*val (X.drop (i+1))=2^j*(2*(2^d*val (X.drop (i+1)))) by rw [e];grind,Nat.add_mul_div_left _ _ (Nat.pow_pos (by omega)),Nat.add_mul_mod_self_left]
end Verge
namespace Verge
set_option linter.unusedVariables false
set_option linter.unusedSimpArgs false
theorem mask64 (v:Nat) (h:v<18446744073709551616):Go.bits .and .u64 (v:Int) 4294967295=((v%4294967296:Nat):Int):=by
 have e:Go.bits .and .u64 (v:Int) ((4294967295:Nat):Int)=((v &&& 4294967295:Nat):Int):=Go.u64_and_nat v 4294967295 h (by omega)
 rw [show (4294967295:Nat)=2^32 - 1 from rfl,Nat.and_two_pow_sub_one_eq_mod] at e
 exact e
theorem bit_val {X:List Nat} (hX:W32 X) (i:Nat):val X / 2^i%2=X.getD (i / 32) 0 / 2^(i%32)%2:=by
 have:=bit_word hX (i / 32) (i%32) (by omega)
 rwa [show 32*(i / 32)+i%32=i by omega] at this
theorem ntz_bit0 (V k:Nat) (h0:V≠0) (h:k<ntz V):V / 2^k%2=0:=by
 obtain ⟨m,hm⟩:=ntz_spec V h0
 generalize ntz V=t at *
 obtain ⟨d,rfl⟩:∃d,t=k+(d+1):=⟨t - k - 1,by omega⟩
 rw [hm,Nat.pow_add,Nat.mul_assoc,Nat.mul_div_cancel_left _ (Nat.pow_pos (by omega)),Nat.pow_succ,Nat.mul_comm (2^d),Nat.mul_assoc]
 omega
theorem ntz_bit1 (V:Nat) (h0:V≠0):V / 2^ntz V%2=1:=by
 obtain ⟨m,hm⟩:=ntz_spec V h0
 generalize ntz V=t at *
 rw [hm,Nat.mul_div_cancel_left _ (Nat.pow_pos (by omega))]
 omega
theorem ntz_ge {X:List Nat} (j:Nat) (hz:val (X.take j)=0) (h0:val X≠0) (hj:j≤X.length):32*j≤ntz (val X):=by
 rcases Nat.lt_or_ge (ntz (val X)) (32*j) with h | h
 ·have h1:=ntz_bit1 (val X) h0
  have e:val X=4294967296^j*val (X.drop j):=by rw [val_split X j hj,hz,Nat.zero_add]
  generalize ntz (val X)=t at *
  obtain ⟨d,hd⟩:∃d,32*j=t+(d+1):=⟨32*j - t - 1,by omega⟩
  rw [e,pow32,hd,Nat.pow_add,Nat.mul_assoc,Nat.mul_div_cancel_left _ (Nat.pow_pos (by omega)),Nat.pow_succ,Nat.mul_comm (2^d),Nat.mul_assoc] at h1
  omega
 ·exact h
theorem ntz_lt {X:List Nat} (hX:W32 X) (h0:val X≠0):ntz (val X)<32*X.length:=by
 rcases Nat.lt_or_ge (ntz (val X)) (32*X.length) with h | h
 ·exact h
 ·obtain ⟨m,hm⟩:=ntz_spec (val X) h0
  have h1:=val_lt hX
  rw [pow32] at h1
  have h2:=Nat.pow_le_pow_right (n:=2) (by omega) h
  generalize ntz (val X)=t at *
  have h3:2^t≤val X:=by rw [hm];exact Nat.le_mul_of_pos_right _ (by omega)
  omega
theorem left_step (L X:List Nat) (q i s c v x:Nat) (hi:q+i+1<L.length) (hx:X.getD i 0=x) (hc:L.getD (q+i) 0=c) (hz:L.getD (q+i+1) 0=0) (hv:x*2^s=v)
  (h:val L=val (X.take i)*2^s*4294967296^q) :
  val ((L.set (q+i) (c+v%4294967296)).set (q+i+1) (v / 4294967296))=val (X.take (i+1))*2^s*4294967296^q:=by
 have h1:=val_set (xs:=L) (i:=q+i) (by omega) (c+v%4294967296)
 have h2:=val_set (xs:=L.set (q+i) (c+v%4294967296)) (i:=q+i+1) (by simpa using hi) (v / 4294967296)
 rw [getD_set_ne L _ _ _ (by omega),hz] at h2
 rw [hc] at h1
 rw [val_take_succ X,hx]
 have e:v=v%4294967296+4294967296*(v / 4294967296):=by omega
 have hp:4294967296^(q+i+1)=4294967296^(q+i)*4294967296:=Nat.pow_succ ..
 have hp2:4294967296^(q+i)=4294967296^q*4294967296^i:=Nat.pow_add ..
 rw [hp,hp2] at h2
 rw [hp2] at h1
 generalize v%4294967296=a at *
 generalize v / 4294967296=b at *
 generalize 4294967296^q=Q at *
 generalize 4294967296^i=P at *
 generalize 2^s=S at *
 generalize val (X.take i)=T at *
 grind
theorem or_u32 (a b s:Nat) (ha:a<2^s) (hb:b%2^s=0) (hA:a<4294967296) (hB:b<4294967296):Go.bits .or .u32 (a:Int) (b:Int)=((a+b:Nat):Int):=by
 rw [Go.u32_or_nat a b hA hB,or_low a b s ha hb]
theorem low_mod (x s:Nat) (hs:s≤32):(x*2^s)%4294967296%2^s=0:=by
 have h:4294967296=2^s*2^(32 - s):=two32 s hs
 rw [h,Nat.mod_mul_right_mod,Nat.mul_mod_left]
theorem high_lt (x s:Nat) (hx:x<4294967296):x*2^s / 4294967296<2^s:=by
 rw [Nat.div_lt_iff_lt_mul (by omega),Nat.mul_comm]
 exact Nat.mul_lt_mul_of_pos_left hx (Nat.pow_pos (by omega))
theorem right_step (L T:List Nat) (hT:W32 T) (i s v:Nat) (hs:s≤32) (hl:L.length=i)
  (hv:v=((T.getD i 0+4294967296*T.getD (i+1) 0) / 2^s)%4294967296)
  (h:val L=val T / 2^s%4294967296^i):(L++[v]).length=i+1∧val (L++[v])=val T / 2^s%4294967296^(i+1):=by
 refine ⟨by simp [hl],?_⟩
 rw [val_append,hl,mod_succ,h,Nat.div_div_eq_div_mul,Nat.mul_comm (2^s),←Nat.div_div_eq_div_mul,val_div T hT,val_drop T i,val_drop T (i+1),down_word _ _ _ _ hs,←hv]
 simp
theorem right_end (T:List Nat) (hT:W32 T) (s:Nat):val T / 2^s%4294967296^T.length=val T / 2^s:=
 Nat.mod_eq_of_lt (Nat.lt_of_le_of_lt (Nat.div_le_self _ _) (val_lt hT))
theorem lost_word (x s:Nat) (hx:x<4294967296) (hs:s<32):x*2^(31 - s)%4294967296*2%4294967296≠0↔x%2^s≠0:=by
 have e:x*2^(31 - s)%4294967296*2%4294967296=x*2^(32 - s)%4294967296:=by
  rw [show 32 - s=(31 - s)+1 by omega,Nat.pow_succ,←Nat.mul_assoc]
  generalize x*2^(31 - s)=z
  omega
 have h:4294967296=2^(32 - s)*2^s:=by rw [←Nat.pow_add,show 32 - s+s=32 by omega]
 rw [e,Nat.mul_comm x,show (2^(32 - s)*x)%4294967296=2^(32 - s)*(x%2^s) by rw [h,Nat.mul_mod_mul_left]]
 have:0<2^(32 - s):=Nat.pow_pos (by omega)
 generalize 2^(32 - s)=P at *
 generalize x%2^s=r
 constructor
 ·rintro h0 rfl;exact h0 (by simp)
 ·intro h0 h1
  rcases Nat.mul_eq_zero.1 h1 with h2 | h2 <;> omega
end Verge
namespace Verge
set_option linter.unusedVariables false
set_option linter.unusedSimpArgs false
theorem shifted (L R:List Nat) (n u:Nat) (hL:L.length=n+1) (hR:R.length=n+1) (hg:∀p,0<p→p≤n→L.getD p 0=R.getD (p - 1) 0):L.set 0 u=u::R.take n:=by
 apply List.ext_getElem?
 intro p
 rcases p with _ | p
 ·rw [List.getElem?_set_self (by omega)];rfl
 ·rw [List.getElem?_set_ne (by omega),List.getElem?_cons_succ]
  rcases Nat.lt_or_ge p n with hp | hp
  ·rw [get_of_lt L (by omega),List.getElem?_take,if_pos hp,get_of_lt R (by omega),hg (p+1) (by omega) (by omega)];rfl
  ·rw [List.getElem?_eq_none (by omega),List.getElem?_eq_none (by simp;omega)]
end Verge
namespace Verge
set_option linter.unusedVariables false
set_option linter.unusedSimpArgs false
def PwInv (T V M p x m:Nat):Prop:=p*x^m=T∧x≤M∧p≤M∧(0<V→0<x∧0<p)∧(V=0→x=0)
theorem pw_mul {T V M p x m:Nat} (h:PwInv T V M p x m) (hT:T≤M) (hm:0<m):p*x≤M:=by
 obtain ⟨h1,h2,h3,h4,h5⟩:=h
 rcases Nat.eq_zero_or_pos V with h0 | h0
 ·rw [h5 h0];omega
 ·exact Nat.le_trans (powInv_x ⟨h1,(h4 h0).2,(h4 h0).1,hm⟩) hT
theorem pw_sq {T V M p x m:Nat} (h:PwInv T V M p x m) (hT:T≤M) (hm:2≤m):x*x≤M:=by
 obtain ⟨h1,h2,h3,h4,h5⟩:=h
 rcases Nat.eq_zero_or_pos V with h0 | h0
 ·rw [h5 h0];omega
 ·obtain ⟨h6,h7⟩:=h4 h0
  have:x*x≤x^m:=by rw [←Nat.pow_two];exact Nat.pow_le_pow_right h6 hm
  have:=Nat.le_mul_of_pos_left (x^m) h7
  omega
theorem pw_odd {T V M p x m:Nat} (h:PwInv T V M p x m) (hT:T≤M) (ho:m%2=1) (hm:0<m / 2):PwInv T V M (p*x) (x*x) (m / 2):=by
 have a:=pw_mul h hT (by omega)
 have b:=pw_sq h hT (by omega)
 obtain ⟨h1,h2,h3,h4,h5⟩:=h
 refine ⟨?_,b,a,fun h0=>⟨Nat.mul_pos (h4 h0).1 (h4 h0).1,Nat.mul_pos (h4 h0).2 (h4 h0).1⟩,fun h0=>by rw [h5 h0]⟩
 have e:m=2*(m / 2)+1:=by omega
 rw [←h1]
 conv=>rhs;rw [e,Nat.pow_succ,Nat.pow_mul,Nat.pow_two]
 rw [Nat.mul_assoc,Nat.mul_comm x]
theorem pw_even {T V M p x m:Nat} (h:PwInv T V M p x m) (hT:T≤M) (ho:m%2=0) (hm:0<m / 2):PwInv T V M p (x*x) (m / 2):=by
 have b:=pw_sq h hT (by omega)
 obtain ⟨h1,h2,h3,h4,h5⟩:=h
 refine ⟨?_,b,h3,fun h0=>⟨Nat.mul_pos (h4 h0).1 (h4 h0).1,(h4 h0).2⟩,fun h0=>by rw [h5 h0]⟩
 have e:m=2*(m / 2):=by omega
 rw [←h1]
 conv=>rhs;rw [e,Nat.pow_mul,Nat.pow_two]
theorem pw_last {T V M p x m:Nat} (h:PwInv T V M p x m) (hT:T≤M) (hm:m=1):PwInv T V M (p*x) x 0:=by
 have a:=pw_mul h hT (by omega)
 obtain ⟨h1,h2,h3,h4,h5⟩:=h
 subst hm
 exact ⟨by rw [Nat.pow_zero,Nat.mul_one,←h1,Nat.pow_one],h2,a,fun h0=>⟨(h4 h0).1,Nat.mul_pos (h4 h0).2 (h4 h0).1⟩,h5⟩
end Verge
namespace Verge
set_option linter.unusedVariables false
set_option linter.unusedSimpArgs false
structure Ans where
 l:List Nat
 m:List Nat
 wv:Nat
 nv:Int
 bv:Bool
 ev:Int
end Verge
namespace Verge
set_option linter.unusedVariables false
set_option linter.unusedSimpArgs false
end Verge
