/- Plain arithmetic of naturals as lists of words of 32 bits; no Go. -/
import Derived.Below
import Derived.Laws.BitsAllLaws
namespace Verge
set_option linter.unusedVariables false
set_option linter.unusedSimpArgs false
def val:List Nat→Nat
 | []=>0
 | x::xs=>x+4294967296*val xs
def W32 (xs:List Nat):Prop:=∀x∈xs,x<4294967296
def wl:List Nat→Nat
 | []=>0
 | x::xs=>if wl xs=0 then (if x=0 then 0 else 1) else wl xs+1
def norm (xs:List Nat):List Nat:=xs.take (wl xs)
def dig (n:Nat):List Nat:=if h:n=0 then [] else n%4294967296::dig (n / 4294967296)
termination_by n
decreasing_by omega
theorem wl_le (xs:List Nat):wl xs≤xs.length:=by
 induction xs with
 | nil=>simp [wl]
 | cons x xs ih=>simp only [wl,List.length_cons];split <;> (try split) <;> omega
theorem wl_top (xs:List Nat) (k:Nat) (h:wl xs=k+1):∃x,xs[k]?=some x∧x≠0:=by
 induction xs generalizing k with
 | nil=>simp [wl] at h
 | cons x xs ih =>
  simp only [wl] at h
  split at h
  ·split at h
   ·omega
   ·obtain rfl:k=0:=by omega
    exact ⟨x,rfl,by assumption⟩
  ·obtain ⟨j,rfl⟩:∃j,k=j+1:=⟨k - 1,by omega⟩
   obtain ⟨y,hy,h0⟩:=ih j (by omega)
   exact ⟨y,by simpa using hy,h0⟩
theorem wl_zero (xs:List Nat) (k:Nat) (h:wl xs≤k) (x:Nat) (hx:xs[k]?=some x):x=0:=by
 induction xs generalizing k with
 | nil=>simp at hx
 | cons y xs ih =>
  simp only [wl] at h
  rcases k with _ | k
  ·simp at hx;subst hx
   split at h
   ·split at h <;> omega
   ·omega
  ·simp at hx
   refine ih k ?_ hx
   split at h
   ·omega
   ·omega
theorem wl_of (xs:List Nat) (n:Nat) (hn:n≤xs.length) (hz:∀k x,n≤k→xs[k]?=some x→x=0) (ht:∀k x,n=k+1→xs[k]?=some x→x≠0):wl xs=n:=by
 rcases Nat.lt_trichotomy (wl xs) n with h | h | h
 ·obtain ⟨k,rfl⟩:∃k,n=k+1:=⟨n - 1,by omega⟩
  have hx:xs[k]?=some (xs[k]'(by omega)):=List.getElem?_eq_getElem (by omega)
  exact absurd (wl_zero xs k (by omega) _ hx) (ht k _ rfl hx)
 ·exact h
 ·obtain ⟨k,hk⟩:∃k,wl xs=k+1:=⟨wl xs - 1,by omega⟩
  obtain ⟨x,hx,h0⟩:=wl_top xs k hk
  exact absurd (hz k x (by omega) hx) h0
@[simp] theorem val_nil:val []=0:=rfl
@[simp] theorem val_cons (x:Nat) (xs:List Nat):val (x::xs)=x+4294967296*val xs:=rfl
theorem val_append (xs ys:List Nat):val (xs++ys)=val xs+4294967296^xs.length*val ys:=by
 induction xs with
 | nil=>simp
 | cons x xs ih=>simp only [List.cons_append,val_cons,ih,List.length_cons,Nat.pow_succ];grind
theorem W32.nil:W32 []:=fun _ h=>by cases h
theorem W32.cons {x:Nat} {xs:List Nat} (h:x<4294967296) (hs:W32 xs):W32 (x::xs):=fun y hy=>by
 rcases List.mem_cons.1 hy with rfl | hy
 ·exact h
 ·exact hs y hy
theorem W32.head {x:Nat} {xs:List Nat} (h:W32 (x::xs)):x<4294967296:=h x (by simp)
theorem W32.tail {x:Nat} {xs:List Nat} (h:W32 (x::xs)):W32 xs:=fun y hy=>h y (by simp [hy])
theorem W32.get {xs:List Nat} (h:W32 xs) {k x:Nat} (hx:xs[k]?=some x):x<4294967296:=h x (List.mem_of_getElem? hx)
theorem W32.getD {xs:List Nat} (h:W32 xs) (k:Nat):xs.getD k 0<4294967296:=by
 rw [List.getD_eq_getElem?_getD]
 rcases hx:xs[k]? with _ | x
 ·simp
 ·simpa using h.get hx
theorem W32.take {xs:List Nat} (h:W32 xs) (k:Nat):W32 (xs.take k):=fun y hy=>h y (List.mem_of_mem_take hy)
theorem W32.drop {xs:List Nat} (h:W32 xs) (k:Nat):W32 (xs.drop k):=fun y hy=>h y (List.mem_of_mem_drop hy)
theorem W32.append {xs ys:List Nat} (h:W32 xs) (h':W32 ys):W32 (xs++ys):=fun y hy=>by
 rcases List.mem_append.1 hy with hy | hy
 ·exact h y hy
 ·exact h' y hy
theorem W32.set {xs:List Nat} (h:W32 xs) (k:Nat) {v:Nat} (hv:v<4294967296):W32 (xs.set k v):=fun y hy=>by
 rcases List.mem_or_eq_of_mem_set hy with hy | rfl
 ·exact h y hy
 ·exact hv
theorem W32.replicate (n:Nat):W32 (List.replicate n 0):=fun y hy=>by
 rw [List.mem_replicate] at hy;omega
theorem val_lt {xs:List Nat} (h:W32 xs):val xs<4294967296^xs.length:=by
 induction xs with
 | nil=>simp
 | cons x xs ih =>
  have h1:=h.head
  have h2:=ih h.tail
  simp only [val_cons,List.length_cons,Nat.pow_succ]
  omega
theorem val_zeros (n:Nat):val (List.replicate n 0)=0:=by
 induction n with
 | zero=>simp
 | succ n ih=>simp [List.replicate_succ,ih]
theorem val_eq_zero {xs:List Nat} (h:∀x∈xs,x=0):val xs=0:=by
 induction xs with
 | nil=>simp
 | cons x xs ih =>
  have:=h x (by simp)
  have:=ih (fun y hy=>h y (by simp [hy]))
  simp [*]
theorem val_split (xs:List Nat) (k:Nat) (hk:k≤xs.length):val xs=val (xs.take k)+4294967296^k*val (xs.drop k):=by
 have:=val_append (xs.take k) (xs.drop k)
 rw [List.take_append_drop,List.length_take,Nat.min_eq_left hk] at this
 exact this
theorem val_take_succ (xs:List Nat) (k:Nat):val (xs.take (k+1))=val (xs.take k)+4294967296^k*xs.getD k 0:=by
 induction xs generalizing k with
 | nil=>simp
 | cons x xs ih =>
  rcases k with _ | k
  ·simp
  ·simp only [List.take_succ_cons,val_cons,ih k,List.getD_cons_succ,Nat.pow_succ];grind
theorem val_drop (xs:List Nat) (k:Nat):val (xs.drop k)=xs.getD k 0+4294967296*val (xs.drop (k+1)):=by
 induction xs generalizing k with
 | nil=>simp
 | cons x xs ih =>
  rcases k with _ | k
  ·simp
  ·simpa using ih k
theorem val_set {xs:List Nat} {i:Nat} (hi:i<xs.length) (v:Nat):val (xs.set i v)+4294967296^i*xs.getD i 0=val xs+4294967296^i*v:=by
 induction xs generalizing i with
 | nil=>simp at hi
 | cons x xs ih =>
  rcases i with _ | i
  ·simp;omega
  ·have h:=ih (i:=i) (by simpa using hi)
   simp only [List.set_cons_succ,val_cons,List.getD_cons_succ,Nat.pow_succ]
   grind
theorem take_set_le (xs:List Nat) (i k v:Nat) (h:k≤i):(xs.set i v).take k=xs.take k:=by
 rw [List.take_set]
 exact List.set_eq_of_length_le (by simp;omega)
theorem drop_set_gt (xs:List Nat) (i k v:Nat) (h:i<k):(xs.set i v).drop k=xs.drop k:=by
 rw [List.drop_set,if_pos h]
theorem getD_set_self (xs:List Nat) (i v:Nat) (h:i<xs.length):(xs.set i v).getD i 0=v:=by
 rw [List.getD_eq_getElem?_getD,List.getElem?_set_self h];rfl
theorem getD_set_ne (xs:List Nat) (i k v:Nat) (h:i≠k):(xs.set i v).getD k 0=xs.getD k 0:=by
 rw [List.getD_eq_getElem?_getD,List.getElem?_set_ne h,List.getD_eq_getElem?_getD]
theorem getD_of (xs:List Nat) {k x:Nat} (h:xs[k]?=some x):xs.getD k 0=x:=by
 rw [List.getD_eq_getElem?_getD,h];rfl
theorem get_of_lt (xs:List Nat) {k:Nat} (h:k<xs.length):xs[k]?=some (xs.getD k 0):=by
 rw [List.getD_eq_getElem?_getD,List.getElem?_eq_getElem h];rfl
theorem getD_ge (xs:List Nat) {k:Nat} (h:xs.length≤k):xs.getD k 0=0:=by
 rw [List.getD_eq_getElem?_getD,List.getElem?_eq_none h];rfl
theorem getD_drop (xs:List Nat) (i k:Nat):(xs.drop i).getD k 0=xs.getD (i+k) 0:=by
 rw [List.getD_eq_getElem?_getD,List.getElem?_drop,List.getD_eq_getElem?_getD]
theorem getD_take (xs:List Nat) (i k:Nat) (h:k<i):(xs.take i).getD k 0=xs.getD k 0:=by
 rw [List.getD_eq_getElem?_getD,List.getElem?_take,if_pos h,List.getD_eq_getElem?_getD]
theorem val_take_set (xs:List Nat) (i v:Nat) (hi:i<xs.length):val ((xs.set i v).take (i+1))=val (xs.take i)+4294967296^i*v:=by
 rw [val_take_succ,take_set_le xs i i v (Nat.le_refl _),getD_set_self xs i v hi]
theorem val_take_all (xs:List Nat) (n:Nat) (h:∀k x,n≤k→xs[k]?=some x→x=0):val (xs.take n)=val xs:=by
 rcases Nat.lt_or_ge n xs.length with hn | hn
 ·rw [val_split xs n (by omega),val_eq_zero (xs:=xs.drop n)]
  ·simp
  ·intro x hx
   obtain ⟨k,hk⟩:=List.mem_iff_getElem?.1 hx
   rw [List.getElem?_drop] at hk
   exact h (n+k) x (by omega) hk
 ·rw [List.take_of_length_le hn]
theorem val_norm (xs:List Nat):val (norm xs)=val xs:=val_take_all xs (wl xs) (fun k x hk hx=>wl_zero xs k hk x hx)
theorem length_norm (xs:List Nat):(norm xs).length=wl xs:=by rw [norm,List.length_take];exact Nat.min_eq_left (wl_le xs)
theorem val_eq_zero_iff (xs:List Nat):val xs=0↔wl xs=0:=by
 induction xs with
 | nil=>simp [wl]
 | cons x xs ih =>
  simp only [val_cons,wl]
  split
  ·split <;> omega
  ·omega
theorem dig_zero:dig 0=[]:=by rw [dig];simp
theorem dig_pos {n:Nat} (h:n≠0):dig n=n%4294967296::dig (n / 4294967296):=by rw [dig];simp [h]
theorem val_dig (n:Nat):val (dig n)=n:=by
 induction n using Nat.strongRecOn with
 | _ n ih =>
  by_cases h:n=0
  ·subst h;rw [dig_zero];rfl
  ·rw [dig_pos h,val_cons,ih _ (by omega)];omega
theorem w32_dig (n:Nat):W32 (dig n):=by
 induction n using Nat.strongRecOn with
 | _ n ih =>
  by_cases h:n=0
  ·subst h;rw [dig_zero];exact W32.nil
  ·rw [dig_pos h];exact W32.cons (by omega) (ih _ (by omega))
theorem dig_val {xs:List Nat} (h:W32 xs):dig (val xs)=norm xs:=by
 induction xs with
 | nil=>rw [val_nil,dig_zero];rfl
 | cons x xs ih =>
  have h1:=h.head
  have h2:=ih h.tail
  by_cases hz:val xs=0
  ·have hw:=(val_eq_zero_iff xs).1 hz
   by_cases hx:x=0
   ·subst hx
    simp [hz,dig_zero,norm,wl,hw]
   ·rw [val_cons,hz,dig_pos (by omega)]
    have e1:(x+4294967296*0)%4294967296=x:=by omega
    have e2:(x+4294967296*0) / 4294967296=0:=by omega
    rw [e1,e2,dig_zero]
    simp [norm,wl,hw,hx]
  ·have hw:wl xs≠0:=fun e=>hz ((val_eq_zero_iff xs).2 e)
   rw [val_cons,dig_pos (by omega)]
   have e1:(x+4294967296*val xs)%4294967296=x:=by omega
   have e2:(x+4294967296*val xs) / 4294967296=val xs:=by omega
   rw [e1,e2,h2]
   simp [norm,wl,hw]
theorem wl_eq {xs:List Nat} (h:W32 xs):wl xs=(dig (val xs)).length:=by rw [dig_val h,length_norm]
theorem norm_dig (n:Nat):norm (dig n)=dig n:=by rw [←dig_val (w32_dig n),val_dig]
theorem wl_dig (n:Nat):wl (dig n)=(dig n).length:=by rw [←length_norm,norm_dig]
theorem dig_length_le {n k:Nat}:(dig n).length≤k↔n<4294967296^k:=by
 induction n using Nat.strongRecOn generalizing k with
 | _ n ih =>
  by_cases h:n=0
  ·subst h;rw [dig_zero];simp [Nat.pow_pos]
  ·rw [dig_pos h,List.length_cons]
   rcases k with _ | k
   ·simp;omega
   ·have:=ih (n / 4294967296) (by omega) (k:=k)
    rw [Nat.add_le_add_iff_right,this,Nat.pow_succ,Nat.div_lt_iff_lt_mul (by omega)]
theorem dig_length_mono {a b:Nat} (h:a≤b):(dig a).length≤(dig b).length:=by
 rw [dig_length_le]
 exact Nat.lt_of_le_of_lt h (dig_length_le.1 (Nat.le_refl _))
theorem dig_length_pos {n:Nat} (h:n≠0):0<(dig n).length:=by rw [dig_pos h];simp
theorem dig_le_pow {n:Nat} (h:n≠0):4294967296^((dig n).length - 1)≤n:=by
 rcases Nat.lt_or_ge n (4294967296^((dig n).length - 1)) with h' | h'
 ·have:=dig_length_le.2 h'
  have:=dig_length_pos h
  omega
 ·exact h'
def long (n:Nat):Bool:=decide (16384<(dig n).length)
def cmp (a b:Nat):Int:=if a<b then -1 else if b<a then 1 else 0
theorem val_lt_of_wl {xs ys:List Nat} (hx:W32 xs) (hy:W32 ys) (h:wl xs<wl ys):val xs<val ys:=by
 rw [wl_eq hx,wl_eq hy] at h
 rcases Nat.lt_or_ge (val xs) (val ys) with h' | h'
 ·exact h'
 ·have:=dig_length_mono h';omega
def fit (n:Nat):List Nat×Int:=if long n then ([],2) else (dig n,0)
theorem fit_yes {n:Nat} (h:long n=true):fit n=([],2):=by simp [fit,h]
theorem fit_no {n:Nat} (h:long n=false):fit n=(dig n,0):=by simp [fit,h]
theorem long_iff (n:Nat):long n=true↔16384<(dig n).length:=by simp [long]
theorem long_false (n:Nat):long n=false↔(dig n).length≤16384:=by simp [long]
theorem cmp_lt {a b:Nat} (h:a<b):cmp a b = -1:=by simp [cmp,h]
theorem cmp_gt {a b:Nat} (h:b<a):cmp a b=1:=by simp [cmp,h];omega
theorem cmp_eq (a:Nat):cmp a a=0:=by simp [cmp]
theorem val_lt_of_top {xs ys:List Nat} (hx:W32 xs) (hy:W32 ys) (k:Nat) (hkx:k<xs.length) (hky:k<ys.length) (hd:xs.drop (k+1)=ys.drop (k+1)) (h:xs.getD k 0<ys.getD k 0):val xs<val ys:=by
 rw [val_split xs k (by omega),val_split ys k (by omega),val_drop xs k,val_drop ys k,hd]
 have h1:=val_lt (hx.take k)
 rw [List.length_take,Nat.min_eq_left (by omega)] at h1
 have h2:4294967296^k*(xs.getD k 0+4294967296*val (ys.drop (k+1)))+4294967296^k≤4294967296^k*(ys.getD k 0+4294967296*val (ys.drop (k+1))):=by
  rw [←Nat.mul_add_one]
  exact Nat.mul_le_mul_left _ (by omega)
 omega
theorem drop_ext {xs ys:List Nat} (k:Nat) (hl:xs.length=ys.length) (hd:xs.drop (k+1)=ys.drop (k+1)) (h:xs.getD k 0=ys.getD k 0):xs.drop k=ys.drop k:=by
 rcases Nat.lt_or_ge k xs.length with hk | hk
 ·have e1:xs.drop k=xs.getD k 0::xs.drop (k+1):=by
   rw [List.drop_eq_getElem_cons hk,List.getD_eq_getElem?_getD,List.getElem?_eq_getElem hk];rfl
  have e2:ys.drop k=ys.getD k 0::ys.drop (k+1):=by
   rw [List.drop_eq_getElem_cons (by omega),List.getD_eq_getElem?_getD,List.getElem?_eq_getElem (by omega)];rfl
  rw [e1,e2,h,hd]
 ·rw [List.drop_of_length_le hk,List.drop_of_length_le (by omega)]
theorem norm_getD (xs:List Nat) (k:Nat) (h:k<wl xs):(norm xs).getD k 0=xs.getD k 0:=getD_take xs (wl xs) k h
theorem w32_norm {xs:List Nat} (h:W32 xs):W32 (norm xs):=h.take _
def blen (n:Nat):Nat:=if n=0 then 0 else n.log2+1
theorem blen_lt (n k:Nat):blen n≤k↔n<2^k:=by
 unfold blen
 split
 ·subst_vars;simp [Nat.pow_pos]
 ·rename_i h
  rw [←Nat.log2_lt h];omega
theorem blen_zero:blen 0=0:=rfl
theorem blen_pos {n:Nat} (h:n≠0):0<blen n:=by simp [blen,h]
theorem blen_le {n:Nat} (h:n≠0):2^(blen n - 1)≤n:=by
 rcases Nat.lt_or_ge n (2^(blen n - 1)) with h' | h'
 ·have:=(blen_lt n _).2 h'
  have:=blen_pos h
  omega
 ·exact h'
theorem blen_of (n k:Nat) (h1:2^k≤n) (h2:n<2^(k+1)):blen n=k+1:=by
 have:=(blen_lt n (k+1)).2 h2
 rcases Nat.lt_or_ge (blen n) (k+1) with h | h
 ·have:=(blen_lt n k).1 (by omega);omega
 ·omega
theorem blen_div (n k:Nat) (h:n / 2^k≠0):blen n=k+blen (n / 2^k):=by
 have hp:=blen_pos h
 have h1:=blen_le h
 have h2:=(blen_lt (n / 2^k) _).1 (Nat.le_refl _)
 rw [Nat.le_div_iff_mul_le (Nat.pow_pos (by omega)),←Nat.pow_add] at h1
 rw [Nat.div_lt_iff_lt_mul (Nat.pow_pos (by omega)),←Nat.pow_add] at h2
 have:=blen_of n (blen (n / 2^k) - 1+k) h1 (by rw [show blen (n / 2^k) - 1+k+1=blen (n / 2^k)+k by omega];exact h2)
 omega
theorem blen_pre (x:Int) (k:Nat) (h0:0≤x) (n:Nat) (hn:(x / (2^k:Nat)).toNat=n) (h:n≠0):blen x.toNat=k+blen n:=by
 obtain ⟨y,rfl⟩:∃y:Nat,x=y:=⟨x.toNat,by omega⟩
 rw [←Int.natCast_ediv,Int.toNat_natCast] at hn
 subst hn
 exact blen_div y k h
theorem pow32 (k:Nat):4294967296^k=2^(32*k):=by rw [Nat.pow_mul]
theorem blen_words {xs:List Nat} (hx:W32 xs) (k:Nat) (h:wl xs=k+1):blen (val xs)=32*k+blen (xs.getD k 0):=by
 obtain ⟨x,hxk,h0⟩:=wl_top xs k h
 have hk:k<xs.length:=by have:=wl_le xs;omega
 have e:val xs=val (xs.take k)+4294967296^k*x:=by
  rw [←val_norm xs,norm,h,val_take_succ,getD_of xs hxk]
 have h1:=val_lt (hx.take k)
 rw [List.length_take,Nat.min_eq_left (by omega)] at h1
 have hd:val xs / 2^(32*k)=x:=by
  rw [e,←pow32,Nat.add_mul_div_left _ _ (Nat.pow_pos (by omega)),Nat.div_eq_of_lt h1,Nat.zero_add]
 rw [blen_div (val xs) (32*k) (by omega),hd,getD_of xs hxk]
def nadd (a b:Nat):List Nat×Int:=if long a||long b then ([],2) else fit (a+b)
theorem nadd_long {a b:Nat} (h:(long a||long b)=true):nadd a b=([],2):=by simp only [nadd,h,if_true]
theorem nadd_fit {a b:Nat} (h:(long a||long b)=false):nadd a b=fit (a+b):=by simp [nadd,h]
theorem add_step (L X Y:List Nat) (i c s c':Nat) (hL:i<L.length) (hi:val (L.take i)+c*4294967296^i=val (X.take i)+val (Y.take i))
  (hs:X.getD i 0+Y.getD i 0+c=s+4294967296*c') :
  val ((L.set i s).take (i+1))+c'*4294967296^(i+1)=val (X.take (i+1))+val (Y.take (i+1)):=by
 rw [val_take_set L i s hL,val_take_succ X,val_take_succ Y,Nat.pow_succ]
 generalize 4294967296^i=P at *
 grind
end Verge
namespace Verge
set_option linter.unusedVariables false
set_option linter.unusedSimpArgs false
def nsub (a b:Nat):List Nat×Int:=if a<b then ([],1) else if long a||long b then ([],2) else fit (a - b)
theorem nsub_arg {a b:Nat} (h:a<b):nsub a b=([],1):=by simp [nsub,h]
theorem nsub_long {a b:Nat} (h0:¬a<b) (h:(long a||long b)=true):nsub a b=([],2):=by simp only [nsub,h,h0,if_true,if_false]
theorem nsub_fit {a b:Nat} (h0:¬a<b) (h:(long a||long b)=false):nsub a b=fit (a - b):=by simp [nsub,h,h0]
theorem sub_step (L L' Y:List Nat) (k c s c':Nat) (hk:k<L'.length) (hl:L'.length=L.length) (hd:L'.drop k=L.drop k)
  (hi:val (L'.take k)+val (Y.take k)=val (L.take k)+c*4294967296^k)
  (hs:s+Y.getD k 0+c=L'.getD k 0+4294967296*c') :
  val ((L'.set k s).take (k+1))+val (Y.take (k+1))=val (L.take (k+1))+c'*4294967296^(k+1)∧(L'.set k s).drop (k+1)=L.drop (k+1):=by
 have hg:L'.getD k 0=L.getD k 0:=by
  have h1:=getD_drop L' k 0
  have h2:=getD_drop L k 0
  rw [Nat.add_zero] at h1 h2
  rw [←h1,←h2,hd]
 rw [hg] at hs
 constructor
 ·rw [val_take_set L' k s hk,val_take_succ L,val_take_succ Y,Nat.pow_succ]
  generalize 4294967296^k=P at *
  grind
 ·rw [drop_set_gt L' k (k+1) s (by omega)]
  have:=congrArg (List.drop 1) hd
  rwa [List.drop_drop,List.drop_drop] at this
theorem sub_end (L L' Y:List Nat) (n c:Nat) (hL':W32 L') (hl:L'.length=n) (hl2:L.length=n) (hY:Y.length≤n) (hle:val Y≤val L)
  (hi:val (L'.take n)+val (Y.take n)=val (L.take n)+c*4294967296^n):val L'+val Y=val L:=by
 rw [List.take_of_length_le (by omega),List.take_of_length_le hY,List.take_of_length_le (by omega)] at hi
 have h1:=val_lt hL'
 rw [hl] at h1
 rcases Nat.eq_zero_or_pos c with h0 | h0
 ·subst h0;omega
 ·have:1*4294967296^n≤c*4294967296^n:=Nat.mul_le_mul_right _ h0
  omega
theorem sub_early (L L' Y:List Nat) (k:Nat) (hl:L'.length=L.length) (hk:k≤L.length) (hd:L'.drop k=L.drop k) (hY:Y.length≤k)
  (hi:val (L'.take k)+val (Y.take k)=val (L.take k)+0*4294967296^k):val L'+val Y=val L:=by
 rw [List.take_of_length_le hY] at hi
 rw [val_split L' k (by omega),val_split L k hk,hd]
 omega
theorem blen_words_le {n k:Nat} (h:(dig n).length≤k):blen n≤32*k:=by
 rw [blen_lt,←pow32,←dig_length_le];exact h
theorem blen_le_words {n:Nat} (h:(dig n).length≤16384):blen n≤524288:=blen_words_le h
def nmul (a b:Nat):List Nat×Int:=if long a||long b||decide (524289<blen a+blen b) then ([],2) else fit (a*b)
theorem mul_step (L:List Nat) (p c u s c' V x y M:Nat) (hp:p<L.length) (hu:L.getD p 0=u)
  (hi:val L+c*4294967296^p=V) (hs:c+x*y+u=s+4294967296*c') :
  val (L.set p s)+c'*4294967296^(p+1)=V+x*y*4294967296^p:=by
 have h:=val_set hp s
 rw [hu] at h
 rw [Nat.pow_succ]
 generalize 4294967296^p=P at *
 grind
theorem getD_zeros (n p:Nat):(List.replicate n 0).getD p 0=0:=by
 rw [List.getD_eq_getElem?_getD,List.getElem?_replicate];split <;> rfl
theorem mul_inner (L X:List Nat) (j i c u s c' V0 x y:Nat) (hp:j+i<L.length) (hu:L.getD (j+i) 0=u) (hx:X.getD i 0=x)
  (hi:val L+c*4294967296^(j+i)=V0+y*val (X.take i)*4294967296^j) (hs:c+x*y+u=s+4294967296*c') :
  val (L.set (j+i) s)+c'*4294967296^(j+(i+1))=V0+y*val (X.take (i+1))*4294967296^j:=by
 have h:=mul_step L (j+i) c u s c' _ x y 0 hp hu hi hs
 rw [←Nat.add_assoc,h,val_take_succ,hx,Nat.pow_add]
 generalize 4294967296^i=P
 generalize 4294967296^j=Q
 grind
theorem mul_outer (L X Y:List Nat) (j n c V0 y:Nat) (hp:j+n<L.length) (hz:L.getD (j+n) 0=0) (hn:X.length=n) (hy:Y.getD j 0=y)
  (hV:V0=val X*val (Y.take j))
  (hi:val L+c*4294967296^(j+n)=V0+y*val (X.take n)*4294967296^j) :
  val (L.set (j+n) c)=val X*val (Y.take (j+1)):=by
 have h:=val_set hp c
 rw [hz] at h
 rw [List.take_of_length_le (by omega)] at hi
 rw [val_take_succ,hy]
 subst hV
 generalize 4294967296^(j+n)=P at *
 generalize 4294967296^j=Q at *
 grind
end Verge
namespace Verge
set_option linter.unusedVariables false
set_option linter.unusedSimpArgs false
theorem or_low (a b s:Nat) (ha:a<2^s) (hb:b%2^s=0):a ||| b=a+b:=by
 rw [Nat.or_comm,Go.nat_join s b a hb ha,Nat.add_comm]
theorem or_u64 (a b s:Nat) (ha:a<2^s) (hb:b%2^s=0) (h:a+b<18446744073709551616):Go.bits .or .u64 (a:Int) (b:Int)=((a+b:Nat):Int):=by
 rw [Go.u64_or_nat a b (by omega) (by omega),or_low a b s ha hb]
theorem or_u64' (a b s:Nat) (ha:a<2^s) (hb:b%2^s=0) (h:a+b<18446744073709551616):Go.bits .or .u64 (b:Int) (a:Int)=((a+b:Nat):Int):=by
 rw [Go.u64_or_nat b a (by omega) (by omega),Nat.or_comm,or_low a b s ha hb]
theorem or_hi (x y:Nat) (hx:x<4294967296) (hy:y<4294967296):Go.bits .or .u64 (x:Int) ((y:Int)*4294967296)=((x+4294967296*y:Nat):Int):=by
 have:=or_u64 x (y*4294967296) 32 (by omega) (by omega) (by omega)
 rw [Nat.mul_comm 4294967296 y]
 rw [←this]
 simp
theorem or_hi' (x y:Nat) (hx:x<4294967296) (hy:y<4294967296):Go.bits .or .u64 ((y:Int)*4294967296) (x:Int)=((x+4294967296*y:Nat):Int):=by
 have:=or_u64' x (y*4294967296) 32 (by omega) (by omega) (by omega)
 rw [Nat.mul_comm 4294967296 y]
 rw [←this]
 simp
theorem shift_step (L X:List Nat) (i c x s u c':Nat) (hi:i<L.length) (hx:X.getD i 0=x)
  (h:val (L.take i)+c*4294967296^i=val (X.take i)*2^s) (hu:c+x*2^s=u+4294967296*c') :
  val ((L.set i u).take (i+1))+c'*4294967296^(i+1)=val (X.take (i+1))*2^s:=by
 rw [val_take_set L i u hi,val_take_succ X,hx,Nat.pow_succ]
 generalize 4294967296^i=P at *
 generalize 2^s=Q at *
 grind
theorem two32 (s:Nat) (hs:s≤32):4294967296=2^s*2^(32 - s):=by rw [←Nat.pow_add,show s+(32 - s)=32 by omega]
theorem down_word (x y r s:Nat) (hs:s≤32):((x+4294967296*(y+4294967296*r)) / 2^s)%4294967296=((x+4294967296*y) / 2^s)%4294967296:=by
 have e:x+4294967296*(y+4294967296*r)=(x+4294967296*y)+2^s*(2^(32 - s)*r*4294967296):=by
  have h:=two32 s hs
  generalize 2^(32 - s)=Q at *
  generalize 2^s=P at *
  rw [Nat.mul_add]
  have:4294967296*(4294967296*r)=P*(Q*r*4294967296):=by
   calc 4294967296*(4294967296*r)=(P*Q)*(4294967296*r):=by rw [←h]
    _=_:=by grind
  omega
 rw [e,Nat.add_mul_div_left _ _ (Nat.pow_pos (by omega)),Nat.add_mul_mod_self_right]
theorem mod_succ (N i:Nat):N%4294967296^(i+1)=N%4294967296^i+4294967296^i*(N / 4294967296^i%4294967296):=by
 rw [Nat.pow_succ,Nat.mod_mul]
theorem val_div (xs:List Nat) (h:W32 xs) (i:Nat):val xs / 4294967296^i=val (xs.drop i):=by
 rcases Nat.lt_or_ge xs.length i with hi | hi
 ·rw [List.drop_of_length_le (by omega)]
  have:=val_lt h
  have h2:4294967296^xs.length≤4294967296^i:=Nat.pow_le_pow_right (by omega) (by omega)
  exact Nat.div_eq_of_lt (by omega)
 ·rw [val_split xs i hi,Nat.add_mul_div_left _ _ (Nat.pow_pos (by omega))]
  have h1:=val_lt (h.take i)
  rw [List.length_take,Nat.min_eq_left hi] at h1
  rw [Nat.div_eq_of_lt h1,Nat.zero_add]
theorem back_step (L' T:List Nat) (hT:W32 T) (i s v:Nat) (hs:s≤32) (hi:i<L'.length)
  (hv:v=((T.getD i 0+4294967296*T.getD (i+1) 0) / 2^s)%4294967296)
  (h:val (L'.take i)=val T / 2^s%4294967296^i) :
  val ((L'.set i v).take (i+1))=val T / 2^s%4294967296^(i+1):=by
 rw [val_take_set L' i v hi,mod_succ,h,Nat.div_div_eq_div_mul,Nat.mul_comm (2^s),←Nat.div_div_eq_div_mul,val_div T hT,val_drop T i,val_drop T (i+1),
  down_word _ _ _ _ hs,←hv]
theorem one_step (Q X:List Nat) (k x r t q r' y:Nat) (hk:k<Q.length) (hx:X.getD k 0=x) (h:val (X.drop (k+1))=y*val (Q.drop (k+1))+r)
  (ht:t=x+4294967296*r) (hq:t=y*q+r'):val (X.drop k)=y*val ((Q.set k q).drop k)+r':=by
 rw [val_drop X k,hx,val_drop (Q.set k q) k,getD_set_self Q k q hk,drop_set_gt Q k (k+1) q (by omega),h]
 grind
end Verge
