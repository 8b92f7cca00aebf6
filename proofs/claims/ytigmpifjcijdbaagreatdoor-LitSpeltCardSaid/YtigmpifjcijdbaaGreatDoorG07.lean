/- Contracts of nat: words, cut, fit, long, Norm, Cmp and the words' sums. -/
import Derived.Test.YtigmpifjcijdbaaGreatDoorG02
import Derived.Test.YtigmpifjcijdbaaGreatDoorG06
import Derived.Test.YtigmpifjcijdbaaGreatDoorG01
section
namespace Go.Proofs.YtigmpifjcijdbaaGreatDoor
set_option linter.unusedVariables false
set_option linter.unusedSimpArgs false
open Go.RowKit Verge
set_option maxHeartbeats 400000 in
theorem words_any (A:Option Addr) (n c:Nat) (xs:List Nat) (w:World) (h:Rd w A xs) (hn:xs.length=n) (hm:n≤140737488355328) :
  Calls Tryz.prog 105 #[.slice A n c] w fun e w'=>e=.returned (.int .i64 (wl xs:Nat))∧w=w':=by
 rcases Nat.eq_zero_or_pos n with h0 | h0
 ·subst h0
  obtain rfl:=List.eq_nil_of_length_eq_zero hn
  clear h hn hm
  go_enter Tryz.func105,Tryz.ntmps105
  go_wp2
  go_loop [3] (fun v=>v=.int .i64 0) (fun _=>0)
  case atStart=>rfl
  case round =>
   obtain rfl:=hrel
   go_wp2
   go_ret
   exact ⟨rfl,rfl⟩
 ·obtain ⟨b,o,rfl,hc⟩:=h.2 (by intro e;subst e;simp at hn;omega)
  have hx32:=h.1
  clear h
  have H1:=Lib.hid hn;clear hn
  have HC:=Lib.hid hc;clear hc
  have HX:=Lib.hid hx32;clear hx32
  go_enter Tryz.func105,Tryz.ntmps105
  go_wp2
  go_loop [3] (fun v=>∃k:Nat,k≤n∧v=.int .i64 k∧∀j x:Nat,k≤j→xs[j]?=some x→x=0) (fun v=>(intOf v).toNat)
  case atStart=>exact ⟨n,Nat.le_refl _,rfl,fun j x hj hx=>by rw [List.getElem?_eq_none (by have:=H1.out;omega)] at hx;cases hx⟩
  case round =>
   obtain ⟨k,hk,rfl,hz⟩:=hrel
   have HZ:=Lib.hid hz;clear hz
   rcases Nat.eq_zero_or_pos k with hk0 | hk0
   ·subst hk0
    go_wp2
    go_ret
    exact ⟨ret_int (by rw [wl_of xs 0 (by omega) (fun k x _ hx=>HZ.out k x (by omega) hx) (by intro k x h;omega)];rfl),rfl⟩
   ·obtain ⟨j,rfl⟩:∃j,k=j+1:=⟨k - 1,by omega⟩
    obtain ⟨x,hx⟩:∃x,xs[j]?=some x:=⟨xs[j]'(by have:=H1.out;omega),List.getElem?_eq_getElem _⟩
    have hcell:=HC.out j x hx
    have HXX:=Lib.hid hx;clear hx
    by_cases hx0:x=0
    ·subst hx0
     go_wp2
     go_round
     case rel=>exact ⟨j,by omega,by go_num,fun i y hi hy=>by
      rcases Nat.eq_or_lt_of_le hi with h | h
      ·subst h;rw [HXX.out] at hy;simpa using hy.symm
      ·exact HZ.out i y h hy⟩
     case measure=>simp [intOf]
    ·have hxb:((x:Int)==0)=false:=by simpa using hx0
     go_wp2
     go_ret
     have hw:wl xs=j+1:=wl_of xs (j+1) (by have:=H1.out;omega) (fun k x hk hx=>HZ.out k x hk hx) (by
      intro k y h hy
      obtain rfl:j=k:=by omega
      rw [HXX.out] at hy;simp at hy;omega)
     exact ⟨ret_int (by rw [hw];omega),rfl⟩
set_option maxHeartbeats 400000 in
theorem cut_any (A:Option Addr) (n c:Nat) (xs:List Nat) (w:World) (h:Rd w A xs) (hn:xs.length=n) (hc:n≤c) (hm:c≤140737488355328) :
  Calls Tryz.prog 113 #[.slice A n c] w fun e w'=>e=.returned (.slice A (wl xs) (wl xs))∧w=w':=by
 have hcut:=fun W=>run_cut_hm W A n c (wl xs) (by have:=wl_le xs;omega)
 go_enter Tryz.func113,Tryz.ntmps113
 go_wp2_with (go_at_call 105;refine (words_any A n c xs _ h hn (by omega)).mono ?_;rintro e w' ⟨rfl,rfl⟩)
 go_ret
 exact ⟨rfl,rfl⟩
theorem fit_any (g c:Nat) (n:Nat) (xs:List Nat) (w:World) (h:Blk w g xs) (hn:xs.length=n) (hc:n≤c) (hm:c≤140737488355328) :
  Calls Tryz.prog 118 #[.slice (some ⟨g,0,none⟩) n c] w fun e w'=>∃A,e=.returned (.tuple #[.slice A (fit (val xs)).1.length (fit (val xs)).1.length,.int .i64 (fit (val xs)).2])∧Own w g A (fit (val xs)).1∧w=w':=by
 have hd:=dig_val h.1
 have hl:=length_norm xs
 by_cases hlong:16384<wl xs
 ·have hf:fit (val xs)=([],2):=fit_yes (by rw [long_iff,hd,hl];exact hlong)
  rw [hf]
  clear hf hd hl
  go_enter Tryz.func118,Tryz.ntmps118
  go_wp2_with (go_at_call 113;refine (cut_any _ n c xs _ h.rd hn hc hm).mono ?_;rintro e w' ⟨rfl,rfl⟩)
  go_ret2
  exact ⟨none,rfl,Own.nil _ _ _,rfl⟩
 ·have hf:fit (val xs)=(dig (val xs),0):=fit_no (by rw [long_false,hd,hl];omega)
  have ho:=h.own (wl xs) (wl_le xs)
  rw [hf,hd,hl]
  clear hf hd hl
  go_enter Tryz.func118,Tryz.ntmps118
  go_wp2_with (go_at_call 113;refine (cut_any _ n c xs _ h.rd hn hc hm).mono ?_;rintro e w' ⟨rfl,rfl⟩)
  go_ret2
  exact ⟨_,rfl,ho,rfl⟩
theorem add32_any (x y c:Int) (hx0:0≤x) (hx:x<4294967296) (hy0:0≤y) (hy:y<4294967296) (hc0:0≤c) (hc:c≤1) (w:World) :
  Calls Tryz.prog 117 #[.int .u32 x,.int .u32 y,.int .u32 c] w fun e w' =>
   e=.returned (.tuple #[.int .u32 ((x+y+c)%4294967296),.int .u32 ((x+y+c) / 4294967296)])∧w=w':=by
 go_enter Tryz.func117,Tryz.ntmps117
 go_wp2
 go_ret2
 exact ⟨rfl,rfl⟩
theorem borrow_nat (x y d:Nat) (hx:x<4294967296) (hy:y<4294967296) (hd:d<4294967296) :
  (((4294967295 ^^^ x) &&& y) ||| ((4294967295 ^^^ (x ^^^ y)) &&& d)) / 2147483648 =
   (((1 ^^^ (x / 2147483648)) &&& (y / 2147483648)) ||| ((1 ^^^ (x / 2147483648 ^^^ y / 2147483648)) &&& (d / 2147483648))):=by
 have e:∀n:Nat,n / 2147483648=n >>> 31:=fun n=>by rw [Nat.shiftRight_eq_div_pow]
 simp only [e,Nat.shiftRight_or_distrib,Nat.shiftRight_and_distrib,Nat.shiftRight_xor_distrib]
 rfl
theorem borrow_eq (x y c:Int) (hx0:0≤x) (hx:x<4294967296) (hy0:0≤y) (hy:y<4294967296) (hc0:0≤c) (hc:c≤1) :
  bits .or .u32 (bits .and .u32 (bits .xor .u32 IntKind.u32.max x) y) (bits .and .u32 (bits .xor .u32 IntKind.u32.max (bits .xor .u32 x y)) ((x - y - c)%4294967296)) / 2147483648 =
   (y+c - x+4294967295) / 4294967296:=by
 have hm:IntKind.u32.max=((4294967295:Nat):Int):=by decide
 obtain ⟨a,rfl⟩:=Int.eq_ofNat_of_zero_le hx0
 obtain ⟨b,rfl⟩:=Int.eq_ofNat_of_zero_le hy0
 obtain ⟨d,hd⟩:∃d:Nat,((a:Int) - b - c)%4294967296=d:=⟨(((a:Int) - b - c)%4294967296).toNat,by omega⟩
 rw [hd,hm]
 have ha:a<4294967296:=by omega
 have hb:b<4294967296:=by omega
 have hdd:d<4294967296:=by omega
 have x1:4294967295 ^^^ a<2^32:=Nat.xor_lt_two_pow (by omega) (by omega)
 have x2:a ^^^ b<2^32:=Nat.xor_lt_two_pow (by omega) (by omega)
 have x3:4294967295 ^^^ (a ^^^ b)<2^32:=Nat.xor_lt_two_pow (by omega) (by omega)
 have x4:(4294967295 ^^^ a) &&& b<2^32:=Nat.and_lt_two_pow _ (by omega)
 have x5:(4294967295 ^^^ (a ^^^ b)) &&& d<2^32:=Nat.and_lt_two_pow _ (by omega)
 rw [u32_xor_nat _ _ (by omega) ha,u32_xor_nat _ _ ha hb,u32_xor_nat _ _ (by omega) (by omega),u32_and_nat _ _ (by omega) hb,u32_and_nat _ _ (by omega) hdd,
  u32_or_nat _ _ (by omega) (by omega)]
 rw [show (2147483648:Int)=((2147483648:Nat):Int) from rfl,←Int.natCast_ediv,borrow_nat a b d ha hb hdd]
 have ca:a / 2147483648=0∨a / 2147483648=1:=by omega
 have cb:b / 2147483648=0∨b / 2147483648=1:=by omega
 have cd:d / 2147483648=0∨d / 2147483648=1:=by omega
 rcases ca with ca | ca <;> rcases cb with cb | cb <;> rcases cd with cd | cd <;> rw [ca,cb,cd] <;> simp <;> omega
theorem sub32_any (x y c:Int) (hx0:0≤x) (hx:x<4294967296) (hy0:0≤y) (hy:y<4294967296) (hc0:0≤c) (hc:c≤1) (w:World) :
  Calls Tryz.prog 128 #[.int .u32 x,.int .u32 y,.int .u32 c] w fun e w' =>
   e=.returned (.tuple #[.int .u32 ((x - y - c)%4294967296),.int .u32 ((y+c - x+4294967295) / 4294967296)])∧w=w':=by
 have hb:=borrow_eq x y c hx0 hx hy0 hy hc0 hc
 have HB:=Lib.hid hb;clear hb
 go_enter Tryz.func128,Tryz.ntmps128
 go_wp2
 all_goals
  go_ret2
  rw [←HB.out]
  exact ⟨rfl,rfl⟩
theorem ba_getD (a:ByteArray) (i:Nat) (h:i<a.size):a[i]=a.data.getD i 0:=by
 rw [ByteArray.getElem_eq_getElem_data,Array.getElem_eq_getD]
set_option maxRecDepth 100000 in
theorem len32_any (x:Int) (hx0:0≤x) (hx:x<4294967296) (w:World) :
  Calls Tryz.prog 119 #[.int .u32 x] w fun e w'=>e=.returned (.int .i64 (blen x.toNat:Nat))∧w=w':=by
 go_enter Tryz.func119,Tryz.ntmps119
 go_wp2
 ·go_ret
  refine ⟨ret_int ?_,rfl⟩
  simp only [ba_getD]
  have h256:256≤x / 65536:=by assumption
  obtain ⟨m,hm⟩:∃m:Fin 256,(x / 65536 / 256).toNat=m.val:=⟨⟨(x / 65536 / 256).toNat,by omega⟩,rfl⟩
  rw [blen_pre x 24 hx0 m.val (by rw [←hm];omega) (by omega),hm]
  clear hm
  revert m
  decide +kernel
 ·go_ret
  refine ⟨ret_int ?_,rfl⟩
  simp only [ba_getD]
  have h256:x / 65536<256:=by assumption
  have h256:65536≤x:=by assumption
  obtain ⟨m,hm⟩:∃m:Fin 256,(x / 65536).toNat=m.val:=⟨⟨(x / 65536).toNat,by omega⟩,rfl⟩
  rw [blen_pre x 16 hx0 m.val hm (by omega),hm]
  clear hm
  revert m
  decide +kernel
 ·go_ret
  refine ⟨ret_int ?_,rfl⟩
  simp only [ba_getD]
  have h256:x<65536:=by assumption
  have h256:256≤x:=by assumption
  obtain ⟨m,hm⟩:∃m:Fin 256,(x / 256).toNat=m.val:=⟨⟨(x / 256).toNat,by omega⟩,rfl⟩
  rw [blen_pre x 8 hx0 m.val hm (by omega),hm]
  clear hm
  revert m
  decide +kernel
 ·go_ret
  refine ⟨ret_int ?_,rfl⟩
  simp only [ba_getD]
  have h256:x<256:=by assumption
  obtain ⟨m,hm⟩:∃m:Fin 256,m.val=x.toNat:=⟨⟨x.toNat,by omega⟩,rfl⟩
  rw [←hm]
  clear hm
  revert m
  decide +kernel
end Go.Proofs.YtigmpifjcijdbaaGreatDoor
end

section
namespace Go.Proofs.YtigmpifjcijdbaaGreatDoor
set_option linter.unusedVariables false
set_option linter.unusedSimpArgs false
open Go.RowKit Verge
theorem take_succ_of' (X:List Nat) {i x:Nat} (hi:i<X.length) (hx:X.getD i 0=x):X.take (i+1)=X.take i++[x]:=by
 rw [List.take_add_one,get_of_lt X hi,hx];rfl
def Grow (w:World) (B:Nat) (v:Value) (xs:List Nat):Prop:=W32 xs∧w.ownsRow B 52 1 v xs.length (u32s xs)
theorem Grow.nil (w:World) (B:Nat):Grow w B (.slice none 0 0) []:=⟨W32.nil,World.ownsRow_nil w B _ 1⟩
theorem Grow.rd {w:World} {B:Nat} {v:Value} {xs:List Nat} (h:Grow w B v xs):∃A c,v=.slice A xs.length c∧Rd w A xs∧xs.length≤c∧c≤maxLen:=by
 obtain ⟨h32,hl,hv⟩:=h
 rcases hv with ⟨rfl,hn⟩ | ⟨g,cap,cur,rfl,_,hg,hc,hcap,hsz,ht⟩
 ·rw [hn]
  exact ⟨none,0,rfl,by rw [List.eq_nil_of_length_eq_zero hn];exact Rd.nil,Nat.le_refl _,by decide⟩
 ·refine ⟨_,cap,rfl,⟨h32,fun hne=>⟨g,0,rfl,fun k x hx => ?_⟩⟩,hc,hcap⟩
  rw [Nat.zero_add,cell_of_row w g k _ _ (0,0) hg]
  have:(cur.toList.take (xs.length*1))[k]?=some (Value.int .u32 (x:Int)):=by rw [ht,u32s_get,hx];rfl
  rw [List.getElem?_take] at this
  split at this
  ·simpa using this
  ·cases this
theorem Grow.lt {w:World} {B:Nat} {v:Value} {xs:List Nat} (h:Grow w B v xs):∀k,v.ownBlock=some k→B≤k:=fun k hk=>(h.2.lt k hk).1
theorem Grow.alloc {w:World} {B:Nat} {v:Value} {xs:List Nat} (h:Grow w B v xs) (o:Obj):Grow (w.alloc o) B v xs:=⟨h.1,h.2.alloc o⟩
theorem wpList_push {w:World} {ops:Array Oper} {rest:List Oper} {o:Oper} {a:Act} {Q:Exit→Act→World→Prop} (hgd:o.guard=none) (s x:Operand)
  (ho:o.op=.call { callee:=.builtin .append,args:=#[s,x],argTypes:=#[23,23] })
  (B:Nat) (v:Value) (xs:List Nat) (hs:a.eval s=v) (W:World) (zI:Int) (z:Nat) (hw:w=W.alloc (.cells #[.int .u32 zI] 52)) (hz:(z:Int)=zI) (hz32:z<4294967296) (hown:Grow W B v xs)
  (hx:a.eval x=.slice (some ⟨W.heap.size,0,none⟩) 1 1) (hb:xs.length+1≤35184372088832) (hB:B≤W.heap.size) (A:World) (hA:Below B A W)
  (h:∀v' w',Grow w' B v' (xs++[z])→Below B A w'→wpList Tryz.prog ops Q rest (a.put o.dst v') w'):wpList Tryz.prog ops Q (o::rest) a w:=by
 subst hw hz
 obtain ⟨i0,hi,hz0,hz1,hz2⟩:=info_parts Tryz.info52
 refine wpList_append_own _ hgd s x 23 ho B 52 i0 (.int .u32 0) 1 4 Tryz.underlying23 hi hz0 hz1 hz2 rfl (by decide) v xs.length (u32s xs) hs (hown.alloc _).2
  ⟨W.heap.size,0,none⟩ 1 1 [.int .u32 (z:Int)] hx rfl ?_ (by intro u hu;simp at hu;subst hu;rfl) (by unfold maxLen;omega) (by omega) (by simp;omega) ?_
 ·intro j u hu
  rcases j with _ | j
  ·simp at hu;subst hu
   rw [Addr.add,if_pos rfl]
   simp [World.cell?_alloc_new]
  ·simp at hu
 ·intro v' w' h1 h2 _
  refine h v' w' ⟨hown.1.append (W32.cons hz32 W32.nil),?_⟩ ?_
  ·rw [List.length_append]
   have e:u32s (xs++[z])=u32s xs++[.int .u32 (z:Int)]:=by simp [u32s]
   rw [e];exact h1
  ·exact (hA.alloc hB _).grown h2 (by simp;omega) (fun k hk=>hown.lt k hk)
set_option maxHeartbeats 400000 in
theorem rwords_any (A:Option Addr) (n c:Nat) (xs:List Nat) (w:World) (h:Rd w A xs) (hn:xs.length=n) (hm:n≤140737488355328) :
  Calls Tryz.prog 41 #[.slice A n c] w fun e w'=>e=.returned (.int .i64 (wl xs:Nat))∧w=w':=by
 rcases Nat.eq_zero_or_pos n with h0 | h0
 ·subst h0
  obtain rfl:=List.eq_nil_of_length_eq_zero hn
  clear h hn hm
  go_enter Tryz.func41,Tryz.ntmps41
  go_wp2
  go_loop [3] (fun v=>v=.int .i64 0) (fun _=>0)
  case atStart=>rfl
  case round =>
   obtain rfl:=hrel
   go_wp2
   go_ret
   exact ⟨rfl,rfl⟩
 ·obtain ⟨b,o,rfl,hc⟩:=h.2 (by intro e;subst e;simp at hn;omega)
  have hx32:=h.1
  clear h
  have H1:=Lib.hid hn;clear hn
  have HC:=Lib.hid hc;clear hc
  have HX:=Lib.hid hx32;clear hx32
  go_enter Tryz.func41,Tryz.ntmps41
  go_wp2
  go_loop [3] (fun v=>∃k:Nat,k≤n∧v=.int .i64 k∧∀j x:Nat,k≤j→xs[j]?=some x→x=0) (fun v=>(intOf v).toNat)
  case atStart=>exact ⟨n,Nat.le_refl _,rfl,fun j x hj hx=>by rw [List.getElem?_eq_none (by have:=H1.out;omega)] at hx;cases hx⟩
  case round =>
   obtain ⟨k,hk,rfl,hz⟩:=hrel
   have HZ:=Lib.hid hz;clear hz
   rcases Nat.eq_zero_or_pos k with hk0 | hk0
   ·subst hk0
    go_wp2
    go_ret
    exact ⟨ret_int (by rw [wl_of xs 0 (by omega) (fun k x _ hx=>HZ.out k x (by omega) hx) (by intro k x h;omega)];rfl),rfl⟩
   ·obtain ⟨j,rfl⟩:∃j,k=j+1:=⟨k - 1,by omega⟩
    obtain ⟨x,hx⟩:∃x,xs[j]?=some x:=⟨xs[j]'(by have:=H1.out;omega),List.getElem?_eq_getElem _⟩
    have hcell:=HC.out j x hx
    have HXX:=Lib.hid hx;clear hx
    by_cases hx0:x=0
    ·subst hx0
     go_wp2
     go_round
     case rel=>exact ⟨j,by omega,by go_num,fun i y hi hy=>by
      rcases Nat.eq_or_lt_of_le hi with h | h
      ·subst h;rw [HXX.out] at hy;simpa using hy.symm
      ·exact HZ.out i y h hy⟩
     case measure=>simp [intOf]
    ·have hxb:((x:Int)==0)=false:=by simpa using hx0
     go_wp2
     go_ret
     have hw:wl xs=j+1:=wl_of xs (j+1) (by have:=H1.out;omega) (fun k x hk hx=>HZ.out k x hk hx) (by
      intro k y h hy
      obtain rfl:j=k:=by omega
      rw [HXX.out] at hy;simp at hy;omega)
     exact ⟨ret_int (by rw [hw];omega),rfl⟩
def Doc (w:World) (x:Nat) (e:Ending) (w':World):Prop:=∃A c,e=.returned (.slice A (dig x).length c)∧Rd w' A (dig x)∧(dig x).length≤c∧c≤maxLen∧Below w.heap.size w w'
set_option maxHeartbeats 1000000 in
theorem rnorm_any (A:Option Addr) (n c:Nat) (X:List Nat) (w:World) (h:Rd w A X) (hn:X.length=n) (hm:n≤35184372088800) :
  Calls Tryz.prog 34 #[.slice A n c] w (Doc w (val X)):=by
 have hD:=dig_val h.1
 have hR:=Lib.hid (fun W (hb:Below w.heap.size w W)=>h.below hb)
 have hle:=wl_le X
 have H1:=Lib.hid (And.intro hn (And.intro h hD))
 clear h hn hD
 go_enter Tryz.func34,Tryz.ntmps34
 go_wp2
 go_loop [3] (fun v=>∃k:Nat,k≤n∧v=.int .i64 k∧Hid (∀j x:Nat,k≤j→X[j]?=some x→x=0)) (fun v=>(intOf v).toNat)
 case atStart=>exact ⟨n,Nat.le_refl _,rfl,fun j x hj hx=>by rw [List.getElem?_eq_none (by have:=H1.out.1;omega)] at hx;cases hx⟩
 case round =>
  obtain ⟨k,hk,rfl,hz⟩:=hrel
  by_cases hcont:∃j,k=j+1∧X[j]?=some 0
  ·obtain ⟨j,rfl,hx⟩:=hcont
   obtain ⟨b,o,rfl,hc⟩:=(H1.out.2.1).2 (by rintro rfl;simp at hx)
   have hcell:=hc j 0 hx
   have HX:=Lib.hid hx;clear hx hc
   go_wp2
   go_round
   case rel=>exact ⟨j,by omega,by go_num,fun i y hi hy=>by
    rcases Nat.eq_or_lt_of_le hi with h | h
    ·subst h;rw [HX.out] at hy;simpa using hy.symm
    ·exact hz.out i y h hy⟩
   case measure=>simp [intOf]
  ·have hkw:wl X=k:=wl_of X k (by have:=H1.out.1;omega) (fun i x hi hx=>hz.out i x hi hx) (fun j x hj hx hx0=>hcont ⟨j,hj,by rw [hx,hx0]⟩)
   have HK:=Lib.hid hkw;clear hkw hz
   rcases Nat.eq_zero_or_pos k with hk0 | hk0
   ·subst hk0
    clear hcont
    go_wp2
    go_loopw [4,5] (fun v iv wr=>v=.slice none 0 0∧iv=.int .i64 0∧wr=w) (fun _ _ _=>0)
    case atStart=>exact ⟨rfl,rfl,rfl⟩
    case round =>
     obtain ⟨rfl,rfl,rfl⟩:=hrel
     go_wp2
     go_ret
     have hd:dig (val X)=[]:=by
      rw [H1.out.2.2,norm,HK.out];rfl
     rw [Doc,hd]
     exact ⟨none,0,rfl,Rd.nil,Nat.le_refl _,by decide,Below.refl _ _⟩
   ·obtain ⟨b,o,rfl,hc⟩:=(H1.out.2.1).cells (by have:=H1.out.1;omega)
    obtain ⟨j,rfl⟩:∃j,k=j+1:=⟨k - 1,by omega⟩
    have hcell:=hc j (by have:=H1.out.1;omega)
    have hne:((X.getD j 0:Nat):Int)≠0:=by
     intro e
     exact hcont ⟨j,rfl,by rw [get_of_lt X (by have:=H1.out.1;omega)];congr 1;omega⟩
    obtain ⟨y,hy⟩:∃y,X.getD j 0=y:=⟨_,rfl⟩
    rw [hy] at hcell hne
    have hyb:((y:Int)==0)=false:=by rw [beq_eq_false_iff_ne];exact hne
    clear hcont hne hy hc
    go_wp2
    clear hyb hcell
    go_loopw [4,5] (fun v iv wr=>∃i:Nat,i≤j+1∧iv=.int .i64 i∧Grow wr w.heap.size v (X.take i)∧Below w.heap.size w wr) (fun _ iv _=>j+1 - (intOf iv).toNat)
    case atStart=>exact ⟨0,by omega,rfl,by rw [List.take_zero];exact Grow.nil _ _,Below.refl _ _⟩
    case round =>
     obtain ⟨i,hi,rfl,hG,hb⟩:=hrel
     by_cases hij:i<j+1
     ·obtain ⟨b2,o2,he,hcx⟩:=(hR.out _ hb).cell (k:=i) (by have:=H1.out.1;omega)
      simp only [Option.some.injEq,Addr.mk.injEq,and_true] at he
      obtain ⟨rfl,rfl⟩:=he
      have hx32:=(hR.out _ hb).1.getD i
      obtain ⟨x,hgx⟩:∃x,X.getD i 0=x:=⟨_,rfl⟩
      rw [hgx] at hcx hx32
      have HGX:=Lib.hid hgx;clear hgx
      have hsz:=hb.size
      have hlen:(X.take i).length+1≤35184372088832:=by rw [List.length_take];omega
      have hin:(i:Int)<(n:Int):=by omega
      go_wp2_with (refine wpList_push rfl _ _ rfl w.heap.size _ (X.take i) rfl wr _ x rfl rfl hx32 hG rfl hlen hsz w hb ?_;intro v' w1 hG1 hb1)
      go_roundw
      case rel=>exact ⟨i+1,by omega,by go_num,by rw [take_succ_of' X (by have:=H1.out.1;omega) HGX.out];exact hG1,hb1⟩
      case measure=>simp [intOf];omega
     ·obtain rfl:i=j+1:=by omega
      go_wp2
      go_ret
      have hd:dig (val X)=X.take (j+1):=by rw [H1.out.2.2,norm,HK.out]
      obtain ⟨A1,c1,rfl,hR1,hc1,hm1⟩:=hG.rd
      rw [Doc,hd]
      exact ⟨A1,c1,rfl,hR1,hc1,hm1,hb⟩
end Go.Proofs.YtigmpifjcijdbaaGreatDoor
end

section
namespace Go.Proofs.YtigmpifjcijdbaaGreatDoor
set_option linter.unusedVariables false
set_option linter.unusedSimpArgs false
open Go.RowKit Verge
section
variable (A:Option Addr) (n c:Nat) (X:List Nat) (w:World) (h:Rd w A X) (hn:X.length=n) (hm:n≤140737488355328)
include h hn hm
theorem rbit_any (i:Nat) (iI:Int) (hi:(i:Int)=iI) (hib:i≤4611686018427387904):Calls Tryz.prog 54 #[.slice A n c,.int .i64 iI] w fun e w'=>e=.returned (.int .u32 (val X / 2^i%2:Nat))∧w=w':=by
 subst hi
 have hv:=bit_val h.1 i
 by_cases hlt:i / 32<n
 ·obtain ⟨b,o,rfl,hc⟩:=h.cell (k:=i / 32) (by omega)
  have hx:=h.1.getD (i / 32)
  obtain ⟨x,hgx⟩:∃x,X.getD (i / 32) 0=x:=⟨_,rfl⟩
  rw [hgx] at hc hx hv
  rw [hv]
  obtain ⟨y,hy⟩:∃y,x / 2^(i%32)=y:=⟨_,rfl⟩
  have hyb:y<4294967296:=by rw [←hy];exact Nat.lt_of_le_of_lt (Nat.div_le_self _ _) hx
  have hsh:(x:Int) / 2^(i%32)=(y:Int):=by rw [←hy];simp
  obtain ⟨z,hz⟩:∃z,y%2=z:=⟨_,rfl⟩
  have hand:Go.bits .and .u32 (y:Int) 1=(z:Int):=by
   have h1:Go.bits .and .u32 (y:Int) ((1:Nat):Int)=((y &&& 1:Nat):Int):=Go.u32_and_nat y 1 hyb (by omega)
   rw [Nat.and_one_is_mod,hz] at h1
   exact h1
  rw [hy,hz]
  obtain ⟨q,hq⟩:∃q,i / 32=q:=⟨_,rfl⟩
  obtain ⟨r,hr⟩:∃r,i%32=r:=⟨_,rfl⟩
  rw [hq] at hc hlt
  rw [hr] at hsh
  have hqI:(i:Int) / 32=(q:Int):=by omega
  have hrI:(i:Int)%32=(r:Int):=by omega
  have hr32:r<32:=by omega
  clear hv hgx hy hz hq hr h hn
  go_enter Tryz.func54,Tryz.ntmps54
  go_wp2
  go_ret
  exact ⟨rfl,rfl⟩
 ·have hz:X.getD (i / 32) 0=0:=getD_ge X (by omega)
  rw [hz,Nat.zero_div] at hv
  rw [hv]
  obtain ⟨q,hq⟩:∃q,i / 32=q:=⟨_,rfl⟩
  have hqI:(i:Int) / 32=(q:Int):=by omega
  have hqn:n≤q:=by omega
  clear hv hz hq hlt h hn
  go_enter Tryz.func54,Tryz.ntmps54
  go_wp2
  go_ret
  exact ⟨rfl,rfl⟩
set_option maxHeartbeats 1000000 in
theorem rzeros_any (hm2:n≤70368744177664):Calls Tryz.prog 35 #[.slice A n c] w fun e w'=>e=.returned (.int .i64 (ntz (val X):Nat))∧w=w':=by
 have HN:=Lib.hid hn
 rcases Nat.eq_zero_or_pos (wl X) with h0 | h0
 ·have hv:=(val_eq_zero_iff X).2 h0
  rw [hv,ntz_zero]
  have hb:((wl X:Int)==0)=true:=by simp [h0]
  clear hn h0 hv
  go_enter Tryz.func35,Tryz.ntmps35
  go_wp2_with (go_at_call 41;refine (rwords_any A n c X _ h HN.out hm).mono ?_;rintro e w' ⟨rfl,rfl⟩)
  go_ret
  exact ⟨rfl,rfl⟩
 ·have hv0:val X≠0:=fun e=>by have:=(val_eq_zero_iff X).1 e;omega
  have hb:((wl X:Int)==0)=false:=by rw [beq_eq_false_iff_ne];omega
  have hle:=wl_le X
  obtain ⟨b,o,rfl,hc⟩:=h.cells (by omega)
  have hnt:=ntz_lt h.1 hv0
  rw [hn] at hnt
  have hbits:=fun i (hi:i≤4611686018427387904) W (hW:Rd W (some ⟨b,o,none⟩) X)=>rbit_any (some ⟨b,o,none⟩) n c X W hW hn hm i _ rfl hi
  have HBI:=Lib.hid hbits
  have HX:=Lib.hid (And.intro h (And.intro hc hv0))
  have h32:=h.1
  have HW:=Lib.hid h32
  clear hn h hc hv0 h0 hle hbits h32
  go_enter Tryz.func35,Tryz.ntmps35
  go_wp2_with (go_at_call 41;refine (rwords_any _ n c X _ HX.out.1 HN.out hm).mono ?_;rintro e w' ⟨rfl,rfl⟩)
  go_loop [3] (fun kv=>∃k:Nat,k<n∧kv=.int .i64 (32*(k:Int))∧Hid (∀j,j<k→X.getD j 0=0)) (fun kv=>32*n - (intOf kv).toNat)
  case atStart=>exact ⟨0,by omega,rfl,fun j hj=>by omega⟩
  case round =>
   obtain ⟨k,hk,rfl,hz⟩:=hrel
   have hcell:=HX.out.2.1 k (by rw [HN.out];exact hk)
   obtain ⟨x,hgx⟩:∃x,X.getD k 0=x:=⟨_,rfl⟩
   rw [hgx] at hcell
   have hdk:(32*(k:Int)) / 32=(k:Int):=by omega
   have HG:=Lib.hid hgx;clear hgx
   have hge:=ntz_ge k (val_take_zero X k hz.out) HX.out.2.2 (by rw [HN.out];omega)
   by_cases hx0:x=0
   ·subst hx0
    have hk1:k+1<n:=by
     have hz2:val (X.take (k+1))=0:=val_take_zero X (k+1) fun j hj=>by
      rcases Nat.eq_or_lt_of_le (Nat.le_of_lt_succ hj) with e | e
      ·rw [e];exact HG.out
      ·exact hz.out j e
     have:=ntz_ge (k+1) hz2 HX.out.2.2 (by rw [HN.out];omega)
     omega
    go_wp2
    go_round
    case rel=>exact ⟨k+1,hk1,by congr 1 <;> omega,fun j hj=>by
     rcases Nat.eq_or_lt_of_le (Nat.le_of_lt_succ hj) with e | e
     ·rw [e];exact HG.out
     ·exact hz.out j e⟩
    case measure=>simp [intOf];omega
   ·have hxb:((x:Int)==0)=false:=by rw [beq_eq_false_iff_ne];omega
    go_wp2
    go_loop [3] (fun kv=>∃k:Nat,k≤ntz (val X)∧kv=.int .i64 k) (fun kv=>32*n - (intOf kv).toNat)
    case atStart=>exact ⟨32*k,hge,by congr 1⟩
    case round =>
     obtain ⟨i,hi,rfl⟩:=hrel
     have hbit:=HBI.out i (by omega)
     rcases Nat.eq_or_lt_of_le hi with rfl | hlt
     ·rw [ntz_bit1 (val X) HX.out.2.2] at hbit
      have HBT:=Lib.hid hbit
      clear hbit
      go_wp2_with (go_at_call 54;refine (HBT.out _ HX.out.1).mono ?_;rintro e w' ⟨rfl,rfl⟩)
      go_ret
      exact ⟨rfl,rfl⟩
     ·rw [ntz_bit0 (val X) i HX.out.2.2 hlt] at hbit
      have HBT:=Lib.hid hbit
      clear hbit
      go_wp2_with (go_at_call 54;refine (HBT.out _ HX.out.1).mono ?_;rintro e w' ⟨rfl,rfl⟩)
      go_round
      case rel=>exact ⟨i+1,hlt,by congr 1⟩
      case measure=>simp [intOf];omega
end
end Go.Proofs.YtigmpifjcijdbaaGreatDoor
end
