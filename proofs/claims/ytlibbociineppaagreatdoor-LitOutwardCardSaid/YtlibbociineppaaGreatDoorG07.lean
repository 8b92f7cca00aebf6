/- Contracts of nat: words, cut, fit, long, Norm, Cmp and the words' sums. -/
import Derived.Test.YtlibbociineppaaGreatDoorG02
import Derived.Test.YtlibbociineppaaGreatDoorG06
import Derived.Test.YtlibbociineppaaGreatDoorG01
section
namespace Go.Proofs.YtlibbociineppaaGreatDoor
set_option linter.unusedVariables false
set_option linter.unusedSimpArgs false
open Go.RowKit Verge
set_option maxHeartbeats 400000 in
theorem words_any (A:Option Addr) (n c:Nat) (xs:List Nat) (w:World) (h:Rd w A xs) (hn:xs.length=n) (hm:n≤140737488355328) :
  Calls Tryz.prog 61 #[.slice A n c] w fun e w'=>e=.returned (.int .i64 (wl xs:Nat))∧w=w':=by
 rcases Nat.eq_zero_or_pos n with h0 | h0
 ·subst h0
  obtain rfl:=List.eq_nil_of_length_eq_zero hn
  clear h hn hm
  go_enter Tryz.func61,Tryz.ntmps61
  go_wp2
  go_loop [3] (fun v=>v=.int .i64 0) (fun _=>0)
  case atStart=>rfl
  case round =>
   obtain rfl:=hrel
   go_wp2
   go_ret
   exact ⟨rfl,rfl⟩
 ·obtain ⟨b,o,rfl,hc⟩:=h.2 (by intro e;subst e;simp at hn;omega)
  have hx32:=h.1
  clear h
  have H1:=Lib.hid hn;clear hn
  have HC:=Lib.hid hc;clear hc
  have HX:=Lib.hid hx32;clear hx32
  go_enter Tryz.func61,Tryz.ntmps61
  go_wp2
  go_loop [3] (fun v=>∃k:Nat,k≤n∧v=.int .i64 k∧∀j x:Nat,k≤j→xs[j]?=some x→x=0) (fun v=>(intOf v).toNat)
  case atStart=>exact ⟨n,Nat.le_refl _,rfl,fun j x hj hx=>by rw [List.getElem?_eq_none (by have:=H1.out;omega)] at hx;cases hx⟩
  case round =>
   obtain ⟨k,hk,rfl,hz⟩:=hrel
   have HZ:=Lib.hid hz;clear hz
   rcases Nat.eq_zero_or_pos k with hk0 | hk0
   ·subst hk0
    go_wp2
    go_ret
    exact ⟨ret_int (by rw [wl_of xs 0 (by omega) (fun k x _ hx=>HZ.out k x (by omega) hx) (by intro k x h;omega)];rfl),rfl⟩
   ·obtain ⟨j,rfl⟩:∃j,k=j+1:=⟨k - 1,by omega⟩
    obtain ⟨x,hx⟩:∃x,xs[j]?=some x:=⟨xs[j]'(by have:=H1.out;omega),List.getElem?_eq_getElem _⟩
    have hcell:=HC.out j x hx
    have HXX:=Lib.hid hx;clear hx
    by_cases hx0:x=0
    ·subst hx0
     go_wp2
     go_round
     case rel=>exact ⟨j,by omega,by go_num,fun i y hi hy=>by
      rcases Nat.eq_or_lt_of_le hi with h | h
      ·subst h;rw [HXX.out] at hy;simpa using hy.symm
      ·exact HZ.out i y h hy⟩
     case measure=>simp [intOf]
    ·have hxb:((x:Int)==0)=false:=by simpa using hx0
     go_wp2
     go_ret
     have hw:wl xs=j+1:=wl_of xs (j+1) (by have:=H1.out;omega) (fun k x hk hx=>HZ.out k x hk hx) (by
      intro k y h hy
      obtain rfl:j=k:=by omega
      rw [HXX.out] at hy;simp at hy;omega)
     exact ⟨ret_int (by rw [hw];omega),rfl⟩
set_option maxHeartbeats 400000 in
theorem cut_any (A:Option Addr) (n c:Nat) (xs:List Nat) (w:World) (h:Rd w A xs) (hn:xs.length=n) (hc:n≤c) (hm:c≤140737488355328) :
  Calls Tryz.prog 69 #[.slice A n c] w fun e w'=>e=.returned (.slice A (wl xs) (wl xs))∧w=w':=by
 have hcut:=fun W=>run_cut_hm W A n c (wl xs) (by have:=wl_le xs;omega)
 go_enter Tryz.func69,Tryz.ntmps69
 go_wp2_with (go_at_call 61;refine (words_any A n c xs _ h hn (by omega)).mono ?_;rintro e w' ⟨rfl,rfl⟩)
 go_ret
 exact ⟨rfl,rfl⟩
theorem fit_any (g c:Nat) (n:Nat) (xs:List Nat) (w:World) (h:Blk w g xs) (hn:xs.length=n) (hc:n≤c) (hm:c≤140737488355328) :
  Calls Tryz.prog 75 #[.slice (some ⟨g,0,none⟩) n c] w fun e w'=>∃A,e=.returned (.tuple #[.slice A (fit (val xs)).1.length (fit (val xs)).1.length,.int .i64 (fit (val xs)).2])∧Own w g A (fit (val xs)).1∧w=w':=by
 have hd:=dig_val h.1
 have hl:=length_norm xs
 by_cases hlong:16384<wl xs
 ·have hf:fit (val xs)=([],2):=fit_yes (by rw [long_iff,hd,hl];exact hlong)
  rw [hf]
  clear hf hd hl
  go_enter Tryz.func75,Tryz.ntmps75
  go_wp2_with (go_at_call 69;refine (cut_any _ n c xs _ h.rd hn hc hm).mono ?_;rintro e w' ⟨rfl,rfl⟩)
  go_ret2
  exact ⟨none,rfl,Own.nil _ _ _,rfl⟩
 ·have hf:fit (val xs)=(dig (val xs),0):=fit_no (by rw [long_false,hd,hl];omega)
  have ho:=h.own (wl xs) (wl_le xs)
  rw [hf,hd,hl]
  clear hf hd hl
  go_enter Tryz.func75,Tryz.ntmps75
  go_wp2_with (go_at_call 69;refine (cut_any _ n c xs _ h.rd hn hc hm).mono ?_;rintro e w' ⟨rfl,rfl⟩)
  go_ret2
  exact ⟨_,rfl,ho,rfl⟩
theorem add32_any (x y c:Int) (hx0:0≤x) (hx:x<4294967296) (hy0:0≤y) (hy:y<4294967296) (hc0:0≤c) (hc:c≤1) (w:World) :
  Calls Tryz.prog 74 #[.int .u32 x,.int .u32 y,.int .u32 c] w fun e w' =>
   e=.returned (.tuple #[.int .u32 ((x+y+c)%4294967296),.int .u32 ((x+y+c) / 4294967296)])∧w=w':=by
 go_enter Tryz.func74,Tryz.ntmps74
 go_wp2
 go_ret2
 exact ⟨rfl,rfl⟩
theorem borrow_nat (x y d:Nat) (hx:x<4294967296) (hy:y<4294967296) (hd:d<4294967296) :
  (((4294967295 ^^^ x) &&& y) ||| ((4294967295 ^^^ (x ^^^ y)) &&& d)) / 2147483648 =
   (((1 ^^^ (x / 2147483648)) &&& (y / 2147483648)) ||| ((1 ^^^ (x / 2147483648 ^^^ y / 2147483648)) &&& (d / 2147483648))):=by
 have e:∀n:Nat,n / 2147483648=n >>> 31:=fun n=>by rw [Nat.shiftRight_eq_div_pow]
 simp only [e,Nat.shiftRight_or_distrib,Nat.shiftRight_and_distrib,Nat.shiftRight_xor_distrib]
 rfl
theorem borrow_eq (x y c:Int) (hx0:0≤x) (hx:x<4294967296) (hy0:0≤y) (hy:y<4294967296) (hc0:0≤c) (hc:c≤1) :
  bits .or .u32 (bits .and .u32 (bits .xor .u32 IntKind.u32.max x) y) (bits .and .u32 (bits .xor .u32 IntKind.u32.max (bits .xor .u32 x y)) ((x - y - c)%4294967296)) / 2147483648 =
   (y+c - x+4294967295) / 4294967296:=by
 have hm:IntKind.u32.max=((4294967295:Nat):Int):=by decide
 obtain ⟨a,rfl⟩:=Int.eq_ofNat_of_zero_le hx0
 obtain ⟨b,rfl⟩:=Int.eq_ofNat_of_zero_le hy0
 obtain ⟨d,hd⟩:∃d:Nat,((a:Int) - b - c)%4294967296=d:=⟨(((a:Int) - b - c)%4294967296).toNat,by omega⟩
 rw [hd,hm]
 have ha:a<4294967296:=by omega
 have hb:b<4294967296:=by omega
 have hdd:d<4294967296:=by omega
 have x1:4294967295 ^^^ a<2^32:=Nat.xor_lt_two_pow (by omega) (by omega)
 have x2:a ^^^ b<2^32:=Nat.xor_lt_two_pow (by omega) (by omega)
 have x3:4294967295 ^^^ (a ^^^ b)<2^32:=Nat.xor_lt_two_pow (by omega) (by omega)
 have x4:(4294967295 ^^^ a) &&& b<2^32:=Nat.and_lt_two_pow _ (by omega)
 have x5:(4294967295 ^^^ (a ^^^ b)) &&& d<2^32:=Nat.and_lt_two_pow _ (by omega)
 rw [u32_xor_nat _ _ (by omega) ha,u32_xor_nat _ _ ha hb,u32_xor_nat _ _ (by omega) (by omega),u32_and_nat _ _ (by omega) hb,u32_and_nat _ _ (by omega) hdd,
  u32_or_nat _ _ (by omega) (by omega)]
 rw [show (2147483648:Int)=((2147483648:Nat):Int) from rfl,←Int.natCast_ediv,borrow_nat a b d ha hb hdd]
 have ca:a / 2147483648=0∨a / 2147483648=1:=by omega
 have cb:b / 2147483648=0∨b / 2147483648=1:=by omega
 have cd:d / 2147483648=0∨d / 2147483648=1:=by omega
 rcases ca with ca | ca <;> rcases cb with cb | cb <;> rcases cd with cd | cd <;> rw [ca,cb,cd] <;> simp <;> omega
theorem sub32_any (x y c:Int) (hx0:0≤x) (hx:x<4294967296) (hy0:0≤y) (hy:y<4294967296) (hc0:0≤c) (hc:c≤1) (w:World) :
  Calls Tryz.prog 88 #[.int .u32 x,.int .u32 y,.int .u32 c] w fun e w' =>
   e=.returned (.tuple #[.int .u32 ((x - y - c)%4294967296),.int .u32 ((y+c - x+4294967295) / 4294967296)])∧w=w':=by
 have hb:=borrow_eq x y c hx0 hx hy0 hy hc0 hc
 have HB:=Lib.hid hb;clear hb
 go_enter Tryz.func88,Tryz.ntmps88
 go_wp2
 all_goals
  go_ret2
  rw [←HB.out]
  exact ⟨rfl,rfl⟩
theorem ba_getD (a:ByteArray) (i:Nat) (h:i<a.size):a[i]=a.data.getD i 0:=by
 rw [ByteArray.getElem_eq_getElem_data,Array.getElem_eq_getD]
set_option maxRecDepth 100000 in
theorem len32_any (x:Int) (hx0:0≤x) (hx:x<4294967296) (w:World) :
  Calls Tryz.prog 87 #[.int .u32 x] w fun e w'=>e=.returned (.int .i64 (blen x.toNat:Nat))∧w=w':=by
 go_enter Tryz.func87,Tryz.ntmps87
 go_wp2
 ·go_ret
  refine ⟨ret_int ?_,rfl⟩
  simp only [ba_getD]
  have h256:256≤x / 65536:=by assumption
  obtain ⟨m,hm⟩:∃m:Fin 256,(x / 65536 / 256).toNat=m.val:=⟨⟨(x / 65536 / 256).toNat,by omega⟩,rfl⟩
  rw [blen_pre x 24 hx0 m.val (by rw [←hm];omega) (by omega),hm]
  clear hm
  revert m
  decide +kernel
 ·go_ret
  refine ⟨ret_int ?_,rfl⟩
  simp only [ba_getD]
  have h256:x / 65536<256:=by assumption
  have h256:65536≤x:=by assumption
  obtain ⟨m,hm⟩:∃m:Fin 256,(x / 65536).toNat=m.val:=⟨⟨(x / 65536).toNat,by omega⟩,rfl⟩
  rw [blen_pre x 16 hx0 m.val hm (by omega),hm]
  clear hm
  revert m
  decide +kernel
 ·go_ret
  refine ⟨ret_int ?_,rfl⟩
  simp only [ba_getD]
  have h256:x<65536:=by assumption
  have h256:256≤x:=by assumption
  obtain ⟨m,hm⟩:∃m:Fin 256,(x / 256).toNat=m.val:=⟨⟨(x / 256).toNat,by omega⟩,rfl⟩
  rw [blen_pre x 8 hx0 m.val hm (by omega),hm]
  clear hm
  revert m
  decide +kernel
 ·go_ret
  refine ⟨ret_int ?_,rfl⟩
  simp only [ba_getD]
  have h256:x<256:=by assumption
  obtain ⟨m,hm⟩:∃m:Fin 256,m.val=x.toNat:=⟨⟨x.toNat,by omega⟩,rfl⟩
  rw [←hm]
  clear hm
  revert m
  decide +kernel
end Go.Proofs.YtlibbociineppaaGreatDoor
end

section
namespace Go.Proofs.YtlibbociineppaaGreatDoor
set_option linter.unusedVariables false
set_option linter.unusedSimpArgs false
open Go.RowKit Verge
def Grow (w:World) (B:Nat) (v:Value) (xs:List Nat):Prop:=W32 xs∧w.ownsRow B 78 1 v xs.length (u32s xs)
theorem Grow.nil (w:World) (B:Nat):Grow w B (.slice none 0 0) []:=⟨W32.nil,World.ownsRow_nil w B _ 1⟩
theorem Grow.rd {w:World} {B:Nat} {v:Value} {xs:List Nat} (h:Grow w B v xs):∃A c,v=.slice A xs.length c∧Rd w A xs∧xs.length≤c∧c≤maxLen:=by
 obtain ⟨h32,hl,hv⟩:=h
 rcases hv with ⟨rfl,hn⟩ | ⟨g,cap,cur,rfl,_,hg,hc,hcap,hsz,ht⟩
 ·rw [hn]
  exact ⟨none,0,rfl,by rw [List.eq_nil_of_length_eq_zero hn];exact Rd.nil,Nat.le_refl _,by decide⟩
 ·refine ⟨_,cap,rfl,⟨h32,fun hne=>⟨g,0,rfl,fun k x hx => ?_⟩⟩,hc,hcap⟩
  rw [Nat.zero_add,cell_of_row w g k _ _ (0,0) hg]
  have:(cur.toList.take (xs.length*1))[k]?=some (Value.int .u32 (x:Int)):=by rw [ht,u32s_get,hx];rfl
  rw [List.getElem?_take] at this
  split at this
  ·simpa using this
  ·cases this
theorem Grow.lt {w:World} {B:Nat} {v:Value} {xs:List Nat} (h:Grow w B v xs):∀k,v.ownBlock=some k→B≤k:=fun k hk=>(h.2.lt k hk).1
theorem Grow.alloc {w:World} {B:Nat} {v:Value} {xs:List Nat} (h:Grow w B v xs) (o:Obj):Grow (w.alloc o) B v xs:=⟨h.1,h.2.alloc o⟩
end Go.Proofs.YtlibbociineppaaGreatDoor
end

section
namespace Go.Proofs.YtlibbociineppaaGreatDoor
set_option linter.unusedVariables false
set_option linter.unusedSimpArgs false
open Go.RowKit Verge
section
variable (A:Option Addr) (n c:Nat) (X:List Nat) (w:World) (h:Rd w A X) (hn:X.length=n) (hm:n≤140737488355328)
include h hn hm
end
end Go.Proofs.YtlibbociineppaaGreatDoor
end

section
namespace Go.Proofs.YtlibbociineppaaGreatDoor
set_option linter.unusedVariables false
set_option linter.unusedSimpArgs false
open Go.RowKit Verge
section
variable (A:Option Addr) (n c:Nat) (X:List Nat) (A':Option Addr) (n' c':Nat) (Y:List Nat) (w:World) (h:Rd w A X) (hn:X.length=n) (h':Rd w A' Y) (hn':Y.length=n')
include h hn h' hn'
end
end Go.Proofs.YtlibbociineppaaGreatDoor
namespace Go.Proofs.YtlibbociineppaaGreatDoor
set_option linter.unusedVariables false
set_option linter.unusedSimpArgs false
open Go.RowKit Verge
end Go.Proofs.YtlibbociineppaaGreatDoor
end

section
namespace Go.Proofs.YtlibbociineppaaGreatDoor
set_option linter.unusedVariables false
set_option linter.unusedSimpArgs false
open Go.RowKit Verge
end Go.Proofs.YtlibbociineppaaGreatDoor
namespace Go.Proofs.YtlibbociineppaaGreatDoor
set_option linter.unusedVariables false
set_option linter.unusedSimpArgs false
open Go.RowKit Verge
end Go.Proofs.YtlibbociineppaaGreatDoor
end

section
namespace Go.Proofs.YtlibbociineppaaGreatDoor
set_option linter.unusedVariables false
set_option linter.unusedSimpArgs false
open Go.RowKit Verge
section
variable (A:Option Addr) (n c:Nat) (X:List Nat) (A':Option Addr) (n' c':Nat) (Y:List Nat) (w:World) (h:Rd w A X) (hn:X.length=n) (h':Rd w A' Y) (hn':Y.length=n') (hm:n≤35184372088700) (hm':n'≤35184372088700)
include h hn h' hn' hm hm'
end
end Go.Proofs.YtlibbociineppaaGreatDoor
end

section
namespace Verge
set_option linter.unusedVariables false
set_option linter.unusedSimpArgs false
def fracE (n d:Nat) (e:Int):Int:=e+ntz n - ntz d
def fracN (n d:Nat) (e:Int):Nat:=if n=0 then 0 else (n / 2^ntz n)*2^(fracE n d e).toNat
def fracD (n d:Nat) (e:Int):Nat:=if n=0 then 1 else (d / 2^ntz d)*2^(-(fracE n d e)).toNat
end Verge
namespace Go.Proofs.YtlibbociineppaaGreatDoor
set_option linter.unusedVariables false
set_option linter.unusedSimpArgs false
open Go.RowKit Verge
theorem rnew (W:World) (o:Obj):Below W.heap.size W (W.alloc o):=(Below.refl _ W).alloc (Nat.le_refl _) o
theorem raft {a b c:World} (h1:Below a.heap.size a b) (h2:Below b.heap.size b c):Below a.heap.size a c:=h1.trans (h2.mono h1.size)
theorem setb' (w:World) (r i:Nat) (u:Value) (b:Nat) (h:b≠r):(w.setCell ⟨r,i,none⟩ u).heap[b]?=w.heap[b]?:=Below.heap_setCell w ⟨r,i,none⟩ u b h
theorem Rd.apart {w w':World} {r:Nat} {A:Option Addr} {xs:List Nat} (h:Rd w A xs) (hr:∀i z,w.cell? ⟨r,i,none⟩≠some (.int .u32 z)) (hk:∀b,b≠r→w'.heap[b]?=w.heap[b]?):Rd w' A xs:=by
 refine ⟨h.1,fun hn => ?_⟩
 obtain ⟨b,o,rfl,hc⟩:=h.2 hn
 refine ⟨b,o,rfl,fun k x hx => ?_⟩
 have hb:b≠r:=by
  rintro rfl
  exact hr _ _ (hc k x hx)
 have e:=World.cell?_of_block (w:=w) (w':=w') (a:=⟨b,o+k,none⟩) (hk b hb)
 rw [e]
 exact hc k x hx
theorem dig_one:dig 1=[1]:=by rw [dig];simp [dig_zero]
end Go.Proofs.YtlibbociineppaaGreatDoor
end
