/- Layer 5, plain: what Exact writes, by Cmp against a numeral; what is read Down, Up and Near. -/
import Derived.Test.YtigmpifjcijdbaaGreatDoorG43
import Derived.Test.YtigmpifjcijdbaaGreatDoorG45
import Derived.Test.YtigmpifjcijdbaaGreatDoorG19
import Derived.Test.YtigmpifjcijdbaaGreatDoorG23
import Derived.Laws.FloatArith
import Derived.Test.YtigmpifjcijdbaaGreatDoorG44
section
namespace Go.Proofs.YtigmpifjcijdbaaGreatDoor
set_option linter.unusedVariables false
set_option linter.unusedSimpArgs false
open Go.RowKit Verge
end Go.Proofs.YtigmpifjcijdbaaGreatDoor
end

section
namespace Go.Proofs.YtigmpifjcijdbaaGreatDoor
set_option linter.unusedVariables false
set_option linter.unusedSimpArgs false
open Go.RowKit Verge
end Go.Proofs.YtigmpifjcijdbaaGreatDoor
end

section
namespace Go.Proofs.YtigmpifjcijdbaaGreatDoor
set_option linter.unusedVariables false
set_option linter.unusedSimpArgs false
open Go.RowKit Verge
end Go.Proofs.YtigmpifjcijdbaaGreatDoor
end

section
namespace Go.Proofs.YtigmpifjcijdbaaGreatDoor
set_option linter.unusedVariables false
set_option linter.unusedSimpArgs false
open Go.RowKit Verge
variable {w:World} {v u t:Value} {N D Q R:Nat}
set_option maxRecDepth 40000 in
set_option maxHeartbeats 1000000 in
theorem by10_any (k:Int) (hv:IsT N v w) (hu:IsT D u w) (h1 : -10000≤k) (h2:k≤10000) (n1:blen N≤50000) (n2:blen D≤50000) :
  Calls Tryz.prog 72 #[v,u,.int .i64 k] w (Ans w (Is2 (IsT (N*10^k.toNat)) (IsT (D*10^(-k).toNat)))):=by
 have hb:∀j:Nat,j≤10000→blen (10^j)≤100000:=fun j hj=>by
  obtain ⟨z,hz⟩:∃z,z=4*j+1:=⟨_,rfl⟩
  have h3:10^j<2^z:=by
   have a1:10^j≤16^j:=Nat.pow_le_pow_left (by omega) j
   have a2:16^j=2^(4*j):=by rw [Nat.pow_mul]
   have a3:2^(4*j)<2^z:=Nat.pow_lt_pow_right (by omega) (by omega)
   omega
  exact Nat.le_trans ((blen_lt _ _).2 h3) (by omega)
 by_cases hk:0<k
 ·have hj:((k.toNat:Nat):Int)=k:=by omega
  have hT:=fun W=>ten_any k.toNat (by omega) W
  rw [hj] at hT
  have e0:(-k).toNat=0:=by omega
  have HM:=Lib.hid (fun W x (hb':Below w.heap.size w W) (hx:IsT (10^k.toNat) x W)=>nmul_is (IsT.mono _ _ _ _ hb' hv) hx (by omega) (hb k.toNat (by omega)))
  have HU:=Lib.hid hu
  rw [e0,Nat.pow_zero,Nat.mul_one]
  generalize 10^k.toNat=X at *
  have HT:=Lib.hid hT
  clear hT hv hu hb hj e0 n1 n2
  go_enter Tryz.func72,Tryz.ntmps72
  go_wp2_with (first
   | (go_at_call 104;(with_reducible refine (HT.out _).mono ?_);rintro e w1 ⟨x1,rfl,hx,hb1⟩;have HX:=Lib.hid hx;have HB1:=Lib.hid hb1;clear hx hb1)
   | (go_at_call 80;(with_reducible refine (HM.out _ _ HB1.out HX.out).mono ?_);rintro e w2 ⟨x2,rfl,⟨y1,y2,rfl,hy,rfl⟩,hb2⟩;have HY:=Lib.hid hy;have HB2:=Lib.hid (raft HB1.out hb2);clear hy hb2))
  refine bodyPost_ret (v:=.tuple #[y1,u]) (by simp [results,Tryz.results72,go_sem]) rfl ?_
  exact ⟨_,rfl,⟨_,_,rfl,HY.out,IsT.mono _ _ _ _ HB2.out HU.out⟩,HB2.out⟩
 ·have hj:(((-k).toNat:Nat):Int) = -k:=by omega
  have hT:=fun W=>ten_any (-k).toNat (by omega) W
  rw [hj] at hT
  have e0:k.toNat=0:=by omega
  have HM:=Lib.hid (fun W x (hb':Below w.heap.size w W) (hx:IsT (10^(-k).toNat) x W)=>nmul_is (IsT.mono _ _ _ _ hb' hu) hx (by omega) (hb (-k).toNat (by omega)))
  have HU:=Lib.hid hv
  rw [e0,Nat.pow_zero,Nat.mul_one]
  generalize 10^(-k).toNat=X at *
  have HT:=Lib.hid hT
  clear hT hv hu hb hj e0 n1 n2
  go_enter Tryz.func72,Tryz.ntmps72
  go_wp2_with (first
   | (go_at_call 104;(with_reducible refine (HT.out _).mono ?_);rintro e w1 ⟨x1,rfl,hx,hb1⟩;have HX:=Lib.hid hx;have HB1:=Lib.hid hb1;clear hx hb1)
   | (go_at_call 80;(with_reducible refine (HM.out _ _ HB1.out HX.out).mono ?_);rintro e w2 ⟨x2,rfl,⟨y1,y2,rfl,hy,rfl⟩,hb2⟩;have HY:=Lib.hid hy;have HB2:=Lib.hid (raft HB1.out hb2);clear hy hb2))
  refine bodyPost_ret (v:=.tuple #[v,y1]) (by simp [results,Tryz.results72,go_sem]) rfl ?_
  exact ⟨_,rfl,⟨_,_,rfl,IsT.mono _ _ _ _ HB2.out HU.out,HY.out⟩,HB2.out⟩
def upB (d:Int) (neg:Bool) (Q R B:Nat):Bool:=
 if d=1∨d = -1 then decide (R≠0∧decide (d = -1)=neg) else decide (B<R∨B=R∧Q%2=1)
theorem ulen (n:Nat):(dig n).length=0↔n=0:=by
 constructor
 ·intro h
  refine Classical.byContradiction fun hn => ?_
  have:=dig_length_pos hn
  omega
 ·rintro rfl;rw [dig_zero];rfl
theorem and_1u (x:Nat) (hx:x<4294967296):bits .and .u32 (x:Int) 1=((x%2:Nat):Int):=by
 have:bits .and .u32 (x:Int) 1=((x &&& 1:Nat):Int):=Go.u32_and_nat x 1 hx (by omega)
 rw [this,Nat.and_one_is_mod]
set_option maxRecDepth 40000 in
set_option maxHeartbeats 2000000 in
theorem dup_any (d:Int) (neg:Bool) {B:Nat} {b:Value} (hq:IsT Q v w) (hr:IsT R u w) (hb:IsT B b w) (n1:blen R≤500000) (n2:blen B≤500000) :
  Calls Tryz.prog 76 #[.int .i64 d,.bool neg,v,u,b] w (Ans w (IsV (.bool (upB d neg Q R B)))):=by
 obtain ⟨o,ho⟩:∃o,upB d neg Q R B=o:=⟨_,rfl⟩
 rw [ho]
 unfold upB at ho
 have hzr:=ulen R
 by_cases hd:d=1∨d = -1
 ·rw [if_pos hd] at ho
  obtain ⟨A,rfl,hR⟩:=hr
  generalize (dig R).length=lr at *
  clear hR hq hb n1 n2
  by_cases hR0:R=0
  ·have hl0:=hzr.2 hR0
   rw [decide_eq_false (by simp [hR0])] at ho
   subst hl0 ho
   clear hzr hR0
   rcases hd with rfl | rfl
   ·go_enter Tryz.func76,Tryz.ntmps76
    go_wp2
    go_ret
    exact ⟨_,rfl,rfl,Below.refl _ _⟩
   ·go_enter Tryz.func76,Tryz.ntmps76
    go_wp2
    go_ret
    exact ⟨_,rfl,rfl,Below.refl _ _⟩
  ·have g0:0<lr:=Nat.pos_of_ne_zero (fun e=>hR0 (hzr.1 e))
   have g1:decide (0<lr)=true:=decide_eq_true g0
   have g2:(0:Int)<(lr:Int):=by omega
   clear hzr
   rcases hd with rfl | rfl
   ·cases neg
    ·rw [decide_eq_true ⟨hR0,by decide⟩] at ho
     subst ho
     go_enter Tryz.func76,Tryz.ntmps76
     go_wp2
     go_ret
     exact ⟨_,rfl,rfl,Below.refl _ _⟩
    ·rw [decide_eq_false (by simp)] at ho
     subst ho
     go_enter Tryz.func76,Tryz.ntmps76
     go_wp2
     go_ret
     exact ⟨_,rfl,rfl,Below.refl _ _⟩
   ·cases neg
    ·rw [decide_eq_false (by simp)] at ho
     subst ho
     go_enter Tryz.func76,Tryz.ntmps76
     go_wp2
     go_ret
     exact ⟨_,rfl,rfl,Below.refl _ _⟩
    ·rw [decide_eq_true ⟨hR0,by decide⟩] at ho
     subst ho
     go_enter Tryz.func76,Tryz.ntmps76
     go_wp2
     go_ret
     exact ⟨_,rfl,rfl,Below.refl _ _⟩
 ·rw [if_neg hd] at ho
  have g1:(d == -1)=false:=by simp only [beq_eq_false_iff_ne,ne_eq];omega
  have g2:(d==1)=false:=by simp only [beq_eq_false_iff_ne,ne_eq];omega
  have HC:=Lib.hid (ncmp_is hr hb n1 n2)
  by_cases c1:B<R
  ·have hc:cmp R B=1:=by unfold cmp;rw [if_neg (by omega),if_pos c1]
   rw [decide_eq_true (.inl c1)] at ho
   rw [hc] at HC
   subst ho
   clear hr hb hq hzr n1 n2
   go_enter Tryz.func76,Tryz.ntmps76
   go_wp2_with (go_at_call 107;refine (HC.out).mono ?_;rintro e w1 ⟨x1,rfl,rfl,hb1⟩)
   go_ret
   exact ⟨_,rfl,rfl,hb1⟩
  ·by_cases c2:R<B
   ·have hc:cmp R B = -1:=by unfold cmp;rw [if_pos c2]
    rw [decide_eq_false (by omega)] at ho
    rw [hc] at HC
    subst ho
    clear hr hb hq hzr n1 n2
    go_enter Tryz.func76,Tryz.ntmps76
    go_wp2_with (go_at_call 107;refine (HC.out).mono ?_;rintro e w1 ⟨x1,rfl,rfl,hb1⟩)
    go_ret
    exact ⟨_,rfl,rfl,hb1⟩
   ·have hc:cmp R B=0:=by unfold cmp;rw [if_neg c2,if_neg c1]
    rw [hc] at HC
    by_cases q0:Q=0
    ·obtain ⟨A,rfl,hR⟩:=hq
     have hl:(dig Q).length=0:=(ulen Q).2 q0
     rw [hl]
     rw [decide_eq_false (by omega)] at ho
     subst ho
     clear hr hb hR hzr n1 n2
     go_enter Tryz.func76,Tryz.ntmps76
     go_wp2_with (go_at_call 107;refine (HC.out).mono ?_;rintro e w1 ⟨x1,rfl,rfl,hb1⟩)
     go_ret
     exact ⟨_,rfl,rfl,hb1⟩
    ·obtain ⟨A,rfl,hR⟩:=hq
     have hdp:=dig_pos q0
     have hne:dig Q≠[]:=by rw [hdp];simp
     have hlp:=dig_length_pos q0
     have hz:(dig Q)[0]?=some (Q%4294967296):=by rw [hdp];rfl
     have HR:=Lib.hid (And.intro hR (And.intro hne hz))
     have ha:=and_1u (Q%4294967296) (Nat.mod_lt _ (by omega))
     rw [show Q%4294967296%2=Q%2 by omega] at ha
     have hpar:Q%2=0∨Q%2=1:=by omega
     have hcell:∀W,Below w.heap.size w W→∃g o,A=some ⟨g,o,none⟩∧W.cell? ⟨g,o,none⟩=some (.int .u32 ((Q%4294967296:Nat):Int)):=by
      intro W hbW
      obtain ⟨g,o,e,hc⟩:=(HR.out.1.below hbW).2 HR.out.2.1
      exact ⟨g,o,e,by have:=hc 0 _ HR.out.2.2;rwa [Nat.add_zero] at this⟩
     generalize (dig Q).length=lq at *
     obtain ⟨g,o',rfl,_⟩:=hcell w (Below.refl _ _)
     have HCell:=Lib.hid hcell
     generalize Q%4294967296=x0 at *
     have g3:(0:Int)<(lq:Int):=by omega
     have g4:decide (0<lq)=true:=decide_eq_true hlp
     have hidx:(0:Int)≤0∧(0:Int)<(lq:Int):=by omega
     clear hr hb hR hzr n1 n2 hdp hne hz HR hcell
     rcases hpar with hp | hp
     ·rw [decide_eq_false (by omega)] at ho
      rw [hp] at ha
      subst ho
      go_enter Tryz.func76,Tryz.ntmps76
      go_wp2_with (go_at_call 107;refine (HC.out).mono ?_;rintro e w1 ⟨x1,rfl,rfl,hb1⟩;obtain ⟨g9,o9,e9,hc9⟩:=HCell.out _ hb1;cases e9)
      go_ret
      exact ⟨_,rfl,rfl,hb1⟩
     ·rw [decide_eq_true (.inr ⟨by omega,hp⟩)] at ho
      rw [hp] at ha
      subst ho
      go_enter Tryz.func76,Tryz.ntmps76
      go_wp2_with (go_at_call 107;refine (HC.out).mono ?_;rintro e w1 ⟨x1,rfl,rfl,hb1⟩;obtain ⟨g9,o9,e9,hc9⟩:=HCell.out _ hb1;cases e9)
      go_ret
      exact ⟨_,rfl,rfl,hb1⟩
end Go.Proofs.YtigmpifjcijdbaaGreatDoor
end

section
namespace Go.Proofs.YtigmpifjcijdbaaGreatDoor
set_option linter.unusedVariables false
set_option linter.unusedSimpArgs false
open Go.RowKit Verge
set_option maxRecDepth 20000 in
theorem letters_zero (v:Value) (w:World) (hv:IsT 0 v w):Calls Tryz.prog 74 #[v] w fun e w'=>e=.returned (.string (bs []))∧Below w.heap.size w w':=by
 obtain ⟨A,rfl,hR⟩:=hv
 have e0:(dig 0).length=0:=by rw [dig_zero];rfl
 rw [e0]
 have hcv:=run_convert_bytes_nil (P:=Tryz.prog) w 58 5 Tryz.underlying58 Tryz.underlying5 0 0 9 Tryz.underlying9
 clear hR e0
 go_enter Tryz.func74,Tryz.ntmps74
 go_wp2
 go_loopw [0,3] (fun av ov wr=>av=.slice A 0 0∧ov=.slice none 0 0∧wr=w) (fun _ _ _=>0)
 case atStart=>exact ⟨rfl,rfl,rfl⟩
 case round =>
  obtain ⟨rfl,rfl,rfl⟩:=hrel
  go_wp2
  go_loopw [10,11] (fun iv jv wr2=>iv=.int .i64 0∧jv=.int .i64 (-1)∧wr2=wr) (fun _ _ _=>0)
  case atStart=>exact ⟨rfl,rfl,rfl⟩
  case round =>
   obtain ⟨rfl,rfl,rfl⟩:=hrel
   go_wp2
   go_ret
   exact ⟨rfl,Below.refl _ _⟩
theorem letters_all (N:Nat) (v:Value) (W:World) (hv:IsT N v W) (hb:blen N≤10000):Calls Tryz.prog 74 #[v] W fun e w'=>e=.returned (.string (bs (txt N)))∧Below W.heap.size W w':=by
 rcases Nat.eq_zero_or_pos N with h | h
 ·subst h;exact letters_zero v W hv
 ·exact letters_any N v W hv h hb
end Go.Proofs.YtigmpifjcijdbaaGreatDoor
end

section
namespace Go.Proofs.YtigmpifjcijdbaaGreatDoor
set_option linter.unusedVariables false
set_option linter.unusedSimpArgs false
open Go.RowKit Verge
def flr (x:Nat):Nat:=FloatKind.f64.encode ((FloatKind.f64.decode x).integral .down)
def numb (x:Nat):Bool:=match FloatKind.f64.decode x with | .nan _ _=>false | _=>true
def flq (q:Bool→Nat→Sem Value) (d:Ieee.Datum):Sem Value:=match d with | .nan s t=>q s t | d=>pure (.float .f64 (FloatKind.f64.encode (d.integral .down)))
theorem floor_run (x:Nat) (h:numb x=true) (w:World):(callFunc 102 #[.float .f64 x]).run Tryz.prog w=.ok (.value (.float .f64 (flr x))) w:=by
 rw [run_callFunc_extern (e:=Extern.MathFloor.toIntegral "math.archFloor" .down) Tryz.func102 (by kernel_rfl) (by kernel_rfl) (by kernel_rfl) (by kernel_rfl)]
 obtain ⟨q,e⟩:∃q,Extern.MathFloor.toIntegral "math.archFloor" .down #[.float .f64 x]=flq q (FloatKind.f64.decode x):=⟨_,rfl⟩
 rw [e]
 unfold numb at h
 unfold flr
 cases hd:FloatKind.f64.decode x with
 | nan s t=>rw [hd] at h;cases h
 | number s m e=>rfl
 | _=>rfl
set_option maxRecDepth 40000 in
theorem floor_any (x:Nat) (h:numb x=true) (w:World):Calls Tryz.prog 71 #[.float .f64 x] w fun e w'=>e=.returned (.float .f64 (flr x))∧w=w':=by
 have hf:=fun W=>floor_run x h W
 generalize flr x=r at *
 clear h
 go_enter Tryz.func71,Tryz.ntmps71
 go_wp2
 go_ret
 exact ⟨rfl,rfl⟩
end Go.Proofs.YtigmpifjcijdbaaGreatDoor
end

section
namespace Go.Proofs.YtigmpifjcijdbaaGreatDoor
set_option linter.unusedVariables false
set_option linter.unusedSimpArgs false
open Go.RowKit Verge
def estY (i:Nat):Option Nat:=Ieee.double.mul (FloatKind.f64.nearest ((i:Int) - 1074)) 4599094494223104489
def estOk (i:Nat):Bool:=
 match estY i with
 | none=>false
 | some y=>numb y&&decide (y<18446744073709551616)&&(match (FloatKind.f64.decode (flr y)).toInt .zero with | some n=>decide (-400≤n∧n≤400) | none=>false)
theorem est_all:∀i<2110,estOk i=true:=by decide +kernel
theorem est_spec {e:Int} (h1 : -1074≤e) (h2:e≤1030):∃y n,Ieee.double.mul (FloatKind.f64.nearest e) 4599094494223104489=some y∧numb y=true∧y<18446744073709551616∧(FloatKind.f64.decode (flr y)).toInt .zero=some n ∧ -400≤n∧n≤400:=by
 obtain ⟨i,hi⟩:∃i:Nat,e=(i:Int) - 1074:=⟨(e+1074).toNat,by omega⟩
 have h:=est_all i (by omega)
 subst hi
 unfold estOk at h
 cases hy:estY i with
 | none=>rw [hy] at h;cases h
 | some y =>
  rw [hy] at h
  simp only [Bool.and_eq_true,decide_eq_true_eq] at h
  cases hn:(FloatKind.f64.decode (flr y)).toInt .zero with
  | none=>rw [hn] at h;cases h.2
  | some n =>
   rw [hn] at h
   have h3:=of_decide_eq_true h.2
   exact ⟨y,n,hy,h.1.1,h.1.2,hn,h3.1,h3.2⟩
end Go.Proofs.YtigmpifjcijdbaaGreatDoor
end

section
namespace Go.Proofs.YtigmpifjcijdbaaGreatDoor
set_option linter.unusedVariables false
set_option linter.unusedSimpArgs false
open Go.RowKit Verge
theorem mul_some (x:Nat) (hx:x<18446744073709551616) (h:fabs x<9218868437227405312):∃y,Ieee.double.mul x 4841369599423283200=some y:=by
 obtain ⟨k,m,e,hm⟩:=read_num (x:=x) hx h
 have e2:Ieee.double.read 4841369599423283200=.number false 4503599627370496 0:=rfl
 refine ⟨Ieee.double.nearest (decide (9223372036854775808≤x) ^^ false) (m*4503599627370496) (-1074+(k:Int)+0),?_⟩
 unfold Ieee.Format.mul
 rw [e,e2]
 rfl
theorem uand2047 (n:Int):bits .and .u64 n 2047=n%2048:=by
 have h127:(BitVec.ofInt 64 2047).toNat=2^11 - 1:=by decide
 have key:(BitVec.ofInt 64 n &&& BitVec.ofInt 64 2047).toNat=(n%((2^64:Nat):Int)).toNat%2^11:=by
  rw [BitVec.toNat_and,BitVec.toNat_ofInt,h127,Nat.and_two_pow_sub_one_eq_mod]
 show IntKind.u64.wrap ((BitVec.ofInt 64 n &&& BitVec.ofInt 64 2047).toNat:Nat)=n%2048
 rw [key,IntKind.wrap_u64]
 omega
set_option maxRecDepth 40000 in
theorem norm_two (x:Nat) (hx:x<18446744073709551616) (h:fabs x<9218868437227405312) (w:World):Calls Tryz.prog 126 #[.float .f64 x] w fun en w'=>∃(y:Nat) (e:Int),en=.returned (.tuple #[.float .f64 y,.int .i64 e])∧(e=0∨e = -52)∧w=w':=by
 have HA:=Lib.hid (fun W=>abs_any x hx W)
 have hfx:fabs x<9223372036854775808:=by unfold fabs;omega
 by_cases c:fabs x<4503599627370496
 ·have o1:(FloatKind.f64.format.order (fabs x) 4503599627370496==some .lt)=true:=by
   refine (f_lt (by omega) (by omega)).trans (decide_eq_true ⟨?_,?_,?_⟩)
   ·unfold fnan;omega
   ·unfold fnan;omega
   ·unfold FK;rw [if_pos (by omega),if_pos (by omega)];omega
  obtain ⟨y,hy⟩:=mul_some x hx h
  have hm:∀t w,(binOp .mul t (.float .f64 x) (.float .f64 4841369599423283200)).run Tryz.prog w=.ok (.float .f64 y) w:=fun t w=>run_float_arith w .mul t .f64 _ _ _ hy
  generalize fabs x=a at *
  clear hx h c hfx hy
  go_enter Tryz.func126,Tryz.ntmps126
  go_wp2_with (go_at_call 95;refine (HA.out _).mono ?_;rintro e w1 ⟨rfl,rfl⟩)
  refine bodyPost_ret (v:=.tuple #[.float .f64 y,.int .i64 (-52)]) (by simp [results,Tryz.results126,go_sem]) rfl ?_
  exact ⟨y,-52,rfl,.inr rfl,rfl⟩
 ·have o1:(FloatKind.f64.format.order (fabs x) 4503599627370496==some .lt)=false:=by
   refine (f_lt (by omega) (by omega)).trans (decide_eq_false ?_)
   rintro ⟨_,_,h3⟩
   revert h3;unfold FK;rw [if_pos (by omega),if_pos (by omega)];omega
  generalize fabs x=a at *
  clear hx h c hfx
  go_enter Tryz.func126,Tryz.ntmps126
  go_wp2_with (go_at_call 95;refine (HA.out _).mono ?_;rintro e w1 ⟨rfl,rfl⟩)
  refine bodyPost_ret (v:=.tuple #[.float .f64 x,.int .i64 0]) (by simp [results,Tryz.results126,go_sem]) rfl ?_
  exact ⟨x,0,rfl,.inl rfl,rfl⟩
set_option maxRecDepth 40000 in
set_option maxHeartbeats 1000000 in
theorem frexp_any (x:Nat) (hx:x<18446744073709551616) (h:fabs x<9218868437227405312) (h0:fabs x≠0) (w:World):Calls Tryz.prog 101 #[.float .f64 x] w fun en w'=>∃(y:Nat) (e:Int),en=.returned (.tuple #[.float .f64 y,.int .i64 e])∧(-1074≤e∧e≤1030)∧w=w':=by
 have HI:=Lib.hid (fun W=>isinf_0 x hx W)
 rw [decide_eq_false (by omega)] at HI
 have HN:=Lib.hid (fun W=>isnan_any x hx W)
 rw [decide_eq_false (by unfold fnan;unfold fabs at h;omega)] at HN
 have HM:=Lib.hid (fun W=>norm_two x hx h W)
 have oz:(FloatKind.f64.format.order x 0==some .eq)=false:=by
  rw [show (FloatKind.f64.format.order x 0==some .eq)=decide (x=0∨x=9223372036854775808) from o_isz hx]
  refine decide_eq_false ?_
  rintro (rfl | rfl) <;> exact h0 rfl
 clear hx h h0
 go_enter Tryz.func101,Tryz.ntmps101
 go_wp2_with (first
  | (go_at_call 65;refine (HI.out _).mono ?_;rintro en w1 ⟨rfl,rfl⟩)
  | (go_at_call 96;refine (HN.out _).mono ?_;rintro en w1 ⟨rfl,rfl⟩)
  | (go_at_call 126;refine (HM.out _).mono ?_;rintro en w1 ⟨y,e,rfl,he,rfl⟩;have by1:=bits_any y;have fr1:=from_any (bits BinOp.or IntKind.u64 (bits BinOp.andNot IntKind.u64 (y:Int) 9218868437227405312) 4602678819172646912);have ha:=uand2047 ((y:Int) / 4503599627370496)))
 refine bodyPost_ret (v:=.tuple #[.float .f64 (bits BinOp.or IntKind.u64 (bits BinOp.andNot IntKind.u64 (y:Int) 9218868437227405312) 4602678819172646912).toNat,.int .i64 (e+((y:Int) / 4503599627370496%2048 - 1023+1))]) (by simp [results,Tryz.results101,go_sem]) rfl ?_
 exact ⟨_,_,rfl,by omega,rfl⟩
set_option maxRecDepth 40000 in
theorem frexpW_any (x:Nat) (hx:x<18446744073709551616) (h:fabs x<9218868437227405312) (h0:fabs x≠0) (w:World):Calls Tryz.prog 70 #[.float .f64 x] w fun en w'=>∃(y:Nat) (e:Int),en=.returned (.tuple #[.float .f64 y,.int .i64 e])∧(-1074≤e∧e≤1030)∧w=w':=by
 have HF:=Lib.hid (fun W=>frexp_any x hx h h0 W)
 clear hx h h0
 go_enter Tryz.func70,Tryz.ntmps70
 go_wp2_with (go_at_call 101;refine (HF.out _).mono ?_;rintro en w1 ⟨y,e,rfl,he,rfl⟩)
 refine bodyPost_ret (v:=.tuple #[.float .f64 y,.int .i64 e]) (by simp [results,Tryz.results70,go_sem]) rfl ?_
 exact ⟨_,_,rfl,he,rfl⟩
end Go.Proofs.YtigmpifjcijdbaaGreatDoor
end

section
namespace Go.Proofs.YtigmpifjcijdbaaGreatDoor
set_option linter.unusedVariables false
set_option linter.unusedSimpArgs false
open Go.RowKit Verge
def prM (N D n:Nat) (K:Int):Nat:=if dcnt (qat N D K)=0 then (K+400).toNat+2 else if dcnt (qat N D K)=n then 0 else 1
theorem pow_336:(2:Nat)^1116≤10^336:=by
 obtain ⟨z,hz⟩:∃z,z=12:=⟨_,rfl⟩
 rw [show (1116:Nat)=93*12 from rfl,show (336:Nat)=28*12 from rfl,←hz,Nat.pow_mul,Nat.pow_mul]
 exact Nat.pow_le_pow_left (by decide) z
theorem prt_step {N D n:Nat} {K:Int} (hD:0<D) (hlo:¬belowT N D (-336)) (hhi:belowT N D 336) (hn1:1≤n) (hn2:n≤1100) (h1 : -1600≤K) (h2:K≤1000) (hm:dcnt (qat N D K)≠n) :
  -1600≤K+dcnt (qat N D K) - n∧K+dcnt (qat N D K) - n≤1000∧prM N D n (K+dcnt (qat N D K) - n)<prM N D n K:=by
 by_cases h0:dcnt (qat N D K)=0
 ·have hb:=(qat_le (N:=N) hD K 0).1 (by omega)
  rw [show K+((0:Nat):Int)=K by omega] at hb
  have hk : -336<K:=by
   refine Classical.byContradiction fun hc=>hlo (belowT_mono hb (by omega))
  have e1:prM N D n K=(K+400).toNat+2:=by unfold prM;rw [if_pos h0]
  rw [h0,e1]
  refine ⟨by omega,by omega,?_⟩
  unfold prM
  split
  ·omega
  ·split <;> omega
 ·have ht:=qat_turn hD (Nat.pos_of_ne_zero h0) (by omega) rfl (K:=K) (n:=n)
  obtain ⟨b1,b2⟩:=(qat_top hD (by omega)).1 ht
  have e1:prM N D n K=1:=by unfold prM;rw [if_neg h0,if_neg hm]
  generalize dcnt (qat N D K)=m at *
  refine ⟨?_,?_,?_⟩
  ·refine Classical.byContradiction fun hc=>hlo (belowT_mono b1 (by omega))
  ·refine Classical.byContradiction fun hc=>b2 (belowT_mono hhi (by omega))
  ·rw [e1]
   unfold prM
   rw [ht,if_neg (by omega),if_pos rfl]
   omega
theorem blen_ten (j:Nat):blen (10^j)≤4*j+1:=by
 obtain ⟨z,hz⟩:∃z,z=4*j+1:=⟨_,rfl⟩
 rw [←hz]
 refine (blen_lt _ _).2 ?_
 have a1:10^j≤16^j:=Nat.pow_le_pow_left (by omega) j
 have a2:16^j=2^(4*j):=by rw [Nat.pow_mul]
 have a3:2^(4*j)<2^z:=Nat.pow_lt_pow_right (by omega) (by omega)
 omega
def prQ (d:Int) (s:Bool) (N D:Nat) (K:Int):Nat:=if upB d s (qat N D K) (2*(N*10^(-K).toNat%(D*10^K.toNat))) (D*10^K.toNat)=true then qat N D K+1 else qat N D K
def prT (d:Int) (s:Bool) (N D:Nat) (K:Int) (n:Nat):List UInt8:=
 ftext s ((txt (prQ d s N D K)).take n) (if n<(txt (prQ d s N D K)).length then K+1 else K)
theorem prQ_len {d:Int} {s:Bool} {N D:Nat} {K:Int} {n:Nat} (h:dcnt (qat N D K)=n) (hn:1≤n):n≤(txt (prQ d s N D K)).length∧(txt (prQ d s N D K)).length≤n+1∧blen (prQ d s N D K)≤blen (qat N D K)+1∧0<prQ d s N D K:=by
 obtain ⟨h1,h2⟩:=dcnt_spec (qat N D K)
 have hq:0<qat N D K:=by
  rcases Nat.eq_zero_or_pos (qat N D K) with e | e
  ·rw [e,dcnt_zero] at h;omega
  ·exact e
 rw [h] at h1 h2
 have key:∀Q,qat N D K≤Q→Q≤qat N D K+1→n≤(txt Q).length∧(txt Q).length≤n+1∧blen Q≤blen (qat N D K)+1:=by
  intro Q a b
  refine ⟨?_,?_,?_⟩
  ·have:¬dcnt Q≤n - 1:=by
    rw [dcnt_le]
    have:=(h2 hq).2
    omega
   show n≤dcnt Q
   omega
  ·show dcnt Q≤n+1
   rw [dcnt_le,Nat.pow_succ]
   have:0<10^n:=Nat.pow_pos (by omega)
   omega
  ·rw [blen_lt,Nat.pow_succ]
   have:=(blen_lt (qat N D K) _).1 (Nat.le_refl _)
   omega
 unfold prQ
 split
 ·exact ⟨(key _ (by omega) (by omega)).1,(key _ (by omega) (by omega)).2.1,(key _ (by omega) (by omega)).2.2,by omega⟩
 ·exact ⟨(key _ (by omega) (by omega)).1,(key _ (by omega) (by omega)).2.1,(key _ (by omega) (by omega)).2.2,by omega⟩
end Go.Proofs.YtigmpifjcijdbaaGreatDoor
end

section
namespace Go.Proofs.YtigmpifjcijdbaaGreatDoor
set_option linter.unusedVariables false
set_option linter.unusedSimpArgs false
open Go.RowKit Verge
end Go.Proofs.YtigmpifjcijdbaaGreatDoor
end

section
namespace Go.Proofs.YtigmpifjcijdbaaGreatDoor
set_option linter.unusedVariables false
set_option linter.unusedSimpArgs false
open Go.RowKit Verge
def IsO (n:Nat) (v:Value) (w:World):Prop:=∃A g,v=.slice A (dig n).length (dig n).length∧Own w g A (dig n)
theorem IsO.mono (n:Nat):Mono (IsO n):=fun _ _ _ hb ⟨A,g,e,h⟩=>⟨A,g,e,h.later hb⟩
section
variable {n m:Nat} {v u:Value} {w:World}
end
def IsMg (r s mo le:Nat) (ev:Bool) (v:Value) (w:World):Prop:=∃vr vs vm vl,v=.agg #[vr,vs,vm,vl,.bool ev]∧IsT r vr w∧IsT s vs w∧IsT mo vm w∧IsT le vl w
theorem IsMg.mono (r s mo le:Nat) (ev:Bool):Mono (IsMg r s mo le ev):=fun _ _ _ hb ⟨vr,vs,vm,vl,e,h1,h2,h3,h4⟩=>⟨vr,vs,vm,vl,e,IsT.mono _ _ _ _ hb h1,IsT.mono _ _ _ _ hb h2,IsT.mono _ _ _ _ hb h3,IsT.mono _ _ _ _ hb h4⟩
variable {w:World} {v:Value} {r s mo le:Nat} {ev:Bool}
end Go.Proofs.YtigmpifjcijdbaaGreatDoor
end

section
namespace Go.Proofs.YtigmpifjcijdbaaGreatDoor
set_option linter.unusedVariables false
set_option linter.unusedSimpArgs false
open Go.RowKit Verge
def Tn (n:Nat) (A:Option Addr) (l:Nat) (w:World):Prop:=(dig n).length=l∧∃g,Own w g A (dig n)
theorem Tn.later {n:Nat} {A:Option Addr} {l:Nat} {w w':World} (h:Tn n A l w) (hb:Below w.heap.size w w'):Tn n A l w':=⟨h.1,h.2.imp fun g hO=>hO.later hb⟩
theorem Tn.kept {n:Nat} {A:Option Addr} {l:Nat} {w w':World} (h:Tn n A l w) (hk:∀(g:Nat) (cs:Array Value),w.heap[g]?=some (Obj.cells cs 52 (0,0))→w'.heap[g]?=w.heap[g]?):Tn n A l w':=by
 obtain ⟨h1,g,hO⟩:=h
 refine ⟨h1,g,hO.1,fun hne => ?_⟩
 obtain ⟨e,cs,hcs,ht⟩:=hO.2 hne
 exact ⟨e,cs,by rw [hk g cs hcs];exact hcs,ht⟩
section
variable {w wr w':World} {g:Nat} {Ar As Am Al A':Option Addr} {lr ls lm ll l' r s m l k:Nat} {ev:Bool}
end
end Go.Proofs.YtigmpifjcijdbaaGreatDoor
end

section
namespace Go.Proofs.YtigmpifjcijdbaaGreatDoor
set_option linter.unusedVariables false
set_option linter.unusedSimpArgs false
open Go.RowKit Verge
end Go.Proofs.YtigmpifjcijdbaaGreatDoor
end

section
namespace Go.Proofs.YtigmpifjcijdbaaGreatDoor
set_option linter.unusedVariables false
set_option linter.unusedSimpArgs false
open Go.RowKit Verge
end Go.Proofs.YtigmpifjcijdbaaGreatDoor
end

section
namespace Go.Proofs.YtigmpifjcijdbaaGreatDoor
set_option linter.unusedVariables false
set_option linter.unusedSimpArgs false
open Go.RowKit Verge
end Go.Proofs.YtigmpifjcijdbaaGreatDoor
end

section
namespace Go.Proofs.YtigmpifjcijdbaaGreatDoor
set_option linter.unusedVariables false
set_option linter.unusedSimpArgs false
open Go.RowKit Verge
end Go.Proofs.YtigmpifjcijdbaaGreatDoor
end

section
namespace Go.Proofs.YtigmpifjcijdbaaGreatDoor
set_option linter.unusedVariables false
set_option linter.unusedSimpArgs false
open Go.RowKit Verge
end Go.Proofs.YtigmpifjcijdbaaGreatDoor
end

section
namespace Go.Proofs.YtigmpifjcijdbaaGreatDoor
set_option linter.unusedVariables false
set_option linter.unusedSimpArgs false
open Go.RowKit Verge
def TenIs (P Q q:Nat) (K:Int):Prop:=0<Q∧P*10^(-K).toNat=q*10^K.toNat*Q
theorem TenIs.cross {P Q q:Nat} {k:Int} {j:Nat} (h:TenIs P Q q (k - j)):P*(10^(-k).toNat*10^j)=10^k.toNat*q*Q:=by
 obtain ⟨hQ,hPQ⟩:=h
 have hpw:(10:Nat)^(-k).toNat*10^j*10^(k - (j:Int)).toNat=10^(-(k - (j:Int))).toNat*10^k.toNat:=by
  rw [←Nat.pow_add,←Nat.pow_add,←Nat.pow_add,show (-k).toNat+j+(k - (j:Int)).toNat=(-(k - (j:Int))).toNat+k.toNat by omega]
 have hu:0<10^(k - (j:Int)).toNat:=Nat.pow_pos (by omega)
 refine Nat.eq_of_mul_eq_mul_right hu ?_
 generalize (10:Nat)^(-k).toNat*10^j=T at *
 generalize (10:Nat)^(k - (j:Int)).toNat=u at *
 generalize (10:Nat)^(-(k - (j:Int))).toNat=t at *
 generalize (10:Nat)^k.toNat=U at *
 calc P*T*u=P*(T*u):=Nat.mul_assoc _ _ _
  _=P*t*U:=by rw [hpw,Nat.mul_assoc]
  _=q*u*Q*U:=by rw [hPQ]
  _=_:=by ac_rfl
section
variable {b:Nat} {k:Int} {j:Nat} (hb:b<18446744073709551616) (hF:fbF b≠0)
include hb hF
end
end Go.Proofs.YtigmpifjcijdbaaGreatDoor
end

section
namespace Go.Proofs.YtigmpifjcijdbaaGreatDoor
set_option linter.unusedVariables false
set_option linter.unusedSimpArgs false
open Go.RowKit Verge
def IsBx (B:Nat) (v:Value) (w:World):Prop:=∃r,v=.pointer (some ⟨r,0,none⟩)∧Box w r∧B≤r
theorem IsBx.mono (B:Nat):Mono (IsBx B):=fun _ _ _ hb ⟨r,e,h,hr⟩=>⟨r,e,h.later hb,hr⟩
end Go.Proofs.YtigmpifjcijdbaaGreatDoor
end

section
namespace Go.Proofs.YtigmpifjcijdbaaGreatDoor
set_option linter.unusedVariables false
set_option linter.unusedSimpArgs false
open Go.RowKit Verge
end Go.Proofs.YtigmpifjcijdbaaGreatDoor
end

section
namespace Go.Proofs.YtigmpifjcijdbaaGreatDoor
set_option linter.unusedVariables false
set_option linter.unusedSimpArgs false
open Go.RowKit Verge
end Go.Proofs.YtigmpifjcijdbaaGreatDoor
end

section
namespace Go.Proofs.YtigmpifjcijdbaaGreatDoor
set_option linter.unusedVariables false
set_option linter.unusedSimpArgs false
open Go.RowKit Verge
end Go.Proofs.YtigmpifjcijdbaaGreatDoor
end
