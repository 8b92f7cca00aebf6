/- binary64 and intervals: what the small functions answer. -/
import Derived.Test.YtigmpifjcijdbaaGreatDoorG21
import Derived.Test.YtigmpifjcijdbaaGreatDoorG02
import Derived.Test.YtigmpifjcijdbaaGreatDoorG14
import Derived.Laws.Externs
import Derived.Deep.RegionWith
import Derived.Test.YtigmpifjcijdbaaGreatDoorG22
import Derived.Test.YtigmpifjcijdbaaGreatDoorG01
import Derived.Test.YtigmpifjcijdbaaGreatDoorG06
import Derived.Deep.CutBlock
namespace Go.Proofs.YtigmpifjcijdbaaGreatDoor
set_option linter.unusedVariables false
set_option linter.unusedSimpArgs false
open Go.RowKit Verge
theorem o_lt {x y:Nat} (hx:x<18446744073709551616) (hy:y<18446744073709551616):(FloatKind.f64.format.order x y==some .lt)=decide (¬fnan x∧¬fnan y∧FK x<FK y):=f_lt hx hy
theorem o_gt {x y:Nat} (hx:x<18446744073709551616) (hy:y<18446744073709551616):(FloatKind.f64.format.order x y==some .gt)=decide (¬fnan x∧¬fnan y∧FK y<FK x):=f_gt hx hy
theorem o_le {x y:Nat} (hx:x<18446744073709551616) (hy:y<18446744073709551616):(FloatKind.f64.format.order x y==some .lt||FloatKind.f64.format.order x y==some .eq)=decide (¬fnan x∧¬fnan y∧FK x≤FK y):=f_le hx hy
theorem o_isz {x:Nat} (hx:x<18446744073709551616):(FloatKind.f64.format.order x 0==some .eq)=decide (x=0∨x=9223372036854775808):=f_isz hx
theorem isNaN_any (x:Nat) (hx:x<18446744073709551616) (w:World):Calls Tryz.prog 44 #[.int .u64 (x:Int)] w fun e w'=>e=.returned (.bool (decide (fnan x)))∧w=w':=by
 have hb:bits .andNot .u64 (x:Int) 9223372036854775808=((x%9223372036854775808:Nat):Int):=by
  have:=Go.u64_andNot_nat x 9223372036854775808 hx (by omega)
  rw [andNot_sign x hx] at this
  exact this
 go_enter Tryz.func44,Tryz.ntmps44
 go_wp2
 go_ret
 refine ⟨?_,rfl⟩
 refine congrArg (fun b=>Ending.returned (.bool b)) (decide_eq_decide.2 ?_)
 unfold fnan;omega
theorem plain3_any (x:Nat) (hx:x<18446744073709551616) (w:World):Calls Tryz.prog 93 #[.int .u64 (x:Int)] w fun e w'=>e=.returned (.int .u64 (fplain x:Nat))∧w=w':=by
 by_cases h0:x=9223372036854775808
 ·subst h0
  go_enter Tryz.func93,Tryz.ntmps93
  go_wp2
  go_ret
  exact ⟨rfl,rfl⟩
 ·have h0':¬((x:Int)=9223372036854775808):=by omega
  go_enter Tryz.func93,Tryz.ntmps93
  go_wp2_with fail
  refine (isNaN_any x hx _).mono ?_
  rintro en w1 ⟨rfl,rfl⟩
  by_cases hn:fnan x
  ·rw [decide_eq_true hn]
   go_wp2
   go_ret
   exact ⟨congrArg (fun b=>Ending.returned (.int .u64 b)) (by unfold fplain;rw [if_neg h0,if_pos hn];rfl),rfl⟩
  ·rw [decide_eq_false hn]
   go_wp2
   go_ret
   exact ⟨congrArg (fun b=>Ending.returned (.int .u64 b)) (by unfold fplain;rw [if_neg h0,if_neg hn]),rfl⟩
set_option maxRecDepth 20000 in
theorem key_any (x:Nat) (hx:x<18446744073709551616) (w:World):Calls Tryz.prog 61 #[.int .u64 (x:Int)] w fun e w'=>e=.returned (.int .u64 (fkey x:Nat))∧w=w':=by
 have hpl:=fplain_lt hx
 have hP:=Lib.hid (plain3_any x hx w)
 unfold fkey
 obtain ⟨p,hp⟩:∃p,fplain x=p:=⟨_,rfl⟩
 rw [hp] at hpl hP ⊢
 clear hp
 by_cases h:9223372036854775808≤p
 ·have hI:decide ((9223372036854775808:Int)≤(p:Int))=true:=decide_eq_true (by omega)
  rw [if_pos h]
  have HH:=Lib.hid h
  clear h
  go_enter Tryz.func61,Tryz.ntmps61
  go_wp2_with fail
  refine hP.out.mono ?_
  rintro en w1 ⟨rfl,rfl⟩
  go_wp2
  go_ret
  refine ⟨congrArg (fun b=>Ending.returned (.int .u64 b)) ?_,rfl⟩
  have:=Go.u64_xor_nat 18446744073709551615 p (by omega) hpl
  rw [xor_all p hpl] at this
  exact this
 ·have ho:bits .or .u64 (p:Int) 9223372036854775808=((p+9223372036854775808:Nat):Int):=by
   have:=Go.u64_or_nat p 9223372036854775808 hpl (by omega)
   rw [or_sign p (by omega)] at this
   exact this
  have hI:decide ((9223372036854775808:Int)≤(p:Int))=false:=decide_eq_false (by omega)
  rw [if_neg h]
  have HH:=Lib.hid h
  clear h
  go_enter Tryz.func61,Tryz.ntmps61
  go_wp2_with fail
  refine hP.out.mono ?_
  rintro en w1 ⟨rfl,rfl⟩
  go_wp2
  go_ret
  refine ⟨congrArg (fun b=>Ending.returned (.int .u64 b)) ?_,rfl⟩
  first | rfl | exact ho
theorem above_any (x y:Nat) (hx:x<18446744073709551616) (hy:y<18446744073709551616) (w:World):Calls Tryz.prog 45 #[.int .u64 (x:Int),.int .u64 (y:Int)] w fun e w'=>e=.returned (.bool (fabove x y))∧w=w':=by
 have H1:=Lib.hid (fun W=>isNaN_any x hx W)
 have H2:=Lib.hid (fun W=>isNaN_any y hy W)
 have K1:=Lib.hid (fun W=>key_any x hx W)
 have K2:=Lib.hid (fun W=>key_any y hy W)
 go_enter Tryz.func45,Tryz.ntmps45
 go_wp2_with fail
 refine (H1.out _).mono ?_
 rintro en w1 ⟨rfl,rfl⟩
 by_cases nx:fnan x
 ·rw [decide_eq_true nx]
  go_wp2
  go_ret
  exact ⟨by simp [fabove,nx],rfl⟩
 ·rw [decide_eq_false nx]
  go_wp2_with fail
  refine (H2.out _).mono ?_
  rintro en w1 ⟨rfl,rfl⟩
  by_cases ny:fnan y
  ·rw [decide_eq_true ny]
   go_wp2
   go_ret
   exact ⟨by simp [fabove,ny],rfl⟩
  ·rw [decide_eq_false ny]
   go_wp2_with fail
   refine (K1.out _).mono ?_
   rintro en w1 ⟨rfl,rfl⟩
   go_wp2_with fail
   refine (K2.out _).mono ?_
   rintro en w1 ⟨rfl,rfl⟩
   go_wp2
   go_ret
   refine ⟨?_,rfl⟩
   refine congrArg (fun b=>Ending.returned (.bool b)) ?_
   have:=fkey_lt hx hy nx ny
   unfold fabove
   refine decide_eq_decide.2 ?_
   constructor
   ·intro hh;exact ⟨nx,ny,this.1 (by omega)⟩
   ·rintro ⟨_,_,hh⟩;have:=this.2 hh;omega
theorem infp_any (w:World):Calls Tryz.prog 64 #[.int .i64 1] w fun e w'=>e=.returned (.float .f64 9218868437227405312)∧w=w':=by
 have hb':=from_any 9218868437227405312
 go_enter Tryz.func64,Tryz.ntmps64
 go_wp2
 go_ret
 exact ⟨rfl,rfl⟩
theorem infm_any (w:World):Calls Tryz.prog 64 #[.int .i64 (-1)] w fun e w'=>e=.returned (.float .f64 18442240474082181120)∧w=w':=by
 have hb':=from_any 18442240474082181120
 go_enter Tryz.func64,Tryz.ntmps64
 go_wp2
 go_ret
 exact ⟨rfl,rfl⟩
theorem fz_any (x:Nat) (hx:x<18446744073709551616) (w:World):Calls Tryz.prog 63 #[.float .f64 x] w fun e w'=>e=.returned (.float .f64 (fz x))∧w=w':=by
 have hz:=o_isz hx
 by_cases h:x=0∨x=9223372036854775808
 ·rw [decide_eq_true h] at hz
  go_enter Tryz.func63,Tryz.ntmps63
  go_wp2
  go_ret
  exact ⟨congrArg (fun b=>Ending.returned (.float .f64 b)) (by unfold fz;rw [if_pos h]),rfl⟩
 ·rw [decide_eq_false h] at hz
  go_enter Tryz.func63,Tryz.ntmps63
  go_wp2
  go_ret
  exact ⟨congrArg (fun b=>Ending.returned (.float .f64 b)) (by unfold fz;rw [if_neg h]),rfl⟩
theorem sound_any (x y:Nat) (hx:x<18446744073709551616) (hy:y<18446744073709551616) (w:World):Calls Tryz.prog 62 #[.float .f64 x,.float .f64 y] w fun e w'=>e=.returned (.bool (fsound x y))∧w=w':=by
 have e1:=o_le hx hy
 have e2:=o_lt hx (y:=9218868437227405312) (by omega)
 have e3:=o_gt hy (y:=18442240474082181120) (by omega)
 have hs:fsound x y=(decide (¬fnan x∧¬fnan y∧FK x≤FK y)&&decide (¬fnan x∧¬fnan 9218868437227405312∧FK x<FK 9218868437227405312)&&decide (¬fnan y∧¬fnan 18442240474082181120∧FK 18442240474082181120<FK y)):=by
  have n1:¬fnan 9218868437227405312:=by decide
  have n2:¬fnan 18442240474082181120:=by decide
  have k1:FK 9218868437227405312=9218868437227405312:=by decide
  have k2:FK 18442240474082181120 = -9218868437227405312:=by decide
  rw [k1,k2]
  unfold fsound
  by_cases a:fnan x <;> by_cases b:fnan y <;> simp [a,b,n1,n2,Bool.and_assoc]
 rw [hs]
 obtain ⟨b1,h1⟩:∃b,decide (¬fnan x∧¬fnan y∧FK x≤FK y)=b:=⟨_,rfl⟩
 obtain ⟨b2,h2⟩:∃b,decide (¬fnan x∧¬fnan 9218868437227405312∧FK x<FK 9218868437227405312)=b:=⟨_,rfl⟩
 obtain ⟨b3,h3⟩:∃b,decide (¬fnan y∧¬fnan 18442240474082181120∧FK 18442240474082181120<FK y)=b:=⟨_,rfl⟩
 rw [h1] at e1 ⊢
 rw [h2] at e2 ⊢
 rw [h3] at e3 ⊢
 clear h1 h2 h3 hs
 have I1:=Lib.hid (fun W=>infp_any W)
 have I2:=Lib.hid (fun W=>infm_any W)
 rcases b1 with _ | _
 ·go_enter Tryz.func62,Tryz.ntmps62
  go_wp2
  go_ret
  exact ⟨rfl,rfl⟩
 ·rcases b2 with _ | _
  ·go_enter Tryz.func62,Tryz.ntmps62
   go_wp2_with (first | (go_at_call 64;with_reducible refine (I1.out _).mono ?_;rintro en w1 ⟨rfl,rfl⟩) | (go_at_call 64;with_reducible refine (I2.out _).mono ?_;rintro en w1 ⟨rfl,rfl⟩))
   go_ret
   exact ⟨rfl,rfl⟩
  ·rcases b3 with _ | _
   ·go_enter Tryz.func62,Tryz.ntmps62
    go_wp2_with (first | (go_at_call 64;with_reducible refine (I1.out _).mono ?_;rintro en w1 ⟨rfl,rfl⟩) | (go_at_call 64;with_reducible refine (I2.out _).mono ?_;rintro en w1 ⟨rfl,rfl⟩))
    go_ret
    exact ⟨rfl,rfl⟩
   ·go_enter Tryz.func62,Tryz.ntmps62
    go_wp2_with (first | (go_at_call 64;with_reducible refine (I1.out _).mono ?_;rintro en w1 ⟨rfl,rfl⟩) | (go_at_call 64;with_reducible refine (I2.out _).mono ?_;rintro en w1 ⟨rfl,rfl⟩))
    go_ret
    exact ⟨rfl,rfl⟩
end Go.Proofs.YtigmpifjcijdbaaGreatDoor
namespace Go.Proofs.YtigmpifjcijdbaaGreatDoor
set_option linter.unusedVariables false
set_option linter.unusedSimpArgs false
open Go.RowKit Verge
theorem bnew (W:World) (o:Obj):Below W.heap.size W (W.alloc o):=(Below.refl _ W).alloc (Nat.le_refl _) o
theorem bfroz {B:Nat} {W w1:World} (hb:Below B W w1):∀b o,b<B→w1.frozen? ⟨b,o,none⟩=W.frozen? ⟨b,o,none⟩:=fun b o h=>hb.frozen (p:=⟨b,o,none⟩) h
theorem baft {a b c:World} (h1:Below a.heap.size a b) (h2:Below b.heap.size b c):Below a.heap.size a c:=h1.trans (h2.mono h1.size)
theorem baft' {a b c:World} (h1:Below a.heap.size a b) (h2:Below b.heap.size b.drew c):Below a.heap.size a c:=baft h1 ⟨h2.os,h2.tape,h2.output,h2.size,h2.block⟩
theorem box2 {w W:World} {a b c d:Value} {t t':TypeId} (hb:Below ((w.alloc (.cells #[a,b] t)).alloc (.cells #[c,d] t')).heap.size ((w.alloc (.cells #[a,b] t)).alloc (.cells #[c,d] t')) W) :
  W.cell? ⟨w.heap.size,0,none⟩=some a∧W.cell? ⟨w.heap.size,1,none⟩=some b∧W.cell? ⟨w.heap.size+1,0,none⟩=some c∧W.cell? ⟨w.heap.size+1,1,none⟩=some d ∧
  W.frozen? ⟨w.heap.size+1,0,none⟩=false∧W.frozen? ⟨w.heap.size+1,1,none⟩=false∧w.heap.size+1<W.heap.size:=by
 have hz:=hb.size
 simp at hz
 refine ⟨?_,?_,?_,?_,?_,?_,by omega⟩
 ·rw [bcell hb _ _ (by simp;omega)];simp [go_sem]
 ·rw [bcell hb _ _ (by simp;omega)];simp [go_sem]
 ·rw [bcell hb _ _ (by simp)];simp [go_sem]
 ·rw [bcell hb _ _ (by simp)];simp [go_sem]
 ·rw [bfroz hb _ _ (by simp)];simp [go_sem]
 ·rw [bfroz hb _ _ (by simp)];simp [go_sem]
theorem store_f (a:Addr) (b:Nat) (w:World):(store a (.float .f64 b) .plain).run Tryz.prog w=stored Tryz.prog w a (.float .f64 b) .plain:=run_store Tryz.prog w a _ .plain rfl
theorem box1 {w W:World} {a b:Value} {t:TypeId} (hb:Below (w.alloc (.cells #[a,b] t)).heap.size (w.alloc (.cells #[a,b] t)) W) :
  W.cell? ⟨w.heap.size,0,none⟩=some a∧W.cell? ⟨w.heap.size,1,none⟩=some b∧W.frozen? ⟨w.heap.size,0,none⟩=false∧W.frozen? ⟨w.heap.size,1,none⟩=false∧w.heap.size<W.heap.size:=by
 have hz:=hb.size
 simp at hz
 refine ⟨?_,?_,?_,?_,by omega⟩
 ·rw [bcell hb _ _ (by simp)];simp [go_sem]
 ·rw [bcell hb _ _ (by simp)];simp [go_sem]
 ·rw [bfroz hb _ _ (by simp)];simp [go_sem]
 ·rw [bfroz hb _ _ (by simp)];simp [go_sem]
theorem set2_cells {W:World} {b:Nat} {x y u v:Value} (h0:W.cell? ⟨b,0,none⟩=some x) (h1:W.cell? ⟨b,1,none⟩=some y) :
  ((W.setCell ⟨b,0,none⟩ u).setCell ⟨b,1,none⟩ v).cell? ⟨b,0,none⟩=some u∧((W.setCell ⟨b,0,none⟩ u).setCell ⟨b,1,none⟩ v).cell? ⟨b,1,none⟩=some v:=by
 simp [go_sem,h0,h1]
theorem set2_below {w W:World} {o o':Obj} {u v:Value} (hb:Below ((w.alloc o).alloc o').heap.size ((w.alloc o).alloc o') W):Below w.heap.size w ((W.setCell ⟨w.heap.size+1,0,none⟩ u).setCell ⟨w.heap.size+1,1,none⟩ v):=
 ((baft (baft (bnew w o) (bnew (w.alloc o) o')) hb).setCell (by simp) u).setCell (by simp) v
set_option maxRecDepth 20000 in
theorem sound6_any (x y:Nat) (hx:x<18446744073709551616) (hy:y<18446744073709551616) (w:World):Calls Tryz.prog 26 #[.agg #[.int .u64 (x:Int),.int .u64 (y:Int)]] w fun e w'=>e=.returned (.bool (fsound x y))∧Below w.heap.size w w':=by
 have H1:=Lib.hid (fun W=>isNaN_any x hx W)
 have H2:=Lib.hid (fun W=>isNaN_any y hy W)
 have K1:=Lib.hid (fun W=>above_any x y hx hy W)
 have HB:=Lib.hid (fun o=>bnew w o)
 by_cases nx:fnan x
 ·have hs:fsound x y=false:=by simp [fsound,nx]
  rw [hs]
  rw [decide_eq_true nx] at H1
  go_enter Tryz.func26,Tryz.ntmps26
  go_wp2_with fail
  refine (H1.out _).mono ?_
  rintro en w1 ⟨rfl,rfl⟩
  go_wp2
  go_ret
  exact ⟨rfl,HB.out _⟩
 ·rw [decide_eq_false nx] at H1
  by_cases ny:fnan y
  ·have hs:fsound x y=false:=by simp [fsound,ny]
   rw [hs]
   rw [decide_eq_true ny] at H2
   go_enter Tryz.func26,Tryz.ntmps26
   go_wp2_with fail
   refine (H1.out _).mono ?_
   rintro en w1 ⟨rfl,rfl⟩
   go_wp2_with fail
   refine (H2.out _).mono ?_
   rintro en w1 ⟨rfl,rfl⟩
   go_wp2
   go_ret
   exact ⟨rfl,HB.out _⟩
  ·rw [decide_eq_false ny] at H2
   by_cases ha:FK y<FK x
   ·have hs:fsound x y=false:=by
     unfold fsound;exact decide_eq_false (by omega)
    have hab:fabove x y=true:=decide_eq_true ⟨nx,ny,ha⟩
    rw [hs]
    rw [hab] at K1
    go_enter Tryz.func26,Tryz.ntmps26
    go_wp2_with fail
    refine (H1.out _).mono ?_
    rintro en w1 ⟨rfl,rfl⟩
    go_wp2_with fail
    refine (H2.out _).mono ?_
    rintro en w1 ⟨rfl,rfl⟩
    go_wp2_with fail
    refine (K1.out _).mono ?_
    rintro en w1 ⟨rfl,rfl⟩
    go_wp2
    go_ret
    exact ⟨rfl,HB.out _⟩
   ·have hab:fabove x y=false:=decide_eq_false (fun h=>ha h.2.2)
    rw [hab] at K1
    have hs:fsound x y=(decide (¬x=9218868437227405312)&&decide (¬y=18442240474082181120)):=by
     unfold fsound
     have rx:=FK_range hx nx
     have ry:=FK_range hy ny
     have e1:FK x<9218868437227405312↔¬x=9218868437227405312:=by
      unfold FK at rx ⊢;split at rx <;> (try rw [if_pos (by assumption)]) <;> (try rw [if_neg (by assumption)]) <;> omega
     have e2 : -9218868437227405312<FK y↔¬y=18442240474082181120:=by
      unfold FK at ry ⊢;split at ry <;> (try rw [if_pos (by assumption)]) <;> (try rw [if_neg (by assumption)]) <;> omega
     rw [←Bool.decide_and]
     refine decide_eq_decide.2 ?_
     rw [←e1,←e2]
     constructor
     ·rintro ⟨_,_,_,h1,h2⟩;exact ⟨h1,h2⟩
     ·rintro ⟨h1,h2⟩;exact ⟨nx,ny,by omega,h1,h2⟩
    rw [hs]
    by_cases hx1:x=9218868437227405312
    ·have hI:((x:Int)==9218868437227405312)=true:=by subst hx1;rfl
     have HI:=Lib.hid hx1
     rw [decide_eq_false (fun h=>h hx1),Bool.false_and]
     clear hx1 hs ha
     go_enter Tryz.func26,Tryz.ntmps26
     go_wp2_with fail
     refine (H1.out _).mono ?_
     rintro en w1 ⟨rfl,rfl⟩
     go_wp2_with fail
     refine (H2.out _).mono ?_
     rintro en w1 ⟨rfl,rfl⟩
     go_wp2_with fail
     refine (K1.out _).mono ?_
     rintro en w1 ⟨rfl,rfl⟩
     have hx1:(x:Int)=9218868437227405312:=by have:=HI.out;omega
     go_wp2
     go_ret
     exact ⟨rfl,HB.out _⟩
    ·rw [decide_eq_true hx1,Bool.true_and]
     have hx1:¬(x:Int)=9218868437227405312:=by omega
     obtain ⟨B,hB⟩:∃B,decide (¬y=18442240474082181120)=B:=⟨_,rfl⟩
     rw [hB]
     have hI:((y:Int)==18442240474082181120) = !B:=by
      rw [←hB]
      by_cases h:y=18442240474082181120
      ·subst h;rfl
      ·have:¬(y:Int)=18442240474082181120:=by omega
       simp [h,this]
     clear hB hs ha
     go_enter Tryz.func26,Tryz.ntmps26
     go_wp2_with fail
     refine (H1.out _).mono ?_
     rintro en w1 ⟨rfl,rfl⟩
     go_wp2_with fail
     refine (H2.out _).mono ?_
     rintro en w1 ⟨rfl,rfl⟩
     go_wp2_with fail
     refine (K1.out _).mono ?_
     rintro en w1 ⟨rfl,rfl⟩
     go_wp2
     go_ret
     refine ⟨congrArg (fun b=>Ending.returned (.bool b)) ?_,HB.out _⟩
     show ((x:Int) != 9218868437227405312&&(y:Int) != 18442240474082181120)=B
     rw [bne,bne,hI,beq_eq_false_iff_ne.2 hx1]
     cases B <;> rfl
theorem empty6_any (w:World):Calls Tryz.prog 25 #[] w fun e w'=>e=.returned (.agg #[.int .u64 9218868437227405312,.int .u64 18442240474082181120])∧Below w.heap.size w w':=by
 have HB:=Lib.hid (fun o=>bnew w o)
 go_enter Tryz.func25,Tryz.ntmps25
 go_wp2
 refine bodyPost_ret (v:=.agg #[.int .u64 9218868437227405312,.int .u64 18442240474082181120]) (by simp [results,Tryz.results25,go_sem]) rfl ?_
 exact ⟨rfl,HB.out _⟩
theorem empty_any (w:World):Calls Tryz.prog 47 #[] w fun e w'=>e=.returned (.agg #[.float .f64 9218868437227405312,.float .f64 18442240474082181120])∧Below w.heap.size w w':=by
 have HB:=Lib.hid (fun o=>bnew w o)
 have hsf:=store_f
 have I1:=Lib.hid (fun W=>infp_any W)
 have I2:=Lib.hid (fun W=>infm_any W)
 go_enter Tryz.func47,Tryz.ntmps47
 go_wp2_with fail
 refine (I1.out _).mono ?_
 rintro en w1 ⟨rfl,rfl⟩
 go_wp2_with fail
 refine (I2.out _).mono ?_
 rintro en w1 ⟨rfl,rfl⟩
 obtain ⟨c0,c1,f0,f1,hz⟩:=box1 (w:=w) (a:=.float .f64 0) (b:=.float .f64 0) (t:=34) (Below.refl _ _)
 go_wp2
 refine bodyPost_ret (v:=.agg #[.float .f64 9218868437227405312,.float .f64 18442240474082181120]) (by simp [results,Tryz.results47,go_sem]) rfl ?_
 exact ⟨rfl,HB.out _⟩
set_option maxHeartbeats 2000000 in
theorem read_any (x y:Nat) (hx:x<18446744073709551616) (hy:y<18446744073709551616) (w:World):Calls Tryz.prog 46 #[.agg #[.float .f64 x,.float .f64 y]] w
  fun e w'=>e=.returned (.agg #[.float .f64 (flo x y),.float .f64 (fhi x y)])∧Below w.heap.size w w':=by
 have HS:=Lib.hid (fun W=>sound_any x y hx hy W)
 have hsf:=store_f
 have HB:=Lib.hid (fun o o'=>baft (bnew w o) (bnew (w.alloc o) o'))
 by_cases hs:fsound x y=true
 ·have e1:flo x y=fz x:=by rw [flo,if_pos hs]
  have e2:fhi x y=fz y:=by rw [fhi,if_pos hs]
  have P1:=Lib.hid (fun W=>fz_any x hx W)
  have P2:=Lib.hid (fun W=>fz_any y hy W)
  rw [e1,e2]
  rw [hs] at HS
  obtain ⟨p,hp⟩:∃p,fz x=p:=⟨_,rfl⟩
  obtain ⟨q,hq⟩:∃q,fz y=q:=⟨_,rfl⟩
  rw [hp] at P1 ⊢
  rw [hq] at P2 ⊢
  clear hs e1 e2 hp hq
  go_enter Tryz.func46,Tryz.ntmps46
  go_wp2_with fail
  refine (HS.out _).mono ?_
  rintro en w1 ⟨rfl,rfl⟩
  obtain ⟨c0,c1,c2,c3,f0,f1,hz⟩:=box2 (w:=w) (a:=.float .f64 x) (b:=.float .f64 y) (c:=.float .f64 0) (d:=.float .f64 0) (t:=34) (t':=34) (Below.refl _ _)
  go_wp2_with fail
  go_region_with (first
   | (go_at_call 63;with_reducible refine (P1.out _).mono ?_;rintro en w2 ⟨rfl,rfl⟩)
   | (go_at_call 63;with_reducible refine (P2.out _).mono ?_;rintro en w2 ⟨rfl,rfl⟩))
  all_goals
   go_wp2
   refine bodyPost_ret (v:=.agg #[.float .f64 p,.float .f64 q]) (by simp [results,Tryz.results46,go_sem,c2,c3]) rfl ?_
   exact ⟨rfl,(HB.out _ _).drew⟩
 ·have e1:flo x y=9218868437227405312:=by rw [flo,if_neg hs]
  have e2:fhi x y=18442240474082181120:=by rw [fhi,if_neg hs]
  have hs':fsound x y=false:=by simpa using hs
  rw [e1,e2]
  rw [hs'] at HS
  clear hs hs' e1 e2
  go_enter Tryz.func46,Tryz.ntmps46
  go_wp2_with fail
  refine (HS.out _).mono ?_
  rintro en w1 ⟨rfl,rfl⟩
  go_wp2_with fail
  refine (empty_any _).mono ?_
  rintro en w2 ⟨rfl,hb2⟩
  obtain ⟨c0,c1,c2,c3,f0,f1,hz⟩:=box2 hb2
  have hb:=Lib.hid hb2
  clear hb2 HB
  go_wp2
  refine bodyPost_ret (v:=.agg #[.float .f64 9218868437227405312,.float .f64 18442240474082181120]) (by simp [results,Tryz.results46,go_sem,c2,c3]) rfl ?_
  exact ⟨rfl,set2_below hb.out⟩
end Go.Proofs.YtigmpifjcijdbaaGreatDoor
namespace Go.Proofs.YtigmpifjcijdbaaGreatDoor
set_option linter.unusedVariables false
set_option linter.unusedSimpArgs false
open Go.RowKit Verge
end Go.Proofs.YtigmpifjcijdbaaGreatDoor
namespace Go.Proofs.YtigmpifjcijdbaaGreatDoor
set_option linter.unusedVariables false
set_option linter.unusedSimpArgs false
open Go.RowKit Verge
def fneg (x:Nat):Nat:=if 9223372036854775808≤x then x - 9223372036854775808 else x+9223372036854775808
theorem xor_top {x:Nat} (h:x<9223372036854775808):x ^^^ 9223372036854775808=x+9223372036854775808:=by
 rw [←or_sign x h]
 refine Nat.eq_of_testBit_eq fun i => ?_
 rw [Nat.testBit_xor,Nat.testBit_or]
 have h2:(9223372036854775808:Nat).testBit i=decide (63=i):=by
  show (2^63).testBit i=_
  exact Nat.testBit_two_pow
 rw [h2]
 by_cases hi:63=i
 ·have:x.testBit i=false:=Nat.testBit_lt_two_pow (by rw [←hi];exact h)
  rw [this];simp
 ·simp [hi]
theorem neg_eq {x:Nat} (hx:x<18446744073709551616):Op.negFloat .f64 x=fneg x:=by
 show x ^^^ 9223372036854775808=fneg x
 unfold fneg
 rcases Nat.lt_or_ge x 9223372036854775808 with h | h
 ·rw [if_neg (by omega),xor_top h]
 ·rw [if_pos h]
  obtain ⟨y,rfl⟩:∃y,x=y+9223372036854775808:=⟨x - 9223372036854775808,by omega⟩
  rw [←xor_top (by omega),Nat.xor_assoc,Nat.xor_self,Nat.xor_zero,xor_top (by omega)];omega
theorem run_neg_f (x:Nat) (hx:x<18446744073709551616) (w:World):(Op.unary .neg (.float .f64 x)).run Tryz.prog w=.ok (.float .f64 (fneg x)) w:=by
 rw [←neg_eq hx];rfl
end Go.Proofs.YtigmpifjcijdbaaGreatDoor
namespace Verge
set_option linter.unusedVariables false
set_option linter.unusedSimpArgs false
def rFc (n m:Nat):Prop:=(0≤(blen n:Int) - blen m∧n<m*2^((blen n:Int) - blen m).toNat)∨((blen n:Int) - blen m<0∧n*2^(-((blen n:Int) - blen m)).toNat<m)
instance (n m:Nat):Decidable (rFc n m):=by unfold rFc;infer_instance
def rF (n m:Nat):Int:=if rFc n m then (blen n:Int) - blen m - 1 else (blen n:Int) - blen m
theorem rF_spec {n m:Nat} (hn:0<n) (hm:0<m) (J t:Nat) (ht:(t:Int)=rF n m+J):m*2^t≤n*2^J∧n*2^J<m*2^(t+1):=by
 have ha:=blen_pos (show n≠0 by omega)
 have hb:=blen_pos (show m≠0 by omega)
 have n1:=blen_le (show n≠0 by omega)
 have n2:=(blen_lt n _).1 (Nat.le_refl _)
 have m1:=blen_le (show m≠0 by omega)
 have m2:=(blen_lt m _).1 (Nat.le_refl _)
 unfold rF at ht
 by_cases hc:rFc n m
 ·rw [if_pos hc] at ht
  unfold rFc at hc
  generalize blen n=a at *
  generalize blen m=b at *
  constructor
  ·have h1:m*2^t≤2^(b+t):=by rw [Nat.pow_add];exact Nat.mul_le_mul_right _ (Nat.le_of_lt m2)
   have h2:2^(b+t)=2^(a - 1)*2^J:=by rw [←Nat.pow_add];congr 1;omega
   have h3:=Nat.mul_le_mul_right (2^J) n1
   omega
  ·rcases hc with ⟨h,h'⟩ | ⟨h,h'⟩
   ·have e:t+1=((a:Int) - b).toNat+J:=by omega
    rw [e,Nat.pow_add,←Nat.mul_assoc]
    exact Nat.mul_lt_mul_of_pos_right h' (Nat.two_pow_pos _)
   ·have e:J=(-((a:Int) - b)).toNat+(t+1):=by omega
    rw [e,Nat.pow_add,←Nat.mul_assoc]
    exact Nat.mul_lt_mul_of_pos_right h' (Nat.two_pow_pos _)
 ·rw [if_neg hc] at ht
  unfold rFc at hc
  generalize blen n=a at *
  generalize blen m=b at *
  constructor
  ·rcases Int.lt_or_le ((a:Int) - b) 0 with h | h
   ·have h':m≤n*2^(-((a:Int) - b)).toNat:=by
     rcases Nat.lt_or_ge (n*2^(-((a:Int) - b)).toNat) m with g | g
     ·exact absurd (.inr ⟨h,g⟩) hc
     ·exact g
    have e:J=(-((a:Int) - b)).toNat+t:=by omega
    rw [e,Nat.pow_add,←Nat.mul_assoc]
    exact Nat.mul_le_mul_right _ h'
   ·have h':m*2^((a:Int) - b).toNat≤n:=by
     rcases Nat.lt_or_ge n (m*2^((a:Int) - b).toNat) with g | g
     ·exact absurd (.inl ⟨h,g⟩) hc
     ·exact g
    have e:t=((a:Int) - b).toNat+J:=by omega
    rw [e,Nat.pow_add,←Nat.mul_assoc]
    exact Nat.mul_le_mul_right _ h'
  ·have h1:n*2^J<2^(a+J):=by rw [Nat.pow_add];exact Nat.mul_lt_mul_of_pos_right n2 (Nat.two_pow_pos _)
   have h2:2^(a+J)=2^(b - 1)*2^(t+1):=by rw [←Nat.pow_add];congr 1;omega
   have h3:=Nat.mul_le_mul_right (2^(t+1)) m1
   omega
theorem rng_fin (d:Int) (s:Bool) (g r m' u:Nat):(if d=1∨d = -1 then (if (d==1) = !s then u+(if r=0 then 0 else 1) else u) else u+(if 2*r<m' then 0 else if m'<2*r then 1 else g%2)) =
  u+(if (d=1∧s=false∨d = -1∧s=true)∧r≠0∨(d≠1∧d ≠ -1)∧(m'<2*r∨m'=2*r∧g%2=1) then 1 else 0):=by
 by_cases e1:d=1
 ·subst e1
  cases s
  ·by_cases hr0:r=0 <;> simp [hr0]
  ·simp
 ·by_cases e2:d = -1
  ·subst e2
   cases s
   ·simp
   ·by_cases hr0:r=0 <;> simp [hr0]
  ·simp only [e1,e2,false_or,if_false,false_and,ne_eq,not_false_eq_true,true_and]
   by_cases hl:2*r<m'
   ·rw [if_pos hl,if_neg (by omega)]
   ·by_cases hr2:m'<2*r
    ·rw [if_neg hl,if_pos hr2,if_pos (.inl hr2)];try omega
    ·rw [if_neg hl,if_neg hr2]
     by_cases hp:g%2=1
     ·rw [if_pos (.inr ⟨by omega,hp⟩)];try omega
     ·rw [if_neg (by omega)];try omega
def rK (n m:Nat):Nat:=(rF n m+1022).toNat
section
variable {n m K:Nat} (hn:0<n) (hm:0<m) (hK:K=1074)
include hn hm hK
theorem rk_high (h:0<rF n m+1022):m*2^(rK n m+52)≤n*2^K∧n*2^K<m*2^(rK n m+53):=by
 have:=rF_spec hn hm K (rK n m+52) (by unfold rK;omega)
 exact this
theorem rk_low (h:rF n m+1022≤0):n*2^K<m*9007199254740992:=by
 rcases Int.lt_or_le (rF n m+1074) 0 with h' | h'
 ·have:=(rF_spec hn hm (-(rF n m)).toNat 0 (by omega)).2
  have h2:n*2^K≤n*2^(-(rF n m)).toNat:=Nat.mul_le_mul_left _ (Nat.pow_le_pow_right (by omega) (by omega))
  have:m*2^(0+1)≤m*9007199254740992:=Nat.mul_le_mul_left _ (by omega)
  omega
 ·have:=(rF_spec hn hm K (rF n m+1074).toNat (by omega)).2
  have h2:m*2^((rF n m+1074).toNat+1)≤m*2^53:=Nat.mul_le_mul_left _ (Nat.pow_le_pow_right (by omega) (by omega))
  have e:(2:Nat)^53=9007199254740992:=by decide
  omega
theorem fl_of:fl (n*2^K / m)=rK n m*4503599627370496+n*2^K / m / 2^rK n m∧n*2^K / m / 2^rK n m<9007199254740992∧(n*2^K / m / 2^rK n m<4503599627370496→rK n m=0):=by
 rcases Int.lt_or_le 0 (rF n m+1022) with h | h
 ·obtain ⟨h1,h2⟩:=rk_high hn hm hK h
  generalize rK n m=k at *
  have q1:2^(k+52)≤n*2^K / m:=by rw [Nat.le_div_iff_mul_le hm,Nat.mul_comm];exact h1
  have q2:n*2^K / m<2^(k+53):=by rw [Nat.div_lt_iff_lt_mul hm,Nat.mul_comm (2^(k+53))];exact h2
  generalize n*2^K / m=q at *
  have hq0:q≠0:=by have:=Nat.two_pow_pos (k+52);omega
  have hl:q.log2=k+52:=by
   have a1:=(Nat.le_log2 hq0).2 q1
   have a2:q.log2<k+53:=(Nat.log2_lt hq0).2 q2
   omega
  have h52:4503599627370496≤q:=by
   have:2^52≤2^(k+52):=Nat.pow_le_pow_right (by omega) (by omega)
   have e:(2:Nat)^52=4503599627370496:=by decide
   omega
  obtain ⟨k',s,e1,e2,s1,s2,e3⟩:=fl_parts h52
  obtain rfl:k'=k:=by omega
  subst e2
  exact ⟨e3,s2,fun h=>by omega⟩
 ·have h1:=rk_low hn hm hK h
  have hk:rK n m=0:=by unfold rK;omega
  rw [hk]
  have q2:n*2^K / m<9007199254740992:=by rw [Nat.div_lt_iff_lt_mul hm,Nat.mul_comm 9007199254740992];exact h1
  generalize n*2^K / m=q at *
  rw [Nat.pow_zero,Nat.div_one,Nat.zero_mul,Nat.zero_add]
  refine ⟨?_,q2,fun _=>rfl⟩
  by_cases h5:q<4503599627370496
  ·unfold fl;rw [if_pos h5]
  ·obtain ⟨k',s,e1,e2,s1,s2,e3⟩:=fl_parts (show 4503599627370496≤q by omega)
   have:q.log2<53:=(Nat.log2_lt (by omega)).2 q2
   obtain rfl:k'=0:=by omega
   rw [e3,e2];simp
theorem fv_of:FV (fl (n*2^K / m))=n*2^K / m / 2^rK n m*2^rK n m∧FV (fl (n*2^K / m)+1)=(n*2^K / m / 2^rK n m+1)*2^rK n m:=by
 obtain ⟨h1,h2,h3⟩:=fl_of hn hm hK
 rw [FV_succ,h1]
 generalize n*2^K / m / 2^rK n m=g at *
 generalize rK n m=k at *
 by_cases hg:g<4503599627370496
 ·obtain rfl:=h3 hg
  rw [Nat.zero_mul,Nat.zero_add,FV_small (by omega),Nat.div_eq_of_lt hg];simp
 ·rw [FV_scale k g (by omega) h2,show (k*4503599627370496+g) / 4503599627370496 - 1=k by omega,Nat.add_mul,Nat.one_mul]
  exact ⟨rfl,rfl⟩
omit hn hm in
theorem by_parts (x y:Nat) (hxy:(rK n m:Int) - 1074=(y:Int) - x) (h0:x=0∨y=0) :
  n*2^K / m / 2^rK n m=n*2^x / (m*2^y)∧∃a,n*2^K=n*2^x*2^a∧m*2^rK n m=m*2^y*2^a:=by
 obtain ⟨a,ha1,ha2⟩:∃a,K=x+a∧rK n m=y+a:=by
  rcases h0 with rfl | rfl
  ·exact ⟨1074,by omega,by omega⟩
  ·exact ⟨rK n m,by omega,by omega⟩
 have e1:n*2^K=n*2^x*2^a:=by rw [ha1,Nat.pow_add,Nat.mul_assoc]
 have e2:m*2^rK n m=m*2^y*2^a:=by rw [ha2,Nat.pow_add,Nat.mul_assoc]
 refine ⟨?_,a,e1,e2⟩
 rw [Nat.div_div_eq_div_mul,e1,e2,Nat.mul_div_mul_right _ _ (Nat.two_pow_pos _)]
theorem rng_parts (x y:Nat) (hxy:(rK n m:Int) - 1074=(y:Int) - x) (h0:x=0∨y=0) (g r m':Nat) (hg:n*2^x / (m*2^y)=g) (hr:n*2^x%(m*2^y)=r) (hm':m*2^y=m') :
  rngA (n*2^K) m=fl (n*2^K / m)+(if r=0 then 0 else 1)∧rngN (n*2^K) m=fl (n*2^K / m)+(if 2*r<m' then 0 else if m'<2*r then 1 else g%2):=by
 obtain ⟨hq,a,e1,e2⟩:=by_parts hK x y hxy h0
 obtain ⟨f1,f2⟩:=fv_of hn hm hK
 obtain ⟨f3,_,_⟩:=fl_of hn hm hK
 rw [hq,hg] at f1 f2 f3
 have hpar:fl (n*2^K / m)%2=g%2:=by rw [f3];omega
 have hdm:=Nat.div_add_mod (n*2^x) (m*2^y)
 rw [hg,hr,hm'] at hdm
 have hN:n*2^K=(m'*g+r)*2^a:=by rw [e1,hdm]
 rw [hm'] at e2
 have hp:=Nat.two_pow_pos a
 have v1:FV (fl (n*2^K / m))*m=m'*g*2^a:=by
  rw [f1,Nat.mul_assoc,Nat.mul_comm (2^rK n m),e2];grind
 have v2:(FV (fl (n*2^K / m))+FV (fl (n*2^K / m)+1))*m=(2*(m'*g)+m')*2^a:=by
  rw [Nat.add_mul,v1,f2,Nat.mul_assoc (g+1),Nat.mul_comm (2^rK n m),e2];grind
 have lt_iff:∀{u v:Nat},u*2^a<v*2^a↔u<v:=fun {u v}=>Nat.mul_lt_mul_right hp
 constructor
 ·unfold rngA
  rw [v1,hN,←hN]
  have:m'*g*2^a=n*2^K↔r=0:=by
   rw [hN]
   constructor
   ·intro h
    have:=Nat.eq_of_mul_eq_mul_right hp h
    omega
   ·intro h;rw [h,Nat.add_zero]
  simp only [this]
  split <;> rfl
 ·unfold rngN
  rw [v2,hpar]
  have w1:2*(n*2^K)<(2*(m'*g)+m')*2^a↔2*r<m':=by
   rw [hN,show 2*((m'*g+r)*2^a)=(2*(m'*g+r))*2^a from (Nat.mul_assoc _ _ _).symm,lt_iff];omega
  have w2:(2*(m'*g)+m')*2^a<2*(n*2^K)↔m'<2*r:=by
   rw [hN,show 2*((m'*g+r)*2^a)=(2*(m'*g+r))*2^a from (Nat.mul_assoc _ _ _).symm,lt_iff];omega
  simp only [w1,w2]
  split
  ·rfl
  ·split
   ·rfl
   ·split <;> omega
theorem rng_over (d:Int) (s:Bool) (h:1023<rF n m):rng d s (n*2^K) m=if (d=1∧s=false∨d = -1∧s=true)∨(d≠1∧d ≠ -1) then 9218868437227405312 else 9218868437227405311:=by
 have hfl:9218868437227405312≤fl (n*2^K / m):=by
  obtain ⟨h1,h2,h3⟩:=fl_of hn hm hK
  have hk:2046≤rK n m:=by unfold rK;omega
  have hg:¬n*2^K / m / 2^rK n m<4503599627370496:=fun hh=>by have:=h3 hh;omega
  omega
 have hA:9218868437227405312≤rngA (n*2^K) m:=by unfold rngA;split <;> omega
 have hN:9218868437227405312≤rngN (n*2^K) m:=by unfold rngN;split <;> (try split) <;> (try split) <;> omega
 unfold rng
 rw [Nat.min_eq_right hA,Nat.min_eq_right hN,Nat.min_eq_right (Nat.le_trans (by omega) hfl)]
 by_cases h1:d=1
 ·subst h1;cases s <;> simp
 ·by_cases h2:d = -1
  ·subst h2;cases s <;> simp
  ·simp [h1,h2]
theorem rng_in (d:Int) (s:Bool) (h:rF n m≤1023) (x y:Nat) (hxy:(rK n m:Int) - 1074=(y:Int) - x) (h0:x=0∨y=0) (g r m':Nat) (hg:n*2^x / (m*2^y)=g) (hr:n*2^x%(m*2^y)=r) (hm':m*2^y=m') :
  rK n m≤2045∧g<9007199254740992∧(g<4503599627370496→rK n m=0) ∧
  rng d s (n*2^K) m=rK n m*4503599627370496+(g+(if (d=1∧s=false∨d = -1∧s=true)∧r≠0∨(d≠1∧d ≠ -1)∧(m'<2*r∨m'=2*r∧g%2=1) then 1 else 0)):=by
 have hk:rK n m≤2045:=by unfold rK;omega
 obtain ⟨a1,a2⟩:=rng_parts hn hm hK x y hxy h0 g r m' hg hr hm'
 obtain ⟨h1,h2,h3⟩:=fl_of hn hm hK
 have hq:=(by_parts hK x y hxy h0).1
 rw [hq,hg] at h1 h2 h3
 refine ⟨hk,h2,h3,?_⟩
 have hfl:fl (n*2^K / m)≤9218868437227405311:=by omega
 unfold rng
 rw [a1,a2,h1] at *
 generalize rK n m=k at *
 have c1:(if r=0 then 0 else 1)≤1:=by split <;> omega
 have c2:(if 2*r<m' then 0 else if m'<2*r then 1 else g%2)≤1:=by split <;> (try split) <;> omega
 have key:∀c,c≤1→k*4503599627370496+g+c≤9218868437227405312:=by clear a1 a2 hq hg hr hm' hxy c1 c2 hfl;intro c hc;omega
 rw [Nat.min_eq_left (key _ c1),Nat.min_eq_left (key _ c2),Nat.min_eq_left hfl,←Nat.add_assoc]
 exact rng_fin d s g r m' _
end
theorem rng_zero (d:Int) (s:Bool) (m:Nat):rng d s 0 m=0:=by
 have e:fl (0 / m)=0:=by rw [Nat.zero_div];unfold fl;rw [if_pos (by omega)]
 have hA:rngA 0 m=0:=by unfold rngA;rw [e,FV_zero];simp
 have hN:rngN 0 m=0:=by unfold rngN;rw [e,FV_zero];split <;> (try split) <;> (try split) <;> omega
 unfold rng
 rw [hA,hN,e]
 split <;> (try split) <;> rfl
end Verge
namespace Verge
set_option linter.unusedVariables false
set_option linter.unusedSimpArgs false
end Verge
namespace Go.Proofs.YtigmpifjcijdbaaGreatDoor
set_option linter.unusedVariables false
set_option linter.unusedSimpArgs false
open Go.RowKit Verge
end Go.Proofs.YtigmpifjcijdbaaGreatDoor
namespace Go.Proofs.YtigmpifjcijdbaaGreatDoor
set_option linter.unusedVariables false
set_option linter.unusedSimpArgs false
open Go.RowKit Verge
theorem rngN_pat {r D:Nat} (hD:0<D):rngN (FV r*D) D=r:=by
 have:=rngN_cut (FV r) 1 D hD
 rw [Nat.one_mul] at this
 rw [this,rngN_FV]
theorem mul_one_f {y:Nat} (h:y<9218868437227405312):Ieee.double.mul 4607182418800017408 y=some y:=by
 obtain ⟨k,m,e,hm⟩:=read_num (x:=y) (by omega) (by omega)
 unfold Ieee.Format.mul
 have e2:Ieee.double.read 4607182418800017408=.number false 4503599627370496 (-52):=rfl
 rw [e,e2]
 show some (Ieee.double.nearest (false ^^ decide (9223372036854775808≤y)) (4503599627370496*m) (-52+(-1074+(k:Int))))=_
 rw [decide_eq_false (by omega),Bool.xor_false,nearest_any _ _ _ 52 (by omega)]
 rw [show (-52+(-1074+(k:Int))+1074+((52:Nat):Int)).toNat=k by omega,Nat.mul_assoc,hm,Nat.mul_comm]
 rw [show (4503599627370496:Nat)=2^52 by rfl,rngN_pat (Nat.two_pow_pos 52),Nat.mod_eq_of_lt (by omega),Nat.min_eq_left (by omega)]
 rfl
theorem int_pat {s:Nat} (h1:4503599627370496≤s) (h2:s≤9007199254740992):FloatKind.f64.nearest (s:Int)=4836865999795912704+s:=by
 show Ieee.double.nearest (decide ((s:Int)<0)) (s:Int).natAbs 0=_
 rw [decide_eq_false (by omega),Int.natAbs_natCast,nearest_any _ _ _ 0 (by omega)]
 obtain ⟨K,hK⟩:∃K:Nat,K=1074:=⟨_,rfl⟩
 rw [show ((0:Int)+1074+((0:Nat):Int)).toNat=K by omega]
 have hv:s*2^K=FV (4836865999795912704+s):=by
  have h3:4836865999795912704=K*4503599627370496:=by omega
  rw [h3]
  by_cases c:s<9007199254740992
  ·exact (FV_scale K s h1 c).symm
  ·rw [show s=9007199254740992 by omega];exact (FV_top K).symm
 rw [hv]
 have:=rngN_FV (4836865999795912704+s)
 rw [Nat.pow_zero,this,Nat.min_eq_left (by omega)]
 rfl
theorem norm_pat (F:Nat) (h:4836865999795912704≤F) (h2:F≤4845873199050653696) (w:World):Calls Tryz.prog 126 #[.float .f64 F] w fun e w'=>e=.returned (.tuple #[.float .f64 F,.int .i64 0])∧w=w':=by
 have HA:=Lib.hid (fun W=>abs_any F (by omega) W)
 rw [show fabs F=F by unfold fabs;omega] at HA
 have o1:(FloatKind.f64.format.order F 4503599627370496==some .lt)=false:=by
  refine (f_lt (by omega) (by omega)).trans (decide_eq_false ?_)
  rintro ⟨_,_,h⟩
  revert h;unfold FK;split <;> (try split) <;> omega
 clear h h2
 go_enter Tryz.func126,Tryz.ntmps126
 go_wp2_with fail
 refine (HA.out _).mono ?_
 rintro en w1 ⟨rfl,rfl⟩
 go_wp2
 go_ret2
 exact ⟨rfl,rfl⟩
set_option maxRecDepth 40000 in
set_option maxHeartbeats 1000000 in
theorem ldexp_walk (F Q j R:Nat) (x y:Int) (hF1:4836865999795912704≤F) (hF2:F≤4845873199050653696) (hq:wrap64 ((F:Int) / 4503599627370496)=(Q:Int)) (ha:bits BinOp.and IntKind.i64 (Q:Int) 2047=j)
  (hy:wrap64 (x+wrap64 ((j:Int) - 1023))=y) (y1 : -1022≤y) (y2:y≤1023) (hx:wrap64 x=x)
  (hz:bits BinOp.or IntKind.u64 (bits BinOp.andNot IntKind.u64 (F:Int) 9218868437227405312) ((y+1023)*4503599627370496)=(R:Int)) (hR:R<9218868437227405312) (w:World) :
  Calls Tryz.prog 158 #[.float .f64 F,.int .i64 x] w fun e w'=>e=.returned (.float .f64 R)∧w=w':=by
 have HI:=Lib.hid (fun W=>isinf_0 F (by omega) W)
 rw [decide_eq_false (by unfold fabs;omega)] at HI
 have HN:=Lib.hid (fun W=>isnan_any F (by omega) W)
 rw [decide_eq_false (by unfold fnan;omega)] at HN
 have HM:=Lib.hid (fun W=>norm_pat F (by omega) (by omega) W)
 have oz:(FloatKind.f64.format.order F 0==some .eq)=false:=(o_isz (by omega)).trans (decide_eq_false (by omega))
 have bF:=bits_any F
 have bR:=from_any (R:Int)
 rw [Int.toNat_natCast] at bR
 have hm:∀t w,(binOp .mul t (.float .f64 4607182418800017408) (.float .f64 R)).run Tryz.prog w=.ok (.float .f64 R) w:=fun t w=>run_float_arith w .mul t .f64 _ R R (mul_one_f hR)
 have y3:decide (y < -1075)=false:=decide_eq_false (by omega)
 have y4:decide (1023<y)=false:=decide_eq_false (by omega)
 have y5:decide (y < -1022)=false:=decide_eq_false (by omega)
 clear hF1 hF2 hR
 go_enter Tryz.func158,Tryz.ntmps158
 go_wp2_with fail
 refine (HI.out _).mono ?_
 rintro en w1 ⟨rfl,rfl⟩
 go_wp2_with fail
 refine (HN.out _).mono ?_
 rintro en w1 ⟨rfl,rfl⟩
 go_wp2_with fail
 refine (HM.out _).mono ?_
 rintro en w1 ⟨rfl,rfl⟩
 go_wp2
 go_ret
 exact ⟨rfl,rfl⟩
set_option maxRecDepth 40000 in
set_option maxHeartbeats 1000000 in
theorem ldexp_great (F Q j:Nat) (x y:Int) (hF1:4836865999795912704≤F) (hF2:F≤4845873199050653696) (hq:wrap64 ((F:Int) / 4503599627370496)=(Q:Int)) (ha:bits BinOp.and IntKind.i64 (Q:Int) 2047=j)
  (hy:wrap64 (x+wrap64 ((j:Int) - 1023))=y) (y2:1023<y) (hx:wrap64 x=x) (w:World) :
  Calls Tryz.prog 158 #[.float .f64 F,.int .i64 x] w fun e w'=>e=.returned (.float .f64 9218868437227405312)∧w=w':=by
 have HI:=Lib.hid (fun W=>isinf_0 F (by omega) W)
 rw [decide_eq_false (by unfold fabs;omega)] at HI
 have HN:=Lib.hid (fun W=>isnan_any F (by omega) W)
 rw [decide_eq_false (by unfold fnan;omega)] at HN
 have HM:=Lib.hid (fun W=>norm_pat F (by omega) (by omega) W)
 have HP:=Lib.hid (fun W=>infp_any W)
 have oz:(FloatKind.f64.format.order F 0==some .eq)=false:=(o_isz (by omega)).trans (decide_eq_false (by omega))
 have ol:(FloatKind.f64.format.order F 0==some .lt)=false:=by
  refine (f_lt (by omega) (by omega)).trans (decide_eq_false ?_)
  rintro ⟨_,_,h⟩
  revert h;unfold FK;split <;> (try split) <;> omega
 have bF:=bits_any F
 have y3:decide (y < -1075)=false:=decide_eq_false (by omega)
 have y4:decide (1023<y)=true:=decide_eq_true (by omega)
 clear hF1 hF2
 go_enter Tryz.func158,Tryz.ntmps158
 go_wp2_with fail
 refine (HI.out _).mono ?_
 rintro en w1 ⟨rfl,rfl⟩
 go_wp2_with fail
 refine (HN.out _).mono ?_
 rintro en w1 ⟨rfl,rfl⟩
 go_wp2_with fail
 refine (HM.out _).mono ?_
 rintro en w1 ⟨rfl,rfl⟩
 go_wp2_with fail
 refine (HP.out _).mono ?_
 rintro en w1 ⟨rfl,rfl⟩
 go_wp2
 go_ret
 exact ⟨rfl,rfl⟩
theorem and_frac (x:Nat) (hx:x<9223372036854775808):x &&& (18446744073709551615 - 9218868437227405312)=x%4503599627370496:=by
 have h1:(18446744073709551615 - 9218868437227405312:Nat)=2^63 ||| (2^52 - 1):=by rw [Go.nat_join 52 (2^63) (2^52 - 1) (by decide) (by decide)]
 rw [h1,Nat.and_or_distrib_left,Go.nat_bit,Nat.and_two_pow_sub_one_eq_mod]
 have h2:x / 2^63=0:=Nat.div_eq_of_lt hx
 rw [h2]
 simp
theorem wrap64_self {x:Int} (h1 : -9223372036854775808≤x) (h2:x<9223372036854775808):wrap64 x=x:=by
 unfold wrap64;omega
theorem ldexp_pat (k s:Nat) (h1:4503599627370496≤s) (h2:s≤9007199254740992) (hk:k≤2045) (w:World) :
  Calls Tryz.prog 147 #[.float .f64 (4836865999795912704+s),.int .i64 ((k:Int) - 1074)] w fun e w'=>e=.returned (.float .f64 (k*4503599627370496+s))∧w=w':=by
 have hL:∀W,Calls Tryz.prog 158 #[.float .f64 (4836865999795912704+s),.int .i64 ((k:Int) - 1074)] W fun e w'=>e=.returned (.float .f64 (k*4503599627370496+s))∧W=w':=by
  intro W
  have hz:∀(F t:Nat) (y:Int),F<9223372036854775808→y+1023=t→t≤2046→bits BinOp.or IntKind.u64 (bits BinOp.andNot IntKind.u64 (F:Int) 9218868437227405312) ((y+1023)*4503599627370496)=((F%4503599627370496+t*4503599627370496:Nat):Int):=by
   intro F t y hF hy ht
   have a1:=Go.u64_andNot_nat F 9218868437227405312 (by omega) (by omega)
   rw [and_frac F hF] at a1
   have a1':bits BinOp.andNot IntKind.u64 (F:Int) 9218868437227405312=((F%4503599627370496:Nat):Int):=a1
   rw [a1',hy]
   have a2:=Go.u64_or_nat (F%4503599627370496) (t*4503599627370496) (by omega) (by omega)
   have a3:((t:Int)*4503599627370496)=((t*4503599627370496:Nat):Int):=by omega
   rw [a3,a2,Nat.or_comm,Go.nat_join 52 _ _ (Nat.mul_mod_left _ _) (Nat.mod_lt _ (by omega)),Nat.add_comm]
  by_cases c:s<9007199254740992
  ·have hr:k*4503599627370496+s=(4836865999795912704+s)%4503599627370496+(k+1)*4503599627370496:=by omega
   rw [hr]
   exact ldexp_walk (4836865999795912704+s) 1075 1075 _ ((k:Int) - 1074) ((k:Int) - 1022) (by omega) (by omega) (by rw [wrap64_self] <;> omega) (by decide)
    (by rw [wrap64_self (x:=((1075:Nat):Int) - 1023) (by omega) (by omega),wrap64_self] <;> omega) (by omega) (by omega) (wrap64_self (by omega) (by omega)) (hz _ (k+1) _ (by omega) (by omega) (by omega)) (by omega) W
  ·have hs:s=9007199254740992:=by omega
   by_cases c2:k=2045
   ·have hr:k*4503599627370496+s=9218868437227405312:=by omega
    rw [hr]
    exact ldexp_great (4836865999795912704+s) 1076 1076 ((k:Int) - 1074) ((k:Int) - 1021) (by omega) (by omega) (by rw [wrap64_self] <;> omega) (by decide)
     (by rw [wrap64_self (x:=((1076:Nat):Int) - 1023) (by omega) (by omega),wrap64_self] <;> omega) (by omega) (wrap64_self (by omega) (by omega)) W
   ·have hr:k*4503599627370496+s=(4836865999795912704+s)%4503599627370496+(k+2)*4503599627370496:=by omega
    rw [hr]
    exact ldexp_walk (4836865999795912704+s) 1076 1076 _ ((k:Int) - 1074) ((k:Int) - 1021) (by omega) (by omega) (by rw [wrap64_self] <;> omega) (by decide)
     (by rw [wrap64_self (x:=((1076:Nat):Int) - 1023) (by omega) (by omega),wrap64_self] <;> omega) (by omega) (by omega) (wrap64_self (by omega) (by omega)) (hz _ (k+2) _ (by omega) (by omega) (by omega)) (by omega) W
 obtain ⟨F,hF⟩:∃F,4836865999795912704+s=F:=⟨_,rfl⟩
 obtain ⟨R,hR⟩:∃F,k*4503599627370496+s=F:=⟨_,rfl⟩
 obtain ⟨x,hx⟩:∃x:Int,(k:Int) - 1074=x:=⟨_,rfl⟩
 rw [hF,hR,hx] at hL
 rw [hF,hR,hx]
 have HL:=Lib.hid hL
 clear hL hF hR hx h1 h2 hk
 go_enter Tryz.func147,Tryz.ntmps147
 go_wp2_with fail
 refine (HL.out _).mono ?_
 rintro en w1 ⟨rfl,rfl⟩
 go_wp2
 go_ret
 exact ⟨rfl,rfl⟩
end Go.Proofs.YtigmpifjcijdbaaGreatDoor
