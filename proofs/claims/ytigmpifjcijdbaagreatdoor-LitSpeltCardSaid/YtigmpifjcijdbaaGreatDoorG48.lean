/- Layer 12: Exact by the program and by the document; the law. -/
import Derived.Test.YtigmpifjcijdbaaGreatDoorG47
section
namespace Go.Proofs.YtigmpifjcijdbaaGreatDoor
set_option linter.unusedVariables false
set_option linter.unusedSimpArgs false
open Go.RowKit Verge
theorem o_eq {x y:Nat} (hx:x<18446744073709551616) (hy:y<18446744073709551616) (nx:¬fnan x) (ny:¬fnan y):(FloatKind.f64.format.order x y==some .eq)=decide (FK x=FK y):=by
 have h1:=o_lt hx hy
 have h2:=o_gt hx hy
 have h3:=o_le hx hy
 rcases Int.lt_trichotomy (FK x) (FK y) with h | h | h
 ·rw [decide_eq_false (show ¬FK x=FK y by omega)]
  rw [decide_eq_true ⟨nx,ny,h⟩] at h1
  have:FloatKind.f64.format.order x y=some .lt:=by simpa using h1
  rw [this];rfl
 ·rw [decide_eq_true h]
  rw [decide_eq_false (fun g=>by have:=g.2.2;omega)] at h1
  rw [decide_eq_true ⟨nx,ny,Int.le_of_eq h⟩,h1] at h3
  simpa using h3
 ·rw [decide_eq_false (show ¬FK x=FK y by omega)]
  rw [decide_eq_true ⟨nx,ny,h⟩] at h2
  have:FloatKind.f64.format.order x y=some .gt:=by simpa using h2
  rw [this];rfl
theorem fz_ne' (x:Nat):fz x≠9223372036854775808:=by unfold fz;split <;> omega
theorem lit_facts {x y:Nat} (hx:x<18446744073709551616) (hy:y<18446744073709551616):flo x y≠9223372036854775808∧fhi x y≠9223372036854775808∧((flo x y=9218868437227405312∧fhi x y=18442240474082181120)∨(flo x y≠9218868437227405312∧fhi x y≠18442240474082181120)):=by
 by_cases hs:fsound x y=true
 ·have h:=of_decide_eq_true hs
  have e1:flo x y=fz x:=by rw [flo,if_pos hs]
  have e2:fhi x y=fz y:=by rw [fhi,if_pos hs]
  rw [e1,e2]
  refine ⟨fz_ne' x,fz_ne' y,.inr ⟨fun e => ?_,fun e => ?_⟩⟩
  ·have:=FK_fz hx
   rw [e] at this
   have k:FK 9218868437227405312=9218868437227405312:=by decide
   omega
  ·have:=FK_fz hy
   rw [e] at this
   have k:FK 18442240474082181120 = -9218868437227405312:=by decide
   omega
 ·have e1:flo x y=9218868437227405312:=by rw [flo,if_neg hs]
  have e2:fhi x y=18442240474082181120:=by rw [fhi,if_neg hs]
  rw [e1,e2];decide
theorem FK_inj {x y:Nat} (hx:x≠9223372036854775808) (hy:y≠9223372036854775808):FK x=FK y↔x=y:=by
 unfold FK;split <;> split <;> omega
theorem reg2 {a b:Value} {w W W':World} (h0:W.cell? ⟨w.heap.size,0,none⟩=some a) (h1:W.cell? ⟨w.heap.size,1,none⟩=some b) (hz:w.heap.size<W.heap.size) (hb:Below W.heap.size W.drew W') (hw:Below w.heap.size w W) :
  W'.cell? ⟨w.heap.size,0,none⟩=some a∧W'.cell? ⟨w.heap.size,1,none⟩=some b∧w.heap.size<W'.heap.size∧Below w.heap.size w W':=
 ⟨(hb.cell (p:=⟨w.heap.size,0,none⟩) hz).trans h0,(hb.cell (p:=⟨w.heap.size,1,none⟩) hz).trans h1,Nat.lt_of_lt_of_le hz hb.size,hw.drew.trans (hb.mono (Nat.le_of_lt hz))⟩
set_option maxRecDepth 20000 in
set_option maxHeartbeats 8000000 in
theorem litExact_any (x y:Nat) (hx:x<18446744073709551616) (hy:y<18446744073709551616) (w:World) (hP:Pow10 w):Calls Tryz.prog 31 #[.agg #[.float .f64 x,.float .f64 y]] w fun e w'=>e=.returned (.string (bs (litT (flo x y) (fhi x y))))∧Below w.heap.size w w':=by
 have HB:=Lib.hid (fun o=>bnew w o)
 have HR:=Lib.hid (fun W=>read_any x y hx hy W)
 have hlo:=flo_lt (y:=y) hx
 have hhi:=fhi_lt (x:=x) hy
 obtain ⟨n1,n2,n3⟩:=lit_facts hx hy
 have m1:¬fnan (flo x y):=fnan_flo
 have m2:¬fnan (fhi x y):=fnan_fhi
 generalize flo x y=p at *
 generalize fhi x y=q at *
 have t1:∀W:World,(binOp BinOp.eql 34 (.agg #[.float .f64 p,.float .f64 q]) (.agg #[.float .f64 9218868437227405312,.float .f64 18442240474082181120])).run Tryz.prog W=.ok (.bool (decide (p=9218868437227405312∧q=18442240474082181120))) W:=by
  intro W
  rw [eqlF,o_eq hlo (by omega) m1 (by decide),o_eq hhi (by omega) m2 (by decide),←Bool.decide_and]
  congr 2
  exact decide_eq_decide.2 (by rw [FK_inj n1 (by omega),FK_inj n2 (by omega)])
 have t2:∀W:World,(binOp BinOp.eql 34 (.agg #[.float .f64 p,.float .f64 q]) (.agg #[.float .f64 18442240474082181120,.float .f64 9218868437227405312])).run Tryz.prog W=.ok (.bool (decide (p=18442240474082181120∧q=9218868437227405312))) W:=by
  intro W
  rw [eqlF,o_eq hlo (by omega) m1 (by decide),o_eq hhi (by omega) m2 (by decide),←Bool.decide_and]
  congr 2
  exact decide_eq_decide.2 (by rw [FK_inj n1 (by omega),FK_inj n2 (by omega)])
 have t3:(FloatKind.f64.format.order p q==some .eq)=decide (p=q):=by
  rw [o_eq hlo hhi m1 m2]
  exact decide_eq_decide.2 (FK_inj n1 n2)
 have HX:=Lib.hid (fun W (h:Pow10 W)=>exP p hlo W h)
 have HV:=Lib.hid (fun W (h:Pow10 W) (h1:p≠9218868437227405312) (h2:q≠18442240474082181120)=>written_any p q hlo hhi h1 h2 W h)
 have HPP:=Lib.hid hP
 have hsf:=store_f
 have al:=exT_len p
 clear hP hx hy hlo hhi n1 n2 m1 m2
 obtain ⟨c0,c1,f0,f1,hz⟩:=box1 (w:=w) (a:=.float .f64 x) (b:=.float .f64 y) (t:=34) (Below.refl _ _)
 by_cases hE:p=9218868437227405312∧q=18442240474082181120
 ·have HT:Hid (litT p q=[91,101,109,112,116,121,93]):=Lib.hid (by unfold litT;rw [if_pos hE])
  rw [decide_eq_true hE] at t1
  clear hE n3
  go_enter Tryz.func31,Tryz.ntmps31
  go_wp2_with fail
  refine (HR.out _).mono ?_
  rintro e w1 ⟨rfl,hb⟩
  obtain ⟨c0,c1,f0,f1,hz⟩:=box1 hb
  have HW:=Lib.hid (((baft (HB.out _) hb).setCell (Nat.le_refl _) (Value.float .f64 p) (p:=⟨w.heap.size,0,none⟩)).setCell (Nat.le_refl _) (Value.float .f64 q) (p:=⟨w.heap.size,1,none⟩))
  obtain ⟨g0,g1⟩:=set2_cells (u:=Value.float .f64 p) (v:=Value.float .f64 q) c0 c1
  have hz0:w.heap.size<((w1.setCell ⟨w.heap.size,0,none⟩ (Value.float .f64 p)).setCell ⟨w.heap.size,1,none⟩ (Value.float .f64 q)).heap.size:=by simp [World.setCell];exact hz
  clear hb
  go_wp2_with fail
  obtain ⟨W0,hW0⟩:∃W0,(w1.setCell ⟨w.heap.size,0,none⟩ (Value.float .f64 p)).setCell ⟨w.heap.size,1,none⟩ (Value.float .f64 q)=W0:=⟨_,rfl⟩
  rw [hW0] at HW g0 g1 hz0 ⊢
  clear hW0 c0 c1 f0 f1 hz
  go_region_with (go_at_call 47;(with_reducible refine (empty_any _).mono ?_);rintro en w2 ⟨rfl,hb⟩;obtain ⟨g0,g1,hz0,hw⟩:=reg2 g0 g1 hz0 hb HW.out;have HW:=Lib.hid hw;clear hb hw)
  all_goals
   go_wp2
   go_ret
   exact ⟨by rw [HT.out];rfl,HW.out⟩
 ·rw [decide_eq_false hE] at t1
  have h12:p≠9218868437227405312∧q≠18442240474082181120:=by rcases n3 with h | h;exact absurd h hE;exact h
  clear n3
  by_cases hA:p=18442240474082181120∧q=9218868437227405312
  ·have HT:Hid (litT p q=[91,101,110,116,105,114,101,93]):=Lib.hid (by unfold litT;rw [if_neg hE,if_pos hA])
   rw [decide_eq_true hA] at t2
   clear hE hA h12
   go_enter Tryz.func31,Tryz.ntmps31
   go_wp2_with fail
   refine (HR.out _).mono ?_
   rintro e w1 ⟨rfl,hb⟩
   obtain ⟨c0,c1,f0,f1,hz⟩:=box1 hb
   have HW:=Lib.hid (((baft (HB.out _) hb).setCell (Nat.le_refl _) (Value.float .f64 p) (p:=⟨w.heap.size,0,none⟩)).setCell (Nat.le_refl _) (Value.float .f64 q) (p:=⟨w.heap.size,1,none⟩))
   obtain ⟨g0,g1⟩:=set2_cells (u:=Value.float .f64 p) (v:=Value.float .f64 q) c0 c1
   have hz0:w.heap.size<((w1.setCell ⟨w.heap.size,0,none⟩ (Value.float .f64 p)).setCell ⟨w.heap.size,1,none⟩ (Value.float .f64 q)).heap.size:=by simp [World.setCell];exact hz
   clear hb
   go_wp2_with fail
   obtain ⟨W0,hW0⟩:∃W0,(w1.setCell ⟨w.heap.size,0,none⟩ (Value.float .f64 p)).setCell ⟨w.heap.size,1,none⟩ (Value.float .f64 q)=W0:=⟨_,rfl⟩
   rw [hW0] at HW g0 g1 hz0 ⊢
   clear hW0 c0 c1 f0 f1 hz
   go_region_with (go_at_call 47;(with_reducible refine (empty_any _).mono ?_);rintro en w2 ⟨rfl,hb⟩;obtain ⟨g0,g1,hz0,hw⟩:=reg2 g0 g1 hz0 hb HW.out;have HW:=Lib.hid hw;clear hb hw)
   all_goals
    go_wp2_with fail
    go_region_with (go_at_call 48;(with_reducible refine (entire_any _).mono ?_);rintro en w2 ⟨rfl,hb⟩;obtain ⟨g0,g1,hz0,hw⟩:=reg2 g0 g1 hz0 hb HW.out;have HW:=Lib.hid hw;clear hb hw)
    all_goals
     go_wp2
     go_ret
     exact ⟨by rw [HT.out];rfl,HW.out⟩
  ·rw [decide_eq_false hA] at t2
   by_cases hp:p=q
   ·have HT:Hid (litT p q=[91]++exT p++[93]):=Lib.hid (by unfold litT;rw [if_neg hE,if_neg hA,if_pos hp])
    have key:bs [91]++bs (exT p)++bs [93]=bs ([91]++exT p++[93]):=by simp only [bs_append]
    have KEY:=Lib.hid key
    rw [decide_eq_true hp] at t3
    have ha2:(bs (exT p)).size≤20000:=by rw [bs_size];exact al
    generalize bs (exT p)=X at *
    have l0:(bs [91]).size=1:=rfl
    have l2:(bs [93]).size=1:=rfl
    have e0:({ data:=#[91] }:ByteArray)=bs [91]:=rfl
    have e2:({ data:=#[93] }:ByteArray)=bs [93]:=rfl
    clear hE hA h12 hp key al
    go_enter Tryz.func31,Tryz.ntmps31
    go_wp2_with fail
    refine (HR.out _).mono ?_
    rintro e w1 ⟨rfl,hb⟩
    obtain ⟨c0,c1,f0,f1,hz⟩:=box1 hb
    have HW:=Lib.hid (((baft (HB.out _) hb).setCell (Nat.le_refl _) (Value.float .f64 p) (p:=⟨w.heap.size,0,none⟩)).setCell (Nat.le_refl _) (Value.float .f64 q) (p:=⟨w.heap.size,1,none⟩))
    obtain ⟨g0,g1⟩:=set2_cells (u:=Value.float .f64 p) (v:=Value.float .f64 q) c0 c1
    have hz0:w.heap.size<((w1.setCell ⟨w.heap.size,0,none⟩ (Value.float .f64 p)).setCell ⟨w.heap.size,1,none⟩ (Value.float .f64 q)).heap.size:=by simp [World.setCell];exact hz
    clear hb
    go_wp2_with fail
    obtain ⟨W0,hW0⟩:∃W0,(w1.setCell ⟨w.heap.size,0,none⟩ (Value.float .f64 p)).setCell ⟨w.heap.size,1,none⟩ (Value.float .f64 q)=W0:=⟨_,rfl⟩
    rw [hW0] at HW g0 g1 hz0 ⊢
    clear hW0 c0 c1 f0 f1 hz
    go_region_with (go_at_call 47;(with_reducible refine (empty_any _).mono ?_);rintro en w2 ⟨rfl,hb⟩;obtain ⟨g0,g1,hz0,hw⟩:=reg2 g0 g1 hz0 hb HW.out;have HW:=Lib.hid hw;clear hb hw)
    all_goals
     go_wp2_with fail
     go_region_with (go_at_call 48;(with_reducible refine (entire_any _).mono ?_);rintro en w2 ⟨rfl,hb⟩;obtain ⟨g0,g1,hz0,hw⟩:=reg2 g0 g1 hz0 hb HW.out;have HW:=Lib.hid hw;clear hb hw)
     all_goals
      go_wp2_with fail
      refine (HX.out _ (HPP.out.below HW.out)).mono ?_
      rintro e w9 ⟨rfl,hb⟩
      have HW:=Lib.hid (baft HW.out hb)
      clear hb
      go_wp2
      go_ret
      exact ⟨by rw [HT.out,←KEY.out];rfl,HW.out⟩
   ·have HT:Hid (litT p q=[91]++(if p=18442240474082181120 then [45,105,110,102] else exT p)++[44,32]++(if q=9218868437227405312 then [105,110,102] else exT q)++[93]):=Lib.hid (by unfold litT;rw [if_neg hE,if_neg hA,if_neg hp])
    rw [decide_eq_false hp] at t3
    have H12:=Lib.hid h12
    obtain ⟨X,hX⟩:∃X,bs ([91]++(if p=18442240474082181120 then [45,105,110,102] else exT p)++[44,32]++(if q=9218868437227405312 then [105,110,102] else exT q)++[93])=X:=⟨_,rfl⟩
    rw [hX] at HV
    have HXX:=Lib.hid hX
    clear hE hA h12 hp al hX
    go_enter Tryz.func31,Tryz.ntmps31
    go_wp2_with fail
    refine (HR.out _).mono ?_
    rintro e w1 ⟨rfl,hb⟩
    obtain ⟨c0,c1,f0,f1,hz⟩:=box1 hb
    have HW:=Lib.hid (((baft (HB.out _) hb).setCell (Nat.le_refl _) (Value.float .f64 p) (p:=⟨w.heap.size,0,none⟩)).setCell (Nat.le_refl _) (Value.float .f64 q) (p:=⟨w.heap.size,1,none⟩))
    obtain ⟨g0,g1⟩:=set2_cells (u:=Value.float .f64 p) (v:=Value.float .f64 q) c0 c1
    have hz0:w.heap.size<((w1.setCell ⟨w.heap.size,0,none⟩ (Value.float .f64 p)).setCell ⟨w.heap.size,1,none⟩ (Value.float .f64 q)).heap.size:=by simp [World.setCell];exact hz
    clear hb
    go_wp2_with fail
    obtain ⟨W0,hW0⟩:∃W0,(w1.setCell ⟨w.heap.size,0,none⟩ (Value.float .f64 p)).setCell ⟨w.heap.size,1,none⟩ (Value.float .f64 q)=W0:=⟨_,rfl⟩
    rw [hW0] at HW g0 g1 hz0 ⊢
    clear hW0 c0 c1 f0 f1 hz
    go_region_with (go_at_call 47;(with_reducible refine (empty_any _).mono ?_);rintro en w2 ⟨rfl,hb⟩;obtain ⟨g0,g1,hz0,hw⟩:=reg2 g0 g1 hz0 hb HW.out;have HW:=Lib.hid hw;clear hb hw)
    all_goals
     go_wp2_with fail
     go_region_with (go_at_call 48;(with_reducible refine (entire_any _).mono ?_);rintro en w2 ⟨rfl,hb⟩;obtain ⟨g0,g1,hz0,hw⟩:=reg2 g0 g1 hz0 hb HW.out;have HW:=Lib.hid hw;clear hb hw)
     all_goals
      go_wp2_with fail
      refine (HV.out _ (HPP.out.below HW.out) H12.out.1 H12.out.2).mono ?_
      rintro e w9 ⟨rfl,hb⟩
      have HW:=Lib.hid (baft HW.out hb)
      clear hb
      go_wp2
      go_ret
      exact ⟨by rw [HT.out,HXX.out];rfl,HW.out⟩
end Go.Proofs.YtigmpifjcijdbaaGreatDoor
end

section
namespace Go.Proofs.YtigmpifjcijdbaaGreatDoor
set_option linter.unusedVariables false
set_option linter.unusedSimpArgs false
open Go.RowKit Verge
def litQ (lo hi:Nat) (tl th:List UInt8):List UInt8:=
 if lo=9218868437227405312∧hi=18442240474082181120 then [91,101,109,112,116,121,93]
 else if lo=18442240474082181120∧hi=9218868437227405312 then [91,101,110,116,105,114,101,93]
 else [91]++(if lo=18442240474082181120 then [45,105,110,102] else tl)++[44,32]++(if hi=9218868437227405312 then [105,110,102] else th)++[93]
theorem pend_any {d:Int} {b n:Nat} {t:List UInt8} {c:Int} (hp:PrP d b n t c) (r:Nat) (w:World) (hP:Pow10 w) (hr:w.cell? ⟨r,0,none⟩=some (.int .i64 (n:Int))):Calls Tryz.prog 50 #[.int .i64 d,.float .f64 b,.pointer (some ⟨r,0,none⟩)] w fun e w'=>e=.returned (.string (bs t))∧Below w.heap.size w w':=by
 have H:=Lib.hid (hp w hP)
 clear hP hp
 go_enter Tryz.func50,Tryz.ntmps50
 go_wp2_with fail
 refine H.out.mono ?_
 rintro e w1 ⟨rfl,hb1⟩
 have HB1:=Lib.hid hb1
 clear hb1
 go_wp2
 go_ret
 exact ⟨rfl,HB1.out⟩
set_option maxHeartbeats 2000000 in
theorem writtenp_any (x y n:Nat) (a b:List UInt8) (c1 c2:Int) (P1:PrP (-1) x n a c1) (P2:PrP 1 y n b c2) (a1:a.length≤20000) (a2:b.length≤20000) (r:Nat) (hx:x<18446744073709551616) (hy:y<18446744073709551616) (hx1:x≠9218868437227405312) (hy1:y≠18442240474082181120) (w:World) (hP:Pow10 w) (hrl:r<w.heap.size) (hr:w.cell? ⟨r,0,none⟩=some (.int .i64 (n:Int))):Calls Tryz.prog 49 #[.agg #[.float .f64 x,.float .f64 y],.func (.func 50) #[] #[.pointer (some ⟨r,0,none⟩)]] w fun e w'=>e=.returned (.string (bs ([91]++(if x=18442240474082181120 then [45,105,110,102] else a)++[44,32]++(if y=9218868437227405312 then [105,110,102] else b)++[93])))∧Below w.heap.size w w':=by
 have HB:=Lib.hid (fun o=>bnew w o)
 have key:∀(c d:List UInt8),bs [91]++bs c++bs [44,32]++bs d++bs [93]=bs ([91]++c++[44,32]++d++[93]):=by
  intro c d;simp only [bs_append]
 rw [←key]
 have i1:decide (fabs x=9218868437227405312)=decide (x=18442240474082181120):=decide_eq_decide.2 (by unfold fabs;omega)
 have i2:decide (fabs y=9218868437227405312)=decide (y=9218868437227405312):=decide_eq_decide.2 (by unfold fabs;omega)
 have I1:=Lib.hid (fun W=>isinf_0 x hx W)
 have I2:=Lib.hid (fun W=>isinf_0 y hy W)
 rw [i1] at I1
 rw [i2] at I2
 have E1:=Lib.hid (fun W (h:Pow10 W) (hc:W.cell? ⟨r,0,none⟩=some (.int .i64 (n:Int)))=>pend_any P1 r W h hc)
 have E2:=Lib.hid (fun W (h:Pow10 W) (hc:W.cell? ⟨r,0,none⟩=some (.int .i64 (n:Int)))=>pend_any P2 r W h hc)
 have HRC:=Lib.hid hr
 have HPP:=Lib.hid hP
 have l0:(bs [91]).size=1:=rfl
 have l1:(bs [44,32]).size=2:=rfl
 have l2:(bs [93]).size=1:=rfl
 have l3:(bs [45,105,110,102]).size=4:=rfl
 have l4:(bs [105,110,102]).size=3:=rfl
 have e0:({ data:=#[91] }:ByteArray)=bs [91]:=rfl
 have e1:({ data:=#[44,32] }:ByteArray)=bs [44,32]:=rfl
 have e2:({ data:=#[93] }:ByteArray)=bs [93]:=rfl
 have e3:({ data:=#[45,105,110,102] }:ByteArray)=bs [45,105,110,102]:=rfl
 have e4:({ data:=#[105,110,102] }:ByteArray)=bs [105,110,102]:=rfl
 have ha2:(bs a).size≤20000:=by rw [bs_size];exact a1
 have hb2:(bs b).size≤20000:=by rw [bs_size];exact a2
 clear key a1 a2 i1 i2 hx hy hx1 hy1 hP P1 P2 hr
 obtain ⟨c0,c1,f0,f1,hz⟩:=box1 (w:=w) (a:=.float .f64 x) (b:=.float .f64 y) (t:=34) (Below.refl _ _)
 by_cases hx:x=18442240474082181120 <;> by_cases hy:y=9218868437227405312
 ·rw [if_pos hx,if_pos hy]
  rw [decide_eq_true hx] at I1
  rw [decide_eq_true hy] at I2
  clear hx hy
  go_enter Tryz.func49,Tryz.ntmps49
  go_wp2_with fail
  refine (I1.out _).mono ?_
  rintro e w1 ⟨rfl,rfl⟩
  go_wp2_with fail
  refine (I2.out _).mono ?_
  rintro e w3 ⟨rfl,rfl⟩
  go_wp2
  go_ret
  exact ⟨rfl,HB.out _⟩
 ·rw [if_pos hx,if_neg hy]
  rw [decide_eq_true hx] at I1
  rw [decide_eq_false hy] at I2
  clear hx hy
  go_enter Tryz.func49,Tryz.ntmps49
  go_wp2_with fail
  refine (I1.out _).mono ?_
  rintro e w1 ⟨rfl,rfl⟩
  go_wp2_with fail
  refine (I2.out _).mono ?_
  rintro e w3 ⟨rfl,rfl⟩
  go_wp2_with fail
  refine (E2.out _ (HPP.out.below (HB.out _)) ((bcell (HB.out _) r 0 hrl).trans HRC.out)).mono ?_
  rintro e w4 ⟨rfl,hb⟩
  obtain ⟨c0,c1,f0,f1,hz⟩:=box1 hb
  have HW:=Lib.hid (baft (HB.out _) hb)
  clear hb
  go_wp2
  go_ret
  exact ⟨rfl,HW.out⟩
 ·rw [if_neg hx,if_pos hy]
  rw [decide_eq_false hx] at I1
  rw [decide_eq_true hy] at I2
  clear hx hy
  go_enter Tryz.func49,Tryz.ntmps49
  go_wp2_with fail
  refine (I1.out _).mono ?_
  rintro e w1 ⟨rfl,rfl⟩
  go_wp2_with fail
  refine (E1.out _ (HPP.out.below (HB.out _)) ((bcell (HB.out _) r 0 hrl).trans HRC.out)).mono ?_
  rintro e w2 ⟨rfl,hb⟩
  obtain ⟨c0,c1,f0,f1,hz⟩:=box1 hb
  have HW:=Lib.hid (baft (HB.out _) hb)
  clear hb
  go_wp2_with fail
  refine (I2.out _).mono ?_
  rintro e w3 ⟨rfl,rfl⟩
  go_wp2
  go_ret
  exact ⟨rfl,HW.out⟩
 ·rw [if_neg hx,if_neg hy]
  rw [decide_eq_false hx] at I1
  rw [decide_eq_false hy] at I2
  clear hx hy
  go_enter Tryz.func49,Tryz.ntmps49
  go_wp2_with fail
  refine (I1.out _).mono ?_
  rintro e w1 ⟨rfl,rfl⟩
  go_wp2_with fail
  refine (E1.out _ (HPP.out.below (HB.out _)) ((bcell (HB.out _) r 0 hrl).trans HRC.out)).mono ?_
  rintro e w2 ⟨rfl,hb⟩
  obtain ⟨c0,c1,f0,f1,hz⟩:=box1 hb
  have HW:=Lib.hid (baft (HB.out _) hb)
  clear hb
  go_wp2_with fail
  refine (I2.out _).mono ?_
  rintro e w3 ⟨rfl,rfl⟩
  go_wp2_with fail
  refine (E2.out _ (HPP.out.below HW.out) ((bcell HW.out r 0 hrl).trans HRC.out)).mono ?_
  rintro e w4 ⟨rfl,hb⟩
  have HW:=Lib.hid (baft HW.out hb)
  clear hb
  go_wp2
  go_ret
  exact ⟨rfl,HW.out⟩
end Go.Proofs.YtigmpifjcijdbaaGreatDoor
end

section
namespace Go.Proofs.YtigmpifjcijdbaaGreatDoor
set_option linter.unusedVariables false
set_option linter.unusedSimpArgs false
open Go.RowKit Verge
def LPs (w W:World) (p q n:Nat):Prop:=Below w.heap.size w W∧W.cell? ⟨w.heap.size,0,none⟩=some (.float .f64 p)∧W.cell? ⟨w.heap.size,1,none⟩=some (.float .f64 q)∧w.heap.size+1<W.heap.size∧W.cell? ⟨w.heap.size+1,0,none⟩=some (.int .i64 (n:Int))
theorem LPs.later {w W W':World} {p q n:Nat} (h:LPs w W p q n) (hb:Below W.heap.size W W'):LPs w W' p q n:=by
 obtain ⟨h1,h2,h3,h4,h5⟩:=h
 exact ⟨baft h1 hb,(bcell hb _ _ (by omega)).trans h2,(bcell hb _ _ (by omega)).trans h3,Nat.lt_of_lt_of_le h4 hb.size,(bcell hb _ _ h4).trans h5⟩
theorem cell_far {W:World} {r i b o:Nat} {u:Value} (h:b≠r):(W.setCell ⟨r,i,none⟩ u).cell? ⟨b,o,none⟩=W.cell? ⟨b,o,none⟩:=
 World.cell?_of_block (w:=W) (Below.heap_setCell W ⟨r,i,none⟩ u b h)
set_option maxRecDepth 20000 in
set_option maxHeartbeats 8000000 in
theorem litPrint_any (x y n:Nat) (hx:x<18446744073709551616) (hy:y<18446744073709551616) (n1:1≤n) (n2:n≤1100) (tl th:List UInt8) (c1 c2:Int) (P1:PrP (-1) (flo x y) n tl c1) (P2:PrP 1 (fhi x y) n th c2) (a1:tl.length≤20000) (a2:th.length≤20000) (w:World) (hP:Pow10 w) :
  Calls Tryz.prog 28 #[.agg #[.float .f64 x,.float .f64 y],.int .i64 (n:Int)] w fun e w'=>e=.returned (.tuple #[.string (bs (litQ (flo x y) (fhi x y) tl th)),.int .i64 0])∧Below w.heap.size w w':=by
 have HR:=Lib.hid (fun W=>read_any x y hx hy W)
 have hlo:=flo_lt (y:=y) hx
 have hhi:=fhi_lt (x:=x) hy
 obtain ⟨m1,m2,m3⟩:=lit_facts hx hy
 have k1:¬fnan (flo x y):=fnan_flo
 have k2:¬fnan (fhi x y):=fnan_fhi
 generalize flo x y=p at *
 generalize fhi x y=q at *
 have t1:∀W:World,(binOp BinOp.eql 34 (.agg #[.float .f64 p,.float .f64 q]) (.agg #[.float .f64 9218868437227405312,.float .f64 18442240474082181120])).run Tryz.prog W=.ok (.bool (decide (p=9218868437227405312∧q=18442240474082181120))) W:=by
  intro W
  rw [eqlF,o_eq hlo (by omega) k1 (by decide),o_eq hhi (by omega) k2 (by decide),←Bool.decide_and]
  congr 2
  exact decide_eq_decide.2 (by rw [FK_inj m1 (by omega),FK_inj m2 (by omega)])
 have t2:∀W:World,(binOp BinOp.eql 34 (.agg #[.float .f64 p,.float .f64 q]) (.agg #[.float .f64 18442240474082181120,.float .f64 9218868437227405312])).run Tryz.prog W=.ok (.bool (decide (p=18442240474082181120∧q=9218868437227405312))) W:=by
  intro W
  rw [eqlF,o_eq hlo (by omega) k1 (by decide),o_eq hhi (by omega) k2 (by decide),←Bool.decide_and]
  congr 2
  exact decide_eq_decide.2 (by rw [FK_inj m1 (by omega),FK_inj m2 (by omega)])
 have HV:=Lib.hid (fun W (h:Pow10 W) (h1:p≠9218868437227405312) (h2:q≠18442240474082181120) (hrl:w.heap.size+1<W.heap.size) (hr:W.cell? ⟨w.heap.size+1,0,none⟩=some (.int .i64 (n:Int)))=>writtenp_any p q n tl th c1 c2 P1 P2 a1 a2 (w.heap.size+1) hlo hhi h1 h2 W h hrl hr)
 have HPP:=Lib.hid hP
 have hsf:=store_f
 have HM3:=Lib.hid m3
 clear hP hx hy hlo hhi m1 m2 m3 k1 k2 P1 P2 a1 a2
 have hE1:∃e1,decide (p=9218868437227405312∧q=18442240474082181120)=e1:=⟨_,rfl⟩
 obtain ⟨e1,he1⟩:=hE1
 have hE2:∃e2,decide (p=18442240474082181120∧q=9218868437227405312)=e2:=⟨_,rfl⟩
 obtain ⟨e2,he2⟩:=hE2
 rw [he1] at t1
 rw [he2] at t2
 have HE:=Lib.hid (And.intro he1 he2)
 clear he1 he2
 have hbA:=bnew w (.cells #[.float .f64 x,.float .f64 y] 34)
 have hbB:=bnew (w.alloc (.cells #[.float .f64 x,.float .f64 y] 34)) (.cells #[.int .i64 (n:Int)] 3)
 have hnc:((w.alloc (.cells #[.float .f64 x,.float .f64 y] 34)).alloc (.cells #[.int .i64 (n:Int)] 3)).cell? ⟨w.heap.size+1,0,none⟩=some (.int .i64 (n:Int)):=by
  have h:=heap_alloc_new (w.alloc (.cells #[.float .f64 x,.float .f64 y] 34)) (.cells #[.int .i64 (n:Int)] 3)
  rw [show (w.alloc (.cells #[.float .f64 x,.float .f64 y] 34)).heap.size=w.heap.size+1 by simp] at h
  simp only [World.cell?]
  rw [h]
  rfl
 have HBA:=Lib.hid hbA
 have HBB:=Lib.hid hbB
 have HNC:=Lib.hid hnc
 obtain ⟨c0,c1',f0,f1,hz⟩:=box1 hbB
 clear hbA hbB
 go_enter Tryz.func28,Tryz.ntmps28
 go_wp2_with fail
 refine (HR.out _).mono ?_
 rintro e w1 ⟨rfl,hb⟩
 have hbb:=raft HBB.out hb
 obtain ⟨d0,d1,g0,g1,hz1⟩:=box1 hbb
 have hnc1:w1.cell? ⟨w.heap.size+1,0,none⟩=some (.int .i64 (n:Int)):=(bcell hb _ _ (by simp)).trans HNC.out
 have hsz1:w.heap.size+1<w1.heap.size:=by
  have:=hb.size
  simp at this
  omega
 have HB1:=Lib.hid (raft HBA.out hbb)
 clear hb hbb c0 c1' f0 f1 hz HBA HBB HNC hnc
 obtain ⟨s0,s1⟩:=set2_cells (u:=Value.float .f64 p) (v:=Value.float .f64 q) d0 d1
 have HS:Hid (LPs w ((w1.setCell ⟨w.heap.size,0,none⟩ (Value.float .f64 p)).setCell ⟨w.heap.size,1,none⟩ (Value.float .f64 q)) p q n):=Lib.hid ⟨(HB1.out.setCell (Nat.le_refl _) (Value.float .f64 p) (p:=⟨w.heap.size,0,none⟩)).setCell (Nat.le_refl _) (Value.float .f64 q) (p:=⟨w.heap.size,1,none⟩),s0,s1,by simp [World.setCell];exact hsz1,by rw [cell_far (by omega),cell_far (by omega)];exact hnc1⟩
 clear s0 s1 hnc1 hsz1
 go_upto_region 4 with fail
 obtain ⟨W0,hW0⟩:∃W0,(w1.setCell ⟨w.heap.size,0,none⟩ (Value.float .f64 p)).setCell ⟨w.heap.size,1,none⟩ (Value.float .f64 q)=W0:=⟨_,rfl⟩
 rw [hW0] at HS ⊢
 clear hW0 d0 d1 g0 g1 hz1 HB1
 obtain ⟨_,g0,g1,_,_⟩:=HS.out
 go_wp2_with fail
 refine (empty_any _).mono ?_
 rintro e w2 ⟨rfl,hb⟩
 have HS:=Lib.hid (HS.out.later hb)
 clear hb g0 g1
 cases e1
 ·have hE:=of_decide_eq_false HE.out.1
  have h12:p≠9218868437227405312∧q≠18442240474082181120:=by rcases HM3.out with h | h;exact absurd h hE;exact h
  have H12:=Lib.hid h12
  have HEF:=Lib.hid hE
  clear h12 hE
  go_wp2_with fail
  refine (entire_any _).mono ?_
  rintro e w2 ⟨rfl,hb⟩
  have HS:=Lib.hid (HS.out.later hb)
  clear hb
  cases e2
  ·have hA:=of_decide_eq_false HE.out.2
   have HT:Hid (litQ p q tl th=[91]++(if p=18442240474082181120 then [45,105,110,102] else tl)++[44,32]++(if q=9218868437227405312 then [105,110,102] else th)++[93]):=Lib.hid (by unfold litQ;rw [if_neg HEF.out,if_neg hA])
   clear hA
   obtain ⟨X,hX⟩:∃X,bs ([91]++(if p=18442240474082181120 then [45,105,110,102] else tl)++[44,32]++(if q=9218868437227405312 then [105,110,102] else th)++[93])=X:=⟨_,rfl⟩
   rw [hX] at HV
   have HXX:=Lib.hid (show bs (litQ p q tl th)=X by rw [HT.out];exact hX)
   clear hX HT
   obtain ⟨hbq,g0,g1,g2,g3⟩:=HS.out
   have HV1:=Lib.hid (HV.out w2 (HPP.out.below hbq) H12.out.1 H12.out.2 g2 g3)
   clear hbq g2 g3
   go_wp2_with fail
   refine (HV1.out).mono ?_
   rintro e w9 ⟨rfl,hb⟩
   have HS:=Lib.hid (HS.out.later hb)
   clear hb
   go_wp2
   go_ret2
   exact ⟨by rw [HXX.out];rfl,HS.out.1⟩
  ·have HT:Hid (litQ p q tl th=[91,101,110,116,105,114,101,93]):=Lib.hid (by unfold litQ;rw [if_neg HEF.out,if_pos (of_decide_eq_true HE.out.2)])
   go_wp2
   go_ret2
   exact ⟨by rw [HT.out];rfl,HS.out.1⟩
 ·have HT:Hid (litQ p q tl th=[91,101,109,112,116,121,93]):=Lib.hid (by unfold litQ;rw [if_pos (of_decide_eq_true HE.out.1)])
  go_wp2
  go_ret2
  exact ⟨by rw [HT.out];rfl,HS.out.1⟩
end Go.Proofs.YtigmpifjcijdbaaGreatDoor
end
