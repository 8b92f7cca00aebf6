/- Layer 12: memory that a law of literals keeps; Valid and out. -/
import Derived.Test.YtlibbociineppaaGreatDoorG41
import Derived.Test.YtlibbociineppaaGreatDoorG45
namespace Go.Proofs.YtlibbociineppaaGreatDoor
set_option linter.unusedVariables false
set_option linter.unusedSimpArgs false
open Go.RowKit Verge Verge.Lit
structure KM (w W:World) (L:List (Nat×Obj)):Prop where
 below:Below w.heap.size w W
 has:∀x∈L,W.heap[x.1]?=some x.2
theorem KM.new (w:World):KM w w []:=⟨Below.refl _ _,fun x hx=>by cases hx⟩
theorem KM.later {w W W':World} {L:List (Nat×Obj)} (h:KM w W L) (hb:Below W.heap.size W W'):KM w W' L:=
 ⟨raft h.below hb,fun x hx=>(hb.block _ (Array.getElem?_eq_some_iff.1 (h.has x hx)).1).trans (h.has x hx)⟩
theorem KM.push {w W:World} {L:List (Nat×Obj)} (h:KM w W L) (o:Obj):KM w (W.alloc o) ((W.heap.size,o)::L):=by
 have hb:=bnew W o
 have h':=h.later (rnew W o)
 refine ⟨h'.below,fun x hx => ?_⟩
 rcases List.mem_cons.1 hx with rfl | hx
 ·exact heap_alloc_new W o
 ·exact h'.has x hx
theorem KM.get {w W:World} {L:List (Nat×Obj)} (h:KM w W L) {b:Nat} {o:Obj} (hm:(b,o)∈L):W.heap[b]?=some o:=h.has (b,o) hm
abbrev iO (a b:Nat):Obj:=.cells #[.int .u64 (a:Int),.int .u64 (b:Int)] 24
theorem iO_cells {w:World} {B a b:Nat} (h:w.heap[B]?=some (iO a b)):w.cell? ⟨B,0,none⟩=some (.int .u64 (a:Int))∧w.cell? ⟨B,1,none⟩=some (.int .u64 (b:Int)):=by
 constructor <;> simp [World.cell?,h]
theorem neqI (a b c d:Int) (w:World):(binOp BinOp.neq 24 (.agg #[.int .u64 a,.int .u64 b]) (.agg #[.int .u64 c,.int .u64 d])).run Tryz.prog w=.ok (.bool !((a==c)&&(b==d))) w:=by
 rw [run_neq_struct,run_equalIn_struct _ _ _ _ _ (by kernel_rfl) (by kernel_rfl)]
 rw [two_fields fields_I (by decide) (by decide) _ _ _ _ _ _ _ _ _ _ (fun W=>(part_u W _ _).1) (fun W=>(part_u W _ _).2) (fun W=>(part_u W _ _).1) (fun W=>(part_u W _ _).2) (fun W=>run_equalIn_int W _ _ _ _ _ _ Tryz.underlying22) (fun W=>run_equalIn_int W _ _ _ _ _ _ Tryz.underlying22)]
 rfl
theorem out_len {lo hi n:Nat} (h1:(prE (-1) lo n).length≤1200) (h2:(prE 1 hi n).length≤1200):(outT lo hi n).length≤140737488355328:=by
 unfold outT litQ
 generalize prE (-1) lo n=a at *
 generalize prE 1 hi n=b at *
 split
 ·simp
 ·split
  ·simp
  ·have a1:(if lo=18442240474082181120 then [45,105,110,102] else a:List UInt8).length≤1200:=by
    split
    ·simp
    ·exact h1
   have b1:(if hi=9218868437227405312 then [105,110,102] else b:List UInt8).length≤1200:=by
    split
    ·simp
    ·exact h2
   generalize (if lo=18442240474082181120 then [45,105,110,102] else a:List UInt8)=A at *
   generalize (if hi=9218868437227405312 then [105,110,102] else b:List UInt8)=B at *
   simp;omega
set_option maxHeartbeats 4000000 in
theorem out12L_any (x y:Nat) (w:World):Calls Tryz.prog 9 #[.agg #[.float .f64 x,.float .f64 y]] w
  fun e w'=>e=.returned (.agg #[.int .u64 (x:Int),.int .u64 (y:Int)])∧Below w.heap.size w w':=by
 have hsf:=store_f
 have hfr:=@bits_any
 have HB:=Lib.hid (fun o o'=>baft (bnew w o) (bnew (w.alloc o) o'))
 obtain ⟨c0,c1,c2,c3,f0,f1,hz⟩:=box2 (w:=w) (a:=.float .f64 x) (b:=.float .f64 y) (c:=.int .u64 (x:Int)) (d:=.int .u64 (y:Int)) (t:=27) (t':=24) (Below.refl _ _)
 go_enter Tryz.func9,Tryz.ntmps9
 go_wp2_with fail
 go_region_with fail
 all_goals
  go_wp2
  refine bodyPost_ret (v:=.agg #[.int .u64 (x:Int),.int .u64 (y:Int)]) (by simp [results,Tryz.results9,go_sem,c2,c3]) rfl ?_
  exact ⟨rfl,(HB.out _ _).drew⟩
set_option maxRecDepth 20000 in
set_option maxHeartbeats 4000000 in
theorem valid6L_any (x y:Nat) (hx:x<18446744073709551616) (hy:y<18446744073709551616) (w:World):Calls Tryz.prog 22 #[.agg #[.int .u64 (x:Int),.int .u64 (y:Int)]] w fun e w'=>e=.returned (.bool (fvalidL x y))∧Below w.heap.size w w':=by
 have HS:=Lib.hid (fun W=>sound6_any x y hx hy W)
 have HE:=Lib.hid (fun W=>empty6_any W)
 have hq:=fun W=>eqlI x y 9218868437227405312 18442240474082181120 W
 have k0:((x:Int)==9218868437227405312)=decide (x=9218868437227405312):=by rw [Bool.eq_iff_iff];simp;omega
 have k1:((y:Int)==18442240474082181120)=decide (y=18442240474082181120):=by rw [Bool.eq_iff_iff];simp;omega
 rw [k0,k1] at hq
 have hbl:=bnew w (.cells #[.int .u64 (x:Int),.int .u64 (y:Int)] 24)
 have HB:=Lib.hid hbl
 obtain ⟨c0,c1,f0,f1,hz⟩:=box1 (w:=w) (a:=.int .u64 (x:Int)) (b:=.int .u64 (y:Int)) (t:=24) (Below.refl _ _)
 obtain ⟨e0,he0⟩:∃e0,(decide (x=9218868437227405312)&&decide (y=18442240474082181120))=e0:=⟨_,rfl⟩
 obtain ⟨r,hr⟩:∃r,fvalidL x y=r:=⟨_,rfl⟩
 rw [hr]
 unfold fvalidL at hr
 rw [he0] at hq hr
 have n1:((x:Int) != 9223372036854775808)=decide (x≠9223372036854775808):=by rw [Bool.eq_iff_iff];simp;omega
 have n2:((y:Int) != 9223372036854775808)=decide (y≠9223372036854775808):=by rw [Bool.eq_iff_iff];simp;omega
 generalize fsound x y=s at *
 generalize decide (x≠9223372036854775808)=bx at *
 generalize decide (y≠9223372036854775808)=bY at *
 clear he0 hbl k0 k1
 have hc:e0=true∨(e0=false∧s=false)∨(e0=false∧s=true∧bx=false)∨(e0=false∧s=true∧bx = !false∧bY=false)∨(e0=false∧s=true∧bx = !false∧bY=true):=by
  cases e0 <;> cases s <;> cases bx <;> cases bY <;> simp
 rcases hc with rfl | ⟨rfl,rfl⟩ | ⟨rfl,rfl,rfl⟩ | ⟨rfl,rfl,rfl,rfl⟩ | ⟨rfl,rfl,rfl,rfl⟩
 all_goals
  simp only [Bool.false_or,Bool.true_or,Bool.not_true,Bool.not_false,Bool.false_and,Bool.true_and,Bool.and_false,Bool.and_true,Bool.and_self] at hr
  subst hr
  go_enter Tryz.func22,Tryz.ntmps22
  go_wp2
  go_region_with (go_at_call 13;(with_reducible refine (HE.out _).mono ?_);rintro en w1 ⟨rfl,hb⟩;have HB1:=Lib.hid (show Below w.heap.size w w1 by first | exact baft HB.out hb | exact baft' HB.out hb);have hz1:w.heap.size<w1.heap.size:=(by have:=hb.size;simp at this;omega);have d0:=(bcell hb w.heap.size 0 (by simp)).trans c0;have d1:=(bcell hb w.heap.size 1 (by simp)).trans c1;clear hb)
 all_goals
  go_wp2_with (go_at_call 12;(with_reducible refine (HS.out _).mono ?_);rintro en w2 ⟨rfl,hb2⟩;have HB1:=Lib.hid (baft HB1.out hb2);have d0:=(bcell hb2 w.heap.size 0 hz1).trans d0;have d1:=(bcell hb2 w.heap.size 1 hz1).trans d1;have hz1:w.heap.size<w2.heap.size:=Nat.lt_of_lt_of_le hz1 hb2.size;clear hb2)
  go_ret
  first | exact ⟨rfl,HB1.out⟩ | exact ⟨rfl,HB1.out.drew⟩
end Go.Proofs.YtlibbociineppaaGreatDoor
