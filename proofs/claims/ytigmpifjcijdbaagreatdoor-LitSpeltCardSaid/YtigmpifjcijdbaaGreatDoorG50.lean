/- Layer 12: memory that a law of literals keeps; Valid and out. -/
import Derived.Test.YtigmpifjcijdbaaGreatDoorG49
import Derived.Test.YtigmpifjcijdbaaGreatDoorG04
section
namespace Go.Proofs.YtigmpifjcijdbaaGreatDoor
set_option linter.unusedVariables false
set_option linter.unusedSimpArgs false
open Go.RowKit Verge Verge.Lit
structure KM (w W:World) (L:List (Nat×Obj)):Prop where
 below:Below w.heap.size w W
 has:∀x∈L,W.heap[x.1]?=some x.2
theorem KM.new (w:World):KM w w []:=⟨Below.refl _ _,fun x hx=>by cases hx⟩
theorem KM.later {w W W':World} {L:List (Nat×Obj)} (h:KM w W L) (hb:Below W.heap.size W W'):KM w W' L:=
 ⟨raft h.below hb,fun x hx=>(hb.block _ (Array.getElem?_eq_some_iff.1 (h.has x hx)).1).trans (h.has x hx)⟩
theorem KM.push {w W:World} {L:List (Nat×Obj)} (h:KM w W L) (o:Obj):KM w (W.alloc o) ((W.heap.size,o)::L):=by
 have hb:=bnew W o
 have h':=h.later (rnew W o)
 refine ⟨h'.below,fun x hx => ?_⟩
 rcases List.mem_cons.1 hx with rfl | hx
 ·exact heap_alloc_new W o
 ·exact h'.has x hx
theorem KM.get {w W:World} {L:List (Nat×Obj)} (h:KM w W L) {b:Nat} {o:Obj} (hm:(b,o)∈L):W.heap[b]?=some o:=h.has (b,o) hm
theorem neqI (a b c d:Int) (w:World):(binOp BinOp.neq 41 (.agg #[.int .u64 a,.int .u64 b]) (.agg #[.int .u64 c,.int .u64 d])).run Tryz.prog w=.ok (.bool !((a==c)&&(b==d))) w:=by
 rw [run_neq_struct,run_equalIn_struct _ _ _ _ _ (by kernel_rfl) (by kernel_rfl)]
 rw [two_fields fields_I (by decide) (by decide) _ _ _ _ _ _ _ _ _ _ (fun W=>(part_u W _ _).1) (fun W=>(part_u W _ _).2) (fun W=>(part_u W _ _).1) (fun W=>(part_u W _ _).2) (fun W=>run_equalIn_int W _ _ _ _ _ _ Tryz.underlying39) (fun W=>run_equalIn_int W _ _ _ _ _ _ Tryz.underlying39)]
 rfl
set_option maxHeartbeats 4000000 in
theorem out12L_any (x y:Nat) (w:World):Calls Tryz.prog 11 #[.agg #[.float .f64 x,.float .f64 y]] w
  fun e w'=>e=.returned (.agg #[.int .u64 (x:Int),.int .u64 (y:Int)])∧Below w.heap.size w w':=by
 have hsf:=store_f
 have hfr:=@bits_any
 have HB:=Lib.hid (fun o o'=>baft (bnew w o) (bnew (w.alloc o) o'))
 obtain ⟨c0,c1,c2,c3,f0,f1,hz⟩:=box2 (w:=w) (a:=.float .f64 x) (b:=.float .f64 y) (c:=.int .u64 (x:Int)) (d:=.int .u64 (y:Int)) (t:=34) (t':=41) (Below.refl _ _)
 go_enter Tryz.func11,Tryz.ntmps11
 go_wp2_with fail
 go_region_with fail
 all_goals
  go_wp2
  refine bodyPost_ret (v:=.agg #[.int .u64 (x:Int),.int .u64 (y:Int)]) (by simp [results,Tryz.results11,go_sem,c2,c3]) rfl ?_
  exact ⟨rfl,(HB.out _ _).drew⟩
set_option maxRecDepth 20000 in
set_option maxHeartbeats 4000000 in
theorem valid6L_any (x y:Nat) (hx:x<18446744073709551616) (hy:y<18446744073709551616) (w:World):Calls Tryz.prog 10 #[.agg #[.int .u64 (x:Int),.int .u64 (y:Int)]] w fun e w'=>e=.returned (.bool (fvalidL x y))∧Below w.heap.size w w':=by
 have HS:=Lib.hid (fun W=>sound6_any x y hx hy W)
 have HE:=Lib.hid (fun W=>empty6_any W)
 have hq:=fun W=>eqlI x y 9218868437227405312 18442240474082181120 W
 have k0:((x:Int)==9218868437227405312)=decide (x=9218868437227405312):=by rw [Bool.eq_iff_iff];simp;omega
 have k1:((y:Int)==18442240474082181120)=decide (y=18442240474082181120):=by rw [Bool.eq_iff_iff];simp;omega
 rw [k0,k1] at hq
 have hbl:=bnew w (.cells #[.int .u64 (x:Int),.int .u64 (y:Int)] 41)
 have HB:=Lib.hid hbl
 obtain ⟨c0,c1,f0,f1,hz⟩:=box1 (w:=w) (a:=.int .u64 (x:Int)) (b:=.int .u64 (y:Int)) (t:=41) (Below.refl _ _)
 obtain ⟨e0,he0⟩:∃e0,(decide (x=9218868437227405312)&&decide (y=18442240474082181120))=e0:=⟨_,rfl⟩
 obtain ⟨r,hr⟩:∃r,fvalidL x y=r:=⟨_,rfl⟩
 rw [hr]
 unfold fvalidL at hr
 rw [he0] at hq hr
 have n1:((x:Int) != 9223372036854775808)=decide (x≠9223372036854775808):=by rw [Bool.eq_iff_iff];simp;omega
 have n2:((y:Int) != 9223372036854775808)=decide (y≠9223372036854775808):=by rw [Bool.eq_iff_iff];simp;omega
 generalize fsound x y=s at *
 generalize decide (x≠9223372036854775808)=bx at *
 generalize decide (y≠9223372036854775808)=bY at *
 clear he0 hbl k0 k1
 have hc:e0=true∨(e0=false∧s=false)∨(e0=false∧s=true∧bx=false)∨(e0=false∧s=true∧bx = !false∧bY=false)∨(e0=false∧s=true∧bx = !false∧bY=true):=by
  cases e0 <;> cases s <;> cases bx <;> cases bY <;> simp
 rcases hc with rfl | ⟨rfl,rfl⟩ | ⟨rfl,rfl,rfl⟩ | ⟨rfl,rfl,rfl,rfl⟩ | ⟨rfl,rfl,rfl,rfl⟩
 all_goals
  simp only [Bool.false_or,Bool.true_or,Bool.not_true,Bool.not_false,Bool.false_and,Bool.true_and,Bool.and_false,Bool.and_true,Bool.and_self] at hr
  subst hr
  go_enter Tryz.func10,Tryz.ntmps10
  go_wp2
  go_region_with (go_at_call 25;(with_reducible refine (HE.out _).mono ?_);rintro en w1 ⟨rfl,hb⟩;have HB1:=Lib.hid (show Below w.heap.size w w1 by first | exact baft HB.out hb | exact baft' HB.out hb);have hz1:w.heap.size<w1.heap.size:=(by have:=hb.size;simp at this;omega);have d0:=(bcell hb w.heap.size 0 (by simp)).trans c0;have d1:=(bcell hb w.heap.size 1 (by simp)).trans c1;clear hb)
 all_goals
  go_wp2_with (go_at_call 26;(with_reducible refine (HS.out _).mono ?_);rintro en w2 ⟨rfl,hb2⟩;have HB1:=Lib.hid (baft HB1.out hb2);have d0:=(bcell hb2 w.heap.size 0 hz1).trans d0;have d1:=(bcell hb2 w.heap.size 1 hz1).trans d1;have hz1:w.heap.size<w2.heap.size:=Nat.lt_of_lt_of_le hz1 hb2.size;clear hb2)
  go_ret
  first | exact ⟨rfl,HB1.out⟩ | exact ⟨rfl,HB1.out.drew⟩
end Go.Proofs.YtigmpifjcijdbaaGreatDoor
end

section
namespace Verge
def upc (c:UInt8):UInt8:=if 97≤c.toNat∧c.toNat≤122 then c - 32 else c
theorem upc_n (c:UInt8):(upc c).toNat=if 97≤c.toNat∧c.toNat≤122 then c.toNat - 32 else c.toNat:=by
 unfold upc
 by_cases h:97≤c.toNat∧c.toNat≤122
 ·rw [if_pos h,if_pos h,UInt8.toNat_sub,show (32:UInt8).toNat=32 from rfl]
  omega
 ·rw [if_neg h,if_neg h]
theorem isD_up (c:UInt8):isD (upc c)=isD c:=by
 unfold isD
 refine decide_eq_decide.2 ?_
 rw [upc_n];split <;> omega
theorem isX_up (c:UInt8):isX (upc c)=isX c:=by
 rw [Bool.eq_iff_iff]
 unfold isX
 rw [isD_up]
 simp only [Bool.or_eq_true,decide_eq_true_eq]
 rw [upc_n]
 generalize isD c=b
 split <;> · constructor <;> (intro h;rcases h with (h | h) | h <;> first | exact .inl (.inl h) | (right;omega) | (left;right;omega) | (exfalso;omega))
theorem dvl_up (c:UInt8):dvl (upc c)=dvl c:=by
 unfold dvl
 rw [upc_n]
 split <;> (repeat' split) <;> omega
theorem up_46 (c:UInt8):(upc c).toNat=46↔c.toNat=46:=by rw [upc_n];split <;> omega
theorem up_45 (c:UInt8):(upc c).toNat=45↔c.toNat=45:=by rw [upc_n];split <;> omega
theorem up_43 (c:UInt8):(upc c).toNat=43↔c.toNat=43:=by rw [upc_n];split <;> omega
theorem up_48 (c:UInt8):(upc c).toNat=48↔c.toNat=48:=by rw [upc_n];split <;> omega
theorem up_47 (c:UInt8):(upc c).toNat=47↔c.toNat=47:=by rw [upc_n];split <;> omega
theorem up_x (c:UInt8):((upc c).toNat=120∨(upc c).toNat=88)↔(c.toNat=120∨c.toNat=88):=by rw [upc_n];split <;> omega
theorem up_e (c:UInt8):((upc c).toNat=101∨(upc c).toNat=69)↔(c.toNat=101∨c.toNat=69):=by rw [upc_n];split <;> omega
theorem up_p (c:UInt8):((upc c).toNat=112∨(upc c).toNat=80)↔(c.toNat=112∨c.toNat=80):=by rw [upc_n];split <;> omega
theorem tw_up {p:UInt8→Bool} (hp:∀c,p (upc c)=p c) (l:List UInt8):(l.map upc).takeWhile p=(l.takeWhile p).map upc∧(l.map upc).dropWhile p=(l.dropWhile p).map upc:=by
 induction l with
 | nil=>exact ⟨rfl,rfl⟩
 | cons c l ih =>
  rw [List.map_cons]
  by_cases h:p c=true
  ·have h':p (upc c)=true:=(hp c).trans h
   rw [List.takeWhile_cons_of_pos h',List.dropWhile_cons_of_pos h',List.takeWhile_cons_of_pos h,List.dropWhile_cons_of_pos h,ih.1,ih.2,List.map_cons]
   exact ⟨rfl,rfl⟩
  ·have h':¬p (upc c)=true:=fun g=>h ((hp c).symm.trans g)
   rw [List.takeWhile_cons_of_neg h',List.dropWhile_cons_of_neg h',List.takeWhile_cons_of_neg h,List.dropWhile_cons_of_neg h,List.map_cons]
   exact ⟨rfl,rfl⟩
theorem map_nil (l:List UInt8):l.map upc=[]↔l=[]:=List.map_eq_nil_iff
theorem sg_up (l:List UInt8):sg (l.map upc)=((sg l).1,(sg l).2.map upc):=by
 cases l with
 | nil=>rfl
 | cons c r =>
  have e:∀(c:UInt8) (r:List UInt8),sg (c::r)=if c.toNat=45 then (true,r) else if c.toNat=43 then (false,r) else (false,c::r):=fun _ _=>rfl
  rw [List.map_cons,e,e]
  by_cases h1:c.toNat=45
  ·rw [if_pos h1,if_pos ((up_45 c).2 h1)]
  ·rw [if_neg h1,if_neg (fun g=>h1 ((up_45 c).1 g))]
   by_cases h2:c.toNat=43
   ·rw [if_pos h2,if_pos ((up_43 c).2 h2)]
   ·rw [if_neg h2,if_neg (fun g=>h2 ((up_43 c).1 g))];rfl
def up3 (x:List UInt8×Option (List UInt8)×List UInt8):List UInt8×Option (List UInt8)×List UInt8:=(x.1.map upc,x.2.1.map (List.map upc),x.2.2.map upc)
theorem ptd_up {p:UInt8→Bool} (hp:∀c,p (upc c)=p c) (l:List UInt8):ptd p (l.map upc)=(ptd p l).map up3:=by
 unfold ptd
 rw [(tw_up hp l).1,(tw_up hp l).2]
 cases hd:l.dropWhile p with
 | nil =>
  rw [List.map_nil]
  dsimp only
  by_cases h:l.takeWhile p=[]
  ·rw [if_pos h,if_pos ((map_nil _).2 h)];rfl
  ·rw [if_neg h,if_neg (fun g=>h ((map_nil _).1 g))];rfl
 | cons c r =>
  rw [List.map_cons]
  dsimp only
  rw [(tw_up hp r).1,(tw_up hp r).2]
  by_cases h1:c.toNat=46
  ·rw [if_pos h1,if_pos ((up_46 c).2 h1)]
   by_cases h:l.takeWhile p=[]∧r.takeWhile p=[]
   ·rw [if_pos h,if_pos ⟨(map_nil _).2 h.1,(map_nil _).2 h.2⟩,List.length_map];rfl
   ·rw [if_neg h,if_neg (fun g=>h ⟨(map_nil _).1 g.1,(map_nil _).1 g.2⟩)];rfl
  ·rw [if_neg h1,if_neg (fun g=>h1 ((up_46 c).1 g))]
   by_cases h:l.takeWhile p=[]
   ·rw [if_pos h,if_pos ((map_nil _).2 h),←List.map_cons,List.length_map];rfl
   ·rw [if_neg h,if_neg (fun g=>h ((map_nil _).1 g))];rfl
theorem xpo_up (l:List UInt8):xpo (l.map upc)=(xpo l).map (List.map upc):=by
 unfold xpo
 rw [sg_up]
 dsimp only
 rw [(tw_up isD_up _).1,(tw_up isD_up _).2]
 by_cases h:(sg l).2.takeWhile isD=[]∨(sg l).2.dropWhile isD≠[]
 ·rw [if_pos h,if_pos (h.imp (map_nil _).2 (fun g e=>g ((map_nil _).1 e))),List.length_map];rfl
 ·rw [if_neg h,if_neg (fun g=>h (g.imp (map_nil _).1 (fun g e=>g ((map_nil _).2 e))))];rfl
def Pc.up:Pc→Pc
 | .hx a b e=>.hx (a.map upc) (b.map (List.map upc)) (e.map upc)
 | .fr a d=>.fr (a.map upc) (d.map upc)
 | .dc a b e=>.dc (a.map upc) (b.map (List.map upc)) (e.map (List.map upc))
theorem cutH_up (l:List UInt8):cutH (l.map upc)=(cutH l).map Pc.up:=by
 unfold cutH
 rw [ptd_up isX_up]
 cases h:ptd isX l with
 | error k=>rfl
 | ok x =>
  obtain ⟨a,b,c⟩:=x
  cases c with
  | nil=>rfl
  | cons c r =>
   simp only [Except.map,up3,List.map_cons]
   by_cases hc:c.toNat=112∨c.toNat=80
   ·rw [if_pos ((up_p c).2 hc),xpo_up,if_pos hc]
    cases xpo r <;> rfl
   ·rw [if_neg (fun g=>hc ((up_p c).1 g)),if_neg hc,List.length_cons,List.length_map];rfl
theorem cutD_up (l:List UInt8):cutD (l.map upc)=(cutD l).map Pc.up:=by
 unfold cutD
 rw [ptd_up isD_up]
 cases h:ptd isD l with
 | error k=>rfl
 | ok x =>
  obtain ⟨a,b,c⟩:=x
  cases c with
  | nil=>rfl
  | cons c r =>
   simp only [Except.map,up3,List.map_cons]
   rw [(tw_up isD_up r).1,(tw_up isD_up r).2]
   have hb:b.map (List.map upc)=none↔b=none:=by cases b <;> simp
   by_cases h1:b=none∧c.toNat=47
   ·rw [if_pos h1,if_pos ⟨hb.2 h1.1,(up_47 c).2 h1.2⟩]
    by_cases h:r.takeWhile isD=[]∨r.dropWhile isD≠[]
    ·rw [if_pos h,if_pos (h.imp (map_nil _).2 (fun g e=>g ((map_nil _).1 e))),List.length_map]
    ·rw [if_neg h,if_neg (fun g=>h (g.imp (map_nil _).1 (fun g e=>g ((map_nil _).2 e))))];rfl
   ·rw [if_neg h1,if_neg (fun g=>h1 ⟨hb.1 g.1,(up_47 c).1 g.2⟩)]
    by_cases hc:c.toNat=101∨c.toNat=69
    ·rw [if_pos ((up_e c).2 hc),xpo_up,if_pos hc]
     cases xpo r <;> rfl
    ·rw [if_neg (fun g=>hc ((up_e c).1 g)),if_neg hc,List.length_cons,List.length_map];rfl
theorem hexy_up (l:List UInt8):hexy (l.map upc)=(hexy l).map (List.map upc):=by
 match l with
 | []=>rfl
 | [c]=>rfl
 | c::x::r =>
  show (if (upc c).toNat=48∧((upc x).toNat=120∨(upc x).toNat=88) then some (r.map upc) else none)=Option.map (List.map upc) (if c.toNat=48∧(x.toNat=120∨x.toNat=88) then some r else none)
  by_cases h:c.toNat=48∧(x.toNat=120∨x.toNat=88)
  ·rw [if_pos h,if_pos ⟨(up_48 c).2 h.1,(up_x x).2 h.2⟩];rfl
  ·rw [if_neg h,if_neg (fun g=>h ⟨(up_48 c).1 g.1,(up_x x).1 g.2⟩)];rfl
theorem cut_up (l:List UInt8):cut (l.map upc)=(cut l).map fun x=>(x.1,x.2.up):=by
 unfold cut
 rw [sg_up]
 dsimp only
 rw [hexy_up]
 cases hexy (sg l).2 with
 | none =>
  dsimp only [Option.map_none]
  rw [cutD_up]
  cases cutD (sg l).2 <;> rfl
 | some r =>
  dsimp only [Option.map_some]
  rw [cutH_up]
  cases cutH r <;> rfl
theorem numB_up (b:Nat) (l:List UInt8):numB b (l.map upc)=numB b l:=by
 unfold numB
 rw [List.foldl_map]
 congr 1
 funext a c
 rw [dvl_up]
theorem ob_up (b:Option (List UInt8)):ob (b.map (List.map upc))=(ob b).map upc:=by cases b <;> rfl
theorem xvl_up (e:List UInt8):xvl (e.map upc)=xvl e:=by
 unfold xvl
 rw [sg_up]
 dsimp only
 rw [numB_up]
theorem late_up (p:Pc):p.up.late=p.late:=by
 cases p with
 | hx a b e =>
  show (if 9999<numB 10 (sg (e.map upc)).2 then some ((sg (e.map upc)).2.length,(51:Int)) else none)=(if 9999<numB 10 (sg e).2 then some ((sg e).2.length,(51:Int)) else none)
  rw [sg_up]
  dsimp only
  rw [numB_up,List.length_map]
 | fr a d =>
  show (if numB 10 (d.map upc)=0 then some ((d.map upc).length,(50:Int)) else none)=(if numB 10 d=0 then some (d.length,(50:Int)) else none)
  rw [numB_up,List.length_map]
 | dc a b e =>
  cases e with
  | none=>rfl
  | some e =>
   show (if 9999<numB 10 (sg (e.map upc)).2 then some ((sg (e.map upc)).2.length,(51:Int)) else none)=(if 9999<numB 10 (sg e).2 then some ((sg e).2.length,(51:Int)) else none)
   rw [sg_up]
   dsimp only
   rw [numB_up,List.length_map]
theorem ten_up (b e:Option (List UInt8)):Pc.ten (b.map (List.map upc)) (e.map (List.map upc))=Pc.ten b e:=by
 unfold Pc.ten
 rw [ob_up,List.length_map]
 cases e with
 | none=>rfl
 | some e =>
  show xvl (e.map upc) - _=xvl e - _
  rw [xvl_up]
theorem pc_up (p:Pc):p.up.num=p.num∧p.up.den=p.den∧p.up.two=p.two:=by
 cases p with
 | hx a b e =>
  refine ⟨?_,rfl,?_⟩
  ·show numB 16 (a.map upc++ob (b.map (List.map upc)))=numB 16 (a++ob b)
   rw [ob_up,←List.map_append,numB_up]
  ·show xvl (e.map upc) - 4*((ob (b.map (List.map upc))).length:Int)=xvl e - 4*((ob b).length:Int)
   rw [ob_up,List.length_map,xvl_up]
 | fr a d=>exact ⟨numB_up 10 a,numB_up 10 d,rfl⟩
 | dc a b e =>
  refine ⟨?_,?_,rfl⟩
  ·show numB 10 (a.map upc++ob (b.map (List.map upc)))*10^(Pc.ten (b.map (List.map upc)) (e.map (List.map upc))).toNat=numB 10 (a++ob b)*10^(Pc.ten b e).toNat
   rw [ob_up,←List.map_append,numB_up,ten_up]
  ·show 10^(-Pc.ten (b.map (List.map upc)) (e.map (List.map upc))).toNat=10^(-Pc.ten b e).toNat
   rw [ten_up]
theorem scn_up (l:List UInt8):scn (l.map upc)=scn l:=by
 unfold scn
 rw [List.length_map,cut_up]
 split
 ·rfl
 ·cases cut l with
  | error k=>rfl
  | ok x =>
   obtain ⟨n,p⟩:=x
   obtain ⟨h1,h2,h3⟩:=pc_up p
   simp only [Except.map]
   rw [late_up,h1,h2,h3]
end Verge
end

section
namespace Go.Proofs.YtigmpifjcijdbaaGreatDoor
set_option linter.unusedVariables false
set_option linter.unusedSimpArgs false
open Go.RowKit Verge Verge.Lit
def blC (i:Nat):UInt8:=if i%4=0 then 32 else if i%4=1 then 9 else if i%4=2 then 10 else 13
def blT:Nat→List UInt8
 | 0=>[]
 | n+1=>blT n++[blC n]
theorem blT_all:∀n,AllB (blT n)
 | 0=>nil_bl
 | n+1=>fun c hc=>by
  rcases List.mem_append.1 hc with h | h
  ·exact blT_all n c h
  ·rw [List.mem_singleton] at h
   subst h
   unfold blC
   repeat' split
   all_goals decide
theorem blT_len:∀n,(blT n).length=n
 | 0=>rfl
 | n+1=>by
  show (blT n++[blC n]).length=_
  rw [List.length_append,blT_len n];rfl
theorem bra_emp {w:List UInt8} (hw:w=[]∨w=[101,109,112,116,121]∨w=[101,77,80,84,89]) {b1 b2:List UInt8} (h1:AllB b1) (h2:AllB b2):braL false (b1++(w++(b2++[93])))=.ok (.emp,[]):=by
 have h93:(b2++[93]).dropWhile blk=[93]:=by rw [drop_bl h2];decide
 unfold braL
 rw [drop_bl h1]
 rcases hw with rfl | rfl | rfl
 ·rw [List.nil_append,h93];rfl
 ·have hd:(([101,109,112,116,121]:List UInt8)++(b2++[93])).dropWhile blk=[101,109,112,116,121]++(b2++[93]):=List.dropWhile_cons_of_neg (by decide)
  have he:eeL ([101,109,112,116,121]++(b2++[93]))=.ok (true,b2++[93]):=rfl
  rw [hd]
  unfold braL1
  rw [if_neg (show ¬pk ([101,109,112,116,121]++(b2++[93]))=93 by show ¬lo 101=93;decide),if_pos (show pk ([101,109,112,116,121]++(b2++[93]))=101 from rfl),he,bind_ok]
  dsimp only
  rw [h93];rfl
 ·have hd:(([101,77,80,84,89]:List UInt8)++(b2++[93])).dropWhile blk=[101,77,80,84,89]++(b2++[93]):=List.dropWhile_cons_of_neg (by decide)
  have he:eeL ([101,77,80,84,89]++(b2++[93]))=.ok (true,b2++[93]):=rfl
  rw [hd]
  unfold braL1
  rw [if_neg (show ¬pk ([101,77,80,84,89]++(b2++[93]))=93 by show ¬lo 101=93;decide),if_pos (show pk ([101,77,80,84,89]++(b2++[93]))=101 from rfl),he,bind_ok]
  dsimp only
  rw [h93];rfl
theorem bra_ent {w:List UInt8} (hw:w=[101,110,116,105,114,101]∨w=[69,78,84,73,82,69]) {b2:List UInt8} (h2:AllB b2):braL false (w++(b2++[93]))=.ok (.ent,[]):=by
 have h93:(b2++[93]).dropWhile blk=[93]:=by rw [drop_bl h2];decide
 unfold braL
 rcases hw with rfl | rfl
 ·have hd:(([101,110,116,105,114,101]:List UInt8)++(b2++[93])).dropWhile blk=[101,110,116,105,114,101]++(b2++[93]):=List.dropWhile_cons_of_neg (by decide)
  have he:eeL ([101,110,116,105,114,101]++(b2++[93]))=.ok (false,b2++[93]):=rfl
  rw [hd]
  unfold braL1
  rw [if_neg (show ¬pk ([101,110,116,105,114,101]++(b2++[93]))=93 by show ¬lo 101=93;decide),if_pos (show pk ([101,110,116,105,114,101]++(b2++[93]))=101 from rfl),he,bind_ok]
  dsimp only
  rw [h93];rfl
 ·have hd:(([69,78,84,73,82,69]:List UInt8)++(b2++[93])).dropWhile blk=[69,78,84,73,82,69]++(b2++[93]):=List.dropWhile_cons_of_neg (by decide)
  have he:eeL ([69,78,84,73,82,69]++(b2++[93]))=.ok (false,b2++[93]):=rfl
  rw [hd]
  unfold braL1
  rw [if_neg (show ¬pk ([69,78,84,73,82,69]++(b2++[93]))=93 by show ¬lo 69=93;decide),if_pos (show pk ([69,78,84,73,82,69]++(b2++[93]))=101 from rfl),he,bind_ok]
  dsimp only
  rw [h93];rfl
theorem rd_emp {r:List UInt8} (hr:braL false r=.ok (.emp,[])) (hl:r.length≤4000):litRd (91::r)=((9218868437227405312,18442240474082181120),0,0):=by
 rw [litRd_bra hr (by omega) rfl]
 rfl
theorem rd_ent {r:List UInt8} (hr:braL false r=.ok (.ent,[])) (hl:r.length≤4000):litRd (91::r)=((18442240474082181120,9218868437227405312),0,0):=by
 rw [litRd_bra hr (by omega) rfl]
 rfl
theorem rng_du (N D:Nat):rng (-1) false N D≤9218868437227405311∧rng 1 true N D≤9218868437227405311∧rng (-1) false N D≤rng 1 false N D∧rng 1 true N D≤rng (-1) true N D:=by
 have hA:fl (N / D)≤rngA N D:=by unfold rngA;split <;> omega
 have e1:rng (-1) false N D=min (fl (N / D)) 9218868437227405311:=rfl
 have e2:rng 1 true N D=min (fl (N / D)) 9218868437227405311:=rfl
 have e3:rng 1 false N D=min (rngA N D) 9218868437227405312:=rfl
 have e4:rng (-1) true N D=min (rngA N D) 9218868437227405312:=rfl
 rw [e1,e2,e3,e4]
 omega
theorem ord_du (x:Bool×Nat×Nat×Int):FK (ordP (-1) x)≤FK (ordP 1 x)∧FK (ordP (-1) x)<9218868437227405312 ∧ -9218868437227405312<FK (ordP 1 x):=by
 unfold ordP
 rw [FK_fpat (rng_top _ _ _ _),FK_fpat (rng_top _ _ _ _)]
 generalize x.2.1*2^x.2.2.2.toNat*2^KU=A
 generalize x.2.2.1*2^(-x.2.2.2).toNat=B
 obtain ⟨g1,g2,g3,g4⟩:=rng_du A B
 cases x.1
 ·simp only [Bool.false_eq_true,if_false];omega
 ·simp only [if_true];omega
def VEnds (a b:Nat):Prop:=a<18446744073709551616∧b<18446744073709551616∧fvalidL a b=true
theorem vends_of {a b:Nat} (ha:a<18446744073709551616) (hb:b<18446744073709551616) (na:¬fnan a) (nb:¬fnan b) (za:a≠9223372036854775808) (zb:b≠9223372036854775808) (h1:FK a≤FK b) (h2:FK a<9218868437227405312) (h3 : -9218868437227405312<FK b):VEnds a b:=by
 refine ⟨ha,hb,?_⟩
 have hs:fsound a b=true:=decide_eq_true ⟨na,nb,h1,h2,h3⟩
 unfold fvalidL
 rw [hs,decide_eq_true za,decide_eq_true zb];simp
theorem vends_two {x y:Bool×Nat×Nat×Int} (hx:0<x.2.2.1) (hy:0<y.2.2.1) (ho:ordS x y≤0):VEnds (ordP (-1) x) (ordP 1 y):=by
 have k1:=(ord_du x).1
 have k2:FK (ordP 1 x)≤FK (ordP 1 y):=by
  rcases ord_law 1 hx hy with h | h | h
  ·exact h.2.2
  ·rw [h.2.2];exact Int.le_refl _
  ·omega
 exact vends_of (ordP_ok _ _).1 (ordP_ok _ _).1 (ordP_ok _ _).2.1 (ordP_ok _ _).2.1 (ordP_ok _ _).2.2 (ordP_ok _ _).2.2 (Int.le_trans k1 k2) (ord_du x).2.1 (ord_du y).2.2
theorem lt_inf {k:Int} (h:k<9218868437227405312):k≤FK 9218868437227405312:=by
 rw [show FK 9218868437227405312=9218868437227405312 by decide];omega
theorem inf_lt {k:Int} (h : -9218868437227405312<k):FK 18442240474082181120≤k:=by
 rw [show FK 18442240474082181120 = -9218868437227405312 by decide];omega
theorem vends_lo (x:Bool×Nat×Nat×Int):VEnds (ordP (-1) x) 9218868437227405312:=
 vends_of (ordP_ok _ _).1 (by omega) (ordP_ok _ _).2.1 (by decide) (ordP_ok _ _).2.2 (by omega) (lt_inf (ord_du x).2.1) (ord_du x).2.1 (by decide)
theorem vends_hi (x:Bool×Nat×Nat×Int):VEnds 18442240474082181120 (ordP 1 x):=
 vends_of (by omega) (ordP_ok _ _).1 (by decide) (ordP_ok _ _).2.1 (by omega) (ordP_ok _ _).2.2 (inf_lt (ord_du x).2.2) (by decide) (ord_du x).2.2
theorem vends_emp:VEnds 9218868437227405312 18442240474082181120:=⟨by omega,by omega,by unfold fvalidL;simp⟩
theorem vends_ent:VEnds 18442240474082181120 9218868437227405312:=vends_of (by omega) (by omega) (by decide) (by decide) (by omega) (by omega) (by decide) (by decide) (by decide)
def spRows (p q:List UInt8) (n:Nat):List (List (List UInt8)):=
  [[[91]++p++[44]++q++[93],[91]++blT n++p++blT 3++[44]++blT n++q++blT 1++[93],[91]++p.map upc++[44,32]++q.map upc++[93]],
   [[91]++p++[44,93],[91]++p++[44,32,105,110,102,93],[91]++p++[44,43,73,78,70,73,78,73,84,89]++blT n++[93],[91]++p++blT n++[44,32]++[43,105,110,102,93]],
   [[91,44]++q++[93],[91,45,105,110,102,44]++q++[93],[91]++blT n++[45,73,110,102,105,110,105,116,121]++blT n++[44]++q++[93]],
   [[91]++p++[93],[91]++blT n++p++blT n++[93],[91]++p++[44]++p++[93]],
   [[91,93],[91]++blT n++[93],[91,101,109,112,116,121]++blT n++[93],[91]++blT n++[101,77,80,84,89,93]],
   [[91,101,110,116,105,114,101,93],[91,44,93],[91]++blT n++[44]++blT n++[93],[91,45,105,110,102,44,105,110,102,93],[91,69,78,84,73,82,69]++blT n++[93]]]
def RowOk (row:List (List UInt8)):Prop:=0<row.length∧row.length≤5∧∃a b:Nat,VEnds a b∧∀t∈row,litRd t=((a,b),0,0)∧t.length≤5000
theorem inf_W:InfW [73,78,70,73,78,73,84,89]:=.inr (.inl rfl)
theorem inf_i:InfW [73,110,102,105,110,105,116,121]:=.inr (.inr rfl)
theorem sp_law {p q:List UInt8} {x y:Bool×Nat×Nat×Int} (hp:scn p=.ok x) (hq:scn q=.ok y) (ho:ordS x y≤0) (lp:p.length≤1500) (lq:q.length≤1500) {n:Nat} (hn:n≤15) :
  ∀row∈spRows p q n,RowOk row:=by
 obtain ⟨xp,hcp,hnp⟩:=scn_cuts hp
 obtain ⟨xq,hcq,hnq⟩:=scn_cuts hq
 have hpu:scn (p.map upc)=.ok x:=by rw [scn_up];exact hp
 have hqu:scn (q.map upc)=.ok y:=by rw [scn_up];exact hq
 have hb:=blT_all n
 have hbl:=blT_len n
 have b3:=blT_all 3
 have b1:=blT_all 1
 have l3:=blT_len 3
 have l1:=blT_len 1
 have px:=(scn_bd hp).2.2.1
 have py:=(scn_bd hq).2.2.1
 have ep:=readS_of hp (-1)
 have ep1:=readS_of hp 1
 have eq:=readS_of hq 1
 have lpu:(p.map upc).length=p.length:=List.length_map _
 have lqu:(q.map upc).length=q.length:=List.length_map _
 have epu:=readS_of hpu (-1)
 have equ:=readS_of hqu 1
 intro row hrow
 unfold spRows at hrow
 generalize blT n=b at *
 generalize blT 3=c at *
 generalize blT 1=d at *
 generalize p.map upc=P at *
 generalize q.map upc=Q at *
 simp only [List.mem_cons,List.not_mem_nil,or_false] at hrow
 have LEN:∀r:List UInt8,r.length≤4000→(91::r).length≤5000:=fun r h=>by rw [List.length_cons];omega
 rcases hrow with rfl | rfl | rfl | rfl | rfl | rfl
 ·refine ⟨by simp,by simp,_,_,vends_two px py ho,fun t ht => ?_⟩
  simp only [List.mem_cons,List.not_mem_nil,or_false] at ht
  rcases ht with rfl | rfl | rfl
  ·have h:=rd_two hp hq ho nil_bl nil_bl nil_bl nil_bl (by simp;omega)
   rw [ep,eq] at h
   exact ⟨(congrArg litRd (by simp)).trans h,by simp;omega⟩
  ·have h:=rd_two hp hq ho hb b3 hb b1 (by omega)
   rw [ep,eq] at h
   exact ⟨(congrArg litRd (by simp)).trans h,by simp;omega⟩
  ·have h:=rd_two hpu hqu ho nil_bl nil_bl one_bl nil_bl (by simp;omega)
   rw [epu,equ] at h
   exact ⟨(congrArg litRd (by simp)).trans h,by simp;omega⟩
 ·refine ⟨by simp,by simp,_,_,vends_lo x,fun t ht => ?_⟩
  simp only [List.mem_cons,List.not_mem_nil,or_false] at ht
  rcases ht with rfl | rfl | rfl | rfl
  ·have h:=rd_low hp nil_bl nil_bl (upp_no nil_bl) (by simp;omega)
   rw [ep] at h
   exact ⟨(congrArg litRd (by simp)).trans h,by simp;omega⟩
  ·have h:=rd_low hp nil_bl nil_bl (upp_inf inf_w false one_bl nil_bl) (by simp;omega)
   rw [ep] at h
   exact ⟨(congrArg litRd (by simp)).trans h,by simp;omega⟩
  ·have h:=rd_low hp nil_bl nil_bl (upp_inf inf_W true nil_bl hb) (by simp;omega)
   rw [ep] at h
   exact ⟨(congrArg litRd (by simp)).trans h,by simp;omega⟩
  ·have h:=rd_low hp nil_bl hb (upp_inf inf_w true one_bl nil_bl) (by simp;omega)
   rw [ep] at h
   exact ⟨(congrArg litRd (by simp)).trans h,by simp;omega⟩
 ·refine ⟨by simp,by simp,_,_,vends_hi y,fun t ht => ?_⟩
  simp only [List.mem_cons,List.not_mem_nil,or_false] at ht
  rcases ht with rfl | rfl | rfl
  ·have h:=rd_upp hq (bra_no nil_bl (upp_num hcq nil_bl nil_bl)) (by simp;omega)
   rw [eq] at h
   exact ⟨(congrArg litRd (by simp)).trans h,by simp;omega⟩
  ·have h:=rd_upp hq (bra_inf inf_w nil_bl nil_bl (upp_num hcq nil_bl nil_bl)) (by simp;omega)
   rw [eq] at h
   exact ⟨(congrArg litRd (by simp)).trans h,by simp;omega⟩
  ·have h:=rd_upp hq (bra_inf inf_i hb hb (upp_num hcq nil_bl nil_bl)) (by simp;omega)
   rw [eq] at h
   exact ⟨(congrArg litRd (by simp)).trans h,by simp;omega⟩
 ·refine ⟨by simp,by simp,_,_,vends_two px px (Int.le_of_eq (ordS_self x)),fun t ht => ?_⟩
  simp only [List.mem_cons,List.not_mem_nil,or_false] at ht
  rcases ht with rfl | rfl | rfl
  ·have h:=rd_one hp nil_bl nil_bl (by simp;omega)
   rw [ep,ep1] at h
   exact ⟨(congrArg litRd (by simp)).trans h,by simp;omega⟩
  ·have h:=rd_one hp hb hb (by omega)
   rw [ep,ep1] at h
   exact ⟨(congrArg litRd (by simp)).trans h,by simp;omega⟩
  ·have h:=rd_two hp hp (Int.le_of_eq (ordS_self x)) nil_bl nil_bl nil_bl nil_bl (by simp;omega)
   rw [ep,ep1] at h
   exact ⟨(congrArg litRd (by simp)).trans h,by simp;omega⟩
 ·refine ⟨by simp,by simp,_,_,vends_emp,fun t ht => ?_⟩
  simp only [List.mem_cons,List.not_mem_nil,or_false] at ht
  rcases ht with rfl | rfl | rfl | rfl
  ·exact ⟨(congrArg litRd (by simp)).trans (rd_emp (bra_emp (w:=[]) (.inl rfl) nil_bl nil_bl) (by simp)),by simp⟩
  ·exact ⟨(congrArg litRd (by simp)).trans (rd_emp (bra_emp (w:=[]) (.inl rfl) hb nil_bl) (by simp;omega)),by simp;omega⟩
  ·exact ⟨(congrArg litRd (by simp)).trans (rd_emp (bra_emp (.inr (.inl rfl)) nil_bl hb) (by simp;omega)),by simp;omega⟩
  ·exact ⟨(congrArg litRd (by simp)).trans (rd_emp (bra_emp (.inr (.inr rfl)) hb nil_bl) (by simp;omega)),by simp;omega⟩
 ·refine ⟨by simp,by simp,_,_,vends_ent,fun t ht => ?_⟩
  simp only [List.mem_cons,List.not_mem_nil,or_false] at ht
  rcases ht with rfl | rfl | rfl | rfl | rfl
  ·exact ⟨(congrArg litRd (by simp)).trans (rd_ent (bra_ent (.inl rfl) nil_bl) (by simp)),by simp⟩
  ·exact ⟨(congrArg litRd (by simp)).trans (rd_all (bra_no nil_bl (upp_no nil_bl)) (by simp)),by simp⟩
  ·exact ⟨(congrArg litRd (by simp)).trans (rd_all (bra_no hb (upp_no hb)) (by simp;omega)),by simp;omega⟩
  ·exact ⟨(congrArg litRd (by simp)).trans (rd_all (bra_inf inf_w nil_bl nil_bl (upp_inf inf_w false nil_bl nil_bl)) (by simp)),by simp⟩
  ·exact ⟨(congrArg litRd (by simp)).trans (rd_ent (bra_ent (.inr rfl) hb) (by simp;omega)),by simp;omega⟩
end Go.Proofs.YtigmpifjcijdbaaGreatDoor
end
