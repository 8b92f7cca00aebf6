/- Words on memory for lists of 32-bit words: a slice that reads as a list, a block that is known whole, an answer in new memory. -/
import Derived.Test.YtigmpifjcijdbaaGreatDoorRows
import Derived.Test.YtigmpifjcijdbaaGreatDoorG01
import Derived.WalkKit
import Derived.WalkSpells
import Derived.WalkLawsBesides
import Derived.Lib.Hide
import Derived.BigQuiet
import Derived.Deep.QuietTactic
import Derived.Deep.LoopGhost
import Derived.Laws.CopyOwn
import Derived.Deep.DeepCutAuto
namespace Go.Proofs.YtigmpifjcijdbaaGreatDoor
set_option linter.unusedVariables false
set_option linter.unusedSimpArgs false
open Go.RowKit Verge
theorem ret_int {k:IntKind} {a b:Int} (h:a=b):Ending.returned (.int k a)=.returned (.int k b):=by rw [h]
def u32s (xs:List Nat):List Value:=xs.map fun (x:Nat)=>Value.int .u32 (x:Int)
theorem u32s_get (xs:List Nat) (k:Nat):(u32s xs)[k]?=(xs[k]?).map fun (x:Nat)=>Value.int .u32 (x:Int):=by simp [u32s]
theorem u32s_length (xs:List Nat):(u32s xs).length=xs.length:=by simp [u32s]
theorem u32s_take (xs:List Nat) (k:Nat):u32s (xs.take k)=(u32s xs).take k:=by simp [u32s,List.map_take]
def Rd (w:World) (A:Option Addr) (xs:List Nat):Prop:=
 W32 xs∧(xs≠[]→∃b o,A=some ⟨b,o,none⟩∧∀(k x:Nat),xs[k]?=some x→w.cell? ⟨b,o+k,none⟩=some (.int .u32 (x:Int)))
def Blk (w:World) (g:Nat) (xs:List Nat):Prop:=W32 xs∧w.heap[g]?=some (.cells (u32s xs).toArray 52 (0,0))
def Own (w:World) (g:Nat) (A:Option Addr) (xs:List Nat):Prop:=
 W32 xs∧(xs≠[]→A=some ⟨g,0,none⟩∧∃cs:Array Value,w.heap[g]?=some (.cells cs 52 (0,0))∧cs.toList.take xs.length=u32s xs)
theorem bcell {B:Nat} {W w1:World} (hb:Below B W w1):∀b o,b<B→w1.cell? ⟨b,o,none⟩=W.cell? ⟨b,o,none⟩:=
 fun b o h=>hb.cell (p:=⟨b,o,none⟩) h
theorem lt_of_cell {w:World} {b o:Nat} {v:Value} (h:w.cell? ⟨b,o,none⟩=some v):b<w.heap.size:=World.block_lt_of_cell? w ⟨b,o,none⟩ h
section
variable {w w':World} {A:Option Addr} {xs:List Nat} {g:Nat}
theorem Rd.nil:Rd w A []:=⟨W32.nil,fun h=>absurd rfl h⟩
theorem Rd.keep (h:Rd w A xs) (hk:∀b o,b<w.heap.size→w'.cell? ⟨b,o,none⟩=w.cell? ⟨b,o,none⟩):Rd w' A xs:=
 ⟨h.1,fun hn=>by
  obtain ⟨b,o,e,hc⟩:=h.2 hn
  exact ⟨b,o,e,fun k x hx=>(hk b _ (lt_of_cell (hc k x hx))).trans (hc k x hx)⟩⟩
theorem Rd.below (h:Rd w A xs) (hb:Below w.heap.size w w'):Rd w' A xs:=h.keep (bcell hb)
theorem Rd.drewN (h:Rd w A xs) (n:Nat):Rd (w.drewN n) A xs:=h
theorem Rd.take (h:Rd w A xs) (k:Nat):Rd w A (xs.take k):=
 ⟨h.1.take k,fun hn=>by
  obtain ⟨b,o,e,hc⟩:=h.2 (by rintro rfl;simp at hn)
  refine ⟨b,o,e,fun j x hx=>hc j x ?_⟩
  rw [List.getElem?_take] at hx
  split at hx
  ·exact hx
  ·cases hx⟩
def cutA (A:Option Addr) (c l:Nat):Option Addr:=if c=l then A else A.map (·.add l)
theorem add_none (b o l:Nat):(⟨b,o,none⟩:Addr).add l=⟨b,o+l,none⟩:=by
 unfold Addr.add;split <;> simp_all
theorem Rd.cut (h:Rd w A xs) {c l:Nat} (hc:xs.length≤c):Rd w (cutA A c l) (xs.drop l):=
 ⟨h.1.drop l,fun hn=>by
  have hl:l<xs.length:=by
   rcases Nat.lt_or_ge l xs.length with h' | h'
   ·exact h'
   ·exact absurd (List.drop_of_length_le h') hn
  obtain ⟨b,o,e,hcell⟩:=h.2 (by rintro rfl;simp at hn)
  subst e
  refine ⟨b,o+l,by rw [cutA,if_neg (by omega)];simp [add_none],fun j x hx => ?_⟩
  rw [List.getElem?_drop] at hx
  rw [Nat.add_assoc]
  exact hcell _ _ hx⟩
theorem Rd.cell (h:Rd w A xs) {k:Nat} (hk:k<xs.length):∃b o,A=some ⟨b,o,none⟩∧w.cell? ⟨b,o+k,none⟩=some (.int .u32 ((xs.getD k 0:Nat):Int)):=by
 obtain ⟨b,o,e,hc⟩:=h.2 (by rintro rfl;simp at hk)
 exact ⟨b,o,e,hc k _ (get_of_lt xs hk)⟩
theorem Rd.cells (h:Rd w A xs) (hk:0<xs.length):∃b o,A=some ⟨b,o,none⟩∧∀k,k<xs.length→w.cell? ⟨b,o+k,none⟩=some (.int .u32 ((xs.getD k 0:Nat):Int)):=by
 obtain ⟨b,o,e,hc⟩:=h.2 (by rintro rfl;simp at hk)
 exact ⟨b,o,e,fun k hk=>hc k _ (get_of_lt xs hk)⟩
theorem Blk.lt (h:Blk w g xs):g<w.heap.size:=by
 rcases Nat.lt_or_ge g w.heap.size with hlt | hge
 ·exact hlt
 ·have:=h.2;rw [Array.getElem?_eq_none hge] at this;cases this
theorem Blk.cell? (h:Blk w g xs) (i:Nat):w.cell? ⟨g,i,none⟩=(xs[i]?).map fun (x:Nat)=>Value.int .u32 (x:Int):=by
 rw [cell_of_row w g i _ _ (0,0) h.2];simp [u32s]
theorem Blk.cell (h:Blk w g xs) {i:Nat} (hi:i<xs.length):w.cell? ⟨g,i,none⟩=some (.int .u32 ((xs.getD i 0:Nat):Int)):=by
 rw [h.cell?,get_of_lt xs hi];rfl
theorem Blk.frozen (h:Blk w g xs) (i:Nat):w.frozen? ⟨g,i,none⟩=false:=by
 have:=h.2
 simp [World.frozen?,this]
theorem Blk.rd (h:Blk w g xs):Rd w (some ⟨g,0,none⟩) xs:=
 ⟨h.1,fun _=>⟨g,0,rfl,fun k x hx=>by rw [Nat.zero_add,h.cell?,hx];rfl⟩⟩
theorem Blk.drewN (h:Blk w g xs) (n:Nat):Blk (w.drewN n) g xs:=h
theorem Blk.drew (h:Blk w g xs):Blk w.drew g xs:=h
theorem Blk.alloc (h:Blk w g xs) (o:Obj):Blk (w.alloc o) g xs:=⟨h.1,(Below.heap_alloc w o g h.lt).trans h.2⟩
theorem Blk.set (h:Blk w g xs) (i:Nat) {v:Nat} (hv:v<4294967296):Blk (w.setCell ⟨g,i,none⟩ (.int .u32 (v:Int))) g (xs.set i v):=by
 refine ⟨h.1.set i hv,?_⟩
 have:=h.2
 simp [World.setCell,Array.getElem?_modify,this,u32s,List.map_set]
theorem Blk.setI (h:Blk w g xs) (i:Nat) {v:Int} (h0:0≤v) (hv:v<4294967296) {u:Nat} (hu:v.toNat=u):Blk (w.setCell ⟨g,i,none⟩ (.int .u32 v)) g (xs.set i u):=by
 subst hu
 have:=h.set i (v:=v.toNat) (by omega)
 rwa [Int.toNat_of_nonneg h0] at this
theorem Blk.far (h:Blk w g xs) {p:Addr} (hp:g≠p.block) (u:Value):Blk (w.setCell p u) g xs:=⟨h.1,(Below.heap_setCell w p u g hp).trans h.2⟩
theorem Blk.below {B:Nat} (h:Blk w g xs) (hb:Below B w w') (hg:g<B):Blk w' g xs:=⟨h.1,(hb.block g hg).trans h.2⟩
theorem Blk.later (h:Blk w g xs) (hb:Below w.heap.size w w'):Blk w' g xs:=h.below hb h.lt
theorem Blk.grown {row:Option Nat} (h:Blk w g xs) (hb:w.grownBy w' row) (hg:some g≠row):Blk w' g xs:=⟨h.1,(hb.block g h.lt hg).trans h.2⟩
theorem madeRow (n:Nat):madeCells #[.int .u32 0] n=(u32s (List.replicate n 0)).toArray:=by
 apply Array.toList_inj.1
 rw [toList_madeCells_one]
 simp [u32s]
theorem Blk.made (w:World) (n:Nat):Blk (w.alloc (.cells (u32s (List.replicate n 0)).toArray 52)) w.heap.size (List.replicate n 0):=
 ⟨W32.replicate n,heap_alloc_new w _⟩
theorem Blk.new (w:World) (cs:Array Value) (xs:List Nat) (hx:W32 xs) (e:cs.toList=u32s xs):Blk (w.alloc (.cells cs 52)) w.heap.size xs:=
 ⟨hx,by rw [heap_alloc_new w _,←e]⟩
theorem Own.nil (w:World) (g:Nat) (A:Option Addr):Own w g A []:=⟨W32.nil,fun h=>absurd rfl h⟩
theorem Blk.own (h:Blk w g xs) (k:Nat) (hk:k≤xs.length):Own w g (some ⟨g,0,none⟩) (xs.take k):=
 ⟨h.1.take k,fun _=>⟨rfl,_,h.2,by rw [List.length_take,Nat.min_eq_left hk,u32s_take]⟩⟩
theorem Own.lt (h:Own w g A xs) (hn:xs≠[]):g<w.heap.size:=by
 obtain ⟨_,cs,hcs,_⟩:=h.2 hn
 exact (Array.getElem?_eq_some_iff.1 hcs).1
theorem Own.rd (h:Own w g A xs):Rd w A xs:=by
 refine ⟨h.1,fun hn => ?_⟩
 obtain ⟨rfl,cs,hcs,ht⟩:=h.2 hn
 refine ⟨g,0,rfl,fun k x hx => ?_⟩
 rw [Nat.zero_add,cell_of_row w g k _ _ (0,0) hcs]
 have:(cs.toList.take xs.length)[k]?=some (Value.int .u32 (x:Int)):=by rw [ht,u32s_get,hx];rfl
 rw [List.getElem?_take] at this
 split at this
 ·simpa using this
 ·cases this
theorem Own.frozen (h:Own w g A xs) (hn:xs≠[]) (i:Nat):w.frozen? ⟨g,i,none⟩=false:=by
 obtain ⟨_,cs,hcs,_⟩:=h.2 hn
 simp [World.frozen?,hcs]
theorem Own.block (h:Own w g A xs) (hk:w'.heap[g]?=w.heap[g]?):Own w' g A xs:=
 ⟨h.1,fun hn=>by
  obtain ⟨e,cs,hcs,ht⟩:=h.2 hn
  exact ⟨e,cs,by rw [hk];exact hcs,ht⟩⟩
theorem Own.later (h:Own w g A xs) (hb:Below w.heap.size w w'):Own w' g A xs:=
 ⟨h.1,fun hn=>by
  have hlt:=h.lt hn
  obtain ⟨e,cs,hcs,ht⟩:=h.2 hn
  exact ⟨e,cs,by rw [hb.block g hlt];exact hcs,ht⟩⟩
theorem Own.drewN (h:Own w g A xs) (n:Nat):Own (w.drewN n) g A xs:=h
end
theorem quiet_add_left {P:Program} {f:FuncId} {args:Array Value} {w:World} {a n:Nat} {v:Value}
  (h:Calls P f args (w.drewN (a+n)) fun e w'=>e=.returned v∧w.drewN (a+n)=w') :
  Calls P f args (w.drewN (a+n)) fun e w''=>e=.returned v∧∃m,w''=w.drewN (a+m):=
 h.mono fun _ _ ⟨he,hm⟩=>⟨he,n,hm.symm⟩
theorem quiet_left {P:Program} {f:FuncId} {args:Array Value} {w:World} {n:Nat} {v:Value}
  (h:Calls P f args (w.drewN n) fun e w'=>e=.returned v∧w.drewN n=w'):Calls P f args (w.drewN n) fun e w''=>e=.returned v∧∃m,w''=w.drewN m:=
 h.mono fun _ _ ⟨he,hm⟩=>⟨he,n,hm.symm⟩
theorem below_drewN {B:Nat} {a w:World} (h:Below B a w) (n:Nat):Below B a (w.drewN n):=⟨h.os,h.tape,h.output,h.size,h.block⟩
section
variable (w:World)
theorem size_u32:(sizeOf (Tryz.prog.elem 23)).run Tryz.prog w=.ok 1 w:=by kernel_rfl
set_option maxRecDepth 100000 in
theorem run_cut_h (A:Option Addr) (n c h:Nat) (hh:h≤c):(Instr.slice 23 (.slice A n c) none (some (.int .i64 (h:Int))) none).run Tryz.prog w=.ok (.slice A h c) w:=by
 rw [run_slice_h w _ A n c Tryz.underlying23 .i64 h (by omega) (by omega),size_u32]
 cases A <;> simp [Result.andThen,sliced,Addr.add]
set_option maxRecDepth 100000 in
theorem run_cut_hm (A:Option Addr) (n c h:Nat) (hh:h≤c):(Instr.slice 23 (.slice A n c) none (some (.int .i64 (h:Int))) (some (.int .i64 (h:Int)))).run Tryz.prog w=.ok (.slice A h h) w:=by
 rw [run_slice_hm w _ A n c Tryz.underlying23 .i64 .i64 h h (by omega) (by omega) (by omega),size_u32]
 cases A <;> simp [Result.andThen,sliced,Addr.add]
set_option maxRecDepth 100000 in
theorem run_cut_lh (A:Option Addr) (n c l h:Nat) (hl:l≤h) (hh:h≤c):(Instr.slice 23 (.slice A n c) (some (.int .i64 (l:Int))) (some (.int .i64 (h:Int))) none).run Tryz.prog w=.ok (.slice (cutA A c l) (h - l) (c - l)) w:=by
 rw [run_slice_lh w _ A n c Tryz.underlying23 .i64 .i64 l h (by omega) (by omega) (by omega),size_u32]
 simp [Result.andThen,sliced,cutA]
end
theorem Tryz.info52:(Tryz.prog.info? 52).map (fun i=>(i.zero,i.size,i.bytes))=some (some (.int .u32 0),1,4):=by kernel_rfl
theorem run_make_u32 (n:Nat) (hn:n≤70368744177664) (w:World) :
  (Instr.makeSlice 23 (.int .i64 (n:Int)) (.int .i64 (n:Int))).run Tryz.prog w=.ok (.slice (some ⟨w.heap.size,0,none⟩) n n) (w.alloc (.cells (u32s (List.replicate n 0)).toArray 52)):=by
 obtain ⟨i0,hi,hz0,hz1,hz2⟩:=info_parts Tryz.info52
 have h:=run_make (P:=Tryz.prog) w 23 52 i0 (.int .u32 0) Tryz.underlying23 hi hz0 .i64 .i64 n n (by omega) (by omega) (by rw [hz2];omega) (by omega)
 rw [h,hz1]
 simp only [Int.toNat_natCast,Value.cells,Nat.mul_one,madeRow]
theorem grownBy_setRow (w:World) (g:Nat) (cs:Array Value):w.grownBy (w.setRow g cs) (some g):=
 ⟨rfl,rfl,rfl,by simp [World.setRow],fun k hk hne=>setRow_other w g k cs (fun e=>hne (by rw [e]))⟩
theorem wpList_copy_u32 {w:World} {ops:Array Oper} {rest:List Oper} {o:Oper} {a:Act} {Q:Exit→Act→World→Prop} (hgd:o.guard=none) (d s:Operand)
  (ho:o.op=.call { callee:=.builtin .copy,args:=#[d,s],argTypes:=#[23,23] })
  (g n dcap m c:Nat) (A:Option Addr) (xs zs:List Nat) (hd:a.eval d=.slice (some ⟨g,0,none⟩) n dcap) (hs:a.eval s=.slice A m c)
  (hB:Blk w g zs) (hz:zs.length=n) (hR:Rd w A xs) (hx:xs.length=m) (hnm:n≤m)
  (h:∀w',Blk w' g (xs.take n)→w.grownBy w' (some g)→wpList Tryz.prog ops Q rest (a.put o.dst (goInt n)) w'):wpList Tryz.prog ops Q (o::rest) a w:=by
 have hu:=Tryz.underlying23
 obtain ⟨i0,hi,hz0,hz1,hz2⟩:=info_parts Tryz.info52
 have hsz:(Tryz.prog.info? 52).map (·.size)=some 1:=by rw [hi,Option.map_some,hz1]
 have hmin:Nat.min m n=n:=Nat.min_eq_right hnm
 rcases Nat.eq_zero_or_pos n with h0 | h0
 ·subst h0
  refine wpList_copy_nothing hgd d s _ _ ho _ hu hsz _ A 0 dcap m c hd hs hmin ?_
  have e:xs.take 0=zs:=by rw [List.eq_nil_of_length_eq_zero hz];simp
  refine h w (by rw [e];exact hB) ⟨rfl,rfl,rfl,Nat.le_refl _,fun _ _ _=>rfl⟩
 ·obtain ⟨b,o',rfl,hc⟩:=hR.2 (by rintro rfl;simp at hx;omega)
  have hl:(u32s (xs.take n)).length=n:=by rw [u32s_length,List.length_take,hx];omega
  refine wpList_copy_own hgd d s _ _ ho _ hu hsz g 0 n dcap ⟨b,o',none⟩ m c hd hs (u32s zs).toArray _ hB.2 (u32s (xs.take n)) (by rw [hl,hmin]) ?_ (by rw [hl];simp [u32s_length,hz]) ?_ ?_
  ·intro j v hj
   rw [u32s_get,Option.map_eq_some_iff] at hj
   obtain ⟨x,hx1,rfl⟩:=hj
   rw [add_none]
   rw [List.getElem?_take] at hx1
   split at hx1
   ·exact hc j x hx1
   ·cases hx1
  ·intro v hv
   simp only [u32s,List.mem_map] at hv
   obtain ⟨x,_,rfl⟩:=hv
   rfl
  ·rw [hl]
   refine h _ ⟨hR.1.take n,?_⟩ (grownBy_setRow w g _)
   rw [setRow_heap w g _ _ _ _ hB.2]
   simp [u32s_length,hz]
end Go.Proofs.YtigmpifjcijdbaaGreatDoor
namespace Go.Proofs.YtigmpifjcijdbaaGreatDoor
set_option linter.unusedVariables false
set_option linter.unusedSimpArgs false
open Go.RowKit Verge
theorem run_make_u32c (l n:Nat) (hl:l≤n) (hn:n≤70368744177664) (w:World) :
  (Instr.makeSlice 23 (.int .i64 (l:Int)) (.int .i64 (n:Int))).run Tryz.prog w=.ok (.slice (some ⟨w.heap.size,0,none⟩) l n) (w.alloc (.cells (u32s (List.replicate n 0)).toArray 52)):=by
 obtain ⟨i0,hi,hz0,hz1,hz2⟩:=info_parts Tryz.info52
 have h:=run_make (P:=Tryz.prog) w 23 52 i0 (.int .u32 0) Tryz.underlying23 hi hz0 .i64 .i64 l n (by omega) (by omega) (by rw [hz2];omega) (by omega)
 rw [h,hz1]
 simp only [Int.toNat_natCast,Value.cells,Nat.mul_one,madeRow]
theorem run_append_u32 (w:World) (ty:TypeId) (g k cap gs m c:Nat) (xs zs:List Nat) (hB:Blk w g zs) (hz:zs.length=cap) (hS:Blk w gs xs) (hx:xs.length=m) (hkm:k+m≤cap) :
  (Builtin.append_ #[23,23] ty #[.slice (some ⟨g,0,none⟩) k cap,.slice (some ⟨gs,0,none⟩) m c]).run Tryz.prog w =
   .ok (.slice (some ⟨g,0,none⟩) (k+m) cap) (w.setRow g (u32s (zs.take k++xs++zs.drop (k+m))).toArray):=by
 obtain ⟨i0,hi,hz0,hz1,hz2⟩:=info_parts Tryz.info52
 rw [run_append_room (P:=Tryz.prog) w 23 ty 52 i0 Tryz.underlying23 hi g k cap _ hB.2 ⟨gs,0,none⟩ m c (u32s xs) (by rw [u32s_length,hx,hz1,Nat.mul_one])
  (fun j u hu => ?_) (fun u hu => ?_) hkm (by simp [u32s_length,hz1,hz,hx];omega)]
 ·rw [hz1]
  simp [u32s,hx,List.map_take,List.map_drop]
 ·rw [u32s_get,Option.map_eq_some_iff] at hu
  obtain ⟨x,hx1,rfl⟩:=hu
  rw [add_none,Nat.zero_add,hS.cell?,hx1];rfl
 ·simp only [u32s,List.mem_map] at hu
  obtain ⟨x,_,rfl⟩:=hu
  rfl
theorem wpList_append_u32 {w:World} {ops:Array Oper} {rest:List Oper} {o:Oper} {a:Act} {Q:Exit→Act→World→Prop} (hgd:o.guard=none) (s x:Operand)
  (ho:o.op=.call { callee:=.builtin .append,args:=#[s,x],argTypes:=#[23,23] })
  (g k cap gs m c:Nat) (xs zs:List Nat) (hs:a.eval s=.slice (some ⟨g,0,none⟩) k cap) (hx:a.eval x=.slice (some ⟨gs,0,none⟩) m c)
  (hB:Blk w g zs) (hz:zs.length=cap) (hS:Blk w gs xs) (hxl:xs.length=m) (hkm:k+m≤cap)
  (h:∀w',Blk w' g (zs.take k++xs++zs.drop (k+m))→w.grownBy w' (some g)→wpList Tryz.prog ops Q rest (a.put o.dst (.slice (some ⟨g,0,none⟩) (k+m) cap)) w'):wpList Tryz.prog ops Q (o::rest) a w:=by
 refine wpList_plain hgd fun K hK => ?_
 unfold Oper.wp execOp
 simp only [ho,resolve,invoke,builtin,Sem.run_bind,Sem.run_pure,Result.andThen_ok,List.map_toArray,List.map_cons,List.map_nil,hs,hx,run_append_u32 w o.type g k cap gs m c xs zs hB hz hS hxl hkm]
 refine hK _ _ (h _ ⟨((hB.1.take k).append hS.1).append (hB.1.drop _),?_⟩ (grownBy_setRow w g _))
 rw [setRow_heap w g _ _ _ _ hB.2]
end Go.Proofs.YtigmpifjcijdbaaGreatDoor
