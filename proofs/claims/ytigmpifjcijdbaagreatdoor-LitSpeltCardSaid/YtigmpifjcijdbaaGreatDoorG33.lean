/- Layer 5, the program: scan's deferred closure, and scan. -/
import Derived.Test.YtigmpifjcijdbaaGreatDoorG25
import Derived.Defers
import Derived.Recover
import Derived.Test.YtigmpifjcijdbaaGreatDoorG27
import Derived.Test.YtigmpifjcijdbaaGreatDoorG19
import Derived.Test.YtigmpifjcijdbaaGreatDoorG32
namespace Go.Proofs.YtigmpifjcijdbaaGreatDoor
set_option linter.unusedVariables false
set_option linter.unusedSimpArgs false
open Go.RowKit Verge
abbrev cI (v:Value):Obj:=.cells #[v] 3
abbrev cE (v:Value):Obj:=.cells #[v] 35
theorem ta_is (v:Value) (W:World):(Instr.typeAssert (.iface 150 v) 20 150 true).run Tryz.prog W=.ok (.tuple #[v,.bool true]) W:=by kernel_rfl
theorem back_heap {W:World} {R A E:Nat} {n:Bool} {V D:Value} {k a0 e0:Int} (hR:W.heap[R]?=some (nmO n V D k)) (hA:W.heap[A]?=some (cI (.int .i64 a0))) (hE:W.heap[E]?=some (cE (.int .i64 e0))) (h1:R≠A) (h2:R≠E) (h3:A≠E) (p c:Int) :
  (((((((W.setCell ⟨R,0,none⟩ (.bool false)).setCell ⟨R,1,none⟩ (.slice none 0 0)).setCell ⟨R,2,none⟩ (.slice none 0 0)).setCell ⟨R,3,none⟩ (.int .i64 0)).setCell ⟨A,0,none⟩ (.int .i64 p)).setCell ⟨E,0,none⟩ (.int .i64 c)).drew).heap[R]?=some (nmO false (.slice none 0 0) (.slice none 0 0) 0) ∧
  (((((((W.setCell ⟨R,0,none⟩ (.bool false)).setCell ⟨R,1,none⟩ (.slice none 0 0)).setCell ⟨R,2,none⟩ (.slice none 0 0)).setCell ⟨R,3,none⟩ (.int .i64 0)).setCell ⟨A,0,none⟩ (.int .i64 p)).setCell ⟨E,0,none⟩ (.int .i64 c)).drew).heap[A]?=some (cI (.int .i64 p)) ∧
  (((((((W.setCell ⟨R,0,none⟩ (.bool false)).setCell ⟨R,1,none⟩ (.slice none 0 0)).setCell ⟨R,2,none⟩ (.slice none 0 0)).setCell ⟨R,3,none⟩ (.int .i64 0)).setCell ⟨A,0,none⟩ (.int .i64 p)).setCell ⟨E,0,none⟩ (.int .i64 c)).drew).heap[E]?=some (cE (.int .i64 c)) ∧
  ∀g,g≠R→g≠A→g≠E→(((((((W.setCell ⟨R,0,none⟩ (.bool false)).setCell ⟨R,1,none⟩ (.slice none 0 0)).setCell ⟨R,2,none⟩ (.slice none 0 0)).setCell ⟨R,3,none⟩ (.int .i64 0)).setCell ⟨A,0,none⟩ (.int .i64 p)).setCell ⟨E,0,none⟩ (.int .i64 c)).drew).heap[g]?=W.heap[g]?:=by
 have e:∀X:World,X.drew.heap=X.heap:=fun _=>rfl
 refine ⟨?_,?_,?_,fun g g1 g2 g3 => ?_⟩
 ·rw [e,set_other _ E 0 R _ h2,set_other _ A 0 R _ h1]
  simp [World.setCell,Array.getElem?_modify,hR]
 ·rw [e,set_other _ E 0 A _ h3]
  have:((((W.setCell ⟨R,0,none⟩ (.bool false)).setCell ⟨R,1,none⟩ (.slice none 0 0)).setCell ⟨R,2,none⟩ (.slice none 0 0)).setCell ⟨R,3,none⟩ (.int .i64 0)).heap[A]?=some (cI (.int .i64 a0)):=by
   rw [set_other _ R 3 A _ (Ne.symm h1),set_other _ R 2 A _ (Ne.symm h1),set_other _ R 1 A _ (Ne.symm h1),set_other _ R 0 A _ (Ne.symm h1)];exact hA
  generalize ((((W.setCell ⟨R,0,none⟩ (.bool false)).setCell ⟨R,1,none⟩ (.slice none 0 0)).setCell ⟨R,2,none⟩ (.slice none 0 0)).setCell ⟨R,3,none⟩ (.int .i64 0))=X at *
  simp [World.setCell,Array.getElem?_modify,this]
 ·have:(((((W.setCell ⟨R,0,none⟩ (.bool false)).setCell ⟨R,1,none⟩ (.slice none 0 0)).setCell ⟨R,2,none⟩ (.slice none 0 0)).setCell ⟨R,3,none⟩ (.int .i64 0)).setCell ⟨A,0,none⟩ (.int .i64 p)).heap[E]?=some (cE (.int .i64 e0)):=by
   rw [set_other _ A 0 E _ (Ne.symm h3),set_other _ R 3 E _ (Ne.symm h2),set_other _ R 2 E _ (Ne.symm h2),set_other _ R 1 E _ (Ne.symm h2),set_other _ R 0 E _ (Ne.symm h2)];exact hE
  rw [e]
  generalize (((((W.setCell ⟨R,0,none⟩ (.bool false)).setCell ⟨R,1,none⟩ (.slice none 0 0)).setCell ⟨R,2,none⟩ (.slice none 0 0)).setCell ⟨R,3,none⟩ (.int .i64 0)).setCell ⟨A,0,none⟩ (.int .i64 p))=X at *
  simp [World.setCell,Array.getElem?_modify,this]
 ·rw [e,set_other _ E 0 g _ g3,set_other _ A 0 g _ g2,set_other _ R 3 g _ g1,set_other _ R 2 g _ g1,set_other _ R 1 g _ g1,set_other _ R 0 g _ g1]
theorem below_set {B:Nat} {w W:World} (h:Below B w W) (p i:Nat) (v:Value) (hp:B≤p):Below B w (W.setCell ⟨p,i,none⟩ v):=
 ⟨h.os,h.tape,h.output,by have:=h.size;simpa [World.setCell] using this,fun g hg=>(set_other W p i g v (by omega)).trans (h.block g hg)⟩
set_option maxRecDepth 100000 in
set_option maxHeartbeats 2000000 in
theorem catch_p (R A E:Nat) (p c:Int) (older:List PanicEntry) (w:World) (n:Bool) (V D:Value) (k a0 e0:Int) (hR:w.heap[R]?=some (nmO n V D k)) (hA:w.heap[A]?=some (cI (.int .i64 a0))) (hE:w.heap[E]?=some (cE (.int .i64 e0)))
  (h1:R≠A) (h2:R≠E) (h3:A≠E) (B:Nat) (hB1:B≤R) (hB2:B≤A) (hB3:B≤E) (hB:B≤w.heap.size) :
  CallsD Tryz.prog 129 #[.pointer (some ⟨R,0,none⟩),.pointer (some ⟨A,0,none⟩),.pointer (some ⟨E,0,none⟩)] (.panicking ({ v:=.iface 150 (.agg #[.int .i64 p,.int .i64 c]),recovered:=false }::older)) w fun e u' w' =>
   e=.returned (.tuple #[])∧u'=.panicking ({ v:=.iface 150 (.agg #[.int .i64 p,.int .i64 c]),recovered:=true }::older) ∧
   w'.heap[R]?=some (nmO false (.slice none 0 0) (.slice none 0 0) 0)∧w'.heap[A]?=some (cI (.int .i64 p))∧w'.heap[E]?=some (cE (.int .i64 c))∧Below B w w':=by
 have hfr:∀a b c:Value,(#[a,b,c]++Array.replicate (Tryz.f129.ntmps - (#[a,b,c]:Array Value).size) undef:Array Value)=#[a,b,c,undef,undef,undef,undef,undef,undef,undef,undef,undef,undef,undef,undef,undef]:=fun _ _ _=>rfl
 have hb:=rnew w (fO (.int .i64 p) (.int .i64 c))
 have hR':=(hb.block R (Array.getElem?_eq_some_iff.1 hR).1).trans hR
 have hA':=(hb.block A (Array.getElem?_eq_some_iff.1 hA).1).trans hA
 have hE':=(hb.block E (Array.getElem?_eq_some_iff.1 hE).1).trans hE
 have hF':=heap_alloc_new w (fO (.int .i64 p) (.int .i64 c))
 have r1:=(Array.getElem?_eq_some_iff.1 hR).1
 have r2:=(Array.getElem?_eq_some_iff.1 hA).1
 have r3:=(Array.getElem?_eq_some_iff.1 hE).1
 have hsz:w.heap.size≤(w.alloc (fO (.int .i64 p) (.int .i64 c))).heap.size:=by show w.heap.size≤(w.heap.push _).size;simp
 refine callsD_of_wpS Tryz.func129 rfl fun c₀ cs hu => ?_
 rw [hfr]
 apply wpS_seq
 apply wpS_region
 generalize hQ:bodyPostS Tryz.prog Tryz.f129 c₀ cs _=Q
 simp [wpOpsS,go_sem,recoverD,hu,Tryz.ntmps129,ta_is,Exit.thenS]
 apply wpS_seq
 apply wpS_region
 simp [wpOpsS,go_sem,Exit.thenS]
 refine wpS_cond (t:=true) (by simp [Act.eval]) ?_
 simp only [if_true]
 refine wpS_of_wp ?_
 generalize w.alloc (fO (.int .i64 p) (.int .i64 c))=W at *
 have k1:¬w.heap.size=R:=by omega
 have k2:¬w.heap.size=A:=by omega
 have k3:¬w.heap.size=E:=by omega
 have c0:W.cell? ⟨w.heap.size,0,none⟩=some (.int .i64 p):=by simp [World.cell?,hF']
 have c1:W.cell? ⟨w.heap.size,1,none⟩=some (.int .i64 c):=by simp [World.cell?,hF']
 have j0:W.cell? ⟨R,0,none⟩=some (.bool n):=by simp [World.cell?,hR']
 have j1:W.cell? ⟨R,1,none⟩=some V:=by simp [World.cell?,hR']
 have j2:W.cell? ⟨R,2,none⟩=some D:=by simp [World.cell?,hR']
 have j3:W.cell? ⟨R,3,none⟩=some (.int .i64 k):=by simp [World.cell?,hR']
 have f0:W.frozen? ⟨R,0,none⟩=false:=by simp [World.frozen?,hR']
 have f1:W.frozen? ⟨R,1,none⟩=false:=by simp [World.frozen?,hR']
 have f2:W.frozen? ⟨R,2,none⟩=false:=by simp [World.frozen?,hR']
 have f3:W.frozen? ⟨R,3,none⟩=false:=by simp [World.frozen?,hR']
 have a1:W.cell? ⟨A,0,none⟩=some (.int .i64 a0):=by simp [World.cell?,hA']
 have a2:W.frozen? ⟨A,0,none⟩=false:=by simp [World.frozen?,hA']
 have b1:W.cell? ⟨E,0,none⟩=some (.int .i64 e0):=by simp [World.cell?,hE']
 have b2:W.frozen? ⟨E,0,none⟩=false:=by simp [World.frozen?,hE']
 go_region
 subst hQ
 clear c0 c1 j0 j1 j2 j3 f0 f1 f2 f3 a1 a2 b1 b2 k1 k2 k3 hfr
 obtain ⟨g1,g2,g3,g4⟩:=back_heap hR' hA' hE' h1 h2 h3 p c
 have hbl:Below B w (((((((W.setCell ⟨R,0,none⟩ (.bool false)).setCell ⟨R,1,none⟩ (.slice none 0 0)).setCell ⟨R,2,none⟩ (.slice none 0 0)).setCell ⟨R,3,none⟩ (.int .i64 0)).setCell ⟨A,0,none⟩ (.int .i64 p)).setCell ⟨E,0,none⟩ (.int .i64 c)).drew):=
  below_drewN (below_set (below_set (below_set (below_set (below_set (below_set ⟨hb.os,hb.tape,hb.output,hb.size,fun g hg=>hb.block g (by omega)⟩ R 0 _ hB1) R 1 _ hB1) R 2 _ hB1) R 3 _ hB1) A 0 _ hB2) E 0 _ hB3) 1
 have hfin:∀W':World,Below B w W'→W'.heap[R]?=some (nmO false (.slice none 0 0) (.slice none 0 0) 0)→W'.heap[A]?=some (cI (.int .i64 p))→W'.heap[E]?=some (cE (.int .i64 c))→∀ts:Array Value,
   bodyPostS Tryz.prog Tryz.f129 c₀ cs (fun e u' w'=>e=.returned (.tuple #[])∧u'=.panicking ({ v:=.iface 150 (.agg #[.int .i64 p,.int .i64 c]),recovered:=true }::older)∧w'.heap[R]?=some (nmO false (.slice none 0 0) (.slice none 0 0) 0)∧w'.heap[A]?=some (cI (.int .i64 p))∧w'.heap[E]?=some (cE (.int .i64 c))∧Below B w w') .normal { tmps:=ts,defers:=[] } ({ c₀ with mode:=.panicking ({ v:=.iface 150 (.agg #[.int .i64 p,.int .i64 c]),recovered:=true }::older) }::cs) W':=by
  intro W' h1 h2 h3 h4 ts
  refine ⟨rfl,.panicking ({ v:=.iface 150 (.agg #[.int .i64 p,.int .i64 c]),recovered:=true }::older),rfl,.tuple #[],?_,rfl,rfl,h2,h3,h4,h1⟩
  exact results_none rfl _ _ _
 exact hfin _ hbl g1 g2 g3 _
end Go.Proofs.YtigmpifjcijdbaaGreatDoor
namespace Go.Proofs.YtigmpifjcijdbaaGreatDoor
set_option linter.unusedVariables false
set_option linter.unusedSimpArgs false
open Go.RowKit Verge
theorem ta_no (W:World):(Instr.typeAssert .nilIface 20 150 true).run Tryz.prog W=.ok (.tuple #[.agg #[.int .i64 0,.int .i64 0],.bool false]) W:=by kernel_rfl
set_option maxRecDepth 100000 in
set_option maxHeartbeats 200000 in
theorem catch_i (R A E:Nat) (w:World) :
  CallsD Tryz.prog 129 #[.pointer (some ⟨R,0,none⟩),.pointer (some ⟨A,0,none⟩),.pointer (some ⟨E,0,none⟩)] .returning w fun e u' w' =>
   e=.returned (.tuple #[])∧u'=.returning∧Below w.heap.size w w':=by
 have hfr:∀a b c:Value,(#[a,b,c]++Array.replicate (Tryz.f129.ntmps - (#[a,b,c]:Array Value).size) undef:Array Value)=#[a,b,c,undef,undef,undef,undef,undef,undef,undef,undef,undef,undef,undef,undef,undef]:=fun _ _ _=>rfl
 have hb:=rnew w (fO (.int .i64 0) (.int .i64 0))
 refine callsD_of_wpS Tryz.func129 rfl fun c₀ cs hu => ?_
 rw [hfr]
 apply wpS_seq
 apply wpS_region
 generalize hQ:bodyPostS Tryz.prog Tryz.f129 c₀ cs _=Q
 simp [wpOpsS,go_sem,recoverD,hu,Tryz.ntmps129,ta_no,Exit.thenS]
 apply wpS_seq
 apply wpS_region
 simp [wpOpsS,go_sem,Exit.thenS]
 refine wpS_cond (t:=false) (by simp [Act.eval]) ?_
 simp only [Bool.false_eq_true,if_false]
 refine wpS_of_wp (wp_skip ?_)
 subst hQ
 have hc:c₀={ c₀ with mode:=.returning }:=by rw [←hu]
 refine ⟨rfl,.returning,congrArg (· :: cs) hc,.tuple #[],results_none rfl _ _ _,rfl,rfl,?_⟩
 exact hb
end Go.Proofs.YtigmpifjcijdbaaGreatDoor
namespace Go.Proofs.YtigmpifjcijdbaaGreatDoor
set_option linter.unusedVariables false
set_option linter.unusedSimpArgs false
open Go.RowKit Verge
theorem numeral_any (w:World) (b:Nat) (l:List UInt8) (h:Rdr w b l l) (hl:l.length≤4096):Calls Tryz.prog 130 #[.pointer (some ⟨b,0,none⟩)] w (NumAns w b (scn l)):=by
 cases hh:hexy (sg l).2 with
 | some t=>exact num_hex w b l h hl t hh
 | none=>exact num_dec w b l h hl hh
def IsScan:Except (Nat×Int) (Bool×Nat×Nat×Int)→Value→World→Prop
 | .error (p,c),v,_=>v=.tuple #[.agg #[.bool false,.slice none 0 0,.slice none 0 0,.int .i64 0],.int .i64 (p:Int),.int .i64 c]
 | .ok (n,N,D,K),v,w=>∃v1 v2,v=.tuple #[.agg #[.bool n,v1,v2,.int .i64 K],.int .i64 0,.int .i64 0]∧IsT N v1 w∧IsT D v2 w
abbrev scW (w:World) (S:ByteArray):World:=(((w.alloc (nmO false (.slice none 0 0) (.slice none 0 0) 0)).alloc (cI (.int .i64 0))).alloc (cE (.int .i64 0))).alloc (.cells #[.string S,.int .i64 0] 153)
theorem scW_ok (w:World) (l:List UInt8):Below w.heap.size w (scW w (bs l))∧(scW w (bs l)).heap.size=w.heap.size+1+1+1+1∧(scW w (bs l)).heap[w.heap.size]?=some (nmO false (.slice none 0 0) (.slice none 0 0) 0)∧(scW w (bs l)).heap[w.heap.size+1]?=some (cI (.int .i64 0))∧(scW w (bs l)).heap[w.heap.size+1+1]?=some (cE (.int .i64 0))∧Rdr (scW w (bs l)) (w.heap.size+1+1+1) l l:=by
 have sz:∀(X:World) (o:Obj),(X.alloc o).heap.size=X.heap.size+1:=fun X o=>by show (X.heap.push _).size=_;simp
 have n0:=heap_alloc_new w (nmO false (.slice none 0 0) (.slice none 0 0) 0)
 have b0:=rnew w (nmO false (.slice none 0 0) (.slice none 0 0) 0)
 have s0:=sz w (nmO false (.slice none 0 0) (.slice none 0 0) 0)
 unfold scW
 generalize w.alloc (nmO false (.slice none 0 0) (.slice none 0 0) 0)=W1 at *
 have n1:=heap_alloc_new W1 (cI (.int .i64 0))
 have b1:=rnew W1 (cI (.int .i64 0))
 have s1:=sz W1 (cI (.int .i64 0))
 generalize W1.alloc (cI (.int .i64 0))=W2 at *
 have n2:=heap_alloc_new W2 (cE (.int .i64 0))
 have b2:=rnew W2 (cE (.int .i64 0))
 have s2:=sz W2 (cE (.int .i64 0))
 generalize W2.alloc (cE (.int .i64 0))=W3 at *
 have n3:=heap_alloc_new W3 (.cells #[.string (bs l),.int .i64 0] 153)
 have b3:=rnew W3 (.cells #[.string (bs l),.int .i64 0] 153)
 have s3:=sz W3 (.cells #[.string (bs l),.int .i64 0] 153)
 generalize W3.alloc (.cells #[.string (bs l),.int .i64 0] 153)=W4 at *
 rw [s0] at n1 s1
 rw [s1] at n2 s2
 rw [s2] at n3 s3
 refine ⟨raft (raft (raft b0 b1) b2) b3,s3,?_,?_,?_,?_⟩
 ·rw [b3.block _ (by omega),b2.block _ (by omega),b1.block _ (by omega)];exact n0
 ·rw [b3.block _ (by omega),b2.block _ (by omega)];exact n1
 ·rw [b3.block _ (by omega)];exact n2
 ·refine ⟨Nat.le_refl _,by simp,?_⟩
  rw [n3,Nat.sub_self];rfl
theorem six_heap {W:World} {R A E:Nat} {n:Bool} {V D:Value} {k a0 e0:Int} (hR:W.heap[R]?=some (nmO n V D k)) (hA:W.heap[A]?=some (cI (.int .i64 a0))) (hE:W.heap[E]?=some (cE (.int .i64 e0))) (h1:R≠A) (h2:R≠E) (h3:A≠E) (n':Bool) (V' D':Value) (k' p c:Int) :
  ((((((W.setCell ⟨R,0,none⟩ (.bool n')).setCell ⟨R,1,none⟩ V').setCell ⟨R,2,none⟩ D').setCell ⟨R,3,none⟩ (.int .i64 k')).setCell ⟨A,0,none⟩ (.int .i64 p)).setCell ⟨E,0,none⟩ (.int .i64 c)).heap[R]?=some (nmO n' V' D' k') ∧
  ((((((W.setCell ⟨R,0,none⟩ (.bool n')).setCell ⟨R,1,none⟩ V').setCell ⟨R,2,none⟩ D').setCell ⟨R,3,none⟩ (.int .i64 k')).setCell ⟨A,0,none⟩ (.int .i64 p)).setCell ⟨E,0,none⟩ (.int .i64 c)).heap[A]?=some (cI (.int .i64 p)) ∧
  ((((((W.setCell ⟨R,0,none⟩ (.bool n')).setCell ⟨R,1,none⟩ V').setCell ⟨R,2,none⟩ D').setCell ⟨R,3,none⟩ (.int .i64 k')).setCell ⟨A,0,none⟩ (.int .i64 p)).setCell ⟨E,0,none⟩ (.int .i64 c)).heap[E]?=some (cE (.int .i64 c)) ∧
  ∀g,g≠R→g≠A→g≠E→((((((W.setCell ⟨R,0,none⟩ (.bool n')).setCell ⟨R,1,none⟩ V').setCell ⟨R,2,none⟩ D').setCell ⟨R,3,none⟩ (.int .i64 k')).setCell ⟨A,0,none⟩ (.int .i64 p)).setCell ⟨E,0,none⟩ (.int .i64 c)).heap[g]?=W.heap[g]?:=by
 refine ⟨?_,?_,?_,fun g g1 g2 g3 => ?_⟩
 ·rw [set_other _ E 0 R _ h2,set_other _ A 0 R _ h1]
  simp [World.setCell,Array.getElem?_modify,hR]
 ·rw [set_other _ E 0 A _ h3]
  have:((((W.setCell ⟨R,0,none⟩ (.bool n')).setCell ⟨R,1,none⟩ V').setCell ⟨R,2,none⟩ D').setCell ⟨R,3,none⟩ (.int .i64 k')).heap[A]?=some (cI (.int .i64 a0)):=by
   rw [set_other _ R 3 A _ (Ne.symm h1),set_other _ R 2 A _ (Ne.symm h1),set_other _ R 1 A _ (Ne.symm h1),set_other _ R 0 A _ (Ne.symm h1)];exact hA
  generalize ((((W.setCell ⟨R,0,none⟩ (.bool n')).setCell ⟨R,1,none⟩ V').setCell ⟨R,2,none⟩ D').setCell ⟨R,3,none⟩ (.int .i64 k'))=X at *
  simp [World.setCell,Array.getElem?_modify,this]
 ·have:(((((W.setCell ⟨R,0,none⟩ (.bool n')).setCell ⟨R,1,none⟩ V').setCell ⟨R,2,none⟩ D').setCell ⟨R,3,none⟩ (.int .i64 k')).setCell ⟨A,0,none⟩ (.int .i64 p)).heap[E]?=some (cE (.int .i64 e0)):=by
   rw [set_other _ A 0 E _ (Ne.symm h3),set_other _ R 3 E _ (Ne.symm h2),set_other _ R 2 E _ (Ne.symm h2),set_other _ R 1 E _ (Ne.symm h2),set_other _ R 0 E _ (Ne.symm h2)];exact hE
  generalize (((((W.setCell ⟨R,0,none⟩ (.bool n')).setCell ⟨R,1,none⟩ V').setCell ⟨R,2,none⟩ D').setCell ⟨R,3,none⟩ (.int .i64 k')).setCell ⟨A,0,none⟩ (.int .i64 p))=X at *
  simp [World.setCell,Array.getElem?_modify,this]
 ·rw [set_other _ E 0 g _ g3,set_other _ A 0 g _ g2,set_other _ R 3 g _ g1,set_other _ R 2 g _ g1,set_other _ R 1 g _ g1,set_other _ R 0 g _ g1]
theorem res_cells {W:World} {R A E:Nat} {n:Bool} {V D:Value} {k p c:Int} (hR:W.heap[R]?=some (nmO n V D k)) (hA:W.heap[A]?=some (cI (.int .i64 p))) (hE:W.heap[E]?=some (cE (.int .i64 c))) :
  W.cell? ⟨R,0,none⟩=some (.bool n)∧W.cell? ⟨R,1,none⟩=some V∧W.cell? ⟨R,2,none⟩=some D∧W.cell? ⟨R,3,none⟩=some (.int .i64 k)∧W.cell? ⟨A,0,none⟩=some (.int .i64 p)∧W.cell? ⟨E,0,none⟩=some (.int .i64 c) ∧
  W.frozen? ⟨R,0,none⟩=false∧W.frozen? ⟨R,1,none⟩=false∧W.frozen? ⟨R,2,none⟩=false∧W.frozen? ⟨R,3,none⟩=false∧W.frozen? ⟨A,0,none⟩=false∧W.frozen? ⟨E,0,none⟩=false:=by
 refine ⟨?_,?_,?_,?_,?_,?_,?_,?_,?_,?_,?_,?_⟩ <;> simp [World.cell?,World.frozen?,hR,hA,hE]
set_option maxRecDepth 100000 in
set_option maxHeartbeats 1000000 in
theorem scan_any (l:List UInt8) (hl:l.length≤140737488355328) (w:World):Calls Tryz.prog 122 #[.string (bs l)] w (Ans w (IsScan (scn l))):=by
 have hmf:∀(fn:Fn) (first cap:Array Value) (w:World),(Instr.makeFunc fn first cap).run Tryz.prog w=.ok (.func fn first cap) w:=fun _ _ _ _=>rfl
 have hsz:(bs l).size=l.length:=bs_size l
 by_cases hL:4096<l.length
 ·have hs:scn l=.error (4096,2):=if_pos hL
  rw [hs]
  have hLI:4096<(l.length:Int):=by omega
  generalize bs l=S at *
  clear hs
  go_enter_defers Tryz.func122,Tryz.ntmps122
  go_wp2
  exact ⟨.tuple #[.agg #[.bool false,.slice none 0 0,.slice none 0 0,.int .i64 0],.int .i64 4096,.int .i64 2],by simp [results,Tryz.results122,go_sem],_,rfl,rfl,raft (raft (rnew _ _) (rnew _ _)) (rnew _ _)⟩
 ·have hLI:¬4096<(l.length:Int):=by omega
  obtain ⟨hb,hsW,hR,hA,hE,hrd⟩:=scW_ok w l
  have hN:=numeral_any (scW w (bs l)) _ l hrd (by omega)
  generalize bs l=S at *
  cases hs:scn l with
  | error pc =>
   obtain ⟨p,c⟩:=pc
   rw [hs] at hN
   have HN:=Lib.hid hN
   have HW:=Lib.hid (And.intro hb (And.intro hsW (And.intro hR (And.intro hA hE))))
   clear hN hb hR hA hE hrd hs hL hsW
   go_enter_defers Tryz.func122,Tryz.ntmps122
   go_wp2_with (go_at_call 130;refine (HN.out).mono ?_;rintro e w5 ⟨rfl,hg⟩;have HG:=Lib.hid hg;clear hg)
   obtain ⟨hb,hsW,hR,hA,hE⟩:=HW.out
   have hg:=HG.out
   have hR5:=(hg.block w.heap.size (by omega) (by intro e;injection e with e;omega)).trans hR
   have hA5:=(hg.block (w.heap.size+1) (by omega) (by intro e;injection e with e;omega)).trans hA
   have hE5:=(hg.block (w.heap.size+1+1) (by omega) (by intro e;injection e with e;omega)).trans hE
   have hb5:Below w.heap.size w w5:=⟨hg.os.trans hb.os,hg.tape.trans hb.tape,hg.output.trans hb.output,Nat.le_trans hb.size hg.size,fun g hg'=>(hg.block g (by omega) (by intro e;injection e with e;omega)).trans (hb.block g hg')⟩
   have hs5:=hg.size
   refine leaves_cons (f:=129) (args:=#[.pointer (some ⟨w.heap.size,0,none⟩),.pointer (some ⟨w.heap.size+1,0,none⟩),.pointer (some ⟨w.heap.size+1+1,0,none⟩)]) (by simp) (by simp [go_sem]) ?_
   refine (catch_p w.heap.size (w.heap.size+1) (w.heap.size+1+1) (p:Int) c [] w5 _ _ _ _ _ _ hR5 hA5 hE5 (by omega) (by omega) (by omega) w.heap.size (by omega) (by omega) (by omega) (by omega)).mono ?_
   rintro e u' w'' ⟨rfl,rfl,g1,g2,g3,hb6⟩
   obtain ⟨k0,k1,k2,k3,k4,k5,_⟩:=res_cells g1 g2 g3
   refine ⟨.tuple #[.agg #[.bool false,.slice none 0 0,.slice none 0 0,.int .i64 0],.int .i64 (p:Int),.int .i64 c],by simp [results,Tryz.results122,go_sem,k0,k1,k2,k3,k4,k5],_,rfl,rfl,hb5.trans hb6⟩
  | ok q =>
   obtain ⟨n,N,D,K⟩:=q
   rw [hs] at hN
   have HN:=Lib.hid hN
   have HW:=Lib.hid (And.intro hb (And.intro hsW (And.intro hR (And.intro hA hE))))
   clear hN hb hR hA hE hrd hs hL hsW
   go_enter_defers Tryz.func122,Tryz.ntmps122
   go_upto_region 5 with fail
   obtain ⟨hb,hsW,hR,hA,hE⟩:=HW.out
   have hbR:¬(w.heap.size+1+1+1=w.heap.size):=by omega
   go_wp2_with (go_at_call 130;refine (HN.out).mono ?_;rintro e w5 ⟨v1,v2,rfl,⟨A1,rfl,hv1⟩,⟨A2,rfl,hv2⟩,hg⟩;have hR5:=(hg.block w.heap.size (by omega) (by intro e;injection e with e;omega)).trans hR;have hA5:=(hg.block (w.heap.size+1) (by omega) (by intro e;injection e with e;omega)).trans hA;have hE5:=(hg.block (w.heap.size+1+1) (by omega) (by intro e;injection e with e;omega)).trans hE;obtain ⟨k0,k1,k2,k3,k4,k5,z0,z1,z2,z3,z4,z5⟩:=res_cells hR5 hA5 hE5;have HG:=Lib.hid hg;have HR5:=Lib.hid (And.intro hR5 (And.intro hA5 hE5));have HV:=Lib.hid (And.intro hv1 hv2);clear hg hR5 hA5 hE5 hv1 hv2)
   have hg:=HG.out
   have hs5:=hg.size
   have hb5:Below w.heap.size w w5:=⟨hg.os.trans hb.os,hg.tape.trans hb.tape,hg.output.trans hb.output,Nat.le_trans hb.size hg.size,fun g hg'=>(hg.block g (by omega) (by intro e;injection e with e;omega)).trans (hb.block g hg')⟩
   obtain ⟨r1,r2,r3⟩:=HR5.out
   obtain ⟨g1,g2,g3,g4⟩:=six_heap r1 r2 r3 (by omega) (by omega) (by omega) n (.slice A1 (dig N).length (dig N).length) (.slice A2 (dig D).length (dig D).length) K 0 0
   have hno:∀g,(g=w.heap.size∨g=w.heap.size+1∨g=w.heap.size+1+1)→∀i z,w5.cell? ⟨g,i,none⟩≠some (.int .u32 z):=by
    rintro g (rfl | rfl | rfl) i z e
    ·simp only [World.cell?,r1] at e
     rcases i with _ | _ | _ | _ | i <;> simp at e
    ·simp only [World.cell?,r2] at e
     rcases i with _ | i <;> simp at e
    ·simp only [World.cell?,r3] at e
     rcases i with _ | i <;> simp at e
   have t1:IsT N (.slice A1 (dig N).length (dig N).length) w5:=⟨A1,rfl,HV.out.1⟩
   have t2:IsT D (.slice A2 (dig D).length (dig D).length) w5:=⟨A2,rfl,HV.out.2⟩
   have u1:=t1.step _ hno (fun g _ hne=>g4 g (fun e=>hne (.inl e)) (fun e=>hne (.inr (.inl e))) (fun e=>hne (.inr (.inr e))))
   have u2:=t2.step _ hno (fun g _ hne=>g4 g (fun e=>hne (.inl e)) (fun e=>hne (.inr (.inl e))) (fun e=>hne (.inr (.inr e))))
   have hb6:=below_set (below_set (below_set (below_set (below_set (below_set hb5 w.heap.size 0 (.bool n) (Nat.le_refl _)) w.heap.size 1 (.slice A1 (dig N).length (dig N).length) (Nat.le_refl _)) w.heap.size 2 (.slice A2 (dig D).length (dig D).length) (Nat.le_refl _)) w.heap.size 3 (.int .i64 K) (Nat.le_refl _)) (w.heap.size+1) 0 (.int .i64 0) (by omega)) (w.heap.size+1+1) 0 (.int .i64 0) (by omega)
   clear hno t1 t2 hb5 hs5 hg r1 r2 r3 g4 HR5 HG HV HW hb hsW hR hA hE k0 k1 k2 k3 k4 k5 z0 z1 z2 z3 z4 z5
   generalize ((((((w5.setCell ⟨w.heap.size,0,none⟩ (.bool n)).setCell ⟨w.heap.size,1,none⟩ (.slice A1 (dig N).length (dig N).length)).setCell ⟨w.heap.size,2,none⟩ (.slice A2 (dig D).length (dig D).length)).setCell ⟨w.heap.size,3,none⟩ (.int .i64 K)).setCell ⟨w.heap.size+1,0,none⟩ (.int .i64 0)).setCell ⟨w.heap.size+1+1,0,none⟩ (.int .i64 0))=W6 at *
   refine leaves_cons (f:=129) (args:=#[.pointer (some ⟨w.heap.size,0,none⟩),.pointer (some ⟨w.heap.size+1,0,none⟩),.pointer (some ⟨w.heap.size+1+1,0,none⟩)]) (by simp) (by simp [go_sem]) ?_
   refine (catch_i w.heap.size (w.heap.size+1) (w.heap.size+1+1) W6).mono ?_
   rintro e u' w'' ⟨rfl,rfl,hbi⟩
   have q1:=(hbi.block _ (Array.getElem?_eq_some_iff.1 g1).1).trans g1
   have q2:=(hbi.block _ (Array.getElem?_eq_some_iff.1 g2).1).trans g2
   have q3:=(hbi.block _ (Array.getElem?_eq_some_iff.1 g3).1).trans g3
   obtain ⟨k0,k1,k2,k3,k4,k5,_⟩:=res_cells q1 q2 q3
   refine ⟨.tuple #[.agg #[.bool n,.slice A1 (dig N).length (dig N).length,.slice A2 (dig D).length (dig D).length,.int .i64 K],.int .i64 0,.int .i64 0],by simp [results,Tryz.results122,go_sem,k0,k1,k2,k3,k4,k5],_,rfl,⟨_,_,rfl,IsT.mono _ _ _ _ hbi u1,IsT.mono _ _ _ _ hbi u2⟩,raft hb6 hbi⟩
end Go.Proofs.YtigmpifjcijdbaaGreatDoor
namespace Go.Proofs.YtigmpifjcijdbaaGreatDoor
set_option linter.unusedVariables false
set_option linter.unusedSimpArgs false
open Go.RowKit Verge
theorem ten_bits' (k:Nat):blen (10^k)≤4*k+1:=by
 rw [blen_lt]
 have h1:10^k≤16^k:=Nat.pow_le_pow_left (by omega) k
 have h2:16^k=2^(4*k):=by rw [Nat.pow_mul]
 have h3:2^(4*k)<2^(4*k+1):=Nat.pow_lt_pow_right (by omega) (by omega)
 omega
theorem blen_mul2 {x y i j:Nat} (h1:blen x≤i) (h2:blen y≤j):blen (x*y)≤i+j:=by
 rw [blen_lt] at h1 h2 ⊢
 rw [Nat.pow_add]
 exact Nat.lt_of_le_of_lt (Nat.mul_le_mul_left _ (Nat.le_of_lt h2)) (Nat.mul_lt_mul_of_pos_right h1 (Nat.two_pow_pos j))
theorem xvl_bd {e:List UInt8} (h:¬9999<numB 10 (sg e).2) : -9999≤xvl e∧xvl e≤9999:=by
 unfold xvl;split <;> omega
theorem sg_le' (r:List UInt8):(sg r).2.length≤r.length:=by
 cases r with
 | nil=>exact Nat.le_refl _
 | cons c s =>
  by_cases h:c.toNat=43∨c.toNat=45
  ·rw [sg_yes h];exact Nat.le_succ _
  ·rw [sg_no h];exact Nat.le_refl _
theorem pt_len (b:Option (List UInt8)):(ob b).length≤(pt b).length:=by cases b <;> simp [ob,pt]
theorem blen_one:blen 1≤60000:=Nat.le_trans (show blen 1≤1 by rw [blen_lt];decide) (by omega)
theorem scn_bd {l:List UInt8} {n:Bool} {N D:Nat} {K:Int} (h:scn l=.ok (n,N,D,K)):blen N≤60000∧blen D≤60000∧0<D ∧ -27000≤K∧K≤27000:=by
 unfold scn at h
 by_cases hL:4096<l.length
 ·rw [if_pos hL] at h;cases h
 ·rw [if_neg hL] at h
  cases hc:cut l with
  | error k=>rw [hc] at h;cases h
  | ok q =>
   obtain ⟨n',p⟩:=q
   rw [hc] at h
   dsimp only at h
   obtain ⟨-,hok⟩:=cut_ok hc
   have hT:=sg_le' l
   generalize (sg l).2=T at *
   cases hlate:p.late with
   | some kc=>rw [hlate] at h;cases h
   | none =>
    rw [hlate] at h
    injection h with h
    injection h with h1 h
    injection h with h2 h
    injection h with h3 h4
    subst h1 h2 h3 h4
    cases p with
    | hx a b e =>
     obtain ⟨z,x,p,hz,hx,hp,ht,ha,hb,hab,he,hed⟩:=hok
     have hlen:=congrArg List.length ht
     simp only [List.length_cons,List.length_append] at hlen
     have hpl:=pt_len b
     have hnl:¬9999<numB 10 (sg e).2:=by
      intro hh
      have:(Pc.hx a b e).late=some ((sg e).2.length,51):=if_pos hh
      rw [this] at hlate;cases hlate
     have hx:=xvl_bd hnl
     refine ⟨?_,blen_one,Nat.one_pos,?_,?_⟩
     ·refine Nat.le_trans (blenB (B:=16) (by omega) (l:=a++ob b) (fun c hc => ?_) (by rw [List.length_append];omega)) (by omega)
      rcases List.mem_append.1 hc with hc | hc
      ·exact dvl_X (ha c hc)
      ·exact dvl_X (hb c hc)
     ·show -27000≤xvl e - 4*((ob b).length:Int);omega
     ·show xvl e - 4*((ob b).length:Int)≤27000;omega
    | fr a d =>
     obtain ⟨s,hs,ht,ha,ha0,hd0,hd⟩:=hok
     have hlen:=congrArg List.length ht
     simp only [List.length_cons,List.length_append] at hlen
     have hnz:numB 10 d≠0:=by
      intro hh
      have:(Pc.fr a d).late=some (d.length,50):=if_pos hh
      rw [this] at hlate;cases hlate
     refine ⟨?_,?_,?_,?_,?_⟩
     ·exact Nat.le_trans (blenB (B:=10) (by omega) (l:=a) (fun c hc=>(dvl_D (ha c hc)).2) (by omega)) (by omega)
     ·exact Nat.le_trans (blenB (B:=10) (by omega) (l:=d) (fun c hc=>(dvl_D (hd c hc)).2) (by omega)) (by omega)
     ·show 0<numB 10 d;omega
     ·show (-27000:Int)≤0;omega
     ·show (0:Int)≤27000;omega
    | dc a b e =>
     have hX : -14095≤Pc.ten b e∧Pc.ten b e≤9999∧(a++ob b).length≤4096∧(∀c∈a++ob b,isD c=true):=by
      have hpl:=pt_len b
      cases e with
      | none =>
       obtain ⟨ht,ha,hb,hab⟩:=hok
       have hlen:=congrArg List.length ht
       simp only [List.length_append] at hlen
       refine ⟨?_,?_,by rw [List.length_append];omega,fun c hc => ?_⟩
       ·show (-14095:Int)≤0 - ((ob b).length:Int);omega
       ·show 0 - ((ob b).length:Int)≤9999;omega
       ·rcases List.mem_append.1 hc with hc | hc
        ·exact ha c hc
        ·exact hb c hc
      | some e =>
       obtain ⟨p,hp,ht,ha,hb,hab,he,hed⟩:=hok
       have hlen:=congrArg List.length ht
       simp only [List.length_append,List.length_cons] at hlen
       have hnl:¬9999<numB 10 (sg e).2:=by
        intro hh
        have:(Pc.dc a b (some e)).late=some ((sg e).2.length,51):=if_pos hh
        rw [this] at hlate;cases hlate
       have hx:=xvl_bd hnl
       refine ⟨?_,?_,by rw [List.length_append];omega,fun c hc => ?_⟩
       ·show (-14095:Int)≤xvl e - ((ob b).length:Int);omega
       ·show xvl e - ((ob b).length:Int)≤9999;omega
       ·rcases List.mem_append.1 hc with hc | hc
        ·exact ha c hc
        ·exact hb c hc
     obtain ⟨x1,x2,x3,x4⟩:=hX
     have hN:(Pc.dc a b e).num=numB 10 (a++ob b)*10^(Pc.ten b e).toNat:=rfl
     have hD:(Pc.dc a b e).den=10^(-Pc.ten b e).toNat:=rfl
     have hK:(Pc.dc a b e).two=0:=rfl
     rw [hN,hD,hK]
     refine ⟨?_,?_,Nat.pow_pos (by omega),by omega,by omega⟩
     ·refine Nat.le_trans (blen_mul2 (blenB (B:=10) (by omega) (fun c hc=>(dvl_D (x4 c hc)).2) (by omega)) (ten_bits' _)) ?_
      omega
     ·refine Nat.le_trans (ten_bits' _) ?_
      omega
theorem scn_code {l:List UInt8} {p:Nat} {c:Int} (h:scn l=.error (p,c)):c=2∨c=50∨c=51:=by
 unfold scn at h
 by_cases hL:4096<l.length
 ·rw [if_pos hL] at h
  injection h with h;injection h with _ h;exact .inl h.symm
 ·rw [if_neg hL] at h
  cases hc:cut l with
  | error k=>rw [hc] at h;injection h with h;injection h with _ h;exact .inr (.inl h.symm)
  | ok q =>
   obtain ⟨n',p'⟩:=q
   rw [hc] at h
   dsimp only at h
   cases hlate:p'.late with
   | none=>rw [hlate] at h;cases h
   | some kc =>
    obtain ⟨k,c'⟩:=kc
    rw [hlate] at h
    injection h with h;injection h with _ h
    subst h
    have hh:∀(q:Prop) [Decidable q] (a b:Nat×Int),(if q then some a else none)=some b→a=b:=fun q _ a b e=>by
     by_cases hq:q
     ·rw [if_pos hq] at e;injection e
     ·rw [if_neg hq] at e;cases e
    cases p' with
    | hx a b e=>have:=hh _ _ _ hlate;injection this with _ h2;exact .inr (.inr h2.symm)
    | fr a d=>have:=hh _ _ _ hlate;injection this with _ h2;exact .inr (.inl h2.symm)
    | dc a b e=>cases e with
     | none=>cases hlate
     | some e=>have:=hh _ _ _ hlate;injection this with _ h2;exact .inr (.inr h2.symm)
theorem scn_place {l:List UInt8} {p:Nat} {c:Int} (h:scn l=.error (p,c)):p≤4096:=by
 unfold scn at h
 by_cases hL:4096<l.length
 ·rw [if_pos hL] at h
  injection h with h;injection h with h _;omega
 ·rw [if_neg hL] at h
  cases hc:cut l with
  | error k=>rw [hc] at h;injection h with h;injection h with h _;omega
  | ok q =>
   obtain ⟨n',p'⟩:=q
   rw [hc] at h
   dsimp only at h
   cases hlate:p'.late with
   | none=>rw [hlate] at h;cases h
   | some kc =>
    rw [hlate] at h
    injection h with h;injection h with h _;omega
def ordS (x y:Bool×Nat×Nat×Int):Int:=icmp (sv x.1 (x.2.1*y.2.2.1*2^(x.2.2.2 - y.2.2.2).toNat)) (sv y.1 (y.2.1*x.2.2.1*2^(y.2.2.2 - x.2.2.2).toNat))
def cmpS (s t:List UInt8):Int×Int×Int:=
 match scn s with
 | .error (p,c)=>(0,(p:Int),c)
 | .ok x=>match scn t with
  | .error (p,c)=>(0,(s.length:Int)+1+(p:Int),c)
  | .ok y=>(ordS x y,0,0)
theorem icmp_mul (a b:Int) {c:Nat} (hc:0<c):icmp (a*c) (b*c)=icmp a b:=by
 have hc':(0:Int)<c:=by omega
 unfold icmp
 by_cases h:a<b
 ·rw [if_pos h,if_pos (Int.mul_lt_mul_of_pos_right h hc')]
 ·rw [if_neg h,if_neg (fun hh=>h (Int.lt_of_mul_lt_mul_right hh (by omega)))]
  by_cases e:a=b
  ·rw [if_pos e,if_pos (by rw [e])]
  ·rw [if_neg e,if_neg (fun hh=>e (Int.eq_of_mul_eq_mul_right (by omega) hh))]
theorem ordS_doc (n n':Bool) (N D N' D':Nat) (K K':Int) :
  icmp (sv n (N*2^K.toNat)*((D'*2^(-K').toNat:Nat):Int)) (sv n' (N'*2^K'.toNat)*((D*2^(-K).toNat:Nat):Int))=ordS (n,N,D,K) (n',N',D',K'):=by
 obtain ⟨m,hm⟩:∃m,K.toNat+(-K').toNat=(K - K').toNat+m:=⟨K.toNat+(-K').toNat - (K - K').toNat,by omega⟩
 have hm':K'.toNat+(-K).toNat=(K' - K).toNat+m:=by omega
 rw [←sv_mul,←sv_mul]
 have e1:N*2^K.toNat*(D'*2^(-K').toNat)=N*D'*2^(K - K').toNat*2^m:=by
  have:2^K.toNat*2^(-K').toNat=2^(K - K').toNat*2^m:=by rw [←Nat.pow_add,hm,Nat.pow_add]
  calc N*2^K.toNat*(D'*2^(-K').toNat)=N*D'*(2^K.toNat*2^(-K').toNat):=by ac_rfl
   _=N*D'*(2^(K - K').toNat*2^m):=by rw [this]
   _=_:=by ac_rfl
 have e2:N'*2^K'.toNat*(D*2^(-K).toNat)=N'*D*2^(K' - K).toNat*2^m:=by
  have:2^K'.toNat*2^(-K).toNat=2^(K' - K).toNat*2^m:=by rw [←Nat.pow_add,hm',Nat.pow_add]
  calc N'*2^K'.toNat*(D*2^(-K).toNat)=N'*D*(2^K'.toNat*2^(-K).toNat):=by ac_rfl
   _=N'*D*(2^(K' - K).toNat*2^m):=by rw [this]
   _=_:=by ac_rfl
 rw [e1,e2,sv_mul n _ (2^m),sv_mul n' _ (2^m)]
 exact icmp_mul _ _ (Nat.two_pow_pos m)
end Go.Proofs.YtigmpifjcijdbaaGreatDoor
namespace Go.Proofs.YtigmpifjcijdbaaGreatDoor
set_option linter.unusedVariables false
set_option linter.unusedSimpArgs false
open Go.RowKit Verge
theorem nm_cells {w:World} {b:Nat} {n:Bool} {V D:Value} {k:Int} (h:w.heap[b]?=some (nmO n V D k)) :
  w.cell? ⟨b,0,none⟩=some (.bool n)∧w.cell? ⟨b,1,none⟩=some V∧w.cell? ⟨b,2,none⟩=some D∧w.cell? ⟨b,3,none⟩=some (.int .i64 k):=by
 refine ⟨?_,?_,?_,?_⟩ <;> simp [World.cell?,h]
theorem dlen0 (n:Nat):(((dig n).length:Nat):Int)=0↔n=0:=by
 constructor
 ·intro h
  refine Classical.byContradiction fun hn => ?_
  have:=dig_length_pos hn
  omega
 ·rintro rfl;rw [dig_zero];rfl
theorem o_ff (a b:Nat):icmp (sv false a) (sv false b)=cmp a b:=by
 show icmp (a:Int) (b:Int)=cmp a b
 unfold icmp cmp;repeat' split
 all_goals omega
theorem o_tt (a b:Nat):icmp (sv true a) (sv true b) = -cmp a b:=by
 show icmp (-(a:Int)) (-(b:Int)) = -cmp a b
 unfold icmp cmp;repeat' split
 all_goals omega
theorem o_tf (a b:Nat):icmp (sv true a) (sv false b)=if a=0∧b=0 then 0 else -1:=by
 show icmp (-(a:Int)) (b:Int)=_
 unfold icmp;repeat' split
 all_goals omega
theorem o_ft (a b:Nat):icmp (sv false a) (sv true b)=if a=0∧b=0 then 0 else 1:=by
 show icmp (a:Int) (-(b:Int))=_
 unfold icmp;repeat' split
 all_goals omega
theorem two_bits (k:Nat):blen (2^k)≤k+1:=(blen_lt _ _).2 (Nat.pow_lt_pow_right (by omega) (by omega))
structure Nm2 (w0:World) (b c:Nat) (n n':Bool) (N D N' D':Nat) (K K':Int) (V1 V2 U1 U2:Value) (w:World):Prop where
 below:Below w0.heap.size w0 w
 h1:w.heap[b]?=some (nmO n V1 V2 K)
 h2:w.heap[c]?=some (nmO n' U1 U2 K')
 t1:IsT N V1 w
 t2:IsT D V2 w
 t3:IsT N' U1 w
 t4:IsT D' U2 w
theorem Nm2.go {w0:World} {b c:Nat} {n n':Bool} {N D N' D':Nat} {K K':Int} {V1 V2 U1 U2:Value} {w w':World} (h:Nm2 w0 b c n n' N D N' D' K K' V1 V2 U1 U2 w) (hb:Below w.heap.size w w'):Nm2 w0 b c n n' N D N' D' K K' V1 V2 U1 U2 w':=
 ⟨raft h.below hb,(hb.block _ (Array.getElem?_eq_some_iff.1 h.h1).1).trans h.h1,(hb.block _ (Array.getElem?_eq_some_iff.1 h.h2).1).trans h.h2,IsT.mono _ _ _ _ hb h.t1,IsT.mono _ _ _ _ hb h.t2,IsT.mono _ _ _ _ hb h.t3,IsT.mono _ _ _ _ hb h.t4⟩
abbrev IsI (x:Int×Int×Int):Value→World→Prop:=IsV (.tuple #[.int .i64 x.1,.int .i64 x.2.1,.int .i64 x.2.2])
set_option maxRecDepth 100000 in
set_option maxHeartbeats 4000000 in
theorem cmpA_any (s t:List UInt8) (hs:s.length≤140737488355328) (ht:t.length≤140737488355328) (w:World):Calls Tryz.prog 121 #[.string (bs s),.string (bs t)] w (Ans w (IsI (cmpS s t))):=by
 have h1:=fun W=>scan_any s hs W
 have h2:=fun W=>scan_any t ht W
 have hsz:(bs s).size=s.length:=bs_size s
 unfold cmpS
 have hLI:(s.length:Int)≤140737488355328:=by omega
 generalize s.length=L at hsz hLI ⊢
 cases hs':scn s with
 | error pc =>
  obtain ⟨p,c⟩:=pc
  rw [hs'] at h1
  have hc:=scn_code hs'
  have hcn:(c != 0)=true:=by rcases hc with rfl | rfl | rfl <;> rfl
  have HS1:=Lib.hid h1
  generalize bs s=S at *
  generalize bs t=T at *
  clear h1 h2 hc hs'
  go_enter Tryz.func121,Tryz.ntmps121
  go_wp2_with (go_at_call 122;(with_reducible refine (HS1.out _).mono ?_);rintro e w1 ⟨v1,rfl,rfl,hb1⟩)
  refine bodyPost_ret (v:=.tuple #[.int .i64 0,.int .i64 (p:Int),.int .i64 c]) (by simp [results,Tryz.results121,go_sem]) rfl ?_
  exact ⟨_,rfl,rfl,raft hb1 (rnew w1 _)⟩
 | ok x =>
  obtain ⟨n,N,D,K⟩:=x
  rw [hs'] at h1
  obtain ⟨b1,b2,b3,b4,b5⟩:=scn_bd hs'
  cases ht':scn t with
  | error pc =>
   obtain ⟨p,c⟩:=pc
   rw [ht'] at h2
   have hc:=scn_code ht'
   have hcn:(c != 0)=true:=by rcases hc with rfl | rfl | rfl <;> rfl
   have hp:=scn_place ht'
   have HS1:=Lib.hid h1
   have HS2:=Lib.hid h2
   generalize bs s=S at *
   generalize bs t=T at *
   clear h1 h2 hc hs' ht'
   go_enter Tryz.func121,Tryz.ntmps121
   go_wp2_with (first
    | (go_at_call 122;(with_reducible refine (HS1.out _).mono ?_);rintro e w1 ⟨v1,rfl,⟨x1,x2,rfl,⟨X1,rfl,hX1⟩,⟨X2,rfl,hX2⟩⟩,hb1⟩;have HB1:=Lib.hid hb1;clear hb1 hX1 hX2)
    | (go_at_call 122;(with_reducible refine (HS2.out _).mono ?_);rintro e w2 ⟨v2,rfl,rfl,hb2⟩;have HB2:=Lib.hid hb2;clear hb2))
   refine bodyPost_ret (v:=.tuple #[.int .i64 0,.int .i64 ((L:Int)+1+(p:Int)),.int .i64 c]) (by simp [results,Tryz.results121,go_sem]) rfl ?_
   exact ⟨_,rfl,rfl,raft (raft (raft HB1.out (rnew _ _)) HB2.out) (rnew _ _)⟩
  | ok y =>
   obtain ⟨n',N',D',K'⟩:=y
   rw [ht'] at h2
   obtain ⟨b6,b7,b8,b9,b10⟩:=scn_bd ht'
   dsimp only
   have HS1:=Lib.hid h1
   have HS2:=Lib.hid h2
   generalize bs s=S at *
   generalize bs t=T at *
   have HBL:=Lib.hid (And.intro (show blen (N*D')≤120000 from blen_mul2 b1 b7) (show blen (N'*D)≤120000 from blen_mul2 b6 b2))
   have HB0:=Lib.hid (And.intro b1 (And.intro b2 (And.intro b6 b7)))
   clear h1 h2 hs' ht' b1 b2 b6 b7
   obtain ⟨o,ho⟩:∃o,ordS (n,N,D,K) (n',N',D',K')=o:=⟨_,rfl⟩
   rw [ho]
   have HO:=Lib.hid ho
   clear ho
   go_enter Tryz.func121,Tryz.ntmps121
   go_upto_if 60 with (first
    | (go_at_call 122;(with_reducible refine (HS1.out _).mono ?_);rintro e w1 ⟨v1,rfl,⟨x1,x2,rfl,⟨X1,rfl,hX1⟩,⟨X2,rfl,hX2⟩⟩,hb1⟩;have HB1:=Lib.hid (And.intro (raft hb1 (rnew w1 (nmO n (.slice X1 (dig N).length (dig N).length) (.slice X2 (dig D).length (dig D).length) K))) (And.intro (heap_alloc_new w1 (nmO n (.slice X1 (dig N).length (dig N).length) (.slice X2 (dig D).length (dig D).length) K)) (And.intro (IsT.mono N _ _ _ (rnew w1 (nmO n (.slice X1 (dig N).length (dig N).length) (.slice X2 (dig D).length (dig D).length) K)) ⟨X1,rfl,hX1⟩) (IsT.mono D _ _ _ (rnew w1 (nmO n (.slice X1 (dig N).length (dig N).length) (.slice X2 (dig D).length (dig D).length) K)) ⟨X2,rfl,hX2⟩))));clear hb1 hX1 hX2)
    | (go_at_call 122;(with_reducible refine (HS2.out _).mono ?_);rintro e w2 ⟨v2,rfl,⟨x3,x4,rfl,⟨X3,rfl,hX3⟩,⟨X4,rfl,hX4⟩⟩,hb2⟩;have hbb:=raft hb2 (rnew w2 (nmO n' (.slice X3 (dig N').length (dig N').length) (.slice X4 (dig D').length (dig D').length) K'));have hnm:Nm2 w w1.heap.size w2.heap.size n n' N D N' D' K K' _ _ _ _ _:=⟨raft HB1.out.1 hbb,(hbb.block _ (Array.getElem?_eq_some_iff.1 HB1.out.2.1).1).trans HB1.out.2.1,heap_alloc_new w2 (nmO n' (.slice X3 (dig N').length (dig N').length) (.slice X4 (dig D').length (dig D').length) K'),IsT.mono _ _ _ _ hbb HB1.out.2.2.1,IsT.mono _ _ _ _ hbb HB1.out.2.2.2,IsT.mono N' _ _ _ (rnew w2 (nmO n' (.slice X3 (dig N').length (dig N').length) (.slice X4 (dig D').length (dig D').length) K')) ⟨X3,rfl,hX3⟩,IsT.mono D' _ _ _ (rnew w2 (nmO n' (.slice X3 (dig N').length (dig N').length) (.slice X4 (dig D').length (dig D').length) K')) ⟨X4,rfl,hX4⟩⟩;obtain ⟨c0,c1,c2,c3⟩:=nm_cells hnm.h1;obtain ⟨d0,d1,d2,d3⟩:=nm_cells hnm.h2;have HN:=Lib.hid hnm;clear hnm hbb hb2 hX3 hX4)
    | (go_at_call 80;(with_reducible refine (nmul_is HN.out.t1 HN.out.t4 (Nat.le_trans HB0.out.1 (by omega)) (Nat.le_trans HB0.out.2.2.2 (by omega))).mono ?_);rintro e w3 ⟨v3,rfl,⟨m1,m2,rfl,hm1,rfl⟩,hb3⟩;have hnm:=HN.out.go hb3;obtain ⟨c30,c31,c32,c33⟩:=nm_cells hnm.h1;obtain ⟨d30,d31,d32,d33⟩:=nm_cells hnm.h2;have HN3:=Lib.hid hnm;have HA:=Lib.hid hm1;clear hnm hb3 hm1)
    | (go_at_call 80;(with_reducible refine (nmul_is HN3.out.t3 HN3.out.t2 (Nat.le_trans HB0.out.2.2.1 (by omega)) (Nat.le_trans HB0.out.2.1 (by omega))).mono ?_);rintro e w4 ⟨v4,rfl,⟨m3,m4,rfl,hm3,rfl⟩,hb4⟩;have hnm:=HN3.out.go hb4;obtain ⟨c40,c41,c42,c43⟩:=nm_cells hnm.h1;obtain ⟨d40,d41,d42,d43⟩:=nm_cells hnm.h2;have HN4:=Lib.hid hnm;have HAB:=Lib.hid (And.intro (IsT.mono _ _ _ _ hb4 HA.out) hm3);clear hnm hb4 hm3))
   go_cut [9,11] (fun u9 u11 wx=>Hid (Nm2 w w1.heap.size w2.heap.size n n' N D N' D' K K' (.slice X1 (dig N).length (dig N).length) (.slice X2 (dig D).length (dig D).length) (.slice X3 (dig N').length (dig N').length) (.slice X4 (dig D').length (dig D').length) wx∧IsT (N*D'*2^(K - K').toNat) u9 wx∧IsT (N'*D*2^(K' - K).toNat) u11 wx))
   case first =>
    by_cases hk:0<K - K'
    ·have he:((K - K').toNat:Int)=K - K':=by omega
     have h0:(K' - K).toNat=0:=by omega
     have hsh:=fun W v (hv:IsT (N*D') v W)=>nshl_is (K - K').toNat hv (by have:=HBL.out.1;omega)
     rw [he] at hsh
     have HSh:=Lib.hid hsh
     clear hsh he
     go_wp2_with (go_at_call 75;refine (HSh.out _ _ HAB.out.1).mono ?_;rintro e w5 ⟨v5,rfl,⟨m5,m6,rfl,hm5,rfl⟩,hb5⟩;have hnm:=HN4.out.go hb5;have HN5:=Lib.hid hnm;have HA5:=Lib.hid (And.intro hm5 (IsT.mono _ _ _ _ hb5 HAB.out.2));clear hnm hb5 hm5)
     go_meet
     exact Lib.hid ⟨HN5.out,HA5.out.1,by rw [h0,Nat.pow_zero,Nat.mul_one];exact HA5.out.2⟩
    ·have he:((K' - K).toNat:Int)=K' - K:=by omega
     have h0:(K - K').toNat=0:=by omega
     have hsh:=fun W v (hv:IsT (N'*D) v W)=>nshl_is (K' - K).toNat hv (by have:=HBL.out.2;omega)
     rw [he] at hsh
     have HSh:=Lib.hid hsh
     clear hsh he
     have hng : -(K - K')=K' - K:=by omega
     go_wp2_with (go_at_call 75;(first | refine (HSh.out _ _ HAB.out.2).mono ?_ | (rw [hng];refine (HSh.out _ _ HAB.out.2).mono ?_));rintro e w5 ⟨v5,rfl,⟨m5,m6,rfl,hm5,rfl⟩,hb5⟩;have hnm:=HN4.out.go hb5;have HN5:=Lib.hid hnm;have HA5:=Lib.hid (And.intro (IsT.mono _ _ _ _ hb5 HAB.out.1) hm5);clear hnm hb5 hm5)
     go_meet
     exact Lib.hid ⟨HN5.out,by rw [h0,Nat.pow_zero,Nat.mul_one];exact HA5.out.1,HA5.out.2⟩
   case rest =>
    have HR:=hcut
    clear hcut HN HN3 HN4 HA HAB c0 c1 c2 c3 d0 d1 d2 d3 c30 c31 c32 c33 d30 d31 d32 d33 c40 c41 c42 c43 d40 d41 d42 d43
    obtain ⟨hnm,⟨A9,rfl,r9⟩,⟨A11,rfl,r11⟩⟩:=HR.out
    obtain ⟨c0,c1,c2,c3⟩:=nm_cells hnm.h1
    obtain ⟨d0,d1,d2,d3⟩:=nm_cells hnm.h2
    have hHO:=HO.out
    unfold ordS at hHO
    dsimp only at hHO
    have hba:blen (N*D'*2^(K - K').toNat)≤500000:=Nat.le_trans (blen_mul2 HBL.out.1 (Nat.le_trans (two_bits (K - K').toNat) (show (K - K').toNat+1≤60000 by omega))) (by omega)
    have hbb:blen (N'*D*2^(K' - K).toNat)≤500000:=Nat.le_trans (blen_mul2 HBL.out.2 (Nat.le_trans (two_bits (K' - K).toNat) (show (K' - K).toNat+1≤60000 by omega))) (by omega)
    have hB:=hnm.below
    have HNM:=Lib.hid hnm
    generalize N*D'*2^(K - K').toNat=a0 at *
    generalize N'*D*2^(K' - K).toNat=b0 at *
    have hcmp:=ncmp_is (w:=wc) (v:=.slice A9 (dig a0).length (dig a0).length) (u:=.slice A11 (dig b0).length (dig b0).length) ⟨A9,rfl,r9⟩ ⟨A11,rfl,r11⟩ hba hbb
    have HC:=Lib.hid hcmp
    have HB:=Lib.hid hB
    have HHO:=Lib.hid hHO
    have za:(dig a0).length=0↔a0=0:=by have:=dlen0 a0;omega
    have zb:(dig b0).length=0↔b0=0:=by have:=dlen0 b0;omega
    clear hnm hcmp hB hHO r9 r11 hba hbb HR
    generalize (dig a0).length=ka at *
    generalize (dig b0).length=kb at *
    obtain ⟨x,hx⟩:∃x,cmp a0 b0=x:=⟨_,rfl⟩
    rw [hx] at HC
    have hx1 : -1≤x∧x≤1:=by rw [←hx];unfold cmp;split <;> (try split) <;> omega
    have HX:=Lib.hid hx
    obtain ⟨hxa,hxb⟩:=hx1
    clear hx
    by_cases ha:a0=0
    ·have e1:ka=0:=za.2 ha
     subst e1
     by_cases hb:b0=0
     ·have e3:kb=0:=zb.2 hb
      subst e3
      clear za zb
      cases n with
      | true =>
       cases n' with
       | true =>
        have ho:o=0:=by
         have this:=HHO.out
         have hx:=HX.out
         rw [o_tt] at this
         clear HHO HX HC HB HO HS1 HS2 HBL HB0
         unfold cmp at *
         revert hx this
         repeat' split
         all_goals (intros;omega)
        subst ho
        go_wp2
        refine bodyPost_ret (v:=.tuple #[.int .i64 (0),.int .i64 0,.int .i64 0]) (by simp [results,Tryz.results121,go_sem]) rfl ?_
        exact ⟨_,rfl,rfl,HB.out⟩
       | false =>
        have ho:o=0:=by
         have this:=HHO.out
         have hx:=HX.out
         rw [o_tf] at this
         clear HHO HX HC HB HO HS1 HS2 HBL HB0
         unfold cmp at *
         revert hx this
         repeat' split
         all_goals (intros;omega)
        subst ho
        go_wp2
        refine bodyPost_ret (v:=.tuple #[.int .i64 (0),.int .i64 0,.int .i64 0]) (by simp [results,Tryz.results121,go_sem]) rfl ?_
        exact ⟨_,rfl,rfl,HB.out⟩
      | false =>
       cases n' with
       | true =>
        have ho:o=0:=by
         have this:=HHO.out
         have hx:=HX.out
         rw [o_ft] at this
         clear HHO HX HC HB HO HS1 HS2 HBL HB0
         unfold cmp at *
         revert hx this
         repeat' split
         all_goals (intros;omega)
        subst ho
        go_wp2
        refine bodyPost_ret (v:=.tuple #[.int .i64 (0),.int .i64 0,.int .i64 0]) (by simp [results,Tryz.results121,go_sem]) rfl ?_
        exact ⟨_,rfl,rfl,HB.out⟩
       | false =>
        have ho:o=0:=by
         have this:=HHO.out
         have hx:=HX.out
         rw [o_ff] at this
         clear HHO HX HC HB HO HS1 HS2 HBL HB0
         unfold cmp at *
         revert hx this
         repeat' split
         all_goals (intros;omega)
        subst ho
        go_wp2
        refine bodyPost_ret (v:=.tuple #[.int .i64 (0),.int .i64 0,.int .i64 0]) (by simp [results,Tryz.results121,go_sem]) rfl ?_
        exact ⟨_,rfl,rfl,HB.out⟩
     ·have e3:0<kb:=Nat.pos_of_ne_zero (fun e=>hb (zb.1 e))
      have e3':(0:Int)<(kb:Int):=by omega
      have e3'':¬kb=0:=by omega
      have f3:(kb==0)=false:=by simp only [beq_eq_false_iff_ne,ne_eq];omega
      have g3:decide (0<kb)=true:=by simp only [decide_eq_true_eq];omega
      clear za zb
      cases n with
      | true =>
       cases n' with
       | true =>
        have ho:o=1:=by
         have this:=HHO.out
         have hx:=HX.out
         rw [o_tt] at this
         clear HHO HX HC HB HO HS1 HS2 HBL HB0
         unfold cmp at *
         revert hx this
         repeat' split
         all_goals (intros;omega)
        subst ho
        go_wp2
        refine bodyPost_ret (v:=.tuple #[.int .i64 (1),.int .i64 0,.int .i64 0]) (by simp [results,Tryz.results121,go_sem]) rfl ?_
        exact ⟨_,rfl,rfl,HB.out⟩
       | false =>
        have ho:o=x:=by
         have this:=HHO.out
         have hx:=HX.out
         rw [o_tf] at this
         clear HHO HX HC HB HO HS1 HS2 HBL HB0
         unfold cmp at *
         revert hx this
         repeat' split
         all_goals (intros;omega)
        subst ho
        go_wp2_with (go_at_call 107;refine (HC.out).mono ?_;rintro e w6 ⟨v6,rfl,rfl,hb6⟩;have hnm:=HNM.out.go hb6;obtain ⟨c60,c61,c62,c63⟩:=nm_cells hnm.h1;clear hnm)
        refine bodyPost_ret (v:=.tuple #[.int .i64 o,.int .i64 0,.int .i64 0]) (by simp [results,Tryz.results121,go_sem]) rfl ?_
        exact ⟨_,rfl,rfl,raft HB.out hb6⟩
      | false =>
       cases n' with
       | true =>
        have ho:o=1:=by
         have this:=HHO.out
         have hx:=HX.out
         rw [o_ft] at this
         clear HHO HX HC HB HO HS1 HS2 HBL HB0
         unfold cmp at *
         revert hx this
         repeat' split
         all_goals (intros;omega)
        subst ho
        go_wp2
        refine bodyPost_ret (v:=.tuple #[.int .i64 (1),.int .i64 0,.int .i64 0]) (by simp [results,Tryz.results121,go_sem]) rfl ?_
        exact ⟨_,rfl,rfl,HB.out⟩
       | false =>
        have ho:o=x:=by
         have this:=HHO.out
         have hx:=HX.out
         rw [o_ff] at this
         clear HHO HX HC HB HO HS1 HS2 HBL HB0
         unfold cmp at *
         revert hx this
         repeat' split
         all_goals (intros;omega)
        subst ho
        go_wp2_with (go_at_call 107;refine (HC.out).mono ?_;rintro e w6 ⟨v6,rfl,rfl,hb6⟩;have hnm:=HNM.out.go hb6;obtain ⟨c60,c61,c62,c63⟩:=nm_cells hnm.h1;clear hnm)
        refine bodyPost_ret (v:=.tuple #[.int .i64 o,.int .i64 0,.int .i64 0]) (by simp [results,Tryz.results121,go_sem]) rfl ?_
        exact ⟨_,rfl,rfl,raft HB.out hb6⟩
    ·have e1:0<ka:=Nat.pos_of_ne_zero (fun e=>ha (za.1 e))
     have e1':(0:Int)<(ka:Int):=by omega
     have e1'':¬ka=0:=by omega
     have f1:(ka==0)=false:=by simp only [beq_eq_false_iff_ne,ne_eq];omega
     have g1:decide (0<ka)=true:=by simp only [decide_eq_true_eq];omega
     by_cases hb:b0=0
     ·have e3:kb=0:=zb.2 hb
      subst e3
      clear za zb
      cases n with
      | true =>
       cases n' with
       | true =>
        have ho:o = -1:=by
         have this:=HHO.out
         have hx:=HX.out
         rw [o_tt] at this
         clear HHO HX HC HB HO HS1 HS2 HBL HB0
         unfold cmp at *
         revert hx this
         repeat' split
         all_goals (intros;omega)
        subst ho
        go_wp2
        refine bodyPost_ret (v:=.tuple #[.int .i64 (-1),.int .i64 0,.int .i64 0]) (by simp [results,Tryz.results121,go_sem]) rfl ?_
        exact ⟨_,rfl,rfl,HB.out⟩
       | false =>
        have ho:o = -1:=by
         have this:=HHO.out
         have hx:=HX.out
         rw [o_tf] at this
         clear HHO HX HC HB HO HS1 HS2 HBL HB0
         unfold cmp at *
         revert hx this
         repeat' split
         all_goals (intros;omega)
        subst ho
        go_wp2
        refine bodyPost_ret (v:=.tuple #[.int .i64 (-1),.int .i64 0,.int .i64 0]) (by simp [results,Tryz.results121,go_sem]) rfl ?_
        exact ⟨_,rfl,rfl,HB.out⟩
      | false =>
       cases n' with
       | true =>
        have ho:o=x:=by
         have this:=HHO.out
         have hx:=HX.out
         rw [o_ft] at this
         clear HHO HX HC HB HO HS1 HS2 HBL HB0
         unfold cmp at *
         revert hx this
         repeat' split
         all_goals (intros;omega)
        subst ho
        go_wp2_with (go_at_call 107;refine (HC.out).mono ?_;rintro e w6 ⟨v6,rfl,rfl,hb6⟩;have hnm:=HNM.out.go hb6;obtain ⟨c60,c61,c62,c63⟩:=nm_cells hnm.h1;clear hnm)
        refine bodyPost_ret (v:=.tuple #[.int .i64 o,.int .i64 0,.int .i64 0]) (by simp [results,Tryz.results121,go_sem]) rfl ?_
        exact ⟨_,rfl,rfl,raft HB.out hb6⟩
       | false =>
        have ho:o=x:=by
         have this:=HHO.out
         have hx:=HX.out
         rw [o_ff] at this
         clear HHO HX HC HB HO HS1 HS2 HBL HB0
         unfold cmp at *
         revert hx this
         repeat' split
         all_goals (intros;omega)
        subst ho
        go_wp2_with (go_at_call 107;refine (HC.out).mono ?_;rintro e w6 ⟨v6,rfl,rfl,hb6⟩;have hnm:=HNM.out.go hb6;obtain ⟨c60,c61,c62,c63⟩:=nm_cells hnm.h1;clear hnm)
        refine bodyPost_ret (v:=.tuple #[.int .i64 o,.int .i64 0,.int .i64 0]) (by simp [results,Tryz.results121,go_sem]) rfl ?_
        exact ⟨_,rfl,rfl,raft HB.out hb6⟩
     ·have e3:0<kb:=Nat.pos_of_ne_zero (fun e=>hb (zb.1 e))
      have e3':(0:Int)<(kb:Int):=by omega
      have e3'':¬kb=0:=by omega
      have f3:(kb==0)=false:=by simp only [beq_eq_false_iff_ne,ne_eq];omega
      have g3:decide (0<kb)=true:=by simp only [decide_eq_true_eq];omega
      clear za zb
      cases n with
      | true =>
       cases n' with
       | true =>
        have ho:o = -x:=by
         have this:=HHO.out
         have hx:=HX.out
         rw [o_tt] at this
         clear HHO HX HC HB HO HS1 HS2 HBL HB0
         unfold cmp at *
         revert hx this
         repeat' split
         all_goals (intros;omega)
        subst ho
        go_wp2_with (go_at_call 107;refine (HC.out).mono ?_;rintro e w6 ⟨v6,rfl,rfl,hb6⟩;have hnm:=HNM.out.go hb6;obtain ⟨c60,c61,c62,c63⟩:=nm_cells hnm.h1;clear hnm)
        refine bodyPost_ret (v:=.tuple #[.int .i64 (-x),.int .i64 0,.int .i64 0]) (by simp [results,Tryz.results121,go_sem]) rfl ?_
        exact ⟨_,rfl,rfl,raft HB.out hb6⟩
       | false =>
        have ho:o = -1:=by
         have this:=HHO.out
         have hx:=HX.out
         rw [o_tf] at this
         clear HHO HX HC HB HO HS1 HS2 HBL HB0
         unfold cmp at *
         revert hx this
         repeat' split
         all_goals (intros;omega)
        subst ho
        go_wp2
        refine bodyPost_ret (v:=.tuple #[.int .i64 (-1),.int .i64 0,.int .i64 0]) (by simp [results,Tryz.results121,go_sem]) rfl ?_
        exact ⟨_,rfl,rfl,HB.out⟩
      | false =>
       cases n' with
       | true =>
        have ho:o=1:=by
         have this:=HHO.out
         have hx:=HX.out
         rw [o_ft] at this
         clear HHO HX HC HB HO HS1 HS2 HBL HB0
         unfold cmp at *
         revert hx this
         repeat' split
         all_goals (intros;omega)
        subst ho
        go_wp2
        refine bodyPost_ret (v:=.tuple #[.int .i64 (1),.int .i64 0,.int .i64 0]) (by simp [results,Tryz.results121,go_sem]) rfl ?_
        exact ⟨_,rfl,rfl,HB.out⟩
       | false =>
        have ho:o=x:=by
         have this:=HHO.out
         have hx:=HX.out
         rw [o_ff] at this
         clear HHO HX HC HB HO HS1 HS2 HBL HB0
         unfold cmp at *
         revert hx this
         repeat' split
         all_goals (intros;omega)
        subst ho
        go_wp2_with (go_at_call 107;refine (HC.out).mono ?_;rintro e w6 ⟨v6,rfl,rfl,hb6⟩;have hnm:=HNM.out.go hb6;obtain ⟨c60,c61,c62,c63⟩:=nm_cells hnm.h1;clear hnm)
        refine bodyPost_ret (v:=.tuple #[.int .i64 o,.int .i64 0,.int .i64 0]) (by simp [results,Tryz.results121,go_sem]) rfl ?_
        exact ⟨_,rfl,rfl,raft HB.out hb6⟩
end Go.Proofs.YtigmpifjcijdbaaGreatDoor
namespace Go.Proofs.YtigmpifjcijdbaaGreatDoor
set_option linter.unusedVariables false
set_option linter.unusedSimpArgs false
open Go.RowKit Verge
theorem bs_of (s:ByteArray):s=bs s.data.toList:=by apply ByteArray.ext;simp [bs]
abbrev rtO (s:Bool) (V D:Value):Obj:=.cells #[.bool s,V,D] 25
theorem rt_cells {w:World} {b:Nat} {s:Bool} {V D:Value} (h:w.heap[b]?=some (rtO s V D)):w.cell? ⟨b,0,none⟩=some (.bool s)∧w.cell? ⟨b,1,none⟩=some V∧w.cell? ⟨b,2,none⟩=some D:=by
 refine ⟨?_,?_,?_⟩ <;> simp [World.cell?,h]
end Go.Proofs.YtigmpifjcijdbaaGreatDoor
