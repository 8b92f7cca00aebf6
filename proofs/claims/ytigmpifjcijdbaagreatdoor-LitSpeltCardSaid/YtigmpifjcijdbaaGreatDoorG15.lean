/- A law on regions that draw their order: each operation is looked at once, at whatever stage it comes up. -/
import Derived.Orders
import Derived.Below
import Derived.Test.YtigmpifjcijdbaaGreatDoorG14
section
namespace Go.Proofs.YtigmpifjcijdbaaGreatDoor
set_option linter.unusedVariables false
set_option linter.unusedSimpArgs false
open Go Go.RowKit
def ownerOf (ops:Array Oper) (s:Nat):Option Nat:=(List.range ops.size).find? fun j=>match ops[j]? with | some o=>o.dst==some s | none=>false
def waitsB (ops:Array Oper) (i j:Nat):Bool:=match ops[i]? with | some o=>o.after.toList.any fun e=>Region.binds .any e&&e.on==j | none=>false
def seenBy (ops:Array Oper) (i s:Nat):Option Nat:=match ownerOf ops s with | some j=>if waitsB ops i j then some j else none | none=>none
def regOne (ops:Array Oper) (n:Nat) (i:Nat) (o:Oper):Bool:=
 o.after.all (fun e => !Region.binds .any e||decide (e.on<i)) &&
 (o.looksAt ops).all (fun s=>match ownerOf ops s with | none=>true | some j=>waitsB ops i j||waitsB ops j i) &&
 (match o.dst with | none=>true | some d=>ownerOf ops d==some i&&decide (d<n))
def regOk (ops:Array Oper) (n:Nat):Bool:=(List.range ops.size).all fun i=>match ops[i]? with | none=>true | some o=>regOne ops n i o
def Does (P:Program) (o:Oper) (a:Act) (w:World) (C:Value→World→Prop):Prop:=
 ∀K:Act→World→Prop,(∀v w',C v w'→K (a.put o.dst v) w')→o.wp P a w K (fun _ _ _=>False)
def Will (P:Program) (ops:Array Oper) (o:Oper) (a:Act) (w:World) (C:Value→World→Prop):Prop:=
 if Region.wanted o (yielded ops a.tmps)=true then Does P o a w C else C undef w
def Sees (ops:Array Oper) (Φ:Nat→Value→World→Prop) (a0:Act) (i:Nat) (a:Act) (w:World):List Nat→Prop
 | []=>True
 | s::ss=>(match seenBy ops i s with | some j=>Φ j (a.tmps.getD s undef) w | none=>a.tmps.getD s undef=a0.tmps.getD s undef)∧Sees ops Φ a0 i a w ss
def Each (P:Program) (ops:Array Oper) (Φ:Nat→Value→World→Prop) (a0:Act) (w0:World):Nat→List Oper→Prop
 | _,[]=>True
 | i,o::os=>(∀(a:Act) (w:World),a.tmps.size=a0.tmps.size→Below w0.heap.size w0 w→Sees ops Φ a0 i a w (o.looksAt ops)→Will P ops o a w (fun v w'=>Below w.heap.size w w'∧Φ i v w'))∧Each P ops Φ a0 w0 (i+1) os
def putFrom (f:Nat→Value):Nat→List Oper→Act→Act
 | _,[],a=>a
 | i,o::os,a=>putFrom f (i+1) os (a.put o.dst (f i))
def HoldFrom (Φ:Nat→Value→World→Prop) (f:Nat→Value) (w:World):Nat→List Oper→Prop
 | _,[]=>True
 | i,_::os=>Φ i (f i) w∧HoldFrom Φ f w (i+1) os
section
variable {P:Program} {ops:Array Oper} {Φ:Nat→Value→World→Prop} {a0:Act} {w0:World} {Q:Exit→Act→World→Prop}
theorem reg_below_trans {a b c:World} (h1:Below a.heap.size a b) (h2:Below b.heap.size b c):Below a.heap.size a c:=h1.trans (h2.mono h1.size)
theorem each_get:∀(os:List Oper) (k:Nat),Each P ops Φ a0 w0 k os→∀(j:Nat) (o:Oper),os[j]?=some o →
  ∀(a:Act) (w:World),a.tmps.size=a0.tmps.size→Below w0.heap.size w0 w→Sees ops Φ a0 (k+j) a w (o.looksAt ops)→Will P ops o a w (fun v w'=>Below w.heap.size w w'∧Φ (k+j) v w')
 | [],k,_,j,o,ho=>by simp at ho
 | o'::os,k,h,0,o,ho=>by
  simp at ho;subst ho
  exact h.1
 | o'::os,k,h,j+1,o,ho=>by
  simp at ho
  have:=each_get os (k+1) h.2 j o ho
  rw [show k+1+j=k+(j+1) by omega] at this
  exact this
theorem hold_of (f:Nat→Value) (w:World):∀(os:List Oper) (k:Nat),(∀j,j<os.length→Φ (k+j) (f (k+j)) w)→HoldFrom Φ f w k os
 | [],_,_=>trivial
 | o::os,k,h=>⟨h 0 (by simp),hold_of f w os (k+1) fun j hj=>by
  have:=h (j+1) (by simp;omega)
  rwa [show k+(j+1)=k+1+j by omega] at this⟩
def Desc (ops:Array Oper) (a0:Act) (L:Nat→Bool) (f:Nat→Value) (a:Act):Prop:=
 a.defers=a0.defers∧a.tmps.size=a0.tmps.size∧∀s,s<a0.tmps.size→a.tmps.getD s undef=(match ownerOf ops s with | some j=>if L j=true then f j else a0.tmps.getD s undef | none=>a0.tmps.getD s undef)
theorem owner_spec {s j:Nat} (h:ownerOf ops s=some j):∃o,ops[j]?=some o∧o.dst=some s:=by
 unfold ownerOf at h
 have:=List.find?_some h
 cases ho:ops[j]? with
 | none=>simp [ho] at this
 | some o=>simp [ho] at this;exact ⟨o,rfl,this⟩
theorem getD_set {ts:Array Value} {d s:Nat} {v:Value} (hd:d<ts.size):(ts.setIfInBounds d v).getD s undef=if s=d then v else ts.getD s undef:=by
 by_cases h:s=d
 ·subst h;simp [hd]
 ·rw [if_neg h]
  simp only [Array.getD_eq_getD_getElem?]
  rw [Array.getElem?_setIfInBounds_ne (Ne.symm h)]
theorem Desc.put {L:Nat→Bool} {f:Nat→Value} {a:Act} (h:Desc ops a0 L f a) {i:Nat} {o:Oper} (ho:ops[i]?=some o)
  (hd:∀d,o.dst=some d→ownerOf ops d=some i∧d<a0.tmps.size) (v:Value) :
  Desc ops a0 (fun j=>if j=i then true else L j) (fun j=>if j=i then v else f j) (a.put o.dst v):=by
 obtain ⟨h1,h2,h3⟩:=h
 cases hdst:o.dst with
 | none =>
  refine ⟨h1,h2,fun s hs => ?_⟩
  show a.tmps.getD s undef=_
  rw [h3 s hs]
  cases hown:ownerOf ops s with
  | none=>rfl
  | some j =>
   have hj:j≠i:=by
    rintro rfl
    obtain ⟨o',ho',hd'⟩:=owner_spec hown
    rw [ho] at ho';injection ho' with e;subst e
    rw [hdst] at hd';cases hd'
   simp [hj]
 | some d =>
  obtain ⟨g1,g2⟩:=hd d hdst
  refine ⟨h1,by simp [Act.put,h2],fun s hs => ?_⟩
  show (a.tmps.setIfInBounds d v).getD s undef=_
  have hda:d<a.tmps.size:=Nat.lt_of_lt_of_eq g2 h2.symm
  rw [getD_set hda]
  by_cases e:s=d
  ·subst e;rw [if_pos rfl,g1];simp
  ·rw [if_neg e,h3 s hs]
   cases hown:ownerOf ops s with
   | none=>rfl
   | some j =>
    have hj:j≠i:=by
     rintro rfl
     obtain ⟨o',ho',hd'⟩:=owner_spec hown
     rw [ho] at ho';injection ho' with e';subst e'
     rw [hdst] at hd';injection hd' with e';exact e e'.symm
    simp [hj]
theorem Desc.congr {L L':Nat→Bool} {f f':Nat→Value} {a:Act} (h:Desc ops a0 L f a) (hL:∀j,j<ops.size→L j=L' j) (hf:∀j,j<ops.size→L j=true→f j=f' j):Desc ops a0 L' f' a:=by
 refine ⟨h.1,h.2.1,fun s hs => ?_⟩
 rw [h.2.2 s hs]
 cases hown:ownerOf ops s with
 | none=>rfl
 | some j =>
  obtain ⟨o,ho,_⟩:=owner_spec hown
  have hj:j<ops.size:=(Array.getElem?_eq_some_iff.1 ho).1
  simp only []
  rw [←hL j hj]
  by_cases c:L j=true
  ·rw [if_pos c,if_pos c,hf j hj c]
  ·rw [if_neg c,if_neg c]
theorem Desc.unique {L:Nat→Bool} {f:Nat→Value} {a b:Act} (ha:Desc ops a0 L f a) (hb:Desc ops a0 L f b):a=b:=by
 obtain ⟨a1,a2,a3⟩:=ha
 obtain ⟨b1,b2,b3⟩:=hb
 cases a with
 | mk ts ds =>
  cases b with
  | mk us es =>
   simp only at a1 a2 a3 b1 b2 b3
   have:ts=us:=by
    refine Array.ext (by omega) fun s h1 h2 => ?_
    have e1:=a3 s (by omega)
    have e2:=b3 s (by omega)
    have:ts.getD s undef=us.getD s undef:=by rw [e1,e2]
    simpa [h1,h2] using this
   rw [this,a1,b1]
theorem desc_all (hd:∀i o,ops[i]?=some o→∀d,o.dst=some d→ownerOf ops d=some i∧d<a0.tmps.size) (f:Nat→Value) (rest:List Oper) :
  ∀(os:List Oper) (k:Nat) (a:Act),ops.toList.drop k=os++rest→Desc ops a0 (fun j=>decide (j<k)) f a→Desc ops a0 (fun j=>decide (j<k+os.length)) f (putFrom f k os a)
 | [],k,a,hk,h=>h
 | o::os,k,a,hk,h=>by
  have ho:ops[k]?=some o:=by
   have:=congrArg (fun l=>l[0]?) hk
   simpa using this
  have hk':ops.toList.drop (k+1)=os++rest:=by
   have:=congrArg List.tail hk
   simpa using this
  have:=desc_all hd f rest os (k+1) (a.put o.dst (f k)) hk' ((h.put ho (hd k o ho) (f k)).congr (fun j hj => ?_) (fun j hj _ => ?_))
  ·rw [show k+1+os.length=k+(o::os).length by simp;omega] at this
   exact this
  ·by_cases e:j=k
   ·subst e;simp
   ·simp [e];omega
  ·by_cases e:j=k
   ·subst e;simp
   ·simp [e]
theorem does_wp {o:Oper} {a:Act} {w:World} {C:Value→World→Prop} (h:Does P o a w C) {K:Act→World→Prop} (hK:∀v w',C v w'→K (a.put o.dst v) w'):o.wp P a w K Q:=by
 have:=h K hK
 unfold Oper.wp at this ⊢
 generalize (execOp a.eval o).run P w=r at *
 cases r with
 | ok n w' =>
  cases n <;> simp only [Oper.upon] at this ⊢ <;>
   first
    | exact this
    | exact Calls.mono this (fun e w'' he=>by
      cases e with
      | returned v=>exact he
      | panicked c=>exact he.elim
      | outgrown=>obtain ⟨_,_,h⟩:=he;exact h.elim)
 | halt x w' =>
  cases x <;> simp only [Oper.upon] at this ⊢
structure RegInv (ops:Array Oper) (Φ:Nat→Value→World→Prop) (a0:Act) (w0:World) (L:Array Bool) (f:Nat→Value) (a:Act) (w:World):Prop where
 desc:Desc ops a0 (fun j=>L.getD j false) f a
 below:Below w0.heap.size w0 w
 hold:∀j,L.getD j false=true→Φ j (f j) w
 shut:∀j o,ops[j]?=some o→L.getD j false=true→∀e∈o.after,Region.binds .any e=true→L.getD e.on false=true
variable (hok:regOk ops a0.tmps.size=true) (hmono:∀i v w w',Below w.heap.size w w'→Φ i v w→Φ i v w') {front rest:List Oper} (hfr:ops.toList=front++rest) (heach:Each P ops Φ a0 w0 0 front)
include hok hmono hfr heach
omit hmono hfr heach in
theorem reg_one {i:Nat} {o:Oper} (ho:ops[i]?=some o):regOne ops a0.tmps.size i o=true:=by
 unfold regOk at hok
 have:=List.all_eq_true.1 hok i (List.mem_range.2 (Array.getElem?_eq_some_iff.1 ho).1)
 simpa [ho] using this
omit hmono hfr heach in
theorem reg_dst {i:Nat} {o:Oper} (ho:ops[i]?=some o):∀d,o.dst=some d→ownerOf ops d=some i∧d<a0.tmps.size:=by
 intro d hd
 have:=reg_one hok ho
 unfold regOne at this
 simp only [hd,Bool.and_eq_true,beq_iff_eq,decide_eq_true_eq] at this
 exact this.2
omit hok hmono hfr heach in
theorem waits_on {i j:Nat} (h:waitsB ops i j=true):∃o,ops[i]?=some o∧∃e∈o.after,Region.binds .any e=true∧e.on=j:=by
 unfold waitsB at h
 cases ho:ops[i]? with
 | none=>simp [ho] at h
 | some o =>
  simp only [ho,List.any_eq_true,Bool.and_eq_true,beq_iff_eq] at h
  obtain ⟨e,he,h1,h2⟩:=h
  exact ⟨o,rfl,e,Array.mem_toList_iff.1 he,h1,h2⟩
omit hmono hfr heach in
theorem reg_sees {L:Array Bool} {f:Nat→Value} {a:Act} {w:World} (hI:RegInv ops Φ a0 w0 L f a w) {i:Nat} {o:Oper} (ho:ops[i]?=some o) (hL:L.getD i false=false)
  (hr:∀e∈o.after,Region.binds .any e=true→L.getD e.on false=true):∀(ss:List Nat),(∀s∈ss,s∈o.looksAt ops)→Sees ops Φ a0 i a w ss
 | [],_=>trivial
 | s::ss,hss=>by
  refine ⟨?_,reg_sees hI ho hL hr ss fun t ht=>hss t (List.mem_cons_of_mem _ ht)⟩
  have hone:=reg_one hok ho
  unfold regOne at hone
  simp only [Bool.and_eq_true] at hone
  have hlook:=List.all_eq_true.1 hone.1.2 s (hss s (List.mem_cons_self))
  unfold seenBy
  have hsz:∀s,a0.tmps.size≤s→a.tmps.getD s undef=a0.tmps.getD s undef:=fun s hs=>by
   have:=hI.desc.2.1
   simp [Array.getD,show ¬s<a.tmps.size by omega,show ¬s<a0.tmps.size by omega]
  cases hown:ownerOf ops s with
  | none =>
   simp only []
   rcases Nat.lt_or_ge s a0.tmps.size with hs | hs
   ·rw [hI.desc.2.2 s hs,hown]
   ·exact hsz s hs
  | some j =>
   simp only [hown] at hlook ⊢
   obtain ⟨oj,hoj,hdj⟩:=owner_spec hown
   have hs:=(reg_dst hok hoj s hdj).2
   by_cases hw:waitsB ops i j=true
   ·rw [if_pos hw]
    simp only []
    obtain ⟨o',ho',e,he,hb,hon⟩:=waits_on hw
    rw [ho] at ho';injection ho' with e';subst e'
    have hLj:=hr e he hb
    rw [hon] at hLj
    rw [hI.desc.2.2 s hs,hown]
    simp only []
    rw [if_pos hLj]
    exact hI.hold j hLj
   ·rw [if_neg hw]
    simp only []
    simp only [hw,Bool.false_or] at hlook
    obtain ⟨o',ho',e,he,hb,hon⟩:=waits_on hlook
    have hLj:¬L.getD j false=true:=by
     intro h
     have:=hI.shut j o' ho' h e he hb
     rw [hon,hL] at this
     cases this
    rw [hI.desc.2.2 s hs,hown]
    simp only []
    rw [if_neg hLj]
theorem reg_step {L:Array Bool} (hLs:L.size=ops.size) {f:Nat→Value} {a:Act} {w:World} (hI:RegInv ops Φ a0 w0 L f a w) {i:Nat} (hif:i<front.length) {o:Oper} (ho:ops[i]?=some o) (hL:L.getD i false=false)
  (hr:∀e∈o.after,Region.binds .any e=true→L.getD e.on false=true) {K:Act→World→Prop}
  (hK:∀f' a' w',RegInv ops Φ a0 w0 (L.setIfInBounds i true) f' a' w'→K a' w') :
  if Region.wanted o (yielded ops a.tmps)=true then o.wp P a w K Q else K (a.put o.dst undef) w:=by
 have hi:i<ops.size:=(Array.getElem?_eq_some_iff.1 ho).1
 have hlist:front[i]?=some o:=by
  have h:ops.toList[i]?=some o:=by simpa using ho
  rw [hfr,List.getElem?_append_left hif] at h
  exact h
 have h1:=each_get front 0 heach i o hlist a w hI.desc.2.1 hI.below (by rw [Nat.zero_add];exact reg_sees hok hI ho hL hr _ fun s hs=>hs)
 rw [Nat.zero_add] at h1
 have hset:∀j,(L.setIfInBounds i true).getD j false=if j=i then true else L.getD j false:=by
  intro j
  by_cases e:j=i
  ·subst e;simp [hLs,hi]
  ·rw [if_neg e]
   simp only [Array.getD_eq_getD_getElem?]
   rw [Array.getElem?_setIfInBounds_ne (Ne.symm e)]
 have done:∀v w',Below w.heap.size w w'→Φ i v w'→K (a.put o.dst v) w':=by
  intro v w' hb hv
  refine hK (fun j=>if j=i then v else f j) _ _ ⟨?_,reg_below_trans hI.below hb,?_,?_⟩
  ·refine (hI.desc.put ho (reg_dst hok ho) v).congr (fun j _ => ?_) (fun _ _ _=>rfl)
   rw [hset]
  ·intro j hj
   rw [hset] at hj
   by_cases e:j=i
   ·subst e;simpa using hv
   ·rw [if_neg e] at hj
    simp only [e,if_false]
    exact hmono _ _ _ _ hb (hI.hold j hj)
  ·intro j oj hoj hj e he hb
   rw [hset] at hj ⊢
   by_cases c:e.on=i
   ·rw [if_pos c]
   ·rw [if_neg c]
    by_cases e':j=i
    ·subst e'
     rw [ho] at hoj;injection hoj with e'';subst e''
     exact hr e he hb
    ·rw [if_neg e'] at hj
     exact hI.shut j oj hoj hj e he hb
 unfold Will at h1
 split
 ·rename_i hw
  rw [if_pos hw] at h1
  exact does_wp h1 fun v w' ⟨hb,hv⟩=>done v w' hb hv
 ·rename_i hw
  rw [if_neg hw] at h1
  exact done _ _ h1.1 h1.2
omit hok hmono hfr heach in
theorem list_one {α:Type} {l:List α} (h:l.length=1):∃x,l=[x]:=by
 cases l with
 | nil=>cases h
 | cons x xs=>cases xs with
  | nil=>exact ⟨x,rfl⟩
  | cons y ys=>simp at h
omit hmono heach in
theorem reg_front {L:Array Bool} {f:Nat→Value} {a:Act} {w:World} (hI:RegInv ops Φ a0 w0 L f a w) (hall:∀j,j<ops.size→L.getD j false=decide (j<front.length)):a=putFrom f 0 front a0:=by
 have hd:Desc ops a0 (fun j=>decide (j<0+front.length)) f a:=hI.desc.congr (fun j hj=>by rw [hall j hj,Nat.zero_add]) (fun _ _ _=>rfl)
 have hd0:Desc ops a0 (fun j=>decide (j<0)) f a0:=⟨rfl,rfl,fun s hs=>by cases ownerOf ops s <;> simp⟩
 have:=desc_all (fun i o ho=>reg_dst hok ho) f rest front 0 a0 (by simpa using hfr) hd0
 exact Desc.unique hd this
omit hok hmono hfr heach in
theorem getD_tf {L:Array Bool} (hLs:L.size=ops.size) {j:Nat} (hj:j<ops.size):L.getD j true=L.getD j false:=by simp [Array.getD,show j<L.size by omega]
omit hok hmono hfr heach in
theorem getD_set_tf {L:Array Bool} {i:Nat} (hi:i<L.size) (j:Nat):(L.setIfInBounds i true).getD j false=if j=i then true else L.getD j false:=by
 by_cases e:j=i
 ·subst e;simp [hi]
 ·rw [if_neg e]
  simp only [Array.getD_eq_getD_getElem?]
  rw [Array.getElem?_setIfInBounds_ne (Ne.symm e)]
omit hmono hfr heach in
theorem ready_none {L:Array Bool} (hLs:L.size=ops.size) (h0:Region.ready .any ops L=[]):∀j,j<ops.size→L.getD j false=true:=by
 intro j
 induction j using Nat.strongRecOn with
 | _ j ih =>
  intro hj
  cases hL:L.getD j false with
  | true=>rfl
  | false =>
   exfalso
   have ho:ops[j]?=some ops[j]:=Array.getElem?_eq_getElem hj
   have hmem:j∈Region.ready .any ops L:=by
    unfold Region.ready
    rw [List.mem_filter]
    refine ⟨List.mem_range.2 hj,?_⟩
    rw [getD_tf hLs hj,hL,ho]
    simp only [Bool.not_false,Option.map_some,Option.getD_some,Bool.true_and,Array.all_eq_true',Bool.or_eq_true,Bool.not_eq_true']
    intro e he
    have hone:=reg_one hok ho
    unfold regOne at hone
    simp only [Bool.and_eq_true] at hone
    have:=(Array.all_eq_true'.1 hone.1.1) e he
    simp only [Bool.or_eq_true,Bool.not_eq_true',decide_eq_true_eq] at this
    rcases this with h | h
    ·exact .inl h
    ·exact .inr (ih e.on h (by omega))
   rw [h0] at hmem
   cases hmem
omit hok hmono hfr heach in
theorem ready_all {L:Array Bool} (hLs:L.size=ops.size) (hall:∀j,j<ops.size→L.getD j false=true):Region.ready .any ops L=[]:=by
 unfold Region.ready
 rw [List.filter_eq_nil_iff]
 intro j hj
 rw [getD_tf hLs (List.mem_range.1 hj),hall j (List.mem_range.1 hj)]
 simp
omit hok hmono hfr heach in
theorem any_done {L:Array Bool} (hLs:L.size=ops.size) (hall:∀j,j<ops.size→L.getD j false=true) {a:Act} {w:World} (h:Q .normal a w):∀fuel,wpAny P .any ops Q fuel L a w
 | 0=>⟨ready_all hLs hall,h⟩
 | fuel+1=>⟨fun _=>h,fun i hi=>by rw [ready_all hLs hall] at hi;cases hi⟩
def ancB (ops:Array Oper) (i:Nat):List Nat:=(List.range i).foldr (fun j acc=>if acc.any (fun k=>waitsB ops k j) then j::acc else acc) [i]
def lastOk (ops:Array Oper) (m:Nat):Bool:=decide (m=ops.size)||(decide (m+1=ops.size)&&(List.range m).all fun j=>(ancB ops m).contains j)
omit hok hmono hfr heach in
theorem anc_listed {L:Array Bool} (hsh:∀j o,ops[j]?=some o→L.getD j false=true→∀e∈o.after,Region.binds .any e=true→L.getD e.on false=true) {m:Nat}
  (hr:∀o,ops[m]?=some o→∀e∈o.after,Region.binds .any e=true→L.getD e.on false=true):∀j,j∈ancB ops m→j=m∨L.getD j false=true:=by
 unfold ancB
 have key:∀(l:List Nat) (j:Nat),j∈l.foldr (fun j acc=>if acc.any (fun k=>waitsB ops k j) then j::acc else acc) [m]→j=m∨L.getD j false=true:=by
  intro l
  induction l with
  | nil=>intro j hj;simp at hj;exact .inl hj
  | cons x l ih =>
   intro j hj
   simp only [List.foldr_cons] at hj
   split at hj
   ·rename_i hany
    rcases List.mem_cons.1 hj with rfl | hj
    ·obtain ⟨k,hk,hw⟩:=List.any_eq_true.1 hany
     obtain ⟨o,ho,e,he,hb,hon⟩:=waits_on hw
     rcases ih k hk with rfl | hk
     ·have:=hr o ho e he hb
      rw [hon] at this;exact .inr this
     ·have:=hsh k o ho hk e he hb
      rw [hon] at this;exact .inr this
    ·exact ih j hj
   ·exact ih j hj
 exact key _
theorem reg_any (hlast:lastOk ops front.length=true)
    (hfin:∀f w',Below w0.heap.size w0 w'→HoldFrom Φ f w' 0 front→wpList P ops Q rest (putFrom f 0 front a0) w') :
    ∀(fuel:Nat) (L:Array Bool) (f:Nat→Value) (a:Act) (w:World),L.size=ops.size→(∀j,front.length≤j→L.getD j false=false)→((List.range ops.size).filter fun j => !L.getD j false).length≤fuel→RegInv ops Φ a0 w0 L f a w→wpAny P .any ops Q fuel L a w:=by
  have hlen:ops.size=front.length+rest.length:=by
    have:=congrArg List.length hfr
    simpa using this
  have hend:∀(L:Array Bool) (f:Nat→Value) (a:Act) (w:World),RegInv ops Φ a0 w0 L f a w→(∀j,j<ops.size→L.getD j false=decide (j<front.length))→wpList P ops Q rest a w:=by
    intro L f a w hI hall
    rw [reg_front hok hfr hI hall]
    exact hfin f w hI.below (hold_of f w _ 0 fun j hj=>by rw [Nat.zero_add];exact hI.hold j (by rw [hall j (by omega)];simpa using hj))
  have hnorm:∀(L:Array Bool) (f:Nat→Value) (a:Act) (w:World),L.size=ops.size→(∀j,front.length≤j→L.getD j false=false)→RegInv ops Φ a0 w0 L f a w→Region.ready .any ops L=[]→Q .normal a w:=by
    intro L f a w hLs hback hI h0
    have hall:=ready_none hok hLs h0
    have hle:rest.length=0:=by
      rcases Nat.eq_zero_or_pos rest.length with h | h
      · exact h
      · have:=hall front.length (by omega)
        rw [hback _ (Nat.le_refl _)] at this
        cases this
    have hrest:rest=[]:=List.eq_nil_of_length_eq_zero hle
    subst hrest
    have:=hend L f a w hI (fun j hj=>by rw [hall j hj];simp;omega)
    simpa [wpList] using this
  intro fuel
  induction fuel with
  | zero =>
    intro L f a w hLs hback hcnt hI
    have hall:∀j,j<ops.size→L.getD j false=true:=by
      intro j hj
      cases hL:L.getD j false with
      | true=>rfl
      | false =>
        exfalso
        have:j∈(List.range ops.size).filter fun j => !L.getD j false:=List.mem_filter.2 ⟨List.mem_range.2 hj,by simp [hL]⟩
        have:=List.length_pos_of_mem this
        omega
    exact ⟨ready_all hLs hall,hnorm L f a w hLs hback hI (ready_all hLs hall)⟩
  | succ fuel ih =>
    intro L f a w hLs hback hcnt hI
    refine ⟨fun h0=>hnorm L f a w hLs hback hI h0,fun i hi => ?_⟩
    unfold Region.ready at hi
    rw [List.mem_filter] at hi
    obtain ⟨hi1,hi2⟩:=hi
    have hi1:=List.mem_range.1 hi1
    have ho:ops[i]?=some ops[i]:=Array.getElem?_eq_getElem hi1
    rw [getD_tf hLs hi1,ho] at hi2
    simp only [Option.map_some,Option.getD_some,Bool.and_eq_true,Bool.not_eq_true',Array.all_eq_true',Bool.or_eq_true] at hi2
    obtain ⟨hL,hr⟩:=hi2
    have hr':∀e∈ops[i].after,Region.binds .any e=true→L.getD e.on false=true:=fun e he hb=>by
      rcases hr e he with h | h
      · rw [hb] at h;cases h
      · exact h
    unfold wpOp
    rw [ho]
    simp only []
    by_cases hif:i<front.length
    · have hstep := reg_step (Q := Q) hok hmono hfr heach hLs hI hif ho hL hr' (K := wpAny P .any ops Q fuel (L.setIfInBounds i true)) (fun f' a' w' hI' => ih _ f' a' w' (by simp [hLs]) (fun j hj => by
          rw [getD_set_tf (by omega),if_neg (by omega)];exact hback j hj) ?_ hI')
      · split
        · rename_i hw;rw [if_pos hw] at hstep;exact .inl hstep
        · rename_i hw;rw [if_neg hw] at hstep;exact hstep
      · have hlt:((List.range ops.size).filter fun j => !(L.setIfInBounds i true).getD j false).length<((List.range ops.size).filter fun j => !L.getD j false).length:=by
          have e1:((List.range ops.size).filter fun j => !(L.setIfInBounds i true).getD j false)=((List.range ops.size).filter fun j => !L.getD j false).filter (fun j=>decide (j≠i)):=by
            rw [List.filter_filter]
            refine List.filter_congr fun j _ => ?_
            rw [getD_set_tf (by omega)]
            by_cases e:j=i
            · simp [e]
            · simp [e]
          rw [e1]
          refine List.length_filter_lt_length_iff_exists.2 ⟨i,List.mem_filter.2 ⟨List.mem_range.2 hi1,by simp [hL]⟩,by simp⟩
        omega
    ·
      unfold lastOk at hlast
      simp only [Bool.or_eq_true,Bool.and_eq_true,decide_eq_true_eq] at hlast
      rcases hlast with h | ⟨h,hanc⟩
      · omega
      obtain rfl:i=front.length:=by omega
      have hrest:rest=[ops[front.length]]:=by
        have h1:rest.length=1:=by omega
        have h2:ops.toList[front.length]?=rest[0]?:=by rw [hfr,List.getElem?_append_right (Nat.le_refl _),Nat.sub_self]
        obtain ⟨x,hx⟩:=list_one h1
        rw [hx] at h2 ⊢
        rw [Array.getElem?_toList,ho] at h2
        have h3:some ops[front.length]=some x:=h2
        injection h3 with h3
        rw [h3]
      have hall:∀j,j<ops.size→L.getD j false=decide (j<front.length):=by
        intro j hj
        by_cases hjf:j<front.length
        · have hmem:=List.all_eq_true.1 hanc j (List.mem_range.2 hjf)
          rcases anc_listed hI.shut (fun o ho'=>by rw [ho] at ho';injection ho' with e;subst e;exact hr') j (by simpa using hmem) with h | h
          · omega
          · rw [h];simp [hjf]
        · rw [hback j (by omega)];simp [hjf]
      have hw:=hend L f a w hI hall
      rw [hrest] at hw
      have hdone:∀a' w',Q .normal a' w'→wpAny P .any ops Q fuel (L.setIfInBounds front.length true) a' w':=fun a' w' hq=>any_done (by simp [hLs]) (fun j hj=>by
        rw [getD_set_tf (by omega)]
        by_cases e:j=front.length
        · rw [if_pos e]
        · rw [if_neg e,hall j hj];simp;omega) hq fuel
      simp only [wpList] at hw
      split
      · rename_i hww
        rw [if_pos hww] at hw
        exact hw.imp (Oper.wp_mono hdone) id
      · rename_i hww
        rw [if_neg hww] at hw
        exact hdone _ _ hw
theorem region_each {id:Nat} (hm:P.follows .mixedOrders=true) (hlast:lastOk ops front.length=true)
  (hfin:∀f w',Below w0.heap.size w0 w'→HoldFrom Φ f w' 0 front→wpList P ops Q rest (putFrom f 0 front a0) w'):(Code.region id ops true).wp P Q a0 w0:=by
 have hf0:∀j,(Array.replicate ops.size false).getD j false=false:=fun j=>by simp [Array.getD]
 refine wp_region_any hm (reg_any hok hmono hfr heach hlast hfin ops.size _ (fun _=>undef) a0 _ (by simp) (fun j _=>hf0 j) ?_ ⟨?_,?_,?_,?_⟩)
 ·exact Nat.le_trans (List.length_filter_le _ _) (by simp)
 ·refine ⟨rfl,rfl,fun s hs => ?_⟩
  cases ownerOf ops s with
  | none=>rfl
  | some j=>simp [hf0 j]
 ·exact ⟨rfl,rfl,rfl,Nat.le_refl _,fun _ _=>rfl⟩
 ·intro j hj
  rw [hf0 j] at hj;cases hj
 ·intro j o ho hj
  rw [hf0 j] at hj;cases hj
end
theorem region_at {P:Program} {ops:Array Oper} {a0:Act} {w0:World} {Q:Exit→Act→World→Prop} {id:Nat} (k:Nat) (Φ:Nat→Value→World→Prop) (hm:P.follows .mixedOrders=true) (hok:regOk ops a0.tmps.size=true) (hlast:lastOk ops (ops.toList.take k).length=true)
  (hmono:∀i v w w',Below w.heap.size w w'→Φ i v w→Φ i v w') (heach:Each P ops Φ a0 w0 0 (ops.toList.take k))
  (hfin:∀f w',Below w0.heap.size w0 w'→HoldFrom Φ f w' 0 (ops.toList.take k)→wpList P ops Q (ops.toList.drop k) (putFrom f 0 (ops.toList.take k) a0) w'):(Code.region id ops true).wp P Q a0 w0:=
 region_each hok hmono (List.take_append_drop k _).symm heach hm hlast hfin
section
variable {P:Program} {ops:Array Oper} {o:Oper} {a:Act} {w:World} {C:Value→World→Prop}
theorem will_of (hg:o.guard=none) (h:Does P o a w C):Will P ops o a w C:=by
 unfold Will;rw [if_pos (by simp [Region.wanted,hg])];exact h
theorem slot_some {d:Nat} {b:Bool} (hv:a.tmps.getD d undef=.bool b):a.tmps[d]?=some (.bool b):=by
 rw [Array.getD_eq_getD_getElem?] at hv
 cases he:a.tmps[d]? with
 | none=>rw [he] at hv;cases hv
 | some x=>rw [he] at hv;simpa using hv
theorem will_yes {g:Nat} {b:Bool} {d:Tmp} (hg:o.guard=some (g,b)) (hd:(ops[g]?).bind (·.dst)=some d) (hv:a.tmps.getD d undef=.bool b) (h:Does P o a w C):Will P ops o a w C:=by
 unfold Will
 rw [if_pos (by simp [Region.wanted,hg,yielded,hd,slot_some hv])];exact h
end
end Go.Proofs.YtigmpifjcijdbaaGreatDoor
namespace Go.Proofs.YtigmpifjcijdbaaGreatDoor
set_option linter.unusedVariables false
set_option linter.unusedSimpArgs false
open Go Go.RowKit
def IsV (u:Value):Value→World→Prop:=fun v _=>v=u
def Mono (φ:Value→World→Prop):Prop:=∀v w w',Below w.heap.size w w'→φ v w→φ v w'
theorem IsV.mono (u:Value):Mono (IsV u):=fun _ _ _ _ h=>h
def MonoAll:List (Value→World→Prop)→Prop
 | []=>True
 | φ::φs=>Mono φ∧MonoAll φs
def Pick (φs:List (Value→World→Prop)) (i:Nat):Value→World→Prop:=φs.getD i (fun _ _=>True)
theorem mono_pick:∀{φs:List (Value→World→Prop)},MonoAll φs→∀i v w w',Below w.heap.size w w'→Pick φs i v w→Pick φs i v w'
 | [],_,i,v,w,w',_,h=>by unfold Pick at *;simp
 | φ::φs,h,0,v,w,w',hb,hv=>h.1 v w w' hb hv
 | φ::φs,h,i+1,v,w,w',hb,hv=>mono_pick h.2 i v w w' hb hv
end Go.Proofs.YtigmpifjcijdbaaGreatDoor
end

section
namespace Go.Proofs.YtigmpifjcijdbaaGreatDoor
set_option linter.unusedVariables false
set_option linter.unusedSimpArgs false
open Go.RowKit Verge
def Ans (w:World) (φ:Value→World→Prop) (e:Ending) (w':World):Prop:=∃v,e=.returned v∧φ v w'∧Below w.heap.size w w'
def IsL (xs:List Nat) (v:Value) (w:World):Prop:=∃A c,v=.slice A xs.length c∧Rd w A xs
def IsN (n:Nat) (v:Value) (w:World):Prop:=IsL (dig n) v w
def IsR (s:Bool) (xs ys:List Nat) (v:Value) (w:World):Prop:=∃a b,v=.agg #[.bool s,a,b]∧IsL xs a w∧IsL ys b w
def IsQ (s:Bool) (n d:Nat) (v:Value) (w:World):Prop:=IsR s (dig n) (dig d) v w
def Is2 (φ ψ:Value→World→Prop) (v:Value) (w:World):Prop:=∃a b,v=.tuple #[a,b]∧φ a w∧ψ b w
theorem IsL.mono (xs:List Nat):Mono (IsL xs):=fun _ _ _ hb ⟨A,c,e,h⟩=>⟨A,c,e,h.below hb⟩
theorem IsN.mono (n:Nat):Mono (IsN n):=IsL.mono _
theorem IsR.mono (s:Bool) (xs ys:List Nat):Mono (IsR s xs ys):=fun _ _ _ hb ⟨a,b,e,h,k⟩=>⟨a,b,e,IsL.mono xs _ _ _ hb h,IsL.mono ys _ _ _ hb k⟩
theorem IsQ.mono (s:Bool) (n d:Nat):Mono (IsQ s n d):=IsR.mono _ _ _
theorem Is2.mono {φ ψ:Value→World→Prop} (h:Mono φ) (k:Mono ψ):Mono (Is2 φ ψ):=fun _ _ _ hb ⟨a,b,e,p,q⟩=>⟨a,b,e,h _ _ _ hb p,k _ _ _ hb q⟩
theorem ans_quiet {P:Program} {f:FuncId} {args:Array Value} {w:World} {u:Value} (h:Calls P f args w fun e w'=>e=.returned u∧w=w'):Calls P f args w (Ans w (IsV u)):=
 h.mono fun e w' ⟨he,hw⟩=>⟨u,he,rfl,hw▸Below.refl _ _⟩
theorem ans_drew {P:Program} {f:FuncId} {args:Array Value} {w:World} {u:Value} (h:Calls P f args w fun e w'=>e=.returned u∧∃k,w.drewN k=w'):Calls P f args w (Ans w (IsV u)):=
 h.mono fun e w' ⟨he,k,hw⟩=>⟨u,he,rfl,hw▸below_drewN (Below.refl _ _) k⟩
theorem ans_below {P:Program} {f:FuncId} {args:Array Value} {w:World} {u:Value} (h:Calls P f args w fun e w'=>e=.returned u∧Below w.heap.size w w'):Calls P f args w (Ans w (IsV u)):=
 h.mono fun e w' ⟨he,hw⟩=>⟨u,he,rfl,hw⟩
theorem ans_doc {P:Program} {f:FuncId} {args:Array Value} {w:World} {n:Nat} (h:Calls P f args w (Doc w n)):Calls P f args w (Ans w (IsN n)):=
 h.mono fun e w' ⟨A,c,he,hR,_,_,hb⟩=>⟨_,he,⟨A,c,rfl,hR⟩,hb⟩
theorem ans_rat {P:Program} {f:FuncId} {args:Array Value} {w:World} {s:Bool} {n d:Nat} (h:Calls P f args w (RatP w s n d)):Calls P f args w (Ans w (IsQ s n d)):=
 h.mono fun e w' ⟨A,c,B,k,he,hR,hS,hb⟩=>⟨_,he,⟨_,_,rfl,⟨A,c,rfl,hR⟩,⟨B,k,rfl,hS⟩⟩,hb⟩
theorem IsL.words {xs:List Nat} {v:Value} {w:World} (h:IsL xs v w):W32 xs:=by
 obtain ⟨A,c,_,hR⟩:=h
 exact hR.1
section
variable {w:World} {v u:Value} {xs ys:List Nat}
theorem cmp_is (hv:IsL xs v w) (hu:IsL ys u w) (h1:xs.length≤140737488355328) (h2:ys.length≤140737488355328):Calls Tryz.prog 23 #[v,u] w (Ans w (IsV (.int .i64 (cmp (val xs) (val ys))))):=by
 obtain ⟨A,c,rfl,h⟩:=hv
 obtain ⟨B,d,rfl,k⟩:=hu
 exact ans_drew (rcmp_any A _ c xs B _ d ys w h rfl k rfl h1 h2)
theorem times_is (hv:IsL xs v w) (hu:IsL ys u w) (h1:xs.length+ys.length≤35184372088800):Calls Tryz.prog 21 #[v,u] w (Ans w (IsN (val xs*val ys))):=by
 obtain ⟨A,c,rfl,h⟩:=hv
 obtain ⟨B,d,rfl,k⟩:=hu
 have:=wl_le xs
 have:=wl_le ys
 exact ans_doc (rtimes_any A _ c xs B _ d ys w h rfl k rfl (by omega) (by omega) (by omega))
theorem frac_is (s:Bool) (e:Int) (hv:IsL xs v w) (hu:IsL ys u w) (h1:xs.length+e.toNat / 32+4≤35184372088800) (h2:ys.length+(-e).toNat / 32+4≤35184372088800) :
  Calls Tryz.prog 17 #[.bool s,v,u,.int .i64 e] w (Ans w (IsQ (s&&decide (val xs≠0)) (fracN (val xs) (val ys) e) (fracD (val xs) (val ys) e))):=by
 obtain ⟨A,c,rfl,h⟩:=hv
 obtain ⟨B,d,rfl,k⟩:=hu
 exact ans_rat (rfrac_any s A _ c xs B _ d ys e w h rfl k rfl h1 h2)
end
end Go.Proofs.YtigmpifjcijdbaaGreatDoor
end
