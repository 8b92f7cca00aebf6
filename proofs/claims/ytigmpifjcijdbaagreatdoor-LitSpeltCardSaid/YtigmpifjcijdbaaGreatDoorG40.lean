/- Layer 12, the program: the reader over a literal: a literal in brackets. -/
import Derived.Test.YtigmpifjcijdbaaGreatDoorG39
namespace Go.Proofs.YtigmpifjcijdbaaGreatDoor
set_option linter.unusedVariables false
set_option linter.unusedSimpArgs false
open Go.RowKit Verge Verge.Lit
def brLoT:Br→List UInt8
 | .one s _=>s
 | .two a _=>obt a
 | _=>[]
def brHiT:Br→List UInt8
 | .one s _=>s
 | .two _ b=>obt b
 | _=>[]
def brBd:Br→Bool
 | .one _ _=>true
 | .two a b=>b.isSome && !(obt a).isEmpty
 | _=>false
def brEm:Br→Bool
 | .emp=>true
 | _=>false
def brNai:Br→Bool
 | .nai=>true
 | _=>false
def brLo (y:Br):Nat:=if brLoT y=[] then (if brEm y=true then 9218868437227405312 else 18442240474082181120) else (readS (-1) (brLoT y)).1
def brHi (y:Br):Nat:=if brHiT y=[] then (if brEm y=true then 18442240474082181120 else 9218868437227405312) else (readS 1 (brHiT y)).1
def lateB (len:Nat) (y:Br) (x:Int×Int):Int×Int:=
 match y with
 | .one s k=>lateN (len - k) s x
 | .two a c=>lateU len (obt a) c (match a with | none=>x | some (s,k)=>lateN (len - k) s x)
 | _=>x
theorem bind_inv {α β:Type} {x:Except Nat α} {f:α→Except Nat β} {y:β} (h:x.bind f=.ok y):∃a,x=.ok a∧f a=.ok y:=by
 cases x with
 | error k=>cases h
 | ok a=>exact ⟨a,rfl,h⟩
theorem drop_len (p:UInt8→Bool) (r:List UInt8):(r.dropWhile p).length≤r.length:=(List.dropWhile_sublist p).length_le
theorem upp_len {r:List UInt8} {z:Option (List UInt8×Nat)×List UInt8} (h:uppL r=.ok z):(obt z.1).length≤r.length:=by
 unfold uppL at h
 obtain ⟨r1,h1,h⟩:=bind_inv h
 have hr1:r1.length≤r.length:=by
  unfold wantL at h1
  split at h1
  ·injection h1 with h1
   subst h1
   cases r with
   | nil=>exact Nat.le_refl _
   | cons c s =>
    by_cases e:lo c=44
    ·rw [show isL 44 (c::s)=(true,s) from if_pos e];simp
    ·rw [show isL 44 (c::s)=(false,c::s) from if_neg e];simp
  ·cases h1
 have h2:=drop_len blk r1
 unfold uppB at h
 split at h
 ·injection h with h;subst h;exact Nat.zero_le _
 ·split at h
  ·obtain ⟨r3,h3,h⟩:=bind_inv h
   injection h with h;subst h;exact Nat.zero_le _
  ·obtain ⟨⟨s,u⟩,h3,h⟩:=bind_inv h
   injection h with h
   subst h
   have:=congrArg List.length (numL_le h3)
   rw [List.length_append] at this
   show s.length≤_
   omega
abbrev mO (lo hi:Nat) (e bd n:Bool) (wd:ByteArray) (at0:Int):Obj:=.cells #[.float .f64 lo,.float .f64 hi,.bool e,.bool bd,.bool n,.string wd,.int .i64 at0] 60
abbrev mV (lo hi:Nat) (e bd n:Bool) (wd:ByteArray) (at0:Int):Value:=.agg #[.float .f64 lo,.float .f64 hi,.bool e,.bool bd,.bool n,.string wd,.int .i64 at0]
theorem mO_cells {w:World} {M lo hi:Nat} {e bd n:Bool} {wd:ByteArray} {at0:Int} (h:w.heap[M]?=some (mO lo hi e bd n wd at0)) :
  (w.cell? ⟨M,0,none⟩=some (.float .f64 lo)∧w.cell? ⟨M,1,none⟩=some (.float .f64 hi)∧w.cell? ⟨M,2,none⟩=some (.bool e)∧w.cell? ⟨M,3,none⟩=some (.bool bd)∧w.cell? ⟨M,4,none⟩=some (.bool n)∧w.cell? ⟨M,5,none⟩=some (.string wd)∧w.cell? ⟨M,6,none⟩=some (.int .i64 at0)) ∧
  (w.frozen? ⟨M,0,none⟩=false∧w.frozen? ⟨M,1,none⟩=false∧w.frozen? ⟨M,2,none⟩=false∧w.frozen? ⟨M,3,none⟩=false∧w.frozen? ⟨M,4,none⟩=false∧w.frozen? ⟨M,5,none⟩=false∧w.frozen? ⟨M,6,none⟩=false):=by
 refine ⟨⟨?_,?_,?_,?_,?_,?_,?_⟩,?_,?_,?_,?_,?_,?_,?_⟩ <;> simp [World.cell?,World.frozen?,h]
theorem mO_set {w:World} {M lo hi:Nat} {e bd n:Bool} {wd:ByteArray} {at0:Int} (h:w.heap[M]?=some (mO lo hi e bd n wd at0)) (v:Value) :
  (∀b,v=.bool b→(w.setCell ⟨M,2,none⟩ v).heap[M]?=some (mO lo hi b bd n wd at0))∧(∀b,v=.bool b→(w.setCell ⟨M,3,none⟩ v).heap[M]?=some (mO lo hi e b n wd at0))∧(∀b,v=.bool b→(w.setCell ⟨M,4,none⟩ v).heap[M]?=some (mO lo hi e bd b wd at0)) ∧
  (∀b,v=.float .f64 b→(w.setCell ⟨M,0,none⟩ v).heap[M]?=some (mO b hi e bd n wd at0))∧(∀b,v=.float .f64 b→(w.setCell ⟨M,1,none⟩ v).heap[M]?=some (mO lo b e bd n wd at0)) ∧
  (∀b,v=.string b→(w.setCell ⟨M,5,none⟩ v).heap[M]?=some (mO lo hi e bd n b at0))∧(∀b,v=.int .i64 b→(w.setCell ⟨M,6,none⟩ v).heap[M]?=some (mO lo hi e bd n wd b)):=by
 refine ⟨?_,?_,?_,?_,?_,?_,?_⟩ <;> (rintro b rfl;simp [World.setCell,Array.getElem?_modify,h])
theorem grown_keep {a w:World} {b M:Nat} {o:Obj} (hg:a.grownBy w (some b)) (hb:b≠M) (h:a.heap[M]?=some o):w.heap[M]?=some o:=
 (hg.block M (Array.getElem?_eq_some_iff.1 h).1 (by intro e;injection e with e;exact hb e.symm)).trans h
theorem set_keep {w:World} {M P:Nat} {o:Obj} (h:w.heap[M]?=some o) (hP:M≠P) (i:Nat) (v:Value):(w.setCell ⟨P,i,none⟩ v).heap[M]?=some o:=(set_other w P i M v hP).trans h
theorem below_keep {B:Nat} {a w:World} {M:Nat} {o:Obj} (hb:Below B a w) (hM:M<B) (h:a.heap[M]?=some o):w.heap[M]?=some o:=(hb.block M hM).trans h
structure BrM (w:World) (b:Nat) (l r:List UInt8) (d:Bool) (x:Int×Int) (M R:Nat) (lo hi:Nat) (e bd n:Bool) (W:World):Prop where
 rd:LR W b l r d x
 gr:w.grownBy W (some b)
 hm:W.heap[M]?=some (mO lo hi e bd n { data:=#[] } 0)
 hr:W.heap[R]?=some (mO 0 0 false false false { data:=#[] } 0)
theorem BrM.step {w:World} {b:Nat} {l r s:List UInt8} {d:Bool} {x z:Int×Int} {M R lo hi:Nat} {e bd n:Bool} {W W':World} (h:BrM w b l r d x M R lo hi e bd n W) (hM:b≠M) (hR:b≠R) (h1:LR W' b l s d z) (h2:W.grownBy W' (some b)):BrM w b l s d z M R lo hi e bd n W':=
 ⟨h1,grownBy_trans h.gr h2,grown_keep h2 hM h.hm,grown_keep h2 hR h.hr⟩
theorem BrM.quiet {w:World} {b:Nat} {l r:List UInt8} {d:Bool} {x:Int×Int} {M R lo hi:Nat} {e bd n:Bool} {W:World} (h:BrM w b l r d x M R lo hi e bd n W) (m:Nat):BrM w b l r d x M R lo hi e bd n (W.drewN m):=
 ⟨h.rd,grownBy_drewN h.gr m,h.hm,h.hr⟩
theorem BrM.store {w:World} {b:Nat} {l r:List UInt8} {d:Bool} {x:Int×Int} {M R lo hi lo' hi':Nat} {e bd n e' bd' n':Bool} {W:World} (h:BrM w b l r d x M R lo hi e bd n W) (hM:b≠M) (hRM:R≠M) (hw:w.heap.size≤M) (i:Nat) (v:Value) (hv:(W.setCell ⟨M,i,none⟩ v).heap[M]?=some (mO lo' hi' e' bd' n' { data:=#[] } 0)) :
  BrM w b l r d x M R lo' hi' e' bd' n' (W.setCell ⟨M,i,none⟩ v):=
 ⟨h.rd.far hM i v,grown_far h.gr hw i v,hv,set_keep h.hr hRM i v⟩
theorem BrM.below {w:World} {b:Nat} {l r:List UInt8} {d:Bool} {x:Int×Int} {M R lo hi:Nat} {e bd n:Bool} {W W':World} (h:BrM w b l r d x M R lo hi e bd n W) (hb:Below W.heap.size W W'):BrM w b l r d x M R lo hi e bd n W':=
 ⟨h.rd.later hb,grownBy_trans h.gr (grownBy_below hb),below_keep hb (Array.getElem?_eq_some_iff.1 h.hm).1 h.hm,below_keep hb (Array.getElem?_eq_some_iff.1 h.hr).1 h.hr⟩
def putM (w:World) (R:Nat) (lo hi:Nat) (e bd n:Bool) (wd:ByteArray) (at0:Int):World:=
 ((((((w.setCell ⟨R,0,none⟩ (.float .f64 lo)).setCell ⟨R,1,none⟩ (.float .f64 hi)).setCell ⟨R,2,none⟩ (.bool e)).setCell ⟨R,3,none⟩ (.bool bd)).setCell ⟨R,4,none⟩ (.bool n)).setCell ⟨R,5,none⟩ (.string wd)).setCell ⟨R,6,none⟩ (.int .i64 at0)
theorem putM_is {w:World} {R lo hi lo' hi':Nat} {e bd n e' bd' n':Bool} {wd wd':ByteArray} {at0 at1:Int} (h:w.heap[R]?=some (mO lo hi e bd n wd at0)):(putM w R lo' hi' e' bd' n' wd' at1).heap[R]?=some (mO lo' hi' e' bd' n' wd' at1):=by
 unfold putM
 have h0:=(mO_set h (.float .f64 lo')).2.2.2.1 _ rfl
 have h1:=(mO_set h0 (.float .f64 hi')).2.2.2.2.1 _ rfl
 have h2:=(mO_set h1 (.bool e')).1 _ rfl
 have h3:=(mO_set h2 (.bool bd')).2.1 _ rfl
 have h4:=(mO_set h3 (.bool n')).2.2.1 _ rfl
 have h5:=(mO_set h4 (.string wd')).2.2.2.2.2.1 _ rfl
 exact (mO_set h5 (.int .i64 at1)).2.2.2.2.2.2 _ rfl
theorem putM_far {w a:World} {b R:Nat} {l r:List UInt8} {d:Bool} {x:Int×Int} {lo hi:Nat} {e bd n:Bool} {wd:ByteArray} {at0:Int} (h:LR w b l r d x) (hR:b≠R) (hg:a.grownBy w (some b)) (hw:a.heap.size≤R) :
  LR (putM w R lo hi e bd n wd at0) b l r d x∧a.grownBy (putM w R lo hi e bd n wd at0) (some b):=by
 unfold putM
 refine ⟨?_,?_⟩
 ·exact ((((((h.far hR _ _).far hR _ _).far hR _ _).far hR _ _).far hR _ _).far hR _ _).far hR _ _
 ·exact grown_far (grown_far (grown_far (grown_far (grown_far (grown_far (grown_far hg hw _ _) hw _ _) hw _ _) hw _ _) hw _ _) hw _ _) hw _ _
set_option maxRecDepth 100000 in
set_option maxHeartbeats 4000000 in
theorem bracket_any (w:World) (b:Nat) (l r:List UInt8) (d:Bool) (x:Int×Int) (h:LR w b l r d x) (hl:l.length≤4096):Calls Tryz.prog 56 #[.pointer (some ⟨b,0,none⟩)] w
  (LAns w b l (braL d r) fun y e w'=>e=.returned (mV (brLo y.1) (brHi y.1) (brEm y.1) (brBd y.1) (brNai y.1) { data:=#[] } 0)∧LR w' b l y.2 d (lateB l.length y.1 x)):=by
 have HE:=Lib.hid (fun W=>entire_any W)
 have HEM:=Lib.hid (fun W=>empty_any W)
 have HWA:=Lib.hid (fun W s z h=>want_any W b l s d z 93 h (by omega) (by omega))
 have HB:=Lib.hid (fun W s z h=>blanks_any W b l s d z h (by omega))
 have HP0:=Lib.hid (fun W s z h=>peek_any W b l s d z 0 h (by omega) (by omega))
 have HP1:=Lib.hid (fun W s h=>peek_any W b l s d x 1 h (by omega) (by omega))
 have HIN:=Lib.hid (fun W s h=>infinity_any W b l s d x h (by omega))
 have HNU:=Lib.hid (fun W s h=>lnumeral_any W b l s d x h hl)
 have HUP:=Lib.hid (fun W s z lo (hlo:lo.length≤4096) h=>upper_any W b l s d z lo h hl hlo)
 have HW2:=Lib.hid (fun W s h=>word2_any W b l s d x h (by omega))
 have HW1:=Lib.hid (fun W s h=>word1_any W b l s d x [110,97,105] { data:=#[110,97,105] } rfl (by simp) h (by omega))
 have HFA:=Lib.hid (fun W s z h=>lfail_any W b l s d z h)
 have HRD:=Lib.hid (fun dd s (hs:s.length≤4096) W=>readA_any dd s (by omega) W)
 have hsf:=store_f
 have hbl:=h.lt
 obtain ⟨y,hy⟩:∃y,braL d r=y:=⟨_,rfl⟩
 rw [hy]
 unfold braL at hy
 have HL:=Lib.hid hl
 have H0:=Lib.hid h
 obtain ⟨R,hR⟩:∃R,w.heap.size=R:=⟨_,rfl⟩
 have HY:=Lib.hid hy
 clear hl h hy
 go_enter Tryz.func56,Tryz.ntmps56
 go_wp2_with fail
 refine (HE.out _).mono ?_
 rintro e w1 ⟨rfl,h1⟩
 have hsz:(w.alloc (mO 0 0 false false false { data:=#[] } 0)).heap.size=w.heap.size+1:=by show (w.heap.push _).size=_;simp
 have hw1:=h1.size
 rw [hsz] at hw1 h1
 obtain ⟨M,hM⟩:∃M,w1.heap.size=M:=⟨_,rfl⟩
 have hbR:b≠R:=by omega
 have hbM:b≠M:=by omega
 have hRM:R≠M:=by omega
 have hMw:w.heap.size≤M:=by omega
 have hr1:w1.heap[R]?=some (mO 0 0 false false false { data:=#[] } 0):=by
  rw [h1.block R (by omega),←hR,heap_alloc_new]
 have hB0:Below w.heap.size w w1:=raft (rnew w _) (by rw [hsz];exact h1)
 have hB1:BrM w b l r d x M R 18442240474082181120 9218868437227405312 false false false (w1.alloc (mO 18442240474082181120 9218868437227405312 false false false { data:=#[] } 0)):=by
  refine ⟨(H0.out.later hB0).later (rnew w1 _),grownBy_below (raft hB0 (rnew w1 _)),?_,below_keep (rnew w1 _) (by omega) hr1⟩
  rw [←hM,heap_alloc_new]
 have H1:=Lib.hid hB1
 have HMW:=Lib.hid (And.intro hR (And.intro hM hMw))
 clear h1 hw1 hsz hr1 hB0 hB1 H0
 go_wp2_with fail
 refine (HB.out _ _ _ H1.out.rd).mono ?_
 rintro e w2 ⟨rfl,h2,g2⟩
 have H2:=Lib.hid (H1.out.step hbM hbR h2 g2)
 clear h2 g2 H1
 obtain ⟨r1,hr1⟩:∃r1,r.dropWhile blk=r1:=⟨_,rfl⟩
 rw [hr1] at H2 HY
 clear hr1 hR hM hMw
 go_wp2_with fail
 refine (HP0.out _ _ _ H2.out.rd).mono ?_
 rintro e w3 ⟨rfl,m,rfl⟩
 rw [show r1.drop 0=r1 from rfl]
 have hy:=HY.out
 unfold braL1 at hy
 obtain ⟨v,hv⟩:∃v,pk r1=v:=⟨_,rfl⟩
 rw [hv] at hy ⊢
 have H3:=Lib.hid (H2.out.quiet m)
 obtain ⟨⟨m0,m1,m2,m3,m4,m5,m6⟩,f0,f1,f2,f3,f4,f5,f6⟩:=mO_cells H3.out.hm
 have c2:=H3.out.rd.more.1
 have HR1:=Lib.hid (Nat.le_trans H3.out.rd.1 HL.out)
 have HV:=Lib.hid hv
 have H2G:=Lib.hid H2.out.gr
 clear hv H2 HY
 go_upto_block 0 with fail
 go_cut [4,5] (fun lv hv wx=>∃(br:Br) (r':List UInt8),lv=.string (bs (brLoT br))∧hv=.string (bs (brHiT br))∧Hid (brNai br=false∧y=cloL br r'∧BrM w b l r' d (lateB l.length br x) M R 18442240474082181120 9218868437227405312 (brEm br) (brBd br) false wx∧(brLoT br).length≤4096∧(brHiT br).length≤4096))
 case first =>
  by_cases h93:v=93
  ·rw [if_pos h93] at hy
   subst h93
   have HY:=Lib.hid hy
   clear hy
   go_wp2
   go_meet
   exact ⟨.emp,r1,rfl,rfl,rfl,HY.out.symm,H3.out.store hbM hRM HMW.out.2.2 _ _ ((mO_set H3.out.hm _).1 _ rfl),by simp [brLoT],by simp [brHiT]⟩
  ·rw [if_neg h93] at hy
   have a1:¬(v:Int)=93:=by omega
   have a2:((v:Int)==93)=false:=by simpa using a1
   have a3:(v==93)=false:=by simpa using h93
   by_cases h101:v=101
   ·rw [if_pos h101] at hy
    subst h101
    have HY:=Lib.hid hy
    clear hy
    go_wp2_with fail
    refine (HW2.out _ _ H3.out.rd).mono ?_
    intro e w4 h4
    have hy:=HY.out
    cases he:eeL r1 with
    | error k =>
     rw [he] at h4 hy
     obtain ⟨rfl,g4⟩:=h4
     subst hy
     exact ⟨rfl,rfl,grownBy_trans H3.out.gr g4⟩
    | ok er =>
     obtain ⟨ee,r2⟩:=er
     rw [he,bind_ok] at hy
     rw [he] at h4
     obtain ⟨⟨rfl,h4⟩,g4⟩:=h4
     have H4:=Lib.hid (H3.out.step hbM hbR h4 g4)
     have HY:=Lib.hid hy
     obtain ⟨⟨m0,m1,m2,m3,m4,m5,m6⟩,f0,f1,f2,f3,f4,f5,f6⟩:=mO_cells H4.out.hm
     clear hy he h4 g4 H3
     cases ee with
     | true =>
      simp only [if_true]
      go_wp2_with fail
      have H5:=Lib.hid (H4.out.store hbM hRM HMW.out.2.2 2 (.bool true) ((mO_set H4.out.hm _).1 _ rfl))
      refine (HB.out _ _ _ H5.out.rd).mono ?_
      rintro e w6 ⟨rfl,h6,g6⟩
      have H6:=Lib.hid (H5.out.step hbM hbR h6 g6)
      clear h6 g6 H5 H4
      go_wp2
      go_meet
      exact ⟨.emp,_,rfl,rfl,rfl,HY.out.symm,H6.out,by simp [brLoT],by simp [brHiT]⟩
     | false =>
      simp only [Bool.false_eq_true,if_false]
      go_wp2_with fail
      have H5:=Lib.hid (H4.out.store hbM hRM HMW.out.2.2 2 (.bool false) ((mO_set H4.out.hm _).1 _ rfl))
      refine (HB.out _ _ _ H5.out.rd).mono ?_
      rintro e w6 ⟨rfl,h6,g6⟩
      have H6:=Lib.hid (H5.out.step hbM hbR h6 g6)
      clear h6 g6 H5 H4
      go_wp2
      go_meet
      exact ⟨.ent,_,rfl,rfl,rfl,HY.out.symm,H6.out,by simp [brLoT],by simp [brHiT]⟩
   ·rw [if_neg h101] at hy
    have b1:¬(v:Int)=101:=by omega
    have b2:((v:Int)==101)=false:=by simpa using b1
    have b3:(v==101)=false:=by simpa using h101
    go_upto_region 15 with fail
    go_cut [43] from 43 to 51 (fun s wx=>s=.bool (decide (v=110)&&d)∧wx=w2.drewN m)
    case first =>
     by_cases h110:v=110
     ·subst h110
      go_wp2
      go_meet
      simp
     ·have e1:¬(v:Int)=110:=by omega
      have e2:((v:Int)==110)=false:=by simpa using e1
      have e3:(v==110)=false:=by simpa using h110
      go_wp2
      go_meet
      simp [h110]
    case rest =>
     obtain ⟨rfl,rfl⟩:=hcut
     by_cases hn:v=110∧d=true
     ·rw [if_pos hn] at hy
      obtain ⟨rfl,rfl⟩:=hn
      have HY:=Lib.hid hy
      clear hy
      rw [show (decide (110=110)&&true)=true from rfl]
      go_wp2_with fail
      refine (HW1.out _ _ H3.out.rd).mono ?_
      intro e w4 h4
      rw [show List.map UInt8.toNat [110,97,105]=[110,97,105] from rfl] at h4
      have hy:=HY.out
      cases he:spl [110,97,105] r1 with
      | error k =>
       rw [he] at h4 hy
       obtain ⟨rfl,g4⟩:=h4
       subst hy
       exact ⟨rfl,rfl,grownBy_trans H3.out.gr g4⟩
      | ok s =>
       rw [he,bind_ok] at hy
       rw [he] at h4
       obtain ⟨⟨rfl,h4⟩,g4⟩:=h4
       have H4:=Lib.hid (H3.out.step hbM hbR h4 g4)
       have HY:=Lib.hid hy
       clear hy he h4 g4 H3
       go_wp2_with fail
       refine (HB.out _ _ _ H4.out.rd).mono ?_
       rintro e w5 ⟨rfl,h5,g5⟩
       have H5:=Lib.hid (H4.out.step hbM hbR h5 g5)
       clear h5 g5 H4
       go_wp2_with fail
       refine (HWA.out _ _ _ H5.out.rd).mono ?_
       intro e w6 h6
       have hy:=HY.out
       unfold cloL at hy
       cases hw:wantL 93 (s.dropWhile blk) with
       | error k =>
        rw [hw] at h6 hy
        obtain ⟨rfl,g6⟩:=h6
        subst hy
        exact ⟨rfl,rfl,grownBy_trans H5.out.gr g6⟩
       | ok t =>
        rw [hw,bind_ok] at hy
        rw [hw] at h6
        obtain ⟨⟨rfl,h6⟩,g6⟩:=h6
        have H6:=Lib.hid (H5.out.step hbM hbR h6 g6)
        subst hy
        obtain ⟨⟨m0,m1,m2,m3,m4,m5,m6⟩,f0,f1,f2,f3,f4,f5,f6⟩:=mO_cells H6.out.hm
        obtain ⟨⟨n0,n1,n2,n3,n4,n5,n6⟩,p0,p1,p2,p3,p4,p5,p6⟩:=mO_cells H6.out.hr
        clear hw h6 g6 H5 HY
        go_wp2
        have h7:=H6.out.store hbM hRM HMW.out.2.2 4 (.bool true) ((mO_set H6.out.hm _).2.2.1 _ rfl)
        obtain ⟨⟨z0,z1,z2,z3,z4,z5,z6⟩,_⟩:=mO_cells (putM_is (lo':=18442240474082181120) (hi':=9218868437227405312) (e':=false) (bd':=false) (n':=true) (wd':={ data:=#[] }) (at1:=0) h7.hr)
        unfold putM at z0 z1 z2 z3 z4 z5 z6
        obtain ⟨f1,f2⟩:=putM_far (lo:=18442240474082181120) (hi:=9218868437227405312) (e:=false) (bd:=false) (n:=true) (wd:={ data:=#[] }) (at0:=0) h7.rd hbR h7.gr (Nat.le_of_eq HMW.out.1)
        refine bodyPost_ret (v:=mV 18442240474082181120 9218868437227405312 false false true { data:=#[] } 0) (by simp [results,Tryz.results56,go_sem,z0,z1,z2,z3,z4,z5,z6]) rfl ?_
        exact ⟨⟨rfl,f1⟩,f2⟩
     ·rw [if_neg hn] at hy
      have hnd:(decide (v=110)&&d)=false:=by
       by_cases h:v=110
       ·have:d≠true:=fun e=>hn ⟨h,e⟩
        simp [h,this]
       ·simp [h]
      rw [hnd]
      clear hnd hn
      by_cases h44:v=44
      ·rw [if_pos h44] at hy
       subst h44
       have HY:=Lib.hid hy
       clear hy
       go_wp2_with fail
       refine (HUP.out _ _ _ [] (by simp) H3.out.rd).mono ?_
       intro e w4 h4
       have hy:=HY.out
       cases he:uppL r1 with
       | error k =>
        rw [he] at h4 hy
        obtain ⟨rfl,g4⟩:=h4
        subst hy
        exact ⟨rfl,rfl,grownBy_trans H3.out.gr g4⟩
       | ok z =>
        rw [he,bind_ok] at hy
        rw [he] at h4
        obtain ⟨⟨rfl,h4⟩,g4⟩:=h4
        have hlen:=h4.1
        have H4:=Lib.hid (H3.out.step hbM hbR h4 g4)
        have HY:=Lib.hid hy
        obtain ⟨⟨m0,m1,m2,m3,m4,m5,m6⟩,f0,f1,f2,f3,f4,f5,f6⟩:=mO_cells H4.out.hm
        have HLZ:=Lib.hid (upp_len he)
        obtain ⟨BH,hBH⟩:∃BH,bs (obt z.1)=BH:=⟨_,rfl⟩
        obtain ⟨zb,hzb⟩:∃zb,(z.1.isSome && !([]:List UInt8).isEmpty)=zb:=⟨_,rfl⟩
        rw [hBH,hzb]
        have HBH:=Lib.hid (And.intro hBH hzb)
        clear hy he h4 g4 H3 hBH hzb hlen
        go_wp2
        go_meet
        exact ⟨.two none z.1,z.2,rfl,by rw [←HBH.out.1];rfl,rfl,HY.out.symm,by rw [show brBd (.two none z.1)=zb from HBH.out.2];exact H4.out.store hbM hRM HMW.out.2.2 _ _ ((mO_set H4.out.hm _).2.1 _ rfl),by simp [brLoT,obt],Nat.le_trans HLZ.out HR1.out⟩
      ·rw [if_neg h44] at hy
       have d1:¬(v:Int)=44:=by omega
       have d2:((v:Int)==44)=false:=by simpa using d1
       have d3:(v==44)=false:=by simpa using h44
       obtain ⟨v1,hv1⟩:∃v1,pk (r1.drop 1)=v1:=⟨_,rfl⟩
       rw [hv1] at hy
       have HV1:=Lib.hid hv1
       have HY:=Lib.hid hy
       clear hv1 hy h44
       go_upto_region 23 with fail
       go_cut [70] from 70 to 77 (fun s wx=>s=.bool (decide (v=45∧v1=105))∧Hid (∃k,wx=w2.drewN (m+k)))
       case first =>
        by_cases h45:v=45
        ·subst h45
         go_wp2_with fail
         refine (HP1.out _ _ H3.out.rd).mono ?_
         rintro e w4 ⟨rfl,m2,rfl⟩
         rw [HV1.out]
         by_cases h5:v1=105
         ·subst h5
          go_wp2
          go_meet
          exact ⟨by simp,m2,rfl⟩
         ·have k1:¬(v1:Int)=105:=by omega
          have k2:((v1:Int)==105)=false:=by simpa using k1
          have k3:(v1==105)=false:=by simpa using h5
          go_wp2
          go_meet
          exact ⟨by simp [h5],m2,rfl⟩
        ·have k1:¬(v:Int)=45:=by omega
         have k2:((v:Int)==45)=false:=by simpa using k1
         have k3:(v==45)=false:=by simpa using h45
         go_wp2
         go_meet
         exact ⟨by simp [h45],0,rfl⟩
       case rest =>
        obtain ⟨rfl,hC⟩:=hcut
        obtain ⟨m2,rfl⟩:=hC.out
        have H4:Hid (BrM w b l r1 d x M R 18442240474082181120 9218868437227405312 false false false (w2.drewN (m+m2))):=Lib.hid ⟨H3.out.rd,grownBy_drewN H2G.out (m+m2),H3.out.hm,H3.out.hr⟩
        have hy:=HY.out
        clear hC HY
        by_cases hi:v=45∧v1=105
        ·rw [if_pos hi] at hy
         have hd:decide (v=45∧v1=105)=true:=decide_eq_true hi
         rw [hd]
         have hr1l:1≤r1.length:=by
          cases r1 with
          | nil=>have:=HV.out;rw [hi.1] at this;cases this
          | cons c s=>simp
         obtain ⟨q,hq⟩:∃q,l.length - r1.length=q:=⟨_,rfl⟩
         have hq4:q≤4096:=by have:=HL.out;omega
         obtain ⟨c0,c1,g0,g1⟩:=H4.out.rd.cells rfl hq
         have h5:LR ((w2.drewN (m+m2)).setCell ⟨b,1,none⟩ (.int .i64 ((q:Int)+1))) b l (r1.drop 1) d x:=LR.drop H4.out.rd 1 hr1l (by rw [hq];rfl)
         have H5:=Lib.hid (H4.out.step hbM hbR h5 (grownBy_set (grownBy_refl _ _) 1 (.int .i64 ((q:Int)+1))))
         have HY:=Lib.hid hy
         clear hy hd hi hr1l hq h5
         go_wp2_with fail
         refine (HIN.out _ _ H5.out.rd).mono ?_
         intro e w6 h6
         have hy:=HY.out
         cases he:infL (r1.drop 1) with
         | error k =>
          rw [he] at h6 hy
          obtain ⟨rfl,g6⟩:=h6
          subst hy
          exact ⟨rfl,rfl,grownBy_trans H5.out.gr g6⟩
         | ok s =>
          rw [he,bind_ok] at hy
          rw [he] at h6
          obtain ⟨⟨rfl,h6⟩,g6⟩:=h6
          have H6:=Lib.hid (H5.out.step hbM hbR h6 g6)
          obtain ⟨s2,hs2⟩:∃s2,s.dropWhile blk=s2:=⟨_,rfl⟩
          rw [hs2] at hy
          have HY:=Lib.hid hy
          clear hy he h6 g6 H5
          go_wp2_with fail
          refine (HB.out _ _ _ H6.out.rd).mono ?_
          rw [hs2]
          rintro e w7 ⟨rfl,h7,g7⟩
          have H7:=Lib.hid (H6.out.step hbM hbR h7 g7)
          clear h7 g7 H6 hs2
          go_wp2_with fail
          refine (HP0.out _ _ _ H7.out.rd).mono ?_
          rintro e w9 ⟨rfl,m3,rfl⟩
          rw [show s2.drop 0=s2 from rfl]
          have H9:=Lib.hid (H7.out.quiet m3)
          have hy:=HY.out
          obtain ⟨v2,hv2⟩:∃v2,pk s2=v2:=⟨_,rfl⟩
          rw [hv2] at hy ⊢
          clear hv2 H7
          by_cases h44:v2=44
          ·rw [if_pos h44] at hy
           subst h44
           have HY:=Lib.hid hy
           clear hy
           go_wp2_with fail
           refine (HUP.out _ _ _ [] (by simp) H9.out.rd).mono ?_
           intro e w8 h8
           have hy:=HY.out
           cases he:uppL s2 with
           | error k =>
            rw [he] at h8 hy
            obtain ⟨rfl,g8⟩:=h8
            subst hy
            exact ⟨rfl,rfl,grownBy_trans H9.out.gr g8⟩
           | ok z =>
            rw [he,bind_ok] at hy
            rw [he] at h8
            obtain ⟨⟨rfl,h8⟩,g8⟩:=h8
            have H8:=Lib.hid (H9.out.step hbM hbR h8 g8)
            have HY:=Lib.hid hy
            obtain ⟨⟨m0,m1,m2,m3,m4,m5,m6⟩,f0,f1,f2,f3,f4,f5,f6⟩:=mO_cells H8.out.hm
            have HLZ:=Lib.hid (Nat.le_trans (upp_len he) (Nat.le_trans H9.out.rd.1 HL.out))
            obtain ⟨BH,hBH⟩:∃BH,bs (obt z.1)=BH:=⟨_,rfl⟩
            obtain ⟨zb,hzb⟩:∃zb,(z.1.isSome && !([]:List UInt8).isEmpty)=zb:=⟨_,rfl⟩
            rw [hBH,hzb]
            have HBH:=Lib.hid (And.intro hBH hzb)
            clear hy he h8 g8 hBH hzb
            go_wp2
            go_meet
            exact ⟨.two none z.1,z.2,rfl,by rw [←HBH.out.1];rfl,rfl,HY.out.symm,by rw [show brBd (.two none z.1)=zb from HBH.out.2];exact H8.out.store hbM hRM HMW.out.2.2 _ _ ((mO_set H8.out.hm _).2.1 _ rfl),by simp [brLoT,obt],HLZ.out⟩
          ·rw [if_neg h44] at hy
           have k1:¬(v2:Int)=44:=by omega
           have k2:((v2:Int) != 44)=true:=by simpa using k1
           have k3:(v2 != 44)=true:=by simpa using h44
           subst hy
           go_wp2_with fail
           refine (HFA.out _ _ _ H9.out.rd).mono ?_
           rintro e w10 ⟨rfl,rfl⟩
           exact ⟨rfl,rfl,H9.out.gr⟩
        ·rw [if_neg hi] at hy
         have hd:decide (v=45∧v1=105)=false:=decide_eq_false hi
         rw [hd]
         have HY:=Lib.hid hy
         clear hy hd hi
         go_wp2_with fail
         refine (HNU.out _ _ H4.out.rd).mono ?_
         intro e w6 h6
         have hy:=HY.out
         cases he:numL r1 with
         | error k =>
          rw [he] at h6 hy
          obtain ⟨rfl,g6⟩:=h6
          subst hy
          exact ⟨rfl,rfl,grownBy_trans H4.out.gr g6⟩
         | ok su =>
          obtain ⟨s,u⟩:=su
          rw [he,bind_ok] at hy
          rw [he] at h6
          obtain ⟨⟨rfl,h6⟩,g6⟩:=h6
          have H6:=Lib.hid (H4.out.step hbM hbR h6 g6)
          have hsl:=congrArg List.length (numL_le he)
          rw [List.length_append] at hsl
          have HSL:Hid (s.length≤4096):=Lib.hid (by have:=HR1.out;omega)
          obtain ⟨s2,hs2⟩:∃s2,u.dropWhile blk=s2:=⟨_,rfl⟩
          rw [hs2] at hy
          have HY:=Lib.hid hy
          clear hy he h6 g6 H4 hsl
          dsimp only
          go_wp2_with fail
          refine (HB.out _ _ _ H6.out.rd).mono ?_
          rw [hs2]
          rintro e w7 ⟨rfl,h7,g7⟩
          have H7:=Lib.hid (H6.out.step hbM hbR h7 g7)
          clear h7 g7 H6 hs2
          go_wp2_with fail
          refine (HP0.out _ _ _ H7.out.rd).mono ?_
          rintro e w9 ⟨rfl,m3,rfl⟩
          rw [show s2.drop 0=s2 from rfl]
          have H9:=Lib.hid (H7.out.quiet m3)
          have hy:=HY.out
          obtain ⟨v2,hv2⟩:∃v2,pk s2=v2:=⟨_,rfl⟩
          rw [hv2] at hy ⊢
          clear hv2 H7
          by_cases h44:v2=44
          ·rw [if_pos h44] at hy
           subst h44
           have HY:=Lib.hid hy
           clear hy
           go_wp2_with fail
           refine (HUP.out _ _ _ s HSL.out H9.out.rd).mono ?_
           intro e w8 h8
           have hy:=HY.out
           cases he:uppL s2 with
           | error k =>
            rw [he] at h8 hy
            obtain ⟨rfl,g8⟩:=h8
            subst hy
            exact ⟨rfl,rfl,grownBy_trans H9.out.gr g8⟩
           | ok z =>
            rw [he,bind_ok] at hy
            rw [he] at h8
            obtain ⟨⟨rfl,h8⟩,g8⟩:=h8
            have H8:=Lib.hid (H9.out.step hbM hbR h8 g8)
            have HY:=Lib.hid hy
            obtain ⟨⟨m0,m1,m2,m3,m4,m5,m6⟩,f0,f1,f2,f3,f4,f5,f6⟩:=mO_cells H8.out.hm
            have HLZ:=Lib.hid (Nat.le_trans (upp_len he) (Nat.le_trans H9.out.rd.1 HL.out))
            obtain ⟨BH,hBH⟩:∃BH,bs (obt z.1)=BH:=⟨_,rfl⟩
            obtain ⟨zb,hzb⟩:∃zb,(z.1.isSome && !(s).isEmpty)=zb:=⟨_,rfl⟩
            rw [hBH,hzb]
            have HBH:=Lib.hid (And.intro hBH hzb)
            clear hy he h8 g8 hBH hzb
            go_wp2
            go_meet
            exact ⟨.two (some (s,r1.length)) z.1,z.2,rfl,by rw [←HBH.out.1];rfl,rfl,HY.out.symm,by rw [show brBd (.two (some (s,r1.length)) z.1)=zb from HBH.out.2];exact H8.out.store hbM hRM HMW.out.2.2 _ _ ((mO_set H8.out.hm _).2.1 _ rfl),HSL.out,HLZ.out⟩
          ·rw [if_neg h44] at hy
           have k1:¬(v2:Int)=44:=by omega
           have k2:((v2:Int)==44)=false:=by simpa using k1
           have k3:(v2==44)=false:=by simpa using h44
           have HY:=Lib.hid hy
           obtain ⟨⟨m0,m1,m2,m3,m4,m5,m6⟩,f0,f1,f2,f3,f4,f5,f6⟩:=mO_cells H9.out.hm
           clear hy
           go_wp2
           go_meet
           exact ⟨.one s r1.length,s2,rfl,rfl,rfl,HY.out.symm,H9.out.store hbM hRM HMW.out.2.2 _ _ ((mO_set H9.out.hm _).2.1 _ rfl),HSL.out,HSL.out⟩
 case rest =>
  obtain ⟨br,r',rfl,rfl,hC⟩:=hcut
  have H4:Hid (BrM w b l r' d (lateB l.length br x) M R 18442240474082181120 9218868437227405312 (brEm br) (brBd br) false wc):=Lib.hid hC.out.2.2.1
  have hy:cloL br r'=y:=hC.out.2.1.symm
  unfold cloL at hy
  have HNA:=Lib.hid hC.out.1
  have hlo4:=hC.out.2.2.2.1
  have hhi4:=hC.out.2.2.2.2
  have HY2:=Lib.hid hy
  have HR1D:=Lib.hid (HRD.out (-1) _ hlo4)
  have HR2D:=Lib.hid (HRD.out 1 _ hhi4)
  have hel:=empty_bs (brLoT br)
  have heh:=empty_bs (brHiT br)
  obtain ⟨BLo,hBLo⟩:∃z,bs (brLoT br)=z:=⟨_,rfl⟩
  obtain ⟨BHi,hBHi⟩:∃z,bs (brHiT br)=z:=⟨_,rfl⟩
  rw [hBLo] at HR1D hel
  rw [hBHi] at HR2D heh
  rw [hBLo,hBHi]
  obtain ⟨em,hem⟩:∃z,brEm br=z:=⟨_,rfl⟩
  obtain ⟨bd,hbd⟩:∃z,brBd br=z:=⟨_,rfl⟩
  obtain ⟨P1,hP1⟩:∃P,(readS (-1) (brLoT br)).1=P:=⟨_,rfl⟩
  obtain ⟨P2,hP2⟩:∃P,(readS 1 (brHiT br)).1=P:=⟨_,rfl⟩
  obtain ⟨Q1,hQ1⟩:∃P,(readS (-1) (brLoT br)).2.1=P:=⟨_,rfl⟩
  obtain ⟨Q2,hQ2⟩:∃P,(readS 1 (brHiT br)).2.1=P:=⟨_,rfl⟩
  obtain ⟨E1,hE1⟩:∃P,(readS (-1) (brLoT br)).2.2=P:=⟨_,rfl⟩
  obtain ⟨E2,hE2⟩:∃P,(readS 1 (brHiT br)).2.2=P:=⟨_,rfl⟩
  rw [hP1,hQ1,hE1] at HR1D
  rw [hP2,hQ2,hE2] at HR2D
  obtain ⟨el,hel2⟩:∃z,(brLoT br).isEmpty=z:=⟨_,rfl⟩
  obtain ⟨eh,heh2⟩:∃z,(brHiT br).isEmpty=z:=⟨_,rfl⟩
  rw [hel2] at hel
  rw [heh2] at heh
  have hlo:brLo br=if el=true then (if em=true then 9218868437227405312 else 18442240474082181120) else P1:=by
   unfold brLo
   rw [←hel2,←hem,←hP1]
   by_cases h:brLoT br=[]
   ·rw [if_pos h,h];rfl
   ·rw [if_neg h,if_neg (by simpa using h)]
  have hhi:brHi br=if eh=true then (if em=true then 18442240474082181120 else 9218868437227405312) else P2:=by
   unfold brHi
   rw [←heh2,←hem,←hP2]
   by_cases h:brHiT br=[]
   ·rw [if_pos h,h];rfl
   ·rw [if_neg h,if_neg (by simpa using h)]
  rw [hem,hbd] at H4
  have HFIN:=Lib.hid (And.intro hlo (And.intro hhi (And.intro hem hbd)))
  have HEE:Hid (em=true→el=true∧eh=true):=Lib.hid (by
   intro h
   rw [←hem] at h
   rw [←hel2,←heh2]
   cases br <;> first | exact ⟨rfl,rfl⟩ | cases h)
  clear hC hy hlo4 hhi4 HRD hBLo hBHi hem hbd hP1 hP2 hQ1 hQ2 hE1 hE2 hel2 heh2 hlo hhi m0 m1 m2 m3 m4 m5 m6 f0 f1 f2 f3 f4 f5 f6 c2 H3
  go_wp2_with fail
  refine (HWA.out _ _ _ H4.out.rd).mono ?_
  intro e w5 h5
  have hy:=HY2.out
  cases hw:wantL 93 r' with
  | error k =>
   rw [hw] at h5 hy
   obtain ⟨rfl,g5⟩:=h5
   subst hy
   exact ⟨rfl,rfl,grownBy_trans H4.out.gr g5⟩
  | ok t =>
   rw [hw,bind_ok] at hy
   rw [hw] at h5
   obtain ⟨⟨rfl,h5⟩,g5⟩:=h5
   have H5:=Lib.hid (H4.out.step hbM hbR h5 g5)
   subst hy
   obtain ⟨⟨m0,m1,m2,m3,m4,m5,m6⟩,f0,f1,f2,f3,f4,f5,f6⟩:=mO_cells H5.out.hm
   clear hw h5 g5 H4 HY2
   cases em with
   | true =>
    obtain ⟨rfl,rfl⟩:=HEE.out rfl
    go_wp2_with fail
    refine (HEM.out _).mono ?_
    rintro e w6 ⟨rfl,hb6⟩
    have H6:=Lib.hid (H5.out.below hb6)
    obtain ⟨⟨m0,m1,m2,m3,m4,m5,m6⟩,f0,f1,f2,f3,f4,f5,f6⟩:=mO_cells H6.out.hm
    have H7:=Lib.hid (H6.out.store hbM hRM HMW.out.2.2 0 (.float .f64 9218868437227405312) ((mO_set H6.out.hm _).2.2.2.1 _ rfl))
    have H8:=Lib.hid (H7.out.store hbM hRM HMW.out.2.2 1 (.float .f64 18442240474082181120) ((mO_set H7.out.hm _).2.2.2.2.1 _ rfl))
    obtain ⟨⟨y0,y1,y2,y3,y4,y5,y6⟩,_⟩:=mO_cells H8.out.hm
    obtain ⟨_,q0,q1,q2,q3,q4,q5,q6⟩:=mO_cells H8.out.hr
    clear hb6 H5
    go_wp2
    have h9:=H8.out
    obtain ⟨⟨z0,z1,z2,z3,z4,z5,z6⟩,_⟩:=mO_cells (putM_is (lo':=9218868437227405312) (hi':=18442240474082181120) (e':=true) (bd':=bd) (n':=false) (wd':={ data:=#[] }) (at1:=0) h9.hr)
    unfold putM at z0 z1 z2 z3 z4 z5 z6
    obtain ⟨f1,f2⟩:=putM_far (lo:=9218868437227405312) (hi:=18442240474082181120) (e:=true) (bd:=bd) (n:=false) (wd:={ data:=#[] }) (at0:=0) h9.rd hbR h9.gr (Nat.le_of_eq HMW.out.1)
    refine bodyPost_ret (v:=mV 9218868437227405312 18442240474082181120 true bd false { data:=#[] } 0) (by simp [results,Tryz.results56,go_sem,z0,z1,z2,z3,z4,z5,z6]) rfl ?_
    exact ⟨⟨by rw [HFIN.out.1,HFIN.out.2.1,HFIN.out.2.2.1,HFIN.out.2.2.2,HNA.out];rfl,f1⟩,f2⟩
   | false =>
    cases el with
    | true =>
     cases eh with
     | true =>
      obtain ⟨_,q0,q1,q2,q3,q4,q5,q6⟩:=mO_cells H5.out.hr
      go_wp2
      have h9:=H5.out
      obtain ⟨⟨z0,z1,z2,z3,z4,z5,z6⟩,_⟩:=mO_cells (putM_is (lo':=18442240474082181120) (hi':=9218868437227405312) (e':=false) (bd':=bd) (n':=false) (wd':={ data:=#[] }) (at1:=0) h9.hr)
      unfold putM at z0 z1 z2 z3 z4 z5 z6
      obtain ⟨f1,f2⟩:=putM_far (lo:=18442240474082181120) (hi:=9218868437227405312) (e:=false) (bd:=bd) (n:=false) (wd:={ data:=#[] }) (at0:=0) h9.rd hbR h9.gr (Nat.le_of_eq HMW.out.1)
      refine bodyPost_ret (v:=mV 18442240474082181120 9218868437227405312 false bd false { data:=#[] } 0) (by simp [results,Tryz.results56,go_sem,z0,z1,z2,z3,z4,z5,z6]) rfl ?_
      exact ⟨⟨by rw [HFIN.out.1,HFIN.out.2.1,HFIN.out.2.2.1,HFIN.out.2.2.2,HNA.out];rfl,f1⟩,f2⟩
     | false =>
      go_wp2_with fail
      refine (HR2D.out _).mono ?_
      rintro e H6w ⟨v9,rfl,rfl,H6b⟩
      have H6':=Lib.hid (H5.out.below H6b)
      obtain ⟨⟨m0,m1,m2,m3,m4,m5,m6⟩,f0,f1,f2,f3,f4,f5,f6⟩:=mO_cells H6'.out.hm
      have H6:=Lib.hid (H6'.out.store hbM hRM HMW.out.2.2 1 (.float .f64 P2) ((mO_set H6'.out.hm _).2.2.2.2.1 _ rfl))
      clear H6b H5
      obtain ⟨⟨y0,y1,y2,y3,y4,y5,y6⟩,_⟩:=mO_cells H6.out.hm
      obtain ⟨_,q0,q1,q2,q3,q4,q5,q6⟩:=mO_cells H6.out.hr
      go_wp2
      have h9:=H6.out
      obtain ⟨⟨z0,z1,z2,z3,z4,z5,z6⟩,_⟩:=mO_cells (putM_is (lo':=18442240474082181120) (hi':=P2) (e':=false) (bd':=bd) (n':=false) (wd':={ data:=#[] }) (at1:=0) h9.hr)
      unfold putM at z0 z1 z2 z3 z4 z5 z6
      obtain ⟨f1,f2⟩:=putM_far (lo:=18442240474082181120) (hi:=P2) (e:=false) (bd:=bd) (n:=false) (wd:={ data:=#[] }) (at0:=0) h9.rd hbR h9.gr (Nat.le_of_eq HMW.out.1)
      refine bodyPost_ret (v:=mV 18442240474082181120 P2 false bd false { data:=#[] } 0) (by simp [results,Tryz.results56,go_sem,z0,z1,z2,z3,z4,z5,z6]) rfl ?_
      exact ⟨⟨by rw [HFIN.out.1,HFIN.out.2.1,HFIN.out.2.2.1,HFIN.out.2.2.2,HNA.out];rfl,f1⟩,f2⟩
    | false =>
     go_wp2_with fail
     refine (HR1D.out _).mono ?_
     rintro e H6w ⟨v9,rfl,rfl,H6b⟩
     have H6':=Lib.hid (H5.out.below H6b)
     obtain ⟨⟨m0,m1,m2,m3,m4,m5,m6⟩,f0,f1,f2,f3,f4,f5,f6⟩:=mO_cells H6'.out.hm
     have H6:=Lib.hid (H6'.out.store hbM hRM HMW.out.2.2 0 (.float .f64 P1) ((mO_set H6'.out.hm _).2.2.2.1 _ rfl))
     clear H6b H5
     cases eh with
     | true =>
      obtain ⟨⟨y0,y1,y2,y3,y4,y5,y6⟩,_⟩:=mO_cells H6.out.hm
      obtain ⟨_,q0,q1,q2,q3,q4,q5,q6⟩:=mO_cells H6.out.hr
      go_wp2
      have h9:=H6.out
      obtain ⟨⟨z0,z1,z2,z3,z4,z5,z6⟩,_⟩:=mO_cells (putM_is (lo':=P1) (hi':=9218868437227405312) (e':=false) (bd':=bd) (n':=false) (wd':={ data:=#[] }) (at1:=0) h9.hr)
      unfold putM at z0 z1 z2 z3 z4 z5 z6
      obtain ⟨f1,f2⟩:=putM_far (lo:=P1) (hi:=9218868437227405312) (e:=false) (bd:=bd) (n:=false) (wd:={ data:=#[] }) (at0:=0) h9.rd hbR h9.gr (Nat.le_of_eq HMW.out.1)
      refine bodyPost_ret (v:=mV P1 9218868437227405312 false bd false { data:=#[] } 0) (by simp [results,Tryz.results56,go_sem,z0,z1,z2,z3,z4,z5,z6]) rfl ?_
      exact ⟨⟨by rw [HFIN.out.1,HFIN.out.2.1,HFIN.out.2.2.1,HFIN.out.2.2.2,HNA.out];rfl,f1⟩,f2⟩
     | false =>
      go_wp2_with fail
      refine (HR2D.out _).mono ?_
      rintro e H7w ⟨v9,rfl,rfl,H7b⟩
      have H7':=Lib.hid (H6.out.below H7b)
      obtain ⟨⟨m0,m1,m2,m3,m4,m5,m6⟩,f0,f1,f2,f3,f4,f5,f6⟩:=mO_cells H7'.out.hm
      have H7:=Lib.hid (H7'.out.store hbM hRM HMW.out.2.2 1 (.float .f64 P2) ((mO_set H7'.out.hm _).2.2.2.2.1 _ rfl))
      clear H7b H6
      obtain ⟨⟨y0,y1,y2,y3,y4,y5,y6⟩,_⟩:=mO_cells H7.out.hm
      obtain ⟨_,q0,q1,q2,q3,q4,q5,q6⟩:=mO_cells H7.out.hr
      go_wp2
      have h9:=H7.out
      obtain ⟨⟨z0,z1,z2,z3,z4,z5,z6⟩,_⟩:=mO_cells (putM_is (lo':=P1) (hi':=P2) (e':=false) (bd':=bd) (n':=false) (wd':={ data:=#[] }) (at1:=0) h9.hr)
      unfold putM at z0 z1 z2 z3 z4 z5 z6
      obtain ⟨f1,f2⟩:=putM_far (lo:=P1) (hi:=P2) (e:=false) (bd:=bd) (n:=false) (wd:={ data:=#[] }) (at0:=0) h9.rd hbR h9.gr (Nat.le_of_eq HMW.out.1)
      refine bodyPost_ret (v:=mV P1 P2 false bd false { data:=#[] } 0) (by simp [results,Tryz.results56,go_sem,z0,z1,z2,z3,z4,z5,z6]) rfl ?_
      exact ⟨⟨by rw [HFIN.out.1,HFIN.out.2.1,HFIN.out.2.2.1,HFIN.out.2.2.2,HNA.out];rfl,f1⟩,f2⟩
end Go.Proofs.YtigmpifjcijdbaaGreatDoor
