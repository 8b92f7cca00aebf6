/- Layer 12, the program: a literal without a decoration: literal, scan, Read. -/
import Derived.Test.YtigmpifjcijdbaaGreatDoorG41
import Derived.Test.YtigmpifjcijdbaaGreatDoorG28
import Derived.Test.YtigmpifjcijdbaaGreatDoorG34
section
namespace Go.Proofs.YtigmpifjcijdbaaGreatDoor
set_option linter.unusedVariables false
set_option linter.unusedSimpArgs false
open Go.RowKit Verge Verge.Lit
def lfLo:Lf→Nat
 | .br y=>brLo y
 | .un u=>unLo u
def lfHi:Lf→Nat
 | .br y=>brHi y
 | .un u=>unHi u
def lateF (len:Nat) (f:Lf) (x:Int×Int):Int×Int:=
 match f with
 | .br y=>lateB len y x
 | .un u=>lateUn len u x
def litR (l:List UInt8):Except (Int×Int) (Nat×Nat):=
 match firstL false l with
 | .error k=>.error (((l.length - k:Nat):Int),120)
 | .ok (f,r)=>if r≠[] then .error (((l.length - r.length:Nat):Int),120) else if (lateF l.length f (0,0)).2≠0 then .error (lateF l.length f (0,0)) else .ok (lfLo f,lfHi f)
def LitAns (w:World) (b:Nat) (x:Except (Int×Int) (Nat×Nat)) (e:Ending) (w':World):Prop:=
 (match x with
 | .error pc=>e=.panicked (lflt pc.1 pc.2)
 | .ok P=>∃em bd n at0,e=.returned (mV P.1 P.2 em bd n { data:=#[] } at0))∧w.grownBy w' (some b)
set_option maxRecDepth 100000 in
set_option maxHeartbeats 8000000 in
theorem literal_any (w:World) (b:Nat) (l:List UInt8) (h:LR w b l l false (0,0)) (hl:l.length≤4096):Calls Tryz.prog 43 #[.pointer (some ⟨b,0,none⟩)] w (LitAns w b (litR l)):=by
  have HI:=Lib.hid (fun W s h=>lis_any W b l s false (0,0) 91 h (by omega) (by omega))
  have HBR:=Lib.hid (fun W s h=>bracket_any W b l s false (0,0) h hl)
  have HUN:=Lib.hid (fun W s h=>uncertain_any W b l s false (0,0) h hl)
  have HFA:=Lib.hid (fun W s z h=>lfail_any W b l s false z h)
  have hsf:=store_f
  have hbl:=h.lt
  obtain ⟨R,hR⟩:∃R,w.heap.size=R:=⟨_,rfl⟩
  obtain ⟨M,hM⟩:∃M,R+1=M:=⟨_,rfl⟩
  obtain ⟨Z,hZ⟩:∃Z:Obj,mO 0 0 false false false { data:=#[] } 0=Z:=⟨_,rfl⟩
  have hsz:(w.alloc Z).heap.size=w.heap.size+1:=by show (w.heap.push _).size=_;simp
  have hB0:Below w.heap.size w ((w.alloc Z).alloc Z):=raft (rnew w _) (rnew (w.alloc Z) _)
  have h0:BrM w b l l false (0,0) M R 0 0 false false false ((w.alloc Z).alloc Z):=by
    refine ⟨h.later hB0,grownBy_below hB0,?_,?_⟩
    · rw [←hM,←hR,←hsz,heap_alloc_new,hZ]
    · rw [(rnew (w.alloc Z) Z).block R (by omega),←hR,heap_alloc_new,hZ]
  rw [←hZ] at h0
  have H0:=Lib.hid h0
  have hbR:b≠R:=by omega
  have hbM:b≠M:=by omega
  have hRM:R≠M:=by omega
  have HMW:Hid (w.heap.size≤M∧w.heap.size≤R):=Lib.hid (by omega)
  obtain ⟨y,hy⟩:∃y,litR l=y:=⟨_,rfl⟩
  rw [hy]
  have HY:=Lib.hid hy
  have HL:=Lib.hid hl
  clear h h0 hsz hB0 hZ hy hl hbl
  go_enter Tryz.func43,Tryz.ntmps43
  go_wp2_with fail
  refine (HI.out _ _ H0.out.rd).mono ?_
  rintro e w1 ⟨rfl,h1,k1⟩
  have H1:=Lib.hid (H0.out.step hbM hbR h1 k1)
  clear h1 k1 H0 hR hM
  go_upto_if 5 with fail
  go_cut [7] from 5 to 9 (fun s wx=>∃(f:Lf) (r:List UInt8) (em bd n:Bool),Hid (firstL false l=.ok (f,r)∧BrM w b l r false (lateF l.length f (0,0)) M R (lfLo f) (lfHi f) em bd n wx))
  case first =>
    have hy:=HY.out
    unfold litR firstL at hy
    cases hb:(isL 91 l).1 with
    | true =>
      rw [hb,if_pos rfl] at hy
      have HF:Hid (firstL false l=(braL false (isL 91 l).2).bind fun x=>.ok (.br x.1,x.2)):=Lib.hid (by unfold firstL;rw [hb,if_pos rfl])
      go_wp2_with fail
      refine (HBR.out _ _ H1.out.rd).mono ?_
      intro e w2 h2
      cases hx:braL false (isL 91 l).2 with
      | error k =>
        rw [hx] at h2 hy
        obtain ⟨rfl,g2⟩:=h2
        subst hy
        exact ⟨rfl,rfl,grownBy_trans H1.out.gr g2⟩
      | ok z =>
        rw [hx] at h2
        obtain ⟨⟨rfl,h2⟩,g2⟩:=h2
        have H2:=Lib.hid (H1.out.step hbM hbR h2 g2)
        have HF2:=Lib.hid (HF.out.trans (by rw [hx];rfl:_=.ok (Lf.br z.1,z.2)))
        obtain ⟨⟨m0,m1,m2,m3,m4,m5,m6⟩,f0,f1,f2,f3,f4,f5,f6⟩:=mO_cells H2.out.hm
        obtain ⟨P1,hP1⟩:∃P,brLo z.1=P:=⟨_,rfl⟩
        obtain ⟨P2,hP2⟩:∃P,brHi z.1=P:=⟨_,rfl⟩
        obtain ⟨e1,he1⟩:∃P,brEm z.1=P:=⟨_,rfl⟩
        obtain ⟨e2,he2⟩:∃P,brBd z.1=P:=⟨_,rfl⟩
        obtain ⟨e3,he3⟩:∃P,brNai z.1=P:=⟨_,rfl⟩
        rw [hP1,hP2,he1,he2,he3]
        have HP:=Lib.hid (And.intro hP1 hP2)
        clear hy hx h2 g2 hP1 hP2 he1 he2 he3 H1 HF
        go_wp2
        go_meet
        refine ⟨.br z.1,z.2,e1,e2,e3,HF2.out,?_⟩
        obtain ⟨q1,q2⟩:=putM_far (lo:=P1) (hi:=P2) (e:=e1) (bd:=e2) (n:=e3) (wd:={ data:=#[] }) (at0:=0) H2.out.rd hbM H2.out.gr HMW.out.1
        refine ⟨q1,q2,?_,?_⟩
        · show (putM w2 M P1 P2 e1 e2 e3 { data:=#[] } 0).heap[M]?=some (mO (brLo z.1) (brHi z.1) _ _ _ _ _)
          rw [HP.out.1,HP.out.2]
          exact putM_is H2.out.hm
        · exact set_keep (set_keep (set_keep (set_keep (set_keep (set_keep (set_keep H2.out.hr hRM _ _) hRM _ _) hRM _ _) hRM _ _) hRM _ _) hRM _ _) hRM _ _
    | false =>
      rw [hb,if_neg (by simp)] at hy
      have HF:Hid (firstL false l=(uncL l).bind fun x=>.ok (.un x.1,x.2)):=Lib.hid (by unfold firstL;rw [hb,if_neg (by simp)])
      have hll:(isL 91 l).2=l:=by
        cases l with
        | nil=>rfl
        | cons c s =>
          by_cases e:lo c=91
          · rw [show isL 91 (c::s)=(true,s) from if_pos e] at hb;cases hb
          · rw [show isL 91 (c::s)=(false,c::s) from if_neg e]
      rw [hll] at H1
      clear hll
      go_wp2_with fail
      refine (HUN.out _ _ H1.out.rd).mono ?_
      intro e w2 h2
      cases hx:uncL l with
      | error k =>
        rw [hx] at h2 hy
        obtain ⟨rfl,g2⟩:=h2
        subst hy
        exact ⟨rfl,rfl,grownBy_trans H1.out.gr g2⟩
      | ok z =>
        rw [hx] at h2
        obtain ⟨⟨rfl,h2⟩,g2⟩:=h2
        have H2:=Lib.hid (H1.out.step hbM hbR h2 g2)
        have HF2:=Lib.hid (HF.out.trans (by rw [hx];rfl:_=.ok (Lf.un z.1,z.2)))
        obtain ⟨⟨m0,m1,m2,m3,m4,m5,m6⟩,f0,f1,f2,f3,f4,f5,f6⟩:=mO_cells H2.out.hm
        obtain ⟨P1,hP1⟩:∃P,unLo z.1=P:=⟨_,rfl⟩
        obtain ⟨P2,hP2⟩:∃P,unHi z.1=P:=⟨_,rfl⟩
        obtain ⟨e2,he2⟩:∃P,(!z.1.endless)=P:=⟨_,rfl⟩
        rw [hP1,hP2,he2]
        have HP:=Lib.hid (And.intro hP1 hP2)
        clear hy hx h2 g2 hP1 hP2 he2 H1 HF
        go_wp2
        go_meet
        refine ⟨.un z.1,z.2,false,e2,false,HF2.out,?_⟩
        obtain ⟨q1,q2⟩:=putM_far (lo:=P1) (hi:=P2) (e:=false) (bd:=e2) (n:=false) (wd:={ data:=#[] }) (at0:=0) H2.out.rd hbM H2.out.gr HMW.out.1
        refine ⟨q1,q2,?_,?_⟩
        · show (putM w2 M P1 P2 false e2 false { data:=#[] } 0).heap[M]?=some (mO (unLo z.1) (unHi z.1) _ _ _ _ _)
          rw [HP.out.1,HP.out.2]
          exact putM_is H2.out.hm
        · exact set_keep (set_keep (set_keep (set_keep (set_keep (set_keep (set_keep H2.out.hr hRM _ _) hRM _ _) hRM _ _) hRM _ _) hRM _ _) hRM _ _) hRM _ _
  case rest =>
    obtain ⟨f,r,em,bd,n,hC⟩:=hcut
    have H2:=Lib.hid hC.out.2
    have hy:=HY.out
    unfold litR at hy
    rw [hC.out.1] at hy
    dsimp only at hy
    have HY:=Lib.hid hy
    obtain ⟨q,hq⟩:∃q,l.length - r.length=q:=⟨_,rfl⟩
    obtain ⟨S,hS⟩:∃S,bs l=S:=⟨_,rfl⟩
    have hsz:S.size=l.length:=by rw [←hS];exact bs_size l
    obtain ⟨L,hLL⟩:∃L,l.length=L:=⟨_,rfl⟩
    rw [hLL] at hsz
    have h3:=H2.out.rd.far hbM 6 (.int .i64 (q:Int))
    have hm3:=(mO_set H2.out.hm (.int .i64 (q:Int))).2.2.2.2.2.2 _ rfl
    obtain ⟨c0,c1,fz0,fz1⟩:=H2.out.rd.cells hS hq
    obtain ⟨⟨m0,m1,m2,m3,m4,m5,m6⟩,f0,f1,f2,f3,f4,f5,f6⟩:=mO_cells H2.out.hm
    obtain ⟨e0,e1,fze0,fze1⟩:=h3.cells hS hq
    obtain ⟨e2,e3,e4,_,_,_⟩:=h3.more
    obtain ⟨⟨k0,k1,k2,k3,k4,k5,k6⟩,_⟩:=mO_cells hm3
    obtain ⟨P1,hP1⟩:∃P,lfLo f=P:=⟨_,rfl⟩
    obtain ⟨P2,hP2⟩:∃P,lfHi f=P:=⟨_,rfl⟩
    obtain ⟨lp,hlp⟩:∃P,(lateF l.length f (0,0)).1=P:=⟨_,rfl⟩
    obtain ⟨lc,hlc⟩:∃P,(lateF l.length f (0,0)).2=P:=⟨_,rfl⟩
    rw [hlp] at e3
    rw [hlc] at e4
    rw [hP1] at k0 m0
    rw [hP2] at k1 m1
    have HH:=Lib.hid (And.intro hP1 (And.intro hP2 (And.intro hlp (And.intro hlc (And.intro hq (And.intro hS hLL))))))
    have H3:=Lib.hid (And.intro h3 (And.intro hm3 (And.intro (grown_far H2.out.gr HMW.out.1 6 (.int .i64 (q:Int))) (set_keep H2.out.hr hRM 6 (.int .i64 (q:Int))))))
    have hqL:q≤L:=by omega
    have hrl:=H2.out.rd.1
    have HRL:=Lib.hid hrl
    clear hC hy hS hLL hP1 hP2 hlp hlc h3 hm3 hrl
    by_cases hr0:r=[]
    · have hqe:q=L:=by
        have h1:=HH.out.2.2.2.2.1
        rw [hr0] at h1
        have h2:=HH.out.2.2.2.2.2.2
        simp at h1;omega
      have hqI:¬(q:Int)<(L:Int):=by omega
      have hqd:decide ((q:Int)<(L:Int))=false:=by simpa using hqI
      have hqn:decide (q<L)=false:=by simp;omega
      have hy:=HY.out
      rw [if_neg (by simp [hr0]),HH.out.2.2.2.1,HH.out.1,HH.out.2.1] at hy
      have HY2:=Lib.hid hy
      clear hqe hr0 HY
      by_cases hlc0:lc=0
      · rw [if_neg (by simpa using hlc0)] at hy
        have hlb:(lc==0)=true:=by simpa using hlc0
        have hln:(lc != 0)=false:=by simpa using hlc0
        obtain ⟨_,q0,q1,q2,q3,q4,q5,q6⟩:=mO_cells H3.out.2.2.2
        clear HY2
        go_upto_region 8 with fail
        go_quiet (fail)
        subst hy
        go_wp2
        obtain ⟨⟨z0,z1,z2,z3,z4,z5,z6⟩,_⟩:=mO_cells (putM_is (w:=(wc.setCell ⟨M,6,none⟩ (.int .i64 (q:Int))).drewN nq) (lo':=P1) (hi':=P2) (e':=em) (bd':=bd) (n':=n) (wd':={ data:=#[] }) (at1:=(q:Int)) H3.out.2.2.2)
        unfold putM at z0 z1 z2 z3 z4 z5 z6
        obtain ⟨g1,g2⟩:=putM_far (lo:=P1) (hi:=P2) (e:=em) (bd:=bd) (n:=n) (wd:={ data:=#[] }) (at0:=(q:Int)) (H3.out.1.drewN nq) hbR (grownBy_drewN H3.out.2.2.1 nq) HMW.out.2
        refine bodyPost_ret (v:=mV P1 P2 em bd n { data:=#[] } (q:Int)) (by simp [results,Tryz.results43,go_sem,z0,z1,z2,z3,z4,z5,z6]) rfl ?_
        exact ⟨⟨em,bd,n,(q:Int),rfl⟩,g2⟩
      · rw [if_pos hlc0] at hy
        have hlb:(lc==0)=false:=by simpa using hlc0
        have hln:(lc != 0)=true:=by simpa using hlc0
        clear HY2
        subst hy
        go_upto_region 8 with fail
        go_quiet (fail)
        go_wp2
        refine ⟨rfl,?_,grownBy_drewN H3.out.2.2.1 nq⟩
        show _=Ending.panicked (lflt (lateF l.length f (0,0)).1 (lateF l.length f (0,0)).2)
        rw [HH.out.2.2.1,HH.out.2.2.2.1]
    · have hqe:q<L:=by
        have h1:=HH.out.2.2.2.2.1
        have h2:=HH.out.2.2.2.2.2.2
        have h3:=List.length_pos_iff.2 hr0
        have:=HRL.out
        omega
      have hqI:(q:Int)<(L:Int):=by omega
      have hqd:decide ((q:Int)<(L:Int))=true:=by simpa using hqI
      have hqn:decide (q<L)=true:=by simpa using hqe
      have hy:=HY.out
      rw [if_pos hr0] at hy
      subst hy
      clear hqe hr0 HY
      go_upto_region 8 with fail
      go_quiet (fail)
      go_wp2_with fail
      refine (HFA.out _ _ _ (H3.out.1.drewN _)).mono ?_
      rintro e w9 ⟨rfl,rfl⟩
      refine ⟨rfl,?_,grownBy_drewN H3.out.2.2.1 _⟩
      first
        | exact rfl
        | (show Ending.panicked (lflt ((l.length - r.length:Nat):Int) 120)=Ending.panicked (lflt (q:Int) 120)
           rw [HH.out.2.2.2.2.1])
end Go.Proofs.YtigmpifjcijdbaaGreatDoor
end

section
namespace Go.Proofs.YtigmpifjcijdbaaGreatDoor
set_option linter.unusedVariables false
set_option linter.unusedSimpArgs false
open Go.RowKit Verge Verge.Lit
theorem lta_is (v:Value) (W:World):(Instr.typeAssert (.iface 79 v) 20 79 true).run Tryz.prog W=.ok (.tuple #[v,.bool true]) W:=by kernel_rfl
theorem lta_no (W:World):(Instr.typeAssert .nilIface 20 79 true).run Tryz.prog W=.ok (.tuple #[.agg #[.int .i64 0,.int .i64 0],.bool false]) W:=by kernel_rfl
abbrev lfO (x y:Value):Obj:=.cells #[x,y] 79
theorem putM_keep {w:World} {R M:Nat} {o:Obj} (h:w.heap[M]?=some o) (hM:M≠R) (lo hi:Nat) (e bd n:Bool) (wd:ByteArray) (at0:Int):(putM w R lo hi e bd n wd at0).heap[M]?=some o:=by
 unfold putM
 exact set_keep (set_keep (set_keep (set_keep (set_keep (set_keep (set_keep h hM _ _) hM _ _) hM _ _) hM _ _) hM _ _) hM _ _) hM _ _
theorem putM_below {B:Nat} {w W:World} (h:Below B w W) {R:Nat} (hR:B≤R) (lo hi:Nat) (e bd n:Bool) (wd:ByteArray) (at0:Int):Below B w (putM W R lo hi e bd n wd at0):=by
 unfold putM
 exact below_set (below_set (below_set (below_set (below_set (below_set (below_set h _ _ _ hR) _ _ _ hR) _ _ _ hR) _ _ _ hR) _ _ _ hR) _ _ _ hR) _ _ _ hR
theorem cI_set {w:World} {A:Nat} {v:Value} (h:w.heap[A]?=some (cI v)) (u:Value):(w.setCell ⟨A,0,none⟩ u).heap[A]?=some (cI u):=by simp [World.setCell,Array.getElem?_modify,h]
theorem cE_set {w:World} {A:Nat} {v:Value} (h:w.heap[A]?=some (cE v)) (u:Value):(w.setCell ⟨A,0,none⟩ u).heap[A]?=some (cE u):=by simp [World.setCell,Array.getElem?_modify,h]
def lput3 (w:World) (R A E:Nat) (lo hi:Nat) (e bd n:Bool) (wd:ByteArray) (at0:Int) (p c:Int):World:=((putM w R lo hi e bd n wd at0).setCell ⟨A,0,none⟩ (.int .i64 p)).setCell ⟨E,0,none⟩ (.int .i64 c)
theorem lput3_is {w:World} {R A E lo hi lo' hi':Nat} {e bd n e' bd' n':Bool} {wd wd':ByteArray} {at0 at1 a0 e0 p c:Int} (hR:w.heap[R]?=some (mO lo hi e bd n wd at0)) (hA:w.heap[A]?=some (cI (.int .i64 a0))) (hE:w.heap[E]?=some (cE (.int .i64 e0))) (h1:R≠A) (h2:R≠E) (h3:A≠E) :
  (lput3 w R A E lo' hi' e' bd' n' wd' at1 p c).heap[R]?=some (mO lo' hi' e' bd' n' wd' at1)∧(lput3 w R A E lo' hi' e' bd' n' wd' at1 p c).heap[A]?=some (cI (.int .i64 p))∧(lput3 w R A E lo' hi' e' bd' n' wd' at1 p c).heap[E]?=some (cE (.int .i64 c)):=by
 unfold lput3
 refine ⟨?_,?_,?_⟩
 ·exact set_keep (set_keep (putM_is hR) h1 _ _) h2 _ _
 ·exact set_keep (cI_set (putM_keep hA (Ne.symm h1) _ _ _ _ _ _ _) _) h3 _ _
 ·exact cE_set (set_keep (putM_keep hE (Ne.symm h2) _ _ _ _ _ _ _) (Ne.symm h3) _ _) _
theorem lput3_below {B:Nat} {w W:World} (h:Below B w W) {R A E:Nat} (hR:B≤R) (hA:B≤A) (hE:B≤E) (lo hi:Nat) (e bd n:Bool) (wd:ByteArray) (at0:Int) (p c:Int):Below B w (lput3 W R A E lo hi e bd n wd at0 p c):=by
 unfold lput3
 exact below_set (below_set (putM_below h hR _ _ _ _ _ _ _) _ _ _ hA) _ _ _ hE
theorem cI_cells {w:World} {A:Nat} {v:Value} (h:w.heap[A]?=some (cI v)):w.cell? ⟨A,0,none⟩=some v∧w.frozen? ⟨A,0,none⟩=false:=by constructor <;> simp [World.cell?,World.frozen?,h]
theorem cE_cells {w:World} {A:Nat} {v:Value} (h:w.heap[A]?=some (cE v)):w.cell? ⟨A,0,none⟩=some v∧w.frozen? ⟨A,0,none⟩=false:=by constructor <;> simp [World.cell?,World.frozen?,h]
set_option maxRecDepth 100000 in
set_option maxHeartbeats 2000000 in
theorem lcatch_p (R A E:Nat) (p c:Int) (older:List PanicEntry) (w:World) (lo hi:Nat) (e bd n:Bool) (wd:ByteArray) (at0 a0 e0:Int) (hR:w.heap[R]?=some (mO lo hi e bd n wd at0)) (hA:w.heap[A]?=some (cI (.int .i64 a0))) (hE:w.heap[E]?=some (cE (.int .i64 e0)))
  (h1:R≠A) (h2:R≠E) (h3:A≠E) (B:Nat) (hB1:B≤R) (hB2:B≤A) (hB3:B≤E) (hB:B≤w.heap.size) :
  CallsD Tryz.prog 42 #[.pointer (some ⟨R,0,none⟩),.pointer (some ⟨A,0,none⟩),.pointer (some ⟨E,0,none⟩)] (.panicking ({ v:=.iface 79 (.agg #[.int .i64 p,.int .i64 c]),recovered:=false }::older)) w fun en u' w' =>
   en=.returned (.tuple #[])∧u'=.panicking ({ v:=.iface 79 (.agg #[.int .i64 p,.int .i64 c]),recovered:=true }::older) ∧
   w'.heap[R]?=some (mO 0 0 false false false { data:=#[] } 0)∧w'.heap[A]?=some (cI (.int .i64 p))∧w'.heap[E]?=some (cE (.int .i64 c))∧Below B w w':=by
 have hfr:∀a b c:Value,(#[a,b,c]++Array.replicate (Tryz.f42.ntmps - (#[a,b,c]:Array Value).size) undef:Array Value)=#[a,b,c,undef,undef,undef,undef,undef,undef,undef,undef,undef,undef,undef,undef,undef]:=fun _ _ _=>rfl
 have hb:=rnew w (lfO (.int .i64 p) (.int .i64 c))
 have hsf:=store_f
 have r1:=(Array.getElem?_eq_some_iff.1 hR).1
 have r2:=(Array.getElem?_eq_some_iff.1 hA).1
 have r3:=(Array.getElem?_eq_some_iff.1 hE).1
 have hR':=(hb.block R r1).trans hR
 have hA':=(hb.block A r2).trans hA
 have hE':=(hb.block E r3).trans hE
 have hF':=heap_alloc_new w (lfO (.int .i64 p) (.int .i64 c))
 refine callsD_of_wpS Tryz.func42 rfl fun c₀ cs hu => ?_
 rw [hfr]
 apply wpS_seq
 apply wpS_region
 generalize hQ:bodyPostS Tryz.prog Tryz.f42 c₀ cs _=Q
 simp [wpOpsS,go_sem,recoverD,hu,Tryz.ntmps42,lta_is,Exit.thenS]
 apply wpS_seq
 apply wpS_region
 simp [wpOpsS,go_sem,Exit.thenS]
 refine wpS_cond (t:=true) (by simp [Act.eval]) ?_
 simp only [if_true]
 refine wpS_of_wp ?_
 generalize hW:w.alloc (lfO (.int .i64 p) (.int .i64 c))=W at *
 have k1:¬w.heap.size=R:=by omega
 have k2:¬w.heap.size=A:=by omega
 have k3:¬w.heap.size=E:=by omega
 have c0:W.cell? ⟨w.heap.size,0,none⟩=some (.int .i64 p):=by simp [World.cell?,hF']
 have c1:W.cell? ⟨w.heap.size,1,none⟩=some (.int .i64 c):=by simp [World.cell?,hF']
 obtain ⟨⟨m0,m1,m2,m3,m4,m5,m6⟩,f0,f1,f2,f3,f4,f5,f6⟩:=mO_cells hR'
 obtain ⟨a1,a2⟩:=cI_cells hA'
 obtain ⟨b1,b2⟩:=cE_cells hE'
 go_region
 subst hQ
 clear c0 c1 m0 m1 m2 m3 m4 m5 m6 f0 f1 f2 f3 f4 f5 f6 a1 a2 b1 b2 k1 k2 k3 hfr
 have hfin:∀(W':World),Below B w W'→W'.heap[R]?=some (mO 0 0 false false false { data:=#[] } 0)→W'.heap[A]?=some (cI (.int .i64 p))→W'.heap[E]?=some (cE (.int .i64 c))→∀ts:Array Value,
   bodyPostS Tryz.prog Tryz.f42 c₀ cs (fun en u' w'=>en=.returned (.tuple #[])∧u'=.panicking ({ v:=.iface 79 (.agg #[.int .i64 p,.int .i64 c]),recovered:=true }::older)∧w'.heap[R]?=some (mO 0 0 false false false { data:=#[] } 0)∧w'.heap[A]?=some (cI (.int .i64 p))∧w'.heap[E]?=some (cE (.int .i64 c))∧Below B w w') .normal { tmps:=ts,defers:=[] } ({ c₀ with mode:=.panicking ({ v:=.iface 79 (.agg #[.int .i64 p,.int .i64 c]),recovered:=true }::older) }::cs) W':=by
  intro W' h1 h2 h3 h4 ts
  refine ⟨rfl,.panicking ({ v:=.iface 79 (.agg #[.int .i64 p,.int .i64 c]),recovered:=true }::older),rfl,.tuple #[],?_,rfl,rfl,h2,h3,h4,h1⟩
  exact results_none rfl _ _ _
 obtain ⟨g1,g2,g3⟩:=lput3_is (lo':=0) (hi':=0) (e':=false) (bd':=false) (n':=false) (wd':={ data:=#[] }) (at1:=0) (p:=p) (c:=c) hR' hA' hE' h1 h2 h3
 have hb2:Below B w W:=⟨hb.os,hb.tape,hb.output,hb.size,fun g hg=>hb.block g (by omega)⟩
 have hb3:=lput3_below hb2 hB1 hB2 hB3 0 0 false false false { data:=#[] } 0 p c
 generalize hX:(((((((((W.setCell ⟨R,0,none⟩ (.float .f64 0)).setCell ⟨R,1,none⟩ (.float .f64 0)).setCell ⟨R,2,none⟩ (.bool false)).setCell ⟨R,3,none⟩ (.bool false)).setCell ⟨R,4,none⟩ (.bool false)).setCell ⟨R,5,none⟩ (.string { data:=#[] })).setCell ⟨R,6,none⟩ (.int .i64 0)).setCell ⟨A,0,none⟩ (.int .i64 p)).setCell ⟨E,0,none⟩ (.int .i64 c))=X
 have e:lput3 W R A E 0 0 false false false { data:=#[] } 0 p c=X:=hX
 rw [e] at g1 g2 g3 hb3
 clear e hX
 exact hfin X.drew (below_drewN hb3 1) g1 g2 g3 _
set_option maxRecDepth 100000 in
set_option maxHeartbeats 400000 in
theorem lcatch_i (R A E:Nat) (w:World) :
  CallsD Tryz.prog 42 #[.pointer (some ⟨R,0,none⟩),.pointer (some ⟨A,0,none⟩),.pointer (some ⟨E,0,none⟩)] .returning w fun e u' w' =>
   e=.returned (.tuple #[])∧u'=.returning∧Below w.heap.size w w':=by
 have hfr:∀a b c:Value,(#[a,b,c]++Array.replicate (Tryz.f42.ntmps - (#[a,b,c]:Array Value).size) undef:Array Value)=#[a,b,c,undef,undef,undef,undef,undef,undef,undef,undef,undef,undef,undef,undef,undef]:=fun _ _ _=>rfl
 have hb:=rnew w (lfO (.int .i64 0) (.int .i64 0))
 refine callsD_of_wpS Tryz.func42 rfl fun c₀ cs hu => ?_
 rw [hfr]
 apply wpS_seq
 apply wpS_region
 generalize hQ:bodyPostS Tryz.prog Tryz.f42 c₀ cs _=Q
 simp [wpOpsS,go_sem,recoverD,hu,Tryz.ntmps42,lta_no,Exit.thenS]
 apply wpS_seq
 apply wpS_region
 simp [wpOpsS,go_sem,Exit.thenS]
 refine wpS_cond (t:=false) (by simp [Act.eval]) ?_
 simp only [Bool.false_eq_true,if_false]
 refine wpS_of_wp (wp_skip ?_)
 subst hQ
 have hc:c₀={ c₀ with mode:=.returning }:=by rw [←hu]
 refine ⟨rfl,.returning,congrArg (· :: cs) hc,.tuple #[],results_none rfl _ _ _,rfl,rfl,?_⟩
 exact hb
def litA (l:List UInt8):Except (Int×Int) (Nat×Nat):=if 4096<l.length then .error (4096,2) else litR l
def IsLit:Except (Int×Int) (Nat×Nat)→Value→World→Prop
 | .error pc,v,_=>v=.tuple #[mV 0 0 false false false { data:=#[] } 0,.int .i64 pc.1,.int .i64 pc.2]
 | .ok P,v,_=>∃em bd n at0,v=.tuple #[mV P.1 P.2 em bd n { data:=#[] } at0,.int .i64 0,.int .i64 0]
abbrev lsW (w:World) (S:ByteArray):World:=(((w.alloc (mO 0 0 false false false { data:=#[] } 0)).alloc (cI (.int .i64 0))).alloc (cE (.int .i64 0))).alloc (lrO S 0 false 0 0)
theorem lsW_ok (w:World) (l:List UInt8):Below w.heap.size w (lsW w (bs l))∧(lsW w (bs l)).heap.size=w.heap.size+1+1+1+1∧(lsW w (bs l)).heap[w.heap.size]?=some (mO 0 0 false false false { data:=#[] } 0)∧(lsW w (bs l)).heap[w.heap.size+1]?=some (cI (.int .i64 0))∧(lsW w (bs l)).heap[w.heap.size+1+1]?=some (cE (.int .i64 0))∧LR (lsW w (bs l)) (w.heap.size+1+1+1) l l false (0,0):=by
 have sz:∀(X:World) (o:Obj),(X.alloc o).heap.size=X.heap.size+1:=fun X o=>by show (X.heap.push _).size=_;simp
 have n0:=heap_alloc_new w (mO 0 0 false false false { data:=#[] } 0)
 have b0:=rnew w (mO 0 0 false false false { data:=#[] } 0)
 have s0:=sz w (mO 0 0 false false false { data:=#[] } 0)
 unfold lsW
 generalize w.alloc (mO 0 0 false false false { data:=#[] } 0)=W1 at *
 have n1:=heap_alloc_new W1 (cI (.int .i64 0))
 have b1:=rnew W1 (cI (.int .i64 0))
 have s1:=sz W1 (cI (.int .i64 0))
 generalize W1.alloc (cI (.int .i64 0))=W2 at *
 have n2:=heap_alloc_new W2 (cE (.int .i64 0))
 have b2:=rnew W2 (cE (.int .i64 0))
 have s2:=sz W2 (cE (.int .i64 0))
 generalize W2.alloc (cE (.int .i64 0))=W3 at *
 have n3:=heap_alloc_new W3 (lrO (bs l) 0 false 0 0)
 have b3:=rnew W3 (lrO (bs l) 0 false 0 0)
 have s3:=sz W3 (lrO (bs l) 0 false 0 0)
 generalize W3.alloc (lrO (bs l) 0 false 0 0)=W4 at *
 rw [s0] at n1 s1
 rw [s1] at n2 s2
 rw [s2] at n3 s3
 refine ⟨raft (raft (raft b0 b1) b2) b3,s3,?_,?_,?_,?_⟩
 ·rw [b3.block _ (by omega),b2.block _ (by omega),b1.block _ (by omega)];exact n0
 ·rw [b3.block _ (by omega),b2.block _ (by omega)];exact n1
 ·rw [b3.block _ (by omega)];exact n2
 ·refine ⟨Nat.le_refl _,by simp,?_⟩
  rw [n3,Nat.sub_self]
set_option maxRecDepth 100000 in
set_option maxHeartbeats 1000000 in
theorem lscan_any (l:List UInt8) (hl:l.length≤140737488355328) (w:World):Calls Tryz.prog 24 #[.string (bs l),.bool false] w (Ans w (IsLit (litA l))):=by
 have hmf:∀(fn:Fn) (first cap:Array Value) (w:World),(Instr.makeFunc fn first cap).run Tryz.prog w=.ok (.func fn first cap) w:=fun _ _ _ _=>rfl
 have hsf:=store_f
 have hsz:(bs l).size=l.length:=bs_size l
 unfold litA
 by_cases hL:4096<l.length
 ·rw [if_pos hL]
  have hLI:4096<(l.length:Int):=by omega
  generalize bs l=S at *
  go_enter_defers Tryz.func24,Tryz.ntmps24
  go_wp2
  exact ⟨.tuple #[mV 0 0 false false false { data:=#[] } 0,.int .i64 4096,.int .i64 2],by simp [results,Tryz.results24,go_sem],_,rfl,rfl,raft (raft (rnew _ _) (rnew _ _)) (rnew _ _)⟩
 ·rw [if_neg hL]
  have hLI:¬4096<(l.length:Int):=by omega
  obtain ⟨hb,hsW,hR,hA,hE,hrd⟩:=lsW_ok w l
  have hN:=literal_any (lsW w (bs l)) _ l hrd (by omega)
  generalize bs l=S at *
  cases hs:litR l with
  | error pc =>
   obtain ⟨p,c⟩:=pc
   rw [hs] at hN
   have HN:=Lib.hid hN
   have HW:=Lib.hid (And.intro hb (And.intro hsW (And.intro hR (And.intro hA hE))))
   clear hN hb hR hA hE hrd hs hL hsW
   go_enter_defers Tryz.func24,Tryz.ntmps24
   go_wp2_with (go_at_call 43;refine (HN.out).mono ?_;rintro e w5 ⟨rfl,hg⟩;have HG:=Lib.hid hg;clear hg)
   obtain ⟨hb,hsW,hR,hA,hE⟩:=HW.out
   have hg:=HG.out
   have hR5:=(hg.block w.heap.size (by omega) (by intro e;injection e with e;omega)).trans hR
   have hA5:=(hg.block (w.heap.size+1) (by omega) (by intro e;injection e with e;omega)).trans hA
   have hE5:=(hg.block (w.heap.size+1+1) (by omega) (by intro e;injection e with e;omega)).trans hE
   have hb5:Below w.heap.size w w5:=⟨hg.os.trans hb.os,hg.tape.trans hb.tape,hg.output.trans hb.output,Nat.le_trans hb.size hg.size,fun g hg'=>(hg.block g (by omega) (by intro e;injection e with e;omega)).trans (hb.block g hg')⟩
   have hs5:=hg.size
   refine leaves_cons (f:=42) (args:=#[.pointer (some ⟨w.heap.size,0,none⟩),.pointer (some ⟨w.heap.size+1,0,none⟩),.pointer (some ⟨w.heap.size+1+1,0,none⟩)]) (by simp) (by simp [go_sem]) ?_
   refine (lcatch_p w.heap.size (w.heap.size+1) (w.heap.size+1+1) p c [] w5 _ _ _ _ _ _ _ _ _ hR5 hA5 hE5 (by omega) (by omega) (by omega) w.heap.size (by omega) (by omega) (by omega) (by omega)).mono ?_
   rintro e u' w'' ⟨rfl,rfl,g1,g2,g3,hb6⟩
   obtain ⟨⟨k0,k1,k2,k3,k4,k5,k6⟩,_⟩:=mO_cells g1
   have k7:=(cI_cells g2).1
   have k8:=(cE_cells g3).1
   refine ⟨.tuple #[mV 0 0 false false false { data:=#[] } 0,.int .i64 p,.int .i64 c],by simp [results,Tryz.results24,go_sem,k0,k1,k2,k3,k4,k5,k6,k7,k8],_,rfl,rfl,hb5.trans hb6⟩
  | ok P =>
   rw [hs] at hN
   have HN:=Lib.hid hN
   have HW:=Lib.hid (And.intro hb (And.intro hsW (And.intro hR (And.intro hA hE))))
   clear hN hb hR hA hE hrd hs hL hsW
   go_enter_defers Tryz.func24,Tryz.ntmps24
   go_upto_region 5 with fail
   obtain ⟨hb,hsW,hR,hA,hE⟩:=HW.out
   have hbR:¬(w.heap.size+1+1+1=w.heap.size):=by omega
   go_wp2_with (go_at_call 43;refine (HN.out).mono ?_;rintro e w5 ⟨⟨em,bd,n,at0,rfl⟩,hg⟩;have hR5:=(hg.block w.heap.size (by omega) (by intro e;injection e with e;omega)).trans hR;have hA5:=(hg.block (w.heap.size+1) (by omega) (by intro e;injection e with e;omega)).trans hA;have hE5:=(hg.block (w.heap.size+1+1) (by omega) (by intro e;injection e with e;omega)).trans hE;obtain ⟨⟨m0,m1,m2,m3,m4,m5,m6⟩,f0,f1,f2,f3,f4,f5,f6⟩:=mO_cells hR5;obtain ⟨a1,a2⟩:=cI_cells hA5;obtain ⟨b1,b2⟩:=cE_cells hE5;have HG:=Lib.hid hg;have HR5:=Lib.hid (And.intro hR5 (And.intro hA5 hE5));clear hg hR5 hA5 hE5)
   have hg:=HG.out
   have hs5:=hg.size
   have hb5:Below w.heap.size w w5:=⟨hg.os.trans hb.os,hg.tape.trans hb.tape,hg.output.trans hb.output,Nat.le_trans hb.size hg.size,fun g hg'=>(hg.block g (by omega) (by intro e;injection e with e;omega)).trans (hb.block g hg')⟩
   obtain ⟨r1,r2,r3⟩:=HR5.out
   obtain ⟨g1,g2,g3⟩:=lput3_is (lo':=P.1) (hi':=P.2) (e':=em) (bd':=bd) (n':=n) (wd':={ data:=#[] }) (at1:=at0) (p:=0) (c:=0) r1 r2 r3 (by omega) (by omega) (by omega)
   have hb6:=lput3_below hb5 (R:=w.heap.size) (A:=w.heap.size+1) (E:=w.heap.size+1+1) (Nat.le_refl _) (by omega) (by omega) P.1 P.2 em bd n { data:=#[] } at0 0 0
   clear hb5 hs5 hg r1 r2 r3 HR5 HG HW hb hsW hR hA hE m0 m1 m2 m3 m4 m5 m6 f0 f1 f2 f3 f4 f5 f6 a1 a2 b1 b2
   unfold lput3 putM at g1 g2 g3 hb6
   generalize ((((((((w5.setCell ⟨w.heap.size,0,none⟩ (.float .f64 P.1)).setCell ⟨w.heap.size,1,none⟩ (.float .f64 P.2)).setCell ⟨w.heap.size,2,none⟩ (.bool em)).setCell ⟨w.heap.size,3,none⟩ (.bool bd)).setCell ⟨w.heap.size,4,none⟩ (.bool n)).setCell ⟨w.heap.size,5,none⟩ (.string { data:=#[] })).setCell ⟨w.heap.size,6,none⟩ (.int .i64 at0)).setCell ⟨w.heap.size+1,0,none⟩ (.int .i64 0)).setCell ⟨w.heap.size+1+1,0,none⟩ (.int .i64 0)=W6 at *
   refine leaves_cons (f:=42) (args:=#[.pointer (some ⟨w.heap.size,0,none⟩),.pointer (some ⟨w.heap.size+1,0,none⟩),.pointer (some ⟨w.heap.size+1+1,0,none⟩)]) (by simp) (by simp [go_sem]) ?_
   refine (lcatch_i w.heap.size (w.heap.size+1) (w.heap.size+1+1) W6).mono ?_
   rintro e u' w'' ⟨rfl,rfl,hbi⟩
   have q1:=(hbi.block _ (Array.getElem?_eq_some_iff.1 g1).1).trans g1
   have q2:=(hbi.block _ (Array.getElem?_eq_some_iff.1 g2).1).trans g2
   have q3:=(hbi.block _ (Array.getElem?_eq_some_iff.1 g3).1).trans g3
   obtain ⟨⟨k0,k1,k2,k3,k4,k5,k6⟩,_⟩:=mO_cells q1
   have k7:=(cI_cells q2).1
   have k8:=(cE_cells q3).1
   refine ⟨.tuple #[mV P.1 P.2 em bd n { data:=#[] } at0,.int .i64 0,.int .i64 0],by simp [results,Tryz.results24,go_sem,k0,k1,k2,k3,k4,k5,k6,k7,k8],_,rfl,⟨em,bd,n,at0,rfl⟩,raft hb6 hbi⟩
def litRd (l:List UInt8):(Nat×Nat)×Int×Int:=
 match litA l with
 | .error pc=>((0,0),pc.1,pc.2)
 | .ok P=>(P,0,0)
set_option maxRecDepth 100000 in
set_option maxHeartbeats 1000000 in
theorem lread_lit (l:List UInt8) (hl:l.length≤140737488355328) (w:World):Calls Tryz.prog 9 #[.string (bs l)] w (Ans w (IsV (.tuple #[.agg #[.float .f64 (litRd l).1.1,.float .f64 (litRd l).1.2],.int .i64 (litRd l).2.1,.int .i64 (litRd l).2.2]))):=by
 have HS:=Lib.hid (fun W=>lscan_any l hl W)
 have hsf:=store_f
 obtain ⟨S,hS⟩:∃S,bs l=S:=⟨_,rfl⟩
 rw [hS] at HS ⊢
 obtain ⟨lo,hlo⟩:∃z,(litRd l).1.1=z:=⟨_,rfl⟩
 obtain ⟨hi,hhi⟩:∃z,(litRd l).1.2=z:=⟨_,rfl⟩
 obtain ⟨p,hp⟩:∃z,(litRd l).2.1=z:=⟨_,rfl⟩
 obtain ⟨c,hc⟩:∃z,(litRd l).2.2=z:=⟨_,rfl⟩
 have key:∀v W,IsLit (litA l) v W→∃em bd n at0,v=.tuple #[mV lo hi em bd n { data:=#[] } at0,.int .i64 p,.int .i64 c]:=by
  intro v W h
  unfold litRd at hlo hhi hp hc
  cases hx:litA l with
  | error pc =>
   rw [hx] at h hlo hhi hp hc
   subst hlo hhi hp hc
   exact ⟨_,_,_,_,h⟩
  | ok P =>
   rw [hx] at h hlo hhi hp hc
   subst hlo hhi hp hc
   exact h
 have HK:=Lib.hid key
 rw [hlo,hhi,hp,hc]
 clear key hlo hhi hp hc hS hl
 go_enter Tryz.func9,Tryz.ntmps9
 go_wp2_with fail
 refine (HS.out _).mono ?_
 rintro e w1 ⟨v,rfl,hv,hb1⟩
 obtain ⟨em,bd,n,at0,rfl⟩:=HK.out v w1 hv
 have hbx:=raft (rnew w (.cells #[.float .f64 0,.float .f64 0] 34)) hb1
 have HB1:=Lib.hid hbx
 have hr0:w1.heap[w.heap.size]?=some (.cells #[.float .f64 0,.float .f64 0] 34):=by
  rw [hb1.block w.heap.size (by show w.heap.size<(w.heap.push _).size;simp),heap_alloc_new]
 have HR0:=Lib.hid hr0
 have hn:=heap_alloc_new w1 (mO lo hi em bd n { data:=#[] } at0)
 have hr2:=(rnew w1 (mO lo hi em bd n { data:=#[] } at0)).block w.heap.size (Array.getElem?_eq_some_iff.1 hr0).1
 rw [hr0] at hr2
 have HB2:=Lib.hid (raft hbx (rnew w1 (mO lo hi em bd n { data:=#[] } at0)))
 have hne:w.heap.size≠w1.heap.size:=by have:=(Array.getElem?_eq_some_iff.1 hr0).1;omega
 clear hb1 hv hbx hr0
 obtain ⟨R,hR⟩:∃R,w.heap.size=R:=⟨_,rfl⟩
 obtain ⟨M,hM⟩:∃M,w1.heap.size=M:=⟨_,rfl⟩
 rw [hR,hM] at hne
 rw [hR] at hr2
 rw [hM] at hn
 go_upto_region 2 with fail
 generalize w1.alloc (mO lo hi em bd n { data:=#[] } at0)=W at hn hr2 HB2 ⊢
 obtain ⟨⟨m0,m1,m2,m3,m4,m5,m6⟩,f0,f1,f2,f3,f4,f5,f6⟩:=mO_cells hn
 have r0:W.cell? ⟨R,0,none⟩=some (.float .f64 0):=by simp [World.cell?,hr2]
 have r1:W.cell? ⟨R,1,none⟩=some (.float .f64 0):=by simp [World.cell?,hr2]
 have rf0:W.frozen? ⟨R,0,none⟩=false:=by simp [World.frozen?,hr2]
 have rf1:W.frozen? ⟨R,1,none⟩=false:=by simp [World.frozen?,hr2]
 have z0:((W.setCell ⟨R,0,none⟩ (.float .f64 lo)).setCell ⟨R,1,none⟩ (.float .f64 hi)).cell? ⟨R,0,none⟩=some (.float .f64 lo):=by simp [World.cell?,World.setCell,Array.getElem?_modify,hr2]
 have z1:((W.setCell ⟨R,0,none⟩ (.float .f64 lo)).setCell ⟨R,1,none⟩ (.float .f64 hi)).cell? ⟨R,1,none⟩=some (.float .f64 hi):=by simp [World.cell?,World.setCell,Array.getElem?_modify,hr2]
 have HB3:=Lib.hid (below_set (below_set HB2.out R 0 (.float .f64 lo) (Nat.le_of_eq hR)) R 1 (.float .f64 hi) (Nat.le_of_eq hR))
 clear hn hr2 HB2
 go_wp2
 refine bodyPost_ret (v:=.tuple #[.agg #[.float .f64 lo,.float .f64 hi],.int .i64 p,.int .i64 c]) (by simp [results,Tryz.results9,go_sem,z0,z1]) rfl ?_
 exact ⟨_,rfl,rfl,HB3.out⟩
end Go.Proofs.YtigmpifjcijdbaaGreatDoor
end

section
namespace Go.Proofs.YtigmpifjcijdbaaGreatDoor
set_option linter.unusedVariables false
set_option linter.unusedSimpArgs false
open Go.RowKit Verge
end Go.Proofs.YtigmpifjcijdbaaGreatDoor
end
