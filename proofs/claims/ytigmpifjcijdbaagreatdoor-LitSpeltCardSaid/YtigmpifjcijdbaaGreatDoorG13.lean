/- Layer 5, the program: the reader: exponent. -/
import Derived.Test.YtigmpifjcijdbaaGreatDoorG12
import Derived.Lib.ConvBytes
namespace Go.Proofs.YtigmpifjcijdbaaGreatDoor
set_option linter.unusedVariables false
set_option linter.unusedSimpArgs false
open Go.RowKit Verge
theorem numB_snoc (b:Nat) (l:List UInt8) (c:UInt8):numB b (l++[c])=numB b l*b+dvl c:=by unfold numB;rw [List.foldl_append];rfl
theorem numB_take {l:List UInt8} {i:Nat} {c:UInt8} (h:l[i]?=some c) (b:Nat):numB b (l.take (i+1))=numB b (l.take i)*b+dvl c:=by
 rw [List.take_add_one,h]
 exact numB_snoc b _ c
def lateO (p:Nat) (x:Nat):Int×Int:=if 9999<x then ((p:Int),51) else (0,0)
theorem conv_bytes (W:World) (d:List UInt8):∃cap W2,(convert 9 58 (.string (bs d))).run Tryz.prog W=.ok (.slice (some ⟨W.heap.size,0,none⟩) d.length cap) W2∧Below W.heap.size W W2 ∧
  ∀j c,d[j]?=some c→W2.cell? ⟨W.heap.size,j,none⟩=some (.int .u8 (c.toNat:Int)):=by
 refine ⟨_,_,(bs_size d)▸Lib.run_convert_string_bytes (P:=Tryz.prog) W 9 58 5 (bs d) Tryz.underlying9 Tryz.underlying58 Tryz.underlying5,?_,?_⟩
 ·refine ⟨rfl,rfl,rfl,?_,fun j hj=>Lib.bytesWorld_at_old _ _ _ j hj⟩
  rw [Lib.bytesWorld_size];omega
 ·intro j c hc
  have hj:j<d.length:=by
   rw [List.getElem?_eq_some_iff] at hc;exact hc.1
  rw [Lib.bytesWorld_cell _ _ _ _ (by rw [bs_size];exact hj),bs_list]
  simp [List.getD,hc]
theorem sgR (r:List UInt8):(isR [45] r).1=(sg r).1∧((sg r).1=true→(isR [45] r).2=(sg r).2)∧((sg r).1=false→(isR [43] (isR [45] r).2).2=(sg r).2):=by
 cases r with
 | nil=>exact ⟨rfl,fun _=>rfl,fun _=>rfl⟩
 | cons c s =>
  rw [isR_one]
  by_cases h5:c.toNat=45
  ·rw [sg_yes (.inr h5)]
   have e:c.toNat=(45:UInt8).toNat:=h5
   rw [if_pos e]
   exact ⟨(decide_eq_true h5).symm,fun _=>rfl,fun h=>absurd h5 (of_decide_eq_false h)⟩
  ·have e:¬c.toNat=(45:UInt8).toNat:=h5
   rw [if_neg e]
   dsimp only
   rw [isR_one]
   by_cases h3:c.toNat=43
   ·rw [sg_yes (.inl h3)]
    have e:c.toNat=(43:UInt8).toNat:=h3
    rw [if_pos e]
    exact ⟨(decide_eq_false h5).symm,fun h=>absurd (of_decide_eq_true h) h5,fun _=>rfl⟩
   ·rw [sg_no (by omega)]
    have e:¬c.toNat=(43:UInt8).toNat:=h3
    rw [if_neg e]
    exact ⟨rfl,fun h=>absurd h (by simp),fun _=>rfl⟩
theorem sg_le (r:List UInt8):(sg r).2.length≤r.length:=by
 cases r with
 | nil=>exact Nat.le_refl _
 | cons c s =>
  by_cases h:c.toNat=43∨c.toNat=45
  ·rw [sg_yes h];exact Nat.le_succ _
  ·rw [sg_no h];exact Nat.le_refl _
abbrev fO (x y:Value):Obj:=.cells #[x,y] 150
theorem fO_cells {w:World} {P:Nat} {x y:Value} (h:w.heap[P]?=some (fO x y)):w.cell? ⟨P,0,none⟩=some x∧w.cell? ⟨P,1,none⟩=some y∧w.frozen? ⟨P,0,none⟩=false∧w.frozen? ⟨P,1,none⟩=false:=by
 refine ⟨?_,?_,?_,?_⟩ <;> simp [World.cell?,World.frozen?,h]
theorem fO_set {w:World} {P:Nat} {x y:Value} (h:w.heap[P]?=some (fO x y)) (a b:Value):((w.setCell ⟨P,0,none⟩ a).setCell ⟨P,1,none⟩ b).heap[P]?=some (fO a b):=by
 simp [World.setCell,Array.getElem?_modify,h]
theorem Rdr.far {w:World} {b:Nat} {l r:List UInt8} (h:Rdr w b l r) {P:Nat} (hP:b≠P) (i:Nat) (v:Value):Rdr (w.setCell ⟨P,i,none⟩ v) b l r:=⟨h.1,h.2.1,(setb' w P i v b hP).trans h.2.2⟩
theorem grown_far {a w:World} {row:Option Nat} (h:a.grownBy w row) {P:Nat} (hP:a.heap.size≤P) (i:Nat) (v:Value):a.grownBy (w.setCell ⟨P,i,none⟩ v) row:=
 ⟨h.os,h.tape,h.output,by have:=h.size;simpa [World.setCell] using this,fun k hk hr=>(setb' w P i v k (by omega)).trans (h.block k hk hr)⟩
theorem far_cell {w:World} {P G:Nat} (hP:G≠P) (i j:Nat) (v:Value):(w.setCell ⟨P,i,none⟩ v).cell? ⟨G,j,none⟩=w.cell? ⟨G,j,none⟩:=World.cell?_of_block (setb' w P i v G hP)
theorem step_big {N m d at0:Nat} (hm:m=min N 9999) (h:9999<10*m+d):9999=min (N*10+d) 9999∧(((at0:Int),51):Int×Int)=lateO at0 (N*10+d):=by
 have:9999<N*10+d:=by omega
 exact ⟨by omega,by unfold lateO;rw [if_pos this]⟩
theorem step_small {N m d at0:Nat} {x y:Int} (hm:m=min N 9999) (h:¬9999<10*m+d) (hx:(x,y)=lateO at0 N):10*m+d=min (N*10+d) 9999∧(x,y)=lateO at0 (N*10+d):=by
 have h1:¬9999<N:=by omega
 have h2:¬9999<N*10+d:=by omega
 refine ⟨by omega,?_⟩
 rw [hx]
 unfold lateO
 rw [if_neg h1,if_neg h2]
set_option maxHeartbeats 2000000 in
theorem exponent_any (w:World) (b:Nat) (l r:List UInt8) (h:Rdr w b l r) (hl:l.length≤100000) (d u:List UInt8) (hd:(sg r).2.takeWhile isD=d) (hu:(sg r).2.dropWhile isD=u) (hne:d≠[]) :
  Calls Tryz.prog 142 #[.pointer (some ⟨b,0,none⟩)] w fun e w' =>
   e=.returned (.tuple #[.int .i64 (if (sg r).1 then -((min (numB 10 d) 9999:Nat):Int) else ((min (numB 10 d) 9999:Nat):Int)),.agg #[.int .i64 (lateO (l.length - (sg r).2.length) (numB 10 d)).1,.int .i64 (lateO (l.length - (sg r).2.length) (numB 10 d)).2]]) ∧
   Rdr w' b l u∧w.grownBy w' (some b):=by
 have hd0:∀c∈d,isD c=true:=by rw [←hd];exact take_all
 have hld:d.length≤100000:=by
  have h1:=(List.takeWhile_sublist (l:=(sg r).2) isD).length_le
  rw [hd] at h1
  have h2:=sg_le r
  have:=h.1
  omega
 obtain ⟨g1,g2,g3⟩:=sgR r
 have HC:=Lib.hid (fun W=>conv_bytes W d)
 have hS:=fun W h=>some_ok W b l (sg r).2 10 h hl
 rw [pB10,hd,hu] at hS
 have HS:=Lib.hid (fun W h=>hS W h hne)
 have HIm:=Lib.hid (fun W h=>is_any W b l r [45] h hl (by simp))
 have HIp:=Lib.hid (fun W h=>is_any W b l (isR [45] r).2 [43] h hl (by simp))
 rw [show bs [45]={ data:=#[45] } from rfl] at HIm
 rw [show bs [43]={ data:=#[43] } from rfl] at HIp
 have HR0:=Lib.hid (h.later (rnew w (.cells #[.int .i64 0,.int .i64 0] 150)))
 have hbP:b<w.heap.size:=h.lt
 have HN:∀W,(w.alloc (.cells #[.int .i64 0,.int .i64 0] 150)).grownBy W (some b)→W.heap[w.heap.size]?=some (fO (.int .i64 0) (.int .i64 0)):=by
  intro W hg
  rw [hg.block w.heap.size (by show w.heap.size<(w.heap.push _).size;simp) (by intro e;injection e;omega),heap_alloc_new]
 have HNN:=Lib.hid HN
 have hat:(l.length - (sg r).2.length)≤100000:=by omega
 clear hS h HN
 generalize hat0:l.length - (sg r).2.length=at0 at *
 obtain ⟨D,hD⟩:∃D,d.length=D:=⟨_,rfl⟩
 rw [hD] at hld
 have HD0:=Lib.hid (And.intro hD hd0)
 have HAT:=Lib.hid hat0
 rw [hD] at HC
 clear hd0 hD hne hd hu hat0
 rw [g1] at HIm
 generalize hn:(sg r).1=n at *
 cases n with
 | true =>
  have g:=g2 rfl
  rw [g] at HIm
  clear g1 g2 g3 hn g HIp
  go_enter Tryz.func142,Tryz.ntmps142
  go_wp2_with (first
   | (go_at_call 139;refine (HIm.out _ HR0.out).mono ?_;rintro e w1 ⟨rfl,h1⟩;have c1:=(h1.1.cellsAt rfl HAT.out).2.1;have H1:=Lib.hid h1;clear h1)
   | (go_at_call 144;refine (HS.out _ H1.out.1).mono ?_;rintro e w3 ⟨rfl,h3⟩;obtain ⟨cap,W2,hcv,hcb⟩:=HC.out w3;have H3:=Lib.hid (And.intro h3 hcb);clear h3 hcb))
  have hbne:b≠w.heap.size:=by omega
  have HGP:Hid (w3.heap.size≠w.heap.size):=by
   have h1:=H1.out.2.size
   have h2:=H3.out.1.2.size
   have h3:w.heap.size+1=(w.alloc (.cells #[.int .i64 0,.int .i64 0] 150)).heap.size:=by show _=(w.heap.push _).size;simp
   show _≠_
   omega
  have hbase:Hid (Rdr W2 b l u∧w.grownBy W2 (some b)∧W2.heap[w.heap.size]?=some (fO (.int .i64 0) (.int .i64 0))∧∀j c,d[j]?=some c→W2.cell? ⟨w3.heap.size,j,none⟩=some (.int .u8 (c.toNat:Int))):=by
   have hg:(w.alloc (.cells #[.int .i64 0,.int .i64 0] 150)).grownBy W2 (some b):=grownBy_trans H1.out.2 (grownBy_trans H3.out.1.2 (grownBy_below H3.out.2.1))
   exact ⟨H3.out.1.1.later H3.out.2.1,grownBy_trans (grownBy_alloc (grownBy_refl w _) _) hg,HNN.out _ hg,H3.out.2.2⟩
  clear hcv c1
  go_loopw [2,22] (fun v iv wr=>∃(i m:Nat) (x y:Int),i≤D∧iv=.int .i64 (i:Int)∧v=.int .i64 (m:Int)∧m≤9999∧wr.heap[w.heap.size]?=some (fO (.int .i64 x) (.int .i64 y)) ∧
   Hid (m=min (numB 10 (d.take i)) 9999∧(x,y)=lateO at0 (numB 10 (d.take i))∧Rdr wr b l u∧w.grownBy wr (some b)∧∀j c,d[j]?=some c→wr.cell? ⟨w3.heap.size,j,none⟩=some (.int .u8 (c.toNat:Int)))) (fun _ iv _=>D - (intOf iv).toNat)
  case atStart=>exact ⟨0,0,_,_,by omega,rfl,rfl,by omega,hbase.out.2.2.1,by simp [numB],by simp [numB,lateO],hbase.out.1,hbase.out.2.1,hbase.out.2.2.2⟩
  case round =>
   obtain ⟨i,m,x,y,hi,rfl,rfl,hm,hxy,hI⟩:=hrel
   obtain ⟨x0,y0,fx,fy⟩:=fO_cells hxy
   have HXY:=Lib.hid hxy
   clear hxy
   by_cases hlt:i<D
   ·have hltI:(i:Int)<(D:Int):=by omega
    obtain ⟨c,hc⟩:∃c,d[i]?=some c:=⟨_,List.getElem?_eq_getElem (by rw [HD0.out.1];exact hlt)⟩
    have hcell:=hI.out.2.2.2.2 i c hc
    have hcd:=isD_iff.1 (HD0.out.2 c (List.mem_of_getElem? hc))
    have hN:=numB_take hc 10
    have hdv:dvl c=c.toNat - 48:=if_pos hcd.2
    have HCC:=Lib.hid (And.intro hc (And.intro hN hdv))
    clear hc hN hdv
    have hw1:((c.toNat:Int) - 48)%256=(c.toNat:Int) - 48:=by omega
    by_cases hbig:9999<10*m+(c.toNat - 48)
    ·have hbigI:(9999:Int)<10*(m:Int)+((c.toNat:Int) - 48):=by omega
     go_wp2
     go_roundw
     case rel =>
      obtain ⟨k1,k2⟩:=step_big (at0:=at0) hI.out.1 hbig
      rw [←HCC.out.2.2,←HCC.out.2.1] at k1 k2
      refine ⟨i+1,9999,at0,51,by omega,by go_num,rfl,by omega,fO_set HXY.out _ _,k1,k2,?_,?_,fun j c hj => ?_⟩
      ·exact (hI.out.2.2.1.far hbne _ _).far hbne _ _
      ·exact grown_far (grown_far hI.out.2.2.2.1 (Nat.le_refl _) _ _) (Nat.le_refl _) _ _
      ·rw [far_cell HGP.out,far_cell HGP.out]
       exact hI.out.2.2.2.2 j c hj
     case measure=>simp [intOf];omega
    ·have hbigI:¬(9999:Int)<10*(m:Int)+((c.toNat:Int) - 48):=by omega
     go_wp2
     go_roundw
     case rel =>
      obtain ⟨k1,k2⟩:=step_small (at0:=at0) hI.out.1 hbig hI.out.2.1
      rw [←HCC.out.2.2,←HCC.out.2.1] at k1 k2
      exact ⟨i+1,10*m+dvl c,x,y,by omega,by go_num,by have:=HCC.out.2.2;go_num,by have:=HCC.out.2.2;omega,HXY.out,k1,k2,hI.out.2.2⟩
     case measure=>simp [intOf];omega
   ·go_wp2
    have x1:wr.drew.cell? ⟨w.heap.size,0,none⟩=some (.int .i64 x):=x0
    have y1:wr.drew.cell? ⟨w.heap.size,1,none⟩=some (.int .i64 y):=y0
    have fx1:wr.drew.frozen? ⟨w.heap.size,0,none⟩=false:=fx
    have fy1:wr.drew.frozen? ⟨w.heap.size,1,none⟩=false:=fy
    go_region
    all_goals
     go_wp2
     have hX:=fO_set HXY.out (.int .i64 x) (.int .i64 y)
     obtain ⟨q0,q1,_,_⟩:=fO_cells hX
     have q0':((wr.setCell ⟨w.heap.size,0,none⟩ (.int .i64 x)).setCell ⟨w.heap.size,1,none⟩ (.int .i64 y)).drew.cell? ⟨w.heap.size,0,none⟩=some (.int .i64 x):=q0
     have q1':((wr.setCell ⟨w.heap.size,0,none⟩ (.int .i64 x)).setCell ⟨w.heap.size,1,none⟩ (.int .i64 y)).drew.cell? ⟨w.heap.size,1,none⟩=some (.int .i64 y):=q1
     refine bodyPost_ret (v:=.tuple #[.int .i64 (-(m:Int)),.agg #[.int .i64 x,.int .i64 y]]) (by simp [results,Tryz.results142,go_sem,q0',q1',q0,q1]) rfl ?_
     have hin:i=D:=by omega
     subst hin
     have htk:d.take i=d:=List.take_of_length_le (by have:=HD0.out.1;omega)
     have h1:=hI.out.1
     have h2:=hI.out.2.1
     rw [htk] at h1 h2
     rw [←h1,←h2]
     refine ⟨rfl,?_,?_⟩
     ·exact (hI.out.2.2.1.far hbne _ _).far hbne _ _
     ·exact grownBy_drewN (grown_far (grown_far hI.out.2.2.2.1 (Nat.le_refl _) _ _) (Nat.le_refl _) _ _) 1
 | false =>
  have g:=g3 rfl
  rw [g] at HIp
  clear g1 g2 g3 hn g
  go_enter Tryz.func142,Tryz.ntmps142
  go_wp2_with (first
   | (go_at_call 139;(with_reducible refine (HIm.out _ HR0.out).mono ?_);rintro e w1 ⟨rfl,h1⟩;have H1:=Lib.hid h1;clear h1)
   | (go_at_call 139;refine (HIp.out _ H1.out.1).mono ?_;rintro e w2 ⟨rfl,h1⟩;have c1:=(h1.1.cellsAt rfl HAT.out).2.1;have H2:=Lib.hid h1;clear h1)
   | (go_at_call 144;refine (HS.out _ H2.out.1).mono ?_;rintro e w3 ⟨rfl,h3⟩;obtain ⟨cap,W2,hcv,hcb⟩:=HC.out w3;have H3:=Lib.hid (And.intro h3 hcb);clear h3 hcb))
  have hbne:b≠w.heap.size:=by omega
  have HGP:Hid (w3.heap.size≠w.heap.size):=by
   have h1:=H1.out.2.size
   have h2:=H3.out.1.2.size
   have h4:=H2.out.2.size
   have h3:w.heap.size+1=(w.alloc (.cells #[.int .i64 0,.int .i64 0] 150)).heap.size:=by show _=(w.heap.push _).size;simp
   show _≠_
   omega
  have hbase:Hid (Rdr W2 b l u∧w.grownBy W2 (some b)∧W2.heap[w.heap.size]?=some (fO (.int .i64 0) (.int .i64 0))∧∀j c,d[j]?=some c→W2.cell? ⟨w3.heap.size,j,none⟩=some (.int .u8 (c.toNat:Int))):=by
   have hg:(w.alloc (.cells #[.int .i64 0,.int .i64 0] 150)).grownBy W2 (some b):=grownBy_trans H1.out.2 (grownBy_trans H2.out.2 (grownBy_trans H3.out.1.2 (grownBy_below H3.out.2.1)))
   exact ⟨H3.out.1.1.later H3.out.2.1,grownBy_trans (grownBy_alloc (grownBy_refl w _) _) hg,HNN.out _ hg,H3.out.2.2⟩
  clear hcv c1
  go_loopw [2,22] (fun v iv wr=>∃(i m:Nat) (x y:Int),i≤D∧iv=.int .i64 (i:Int)∧v=.int .i64 (m:Int)∧m≤9999∧wr.heap[w.heap.size]?=some (fO (.int .i64 x) (.int .i64 y)) ∧
   Hid (m=min (numB 10 (d.take i)) 9999∧(x,y)=lateO at0 (numB 10 (d.take i))∧Rdr wr b l u∧w.grownBy wr (some b)∧∀j c,d[j]?=some c→wr.cell? ⟨w3.heap.size,j,none⟩=some (.int .u8 (c.toNat:Int)))) (fun _ iv _=>D - (intOf iv).toNat)
  case atStart=>exact ⟨0,0,_,_,by omega,rfl,rfl,by omega,hbase.out.2.2.1,by simp [numB],by simp [numB,lateO],hbase.out.1,hbase.out.2.1,hbase.out.2.2.2⟩
  case round =>
   obtain ⟨i,m,x,y,hi,rfl,rfl,hm,hxy,hI⟩:=hrel
   obtain ⟨x0,y0,fx,fy⟩:=fO_cells hxy
   have HXY:=Lib.hid hxy
   clear hxy
   by_cases hlt:i<D
   ·have hltI:(i:Int)<(D:Int):=by omega
    obtain ⟨c,hc⟩:∃c,d[i]?=some c:=⟨_,List.getElem?_eq_getElem (by rw [HD0.out.1];exact hlt)⟩
    have hcell:=hI.out.2.2.2.2 i c hc
    have hcd:=isD_iff.1 (HD0.out.2 c (List.mem_of_getElem? hc))
    have hN:=numB_take hc 10
    have hdv:dvl c=c.toNat - 48:=if_pos hcd.2
    have HCC:=Lib.hid (And.intro hc (And.intro hN hdv))
    clear hc hN hdv
    have hw1:((c.toNat:Int) - 48)%256=(c.toNat:Int) - 48:=by omega
    by_cases hbig:9999<10*m+(c.toNat - 48)
    ·have hbigI:(9999:Int)<10*(m:Int)+((c.toNat:Int) - 48):=by omega
     go_wp2
     go_roundw
     case rel =>
      obtain ⟨k1,k2⟩:=step_big (at0:=at0) hI.out.1 hbig
      rw [←HCC.out.2.2,←HCC.out.2.1] at k1 k2
      refine ⟨i+1,9999,at0,51,by omega,by go_num,rfl,by omega,fO_set HXY.out _ _,k1,k2,?_,?_,fun j c hj => ?_⟩
      ·exact (hI.out.2.2.1.far hbne _ _).far hbne _ _
      ·exact grown_far (grown_far hI.out.2.2.2.1 (Nat.le_refl _) _ _) (Nat.le_refl _) _ _
      ·rw [far_cell HGP.out,far_cell HGP.out]
       exact hI.out.2.2.2.2 j c hj
     case measure=>simp [intOf];omega
    ·have hbigI:¬(9999:Int)<10*(m:Int)+((c.toNat:Int) - 48):=by omega
     go_wp2
     go_roundw
     case rel =>
      obtain ⟨k1,k2⟩:=step_small (at0:=at0) hI.out.1 hbig hI.out.2.1
      rw [←HCC.out.2.2,←HCC.out.2.1] at k1 k2
      exact ⟨i+1,10*m+dvl c,x,y,by omega,by go_num,by have:=HCC.out.2.2;go_num,by have:=HCC.out.2.2;omega,HXY.out,k1,k2,hI.out.2.2⟩
     case measure=>simp [intOf];omega
   ·go_wp2
    have x1:wr.drew.cell? ⟨w.heap.size,0,none⟩=some (.int .i64 x):=x0
    have y1:wr.drew.cell? ⟨w.heap.size,1,none⟩=some (.int .i64 y):=y0
    have fx1:wr.drew.frozen? ⟨w.heap.size,0,none⟩=false:=fx
    have fy1:wr.drew.frozen? ⟨w.heap.size,1,none⟩=false:=fy
    go_region
    all_goals
     go_wp2
     have hX:=fO_set HXY.out (.int .i64 x) (.int .i64 y)
     obtain ⟨q0,q1,_,_⟩:=fO_cells hX
     have q0':((wr.setCell ⟨w.heap.size,0,none⟩ (.int .i64 x)).setCell ⟨w.heap.size,1,none⟩ (.int .i64 y)).drew.cell? ⟨w.heap.size,0,none⟩=some (.int .i64 x):=q0
     have q1':((wr.setCell ⟨w.heap.size,0,none⟩ (.int .i64 x)).setCell ⟨w.heap.size,1,none⟩ (.int .i64 y)).drew.cell? ⟨w.heap.size,1,none⟩=some (.int .i64 y):=q1
     refine bodyPost_ret (v:=.tuple #[.int .i64 (m:Int),.agg #[.int .i64 x,.int .i64 y]]) (by simp [results,Tryz.results142,go_sem,q0',q1',q0,q1]) rfl ?_
     have hin:i=D:=by omega
     subst hin
     have htk:d.take i=d:=List.take_of_length_le (by have:=HD0.out.1;omega)
     have h1:=hI.out.1
     have h2:=hI.out.2.1
     rw [htk] at h1 h2
     rw [←h1,←h2]
     refine ⟨rfl,?_,?_⟩
     ·exact (hI.out.2.2.1.far hbne _ _).far hbne _ _
     ·exact grownBy_drewN (grown_far (grown_far hI.out.2.2.2.1 (Nat.le_refl _) _ _) (Nat.le_refl _) _ _) 1
theorem exponent_no (w:World) (b:Nat) (l r:List UInt8) (h:Rdr w b l r) (hl:l.length≤100000) (u:List UInt8) (hd:(sg r).2.takeWhile isD=[]) (hu:(sg r).2.dropWhile isD=u) :
  Calls Tryz.prog 142 #[.pointer (some ⟨b,0,none⟩)] w fun e w'=>Fails l u e∧w.grownBy w' (some b):=by
 obtain ⟨g1,g2,g3⟩:=sgR r
 have hS:=fun W h=>some_no W b l (sg r).2 10 h hl
 rw [pB10,hd,hu] at hS
 have HS:=Lib.hid (fun W h=>hS W h rfl)
 have HIm:=Lib.hid (fun W h=>is_any W b l r [45] h hl (by simp))
 have HIp:=Lib.hid (fun W h=>is_any W b l (isR [45] r).2 [43] h hl (by simp))
 rw [show bs [45]={ data:=#[45] } from rfl] at HIm
 rw [show bs [43]={ data:=#[43] } from rfl] at HIp
 have HR0:=Lib.hid (h.later (rnew w (.cells #[.int .i64 0,.int .i64 0] 150)))
 have hat:(l.length - (sg r).2.length)≤100000:=by omega
 clear hS h
 generalize hat0:l.length - (sg r).2.length=at0 at *
 have HAT:=Lib.hid hat0
 clear hd hu hat0
 rw [g1] at HIm
 generalize hn:(sg r).1=n at *
 cases n with
 | true =>
  have g:=g2 rfl
  rw [g] at HIm
  clear g1 g2 g3 hn g HIp
  go_enter Tryz.func142,Tryz.ntmps142
  go_wp2_with (first
   | (go_at_call 139;refine (HIm.out _ HR0.out).mono ?_;rintro e w1 ⟨rfl,h1⟩;have c1:=(h1.1.cellsAt rfl HAT.out).2.1;have H1:=Lib.hid h1;clear h1)
   | (go_at_call 144;refine (HS.out _ H1.out.1).mono ?_;rintro e w3 ⟨rfl,h3⟩;have H3:=Lib.hid h3;clear h3))
  exact ⟨rfl,rfl,grownBy_trans (grownBy_alloc (grownBy_refl w _) _) (grownBy_trans H1.out.2 H3.out)⟩
 | false =>
  have g:=g3 rfl
  rw [g] at HIp
  clear g1 g2 g3 hn g
  go_enter Tryz.func142,Tryz.ntmps142
  go_wp2_with (first
   | (go_at_call 139;(with_reducible refine (HIm.out _ HR0.out).mono ?_);rintro e w1 ⟨rfl,h1⟩;have H1:=Lib.hid h1;clear h1)
   | (go_at_call 139;refine (HIp.out _ H1.out.1).mono ?_;rintro e w2 ⟨rfl,h1⟩;have c1:=(h1.1.cellsAt rfl HAT.out).2.1;have H2:=Lib.hid h1;clear h1)
   | (go_at_call 144;refine (HS.out _ H2.out.1).mono ?_;rintro e w3 ⟨rfl,h3⟩;have H3:=Lib.hid h3;clear h3))
  exact ⟨rfl,rfl,grownBy_trans (grownBy_alloc (grownBy_refl w _) _) (grownBy_trans H1.out.2 (grownBy_trans H2.out.2 H3.out))⟩
end Go.Proofs.YtigmpifjcijdbaaGreatDoor
