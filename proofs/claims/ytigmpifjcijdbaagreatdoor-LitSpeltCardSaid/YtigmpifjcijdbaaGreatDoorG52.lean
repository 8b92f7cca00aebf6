/- Layer 12: LitSpelt answers true. -/
import Derived.Test.YtigmpifjcijdbaaGreatDoorG51
namespace Go.Proofs.YtigmpifjcijdbaaGreatDoor
set_option linter.unusedVariables false
set_option linter.unusedSimpArgs false
open Go.RowKit Verge Verge.Lit
def SpM (W:World) (G:Nat) (R:List (List ByteArray)):Prop:=G<W.heap.size∧∀i row,R[i]?=some row→∃g,g<W.heap.size∧W.cell? ⟨G,i,none⟩=some (.slice (some ⟨g,0,none⟩) row.length row.length)∧∀j t,row[j]?=some t→W.cell? ⟨g,j,none⟩=some (.string t)
theorem SpM.later {W W':World} {G:Nat} {R:List (List ByteArray)} (h:SpM W G R) (hb:Below W.heap.size W W'):SpM W' G R:=by
 refine ⟨Nat.lt_of_lt_of_le h.1 hb.size,fun i row hi => ?_⟩
 obtain ⟨g,h1,h2,h3⟩:=h.2 i row hi
 exact ⟨g,Nat.lt_of_lt_of_le h1 hb.size,(bcell hb G i h.1).trans h2,fun j t hj=>(bcell hb g j h1).trans (h3 j t hj)⟩
theorem spM_of {W:World} {G:Nat} {gs:List Nat} {R:List (List ByteArray)} {t t':TypeId} (hG:W.heap[G]?=some (Obj.cells ((List.zipWith (fun g r=>Value.slice (some ⟨g,0,none⟩) (List.length r) (List.length r)) gs R).toArray) t)) (hl:R.length≤gs.length)
  (hr:∀(i g:Nat) (r:List ByteArray),gs[i]?=some g→R[i]?=some r→W.heap[g]?=some (Obj.cells ((r.map Value.string).toArray) t')):SpM W G R:=by
 refine ⟨(Array.getElem?_eq_some_iff.1 hG).1,fun i row hi => ?_⟩
 have hlt:i<R.length:=(List.getElem?_eq_some_iff.1 hi).1
 obtain ⟨g,hg⟩:∃g,gs[i]?=some g:=⟨_,List.getElem?_eq_getElem (by omega)⟩
 have hb:=hr i g row hg hi
 refine ⟨g,(Array.getElem?_eq_some_iff.1 hb).1,?_,fun j t hj => ?_⟩
 ·simp [World.cell?,hG,List.getElem?_zipWith,hg,hi]
 ·simp [World.cell?,hb,hj]
theorem cat_step {a b:List UInt8} {X Y Z:ByteArray} (hX:X=bs a) (hY:Y=bs b) (hZ:Z=bs (a++b)) (hl:a.length+b.length≤100000):X++Y=Z∧¬9223372036854775807<X.size+Y.size:=by
 subst hX hY hZ
 refine ⟨bs_append a b,?_⟩
 rw [bs_size,bs_size];omega
theorem row_read {t:List UInt8} {a b:Nat} (h:litRd t=((a,b),0,0)∧t.length≤5000) (W:World):Calls Tryz.prog 9 #[.string (bs t)] W (Ans W (IsV (.tuple #[.agg #[.float .f64 a,.float .f64 b],.int .i64 0,.int .i64 0]))):=by
 have:=lread_lit t (by omega) W
 rw [h.1] at this
 exact this
theorem KM.push2 {w W:World} {L:List (Nat×Obj)} (h:KM w W L) (o p:Obj):KM w ((W.alloc o).alloc p) ((W.heap.size+1,p)::(W.heap.size,o)::L):=by
 have hz:(W.alloc o).heap.size=W.heap.size+1:=by show (W.heap.push _).size=_;simp
 have:=(h.push o).push p
 rw [hz] at this
 exact this
theorem sp_rel {w W:World} {P Q:List UInt8} {m G g0 g1 g2 g3 g4 g5:Nat} (HM:KM w W [(G,.cells #[.slice (some ⟨g0,0,none⟩) 3 3,.slice (some ⟨g1,0,none⟩) 4 4,.slice (some ⟨g2,0,none⟩) 3 3,.slice (some ⟨g3,0,none⟩) 3 3,.slice (some ⟨g4,0,none⟩) 4 4,.slice (some ⟨g5,0,none⟩) 5 5] 30),(g5,.cells #[.string (bs ([91,101,110,116,105,114,101,93])),.string (bs ([91,44,93])),.string (bs ([91]++blT m++[44]++blT m++[93])),.string (bs ([91,45,105,110,102,44,105,110,102,93])),.string (bs ([91,69,78,84,73,82,69]++blT m++[93]))] 9),(g4,.cells #[.string (bs ([91,93])),.string (bs ([91]++blT m++[93])),.string (bs ([91,101,109,112,116,121]++blT m++[93])),.string (bs ([91]++blT m++[101,77,80,84,89,93]))] 9),(g3,.cells #[.string (bs ([91]++P++[93])),.string (bs ([91]++blT m++P++blT m++[93])),.string (bs ([91]++P++[44]++P++[93]))] 9),(g2,.cells #[.string (bs ([91,44]++Q++[93])),.string (bs ([91,45,105,110,102,44]++Q++[93])),.string (bs ([91]++blT m++[45,73,110,102,105,110,105,116,121]++blT m++[44]++Q++[93]))] 9),(g1,.cells #[.string (bs ([91]++P++[44,93])),.string (bs ([91]++P++[44,32,105,110,102,93])),.string (bs ([91]++P++[44,43,73,78,70,73,78,73,84,89]++blT m++[93])),.string (bs ([91]++P++blT m++[44,32]++[43,105,110,102,93]))] 9),(g0,.cells #[.string (bs ([91]++P++[44]++Q++[93])),.string (bs ([91]++blT m++P++blT 3++[44]++blT m++Q++blT 1++[93])),.string (bs ([91]++P.map upc++[44,32]++Q.map upc++[93]))] 9)]):SpM W G ((spRows P Q m).map (List.map bs)):=by
 refine spM_of (gs:=[g0,g1,g2,g3,g4,g5]) (t:=30) (t':=9) (HM.get (List.mem_cons.2 (.inl rfl))) (by simp [spRows]) ?_
 intro i g r hg hr
 rcases i with _ | _ | _ | _ | _ | _ | i
 all_goals first
  | (obtain rfl:_=g:=Option.some.inj hg;obtain rfl:_=r:=Option.some.inj hr;exact HM.get (by first | exact List.mem_cons.2 (.inr (List.mem_cons.2 (.inr (List.mem_cons.2 (.inr (List.mem_cons.2 (.inr (List.mem_cons.2 (.inr (List.mem_cons.2 (.inr (List.mem_cons.2 (.inl rfl))))))))))))) | exact List.mem_cons.2 (.inr (List.mem_cons.2 (.inr (List.mem_cons.2 (.inr (List.mem_cons.2 (.inr (List.mem_cons.2 (.inr (List.mem_cons.2 (.inl rfl))))))))))) | exact List.mem_cons.2 (.inr (List.mem_cons.2 (.inr (List.mem_cons.2 (.inr (List.mem_cons.2 (.inr (List.mem_cons.2 (.inl rfl))))))))) | exact List.mem_cons.2 (.inr (List.mem_cons.2 (.inr (List.mem_cons.2 (.inr (List.mem_cons.2 (.inl rfl))))))) | exact List.mem_cons.2 (.inr (List.mem_cons.2 (.inr (List.mem_cons.2 (.inl rfl))))) | exact List.mem_cons.2 (.inr (List.mem_cons.2 (.inl rfl)))))
  | (exfalso;simp at hg)
set_option maxRecDepth 100000 in
set_option maxHeartbeats 16000000 in
theorem walk_spelt (la lb:List UInt8) (n:Int) (w:World) (ha:la.length≤140737488355328) (hb:lb.length≤140737488355328) (n1 : -9223372036854775808≤n) (n2:n≤9223372036854775807) (hP:Pow10 w):Calls Tryz.prog 3 #[.string (bs la),.string (bs lb),.int .i64 n] w fun e w'=>e=.returned (.bool true)∧Below w.heap.size w w':=by
 have HN1:=Lib.hid (fun W=>numeral12_any la ha W)
 have HN2:=Lib.hid (fun W=>numeral12_any lb hb W)
 obtain ⟨⟨⟨n1',N1,D1,K1⟩,hx1⟩,hl1⟩:=numT_ok la
 obtain ⟨⟨⟨n2',N2,D2,K2⟩,hx2⟩,hl2⟩:=numT_ok lb
 obtain ⟨p,hp⟩:∃p,numT la=p:=⟨_,rfl⟩
 obtain ⟨q,hq⟩:∃p,numT lb=p:=⟨_,rfl⟩
 rw [hp] at HN1 hx1 hl1
 rw [hq] at HN2 hx2 hl2
 have hv1:=fun W=>val5_any p (by omega) W
 have hv2:=fun W=>val5_any q (by omega) W
 rw [hx1] at hv1
 rw [hx2] at hv2
 have HV1:=Lib.hid hv1
 have HV2:=Lib.hid hv2
 obtain ⟨m,hm15,hand⟩:=and15 n
 have hdoc:=ordS_doc n1' n2' N1 D1 N2 D2 K1 K2
 have HLV:=Lib.hid (fun W (h:Pow10 W)=>lives12_any W h)
 have HPP:=Lib.hid hP
 have HX:=Lib.hid (And.intro (And.intro hx1 hl1) (And.intro hx2 hl2))
 obtain ⟨o,ho⟩:∃o,ordS (n1',N1,D1,K1) (n2',N2,D2,K2)=o:=⟨_,rfl⟩
 rw [ho] at hdoc
 have HDOC:=Lib.hid hdoc
 have HO:=Lib.hid ho
 have hsf:=store_f
 clear hv1 hv2 hx1 hx2 hl1 hl2 hdoc hP hp hq ha hb ho n1 n2
 obtain ⟨X0,h0⟩:∃X,bs p=X:=⟨_,rfl⟩
 obtain ⟨X5,h5⟩:∃X,bs q=X:=⟨_,rfl⟩
 rw [h0] at HN1 HV1
 rw [h5] at HN2 HV2
 have HXT:=Lib.hid (And.intro h0 h5)
 clear h0 h5
 generalize bs la=SA at *
 generalize bs lb=SB at *
 go_enter Tryz.func3,Tryz.ntmps3
 go_wp2_with fail
 refine (HN1.out _).mono ?_
 rintro e w1 ⟨rfl,k1⟩
 have HW1:=Lib.hid k1
 clear k1
 go_wp2_with fail
 refine (HN2.out _).mono ?_
 rintro e w2 ⟨rfl,k2⟩
 have HW2:=Lib.hid (raft HW1.out k2)
 clear k2
 go_wp2_with fail
 refine (HV1.out _).mono ?_
 rintro e w3 ⟨v3,rfl,⟨x3,rfl,hx3⟩,k3⟩
 obtain ⟨s1,X6,m1,c1,Y6,m2,c2,rfl⟩:=hx3.agg
 have kk:=rnew w3 (rtO s1 (.slice X6 m1 c1) (.slice Y6 m2 c2))
 have HM1:=Lib.hid (And.intro (raft HW2.out (raft k3 kk)) (And.intro (heap_alloc_new w3 (rtO s1 (.slice X6 m1 c1) (.slice Y6 m2 c2))) (IsRV.mono _ _ _ _ _ _ kk hx3)))
 clear k3 kk hx3
 go_wp2_with fail
 refine (HV2.out _).mono ?_
 rintro e w4 ⟨v4,rfl,⟨x4,rfl,hx4⟩,k4⟩
 obtain ⟨s2,X7,m3,c3,Y7,m4,c4,rfl⟩:=hx4.agg
 have kk:=rnew w4 (rtO s2 (.slice X7 m3 c3) (.slice Y7 m4 c4))
 have kb:=raft k4 kk
 have HM:=Lib.hid (DrM.mk (B1:=w3.heap.size) (B2:=w4.heap.size) (raft HM1.out.1 kb) ((kb.block _ (Array.getElem?_eq_some_iff.1 HM1.out.2.1).1).trans HM1.out.2.1) (heap_alloc_new w4 (rtO s2 (.slice X7 m3 c3) (.slice Y7 m4 c4))) (IsRV.mono _ _ _ _ _ _ kb HM1.out.2.2) (IsRV.mono _ _ _ _ _ _ kk hx4))
 clear k4 kk kb hx4 HM1
 have HM5:=Lib.hid HM.out
 clear HM
 obtain ⟨a0,a1,a2⟩:=rt_cells HM5.out.h1
 obtain ⟨b0,b1,b2⟩:=rt_cells HM5.out.h2
 go_wp2_with fail
 refine (rv_cmp HM5.out.r1 HM5.out.r2 (by omega) (by omega)).mono ?_
 rintro e w6 ⟨v6,rfl,rfl,k6⟩
 rw [HDOC.out]
 have HW6:=Lib.hid (HM5.out.later k6).below
 clear k6 a0 a1 a2 b0 b1 b2 HM5
 go_upto_if 46 with fail
 go_cut [2,7,8] (fun u v t wx=>∃P Q:List UInt8,u=.int .i64 (m:Int)∧v=.string (bs P)∧t=.string (bs Q)∧Hid ((∃x y,scn P=.ok x∧scn Q=.ok y∧ordS x y≤0)∧P.length≤1500∧Q.length≤1500)∧wx=w6)
 case first =>
  by_cases hgt:0<o
  ·go_wp2
   go_meet
   case rel =>
    refine ⟨q,p,rfl,by rw [HXT.out.2],by rw [HXT.out.1],Lib.hid ⟨⟨_,_,HX.out.2.1,HX.out.1.1,?_⟩,HX.out.2.2,HX.out.1.2⟩,rfl⟩
    rcases ord_law 0 (x:=(n2',N2,D2,K2)) (y:=(n1',N1,D1,K1)) (scn_bd HX.out.2.1).2.2.1 (scn_bd HX.out.1.1).2.2.1 with h | h | h
    ·omega
    ·omega
    ·have h':=HO.out;omega
  ·go_wp2
   go_meet
   case rel=>exact ⟨p,q,rfl,by rw [HXT.out.1],by rw [HXT.out.2],Lib.hid ⟨⟨_,_,HX.out.1.1,HX.out.2.1,by rw [HO.out];omega⟩,HX.out.1.2,HX.out.2.2⟩,rfl⟩
 case rest =>
  obtain ⟨P,Q,rfl,rfl,rfl,HPQ,rfl⟩:=hcut
  clear HX HXT HO HDOC hand HN1 HN2 HV1 HV2
  have hrows:∀row∈spRows P Q m,RowOk row:=by
   obtain ⟨⟨x,y,h1,h2,h3⟩,h4,h5⟩:=HPQ.out
   exact sp_law h1 h2 h3 h4 h5 hm15
  have HROWS:=Lib.hid hrows
  have lP:=HPQ.out.2.1
  have lQ:=HPQ.out.2.2
  have lB:(blT m).length≤15:=by rw [blT_len];exact hm15
  have l3:(blT 3).length≤15:=by rw [blT_len];omega
  have l1:(blT 1).length≤15:=by rw [blT_len];omega
  have lPU:(P.map upc).length≤1500:=by rw [List.length_map];exact lP
  have lQU:(Q.map upc).length≤1500:=by rw [List.length_map];exact lQ
  obtain ⟨TP,hTP⟩:∃T,T=bs P:=⟨_,rfl⟩
  obtain ⟨TQ,hTQ⟩:∃T,T=bs Q:=⟨_,rfl⟩
  obtain ⟨TBM,hTBM⟩:∃T,T=bs (blT m):=⟨_,rfl⟩
  obtain ⟨TB3,hTB3⟩:∃T,T=bs (blT 3):=⟨_,rfl⟩
  obtain ⟨TB1,hTB1⟩:∃T,T=bs (blT 1):=⟨_,rfl⟩
  obtain ⟨TPU,hTPU⟩:∃T,T=bs (P.map upc):=⟨_,rfl⟩
  obtain ⟨TQU,hTQU⟩:∃T,T=bs (Q.map upc):=⟨_,rfl⟩
  have CBM:=Lib.hid (fun W=>blanks12_any m (by omega) W)
  have CB3:=Lib.hid (fun W=>blanks12_any 3 (by omega) W)
  have CB1:=Lib.hid (fun W=>blanks12_any 1 (by omega) W)
  have CLP:=Lib.hid (fun W=>loud12_any P (by omega) W)
  have CLQ:=Lib.hid (fun W=>loud12_any Q (by omega) W)
  rw [←hTBM] at CBM
  rw [←hTB3] at CB3
  rw [←hTB1] at CB1
  rw [←hTP,←hTPU] at CLP
  rw [←hTQ,←hTQU] at CLQ
  rw [←hTP,←hTQ]
  obtain ⟨T51,hT51⟩:∃T,T=bs ([91]++P):=⟨_,rfl⟩
  have F51:=Lib.hid (cat_step (a:=[91]) (b:=P) (X:=({ data:=#[91] }:ByteArray)) (Y:=TP) rfl hTP hT51 (by simp only [List.length_append,List.length_cons,List.length_nil];omega))
  obtain ⟨T52,hT52⟩:∃T,T=bs ([91]++P++[44]):=⟨_,rfl⟩
  have F52:=Lib.hid (cat_step (a:=[91]++P) (b:=[44]) (X:=T51) (Y:=({ data:=#[44] }:ByteArray)) hT51 rfl hT52 (by simp only [List.length_append,List.length_cons,List.length_nil];omega))
  obtain ⟨T54,hT54⟩:∃T,T=bs ([91]++P++[44]++Q):=⟨_,rfl⟩
  have F54:=Lib.hid (cat_step (a:=[91]++P++[44]) (b:=Q) (X:=T52) (Y:=TQ) hT52 hTQ hT54 (by simp only [List.length_append,List.length_cons,List.length_nil];omega))
  obtain ⟨T55,hT55⟩:∃T,T=bs ([91]++P++[44]++Q++[93]):=⟨_,rfl⟩
  have F55:=Lib.hid (cat_step (a:=[91]++P++[44]++Q) (b:=[93]) (X:=T54) (Y:=({ data:=#[93] }:ByteArray)) hT54 rfl hT55 (by simp only [List.length_append,List.length_cons,List.length_nil];omega))
  obtain ⟨T58,hT58⟩:∃T,T=bs ([91]++blT m):=⟨_,rfl⟩
  have F58:=Lib.hid (cat_step (a:=[91]) (b:=blT m) (X:=({ data:=#[91] }:ByteArray)) (Y:=TBM) rfl hTBM hT58 (by simp only [List.length_append,List.length_cons,List.length_nil];omega))
  obtain ⟨T60,hT60⟩:∃T,T=bs ([91]++blT m++P):=⟨_,rfl⟩
  have F60:=Lib.hid (cat_step (a:=[91]++blT m) (b:=P) (X:=T58) (Y:=TP) hT58 hTP hT60 (by simp only [List.length_append,List.length_cons,List.length_nil];omega))
  obtain ⟨T62,hT62⟩:∃T,T=bs ([91]++blT m++P++blT 3):=⟨_,rfl⟩
  have F62:=Lib.hid (cat_step (a:=[91]++blT m++P) (b:=blT 3) (X:=T60) (Y:=TB3) hT60 hTB3 hT62 (by simp only [List.length_append,List.length_cons,List.length_nil];omega))
  obtain ⟨T63,hT63⟩:∃T,T=bs ([91]++blT m++P++blT 3++[44]):=⟨_,rfl⟩
  have F63:=Lib.hid (cat_step (a:=[91]++blT m++P++blT 3) (b:=[44]) (X:=T62) (Y:=({ data:=#[44] }:ByteArray)) hT62 rfl hT63 (by simp only [List.length_append,List.length_cons,List.length_nil];omega))
  obtain ⟨T66,hT66⟩:∃T,T=bs ([91]++blT m++P++blT 3++[44]++blT m):=⟨_,rfl⟩
  have F66:=Lib.hid (cat_step (a:=[91]++blT m++P++blT 3++[44]) (b:=blT m) (X:=T63) (Y:=TBM) hT63 hTBM hT66 (by simp only [List.length_append,List.length_cons,List.length_nil];omega))
  obtain ⟨T68,hT68⟩:∃T,T=bs ([91]++blT m++P++blT 3++[44]++blT m++Q):=⟨_,rfl⟩
  have F68:=Lib.hid (cat_step (a:=[91]++blT m++P++blT 3++[44]++blT m) (b:=Q) (X:=T66) (Y:=TQ) hT66 hTQ hT68 (by simp only [List.length_append,List.length_cons,List.length_nil];omega))
  obtain ⟨T70,hT70⟩:∃T,T=bs ([91]++blT m++P++blT 3++[44]++blT m++Q++blT 1):=⟨_,rfl⟩
  have F70:=Lib.hid (cat_step (a:=[91]++blT m++P++blT 3++[44]++blT m++Q) (b:=blT 1) (X:=T68) (Y:=TB1) hT68 hTB1 hT70 (by simp only [List.length_append,List.length_cons,List.length_nil];omega))
  obtain ⟨T71,hT71⟩:∃T,T=bs ([91]++blT m++P++blT 3++[44]++blT m++Q++blT 1++[93]):=⟨_,rfl⟩
  have F71:=Lib.hid (cat_step (a:=[91]++blT m++P++blT 3++[44]++blT m++Q++blT 1) (b:=[93]) (X:=T70) (Y:=({ data:=#[93] }:ByteArray)) hT70 rfl hT71 (by simp only [List.length_append,List.length_cons,List.length_nil];omega))
  obtain ⟨T74,hT74⟩:∃T,T=bs ([91]++P.map upc):=⟨_,rfl⟩
  have F74:=Lib.hid (cat_step (a:=[91]) (b:=P.map upc) (X:=({ data:=#[91] }:ByteArray)) (Y:=TPU) rfl hTPU hT74 (by simp only [List.length_append,List.length_cons,List.length_nil];omega))
  obtain ⟨T75,hT75⟩:∃T,T=bs ([91]++P.map upc++[44,32]):=⟨_,rfl⟩
  have F75:=Lib.hid (cat_step (a:=[91]++P.map upc) (b:=[44,32]) (X:=T74) (Y:=({ data:=#[44,32] }:ByteArray)) hT74 rfl hT75 (by simp only [List.length_append,List.length_cons,List.length_nil];omega))
  obtain ⟨T78,hT78⟩:∃T,T=bs ([91]++P.map upc++[44,32]++Q.map upc):=⟨_,rfl⟩
  have F78:=Lib.hid (cat_step (a:=[91]++P.map upc++[44,32]) (b:=Q.map upc) (X:=T75) (Y:=TQU) hT75 hTQU hT78 (by simp only [List.length_append,List.length_cons,List.length_nil];omega))
  obtain ⟨T79,hT79⟩:∃T,T=bs ([91]++P.map upc++[44,32]++Q.map upc++[93]):=⟨_,rfl⟩
  have F79:=Lib.hid (cat_step (a:=[91]++P.map upc++[44,32]++Q.map upc) (b:=[93]) (X:=T78) (Y:=({ data:=#[93] }:ByteArray)) hT78 rfl hT79 (by simp only [List.length_append,List.length_cons,List.length_nil];omega))
  obtain ⟨T83,hT83⟩:∃T,T=bs ([91]++P++[44,93]):=⟨_,rfl⟩
  have F83:=Lib.hid (cat_step (a:=[91]++P) (b:=[44,93]) (X:=T51) (Y:=({ data:=#[44,93] }:ByteArray)) hT51 rfl hT83 (by simp only [List.length_append,List.length_cons,List.length_nil];omega))
  obtain ⟨T86,hT86⟩:∃T,T=bs ([91]++P++[44,32,105,110,102,93]):=⟨_,rfl⟩
  have F86:=Lib.hid (cat_step (a:=[91]++P) (b:=[44,32,105,110,102,93]) (X:=T51) (Y:=({ data:=#[44,32,105,110,102,93] }:ByteArray)) hT51 rfl hT86 (by simp only [List.length_append,List.length_cons,List.length_nil];omega))
  obtain ⟨T89,hT89⟩:∃T,T=bs ([91]++P++[44,43,73,78,70,73,78,73,84,89]):=⟨_,rfl⟩
  have F89:=Lib.hid (cat_step (a:=[91]++P) (b:=[44,43,73,78,70,73,78,73,84,89]) (X:=T51) (Y:=({ data:=#[44,43,73,78,70,73,78,73,84,89] }:ByteArray)) hT51 rfl hT89 (by simp only [List.length_append,List.length_cons,List.length_nil];omega))
  obtain ⟨T92,hT92⟩:∃T,T=bs ([91]++P++[44,43,73,78,70,73,78,73,84,89]++blT m):=⟨_,rfl⟩
  have F92:=Lib.hid (cat_step (a:=[91]++P++[44,43,73,78,70,73,78,73,84,89]) (b:=blT m) (X:=T89) (Y:=TBM) hT89 hTBM hT92 (by simp only [List.length_append,List.length_cons,List.length_nil];omega))
  obtain ⟨T93,hT93⟩:∃T,T=bs ([91]++P++[44,43,73,78,70,73,78,73,84,89]++blT m++[93]):=⟨_,rfl⟩
  have F93:=Lib.hid (cat_step (a:=[91]++P++[44,43,73,78,70,73,78,73,84,89]++blT m) (b:=[93]) (X:=T92) (Y:=({ data:=#[93] }:ByteArray)) hT92 rfl hT93 (by simp only [List.length_append,List.length_cons,List.length_nil];omega))
  obtain ⟨T98,hT98⟩:∃T,T=bs ([91]++P++blT m):=⟨_,rfl⟩
  have F98:=Lib.hid (cat_step (a:=[91]++P) (b:=blT m) (X:=T51) (Y:=TBM) hT51 hTBM hT98 (by simp only [List.length_append,List.length_cons,List.length_nil];omega))
  obtain ⟨T99,hT99⟩:∃T,T=bs ([91]++P++blT m++[44,32]):=⟨_,rfl⟩
  have F99:=Lib.hid (cat_step (a:=[91]++P++blT m) (b:=[44,32]) (X:=T98) (Y:=({ data:=#[44,32] }:ByteArray)) hT98 rfl hT99 (by simp only [List.length_append,List.length_cons,List.length_nil];omega))
  obtain ⟨T100,hT100⟩:∃T,T=bs ([91]++P++blT m++[44,32]++[43,105,110,102,93]):=⟨_,rfl⟩
  have F100:=Lib.hid (cat_step (a:=[91]++P++blT m++[44,32]) (b:=[43,105,110,102,93]) (X:=T99) (Y:=({ data:=#[43,105,110,102,93] }:ByteArray)) hT99 rfl hT100 (by simp only [List.length_append,List.length_cons,List.length_nil];omega))
  obtain ⟨T103,hT103⟩:∃T,T=bs ([91,44]++Q):=⟨_,rfl⟩
  have F103:=Lib.hid (cat_step (a:=[91,44]) (b:=Q) (X:=({ data:=#[91,44] }:ByteArray)) (Y:=TQ) rfl hTQ hT103 (by simp only [List.length_append,List.length_cons,List.length_nil];omega))
  obtain ⟨T104,hT104⟩:∃T,T=bs ([91,44]++Q++[93]):=⟨_,rfl⟩
  have F104:=Lib.hid (cat_step (a:=[91,44]++Q) (b:=[93]) (X:=T103) (Y:=({ data:=#[93] }:ByteArray)) hT103 rfl hT104 (by simp only [List.length_append,List.length_cons,List.length_nil];omega))
  obtain ⟨T106,hT106⟩:∃T,T=bs ([91,45,105,110,102,44]++Q):=⟨_,rfl⟩
  have F106:=Lib.hid (cat_step (a:=[91,45,105,110,102,44]) (b:=Q) (X:=({ data:=#[91,45,105,110,102,44] }:ByteArray)) (Y:=TQ) rfl hTQ hT106 (by simp only [List.length_append,List.length_cons,List.length_nil];omega))
  obtain ⟨T107,hT107⟩:∃T,T=bs ([91,45,105,110,102,44]++Q++[93]):=⟨_,rfl⟩
  have F107:=Lib.hid (cat_step (a:=[91,45,105,110,102,44]++Q) (b:=[93]) (X:=T106) (Y:=({ data:=#[93] }:ByteArray)) hT106 rfl hT107 (by simp only [List.length_append,List.length_cons,List.length_nil];omega))
  obtain ⟨T111,hT111⟩:∃T,T=bs ([91]++blT m++[45,73,110,102,105,110,105,116,121]):=⟨_,rfl⟩
  have F111:=Lib.hid (cat_step (a:=[91]++blT m) (b:=[45,73,110,102,105,110,105,116,121]) (X:=T58) (Y:=({ data:=#[45,73,110,102,105,110,105,116,121] }:ByteArray)) hT58 rfl hT111 (by simp only [List.length_append,List.length_cons,List.length_nil];omega))
  obtain ⟨T114,hT114⟩:∃T,T=bs ([91]++blT m++[45,73,110,102,105,110,105,116,121]++blT m):=⟨_,rfl⟩
  have F114:=Lib.hid (cat_step (a:=[91]++blT m++[45,73,110,102,105,110,105,116,121]) (b:=blT m) (X:=T111) (Y:=TBM) hT111 hTBM hT114 (by simp only [List.length_append,List.length_cons,List.length_nil];omega))
  obtain ⟨T115,hT115⟩:∃T,T=bs ([91]++blT m++[45,73,110,102,105,110,105,116,121]++blT m++[44]):=⟨_,rfl⟩
  have F115:=Lib.hid (cat_step (a:=[91]++blT m++[45,73,110,102,105,110,105,116,121]++blT m) (b:=[44]) (X:=T114) (Y:=({ data:=#[44] }:ByteArray)) hT114 rfl hT115 (by simp only [List.length_append,List.length_cons,List.length_nil];omega))
  obtain ⟨T117,hT117⟩:∃T,T=bs ([91]++blT m++[45,73,110,102,105,110,105,116,121]++blT m++[44]++Q):=⟨_,rfl⟩
  have F117:=Lib.hid (cat_step (a:=[91]++blT m++[45,73,110,102,105,110,105,116,121]++blT m++[44]) (b:=Q) (X:=T115) (Y:=TQ) hT115 hTQ hT117 (by simp only [List.length_append,List.length_cons,List.length_nil];omega))
  obtain ⟨T118,hT118⟩:∃T,T=bs ([91]++blT m++[45,73,110,102,105,110,105,116,121]++blT m++[44]++Q++[93]):=⟨_,rfl⟩
  have F118:=Lib.hid (cat_step (a:=[91]++blT m++[45,73,110,102,105,110,105,116,121]++blT m++[44]++Q) (b:=[93]) (X:=T117) (Y:=({ data:=#[93] }:ByteArray)) hT117 rfl hT118 (by simp only [List.length_append,List.length_cons,List.length_nil];omega))
  obtain ⟨T122,hT122⟩:∃T,T=bs ([91]++P++[93]):=⟨_,rfl⟩
  have F122:=Lib.hid (cat_step (a:=[91]++P) (b:=[93]) (X:=T51) (Y:=({ data:=#[93] }:ByteArray)) hT51 rfl hT122 (by simp only [List.length_append,List.length_cons,List.length_nil];omega))
  obtain ⟨T130,hT130⟩:∃T,T=bs ([91]++blT m++P++blT m):=⟨_,rfl⟩
  have F130:=Lib.hid (cat_step (a:=[91]++blT m++P) (b:=blT m) (X:=T60) (Y:=TBM) hT60 hTBM hT130 (by simp only [List.length_append,List.length_cons,List.length_nil];omega))
  obtain ⟨T131,hT131⟩:∃T,T=bs ([91]++blT m++P++blT m++[93]):=⟨_,rfl⟩
  have F131:=Lib.hid (cat_step (a:=[91]++blT m++P++blT m) (b:=[93]) (X:=T130) (Y:=({ data:=#[93] }:ByteArray)) hT130 rfl hT131 (by simp only [List.length_append,List.length_cons,List.length_nil];omega))
  obtain ⟨T136,hT136⟩:∃T,T=bs ([91]++P++[44]++P):=⟨_,rfl⟩
  have F136:=Lib.hid (cat_step (a:=[91]++P++[44]) (b:=P) (X:=T52) (Y:=TP) hT52 hTP hT136 (by simp only [List.length_append,List.length_cons,List.length_nil];omega))
  obtain ⟨T137,hT137⟩:∃T,T=bs ([91]++P++[44]++P++[93]):=⟨_,rfl⟩
  have F137:=Lib.hid (cat_step (a:=[91]++P++[44]++P) (b:=[93]) (X:=T136) (Y:=({ data:=#[93] }:ByteArray)) hT136 rfl hT137 (by simp only [List.length_append,List.length_cons,List.length_nil];omega))
  obtain ⟨T142,hT142⟩:∃T,T=bs ([91]++blT m++[93]):=⟨_,rfl⟩
  have F142:=Lib.hid (cat_step (a:=[91]++blT m) (b:=[93]) (X:=T58) (Y:=({ data:=#[93] }:ByteArray)) hT58 rfl hT142 (by simp only [List.length_append,List.length_cons,List.length_nil];omega))
  obtain ⟨T145,hT145⟩:∃T,T=bs ([91,101,109,112,116,121]++blT m):=⟨_,rfl⟩
  have F145:=Lib.hid (cat_step (a:=[91,101,109,112,116,121]) (b:=blT m) (X:=({ data:=#[91,101,109,112,116,121] }:ByteArray)) (Y:=TBM) rfl hTBM hT145 (by simp only [List.length_append,List.length_cons,List.length_nil];omega))
  obtain ⟨T146,hT146⟩:∃T,T=bs ([91,101,109,112,116,121]++blT m++[93]):=⟨_,rfl⟩
  have F146:=Lib.hid (cat_step (a:=[91,101,109,112,116,121]++blT m) (b:=[93]) (X:=T145) (Y:=({ data:=#[93] }:ByteArray)) hT145 rfl hT146 (by simp only [List.length_append,List.length_cons,List.length_nil];omega))
  obtain ⟨T150,hT150⟩:∃T,T=bs ([91]++blT m++[101,77,80,84,89,93]):=⟨_,rfl⟩
  have F150:=Lib.hid (cat_step (a:=[91]++blT m) (b:=[101,77,80,84,89,93]) (X:=T58) (Y:=({ data:=#[101,77,80,84,89,93] }:ByteArray)) hT58 rfl hT150 (by simp only [List.length_append,List.length_cons,List.length_nil];omega))
  obtain ⟨T155,hT155⟩:∃T,T=bs ([91]++blT m++[44]):=⟨_,rfl⟩
  have F155:=Lib.hid (cat_step (a:=[91]++blT m) (b:=[44]) (X:=T58) (Y:=({ data:=#[44] }:ByteArray)) hT58 rfl hT155 (by simp only [List.length_append,List.length_cons,List.length_nil];omega))
  obtain ⟨T158,hT158⟩:∃T,T=bs ([91]++blT m++[44]++blT m):=⟨_,rfl⟩
  have F158:=Lib.hid (cat_step (a:=[91]++blT m++[44]) (b:=blT m) (X:=T155) (Y:=TBM) hT155 hTBM hT158 (by simp only [List.length_append,List.length_cons,List.length_nil];omega))
  obtain ⟨T159,hT159⟩:∃T,T=bs ([91]++blT m++[44]++blT m++[93]):=⟨_,rfl⟩
  have F159:=Lib.hid (cat_step (a:=[91]++blT m++[44]++blT m) (b:=[93]) (X:=T158) (Y:=({ data:=#[93] }:ByteArray)) hT158 rfl hT159 (by simp only [List.length_append,List.length_cons,List.length_nil];omega))
  obtain ⟨T162,hT162⟩:∃T,T=bs ([91,69,78,84,73,82,69]++blT m):=⟨_,rfl⟩
  have F162:=Lib.hid (cat_step (a:=[91,69,78,84,73,82,69]) (b:=blT m) (X:=({ data:=#[91,69,78,84,73,82,69] }:ByteArray)) (Y:=TBM) rfl hTBM hT162 (by simp only [List.length_append,List.length_cons,List.length_nil];omega))
  obtain ⟨T163,hT163⟩:∃T,T=bs ([91,69,78,84,73,82,69]++blT m++[93]):=⟨_,rfl⟩
  have F163:=Lib.hid (cat_step (a:=[91,69,78,84,73,82,69]++blT m) (b:=[93]) (X:=T162) (Y:=({ data:=#[93] }:ByteArray)) hT162 rfl hT163 (by simp only [List.length_append,List.length_cons,List.length_nil];omega))
  have HT:=Lib.hid (show TP=bs (P)∧TQ=bs (Q)∧TBM=bs (blT m)∧TB3=bs (blT 3)∧TB1=bs (blT 1)∧TPU=bs (P.map upc)∧TQU=bs (Q.map upc)∧T51=bs ([91]++P)∧T52=bs ([91]++P++[44])∧T54=bs ([91]++P++[44]++Q)∧T55=bs ([91]++P++[44]++Q++[93])∧T58=bs ([91]++blT m)∧T60=bs ([91]++blT m++P)∧T62=bs ([91]++blT m++P++blT 3)∧T63=bs ([91]++blT m++P++blT 3++[44])∧T66=bs ([91]++blT m++P++blT 3++[44]++blT m)∧T68=bs ([91]++blT m++P++blT 3++[44]++blT m++Q)∧T70=bs ([91]++blT m++P++blT 3++[44]++blT m++Q++blT 1)∧T71=bs ([91]++blT m++P++blT 3++[44]++blT m++Q++blT 1++[93])∧T74=bs ([91]++P.map upc)∧T75=bs ([91]++P.map upc++[44,32])∧T78=bs ([91]++P.map upc++[44,32]++Q.map upc)∧T79=bs ([91]++P.map upc++[44,32]++Q.map upc++[93])∧T83=bs ([91]++P++[44,93])∧T86=bs ([91]++P++[44,32,105,110,102,93])∧T89=bs ([91]++P++[44,43,73,78,70,73,78,73,84,89])∧T92=bs ([91]++P++[44,43,73,78,70,73,78,73,84,89]++blT m)∧T93=bs ([91]++P++[44,43,73,78,70,73,78,73,84,89]++blT m++[93])∧T98=bs ([91]++P++blT m)∧T99=bs ([91]++P++blT m++[44,32])∧T100=bs ([91]++P++blT m++[44,32]++[43,105,110,102,93])∧T103=bs ([91,44]++Q)∧T104=bs ([91,44]++Q++[93])∧T106=bs ([91,45,105,110,102,44]++Q)∧T107=bs ([91,45,105,110,102,44]++Q++[93])∧T111=bs ([91]++blT m++[45,73,110,102,105,110,105,116,121])∧T114=bs ([91]++blT m++[45,73,110,102,105,110,105,116,121]++blT m)∧T115=bs ([91]++blT m++[45,73,110,102,105,110,105,116,121]++blT m++[44])∧T117=bs ([91]++blT m++[45,73,110,102,105,110,105,116,121]++blT m++[44]++Q)∧T118=bs ([91]++blT m++[45,73,110,102,105,110,105,116,121]++blT m++[44]++Q++[93])∧T122=bs ([91]++P++[93])∧T130=bs ([91]++blT m++P++blT m)∧T131=bs ([91]++blT m++P++blT m++[93])∧T136=bs ([91]++P++[44]++P)∧T137=bs ([91]++P++[44]++P++[93])∧T142=bs ([91]++blT m++[93])∧T145=bs ([91,101,109,112,116,121]++blT m)∧T146=bs ([91,101,109,112,116,121]++blT m++[93])∧T150=bs ([91]++blT m++[101,77,80,84,89,93])∧T155=bs ([91]++blT m++[44])∧T158=bs ([91]++blT m++[44]++blT m)∧T159=bs ([91]++blT m++[44]++blT m++[93])∧T162=bs ([91,69,78,84,73,82,69]++blT m)∧T163=bs ([91,69,78,84,73,82,69]++blT m++[93]) from ⟨hTP,hTQ,hTBM,hTB3,hTB1,hTPU,hTQU,hT51,hT52,hT54,hT55,hT58,hT60,hT62,hT63,hT66,hT68,hT70,hT71,hT74,hT75,hT78,hT79,hT83,hT86,hT89,hT92,hT93,hT98,hT99,hT100,hT103,hT104,hT106,hT107,hT111,hT114,hT115,hT117,hT118,hT122,hT130,hT131,hT136,hT137,hT142,hT145,hT146,hT150,hT155,hT158,hT159,hT162,hT163⟩)
  clear hTP hTQ hTBM hTB3 hTB1 hTPU hTQU hT51 hT52 hT54 hT55 hT58 hT60 hT62 hT63 hT66 hT68 hT70 hT71 hT74 hT75 hT78 hT79 hT83 hT86 hT89 hT92 hT93 hT98 hT99 hT100 hT103 hT104 hT106 hT107 hT111 hT114 hT115 hT117 hT118 hT122 hT130 hT131 hT136 hT137 hT142 hT145 hT146 hT150 hT155 hT158 hT159 hT162 hT163
  clear lP lQ lB l3 l1 lPU lQU HPQ hrows
  have HM:=Lib.hid (show KM w wc [] from ⟨HW6.out,fun x hx=>by cases hx⟩)
  go_upto_region 10 with fail
  go_cut [16] from 50 to 165 (fun v wx=>∃(G:Nat),v=.slice (some ⟨G,0,none⟩) 6 6∧Hid (SpM wx G ((spRows P Q m).map (List.map bs))∧Below w.heap.size w wx))
  case first =>
   obtain ⟨f51,g51⟩:=F51.out
   obtain ⟨f52,g52⟩:=F52.out
   obtain ⟨f54,g54⟩:=F54.out
   obtain ⟨f55,g55⟩:=F55.out
   go_wp2_with fail
   refine (CBM.out _).mono ?_
   rintro e w7 ⟨rfl,hb⟩
   have HM:=Lib.hid ((HM.out).later hb)
   clear hb f51 g51 f52 g52 f54 g54 f55 g55
   obtain ⟨f58,g58⟩:=F58.out
   obtain ⟨f60,g60⟩:=F60.out
   go_wp2_with fail
   refine (CB3.out _).mono ?_
   rintro e w8 ⟨rfl,hb⟩
   have HM:=Lib.hid ((HM.out).later hb)
   clear hb f58 g58 f60 g60
   obtain ⟨f62,g62⟩:=F62.out
   obtain ⟨f63,g63⟩:=F63.out
   go_wp2_with fail
   refine (CBM.out _).mono ?_
   rintro e w9 ⟨rfl,hb⟩
   have HM:=Lib.hid ((HM.out).later hb)
   clear hb f62 g62 f63 g63
   obtain ⟨f66,g66⟩:=F66.out
   obtain ⟨f68,g68⟩:=F68.out
   go_wp2_with fail
   refine (CB1.out _).mono ?_
   rintro e w10 ⟨rfl,hb⟩
   have HM:=Lib.hid ((HM.out).later hb)
   clear hb f66 g66 f68 g68
   obtain ⟨f70,g70⟩:=F70.out
   obtain ⟨f71,g71⟩:=F71.out
   go_wp2_with fail
   refine (CLP.out _).mono ?_
   rintro e w11 ⟨rfl,hb⟩
   have HM:=Lib.hid ((HM.out).later hb)
   clear hb f70 g70 f71 g71
   obtain ⟨f74,g74⟩:=F74.out
   obtain ⟨f75,g75⟩:=F75.out
   go_wp2_with fail
   refine (CLQ.out _).mono ?_
   rintro e w12 ⟨rfl,hb⟩
   have HM:=Lib.hid ((HM.out).later hb)
   clear hb f74 g74 f75 g75
   obtain ⟨f78,g78⟩:=F78.out
   obtain ⟨f79,g79⟩:=F79.out
   obtain ⟨f51,g51⟩:=F51.out
   obtain ⟨f83,g83⟩:=F83.out
   obtain ⟨f86,g86⟩:=F86.out
   obtain ⟨f89,g89⟩:=F89.out
   go_wp2_with fail
   refine (CBM.out _).mono ?_
   rintro e w13 ⟨rfl,hb⟩
   have HM:=Lib.hid ((HM.out.push (.cells #[.string T55,.string T71,.string T79] 9)).later hb)
   clear hb f78 g78 f79 g79 f51 g51 f83 g83 f86 g86 f89 g89
   obtain ⟨f92,g92⟩:=F92.out
   obtain ⟨f93,g93⟩:=F93.out
   obtain ⟨f51,g51⟩:=F51.out
   go_wp2_with fail
   refine (CBM.out _).mono ?_
   rintro e w14 ⟨rfl,hb⟩
   have HM:=Lib.hid ((HM.out).later hb)
   clear hb f92 g92 f93 g93 f51 g51
   obtain ⟨f98,g98⟩:=F98.out
   obtain ⟨f99,g99⟩:=F99.out
   obtain ⟨f100,g100⟩:=F100.out
   obtain ⟨f103,g103⟩:=F103.out
   obtain ⟨f104,g104⟩:=F104.out
   obtain ⟨f106,g106⟩:=F106.out
   obtain ⟨f107,g107⟩:=F107.out
   go_wp2_with fail
   refine (CBM.out _).mono ?_
   rintro e w15 ⟨rfl,hb⟩
   have HM:=Lib.hid ((HM.out.push (.cells #[.string T83,.string T86,.string T93,.string T100] 9)).later hb)
   clear hb f98 g98 f99 g99 f100 g100 f103 g103 f104 g104 f106 g106 f107 g107
   obtain ⟨f58,g58⟩:=F58.out
   obtain ⟨f111,g111⟩:=F111.out
   go_wp2_with fail
   refine (CBM.out _).mono ?_
   rintro e w16 ⟨rfl,hb⟩
   have HM:=Lib.hid ((HM.out).later hb)
   clear hb f58 g58 f111 g111
   obtain ⟨f114,g114⟩:=F114.out
   obtain ⟨f115,g115⟩:=F115.out
   obtain ⟨f117,g117⟩:=F117.out
   obtain ⟨f118,g118⟩:=F118.out
   obtain ⟨f51,g51⟩:=F51.out
   obtain ⟨f122,g122⟩:=F122.out
   go_wp2_with fail
   refine (CBM.out _).mono ?_
   rintro e w17 ⟨rfl,hb⟩
   have HM:=Lib.hid ((HM.out.push (.cells #[.string T104,.string T107,.string T118] 9)).later hb)
   clear hb f114 g114 f115 g115 f117 g117 f118 g118 f51 g51 f122 g122
   obtain ⟨f58,g58⟩:=F58.out
   obtain ⟨f60,g60⟩:=F60.out
   go_wp2_with fail
   refine (CBM.out _).mono ?_
   rintro e w18 ⟨rfl,hb⟩
   have HM:=Lib.hid ((HM.out).later hb)
   clear hb f58 g58 f60 g60
   obtain ⟨f130,g130⟩:=F130.out
   obtain ⟨f131,g131⟩:=F131.out
   obtain ⟨f51,g51⟩:=F51.out
   obtain ⟨f52,g52⟩:=F52.out
   obtain ⟨f136,g136⟩:=F136.out
   obtain ⟨f137,g137⟩:=F137.out
   go_wp2_with fail
   refine (CBM.out _).mono ?_
   rintro e w19 ⟨rfl,hb⟩
   have HM:=Lib.hid ((HM.out.push (.cells #[.string T122,.string T131,.string T137] 9)).later hb)
   clear hb f130 g130 f131 g131 f51 g51 f52 g52 f136 g136 f137 g137
   obtain ⟨f58,g58⟩:=F58.out
   obtain ⟨f142,g142⟩:=F142.out
   go_wp2_with fail
   refine (CBM.out _).mono ?_
   rintro e w20 ⟨rfl,hb⟩
   have HM:=Lib.hid ((HM.out).later hb)
   clear hb f58 g58 f142 g142
   obtain ⟨f145,g145⟩:=F145.out
   obtain ⟨f146,g146⟩:=F146.out
   go_wp2_with fail
   refine (CBM.out _).mono ?_
   rintro e w21 ⟨rfl,hb⟩
   have HM:=Lib.hid ((HM.out).later hb)
   clear hb f145 g145 f146 g146
   obtain ⟨f58,g58⟩:=F58.out
   obtain ⟨f150,g150⟩:=F150.out
   go_wp2_with fail
   refine (CBM.out _).mono ?_
   rintro e w22 ⟨rfl,hb⟩
   have HM:=Lib.hid ((HM.out.push (.cells #[.string ({ data:=#[91,93] }:ByteArray),.string T142,.string T146,.string T150] 9)).later hb)
   clear hb f58 g58 f150 g150
   obtain ⟨f58,g58⟩:=F58.out
   obtain ⟨f155,g155⟩:=F155.out
   go_wp2_with fail
   refine (CBM.out _).mono ?_
   rintro e w23 ⟨rfl,hb⟩
   have HM:=Lib.hid ((HM.out).later hb)
   clear hb f58 g58 f155 g155
   obtain ⟨f158,g158⟩:=F158.out
   obtain ⟨f159,g159⟩:=F159.out
   go_wp2_with fail
   refine (CBM.out _).mono ?_
   rintro e w24 ⟨rfl,hb⟩
   have HM:=Lib.hid ((HM.out).later hb)
   clear hb f158 g158 f159 g159
   obtain ⟨f162,g162⟩:=F162.out
   obtain ⟨f163,g163⟩:=F163.out
   go_wp2
   have HM:=Lib.hid (HM.out.push2 (.cells #[.string ({ data:=#[91,101,110,116,105,114,101,93] }:ByteArray),.string ({ data:=#[91,44,93] }:ByteArray),.string T159,.string ({ data:=#[91,45,105,110,102,44,105,110,102,93] }:ByteArray),.string T163] 9) (.cells #[.slice (some ⟨w12.heap.size,0,none⟩) 3 3,.slice (some ⟨w14.heap.size,0,none⟩) 4 4,.slice (some ⟨w16.heap.size,0,none⟩) 3 3,.slice (some ⟨w18.heap.size,0,none⟩) 3 3,.slice (some ⟨w21.heap.size,0,none⟩) 4 4,.slice (some ⟨w24.heap.size,0,none⟩) 5 5] 30))
   go_meet
   case rel =>
    refine ⟨w24.heap.size+1,by first | rfl | simp,Lib.hid ⟨?_,HM.out.below⟩⟩
    have HT:=HT.out
    obtain ⟨rfl,rfl,rfl,rfl,rfl,rfl,rfl,rfl,rfl,rfl,rfl,rfl,rfl,rfl,rfl,rfl,rfl,rfl,rfl,rfl,rfl,rfl,rfl,rfl,rfl,rfl,rfl,rfl,rfl,rfl,rfl,rfl,rfl,rfl,rfl,rfl,rfl,rfl,rfl,rfl,rfl,rfl,rfl,rfl,rfl,rfl,rfl,rfl,rfl,rfl,rfl,rfl,rfl,rfl⟩:=HT
    exact sp_rel HM.out
  case rest =>
   obtain ⟨G,rfl,HC⟩:=hcut
   clear F51 F52 F54 F55 F58 F60 F62 F63 F66 F68 F70 F71 F74 F75 F78 F79 F83 F86 F89 F92 F93 F98 F99 F100 F103 F104 F106 F107 F111 F114 F115 F117 F118 F122 F130 F131 F136 F137 F142 F145 F146 F150 F155 F158 F159 F162 F163 HT HM CBM CB3 CB1 CLP CLQ HW6
   obtain ⟨rows,hrw⟩:∃r,spRows P Q m=r:=⟨_,rfl⟩
   have hlen:rows.length=6:=by rw [←hrw];rfl
   rw [hrw] at HROWS HC
   have HLEN:=Lib.hid hlen
   clear hlen hrw
   go_wp2
   go_loopw [17] (fun iv wr=>∃i:Nat,i≤6∧iv=.int .i64 (i:Int)∧Hid (SpM wr G (rows.map (List.map bs))∧Below w.heap.size w wr)) (fun iv _=>6 - (intOf iv).toNat)
   case atStart=>exact ⟨0,by omega,rfl,HC⟩
   case round =>
    obtain ⟨i,hi,rfl,hI⟩:=hrel
    by_cases hlt:i<6
    ·have hltI:(i:Int)<6:=by omega
     obtain ⟨row,hrow⟩:∃row,rows[i]?=some row:=⟨_,List.getElem?_eq_getElem (by rw [HLEN.out];exact hlt)⟩
     obtain ⟨r0,r5,u1,u2,⟨va,vb,vv⟩,hall⟩:=HROWS.out row (List.mem_of_getElem? hrow)
     have hrowb:(rows.map (List.map bs))[i]?=some (row.map bs):=by rw [List.getElem?_map,hrow];rfl
     obtain ⟨g,hg,hc1,hcs⟩:=hI.out.1.2 i _ hrowb
     obtain ⟨t0,ht0⟩:∃t,row[0]?=some t:=⟨_,List.getElem?_eq_getElem r0⟩
     have hc2:=hcs 0 (bs t0) (by rw [List.getElem?_map,ht0];rfl)
     have HRD:=Lib.hid (fun t (h:t∈row) W=>row_read (hall t h) W)
     have HRD0:=Lib.hid (fun W=>row_read (hall t0 (List.mem_of_getElem? ht0)) W)
     have HRB:=Lib.hid hrowb
     have HV:=Lib.hid (fun W=>valid6L_any u1 u2 va vb W)
     rw [vv] at HV
     have HO:=Lib.hid (fun W=>out12L_any u1 u2 W)
     rw [List.length_map] at hc1
     obtain ⟨k,hk⟩:∃k,row.length=k:=⟨_,rfl⟩
     rw [hk] at hc1 r0 r5
     have HK:=Lib.hid hk
     generalize bs t0=T0 at *
     have HNE:Hid (∀W:World,(binOp BinOp.neq 41 (.agg #[.int .u64 (u1:Int),.int .u64 (u2:Int)]) (.agg #[.int .u64 (u1:Int),.int .u64 (u2:Int)])).run Tryz.prog W=.ok (.bool false) W):=Lib.hid (by
      intro W;rw [neqI];simp)
     clear hall vv va vb hrow hrowb ht0 hk hcs hg
     go_wp2_with fail
     refine (HRD0.out _).mono ?_
     rintro e w1 ⟨v1,rfl,rfl,hb⟩
     have HS1:=Lib.hid ((hI.out.1.later hb).later (rnew w1 (ivO u1 u2)))
     have HX:=Lib.hid (((KM.mk (L:=[]) hI.out.2 (fun x hx=>by cases hx)).later hb).push (ivO u1 u2))
     clear hb hc1 hc2
     obtain ⟨c0,c1⟩:=ivO_cells (HX.out.get (b:=w1.heap.size) (o:=ivO u1 u2) (by simp))
     go_wp2_with fail
     refine (HO.out _).mono ?_
     rintro e w2 ⟨rfl,hb⟩
     have HS1:=Lib.hid (HS1.out.later hb)
     have HX:=Lib.hid (HX.out.later hb)
     clear hb c0 c1
     go_wp2_with fail
     refine (HV.out _).mono ?_
     rintro e w3 ⟨rfl,hb⟩
     have HS1:=Lib.hid (HS1.out.later hb)
     have HX:=Lib.hid (HX.out.later hb)
     clear hb
     obtain ⟨BX,hBX⟩:∃BX,w1.heap.size=BX:=⟨_,rfl⟩
     rw [hBX] at HX ⊢
     clear hBX
     go_wp2
     go_loopw [21] (fun jv wr2=>∃j:Nat,1≤j∧j≤k∧jv=.int .i64 (j:Int)∧Hid (SpM wr2 G (rows.map (List.map bs))∧wr2.heap[BX]?=some (ivO u1 u2)∧Below w.heap.size w wr2)) (fun jv _=>k - (intOf jv).toNat)
     case atStart=>exact ⟨1,by omega,by omega,rfl,Lib.hid ⟨HS1.out,HX.out.get (b:=BX) (o:=ivO u1 u2) (by simp),HX.out.below⟩⟩
     case round =>
      clear HS1 HX hI
      obtain ⟨j,hj1,hj,rfl,hJ⟩:=hrel
      obtain ⟨g,hg,hc1,hcs⟩:=hJ.out.1.2 i _ HRB.out
      rw [List.length_map,HK.out] at hc1
      by_cases hjl:j<k
      ·have hjI:(j:Int)<(k:Int):=by omega
       obtain ⟨t,ht⟩:∃t,row[j]?=some t:=⟨_,List.getElem?_eq_getElem (by rw [HK.out];exact hjl)⟩
       have hc2:=hcs j (bs t) (by rw [List.getElem?_map,ht];rfl)
       have HRT:=Lib.hid (fun W=>HRD.out t (List.mem_of_getElem? ht) W)
       generalize bs t=TT at *
       clear ht hcs hg
       go_wp2_with fail
       refine (HRT.out _).mono ?_
       rintro e w3 ⟨v3,rfl,rfl,hb⟩
       have HS3:=Lib.hid ((hJ.out.1.later hb).later (rnew w3 (ivO u1 u2)))
       have HX:=Lib.hid (((KM.mk (L:=[(BX,ivO u1 u2)]) hJ.out.2.2 (fun x hx=>by rw [List.mem_singleton] at hx;rw [hx];exact hJ.out.2.1)).later hb).push (ivO u1 u2))
       clear hb hc1 hc2
       go_upto_region 21 with fail
       refine region_at 13 (Pick [IsV (.agg #[.float .f64 u1,.float .f64 u2]),IsV (.agg #[.int .u64 (u1:Int),.int .u64 (u2:Int)]),IsV (.agg #[.float .f64 u1,.float .f64 u2]),IsV (.agg #[.int .u64 (u1:Int),.int .u64 (u2:Int)]),IsV (.bool false),IsV (.bool false),IsV (.int .i64 0),IsV (.bool false),IsV (.bool false),IsV (.bool false),IsV (.int .i64 0),IsV (.bool false),IsV (.bool false)]) (by kernel_rfl) (by kernel_rfl) (by kernel_rfl) (mono_pick ⟨IsV.mono _,IsV.mono _,IsV.mono _,IsV.mono _,IsV.mono _,IsV.mono _,IsV.mono _,IsV.mono _,IsV.mono _,IsV.mono _,IsV.mono _,IsV.mono _,IsV.mono _,trivial⟩) ⟨?_,?_,?_,?_,?_,?_,?_,?_,?_,?_,?_,?_,?_,trivial⟩ ?_
       ·intro a W hsz hb hS
        have h18:a.tmps.getD 18 undef=.pointer (some ⟨BX,0,none⟩):=hS.1
        clear hS hsz
        refine will_of rfl ?_
        have HM':=HX.out.later hb
        obtain ⟨c0,c1⟩:=ivO_cells (HM'.get (b:=BX) (o:=ivO u1 u2) (by simp))
        obtain ⟨d0,d1⟩:=ivO_cells (HM'.get (b:=w3.heap.size) (o:=ivO u1 u2) (by simp))
        intro K hK
        go_simp
        exact hK _ _ ⟨Below.refl _ _,rfl⟩
       ·intro a W hsz hb hS
        have h216:a.tmps.getD 216 undef=.agg #[.float .f64 u1,.float .f64 u2]:=hS.1
        clear hS hsz
        refine will_of rfl ?_
        have HM':=HX.out.later hb
        obtain ⟨c0,c1⟩:=ivO_cells (HM'.get (b:=BX) (o:=ivO u1 u2) (by simp))
        obtain ⟨d0,d1⟩:=ivO_cells (HM'.get (b:=w3.heap.size) (o:=ivO u1 u2) (by simp))
        intro K hK
        go_simp
        refine (HO.out _).mono ?_
        rintro e W' ⟨rfl,hb'⟩
        exact hK _ _ ⟨hb',rfl⟩
       ·intro a W hsz hb hS
        have h22:a.tmps.getD 22 undef=.pointer (some ⟨w3.heap.size,0,none⟩):=hS.1
        clear hS hsz
        refine will_of rfl ?_
        have HM':=HX.out.later hb
        obtain ⟨c0,c1⟩:=ivO_cells (HM'.get (b:=BX) (o:=ivO u1 u2) (by simp))
        obtain ⟨d0,d1⟩:=ivO_cells (HM'.get (b:=w3.heap.size) (o:=ivO u1 u2) (by simp))
        intro K hK
        go_simp
        exact hK _ _ ⟨Below.refl _ _,rfl⟩
       ·intro a W hsz hb hS
        have h218:a.tmps.getD 218 undef=.agg #[.float .f64 u1,.float .f64 u2]:=hS.1
        clear hS hsz
        refine will_of rfl ?_
        have HM':=HX.out.later hb
        obtain ⟨c0,c1⟩:=ivO_cells (HM'.get (b:=BX) (o:=ivO u1 u2) (by simp))
        obtain ⟨d0,d1⟩:=ivO_cells (HM'.get (b:=w3.heap.size) (o:=ivO u1 u2) (by simp))
        intro K hK
        go_simp
        refine (HO.out _).mono ?_
        rintro e W' ⟨rfl,hb'⟩
        exact hK _ _ ⟨hb',rfl⟩
       ·intro a W hsz hb hS
        have h217:a.tmps.getD 217 undef=.agg #[.int .u64 (u1:Int),.int .u64 (u2:Int)]:=hS.1
        have h219:a.tmps.getD 219 undef=.agg #[.int .u64 (u1:Int),.int .u64 (u2:Int)]:=hS.2.1
        clear hS hsz
        refine will_of rfl ?_
        intro K hK
        go_simp
        first | exact hK _ _ ⟨Below.refl _ _,rfl⟩ | (rw [HNE.out];exact hK _ _ ⟨Below.refl _ _,rfl⟩)
       ·intro a W hsz hb hS
        have h220:a.tmps.getD 220 undef=.bool false:=hS.1
        clear hS hsz
        refine will_of rfl ?_
        intro K hK
        go_simp
        exact hK _ _ ⟨Below.refl _ _,rfl⟩
       ·intro a W hsz hb hS
        have h23:a.tmps.getD 23 undef=.int .i64 0:=hS.1
        have h221:a.tmps.getD 221 undef=.bool false:=hS.2.1
        clear hS hsz
        refine will_yes rfl rfl h221 ?_
        intro K hK
        go_simp
        exact hK _ _ ⟨Below.refl _ _,rfl⟩
       ·intro a W hsz hb hS
        have h222:a.tmps.getD 222 undef=.int .i64 0:=hS.1
        have h221:a.tmps.getD 221 undef=.bool false:=hS.2.1
        clear hS hsz
        refine will_yes rfl rfl h221 ?_
        intro K hK
        go_simp
        exact hK _ _ ⟨Below.refl _ _,rfl⟩
       ·intro a W hsz hb hS
        have h221:a.tmps.getD 221 undef=.bool false:=hS.1
        have h223:a.tmps.getD 223 undef=.bool false:=hS.2.1
        clear hS hsz
        refine will_of rfl ?_
        intro K hK
        go_simp
        exact hK _ _ ⟨Below.refl _ _,rfl⟩
       ·intro a W hsz hb hS
        have h224:a.tmps.getD 224 undef=.bool false:=hS.1
        clear hS hsz
        refine will_of rfl ?_
        intro K hK
        go_simp
        exact hK _ _ ⟨Below.refl _ _,rfl⟩
       ·intro a W hsz hb hS
        have h24:a.tmps.getD 24 undef=.int .i64 0:=hS.1
        have h225:a.tmps.getD 225 undef=.bool false:=hS.2.1
        clear hS hsz
        refine will_yes rfl rfl h225 ?_
        intro K hK
        go_simp
        exact hK _ _ ⟨Below.refl _ _,rfl⟩
       ·intro a W hsz hb hS
        have h226:a.tmps.getD 226 undef=.int .i64 0:=hS.1
        have h225:a.tmps.getD 225 undef=.bool false:=hS.2.1
        clear hS hsz
        refine will_yes rfl rfl h225 ?_
        intro K hK
        go_simp
        exact hK _ _ ⟨Below.refl _ _,rfl⟩
       ·intro a W hsz hb hS
        have h225:a.tmps.getD 225 undef=.bool false:=hS.1
        have h227:a.tmps.getD 227 undef=.bool false:=hS.2.1
        clear hS hsz
        refine will_of rfl ?_
        intro K hK
        go_simp
        exact hK _ _ ⟨Below.refl _ _,rfl⟩
       intro f W hb hH
       have e0:f 0=.agg #[.float .f64 u1,.float .f64 u2]:=hH.1
       have e1:f 1=.agg #[.int .u64 (u1:Int),.int .u64 (u2:Int)]:=hH.2.1
       have e2:f 2=.agg #[.float .f64 u1,.float .f64 u2]:=hH.2.2.1
       have e3:f 3=.agg #[.int .u64 (u1:Int),.int .u64 (u2:Int)]:=hH.2.2.2.1
       have e4:f 4=.bool false:=hH.2.2.2.2.1
       have e5:f 5=.bool false:=hH.2.2.2.2.2.1
       have e6:f 6=.int .i64 0:=hH.2.2.2.2.2.2.1
       have e7:f 7=.bool false:=hH.2.2.2.2.2.2.2.1
       have e8:f 8=.bool false:=hH.2.2.2.2.2.2.2.2.1
       have e9:f 9=.bool false:=hH.2.2.2.2.2.2.2.2.2.1
       have e10:f 10=.int .i64 0:=hH.2.2.2.2.2.2.2.2.2.2.1
       have e11:f 11=.bool false:=hH.2.2.2.2.2.2.2.2.2.2.2.1
       have e12:f 12=.bool false:=hH.2.2.2.2.2.2.2.2.2.2.2.2.1
       simp only [List.take_succ_cons,List.take_zero,List.drop_succ_cons,List.drop_zero,putFrom,Act.put,List.setIfInBounds_toArray,List.set_cons_zero,List.set_cons_succ,Nat.reduceAdd,e0,e1,e2,e3,e4,e5,e6,e7,e8,e9,e10,e11,e12]
       clear e0 e1 e2 e3 e4 e5 e6 e7 e8 e9 e10 e11 e12 hH f
       have HY:=Lib.hid (HX.out.later hb)
       have HSY:=Lib.hid (HS3.out.later hb)
       clear hb
       go_wp2
       go_roundw
       case rel=>exact ⟨j+1,by omega,by omega,by go_num,Lib.hid ⟨HSY.out,HY.out.get (b:=BX) (o:=ivO u1 u2) (by simp),HY.out.below⟩⟩
       case measure=>simp [intOf];omega
      ·obtain rfl:j=k:=by omega
       go_wp2
       go_roundw
       case rel=>exact ⟨i+1,by omega,by go_num,Lib.hid ⟨hJ.out.1,hJ.out.2.2⟩⟩
       case measure=>simp [intOf];omega
    ·obtain rfl:i=6:=by omega
     have hI2:=hI
     go_wp2_with fail
     refine (HLV.out _ (HPP.out.below hI.out.2)).mono ?_
     rintro e w1 ⟨rfl,hb⟩
     have HF:=Lib.hid (raft hI.out.2 hb)
     clear hb
     go_wp2
     go_ret
     exact ⟨rfl,HF.out⟩
end Go.Proofs.YtigmpifjcijdbaaGreatDoor
