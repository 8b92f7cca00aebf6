/- Layer 12: LitOutward answers true. -/
import Derived.Test.YtlibbociineppaaGreatDoorG46
namespace Go.Proofs.YtlibbociineppaaGreatDoor
set_option linter.unusedVariables false
set_option linter.unusedSimpArgs false
open Go.RowKit Verge Verge.Lit
theorem will_undef {P:Program} {ops:Array Oper} {o:Oper} {a:Act} {w:World} {C:Value→World→Prop} {g:Nat} {b:Bool} {d:Tmp} (hg:o.guard=some (g,b)) (hd:(ops[g]?).bind (·.dst)=some d) (hv:a.tmps.getD d undef=undef) (h:C undef w):Will P ops o a w C:=by
 unfold Will
 rw [Array.getD_eq_getD_getElem?] at hv
 have hy:yielded ops a.tmps g=none:=by
  unfold yielded
  rw [hd]
  cases he:a.tmps[d]? with
  | none=>simp [he]
  | some x =>
   rw [he] at hv
   simp only [Option.getD_some] at hv
   subst hv
   simp [he,undef]
 rw [if_neg (by simp [Region.wanted,hg,hy])];exact h
set_option maxRecDepth 100000 in
set_option maxHeartbeats 8000000 in
theorem within12_any {p q:Nat×Nat} (h:FIn p q) (w:World):Calls Tryz.prog 8 #[.agg #[.float .f64 p.1,.float .f64 p.2],.agg #[.float .f64 q.1,.float .f64 q.2]] w fun e w'=>e=.returned (.bool true)∧Below w.heap.size w w':=by
 obtain ⟨p1,p2⟩:=p
 obtain ⟨q1,q2⟩:=q
 obtain ⟨l1,l2,l3,l4,v1,v2,hc⟩:=h
 dsimp only at *
 have HV1:=Lib.hid (fun W=>valid6L_any p1 p2 l1 l2 W)
 have HV2:=Lib.hid (fun W=>valid6L_any q1 q2 l3 l4 W)
 rw [v1] at HV1
 rw [v2] at HV2
 have HO1:=Lib.hid (fun W=>out12L_any p1 p2 W)
 have HO2:=Lib.hid (fun W=>out12L_any q1 q2 W)
 have HE:=Lib.hid (fun W=>empty6_any W)
 have HA1:=Lib.hid (fun W=>above_any q1 p1 l3 l1 W)
 have HA2:=Lib.hid (fun W=>above_any p2 q2 l2 l4 W)
 have HM:=Lib.hid (show KM w ((w.alloc (ivO p1 p2)).alloc (ivO q1 q2)) [(w.heap.size+1,ivO q1 q2),(w.heap.size,ivO p1 p2)] from by simpa using ((KM.new w).push (ivO p1 p2)).push (ivO q1 q2))
 have HC:=Lib.hid hc
 clear l1 l2 l3 l4 v1 v2 hc
 go_enter Tryz.func8,Tryz.ntmps8
 obtain ⟨c0,c1⟩:=ivO_cells (HM.out.get (b:=w.heap.size) (o:=ivO p1 p2) (by simp))
 go_wp2_with fail
 refine (HO1.out _).mono ?_
 rintro e w1 ⟨rfl,hb⟩
 have HM:=Lib.hid ((HM.out.later hb).push (iO p1 p2))
 clear hb c0 c1
 obtain ⟨c0,c1⟩:=ivO_cells (HM.out.get (b:=w.heap.size+1) (o:=ivO q1 q2) (by simp))
 go_wp2_with fail
 refine (HO2.out _).mono ?_
 rintro e w2 ⟨rfl,hb⟩
 have HM:=Lib.hid ((HM.out.later hb).push (iO q1 q2))
 clear hb c0 c1
 obtain ⟨c0,c1⟩:=iO_cells (HM.out.get (b:=w1.heap.size) (o:=iO p1 p2) (by simp))
 go_wp2_with fail
 refine (HV1.out _).mono ?_
 rintro e w3 ⟨rfl,hb⟩
 have HM:=Lib.hid (HM.out.later hb)
 clear hb c0 c1
 obtain ⟨c0,c1⟩:=iO_cells (HM.out.get (b:=w2.heap.size) (o:=iO q1 q2) (by simp))
 go_wp2_with fail
 refine (HV2.out _).mono ?_
 rintro e w4 ⟨rfl,hb⟩
 have HM:=Lib.hid (HM.out.later hb)
 clear hb c0 c1
 rcases HC.out with ⟨rfl,rfl⟩ | ⟨n1,n2,a1,a2⟩
 ·have heq:∀W:World,(binOp BinOp.eql 24 (.agg #[.int .u64 9218868437227405312,.int .u64 18442240474082181120]) (.agg #[.int .u64 9218868437227405312,.int .u64 18442240474082181120])).run Tryz.prog W=.ok (.bool true) W:=by
   intro W;rw [eqlI];simp
  go_upto_region 5 with fail
  refine region_at 25 (Pick [IsV (.agg #[.int .u64 9218868437227405312,.int .u64 18442240474082181120]),IsV (.agg #[.int .u64 9218868437227405312,.int .u64 18442240474082181120]),IsV (.bool true),IsV (.bool true),IsV (undef),IsV (undef),IsV (undef),IsV (undef),IsV (undef),IsV (undef),IsV (undef),IsV (undef),IsV (undef),IsV (undef),IsV (undef),IsV (undef),IsV (undef),IsV (undef),IsV (undef),IsV (undef),IsV (undef),IsV (undef),IsV (undef),IsV (.bool true),IsV (.bool true)]) (by kernel_rfl) (by kernel_rfl) (by kernel_rfl) (mono_pick ⟨IsV.mono _,IsV.mono _,IsV.mono _,IsV.mono _,IsV.mono _,IsV.mono _,IsV.mono _,IsV.mono _,IsV.mono _,IsV.mono _,IsV.mono _,IsV.mono _,IsV.mono _,IsV.mono _,IsV.mono _,IsV.mono _,IsV.mono _,IsV.mono _,IsV.mono _,IsV.mono _,IsV.mono _,IsV.mono _,IsV.mono _,IsV.mono _,IsV.mono _,trivial⟩) ⟨?_,?_,?_,?_,?_,?_,?_,?_,?_,?_,?_,?_,?_,?_,?_,?_,?_,?_,?_,?_,?_,?_,?_,?_,?_,trivial⟩ ?_
  ·intro a W hsz hb hS
   have h5:a.tmps.getD 5 undef=.pointer (some ⟨w1.heap.size,0,none⟩):=hS.1
   clear hS hsz
   refine will_of rfl ?_
   have HM':=HM.out.later hb
   obtain ⟨c0,c1⟩:=iO_cells (HM'.get (b:=w1.heap.size) (o:=iO 9218868437227405312 18442240474082181120) (by simp))
   obtain ⟨d0,d1⟩:=iO_cells (HM'.get (b:=w2.heap.size) (o:=iO q1 q2) (by simp))
   intro K hK
   go_simp
   exact hK _ _ ⟨Below.refl _ _,rfl⟩
  ·intro a W hsz hb hS
   clear hS hsz
   refine will_of rfl ?_
   have HM':=HM.out.later hb
   obtain ⟨c0,c1⟩:=iO_cells (HM'.get (b:=w1.heap.size) (o:=iO 9218868437227405312 18442240474082181120) (by simp))
   obtain ⟨d0,d1⟩:=iO_cells (HM'.get (b:=w2.heap.size) (o:=iO q1 q2) (by simp))
   intro K hK
   go_simp
   refine (HE.out _).mono ?_
   rintro e W' ⟨rfl,hb'⟩
   exact hK _ _ ⟨hb',rfl⟩
  ·intro a W hsz hb hS
   have h19:a.tmps.getD 19 undef=.agg #[.int .u64 9218868437227405312,.int .u64 18442240474082181120]:=hS.1
   have h20:a.tmps.getD 20 undef=.agg #[.int .u64 9218868437227405312,.int .u64 18442240474082181120]:=hS.2.1
   clear hS hsz
   refine will_of rfl ?_
   intro K hK
   go_simp
   first | exact hK _ _ ⟨Below.refl _ _,rfl⟩ | (rw [heq];exact hK _ _ ⟨Below.refl _ _,rfl⟩)
  ·intro a W hsz hb hS
   have h21:a.tmps.getD 21 undef=.bool true:=hS.1
   clear hS hsz
   refine will_of rfl ?_
   intro K hK
   go_simp
   exact hK _ _ ⟨Below.refl _ _,rfl⟩
  ·intro a W hsz hb hS
   have h6:a.tmps.getD 6 undef=.pointer (some ⟨w2.heap.size,0,none⟩):=hS.1
   have h22:a.tmps.getD 22 undef=.bool true:=hS.2.1
   clear hS hsz
   exact will_no rfl rfl h22 ⟨Below.refl _ _,rfl⟩
  ·intro a W hsz hb hS
   have h22:a.tmps.getD 22 undef=.bool true:=hS.1
   clear hS hsz
   exact will_no rfl rfl h22 ⟨Below.refl _ _,rfl⟩
  ·intro a W hsz hb hS
   have h23:a.tmps.getD 23 undef=undef:=hS.1
   have h24:a.tmps.getD 24 undef=undef:=hS.2.1
   have h22:a.tmps.getD 22 undef=.bool true:=hS.2.2.1
   clear hS hsz
   exact will_no rfl rfl h22 ⟨Below.refl _ _,rfl⟩
  ·intro a W hsz hb hS
   have h25:a.tmps.getD 25 undef=undef:=hS.1
   have h22:a.tmps.getD 22 undef=.bool true:=hS.2.1
   clear hS hsz
   exact will_no rfl rfl h22 ⟨Below.refl _ _,rfl⟩
  ·intro a W hsz hb hS
   have h6:a.tmps.getD 6 undef=.pointer (some ⟨w2.heap.size,0,none⟩):=hS.1
   have h26:a.tmps.getD 26 undef=undef:=hS.2.1
   clear hS hsz
   exact will_undef rfl rfl h26 ⟨Below.refl _ _,rfl⟩
  ·intro a W hsz hb hS
   have h27:a.tmps.getD 27 undef=undef:=hS.1
   have h26:a.tmps.getD 26 undef=undef:=hS.2.1
   clear hS hsz
   exact will_undef rfl rfl h26 ⟨Below.refl _ _,rfl⟩
  ·intro a W hsz hb hS
   have h5:a.tmps.getD 5 undef=.pointer (some ⟨w1.heap.size,0,none⟩):=hS.1
   have h26:a.tmps.getD 26 undef=undef:=hS.2.1
   clear hS hsz
   exact will_undef rfl rfl h26 ⟨Below.refl _ _,rfl⟩
  ·intro a W hsz hb hS
   have h29:a.tmps.getD 29 undef=undef:=hS.1
   have h26:a.tmps.getD 26 undef=undef:=hS.2.1
   clear hS hsz
   exact will_undef rfl rfl h26 ⟨Below.refl _ _,rfl⟩
  ·intro a W hsz hb hS
   have h28:a.tmps.getD 28 undef=undef:=hS.1
   have h30:a.tmps.getD 30 undef=undef:=hS.2.1
   have h26:a.tmps.getD 26 undef=undef:=hS.2.2.1
   clear hS hsz
   exact will_undef rfl rfl h26 ⟨Below.refl _ _,rfl⟩
  ·intro a W hsz hb hS
   have h31:a.tmps.getD 31 undef=undef:=hS.1
   have h26:a.tmps.getD 26 undef=undef:=hS.2.1
   clear hS hsz
   exact will_undef rfl rfl h26 ⟨Below.refl _ _,rfl⟩
  ·intro a W hsz hb hS
   have h26:a.tmps.getD 26 undef=undef:=hS.1
   have h32:a.tmps.getD 32 undef=undef:=hS.2.1
   have h22:a.tmps.getD 22 undef=.bool true:=hS.2.2.1
   clear hS hsz
   exact will_no rfl rfl h22 ⟨Below.refl _ _,rfl⟩
  ·intro a W hsz hb hS
   have h33:a.tmps.getD 33 undef=undef:=hS.1
   have h22:a.tmps.getD 22 undef=.bool true:=hS.2.1
   clear hS hsz
   exact will_no rfl rfl h22 ⟨Below.refl _ _,rfl⟩
  ·intro a W hsz hb hS
   have h5:a.tmps.getD 5 undef=.pointer (some ⟨w1.heap.size,0,none⟩):=hS.1
   have h34:a.tmps.getD 34 undef=undef:=hS.2.1
   clear hS hsz
   exact will_undef rfl rfl h34 ⟨Below.refl _ _,rfl⟩
  ·intro a W hsz hb hS
   have h35:a.tmps.getD 35 undef=undef:=hS.1
   have h34:a.tmps.getD 34 undef=undef:=hS.2.1
   clear hS hsz
   exact will_undef rfl rfl h34 ⟨Below.refl _ _,rfl⟩
  ·intro a W hsz hb hS
   have h6:a.tmps.getD 6 undef=.pointer (some ⟨w2.heap.size,0,none⟩):=hS.1
   have h34:a.tmps.getD 34 undef=undef:=hS.2.1
   clear hS hsz
   exact will_undef rfl rfl h34 ⟨Below.refl _ _,rfl⟩
  ·intro a W hsz hb hS
   have h37:a.tmps.getD 37 undef=undef:=hS.1
   have h34:a.tmps.getD 34 undef=undef:=hS.2.1
   clear hS hsz
   exact will_undef rfl rfl h34 ⟨Below.refl _ _,rfl⟩
  ·intro a W hsz hb hS
   have h36:a.tmps.getD 36 undef=undef:=hS.1
   have h38:a.tmps.getD 38 undef=undef:=hS.2.1
   have h34:a.tmps.getD 34 undef=undef:=hS.2.2.1
   clear hS hsz
   exact will_undef rfl rfl h34 ⟨Below.refl _ _,rfl⟩
  ·intro a W hsz hb hS
   have h39:a.tmps.getD 39 undef=undef:=hS.1
   have h34:a.tmps.getD 34 undef=undef:=hS.2.1
   clear hS hsz
   exact will_undef rfl rfl h34 ⟨Below.refl _ _,rfl⟩
  ·intro a W hsz hb hS
   have h34:a.tmps.getD 34 undef=undef:=hS.1
   have h40:a.tmps.getD 40 undef=undef:=hS.2.1
   have h22:a.tmps.getD 22 undef=.bool true:=hS.2.2.1
   clear hS hsz
   exact will_no rfl rfl h22 ⟨Below.refl _ _,rfl⟩
  ·intro a W hsz hb hS
   have h22:a.tmps.getD 22 undef=.bool true:=hS.1
   have h41:a.tmps.getD 41 undef=undef:=hS.2.1
   clear hS hsz
   refine will_of rfl ?_
   intro K hK
   go_simp
   exact hK _ _ ⟨Below.refl _ _,rfl⟩
  ·intro a W hsz hb hS
   have h42:a.tmps.getD 42 undef=.bool true:=hS.1
   clear hS hsz
   refine will_of rfl ?_
   intro K hK
   go_simp
   exact hK _ _ ⟨Below.refl _ _,rfl⟩
  intro f W hb hH
  have e0:f 0=.agg #[.int .u64 9218868437227405312,.int .u64 18442240474082181120]:=hH.1
  have e1:f 1=.agg #[.int .u64 9218868437227405312,.int .u64 18442240474082181120]:=hH.2.1
  have e2:f 2=.bool true:=hH.2.2.1
  have e3:f 3=.bool true:=hH.2.2.2.1
  have e4:f 4=undef:=hH.2.2.2.2.1
  have e5:f 5=undef:=hH.2.2.2.2.2.1
  have e6:f 6=undef:=hH.2.2.2.2.2.2.1
  have e7:f 7=undef:=hH.2.2.2.2.2.2.2.1
  have e8:f 8=undef:=hH.2.2.2.2.2.2.2.2.1
  have e9:f 9=undef:=hH.2.2.2.2.2.2.2.2.2.1
  have e10:f 10=undef:=hH.2.2.2.2.2.2.2.2.2.2.1
  have e11:f 11=undef:=hH.2.2.2.2.2.2.2.2.2.2.2.1
  have e12:f 12=undef:=hH.2.2.2.2.2.2.2.2.2.2.2.2.1
  have e13:f 13=undef:=hH.2.2.2.2.2.2.2.2.2.2.2.2.2.1
  have e14:f 14=undef:=hH.2.2.2.2.2.2.2.2.2.2.2.2.2.2.1
  have e15:f 15=undef:=hH.2.2.2.2.2.2.2.2.2.2.2.2.2.2.2.1
  have e16:f 16=undef:=hH.2.2.2.2.2.2.2.2.2.2.2.2.2.2.2.2.1
  have e17:f 17=undef:=hH.2.2.2.2.2.2.2.2.2.2.2.2.2.2.2.2.2.1
  have e18:f 18=undef:=hH.2.2.2.2.2.2.2.2.2.2.2.2.2.2.2.2.2.2.1
  have e19:f 19=undef:=hH.2.2.2.2.2.2.2.2.2.2.2.2.2.2.2.2.2.2.2.1
  have e20:f 20=undef:=hH.2.2.2.2.2.2.2.2.2.2.2.2.2.2.2.2.2.2.2.2.1
  have e21:f 21=undef:=hH.2.2.2.2.2.2.2.2.2.2.2.2.2.2.2.2.2.2.2.2.2.1
  have e22:f 22=undef:=hH.2.2.2.2.2.2.2.2.2.2.2.2.2.2.2.2.2.2.2.2.2.2.1
  have e23:f 23=.bool true:=hH.2.2.2.2.2.2.2.2.2.2.2.2.2.2.2.2.2.2.2.2.2.2.2.1
  have e24:f 24=.bool true:=hH.2.2.2.2.2.2.2.2.2.2.2.2.2.2.2.2.2.2.2.2.2.2.2.2.1
  simp only [List.take_succ_cons,List.take_zero,List.drop_succ_cons,List.drop_zero,putFrom,Act.put,List.setIfInBounds_toArray,List.set_cons_zero,List.set_cons_succ,Nat.reduceAdd,e0,e1,e2,e3,e4,e5,e6,e7,e8,e9,e10,e11,e12,e13,e14,e15,e16,e17,e18,e19,e20,e21,e22,e23,e24]
  clear e0 e1 e2 e3 e4 e5 e6 e7 e8 e9 e10 e11 e12 e13 e14 e15 e16 e17 e18 e19 e20 e21 e22 e23 e24 hH f
  have HW:=Lib.hid (HM.out.later hb).below
  clear hb
  go_wp2
  go_ret
  exact ⟨rfl,HW.out⟩
 ·have heq:∀W:World,(binOp BinOp.eql 24 (.agg #[.int .u64 (p1:Int),.int .u64 (p2:Int)]) (.agg #[.int .u64 9218868437227405312,.int .u64 18442240474082181120])).run Tryz.prog W=.ok (.bool false) W:=by
   intro W;rw [eqlI]
   have:(((p1:Int)==9218868437227405312)&&((p2:Int)==18442240474082181120))=false:=by
    rw [Bool.eq_false_iff];simp;omega
   rw [this]
  have hne:∀W:World,(binOp BinOp.neq 24 (.agg #[.int .u64 (q1:Int),.int .u64 (q2:Int)]) (.agg #[.int .u64 9218868437227405312,.int .u64 18442240474082181120])).run Tryz.prog W=.ok (.bool true) W:=by
   intro W;rw [neqI]
   have:(((q1:Int)==9218868437227405312)&&((q2:Int)==18442240474082181120))=false:=by
    rw [Bool.eq_false_iff];simp;omega
   rw [this];rfl
  have HA1:=HA1
  have HA2:=HA2
  rw [a1] at HA1
  rw [a2] at HA2
  clear n1 n2 a1 a2 HC
  go_upto_region 5 with fail
  refine region_at 25 (Pick [IsV (.agg #[.int .u64 (p1:Int),.int .u64 (p2:Int)]),IsV (.agg #[.int .u64 9218868437227405312,.int .u64 18442240474082181120]),IsV (.bool false),IsV (.bool false),IsV (.agg #[.int .u64 (q1:Int),.int .u64 (q2:Int)]),IsV (.agg #[.int .u64 9218868437227405312,.int .u64 18442240474082181120]),IsV (.bool true),IsV (.bool true),IsV (.pointer (some ⟨w2.heap.size,0,none⟩)),IsV (.int .u64 (q1:Int)),IsV (.pointer (some ⟨w1.heap.size,0,none⟩)),IsV (.int .u64 (p1:Int)),IsV (.bool false),IsV (.bool true),IsV (.bool true),IsV (.bool true),IsV (.pointer (some ⟨w1.heap.size,1,none⟩)),IsV (.int .u64 (p2:Int)),IsV (.pointer (some ⟨w2.heap.size,1,none⟩)),IsV (.int .u64 (q2:Int)),IsV (.bool false),IsV (.bool true),IsV (.bool true),IsV (.bool true),IsV (.bool true)]) (by kernel_rfl) (by kernel_rfl) (by kernel_rfl) (mono_pick ⟨IsV.mono _,IsV.mono _,IsV.mono _,IsV.mono _,IsV.mono _,IsV.mono _,IsV.mono _,IsV.mono _,IsV.mono _,IsV.mono _,IsV.mono _,IsV.mono _,IsV.mono _,IsV.mono _,IsV.mono _,IsV.mono _,IsV.mono _,IsV.mono _,IsV.mono _,IsV.mono _,IsV.mono _,IsV.mono _,IsV.mono _,IsV.mono _,IsV.mono _,trivial⟩) ⟨?_,?_,?_,?_,?_,?_,?_,?_,?_,?_,?_,?_,?_,?_,?_,?_,?_,?_,?_,?_,?_,?_,?_,?_,?_,trivial⟩ ?_
  ·intro a W hsz hb hS
   have h5:a.tmps.getD 5 undef=.pointer (some ⟨w1.heap.size,0,none⟩):=hS.1
   clear hS hsz
   refine will_of rfl ?_
   have HM':=HM.out.later hb
   obtain ⟨c0,c1⟩:=iO_cells (HM'.get (b:=w1.heap.size) (o:=iO p1 p2) (by simp))
   obtain ⟨d0,d1⟩:=iO_cells (HM'.get (b:=w2.heap.size) (o:=iO q1 q2) (by simp))
   intro K hK
   go_simp
   exact hK _ _ ⟨Below.refl _ _,rfl⟩
  ·intro a W hsz hb hS
   clear hS hsz
   refine will_of rfl ?_
   have HM':=HM.out.later hb
   obtain ⟨c0,c1⟩:=iO_cells (HM'.get (b:=w1.heap.size) (o:=iO p1 p2) (by simp))
   obtain ⟨d0,d1⟩:=iO_cells (HM'.get (b:=w2.heap.size) (o:=iO q1 q2) (by simp))
   intro K hK
   go_simp
   refine (HE.out _).mono ?_
   rintro e W' ⟨rfl,hb'⟩
   exact hK _ _ ⟨hb',rfl⟩
  ·intro a W hsz hb hS
   have h19:a.tmps.getD 19 undef=.agg #[.int .u64 (p1:Int),.int .u64 (p2:Int)]:=hS.1
   have h20:a.tmps.getD 20 undef=.agg #[.int .u64 9218868437227405312,.int .u64 18442240474082181120]:=hS.2.1
   clear hS hsz
   refine will_of rfl ?_
   intro K hK
   go_simp
   first | exact hK _ _ ⟨Below.refl _ _,rfl⟩ | (rw [heq];exact hK _ _ ⟨Below.refl _ _,rfl⟩)
  ·intro a W hsz hb hS
   have h21:a.tmps.getD 21 undef=.bool false:=hS.1
   clear hS hsz
   refine will_of rfl ?_
   intro K hK
   go_simp
   exact hK _ _ ⟨Below.refl _ _,rfl⟩
  ·intro a W hsz hb hS
   have h6:a.tmps.getD 6 undef=.pointer (some ⟨w2.heap.size,0,none⟩):=hS.1
   have h22:a.tmps.getD 22 undef=.bool false:=hS.2.1
   clear hS hsz
   refine will_yes rfl rfl h22 ?_
   have HM':=HM.out.later hb
   obtain ⟨c0,c1⟩:=iO_cells (HM'.get (b:=w1.heap.size) (o:=iO p1 p2) (by simp))
   obtain ⟨d0,d1⟩:=iO_cells (HM'.get (b:=w2.heap.size) (o:=iO q1 q2) (by simp))
   intro K hK
   go_simp
   exact hK _ _ ⟨Below.refl _ _,rfl⟩
  ·intro a W hsz hb hS
   have h22:a.tmps.getD 22 undef=.bool false:=hS.1
   clear hS hsz
   refine will_yes rfl rfl h22 ?_
   have HM':=HM.out.later hb
   obtain ⟨c0,c1⟩:=iO_cells (HM'.get (b:=w1.heap.size) (o:=iO p1 p2) (by simp))
   obtain ⟨d0,d1⟩:=iO_cells (HM'.get (b:=w2.heap.size) (o:=iO q1 q2) (by simp))
   intro K hK
   go_simp
   refine (HE.out _).mono ?_
   rintro e W' ⟨rfl,hb'⟩
   exact hK _ _ ⟨hb',rfl⟩
  ·intro a W hsz hb hS
   have h23:a.tmps.getD 23 undef=.agg #[.int .u64 (q1:Int),.int .u64 (q2:Int)]:=hS.1
   have h24:a.tmps.getD 24 undef=.agg #[.int .u64 9218868437227405312,.int .u64 18442240474082181120]:=hS.2.1
   have h22:a.tmps.getD 22 undef=.bool false:=hS.2.2.1
   clear hS hsz
   refine will_yes rfl rfl h22 ?_
   intro K hK
   go_simp
   first | exact hK _ _ ⟨Below.refl _ _,rfl⟩ | (rw [hne];exact hK _ _ ⟨Below.refl _ _,rfl⟩)
  ·intro a W hsz hb hS
   have h25:a.tmps.getD 25 undef=.bool true:=hS.1
   have h22:a.tmps.getD 22 undef=.bool false:=hS.2.1
   clear hS hsz
   refine will_yes rfl rfl h22 ?_
   intro K hK
   go_simp
   exact hK _ _ ⟨Below.refl _ _,rfl⟩
  ·intro a W hsz hb hS
   have h6:a.tmps.getD 6 undef=.pointer (some ⟨w2.heap.size,0,none⟩):=hS.1
   have h26:a.tmps.getD 26 undef=.bool true:=hS.2.1
   clear hS hsz
   refine will_yes rfl rfl h26 ?_
   intro K hK
   go_simp
   exact hK _ _ ⟨Below.refl _ _,rfl⟩
  ·intro a W hsz hb hS
   have h27:a.tmps.getD 27 undef=.pointer (some ⟨w2.heap.size,0,none⟩):=hS.1
   have h26:a.tmps.getD 26 undef=.bool true:=hS.2.1
   clear hS hsz
   refine will_yes rfl rfl h26 ?_
   have HM':=HM.out.later hb
   obtain ⟨c0,c1⟩:=iO_cells (HM'.get (b:=w1.heap.size) (o:=iO p1 p2) (by simp))
   obtain ⟨d0,d1⟩:=iO_cells (HM'.get (b:=w2.heap.size) (o:=iO q1 q2) (by simp))
   intro K hK
   go_simp
   exact hK _ _ ⟨Below.refl _ _,rfl⟩
  ·intro a W hsz hb hS
   have h5:a.tmps.getD 5 undef=.pointer (some ⟨w1.heap.size,0,none⟩):=hS.1
   have h26:a.tmps.getD 26 undef=.bool true:=hS.2.1
   clear hS hsz
   refine will_yes rfl rfl h26 ?_
   intro K hK
   go_simp
   exact hK _ _ ⟨Below.refl _ _,rfl⟩
  ·intro a W hsz hb hS
   have h29:a.tmps.getD 29 undef=.pointer (some ⟨w1.heap.size,0,none⟩):=hS.1
   have h26:a.tmps.getD 26 undef=.bool true:=hS.2.1
   clear hS hsz
   refine will_yes rfl rfl h26 ?_
   have HM':=HM.out.later hb
   obtain ⟨c0,c1⟩:=iO_cells (HM'.get (b:=w1.heap.size) (o:=iO p1 p2) (by simp))
   obtain ⟨d0,d1⟩:=iO_cells (HM'.get (b:=w2.heap.size) (o:=iO q1 q2) (by simp))
   intro K hK
   go_simp
   exact hK _ _ ⟨Below.refl _ _,rfl⟩
  ·intro a W hsz hb hS
   have h28:a.tmps.getD 28 undef=.int .u64 (q1:Int):=hS.1
   have h30:a.tmps.getD 30 undef=.int .u64 (p1:Int):=hS.2.1
   have h26:a.tmps.getD 26 undef=.bool true:=hS.2.2.1
   clear hS hsz
   refine will_yes rfl rfl h26 ?_
   have HM':=HM.out.later hb
   obtain ⟨c0,c1⟩:=iO_cells (HM'.get (b:=w1.heap.size) (o:=iO p1 p2) (by simp))
   obtain ⟨d0,d1⟩:=iO_cells (HM'.get (b:=w2.heap.size) (o:=iO q1 q2) (by simp))
   intro K hK
   go_simp
   refine (HA1.out _).mono ?_
   rintro e W' ⟨rfl,rfl⟩
   exact hK _ _ ⟨Below.refl _ _,rfl⟩
  ·intro a W hsz hb hS
   have h31:a.tmps.getD 31 undef=.bool false:=hS.1
   have h26:a.tmps.getD 26 undef=.bool true:=hS.2.1
   clear hS hsz
   refine will_yes rfl rfl h26 ?_
   intro K hK
   go_simp
   exact hK _ _ ⟨Below.refl _ _,rfl⟩
  ·intro a W hsz hb hS
   have h26:a.tmps.getD 26 undef=.bool true:=hS.1
   have h32:a.tmps.getD 32 undef=.bool true:=hS.2.1
   have h22:a.tmps.getD 22 undef=.bool false:=hS.2.2.1
   clear hS hsz
   refine will_yes rfl rfl h22 ?_
   intro K hK
   go_simp
   exact hK _ _ ⟨Below.refl _ _,rfl⟩
  ·intro a W hsz hb hS
   have h33:a.tmps.getD 33 undef=.bool true:=hS.1
   have h22:a.tmps.getD 22 undef=.bool false:=hS.2.1
   clear hS hsz
   refine will_yes rfl rfl h22 ?_
   intro K hK
   go_simp
   exact hK _ _ ⟨Below.refl _ _,rfl⟩
  ·intro a W hsz hb hS
   have h5:a.tmps.getD 5 undef=.pointer (some ⟨w1.heap.size,0,none⟩):=hS.1
   have h34:a.tmps.getD 34 undef=.bool true:=hS.2.1
   clear hS hsz
   refine will_yes rfl rfl h34 ?_
   intro K hK
   go_simp
   exact hK _ _ ⟨Below.refl _ _,rfl⟩
  ·intro a W hsz hb hS
   have h35:a.tmps.getD 35 undef=.pointer (some ⟨w1.heap.size,1,none⟩):=hS.1
   have h34:a.tmps.getD 34 undef=.bool true:=hS.2.1
   clear hS hsz
   refine will_yes rfl rfl h34 ?_
   have HM':=HM.out.later hb
   obtain ⟨c0,c1⟩:=iO_cells (HM'.get (b:=w1.heap.size) (o:=iO p1 p2) (by simp))
   obtain ⟨d0,d1⟩:=iO_cells (HM'.get (b:=w2.heap.size) (o:=iO q1 q2) (by simp))
   intro K hK
   go_simp
   exact hK _ _ ⟨Below.refl _ _,rfl⟩
  ·intro a W hsz hb hS
   have h6:a.tmps.getD 6 undef=.pointer (some ⟨w2.heap.size,0,none⟩):=hS.1
   have h34:a.tmps.getD 34 undef=.bool true:=hS.2.1
   clear hS hsz
   refine will_yes rfl rfl h34 ?_
   intro K hK
   go_simp
   exact hK _ _ ⟨Below.refl _ _,rfl⟩
  ·intro a W hsz hb hS
   have h37:a.tmps.getD 37 undef=.pointer (some ⟨w2.heap.size,1,none⟩):=hS.1
   have h34:a.tmps.getD 34 undef=.bool true:=hS.2.1
   clear hS hsz
   refine will_yes rfl rfl h34 ?_
   have HM':=HM.out.later hb
   obtain ⟨c0,c1⟩:=iO_cells (HM'.get (b:=w1.heap.size) (o:=iO p1 p2) (by simp))
   obtain ⟨d0,d1⟩:=iO_cells (HM'.get (b:=w2.heap.size) (o:=iO q1 q2) (by simp))
   intro K hK
   go_simp
   exact hK _ _ ⟨Below.refl _ _,rfl⟩
  ·intro a W hsz hb hS
   have h36:a.tmps.getD 36 undef=.int .u64 (p2:Int):=hS.1
   have h38:a.tmps.getD 38 undef=.int .u64 (q2:Int):=hS.2.1
   have h34:a.tmps.getD 34 undef=.bool true:=hS.2.2.1
   clear hS hsz
   refine will_yes rfl rfl h34 ?_
   have HM':=HM.out.later hb
   obtain ⟨c0,c1⟩:=iO_cells (HM'.get (b:=w1.heap.size) (o:=iO p1 p2) (by simp))
   obtain ⟨d0,d1⟩:=iO_cells (HM'.get (b:=w2.heap.size) (o:=iO q1 q2) (by simp))
   intro K hK
   go_simp
   refine (HA2.out _).mono ?_
   rintro e W' ⟨rfl,rfl⟩
   exact hK _ _ ⟨Below.refl _ _,rfl⟩
  ·intro a W hsz hb hS
   have h39:a.tmps.getD 39 undef=.bool false:=hS.1
   have h34:a.tmps.getD 34 undef=.bool true:=hS.2.1
   clear hS hsz
   refine will_yes rfl rfl h34 ?_
   intro K hK
   go_simp
   exact hK _ _ ⟨Below.refl _ _,rfl⟩
  ·intro a W hsz hb hS
   have h34:a.tmps.getD 34 undef=.bool true:=hS.1
   have h40:a.tmps.getD 40 undef=.bool true:=hS.2.1
   have h22:a.tmps.getD 22 undef=.bool false:=hS.2.2.1
   clear hS hsz
   refine will_yes rfl rfl h22 ?_
   intro K hK
   go_simp
   exact hK _ _ ⟨Below.refl _ _,rfl⟩
  ·intro a W hsz hb hS
   have h22:a.tmps.getD 22 undef=.bool false:=hS.1
   have h41:a.tmps.getD 41 undef=.bool true:=hS.2.1
   clear hS hsz
   refine will_of rfl ?_
   intro K hK
   go_simp
   exact hK _ _ ⟨Below.refl _ _,rfl⟩
  ·intro a W hsz hb hS
   have h42:a.tmps.getD 42 undef=.bool true:=hS.1
   clear hS hsz
   refine will_of rfl ?_
   intro K hK
   go_simp
   exact hK _ _ ⟨Below.refl _ _,rfl⟩
  intro f W hb hH
  have e0:f 0=.agg #[.int .u64 (p1:Int),.int .u64 (p2:Int)]:=hH.1
  have e1:f 1=.agg #[.int .u64 9218868437227405312,.int .u64 18442240474082181120]:=hH.2.1
  have e2:f 2=.bool false:=hH.2.2.1
  have e3:f 3=.bool false:=hH.2.2.2.1
  have e4:f 4=.agg #[.int .u64 (q1:Int),.int .u64 (q2:Int)]:=hH.2.2.2.2.1
  have e5:f 5=.agg #[.int .u64 9218868437227405312,.int .u64 18442240474082181120]:=hH.2.2.2.2.2.1
  have e6:f 6=.bool true:=hH.2.2.2.2.2.2.1
  have e7:f 7=.bool true:=hH.2.2.2.2.2.2.2.1
  have e8:f 8=.pointer (some ⟨w2.heap.size,0,none⟩):=hH.2.2.2.2.2.2.2.2.1
  have e9:f 9=.int .u64 (q1:Int):=hH.2.2.2.2.2.2.2.2.2.1
  have e10:f 10=.pointer (some ⟨w1.heap.size,0,none⟩):=hH.2.2.2.2.2.2.2.2.2.2.1
  have e11:f 11=.int .u64 (p1:Int):=hH.2.2.2.2.2.2.2.2.2.2.2.1
  have e12:f 12=.bool false:=hH.2.2.2.2.2.2.2.2.2.2.2.2.1
  have e13:f 13=.bool true:=hH.2.2.2.2.2.2.2.2.2.2.2.2.2.1
  have e14:f 14=.bool true:=hH.2.2.2.2.2.2.2.2.2.2.2.2.2.2.1
  have e15:f 15=.bool true:=hH.2.2.2.2.2.2.2.2.2.2.2.2.2.2.2.1
  have e16:f 16=.pointer (some ⟨w1.heap.size,1,none⟩):=hH.2.2.2.2.2.2.2.2.2.2.2.2.2.2.2.2.1
  have e17:f 17=.int .u64 (p2:Int):=hH.2.2.2.2.2.2.2.2.2.2.2.2.2.2.2.2.2.1
  have e18:f 18=.pointer (some ⟨w2.heap.size,1,none⟩):=hH.2.2.2.2.2.2.2.2.2.2.2.2.2.2.2.2.2.2.1
  have e19:f 19=.int .u64 (q2:Int):=hH.2.2.2.2.2.2.2.2.2.2.2.2.2.2.2.2.2.2.2.1
  have e20:f 20=.bool false:=hH.2.2.2.2.2.2.2.2.2.2.2.2.2.2.2.2.2.2.2.2.1
  have e21:f 21=.bool true:=hH.2.2.2.2.2.2.2.2.2.2.2.2.2.2.2.2.2.2.2.2.2.1
  have e22:f 22=.bool true:=hH.2.2.2.2.2.2.2.2.2.2.2.2.2.2.2.2.2.2.2.2.2.2.1
  have e23:f 23=.bool true:=hH.2.2.2.2.2.2.2.2.2.2.2.2.2.2.2.2.2.2.2.2.2.2.2.1
  have e24:f 24=.bool true:=hH.2.2.2.2.2.2.2.2.2.2.2.2.2.2.2.2.2.2.2.2.2.2.2.2.1
  simp only [List.take_succ_cons,List.take_zero,List.drop_succ_cons,List.drop_zero,putFrom,Act.put,List.setIfInBounds_toArray,List.set_cons_zero,List.set_cons_succ,Nat.reduceAdd,e0,e1,e2,e3,e4,e5,e6,e7,e8,e9,e10,e11,e12,e13,e14,e15,e16,e17,e18,e19,e20,e21,e22,e23,e24]
  clear e0 e1 e2 e3 e4 e5 e6 e7 e8 e9 e10 e11 e12 e13 e14 e15 e16 e17 e18 e19 e20 e21 e22 e23 e24 hH f
  have HW:=Lib.hid (HM.out.later hb).below
  clear hb
  go_wp2
  go_ret
  exact ⟨rfl,HW.out⟩
set_option maxRecDepth 100000 in
set_option maxHeartbeats 8000000 in
theorem out_gen (x y:Nat) (n:Int) (m lo hi a1 a2 b1 b2:Nat) (S T U:ByteArray) (w:World) (hx:x<18446744073709551616) (hy:y<18446744073709551616) (m2:m≤1000) (hn:(decide (n<1)=true∧m=4)∨(decide (n<1)=false∧decide (1000<n)=true∧m=4)∨(decide (n<1)=false∧decide (1000<n)=false∧n=(m:Int)))
  (elo:flo x y=lo) (ehi:fhi x y=hi) (hP:Pow10 w)
  (P1:∀W,Pow10 W→Calls Tryz.prog 6 #[.agg #[.float .f64 x,.float .f64 y],.int .i64 (m:Int)] W fun e w'=>e=.returned (.tuple #[.string S,.int .i64 0])∧Below W.heap.size W w')
  (P2:∀W,Pow10 W→Calls Tryz.prog 6 #[.agg #[.float .f64 x,.float .f64 y],.int .i64 ((m+1:Nat):Int)] W fun e w'=>e=.returned (.tuple #[.string T,.int .i64 0])∧Below W.heap.size W w')
  (P3:∀W,Pow10 W→Calls Tryz.prog 6 #[.agg #[.float .f64 x,.float .f64 y],.int .i64 800] W fun e w'=>e=.returned (.tuple #[.string U,.int .i64 0])∧Below W.heap.size W w')
  (R1:∀W,Calls Tryz.prog 7 #[.string S] W (Ans W (IsV (.tuple #[.agg #[.float .f64 a1,.float .f64 a2],.int .i64 0,.int .i64 0]))))
  (R2:∀W,Calls Tryz.prog 7 #[.string T] W (Ans W (IsV (.tuple #[.agg #[.float .f64 b1,.float .f64 b2],.int .i64 0,.int .i64 0]))))
  (R3:∀W,Calls Tryz.prog 7 #[.string U] W (Ans W (IsV (.tuple #[.agg #[.float .f64 lo,.float .f64 hi],.int .i64 0,.int .i64 0]))))
  (I1:FIn (lo,hi) (b1,b2)) (I2:FIn (b1,b2) (a1,a2)) :
  Calls Tryz.prog 3 #[.agg #[.int .u64 (x:Int),.int .u64 (y:Int)],.int .i64 n] w fun e w'=>e=.returned (.bool true)∧Below w.heap.size w w':=by
 have l1:=I1.1
 have l2:=I1.2.1
 have HR6:=Lib.hid (fun W=>read6_any x y hx hy W)
 rw [elo,ehi] at HR6
 have HI1:=Lib.hid (fun W=>in12_any lo hi l1 l2 W)
 have HI2:=Lib.hid (fun W=>in12_any x y hx hy W)
 have HP1:=Lib.hid P1
 have HP2:=Lib.hid P2
 have HP3:=Lib.hid P3
 have HR1:=Lib.hid R1
 have HR2:=Lib.hid R2
 have HR3:=Lib.hid R3
 have HW1:=Lib.hid (fun W=>within12_any I1 W)
 have HW2:=Lib.hid (fun W=>within12_any I2 W)
 have HO:=Lib.hid (fun W=>out12L_any lo hi W)
 have HLV:=Lib.hid (fun W (h:Pow10 W)=>lives12_any W h)
 have HPP:=Lib.hid hP
 have hsf:=store_f
 have HM:=Lib.hid (show KM w (w.alloc (iO x y)) [(w.heap.size,iO x y)] from by simpa using (KM.new w).push (iO x y))
 have heq:∀W:World,(binOp BinOp.eql 24 (.agg #[.int .u64 (lo:Int),.int .u64 (hi:Int)]) (.agg #[.int .u64 (lo:Int),.int .u64 (hi:Int)])).run Tryz.prog W=.ok (.bool true) W:=by
  intro W;rw [eqlI];simp
 have HEQ:=Lib.hid heq
 have hw1:IntKind.i64.wrap ((m:Int)+1)=((m+1:Nat):Int):=by rw [IntWalk.i64_in _ (by omega)];omega
 have hm0:m=4∨n=(m:Int):=by rcases hn with h | h | h <;> omega
 clear P1 P2 P3 R1 R2 R3 I1 I2 hP heq hx hy l1 l2 elo ehi
 rcases hn with ⟨q1,rfl⟩ | ⟨q1,q2,rfl⟩ | ⟨q1,q2,rfl⟩
 all_goals
  clear hm0 m2
  go_enter Tryz.func3,Tryz.ntmps3
  obtain ⟨c0,c1⟩:=iO_cells (HM.out.get (b:=w.heap.size) (o:=iO x y) (by simp))
  go_wp2_with fail
  refine (HR6.out _).mono ?_
  rintro e w1 ⟨rfl,hb⟩
  have HM:=Lib.hid (HM.out.later hb)
  clear hb c0 c1
  go_wp2_with fail
  refine (HI1.out _).mono ?_
  rintro e w2 ⟨rfl,hb⟩
  have HM:=Lib.hid ((HM.out.later hb).push (ivO lo hi))
  clear hb
  obtain ⟨c0,c1⟩:=iO_cells (HM.out.get (b:=w.heap.size) (o:=iO x y) (by simp))
  go_wp2_with fail
  refine (HI2.out _).mono ?_
  rintro e w3 ⟨rfl,hb⟩
  have HM:=Lib.hid (HM.out.later hb)
  clear hb c0 c1
  go_wp2_with fail
  refine (HP1.out _ (HPP.out.below HM.out.below)).mono ?_
  rintro e w4 ⟨rfl,hb⟩
  have HM:=Lib.hid (HM.out.later hb)
  clear hb
  obtain ⟨c0,c1⟩:=iO_cells (HM.out.get (b:=w.heap.size) (o:=iO x y) (by simp))
  go_wp2_with fail
  refine (HI2.out _).mono ?_
  rintro e w5 ⟨rfl,hb⟩
  have HM:=Lib.hid (HM.out.later hb)
  clear hb c0 c1
  go_wp2_with fail
  try rw [hw1]
  refine (HP2.out _ (HPP.out.below HM.out.below)).mono ?_
  rintro e w6 ⟨rfl,hb⟩
  have HM:=Lib.hid (HM.out.later hb)
  clear hb
  obtain ⟨c0,c1⟩:=iO_cells (HM.out.get (b:=w.heap.size) (o:=iO x y) (by simp))
  go_wp2_with fail
  refine (HI2.out _).mono ?_
  rintro e w7 ⟨rfl,hb⟩
  have HM:=Lib.hid (HM.out.later hb)
  clear hb c0 c1
  go_wp2_with fail
  refine (HP3.out _ (HPP.out.below HM.out.below)).mono ?_
  rintro e w8 ⟨rfl,hb⟩
  have HM:=Lib.hid (HM.out.later hb)
  clear hb
  go_wp2_with fail
  refine (HR1.out _).mono ?_
  rintro e w9 ⟨v9,rfl,rfl,hb⟩
  have HM:=Lib.hid ((HM.out.later hb).push (ivO a1 a2))
  clear hb
  go_wp2_with fail
  refine (HR2.out _).mono ?_
  rintro e w10 ⟨v10,rfl,rfl,hb⟩
  have HM:=Lib.hid ((HM.out.later hb).push (ivO b1 b2))
  clear hb
  go_wp2_with fail
  refine (HR3.out _).mono ?_
  rintro e w11 ⟨v11,rfl,rfl,hb⟩
  have HM:=Lib.hid ((HM.out.later hb).push (ivO lo hi))
  clear hb
  go_upto_region 12 with fail
  refine region_at 19 (Pick [IsV (.agg #[.float .f64 lo,.float .f64 hi]),IsV (.agg #[.float .f64 b1,.float .f64 b2]),IsV (.bool true),IsV (.bool true),IsV (.agg #[.float .f64 b1,.float .f64 b2]),IsV (.agg #[.float .f64 a1,.float .f64 a2]),IsV (.bool true),IsV (.bool true),IsV (.bool true),IsV (.agg #[.float .f64 lo,.float .f64 hi]),IsV (.agg #[.int .u64 (lo:Int),.int .u64 (hi:Int)]),IsV (.agg #[.float .f64 lo,.float .f64 hi]),IsV (.agg #[.int .u64 (lo:Int),.int .u64 (hi:Int)]),IsV (.bool true),IsV (.bool true),IsV (.bool true),IsV (.bool true),IsV (.bool true),IsV (.bool true)]) (by kernel_rfl) (by kernel_rfl) (by kernel_rfl) (mono_pick ⟨IsV.mono _,IsV.mono _,IsV.mono _,IsV.mono _,IsV.mono _,IsV.mono _,IsV.mono _,IsV.mono _,IsV.mono _,IsV.mono _,IsV.mono _,IsV.mono _,IsV.mono _,IsV.mono _,IsV.mono _,IsV.mono _,IsV.mono _,IsV.mono _,IsV.mono _,trivial⟩) ⟨?_,?_,?_,?_,?_,?_,?_,?_,?_,?_,?_,?_,?_,?_,?_,?_,?_,?_,?_,trivial⟩ ?_
  ·intro a W hsz hb hS
   have h5:a.tmps.getD 5 undef=.pointer (some ⟨w2.heap.size,0,none⟩):=hS.1
   clear hS hsz
   refine will_of rfl ?_
   have HM':=HM.out.later hb
   obtain ⟨c0,c1⟩:=ivO_cells (HM'.get (b:=w2.heap.size) (o:=ivO lo hi) (by simp))
   obtain ⟨d0,d1⟩:=ivO_cells (HM'.get (b:=w9.heap.size) (o:=ivO a1 a2) (by simp))
   obtain ⟨e0,e1⟩:=ivO_cells (HM'.get (b:=w10.heap.size) (o:=ivO b1 b2) (by simp))
   obtain ⟨f0,f1⟩:=ivO_cells (HM'.get (b:=w11.heap.size) (o:=ivO lo hi) (by simp))
   intro K hK
   go_simp
   exact hK _ _ ⟨Below.refl _ _,rfl⟩
  ·intro a W hsz hb hS
   have h15:a.tmps.getD 15 undef=.pointer (some ⟨w10.heap.size,0,none⟩):=hS.1
   clear hS hsz
   refine will_of rfl ?_
   have HM':=HM.out.later hb
   obtain ⟨c0,c1⟩:=ivO_cells (HM'.get (b:=w2.heap.size) (o:=ivO lo hi) (by simp))
   obtain ⟨d0,d1⟩:=ivO_cells (HM'.get (b:=w9.heap.size) (o:=ivO a1 a2) (by simp))
   obtain ⟨e0,e1⟩:=ivO_cells (HM'.get (b:=w10.heap.size) (o:=ivO b1 b2) (by simp))
   obtain ⟨f0,f1⟩:=ivO_cells (HM'.get (b:=w11.heap.size) (o:=ivO lo hi) (by simp))
   intro K hK
   go_simp
   exact hK _ _ ⟨Below.refl _ _,rfl⟩
  ·intro a W hsz hb hS
   have h91:a.tmps.getD 91 undef=.agg #[.float .f64 lo,.float .f64 hi]:=hS.1
   have h92:a.tmps.getD 92 undef=.agg #[.float .f64 b1,.float .f64 b2]:=hS.2.1
   clear hS hsz
   refine will_of rfl ?_
   have HM':=HM.out.later hb
   obtain ⟨c0,c1⟩:=ivO_cells (HM'.get (b:=w2.heap.size) (o:=ivO lo hi) (by simp))
   obtain ⟨d0,d1⟩:=ivO_cells (HM'.get (b:=w9.heap.size) (o:=ivO a1 a2) (by simp))
   obtain ⟨e0,e1⟩:=ivO_cells (HM'.get (b:=w10.heap.size) (o:=ivO b1 b2) (by simp))
   obtain ⟨f0,f1⟩:=ivO_cells (HM'.get (b:=w11.heap.size) (o:=ivO lo hi) (by simp))
   intro K hK
   go_simp
   refine (HW1.out _).mono ?_
   rintro e W' ⟨rfl,hb'⟩
   exact hK _ _ ⟨hb',rfl⟩
  ·intro a W hsz hb hS
   have h93:a.tmps.getD 93 undef=.bool true:=hS.1
   clear hS hsz
   refine will_of rfl ?_
   intro K hK
   go_simp
   exact hK _ _ ⟨Below.refl _ _,rfl⟩
  ·intro a W hsz hb hS
   have h15:a.tmps.getD 15 undef=.pointer (some ⟨w10.heap.size,0,none⟩):=hS.1
   have h94:a.tmps.getD 94 undef=.bool true:=hS.2.1
   clear hS hsz
   refine will_yes rfl rfl h94 ?_
   have HM':=HM.out.later hb
   obtain ⟨c0,c1⟩:=ivO_cells (HM'.get (b:=w2.heap.size) (o:=ivO lo hi) (by simp))
   obtain ⟨d0,d1⟩:=ivO_cells (HM'.get (b:=w9.heap.size) (o:=ivO a1 a2) (by simp))
   obtain ⟨e0,e1⟩:=ivO_cells (HM'.get (b:=w10.heap.size) (o:=ivO b1 b2) (by simp))
   obtain ⟨f0,f1⟩:=ivO_cells (HM'.get (b:=w11.heap.size) (o:=ivO lo hi) (by simp))
   intro K hK
   go_simp
   exact hK _ _ ⟨Below.refl _ _,rfl⟩
  ·intro a W hsz hb hS
   have h12:a.tmps.getD 12 undef=.pointer (some ⟨w9.heap.size,0,none⟩):=hS.1
   have h94:a.tmps.getD 94 undef=.bool true:=hS.2.1
   clear hS hsz
   refine will_yes rfl rfl h94 ?_
   have HM':=HM.out.later hb
   obtain ⟨c0,c1⟩:=ivO_cells (HM'.get (b:=w2.heap.size) (o:=ivO lo hi) (by simp))
   obtain ⟨d0,d1⟩:=ivO_cells (HM'.get (b:=w9.heap.size) (o:=ivO a1 a2) (by simp))
   obtain ⟨e0,e1⟩:=ivO_cells (HM'.get (b:=w10.heap.size) (o:=ivO b1 b2) (by simp))
   obtain ⟨f0,f1⟩:=ivO_cells (HM'.get (b:=w11.heap.size) (o:=ivO lo hi) (by simp))
   intro K hK
   go_simp
   exact hK _ _ ⟨Below.refl _ _,rfl⟩
  ·intro a W hsz hb hS
   have h95:a.tmps.getD 95 undef=.agg #[.float .f64 b1,.float .f64 b2]:=hS.1
   have h96:a.tmps.getD 96 undef=.agg #[.float .f64 a1,.float .f64 a2]:=hS.2.1
   have h94:a.tmps.getD 94 undef=.bool true:=hS.2.2.1
   clear hS hsz
   refine will_yes rfl rfl h94 ?_
   have HM':=HM.out.later hb
   obtain ⟨c0,c1⟩:=ivO_cells (HM'.get (b:=w2.heap.size) (o:=ivO lo hi) (by simp))
   obtain ⟨d0,d1⟩:=ivO_cells (HM'.get (b:=w9.heap.size) (o:=ivO a1 a2) (by simp))
   obtain ⟨e0,e1⟩:=ivO_cells (HM'.get (b:=w10.heap.size) (o:=ivO b1 b2) (by simp))
   obtain ⟨f0,f1⟩:=ivO_cells (HM'.get (b:=w11.heap.size) (o:=ivO lo hi) (by simp))
   intro K hK
   go_simp
   refine (HW2.out _).mono ?_
   rintro e W' ⟨rfl,hb'⟩
   exact hK _ _ ⟨hb',rfl⟩
  ·intro a W hsz hb hS
   have h94:a.tmps.getD 94 undef=.bool true:=hS.1
   have h97:a.tmps.getD 97 undef=.bool true:=hS.2.1
   clear hS hsz
   refine will_of rfl ?_
   intro K hK
   go_simp
   exact hK _ _ ⟨Below.refl _ _,rfl⟩
  ·intro a W hsz hb hS
   have h98:a.tmps.getD 98 undef=.bool true:=hS.1
   clear hS hsz
   refine will_of rfl ?_
   intro K hK
   go_simp
   exact hK _ _ ⟨Below.refl _ _,rfl⟩
  ·intro a W hsz hb hS
   have h18:a.tmps.getD 18 undef=.pointer (some ⟨w11.heap.size,0,none⟩):=hS.1
   have h99:a.tmps.getD 99 undef=.bool true:=hS.2.1
   clear hS hsz
   refine will_yes rfl rfl h99 ?_
   have HM':=HM.out.later hb
   obtain ⟨c0,c1⟩:=ivO_cells (HM'.get (b:=w2.heap.size) (o:=ivO lo hi) (by simp))
   obtain ⟨d0,d1⟩:=ivO_cells (HM'.get (b:=w9.heap.size) (o:=ivO a1 a2) (by simp))
   obtain ⟨e0,e1⟩:=ivO_cells (HM'.get (b:=w10.heap.size) (o:=ivO b1 b2) (by simp))
   obtain ⟨f0,f1⟩:=ivO_cells (HM'.get (b:=w11.heap.size) (o:=ivO lo hi) (by simp))
   intro K hK
   go_simp
   exact hK _ _ ⟨Below.refl _ _,rfl⟩
  ·intro a W hsz hb hS
   have h100:a.tmps.getD 100 undef=.agg #[.float .f64 lo,.float .f64 hi]:=hS.1
   have h99:a.tmps.getD 99 undef=.bool true:=hS.2.1
   clear hS hsz
   refine will_yes rfl rfl h99 ?_
   have HM':=HM.out.later hb
   obtain ⟨c0,c1⟩:=ivO_cells (HM'.get (b:=w2.heap.size) (o:=ivO lo hi) (by simp))
   obtain ⟨d0,d1⟩:=ivO_cells (HM'.get (b:=w9.heap.size) (o:=ivO a1 a2) (by simp))
   obtain ⟨e0,e1⟩:=ivO_cells (HM'.get (b:=w10.heap.size) (o:=ivO b1 b2) (by simp))
   obtain ⟨f0,f1⟩:=ivO_cells (HM'.get (b:=w11.heap.size) (o:=ivO lo hi) (by simp))
   intro K hK
   go_simp
   refine (HO.out _).mono ?_
   rintro e W' ⟨rfl,hb'⟩
   exact hK _ _ ⟨hb',rfl⟩
  ·intro a W hsz hb hS
   have h5:a.tmps.getD 5 undef=.pointer (some ⟨w2.heap.size,0,none⟩):=hS.1
   have h99:a.tmps.getD 99 undef=.bool true:=hS.2.1
   clear hS hsz
   refine will_yes rfl rfl h99 ?_
   have HM':=HM.out.later hb
   obtain ⟨c0,c1⟩:=ivO_cells (HM'.get (b:=w2.heap.size) (o:=ivO lo hi) (by simp))
   obtain ⟨d0,d1⟩:=ivO_cells (HM'.get (b:=w9.heap.size) (o:=ivO a1 a2) (by simp))
   obtain ⟨e0,e1⟩:=ivO_cells (HM'.get (b:=w10.heap.size) (o:=ivO b1 b2) (by simp))
   obtain ⟨f0,f1⟩:=ivO_cells (HM'.get (b:=w11.heap.size) (o:=ivO lo hi) (by simp))
   intro K hK
   go_simp
   exact hK _ _ ⟨Below.refl _ _,rfl⟩
  ·intro a W hsz hb hS
   have h102:a.tmps.getD 102 undef=.agg #[.float .f64 lo,.float .f64 hi]:=hS.1
   have h99:a.tmps.getD 99 undef=.bool true:=hS.2.1
   clear hS hsz
   refine will_yes rfl rfl h99 ?_
   have HM':=HM.out.later hb
   obtain ⟨c0,c1⟩:=ivO_cells (HM'.get (b:=w2.heap.size) (o:=ivO lo hi) (by simp))
   obtain ⟨d0,d1⟩:=ivO_cells (HM'.get (b:=w9.heap.size) (o:=ivO a1 a2) (by simp))
   obtain ⟨e0,e1⟩:=ivO_cells (HM'.get (b:=w10.heap.size) (o:=ivO b1 b2) (by simp))
   obtain ⟨f0,f1⟩:=ivO_cells (HM'.get (b:=w11.heap.size) (o:=ivO lo hi) (by simp))
   intro K hK
   go_simp
   refine (HO.out _).mono ?_
   rintro e W' ⟨rfl,hb'⟩
   exact hK _ _ ⟨hb',rfl⟩
  ·intro a W hsz hb hS
   have h101:a.tmps.getD 101 undef=.agg #[.int .u64 (lo:Int),.int .u64 (hi:Int)]:=hS.1
   have h103:a.tmps.getD 103 undef=.agg #[.int .u64 (lo:Int),.int .u64 (hi:Int)]:=hS.2.1
   have h99:a.tmps.getD 99 undef=.bool true:=hS.2.2.1
   clear hS hsz
   refine will_yes rfl rfl h99 ?_
   intro K hK
   go_simp
   first | exact hK _ _ ⟨Below.refl _ _,rfl⟩ | (rw [HEQ.out];exact hK _ _ ⟨Below.refl _ _,rfl⟩)
  ·intro a W hsz hb hS
   have h99:a.tmps.getD 99 undef=.bool true:=hS.1
   have h104:a.tmps.getD 104 undef=.bool true:=hS.2.1
   clear hS hsz
   refine will_of rfl ?_
   intro K hK
   go_simp
   exact hK _ _ ⟨Below.refl _ _,rfl⟩
  ·intro a W hsz hb hS
   have h105:a.tmps.getD 105 undef=.bool true:=hS.1
   clear hS hsz
   refine will_of rfl ?_
   intro K hK
   go_simp
   exact hK _ _ ⟨Below.refl _ _,rfl⟩
  ·intro a W hsz hb hS
   have h106:a.tmps.getD 106 undef=.bool true:=hS.1
   clear hS hsz
   refine will_yes rfl rfl h106 ?_
   have HM':=HM.out.later hb
   obtain ⟨c0,c1⟩:=ivO_cells (HM'.get (b:=w2.heap.size) (o:=ivO lo hi) (by simp))
   obtain ⟨d0,d1⟩:=ivO_cells (HM'.get (b:=w9.heap.size) (o:=ivO a1 a2) (by simp))
   obtain ⟨e0,e1⟩:=ivO_cells (HM'.get (b:=w10.heap.size) (o:=ivO b1 b2) (by simp))
   obtain ⟨f0,f1⟩:=ivO_cells (HM'.get (b:=w11.heap.size) (o:=ivO lo hi) (by simp))
   intro K hK
   go_simp
   refine (HLV.out _ (HPP.out.below HM'.below)).mono ?_
   rintro e W' ⟨rfl,hb'⟩
   exact hK _ _ ⟨hb',rfl⟩
  ·intro a W hsz hb hS
   have h106:a.tmps.getD 106 undef=.bool true:=hS.1
   have h107:a.tmps.getD 107 undef=.bool true:=hS.2.1
   clear hS hsz
   refine will_of rfl ?_
   intro K hK
   go_simp
   exact hK _ _ ⟨Below.refl _ _,rfl⟩
  ·intro a W hsz hb hS
   have h108:a.tmps.getD 108 undef=.bool true:=hS.1
   clear hS hsz
   refine will_of rfl ?_
   intro K hK
   go_simp
   exact hK _ _ ⟨Below.refl _ _,rfl⟩
  intro f W hb hH
  have e0:f 0=.agg #[.float .f64 lo,.float .f64 hi]:=hH.1
  have e1:f 1=.agg #[.float .f64 b1,.float .f64 b2]:=hH.2.1
  have e2:f 2=.bool true:=hH.2.2.1
  have e3:f 3=.bool true:=hH.2.2.2.1
  have e4:f 4=.agg #[.float .f64 b1,.float .f64 b2]:=hH.2.2.2.2.1
  have e5:f 5=.agg #[.float .f64 a1,.float .f64 a2]:=hH.2.2.2.2.2.1
  have e6:f 6=.bool true:=hH.2.2.2.2.2.2.1
  have e7:f 7=.bool true:=hH.2.2.2.2.2.2.2.1
  have e8:f 8=.bool true:=hH.2.2.2.2.2.2.2.2.1
  have e9:f 9=.agg #[.float .f64 lo,.float .f64 hi]:=hH.2.2.2.2.2.2.2.2.2.1
  have e10:f 10=.agg #[.int .u64 (lo:Int),.int .u64 (hi:Int)]:=hH.2.2.2.2.2.2.2.2.2.2.1
  have e11:f 11=.agg #[.float .f64 lo,.float .f64 hi]:=hH.2.2.2.2.2.2.2.2.2.2.2.1
  have e12:f 12=.agg #[.int .u64 (lo:Int),.int .u64 (hi:Int)]:=hH.2.2.2.2.2.2.2.2.2.2.2.2.1
  have e13:f 13=.bool true:=hH.2.2.2.2.2.2.2.2.2.2.2.2.2.1
  have e14:f 14=.bool true:=hH.2.2.2.2.2.2.2.2.2.2.2.2.2.2.1
  have e15:f 15=.bool true:=hH.2.2.2.2.2.2.2.2.2.2.2.2.2.2.2.1
  have e16:f 16=.bool true:=hH.2.2.2.2.2.2.2.2.2.2.2.2.2.2.2.2.1
  have e17:f 17=.bool true:=hH.2.2.2.2.2.2.2.2.2.2.2.2.2.2.2.2.2.1
  have e18:f 18=.bool true:=hH.2.2.2.2.2.2.2.2.2.2.2.2.2.2.2.2.2.2.1
  simp only [List.take_succ_cons,List.take_zero,List.drop_succ_cons,List.drop_zero,putFrom,Act.put,List.setIfInBounds_toArray,List.set_cons_zero,List.set_cons_succ,Nat.reduceAdd,e0,e1,e2,e3,e4,e5,e6,e7,e8,e9,e10,e11,e12,e13,e14,e15,e16,e17,e18]
  clear e0 e1 e2 e3 e4 e5 e6 e7 e8 e9 e10 e11 e12 e13 e14 e15 e16 e17 e18 hH f
  have HW:=Lib.hid (HM.out.later hb).below
  clear hb
  go_wp2
  go_ret
  exact ⟨rfl,HW.out⟩
theorem walk_outward (x y:Nat) (n:Int) (w:World) (hx:x<18446744073709551616) (hy:y<18446744073709551616) (h1 : -9223372036854775808≤n) (h2:n≤9223372036854775807) (hP:Pow10 w):Calls Tryz.prog 3 #[.agg #[.int .u64 (x:Int),.int .u64 (y:Int)],.int .i64 n] w fun e w'=>e=.returned (.bool true)∧Below w.heap.size w w':=by
 obtain ⟨m,m1,m2,hn⟩:∃m:Nat,1≤m∧m≤1000∧((decide (n<1)=true∧m=4)∨(decide (n<1)=false∧decide (1000<n)=true∧m=4)∨(decide (n<1)=false∧decide (1000<n)=false∧n=(m:Int))):=by
  by_cases a:n<1
  ·exact ⟨4,by omega,by omega,.inl ⟨decide_eq_true a,rfl⟩⟩
  ·by_cases b:1000<n
   ·exact ⟨4,by omega,by omega,.inr (.inl ⟨decide_eq_false a,decide_eq_true b,rfl⟩)⟩
   ·exact ⟨n.toNat,by omega,by omega,.inr (.inr ⟨decide_eq_false a,decide_eq_false b,by omega⟩)⟩
 obtain ⟨⟨a1,a2⟩,⟨b1,b2⟩,e1,e2,e3,I1,I2⟩:=out_law hx hy m1 m2
 have hlo:=flo_lt (y:=y) hx
 have hhi:=fhi_lt (x:=x) hy
 have hpr:∀k:Nat,1≤k→k≤1100→∀W,Pow10 W→Calls Tryz.prog 6 #[.agg #[.float .f64 x,.float .f64 y],.int .i64 (k:Int)] W fun e w'=>e=.returned (.tuple #[.string (bs (outT (flo x y) (fhi x y) k)),.int .i64 0])∧Below W.heap.size W w':=by
  intro k k1 k2 W hW
  obtain ⟨p1,q1⟩:=prE_PrP (-1) (flo x y) k hlo k1 k2
  obtain ⟨p2,q2⟩:=prE_PrP 1 (fhi x y) k hhi k1 k2
  exact litPrint_any x y k hx hy k1 k2 _ _ _ _ p1 p2 (by omega) (by omega) W hW
 have hln:∀k:Nat,1≤k→k≤1100→(outT (flo x y) (fhi x y) k).length≤140737488355328:=by
  intro k k1 k2
  obtain ⟨p1,q1⟩:=prE_PrP (-1) (flo x y) k hlo k1 k2
  obtain ⟨p2,q2⟩:=prE_PrP 1 (fhi x y) k hhi k1 k2
  exact out_len q1 q2
 have hrd:∀(k:Nat) (c:Nat×Nat),1≤k→k≤1100→litRd (outT (flo x y) (fhi x y) k)=(c,0,0)→∀W,Calls Tryz.prog 7 #[.string (bs (outT (flo x y) (fhi x y) k))] W (Ans W (IsV (.tuple #[.agg #[.float .f64 c.1,.float .f64 c.2],.int .i64 0,.int .i64 0]))):=by
  intro k c k1 k2 hc W
  have:=lread_lit _ (hln k k1 k2) W
  rw [hc] at this
  exact this
 exact out_gen x y n m _ _ a1 a2 b1 b2 _ _ _ w hx hy m2 hn rfl rfl hP (hpr m m1 (by omega)) (hpr (m+1) (by omega) (by omega)) (hpr 800 (by omega) (by omega)) (hrd m (a1,a2) m1 (by omega) e1) (hrd (m+1) (b1,b2) (by omega) (by omega) e2) (hrd 800 _ (by omega) (by omega) e3) I1 I2
end Go.Proofs.YtlibbociineppaaGreatDoor
