/- Layer 12: what lives asks: four answers. -/
import Derived.Test.YtlibbociineppaaGreatDoorG34
import Derived.Test.YtlibbociineppaaGreatDoorG40
import Derived.Test.YtlibbociineppaaGreatDoorG39
import Derived.Test.YtlibbociineppaaGreatDoorG13
import Derived.Test.YtlibbociineppaaGreatDoorG24
namespace Go.Proofs.YtlibbociineppaaGreatDoor
set_option linter.unusedVariables false
set_option linter.unusedSimpArgs false
open Go.RowKit Verge Verge.Lit
theorem of12_any (a b:Nat) (w:World):Calls Tryz.prog 25 #[.float .f64 a,.float .f64 b] w fun e w'=>e=.returned (.agg #[.float .f64 a,.float .f64 b])∧Below w.heap.size w w':=by
 have HB:=Lib.hid (fun o=>rnew w o)
 have hsf:=store_f
 go_enter Tryz.func25,Tryz.ntmps25
 go_wp2
 refine bodyPost_ret (v:=.agg #[.float .f64 a,.float .f64 b]) (by simp [results,Tryz.results25,go_sem]) rfl ?_
 exact ⟨rfl,HB.out _⟩
abbrev ivO (a b:Nat):Obj:=.cells #[.float .f64 a,.float .f64 b] 27
theorem ivO_cells {w:World} {B a b:Nat} (h:w.heap[B]?=some (ivO a b)):w.cell? ⟨B,0,none⟩=some (.float .f64 a)∧w.cell? ⟨B,1,none⟩=some (.float .f64 b):=by
 constructor <;> simp [World.cell?,h]
set_option maxRecDepth 100000 in
set_option maxHeartbeats 2000000 in
theorem reads12_ok (s:List UInt8) (S:ByteArray) (hS:bs s=S) (fa fb:Nat) (hl:s.length≤100) (h:litRd s=((fa,fb),0,0)) (hE:((FloatKind.f64.format.order fa fa==some .eq)&&(FloatKind.f64.format.order fb fb==some .eq))=true) (w:World) :
  Calls Tryz.prog 26 #[.string S,.float .f64 fa,.float .f64 fb] w fun e w'=>e=.returned (.bool true)∧Below w.heap.size w w':=by
 have h1:=fun W=>lread_lit s (by omega) W
 rw [h,hS] at h1
 have HR:=Lib.hid h1
 have HO:=Lib.hid (fun W=>of12_any fa fb W)
 have hsf:=store_f
 have heq:∀W:World,(binOp BinOp.eql 27 (.agg #[.float .f64 fa,.float .f64 fb]) (.agg #[.float .f64 fa,.float .f64 fb])).run Tryz.prog W=.ok (.bool true) W:=by
  intro W;rw [eqlF,hE]
 clear h h1 hS hE hl
 go_enter Tryz.func26,Tryz.ntmps26
 go_wp2_with fail
 refine (HR.out _).mono ?_
 rintro e w1 ⟨v1,rfl,rfl,hb1⟩
 have H1:=Lib.hid (heap_alloc_new w1 (ivO fa fb))
 have HB1:=Lib.hid (raft hb1 (rnew w1 (ivO fa fb)))
 clear hb1
 go_upto_region 2 with fail
 refine region_at 14 (Pick [IsV (.agg #[.float .f64 fa,.float .f64 fb]),IsV (.float .f64 fa),IsV (.float .f64 fb),IsV (.agg #[.float .f64 fa,.float .f64 fb]),IsV (.bool true),IsV (.bool true),IsV (.int .i64 0),IsV (.bool true),IsV (.bool true),IsV (.bool true),IsV (.int .i64 0),IsV (.bool true),IsV (.bool true),IsV (.bool true)]) (by kernel_rfl) (by kernel_rfl) (by kernel_rfl) (mono_pick ⟨IsV.mono _,IsV.mono _,IsV.mono _,IsV.mono _,IsV.mono _,IsV.mono _,IsV.mono _,IsV.mono _,IsV.mono _,IsV.mono _,IsV.mono _,IsV.mono _,IsV.mono _,IsV.mono _,trivial⟩) ⟨?_,?_,?_,?_,?_,?_,?_,?_,?_,?_,?_,?_,?_,?_,trivial⟩ ?_
 ·intro a W hsz hb hS
  have h7:a.tmps.getD 7 undef=.pointer (some ⟨w1.heap.size,0,none⟩):=hS.1
  clear hS hsz
  refine will_of rfl ?_
  have hh:=(hb.block w1.heap.size (Array.getElem?_eq_some_iff.1 H1.out).1).trans H1.out
  obtain ⟨d0,d1⟩:=ivO_cells hh
  intro K hK
  go_simp
  exact hK _ _ ⟨Below.refl _ _,rfl⟩
 ·intro a W hsz hb hS
  have h1:a.tmps.getD 1 undef=.float .f64 fa:=hS.1
  clear hS hsz
  refine will_of rfl ?_
  intro K hK
  go_simp
  exact hK _ _ ⟨Below.refl _ _,rfl⟩
 ·intro a W hsz hb hS
  have h2:a.tmps.getD 2 undef=.float .f64 fb:=hS.1
  clear hS hsz
  refine will_of rfl ?_
  intro K hK
  go_simp
  exact hK _ _ ⟨Below.refl _ _,rfl⟩
 ·intro a W hsz hb hS
  have h17:a.tmps.getD 17 undef=.float .f64 fa:=hS.1
  have h18:a.tmps.getD 18 undef=.float .f64 fb:=hS.2.1
  clear hS hsz
  refine will_of rfl ?_
  have hh:=(hb.block w1.heap.size (Array.getElem?_eq_some_iff.1 H1.out).1).trans H1.out
  obtain ⟨d0,d1⟩:=ivO_cells hh
  intro K hK
  go_simp
  refine (HO.out _).mono ?_
  rintro e W' ⟨rfl,hb'⟩
  exact hK _ _ ⟨hb',rfl⟩
 ·intro a W hsz hb hS
  have h16:a.tmps.getD 16 undef=.agg #[.float .f64 fa,.float .f64 fb]:=hS.1
  have h19:a.tmps.getD 19 undef=.agg #[.float .f64 fa,.float .f64 fb]:=hS.2.1
  clear hS hsz
  refine will_of rfl ?_
  intro K hK
  go_simp
  exact hK _ _ ⟨Below.refl _ _,rfl⟩
 ·intro a W hsz hb hS
  have h20:a.tmps.getD 20 undef=.bool true:=hS.1
  clear hS hsz
  refine will_of rfl ?_
  intro K hK
  go_simp
  exact hK _ _ ⟨Below.refl _ _,rfl⟩
 ·intro a W hsz hb hS
  have h8:a.tmps.getD 8 undef=.int .i64 0:=hS.1
  have h21:a.tmps.getD 21 undef=.bool true:=hS.2.1
  clear hS hsz
  refine will_yes rfl rfl h21 ?_
  intro K hK
  go_simp
  exact hK _ _ ⟨Below.refl _ _,rfl⟩
 ·intro a W hsz hb hS
  have h22:a.tmps.getD 22 undef=.int .i64 0:=hS.1
  have h21:a.tmps.getD 21 undef=.bool true:=hS.2.1
  clear hS hsz
  refine will_yes rfl rfl h21 ?_
  intro K hK
  go_simp
  exact hK _ _ ⟨Below.refl _ _,rfl⟩
 ·intro a W hsz hb hS
  have h21:a.tmps.getD 21 undef=.bool true:=hS.1
  have h23:a.tmps.getD 23 undef=.bool true:=hS.2.1
  clear hS hsz
  refine will_of rfl ?_
  intro K hK
  go_simp
  exact hK _ _ ⟨Below.refl _ _,rfl⟩
 ·intro a W hsz hb hS
  have h24:a.tmps.getD 24 undef=.bool true:=hS.1
  clear hS hsz
  refine will_of rfl ?_
  intro K hK
  go_simp
  exact hK _ _ ⟨Below.refl _ _,rfl⟩
 ·intro a W hsz hb hS
  have h9:a.tmps.getD 9 undef=.int .i64 0:=hS.1
  have h25:a.tmps.getD 25 undef=.bool true:=hS.2.1
  clear hS hsz
  refine will_yes rfl rfl h25 ?_
  intro K hK
  go_simp
  exact hK _ _ ⟨Below.refl _ _,rfl⟩
 ·intro a W hsz hb hS
  have h26:a.tmps.getD 26 undef=.int .i64 0:=hS.1
  have h25:a.tmps.getD 25 undef=.bool true:=hS.2.1
  clear hS hsz
  refine will_yes rfl rfl h25 ?_
  intro K hK
  go_simp
  exact hK _ _ ⟨Below.refl _ _,rfl⟩
 ·intro a W hsz hb hS
  have h25:a.tmps.getD 25 undef=.bool true:=hS.1
  have h27:a.tmps.getD 27 undef=.bool true:=hS.2.1
  clear hS hsz
  refine will_of rfl ?_
  intro K hK
  go_simp
  exact hK _ _ ⟨Below.refl _ _,rfl⟩
 ·intro a W hsz hb hS
  have h28:a.tmps.getD 28 undef=.bool true:=hS.1
  clear hS hsz
  refine will_of rfl ?_
  intro K hK
  go_simp
  exact hK _ _ ⟨Below.refl _ _,rfl⟩
 intro f W hb hH
 have e0:f 0=.agg #[.float .f64 fa,.float .f64 fb]:=hH.1
 have e1:f 1=.float .f64 fa:=hH.2.1
 have e2:f 2=.float .f64 fb:=hH.2.2.1
 have e3:f 3=.agg #[.float .f64 fa,.float .f64 fb]:=hH.2.2.2.1
 have e4:f 4=.bool true:=hH.2.2.2.2.1
 have e5:f 5=.bool true:=hH.2.2.2.2.2.1
 have e6:f 6=.int .i64 0:=hH.2.2.2.2.2.2.1
 have e7:f 7=.bool true:=hH.2.2.2.2.2.2.2.1
 have e8:f 8=.bool true:=hH.2.2.2.2.2.2.2.2.1
 have e9:f 9=.bool true:=hH.2.2.2.2.2.2.2.2.2.1
 have e10:f 10=.int .i64 0:=hH.2.2.2.2.2.2.2.2.2.2.1
 have e11:f 11=.bool true:=hH.2.2.2.2.2.2.2.2.2.2.2.1
 have e12:f 12=.bool true:=hH.2.2.2.2.2.2.2.2.2.2.2.2.1
 have e13:f 13=.bool true:=hH.2.2.2.2.2.2.2.2.2.2.2.2.2.1
 simp only [List.take_succ_cons,List.take_zero,List.drop_succ_cons,List.drop_zero,putFrom,Act.put,List.setIfInBounds_toArray,List.set_cons_zero,List.set_cons_succ,Nat.reduceAdd,e0,e1,e2,e3,e4,e5,e6,e7,e8,e9,e10,e11,e12,e13]
 clear e0 e1 e2 e3 e4 e5 e6 e7 e8 e9 e10 e11 e12 e13 hH f
 have HW:=Lib.hid (raft HB1.out hb)
 clear hb
 go_wp2
 go_ret
 exact ⟨rfl,HW.out⟩
def lN:Nat:=fbF 4591870180066957722*2^((fbE 4591870180066957722:Int) - 1074).toNat
def lD:Nat:=2^(-((fbE 4591870180066957722:Int) - 1074)).toNat
set_option maxRecDepth 100000 in
theorem ll_K:∀m:Nat,m<2601→(qat lN lD ((m:Int) - 1600)<100∧10≤qat lN lD ((m:Int) - 1600))→m=1598:=by decide +kernel
set_option maxRecDepth 100000 in
theorem ll_p1:prT (-1) (decide (9223372036854775808≤4591870180066957722)) lN lD (-2) 2=[49,46,48,101,45,49]:=by decide +kernel
set_option maxRecDepth 100000 in
theorem ll_p2:prT 1 (decide (9223372036854775808≤4591870180066957722)) lN lD (-2) 2=[49,46,49,101,45,49]:=by decide +kernel
theorem ll_k {K:Int} (h1 : -1600≤K) (h2:K≤1000) (h:dcnt (qat lN lD K)=2):K = -2:=by
 obtain ⟨a1,a2⟩:=dcnt_spec (qat lN lD K)
 rw [h] at a1 a2
 have h0:0<qat lN lD K:=by
  rcases Nat.eq_zero_or_pos (qat lN lD K) with e | e
  ·rw [e,dcnt_zero] at h;omega
  ·exact e
 have:=ll_K (K+1600).toNat (by omega) (by
  rw [show (((K+1600).toNat:Nat):Int) - 1600=K by omega]
  exact ⟨a1,(a2 h0).2⟩)
 omega
theorem ll_pr (d:Int) (t:List UInt8) (h:prT d (decide (9223372036854775808≤4591870180066957722)) lN lD (-2) 2=t):PrP d 4591870180066957722 2 t 0:=by
 intro W hW
 refine (print_num d 4591870180066957722 2 (by decide) (by decide) (by decide) (by decide +kernel) (by decide) lN lD rfl rfl W hW).mono ?_
 rintro e w' ⟨K,k1,k2,hk,rfl,hb⟩
 rw [ll_k k1 k2 hk,h]
 exact ⟨rfl,hb⟩
set_option maxRecDepth 100000 in
theorem ll_flo:flo 4591870180066957722 4591870180066957722=4591870180066957722∧fhi 4591870180066957722 4591870180066957722=4591870180066957722:=by decide +kernel
set_option maxRecDepth 100000 in
theorem ll_fl2:flo 4609434218613702656 4609434218613702656=4609434218613702656∧fhi 4609434218613702656 4609434218613702656=4609434218613702656:=by decide +kernel
set_option maxRecDepth 100000 in
theorem ll_ex:litT 4609434218613702656 4609434218613702656=[91,49,46,53,101,48,93]:=by decide +kernel
set_option maxRecDepth 100000 in
theorem ll_q:litQ 4591870180066957722 4591870180066957722 [49,46,48,101,45,49] [49,46,49,101,45,49]=[91,49,46,48,101,45,49,44,32,49,46,49,101,45,49,93]:=by decide +kernel
set_option maxRecDepth 100000 in
theorem ll_r1:litRd [91,49,44,32,50,93]=((4607182418800017408,4611686018427387904),0,0):=by decide +kernel
set_option maxRecDepth 100000 in
theorem ll_r2:litRd [45,49,48,63,50]=((13846317054350589952,13844065254536904704),0,0):=by decide +kernel
set_option maxRecDepth 100000 in
set_option maxHeartbeats 2000000 in
theorem lives12_any (w:World) (hP:Pow10 w):Calls Tryz.prog 10 #[] w fun e w'=>e=.returned (.bool true)∧Below w.heap.size w w':=by
 have H0:=Lib.hid (fun W=>of12_any 4591870180066957722 4591870180066957722 W)
 have H1:=fun W (hW:Pow10 W)=>litPrint_any 4591870180066957722 4591870180066957722 2 (by decide) (by decide) (by decide) (by decide) [49,46,48,101,45,49] [49,46,49,101,45,49] 0 0 (by rw [ll_flo.1];exact ll_pr (-1) _ ll_p1) (by rw [ll_flo.2];exact ll_pr 1 _ ll_p2) (by simp) (by simp) W hW
 rw [ll_flo.1,ll_flo.2,ll_q] at H1
 have H1:=Lib.hid H1
 have H2:=Lib.hid (fun W=>reads12_ok [91,49,44,32,50,93] { data:=#[91,49,44,32,50,93] } rfl _ _ (by decide) ll_r1 (by decide +kernel) W)
 have H3:=Lib.hid (fun W=>reads12_ok [45,49,48,63,50] { data:=#[45,49,48,63,50] } rfl _ _ (by decide) ll_r2 (by decide +kernel) W)
 have H4:=Lib.hid (fun W=>of12_any 4609434218613702656 4609434218613702656 W)
 have H5:=fun W (hW:Pow10 W)=>litExact_any 4609434218613702656 4609434218613702656 (by decide) (by decide) W hW
 rw [ll_fl2.1,ll_fl2.2,ll_ex] at H5
 have H5:=Lib.hid H5
 have HPP:=Lib.hid hP
 clear hP
 have hs1:((bs [91,49,46,53,101,48,93]).toList==[91,49,46,53,101,48,93])=true:=by rw [ByteArray.toList_eq,bs_list];decide
 have hs2:((bs [91,49,46,48,101,45,49,44,32,49,46,49,101,45,49,93]).toList==[91,49,46,48,101,45,49,44,32,49,46,49,101,45,49,93])=true:=by rw [ByteArray.toList_eq,bs_list];decide
 go_enter Tryz.func10,Tryz.ntmps10
 go_wp2_with fail
 refine (H0.out _).mono ?_
 rintro e w1 ⟨rfl,hb⟩
 have HB:=Lib.hid hb
 clear hb
 go_wp2_with fail
 refine (H1.out _ (HPP.out.below HB.out)).mono ?_
 rintro e w2 ⟨rfl,hb⟩
 have HB:=Lib.hid (raft HB.out hb)
 clear hb
 go_wp2_with fail
 refine (H2.out _).mono ?_
 rintro e w3 ⟨rfl,hb⟩
 have HB:=Lib.hid (raft HB.out hb)
 clear hb
 go_wp2_with fail
 refine (H3.out _).mono ?_
 rintro e w4 ⟨rfl,hb⟩
 have HB:=Lib.hid (raft HB.out hb)
 clear hb
 go_wp2_with fail
 refine (H4.out _).mono ?_
 rintro e w5 ⟨rfl,hb⟩
 have HB:=Lib.hid (raft HB.out hb)
 clear hb
 go_wp2_with fail
 refine (H5.out _ (HPP.out.below HB.out)).mono ?_
 rintro e w6 ⟨rfl,hb⟩
 have HB:=Lib.hid (raft HB.out hb)
 clear hb
 go_wp2
 go_ret
 exact ⟨rfl,HB.out⟩
end Go.Proofs.YtlibbociineppaaGreatDoor
