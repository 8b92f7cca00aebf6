/- Layer 12: what lives asks: four answers. -/
import Derived.Test.YtigmpifjcijdbaaGreatDoorG42
import Derived.Test.YtigmpifjcijdbaaGreatDoorG48
import Derived.Test.YtigmpifjcijdbaaGreatDoorG47
import Derived.Test.YtigmpifjcijdbaaGreatDoorG15
import Derived.Test.YtigmpifjcijdbaaGreatDoorG27
import Derived.Test.YtigmpifjcijdbaaGreatDoorG43
section
namespace Go.Proofs.YtigmpifjcijdbaaGreatDoor
set_option linter.unusedVariables false
set_option linter.unusedSimpArgs false
open Go.RowKit Verge Verge.Lit
theorem of12_any (a b:Nat) (w:World):Calls Tryz.prog 29 #[.float .f64 a,.float .f64 b] w fun e w'=>e=.returned (.agg #[.float .f64 a,.float .f64 b])∧Below w.heap.size w w':=by
 have HB:=Lib.hid (fun o=>rnew w o)
 have hsf:=store_f
 go_enter Tryz.func29,Tryz.ntmps29
 go_wp2
 refine bodyPost_ret (v:=.agg #[.float .f64 a,.float .f64 b]) (by simp [results,Tryz.results29,go_sem]) rfl ?_
 exact ⟨rfl,HB.out _⟩
abbrev ivO (a b:Nat):Obj:=.cells #[.float .f64 a,.float .f64 b] 34
theorem ivO_cells {w:World} {B a b:Nat} (h:w.heap[B]?=some (ivO a b)):w.cell? ⟨B,0,none⟩=some (.float .f64 a)∧w.cell? ⟨B,1,none⟩=some (.float .f64 b):=by
 constructor <;> simp [World.cell?,h]
set_option maxRecDepth 100000 in
set_option maxHeartbeats 2000000 in
theorem reads12_ok (s:List UInt8) (S:ByteArray) (hS:bs s=S) (fa fb:Nat) (hl:s.length≤100) (h:litRd s=((fa,fb),0,0)) (hE:((FloatKind.f64.format.order fa fa==some .eq)&&(FloatKind.f64.format.order fb fb==some .eq))=true) (w:World) :
  Calls Tryz.prog 30 #[.string S,.float .f64 fa,.float .f64 fb] w fun e w'=>e=.returned (.bool true)∧Below w.heap.size w w':=by
 have h1:=fun W=>lread_lit s (by omega) W
 rw [h,hS] at h1
 have HR:=Lib.hid h1
 have HO:=Lib.hid (fun W=>of12_any fa fb W)
 have hsf:=store_f
 have heq:∀W:World,(binOp BinOp.eql 34 (.agg #[.float .f64 fa,.float .f64 fb]) (.agg #[.float .f64 fa,.float .f64 fb])).run Tryz.prog W=.ok (.bool true) W:=by
  intro W;rw [eqlF,hE]
 clear h h1 hS hE hl
 go_enter Tryz.func30,Tryz.ntmps30
 go_wp2_with fail
 refine (HR.out _).mono ?_
 rintro e w1 ⟨v1,rfl,rfl,hb1⟩
 have H1:=Lib.hid (heap_alloc_new w1 (ivO fa fb))
 have HB1:=Lib.hid (raft hb1 (rnew w1 (ivO fa fb)))
 clear hb1
 go_upto_region 2 with fail
 refine region_at 14 (Pick [IsV (.agg #[.float .f64 fa,.float .f64 fb]),IsV (.float .f64 fa),IsV (.float .f64 fb),IsV (.agg #[.float .f64 fa,.float .f64 fb]),IsV (.bool true),IsV (.bool true),IsV (.int .i64 0),IsV (.bool true),IsV (.bool true),IsV (.bool true),IsV (.int .i64 0),IsV (.bool true),IsV (.bool true),IsV (.bool true)]) (by kernel_rfl) (by kernel_rfl) (by kernel_rfl) (mono_pick ⟨IsV.mono _,IsV.mono _,IsV.mono _,IsV.mono _,IsV.mono _,IsV.mono _,IsV.mono _,IsV.mono _,IsV.mono _,IsV.mono _,IsV.mono _,IsV.mono _,IsV.mono _,IsV.mono _,trivial⟩) ⟨?_,?_,?_,?_,?_,?_,?_,?_,?_,?_,?_,?_,?_,?_,trivial⟩ ?_
 ·intro a W hsz hb hS
  have h7:a.tmps.getD 7 undef=.pointer (some ⟨w1.heap.size,0,none⟩):=hS.1
  clear hS hsz
  refine will_of rfl ?_
  have hh:=(hb.block w1.heap.size (Array.getElem?_eq_some_iff.1 H1.out).1).trans H1.out
  obtain ⟨d0,d1⟩:=ivO_cells hh
  intro K hK
  go_simp
  exact hK _ _ ⟨Below.refl _ _,rfl⟩
 ·intro a W hsz hb hS
  have h1:a.tmps.getD 1 undef=.float .f64 fa:=hS.1
  clear hS hsz
  refine will_of rfl ?_
  intro K hK
  go_simp
  exact hK _ _ ⟨Below.refl _ _,rfl⟩
 ·intro a W hsz hb hS
  have h2:a.tmps.getD 2 undef=.float .f64 fb:=hS.1
  clear hS hsz
  refine will_of rfl ?_
  intro K hK
  go_simp
  exact hK _ _ ⟨Below.refl _ _,rfl⟩
 ·intro a W hsz hb hS
  have h17:a.tmps.getD 17 undef=.float .f64 fa:=hS.1
  have h18:a.tmps.getD 18 undef=.float .f64 fb:=hS.2.1
  clear hS hsz
  refine will_of rfl ?_
  have hh:=(hb.block w1.heap.size (Array.getElem?_eq_some_iff.1 H1.out).1).trans H1.out
  obtain ⟨d0,d1⟩:=ivO_cells hh
  intro K hK
  go_simp
  refine (HO.out _).mono ?_
  rintro e W' ⟨rfl,hb'⟩
  exact hK _ _ ⟨hb',rfl⟩
 ·intro a W hsz hb hS
  have h16:a.tmps.getD 16 undef=.agg #[.float .f64 fa,.float .f64 fb]:=hS.1
  have h19:a.tmps.getD 19 undef=.agg #[.float .f64 fa,.float .f64 fb]:=hS.2.1
  clear hS hsz
  refine will_of rfl ?_
  intro K hK
  go_simp
  exact hK _ _ ⟨Below.refl _ _,rfl⟩
 ·intro a W hsz hb hS
  have h20:a.tmps.getD 20 undef=.bool true:=hS.1
  clear hS hsz
  refine will_of rfl ?_
  intro K hK
  go_simp
  exact hK _ _ ⟨Below.refl _ _,rfl⟩
 ·intro a W hsz hb hS
  have h8:a.tmps.getD 8 undef=.int .i64 0:=hS.1
  have h21:a.tmps.getD 21 undef=.bool true:=hS.2.1
  clear hS hsz
  refine will_yes rfl rfl h21 ?_
  intro K hK
  go_simp
  exact hK _ _ ⟨Below.refl _ _,rfl⟩
 ·intro a W hsz hb hS
  have h22:a.tmps.getD 22 undef=.int .i64 0:=hS.1
  have h21:a.tmps.getD 21 undef=.bool true:=hS.2.1
  clear hS hsz
  refine will_yes rfl rfl h21 ?_
  intro K hK
  go_simp
  exact hK _ _ ⟨Below.refl _ _,rfl⟩
 ·intro a W hsz hb hS
  have h21:a.tmps.getD 21 undef=.bool true:=hS.1
  have h23:a.tmps.getD 23 undef=.bool true:=hS.2.1
  clear hS hsz
  refine will_of rfl ?_
  intro K hK
  go_simp
  exact hK _ _ ⟨Below.refl _ _,rfl⟩
 ·intro a W hsz hb hS
  have h24:a.tmps.getD 24 undef=.bool true:=hS.1
  clear hS hsz
  refine will_of rfl ?_
  intro K hK
  go_simp
  exact hK _ _ ⟨Below.refl _ _,rfl⟩
 ·intro a W hsz hb hS
  have h9:a.tmps.getD 9 undef=.int .i64 0:=hS.1
  have h25:a.tmps.getD 25 undef=.bool true:=hS.2.1
  clear hS hsz
  refine will_yes rfl rfl h25 ?_
  intro K hK
  go_simp
  exact hK _ _ ⟨Below.refl _ _,rfl⟩
 ·intro a W hsz hb hS
  have h26:a.tmps.getD 26 undef=.int .i64 0:=hS.1
  have h25:a.tmps.getD 25 undef=.bool true:=hS.2.1
  clear hS hsz
  refine will_yes rfl rfl h25 ?_
  intro K hK
  go_simp
  exact hK _ _ ⟨Below.refl _ _,rfl⟩
 ·intro a W hsz hb hS
  have h25:a.tmps.getD 25 undef=.bool true:=hS.1
  have h27:a.tmps.getD 27 undef=.bool true:=hS.2.1
  clear hS hsz
  refine will_of rfl ?_
  intro K hK
  go_simp
  exact hK _ _ ⟨Below.refl _ _,rfl⟩
 ·intro a W hsz hb hS
  have h28:a.tmps.getD 28 undef=.bool true:=hS.1
  clear hS hsz
  refine will_of rfl ?_
  intro K hK
  go_simp
  exact hK _ _ ⟨Below.refl _ _,rfl⟩
 intro f W hb hH
 have e0:f 0=.agg #[.float .f64 fa,.float .f64 fb]:=hH.1
 have e1:f 1=.float .f64 fa:=hH.2.1
 have e2:f 2=.float .f64 fb:=hH.2.2.1
 have e3:f 3=.agg #[.float .f64 fa,.float .f64 fb]:=hH.2.2.2.1
 have e4:f 4=.bool true:=hH.2.2.2.2.1
 have e5:f 5=.bool true:=hH.2.2.2.2.2.1
 have e6:f 6=.int .i64 0:=hH.2.2.2.2.2.2.1
 have e7:f 7=.bool true:=hH.2.2.2.2.2.2.2.1
 have e8:f 8=.bool true:=hH.2.2.2.2.2.2.2.2.1
 have e9:f 9=.bool true:=hH.2.2.2.2.2.2.2.2.2.1
 have e10:f 10=.int .i64 0:=hH.2.2.2.2.2.2.2.2.2.2.1
 have e11:f 11=.bool true:=hH.2.2.2.2.2.2.2.2.2.2.2.1
 have e12:f 12=.bool true:=hH.2.2.2.2.2.2.2.2.2.2.2.2.1
 have e13:f 13=.bool true:=hH.2.2.2.2.2.2.2.2.2.2.2.2.2.1
 simp only [List.take_succ_cons,List.take_zero,List.drop_succ_cons,List.drop_zero,putFrom,Act.put,List.setIfInBounds_toArray,List.set_cons_zero,List.set_cons_succ,Nat.reduceAdd,e0,e1,e2,e3,e4,e5,e6,e7,e8,e9,e10,e11,e12,e13]
 clear e0 e1 e2 e3 e4 e5 e6 e7 e8 e9 e10 e11 e12 e13 hH f
 have HW:=Lib.hid (raft HB1.out hb)
 clear hb
 go_wp2
 go_ret
 exact ⟨rfl,HW.out⟩
def lN:Nat:=fbF 4591870180066957722*2^((fbE 4591870180066957722:Int) - 1074).toNat
def lD:Nat:=2^(-((fbE 4591870180066957722:Int) - 1074)).toNat
set_option maxRecDepth 100000 in
theorem ll_K:∀m:Nat,m<2601→(qat lN lD ((m:Int) - 1600)<100∧10≤qat lN lD ((m:Int) - 1600))→m=1598:=by decide +kernel
set_option maxRecDepth 100000 in
theorem ll_p1:prT (-1) (decide (9223372036854775808≤4591870180066957722)) lN lD (-2) 2=[49,46,48,101,45,49]:=by decide +kernel
set_option maxRecDepth 100000 in
theorem ll_p2:prT 1 (decide (9223372036854775808≤4591870180066957722)) lN lD (-2) 2=[49,46,49,101,45,49]:=by decide +kernel
theorem ll_k {K:Int} (h1 : -1600≤K) (h2:K≤1000) (h:dcnt (qat lN lD K)=2):K = -2:=by
 obtain ⟨a1,a2⟩:=dcnt_spec (qat lN lD K)
 rw [h] at a1 a2
 have h0:0<qat lN lD K:=by
  rcases Nat.eq_zero_or_pos (qat lN lD K) with e | e
  ·rw [e,dcnt_zero] at h;omega
  ·exact e
 have:=ll_K (K+1600).toNat (by omega) (by
  rw [show (((K+1600).toNat:Nat):Int) - 1600=K by omega]
  exact ⟨a1,(a2 h0).2⟩)
 omega
theorem ll_pr (d:Int) (t:List UInt8) (h:prT d (decide (9223372036854775808≤4591870180066957722)) lN lD (-2) 2=t):PrP d 4591870180066957722 2 t 0:=by
 intro W hW
 refine (print_num d 4591870180066957722 2 (by decide) (by decide) (by decide) (by decide +kernel) (by decide) lN lD rfl rfl W hW).mono ?_
 rintro e w' ⟨K,k1,k2,hk,rfl,hb⟩
 rw [ll_k k1 k2 hk,h]
 exact ⟨rfl,hb⟩
set_option maxRecDepth 100000 in
theorem ll_flo:flo 4591870180066957722 4591870180066957722=4591870180066957722∧fhi 4591870180066957722 4591870180066957722=4591870180066957722:=by decide +kernel
set_option maxRecDepth 100000 in
theorem ll_fl2:flo 4609434218613702656 4609434218613702656=4609434218613702656∧fhi 4609434218613702656 4609434218613702656=4609434218613702656:=by decide +kernel
set_option maxRecDepth 100000 in
theorem ll_ex:litT 4609434218613702656 4609434218613702656=[91,49,46,53,101,48,93]:=by decide +kernel
set_option maxRecDepth 100000 in
theorem ll_q:litQ 4591870180066957722 4591870180066957722 [49,46,48,101,45,49] [49,46,49,101,45,49]=[91,49,46,48,101,45,49,44,32,49,46,49,101,45,49,93]:=by decide +kernel
set_option maxRecDepth 100000 in
theorem ll_r1:litRd [91,49,44,32,50,93]=((4607182418800017408,4611686018427387904),0,0):=by decide +kernel
set_option maxRecDepth 100000 in
theorem ll_r2:litRd [45,49,48,63,50]=((13846317054350589952,13844065254536904704),0,0):=by decide +kernel
set_option maxRecDepth 100000 in
set_option maxHeartbeats 2000000 in
theorem lives12_any (w:World) (hP:Pow10 w):Calls Tryz.prog 12 #[] w fun e w'=>e=.returned (.bool true)∧Below w.heap.size w w':=by
 have H0:=Lib.hid (fun W=>of12_any 4591870180066957722 4591870180066957722 W)
 have H1:=fun W (hW:Pow10 W)=>litPrint_any 4591870180066957722 4591870180066957722 2 (by decide) (by decide) (by decide) (by decide) [49,46,48,101,45,49] [49,46,49,101,45,49] 0 0 (by rw [ll_flo.1];exact ll_pr (-1) _ ll_p1) (by rw [ll_flo.2];exact ll_pr 1 _ ll_p2) (by simp) (by simp) W hW
 rw [ll_flo.1,ll_flo.2,ll_q] at H1
 have H1:=Lib.hid H1
 have H2:=Lib.hid (fun W=>reads12_ok [91,49,44,32,50,93] { data:=#[91,49,44,32,50,93] } rfl _ _ (by decide) ll_r1 (by decide +kernel) W)
 have H3:=Lib.hid (fun W=>reads12_ok [45,49,48,63,50] { data:=#[45,49,48,63,50] } rfl _ _ (by decide) ll_r2 (by decide +kernel) W)
 have H4:=Lib.hid (fun W=>of12_any 4609434218613702656 4609434218613702656 W)
 have H5:=fun W (hW:Pow10 W)=>litExact_any 4609434218613702656 4609434218613702656 (by decide) (by decide) W hW
 rw [ll_fl2.1,ll_fl2.2,ll_ex] at H5
 have H5:=Lib.hid H5
 have HPP:=Lib.hid hP
 clear hP
 have hs1:((bs [91,49,46,53,101,48,93]).toList==[91,49,46,53,101,48,93])=true:=by rw [ByteArray.toList_eq,bs_list];decide
 have hs2:((bs [91,49,46,48,101,45,49,44,32,49,46,49,101,45,49,93]).toList==[91,49,46,48,101,45,49,44,32,49,46,49,101,45,49,93])=true:=by rw [ByteArray.toList_eq,bs_list];decide
 go_enter Tryz.func12,Tryz.ntmps12
 go_wp2_with fail
 refine (H0.out _).mono ?_
 rintro e w1 ⟨rfl,hb⟩
 have HB:=Lib.hid hb
 clear hb
 go_wp2_with fail
 refine (H1.out _ (HPP.out.below HB.out)).mono ?_
 rintro e w2 ⟨rfl,hb⟩
 have HB:=Lib.hid (raft HB.out hb)
 clear hb
 go_wp2_with fail
 refine (H2.out _).mono ?_
 rintro e w3 ⟨rfl,hb⟩
 have HB:=Lib.hid (raft HB.out hb)
 clear hb
 go_wp2_with fail
 refine (H3.out _).mono ?_
 rintro e w4 ⟨rfl,hb⟩
 have HB:=Lib.hid (raft HB.out hb)
 clear hb
 go_wp2_with fail
 refine (H4.out _).mono ?_
 rintro e w5 ⟨rfl,hb⟩
 have HB:=Lib.hid (raft HB.out hb)
 clear hb
 go_wp2_with fail
 refine (H5.out _ (HPP.out.below HB.out)).mono ?_
 rintro e w6 ⟨rfl,hb⟩
 have HB:=Lib.hid (raft HB.out hb)
 clear hb
 go_wp2
 go_ret
 exact ⟨rfl,HB.out⟩
end Go.Proofs.YtigmpifjcijdbaaGreatDoor
end

section
namespace Go.Proofs.YtigmpifjcijdbaaGreatDoor
set_option linter.unusedVariables false
set_option linter.unusedSimpArgs false
open Go.RowKit Verge
def xle (x y:Bool×Nat×Nat×Int):Prop:=sv x.1 x.2.1*(y.2.2.1:Int)≤sv y.1 y.2.1*(x.2.2.1:Int)
end Go.Proofs.YtigmpifjcijdbaaGreatDoor
end

section
namespace Go.Proofs.YtigmpifjcijdbaaGreatDoor
set_option linter.unusedVariables false
set_option linter.unusedSimpArgs false
open Go.RowKit Verge Verge.Lit
theorem run_ndl:∀(s:List UInt8) (n t:Nat),frm (run n s)=.ok t→∀c∈s,ndl c=true
 | [],n,t,h,c,hc=>by simp at hc
 | a::s,n,t,h,c,hc=>by
  rw [run] at h
  by_cases hn:nx n a=18
  ·rw [if_pos hn] at h
   unfold frm at h
   rw [if_neg (by simp)] at h
   cases h
  ·rw [if_neg hn] at h
   rcases List.mem_cons.1 hc with rfl | hc
   ·by_cases e:ndl c=true
    ·exact e
    ·exact absurd (nx_delim (by simpa using e) n) hn
   ·exact run_ndl s _ t h c hc
theorem cut_frm {s:List UInt8} {x:Bool×Pc} (h:cut s=.ok x):∃t,frm (run 0 s)=.ok t:=by
 cases hf:frm (run 0 s) with
 | ok t=>exact ⟨t,rfl⟩
 | error k=>rw [(frm_agree s).1 hf] at h;cases h
theorem nx0_head {c:UInt8} (h:nx 0 c≠18):c.toNat=43∨c.toNat=45∨c.toNat=46∨(48≤c.toNat∧c.toNat≤57):=by
 unfold nx at h
 rw [if_pos (.inl rfl)] at h
 by_cases hs:isS c=true
 ·have:=isS_iff.1 hs;omega
 ·by_cases hd:isD c=true
  ·have:=isD_iff.1 hd;omega
  ·rw [if_neg (fun e=>hs e.2)] at h
   by_cases h48:c.toNat=48
   ·omega
   ·rw [if_neg h48,if_neg hd] at h
    by_cases h46:c.toNat=46
    ·omega
    ·rw [if_neg h46] at h;exact absurd rfl h
theorem num_head {s:List UInt8} {x:Bool×Pc} (h:cut s=.ok x):∃c r,s=c::r∧(c.toNat=43∨c.toNat=45∨c.toNat=46∨(48≤c.toNat∧c.toNat≤57))∧((c.toNat=43∨c.toNat=45)→∃e u,r=e::u∧(e.toNat=46∨(48≤e.toNat∧e.toNat≤57))):=by
 obtain ⟨t,ht⟩:=cut_frm h
 cases s with
 | nil=>cases h
 | cons c r =>
  have hn:nx 0 c≠18:=by
   intro e
   rw [run_stop e] at ht
   unfold frm at ht
   rw [if_neg (by simp)] at ht
   cases ht
  refine ⟨c,r,rfl,nx0_head hn,fun hs => ?_⟩
  have h1:nx 0 c=1:=by
   unfold nx
   rw [if_pos (.inl rfl),if_pos ⟨rfl,isS_iff.2 hs⟩]
  rw [run_go h1 (by decide)] at ht
  cases r with
  | nil=>unfold frm run at ht;rw [if_neg (by simp [endS])] at ht;cases ht
  | cons e u =>
   refine ⟨e,u,rfl,?_⟩
   have hn1:nx 1 e≠18:=by
    intro h18
    rw [run_stop h18] at ht
    unfold frm at ht
    rw [if_neg (by simp)] at ht
    cases ht
   unfold nx at hn1
   rw [if_pos (.inr rfl),if_neg (by simp)] at hn1
   by_cases hd:isD e=true
   ·exact .inr (isD_iff.1 hd)
   ·by_cases h48:e.toNat=48
    ·omega
    ·rw [if_neg h48,if_neg hd] at hn1
     by_cases h46:e.toNat=46
     ·exact .inl h46
     ·rw [if_neg h46] at hn1;exact absurd rfl hn1
theorem scn_cuts {s:List UInt8} {x:Bool×Nat×Nat×Int} (h:scn s=.ok x):∃y,cut s=.ok y∧nlt s=none:=by
 unfold scn at h
 split at h
 ·cases h
 ·split at h
  ·cases h
  ·rename_i n p hc
   split at h
   ·cases h
   ·rename_i hl
    exact ⟨_,hc,nlt_none hc hl⟩
theorem take_ndl {s:List UInt8} (h:∀c∈s,ndl c=true) (d:UInt8) (hd:ndl d=false) (u:List UInt8):(s++d::u).takeWhile ndl=s∧(s++d::u).dropWhile ndl=d::u:=by
 induction s with
 | nil=>exact ⟨List.takeWhile_cons_of_neg (by simp [hd]),List.dropWhile_cons_of_neg (by simp [hd])⟩
 | cons c s ih =>
  have hc:=h c List.mem_cons_self
  have:=ih fun e he=>h e (List.mem_cons_of_mem _ he)
  rw [List.cons_append,List.takeWhile_cons_of_pos hc,List.dropWhile_cons_of_pos hc,this.1,this.2]
  exact ⟨rfl,rfl⟩
theorem numL_of {s:List UInt8} {x:Bool×Pc} (h:cut s=.ok x) (d:UInt8) (hd:ndl d=false) (u:List UInt8):numL (s++d::u)=.ok (s,d::u):=by
 obtain ⟨t,ht⟩:=cut_frm h
 obtain ⟨e1,e2⟩:=take_ndl (run_ndl s 0 t ht) d hd u
 unfold numL
 rw [e1,e2,h]
theorem lo_low {c:UInt8} (h:c.toNat≤64):lo c=c.toNat:=by unfold lo;rw [if_neg (by omega)]
end Go.Proofs.YtigmpifjcijdbaaGreatDoor
end

section
namespace Go.Proofs.YtigmpifjcijdbaaGreatDoor
set_option linter.unusedVariables false
set_option linter.unusedSimpArgs false
open Go.RowKit Verge Verge.Lit
def AllB (b:List UInt8):Prop:=∀c∈b,blk c=true
theorem drop_bl:∀{b:List UInt8} (_:AllB b) (t:List UInt8),(b++t).dropWhile blk=t.dropWhile blk
 | [],_,t=>rfl
 | c::b,h,t=>by
  rw [List.cons_append,List.dropWhile_cons_of_pos (h c List.mem_cons_self)]
  exact drop_bl (fun e he=>h e (List.mem_cons_of_mem _ he)) t
theorem pk_cons (c:UInt8) (s:List UInt8):pk (c::s)=lo c:=rfl
theorem bl_ndl {c:UInt8} (h:blk c=true):ndl c=false:=by unfold ndl;rw [h];rfl
theorem numL_bl {s:List UInt8} {x:Bool×Pc} (h:cut s=.ok x) {b:List UInt8} (hb:AllB b) (d:UInt8) (hd:ndl d=false) (u:List UInt8):numL (s++(b++d::u))=.ok (s,b++d::u):=by
 cases b with
 | nil=>exact numL_of h d hd u
 | cons c b=>exact numL_of h c (bl_ndl (hb c List.mem_cons_self)) (b++d::u)
theorem num_at {s:List UInt8} {x:Bool×Pc} (h:cut s=.ok x) (u:List UInt8) :
  pk (s++u)≠93∧pk (s++u)≠101∧pk (s++u)≠110∧pk (s++u)≠44∧pk (s++u)≠105∧¬(pk (s++u)=45∧pk ((s++u).drop 1)=105)∧¬(pk (s++u)=43∧pk ((s++u).drop 1)=105)∧(s++u).dropWhile blk=s++u:=by
 obtain ⟨c,r,hpc,hc,hcs⟩:=num_head h
 have HCS:=Lib.hid hcs
 clear hcs
 have hpk:pk (s++u)=c.toNat:=by
  rw [hpc,List.cons_append]
  exact lo_low (by omega)
 have hcb:blk c=false:=by simp [blk];omega
 have key:(c.toNat=43∨c.toNat=45)→pk ((s++u).drop 1)≠105:=by
  intro hs h2
  obtain ⟨e',u',hr,he'⟩:=HCS.out hs
  rw [hpc,hr,List.cons_append,List.cons_append,List.drop_one,List.tail_cons] at h2
  have h2:lo e'=105:=h2
  rw [lo_low (by omega)] at h2
  omega
 have K:=Lib.hid key
 clear key
 rw [hpk]
 refine ⟨by omega,by omega,by omega,by omega,by omega,fun e=>K.out (.inr e.1) e.2,fun e=>K.out (.inl e.1) e.2,?_⟩
 rw [hpc,List.cons_append,List.dropWhile_cons_of_neg (by simp [hcb])]
theorem upp_num {q:List UInt8} {y:Bool×Pc} (hq:cut q=.ok y) {b3 b:List UInt8} (h3:AllB b3) (hb:AllB b):uppL (44::(b3++(q++(b++[93]))))=.ok (some (q,q.length+b.length+1),[93]):=by
 obtain ⟨n1,n2,n3,n4,n5,n6,n7,n8⟩:=num_at hq (b++[93])
 unfold uppL
 rw [show wantL 44 (44::(b3++(q++(b++[93]))))=.ok (b3++(q++(b++[93]))) from rfl,bind_ok,drop_bl h3,n8]
 unfold uppB
 rw [if_neg n1,if_neg (by rintro (h | h);exact n5 h;exact n7 h),numL_bl hq hb 93 (by decide),bind_ok]
 dsimp only
 rw [drop_bl hb,show ([93]:List UInt8).dropWhile blk=[93] by decide]
 simp [Nat.add_assoc]
theorem upp_no {b3:List UInt8} (h3:AllB b3):uppL (44::(b3++[93]))=.ok (none,[93]):=by
 unfold uppL
 rw [show wantL 44 (44::(b3++[93]))=.ok (b3++[93]) from rfl,bind_ok,drop_bl h3,show ([93]:List UInt8).dropWhile blk=[93] by decide]
 rfl
theorem pk_bl {b:List UInt8} (hb:AllB b) {d:UInt8} (u:List UInt8) (hd:lo d≠105):pk (b++d::u)≠105:=by
 cases b with
 | nil=>exact hd
 | cons c b =>
  have hc:=hb c List.mem_cons_self
  show lo c≠105
  simp only [blk,decide_eq_true_eq] at hc
  rw [lo_low (by omega)]
  omega
def InfW (w:List UInt8):Prop:=w=[105,110,102]∨w=[73,78,70,73,78,73,84,89]∨w=[73,110,102,105,110,105,116,121]
theorem inf_word {w:List UInt8} (hw:InfW w) {t:List UInt8} (ht:pk t≠105):infL (w++t)=.ok t∧pk (w++t)=105∧(w++t).dropWhile blk=w++t:=by
 rcases hw with rfl | rfl | rfl
 ·refine ⟨?_,rfl,rfl⟩
  show (if pk t=105 then spl [105,110,105,116,121] t else .ok t)=_
  rw [if_neg ht]
 ·exact ⟨rfl,rfl,rfl⟩
 ·exact ⟨rfl,rfl,rfl⟩
theorem upp_inf {w:List UInt8} (hw:InfW w) (plus:Bool) {b3 b:List UInt8} (h3:AllB b3) (hb:AllB b):uppL (44::(b3++((if plus=true then [43] else [])++(w++(b++[93])))))=.ok (none,[93]):=by
 obtain ⟨i1,i2,i3⟩:=inf_word hw (pk_bl hb [] (d:=93) (by decide))
 unfold uppL
 rw [show wantL 44 (44::(b3++((if plus=true then [43] else [])++(w++(b++[93])))))=.ok (b3++((if plus=true then [43] else [])++(w++(b++[93])))) from rfl,bind_ok,drop_bl h3]
 cases plus
 ·rw [if_neg (by simp),List.nil_append,i3]
  unfold uppB
  have hne:(isL 43 (w++(b++[93]))).2=w++(b++[93]):=by
   rcases hw with rfl | rfl | rfl <;> rfl
  rw [if_neg (by rw [i2];omega),if_pos (.inl i2),hne,i1,bind_ok,drop_bl hb,show ([93]:List UInt8).dropWhile blk=[93] by decide]
 ·rw [if_pos rfl,List.cons_append,List.nil_append,show ((43:UInt8)::(w++(b++[93]))).dropWhile blk=43::(w++(b++[93])) from List.dropWhile_cons_of_neg (by decide)]
  unfold uppB
  rw [if_neg (show ¬pk (43::(w++(b++[93])))=93 by rw [pk_cons];decide),if_pos (.inr ⟨rfl,i2⟩),show (isL 43 (43::(w++(b++[93])))).2=w++(b++[93]) from rfl,i1,bind_ok,drop_bl hb,show ([93]:List UInt8).dropWhile blk=[93] by decide]
theorem bra_num {p:List UInt8} {x:Bool×Pc} (hp:cut p=.ok x) {b1 b2:List UInt8} (h1:AllB b1) (h2:AllB b2) {u:List UInt8} {o:Option (List UInt8×Nat)} (hu:uppL (44::u)=.ok (o,[93])) :
  braL false (b1++(p++(b2++44::u)))=.ok (.two (some (p,p.length+b2.length+u.length+1)) o,[]):=by
 obtain ⟨n1,n2,n3,n4,n5,n6,n7,n8⟩:=num_at hp (b2++44::u)
 unfold braL
 rw [drop_bl h1,n8]
 unfold braL1
 rw [if_neg n1,if_neg n2,if_neg (by simp),if_neg n4,if_neg n6,numL_bl hp h2 44 (by decide),bind_ok]
 dsimp only
 rw [drop_bl h2,show ((44:UInt8)::u).dropWhile blk=44::u from List.dropWhile_cons_of_neg (by decide),if_pos (show pk (44::u)=44 from rfl),hu,bind_ok]
 unfold cloL
 rw [show wantL 93 [93]=.ok [] from rfl,bind_ok]
 simp only [List.length_append,List.length_cons]
 rw [show p.length+(b2.length+(u.length+1))=p.length+b2.length+u.length+1 by omega]
theorem bra_one {p:List UInt8} {x:Bool×Pc} (hp:cut p=.ok x) {b1 b2:List UInt8} (h1:AllB b1) (h2:AllB b2) :
  braL false (b1++(p++(b2++[93])))=.ok (.one p (p.length+b2.length+1),[]):=by
 obtain ⟨n1,n2,n3,n4,n5,n6,n7,n8⟩:=num_at hp (b2++[93])
 unfold braL
 rw [drop_bl h1,n8]
 unfold braL1
 rw [if_neg n1,if_neg n2,if_neg (by simp),if_neg n4,if_neg n6,numL_bl hp h2 93 (by decide),bind_ok]
 dsimp only
 rw [drop_bl h2,show ([93]:List UInt8).dropWhile blk=[93] by decide,if_neg (show ¬pk [93]=44 by decide)]
 unfold cloL
 rw [show wantL 93 [93]=.ok [] from rfl,bind_ok]
 simp only [List.length_append,List.length_cons,List.length_nil]
 rw [show p.length+(b2.length+(0+1))=p.length+b2.length+1 by omega]
theorem bra_no {b1:List UInt8} (h1:AllB b1) {u:List UInt8} {o:Option (List UInt8×Nat)} (hu:uppL (44::u)=.ok (o,[93])) :
  braL false (b1++44::u)=.ok (.two none o,[]):=by
 unfold braL
 rw [drop_bl h1,show ((44:UInt8)::u).dropWhile blk=44::u from List.dropWhile_cons_of_neg (by decide)]
 unfold braL1
 rw [if_neg (show ¬pk (44::u)=93 by rw [pk_cons];decide),if_neg (show ¬pk (44::u)=101 by rw [pk_cons];decide),if_neg (by simp),if_pos (show pk (44::u)=44 from rfl),hu,bind_ok]
 unfold cloL
 rw [show wantL 93 [93]=.ok [] from rfl,bind_ok]
theorem bra_inf {w:List UInt8} (hw:InfW w) {b1 b2:List UInt8} (h1:AllB b1) (h2:AllB b2) {u:List UInt8} {o:Option (List UInt8×Nat)} (hu:uppL (44::u)=.ok (o,[93])) :
  braL false (b1++45::(w++(b2++44::u)))=.ok (.two none o,[]):=by
 obtain ⟨i1,i2,i3⟩:=inf_word hw (pk_bl h2 u (d:=44) (by decide))
 unfold braL
 rw [drop_bl h1,show ((45:UInt8)::(w++(b2++44::u))).dropWhile blk=45::(w++(b2++44::u)) from List.dropWhile_cons_of_neg (by decide)]
 unfold braL1
 rw [if_neg (show ¬pk (45::(w++(b2++44::u)))=93 by rw [pk_cons];decide),if_neg (show ¬pk (45::(w++(b2++44::u)))=101 by rw [pk_cons];decide),if_neg (by simp),if_neg (show ¬pk (45::(w++(b2++44::u)))=44 by rw [pk_cons];decide),if_pos ⟨rfl,i2⟩,
  show ((45:UInt8)::(w++(b2++44::u))).drop 1=w++(b2++44::u) from rfl,i1,bind_ok,drop_bl h2,show ((44:UInt8)::u).dropWhile blk=44::u from List.dropWhile_cons_of_neg (by decide),if_pos (show pk (44::u)=44 from rfl),hu,bind_ok]
 unfold cloL
 rw [show wantL 93 [93]=.ok [] from rfl,bind_ok]
theorem litRd_bra {r:List UInt8} {y:Br} (h:braL false r=.ok (y,[])) (hl:r.length≤4095) (hlate:lateB (r.length+1) y (0,0)=(0,0)):litRd (91::r)=((brLo y,brHi y),0,0):=by
 unfold litRd litA
 rw [if_neg (by simp;omega)]
 unfold litR
 have hf:firstL false (91::r)=.ok (.br y,[]):=by
  unfold firstL
  rw [show isL 91 (91::r)=(true,r) from rfl,if_pos rfl,h]
  rfl
 rw [hf]
 dsimp only
 rw [if_neg (by simp),show lateF (91::r:List UInt8).length (.br y) (0,0)=lateB (r.length+1) y (0,0) from rfl,hlate,if_neg (by simp)]
 rfl
theorem late_no {n:Nat} {p:List UInt8} {x:Bool×Nat×Nat×Int} (hp:scn p=.ok x):lateN n p (0,0)=(0,0):=by
 obtain ⟨xp,hcp,hnp⟩:=scn_cuts hp
 unfold lateN;rw [hnp]
theorem scn_ne {p:List UInt8} {x:Bool×Nat×Nat×Int} (hp:scn p=.ok x):p≠[]:=by
 obtain ⟨xp,hcp,hnp⟩:=scn_cuts hp
 rintro rfl
 cases hcp
theorem rd_two {p q:List UInt8} {x y:Bool×Nat×Nat×Int} (hp:scn p=.ok x) (hq:scn q=.ok y) (ho:ordS x y≤0) {b1 b2 b3 b4:List UInt8} (h1:AllB b1) (h2:AllB b2) (h3:AllB b3) (h4:AllB b4) (hl:b1.length+p.length+b2.length+b3.length+q.length+b4.length≤4000) :
  litRd (91::(b1++(p++(b2++44::(b3++(q++(b4++[93])))))))=(((readS (-1) p).1,(readS 1 q).1),0,0):=by
 obtain ⟨xp,hcp,hnp⟩:=scn_cuts hp
 obtain ⟨xq,hcq,hnq⟩:=scn_cuts hq
 have hcmp:cmpS p q=(ordS x y,0,0):=by
  unfold cmpS;rw [hp,hq]
 rw [litRd_bra (bra_num hcp h1 h2 (upp_num hcq h3 h4)) (by simp;omega) ?_]
 ·show ((brLo _,brHi _),_,_)=_
  unfold brLo brHi
  rw [if_neg (show brLoT (.two (some (p,_)) (some (q,_)))≠[] from scn_ne hp),if_neg (show brHiT (.two (some (p,_)) (some (q,_)))≠[] from scn_ne hq)]
  rfl
 ·show lateU _ p (some (q,_)) (lateN _ p (0,0))=_
  rw [late_no hp]
  unfold lateU
  dsimp only
  rw [late_no hq,hcmp,if_neg (fun e=>by have:=e.2.2;dsimp only at this;omega)]
theorem rd_low {p:List UInt8} {x:Bool×Nat×Nat×Int} (hp:scn p=.ok x) {b1 b2 u:List UInt8} (h1:AllB b1) (h2:AllB b2) (hu:uppL (44::u)=.ok (none,[93])) (hl:b1.length+p.length+b2.length+u.length≤4000) :
  litRd (91::(b1++(p++(b2++44::u))))=(((readS (-1) p).1,9218868437227405312),0,0):=by
 obtain ⟨xp,hcp,hnp⟩:=scn_cuts hp
 rw [litRd_bra (bra_num hcp h1 h2 hu) (by simp;omega) ?_]
 ·show ((brLo _,brHi _),_,_)=_
  unfold brLo brHi
  rw [if_neg (show brLoT (.two (some (p,_)) none)≠[] from scn_ne hp)]
  rfl
 ·show lateU 0 p none (lateN _ p (0,0))=_
  rw [late_no hp]
  rfl
theorem rd_upp {q:List UInt8} {y:Bool×Nat×Nat×Int} (hq:scn q=.ok y) {r:List UInt8} {k:Nat} (hr:braL false r=.ok (.two none (some (q,k)),[])) (hl:r.length≤4000) :
  litRd (91::r)=((18442240474082181120,(readS 1 q).1),0,0):=by
 rw [litRd_bra hr (by omega) ?_]
 ·show ((brLo _,brHi _),_,_)=_
  unfold brLo brHi
  rw [if_neg (show brHiT (.two none (some (q,k)))≠[] from scn_ne hq)]
  rfl
 ·show lateU _ [] (some (q,k)) (0,0)=_
  unfold lateU
  dsimp only
  rw [late_no hq,if_neg (by simp)]
theorem rd_all {r:List UInt8} (hr:braL false r=.ok (.two none none,[])) (hl:r.length≤4000):litRd (91::r)=((18442240474082181120,9218868437227405312),0,0):=by
 rw [litRd_bra hr (by omega) rfl]
 rfl
theorem rd_one {p:List UInt8} {x:Bool×Nat×Nat×Int} (hp:scn p=.ok x) {b1 b2:List UInt8} (h1:AllB b1) (h2:AllB b2) (hl:b1.length+p.length+b2.length≤4000) :
  litRd (91::(b1++(p++(b2++[93]))))=(((readS (-1) p).1,(readS 1 p).1),0,0):=by
 obtain ⟨xp,hcp,hnp⟩:=scn_cuts hp
 rw [litRd_bra (bra_one hcp h1 h2) (by simp;omega) ?_]
 ·show ((brLo _,brHi _),_,_)=_
  unfold brLo brHi
  rw [if_neg (show brLoT (.one p _)≠[] from scn_ne hp),if_neg (show brHiT (.one p _)≠[] from scn_ne hp)]
  rfl
 ·exact late_no hp
end Go.Proofs.YtigmpifjcijdbaaGreatDoor
end

section
namespace Go.Proofs.YtigmpifjcijdbaaGreatDoor
set_option linter.unusedVariables false
set_option linter.unusedSimpArgs false
open Go.RowKit Verge Verge.Lit
def fvalidL (x y:Nat):Bool:=(decide (x=9218868437227405312)&&decide (y=18442240474082181120))||(fsound x y&&(decide (x≠9223372036854775808)&&decide (y≠9223372036854775808)))
theorem readS_of {s:List UInt8} {x:Bool×Nat×Nat×Int} (h:scn s=.ok x) (d:Int):readS d s=(ordP d x,0,0):=by
 unfold readS;rw [h];rfl
theorem ordP_ok (d:Int) (x:Bool×Nat×Nat×Int):ordP d x<18446744073709551616∧¬fnan (ordP d x)∧ordP d x≠9223372036854775808:=by
 unfold ordP
 have:=rng_top d x.1 (x.2.1*2^x.2.2.2.toNat*2^KU) (x.2.2.1*2^(-x.2.2.2).toNat)
 generalize rng d x.1 (x.2.1*2^x.2.2.2.toNat*2^KU) (x.2.2.1*2^(-x.2.2.2).toNat)=r at *
 unfold fpat fnan
 split
 ·omega
 ·split <;> omega
theorem nil_bl:AllB []:=fun c hc=>by cases hc
theorem one_bl:AllB [32]:=fun c hc=>by
 rw [List.mem_singleton] at hc
 rw [hc];decide
theorem inf_w:InfW [105,110,102]:=.inl rfl
end Go.Proofs.YtigmpifjcijdbaaGreatDoor
end
