/- Layer 12: LitDirections answers true. -/
import Derived.Test.YtkhengkchlkhoaaGreatDoorG49
import Derived.Test.YtkhengkchlkhoaaGreatDoorG34
import Derived.Test.YtkhengkchlkhoaaGreatDoorG02
import Derived.Carry
import Derived.ProofKit
import Derived.OpenShut
import Derived.SizedLaws
section
namespace Go.Proofs.YtkhengkchlkhoaaGreatDoor
set_option linter.unusedVariables false
set_option linter.unusedSimpArgs false
open Go.RowKit Verge Verge.Lit
def numT (s:List UInt8):List UInt8:=
 match scn s with
 | .ok _=>if 1500<s.length then [49] else s
 | .error _=>[49]
theorem scn_49:∃x,scn [49]=.ok x:=by
 have hd:(match scn [49] with | .ok _=>true | .error _=>false)=true:=by decide +kernel
 cases h:scn [49] with
 | ok x=>exact ⟨x,rfl⟩
 | error e=>rw [h] at hd;cases hd
theorem numT_ok (s:List UInt8):(∃x,scn (numT s)=.ok x)∧(numT s).length≤1500:=by
 unfold numT
 cases h:scn s with
 | error pc=>exact ⟨scn_49,by simp⟩
 | ok x =>
  dsimp only
  by_cases hl:1500<s.length
  ·rw [if_pos hl];exact ⟨scn_49,by simp⟩
  ·rw [if_neg hl];exact ⟨⟨x,h⟩,by omega⟩
set_option maxRecDepth 100000 in
set_option maxHeartbeats 1000000 in
theorem numeral12_any (s:List UInt8) (hs:s.length≤140737488355328) (w:World):Calls Tryz.prog 4 #[.string (bs s)] w fun e w'=>e=.returned (.string (bs (numT s)))∧Below w.heap.size w w':=by
 have hV:=fun W=>val5_any s hs W
 have hz:=bs_size s
 unfold numT
 cases hx:scn s with
 | error pc =>
  obtain ⟨p,c⟩:=pc
  rw [hx] at hV
  have hc:=scn_code hx
  have hcn:(c != 0)=true:=by rcases hc with rfl | rfl | rfl <;> rfl
  have HV:=Lib.hid hV
  generalize bs s=S at *
  clear hV hx hc
  go_enter Tryz.func4,Tryz.ntmps4
  go_wp2_with fail
  refine (HV.out _).mono ?_
  rintro e w1 ⟨v1,rfl,rfl,hb1⟩
  have HB:=Lib.hid (raft hb1 (rnew w1 (rtO false (.slice none 0 0) (.slice none 0 0))))
  clear hb1
  go_wp2
  go_ret
  exact ⟨rfl,HB.out⟩
 | ok x =>
  obtain ⟨n,N,D,K⟩:=x
  rw [hx] at hV
  dsimp only
  obtain ⟨L,hL⟩:∃L,s.length=L:=⟨_,rfl⟩
  rw [hL] at hz hs
  have HV:=Lib.hid hV
  obtain ⟨S,hS⟩:∃S,bs s=S:=⟨_,rfl⟩
  rw [hS] at HV hz
  have HS:=Lib.hid hS
  rw [hL,hS]
  clear hV hx hL
  have hcase:∀P:Prop,[Decidable P]→P→True:=fun _ _ _=>trivial
  by_cases hl:1500<L
  ·rw [if_pos hl]
   have hlI:(1500:Int)<(L:Int):=by omega
   clear hS
   go_enter Tryz.func4,Tryz.ntmps4
   go_wp2_with fail
   refine (HV.out _).mono ?_
   rintro e w1 ⟨v1,rfl,⟨x1,rfl,hx1⟩,hb1⟩
   obtain ⟨s1,X1,n1,k1,Y1,m1,z1,rfl⟩:=hx1.agg
   have HB:=Lib.hid (raft hb1 (rnew w1 (rtO s1 (.slice X1 n1 k1) (.slice Y1 m1 z1))))
   clear hb1 hx1
   go_wp2
   go_ret
   exact ⟨rfl,HB.out⟩
  ·rw [if_neg hl,hS]
   have hlI:¬(1500:Int)<(L:Int):=by omega
   clear hS
   go_enter Tryz.func4,Tryz.ntmps4
   go_wp2_with fail
   refine (HV.out _).mono ?_
   rintro e w1 ⟨v1,rfl,⟨x1,rfl,hx1⟩,hb1⟩
   obtain ⟨s1,X1,n1,k1,Y1,m1,z1,rfl⟩:=hx1.agg
   have HB:=Lib.hid (raft hb1 (rnew w1 (rtO s1 (.slice X1 n1 k1) (.slice Y1 m1 z1))))
   clear hb1 hx1
   go_wp2
   go_ret
   exact ⟨rfl,HB.out⟩
set_option maxHeartbeats 4000000 in
theorem out12_any (x y:Nat) (w:World):Calls Tryz.prog 10 #[.agg #[.float .f64 x,.float .f64 y]] w
  fun e w'=>e=.returned (.agg #[.int .u64 (x:Int),.int .u64 (y:Int)])∧Below w.heap.size w w':=by
 have hsf:=store_f
 have hfr:=@bits_any
 have HB:=Lib.hid (fun o o'=>baft (bnew w o) (bnew (w.alloc o) o'))
 obtain ⟨c0,c1,c2,c3,f0,f1,hz⟩:=box2 (w:=w) (a:=.float .f64 x) (b:=.float .f64 y) (c:=.int .u64 (x:Int)) (d:=.int .u64 (y:Int)) (t:=30) (t':=39) (Below.refl _ _)
 go_enter Tryz.func10,Tryz.ntmps10
 go_wp2_with fail
 go_region_with fail
 all_goals
  go_wp2
  refine bodyPost_ret (v:=.agg #[.int .u64 (x:Int),.int .u64 (y:Int)]) (by simp [results,Tryz.results10,go_sem,c2,c3]) rfl ?_
  exact ⟨rfl,(HB.out _ _).drew⟩
structure DrM (W0:World) (B1 B2:Nat) (s1:Bool) (V1 D1:Value) (s2:Bool) (V2 D2:Value) (p1:Int) (q1:Nat) (p2:Int) (q2:Nat) (W:World):Prop where
 below:Below W0.heap.size W0 W
 h1:W.heap[B1]?=some (rtO s1 V1 D1)
 h2:W.heap[B2]?=some (rtO s2 V2 D2)
 r1:IsRV p1 q1 10000 (.agg #[.bool s1,V1,D1]) W
 r2:IsRV p2 q2 10000 (.agg #[.bool s2,V2,D2]) W
theorem DrM.later {W0:World} {B1 B2:Nat} {s1:Bool} {V1 D1:Value} {s2:Bool} {V2 D2:Value} {p1:Int} {q1:Nat} {p2:Int} {q2:Nat} {W W':World} (h:DrM W0 B1 B2 s1 V1 D1 s2 V2 D2 p1 q1 p2 q2 W) (hb:Below W.heap.size W W'):DrM W0 B1 B2 s1 V1 D1 s2 V2 D2 p1 q1 p2 q2 W':=
 ⟨raft h.below hb,(hb.block _ (Array.getElem?_eq_some_iff.1 h.h1).1).trans h.h1,(hb.block _ (Array.getElem?_eq_some_iff.1 h.h2).1).trans h.h2,IsRV.mono _ _ _ _ _ _ hb h.r1,IsRV.mono _ _ _ _ _ _ hb h.r2⟩
set_option maxRecDepth 100000 in
set_option maxHeartbeats 8000000 in
theorem walk_dirs (a b:List UInt8) (w:World) (ha:a.length≤140737488355328) (hb:b.length≤140737488355328) (hP:Pow10 w):Calls Tryz.prog 3 #[.string (bs a),.string (bs b)] w fun e w'=>e=.returned (.bool true)∧Below w.heap.size w w':=by
 have HN1:=Lib.hid (fun W=>numeral12_any a ha W)
 have HN2:=Lib.hid (fun W=>numeral12_any b hb W)
 obtain ⟨⟨⟨n1,N1,D1,K1⟩,hx1⟩,hl1⟩:=numT_ok a
 obtain ⟨⟨⟨n2,N2,D2,K2⟩,hx2⟩,hl2⟩:=numT_ok b
 obtain ⟨p,hp⟩:∃p,numT a=p:=⟨_,rfl⟩
 obtain ⟨q,hq⟩:∃p,numT b=p:=⟨_,rfl⟩
 rw [hp] at HN1 hx1 hl1
 rw [hq] at HN2 hx2 hl2
 have hv1:=fun W=>val5_any p (by omega) W
 have hv2:=fun W=>val5_any q (by omega) W
 rw [hx1] at hv1
 rw [hx2] at hv2
 have HV1:=Lib.hid hv1
 have HV2:=Lib.hid hv2
 have hread:=litRd_br hx1 hx2 hl1 hl2
 have hbl:(brT p q).length≤140737488355328:=by unfold brT;simp;omega
 have hRD:=fun W=>lread_lit (brT p q) hbl W
 have hdoc:=ordS_doc n1 n2 N1 D1 N2 D2 K1 K2
 have hlo:readS (-1) p=(fpat n1 (rng (-1) n1 (N1*2^K1.toNat*2^KU) (D1*2^(-K1).toNat)),0,0):=by unfold readS;rw [hx1]
 have hhi:readS 1 q=(fpat n2 (rng 1 n2 (N2*2^K2.toNat*2^KU) (D2*2^(-K2).toNat)),0,0):=by unfold readS;rw [hx2]
 have hbits1:=fun W v (hv:IsRV (sv n1 (N1*2^K1.toNat)) (D1*2^(-K1).toNat) 10000 v W)=>bits3_is (d:=-1) hv (by omega) (show KU=1074 from rfl)
 have hbits2:=fun W v (hv:IsRV (sv n2 (N2*2^K2.toNat)) (D2*2^(-K2).toNat) 10000 v W)=>bits3_is (d:=1) hv (by omega) (show KU=1074 from rfl)
 rw [rat3_sv] at hbits1 hbits2
 have e1:fpat n1 (rng (-1) n1 (N1*2^K1.toNat*2^KU) (D1*2^(-K1).toNat))=(readS (-1) p).1:=by rw [hlo]
 have e2:fpat n2 (rng 1 n2 (N2*2^K2.toNat*2^KU) (D2*2^(-K2).toNat))=(readS 1 q).1:=by rw [hhi]
 rw [e1] at hbits1
 rw [e2] at hbits2
 obtain ⟨PL,hPL⟩:∃P,(readS (-1) p).1=P:=⟨_,rfl⟩
 obtain ⟨PH,hPH⟩:∃P,(readS 1 q).1=P:=⟨_,rfl⟩
 rw [hPL] at hbits1 hread
 rw [hPH] at hbits2 hread
 have HB1:=Lib.hid hbits1
 have HB2:=Lib.hid hbits2
 have HLV:=Lib.hid (fun W (h:Pow10 W)=>lives12_any W h)
 have HPP:=Lib.hid hP
 have HOF:=Lib.hid (fun W=>of12_any 0 0 W)
 have hc1:({ data:=#[91] }:ByteArray)++bs p=bs ([91]++p):=bs_append [91] p
 have hc2:bs ([91]++p)++({ data:=#[44,32] }:ByteArray)=bs ([91]++p++[44,32]):=bs_append ([91]++p) [44,32]
 have hc3:bs ([91]++p++[44,32])++bs q=bs ([91]++p++[44,32]++q):=bs_append _ q
 have hc4:bs ([91]++p++[44,32]++q)++({ data:=#[93] }:ByteArray)=bs (brT p q):=bs_append _ [93]
 have z0:=bs_size p
 have z1:=bs_size ([91]++p)
 have z2:=bs_size ([91]++p++[44,32])
 have z3:=bs_size ([91]++p++[44,32]++q)
 have z4:=bs_size q
 obtain ⟨L,hL⟩:∃L,p.length=L:=⟨_,rfl⟩
 obtain ⟨M,hM⟩:∃L,q.length=L:=⟨_,rfl⟩
 have z1:(bs ([91]++p)).size=L+1:=by rw [z1];simp [hL] <;> omega
 have z2:(bs ([91]++p++[44,32])).size=L+3:=by rw [z2];simp [hL] <;> omega
 have z3:(bs ([91]++p++[44,32]++q)).size=L+M+3:=by rw [z3];simp [hL,hM];omega
 rw [hL] at z0 hread hl1
 rw [hM] at z4 hl2
 obtain ⟨X0,h0⟩:∃X,bs p=X:=⟨_,rfl⟩
 obtain ⟨X1,h1⟩:∃X,bs ([91]++p)=X:=⟨_,rfl⟩
 obtain ⟨X2,h2⟩:∃X,bs ([91]++p++[44,32])=X:=⟨_,rfl⟩
 obtain ⟨X3,h3⟩:∃X,bs ([91]++p++[44,32]++q)=X:=⟨_,rfl⟩
 obtain ⟨X4,h4⟩:∃X,bs (brT p q)=X:=⟨_,rfl⟩
 obtain ⟨X5,h5⟩:∃X,bs q=X:=⟨_,rfl⟩
 rw [h0,h1] at hc1
 rw [h1,h2] at hc2
 rw [h2,h5,h3] at hc3
 rw [h3,h4] at hc4
 rw [h0] at z0 HN1 HV1
 rw [h1] at z1
 rw [h2] at z2
 rw [h3] at z3
 rw [h5] at z4 HN2 HV2
 rw [h4] at hRD
 have y1:¬9223372036854775807<({ data:=#[91] }:ByteArray).size+X0.size:=by rw [z0];show ¬_<1+L;omega
 have y2:¬9223372036854775807<X1.size+({ data:=#[44,32] }:ByteArray).size:=by rw [z1];show ¬_<L+1+2;omega
 have y3:¬9223372036854775807<X2.size+X5.size:=by rw [z2,z4];omega
 have y4:¬9223372036854775807<X3.size+({ data:=#[93] }:ByteArray).size:=by rw [z3];show ¬_<L+M+3+1;omega
 rw [hread] at hRD
 obtain ⟨o,ho⟩:∃o,ordS (n1,N1,D1,K1) (n2,N2,D2,K2)=o:=⟨_,rfl⟩
 rw [ho] at hdoc hRD
 have HDOC:=Lib.hid hdoc
 have hsf:=store_f
 have HW0:=Lib.hid (Below.refl w.heap.size w)
 clear hv1 hv2 hx1 hx2 hread hbl hdoc hlo hhi hbits1 hbits2 e1 e2 hPL hPH hP h0 h1 h2 h3 h4 h5 hL hM hp hq ha hb ho
 generalize bs a=A at *
 generalize bs b=B at *
 go_enter Tryz.func3,Tryz.ntmps3
 go_wp2_with fail
 refine (HN1.out _).mono ?_
 rintro e w1 ⟨rfl,k1⟩
 have HW1:=Lib.hid k1
 clear k1
 go_wp2_with fail
 refine (HN2.out _).mono ?_
 rintro e w2 ⟨rfl,k2⟩
 have HW2:=Lib.hid (raft HW1.out k2)
 clear k2
 go_wp2_with fail
 refine (HV1.out _).mono ?_
 rintro e w3 ⟨v3,rfl,⟨x3,rfl,hx3⟩,k3⟩
 obtain ⟨s1,X6,m1,c1,Y6,m2,c2,rfl⟩:=hx3.agg
 have kk:=rnew w3 (rtO s1 (.slice X6 m1 c1) (.slice Y6 m2 c2))
 have HM1:=Lib.hid (And.intro (raft HW2.out (raft k3 kk)) (And.intro (heap_alloc_new w3 (rtO s1 (.slice X6 m1 c1) (.slice Y6 m2 c2))) (IsRV.mono _ _ _ _ _ _ kk hx3)))
 clear k3 kk hx3
 go_wp2_with fail
 refine (HV2.out _).mono ?_
 rintro e w4 ⟨v4,rfl,⟨x4,rfl,hx4⟩,k4⟩
 obtain ⟨s2,X7,m3,c3,Y7,m4,c4,rfl⟩:=hx4.agg
 have kk:=rnew w4 (rtO s2 (.slice X7 m3 c3) (.slice Y7 m4 c4))
 have kb:=raft k4 kk
 have HM:=Lib.hid (DrM.mk (B1:=w3.heap.size) (B2:=w4.heap.size) (raft HM1.out.1 kb) ((kb.block _ (Array.getElem?_eq_some_iff.1 HM1.out.2.1).1).trans HM1.out.2.1) (heap_alloc_new w4 (rtO s2 (.slice X7 m3 c3) (.slice Y7 m4 c4))) (IsRV.mono _ _ _ _ _ _ kb HM1.out.2.2) (IsRV.mono _ _ _ _ _ _ kk hx4))
 clear k4 kk kb hx4 HM1
 have HRD:=Lib.hid hRD
 clear hRD
 go_wp2_with fail
 refine (HRD.out _).mono ?_
 rintro e w5 ⟨v5,rfl,rfl,k5⟩
 have HM5:=Lib.hid (HM.out.later k5)
 clear k5 HM HRD
 by_cases ho:0<o
 ·rw [if_pos ho]
  have HI:=Lib.hid (heap_alloc_new w5 (ivO 0 0))
  have HM6:=Lib.hid (HM5.out.later (rnew w5 (ivO 0 0)))
  obtain ⟨a0,a1,a2⟩:=rt_cells HM6.out.h1
  obtain ⟨b0,b1,b2⟩:=rt_cells HM6.out.h2
  clear HM5
  dsimp only
  go_wp2_with fail
  refine (rv_cmp HM6.out.r1 HM6.out.r2 (by omega) (by omega)).mono ?_
  rintro e w6 ⟨v6,rfl,rfl,k6⟩
  rw [HDOC.out]
  have HI6:=Lib.hid ((k6.block _ (Array.getElem?_eq_some_iff.1 HI.out).1).trans HI.out)
  have HM7:=Lib.hid (HM6.out.later k6)
  clear k6 a0 a1 a2 b0 b1 b2 HM6 HI
  have heq:∀W:World,(binOp BinOp.eql 30 (.agg #[.float .f64 0,.float .f64 0]) (.agg #[.float .f64 0,.float .f64 0])).run Tryz.prog W=.ok (.bool true) W:=by
   intro W;rw [eqlF];rfl
  go_upto_region 7 with fail
  refine region_at 18 (Pick [IsV (.int .i64 120),IsV (.bool true),IsV (.bool true),IsV (.int .i64 ((L+3:Nat):Int)),IsV (.string X0),IsV (.int .i64 (L:Int)),IsV (.int .i64 ((L+3:Nat):Int)),IsV (.bool true),IsV (.bool true),IsV (.bool true),IsV (.agg #[.float .f64 0,.float .f64 0]),IsV (.agg #[.float .f64 0,.float .f64 0]),IsV (.bool true),IsV (.bool true),IsV (.bool true),IsV (.bool true),IsV (.bool true),IsV (.bool true)]) (by kernel_rfl) (by kernel_rfl) (by kernel_rfl) (mono_pick ⟨IsV.mono _,IsV.mono _,IsV.mono _,IsV.mono _,IsV.mono _,IsV.mono _,IsV.mono _,IsV.mono _,IsV.mono _,IsV.mono _,IsV.mono _,IsV.mono _,IsV.mono _,IsV.mono _,IsV.mono _,IsV.mono _,IsV.mono _,IsV.mono _,trivial⟩) ⟨?_,?_,?_,?_,?_,?_,?_,?_,?_,?_,?_,?_,?_,?_,?_,?_,?_,?_,trivial⟩ ?_
  ·intro a W hsz hb hS
   have h15:a.tmps.getD 15 undef=.int .i64 120:=hS.1
   clear hS hsz
   refine will_of rfl ?_
   intro K hK
   go_simp
   exact hK _ _ ⟨Below.refl _ _,rfl⟩
  ·intro a W hsz hb hS
   have h47:a.tmps.getD 47 undef=.int .i64 120:=hS.1
   clear hS hsz
   refine will_of rfl ?_
   intro K hK
   go_simp
   exact hK _ _ ⟨Below.refl _ _,rfl⟩
  ·intro a W hsz hb hS
   have h48:a.tmps.getD 48 undef=.bool true:=hS.1
   clear hS hsz
   refine will_of rfl ?_
   intro K hK
   go_simp
   exact hK _ _ ⟨Below.refl _ _,rfl⟩
  ·intro a W hsz hb hS
   have h14:a.tmps.getD 14 undef=.int .i64 ((L+3:Nat):Int):=hS.1
   have h49:a.tmps.getD 49 undef=.bool true:=hS.2.1
   clear hS hsz
   refine will_yes rfl rfl h49 ?_
   intro K hK
   go_simp
   exact hK _ _ ⟨Below.refl _ _,rfl⟩
  ·intro a W hsz hb hS
   have h5:a.tmps.getD 5 undef=.string X0:=hS.1
   have h49:a.tmps.getD 49 undef=.bool true:=hS.2.1
   clear hS hsz
   refine will_yes rfl rfl h49 ?_
   intro K hK
   go_simp
   exact hK _ _ ⟨Below.refl _ _,rfl⟩
  ·intro a W hsz hb hS
   have h51:a.tmps.getD 51 undef=.string X0:=hS.1
   have h49:a.tmps.getD 49 undef=.bool true:=hS.2.1
   clear hS hsz
   refine will_yes rfl rfl h49 ?_
   have hh:=(hb.block w5.heap.size (Array.getElem?_eq_some_iff.1 HI6.out).1).trans HI6.out
   obtain ⟨d0,d1⟩:=ivO_cells hh
   intro K hK
   go_simp
   exact hK _ _ ⟨Below.refl _ _,rfl⟩
  ·intro a W hsz hb hS
   have h52:a.tmps.getD 52 undef=.int .i64 (L:Int):=hS.1
   have h49:a.tmps.getD 49 undef=.bool true:=hS.2.1
   clear hS hsz
   refine will_yes rfl rfl h49 ?_
   intro K hK
   go_simp
   have hw3:IntKind.i64.wrap ((L:Int)+3)=((L+3:Nat):Int):=by rw [IntWalk.i64_in _ (by omega)];omega
   rw [hw3]
   exact hK _ _ ⟨Below.refl _ _,rfl⟩
  ·intro a W hsz hb hS
   have h50:a.tmps.getD 50 undef=.int .i64 ((L+3:Nat):Int):=hS.1
   have h53:a.tmps.getD 53 undef=.int .i64 ((L+3:Nat):Int):=hS.2.1
   have h49:a.tmps.getD 49 undef=.bool true:=hS.2.2.1
   clear hS hsz
   refine will_yes rfl rfl h49 ?_
   intro K hK
   go_simp
   exact hK _ _ ⟨Below.refl _ _,rfl⟩
  ·intro a W hsz hb hS
   have h49:a.tmps.getD 49 undef=.bool true:=hS.1
   have h54:a.tmps.getD 54 undef=.bool true:=hS.2.1
   clear hS hsz
   refine will_of rfl ?_
   intro K hK
   go_simp
   exact hK _ _ ⟨Below.refl _ _,rfl⟩
  ·intro a W hsz hb hS
   have h55:a.tmps.getD 55 undef=.bool true:=hS.1
   clear hS hsz
   refine will_of rfl ?_
   intro K hK
   go_simp
   exact hK _ _ ⟨Below.refl _ _,rfl⟩
  ·intro a W hsz hb hS
   have h13:a.tmps.getD 13 undef=.pointer (some ⟨w5.heap.size,0,none⟩):=hS.1
   have h56:a.tmps.getD 56 undef=.bool true:=hS.2.1
   clear hS hsz
   refine will_yes rfl rfl h56 ?_
   have hh:=(hb.block w5.heap.size (Array.getElem?_eq_some_iff.1 HI6.out).1).trans HI6.out
   obtain ⟨d0,d1⟩:=ivO_cells hh
   intro K hK
   go_simp
   exact hK _ _ ⟨Below.refl _ _,rfl⟩
  ·intro a W hsz hb hS
   have h56:a.tmps.getD 56 undef=.bool true:=hS.1
   clear hS hsz
   refine will_yes rfl rfl h56 ?_
   have hh:=(hb.block w5.heap.size (Array.getElem?_eq_some_iff.1 HI6.out).1).trans HI6.out
   obtain ⟨d0,d1⟩:=ivO_cells hh
   intro K hK
   go_simp
   refine (HOF.out _).mono ?_
   rintro e W' ⟨rfl,hb'⟩
   exact hK _ _ ⟨hb',rfl⟩
  ·intro a W hsz hb hS
   have h57:a.tmps.getD 57 undef=.agg #[.float .f64 0,.float .f64 0]:=hS.1
   have h58:a.tmps.getD 58 undef=.agg #[.float .f64 0,.float .f64 0]:=hS.2.1
   have h56:a.tmps.getD 56 undef=.bool true:=hS.2.2.1
   clear hS hsz
   refine will_yes rfl rfl h56 ?_
   intro K hK
   go_simp
   exact hK _ _ ⟨Below.refl _ _,rfl⟩
  ·intro a W hsz hb hS
   have h56:a.tmps.getD 56 undef=.bool true:=hS.1
   have h59:a.tmps.getD 59 undef=.bool true:=hS.2.1
   clear hS hsz
   refine will_of rfl ?_
   intro K hK
   go_simp
   exact hK _ _ ⟨Below.refl _ _,rfl⟩
  ·intro a W hsz hb hS
   have h60:a.tmps.getD 60 undef=.bool true:=hS.1
   clear hS hsz
   refine will_of rfl ?_
   intro K hK
   go_simp
   exact hK _ _ ⟨Below.refl _ _,rfl⟩
  ·intro a W hsz hb hS
   have h61:a.tmps.getD 61 undef=.bool true:=hS.1
   clear hS hsz
   refine will_yes rfl rfl h61 ?_
   have hh:=(hb.block w5.heap.size (Array.getElem?_eq_some_iff.1 HI6.out).1).trans HI6.out
   obtain ⟨d0,d1⟩:=ivO_cells hh
   intro K hK
   go_simp
   refine (HLV.out _ (HPP.out.below (raft HM7.out.below hb))).mono ?_
   rintro e W' ⟨rfl,hb'⟩
   exact hK _ _ ⟨hb',rfl⟩
  ·intro a W hsz hb hS
   have h61:a.tmps.getD 61 undef=.bool true:=hS.1
   have h62:a.tmps.getD 62 undef=.bool true:=hS.2.1
   clear hS hsz
   refine will_of rfl ?_
   intro K hK
   go_simp
   exact hK _ _ ⟨Below.refl _ _,rfl⟩
  ·intro a W hsz hb hS
   have h63:a.tmps.getD 63 undef=.bool true:=hS.1
   clear hS hsz
   refine will_of rfl ?_
   intro K hK
   go_simp
   exact hK _ _ ⟨Below.refl _ _,rfl⟩
  intro f W hb hH
  have e0:f 0=.int .i64 120:=hH.1
  have e1:f 1=.bool true:=hH.2.1
  have e2:f 2=.bool true:=hH.2.2.1
  have e3:f 3=.int .i64 ((L+3:Nat):Int):=hH.2.2.2.1
  have e4:f 4=.string X0:=hH.2.2.2.2.1
  have e5:f 5=.int .i64 (L:Int):=hH.2.2.2.2.2.1
  have e6:f 6=.int .i64 ((L+3:Nat):Int):=hH.2.2.2.2.2.2.1
  have e7:f 7=.bool true:=hH.2.2.2.2.2.2.2.1
  have e8:f 8=.bool true:=hH.2.2.2.2.2.2.2.2.1
  have e9:f 9=.bool true:=hH.2.2.2.2.2.2.2.2.2.1
  have e10:f 10=.agg #[.float .f64 0,.float .f64 0]:=hH.2.2.2.2.2.2.2.2.2.2.1
  have e11:f 11=.agg #[.float .f64 0,.float .f64 0]:=hH.2.2.2.2.2.2.2.2.2.2.2.1
  have e12:f 12=.bool true:=hH.2.2.2.2.2.2.2.2.2.2.2.2.1
  have e13:f 13=.bool true:=hH.2.2.2.2.2.2.2.2.2.2.2.2.2.1
  have e14:f 14=.bool true:=hH.2.2.2.2.2.2.2.2.2.2.2.2.2.2.1
  have e15:f 15=.bool true:=hH.2.2.2.2.2.2.2.2.2.2.2.2.2.2.2.1
  have e16:f 16=.bool true:=hH.2.2.2.2.2.2.2.2.2.2.2.2.2.2.2.2.1
  have e17:f 17=.bool true:=hH.2.2.2.2.2.2.2.2.2.2.2.2.2.2.2.2.2.1
  simp only [List.take_succ_cons,List.take_zero,List.drop_succ_cons,List.drop_zero,putFrom,Act.put,List.setIfInBounds_toArray,List.set_cons_zero,List.set_cons_succ,Nat.reduceAdd,e0,e1,e2,e3,e4,e5,e6,e7,e8,e9,e10,e11,e12,e13,e14,e15,e16,e17]
  clear e0 e1 e2 e3 e4 e5 e6 e7 e8 e9 e10 e11 e12 e13 e14 e15 e16 e17 hH f
  have HW:=Lib.hid (raft HM7.out.below hb)
  clear hb
  go_wp2
  go_ret
  exact ⟨rfl,HW.out⟩
 ·rw [if_neg ho]
  have HI:=Lib.hid (heap_alloc_new w5 (ivO PL PH))
  have HM6:=Lib.hid (HM5.out.later (rnew w5 (ivO PL PH)))
  obtain ⟨a0,a1,a2⟩:=rt_cells HM6.out.h1
  obtain ⟨b0,b1,b2⟩:=rt_cells HM6.out.h2
  clear HM5
  dsimp only
  go_wp2_with fail
  refine (rv_cmp HM6.out.r1 HM6.out.r2 (by omega) (by omega)).mono ?_
  rintro e w6 ⟨v6,rfl,rfl,k6⟩
  rw [HDOC.out]
  have HI6:=Lib.hid ((k6.block _ (Array.getElem?_eq_some_iff.1 HI.out).1).trans HI.out)
  have HM7:=Lib.hid (HM6.out.later k6)
  have HOUT:=Lib.hid (fun W=>out12_any PL PH W)
  have heq:∀W:World,(binOp BinOp.eql 39 (.agg #[.int .u64 (PL:Int),.int .u64 (PH:Int)]) (.agg #[.int .u64 (PL:Int),.int .u64 (PH:Int)])).run Tryz.prog W=.ok (.bool true) W:=by
   intro W;rw [eqlI];simp
  clear k6 a0 a1 a2 b0 b1 b2 HM6 HI
  go_upto_region 8 with fail
  refine region_at 20 (Pick [IsV (.int .i64 0),IsV (.bool true),IsV (.bool true),IsV (.int .i64 0),IsV (.bool true),IsV (.bool true),IsV (.bool true),IsV (.agg #[.float .f64 PL,.float .f64 PH]),IsV (.agg #[.int .u64 (PL:Int),.int .u64 (PH:Int)]),IsV (.agg #[.bool s1,.slice X6 m1 c1,.slice Y6 m2 c2]),IsV (.int .u64 (PL:Int)),IsV (.agg #[.bool s2,.slice X7 m3 c3,.slice Y7 m4 c4]),IsV (.int .u64 (PH:Int)),IsV (.agg #[.int .u64 (PL:Int),.int .u64 (PH:Int)]),IsV (.bool true),IsV (.bool true),IsV (.bool true),IsV (.bool true),IsV (.bool true),IsV (.bool true)]) (by kernel_rfl) (by kernel_rfl) (by kernel_rfl) (mono_pick ⟨IsV.mono _,IsV.mono _,IsV.mono _,IsV.mono _,IsV.mono _,IsV.mono _,IsV.mono _,IsV.mono _,IsV.mono _,IsV.mono _,IsV.mono _,IsV.mono _,IsV.mono _,IsV.mono _,IsV.mono _,IsV.mono _,IsV.mono _,IsV.mono _,IsV.mono _,IsV.mono _,trivial⟩) ⟨?_,?_,?_,?_,?_,?_,?_,?_,?_,?_,?_,?_,?_,?_,?_,?_,?_,?_,?_,?_,trivial⟩ ?_
  ·intro a W hsz hb hS
   have h15:a.tmps.getD 15 undef=.int .i64 0:=hS.1
   clear hS hsz
   refine will_of rfl ?_
   intro K hK
   go_simp
   exact hK _ _ ⟨Below.refl _ _,rfl⟩
  ·intro a W hsz hb hS
   have h64:a.tmps.getD 64 undef=.int .i64 0:=hS.1
   clear hS hsz
   refine will_of rfl ?_
   intro K hK
   go_simp
   exact hK _ _ ⟨Below.refl _ _,rfl⟩
  ·intro a W hsz hb hS
   have h65:a.tmps.getD 65 undef=.bool true:=hS.1
   clear hS hsz
   refine will_of rfl ?_
   intro K hK
   go_simp
   exact hK _ _ ⟨Below.refl _ _,rfl⟩
  ·intro a W hsz hb hS
   have h14:a.tmps.getD 14 undef=.int .i64 0:=hS.1
   have h66:a.tmps.getD 66 undef=.bool true:=hS.2.1
   clear hS hsz
   refine will_yes rfl rfl h66 ?_
   intro K hK
   go_simp
   exact hK _ _ ⟨Below.refl _ _,rfl⟩
  ·intro a W hsz hb hS
   have h67:a.tmps.getD 67 undef=.int .i64 0:=hS.1
   have h66:a.tmps.getD 66 undef=.bool true:=hS.2.1
   clear hS hsz
   refine will_yes rfl rfl h66 ?_
   intro K hK
   go_simp
   exact hK _ _ ⟨Below.refl _ _,rfl⟩
  ·intro a W hsz hb hS
   have h66:a.tmps.getD 66 undef=.bool true:=hS.1
   have h68:a.tmps.getD 68 undef=.bool true:=hS.2.1
   clear hS hsz
   refine will_of rfl ?_
   intro K hK
   go_simp
   exact hK _ _ ⟨Below.refl _ _,rfl⟩
  ·intro a W hsz hb hS
   have h69:a.tmps.getD 69 undef=.bool true:=hS.1
   clear hS hsz
   refine will_of rfl ?_
   intro K hK
   go_simp
   exact hK _ _ ⟨Below.refl _ _,rfl⟩
  ·intro a W hsz hb hS
   have h13:a.tmps.getD 13 undef=.pointer (some ⟨w5.heap.size,0,none⟩):=hS.1
   have h70:a.tmps.getD 70 undef=.bool true:=hS.2.1
   clear hS hsz
   refine will_yes rfl rfl h70 ?_
   have hh:=(hb.block w5.heap.size (Array.getElem?_eq_some_iff.1 HI6.out).1).trans HI6.out
   obtain ⟨d0,d1⟩:=ivO_cells hh
   obtain ⟨a0,a1,a2⟩:=rt_cells (HM7.out.later hb).h1
   obtain ⟨b0,b1,b2⟩:=rt_cells (HM7.out.later hb).h2
   intro K hK
   go_simp
   exact hK _ _ ⟨Below.refl _ _,rfl⟩
  ·intro a W hsz hb hS
   have h71:a.tmps.getD 71 undef=.agg #[.float .f64 PL,.float .f64 PH]:=hS.1
   have h70:a.tmps.getD 70 undef=.bool true:=hS.2.1
   clear hS hsz
   refine will_yes rfl rfl h70 ?_
   have hh:=(hb.block w5.heap.size (Array.getElem?_eq_some_iff.1 HI6.out).1).trans HI6.out
   obtain ⟨d0,d1⟩:=ivO_cells hh
   obtain ⟨a0,a1,a2⟩:=rt_cells (HM7.out.later hb).h1
   obtain ⟨b0,b1,b2⟩:=rt_cells (HM7.out.later hb).h2
   intro K hK
   go_simp
   refine (HOUT.out _).mono ?_
   rintro e W' ⟨rfl,hb'⟩
   exact hK _ _ ⟨hb',rfl⟩
  ·intro a W hsz hb hS
   have h7:a.tmps.getD 7 undef=.pointer (some ⟨w3.heap.size,0,none⟩):=hS.1
   have h70:a.tmps.getD 70 undef=.bool true:=hS.2.1
   clear hS hsz
   refine will_yes rfl rfl h70 ?_
   have hh:=(hb.block w5.heap.size (Array.getElem?_eq_some_iff.1 HI6.out).1).trans HI6.out
   obtain ⟨d0,d1⟩:=ivO_cells hh
   obtain ⟨a0,a1,a2⟩:=rt_cells (HM7.out.later hb).h1
   obtain ⟨b0,b1,b2⟩:=rt_cells (HM7.out.later hb).h2
   intro K hK
   go_simp
   exact hK _ _ ⟨Below.refl _ _,rfl⟩
  ·intro a W hsz hb hS
   have h73:a.tmps.getD 73 undef=.agg #[.bool s1,.slice X6 m1 c1,.slice Y6 m2 c2]:=hS.1
   have h70:a.tmps.getD 70 undef=.bool true:=hS.2.1
   clear hS hsz
   refine will_yes rfl rfl h70 ?_
   have hh:=(hb.block w5.heap.size (Array.getElem?_eq_some_iff.1 HI6.out).1).trans HI6.out
   obtain ⟨d0,d1⟩:=ivO_cells hh
   obtain ⟨a0,a1,a2⟩:=rt_cells (HM7.out.later hb).h1
   obtain ⟨b0,b1,b2⟩:=rt_cells (HM7.out.later hb).h2
   intro K hK
   go_simp
   refine (HB1.out _ _ (HM7.out.later hb).r1).mono ?_
   rintro e W' ⟨v,rfl,rfl,hb'⟩
   exact hK _ _ ⟨hb',rfl⟩
  ·intro a W hsz hb hS
   have h10:a.tmps.getD 10 undef=.pointer (some ⟨w4.heap.size,0,none⟩):=hS.1
   have h70:a.tmps.getD 70 undef=.bool true:=hS.2.1
   clear hS hsz
   refine will_yes rfl rfl h70 ?_
   have hh:=(hb.block w5.heap.size (Array.getElem?_eq_some_iff.1 HI6.out).1).trans HI6.out
   obtain ⟨d0,d1⟩:=ivO_cells hh
   obtain ⟨a0,a1,a2⟩:=rt_cells (HM7.out.later hb).h1
   obtain ⟨b0,b1,b2⟩:=rt_cells (HM7.out.later hb).h2
   intro K hK
   go_simp
   exact hK _ _ ⟨Below.refl _ _,rfl⟩
  ·intro a W hsz hb hS
   have h75:a.tmps.getD 75 undef=.agg #[.bool s2,.slice X7 m3 c3,.slice Y7 m4 c4]:=hS.1
   have h70:a.tmps.getD 70 undef=.bool true:=hS.2.1
   clear hS hsz
   refine will_yes rfl rfl h70 ?_
   have hh:=(hb.block w5.heap.size (Array.getElem?_eq_some_iff.1 HI6.out).1).trans HI6.out
   obtain ⟨d0,d1⟩:=ivO_cells hh
   obtain ⟨a0,a1,a2⟩:=rt_cells (HM7.out.later hb).h1
   obtain ⟨b0,b1,b2⟩:=rt_cells (HM7.out.later hb).h2
   intro K hK
   go_simp
   refine (HB2.out _ _ (HM7.out.later hb).r2).mono ?_
   rintro e W' ⟨v,rfl,rfl,hb'⟩
   exact hK _ _ ⟨hb',rfl⟩
  ·intro a W hsz hb hS
   have h74:a.tmps.getD 74 undef=.int .u64 (PL:Int):=hS.1
   have h76:a.tmps.getD 76 undef=.int .u64 (PH:Int):=hS.2.1
   have h70:a.tmps.getD 70 undef=.bool true:=hS.2.2.1
   clear hS hsz
   have g74:=h74
   rw [Array.getD_eq_getD_getElem?] at g74
   have g76:=h76
   rw [Array.getD_eq_getD_getElem?] at g76
   have g70:=h70
   rw [Array.getD_eq_getD_getElem?] at g70
   refine will_yes rfl rfl h70 ?_
   intro K hK
   go_simp
   exact hK _ _ ⟨Below.refl _ _,rfl⟩
  ·intro a W hsz hb hS
   have h72:a.tmps.getD 72 undef=.agg #[.int .u64 (PL:Int),.int .u64 (PH:Int)]:=hS.1
   have h77:a.tmps.getD 77 undef=.agg #[.int .u64 (PL:Int),.int .u64 (PH:Int)]:=hS.2.1
   have h70:a.tmps.getD 70 undef=.bool true:=hS.2.2.1
   clear hS hsz
   refine will_yes rfl rfl h70 ?_
   intro K hK
   go_simp
   exact hK _ _ ⟨Below.refl _ _,rfl⟩
  ·intro a W hsz hb hS
   have h70:a.tmps.getD 70 undef=.bool true:=hS.1
   have h78:a.tmps.getD 78 undef=.bool true:=hS.2.1
   clear hS hsz
   refine will_of rfl ?_
   intro K hK
   go_simp
   exact hK _ _ ⟨Below.refl _ _,rfl⟩
  ·intro a W hsz hb hS
   have h79:a.tmps.getD 79 undef=.bool true:=hS.1
   clear hS hsz
   refine will_of rfl ?_
   intro K hK
   go_simp
   exact hK _ _ ⟨Below.refl _ _,rfl⟩
  ·intro a W hsz hb hS
   have h80:a.tmps.getD 80 undef=.bool true:=hS.1
   clear hS hsz
   refine will_yes rfl rfl h80 ?_
   have hh:=(hb.block w5.heap.size (Array.getElem?_eq_some_iff.1 HI6.out).1).trans HI6.out
   obtain ⟨d0,d1⟩:=ivO_cells hh
   obtain ⟨a0,a1,a2⟩:=rt_cells (HM7.out.later hb).h1
   obtain ⟨b0,b1,b2⟩:=rt_cells (HM7.out.later hb).h2
   intro K hK
   go_simp
   refine (HLV.out _ (HPP.out.below (raft HM7.out.below hb))).mono ?_
   rintro e W' ⟨rfl,hb'⟩
   exact hK _ _ ⟨hb',rfl⟩
  ·intro a W hsz hb hS
   have h80:a.tmps.getD 80 undef=.bool true:=hS.1
   have h81:a.tmps.getD 81 undef=.bool true:=hS.2.1
   clear hS hsz
   refine will_of rfl ?_
   intro K hK
   go_simp
   exact hK _ _ ⟨Below.refl _ _,rfl⟩
  ·intro a W hsz hb hS
   have h82:a.tmps.getD 82 undef=.bool true:=hS.1
   clear hS hsz
   refine will_of rfl ?_
   intro K hK
   go_simp
   exact hK _ _ ⟨Below.refl _ _,rfl⟩
  intro f W hb hH
  have e0:f 0=.int .i64 0:=hH.1
  have e1:f 1=.bool true:=hH.2.1
  have e2:f 2=.bool true:=hH.2.2.1
  have e3:f 3=.int .i64 0:=hH.2.2.2.1
  have e4:f 4=.bool true:=hH.2.2.2.2.1
  have e5:f 5=.bool true:=hH.2.2.2.2.2.1
  have e6:f 6=.bool true:=hH.2.2.2.2.2.2.1
  have e7:f 7=.agg #[.float .f64 PL,.float .f64 PH]:=hH.2.2.2.2.2.2.2.1
  have e8:f 8=.agg #[.int .u64 (PL:Int),.int .u64 (PH:Int)]:=hH.2.2.2.2.2.2.2.2.1
  have e9:f 9=.agg #[.bool s1,.slice X6 m1 c1,.slice Y6 m2 c2]:=hH.2.2.2.2.2.2.2.2.2.1
  have e10:f 10=.int .u64 (PL:Int):=hH.2.2.2.2.2.2.2.2.2.2.1
  have e11:f 11=.agg #[.bool s2,.slice X7 m3 c3,.slice Y7 m4 c4]:=hH.2.2.2.2.2.2.2.2.2.2.2.1
  have e12:f 12=.int .u64 (PH:Int):=hH.2.2.2.2.2.2.2.2.2.2.2.2.1
  have e13:f 13=.agg #[.int .u64 (PL:Int),.int .u64 (PH:Int)]:=hH.2.2.2.2.2.2.2.2.2.2.2.2.2.1
  have e14:f 14=.bool true:=hH.2.2.2.2.2.2.2.2.2.2.2.2.2.2.1
  have e15:f 15=.bool true:=hH.2.2.2.2.2.2.2.2.2.2.2.2.2.2.2.1
  have e16:f 16=.bool true:=hH.2.2.2.2.2.2.2.2.2.2.2.2.2.2.2.2.1
  have e17:f 17=.bool true:=hH.2.2.2.2.2.2.2.2.2.2.2.2.2.2.2.2.2.1
  have e18:f 18=.bool true:=hH.2.2.2.2.2.2.2.2.2.2.2.2.2.2.2.2.2.2.1
  have e19:f 19=.bool true:=hH.2.2.2.2.2.2.2.2.2.2.2.2.2.2.2.2.2.2.2.1
  simp only [List.take_succ_cons,List.take_zero,List.drop_succ_cons,List.drop_zero,putFrom,Act.put,List.setIfInBounds_toArray,List.set_cons_zero,List.set_cons_succ,Nat.reduceAdd,e0,e1,e2,e3,e4,e5,e6,e7,e8,e9,e10,e11,e12,e13,e14,e15,e16,e17,e18,e19]
  clear e0 e1 e2 e3 e4 e5 e6 e7 e8 e9 e10 e11 e12 e13 e14 e15 e16 e17 e18 e19 hH f
  have HW:=Lib.hid (raft HM7.out.below hb)
  clear hb
  go_wp2
  go_ret
  exact ⟨rfl,HW.out⟩
end Go.Proofs.YtkhengkchlkhoaaGreatDoor
end

section
namespace Go.Proofs.YtkhengkchlkhoaaGreatDoor
set_option linter.unusedVariables false
set_option linter.unusedSimpArgs false
open Go.ChangeShapes Go.WideShapes Go.ChangeAt Go.RowKit Verge
theorem own:ownKnob Tryz.prog.godebug=none:=by kernel_rfl
theorem laidOut:laidOutB Tryz.prog=true:=by kernel_rfl
section
variable {H:Type} {enc:TypeId×Value→H}
theorem trodAll_below {P:Program} (hl:laidOutB P=true) {W W':World} (hb:Below W.heap.size W W'):∀(ts:List TypeId) (vs:List Value) (ds:List (DataW H)) (ps:List MemPlace),
  (∀t∈ts,P.readableRec t=true∧t<P.types.size)→(∀x∈ps,x.block<W.heap.size)→DataW.TrodAll enc P W 0 (fun _=>true) true ts vs ds ps →
  DataW.TrodAll enc P W' 0 (fun b=>decide (b<W.heap.size)) true ts vs ds ps:=by
 intro ts
 induction ts with
 | nil =>
  intro vs ds ps _ _ h
  cases vs <;> cases ds <;> simp_all [DataW.TrodAll]
 | cons t ts ih =>
  intro vs ds ps ht hp h
  obtain ⟨v,vs',d,ds',p,q,rfl,rfl,rfl,h1,h2⟩:=trodAll_cons h
  exact trodAll_cons_mk (Below.trod hl (ht t (by simp)).1 (ht t (by simp)).2 h1 hb (fun x hx=>hp x (List.mem_append_left _ hx)))
   (ih vs' ds' q (fun t' h'=>ht t' (by simp [h'])) (fun x hx=>hp x (List.mem_append_right _ hx)) h2)
theorem law_post {P:Program} {f:Func} {s:ChangeSpec} {apart fresh:Bool} {W W':World} {args:Array Value} {ds:List (DataW H)} {before:List MemPlace} {tb:TypeId}
  (hW:DataW.Whole enc P f.params.toList s.vars apart W args.toList ds [] before) (hv:s.vars=[]) (hl:laidOutB P=true)
  (hts:f.params.toList.all (fun t=>P.readableRec t&&decide (t<P.types.size))=true) (hr:f.resultTypes=#[tb]) (htb:P.underlying tb=some .bool)
  (hfn:s.fn H ds={ results:=[.lit (.bool true)],args:=ds }) (hb:Below W.heap.size W W') :
  s.post enc P f apart fresh false false W args (.bool true) W':=by
 have hlt:∀x∈before,x.block<W.heap.size:=fun x hx=>by simpa using hW.lt x hx
 have hW':=hW
 obtain ⟨p,q,hA,hV,rfl,hfz,hnd⟩:=hW
 rw [hv] at hV
 obtain ⟨-,rfl⟩:=trodVars_none hV
 have hA':=trodAll_below hl hb _ _ _ _ (fun t ht=>by have:=List.all_eq_true.1 hts t ht;simpa using this) (fun x hx=>hlt x (by simpa using hx)) hA
 refine ⟨ds,[],p++[],[],p,[],hW',?_,?_,?_,World.keptBut_mono (fun x hx=>⟨hx,Or.inr (Or.inl (by simpa using hx))⟩) (hb.frame _),fun h=>by cases h⟩
 ·rw [List.append_nil,hfn,hr]
  exact trodAll_cons_mk (shut_bool htb _) trodAll_mk0
 ·rw [List.append_nil,hfn];exact hA'
 ·rw [List.append_nil,hfn,hv]
  exact rfl
end
end Go.Proofs.YtkhengkchlkhoaaGreatDoor
end
