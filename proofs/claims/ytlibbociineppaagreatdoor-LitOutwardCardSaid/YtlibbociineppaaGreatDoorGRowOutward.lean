/- Proved: vergelaw12.LitOutward returns true for any patterns and any int, and each argument reads afterwards as it read before; no conditions. -/
import Derived.Test.YtlibbociineppaaGreatDoorG47
import Derived.Test.YtlibbociineppaaGreatDoorG48
import Derived.Lib.SmallJoins
import Derived.Test.YtlibbociineppaaGreatDoorCards
import Derived.SevenTiedAt
namespace Go.Proofs.YtlibbociineppaaGreatDoor.litOutward
open Go.ChangeShapes Go.WideShapes Go.ChangeAt Go.RowKit
set_option linter.unusedVariables false
set_option maxRecDepth 100000 in
theorem lifted (os:Os) (started:os.Started) (H:Type) (enc:TypeId×Value→H) :
  ReturnsInHanded {} Tryz.checked os 3 .any (fun w args=>(Rows.litOutwardSpec.pre enc Tryz.prog Tryz.f3 [] false w args∧laidMetH Tryz.prog laids w)∧sizedMet enc Tryz.prog Tryz.f3 (OpenSpec.ofChange Rows.litOutwardSpec) false w args)
   (Rows.litOutwardSpec.post enc Tryz.prog Tryz.f3 false true false false):=by
 refine returnsInHanded_of_change_and (C:=Tryz.checked) (X:=fun w _=>laidMetH Tryz.prog laids w) (fun _ _ _ hh h=>h.of_heap hh) own started (by kernel_rfl) Tryz.func3
  (ChangeSpec.witness_shaped (enc:=enc) (C:=Tryz.checked) (os:=os) (X:=fun w _=>laidMetH Tryz.prog laids w) false (World.doorLaid Tryz.prog 400 os) #[.agg #[.int .u64 0,.int .u64 0],.int .i64 0] 8 rfl (World.shaped_of_RefB (by kernel_rfl) (by kernel_rfl)) (by kernel_rfl) (by kernel_rfl) (by kernel_rfl) (door_met os _)) ?_
 intro W base args ds gs before hval0 hW _ hsz0 hL _
 have hval:∀(j:Nat) t v,Tryz.f3.params[j]?=some t→args[j]?=some v→Value.okWide Tryz.prog W .any base t v:=hval0
 have hW':=hW
 obtain ⟨p,q,hA0,hV,rfl,hfz,hnd⟩:=hW
 have hA:DataW.TrodAll enc Tryz.prog W 0 (fun _=>true) true Tryz.f3.params.toList args.toList ds p:=hA0
 obtain ⟨rfl,rfl⟩:=trodVars_none hV
 rw [List.append_nil] at hsz0
 have hsz:(DataW.weightsEach Tryz.prog (Tryz.f3.params.toList++Rows.litOutwardSpec.plain.varTypes Tryz.prog) ds).all (· ≤ reachBytes)=true:=hsz0
 rw [Tryz.params3] at hA hval hsz
 obtain ⟨v1,v2,d1,d2,p1,p2,rfl,rfl,rfl,h1,h2⟩:=trodAll_two hA
 obtain ⟨c1a,c1b,y1a,y1b,u1,rfl,rfl,rfl,hya1,hyb1⟩:=Go.Joins.open_agg2 Tryz.underlying24 (by kernel_rfl) (show Tryz.prog.cellsOf 24=2 by kernel_rfl) (hval 0 _ _ rfl rfl) h1
 obtain ⟨x1a,e1a,rfl,wx1a⟩:=DataW.trod_int Tryz.underlying22 hya1
 simp at e1a
 subst e1a
 simp [Lit.wf,IntKind.min,IntKind.max,IntKind.signed,IntKind.bits] at wx1a
 obtain ⟨X1a,rfl⟩:=Int.eq_ofNat_of_zero_le (show 0≤x1a by omega)
 obtain ⟨x1b,e1b,rfl,wx1b⟩:=DataW.trod_int Tryz.underlying22 hyb1
 simp at e1b
 subst e1b
 simp [Lit.wf,IntKind.min,IntKind.max,IntKind.signed,IntKind.bits] at wx1b
 obtain ⟨X1b,rfl⟩:=Int.eq_ofNat_of_zero_le (show 0≤x1b by omega)
 obtain ⟨m2,rfl,rfl,rfl,hw2⟩:=open_int Tryz.underlying3 (hval 1 _ _ rfl rfl) h2
 have hw2':=hw2
 simp [Lit.wf,IntKind.min,IntKind.max,IntKind.signed,IntKind.bits] at hw2'
 refine (walk_outward X1a X1b m2 W (by omega) (by omega) (by omega) (by omega) ((tab_of hL).2)).mono fun e W' ⟨he,hb⟩ => ?_
 subst he
 exact ⟨_,rfl,law_post hW' rfl laidOut (by kernel_rfl) rfl Tryz.underlying4 rfl hb⟩
theorem over:Rows.litOutwardRow.holds Tryz.pinned (OpenSpec.ofChange Rows.litOutwardSpec):=
 OpenClaim.holds_of_wide 3 Tryz.f3 rfl rfl rfl rfl rfl rfl rfl ⟨rfl,rfl,rfl,rfl,rfl⟩ rfl rfl rfl rfl rfl (by kernel_rfl) Tryz.func3 (by kernel_rfl)
  (of_decide_eq_true (by kernel_rfl)) (by unfold Func.isWrapper;first | (rw [if_pos (by decide +kernel)];kernel_rfl) | (rw [if_neg (by decide +kernel)];exact ⟨rfl,rfl⟩))
  (fun os started H enc _=>lifted os started H enc)
theorem proved:Rows.LitOutwardCardSaid:=
 Claim7.holds_tied_plain_at .later [] [.data,.data,.data] true (true, "63bcf2b56f97b6ffccac51921aa00023ff74eec11435f74e46bb51596486981b") true
  over (fun _ h=>by cases h) (by kernel_rfl) (fun _ h=>by cases h) litOutward_row_tie rfl ⟨rfl,rfl⟩ (by kernel_rfl) rfl
  (fun f fn hf hfn=>by
   obtain rfl:f=3:=Option.some.inj ((show Tryz.prog.funcNamed "verge/vergelaw12.LitOutward" = some 3 by kernel_rfl).symm.trans hf) |>.symm
   obtain rfl:fn=Tryz.f3:=(Option.some.inj (Tryz.func3.symm.trans hfn)).symm
   exact ⟨by kernel_rfl,fun j t ht=>by
    rw [Tryz.params3] at ht
    have hm:t∈([24,3]:List Nat):=by simpa using Array.mem_of_getElem? ht
    have hall:(([24,3]:List Nat).all fun u => !Tryz.prog.wantsStandIn u)=true:=by kernel_rfl
    exact (show Tryz.prog.wantsStandIn t=false by simpa using List.all_eq_true.1 hall t hm)⟩)
  (by kernel_rfl)
#print axioms proved
end Go.Proofs.YtlibbociineppaaGreatDoor.litOutward
