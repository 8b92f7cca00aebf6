/- Proved: vergelaw12.LitSpelt returns true for any two texts and any int, and each argument reads afterwards as it read before; no conditions. -/
import Derived.Test.YtigmpifjcijdbaaGreatDoorG52
import Derived.Test.YtigmpifjcijdbaaGreatDoorG53
import Derived.ChangeMaps5
import Derived.SizedLaws
import Derived.Test.YtigmpifjcijdbaaGreatDoorCards
import Derived.SevenTiedAt
namespace Go.Proofs.YtigmpifjcijdbaaGreatDoor.litSpelt
open Go.ChangeShapes Go.WideShapes Go.ChangeAt Go.RowKit
set_option linter.unusedVariables false
set_option maxRecDepth 100000 in
theorem lifted (os:Os) (started:os.Started) (H:Type) (enc:TypeId×Value→H) :
  ReturnsInHanded {} Tryz.checked os 3 .any (fun w args=>(Rows.litSpeltSpec.pre enc Tryz.prog Tryz.f3 [] false w args∧laidMetH Tryz.prog laids w)∧sizedMet enc Tryz.prog Tryz.f3 (OpenSpec.ofChange Rows.litSpeltSpec) false w args)
   (Rows.litSpeltSpec.post enc Tryz.prog Tryz.f3 false true false false):=by
 refine returnsInHanded_of_change_and (C:=Tryz.checked) (X:=fun w _=>laidMetH Tryz.prog laids w) (fun _ _ _ hh h=>h.of_heap hh) own started (by kernel_rfl) Tryz.func3
  (ChangeSpec.witness_shaped (enc:=enc) (C:=Tryz.checked) (os:=os) (X:=fun w _=>laidMetH Tryz.prog laids w) false (World.doorLaid Tryz.prog 400 os) #[.string ⟨#[]⟩,.string ⟨#[]⟩,.int .i64 0] 8 rfl (World.shaped_of_RefB (by kernel_rfl) (by kernel_rfl)) (by kernel_rfl) (by kernel_rfl) (by kernel_rfl) (door_met os _)) ?_
 intro W base args ds gs before hval0 hW _ hsz0 hL _
 have hval:∀(j:Nat) t v,Tryz.f3.params[j]?=some t→args[j]?=some v→Value.okWide Tryz.prog W .any base t v:=hval0
 have hW':=hW
 obtain ⟨p,q,hA0,hV,rfl,hfz,hnd⟩:=hW
 have hA:DataW.TrodAll enc Tryz.prog W 0 (fun _=>true) true Tryz.f3.params.toList args.toList ds p:=hA0
 obtain ⟨rfl,rfl⟩:=trodVars_none hV
 rw [List.append_nil] at hsz0
 have hsz:(DataW.weightsEach Tryz.prog (Tryz.f3.params.toList++Rows.litSpeltSpec.plain.varTypes Tryz.prog) ds).all (· ≤ reachBytes)=true:=hsz0
 rw [Tryz.params3] at hA hval hsz
 obtain ⟨v1,v2,v3,d1,d2,d3,p1,p2,p3,rfl,rfl,rfl,h1,h2,h3⟩:=trodAll_three hA
 obtain ⟨s1,rfl,rfl,rfl,hs1⟩:=Go.ChangeMaps.open_string Tryz.underlying9 (hval 0 _ _ rfl rfl) h1
 have hz1:s1.data.toList.length≤140737488355328:=by have:=sized_string hsz (j:=0) rfl rfl;simp [reachBytes] at this ⊢;omega
 obtain ⟨l1,hl1,rfl⟩:∃l:List UInt8,l.length≤140737488355328∧s1=bs l:=⟨s1.data.toList,hz1,bs_of s1⟩
 obtain ⟨s2,rfl,rfl,rfl,hs2⟩:=Go.ChangeMaps.open_string Tryz.underlying9 (hval 1 _ _ rfl rfl) h2
 have hz2:s2.data.toList.length≤140737488355328:=by have:=sized_string hsz (j:=1) rfl rfl;simp [reachBytes] at this ⊢;omega
 obtain ⟨l2,hl2,rfl⟩:∃l:List UInt8,l.length≤140737488355328∧s2=bs l:=⟨s2.data.toList,hz2,bs_of s2⟩
 obtain ⟨m3,rfl,rfl,rfl,hw3⟩:=open_int Tryz.underlying3 (hval 2 _ _ rfl rfl) h3
 have hw3':=hw3
 simp [Lit.wf,IntKind.min,IntKind.max,IntKind.signed,IntKind.bits] at hw3'
 refine (walk_spelt l1 l2 m3 W hl1 hl2 (by omega) (by omega) ((tab_of hL).2)).mono fun e W' ⟨he,hb⟩ => ?_
 subst he
 exact ⟨_,rfl,law_post hW' rfl laidOut (by kernel_rfl) rfl Tryz.underlying4 rfl hb⟩
theorem over:Rows.litSpeltRow.holds Tryz.pinned (OpenSpec.ofChange Rows.litSpeltSpec):=
 OpenClaim.holds_of_wide 3 Tryz.f3 rfl rfl rfl rfl rfl rfl rfl ⟨rfl,rfl,rfl,rfl,rfl⟩ rfl rfl rfl rfl rfl (by kernel_rfl) Tryz.func3 (by kernel_rfl)
  (of_decide_eq_true (by kernel_rfl)) (by unfold Func.isWrapper;first | (rw [if_pos (by decide +kernel)];kernel_rfl) | (rw [if_neg (by decide +kernel)];exact ⟨rfl,rfl⟩))
  (fun os started H enc _=>lifted os started H enc)
theorem proved:Rows.LitSpeltCardSaid:=
 Claim7.holds_tied_plain_at .later [] [.data,.data,.data] true (true, "112dd71e868a479b2242bf640f210404d4e9b80888320533dc07937b20420d44") true
  over (fun _ h=>by cases h) (by kernel_rfl) (fun _ h=>by cases h) litSpelt_row_tie rfl ⟨rfl,rfl⟩ (by kernel_rfl) rfl
  (fun f fn hf hfn=>by
   obtain rfl:f=3:=Option.some.inj ((show Tryz.prog.funcNamed "verge/vergelaw12.LitSpelt" = some 3 by kernel_rfl).symm.trans hf) |>.symm
   obtain rfl:fn=Tryz.f3:=(Option.some.inj (Tryz.func3.symm.trans hfn)).symm
   exact ⟨by kernel_rfl,fun j t ht=>by
    rw [Tryz.params3] at ht
    have hm:t∈([9,9,3]:List Nat):=by simpa using Array.mem_of_getElem? ht
    have hall:(([9,9,3]:List Nat).all fun u => !Tryz.prog.wantsStandIn u)=true:=by kernel_rfl
    exact (show Tryz.prog.wantsStandIn t=false by simpa using List.all_eq_true.1 hall t hm)⟩)
  (by kernel_rfl)
#print axioms proved
end Go.Proofs.YtigmpifjcijdbaaGreatDoor.litSpelt
