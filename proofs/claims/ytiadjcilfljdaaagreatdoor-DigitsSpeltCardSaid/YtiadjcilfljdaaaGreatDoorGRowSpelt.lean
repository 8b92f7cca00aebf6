/- Proved: vergelaw5.DigitsSpelt returns true for any decimal in pieces and any int, and each argument reads afterwards as it read before; no conditions. -/
import Derived.Test.YtiadjcilfljdaaaGreatDoorG49
import Derived.Test.YtiadjcilfljdaaaGreatDoorG38
import Derived.Test.YtiadjcilfljdaaaGreatDoorCards
import Derived.SevenTiedAt
namespace Go.Proofs.YtiadjcilfljdaaaGreatDoor.digitsSpelt
open Go.ChangeShapes Go.WideShapes Go.ChangeAt Go.RowKit
set_option linter.unusedVariables false

set_option maxRecDepth 100000 in
theorem lifted (os : Os) (started : os.Started) (H : Type) (enc : TypeId × Value → H) :
    ReturnsInHanded {} Tryz.checked os 5 .any (fun w args => (Rows.digitsSpeltSpec.pre enc Tryz.prog Tryz.f5 [] false w args ∧ laidMetH Tryz.prog laids w) ∧ sizedMet enc Tryz.prog Tryz.f5 (OpenSpec.ofChange Rows.digitsSpeltSpec) false w args)
      (Rows.digitsSpeltSpec.post enc Tryz.prog Tryz.f5 false true false false) := by
  refine returnsInHanded_of_change_and (C := Tryz.checked) (X := fun w _ => laidMetH Tryz.prog laids w) (fun _ _ _ hh h => h.of_heap hh) own started (by kernel_rfl) Tryz.func5
    (ChangeSpec.witness_shaped (enc := enc) (C := Tryz.checked) (os := os) (X := fun w _ => laidMetH Tryz.prog laids w) false (World.doorLaid Tryz.prog 400 os) #[.agg #[.bool false, .string ⟨#[]⟩, .string ⟨#[]⟩, .int .i64 0, .int .i64 0], .int .i64 0] 8 rfl (World.shaped_of_RefB (by kernel_rfl) (by kernel_rfl)) (by kernel_rfl) (by kernel_rfl) (by kernel_rfl) (door_met os _)) ?_
  intro W base args ds gs before hval0 hW _ hsz0 hL _
  have hval : ∀ (j : Nat) t v, Tryz.f5.params[j]? = some t → args[j]? = some v → Value.okWide Tryz.prog W .any base t v := hval0
  have hW' := hW
  obtain ⟨p, q, hA0, hV, rfl, hfz, hnd⟩ := hW
  have hA : DataW.TrodAll enc Tryz.prog W 0 (fun _ => true) true Tryz.f5.params.toList args.toList ds p := hA0
  obtain ⟨rfl, rfl⟩ := trodVars_none hV
  rw [List.append_nil] at hsz0
  have hsz : (DataW.weightsEach Tryz.prog (Tryz.f5.params.toList ++ Rows.digitsSpeltSpec.plain.varTypes Tryz.prog) ds).all (· ≤ reachBytes) = true := hsz0
  rw [Tryz.params5] at hA hval hsz
  obtain ⟨v1, v2, d1, d2, p1, p2, rfl, rfl, rfl, h1, h2⟩ := trodAll_two hA
  obtain ⟨b1, la1, lt1, e1, z1, rfl, e1a, e1b, z1a, z1b, hz1⟩ := spelt_open h1 (hval 0 _ _ rfl rfl)
  obtain ⟨hla1, hlt1⟩ := hz1 _ _ 0 hsz rfl rfl
  obtain ⟨m2, rfl, rfl, rfl, hw2⟩ := open_int Tryz.underlying3 (hval 1 _ _ rfl rfl) h2
  have hw2' := hw2
  simp [Lit.wf, IntKind.min, IntKind.max, IntKind.signed, IntKind.bits] at hw2'
  refine (walk_speltd b1 la1 lt1 e1 z1 m2 W hla1 hlt1 e1a e1b z1a z1b (by omega) (by omega) ((tab_of hL).2)).mono fun e W' ⟨he, hb⟩ => ?_
  subst he
  exact ⟨_, rfl, law_post hW' rfl laidOut (by kernel_rfl) rfl Tryz.underlying4 rfl hb⟩

theorem over : Rows.digitsSpeltRow.holds Tryz.pinned (OpenSpec.ofChange Rows.digitsSpeltSpec) :=
  OpenClaim.holds_of_wide 5 Tryz.f5 rfl rfl rfl rfl rfl rfl rfl ⟨rfl, rfl, rfl, rfl, rfl⟩ rfl rfl rfl rfl rfl (by kernel_rfl) Tryz.func5 (by kernel_rfl)
    (of_decide_eq_true (by kernel_rfl)) (by unfold Func.isWrapper; first | (rw [if_pos (by decide +kernel)]; kernel_rfl) | (rw [if_neg (by decide +kernel)]; exact ⟨rfl, rfl⟩))
    (fun os started H enc _ => lifted os started H enc)

theorem proved : Rows.DigitsSpeltCardSaid :=
  Claim7.holds_tied_plain_at .later [] [.data, .data, .data] true (true, "d57e46e35efd303770a823a814b45ee59d911c2a1c48ea96927386c0a9db80ff") true
    over (fun _ h => by cases h) (by kernel_rfl) (fun _ h => by cases h) digitsSpelt_row_tie rfl ⟨rfl, rfl⟩ (by kernel_rfl) rfl
    (fun f fn hf hfn => by
      obtain rfl : f = 5 := Option.some.inj ((show Tryz.prog.funcNamed "verge/vergelaw5.DigitsSpelt" = some 5 by kernel_rfl).symm.trans hf) |>.symm
      obtain rfl : fn = Tryz.f5 := (Option.some.inj (Tryz.func5.symm.trans hfn)).symm
      exact ⟨by kernel_rfl, fun j t ht => by
        rw [Tryz.params5] at ht
        have hm : t ∈ ([39, 3] : List Nat) := by simpa using Array.mem_of_getElem? ht
        have hall : (([39, 3] : List Nat).all fun u => !Tryz.prog.wantsStandIn u) = true := by kernel_rfl
        exact (show Tryz.prog.wantsStandIn t = false by simpa using List.all_eq_true.1 hall t hm)⟩)
    (by kernel_rfl)
#print axioms proved
end Go.Proofs.YtiadjcilfljdaaaGreatDoor.digitsSpelt
