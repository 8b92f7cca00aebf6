/- Proved: vergelaw12.LitExacts returns true for every pair of patterns, and each argument reads afterwards as it read before; no conditions. -/
import Derived.Test.YtenoemjfoadgpaaDoorLitE
import Derived.Test.YtenoemjfoadgpaaDoorOpenF
import Derived.Lib.SmallJoins
import Derived.Test.YtenoemjfoadgpaaDoorCards
import Derived.SevenTiedAt
namespace Go.Proofs.YtenoemjfoadgpaaDoor.litExacts
open Go.ChangeShapes Go.WideShapes Go.ChangeAt Go.RowKit
set_option linter.unusedVariables false

set_option maxRecDepth 100000 in
theorem lifted (os : Os) (started : os.Started) (H : Type) (enc : TypeId × Value → H) :
    ReturnsInHanded {} Tryd.checked os 3 .any (fun w args => (Rows.litExactsSpec.pre enc Tryd.prog Tryd.f3 [] false w args ∧ laidMetH Tryd.prog laids w) ∧ sizedMet enc Tryd.prog Tryd.f3 (OpenSpec.ofChange Rows.litExactsSpec) false w args)
      (Rows.litExactsSpec.post enc Tryd.prog Tryd.f3 false true false false) := by
  refine returnsInHanded_of_change_and (C := Tryd.checked) (X := fun w _ => laidMetH Tryd.prog laids w) (fun _ _ _ hh h => h.of_heap hh) own started (by kernel_rfl) Tryd.func3
    (ChangeSpec.witness_shaped (enc := enc) (C := Tryd.checked) (os := os) (X := fun w _ => laidMetH Tryd.prog laids w) false (World.doorLaid Tryd.prog 400 os) #[.agg #[.int .u64 0, .int .u64 0]] 8 rfl (World.shaped_of_RefB (by kernel_rfl) (by kernel_rfl)) (by kernel_rfl) (by kernel_rfl) (by kernel_rfl) (door_met os _)) ?_
  intro W base args ds gs before hval0 hW _ hsz0 hL _
  have hval : ∀ (j : Nat) t v, Tryd.f3.params[j]? = some t → args[j]? = some v → Value.okWide Tryd.prog W .any base t v := hval0
  have hW' := hW
  obtain ⟨p, q, hA0, hV, rfl, hfz, hnd⟩ := hW
  have hA : DataW.TrodAll enc Tryd.prog W 0 (fun _ => true) true Tryd.f3.params.toList args.toList ds p := hA0
  obtain ⟨rfl, rfl⟩ := trodVars_none hV
  rw [List.append_nil] at hsz0
  have hsz : (DataW.weightsEach Tryd.prog (Tryd.f3.params.toList ++ Rows.litExactsSpec.plain.varTypes Tryd.prog) ds).all (· ≤ reachBytes) = true := hsz0
  rw [Tryd.params3] at hA hval hsz
  obtain ⟨v1, d1, rfl, rfl, h1⟩ := trodAll_one hA
  obtain ⟨c1a, c1b, y1a, y1b, u1, rfl, rfl, rfl, hya1, hyb1⟩ := Go.Joins.open_agg2 Tryd.underlying24 (by kernel_rfl) (show Tryd.prog.cellsOf 24 = 2 by kernel_rfl) (hval 0 _ _ rfl rfl) h1
  obtain ⟨x1a, e1a, rfl, wx1a⟩ := DataW.trod_int Tryd.underlying22 hya1
  simp at e1a
  subst e1a
  simp [Lit.wf, IntKind.min, IntKind.max, IntKind.signed, IntKind.bits] at wx1a
  obtain ⟨X1a, rfl⟩ := Int.eq_ofNat_of_zero_le (show 0 ≤ x1a by omega)
  obtain ⟨x1b, e1b, rfl, wx1b⟩ := DataW.trod_int Tryd.underlying22 hyb1
  simp at e1b
  subst e1b
  simp [Lit.wf, IntKind.min, IntKind.max, IntKind.signed, IntKind.bits] at wx1b
  obtain ⟨X1b, rfl⟩ := Int.eq_ofNat_of_zero_le (show 0 ≤ x1b by omega)
  refine (walk_litexacts X1a X1b W (by omega) (by omega) ((tab_of hL).2)).mono fun e W' ⟨he, hb⟩ => ?_
  subst he
  exact ⟨_, rfl, law_post hW' rfl laidOut (by kernel_rfl) rfl Tryd.underlying4 rfl hb⟩

theorem over : Rows.litExactsRow.holds Tryd.pinned (OpenSpec.ofChange Rows.litExactsSpec) :=
  OpenClaim.holds_of_wide 3 Tryd.f3 rfl rfl rfl rfl rfl rfl rfl ⟨rfl, rfl, rfl, rfl, rfl⟩ rfl rfl rfl rfl rfl (by kernel_rfl) Tryd.func3 (by kernel_rfl)
    (of_decide_eq_true (by kernel_rfl)) (by unfold Func.isWrapper; first | (rw [if_pos (by decide +kernel)]; kernel_rfl) | (rw [if_neg (by decide +kernel)]; exact ⟨rfl, rfl⟩))
    (fun os started H enc _ => lifted os started H enc)

theorem proved : Rows.LitExactsCardSaid :=
  Claim7.holds_tied_plain_at .later [] [.data, .data, .data] true (true, "19accb93c4acd1fc8826b12c45262d5f38b36f4f0d6682d1aff30ce06dd325b5") false
    over (fun _ h => by cases h) (by kernel_rfl) (fun _ h => by cases h) litExacts_row_tie rfl ⟨rfl, rfl⟩ (by kernel_rfl) rfl
    (fun f fn hf hfn => by
      obtain rfl : f = 3 := Option.some.inj ((show Tryd.prog.funcNamed "verge/vergelaw12.LitExacts" = some 3 by kernel_rfl).symm.trans hf) |>.symm
      obtain rfl : fn = Tryd.f3 := (Option.some.inj (Tryd.func3.symm.trans hfn)).symm
      exact ⟨by kernel_rfl, fun j t ht => by
        rw [Tryd.params3] at ht
        have hm : t ∈ ([24] : List Nat) := by simpa using Array.mem_of_getElem? ht
        have hall : (([24] : List Nat).all fun u => !Tryd.prog.wantsStandIn u) = true := by kernel_rfl
        exact (show Tryd.prog.wantsStandIn t = false by simpa using List.all_eq_true.1 hall t hm)⟩)
    (by kernel_rfl)
#print axioms proved
end Go.Proofs.YtenoemjfoadgpaaDoor.litExacts
