/- Proved: vergelaw17.InfixNormals returns true for every program, and each argument reads afterwards as it read before; no conditions. -/
import Derived.Test.YtggjbbkcdbnckaaPrgM
import Derived.Test.YtggjbbkcdbnckaaOpen
import Derived.Test.YtggjbbkcdbnckaaOpenP
namespace Go.Proofs.Ytggjbbkcdbnckaa.infixNormals
open Go.ChangeShapes Go.WideShapes Go.ChangeAt Go.RowKit
set_option linter.unusedVariables false

set_option maxRecDepth 100000 in
theorem lifted (os : Os) (started : os.Started) (H : Type) (enc : TypeId × Value → H) :
    ReturnsInHanded {} Try.checked os 3 .any (Rows.infixNormalsSpec.pre6 enc Try.prog Try.f3 Rows.infixNormalsRow.domain false) (Rows.infixNormalsSpec.post enc Try.prog Try.f3 false true false false) := by
  refine returnsInHanded_of_change_sized (C := Try.checked) own started (by kernel_rfl) Try.func3
    (ChangeSpec.witness6 (enc := enc) (C := Try.checked) false ⟨#[], #[.agg #[.int .i64 0, .slice none 0 0, .slice none 0 0]], []⟩ 8 (by kernel_rfl) (by kernel_rfl) (by kernel_rfl) (by kernel_rfl)) ?_
  intro W base args ds gs before hval0 hW _ hsz0 _
  have hval : ∀ (j : Nat) t v, Try.f3.params[j]? = some t → args[j]? = some v → Value.okWide Try.prog W .any base t v := hval0
  have hW' := hW
  obtain ⟨p, q, hA0, hV, rfl, hfz, hnd⟩ := hW
  have hA : DataW.TrodAll enc Try.prog W 0 (fun _ => true) true Try.f3.params.toList args.toList ds p := hA0
  obtain ⟨rfl, rfl⟩ := trodVars_none hV
  rw [List.append_nil] at hsz0
  have hsz : (DataW.weightsEach Try.prog (Try.f3.params.toList ++ Rows.infixNormalsSpec.plain.varTypes Try.prog) ds).all (· ≤ reachBytes) = true := hsz0
  rw [Try.params3] at hA hval hsz
  obtain ⟨v1, d1, rfl, rfl, h1⟩ := trodAll_one hA
  obtain ⟨s1, C1, L1, X1, Y1, rfl, hC1, hL1, hw1, hz1⟩ := program_open h1 (hval 0 _ _ rfl rfl)
  obtain ⟨hX1, hY1⟩ := hz1 _ _ 0 hsz rfl rfl
  refine (walk_normals s1 C1 L1 X1 Y1 W hC1 hL1 hw1 hX1 hY1).mono fun e W' ⟨he, hb⟩ => ?_
  subst he
  exact ⟨_, rfl, law_post hW' rfl laidOut (by kernel_rfl) rfl Try.underlying4 rfl hb⟩

theorem over : Rows.infixNormalsRow.holds Try.pinned (OpenSpec.ofChange Rows.infixNormalsSpec) :=
  OpenClaim.holds_of_wide 3 Try.f3 rfl rfl rfl rfl rfl rfl rfl ⟨rfl, rfl, rfl, rfl, rfl⟩ rfl rfl rfl rfl rfl (by kernel_rfl) Try.func3 (by kernel_rfl)
    (of_decide_eq_true (by kernel_rfl)) (by unfold Func.isWrapper; first | (rw [if_pos (by decide +kernel)]; kernel_rfl) | (rw [if_neg (by decide +kernel)]; exact ⟨rfl, rfl⟩))
    (fun os started H enc _ => lifted os started H enc)

theorem proved : Rows.InfixNormalsSaid :=
  over
#print axioms proved
end Go.Proofs.Ytggjbbkcdbnckaa.infixNormals
