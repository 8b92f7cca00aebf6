/- Proved: vergelaw8.MeasMirror returns true for every interval (any two patterns), and each argument reads afterwards as it read before; no conditions. -/
import Derived.Test.YtmmbbkeefphaiaaMirC
import Derived.Test.YtmmbbkeefphaiaaOpen
import Derived.Lib.SmallJoins
namespace Go.Proofs.Ytmmbbkeefphaiaa.measMirror
open Go.ChangeShapes Go.WideShapes Go.ChangeAt Go.RowKit
set_option linter.unusedVariables false

set_option maxRecDepth 100000 in
theorem lifted (os : Os) (started : os.Started) (H : Type) (enc : TypeId × Value → H) :
    ReturnsInHanded {} Try.checked os 12 .any (Rows.measMirrorSpec.pre6 enc Try.prog Try.f12 Rows.measMirrorRow.domain false) (Rows.measMirrorSpec.post enc Try.prog Try.f12 false true false false) := by
  refine returnsInHanded_of_change_sized (C := Try.checked) own started (by kernel_rfl) Try.func12
    (ChangeSpec.witness6 (enc := enc) (C := Try.checked) false ⟨#[], #[.agg #[.int .u64 0, .int .u64 0]], []⟩ 8 (by kernel_rfl) (by kernel_rfl) (by kernel_rfl) (by kernel_rfl)) ?_
  intro W base args ds gs before hval0 hW _ hsz0 _
  have hval : ∀ (j : Nat) t v, Try.f12.params[j]? = some t → args[j]? = some v → Value.okWide Try.prog W .any base t v := hval0
  have hW' := hW
  obtain ⟨p, q, hA0, hV, rfl, hfz, hnd⟩ := hW
  have hA : DataW.TrodAll enc Try.prog W 0 (fun _ => true) true Try.f12.params.toList args.toList ds p := hA0
  obtain ⟨rfl, rfl⟩ := trodVars_none hV
  rw [List.append_nil] at hsz0
  have hsz : (DataW.weightsEach Try.prog (Try.f12.params.toList ++ Rows.measMirrorSpec.plain.varTypes Try.prog) ds).all (· ≤ reachBytes) = true := hsz0
  rw [Try.params12] at hA hval hsz
  obtain ⟨v1, d1, rfl, rfl, h1⟩ := trodAll_one hA
  obtain ⟨c1a, c1b, y1a, y1b, u1, rfl, rfl, rfl, hya1, hyb1⟩ := Go.Joins.open_agg2 Try.underlying24 (by kernel_rfl) (show Try.prog.cellsOf 24 = 2 by kernel_rfl) (hval 0 _ _ rfl rfl) h1
  obtain ⟨x1a, e1a, rfl, wx1a⟩ := DataW.trod_int Try.underlying22 hya1
  simp at e1a
  subst e1a
  simp [Lit.wf, IntKind.min, IntKind.max, IntKind.signed, IntKind.bits] at wx1a
  obtain ⟨X1a, rfl⟩ := Int.eq_ofNat_of_zero_le (show 0 ≤ x1a by omega)
  obtain ⟨x1b, e1b, rfl, wx1b⟩ := DataW.trod_int Try.underlying22 hyb1
  simp at e1b
  subst e1b
  simp [Lit.wf, IntKind.min, IntKind.max, IntKind.signed, IntKind.bits] at wx1b
  obtain ⟨X1b, rfl⟩ := Int.eq_ofNat_of_zero_le (show 0 ≤ x1b by omega)
  refine (mirror_row' X1a X1b W (by omega) (by omega)).mono fun e W' ⟨he, hb⟩ => ?_
  subst he
  exact ⟨_, rfl, law_post hW' rfl laidOut (by kernel_rfl) rfl Try.underlying4 rfl hb⟩

theorem over : Rows.measMirrorRow.holds Try.pinned (OpenSpec.ofChange Rows.measMirrorSpec) :=
  OpenClaim.holds_of_wide 12 Try.f12 rfl rfl rfl rfl rfl rfl rfl ⟨rfl, rfl, rfl, rfl, rfl⟩ rfl rfl rfl rfl rfl (by kernel_rfl) Try.func12 (by kernel_rfl)
    (of_decide_eq_true (by kernel_rfl)) (by unfold Func.isWrapper; first | (rw [if_pos (by decide +kernel)]; kernel_rfl) | (rw [if_neg (by decide +kernel)]; exact ⟨rfl, rfl⟩))
    (fun os started H enc _ => lifted os started H enc)

theorem proved : Rows.MeasMirrorSaid :=
  over
#print axioms proved
end Go.Proofs.Ytmmbbkeefphaiaa.measMirror
