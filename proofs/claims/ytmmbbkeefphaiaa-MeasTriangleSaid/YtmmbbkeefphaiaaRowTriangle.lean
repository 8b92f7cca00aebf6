/- Proved: vergelaw8.MeasTriangle returns true for every six patterns of binary64, and each argument reads afterwards as it read before; no conditions. -/
import Derived.Test.YtmmbbkeefphaiaaTriB
import Derived.Test.YtmmbbkeefphaiaaOpen
import Derived.Lib.SmallJoins
namespace Go.Proofs.Ytmmbbkeefphaiaa.measTriangle
open Go.ChangeShapes Go.WideShapes Go.ChangeAt Go.RowKit
set_option linter.unusedVariables false

set_option maxRecDepth 100000 in
theorem lifted (os : Os) (started : os.Started) (H : Type) (enc : TypeId × Value → H) :
    ReturnsInHanded {} Try.checked os 9 .any (Rows.measTriangleSpec.pre6 enc Try.prog Try.f9 Rows.measTriangleRow.domain false) (Rows.measTriangleSpec.post enc Try.prog Try.f9 false true false false) := by
  refine returnsInHanded_of_change_sized (C := Try.checked) own started (by kernel_rfl) Try.func9
    (ChangeSpec.witness6 (enc := enc) (C := Try.checked) false ⟨#[], #[.agg #[.int .u64 0, .int .u64 0], .agg #[.int .u64 0, .int .u64 0], .agg #[.int .u64 0, .int .u64 0]], []⟩ 8 (by kernel_rfl) (by kernel_rfl) (by kernel_rfl) (by kernel_rfl)) ?_
  intro W base args ds gs before hval0 hW _ hsz0 _
  have hval : ∀ (j : Nat) t v, Try.f9.params[j]? = some t → args[j]? = some v → Value.okWide Try.prog W .any base t v := hval0
  have hW' := hW
  obtain ⟨p, q, hA0, hV, rfl, hfz, hnd⟩ := hW
  have hA : DataW.TrodAll enc Try.prog W 0 (fun _ => true) true Try.f9.params.toList args.toList ds p := hA0
  obtain ⟨rfl, rfl⟩ := trodVars_none hV
  rw [List.append_nil] at hsz0
  have hsz : (DataW.weightsEach Try.prog (Try.f9.params.toList ++ Rows.measTriangleSpec.plain.varTypes Try.prog) ds).all (· ≤ reachBytes) = true := hsz0
  rw [Try.params9] at hA hval hsz
  obtain ⟨v1, v2, v3, d1, d2, d3, p1, p2, p3, rfl, rfl, rfl, h1, h2, h3⟩ := trodAll_three hA
  obtain ⟨c1a, c1b, y1a, y1b, u1, rfl, rfl, rfl, hya1, hyb1⟩ := Go.Joins.open_agg2 Try.underlying24 (by kernel_rfl) (show Try.prog.cellsOf 24 = 2 by kernel_rfl) (hval 0 _ _ rfl rfl) h1
  obtain ⟨x1a, e1a, rfl, wx1a⟩ := DataW.trod_int Try.underlying22 hya1
  simp at e1a
  subst e1a
  simp [Lit.wf, IntKind.min, IntKind.max, IntKind.signed, IntKind.bits] at wx1a
  obtain ⟨X1a, rfl⟩ := Int.eq_ofNat_of_zero_le (show 0 ≤ x1a by omega)
  obtain ⟨x1b, e1b, rfl, wx1b⟩ := DataW.trod_int Try.underlying22 hyb1
  simp at e1b
  subst e1b
  simp [Lit.wf, IntKind.min, IntKind.max, IntKind.signed, IntKind.bits] at wx1b
  obtain ⟨X1b, rfl⟩ := Int.eq_ofNat_of_zero_le (show 0 ≤ x1b by omega)
  obtain ⟨c2a, c2b, y2a, y2b, u2, rfl, rfl, rfl, hya2, hyb2⟩ := Go.Joins.open_agg2 Try.underlying24 (by kernel_rfl) (show Try.prog.cellsOf 24 = 2 by kernel_rfl) (hval 1 _ _ rfl rfl) h2
  obtain ⟨x2a, e2a, rfl, wx2a⟩ := DataW.trod_int Try.underlying22 hya2
  simp at e2a
  subst e2a
  simp [Lit.wf, IntKind.min, IntKind.max, IntKind.signed, IntKind.bits] at wx2a
  obtain ⟨X2a, rfl⟩ := Int.eq_ofNat_of_zero_le (show 0 ≤ x2a by omega)
  obtain ⟨x2b, e2b, rfl, wx2b⟩ := DataW.trod_int Try.underlying22 hyb2
  simp at e2b
  subst e2b
  simp [Lit.wf, IntKind.min, IntKind.max, IntKind.signed, IntKind.bits] at wx2b
  obtain ⟨X2b, rfl⟩ := Int.eq_ofNat_of_zero_le (show 0 ≤ x2b by omega)
  obtain ⟨c3a, c3b, y3a, y3b, u3, rfl, rfl, rfl, hya3, hyb3⟩ := Go.Joins.open_agg2 Try.underlying24 (by kernel_rfl) (show Try.prog.cellsOf 24 = 2 by kernel_rfl) (hval 2 _ _ rfl rfl) h3
  obtain ⟨x3a, e3a, rfl, wx3a⟩ := DataW.trod_int Try.underlying22 hya3
  simp at e3a
  subst e3a
  simp [Lit.wf, IntKind.min, IntKind.max, IntKind.signed, IntKind.bits] at wx3a
  obtain ⟨X3a, rfl⟩ := Int.eq_ofNat_of_zero_le (show 0 ≤ x3a by omega)
  obtain ⟨x3b, e3b, rfl, wx3b⟩ := DataW.trod_int Try.underlying22 hyb3
  simp at e3b
  subst e3b
  simp [Lit.wf, IntKind.min, IntKind.max, IntKind.signed, IntKind.bits] at wx3b
  obtain ⟨X3b, rfl⟩ := Int.eq_ofNat_of_zero_le (show 0 ≤ x3b by omega)
  refine (triangle_row X1a X1b X2a X2b X3a X3b W (by omega) (by omega) (by omega) (by omega) (by omega) (by omega)).mono fun e W' ⟨he, hb⟩ => ?_
  subst he
  exact ⟨_, rfl, law_post hW' rfl laidOut (by kernel_rfl) rfl Try.underlying4 rfl hb⟩

theorem over : Rows.measTriangleRow.holds Try.pinned (OpenSpec.ofChange Rows.measTriangleSpec) :=
  OpenClaim.holds_of_wide 9 Try.f9 rfl rfl rfl rfl rfl rfl rfl ⟨rfl, rfl, rfl, rfl, rfl⟩ rfl rfl rfl rfl rfl (by kernel_rfl) Try.func9 (by kernel_rfl)
    (of_decide_eq_true (by kernel_rfl)) (by unfold Func.isWrapper; first | (rw [if_pos (by decide +kernel)]; kernel_rfl) | (rw [if_neg (by decide +kernel)]; exact ⟨rfl, rfl⟩))
    (fun os started H enc _ => lifted os started H enc)

theorem proved : Rows.MeasTriangleSaid :=
  over
#print axioms proved
end Go.Proofs.Ytmmbbkeefphaiaa.measTriangle
