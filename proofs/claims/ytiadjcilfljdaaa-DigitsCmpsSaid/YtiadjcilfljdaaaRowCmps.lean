/- Proved: vergelaw5.DigitsCmps returns true for any two texts, and each argument reads afterwards as it read before; no conditions. -/
import Derived.Test.YtiadjcilfljdaaaCmpA
import Derived.Test.YtiadjcilfljdaaaOpen
import Derived.ChangeMaps5
import Derived.SizedLaws
namespace Go.Proofs.Ytiadjcilfljdaaa.digitsCmps
open Go.ChangeShapes Go.WideShapes Go.ChangeAt Go.RowKit
set_option linter.unusedVariables false

set_option maxRecDepth 100000 in
theorem lifted (os : Os) (started : os.Started) (H : Type) (enc : TypeId × Value → H) :
    ReturnsInHanded {} Try.checked os 4 .any (Rows.digitsCmpsSpec.pre6 enc Try.prog Try.f4 Rows.digitsCmpsRow.domain false) (Rows.digitsCmpsSpec.post enc Try.prog Try.f4 false true false false) := by
  refine returnsInHanded_of_change_sized (C := Try.checked) own started (by kernel_rfl) Try.func4
    (ChangeSpec.witness6 (enc := enc) (C := Try.checked) false ⟨#[], #[.string ⟨#[]⟩, .string ⟨#[]⟩], []⟩ 8 (by kernel_rfl) (by kernel_rfl) (by kernel_rfl) (by kernel_rfl)) ?_
  intro W base args ds gs before hval0 hW _ hsz0 _
  have hval : ∀ (j : Nat) t v, Try.f4.params[j]? = some t → args[j]? = some v → Value.okWide Try.prog W .any base t v := hval0
  have hW' := hW
  obtain ⟨p, q, hA0, hV, rfl, hfz, hnd⟩ := hW
  have hA : DataW.TrodAll enc Try.prog W 0 (fun _ => true) true Try.f4.params.toList args.toList ds p := hA0
  obtain ⟨rfl, rfl⟩ := trodVars_none hV
  rw [List.append_nil] at hsz0
  have hsz : (DataW.weightsEach Try.prog (Try.f4.params.toList ++ Rows.digitsCmpsSpec.plain.varTypes Try.prog) ds).all (· ≤ reachBytes) = true := hsz0
  rw [Try.params4] at hA hval hsz
  obtain ⟨v1, v2, d1, d2, p1, p2, rfl, rfl, rfl, h1, h2⟩ := trodAll_two hA
  obtain ⟨s1, rfl, rfl, rfl, hs1⟩ := Go.ChangeMaps.open_string Try.underlying9 (hval 0 _ _ rfl rfl) h1
  have hz1 : s1.data.toList.length ≤ 140737488355328 := by have := sized_string hsz (j := 0) rfl rfl; simp [reachBytes] at this ⊢; omega
  obtain ⟨l1, hl1, rfl⟩ : ∃ l : List UInt8, l.length ≤ 140737488355328 ∧ s1 = bs l := ⟨s1.data.toList, hz1, bs_of s1⟩
  obtain ⟨s2, rfl, rfl, rfl, hs2⟩ := Go.ChangeMaps.open_string Try.underlying9 (hval 1 _ _ rfl rfl) h2
  have hz2 : s2.data.toList.length ≤ 140737488355328 := by have := sized_string hsz (j := 1) rfl rfl; simp [reachBytes] at this ⊢; omega
  obtain ⟨l2, hl2, rfl⟩ : ∃ l : List UInt8, l.length ≤ 140737488355328 ∧ s2 = bs l := ⟨s2.data.toList, hz2, bs_of s2⟩
  refine (walk_cmps l1 l2 W hl1 hl2).mono fun e W' ⟨he, hb⟩ => ?_
  subst he
  exact ⟨_, rfl, law_post hW' rfl laidOut (by kernel_rfl) rfl Try.underlying4 rfl hb⟩

theorem over : Rows.digitsCmpsRow.holds Try.pinned (OpenSpec.ofChange Rows.digitsCmpsSpec) :=
  OpenClaim.holds_of_wide 4 Try.f4 rfl rfl rfl rfl rfl rfl rfl ⟨rfl, rfl, rfl, rfl, rfl⟩ rfl rfl rfl rfl rfl (by kernel_rfl) Try.func4 (by kernel_rfl)
    (of_decide_eq_true (by kernel_rfl)) (by unfold Func.isWrapper; first | (rw [if_pos (by decide +kernel)]; kernel_rfl) | (rw [if_neg (by decide +kernel)]; exact ⟨rfl, rfl⟩))
    (fun os started H enc _ => lifted os started H enc)

theorem proved : Rows.DigitsCmpsSaid :=
  over
#print axioms proved
end Go.Proofs.Ytiadjcilfljdaaa.digitsCmps
