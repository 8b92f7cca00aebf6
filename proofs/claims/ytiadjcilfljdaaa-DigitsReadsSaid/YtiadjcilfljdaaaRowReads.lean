/- Proved: vergelaw5.DigitsReads returns true for any int and any text, and each argument reads afterwards as it read before; no conditions. -/
import Derived.Test.YtiadjcilfljdaaaRdsA
import Derived.Test.YtiadjcilfljdaaaOpen
import Derived.ChangeMaps5
import Derived.SizedLaws
namespace Go.Proofs.Ytiadjcilfljdaaa.digitsReads
open Go.ChangeShapes Go.WideShapes Go.ChangeAt Go.RowKit
set_option linter.unusedVariables false

set_option maxRecDepth 100000 in
theorem lifted (os : Os) (started : os.Started) (H : Type) (enc : TypeId × Value → H) :
    ReturnsInHanded {} Try.checked os 5 .any (Rows.digitsReadsSpec.pre6 enc Try.prog Try.f5 Rows.digitsReadsRow.domain false) (Rows.digitsReadsSpec.post enc Try.prog Try.f5 false true false false) := by
  refine returnsInHanded_of_change_sized (C := Try.checked) own started (by kernel_rfl) Try.func5
    (ChangeSpec.witness6 (enc := enc) (C := Try.checked) false ⟨#[], #[.int .i64 0, .string ⟨#[]⟩], []⟩ 8 (by kernel_rfl) (by kernel_rfl) (by kernel_rfl) (by kernel_rfl)) ?_
  intro W base args ds gs before hval0 hW _ hsz0 _
  have hval : ∀ (j : Nat) t v, Try.f5.params[j]? = some t → args[j]? = some v → Value.okWide Try.prog W .any base t v := hval0
  have hW' := hW
  obtain ⟨p, q, hA0, hV, rfl, hfz, hnd⟩ := hW
  have hA : DataW.TrodAll enc Try.prog W 0 (fun _ => true) true Try.f5.params.toList args.toList ds p := hA0
  obtain ⟨rfl, rfl⟩ := trodVars_none hV
  rw [List.append_nil] at hsz0
  have hsz : (DataW.weightsEach Try.prog (Try.f5.params.toList ++ Rows.digitsReadsSpec.plain.varTypes Try.prog) ds).all (· ≤ reachBytes) = true := hsz0
  rw [Try.params5] at hA hval hsz
  obtain ⟨v1, v2, d1, d2, p1, p2, rfl, rfl, rfl, h1, h2⟩ := trodAll_two hA
  obtain ⟨m1, rfl, rfl, rfl, hw1⟩ := open_int Try.underlying3 (hval 0 _ _ rfl rfl) h1
  have hw1' := hw1
  simp [Lit.wf, IntKind.min, IntKind.max, IntKind.signed, IntKind.bits] at hw1'
  obtain ⟨s2, rfl, rfl, rfl, hs2⟩ := Go.ChangeMaps.open_string Try.underlying9 (hval 1 _ _ rfl rfl) h2
  have hz2 : s2.data.toList.length ≤ 140737488355328 := by have := sized_string hsz (j := 1) rfl rfl; simp [reachBytes] at this ⊢; omega
  obtain ⟨l2, hl2, rfl⟩ : ∃ l : List UInt8, l.length ≤ 140737488355328 ∧ s2 = bs l := ⟨s2.data.toList, hz2, bs_of s2⟩
  refine (walk_reads m1 l2 W (by omega) (by omega) hl2).mono fun e W' ⟨he, hb⟩ => ?_
  subst he
  exact ⟨_, rfl, law_post hW' rfl laidOut (by kernel_rfl) rfl Try.underlying4 rfl hb⟩

theorem over : Rows.digitsReadsRow.holds Try.pinned (OpenSpec.ofChange Rows.digitsReadsSpec) :=
  OpenClaim.holds_of_wide 5 Try.f5 rfl rfl rfl rfl rfl rfl rfl ⟨rfl, rfl, rfl, rfl, rfl⟩ rfl rfl rfl rfl rfl (by kernel_rfl) Try.func5 (by kernel_rfl)
    (of_decide_eq_true (by kernel_rfl)) (by unfold Func.isWrapper; first | (rw [if_pos (by decide +kernel)]; kernel_rfl) | (rw [if_neg (by decide +kernel)]; exact ⟨rfl, rfl⟩))
    (fun os started H enc _ => lifted os started H enc)

theorem proved : Rows.DigitsReadsSaid :=
  over
#print axioms proved
end Go.Proofs.Ytiadjcilfljdaaa.digitsReads
