/- Proved: vergelaw2.NatThere returns true for any two lists of words and any int, and each argument reads afterwards as it read before; no conditions. -/
import Derived.Test.YtniogjkkhkibhaaLawThere
import Derived.Test.YtniogjkkhkibhaaOpen
namespace Go.Proofs.Ytniogjkkhkibhaa.natThere
open Go.ChangeShapes Go.WideShapes Go.ChangeAt Go.RowKit
set_option linter.unusedVariables false

set_option maxRecDepth 100000 in
theorem lifted (os : Os) (started : os.Started) (H : Type) (enc : TypeId × Value → H) :
    ReturnsInHanded {} Try.checked os 6 .any (Rows.natThereSpec.pre6 enc Try.prog Try.f6 Rows.natThereRow.domain false) (Rows.natThereSpec.post enc Try.prog Try.f6 false true false false) := by
  refine returnsInHanded_of_change_sized (C := Try.checked) own started (by kernel_rfl) Try.func6
    (ChangeSpec.witness6 (enc := enc) (C := Try.checked) false ⟨#[], #[.slice none 0 0, .slice none 0 0, .int .i64 0], []⟩ 8 (by kernel_rfl) (by kernel_rfl) (by kernel_rfl) (by kernel_rfl)) ?_
  intro W base args ds gs before hval0 hW _ hsz0 _
  have hval : ∀ (j : Nat) t v, Try.f6.params[j]? = some t → args[j]? = some v → Value.okWide Try.prog W .any base t v := hval0
  have hW' := hW
  obtain ⟨p, q, hA0, hV, rfl, hfz, hnd⟩ := hW
  have hA : DataW.TrodAll enc Try.prog W 0 (fun _ => true) true Try.f6.params.toList args.toList ds p := hA0
  obtain ⟨rfl, rfl⟩ := trodVars_none hV
  rw [List.append_nil] at hsz0
  have hsz : (DataW.weightsEach Try.prog (Try.f6.params.toList ++ Rows.natThereSpec.plain.varTypes Try.prog) ds).all (· ≤ reachBytes) = true := hsz0
  rw [Try.params6] at hA hval hsz
  obtain ⟨v1, v2, v3, d1, d2, d3, p1, p2, p3, rfl, rfl, rfl, h1, h2, h3⟩ := trodAll_three hA
  obtain ⟨A1, n1, c1, X1, rfl, hR1, hn1, hc1, hz1⟩ := words_open h1 (hval 0 _ _ rfl rfl)
  have hz1 := hz1 _ _ 0 hsz rfl rfl
  obtain ⟨A2, n2, c2, X2, rfl, hR2, hn2, hc2, hz2⟩ := words_open h2 (hval 1 _ _ rfl rfl)
  have hz2 := hz2 _ _ 1 hsz rfl rfl
  obtain ⟨m3, rfl, rfl, rfl, hw3⟩ := open_int Try.underlying3 (hval 2 _ _ rfl rfl) h3
  have hw3' := hw3
  simp [Lit.wf, IntKind.min, IntKind.max, IntKind.signed, IntKind.bits] at hw3'
  refine (there_any A1 n1 c1 X1 A2 n2 c2 X2 m3 W hR1 hn1 hc1 hz1 hR2 hn2 hc2 hz2 (by omega) (by omega)).mono fun e W' ⟨he, hb⟩ => ?_
  subst he
  exact ⟨_, rfl, law_post hW' rfl laidOut (by kernel_rfl) rfl Try.underlying4 rfl hb⟩

theorem over : Rows.natThereRow.holds Try.pinned (OpenSpec.ofChange Rows.natThereSpec) :=
  OpenClaim.holds_of_wide 6 Try.f6 rfl rfl rfl rfl rfl rfl rfl ⟨rfl, rfl, rfl, rfl, rfl⟩ rfl rfl rfl rfl rfl (by kernel_rfl) Try.func6 (by kernel_rfl)
    (of_decide_eq_true (by kernel_rfl)) (by unfold Func.isWrapper; first | (rw [if_pos (by decide +kernel)]; kernel_rfl) | (rw [if_neg (by decide +kernel)]; exact ⟨rfl, rfl⟩))
    (fun os started H enc _ => lifted os started H enc)

theorem proved : Rows.NatThereSaid :=
  over
#print axioms proved
end Go.Proofs.Ytniogjkkhkibhaa.natThere
