/- Proved: vergelaw2.NatPlays returns true for every list of lists of words and every list of steps, and each argument reads afterwards as it read before; no conditions. -/
import Derived.Test.YtniogjkkhkibhaaDoorPlaysB
import Derived.Test.YtniogjkkhkibhaaDoorPlaysO
import Derived.Test.YtniogjkkhkibhaaDoorOpenD
import Derived.Test.YtniogjkkhkibhaaDoorCards
import Derived.SevenTiedAt
namespace Go.Proofs.YtniogjkkhkibhaaDoor.natPlays
open Go.ChangeShapes Go.WideShapes Go.ChangeAt Go.RowKit
set_option linter.unusedVariables false

set_option maxRecDepth 100000 in
theorem lifted (os : Os) (started : os.Started) (H : Type) (enc : TypeId × Value → H) :
    ReturnsInHanded {} Tryd.checked os 13 .any (fun w args => (Rows.natPlaysSpec.pre enc Tryd.prog Tryd.f13 [] false w args ∧ laidMetH Tryd.prog laids w) ∧ sizedMet enc Tryd.prog Tryd.f13 (OpenSpec.ofChange Rows.natPlaysSpec) false w args)
      (Rows.natPlaysSpec.post enc Tryd.prog Tryd.f13 false true false false) := by
  refine returnsInHanded_of_change_and (C := Tryd.checked) (X := fun w _ => laidMetH Tryd.prog laids w) (fun _ _ _ hh h => h.of_heap hh) own started (by kernel_rfl) Tryd.func13
    (ChangeSpec.witness_shaped (enc := enc) (C := Tryd.checked) (os := os) (X := fun w _ => laidMetH Tryd.prog laids w) false (World.doorLaid Tryd.prog 400 os) #[.slice none 0 0, .slice none 0 0] 8 rfl (World.shaped_of_RefB (by kernel_rfl) (by kernel_rfl)) (by kernel_rfl) (by kernel_rfl) (by kernel_rfl) (door_met os _)) ?_
  intro W base args ds gs before hval0 hW _ hsz0 hL _
  have hval : ∀ (j : Nat) t v, Tryd.f13.params[j]? = some t → args[j]? = some v → Value.okWide Tryd.prog W .any base t v := hval0
  have hW' := hW
  obtain ⟨p, q, hA0, hV, rfl, hfz, hnd⟩ := hW
  have hA : DataW.TrodAll enc Tryd.prog W 0 (fun _ => true) true Tryd.f13.params.toList args.toList ds p := hA0
  obtain ⟨rfl, rfl⟩ := trodVars_none hV
  rw [List.append_nil] at hsz0
  have hsz : (DataW.weightsEach Tryd.prog (Tryd.f13.params.toList ++ Rows.natPlaysSpec.plain.varTypes Tryd.prog) ds).all (· ≤ reachBytes) = true := hsz0
  rw [Tryd.params13] at hA hval hsz
  obtain ⟨v1, v2, d1, d2, p1, p2, rfl, rfl, rfl, h1, h2⟩ := trodAll_two hA
  obtain ⟨A1, n1, c1, rfl, hn1, hR1⟩ := rows_open h1 (hval 0 _ _ rfl rfl)
  have hR1 := hR1 _ _ 0 hsz rfl rfl
  obtain ⟨A2, n2, c2, rfl, hn2, hR2⟩ := steps_open h2 (hval 1 _ _ rfl rfl)
  refine (plays_any A1 n1 c1 A2 n2 c2 W hR1 hR2 (tab_of hL) hn1 hn2).mono fun e W' ⟨he, hb⟩ => ?_
  subst he
  exact ⟨_, rfl, law_post hW' rfl laidOut (by kernel_rfl) rfl Tryd.underlying4 rfl hb⟩

theorem over : Rows.natPlaysRow.holds Tryd.pinned (OpenSpec.ofChange Rows.natPlaysSpec) :=
  OpenClaim.holds_of_wide 13 Tryd.f13 rfl rfl rfl rfl rfl rfl rfl ⟨rfl, rfl, rfl, rfl, rfl⟩ rfl rfl rfl rfl rfl (by kernel_rfl) Tryd.func13 (by kernel_rfl)
    (of_decide_eq_true (by kernel_rfl)) (by unfold Func.isWrapper; first | (rw [if_pos (by decide +kernel)]; kernel_rfl) | (rw [if_neg (by decide +kernel)]; exact ⟨rfl, rfl⟩))
    (fun os started H enc _ => lifted os started H enc)

theorem proved : Rows.NatPlaysCardSaid :=
  Claim7.holds_tied_plain_at .later [] [.data] true (true, "57cc1c6c7a57f9a7b95854ca6a8126e00408e423d0dab0b7ecbdce2bb99ef2ee") false
    over (fun _ h => by cases h) (by kernel_rfl) (fun _ h => by cases h) natPlays_row_tie rfl ⟨rfl, rfl⟩ (by kernel_rfl) rfl
    (fun f fn hf hfn => by
      obtain rfl : f = 13 := Option.some.inj ((show Tryd.prog.funcNamed "verge/vergelaw2.NatPlays" = some 13 by kernel_rfl).symm.trans hf) |>.symm
      obtain rfl : fn = Tryd.f13 := (Option.some.inj (Tryd.func13.symm.trans hfn)).symm
      exact ⟨by kernel_rfl, fun j t ht => by
        rw [Tryd.params13] at ht
        have hm : t ∈ ([44, 45] : List Nat) := by simpa using Array.mem_of_getElem? ht
        have hall : (([44, 45] : List Nat).all fun u => !Tryd.prog.wantsStandIn u) = true := by kernel_rfl
        exact (show Tryd.prog.wantsStandIn t = false by simpa using List.all_eq_true.1 hall t hm)⟩)
    (by kernel_rfl)
#print axioms proved
end Go.Proofs.YtniogjkkhkibhaaDoor.natPlays
