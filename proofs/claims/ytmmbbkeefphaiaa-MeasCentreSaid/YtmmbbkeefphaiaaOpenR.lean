/- A ratio that came in as an argument, opened. -/
import Derived.Test.YtmmbbkeefphaiaaOpen
import Derived.Lib.SmallJoins
namespace Go.Proofs.Ytmmbbkeefphaiaa
set_option linter.unusedVariables false
set_option linter.unusedSimpArgs false
open Go.ChangeShapes Go.WideShapes Go.ChangeAt Go.RowKit Verge

section
variable {H : Type} {enc : TypeId × Value → H}
set_option maxRecDepth 100000 in
/-- A cell that holds a list of words. -/
theorem words_cell {W : World} {v : Value} {y : DataW H × List MemPlace} {fuel : Nat} (hf : DataW.trod enc Try.prog W 0 (fun _ => true) true fuel 33 [v] = some y) :
    ∃ A n c X, v = .slice A n c ∧ Rd W A X ∧ X.length = n ∧ n ≤ c ∧
      ∀ (ts : List TypeId) (ds : List (DataW H)) (j : Nat), (DataW.weightsEach Try.prog ts ds).all (· ≤ reachBytes) = true → ts[j]? = some 33 → ds[j]? = some y.1 → c ≤ 35184372087808 := by
  rcases open_ints Try.underlying33 Try.underlying74 cellsU32 hf with ⟨hcs, hx⟩ | ⟨a, n, c, zs, hcs, _, hl, hm, hz, hx, hcell, hwz⟩
  · injection hcs with hcs _
    subst hcs
    exact ⟨none, 0, 0, [], rfl, Rd.nil, rfl, Nat.le_refl _, fun _ _ _ _ _ _ => by omega⟩
  · injection hcs with hcs _
    subst hcs
    subst hx
    simp only [if_true] at hz
    have hw : ∀ z ∈ zs, 0 ≤ z ∧ z < 4294967296 := fun z hz' => by
      have := hwz z hz'
      simp [Lit.wf, IntKind.min, IntKind.max, IntKind.signed, IntKind.bits] at this
      omega
    refine ⟨some a, n, c, (zs.take n).map Int.toNat, rfl, ⟨?_, ?_⟩, by simp; omega, hl, ?_⟩
    · intro x hx
      obtain ⟨z, hz', rfl⟩ := List.mem_map.1 hx
      have := hw z (List.mem_of_mem_take hz')
      omega
    · intro hne
      have hl0 : 0 < n := by
        rcases Nat.eq_zero_or_pos n with e | e
        · subst e; simp at hne
        · exact e
      obtain ⟨b, off, spot⟩ := a
      have hs : spot = none := by
        have := hcell 0 (by omega)
        rw [Addr.add, if_pos rfl] at this
        unfold World.cell? at this
        split at this
        · cases spot with
          | none => rfl
          | some k => simp at this
        · cases this
      subst hs
      refine ⟨b, off, rfl, fun k x hx => ?_⟩
      rw [List.getElem?_map, Option.map_eq_some_iff] at hx
      obtain ⟨z, hz1, rfl⟩ := hx
      rw [List.getElem?_take] at hz1
      split at hz1
      · have hk := (List.getElem?_eq_some_iff.1 hz1).1
        have := hcell k hk
        rw [add_none, List.getD_eq_getElem?_getD, hz1, Option.getD_some] at this
        rw [this, Int.toNat_of_nonneg (hw z (List.mem_of_getElem? hz1)).1]
      · cases hz1
    · intro ts ds j hsz ht hd
      have := sized_slice hsz ht hd Try.underlying33
      rw [bytesU32] at this
      simp only [lits, List.length_map, List.length_take, List.length_drop, reachBytes] at this
      omega
set_option maxRecDepth 100000 in
theorem ratio_open {W : World} {v : Value} {d : DataW H} {p : List MemPlace} {base : Nat} (h : DataW.Trod enc Try.prog W 0 (fun _ => true) true 35 v d p) (hok : Value.okWide Try.prog W .any base 35 v) :
    ∃ s A c X B e Y, v = .agg #[.bool s, .slice A (X : List Nat).length c, .slice B (Y : List Nat).length e] ∧ Rd W A X ∧ Rd W B Y ∧
      ∀ (ts : List TypeId) (ds : List (DataW H)) (j : Nat), (DataW.weightsEach Try.prog ts ds).all (· ≤ reachBytes) = true → ts[j]? = some 35 → ds[j]? = some d → X.length ≤ 35184372088000 ∧ Y.length ≤ 35184372088000 := by
  obtain ⟨v0, v1, v2, y0, y1, y2, n, rfl, rfl, rfl, h0, h1, h2⟩ := Go.Joins.open_agg3 Try.underlying35 (by kernel_rfl) (show Try.prog.cellsOf 35 = 3 by kernel_rfl) hok h
  obtain ⟨s, hs, _⟩ := DataW.trod_bool Try.underlying4 h0
  injection hs with hs _
  subst hs
  obtain ⟨A, n1, c1, X, rfl, hA, rfl, l1, s1⟩ := words_cell h1
  obtain ⟨B, n2, c2, Y, rfl, hB, rfl, l2, s2⟩ := words_cell h2
  refine ⟨s, A, c1, X, B, c2, Y, rfl, hA, hB, fun ts ds j hsz ht hd => ?_⟩
  have hin : (DataW.weightsEach Try.prog [4, 33, 33] [y0.1, y1.1, y2.1]).all (· ≤ reachBytes) = true :=
    List.all_eq_true.2 fun k hk => List.all_eq_true.1 hsz k (DataW.weights_mem_each ht hd k (by
      rw [DataW.weights, Try.underlying35]
      exact hk))
  have a1 := s1 _ _ 1 hin rfl rfl
  have a2 := s2 _ _ 2 hin rfl rfl
  exact ⟨by omega, by omega⟩
end
end Go.Proofs.Ytmmbbkeefphaiaa
