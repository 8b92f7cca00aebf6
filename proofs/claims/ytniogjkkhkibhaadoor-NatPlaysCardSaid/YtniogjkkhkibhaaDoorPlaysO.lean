/- NatPlays' arguments opened: rows of lists, and steps. -/
import Derived.Test.YtniogjkkhkibhaaDoorPlaysA
import Derived.Test.YtniogjkkhkibhaaDoorOpen
import Derived.Deep.Slices
namespace Go.Proofs.YtniogjkkhkibhaaDoor
set_option linter.unusedVariables false
set_option linter.unusedSimpArgs false
open Go.ChangeShapes Go.WideShapes Go.ChangeAt Go.RowKit Go.Deep Verge

theorem cellsRow : Tryd.prog.cellsOf 22 = 1 := by kernel_rfl
theorem cellsStep : Tryd.prog.cellsOf 47 = 4 := by kernel_rfl
theorem cellsInt : Tryd.prog.cellsOf 3 = 1 := by kernel_rfl
section
variable {H : Type} {enc : TypeId × Value → H}
theorem weights_all {P : Program} {e : TypeId} : ∀ {l : List (DataW H)} {d : DataW H} {x : Nat}, d ∈ l → x ∈ d.weights P e → x ∈ DataW.weightsAll P e l
  | y :: r, d, x, hd, hx => by
    simp only [DataW.weightsAll, List.mem_append]
    rcases List.mem_cons.1 hd with rfl | hd
    · exact .inl hx
    · exact .inr (weights_all hd hx)
theorem spot_none {W : World} {a : Addr} {v : Value} (h : W.cell? (a.add 0) = some v) : a.spot = none := by
  obtain ⟨b, off, spot⟩ := a
  rw [Addr.add, if_pos rfl] at h
  cases spot with
  | none => rfl
  | some k =>
    simp only [World.cell?] at h
    split at h
    · simp at h
    · cases h

set_option maxRecDepth 100000 in
/-- A list of words within a row. -/
theorem words_in {W : World} {v : Value} {d : DataW H} {p : List MemPlace} {fuel : Nat} (hf : DataW.trod enc Tryd.prog W 0 (fun _ => true) true fuel 22 [v] = some (d, p)) :
    ∃ A n c X, v = .slice A n c ∧ Rd W A X ∧ X.length = n ∧ ((∀ x ∈ d.weights Tryd.prog 22, x ≤ reachBytes) → n ≤ 35184372087808) := by
  rcases open_ints Tryd.underlying22 Tryd.underlying23 cellsU32 hf with ⟨hcs, hx⟩ | ⟨a, len, cap, zs, hcs, _, hl, hm, hz, hx, hcell, hwz⟩
  · simp at hcs
    exact ⟨none, 0, 0, [], hcs, Rd.nil, rfl, fun _ => by omega⟩
  · simp at hcs
    simp only [Prod.mk.injEq] at hx
    obtain ⟨rfl, rfl⟩ := hx
    simp only [if_true] at hz
    have hw : ∀ z ∈ zs, 0 ≤ z ∧ z < 4294967296 := fun z hz' => by
      have := hwz z hz'
      simp [Lit.wf, IntKind.min, IntKind.max, IntKind.signed, IntKind.bits] at this
      omega
    refine ⟨some a, len, cap, (zs.take len).map Int.toNat, hcs, ⟨?_, ?_⟩, by simp; omega, ?_⟩
    · intro x hx
      obtain ⟨z, hz', rfl⟩ := List.mem_map.1 hx
      have := hw z (List.mem_of_mem_take hz')
      omega
    · intro hne
      have hl0 : 0 < len := by
        rcases Nat.eq_zero_or_pos len with e | e
        · subst e; simp at hne
        · exact e
      have hs := spot_none (hcell 0 (by omega))
      obtain ⟨b, off, spot⟩ := a
      simp only at hs
      subst hs
      refine ⟨b, off, rfl, fun k x hx => ?_⟩
      rw [List.getElem?_map, Option.map_eq_some_iff] at hx
      obtain ⟨z, hz1, rfl⟩ := hx
      rw [List.getElem?_take] at hz1
      split at hz1
      · have hk := (List.getElem?_eq_some_iff.1 hz1).1
        have := hcell k hk
        rw [add_none, List.getD_eq_getElem?_getD, hz1, Option.getD_some] at this
        rw [this, Int.toNat_of_nonneg (hw z (List.mem_of_getElem? hz1)).1]
      · cases hz1
    · intro hwt
      have := hwt (((lits .u32 (zs.take len)).length + (lits .u32 (zs.drop len)).length) * Tryd.prog.bytesOf 23) (by simp only [DataW.weights, Tryd.underlying22]; exact List.mem_cons_self)
      rw [bytesU32] at this
      simp only [lits, List.length_map, List.length_take, List.length_drop, reachBytes] at this
      omega
set_option maxRecDepth 100000 in
/-- Rows of lists. -/
theorem rows_open {W : World} {v : Value} {d : DataW H} {p : List MemPlace} {base : Nat} (h : DataW.Trod enc Tryd.prog W 0 (fun _ => true) true 44 v d p) (hok : Value.okWide Tryd.prog W .any base 44 v) :
    ∃ F nf cf, v = .slice F nf cf ∧ nf ≤ 9223372036854775807 ∧
      ∀ (ts : List TypeId) (ds : List (DataW H)) (j : Nat), (DataW.weightsEach Tryd.prog ts ds).all (· ≤ reachBytes) = true → ts[j]? = some 44 → ds[j]? = some d → Fst W F nf := by
  obtain ⟨A, n, c, rfl⟩ := okWide_slice Tryd.underlying44 hok
  obtain ⟨fuel, hf⟩ := h
  rcases open_slice1 Tryd.underlying44 cellsRow hf with ⟨hcs, hx⟩ | ⟨a, len, cap, m, f', V, D, Pl, hcs, hb, hl, hm, hmm, hx, hi⟩
  · simp [Value.cells] at hcs
    obtain ⟨rfl, rfl, rfl⟩ := hcs
    exact ⟨none, 0, 0, rfl, by omega, fun _ _ _ _ _ _ i hi => by omega⟩
  · simp [Value.cells] at hcs
    obtain ⟨rfl, rfl, rfl⟩ := hcs
    simp only [if_true] at hmm
    subst hmm
    simp only [Prod.mk.injEq] at hx
    obtain ⟨rfl, rfl⟩ := hx
    unfold maxLen at hm
    refine ⟨some a, n, m, rfl, by omega, fun ts ds j hsz ht hd i hin => ?_⟩
    obtain ⟨hc, htr⟩ := hi i (by omega)
    have hs := spot_none (show W.cell? (a.add 0) = some (V 0) from (hi 0 (by omega)).1)
    obtain ⟨b, off, spot⟩ := a
    simp only at hs
    subst hs
    rw [add_none] at hc
    obtain ⟨A', n', c', X, hv, hR, hX, hn⟩ := words_in htr
    refine ⟨b, off, rfl, A', n', c', X, by rw [hc, hv], hR, hX, ?_⟩
    have := hn (fun x hx => by
      have hin2 : x ∈ (DataW.slice ((List.range n).map D) ((List.range (m - n)).map fun j => D (n + j)) : DataW H).weights Tryd.prog 44 := by
        simp only [DataW.weights, Tryd.underlying44]
        exact List.mem_cons_of_mem _ (List.mem_append_left _ (weights_all (List.mem_map.2 ⟨i, List.mem_range.2 hin, rfl⟩) hx))
      have hmem := DataW.weights_mem_each ht hd x hin2
      have := List.all_eq_true.1 hsz _ hmem
      simpa using this)
    omega
set_option maxRecDepth 100000 in
/-- The steps. -/
theorem steps_open {W : World} {v : Value} {d : DataW H} {p : List MemPlace} {base : Nat} (h : DataW.Trod enc Tryd.prog W 0 (fun _ => true) true 45 v d p) (hok : Value.okWide Tryd.prog W .any base 45 v) :
    ∃ S ns cs, v = .slice S ns cs ∧ ns ≤ 9223372036854775807 ∧ Stp W S ns := by
  obtain ⟨A, n, c, rfl⟩ := okWide_slice Tryd.underlying45 hok
  obtain ⟨fuel, hf⟩ := h
  rcases open_slice Tryd.underlying45 hf with ⟨hcs, hx⟩ | ⟨a, len, cap, m, f', D, Pl, hcs, hb, hl, hm, hmm, hx, hi⟩
  · simp [Value.cells] at hcs
    obtain ⟨rfl, rfl, rfl⟩ := hcs
    exact ⟨none, 0, 0, rfl, by omega, fun i hi => by omega⟩
  · simp [Value.cells] at hcs
    obtain ⟨rfl, rfl, rfl⟩ := hcs
    simp only [if_true] at hmm
    subst hmm
    unfold maxLen at hm
    refine ⟨some a, n, m, rfl, by omega, fun i hin => ?_⟩
    have key : ∀ i, i < m → ∀ k, k < 4 → ∃ z : Int, W.cell? (a.add (i * 4 + k)) = some (.int .i64 z) ∧ -9223372036854775808 ≤ z ∧ z ≤ 9223372036854775807 := by
      intro i him k hk
      obtain ⟨cs', hc, ht⟩ := hi i him
      rw [cellsStep] at hc
      obtain ⟨_, hlen, hat⟩ := World.cells?_some hc
      obtain ⟨xs, n', _, _, _, hxl, hfl⟩ := DataW.trod_struct Tryd.underlying47 ht
      have h1 := hat k hk
      rw [add_add] at h1
      have h2 : DataW.trod enc Tryd.prog W 0 (fun _ => true) true n' 3 (List.take (Tryd.prog.cellsOf 3) (List.drop k cs')) = xs[k]? := by
        rcases k with _ | _ | _ | _ | k
        · exact hfl 0 _ rfl
        · exact hfl 1 _ rfl
        · exact hfl 2 _ rfl
        · exact hfl 3 _ rfl
        · omega
      rw [cellsInt] at h2
      have hx4 : xs.length = 4 := hxl
      have hx : xs[k]? = some (xs[k]'(by omega)) := List.getElem?_eq_getElem _
      rw [hx] at h2
      obtain ⟨z, hz1, _, hz3⟩ := DataW.trod_int Tryd.underlying3 h2
      have h3 : cs'[k]? = some (.int .i64 z) := by
        have := congrArg (fun l => l[0]?) hz1
        simpa [List.getElem?_take, List.getElem?_drop] using this
      simp [Lit.wf, IntKind.min, IntKind.max, IntKind.signed, IntKind.bits] at hz3
      exact ⟨z, by rw [h1, h3], by omega, by omega⟩
    obtain ⟨z00, hz00, _⟩ := key 0 (by omega) 0 (by omega)
    have hs := spot_none hz00
    obtain ⟨b, off, spot⟩ := a
    simp only at hs
    subst hs
    obtain ⟨z0, h0, w0⟩ := key i (by omega) 0 (by omega)
    obtain ⟨z1, h1, w1⟩ := key i (by omega) 1 (by omega)
    obtain ⟨z2, h2, w2⟩ := key i (by omega) 2 (by omega)
    obtain ⟨z3, h3, w3⟩ := key i (by omega) 3 (by omega)
    rw [add_none] at h0 h1 h2 h3
    exact ⟨b, off, rfl, z0, z1, z2, z3, h0, by rw [Nat.add_assoc]; exact h1, by rw [Nat.add_assoc]; exact h2, by rw [Nat.add_assoc]; exact h3, w0, w1, w2, w3⟩
end
end Go.Proofs.YtniogjkkhkibhaaDoor
