/- A program of chapter 16 that came in as an argument, opened. -/
import Derived.Test.YtggjbbkcdbnckaaOpen
import Derived.Test.YtggjbbkcdbnckaaPrgA
import Derived.Lib.SmallJoins
import Derived.Deep.Slices
namespace Go.Proofs.Ytggjbbkcdbnckaa
set_option linter.unusedVariables false
set_option linter.unusedSimpArgs false
open Go.ChangeShapes Go.WideShapes Go.ChangeAt Go.RowKit Go.Deep Verge

theorem list_of {α : Type} {P : Nat → α → Prop} : ∀ {n : Nat}, (∀ i, i < n → ∃ x, P i x) → ∃ xs : List α, xs.length = n ∧ ∀ i x, xs[i]? = some x → P i x
  | 0, _ => ⟨[], rfl, fun i x h => by simp at h⟩
  | n + 1, h => by
    obtain ⟨xs, hl, hx⟩ := list_of (n := n) (fun i hi => h i (by omega))
    obtain ⟨x, hp⟩ := h n (by omega)
    refine ⟨xs ++ [x], by simp [hl], fun i y hy => ?_⟩
    by_cases hi : i < n
    · rw [List.getElem?_append_left (by omega)] at hy
      exact hx i y hy
    · rw [List.getElem?_append_right (by omega)] at hy
      have : i = n := by
        have := (List.getElem?_eq_some_iff.1 hy).1
        simp at this; omega
      subst this
      rw [hl] at hy
      simp at hy
      subst hy; exact hp
theorem spot_none16 {W : World} {a : Addr} {v : Value} (h : W.cell? (a.add 0) = some v) : a.spot = none := by
  obtain ⟨b, off, spot⟩ := a
  rw [Addr.add, if_pos rfl] at h
  cases spot with
  | none => rfl
  | some k =>
    simp only [World.cell?] at h
    split at h
    · simp at h
    · cases h
theorem sl_of {α : Type} {W : World} {a : Addr} {n c k : Nat} (f : α → List Value) (hf : ∀ x, (f x).length = k) (hk : 0 < k) (xs : List α) (hl : xs.length = n) (h : ∀ i x, xs[i]? = some x → ∀ j u, (f x)[j]? = some u → W.cell? (a.add (i * k + j)) = some u) :
    Sl W (.slice (some a) n c) k n (xs.flatMap f) := by
  refine ⟨by rw [flat_len f k hf, hl], _, _, rfl, fun hn => ?_⟩
  have h0 : xs[0]? = some (xs[0]'(by omega)) := List.getElem?_eq_getElem _
  have hs := spot_none16 (h 0 _ h0 0 _ (List.getElem?_eq_getElem (by rw [hf]; exact hk)) |> fun e => by rwa [Nat.zero_mul, Nat.zero_add] at e)
  obtain ⟨b, off, spot⟩ := a
  simp only at hs
  subst hs
  refine ⟨b, off, rfl, fun j u hu => ?_⟩
  have hj : j < n * k := by
    have := (List.getElem?_eq_some_iff.1 hu).1
    rw [flat_len f k hf, hl] at this; exact this
  have hi : j / k < xs.length := by rw [hl]; exact (Nat.div_lt_iff_lt_mul hk).2 hj
  have hx : xs[j / k]? = some (xs[j / k]'hi) := List.getElem?_eq_getElem _
  have hg := flat_get f k hf xs (j / k) (j % k) _ hx (Nat.mod_lt _ hk)
  have e : j / k * k + j % k = j := Nat.div_add_mod' j k
  rw [e, hu] at hg
  have := h (j / k) _ hx (j % k) u hg.symm
  rw [e, add_none] at this
  exact this
theorem cellsI16 : Try.prog.cellsOf 54 = 2 := by kernel_rfl
theorem cellsL16 : Try.prog.cellsOf 48 = 5 := by kernel_rfl
theorem cellsU64 : Try.prog.cellsOf 52 = 1 := by kernel_rfl
theorem cellsInt16 : Try.prog.cellsOf 3 = 1 := by kernel_rfl
theorem bytesI16 : Try.prog.bytesOf 54 = 16 := by kernel_rfl
theorem bytesL16 : Try.prog.bytesOf 48 = 40 := by kernel_rfl
section
variable {H : Type} {enc : TypeId × Value → H}
set_option maxRecDepth 100000 in
theorem one_I {W : World} {fuel : Nat} {cs : List Value} {x : DataW H × List MemPlace} (h : DataW.trod enc Try.prog W 0 (fun _ => true) true fuel 54 cs = some x) : ∃ y : Nat × Nat, cs = cI y ∧ y.1 < 18446744073709551616 ∧ y.2 < 18446744073709551616 := by
  obtain ⟨xs, n', _, _, hlen, hxl, hfl⟩ := DataW.trod_struct Try.underlying54 h
  rw [cellsI16] at hlen
  have key : ∀ k, k < 2 → ∃ z : Int, cs[k]? = some (.int .u64 z) ∧ 0 ≤ z ∧ z < 18446744073709551616 := by
    intro k hk
    have h2 : DataW.trod enc Try.prog W 0 (fun _ => true) true n' 52 (List.take (Try.prog.cellsOf 52) (List.drop k cs)) = xs[k]? := by
      rcases k with _ | _ | k
      · exact hfl 0 _ rfl
      · exact hfl 1 _ rfl
      · omega
    rw [cellsU64] at h2
    have hx4 : xs.length = 2 := hxl
    have hx : xs[k]? = some (xs[k]'(by omega)) := List.getElem?_eq_getElem _
    rw [hx] at h2
    obtain ⟨z, hz1, _, hz3⟩ := DataW.trod_int Try.underlying52 h2
    have h3 : cs[k]? = some (.int .u64 z) := by
      have := congrArg (fun l => l[0]?) hz1
      simpa [List.getElem?_take, List.getElem?_drop] using this
    simp [Lit.wf, IntKind.min, IntKind.max, IntKind.signed, IntKind.bits] at hz3
    exact ⟨z, h3, by omega, by omega⟩
  obtain ⟨a, ha, a0, a1⟩ := key 0 (by omega)
  obtain ⟨b, hb, b0, b1⟩ := key 1 (by omega)
  rcases cs with _ | ⟨u, _ | ⟨v, _ | ⟨x, y⟩⟩⟩
  · simp at hlen
  · simp at hlen
  · simp at ha hb
    refine ⟨(a.toNat, b.toNat), ?_, by simp; omega, by simp; omega⟩
    simp only [cI, ha, hb, Int.toNat_of_nonneg a0, Int.toNat_of_nonneg b0]
  · simp at hlen
set_option maxRecDepth 100000 in
theorem one_L {W : World} {fuel : Nat} {cs : List Value} {x : DataW H × List MemPlace} (h : DataW.trod enc Try.prog W 0 (fun _ => true) true fuel 48 cs = some x) : ∃ y : Ln, cs = cL y := by
  obtain ⟨xs, n', _, _, hlen, hxl, hfl⟩ := DataW.trod_struct Try.underlying48 h
  rw [cellsL16] at hlen
  have key : ∀ k, k < 5 → ∃ z : Int, cs[k]? = some (.int .i64 z) := by
    intro k hk
    have h2 : DataW.trod enc Try.prog W 0 (fun _ => true) true n' 3 (List.take (Try.prog.cellsOf 3) (List.drop k cs)) = xs[k]? := by
      rcases k with _ | _ | _ | _ | _ | k
      · exact hfl 0 _ rfl
      · exact hfl 1 _ rfl
      · exact hfl 2 _ rfl
      · exact hfl 3 _ rfl
      · exact hfl 4 _ rfl
      · omega
    rw [cellsInt16] at h2
    have hx4 : xs.length = 5 := hxl
    have hx : xs[k]? = some (xs[k]'(by omega)) := List.getElem?_eq_getElem _
    rw [hx] at h2
    obtain ⟨z, hz1, _, hz3⟩ := DataW.trod_int Try.underlying3 h2
    have h3 : cs[k]? = some (.int .i64 z) := by
      have := congrArg (fun l => l[0]?) hz1
      simpa [List.getElem?_take, List.getElem?_drop] using this
    exact ⟨z, h3⟩
  obtain ⟨z0, h0⟩ := key 0 (by omega)
  obtain ⟨z1, h1⟩ := key 1 (by omega)
  obtain ⟨z2, h2⟩ := key 2 (by omega)
  obtain ⟨z3, h3⟩ := key 3 (by omega)
  obtain ⟨z4, h4⟩ := key 4 (by omega)
  rcases cs with _ | ⟨a, _ | ⟨b, _ | ⟨c, _ | ⟨d, _ | ⟨e, _ | ⟨x, y⟩⟩⟩⟩⟩⟩
  · simp at hlen
  · simp at hlen
  · simp at hlen
  · simp at hlen
  · simp at hlen
  · simp at h0 h1 h2 h3 h4
    exact ⟨⟨z0, z1, z2, z3, z4⟩, by simp only [cL, h0, h1, h2, h3, h4]⟩
  · simp at hlen
set_option maxRecDepth 100000 in
theorem rowI_cell {W : World} {v : Value} {y : DataW H × List MemPlace} {fuel : Nat} (hf : DataW.trod enc Try.prog W 0 (fun _ => true) true fuel 22 [v] = some y) :
    ∃ xs, RI W v xs ∧ (∀ x ∈ xs, x.1 < 18446744073709551616 ∧ x.2 < 18446744073709551616) ∧
      ∀ (ts : List TypeId) (ds : List (DataW H)) (j : Nat), (DataW.weightsEach Try.prog ts ds).all (· ≤ reachBytes) = true → ts[j]? = some 22 → ds[j]? = some y.1 → xs.length ≤ 8796093022000 := by
  rcases open_slice Try.underlying22 hf with ⟨hcs, hx⟩ | ⟨a, n, c, m, f', D, Pl, hcs, hb, hl, hm, hmm, hx, hi⟩
  · injection hcs with hcs _
    subst hcs
    exact ⟨[], ⟨by simp, none, 0, rfl, fun h => by simp at h⟩, fun x hx => by simp at hx, fun _ _ _ _ _ _ => by simp⟩
  · injection hcs with hcs _
    subst hcs
    simp only [if_true] at hmm
    subst hmm
    obtain ⟨xs, hxl, hxs⟩ := list_of (n := n) (P := fun i (x : Nat × Nat) => W.cells? 0 (a.add (i * 2)) 2 = some (cI x) ∧ x.1 < 18446744073709551616 ∧ x.2 < 18446744073709551616) (fun i hin => by
      obtain ⟨cs', hc, ht⟩ := hi i (by omega)
      rw [cellsI16] at hc
      obtain ⟨y, rfl, hy⟩ := one_I ht
      exact ⟨y, hc, hy⟩)
    refine ⟨xs, ?_, fun x hx => ?_, fun ts ds j hsz ht hd => ?_⟩
    · have := sl_of (W := W) (a := a) (n := n) (c := m) cI cI_len (by decide) xs hxl (fun i x hx j u hu => by
        obtain ⟨_, hlen, hat⟩ := World.cells?_some (hxs i x hx).1
        have hj : j < 2 := by have := (List.getElem?_eq_some_iff.1 hu).1; rwa [cI_len] at this
        have h1 := hat j hj
        rw [add_add] at h1
        rw [h1, hu])
      rw [← hxl] at this
      unfold RI
      rw [← hxl]; exact this
    · obtain ⟨i, hi2⟩ := List.getElem?_of_mem hx
      exact (hxs i x hi2).2
    · rw [hx] at hd
      have := sized_slice hsz ht hd Try.underlying22
      rw [bytesI16] at this
      simp only [List.length_map, List.length_range, reachBytes] at this
      omega
set_option maxRecDepth 100000 in
theorem rowL_cell {W : World} {v : Value} {y : DataW H × List MemPlace} {fuel : Nat} (hf : DataW.trod enc Try.prog W 0 (fun _ => true) true fuel 23 [v] = some y) :
    ∃ xs, RL W v xs ∧
      ∀ (ts : List TypeId) (ds : List (DataW H)) (j : Nat), (DataW.weightsEach Try.prog ts ds).all (· ≤ reachBytes) = true → ts[j]? = some 23 → ds[j]? = some y.1 → xs.length ≤ 3518437208880 := by
  rcases open_slice Try.underlying23 hf with ⟨hcs, hx⟩ | ⟨a, n, c, m, f', D, Pl, hcs, hb, hl, hm, hmm, hx, hi⟩
  · injection hcs with hcs _
    subst hcs
    exact ⟨[], ⟨by simp, none, 0, rfl, fun h => by simp at h⟩, fun _ _ _ _ _ _ => by simp⟩
  · injection hcs with hcs _
    subst hcs
    simp only [if_true] at hmm
    subst hmm
    obtain ⟨xs, hxl, hxs⟩ := list_of (n := n) (P := fun i (x : Ln) => W.cells? 0 (a.add (i * 5)) 5 = some (cL x)) (fun i hin => by
      obtain ⟨cs', hc, ht⟩ := hi i (by omega)
      rw [cellsL16] at hc
      obtain ⟨y, rfl⟩ := one_L ht
      exact ⟨y, hc⟩)
    refine ⟨xs, ?_, fun ts ds j hsz ht hd => ?_⟩
    · have := sl_of (W := W) (a := a) (n := n) (c := m) cL cL_len (by decide) xs hxl (fun i x hx j u hu => by
        obtain ⟨_, hlen, hat⟩ := World.cells?_some (hxs i x hx)
        have hj : j < 5 := by have := (List.getElem?_eq_some_iff.1 hu).1; rwa [cL_len] at this
        have h1 := hat j hj
        rw [add_add] at h1
        rw [h1, hu])
      rw [← hxl] at this
      unfold RL
      rw [← hxl]; exact this
    · rw [hx] at hd
      have := sized_slice hsz ht hd Try.underlying23
      rw [bytesL16] at this
      simp only [List.length_map, List.length_range, reachBytes] at this
      omega
set_option maxRecDepth 100000 in
theorem program_open {W : World} {v : Value} {d : DataW H} {p : List MemPlace} {base : Nat} (h : DataW.Trod enc Try.prog W 0 (fun _ => true) true 25 v d p) (hok : Value.okWide Try.prog W .any base 25 v) :
    ∃ vars vC vL xs ls, v = .agg #[.int .i64 vars, vC, vL] ∧ RI W vC xs ∧ RL W vL ls ∧ (∀ x ∈ xs, x.1 < 18446744073709551616 ∧ x.2 < 18446744073709551616) ∧
      ∀ (ts : List TypeId) (ds : List (DataW H)) (j : Nat), (DataW.weightsEach Try.prog ts ds).all (· ≤ reachBytes) = true → ts[j]? = some 25 → ds[j]? = some d → xs.length ≤ 8796093022200 ∧ ls.length ≤ 3518437208880 := by
  obtain ⟨v0, v1, v2, y0, y1, y2, n, rfl, rfl, rfl, h0, h1, h2⟩ := Go.Joins.open_agg3 Try.underlying25 (by kernel_rfl) (show Try.prog.cellsOf 25 = 3 by kernel_rfl) hok h
  obtain ⟨s, hs, _⟩ := DataW.trod_int Try.underlying3 h0
  injection hs with hs _
  subst hs
  obtain ⟨xs, hX, hw, s1⟩ := rowI_cell h1
  obtain ⟨ls, hL, s2⟩ := rowL_cell h2
  refine ⟨s, v1, v2, xs, ls, rfl, hX, hL, hw, fun ts ds j hsz ht hd => ?_⟩
  have hin : (DataW.weightsEach Try.prog [3, 22, 23] [y0.1, y1.1, y2.1]).all (· ≤ reachBytes) = true :=
    List.all_eq_true.2 fun k hk => List.all_eq_true.1 hsz k (DataW.weights_mem_each ht hd k (by
      rw [DataW.weights, Try.underlying25]
      exact hk))
  have a1 := s1 _ _ 1 hin rfl rfl
  have a2 := s2 _ _ 2 hin rfl rfl
  exact ⟨by omega, by omega⟩
end
end Go.Proofs.Ytggjbbkcdbnckaa
