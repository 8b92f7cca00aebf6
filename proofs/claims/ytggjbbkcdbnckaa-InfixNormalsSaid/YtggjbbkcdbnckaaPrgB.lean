/- Programs of chapter 16 in memory: Box, Outs, Made, Read. -/
import Derived.Test.YtggjbbkcdbnckaaPrgA
namespace Go.Proofs.Ytggjbbkcdbnckaa
set_option linter.unusedVariables false
set_option linter.unusedSimpArgs false
open Go.RowKit Verge

theorem take_snoc {α : Type} {xs : List α} {i : Nat} {x : α} (h : xs[i]? = some x) : xs.take (i + 1) = xs.take i ++ [x] := by
  rw [List.take_add_one, h]; rfl
set_option maxRecDepth 100000 in
set_option maxHeartbeats 4000000 in
theorem box16_any (v : Value) (xs : List (Nat × Nat)) (w : World) (h : RI w v xs) (hm : xs.length ≤ 8796093022200) : Calls Try.prog 11 #[v] w fun e w' => ∃ v', e = .returned v' ∧ GF w' w.heap.size v' xs ∧ Below w.heap.size w w' := by
  obtain ⟨A, c, rfl⟩ := h.form
  have HR := Lib.hid h
  obtain ⟨n, hn⟩ : ∃ n, xs.length = n := ⟨_, rfl⟩
  rw [hn]
  rw [hn] at HR hm
  have HN := Lib.hid hn
  have HI := Lib.hid (fun W x y => in16_any x y W)
  clear h hn
  go_enter Try.func11, Try.ntmps11
  go_wp2
  go_loopw [3, 4] (fun av iv wr => ∃ i : Nat, i ≤ n ∧ iv = .int .i64 i ∧ Hid (GF wr w.heap.size av (xs.take i) ∧ Below w.heap.size w wr)) (fun _ iv _ => n - (intOf iv).toNat)
  case atStart => exact ⟨0, by omega, rfl, World.ownsRow_nil _ _ _ _, Below.refl _ _⟩
  case round =>
    obtain ⟨i, hi, rfl, hG⟩ := hrel
    by_cases hin : i < n
    · obtain ⟨x, hx⟩ : ∃ x, xs[i]? = some x := ⟨_, List.getElem?_eq_getElem (by have := HN.out; omega)⟩
      obtain ⟨b, o, rfl, c0, c1⟩ := (HR.out.below hG.out.2).at hx
      have HX := Lib.hid hx
      have HN2 := Lib.hid (show (xs.take i).length + 1 ≤ 8796093022208 by rw [List.length_take]; omega)
      have hlt : (i : Int) < (n : Int) := by omega
      clear hx
      go_wp2_with fail
      refine (HI.out _ x.1 x.2).mono ?_
      rintro en w1 ⟨rfl, hb1⟩
      have HG1 := Lib.hid (And.intro (own_later hG.out.1 hb1) (baft hG.out.2 hb1))
      have hsz := HG1.out.2.size
      clear hG hb1 c0 c1
      go_wp2_with (refine wpList_pushF rfl _ _ rfl w.heap.size _ (xs.take i) rfl w1 x rfl HG1.out.1 rfl HN2.out hsz w HG1.out.2 ?_; intro v' w2 hG2 _ hb2; have HG2 := Lib.hid (And.intro hG2 hb2); clear hG2 hb2)
      go_roundw
      case rel => exact ⟨i + 1, by omega, by go_num, by rw [take_snoc HX.out]; exact HG2.out⟩
      case measure => simp [intOf]; omega
    · obtain rfl : i = n := by omega
      go_wp2
      go_ret
      have e : xs.take i = xs := List.take_of_length_le (by have := HN.out; omega)
      have := hG.out.1
      rw [e] at this
      exact ⟨_, rfl, this, hG.out.2⟩
set_option maxRecDepth 100000 in
set_option maxHeartbeats 4000000 in
theorem outs16_any (v : Value) (xs : List (Nat × Nat)) (w : World) (h : RF w v xs) (hm : xs.length ≤ 8796093022200) : Calls Try.prog 15 #[v] w fun e w' => ∃ v', e = .returned v' ∧ GI w' w.heap.size v' xs ∧ Below w.heap.size w w' := by
  obtain ⟨A, c, rfl⟩ := h.form
  have HR := Lib.hid h
  obtain ⟨n, hn⟩ : ∃ n, xs.length = n := ⟨_, rfl⟩
  rw [hn]
  rw [hn] at HR hm
  have HN := Lib.hid hn
  have HI := Lib.hid (fun W x y => out16_any x y W)
  clear h hn
  go_enter Try.func15, Try.ntmps15
  go_wp2
  go_loopw [3, 4] (fun av iv wr => ∃ i : Nat, i ≤ n ∧ iv = .int .i64 i ∧ Hid (GI wr w.heap.size av (xs.take i) ∧ Below w.heap.size w wr)) (fun _ iv _ => n - (intOf iv).toNat)
  case atStart => exact ⟨0, by omega, rfl, World.ownsRow_nil _ _ _ _, Below.refl _ _⟩
  case round =>
    obtain ⟨i, hi, rfl, hG⟩ := hrel
    by_cases hin : i < n
    · obtain ⟨x, hx⟩ : ∃ x, xs[i]? = some x := ⟨_, List.getElem?_eq_getElem (by have := HN.out; omega)⟩
      obtain ⟨b, o, rfl, c0, c1⟩ := (HR.out.below hG.out.2).at hx
      have HX := Lib.hid hx
      have HN2 := Lib.hid (show (xs.take i).length + 1 ≤ 8796093022208 by rw [List.length_take]; omega)
      have hlt : (i : Int) < (n : Int) := by omega
      clear hx
      go_wp2_with fail
      refine (HI.out _ x.1 x.2).mono ?_
      rintro en w1 ⟨rfl, hb1⟩
      have HG1 := Lib.hid (And.intro (own_later hG.out.1 hb1) (baft hG.out.2 hb1))
      have hsz := HG1.out.2.size
      clear hG hb1 c0 c1
      go_wp2_with (refine wpList_pushI rfl _ _ rfl w.heap.size _ (xs.take i) rfl w1 x rfl HG1.out.1 rfl HN2.out hsz w HG1.out.2 ?_; intro v' w2 hG2 _ hb2; have HG2 := Lib.hid (And.intro hG2 hb2); clear hG2 hb2)
      go_roundw
      case rel => exact ⟨i + 1, by omega, by go_num, by rw [take_snoc HX.out]; exact HG2.out⟩
      case measure => simp [intOf]; omega
    · obtain rfl : i = n := by omega
      go_wp2
      go_ret
      have e : xs.take i = xs := List.take_of_length_le (by have := HN.out; omega)
      have := hG.out.1
      rw [e] at this
      exact ⟨_, rfl, this, hG.out.2⟩
end Go.Proofs.Ytggjbbkcdbnckaa
