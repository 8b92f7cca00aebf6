/- Layer 12: Exact by the program and by the document; the law. -/
import Derived.Test.YtenoemjfoadgpaaDoorLitC
namespace Go.Proofs.YtenoemjfoadgpaaDoor
set_option linter.unusedVariables false
set_option linter.unusedSimpArgs false
open Go.RowKit Verge

theorem o_eq {x y : Nat} (hx : x < 18446744073709551616) (hy : y < 18446744073709551616) (nx : ¬ fnan x) (ny : ¬ fnan y) : (FloatKind.f64.format.order x y == some .eq) = decide (FK x = FK y) := by
  have h1 := o_lt hx hy
  have h2 := o_gt hx hy
  have h3 := o_le hx hy
  rcases Int.lt_trichotomy (FK x) (FK y) with h | h | h
  · rw [decide_eq_false (show ¬ FK x = FK y by omega)]
    rw [decide_eq_true ⟨nx, ny, h⟩] at h1
    have : FloatKind.f64.format.order x y = some .lt := by simpa using h1
    rw [this]; rfl
  · rw [decide_eq_true h]
    rw [decide_eq_false (fun g => by have := g.2.2; omega)] at h1
    rw [decide_eq_true ⟨nx, ny, Int.le_of_eq h⟩, h1] at h3
    simpa using h3
  · rw [decide_eq_false (show ¬ FK x = FK y by omega)]
    rw [decide_eq_true ⟨nx, ny, h⟩] at h2
    have : FloatKind.f64.format.order x y = some .gt := by simpa using h2
    rw [this]; rfl
theorem fz_ne' (x : Nat) : fz x ≠ 9223372036854775808 := by unfold fz; split <;> omega
theorem lit_facts {x y : Nat} (hx : x < 18446744073709551616) (hy : y < 18446744073709551616) : flo x y ≠ 9223372036854775808 ∧ fhi x y ≠ 9223372036854775808 ∧ ((flo x y = 9218868437227405312 ∧ fhi x y = 18442240474082181120) ∨ (flo x y ≠ 9218868437227405312 ∧ fhi x y ≠ 18442240474082181120)) := by
  by_cases hs : fsound x y = true
  · have h := of_decide_eq_true hs
    have e1 : flo x y = fz x := by rw [flo, if_pos hs]
    have e2 : fhi x y = fz y := by rw [fhi, if_pos hs]
    rw [e1, e2]
    refine ⟨fz_ne' x, fz_ne' y, .inr ⟨fun e => ?_, fun e => ?_⟩⟩
    · have := FK_fz hx
      rw [e] at this
      have k : FK 9218868437227405312 = 9218868437227405312 := by decide
      omega
    · have := FK_fz hy
      rw [e] at this
      have k : FK 18442240474082181120 = -9218868437227405312 := by decide
      omega
  · have e1 : flo x y = 9218868437227405312 := by rw [flo, if_neg hs]
    have e2 : fhi x y = 18442240474082181120 := by rw [fhi, if_neg hs]
    rw [e1, e2]; decide
theorem FK_inj {x y : Nat} (hx : x ≠ 9223372036854775808) (hy : y ≠ 9223372036854775808) : FK x = FK y ↔ x = y := by
  unfold FK; split <;> split <;> omega
theorem reg2 {a b : Value} {w W W' : World} (h0 : W.cell? ⟨w.heap.size, 0, none⟩ = some a) (h1 : W.cell? ⟨w.heap.size, 1, none⟩ = some b) (hz : w.heap.size < W.heap.size) (hb : Below W.heap.size W.drew W') (hw : Below w.heap.size w W) :
    W'.cell? ⟨w.heap.size, 0, none⟩ = some a ∧ W'.cell? ⟨w.heap.size, 1, none⟩ = some b ∧ w.heap.size < W'.heap.size ∧ Below w.heap.size w W' :=
  ⟨(hb.cell (p := ⟨w.heap.size, 0, none⟩) hz).trans h0, (hb.cell (p := ⟨w.heap.size, 1, none⟩) hz).trans h1, Nat.lt_of_lt_of_le hz hb.size, hw.drew.trans (hb.mono (Nat.le_of_lt hz))⟩

set_option maxRecDepth 20000 in
set_option maxHeartbeats 8000000 in
theorem litExact_any (x y : Nat) (hx : x < 18446744073709551616) (hy : y < 18446744073709551616) (w : World) (hP : Pow10 w) : Calls Tryd.prog 4 #[.agg #[.float .f64 x, .float .f64 y]] w fun e w' => e = .returned (.string (bs (litT (flo x y) (fhi x y)))) ∧ Below w.heap.size w w' := by
  have HB := Lib.hid (fun o => bnew w o)
  have HR := Lib.hid (fun W => read_any x y hx hy W)
  have hlo := flo_lt (y := y) hx
  have hhi := fhi_lt (x := x) hy
  obtain ⟨n1, n2, n3⟩ := lit_facts hx hy
  have m1 : ¬ fnan (flo x y) := fnan_flo
  have m2 : ¬ fnan (fhi x y) := fnan_fhi
  generalize flo x y = p at *
  generalize fhi x y = q at *
  have t1 : ∀ W : World, (binOp BinOp.eql 28 (.agg #[.float .f64 p, .float .f64 q]) (.agg #[.float .f64 9218868437227405312, .float .f64 18442240474082181120])).run Tryd.prog W = .ok (.bool (decide (p = 9218868437227405312 ∧ q = 18442240474082181120))) W := by
    intro W
    rw [eqlF, o_eq hlo (by omega) m1 (by decide), o_eq hhi (by omega) m2 (by decide), ← Bool.decide_and]
    congr 2
    exact decide_eq_decide.2 (by rw [FK_inj n1 (by omega), FK_inj n2 (by omega)])
  have t2 : ∀ W : World, (binOp BinOp.eql 28 (.agg #[.float .f64 p, .float .f64 q]) (.agg #[.float .f64 18442240474082181120, .float .f64 9218868437227405312])).run Tryd.prog W = .ok (.bool (decide (p = 18442240474082181120 ∧ q = 9218868437227405312))) W := by
    intro W
    rw [eqlF, o_eq hlo (by omega) m1 (by decide), o_eq hhi (by omega) m2 (by decide), ← Bool.decide_and]
    congr 2
    exact decide_eq_decide.2 (by rw [FK_inj n1 (by omega), FK_inj n2 (by omega)])
  have t3 : (FloatKind.f64.format.order p q == some .eq) = decide (p = q) := by
    rw [o_eq hlo hhi m1 m2]
    exact decide_eq_decide.2 (FK_inj n1 n2)
  have HX := Lib.hid (fun W (h : Pow10 W) => exP p hlo W h)
  have HV := Lib.hid (fun W (h : Pow10 W) (h1 : p ≠ 9218868437227405312) (h2 : q ≠ 18442240474082181120) => written_any p q hlo hhi h1 h2 W h)
  have HPP := Lib.hid hP
  have hsf := store_f
  have al := exT_len p
  clear hP hx hy hlo hhi n1 n2 m1 m2
  obtain ⟨c0, c1, f0, f1, hz⟩ := box1 (w := w) (a := .float .f64 x) (b := .float .f64 y) (t := 28) (Below.refl _ _)
  by_cases hE : p = 9218868437227405312 ∧ q = 18442240474082181120
  · have HT : Hid (litT p q = [91, 101, 109, 112, 116, 121, 93]) := Lib.hid (by unfold litT; rw [if_pos hE])
    rw [decide_eq_true hE] at t1
    clear hE n3
    go_enter Tryd.func4, Tryd.ntmps4
    go_wp2_with fail
    refine (HR.out _).mono ?_
    rintro e w1 ⟨rfl, hb⟩
    obtain ⟨c0, c1, f0, f1, hz⟩ := box1 hb
    have HW := Lib.hid (((baft (HB.out _) hb).setCell (Nat.le_refl _) (Value.float .f64 p) (p := ⟨w.heap.size, 0, none⟩)).setCell (Nat.le_refl _) (Value.float .f64 q) (p := ⟨w.heap.size, 1, none⟩))
    obtain ⟨g0, g1⟩ := set2_cells (u := Value.float .f64 p) (v := Value.float .f64 q) c0 c1
    have hz0 : w.heap.size < ((w1.setCell ⟨w.heap.size, 0, none⟩ (Value.float .f64 p)).setCell ⟨w.heap.size, 1, none⟩ (Value.float .f64 q)).heap.size := by simp [World.setCell]; exact hz
    clear hb
    go_wp2_with fail
    obtain ⟨W0, hW0⟩ : ∃ W0, (w1.setCell ⟨w.heap.size, 0, none⟩ (Value.float .f64 p)).setCell ⟨w.heap.size, 1, none⟩ (Value.float .f64 q) = W0 := ⟨_, rfl⟩
    rw [hW0] at HW g0 g1 hz0 ⊢
    clear hW0 c0 c1 f0 f1 hz
    go_region_with (go_at_call 8; (with_reducible refine (empty_any _).mono ?_); rintro en w2 ⟨rfl, hb⟩; obtain ⟨g0, g1, hz0, hw⟩ := reg2 g0 g1 hz0 hb HW.out; have HW := Lib.hid hw; clear hb hw)
    all_goals
      go_wp2
      go_ret
      exact ⟨by rw [HT.out]; rfl, HW.out⟩
  · rw [decide_eq_false hE] at t1
    have h12 : p ≠ 9218868437227405312 ∧ q ≠ 18442240474082181120 := by rcases n3 with h | h; exact absurd h hE; exact h
    clear n3
    by_cases hA : p = 18442240474082181120 ∧ q = 9218868437227405312
    · have HT : Hid (litT p q = [91, 101, 110, 116, 105, 114, 101, 93]) := Lib.hid (by unfold litT; rw [if_neg hE, if_pos hA])
      rw [decide_eq_true hA] at t2
      clear hE hA h12
      go_enter Tryd.func4, Tryd.ntmps4
      go_wp2_with fail
      refine (HR.out _).mono ?_
      rintro e w1 ⟨rfl, hb⟩
      obtain ⟨c0, c1, f0, f1, hz⟩ := box1 hb
      have HW := Lib.hid (((baft (HB.out _) hb).setCell (Nat.le_refl _) (Value.float .f64 p) (p := ⟨w.heap.size, 0, none⟩)).setCell (Nat.le_refl _) (Value.float .f64 q) (p := ⟨w.heap.size, 1, none⟩))
      obtain ⟨g0, g1⟩ := set2_cells (u := Value.float .f64 p) (v := Value.float .f64 q) c0 c1
      have hz0 : w.heap.size < ((w1.setCell ⟨w.heap.size, 0, none⟩ (Value.float .f64 p)).setCell ⟨w.heap.size, 1, none⟩ (Value.float .f64 q)).heap.size := by simp [World.setCell]; exact hz
      clear hb
      go_wp2_with fail
      obtain ⟨W0, hW0⟩ : ∃ W0, (w1.setCell ⟨w.heap.size, 0, none⟩ (Value.float .f64 p)).setCell ⟨w.heap.size, 1, none⟩ (Value.float .f64 q) = W0 := ⟨_, rfl⟩
      rw [hW0] at HW g0 g1 hz0 ⊢
      clear hW0 c0 c1 f0 f1 hz
      go_region_with (go_at_call 8; (with_reducible refine (empty_any _).mono ?_); rintro en w2 ⟨rfl, hb⟩; obtain ⟨g0, g1, hz0, hw⟩ := reg2 g0 g1 hz0 hb HW.out; have HW := Lib.hid hw; clear hb hw)
      all_goals
        go_wp2_with fail
        go_region_with (go_at_call 9; (with_reducible refine (entire_any _).mono ?_); rintro en w2 ⟨rfl, hb⟩; obtain ⟨g0, g1, hz0, hw⟩ := reg2 g0 g1 hz0 hb HW.out; have HW := Lib.hid hw; clear hb hw)
        all_goals
          go_wp2
          go_ret
          exact ⟨by rw [HT.out]; rfl, HW.out⟩
    · rw [decide_eq_false hA] at t2
      by_cases hp : p = q
      · have HT : Hid (litT p q = [91] ++ exT p ++ [93]) := Lib.hid (by unfold litT; rw [if_neg hE, if_neg hA, if_pos hp])
        have key : bs [91] ++ bs (exT p) ++ bs [93] = bs ([91] ++ exT p ++ [93]) := by simp only [bs_append]
        have KEY := Lib.hid key
        rw [decide_eq_true hp] at t3
        have ha2 : (bs (exT p)).size ≤ 20000 := by rw [bs_size]; exact al
        generalize bs (exT p) = X at *
        have l0 : (bs [91]).size = 1 := rfl
        have l2 : (bs [93]).size = 1 := rfl
        have e0 : ({ data := #[91] } : ByteArray) = bs [91] := rfl
        have e2 : ({ data := #[93] } : ByteArray) = bs [93] := rfl
        clear hE hA h12 hp key al
        go_enter Tryd.func4, Tryd.ntmps4
        go_wp2_with fail
        refine (HR.out _).mono ?_
        rintro e w1 ⟨rfl, hb⟩
        obtain ⟨c0, c1, f0, f1, hz⟩ := box1 hb
        have HW := Lib.hid (((baft (HB.out _) hb).setCell (Nat.le_refl _) (Value.float .f64 p) (p := ⟨w.heap.size, 0, none⟩)).setCell (Nat.le_refl _) (Value.float .f64 q) (p := ⟨w.heap.size, 1, none⟩))
        obtain ⟨g0, g1⟩ := set2_cells (u := Value.float .f64 p) (v := Value.float .f64 q) c0 c1
        have hz0 : w.heap.size < ((w1.setCell ⟨w.heap.size, 0, none⟩ (Value.float .f64 p)).setCell ⟨w.heap.size, 1, none⟩ (Value.float .f64 q)).heap.size := by simp [World.setCell]; exact hz
        clear hb
        go_wp2_with fail
        obtain ⟨W0, hW0⟩ : ∃ W0, (w1.setCell ⟨w.heap.size, 0, none⟩ (Value.float .f64 p)).setCell ⟨w.heap.size, 1, none⟩ (Value.float .f64 q) = W0 := ⟨_, rfl⟩
        rw [hW0] at HW g0 g1 hz0 ⊢
        clear hW0 c0 c1 f0 f1 hz
        go_region_with (go_at_call 8; (with_reducible refine (empty_any _).mono ?_); rintro en w2 ⟨rfl, hb⟩; obtain ⟨g0, g1, hz0, hw⟩ := reg2 g0 g1 hz0 hb HW.out; have HW := Lib.hid hw; clear hb hw)
        all_goals
          go_wp2_with fail
          go_region_with (go_at_call 9; (with_reducible refine (entire_any _).mono ?_); rintro en w2 ⟨rfl, hb⟩; obtain ⟨g0, g1, hz0, hw⟩ := reg2 g0 g1 hz0 hb HW.out; have HW := Lib.hid hw; clear hb hw)
          all_goals
            go_wp2_with fail
            refine (HX.out _ (HPP.out.below HW.out)).mono ?_
            rintro e w9 ⟨rfl, hb⟩
            have HW := Lib.hid (baft HW.out hb)
            clear hb
            go_wp2
            go_ret
            exact ⟨by rw [HT.out, ← KEY.out]; rfl, HW.out⟩
      · have HT : Hid (litT p q = [91] ++ (if p = 18442240474082181120 then [45, 105, 110, 102] else exT p) ++ [44, 32] ++ (if q = 9218868437227405312 then [105, 110, 102] else exT q) ++ [93]) := Lib.hid (by unfold litT; rw [if_neg hE, if_neg hA, if_neg hp])
        rw [decide_eq_false hp] at t3
        have H12 := Lib.hid h12
        obtain ⟨X, hX⟩ : ∃ X, bs ([91] ++ (if p = 18442240474082181120 then [45, 105, 110, 102] else exT p) ++ [44, 32] ++ (if q = 9218868437227405312 then [105, 110, 102] else exT q) ++ [93]) = X := ⟨_, rfl⟩
        rw [hX] at HV
        have HXX := Lib.hid hX
        clear hE hA h12 hp al hX
        go_enter Tryd.func4, Tryd.ntmps4
        go_wp2_with fail
        refine (HR.out _).mono ?_
        rintro e w1 ⟨rfl, hb⟩
        obtain ⟨c0, c1, f0, f1, hz⟩ := box1 hb
        have HW := Lib.hid (((baft (HB.out _) hb).setCell (Nat.le_refl _) (Value.float .f64 p) (p := ⟨w.heap.size, 0, none⟩)).setCell (Nat.le_refl _) (Value.float .f64 q) (p := ⟨w.heap.size, 1, none⟩))
        obtain ⟨g0, g1⟩ := set2_cells (u := Value.float .f64 p) (v := Value.float .f64 q) c0 c1
        have hz0 : w.heap.size < ((w1.setCell ⟨w.heap.size, 0, none⟩ (Value.float .f64 p)).setCell ⟨w.heap.size, 1, none⟩ (Value.float .f64 q)).heap.size := by simp [World.setCell]; exact hz
        clear hb
        go_wp2_with fail
        obtain ⟨W0, hW0⟩ : ∃ W0, (w1.setCell ⟨w.heap.size, 0, none⟩ (Value.float .f64 p)).setCell ⟨w.heap.size, 1, none⟩ (Value.float .f64 q) = W0 := ⟨_, rfl⟩
        rw [hW0] at HW g0 g1 hz0 ⊢
        clear hW0 c0 c1 f0 f1 hz
        go_region_with (go_at_call 8; (with_reducible refine (empty_any _).mono ?_); rintro en w2 ⟨rfl, hb⟩; obtain ⟨g0, g1, hz0, hw⟩ := reg2 g0 g1 hz0 hb HW.out; have HW := Lib.hid hw; clear hb hw)
        all_goals
          go_wp2_with fail
          go_region_with (go_at_call 9; (with_reducible refine (entire_any _).mono ?_); rintro en w2 ⟨rfl, hb⟩; obtain ⟨g0, g1, hz0, hw⟩ := reg2 g0 g1 hz0 hb HW.out; have HW := Lib.hid hw; clear hb hw)
          all_goals
            go_wp2_with fail
            refine (HV.out _ (HPP.out.below HW.out) H12.out.1 H12.out.2).mono ?_
            rintro e w9 ⟨rfl, hb⟩
            have HW := Lib.hid (baft HW.out hb)
            clear hb
            go_wp2
            go_ret
            exact ⟨by rw [HT.out, HXX.out]; rfl, HW.out⟩
end Go.Proofs.YtenoemjfoadgpaaDoor
