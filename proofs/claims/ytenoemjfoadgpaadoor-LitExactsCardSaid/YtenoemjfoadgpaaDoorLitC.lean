/- Layer 12: Exact by the program: written and the function that it is handed. -/
import Derived.Test.YtenoemjfoadgpaaDoorLitB
namespace Go.Proofs.YtenoemjfoadgpaaDoor
set_option linter.unusedVariables false
set_option linter.unusedSimpArgs false
open Go.RowKit Verge

theorem end_any (d : Int) (b : Nat) (hb : b < 18446744073709551616) (w : World) (hP : Pow10 w) : Calls Tryd.prog 12 #[.int .i64 d, .float .f64 b] w fun e w' => e = .returned (.string (bs (exT b))) ∧ Below w.heap.size w w' := by
  have H := Lib.hid (exP b hb w hP)
  clear hP
  go_enter Tryd.func12, Tryd.ntmps12
  go_wp2_with (go_at_call 10; refine H.out.mono ?_; rintro e w1 ⟨rfl, hb1⟩; have HB1 := Lib.hid hb1; clear hb1)
  go_ret
  exact ⟨rfl, HB1.out⟩
set_option maxHeartbeats 2000000 in
theorem written_any (x y : Nat) (hx : x < 18446744073709551616) (hy : y < 18446744073709551616) (hx1 : x ≠ 9218868437227405312) (hy1 : y ≠ 18442240474082181120) (w : World) (hP : Pow10 w) : Calls Tryd.prog 11 #[.agg #[.float .f64 x, .float .f64 y], .func (.func 12) #[] #[]] w fun e w' => e = .returned (.string (bs ([91] ++ (if x = 18442240474082181120 then [45, 105, 110, 102] else exT x) ++ [44, 32] ++ (if y = 9218868437227405312 then [105, 110, 102] else exT y) ++ [93]))) ∧ Below w.heap.size w w' := by
  have HB := Lib.hid (fun o => bnew w o)
  have key : ∀ (c d : List UInt8), bs [91] ++ bs c ++ bs [44, 32] ++ bs d ++ bs [93] = bs ([91] ++ c ++ [44, 32] ++ d ++ [93]) := by
    intro c d; simp only [bs_append]
  rw [← key]
  have i1 : decide (fabs x = 9218868437227405312) = decide (x = 18442240474082181120) := decide_eq_decide.2 (by unfold fabs; omega)
  have i2 : decide (fabs y = 9218868437227405312) = decide (y = 9218868437227405312) := decide_eq_decide.2 (by unfold fabs; omega)
  have I1 := Lib.hid (fun W => isinf_0 x hx W)
  have I2 := Lib.hid (fun W => isinf_0 y hy W)
  rw [i1] at I1
  rw [i2] at I2
  have E1 := Lib.hid (fun d W (h : Pow10 W) => end_any d x hx W h)
  have E2 := Lib.hid (fun d W (h : Pow10 W) => end_any d y hy W h)
  have a1 := exT_len x
  have a2 := exT_len y
  have HPP := Lib.hid hP
  generalize exT x = a at *
  generalize exT y = b at *
  have l0 : (bs [91]).size = 1 := rfl
  have l1 : (bs [44, 32]).size = 2 := rfl
  have l2 : (bs [93]).size = 1 := rfl
  have l3 : (bs [45, 105, 110, 102]).size = 4 := rfl
  have l4 : (bs [105, 110, 102]).size = 3 := rfl
  have e0 : ({ data := #[91] } : ByteArray) = bs [91] := rfl
  have e1 : ({ data := #[44, 32] } : ByteArray) = bs [44, 32] := rfl
  have e2 : ({ data := #[93] } : ByteArray) = bs [93] := rfl
  have e3 : ({ data := #[45, 105, 110, 102] } : ByteArray) = bs [45, 105, 110, 102] := rfl
  have e4 : ({ data := #[105, 110, 102] } : ByteArray) = bs [105, 110, 102] := rfl
  have ha2 : (bs a).size ≤ 20000 := by rw [bs_size]; exact a1
  have hb2 : (bs b).size ≤ 20000 := by rw [bs_size]; exact a2
  clear key a1 a2 i1 i2 hx hy hx1 hy1 hP
  obtain ⟨c0, c1, f0, f1, hz⟩ := box1 (w := w) (a := .float .f64 x) (b := .float .f64 y) (t := 28) (Below.refl _ _)
  by_cases hx : x = 18442240474082181120 <;> by_cases hy : y = 9218868437227405312
  · rw [if_pos hx, if_pos hy]
    rw [decide_eq_true hx] at I1
    rw [decide_eq_true hy] at I2
    clear hx hy
    go_enter Tryd.func11, Tryd.ntmps11
    go_wp2_with fail
    refine (I1.out _).mono ?_
    rintro e w1 ⟨rfl, rfl⟩
    go_wp2_with fail
    refine (I2.out _).mono ?_
    rintro e w3 ⟨rfl, rfl⟩
    go_wp2
    go_ret
    exact ⟨rfl, HB.out _⟩
  · rw [if_pos hx, if_neg hy]
    rw [decide_eq_true hx] at I1
    rw [decide_eq_false hy] at I2
    clear hx hy
    go_enter Tryd.func11, Tryd.ntmps11
    go_wp2_with fail
    refine (I1.out _).mono ?_
    rintro e w1 ⟨rfl, rfl⟩
    go_wp2_with fail
    refine (I2.out _).mono ?_
    rintro e w3 ⟨rfl, rfl⟩
    go_wp2_with fail
    refine (E2.out _ _ (HPP.out.below (HB.out _))).mono ?_
    rintro e w4 ⟨rfl, hb⟩
    obtain ⟨c0, c1, f0, f1, hz⟩ := box1 hb
    have HW := Lib.hid (baft (HB.out _) hb)
    clear hb
    go_wp2
    go_ret
    exact ⟨rfl, HW.out⟩
  · rw [if_neg hx, if_pos hy]
    rw [decide_eq_false hx] at I1
    rw [decide_eq_true hy] at I2
    clear hx hy
    go_enter Tryd.func11, Tryd.ntmps11
    go_wp2_with fail
    refine (I1.out _).mono ?_
    rintro e w1 ⟨rfl, rfl⟩
    go_wp2_with fail
    refine (E1.out _ _ (HPP.out.below (HB.out _))).mono ?_
    rintro e w2 ⟨rfl, hb⟩
    obtain ⟨c0, c1, f0, f1, hz⟩ := box1 hb
    have HW := Lib.hid (baft (HB.out _) hb)
    clear hb
    go_wp2_with fail
    refine (I2.out _).mono ?_
    rintro e w3 ⟨rfl, rfl⟩
    go_wp2
    go_ret
    exact ⟨rfl, HW.out⟩
  · rw [if_neg hx, if_neg hy]
    rw [decide_eq_false hx] at I1
    rw [decide_eq_false hy] at I2
    clear hx hy
    go_enter Tryd.func11, Tryd.ntmps11
    go_wp2_with fail
    refine (I1.out _).mono ?_
    rintro e w1 ⟨rfl, rfl⟩
    go_wp2_with fail
    refine (E1.out _ _ (HPP.out.below (HB.out _))).mono ?_
    rintro e w2 ⟨rfl, hb⟩
    obtain ⟨c0, c1, f0, f1, hz⟩ := box1 hb
    have HW := Lib.hid (baft (HB.out _) hb)
    clear hb
    go_wp2_with fail
    refine (I2.out _).mono ?_
    rintro e w3 ⟨rfl, rfl⟩
    go_wp2_with fail
    refine (E2.out _ _ (HPP.out.below HW.out)).mono ?_
    rintro e w4 ⟨rfl, hb⟩
    have HW := Lib.hid (baft HW.out hb)
    clear hb
    go_wp2
    go_ret
    exact ⟨rfl, HW.out⟩

end Go.Proofs.YtenoemjfoadgpaaDoor
