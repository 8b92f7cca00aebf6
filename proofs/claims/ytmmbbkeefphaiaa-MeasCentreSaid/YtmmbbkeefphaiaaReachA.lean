/- Law 8: a float's ratio. -/
import Derived.Test.YtmmbbkeefphaiaaEndC
namespace Go.Proofs.Ytmmbbkeefphaiaa
set_option linter.unusedVariables false
set_option linter.unusedSimpArgs false
open Go.RowKit Verge

set_option maxRecDepth 20000 in
theorem number_any (b : Nat) (hb : b < 18446744073709551616) (w : World) : Calls Try.prog 28 #[.float .f64 b] w (RatP w (decide (9223372036854775808 < b)) (fbN b) (fbD b)) := by
  have HB0 := Lib.hid (rnew w ratO)
  have HF := Lib.hid (fun W => rbits_any b hb W)
  have hbt := bits_any b
  obtain ⟨sg, hs⟩ : ∃ sg, decide (9223372036854775808 < b) = sg := ⟨_, rfl⟩
  rw [hs] at HF ⊢
  clear hs hb
  obtain ⟨P, hP⟩ : ∃ P : Ending → World → Prop, P = RatP w sg (fbN b) (fbD b) := ⟨_, rfl⟩
  rw [← hP]
  have HP := Lib.hid hP
  clear hP
  go_enter Try.func28, Try.ntmps28
  go_wp2_with fail
  refine (HF.out _).mono ?_
  rintro en w2 ⟨A3, c3, A4, c4, rfl, hR3, hR4, hb⟩
  have HB := Lib.hid ((Box.new w).later hb)
  have HW := Lib.hid (raft HB0.out hb)
  have HR3 := Lib.hid hR3
  have HR4 := Lib.hid hR4
  obtain ⟨b0, b1, b2, f0, f1, f2⟩ := HB.out.cells
  have hz := HB.out.lt
  clear hR3 hR4 hb
  go_wp2
  refine bodyPost_ret (v := .agg #[.bool sg, .slice A3 (dig (fbN b)).length c3, .slice A4 (dig (fbD b)).length c4]) (by simp [results, Try.results28, go_sem, b0, b1, b2, hz]) rfl ?_
  rw [HP.out]
  exact ⟨_, _, _, _, rfl, HR3.out.put3 HB.out _ _ _, HR4.out.put3 HB.out _ _ _, put3_below HW.out (Nat.le_refl _) _ _ _⟩
theorem sub_self_fin {x : Nat} (hx : x < 18446744073709551616) (h : x % 9223372036854775808 < 9218868437227405312) : Ieee.double.sub x x = some 0 := by
  obtain ⟨k, m, e, _⟩ := read_num hx h
  unfold Ieee.Format.sub
  rw [e]
  have ht : ∀ (s : Bool) (u : Nat), Ieee.signed s m u + Ieee.signed (!s) m u = 0 := by
    intro s u
    unfold Ieee.signed
    cases s <;> simp <;> omega
  show ((Ieee.Datum.sum (.number (decide (9223372036854775808 ≤ x)) m (-1074 + (k : Nat))) (.number (!decide (9223372036854775808 ≤ x)) m (-1074 + (k : Nat)))).map Ieee.double.write) = some 0
  unfold Ieee.Datum.sum
  simp only [ht]
  have hs : ∀ s : Bool, (s && !s) = false := by decide
  simp only [hs, if_true, Int.natAbs_zero, Option.map_some]
  rfl
theorem sub_self_inf {x : Nat} (hx : x < 18446744073709551616) (h : ¬ x % 9223372036854775808 < 9218868437227405312) : Ieee.double.sub x x = none := by
  unfold Ieee.Format.sub
  by_cases hn : fnan x
  · obtain ⟨s, t, e⟩ := read_nan hx hn
    rw [e]; rfl
  · rw [read_inf hx (by unfold fnan at hn; omega)]
    cases decide (9223372036854775808 ≤ x) <;> rfl
/-- The NaN that a world's tape gives for x - x. -/
def nb (x : Nat) (w : World) : Nat := (Question.nanBits .f64 x x).cut (w.tape w.drawn (.nanBits .f64 x x))
theorem nb_nan (x : Nat) (w : World) : nb x w < 18446744073709551616 ∧ fnan (nb x w) := by
  unfold nb
  obtain ⟨t, ht⟩ : ∃ t, w.tape w.drawn (.nanBits .f64 x x) = t := ⟨_, rfl⟩
  rw [ht]
  have e : (Question.nanBits .f64 x x).cut t = (t % 2) * 9223372036854775808 + 9218868437227405312 + 1 + (t / 2) % 4503599627370495 := rfl
  rw [e]
  unfold fnan
  have h1 : t % 2 = 0 ∨ t % 2 = 1 := by omega
  have h2 : t / 2 % 4503599627370495 < 4503599627370495 := Nat.mod_lt _ (by omega)
  rcases h1 with h1 | h1 <;> rw [h1] <;> omega
theorem run_sub_nan (t : TypeId) (x : Nat) (hx : x < 18446744073709551616) (h : ¬ x % 9223372036854775808 < 9218868437227405312) (w : World) :
    (binOp .sub t (.float .f64 x) (.float .f64 x)).run Try.prog w = .ok (.float .f64 (nb x w)) w.drew := by
  have hs : FloatKind.f64.format.sub x x = none := sub_self_inf hx h
  simp [binOp, Op.floatArith, hs, run_choose, nb]
  intro hh
  exact absurd (show false = true from hh) (by decide)

set_option maxRecDepth 20000 in
theorem finite_any (x : Nat) (hx : x < 18446744073709551616) (w : World) : Calls Try.prog 26 #[.float .f64 x] w fun e w' => e = .returned (.bool (decide (fabs x < 9218868437227405312))) ∧ ∃ k, w.drewN k = w' := by
  by_cases h : x % 9223372036854775808 < 9218868437227405312
  · have hs : ∀ t w, (binOp .sub t (.float .f64 x) (.float .f64 x)).run Try.prog w = .ok (.float .f64 0) w := fun t w => run_float_arith w .sub t .f64 x x 0 (sub_self_fin hx h)
    have hz : (FloatKind.f64.format.order 0 0 == some .eq) = true := (o_isz (x := 0) (by omega)).trans (by decide)
    rw [decide_eq_true (show fabs x < 9218868437227405312 from h)]
    clear hx h
    go_enter Try.func26, Try.ntmps26
    go_wp2
    go_ret
    exact ⟨rfl, 0, rfl⟩
  · have hs := fun t w => run_sub_nan t x hx h w
    have hz : ∀ w, (FloatKind.f64.format.order (nb x w) 0 == some .eq) = false := fun w => by
      rw [o_isz (nb_nan x w).1]
      have := (nb_nan x w).2
      unfold fnan at this
      exact decide_eq_false (by omega)
    rw [decide_eq_false (show ¬ fabs x < 9218868437227405312 from h)]
    clear hx h
    go_enter Try.func26, Try.ntmps26
    go_wp2
    go_ret
    exact ⟨rfl, 1, rfl⟩
end Go.Proofs.Ytmmbbkeefphaiaa
