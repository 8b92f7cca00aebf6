/- binary64 and intervals: what the small functions answer. -/
import Derived.Test.YtggjbbkcdbnckaaMem
import Derived.Test.YtggjbbkcdbnckaaFloat
import Derived.Laws.Externs
import Derived.Deep.RegionWith
namespace Go.Proofs.Ytggjbbkcdbnckaa
set_option linter.unusedVariables false
set_option linter.unusedSimpArgs false
open Go.RowKit Verge

theorem from_any (b : Int) (w : World) : (callFunc 26 #[.int .u64 b]).run Try.prog w = .ok (.value (.float .f64 b.toNat)) w := by
  rw [run_callFunc_extern (e := Extern.MathFloatBits.float64frombits) Try.func26 (by kernel_rfl) (by kernel_rfl) (by kernel_rfl) (by kernel_rfl)]
  rfl
theorem bits_any (b : Nat) (w : World) : (callFunc 31 #[.float .f64 b]).run Try.prog w = .ok (.value (.int .u64 (b : Int))) w := by
  rw [run_callFunc_extern (e := Extern.MathFloatBits.float64bits) Try.func31 (by kernel_rfl) (by kernel_rfl) (by kernel_rfl) (by kernel_rfl)]
  rfl

theorem o_lt {x y : Nat} (hx : x < 18446744073709551616) (hy : y < 18446744073709551616) : (FloatKind.f64.format.order x y == some .lt) = decide (¬ fnan x ∧ ¬ fnan y ∧ FK x < FK y) := f_lt hx hy
theorem o_gt {x y : Nat} (hx : x < 18446744073709551616) (hy : y < 18446744073709551616) : (FloatKind.f64.format.order x y == some .gt) = decide (¬ fnan x ∧ ¬ fnan y ∧ FK y < FK x) := f_gt hx hy
theorem o_le {x y : Nat} (hx : x < 18446744073709551616) (hy : y < 18446744073709551616) : (FloatKind.f64.format.order x y == some .lt || FloatKind.f64.format.order x y == some .eq) = decide (¬ fnan x ∧ ¬ fnan y ∧ FK x ≤ FK y) := f_le hx hy
theorem o_ge {x y : Nat} (hx : x < 18446744073709551616) (hy : y < 18446744073709551616) : (FloatKind.f64.format.order x y == some .gt || FloatKind.f64.format.order x y == some .eq) = decide (¬ fnan x ∧ ¬ fnan y ∧ FK y ≤ FK x) := f_ge hx hy
theorem o_self {x : Nat} (hx : x < 18446744073709551616) : (FloatKind.f64.format.order x x != some .eq) = decide (fnan x) := f_self hx
theorem o_isz {x : Nat} (hx : x < 18446744073709551616) : (FloatKind.f64.format.order x 0 == some .eq) = decide (x = 0 ∨ x = 9223372036854775808) := f_isz hx

theorem isNaN_any (x : Nat) (hx : x < 18446744073709551616) (w : World) : Calls Try.prog 34 #[.int .u64 (x : Int)] w fun e w' => e = .returned (.bool (decide (fnan x))) ∧ w = w' := by
  have hb : bits .andNot .u64 (x : Int) 9223372036854775808 = ((x % 9223372036854775808 : Nat) : Int) := by
    have := Go.u64_andNot_nat x 9223372036854775808 hx (by omega)
    rw [andNot_sign x hx] at this
    exact this
  go_enter Try.func34, Try.ntmps34
  go_wp2
  go_ret
  refine ⟨?_, rfl⟩
  refine congrArg (fun b => Ending.returned (.bool b)) (decide_eq_decide.2 ?_)
  unfold fnan; omega

theorem plain3_any (x : Nat) (hx : x < 18446744073709551616) (w : World) : Calls Try.prog 38 #[.int .u64 (x : Int)] w fun e w' => e = .returned (.int .u64 (fplain x : Nat)) ∧ w = w' := by
  by_cases h0 : x = 9223372036854775808
  · subst h0
    go_enter Try.func38, Try.ntmps38
    go_wp2
    go_ret
    exact ⟨rfl, rfl⟩
  · have h0' : ¬ ((x : Int) = 9223372036854775808) := by omega
    go_enter Try.func38, Try.ntmps38
    go_wp2_with fail
    refine (isNaN_any x hx _).mono ?_
    rintro en w1 ⟨rfl, rfl⟩
    by_cases hn : fnan x
    · rw [decide_eq_true hn]
      go_wp2
      go_ret
      exact ⟨congrArg (fun b => Ending.returned (.int .u64 b)) (by unfold fplain; rw [if_neg h0, if_pos hn]; rfl), rfl⟩
    · rw [decide_eq_false hn]
      go_wp2
      go_ret
      exact ⟨congrArg (fun b => Ending.returned (.int .u64 b)) (by unfold fplain; rw [if_neg h0, if_neg hn]), rfl⟩

set_option maxRecDepth 20000 in
theorem key_any (x : Nat) (hx : x < 18446744073709551616) (w : World) : Calls Try.prog 37 #[.int .u64 (x : Int)] w fun e w' => e = .returned (.int .u64 (fkey x : Nat)) ∧ w = w' := by
  have hpl := fplain_lt hx
  have hP := Lib.hid (plain3_any x hx w)
  unfold fkey
  obtain ⟨p, hp⟩ : ∃ p, fplain x = p := ⟨_, rfl⟩
  rw [hp] at hpl hP ⊢
  clear hp
  by_cases h : 9223372036854775808 ≤ p
  · have hI : decide ((9223372036854775808 : Int) ≤ (p : Int)) = true := decide_eq_true (by omega)
    rw [if_pos h]
    have HH := Lib.hid h
    clear h
    go_enter Try.func37, Try.ntmps37
    go_wp2_with fail
    refine hP.out.mono ?_
    rintro en w1 ⟨rfl, rfl⟩
    go_wp2
    go_ret
    refine ⟨congrArg (fun b => Ending.returned (.int .u64 b)) ?_, rfl⟩
    have := Go.u64_xor_nat 18446744073709551615 p (by omega) hpl
    rw [xor_all p hpl] at this
    exact this
  · have ho : bits .or .u64 (p : Int) 9223372036854775808 = ((p + 9223372036854775808 : Nat) : Int) := by
      have := Go.u64_or_nat p 9223372036854775808 hpl (by omega)
      rw [or_sign p (by omega)] at this
      exact this
    have hI : decide ((9223372036854775808 : Int) ≤ (p : Int)) = false := decide_eq_false (by omega)
    rw [if_neg h]
    have HH := Lib.hid h
    clear h
    go_enter Try.func37, Try.ntmps37
    go_wp2_with fail
    refine hP.out.mono ?_
    rintro en w1 ⟨rfl, rfl⟩
    go_wp2
    go_ret
    refine ⟨congrArg (fun b => Ending.returned (.int .u64 b)) ?_, rfl⟩
    first | rfl | exact ho

theorem above_any (x y : Nat) (hx : x < 18446744073709551616) (hy : y < 18446744073709551616) (w : World) : Calls Try.prog 35 #[.int .u64 (x : Int), .int .u64 (y : Int)] w fun e w' => e = .returned (.bool (fabove x y)) ∧ w = w' := by
  have H1 := Lib.hid (fun W => isNaN_any x hx W)
  have H2 := Lib.hid (fun W => isNaN_any y hy W)
  have K1 := Lib.hid (fun W => key_any x hx W)
  have K2 := Lib.hid (fun W => key_any y hy W)
  go_enter Try.func35, Try.ntmps35
  go_wp2_with fail
  refine (H1.out _).mono ?_
  rintro en w1 ⟨rfl, rfl⟩
  by_cases nx : fnan x
  · rw [decide_eq_true nx]
    go_wp2
    go_ret
    exact ⟨by simp [fabove, nx], rfl⟩
  · rw [decide_eq_false nx]
    go_wp2_with fail
    refine (H2.out _).mono ?_
    rintro en w1 ⟨rfl, rfl⟩
    by_cases ny : fnan y
    · rw [decide_eq_true ny]
      go_wp2
      go_ret
      exact ⟨by simp [fabove, ny], rfl⟩
    · rw [decide_eq_false ny]
      go_wp2_with fail
      refine (K1.out _).mono ?_
      rintro en w1 ⟨rfl, rfl⟩
      go_wp2_with fail
      refine (K2.out _).mono ?_
      rintro en w1 ⟨rfl, rfl⟩
      go_wp2
      go_ret
      refine ⟨?_, rfl⟩
      refine congrArg (fun b => Ending.returned (.bool b)) ?_
      have := fkey_lt hx hy nx ny
      unfold fabove
      refine decide_eq_decide.2 ?_
      constructor
      · intro hh; exact ⟨nx, ny, this.1 (by omega)⟩
      · rintro ⟨_, _, hh⟩; have := this.2 hh; omega

theorem infp_any (w : World) : Calls Try.prog 32 #[.int .i64 1] w fun e w' => e = .returned (.float .f64 9218868437227405312) ∧ w = w' := by
  have hb' := from_any 9218868437227405312
  go_enter Try.func32, Try.ntmps32
  go_wp2
  go_ret
  exact ⟨rfl, rfl⟩
theorem infm_any (w : World) : Calls Try.prog 32 #[.int .i64 (-1)] w fun e w' => e = .returned (.float .f64 18442240474082181120) ∧ w = w' := by
  have hb' := from_any 18442240474082181120
  go_enter Try.func32, Try.ntmps32
  go_wp2
  go_ret
  exact ⟨rfl, rfl⟩

theorem sound_any (x y : Nat) (hx : x < 18446744073709551616) (hy : y < 18446744073709551616) (w : World) : Calls Try.prog 23 #[.float .f64 x, .float .f64 y] w fun e w' => e = .returned (.bool (fsound x y)) ∧ w = w' := by
  have e1 := o_le hx hy
  have e2 := o_lt hx (y := 9218868437227405312) (by omega)
  have e3 := o_gt hy (y := 18442240474082181120) (by omega)
  have hs : fsound x y = (decide (¬ fnan x ∧ ¬ fnan y ∧ FK x ≤ FK y) && decide (¬ fnan x ∧ ¬ fnan 9218868437227405312 ∧ FK x < FK 9218868437227405312) && decide (¬ fnan y ∧ ¬ fnan 18442240474082181120 ∧ FK 18442240474082181120 < FK y)) := by
    have n1 : ¬ fnan 9218868437227405312 := by decide
    have n2 : ¬ fnan 18442240474082181120 := by decide
    have k1 : FK 9218868437227405312 = 9218868437227405312 := by decide
    have k2 : FK 18442240474082181120 = -9218868437227405312 := by decide
    rw [k1, k2]
    unfold fsound
    by_cases a : fnan x <;> by_cases b : fnan y <;> simp [a, b, n1, n2, Bool.and_assoc]
  rw [hs]
  obtain ⟨b1, h1⟩ : ∃ b, decide (¬ fnan x ∧ ¬ fnan y ∧ FK x ≤ FK y) = b := ⟨_, rfl⟩
  obtain ⟨b2, h2⟩ : ∃ b, decide (¬ fnan x ∧ ¬ fnan 9218868437227405312 ∧ FK x < FK 9218868437227405312) = b := ⟨_, rfl⟩
  obtain ⟨b3, h3⟩ : ∃ b, decide (¬ fnan y ∧ ¬ fnan 18442240474082181120 ∧ FK 18442240474082181120 < FK y) = b := ⟨_, rfl⟩
  rw [h1] at e1 ⊢
  rw [h2] at e2 ⊢
  rw [h3] at e3 ⊢
  clear h1 h2 h3 hs
  have I1 := Lib.hid (fun W => infp_any W)
  have I2 := Lib.hid (fun W => infm_any W)
  rcases b1 with _ | _
  · go_enter Try.func23, Try.ntmps23
    go_wp2
    go_ret
    exact ⟨rfl, rfl⟩
  · rcases b2 with _ | _
    · go_enter Try.func23, Try.ntmps23
      go_wp2_with (first | (go_at_call 32; with_reducible refine (I1.out _).mono ?_; rintro en w1 ⟨rfl, rfl⟩) | (go_at_call 32; with_reducible refine (I2.out _).mono ?_; rintro en w1 ⟨rfl, rfl⟩))
      go_ret
      exact ⟨rfl, rfl⟩
    · rcases b3 with _ | _
      · go_enter Try.func23, Try.ntmps23
        go_wp2_with (first | (go_at_call 32; with_reducible refine (I1.out _).mono ?_; rintro en w1 ⟨rfl, rfl⟩) | (go_at_call 32; with_reducible refine (I2.out _).mono ?_; rintro en w1 ⟨rfl, rfl⟩))
        go_ret
        exact ⟨rfl, rfl⟩
      · go_enter Try.func23, Try.ntmps23
        go_wp2_with (first | (go_at_call 32; with_reducible refine (I1.out _).mono ?_; rintro en w1 ⟨rfl, rfl⟩) | (go_at_call 32; with_reducible refine (I2.out _).mono ?_; rintro en w1 ⟨rfl, rfl⟩))
        go_ret
        exact ⟨rfl, rfl⟩
end Go.Proofs.Ytggjbbkcdbnckaa
