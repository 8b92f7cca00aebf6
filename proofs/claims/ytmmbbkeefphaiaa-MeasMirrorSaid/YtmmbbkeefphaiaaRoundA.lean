/- Layer 3: the quick road of a sum: IsNaN, odd, Nextafter upward, nudge upward. -/
import Derived.Test.YtmmbbkeefphaiaaMidA
import Derived.Test.YtmmbbkeefphaiaaRnd
import Derived.Deep.CutBlock
import Derived.Test.YtmmbbkeefphaiaaRoundP
namespace Go.Proofs.Ytmmbbkeefphaiaa
set_option linter.unusedVariables false
set_option linter.unusedSimpArgs false
open Go.RowKit Verge

theorem isnan_any (x : Nat) (hx : x < 18446744073709551616) (w : World) : Calls Try.prog 99 #[.float .f64 x] w fun e w' => e = .returned (.bool (decide (fnan x))) ∧ w = w' := by
  have ho := o_self hx
  go_enter Try.func99, Try.ntmps99
  go_wp2
  go_ret
  exact ⟨rfl, rfl⟩
theorem rplain_any (x : Nat) (hx : x < 18446744073709551616) (w : World) : Calls Try.prog 100 #[.float .f64 x] w fun e w' => e = .returned (.float .f64 (fz x)) ∧ w = w' := by
  have hz := o_isz hx
  by_cases h : x = 0 ∨ x = 9223372036854775808
  · rw [decide_eq_true h] at hz
    go_enter Try.func100, Try.ntmps100
    go_wp2
    go_ret
    exact ⟨congrArg (fun b => Ending.returned (.float .f64 b)) (by unfold fz; rw [if_pos h]), rfl⟩
  · rw [decide_eq_false h] at hz
    go_enter Try.func100, Try.ntmps100
    go_wp2
    go_ret
    exact ⟨congrArg (fun b => Ending.returned (.float .f64 b)) (by unfold fz; rw [if_neg h]), rfl⟩
/-- NaN or infinite. -/
def fodd (x : Nat) : Bool := decide (9218868437227405312 ≤ fabs x)
theorem fodd_or (x : Nat) : fodd x = (decide (fnan x) || decide (fabs x = 9218868437227405312)) := by
  unfold fodd
  by_cases h1 : fnan x
  · rw [decide_eq_true h1, decide_eq_true (by unfold fnan at h1; unfold fabs; omega)]; rfl
  · rw [decide_eq_false h1, Bool.false_or]
    exact decide_eq_decide.2 (by unfold fnan at h1; unfold fabs; omega)

set_option maxHeartbeats 2000000 in
theorem odd_any (b x y : Nat) (hx : x < 18446744073709551616) (hy : y < 18446744073709551616) (w : World) (h0 : w.cell? ⟨b, 0, none⟩ = some (.float .f64 x)) (h1 : w.cell? ⟨b, 1, none⟩ = some (.float .f64 y)) :
    Calls Try.prog 79 #[.slice (some ⟨b, 0, none⟩) 2 2] w fun e w' => e = .returned (.bool (fodd x || fodd y)) ∧ w = w' := by
  have N1 := Lib.hid (isnan_any x hx w)
  have N2 := Lib.hid (isnan_any y hy w)
  have I1 := Lib.hid (isinf_0 x hx w)
  have I2 := Lib.hid (isinf_0 y hy w)
  rw [fodd_or, fodd_or]
  obtain ⟨n1, e1⟩ : ∃ n, decide (fnan x) = n := ⟨_, rfl⟩
  obtain ⟨n2, e2⟩ : ∃ n, decide (fnan y) = n := ⟨_, rfl⟩
  obtain ⟨i1, e3⟩ : ∃ n, decide (fabs x = 9218868437227405312) = n := ⟨_, rfl⟩
  obtain ⟨i2, e4⟩ : ∃ n, decide (fabs y = 9218868437227405312) = n := ⟨_, rfl⟩
  simp only [e1, e2, e3, e4] at N1 N2 I1 I2 ⊢
  clear e1 e2 e3 e4 hx hy
  go_enter Try.func79, Try.ntmps79
  go_wp2
  go_loop [4, 7] (fun _ iv => iv = .int .i64 0 ∨ ((n1 || i1) = false ∧ iv = .int .i64 1) ∨ ((n1 || i1) = false ∧ (n2 || i2) = false ∧ iv = .int .i64 2)) (fun _ iv => 2 - (intOf iv).toNat)
  case atStart => exact .inl rfl
  case round =>
    rcases hrel with rfl | ⟨hf, rfl⟩ | ⟨hf, hf2, rfl⟩
    · skip
      go_wp2_with fail
      refine N1.out.mono ?_
      rintro en w1 ⟨rfl, rfl⟩
      rcases (show n1 = true ∨ n1 = false by cases n1 <;> simp) with e1 | e1
      · subst e1
        go_wp2
        go_ret
        exact ⟨rfl, rfl⟩
      · subst e1
        go_wp2_with fail
        refine I1.out.mono ?_
        rintro en w1 ⟨rfl, rfl⟩
        rcases (show i1 = true ∨ i1 = false by cases i1 <;> simp) with e2 | e2
        · subst e2
          go_wp2
          go_ret
          exact ⟨rfl, rfl⟩
        · subst e2
          go_wp2
          go_round
          case rel => exact .inr (.inl ⟨rfl, rfl⟩)
          case measure => simp [intOf]
    · skip
      go_wp2_with fail
      refine N2.out.mono ?_
      rintro en w1 ⟨rfl, rfl⟩
      rcases (show n2 = true ∨ n2 = false by cases n2 <;> simp) with e1 | e1
      · subst e1
        go_wp2
        go_ret
        exact ⟨by rw [hf]; rfl, rfl⟩
      · subst e1
        go_wp2_with fail
        refine I2.out.mono ?_
        rintro en w1 ⟨rfl, rfl⟩
        rcases (show i2 = true ∨ i2 = false by cases i2 <;> simp) with e2 | e2
        · subst e2
          go_wp2
          go_ret
          exact ⟨by rw [hf]; rfl, rfl⟩
        · subst e2
          go_wp2
          go_round
          case rel => exact .inr (.inr ⟨hf, rfl, rfl⟩)
          case measure => simp [intOf]
    · go_wp2
      go_ret
      exact ⟨rfl, rfl⟩

/-- The number above a finite one that is not 0. -/
theorem next_up (s : Nat) (hs : ffin s) (h0 : fv s ≠ 0) (w : World) : Calls Try.prog 101 #[.float .f64 s, .float .f64 9218868437227405312] w fun e w' => e = .returned (.float .f64 (fup s)) ∧ w = w' := by
  obtain ⟨l1, l2⟩ := hs
  have hz : s ≠ 0 ∧ s ≠ 9223372036854775808 := ⟨by rintro rfl; exact h0 rfl, by rintro rfl; exact h0 rfl⟩
  have N1 := Lib.hid (isnan_any s l1 w)
  have N2 := Lib.hid (isnan_any 9218868437227405312 (by omega) w)
  rw [decide_eq_false (show ¬ fnan s by unfold fnan; omega)] at N1
  rw [decide_eq_false (show ¬ fnan 9218868437227405312 by decide)] at N2
  have o1 : (FloatKind.f64.format.order s 9218868437227405312 == some .eq) = false := by
    refine (f_eq l1 (by omega)).trans (decide_eq_false ?_)
    rintro ⟨_, _, h⟩
    revert h; unfold FK; split <;> (try split) <;> omega
  have o2 := o_isz l1
  rw [decide_eq_false (by omega)] at o2
  have o3 : (FloatKind.f64.format.order 9218868437227405312 s == some .gt) = true := by
    refine (f_gt (by omega) l1).trans (decide_eq_true ⟨by decide, by unfold fnan; omega, ?_⟩)
    unfold FK; split <;> (try split) <;> omega
  have o4 : (FloatKind.f64.format.order s 0 == some .gt) = decide (s < 9223372036854775808) := by
    refine (f_gt l1 (by omega)).trans (decide_eq_decide.2 ⟨?_, fun h => ⟨by unfold fnan; omega, by decide, ?_⟩⟩)
    · rintro ⟨_, _, h⟩
      revert h; unfold FK; split <;> (try split) <;> omega
    · unfold FK; split <;> (try split) <;> omega
  have b1 := bits_any s
  have b2 := from_any ((s : Int) + 1)
  have b3 := from_any ((s : Int) - 1)
  by_cases hc : s < 9223372036854775808
  · rw [decide_eq_true hc] at o4
    have e : fup s = s + 1 := by unfold fup; rw [if_pos hc]
    have hw : IntKind.u64.wrap ((s : Int) + 1) = (s : Int) + 1 := by rw [IntKind.wrap_u64]; omega
    have ht : ((s : Int) + 1).toNat = s + 1 := by omega
    rw [ht] at b2
    rw [e]
    obtain ⟨t, hte⟩ : ∃ t, s + 1 = t := ⟨_, rfl⟩
    obtain ⟨tI, htI⟩ : ∃ tI : Int, (s : Int) + 1 = tI := ⟨_, rfl⟩
    rw [hte] at b2 ⊢
    rw [htI] at b2
    replace hw := hw.trans htI
    clear hc e hz h0 l1 l2 b3 ht hte htI
    obtain ⟨I, hI⟩ : ∃ I, 9218868437227405312 = I := ⟨_, rfl⟩
    rw [hI] at o1 o3 N2 ⊢
    clear hI
    go_enter Try.func101, Try.ntmps101
    go_wp2_with fail
    refine N1.out.mono ?_
    rintro en w1 ⟨rfl, rfl⟩
    go_wp2_with fail
    refine N2.out.mono ?_
    rintro en w1 ⟨rfl, rfl⟩
    go_wp2
    go_ret
    exact ⟨rfl, rfl⟩
  · rw [decide_eq_false hc] at o4
    have e : fup s = s - 1 := by unfold fup; rw [if_neg hc]
    have hw : IntKind.u64.wrap ((s : Int) - 1) = (s : Int) - 1 := by rw [IntKind.wrap_u64]; omega
    have ht : ((s : Int) - 1).toNat = s - 1 := by omega
    rw [ht] at b3
    rw [e]
    obtain ⟨t, hte⟩ : ∃ t, s - 1 = t := ⟨_, rfl⟩
    obtain ⟨tI, htI⟩ : ∃ tI : Int, (s : Int) - 1 = tI := ⟨_, rfl⟩
    rw [hte] at b3 ⊢
    rw [htI] at b3
    replace hw := hw.trans htI
    clear hc e hz h0 l1 l2 b2 ht hte htI
    obtain ⟨I, hI⟩ : ∃ I, 9218868437227405312 = I := ⟨_, rfl⟩
    rw [hI] at o1 o3 N2 ⊢
    clear hI
    go_enter Try.func101, Try.ntmps101
    go_wp2_with fail
    refine N1.out.mono ?_
    rintro en w1 ⟨rfl, rfl⟩
    go_wp2_with fail
    refine N2.out.mono ?_
    rintro en w1 ⟨rfl, rfl⟩
    go_wp2
    go_ret
    exact ⟨rfl, rfl⟩

/-- A last step upward. -/
theorem nudge_up (s e : Nat) (hs : ffin s) (he : ffin e) (h : 0 < fv e → fv s ≠ 0) (w : World) : Calls Try.prog 80 #[.int .i64 1, .float .f64 s, .float .f64 e] w fun en w' => en = .returned (.float .f64 (if 0 < fv e then fz (fup s) else fz s)) ∧ w = w' := by
  have o1 : (FloatKind.f64.format.order e 0 == some .gt) = decide (0 < fv e) := by
    refine (f_gt he.1 (by omega)).trans (decide_eq_decide.2 ⟨?_, fun h => ⟨by have := he.2; unfold fnan; omega, by decide, ?_⟩⟩)
    · rintro ⟨_, _, h⟩
      have h0 : FK 0 = 0 := rfl
      rw [h0] at h
      by_cases hc : e < 9223372036854775808
      · have hk : FK e = (e : Int) := by unfold FK; rw [if_pos hc]
        have : 0 < FV e := by have := FV_lt (show 0 < e by omega); rw [FV_zero] at this; exact this
        unfold fv; rw [if_neg (by omega), Nat.mod_eq_of_lt hc]; omega
      · revert h; unfold FK; rw [if_neg hc]; omega
    · have h0 : FK 0 = 0 := rfl
      rw [h0]
      by_cases hc : e < 9223372036854775808
      · unfold FK; rw [if_pos hc]
        rcases Nat.eq_zero_or_pos e with h1 | h1
        · subst h1; revert h; decide
        · omega
      · revert h; unfold fv; rw [if_pos (by omega)]; omega
  have hI := Lib.hid (infp_any)
  by_cases hc : 0 < fv e
  · rw [if_pos hc]
    rw [decide_eq_true hc] at o1
    have hN := Lib.hid (fun W => next_up s hs (h hc) W)
    have hfl : fup s < 18446744073709551616 := by
      have := hs.1; have := hs.2
      unfold fup; split <;> omega
    have hP := Lib.hid (fun W => rplain_any (fup s) hfl W)
    obtain ⟨u, hu⟩ : ∃ u, fup s = u := ⟨_, rfl⟩
    rw [hu] at hN hP ⊢
    obtain ⟨z, hz⟩ : ∃ z, fz u = z := ⟨_, rfl⟩
    rw [hz] at hP ⊢
    clear hc hs he h hu hz hfl
    go_enter Try.func80, Try.ntmps80
    go_wp2_with fail
    refine (hI.out _).mono ?_
    rintro en w1 ⟨rfl, rfl⟩
    go_wp2_with fail
    refine (hN.out _).mono ?_
    rintro en w1 ⟨rfl, rfl⟩
    go_wp2_with fail
    refine (hP.out _).mono ?_
    rintro en w1 ⟨rfl, rfl⟩
    go_wp2
    go_ret
    exact ⟨rfl, rfl⟩
  · rw [if_neg hc]
    rw [decide_eq_false hc] at o1
    have hP := Lib.hid (fun W => rplain_any s hs.1 W)
    obtain ⟨z, hz⟩ : ∃ z, fz s = z := ⟨_, rfl⟩
    rw [hz] at hP ⊢
    clear hc hs he h hz
    go_enter Try.func80, Try.ntmps80
    go_wp2_with fail
    refine (hP.out _).mono ?_
    rintro en w1 ⟨rfl, rfl⟩
    go_wp2
    go_ret
    exact ⟨rfl, rfl⟩

/-- The greatest number of the quick road. -/
def fgreat : Nat := 8660422083433463808
theorem gt_great {x : Nat} (hx : ffin x) : (FloatKind.f64.format.order (fabs x) 8660422083433463808 == some .gt) = decide (8660422083433463808 < fabs x) := by
  have h2 := hx.2
  refine (f_gt (by unfold fabs; omega) (by omega)).trans (decide_eq_decide.2 ⟨?_, fun h => ⟨by unfold fnan fabs; omega, by decide, ?_⟩⟩)
  · rintro ⟨_, _, h⟩
    revert h; unfold fabs FK; split <;> (try split) <;> omega
  · revert h; unfold fabs FK; split <;> (try split) <;> omega
set_option maxHeartbeats 2000000 in
theorem add_quick (x y : Nat) (hx : ffin x) (hy : ffin y) (gx : fabs x ≤ 8660422083433463808) (gy : fabs y ≤ 8660422083433463808) (w : World) :
    Calls Try.prog 39 #[.int .i64 1, .float .f64 x, .float .f64 y] w fun e w' => e = .returned (.float .f64 (upz (fv x + fv y))) ∧ Below w.heap.size w w' := by
  have he : (1922 : Nat) ≤ 2040 := by omega
  have bx := ffin_bound (x := x) (e := 1922) (by omega) (by have : fabs x = x % 9223372036854775808 := rfl; omega)
  have by' := ffin_bound (x := y) (e := 1922) (by omega) (by have : fabs y = y % 9223372036854775808 := rfl; omega)
  obtain ⟨s, t, a, b, c, d, e1, e2, e3, e4, e5, e6, fs, ft, fa, fb, fc, fd, v1, v2⟩ := quick_sum he hx hy bx by'
  have hsum : (fv x + fv y).natAbs ≤ MB 1923 := by rw [MB_succ]; omega
  have hres : (if 0 < fv d then fz (fup s) else fz s) = upz (fv x + fv y) := by
    by_cases hd : 0 < fv d
    · rw [if_pos hd]; exact (up_next (e := 1923) (by omega) hsum fs v1 (by omega)).2.1
    · rw [if_neg hd]; exact up_same (e := 1923) (by omega) hsum fs v1 (by omega)
  have hn0 : 0 < fv d → fv s ≠ 0 := fun hd => (up_next (e := 1923) (by omega) hsum fs v1 (by omega)).1
  have HNd := Lib.hid (fun W => nudge_up s d fs fd hn0 W)
  rw [hres] at HNd
  have a1 : ∀ t w, (binOp .add t (.float .f64 x) (.float .f64 y)).run Try.prog w = .ok (.float .f64 s) w := fun t w => run_float_arith w .add t .f64 x y s e1
  have a2 : ∀ t' w, (binOp .sub t' (.float .f64 s) (.float .f64 x)).run Try.prog w = .ok (.float .f64 t) w := fun t' w => run_float_arith w .sub t' .f64 s x t e2
  have a3 : ∀ t' w, (binOp .sub t' (.float .f64 s) (.float .f64 t)).run Try.prog w = .ok (.float .f64 a) w := fun t' w => run_float_arith w .sub t' .f64 s t a e3
  have a4 : ∀ t' w, (binOp .sub t' (.float .f64 x) (.float .f64 a)).run Try.prog w = .ok (.float .f64 b) w := fun t' w => run_float_arith w .sub t' .f64 x a b e4
  have a5 : ∀ t' w, (binOp .sub t' (.float .f64 y) (.float .f64 t)).run Try.prog w = .ok (.float .f64 c) w := fun t' w => run_float_arith w .sub t' .f64 y t c e5
  have a6 : ∀ t' w, (binOp .add t' (.float .f64 b) (.float .f64 c)).run Try.prog w = .ok (.float .f64 d) w := fun t' w => run_float_arith w .add t' .f64 b c d e6
  have HO := Lib.hid (fun b W h0 h1 => odd_any b x y hx.1 hy.1 W h0 h1)
  have hox : (fodd x || fodd y) = false := by
    unfold fodd
    rw [decide_eq_false (by have := hx.2; unfold fabs; omega), decide_eq_false (by have := hy.2; unfold fabs; omega)]; rfl
  rw [hox] at HO
  have HA := Lib.hid (fun W => abs_any x hx.1 W)
  have HA2 := Lib.hid (fun W => abs_any y hy.1 W)
  have g1 := gt_great hx
  have g2 := gt_great hy
  rw [decide_eq_false (by omega)] at g1 g2
  obtain ⟨R, hR⟩ : ∃ R, upz (fv x + fv y) = R := ⟨_, rfl⟩
  rw [hR] at HNd ⊢
  obtain ⟨ax, hax⟩ : ∃ R, fabs x = R := ⟨_, rfl⟩
  obtain ⟨ay, hay⟩ : ∃ R, fabs y = R := ⟨_, rfl⟩
  simp only [hax, hay] at HA HA2 g1 g2
  have HB := Lib.hid (fun o => bnew w o)
  clear hR hax hay hox hn0 hres hsum v1 v2 fs ft fa fb fc fd e1 e2 e3 e4 e5 e6 bx by' he gx gy hx hy
  go_enter Try.func39, Try.ntmps39
  go_wp2
  go_step3
  go_wp2_with fail
  refine (HO.out _ _ (World.cell?_alloc_at _ _ _ 0 rfl) (World.cell?_alloc_at _ _ _ 1 rfl)).mono ?_
  rintro en w1 ⟨rfl, rfl⟩
  go_wp2_with fail
  refine (HA.out _).mono ?_
  rintro en w1 ⟨rfl, rfl⟩
  go_wp2_with fail
  refine (HA2.out _).mono ?_
  rintro en w1 ⟨rfl, rfl⟩
  go_wp2_with fail
  refine (HNd.out _).mono ?_
  rintro en w1 ⟨rfl, rfl⟩
  go_wp2
  rw [Exit.noGoto_ret]
  go_ret
  exact ⟨rfl, HB.out _⟩
end Go.Proofs.Ytmmbbkeefphaiaa

/- Layer 3: Ldexp of a whole significand; beyond. -/
namespace Go.Proofs.Ytmmbbkeefphaiaa
set_option linter.unusedVariables false
set_option linter.unusedSimpArgs false
open Go.RowKit Verge

theorem rngN_pat {r D : Nat} (hD : 0 < D) : rngN (FV r * D) D = r := by
  have := rngN_cut (FV r) 1 D hD
  rw [Nat.one_mul] at this
  rw [this, rngN_FV]
theorem mul_one_f {y : Nat} (h : y < 9218868437227405312) : Ieee.double.mul 4607182418800017408 y = some y := by
  obtain ⟨k, m, e, hm⟩ := read_num (x := y) (by omega) (by omega)
  unfold Ieee.Format.mul
  have e2 : Ieee.double.read 4607182418800017408 = .number false 4503599627370496 (-52) := rfl
  rw [e, e2]
  show some (Ieee.double.nearest (false ^^ decide (9223372036854775808 ≤ y)) (4503599627370496 * m) (-52 + (-1074 + (k : Int)))) = _
  rw [decide_eq_false (by omega), Bool.xor_false, nearest_any _ _ _ 52 (by omega)]
  rw [show (-52 + (-1074 + (k : Int)) + 1074 + ((52 : Nat) : Int)).toNat = k by omega, Nat.mul_assoc, hm, Nat.mul_comm]
  rw [show (4503599627370496 : Nat) = 2 ^ 52 by rfl, rngN_pat (Nat.two_pow_pos 52), Nat.mod_eq_of_lt (by omega), Nat.min_eq_left (by omega)]
  rfl
theorem int_pat {s : Nat} (h1 : 4503599627370496 ≤ s) (h2 : s ≤ 9007199254740992) : FloatKind.f64.nearest (s : Int) = 4836865999795912704 + s := by
  show Ieee.double.nearest (decide ((s : Int) < 0)) (s : Int).natAbs 0 = _
  rw [decide_eq_false (by omega), Int.natAbs_natCast, nearest_any _ _ _ 0 (by omega)]
  obtain ⟨K, hK⟩ : ∃ K : Nat, K = 1074 := ⟨_, rfl⟩
  rw [show ((0 : Int) + 1074 + ((0 : Nat) : Int)).toNat = K by omega]
  have hv : s * 2 ^ K = FV (4836865999795912704 + s) := by
    have h3 : 4836865999795912704 = K * 4503599627370496 := by omega
    rw [h3]
    by_cases c : s < 9007199254740992
    · exact (FV_scale K s h1 c).symm
    · rw [show s = 9007199254740992 by omega]; exact (FV_top K).symm
  rw [hv]
  have := rngN_FV (4836865999795912704 + s)
  rw [Nat.pow_zero, this, Nat.min_eq_left (by omega)]
  rfl

theorem norm_pat (F : Nat) (h : 4836865999795912704 ≤ F) (h2 : F ≤ 4845873199050653696) (w : World) : Calls Try.prog 142 #[.float .f64 F] w fun e w' => e = .returned (.tuple #[.float .f64 F, .int .i64 0]) ∧ w = w' := by
  have HA := Lib.hid (fun W => abs_any F (by omega) W)
  rw [show fabs F = F by unfold fabs; omega] at HA
  have o1 : (FloatKind.f64.format.order F 4503599627370496 == some .lt) = false := by
    refine (f_lt (by omega) (by omega)).trans (decide_eq_false ?_)
    rintro ⟨_, _, h⟩
    revert h; unfold FK; split <;> (try split) <;> omega
  clear h h2
  go_enter Try.func142, Try.ntmps142
  go_wp2_with fail
  refine (HA.out _).mono ?_
  rintro en w1 ⟨rfl, rfl⟩
  go_wp2
  go_ret2
  exact ⟨rfl, rfl⟩

set_option maxRecDepth 40000 in
set_option maxHeartbeats 1000000 in
theorem ldexp_walk (F Q j R : Nat) (x y : Int) (hF1 : 4836865999795912704 ≤ F) (hF2 : F ≤ 4845873199050653696) (hq : wrap64 ((F : Int) / 4503599627370496) = (Q : Int)) (ha : bits BinOp.and IntKind.i64 (Q : Int) 2047 = j)
    (hy : wrap64 (x + wrap64 ((j : Int) - 1023)) = y) (y1 : -1022 ≤ y) (y2 : y ≤ 1023) (hx : wrap64 x = x)
    (hz : bits BinOp.or IntKind.u64 (bits BinOp.andNot IntKind.u64 (F : Int) 9218868437227405312) ((y + 1023) * 4503599627370496) = (R : Int)) (hR : R < 9218868437227405312) (w : World) :
    Calls Try.prog 140 #[.float .f64 F, .int .i64 x] w fun e w' => e = .returned (.float .f64 R) ∧ w = w' := by
  have HI := Lib.hid (fun W => isinf_0 F (by omega) W)
  rw [decide_eq_false (by unfold fabs; omega)] at HI
  have HN := Lib.hid (fun W => isnan_any F (by omega) W)
  rw [decide_eq_false (by unfold fnan; omega)] at HN
  have HM := Lib.hid (fun W => norm_pat F (by omega) (by omega) W)
  have oz : (FloatKind.f64.format.order F 0 == some .eq) = false := (o_isz (by omega)).trans (decide_eq_false (by omega))
  have bF := bits_any F
  have bR := from_any (R : Int)
  rw [Int.toNat_natCast] at bR
  have hm : ∀ t w, (binOp .mul t (.float .f64 4607182418800017408) (.float .f64 R)).run Try.prog w = .ok (.float .f64 R) w := fun t w => run_float_arith w .mul t .f64 _ R R (mul_one_f hR)
  have y3 : decide (y < -1075) = false := decide_eq_false (by omega)
  have y4 : decide (1023 < y) = false := decide_eq_false (by omega)
  have y5 : decide (y < -1022) = false := decide_eq_false (by omega)
  clear hF1 hF2 hR
  go_enter Try.func140, Try.ntmps140
  go_wp2_with fail
  refine (HI.out _).mono ?_
  rintro en w1 ⟨rfl, rfl⟩
  go_wp2_with fail
  refine (HN.out _).mono ?_
  rintro en w1 ⟨rfl, rfl⟩
  go_wp2_with fail
  refine (HM.out _).mono ?_
  rintro en w1 ⟨rfl, rfl⟩
  go_wp2
  go_ret
  exact ⟨rfl, rfl⟩
set_option maxRecDepth 40000 in
set_option maxHeartbeats 1000000 in
theorem ldexp_great (F Q j : Nat) (x y : Int) (hF1 : 4836865999795912704 ≤ F) (hF2 : F ≤ 4845873199050653696) (hq : wrap64 ((F : Int) / 4503599627370496) = (Q : Int)) (ha : bits BinOp.and IntKind.i64 (Q : Int) 2047 = j)
    (hy : wrap64 (x + wrap64 ((j : Int) - 1023)) = y) (y2 : 1023 < y) (hx : wrap64 x = x) (w : World) :
    Calls Try.prog 140 #[.float .f64 F, .int .i64 x] w fun e w' => e = .returned (.float .f64 9218868437227405312) ∧ w = w' := by
  have HI := Lib.hid (fun W => isinf_0 F (by omega) W)
  rw [decide_eq_false (by unfold fabs; omega)] at HI
  have HN := Lib.hid (fun W => isnan_any F (by omega) W)
  rw [decide_eq_false (by unfold fnan; omega)] at HN
  have HM := Lib.hid (fun W => norm_pat F (by omega) (by omega) W)
  have HP := Lib.hid (fun W => infp_any W)
  have oz : (FloatKind.f64.format.order F 0 == some .eq) = false := (o_isz (by omega)).trans (decide_eq_false (by omega))
  have ol : (FloatKind.f64.format.order F 0 == some .lt) = false := by
    refine (f_lt (by omega) (by omega)).trans (decide_eq_false ?_)
    rintro ⟨_, _, h⟩
    revert h; unfold FK; split <;> (try split) <;> omega
  have bF := bits_any F
  have y3 : decide (y < -1075) = false := decide_eq_false (by omega)
  have y4 : decide (1023 < y) = true := decide_eq_true (by omega)
  clear hF1 hF2
  go_enter Try.func140, Try.ntmps140
  go_wp2_with fail
  refine (HI.out _).mono ?_
  rintro en w1 ⟨rfl, rfl⟩
  go_wp2_with fail
  refine (HN.out _).mono ?_
  rintro en w1 ⟨rfl, rfl⟩
  go_wp2_with fail
  refine (HM.out _).mono ?_
  rintro en w1 ⟨rfl, rfl⟩
  go_wp2_with fail
  refine (HP.out _).mono ?_
  rintro en w1 ⟨rfl, rfl⟩
  go_wp2
  go_ret
  exact ⟨rfl, rfl⟩

theorem and_frac (x : Nat) (hx : x < 9223372036854775808) : x &&& (18446744073709551615 - 9218868437227405312) = x % 4503599627370496 := by
  have h1 : (18446744073709551615 - 9218868437227405312 : Nat) = 2 ^ 63 ||| (2 ^ 52 - 1) := by rw [Go.nat_join 52 (2 ^ 63) (2 ^ 52 - 1) (by decide) (by decide)]
  rw [h1, Nat.and_or_distrib_left, Go.nat_bit, Nat.and_two_pow_sub_one_eq_mod]
  have h2 : x / 2 ^ 63 = 0 := Nat.div_eq_of_lt hx
  rw [h2]
  simp
theorem wrap64_self {x : Int} (h1 : -9223372036854775808 ≤ x) (h2 : x < 9223372036854775808) : wrap64 x = x := by
  unfold wrap64; omega
theorem ldexp_pat (k s : Nat) (h1 : 4503599627370496 ≤ s) (h2 : s ≤ 9007199254740992) (hk : k ≤ 2045) (w : World) :
    Calls Try.prog 131 #[.float .f64 (4836865999795912704 + s), .int .i64 ((k : Int) - 1074)] w fun e w' => e = .returned (.float .f64 (k * 4503599627370496 + s)) ∧ w = w' := by
  have hL : ∀ W, Calls Try.prog 140 #[.float .f64 (4836865999795912704 + s), .int .i64 ((k : Int) - 1074)] W fun e w' => e = .returned (.float .f64 (k * 4503599627370496 + s)) ∧ W = w' := by
    intro W
    have hz : ∀ (F t : Nat) (y : Int), F < 9223372036854775808 → y + 1023 = t → t ≤ 2046 → bits BinOp.or IntKind.u64 (bits BinOp.andNot IntKind.u64 (F : Int) 9218868437227405312) ((y + 1023) * 4503599627370496) = ((F % 4503599627370496 + t * 4503599627370496 : Nat) : Int) := by
      intro F t y hF hy ht
      have a1 := Go.u64_andNot_nat F 9218868437227405312 (by omega) (by omega)
      rw [and_frac F hF] at a1
      have a1' : bits BinOp.andNot IntKind.u64 (F : Int) 9218868437227405312 = ((F % 4503599627370496 : Nat) : Int) := a1
      rw [a1', hy]
      have a2 := Go.u64_or_nat (F % 4503599627370496) (t * 4503599627370496) (by omega) (by omega)
      have a3 : ((t : Int) * 4503599627370496) = ((t * 4503599627370496 : Nat) : Int) := by omega
      rw [a3, a2, Nat.or_comm, Go.nat_join 52 _ _ (Nat.mul_mod_left _ _) (Nat.mod_lt _ (by omega)), Nat.add_comm]
    by_cases c : s < 9007199254740992
    · have hr : k * 4503599627370496 + s = (4836865999795912704 + s) % 4503599627370496 + (k + 1) * 4503599627370496 := by omega
      rw [hr]
      exact ldexp_walk (4836865999795912704 + s) 1075 1075 _ ((k : Int) - 1074) ((k : Int) - 1022) (by omega) (by omega) (by rw [wrap64_self] <;> omega) (by decide)
        (by rw [wrap64_self (x := ((1075 : Nat) : Int) - 1023) (by omega) (by omega), wrap64_self] <;> omega) (by omega) (by omega) (wrap64_self (by omega) (by omega)) (hz _ (k + 1) _ (by omega) (by omega) (by omega)) (by omega) W
    · have hs : s = 9007199254740992 := by omega
      by_cases c2 : k = 2045
      · have hr : k * 4503599627370496 + s = 9218868437227405312 := by omega
        rw [hr]
        exact ldexp_great (4836865999795912704 + s) 1076 1076 ((k : Int) - 1074) ((k : Int) - 1021) (by omega) (by omega) (by rw [wrap64_self] <;> omega) (by decide)
          (by rw [wrap64_self (x := ((1076 : Nat) : Int) - 1023) (by omega) (by omega), wrap64_self] <;> omega) (by omega) (wrap64_self (by omega) (by omega)) W
      · have hr : k * 4503599627370496 + s = (4836865999795912704 + s) % 4503599627370496 + (k + 2) * 4503599627370496 := by omega
        rw [hr]
        exact ldexp_walk (4836865999795912704 + s) 1076 1076 _ ((k : Int) - 1074) ((k : Int) - 1021) (by omega) (by omega) (by rw [wrap64_self] <;> omega) (by decide)
          (by rw [wrap64_self (x := ((1076 : Nat) : Int) - 1023) (by omega) (by omega), wrap64_self] <;> omega) (by omega) (by omega) (wrap64_self (by omega) (by omega)) (hz _ (k + 2) _ (by omega) (by omega) (by omega)) (by omega) W
  obtain ⟨F, hF⟩ : ∃ F, 4836865999795912704 + s = F := ⟨_, rfl⟩
  obtain ⟨R, hR⟩ : ∃ F, k * 4503599627370496 + s = F := ⟨_, rfl⟩
  obtain ⟨x, hx⟩ : ∃ x : Int, (k : Int) - 1074 = x := ⟨_, rfl⟩
  rw [hF, hR, hx] at hL
  rw [hF, hR, hx]
  have HL := Lib.hid hL
  clear hL hF hR hx h1 h2 hk
  go_enter Try.func131, Try.ntmps131
  go_wp2_with fail
  refine (HL.out _).mono ?_
  rintro en w1 ⟨rfl, rfl⟩
  go_wp2
  go_ret
  exact ⟨rfl, rfl⟩

/-- What is answered upward in the place of something too great. -/
theorem beyond_up (s : Bool) (w : World) : Calls Try.prog 128 #[.int .i64 1, .bool s] w fun e w' => e = .returned (.float .f64 (if s then 18442240474082181119 else 9218868437227405312)) ∧ w = w' := by
  have HP := Lib.hid (fun W => infp_any W)
  have hn : ∀ W : World, (Op.unary .neg (.float .f64 9218868437227405311)).run Try.prog W = .ok (.float .f64 18442240474082181119) W := fun W => by
    have := run_neg_f 9218868437227405311 (by omega) W
    rw [this]; rfl
  cases s
  · simp only [Bool.false_eq_true, if_false]
    go_enter Try.func128, Try.ntmps128
    go_wp2_with fail
    refine (HP.out _).mono ?_
    rintro en w1 ⟨rfl, rfl⟩
    go_wp2
    go_ret
    exact ⟨rfl, rfl⟩
  · simp only [if_true]
    go_enter Try.func128, Try.ntmps128
    go_wp2_with fail
    refine (HP.out _).mono ?_
    rintro en w1 ⟨rfl, rfl⟩
    go_wp2
    go_ret
    exact ⟨rfl, rfl⟩
end Go.Proofs.Ytmmbbkeefphaiaa
