/- Vergeref3: made, infinite, greatest: a pattern out of its parts. -/
import Derived.Test.YtmmbbkeefphaiaaRatD
namespace Go.Proofs.Ytmmbbkeefphaiaa
set_option linter.unusedVariables false
set_option linter.unusedSimpArgs false
open Go.RowKit Verge

theorem or_top (x : Nat) (hx : x < 9223372036854775808) : Go.bits .or .u64 (x : Int) 9223372036854775808 = ((x + 9223372036854775808 : Nat) : Int) := by
  have := or_u64 x 9223372036854775808 63 hx (by decide) (by omega)
  exact this
theorem and_low (x : Nat) (hx : x < 18446744073709551616) : Go.bits .and .u64 (x : Int) 1 = ((x % 2 : Nat) : Int) := by
  have e : Go.bits .and .u64 (x : Int) ((1 : Nat) : Int) = ((x &&& 1 : Nat) : Int) := Go.u64_and_nat x 1 hx (by omega)
  rw [Nat.and_one_is_mod] at e
  exact e
theorem fpat_pos {s : Bool} {g : Nat} (h : 0 < g) : fpat s g = if s then g + 9223372036854775808 else g := by unfold fpat; rw [if_neg (by omega)]; split <;> omega

theorem inf_any (s : Bool) (w : World) : Calls Try.prog 113 #[.bool s] w fun e w' => e = .returned (.int .u64 (fpat s 9218868437227405312 : Nat)) ∧ w = w' := by
  cases s
  · go_enter Try.func113, Try.ntmps113
    go_wp2
    go_ret
    exact ⟨rfl, rfl⟩
  · go_enter Try.func113, Try.ntmps113
    go_wp2
    go_ret
    exact ⟨rfl, rfl⟩

section
set_option maxRecDepth 20000
set_option maxHeartbeats 2000000
theorem made_zero (s : Bool) (eI : Int) (w : World) : Calls Try.prog 117 #[.bool s, .int .u64 0, .int .i64 eI] w fun e w' => e = .returned (.int .u64 0) ∧ w = w' := by
  go_enter Try.func117, Try.ntmps117
  go_wp2
  go_ret
  exact ⟨rfl, rfl⟩
theorem made_low  (s : Bool) (g : Nat) (h0 : 0 < g) (h1 : g < 4503599627370496) (w : World) : Calls Try.prog 117 #[.bool s, .int .u64 (g : Int), .int .i64 (-1074)] w fun e w' => e = .returned (.int .u64 (fpat s g : Nat)) ∧ w = w' := by
  have ha := and_low g (by omega)
  have hb : ((g % 2 : Nat) : Int) = 0 ∨ ((g % 2 : Nat) : Int) = 1 := by omega
  have hor := or_top g (by omega)
  rw [fpat_pos h0]
  have hz : ((g : Int) == 0) = false := by simp; omega
  have d1 : decide ((9007199254740992 : Int) ≤ (g : Int)) = false := by simp; omega
  have d2 : decide ((g : Int) < 4503599627370496) = true := by simp; omega
  have d3 : decide ((4503599627370496 : Int) ≤ (g : Int)) = false := by simp; omega
  clear h0 h1
  rcases hb with hb | hb <;> rw [hb] at ha <;> cases s <;> (
    go_enter Try.func117, Try.ntmps117
    (generalize (9007199254740992 : Int) = C at d1 ⊢)
    (generalize hD : (4503599627370496 : Int) = D at d2 d3 ⊢)
    go_wp2
    go_loop [1, 2] (fun v e => v = .int .u64 (g : Int) ∧ e = .int .i64 (-1074)) (fun _ _ => 0)
    case atStart => exact ⟨rfl, rfl⟩
    case round =>
      obtain ⟨rfl, rfl⟩ := hrel
      go_wp2
      go_loop [1, 2] (fun v e => v = .int .u64 (g : Int) ∧ e = .int .i64 (-1074)) (fun _ _ => 0)
      case atStart => exact ⟨rfl, rfl⟩
      case round =>
        obtain ⟨rfl, rfl⟩ := hrel
        go_wp2
        go_ret
        exact ⟨rfl, rfl⟩)
theorem made_mid (k : Nat) (eI : Int) (hk : k ≤ 2045) (he : eI = (k : Int) - 1074) (s : Bool) (g : Nat) (h1 : 4503599627370496 ≤ g) (h2 : g < 9007199254740992) (w : World) : Calls Try.prog 117 #[.bool s, .int .u64 (g : Int), .int .i64 eI] w fun e w' => e = .returned (.int .u64 (fpat s (k * 4503599627370496 + g) : Nat)) ∧ w = w' := by
  have ha := and_low g (by omega)
  have hb : ((g % 2 : Nat) : Int) = 0 ∨ ((g % 2 : Nat) : Int) = 1 := by omega
  obtain ⟨R, hR⟩ : ∃ R, k * 4503599627370496 + g = R := ⟨_, rfl⟩
  rw [hR, fpat_pos (by omega)]
  have hor := or_top R (by omega)
  have e1 : ∀ D : Int, 4503599627370496 = D → IntKind.u64.wrap (IntKind.u64.wrap ((g : Int) - D) + IntKind.u64.wrap (IntKind.u64.wrap (wrap64 (eI + 1075)) * 4503599627370496)) = (R : Int) := by
    rintro D rfl
    simp only [IntKind.wrap_u64, wrap64]
    omega
  have hz : ((g : Int) == 0) = false := by simp; omega
  have d1 : decide ((9007199254740992 : Int) ≤ (g : Int)) = false := by simp; omega
  have d2 : decide ((g : Int) < 4503599627370496) = false := by simp; omega
  have d3 : decide ((4503599627370496 : Int) ≤ (g : Int)) = true := by simp; omega
  have c3 : -1074 ≤ eI := by omega
  have HK := Lib.hid hk
  have HE := Lib.hid he
  clear hk he h1 h2
  rcases hb with hb | hb <;> rw [hb] at ha <;> cases s <;> (
    go_enter Try.func117, Try.ntmps117
    (generalize (9007199254740992 : Int) = C at d1 ⊢)
    (generalize hD : (4503599627370496 : Int) = D at d2 d3 ⊢)
    have e1 := e1 D hD
    clear hD
    go_wp2
    go_loop [1, 2] (fun v e => v = .int .u64 (g : Int) ∧ e = .int .i64 eI) (fun _ _ => 0)
    case atStart => exact ⟨rfl, rfl⟩
    case round =>
      obtain ⟨rfl, rfl⟩ := hrel
      go_wp2
      go_loop [1, 2] (fun v e => v = .int .u64 (g : Int) ∧ e = .int .i64 eI) (fun _ _ => 0)
      case atStart => exact ⟨rfl, rfl⟩
      case round =>
        obtain ⟨rfl, rfl⟩ := hrel
        go_wp2
        go_ret
        exact ⟨rfl, rfl⟩)
theorem made_top (k : Nat) (eI : Int) (hk : k ≤ 2045) (he : eI = (k : Int) - 1074) (s : Bool) (w : World) : Calls Try.prog 117 #[.bool s, .int .u64 9007199254740992, .int .i64 eI] w fun e w' => e = .returned (.int .u64 (fpat s (k * 4503599627370496 + 9007199254740992) : Nat)) ∧ w = w' := by
  obtain ⟨R, hR⟩ : ∃ R, k * 4503599627370496 + 9007199254740992 = R := ⟨_, rfl⟩
  rw [hR, fpat_pos (by omega)]
  have hor := or_top R (by omega)
  obtain ⟨fI, hf⟩ : ∃ fI, eI + 1 = fI := ⟨_, rfl⟩
  have hw : wrap64 fI = fI := by simp only [wrap64]; omega
  have e1 : IntKind.u64.wrap (IntKind.u64.wrap (IntKind.u64.wrap (wrap64 (fI + 1075)) * 4503599627370496)) = (R : Int) := by
    simp only [IntKind.wrap_u64, wrap64]
    omega
  have c3 : -1074 ≤ eI := by omega
  have c4 : -1074 ≤ fI := by omega
  have c5 : decide (eI < -1074) = false := by simp; omega
  have c6 : decide (fI < -1074) = false := by simp; omega
  have HK := Lib.hid hk
  have HE := Lib.hid he
  have HR := Lib.hid hR
  clear hk he hR
  cases s <;> (
    go_enter Try.func117, Try.ntmps117
    go_wp2
    go_loop [1, 2] (fun v e => (v = .int .u64 9007199254740992 ∧ e = .int .i64 eI) ∨ (v = .int .u64 4503599627370496 ∧ e = .int .i64 fI)) (fun v _ => (intOf v).toNat)
    case atStart => exact .inl ⟨rfl, rfl⟩
    case round =>
      rcases hrel with ⟨rfl, rfl⟩ | ⟨rfl, rfl⟩
      · go_wp2
        go_round
        case rel => exact .inr ⟨rfl, by rw [hw]⟩
        case measure => simp [intOf]
      · have ha : Go.bits .and .u64 4503599627370496 1 = 0 := by decide
        go_wp2
        go_loop [1, 2] (fun v e => v = .int .u64 4503599627370496 ∧ e = .int .i64 fI) (fun _ _ => 0)
        case atStart => exact ⟨rfl, rfl⟩
        case round =>
          obtain ⟨rfl, rfl⟩ := hrel
          go_wp2
          go_ret
          exact ⟨rfl, rfl⟩)
/-- A pattern out of a rung's parts. -/
theorem made_any (k g : Nat) (eI : Int) (hk : k ≤ 2045) (he : eI = (k : Int) - 1074) (hg : g ≤ 9007199254740992) (h0 : g < 4503599627370496 → k = 0) (s : Bool) (w : World) : Calls Try.prog 117 #[.bool s, .int .u64 (g : Int), .int .i64 eI] w fun e w' => e = .returned (.int .u64 (fpat s (k * 4503599627370496 + g) : Nat)) ∧ w = w' := by
  by_cases hz : g = 0
  · subst hz
    rw [show k * 4503599627370496 + 0 = 0 by rw [h0 (by omega)]]
    exact made_zero s eI w
  by_cases hl : g < 4503599627370496
  · obtain rfl := h0 hl
    obtain rfl : eI = -1074 := by omega
    rw [Nat.zero_mul, Nat.zero_add]
    exact made_low s g (by omega) hl w
  by_cases hm : g < 9007199254740992
  · exact made_mid k eI hk he s g (by omega) hm w
  · obtain rfl : g = 9007199254740992 := by omega
    exact made_top k eI hk he s w
theorem great_any (s : Bool) (w : World) : Calls Try.prog 114 #[.bool s, .int .i64 53, .int .i64 1023] w fun e w' => e = .returned (.int .u64 (fpat s 9218868437227405311 : Nat)) ∧ w = w' := by
  have h := Lib.hid (fun W => made_any 2045 9007199254740991 971 (by omega) (by omega) (by omega) (by omega) s W)
  go_enter Try.func114, Try.ntmps114
  go_wp2_with fail
  refine (h.out _).mono ?_
  rintro e w1 ⟨rfl, rfl⟩
  go_wp2
  go_ret
  exact ⟨rfl, rfl⟩
end
end Go.Proofs.Ytmmbbkeefphaiaa
