/- Law 8: the document's Mig; the law MeasMags. -/
import Derived.Test.YtmmbbkeefphaiaaEndC
namespace Go.Proofs.Ytmmbbkeefphaiaa
set_option linter.unusedVariables false
set_option linter.unusedSimpArgs false
open Go.RowKit Verge

theorem ecmp_low {p : Nat} (hp : p < 18446744073709551616) (np : ¬ fnan p) : ecmp (bI p) (bS p) (bN p) (bD p) 0 false 0 1 ≤ 0 ↔ FK p ≤ 0 := by
  unfold fnan at np
  unfold ecmp bI bS bN
  by_cases h1 : p = 9218868437227405312
  · subst h1; decide
  · by_cases h2 : p = 18442240474082181120
    · subst h2; decide
    · simp only [if_neg h1, if_neg h2, if_pos]
      unfold rcmp rsgn
      by_cases h0 : p % 9223372036854775808 = 0
      · have hn := (fbN_zero p).2 h0
        have : FK p = 0 := by unfold FK; split <;> omega
        simp [hn, this]
      · have hn : ¬ fbN p = 0 := fun h => h0 ((fbN_zero p).1 h)
        by_cases hs : 9223372036854775808 < p
        · have : FK p ≤ 0 := by unfold FK; rw [if_neg (by omega)]; omega
          simp [hn, hs, this]
        · have : ¬ FK p ≤ 0 := by unfold FK; rw [if_pos (by omega)]; omega
          simp [hn, hs, this]
theorem ecmp_high {p : Nat} (hp : p < 18446744073709551616) (np : ¬ fnan p) : ecmp 0 false 0 1 (bI p) (bS p) (bN p) (bD p) ≤ 0 ↔ 0 ≤ FK p := by
  unfold fnan at np
  unfold ecmp bI bS bN
  by_cases h1 : p = 9218868437227405312
  · subst h1; decide
  · by_cases h2 : p = 18442240474082181120
    · subst h2; decide
    · simp only [if_neg h1, if_neg h2, if_pos]
      unfold rcmp rsgn
      by_cases h0 : p % 9223372036854775808 = 0
      · have hn := (fbN_zero p).2 h0
        have : FK p = 0 := by unfold FK; split <;> omega
        simp [hn, this]
      · have hn : ¬ fbN p = 0 := fun h => h0 ((fbN_zero p).1 h)
        by_cases hs : 9223372036854775808 < p
        · have : ¬ 0 ≤ FK p := by unfold FK; rw [if_neg (by omega)]; omega
          simp [hn, hs, this]
        · have : 0 ≤ FK p := by unfold FK; rw [if_pos (by omega)]; omega
          simp [hn, hs, this]
theorem fholds_zero {x y : Nat} (hx : x < 18446744073709551616) (hy : y < 18446744073709551616) (hs : fsound x y = true) : fholds (flo x y) (fhi x y) false 0 1 = decide (FK (flo x y) ≤ 0 ∧ 0 ≤ FK (fhi x y)) := by
  obtain ⟨_, e1, e2⟩ := flo_flo hx hy hs
  unfold fholds
  rw [e1, e2, ← Bool.decide_and]
  refine decide_eq_decide.2 ?_
  rw [ecmp_low (flo_lt hx) fnan_flo, ecmp_high (fhi_lt hy) fnan_fhi]

set_option maxRecDepth 20000 in
set_option maxHeartbeats 4000000 in
theorem rmig_any (x y : Nat) (hx : x < 18446744073709551616) (hy : y < 18446744073709551616) (w : World) : Calls Try.prog 23 #[.agg #[.int .u64 (x : Int), .int .u64 (y : Int)]] w fun e w' => e = .returned (.int .u64 (fmig x y : Nat)) ∧ Below w.heap.size w w' := by
  have HR := Lib.hid (fun W => read6_any x y hx hy W)
  have HS1 := Lib.hid (fun W => size_any (flo x y) (flo_lt hx) W)
  have HS2 := Lib.hid (fun W => size_any (fhi x y) (fhi_lt hy) W)
  have HA := Lib.hid (fun W => above_any (fabs (flo x y)) (fabs (fhi x y)) (by unfold fabs; omega) (by unfold fabs; omega) W)
  have HB := Lib.hid (fun o => bnew w o)
  have HI := Lib.hid (fun W => rint_any 0 (by omega) W)
  unfold fmig
  by_cases hs : fsound x y = true
  · rw [if_pos hs]
    have hne : ¬ ((flo x y : Nat) : Int) = 9218868437227405312 := by have := flo_ne hx hs; omega
    have hab : fabove (fabs (flo x y)) (fabs (fhi x y)) = decide (fabs (fhi x y) < fabs (flo x y)) := by
      have l1 := fabs_le (fnan_flo (x := x) (y := y))
      have l2 := fabs_le (fnan_fhi (x := x) (y := y))
      unfold fabove
      refine decide_eq_decide.2 ?_
      rw [FK_small l1, FK_small l2]
      constructor
      · rintro ⟨_, _, h⟩; omega
      · intro h; exact ⟨small_nan l1, small_nan l2, by omega⟩
    rw [hab] at HA
    obtain ⟨hss, _, _⟩ := flo_flo hx hy hs
    have HH := Lib.hid (fun W A1 c1 A2 c2 (a1 : Rd W A1 (dig 0)) (a2 : Rd W A2 (dig 1)) => holds_any (flo x y) (fhi x y) (flo_lt hx) (fhi_lt hy) hss false A1 (dig 0).length c1 (dig 0) A2 (dig 1).length c2 (dig 1) W a1 rfl a2 rfl (by rw [dig_zero]; simp) (by rw [dig_one]; simp))
    simp only [val_dig, fholds_zero hx hy hs] at HH
    have hcond : (if FK (flo x y) ≤ 0 ∧ 0 ≤ FK (fhi x y) then 0 else min (fabs (flo x y)) (fabs (fhi x y))) = if decide (FK (flo x y) ≤ 0 ∧ 0 ≤ FK (fhi x y)) = true then 0 else min (fabs (flo x y)) (fabs (fhi x y)) := by simp only [decide_eq_true_eq]
    rw [hcond]
    obtain ⟨hz, hzd⟩ : ∃ b, decide (FK (flo x y) ≤ 0 ∧ 0 ≤ FK (fhi x y)) = b := ⟨_, rfl⟩
    simp only [hzd] at HH ⊢
    clear hab hs hss hcond hzd
    obtain ⟨p, hp⟩ : ∃ p, flo x y = p := ⟨_, rfl⟩
    obtain ⟨q, hq⟩ : ∃ q, fhi x y = q := ⟨_, rfl⟩
    simp only [hp, hq] at HR HS1 HS2 HA HH hne ⊢
    clear hp hq hx hy
    obtain ⟨a, ha⟩ : ∃ a, fabs p = a := ⟨_, rfl⟩
    obtain ⟨b, hb⟩ : ∃ b, fabs q = b := ⟨_, rfl⟩
    simp only [ha, hb] at HS1 HS2 HA ⊢
    clear ha hb
    obtain ⟨r, hr⟩ : ∃ r, (if hz = true then 0 else min a b) = r := ⟨_, rfl⟩
    rw [hr]
    have HMX := Lib.hid hr
    clear hr
    go_enter Try.func23, Try.ntmps23
    go_wp2_with fail
    refine (HR.out _).mono ?_
    rintro en w1 ⟨rfl, hb⟩
    have hb := Lib.hid (baft (HB.out _) hb)
    obtain ⟨c0, c1, f0, f1, hz⟩ := box1 (w := w1) (a := .int .u64 (p : Int)) (b := .int .u64 (q : Int)) (t := 24) (Below.refl _ _)
    have HV := Lib.hid (Below.refl (w1.alloc (.cells #[.int .u64 (p : Int), .int .u64 (q : Int)] 24)).heap.size (w1.alloc (.cells #[.int .u64 (p : Int), .int .u64 (q : Int)] 24)))
    have HB2 := Lib.hid (baft hb.out (bnew w1 (.cells #[.int .u64 (p : Int), .int .u64 (q : Int)] 24)))
    clear hb HB
    go_upto_region 2 with fail
    go_cut [8] from 6 to 24 (fun s wx => s = .bool false ∧ Below (w1.alloc (.cells #[.int .u64 (p : Int), .int .u64 (q : Int)] 24)).heap.size (w1.alloc (.cells #[.int .u64 (p : Int), .int .u64 (q : Int)] 24)) wx)
    case first =>
      go_region_with (go_at_call 25; refine (empty6_any _).mono ?_; rintro en w2 ⟨rfl, hb2⟩; have hb2 := baft HV.out ⟨hb2.os, hb2.tape, hb2.output, hb2.size, hb2.block⟩; obtain ⟨d0, d1, g0, g1, hz2⟩ := box1 hb2; have HE := Lib.hid hb2; clear hb2)
      all_goals
        go_wp2
        go_meet
        exact ⟨rfl, ⟨HE.out.os, HE.out.tape, HE.out.output, HE.out.size, HE.out.block⟩⟩
    case rest =>
      obtain ⟨rfl, hbc⟩ := hcut
      obtain ⟨d0, d1, g0, g1, hz2⟩ := box1 hbc
      have HW := Lib.hid (baft HB2.out hbc)
      have HX := Lib.hid hbc
      clear hbc c0 c1 f0 f1 hz
      go_upto_region 4 with fail
      go_cut [11] from 9 to 24 (fun s wx => s = .bool hz ∧ Below wc.heap.size wc wx)
      case first =>
        go_region_with (first
          | (go_at_call 49; refine (HI.out _).mono ?_; rintro en w2 ⟨A1, c1, A2, c2, rfl, hR1, hR2, hb⟩; have hb : Below wc.heap.size wc w2 := ⟨hb.os, hb.tape, hb.output, hb.size, hb.block⟩; have HR1 := Lib.hid hR1; have HR2 := Lib.hid hR2; obtain ⟨h0, h1, h2, h3, h4⟩ := box1 (baft HX.out hb); have HE := Lib.hid hb; clear hb hR1 hR2)
          | (go_at_call 27; refine (HH.out _ A1 c1 A2 c2 (by exact HR1.out) (by exact HR2.out)).mono ?_; rintro en w3 ⟨rfl, hb⟩; have HE := Lib.hid (baft HE.out ⟨hb.os, hb.tape, hb.output, hb.size, hb.block⟩); clear hb))
        all_goals
          go_wp2
          go_meet
          exact ⟨rfl, ⟨HE.out.os, HE.out.tape, HE.out.output, HE.out.size, HE.out.block⟩⟩
      case rest =>
        obtain ⟨rfl, hbd⟩ := hcut
        obtain ⟨h0, h1, h2, h3, h4⟩ := box1 (baft HX.out hbd)
        have HW2 := Lib.hid (baft HW.out hbd)
        clear hbd d0 d1 g0 g1 hz2
        rcases hz with _ | _
        · rw [if_neg (by simp)] at HMX
          go_upto_region 6 with fail
          go_cut [18] from 12 to 24 (fun s wx => s = .bool (decide (b < a)) ∧ ∃ k, wc.drewN k = wx)
          case first =>
            go_quiet ((first
              | (go_at_call 59; with_reducible exact quiet_left (HS1.out _))
              | (go_at_call 59; with_reducible exact quiet_left (HS2.out _))
              | (go_at_call 58; with_reducible exact quiet_left (HA.out _))))
            go_wp2
            go_meet
            exact ⟨rfl, _, rfl⟩
          case rest =>
            obtain ⟨rfl, k, rfl⟩ := hcut
            by_cases hlt : b < a
            · have hra : b = r := by rw [← HMX.out, Nat.min_eq_right (by omega)]
              rw [decide_eq_true hlt]
              clear hlt
              go_wp2_with fail
              refine (HS2.out _).mono ?_
              rintro en w3 ⟨rfl, rfl⟩
              go_wp2
              go_ret
              exact ⟨by rw [← hra]; rfl, below_drewN HW2.out k⟩
            · have hra : a = r := by rw [← HMX.out, Nat.min_eq_left (by omega)]
              rw [decide_eq_false hlt]
              clear hlt
              go_wp2_with fail
              refine (HS1.out _).mono ?_
              rintro en w3 ⟨rfl, rfl⟩
              go_wp2
              go_ret
              exact ⟨by rw [← hra]; rfl, below_drewN HW2.out k⟩
        · rw [if_pos rfl] at HMX
          go_wp2
          go_ret
          exact ⟨by rw [← HMX.out]; rfl, HW2.out⟩
  · rw [if_neg hs]
    have e1 : flo x y = 9218868437227405312 := by rw [flo, if_neg hs]
    have e2 : fhi x y = 18442240474082181120 := by rw [fhi, if_neg hs]
    simp only [e1, e2] at HR
    have HR : Hid (∀ W, Calls Try.prog 24 #[.agg #[.int .u64 (x : Int), .int .u64 (y : Int)]] W fun e w' => e = .returned (.agg #[.int .u64 9218868437227405312, .int .u64 18442240474082181120]) ∧ Below W.heap.size W w') := Lib.hid HR.out
    clear e1 e2 hs HS1 HS2 HA hx hy
    go_enter Try.func23, Try.ntmps23
    go_wp2_with fail
    refine (HR.out _).mono ?_
    rintro en w1 ⟨rfl, hb⟩
    have hb := Lib.hid (baft (HB.out _) hb)
    obtain ⟨c0, c1, f0, f1, hz⟩ := box1 (w := w1) (a := .int .u64 9218868437227405312) (b := .int .u64 18442240474082181120) (t := 24) (Below.refl _ _)
    have HV := Lib.hid (Below.refl (w1.alloc (.cells #[.int .u64 9218868437227405312, .int .u64 18442240474082181120] 24)).heap.size (w1.alloc (.cells #[.int .u64 9218868437227405312, .int .u64 18442240474082181120] 24)))
    have HB2 := Lib.hid (baft hb.out (bnew w1 (.cells #[.int .u64 9218868437227405312, .int .u64 18442240474082181120] 24)))
    clear hb HB
    go_upto_region 2 with fail
    go_cut [8] from 6 to 24 (fun s wx => s = .bool true ∧ Below (w1.alloc (.cells #[.int .u64 9218868437227405312, .int .u64 18442240474082181120] 24)).heap.size (w1.alloc (.cells #[.int .u64 9218868437227405312, .int .u64 18442240474082181120] 24)) wx)
    case first =>
      go_region_with (go_at_call 25; refine (empty6_any _).mono ?_; rintro en w2 ⟨rfl, hb2⟩; have hb2 := baft HV.out ⟨hb2.os, hb2.tape, hb2.output, hb2.size, hb2.block⟩; obtain ⟨d0, d1, g0, g1, hz2⟩ := box1 hb2; have HE := Lib.hid hb2; clear hb2)
      all_goals
        go_wp2
        go_meet
        exact ⟨rfl, ⟨HE.out.os, HE.out.tape, HE.out.output, HE.out.size, HE.out.block⟩⟩
    case rest =>
      obtain ⟨rfl, hbc⟩ := hcut
      have HW := Lib.hid (baft HB2.out hbc)
      clear hbc c0 c1 f0 f1 hz
      go_wp2
      go_ret
      exact ⟨rfl, HW.out⟩
end Go.Proofs.Ytmmbbkeefphaiaa
