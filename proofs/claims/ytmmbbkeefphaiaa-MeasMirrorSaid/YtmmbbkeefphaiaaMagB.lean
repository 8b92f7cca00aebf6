/- Law 8: the document's Mag. -/
import Derived.Test.YtmmbbkeefphaiaaMagA
namespace Go.Proofs.Ytmmbbkeefphaiaa
set_option linter.unusedVariables false
set_option linter.unusedSimpArgs false
open Go.RowKit Verge

theorem size_any (x : Nat) (hx : x < 18446744073709551616) (w : World) : Calls Try.prog 59 #[.int .u64 (x : Int)] w fun e w' => e = .returned (.int .u64 (fabs x : Nat)) ∧ w = w' := by
  have hb : bits .andNot .u64 (x : Int) 9223372036854775808 = ((fabs x : Nat) : Int) := by
    have := Go.u64_andNot_nat x 9223372036854775808 hx (by omega)
    rw [andNot_sign x hx] at this
    exact this
  obtain ⟨a, ha⟩ : ∃ a, fabs x = a := ⟨_, rfl⟩
  rw [ha] at hb ⊢
  clear ha
  go_enter Try.func59, Try.ntmps59
  go_wp2
  go_ret
  exact ⟨rfl, rfl⟩
theorem flo_ne {x y : Nat} (hx : x < 18446744073709551616) (hs : fsound x y = true) : flo x y ≠ 9218868437227405312 := by
  have h := of_decide_eq_true hs
  intro e
  have h2 : FK (flo x y) = FK x := by rw [flo, if_pos hs, FK_fz hx]
  rw [e] at h2
  have h3 : FK 9218868437227405312 = 9218868437227405312 := by decide
  rw [h3] at h2
  omega

set_option maxRecDepth 20000 in
set_option maxHeartbeats 4000000 in
theorem rmag_any (x y : Nat) (hx : x < 18446744073709551616) (hy : y < 18446744073709551616) (w : World) : Calls Try.prog 21 #[.agg #[.int .u64 (x : Int), .int .u64 (y : Int)]] w fun e w' => e = .returned (.int .u64 (fmag x y : Nat)) ∧ Below w.heap.size w w' := by
  have HR := Lib.hid (fun W => read6_any x y hx hy W)
  have HS1 := Lib.hid (fun W => size_any (flo x y) (flo_lt hx) W)
  have HS2 := Lib.hid (fun W => size_any (fhi x y) (fhi_lt hy) W)
  have HA := Lib.hid (fun W => above_any (fabs (flo x y)) (fabs (fhi x y)) (by unfold fabs; omega) (by unfold fabs; omega) W)
  have HB := Lib.hid (fun o => bnew w o)
  unfold fmag
  by_cases hs : fsound x y = true
  · rw [if_pos hs]
    have hne : ¬ ((flo x y : Nat) : Int) = 9218868437227405312 := by have := flo_ne hx hs; omega
    have hab : fabove (fabs (flo x y)) (fabs (fhi x y)) = decide (fabs (fhi x y) < fabs (flo x y)) := by
      have l1 := fabs_le (fnan_flo (x := x) (y := y))
      have l2 := fabs_le (fnan_fhi (x := x) (y := y))
      unfold fabove
      refine decide_eq_decide.2 ?_
      rw [FK_small l1, FK_small l2]
      constructor
      · rintro ⟨_, _, h⟩; omega
      · intro h; exact ⟨small_nan l1, small_nan l2, by omega⟩
    rw [hab] at HA
    clear hab hs
    obtain ⟨p, hp⟩ : ∃ p, flo x y = p := ⟨_, rfl⟩
    obtain ⟨q, hq⟩ : ∃ q, fhi x y = q := ⟨_, rfl⟩
    simp only [hp, hq] at HR HS1 HS2 HA hne ⊢
    clear hp hq hx hy
    obtain ⟨a, ha⟩ : ∃ a, fabs p = a := ⟨_, rfl⟩
    obtain ⟨b, hb⟩ : ∃ b, fabs q = b := ⟨_, rfl⟩
    simp only [ha, hb] at HS1 HS2 HA ⊢
    clear ha hb
    obtain ⟨r, hr⟩ : ∃ r, max a b = r := ⟨_, rfl⟩
    rw [hr]
    have HMX := Lib.hid hr
    clear hr
    go_enter Try.func21, Try.ntmps21
    go_wp2_with fail
    refine (HR.out _).mono ?_
    rintro en w1 ⟨rfl, hb⟩
    have hb := Lib.hid (baft (HB.out _) hb)
    obtain ⟨c0, c1, f0, f1, hz⟩ := box1 (w := w1) (a := .int .u64 (p : Int)) (b := .int .u64 (q : Int)) (t := 24) (Below.refl _ _)
    have HV := Lib.hid (Below.refl (w1.alloc (.cells #[.int .u64 (p : Int), .int .u64 (q : Int)] 24)).heap.size (w1.alloc (.cells #[.int .u64 (p : Int), .int .u64 (q : Int)] 24)))
    have HB2 := Lib.hid (baft hb.out (bnew w1 (.cells #[.int .u64 (p : Int), .int .u64 (q : Int)] 24)))
    clear hb HB
    go_upto_region 2 with fail
    go_cut [8] from 6 to 21 (fun s wx => s = .bool false ∧ Below (w1.alloc (.cells #[.int .u64 (p : Int), .int .u64 (q : Int)] 24)).heap.size (w1.alloc (.cells #[.int .u64 (p : Int), .int .u64 (q : Int)] 24)) wx)
    case first =>
      go_region_with (go_at_call 25; refine (empty6_any _).mono ?_; rintro en w2 ⟨rfl, hb2⟩; have hb2 := baft HV.out ⟨hb2.os, hb2.tape, hb2.output, hb2.size, hb2.block⟩; obtain ⟨d0, d1, g0, g1, hz2⟩ := box1 hb2; have HE := Lib.hid hb2; clear hb2)
      all_goals
        go_wp2
        go_meet
        exact ⟨rfl, ⟨HE.out.os, HE.out.tape, HE.out.output, HE.out.size, HE.out.block⟩⟩
    case rest =>
      obtain ⟨rfl, hbc⟩ := hcut
      obtain ⟨d0, d1, g0, g1, hz2⟩ := box1 hbc
      have HW := Lib.hid (baft HB2.out hbc)
      clear hbc c0 c1 f0 f1 hz
      go_upto_region 4 with fail
      go_cut [15] from 9 to 21 (fun s wx => s = .bool (decide (b < a)) ∧ ∃ k, wc.drewN k = wx)
      case first =>
        go_quiet ((first
          | (go_at_call 59; with_reducible exact quiet_left (HS1.out _))
          | (go_at_call 59; with_reducible exact quiet_left (HS2.out _))
          | (go_at_call 58; with_reducible exact quiet_left (HA.out _))))
        go_wp2
        go_meet
        exact ⟨rfl, _, rfl⟩
      case rest =>
        obtain ⟨rfl, k, rfl⟩ := hcut
        by_cases hlt : b < a
        · have hra : a = r := by rw [← HMX.out, Nat.max_eq_left (by omega)]
          rw [decide_eq_true hlt]
          clear hlt
          go_wp2_with fail
          refine (HS1.out _).mono ?_
          rintro en w3 ⟨rfl, rfl⟩
          go_wp2
          go_ret
          exact ⟨by rw [← hra]; rfl, below_drewN HW.out k⟩
        · have hra : b = r := by rw [← HMX.out, Nat.max_eq_right (by omega)]
          rw [decide_eq_false hlt]
          clear hlt
          go_wp2_with fail
          refine (HS2.out _).mono ?_
          rintro en w3 ⟨rfl, rfl⟩
          go_wp2
          go_ret
          exact ⟨by rw [← hra]; rfl, below_drewN HW.out k⟩
  · rw [if_neg hs]
    have e1 : flo x y = 9218868437227405312 := by rw [flo, if_neg hs]
    have e2 : fhi x y = 18442240474082181120 := by rw [fhi, if_neg hs]
    simp only [e1, e2] at HR
    have HR : Hid (∀ W, Calls Try.prog 24 #[.agg #[.int .u64 (x : Int), .int .u64 (y : Int)]] W fun e w' => e = .returned (.agg #[.int .u64 9218868437227405312, .int .u64 18442240474082181120]) ∧ Below W.heap.size W w') := Lib.hid HR.out
    clear e1 e2 hs HS1 HS2 HA hx hy
    go_enter Try.func21, Try.ntmps21
    go_wp2_with fail
    refine (HR.out _).mono ?_
    rintro en w1 ⟨rfl, hb⟩
    have hb := Lib.hid (baft (HB.out _) hb)
    obtain ⟨c0, c1, f0, f1, hz⟩ := box1 (w := w1) (a := .int .u64 9218868437227405312) (b := .int .u64 18442240474082181120) (t := 24) (Below.refl _ _)
    have HV := Lib.hid (Below.refl (w1.alloc (.cells #[.int .u64 9218868437227405312, .int .u64 18442240474082181120] 24)).heap.size (w1.alloc (.cells #[.int .u64 9218868437227405312, .int .u64 18442240474082181120] 24)))
    have HB2 := Lib.hid (baft hb.out (bnew w1 (.cells #[.int .u64 9218868437227405312, .int .u64 18442240474082181120] 24)))
    clear hb HB
    go_upto_region 2 with fail
    go_cut [8] from 6 to 21 (fun s wx => s = .bool true ∧ Below (w1.alloc (.cells #[.int .u64 9218868437227405312, .int .u64 18442240474082181120] 24)).heap.size (w1.alloc (.cells #[.int .u64 9218868437227405312, .int .u64 18442240474082181120] 24)) wx)
    case first =>
      go_region_with (go_at_call 25; refine (empty6_any _).mono ?_; rintro en w2 ⟨rfl, hb2⟩; have hb2 := baft HV.out ⟨hb2.os, hb2.tape, hb2.output, hb2.size, hb2.block⟩; obtain ⟨d0, d1, g0, g1, hz2⟩ := box1 hb2; have HE := Lib.hid hb2; clear hb2)
      all_goals
        go_wp2
        go_meet
        exact ⟨rfl, ⟨HE.out.os, HE.out.tape, HE.out.output, HE.out.size, HE.out.block⟩⟩
    case rest =>
      obtain ⟨rfl, hbc⟩ := hcut
      have HW := Lib.hid (baft HB2.out hbc)
      clear hbc c0 c1 f0 f1 hz
      go_wp2
      go_ret
      exact ⟨rfl, HW.out⟩
end Go.Proofs.Ytmmbbkeefphaiaa
