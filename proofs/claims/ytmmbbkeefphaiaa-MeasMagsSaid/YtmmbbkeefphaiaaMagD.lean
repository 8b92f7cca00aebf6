/- The law MeasMags: the walk. -/
import Derived.Test.YtmmbbkeefphaiaaMagC
namespace Go.Proofs.Ytmmbbkeefphaiaa
set_option linter.unusedVariables false
set_option linter.unusedSimpArgs false
open Go.RowKit Verge

theorem isb_any (b : Nat) (hb : b < 18446744073709551616) (w : World) : Calls Try.prog 14 #[.float .f64 b, .int .u64 (b : Int)] w fun e w' => e = .returned (.bool true) ∧ w = w' := by
  have := is_any b b hb hb w
  by_cases nb : fnan b
  · rw [if_pos nb, decide_eq_true nb] at this; exact this
  · rw [if_neg nb, decide_eq_true rfl] at this; exact this
theorem fabs_lt (x : Nat) : fabs x < 9223372036854775808 := by unfold fabs; omega
theorem fmag_lt (x y : Nat) : fmag x y < 18446744073709551616 := by
  have := fabs_lt (flo x y); have := fabs_lt (fhi x y)
  unfold fmag; split <;> omega
theorem fmig_lt (x y : Nat) : fmig x y < 18446744073709551616 := by
  have := fabs_lt (flo x y); have := fabs_lt (fhi x y)
  unfold fmig; split
  · split <;> omega
  · omega

set_option maxRecDepth 100000 in
set_option maxHeartbeats 4000000 in
theorem mags_any (x y : Nat) (hx : x < 18446744073709551616) (hy : y < 18446744073709551616) (w : World) : Calls Try.prog 4 #[.agg #[.int .u64 (x : Int), .int .u64 (y : Int)]] w fun e w' => e = .returned (.bool true) ∧ Below w.heap.size w w' := by
  have HI := Lib.hid (fun W => in_any x y hx hy W)
  have M1 := Lib.hid (fun W => mag_any x y hx hy W)
  have M2 := Lib.hid (fun W => mig_any x y hx hy W)
  have R1 := Lib.hid (fun W => rmag_any x y hx hy W)
  have R2 := Lib.hid (fun W => rmig_any x y hx hy W)
  have S1 := Lib.hid (fun W => isb_any (fmag x y) (fmag_lt x y) W)
  have S2 := Lib.hid (fun W => isb_any (fmig x y) (fmig_lt x y) W)
  have HB := Lib.hid (fun o => bnew w o)
  obtain ⟨p, hp⟩ : ∃ p, fmag x y = p := ⟨_, rfl⟩
  obtain ⟨q, hq⟩ : ∃ q, fmig x y = q := ⟨_, rfl⟩
  simp only [hp, hq] at M1 M2 R1 R2 S1 S2
  clear hp hq hx hy
  obtain ⟨c0, c1, f0, f1, hz⟩ := box1 (w := w) (a := .int .u64 (x : Int)) (b := .int .u64 (y : Int)) (t := 24) (Below.refl _ _)
  go_enter Try.func4, Try.ntmps4
  have HC : Hid (Below (w.alloc (.cells #[.int .u64 (x : Int), .int .u64 (y : Int)] 24)).heap.size (w.alloc (.cells #[.int .u64 (x : Int), .int .u64 (y : Int)] 24)) (w.alloc (.cells #[.int .u64 (x : Int), .int .u64 (y : Int)] 24))) := Lib.hid (Below.refl _ _)
  go_wp2_with fail
  go_region_with (first
    | (go_at_call 16; refine (HI.out _).mono ?_; rintro en w' ⟨rfl, hb⟩; have HC := Lib.hid (baft HC.out ⟨hb.os, hb.tape, hb.output, hb.size, hb.block⟩); obtain ⟨c0, c1, f0, f1, hz⟩ := box1 HC.out; clear hb)
    | (go_at_call 20; refine (M1.out _).mono ?_; rintro en w' ⟨rfl, hb⟩; have HC := Lib.hid (baft HC.out ⟨hb.os, hb.tape, hb.output, hb.size, hb.block⟩); obtain ⟨c0, c1, f0, f1, hz⟩ := box1 HC.out; clear hb)
    | (go_at_call 22; refine (M2.out _).mono ?_; rintro en w' ⟨rfl, hb⟩; have HC := Lib.hid (baft HC.out ⟨hb.os, hb.tape, hb.output, hb.size, hb.block⟩); obtain ⟨c0, c1, f0, f1, hz⟩ := box1 HC.out; clear hb)
    | (go_at_call 21; refine (R1.out _).mono ?_; rintro en w' ⟨rfl, hb⟩; have HC := Lib.hid (baft HC.out ⟨hb.os, hb.tape, hb.output, hb.size, hb.block⟩); obtain ⟨c0, c1, f0, f1, hz⟩ := box1 HC.out; clear hb)
    | (go_at_call 23; refine (R2.out _).mono ?_; rintro en w' ⟨rfl, hb⟩; have HC := Lib.hid (baft HC.out ⟨hb.os, hb.tape, hb.output, hb.size, hb.block⟩); obtain ⟨c0, c1, f0, f1, hz⟩ := box1 HC.out; clear hb)
    | (go_at_call 14; with_reducible refine (S1.out _).mono ?_; rintro en w' ⟨rfl, hw⟩; subst hw)
    | (go_at_call 14; with_reducible refine (S2.out _).mono ?_; rintro en w' ⟨rfl, hw⟩; subst hw))
  all_goals
    go_wp2
    go_ret
    exact ⟨rfl, baft (HB.out _) ⟨HC.out.os, HC.out.tape, HC.out.output, HC.out.size, HC.out.block⟩⟩
theorem mags_row (x y : Nat) (w : World) (hx : x < 18446744073709551616) (hy : y < 18446744073709551616) : Calls Try.prog 4 #[.agg #[.int .u64 (x : Int), .int .u64 (y : Int)]] w fun e w' => e = .returned (.bool true) ∧ Below w.heap.size w w' := mags_any x y hx hy w
end Go.Proofs.Ytmmbbkeefphaiaa
