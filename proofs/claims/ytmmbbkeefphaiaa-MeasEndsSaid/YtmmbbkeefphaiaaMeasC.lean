/- Law 8: the ends. -/
import Derived.Test.YtmmbbkeefphaiaaMeasB
namespace Go.Proofs.Ytmmbbkeefphaiaa
set_option linter.unusedVariables false
set_option linter.unusedSimpArgs false
open Go.RowKit Verge

theorem fieldf0 (v0 v1 : Value) (w : World) : (Instr.field 29 (.agg #[v0, v1]) 0).run Try.prog w = .ok v0 w := by
  unfold Instr.field
  simp [go_sem, Try.underlying29, asAgg]
theorem fieldf1 (v0 v1 : Value) (w : World) : (Instr.field 29 (.agg #[v0, v1]) 1).run Try.prog w = .ok v1 w := by
  unfold Instr.field
  simp [go_sem, Try.underlying29, asAgg]
theorem fieldi0 (v0 v1 : Value) (w : World) : (Instr.field 24 (.agg #[v0, v1]) 0).run Try.prog w = .ok v0 w := by
  unfold Instr.field
  simp [go_sem, Try.underlying24, asAgg]
theorem fieldi1 (v0 v1 : Value) (w : World) : (Instr.field 24 (.agg #[v0, v1]) 1).run Try.prog w = .ok v1 w := by
  unfold Instr.field
  simp [go_sem, Try.underlying24, asAgg]

set_option maxRecDepth 100000 in
theorem minf_any (x y : Nat) (hx : x < 18446744073709551616) (hy : y < 18446744073709551616) (w : World) : Calls Try.prog 15 #[.agg #[.float .f64 x, .float .f64 y]] w fun e w' => e = .returned (.float .f64 (flo x y)) ∧ Below w.heap.size w w' := by
  have HR := Lib.hid (fun W => read_any x y hx hy W)
  have HB := Lib.hid (fun o => bnew w o)
  obtain ⟨p, hp⟩ : ∃ p, flo x y = p := ⟨_, rfl⟩
  obtain ⟨q, hq⟩ : ∃ q, fhi x y = q := ⟨_, rfl⟩
  simp only [hp, hq] at HR ⊢
  clear hp hq hx hy
  have hfl := fieldf0
  go_enter Try.func15, Try.ntmps15
  go_wp2_with fail
  refine (HR.out _).mono ?_
  rintro en w1 ⟨rfl, hb⟩
  have hb := Lib.hid (baft (HB.out _) hb)
  clear HB
  go_wp2
  go_ret
  exact ⟨rfl, hb.out⟩

set_option maxRecDepth 100000 in
theorem msup_any (x y : Nat) (hx : x < 18446744073709551616) (hy : y < 18446744073709551616) (w : World) : Calls Try.prog 18 #[.agg #[.float .f64 x, .float .f64 y]] w fun e w' => e = .returned (.float .f64 (fhi x y)) ∧ Below w.heap.size w w' := by
  have HR := Lib.hid (fun W => read_any x y hx hy W)
  have HB := Lib.hid (fun o => bnew w o)
  obtain ⟨p, hp⟩ : ∃ p, flo x y = p := ⟨_, rfl⟩
  obtain ⟨q, hq⟩ : ∃ q, fhi x y = q := ⟨_, rfl⟩
  simp only [hp, hq] at HR ⊢
  clear hp hq hx hy
  have hfl := fieldf1
  go_enter Try.func18, Try.ntmps18
  go_wp2_with fail
  refine (HR.out _).mono ?_
  rintro en w1 ⟨rfl, hb⟩
  have hb := Lib.hid (baft (HB.out _) hb)
  clear HB
  go_wp2
  go_ret
  exact ⟨rfl, hb.out⟩

set_option maxRecDepth 100000 in
theorem rinf_any (x y : Nat) (hx : x < 18446744073709551616) (hy : y < 18446744073709551616) (w : World) : Calls Try.prog 17 #[.agg #[.int .u64 (x : Int), .int .u64 (y : Int)]] w fun e w' => e = .returned (.int .u64 (flo x y : Nat)) ∧ Below w.heap.size w w' := by
  have HR := Lib.hid (fun W => read6_any x y hx hy W)
  have HB := Lib.hid (fun o => bnew w o)
  obtain ⟨p, hp⟩ : ∃ p, flo x y = p := ⟨_, rfl⟩
  obtain ⟨q, hq⟩ : ∃ q, fhi x y = q := ⟨_, rfl⟩
  simp only [hp, hq] at HR ⊢
  clear hp hq hx hy
  have hfl := fieldi0
  go_enter Try.func17, Try.ntmps17
  go_wp2_with fail
  refine (HR.out _).mono ?_
  rintro en w1 ⟨rfl, hb⟩
  have hb := Lib.hid (baft (HB.out _) hb)
  clear HB
  go_wp2
  go_ret
  exact ⟨rfl, hb.out⟩

set_option maxRecDepth 100000 in
theorem rsup_any (x y : Nat) (hx : x < 18446744073709551616) (hy : y < 18446744073709551616) (w : World) : Calls Try.prog 19 #[.agg #[.int .u64 (x : Int), .int .u64 (y : Int)]] w fun e w' => e = .returned (.int .u64 (fhi x y : Nat)) ∧ Below w.heap.size w w' := by
  have HR := Lib.hid (fun W => read6_any x y hx hy W)
  have HB := Lib.hid (fun o => bnew w o)
  obtain ⟨p, hp⟩ : ∃ p, flo x y = p := ⟨_, rfl⟩
  obtain ⟨q, hq⟩ : ∃ q, fhi x y = q := ⟨_, rfl⟩
  simp only [hp, hq] at HR ⊢
  clear hp hq hx hy
  have hfl := fieldi1
  go_enter Try.func19, Try.ntmps19
  go_wp2_with fail
  refine (HR.out _).mono ?_
  rintro en w1 ⟨rfl, hb⟩
  have hb := Lib.hid (baft (HB.out _) hb)
  clear HB
  go_wp2
  go_ret
  exact ⟨rfl, hb.out⟩

theorem isv_any (b : Nat) (hb : b < 18446744073709551616) (nb : ¬ fnan b) (w : World) : Calls Try.prog 14 #[.float .f64 b, .int .u64 (b : Int)] w fun e w' => e = .returned (.bool true) ∧ w = w' := by
  have := is_any b b hb hb w
  rw [if_neg nb, decide_eq_true rfl] at this
  exact this

set_option maxRecDepth 100000 in
set_option maxHeartbeats 4000000 in
theorem ends_any (x y : Nat) (hx : x < 18446744073709551616) (hy : y < 18446744073709551616) (w : World) : Calls Try.prog 3 #[.agg #[.int .u64 (x : Int), .int .u64 (y : Int)]] w fun e w' => e = .returned (.bool true) ∧ Below w.heap.size w w' := by
  have HI := Lib.hid (fun W => in_any x y hx hy W)
  have M1 := Lib.hid (fun W => minf_any x y hx hy W)
  have M2 := Lib.hid (fun W => msup_any x y hx hy W)
  have R1 := Lib.hid (fun W => rinf_any x y hx hy W)
  have R2 := Lib.hid (fun W => rsup_any x y hx hy W)
  have S1 := Lib.hid (fun W => isv_any (flo x y) (flo_lt hx) fnan_flo W)
  have S2 := Lib.hid (fun W => isv_any (fhi x y) (fhi_lt hy) fnan_fhi W)
  have HB := Lib.hid (fun o => bnew w o)
  obtain ⟨p, hp⟩ : ∃ p, flo x y = p := ⟨_, rfl⟩
  obtain ⟨q, hq⟩ : ∃ q, fhi x y = q := ⟨_, rfl⟩
  simp only [hp, hq] at M1 M2 R1 R2 S1 S2
  clear hp hq hx hy
  obtain ⟨c0, c1, f0, f1, hz⟩ := box1 (w := w) (a := .int .u64 (x : Int)) (b := .int .u64 (y : Int)) (t := 24) (Below.refl _ _)
  go_enter Try.func3, Try.ntmps3
  have HC : Hid (Below (w.alloc (.cells #[.int .u64 (x : Int), .int .u64 (y : Int)] 24)).heap.size (w.alloc (.cells #[.int .u64 (x : Int), .int .u64 (y : Int)] 24)) (w.alloc (.cells #[.int .u64 (x : Int), .int .u64 (y : Int)] 24))) := Lib.hid (Below.refl _ _)
  go_wp2_with fail
  go_region_with (first
    | (go_at_call 16; refine (HI.out _).mono ?_; rintro en w' ⟨rfl, hb⟩; have HC := Lib.hid (baft HC.out ⟨hb.os, hb.tape, hb.output, hb.size, hb.block⟩); obtain ⟨c0, c1, f0, f1, hz⟩ := box1 HC.out; clear hb)
    | (go_at_call 15; refine (M1.out _).mono ?_; rintro en w' ⟨rfl, hb⟩; have HC := Lib.hid (baft HC.out ⟨hb.os, hb.tape, hb.output, hb.size, hb.block⟩); obtain ⟨c0, c1, f0, f1, hz⟩ := box1 HC.out; clear hb)
    | (go_at_call 18; refine (M2.out _).mono ?_; rintro en w' ⟨rfl, hb⟩; have HC := Lib.hid (baft HC.out ⟨hb.os, hb.tape, hb.output, hb.size, hb.block⟩); obtain ⟨c0, c1, f0, f1, hz⟩ := box1 HC.out; clear hb)
    | (go_at_call 17; refine (R1.out _).mono ?_; rintro en w' ⟨rfl, hb⟩; have HC := Lib.hid (baft HC.out ⟨hb.os, hb.tape, hb.output, hb.size, hb.block⟩); obtain ⟨c0, c1, f0, f1, hz⟩ := box1 HC.out; clear hb)
    | (go_at_call 19; refine (R2.out _).mono ?_; rintro en w' ⟨rfl, hb⟩; have HC := Lib.hid (baft HC.out ⟨hb.os, hb.tape, hb.output, hb.size, hb.block⟩); obtain ⟨c0, c1, f0, f1, hz⟩ := box1 HC.out; clear hb)
    | (go_at_call 14; with_reducible refine (S1.out _).mono ?_; rintro en w' ⟨rfl, hw⟩; subst hw)
    | (go_at_call 14; with_reducible refine (S2.out _).mono ?_; rintro en w' ⟨rfl, hw⟩; subst hw))
  all_goals
    go_wp2
    go_ret
    exact ⟨rfl, baft (HB.out _) ⟨HC.out.os, HC.out.tape, HC.out.output, HC.out.size, HC.out.block⟩⟩
theorem ends_row (x y : Nat) (w : World) (hx : x < 18446744073709551616) (hy : y < 18446744073709551616) : Calls Try.prog 3 #[.agg #[.int .u64 (x : Int), .int .u64 (y : Int)]] w fun e w' => e = .returned (.bool true) ∧ Below w.heap.size w w' := ends_any x y hx hy w
end Go.Proofs.Ytmmbbkeefphaiaa
