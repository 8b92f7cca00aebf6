/- Law 8: the ends, by the program. -/
import Derived.Test.YtmmbbkeefphaiaaMeasB
namespace Go.Proofs.Ytmmbbkeefphaiaa
set_option linter.unusedVariables false
set_option linter.unusedSimpArgs false
open Go.RowKit Verge

theorem fieldf0 (v0 v1 : Value) (w : World) : (Instr.field 29 (.agg #[v0, v1]) 0).run Try.prog w = .ok v0 w := by
  unfold Instr.field
  simp [go_sem, Try.underlying29, asAgg]
theorem fieldf1 (v0 v1 : Value) (w : World) : (Instr.field 29 (.agg #[v0, v1]) 1).run Try.prog w = .ok v1 w := by
  unfold Instr.field
  simp [go_sem, Try.underlying29, asAgg]
theorem fieldi0 (v0 v1 : Value) (w : World) : (Instr.field 24 (.agg #[v0, v1]) 0).run Try.prog w = .ok v0 w := by
  unfold Instr.field
  simp [go_sem, Try.underlying24, asAgg]
theorem fieldi1 (v0 v1 : Value) (w : World) : (Instr.field 24 (.agg #[v0, v1]) 1).run Try.prog w = .ok v1 w := by
  unfold Instr.field
  simp [go_sem, Try.underlying24, asAgg]

set_option maxRecDepth 100000 in
theorem minf_any (x y : Nat) (hx : x < 18446744073709551616) (hy : y < 18446744073709551616) (w : World) : Calls Try.prog 15 #[.agg #[.float .f64 x, .float .f64 y]] w fun e w' => e = .returned (.float .f64 (flo x y)) ∧ Below w.heap.size w w' := by
  have HR := Lib.hid (fun W => read_any x y hx hy W)
  have HB := Lib.hid (fun o => bnew w o)
  obtain ⟨p, hp⟩ : ∃ p, flo x y = p := ⟨_, rfl⟩
  obtain ⟨q, hq⟩ : ∃ q, fhi x y = q := ⟨_, rfl⟩
  simp only [hp, hq] at HR ⊢
  clear hp hq hx hy
  have hfl := fieldf0
  go_enter Try.func15, Try.ntmps15
  go_wp2_with fail
  refine (HR.out _).mono ?_
  rintro en w1 ⟨rfl, hb⟩
  have hb := Lib.hid (baft (HB.out _) hb)
  clear HB
  go_wp2
  go_ret
  exact ⟨rfl, hb.out⟩

set_option maxRecDepth 100000 in
theorem msup_any (x y : Nat) (hx : x < 18446744073709551616) (hy : y < 18446744073709551616) (w : World) : Calls Try.prog 18 #[.agg #[.float .f64 x, .float .f64 y]] w fun e w' => e = .returned (.float .f64 (fhi x y)) ∧ Below w.heap.size w w' := by
  have HR := Lib.hid (fun W => read_any x y hx hy W)
  have HB := Lib.hid (fun o => bnew w o)
  obtain ⟨p, hp⟩ : ∃ p, flo x y = p := ⟨_, rfl⟩
  obtain ⟨q, hq⟩ : ∃ q, fhi x y = q := ⟨_, rfl⟩
  simp only [hp, hq] at HR ⊢
  clear hp hq hx hy
  have hfl := fieldf1
  go_enter Try.func18, Try.ntmps18
  go_wp2_with fail
  refine (HR.out _).mono ?_
  rintro en w1 ⟨rfl, hb⟩
  have hb := Lib.hid (baft (HB.out _) hb)
  clear HB
  go_wp2
  go_ret
  exact ⟨rfl, hb.out⟩

end Go.Proofs.Ytmmbbkeefphaiaa
