/- Go's math on patterns, where a seat has no layer of its own for it. -/
import Derived.Test.YtcomkgmonhidhaaGreatDoorG12
import Derived.Test.YtcomkgmonhidhaaGreatDoorG02
namespace Go.Proofs.YtcomkgmonhidhaaGreatDoor
set_option linter.unusedVariables false
set_option linter.unusedSimpArgs false
open Go.RowKit Verge

theorem from_any (b : Int) (w : World) : (callFunc 13 #[.int .u64 b]).run Tryz.prog w = .ok (.value (.float .f64 b.toNat)) w := by
  rw [run_callFunc_extern (e := Extern.MathFloatBits.float64frombits) Tryz.func13 (by kernel_rfl) (by kernel_rfl) (by kernel_rfl) (by kernel_rfl)]
  rfl
theorem bits_any (b : Nat) (w : World) : (callFunc 84 #[.float .f64 b]).run Tryz.prog w = .ok (.value (.int .u64 (b : Int))) w := by
  rw [run_callFunc_extern (e := Extern.MathFloatBits.float64bits) Tryz.func84 (by kernel_rfl) (by kernel_rfl) (by kernel_rfl) (by kernel_rfl)]
  rfl
/-- A pattern without its sign. -/
def fabs (x : Nat) : Nat := x % 9223372036854775808
theorem abs_any (x : Nat) (hx : x < 18446744073709551616) (w : World) : Calls Tryz.prog 43 #[.float .f64 x] w fun e w' => e = .returned (.float .f64 (fabs x)) ∧ w = w' := by
  have hb : bits .andNot .u64 (x : Int) 9223372036854775808 = ((fabs x : Nat) : Int) := by
    have := Go.u64_andNot_nat x 9223372036854775808 hx (by omega)
    rw [andNot_sign x hx] at this
    exact this
  have h1 := bits_any x
  have h2 := from_any (fabs x : Nat)
  obtain ⟨a, ha⟩ : ∃ a, fabs x = a := ⟨_, rfl⟩
  rw [ha] at hb h2 ⊢
  clear ha
  go_enter Tryz.func43, Tryz.ntmps43
  go_wp2
  go_ret
  exact ⟨rfl, rfl⟩
theorem isnan_any (x : Nat) (hx : x < 18446744073709551616) (w : World) : Calls Tryz.prog 44 #[.float .f64 x] w fun e w' => e = .returned (.bool (decide (fnan x))) ∧ w = w' := by
  have ho : (FloatKind.f64.format.order x x != some .eq) = decide (fnan x) := f_self hx
  go_enter Tryz.func44, Tryz.ntmps44
  go_wp2
  go_ret
  exact ⟨rfl, rfl⟩
theorem gt_max {x : Nat} (hx : x < 18446744073709551616) : (FloatKind.f64.format.order x 9218868437227405311 == some .gt) = decide (x = 9218868437227405312) := by
  refine (f_gt hx (y := 9218868437227405311) (by omega)).trans (decide_eq_decide.2 ?_)
  unfold fnan FK
  constructor
  · rintro ⟨h1, _, h2⟩
    split at h2 <;> split at h2 <;> omega
  · rintro rfl; decide
theorem isinf_0 (x : Nat) (hx : x < 18446744073709551616) (w : World) : Calls Tryz.prog 22 #[.float .f64 x, .int .i64 0] w fun e w' => e = .returned (.bool (decide (fabs x = 9218868437227405312))) ∧ w = w' := by
  have ho := gt_max (x := fabs x) (by unfold fabs; omega)
  have ha := Lib.hid (fun W => abs_any x hx W)
  obtain ⟨a, hae⟩ : ∃ a, fabs x = a := ⟨_, rfl⟩
  rw [hae] at ho ha ⊢
  go_enter Tryz.func22, Tryz.ntmps22
  go_wp2_with fail
  refine (ha.out _).mono ?_
  rintro en w1 ⟨rfl, rfl⟩
  go_wp2
  go_ret
  exact ⟨rfl, rfl⟩
end Go.Proofs.YtcomkgmonhidhaaGreatDoor
