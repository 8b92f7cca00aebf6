/- Layer 5: the document's letters: digit, hex, value, the table of states, find, behind, exponent. -/
import Derived.Test.YtiadjcilfljdaaaDoorG03
import Derived.Test.YtiadjcilfljdaaaDoorG04
import Derived.Laws.DeepStrings4
section
namespace Go.Proofs.YtiadjcilfljdaaaDoor
set_option linter.unusedVariables false
set_option linter.unusedSimpArgs false
open Go.RowKit Verge

theorem c_eq (c : UInt8) (n : Nat) : ((c.toNat : Int) == (n : Int)) = decide (c.toNat = n) := by
  rw [Bool.eq_iff_iff]; simp; omega
theorem ret_bool {a b : Bool} (h : a = b) : Ending.returned (.bool a) = .returned (.bool b) := by rw [h]
theorem digit5_any (c : UInt8) (w : World) : Calls Tryd.prog 83 #[.int .u8 (c.toNat : Int)] w fun e w' => e = .returned (.bool (isD c)) ∧ w = w' := by
  go_enter Tryd.func83, Tryd.ntmps83
  go_wp2
  all_goals
    go_ret
    refine ⟨ret_bool ?_, rfl⟩
    unfold isD
    rw [Bool.eq_iff_iff]; simp <;> omega
theorem hex5_any (c : UInt8) (w : World) : Calls Tryd.prog 84 #[.int .u8 (c.toNat : Int)] w fun e w' => e = .returned (.bool (isX c)) ∧ w = w' := by
  have H := Lib.hid (fun W => digit5_any c W)
  by_cases hd : isD c = true
  · rw [hd] at H
    have hx : isX c = true := isX_D hd
    go_enter Tryd.func84, Tryd.ntmps84
    go_wp2_with (go_at_call 83; refine (H.out _).mono ?_; rintro e w1 ⟨rfl, rfl⟩)
    go_ret
    exact ⟨ret_bool hx.symm, rfl⟩
  · have hd' : isD c = false := by simpa using hd
    rw [hd'] at H
    have hx : isX c = (decide (97 ≤ c.toNat ∧ c.toNat ≤ 102) || decide (65 ≤ c.toNat ∧ c.toNat ≤ 70)) := by unfold isX; rw [hd']; simp
    have HX := Lib.hid hx
    clear hx hd hd'
    go_enter Tryd.func84, Tryd.ntmps84
    go_wp2_with (go_at_call 83; refine (H.out _).mono ?_; rintro e w1 ⟨rfl, rfl⟩)
    all_goals
      go_ret
      refine ⟨ret_bool ?_, rfl⟩
      rw [HX.out, Bool.eq_iff_iff]; simp <;> omega

theorem ret_st {x : Int} {b : Nat} (h : b = x.toNat) (h0 : 0 ≤ x) : Ending.returned (.int .i64 x) = .returned (.int .i64 (b : Int)) := by rw [h, Int.toNat_of_nonneg h0]
end Go.Proofs.YtiadjcilfljdaaaDoor
end

section
namespace Go.Proofs.YtiadjcilfljdaaaDoor
set_option linter.unusedVariables false
set_option linter.unusedSimpArgs false
open Go.RowKit Verge

theorem digit_lit (n : Nat) (hn : n ≤ 255) (b : Bool) (hb : decide (48 ≤ n ∧ n ≤ 57) = b) (w : World) : Calls Tryd.prog 83 #[.int .u8 (n : Int)] w fun e w' => e = .returned (.bool b) ∧ w = w' := by
  have h : (UInt8.ofNat n).toNat = n := by simp; omega
  have := digit5_any (UInt8.ofNat n) w
  rw [h] at this
  unfold isD at this
  rw [h, hb] at this
  exact this
end Go.Proofs.YtiadjcilfljdaaaDoor
end
