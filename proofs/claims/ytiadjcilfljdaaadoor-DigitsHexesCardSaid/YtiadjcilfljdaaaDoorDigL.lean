/- Layer 5: the law of Hex, walked. -/
import Derived.Test.YtiadjcilfljdaaaDoorDigK
namespace Go.Proofs.YtiadjcilfljdaaaDoor
set_option linter.unusedVariables false
set_option linter.unusedSimpArgs false
open Go.RowKit Verge

/-- What both answer. -/
def hexT (b : Nat) : List UInt8 := if fwrong b = true then [] else if fbF b = 0 then [48, 120, 48, 112, 48] else hxtext b
def hexC (b : Nat) : Int := if fwrong b = true then 1 else 0
theorem fbF_zero {b : Nat} (hb : b < 18446744073709551616) (h : fbF b = 0) : b = 0 ∨ b = 9223372036854775808 := by
  unfold fbF at h; split at h <;> omega
theorem hexP (b : Nat) (hb : b < 18446744073709551616) (w : World) (hT : Tab16 w) (hP : Pow10 w) : Calls Tryd.prog 6 #[.float .f64 b] w fun e w' => e = .returned (.tuple #[.string (bs (hexT b)), .int .i64 (hexC b)]) ∧ Below w.heap.size w w' := by
  unfold hexT hexC
  by_cases h : fwrong b = true
  · rw [if_pos h, if_pos h]; exact hex_wrong b hb h w
  · rw [if_neg h, if_neg h]
    by_cases h0 : fbF b = 0
    · rw [if_pos h0]; exact hex_zero b hb (fbF_zero hb h0) w
    · rw [if_neg h0]; exact hex_num b hb (by simpa using h) h0 w hT hP
theorem hexD (b : Nat) (hb : b < 18446744073709551616) (w : World) : Calls Tryd.prog 8 #[.int .u64 (b : Int)] w fun e w' => e = .returned (.tuple #[.string (bs (hexT b)), .int .i64 (hexC b)]) ∧ Below w.heap.size w w' := by
  unfold hexT hexC
  by_cases h : fwrong b = true
  · rw [if_pos h, if_pos h]; exact hexd_wrong b hb h w
  · rw [if_neg h, if_neg h]
    by_cases h0 : fbF b = 0
    · rw [if_pos h0]; exact hexd_zero b hb (fbF_zero hb h0) w
    · rw [if_neg h0]; exact hexd_num b hb (by simpa using h) h0 w
theorem hexC_range (b : Nat) : 0 ≤ hexC b ∧ hexC b ≤ 1 := by unfold hexC; split <;> omega
theorem fl5_any (b : Nat) (hb : b < 18446744073709551616) (w : World) : Calls Tryd.prog 7 #[.int .u64 (b : Int)] w fun e w' => e = .returned (.float .f64 b) ∧ w = w' := by
  have h2 := from_any b
  clear hb
  go_enter Tryd.func7, Tryd.ntmps7
  go_wp2
  go_ret
  exact ⟨rfl, rfl⟩
theorem walk_hexes (m1 : Int) (w : World) (h1 : 0 ≤ m1) (h2 : m1 < 18446744073709551616) (hL : Tab16 w ∧ Pow10 w) : Calls Tryd.prog 3 #[.int .u64 m1] w fun e w' => e = .returned (.bool true) ∧ Below w.heap.size w w' := by
  obtain ⟨b, rfl⟩ := Int.eq_ofNat_of_zero_le h1
  have hb : b < 18446744073709551616 := by omega
  have HF := Lib.hid (fun W => fl5_any b hb W)
  have HP := Lib.hid (fun W (hT : Tab16 W) (hP : Pow10 W) => hexP b hb W hT hP)
  have HD := Lib.hid (fun W => hexD b hb W)
  have HL := Lib.hid hL
  obtain ⟨c0, c1⟩ := hexC_range b
  generalize hexT b = t at *
  generalize hexC b = c at *
  clear h1 h2 hb hL
  go_enter Tryd.func3, Tryd.ntmps3
  go_wp2_with fail
  refine (HF.out _).mono ?_
  rintro e w1 ⟨rfl, rfl⟩
  go_wp2_with fail
  refine (HP.out _ HL.out.1 HL.out.2).mono ?_
  rintro e w1 ⟨rfl, hb⟩
  have HW := Lib.hid hb
  clear hb
  go_wp2_with fail
  refine (HD.out _).mono ?_
  rintro e w2 ⟨rfl, hb⟩
  have HW := Lib.hid (raft HW.out hb)
  clear hb
  go_wp2
  go_ret
  exact ⟨by simp, HW.out⟩
end Go.Proofs.YtiadjcilfljdaaaDoor
