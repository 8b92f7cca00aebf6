/- Contracts of nat: Word. -/
import Derived.Test.YtiadjcilfljdaaaNatA
import Derived.Test.YtiadjcilfljdaaaPlain
namespace Go.Proofs.Ytiadjcilfljdaaa
set_option linter.unusedVariables false
set_option linter.unusedSimpArgs false
open Go.RowKit Verge

/-- nat.Word: at most two words. -/
theorem word_any (A : Option Addr) (n c : Nat) (xs : List Nat) (w : World) (h : Rd w A xs) (hn : xs.length = n) (hm : n ≤ 140737488355328) :
    Calls Try.prog 82 #[.slice A n c] w fun e w' => e = .returned (.tuple #[.int .u64 (if val xs < 18446744073709551616 then (val xs : Nat) else 0), .bool (decide (val xs < 18446744073709551616))]) ∧ ∃ k, w.drewN k = w' := by
  have hle := wl_le xs
  have hv : val xs = val (xs.take (wl xs)) := (val_norm xs).symm
  by_cases h2 : 2 < wl xs
  · have hbig : ¬ val xs < 18446744073709551616 := by
      have h3 := (dig_length_le (n := val xs) (k := 2))
      rw [← wl_eq h.1] at h3
      intro hlt
      have := h3.2 hlt
      omega
    rw [if_neg hbig, decide_eq_false hbig]
    have e0 : ((wl xs : Int) == 0) = false := by simp; omega
    have e1 : ((wl xs : Int) == 1) = false := by simp; omega
    have e2 : ((wl xs : Int) == 2) = false := by simp; omega
    clear hbig hv
    have HN := Lib.hid hn; clear hn
    go_enter Try.func82, Try.ntmps82
    go_wp2_with (go_at_call 25; refine (words_any A n c xs _ h HN.out hm).mono ?_; rintro e w' ⟨rfl, rfl⟩)
    go_ret2
    exact ⟨rfl, 0, rfl⟩
  · have W := fun W' hW => words_any A n c xs W' hW hn hm
    obtain hw | hw | hw : wl xs = 0 ∨ wl xs = 1 ∨ wl xs = 2 := by omega
    · have hv0 := (val_eq_zero_iff xs).2 hw
      rw [hv0]
      rw [hw] at W
      have HW := Lib.hid W; clear W hv hv0 hw h2 hle hn
      go_enter Try.func82, Try.ntmps82
      go_wp2_with (go_at_call 25; refine (HW.out _ h).mono ?_; rintro e w' ⟨rfl, rfl⟩)
      go_ret2
      exact ⟨rfl, 0, rfl⟩
    · have hv1 : val xs = xs.getD 0 0 := by rw [hv, hw, val_take_succ]; simp
      rw [hv1]
      rw [hw] at W
      obtain ⟨b, o, rfl, hc⟩ := h.cell (k := 0) (by omega)
      rw [Nat.add_zero] at hc
      have hn0 : 0 < n := by omega
      have hx := h.1.getD 0
      have HW := Lib.hid W
      have HH := Lib.hid h
      have hp : decide (xs.getD 0 0 < 18446744073709551616) = true := decide_eq_true (by omega)
      rw [if_pos (by omega), hp]
      clear W h hv hv1 hw h2 hle hn hp
      generalize xs.getD 0 0 = x at *
      go_enter Try.func82, Try.ntmps82
      go_wp2_with (go_at_call 25; refine (HW.out _ HH.out).mono ?_; rintro e w' ⟨rfl, rfl⟩)
      go_ret2
      exact ⟨rfl, 0, rfl⟩
    · have hv1 : val xs = xs.getD 0 0 + 4294967296 * xs.getD 1 0 := by rw [hv, hw, val_take_succ, val_take_succ]; simp
      rw [hv1]
      rw [hw] at W
      obtain ⟨b, o, rfl, hc⟩ := h.cells (by omega)
      have hc0 := hc 0 (by omega)
      rw [Nat.add_zero] at hc0
      have hn0 : 1 < n := by omega
      have hc1 := hc 1 (by omega)
      have hx := h.1.getD 0
      have hy := h.1.getD 1
      have HW := Lib.hid W
      have HH := Lib.hid h
      have hp : decide (xs.getD 0 0 + 4294967296 * xs.getD 1 0 < 18446744073709551616) = true := decide_eq_true (by omega)
      rw [if_pos (by omega), hp]
      clear W h hv hv1 hw h2 hle hn hp hc
      generalize xs.getD 0 0 = x at *
      generalize xs.getD 1 0 = y at *
      go_enter Try.func82, Try.ntmps82
      go_wp2_with (go_at_call 25; refine (HW.out _ HH.out).mono ?_; rintro e w' ⟨rfl, rfl⟩)
      have hor := or_hi' x y hx hy
      go_quiet (fail)
      go_wp2
      go_ret2
      exact ⟨rfl, _, rfl⟩

end Go.Proofs.Ytiadjcilfljdaaa
