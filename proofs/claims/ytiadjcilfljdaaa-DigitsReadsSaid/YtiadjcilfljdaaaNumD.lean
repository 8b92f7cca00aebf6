/- Layer 5: the document's letters: digit, hex, value, the table of states, find, behind, exponent. -/
import Derived.Test.YtiadjcilfljdaaaDigP
import Derived.Test.YtiadjcilfljdaaaNumP
import Derived.Laws.DeepStrings4
namespace Go.Proofs.Ytiadjcilfljdaaa
set_option linter.unusedVariables false
set_option linter.unusedSimpArgs false
open Go.RowKit Verge

theorem c_eq (c : UInt8) (n : Nat) : ((c.toNat : Int) == (n : Int)) = decide (c.toNat = n) := by
  rw [Bool.eq_iff_iff]; simp; omega
theorem ret_bool {a b : Bool} (h : a = b) : Ending.returned (.bool a) = .returned (.bool b) := by rw [h]
theorem digit5_any (c : UInt8) (w : World) : Calls Try.prog 51 #[.int .u8 (c.toNat : Int)] w fun e w' => e = .returned (.bool (isD c)) ∧ w = w' := by
  go_enter Try.func51, Try.ntmps51
  go_wp2
  all_goals
    go_ret
    refine ⟨ret_bool ?_, rfl⟩
    unfold isD
    rw [Bool.eq_iff_iff]; simp <;> omega
theorem hex5_any (c : UInt8) (w : World) : Calls Try.prog 57 #[.int .u8 (c.toNat : Int)] w fun e w' => e = .returned (.bool (isX c)) ∧ w = w' := by
  have H := Lib.hid (fun W => digit5_any c W)
  by_cases hd : isD c = true
  · rw [hd] at H
    have hx : isX c = true := isX_D hd
    go_enter Try.func57, Try.ntmps57
    go_wp2_with (go_at_call 51; refine (H.out _).mono ?_; rintro e w1 ⟨rfl, rfl⟩)
    go_ret
    exact ⟨ret_bool hx.symm, rfl⟩
  · have hd' : isD c = false := by simpa using hd
    rw [hd'] at H
    have hx : isX c = (decide (97 ≤ c.toNat ∧ c.toNat ≤ 102) || decide (65 ≤ c.toNat ∧ c.toNat ≤ 70)) := by unfold isX; rw [hd']; simp
    have HX := Lib.hid hx
    clear hx hd hd'
    go_enter Try.func57, Try.ntmps57
    go_wp2_with (go_at_call 51; refine (H.out _).mono ?_; rintro e w1 ⟨rfl, rfl⟩)
    all_goals
      go_ret
      refine ⟨ret_bool ?_, rfl⟩
      rw [HX.out, Bool.eq_iff_iff]; simp <;> omega

theorem ret_st {x : Int} {b : Nat} (h : b = x.toNat) (h0 : 0 ≤ x) : Ending.returned (.int .i64 x) = .returned (.int .i64 (b : Int)) := by rw [h, Int.toNat_of_nonneg h0]
set_option maxHeartbeats 4000000 in
theorem nextH_any (s : Nat) (hs : s ≤ 18) (c : UInt8) (w : World) : Calls Try.prog 52 #[.int .i64 (s : Int), .int .u8 (c.toNat : Int)] w fun e w' => e = .returned (.int .i64 (nxH s c : Nat)) ∧ w = w' := by
  have HD := Lib.hid (fun W => digit5_any c W)
  have HX := Lib.hid (fun W => hex5_any c W)
  have hcl : (isD c = true ∧ isX c = true) ∨ (isD c = false ∧ isX c = true) ∨ (isD c = false ∧ isX c = false) := by
    cases h1 : isD c
    · cases h2 : isX c
      · exact .inr (.inr ⟨rfl, rfl⟩)
      · exact .inr (.inl ⟨rfl, rfl⟩)
    · exact .inl ⟨rfl, isX_D h1⟩
  have hst : s ≤ 10 ∨ s = 11 ∨ s = 12 ∨ s = 13 ∨ s = 14 ∨ s = 15 ∨ s = 16 ∨ s = 17 ∨ s = 18 := by omega
  rcases hcl with ⟨hd, hx⟩ | ⟨hd, hx⟩ | ⟨hd, hx⟩
  all_goals
    rw [hd] at HD
    rw [hx] at HX
    have HC := Lib.hid (And.intro hd hx)
    clear hd hx
    rcases hst with h | rfl | rfl | rfl | rfl | rfl | rfl | rfl | rfl
    · have hI : (s : Int) ≤ 10 := by omega
      have HI := Lib.hid h
      clear h hs
      go_enter Try.func52, Try.ntmps52
      go_wp2
      go_ret
      refine ⟨?_, rfl⟩
      have := HI.out
      unfold nxH
      rw [if_neg (by omega), if_neg (by omega), if_neg (by omega), if_neg (by omega)]
      rfl
    all_goals
      clear hs
      go_enter Try.func52, Try.ntmps52
      go_wp2_with (first | (go_at_call 51; refine (HD.out _).mono ?_; rintro e w1 ⟨rfl, rfl⟩) | (go_at_call 57; refine (HX.out _).mono ?_; rintro e w1 ⟨rfl, rfl⟩))
      all_goals
        go_ret
        refine ⟨ret_st ?_ (by decide), rfl⟩
        obtain ⟨hd, hx⟩ := HC.out
        have hd0 := isD_iff (c := c)
        have hx0 := isX_iff (c := c)
        rw [hd] at hd0
        rw [hx] at hx0
        simp [nxH, hd, hx, isS]
        repeat' split
        all_goals (try simp only [Int.toNat_ofNat] at *)
        all_goals (try simp)
        all_goals (try simp only [beq_iff_eq, beq_eq_false_iff_ne, ne_eq] at *)
        all_goals (try first | omega | (intros; omega) | (constructor <;> omega))
end Go.Proofs.Ytiadjcilfljdaaa
