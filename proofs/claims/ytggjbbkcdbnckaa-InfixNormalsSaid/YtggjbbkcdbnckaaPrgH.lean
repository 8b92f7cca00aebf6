/- Programs of chapter 16: how many lines are constants. Check. -/
import Derived.Test.YtggjbbkcdbnckaaPrgG
namespace Go.Proofs.Ytggjbbkcdbnckaa
set_option linter.unusedVariables false
set_option linter.unusedSimpArgs false
open Go.RowKit Verge

/-- How many lines are constants. -/
def cnsts : List Ln → Nat
  | [] => 0
  | l :: ls => (if l.op = 1 then 1 else 0) + cnsts ls
theorem cnsts_snoc (ls : List Ln) (l : Ln) : cnsts (ls ++ [l]) = cnsts ls + (if l.op = 1 then 1 else 0) := by
  induction ls with
  | nil => simp [cnsts]
  | cons x xs ih => simp only [List.cons_append, cnsts, ih]; omega
theorem cnsts_le (ls : List Ln) : cnsts ls ≤ ls.length := by
  induction ls with
  | nil => simp [cnsts]
  | cons x xs ih => simp only [cnsts, List.length_cons]; split <;> omega
/-- The first line that is wrong. -/
def badLine (vars nc : Int) : Nat → List Ln → Int × Int
  | _, [] => (0, 0)
  | i, l :: ls => if lineE vars nc i l ≠ 0 then ((i : Int), lineE vars nc i l) else badLine vars nc (i + 1) ls
/-- Check's answer. -/
def chk (vars : Int) (xs : List (Nat × Nat)) (ls : List Ln) : Int × Int :=
  if vars < 0 ∨ 32 < vars then (0, 160)
  else if 256 < xs.length ∨ ¬ (∀ x ∈ xs, fvalid x.1 x.2 = true) then (0, 161)
  else if ls.length = 0 ∨ 1024 < ls.length then (0, 162)
  else badLine vars xs.length 0 ls
theorem lineE_ne (vars nc i : Int) (l : Ln) : lineE vars nc i l = 0 ∨ 1 ≤ lineE vars nc i l := by
  unfold lineE
  repeat' split
  all_goals omega
set_option maxRecDepth 100000 in
set_option maxHeartbeats 4000000 in
theorem constants_any (vars : Int) (vC vL : Value) (ls : List Ln) (w : World) (hL : RL w vL ls) (hm : ls.length ≤ 1000000) : Calls Try.prog 10 #[.agg #[.int .i64 vars, vC, vL]] w
    fun e w' => e = .returned (.int .i64 (cnsts ls : Nat)) ∧ Below w.heap.size w w' := by
  obtain ⟨A, c, rfl⟩ := hL.form
  have HR := Lib.hid hL
  obtain ⟨n, hn⟩ : ∃ n, ls.length = n := ⟨_, rfl⟩
  rw [hn]
  rw [hn] at HR hm
  have HN := Lib.hid hn
  have hI := bnew w (.cells #[.int .i64 vars, vC, .slice A n c] 29)
  have HI := Lib.hid hI
  clear hL hn hI
  go_enter Try.func10, Try.ntmps10
  go_wp2
  go_loopw [3, 5, 9] (fun nv _ iv wr => ∃ i : Nat, i ≤ n ∧ iv = .int .i64 i ∧ nv = .int .i64 (cnsts (ls.take i) : Nat) ∧ Hid (Below w.heap.size w wr)) (fun _ _ iv _ => n - (intOf iv).toNat)
  case atStart => exact ⟨0, by omega, rfl, rfl, HI.out⟩
  case round =>
    obtain ⟨i, hi, rfl, rfl, hB⟩ := hrel
    by_cases hin : i < n
    · obtain ⟨x, hx⟩ : ∃ x, ls[i]? = some x := ⟨_, List.getElem?_eq_getElem (by have := HN.out; omega)⟩
      obtain ⟨b, o, rfl, a0, a1, a2, a3, a4⟩ := (HR.out.below hB.out).at hx
      have hlt : (i : Int) < (n : Int) := by omega
      have hs := cnsts_snoc (ls.take i) x
      rw [← take_snoc hx] at hs
      have hle := cnsts_le (ls.take i)
      have hle2 : (ls.take i).length ≤ 1000000 := by rw [List.length_take]; have := HN.out; omega
      obtain ⟨k', hk'⟩ : ∃ k', cnsts (ls.take (i + 1)) = k' := ⟨_, rfl⟩
      rw [hk'] at hs
      have HK := Lib.hid hk'
      generalize cnsts (ls.take i) = k at *
      have hkb : k ≤ 1000000 := by omega
      have HB := Lib.hid (fun o => baft hB.out (bnew wr o))
      clear hx hk' hle hle2
      by_cases h1 : x.op = 1
      · have b1 : (x.op == 1) = true := beq_iff_eq.2 h1
        rw [if_pos h1] at hs
        subst hs
        clear h1
        go_wp2
        go_roundw
        case rel => exact ⟨i + 1, by omega, by go_num, by rw [HK.out]; try go_num, HB.out _⟩
        case measure => simp [intOf]; omega
      · have b1 : (x.op == 1) = false := beq_eq_false_iff_ne.2 h1
        rw [if_neg h1] at hs
        subst hs
        clear h1
        go_wp2
        go_roundw
        case rel => exact ⟨i + 1, by omega, by go_num, by rw [HK.out]; try go_num, HB.out _⟩
        case measure => simp [intOf]; omega
    · obtain rfl : i = n := by omega
      have e : ls.take i = ls := List.take_of_length_le (by have := HN.out; omega)
      rw [e]
      go_wp2
      go_ret
      exact ⟨rfl, hB.out⟩
set_option maxRecDepth 100000 in
set_option maxHeartbeats 4000000 in
theorem consts17_any (vars : Int) (vC vL : Value) (ls : List Ln) (w : World) (hL : RL w vL ls) (hm : ls.length ≤ 1000000) : Calls Try.prog 13 #[.agg #[.int .i64 vars, vC, vL]] w
    fun e w' => e = .returned (.int .i64 (cnsts ls : Nat)) ∧ Below w.heap.size w w' := by
  obtain ⟨A, c, rfl⟩ := hL.form
  have HR := Lib.hid hL
  obtain ⟨n, hn⟩ : ∃ n, ls.length = n := ⟨_, rfl⟩
  rw [hn]
  rw [hn] at HR hm
  have HN := Lib.hid hn
  have hI := bnew w (.cells #[.int .i64 vars, vC, .slice A n c] 25)
  have hk := (box3at (w := w) (a := .int .i64 vars) (b := vC) (c := .slice A n c) (t := 25) (Below.refl _ _))
  have HI := Lib.hid hI
  clear hL hn hI
  go_enter Try.func13, Try.ntmps13
  go_wp2
  generalize w.alloc (.cells #[.int .i64 vars, vC, .slice A n c] 25) = W0 at *
  obtain ⟨k0, k1, k2⟩ := hk
  go_loop [3, 4] (fun nv iv => ∃ i : Nat, i ≤ n ∧ iv = .int .i64 i ∧ nv = .int .i64 (cnsts (ls.take i) : Nat)) (fun _ iv => n - (intOf iv).toNat)
  case atStart => exact ⟨0, by omega, rfl, rfl⟩
  case round =>
    obtain ⟨i, hi, rfl, rfl⟩ := hrel
    by_cases hin : i < n
    · obtain ⟨x, hx⟩ : ∃ x, ls[i]? = some x := ⟨_, List.getElem?_eq_getElem (by have := HN.out; omega)⟩
      obtain ⟨b, o, rfl, a0, a1, a2, a3, a4⟩ := (HR.out.below HI.out).at hx
      have hlt : (i : Int) < (n : Int) := by omega
      have hs := cnsts_snoc (ls.take i) x
      rw [← take_snoc hx] at hs
      have hle := cnsts_le (ls.take i)
      have hle2 : (ls.take i).length ≤ 1000000 := by rw [List.length_take]; have := HN.out; omega
      obtain ⟨k', hk'⟩ : ∃ k', cnsts (ls.take (i + 1)) = k' := ⟨_, rfl⟩
      rw [hk'] at hs
      have HK := Lib.hid hk'
      generalize cnsts (ls.take i) = k at *
      have hkb : k ≤ 1000000 := by omega
      clear hx hk' hle hle2
      by_cases h1 : x.op = 1
      · have b1 : (x.op == 1) = true := beq_iff_eq.2 h1
        rw [if_pos h1] at hs
        subst hs
        clear h1
        go_wp2
        go_round
        case rel => exact ⟨i + 1, by omega, by go_num, by rw [HK.out]; try go_num⟩
        case measure => simp [intOf]; omega
      · have b1 : (x.op == 1) = false := beq_eq_false_iff_ne.2 h1
        rw [if_neg h1] at hs
        subst hs
        clear h1
        go_wp2
        go_round
        case rel => exact ⟨i + 1, by omega, by go_num, by rw [HK.out]; try go_num⟩
        case measure => simp [intOf]; omega
    · obtain rfl : i = n := by omega
      have e : ls.take i = ls := List.take_of_length_le (by have := HN.out; omega)
      rw [e]
      go_wp2
      go_ret
      exact ⟨rfl, HI.out⟩
end Go.Proofs.Ytggjbbkcdbnckaa
