/- Programs of chapter 16: a line, by the program and by the document. -/
import Derived.Test.YtggjbbkcdbnckaaPrgD
namespace Go.Proofs.Ytggjbbkcdbnckaa
set_option linter.unusedVariables false
set_option linter.unusedSimpArgs false
open Go.RowKit Verge

/-- How many operands an operation has; -1: it is none. -/
def opn (op : Int) : Int := if op = 1 then 0 else if op = 4 ∨ op = 5 ∨ op = 6 ∨ op = 7 ∨ op = 14 ∨ op = 15 then 2 else if op = 11 then 3 else if op < 1 ∨ 21 < op then -1 else 1
def badX (n k x lim : Int) : Prop := (k < n ∧ (x < 0 ∨ lim ≤ x)) ∨ (n ≤ k ∧ x ≠ 0)
instance (n k x lim : Int) : Decidable (badX n k x lim) := by unfold badX; infer_instance
/-- What is wrong with a line. -/
def lineE (vars nc i : Int) (l : Ln) : Int :=
  if opn l.op < 0 then 163
  else if badX (opn l.op) 0 l.a (vars + i) ∨ badX (opn l.op) 1 l.b (vars + i) ∨ badX (opn l.op) 2 l.c (vars + i) then 164
  else if l.op = 1 then (if l.n < 0 ∨ nc ≤ l.n then 164 else 0)
  else if l.op = 12 then (if l.n < -1024 ∨ 1024 < l.n then 165 else 0)
  else if l.n ≠ 0 then 164 else 0
theorem operands_any (op : Int) (w : World) : Calls Try.prog 25 #[.int .i64 op] w fun e w' => e = .returned (.int .i64 (opn op)) ∧ w = w' := by
  obtain ⟨r, hr⟩ : ∃ r, opn op = r := ⟨_, rfl⟩
  rw [hr]
  unfold opn at hr
  have key : op = 1 ∨ op = 4 ∨ op = 5 ∨ op = 6 ∨ op = 7 ∨ op = 14 ∨ op = 15 ∨ op = 11 ∨ (op ≠ 1 ∧ op ≠ 4 ∧ op ≠ 5 ∧ op ≠ 6 ∧ op ≠ 7 ∧ op ≠ 14 ∧ op ≠ 15 ∧ op ≠ 11) := by omega
  rcases key with rfl | rfl | rfl | rfl | rfl | rfl | rfl | rfl | ⟨h1, h4, h5, h6, h7, h14, h15, h11⟩
  all_goals try
    simp at hr
    subst hr
    go_enter Try.func25, Try.ntmps25
    go_wp2
    go_ret
    exact ⟨rfl, rfl⟩
  rw [if_neg h1, if_neg (by omega), if_neg h11] at hr
  by_cases c1 : op < 1
  · rw [if_pos (.inl c1)] at hr
    subst hr
    go_enter Try.func25, Try.ntmps25
    go_wp2
    go_ret
    exact ⟨rfl, rfl⟩
  · by_cases c2 : 21 < op
    · rw [if_pos (.inr c2)] at hr
      subst hr
      go_enter Try.func25, Try.ntmps25
      go_wp2
      go_ret
      exact ⟨rfl, rfl⟩
    · rw [if_neg (by omega)] at hr
      subst hr
      go_enter Try.func25, Try.ntmps25
      go_wp2
      go_ret
      exact ⟨rfl, rfl⟩
def cnt11 (op : Int) : Int := if op = 1 then 0 else if opn op < 0 then 0 else opn op
theorem count_any (op : Int) (w : World) : Calls Try.prog 36 #[.int .i64 op] w fun e w' => e = .returned (.int .i64 (cnt11 op)) ∧ w = w' := by
  obtain ⟨r, hr⟩ : ∃ r, cnt11 op = r := ⟨_, rfl⟩
  rw [hr]
  have key : op = 1 ∨ op = 4 ∨ op = 5 ∨ op = 6 ∨ op = 7 ∨ op = 14 ∨ op = 15 ∨ op = 11 ∨ (op ≠ 1 ∧ op ≠ 4 ∧ op ≠ 5 ∧ op ≠ 6 ∧ op ≠ 7 ∧ op ≠ 14 ∧ op ≠ 15 ∧ op ≠ 11) := by omega
  rcases key with rfl | rfl | rfl | rfl | rfl | rfl | rfl | rfl | ⟨h1, h4, h5, h6, h7, h14, h15, h11⟩
  all_goals try
    simp [cnt11, opn] at hr
    subst hr
    go_enter Try.func36, Try.ntmps36
    go_wp2
    go_ret
    exact ⟨rfl, rfl⟩
  have b4 : (op == 4) = false := beq_eq_false_iff_ne.2 h4
  have b5 : (op == 5) = false := beq_eq_false_iff_ne.2 h5
  have b6 : (op == 6) = false := beq_eq_false_iff_ne.2 h6
  have b7 : (op == 7) = false := beq_eq_false_iff_ne.2 h7
  have b14 : (op == 14) = false := beq_eq_false_iff_ne.2 h14
  have b15 : (op == 15) = false := beq_eq_false_iff_ne.2 h15
  have b11 : (op == 11) = false := beq_eq_false_iff_ne.2 h11
  by_cases c1 : op < 1 ∨ 21 < op
  · have e1 : opn op = -1 := by unfold opn; rw [if_neg h1, if_neg (by omega), if_neg h11, if_pos c1]
    have e2 : cnt11 op = 0 := by unfold cnt11; rw [if_neg h1, if_pos (by omega)]
    rw [e2] at hr
    subst hr
    clear e1 e2 h1 h4 h5 h6 h7 h14 h15 h11
    by_cases c2 : 2 ≤ op
    · have c3 : ¬ op ≤ 21 := by omega
      clear c1
      go_enter Try.func36, Try.ntmps36
      go_wp2
      go_ret
      exact ⟨rfl, rfl⟩
    · clear c1
      go_enter Try.func36, Try.ntmps36
      go_wp2
      go_ret
      exact ⟨rfl, rfl⟩
  · have e1 : opn op = 1 := by unfold opn; rw [if_neg h1, if_neg (by omega), if_neg h11, if_neg c1]
    have e2 : cnt11 op = 1 := by unfold cnt11; rw [if_neg h1, if_neg (by omega)]; exact e1
    rw [e2] at hr
    subst hr
    have c2 : 2 ≤ op := by omega
    have c3 : op ≤ 21 := by omega
    clear c1 e1 e2 h1 h4 h5 h6 h7 h14 h15 h11
    go_enter Try.func36, Try.ntmps36
    go_wp2
    go_ret
    exact ⟨rfl, rfl⟩
theorem operands16_any (op : Int) (w : World) : Calls Try.prog 29 #[.int .i64 op] w fun e w' => e = .returned (.int .i64 (opn op)) ∧ w = w' := by
  have HC := Lib.hid (fun W => count_any op W)
  by_cases h1 : op = 1
  · subst h1
    go_enter Try.func29, Try.ntmps29
    go_wp2
    go_ret
    exact ⟨rfl, rfl⟩
  · by_cases h2 : opn op < 0
    · have e : opn op = -1 := by revert h2; unfold opn; repeat' split <;> omega
      have e2 : cnt11 op = 0 := by unfold cnt11; rw [if_neg h1, if_pos h2]
      rw [e2] at HC
      rw [e]
      clear h2 e e2
      go_enter Try.func29, Try.ntmps29
      go_wp2_with fail
      refine (HC.out _).mono ?_
      rintro en w1 ⟨rfl, rfl⟩
      go_wp2
      go_ret
      exact ⟨rfl, rfl⟩
    · have e2 : cnt11 op = opn op := by unfold cnt11; rw [if_neg h1, if_neg h2]
      have e3 : opn op ≠ 0 := by unfold opn; repeat' split <;> omega
      rw [e2] at HC
      generalize opn op = r at *
      clear h2 e2
      go_enter Try.func29, Try.ntmps29
      go_wp2_with fail
      refine (HC.out _).mono ?_
      rintro en w1 ⟨rfl, rfl⟩
      go_wp2_with fail
      refine (HC.out _).mono ?_
      rintro en w1 ⟨rfl, rfl⟩
      go_wp2
      go_ret
      exact ⟨rfl, rfl⟩
end Go.Proofs.Ytggjbbkcdbnckaa
