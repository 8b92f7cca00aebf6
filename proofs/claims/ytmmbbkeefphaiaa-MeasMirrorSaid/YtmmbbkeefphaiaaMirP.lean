/- Law 8: plain words on what lies mirrored at 0. -/
import Derived.Test.YtmmbbkeefphaiaaRadA
namespace Go.Proofs.Ytmmbbkeefphaiaa
set_option linter.unusedVariables false
set_option linter.unusedSimpArgs false
open Go.RowKit Verge

/-- A pattern's mirror, without -0. -/
def mneg (x : Nat) : Nat := if x = 0 then 0 else fneg x
theorem mneg_cases {x : Nat} (h : Pt x) : (x = 0 ∧ mneg x = 0) ∨ (0 < x ∧ x < 9223372036854775808 ∧ mneg x = x + 9223372036854775808) ∨ (9223372036854775808 < x ∧ mneg x = x - 9223372036854775808) := by
  obtain ⟨h1, h2, h3⟩ := h
  unfold mneg fneg
  split
  · left; omega
  · split
    · right; right; omega
    · right; left; omega
theorem mneg_pt {x : Nat} (h : Pt x) : Pt (mneg x) := by
  have hc := mneg_cases h
  obtain ⟨h1, h2, h3⟩ := h
  unfold fnan at h2
  unfold Pt fnan
  omega
theorem FK_mneg {x : Nat} (h : Pt x) : FK (mneg x) = -FK x := by
  have hc := mneg_cases h
  obtain ⟨h1, h2, h3⟩ := h
  unfold FK
  split <;> split <;> omega
theorem fabs_mneg {x : Nat} (h : Pt x) : fabs (mneg x) = fabs x := by
  have hc := mneg_cases h
  obtain ⟨h1, h2, h3⟩ := h
  unfold fabs
  omega
theorem mneg_mneg {x : Nat} (h : Pt x) : mneg (mneg x) = x := by
  have hc := mneg_cases h
  have hd := mneg_cases (mneg_pt h)
  have := h.1
  have := h.2.2
  omega
theorem mneg_inf {x : Nat} (h : Pt x) : (mneg x = 18442240474082181120 ↔ x = 9218868437227405312) ∧ (mneg x = 9218868437227405312 ↔ x = 18442240474082181120) := by
  have hc := mneg_cases h
  have := h.1
  have := h.2.2
  omega
theorem fv_mneg {x : Nat} (h : Pt x) : fv (mneg x) = -fv x := by
  have e0 : fv 0 = 0 := rfl
  rcases mneg_cases h with ⟨h1, h2⟩ | ⟨h1, h2, h3⟩ | ⟨h1, h2⟩
  · rw [h2, h1, e0]; rfl
  · rw [h3]; unfold fv; rw [if_pos (by omega), if_neg (by omega), show (x + 9223372036854775808) % 9223372036854775808 = x % 9223372036854775808 by omega]
  · have := h.1
    rw [h2]; unfold fv; rw [if_neg (by omega), if_pos (by omega), show (x - 9223372036854775808) % 9223372036854775808 = x % 9223372036854775808 by omega]; omega
theorem Ends.mirror {p q : Nat} (h : Ends p q) : Ends (mneg q) (mneg p) := by
  have hp := h.pts.1
  have hq := h.pts.2
  have mp := mneg_pt hp
  have mq := mneg_pt hq
  have ip := mneg_inf hp
  have iq := mneg_inf hq
  obtain ⟨h1, h2, h3, h4, h5, h6, h7, h8, h9⟩ := h
  refine ⟨mq.1, mp.1, mq.2.1, mp.2.1, ?_, ?_, ?_, mq.2.2, mp.2.2⟩
  · intro c; exact h6 (iq.2.1 c)
  · intro c; exact h5 (ip.1.1 c)
  · rw [FK_mneg hp, FK_mneg hq]; omega
theorem pwild_mirror {p q : Nat} (h : Ends p q) : pwild (mneg q) (mneg p) = pwild p q := by
  have ip := mneg_inf h.pts.1
  have iq := mneg_inf h.pts.2
  unfold pwild
  rw [decide_eq_decide.2 iq.1, decide_eq_decide.2 ip.2, Bool.or_comm]
theorem rngN_zero : rngN 0 2 = 0 := by decide
theorem fpat_flip {s : Bool} {r : Nat} (h : r < 9223372036854775808) : fpat (!s) r = mneg (fpat s r) := by
  unfold fpat mneg fneg
  by_cases h0 : r = 0
  · rw [if_pos h0, if_pos h0, if_pos rfl]
  · rw [if_neg h0, if_neg h0]
    cases s
    · simp only [Bool.not_false, if_true, Bool.false_eq_true, if_false]; rw [if_neg h0, if_neg (by omega)]; omega
    · simp only [Bool.not_true, if_true, Bool.false_eq_true, if_false]; rw [if_neg (by omega), if_pos (by omega)]; omega
theorem midz_neg (P : Int) : midz (-P) = mneg (midz P) := by
  unfold midz
  rw [Int.natAbs_neg]
  by_cases h0 : P = 0
  · subst h0
    show fpat _ (min (rngN 0 2) 9218868437227405312) = mneg (fpat _ (min (rngN 0 2) 9218868437227405312))
    rw [rngN_zero]; rfl
  · rw [show decide (-P < 0) = !decide (P < 0) by
      by_cases c : P < 0
      · rw [decide_eq_true c, decide_eq_false (by omega)]; rfl
      · rw [decide_eq_false c, decide_eq_true (by omega)]; rfl]
    exact fpat_flip (by omega)
theorem pmid_mirror {p q : Nat} (h : Ends p q) : pmid (mneg q) (mneg p) = mneg (pmid p q) := by
  have ip := mneg_inf h.pts.1
  have iq := mneg_inf h.pts.2
  unfold pmid
  by_cases c1 : p = 18442240474082181120
  · by_cases c2 : q = 9218868437227405312
    · rw [if_pos (iq.1.2 c2), if_pos (ip.2.2 c1), if_pos c1, if_pos c2]; rfl
    · rw [if_neg (fun c => c2 (iq.1.1 c)), if_pos (ip.2.2 c1), if_pos c1, if_neg c2]; rfl
  · by_cases c2 : q = 9218868437227405312
    · rw [if_pos (iq.1.2 c2), if_neg (fun c => c1 (ip.2.1 c)), if_neg c1, if_pos c2]; rfl
    · rw [if_neg (fun c => c2 (iq.1.1 c)), if_neg (fun c => c1 (ip.2.1 c)), if_neg c1, if_neg c2, fv_mneg h.pts.1, fv_mneg h.pts.2, ← midz_neg]
      congr 1; omega
theorem pmid_pt {p q : Nat} (h : Ends p q) : Pt (pmid p q) := by
  cases hw : pwild p q
  · obtain ⟨m1, m2, _, _⟩ := pmid_fin h hw
    exact ⟨m1.1, by have := m1.2; unfold fnan; omega, m2⟩
  · unfold pmid
    split <;> split
    · exact ⟨by omega, by decide, by omega⟩
    · exact ⟨by omega, by decide, by omega⟩
    · exact ⟨by omega, by decide, by omega⟩
    · rename_i c1 c2
      unfold pwild at hw
      rw [decide_eq_false c1, decide_eq_false c2] at hw
      cases hw
theorem prad_mirror {p q : Nat} (h : Ends p q) : prad (mneg q) (mneg p) = prad p q := by
  unfold prad
  rw [pwild_mirror h]
  cases hw : pwild p q
  · simp only [Bool.false_eq_true, if_false]
    rw [pmid_mirror h, fv_mneg (pmid_pt h), fv_mneg h.pts.1, fv_mneg h.pts.2]
    congr 1
    omega
  · rfl
theorem pwid_mirror {p q : Nat} (h : Ends p q) : pwid (mneg q) (mneg p) = pwid p q := by
  unfold pwid
  rw [pwild_mirror h]
  cases hw : pwild p q
  · simp only [Bool.false_eq_true, if_false]
    rw [fv_mneg h.pts.1, fv_mneg h.pts.2]
    congr 1
    omega
  · rfl
/-- All that the law asks. -/
theorem mirror_facts {p q : Nat} (h : Ends p q) :
    fmid (mneg q) (mneg p) = mneg (fmid p q) ∧ frad (mneg q) (mneg p) = frad p q ∧ fwid (mneg q) (mneg p) = fwid p q ∧ fmag (mneg q) (mneg p) = fmag p q ∧ fmig (mneg q) (mneg p) = fmig p q ∧
    Pt (fmid p q) ∧ ¬ fnan (frad p q) ∧ ¬ fnan (fwid p q) ∧ ¬ fnan (fmag p q) ∧ ¬ fnan (fmig p q) := by
  obtain ⟨s1, l1, u1⟩ := h.again
  obtain ⟨s2, l2, u2⟩ := h.mirror.again
  have ap := fabs_le h.pts.1.2.1
  have aq := fabs_le h.pts.2.2.1
  unfold fmid frad fwid fmag fmig
  rw [s1, s2, l1, l2, u1, u2]
  simp only [if_true]
  refine ⟨pmid_mirror h, prad_mirror h, pwid_mirror h, ?_, ?_, pmid_pt h, ?_, ?_, ?_, ?_⟩
  · rw [fabs_mneg h.pts.1, fabs_mneg h.pts.2, Nat.max_comm]
  · rw [fabs_mneg h.pts.1, fabs_mneg h.pts.2, FK_mneg h.pts.1, FK_mneg h.pts.2, Nat.min_comm]
    by_cases c : FK p ≤ 0 ∧ 0 ≤ FK q
    · rw [if_pos c, if_pos (by omega)]
    · rw [if_neg c, if_neg (by omega)]
  · unfold prad
    split
    · decide
    · rename_i hw
      have := pmid_fin h (by simpa using hw)
      exact small_nan (upz_nonneg (by omega))
  · unfold pwid
    split
    · decide
    · have := fv_le h.1 h.2.1 h.2.2.2.2.2.2.1
      exact small_nan (upz_nonneg (by omega))
  · exact small_nan (by omega)
  · split
    · decide
    · exact small_nan (by omega)
/-- A number's pattern is what its ratio rounds to. -/
theorem rat_exact {x : Nat} (d : Int) (h : ffin x) (h0 : x ≠ 9223372036854775808) : rat3 d (fv x) UQ KU = x := by
  have hr : x % 9223372036854775808 < 9218868437227405312 := h.2
  have hx := h.1
  unfold rat3
  rw [fv_abs, ← UQ_eq]
  obtain ⟨r, hre⟩ : ∃ r, x % 9223372036854775808 = r := ⟨_, rfl⟩
  rw [hre] at hr ⊢
  have hd : FV r * UQ / UQ = FV r := Nat.mul_div_cancel _ UQ_pos
  have hg : ∀ s, rng d s (FV r * UQ) UQ = r := by
    intro s
    unfold rng
    have h1 : rngA (FV r * UQ) UQ = r := by unfold rngA; rw [hd, fl_FV, if_pos rfl]
    rw [h1, hd, fl_FV, rngN_pat UQ_pos]
    split
    · split <;> omega
    · omega
  rw [hg]
  unfold fpat
  by_cases hz : r = 0
  · rw [if_pos hz]; omega
  · rw [if_neg hz]
    have hF : 0 < FV r := by have := FV_lt (show 0 < r by omega); rw [FV_zero] at this; exact this
    by_cases c : 9223372036854775808 ≤ x
    · have : fv x < 0 := by unfold fv; rw [if_pos c, hre]; omega
      rw [decide_eq_true this]; simp only [if_true]; omega
    · have : ¬ fv x < 0 := by unfold fv; rw [if_neg c, hre]; omega
      rw [decide_eq_false this]; simp only [Bool.false_eq_true, if_false]; omega
theorem mneg_fin {x : Nat} (h : ffin x) (hp : Pt x) : ffin (mneg x) := by
  have hc := mneg_cases hp
  have := h.1
  have := h.2
  unfold ffin
  omega
/-- m against the negative of its mirror. -/
theorem o_mirror {m : Nat} (h : Pt m) : (FloatKind.f64.format.order m (fneg (mneg m)) == some .eq) = true := by
  have hm := mneg_cases h
  have h1 := h.1
  have hk : FK (fneg (mneg m)) = FK m ∧ fneg (mneg m) < 18446744073709551616 ∧ ¬ fnan (fneg (mneg m)) := by
    have hn := h.2.1
    unfold fnan at *
    unfold FK
    have : (m = 0 ∧ fneg (mneg m) = 9223372036854775808) ∨ fneg (mneg m) = m := by
      rcases hm with ⟨a, b⟩ | ⟨a, b, c⟩ | ⟨a, b⟩
      · left; rw [b]; exact ⟨a, rfl⟩
      · right; rw [c]; unfold fneg; rw [if_pos (by omega)]; omega
      · right; rw [b]; unfold fneg; rw [if_neg (by omega)]; omega
    rcases this with ⟨a, b⟩ | b
    · rw [b, a]; decide
    · rw [b]; exact ⟨rfl, h1, hn⟩
  refine (f_eq h1 hk.2.1).trans (decide_eq_true ⟨h.2.1, hk.2.2, hk.1.symm⟩)
theorem o_same {r : Nat} (hr : r < 18446744073709551616) (h : ¬ fnan r) : (FloatKind.f64.format.order r r == some .eq) = true := (f_eq hr hr).trans (decide_eq_true ⟨h, h, rfl⟩)
end Go.Proofs.Ytmmbbkeefphaiaa
