/- Layer 5, plain: what Exact writes, by Cmp against a numeral; what is read Down, Up and Near. -/
import Derived.Test.YtcomkgmonhidhaaGreatDoorG22
import Derived.Test.YtcomkgmonhidhaaGreatDoorG33
import Derived.Test.YtcomkgmonhidhaaGreatDoorG36
import Derived.Test.YtcomkgmonhidhaaGreatDoorG20
import Derived.Test.YtcomkgmonhidhaaGreatDoorG29
section
namespace Go.Proofs.YtcomkgmonhidhaaGreatDoor
set_option linter.unusedVariables false
set_option linter.unusedSimpArgs false
open Go.RowKit Verge

theorem core_mul (n : Nat) : core n * 10 ^ tz10 n = n := by
  induction n using Nat.strongRecOn with
  | _ n ih =>
    by_cases h : 0 < n ∧ n % 10 = 0
    · rw [core_step h.1 h.2, tz10_step h.1 h.2, Nat.pow_succ, ← Nat.mul_assoc, ih (n / 10) (by omega)]; omega
    · rw [core, dif_neg h, tz10, dif_neg h]; simp
/-- The fraction of a numeral that ends in 10 to the t - y. -/
theorem ten_frac {C A t y : Nat} (h : C * 10 ^ t = A) : C * 10 ^ ((t : Int) - (y : Int)).toNat * 10 ^ y = A * 10 ^ (-((t : Int) - (y : Int))).toNat := by
  rcases Nat.le_total y t with h1 | h1
  · rw [show ((t : Int) - (y : Int)).toNat = t - y by omega, show (-((t : Int) - (y : Int))).toNat = 0 by omega, Nat.mul_assoc, ← Nat.pow_add, Nat.sub_add_cancel h1, h]; simp
  · rw [show ((t : Int) - (y : Int)).toNat = 0 by omega, show (-((t : Int) - (y : Int))).toNat = y - t by omega, ← h, Nat.mul_assoc C (10 ^ t), ← Nat.pow_add, show t + (y - t) = y by omega]; simp
theorem FV_fb (b : Nat) : FV (b % 9223372036854775808) = fbF b * 2 ^ fbE b := by
  unfold FV fbF fbE
  by_cases h : b % 9223372036854775808 < 4503599627370496
  · rw [if_pos h, if_pos h, Nat.div_eq_of_lt h]; simp; omega
  · rw [if_neg h, if_neg h]
    have : b % 9223372036854775808 % 4503599627370496 = b % 4503599627370496 := by omega
    rw [this]
/-- The numeral of Exact's text. -/
def exN (b : Nat) : Bool × Nat × Nat × Int := match scn (exT b) with | .ok x => x | .error _ => (false, 0, 1, 0)
theorem ex_scn (b : Nat) (hb : b < 18446744073709551616) (hw : fwrong b = false) (hz : b ≠ 9223372036854775808) :
    ∃ P Q, scn (exT b) = .ok (decide (9223372036854775808 ≤ b), P, Q, 0) ∧ 0 < Q ∧ P * 2 ^ KU = FV (b % 9223372036854775808) * Q := by
  rw [FV_fb]
  unfold exT
  rw [if_neg (by rw [hw]; simp)]
  by_cases h0 : fbF b = 0
  · have hb0 : b = 0 := by
      rcases fbF_zero' hb h0 with h | h
      · exact h
      · exact absurd h hz
    rw [if_pos h0, h0]
    subst hb0
    refine ⟨0, 1, ?_, by omega, by simp⟩
    rfl
  · rw [if_neg h0]
    have hE : fbE b ≤ 2045 := by
      unfold fwrong fabs at hw
      have := of_decide_eq_false hw
      unfold fbE; omega
    obtain ⟨A, hA⟩ : ∃ A, fbF b * 2 ^ ((fbE b : Int) - 1074).toNat * 5 ^ (-((fbE b : Int) - 1074)).toNat = A := ⟨_, rfl⟩
    obtain ⟨y, hy⟩ : ∃ y, (-((fbE b : Int) - 1074)).toNat = y := ⟨_, rfl⟩
    obtain ⟨a1, a2, a3, a4⟩ := exact_law h0 hA.symm hy.symm
    rw [← a3, ← a4]
    have hC := core_mul A
    have hC0 : 0 < core A := by
      rcases Nat.eq_zero_or_pos (core A) with h | h
      · rw [h, Nat.zero_mul] at hC; omega
      · exact h
    have hF := fbF_blen b
    obtain ⟨x, hx⟩ : ∃ x, ((fbE b : Int) - 1074).toNat = x := ⟨_, rfl⟩
    have hs : decide (9223372036854775808 < b) = decide (9223372036854775808 ≤ b) := decide_eq_decide.2 (by omega)
    rw [hx, hy] at hA
    rw [hs]
    obtain ⟨T, hT⟩ : ∃ T : Int, (tz10 A : Int) - (y : Int) = T := ⟨_, rfl⟩
    have hfr := ten_frac (y := y) hC
    rw [hT] at hfr
    have hb2 : blen (2 ^ x) ≤ x + 1 := blen_of _ _ (Nat.le_refl _) (Nat.pow_lt_pow_right (by omega) (by omega)) ▸ Nat.le_refl _
    have hb5 : blen (5 ^ y) ≤ 3 * y + 1 := by
      refine (blen_lt _ _).2 (Nat.lt_of_le_of_lt (Nat.pow_le_pow_left (show 5 ≤ 2 ^ 3 by decide) y) ?_)
      rw [← Nat.pow_mul]
      exact Nat.pow_lt_pow_right (by omega) (by omega)
    obtain ⟨m, hm⟩ : ∃ m, m = 3400 := ⟨_, rfl⟩
    have hbA : blen A ≤ m := by
      have := blen_mul_le (blen_mul_le hF hb2) hb5
      rw [hA] at this
      omega
    have hcA : core A ≤ A := by
      have := Nat.mul_le_mul_left (core A) (Nat.pow_pos (n := tz10 A) (show 0 < 10 by omega))
      omega
    have hl1 : (txt (core A)).length ≤ m := Nat.le_trans (txt_len _) ((blen_lt _ _).2 (Nat.lt_of_le_of_lt hcA ((blen_lt _ _).1 hbA)))
    have hl2 : tz10 A ≤ m := by
      refine Classical.byContradiction fun hc => ?_
      have h1 := (blen_lt A m).1 hbA
      have h2 : (2 : Nat) ^ m ≤ 10 ^ tz10 A := Nat.le_trans (Nat.pow_le_pow_right (by omega) (by omega)) (Nat.pow_le_pow_left (by omega) _)
      have h3 := Nat.mul_le_mul_right (10 ^ tz10 A) hC0
      omega
    have hl0 := txt_some hC0
    refine ⟨core A * 10 ^ T.toNat, 10 ^ (-T).toNat, ?_, Nat.pow_pos (by omega), ?_⟩
    · rw [hT, scn_ftext _ _ (txt_dig _) (by omega) (by omega) T (by omega) (by omega), txt_num]
    · have e1 : core A * 10 ^ T.toNat * (2 ^ y * 5 ^ y) = fbF b * 2 ^ x * 5 ^ y * 10 ^ (-T).toNat := by rw [← Nat.mul_pow, hfr, hA]
      have e2 : core A * 10 ^ T.toNat * 2 ^ y = fbF b * 2 ^ x * 10 ^ (-T).toNat := by
        refine Nat.eq_of_mul_eq_mul_right (Nat.pow_pos (n := y) (show 0 < 5 by omega)) ?_
        rw [Nat.mul_assoc, e1, Nat.mul_assoc, Nat.mul_assoc, Nat.mul_comm (5 ^ y)]; ac_rfl
      obtain ⟨z, hz2⟩ : ∃ z, KU = y + z := ⟨1074 - y, by unfold KU; omega⟩
      have hz3 : fbE b = x + z := by unfold KU at hz2; omega
      rw [hz2, hz3, Nat.pow_add, Nat.pow_add, ← Nat.mul_assoc, e2]; ac_rfl
theorem ord_units {s n : Bool} {P Q r N D : Nat} {K : Int} (hQ : 0 < Q) (h : P * 2 ^ KU = FV r * Q) :
    ordS (s, P, Q, 0) (n, N, D, K) = icmp (sv s (FV r * (D * 2 ^ (-K).toNat))) (sv n (N * 2 ^ K.toNat * 2 ^ KU)) ∧
    ordS (n, N, D, K) (s, P, Q, 0) = icmp (sv n (N * 2 ^ K.toNat * 2 ^ KU)) (sv s (FV r * (D * 2 ^ (-K).toNat))) := by
  obtain ⟨c, hc, e1, e2⟩ := crossed P Q N D 0 K (2 ^ KU) (Nat.two_pow_pos _)
  have e1' : P * D * 2 ^ (0 - K).toNat * c = FV r * (D * 2 ^ (-K).toNat) * Q := by
    rw [← e1, show ((0 : Int).toNat) = 0 from rfl, Nat.pow_zero, Nat.mul_one, h]; ac_rfl
  have e2' : N * Q * 2 ^ (K - 0).toNat * c = N * 2 ^ K.toNat * 2 ^ KU * Q := by
    rw [← e2, show ((-(0 : Int)).toNat) = 0 from rfl, Nat.pow_zero, Nat.mul_one]
  unfold ordS
  simp only
  generalize FV r * (D * 2 ^ (-K).toNat) = u at *
  generalize N * 2 ^ K.toNat * 2 ^ KU = v at *
  generalize P * D * 2 ^ (0 - K).toNat = X at *
  generalize N * Q * 2 ^ (K - 0).toNat = Y at *
  constructor
  · rw [← icmp_mul _ _ hc, ← sv_mul, ← sv_mul, e1', e2', sv_mul, sv_mul, icmp_mul _ _ hQ]
  · rw [← icmp_mul _ _ hc, ← sv_mul, ← sv_mul, e1', e2', sv_mul, sv_mul, icmp_mul _ _ hQ]
theorem fpat_fin {n : Bool} {r : Nat} (hr : r < 9218868437227405312) : fpat n r < 18446744073709551616 ∧ fwrong (fpat n r) = false ∧ fpat n r ≠ 9223372036854775808 ∧ fpat n r % 9223372036854775808 = r ∧ (decide (9223372036854775808 ≤ fpat n r) = n ∨ r = 0) := by
  unfold fpat fwrong fabs
  by_cases h : r = 0
  · subst h; rw [if_pos rfl]; exact ⟨by omega, by decide, by omega, rfl, .inr rfl⟩
  · rw [if_neg h]
    cases n
    · rw [if_neg (by simp)]
      exact ⟨by omega, decide_eq_false (by omega), by omega, by omega, .inl (decide_eq_false (by omega))⟩
    · rw [if_pos rfl]
      exact ⟨by omega, decide_eq_false (by omega), by omega, by omega, .inl (decide_eq_true (by omega))⟩
theorem ex_ord {n : Bool} {r N D : Nat} {K : Int} (hr : r < 9218868437227405312) : scn (exT (fpat n r)) = .ok (exN (fpat n r)) ∧
    ordS (exN (fpat n r)) (n, N, D, K) = icmp (sv n (FV r * (D * 2 ^ (-K).toNat))) (sv n (N * 2 ^ K.toNat * 2 ^ KU)) ∧
    ordS (n, N, D, K) (exN (fpat n r)) = icmp (sv n (N * 2 ^ K.toNat * 2 ^ KU)) (sv n (FV r * (D * 2 ^ (-K).toNat))) := by
  obtain ⟨f1, f2, f3, f4, f5⟩ := fpat_fin (n := n) hr
  obtain ⟨P, Q, e, hQ, hP⟩ := ex_scn (fpat n r) f1 f2 f3
  have eN : exN (fpat n r) = (decide (9223372036854775808 ≤ fpat n r), P, Q, 0) := by unfold exN; rw [e]
  rw [f4] at hP
  refine ⟨by rw [e, eN], ?_⟩
  rw [eN]
  have := ord_units (s := decide (9223372036854775808 ≤ fpat n r)) (n := n) (N := N) (D := D) (K := K) hQ hP
  have hv : sv (decide (9223372036854775808 ≤ fpat n r)) (FV r * (D * 2 ^ (-K).toNat)) = sv n (FV r * (D * 2 ^ (-K).toNat)) := by
    rcases f5 with h | h
    · rw [h]
    · subst h
      rw [FV_zero, Nat.zero_mul]; unfold sv; split <;> split <;> simp
  rw [hv] at this
  exact this
theorem bnd_rng (N D : Nat) (hD : 0 < D) : ∃ lo hi ne, lo = min (fl (N / D)) 9218868437227405311 ∧ hi = min (rngA N D) 9218868437227405312 ∧ ne = min (rngN N D) 9218868437227405312 ∧ (ne = lo ∨ ne = hi) ∧
    ((lo = hi ∧ FV lo * D = N) ∨ (hi = lo + 1 ∧ FV lo * D < N ∧ (hi = 9218868437227405312 ∨ N < FV hi * D))) := by
  refine ⟨_, _, _, rfl, rfl, rfl, ?_⟩
  have h1 := fl_div_le N D hD
  have h2 := lt_fl_div N D hD
  have hcap : 9218868437227405312 ≤ fl (N / D) → FV 9218868437227405311 * D < N := fun h => Nat.lt_of_lt_of_le (Nat.mul_lt_mul_of_pos_right (FV_lt (show 9218868437227405311 < fl (N / D) by omega)) hD) h1
  unfold rngA rngN
  generalize fl (N / D) = a at *
  rw [Nat.add_mul]
  by_cases e : FV a * D = N
  · rw [if_pos e, if_pos (by omega)]
    rcases Nat.lt_or_ge a 9218868437227405312 with h | h
    · rw [show min a 9218868437227405311 = a by omega, show min a 9218868437227405312 = a by omega]
      exact ⟨.inl rfl, .inl ⟨rfl, e⟩⟩
    · rw [show min a 9218868437227405311 = 9218868437227405311 by omega, show min a 9218868437227405312 = 9218868437227405312 by omega]
      exact ⟨.inr rfl, .inr ⟨rfl, hcap h, .inl rfl⟩⟩
  · rw [if_neg e]
    rcases Nat.lt_or_ge a 9218868437227405312 with h | h
    · rw [show min a 9218868437227405311 = a by omega, show min (a + 1) 9218868437227405312 = a + 1 by omega]
      refine ⟨?_, .inr ⟨rfl, by omega, .inr h2⟩⟩
      split
      · left; omega
      · split
        · right; omega
        · split
          · left; omega
          · right; omega
    · rw [show min a 9218868437227405311 = 9218868437227405311 by omega, show min (a + 1) 9218868437227405312 = 9218868437227405312 by omega]
      refine ⟨.inr ?_, .inr ⟨rfl, hcap h, .inl rfl⟩⟩
      split
      · omega
      · split
        · omega
        · split <;> omega
end Go.Proofs.YtcomkgmonhidhaaGreatDoor
end

section
namespace Go.Proofs.YtcomkgmonhidhaaGreatDoor
set_option linter.unusedVariables false
set_option linter.unusedSimpArgs false
open Go.RowKit Verge

theorem rng_back (d : Int) (s : Bool) {r : Nat} (hr : r ≤ 9218868437227405311) : rng d s (FV r) 1 = r := by
  have h1 : fl (FV r / 1) = r := by rw [Nat.div_one, fl_FV]
  have h2 : FV r < FV (r + 1) := FV_lt (by omega)
  have hA : rngA (FV r) 1 = r := by unfold rngA; rw [h1, if_pos (by omega)]
  have hN : rngN (FV r) 1 = r := by unfold rngN; rw [h1, if_pos (by omega)]
  unfold rng
  rw [hA, hN, h1]
  repeat' split
  all_goals omega
theorem ex_back (d : Int) (b : Nat) (hb : b < 18446744073709551616) (hw : fwrong b = false) (hz : b ≠ 9223372036854775808) : readS d (exT b) = (b, 0, 0) := by
  obtain ⟨P, Q, e, hQ, hP⟩ := ex_scn b hb hw hz
  have hr : b % 9223372036854775808 ≤ 9218868437227405311 := by
    unfold fwrong fabs at hw
    have := of_decide_eq_false hw
    omega
  have hg : rng d (decide (9223372036854775808 ≤ b)) (P * 2 ^ (0 : Int).toNat * 2 ^ KU) (Q * 2 ^ (-(0 : Int)).toNat) = b % 9223372036854775808 := by
    rw [show ((0 : Int).toNat) = 0 from rfl, show ((-(0 : Int)).toNat) = 0 from rfl, Nat.pow_zero, Nat.mul_one, Nat.mul_one]
    rw [rng_eq (M := FV (b % 9223372036854775808)) (E := 1) hQ (by omega) (by rw [hP]; omega)]
    exact rng_back d _ hr
  unfold readS
  rw [e]
  show (fpat _ (rng _ _ _ _), _, _) = _
  rw [hg]
  unfold fpat
  by_cases h0 : b % 9223372036854775808 = 0
  · rw [if_pos h0, show b = 0 by omega]
  · rw [if_neg h0]
    by_cases h : 9223372036854775808 ≤ b
    · rw [decide_eq_true h, if_pos rfl, show 9223372036854775808 + b % 9223372036854775808 = b by omega]
    · rw [decide_eq_false h, if_neg (by simp), show b % 9223372036854775808 = b by omega]
end Go.Proofs.YtcomkgmonhidhaaGreatDoor
end

section
namespace Go.Proofs.YtcomkgmonhidhaaGreatDoor
set_option linter.unusedVariables false
set_option linter.unusedSimpArgs false
open Go.RowKit Verge

theorem rng_ends (N D : Nat) : rng (-1) false N D = min (fl (N / D)) 9218868437227405311 ∧ rng 1 false N D = min (rngA N D) 9218868437227405312 ∧ rng (-1) true N D = min (rngA N D) 9218868437227405312 ∧ rng 1 true N D = min (fl (N / D)) 9218868437227405311 := by
  unfold rng
  generalize fl (N / D) = a
  generalize rngA N D = b
  refine ⟨by simp, by simp, by simp, by simp⟩
theorem icmp_neg {a b : Int} (h : a < b) : icmp a b = -1 := by unfold icmp; rw [if_pos h]
theorem fpat_f (r : Nat) : fpat false r = r := by
  unfold fpat; split
  · omega
  · rfl
theorem fpat_t {r : Nat} (h : r ≠ 0) : fpat true r = 9223372036854775808 + r := by
  unfold fpat; rw [if_neg h, if_pos rfl]
/-- The next number above. -/
def stp (b : Nat) : Nat := if b = 9223372036854775809 ∨ b = 9223372036854775808 then 0 else if 9223372036854775808 < b then b - 1 else b + 1
/-- What is asked of what a numeral is read as, Down, Up and Near. -/
structure Bnd (x : Bool × Nat × Nat × Int) (lo hi ne : Nat) : Prop where
  near : ne = lo ∨ ne = hi
  l1 : lo ≠ 9223372036854775808 ∧ lo ≠ 9218868437227405312
  h1 : hi ≠ 9223372036854775808 ∧ hi ≠ 18442240474082181120
  law : (lo = hi ∧ lo ≠ 18442240474082181120 ∧ scn (exT lo) = .ok (exN lo) ∧ ordS (exN lo) x = 0 ∧ ordS x (exN lo) = 0 ∧ fwrong lo = false) ∨
    (lo ≠ hi ∧ stp lo = hi ∧ (lo = 18442240474082181120 ∨ (scn (exT lo) = .ok (exN lo) ∧ ordS (exN lo) x = -1 ∧ fwrong lo = false)) ∧ (hi = 9218868437227405312 ∨ (scn (exT hi) = .ok (exN hi) ∧ ordS x (exN hi) = -1 ∧ fwrong hi = false)))
theorem bnd_law (x : Bool × Nat × Nat × Int) (hD : 0 < x.2.2.1) : Bnd x (ordP (-1) x) (ordP 1 x) (ordP 0 x) := by
  obtain ⟨n, N, D, K⟩ := x
  simp only at hD
  unfold ordP
  simp only
  rw [rng_near]
  have hD' : 0 < D * 2 ^ (-K).toNat := Nat.mul_pos hD (Nat.two_pow_pos _)
  have hE := fun r (hr : r < 9218868437227405312) => ex_ord (n := n) (r := r) (N := N) (D := D) (K := K) hr
  have hff := fun r (hr : r < 9218868437227405312) => (fpat_fin (n := n) hr).2.1
  generalize D * 2 ^ (-K).toNat = D' at *
  generalize N * 2 ^ K.toNat * 2 ^ KU = N' at *
  obtain ⟨lo, hi, ne, e1, e2, e3, h1, h2⟩ := bnd_rng N' D' hD'
  obtain ⟨g1, g2, g3, g4⟩ := rng_ends N' D'
  have hl : lo ≤ 9218868437227405311 := by omega
  have hh : hi ≤ 9218868437227405312 := by omega
  cases n
  · rw [g1, g2, ← e1, ← e2, ← e3]
    simp only [fpat_f] at *
    refine ⟨h1, by omega, by omega, ?_⟩
    rcases h2 with ⟨h, hv⟩ | ⟨h, hv, hw⟩
    · obtain ⟨a1, a2, a3⟩ := hE lo (by omega)
      rw [hv] at a2 a3
      exact .inl ⟨h, by omega, a1, a2.trans (icmp_self _), a3.trans (icmp_self _), hff lo (by omega)⟩
    · obtain ⟨a1, a2, a3⟩ := hE lo (by omega)
      refine .inr ⟨by omega, by unfold stp; rw [if_neg (by omega), if_neg (by omega)]; exact h.symm, .inr ⟨a1, a2.trans (icmp_neg ?_), hff lo (by omega)⟩, ?_⟩
      · simp [sv]; omega
      · rcases Nat.lt_or_ge hi 9218868437227405312 with h3 | h3
        · obtain ⟨b1, b2, b3⟩ := hE hi h3
          refine .inr ⟨b1, b3.trans (icmp_neg ?_), hff hi h3⟩
          have : N' < FV hi * D' := by omega
          simp [sv]; omega
        · exact .inl (by omega)
  · rw [g3, g4, ← e1, ← e2, ← e3]
    have hz : ∀ r, fpat true r = if r = 0 then 0 else 9223372036854775808 + r := fun r => by unfold fpat; simp
    have hz1 := hz lo
    have hz2 := hz hi
    have hz3 := hz ne
    rcases h2 with ⟨h, hv⟩ | ⟨h, hv, hw⟩
    · obtain ⟨a1, a2, a3⟩ := hE lo (by omega)
      rw [hv] at a2 a3
      have hne : ne = lo := by omega
      rw [← h, hne]
      refine ⟨.inl rfl, ?_, ?_, .inl ⟨rfl, ?_, a1, a2.trans (icmp_self _), a3.trans (icmp_self _), hff lo (by omega)⟩⟩
      all_goals (rw [hz1]; split <;> omega)
    · obtain ⟨a1, a2, a3⟩ := hE lo (by omega)
      have hp : fpat true hi = 9223372036854775808 + hi := fpat_t (by omega)
      refine ⟨?_, by rw [hp]; omega, by rw [hz1]; split <;> omega, .inr ⟨by rw [hp, hz1]; split <;> omega, ?_, ?_, .inr ⟨a1, a3.trans (icmp_neg ?_), hff lo (by omega)⟩⟩⟩
      · rcases h1 with h1 | h1
        · right; rw [h1]
        · left; rw [h1]
      · rw [hp, hz1]
        unfold stp
        by_cases h0 : lo = 0
        · rw [if_pos h0, if_pos (by omega)]
        · rw [if_neg h0, if_neg (by omega), if_pos (by omega)]; omega
      · rcases Nat.lt_or_ge hi 9218868437227405312 with h3 | h3
        · obtain ⟨b1, b2, b3⟩ := hE hi h3
          refine .inr ⟨b1, b2.trans (icmp_neg ?_), hff hi h3⟩
          have : N' < FV hi * D' := by omega
          simp [sv]; omega
        · left; rw [hp]; omega
      · simp [sv]; omega
end Go.Proofs.YtcomkgmonhidhaaGreatDoor
end

section
namespace Go.Proofs.YtcomkgmonhidhaaGreatDoor
set_option linter.unusedVariables false
set_option linter.unusedSimpArgs false
open Go.RowKit Verge

variable {w : World} {v u t : Value} {N D Q R : Nat}
set_option maxRecDepth 40000 in
set_option maxHeartbeats 1000000 in
theorem by10_any (k : Int) (hv : IsT N v w) (hu : IsT D u w) (h1 : -10000 ≤ k) (h2 : k ≤ 10000) (n1 : blen N ≤ 50000) (n2 : blen D ≤ 50000) :
    Calls Tryz.prog 29 #[v, u, .int .i64 k] w (Ans w (Is2 (IsT (N * 10 ^ k.toNat)) (IsT (D * 10 ^ (-k).toNat)))) := by
  have hb : ∀ j : Nat, j ≤ 10000 → blen (10 ^ j) ≤ 100000 := fun j hj => by
    obtain ⟨z, hz⟩ : ∃ z, z = 4 * j + 1 := ⟨_, rfl⟩
    have h3 : 10 ^ j < 2 ^ z := by
      have a1 : 10 ^ j ≤ 16 ^ j := Nat.pow_le_pow_left (by omega) j
      have a2 : 16 ^ j = 2 ^ (4 * j) := by rw [Nat.pow_mul]
      have a3 : 2 ^ (4 * j) < 2 ^ z := Nat.pow_lt_pow_right (by omega) (by omega)
      omega
    exact Nat.le_trans ((blen_lt _ _).2 h3) (by omega)
  by_cases hk : 0 < k
  · have hj : ((k.toNat : Nat) : Int) = k := by omega
    have hT := fun W => ten_any k.toNat (by omega) W
    rw [hj] at hT
    have e0 : (-k).toNat = 0 := by omega
    have HM := Lib.hid (fun W x (hb' : Below w.heap.size w W) (hx : IsT (10 ^ k.toNat) x W) => nmul_is (IsT.mono _ _ _ _ hb' hv) hx (by omega) (hb k.toNat (by omega)))
    have HU := Lib.hid hu
    rw [e0, Nat.pow_zero, Nat.mul_one]
    generalize 10 ^ k.toNat = X at *
    have HT := Lib.hid hT
    clear hT hv hu hb hj e0 n1 n2
    go_enter Tryz.func29, Tryz.ntmps29
    go_wp2_with (first
      | (go_at_call 53; (with_reducible refine (HT.out _).mono ?_); rintro e w1 ⟨x1, rfl, hx, hb1⟩; have HX := Lib.hid hx; have HB1 := Lib.hid hb1; clear hx hb1)
      | (go_at_call 52; (with_reducible refine (HM.out _ _ HB1.out HX.out).mono ?_); rintro e w2 ⟨x2, rfl, ⟨y1, y2, rfl, hy, rfl⟩, hb2⟩; have HY := Lib.hid hy; have HB2 := Lib.hid (raft HB1.out hb2); clear hy hb2))
    refine bodyPost_ret (v := .tuple #[y1, u]) (by simp [results, Tryz.results29, go_sem]) rfl ?_
    exact ⟨_, rfl, ⟨_, _, rfl, HY.out, IsT.mono _ _ _ _ HB2.out HU.out⟩, HB2.out⟩
  · have hj : (((-k).toNat : Nat) : Int) = -k := by omega
    have hT := fun W => ten_any (-k).toNat (by omega) W
    rw [hj] at hT
    have e0 : k.toNat = 0 := by omega
    have HM := Lib.hid (fun W x (hb' : Below w.heap.size w W) (hx : IsT (10 ^ (-k).toNat) x W) => nmul_is (IsT.mono _ _ _ _ hb' hu) hx (by omega) (hb (-k).toNat (by omega)))
    have HU := Lib.hid hv
    rw [e0, Nat.pow_zero, Nat.mul_one]
    generalize 10 ^ (-k).toNat = X at *
    have HT := Lib.hid hT
    clear hT hv hu hb hj e0 n1 n2
    go_enter Tryz.func29, Tryz.ntmps29
    go_wp2_with (first
      | (go_at_call 53; (with_reducible refine (HT.out _).mono ?_); rintro e w1 ⟨x1, rfl, hx, hb1⟩; have HX := Lib.hid hx; have HB1 := Lib.hid hb1; clear hx hb1)
      | (go_at_call 52; (with_reducible refine (HM.out _ _ HB1.out HX.out).mono ?_); rintro e w2 ⟨x2, rfl, ⟨y1, y2, rfl, hy, rfl⟩, hb2⟩; have HY := Lib.hid hy; have HB2 := Lib.hid (raft HB1.out hb2); clear hy hb2))
    refine bodyPost_ret (v := .tuple #[v, y1]) (by simp [results, Tryz.results29, go_sem]) rfl ?_
    exact ⟨_, rfl, ⟨_, _, rfl, IsT.mono _ _ _ _ HB2.out HU.out, HY.out⟩, HB2.out⟩
/-- Does a quotient's size go up? -/
def upB (d : Int) (neg : Bool) (Q R B : Nat) : Bool :=
  if d = 1 ∨ d = -1 then decide (R ≠ 0 ∧ decide (d = -1) = neg) else decide (B < R ∨ B = R ∧ Q % 2 = 1)
theorem ulen (n : Nat) : (dig n).length = 0 ↔ n = 0 := by
  constructor
  · intro h
    refine Classical.byContradiction fun hn => ?_
    have := dig_length_pos hn
    omega
  · rintro rfl; rw [dig_zero]; rfl
theorem and_1u (x : Nat) (hx : x < 4294967296) : bits .and .u32 (x : Int) 1 = ((x % 2 : Nat) : Int) := by
  have : bits .and .u32 (x : Int) 1 = ((x &&& 1 : Nat) : Int) := Go.u32_and_nat x 1 hx (by omega)
  rw [this, Nat.and_one_is_mod]
set_option maxRecDepth 40000 in
set_option maxHeartbeats 2000000 in
theorem dup_any (d : Int) (neg : Bool) {B : Nat} {b : Value} (hq : IsT Q v w) (hr : IsT R u w) (hb : IsT B b w) (n1 : blen R ≤ 500000) (n2 : blen B ≤ 500000) :
    Calls Tryz.prog 33 #[.int .i64 d, .bool neg, v, u, b] w (Ans w (IsV (.bool (upB d neg Q R B)))) := by
  obtain ⟨o, ho⟩ : ∃ o, upB d neg Q R B = o := ⟨_, rfl⟩
  rw [ho]
  unfold upB at ho
  have hzr := ulen R
  by_cases hd : d = 1 ∨ d = -1
  · rw [if_pos hd] at ho
    obtain ⟨A, rfl, hR⟩ := hr
    generalize (dig R).length = lr at *
    clear hR hq hb n1 n2
    by_cases hR0 : R = 0
    · have hl0 := hzr.2 hR0
      rw [decide_eq_false (by simp [hR0])] at ho
      subst hl0 ho
      clear hzr hR0
      rcases hd with rfl | rfl
      · go_enter Tryz.func33, Tryz.ntmps33
        go_wp2
        go_ret
        exact ⟨_, rfl, rfl, Below.refl _ _⟩
      · go_enter Tryz.func33, Tryz.ntmps33
        go_wp2
        go_ret
        exact ⟨_, rfl, rfl, Below.refl _ _⟩
    · have g0 : 0 < lr := Nat.pos_of_ne_zero (fun e => hR0 (hzr.1 e))
      have g1 : decide (0 < lr) = true := decide_eq_true g0
      have g2 : (0 : Int) < (lr : Int) := by omega
      clear hzr
      rcases hd with rfl | rfl
      · cases neg
        · rw [decide_eq_true ⟨hR0, by decide⟩] at ho
          subst ho
          go_enter Tryz.func33, Tryz.ntmps33
          go_wp2
          go_ret
          exact ⟨_, rfl, rfl, Below.refl _ _⟩
        · rw [decide_eq_false (by simp)] at ho
          subst ho
          go_enter Tryz.func33, Tryz.ntmps33
          go_wp2
          go_ret
          exact ⟨_, rfl, rfl, Below.refl _ _⟩
      · cases neg
        · rw [decide_eq_false (by simp)] at ho
          subst ho
          go_enter Tryz.func33, Tryz.ntmps33
          go_wp2
          go_ret
          exact ⟨_, rfl, rfl, Below.refl _ _⟩
        · rw [decide_eq_true ⟨hR0, by decide⟩] at ho
          subst ho
          go_enter Tryz.func33, Tryz.ntmps33
          go_wp2
          go_ret
          exact ⟨_, rfl, rfl, Below.refl _ _⟩
  · rw [if_neg hd] at ho
    have g1 : (d == -1) = false := by simp only [beq_eq_false_iff_ne, ne_eq]; omega
    have g2 : (d == 1) = false := by simp only [beq_eq_false_iff_ne, ne_eq]; omega
    have HC := Lib.hid (ncmp_is hr hb n1 n2)
    by_cases c1 : B < R
    · have hc : cmp R B = 1 := by unfold cmp; rw [if_neg (by omega), if_pos c1]
      rw [decide_eq_true (.inl c1)] at ho
      rw [hc] at HC
      subst ho
      clear hr hb hq hzr n1 n2
      go_enter Tryz.func33, Tryz.ntmps33
      go_wp2_with (go_at_call 56; refine (HC.out).mono ?_; rintro e w1 ⟨x1, rfl, rfl, hb1⟩)
      go_ret
      exact ⟨_, rfl, rfl, hb1⟩
    · by_cases c2 : R < B
      · have hc : cmp R B = -1 := by unfold cmp; rw [if_pos c2]
        rw [decide_eq_false (by omega)] at ho
        rw [hc] at HC
        subst ho
        clear hr hb hq hzr n1 n2
        go_enter Tryz.func33, Tryz.ntmps33
        go_wp2_with (go_at_call 56; refine (HC.out).mono ?_; rintro e w1 ⟨x1, rfl, rfl, hb1⟩)
        go_ret
        exact ⟨_, rfl, rfl, hb1⟩
      · have hc : cmp R B = 0 := by unfold cmp; rw [if_neg c2, if_neg c1]
        rw [hc] at HC
        by_cases q0 : Q = 0
        · obtain ⟨A, rfl, hR⟩ := hq
          have hl : (dig Q).length = 0 := (ulen Q).2 q0
          rw [hl]
          rw [decide_eq_false (by omega)] at ho
          subst ho
          clear hr hb hR hzr n1 n2
          go_enter Tryz.func33, Tryz.ntmps33
          go_wp2_with (go_at_call 56; refine (HC.out).mono ?_; rintro e w1 ⟨x1, rfl, rfl, hb1⟩)
          go_ret
          exact ⟨_, rfl, rfl, hb1⟩
        · obtain ⟨A, rfl, hR⟩ := hq
          have hdp := dig_pos q0
          have hne : dig Q ≠ [] := by rw [hdp]; simp
          have hlp := dig_length_pos q0
          have hz : (dig Q)[0]? = some (Q % 4294967296) := by rw [hdp]; rfl
          have HR := Lib.hid (And.intro hR (And.intro hne hz))
          have ha := and_1u (Q % 4294967296) (Nat.mod_lt _ (by omega))
          rw [show Q % 4294967296 % 2 = Q % 2 by omega] at ha
          have hpar : Q % 2 = 0 ∨ Q % 2 = 1 := by omega
          have hcell : ∀ W, Below w.heap.size w W → ∃ g o, A = some ⟨g, o, none⟩ ∧ W.cell? ⟨g, o, none⟩ = some (.int .u32 ((Q % 4294967296 : Nat) : Int)) := by
            intro W hbW
            obtain ⟨g, o, e, hc⟩ := (HR.out.1.below hbW).2 HR.out.2.1
            exact ⟨g, o, e, by have := hc 0 _ HR.out.2.2; rwa [Nat.add_zero] at this⟩
          generalize (dig Q).length = lq at *
          obtain ⟨g, o', rfl, _⟩ := hcell w (Below.refl _ _)
          have HCell := Lib.hid hcell
          generalize Q % 4294967296 = x0 at *
          have g3 : (0 : Int) < (lq : Int) := by omega
          have g4 : decide (0 < lq) = true := decide_eq_true hlp
          have hidx : (0 : Int) ≤ 0 ∧ (0 : Int) < (lq : Int) := by omega
          clear hr hb hR hzr n1 n2 hdp hne hz HR hcell
          rcases hpar with hp | hp
          · rw [decide_eq_false (by omega)] at ho
            rw [hp] at ha
            subst ho
            go_enter Tryz.func33, Tryz.ntmps33
            go_wp2_with (go_at_call 56; refine (HC.out).mono ?_; rintro e w1 ⟨x1, rfl, rfl, hb1⟩; obtain ⟨g9, o9, e9, hc9⟩ := HCell.out _ hb1; cases e9)
            go_ret
            exact ⟨_, rfl, rfl, hb1⟩
          · rw [decide_eq_true (.inr ⟨by omega, hp⟩)] at ho
            rw [hp] at ha
            subst ho
            go_enter Tryz.func33, Tryz.ntmps33
            go_wp2_with (go_at_call 56; refine (HC.out).mono ?_; rintro e w1 ⟨x1, rfl, rfl, hb1⟩; obtain ⟨g9, o9, e9, hc9⟩ := HCell.out _ hb1; cases e9)
            go_ret
            exact ⟨_, rfl, rfl, hb1⟩
end Go.Proofs.YtcomkgmonhidhaaGreatDoor
end
