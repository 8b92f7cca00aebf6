/- Layer 5, plain: what Exact writes, by Cmp against a numeral; what is read Down, Up and Near. -/
import Derived.Test.YtiadjcilfljdaaaDoorG24
import Derived.Test.YtiadjcilfljdaaaDoorG35
import Derived.Test.YtiadjcilfljdaaaDoorG40
import Derived.Test.YtiadjcilfljdaaaDoorG23
import Derived.Test.YtiadjcilfljdaaaDoorG31
import Derived.Test.YtiadjcilfljdaaaDoorG39
import Derived.Test.YtiadjcilfljdaaaDoorG21
import Derived.Laws.FloatArith
section
namespace Go.Proofs.YtiadjcilfljdaaaDoor
set_option linter.unusedVariables false
set_option linter.unusedSimpArgs false
open Go.RowKit Verge

theorem core_mul (n : Nat) : core n * 10 ^ tz10 n = n := by
  induction n using Nat.strongRecOn with
  | _ n ih =>
    by_cases h : 0 < n ∧ n % 10 = 0
    · rw [core_step h.1 h.2, tz10_step h.1 h.2, Nat.pow_succ, ← Nat.mul_assoc, ih (n / 10) (by omega)]; omega
    · rw [core, dif_neg h, tz10, dif_neg h]; simp
/-- The fraction of a numeral that ends in 10 to the t - y. -/
theorem ten_frac {C A t y : Nat} (h : C * 10 ^ t = A) : C * 10 ^ ((t : Int) - (y : Int)).toNat * 10 ^ y = A * 10 ^ (-((t : Int) - (y : Int))).toNat := by
  rcases Nat.le_total y t with h1 | h1
  · rw [show ((t : Int) - (y : Int)).toNat = t - y by omega, show (-((t : Int) - (y : Int))).toNat = 0 by omega, Nat.mul_assoc, ← Nat.pow_add, Nat.sub_add_cancel h1, h]; simp
  · rw [show ((t : Int) - (y : Int)).toNat = 0 by omega, show (-((t : Int) - (y : Int))).toNat = y - t by omega, ← h, Nat.mul_assoc C (10 ^ t), ← Nat.pow_add, show t + (y - t) = y by omega]; simp
theorem FV_fb (b : Nat) : FV (b % 9223372036854775808) = fbF b * 2 ^ fbE b := by
  unfold FV fbF fbE
  by_cases h : b % 9223372036854775808 < 4503599627370496
  · rw [if_pos h, if_pos h, Nat.div_eq_of_lt h]; simp; omega
  · rw [if_neg h, if_neg h]
    have : b % 9223372036854775808 % 4503599627370496 = b % 4503599627370496 := by omega
    rw [this]
/-- The numeral of Exact's text. -/
def exN (b : Nat) : Bool × Nat × Nat × Int := match scn (exT b) with | .ok x => x | .error _ => (false, 0, 1, 0)
theorem ex_scn (b : Nat) (hb : b < 18446744073709551616) (hw : fwrong b = false) (hz : b ≠ 9223372036854775808) :
    ∃ P Q, scn (exT b) = .ok (decide (9223372036854775808 ≤ b), P, Q, 0) ∧ 0 < Q ∧ P * 2 ^ KU = FV (b % 9223372036854775808) * Q := by
  rw [FV_fb]
  unfold exT
  rw [if_neg (by rw [hw]; simp)]
  by_cases h0 : fbF b = 0
  · have hb0 : b = 0 := by
      rcases fbF_zero' hb h0 with h | h
      · exact h
      · exact absurd h hz
    rw [if_pos h0, h0]
    subst hb0
    refine ⟨0, 1, ?_, by omega, by simp⟩
    rfl
  · rw [if_neg h0]
    have hE : fbE b ≤ 2045 := by
      unfold fwrong fabs at hw
      have := of_decide_eq_false hw
      unfold fbE; omega
    obtain ⟨A, hA⟩ : ∃ A, fbF b * 2 ^ ((fbE b : Int) - 1074).toNat * 5 ^ (-((fbE b : Int) - 1074)).toNat = A := ⟨_, rfl⟩
    obtain ⟨y, hy⟩ : ∃ y, (-((fbE b : Int) - 1074)).toNat = y := ⟨_, rfl⟩
    obtain ⟨a1, a2, a3, a4⟩ := exact_law h0 hA.symm hy.symm
    rw [← a3, ← a4]
    have hC := core_mul A
    have hC0 : 0 < core A := by
      rcases Nat.eq_zero_or_pos (core A) with h | h
      · rw [h, Nat.zero_mul] at hC; omega
      · exact h
    have hF := fbF_blen b
    obtain ⟨x, hx⟩ : ∃ x, ((fbE b : Int) - 1074).toNat = x := ⟨_, rfl⟩
    have hs : decide (9223372036854775808 < b) = decide (9223372036854775808 ≤ b) := decide_eq_decide.2 (by omega)
    rw [hx, hy] at hA
    rw [hs]
    obtain ⟨T, hT⟩ : ∃ T : Int, (tz10 A : Int) - (y : Int) = T := ⟨_, rfl⟩
    have hfr := ten_frac (y := y) hC
    rw [hT] at hfr
    have hb2 : blen (2 ^ x) ≤ x + 1 := blen_of _ _ (Nat.le_refl _) (Nat.pow_lt_pow_right (by omega) (by omega)) ▸ Nat.le_refl _
    have hb5 : blen (5 ^ y) ≤ 3 * y + 1 := by
      refine (blen_lt _ _).2 (Nat.lt_of_le_of_lt (Nat.pow_le_pow_left (show 5 ≤ 2 ^ 3 by decide) y) ?_)
      rw [← Nat.pow_mul]
      exact Nat.pow_lt_pow_right (by omega) (by omega)
    obtain ⟨m, hm⟩ : ∃ m, m = 3400 := ⟨_, rfl⟩
    have hbA : blen A ≤ m := by
      have := blen_mul_le (blen_mul_le hF hb2) hb5
      rw [hA] at this
      omega
    have hcA : core A ≤ A := by
      have := Nat.mul_le_mul_left (core A) (Nat.pow_pos (n := tz10 A) (show 0 < 10 by omega))
      omega
    have hl1 : (txt (core A)).length ≤ m := Nat.le_trans (txt_len _) ((blen_lt _ _).2 (Nat.lt_of_le_of_lt hcA ((blen_lt _ _).1 hbA)))
    have hl2 : tz10 A ≤ m := by
      refine Classical.byContradiction fun hc => ?_
      have h1 := (blen_lt A m).1 hbA
      have h2 : (2 : Nat) ^ m ≤ 10 ^ tz10 A := Nat.le_trans (Nat.pow_le_pow_right (by omega) (by omega)) (Nat.pow_le_pow_left (by omega) _)
      have h3 := Nat.mul_le_mul_right (10 ^ tz10 A) hC0
      omega
    have hl0 := txt_some hC0
    refine ⟨core A * 10 ^ T.toNat, 10 ^ (-T).toNat, ?_, Nat.pow_pos (by omega), ?_⟩
    · rw [hT, scn_ftext _ _ (txt_dig _) (by omega) (by omega) T (by omega) (by omega), txt_num]
    · have e1 : core A * 10 ^ T.toNat * (2 ^ y * 5 ^ y) = fbF b * 2 ^ x * 5 ^ y * 10 ^ (-T).toNat := by rw [← Nat.mul_pow, hfr, hA]
      have e2 : core A * 10 ^ T.toNat * 2 ^ y = fbF b * 2 ^ x * 10 ^ (-T).toNat := by
        refine Nat.eq_of_mul_eq_mul_right (Nat.pow_pos (n := y) (show 0 < 5 by omega)) ?_
        rw [Nat.mul_assoc, e1, Nat.mul_assoc, Nat.mul_assoc, Nat.mul_comm (5 ^ y)]; ac_rfl
      obtain ⟨z, hz2⟩ : ∃ z, KU = y + z := ⟨1074 - y, by unfold KU; omega⟩
      have hz3 : fbE b = x + z := by unfold KU at hz2; omega
      rw [hz2, hz3, Nat.pow_add, Nat.pow_add, ← Nat.mul_assoc, e2]; ac_rfl
theorem ord_units {s n : Bool} {P Q r N D : Nat} {K : Int} (hQ : 0 < Q) (h : P * 2 ^ KU = FV r * Q) :
    ordS (s, P, Q, 0) (n, N, D, K) = icmp (sv s (FV r * (D * 2 ^ (-K).toNat))) (sv n (N * 2 ^ K.toNat * 2 ^ KU)) ∧
    ordS (n, N, D, K) (s, P, Q, 0) = icmp (sv n (N * 2 ^ K.toNat * 2 ^ KU)) (sv s (FV r * (D * 2 ^ (-K).toNat))) := by
  obtain ⟨c, hc, e1, e2⟩ := crossed P Q N D 0 K (2 ^ KU) (Nat.two_pow_pos _)
  have e1' : P * D * 2 ^ (0 - K).toNat * c = FV r * (D * 2 ^ (-K).toNat) * Q := by
    rw [← e1, show ((0 : Int).toNat) = 0 from rfl, Nat.pow_zero, Nat.mul_one, h]; ac_rfl
  have e2' : N * Q * 2 ^ (K - 0).toNat * c = N * 2 ^ K.toNat * 2 ^ KU * Q := by
    rw [← e2, show ((-(0 : Int)).toNat) = 0 from rfl, Nat.pow_zero, Nat.mul_one]
  unfold ordS
  simp only
  generalize FV r * (D * 2 ^ (-K).toNat) = u at *
  generalize N * 2 ^ K.toNat * 2 ^ KU = v at *
  generalize P * D * 2 ^ (0 - K).toNat = X at *
  generalize N * Q * 2 ^ (K - 0).toNat = Y at *
  constructor
  · rw [← icmp_mul _ _ hc, ← sv_mul, ← sv_mul, e1', e2', sv_mul, sv_mul, icmp_mul _ _ hQ]
  · rw [← icmp_mul _ _ hc, ← sv_mul, ← sv_mul, e1', e2', sv_mul, sv_mul, icmp_mul _ _ hQ]
theorem fpat_fin {n : Bool} {r : Nat} (hr : r < 9218868437227405312) : fpat n r < 18446744073709551616 ∧ fwrong (fpat n r) = false ∧ fpat n r ≠ 9223372036854775808 ∧ fpat n r % 9223372036854775808 = r ∧ (decide (9223372036854775808 ≤ fpat n r) = n ∨ r = 0) := by
  unfold fpat fwrong fabs
  by_cases h : r = 0
  · subst h; rw [if_pos rfl]; exact ⟨by omega, by decide, by omega, rfl, .inr rfl⟩
  · rw [if_neg h]
    cases n
    · rw [if_neg (by simp)]
      exact ⟨by omega, decide_eq_false (by omega), by omega, by omega, .inl (decide_eq_false (by omega))⟩
    · rw [if_pos rfl]
      exact ⟨by omega, decide_eq_false (by omega), by omega, by omega, .inl (decide_eq_true (by omega))⟩
theorem ex_ord {n : Bool} {r N D : Nat} {K : Int} (hr : r < 9218868437227405312) : scn (exT (fpat n r)) = .ok (exN (fpat n r)) ∧
    ordS (exN (fpat n r)) (n, N, D, K) = icmp (sv n (FV r * (D * 2 ^ (-K).toNat))) (sv n (N * 2 ^ K.toNat * 2 ^ KU)) ∧
    ordS (n, N, D, K) (exN (fpat n r)) = icmp (sv n (N * 2 ^ K.toNat * 2 ^ KU)) (sv n (FV r * (D * 2 ^ (-K).toNat))) := by
  obtain ⟨f1, f2, f3, f4, f5⟩ := fpat_fin (n := n) hr
  obtain ⟨P, Q, e, hQ, hP⟩ := ex_scn (fpat n r) f1 f2 f3
  have eN : exN (fpat n r) = (decide (9223372036854775808 ≤ fpat n r), P, Q, 0) := by unfold exN; rw [e]
  rw [f4] at hP
  refine ⟨by rw [e, eN], ?_⟩
  rw [eN]
  have := ord_units (s := decide (9223372036854775808 ≤ fpat n r)) (n := n) (N := N) (D := D) (K := K) hQ hP
  have hv : sv (decide (9223372036854775808 ≤ fpat n r)) (FV r * (D * 2 ^ (-K).toNat)) = sv n (FV r * (D * 2 ^ (-K).toNat)) := by
    rcases f5 with h | h
    · rw [h]
    · subst h
      rw [FV_zero, Nat.zero_mul]; unfold sv; split <;> split <;> simp
  rw [hv] at this
  exact this
theorem bnd_rng (N D : Nat) (hD : 0 < D) : ∃ lo hi ne, lo = min (fl (N / D)) 9218868437227405311 ∧ hi = min (rngA N D) 9218868437227405312 ∧ ne = min (rngN N D) 9218868437227405312 ∧ (ne = lo ∨ ne = hi) ∧
    ((lo = hi ∧ FV lo * D = N) ∨ (hi = lo + 1 ∧ FV lo * D < N ∧ (hi = 9218868437227405312 ∨ N < FV hi * D))) := by
  refine ⟨_, _, _, rfl, rfl, rfl, ?_⟩
  have h1 := fl_div_le N D hD
  have h2 := lt_fl_div N D hD
  have hcap : 9218868437227405312 ≤ fl (N / D) → FV 9218868437227405311 * D < N := fun h => Nat.lt_of_lt_of_le (Nat.mul_lt_mul_of_pos_right (FV_lt (show 9218868437227405311 < fl (N / D) by omega)) hD) h1
  unfold rngA rngN
  generalize fl (N / D) = a at *
  rw [Nat.add_mul]
  by_cases e : FV a * D = N
  · rw [if_pos e, if_pos (by omega)]
    rcases Nat.lt_or_ge a 9218868437227405312 with h | h
    · rw [show min a 9218868437227405311 = a by omega, show min a 9218868437227405312 = a by omega]
      exact ⟨.inl rfl, .inl ⟨rfl, e⟩⟩
    · rw [show min a 9218868437227405311 = 9218868437227405311 by omega, show min a 9218868437227405312 = 9218868437227405312 by omega]
      exact ⟨.inr rfl, .inr ⟨rfl, hcap h, .inl rfl⟩⟩
  · rw [if_neg e]
    rcases Nat.lt_or_ge a 9218868437227405312 with h | h
    · rw [show min a 9218868437227405311 = a by omega, show min (a + 1) 9218868437227405312 = a + 1 by omega]
      refine ⟨?_, .inr ⟨rfl, by omega, .inr h2⟩⟩
      split
      · left; omega
      · split
        · right; omega
        · split
          · left; omega
          · right; omega
    · rw [show min a 9218868437227405311 = 9218868437227405311 by omega, show min (a + 1) 9218868437227405312 = 9218868437227405312 by omega]
      refine ⟨.inr ?_, .inr ⟨rfl, hcap h, .inl rfl⟩⟩
      split
      · omega
      · split
        · omega
        · split <;> omega
end Go.Proofs.YtiadjcilfljdaaaDoor
end

section
namespace Go.Proofs.YtiadjcilfljdaaaDoor
set_option linter.unusedVariables false
set_option linter.unusedSimpArgs false
open Go.RowKit Verge

theorem rng_back (d : Int) (s : Bool) {r : Nat} (hr : r ≤ 9218868437227405311) : rng d s (FV r) 1 = r := by
  have h1 : fl (FV r / 1) = r := by rw [Nat.div_one, fl_FV]
  have h2 : FV r < FV (r + 1) := FV_lt (by omega)
  have hA : rngA (FV r) 1 = r := by unfold rngA; rw [h1, if_pos (by omega)]
  have hN : rngN (FV r) 1 = r := by unfold rngN; rw [h1, if_pos (by omega)]
  unfold rng
  rw [hA, hN, h1]
  repeat' split
  all_goals omega
theorem ex_back (d : Int) (b : Nat) (hb : b < 18446744073709551616) (hw : fwrong b = false) (hz : b ≠ 9223372036854775808) : readS d (exT b) = (b, 0, 0) := by
  obtain ⟨P, Q, e, hQ, hP⟩ := ex_scn b hb hw hz
  have hr : b % 9223372036854775808 ≤ 9218868437227405311 := by
    unfold fwrong fabs at hw
    have := of_decide_eq_false hw
    omega
  have hg : rng d (decide (9223372036854775808 ≤ b)) (P * 2 ^ (0 : Int).toNat * 2 ^ KU) (Q * 2 ^ (-(0 : Int)).toNat) = b % 9223372036854775808 := by
    rw [show ((0 : Int).toNat) = 0 from rfl, show ((-(0 : Int)).toNat) = 0 from rfl, Nat.pow_zero, Nat.mul_one, Nat.mul_one]
    rw [rng_eq (M := FV (b % 9223372036854775808)) (E := 1) hQ (by omega) (by rw [hP]; omega)]
    exact rng_back d _ hr
  unfold readS
  rw [e]
  show (fpat _ (rng _ _ _ _), _, _) = _
  rw [hg]
  unfold fpat
  by_cases h0 : b % 9223372036854775808 = 0
  · rw [if_pos h0, show b = 0 by omega]
  · rw [if_neg h0]
    by_cases h : 9223372036854775808 ≤ b
    · rw [decide_eq_true h, if_pos rfl, show 9223372036854775808 + b % 9223372036854775808 = b by omega]
    · rw [decide_eq_false h, if_neg (by simp), show b % 9223372036854775808 = b by omega]
end Go.Proofs.YtiadjcilfljdaaaDoor
end

section
namespace Go.Proofs.YtiadjcilfljdaaaDoor
set_option linter.unusedVariables false
set_option linter.unusedSimpArgs false
open Go.RowKit Verge

theorem rng_ends (N D : Nat) : rng (-1) false N D = min (fl (N / D)) 9218868437227405311 ∧ rng 1 false N D = min (rngA N D) 9218868437227405312 ∧ rng (-1) true N D = min (rngA N D) 9218868437227405312 ∧ rng 1 true N D = min (fl (N / D)) 9218868437227405311 := by
  unfold rng
  generalize fl (N / D) = a
  generalize rngA N D = b
  refine ⟨by simp, by simp, by simp, by simp⟩
theorem icmp_neg {a b : Int} (h : a < b) : icmp a b = -1 := by unfold icmp; rw [if_pos h]
theorem fpat_f (r : Nat) : fpat false r = r := by
  unfold fpat; split
  · omega
  · rfl
theorem fpat_t {r : Nat} (h : r ≠ 0) : fpat true r = 9223372036854775808 + r := by
  unfold fpat; rw [if_neg h, if_pos rfl]
/-- The next number above. -/
def stp (b : Nat) : Nat := if b = 9223372036854775809 ∨ b = 9223372036854775808 then 0 else if 9223372036854775808 < b then b - 1 else b + 1
/-- What is asked of what a numeral is read as, Down, Up and Near. -/
structure Bnd (x : Bool × Nat × Nat × Int) (lo hi ne : Nat) : Prop where
  near : ne = lo ∨ ne = hi
  l1 : lo ≠ 9223372036854775808 ∧ lo ≠ 9218868437227405312
  h1 : hi ≠ 9223372036854775808 ∧ hi ≠ 18442240474082181120
  law : (lo = hi ∧ lo ≠ 18442240474082181120 ∧ scn (exT lo) = .ok (exN lo) ∧ ordS (exN lo) x = 0 ∧ ordS x (exN lo) = 0 ∧ fwrong lo = false) ∨
    (lo ≠ hi ∧ stp lo = hi ∧ (lo = 18442240474082181120 ∨ (scn (exT lo) = .ok (exN lo) ∧ ordS (exN lo) x = -1 ∧ fwrong lo = false)) ∧ (hi = 9218868437227405312 ∨ (scn (exT hi) = .ok (exN hi) ∧ ordS x (exN hi) = -1 ∧ fwrong hi = false)))
theorem bnd_law (x : Bool × Nat × Nat × Int) (hD : 0 < x.2.2.1) : Bnd x (ordP (-1) x) (ordP 1 x) (ordP 0 x) := by
  obtain ⟨n, N, D, K⟩ := x
  simp only at hD
  unfold ordP
  simp only
  rw [rng_near]
  have hD' : 0 < D * 2 ^ (-K).toNat := Nat.mul_pos hD (Nat.two_pow_pos _)
  have hE := fun r (hr : r < 9218868437227405312) => ex_ord (n := n) (r := r) (N := N) (D := D) (K := K) hr
  have hff := fun r (hr : r < 9218868437227405312) => (fpat_fin (n := n) hr).2.1
  generalize D * 2 ^ (-K).toNat = D' at *
  generalize N * 2 ^ K.toNat * 2 ^ KU = N' at *
  obtain ⟨lo, hi, ne, e1, e2, e3, h1, h2⟩ := bnd_rng N' D' hD'
  obtain ⟨g1, g2, g3, g4⟩ := rng_ends N' D'
  have hl : lo ≤ 9218868437227405311 := by omega
  have hh : hi ≤ 9218868437227405312 := by omega
  cases n
  · rw [g1, g2, ← e1, ← e2, ← e3]
    simp only [fpat_f] at *
    refine ⟨h1, by omega, by omega, ?_⟩
    rcases h2 with ⟨h, hv⟩ | ⟨h, hv, hw⟩
    · obtain ⟨a1, a2, a3⟩ := hE lo (by omega)
      rw [hv] at a2 a3
      exact .inl ⟨h, by omega, a1, a2.trans (icmp_self _), a3.trans (icmp_self _), hff lo (by omega)⟩
    · obtain ⟨a1, a2, a3⟩ := hE lo (by omega)
      refine .inr ⟨by omega, by unfold stp; rw [if_neg (by omega), if_neg (by omega)]; exact h.symm, .inr ⟨a1, a2.trans (icmp_neg ?_), hff lo (by omega)⟩, ?_⟩
      · simp [sv]; omega
      · rcases Nat.lt_or_ge hi 9218868437227405312 with h3 | h3
        · obtain ⟨b1, b2, b3⟩ := hE hi h3
          refine .inr ⟨b1, b3.trans (icmp_neg ?_), hff hi h3⟩
          have : N' < FV hi * D' := by omega
          simp [sv]; omega
        · exact .inl (by omega)
  · rw [g3, g4, ← e1, ← e2, ← e3]
    have hz : ∀ r, fpat true r = if r = 0 then 0 else 9223372036854775808 + r := fun r => by unfold fpat; simp
    have hz1 := hz lo
    have hz2 := hz hi
    have hz3 := hz ne
    rcases h2 with ⟨h, hv⟩ | ⟨h, hv, hw⟩
    · obtain ⟨a1, a2, a3⟩ := hE lo (by omega)
      rw [hv] at a2 a3
      have hne : ne = lo := by omega
      rw [← h, hne]
      refine ⟨.inl rfl, ?_, ?_, .inl ⟨rfl, ?_, a1, a2.trans (icmp_self _), a3.trans (icmp_self _), hff lo (by omega)⟩⟩
      all_goals (rw [hz1]; split <;> omega)
    · obtain ⟨a1, a2, a3⟩ := hE lo (by omega)
      have hp : fpat true hi = 9223372036854775808 + hi := fpat_t (by omega)
      refine ⟨?_, by rw [hp]; omega, by rw [hz1]; split <;> omega, .inr ⟨by rw [hp, hz1]; split <;> omega, ?_, ?_, .inr ⟨a1, a3.trans (icmp_neg ?_), hff lo (by omega)⟩⟩⟩
      · rcases h1 with h1 | h1
        · right; rw [h1]
        · left; rw [h1]
      · rw [hp, hz1]
        unfold stp
        by_cases h0 : lo = 0
        · rw [if_pos h0, if_pos (by omega)]
        · rw [if_neg h0, if_neg (by omega), if_pos (by omega)]; omega
      · rcases Nat.lt_or_ge hi 9218868437227405312 with h3 | h3
        · obtain ⟨b1, b2, b3⟩ := hE hi h3
          refine .inr ⟨b1, b2.trans (icmp_neg ?_), hff hi h3⟩
          have : N' < FV hi * D' := by omega
          simp [sv]; omega
        · left; rw [hp]; omega
      · simp [sv]; omega
end Go.Proofs.YtiadjcilfljdaaaDoor
end

section
namespace Go.Proofs.YtiadjcilfljdaaaDoor
set_option linter.unusedVariables false
set_option linter.unusedSimpArgs false
open Go.RowKit Verge

variable {w : World} {v u t : Value} {N D Q R : Nat}
set_option maxRecDepth 40000 in
set_option maxHeartbeats 1000000 in
theorem times_any (k : Nat) (hv : IsT N v w) (hk : k < 18446744073709551616) (n1 : blen N ≤ 90000) :
    Calls Tryd.prog 38 #[v, .int .u64 (k : Int)] w (Ans w (IsT (N * k))) := by
  have hkb : blen k ≤ 64 := (blen_lt _ _).2 hk
  have HS := Lib.hid (fun W => nsmall_is (w := W) k hk)
  have HM := Lib.hid (fun W x (hb' : Below w.heap.size w W) (hx : IsT k x W) => nmul_is (IsT.mono _ _ _ _ hb' hv) hx (by omega) (by omega))
  clear hv n1 hkb
  go_enter Tryd.func38, Tryd.ntmps38
  go_wp2_with (first
    | (go_at_call 61; (with_reducible refine (HS.out _).mono ?_); rintro e w1 ⟨x1, rfl, hx, hb1⟩; have HX := Lib.hid hx; have HB1 := Lib.hid hb1; clear hx hb1)
    | (go_at_call 29; (with_reducible refine (HM.out _ _ HB1.out HX.out).mono ?_); rintro e w2 ⟨x2, rfl, ⟨y1, y2, rfl, hy, rfl⟩, hb2⟩; have HY := Lib.hid hy; have HB2 := Lib.hid (raft HB1.out hb2); clear hy hb2))
  go_ret
  exact ⟨_, rfl, HY.out, HB2.out⟩
/-- Does a quotient's size go up? -/
def upB (d : Int) (neg : Bool) (Q R B : Nat) : Bool :=
  if d = 1 ∨ d = -1 then decide (R ≠ 0 ∧ decide (d = -1) = neg) else decide (B < R ∨ B = R ∧ Q % 2 = 1)
theorem ulen (n : Nat) : (dig n).length = 0 ↔ n = 0 := by
  constructor
  · intro h
    refine Classical.byContradiction fun hn => ?_
    have := dig_length_pos hn
    omega
  · rintro rfl; rw [dig_zero]; rfl
theorem and_1u (x : Nat) (hx : x < 4294967296) : bits .and .u32 (x : Int) 1 = ((x % 2 : Nat) : Int) := by
  have : bits .and .u32 (x : Int) 1 = ((x &&& 1 : Nat) : Int) := Go.u32_and_nat x 1 hx (by omega)
  rw [this, Nat.and_one_is_mod]
end Go.Proofs.YtiadjcilfljdaaaDoor
end

section
namespace Go.Proofs.YtiadjcilfljdaaaDoor
set_option linter.unusedVariables false
set_option linter.unusedSimpArgs false
open Go.RowKit Verge

set_option maxRecDepth 20000 in
theorem letters_zero (v : Value) (w : World) (hv : IsT 0 v w) : Calls Tryd.prog 30 #[v] w fun e w' => e = .returned (.string (bs [])) ∧ Below w.heap.size w w' := by
  obtain ⟨A, rfl, hR⟩ := hv
  have e0 : (dig 0).length = 0 := by rw [dig_zero]; rfl
  rw [e0]
  have hcv := run_convert_bytes_nil (P := Tryd.prog) w 63 5 Tryd.underlying63 Tryd.underlying5 0 0 9 Tryd.underlying9
  clear hR e0
  go_enter Tryd.func30, Tryd.ntmps30
  go_wp2
  go_loopw [0, 3] (fun av ov wr => av = .slice A 0 0 ∧ ov = .slice none 0 0 ∧ wr = w) (fun _ _ _ => 0)
  case atStart => exact ⟨rfl, rfl, rfl⟩
  case round =>
    obtain ⟨rfl, rfl, rfl⟩ := hrel
    go_wp2
    go_loopw [10, 11] (fun iv jv wr2 => iv = .int .i64 0 ∧ jv = .int .i64 (-1) ∧ wr2 = wr) (fun _ _ _ => 0)
    case atStart => exact ⟨rfl, rfl, rfl⟩
    case round =>
      obtain ⟨rfl, rfl, rfl⟩ := hrel
      go_wp2
      go_ret
      exact ⟨rfl, Below.refl _ _⟩
/-- Letters, of 0 too. -/
theorem letters_all (N : Nat) (v : Value) (W : World) (hv : IsT N v W) (hb : blen N ≤ 10000) : Calls Tryd.prog 30 #[v] W fun e w' => e = .returned (.string (bs (txt N))) ∧ Below W.heap.size W w' := by
  rcases Nat.eq_zero_or_pos N with h | h
  · subst h; exact letters_zero v W hv
  · exact letters_any N v W hv h hb
theorem run_make_u8 (n : Nat) (hn : n ≤ 100000) (w : World) :
    (Instr.makeSlice 63 (.int .i64 (n : Int)) (.int .i64 (n : Int))).run Tryd.prog w = .ok (.slice (some ⟨w.heap.size, 0, none⟩) n n) (w.alloc (.cells (b8s (List.replicate n 0)).toArray 5)) := by
  obtain ⟨i0, hi, hz0, hz1, hz2⟩ := info_parts Tryd.info5
  have h := run_make (P := Tryd.prog) w 63 5 i0 (.int .u8 0) Tryd.underlying63 hi hz0 .i64 .i64 n n (by omega) (by omega) (by rw [hz2]; omega) (by omega)
  have e : madeCells #[.int .u8 0] n = (b8s (List.replicate n 0)).toArray := by
    apply Array.toList_inj.1
    rw [toList_madeCells_one]
    simp [b8s]
  rw [h, hz1]
  simp only [Int.toNat_natCast, Value.cells, Nat.mul_one, e]
theorem grow_made (w : World) (n : Nat) (hn : n ≤ 100000) (B : Nat) (hB : B ≤ w.heap.size) : GrowB (w.alloc (.cells (b8s (List.replicate n 0)).toArray 5)) B (.slice (some ⟨w.heap.size, 0, none⟩) n n) (List.replicate n 0) := by
  show World.ownsRow _ _ _ _ _ _ _
  rw [List.length_replicate]
  exact ⟨by simp [b8s], .inr ⟨w.heap.size, n, _, rfl, hB, heap_alloc_new w _, Nat.le_refl _, by unfold maxLen; omega, by simp [b8s], by simp [b8s]⟩⟩
end Go.Proofs.YtiadjcilfljdaaaDoor
end

section
namespace Go.Proofs.YtiadjcilfljdaaaDoor
set_option linter.unusedVariables false
set_option linter.unusedSimpArgs false
open Go.RowKit Verge

/-- The whole part, downward, of a pattern. -/
def flr (x : Nat) : Nat := FloatKind.f64.encode ((FloatKind.f64.decode x).integral .down)
/-- Is a pattern a number or an infinity? -/
def numb (x : Nat) : Bool := match FloatKind.f64.decode x with | .nan _ _ => false | _ => true
/-- What is asked of a pattern that is no number is left open. -/
def flq (q : Bool → Nat → Sem Value) (d : Ieee.Datum) : Sem Value := match d with | .nan s t => q s t | d => pure (.float .f64 (FloatKind.f64.encode (d.integral .down)))
end Go.Proofs.YtiadjcilfljdaaaDoor
end

section
namespace Go.Proofs.YtiadjcilfljdaaaDoor
set_option linter.unusedVariables false
set_option linter.unusedSimpArgs false
open Go.RowKit Verge

/-- The exponent's float times the logarithm, by the exponent's number from -1074 on. -/
def estY (i : Nat) : Option Nat := Ieee.double.mul (FloatKind.f64.nearest ((i : Int) - 1074)) 4599094494223104489
def estOk (i : Nat) : Bool :=
  match estY i with
  | none => false
  | some y => numb y && decide (y < 18446744073709551616) && (match (FloatKind.f64.decode (flr y)).toInt .zero with | some n => decide (-400 ≤ n ∧ n ≤ 400) | none => false)
theorem est_all : ∀ i < 2110, estOk i = true := by decide +kernel
theorem est_spec {e : Int} (h1 : -1074 ≤ e) (h2 : e ≤ 1030) : ∃ y n, Ieee.double.mul (FloatKind.f64.nearest e) 4599094494223104489 = some y ∧ numb y = true ∧ y < 18446744073709551616 ∧ (FloatKind.f64.decode (flr y)).toInt .zero = some n ∧ -400 ≤ n ∧ n ≤ 400 := by
  obtain ⟨i, hi⟩ : ∃ i : Nat, e = (i : Int) - 1074 := ⟨(e + 1074).toNat, by omega⟩
  have h := est_all i (by omega)
  subst hi
  unfold estOk at h
  cases hy : estY i with
  | none => rw [hy] at h; cases h
  | some y =>
    rw [hy] at h
    simp only [Bool.and_eq_true, decide_eq_true_eq] at h
    cases hn : (FloatKind.f64.decode (flr y)).toInt .zero with
    | none => rw [hn] at h; cases h.2
    | some n =>
      rw [hn] at h
      have h3 := of_decide_eq_true h.2
      exact ⟨y, n, hy, h.1.1, h.1.2, hn, h3.1, h3.2⟩
end Go.Proofs.YtiadjcilfljdaaaDoor
end

section
namespace Go.Proofs.YtiadjcilfljdaaaDoor
set_option linter.unusedVariables false
set_option linter.unusedSimpArgs false
open Go.RowKit Verge

theorem mul_some (x : Nat) (hx : x < 18446744073709551616) (h : fabs x < 9218868437227405312) : ∃ y, Ieee.double.mul x 4841369599423283200 = some y := by
  obtain ⟨k, m, e, hm⟩ := read_num (x := x) hx h
  have e2 : Ieee.double.read 4841369599423283200 = .number false 4503599627370496 0 := rfl
  refine ⟨Ieee.double.nearest (decide (9223372036854775808 ≤ x) ^^ false) (m * 4503599627370496) (-1074 + (k : Int) + 0), ?_⟩
  unfold Ieee.Format.mul
  rw [e, e2]
  rfl
theorem uand2047 (n : Int) : bits .and .u64 n 2047 = n % 2048 := by
  have h127 : (BitVec.ofInt 64 2047).toNat = 2 ^ 11 - 1 := by decide
  have key : (BitVec.ofInt 64 n &&& BitVec.ofInt 64 2047).toNat = (n % ((2 ^ 64 : Nat) : Int)).toNat % 2 ^ 11 := by
    rw [BitVec.toNat_and, BitVec.toNat_ofInt, h127, Nat.and_two_pow_sub_one_eq_mod]
  show IntKind.u64.wrap ((BitVec.ofInt 64 n &&& BitVec.ofInt 64 2047).toNat : Nat) = n % 2048
  rw [key, IntKind.wrap_u64]
  omega
end Go.Proofs.YtiadjcilfljdaaaDoor
end

section
namespace Go.Proofs.YtiadjcilfljdaaaDoor
set_option linter.unusedVariables false
set_option linter.unusedSimpArgs false
open Go.RowKit Verge

/-- How far Print's loop has still to go. -/
def prM (N D n : Nat) (K : Int) : Nat := if dcnt (qat N D K) = 0 then (K + 400).toNat + 2 else if dcnt (qat N D K) = n then 0 else 1
theorem pow_336 : (2 : Nat) ^ 1116 ≤ 10 ^ 336 := by
  obtain ⟨z, hz⟩ : ∃ z, z = 12 := ⟨_, rfl⟩
  rw [show (1116 : Nat) = 93 * 12 from rfl, show (336 : Nat) = 28 * 12 from rfl, ← hz, Nat.pow_mul, Nat.pow_mul]
  exact Nat.pow_le_pow_left (by decide) z
theorem prt_step {N D n : Nat} {K : Int} (hD : 0 < D) (hlo : ¬ belowT N D (-336)) (hhi : belowT N D 336) (hn1 : 1 ≤ n) (hn2 : n ≤ 1100) (h1 : -1600 ≤ K) (h2 : K ≤ 1000) (hm : dcnt (qat N D K) ≠ n) :
    -1600 ≤ K + dcnt (qat N D K) - n ∧ K + dcnt (qat N D K) - n ≤ 1000 ∧ prM N D n (K + dcnt (qat N D K) - n) < prM N D n K := by
  by_cases h0 : dcnt (qat N D K) = 0
  · have hb := (qat_le (N := N) hD K 0).1 (by omega)
    rw [show K + ((0 : Nat) : Int) = K by omega] at hb
    have hk : -336 < K := by
      refine Classical.byContradiction fun hc => hlo (belowT_mono hb (by omega))
    have e1 : prM N D n K = (K + 400).toNat + 2 := by unfold prM; rw [if_pos h0]
    rw [h0, e1]
    refine ⟨by omega, by omega, ?_⟩
    unfold prM
    split
    · omega
    · split <;> omega
  · have ht := qat_turn hD (Nat.pos_of_ne_zero h0) (by omega) rfl (K := K) (n := n)
    obtain ⟨b1, b2⟩ := (qat_top hD (by omega)).1 ht
    have e1 : prM N D n K = 1 := by unfold prM; rw [if_neg h0, if_neg hm]
    generalize dcnt (qat N D K) = m at *
    refine ⟨?_, ?_, ?_⟩
    · refine Classical.byContradiction fun hc => hlo (belowT_mono b1 (by omega))
    · refine Classical.byContradiction fun hc => b2 (belowT_mono hhi (by omega))
    · rw [e1]
      unfold prM
      rw [ht, if_neg (by omega), if_pos rfl]
      omega
theorem blen_ten (j : Nat) : blen (10 ^ j) ≤ 4 * j + 1 := by
  obtain ⟨z, hz⟩ : ∃ z, z = 4 * j + 1 := ⟨_, rfl⟩
  rw [← hz]
  refine (blen_lt _ _).2 ?_
  have a1 : 10 ^ j ≤ 16 ^ j := Nat.pow_le_pow_left (by omega) j
  have a2 : 16 ^ j = 2 ^ (4 * j) := by rw [Nat.pow_mul]
  have a3 : 2 ^ (4 * j) < 2 ^ z := Nat.pow_lt_pow_right (by omega) (by omega)
  omega
/-- The quotient's digits, rounded. -/
def prQ (d : Int) (s : Bool) (N D : Nat) (K : Int) : Nat := if upB d s (qat N D K) (2 * (N * 10 ^ (-K).toNat % (D * 10 ^ K.toNat))) (D * 10 ^ K.toNat) = true then qat N D K + 1 else qat N D K
/-- n digits of a number, rounded: the text. -/
def prT (d : Int) (s : Bool) (N D : Nat) (K : Int) (n : Nat) : List UInt8 :=
  ftext s ((txt (prQ d s N D K)).take n) (if n < (txt (prQ d s N D K)).length then K + 1 else K)
theorem prQ_len {d : Int} {s : Bool} {N D : Nat} {K : Int} {n : Nat} (h : dcnt (qat N D K) = n) (hn : 1 ≤ n) : n ≤ (txt (prQ d s N D K)).length ∧ (txt (prQ d s N D K)).length ≤ n + 1 ∧ blen (prQ d s N D K) ≤ blen (qat N D K) + 1 ∧ 0 < prQ d s N D K := by
  obtain ⟨h1, h2⟩ := dcnt_spec (qat N D K)
  have hq : 0 < qat N D K := by
    rcases Nat.eq_zero_or_pos (qat N D K) with e | e
    · rw [e, dcnt_zero] at h; omega
    · exact e
  rw [h] at h1 h2
  have key : ∀ Q, qat N D K ≤ Q → Q ≤ qat N D K + 1 → n ≤ (txt Q).length ∧ (txt Q).length ≤ n + 1 ∧ blen Q ≤ blen (qat N D K) + 1 := by
    intro Q a b
    refine ⟨?_, ?_, ?_⟩
    · have : ¬ dcnt Q ≤ n - 1 := by
        rw [dcnt_le]
        have := (h2 hq).2
        omega
      show n ≤ dcnt Q
      omega
    · show dcnt Q ≤ n + 1
      rw [dcnt_le, Nat.pow_succ]
      have : 0 < 10 ^ n := Nat.pow_pos (by omega)
      omega
    · rw [blen_lt, Nat.pow_succ]
      have := (blen_lt (qat N D K) _).1 (Nat.le_refl _)
      omega
  unfold prQ
  split
  · exact ⟨(key _ (by omega) (by omega)).1, (key _ (by omega) (by omega)).2.1, (key _ (by omega) (by omega)).2.2, by omega⟩
  · exact ⟨(key _ (by omega) (by omega)).1, (key _ (by omega) (by omega)).2.1, (key _ (by omega) (by omega)).2.2, by omega⟩

end Go.Proofs.YtiadjcilfljdaaaDoor
end
