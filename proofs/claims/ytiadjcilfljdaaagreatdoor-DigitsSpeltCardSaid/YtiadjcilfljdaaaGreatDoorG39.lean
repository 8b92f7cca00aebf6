/- Layer 5, plain: a text of digits and an exponent is scanned to its number. -/
import Derived.Test.YtiadjcilfljdaaaGreatDoorG27
import Derived.Test.YtiadjcilfljdaaaGreatDoorG16
import Derived.Lib.ItoaLen
import Derived.Test.YtiadjcilfljdaaaGreatDoorG26
import Derived.Test.YtiadjcilfljdaaaGreatDoorG37
section
namespace Go.Proofs.YtiadjcilfljdaaaGreatDoor
set_option linter.unusedVariables false
set_option linter.unusedSimpArgs false
open Go.RowKit Verge

theorem dig_byte {v : Nat} (hv : v < 10) : isD (UInt8.ofNat (48 + v)) = true ∧ dvl (UInt8.ofNat (48 + v)) = v := by
  have h : (UInt8.ofNat (48 + v)).toNat = 48 + v := by rw [UInt8.toNat_ofNat']; omega
  unfold isD dvl
  rw [h]
  exact ⟨decide_eq_true (by omega), by rw [if_pos (by omega)]; omega⟩
theorem numB_push (s : List UInt8) (c : UInt8) : numB 10 (s ++ [c]) = numB 10 s * 10 + dvl c := by unfold numB; rw [List.foldl_append]; rfl
theorem dd_law (n : Nat) : (∀ c ∈ Lib.decDigits n, isD c = true) ∧ numB 10 (Lib.decDigits n) = n ∧ Lib.decDigits n ≠ [] := by
  induction n using Nat.strongRecOn with
  | _ n ih =>
    rw [Lib.decDigits]
    by_cases h : n < 10
    · rw [dif_pos h]
      refine ⟨fun c hc => ?_, ?_, by simp⟩
      · rw [List.mem_singleton] at hc; subst hc; exact (dig_byte h).1
      · have := numB_push [] (UInt8.ofNat (48 + n))
        rw [List.nil_append] at this
        rw [this, (dig_byte h).2]; simp [numB]
    · rw [dif_neg h]
      obtain ⟨i1, i2, i3⟩ := ih (n / 10) (by omega)
      have hb := dig_byte (v := n % 10) (by omega)
      refine ⟨fun c hc => ?_, ?_, by simp⟩
      · rcases List.mem_append.1 hc with hc | hc
        · exact i1 c hc
        · rw [List.mem_singleton] at hc; subst hc; exact hb.1
      · rw [numB_push, i2, hb.2]; omega
theorem txt_dig (n : Nat) : ∀ c ∈ txt n, isD c = true := by
  unfold txt; split
  · intro c hc; simp at hc
  · exact (dd_law n).1
theorem txt_num (n : Nat) : numB 10 (txt n) = n := by
  unfold txt; split
  · rename_i h; rw [h]; rfl
  · exact (dd_law n).2.1
theorem tw_all {p : UInt8 → Bool} : ∀ {l : List UInt8}, (∀ c ∈ l, p c = true) → l.takeWhile p = l ∧ l.dropWhile p = []
  | [], _ => ⟨rfl, rfl⟩
  | c :: l, h => by
    have hc := h c (by simp)
    have ih := tw_all (l := l) fun z hz => h z (by simp [hz])
    rw [List.takeWhile_cons, List.dropWhile_cons, hc, ih.1, ih.2]
    exact ⟨rfl, rfl⟩
theorem tw_app {p : UInt8 → Bool} {x : UInt8} {r : List UInt8} (hx : p x = false) : ∀ {l : List UInt8}, (∀ c ∈ l, p c = true) → (l ++ x :: r).takeWhile p = l ∧ (l ++ x :: r).dropWhile p = x :: r
  | [], _ => by rw [List.nil_append, List.takeWhile_cons, List.dropWhile_cons, hx]; exact ⟨rfl, rfl⟩
  | c :: l, h => by
    have hc := h c (by simp)
    have ih := tw_app (r := r) hx (l := l) fun z hz => h z (by simp [hz])
    rw [List.cons_append, List.takeWhile_cons, List.dropWhile_cons, hc, ih.1, ih.2]
    exact ⟨rfl, rfl⟩
theorem isD_not {c : UInt8} (h : isD c = true) : c.toNat ≠ 45 ∧ c.toNat ≠ 43 := by
  have := of_decide_eq_true h; omega
theorem fsg_dig {l : List UInt8} (h : ∀ c ∈ l, isD c = true) (r : List UInt8) (h0 : l ≠ []) : sg (l ++ r) = (false, l ++ r) := by
  cases l with
  | nil => exact absurd rfl h0
  | cons c l =>
    have := isD_not (h c (by simp))
    rw [List.cons_append]
    show (if c.toNat = 45 then (true, l ++ r) else if c.toNat = 43 then (false, l ++ r) else (false, c :: (l ++ r))) = _
    rw [if_neg this.1, if_neg this.2]
theorem sg_itoa (e : Int) : sg (Lib.itoa e) = (decide (e < 0), Lib.decDigits e.natAbs) := by
  obtain ⟨h1, h2, h3⟩ := dd_law e.natAbs
  unfold Lib.itoa
  by_cases h : e < 0
  · rw [if_pos h, decide_eq_true h]; rfl
  · rw [if_neg h, decide_eq_false h, show e.toNat = e.natAbs by omega]
    have := fsg_dig h1 [] h3
    rw [List.append_nil] at this
    exact this
theorem xvl_itoa (e : Int) : xvl (Lib.itoa e) = e := by
  unfold xvl
  rw [sg_itoa, (dd_law e.natAbs).2.1]
  by_cases h : e < 0
  · rw [if_pos (decide_eq_true h)]; omega
  · rw [if_neg (by simp [h])]; omega
theorem xpo_itoa (e : Int) : xpo (Lib.itoa e) = .ok (Lib.itoa e) := by
  obtain ⟨h1, h2, h3⟩ := dd_law e.natAbs
  unfold xpo
  rw [sg_itoa, if_neg]
  simp only [(tw_all h1).1, (tw_all h1).2]
  simp [h3]
theorem cutD_ftext (c : UInt8) (t : List UInt8) (hc : isD c = true) (ht : ∀ z ∈ t, isD z = true) (E : Int) :
    cutD (c :: ((if t = [] then [] else 46 :: t) ++ 101 :: Lib.itoa E)) = .ok (.dc [c] (if t = [] then none else some t) (some (Lib.itoa E))) := by
  have h1 : isD 101 = false := by decide
  have h2 : isD 46 = false := by decide
  unfold cutD ptd
  by_cases h : t = []
  · subst h
    obtain ⟨a1, a2⟩ := tw_app (p := isD) (x := 101) (r := Lib.itoa E) h1 (l := [c]) (by simpa using hc)
    rw [List.cons_append, List.nil_append] at a1 a2
    rw [if_pos rfl, if_pos rfl, List.nil_append, a1, a2]
    simp [xpo_itoa]
  · obtain ⟨a1, a2⟩ := tw_app (p := isD) (x := 46) (r := t ++ 101 :: Lib.itoa E) h2 (l := [c]) (by simpa using hc)
    rw [List.cons_append, List.nil_append] at a1 a2
    obtain ⟨b1, b2⟩ := tw_app (p := isD) (x := 101) (r := Lib.itoa E) h1 (l := t) ht
    rw [if_neg h, if_neg h, List.cons_append, a1, a2]
    simp [b1, b2, xpo_itoa]
theorem cut_ftext (neg : Bool) (c : UInt8) (t : List UInt8) (hc : isD c = true) (ht : ∀ z ∈ t, isD z = true) (k : Int) :
    cut (ftext neg (c :: t) k) = .ok (neg, .dc [c] (if t = [] then none else some t) (some (Lib.itoa (((c :: t).length : Int) - 1 + k)))) := by
  have e : ftext neg (c :: t) k = (if neg = true then [45] else []) ++ c :: ((if t = [] then [] else 46 :: t) ++ 101 :: Lib.itoa (((c :: t).length : Int) - 1 + k)) := by
    unfold ftext
    cases t with
    | nil => simp
    | cons x t => simp
  rw [e]
  generalize (((c :: t).length : Int) - 1 + k) = E
  obtain ⟨r, hr⟩ : ∃ r, (if t = [] then [] else 46 :: t) ++ 101 :: Lib.itoa E = r := ⟨_, rfl⟩
  have hs : sg ((if neg = true then [45] else []) ++ c :: r) = (neg, c :: r) := by
    cases neg
    · have := fsg_dig (l := [c]) (by simpa using hc) r (by simp)
      simpa using this
    · rfl
  have hx : hexy (c :: r) = none := by
    have : ∃ x s, r = x :: s ∧ x.toNat ≠ 120 ∧ x.toNat ≠ 88 := by
      rw [← hr]
      by_cases h : t = []
      · rw [if_pos h]; exact ⟨101, _, rfl, by decide, by decide⟩
      · rw [if_neg h]; exact ⟨46, _, rfl, by decide, by decide⟩
    obtain ⟨x, s, rfl, x1, x2⟩ := this
    show (if c.toNat = 48 ∧ (x.toNat = 120 ∨ x.toNat = 88) then some s else none) = none
    rw [if_neg (by omega)]
  unfold cut
  rw [hr, hs]
  simp only [hx]
  rw [← hr, cutD_ftext c t hc ht E]
  rfl
/-- A text of digits and an exponent is scanned to its number. -/
theorem scn_ftext (neg : Bool) (d : List UInt8) (hd : ∀ z ∈ d, isD z = true) (h1 : 1 ≤ d.length) (h2 : d.length ≤ 4000) (k : Int) (k1 : -9999 ≤ (d.length : Int) - 1 + k) (k2 : (d.length : Int) - 1 + k ≤ 9999) :
    scn (ftext neg d k) = .ok (neg, numB 10 d * 10 ^ k.toNat, 10 ^ (-k).toNat, 0) := by
  cases d with
  | nil => simp at h1
  | cons c t =>
    have hl : (ftext neg (c :: t) k).length ≤ 4096 := by
      have := Lib.itoa_length_le (((c :: t).length : Int) - 1 + k) (by omega) (by omega)
      have a1 : ((if neg = true then [45] else []) : List UInt8).length ≤ 1 := by cases neg <;> simp
      have a2 : ((if 1 < (c :: t).length then 46 :: (c :: t).drop 1 else []) : List UInt8).length ≤ 4000 := by split <;> simp at * <;> omega
      have a3 : ((c :: t).take 1).length ≤ 1 := by simp
      unfold ftext
      rw [List.length_append, List.length_append, List.length_append]
      have a4 : (101 :: Lib.itoa (((c :: t).length : Int) - 1 + k)).length = (Lib.itoa (((c :: t).length : Int) - 1 + k)).length + 1 := List.length_cons
      omega
    unfold scn
    rw [if_neg (by omega), cut_ftext neg c t (hd c (by simp)) (fun z hz => hd z (by simp [hz])) k]
    have hlate : Pc.late (.dc [c] (if t = [] then none else some t) (some (Lib.itoa (((c :: t).length : Int) - 1 + k)))) = none := by
      unfold Pc.late
      simp only
      rw [sg_itoa, (dd_law _).2.1, if_neg (by omega)]
    have hten : Pc.ten (if t = [] then none else some t) (some (Lib.itoa (((c :: t).length : Int) - 1 + k))) = k := by
      unfold Pc.ten
      simp only [xvl_itoa]
      by_cases h : t = []
      · subst h; simp [ob]
      · rw [if_neg h]; simp [ob]; omega
    have hob : [c] ++ ob (if t = [] then none else some t) = c :: t := by
      by_cases h : t = []
      · subst h; rfl
      · rw [if_neg h]; rfl
    simp only [hlate]
    unfold Pc.num Pc.den Pc.two
    simp only [hten, hob]
end Go.Proofs.YtiadjcilfljdaaaGreatDoor
end

section
namespace Go.Proofs.YtiadjcilfljdaaaGreatDoor
set_option linter.unusedVariables false
set_option linter.unusedSimpArgs false
open Go.RowKit Verge

theorem core_mul (n : Nat) : core n * 10 ^ tz10 n = n := by
  induction n using Nat.strongRecOn with
  | _ n ih =>
    by_cases h : 0 < n ∧ n % 10 = 0
    · rw [core_step h.1 h.2, tz10_step h.1 h.2, Nat.pow_succ, ← Nat.mul_assoc, ih (n / 10) (by omega)]; omega
    · rw [core, dif_neg h, tz10, dif_neg h]; simp
/-- The fraction of a numeral that ends in 10 to the t - y. -/
theorem ten_frac {C A t y : Nat} (h : C * 10 ^ t = A) : C * 10 ^ ((t : Int) - (y : Int)).toNat * 10 ^ y = A * 10 ^ (-((t : Int) - (y : Int))).toNat := by
  rcases Nat.le_total y t with h1 | h1
  · rw [show ((t : Int) - (y : Int)).toNat = t - y by omega, show (-((t : Int) - (y : Int))).toNat = 0 by omega, Nat.mul_assoc, ← Nat.pow_add, Nat.sub_add_cancel h1, h]; simp
  · rw [show ((t : Int) - (y : Int)).toNat = 0 by omega, show (-((t : Int) - (y : Int))).toNat = y - t by omega, ← h, Nat.mul_assoc C (10 ^ t), ← Nat.pow_add, show t + (y - t) = y by omega]; simp
theorem FV_fb (b : Nat) : FV (b % 9223372036854775808) = fbF b * 2 ^ fbE b := by
  unfold FV fbF fbE
  by_cases h : b % 9223372036854775808 < 4503599627370496
  · rw [if_pos h, if_pos h, Nat.div_eq_of_lt h]; simp; omega
  · rw [if_neg h, if_neg h]
    have : b % 9223372036854775808 % 4503599627370496 = b % 4503599627370496 := by omega
    rw [this]
/-- The numeral of Exact's text. -/
def exN (b : Nat) : Bool × Nat × Nat × Int := match scn (exT b) with | .ok x => x | .error _ => (false, 0, 1, 0)
theorem ex_scn (b : Nat) (hb : b < 18446744073709551616) (hw : fwrong b = false) (hz : b ≠ 9223372036854775808) :
    ∃ P Q, scn (exT b) = .ok (decide (9223372036854775808 ≤ b), P, Q, 0) ∧ 0 < Q ∧ P * 2 ^ KU = FV (b % 9223372036854775808) * Q := by
  rw [FV_fb]
  unfold exT
  rw [if_neg (by rw [hw]; simp)]
  by_cases h0 : fbF b = 0
  · have hb0 : b = 0 := by
      rcases fbF_zero' hb h0 with h | h
      · exact h
      · exact absurd h hz
    rw [if_pos h0, h0]
    subst hb0
    refine ⟨0, 1, ?_, by omega, by simp⟩
    rfl
  · rw [if_neg h0]
    have hE : fbE b ≤ 2045 := by
      unfold fwrong fabs at hw
      have := of_decide_eq_false hw
      unfold fbE; omega
    obtain ⟨A, hA⟩ : ∃ A, fbF b * 2 ^ ((fbE b : Int) - 1074).toNat * 5 ^ (-((fbE b : Int) - 1074)).toNat = A := ⟨_, rfl⟩
    obtain ⟨y, hy⟩ : ∃ y, (-((fbE b : Int) - 1074)).toNat = y := ⟨_, rfl⟩
    obtain ⟨a1, a2, a3, a4⟩ := exact_law h0 hA.symm hy.symm
    rw [← a3, ← a4]
    have hC := core_mul A
    have hC0 : 0 < core A := by
      rcases Nat.eq_zero_or_pos (core A) with h | h
      · rw [h, Nat.zero_mul] at hC; omega
      · exact h
    have hF := fbF_blen b
    obtain ⟨x, hx⟩ : ∃ x, ((fbE b : Int) - 1074).toNat = x := ⟨_, rfl⟩
    have hs : decide (9223372036854775808 < b) = decide (9223372036854775808 ≤ b) := decide_eq_decide.2 (by omega)
    rw [hx, hy] at hA
    rw [hs]
    obtain ⟨T, hT⟩ : ∃ T : Int, (tz10 A : Int) - (y : Int) = T := ⟨_, rfl⟩
    have hfr := ten_frac (y := y) hC
    rw [hT] at hfr
    have hb2 : blen (2 ^ x) ≤ x + 1 := blen_of _ _ (Nat.le_refl _) (Nat.pow_lt_pow_right (by omega) (by omega)) ▸ Nat.le_refl _
    have hb5 : blen (5 ^ y) ≤ 3 * y + 1 := by
      refine (blen_lt _ _).2 (Nat.lt_of_le_of_lt (Nat.pow_le_pow_left (show 5 ≤ 2 ^ 3 by decide) y) ?_)
      rw [← Nat.pow_mul]
      exact Nat.pow_lt_pow_right (by omega) (by omega)
    obtain ⟨m, hm⟩ : ∃ m, m = 3400 := ⟨_, rfl⟩
    have hbA : blen A ≤ m := by
      have := blen_mul_le (blen_mul_le hF hb2) hb5
      rw [hA] at this
      omega
    have hcA : core A ≤ A := by
      have := Nat.mul_le_mul_left (core A) (Nat.pow_pos (n := tz10 A) (show 0 < 10 by omega))
      omega
    have hl1 : (txt (core A)).length ≤ m := Nat.le_trans (txt_len _) ((blen_lt _ _).2 (Nat.lt_of_le_of_lt hcA ((blen_lt _ _).1 hbA)))
    have hl2 : tz10 A ≤ m := by
      refine Classical.byContradiction fun hc => ?_
      have h1 := (blen_lt A m).1 hbA
      have h2 : (2 : Nat) ^ m ≤ 10 ^ tz10 A := Nat.le_trans (Nat.pow_le_pow_right (by omega) (by omega)) (Nat.pow_le_pow_left (by omega) _)
      have h3 := Nat.mul_le_mul_right (10 ^ tz10 A) hC0
      omega
    have hl0 := txt_some hC0
    refine ⟨core A * 10 ^ T.toNat, 10 ^ (-T).toNat, ?_, Nat.pow_pos (by omega), ?_⟩
    · rw [hT, scn_ftext _ _ (txt_dig _) (by omega) (by omega) T (by omega) (by omega), txt_num]
    · have e1 : core A * 10 ^ T.toNat * (2 ^ y * 5 ^ y) = fbF b * 2 ^ x * 5 ^ y * 10 ^ (-T).toNat := by rw [← Nat.mul_pow, hfr, hA]
      have e2 : core A * 10 ^ T.toNat * 2 ^ y = fbF b * 2 ^ x * 10 ^ (-T).toNat := by
        refine Nat.eq_of_mul_eq_mul_right (Nat.pow_pos (n := y) (show 0 < 5 by omega)) ?_
        rw [Nat.mul_assoc, e1, Nat.mul_assoc, Nat.mul_assoc, Nat.mul_comm (5 ^ y)]; ac_rfl
      obtain ⟨z, hz2⟩ : ∃ z, KU = y + z := ⟨1074 - y, by unfold KU; omega⟩
      have hz3 : fbE b = x + z := by unfold KU at hz2; omega
      rw [hz2, hz3, Nat.pow_add, Nat.pow_add, ← Nat.mul_assoc, e2]; ac_rfl
theorem ord_units {s n : Bool} {P Q r N D : Nat} {K : Int} (hQ : 0 < Q) (h : P * 2 ^ KU = FV r * Q) :
    ordS (s, P, Q, 0) (n, N, D, K) = icmp (sv s (FV r * (D * 2 ^ (-K).toNat))) (sv n (N * 2 ^ K.toNat * 2 ^ KU)) ∧
    ordS (n, N, D, K) (s, P, Q, 0) = icmp (sv n (N * 2 ^ K.toNat * 2 ^ KU)) (sv s (FV r * (D * 2 ^ (-K).toNat))) := by
  obtain ⟨c, hc, e1, e2⟩ := crossed P Q N D 0 K (2 ^ KU) (Nat.two_pow_pos _)
  have e1' : P * D * 2 ^ (0 - K).toNat * c = FV r * (D * 2 ^ (-K).toNat) * Q := by
    rw [← e1, show ((0 : Int).toNat) = 0 from rfl, Nat.pow_zero, Nat.mul_one, h]; ac_rfl
  have e2' : N * Q * 2 ^ (K - 0).toNat * c = N * 2 ^ K.toNat * 2 ^ KU * Q := by
    rw [← e2, show ((-(0 : Int)).toNat) = 0 from rfl, Nat.pow_zero, Nat.mul_one]
  unfold ordS
  simp only
  generalize FV r * (D * 2 ^ (-K).toNat) = u at *
  generalize N * 2 ^ K.toNat * 2 ^ KU = v at *
  generalize P * D * 2 ^ (0 - K).toNat = X at *
  generalize N * Q * 2 ^ (K - 0).toNat = Y at *
  constructor
  · rw [← icmp_mul _ _ hc, ← sv_mul, ← sv_mul, e1', e2', sv_mul, sv_mul, icmp_mul _ _ hQ]
  · rw [← icmp_mul _ _ hc, ← sv_mul, ← sv_mul, e1', e2', sv_mul, sv_mul, icmp_mul _ _ hQ]
theorem fpat_fin {n : Bool} {r : Nat} (hr : r < 9218868437227405312) : fpat n r < 18446744073709551616 ∧ fwrong (fpat n r) = false ∧ fpat n r ≠ 9223372036854775808 ∧ fpat n r % 9223372036854775808 = r ∧ (decide (9223372036854775808 ≤ fpat n r) = n ∨ r = 0) := by
  unfold fpat fwrong fabs
  by_cases h : r = 0
  · subst h; rw [if_pos rfl]; exact ⟨by omega, by decide, by omega, rfl, .inr rfl⟩
  · rw [if_neg h]
    cases n
    · rw [if_neg (by simp)]
      exact ⟨by omega, decide_eq_false (by omega), by omega, by omega, .inl (decide_eq_false (by omega))⟩
    · rw [if_pos rfl]
      exact ⟨by omega, decide_eq_false (by omega), by omega, by omega, .inl (decide_eq_true (by omega))⟩
theorem ex_ord {n : Bool} {r N D : Nat} {K : Int} (hr : r < 9218868437227405312) : scn (exT (fpat n r)) = .ok (exN (fpat n r)) ∧
    ordS (exN (fpat n r)) (n, N, D, K) = icmp (sv n (FV r * (D * 2 ^ (-K).toNat))) (sv n (N * 2 ^ K.toNat * 2 ^ KU)) ∧
    ordS (n, N, D, K) (exN (fpat n r)) = icmp (sv n (N * 2 ^ K.toNat * 2 ^ KU)) (sv n (FV r * (D * 2 ^ (-K).toNat))) := by
  obtain ⟨f1, f2, f3, f4, f5⟩ := fpat_fin (n := n) hr
  obtain ⟨P, Q, e, hQ, hP⟩ := ex_scn (fpat n r) f1 f2 f3
  have eN : exN (fpat n r) = (decide (9223372036854775808 ≤ fpat n r), P, Q, 0) := by unfold exN; rw [e]
  rw [f4] at hP
  refine ⟨by rw [e, eN], ?_⟩
  rw [eN]
  have := ord_units (s := decide (9223372036854775808 ≤ fpat n r)) (n := n) (N := N) (D := D) (K := K) hQ hP
  have hv : sv (decide (9223372036854775808 ≤ fpat n r)) (FV r * (D * 2 ^ (-K).toNat)) = sv n (FV r * (D * 2 ^ (-K).toNat)) := by
    rcases f5 with h | h
    · rw [h]
    · subst h
      rw [FV_zero, Nat.zero_mul]; unfold sv; split <;> split <;> simp
  rw [hv] at this
  exact this
theorem bnd_rng (N D : Nat) (hD : 0 < D) : ∃ lo hi ne, lo = min (fl (N / D)) 9218868437227405311 ∧ hi = min (rngA N D) 9218868437227405312 ∧ ne = min (rngN N D) 9218868437227405312 ∧ (ne = lo ∨ ne = hi) ∧
    ((lo = hi ∧ FV lo * D = N) ∨ (hi = lo + 1 ∧ FV lo * D < N ∧ (hi = 9218868437227405312 ∨ N < FV hi * D))) := by
  refine ⟨_, _, _, rfl, rfl, rfl, ?_⟩
  have h1 := fl_div_le N D hD
  have h2 := lt_fl_div N D hD
  have hcap : 9218868437227405312 ≤ fl (N / D) → FV 9218868437227405311 * D < N := fun h => Nat.lt_of_lt_of_le (Nat.mul_lt_mul_of_pos_right (FV_lt (show 9218868437227405311 < fl (N / D) by omega)) hD) h1
  unfold rngA rngN
  generalize fl (N / D) = a at *
  rw [Nat.add_mul]
  by_cases e : FV a * D = N
  · rw [if_pos e, if_pos (by omega)]
    rcases Nat.lt_or_ge a 9218868437227405312 with h | h
    · rw [show min a 9218868437227405311 = a by omega, show min a 9218868437227405312 = a by omega]
      exact ⟨.inl rfl, .inl ⟨rfl, e⟩⟩
    · rw [show min a 9218868437227405311 = 9218868437227405311 by omega, show min a 9218868437227405312 = 9218868437227405312 by omega]
      exact ⟨.inr rfl, .inr ⟨rfl, hcap h, .inl rfl⟩⟩
  · rw [if_neg e]
    rcases Nat.lt_or_ge a 9218868437227405312 with h | h
    · rw [show min a 9218868437227405311 = a by omega, show min (a + 1) 9218868437227405312 = a + 1 by omega]
      refine ⟨?_, .inr ⟨rfl, by omega, .inr h2⟩⟩
      split
      · left; omega
      · split
        · right; omega
        · split
          · left; omega
          · right; omega
    · rw [show min a 9218868437227405311 = 9218868437227405311 by omega, show min (a + 1) 9218868437227405312 = 9218868437227405312 by omega]
      refine ⟨.inr ?_, .inr ⟨rfl, hcap h, .inl rfl⟩⟩
      split
      · omega
      · split
        · omega
        · split <;> omega
end Go.Proofs.YtiadjcilfljdaaaGreatDoor
end

section
namespace Go.Proofs.YtiadjcilfljdaaaGreatDoor
set_option linter.unusedVariables false
set_option linter.unusedSimpArgs false
open Go.RowKit Verge

theorem rng_ends (N D : Nat) : rng (-1) false N D = min (fl (N / D)) 9218868437227405311 ∧ rng 1 false N D = min (rngA N D) 9218868437227405312 ∧ rng (-1) true N D = min (rngA N D) 9218868437227405312 ∧ rng 1 true N D = min (fl (N / D)) 9218868437227405311 := by
  unfold rng
  generalize fl (N / D) = a
  generalize rngA N D = b
  refine ⟨by simp, by simp, by simp, by simp⟩
theorem icmp_neg {a b : Int} (h : a < b) : icmp a b = -1 := by unfold icmp; rw [if_pos h]
theorem fpat_f (r : Nat) : fpat false r = r := by
  unfold fpat; split
  · omega
  · rfl
theorem fpat_t {r : Nat} (h : r ≠ 0) : fpat true r = 9223372036854775808 + r := by
  unfold fpat; rw [if_neg h, if_pos rfl]
/-- The next number above. -/
def stp (b : Nat) : Nat := if b = 9223372036854775809 ∨ b = 9223372036854775808 then 0 else if 9223372036854775808 < b then b - 1 else b + 1
/-- What is asked of what a numeral is read as, Down, Up and Near. -/
structure Bnd (x : Bool × Nat × Nat × Int) (lo hi ne : Nat) : Prop where
  near : ne = lo ∨ ne = hi
  l1 : lo ≠ 9223372036854775808 ∧ lo ≠ 9218868437227405312
  h1 : hi ≠ 9223372036854775808 ∧ hi ≠ 18442240474082181120
  law : (lo = hi ∧ lo ≠ 18442240474082181120 ∧ scn (exT lo) = .ok (exN lo) ∧ ordS (exN lo) x = 0 ∧ ordS x (exN lo) = 0 ∧ fwrong lo = false) ∨
    (lo ≠ hi ∧ stp lo = hi ∧ (lo = 18442240474082181120 ∨ (scn (exT lo) = .ok (exN lo) ∧ ordS (exN lo) x = -1 ∧ fwrong lo = false)) ∧ (hi = 9218868437227405312 ∨ (scn (exT hi) = .ok (exN hi) ∧ ordS x (exN hi) = -1 ∧ fwrong hi = false)))
theorem bnd_law (x : Bool × Nat × Nat × Int) (hD : 0 < x.2.2.1) : Bnd x (ordP (-1) x) (ordP 1 x) (ordP 0 x) := by
  obtain ⟨n, N, D, K⟩ := x
  simp only at hD
  unfold ordP
  simp only
  rw [rng_near]
  have hD' : 0 < D * 2 ^ (-K).toNat := Nat.mul_pos hD (Nat.two_pow_pos _)
  have hE := fun r (hr : r < 9218868437227405312) => ex_ord (n := n) (r := r) (N := N) (D := D) (K := K) hr
  have hff := fun r (hr : r < 9218868437227405312) => (fpat_fin (n := n) hr).2.1
  generalize D * 2 ^ (-K).toNat = D' at *
  generalize N * 2 ^ K.toNat * 2 ^ KU = N' at *
  obtain ⟨lo, hi, ne, e1, e2, e3, h1, h2⟩ := bnd_rng N' D' hD'
  obtain ⟨g1, g2, g3, g4⟩ := rng_ends N' D'
  have hl : lo ≤ 9218868437227405311 := by omega
  have hh : hi ≤ 9218868437227405312 := by omega
  cases n
  · rw [g1, g2, ← e1, ← e2, ← e3]
    simp only [fpat_f] at *
    refine ⟨h1, by omega, by omega, ?_⟩
    rcases h2 with ⟨h, hv⟩ | ⟨h, hv, hw⟩
    · obtain ⟨a1, a2, a3⟩ := hE lo (by omega)
      rw [hv] at a2 a3
      exact .inl ⟨h, by omega, a1, a2.trans (icmp_self _), a3.trans (icmp_self _), hff lo (by omega)⟩
    · obtain ⟨a1, a2, a3⟩ := hE lo (by omega)
      refine .inr ⟨by omega, by unfold stp; rw [if_neg (by omega), if_neg (by omega)]; exact h.symm, .inr ⟨a1, a2.trans (icmp_neg ?_), hff lo (by omega)⟩, ?_⟩
      · simp [sv]; omega
      · rcases Nat.lt_or_ge hi 9218868437227405312 with h3 | h3
        · obtain ⟨b1, b2, b3⟩ := hE hi h3
          refine .inr ⟨b1, b3.trans (icmp_neg ?_), hff hi h3⟩
          have : N' < FV hi * D' := by omega
          simp [sv]; omega
        · exact .inl (by omega)
  · rw [g3, g4, ← e1, ← e2, ← e3]
    have hz : ∀ r, fpat true r = if r = 0 then 0 else 9223372036854775808 + r := fun r => by unfold fpat; simp
    have hz1 := hz lo
    have hz2 := hz hi
    have hz3 := hz ne
    rcases h2 with ⟨h, hv⟩ | ⟨h, hv, hw⟩
    · obtain ⟨a1, a2, a3⟩ := hE lo (by omega)
      rw [hv] at a2 a3
      have hne : ne = lo := by omega
      rw [← h, hne]
      refine ⟨.inl rfl, ?_, ?_, .inl ⟨rfl, ?_, a1, a2.trans (icmp_self _), a3.trans (icmp_self _), hff lo (by omega)⟩⟩
      all_goals (rw [hz1]; split <;> omega)
    · obtain ⟨a1, a2, a3⟩ := hE lo (by omega)
      have hp : fpat true hi = 9223372036854775808 + hi := fpat_t (by omega)
      refine ⟨?_, by rw [hp]; omega, by rw [hz1]; split <;> omega, .inr ⟨by rw [hp, hz1]; split <;> omega, ?_, ?_, .inr ⟨a1, a3.trans (icmp_neg ?_), hff lo (by omega)⟩⟩⟩
      · rcases h1 with h1 | h1
        · right; rw [h1]
        · left; rw [h1]
      · rw [hp, hz1]
        unfold stp
        by_cases h0 : lo = 0
        · rw [if_pos h0, if_pos (by omega)]
        · rw [if_neg h0, if_neg (by omega), if_pos (by omega)]; omega
      · rcases Nat.lt_or_ge hi 9218868437227405312 with h3 | h3
        · obtain ⟨b1, b2, b3⟩ := hE hi h3
          refine .inr ⟨b1, b2.trans (icmp_neg ?_), hff hi h3⟩
          have : N' < FV hi * D' := by omega
          simp [sv]; omega
        · left; rw [hp]; omega
      · simp [sv]; omega
end Go.Proofs.YtiadjcilfljdaaaGreatDoor
end
