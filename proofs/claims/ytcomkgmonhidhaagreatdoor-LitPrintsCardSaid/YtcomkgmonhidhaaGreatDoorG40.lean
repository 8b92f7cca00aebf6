/- Layer 5, plain: what Short, Hex and Print with 17 digits write is read back: the texts. -/
import Derived.Test.YtcomkgmonhidhaaGreatDoorG39
namespace Go.Proofs.YtcomkgmonhidhaaGreatDoor
set_option linter.unusedVariables false
set_option linter.unusedSimpArgs false
open Go.RowKit Verge

theorem fpat_back {b : Nat} {s : Bool} (hb : b < 18446744073709551616) (hz : b ≠ 9223372036854775808) (hs : decide (9223372036854775808 ≤ b) = s) : fpat s (b % 9223372036854775808) = b := by
  subst hs
  unfold fpat
  by_cases h0 : b % 9223372036854775808 = 0
  · rw [if_pos h0, show b = 0 by omega]
  · rw [if_neg h0]
    by_cases h : 9223372036854775808 ≤ b
    · rw [decide_eq_true h, if_pos rfl, show 9223372036854775808 + b % 9223372036854775808 = b by omega]
    · rw [decide_eq_false h, if_neg (by simp), show b % 9223372036854775808 = b by omega]
theorem fin_r {b : Nat} (hw : fwrong b = false) : b % 9223372036854775808 ≤ 9218868437227405311 := by
  unfold fwrong fabs at hw
  have := of_decide_eq_false hw
  omega
/-- A text whose number is nearest to the pattern is read as it. -/
theorem read_near {t : List UInt8} {b P Q : Nat} {s : Bool} (hb : b < 18446744073709551616) (hw : fwrong b = false) (hz : b ≠ 9223372036854775808) (hs : decide (9223372036854775808 ≤ b) = s) (e : scn t = .ok (s, P, Q, 0)) (h : rngN (P * 2 ^ KU) Q = b % 9223372036854775808) : readS 0 t = (b, 0, 0) := by
  have hg : rng 0 s (P * 2 ^ (0 : Int).toNat * 2 ^ KU) (Q * 2 ^ (-(0 : Int)).toNat) = b % 9223372036854775808 := by
    rw [show ((0 : Int).toNat) = 0 from rfl, show ((-(0 : Int)).toNat) = 0 from rfl, Nat.pow_zero, Nat.mul_one, Nat.mul_one, rng_near, h]
    have := fin_r hw
    omega
  unfold readS
  rw [e]
  show (fpat _ (rng _ _ _ _), _, _) = _
  rw [hg, fpat_back hb hz hs]
theorem ten_split (k : Int) (i : Nat) (q : Nat) : q * 10 ^ (k - i).toNat * (10 ^ (-k).toNat * 10 ^ i) = 10 ^ k.toNat * q * 10 ^ (-(k - i)).toNat := by
  have h : (10 : Nat) ^ (k - i).toNat * (10 ^ (-k).toNat * 10 ^ i) = 10 ^ k.toNat * 10 ^ (-(k - i)).toNat := by
    rw [← Nat.pow_add, ← Nat.pow_add, ← Nat.pow_add, show (k - (i : Int)).toNat + ((-k).toNat + i) = k.toNat + (-(k - (i : Int))).toNat by omega]
  rw [Nat.mul_assoc, h]; ac_rfl
/-- Short's digits: how many at most, and that there are some. -/
theorem sht_len {b : Nat} {k : Int} {i : Nat} (h : ShtOk b k i) (hF : fbF b ≠ 0) : 1 ≤ (txt (sF b k i)).length ∧ (txt (sF b k i)).length ≤ i + 1 ∧ 0 < sF b k i := by
  obtain ⟨hp, _⟩ := mg_bounds b hF
  obtain ⟨s1, s2, s3, s4, s5, s6⟩ := sht_start h.top hp
  have hpos : 0 < sF b k i := by
    rcases Nat.eq_zero_or_pos (sF b k i) with e | e
    · exfalso
      have a2 := (sht_within h hF).2
      rw [e, Nat.mul_zero, Nat.zero_add] at a2
      have h3 := sR_gt_sL (b := b) (k := 0) hF
      unfold sL sR at h3
      simp at h3
      have := Nat.mul_lt_mul_of_pos_right h3 (show 0 < 10 ^ (-k).toNat * 10 ^ i from Nat.mul_pos (Nat.pow_pos (by omega)) (Nat.pow_pos (by omega)))
      omega
    · exact e
  have hlt : sP b k i < 10 ^ i := by
    unfold sP
    rw [Nat.div_lt_iff_lt_mul s5, Nat.mul_comm]
    exact Nat.mul_lt_mul_of_pos_left s1 (Nat.pow_pos (by omega))
  refine ⟨txt_some hpos, ?_, hpos⟩
  show dcnt (sF b k i) ≤ i + 1
  rw [dcnt_le, Nat.pow_succ]
  have : 0 < 10 ^ i := Nat.pow_pos (by omega)
  have h2 : sF b k i ≤ sP b k i + 1 := by unfold sF; split <;> omega
  omega
/-- What Short writes is read back to the nearest. -/
theorem short_back {b : Nat} {k : Int} {i : Nat} (h : ShtOk b k i) (hb : b < 18446744073709551616) (hw : fwrong b = false) (hF : fbF b ≠ 0) {s : Bool} (hs : decide (9223372036854775808 ≤ b) = s) : readS 0 (ftext s (txt (sF b k i)) (k - i)) = (b, 0, 0) := by
  have hz : b ≠ 9223372036854775808 := by rintro rfl; exact hF (by decide)
  obtain ⟨l1, l2, l3⟩ := sht_len h hF
  have hk1 := h.k1
  have hk2 := h.k2
  have hi2 := h.i2
  have e := scn_ftext s (txt (sF b k i)) (txt_dig _) l1 (by omega) (k - i) (by omega) (by omega)
  rw [txt_num] at e
  refine read_near hb hw hz hs e ?_
  obtain ⟨a1, a2⟩ := sht_within h hF
  obtain ⟨v1, v2, v3, v4, v5⟩ := mg_vals b hb hF _ rfl
  obtain ⟨⟨p1, p2, p3, p4⟩, _⟩ := mg_bounds b hF
  have hPT := ten_split k i (sF b k i)
  have hT : 0 < 10 ^ (-k).toNat * 10 ^ i := Nat.mul_pos (Nat.pow_pos (by omega)) (Nat.pow_pos (by omega))
  have hQ : 0 < 10 ^ (-(k - (i : Int))).toNat := Nat.pow_pos (by omega)
  have hW : 0 < 2 ^ KU := Nat.two_pow_pos _
  generalize 10 ^ (-(k - (i : Int))).toNat = Q at *
  generalize sF b k i * 10 ^ (k - (i : Int)).toNat = P at *
  generalize 10 ^ (-k).toNat * 10 ^ i = T at *
  generalize b % 9223372036854775808 = r at *
  generalize mgR b = R at *
  generalize mgS b = S at *
  generalize mgM b = M at *
  generalize mgL b = L at *
  generalize 2 ^ KU = W at *
  obtain ⟨G, hG⟩ : ∃ G, S * 10 ^ k.toNat * sF b k i = G := ⟨_, rfl⟩
  rw [hG] at a1 a2
  have hST : 0 < S * T := Nat.mul_pos p2 hT
  obtain ⟨c, hc⟩ : ∃ c, 2 * W * Q = c := ⟨_, rfl⟩
  have hc0 : 0 < c := by rw [← hc]; exact Nat.mul_pos (Nat.mul_pos (by omega) hW) hQ
  have eX : 2 * (P * W) * (S * T) = c * G := by
    calc 2 * (P * W) * (S * T) = 2 * W * S * (P * T) := by ac_rfl
      _ = 2 * W * S * (10 ^ k.toNat * sF b k i * Q) := by rw [hPT]
      _ = 2 * W * Q * (S * 10 ^ k.toNat * sF b k i) := by ac_rfl
      _ = _ := by rw [hc, hG]
  have eY : (FV r + FV (r + 1)) * Q * (S * T) = c * ((R + M) * T) := by
    calc (FV r + FV (r + 1)) * Q * (S * T) = (FV r * S + FV (r + 1) * S) * (Q * T) := by rw [← Nat.add_mul]; ac_rfl
      _ = (2 * ((R + M) * W)) * (Q * T) := by rw [show FV r * S + FV (r + 1) * S = 2 * ((R + M) * W) by rw [Nat.add_mul R M W]; omega]
      _ = 2 * W * Q * ((R + M) * T) := by ac_rfl
      _ = _ := by rw [hc]
  have eZ : (FV (r - 1) + FV r) * Q * (S * T) + c * (L * T) = c * (R * T) := by
    calc (FV (r - 1) + FV r) * Q * (S * T) + c * (L * T) = (FV (r - 1) * S + FV r * S) * (Q * T) + 2 * W * Q * (L * T) := by rw [← Nat.add_mul, hc]; congr 1; ac_rfl
      _ = (FV (r - 1) * S + FV r * S) * (Q * T) + (2 * (L * W)) * (Q * T) := by congr 1; ac_rfl
      _ = (FV (r - 1) * S + FV r * S + 2 * (L * W)) * (Q * T) := (Nat.add_mul _ _ _).symm
      _ = (2 * (R * W)) * (Q * T) := by rw [show FV (r - 1) * S + FV r * S + 2 * (L * W) = 2 * (R * W) by omega]
      _ = 2 * W * Q * (R * T) := by ac_rfl
      _ = _ := by rw [hc]
  refine rngN_in hQ (.inr ?_) ?_
  · rcases a2 with g | ⟨g, g'⟩
    · left
      refine Nat.lt_of_mul_lt_mul_right (a := S * T) ?_
      rw [eX]
      have := Nat.mul_lt_mul_of_pos_left g hc0
      rw [Nat.mul_add] at this
      omega
    · right
      refine ⟨Nat.eq_of_mul_eq_mul_right hST ?_, v4.1 g'⟩
      rw [eX]
      have := congrArg (c * ·) g
      simp only [Nat.mul_add] at this
      omega
  · rcases a1 with g | ⟨g, g'⟩
    · left
      refine Nat.lt_of_mul_lt_mul_right (a := S * T) ?_
      rw [eX, eY]
      exact Nat.mul_lt_mul_of_pos_left g hc0
    · right
      refine ⟨Nat.eq_of_mul_eq_mul_right hST ?_, v4.1 g'⟩
      rw [eX, eY, g]
/-- What Print writes with 17 digits or more is read back to the nearest. -/
theorem print_back {b : Nat} (hb : b < 18446744073709551616) (hw : fwrong b = false) (hF : fbF b ≠ 0) {n : Nat} (h17 : 17 ≤ n) (h2 : n ≤ 1100) (N D : Nat) (hN : N = fbF b * 2 ^ ((fbE b : Int) - 1074).toNat) (hD : D = 2 ^ (-((fbE b : Int) - 1074)).toNat) (K : Int) (k1 : -1600 ≤ K) (k2 : K ≤ 1000) (h : dcnt (qat N D K) = n) {s : Bool} (hs : decide (9223372036854775808 ≤ b) = s) : readS 0 (prT 0 s N D K n) = (b, 0, 0) := by
  have hz : b ≠ 9223372036854775808 := by rintro rfl; exact hF (by decide)
  obtain ⟨P, Q, e, hQ, hPQ⟩ := prT_scn (d := 0) (s := s) h (by omega) h2 k1 k2
  refine read_near hb hw hz hs e ?_
  have hr0 := (mg_vals b hb hF _ rfl).2.2.2.2
  have hD0 : 0 < D := by rw [hD]; exact Nat.two_pow_pos _
  have hV : N * 2 ^ KU = FV (b % 9223372036854775808) * D := by
    obtain ⟨z, hz⟩ : ∃ z, KU = z := ⟨_, rfl⟩
    have hz2 : z = 1074 := by rw [← hz]; rfl
    rw [FV_fb, hN, hD, hz, Nat.mul_assoc, ← Nat.pow_add, Nat.mul_assoc, ← Nat.pow_add, show ((fbE b : Int) - 1074).toNat + z = fbE b + (-((fbE b : Int) - 1074)).toNat by omega]
  obtain ⟨t, ht⟩ : ∃ t, 10 ^ (-K).toNat = t := ⟨_, rfl⟩
  obtain ⟨u, hu⟩ : ∃ u, 10 ^ K.toNat = u := ⟨_, rfl⟩
  have ht0 : 0 < t := by rw [← ht]; exact Nat.pow_pos (by omega)
  have hu0 : 0 < u := by rw [← hu]; exact Nat.pow_pos (by omega)
  have hdiv : N * t = qat N D K * (D * u) + N * t % (D * u) := by
    unfold qat; rw [ht, hu, Nat.mul_comm (N * t / (D * u))]; exact (Nat.div_add_mod _ _).symm
  have hmod : N * t % (D * u) < D * u := Nat.mod_lt _ (Nat.mul_pos hD0 hu0)
  have hq : prQ 0 s N D K = if upB 0 s (qat N D K) (2 * (N * t % (D * u))) (D * u) = true then qat N D K + 1 else qat N D K := by
    unfold prQ; rw [ht, hu]
  rw [ht, hu] at hPQ
  have hsp := dcnt_spec (qat N D K)
  rw [h] at hsp
  have hq0 : 0 < qat N D K := by
    rcases Nat.eq_zero_or_pos (qat N D K) with e | e
    · rw [e, dcnt_zero] at h; omega
    · exact e
  have hbig : 10000000000000000 ≤ qat N D K := by
    refine Nat.le_trans ?_ (hsp.2 hq0).2
    exact Nat.le_trans (Nat.le_of_eq (by decide : (10000000000000000 : Nat) = 10 ^ 16)) (Nat.pow_le_pow_right (by omega) (by omega))
  have hbig2 := Nat.mul_le_mul_right (D * u) hbig
  generalize N * t % (D * u) = m at *
  generalize prQ 0 s N D K = q at *
  have hclose : 20000000000000000 * (q * (D * u)) ≤ 20000000000000000 * (N * t) + N * t ∧ 20000000000000000 * (N * t) ≤ 20000000000000000 * (q * (D * u)) + N * t := by
    unfold upB at hq
    have hn : ¬ ((0 : Int) = 1 ∨ (0 : Int) = -1) := by omega
    rw [if_neg hn] at hq
    have hs1 : (qat N D K + 1) * (D * u) = qat N D K * (D * u) + D * u := Nat.succ_mul _ _
    by_cases hc : D * u < 2 * m ∨ D * u = 2 * m ∧ qat N D K % 2 = 1
    · rw [if_pos (decide_eq_true hc)] at hq
      rw [hq, hs1]
      omega
    · rw [if_neg (by simpa using hc)] at hq
      rw [hq]
      omega
  have hYp : 0 < FV (b % 9223372036854775808) * Q := by
    refine Nat.mul_pos ?_ hQ
    have := FV_lt hr0
    omega
  have htD : 0 < t * D := Nat.mul_pos ht0 hD0
  obtain ⟨c1, c2⟩ := hclose
  clear hq hbig2 hsp hbig hmod hdiv
  generalize 2 ^ KU = W at *
  generalize b % 9223372036854775808 = r at *
  have hX : P * W * (t * D) = q * (D * u) * (Q * W) := by
    calc P * W * (t * D) = P * t * (W * D) := by ac_rfl
      _ = q * u * Q * (W * D) := by rw [hPQ]
      _ = _ := by ac_rfl
  have hY : FV r * Q * (t * D) = N * t * (Q * W) := by
    calc FV r * Q * (t * D) = FV r * D * (Q * t) := by ac_rfl
      _ = N * W * (Q * t) := by rw [hV]
      _ = _ := by ac_rfl
  generalize q * (D * u) = x at *
  generalize N * t = v at *
  generalize Q * W = c at *
  generalize P * W = X at *
  have d1 := Nat.mul_le_mul_right c c1
  have d2 := Nat.mul_le_mul_right c c2
  have f1 : 20000000000000000 * X ≤ 20000000000000000 * (FV r * Q) + FV r * Q := by
    refine Nat.le_of_mul_le_mul_right ?_ htD
    rw [Nat.add_mul, Nat.mul_assoc, Nat.mul_assoc, hX, hY]
    rw [Nat.add_mul, Nat.mul_assoc, Nat.mul_assoc] at d1
    exact d1
  have f2 : 20000000000000000 * (FV r * Q) ≤ 20000000000000000 * X + FV r * Q := by
    refine Nat.le_of_mul_le_mul_right ?_ htD
    rw [Nat.add_mul, Nat.mul_assoc, Nat.mul_assoc 20000000000000000 X, hX, hY]
    rw [Nat.add_mul, Nat.mul_assoc, Nat.mul_assoc] at d2
    exact d2
  refine near_close hQ hr0 ?_ ?_
  · omega
  · omega
theorem hexc_law : ∀ d, d < 16 → isX (hexc d) = true ∧ dvl (hexc d) = d := by decide
theorem hex_ar (a v : Nat) : (a * 16 + v / 281474976710656) * 4503599627370496 + v % 281474976710656 * 16 = (a * 4503599627370496 + v) * 16 := by omega
theorem hexs_num : ∀ (n v a : Nat), n ≤ 13 → hexn n v → (∀ c ∈ hexs n v, isX c = true) ∧ (hexs n v).length ≤ n ∧ (hexs n v).foldl (fun a c => a * 16 + dvl c) a * 4503599627370496 = (a * 4503599627370496 + v) * 16 ^ (hexs n v).length
  | 0, v, a, _, h => by
    rw [hexn_zero h]
    refine ⟨fun c hc => by simp [hexs] at hc, by simp [hexs], by simp [hexs]⟩
  | n + 1, v, a, hn, h => by
    rcases Nat.eq_zero_or_pos v with rfl | hv
    · rw [hexs_zero]
      refine ⟨fun c hc => by simp at hc, by simp, by simp⟩
    · obtain ⟨s1, s2⟩ := hexn_step (by omega) h
      obtain ⟨x1, x2⟩ := hexc_law _ s2
      obtain ⟨i1, i2, i3⟩ := hexs_num n _ (a * 16 + v / 281474976710656) (by omega) s1
      rw [hexs_pos hv]
      refine ⟨?_, by simp; omega, ?_⟩
      · intro c hc
        rcases List.mem_cons.1 hc with rfl | hc
        · exact x1
        · exact i1 c hc
      · rw [List.foldl_cons, x2, i3, List.length_cons, Nat.pow_succ]
        generalize 16 ^ (hexs n (v % 281474976710656 * 16)).length = p
        rw [hex_ar a v, Nat.mul_assoc, Nat.mul_comm 16]
/-- What Hex's form says. -/
theorem scn_hx (neg : Bool) (t : List UInt8) (ht : ∀ z ∈ t, isX z = true) (hl : t.length ≤ 13) (e : Int) (he1 : -9999 ≤ e) (he2 : e ≤ 9999) :
    scn ((if neg = true then [45] else []) ++ [48, 120, 49] ++ (if t = [] then [] else 46 :: t) ++ 112 :: Lib.itoa e) = .ok (neg, numB 16 (49 :: t), 1, e - 4 * (t.length : Int)) := by
  have hlen : ((if neg = true then [45] else []) ++ [48, 120, 49] ++ (if t = [] then [] else 46 :: t) ++ 112 :: Lib.itoa e : List UInt8).length ≤ 4096 := by
    have := Lib.itoa_length_le e (by omega) (by omega)
    have a1 : ((if neg = true then [45] else []) : List UInt8).length ≤ 1 := by cases neg <;> simp
    have a2 : ((if t = [] then [] else 46 :: t) : List UInt8).length ≤ 14 := by split <;> simp <;> omega
    rw [List.length_append, List.length_append, List.length_append]
    have a4 : (112 :: Lib.itoa e).length = (Lib.itoa e).length + 1 := List.length_cons
    have a5 : ([48, 120, 49] : List UInt8).length = 3 := rfl
    omega
  have hs : sg ((if neg = true then [45] else []) ++ [48, 120, 49] ++ (if t = [] then [] else 46 :: t) ++ 112 :: Lib.itoa e) = (neg, 48 :: 120 :: 49 :: ((if t = [] then [] else 46 :: t) ++ 112 :: Lib.itoa e)) := by
    cases neg
    · rfl
    · rfl
  have h1 : isX 112 = false := by decide
  have h2 : isX 46 = false := by decide
  have hc : cutH (49 :: ((if t = [] then [] else 46 :: t) ++ 112 :: Lib.itoa e)) = .ok (.hx [49] (if t = [] then none else some t) (Lib.itoa e)) := by
    unfold cutH ptd
    by_cases h : t = []
    · subst h
      obtain ⟨a1, a2⟩ := tw_app (p := isX) (x := 112) (r := Lib.itoa e) h1 (l := [49]) (by simp; decide)
      rw [List.cons_append, List.nil_append] at a1 a2
      rw [if_pos rfl, if_pos rfl, List.nil_append, a1, a2]
      simp [xpo_itoa]
    · obtain ⟨a1, a2⟩ := tw_app (p := isX) (x := 46) (r := t ++ 112 :: Lib.itoa e) h2 (l := [49]) (by simp; decide)
      rw [List.cons_append, List.nil_append] at a1 a2
      obtain ⟨b1, b2⟩ := tw_app (p := isX) (x := 112) (r := Lib.itoa e) h1 (l := t) ht
      rw [if_neg h, if_neg h, List.cons_append, a1, a2]
      simp [b1, b2, xpo_itoa]
  unfold scn
  rw [if_neg (by omega)]
  have hcut : cut ((if neg = true then [45] else []) ++ [48, 120, 49] ++ (if t = [] then [] else 46 :: t) ++ 112 :: Lib.itoa e) = .ok (neg, .hx [49] (if t = [] then none else some t) (Lib.itoa e)) := by
    unfold cut
    rw [hs]
    have hx : hexy (48 :: 120 :: 49 :: ((if t = [] then [] else 46 :: t) ++ 112 :: Lib.itoa e)) = some (49 :: ((if t = [] then [] else 46 :: t) ++ 112 :: Lib.itoa e)) := rfl
    simp only [hx, hc]
    rfl
  rw [hcut]
  have hlate : Pc.late (.hx [49] (if t = [] then none else some t) (Lib.itoa e)) = none := by
    unfold Pc.late
    simp only
    rw [sg_itoa, (dd_law _).2.1, if_neg (by omega)]
  have hob : ob (if t = [] then none else some t) = t := by
    by_cases h : t = []
    · subst h; rfl
    · rw [if_neg h]; rfl
  simp only [hlate]
  unfold Pc.num Pc.den Pc.two
  simp only [hob, xvl_itoa]
  rfl
/-- What Hex writes is read back in every direction. -/
theorem hex_back (d : Int) (b : Nat) (hb : b < 18446744073709551616) (hw : fwrong b = false) (hF : fbF b ≠ 0) : readS d (hxtext b) = (b, 0, 0) := by
  have hz : b ≠ 9223372036854775808 := by rintro rfl; exact hF (by decide)
  obtain ⟨r1, r2⟩ := hxm_range hF
  obtain ⟨i1, i2, i3⟩ := hexs_num 13 (hxm b - 4503599627370496) 1 (by omega) (hexn_13 (by omega))
  rw [Nat.one_mul, Nat.add_sub_cancel' r1] at i3
  have hE : fbE b ≤ 2045 := by
    unfold fwrong fabs at hw
    have := of_decide_eq_false hw
    unfold fbE; omega
  have hB := fbF_blen b
  obtain ⟨l, hl⟩ : ∃ l, hexs 13 (hxm b - 4503599627370496) = l := ⟨_, rfl⟩
  have he : l = [] ↔ hxm b = 4503599627370496 := by
    constructor
    · intro h
      refine Classical.byContradiction fun hc => ?_
      rw [hexs_pos (by omega)] at hl
      rw [h] at hl; cases hl
    · intro h; rw [h] at hl; rw [← hl]; rfl
  rw [hl] at i1 i2 i3
  have e := scn_hx (decide (9223372036854775808 ≤ b)) l i1 i2 (hxe b) (by unfold hxe; omega) (by unfold hxe; omega)
  have ht : hxtext b = (if decide (9223372036854775808 ≤ b) = true then [45] else []) ++ [48, 120, 49] ++ (if l = [] then [] else 46 :: l) ++ 112 :: Lib.itoa (hxe b) := by
    unfold hxtext
    rw [hl]
    by_cases h : l = []
    · rw [if_pos h, if_pos (he.1 h)]; simp
    · rw [if_neg h, if_neg (fun hc => h (he.2 hc))]; simp
  rw [← ht] at e
  have hnum : numB 16 (49 :: l) * 4503599627370496 = hxm b * 16 ^ l.length := i3
  have hg : ∀ K, hxe b - 4 * (l.length : Int) = K → numB 16 (49 :: l) * 2 ^ K.toNat * 2 ^ KU * 1 = FV (b % 9223372036854775808) * (1 * 2 ^ (-K).toNat) := by
    intro K hK
    rw [FV_fb]
    refine Nat.eq_of_mul_eq_mul_right (show 0 < 4503599627370496 by omega) ?_
    have hpw : 2 ^ (53 - blen (fbF b)) * (16 ^ l.length * (2 ^ K.toNat * 2 ^ KU)) = 2 ^ fbE b * (2 ^ (-K).toNat * 4503599627370496) := by
      obtain ⟨z, hz⟩ : ∃ z, KU = z := ⟨_, rfl⟩
      have hz2 : z = 1074 := by rw [← hz]; rfl
      obtain ⟨y, hy⟩ : ∃ y, y = 52 := ⟨_, rfl⟩
      have e52 : (4503599627370496 : Nat) = 2 ^ y := by rw [hy]
      have e16 : (16 : Nat) ^ l.length = 2 ^ (4 * l.length) := by rw [Nat.pow_mul]
      unfold hxe at hK
      rw [hz, e16, e52, ← Nat.pow_add, ← Nat.pow_add, ← Nat.pow_add, ← Nat.pow_add, ← Nat.pow_add, show 53 - blen (fbF b) + (4 * l.length + (K.toNat + z)) = fbE b + ((-K).toNat + y) by omega]
    unfold hxm at hnum
    generalize 2 ^ KU = W at *
    generalize 4503599627370496 = C at *
    generalize 2 ^ (53 - blen (fbF b)) = X at *
    generalize 16 ^ l.length = Y at *
    generalize 2 ^ K.toNat = Z at *
    generalize 2 ^ fbE b = V at *
    generalize 2 ^ (-K).toNat = U at *
    generalize numB 16 (49 :: l) = M at *
    calc M * Z * W * 1 * C = M * C * (Z * W) := by rw [Nat.mul_one]; ac_rfl
      _ = fbF b * X * Y * (Z * W) := by rw [hnum]
      _ = fbF b * (X * (Y * (Z * W))) := by ac_rfl
      _ = fbF b * (V * (U * C)) := by rw [hpw]
      _ = _ := by rw [Nat.one_mul]; ac_rfl
  unfold readS
  rw [e]
  show (fpat _ (rng _ _ _ _), _, _) = _
  rw [rng_eq (M := FV (b % 9223372036854775808)) (E := 1) (by rw [Nat.one_mul]; exact Nat.two_pow_pos _) (by omega) (hg _ rfl), rng_back d _ (fin_r hw), fpat_back hb hz rfl]
/-- The nought's texts. -/
theorem nought_back (d : Int) : readS d [48, 120, 48, 112, 48] = (0, 0, 0) ∧ readS d [48, 101, 48] = (0, 0, 0) := by
  have h0 : scn [48, 101, 48] = .ok (false, 0, 1, 0) := rfl
  have h1 : scn [48, 120, 48, 112, 48] = .ok (false, 0, 1, 0) := rfl
  unfold readS
  rw [h0, h1]
  constructor
  · show (fpat _ (rng _ _ (0 * _ * _) _), _, _) = _
    rw [Nat.zero_mul, Nat.zero_mul, rng_zero]; rfl
  · show (fpat _ (rng _ _ (0 * _ * _) _), _, _) = _
    rw [Nat.zero_mul, Nat.zero_mul, rng_zero]; rfl
theorem noughts_back (d : Int) {n : Nat} (h1 : 1 ≤ n) (h2 : n ≤ 1100) : readS d (ftext false (List.replicate n 48) (1 - (n : Int))) = (0, 0, 0) := by
  have hn : numB 10 (List.replicate n 48) = 0 := by
    clear h1 h2
    induction n with
    | zero => rfl
    | succ m ih => rw [List.replicate_succ', numB_push, ih]; rfl
  have hs := scn_ftext false (List.replicate n 48) (fun z hz => by rw [List.eq_of_mem_replicate hz]; decide) (by simpa using h1) (by simp; omega) (1 - (n : Int)) (by simp; omega) (by simp; omega)
  rw [hn, Nat.zero_mul] at hs
  unfold readS
  rw [hs]
  show (fpat _ (rng _ _ (0 * _ * _) _), _, _) = _
  rw [Nat.zero_mul, Nat.zero_mul, rng_zero]; rfl
end Go.Proofs.YtcomkgmonhidhaaGreatDoor
