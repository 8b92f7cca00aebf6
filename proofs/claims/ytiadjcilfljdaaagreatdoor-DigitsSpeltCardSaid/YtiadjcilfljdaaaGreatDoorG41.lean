/- Layer 5, plain: what Print writes, by Cmp against what Exact writes. -/
import Derived.Test.YtiadjcilfljdaaaGreatDoorG39
import Derived.Test.YtiadjcilfljdaaaGreatDoorG34
import Derived.Test.YtiadjcilfljdaaaGreatDoorG40
section
namespace Go.Proofs.YtiadjcilfljdaaaGreatDoor
set_option linter.unusedVariables false
set_option linter.unusedSimpArgs false
open Go.RowKit Verge

theorem prQ_two (d : Int) (s : Bool) (N D : Nat) (K : Int) : prQ d s N D K = qat N D K ∨ prQ d s N D K = qat N D K + 1 := by unfold prQ; split <;> simp
/-- Print's text is scanned to its digits times the power of ten. -/
theorem prT_scn {d : Int} {s : Bool} {N D : Nat} {K : Int} {n : Nat} (h : dcnt (qat N D K) = n) (h1 : 1 ≤ n) (h2 : n ≤ 1100) (k1 : -1600 ≤ K) (k2 : K ≤ 1000) :
    ∃ P Q, scn (prT d s N D K n) = .ok (s, P, Q, 0) ∧ 0 < Q ∧ P * 10 ^ (-K).toNat = prQ d s N D K * 10 ^ K.toNat * Q := by
  obtain ⟨l1, l2, _, l4⟩ := prQ_len (d := d) (s := s) h h1
  have htw := prQ_two d s N D K
  have hsp := dcnt_spec (qat N D K)
  rw [h] at hsp
  unfold prT
  generalize prQ d s N D K = q at *
  rcases Nat.lt_or_ge n (txt q).length with hl | hl
  · have hlen : (txt q).length = n + 1 := by omega
    have hq : q = 10 ^ n := by
      have : ¬ dcnt q ≤ n := by show ¬ (txt q).length ≤ n; omega
      rw [dcnt_le] at this
      rcases htw with e | e
      · rw [e] at this; omega
      · omega
    have hq10 : q % 10 = 0 := by
      obtain ⟨m, rfl⟩ : ∃ m, n = m + 1 := ⟨n - 1, by omega⟩
      rw [hq, Nat.pow_succ]; omega
    have hst := txt_step l4
    have hlen2 : (txt (q / 10)).length = n := by
      have := congrArg List.length hst
      rw [List.length_append, hlen] at this
      simpa using this.symm
    have ht : (txt q).take n = txt (q / 10) := by rw [hst, ← hlen2, List.take_left]
    rw [if_pos hl, ht]
    refine ⟨q / 10 * 10 ^ (K + 1).toNat, 10 ^ (-(K + 1)).toNat, ?_, Nat.pow_pos (by omega), ?_⟩
    · rw [scn_ftext s _ (txt_dig _) (by omega) (by omega) (K + 1) (by omega) (by omega), txt_num]
    · have e : q = q / 10 * 10 := by omega
      rw [Nat.mul_assoc, ← Nat.pow_add]
      have e2 : (K + 1).toNat + (-K).toNat = K.toNat + (-(K + 1)).toNat + 1 := by omega
      rw [e2, Nat.pow_succ, Nat.pow_add]
      generalize 10 ^ K.toNat = X
      generalize 10 ^ (-(K + 1)).toNat = Y
      calc q / 10 * (X * Y * 10) = q / 10 * 10 * X * Y := by ac_rfl
        _ = _ := by rw [← e]
  · have ht : (txt q).take n = txt q := List.take_of_length_le hl
    rw [if_neg (by omega), ht]
    refine ⟨q * 10 ^ K.toNat, 10 ^ (-K).toNat, ?_, Nat.pow_pos (by omega), rfl⟩
    rw [scn_ftext s _ (txt_dig _) (by omega) (by omega) K (by omega) (by omega), txt_num]
/-- The order of two numerals of one sign, each known by its ratio to a unit. -/
theorem ord_cross {s : Bool} {P Q P' Q' u v B : Nat} (hQ : 0 < Q) (hQ' : 0 < Q') (hB : 0 < B) (h : P * B = u * Q) (h' : P' * B = v * Q') :
    ordS (s, P, Q, 0) (s, P', Q', 0) = icmp (sv s u) (sv s v) := by
  unfold ordS
  simp only
  rw [show ((0 : Int) - 0).toNat = 0 from rfl, Nat.pow_zero, Nat.mul_one, Nat.mul_one]
  have e1 : P * Q' * B = u * (Q * Q') := by rw [Nat.mul_right_comm, h]; ac_rfl
  have e2 : P' * Q * B = v * (Q * Q') := by rw [Nat.mul_right_comm, h']; ac_rfl
  generalize P * Q' = X at *
  generalize P' * Q = Y at *
  rw [← icmp_mul _ _ hB, ← sv_mul, ← sv_mul, e1, e2, sv_mul, sv_mul, icmp_mul _ _ (Nat.mul_pos hQ hQ')]
theorem cmpS_okP {s t : List UInt8} {x y : Bool × Nat × Nat × Int} (h : scn s = .ok x) (h' : scn t = .ok y) : cmpS s t = (ordS x y, 0, 0) := by
  unfold cmpS
  rw [h, h']
theorem ordS_anti {x y : Bool × Nat × Nat × Int} (h : ordS x y = -1) : ordS y x = 1 := by
  unfold ordS at h ⊢
  rcases icmp_cases (sv x.1 (x.2.1 * y.2.2.1 * 2 ^ (x.2.2.2 - y.2.2.2).toNat)) (sv y.1 (y.2.1 * x.2.2.1 * 2 ^ (y.2.2.2 - x.2.2.2).toNat)) with ⟨h1, h2, _⟩ | ⟨h1, h2, _⟩ | ⟨h1, h2, _⟩
  · exact h2
  · rw [h1] at h; cases h
  · rw [h1] at h; cases h
theorem prT_congr {d e : Int} {s : Bool} {N D : Nat} {K : Int} (n : Nat) (h : prQ d s N D K = prQ e s N D K) : prT d s N D K n = prT e s N D K n := by unfold prT; rw [h]
theorem sv_up {a b : Nat} (h : a < b) : sv false a < sv false b := by simp [sv]; omega
theorem sv_dn {a b : Nat} (h : b < a) : sv true a < sv true b := by simp [sv]; omega
theorem ard_law (b : Nat) (hb : b < 18446744073709551616) (hw : fwrong b = false) (hF : fbF b ≠ 0) (n : Nat) (h1 : 1 ≤ n) (h2 : n ≤ 1100) (N D : Nat) (hN : N = fbF b * 2 ^ ((fbE b : Int) - 1074).toNat) (hD : D = 2 ^ (-((fbE b : Int) - 1074)).toNat) (K : Int) (k1 : -1600 ≤ K) (k2 : K ≤ 1000) (h : dcnt (qat N D K) = n) (s : Bool) (hs : decide (9223372036854775808 ≤ b) = s) :
    (prT 0 s N D K n = prT (-1) s N D K n ∨ prT 0 s N D K n = prT 1 s N D K n) ∧
    ((prT (-1) s N D K n = prT 1 s N D K n ∧ cmpS (prT (-1) s N D K n) (exT b) = (0, 0, 0) ∧ cmpS (exT b) (prT 1 s N D K n) = (0, 0, 0)) ∨
     (prT (-1) s N D K n ≠ prT 1 s N D K n ∧ cmpS (prT (-1) s N D K n) (exT b) = (-1, 0, 0) ∧ cmpS (exT b) (prT 1 s N D K n) = (-1, 0, 0))) := by
  have hz : b ≠ 9223372036854775808 := by rintro rfl; exact hF (by decide)
  obtain ⟨P2, Q2, e2, hQ2, hP2⟩ := ex_scn b hb hw hz
  rw [hs] at e2
  have hD0 : 0 < D := by rw [hD]; exact Nat.two_pow_pos _
  have hND : P2 * D = N * Q2 := by
    rw [FV_fb] at hP2
    have hE : fbE b ≤ 2045 := by
      unfold fwrong fabs at hw
      have := of_decide_eq_false hw
      unfold fbE; omega
    obtain ⟨x, hx⟩ : ∃ x, ((fbE b : Int) - 1074).toNat = x := ⟨_, rfl⟩
    obtain ⟨y, hy⟩ : ∃ y, (-((fbE b : Int) - 1074)).toNat = y := ⟨_, rfl⟩
    obtain ⟨z, hz2⟩ : ∃ z, KU = y + z := ⟨1074 - y, by unfold KU; omega⟩
    have hz3 : fbE b = x + z := by unfold KU at hz2; omega
    rw [hx] at hN
    rw [hy] at hD
    rw [hz2, hz3, Nat.pow_add, Nat.pow_add] at hP2
    rw [hN, hD]
    refine Nat.eq_of_mul_eq_mul_right (Nat.two_pow_pos z) ?_
    rw [Nat.mul_assoc P2, hP2]; ac_rfl
  obtain ⟨t, ht⟩ : ∃ t, 10 ^ (-K).toNat = t := ⟨_, rfl⟩
  obtain ⟨u, hu⟩ : ∃ u, 10 ^ K.toNat = u := ⟨_, rfl⟩
  have ht0 : 0 < t := by rw [← ht]; exact Nat.pow_pos (by omega)
  have hu0 : 0 < u := by rw [← hu]; exact Nat.pow_pos (by omega)
  have hB : 0 < t * D := Nat.mul_pos ht0 hD0
  have hv : P2 * (t * D) = N * t * Q2 := by rw [Nat.mul_left_comm, hND]; ac_rfl
  have key : ∀ d, ∃ P Q, scn (prT d s N D K n) = .ok (s, P, Q, 0) ∧ 0 < Q ∧ P * (t * D) = prQ d s N D K * (D * u) * Q := by
    intro d
    obtain ⟨P, Q, a1, a2, a3⟩ := prT_scn (d := d) (s := s) h h1 h2 k1 k2
    rw [ht, hu] at a3
    exact ⟨P, Q, a1, a2, by rw [← Nat.mul_assoc, a3]; ac_rfl⟩
  have cl : ∀ d, cmpS (prT d s N D K n) (exT b) = (icmp (sv s (prQ d s N D K * (D * u))) (sv s (N * t)), 0, 0) := by
    intro d
    obtain ⟨P, Q, a1, a2, a3⟩ := key d
    unfold cmpS
    rw [a1, e2]
    show (ordS _ _, _, _) = _
    rw [ord_cross a2 hQ2 hB a3 hv]
  have cr : ∀ d, cmpS (exT b) (prT d s N D K n) = (icmp (sv s (N * t)) (sv s (prQ d s N D K * (D * u))), 0, 0) := by
    intro d
    obtain ⟨P, Q, a1, a2, a3⟩ := key d
    unfold cmpS
    rw [e2, a1]
    show (ordS _ _, _, _) = _
    rw [ord_cross hQ2 a2 hB hv a3]
  have hdiv : N * t = qat N D K * (D * u) + N * t % (D * u) := by
    unfold qat; rw [ht, hu, Nat.mul_comm (N * t / (D * u))]; exact (Nat.div_add_mod _ _).symm
  have hmod : N * t % (D * u) < D * u := Nat.mod_lt _ (Nat.mul_pos hD0 hu0)
  have hq : ∀ d, prQ d s N D K = if upB d s (qat N D K) (2 * (N * t % (D * u))) (D * u) = true then qat N D K + 1 else qat N D K := by
    intro d; unfold prQ; rw [ht, hu]
  generalize N * t % (D * u) = m at *
  have q0 := hq 0
  have qm := hq (-1)
  have q1 := hq 1
  unfold upB at q0 qm q1
  by_cases hm : m = 0
  · have hX : 0 < D * u := Nat.mul_pos hD0 hu0
    subst hm
    have p0 : prQ 0 s N D K = qat N D K := by rw [q0, if_neg]; simp; omega
    have pm : prQ (-1) s N D K = qat N D K := by rw [qm, if_neg]; simp
    have p1 : prQ 1 s N D K = qat N D K := by rw [q1, if_neg]; simp
    refine ⟨.inl (prT_congr n (by rw [p0, pm])), .inl ⟨prT_congr n (by rw [pm, p1]), ?_, ?_⟩⟩
    · rw [cl, pm, hdiv, Nat.add_zero, icmp_self]
    · rw [cr, p1, hdiv, Nat.add_zero, icmp_self]
  · have hlt : icmp (sv s (prQ (-1) s N D K * (D * u))) (sv s (N * t)) = -1 ∧ icmp (sv s (N * t)) (sv s (prQ 1 s N D K * (D * u))) = -1 ∧ (prQ 0 s N D K = prQ (-1) s N D K ∨ prQ 0 s N D K = prQ 1 s N D K) := by
      have h0 := prQ_two 0 s N D K
      have hs1 : (qat N D K + 1) * (D * u) = qat N D K * (D * u) + D * u := Nat.succ_mul _ _
      cases s
      · have pm : prQ (-1) false N D K = qat N D K := by rw [qm, if_neg]; simp
        have p1 : prQ 1 false N D K = qat N D K + 1 := by rw [q1, if_pos]; simp; omega
        rw [pm, p1]
        exact ⟨icmp_neg (sv_up (by omega)), icmp_neg (sv_up (by omega)), h0⟩
      · have pm : prQ (-1) true N D K = qat N D K + 1 := by rw [qm, if_pos]; simp; omega
        have p1 : prQ 1 true N D K = qat N D K := by rw [q1, if_neg]; simp
        rw [pm, p1]
        exact ⟨icmp_neg (sv_dn (by omega)), icmp_neg (sv_dn (by omega)), h0.symm⟩
    obtain ⟨g1, g2, g3⟩ := hlt
    refine ⟨?_, .inr ⟨fun heq => ?_, by rw [cl, g1], by rw [cr, g2]⟩⟩
    · rcases g3 with g | g
      · exact .inl (prT_congr n g)
      · exact .inr (prT_congr n g)
    · have c1 := cl (-1)
      have c2 := cr 1
      rw [← heq, g2] at c2
      rw [g1] at c1
      obtain ⟨P, Q, a1, a2, a3⟩ := key (-1)
      rw [cmpS_okP a1 e2] at c1
      rw [cmpS_okP e2 a1] at c2
      have c1' : ordS (s, P, Q, 0) (s, P2, Q2, 0) = -1 := congrArg Prod.fst c1
      have c2' : ordS (s, P2, Q2, 0) (s, P, Q, 0) = -1 := congrArg Prod.fst c2
      have := ordS_anti c1'
      rw [c2'] at this
      cases this
end Go.Proofs.YtiadjcilfljdaaaGreatDoor
end

section
namespace Go.Proofs.YtiadjcilfljdaaaGreatDoor
set_option linter.unusedVariables false
set_option linter.unusedSimpArgs false
open Go.RowKit Verge

/-- A pattern as one of a number. -/
def y5 (x : Nat) : Nat := if fwrong x = true then x &&& 9227875636482146303 else x
theorem y5_ok (x : Nat) (hx : x < 18446744073709551616) : y5 x < 18446744073709551616 ∧ fwrong (y5 x) = false := by
  unfold y5
  by_cases h : fwrong x = true
  · rw [if_pos h]
    refine ⟨Nat.lt_of_le_of_lt Nat.and_le_left hx, ?_⟩
    unfold fwrong fabs
    refine decide_eq_false ?_
    have : (x &&& 9227875636482146303) % 2 ^ 63 = x % 2 ^ 63 % 2 ^ 52 := by
      rw [Nat.and_mod_two_pow, show 9227875636482146303 % 2 ^ 63 = 2 ^ 52 - 1 from rfl, Nat.and_two_pow_sub_one_eq_mod]
    have h2 : x % 2 ^ 63 % 2 ^ 52 < 2 ^ 52 := Nat.mod_lt _ (by decide)
    have h3 : (2 : Nat) ^ 63 = 9223372036854775808 := by decide
    have h4 : (2 : Nat) ^ 52 = 4503599627370496 := by decide
    rw [h3] at this
    rw [this]
    rw [h4] at h2 ⊢
    omega
  · rw [if_neg h]; exact ⟨hx, by simpa using h⟩
theorem num5_any (x : Nat) (hx : x < 18446744073709551616) (w : World) : Calls Tryz.prog 11 #[.int .u64 (x : Int)] w fun e w' => e = .returned (.int .u64 (y5 x : Int)) ∧ w = w' := by
  have HF := Lib.hid (fun W => fin2_any x hx W)
  have ha : bits .andNot .u64 (x : Int) 9218868437227405312 = ((x &&& 9227875636482146303 : Nat) : Int) := Go.u64_andNot_nat x 9218868437227405312 hx (by omega)
  unfold y5
  obtain ⟨z, hz⟩ : ∃ z, x &&& 9227875636482146303 = z := ⟨_, rfl⟩
  rw [hz] at ha ⊢
  clear hx hz
  cases h : fwrong x
  · rw [h] at HF
    rw [if_neg (by simp)]
    clear h
    go_enter Tryz.func11, Tryz.ntmps11
    go_wp2_with fail
    refine (HF.out _).mono ?_
    rintro en wn ⟨rfl, rfl⟩
    go_wp2
    go_ret
    exact ⟨rfl, rfl⟩
  · rw [h] at HF
    rw [if_pos rfl]
    clear h
    go_enter Tryz.func11, Tryz.ntmps11
    go_wp2_with fail
    refine (HF.out _).mono ?_
    rintro en wn ⟨rfl, rfl⟩
    go_wp2
    go_ret
    exact ⟨by simp [ha], rfl⟩
theorem fneg_ok {b : Nat} (hb : b < 18446744073709551616) (hw : fwrong b = false) : fneg b < 18446744073709551616 ∧ fwrong (fneg b) = false ∧ fbF (fneg b) = fbF b ∧ fbE (fneg b) = fbE b ∧ decide (9223372036854775808 ≤ fneg b) = !decide (9223372036854775808 ≤ b) := by
  have hm : fneg b % 9223372036854775808 = b % 9223372036854775808 := by unfold fneg; split <;> omega
  have hl : fneg b < 18446744073709551616 := by unfold fneg; split <;> omega
  refine ⟨hl, ?_, ?_, ?_, ?_⟩
  · unfold fwrong fabs at hw ⊢; rw [hm]; exact hw
  · unfold fbF
    have : fneg b % 4503599627370496 = b % 4503599627370496 := by omega
    rw [hm, this]
  · unfold fbE; rw [hm]
  · by_cases h : 9223372036854775808 ≤ b
    · rw [decide_eq_true h]; exact decide_eq_false (by unfold fneg; rw [if_pos h]; omega)
    · rw [decide_eq_false h]; exact decide_eq_true (by unfold fneg; rw [if_neg h]; omega)
/-- The negative is mirrored. -/
theorem ard_neg (N D : Nat) (K : Int) (n : Nat) : prT (-1) true N D K n = 45 :: prT 1 false N D K n ∧ prT 1 true N D K n = 45 :: prT (-1) false N D K n := by
  have h1 : prQ (-1) true N D K = prQ 1 false N D K := by unfold prQ upB; simp
  have h2 : prQ 1 true N D K = prQ (-1) false N D K := by unfold prQ upB; simp
  unfold prT
  rw [h1, h2]
  unfold ftext
  constructor <;> simp
/-- A nought's text. -/
theorem zero_scn {n : Nat} (h1 : 1 ≤ n) (h2 : n ≤ 1100) : cmpS (ftext false (List.replicate n 48) (1 - (n : Int))) [48, 101, 48] = (0, 0, 0) ∧ cmpS [48, 101, 48] (ftext false (List.replicate n 48) (1 - (n : Int))) = (0, 0, 0) ∧ (ftext false (List.replicate n 48) (1 - (n : Int))).length ≤ 4096 := by
  have hn : numB 10 (List.replicate n 48) = 0 := by
    clear h1 h2
    induction n with
    | zero => rfl
    | succ m ih => rw [List.replicate_succ', numB_push, ih]; rfl
  have hs := scn_ftext false (List.replicate n 48) (fun z hz => by rw [List.eq_of_mem_replicate hz]; decide) (by simpa using h1) (by simp; omega) (1 - (n : Int)) (by simp; omega) (by simp; omega)
  rw [hn, Nat.zero_mul] at hs
  have h0 : scn [48, 101, 48] = .ok (false, 0, 1, 0) := rfl
  refine ⟨?_, ?_, scn_len hs⟩
  · rw [cmpS_ok hs h0]; unfold ordS; simp [sv, icmp]
  · rw [cmpS_ok h0 hs]; unfold ordS; simp [sv, icmp]
end Go.Proofs.YtiadjcilfljdaaaGreatDoor
end
