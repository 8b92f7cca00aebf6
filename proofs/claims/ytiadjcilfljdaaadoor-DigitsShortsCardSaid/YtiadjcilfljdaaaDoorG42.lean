/- Layer 5, plain: what Print writes, by Cmp against what Exact writes. -/
import Derived.Test.YtiadjcilfljdaaaDoorG41
section
namespace Go.Proofs.YtiadjcilfljdaaaDoor
set_option linter.unusedVariables false
set_option linter.unusedSimpArgs false
open Go.RowKit Verge

theorem prQ_two (d : Int) (s : Bool) (N D : Nat) (K : Int) : prQ d s N D K = qat N D K ∨ prQ d s N D K = qat N D K + 1 := by unfold prQ; split <;> simp
/-- Print's text is scanned to its digits times the power of ten. -/
theorem prT_scn {d : Int} {s : Bool} {N D : Nat} {K : Int} {n : Nat} (h : dcnt (qat N D K) = n) (h1 : 1 ≤ n) (h2 : n ≤ 1100) (k1 : -1600 ≤ K) (k2 : K ≤ 1000) :
    ∃ P Q, scn (prT d s N D K n) = .ok (s, P, Q, 0) ∧ 0 < Q ∧ P * 10 ^ (-K).toNat = prQ d s N D K * 10 ^ K.toNat * Q := by
  obtain ⟨l1, l2, _, l4⟩ := prQ_len (d := d) (s := s) h h1
  have htw := prQ_two d s N D K
  have hsp := dcnt_spec (qat N D K)
  rw [h] at hsp
  unfold prT
  generalize prQ d s N D K = q at *
  rcases Nat.lt_or_ge n (txt q).length with hl | hl
  · have hlen : (txt q).length = n + 1 := by omega
    have hq : q = 10 ^ n := by
      have : ¬ dcnt q ≤ n := by show ¬ (txt q).length ≤ n; omega
      rw [dcnt_le] at this
      rcases htw with e | e
      · rw [e] at this; omega
      · omega
    have hq10 : q % 10 = 0 := by
      obtain ⟨m, rfl⟩ : ∃ m, n = m + 1 := ⟨n - 1, by omega⟩
      rw [hq, Nat.pow_succ]; omega
    have hst := txt_step l4
    have hlen2 : (txt (q / 10)).length = n := by
      have := congrArg List.length hst
      rw [List.length_append, hlen] at this
      simpa using this.symm
    have ht : (txt q).take n = txt (q / 10) := by rw [hst, ← hlen2, List.take_left]
    rw [if_pos hl, ht]
    refine ⟨q / 10 * 10 ^ (K + 1).toNat, 10 ^ (-(K + 1)).toNat, ?_, Nat.pow_pos (by omega), ?_⟩
    · rw [scn_ftext s _ (txt_dig _) (by omega) (by omega) (K + 1) (by omega) (by omega), txt_num]
    · have e : q = q / 10 * 10 := by omega
      rw [Nat.mul_assoc, ← Nat.pow_add]
      have e2 : (K + 1).toNat + (-K).toNat = K.toNat + (-(K + 1)).toNat + 1 := by omega
      rw [e2, Nat.pow_succ, Nat.pow_add]
      generalize 10 ^ K.toNat = X
      generalize 10 ^ (-(K + 1)).toNat = Y
      calc q / 10 * (X * Y * 10) = q / 10 * 10 * X * Y := by ac_rfl
        _ = _ := by rw [← e]
  · have ht : (txt q).take n = txt q := List.take_of_length_le hl
    rw [if_neg (by omega), ht]
    refine ⟨q * 10 ^ K.toNat, 10 ^ (-K).toNat, ?_, Nat.pow_pos (by omega), rfl⟩
    rw [scn_ftext s _ (txt_dig _) (by omega) (by omega) K (by omega) (by omega), txt_num]
/-- The order of two numerals of one sign, each known by its ratio to a unit. -/
theorem ord_cross {s : Bool} {P Q P' Q' u v B : Nat} (hQ : 0 < Q) (hQ' : 0 < Q') (hB : 0 < B) (h : P * B = u * Q) (h' : P' * B = v * Q') :
    ordS (s, P, Q, 0) (s, P', Q', 0) = icmp (sv s u) (sv s v) := by
  unfold ordS
  simp only
  rw [show ((0 : Int) - 0).toNat = 0 from rfl, Nat.pow_zero, Nat.mul_one, Nat.mul_one]
  have e1 : P * Q' * B = u * (Q * Q') := by rw [Nat.mul_right_comm, h]; ac_rfl
  have e2 : P' * Q * B = v * (Q * Q') := by rw [Nat.mul_right_comm, h']; ac_rfl
  generalize P * Q' = X at *
  generalize P' * Q = Y at *
  rw [← icmp_mul _ _ hB, ← sv_mul, ← sv_mul, e1, e2, sv_mul, sv_mul, icmp_mul _ _ (Nat.mul_pos hQ hQ')]
theorem cmpS_okP {s t : List UInt8} {x y : Bool × Nat × Nat × Int} (h : scn s = .ok x) (h' : scn t = .ok y) : cmpS s t = (ordS x y, 0, 0) := by
  unfold cmpS
  rw [h, h']
theorem ordS_anti {x y : Bool × Nat × Nat × Int} (h : ordS x y = -1) : ordS y x = 1 := by
  unfold ordS at h ⊢
  rcases icmp_cases (sv x.1 (x.2.1 * y.2.2.1 * 2 ^ (x.2.2.2 - y.2.2.2).toNat)) (sv y.1 (y.2.1 * x.2.2.1 * 2 ^ (y.2.2.2 - x.2.2.2).toNat)) with ⟨h1, h2, _⟩ | ⟨h1, h2, _⟩ | ⟨h1, h2, _⟩
  · exact h2
  · rw [h1] at h; cases h
  · rw [h1] at h; cases h
theorem prT_congr {d e : Int} {s : Bool} {N D : Nat} {K : Int} (n : Nat) (h : prQ d s N D K = prQ e s N D K) : prT d s N D K n = prT e s N D K n := by unfold prT; rw [h]
theorem sv_up {a b : Nat} (h : a < b) : sv false a < sv false b := by simp [sv]; omega
theorem sv_dn {a b : Nat} (h : b < a) : sv true a < sv true b := by simp [sv]; omega
theorem ard_law (b : Nat) (hb : b < 18446744073709551616) (hw : fwrong b = false) (hF : fbF b ≠ 0) (n : Nat) (h1 : 1 ≤ n) (h2 : n ≤ 1100) (N D : Nat) (hN : N = fbF b * 2 ^ ((fbE b : Int) - 1074).toNat) (hD : D = 2 ^ (-((fbE b : Int) - 1074)).toNat) (K : Int) (k1 : -1600 ≤ K) (k2 : K ≤ 1000) (h : dcnt (qat N D K) = n) (s : Bool) (hs : decide (9223372036854775808 ≤ b) = s) :
    (prT 0 s N D K n = prT (-1) s N D K n ∨ prT 0 s N D K n = prT 1 s N D K n) ∧
    ((prT (-1) s N D K n = prT 1 s N D K n ∧ cmpS (prT (-1) s N D K n) (exT b) = (0, 0, 0) ∧ cmpS (exT b) (prT 1 s N D K n) = (0, 0, 0)) ∨
     (prT (-1) s N D K n ≠ prT 1 s N D K n ∧ cmpS (prT (-1) s N D K n) (exT b) = (-1, 0, 0) ∧ cmpS (exT b) (prT 1 s N D K n) = (-1, 0, 0))) := by
  have hz : b ≠ 9223372036854775808 := by rintro rfl; exact hF (by decide)
  obtain ⟨P2, Q2, e2, hQ2, hP2⟩ := ex_scn b hb hw hz
  rw [hs] at e2
  have hD0 : 0 < D := by rw [hD]; exact Nat.two_pow_pos _
  have hND : P2 * D = N * Q2 := by
    rw [FV_fb] at hP2
    have hE : fbE b ≤ 2045 := by
      unfold fwrong fabs at hw
      have := of_decide_eq_false hw
      unfold fbE; omega
    obtain ⟨x, hx⟩ : ∃ x, ((fbE b : Int) - 1074).toNat = x := ⟨_, rfl⟩
    obtain ⟨y, hy⟩ : ∃ y, (-((fbE b : Int) - 1074)).toNat = y := ⟨_, rfl⟩
    obtain ⟨z, hz2⟩ : ∃ z, KU = y + z := ⟨1074 - y, by unfold KU; omega⟩
    have hz3 : fbE b = x + z := by unfold KU at hz2; omega
    rw [hx] at hN
    rw [hy] at hD
    rw [hz2, hz3, Nat.pow_add, Nat.pow_add] at hP2
    rw [hN, hD]
    refine Nat.eq_of_mul_eq_mul_right (Nat.two_pow_pos z) ?_
    rw [Nat.mul_assoc P2, hP2]; ac_rfl
  obtain ⟨t, ht⟩ : ∃ t, 10 ^ (-K).toNat = t := ⟨_, rfl⟩
  obtain ⟨u, hu⟩ : ∃ u, 10 ^ K.toNat = u := ⟨_, rfl⟩
  have ht0 : 0 < t := by rw [← ht]; exact Nat.pow_pos (by omega)
  have hu0 : 0 < u := by rw [← hu]; exact Nat.pow_pos (by omega)
  have hB : 0 < t * D := Nat.mul_pos ht0 hD0
  have hv : P2 * (t * D) = N * t * Q2 := by rw [Nat.mul_left_comm, hND]; ac_rfl
  have key : ∀ d, ∃ P Q, scn (prT d s N D K n) = .ok (s, P, Q, 0) ∧ 0 < Q ∧ P * (t * D) = prQ d s N D K * (D * u) * Q := by
    intro d
    obtain ⟨P, Q, a1, a2, a3⟩ := prT_scn (d := d) (s := s) h h1 h2 k1 k2
    rw [ht, hu] at a3
    exact ⟨P, Q, a1, a2, by rw [← Nat.mul_assoc, a3]; ac_rfl⟩
  have cl : ∀ d, cmpS (prT d s N D K n) (exT b) = (icmp (sv s (prQ d s N D K * (D * u))) (sv s (N * t)), 0, 0) := by
    intro d
    obtain ⟨P, Q, a1, a2, a3⟩ := key d
    unfold cmpS
    rw [a1, e2]
    show (ordS _ _, _, _) = _
    rw [ord_cross a2 hQ2 hB a3 hv]
  have cr : ∀ d, cmpS (exT b) (prT d s N D K n) = (icmp (sv s (N * t)) (sv s (prQ d s N D K * (D * u))), 0, 0) := by
    intro d
    obtain ⟨P, Q, a1, a2, a3⟩ := key d
    unfold cmpS
    rw [e2, a1]
    show (ordS _ _, _, _) = _
    rw [ord_cross hQ2 a2 hB hv a3]
  have hdiv : N * t = qat N D K * (D * u) + N * t % (D * u) := by
    unfold qat; rw [ht, hu, Nat.mul_comm (N * t / (D * u))]; exact (Nat.div_add_mod _ _).symm
  have hmod : N * t % (D * u) < D * u := Nat.mod_lt _ (Nat.mul_pos hD0 hu0)
  have hq : ∀ d, prQ d s N D K = if upB d s (qat N D K) (2 * (N * t % (D * u))) (D * u) = true then qat N D K + 1 else qat N D K := by
    intro d; unfold prQ; rw [ht, hu]
  generalize N * t % (D * u) = m at *
  have q0 := hq 0
  have qm := hq (-1)
  have q1 := hq 1
  unfold upB at q0 qm q1
  by_cases hm : m = 0
  · have hX : 0 < D * u := Nat.mul_pos hD0 hu0
    subst hm
    have p0 : prQ 0 s N D K = qat N D K := by rw [q0, if_neg]; simp; omega
    have pm : prQ (-1) s N D K = qat N D K := by rw [qm, if_neg]; simp
    have p1 : prQ 1 s N D K = qat N D K := by rw [q1, if_neg]; simp
    refine ⟨.inl (prT_congr n (by rw [p0, pm])), .inl ⟨prT_congr n (by rw [pm, p1]), ?_, ?_⟩⟩
    · rw [cl, pm, hdiv, Nat.add_zero, icmp_self]
    · rw [cr, p1, hdiv, Nat.add_zero, icmp_self]
  · have hlt : icmp (sv s (prQ (-1) s N D K * (D * u))) (sv s (N * t)) = -1 ∧ icmp (sv s (N * t)) (sv s (prQ 1 s N D K * (D * u))) = -1 ∧ (prQ 0 s N D K = prQ (-1) s N D K ∨ prQ 0 s N D K = prQ 1 s N D K) := by
      have h0 := prQ_two 0 s N D K
      have hs1 : (qat N D K + 1) * (D * u) = qat N D K * (D * u) + D * u := Nat.succ_mul _ _
      cases s
      · have pm : prQ (-1) false N D K = qat N D K := by rw [qm, if_neg]; simp
        have p1 : prQ 1 false N D K = qat N D K + 1 := by rw [q1, if_pos]; simp; omega
        rw [pm, p1]
        exact ⟨icmp_neg (sv_up (by omega)), icmp_neg (sv_up (by omega)), h0⟩
      · have pm : prQ (-1) true N D K = qat N D K + 1 := by rw [qm, if_pos]; simp; omega
        have p1 : prQ 1 true N D K = qat N D K := by rw [q1, if_neg]; simp
        rw [pm, p1]
        exact ⟨icmp_neg (sv_dn (by omega)), icmp_neg (sv_dn (by omega)), h0.symm⟩
    obtain ⟨g1, g2, g3⟩ := hlt
    refine ⟨?_, .inr ⟨fun heq => ?_, by rw [cl, g1], by rw [cr, g2]⟩⟩
    · rcases g3 with g | g
      · exact .inl (prT_congr n g)
      · exact .inr (prT_congr n g)
    · have c1 := cl (-1)
      have c2 := cr 1
      rw [← heq, g2] at c2
      rw [g1] at c1
      obtain ⟨P, Q, a1, a2, a3⟩ := key (-1)
      rw [cmpS_okP a1 e2] at c1
      rw [cmpS_okP e2 a1] at c2
      have c1' : ordS (s, P, Q, 0) (s, P2, Q2, 0) = -1 := congrArg Prod.fst c1
      have c2' : ordS (s, P2, Q2, 0) (s, P, Q, 0) = -1 := congrArg Prod.fst c2
      have := ordS_anti c1'
      rw [c2'] at this
      cases this
end Go.Proofs.YtiadjcilfljdaaaDoor
end

section
namespace Go.Proofs.YtiadjcilfljdaaaDoor
set_option linter.unusedVariables false
set_option linter.unusedSimpArgs false
open Go.RowKit Verge

/-- A natural's list in a block of its own. -/
def IsO (n : Nat) (v : Value) (w : World) : Prop := ∃ A g, v = .slice A (dig n).length (dig n).length ∧ Own w g A (dig n)
theorem IsO.mono (n : Nat) : Mono (IsO n) := fun _ _ _ hb ⟨A, g, e, h⟩ => ⟨A, g, e, h.later hb⟩
theorem IsO.isT {n : Nat} {v : Value} {w : World} (h : IsO n v w) : IsT n v w := by
  obtain ⟨A, g, e, hO⟩ := h
  exact ⟨A, e, hO.rd⟩
section
variable {n m : Nat} {v u : Value} {w : World}
theorem nsmall_o (n : Nat) (h : n < 18446744073709551616) : Calls Tryd.prog 61 #[.int .u64 (n : Int)] w (Ans w (IsO n)) := by
  have := small_any (n : Int) w (by omega) (by omega)
  rw [Int.toNat_natCast] at this
  exact this.mono fun en w' ⟨g, A1, hg, he, hO, hb⟩ => ⟨_, he, ⟨A1, g, rfl, hO⟩, hb⟩
theorem nshl_o (e : Nat) (hv : IsT n v w) (h : blen n + e ≤ 500000) : Calls Tryd.prog 62 #[v, .int .i64 (e : Int)] w (Ans w (Is2 (IsO (n * 2 ^ e)) (IsV (.int .i64 0)))) := by
  obtain ⟨A, rfl, hR⟩ := hv
  have hl := len_of_blen (n := n) (by omega)
  have e1 : nshl n (e : Int) = (dig (n * 2 ^ e), 0) := by
    unfold nshl
    rw [if_neg (by omega), (long_false _).2 (by omega), if_neg (by simp)]
    by_cases h0 : n = 0
    · subst h0; rw [if_pos rfl, Nat.zero_mul, dig_zero]
    · rw [if_neg h0, if_neg (by omega), Int.toNat_natCast]
  have := shl_any A _ (dig n).length (dig n) (e : Int) w hR rfl (Nat.le_refl _) (by omega) (by omega) (by omega)
  rw [val_dig, e1] at this
  exact this.mono fun en w' ⟨g, A1, hg, he, hO, hb⟩ => ⟨_, he, ⟨_, _, rfl, ⟨A1, g, rfl, hO⟩, rfl⟩, hb⟩
theorem nmul_o (hv : IsT n v w) (hu : IsT m u w) (h : blen n ≤ 100000) (h' : blen m ≤ 100000) : Calls Tryd.prog 29 #[v, u] w (Ans w (Is2 (IsO (n * m)) (IsV (.int .i64 0)))) := by
  obtain ⟨A, rfl, hR⟩ := hv
  obtain ⟨B, rfl, hS⟩ := hu
  have hl := len_of_blen (n := n) (by omega)
  have hl' := len_of_blen (n := m) (by omega)
  have hp : blen (n * m) ≤ 200000 := by
    have h2 := (blen_lt n _).1 (Nat.le_refl (blen n))
    have h3 := (blen_lt m _).1 (Nat.le_refl (blen m))
    have : blen (n * m) ≤ blen n + blen m := by
      rw [blen_lt, Nat.pow_add]
      rcases Nat.eq_zero_or_pos m with h0 | h0
      · subst h0; rw [Nat.mul_zero]; exact Nat.mul_pos (Nat.two_pow_pos _) (Nat.two_pow_pos _)
      · exact Nat.lt_of_lt_of_le (Nat.mul_lt_mul_of_pos_right h2 h0) (Nat.mul_le_mul_left _ (Nat.le_of_lt h3))
    omega
  have hlp := len_of_blen (n := n * m) (by omega)
  have e : nmul n m = (dig (n * m), 0) := by
    unfold nmul
    rw [(long_false _).2 (by omega), (long_false _).2 (by omega), fit_no ((long_false _).2 (by omega)), decide_eq_false (by omega)]
    rfl
  have := mul_any A _ (dig n).length (dig n) B _ (dig m).length (dig m) w hR rfl (Nat.le_refl _) (by omega) hS rfl (Nat.le_refl _) (by omega)
  rw [val_dig, val_dig, e] at this
  exact this.mono fun en w' ⟨g, A1, hg, he, hO, hb⟩ => ⟨_, he, ⟨_, _, rfl, ⟨A1, g, rfl, hO⟩, rfl⟩, hb⟩
theorem nquo_o (hv : IsT n v w) (hu : IsT m u w) (h : blen n ≤ 100000) (h' : blen m ≤ 100000) (h0 : m ≠ 0) : Calls Tryd.prog 39 #[v, u] w (Ans w (Is3 (IsT (n / m)) (IsO (n % m)) (IsV (.int .i64 0)))) := by
  obtain ⟨A, rfl, hR⟩ := hv
  obtain ⟨B, rfl, hS⟩ := hu
  have hl := len_of_blen (n := n) (by omega)
  have hl' := len_of_blen (n := m) (by omega)
  have e : nquo n m = (dig (n / m), dig (n % m), 0) := by
    unfold nquo
    rw [if_neg h0, (long_false _).2 (by omega), (long_false _).2 (by omega)]
    rfl
  have := quo_any A _ (dig n).length (dig n) B _ (dig m).length (dig m) w hR rfl (Nat.le_refl _) (by omega) hS rfl (Nat.le_refl _) (by omega)
  rw [val_dig, val_dig, e] at this
  unfold QuoPost at this
  exact this.mono fun en w' ⟨g1, g2, A1, A2, _, _, _, he, hO, hO2, hb⟩ => ⟨_, he, ⟨_, _, _, rfl, ⟨A1, rfl, hO.rd⟩, ⟨A2, g2, rfl, hO2⟩, rfl⟩, hb⟩
end
set_option maxRecDepth 40000 in
set_option maxHeartbeats 1000000 in
theorem times_o {w : World} {v : Value} {N : Nat} (k : Nat) (hv : IsT N v w) (hk : k < 18446744073709551616) (n1 : blen N ≤ 90000) :
    Calls Tryd.prog 38 #[v, .int .u64 (k : Int)] w (Ans w (IsO (N * k))) := by
  have hkb : blen k ≤ 64 := (blen_lt _ _).2 hk
  have HS := Lib.hid (fun W => nsmall_is (w := W) k hk)
  have HM := Lib.hid (fun W x (hb' : Below w.heap.size w W) (hx : IsT k x W) => nmul_o (IsT.mono _ _ _ _ hb' hv) hx (by omega) (by omega))
  clear hv n1 hkb
  go_enter Tryd.func38, Tryd.ntmps38
  go_wp2_with (first
    | (go_at_call 61; (with_reducible refine (HS.out _).mono ?_); rintro e w1 ⟨x1, rfl, hx, hb1⟩; have HX := Lib.hid hx; have HB1 := Lib.hid hb1; clear hx hb1)
    | (go_at_call 29; (with_reducible refine (HM.out _ _ HB1.out HX.out).mono ?_); rintro e w2 ⟨x2, rfl, ⟨y1, y2, rfl, hy, rfl⟩, hb2⟩; have HY := Lib.hid hy; have HB2 := Lib.hid (raft HB1.out hb2); clear hy hb2))
  go_ret
  exact ⟨_, rfl, HY.out, HB2.out⟩
def hiB (r s mo : Nat) (ev : Bool) : Bool := decide (s < r + mo ∨ (r + mo = s ∧ ev = true))
def loB (r le : Nat) (ev : Bool) : Bool := decide (r < le ∨ (r = le ∧ ev = true))
/-- The margins of a number under way. -/
def IsMg (r s mo le : Nat) (ev : Bool) (v : Value) (w : World) : Prop := ∃ vr vs vm vl, v = .agg #[vr, vs, vm, vl, .bool ev] ∧ IsT r vr w ∧ IsT s vs w ∧ IsT mo vm w ∧ IsT le vl w
theorem IsMg.mono (r s mo le : Nat) (ev : Bool) : Mono (IsMg r s mo le ev) := fun _ _ _ hb ⟨vr, vs, vm, vl, e, h1, h2, h3, h4⟩ => ⟨vr, vs, vm, vl, e, IsT.mono _ _ _ _ hb h1, IsT.mono _ _ _ _ hb h2, IsT.mono _ _ _ _ hb h3, IsT.mono _ _ _ _ hb h4⟩
/-- The margins, each list in a block of its own. -/
def IsMo (r s mo le : Nat) (ev : Bool) (v : Value) (w : World) : Prop := ∃ vr vs vm vl, v = .agg #[vr, vs, vm, vl, .bool ev] ∧ IsO r vr w ∧ IsO s vs w ∧ IsO mo vm w ∧ IsO le vl w
variable {w : World} {v : Value} {r s mo le : Nat} {ev : Bool}
theorem box5at {w W : World} {a b c d e : Value} {t : TypeId} (hb : Below (w.alloc (.cells #[a, b, c, d, e] t)).heap.size (w.alloc (.cells #[a, b, c, d, e] t)) W) :
    W.cell? ⟨w.heap.size, 0, none⟩ = some a ∧ W.cell? ⟨w.heap.size, 1, none⟩ = some b ∧ W.cell? ⟨w.heap.size, 2, none⟩ = some c ∧ W.cell? ⟨w.heap.size, 3, none⟩ = some d ∧ W.cell? ⟨w.heap.size, 4, none⟩ = some e := by
  refine ⟨?_, ?_, ?_, ?_, ?_⟩
  · rw [bcell hb _ _ (by simp)]; simp [go_sem]
  · rw [bcell hb _ _ (by simp)]; simp [go_sem]
  · rw [bcell hb _ _ (by simp)]; simp [go_sem]
  · rw [bcell hb _ _ (by simp)]; simp [go_sem]
  · rw [bcell hb _ _ (by simp)]; simp [go_sem]
set_option maxRecDepth 40000 in
set_option maxHeartbeats 2000000 in
theorem high_any (h : IsMg r s mo le ev v w) (n1 : blen (r + mo) ≤ 90000) (n2 : blen s ≤ 90000) : Calls Tryd.prog 37 #[v] w (Ans w (IsV (.bool (hiB r s mo ev)))) := by
  obtain ⟨vr, vs, vm, vl, rfl, h1, h2, h3, h4⟩ := h
  have HA := Lib.hid (fun W (hb : Below w.heap.size w W) => nadd_is (IsT.mono _ _ _ _ hb h1) (IsT.mono _ _ _ _ hb h3) (by omega))
  have HC := Lib.hid (fun W u (hb : Below w.heap.size w W) (hu : IsT (r + mo) u W) => ncmp_is hu (IsT.mono _ _ _ _ hb h2) (by omega) (by omega))
  obtain ⟨o, ho⟩ : ∃ o, hiB r s mo ev = o := ⟨_, rfl⟩
  rw [ho]
  unfold hiB at ho
  have hbl := rnew w (.cells #[vr, vs, vm, vl, .bool ev] 59)
  have HB := Lib.hid hbl
  obtain ⟨k0, k1, k2, k3, k4⟩ := box5at (w := w) (a := vr) (b := vs) (c := vm) (d := vl) (e := .bool ev) (t := 59) (Below.refl _ _)
  have HK := Lib.hid (fun W hb => box5at (w := w) (a := vr) (b := vs) (c := vm) (d := vl) (e := .bool ev) (t := 59) (W := W) hb)
  obtain ⟨Ar, rfl, _⟩ := h1
  obtain ⟨As, rfl, _⟩ := h2
  obtain ⟨Am, rfl, _⟩ := h3
  obtain ⟨Al, rfl, _⟩ := h4
  generalize (dig r).length = lr at *
  generalize (dig s).length = ls at *
  generalize (dig mo).length = lm at *
  generalize (dig le).length = ll at *
  generalize r + mo = q at *
  clear hbl n1 n2
  by_cases c1 : s < q
  · have hc : cmp q s = 1 := by unfold cmp; rw [if_neg (by omega), if_pos c1]
    rw [decide_eq_true (.inl c1)] at ho
    rw [hc] at HC
    subst ho
    clear c1 hc
    go_enter Tryd.func37, Tryd.ntmps37
    go_wp2_with fail
    refine (HA.out _ HB.out).mono ?_
    rintro e w1 ⟨x1, rfl, ⟨y1, y2, rfl, hy, rfl⟩, hb1⟩
    obtain ⟨k0, k1, k2, k3, k4⟩ := HK.out _ hb1
    have HY := Lib.hid hy
    have HB1 := Lib.hid (raft HB.out hb1)
    clear hy hb1
    go_wp2_with fail
    refine (HC.out _ _ HB1.out HY.out).mono ?_
    rintro e w2 ⟨x1, rfl, rfl, hb2⟩
    have HB2 := Lib.hid (raft HB1.out hb2)
    clear hb2
    go_wp2
    go_ret
    exact ⟨_, rfl, rfl, HB2.out⟩
  · by_cases c2 : q < s
    · have hc : cmp q s = -1 := by unfold cmp; rw [if_pos c2]
      rw [decide_eq_false (by omega)] at ho
      rw [hc] at HC
      subst ho
      clear c1 c2 hc
      go_enter Tryd.func37, Tryd.ntmps37
      go_wp2_with fail
      refine (HA.out _ HB.out).mono ?_
      rintro e w1 ⟨x1, rfl, ⟨y1, y2, rfl, hy, rfl⟩, hb1⟩
      obtain ⟨k0, k1, k2, k3, k4⟩ := HK.out _ hb1
      have HY := Lib.hid hy
      have HB1 := Lib.hid (raft HB.out hb1)
      clear hy hb1
      go_wp2_with fail
      refine (HC.out _ _ HB1.out HY.out).mono ?_
      rintro e w2 ⟨x1, rfl, rfl, hb2⟩
      have HB2 := Lib.hid (raft HB1.out hb2)
      clear hb2
      go_wp2
      go_ret
      exact ⟨_, rfl, rfl, HB2.out⟩
    · have hc : cmp q s = 0 := by unfold cmp; rw [if_neg c2, if_neg c1]
      rw [show decide (s < q ∨ q = s ∧ ev = true) = ev by cases ev <;> simp <;> omega] at ho
      rw [hc] at HC
      subst ho
      clear c1 c2 hc
      go_enter Tryd.func37, Tryd.ntmps37
      go_wp2_with fail
      refine (HA.out _ HB.out).mono ?_
      rintro e w1 ⟨x1, rfl, ⟨y1, y2, rfl, hy, rfl⟩, hb1⟩
      obtain ⟨k0, k1, k2, k3, k4⟩ := HK.out _ hb1
      have hz1 : w.heap.size < w1.heap.size := by have := hb1.size; simp at this; omega
      have HK1 := Lib.hid (fun W (hb : Below w1.heap.size w1 W) => (bcell hb w.heap.size 4 hz1).trans k4)
      have HY := Lib.hid hy
      have HB1 := Lib.hid (raft HB.out hb1)
      clear hy hb1
      go_wp2_with fail
      refine (HC.out _ _ HB1.out HY.out).mono ?_
      rintro e w2 ⟨x1, rfl, rfl, hb2⟩
      have HB2 := Lib.hid (raft HB1.out hb2)
      have k4 := HK1.out _ hb2
      clear hb2
      go_wp2
      go_ret
      exact ⟨_, rfl, rfl, HB2.out⟩
set_option maxRecDepth 40000 in
set_option maxHeartbeats 2000000 in
theorem low_any (h : IsMg r s mo le ev v w) (n1 : blen r ≤ 90000) (n2 : blen le ≤ 90000) : Calls Tryd.prog 41 #[v] w (Ans w (IsV (.bool (loB r le ev)))) := by
  obtain ⟨vr, vs, vm, vl, rfl, h1, h2, h3, h4⟩ := h
  have HC := Lib.hid (fun W (hb : Below w.heap.size w W) => ncmp_is (IsT.mono _ _ _ _ hb h1) (IsT.mono _ _ _ _ hb h4) (by omega) (by omega))
  obtain ⟨o, ho⟩ : ∃ o, loB r le ev = o := ⟨_, rfl⟩
  rw [ho]
  unfold loB at ho
  have hbl := rnew w (.cells #[vr, vs, vm, vl, .bool ev] 59)
  have HB := Lib.hid hbl
  obtain ⟨k0, k1, k2, k3, k4⟩ := box5at (w := w) (a := vr) (b := vs) (c := vm) (d := vl) (e := .bool ev) (t := 59) (Below.refl _ _)
  have HK := Lib.hid (fun W hb => box5at (w := w) (a := vr) (b := vs) (c := vm) (d := vl) (e := .bool ev) (t := 59) (W := W) hb)
  obtain ⟨Ar, rfl, _⟩ := h1
  obtain ⟨As, rfl, _⟩ := h2
  obtain ⟨Am, rfl, _⟩ := h3
  obtain ⟨Al, rfl, _⟩ := h4
  generalize (dig r).length = lr at *
  generalize (dig s).length = ls at *
  generalize (dig mo).length = lm at *
  generalize (dig le).length = ll at *
  clear hbl n1 n2
  rcases Nat.lt_trichotomy r le with c1 | c1 | c1
  · have hc : cmp r le = -1 := by unfold cmp; rw [if_pos c1]
    rw [decide_eq_true (.inl c1)] at ho
    rw [hc] at HC
    subst ho
    clear c1 hc
    go_enter Tryd.func41, Tryd.ntmps41
    go_wp2_with fail
    refine (HC.out _ HB.out).mono ?_
    rintro e w1 ⟨x1, rfl, rfl, hb1⟩
    have HB1 := Lib.hid (raft HB.out hb1)
    clear hb1
    go_wp2
    go_ret
    exact ⟨_, rfl, rfl, HB1.out⟩
  · have hc : cmp r le = 0 := by unfold cmp; rw [if_neg (by omega), if_neg (by omega)]
    rw [show decide (r < le ∨ r = le ∧ ev = true) = ev by cases ev <;> simp <;> omega] at ho
    rw [hc] at HC
    subst ho
    clear c1 hc
    go_enter Tryd.func41, Tryd.ntmps41
    go_wp2_with fail
    refine (HC.out _ HB.out).mono ?_
    rintro e w1 ⟨x1, rfl, rfl, hb1⟩
    obtain ⟨k0, k1, k2, k3, k4⟩ := HK.out _ hb1
    have HB1 := Lib.hid (raft HB.out hb1)
    clear hb1
    go_wp2
    go_ret
    exact ⟨_, rfl, rfl, HB1.out⟩
  · have hc : cmp r le = 1 := by unfold cmp; rw [if_neg (by omega), if_pos c1]
    rw [decide_eq_false (by omega)] at ho
    rw [hc] at HC
    subst ho
    clear c1 hc
    go_enter Tryd.func41, Tryd.ntmps41
    go_wp2_with fail
    refine (HC.out _ HB.out).mono ?_
    rintro e w1 ⟨x1, rfl, rfl, hb1⟩
    have HB1 := Lib.hid (raft HB.out hb1)
    clear hb1
    go_wp2
    go_ret
    exact ⟨_, rfl, rfl, HB1.out⟩
end Go.Proofs.YtiadjcilfljdaaaDoor
end
