/- Vergeref3: made, infinite, greatest: a pattern out of its parts. -/
import Derived.Test.YtcomkgmonhidhaaGreatDoorG16
import Derived.Test.YtcomkgmonhidhaaGreatDoorG19
import Derived.Test.YtcomkgmonhidhaaGreatDoorG10
import Derived.Test.YtcomkgmonhidhaaGreatDoorG15
import Derived.Test.YtcomkgmonhidhaaGreatDoorG17
import Derived.Test.YtcomkgmonhidhaaGreatDoorG03
section
namespace Go.Proofs.YtcomkgmonhidhaaGreatDoor
set_option linter.unusedVariables false
set_option linter.unusedSimpArgs false
open Go.RowKit Verge

theorem or_top (x : Nat) (hx : x < 9223372036854775808) : Go.bits .or .u64 (x : Int) 9223372036854775808 = ((x + 9223372036854775808 : Nat) : Int) := by
  have := or_u64 x 9223372036854775808 63 hx (by decide) (by omega)
  exact this
theorem and_low (x : Nat) (hx : x < 18446744073709551616) : Go.bits .and .u64 (x : Int) 1 = ((x % 2 : Nat) : Int) := by
  have e : Go.bits .and .u64 (x : Int) ((1 : Nat) : Int) = ((x &&& 1 : Nat) : Int) := Go.u64_and_nat x 1 hx (by omega)
  rw [Nat.and_one_is_mod] at e
  exact e
theorem fpat_pos {s : Bool} {g : Nat} (h : 0 < g) : fpat s g = if s then g + 9223372036854775808 else g := by unfold fpat; rw [if_neg (by omega)]; split <;> omega

section
set_option maxRecDepth 20000
set_option maxHeartbeats 2000000
end
end Go.Proofs.YtcomkgmonhidhaaGreatDoor

/- Vergeref3: a ratio, rounded. -/
namespace Go.Proofs.YtcomkgmonhidhaaGreatDoor
set_option linter.unusedVariables false
set_option linter.unusedSimpArgs false
open Go.RowKit Verge

section
variable {w : World} {v u : Value} {xs ys : List Nat}
theorem len_is (hv : IsL xs v w) (hb : xs.length ≤ 35184372088700) : Calls Tryz.prog 95 #[v] w fun e w' => e = .returned (.int .i64 (blen (val xs) : Nat)) ∧ w = w' := by
  obtain ⟨A, c, rfl, h⟩ := hv
  exact rlen_any A _ c xs w h rfl (by omega)
theorem left_is (e : Nat) (eI : Int) (he : (e : Int) = eI) (hv : IsL xs v w) (hb : xs.length + e / 32 + 1 ≤ 35184372088800) : Calls Tryz.prog 80 #[v, .int .i64 eI] w (Ans w (IsN (val xs * 2 ^ e))) := by
  obtain ⟨A, c, rfl, h⟩ := hv
  have := wl_le xs
  exact ans_doc (rleft_any A _ c xs e eI w he h rfl (by omega) (by omega))
theorem by_is (hv : IsL xs v w) (hu : IsL ys u w) (h1 : xs.length ≤ 35184372088700) (h2 : ys.length ≤ 35184372088700) (hy : 0 < val ys) : Calls Tryz.prog 78 #[v, u] w (Ans w (Is2 (IsN (val xs / val ys)) (IsN (val xs % val ys)))) := by
  obtain ⟨A, c, rfl, h⟩ := hv
  obtain ⟨B, d, rfl, k⟩ := hu
  refine (rby_any A _ c xs B _ d ys w h rfl k rfl h1 h2 hy).mono ?_
  rintro e w' ⟨A1, c1, A2, c2, he, r1, _, _, r2, _, _, hb⟩
  exact ⟨_, he, ⟨_, _, rfl, ⟨A1, c1, rfl, r1⟩, ⟨A2, c2, rfl, r2⟩⟩, hb⟩
end
theorem blen_dig (n : Nat) : blen n ≤ 32 * (dig n).length := by
  rw [blen_lt]
  have := (dig_length_le (n := n) (k := (dig n).length)).1 (Nat.le_refl _)
  rwa [show (4294967296 : Nat) = 2 ^ 32 by rfl, ← Nat.pow_mul] at this
theorem dig_left_length (n e : Nat) : (dig (n * 2 ^ e)).length ≤ (dig n).length + e / 32 + 1 := by
  have h1 := dig_mul_length n (2 ^ e)
  have h2 : (dig (2 ^ e)).length ≤ e / 32 + 1 := dig_length_le.2 (by
    rw [show (4294967296 : Nat) = 2 ^ 32 by rfl, ← Nat.pow_mul]
    exact Nat.pow_lt_pow_right (by omega) (by omega))
  omega

section
variable (d : Int) (s : Bool) (X Y : List Nat) (va vb : Value) (K : Nat) (w : World)
end
theorem rngA_cut (N D j : Nat) (hj : 0 < j) : rngA (N * j) (D * j) = rngA N D := by
  unfold rngA
  rw [Nat.mul_div_mul_right _ _ hj]
  have : FV (fl (N / D)) * (D * j) = N * j ↔ FV (fl (N / D)) * D = N := by
    rw [← Nat.mul_assoc]
    exact ⟨fun h => Nat.eq_of_mul_eq_mul_right hj h, fun h => by rw [h]⟩
  simp only [this]
theorem rng_cut (d : Int) (s : Bool) (N D j : Nat) (hj : 0 < j) : rng d s (N * j) (D * j) = rng d s N D := by
  unfold rng
  rw [rngA_cut N D j hj, rngN_cut N D j hj, Nat.mul_div_mul_right _ _ hj]
theorem fpat_zero (s : Bool) : fpat s 0 = 0 := rfl
/-- The pattern of a ratio, rounded. -/
def rat3 (d p : Int) (q : Nat) (K : Nat) : Nat := fpat (decide (p < 0)) (rng d (decide (p < 0)) (p.natAbs * 2 ^ K) q)
end Go.Proofs.YtcomkgmonhidhaaGreatDoor
end

section
namespace Go.Proofs.YtcomkgmonhidhaaGreatDoor
set_option linter.unusedVariables false
set_option linter.unusedSimpArgs false
open Go.RowKit Verge

set_option maxRecDepth 20000 in
theorem power_rv (k : Int) (h1 : -2000 ≤ k) (h2 : k ≤ 2000) (w : World) : Calls Tryz.prog 77 #[.int .i64 k] w (Ans w (IsRV ((10 ^ k.toNat : Nat) : Int) (10 ^ (-k).toNat) 10000)) := by
  have hlen : ∀ n : Nat, n ≤ 2000 → (dig (10 ^ n)).length + 4 ≤ 10000 := by
    intro n hn
    have := dig_len16 (n := 10 ^ n) (i := n + 1) (by
      have h1 : 10 ^ n ≤ 16 ^ n := Nat.pow_le_pow_left (by omega) n
      have h2 : 16 ^ n < 16 ^ (n + 1) := Nat.pow_lt_pow_right (by omega) (by omega)
      omega)
    omega
  have hd1 : (dig 1).length = 1 := by rw [dig_one]; rfl
  have hpos : ∀ n : Nat, 0 < 10 ^ n := fun n => Nat.pow_pos (by omega)
  have HB := Lib.hid (rnew w ratO)
  have X3 := Lib.hid (Box.new w)
  by_cases hk : k < 0
  · obtain ⟨n, hn⟩ : ∃ n : Nat, -k = (n : Int) := Int.eq_ofNat_of_zero_le (by omega)
    obtain rfl : k = -(n : Int) := by omega
    have hn2 : n ≤ 2000 := by omega
    have HTn := Lib.hid (fun W => ans_doc (ten5_any n (by omega) W))
    have HFr := Lib.hid (fun (v u : Value) (W : World) (hv : IsN 1 v W) (hu : IsN (10 ^ n) u W) => frac_rv (s := false) (x := 1) (y := 10 ^ n) (e := 0) (hpos n) hv hu (by rw [hd1]; decide) (by have := hlen n hn2; show 0 / 32 + _ + 4 ≤ _; omega))
    have HONE := Lib.hid (one_is (w.alloc ratO))
    have HRES := Lib.hid (show ∀ v W, IsRV (sv false (1 * 2 ^ (0 : Int).toNat)) (10 ^ n * 2 ^ (-(0 : Int)).toNat) 10000 v W → IsRV ((10 ^ (-(n : Int)).toNat : Nat) : Int) (10 ^ (-(-(n : Int))).toNat) 10000 v W from by
      intro v W h
      rw [show (-(n : Int)).toNat = 0 by omega, show (-(-(n : Int))).toNat = n by omega, Nat.pow_zero]
      have e1 : sv false (1 * 2 ^ (0 : Int).toNat) = ((1 : Nat) : Int) := rfl
      have e2 : 10 ^ n * 2 ^ (-(0 : Int)).toNat = 10 ^ n := by show 10 ^ n * 2 ^ 0 = _; rw [Nat.pow_zero, Nat.mul_one]
      rw [e1, e2] at h
      exact h)
    generalize 10 ^ n = T at *
    generalize (10 ^ (-(n : Int)).toNat : Nat) = P at *
    generalize 10 ^ (-(-(n : Int))).toNat = Q at *
    have HBB := Lib.hid (raft HB.out (rnew (w.alloc ratO) (.cells #[.int .u32 1] 65)))
    have X4 := Lib.hid (X3.out.later (rnew (w.alloc ratO) (.cells #[.int .u32 1] 65)))
    have hone := HONE.out
    rw [show (w.alloc ratO).heap.size = w.heap.size + 1 by simp] at hone
    have HONE := Lib.hid hone
    clear hlen hd1 hpos h1 h2 hn hone
    go_enter Tryz.func77, Tryz.ntmps77
    go_wp2_with fail
    refine (HTn.out _).mono ?_
    rintro en w1 ⟨v, rfl, hv, hb⟩
    have HV := Lib.hid hv
    have HO := Lib.hid (IsN.mono _ _ _ _ hb HONE.out)
    have X5 := Lib.hid (X4.out.later hb)
    have HB1 := Lib.hid (raft HBB.out hb)
    clear hv hb
    go_wp2_with fail
    refine (HFr.out _ _ _ HO.out HV.out).mono ?_
    rintro en w2 ⟨u, rfl, hu, hb⟩
    have HU := Lib.hid (HRES.out _ _ hu)
    have X6 := Lib.hid (X5.out.later hb)
    have HB2 := Lib.hid (raft HB1.out hb)
    obtain ⟨s, A1, n1, c1, B1, m1, d1, rfl⟩ := HU.out.agg
    clear hu hb
    obtain ⟨o0, o1, o2, f0, f1, f2⟩ := X6.out.cells
    have hz := X6.out.lt
    go_wp2_with fail
    refine bodyPost_ret (v := .agg #[.bool s, .slice A1 n1 c1, .slice B1 m1 d1]) (by simp [results, Tryz.results77, go_sem, o0, o1, o2, hz]) rfl ?_
    exact ⟨_, rfl, HU.out.put3 X6.out (.bool s) (.slice A1 n1 c1) (.slice B1 m1 d1), put3_below HB2.out (Nat.le_refl _) (.bool s) (.slice A1 n1 c1) (.slice B1 m1 d1)⟩
  · obtain ⟨n, rfl⟩ := Int.eq_ofNat_of_zero_le (show 0 ≤ k by omega)
    have hn2 : n ≤ 2000 := by omega
    have HTn := Lib.hid (fun W => ans_doc (ten5_any n (by omega) W))
    have HFr := Lib.hid (fun (v u : Value) (W : World) (hv : IsN (10 ^ n) v W) (hu : IsN 1 u W) => frac_rv (s := false) (x := 10 ^ n) (y := 1) (e := 0) (by omega) hv hu (by have := hlen n hn2; show 0 / 32 + _ + 4 ≤ _; omega) (by rw [hd1]; decide))
    have HONE := Lib.hid (fun W => one_is W)
    have HRES := Lib.hid (show ∀ v W, IsRV (sv false (10 ^ n * 2 ^ (0 : Int).toNat)) (1 * 2 ^ (-(0 : Int)).toNat) 10000 v W → IsRV ((10 ^ (n : Int).toNat : Nat) : Int) (10 ^ (-(n : Int)).toNat) 10000 v W from by
      intro v W h
      rw [show (-(n : Int)).toNat = 0 by omega, show (n : Int).toNat = n by omega, Nat.pow_zero]
      have e1 : sv false (10 ^ n * 2 ^ (0 : Int).toNat) = ((10 ^ n : Nat) : Int) := by show ((10 ^ n * 2 ^ 0 : Nat) : Int) = _; rw [Nat.pow_zero, Nat.mul_one]
      have e2 : 1 * 2 ^ (-(0 : Int)).toNat = 1 := rfl
      rw [e1, e2] at h
      exact h)
    generalize 10 ^ n = T at *
    generalize (10 ^ (n : Int).toNat : Nat) = P at *
    generalize 10 ^ (-(n : Int)).toNat = Q at *
    clear hlen hd1 hpos h1 h2
    go_enter Tryz.func77, Tryz.ntmps77
    go_wp2_with fail
    refine (HTn.out _).mono ?_
    rintro en w1 ⟨v, rfl, hv, hb⟩
    have HV := Lib.hid (IsN.mono _ _ _ _ (rnew w1 (.cells #[.int .u32 1] 65)) hv)
    have HO := Lib.hid (HONE.out w1)
    have X5 := Lib.hid ((X3.out.later hb).later (rnew w1 (.cells #[.int .u32 1] 65)))
    have HB1 := Lib.hid (raft (raft HB.out hb) (rnew w1 (.cells #[.int .u32 1] 65)))
    clear hv hb
    go_wp2_with fail
    refine (HFr.out _ _ _ HV.out HO.out).mono ?_
    rintro en w2 ⟨u, rfl, hu, hb⟩
    have HU := Lib.hid (HRES.out _ _ hu)
    have X6 := Lib.hid (X5.out.later hb)
    have HB2 := Lib.hid (raft HB1.out hb)
    obtain ⟨s, A1, n1, c1, B1, m1, d1, rfl⟩ := HU.out.agg
    clear hu hb
    obtain ⟨o0, o1, o2, f0, f1, f2⟩ := X6.out.cells
    have hz := X6.out.lt
    go_wp2_with fail
    refine bodyPost_ret (v := .agg #[.bool s, .slice A1 n1 c1, .slice B1 m1 d1]) (by simp [results, Tryz.results77, go_sem, o0, o1, o2, hz]) rfl ?_
    exact ⟨_, rfl, HU.out.put3 X6.out (.bool s) (.slice A1 n1 c1) (.slice B1 m1 d1), put3_below HB2.out (Nat.le_refl _) (.bool s) (.slice A1 n1 c1) (.slice B1 m1 d1)⟩
end Go.Proofs.YtcomkgmonhidhaaGreatDoor
end

section
namespace Go.Proofs.YtcomkgmonhidhaaGreatDoor
set_option linter.unusedVariables false
set_option linter.unusedSimpArgs false
open Go.RowKit Verge

def dcnt (q : Nat) : Nat := (txt q).length
theorem dcnt_zero : dcnt 0 = 0 := rfl
theorem dcnt_step {q : Nat} (h : 0 < q) : dcnt q = dcnt (q / 10) + 1 := by
  unfold dcnt
  rw [txt_step h, List.length_append]
  rfl
theorem dcnt_spec (q : Nat) : q < 10 ^ dcnt q ∧ (0 < q → 0 < dcnt q ∧ 10 ^ (dcnt q - 1) ≤ q) := by
  induction q using Nat.strongRecOn with
  | _ q ih =>
    by_cases h : q = 0
    · subst h
      exact ⟨by rw [dcnt_zero]; decide, fun h => absurd h (by omega)⟩
    · have hq : 0 < q := by omega
      have hs := dcnt_step hq
      obtain ⟨h1, h2⟩ := ih (q / 10) (by omega)
      rw [hs]
      refine ⟨?_, fun _ => ⟨by omega, ?_⟩⟩
      · rw [Nat.pow_succ]; omega
      · rw [Nat.add_sub_cancel]
        by_cases h0 : q / 10 = 0
        · rw [h0, dcnt_zero, Nat.pow_zero]; exact hq
        · obtain ⟨h3, h4⟩ := h2 (by omega)
          have : dcnt (q / 10) = dcnt (q / 10) - 1 + 1 := by omega
          rw [this, Nat.pow_succ]
          omega
theorem dcnt_le (q m : Nat) : dcnt q ≤ m ↔ q < 10 ^ m := by
  obtain ⟨h1, h2⟩ := dcnt_spec q
  constructor
  · intro h
    exact Nat.lt_of_lt_of_le h1 (Nat.pow_le_pow_right (by omega) h)
  · intro h
    refine Classical.byContradiction fun hc => ?_
    have hq : 0 < q := by
      rcases Nat.eq_zero_or_pos q with e | e
      · subst e; rw [dcnt_zero] at hc; omega
      · exact e
    obtain ⟨h3, h4⟩ := h2 hq
    have : 10 ^ m ≤ 10 ^ (dcnt q - 1) := Nat.pow_le_pow_right (by omega) (by omega)
    omega

/-- N by D, times 10 to the -K, its whole part. -/
def qat (N D : Nat) (K : Int) : Nat := N * 10 ^ (-K).toNat / (D * 10 ^ K.toNat)
/-- Is N by D below 10 to the t? -/
def belowT (N D : Nat) (t : Int) : Prop := N * 10 ^ (-t).toNat < D * 10 ^ t.toNat
theorem cross {N D x y u v : Nat} (h : (y : Int) - x = (v : Int) - u) : N * 10 ^ x < D * 10 ^ y ↔ N * 10 ^ u < D * 10 ^ v := by
  have key : ∀ {x y u v : Nat}, y + u = v + x → N * 10 ^ x < D * 10 ^ y → N * 10 ^ u < D * 10 ^ v := by
    intro x y u v e hlt
    have h1 : N * 10 ^ x * 10 ^ u < D * 10 ^ y * 10 ^ u := Nat.mul_lt_mul_of_pos_right hlt (Nat.pow_pos (by omega))
    have e1 : D * 10 ^ y * 10 ^ u = D * 10 ^ v * 10 ^ x := by
      rw [Nat.mul_assoc, ← Nat.pow_add, e, Nat.pow_add, ← Nat.mul_assoc]
    have e2 : N * 10 ^ x * 10 ^ u = N * 10 ^ u * 10 ^ x := by rw [Nat.mul_assoc, Nat.mul_comm (10 ^ x), ← Nat.mul_assoc]
    rw [e1, e2] at h1
    exact Nat.lt_of_mul_lt_mul_right h1
  exact ⟨key (by omega), key (by omega)⟩
theorem belowT_mono {N D : Nat} {t u : Int} (h : belowT N D t) (hu : t ≤ u) : belowT N D u := by
  unfold belowT at *
  obtain ⟨i, hi⟩ : ∃ i : Nat, u = t + (i : Int) := ⟨(u - t).toNat, by omega⟩
  have h1 : N * 10 ^ (-t).toNat < D * 10 ^ (t.toNat + i) := Nat.lt_of_lt_of_le h (Nat.mul_le_mul_left _ (Nat.pow_le_pow_right (by omega) (by omega)))
  exact (cross (by omega)).1 h1
section
variable {N D : Nat} (hD : 0 < D)
include hD
theorem qat_le (K : Int) (m : Nat) : dcnt (qat N D K) ≤ m ↔ belowT N D (K + m) := by
  rw [dcnt_le]
  unfold qat belowT
  rw [Nat.div_lt_iff_lt_mul (Nat.mul_pos hD (Nat.pow_pos (by omega))), show 10 ^ m * (D * 10 ^ K.toNat) = D * 10 ^ (m + K.toNat) by rw [Nat.pow_add]; ac_rfl]
  exact cross (by omega)
/-- Of a quotient with a digit at least: the power of ten that is the first above the number. -/
theorem qat_top {K : Int} {m : Nat} (hm : 0 < m) : dcnt (qat N D K) = m ↔ belowT N D (K + m) ∧ ¬ belowT N D (K + m - 1) := by
  have h1 := qat_le (N := N) hD K m
  have h2 := qat_le (N := N) hD K (m - 1)
  rw [show K + ((m - 1 : Nat) : Int) = K + m - 1 by omega] at h2
  constructor
  · intro h
    exact ⟨h1.1 (by omega), fun hb => by have := h2.2 hb; omega⟩
  · rintro ⟨ha, hb⟩
    have := h1.2 ha
    have : ¬ dcnt (qat N D K) ≤ m - 1 := fun h => hb (h2.1 h)
    omega
/-- The power of ten turned by what is too much or too little: just n digits. -/
theorem qat_turn {K : Int} {m n : Nat} (hm : 0 < m) (hn : 0 < n) (h : dcnt (qat N D K) = m) : dcnt (qat N D (K + m - n)) = n := by
  rw [qat_top hD hn]
  have := (qat_top hD hm).1 h
  rw [show K + (m : Int) - n + n = K + m by omega]
  exact this
theorem qat_one {K L : Int} {n : Nat} (hn : 0 < n) (h : dcnt (qat N D K) = n) (h' : dcnt (qat N D L) = n) : K = L := by
  obtain ⟨a1, a2⟩ := (qat_top hD hn).1 h
  obtain ⟨b1, b2⟩ := (qat_top hD hn).1 h'
  rcases Int.lt_trichotomy K L with c | c | c
  · exact absurd (belowT_mono a1 (by omega)) b2
  · exact c
  · exact absurd (belowT_mono b1 (by omega)) a2
/-- Below the number's first digit the quotient is not 0. -/
theorem qat_low {K : Int} (h : ¬ belowT N D K) : 0 < dcnt (qat N D K) := by
  have := qat_le (N := N) hD K 0
  rw [show K + ((0 : Nat) : Int) = K by omega] at this
  refine Nat.pos_of_ne_zero fun e => h (this.1 (by omega))
end
end Go.Proofs.YtcomkgmonhidhaaGreatDoor
end
