/- Layer 5, plain: the order of texts, and what they are read as. -/
import Derived.Test.YtiadjcilfljdaaaGreatDoorG25
import Derived.Test.YtiadjcilfljdaaaGreatDoorG15
import Derived.Test.YtiadjcilfljdaaaGreatDoorG19
section
namespace Go.Proofs.YtiadjcilfljdaaaGreatDoor
set_option linter.unusedVariables false
set_option linter.unusedSimpArgs false
open Go.RowKit Verge

theorem fl_le {N M D : Nat} (hD : 0 < D) (h : N ≤ M) : fl (N / D) ≤ fl (M / D) := (div_FV hD).2 (Nat.le_trans (fl_div_le N D hD) h)
theorem rngA_mono {N M D : Nat} (hD : 0 < D) (h : N ≤ M) : rngA N D ≤ rngA M D := by
  have h1 := fl_le hD h
  have h2 := fl_div_le N D hD
  have h3 := fl_div_le M D hD
  unfold rngA
  generalize fl (N / D) = a at *
  generalize fl (M / D) = b at *
  by_cases e1 : FV a * D = N
  · rw [if_pos e1]; split <;> omega
  · rw [if_neg e1]
    by_cases e2 : FV b * D = M
    · rw [if_pos e2]
      rcases Nat.lt_or_ge a b with h4 | h4
      · omega
      · obtain rfl : a = b := by omega
        exact absurd (show FV a * D = N by omega) e1
    · rw [if_neg e2]; omega
theorem rngN_mono {N M D : Nat} (hD : 0 < D) (h : N ≤ M) : rngN N D ≤ rngN M D := by
  have h1 := fl_le hD h
  unfold rngN
  generalize fl (N / D) = a at *
  generalize fl (M / D) = b at *
  rcases Nat.lt_or_ge a b with h4 | h4
  · generalize (FV a + FV (a + 1)) * D = A
    generalize (FV b + FV (b + 1)) * D = B
    repeat' split
    all_goals omega
  · obtain rfl : a = b := by omega
    generalize (FV a + FV (a + 1)) * D = A
    repeat' split
    all_goals omega
theorem rng_mono {d : Int} {s : Bool} {N M D : Nat} (hD : 0 < D) (h : N ≤ M) : rng d s N D ≤ rng d s M D := by
  have h1 := fl_le hD h
  have h2 := rngA_mono hD h
  have h3 := rngN_mono hD h
  unfold rng
  repeat' split
  all_goals omega
theorem rng_le {d : Int} {s : Bool} {N D M E : Nat} (hD : 0 < D) (hE : 0 < E) (h : N * E ≤ M * D) : rng d s N D ≤ rng d s M E := by
  rw [← rng_cut d s N D E hE, ← rng_cut d s M E D hD, Nat.mul_comm E D]
  exact rng_mono (Nat.mul_pos hD hE) h
theorem rng_eq {d : Int} {s : Bool} {N D M E : Nat} (hD : 0 < D) (hE : 0 < E) (h : N * E = M * D) : rng d s N D = rng d s M E :=
  Nat.le_antisymm (rng_le hD hE (Nat.le_of_eq h)) (rng_le hE hD (Nat.le_of_eq h.symm))
theorem crossed (A D B E : Nat) (K L : Int) (U : Nat) (hU : 0 < U) : ∃ c, 0 < c ∧ A * 2 ^ K.toNat * U * (E * 2 ^ (-L).toNat) = A * E * 2 ^ (K - L).toNat * c ∧ B * 2 ^ L.toNat * U * (D * 2 ^ (-K).toNat) = B * D * 2 ^ (L - K).toNat * c := by
  obtain ⟨j, hj⟩ : ∃ j : Nat, K.toNat + (-L).toNat = (K - L).toNat + j := ⟨K.toNat + (-L).toNat - (K - L).toNat, by omega⟩
  have hj2 : L.toNat + (-K).toNat = (L - K).toNat + j := by omega
  refine ⟨2 ^ j * U, Nat.mul_pos (Nat.two_pow_pos _) hU, ?_, ?_⟩
  · have : 2 ^ K.toNat * 2 ^ (-L).toNat = 2 ^ (K - L).toNat * 2 ^ j := by rw [← Nat.pow_add, ← Nat.pow_add, hj]
    calc A * 2 ^ K.toNat * U * (E * 2 ^ (-L).toNat) = A * E * (2 ^ K.toNat * 2 ^ (-L).toNat) * U := by ac_rfl
      _ = _ := by rw [this]; ac_rfl
  · have : 2 ^ L.toNat * 2 ^ (-K).toNat = 2 ^ (L - K).toNat * 2 ^ j := by rw [← Nat.pow_add, ← Nat.pow_add, hj2]
    calc B * 2 ^ L.toNat * U * (D * 2 ^ (-K).toNat) = B * D * (2 ^ L.toNat * 2 ^ (-K).toNat) * U := by ac_rfl
      _ = _ := by rw [this]; ac_rfl
/-- The pattern that a numeral's number is read as. -/
def ordP (d : Int) (x : Bool × Nat × Nat × Int) : Nat := fpat x.1 (rng d x.1 (x.2.1 * 2 ^ x.2.2.2.toNat * 2 ^ KU) (x.2.2.1 * 2 ^ (-x.2.2.2).toNat))
theorem FK_fpat {s : Bool} {r : Nat} (h : r ≤ 9218868437227405312) : FK (fpat s r) = if s = true then -(r : Int) else r := by
  unfold fpat FK
  by_cases h0 : r = 0
  · subst h0; cases s <;> rfl
  · rw [if_neg h0]
    cases s
    · simp only [Bool.false_eq_true, if_false]; rw [if_pos (by omega)]
    · simp only [if_true]; rw [if_neg (by omega)]; omega
theorem icmp_lt {a b : Int} : icmp a b = -1 → a < b := by
  unfold icmp; intro h; split at h
  · assumption
  · split at h <;> simp at h
theorem icmp_self (a : Int) : icmp a a = 0 := by unfold icmp; rw [if_neg (by omega), if_pos rfl]
theorem icmp_cases (a b : Int) : (icmp a b = -1 ∧ icmp b a = 1 ∧ a < b) ∨ (icmp a b = 0 ∧ icmp b a = 0 ∧ a = b) ∨ (icmp a b = 1 ∧ icmp b a = -1 ∧ b < a) := by
  unfold icmp
  rcases Int.lt_trichotomy a b with h | h | h
  · left; rw [if_pos h, if_neg (by omega), if_neg (by omega)]; exact ⟨rfl, rfl, h⟩
  · right; left; rw [if_neg (by omega), if_pos h, if_neg (by omega), if_pos h.symm]; exact ⟨rfl, rfl, h⟩
  · right; right; rw [if_neg (by omega), if_neg (by omega), if_pos h]; exact ⟨rfl, rfl, h⟩
theorem ord_less (d : Int) {x y : Bool × Nat × Nat × Int} (hx : 0 < x.2.2.1) (hy : 0 < y.2.2.1) (h : sv x.1 (x.2.1 * y.2.2.1 * 2 ^ (x.2.2.2 - y.2.2.2).toNat) ≤ sv y.1 (y.2.1 * x.2.2.1 * 2 ^ (y.2.2.2 - x.2.2.2).toNat)) : FK (ordP d x) ≤ FK (ordP d y) := by
  obtain ⟨s, A, D, K⟩ := x
  obtain ⟨t, B, E, L⟩ := y
  simp only at hx hy h ⊢
  unfold ordP
  simp only
  rw [FK_fpat (rng_top _ _ _ _), FK_fpat (rng_top _ _ _ _)]
  obtain ⟨c, hc, e1, e2⟩ := crossed A D B E K L (2 ^ KU) (Nat.two_pow_pos _)
  have hD : 0 < D * 2 ^ (-K).toNat := Nat.mul_pos hx (Nat.two_pow_pos _)
  have hE : 0 < E * 2 ^ (-L).toNat := Nat.mul_pos hy (Nat.two_pow_pos _)
  generalize D * 2 ^ (-K).toNat = D' at *
  generalize E * 2 ^ (-L).toNat = E' at *
  generalize A * 2 ^ K.toNat * 2 ^ KU = A' at *
  generalize B * 2 ^ L.toNat * 2 ^ KU = B' at *
  generalize A * E * 2 ^ (K - L).toNat = a at *
  generalize B * D * 2 ^ (L - K).toNat = b at *
  unfold sv at h
  cases s <;> cases t
  · have h' : a ≤ b := by simp at h; omega
    have := rng_le (d := d) (s := false) hD hE (by rw [e1, e2]; exact Nat.mul_le_mul_right c h')
    simp; omega
  · have h' : a = 0 ∧ b = 0 := by simp at h; omega
    have hA : A' = 0 := by
      have := e1; rw [h'.1, Nat.zero_mul] at this
      rcases Nat.mul_eq_zero.1 this with h | h
      · exact h
      · omega
    have hB : B' = 0 := by
      have := e2; rw [h'.2, Nat.zero_mul] at this
      rcases Nat.mul_eq_zero.1 this with h | h
      · exact h
      · omega
    rw [hA, hB, rng_zero, rng_zero]; simp
  · simp <;> omega
  · have h' : b ≤ a := by simp at h; omega
    have := rng_le (d := d) (s := true) hE hD (by rw [e1, e2]; exact Nat.mul_le_mul_right c h')
    simp; omega
theorem FK_pat {s t : Bool} {r u : Nat} (h : r ≤ 9218868437227405312) (h' : u ≤ 9218868437227405312) (e : FK (fpat s r) = FK (fpat t u)) : fpat s r = fpat t u := by
  rw [FK_fpat h, FK_fpat h'] at e
  unfold fpat
  cases s <;> cases t <;> simp at e ⊢ <;> (repeat' split) <;> omega
/-- What the order of two numerals says of what they are read as. -/
theorem ord_law (d : Int) {x y : Bool × Nat × Nat × Int} (hx : 0 < x.2.2.1) (hy : 0 < y.2.2.1) :
    (ordS x y = -1 ∧ ordS y x = 1 ∧ FK (ordP d x) ≤ FK (ordP d y)) ∨ (ordS x y = 0 ∧ ordS y x = 0 ∧ ordP d x = ordP d y) ∨ (ordS x y = 1 ∧ ordS y x = -1 ∧ FK (ordP d y) ≤ FK (ordP d x)) := by
  unfold ordS
  rcases icmp_cases (sv x.1 (x.2.1 * y.2.2.1 * 2 ^ (x.2.2.2 - y.2.2.2).toNat)) (sv y.1 (y.2.1 * x.2.2.1 * 2 ^ (y.2.2.2 - x.2.2.2).toNat)) with ⟨h1, h2, h⟩ | ⟨h1, h2, h⟩ | ⟨h1, h2, h⟩
  · exact .inl ⟨h1, h2, ord_less d hx hy (Int.le_of_lt h)⟩
  · exact .inr (.inl ⟨h1, h2, FK_pat (rng_top _ _ _ _) (rng_top _ _ _ _) (Int.le_antisymm (ord_less d hx hy (Int.le_of_eq h)) (ord_less d hy hx (Int.le_of_eq h.symm)))⟩)
  · exact .inr (.inr ⟨h1, h2, ord_less d hy hx (Int.le_of_lt h)⟩)
theorem ordS_self (x : Bool × Nat × Nat × Int) : ordS x x = 0 := icmp_self _
/-- All that the law asks of two texts. -/
theorem ord_all (d : Int) (s t : List UInt8) :
    ((cmpS s t).1 = 0 ∧ (cmpS t s).1 = 0 ∧ (cmpS s t).2.2 ≠ 0 ∧ (cmpS t s).2.2 ≠ 0 ∧ ((readS d s).2.2 ≠ 0 ∨ (readS d t).2.2 ≠ 0)) ∨
    ((cmpS s t).2.2 = 0 ∧ (cmpS t s).2.2 = 0 ∧ (readS d s).2.2 = 0 ∧ (readS d t).2.2 = 0 ∧ cmpS s s = (0, 0, 0) ∧ cmpS t t = (0, 0, 0) ∧
      (((cmpS s t).1 = -1 ∧ (cmpS t s).1 = 1 ∧ FK (readS d s).1 ≤ FK (readS d t).1) ∨ ((cmpS s t).1 = 0 ∧ (cmpS t s).1 = 0 ∧ (readS d s).1 = (readS d t).1) ∨ ((cmpS s t).1 = 1 ∧ (cmpS t s).1 = -1 ∧ FK (readS d t).1 ≤ FK (readS d s).1))) := by
  unfold cmpS readS
  cases hs : scn s with
  | error pc =>
    obtain ⟨p, c⟩ := pc
    have hc := scn_code hs
    left
    cases ht : scn t with
    | error pc' =>
      obtain ⟨p', c'⟩ := pc'
      have hc' := scn_code ht
      exact ⟨rfl, rfl, by show c ≠ 0; omega, by show c' ≠ 0; omega, .inl (by show c ≠ 0; omega)⟩
    | ok y => exact ⟨rfl, rfl, by show c ≠ 0; omega, by show c ≠ 0; omega, .inl (by show c ≠ 0; omega)⟩
  | ok x =>
    cases ht : scn t with
    | error pc' =>
      obtain ⟨p', c'⟩ := pc'
      have hc' := scn_code ht
      left
      exact ⟨rfl, rfl, by show c' ≠ 0; omega, by show c' ≠ 0; omega, .inr (by show c' ≠ 0; omega)⟩
    | ok y =>
      obtain ⟨n, N, D, K⟩ := x
      obtain ⟨m, M, E, L⟩ := y
      right
      refine ⟨rfl, rfl, rfl, rfl, ?_, ?_, ord_law d (x := (n, N, D, K)) (y := (m, M, E, L)) (scn_bd hs).2.2.1 (scn_bd ht).2.2.1⟩
      · show (ordS _ _, _, _) = _; rw [ordS_self]
      · show (ordS _ _, _, _) = _; rw [ordS_self]
end Go.Proofs.YtiadjcilfljdaaaGreatDoor
end

section
namespace Go.Proofs.YtiadjcilfljdaaaGreatDoor
set_option linter.unusedVariables false
set_option linter.unusedSimpArgs false
open Go.RowKit Verge

def dcnt (q : Nat) : Nat := (txt q).length
theorem dcnt_zero : dcnt 0 = 0 := rfl
theorem dcnt_step {q : Nat} (h : 0 < q) : dcnt q = dcnt (q / 10) + 1 := by
  unfold dcnt
  rw [txt_step h, List.length_append]
  rfl
theorem dcnt_spec (q : Nat) : q < 10 ^ dcnt q ∧ (0 < q → 0 < dcnt q ∧ 10 ^ (dcnt q - 1) ≤ q) := by
  induction q using Nat.strongRecOn with
  | _ q ih =>
    by_cases h : q = 0
    · subst h
      exact ⟨by rw [dcnt_zero]; decide, fun h => absurd h (by omega)⟩
    · have hq : 0 < q := by omega
      have hs := dcnt_step hq
      obtain ⟨h1, h2⟩ := ih (q / 10) (by omega)
      rw [hs]
      refine ⟨?_, fun _ => ⟨by omega, ?_⟩⟩
      · rw [Nat.pow_succ]; omega
      · rw [Nat.add_sub_cancel]
        by_cases h0 : q / 10 = 0
        · rw [h0, dcnt_zero, Nat.pow_zero]; exact hq
        · obtain ⟨h3, h4⟩ := h2 (by omega)
          have : dcnt (q / 10) = dcnt (q / 10) - 1 + 1 := by omega
          rw [this, Nat.pow_succ]
          omega
theorem dcnt_le (q m : Nat) : dcnt q ≤ m ↔ q < 10 ^ m := by
  obtain ⟨h1, h2⟩ := dcnt_spec q
  constructor
  · intro h
    exact Nat.lt_of_lt_of_le h1 (Nat.pow_le_pow_right (by omega) h)
  · intro h
    refine Classical.byContradiction fun hc => ?_
    have hq : 0 < q := by
      rcases Nat.eq_zero_or_pos q with e | e
      · subst e; rw [dcnt_zero] at hc; omega
      · exact e
    obtain ⟨h3, h4⟩ := h2 hq
    have : 10 ^ m ≤ 10 ^ (dcnt q - 1) := Nat.pow_le_pow_right (by omega) (by omega)
    omega

/-- N by D, times 10 to the -K, its whole part. -/
def qat (N D : Nat) (K : Int) : Nat := N * 10 ^ (-K).toNat / (D * 10 ^ K.toNat)
/-- Is N by D below 10 to the t? -/
def belowT (N D : Nat) (t : Int) : Prop := N * 10 ^ (-t).toNat < D * 10 ^ t.toNat
theorem cross {N D x y u v : Nat} (h : (y : Int) - x = (v : Int) - u) : N * 10 ^ x < D * 10 ^ y ↔ N * 10 ^ u < D * 10 ^ v := by
  have key : ∀ {x y u v : Nat}, y + u = v + x → N * 10 ^ x < D * 10 ^ y → N * 10 ^ u < D * 10 ^ v := by
    intro x y u v e hlt
    have h1 : N * 10 ^ x * 10 ^ u < D * 10 ^ y * 10 ^ u := Nat.mul_lt_mul_of_pos_right hlt (Nat.pow_pos (by omega))
    have e1 : D * 10 ^ y * 10 ^ u = D * 10 ^ v * 10 ^ x := by
      rw [Nat.mul_assoc, ← Nat.pow_add, e, Nat.pow_add, ← Nat.mul_assoc]
    have e2 : N * 10 ^ x * 10 ^ u = N * 10 ^ u * 10 ^ x := by rw [Nat.mul_assoc, Nat.mul_comm (10 ^ x), ← Nat.mul_assoc]
    rw [e1, e2] at h1
    exact Nat.lt_of_mul_lt_mul_right h1
  exact ⟨key (by omega), key (by omega)⟩
theorem belowT_mono {N D : Nat} {t u : Int} (h : belowT N D t) (hu : t ≤ u) : belowT N D u := by
  unfold belowT at *
  obtain ⟨i, hi⟩ : ∃ i : Nat, u = t + (i : Int) := ⟨(u - t).toNat, by omega⟩
  have h1 : N * 10 ^ (-t).toNat < D * 10 ^ (t.toNat + i) := Nat.lt_of_lt_of_le h (Nat.mul_le_mul_left _ (Nat.pow_le_pow_right (by omega) (by omega)))
  exact (cross (by omega)).1 h1
section
variable {N D : Nat} (hD : 0 < D)
include hD
theorem qat_le (K : Int) (m : Nat) : dcnt (qat N D K) ≤ m ↔ belowT N D (K + m) := by
  rw [dcnt_le]
  unfold qat belowT
  rw [Nat.div_lt_iff_lt_mul (Nat.mul_pos hD (Nat.pow_pos (by omega))), show 10 ^ m * (D * 10 ^ K.toNat) = D * 10 ^ (m + K.toNat) by rw [Nat.pow_add]; ac_rfl]
  exact cross (by omega)
/-- Of a quotient with a digit at least: the power of ten that is the first above the number. -/
theorem qat_top {K : Int} {m : Nat} (hm : 0 < m) : dcnt (qat N D K) = m ↔ belowT N D (K + m) ∧ ¬ belowT N D (K + m - 1) := by
  have h1 := qat_le (N := N) hD K m
  have h2 := qat_le (N := N) hD K (m - 1)
  rw [show K + ((m - 1 : Nat) : Int) = K + m - 1 by omega] at h2
  constructor
  · intro h
    exact ⟨h1.1 (by omega), fun hb => by have := h2.2 hb; omega⟩
  · rintro ⟨ha, hb⟩
    have := h1.2 ha
    have : ¬ dcnt (qat N D K) ≤ m - 1 := fun h => hb (h2.1 h)
    omega
/-- The power of ten turned by what is too much or too little: just n digits. -/
theorem qat_turn {K : Int} {m n : Nat} (hm : 0 < m) (hn : 0 < n) (h : dcnt (qat N D K) = m) : dcnt (qat N D (K + m - n)) = n := by
  rw [qat_top hD hn]
  have := (qat_top hD hm).1 h
  rw [show K + (m : Int) - n + n = K + m by omega]
  exact this
theorem qat_one {K L : Int} {n : Nat} (hn : 0 < n) (h : dcnt (qat N D K) = n) (h' : dcnt (qat N D L) = n) : K = L := by
  obtain ⟨a1, a2⟩ := (qat_top hD hn).1 h
  obtain ⟨b1, b2⟩ := (qat_top hD hn).1 h'
  rcases Int.lt_trichotomy K L with c | c | c
  · exact absurd (belowT_mono a1 (by omega)) b2
  · exact c
  · exact absurd (belowT_mono b1 (by omega)) a2
/-- Below the number's first digit the quotient is not 0. -/
theorem qat_low {K : Int} (h : ¬ belowT N D K) : 0 < dcnt (qat N D K) := by
  have := qat_le (N := N) hD K 0
  rw [show K + ((0 : Nat) : Int) = K by omega] at this
  refine Nat.pos_of_ne_zero fun e => h (this.1 (by omega))
end
end Go.Proofs.YtiadjcilfljdaaaGreatDoor
end

section
namespace Go.Proofs.YtiadjcilfljdaaaGreatDoor
set_option linter.unusedVariables false
set_option linter.unusedSimpArgs false
open Go.RowKit Verge

variable {w : World} {v u t : Value} {N D Q R : Nat}
set_option maxRecDepth 40000 in
set_option maxHeartbeats 1000000 in
theorem by10_any (k : Int) (hv : IsT N v w) (hu : IsT D u w) (h1 : -10000 ≤ k) (h2 : k ≤ 10000) (n1 : blen N ≤ 50000) (n2 : blen D ≤ 50000) :
    Calls Tryz.prog 44 #[v, u, .int .i64 k] w (Ans w (Is2 (IsT (N * 10 ^ k.toNat)) (IsT (D * 10 ^ (-k).toNat)))) := by
  have hb : ∀ j : Nat, j ≤ 10000 → blen (10 ^ j) ≤ 100000 := fun j hj => by
    obtain ⟨z, hz⟩ : ∃ z, z = 4 * j + 1 := ⟨_, rfl⟩
    have h3 : 10 ^ j < 2 ^ z := by
      have a1 : 10 ^ j ≤ 16 ^ j := Nat.pow_le_pow_left (by omega) j
      have a2 : 16 ^ j = 2 ^ (4 * j) := by rw [Nat.pow_mul]
      have a3 : 2 ^ (4 * j) < 2 ^ z := Nat.pow_lt_pow_right (by omega) (by omega)
      omega
    exact Nat.le_trans ((blen_lt _ _).2 h3) (by omega)
  by_cases hk : 0 < k
  · have hj : ((k.toNat : Nat) : Int) = k := by omega
    have hT := fun W => ten_any k.toNat (by omega) W
    rw [hj] at hT
    have e0 : (-k).toNat = 0 := by omega
    have HM := Lib.hid (fun W x (hb' : Below w.heap.size w W) (hx : IsT (10 ^ k.toNat) x W) => nmul_is (IsT.mono _ _ _ _ hb' hv) hx (by omega) (hb k.toNat (by omega)))
    have HU := Lib.hid hu
    rw [e0, Nat.pow_zero, Nat.mul_one]
    generalize 10 ^ k.toNat = X at *
    have HT := Lib.hid hT
    clear hT hv hu hb hj e0 n1 n2
    go_enter Tryz.func44, Tryz.ntmps44
    go_wp2_with (first
      | (go_at_call 76; (with_reducible refine (HT.out _).mono ?_); rintro e w1 ⟨x1, rfl, hx, hb1⟩; have HX := Lib.hid hx; have HB1 := Lib.hid hb1; clear hx hb1)
      | (go_at_call 52; (with_reducible refine (HM.out _ _ HB1.out HX.out).mono ?_); rintro e w2 ⟨x2, rfl, ⟨y1, y2, rfl, hy, rfl⟩, hb2⟩; have HY := Lib.hid hy; have HB2 := Lib.hid (raft HB1.out hb2); clear hy hb2))
    refine bodyPost_ret (v := .tuple #[y1, u]) (by simp [results, Tryz.results44, go_sem]) rfl ?_
    exact ⟨_, rfl, ⟨_, _, rfl, HY.out, IsT.mono _ _ _ _ HB2.out HU.out⟩, HB2.out⟩
  · have hj : (((-k).toNat : Nat) : Int) = -k := by omega
    have hT := fun W => ten_any (-k).toNat (by omega) W
    rw [hj] at hT
    have e0 : k.toNat = 0 := by omega
    have HM := Lib.hid (fun W x (hb' : Below w.heap.size w W) (hx : IsT (10 ^ (-k).toNat) x W) => nmul_is (IsT.mono _ _ _ _ hb' hu) hx (by omega) (hb (-k).toNat (by omega)))
    have HU := Lib.hid hv
    rw [e0, Nat.pow_zero, Nat.mul_one]
    generalize 10 ^ (-k).toNat = X at *
    have HT := Lib.hid hT
    clear hT hv hu hb hj e0 n1 n2
    go_enter Tryz.func44, Tryz.ntmps44
    go_wp2_with (first
      | (go_at_call 76; (with_reducible refine (HT.out _).mono ?_); rintro e w1 ⟨x1, rfl, hx, hb1⟩; have HX := Lib.hid hx; have HB1 := Lib.hid hb1; clear hx hb1)
      | (go_at_call 52; (with_reducible refine (HM.out _ _ HB1.out HX.out).mono ?_); rintro e w2 ⟨x2, rfl, ⟨y1, y2, rfl, hy, rfl⟩, hb2⟩; have HY := Lib.hid hy; have HB2 := Lib.hid (raft HB1.out hb2); clear hy hb2))
    refine bodyPost_ret (v := .tuple #[v, y1]) (by simp [results, Tryz.results44, go_sem]) rfl ?_
    exact ⟨_, rfl, ⟨_, _, rfl, IsT.mono _ _ _ _ HB2.out HU.out, HY.out⟩, HB2.out⟩
set_option maxRecDepth 40000 in
set_option maxHeartbeats 1000000 in
theorem times_any (k : Nat) (hv : IsT N v w) (hk : k < 18446744073709551616) (n1 : blen N ≤ 90000) :
    Calls Tryz.prog 33 #[v, .int .u64 (k : Int)] w (Ans w (IsT (N * k))) := by
  have hkb : blen k ≤ 64 := (blen_lt _ _).2 hk
  have HS := Lib.hid (fun W => nsmall_is (w := W) k hk)
  have HM := Lib.hid (fun W x (hb' : Below w.heap.size w W) (hx : IsT k x W) => nmul_is (IsT.mono _ _ _ _ hb' hv) hx (by omega) (by omega))
  clear hv n1 hkb
  go_enter Tryz.func33, Tryz.ntmps33
  go_wp2_with (first
    | (go_at_call 62; (with_reducible refine (HS.out _).mono ?_); rintro e w1 ⟨x1, rfl, hx, hb1⟩; have HX := Lib.hid hx; have HB1 := Lib.hid hb1; clear hx hb1)
    | (go_at_call 52; (with_reducible refine (HM.out _ _ HB1.out HX.out).mono ?_); rintro e w2 ⟨x2, rfl, ⟨y1, y2, rfl, hy, rfl⟩, hb2⟩; have HY := Lib.hid hy; have HB2 := Lib.hid (raft HB1.out hb2); clear hy hb2))
  go_ret
  exact ⟨_, rfl, HY.out, HB2.out⟩
/-- Does a quotient's size go up? -/
def upB (d : Int) (neg : Bool) (Q R B : Nat) : Bool :=
  if d = 1 ∨ d = -1 then decide (R ≠ 0 ∧ decide (d = -1) = neg) else decide (B < R ∨ B = R ∧ Q % 2 = 1)
theorem ulen (n : Nat) : (dig n).length = 0 ↔ n = 0 := by
  constructor
  · intro h
    refine Classical.byContradiction fun hn => ?_
    have := dig_length_pos hn
    omega
  · rintro rfl; rw [dig_zero]; rfl
theorem and_1u (x : Nat) (hx : x < 4294967296) : bits .and .u32 (x : Int) 1 = ((x % 2 : Nat) : Int) := by
  have : bits .and .u32 (x : Int) 1 = ((x &&& 1 : Nat) : Int) := Go.u32_and_nat x 1 hx (by omega)
  rw [this, Nat.and_one_is_mod]
set_option maxRecDepth 40000 in
set_option maxHeartbeats 2000000 in
theorem dup_any (d : Int) (neg : Bool) {B : Nat} {b : Value} (hq : IsT Q v w) (hr : IsT R u w) (hb : IsT B b w) (n1 : blen R ≤ 500000) (n2 : blen B ≤ 500000) :
    Calls Tryz.prog 47 #[.int .i64 d, .bool neg, v, u, b] w (Ans w (IsV (.bool (upB d neg Q R B)))) := by
  obtain ⟨o, ho⟩ : ∃ o, upB d neg Q R B = o := ⟨_, rfl⟩
  rw [ho]
  unfold upB at ho
  have hzr := ulen R
  by_cases hd : d = 1 ∨ d = -1
  · rw [if_pos hd] at ho
    obtain ⟨A, rfl, hR⟩ := hr
    generalize (dig R).length = lr at *
    clear hR hq hb n1 n2
    by_cases hR0 : R = 0
    · have hl0 := hzr.2 hR0
      rw [decide_eq_false (by simp [hR0])] at ho
      subst hl0 ho
      clear hzr hR0
      rcases hd with rfl | rfl
      · go_enter Tryz.func47, Tryz.ntmps47
        go_wp2
        go_ret
        exact ⟨_, rfl, rfl, Below.refl _ _⟩
      · go_enter Tryz.func47, Tryz.ntmps47
        go_wp2
        go_ret
        exact ⟨_, rfl, rfl, Below.refl _ _⟩
    · have g0 : 0 < lr := Nat.pos_of_ne_zero (fun e => hR0 (hzr.1 e))
      have g1 : decide (0 < lr) = true := decide_eq_true g0
      have g2 : (0 : Int) < (lr : Int) := by omega
      clear hzr
      rcases hd with rfl | rfl
      · cases neg
        · rw [decide_eq_true ⟨hR0, by decide⟩] at ho
          subst ho
          go_enter Tryz.func47, Tryz.ntmps47
          go_wp2
          go_ret
          exact ⟨_, rfl, rfl, Below.refl _ _⟩
        · rw [decide_eq_false (by simp)] at ho
          subst ho
          go_enter Tryz.func47, Tryz.ntmps47
          go_wp2
          go_ret
          exact ⟨_, rfl, rfl, Below.refl _ _⟩
      · cases neg
        · rw [decide_eq_false (by simp)] at ho
          subst ho
          go_enter Tryz.func47, Tryz.ntmps47
          go_wp2
          go_ret
          exact ⟨_, rfl, rfl, Below.refl _ _⟩
        · rw [decide_eq_true ⟨hR0, by decide⟩] at ho
          subst ho
          go_enter Tryz.func47, Tryz.ntmps47
          go_wp2
          go_ret
          exact ⟨_, rfl, rfl, Below.refl _ _⟩
  · rw [if_neg hd] at ho
    have g1 : (d == -1) = false := by simp only [beq_eq_false_iff_ne, ne_eq]; omega
    have g2 : (d == 1) = false := by simp only [beq_eq_false_iff_ne, ne_eq]; omega
    have HC := Lib.hid (ncmp_is hr hb n1 n2)
    by_cases c1 : B < R
    · have hc : cmp R B = 1 := by unfold cmp; rw [if_neg (by omega), if_pos c1]
      rw [decide_eq_true (.inl c1)] at ho
      rw [hc] at HC
      subst ho
      clear hr hb hq hzr n1 n2
      go_enter Tryz.func47, Tryz.ntmps47
      go_wp2_with (go_at_call 37; refine (HC.out).mono ?_; rintro e w1 ⟨x1, rfl, rfl, hb1⟩)
      go_ret
      exact ⟨_, rfl, rfl, hb1⟩
    · by_cases c2 : R < B
      · have hc : cmp R B = -1 := by unfold cmp; rw [if_pos c2]
        rw [decide_eq_false (by omega)] at ho
        rw [hc] at HC
        subst ho
        clear hr hb hq hzr n1 n2
        go_enter Tryz.func47, Tryz.ntmps47
        go_wp2_with (go_at_call 37; refine (HC.out).mono ?_; rintro e w1 ⟨x1, rfl, rfl, hb1⟩)
        go_ret
        exact ⟨_, rfl, rfl, hb1⟩
      · have hc : cmp R B = 0 := by unfold cmp; rw [if_neg c2, if_neg c1]
        rw [hc] at HC
        by_cases q0 : Q = 0
        · obtain ⟨A, rfl, hR⟩ := hq
          have hl : (dig Q).length = 0 := (ulen Q).2 q0
          rw [hl]
          rw [decide_eq_false (by omega)] at ho
          subst ho
          clear hr hb hR hzr n1 n2
          go_enter Tryz.func47, Tryz.ntmps47
          go_wp2_with (go_at_call 37; refine (HC.out).mono ?_; rintro e w1 ⟨x1, rfl, rfl, hb1⟩)
          go_ret
          exact ⟨_, rfl, rfl, hb1⟩
        · obtain ⟨A, rfl, hR⟩ := hq
          have hdp := dig_pos q0
          have hne : dig Q ≠ [] := by rw [hdp]; simp
          have hlp := dig_length_pos q0
          have hz : (dig Q)[0]? = some (Q % 4294967296) := by rw [hdp]; rfl
          have HR := Lib.hid (And.intro hR (And.intro hne hz))
          have ha := and_1u (Q % 4294967296) (Nat.mod_lt _ (by omega))
          rw [show Q % 4294967296 % 2 = Q % 2 by omega] at ha
          have hpar : Q % 2 = 0 ∨ Q % 2 = 1 := by omega
          have hcell : ∀ W, Below w.heap.size w W → ∃ g o, A = some ⟨g, o, none⟩ ∧ W.cell? ⟨g, o, none⟩ = some (.int .u32 ((Q % 4294967296 : Nat) : Int)) := by
            intro W hbW
            obtain ⟨g, o, e, hc⟩ := (HR.out.1.below hbW).2 HR.out.2.1
            exact ⟨g, o, e, by have := hc 0 _ HR.out.2.2; rwa [Nat.add_zero] at this⟩
          generalize (dig Q).length = lq at *
          obtain ⟨g, o', rfl, _⟩ := hcell w (Below.refl _ _)
          have HCell := Lib.hid hcell
          generalize Q % 4294967296 = x0 at *
          have g3 : (0 : Int) < (lq : Int) := by omega
          have g4 : decide (0 < lq) = true := decide_eq_true hlp
          have hidx : (0 : Int) ≤ 0 ∧ (0 : Int) < (lq : Int) := by omega
          clear hr hb hR hzr n1 n2 hdp hne hz HR hcell
          rcases hpar with hp | hp
          · rw [decide_eq_false (by omega)] at ho
            rw [hp] at ha
            subst ho
            go_enter Tryz.func47, Tryz.ntmps47
            go_wp2_with (go_at_call 37; refine (HC.out).mono ?_; rintro e w1 ⟨x1, rfl, rfl, hb1⟩; obtain ⟨g9, o9, e9, hc9⟩ := HCell.out _ hb1; cases e9)
            go_ret
            exact ⟨_, rfl, rfl, hb1⟩
          · rw [decide_eq_true (.inr ⟨by omega, hp⟩)] at ho
            rw [hp] at ha
            subst ho
            go_enter Tryz.func47, Tryz.ntmps47
            go_wp2_with (go_at_call 37; refine (HC.out).mono ?_; rintro e w1 ⟨x1, rfl, rfl, hb1⟩; obtain ⟨g9, o9, e9, hc9⟩ := HCell.out _ hb1; cases e9)
            go_ret
            exact ⟨_, rfl, rfl, hb1⟩
end Go.Proofs.YtiadjcilfljdaaaGreatDoor
end
