/- Layer 5, the document: a power of ten as a ratio. -/
import Derived.Test.YtiadjcilfljdaaaDoorG19
import Derived.Test.YtiadjcilfljdaaaDoorG22
import Derived.Test.YtiadjcilfljdaaaDoorG03
section
namespace Go.Proofs.YtiadjcilfljdaaaDoor
set_option linter.unusedVariables false
set_option linter.unusedSimpArgs false
open Go.RowKit Verge

set_option maxRecDepth 20000 in
theorem power_rv (k : Int) (h1 : -2000 ≤ k) (h2 : k ≤ 2000) (w : World) : Calls Tryd.prog 47 #[.int .i64 k] w (Ans w (IsRV ((10 ^ k.toNat : Nat) : Int) (10 ^ (-k).toNat) 10000)) := by
  have hlen : ∀ n : Nat, n ≤ 2000 → (dig (10 ^ n)).length + 4 ≤ 10000 := by
    intro n hn
    have := dig_len16 (n := 10 ^ n) (i := n + 1) (by
      have h1 : 10 ^ n ≤ 16 ^ n := Nat.pow_le_pow_left (by omega) n
      have h2 : 16 ^ n < 16 ^ (n + 1) := Nat.pow_lt_pow_right (by omega) (by omega)
      omega)
    omega
  have hd1 : (dig 1).length = 1 := by rw [dig_one]; rfl
  have hpos : ∀ n : Nat, 0 < 10 ^ n := fun n => Nat.pow_pos (by omega)
  have HB := Lib.hid (rnew w ratO)
  have X3 := Lib.hid (Box.new w)
  by_cases hk : k < 0
  · obtain ⟨n, hn⟩ : ∃ n : Nat, -k = (n : Int) := Int.eq_ofNat_of_zero_le (by omega)
    obtain rfl : k = -(n : Int) := by omega
    have hn2 : n ≤ 2000 := by omega
    have HTn := Lib.hid (fun W => ans_doc (ten5_any n (by omega) W))
    have HFr := Lib.hid (fun (v u : Value) (W : World) (hv : IsN 1 v W) (hu : IsN (10 ^ n) u W) => frac_rv (s := false) (x := 1) (y := 10 ^ n) (e := 0) (hpos n) hv hu (by rw [hd1]; decide) (by have := hlen n hn2; show 0 / 32 + _ + 4 ≤ _; omega))
    have HONE := Lib.hid (one_is (w.alloc ratO))
    have HRES := Lib.hid (show ∀ v W, IsRV (sv false (1 * 2 ^ (0 : Int).toNat)) (10 ^ n * 2 ^ (-(0 : Int)).toNat) 10000 v W → IsRV ((10 ^ (-(n : Int)).toNat : Nat) : Int) (10 ^ (-(-(n : Int))).toNat) 10000 v W from by
      intro v W h
      rw [show (-(n : Int)).toNat = 0 by omega, show (-(-(n : Int))).toNat = n by omega, Nat.pow_zero]
      have e1 : sv false (1 * 2 ^ (0 : Int).toNat) = ((1 : Nat) : Int) := rfl
      have e2 : 10 ^ n * 2 ^ (-(0 : Int)).toNat = 10 ^ n := by show 10 ^ n * 2 ^ 0 = _; rw [Nat.pow_zero, Nat.mul_one]
      rw [e1, e2] at h
      exact h)
    generalize 10 ^ n = T at *
    generalize (10 ^ (-(n : Int)).toNat : Nat) = P at *
    generalize 10 ^ (-(-(n : Int))).toNat = Q at *
    have HBB := Lib.hid (raft HB.out (rnew (w.alloc ratO) (.cells #[.int .u32 1] 53)))
    have X4 := Lib.hid (X3.out.later (rnew (w.alloc ratO) (.cells #[.int .u32 1] 53)))
    have hone := HONE.out
    rw [show (w.alloc ratO).heap.size = w.heap.size + 1 by simp] at hone
    have HONE := Lib.hid hone
    clear hlen hd1 hpos h1 h2 hn hone
    go_enter Tryd.func47, Tryd.ntmps47
    go_wp2_with fail
    refine (HTn.out _).mono ?_
    rintro en w1 ⟨v, rfl, hv, hb⟩
    have HV := Lib.hid hv
    have HO := Lib.hid (IsN.mono _ _ _ _ hb HONE.out)
    have X5 := Lib.hid (X4.out.later hb)
    have HB1 := Lib.hid (raft HBB.out hb)
    clear hv hb
    go_wp2_with fail
    refine (HFr.out _ _ _ HO.out HV.out).mono ?_
    rintro en w2 ⟨u, rfl, hu, hb⟩
    have HU := Lib.hid (HRES.out _ _ hu)
    have X6 := Lib.hid (X5.out.later hb)
    have HB2 := Lib.hid (raft HB1.out hb)
    obtain ⟨s, A1, n1, c1, B1, m1, d1, rfl⟩ := HU.out.agg
    clear hu hb
    obtain ⟨o0, o1, o2, f0, f1, f2⟩ := X6.out.cells
    have hz := X6.out.lt
    go_wp2_with fail
    refine bodyPost_ret (v := .agg #[.bool s, .slice A1 n1 c1, .slice B1 m1 d1]) (by simp [results, Tryd.results47, go_sem, o0, o1, o2, hz]) rfl ?_
    exact ⟨_, rfl, HU.out.put3 X6.out (.bool s) (.slice A1 n1 c1) (.slice B1 m1 d1), put3_below HB2.out (Nat.le_refl _) (.bool s) (.slice A1 n1 c1) (.slice B1 m1 d1)⟩
  · obtain ⟨n, rfl⟩ := Int.eq_ofNat_of_zero_le (show 0 ≤ k by omega)
    have hn2 : n ≤ 2000 := by omega
    have HTn := Lib.hid (fun W => ans_doc (ten5_any n (by omega) W))
    have HFr := Lib.hid (fun (v u : Value) (W : World) (hv : IsN (10 ^ n) v W) (hu : IsN 1 u W) => frac_rv (s := false) (x := 10 ^ n) (y := 1) (e := 0) (by omega) hv hu (by have := hlen n hn2; show 0 / 32 + _ + 4 ≤ _; omega) (by rw [hd1]; decide))
    have HONE := Lib.hid (fun W => one_is W)
    have HRES := Lib.hid (show ∀ v W, IsRV (sv false (10 ^ n * 2 ^ (0 : Int).toNat)) (1 * 2 ^ (-(0 : Int)).toNat) 10000 v W → IsRV ((10 ^ (n : Int).toNat : Nat) : Int) (10 ^ (-(n : Int)).toNat) 10000 v W from by
      intro v W h
      rw [show (-(n : Int)).toNat = 0 by omega, show (n : Int).toNat = n by omega, Nat.pow_zero]
      have e1 : sv false (10 ^ n * 2 ^ (0 : Int).toNat) = ((10 ^ n : Nat) : Int) := by show ((10 ^ n * 2 ^ 0 : Nat) : Int) = _; rw [Nat.pow_zero, Nat.mul_one]
      have e2 : 1 * 2 ^ (-(0 : Int)).toNat = 1 := rfl
      rw [e1, e2] at h
      exact h)
    generalize 10 ^ n = T at *
    generalize (10 ^ (n : Int).toNat : Nat) = P at *
    generalize 10 ^ (-(n : Int)).toNat = Q at *
    clear hlen hd1 hpos h1 h2
    go_enter Tryd.func47, Tryd.ntmps47
    go_wp2_with fail
    refine (HTn.out _).mono ?_
    rintro en w1 ⟨v, rfl, hv, hb⟩
    have HV := Lib.hid (IsN.mono _ _ _ _ (rnew w1 (.cells #[.int .u32 1] 53)) hv)
    have HO := Lib.hid (HONE.out w1)
    have X5 := Lib.hid ((X3.out.later hb).later (rnew w1 (.cells #[.int .u32 1] 53)))
    have HB1 := Lib.hid (raft (raft HB.out hb) (rnew w1 (.cells #[.int .u32 1] 53)))
    clear hv hb
    go_wp2_with fail
    refine (HFr.out _ _ _ HV.out HO.out).mono ?_
    rintro en w2 ⟨u, rfl, hu, hb⟩
    have HU := Lib.hid (HRES.out _ _ hu)
    have X6 := Lib.hid (X5.out.later hb)
    have HB2 := Lib.hid (raft HB1.out hb)
    obtain ⟨s, A1, n1, c1, B1, m1, d1, rfl⟩ := HU.out.agg
    clear hu hb
    obtain ⟨o0, o1, o2, f0, f1, f2⟩ := X6.out.cells
    have hz := X6.out.lt
    go_wp2_with fail
    refine bodyPost_ret (v := .agg #[.bool s, .slice A1 n1 c1, .slice B1 m1 d1]) (by simp [results, Tryd.results47, go_sem, o0, o1, o2, hz]) rfl ?_
    exact ⟨_, rfl, HU.out.put3 X6.out (.bool s) (.slice A1 n1 c1) (.slice B1 m1 d1), put3_below HB2.out (Nat.le_refl _) (.bool s) (.slice A1 n1 c1) (.slice B1 m1 d1)⟩
end Go.Proofs.YtiadjcilfljdaaaDoor
end

section
namespace Go.Proofs.YtiadjcilfljdaaaDoor
set_option linter.unusedVariables false
set_option linter.unusedSimpArgs false
open Go.RowKit Verge

def dcnt (q : Nat) : Nat := (txt q).length
theorem dcnt_zero : dcnt 0 = 0 := rfl
theorem dcnt_step {q : Nat} (h : 0 < q) : dcnt q = dcnt (q / 10) + 1 := by
  unfold dcnt
  rw [txt_step h, List.length_append]
  rfl
theorem dcnt_spec (q : Nat) : q < 10 ^ dcnt q ∧ (0 < q → 0 < dcnt q ∧ 10 ^ (dcnt q - 1) ≤ q) := by
  induction q using Nat.strongRecOn with
  | _ q ih =>
    by_cases h : q = 0
    · subst h
      exact ⟨by rw [dcnt_zero]; decide, fun h => absurd h (by omega)⟩
    · have hq : 0 < q := by omega
      have hs := dcnt_step hq
      obtain ⟨h1, h2⟩ := ih (q / 10) (by omega)
      rw [hs]
      refine ⟨?_, fun _ => ⟨by omega, ?_⟩⟩
      · rw [Nat.pow_succ]; omega
      · rw [Nat.add_sub_cancel]
        by_cases h0 : q / 10 = 0
        · rw [h0, dcnt_zero, Nat.pow_zero]; exact hq
        · obtain ⟨h3, h4⟩ := h2 (by omega)
          have : dcnt (q / 10) = dcnt (q / 10) - 1 + 1 := by omega
          rw [this, Nat.pow_succ]
          omega
theorem dcnt_le (q m : Nat) : dcnt q ≤ m ↔ q < 10 ^ m := by
  obtain ⟨h1, h2⟩ := dcnt_spec q
  constructor
  · intro h
    exact Nat.lt_of_lt_of_le h1 (Nat.pow_le_pow_right (by omega) h)
  · intro h
    refine Classical.byContradiction fun hc => ?_
    have hq : 0 < q := by
      rcases Nat.eq_zero_or_pos q with e | e
      · subst e; rw [dcnt_zero] at hc; omega
      · exact e
    obtain ⟨h3, h4⟩ := h2 hq
    have : 10 ^ m ≤ 10 ^ (dcnt q - 1) := Nat.pow_le_pow_right (by omega) (by omega)
    omega

/-- N by D, times 10 to the -K, its whole part. -/
def qat (N D : Nat) (K : Int) : Nat := N * 10 ^ (-K).toNat / (D * 10 ^ K.toNat)
/-- Is N by D below 10 to the t? -/
def belowT (N D : Nat) (t : Int) : Prop := N * 10 ^ (-t).toNat < D * 10 ^ t.toNat
theorem cross {N D x y u v : Nat} (h : (y : Int) - x = (v : Int) - u) : N * 10 ^ x < D * 10 ^ y ↔ N * 10 ^ u < D * 10 ^ v := by
  have key : ∀ {x y u v : Nat}, y + u = v + x → N * 10 ^ x < D * 10 ^ y → N * 10 ^ u < D * 10 ^ v := by
    intro x y u v e hlt
    have h1 : N * 10 ^ x * 10 ^ u < D * 10 ^ y * 10 ^ u := Nat.mul_lt_mul_of_pos_right hlt (Nat.pow_pos (by omega))
    have e1 : D * 10 ^ y * 10 ^ u = D * 10 ^ v * 10 ^ x := by
      rw [Nat.mul_assoc, ← Nat.pow_add, e, Nat.pow_add, ← Nat.mul_assoc]
    have e2 : N * 10 ^ x * 10 ^ u = N * 10 ^ u * 10 ^ x := by rw [Nat.mul_assoc, Nat.mul_comm (10 ^ x), ← Nat.mul_assoc]
    rw [e1, e2] at h1
    exact Nat.lt_of_mul_lt_mul_right h1
  exact ⟨key (by omega), key (by omega)⟩
theorem belowT_mono {N D : Nat} {t u : Int} (h : belowT N D t) (hu : t ≤ u) : belowT N D u := by
  unfold belowT at *
  obtain ⟨i, hi⟩ : ∃ i : Nat, u = t + (i : Int) := ⟨(u - t).toNat, by omega⟩
  have h1 : N * 10 ^ (-t).toNat < D * 10 ^ (t.toNat + i) := Nat.lt_of_lt_of_le h (Nat.mul_le_mul_left _ (Nat.pow_le_pow_right (by omega) (by omega)))
  exact (cross (by omega)).1 h1
section
variable {N D : Nat} (hD : 0 < D)
include hD
theorem qat_le (K : Int) (m : Nat) : dcnt (qat N D K) ≤ m ↔ belowT N D (K + m) := by
  rw [dcnt_le]
  unfold qat belowT
  rw [Nat.div_lt_iff_lt_mul (Nat.mul_pos hD (Nat.pow_pos (by omega))), show 10 ^ m * (D * 10 ^ K.toNat) = D * 10 ^ (m + K.toNat) by rw [Nat.pow_add]; ac_rfl]
  exact cross (by omega)
/-- Of a quotient with a digit at least: the power of ten that is the first above the number. -/
theorem qat_top {K : Int} {m : Nat} (hm : 0 < m) : dcnt (qat N D K) = m ↔ belowT N D (K + m) ∧ ¬ belowT N D (K + m - 1) := by
  have h1 := qat_le (N := N) hD K m
  have h2 := qat_le (N := N) hD K (m - 1)
  rw [show K + ((m - 1 : Nat) : Int) = K + m - 1 by omega] at h2
  constructor
  · intro h
    exact ⟨h1.1 (by omega), fun hb => by have := h2.2 hb; omega⟩
  · rintro ⟨ha, hb⟩
    have := h1.2 ha
    have : ¬ dcnt (qat N D K) ≤ m - 1 := fun h => hb (h2.1 h)
    omega
/-- The power of ten turned by what is too much or too little: just n digits. -/
theorem qat_turn {K : Int} {m n : Nat} (hm : 0 < m) (hn : 0 < n) (h : dcnt (qat N D K) = m) : dcnt (qat N D (K + m - n)) = n := by
  rw [qat_top hD hn]
  have := (qat_top hD hm).1 h
  rw [show K + (m : Int) - n + n = K + m by omega]
  exact this
theorem qat_one {K L : Int} {n : Nat} (hn : 0 < n) (h : dcnt (qat N D K) = n) (h' : dcnt (qat N D L) = n) : K = L := by
  obtain ⟨a1, a2⟩ := (qat_top hD hn).1 h
  obtain ⟨b1, b2⟩ := (qat_top hD hn).1 h'
  rcases Int.lt_trichotomy K L with c | c | c
  · exact absurd (belowT_mono a1 (by omega)) b2
  · exact c
  · exact absurd (belowT_mono b1 (by omega)) a2
/-- Below the number's first digit the quotient is not 0. -/
theorem qat_low {K : Int} (h : ¬ belowT N D K) : 0 < dcnt (qat N D K) := by
  have := qat_le (N := N) hD K 0
  rw [show K + ((0 : Nat) : Int) = K by omega] at this
  refine Nat.pos_of_ne_zero fun e => h (this.1 (by omega))
end
end Go.Proofs.YtiadjcilfljdaaaDoor
end

section
namespace Go.Proofs.YtiadjcilfljdaaaDoor
set_option linter.unusedVariables false
set_option linter.unusedSimpArgs false
open Go.RowKit Verge

theorem icmp_ten (p Q : Nat) (k : Int) : (0 < icmp (((10 ^ k.toNat : Nat) : Int) * (Q : Int)) ((p : Int) * ((10 ^ (-k).toNat : Nat) : Int)) ↔ belowT p Q k) := by
  unfold icmp belowT
  rw [← Int.natCast_mul, ← Int.natCast_mul, Nat.mul_comm _ Q]
  split
  · rename_i h
    constructor
    · intro h'; omega
    · intro h'; omega
  · split
    · rename_i h h2
      constructor
      · intro h'; omega
      · intro h'; omega
    · rename_i h h2
      constructor
      · intro h'; omega
      · intro h'; omega
theorem w64b {x : Int} (h : -9223372036854775808 ≤ x) (h2 : x ≤ 9223372036854775807) : IntKind.i64.wrap x = x := by
  rw [IntKind.wrap_i64]
  omega
theorem tdiv_bd {a : Int} (h1 : -9600 ≤ a) (h2 : a ≤ 9600) : -1000 ≤ Int.tdiv a 10 ∧ Int.tdiv a 10 ≤ 1000 := by
  rcases Int.le_total 0 a with h | h
  · rw [Int.tdiv_eq_ediv_of_nonneg h]; omega
  · obtain ⟨b, rfl⟩ : ∃ b, a = -b := ⟨-a, by omega⟩
    rw [Int.neg_tdiv, Int.tdiv_eq_ediv_of_nonneg (by omega)]; omega
set_option maxRecDepth 20000 in
set_option maxHeartbeats 4000000 in
theorem magnitude_any {p Q : Nat} {va : Value} {w : World} (hv : IsRV (p : Int) Q 100 va w) (hlo : ¬ belowT p Q (-336)) (hhi : belowT p Q 336) :
    Calls Tryd.prog 76 #[va] w fun en w' => ∃ e : Int, -336 ≤ e ∧ e < 336 ∧ ¬ belowT p Q e ∧ belowT p Q (e + 1) ∧ en = .returned (.int .i64 e) ∧ Below w.heap.size w w' := by
  have hv0 := hv
  obtain ⟨s, X, Y, ⟨va', vb', rfl, ⟨A, c, rfl, hX⟩, ⟨B, d, rfl, hY⟩⟩, hq, hy, hs, l1, l2⟩ := hv
  have HV := Lib.hid hv0
  have HRX := Lib.hid hX
  have HRY := Lib.hid hY
  have HLX := Lib.hid (fun W (h : Rd W A X) => rlen_any A X.length c X W h rfl (by omega))
  have HLY := Lib.hid (fun W (h : Rd W B Y) => rlen_any B Y.length d Y W h rfl (by omega))
  have hpw : ∀ m : Nat, (4294967296 : Nat) ^ m = 2 ^ (32 * m) := fun m => by rw [show (4294967296 : Nat) = 2 ^ 32 from rfl, ← Nat.pow_mul]
  have b1 : blen (val X) ≤ 3200 := Nat.le_trans ((blen_lt (val X) (32 * X.length)).2 (by rw [← hpw]; exact val_lt hX.1)) (by omega)
  have b2 : blen (val Y) ≤ 3200 := Nat.le_trans ((blen_lt (val Y) (32 * Y.length)).2 (by rw [← hpw]; exact val_lt hY.1)) (by omega)
  clear hpw
  generalize blen (val X) = lx at *
  generalize blen (val Y) = ly at *
  have hkb : -1000 ≤ Int.tdiv (((lx : Int) - ly) * 3) 10 ∧ Int.tdiv (((lx : Int) - ly) * 3) 10 ≤ 1000 := tdiv_bd (by omega) (by omega)
  have HKB := Lib.hid hkb
  have HLO := Lib.hid hlo
  have HHI := Lib.hid hhi
  have HB0 := Lib.hid (rnew w (.cells #[.bool s, .slice A X.length c, .slice B Y.length d] 39))
  have HB3 := Lib.hid (Box3.new w (.bool s) (.slice A X.length c) (.slice B Y.length d))
  clear hv0 hX hY hs hy hlo hhi hkb
  go_enter Tryd.func76, Tryd.ntmps76
  go_upto_region 1 with fail
  generalize w.alloc (.cells #[.bool s, .slice A X.length c, .slice B Y.length d] 39) = wA at *
  refine region_at 10 (Pick [IsV (.pointer (some ⟨w.heap.size, 1, none⟩)), IsV (.slice A X.length c), IsV (.int .i64 (lx : Int)), IsV (.pointer (some ⟨w.heap.size, 2, none⟩)), IsV (.slice B Y.length d), IsV (.int .i64 (ly : Int)), IsV (.int .i64 ((lx : Int) - ly)), IsV (.int .i64 (((lx : Int) - ly) * 3)), IsV (.int .i64 (Int.tdiv (((lx : Int) - ly) * 3) 10)), IsV (.int .i64 (Int.tdiv (((lx : Int) - ly) * 3) 10))]) (by kernel_rfl) (by kernel_rfl) (by kernel_rfl) (mono_pick ⟨IsV.mono _, IsV.mono _, IsV.mono _, IsV.mono _, IsV.mono _, IsV.mono _, IsV.mono _, IsV.mono _, IsV.mono _, IsV.mono _, trivial⟩) ⟨?_, ?_, ?_, ?_, ?_, ?_, ?_, ?_, ?_, ?_, trivial⟩ ?_
  · intro a W hsz hb hS
    have h1 : a.tmps.getD 1 undef = .pointer (some ⟨w.heap.size, 0, none⟩) := hS.1
    clear hS hsz
    refine will_of rfl ?_
    intro K hK
    go_simp
    exact hK _ _ ⟨Below.refl _ _, rfl⟩
  · intro a W hsz hb hS
    have h4 : a.tmps.getD 4 undef = .pointer (some ⟨w.heap.size, 1, none⟩) := hS.1
    clear hS hsz
    refine will_of rfl ?_
    obtain ⟨b0, b1, b2⟩ := (HB3.out.later hb).cells
    intro K hK
    go_simp
    exact hK _ _ ⟨Below.refl _ _, rfl⟩
  · intro a W hsz hb hS
    have h5 : a.tmps.getD 5 undef = .slice A X.length c := hS.1
    clear hS hsz
    refine will_of rfl ?_
    obtain ⟨b0, b1, b2⟩ := (HB3.out.later hb).cells
    intro K hK
    go_simp
    refine (HLX.out W (HRX.out.below (raft HB0.out hb))).mono ?_
    rintro e W' ⟨rfl, rfl⟩
    exact hK _ _ ⟨Below.refl _ _, rfl⟩
  · intro a W hsz hb hS
    have h1 : a.tmps.getD 1 undef = .pointer (some ⟨w.heap.size, 0, none⟩) := hS.1
    clear hS hsz
    refine will_of rfl ?_
    intro K hK
    go_simp
    exact hK _ _ ⟨Below.refl _ _, rfl⟩
  · intro a W hsz hb hS
    have h7 : a.tmps.getD 7 undef = .pointer (some ⟨w.heap.size, 2, none⟩) := hS.1
    clear hS hsz
    refine will_of rfl ?_
    obtain ⟨b0, b1, b2⟩ := (HB3.out.later hb).cells
    intro K hK
    go_simp
    exact hK _ _ ⟨Below.refl _ _, rfl⟩
  · intro a W hsz hb hS
    have h8 : a.tmps.getD 8 undef = .slice B Y.length d := hS.1
    clear hS hsz
    refine will_of rfl ?_
    obtain ⟨b0, b1, b2⟩ := (HB3.out.later hb).cells
    intro K hK
    go_simp
    refine (HLY.out W (HRY.out.below (raft HB0.out hb))).mono ?_
    rintro e W' ⟨rfl, rfl⟩
    exact hK _ _ ⟨Below.refl _ _, rfl⟩
  · intro a W hsz hb hS
    have h6 : a.tmps.getD 6 undef = .int .i64 (lx : Int) := hS.1
    have h9 : a.tmps.getD 9 undef = .int .i64 (ly : Int) := hS.2.1
    clear hS hsz
    refine will_of rfl ?_
    intro K hK
    go_simp
    exact hK _ _ ⟨Below.refl _ _, congrArg (Value.int .i64) (w64b (by omega) (by omega))⟩
  · intro a W hsz hb hS
    have h10 : a.tmps.getD 10 undef = .int .i64 ((lx : Int) - ly) := hS.1
    clear hS hsz
    refine will_of rfl ?_
    intro K hK
    go_simp
    exact hK _ _ ⟨Below.refl _ _, congrArg (Value.int .i64) (w64b (by omega) (by omega))⟩
  · intro a W hsz hb hS
    have h11 : a.tmps.getD 11 undef = .int .i64 (((lx : Int) - ly) * 3) := hS.1
    clear hS hsz
    refine will_of rfl ?_
    intro K hK
    have hkb := HKB.out
    go_simp
    exact hK _ _ ⟨Below.refl _ _, congrArg (Value.int .i64) (w64b (by omega) (by omega))⟩
  · intro a W hsz hb hS
    have h12 : a.tmps.getD 12 undef = .int .i64 (Int.tdiv (((lx : Int) - ly) * 3) 10) := hS.1
    clear hS hsz
    refine will_of rfl ?_
    intro K hK
    go_simp
    exact hK _ _ ⟨Below.refl _ _, rfl⟩
  intro f W hb hH
  have e0 : f 0 = .pointer (some ⟨w.heap.size, 1, none⟩) := hH.1
  have e1 : f 1 = .slice A X.length c := hH.2.1
  have e2 : f 2 = .int .i64 (lx : Int) := hH.2.2.1
  have e3 : f 3 = .pointer (some ⟨w.heap.size, 2, none⟩) := hH.2.2.2.1
  have e4 : f 4 = .slice B Y.length d := hH.2.2.2.2.1
  have e5 : f 5 = .int .i64 (ly : Int) := hH.2.2.2.2.2.1
  have e6 : f 6 = .int .i64 ((lx : Int) - ly) := hH.2.2.2.2.2.2.1
  have e7 : f 7 = .int .i64 (((lx : Int) - ly) * 3) := hH.2.2.2.2.2.2.2.1
  have e8 : f 8 = .int .i64 (Int.tdiv (((lx : Int) - ly) * 3) 10) := hH.2.2.2.2.2.2.2.2.1
  have e9 : f 9 = .int .i64 (Int.tdiv (((lx : Int) - ly) * 3) 10) := hH.2.2.2.2.2.2.2.2.2.1
  simp only [List.take_succ_cons, List.take_zero, List.drop_succ_cons, List.drop_zero, putFrom, Act.put, List.setIfInBounds_toArray, List.set_cons_zero, List.set_cons_succ, Nat.reduceAdd, e0, e1, e2, e3, e4, e5, e6, e7, e8, e9]
  clear e0 e1 e2 e3 e4 e5 e6 e7 e8 e9 hH f
  have HB1 := Lib.hid hb
  clear hb
  have HB3 := Lib.hid (HB3.out.later HB1.out)
  have HBL := Lib.hid (raft HB0.out HB1.out)
  obtain ⟨k0, hk0⟩ : ∃ k, Int.tdiv (((lx : Int) - ly) * 3) 10 = k := ⟨_, rfl⟩
  rw [hk0] at HKB ⊢
  clear hk0 HB0 HB1 HLX HLY HRX HRY b1 b2
  go_wp2
  go_loopw [3] (fun kv wr => ∃ k : Int, kv = .int .i64 k ∧ -1000 ≤ k ∧ k ≤ 1000 ∧ Hid (Below w.heap.size w wr ∧ Box3 wr w.heap.size (.bool s) (.slice A X.length c) (.slice B Y.length d))) (fun kv _ => (intOf kv + 1000).toNat)
  case atStart => exact ⟨k0, rfl, HKB.out.1, HKB.out.2, HBL.out, HB3.out⟩
  case round =>
    clear HB3 HBL HKB
    obtain ⟨k, rfl, hk1, hk2, hI⟩ := hrel
    have HBL := Lib.hid hI.out.1
    have HB3 := Lib.hid hI.out.2
    clear hI
    obtain ⟨cc, hcc⟩ : ∃ cc, icmp (((10 ^ k.toNat : Nat) : Int) * (Q : Int)) ((p : Int) * ((10 ^ (-k).toNat : Nat) : Int)) = cc := ⟨_, rfl⟩
    have hct := icmp_ten p Q k
    have HCM := Lib.hid (fun va' vb' W (h : IsRV ((10 ^ k.toNat : Nat) : Int) (10 ^ (-k).toNat) 10000 va' W) (h' : IsRV (p : Int) Q 100 vb' W) => rv_cmp h h' (by omega) (by omega))
    rw [hcc] at HCM hct
    obtain ⟨bb, hbb⟩ : ∃ bb, decide (0 < cc) = bb := ⟨_, rfl⟩
    have HBB := Lib.hid hbb
    have HCT := Lib.hid hct
    clear hcc hct hbb
    go_upto_region 2 with fail
    refine region_at 5 (Pick [IsV (.int .i64 k), (IsRV ((10 ^ (k).toNat : Nat) : Int) (10 ^ (-(k)).toNat) 10000), IsV (.agg #[.bool s, .slice A X.length c, .slice B Y.length d]), IsV (.int .i64 cc), IsV (.bool bb)]) (by kernel_rfl) (by kernel_rfl) (by kernel_rfl) (mono_pick ⟨IsV.mono _, IsRV.mono _ _ _, IsV.mono _, IsV.mono _, IsV.mono _, trivial⟩) ⟨?_, ?_, ?_, ?_, ?_, trivial⟩ ?_
    · intro a W hsz hb hS
      have h3 : a.tmps.getD 3 undef = .int .i64 k := hS.1
      clear hS hsz
      refine will_of rfl ?_
      intro K hK
      go_simp
      exact hK _ _ ⟨Below.refl _ _, rfl⟩
    · intro a W hsz hb hS
      have h13 : a.tmps.getD 13 undef = .int .i64 k := hS.1
      clear hS hsz
      refine will_of rfl ?_
      obtain ⟨b0, b1, b2⟩ := (HB3.out.later hb).cells
      intro K hK
      go_simp
      refine (power_rv (k) (by omega) (by omega) W).mono ?_
      rintro e W' ⟨v, rfl, hv, hb'⟩
      exact hK _ _ ⟨hb', hv⟩
    · intro a W hsz hb hS
      have h1 : a.tmps.getD 1 undef = .pointer (some ⟨w.heap.size, 0, none⟩) := hS.1
      clear hS hsz
      refine will_of rfl ?_
      obtain ⟨b0, b1, b2⟩ := (HB3.out.later hb).cells
      intro K hK
      go_simp
      exact hK _ _ ⟨Below.refl _ _, rfl⟩
    · intro a W hsz hb hS
      have q14 : (IsRV ((10 ^ (k).toNat : Nat) : Int) (10 ^ (-(k)).toNat) 10000) (a.tmps.getD 14 undef) W := hS.1
      have h15 : a.tmps.getD 15 undef = .agg #[.bool s, .slice A X.length c, .slice B Y.length d] := hS.2.1
      clear hS hsz
      obtain ⟨v14, h14⟩ : ∃ v, a.tmps.getD 14 undef = v := ⟨_, rfl⟩
      rw [h14] at q14
      refine will_of rfl ?_
      obtain ⟨b0, b1, b2⟩ := (HB3.out.later hb).cells
      intro K hK
      go_simp
      refine (HCM.out _ _ W q14 (IsRV.mono _ _ _ _ _ _ (raft HBL.out hb) HV.out)).mono ?_
      rintro e W' ⟨v, rfl, hv, hb'⟩
      exact hK _ _ ⟨hb', hv⟩
    · intro a W hsz hb hS
      have h16 : a.tmps.getD 16 undef = .int .i64 cc := hS.1
      clear hS hsz
      refine will_of rfl ?_
      intro K hK
      go_simp
      exact hK _ _ ⟨Below.refl _ _, congrArg Value.bool HBB.out⟩
    intro f W hb hH
    have e0 : f 0 = .int .i64 k := hH.1
    obtain ⟨x1, y1⟩ : ∃ x, f 1 = x := ⟨_, rfl⟩
    have q1 : (IsRV ((10 ^ (k).toNat : Nat) : Int) (10 ^ (-(k)).toNat) 10000) (f 1) W := hH.2.1
    rw [y1] at q1
    have e2 : f 2 = .agg #[.bool s, .slice A X.length c, .slice B Y.length d] := hH.2.2.1
    have e3 : f 3 = .int .i64 cc := hH.2.2.2.1
    have e4 : f 4 = .bool bb := hH.2.2.2.2.1
    simp only [List.take_succ_cons, List.take_zero, List.drop_succ_cons, List.drop_zero, putFrom, Act.put, List.setIfInBounds_toArray, List.set_cons_zero, List.set_cons_succ, Nat.reduceAdd, e0, y1, e2, e3, e4]
    clear e0 y1 e2 e3 e4 hH f
    have HBL := Lib.hid (raft HBL.out hb)
    have HB3 := Lib.hid (HB3.out.later hb)
    clear hb
    cases bb
    · have hnb : ¬ belowT p Q k := fun h => of_decide_eq_false HBB.out (HCT.out.2 h)
      have hk3 : -336 ≤ k ∨ True := .inr trivial
      have HNB := Lib.hid hnb
      clear hnb hk3 HCM HCT HBB
      go_wp2
      go_loopw [3] (fun kv wr => ∃ k : Int, kv = .int .i64 k ∧ -1000 ≤ k ∧ k ≤ 1000 ∧ Hid (¬ belowT p Q k ∧ Below w.heap.size w wr ∧ Box3 wr w.heap.size (.bool s) (.slice A X.length c) (.slice B Y.length d))) (fun kv _ => (1000 - intOf kv).toNat)
      case atStart => exact ⟨k, rfl, hk1, hk2, HNB.out, HBL.out, HB3.out⟩
      case round =>
        clear HB3 HBL HNB
        obtain ⟨k, rfl, hk1, hk2, hI⟩ := hrel
        have HNB := Lib.hid hI.out.1
        have HBL := Lib.hid hI.out.2.1
        have HB3 := Lib.hid hI.out.2.2
        clear hI
        obtain ⟨cc, hcc⟩ : ∃ cc, icmp (((10 ^ (k + 1).toNat : Nat) : Int) * (Q : Int)) ((p : Int) * ((10 ^ (-(k + 1)).toNat : Nat) : Int)) = cc := ⟨_, rfl⟩
        have hct := icmp_ten p Q (k + 1)
        have HCM := Lib.hid (fun va' vb' W (h : IsRV ((10 ^ (k + 1).toNat : Nat) : Int) (10 ^ (-(k + 1)).toNat) 10000 va' W) (h' : IsRV (p : Int) Q 100 vb' W) => rv_cmp h h' (by omega) (by omega))
        rw [hcc] at HCM hct
        obtain ⟨bb, hbb⟩ : ∃ bb, decide (cc ≤ 0) = bb := ⟨_, rfl⟩
        have HBB := Lib.hid hbb
        have HCT := Lib.hid hct
        clear hcc hct hbb
        go_upto_region 4 with fail
        refine region_at 6 (Pick [IsV (.int .i64 k), IsV (.int .i64 (k + 1)), (IsRV ((10 ^ (k + 1).toNat : Nat) : Int) (10 ^ (-(k + 1)).toNat) 10000), IsV (.agg #[.bool s, .slice A X.length c, .slice B Y.length d]), IsV (.int .i64 cc), IsV (.bool bb)]) (by kernel_rfl) (by kernel_rfl) (by kernel_rfl) (mono_pick ⟨IsV.mono _, IsV.mono _, IsRV.mono _ _ _, IsV.mono _, IsV.mono _, IsV.mono _, trivial⟩) ⟨?_, ?_, ?_, ?_, ?_, ?_, trivial⟩ ?_
        · intro a W hsz hb hS
          have h3 : a.tmps.getD 3 undef = .int .i64 k := hS.1
          clear hS hsz
          refine will_of rfl ?_
          intro K hK
          go_simp
          exact hK _ _ ⟨Below.refl _ _, rfl⟩
        · intro a W hsz hb hS
          have h20 : a.tmps.getD 20 undef = .int .i64 k := hS.1
          clear hS hsz
          refine will_of rfl ?_
          intro K hK
          go_simp
          exact hK _ _ ⟨Below.refl _ _, congrArg (Value.int .i64) (w64b (by omega) (by omega))⟩
        · intro a W hsz hb hS
          have h21 : a.tmps.getD 21 undef = .int .i64 (k + 1) := hS.1
          clear hS hsz
          refine will_of rfl ?_
          obtain ⟨b0, b1, b2⟩ := (HB3.out.later hb).cells
          intro K hK
          go_simp
          refine (power_rv (k + 1) (by omega) (by omega) W).mono ?_
          rintro e W' ⟨v, rfl, hv, hb'⟩
          exact hK _ _ ⟨hb', hv⟩
        · intro a W hsz hb hS
          have h1 : a.tmps.getD 1 undef = .pointer (some ⟨w.heap.size, 0, none⟩) := hS.1
          clear hS hsz
          refine will_of rfl ?_
          obtain ⟨b0, b1, b2⟩ := (HB3.out.later hb).cells
          intro K hK
          go_simp
          exact hK _ _ ⟨Below.refl _ _, rfl⟩
        · intro a W hsz hb hS
          have q22 : (IsRV ((10 ^ (k + 1).toNat : Nat) : Int) (10 ^ (-(k + 1)).toNat) 10000) (a.tmps.getD 22 undef) W := hS.1
          have h23 : a.tmps.getD 23 undef = .agg #[.bool s, .slice A X.length c, .slice B Y.length d] := hS.2.1
          clear hS hsz
          obtain ⟨v22, h22⟩ : ∃ v, a.tmps.getD 22 undef = v := ⟨_, rfl⟩
          rw [h22] at q22
          refine will_of rfl ?_
          obtain ⟨b0, b1, b2⟩ := (HB3.out.later hb).cells
          intro K hK
          go_simp
          refine (HCM.out _ _ W q22 (IsRV.mono _ _ _ _ _ _ (raft HBL.out hb) HV.out)).mono ?_
          rintro e W' ⟨v, rfl, hv, hb'⟩
          exact hK _ _ ⟨hb', hv⟩
        · intro a W hsz hb hS
          have h24 : a.tmps.getD 24 undef = .int .i64 cc := hS.1
          clear hS hsz
          refine will_of rfl ?_
          intro K hK
          go_simp
          exact hK _ _ ⟨Below.refl _ _, congrArg Value.bool HBB.out⟩
        intro f W hb hH
        have e0 : f 0 = .int .i64 k := hH.1
        have e1 : f 1 = .int .i64 (k + 1) := hH.2.1
        obtain ⟨x2, y2⟩ : ∃ x, f 2 = x := ⟨_, rfl⟩
        have q2 : (IsRV ((10 ^ (k + 1).toNat : Nat) : Int) (10 ^ (-(k + 1)).toNat) 10000) (f 2) W := hH.2.2.1
        rw [y2] at q2
        have e3 : f 3 = .agg #[.bool s, .slice A X.length c, .slice B Y.length d] := hH.2.2.2.1
        have e4 : f 4 = .int .i64 cc := hH.2.2.2.2.1
        have e5 : f 5 = .bool bb := hH.2.2.2.2.2.1
        simp only [List.take_succ_cons, List.take_zero, List.drop_succ_cons, List.drop_zero, putFrom, Act.put, List.setIfInBounds_toArray, List.set_cons_zero, List.set_cons_succ, Nat.reduceAdd, e0, e1, y2, e3, e4, e5]
        clear e0 e1 y2 e3 e4 e5 hH f
        have HBL := Lib.hid (raft HBL.out hb)
        have HB3 := Lib.hid (HB3.out.later hb)
        clear hb
        cases bb
        · have hb : belowT p Q (k + 1) := HCT.out.1 (by have := of_decide_eq_false HBB.out; omega)
          have hk3 : -336 ≤ k := by
            refine Classical.byContradiction fun hc => HLO.out (belowT_mono hb (by omega))
          have hk4 : k < 336 := by
            refine Classical.byContradiction fun hc => HNB.out (belowT_mono HHI.out (by omega))
          have HBE := Lib.hid hb
          clear hb HCM HCT HBB
          go_wp2
          go_ret
          exact ⟨k, hk3, hk4, HNB.out, HBE.out, rfl, HBL.out⟩
        · have hb : ¬ belowT p Q (k + 1) := fun h => by have := HCT.out.2 h; have := of_decide_eq_true HBB.out; omega
          have hk4 : k + 1 < 336 := by
            refine Classical.byContradiction fun hc => hb (belowT_mono HHI.out (by omega))
          have HBE := Lib.hid hb
          clear hb HCM HCT HBB
          go_wp2
          go_roundw
          case rel => exact ⟨k + 1, by go_num, by omega, by omega, HBE.out, HBL.out, HB3.out⟩
          case measure => simp [intOf]; omega
    · have hb : belowT p Q k := HCT.out.1 (of_decide_eq_true HBB.out)
      have hk3 : -336 < k := by
        refine Classical.byContradiction fun hc => HLO.out (belowT_mono hb (by omega))
      clear hb HCM HCT HBB
      go_wp2
      go_roundw
      case rel => exact ⟨k - 1, by go_num, by omega, by omega, HBL.out, HB3.out⟩
      case measure => simp [intOf]; omega
end Go.Proofs.YtiadjcilfljdaaaDoor
end
