/- Contracts of vergeref2's ratios: FromBits, RSign, RNeg. -/
import Derived.Test.YtenoemjfoadgpaaDoorRatA
import Derived.Test.YtenoemjfoadgpaaDoorFloat
import Derived.Deep.RegionWith
namespace Go.Proofs.YtenoemjfoadgpaaDoor
set_option linter.unusedVariables false
set_option linter.unusedSimpArgs false
open Go.RowKit Verge

/-- A ratio's box that is filled. -/
def Box3 (w : World) (r : Nat) (a b c : Value) : Prop := w.heap[r]? = some (.cells #[a, b, c] 63)
section
variable {w w' : World} {r : Nat} {a b c : Value}
theorem Box3.new (w : World) (a b c : Value) : Box3 (w.alloc (.cells #[a, b, c] 63)) w.heap.size a b c := by
  show (w.heap.push _)[w.heap.size]? = _
  simp
theorem Box3.lt (h : Box3 w r a b c) : r < w.heap.size := by
  by_cases hr : r < w.heap.size
  · exact hr
  · unfold Box3 at h; rw [Array.getElem?_eq_none (by omega)] at h; cases h
theorem Box3.later (h : Box3 w r a b c) (hb : Below w.heap.size w w') : Box3 w' r a b c := (hb.block r h.lt).trans h
theorem Box3.cells (h : Box3 w r a b c) : w.cell? ⟨r, 0, none⟩ = some a ∧ w.cell? ⟨r, 1, none⟩ = some b ∧ w.cell? ⟨r, 2, none⟩ = some c := by
  unfold Box3 at h
  refine ⟨?_, ?_, ?_⟩ <;> simp [World.cell?, h]
end

theorem frac_one (v : Nat) : fracN v 1 0 = v ∧ fracD v 1 0 = 1 := by
  have h1 : ntz 1 = 0 := ntz_of 1 0 0 (by simp)
  unfold fracN fracD fracE
  by_cases h : v = 0
  · simp [h]
  · obtain ⟨m, hm⟩ := ntz_spec v h
    have e1 : v / 2 ^ ntz v = 2 * m + 1 := Nat.div_eq_of_eq_mul_right (Nat.two_pow_pos _) hm
    rw [if_neg h, if_neg h, h1, e1]
    have h2 : ((0 : Int) + (ntz v : Nat) - (0 : Nat)).toNat = ntz v := by omega
    have h3 : (-((0 : Int) + (ntz v : Nat) - (0 : Nat))).toNat = 0 := by omega
    rw [h2, h3]
    refine ⟨?_, by simp⟩
    rw [Nat.mul_comm]; exact hm.symm

theorem val_one : val [1] = 1 := by simp [val]

/-- FromBits: the fraction and the exponent. -/
def fbF (b : Nat) : Nat := if b % 9223372036854775808 < 4503599627370496 then b % 4503599627370496 else 4503599627370496 + b % 4503599627370496
def fbE (b : Nat) : Nat := b % 9223372036854775808 / 4503599627370496 - 1
def fbN (b : Nat) : Nat := fracN (fbF b) 1 ((fbE b : Int) - 1074)
def fbD (b : Nat) : Nat := fracD (fbF b) 1 ((fbE b : Int) - 1074)
theorem fb_val (b K : Nat) (hK : K = 1074) : fbN b * 2 ^ K = FV (b % 9223372036854775808) * fbD b := by
  have h := frac_val (fbF b) 1 ((fbE b : Int) - 1074) (by omega) K (by omega)
  have e : ((K : Int) + ((fbE b : Int) - 1074)).toNat = fbE b := by omega
  rw [e, Nat.mul_one] at h
  unfold fbN fbD
  rw [h]
  have : FV (b % 9223372036854775808) = fbF b * 2 ^ fbE b := by
    unfold FV fbF fbE
    have hm : b % 9223372036854775808 % 4503599627370496 = b % 4503599627370496 := by omega
    by_cases hl : b % 9223372036854775808 < 4503599627370496
    · rw [if_pos hl, if_pos hl, Nat.div_eq_of_lt hl]; simp; omega
    · rw [if_neg hl, if_neg hl, hm]
  rw [this]; grind
theorem fbD_pos (b : Nat) : 0 < fbD b := fracD_pos _ _ _ (by omega)
theorem fbN_zero (b : Nat) : fbN b = 0 ↔ b % 9223372036854775808 = 0 := by
  obtain ⟨K, hK⟩ : ∃ K : Nat, K = 1074 := ⟨_, rfl⟩
  have h := fb_val b K hK
  have hd := fbD_pos b
  have hp := Nat.two_pow_pos K
  constructor
  · intro h0
    rw [h0, Nat.zero_mul] at h
    have h1 : FV (b % 9223372036854775808) = 0 := by
      rcases Nat.mul_eq_zero.1 h.symm with h2 | h2
      · exact h2
      · omega
    exact FV_inj (h1.trans FV_zero.symm)
  · intro h0
    rw [h0, FV_zero, Nat.zero_mul] at h
    rcases Nat.mul_eq_zero.1 h with h2 | h2
    · exact h2
    · omega
theorem fbF_lt (b : Nat) : fbF b < 9007199254740992 := by unfold fbF; split <;> omega

set_option maxRecDepth 20000 in
set_option maxHeartbeats 2000000 in
theorem rbits_any (b : Nat) (hb : b < 18446744073709551616) (w : World) : Calls Tryd.prog 57 #[.int .u64 (b : Int)] w (RatP w (decide (9223372036854775808 < b)) (fbN b) (fbD b)) := by
  have HB0 := Lib.hid (rnew w ratO)
  have hsg : (decide (9223372036854775808 ≤ b) && decide (fbF b ≠ 0)) = decide (9223372036854775808 < b) := by
    by_cases h : 9223372036854775808 ≤ b
    · have : fbF b ≠ 0 ↔ 9223372036854775808 < b := by unfold fbF; split <;> omega
      simp [h, this]
    · have : ¬ 9223372036854775808 < b := by omega
      simp [h, this]
  rw [← hsg]
  clear hsg
  obtain ⟨P, hP⟩ : ∃ P : Ending → World → Prop, P = RatP w (decide (9223372036854775808 ≤ b) && decide (fbF b ≠ 0)) (fbN b) (fbD b) := ⟨_, rfl⟩
  rw [← hP]
  have HP := Lib.hid hP
  clear hP
  have hf := fbF_lt b
  have e1 : bits .and .u64 ((b / 4503599627370496 : Nat) : Int) 2047 = ((b % 9223372036854775808 / 4503599627370496 : Nat) : Int) := by
    have := Go.u64_and_nat (b / 4503599627370496) 2047 (by omega) (by omega)
    rw [show (2047 : Nat) = 2 ^ 11 - 1 from rfl, Nat.and_two_pow_sub_one_eq_mod] at this
    have h2 : b / 4503599627370496 % 2 ^ 11 = b % 9223372036854775808 / 4503599627370496 := by omega
    rw [h2] at this
    exact this
  have e2 : bits .and .u64 (b : Int) 4503599627370495 = ((b % 4503599627370496 : Nat) : Int) := by
    have := Go.u64_and_nat b 4503599627370495 hb (by omega)
    rw [show (4503599627370495 : Nat) = 2 ^ 52 - 1 from rfl, Nat.and_two_pow_sub_one_eq_mod] at this
    exact this
  have e1 : bits .and .u64 ((b : Int) / 4503599627370496) 2047 = ((b % 9223372036854775808 / 4503599627370496 : Nat) : Int) := by
    rw [← e1]; congr 1
  have e3 : ((b : Int) / 9223372036854775808 == 1) = decide (9223372036854775808 ≤ b) := by
    by_cases h : 9223372036854775808 ≤ b
    · have : (b : Int) / 9223372036854775808 = 1 := by omega
      simp [h, this]
    · have : (b : Int) / 9223372036854775808 = 0 := by omega
      simp [h, this]
  have hqf : ∃ Q F : Nat, b % 9223372036854775808 / 4503599627370496 = Q ∧ b % 4503599627370496 = F ∧ Q ≤ 2047 ∧ F < 4503599627370496 ∧ fbF b = (if Q = 0 then F else F + 4503599627370496) ∧ fbE b = Q - 1 := by
    refine ⟨_, _, rfl, rfl, by omega, by omega, ?_, rfl⟩
    unfold fbF
    by_cases hl : b % 9223372036854775808 < 4503599627370496
    · rw [if_pos hl, if_pos (Nat.div_eq_of_lt hl)]
    · rw [if_neg hl, if_neg (by omega)]; omega
  obtain ⟨Q, F, hQ, hF, hQb, hFb, hfe, hee⟩ := hqf
  rw [hQ] at e1
  rw [hF] at e2
  obtain ⟨sg, hs⟩ : ∃ sg, decide (9223372036854775808 ≤ b) = sg := ⟨_, rfl⟩
  rw [hs] at e3 HP
  unfold fbN fbD at HP
  rw [hfe, hee] at HP
  clear hQ hF hs hfe hee hf
  have hbI : (0 : Int) ≤ b := by omega
  by_cases hq : Q = 0
  · subst hq
    have hd : (dig F).length ≤ 2 := dig_length_le.2 (by omega)
    have hS := fun W => rsmall_any F W (by omega)
    simp only [if_pos, Nat.zero_sub, Int.ofNat_zero, Int.zero_sub, Int.natCast_zero] at HP
    go_enter Tryd.func57, Tryd.ntmps57
    go_wp2_with fail
    refine (hS _).mono ?_
    rintro en w1 ⟨A1, c1, rfl, hR1, hl1, hm1, hb⟩
    have HB := Lib.hid ((Box.new w).later hb)
    have HW := Lib.hid (raft HB0.out hb)
    have HR1 := Lib.hid hR1
    clear hR1 hb
    go_wp2_with fail
    refine (rfrac_any sg A1 (dig (F)).length c1 (dig (F)) (some ⟨w1.heap.size, 0, none⟩) 1 1 [1] (-1074) _ (HR1.out.below (rnew w1 _)) rfl (Blk.new w1 #[.int .u32 1] [1] (W32.cons (by omega) W32.nil) (by simp [u32s])).rd rfl (by simp <;> omega) (by simp <;> omega)).mono ?_
    rw [val_dig, val_one]
    rintro en w2 ⟨A3, c3, A4, c4, rfl, hR3, hR4, hb⟩
    have hb := raft (rnew w1 _) hb
    have HB := Lib.hid (HB.out.later hb)
    have HW := Lib.hid (raft HW.out hb)
    have HR3 := Lib.hid hR3
    have HR4 := Lib.hid hR4
    obtain ⟨b0, b1, b2, f0, f1, f2⟩ := HB.out.cells
    have hz := HB.out.lt
    clear hR3 hR4 hb
    go_wp2
    refine bodyPost_ret (v := .agg #[.bool (sg && decide (F ≠ 0)), .slice A3 (dig (fracN (F) 1 (-1074))).length c3, .slice A4 (dig (fracD (F) 1 (-1074))).length c4]) (by simp [results, Tryd.results57, go_sem, b0, b1, b2, hz]) rfl ?_
    rw [HP.out]
    exact ⟨_, _, _, _, rfl, HR3.out.put3 HB.out _ _ _, HR4.out.put3 HB.out _ _ _, put3_below HW.out (Nat.le_refl _) _ _ _⟩
  · have hq' : (0 : Int) < Q := by omega
    have hd : (dig (F + 4503599627370496)).length ≤ 2 := dig_length_le.2 (by omega)
    have hS := fun W => rsmall_any (F + 4503599627370496) W (by omega)
    have hce : ((F + 4503599627370496 : Nat) : Int) = (F : Int) + 4503599627370496 := by omega
    have hee : ((Q - 1 : Nat) : Int) - 1074 = (Q : Int) - 1 - 1074 := by omega
    simp only [hce] at hS
    simp only [if_neg hq, hee] at HP
    have HQ := Lib.hid hq
    clear hq hee
    go_enter Tryd.func57, Tryd.ntmps57
    go_wp2_with fail
    refine (hS _).mono ?_
    rintro en w1 ⟨A1, c1, rfl, hR1, hl1, hm1, hb⟩
    have HB := Lib.hid ((Box.new w).later hb)
    have HW := Lib.hid (raft HB0.out hb)
    have HR1 := Lib.hid hR1
    clear hR1 hb
    go_wp2_with fail
    refine (rfrac_any sg A1 (dig (F + 4503599627370496)).length c1 (dig (F + 4503599627370496)) (some ⟨w1.heap.size, 0, none⟩) 1 1 [1] ((Q : Int) - 1 - 1074) _ (HR1.out.below (rnew w1 _)) rfl (Blk.new w1 #[.int .u32 1] [1] (W32.cons (by omega) W32.nil) (by simp [u32s])).rd rfl (by simp <;> omega) (by simp <;> omega)).mono ?_
    rw [val_dig, val_one]
    rintro en w2 ⟨A3, c3, A4, c4, rfl, hR3, hR4, hb⟩
    have hb := raft (rnew w1 _) hb
    have HB := Lib.hid (HB.out.later hb)
    have HW := Lib.hid (raft HW.out hb)
    have HR3 := Lib.hid hR3
    have HR4 := Lib.hid hR4
    obtain ⟨b0, b1, b2, f0, f1, f2⟩ := HB.out.cells
    have hz := HB.out.lt
    clear hR3 hR4 hb
    go_wp2
    refine bodyPost_ret (v := .agg #[.bool (sg && decide (F + 4503599627370496 ≠ 0)), .slice A3 (dig (fracN (F + 4503599627370496) 1 ((Q : Int) - 1 - 1074))).length c3, .slice A4 (dig (fracD (F + 4503599627370496) 1 ((Q : Int) - 1 - 1074))).length c4]) (by simp [results, Tryd.results57, go_sem, b0, b1, b2, hz]) rfl ?_
    rw [HP.out]
    exact ⟨_, _, _, _, rfl, HR3.out.put3 HB.out _ _ _, HR4.out.put3 HB.out _ _ _, put3_below HW.out (Nat.le_refl _) _ _ _⟩
end Go.Proofs.YtenoemjfoadgpaaDoor
