/- Layer 5, plain: the chapter's examples: what is read, compared, written. -/
import Derived.Test.YtiadjcilfljdaaaGreatDoorG39
import Derived.Test.YtiadjcilfljdaaaGreatDoorG37
import Derived.Test.YtiadjcilfljdaaaGreatDoorG31
import Derived.Laws.DeepStrings4
section
namespace Go.Proofs.YtiadjcilfljdaaaGreatDoor
set_option linter.unusedVariables false
set_option linter.unusedSimpArgs false
open Go.RowKit Verge

set_option maxRecDepth 100000 in
theorem kno_r0 : readS (-1) [43, 46, 49, 101, 48] = (4591870180066957721, 0, 0) := by decide +kernel
set_option maxRecDepth 100000 in
theorem kno_r1 : readS 1 [45, 49, 101, 52, 48, 48] = (18442240474082181119, 0, 0) := by decide +kernel
set_option maxRecDepth 100000 in
theorem kno_r2 : readS (-1) [48, 88, 46, 56, 80, 43, 49] = (4607182418800017408, 0, 0) := by decide +kernel
set_option maxRecDepth 100000 in
theorem kno_r3 : readS (-1) [] = (0, 0, 50) := by decide +kernel
set_option maxRecDepth 100000 in
theorem kno_r4 : readS (-1) [43] = (0, 1, 50) := by decide +kernel
set_option maxRecDepth 100000 in
theorem kno_r5 : readS (-1) [46] = (0, 1, 50) := by decide +kernel
set_option maxRecDepth 100000 in
theorem kno_r6 : readS (-1) [101, 49] = (0, 0, 50) := by decide +kernel
set_option maxRecDepth 100000 in
theorem kno_r7 : readS (-1) [49, 101] = (0, 2, 50) := by decide +kernel
set_option maxRecDepth 100000 in
theorem kno_r8 : readS (-1) [49, 46, 53, 46, 50] = (0, 3, 50) := by decide +kernel
set_option maxRecDepth 100000 in
theorem kno_r9 : readS (-1) [48, 120, 49] = (0, 3, 50) := by decide +kernel
set_option maxRecDepth 100000 in
theorem kno_r10 : readS (-1) [49, 47] = (0, 2, 50) := by decide +kernel
set_option maxRecDepth 100000 in
theorem kno_r11 : readS (-1) [49, 47, 48] = (0, 2, 50) := by decide +kernel
set_option maxRecDepth 100000 in
theorem kno_r12 : readS (-1) [48, 48, 47, 48, 48, 48] = (0, 3, 50) := by decide +kernel
set_option maxRecDepth 100000 in
theorem kno_r13 : readS (-1) [49, 101, 49, 48, 48, 48, 48] = (0, 2, 51) := by decide +kernel
set_option maxRecDepth 100000 in
theorem kno_r14 : readS (-1) [48, 120, 49, 112, 43, 49, 48, 48, 48, 48] = (0, 5, 51) := by decide +kernel
set_option maxRecDepth 100000 in
theorem kno_r15 : readS (-1) [49, 101, 45, 48, 48, 48, 57, 57, 57, 57] = (0, 0, 0) := by decide +kernel
theorem kno_c1 : cmpS [49, 46, 48, 48, 48, 48, 48, 48, 48, 48, 48, 48, 48, 48, 48, 48, 48, 48, 48, 48, 48, 48, 48, 49] [49] = (1, 0, 0) := by decide +kernel
theorem kno_c2 : cmpS [49, 50] [49, 47, 48] = (0, 5, 50) := by decide +kernel
theorem kno_e : exT 4591870180066957722 = [49, 46, 48, 48, 48, 48, 48, 48, 48, 48, 48, 48, 48, 48, 48, 48, 48, 48, 53, 53, 53, 49, 49, 49, 53, 49, 50, 51, 49, 50, 53, 55, 56, 50, 55, 48, 50, 49, 49, 56, 49, 53, 56, 51, 52, 48, 52, 53, 52, 49, 48, 49, 53, 54, 50, 53, 101, 45, 49] := by decide +kernel
theorem kno_h : hxtext 13815242216921733530 = [45, 48, 120, 49, 46, 57, 57, 57, 57, 57, 57, 57, 57, 57, 57, 57, 57, 97, 112, 45, 52] := by decide +kernel
end Go.Proofs.YtiadjcilfljdaaaGreatDoor
end

section
namespace Go.Proofs.YtiadjcilfljdaaaGreatDoor
set_option linter.unusedVariables false
set_option linter.unusedSimpArgs false
open Go.RowKit Verge

def kaN : Nat := fbF 4612811918334230528 * 2 ^ ((fbE 4612811918334230528 : Int) - 1074).toNat
def kaD : Nat := 2 ^ (-((fbE 4612811918334230528 : Int) - 1074)).toNat
set_option maxRecDepth 100000 in
theorem ka_K : ∀ m : Nat, m < 2601 → (qat kaN kaD ((m : Int) - 1600) < 10 ^ 1 ∧ 10 ^ (1 - 1) ≤ qat kaN kaD ((m : Int) - 1600)) → m = 1600 := by decide +kernel
set_option maxRecDepth 100000 in
theorem ka_t : prT 0 (decide (9223372036854775808 ≤ 4612811918334230528)) kaN kaD (0) 1 = [50, 101, 48] := by decide +kernel
theorem ka_print {K : Int} (h1 : -1600 ≤ K) (h2 : K ≤ 1000) (h : dcnt (qat kaN kaD K) = 1) : prT 0 (decide (9223372036854775808 ≤ 4612811918334230528)) kaN kaD K 1 = [50, 101, 48] := by
  have hK : K = 0 := by
    obtain ⟨a1, a2⟩ := dcnt_spec (qat kaN kaD K)
    rw [h] at a1 a2
    have h0 : 0 < qat kaN kaD K := by
      rcases Nat.eq_zero_or_pos (qat kaN kaD K) with e | e
      · rw [e, dcnt_zero] at h; omega
      · exact e
    have := ka_K (K + 1600).toNat (by omega) (by
      rw [show (((K + 1600).toNat : Nat) : Int) - 1600 = K by omega]
      exact ⟨a1, (a2 h0).2⟩)
    omega
  subst hK
  exact ka_t
def kbN : Nat := fbF 4652002910794678272 * 2 ^ ((fbE 4652002910794678272 : Int) - 1074).toNat
def kbD : Nat := 2 ^ (-((fbE 4652002910794678272 : Int) - 1074)).toNat
set_option maxRecDepth 100000 in
theorem kb_K : ∀ m : Nat, m < 2601 → (qat kbN kbD ((m : Int) - 1600) < 10 ^ 1 ∧ 10 ^ (1 - 1) ≤ qat kbN kbD ((m : Int) - 1600)) → m = 1602 := by decide +kernel
set_option maxRecDepth 100000 in
theorem kb_t : prT (-1) (decide (9223372036854775808 ≤ 4652002910794678272)) kbN kbD (2) 1 = [57, 101, 50] := by decide +kernel
theorem kb_print {K : Int} (h1 : -1600 ≤ K) (h2 : K ≤ 1000) (h : dcnt (qat kbN kbD K) = 1) : prT (-1) (decide (9223372036854775808 ≤ 4652002910794678272)) kbN kbD K 1 = [57, 101, 50] := by
  have hK : K = 2 := by
    obtain ⟨a1, a2⟩ := dcnt_spec (qat kbN kbD K)
    rw [h] at a1 a2
    have h0 : 0 < qat kbN kbD K := by
      rcases Nat.eq_zero_or_pos (qat kbN kbD K) with e | e
      · rw [e, dcnt_zero] at h; omega
      · exact e
    have := kb_K (K + 1600).toNat (by omega) (by
      rw [show (((K + 1600).toNat : Nat) : Int) - 1600 = K by omega]
      exact ⟨a1, (a2 h0).2⟩)
    omega
  subst hK
  exact kb_t
set_option maxRecDepth 100000 in
theorem ks_k : ∀ m : Nat, m < 801 → (hiB (sR 4845873199050653696 ((m : Int) - 400)) (sS 4845873199050653696 ((m : Int) - 400)) (sM 4845873199050653696 ((m : Int) - 400)) (mgV 4845873199050653696) = false ∧ hiB (sR 4845873199050653696 ((m : Int) - 400) * 10) (sS 4845873199050653696 ((m : Int) - 400)) (sM 4845873199050653696 ((m : Int) - 400) * 10) (mgV 4845873199050653696) = true) → m = 416 := by decide +kernel
set_option maxRecDepth 100000 in
theorem ks_lo : ∀ j : Nat, j < 16 → 1 ≤ j → ¬ (sHi 4845873199050653696 16 j = true ∨ sLo 4845873199050653696 16 j = true) := by decide +kernel
set_option maxRecDepth 100000 in
theorem ks_hi : sHi 4845873199050653696 16 16 = true ∨ sLo 4845873199050653696 16 16 = true := by decide +kernel
set_option maxRecDepth 100000 in
theorem ks_t : ftext (decide (9223372036854775808 ≤ 4845873199050653696)) (txt (sF 4845873199050653696 16 16)) (16 - ((16 : Nat) : Int)) = [57, 46, 48, 48, 55, 49, 57, 57, 50, 53, 52, 55, 52, 48, 57, 57, 50, 101, 49, 53] := by decide +kernel
theorem ks_short {k : Int} {i : Nat} (h : ShtOk 4845873199050653696 k i) : ftext (decide (9223372036854775808 ≤ 4845873199050653696)) (txt (sF 4845873199050653696 k i)) (k - i) = [57, 46, 48, 48, 55, 49, 57, 57, 50, 53, 52, 55, 52, 48, 57, 57, 50, 101, 49, 53] := by
  have hk : k = 16 := by
    have h1 := h.k1
    have h2 := h.k2
    have := ks_k (k + 400).toNat (by omega) (by
      rw [show (((k + 400).toNat : Nat) : Int) - 400 = k by omega]
      exact ⟨h.top, h.low⟩)
    omega
  subst hk
  have hi : i = 16 := by
    rcases Nat.lt_trichotomy i 16 with h1 | h1 | h1
    · exact absurd h.stop (ks_lo i h1 h.i1)
    · exact h1
    · have := h.run 16 (by omega) h1
      rcases ks_hi with h2 | h2
      · rw [this.1] at h2; cases h2
      · rw [this.2] at h2; cases h2
  subst hi
  exact ks_t
end Go.Proofs.YtiadjcilfljdaaaGreatDoor
end

section
namespace Go.Proofs.YtiadjcilfljdaaaGreatDoor
set_option linter.unusedVariables false
set_option linter.unusedSimpArgs false
open Go.RowKit Verge

theorem kblen_dig {n k : Nat} (h : (dig n).length ≤ k) : blen n ≤ 32 * k := by
  rw [blen_lt]
  have := dig_length_le.1 h
  rw [show (4294967296 : Nat) = 2 ^ 32 from rfl, ← Nat.pow_mul] at this
  exact this
theorem and48 (x : Nat) (hx : x < 18446744073709551616) : Go.bits .and .u64 (x : Int) 281474976710655 = ((x % 281474976710656 : Nat) : Int) := by
  have := Go.u64_and_nat x 281474976710655 hx (by omega)
  rw [show (281474976710655 : Nat) = 2 ^ 48 - 1 from rfl, Nat.and_two_pow_sub_one_eq_mod] at this
  exact this
theorem hex_cut : ∀ (d : Nat), d < 16 → ({ data := #[48, 49, 50, 51, 52, 53, 54, 55, 56, 57, 97, 98, 99, 100, 101, 102] } : ByteArray).extract d (d + 1) = bs [hexc d]
  | 0, _ => rfl | 1, _ => rfl | 2, _ => rfl | 3, _ => rfl | 4, _ => rfl | 5, _ => rfl | 6, _ => rfl | 7, _ => rfl
  | 8, _ => rfl | 9, _ => rfl | 10, _ => rfl | 11, _ => rfl | 12, _ => rfl | 13, _ => rfl | 14, _ => rfl | 15, _ => rfl
  | d + 16, h => absurd h (by omega)

end Go.Proofs.YtiadjcilfljdaaaGreatDoor
end

section
namespace Go.Proofs.YtiadjcilfljdaaaGreatDoor
set_option linter.unusedVariables false
set_option linter.unusedSimpArgs false
open Go.RowKit Verge

/-- What both answer. -/
def hexT (b : Nat) : List UInt8 := if fwrong b = true then [] else if fbF b = 0 then [48, 120, 48, 112, 48] else hxtext b
def hexC (b : Nat) : Int := if fwrong b = true then 1 else 0
theorem fbF_zero {b : Nat} (hb : b < 18446744073709551616) (h : fbF b = 0) : b = 0 ∨ b = 9223372036854775808 := by
  unfold fbF at h; split at h <;> omega
theorem hexP (b : Nat) (hb : b < 18446744073709551616) (w : World) (hT : Tab16 w) (hP : Pow10 w) : Calls Tryz.prog 25 #[.float .f64 b] w fun e w' => e = .returned (.tuple #[.string (bs (hexT b)), .int .i64 (hexC b)]) ∧ Below w.heap.size w w' := by
  unfold hexT hexC
  by_cases h : fwrong b = true
  · rw [if_pos h, if_pos h]; exact hex_wrong b hb h w
  · rw [if_neg h, if_neg h]
    by_cases h0 : fbF b = 0
    · rw [if_pos h0]; exact hex_zero b hb (fbF_zero hb h0) w
    · rw [if_neg h0]; exact hex_num b hb (by simpa using h) h0 w hT hP
theorem hexC_range (b : Nat) : 0 ≤ hexC b ∧ hexC b ≤ 1 := by unfold hexC; split <;> omega
theorem fl5_any (b : Nat) (hb : b < 18446744073709551616) (w : World) : Calls Tryz.prog 13 #[.int .u64 (b : Int)] w fun e w' => e = .returned (.float .f64 b) ∧ w = w' := by
  have h2 := from_any b
  clear hb
  go_enter Tryz.func13, Tryz.ntmps13
  go_wp2
  go_ret
  exact ⟨rfl, rfl⟩
end Go.Proofs.YtiadjcilfljdaaaGreatDoor
end

section
namespace Go.Proofs.YtiadjcilfljdaaaGreatDoor
set_option linter.unusedVariables false
set_option linter.unusedSimpArgs false
open Go.RowKit Verge

theorem refused_yes (s : List UInt8) (hs : s.length ≤ 140737488355328) (p c : Int) (h : readS (-1) s = (0, p, c)) (w : World) : Calls Tryz.prog 26 #[.string (bs s), .int .i64 p, .int .i64 c] w fun e w' => e = .returned (.bool true) ∧ Below w.heap.size w w' := by
  have r1 := fun W => lread_any (-1) s hs W
  rw [h] at r1
  have HR := Lib.hid r1
  clear r1 h hs
  generalize bs s = S at *
  go_enter Tryz.func26, Tryz.ntmps26
  go_wp2_with fail
  refine (HR.out _).mono ?_
  rintro en wn ⟨vn, rfl, rfl, hbn⟩
  have HB := Lib.hid hbn
  clear hbn
  go_wp2
  go_ret
  exact ⟨by simp, HB.out⟩
theorem refused_no (w : World) : Calls Tryz.prog 26 #[.string (bs [49, 101, 45, 48, 48, 48, 57, 57, 57, 57]), .int .i64 3, .int .i64 51] w fun e w' => e = .returned (.bool false) ∧ Below w.heap.size w w' := by
  have r1 := fun W => lread_any (-1) [49, 101, 45, 48, 48, 48, 57, 57, 57, 57] (by decide) W
  rw [kno_r15] at r1
  have HR := Lib.hid r1
  clear r1
  generalize bs [49, 101, 45, 48, 48, 48, 57, 57, 57, 57] = S at *
  go_enter Tryz.func26, Tryz.ntmps26
  go_wp2_with fail
  refine (HR.out _).mono ?_
  rintro en wn ⟨vn, rfl, rfl, hbn⟩
  have HB := Lib.hid hbn
  clear hbn
  go_wp2
  go_ret
  exact ⟨rfl, HB.out⟩
set_option maxRecDepth 100000 in
set_option maxHeartbeats 8000000 in
theorem walk_known (w : World) (hL : Tab16 w ∧ Pow10 w) : Calls Tryz.prog 9 #[] w fun e w' => e = .returned (.bool true) ∧ Below w.heap.size w w' := by
  have t0 := fun W => lread_any (-1) [43, 46, 49, 101, 48] (by decide) W
  rw [kno_r0] at t0
  have HR0 := Lib.hid t0
  clear t0
  have t1 := fun W => lread_any 1 [45, 49, 101, 52, 48, 48] (by decide) W
  rw [kno_r1] at t1
  have HR1 := Lib.hid t1
  clear t1
  have t2 := fun W => lread_any (-1) [48, 88, 46, 56, 80, 43, 49] (by decide) W
  rw [kno_r2] at t2
  have HR2 := Lib.hid t2
  clear t2
  have HL := Lib.hid (fun W (hP : Pow10 W) => lives_any W hP)
  have HR3 := Lib.hid (fun W => refused_yes [] (by decide) _ _ kno_r3 W)
  have HR4 := Lib.hid (fun W => refused_yes [43] (by decide) _ _ kno_r4 W)
  have HR5 := Lib.hid (fun W => refused_yes [46] (by decide) _ _ kno_r5 W)
  have HR6 := Lib.hid (fun W => refused_yes [101, 49] (by decide) _ _ kno_r6 W)
  have HR7 := Lib.hid (fun W => refused_yes [49, 101] (by decide) _ _ kno_r7 W)
  have HR8 := Lib.hid (fun W => refused_yes [49, 46, 53, 46, 50] (by decide) _ _ kno_r8 W)
  have HR9 := Lib.hid (fun W => refused_yes [48, 120, 49] (by decide) _ _ kno_r9 W)
  have HR10 := Lib.hid (fun W => refused_yes [49, 47] (by decide) _ _ kno_r10 W)
  have HR11 := Lib.hid (fun W => refused_yes [49, 47, 48] (by decide) _ _ kno_r11 W)
  have HR12 := Lib.hid (fun W => refused_yes [48, 48, 47, 48, 48, 48] (by decide) _ _ kno_r12 W)
  have HR13 := Lib.hid (fun W => refused_yes [49, 101, 49, 48, 48, 48, 48] (by decide) _ _ kno_r13 W)
  have HR14 := Lib.hid (fun W => refused_yes [48, 120, 49, 112, 43, 49, 48, 48, 48, 48] (by decide) _ _ kno_r14 W)
  have HRN := Lib.hid (fun W => refused_no W)
  have u1 := fun W => cmpA_any [49, 46, 48, 48, 48, 48, 48, 48, 48, 48, 48, 48, 48, 48, 48, 48, 48, 48, 48, 48, 48, 48, 48, 49] [49] (by decide) (by decide) W
  rw [kno_c1] at u1
  simp only [IsI] at u1
  have HC1 := Lib.hid u1
  clear u1
  have u2 := fun W => cmpA_any [49, 50] [49, 47, 48] (by decide) (by decide) W
  rw [kno_c2] at u2
  simp only [IsI] at u2
  have HC2 := Lib.hid u2
  clear u2
  have HPka := Lib.hid (fun W (hW : Pow10 W) => print_num 0 4612811918334230528 1 (by decide) (by decide) (by decide) (by decide +kernel) (by decide) kaN kaD rfl rfl W hW)
  have HPkb := Lib.hid (fun W (hW : Pow10 W) => print_num (-1) 4652002910794678272 1 (by decide) (by decide) (by decide) (by decide +kernel) (by decide) kbN kbD rfl rfl W hW)
  have v1 := fun W (hW : Pow10 W) => exP 4591870180066957722 (by decide) W hW
  rw [kno_e, show exC 4591870180066957722 = 0 by decide +kernel] at v1
  have HE := Lib.hid v1
  clear v1
  have v2 := fun W (hT : Tab16 W) (hW : Pow10 W) => hexP 13815242216921733530 (by decide) W hT hW
  rw [show hexT 13815242216921733530 = [45, 48, 120, 49, 46, 57, 57, 57, 57, 57, 57, 57, 57, 57, 57, 57, 57, 97, 112, 45, 52] by decide +kernel, show hexC 13815242216921733530 = 0 by decide +kernel] at v2
  have HH := Lib.hid v2
  clear v2
  have HS := Lib.hid (fun W (hW : Pow10 W) => short_num 4845873199050653696 (by decide) (by decide +kernel) (by decide) W hW)
  have H5 := Lib.hid (fun S W => said_ok S W)
  have HPP := Lib.hid hL.2
  have HTT := Lib.hid hL.1
  have HB := Lib.hid (Below.refl w.heap.size w)
  clear hL
  go_enter Tryz.func9, Tryz.ntmps9
  go_wp2_with fail
  refine (HR0.out _).mono ?_
  rintro en wn ⟨vn, rfl, rfl, hbn⟩
  have HB := Lib.hid (raft HB.out hbn)
  clear hbn
  go_wp2_with fail
  refine (HR1.out _).mono ?_
  rintro en wn ⟨vn, rfl, rfl, hbn⟩
  have HB := Lib.hid (raft HB.out hbn)
  clear hbn
  go_wp2_with fail
  refine (HR2.out _).mono ?_
  rintro en wn ⟨vn, rfl, rfl, hbn⟩
  have HB := Lib.hid (raft HB.out hbn)
  clear hbn
  go_wp2_with fail
  refine (HL.out _ (HPP.out.below HB.out)).mono ?_
  rintro en wn ⟨rfl, hbn⟩
  have HB := Lib.hid (raft HB.out hbn)
  clear hbn
  go_wp2_with fail
  refine (HR3.out _).mono ?_
  rintro en wn ⟨rfl, hbn⟩
  have HB := Lib.hid (raft HB.out hbn)
  clear hbn
  go_wp2_with fail
  refine (HR4.out _).mono ?_
  rintro en wn ⟨rfl, hbn⟩
  have HB := Lib.hid (raft HB.out hbn)
  clear hbn
  go_wp2_with fail
  refine (HR5.out _).mono ?_
  rintro en wn ⟨rfl, hbn⟩
  have HB := Lib.hid (raft HB.out hbn)
  clear hbn
  go_wp2_with fail
  refine (HR6.out _).mono ?_
  rintro en wn ⟨rfl, hbn⟩
  have HB := Lib.hid (raft HB.out hbn)
  clear hbn
  go_wp2_with fail
  refine (HR7.out _).mono ?_
  rintro en wn ⟨rfl, hbn⟩
  have HB := Lib.hid (raft HB.out hbn)
  clear hbn
  go_wp2_with fail
  refine (HR8.out _).mono ?_
  rintro en wn ⟨rfl, hbn⟩
  have HB := Lib.hid (raft HB.out hbn)
  clear hbn
  go_wp2_with fail
  refine (HR9.out _).mono ?_
  rintro en wn ⟨rfl, hbn⟩
  have HB := Lib.hid (raft HB.out hbn)
  clear hbn
  go_wp2_with fail
  refine (HR10.out _).mono ?_
  rintro en wn ⟨rfl, hbn⟩
  have HB := Lib.hid (raft HB.out hbn)
  clear hbn
  go_wp2_with fail
  refine (HR11.out _).mono ?_
  rintro en wn ⟨rfl, hbn⟩
  have HB := Lib.hid (raft HB.out hbn)
  clear hbn
  go_wp2_with fail
  refine (HR12.out _).mono ?_
  rintro en wn ⟨rfl, hbn⟩
  have HB := Lib.hid (raft HB.out hbn)
  clear hbn
  go_wp2_with fail
  refine (HR13.out _).mono ?_
  rintro en wn ⟨rfl, hbn⟩
  have HB := Lib.hid (raft HB.out hbn)
  clear hbn
  go_wp2_with fail
  refine (HR14.out _).mono ?_
  rintro en wn ⟨rfl, hbn⟩
  have HB := Lib.hid (raft HB.out hbn)
  clear hbn
  go_wp2_with fail
  refine (HRN.out _).mono ?_
  rintro en wn ⟨rfl, hbn⟩
  have HB := Lib.hid (raft HB.out hbn)
  clear hbn
  go_wp2_with fail
  refine (HC1.out _).mono ?_
  rintro en wn ⟨vn, rfl, rfl, hbn⟩
  have HB := Lib.hid (raft HB.out hbn)
  clear hbn
  go_wp2_with fail
  refine (HC2.out _).mono ?_
  rintro en wn ⟨vn, rfl, rfl, hbn⟩
  have HB := Lib.hid (raft HB.out hbn)
  clear hbn
  go_wp2_with fail
  refine (HPka.out _ (HPP.out.below HB.out)).mono ?_
  rintro en wn ⟨K, k1, k2, hk, rfl, hbn⟩
  have HB := Lib.hid (raft HB.out hbn)
  clear hbn
  rw [ka_print k1 k2 hk]
  clear k1 k2 hk K
  go_wp2_with fail
  refine (HPkb.out _ (HPP.out.below HB.out)).mono ?_
  rintro en wn ⟨K, k1, k2, hk, rfl, hbn⟩
  have HB := Lib.hid (raft HB.out hbn)
  clear hbn
  rw [kb_print k1 k2 hk]
  clear k1 k2 hk K
  go_wp2_with fail
  refine (HE.out _ (HPP.out.below HB.out)).mono ?_
  rintro en wn ⟨rfl, hbn⟩
  have HB := Lib.hid (raft HB.out hbn)
  clear hbn
  go_wp2_with fail
  refine (HH.out _ (HTT.out.below HB.out) (HPP.out.below HB.out)).mono ?_
  rintro en wn ⟨rfl, hbn⟩
  have HB := Lib.hid (raft HB.out hbn)
  clear hbn
  go_wp2_with fail
  refine (HS.out _ (HPP.out.below HB.out)).mono ?_
  rintro en wn ⟨k, i, hok, rfl, hbn⟩
  have HB := Lib.hid (raft HB.out hbn)
  clear hbn
  rw [ks_short hok]
  clear hok k i
  go_wp2_with fail
  refine (H5.out _ _).mono ?_
  rintro en wn ⟨rfl, rfl⟩
  go_wp2_with fail
  refine (H5.out _ _).mono ?_
  rintro en wn ⟨rfl, rfl⟩
  go_wp2_with fail
  refine (H5.out _ _).mono ?_
  rintro en wn ⟨rfl, rfl⟩
  go_wp2_with fail
  refine (H5.out _ _).mono ?_
  rintro en wn ⟨rfl, rfl⟩
  go_wp2_with fail
  refine (H5.out _ _).mono ?_
  rintro en wn ⟨rfl, rfl⟩
  go_wp2
  go_ret
  exact ⟨rfl, HB.out⟩
end Go.Proofs.YtiadjcilfljdaaaGreatDoor
end
