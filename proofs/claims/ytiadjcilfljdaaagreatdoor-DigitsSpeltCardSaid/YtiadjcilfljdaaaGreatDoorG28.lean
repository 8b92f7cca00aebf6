/- The contract of strconv.Itoa at this program: written by the kit's shelf tools, cut to what is used. -/
import Derived.Shelf.Strconv.Itoa0
import Derived.Shelf.Strconv.Itoa1
import Derived.Shelf.LaysM
import Derived.Shelf.Strconv.Itoa2
import Derived.Shelf.Strconv.Itoa3
import Derived.Test.YtiadjcilfljdaaaGreatDoorProg
import Derived.Test.YtiadjcilfljdaaaGreatDoorG27
import Derived.Test.YtiadjcilfljdaaaGreatDoorG06
section
namespace Go.Proofs
open Go.Shelf
def Tryz.laysM171_ren : Go.Shelf.Ren := ⟨fun | 171 => 59 | 243 => 88 | 246 => 108 | 283 => 104 | 284 => 105 | 285 => 106 | 286 => 107 | 129 => 118 | 317 => 117 | 318 => 119 | 319 => 120 | 320 => 121 | 337 => 128 | 338 => 129 | n => n, fun | 3 => 3 | 9 => 9 | 2 => 2 | 4 => 4 | 171 => 120 | 0 => 0 | 53 => 22 | 37 => 55 | 5 => 5 | 173 => 123 | 212 => 133 | 51 => 73 | 20 => 20 | 213 => 134 | 46 => 85 | 232 => 140 | 233 => 141 | n => n, fun | 17 => 1 | 18 => 2 | 19 => 3 | n => n⟩
theorem Tryz.laysM171 : Go.Proofs.LaysM.n171 Tryz.prog Tryz.laysM171_ren := {
  mixed := by kernel_rfl
  f129 := Tryz.func118.trans (congrArg some (by kernel_rfl))
  f171 := Tryz.func59.trans (congrArg some (by kernel_rfl))
  f243 := Tryz.func88.trans (congrArg some (by kernel_rfl))
  f246 := Tryz.func108.trans (congrArg some (by kernel_rfl))
  f283 := Tryz.func104.trans (congrArg some (by kernel_rfl))
  f284 := Tryz.func105.trans (congrArg some (by kernel_rfl))
  f285 := Tryz.func106.trans (congrArg some (by kernel_rfl))
  f286 := Tryz.func107.trans (congrArg some (by kernel_rfl))
  f317 := Tryz.func117.trans (congrArg some (by kernel_rfl))
  f318 := Tryz.func119.trans (congrArg some (by kernel_rfl))
  f319 := Tryz.func120.trans (congrArg some (by kernel_rfl))
  f320 := Tryz.func121.trans (congrArg some (by kernel_rfl))
  f337 := Tryz.func128.trans (congrArg some (by kernel_rfl))
  f338 := Tryz.func129.trans (congrArg some (by kernel_rfl))
  t0 := Tryz.underlying0
  a0 := Tryz.isAgg0
  z0 := Tryz.sizeOf0
  v0 := Tryz.zeroValue0
  t2 := Tryz.underlying2
  a2 := Tryz.isAgg2
  z2 := Tryz.sizeOf2
  v2 := Tryz.zeroValue2
  t3 := Tryz.underlying3
  a3 := Tryz.isAgg3
  z3 := Tryz.sizeOf3
  v3 := Tryz.zeroValue3
  t4 := Tryz.underlying4
  a4 := Tryz.isAgg4
  z4 := Tryz.sizeOf4
  v4 := Tryz.zeroValue4
  t5 := Tryz.underlying5
  a5 := Tryz.isAgg5
  z5 := Tryz.sizeOf5
  v5 := Tryz.zeroValue5
  t9 := Tryz.underlying9
  a9 := Tryz.isAgg9
  z9 := Tryz.sizeOf9
  v9 := Tryz.zeroValue9
  t20 := Tryz.underlying20
  a20 := Tryz.isAgg20
  z20 := Tryz.sizeOf20
  v20 := Tryz.zeroValue20
  t37 := Tryz.underlying55
  a37 := Tryz.isAgg55
  z37 := Tryz.sizeOf55
  v37 := Tryz.zeroValue55
  t46 := Tryz.underlying85
  a46 := Tryz.isAgg85
  z46 := Tryz.sizeOf85
  v46 := Tryz.zeroValue85
  t51 := Tryz.underlying73
  a51 := Tryz.isAgg73
  z51 := Tryz.sizeOf73
  v51 := Tryz.zeroValue73
  t53 := Tryz.underlying22
  a53 := Tryz.isAgg22
  z53 := Tryz.sizeOf22
  v53 := Tryz.zeroValue22
  t171 := Tryz.underlying120
  a171 := Tryz.isAgg120
  z171 := Tryz.sizeOf120
  v171 := Tryz.zeroValue120
  t173 := Tryz.underlying123
  a173 := Tryz.isAgg123
  z173 := Tryz.sizeOf123
  v173 := Tryz.zeroValue123
  t212 := Tryz.underlying133
  a212 := Tryz.isAgg133
  z212 := Tryz.sizeOf133
  v212 := Tryz.zeroValue133
  t213 := Tryz.underlying134
  a213 := Tryz.isAgg134
  z213 := Tryz.sizeOf134
  t232 := Tryz.underlying140
  a232 := Tryz.isAgg140
  z232 := Tryz.sizeOf140
  v232 := Tryz.zeroValue140
  t233 := Tryz.underlying141
  a233 := Tryz.isAgg141
  z233 := Tryz.sizeOf141
  v233 := Tryz.zeroValue141
  g17 := by kernel_rfl
  g18 := by kernel_rfl
  g19 := by kernel_rfl
  i0 := by kernel_rfl
  i2 := by kernel_rfl
  i3 := by kernel_rfl
  i4 := by kernel_rfl
  i5 := by kernel_rfl
  i9 := by kernel_rfl
  i20 := by kernel_rfl
  i37 := by kernel_rfl
  i46 := by kernel_rfl
  i51 := by kernel_rfl
  i53 := by kernel_rfl
  i171 := by kernel_rfl
  i173 := by kernel_rfl
  i212 := by kernel_rfl
  i232 := by kernel_rfl
  i233 := by kernel_rfl
  m17 := by kernel_rfl
  m18 := by kernel_rfl
  m19 := by kernel_rfl }
open Go.RowKit Go.Sort Go.Lib in
theorem Tryz.strconv_Itoa (n : Int) (h0 : -9223372036854775808 ≤ n) (h1 : n ≤ 9223372036854775807) (w : World) (htab : Lib.TabIs Tryz.prog w "internal/strconv.uint64pow10" .u64 Lib.pow10Tab) :
    Calls Tryz.prog 59 #[.int .i64 n] w fun e w' => e = .returned (.string ⟨(Lib.itoa n).toArray⟩) ∧ ∃ k os, w' = grow (w.drewN k) os := Any.strconv_Itoa Tryz.laysM171 n h0 h1 w htab
end Go.Proofs
end

section
namespace Go.Proofs.YtiadjcilfljdaaaGreatDoor
set_option linter.unusedVariables false
set_option linter.unusedSimpArgs false
open Go.RowKit Verge

/-- Is a pattern a number's? -/
def fwrong (b : Nat) : Bool := decide (9218868437227405312 ≤ fabs b)
theorem wrong_any (b : Nat) (hb : b < 18446744073709551616) (w : World) : Calls Tryz.prog 30 #[.float .f64 b] w fun e w' => e = .returned (.bool (fwrong b)) ∧ w = w' := by
  have H1 := Lib.hid (fun W => isnan_any b hb W)
  have H2 := Lib.hid (fun W => isinf_0 b hb W)
  have he : fwrong b = (decide (fnan b) || decide (fabs b = 9218868437227405312)) := by
    unfold fwrong
    rw [Bool.eq_iff_iff]
    simp only [Bool.or_eq_true, decide_eq_true_eq]
    unfold fnan fabs
    omega
  rw [he]
  cases e1 : decide (fnan b)
  · rw [e1] at H1
    obtain ⟨r, hr⟩ : ∃ r, decide (fabs b = 9218868437227405312) = r := ⟨_, rfl⟩
    rw [hr] at H2 ⊢
    clear e1 hr he hb
    go_enter Tryz.func30, Tryz.ntmps30
    go_wp2_with fail
    refine (H1.out _).mono ?_
    rintro e w1 ⟨rfl, rfl⟩
    go_wp2_with fail
    refine (H2.out _).mono ?_
    rintro e w1 ⟨rfl, rfl⟩
    go_wp2
    go_ret
    exact ⟨by simp, rfl⟩
  · rw [e1] at H1
    clear e1 he hb H2
    go_enter Tryz.func30, Tryz.ntmps30
    go_wp2_with fail
    refine (H1.out _).mono ?_
    rintro e w1 ⟨rfl, rfl⟩
    go_wp2
    go_ret
    exact ⟨by simp, rfl⟩
theorem or52 (x : Nat) (hx : x < 4503599627370496) : x ||| 4503599627370496 = x + 4503599627370496 := by
  have := Nat.two_pow_add_eq_or_of_lt (i := 52) (b := x) hx 1
  rw [Nat.mul_one, show (2 : Nat) ^ 52 = 4503599627370496 by decide] at this
  rw [Nat.or_comm, ← this]; omega
set_option maxHeartbeats 1000000 in
theorem part_any (b : Nat) (hb : b < 18446744073709551616) (w : World) : Calls Tryz.prog 57 #[.float .f64 b] w fun e w' => e = .returned (.tuple #[.int .u64 (fbF b : Nat), .int .i64 ((fbE b : Int) - 1074)]) ∧ w = w' := by
  have h1 := bits_any b
  have e1 : Go.bits .and .u64 ((b / 4503599627370496 : Nat) : Int) 2047 = ((b % 9223372036854775808 / 4503599627370496 : Nat) : Int) := by
    have := Go.u64_and_nat (b / 4503599627370496) 2047 (by omega) (by omega)
    rw [show (2047 : Nat) = 2 ^ 11 - 1 from rfl, Nat.and_two_pow_sub_one_eq_mod] at this
    have h2 : b / 4503599627370496 % 2 ^ 11 = b % 9223372036854775808 / 4503599627370496 := by omega
    rw [h2] at this
    exact this
  have e2 : Go.bits .and .u64 (b : Int) 4503599627370495 = ((b % 4503599627370496 : Nat) : Int) := by
    have := Go.u64_and_nat b 4503599627370495 hb (by omega)
    rw [show (4503599627370495 : Nat) = 2 ^ 52 - 1 from rfl, Nat.and_two_pow_sub_one_eq_mod] at this
    exact this
  have e1 : Go.bits .and .u64 ((b : Int) / 4503599627370496) 2047 = ((b % 9223372036854775808 / 4503599627370496 : Nat) : Int) := by
    rw [← e1]; congr 1
  have hqf : ∃ Q F : Nat, b % 9223372036854775808 / 4503599627370496 = Q ∧ b % 4503599627370496 = F ∧ Q ≤ 2047 ∧ F < 4503599627370496 ∧ fbF b = (if Q = 0 then F else F + 4503599627370496) ∧ fbE b = Q - 1 := by
    refine ⟨_, _, rfl, rfl, by omega, by omega, ?_, rfl⟩
    unfold fbF
    by_cases hl : b % 9223372036854775808 < 4503599627370496
    · rw [if_pos hl, if_pos (Nat.div_eq_of_lt hl)]
    · rw [if_neg hl, if_neg (by omega)]; omega
  obtain ⟨Q, F, hQ, hF, hQb, hFb, hfe, hee⟩ := hqf
  rw [hQ] at e1
  rw [hF] at e2
  rw [hfe, hee]
  have e3 : Go.bits .or .u64 (F : Int) 4503599627370496 = ((F + 4503599627370496 : Nat) : Int) := by
    have := Go.u64_or_nat F 4503599627370496 (by omega) (by omega)
    rw [or52 F hFb] at this
    exact this
  have hbI : (0 : Int) ≤ b := by omega
  clear hQ hF hfe hee
  by_cases hq : Q = 0
  · subst hq
    rw [if_pos rfl]
    clear e3
    go_enter Tryz.func57, Tryz.ntmps57
    go_wp2
    go_ret2
    exact ⟨rfl, rfl⟩
  · rw [if_neg hq]
    have hq1 : (0 : Int) < Q := by omega
    have hs : ((Q - 1 : Nat) : Int) = (Q : Int) - 1 := by omega
    rw [hs]
    clear hs hq
    go_enter Tryz.func57, Tryz.ntmps57
    go_wp2
    go_ret2
    exact ⟨rfl, rfl⟩
end Go.Proofs.YtiadjcilfljdaaaGreatDoor
end
