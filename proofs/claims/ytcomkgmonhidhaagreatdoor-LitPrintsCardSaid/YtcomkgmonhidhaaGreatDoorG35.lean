/- Layer 5: the scientific form, by the document and by the program. -/
import Derived.Test.YtcomkgmonhidhaaGreatDoorG21
import Derived.Test.YtcomkgmonhidhaaGreatDoorG34
import Derived.Laws.DeepStrings4
import Derived.Test.YtcomkgmonhidhaaGreatDoorG14
section
namespace Go.Proofs.YtcomkgmonhidhaaGreatDoor
set_option linter.unusedVariables false
set_option linter.unusedSimpArgs false
open Go.RowKit Verge

theorem bs_cut (d : List UInt8) (i j : Nat) : (bs d).extract i j = bs ((d.drop i).take (j - i)) := ByteArray.extract_mk d i j
set_option maxHeartbeats 1000000 in
theorem form5_any (neg : Bool) (d : List UInt8) (k : Int) (h1 : 1 ≤ d.length) (h2 : d.length ≤ 9000) (hk : -9000 ≤ k) (hk2 : k ≤ 9000) (w : World) : Calls Tryz.prog 40 #[.bool neg, .string (bs d), .int .i64 k] w fun e w' => e = .returned (.string (bs (ftext neg d k))) ∧ Below w.heap.size w w' := by
  have HI := Lib.hid (fun W => number5_any ((d.length : Int) - 1 + k) (by omega) (by omega) W)
  have HIL := itoa_len ((d.length : Int) - 1 + k) (by omega) (by omega)
  have HY : Hid (ftext neg d k = (if neg = true then [45] else []) ++ (d.take 1 ++ (if 1 < d.length then 46 :: d.drop 1 else [])) ++ 101 :: Lib.itoa ((d.length : Int) - 1 + k)) := Lib.hid rfl
  have hc1 := bs_cut d 0 1
  have hc2 := bs_cut d 1 d.length
  rw [List.drop_zero, Nat.sub_zero] at hc1
  rw [List.take_of_length_le (by simp)] at hc2
  have hsz := bs_size d
  obtain ⟨tx, htx⟩ : ∃ t, ftext neg d k = t := ⟨_, rfl⟩
  rw [htx] at HY ⊢
  obtain ⟨J, hJ⟩ : ∃ J, Lib.itoa ((d.length : Int) - 1 + k) = J := ⟨_, rfl⟩
  rw [hJ] at HI HIL HY
  have l1 : (d.take 1).length ≤ 1 := by simp; omega
  have l2 : (d.drop 1).length ≤ 9000 := by simp; omega
  generalize d.take 1 = p at *
  generalize d.drop 1 = q at *
  obtain ⟨n, hn⟩ : ∃ n, d.length = n := ⟨_, rfl⟩
  rw [hn] at HY hc2 hsz HI h1 h2
  generalize bs d = D at *
  have hbp := bs_size p
  have hbq := bs_size q
  have hbJ := bs_size J
  clear htx hJ hn
  by_cases hl : 1 < n
  · rw [if_pos hl] at HY
    have z1 : (bs p).size + ({ data := #[46] } : ByteArray).size ≤ 9223372036854775807 := by have : ({ data := #[46] } : ByteArray).size = 1 := rfl; omega
    have z2 : (bs p ++ ({ data := #[46] } : ByteArray)).size + (bs q).size ≤ 9223372036854775807 := by
      rw [show ({ data := #[46] } : ByteArray) = bs [46] from rfl, bs_append, bs_size, bs_size, List.length_append]; simp; omega
    have z3 : (bs p ++ ({ data := #[46] } : ByteArray) ++ bs q).size + ({ data := #[101] } : ByteArray).size ≤ 9223372036854775807 := by
      rw [show ({ data := #[46] } : ByteArray) = bs [46] from rfl, show ({ data := #[101] } : ByteArray) = bs [101] from rfl, bs_append, bs_append, bs_size, bs_size, List.length_append, List.length_append]; simp; omega
    have z4 : (bs p ++ ({ data := #[46] } : ByteArray) ++ bs q ++ ({ data := #[101] } : ByteArray)).size + (bs J).size ≤ 9223372036854775807 := by
      rw [show ({ data := #[46] } : ByteArray) = bs [46] from rfl, show ({ data := #[101] } : ByteArray) = bs [101] from rfl, bs_append, bs_append, bs_append, bs_size, bs_size, List.length_append, List.length_append, List.length_append]; simp; omega
    have z5 : ({ data := #[45] } : ByteArray).size + (bs p ++ ({ data := #[46] } : ByteArray) ++ bs q ++ ({ data := #[101] } : ByteArray) ++ bs J).size ≤ 9223372036854775807 := by
      rw [show ({ data := #[46] } : ByteArray) = bs [46] from rfl, show ({ data := #[101] } : ByteArray) = bs [101] from rfl, show ({ data := #[45] } : ByteArray) = bs [45] from rfl, bs_append, bs_append, bs_append, bs_append, bs_size, bs_size, List.length_append, List.length_append, List.length_append, List.length_append]; simp; omega
    have hlI : (1 : Int) < n := by omega
    clear hbp hbq hbJ l1 l2 HIL
    cases neg
    · go_enter Tryz.func40, Tryz.ntmps40
      go_wp2_with fail
      refine (HI.out _).mono ?_
      rintro e w1 ⟨rfl, hb⟩
      have HW := Lib.hid hb
      clear hb
      go_wp2
      go_ret
      refine ⟨?_, HW.out⟩
      rw [HY.out, show ({ data := #[46] } : ByteArray) = bs [46] from rfl, show ({ data := #[101] } : ByteArray) = bs [101] from rfl, bs_append, bs_append, bs_append, bs_append]
      simp
    · go_enter Tryz.func40, Tryz.ntmps40
      go_wp2_with fail
      refine (HI.out _).mono ?_
      rintro e w1 ⟨rfl, hb⟩
      have HW := Lib.hid hb
      clear hb
      go_wp2
      go_ret
      refine ⟨?_, HW.out⟩
      rw [HY.out, show ({ data := #[46] } : ByteArray) = bs [46] from rfl, show ({ data := #[101] } : ByteArray) = bs [101] from rfl, show ({ data := #[45] } : ByteArray) = bs [45] from rfl, bs_append, bs_append, bs_append, bs_append, bs_append]
      simp
  · rw [if_neg hl] at HY
    have z3 : (bs p).size + ({ data := #[101] } : ByteArray).size ≤ 9223372036854775807 := by have : ({ data := #[101] } : ByteArray).size = 1 := rfl; omega
    have z4 : (bs p ++ ({ data := #[101] } : ByteArray)).size + (bs J).size ≤ 9223372036854775807 := by
      rw [show ({ data := #[101] } : ByteArray) = bs [101] from rfl, bs_append, bs_size, bs_size, List.length_append]; simp; omega
    have z5 : ({ data := #[45] } : ByteArray).size + (bs p ++ ({ data := #[101] } : ByteArray) ++ bs J).size ≤ 9223372036854775807 := by
      rw [show ({ data := #[101] } : ByteArray) = bs [101] from rfl, show ({ data := #[45] } : ByteArray) = bs [45] from rfl, bs_append, bs_append, bs_size, bs_size, List.length_append, List.length_append]; simp; omega
    have hlI : ¬ (1 : Int) < n := by omega
    clear hbp hbq hbJ l1 l2 HIL
    cases neg
    · go_enter Tryz.func40, Tryz.ntmps40
      go_wp2_with fail
      refine (HI.out _).mono ?_
      rintro e w1 ⟨rfl, hb⟩
      have HW := Lib.hid hb
      clear hb
      go_wp2
      go_ret
      refine ⟨?_, HW.out⟩
      rw [HY.out, show ({ data := #[101] } : ByteArray) = bs [101] from rfl, bs_append, bs_append]
      simp
    · go_enter Tryz.func40, Tryz.ntmps40
      go_wp2_with fail
      refine (HI.out _).mono ?_
      rintro e w1 ⟨rfl, hb⟩
      have HW := Lib.hid hb
      clear hb
      go_wp2
      go_ret
      refine ⟨?_, HW.out⟩
      rw [HY.out, show ({ data := #[101] } : ByteArray) = bs [101] from rfl, show ({ data := #[45] } : ByteArray) = bs [45] from rfl, bs_append, bs_append, bs_append]
      simp
set_option maxHeartbeats 1000000 in
theorem formp_any (neg : Bool) (d : List UInt8) (k : Int) (h1 : 1 ≤ d.length) (h2 : d.length ≤ 9000) (hk : -9000 ≤ k) (hk2 : k ≤ 9000) (w : World) (hP : Pow10 w) : Calls Tryz.prog 24 #[.bool neg, .string (bs d), .int .i64 k] w fun e w' => e = .returned (.string (bs (ftext neg d k))) ∧ Below w.heap.size w w' := by
  have HI := Lib.hid (fun W (hW : Pow10 W) => itoa5 ((d.length : Int) - 1 + k) (by omega) (by omega) W hW)
  have HIL := itoa_len ((d.length : Int) - 1 + k) (by omega) (by omega)
  have HY : Hid (ftext neg d k = (if neg = true then [45] else []) ++ (d.take 1 ++ (if 1 < d.length then 46 :: d.drop 1 else [])) ++ 101 :: Lib.itoa ((d.length : Int) - 1 + k)) := Lib.hid rfl
  have hc1 := bs_cut d 0 1
  have hc2 := bs_cut d 1 d.length
  rw [List.drop_zero, Nat.sub_zero] at hc1
  rw [List.take_of_length_le (by simp)] at hc2
  have hsz := bs_size d
  obtain ⟨tx, htx⟩ : ∃ t, ftext neg d k = t := ⟨_, rfl⟩
  rw [htx] at HY ⊢
  obtain ⟨J, hJ⟩ : ∃ J, Lib.itoa ((d.length : Int) - 1 + k) = J := ⟨_, rfl⟩
  rw [hJ] at HI HIL HY
  have l1 : (d.take 1).length ≤ 1 := by simp; omega
  have l2 : (d.drop 1).length ≤ 9000 := by simp; omega
  generalize d.take 1 = p at *
  generalize d.drop 1 = q at *
  obtain ⟨n, hn⟩ : ∃ n, d.length = n := ⟨_, rfl⟩
  rw [hn] at HY hc2 hsz HI h1 h2
  generalize bs d = D at *
  have hbp := bs_size p
  have hbq := bs_size q
  have hbJ := bs_size J
  have HPP := Lib.hid hP
  clear htx hJ hn hP
  by_cases hl : 1 < n
  · rw [if_pos hl] at HY
    have hlI : (1 : Int) < n := by omega
    cases neg
    · have e0 : ({ data := #[] } : ByteArray) = bs [] := rfl
      have z0 : ({ data := #[] } : ByteArray).size + (bs p).size ≤ 9223372036854775807 := by rw [e0]; simp only [bs_append, bs_size, List.length_append, List.length_cons, List.length_nil]; omega
      have z1 : ({ data := #[46] } : ByteArray).size + (bs q).size ≤ 9223372036854775807 := by rw [show ({ data := #[46] } : ByteArray) = bs [46] from rfl]; simp only [bs_append, bs_size, List.length_append, List.length_cons, List.length_nil]; omega
      have z2 : (({ data := #[] } : ByteArray) ++ bs p).size + (({ data := #[46] } : ByteArray) ++ bs q).size ≤ 9223372036854775807 := by rw [show ({ data := #[46] } : ByteArray) = bs [46] from rfl, e0]; simp only [bs_append, bs_size, List.length_append, List.length_cons, List.length_nil]; omega
      have z3 : (({ data := #[] } : ByteArray) ++ bs p ++ (({ data := #[46] } : ByteArray) ++ bs q)).size + ({ data := #[101] } : ByteArray).size ≤ 9223372036854775807 := by rw [show ({ data := #[46] } : ByteArray) = bs [46] from rfl, show ({ data := #[101] } : ByteArray) = bs [101] from rfl, e0]; simp only [bs_append, bs_size, List.length_append, List.length_cons, List.length_nil]; omega
      have z4 : (({ data := #[] } : ByteArray) ++ bs p ++ (({ data := #[46] } : ByteArray) ++ bs q) ++ ({ data := #[101] } : ByteArray)).size + (bs J).size ≤ 9223372036854775807 := by rw [show ({ data := #[46] } : ByteArray) = bs [46] from rfl, show ({ data := #[101] } : ByteArray) = bs [101] from rfl, e0]; simp only [bs_append, bs_size, List.length_append, List.length_cons, List.length_nil]; omega
      clear hbp hbq hbJ l1 l2 HIL e0
      go_enter Tryz.func24, Tryz.ntmps24
      go_wp2_with fail
      refine (HI.out _ HPP.out).mono ?_
      rintro e w1 ⟨rfl, hb⟩
      have HW := Lib.hid hb
      clear hb
      go_wp2
      go_ret
      refine ⟨?_, HW.out⟩
      simp only [show ({ data := #[46] } : ByteArray) = bs [46] from rfl, show ({ data := #[101] } : ByteArray) = bs [101] from rfl, show ({ data := #[] } : ByteArray) = bs [] from rfl, bs_append]
      rw [HY.out]
      simp
    · have e0 : ({ data := #[] } : ByteArray) = bs [] := rfl
      have z0 : ({ data := #[45] } : ByteArray).size + (bs p).size ≤ 9223372036854775807 := by rw [show ({ data := #[45] } : ByteArray) = bs [45] from rfl]; simp only [bs_append, bs_size, List.length_append, List.length_cons, List.length_nil]; omega
      have z1 : ({ data := #[46] } : ByteArray).size + (bs q).size ≤ 9223372036854775807 := by rw [show ({ data := #[46] } : ByteArray) = bs [46] from rfl]; simp only [bs_append, bs_size, List.length_append, List.length_cons, List.length_nil]; omega
      have z2 : (({ data := #[45] } : ByteArray) ++ bs p).size + (({ data := #[46] } : ByteArray) ++ bs q).size ≤ 9223372036854775807 := by rw [show ({ data := #[45] } : ByteArray) = bs [45] from rfl, show ({ data := #[46] } : ByteArray) = bs [46] from rfl]; simp only [bs_append, bs_size, List.length_append, List.length_cons, List.length_nil]; omega
      have z3 : (({ data := #[45] } : ByteArray) ++ bs p ++ (({ data := #[46] } : ByteArray) ++ bs q)).size + ({ data := #[101] } : ByteArray).size ≤ 9223372036854775807 := by rw [show ({ data := #[45] } : ByteArray) = bs [45] from rfl, show ({ data := #[46] } : ByteArray) = bs [46] from rfl, show ({ data := #[101] } : ByteArray) = bs [101] from rfl]; simp only [bs_append, bs_size, List.length_append, List.length_cons, List.length_nil]; omega
      have z4 : (({ data := #[45] } : ByteArray) ++ bs p ++ (({ data := #[46] } : ByteArray) ++ bs q) ++ ({ data := #[101] } : ByteArray)).size + (bs J).size ≤ 9223372036854775807 := by rw [show ({ data := #[45] } : ByteArray) = bs [45] from rfl, show ({ data := #[46] } : ByteArray) = bs [46] from rfl, show ({ data := #[101] } : ByteArray) = bs [101] from rfl]; simp only [bs_append, bs_size, List.length_append, List.length_cons, List.length_nil]; omega
      clear hbp hbq hbJ l1 l2 HIL e0
      go_enter Tryz.func24, Tryz.ntmps24
      go_wp2_with fail
      refine (HI.out _ HPP.out).mono ?_
      rintro e w1 ⟨rfl, hb⟩
      have HW := Lib.hid hb
      clear hb
      go_wp2
      go_ret
      refine ⟨?_, HW.out⟩
      simp only [show ({ data := #[45] } : ByteArray) = bs [45] from rfl, show ({ data := #[46] } : ByteArray) = bs [46] from rfl, show ({ data := #[101] } : ByteArray) = bs [101] from rfl, bs_append]
      rw [HY.out]
      simp
  · rw [if_neg hl] at HY
    have hlI : ¬ (1 : Int) < n := by omega
    cases neg
    · have e0 : ({ data := #[] } : ByteArray) = bs [] := rfl
      have z0 : ({ data := #[] } : ByteArray).size + (bs p).size ≤ 9223372036854775807 := by rw [e0]; simp only [bs_append, bs_size, List.length_append, List.length_cons, List.length_nil]; omega
      have z1 : (({ data := #[] } : ByteArray) ++ bs p).size + ({ data := #[101] } : ByteArray).size ≤ 9223372036854775807 := by rw [show ({ data := #[101] } : ByteArray) = bs [101] from rfl, e0]; simp only [bs_append, bs_size, List.length_append, List.length_cons, List.length_nil]; omega
      have z2 : (({ data := #[] } : ByteArray) ++ bs p ++ ({ data := #[101] } : ByteArray)).size + (bs J).size ≤ 9223372036854775807 := by rw [show ({ data := #[101] } : ByteArray) = bs [101] from rfl, e0]; simp only [bs_append, bs_size, List.length_append, List.length_cons, List.length_nil]; omega
      clear hbp hbq hbJ l1 l2 HIL e0
      go_enter Tryz.func24, Tryz.ntmps24
      go_wp2_with fail
      refine (HI.out _ HPP.out).mono ?_
      rintro e w1 ⟨rfl, hb⟩
      have HW := Lib.hid hb
      clear hb
      go_wp2
      go_ret
      refine ⟨?_, HW.out⟩
      simp only [show ({ data := #[101] } : ByteArray) = bs [101] from rfl, show ({ data := #[] } : ByteArray) = bs [] from rfl, bs_append]
      rw [HY.out]
      simp
    · have e0 : ({ data := #[] } : ByteArray) = bs [] := rfl
      have z0 : ({ data := #[45] } : ByteArray).size + (bs p).size ≤ 9223372036854775807 := by rw [show ({ data := #[45] } : ByteArray) = bs [45] from rfl]; simp only [bs_append, bs_size, List.length_append, List.length_cons, List.length_nil]; omega
      have z1 : (({ data := #[45] } : ByteArray) ++ bs p).size + ({ data := #[101] } : ByteArray).size ≤ 9223372036854775807 := by rw [show ({ data := #[45] } : ByteArray) = bs [45] from rfl, show ({ data := #[101] } : ByteArray) = bs [101] from rfl]; simp only [bs_append, bs_size, List.length_append, List.length_cons, List.length_nil]; omega
      have z2 : (({ data := #[45] } : ByteArray) ++ bs p ++ ({ data := #[101] } : ByteArray)).size + (bs J).size ≤ 9223372036854775807 := by rw [show ({ data := #[45] } : ByteArray) = bs [45] from rfl, show ({ data := #[101] } : ByteArray) = bs [101] from rfl]; simp only [bs_append, bs_size, List.length_append, List.length_cons, List.length_nil]; omega
      clear hbp hbq hbJ l1 l2 HIL e0
      go_enter Tryz.func24, Tryz.ntmps24
      go_wp2_with fail
      refine (HI.out _ HPP.out).mono ?_
      rintro e w1 ⟨rfl, hb⟩
      have HW := Lib.hid hb
      clear hb
      go_wp2
      go_ret
      refine ⟨?_, HW.out⟩
      simp only [show ({ data := #[45] } : ByteArray) = bs [45] from rfl, show ({ data := #[101] } : ByteArray) = bs [101] from rfl, bs_append]
      rw [HY.out]
      simp
end Go.Proofs.YtcomkgmonhidhaaGreatDoor
end

section
namespace Go.Proofs.YtcomkgmonhidhaaGreatDoor
set_option linter.unusedVariables false
set_option linter.unusedSimpArgs false
open Go.RowKit Verge

theorem fin2_any (b : Nat) (hb : b < 18446744073709551616) (w : World) : Calls Tryz.prog 37 #[.int .u64 (b : Int)] w fun e w' => e = .returned (.bool (!fwrong b)) ∧ w = w' := by
  have e1 : Go.bits .and .u64 ((b / 4503599627370496 : Nat) : Int) 2047 = ((b % 9223372036854775808 / 4503599627370496 : Nat) : Int) := by
    have := Go.u64_and_nat (b / 4503599627370496) 2047 (by omega) (by omega)
    rw [show (2047 : Nat) = 2 ^ 11 - 1 from rfl, Nat.and_two_pow_sub_one_eq_mod] at this
    have h2 : b / 4503599627370496 % 2 ^ 11 = b % 9223372036854775808 / 4503599627370496 := by omega
    rw [h2] at this
    exact this
  have e1 : Go.bits .and .u64 ((b : Int) / 4503599627370496) 2047 = ((b % 9223372036854775808 / 4503599627370496 : Nat) : Int) := by
    rw [← e1]; congr 1
  obtain ⟨Q, hQ⟩ : ∃ Q : Nat, b % 9223372036854775808 / 4503599627370496 = Q := ⟨_, rfl⟩
  have hf : fwrong b = decide (Q = 2047) := by
    unfold fwrong fabs
    exact decide_eq_decide.2 (by omega)
  rw [hQ] at e1
  have hbI : (0 : Int) ≤ b := by omega
  rw [hf]
  obtain ⟨BI, hBI⟩ : ∃ BI : Int, (b : Int) = BI := ⟨_, rfl⟩
  rw [hBI] at e1 hbI ⊢
  clear hf hQ hb hBI
  by_cases h : Q = 2047
  · subst h
    go_enter Tryz.func37, Tryz.ntmps37
    go_wp2
    go_ret
    exact ⟨rfl, rfl⟩
  · have h1 : ¬ (Q : Int) = 2047 := by omega
    rw [decide_eq_false h]
    go_enter Tryz.func37, Tryz.ntmps37
    go_wp2
    go_ret
    rw [show ((Q : Int) != 2047) = true by simpa using h1]
    exact ⟨rfl, rfl⟩
theorem neg3_any (b : Nat) (hb : b < 18446744073709551616) (w : World) : Calls Tryz.prog 72 #[.int .u64 (b : Int)] w fun e w' => e = .returned (.bool (decide (9223372036854775808 < b))) ∧ w = w' := by
  obtain ⟨s, hs⟩ : ∃ s, decide (9223372036854775808 < b) = s := ⟨_, rfl⟩
  rw [hs]
  cases s
  · have h1 : ¬ (9223372036854775808 : Int) < b := by have := of_decide_eq_false hs; omega
    clear hs
    go_enter Tryz.func72, Tryz.ntmps72
    go_wp2
    go_ret
    exact ⟨rfl, rfl⟩
  · have h1 : (9223372036854775808 : Int) < b := by have := of_decide_eq_true hs; omega
    clear hs
    go_enter Tryz.func72, Tryz.ntmps72
    go_wp2
    go_ret
    exact ⟨rfl, rfl⟩
theorem fbF_abs (b : Nat) : fbF (b % 9223372036854775808) = fbF b := by
  unfold fbF
  rw [Nat.mod_mod, show b % 9223372036854775808 % 4503599627370496 = b % 4503599627370496 by omega]
theorem fbE_abs (b : Nat) : fbE (b % 9223372036854775808) = fbE b := by unfold fbE; rw [Nat.mod_mod]
def SizeP (w : World) (b : Nat) (e : Ending) (w' : World) : Prop :=
  ∃ A1 c1 A2 c2, e = .returned (.tuple #[.agg #[.bool false, .slice A1 (dig (fbN b)).length c1, .slice A2 (dig (fbD b)).length c2], .bool (decide (9223372036854775808 < b))]) ∧ Rd w' A1 (dig (fbN b)) ∧ Rd w' A2 (dig (fbD b)) ∧ Below w.heap.size w w'
theorem size5_any (b : Nat) (hb : b < 18446744073709551616) (w : World) : Calls Tryz.prog 38 #[.int .u64 (b : Int)] w (SizeP w b) := by
  have hc : bits .andNot .u64 (b : Int) 9223372036854775808 = ((b % 9223372036854775808 : Nat) : Int) := by
    have := Go.u64_andNot_nat b 9223372036854775808 hb (by omega)
    rw [andNot_sign b hb] at this
    exact this
  obtain ⟨x, hx⟩ : ∃ x, b % 9223372036854775808 = x := ⟨_, rfl⟩
  have H1 := Lib.hid (fun W => rbits_any x (by omega) W)
  have eN : fbN x = fbN b := by unfold fbN; rw [← hx, fbF_abs, fbE_abs]
  have eD : fbD x = fbD b := by unfold fbD; rw [← hx, fbF_abs, fbE_abs]
  have es : decide (9223372036854775808 < x) = false := decide_eq_false (by omega)
  rw [eN, eD, es] at H1
  rw [hx] at hc
  have H2 := Lib.hid (fun W => neg3_any b hb W)
  unfold SizeP
  obtain ⟨s, hs⟩ : ∃ s, decide (9223372036854775808 < b) = s := ⟨_, rfl⟩
  rw [hs] at H2 ⊢
  generalize fbN b = N at *
  generalize fbD b = D at *
  have HB0 := Lib.hid (rnew w ratO)
  clear hs hb hx es eN eD
  go_enter Tryz.func38, Tryz.ntmps38
  go_wp2_with fail
  refine (H1.out _).mono ?_
  rintro e w1 ⟨A1, c1, A2, c2, rfl, hR1, hR2, hb⟩
  have HB := Lib.hid ((Box.new w).later hb)
  have HW := Lib.hid (raft HB0.out hb)
  have HR1 := Lib.hid (hR1.put3 HB.out (.bool false) (.slice A1 (dig N).length c1) (.slice A2 (dig D).length c2))
  have HR2 := Lib.hid (hR2.put3 HB.out (.bool false) (.slice A1 (dig N).length c1) (.slice A2 (dig D).length c2))
  clear hR1 hR2 hb
  go_wp2_with fail
  refine (H2.out _).mono ?_
  rintro e w2 ⟨rfl, rfl⟩
  obtain ⟨b0, b1, b2, f0, f1, f2⟩ := HB.out.cells
  have hz := HB.out.lt
  go_wp2
  refine bodyPost_ret (v := .tuple #[.agg #[.bool false, .slice A1 (dig N).length c1, .slice A2 (dig D).length c2], .bool s]) (by simp [results, Tryz.results38, go_sem, b0, b1, b2, hz]) rfl ?_
  exact ⟨A1, c1, A2, c2, rfl, HR1.out, HR2.out, put3_below HW.out (Nat.le_refl _) _ _ _⟩
theorem dig_shl_len (a u : Nat) : (dig (a * 2 ^ u)).length ≤ (dig a).length + u / 32 + 1 := by
  rw [dig_length_le]
  have h : a < 4294967296 ^ (dig a).length := dig_length_le.1 (Nat.le_refl _)
  have h1 : a * 2 ^ u < 4294967296 ^ (dig a).length * 2 ^ u := Nat.mul_lt_mul_of_pos_right h (Nat.two_pow_pos _)
  refine Nat.lt_of_lt_of_le h1 ?_
  rw [Nat.add_assoc, Nat.pow_add]
  refine Nat.mul_le_mul_left _ ?_
  rw [show (4294967296 : Nat) = 2 ^ 32 from rfl, ← Nat.pow_mul]
  exact Nat.pow_le_pow_right (by omega) (by omega)
theorem fbE_le (b : Nat) : fbE b ≤ 2047 := by unfold fbE; omega
theorem fbN_len (b : Nat) : (dig (fbN b)).length ≤ 100 := by
  unfold fbN fracN
  by_cases h0 : fbF b = 0
  · rw [if_pos h0, dig_zero]; simp
  · rw [if_neg h0]
    have h1 := dig_shl_len (fbF b / 2 ^ ntz (fbF b)) (fracE (fbF b) 1 ((fbE b : Int) - 1074)).toNat
    have h2 : (dig (fbF b / 2 ^ ntz (fbF b))).length ≤ 2 := by
      have := dig_length_mono (Nat.div_le_self (fbF b) (2 ^ ntz (fbF b)))
      have : (dig (fbF b)).length ≤ 2 := dig_length_le.2 (by have := fbF_lt b; omega)
      omega
    have h3 : (fracE (fbF b) 1 ((fbE b : Int) - 1074)).toNat ≤ 2047 + 96 := by
      have h4 := ntz_words_le (fbF b)
      have : (dig (fbF b)).length ≤ 2 := dig_length_le.2 (by have := fbF_lt b; omega)
      have := fbE_le b
      unfold fracE
      omega
    omega
theorem fbD_len (b : Nat) : (dig (fbD b)).length ≤ 100 := by
  unfold fbD fracD
  by_cases h0 : fbF b = 0
  · rw [if_pos h0, dig_one]; simp
  · rw [if_neg h0]
    have n1 : ntz 1 = 0 := ntz_of 1 0 0 (by simp)
    have h1 := dig_shl_len (1 / 2 ^ ntz 1) (-(fracE (fbF b) 1 ((fbE b : Int) - 1074))).toNat
    have h2 : (dig (1 / 2 ^ ntz 1)).length ≤ 1 := by rw [n1]; simp [dig_one]
    have h3 : (-(fracE (fbF b) 1 ((fbE b : Int) - 1074))).toNat ≤ 1074 := by
      unfold fracE
      rw [n1]
      omega
    omega
end Go.Proofs.YtcomkgmonhidhaaGreatDoor
end
