/- Layer 5: DigitsAround answers true. -/
import Derived.Test.YtiadjcilfljdaaaGreatDoorG41
namespace Go.Proofs.YtiadjcilfljdaaaGreatDoor
set_option linter.unusedVariables false
set_option linter.unusedSimpArgs false
open Go.RowKit Verge

theorem bs_lists {l k : List UInt8} (h : l ≠ k) : (bs l).toList ≠ (bs k).toList := by
  rw [ByteArray.toList_eq, ByteArray.toList_eq, bs_list, bs_list]; exact h
set_option maxRecDepth 100000 in
set_option maxHeartbeats 4000000 in
theorem around_zero (x : Nat) (n : Int) (m : Nat) (hx : x < 18446744073709551616) (m1 : 1 ≤ m) (m2 : m ≤ 1100) (hm : (decide (n < 1) = true ∧ m = 5) ∨ (decide (n < 1) = false ∧ decide (1100 < n) = true ∧ m = 5) ∨ (decide (n < 1) = false ∧ decide (1100 < n) = false ∧ n = (m : Int))) (h0 : fbF (y5 x) = 0) (w : World) (hP : Pow10 w) : Calls Tryz.prog 6 #[.int .u64 (x : Int), .int .i64 n] w fun e w' => e = .returned (.bool true) ∧ Below w.heap.size w w' := by
  obtain ⟨y1, y2⟩ := y5_ok x hx
  have hz := fbF_zero' y1 h0
  have HN := Lib.hid (fun W => num5_any x hx W)
  have e0 : exT (y5 x) = [48, 101, 48] := by unfold exT; rw [if_neg (by rw [y2]; simp), if_pos h0]
  have ec : exC (y5 x) = 0 := by unfold exC; rw [if_neg (by rw [y2]; simp)]
  have he := fun W (hW : Pow10 W) => exP (y5 x) y1 W hW
  rw [e0, ec] at he
  have hp := fun d W (hW : Pow10 W) => print_zero d (y5 x) m y1 m1 m2 hz W hW
  obtain ⟨z1, z2, z3⟩ := zero_scn m1 m2
  obtain ⟨t, ht⟩ : ∃ t, ftext false (List.replicate m 48) (1 - (m : Int)) = t := ⟨_, rfl⟩
  rw [ht] at z1 z2 z3 hp
  have o1 := fun W => order_any t [48, 101, 48] (by omega) (by decide) W
  have o2 := fun W => order_any [48, 101, 48] t (by decide) (by omega) W
  rw [z1] at o1
  rw [z2] at o2
  simp only [if_true] at o1 o2
  have HE := Lib.hid he
  have HO1 := Lib.hid o1
  have HO2 := Lib.hid o2
  have HPm := Lib.hid (fun W hW => hp (-1) W hW)
  have HP1 := Lib.hid (fun W hW => hp 1 W hW)
  have HP0 := Lib.hid (fun W hW => hp 0 W hW)
  have HF := Lib.hid (fun W => fl5_any' (y5 x) y1 W)
  have HL := Lib.hid (fun W (hP : Pow10 W) => lives_any W hP)
  have HPP := Lib.hid hP
  have HB := Lib.hid (Below.refl w.heap.size w)
  have hand : bits .andNot .u64 ((y5 x : Nat) : Int) 9223372036854775808 = 0 := by
    rcases hz with h | h <;> rw [h] <;> decide
  clear he hp o1 o2 z1 z2 z3 ht e0 ec h0 hz y1 y2 hx hP
  generalize bs t = T at *
  generalize bs [48, 101, 48] = E0 at *
  generalize y5 x = y at *
  rcases hm with ⟨g1, rfl⟩ | ⟨g1, g2, rfl⟩ | ⟨g1, g2, rfl⟩
  · go_enter Tryz.func6, Tryz.ntmps6
    go_wp2_with fail
    refine (HN.out _).mono ?_
    rintro en wn ⟨rfl, rfl⟩
    go_wp2_with fail
    refine (HF.out _).mono ?_
    rintro en wn ⟨rfl, rfl⟩
    go_wp2_with fail
    refine (HE.out _ (HPP.out.below HB.out)).mono ?_
    rintro en wn ⟨rfl, hbn⟩
    have HB := Lib.hid (raft HB.out hbn)
    clear hbn
    go_wp2_with fail
    refine (HF.out _).mono ?_
    rintro en wn ⟨rfl, rfl⟩
    go_wp2_with fail
    refine (HPm.out _ (HPP.out.below HB.out)).mono ?_
    rintro en wn ⟨rfl, hbn⟩
    have HB := Lib.hid (raft HB.out hbn)
    clear hbn
    go_wp2_with fail
    refine (HF.out _).mono ?_
    rintro en wn ⟨rfl, rfl⟩
    go_wp2_with fail
    refine (HP1.out _ (HPP.out.below HB.out)).mono ?_
    rintro en wn ⟨rfl, hbn⟩
    have HB := Lib.hid (raft HB.out hbn)
    clear hbn
    go_wp2_with fail
    refine (HF.out _).mono ?_
    rintro en wn ⟨rfl, rfl⟩
    go_wp2_with fail
    refine (HP0.out _ (HPP.out.below HB.out)).mono ?_
    rintro en wn ⟨rfl, hbn⟩
    have HB := Lib.hid (raft HB.out hbn)
    clear hbn
    go_wp2_with fail
    refine (HL.out _ (HPP.out.below HB.out)).mono ?_
    rintro en wn ⟨rfl, hbn⟩
    have HB := Lib.hid (raft HB.out hbn)
    clear hbn
    go_wp2_with fail
    refine (HO1.out _).mono ?_
    rintro en wn ⟨vn, rfl, rfl, hbn⟩
    have HB := Lib.hid (raft HB.out hbn)
    clear hbn
    go_wp2_with fail
    refine (HO2.out _).mono ?_
    rintro en wn ⟨vn, rfl, rfl, hbn⟩
    have HB := Lib.hid (raft HB.out hbn)
    clear hbn
    go_wp2
    go_ret
    exact ⟨rfl, HB.out⟩
  · go_enter Tryz.func6, Tryz.ntmps6
    go_wp2_with fail
    refine (HN.out _).mono ?_
    rintro en wn ⟨rfl, rfl⟩
    go_wp2_with fail
    refine (HF.out _).mono ?_
    rintro en wn ⟨rfl, rfl⟩
    go_wp2_with fail
    refine (HE.out _ (HPP.out.below HB.out)).mono ?_
    rintro en wn ⟨rfl, hbn⟩
    have HB := Lib.hid (raft HB.out hbn)
    clear hbn
    go_wp2_with fail
    refine (HF.out _).mono ?_
    rintro en wn ⟨rfl, rfl⟩
    go_wp2_with fail
    refine (HPm.out _ (HPP.out.below HB.out)).mono ?_
    rintro en wn ⟨rfl, hbn⟩
    have HB := Lib.hid (raft HB.out hbn)
    clear hbn
    go_wp2_with fail
    refine (HF.out _).mono ?_
    rintro en wn ⟨rfl, rfl⟩
    go_wp2_with fail
    refine (HP1.out _ (HPP.out.below HB.out)).mono ?_
    rintro en wn ⟨rfl, hbn⟩
    have HB := Lib.hid (raft HB.out hbn)
    clear hbn
    go_wp2_with fail
    refine (HF.out _).mono ?_
    rintro en wn ⟨rfl, rfl⟩
    go_wp2_with fail
    refine (HP0.out _ (HPP.out.below HB.out)).mono ?_
    rintro en wn ⟨rfl, hbn⟩
    have HB := Lib.hid (raft HB.out hbn)
    clear hbn
    go_wp2_with fail
    refine (HL.out _ (HPP.out.below HB.out)).mono ?_
    rintro en wn ⟨rfl, hbn⟩
    have HB := Lib.hid (raft HB.out hbn)
    clear hbn
    go_wp2_with fail
    refine (HO1.out _).mono ?_
    rintro en wn ⟨vn, rfl, rfl, hbn⟩
    have HB := Lib.hid (raft HB.out hbn)
    clear hbn
    go_wp2_with fail
    refine (HO2.out _).mono ?_
    rintro en wn ⟨vn, rfl, rfl, hbn⟩
    have HB := Lib.hid (raft HB.out hbn)
    clear hbn
    go_wp2
    go_ret
    exact ⟨rfl, HB.out⟩
  · go_enter Tryz.func6, Tryz.ntmps6
    go_wp2_with fail
    refine (HN.out _).mono ?_
    rintro en wn ⟨rfl, rfl⟩
    go_wp2_with fail
    refine (HF.out _).mono ?_
    rintro en wn ⟨rfl, rfl⟩
    go_wp2_with fail
    refine (HE.out _ (HPP.out.below HB.out)).mono ?_
    rintro en wn ⟨rfl, hbn⟩
    have HB := Lib.hid (raft HB.out hbn)
    clear hbn
    go_wp2_with fail
    refine (HF.out _).mono ?_
    rintro en wn ⟨rfl, rfl⟩
    go_wp2_with fail
    refine (HPm.out _ (HPP.out.below HB.out)).mono ?_
    rintro en wn ⟨rfl, hbn⟩
    have HB := Lib.hid (raft HB.out hbn)
    clear hbn
    go_wp2_with fail
    refine (HF.out _).mono ?_
    rintro en wn ⟨rfl, rfl⟩
    go_wp2_with fail
    refine (HP1.out _ (HPP.out.below HB.out)).mono ?_
    rintro en wn ⟨rfl, hbn⟩
    have HB := Lib.hid (raft HB.out hbn)
    clear hbn
    go_wp2_with fail
    refine (HF.out _).mono ?_
    rintro en wn ⟨rfl, rfl⟩
    go_wp2_with fail
    refine (HP0.out _ (HPP.out.below HB.out)).mono ?_
    rintro en wn ⟨rfl, hbn⟩
    have HB := Lib.hid (raft HB.out hbn)
    clear hbn
    go_wp2_with fail
    refine (HL.out _ (HPP.out.below HB.out)).mono ?_
    rintro en wn ⟨rfl, hbn⟩
    have HB := Lib.hid (raft HB.out hbn)
    clear hbn
    go_wp2_with fail
    refine (HO1.out _).mono ?_
    rintro en wn ⟨vn, rfl, rfl, hbn⟩
    have HB := Lib.hid (raft HB.out hbn)
    clear hbn
    go_wp2_with fail
    refine (HO2.out _).mono ?_
    rintro en wn ⟨vn, rfl, rfl, hbn⟩
    have HB := Lib.hid (raft HB.out hbn)
    clear hbn
    go_wp2
    go_ret
    exact ⟨rfl, HB.out⟩
set_option maxRecDepth 100000 in
set_option maxHeartbeats 16000000 in
theorem around_num (x : Nat) (n : Int) (m : Nat) (hx : x < 18446744073709551616) (m1 : 1 ≤ m) (m2 : m ≤ 1100) (hm : (decide (n < 1) = true ∧ m = 5) ∨ (decide (n < 1) = false ∧ decide (1100 < n) = true ∧ m = 5) ∨ (decide (n < 1) = false ∧ decide (1100 < n) = false ∧ n = (m : Int))) (h0 : fbF (y5 x) ≠ 0) (w : World) (hP : Pow10 w) : Calls Tryz.prog 6 #[.int .u64 (x : Int), .int .i64 n] w fun e w' => e = .returned (.bool true) ∧ Below w.heap.size w w' := by
  obtain ⟨y1, y2⟩ := y5_ok x hx
  have HN := Lib.hid (fun W => num5_any x hx W)
  have ec : exC (y5 x) = 0 := by unfold exC; rw [if_neg (by rw [y2]; simp)]
  have he := fun W (hW : Pow10 W) => exP (y5 x) y1 W hW
  rw [ec] at he
  obtain ⟨n1, n2, n3, n4, n5⟩ := fneg_ok y1 y2
  have hneg := fun w => run_neg_f (y5 x) y1 w
  have HE := Lib.hid he
  have HF := Lib.hid (fun W => fl5_any' (y5 x) y1 W)
  have hand0 : y5 x % 9223372036854775808 ≠ 0 := by
    intro h
    refine h0 ?_
    unfold fbF
    rw [h, if_pos (by omega)]; omega
  have hand : bits .andNot .u64 ((y5 x : Nat) : Int) 9223372036854775808 = ((y5 x % 9223372036854775808 : Nat) : Int) := by
    have := Go.u64_andNot_nat (y5 x) 9223372036854775808 y1 (by omega)
    rw [andNot_sign (y5 x) y1] at this
    exact this
  clear he ec hx
  generalize y5 x = y at *
  obtain ⟨N, hN⟩ : ∃ N, N = fbF y * 2 ^ ((fbE y : Int) - 1074).toNat := ⟨_, rfl⟩
  obtain ⟨D, hD⟩ : ∃ D, D = 2 ^ (-((fbE y : Int) - 1074)).toNat := ⟨_, rfl⟩
  have hD0 : 0 < D := by rw [hD]; exact Nat.two_pow_pos _
  obtain ⟨s, hs⟩ : ∃ s, decide (9223372036854775808 ≤ y) = s := ⟨_, rfl⟩
  have hp := fun d W (hW : Pow10 W) => print_num d y m y1 m1 m2 y2 h0 N D hN hD W hW
  have hpn := fun W (hW : Pow10 W) => print_num 1 (fneg y) m n1 m1 m2 n2 (by rw [n3]; exact h0) N D (by rw [n3, n4]; exact hN) (by rw [n4]; exact hD) W hW
  rw [hs] at hp
  rw [n5, hs] at hpn
  have HKQ := Lib.hid (fun K L (h : dcnt (qat N D K) = m) (h' : dcnt (qat N D L) = m) => qat_one hD0 (by omega) h h')
  have HLAW := Lib.hid (fun K k1 k2 h => ard_law y y1 y2 h0 m m1 m2 N D hN hD K k1 k2 h s hs)
  have hlen : (exT y).length ≤ 140737488355328 := by
    obtain ⟨P, Q, e, _⟩ := ex_scn y y1 y2 (by rintro rfl; exact h0 (by decide))
    have := scn_len e
    omega
  have hlp : ∀ d K, -1600 ≤ K → K ≤ 1000 → dcnt (qat N D K) = m → (prT d s N D K m).length ≤ 140737488355328 := by
    intro d K k1 k2 h
    obtain ⟨P, Q, e, _⟩ := prT_scn (d := d) (s := s) h m1 m2 k1 k2
    have := scn_len e
    omega
  have HOR := Lib.hid (fun K k1 k2 h => And.intro (fun W => order_any (prT (-1) s N D K m) (exT y) (hlp (-1) K k1 k2 h) hlen W) (fun W => order_any (exT y) (prT 1 s N D K m) hlen (hlp 1 K k1 k2 h) W))
  have HPm := Lib.hid (fun W hW => hp (-1) W hW)
  have HP1 := Lib.hid (fun W hW => hp 1 W hW)
  have HP0 := Lib.hid (fun W hW => hp 0 W hW)
  have HPN := Lib.hid hpn
  have HL := Lib.hid (fun W (hP : Pow10 W) => lives_any W hP)
  have HPP := Lib.hid hP
  have HB := Lib.hid (Below.refl w.heap.size w)
  have hq0 : (((y % 9223372036854775808 : Nat) : Int) == 0) = false := beq_eq_false_iff_ne.2 (by omega)
  obtain ⟨r, hr⟩ : ∃ r, y % 9223372036854775808 = r := ⟨_, rfl⟩
  rw [hr] at hand hq0
  have hge : decide ((9223372036854775808 : Int) ≤ (y : Int)) = s := by rw [← hs]; exact decide_eq_decide.2 (by omega)
  clear hp hpn hlen hN hD hD0 hs n1 n2 n3 n4 n5 h0 hP y1 y2 hand0 hr
  cases s
  · have HNEG := Lib.hid (fun K k1 k2 h => show ({ data := #[45] } : ByteArray) ++ bs (prT (-1) false N D K m) = bs (prT 1 true N D K m) ∧ ¬ (9223372036854775807 < 1 + (bs (prT (-1) false N D K m)).size) by
      have := hlp (-1) K k1 k2 h
      rw [bs_size]
      exact ⟨by rw [(ard_neg N D K m).2]; exact bs_append [45] _, by omega⟩)
    clear hlp
    simp only [Bool.not_false] at HPN
    rcases hm with ⟨g1, rfl⟩ | ⟨g1, g2, rfl⟩ | ⟨g1, g2, rfl⟩
    · go_enter Tryz.func6, Tryz.ntmps6
      go_wp2_with fail
      refine (HN.out _).mono ?_
      rintro en wn ⟨rfl, rfl⟩
      go_wp2_with fail
      refine (HF.out _).mono ?_
      rintro en wn ⟨rfl, rfl⟩
      go_wp2_with fail
      refine (HE.out _ (HPP.out.below HB.out)).mono ?_
      rintro en wn ⟨rfl, hbn⟩
      have HB := Lib.hid (raft HB.out hbn)
      clear hbn
      go_wp2_with fail
      refine (HF.out _).mono ?_
      rintro en wn ⟨rfl, rfl⟩
      go_wp2_with fail
      refine (HPm.out _ (HPP.out.below HB.out)).mono ?_
      rintro en wn ⟨K, u1, u2, u3, rfl, hbn⟩
      have HK := Lib.hid (And.intro u1 (And.intro u2 u3))
      have HB := Lib.hid (raft HB.out hbn)
      clear hbn u1 u2 u3
      go_wp2_with fail
      refine (HF.out _).mono ?_
      rintro en wn ⟨rfl, rfl⟩
      go_wp2_with fail
      refine (HP1.out _ (HPP.out.below HB.out)).mono ?_
      rintro en wn ⟨K2, u1, u2, u3, rfl, hbn⟩
      obtain rfl : K = K2 := HKQ.out _ _ HK.out.2.2 u3
      have HB := Lib.hid (raft HB.out hbn)
      clear hbn u1 u2 u3
      go_wp2_with fail
      refine (HF.out _).mono ?_
      rintro en wn ⟨rfl, rfl⟩
      go_wp2_with fail
      refine (HP0.out _ (HPP.out.below HB.out)).mono ?_
      rintro en wn ⟨K3, u1, u2, u3, rfl, hbn⟩
      obtain rfl : K = K3 := HKQ.out _ _ HK.out.2.2 u3
      have HB := Lib.hid (raft HB.out hbn)
      clear hbn u1 u2 u3
      have HA := Lib.hid (HLAW.out K HK.out.1 HK.out.2.1 HK.out.2.2)
      have HO := Lib.hid (HOR.out K HK.out.1 HK.out.2.1 HK.out.2.2)
      have HNG := Lib.hid (HNEG.out K HK.out.1 HK.out.2.1 HK.out.2.2)
      clear HLAW HOR HNEG
      generalize prT (-1) false N D K 5 = tm at *
      generalize prT 1 false N D K 5 = t1 at *
      generalize prT 0 false N D K 5 = t0 at *
      go_wp2_with fail
      refine (HL.out _ (HPP.out.below HB.out)).mono ?_
      rintro en wn ⟨rfl, hbn⟩
      have HB := Lib.hid (raft HB.out hbn)
      clear hbn
      have HO1 := Lib.hid HO.out.1
      have HO2 := Lib.hid HO.out.2
      rcases HA.out with ⟨a0, ⟨rfl, a2, a3⟩ | ⟨a1, a2, a3⟩⟩
      · obtain rfl : t0 = tm := by rcases a0 with h | h <;> exact h
        rw [a2] at HO1
        rw [a3] at HO2
        simp only [if_true] at HO1 HO2
        clear a0 a2 a3 HA HO
        go_wp2_with fail
        refine (HO1.out _).mono ?_
        rintro en wn ⟨vn, rfl, rfl, hbn⟩
        have HB := Lib.hid (raft HB.out hbn)
        clear hbn
        go_wp2_with fail
        refine (HO2.out _).mono ?_
        rintro en wn ⟨vn, rfl, rfl, hbn⟩
        have HB := Lib.hid (raft HB.out hbn)
        clear hbn
        go_wp2_with fail
        refine (HF.out _).mono ?_
        rintro en wn ⟨rfl, rfl⟩
        go_wp2_with fail
        refine (HPN.out _ (HPP.out.below HB.out)).mono ?_
        rintro en wn ⟨K4, u1, u2, u3, rfl, hbn⟩
        obtain rfl : K = K4 := HKQ.out _ _ HK.out.2.2 u3
        have HB := Lib.hid (raft HB.out hbn)
        clear hbn u1 u2 u3
        have hcat := HNG.out.1
        have hsz := HNG.out.2
        go_wp2
        go_ret
        exact ⟨by simp [hcat], HB.out⟩
      · have b1 : ((bs tm).toList == (bs t1).toList) = false := beq_eq_false_iff_ne.2 (bs_lists a1)
        have b2 : ((bs t1).toList == (bs tm).toList) = false := beq_eq_false_iff_ne.2 (bs_lists (Ne.symm a1))
        rw [a2] at HO1
        rw [a3] at HO2
        simp only [if_true] at HO1 HO2
        rcases a0 with rfl | rfl
        · clear a1 a2 a3 HA HO
          go_wp2_with fail
          refine (HO1.out _).mono ?_
          rintro en wn ⟨vn, rfl, rfl, hbn⟩
          have HB := Lib.hid (raft HB.out hbn)
          clear hbn
          go_wp2_with fail
          refine (HO2.out _).mono ?_
          rintro en wn ⟨vn, rfl, rfl, hbn⟩
          have HB := Lib.hid (raft HB.out hbn)
          clear hbn
          go_wp2_with fail
          refine (HF.out _).mono ?_
          rintro en wn ⟨rfl, rfl⟩
          go_wp2_with fail
          refine (HPN.out _ (HPP.out.below HB.out)).mono ?_
          rintro en wn ⟨K4, u1, u2, u3, rfl, hbn⟩
          obtain rfl : K = K4 := HKQ.out _ _ HK.out.2.2 u3
          have HB := Lib.hid (raft HB.out hbn)
          clear hbn u1 u2 u3
          have hcat := HNG.out.1
          have hsz := HNG.out.2
          go_wp2
          go_ret
          exact ⟨by simp [hcat], HB.out⟩
        · clear a1 a2 a3 HA HO
          go_wp2_with fail
          refine (HO1.out _).mono ?_
          rintro en wn ⟨vn, rfl, rfl, hbn⟩
          have HB := Lib.hid (raft HB.out hbn)
          clear hbn
          go_wp2_with fail
          refine (HO2.out _).mono ?_
          rintro en wn ⟨vn, rfl, rfl, hbn⟩
          have HB := Lib.hid (raft HB.out hbn)
          clear hbn
          go_wp2_with fail
          refine (HF.out _).mono ?_
          rintro en wn ⟨rfl, rfl⟩
          go_wp2_with fail
          refine (HPN.out _ (HPP.out.below HB.out)).mono ?_
          rintro en wn ⟨K4, u1, u2, u3, rfl, hbn⟩
          obtain rfl : K = K4 := HKQ.out _ _ HK.out.2.2 u3
          have HB := Lib.hid (raft HB.out hbn)
          clear hbn u1 u2 u3
          have hcat := HNG.out.1
          have hsz := HNG.out.2
          go_wp2
          go_ret
          exact ⟨by simp [hcat], HB.out⟩
    · go_enter Tryz.func6, Tryz.ntmps6
      go_wp2_with fail
      refine (HN.out _).mono ?_
      rintro en wn ⟨rfl, rfl⟩
      go_wp2_with fail
      refine (HF.out _).mono ?_
      rintro en wn ⟨rfl, rfl⟩
      go_wp2_with fail
      refine (HE.out _ (HPP.out.below HB.out)).mono ?_
      rintro en wn ⟨rfl, hbn⟩
      have HB := Lib.hid (raft HB.out hbn)
      clear hbn
      go_wp2_with fail
      refine (HF.out _).mono ?_
      rintro en wn ⟨rfl, rfl⟩
      go_wp2_with fail
      refine (HPm.out _ (HPP.out.below HB.out)).mono ?_
      rintro en wn ⟨K, u1, u2, u3, rfl, hbn⟩
      have HK := Lib.hid (And.intro u1 (And.intro u2 u3))
      have HB := Lib.hid (raft HB.out hbn)
      clear hbn u1 u2 u3
      go_wp2_with fail
      refine (HF.out _).mono ?_
      rintro en wn ⟨rfl, rfl⟩
      go_wp2_with fail
      refine (HP1.out _ (HPP.out.below HB.out)).mono ?_
      rintro en wn ⟨K2, u1, u2, u3, rfl, hbn⟩
      obtain rfl : K = K2 := HKQ.out _ _ HK.out.2.2 u3
      have HB := Lib.hid (raft HB.out hbn)
      clear hbn u1 u2 u3
      go_wp2_with fail
      refine (HF.out _).mono ?_
      rintro en wn ⟨rfl, rfl⟩
      go_wp2_with fail
      refine (HP0.out _ (HPP.out.below HB.out)).mono ?_
      rintro en wn ⟨K3, u1, u2, u3, rfl, hbn⟩
      obtain rfl : K = K3 := HKQ.out _ _ HK.out.2.2 u3
      have HB := Lib.hid (raft HB.out hbn)
      clear hbn u1 u2 u3
      have HA := Lib.hid (HLAW.out K HK.out.1 HK.out.2.1 HK.out.2.2)
      have HO := Lib.hid (HOR.out K HK.out.1 HK.out.2.1 HK.out.2.2)
      have HNG := Lib.hid (HNEG.out K HK.out.1 HK.out.2.1 HK.out.2.2)
      clear HLAW HOR HNEG
      generalize prT (-1) false N D K 5 = tm at *
      generalize prT 1 false N D K 5 = t1 at *
      generalize prT 0 false N D K 5 = t0 at *
      go_wp2_with fail
      refine (HL.out _ (HPP.out.below HB.out)).mono ?_
      rintro en wn ⟨rfl, hbn⟩
      have HB := Lib.hid (raft HB.out hbn)
      clear hbn
      have HO1 := Lib.hid HO.out.1
      have HO2 := Lib.hid HO.out.2
      rcases HA.out with ⟨a0, ⟨rfl, a2, a3⟩ | ⟨a1, a2, a3⟩⟩
      · obtain rfl : t0 = tm := by rcases a0 with h | h <;> exact h
        rw [a2] at HO1
        rw [a3] at HO2
        simp only [if_true] at HO1 HO2
        clear a0 a2 a3 HA HO
        go_wp2_with fail
        refine (HO1.out _).mono ?_
        rintro en wn ⟨vn, rfl, rfl, hbn⟩
        have HB := Lib.hid (raft HB.out hbn)
        clear hbn
        go_wp2_with fail
        refine (HO2.out _).mono ?_
        rintro en wn ⟨vn, rfl, rfl, hbn⟩
        have HB := Lib.hid (raft HB.out hbn)
        clear hbn
        go_wp2_with fail
        refine (HF.out _).mono ?_
        rintro en wn ⟨rfl, rfl⟩
        go_wp2_with fail
        refine (HPN.out _ (HPP.out.below HB.out)).mono ?_
        rintro en wn ⟨K4, u1, u2, u3, rfl, hbn⟩
        obtain rfl : K = K4 := HKQ.out _ _ HK.out.2.2 u3
        have HB := Lib.hid (raft HB.out hbn)
        clear hbn u1 u2 u3
        have hcat := HNG.out.1
        have hsz := HNG.out.2
        go_wp2
        go_ret
        exact ⟨by simp [hcat], HB.out⟩
      · have b1 : ((bs tm).toList == (bs t1).toList) = false := beq_eq_false_iff_ne.2 (bs_lists a1)
        have b2 : ((bs t1).toList == (bs tm).toList) = false := beq_eq_false_iff_ne.2 (bs_lists (Ne.symm a1))
        rw [a2] at HO1
        rw [a3] at HO2
        simp only [if_true] at HO1 HO2
        rcases a0 with rfl | rfl
        · clear a1 a2 a3 HA HO
          go_wp2_with fail
          refine (HO1.out _).mono ?_
          rintro en wn ⟨vn, rfl, rfl, hbn⟩
          have HB := Lib.hid (raft HB.out hbn)
          clear hbn
          go_wp2_with fail
          refine (HO2.out _).mono ?_
          rintro en wn ⟨vn, rfl, rfl, hbn⟩
          have HB := Lib.hid (raft HB.out hbn)
          clear hbn
          go_wp2_with fail
          refine (HF.out _).mono ?_
          rintro en wn ⟨rfl, rfl⟩
          go_wp2_with fail
          refine (HPN.out _ (HPP.out.below HB.out)).mono ?_
          rintro en wn ⟨K4, u1, u2, u3, rfl, hbn⟩
          obtain rfl : K = K4 := HKQ.out _ _ HK.out.2.2 u3
          have HB := Lib.hid (raft HB.out hbn)
          clear hbn u1 u2 u3
          have hcat := HNG.out.1
          have hsz := HNG.out.2
          go_wp2
          go_ret
          exact ⟨by simp [hcat], HB.out⟩
        · clear a1 a2 a3 HA HO
          go_wp2_with fail
          refine (HO1.out _).mono ?_
          rintro en wn ⟨vn, rfl, rfl, hbn⟩
          have HB := Lib.hid (raft HB.out hbn)
          clear hbn
          go_wp2_with fail
          refine (HO2.out _).mono ?_
          rintro en wn ⟨vn, rfl, rfl, hbn⟩
          have HB := Lib.hid (raft HB.out hbn)
          clear hbn
          go_wp2_with fail
          refine (HF.out _).mono ?_
          rintro en wn ⟨rfl, rfl⟩
          go_wp2_with fail
          refine (HPN.out _ (HPP.out.below HB.out)).mono ?_
          rintro en wn ⟨K4, u1, u2, u3, rfl, hbn⟩
          obtain rfl : K = K4 := HKQ.out _ _ HK.out.2.2 u3
          have HB := Lib.hid (raft HB.out hbn)
          clear hbn u1 u2 u3
          have hcat := HNG.out.1
          have hsz := HNG.out.2
          go_wp2
          go_ret
          exact ⟨by simp [hcat], HB.out⟩
    · go_enter Tryz.func6, Tryz.ntmps6
      go_wp2_with fail
      refine (HN.out _).mono ?_
      rintro en wn ⟨rfl, rfl⟩
      go_wp2_with fail
      refine (HF.out _).mono ?_
      rintro en wn ⟨rfl, rfl⟩
      go_wp2_with fail
      refine (HE.out _ (HPP.out.below HB.out)).mono ?_
      rintro en wn ⟨rfl, hbn⟩
      have HB := Lib.hid (raft HB.out hbn)
      clear hbn
      go_wp2_with fail
      refine (HF.out _).mono ?_
      rintro en wn ⟨rfl, rfl⟩
      go_wp2_with fail
      refine (HPm.out _ (HPP.out.below HB.out)).mono ?_
      rintro en wn ⟨K, u1, u2, u3, rfl, hbn⟩
      have HK := Lib.hid (And.intro u1 (And.intro u2 u3))
      have HB := Lib.hid (raft HB.out hbn)
      clear hbn u1 u2 u3
      go_wp2_with fail
      refine (HF.out _).mono ?_
      rintro en wn ⟨rfl, rfl⟩
      go_wp2_with fail
      refine (HP1.out _ (HPP.out.below HB.out)).mono ?_
      rintro en wn ⟨K2, u1, u2, u3, rfl, hbn⟩
      obtain rfl : K = K2 := HKQ.out _ _ HK.out.2.2 u3
      have HB := Lib.hid (raft HB.out hbn)
      clear hbn u1 u2 u3
      go_wp2_with fail
      refine (HF.out _).mono ?_
      rintro en wn ⟨rfl, rfl⟩
      go_wp2_with fail
      refine (HP0.out _ (HPP.out.below HB.out)).mono ?_
      rintro en wn ⟨K3, u1, u2, u3, rfl, hbn⟩
      obtain rfl : K = K3 := HKQ.out _ _ HK.out.2.2 u3
      have HB := Lib.hid (raft HB.out hbn)
      clear hbn u1 u2 u3
      have HA := Lib.hid (HLAW.out K HK.out.1 HK.out.2.1 HK.out.2.2)
      have HO := Lib.hid (HOR.out K HK.out.1 HK.out.2.1 HK.out.2.2)
      have HNG := Lib.hid (HNEG.out K HK.out.1 HK.out.2.1 HK.out.2.2)
      clear HLAW HOR HNEG
      generalize prT (-1) false N D K m = tm at *
      generalize prT 1 false N D K m = t1 at *
      generalize prT 0 false N D K m = t0 at *
      go_wp2_with fail
      refine (HL.out _ (HPP.out.below HB.out)).mono ?_
      rintro en wn ⟨rfl, hbn⟩
      have HB := Lib.hid (raft HB.out hbn)
      clear hbn
      have HO1 := Lib.hid HO.out.1
      have HO2 := Lib.hid HO.out.2
      rcases HA.out with ⟨a0, ⟨rfl, a2, a3⟩ | ⟨a1, a2, a3⟩⟩
      · obtain rfl : t0 = tm := by rcases a0 with h | h <;> exact h
        rw [a2] at HO1
        rw [a3] at HO2
        simp only [if_true] at HO1 HO2
        clear a0 a2 a3 HA HO
        go_wp2_with fail
        refine (HO1.out _).mono ?_
        rintro en wn ⟨vn, rfl, rfl, hbn⟩
        have HB := Lib.hid (raft HB.out hbn)
        clear hbn
        go_wp2_with fail
        refine (HO2.out _).mono ?_
        rintro en wn ⟨vn, rfl, rfl, hbn⟩
        have HB := Lib.hid (raft HB.out hbn)
        clear hbn
        go_wp2_with fail
        refine (HF.out _).mono ?_
        rintro en wn ⟨rfl, rfl⟩
        go_wp2_with fail
        refine (HPN.out _ (HPP.out.below HB.out)).mono ?_
        rintro en wn ⟨K4, u1, u2, u3, rfl, hbn⟩
        obtain rfl : K = K4 := HKQ.out _ _ HK.out.2.2 u3
        have HB := Lib.hid (raft HB.out hbn)
        clear hbn u1 u2 u3
        have hcat := HNG.out.1
        have hsz := HNG.out.2
        go_wp2
        go_ret
        exact ⟨by simp [hcat], HB.out⟩
      · have b1 : ((bs tm).toList == (bs t1).toList) = false := beq_eq_false_iff_ne.2 (bs_lists a1)
        have b2 : ((bs t1).toList == (bs tm).toList) = false := beq_eq_false_iff_ne.2 (bs_lists (Ne.symm a1))
        rw [a2] at HO1
        rw [a3] at HO2
        simp only [if_true] at HO1 HO2
        rcases a0 with rfl | rfl
        · clear a1 a2 a3 HA HO
          go_wp2_with fail
          refine (HO1.out _).mono ?_
          rintro en wn ⟨vn, rfl, rfl, hbn⟩
          have HB := Lib.hid (raft HB.out hbn)
          clear hbn
          go_wp2_with fail
          refine (HO2.out _).mono ?_
          rintro en wn ⟨vn, rfl, rfl, hbn⟩
          have HB := Lib.hid (raft HB.out hbn)
          clear hbn
          go_wp2_with fail
          refine (HF.out _).mono ?_
          rintro en wn ⟨rfl, rfl⟩
          go_wp2_with fail
          refine (HPN.out _ (HPP.out.below HB.out)).mono ?_
          rintro en wn ⟨K4, u1, u2, u3, rfl, hbn⟩
          obtain rfl : K = K4 := HKQ.out _ _ HK.out.2.2 u3
          have HB := Lib.hid (raft HB.out hbn)
          clear hbn u1 u2 u3
          have hcat := HNG.out.1
          have hsz := HNG.out.2
          go_wp2
          go_ret
          exact ⟨by simp [hcat], HB.out⟩
        · clear a1 a2 a3 HA HO
          go_wp2_with fail
          refine (HO1.out _).mono ?_
          rintro en wn ⟨vn, rfl, rfl, hbn⟩
          have HB := Lib.hid (raft HB.out hbn)
          clear hbn
          go_wp2_with fail
          refine (HO2.out _).mono ?_
          rintro en wn ⟨vn, rfl, rfl, hbn⟩
          have HB := Lib.hid (raft HB.out hbn)
          clear hbn
          go_wp2_with fail
          refine (HF.out _).mono ?_
          rintro en wn ⟨rfl, rfl⟩
          go_wp2_with fail
          refine (HPN.out _ (HPP.out.below HB.out)).mono ?_
          rintro en wn ⟨K4, u1, u2, u3, rfl, hbn⟩
          obtain rfl : K = K4 := HKQ.out _ _ HK.out.2.2 u3
          have HB := Lib.hid (raft HB.out hbn)
          clear hbn u1 u2 u3
          have hcat := HNG.out.1
          have hsz := HNG.out.2
          go_wp2
          go_ret
          exact ⟨by simp [hcat], HB.out⟩
  · have HNEG := Lib.hid (fun K k1 k2 h => show ({ data := #[45] } : ByteArray) ++ bs (prT 1 false N D K m) = bs (prT (-1) true N D K m) ∧ ¬ (9223372036854775807 < 1 + (bs (prT 1 false N D K m)).size) by
      have := hlp (-1) K k1 k2 h
      rw [(ard_neg N D K m).1, List.length_cons] at this
      rw [bs_size]
      exact ⟨by rw [(ard_neg N D K m).1]; exact bs_append [45] _, by omega⟩)
    clear hlp
    simp only [Bool.not_true] at HPN
    rcases hm with ⟨g1, rfl⟩ | ⟨g1, g2, rfl⟩ | ⟨g1, g2, rfl⟩
    · go_enter Tryz.func6, Tryz.ntmps6
      go_wp2_with fail
      refine (HN.out _).mono ?_
      rintro en wn ⟨rfl, rfl⟩
      go_wp2_with fail
      refine (HF.out _).mono ?_
      rintro en wn ⟨rfl, rfl⟩
      go_wp2_with fail
      refine (HE.out _ (HPP.out.below HB.out)).mono ?_
      rintro en wn ⟨rfl, hbn⟩
      have HB := Lib.hid (raft HB.out hbn)
      clear hbn
      go_wp2_with fail
      refine (HF.out _).mono ?_
      rintro en wn ⟨rfl, rfl⟩
      go_wp2_with fail
      refine (HPm.out _ (HPP.out.below HB.out)).mono ?_
      rintro en wn ⟨K, u1, u2, u3, rfl, hbn⟩
      have HK := Lib.hid (And.intro u1 (And.intro u2 u3))
      have HB := Lib.hid (raft HB.out hbn)
      clear hbn u1 u2 u3
      go_wp2_with fail
      refine (HF.out _).mono ?_
      rintro en wn ⟨rfl, rfl⟩
      go_wp2_with fail
      refine (HP1.out _ (HPP.out.below HB.out)).mono ?_
      rintro en wn ⟨K2, u1, u2, u3, rfl, hbn⟩
      obtain rfl : K = K2 := HKQ.out _ _ HK.out.2.2 u3
      have HB := Lib.hid (raft HB.out hbn)
      clear hbn u1 u2 u3
      go_wp2_with fail
      refine (HF.out _).mono ?_
      rintro en wn ⟨rfl, rfl⟩
      go_wp2_with fail
      refine (HP0.out _ (HPP.out.below HB.out)).mono ?_
      rintro en wn ⟨K3, u1, u2, u3, rfl, hbn⟩
      obtain rfl : K = K3 := HKQ.out _ _ HK.out.2.2 u3
      have HB := Lib.hid (raft HB.out hbn)
      clear hbn u1 u2 u3
      have HA := Lib.hid (HLAW.out K HK.out.1 HK.out.2.1 HK.out.2.2)
      have HO := Lib.hid (HOR.out K HK.out.1 HK.out.2.1 HK.out.2.2)
      have HNG := Lib.hid (HNEG.out K HK.out.1 HK.out.2.1 HK.out.2.2)
      clear HLAW HOR HNEG
      generalize prT (-1) true N D K 5 = tm at *
      generalize prT 1 true N D K 5 = t1 at *
      generalize prT 0 true N D K 5 = t0 at *
      go_wp2_with fail
      refine (HL.out _ (HPP.out.below HB.out)).mono ?_
      rintro en wn ⟨rfl, hbn⟩
      have HB := Lib.hid (raft HB.out hbn)
      clear hbn
      have HO1 := Lib.hid HO.out.1
      have HO2 := Lib.hid HO.out.2
      rcases HA.out with ⟨a0, ⟨rfl, a2, a3⟩ | ⟨a1, a2, a3⟩⟩
      · obtain rfl : t0 = tm := by rcases a0 with h | h <;> exact h
        rw [a2] at HO1
        rw [a3] at HO2
        simp only [if_true] at HO1 HO2
        clear a0 a2 a3 HA HO
        go_wp2_with fail
        refine (HO1.out _).mono ?_
        rintro en wn ⟨vn, rfl, rfl, hbn⟩
        have HB := Lib.hid (raft HB.out hbn)
        clear hbn
        go_wp2_with fail
        refine (HO2.out _).mono ?_
        rintro en wn ⟨vn, rfl, rfl, hbn⟩
        have HB := Lib.hid (raft HB.out hbn)
        clear hbn
        go_wp2_with fail
        refine (HF.out _).mono ?_
        rintro en wn ⟨rfl, rfl⟩
        go_wp2_with fail
        refine (HPN.out _ (HPP.out.below HB.out)).mono ?_
        rintro en wn ⟨K4, u1, u2, u3, rfl, hbn⟩
        obtain rfl : K = K4 := HKQ.out _ _ HK.out.2.2 u3
        have HB := Lib.hid (raft HB.out hbn)
        clear hbn u1 u2 u3
        have hcat := HNG.out.1
        have hsz := HNG.out.2
        go_wp2
        go_ret
        exact ⟨by simp [hcat], HB.out⟩
      · have b1 : ((bs tm).toList == (bs t1).toList) = false := beq_eq_false_iff_ne.2 (bs_lists a1)
        have b2 : ((bs t1).toList == (bs tm).toList) = false := beq_eq_false_iff_ne.2 (bs_lists (Ne.symm a1))
        rw [a2] at HO1
        rw [a3] at HO2
        simp only [if_true] at HO1 HO2
        rcases a0 with rfl | rfl
        · clear a1 a2 a3 HA HO
          go_wp2_with fail
          refine (HO1.out _).mono ?_
          rintro en wn ⟨vn, rfl, rfl, hbn⟩
          have HB := Lib.hid (raft HB.out hbn)
          clear hbn
          go_wp2_with fail
          refine (HO2.out _).mono ?_
          rintro en wn ⟨vn, rfl, rfl, hbn⟩
          have HB := Lib.hid (raft HB.out hbn)
          clear hbn
          go_wp2_with fail
          refine (HF.out _).mono ?_
          rintro en wn ⟨rfl, rfl⟩
          go_wp2_with fail
          refine (HPN.out _ (HPP.out.below HB.out)).mono ?_
          rintro en wn ⟨K4, u1, u2, u3, rfl, hbn⟩
          obtain rfl : K = K4 := HKQ.out _ _ HK.out.2.2 u3
          have HB := Lib.hid (raft HB.out hbn)
          clear hbn u1 u2 u3
          have hcat := HNG.out.1
          have hsz := HNG.out.2
          go_wp2
          go_ret
          exact ⟨by simp [hcat], HB.out⟩
        · clear a1 a2 a3 HA HO
          go_wp2_with fail
          refine (HO1.out _).mono ?_
          rintro en wn ⟨vn, rfl, rfl, hbn⟩
          have HB := Lib.hid (raft HB.out hbn)
          clear hbn
          go_wp2_with fail
          refine (HO2.out _).mono ?_
          rintro en wn ⟨vn, rfl, rfl, hbn⟩
          have HB := Lib.hid (raft HB.out hbn)
          clear hbn
          go_wp2_with fail
          refine (HF.out _).mono ?_
          rintro en wn ⟨rfl, rfl⟩
          go_wp2_with fail
          refine (HPN.out _ (HPP.out.below HB.out)).mono ?_
          rintro en wn ⟨K4, u1, u2, u3, rfl, hbn⟩
          obtain rfl : K = K4 := HKQ.out _ _ HK.out.2.2 u3
          have HB := Lib.hid (raft HB.out hbn)
          clear hbn u1 u2 u3
          have hcat := HNG.out.1
          have hsz := HNG.out.2
          go_wp2
          go_ret
          exact ⟨by simp [hcat], HB.out⟩
    · go_enter Tryz.func6, Tryz.ntmps6
      go_wp2_with fail
      refine (HN.out _).mono ?_
      rintro en wn ⟨rfl, rfl⟩
      go_wp2_with fail
      refine (HF.out _).mono ?_
      rintro en wn ⟨rfl, rfl⟩
      go_wp2_with fail
      refine (HE.out _ (HPP.out.below HB.out)).mono ?_
      rintro en wn ⟨rfl, hbn⟩
      have HB := Lib.hid (raft HB.out hbn)
      clear hbn
      go_wp2_with fail
      refine (HF.out _).mono ?_
      rintro en wn ⟨rfl, rfl⟩
      go_wp2_with fail
      refine (HPm.out _ (HPP.out.below HB.out)).mono ?_
      rintro en wn ⟨K, u1, u2, u3, rfl, hbn⟩
      have HK := Lib.hid (And.intro u1 (And.intro u2 u3))
      have HB := Lib.hid (raft HB.out hbn)
      clear hbn u1 u2 u3
      go_wp2_with fail
      refine (HF.out _).mono ?_
      rintro en wn ⟨rfl, rfl⟩
      go_wp2_with fail
      refine (HP1.out _ (HPP.out.below HB.out)).mono ?_
      rintro en wn ⟨K2, u1, u2, u3, rfl, hbn⟩
      obtain rfl : K = K2 := HKQ.out _ _ HK.out.2.2 u3
      have HB := Lib.hid (raft HB.out hbn)
      clear hbn u1 u2 u3
      go_wp2_with fail
      refine (HF.out _).mono ?_
      rintro en wn ⟨rfl, rfl⟩
      go_wp2_with fail
      refine (HP0.out _ (HPP.out.below HB.out)).mono ?_
      rintro en wn ⟨K3, u1, u2, u3, rfl, hbn⟩
      obtain rfl : K = K3 := HKQ.out _ _ HK.out.2.2 u3
      have HB := Lib.hid (raft HB.out hbn)
      clear hbn u1 u2 u3
      have HA := Lib.hid (HLAW.out K HK.out.1 HK.out.2.1 HK.out.2.2)
      have HO := Lib.hid (HOR.out K HK.out.1 HK.out.2.1 HK.out.2.2)
      have HNG := Lib.hid (HNEG.out K HK.out.1 HK.out.2.1 HK.out.2.2)
      clear HLAW HOR HNEG
      generalize prT (-1) true N D K 5 = tm at *
      generalize prT 1 true N D K 5 = t1 at *
      generalize prT 0 true N D K 5 = t0 at *
      go_wp2_with fail
      refine (HL.out _ (HPP.out.below HB.out)).mono ?_
      rintro en wn ⟨rfl, hbn⟩
      have HB := Lib.hid (raft HB.out hbn)
      clear hbn
      have HO1 := Lib.hid HO.out.1
      have HO2 := Lib.hid HO.out.2
      rcases HA.out with ⟨a0, ⟨rfl, a2, a3⟩ | ⟨a1, a2, a3⟩⟩
      · obtain rfl : t0 = tm := by rcases a0 with h | h <;> exact h
        rw [a2] at HO1
        rw [a3] at HO2
        simp only [if_true] at HO1 HO2
        clear a0 a2 a3 HA HO
        go_wp2_with fail
        refine (HO1.out _).mono ?_
        rintro en wn ⟨vn, rfl, rfl, hbn⟩
        have HB := Lib.hid (raft HB.out hbn)
        clear hbn
        go_wp2_with fail
        refine (HO2.out _).mono ?_
        rintro en wn ⟨vn, rfl, rfl, hbn⟩
        have HB := Lib.hid (raft HB.out hbn)
        clear hbn
        go_wp2_with fail
        refine (HF.out _).mono ?_
        rintro en wn ⟨rfl, rfl⟩
        go_wp2_with fail
        refine (HPN.out _ (HPP.out.below HB.out)).mono ?_
        rintro en wn ⟨K4, u1, u2, u3, rfl, hbn⟩
        obtain rfl : K = K4 := HKQ.out _ _ HK.out.2.2 u3
        have HB := Lib.hid (raft HB.out hbn)
        clear hbn u1 u2 u3
        have hcat := HNG.out.1
        have hsz := HNG.out.2
        go_wp2
        go_ret
        exact ⟨by simp [hcat], HB.out⟩
      · have b1 : ((bs tm).toList == (bs t1).toList) = false := beq_eq_false_iff_ne.2 (bs_lists a1)
        have b2 : ((bs t1).toList == (bs tm).toList) = false := beq_eq_false_iff_ne.2 (bs_lists (Ne.symm a1))
        rw [a2] at HO1
        rw [a3] at HO2
        simp only [if_true] at HO1 HO2
        rcases a0 with rfl | rfl
        · clear a1 a2 a3 HA HO
          go_wp2_with fail
          refine (HO1.out _).mono ?_
          rintro en wn ⟨vn, rfl, rfl, hbn⟩
          have HB := Lib.hid (raft HB.out hbn)
          clear hbn
          go_wp2_with fail
          refine (HO2.out _).mono ?_
          rintro en wn ⟨vn, rfl, rfl, hbn⟩
          have HB := Lib.hid (raft HB.out hbn)
          clear hbn
          go_wp2_with fail
          refine (HF.out _).mono ?_
          rintro en wn ⟨rfl, rfl⟩
          go_wp2_with fail
          refine (HPN.out _ (HPP.out.below HB.out)).mono ?_
          rintro en wn ⟨K4, u1, u2, u3, rfl, hbn⟩
          obtain rfl : K = K4 := HKQ.out _ _ HK.out.2.2 u3
          have HB := Lib.hid (raft HB.out hbn)
          clear hbn u1 u2 u3
          have hcat := HNG.out.1
          have hsz := HNG.out.2
          go_wp2
          go_ret
          exact ⟨by simp [hcat], HB.out⟩
        · clear a1 a2 a3 HA HO
          go_wp2_with fail
          refine (HO1.out _).mono ?_
          rintro en wn ⟨vn, rfl, rfl, hbn⟩
          have HB := Lib.hid (raft HB.out hbn)
          clear hbn
          go_wp2_with fail
          refine (HO2.out _).mono ?_
          rintro en wn ⟨vn, rfl, rfl, hbn⟩
          have HB := Lib.hid (raft HB.out hbn)
          clear hbn
          go_wp2_with fail
          refine (HF.out _).mono ?_
          rintro en wn ⟨rfl, rfl⟩
          go_wp2_with fail
          refine (HPN.out _ (HPP.out.below HB.out)).mono ?_
          rintro en wn ⟨K4, u1, u2, u3, rfl, hbn⟩
          obtain rfl : K = K4 := HKQ.out _ _ HK.out.2.2 u3
          have HB := Lib.hid (raft HB.out hbn)
          clear hbn u1 u2 u3
          have hcat := HNG.out.1
          have hsz := HNG.out.2
          go_wp2
          go_ret
          exact ⟨by simp [hcat], HB.out⟩
    · go_enter Tryz.func6, Tryz.ntmps6
      go_wp2_with fail
      refine (HN.out _).mono ?_
      rintro en wn ⟨rfl, rfl⟩
      go_wp2_with fail
      refine (HF.out _).mono ?_
      rintro en wn ⟨rfl, rfl⟩
      go_wp2_with fail
      refine (HE.out _ (HPP.out.below HB.out)).mono ?_
      rintro en wn ⟨rfl, hbn⟩
      have HB := Lib.hid (raft HB.out hbn)
      clear hbn
      go_wp2_with fail
      refine (HF.out _).mono ?_
      rintro en wn ⟨rfl, rfl⟩
      go_wp2_with fail
      refine (HPm.out _ (HPP.out.below HB.out)).mono ?_
      rintro en wn ⟨K, u1, u2, u3, rfl, hbn⟩
      have HK := Lib.hid (And.intro u1 (And.intro u2 u3))
      have HB := Lib.hid (raft HB.out hbn)
      clear hbn u1 u2 u3
      go_wp2_with fail
      refine (HF.out _).mono ?_
      rintro en wn ⟨rfl, rfl⟩
      go_wp2_with fail
      refine (HP1.out _ (HPP.out.below HB.out)).mono ?_
      rintro en wn ⟨K2, u1, u2, u3, rfl, hbn⟩
      obtain rfl : K = K2 := HKQ.out _ _ HK.out.2.2 u3
      have HB := Lib.hid (raft HB.out hbn)
      clear hbn u1 u2 u3
      go_wp2_with fail
      refine (HF.out _).mono ?_
      rintro en wn ⟨rfl, rfl⟩
      go_wp2_with fail
      refine (HP0.out _ (HPP.out.below HB.out)).mono ?_
      rintro en wn ⟨K3, u1, u2, u3, rfl, hbn⟩
      obtain rfl : K = K3 := HKQ.out _ _ HK.out.2.2 u3
      have HB := Lib.hid (raft HB.out hbn)
      clear hbn u1 u2 u3
      have HA := Lib.hid (HLAW.out K HK.out.1 HK.out.2.1 HK.out.2.2)
      have HO := Lib.hid (HOR.out K HK.out.1 HK.out.2.1 HK.out.2.2)
      have HNG := Lib.hid (HNEG.out K HK.out.1 HK.out.2.1 HK.out.2.2)
      clear HLAW HOR HNEG
      generalize prT (-1) true N D K m = tm at *
      generalize prT 1 true N D K m = t1 at *
      generalize prT 0 true N D K m = t0 at *
      go_wp2_with fail
      refine (HL.out _ (HPP.out.below HB.out)).mono ?_
      rintro en wn ⟨rfl, hbn⟩
      have HB := Lib.hid (raft HB.out hbn)
      clear hbn
      have HO1 := Lib.hid HO.out.1
      have HO2 := Lib.hid HO.out.2
      rcases HA.out with ⟨a0, ⟨rfl, a2, a3⟩ | ⟨a1, a2, a3⟩⟩
      · obtain rfl : t0 = tm := by rcases a0 with h | h <;> exact h
        rw [a2] at HO1
        rw [a3] at HO2
        simp only [if_true] at HO1 HO2
        clear a0 a2 a3 HA HO
        go_wp2_with fail
        refine (HO1.out _).mono ?_
        rintro en wn ⟨vn, rfl, rfl, hbn⟩
        have HB := Lib.hid (raft HB.out hbn)
        clear hbn
        go_wp2_with fail
        refine (HO2.out _).mono ?_
        rintro en wn ⟨vn, rfl, rfl, hbn⟩
        have HB := Lib.hid (raft HB.out hbn)
        clear hbn
        go_wp2_with fail
        refine (HF.out _).mono ?_
        rintro en wn ⟨rfl, rfl⟩
        go_wp2_with fail
        refine (HPN.out _ (HPP.out.below HB.out)).mono ?_
        rintro en wn ⟨K4, u1, u2, u3, rfl, hbn⟩
        obtain rfl : K = K4 := HKQ.out _ _ HK.out.2.2 u3
        have HB := Lib.hid (raft HB.out hbn)
        clear hbn u1 u2 u3
        have hcat := HNG.out.1
        have hsz := HNG.out.2
        go_wp2
        go_ret
        exact ⟨by simp [hcat], HB.out⟩
      · have b1 : ((bs tm).toList == (bs t1).toList) = false := beq_eq_false_iff_ne.2 (bs_lists a1)
        have b2 : ((bs t1).toList == (bs tm).toList) = false := beq_eq_false_iff_ne.2 (bs_lists (Ne.symm a1))
        rw [a2] at HO1
        rw [a3] at HO2
        simp only [if_true] at HO1 HO2
        rcases a0 with rfl | rfl
        · clear a1 a2 a3 HA HO
          go_wp2_with fail
          refine (HO1.out _).mono ?_
          rintro en wn ⟨vn, rfl, rfl, hbn⟩
          have HB := Lib.hid (raft HB.out hbn)
          clear hbn
          go_wp2_with fail
          refine (HO2.out _).mono ?_
          rintro en wn ⟨vn, rfl, rfl, hbn⟩
          have HB := Lib.hid (raft HB.out hbn)
          clear hbn
          go_wp2_with fail
          refine (HF.out _).mono ?_
          rintro en wn ⟨rfl, rfl⟩
          go_wp2_with fail
          refine (HPN.out _ (HPP.out.below HB.out)).mono ?_
          rintro en wn ⟨K4, u1, u2, u3, rfl, hbn⟩
          obtain rfl : K = K4 := HKQ.out _ _ HK.out.2.2 u3
          have HB := Lib.hid (raft HB.out hbn)
          clear hbn u1 u2 u3
          have hcat := HNG.out.1
          have hsz := HNG.out.2
          go_wp2
          go_ret
          exact ⟨by simp [hcat], HB.out⟩
        · clear a1 a2 a3 HA HO
          go_wp2_with fail
          refine (HO1.out _).mono ?_
          rintro en wn ⟨vn, rfl, rfl, hbn⟩
          have HB := Lib.hid (raft HB.out hbn)
          clear hbn
          go_wp2_with fail
          refine (HO2.out _).mono ?_
          rintro en wn ⟨vn, rfl, rfl, hbn⟩
          have HB := Lib.hid (raft HB.out hbn)
          clear hbn
          go_wp2_with fail
          refine (HF.out _).mono ?_
          rintro en wn ⟨rfl, rfl⟩
          go_wp2_with fail
          refine (HPN.out _ (HPP.out.below HB.out)).mono ?_
          rintro en wn ⟨K4, u1, u2, u3, rfl, hbn⟩
          obtain rfl : K = K4 := HKQ.out _ _ HK.out.2.2 u3
          have HB := Lib.hid (raft HB.out hbn)
          clear hbn u1 u2 u3
          have hcat := HNG.out.1
          have hsz := HNG.out.2
          go_wp2
          go_ret
          exact ⟨by simp [hcat], HB.out⟩
theorem walk_around (x n : Int) (w : World) (h1 : 0 ≤ x) (h2 : x < 18446744073709551616) (n1 : -9223372036854775808 ≤ n) (n2 : n ≤ 9223372036854775807) (hP : Pow10 w) : Calls Tryz.prog 6 #[.int .u64 x, .int .i64 n] w fun e w' => e = .returned (.bool true) ∧ Below w.heap.size w w' := by
  obtain ⟨b, rfl⟩ := Int.eq_ofNat_of_zero_le h1
  have hb : b < 18446744073709551616 := by omega
  have key : ∃ m : Nat, 1 ≤ m ∧ m ≤ 1100 ∧ ((decide (n < 1) = true ∧ m = 5) ∨ (decide (n < 1) = false ∧ decide (1100 < n) = true ∧ m = 5) ∨ (decide (n < 1) = false ∧ decide (1100 < n) = false ∧ n = (m : Int))) := by
    by_cases g1 : n < 1
    · exact ⟨5, by omega, by omega, .inl ⟨decide_eq_true g1, rfl⟩⟩
    · by_cases g2 : 1100 < n
      · exact ⟨5, by omega, by omega, .inr (.inl ⟨decide_eq_false g1, decide_eq_true g2, rfl⟩)⟩
      · exact ⟨n.toNat, by omega, by omega, .inr (.inr ⟨decide_eq_false g1, decide_eq_false g2, by omega⟩)⟩
  obtain ⟨m, m1, m2, hm⟩ := key
  by_cases h0 : fbF (y5 b) = 0
  · exact around_zero b n m hb m1 m2 hm h0 w hP
  · exact around_num b n m hb m1 m2 hm h0 w hP
end Go.Proofs.YtiadjcilfljdaaaGreatDoor
