/- Layer 5: DigitsFewest answers true. -/
import Derived.Test.YtiadjcilfljdaaaGreatDoorG46
import Derived.Test.YtiadjcilfljdaaaGreatDoorG45
namespace Go.Proofs.YtiadjcilfljdaaaGreatDoor
set_option linter.unusedVariables false
set_option linter.unusedSimpArgs false
open Go.RowKit Verge

/-- What a call of Print answers. -/
def PrintIs (d : Int) (y n : Nat) (t : List UInt8) : Prop := ∀ W, Pow10 W → Calls Tryz.prog 15 #[.int .i64 d, .float .f64 y, .int .i64 (n : Int)] W fun e w' => e = .returned (.tuple #[.string (bs t), .int .i64 0]) ∧ Below W.heap.size W w'
theorem print_at {b n : Nat} (hb : b < 18446744073709551616) (h1 : 1 ≤ n) (h2 : n ≤ 1100) (hw : fwrong b = false) (hF : fbF b ≠ 0) {N D : Nat} (hN : N = fbF b * 2 ^ ((fbE b : Int) - 1074).toNat) (hD : D = 2 ^ (-((fbE b : Int) - 1074)).toNat) {K : Int} (hK : dcnt (qat N D K) = n) (d : Int) {s : Bool} (hs : decide (9223372036854775808 ≤ b) = s) : PrintIs d b n (prT d s N D K n) := by
  intro W hP
  have hD0 : 0 < D := by rw [hD]; exact Nat.two_pow_pos _
  refine (print_num d b n hb h1 h2 hw hF N D hN hD W hP).mono ?_
  rintro e w1 ⟨L, l1, l2, hL, rfl, hb1⟩
  obtain rfl : L = K := qat_one hD0 h1 hL hK
  rw [hs]
  exact ⟨rfl, hb1⟩
/-- All that the law asks of Short's text. -/
def FewT (y : Nat) (t : List UInt8) (n : Nat) : Prop :=
  1 ≤ n ∧ n ≤ 17 ∧ (∃ pre rest, t = pre ++ 101 :: rest ∧ (∀ c ∈ pre, c ≠ 101) ∧ pre.countP isD = n ∧ t.length ≤ 4096) ∧
  (∃ lo hi, PrintIs (-1) y n lo ∧ PrintIs 1 y n hi ∧ (t = lo ∨ t = hi)) ∧
  (n = 1 ∨ ∃ lo hi p q, PrintIs (-1) y (n - 1) lo ∧ PrintIs 1 y (n - 1) hi ∧ readS 0 lo = (p, 0, 0) ∧ p ≠ y ∧ readS 0 hi = (q, 0, 0) ∧ q ≠ y)
theorem cnt_all : ∀ {l : List UInt8}, (∀ c ∈ l, isD c = true) → l.countP isD = l.length
  | [], _ => rfl
  | c :: l, h => by
    rw [List.countP_cons_of_pos (h c (by simp)), cnt_all (l := l) fun z hz => h z (by simp [hz]), List.length_cons]
theorem dig_not_e {c : UInt8} (h : isD c = true) : c ≠ 101 := by
  rintro rfl
  exact absurd h (by decide)
theorem ftext_cnt (s : Bool) (d : List UInt8) (hd : ∀ z ∈ d, isD z = true) (h1 : 1 ≤ d.length) (K : Int) : ∃ pre rest, ftext s d K = pre ++ 101 :: rest ∧ (∀ c ∈ pre, c ≠ 101) ∧ pre.countP isD = d.length := by
  refine ⟨_, _, rfl, ?_, ?_⟩
  · intro c hc
    rcases List.mem_append.1 hc with hc | hc
    · cases s
      · simp at hc
      · simp at hc; subst hc; decide
    · rcases List.mem_append.1 hc with hc | hc
      · exact dig_not_e (hd c (List.mem_of_mem_take hc))
      · split at hc
        · rcases List.mem_cons.1 hc with rfl | hc
          · decide
          · exact dig_not_e (hd c (List.mem_of_mem_drop hc))
        · simp at hc
  · rw [List.countP_append, List.countP_append]
    have e1 : ((if s = true then [45] else []) : List UInt8).countP isD = 0 := by cases s <;> decide
    have e2 : (d.take 1).countP isD = 1 := by
      rw [cnt_all fun z hz => hd z (List.mem_of_mem_take hz), List.length_take]; omega
    have e3 : ((if 1 < d.length then 46 :: d.drop 1 else []) : List UInt8).countP isD = d.length - 1 := by
      split
      · rw [List.countP_cons_of_neg (by decide), cnt_all fun z hz => hd z (List.mem_of_mem_drop hz), List.length_drop]
      · simp; omega
    rw [e1, e2, e3]; omega
theorem short_few (b : Nat) (hb : b < 18446744073709551616) (hw : fwrong b = false) (hz : b ≠ 9223372036854775808) (w : World) (hP : Pow10 w) :
    Calls Tryz.prog 12 #[.float .f64 b] w fun e w' => ∃ t n, FewT b t n ∧ e = .returned (.tuple #[.string (bs t), .int .i64 0]) ∧ Below w.heap.size w w' := by
  by_cases h0 : fbF b = 0
  · have hb0 : b = 0 := by
      rcases fbF_zero' hb h0 with h | h
      · exact h
      · exact absurd h hz
    subst hb0
    have e0 : ftext false (List.replicate 1 48) (1 - ((1 : Nat) : Int)) = [48, 101, 48] := by decide +kernel
    have hpr : ∀ d, PrintIs d 0 1 [48, 101, 48] := by
      intro d W hW
      have := print_zero d 0 1 hb (by omega) (by omega) (.inl rfl) W hW
      rw [e0] at this
      exact this
    have hf : FewT 0 [48, 101, 48] 1 := ⟨by omega, by omega, ⟨[48], [48], rfl, by decide, by decide, by decide⟩, ⟨_, _, hpr _, hpr _, .inl rfl⟩, .inl rfl⟩
    have H1 := Lib.hid (fun W => wrong_any 0 hb W)
    rw [hw] at H1
    have hzz : (FloatKind.f64.format.order 0 0 == some .eq) = true := by decide
    clear hb hw h0 hP hpr
    suffices hs : Calls Tryz.prog 12 #[.float .f64 0] w fun e w' => e = .returned (.tuple #[.string (bs [48, 101, 48]), .int .i64 0]) ∧ Below w.heap.size w w' by
      refine hs.mono ?_
      rintro e w1 ⟨rfl, hb⟩
      exact ⟨_, _, hf, rfl, hb⟩
    clear hf
    go_enter Tryz.func12, Tryz.ntmps12
    go_wp2_with fail
    refine (H1.out _).mono ?_
    rintro e w1 ⟨rfl, rfl⟩
    go_wp2
    go_ret2
    exact ⟨by simp [bs], Below.refl _ _⟩
  · refine (short_num b hb hw h0 w hP).mono ?_
    rintro e w1 ⟨k, i, hok, rfl, hb1⟩
    refine ⟨_, (txt (sF b k i)).length, ?_, rfl, hb1⟩
    obtain ⟨s, hs⟩ : ∃ s, decide (9223372036854775808 ≤ b) = s := ⟨_, rfl⟩
    rw [hs]
    obtain ⟨N, hN⟩ : ∃ N, N = fbF b * 2 ^ ((fbE b : Int) - 1074).toNat := ⟨_, rfl⟩
    obtain ⟨D, hD⟩ : ∃ D, D = 2 ^ (-((fbE b : Int) - 1074)).toNat := ⟨_, rfl⟩
    have hD0 : 0 < D := by rw [hD]; exact Nat.two_pow_pos _
    obtain ⟨f1, f2, f3, f4⟩ := few_text hok hb hw h0 (s := s) hN hD
    have hq2 := (sP_qat hN hD k 2).1
    have hm : 0 < dcnt (qat N D (k - (2 : Nat))) ∧ dcnt (qat N D (k - (2 : Nat))) ≤ 2 := by
      rw [← hq2]
      rcases Nat.eq_zero_or_pos (sP b k 1) with g | g
      · obtain ⟨_, _, o1, o2⟩ := sht_odd hok h0 g
        have : sP b k 2 = 9 := by
          unfold sP
          rw [show (10 : Nat) ^ 2 = 100 from rfl]
          refine Nat.div_eq_of_lt_le ?_ ?_ <;> omega
        rw [this]
        decide +kernel
      · rw [sP_cnt hok h0 g 2 (by omega)]; omega
    have hex : ∀ n, 1 ≤ n → n ≤ 17 → ∃ K, -1600 ≤ K ∧ K ≤ 1000 ∧ dcnt (qat N D K) = n := by
      intro n n1 n2
      have k1 := hok.k1
      have k2 := hok.k2
      exact ⟨_, by omega, by omega, qat_turn hD0 hm.1 n1 rfl⟩
    have hlen : (ftext s (txt (sF b k i)) (k - i)).length ≤ 4096 := by
      have k1 := hok.k1
      have k2 := hok.k2
      have i2 := hok.i2
      exact scn_len (scn_ftext s (txt (sF b k i)) (txt_dig _) f1 (by omega) (k - i) (by omega) (by omega))
    generalize hn : (txt (sF b k i)).length = n at *
    obtain ⟨pre, rest, c1, c2, c3⟩ := ftext_cnt s (txt (sF b k i)) (txt_dig _) (by omega) (k - i)
    obtain ⟨K, K1, K2, hK⟩ := hex n f1 f2
    refine ⟨f1, f2, ⟨pre, rest, c1, c2, by rw [c3, hn], hlen⟩, ⟨_, _, print_at hb f1 (by omega) hw h0 hN hD hK _ hs, print_at hb f1 (by omega) hw h0 hN hD hK _ hs, f3 K hK⟩, ?_⟩
    by_cases h1 : n = 1
    · exact .inl h1
    · right
      obtain ⟨L, L1, L2, hL⟩ := hex (n - 1) (by omega) (by omega)
      rcases f4 with g | ⟨rfl, g⟩
      · exact absurd g h1
      · obtain ⟨p, p1, p2⟩ := few_read hok hb hw h0 g hs hN hD (show 1 ≤ n - 1 by omega) (by omega) L1 L2 hL (-1)
        obtain ⟨q, q1, q2⟩ := few_read hok hb hw h0 g hs hN hD (show 1 ≤ n - 1 by omega) (by omega) L1 L2 hL 1
        exact ⟨_, _, p, q, print_at hb (by omega) (by omega) hw h0 hN hD hL _ hs, print_at hb (by omega) (by omega) hw h0 hN hD hL _ hs, p1, p2, q1, q2⟩
set_option maxRecDepth 100000 in
set_option maxHeartbeats 8000000 in
theorem walk_fewest (x : Int) (w : World) (x1 : 0 ≤ x) (x2 : x < 18446744073709551616) (hP : Pow10 w) : Calls Tryz.prog 3 #[.int .u64 x] w fun e w' => e = .returned (.bool true) ∧ Below w.heap.size w w' := by
  obtain ⟨x, rfl⟩ := Int.eq_ofNat_of_zero_le x1
  have hx : x < 18446744073709551616 := by omega
  obtain ⟨y1, y2⟩ := y5_ok x hx
  obtain ⟨z1, z2, z3⟩ := y5_plain x hx
  have HN := Lib.hid (fun W => num5_any x hx W)
  have HZ := Lib.hid (fun W => plain3_any (y5 x) y1 W)
  generalize y5 x = x0 at *
  generalize fplain x0 = y at *
  have HS := Lib.hid (fun W (hW : Pow10 W) => short_few y z1 z2 z3 W hW)
  have HF := Lib.hid (fun W => fl5_any' y z1 W)
  have rt : ∀ t p, readS 0 t = (p, 0, 0) → ∀ W, Calls Tryz.prog 16 #[.int .i64 0, .string (bs t)] W (Ans W (IsV (.tuple #[.int .u64 (p : Int), .int .i64 0, .int .i64 0]))) := by
    intro t p h W
    have := lread_any 0 t (read_len h) W
    rw [h] at this
    exact this
  have HRT := Lib.hid rt
  have HL := Lib.hid (fun W (hP : Pow10 W) => lives_any W hP)
  have HPP := Lib.hid hP
  have HB := Lib.hid (Below.refl w.heap.size w)
  clear rt hP z1 z2 z3 y1 y2 hx x1 x2
  go_enter Tryz.func3, Tryz.ntmps3
  go_wp2_with fail
  refine (HN.out _).mono ?_
  rintro en wn ⟨rfl, rfl⟩
  go_wp2_with fail
  refine (HZ.out _).mono ?_
  rintro en wn ⟨rfl, rfl⟩
  go_wp2_with fail
  refine (HF.out _).mono ?_
  rintro en wn ⟨rfl, rfl⟩
  go_wp2_with fail
  refine (HS.out _ (HPP.out.below HB.out)).mono ?_
  rintro en wn ⟨t, n, ⟨n1, n2, ⟨pre, rest, ht, hpe, hpc, htl⟩, ⟨lo, hi, hlo, hhi, heq⟩, hless⟩, rfl, hbn⟩
  have HB := Lib.hid (raft HB.out hbn)
  have HLO := Lib.hid hlo
  have HHI := Lib.hid hhi
  have HEQ := Lib.hid heq
  have HLESS := Lib.hid hless
  have hbt := fun j c h => bs_at t j c h
  have hsz : (bs t).size = t.length := bs_size t
  have hlen : t.length = pre.length + (rest.length + 1) := by rw [ht, List.length_append, List.length_cons]
  have hend : t[pre.length]? = some 101 := by rw [ht, List.getElem?_append_right (Nat.le_refl _), Nat.sub_self]; rfl
  have hat : ∀ j, j < pre.length → ∃ c, t[j]? = some c ∧ c ≠ 101 ∧ (pre.take (j + 1)).countP isD = (pre.take j).countP isD + (if isD c = true then 1 else 0) := by
    intro j hj
    refine ⟨pre[j], ?_, hpe _ (List.getElem_mem hj), ?_⟩
    · rw [ht, List.getElem?_append_left hj]; exact List.getElem?_eq_getElem hj
    · rw [List.take_succ_eq_append_getElem hj, List.countP_append, List.countP_cons, List.countP_nil, Nat.zero_add]
  have HAT := Lib.hid hat
  have HBT := Lib.hid hbt
  have HEND := Lib.hid hend
  have HCNT := Lib.hid (show (pre.take pre.length).countP isD = n by rw [List.take_length]; exact hpc)
  have HCLE := Lib.hid (fun j => show (pre.take j).countP isD ≤ 4096 from Nat.le_trans (List.countP_le_length) (by rw [List.length_take]; omega))
  generalize pre.length = m at *
  clear hbn hlo hhi heq hless hbt hend hat ht hpe hpc
  go_wp2_with fail
  refine (HL.out _ (HPP.out.below HB.out)).mono ?_
  rintro en wn ⟨rfl, hbn⟩
  have HB := Lib.hid (raft HB.out hbn)
  clear hbn
  have hsz2 : (bs t).size ≤ 4096 := by omega
  have hm : m < (bs t).size := by omega
  obtain ⟨T, hT⟩ : ∃ T, bs t = T := ⟨_, rfl⟩
  rw [hT] at HBT hsz hsz2 hm ⊢
  have HTT := Lib.hid hT
  clear hT
  go_wp2
  go_loop [5, 6] (fun v iv => ∃ j c : Nat, j ≤ m ∧ iv = .int .i64 (j : Int) ∧ v = .int .i64 (c : Int) ∧ Hid (c = (pre.take j).countP isD)) (fun _ iv => m - (intOf iv).toNat)
  case atStart => exact ⟨0, 0, by omega, rfl, rfl, rfl⟩
  case round =>
    obtain ⟨j, c, hj, rfl, rfl, hI⟩ := hrel
    have hltI : (j : Int) < (T.size : Int) := by omega
    have hc4 : c ≤ 4096 := by have := HCLE.out j; rw [hI.out]; exact this
    by_cases hlt : j < m
    · obtain ⟨z, hz1, hz2, hz3⟩ := HAT.out j hlt
      have hzT := HBT.out j z hz1 (by omega)
      have hne : ¬ ((z.toNat : Int) = 101) := fun e => hz2 (UInt8.toNat_inj.1 (by show z.toNat = 101; omega))
      have HZ3 := Lib.hid hz3
      clear hz1 hz2 hz3
      by_cases hd : isD z = true
      · have hcd := isD_iff.1 hd
        have hc48 : (48 : Int) ≤ z.toNat := by omega
        have hc57 : (z.toNat : Int) ≤ 57 := by omega
        have HST := Lib.hid (show c + 1 = (pre.take (j + 1)).countP isD by rw [HZ3.out, if_pos hd, hI.out])
        clear hd hcd hI
        go_wp2
        go_round
        case rel => exact ⟨j + 1, c + 1, by omega, by go_num, by go_num, HST⟩
        case measure => simp [intOf]; omega
      · have HST := Lib.hid (show c = (pre.take (j + 1)).countP isD by rw [HZ3.out, if_neg hd, hI.out]; rfl)
        have hcd := isD_no.1 (by simpa using hd)
        by_cases h48 : (48 : Int) ≤ z.toNat
        · have h57 : ¬ (z.toNat : Int) ≤ 57 := by omega
          clear hd hcd hI
          go_wp2
          go_round
          case rel => exact ⟨j + 1, c, by omega, by go_num, rfl, HST⟩
          case measure => simp [intOf]; omega
        · clear hd hcd hI
          go_wp2
          go_round
          case rel => exact ⟨j + 1, c, by omega, by go_num, rfl, HST⟩
          case measure => simp [intOf]; omega
    · obtain rfl : j = m := by omega
      obtain rfl : c = n := by rw [hI.out]; exact HCNT.out
      have hzT := HBT.out j 101 HEND.out (by omega)
      have hn1 : ¬ (c : Int) < 1 := by omega
      have hn2 : ¬ (17 : Int) < (c : Int) := by omega
      clear hI hlt
      go_wp2_with fail
      refine (HF.out _).mono ?_
      rintro en wn ⟨rfl, rfl⟩
      go_wp2_with fail
      refine (HLO.out _ (HPP.out.below HB.out)).mono ?_
      rintro en wn ⟨rfl, hbn⟩
      have HB := Lib.hid (raft HB.out hbn)
      clear hbn
      go_wp2_with fail
      refine (HF.out _).mono ?_
      rintro en wn ⟨rfl, rfl⟩
      go_wp2_with fail
      refine (HHI.out _ (HPP.out.below HB.out)).mono ?_
      rintro en wn ⟨rfl, hbn⟩
      have HB := Lib.hid (raft HB.out hbn)
      clear hbn
      have key : ((T.toList == (bs lo).toList) = true) ∨ ((T.toList == (bs lo).toList) = false ∧ (T.toList == (bs hi).toList) = true) := by
        rw [← HTT.out]
        rcases HEQ.out with e | e
        · left; rw [e]; simp
        · cases hc : ((bs t).toList == (bs lo).toList)
          · right; exact ⟨rfl, by rw [e]; simp⟩
          · left; rfl
      clear HEQ
      generalize bs lo = LO at *
      generalize bs hi = HI at *
      by_cases h1 : c = 1
      · subst h1
        rcases key with b1 | ⟨b1, b2⟩
        · go_wp2
          go_ret
          exact ⟨rfl, HB.out⟩
        · go_wp2
          go_ret
          exact ⟨rfl, HB.out⟩
      · obtain ⟨lo2, hi2, p, q, hl2, hh2, p1, p2, q1, q2⟩ := HLESS.out.resolve_left h1
        have e : ((c - 1 : Nat) : Int) = (c : Int) - 1 := by omega
        unfold PrintIs at hl2 hh2
        rw [e] at hl2 hh2
        have HL2 := Lib.hid hl2
        have HH2 := Lib.hid hh2
        have HRL := Lib.hid (HRT.out lo2 p p1)
        have HRH := Lib.hid (HRT.out hi2 q q1)
        have hp2 : ¬ ((p : Int) = (y : Int)) := by omega
        have hq2 : ¬ ((q : Int) = (y : Int)) := by omega
        have h1I : ¬ ((c : Int) = 1) := by omega
        clear HLESS hl2 hh2 p1 p2 q1 q2 e h1 HRT
        generalize bs lo2 = LO2 at *
        generalize bs hi2 = HI2 at *
        rcases key with b1 | ⟨b1, b2⟩
        all_goals
          go_wp2_with fail
          refine (HF.out _).mono ?_
          rintro en wn ⟨rfl, rfl⟩
          go_wp2_with fail
          refine (HL2.out _ (HPP.out.below HB.out)).mono ?_
          rintro en wn ⟨rfl, hbn⟩
          have HB := Lib.hid (raft HB.out hbn)
          clear hbn
          go_wp2_with fail
          refine (HF.out _).mono ?_
          rintro en wn ⟨rfl, rfl⟩
          go_wp2_with fail
          refine (HH2.out _ (HPP.out.below HB.out)).mono ?_
          rintro en wn ⟨rfl, hbn⟩
          have HB := Lib.hid (raft HB.out hbn)
          clear hbn
          go_wp2_with fail
          refine (HRL.out _).mono ?_
          rintro en wn ⟨vn, rfl, rfl, hbn⟩
          have HB := Lib.hid (raft HB.out hbn)
          clear hbn
          go_wp2_with fail
          refine (HRH.out _).mono ?_
          rintro en wn ⟨vn, rfl, rfl, hbn⟩
          have HB := Lib.hid (raft HB.out hbn)
          clear hbn
          go_wp2
          go_ret
          exact ⟨by simp; exact ⟨hp2, hq2⟩, HB.out⟩
end Go.Proofs.YtiadjcilfljdaaaGreatDoor
