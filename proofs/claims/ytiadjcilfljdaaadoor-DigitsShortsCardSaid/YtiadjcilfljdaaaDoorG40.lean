/- Layer 5: Exact, by the document; the law of Exact, walked. -/
import Derived.Test.YtiadjcilfljdaaaDoorG38
import Derived.Test.YtiadjcilfljdaaaDoorG36
import Derived.Test.YtiadjcilfljdaaaDoorG19
import Derived.Test.YtiadjcilfljdaaaDoorG15
import Derived.Test.YtiadjcilfljdaaaDoorG16
import Derived.Test.YtiadjcilfljdaaaDoorG39
namespace Go.Proofs.YtiadjcilfljdaaaDoor
set_option linter.unusedVariables false
set_option linter.unusedSimpArgs false
open Go.RowKit Verge

theorem exactd_wrong (b : Nat) (hb : b < 18446744073709551616) (h : fwrong b = true) (w : World) : Calls Tryd.prog 10 #[.int .u64 (b : Int)] w fun e w' => e = .returned (.tuple #[.string (bs []), .int .i64 1]) ∧ Below w.heap.size w w' := by
  have H1 := Lib.hid (fun W => fin2_any b hb W)
  rw [h] at H1
  clear h hb
  go_enter Tryd.func10, Tryd.ntmps10
  go_wp2_with fail
  refine (H1.out _).mono ?_
  rintro e w1 ⟨rfl, rfl⟩
  go_wp2
  go_ret2
  exact ⟨rfl, Below.refl _ _⟩
theorem exactd_zero (b : Nat) (hb : b < 18446744073709551616) (h : b = 0 ∨ b = 9223372036854775808) (w : World) : Calls Tryd.prog 10 #[.int .u64 (b : Int)] w fun e w' => e = .returned (.tuple #[.string (bs [48, 101, 48]), .int .i64 0]) ∧ Below w.heap.size w w' := by
  have H1 := Lib.hid (fun W => fin2_any b hb W)
  have e0 : fwrong b = false := by unfold fwrong fabs; refine decide_eq_false ?_; omega
  rw [e0] at H1
  have H2 := Lib.hid (fun W => size5_any b hb W)
  unfold SizeP at H2
  have eN : fbN b = 0 := by rw [fbN_zero]; omega
  rw [eN] at H2
  have H3 := Lib.hid (fun A c B m d w h => rsign_any false A (dig 0).length c (dig 0) B m d w h rfl (by rw [dig_zero]; simp))
  have er : rsgn false (val (dig 0)) = 0 := by rw [val_dig']; rfl
  rw [er] at H3
  clear h hb e0 eN er
  go_enter Tryd.func10, Tryd.ntmps10
  go_wp2_with fail
  refine (H1.out _).mono ?_
  rintro e w1 ⟨rfl, rfl⟩
  go_wp2_with fail
  refine (H2.out _).mono ?_
  rintro e w1 ⟨A1, c1, A2, c2, rfl, hR1, hR2, hb⟩
  go_wp2_with fail
  refine (H3.out _ _ _ _ _ _ (hR1.below (rnew w1 _))).mono ?_
  rintro e w2 ⟨rfl, hb2⟩
  have HW := Lib.hid (raft (raft hb (rnew w1 _)) hb2)
  clear hb hb2
  go_wp2
  go_ret2
  exact ⟨rfl, HW.out⟩

set_option maxRecDepth 20000 in
set_option maxHeartbeats 8000000 in
theorem exactd_num (b : Nat) (hb : b < 18446744073709551616) (hw : fwrong b = false) (hF : fbF b ≠ 0) (w : World) : Calls Tryd.prog 10 #[.int .u64 (b : Int)] w fun e w' => e = .returned (.tuple #[.string (bs (ftext (decide (9223372036854775808 < b)) (txt (core (fbN b * 5 ^ (blen (fbD b) - 1)))) ((tz10 (fbN b * 5 ^ (blen (fbD b) - 1)) : Int) - ((blen (fbD b) - 1 : Nat) : Int)))), .int .i64 0]) ∧ Below w.heap.size w w' := by
  have H1 := Lib.hid (fun W => fin2_any b hb W)
  rw [hw] at H1
  have H2 := Lib.hid (fun W => size5_any b hb W)
  unfold SizeP at H2
  obtain ⟨hN, _, _⟩ := hx_doc hF
  have hD : 0 < fbD b := fbD_pos b
  have lN := fbN_len b
  have lD := fbD_len b
  have hk := exact_k hF
  obtain ⟨sg, hs⟩ : ∃ sg, decide (9223372036854775808 < b) = sg := ⟨_, rfl⟩
  rw [hs] at H2 ⊢
  clear hs hw hF
  generalize fbN b = N at *
  generalize fbD b = D at *
  have hkD0 := blen_pos (show D ≠ 0 by omega)
  have H3 := Lib.hid (fun A c B m d w h => rsign_any false A (dig N).length c (dig N) B m d w h rfl (by omega))
  have er : rsgn false (val (dig N)) = 1 := by rw [val_dig']; unfold rsgn; rw [if_neg hN]; rfl
  rw [er] at H3
  have H8 := Lib.hid (fun A c w h => rlen_any A (dig D).length c (dig D) w h rfl (by omega))
  simp only [val_dig'] at H8
  obtain ⟨kD, hkd⟩ : ∃ k, blen D = k := ⟨_, rfl⟩
  rw [hkd] at H8 hk hkD0 ⊢
  obtain ⟨k, hkk⟩ : ∃ k, kD - 1 = k := ⟨_, rfl⟩
  rw [hkk] at hk ⊢
  have hv5 : val [5] = 5 := by simp [val]
  have hkDI : (kD : Int) = (k : Int) + 1 := by omega
  rw [hkDI] at H8
  have b5 : blen (5 ^ k) ≤ 3 * k + 1 := five_blen k
  have d5 : (dig (5 ^ k)).length ≤ 200 := by
    obtain ⟨z, hz⟩ : ∃ z, z = 200 := ⟨_, rfl⟩
    rw [← hz, dig_length_le, show (4294967296 : Nat) = 2 ^ 32 from rfl, ← Nat.pow_mul, ← blen_lt]
    omega
  have l5 : (dig (val [5])).length ≤ 1 := by rw [hv5]; exact dig_length_le.2 (by decide)
  have H9 := Lib.hid (fun kI (hkI : (k : Int) = kI) A c w (h : Rd w A [5]) => rpower_any A 1 c [5] k kI w hkI (by omega) h rfl (by omega) (by omega) (by rw [hv5]; omega))
  simp only [hv5] at H9
  have H10 := Lib.hid (fun A c A' c' w h h' => rtimes_d A c N A' c' (5 ^ k) w h h' (by omega))
  have hbl : blen (N * 5 ^ k) ≤ 9000 := by
    have := blen_mul_le (blen_words_le lN) b5; omega
  have hBp : 0 < N * 5 ^ k := Nat.mul_pos (by omega) (Nat.pow_pos (by omega))
  have htl := txt_len (N * 5 ^ k)
  have lM : (dig (N * 5 ^ k)).length ≤ 300 := by
    obtain ⟨z, hz⟩ : ∃ z, z = 300 := ⟨_, rfl⟩
    rw [← hz, dig_length_le, show (4294967296 : Nat) = 2 ^ 32 from rfl, ← Nat.pow_mul, ← blen_lt]
    omega
  have H11 := Lib.hid (fun A c w h => text_any A (dig (N * 5 ^ k)).length c (dig (N * 5 ^ k)) w h rfl (by omega))
  simp only [val_dig'] at H11
  obtain ⟨B, hB⟩ : ∃ B, N * 5 ^ k = B := ⟨_, rfl⟩
  simp only [hB] at H10 H11 hBp htl hbl ⊢
  obtain ⟨P5, hP5⟩ : ∃ B, 5 ^ k = B := ⟨_, rfl⟩
  simp only [hP5] at H9 H10
  have htl : (txt B).length ≤ 9000 := by omega
  clear hkd hkk hkDI hB hP5 b5 d5 l5 lN lD er hN hD lM hbl hv5 hkD0 hb
  go_enter Tryd.func10, Tryd.ntmps10
  go_wp2_with fail
  refine (H1.out _).mono ?_
  rintro e w1 ⟨rfl, rfl⟩
  go_wp2_with fail
  refine (H2.out _).mono ?_
  rintro e w1 ⟨A1, c1, A2, c2, rfl, hR1, hR2, hb⟩
  have HC := Lib.hid (Box3.new w1 (.bool false) (.slice A1 (dig N).length c1) (.slice A2 (dig D).length c2))
  clear H1 H2
  go_wp2_with fail
  refine (H3.out _ _ _ _ _ _ (hR1.below (rnew w1 _))).mono ?_
  rintro e w2 ⟨rfl, hb2⟩
  have HB := raft (rnew w1 (Obj.cells #[.bool false, .slice A1 (dig N).length c1, .slice A2 (dig D).length c2] 39)) hb2
  have HC := Lib.hid (HC.out.later hb2)
  have HR1 := Lib.hid (hR1.below HB)
  have HR2 := Lib.hid (hR2.below HB)
  have HW := Lib.hid (raft hb HB)
  obtain ⟨b0, b1, b2⟩ := HC.out.cells
  clear hR1 hR2 hb hb2 HB H3
  go_wp2_with fail
  refine (H8.out _ _ _ HR2.out).mono ?_
  rintro e w3 ⟨rfl, rfl⟩
  by_cases hk0 : k = 0
  · subst hk0
    go_upto_region 9 with fail
    refine region_at 8 (Pick [IsV (.pointer (some ⟨w1.heap.size, 1, none⟩)), IsV (.slice A1 (dig N).length c1), (IsL [5]), IsV (.int .i64 0), (IsN P5), (IsN B), IsV (.string (bs (txt B))), IsV (.string (bs (txt B)))]) (by kernel_rfl) (by kernel_rfl) (by kernel_rfl) (mono_pick ⟨IsV.mono _, IsV.mono _, IsL.mono _, IsV.mono _, IsN.mono _, IsN.mono _, IsV.mono _, IsV.mono _, trivial⟩) ⟨?_, ?_, ?_, ?_, ?_, ?_, ?_, ?_, trivial⟩ ?_
    · intro a W hsz hb hS
      have h4 : a.tmps.getD 4 undef = .pointer (some ⟨w1.heap.size, 0, none⟩) := hS.1
      clear hS hsz
      refine will_of rfl ?_
      intro K hK
      go_simp
      exact hK _ _ ⟨Below.refl _ _, rfl⟩
    · intro a W hsz hb hS
      have h28 : a.tmps.getD 28 undef = .pointer (some ⟨w1.heap.size, 1, none⟩) := hS.1
      clear hS hsz
      refine will_of rfl ?_
      obtain ⟨b0, b1, b2⟩ := (HC.out.later hb).cells
      intro K hK
      go_simp
      exact hK _ _ ⟨Below.refl _ _, rfl⟩
    · intro a W hsz hb hS
      clear hS hsz
      refine will_of rfl ?_
      intro K hK
      go_simp
      exact hK _ _ ⟨rnew W _, ⟨_, _, rfl, (Blk.new W #[.int .u32 5] [5] (W32.cons (by omega) W32.nil) (by simp [u32s])).rd⟩⟩
    · intro a W hsz hb hS
      have h6 : a.tmps.getD 6 undef = .int .i64 0 := hS.1
      clear hS hsz
      refine will_of rfl ?_
      intro K hK
      go_simp
      exact hK _ _ ⟨Below.refl _ _, rfl⟩
    · intro a W hsz hb hS
      have q30 : (IsL [5]) (a.tmps.getD 30 undef) W := hS.1
      have h31 : a.tmps.getD 31 undef = .int .i64 0 := hS.2.1
      clear hS hsz
      obtain ⟨v30, h30⟩ : ∃ v, a.tmps.getD 30 undef = v := ⟨_, rfl⟩
      rw [h30] at q30
      refine will_of rfl ?_
      obtain ⟨b0, b1, b2⟩ := (HC.out.later hb).cells
      intro K hK
      obtain ⟨A5, c5, rfl, r5⟩ := q30
      go_simp
      have hq := H9.out (0) rfl A5 c5 _ r5
      refine hq.mono ?_
      rintro e W' ⟨A6, c6, rfl, h6, _, _, hb'⟩
      exact hK _ _ ⟨hb', A6, c6, rfl, h6⟩
    · intro a W hsz hb hS
      have h29 : a.tmps.getD 29 undef = .slice A1 (dig N).length c1 := hS.1
      have q32 : (IsN P5) (a.tmps.getD 32 undef) W := hS.2.1
      clear hS hsz
      obtain ⟨v32, h32⟩ : ∃ v, a.tmps.getD 32 undef = v := ⟨_, rfl⟩
      rw [h32] at q32
      refine will_of rfl ?_
      obtain ⟨b0, b1, b2⟩ := (HC.out.later hb).cells
      intro K hK
      obtain ⟨A6, c6, rfl, r6⟩ := q32
      go_simp
      have hq := H10.out A1 c1 A6 c6 W (HR1.out.below hb) r6
      refine hq.mono ?_
      rintro e W' ⟨A7, c7, rfl, h7, _, _, hb'⟩
      exact hK _ _ ⟨hb', A7, c7, rfl, h7⟩
    · intro a W hsz hb hS
      have q33 : (IsN B) (a.tmps.getD 33 undef) W := hS.1
      clear hS hsz
      obtain ⟨v33, h33⟩ : ∃ v, a.tmps.getD 33 undef = v := ⟨_, rfl⟩
      rw [h33] at q33
      refine will_of rfl ?_
      obtain ⟨b0, b1, b2⟩ := (HC.out.later hb).cells
      intro K hK
      obtain ⟨A7, c7, rfl, r7⟩ := q33
      go_simp
      have hq := H11.out A7 c7 W r7
      refine hq.mono ?_
      rintro e W' ⟨rfl, hb'⟩
      exact hK _ _ ⟨hb', rfl⟩
    · intro a W hsz hb hS
      have h34 : a.tmps.getD 34 undef = .string (bs (txt B)) := hS.1
      clear hS hsz
      refine will_of rfl ?_
      intro K hK
      go_simp
      exact hK _ _ ⟨Below.refl _ _, rfl⟩
    intro f W hb hH
    have e0 : f 0 = .pointer (some ⟨w1.heap.size, 1, none⟩) := hH.1
    have e1 : f 1 = .slice A1 (dig N).length c1 := hH.2.1
    obtain ⟨x2, y2⟩ : ∃ x, f 2 = x := ⟨_, rfl⟩
    have q2 : (IsL [5]) (f 2) W := hH.2.2.1
    rw [y2] at q2
    have e3 : f 3 = .int .i64 0 := hH.2.2.2.1
    obtain ⟨x4, y4⟩ : ∃ x, f 4 = x := ⟨_, rfl⟩
    have q4 : (IsN P5) (f 4) W := hH.2.2.2.2.1
    rw [y4] at q4
    obtain ⟨x5, y5⟩ : ∃ x, f 5 = x := ⟨_, rfl⟩
    have q5 : (IsN B) (f 5) W := hH.2.2.2.2.2.1
    rw [y5] at q5
    have e6 : f 6 = .string (bs (txt B)) := hH.2.2.2.2.2.2.1
    have e7 : f 7 = .string (bs (txt B)) := hH.2.2.2.2.2.2.2.1
    simp only [List.take_succ_cons, List.take_zero, List.drop_succ_cons, List.drop_zero, putFrom, Act.put, List.setIfInBounds_toArray, List.set_cons_zero, List.set_cons_succ, Nat.reduceAdd, e0, e1, y2, e3, y4, y5, e6, e7]
    clear e0 e1 y2 e3 y4 y5 e6 e7 hH f
    have HW := Lib.hid (raft HW.out hb)
    clear hb
    go_upto_region 11 with fail
    go_loopg [7, 8] B (fun n sv ev wr => ∃ (t : Nat) (tI : Int), sv = .string (bs (txt n)) ∧ ev = .int .i64 tI ∧ W = wr ∧ -9000 ≤ tI ∧ tI ≤ 9000 ∧ Hid (0 < n ∧ core n = core B ∧ tz10 n + t = tz10 B ∧ t + (txt n).length = (txt B).length ∧ tI = (t : Int) - ((0 : Nat) : Int)))
    case atStart => exact ⟨0, _, rfl, rfl, rfl, by omega, by omega, hBp, rfl, by omega, by omega, by omega⟩
    case round =>
      obtain ⟨t, tI, rfl, rfl, rfl, t1, t2, hI⟩ := hrel
      obtain ⟨n, hn⟩ : ∃ n, gk = n := ⟨_, rfl⟩
      rw [hn] at hI
      simp only [hn] at *
      obtain ⟨i1, i2, i3, i4, i5⟩ := hI.out
      have hst := txt_step i1
      have HLE := txt_some i1
      by_cases h0 : n % 10 = 0
      · have hst : txt n = txt (n / 10) ++ [48] := txt_ten i1 h0
        have HN := Lib.hid (show 0 < n / 10 ∧ core (n / 10) = core B ∧ tz10 (n / 10) + (t + 1) = tz10 B ∧ (t + 1) + (txt (n / 10)).length = (txt B).length ∧ tI + 1 = ((t + 1 : Nat) : Int) - ((0 : Nat) : Int) from
          ⟨by omega, by rw [← i2, core_step i1 h0], by rw [← i3, tz10_step i1 h0]; omega, by rw [← i4, hst, List.length_append]; simp; omega, by omega⟩)
        obtain ⟨L, hL⟩ : ∃ L, (txt (n / 10)).length = L := ⟨_, rfl⟩
        have hsz : (bs (txt n)).size = L + 1 := by rw [bs_size, hst, List.length_append, hL]; rfl
        have hx : ∀ h : L < (bs (txt n)).size, (bs (txt n))[L]'h = 48 := by
          intro h
          show (bs (txt n)).data[L] = 48
          simp only [hst, bs]
          simp [← hL]
        have hcut : (bs (txt n)).extract 0 L = bs (txt (n / 10)) := by
          rw [bs_cut, hst, List.drop_zero, Nat.sub_zero, ← hL, List.take_left]
        have HTI := Lib.hid (show -9000 ≤ tI + 1 ∧ tI + 1 ≤ 9000 by omega)
        have hLb : L ≤ 9000 := by
          have : (txt n).length = L + 1 := by rw [hst, List.length_append, hL]; rfl
          omega
        generalize bs (txt n) = S at *
        obtain ⟨S', hS'⟩ : ∃ S', bs (txt (n / 10)) = S' := ⟨_, rfl⟩
        rw [hS'] at hcut
        have HS := Lib.hid hS'
        clear hst hI i1 i2 i3 i4 i5 HLE hL hn hS'
        go_wp2
        go_roundg (n / 10)
        case measure => have := HN.out.1; omega
        case rel => exact ⟨t + 1, _, by rw [HS.out], rfl, rfl, HTI.out.1, HTI.out.2, HN.out⟩
      · obtain ⟨c, hc⟩ : ∃ c, UInt8.ofNat (48 + n % 10) = c := ⟨_, rfl⟩
        have hne : ¬ (c.toNat : Int) = 48 := by
          rw [← hc]
          intro e
          have h1 : (UInt8.ofNat (48 + n % 10)).toNat = 48 + n % 10 := by simp; omega
          omega
        rw [hc] at hst
        obtain ⟨L, hL⟩ : ∃ L, (txt (n / 10)).length = L := ⟨_, rfl⟩
        have hsz : (bs (txt n)).size = L + 1 := by rw [bs_size, hst, List.length_append, hL]; rfl
        have hx : ∀ h : L < (bs (txt n)).size, (bs (txt n))[L]'h = c := by
          intro h
          show (bs (txt n)).data[L] = c
          simp only [hst, bs]
          simp [← hL]
        have hLb : L ≤ 9000 := by have : (txt n).length = L + 1 := by rw [hst, List.length_append, hL]; rfl
                                  omega
        have HF := Lib.hid (fun W => form5_any sg (txt n) tI (by omega) (by omega) t1 t2 W)
        have e1 : core B = n := by rw [← i2, core_end h0]
        have e2 : (tz10 B : Int) - ((0 : Nat) : Int) = tI := by rw [tz10_end h0] at i3; omega
        have HE : Hid (ftext sg (txt n) tI = ftext sg (txt (core B)) ((tz10 B : Int) - ((0 : Nat) : Int))) := Lib.hid (by rw [e1, e2])
        generalize bs (txt n) = S at *
        clear hst hI i1 i2 i3 i4 i5 HLE hL hn e1 e2 hc
        go_wp2_with fail
        refine (HF.out _).mono ?_
        rintro e w6 ⟨rfl, hb⟩
        have HW := Lib.hid (raft HW.out hb)
        clear hb
        go_wp2
        go_ret2
        refine ⟨?_, HW.out⟩
        rw [HE.out]
        simp
  · have hk0' : 0 < (k : Int) := by omega
    go_wp2_with fail
    refine (H8.out _ _ _ HR2.out).mono ?_
    rintro e w3 ⟨rfl, rfl⟩
    go_upto_region 9 with fail
    refine region_at 8 (Pick [IsV (.pointer (some ⟨w1.heap.size, 1, none⟩)), IsV (.slice A1 (dig N).length c1), (IsL [5]), IsV (.int .i64 (k : Int)), (IsN P5), (IsN B), IsV (.string (bs (txt B))), IsV (.string (bs (txt B)))]) (by kernel_rfl) (by kernel_rfl) (by kernel_rfl) (mono_pick ⟨IsV.mono _, IsV.mono _, IsL.mono _, IsV.mono _, IsN.mono _, IsN.mono _, IsV.mono _, IsV.mono _, trivial⟩) ⟨?_, ?_, ?_, ?_, ?_, ?_, ?_, ?_, trivial⟩ ?_
    · intro a W hsz hb hS
      have h4 : a.tmps.getD 4 undef = .pointer (some ⟨w1.heap.size, 0, none⟩) := hS.1
      clear hS hsz
      refine will_of rfl ?_
      intro K hK
      go_simp
      exact hK _ _ ⟨Below.refl _ _, rfl⟩
    · intro a W hsz hb hS
      have h28 : a.tmps.getD 28 undef = .pointer (some ⟨w1.heap.size, 1, none⟩) := hS.1
      clear hS hsz
      refine will_of rfl ?_
      obtain ⟨b0, b1, b2⟩ := (HC.out.later hb).cells
      intro K hK
      go_simp
      exact hK _ _ ⟨Below.refl _ _, rfl⟩
    · intro a W hsz hb hS
      clear hS hsz
      refine will_of rfl ?_
      intro K hK
      go_simp
      exact hK _ _ ⟨rnew W _, ⟨_, _, rfl, (Blk.new W #[.int .u32 5] [5] (W32.cons (by omega) W32.nil) (by simp [u32s])).rd⟩⟩
    · intro a W hsz hb hS
      have h6 : a.tmps.getD 6 undef = .int .i64 (k : Int) := hS.1
      clear hS hsz
      refine will_of rfl ?_
      intro K hK
      go_simp
      exact hK _ _ ⟨Below.refl _ _, rfl⟩
    · intro a W hsz hb hS
      have q30 : (IsL [5]) (a.tmps.getD 30 undef) W := hS.1
      have h31 : a.tmps.getD 31 undef = .int .i64 (k : Int) := hS.2.1
      clear hS hsz
      obtain ⟨v30, h30⟩ : ∃ v, a.tmps.getD 30 undef = v := ⟨_, rfl⟩
      rw [h30] at q30
      refine will_of rfl ?_
      obtain ⟨b0, b1, b2⟩ := (HC.out.later hb).cells
      intro K hK
      obtain ⟨A5, c5, rfl, r5⟩ := q30
      go_simp
      have hq := H9.out ((k : Int)) rfl A5 c5 _ r5
      refine hq.mono ?_
      rintro e W' ⟨A6, c6, rfl, h6, _, _, hb'⟩
      exact hK _ _ ⟨hb', A6, c6, rfl, h6⟩
    · intro a W hsz hb hS
      have h29 : a.tmps.getD 29 undef = .slice A1 (dig N).length c1 := hS.1
      have q32 : (IsN P5) (a.tmps.getD 32 undef) W := hS.2.1
      clear hS hsz
      obtain ⟨v32, h32⟩ : ∃ v, a.tmps.getD 32 undef = v := ⟨_, rfl⟩
      rw [h32] at q32
      refine will_of rfl ?_
      obtain ⟨b0, b1, b2⟩ := (HC.out.later hb).cells
      intro K hK
      obtain ⟨A6, c6, rfl, r6⟩ := q32
      go_simp
      have hq := H10.out A1 c1 A6 c6 W (HR1.out.below hb) r6
      refine hq.mono ?_
      rintro e W' ⟨A7, c7, rfl, h7, _, _, hb'⟩
      exact hK _ _ ⟨hb', A7, c7, rfl, h7⟩
    · intro a W hsz hb hS
      have q33 : (IsN B) (a.tmps.getD 33 undef) W := hS.1
      clear hS hsz
      obtain ⟨v33, h33⟩ : ∃ v, a.tmps.getD 33 undef = v := ⟨_, rfl⟩
      rw [h33] at q33
      refine will_of rfl ?_
      obtain ⟨b0, b1, b2⟩ := (HC.out.later hb).cells
      intro K hK
      obtain ⟨A7, c7, rfl, r7⟩ := q33
      go_simp
      have hq := H11.out A7 c7 W r7
      refine hq.mono ?_
      rintro e W' ⟨rfl, hb'⟩
      exact hK _ _ ⟨hb', rfl⟩
    · intro a W hsz hb hS
      have h34 : a.tmps.getD 34 undef = .string (bs (txt B)) := hS.1
      clear hS hsz
      refine will_of rfl ?_
      intro K hK
      go_simp
      exact hK _ _ ⟨Below.refl _ _, rfl⟩
    intro f W hb hH
    have e0 : f 0 = .pointer (some ⟨w1.heap.size, 1, none⟩) := hH.1
    have e1 : f 1 = .slice A1 (dig N).length c1 := hH.2.1
    obtain ⟨x2, y2⟩ : ∃ x, f 2 = x := ⟨_, rfl⟩
    have q2 : (IsL [5]) (f 2) W := hH.2.2.1
    rw [y2] at q2
    have e3 : f 3 = .int .i64 (k : Int) := hH.2.2.2.1
    obtain ⟨x4, y4⟩ : ∃ x, f 4 = x := ⟨_, rfl⟩
    have q4 : (IsN P5) (f 4) W := hH.2.2.2.2.1
    rw [y4] at q4
    obtain ⟨x5, y5⟩ : ∃ x, f 5 = x := ⟨_, rfl⟩
    have q5 : (IsN B) (f 5) W := hH.2.2.2.2.2.1
    rw [y5] at q5
    have e6 : f 6 = .string (bs (txt B)) := hH.2.2.2.2.2.2.1
    have e7 : f 7 = .string (bs (txt B)) := hH.2.2.2.2.2.2.2.1
    simp only [List.take_succ_cons, List.take_zero, List.drop_succ_cons, List.drop_zero, putFrom, Act.put, List.setIfInBounds_toArray, List.set_cons_zero, List.set_cons_succ, Nat.reduceAdd, e0, e1, y2, e3, y4, y5, e6, e7]
    clear e0 e1 y2 e3 y4 y5 e6 e7 hH f
    have HW := Lib.hid (raft HW.out hb)
    clear hb
    go_upto_region 11 with fail
    go_loopg [7, 8] B (fun n sv ev wr => ∃ (t : Nat) (tI : Int), sv = .string (bs (txt n)) ∧ ev = .int .i64 tI ∧ W = wr ∧ -9000 ≤ tI ∧ tI ≤ 9000 ∧ Hid (0 < n ∧ core n = core B ∧ tz10 n + t = tz10 B ∧ t + (txt n).length = (txt B).length ∧ tI = (t : Int) - (k : Int)))
    case atStart => exact ⟨0, _, rfl, rfl, rfl, by omega, by omega, hBp, rfl, by omega, by omega, by omega⟩
    case round =>
      obtain ⟨t, tI, rfl, rfl, rfl, t1, t2, hI⟩ := hrel
      obtain ⟨n, hn⟩ : ∃ n, gk = n := ⟨_, rfl⟩
      rw [hn] at hI
      simp only [hn] at *
      obtain ⟨i1, i2, i3, i4, i5⟩ := hI.out
      have hst := txt_step i1
      have HLE := txt_some i1
      by_cases h0 : n % 10 = 0
      · have hst : txt n = txt (n / 10) ++ [48] := txt_ten i1 h0
        have HN := Lib.hid (show 0 < n / 10 ∧ core (n / 10) = core B ∧ tz10 (n / 10) + (t + 1) = tz10 B ∧ (t + 1) + (txt (n / 10)).length = (txt B).length ∧ tI + 1 = ((t + 1 : Nat) : Int) - (k : Int) from
          ⟨by omega, by rw [← i2, core_step i1 h0], by rw [← i3, tz10_step i1 h0]; omega, by rw [← i4, hst, List.length_append]; simp; omega, by omega⟩)
        obtain ⟨L, hL⟩ : ∃ L, (txt (n / 10)).length = L := ⟨_, rfl⟩
        have hsz : (bs (txt n)).size = L + 1 := by rw [bs_size, hst, List.length_append, hL]; rfl
        have hx : ∀ h : L < (bs (txt n)).size, (bs (txt n))[L]'h = 48 := by
          intro h
          show (bs (txt n)).data[L] = 48
          simp only [hst, bs]
          simp [← hL]
        have hcut : (bs (txt n)).extract 0 L = bs (txt (n / 10)) := by
          rw [bs_cut, hst, List.drop_zero, Nat.sub_zero, ← hL, List.take_left]
        have HTI := Lib.hid (show -9000 ≤ tI + 1 ∧ tI + 1 ≤ 9000 by omega)
        have hLb : L ≤ 9000 := by
          have : (txt n).length = L + 1 := by rw [hst, List.length_append, hL]; rfl
          omega
        generalize bs (txt n) = S at *
        obtain ⟨S', hS'⟩ : ∃ S', bs (txt (n / 10)) = S' := ⟨_, rfl⟩
        rw [hS'] at hcut
        have HS := Lib.hid hS'
        clear hst hI i1 i2 i3 i4 i5 HLE hL hn hS'
        go_wp2
        go_roundg (n / 10)
        case measure => have := HN.out.1; omega
        case rel => exact ⟨t + 1, _, by rw [HS.out], rfl, rfl, HTI.out.1, HTI.out.2, HN.out⟩
      · obtain ⟨c, hc⟩ : ∃ c, UInt8.ofNat (48 + n % 10) = c := ⟨_, rfl⟩
        have hne : ¬ (c.toNat : Int) = 48 := by
          rw [← hc]
          intro e
          have h1 : (UInt8.ofNat (48 + n % 10)).toNat = 48 + n % 10 := by simp; omega
          omega
        rw [hc] at hst
        obtain ⟨L, hL⟩ : ∃ L, (txt (n / 10)).length = L := ⟨_, rfl⟩
        have hsz : (bs (txt n)).size = L + 1 := by rw [bs_size, hst, List.length_append, hL]; rfl
        have hx : ∀ h : L < (bs (txt n)).size, (bs (txt n))[L]'h = c := by
          intro h
          show (bs (txt n)).data[L] = c
          simp only [hst, bs]
          simp [← hL]
        have hLb : L ≤ 9000 := by have : (txt n).length = L + 1 := by rw [hst, List.length_append, hL]; rfl
                                  omega
        have HF := Lib.hid (fun W => form5_any sg (txt n) tI (by omega) (by omega) t1 t2 W)
        have e1 : core B = n := by rw [← i2, core_end h0]
        have e2 : (tz10 B : Int) - (k : Int) = tI := by rw [tz10_end h0] at i3; omega
        have HE : Hid (ftext sg (txt n) tI = ftext sg (txt (core B)) ((tz10 B : Int) - (k : Int))) := Lib.hid (by rw [e1, e2])
        generalize bs (txt n) = S at *
        clear hst hI i1 i2 i3 i4 i5 HLE hL hn e1 e2 hc
        go_wp2_with fail
        refine (HF.out _).mono ?_
        rintro e w6 ⟨rfl, hb⟩
        have HW := Lib.hid (raft HW.out hb)
        clear hb
        go_wp2
        go_ret2
        refine ⟨?_, HW.out⟩
        rw [HE.out]
        simp

/-- What both answer. -/
def exT (b : Nat) : List UInt8 := if fwrong b = true then [] else if fbF b = 0 then [48, 101, 48] else ftext (decide (9223372036854775808 < b)) (txt (core (fbN b * 5 ^ (blen (fbD b) - 1)))) ((tz10 (fbN b * 5 ^ (blen (fbD b) - 1)) : Int) - ((blen (fbD b) - 1 : Nat) : Int))
def exC (b : Nat) : Int := if fwrong b = true then 1 else 0
theorem fbF_zero' {b : Nat} (hb : b < 18446744073709551616) (h : fbF b = 0) : b = 0 ∨ b = 9223372036854775808 := by
  unfold fbF at h; split at h <;> omega
theorem exP (b : Nat) (hb : b < 18446744073709551616) (w : World) (hP : Pow10 w) : Calls Tryd.prog 9 #[.float .f64 b] w fun e w' => e = .returned (.tuple #[.string (bs (exT b)), .int .i64 (exC b)]) ∧ Below w.heap.size w w' := by
  unfold exT exC
  by_cases h : fwrong b = true
  · rw [if_pos h, if_pos h]; exact exactp_wrong b hb h w
  · rw [if_neg h, if_neg h]
    by_cases h0 : fbF b = 0
    · rw [if_pos h0]; exact exactp_zero b hb (fbF_zero' hb h0) w
    · rw [if_neg h0]
      have hb0 : b ≠ 9223372036854775808 := by rintro rfl; exact h0 (by decide)
      have hsg : decide (9223372036854775808 < b) = decide (9223372036854775808 ≤ b) := decide_eq_decide.2 (by omega)
      obtain ⟨_, _, l3, l4⟩ := exact_law h0 (rfl : _ = fbF b * 2 ^ ((fbE b : Int) - 1074).toNat * 5 ^ (-((fbE b : Int) - 1074)).toNat) (rfl : _ = (-((fbE b : Int) - 1074)).toNat)
      rw [← l3, ← l4, hsg]
      exact exactp_num b hb (by simpa using h) h0 letters_any _ _ rfl rfl w hP
theorem exD (b : Nat) (hb : b < 18446744073709551616) (w : World) : Calls Tryd.prog 10 #[.int .u64 (b : Int)] w fun e w' => e = .returned (.tuple #[.string (bs (exT b)), .int .i64 (exC b)]) ∧ Below w.heap.size w w' := by
  unfold exT exC
  by_cases h : fwrong b = true
  · rw [if_pos h, if_pos h]; exact exactd_wrong b hb h w
  · rw [if_neg h, if_neg h]
    by_cases h0 : fbF b = 0
    · rw [if_pos h0]; exact exactd_zero b hb (fbF_zero' hb h0) w
    · rw [if_neg h0]; exact exactd_num b hb (by simpa using h) h0 w
theorem exC_range (b : Nat) : 0 ≤ exC b ∧ exC b ≤ 1 := by unfold exC; split <;> omega
theorem fl5_any' (b : Nat) (hb : b < 18446744073709551616) (w : World) : Calls Tryd.prog 7 #[.int .u64 (b : Int)] w fun e w' => e = .returned (.float .f64 b) ∧ w = w' := by
  have h2 := from_any b
  clear hb
  go_enter Tryd.func7, Tryd.ntmps7
  go_wp2
  go_ret
  exact ⟨rfl, rfl⟩
theorem walk_exacts (m1 : Int) (w : World) (h1 : 0 ≤ m1) (h2 : m1 < 18446744073709551616) (hL : Tab16 w ∧ Pow10 w) : Calls Tryd.prog 4 #[.int .u64 m1] w fun e w' => e = .returned (.bool true) ∧ Below w.heap.size w w' := by
  obtain ⟨b, rfl⟩ := Int.eq_ofNat_of_zero_le h1
  have hb : b < 18446744073709551616 := by omega
  have HF := Lib.hid (fun W => fl5_any' b hb W)
  have HP := Lib.hid (fun W (hP : Pow10 W) => exP b hb W hP)
  have HD := Lib.hid (fun W => exD b hb W)
  have HL := Lib.hid hL
  obtain ⟨c0, c1⟩ := exC_range b
  generalize exT b = t at *
  generalize exC b = c at *
  clear h1 h2 hb hL
  go_enter Tryd.func4, Tryd.ntmps4
  go_wp2_with fail
  refine (HF.out _).mono ?_
  rintro e w1 ⟨rfl, rfl⟩
  go_wp2_with fail
  refine (HP.out _ HL.out.2).mono ?_
  rintro e w1 ⟨rfl, hb⟩
  have HW := Lib.hid hb
  clear hb
  go_wp2_with fail
  refine (HD.out _).mono ?_
  rintro e w2 ⟨rfl, hb⟩
  have HW := Lib.hid (raft HW.out hb)
  clear hb
  go_wp2
  go_ret
  exact ⟨by simp, HW.out⟩
end Go.Proofs.YtiadjcilfljdaaaDoor
