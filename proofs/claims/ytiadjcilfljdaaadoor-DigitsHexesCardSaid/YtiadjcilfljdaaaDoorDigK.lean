/- Layer 5: Hex, by the document. -/
import Derived.Test.YtiadjcilfljdaaaDoorDigI
import Derived.Test.YtiadjcilfljdaaaDoorDigJ
import Derived.Laws.DeepStrings4
namespace Go.Proofs.YtiadjcilfljdaaaDoor
set_option linter.unusedVariables false
set_option linter.unusedSimpArgs false
open Go.RowKit Verge

theorem hexd_wrong (b : Nat) (hb : b < 18446744073709551616) (h : fwrong b = true) (w : World) : Calls Tryd.prog 8 #[.int .u64 (b : Int)] w fun e w' => e = .returned (.tuple #[.string (bs []), .int .i64 1]) ∧ Below w.heap.size w w' := by
  have H1 := Lib.hid (fun W => fin2_any b hb W)
  rw [h] at H1
  clear h hb
  go_enter Tryd.func8, Tryd.ntmps8
  go_wp2_with fail
  refine (H1.out _).mono ?_
  rintro e w1 ⟨rfl, rfl⟩
  go_wp2
  go_ret2
  exact ⟨rfl, Below.refl _ _⟩
theorem hexd_zero (b : Nat) (hb : b < 18446744073709551616) (h : b = 0 ∨ b = 9223372036854775808) (w : World) : Calls Tryd.prog 8 #[.int .u64 (b : Int)] w fun e w' => e = .returned (.tuple #[.string (bs [48, 120, 48, 112, 48]), .int .i64 0]) ∧ Below w.heap.size w w' := by
  have H1 := Lib.hid (fun W => fin2_any b hb W)
  have e0 : fwrong b = false := by unfold fwrong fabs; refine decide_eq_false ?_; omega
  rw [e0] at H1
  have H2 := Lib.hid (fun W => size5_any b hb W)
  unfold SizeP at H2
  have eN : fbN b = 0 := by rw [fbN_zero]; omega
  rw [eN] at H2
  have H3 := Lib.hid (fun A c B m d w h => rsign_any false A (dig 0).length c (dig 0) B m d w h rfl (by rw [dig_zero]; simp))
  have er : rsgn false (val (dig 0)) = 0 := by rw [val_dig']; rfl
  rw [er] at H3
  have HB0 := Lib.hid (rnew w ratO)
  clear h hb e0 eN er
  go_enter Tryd.func8, Tryd.ntmps8
  go_wp2_with fail
  refine (H1.out _).mono ?_
  rintro e w1 ⟨rfl, rfl⟩
  go_wp2_with fail
  refine (H2.out _).mono ?_
  rintro e w1 ⟨A1, c1, A2, c2, rfl, hR1, hR2, hb⟩
  go_wp2_with fail
  refine (H3.out _ _ _ _ _ _ (hR1.below (rnew w1 _))).mono ?_
  rintro e w2 ⟨rfl, hb2⟩
  have HW := Lib.hid (raft (raft hb (rnew w1 _)) hb2)
  clear hb hb2
  go_wp2
  go_ret2
  exact ⟨rfl, HW.out⟩
theorem blen_dig {n k : Nat} (h : (dig n).length ≤ k) : blen n ≤ 32 * k := by
  rw [blen_lt]
  have := dig_length_le.1 h
  rw [show (4294967296 : Nat) = 2 ^ 32 from rfl, ← Nat.pow_mul] at this
  exact this
theorem and48 (x : Nat) (hx : x < 18446744073709551616) : Go.bits .and .u64 (x : Int) 281474976710655 = ((x % 281474976710656 : Nat) : Int) := by
  have := Go.u64_and_nat x 281474976710655 hx (by omega)
  rw [show (281474976710655 : Nat) = 2 ^ 48 - 1 from rfl, Nat.and_two_pow_sub_one_eq_mod] at this
  exact this
theorem hex_cut : ∀ (d : Nat), d < 16 → ({ data := #[48, 49, 50, 51, 52, 53, 54, 55, 56, 57, 97, 98, 99, 100, 101, 102] } : ByteArray).extract d (d + 1) = bs [hexc d]
  | 0, _ => rfl | 1, _ => rfl | 2, _ => rfl | 3, _ => rfl | 4, _ => rfl | 5, _ => rfl | 6, _ => rfl | 7, _ => rfl
  | 8, _ => rfl | 9, _ => rfl | 10, _ => rfl | 11, _ => rfl | 12, _ => rfl | 13, _ => rfl | 14, _ => rfl | 15, _ => rfl
  | d + 16, h => absurd h (by omega)

set_option maxRecDepth 20000 in
set_option maxHeartbeats 8000000 in
theorem hexd_num (b : Nat) (hb : b < 18446744073709551616) (hw : fwrong b = false) (hF : fbF b ≠ 0) (w : World) : Calls Tryd.prog 8 #[.int .u64 (b : Int)] w fun e w' => e = .returned (.tuple #[.string (bs (hxtext b)), .int .i64 0]) ∧ Below w.heap.size w w' := by
  have H1 := Lib.hid (fun W => fin2_any b hb W)
  rw [hw] at H1
  have H2 := Lib.hid (fun W => size5_any b hb W)
  unfold SizeP at H2
  obtain ⟨hN, hmx, hex⟩ := hx_doc hF
  have hD : 0 < fbD b := fbD_pos b
  have hrange := hxm_range hF
  have lN := fbN_len b
  have lD := fbD_len b
  have hb0 : b ≠ 9223372036854775808 := by rintro rfl; exact hF (by decide)
  have hsg : decide (9223372036854775808 < b) = decide (9223372036854775808 ≤ b) := decide_eq_decide.2 (by omega)
  rw [hsg] at H2
  obtain ⟨sg, hs⟩ : ∃ sg, decide (9223372036854775808 ≤ b) = sg := ⟨_, rfl⟩
  have HTX : Hid (hxtext b = (if sg = true then [45] else []) ++ [48, 120, 49] ++ (if hxm b = 4503599627370496 then [] else 46 :: hexs 13 (hxm b - 4503599627370496)) ++ 112 :: Lib.itoa (hxe b)) := Lib.hid (by
    unfold hxtext
    cases sg
    · rw [if_neg (of_decide_eq_false hs)]; rfl
    · rw [if_pos (of_decide_eq_true hs)]; rfl)
  rw [hs] at H2
  obtain ⟨tx, htx⟩ : ∃ tx, hxtext b = tx := ⟨_, rfl⟩
  rw [htx] at HTX ⊢
  have hexb : -5000 ≤ hxe b ∧ hxe b ≤ 5000 := by
    have := fbF_blen b; have := fbE_le b; unfold hxe; omega
  clear htx hs hsg hb0 hw hF
  generalize fbN b = N at *
  generalize fbD b = D at *
  obtain ⟨m, hm⟩ : ∃ m, hxm b = m := ⟨_, rfl⟩
  obtain ⟨X, hX⟩ : ∃ m, hxe b = m := ⟨_, rfl⟩
  rw [hm] at hmx hrange HTX
  rw [hX] at hex hexb HTX
  clear hm hX
  have hkN := blen_dig lN
  have hkD := blen_dig lD
  have hkN0 := blen_pos hN
  have hkD0 := blen_pos (show D ≠ 0 by omega)
  have H3 := Lib.hid (fun A c B m d w h => rsign_any false A (dig N).length c (dig N) B m d w h rfl (by omega))
  have er : rsgn false (val (dig N)) = 1 := by rw [val_dig']; unfold rsgn; rw [if_neg hN]; rfl
  rw [er] at H3
  have H4 := Lib.hid (fun A c w h => rlen_any A (dig N).length c (dig N) w h rfl (by omega))
  have H5 := Lib.hid (fun A c w h => rleft_any A (dig N).length c (dig N) 52 52 w rfl h rfl (by omega) (by have := wl_le (dig N); omega))
  have H8 := Lib.hid (fun A c w h => rlen_any A (dig D).length c (dig D) w h rfl (by omega))
  simp only [val_dig'] at H4 H5 H8
  obtain ⟨kN, hkn⟩ : ∃ k, blen N = k := ⟨_, rfl⟩
  obtain ⟨kD, hkd⟩ : ∃ k, blen D = k := ⟨_, rfl⟩
  have lM : (dig (N * 2 ^ 52)).length ≤ 200 := by have := dig_shl_len N 52; omega
  have H6 := Lib.hid (fun A c w h => rright_any A (dig (N * 2 ^ 52)).length c (dig (N * 2 ^ 52)) (kN - 1) ((kN : Int) - 1) w (by omega) (by omega) h rfl (by omega))
  unfold RightPost at H6
  simp only [val_dig'] at H6
  rw [hkn] at hmx hex H4 hkN hkN0
  rw [hkd] at hex H8 hkD hkD0
  rw [hmx] at H6
  have lm : (dig m).length ≤ 2 := dig_length_le.2 (by omega)
  have H7 := Lib.hid (fun A c w h => rword_any A (dig m).length c (dig m) w h rfl (by omega))
  simp only [val_dig'] at H7
  simp only [if_pos (show m < 18446744073709551616 by omega), decide_eq_true (show m < 18446744073709551616 by omega)] at H7
  have hX : ((kN : Int) - 1) - ((kD : Int) - 1) = X := by omega
  have HI := Lib.hid (fun W => number5_any X (by omega) (by omega) W)
  have HIL := itoa_len X (by omega) (by omega)
  obtain ⟨J, hJ⟩ : ∃ J, Lib.itoa X = J := ⟨_, rfl⟩
  rw [hJ] at HI HIL HTX
  obtain ⟨v0, hv0⟩ : ∃ v0, m - 4503599627370496 = v0 := ⟨_, rfl⟩
  obtain ⟨mI, hmI⟩ : ∃ mI : Int, (m : Int) = mI := ⟨_, rfl⟩
  rw [hmI] at H7
  have hg0 : 4503599627370496 ≤ mI := by omega
  have hg1 : mI < 9007199254740992 := by omega
  have hv1 : mI - 4503599627370496 = (v0 : Int) := by omega
  have hvb : v0 < 4503599627370496 := by omega
  have HTY : Hid (tx = (if sg = true then [45] else []) ++ [48, 120, 49] ++ (if v0 = 0 then [] else 46 :: hexs 13 v0) ++ 112 :: J) := Lib.hid (by
    rw [HTX.out, ← hv0]
    by_cases h : m = 4503599627370496
    · rw [if_pos h, if_pos (show m - 4503599627370496 = 0 by omega)]
    · rw [if_neg h, if_neg (show ¬ m - 4503599627370496 = 0 by omega)])
  clear HTX hJ hexb hmx hex lN lD lM lm er hkn hkd hN hD hrange hb hv0 hmI
  go_enter Tryd.func8, Tryd.ntmps8
  go_wp2_with fail
  refine (H1.out _).mono ?_
  rintro e w1 ⟨rfl, rfl⟩
  go_wp2_with fail
  refine (H2.out _).mono ?_
  rintro e w1 ⟨A1, c1, A2, c2, rfl, hR1, hR2, hb⟩
  have HC := Lib.hid (Box3.new w1 (.bool false) (.slice A1 (dig N).length c1) (.slice A2 (dig D).length c2))
  clear H1 H2
  go_wp2_with fail
  refine (H3.out _ _ _ _ _ _ (hR1.below (rnew w1 _))).mono ?_
  rintro e w2 ⟨rfl, hb2⟩
  have HB := raft (rnew w1 (Obj.cells #[.bool false, .slice A1 (dig N).length c1, .slice A2 (dig D).length c2] 39)) hb2
  have HC := Lib.hid (HC.out.later hb2)
  have HR1 := Lib.hid (hR1.below HB)
  have HR2 := Lib.hid (hR2.below HB)
  have HW := Lib.hid (raft hb HB)
  obtain ⟨b0, b1, b2⟩ := HC.out.cells
  clear hR1 hR2 hb hb2 HB H3
  go_wp2_with fail
  refine (H4.out _ _ _ HR1.out).mono ?_
  rintro e w3 ⟨rfl, rfl⟩
  go_wp2_with fail
  refine (H5.out _ _ _ HR1.out).mono ?_
  rintro e w3 ⟨A3, c3, rfl, hR3, _, _, hb⟩
  have HC := Lib.hid (HC.out.later hb)
  have HR2 := Lib.hid (HR2.out.below hb)
  have HR3 := Lib.hid hR3
  have HW := Lib.hid (raft HW.out hb)
  clear H4 H5 HR1 hb hR3 b0 b1 b2
  go_wp2_with fail
  refine (H6.out _ _ _ HR3.out).mono ?_
  rintro e w4 ⟨A4, c4, rfl, hR4, _, _, hb⟩
  have HC := Lib.hid (HC.out.later hb)
  have HR2 := Lib.hid (HR2.out.below hb)
  have HR4 := Lib.hid hR4
  have HW := Lib.hid (raft HW.out hb)
  clear H6 HR3 hb hR4
  go_wp2_with fail
  refine (H7.out _ _ _ HR4.out).mono ?_
  rintro e w5 ⟨rfl, rfl⟩
  clear H7 HR4
  go_upto_region 11 with fail
  have HXN := Lib.hid (hexn_13 (v := v0) hvb)
  by_cases h0 : v0 = 0
  · obtain ⟨pre, hpre⟩ : ∃ pre : List UInt8, pre = [48, 120, 49] := ⟨_, rfl⟩
    have hpl : pre.length ≤ 4 := by rw [hpre]; simp
    rw [show ({ data := #[48, 120, 49] } : ByteArray) = bs pre by rw [hpre]; rfl]
    have HY : Hid (tx = (if sg = true then [45] else []) ++ (pre ++ hexs 13 v0) ++ 112 :: J) := Lib.hid (by rw [HTY.out, hpre, h0]; simp [hexs_zero])
    have hp0 : ¬ 0 < (v0 : Int) := by omega
    clear HTY hpre h0
    · go_upto_region 13 with fail
      go_loopg [9, 11] 13 (fun n sv ov wr => ∃ (v : Nat) (vI : Int) (t : List UInt8), sv = .int .u64 vI ∧ ov = .string (bs t) ∧ t.length ≤ 100 ∧ w4 = wr ∧ Hid ((v : Int) = vI ∧ hexn n v ∧ n ≤ 13 ∧ t.length + n ≤ 20 ∧ t ++ hexs n v = pre ++ hexs 13 v0))
      case atStart => exact ⟨v0, _, pre, rfl, rfl, by omega, rfl, rfl, HXN.out, Nat.le_refl _, by omega, rfl⟩
      case round =>
        obtain ⟨v, vI, t, rfl, rfl, htl, rfl, hI⟩ := hrel
        rcases Nat.eq_zero_or_pos v with hv | hv
        · subst hv
          have hvI : vI = 0 := by have := hI.out.1; omega
          subst hvI
          have ht : t = pre ++ hexs 13 v0 := by have := hI.out.2.2.2.2; rw [hexs_zero, List.append_nil] at this; exact this
          have HT2 := Lib.hid ht
          have z1 : (bs t).size + ({ data := #[112] } : ByteArray).size ≤ 9223372036854775807 := by have : ({ data := #[112] } : ByteArray).size = 1 := rfl; rw [bs_size]; omega
          have z2 : (bs t ++ ({ data := #[112] } : ByteArray)).size + (bs J).size ≤ 9223372036854775807 := by
            rw [show ({ data := #[112] } : ByteArray) = bs [112] from rfl, bs_append, bs_size, bs_size, List.length_append]; simp; omega
          have z3 : ({ data := #[45] } : ByteArray).size + (bs t ++ ({ data := #[112] } : ByteArray) ++ bs J).size ≤ 9223372036854775807 := by
            rw [show ({ data := #[112] } : ByteArray) = bs [112] from rfl, show ({ data := #[45] } : ByteArray) = bs [45] from rfl, bs_append, bs_append, bs_size, bs_size, List.length_append, List.length_append]; simp; omega
          obtain ⟨b0, b1, b2⟩ := HC.out.cells
          clear hI ht hpl
          go_wp2_with fail
          refine (H8.out _ _ _ HR2.out).mono ?_
          rintro e w5 ⟨rfl, rfl⟩
          go_wp2_with fail
          try rw [hX]
          refine (HI.out _).mono ?_
          rintro e w6 ⟨rfl, hb⟩
          have HW := Lib.hid (raft HW.out hb)
          clear hb
          cases sg
          · go_wp2
            go_ret2
            refine ⟨?_, HW.out⟩
            rw [HY.out, ← HT2.out, show ({ data := #[112] } : ByteArray) = bs [112] from rfl, bs_append, bs_append]
            simp
          · go_wp2
            go_ret2
            refine ⟨?_, HW.out⟩
            rw [HY.out, ← HT2.out, show ({ data := #[112] } : ByteArray) = bs [112] from rfl, show ({ data := #[45] } : ByteArray) = bs [45] from rfl, bs_append, bs_append, bs_append]
            simp
        · have hp0 : 0 < vI := by have := hI.out.1; omega
          rcases hg : gk with _ | n
          · exact absurd (hexn_zero (hg ▸ hI.out.2.1)) (by omega)
          · subst hg
            obtain ⟨i1, i2, i3, i4, i5⟩ := hI.out
            obtain ⟨k1, k2⟩ := hexn_step (by omega) i2
            have hvlt : v < 4503599627370496 := i2.1
            obtain ⟨d, hd⟩ : ∃ d, v / 281474976710656 = d := ⟨_, rfl⟩
            obtain ⟨u, hu⟩ : ∃ d, v % 281474976710656 = d := ⟨_, rfl⟩
            have hdI : vI / 281474976710656 = (d : Int) := by omega
            have hvI2 : Go.bits .and .u64 vI 281474976710655 = (u : Int) := by
              have := and48 v (by omega)
              rw [i1, hu] at this
              exact this
            rw [hexs_pos hv, hd, hu] at i5
            rw [hd] at k2
            rw [hu] at k1
            have hul : u < 281474976710656 := by omega
            have hlen := hexs_len n (u * 16)
            have hcut := hex_cut d k2
            have z3 : (bs t).size + (bs [hexc d]).size ≤ 9223372036854775807 := by rw [bs_size, bs_size]; simp; omega
            have HN := Lib.hid (show hexn n (u * 16) ∧ n ≤ 13 ∧ (t ++ [hexc d]).length + n ≤ 20 ∧ t ++ [hexc d] ++ hexs n (u * 16) = pre ++ hexs 13 v0 from ⟨k1, by omega, by rw [List.length_append]; simp; omega, by rw [← i5]; simp⟩)
            have HTL : Hid ((t ++ [hexc d]).length ≤ 100) := Lib.hid (by rw [List.length_append]; simp; omega)
            have g5 : vI < 4503599627370496 := by omega
            have g6 : 0 ≤ vI := by omega
            have hs16 : ({ data := #[48, 49, 50, 51, 52, 53, 54, 55, 56, 57, 97, 98, 99, 100, 101, 102] } : ByteArray).size = 16 := rfl
            obtain ⟨ch, hch⟩ : ∃ ch, hexc d = ch := ⟨_, rfl⟩
            rw [hch] at HN HTL hcut z3
            have k3 : (d : Int) + 1 ≤ 16 := by omega
            clear hI i1 i2 i3 i4 i5 k1 hd hu hlen hv hvlt htl hch
            go_wp2
            go_roundg n
            case measure => omega
            case rel => exact ⟨u * 16, _, t ++ [ch], rfl, by rw [bs_append], HTL.out, rfl, by omega, HN.out.1, HN.out.2.1, HN.out.2.2.1, HN.out.2.2.2⟩
  · have hp0 : 0 < (v0 : Int) := by omega
    have z0 : ({ data := #[48, 120, 49] } : ByteArray).size + ({ data := #[46] } : ByteArray).size ≤ 9223372036854775807 := by
      have : ({ data := #[46] } : ByteArray).size = 1 := rfl
      have : ({ data := #[48, 120, 49] } : ByteArray).size = 3 := rfl
      omega
    go_upto_region 13 with fail
    obtain ⟨pre, hpre⟩ : ∃ pre : List UInt8, pre = [48, 120, 49, 46] := ⟨_, rfl⟩
    have hpl : pre.length ≤ 4 := by rw [hpre]; simp
    rw [show (({ data := #[48, 120, 49] } : ByteArray) ++ ({ data := #[46] } : ByteArray)) = bs pre by rw [hpre]; rfl]
    have HY : Hid (tx = (if sg = true then [45] else []) ++ (pre ++ hexs 13 v0) ++ 112 :: J) := Lib.hid (by rw [HTY.out, hpre, if_neg h0]; simp)
    clear HTY hpre h0 z0
    · skip
      go_loopg [9, 11] 13 (fun n sv ov wr => ∃ (v : Nat) (vI : Int) (t : List UInt8), sv = .int .u64 vI ∧ ov = .string (bs t) ∧ t.length ≤ 100 ∧ w4 = wr ∧ Hid ((v : Int) = vI ∧ hexn n v ∧ n ≤ 13 ∧ t.length + n ≤ 20 ∧ t ++ hexs n v = pre ++ hexs 13 v0))
      case atStart => exact ⟨v0, _, pre, rfl, rfl, by omega, rfl, rfl, HXN.out, Nat.le_refl _, by omega, rfl⟩
      case round =>
        obtain ⟨v, vI, t, rfl, rfl, htl, rfl, hI⟩ := hrel
        rcases Nat.eq_zero_or_pos v with hv | hv
        · subst hv
          have hvI : vI = 0 := by have := hI.out.1; omega
          subst hvI
          have ht : t = pre ++ hexs 13 v0 := by have := hI.out.2.2.2.2; rw [hexs_zero, List.append_nil] at this; exact this
          have HT2 := Lib.hid ht
          have z1 : (bs t).size + ({ data := #[112] } : ByteArray).size ≤ 9223372036854775807 := by have : ({ data := #[112] } : ByteArray).size = 1 := rfl; rw [bs_size]; omega
          have z2 : (bs t ++ ({ data := #[112] } : ByteArray)).size + (bs J).size ≤ 9223372036854775807 := by
            rw [show ({ data := #[112] } : ByteArray) = bs [112] from rfl, bs_append, bs_size, bs_size, List.length_append]; simp; omega
          have z3 : ({ data := #[45] } : ByteArray).size + (bs t ++ ({ data := #[112] } : ByteArray) ++ bs J).size ≤ 9223372036854775807 := by
            rw [show ({ data := #[112] } : ByteArray) = bs [112] from rfl, show ({ data := #[45] } : ByteArray) = bs [45] from rfl, bs_append, bs_append, bs_size, bs_size, List.length_append, List.length_append]; simp; omega
          obtain ⟨b0, b1, b2⟩ := HC.out.cells
          clear hI ht hpl
          go_wp2_with fail
          refine (H8.out _ _ _ HR2.out).mono ?_
          rintro e w5 ⟨rfl, rfl⟩
          go_wp2_with fail
          try rw [hX]
          refine (HI.out _).mono ?_
          rintro e w6 ⟨rfl, hb⟩
          have HW := Lib.hid (raft HW.out hb)
          clear hb
          cases sg
          · go_wp2
            go_ret2
            refine ⟨?_, HW.out⟩
            rw [HY.out, ← HT2.out, show ({ data := #[112] } : ByteArray) = bs [112] from rfl, bs_append, bs_append]
            simp
          · go_wp2
            go_ret2
            refine ⟨?_, HW.out⟩
            rw [HY.out, ← HT2.out, show ({ data := #[112] } : ByteArray) = bs [112] from rfl, show ({ data := #[45] } : ByteArray) = bs [45] from rfl, bs_append, bs_append, bs_append]
            simp
        · have hp0 : 0 < vI := by have := hI.out.1; omega
          rcases hg : gk with _ | n
          · exact absurd (hexn_zero (hg ▸ hI.out.2.1)) (by omega)
          · subst hg
            obtain ⟨i1, i2, i3, i4, i5⟩ := hI.out
            obtain ⟨k1, k2⟩ := hexn_step (by omega) i2
            have hvlt : v < 4503599627370496 := i2.1
            obtain ⟨d, hd⟩ : ∃ d, v / 281474976710656 = d := ⟨_, rfl⟩
            obtain ⟨u, hu⟩ : ∃ d, v % 281474976710656 = d := ⟨_, rfl⟩
            have hdI : vI / 281474976710656 = (d : Int) := by omega
            have hvI2 : Go.bits .and .u64 vI 281474976710655 = (u : Int) := by
              have := and48 v (by omega)
              rw [i1, hu] at this
              exact this
            rw [hexs_pos hv, hd, hu] at i5
            rw [hd] at k2
            rw [hu] at k1
            have hul : u < 281474976710656 := by omega
            have hlen := hexs_len n (u * 16)
            have hcut := hex_cut d k2
            have z3 : (bs t).size + (bs [hexc d]).size ≤ 9223372036854775807 := by rw [bs_size, bs_size]; simp; omega
            have HN := Lib.hid (show hexn n (u * 16) ∧ n ≤ 13 ∧ (t ++ [hexc d]).length + n ≤ 20 ∧ t ++ [hexc d] ++ hexs n (u * 16) = pre ++ hexs 13 v0 from ⟨k1, by omega, by rw [List.length_append]; simp; omega, by rw [← i5]; simp⟩)
            have HTL : Hid ((t ++ [hexc d]).length ≤ 100) := Lib.hid (by rw [List.length_append]; simp; omega)
            have g5 : vI < 4503599627370496 := by omega
            have g6 : 0 ≤ vI := by omega
            have hs16 : ({ data := #[48, 49, 50, 51, 52, 53, 54, 55, 56, 57, 97, 98, 99, 100, 101, 102] } : ByteArray).size = 16 := rfl
            obtain ⟨ch, hch⟩ : ∃ ch, hexc d = ch := ⟨_, rfl⟩
            rw [hch] at HN HTL hcut z3
            have k3 : (d : Int) + 1 ≤ 16 := by omega
            clear hI i1 i2 i3 i4 i5 k1 hd hu hlen hv hvlt htl hch
            go_wp2
            go_roundg n
            case measure => omega
            case rel => exact ⟨u * 16, _, t ++ [ch], rfl, by rw [bs_append], HTL.out, rfl, by omega, HN.out.1, HN.out.2.1, HN.out.2.2.1, HN.out.2.2.2⟩
end Go.Proofs.YtiadjcilfljdaaaDoor
