/- Layer 5: a whole number in decimal, by the document. -/
import Derived.Test.YtiadjcilfljdaaaDoorG36
namespace Go.Proofs.YtiadjcilfljdaaaDoor
set_option linter.unusedVariables false
set_option linter.unusedSimpArgs false
open Go.RowKit Verge

theorem txt_pos {n : Nat} (h : 0 < n) : txt n = Lib.decDigits n := by unfold txt; rw [if_neg (by omega)]
theorem itoa_pos {n : Nat} (h : 0 < n) : Lib.itoa (n : Int) = txt n := by unfold Lib.itoa; rw [if_neg (by omega), txt_pos h]; rfl
theorem itoa_neg (n : Nat) : Lib.itoa (-((n : Int) + 1)) = 45 :: txt (n + 1) := by
  unfold Lib.itoa
  rw [if_pos (by omega), txt_pos (by omega), show (-((n : Int) + 1)).natAbs = n + 1 by omega]
theorem itoa_zero : Lib.itoa 0 = [48] := by
  unfold Lib.itoa
  rw [if_neg (by omega)]
  show Lib.decDigits 0 = [48]
  rw [Lib.decDigits, dif_pos (by omega)]
  rfl
/-- The digits of a number below 2^64. -/
theorem text_small (v : Nat) (hv : v < 18446744073709551616) (W : World) (A : Option Addr) (c : Nat) (h : Rd W A (dig v)) :
    Calls Tryd.prog 32 #[.slice A (dig v).length c] W fun e w' => e = .returned (.string (bs (txt v))) ∧ Below W.heap.size W w' := by
  have hl : (dig v).length ≤ 2 := dig_length_le.2 (by omega)
  have := text_any A (dig v).length c (dig v) W h rfl (by omega)
  rw [val_dig] at this
  exact this

set_option maxHeartbeats 2000000 in
theorem number5_any (v : Int) (h1 : -9223372036854775808 ≤ v) (h2 : v ≤ 9223372036854775807) (w : World) : Calls Tryd.prog 25 #[.int .i64 v] w fun e w' => e = .returned (.string (bs (Lib.itoa v))) ∧ Below w.heap.size w w' := by
  by_cases h0 : v = 0
  · subst h0
    rw [itoa_zero]
    clear h1 h2
    go_enter Tryd.func25, Tryd.ntmps25
    go_wp2
    go_ret
    exact ⟨rfl, Below.refl _ _⟩
  · by_cases hn : v < 0
    · obtain ⟨m, hm⟩ := Int.eq_ofNat_of_zero_le (show 0 ≤ -(v + 1) by omega)
      obtain rfl : v = -((m : Int) + 1) := by omega
      rw [itoa_neg]
      have hmb : m < 9223372036854775808 := by omega
      have hl := txt_len (m + 1)
      have hl2 : blen (m + 1) ≤ 64 := (blen_lt _ _).2 (by omega)
      have hsz : (bs [45]).size + (bs (txt (m + 1))).size ≤ 9223372036854775807 := by rw [bs_size, bs_size]; simp; omega
      have HS : Hid (∀ W, Calls Tryd.prog 60 #[.int .u64 ((m : Int) + 1)] W (Doc W (m + 1))) := Lib.hid (fun W => rsmall_any (m + 1) W (by omega))
      have HT := Lib.hid (fun W A c (h : Rd W A (dig (m + 1))) => text_small (m + 1) (by omega) W A c h)
      obtain ⟨t, ht⟩ : ∃ t, txt (m + 1) = t := ⟨_, rfl⟩
      obtain ⟨l, hdl⟩ : ∃ l, dig (m + 1) = l := ⟨_, rfl⟩
      have e1 : IntKind.i64.wrap (-((m : Int) + 1) + 1) = -(m : Int) := by rw [IntWalk.i64_in _ (by omega)]; omega
      have e2 : IntKind.i64.wrap (-(-(m : Int))) = (m : Int) := by rw [IntWalk.i64_in _ (by omega)]; omega
      unfold Doc at HS
      simp only [ht, hdl] at HT hsz HS ⊢
      have hneg : -((m : Int) + 1) < 0 := by omega
      have hnz : (-((m : Int) + 1) == 0) = false := by rw [beq_eq_false_iff_ne]; omega
      clear ht hdl hl hl2 hm h0
      go_enter Tryd.func25, Tryd.ntmps25
      go_wp2_with fail
      refine (HS.out _).mono ?_
      rintro e w1 ⟨A1, c1, rfl, hR, _, _, hb⟩
      have HB := Lib.hid hb
      have HR := Lib.hid hR
      clear hb hR
      go_wp2_with fail
      refine (HT.out _ _ _ HR.out).mono ?_
      rintro e w2 ⟨rfl, hb⟩
      have HB := Lib.hid (HB.out.trans (hb.mono HB.out.size))
      clear hb
      have hsz2 : ({ data := #[45] } : ByteArray).size + (bs t).size ≤ 9223372036854775807 := hsz
      go_wp2
      go_ret
      exact ⟨by rw [show ({ data := #[45] } : ByteArray) = bs [45] from rfl, bs_append]; rfl, HB.out⟩
    · obtain ⟨m, rfl⟩ := Int.eq_ofNat_of_zero_le (show 0 ≤ v by omega)
      have hm0 : 0 < m := by omega
      rw [itoa_pos hm0]
      have HS : Hid (∀ W, Calls Tryd.prog 60 #[.int .u64 (m : Int)] W (Doc W m)) := Lib.hid (fun W => rsmall_any m W (by omega))
      have HT := Lib.hid (fun W A c (h : Rd W A (dig m)) => text_small m (by omega) W A c h)
      obtain ⟨t, ht⟩ : ∃ t, txt m = t := ⟨_, rfl⟩
      obtain ⟨l, hdl⟩ : ∃ l, dig m = l := ⟨_, rfl⟩
      unfold Doc at HS
      simp only [ht, hdl] at HT HS ⊢
      have hnz : ((m : Int) == 0) = false := by rw [beq_eq_false_iff_ne]; omega
      clear ht hdl h0
      go_enter Tryd.func25, Tryd.ntmps25
      go_wp2_with fail
      refine (HS.out _).mono ?_
      rintro e w1 ⟨A1, c1, rfl, hR, _, _, hb⟩
      have HB := Lib.hid hb
      have HR := Lib.hid hR
      clear hb hR
      go_wp2_with fail
      refine (HT.out _ _ _ HR.out).mono ?_
      rintro e w2 ⟨rfl, hb⟩
      have HB := Lib.hid (HB.out.trans (hb.mono HB.out.size))
      clear hb
      go_wp2
      go_ret
      exact ⟨rfl, HB.out⟩
end Go.Proofs.YtiadjcilfljdaaaDoor

/- Layer 5: Hex, by the program. -/
namespace Go.Proofs.YtiadjcilfljdaaaDoor
set_option linter.unusedVariables false
set_option linter.unusedSimpArgs false
open Go.RowKit Verge

theorem below_growS (w : World) (k : Nat) (os : Array Obj) : Below w.heap.size w (Go.Sort.grow (w.drewN k) os) :=
  ⟨rfl, rfl, rfl, by simp [Go.Sort.grow], fun i hi => by simp [Go.Sort.grow, Array.getElem?_append, hi]⟩
def Pow10 (w : World) : Prop := Lib.TabIs Tryd.prog w "internal/strconv.uint64pow10" .u64 Lib.pow10Tab
theorem Pow10.below {w w' : World} (h : Pow10 w) (hb : Below w.heap.size w w') : Pow10 w' := by
  unfold Pow10 Lib.TabIs World.var? at *
  cases hg : Tryd.prog.globalNamed "internal/strconv.uint64pow10" with
  | none => simp [hg] at h
  | some g =>
    simp only [hg, Option.bind_some] at h ⊢
    have hl : g < w.heap.size := by
      by_cases hr : g < w.heap.size
      · exact hr
      · rw [Array.getElem?_eq_none (by omega)] at h; cases h
    rw [hb.block g hl]
    exact h
theorem itoa5 (n : Int) (h0 : -9223372036854775808 ≤ n) (h1 : n ≤ 9223372036854775807) (w : World) (h : Pow10 w) : Calls Tryd.prog 16 #[.int .i64 n] w fun e w' => e = .returned (.string (bs (Lib.itoa n))) ∧ Below w.heap.size w w' := by
  refine (Go.Proofs.Tryd.strconv_Itoa n h0 h1 w h).mono ?_
  rintro e w' ⟨rfl, k, os, rfl⟩
  exact ⟨rfl, below_growS w k os⟩
theorem and52 (x : Nat) (hx : x < 18446744073709551616) : Go.bits .and .u64 (x : Int) 4503599627370495 = ((x % 4503599627370496 : Nat) : Int) := by
  have := Go.u64_and_nat x 4503599627370495 hx (by omega)
  rw [show (4503599627370495 : Nat) = 2 ^ 52 - 1 from rfl, Nat.and_two_pow_sub_one_eq_mod] at this
  exact this
theorem hexs_len : ∀ (n v : Nat), (hexs n v).length ≤ n
  | 0, _ => Nat.le_refl _
  | n + 1, v => by
    rcases Nat.eq_zero_or_pos v with h | h
    · rw [h, hexs_zero]; exact Nat.zero_le _
    · rw [hexs_pos h, List.length_cons]; have := hexs_len n (v % 281474976710656 * 16); omega
theorem fnan_w {b : Nat} (h : fwrong b = false) : ¬ fnan b := by
  have := of_decide_eq_false h
  unfold fnan; unfold fabs at this; omega
theorem itoa_len (n : Int) (h0 : -9223372036854775808 ≤ n) (h1 : n ≤ 9223372036854775807) : (Lib.itoa n).length ≤ 65 := by
  rcases Int.lt_trichotomy n 0 with h | h | h
  · obtain ⟨m, hm⟩ := Int.eq_ofNat_of_zero_le (show 0 ≤ -(n + 1) by omega)
    obtain rfl : n = -((m : Int) + 1) := by omega
    rw [itoa_neg, List.length_cons]
    have := txt_len (m + 1)
    have : blen (m + 1) ≤ 64 := (blen_lt _ _).2 (by omega)
    omega
  · subst h; rw [itoa_zero]; simp
  · obtain ⟨m, rfl⟩ := Int.eq_ofNat_of_zero_le (show 0 ≤ n by omega)
    rw [itoa_pos (by omega)]
    have := txt_len m
    have : blen m ≤ 64 := (blen_lt _ _).2 (by omega)
    omega
/-- What Hex answers. -/
theorem hex_wrong (b : Nat) (hb : b < 18446744073709551616) (h : fwrong b = true) (w : World) : Calls Tryd.prog 6 #[.float .f64 b] w fun e w' => e = .returned (.tuple #[.string (bs []), .int .i64 1]) ∧ Below w.heap.size w w' := by
  have H1 := Lib.hid (fun W => wrong_any b hb W)
  rw [h] at H1
  clear h hb
  go_enter Tryd.func6, Tryd.ntmps6
  go_wp2_with fail
  refine (H1.out _).mono ?_
  rintro e w1 ⟨rfl, rfl⟩
  go_wp2
  go_ret2
  exact ⟨rfl, Below.refl _ _⟩
theorem hex_zero (b : Nat) (hb : b < 18446744073709551616) (h : b = 0 ∨ b = 9223372036854775808) (w : World) : Calls Tryd.prog 6 #[.float .f64 b] w fun e w' => e = .returned (.tuple #[.string (bs [48, 120, 48, 112, 48]), .int .i64 0]) ∧ Below w.heap.size w w' := by
  have H1 := Lib.hid (fun W => wrong_any b hb W)
  have e0 : fwrong b = false := by unfold fwrong fabs; refine decide_eq_false ?_; omega
  rw [e0] at H1
  have hz : (FloatKind.f64.format.order b 0 == some .eq) = true := (f_isz hb).trans (decide_eq_true h)
  clear h hb e0
  go_enter Tryd.func6, Tryd.ntmps6
  go_wp2_with fail
  refine (H1.out _).mono ?_
  rintro e w1 ⟨rfl, rfl⟩
  go_wp2
  go_ret2
  exact ⟨rfl, Below.refl _ _⟩

set_option maxRecDepth 20000 in
set_option maxHeartbeats 8000000 in
theorem hex_num (b : Nat) (hb : b < 18446744073709551616) (hw : fwrong b = false) (hF : fbF b ≠ 0) (w : World) (hT : Tab16 w) (hP : Pow10 w) : Calls Tryd.prog 6 #[.float .f64 b] w fun e w' => e = .returned (.tuple #[.string (bs (hxtext b)), .int .i64 0]) ∧ Below w.heap.size w w' := by
  have H1 := Lib.hid (fun W => wrong_any b hb W)
  rw [hw] at H1
  have H2 := Lib.hid (fun W => part_any b hb W)
  have hb0 : ¬ (b = 0 ∨ b = 9223372036854775808) := by
    rintro (h | h) <;> (subst h; exact hF (by decide))
  have hz : (FloatKind.f64.format.order b 0 == some .eq) = false := (f_isz hb).trans (decide_eq_false hb0)
  obtain ⟨s, hs⟩ : ∃ s, decide (9223372036854775808 ≤ b) = s := ⟨_, rfl⟩
  have hlt : (FloatKind.f64.format.order b 0 == some .lt) = s := by
    refine (f_lt hb (by omega)).trans ?_
    rw [← hs]
    refine decide_eq_decide.2 ?_
    have e : FK 0 = 0 := rfl
    rw [e]
    have := fnan_w hw
    constructor
    · rintro ⟨_, _, h⟩; unfold FK at h; split at h <;> omega
    · intro h; refine ⟨this, by decide, ?_⟩; unfold FK; rw [if_neg (by omega)]; omega
  have hrange := hxm_range hF
  have hbl := fbF_blen b
  have hEb : fbE b ≤ 2047 := by unfold fbE; omega
  have HLP := Lib.hid (fun i (hi : i ≤ 53 - blen (fbF b)) => hx_loop (b := b) (i := i) hF hi)
  have HTX : Hid (hxtext b = (if s = true then [45, 48, 120, 49] else [48, 120, 49]) ++ (if hxm b = 4503599627370496 then [] else 46 :: hexs 13 (hxm b - 4503599627370496)) ++ 112 :: Lib.itoa (hxe b)) := Lib.hid (by
    unfold hxtext
    cases s
    · rw [if_neg (of_decide_eq_false hs)]; rfl
    · rw [if_pos (of_decide_eq_true hs)]; rfl)
  have HM : Hid (hxm b = fbF b * 2 ^ (53 - blen (fbF b)) ∧ hxe b = (fbE b : Int) - 1075 + blen (fbF b)) := Lib.hid ⟨rfl, rfl⟩
  obtain ⟨tx, htx⟩ : ∃ tx, hxtext b = tx := ⟨_, rfl⟩
  rw [htx] at HTX ⊢
  have HTT := Lib.hid (And.intro hT hP)
  have HH1 : fbF b * 2 ^ 0 = fbF b := by simp
  clear htx hs hb0 hw hb hT hP
  go_enter Tryd.func6, Tryd.ntmps6
  go_wp2_with fail
  refine (H1.out _).mono ?_
  rintro e w1 ⟨rfl, rfl⟩
  go_wp2_with fail
  refine (H2.out _).mono ?_
  rintro e w1 ⟨rfl, rfl⟩
  obtain ⟨L, hL⟩ : ∃ L, 53 - blen (fbF b) = L := ⟨_, rfl⟩
  have HLL := Lib.hid hL
  clear hz H1 H2
  go_wp2
  go_loop [4, 5] (fun sv ev => ∃ (i m : Nat) (mI : Int), i ≤ L ∧ sv = .int .u64 mI ∧ ev = .int .i64 ((fbE b : Int) - 1074 - (i : Int)) ∧ Hid (fbF b * 2 ^ i = m ∧ (m : Int) = mI)) (fun _ ev => ((intOf ev) - ((fbE b : Int) - 1074 - (L : Int))).toNat)
  case atStart => exact ⟨0, fbF b, _, by omega, rfl, by simp, HH1, rfl⟩
  case round =>
    obtain ⟨i, m, mI, hi, rfl, rfl, hm⟩ := hrel
    obtain ⟨hl1, hl2⟩ := HLP.out i (by rw [HLL.out]; exact hi)
    rw [hm.out.1, HLL.out] at hl1
    rw [hm.out.1] at hl2
    have hmI := hm.out.2
    have g0 : 0 ≤ mI := by omega
    have g1 : mI < 9007199254740992 := by omega
    by_cases hiL : i < L
    · have hm52 : mI < 4503599627370496 := by have := hl1.2 hiL; omega
      have hmore := Lib.hid (hx_more (b := b) (i := i))
      clear hl1 hl2 hmI
      go_wp2
      go_round
      case rel => exact ⟨i + 1, m * 2, _, by omega, rfl, by congr 1; omega, by rw [← hmore.out, hm.out.1], by have := hm.out.2; omega⟩
      case measure => simp [intOf]; omega
    · have hm52 : ¬ mI < 4503599627370496 := by have := mt hl1.1 hiL; omega
      obtain rfl : i = L := by omega
      have hxm' : hxm b = m := by rw [HM.out.1, HLL.out]; exact hm.out.1
      have hE' : (fbE b : Int) - 1074 - (i : Int) + 52 = hxe b := by rw [HM.out.2]; have := HLL.out; omega
      rw [hxm'] at hrange HTX
      obtain ⟨v0, hv0⟩ : ∃ v0, m - 4503599627370496 = v0 := ⟨_, rfl⟩
      have hva : Go.bits .and .u64 mI 4503599627370495 = (v0 : Int) := by
        rw [← hmI, and52 m (by omega)]
        omega
      have hvb : v0 < 4503599627370496 := by omega
      have HTY : Hid (tx = (if s = true then [45, 48, 120, 49] else [48, 120, 49]) ++ (if v0 = 0 then [] else 46 :: hexs 13 v0) ++ 112 :: Lib.itoa ((fbE b : Int) - 1074 - (i : Int) + 52)) := Lib.hid (by
        rw [HTX.out, hE', ← hv0]
        by_cases h : m = 4503599627370496
        · rw [if_pos h, if_pos (show m - 4503599627370496 = 0 by omega)]
        · rw [if_neg h, if_neg (show ¬ m - 4503599627370496 = 0 by omega)])
      have HI := Lib.hid (fun W (hW : Pow10 W) => itoa5 ((fbE b : Int) - 1074 - (i : Int) + 52) (by omega) (by omega) W hW)
      have HIL := itoa_len ((fbE b : Int) - 1074 - (i : Int) + 52) (by omega) (by omega)
      obtain ⟨X, hX⟩ : ∃ X, (fbE b : Int) - 1074 - (i : Int) = X := ⟨_, rfl⟩
      simp only [hX] at HI HIL HTY ⊢
      obtain ⟨J, hJ⟩ : ∃ J, Lib.itoa (X + 52) = J := ⟨_, rfl⟩
      rw [hJ] at HI HIL HTY
      have hXb : -5000 ≤ X ∧ X ≤ 5000 := by omega
      obtain ⟨hXb1, hXb2⟩ := hXb
      clear hl1 hl2 hmI hX hJ hxm' hE' hv0 hrange HLP HTX HM HH1 hm hEb
      cases s
      · obtain ⟨pre, hpre⟩ : ∃ pre : List UInt8, pre = [48, 120, 49] := ⟨_, rfl⟩
        have hpl : pre.length ≤ 4 := by rw [hpre]; simp
        have HY : Hid (tx = pre ++ (if v0 = 0 then [] else 46 :: hexs 13 v0) ++ 112 :: J) := Lib.hid (by rw [HTY.out, hpre]; rfl)
        clear HTY
        go_upto_region 12 with fail
        rw [show ({ data := #[48, 120, 49] } : ByteArray) = bs pre by rw [hpre]; rfl]
        clear hpre
        by_cases h0 : v0 = 0
        · subst h0
          have HYY : Hid (tx = pre ++ 112 :: J) := Lib.hid (by rw [HY.out]; simp)
          have z1 : (bs pre).size + ({ data := #[112] } : ByteArray).size ≤ 9223372036854775807 := by have : ({ data := #[112] } : ByteArray).size = 1 := rfl; rw [bs_size]; omega
          have z2 : (bs pre ++ ({ data := #[112] } : ByteArray)).size + (bs J).size ≤ 9223372036854775807 := by
            rw [show ({ data := #[112] } : ByteArray) = bs [112] from rfl, bs_append, bs_size, bs_size, List.length_append]; simp; omega
          clear HY hpl
          go_wp2_with fail
          refine (HI.out _ HTT.out.2).mono ?_
          rintro e w3 ⟨rfl, hb⟩
          have HB := Lib.hid hb
          clear hb
          go_wp2
          go_ret2
          refine ⟨?_, HB.out⟩
          rw [HYY.out, show ({ data := #[112] } : ByteArray) = bs [112] from rfl, bs_append, bs_append]
          simp
        · have hp0 : 0 < (v0 : Int) := by omega
          have z0 : (bs pre).size + ({ data := #[46] } : ByteArray).size ≤ 9223372036854775807 := by have : ({ data := #[46] } : ByteArray).size = 1 := rfl; rw [bs_size]; omega
          have HYY : Hid (tx = (pre ++ [46]) ++ hexs 13 v0 ++ 112 :: J) := Lib.hid (by rw [HY.out, if_neg h0]; simp)
          clear HY
          go_upto_region 15 with fail
          have HXN := Lib.hid (hexn_13 (v := v0) hvb)
          clear hp0 h0
          go_loopg [4, 6] 13 (fun n sv ov wr => ∃ (v : Nat) (vI : Int) (t : List UInt8), sv = .int .u64 vI ∧ ov = .string (bs t) ∧ t.length ≤ 100 ∧ Hid ((v : Int) = vI ∧ hexn n v ∧ n ≤ 13 ∧ t.length + n ≤ 20 ∧ t ++ hexs n v = (pre ++ [46]) ++ hexs 13 v0 ∧ Below w.heap.size w wr))
          case atStart => exact ⟨v0, _, pre ++ [46], rfl, by rw [show ({ data := #[46] } : ByteArray) = bs [46] from rfl, bs_append], by rw [List.length_append]; simp; omega, rfl, HXN.out, Nat.le_refl _, by rw [List.length_append]; simp; omega, rfl, Below.refl _ _⟩
          case round =>
            clear z0 hva hm52 g0 g1
            obtain ⟨v, vI, t, rfl, rfl, htl, hI⟩ := hrel
            rcases Nat.eq_zero_or_pos v with hv | hv
            · subst hv
              have hvI : vI = 0 := by have := hI.out.1; omega
              subst hvI
              have ht : t = (pre ++ [46]) ++ hexs 13 v0 := by have := hI.out.2.2.2.2.1; rw [hexs_zero, List.append_nil] at this; exact this
              have HT2 := Lib.hid ht
              have z1 : (bs t).size + ({ data := #[112] } : ByteArray).size ≤ 9223372036854775807 := by have : ({ data := #[112] } : ByteArray).size = 1 := rfl; rw [bs_size]; omega
              have z2 : (bs t ++ ({ data := #[112] } : ByteArray)).size + (bs J).size ≤ 9223372036854775807 := by
                rw [show ({ data := #[112] } : ByteArray) = bs [112] from rfl, bs_append, bs_size, bs_size, List.length_append]; simp; omega
              have HBl := Lib.hid hI.out.2.2.2.2.2
              clear hI ht
              go_wp2_with fail
              refine (HI.out _ (HTT.out.2.below HBl.out)).mono ?_
              rintro e w3 ⟨rfl, hb⟩
              have HB := Lib.hid (HBl.out.trans (hb.mono HBl.out.size))
              clear hb
              go_wp2
              go_ret2
              refine ⟨?_, HB.out⟩
              rw [HYY.out, ← HT2.out, show ({ data := #[112] } : ByteArray) = bs [112] from rfl, bs_append, bs_append]
              simp
            · have hp0 : 0 < vI := by have := hI.out.1; omega
              rcases hg : gk with _ | n
              · exact absurd (hexn_zero (hg ▸ hI.out.2.1)) (by omega)
              · subst hg
                obtain ⟨i1, i2, i3, i4, i5, i6⟩ := hI.out
                obtain ⟨k1, k2⟩ := hexn_step (by omega) i2
                have hvlt : v < 4503599627370496 := i2.1
                obtain ⟨d, hd⟩ : ∃ d, v / 281474976710656 = d := ⟨_, rfl⟩
                obtain ⟨v2, hv2⟩ : ∃ d, v % 281474976710656 * 16 = d := ⟨_, rfl⟩
                have hdI : vI / 281474976710656 = (d : Int) := by omega
                have hsI : IntKind.u64.wrap (vI * 16) = vI * 16 := IntWalk.u64_in (vI * 16) ⟨by omega, by omega⟩
                have hvI2 : Go.bits .and .u64 (vI * 16) 4503599627370495 = (v2 : Int) := by
                  have := and52 (v * 16) (by omega)
                  rw [show ((v * 16 : Nat) : Int) = vI * 16 by omega] at this
                  rw [this]; omega
                rw [hexs_pos hv, hd, hv2] at i5
                rw [hd] at k2
                rw [hv2] at k1
                have HF := Lib.hid (fun W (hW : Tab16 W) => fmt16 d k2 W hW)
                have hlen := hexs_len n v2
                have z3 : (bs t).size + (bs [hexc d]).size ≤ 9223372036854775807 := by rw [bs_size, bs_size]; simp; omega
                have HN := Lib.hid (show hexn n v2 ∧ n ≤ 13 ∧ (t ++ [hexc d]).length + n ≤ 20 ∧ t ++ [hexc d] ++ hexs n v2 = (pre ++ [46]) ++ hexs 13 v0 from ⟨k1, by omega, by rw [List.length_append]; simp; omega, by rw [← i5]; simp⟩)
                have HBl := Lib.hid i6
                have HTL : Hid ((t ++ [hexc d]).length ≤ 100) := Lib.hid (by rw [List.length_append]; simp; omega)
                have g5 : vI < 4503599627370496 := by omega
                have g6 : 0 ≤ vI := by omega
                clear hI i1 i2 i3 i4 i5 i6 k1 hd hv2 hlen hv hvlt htl
                go_wp2_with fail
                refine (HF.out _ (HTT.out.1.below HBl.out)).mono ?_
                rintro e w3 ⟨rfl, hb⟩
                have HB := Lib.hid (HBl.out.trans (hb.mono HBl.out.size))
                clear hb
                go_wp2
                go_roundg n
                case measure => omega
                case rel => exact ⟨v2, _, t ++ [hexc d], rfl, by rw [bs_append], HTL.out, rfl, HN.out.1, HN.out.2.1, HN.out.2.2.1, HN.out.2.2.2, HB.out⟩
      · obtain ⟨pre, hpre⟩ : ∃ pre : List UInt8, pre = [45, 48, 120, 49] := ⟨_, rfl⟩
        have hpl : pre.length ≤ 4 := by rw [hpre]; simp
        have HY : Hid (tx = pre ++ (if v0 = 0 then [] else 46 :: hexs 13 v0) ++ 112 :: J) := Lib.hid (by rw [HTY.out, hpre]; rfl)
        clear HTY
        go_upto_region 12 with fail
        rw [show ({ data := #[45, 48, 120, 49] } : ByteArray) = bs pre by rw [hpre]; rfl]
        clear hpre
        by_cases h0 : v0 = 0
        · subst h0
          have HYY : Hid (tx = pre ++ 112 :: J) := Lib.hid (by rw [HY.out]; simp)
          have z1 : (bs pre).size + ({ data := #[112] } : ByteArray).size ≤ 9223372036854775807 := by have : ({ data := #[112] } : ByteArray).size = 1 := rfl; rw [bs_size]; omega
          have z2 : (bs pre ++ ({ data := #[112] } : ByteArray)).size + (bs J).size ≤ 9223372036854775807 := by
            rw [show ({ data := #[112] } : ByteArray) = bs [112] from rfl, bs_append, bs_size, bs_size, List.length_append]; simp; omega
          clear HY hpl
          go_wp2_with fail
          refine (HI.out _ HTT.out.2).mono ?_
          rintro e w3 ⟨rfl, hb⟩
          have HB := Lib.hid hb
          clear hb
          go_wp2
          go_ret2
          refine ⟨?_, HB.out⟩
          rw [HYY.out, show ({ data := #[112] } : ByteArray) = bs [112] from rfl, bs_append, bs_append]
          simp
        · have hp0 : 0 < (v0 : Int) := by omega
          have z0 : (bs pre).size + ({ data := #[46] } : ByteArray).size ≤ 9223372036854775807 := by have : ({ data := #[46] } : ByteArray).size = 1 := rfl; rw [bs_size]; omega
          have HYY : Hid (tx = (pre ++ [46]) ++ hexs 13 v0 ++ 112 :: J) := Lib.hid (by rw [HY.out, if_neg h0]; simp)
          clear HY
          go_upto_region 15 with fail
          have HXN := Lib.hid (hexn_13 (v := v0) hvb)
          clear hp0 h0
          go_loopg [4, 6] 13 (fun n sv ov wr => ∃ (v : Nat) (vI : Int) (t : List UInt8), sv = .int .u64 vI ∧ ov = .string (bs t) ∧ t.length ≤ 100 ∧ Hid ((v : Int) = vI ∧ hexn n v ∧ n ≤ 13 ∧ t.length + n ≤ 20 ∧ t ++ hexs n v = (pre ++ [46]) ++ hexs 13 v0 ∧ Below w.heap.size w wr))
          case atStart => exact ⟨v0, _, pre ++ [46], rfl, by rw [show ({ data := #[46] } : ByteArray) = bs [46] from rfl, bs_append], by rw [List.length_append]; simp; omega, rfl, HXN.out, Nat.le_refl _, by rw [List.length_append]; simp; omega, rfl, Below.refl _ _⟩
          case round =>
            clear z0 hva hm52 g0 g1
            obtain ⟨v, vI, t, rfl, rfl, htl, hI⟩ := hrel
            rcases Nat.eq_zero_or_pos v with hv | hv
            · subst hv
              have hvI : vI = 0 := by have := hI.out.1; omega
              subst hvI
              have ht : t = (pre ++ [46]) ++ hexs 13 v0 := by have := hI.out.2.2.2.2.1; rw [hexs_zero, List.append_nil] at this; exact this
              have HT2 := Lib.hid ht
              have z1 : (bs t).size + ({ data := #[112] } : ByteArray).size ≤ 9223372036854775807 := by have : ({ data := #[112] } : ByteArray).size = 1 := rfl; rw [bs_size]; omega
              have z2 : (bs t ++ ({ data := #[112] } : ByteArray)).size + (bs J).size ≤ 9223372036854775807 := by
                rw [show ({ data := #[112] } : ByteArray) = bs [112] from rfl, bs_append, bs_size, bs_size, List.length_append]; simp; omega
              have HBl := Lib.hid hI.out.2.2.2.2.2
              clear hI ht
              go_wp2_with fail
              refine (HI.out _ (HTT.out.2.below HBl.out)).mono ?_
              rintro e w3 ⟨rfl, hb⟩
              have HB := Lib.hid (HBl.out.trans (hb.mono HBl.out.size))
              clear hb
              go_wp2
              go_ret2
              refine ⟨?_, HB.out⟩
              rw [HYY.out, ← HT2.out, show ({ data := #[112] } : ByteArray) = bs [112] from rfl, bs_append, bs_append]
              simp
            · have hp0 : 0 < vI := by have := hI.out.1; omega
              rcases hg : gk with _ | n
              · exact absurd (hexn_zero (hg ▸ hI.out.2.1)) (by omega)
              · subst hg
                obtain ⟨i1, i2, i3, i4, i5, i6⟩ := hI.out
                obtain ⟨k1, k2⟩ := hexn_step (by omega) i2
                have hvlt : v < 4503599627370496 := i2.1
                obtain ⟨d, hd⟩ : ∃ d, v / 281474976710656 = d := ⟨_, rfl⟩
                obtain ⟨v2, hv2⟩ : ∃ d, v % 281474976710656 * 16 = d := ⟨_, rfl⟩
                have hdI : vI / 281474976710656 = (d : Int) := by omega
                have hsI : IntKind.u64.wrap (vI * 16) = vI * 16 := IntWalk.u64_in (vI * 16) ⟨by omega, by omega⟩
                have hvI2 : Go.bits .and .u64 (vI * 16) 4503599627370495 = (v2 : Int) := by
                  have := and52 (v * 16) (by omega)
                  rw [show ((v * 16 : Nat) : Int) = vI * 16 by omega] at this
                  rw [this]; omega
                rw [hexs_pos hv, hd, hv2] at i5
                rw [hd] at k2
                rw [hv2] at k1
                have HF := Lib.hid (fun W (hW : Tab16 W) => fmt16 d k2 W hW)
                have hlen := hexs_len n v2
                have z3 : (bs t).size + (bs [hexc d]).size ≤ 9223372036854775807 := by rw [bs_size, bs_size]; simp; omega
                have HN := Lib.hid (show hexn n v2 ∧ n ≤ 13 ∧ (t ++ [hexc d]).length + n ≤ 20 ∧ t ++ [hexc d] ++ hexs n v2 = (pre ++ [46]) ++ hexs 13 v0 from ⟨k1, by omega, by rw [List.length_append]; simp; omega, by rw [← i5]; simp⟩)
                have HBl := Lib.hid i6
                have HTL : Hid ((t ++ [hexc d]).length ≤ 100) := Lib.hid (by rw [List.length_append]; simp; omega)
                have g5 : vI < 4503599627370496 := by omega
                have g6 : 0 ≤ vI := by omega
                clear hI i1 i2 i3 i4 i5 i6 k1 hd hv2 hlen hv hvlt htl
                go_wp2_with fail
                refine (HF.out _ (HTT.out.1.below HBl.out)).mono ?_
                rintro e w3 ⟨rfl, hb⟩
                have HB := Lib.hid (HBl.out.trans (hb.mono HBl.out.size))
                clear hb
                go_wp2
                go_roundg n
                case measure => omega
                case rel => exact ⟨v2, _, t ++ [hexc d], rfl, by rw [bs_append], HTL.out, rfl, HN.out.1, HN.out.2.1, HN.out.2.2.1, HN.out.2.2.2, HB.out⟩
end Go.Proofs.YtiadjcilfljdaaaDoor
