/- Layer 5: a whole number in decimal, by the document. -/
import Derived.Test.YtenoemjfoadgpaaDoorDigT
import Derived.Test.YtenoemjfoadgpaaDoorDigH
namespace Go.Proofs.YtenoemjfoadgpaaDoor
set_option linter.unusedVariables false
set_option linter.unusedSimpArgs false
open Go.RowKit Verge

theorem txt_pos {n : Nat} (h : 0 < n) : txt n = Lib.decDigits n := by unfold txt; rw [if_neg (by omega)]
theorem itoa_pos {n : Nat} (h : 0 < n) : Lib.itoa (n : Int) = txt n := by unfold Lib.itoa; rw [if_neg (by omega), txt_pos h]; rfl
theorem itoa_neg (n : Nat) : Lib.itoa (-((n : Int) + 1)) = 45 :: txt (n + 1) := by
  unfold Lib.itoa
  rw [if_pos (by omega), txt_pos (by omega), show (-((n : Int) + 1)).natAbs = n + 1 by omega]
theorem itoa_zero : Lib.itoa 0 = [48] := by
  unfold Lib.itoa
  rw [if_neg (by omega)]
  show Lib.decDigits 0 = [48]
  rw [Lib.decDigits, dif_pos (by omega)]
  rfl
/-- The digits of a number below 2^64. -/
theorem text_small (v : Nat) (hv : v < 18446744073709551616) (W : World) (A : Option Addr) (c : Nat) (h : Rd W A (dig v)) :
    Calls Tryd.prog 36 #[.slice A (dig v).length c] W fun e w' => e = .returned (.string (bs (txt v))) ∧ Below W.heap.size W w' := by
  have hl : (dig v).length ≤ 2 := dig_length_le.2 (by omega)
  have := text_any A (dig v).length c (dig v) W h rfl (by omega)
  rw [val_dig] at this
  exact this

set_option maxHeartbeats 2000000 in
theorem number5_any (v : Int) (h1 : -9223372036854775808 ≤ v) (h2 : v ≤ 9223372036854775807) (w : World) : Calls Tryd.prog 61 #[.int .i64 v] w fun e w' => e = .returned (.string (bs (Lib.itoa v))) ∧ Below w.heap.size w w' := by
  by_cases h0 : v = 0
  · subst h0
    rw [itoa_zero]
    clear h1 h2
    go_enter Tryd.func61, Tryd.ntmps61
    go_wp2
    go_ret
    exact ⟨rfl, Below.refl _ _⟩
  · by_cases hn : v < 0
    · obtain ⟨m, hm⟩ := Int.eq_ofNat_of_zero_le (show 0 ≤ -(v + 1) by omega)
      obtain rfl : v = -((m : Int) + 1) := by omega
      rw [itoa_neg]
      have hmb : m < 9223372036854775808 := by omega
      have hl := txt_len (m + 1)
      have hl2 : blen (m + 1) ≤ 64 := (blen_lt _ _).2 (by omega)
      have hsz : (bs [45]).size + (bs (txt (m + 1))).size ≤ 9223372036854775807 := by rw [bs_size, bs_size]; simp; omega
      have HS : Hid (∀ W, Calls Tryd.prog 73 #[.int .u64 ((m : Int) + 1)] W (Doc W (m + 1))) := Lib.hid (fun W => rsmall_any (m + 1) W (by omega))
      have HT := Lib.hid (fun W A c (h : Rd W A (dig (m + 1))) => text_small (m + 1) (by omega) W A c h)
      obtain ⟨t, ht⟩ : ∃ t, txt (m + 1) = t := ⟨_, rfl⟩
      obtain ⟨l, hdl⟩ : ∃ l, dig (m + 1) = l := ⟨_, rfl⟩
      have e1 : IntKind.i64.wrap (-((m : Int) + 1) + 1) = -(m : Int) := by rw [IntWalk.i64_in _ (by omega)]; omega
      have e2 : IntKind.i64.wrap (-(-(m : Int))) = (m : Int) := by rw [IntWalk.i64_in _ (by omega)]; omega
      unfold Doc at HS
      simp only [ht, hdl] at HT hsz HS ⊢
      have hneg : -((m : Int) + 1) < 0 := by omega
      have hnz : (-((m : Int) + 1) == 0) = false := by rw [beq_eq_false_iff_ne]; omega
      clear ht hdl hl hl2 hm h0
      go_enter Tryd.func61, Tryd.ntmps61
      go_wp2_with fail
      refine (HS.out _).mono ?_
      rintro e w1 ⟨A1, c1, rfl, hR, _, _, hb⟩
      have HB := Lib.hid hb
      have HR := Lib.hid hR
      clear hb hR
      go_wp2_with fail
      refine (HT.out _ _ _ HR.out).mono ?_
      rintro e w2 ⟨rfl, hb⟩
      have HB := Lib.hid (HB.out.trans (hb.mono HB.out.size))
      clear hb
      have hsz2 : ({ data := #[45] } : ByteArray).size + (bs t).size ≤ 9223372036854775807 := hsz
      go_wp2
      go_ret
      exact ⟨by rw [show ({ data := #[45] } : ByteArray) = bs [45] from rfl, bs_append]; rfl, HB.out⟩
    · obtain ⟨m, rfl⟩ := Int.eq_ofNat_of_zero_le (show 0 ≤ v by omega)
      have hm0 : 0 < m := by omega
      rw [itoa_pos hm0]
      have HS : Hid (∀ W, Calls Tryd.prog 73 #[.int .u64 (m : Int)] W (Doc W m)) := Lib.hid (fun W => rsmall_any m W (by omega))
      have HT := Lib.hid (fun W A c (h : Rd W A (dig m)) => text_small m (by omega) W A c h)
      obtain ⟨t, ht⟩ : ∃ t, txt m = t := ⟨_, rfl⟩
      obtain ⟨l, hdl⟩ : ∃ l, dig m = l := ⟨_, rfl⟩
      unfold Doc at HS
      simp only [ht, hdl] at HT HS ⊢
      have hnz : ((m : Int) == 0) = false := by rw [beq_eq_false_iff_ne]; omega
      clear ht hdl h0
      go_enter Tryd.func61, Tryd.ntmps61
      go_wp2_with fail
      refine (HS.out _).mono ?_
      rintro e w1 ⟨A1, c1, rfl, hR, _, _, hb⟩
      have HB := Lib.hid hb
      have HR := Lib.hid hR
      clear hb hR
      go_wp2_with fail
      refine (HT.out _ _ _ HR.out).mono ?_
      rintro e w2 ⟨rfl, hb⟩
      have HB := Lib.hid (HB.out.trans (hb.mono HB.out.size))
      clear hb
      go_wp2
      go_ret
      exact ⟨rfl, HB.out⟩
end Go.Proofs.YtenoemjfoadgpaaDoor

/- Layer 5: Hex, by the program. -/
namespace Go.Proofs.YtenoemjfoadgpaaDoor
set_option linter.unusedVariables false
set_option linter.unusedSimpArgs false
open Go.RowKit Verge

theorem below_growS (w : World) (k : Nat) (os : Array Obj) : Below w.heap.size w (Go.Sort.grow (w.drewN k) os) :=
  ⟨rfl, rfl, rfl, by simp [Go.Sort.grow], fun i hi => by simp [Go.Sort.grow, Array.getElem?_append, hi]⟩
def Pow10 (w : World) : Prop := Lib.TabIs Tryd.prog w "internal/strconv.uint64pow10" .u64 Lib.pow10Tab
theorem Pow10.below {w w' : World} (h : Pow10 w) (hb : Below w.heap.size w w') : Pow10 w' := by
  unfold Pow10 Lib.TabIs World.var? at *
  cases hg : Tryd.prog.globalNamed "internal/strconv.uint64pow10" with
  | none => simp [hg] at h
  | some g =>
    simp only [hg, Option.bind_some] at h ⊢
    have hl : g < w.heap.size := by
      by_cases hr : g < w.heap.size
      · exact hr
      · rw [Array.getElem?_eq_none (by omega)] at h; cases h
    rw [hb.block g hl]
    exact h
theorem itoa5 (n : Int) (h0 : -9223372036854775808 ≤ n) (h1 : n ≤ 9223372036854775807) (w : World) (h : Pow10 w) : Calls Tryd.prog 53 #[.int .i64 n] w fun e w' => e = .returned (.string (bs (Lib.itoa n))) ∧ Below w.heap.size w w' := by
  refine (Go.Proofs.Tryd.strconv_Itoa n h0 h1 w h).mono ?_
  rintro e w' ⟨rfl, k, os, rfl⟩
  exact ⟨rfl, below_growS w k os⟩
theorem and52 (x : Nat) (hx : x < 18446744073709551616) : Go.bits .and .u64 (x : Int) 4503599627370495 = ((x % 4503599627370496 : Nat) : Int) := by
  have := Go.u64_and_nat x 4503599627370495 hx (by omega)
  rw [show (4503599627370495 : Nat) = 2 ^ 52 - 1 from rfl, Nat.and_two_pow_sub_one_eq_mod] at this
  exact this
theorem hexs_len : ∀ (n v : Nat), (hexs n v).length ≤ n
  | 0, _ => Nat.le_refl _
  | n + 1, v => by
    rcases Nat.eq_zero_or_pos v with h | h
    · rw [h, hexs_zero]; exact Nat.zero_le _
    · rw [hexs_pos h, List.length_cons]; have := hexs_len n (v % 281474976710656 * 16); omega
theorem fnan_w {b : Nat} (h : fwrong b = false) : ¬ fnan b := by
  have := of_decide_eq_false h
  unfold fnan; unfold fabs at this; omega
theorem itoa_len (n : Int) (h0 : -9223372036854775808 ≤ n) (h1 : n ≤ 9223372036854775807) : (Lib.itoa n).length ≤ 65 := by
  rcases Int.lt_trichotomy n 0 with h | h | h
  · obtain ⟨m, hm⟩ := Int.eq_ofNat_of_zero_le (show 0 ≤ -(n + 1) by omega)
    obtain rfl : n = -((m : Int) + 1) := by omega
    rw [itoa_neg, List.length_cons]
    have := txt_len (m + 1)
    have : blen (m + 1) ≤ 64 := (blen_lt _ _).2 (by omega)
    omega
  · subst h; rw [itoa_zero]; simp
  · obtain ⟨m, rfl⟩ := Int.eq_ofNat_of_zero_le (show 0 ≤ n by omega)
    rw [itoa_pos (by omega)]
    have := txt_len m
    have : blen m ≤ 64 := (blen_lt _ _).2 (by omega)
    omega
end Go.Proofs.YtenoemjfoadgpaaDoor
