/- The walk of vergelaw2.NatBits. -/
import Derived.Test.YtniogjkkhkibhaaDoorLawE
namespace Go.Proofs.YtniogjkkhkibhaaDoor
set_option linter.unusedVariables false
set_option linter.unusedSimpArgs false
open Go.RowKit Verge

theorem pow2_words' (k m : Nat) (h : k ≤ 32 * m) : (dig (2 ^ k)).length ≤ m + 1 := words_of_le _ _ (Nat.pow_le_pow_right (by omega) h)

theorem and1u (a b : Nat) (ha : a < 4294967296) (hb : a % 2 = b) : Go.bits .and .u32 (a : Int) 1 = (b : Int) := by
  have h : Go.bits .and .u32 (a : Int) ((1 : Nat) : Int) = ((a &&& 1 : Nat) : Int) := Go.u32_and_nat a 1 ha (by omega)
  rw [Nat.and_one_is_mod, hb] at h
  exact h

set_option maxRecDepth 100000 in
set_option maxHeartbeats 8000000 in
/-- vergelaw2.NatBits answers true, of any list. -/
theorem bits_any (A : Option Addr) (n c : Nat) (X : List Nat) (w : World) (hRx : Rd w A X) (hn : X.length = n) (hc : n ≤ c) (hm : c ≤ 35184372087808) (hT : Tab w) :
    Calls Tryd.prog 3 #[.slice A n c] w fun e w' => e = .returned (.bool true) ∧ Below w.heap.size w w' := by
  have h1 := fun W hW => short_l A n c X 64 64 W rfl hW hn (by omega) (by omega)
  have l1 := val_take_short X hRx.1 (min 64 n)
  obtain ⟨M, hM⟩ : ∃ M, min 64 n = M := ⟨_, rfl⟩
  have hM1 : M ≤ 64 := by omega
  have hM2 : M ≤ n := by omega
  have hM3 : M = 64 ∨ M = n := by omega
  rw [hM] at h1 l1
  obtain ⟨V, hV⟩ : ∃ V, val (X.take M) = V := ⟨_, rfl⟩
  have hbit : ∀ i j x, i < M → j < 32 → X.getD i 0 = x → V % 2 ^ (32 * i + j + 1) = V % 2 ^ (32 * i + j) + 2 ^ (32 * i + j) * (x / 2 ^ j % 2) := fun i j x hi hj hx => by
    rw [mod_bit, ← hV, bit_word (hRx.1.take M) i j hj, getD_take X M i hi, hx]
  have hall : V % 2 ^ (32 * M) = V := by rw [← hV]; exact mod_all (hRx.1.take M) M (by simp; omega)
  rw [hV] at h1 l1
  have hsx := Lib.hid h1
  have HB := Lib.hid hbit
  have HA := Lib.hid hall
  have HN := Lib.hid hn
  have HX := Lib.hid (fun W (hb : Below w.heap.size w W) => hRx.below hb)
  have HT := Lib.hid (fun W (hb : Below w.heap.size w W) => hT.below hb)
  have HV := Lib.hid (cmp_eq V)
  have hd0 : (dig 0).length = 0 := by rw [dig_zero]; rfl
  have HD0 := Lib.hid hd0
  clear h1 hbit hall hn hM hV hT hRx hd0
  go_enter Tryd.func3, Tryd.ntmps3
  go_wp2
  go_loopw [3, 4, 5, 6, 7, 8, 9] (fun sv lv mv iv _ _ _ wr => ∃ (i T : Nat) (As : Option Addr), i ≤ M ∧ iv = .int .i64 i ∧ sv = .slice As (dig T).length (dig T).length ∧ lv = .int .i64 (ntz T : Nat) ∧ mv = .int .i64 (blen T : Nat) ∧
    Dl wr As T ∧ Hid (T = V % 2 ^ (32 * i)) ∧ Below w.heap.size w wr) (fun _ _ _ iv _ _ _ _ => M - (intOf iv).toNat)
  case atStart => exact ⟨0, 0, none, by omega, rfl, by rw [HD0.out], by rw [ntz_zero]; rfl, by rw [blen_zero]; rfl, ⟨by rw [dig_zero]; exact Rd.nil, by rw [HD0.out]; omega⟩, (show 0 = V % 2 ^ (32 * 0) by simp [Nat.mod_one]), Below.refl _ _⟩
  case round =>
    obtain ⟨i, T, As, hi, rfl, rfl, rfl, rfl, hD, hTi, hb⟩ := hrel
    by_cases hiM : i < M
    · have hin : i < n := by omega
      have hi64 : decide ((i : Int) < 64) = true := decide_eq_true (by omega)
      go_wp2
      obtain ⟨wo, rfl⟩ : ∃ wo : World, wo = wr := ⟨_, rfl⟩
      go_loopw [3, 4, 5, 7, 8, 9] (fun sv lv mv jv _ _ wr => ∃ (j T : Nat) (As : Option Addr), j ≤ 32 ∧ jv = .int .i64 j ∧ sv = .slice As (dig T).length (dig T).length ∧ lv = .int .i64 (ntz T : Nat) ∧ mv = .int .i64 (blen T : Nat) ∧
        Dl wr As T ∧ Hid (T = V % 2 ^ (32 * i + j)) ∧ Below w.heap.size w wr) (fun _ _ _ jv _ _ _ => 32 - (intOf jv).toNat)
      case atStart => exact ⟨0, T, As, by omega, rfl, rfl, rfl, rfl, hD, hTi.out, hb⟩
      case round =>
        clear hb hD hTi
        obtain ⟨j, U, Bs, hj, rfl, rfl, rfl, rfl, hD, hTj, hb⟩ := hrel
        by_cases hj32 : j < 32
        · obtain ⟨b, o, rfl, hcx⟩ := (HX.out _ hb).cell (k := i) (by rw [HN.out]; exact hin)
          have hx32 := (HX.out _ hb).1.getD i
          obtain ⟨x, hgx⟩ : ∃ x, X.getD i 0 = x := ⟨_, rfl⟩
          rw [hgx] at hcx hx32
          have hst := HB.out i j x hiM hj32 hgx
          obtain ⟨y, hy⟩ : ∃ y, x / 2 ^ j = y := ⟨_, rfl⟩
          have hyI : (x : Int) / 2 ^ j = (y : Int) := by rw [← hy]; simp
          have hyb : y < 4294967296 := by rw [← hy]; exact Nat.lt_of_le_of_lt (Nat.div_le_self _ _) hx32
          have hyb2 : y ≤ 4294967295 := by omega
          rw [hy] at hst
          have hTlt : U < 2 ^ (32 * i + j) := by rw [hTj.out]; exact Nat.mod_lt _ (Nat.pow_pos (by omega))
          rcases Nat.mod_two_eq_zero_or_one y with hy2 | hy2
          · have hand := and1u y 0 hyb hy2
            rw [hy2, Nat.mul_zero, Nat.add_zero, ← hTj.out] at hst
            have HS := Lib.hid hst
            clear hst hgx hy hy2 hTlt hyb
            go_wp2
            go_roundw
            case rel => exact ⟨j + 1, U, Bs, by omega, by go_num, rfl, rfl, rfl, hD, (show U = V % 2 ^ (32 * i + (j + 1)) from HS.out.symm), hb⟩
            case measure => simp [intOf]; omega
          · have hand := and1u y 1 hyb hy2
            rw [hy2, Nat.mul_one, ← hTj.out] at hst
            obtain ⟨k, hk⟩ : ∃ k, 32 * i + j = k := ⟨_, rfl⟩
            have hkI : (k : Int) = 32 * (i : Int) + (j : Int) := by omega
            rw [hk] at hst hTlt
            obtain ⟨P, hP⟩ : ∃ P, 2 ^ k = P := ⟨_, rfl⟩
            have hS := pow2_words' k 64 (by omega)
            have hbt := blen_top U k hTlt
            have hzt := ntz_top U k
            have hzp := ntz_pow k
            rw [hP] at hst hTlt hS hbt hzt hzp
            have hPV : U + P ≤ V := by rw [← hst]; exact Nat.mod_le _ _
            have hUV := dig_length_mono hPV
            have hb1 : blen 1 = 1 := rfl
            obtain ⟨S, hSS⟩ : ∃ S, U + P = S := ⟨_, rfl⟩
            rw [hSS] at hst hbt hzt hPV
            have hUl : (dig U).length ≤ 64 := Nat.le_trans (dig_length_mono (show U ≤ V by omega)) (by omega)
            have HP := Lib.hid (And.intro hkI (show 1 * 2 ^ k = P by rw [hP, Nat.one_mul]))
            have hkb : k < 2048 := by omega
            have hkb1 : k + blen 1 ≤ 524288 := by rw [hb1]; omega
            have hk1 : ((k : Int) + 1) = ((k + 1 : Nat) : Int) := rfl
            have HK := Lib.hid (And.intro hst (And.intro hk (And.intro hbt hkI)))
            have HSS := Lib.hid hSS
            have hcase : ((((blen U : Nat) : Int) == 0) = true ∧ ntz S = k) ∨ ((((blen U : Nat) : Int) == 0) = false ∧ ntz S = ntz U) := by
              by_cases hU0 : U = 0
              · left
                subst hU0
                exact ⟨rfl, by rw [← hSS, Nat.zero_add]; exact hzp⟩
              · right
                refine ⟨?_, hzt hU0 hTlt⟩
                rw [beq_eq_false_iff_ne]
                intro e
                exact hU0 ((blen_eq_zero U).1 (by omega))
            clear hst hgx hy hy2 hTlt hyb hk hkI hP hbt hzt hzp hPV hb1 hSS
            rcases hcase with ⟨hz0, hzS⟩ | ⟨hz0, hzS⟩
            all_goals
              have HZ := Lib.hid hzS; clear hzS
              have tk1 : True := trivial
              have tk2 : True := trivial
              go_wp2_with (first
                | (go_at_call 14; have _t := tk1; clear tk1 _t; have hal := below_new wr (.cells #[.int .u32 1] 23); replace hD := hD.below hal; replace hb := hb.trans (hal.mono hb.size); clear hal; have hh := shl_h (Li.new wr 1 (by omega) 1 rfl) k _ P HP.out ⟨hkb1, by omega⟩; (with_reducible refine hh.mono ?_); clear hh; rintro en w1 ⟨Ap, rfl, hDp, hb1⟩; replace hD := hD.below hb1; replace hb := hb.trans (hb1.mono hb.size); clear hb1)
                | (go_at_call 15; have _t := tk2; clear tk2 _t; have hh := add_h hD.li hDp.li S HSS.out (by omega); (with_reducible refine hh.mono ?_); clear hh; rintro en w2 ⟨Au, rfl, hDu, hb2⟩; replace hb := hb.trans (hb2.mono hb.size); clear hb2))
              go_roundw
              case rel =>
                obtain ⟨e1, e2, e3, e4⟩ := HK.out
                exact ⟨j + 1, S, Au, by omega, by go_num, rfl, by rw [HZ.out]; try (first | rfl | rw [e4]), by rw [e3]; try (congr 1; omega), hDu, (show S = V % 2 ^ (32 * i + (j + 1)) by rw [← Nat.add_assoc, e2]; exact e1.symm), hb⟩
              case measure => simp [intOf]; omega
        · obtain rfl : j = 32 := by omega
          go_wp2
          go_roundw
          case rel => exact ⟨i + 1, U, Bs, by omega, by go_num, rfl, rfl, rfl, hD, (show U = V % 2 ^ (32 * (i + 1)) by rw [Nat.mul_add, Nat.mul_one]; exact hTj.out), hb⟩
          case measure => simp [intOf]; omega
    · obtain rfl : i = M := by omega
      have hTV : T = V := hTi.out.trans HA.out
      subst hTV
      have hRx := HX.out _ hb
      have hTt := HT.out _ hb
      have hW := hb
      have hD2 := hD.2
      have HL : Hid ((dig T).length ≤ 64) := (by omega : (dig T).length ≤ 64)
      have hxx : ((((blen T : Nat) : Int) == ((blen T : Nat) : Int)) = true) := by simp
      have hzz : ((((ntz T : Nat) : Int) == ((ntz T : Nat) : Int)) = true) := by simp
      clear hTi hb hD2
      rcases hM3 with rfl | rfl
      · by_cases h64 : 64 < n
        · have tk1 : True := trivial
          have tk2 : True := trivial
          have tk3 : True := trivial
          have tk4 : True := trivial
          have tk5 : True := trivial
          have tk6 : True := trivial
          have tk7 : True := trivial
          go_wp2_with (first
            | (go_at_call 16; have _t := tk1; clear tk1 _t; have hh := hsx.out _ hRx; (with_reducible refine hh.mono ?_); clear hh; rintro en w1 ⟨Ax, mx, rfl, hLx, hb1⟩; replace hRx := hRx.below hb1; replace hTt := hTt.below hb1; replace hD := hD.below hb1; replace hW := hW.trans (hb1.mono hW.size); clear hb1)
            | (go_at_call 17; have _t := tk2; clear tk2 _t; have hh := lives_any w1; (with_reducible refine hh.mono ?_); clear hh; rintro en w2 ⟨rfl, hb2⟩; replace hRx := hRx.below hb2; replace hTt := hTt.below hb2; replace hD := hD.below hb2; replace hLx := hLx.below hb2; replace hW := hW.trans (hb2.mono hW.size); clear hb2)
            | (go_at_call 19; have _t := tk3; clear tk3 _t; have hh := norm_l hLx (by have := HL.out; omega); (with_reducible refine hh.mono ?_); clear hh; rintro en w3 ⟨An, rfl, hDn, hb3⟩; replace hRx := hRx.below hb3; replace hTt := hTt.below hb3; replace hD := hD.below hb3; replace hLx := hLx.below hb3; replace hW := hW.trans (hb3.mono hW.size); clear hb3)
            | (go_at_call 18; have _t := tk4; clear tk4 _t; have hh := same_l hDn hD rfl; (with_reducible refine hh.mono ?_); clear hh; rintro en w4 ⟨rfl, hb4⟩; replace hRx := hRx.below hb4; replace hTt := hTt.below hb4; replace hD := hD.below hb4; replace hLx := hLx.below hb4; replace hDn := hDn.below hb4; replace hW := hW.trans (hb4.mono hW.size); clear hb4)
            | (go_at_call 20; have _t := tk5; clear tk5 _t; have hh := len_l hLx; (with_reducible refine hh.mono ?_); clear hh; rintro en w5 ⟨rfl, hb5⟩; replace hRx := hRx.below hb5; replace hTt := hTt.below hb5; replace hD := hD.below hb5; replace hLx := hLx.below hb5; replace hDn := hDn.below hb5; replace hW := hW.trans (hb5.mono hW.size); clear hb5)
            | (go_at_call 21; have _t := tk6; clear tk6 _t; have hh := zeros_l hLx hTt; (with_reducible refine hh.mono ?_); clear hh; rintro en w6 ⟨rfl, hb6⟩; replace hRx := hRx.below hb6; replace hTt := hTt.below hb6; replace hD := hD.below hb6; replace hLx := hLx.below hb6; replace hDn := hDn.below hb6; replace hW := hW.trans (hb6.mono hW.size); clear hb6)
            | (go_at_call 22; have _t := tk7; clear tk7 _t; have hh := cmp_l hLx hD.li; rw [HV.out] at hh; (with_reducible refine hh.mono ?_); clear hh; rintro en w7 ⟨rfl, hb7⟩; replace hRx := hRx.below hb7; replace hTt := hTt.below hb7; replace hD := hD.below hb7; replace hLx := hLx.below hb7; replace hDn := hDn.below hb7; replace hW := hW.trans (hb7.mono hW.size); clear hb7))
          go_ret
          exact ⟨rfl, hW⟩
        · obtain rfl : n = 64 := by omega
          have tk1 : True := trivial
          have tk2 : True := trivial
          have tk3 : True := trivial
          have tk4 : True := trivial
          have tk5 : True := trivial
          have tk6 : True := trivial
          have tk7 : True := trivial
          go_wp2_with (first
            | (go_at_call 16; have _t := tk1; clear tk1 _t; have hh := hsx.out _ hRx; (with_reducible refine hh.mono ?_); clear hh; rintro en w1 ⟨Ax, mx, rfl, hLx, hb1⟩; replace hRx := hRx.below hb1; replace hTt := hTt.below hb1; replace hD := hD.below hb1; replace hW := hW.trans (hb1.mono hW.size); clear hb1)
            | (go_at_call 17; have _t := tk2; clear tk2 _t; have hh := lives_any w1; (with_reducible refine hh.mono ?_); clear hh; rintro en w2 ⟨rfl, hb2⟩; replace hRx := hRx.below hb2; replace hTt := hTt.below hb2; replace hD := hD.below hb2; replace hLx := hLx.below hb2; replace hW := hW.trans (hb2.mono hW.size); clear hb2)
            | (go_at_call 19; have _t := tk3; clear tk3 _t; have hh := norm_l hLx (by have := HL.out; omega); (with_reducible refine hh.mono ?_); clear hh; rintro en w3 ⟨An, rfl, hDn, hb3⟩; replace hRx := hRx.below hb3; replace hTt := hTt.below hb3; replace hD := hD.below hb3; replace hLx := hLx.below hb3; replace hW := hW.trans (hb3.mono hW.size); clear hb3)
            | (go_at_call 18; have _t := tk4; clear tk4 _t; have hh := same_l hDn hD rfl; (with_reducible refine hh.mono ?_); clear hh; rintro en w4 ⟨rfl, hb4⟩; replace hRx := hRx.below hb4; replace hTt := hTt.below hb4; replace hD := hD.below hb4; replace hLx := hLx.below hb4; replace hDn := hDn.below hb4; replace hW := hW.trans (hb4.mono hW.size); clear hb4)
            | (go_at_call 20; have _t := tk5; clear tk5 _t; have hh := len_l hLx; (with_reducible refine hh.mono ?_); clear hh; rintro en w5 ⟨rfl, hb5⟩; replace hRx := hRx.below hb5; replace hTt := hTt.below hb5; replace hD := hD.below hb5; replace hLx := hLx.below hb5; replace hDn := hDn.below hb5; replace hW := hW.trans (hb5.mono hW.size); clear hb5)
            | (go_at_call 21; have _t := tk6; clear tk6 _t; have hh := zeros_l hLx hTt; (with_reducible refine hh.mono ?_); clear hh; rintro en w6 ⟨rfl, hb6⟩; replace hRx := hRx.below hb6; replace hTt := hTt.below hb6; replace hD := hD.below hb6; replace hLx := hLx.below hb6; replace hDn := hDn.below hb6; replace hW := hW.trans (hb6.mono hW.size); clear hb6)
            | (go_at_call 22; have _t := tk7; clear tk7 _t; have hh := cmp_l hLx hD.li; rw [HV.out] at hh; (with_reducible refine hh.mono ?_); clear hh; rintro en w7 ⟨rfl, hb7⟩; replace hRx := hRx.below hb7; replace hTt := hTt.below hb7; replace hD := hD.below hb7; replace hLx := hLx.below hb7; replace hDn := hDn.below hb7; replace hW := hW.trans (hb7.mono hW.size); clear hb7))
          go_ret
          exact ⟨rfl, hW⟩
      · have tk1 : True := trivial
        have tk2 : True := trivial
        have tk3 : True := trivial
        have tk4 : True := trivial
        have tk5 : True := trivial
        have tk6 : True := trivial
        have tk7 : True := trivial
        go_wp2_with (first
          | (go_at_call 16; have _t := tk1; clear tk1 _t; have hh := hsx.out _ hRx; (with_reducible refine hh.mono ?_); clear hh; rintro en w1 ⟨Ax, mx, rfl, hLx, hb1⟩; replace hRx := hRx.below hb1; replace hTt := hTt.below hb1; replace hD := hD.below hb1; replace hW := hW.trans (hb1.mono hW.size); clear hb1)
          | (go_at_call 17; have _t := tk2; clear tk2 _t; have hh := lives_any w1; (with_reducible refine hh.mono ?_); clear hh; rintro en w2 ⟨rfl, hb2⟩; replace hRx := hRx.below hb2; replace hTt := hTt.below hb2; replace hD := hD.below hb2; replace hLx := hLx.below hb2; replace hW := hW.trans (hb2.mono hW.size); clear hb2)
          | (go_at_call 19; have _t := tk3; clear tk3 _t; have hh := norm_l hLx (by have := HL.out; omega); (with_reducible refine hh.mono ?_); clear hh; rintro en w3 ⟨An, rfl, hDn, hb3⟩; replace hRx := hRx.below hb3; replace hTt := hTt.below hb3; replace hD := hD.below hb3; replace hLx := hLx.below hb3; replace hW := hW.trans (hb3.mono hW.size); clear hb3)
          | (go_at_call 18; have _t := tk4; clear tk4 _t; have hh := same_l hDn hD rfl; (with_reducible refine hh.mono ?_); clear hh; rintro en w4 ⟨rfl, hb4⟩; replace hRx := hRx.below hb4; replace hTt := hTt.below hb4; replace hD := hD.below hb4; replace hLx := hLx.below hb4; replace hDn := hDn.below hb4; replace hW := hW.trans (hb4.mono hW.size); clear hb4)
          | (go_at_call 20; have _t := tk5; clear tk5 _t; have hh := len_l hLx; (with_reducible refine hh.mono ?_); clear hh; rintro en w5 ⟨rfl, hb5⟩; replace hRx := hRx.below hb5; replace hTt := hTt.below hb5; replace hD := hD.below hb5; replace hLx := hLx.below hb5; replace hDn := hDn.below hb5; replace hW := hW.trans (hb5.mono hW.size); clear hb5)
          | (go_at_call 21; have _t := tk6; clear tk6 _t; have hh := zeros_l hLx hTt; (with_reducible refine hh.mono ?_); clear hh; rintro en w6 ⟨rfl, hb6⟩; replace hRx := hRx.below hb6; replace hTt := hTt.below hb6; replace hD := hD.below hb6; replace hLx := hLx.below hb6; replace hDn := hDn.below hb6; replace hW := hW.trans (hb6.mono hW.size); clear hb6)
          | (go_at_call 22; have _t := tk7; clear tk7 _t; have hh := cmp_l hLx hD.li; rw [HV.out] at hh; (with_reducible refine hh.mono ?_); clear hh; rintro en w7 ⟨rfl, hb7⟩; replace hRx := hRx.below hb7; replace hTt := hTt.below hb7; replace hD := hD.below hb7; replace hLx := hLx.below hb7; replace hDn := hDn.below hb7; replace hW := hW.trans (hb7.mono hW.size); clear hb7))
        go_ret
        exact ⟨rfl, hW⟩
end Go.Proofs.YtniogjkkhkibhaaDoor
