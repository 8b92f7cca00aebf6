/- The walk of vergelaw2.NatThere. -/
import Derived.Test.YtniogjkkhkibhaaLawD
namespace Go.Proofs.Ytniogjkkhkibhaa
set_option linter.unusedVariables false
set_option linter.unusedSimpArgs false
open Go.RowKit Verge

theorem root_square (y : Nat) : IsRoot (y * y) y := ⟨Nat.le_refl _, Nat.mul_lt_mul_of_lt_of_le (by omega) (by omega) (by omega)⟩
theorem root_over (y : Nat) : IsRoot (y * y + (y + y)) y := ⟨by omega, by rw [Nat.add_mul, Nat.mul_add]; omega⟩
theorem over_ne (y : Nat) (h : 0 < y) : decide (y * y = y * y + (y + y)) = false := by rw [decide_eq_false_iff_not]; omega
theorem quo_there (x y : Nat) (h : 0 < y) : (x * y + x % y) / y = x ∧ (x * y + x % y) % y = x % y := by
  have hr := Nat.mod_lt x h
  constructor
  · rw [Nat.mul_comm, Nat.mul_add_div h, Nat.div_eq_of_lt hr, Nat.add_zero]
  · rw [Nat.mul_comm, Nat.mul_add_mod, Nat.mod_eq_of_lt hr]
theorem blen_words64 (x k : Nat) (h : (dig x).length ≤ k) : blen x ≤ 32 * k := blen_words_le h
theorem pow2_words (k m : Nat) (h : k ≤ 32 * m) : (dig (2 ^ k)).length ≤ m + 1 := words_of_le _ _ (Nat.pow_le_pow_right (by omega) h)

section
variable (A : Option Addr) (n c : Nat) (X : List Nat) (B : Option Addr) (n' c' : Nat) (Y : List Nat) (k : Int) (w : World) (hRx : Rd w A X) (hn : X.length = n) (hm : n ≤ 70368744177664) (hRy : Rd w B Y) (hn' : Y.length = n') (hm' : n' ≤ 70368744177664)
    (y K : Nat) (hK : K ≤ 4000) (hck : ((K : Int) = k ∧ 0 ≤ k ∧ k ≤ 4000) ∨ (K = 33 ∧ (k < 0 ∨ 4000 < k)))
include hRx hn hm hRy hn' hm' hK hck

set_option maxRecDepth 100000 in
set_option maxHeartbeats 8000000 in
theorem there_pos (hy : val (Y.take (min 64 n')) = y) (hy0 : 0 < y) :
    Calls Try.prog 6 #[.slice A n c, .slice B n' c', .int .i64 k] w fun e w' => e = .returned (.bool true) ∧ Below w.heap.size w w' := by
  have h1 := fun W hW => short_l A n c X 64 64 W rfl hW hn hm (by omega)
  have h2 := fun W hW => short_l B n' c' Y 64 64 W rfl hW hn' hm' (by omega)
  have l1 := val_take_short X hRx.1 (min 64 n)
  have l2 := val_take_short Y hRy.1 (min 64 n')
  obtain ⟨x, hx⟩ : ∃ x, val (X.take (min 64 n)) = x := ⟨_, rfl⟩
  rw [hx] at h1 l1
  rw [hy] at h2 l2
  have hsx := Lib.hid h1
  have hsy := Lib.hid h2
  have HC : Hid (cmp y 0 = 1) := cmp_gt hy0
  have ly : (dig y).length ≤ 64 := by omega
  have lx : (dig x).length ≤ 64 := by omega
  obtain ⟨P, hP⟩ : ∃ P, x * y = P := ⟨_, rfl⟩
  obtain ⟨q0, hq0⟩ : ∃ q0, x / y = q0 := ⟨_, rfl⟩
  obtain ⟨r0, hr0⟩ : ∃ r0, x % y = r0 := ⟨_, rfl⟩
  obtain ⟨a, ha⟩ : ∃ a, P + r0 = a := ⟨_, rfl⟩
  obtain ⟨sq, hsq⟩ : ∃ sq, y * y = sq := ⟨_, rfl⟩
  obtain ⟨tw, htw⟩ : ∃ tw, y + y = tw := ⟨_, rfl⟩
  obtain ⟨ov, hov⟩ : ∃ ov, sq + tw = ov := ⟨_, rfl⟩
  have qt := quo_there x y hy0
  rw [hP, hr0, ha] at qt
  have lP := dig_mul_length x y
  rw [hP] at lP
  have lr := dig_length_mono (Nat.mod_le x y)
  rw [hr0] at lr
  have la := dig_add_length P r0 128 (by omega) (by omega)
  rw [ha] at la
  have lsq := dig_mul_length y y
  rw [hsq] at lsq
  have ltw := dig_add_length y y 64 (by omega) (by omega)
  rw [htw] at ltw
  have lov := dig_add_length sq tw 128 (by omega) (by omega)
  rw [hov] at lov
  have r1 := root_square y
  have r2 := root_over y
  have r3 := over_ne y hy0
  rw [hsq] at r1
  rw [hsq, htw, hov] at r2 r3
  have hcm : cmp r0 y = -1 := cmp_lt (by rw [← hr0]; exact Nat.mod_lt x hy0)
  have HC2 := Lib.hid hcm
  obtain ⟨T2, hT2⟩ : ∃ T2, 2 ^ K = T2 := ⟨_, rfl⟩
  obtain ⟨U, hUT⟩ : ∃ U, x * T2 = U := ⟨_, rfl⟩
  have hU : x * 2 ^ K = U := by rw [hT2]; exact hUT
  have hTp : 0 < T2 := by rw [← hT2]; exact Nat.pow_pos (by omega)
  have hDn : U / 2 ^ K = x ∧ decide (U % 2 ^ K ≠ 0) = false := by
    rw [hT2, ← hUT]
    exact ⟨Nat.mul_div_cancel x hTp, by rw [Nat.mul_mod_left]; rfl⟩
  have lT := pow2_words K 125 (by omega)
  rw [hT2] at lT
  have lU := dig_mul_length x T2
  rw [hUT] at lU
  have lb := blen_words64 x 64 lx
  have HL := Lib.hid (And.intro lx (And.intro ly (And.intro lP (And.intro lr (And.intro la (And.intro lsq (And.intro ltw (And.intro lov (And.intro lT (And.intro lU (And.intro lb hK)))))))))))
  have HE := Lib.hid (And.intro hP (And.intro (And.intro hq0 (And.intro hr0 hy0)) (And.intro ha (And.intro (And.intro qt.1 (And.intro qt.2 hy0)) (And.intro hsq (And.intro htw (And.intro hov (And.intro (And.intro r1 (show decide (y * y = sq) = true by rw [hsq]; simp)) (And.intro (And.intro r2 (show decide (y * y = ov) = false by rw [hsq]; exact r3)) hUT)))))))))
  have hW := Below.refl w.heap.size w
  clear hP hq0 hr0 ha hsq htw hov qt lP lr la lsq ltw lov r1 r2 r3 hcm hUT lT lU lb lx ly hTp
  clear h1 h2 l1 l2 hx hy hn hn' hy0
  rcases hck with ⟨hk1, hk2, hk3⟩ | ⟨rfl, hk2⟩
  · have HS := Lib.hid (And.intro hk1 hU)
    have HT := Lib.hid (And.intro hk1 hT2)
    have HD := Lib.hid (And.intro hk1 hDn)
    clear hk1 hU hT2 hDn
    have tk1 : True := trivial
    have tk2 : True := trivial
    have tk3 : True := trivial
    have tk4 : True := trivial
    have tk5 : True := trivial
    have tk6 : True := trivial
    have tk7 : True := trivial
    have tk8 : True := trivial
    have tk9 : True := trivial
    have tk10 : True := trivial
    have tk11 : True := trivial
    have tk12 : True := trivial
    have tk13 : True := trivial
    have tk14 : True := trivial
    have tk15 : True := trivial
    have tk16 : True := trivial
    have tk17 : True := trivial
    have tk18 : True := trivial
    have tk19 : True := trivial
    have tk20 : True := trivial
    have tk21 : True := trivial
    have tk22 : True := trivial
    have tk23 : True := trivial
    have tk24 : True := trivial
    have tk25 : True := trivial
    have tk26 : True := trivial
    have tk27 : True := trivial
    go_enter Try.func6, Try.ntmps6
    go_wp2_with (first
      | (go_at_call 7; have _t := tk1; clear tk1 _t; have hh := hsx.out _ hRx; (with_reducible refine hh.mono ?_); clear hh; rintro en w1 ⟨Ax, mx, rfl, hLx, hb1⟩; replace hRx := hRx.below hb1; replace hRy := hRy.below hb1; replace hW := hW.trans (hb1.mono hW.size); clear hb1)
      | (go_at_call 7; have _t := tk2; clear tk2 _t; have hh := hsy.out _ hRy; (with_reducible refine hh.mono ?_); clear hh; rintro en w2 ⟨Ay, my, rfl, hLy, hb2⟩; replace hRx := hRx.below hb2; replace hRy := hRy.below hb2; replace hLx := hLx.below hb2; replace hW := hW.trans (hb2.mono hW.size); clear hb2)
      | (go_at_call 15; have _t := tk3; clear tk3 _t; have hh := cmp_l hLy (Li.nil w2); rw [HC.out] at hh; (with_reducible refine hh.mono ?_); clear hh; rintro en w3 ⟨rfl, hb3⟩; replace hRx := hRx.below hb3; replace hRy := hRy.below hb3; replace hLx := hLx.below hb3; replace hLy := hLy.below hb3; replace hW := hW.trans (hb3.mono hW.size); clear hb3)
      | (go_at_call 9; have _t := tk4; clear tk4 _t; have hh := mul_h hLx hLy P HE.out.1 (by have := HL.out; omega); (with_reducible refine hh.mono ?_); clear hh; rintro en w4 ⟨Ap, rfl, hDp, hb4⟩; replace hRx := hRx.below hb4; replace hRy := hRy.below hb4; replace hLx := hLx.below hb4; replace hLy := hLy.below hb4; replace hW := hW.trans (hb4.mono hW.size); clear hb4)
      | (go_at_call 16; have _t := tk5; clear tk5 _t; have hh := quo_h hLx hLy q0 r0 HE.out.2.1; (with_reducible refine hh.mono ?_); clear hh; rintro en w5 ⟨Aq0, Ar0, rfl, hDq0, hDr0, hb5⟩; replace hRx := hRx.below hb5; replace hRy := hRy.below hb5; replace hLx := hLx.below hb5; replace hLy := hLy.below hb5; replace hDp := hDp.below hb5; replace hW := hW.trans (hb5.mono hW.size); clear hb5)
      | (go_at_call 8; have _t := tk6; clear tk6 _t; have hh := add_h hDp.li hDr0.li a HE.out.2.2.1 (by have := HL.out; omega); (with_reducible refine hh.mono ?_); clear hh; rintro en w6 ⟨Aa, rfl, hDa, hb6⟩; replace hRx := hRx.below hb6; replace hRy := hRy.below hb6; replace hLx := hLx.below hb6; replace hLy := hLy.below hb6; replace hDp := hDp.below hb6; replace hDr0 := hDr0.below hb6; replace hW := hW.trans (hb6.mono hW.size); clear hb6)
      | (go_at_call 16; have _t := tk7; clear tk7 _t; have hh := quo_h hDa.li hLy x r0 HE.out.2.2.2.1; (with_reducible refine hh.mono ?_); clear hh; rintro en w7 ⟨Au, Av, rfl, hDu, hDv, hb7⟩; replace hRx := hRx.below hb7; replace hRy := hRy.below hb7; replace hLx := hLx.below hb7; replace hLy := hLy.below hb7; replace hDp := hDp.below hb7; replace hDr0 := hDr0.below hb7; replace hDa := hDa.below hb7; replace hW := hW.trans (hb7.mono hW.size); clear hb7)
      | (go_at_call 15; have _t := tk8; clear tk8 _t; have hh := cmp_l hDr0.li hLy; rw [HC2.out] at hh; (with_reducible refine hh.mono ?_); clear hh; rintro en w8 ⟨rfl, hb8⟩; replace hRx := hRx.below hb8; replace hRy := hRy.below hb8; replace hLx := hLx.below hb8; replace hLy := hLy.below hb8; replace hDp := hDp.below hb8; replace hDr0 := hDr0.below hb8; replace hDa := hDa.below hb8; replace hDu := hDu.below hb8; replace hDv := hDv.below hb8; replace hW := hW.trans (hb8.mono hW.size); clear hb8)
      | (go_at_call 11; have _t := tk9; clear tk9 _t; have hh := lives_any w8; (with_reducible refine hh.mono ?_); clear hh; rintro en w9 ⟨rfl, hb9⟩; replace hRx := hRx.below hb9; replace hRy := hRy.below hb9; replace hLx := hLx.below hb9; replace hLy := hLy.below hb9; replace hDp := hDp.below hb9; replace hDr0 := hDr0.below hb9; replace hDa := hDa.below hb9; replace hDu := hDu.below hb9; replace hDv := hDv.below hb9; replace hW := hW.trans (hb9.mono hW.size); clear hb9)
      | (go_at_call 13; have _t := tk10; clear tk10 _t; have hh := norm_l hLx (by have := HL.out; omega); (with_reducible refine hh.mono ?_); clear hh; rintro en w10 ⟨An, rfl, hDn, hb10⟩; replace hRx := hRx.below hb10; replace hRy := hRy.below hb10; replace hLx := hLx.below hb10; replace hLy := hLy.below hb10; replace hDp := hDp.below hb10; replace hDr0 := hDr0.below hb10; replace hDa := hDa.below hb10; replace hDu := hDu.below hb10; replace hDv := hDv.below hb10; replace hW := hW.trans (hb10.mono hW.size); clear hb10)
      | (go_at_call 12; have _t := tk11; clear tk11 _t; have hh := same_l hDu hDn rfl; (with_reducible refine hh.mono ?_); clear hh; rintro en w11 ⟨rfl, hb11⟩; replace hRx := hRx.below hb11; replace hRy := hRy.below hb11; replace hLx := hLx.below hb11; replace hLy := hLy.below hb11; replace hDp := hDp.below hb11; replace hDr0 := hDr0.below hb11; replace hDa := hDa.below hb11; replace hDu := hDu.below hb11; replace hDv := hDv.below hb11; replace hDn := hDn.below hb11; replace hW := hW.trans (hb11.mono hW.size); clear hb11)
      | (go_at_call 12; have _t := tk12; clear tk12 _t; have hh := same_l hDv hDr0 rfl; (with_reducible refine hh.mono ?_); clear hh; rintro en w12 ⟨rfl, hb12⟩; replace hRx := hRx.below hb12; replace hRy := hRy.below hb12; replace hLx := hLx.below hb12; replace hLy := hLy.below hb12; replace hDp := hDp.below hb12; replace hDr0 := hDr0.below hb12; replace hDa := hDa.below hb12; replace hDu := hDu.below hb12; replace hDv := hDv.below hb12; replace hDn := hDn.below hb12; replace hW := hW.trans (hb12.mono hW.size); clear hb12)
      | (go_at_call 9; have _t := tk13; clear tk13 _t; have hh := mul_h hLy hLy sq HE.out.2.2.2.2.1 (by have := HL.out; omega); (with_reducible refine hh.mono ?_); clear hh; rintro en w13 ⟨As, rfl, hDs, hb13⟩; replace hRx := hRx.below hb13; replace hRy := hRy.below hb13; replace hLx := hLx.below hb13; replace hLy := hLy.below hb13; replace hDp := hDp.below hb13; replace hDr0 := hDr0.below hb13; replace hDa := hDa.below hb13; replace hDu := hDu.below hb13; replace hDv := hDv.below hb13; replace hDn := hDn.below hb13; replace hW := hW.trans (hb13.mono hW.size); clear hb13)
      | (go_at_call 8; have _t := tk14; clear tk14 _t; have hh := add_h hLy hLy tw HE.out.2.2.2.2.2.1 (by have := HL.out; omega); (with_reducible refine hh.mono ?_); clear hh; rintro en w14 ⟨At, rfl, hDt, hb14⟩; replace hRx := hRx.below hb14; replace hRy := hRy.below hb14; replace hLx := hLx.below hb14; replace hLy := hLy.below hb14; replace hDp := hDp.below hb14; replace hDr0 := hDr0.below hb14; replace hDa := hDa.below hb14; replace hDu := hDu.below hb14; replace hDv := hDv.below hb14; replace hDn := hDn.below hb14; replace hDs := hDs.below hb14; replace hW := hW.trans (hb14.mono hW.size); clear hb14)
      | (go_at_call 8; have _t := tk15; clear tk15 _t; have hh := add_h hDs.li hDt.li ov HE.out.2.2.2.2.2.2.1 (by have := HL.out; omega); (with_reducible refine hh.mono ?_); clear hh; rintro en w15 ⟨Ao, rfl, hDo, hb15⟩; replace hRx := hRx.below hb15; replace hRy := hRy.below hb15; replace hLx := hLx.below hb15; replace hLy := hLy.below hb15; replace hDp := hDp.below hb15; replace hDr0 := hDr0.below hb15; replace hDa := hDa.below hb15; replace hDu := hDu.below hb15; replace hDv := hDv.below hb15; replace hDn := hDn.below hb15; replace hDs := hDs.below hb15; replace hDt := hDt.below hb15; replace hW := hW.trans (hb15.mono hW.size); clear hb15)
      | (go_at_call 17; have _t := tk16; clear tk16 _t; have hh := root_h hDs.li y true HE.out.2.2.2.2.2.2.2.1; (with_reducible refine hh.mono ?_); clear hh; rintro en w16 ⟨Ars, rfl, hDrs, hb16⟩; replace hRx := hRx.below hb16; replace hRy := hRy.below hb16; replace hLx := hLx.below hb16; replace hLy := hLy.below hb16; replace hDp := hDp.below hb16; replace hDr0 := hDr0.below hb16; replace hDa := hDa.below hb16; replace hDu := hDu.below hb16; replace hDv := hDv.below hb16; replace hDn := hDn.below hb16; replace hDs := hDs.below hb16; replace hDt := hDt.below hb16; replace hDo := hDo.below hb16; replace hW := hW.trans (hb16.mono hW.size); clear hb16)
      | (go_at_call 17; have _t := tk17; clear tk17 _t; have hh := root_h hDo.li y false HE.out.2.2.2.2.2.2.2.2.1; (with_reducible refine hh.mono ?_); clear hh; rintro en w17 ⟨Aro, rfl, hDro, hb17⟩; replace hRx := hRx.below hb17; replace hRy := hRy.below hb17; replace hLx := hLx.below hb17; replace hLy := hLy.below hb17; replace hDp := hDp.below hb17; replace hDr0 := hDr0.below hb17; replace hDa := hDa.below hb17; replace hDu := hDu.below hb17; replace hDv := hDv.below hb17; replace hDn := hDn.below hb17; replace hDs := hDs.below hb17; replace hDt := hDt.below hb17; replace hDo := hDo.below hb17; replace hDrs := hDrs.below hb17; replace hW := hW.trans (hb17.mono hW.size); clear hb17)
      | (go_at_call 13; have _t := tk18; clear tk18 _t; have hh := norm_l hLy (by have := HL.out; omega); (with_reducible refine hh.mono ?_); clear hh; rintro en w18 ⟨Any, rfl, hDny, hb18⟩; replace hRx := hRx.below hb18; replace hRy := hRy.below hb18; replace hLx := hLx.below hb18; replace hLy := hLy.below hb18; replace hDp := hDp.below hb18; replace hDr0 := hDr0.below hb18; replace hDa := hDa.below hb18; replace hDu := hDu.below hb18; replace hDv := hDv.below hb18; replace hDn := hDn.below hb18; replace hDs := hDs.below hb18; replace hDt := hDt.below hb18; replace hDo := hDo.below hb18; replace hDrs := hDrs.below hb18; replace hDro := hDro.below hb18; replace hW := hW.trans (hb18.mono hW.size); clear hb18)
      | (go_at_call 12; have _t := tk19; clear tk19 _t; have hh := same_l hDrs hDny rfl; (with_reducible refine hh.mono ?_); clear hh; rintro en w19 ⟨rfl, hb19⟩; replace hRx := hRx.below hb19; replace hRy := hRy.below hb19; replace hLx := hLx.below hb19; replace hLy := hLy.below hb19; replace hDp := hDp.below hb19; replace hDr0 := hDr0.below hb19; replace hDa := hDa.below hb19; replace hDu := hDu.below hb19; replace hDv := hDv.below hb19; replace hDn := hDn.below hb19; replace hDs := hDs.below hb19; replace hDt := hDt.below hb19; replace hDo := hDo.below hb19; replace hDrs := hDrs.below hb19; replace hDro := hDro.below hb19; replace hDny := hDny.below hb19; replace hW := hW.trans (hb19.mono hW.size); clear hb19)
      | (go_at_call 12; have _t := tk20; clear tk20 _t; have hh := same_l hDro hDrs rfl; (with_reducible refine hh.mono ?_); clear hh; rintro en w20 ⟨rfl, hb20⟩; replace hRx := hRx.below hb20; replace hRy := hRy.below hb20; replace hLx := hLx.below hb20; replace hLy := hLy.below hb20; replace hDp := hDp.below hb20; replace hDr0 := hDr0.below hb20; replace hDa := hDa.below hb20; replace hDu := hDu.below hb20; replace hDv := hDv.below hb20; replace hDn := hDn.below hb20; replace hDs := hDs.below hb20; replace hDt := hDt.below hb20; replace hDo := hDo.below hb20; replace hDrs := hDrs.below hb20; replace hDro := hDro.below hb20; replace hDny := hDny.below hb20; replace hW := hW.trans (hb20.mono hW.size); clear hb20)
      | (go_at_call 18; have _t := tk21; clear tk21 _t; have hh := shl_h hLx K _ U HS.out (by have := HL.out; omega); (with_reducible refine hh.mono ?_); clear hh; rintro en w21 ⟨Aup, rfl, hDup, hb21⟩; replace hRx := hRx.below hb21; replace hRy := hRy.below hb21; replace hLx := hLx.below hb21; replace hLy := hLy.below hb21; replace hDp := hDp.below hb21; replace hDr0 := hDr0.below hb21; replace hDa := hDa.below hb21; replace hDu := hDu.below hb21; replace hDv := hDv.below hb21; replace hDn := hDn.below hb21; replace hDs := hDs.below hb21; replace hDt := hDt.below hb21; replace hDo := hDo.below hb21; replace hDrs := hDrs.below hb21; replace hDro := hDro.below hb21; replace hDny := hDny.below hb21; replace hW := hW.trans (hb21.mono hW.size); clear hb21)
      | (go_at_call 14; have _t := tk22; clear tk22 _t; have hal := below_new w21 (.cells #[.int .u32 2] 34); replace hRx := hRx.below hal; replace hRy := hRy.below hal; replace hLx := hLx.below hal; replace hLy := hLy.below hal; replace hDp := hDp.below hal; replace hDr0 := hDr0.below hal; replace hDa := hDa.below hal; replace hDu := hDu.below hal; replace hDv := hDv.below hal; replace hDn := hDn.below hal; replace hDs := hDs.below hal; replace hDt := hDt.below hal; replace hDo := hDo.below hal; replace hDrs := hDrs.below hal; replace hDro := hDro.below hal; replace hDny := hDny.below hal; replace hDup := hDup.below hal; replace hW := hW.trans (hal.mono hW.size); clear hal; have hL2 := Li.new w21 2 (by omega) 2 rfl; have hh := pow_l hL2 K _ T2 HT.out (by have := HL.out; omega); (with_reducible refine hh.mono ?_); clear hh; rintro en w22 ⟨Atw2, rfl, hDtw2, hb22⟩; replace hRx := hRx.below hb22; replace hRy := hRy.below hb22; replace hLx := hLx.below hb22; replace hLy := hLy.below hb22; replace hDp := hDp.below hb22; replace hDr0 := hDr0.below hb22; replace hDa := hDa.below hb22; replace hDu := hDu.below hb22; replace hDv := hDv.below hb22; replace hDn := hDn.below hb22; replace hDs := hDs.below hb22; replace hDt := hDt.below hb22; replace hDo := hDo.below hb22; replace hDrs := hDrs.below hb22; replace hDro := hDro.below hb22; replace hDny := hDny.below hb22; replace hDup := hDup.below hb22; replace hL2 := hL2.below hb22; replace hW := hW.trans (hb22.mono hW.size); clear hb22)
      | (go_at_call 9; have _t := tk23; clear tk23 _t; have hh := mul_h hLx hDtw2.li U HE.out.2.2.2.2.2.2.2.2.2 (by have := HL.out; omega); (with_reducible refine hh.mono ?_); clear hh; rintro en w23 ⟨Aby, rfl, hDby, hb23⟩; replace hRx := hRx.below hb23; replace hRy := hRy.below hb23; replace hLx := hLx.below hb23; replace hLy := hLy.below hb23; replace hDp := hDp.below hb23; replace hDr0 := hDr0.below hb23; replace hDa := hDa.below hb23; replace hDu := hDu.below hb23; replace hDv := hDv.below hb23; replace hDn := hDn.below hb23; replace hDs := hDs.below hb23; replace hDt := hDt.below hb23; replace hDo := hDo.below hb23; replace hDrs := hDrs.below hb23; replace hDro := hDro.below hb23; replace hDny := hDny.below hb23; replace hDup := hDup.below hb23; replace hL2 := hL2.below hb23; replace hDtw2 := hDtw2.below hb23; replace hW := hW.trans (hb23.mono hW.size); clear hb23)
      | (go_at_call 19; have _t := tk24; clear tk24 _t; have hh := shr_h hDup.li K _ x false HD.out (by have := HL.out; omega); (with_reducible refine hh.mono ?_); clear hh; rintro en w24 ⟨Adn, rfl, hDdn, hb24⟩; replace hRx := hRx.below hb24; replace hRy := hRy.below hb24; replace hLx := hLx.below hb24; replace hLy := hLy.below hb24; replace hDp := hDp.below hb24; replace hDr0 := hDr0.below hb24; replace hDa := hDa.below hb24; replace hDu := hDu.below hb24; replace hDv := hDv.below hb24; replace hDn := hDn.below hb24; replace hDs := hDs.below hb24; replace hDt := hDt.below hb24; replace hDo := hDo.below hb24; replace hDrs := hDrs.below hb24; replace hDro := hDro.below hb24; replace hDny := hDny.below hb24; replace hDup := hDup.below hb24; replace hL2 := hL2.below hb24; replace hDtw2 := hDtw2.below hb24; replace hDby := hDby.below hb24; replace hW := hW.trans (hb24.mono hW.size); clear hb24)
      | (go_at_call 12; have _t := tk25; clear tk25 _t; have hh := same_l hDup hDby rfl; (with_reducible refine hh.mono ?_); clear hh; rintro en w25 ⟨rfl, hb25⟩; replace hRx := hRx.below hb25; replace hRy := hRy.below hb25; replace hLx := hLx.below hb25; replace hLy := hLy.below hb25; replace hDp := hDp.below hb25; replace hDr0 := hDr0.below hb25; replace hDa := hDa.below hb25; replace hDu := hDu.below hb25; replace hDv := hDv.below hb25; replace hDn := hDn.below hb25; replace hDs := hDs.below hb25; replace hDt := hDt.below hb25; replace hDo := hDo.below hb25; replace hDrs := hDrs.below hb25; replace hDro := hDro.below hb25; replace hDny := hDny.below hb25; replace hDup := hDup.below hb25; replace hL2 := hL2.below hb25; replace hDtw2 := hDtw2.below hb25; replace hDby := hDby.below hb25; replace hDdn := hDdn.below hb25; replace hW := hW.trans (hb25.mono hW.size); clear hb25)
      | (go_at_call 13; have _t := tk26; clear tk26 _t; have hh := norm_l hLx (by have := HL.out; omega); (with_reducible refine hh.mono ?_); clear hh; rintro en w26 ⟨An2, rfl, hDn2, hb26⟩; replace hRx := hRx.below hb26; replace hRy := hRy.below hb26; replace hLx := hLx.below hb26; replace hLy := hLy.below hb26; replace hDp := hDp.below hb26; replace hDr0 := hDr0.below hb26; replace hDa := hDa.below hb26; replace hDu := hDu.below hb26; replace hDv := hDv.below hb26; replace hDn := hDn.below hb26; replace hDs := hDs.below hb26; replace hDt := hDt.below hb26; replace hDo := hDo.below hb26; replace hDrs := hDrs.below hb26; replace hDro := hDro.below hb26; replace hDny := hDny.below hb26; replace hDup := hDup.below hb26; replace hL2 := hL2.below hb26; replace hDtw2 := hDtw2.below hb26; replace hDby := hDby.below hb26; replace hDdn := hDdn.below hb26; replace hW := hW.trans (hb26.mono hW.size); clear hb26)
      | (go_at_call 12; have _t := tk27; clear tk27 _t; have hh := same_l hDdn hDn2 rfl; (with_reducible refine hh.mono ?_); clear hh; rintro en w27 ⟨rfl, hb27⟩; replace hRx := hRx.below hb27; replace hRy := hRy.below hb27; replace hLx := hLx.below hb27; replace hLy := hLy.below hb27; replace hDp := hDp.below hb27; replace hDr0 := hDr0.below hb27; replace hDa := hDa.below hb27; replace hDu := hDu.below hb27; replace hDv := hDv.below hb27; replace hDn := hDn.below hb27; replace hDs := hDs.below hb27; replace hDt := hDt.below hb27; replace hDo := hDo.below hb27; replace hDrs := hDrs.below hb27; replace hDro := hDro.below hb27; replace hDny := hDny.below hb27; replace hDup := hDup.below hb27; replace hL2 := hL2.below hb27; replace hDtw2 := hDtw2.below hb27; replace hDby := hDby.below hb27; replace hDdn := hDdn.below hb27; replace hDn2 := hDn2.below hb27; replace hW := hW.trans (hb27.mono hW.size); clear hb27))
    go_ret
    exact ⟨rfl, hW⟩
  · have HS := Lib.hid (And.intro (show ((33 : Nat) : Int) = 33 from rfl) hU)
    have HT := Lib.hid (And.intro (show ((33 : Nat) : Int) = 33 from rfl) hT2)
    have HD := Lib.hid (And.intro (show ((33 : Nat) : Int) = 33 from rfl) hDn)
    obtain ⟨K, hK33⟩ : ∃ K, 33 = K := ⟨_, rfl⟩
    rw [hK33] at HS HT HD HL
    clear hU hT2 hDn hK33
    rcases hk2 with hk2 | hk2
    all_goals
      have tk1 : True := trivial
      have tk2 : True := trivial
      have tk3 : True := trivial
      have tk4 : True := trivial
      have tk5 : True := trivial
      have tk6 : True := trivial
      have tk7 : True := trivial
      have tk8 : True := trivial
      have tk9 : True := trivial
      have tk10 : True := trivial
      have tk11 : True := trivial
      have tk12 : True := trivial
      have tk13 : True := trivial
      have tk14 : True := trivial
      have tk15 : True := trivial
      have tk16 : True := trivial
      have tk17 : True := trivial
      have tk18 : True := trivial
      have tk19 : True := trivial
      have tk20 : True := trivial
      have tk21 : True := trivial
      have tk22 : True := trivial
      have tk23 : True := trivial
      have tk24 : True := trivial
      have tk25 : True := trivial
      have tk26 : True := trivial
      have tk27 : True := trivial
      go_enter Try.func6, Try.ntmps6
      go_wp2_with (first
        | (go_at_call 7; have _t := tk1; clear tk1 _t; have hh := hsx.out _ hRx; (with_reducible refine hh.mono ?_); clear hh; rintro en w1 ⟨Ax, mx, rfl, hLx, hb1⟩; replace hRx := hRx.below hb1; replace hRy := hRy.below hb1; replace hW := hW.trans (hb1.mono hW.size); clear hb1)
        | (go_at_call 7; have _t := tk2; clear tk2 _t; have hh := hsy.out _ hRy; (with_reducible refine hh.mono ?_); clear hh; rintro en w2 ⟨Ay, my, rfl, hLy, hb2⟩; replace hRx := hRx.below hb2; replace hRy := hRy.below hb2; replace hLx := hLx.below hb2; replace hW := hW.trans (hb2.mono hW.size); clear hb2)
        | (go_at_call 15; have _t := tk3; clear tk3 _t; have hh := cmp_l hLy (Li.nil w2); rw [HC.out] at hh; (with_reducible refine hh.mono ?_); clear hh; rintro en w3 ⟨rfl, hb3⟩; replace hRx := hRx.below hb3; replace hRy := hRy.below hb3; replace hLx := hLx.below hb3; replace hLy := hLy.below hb3; replace hW := hW.trans (hb3.mono hW.size); clear hb3)
        | (go_at_call 9; have _t := tk4; clear tk4 _t; have hh := mul_h hLx hLy P HE.out.1 (by have := HL.out; omega); (with_reducible refine hh.mono ?_); clear hh; rintro en w4 ⟨Ap, rfl, hDp, hb4⟩; replace hRx := hRx.below hb4; replace hRy := hRy.below hb4; replace hLx := hLx.below hb4; replace hLy := hLy.below hb4; replace hW := hW.trans (hb4.mono hW.size); clear hb4)
        | (go_at_call 16; have _t := tk5; clear tk5 _t; have hh := quo_h hLx hLy q0 r0 HE.out.2.1; (with_reducible refine hh.mono ?_); clear hh; rintro en w5 ⟨Aq0, Ar0, rfl, hDq0, hDr0, hb5⟩; replace hRx := hRx.below hb5; replace hRy := hRy.below hb5; replace hLx := hLx.below hb5; replace hLy := hLy.below hb5; replace hDp := hDp.below hb5; replace hW := hW.trans (hb5.mono hW.size); clear hb5)
        | (go_at_call 8; have _t := tk6; clear tk6 _t; have hh := add_h hDp.li hDr0.li a HE.out.2.2.1 (by have := HL.out; omega); (with_reducible refine hh.mono ?_); clear hh; rintro en w6 ⟨Aa, rfl, hDa, hb6⟩; replace hRx := hRx.below hb6; replace hRy := hRy.below hb6; replace hLx := hLx.below hb6; replace hLy := hLy.below hb6; replace hDp := hDp.below hb6; replace hDr0 := hDr0.below hb6; replace hW := hW.trans (hb6.mono hW.size); clear hb6)
        | (go_at_call 16; have _t := tk7; clear tk7 _t; have hh := quo_h hDa.li hLy x r0 HE.out.2.2.2.1; (with_reducible refine hh.mono ?_); clear hh; rintro en w7 ⟨Au, Av, rfl, hDu, hDv, hb7⟩; replace hRx := hRx.below hb7; replace hRy := hRy.below hb7; replace hLx := hLx.below hb7; replace hLy := hLy.below hb7; replace hDp := hDp.below hb7; replace hDr0 := hDr0.below hb7; replace hDa := hDa.below hb7; replace hW := hW.trans (hb7.mono hW.size); clear hb7)
        | (go_at_call 15; have _t := tk8; clear tk8 _t; have hh := cmp_l hDr0.li hLy; rw [HC2.out] at hh; (with_reducible refine hh.mono ?_); clear hh; rintro en w8 ⟨rfl, hb8⟩; replace hRx := hRx.below hb8; replace hRy := hRy.below hb8; replace hLx := hLx.below hb8; replace hLy := hLy.below hb8; replace hDp := hDp.below hb8; replace hDr0 := hDr0.below hb8; replace hDa := hDa.below hb8; replace hDu := hDu.below hb8; replace hDv := hDv.below hb8; replace hW := hW.trans (hb8.mono hW.size); clear hb8)
        | (go_at_call 11; have _t := tk9; clear tk9 _t; have hh := lives_any w8; (with_reducible refine hh.mono ?_); clear hh; rintro en w9 ⟨rfl, hb9⟩; replace hRx := hRx.below hb9; replace hRy := hRy.below hb9; replace hLx := hLx.below hb9; replace hLy := hLy.below hb9; replace hDp := hDp.below hb9; replace hDr0 := hDr0.below hb9; replace hDa := hDa.below hb9; replace hDu := hDu.below hb9; replace hDv := hDv.below hb9; replace hW := hW.trans (hb9.mono hW.size); clear hb9)
        | (go_at_call 13; have _t := tk10; clear tk10 _t; have hh := norm_l hLx (by have := HL.out; omega); (with_reducible refine hh.mono ?_); clear hh; rintro en w10 ⟨An, rfl, hDn, hb10⟩; replace hRx := hRx.below hb10; replace hRy := hRy.below hb10; replace hLx := hLx.below hb10; replace hLy := hLy.below hb10; replace hDp := hDp.below hb10; replace hDr0 := hDr0.below hb10; replace hDa := hDa.below hb10; replace hDu := hDu.below hb10; replace hDv := hDv.below hb10; replace hW := hW.trans (hb10.mono hW.size); clear hb10)
        | (go_at_call 12; have _t := tk11; clear tk11 _t; have hh := same_l hDu hDn rfl; (with_reducible refine hh.mono ?_); clear hh; rintro en w11 ⟨rfl, hb11⟩; replace hRx := hRx.below hb11; replace hRy := hRy.below hb11; replace hLx := hLx.below hb11; replace hLy := hLy.below hb11; replace hDp := hDp.below hb11; replace hDr0 := hDr0.below hb11; replace hDa := hDa.below hb11; replace hDu := hDu.below hb11; replace hDv := hDv.below hb11; replace hDn := hDn.below hb11; replace hW := hW.trans (hb11.mono hW.size); clear hb11)
        | (go_at_call 12; have _t := tk12; clear tk12 _t; have hh := same_l hDv hDr0 rfl; (with_reducible refine hh.mono ?_); clear hh; rintro en w12 ⟨rfl, hb12⟩; replace hRx := hRx.below hb12; replace hRy := hRy.below hb12; replace hLx := hLx.below hb12; replace hLy := hLy.below hb12; replace hDp := hDp.below hb12; replace hDr0 := hDr0.below hb12; replace hDa := hDa.below hb12; replace hDu := hDu.below hb12; replace hDv := hDv.below hb12; replace hDn := hDn.below hb12; replace hW := hW.trans (hb12.mono hW.size); clear hb12)
        | (go_at_call 9; have _t := tk13; clear tk13 _t; have hh := mul_h hLy hLy sq HE.out.2.2.2.2.1 (by have := HL.out; omega); (with_reducible refine hh.mono ?_); clear hh; rintro en w13 ⟨As, rfl, hDs, hb13⟩; replace hRx := hRx.below hb13; replace hRy := hRy.below hb13; replace hLx := hLx.below hb13; replace hLy := hLy.below hb13; replace hDp := hDp.below hb13; replace hDr0 := hDr0.below hb13; replace hDa := hDa.below hb13; replace hDu := hDu.below hb13; replace hDv := hDv.below hb13; replace hDn := hDn.below hb13; replace hW := hW.trans (hb13.mono hW.size); clear hb13)
        | (go_at_call 8; have _t := tk14; clear tk14 _t; have hh := add_h hLy hLy tw HE.out.2.2.2.2.2.1 (by have := HL.out; omega); (with_reducible refine hh.mono ?_); clear hh; rintro en w14 ⟨At, rfl, hDt, hb14⟩; replace hRx := hRx.below hb14; replace hRy := hRy.below hb14; replace hLx := hLx.below hb14; replace hLy := hLy.below hb14; replace hDp := hDp.below hb14; replace hDr0 := hDr0.below hb14; replace hDa := hDa.below hb14; replace hDu := hDu.below hb14; replace hDv := hDv.below hb14; replace hDn := hDn.below hb14; replace hDs := hDs.below hb14; replace hW := hW.trans (hb14.mono hW.size); clear hb14)
        | (go_at_call 8; have _t := tk15; clear tk15 _t; have hh := add_h hDs.li hDt.li ov HE.out.2.2.2.2.2.2.1 (by have := HL.out; omega); (with_reducible refine hh.mono ?_); clear hh; rintro en w15 ⟨Ao, rfl, hDo, hb15⟩; replace hRx := hRx.below hb15; replace hRy := hRy.below hb15; replace hLx := hLx.below hb15; replace hLy := hLy.below hb15; replace hDp := hDp.below hb15; replace hDr0 := hDr0.below hb15; replace hDa := hDa.below hb15; replace hDu := hDu.below hb15; replace hDv := hDv.below hb15; replace hDn := hDn.below hb15; replace hDs := hDs.below hb15; replace hDt := hDt.below hb15; replace hW := hW.trans (hb15.mono hW.size); clear hb15)
        | (go_at_call 17; have _t := tk16; clear tk16 _t; have hh := root_h hDs.li y true HE.out.2.2.2.2.2.2.2.1; (with_reducible refine hh.mono ?_); clear hh; rintro en w16 ⟨Ars, rfl, hDrs, hb16⟩; replace hRx := hRx.below hb16; replace hRy := hRy.below hb16; replace hLx := hLx.below hb16; replace hLy := hLy.below hb16; replace hDp := hDp.below hb16; replace hDr0 := hDr0.below hb16; replace hDa := hDa.below hb16; replace hDu := hDu.below hb16; replace hDv := hDv.below hb16; replace hDn := hDn.below hb16; replace hDs := hDs.below hb16; replace hDt := hDt.below hb16; replace hDo := hDo.below hb16; replace hW := hW.trans (hb16.mono hW.size); clear hb16)
        | (go_at_call 17; have _t := tk17; clear tk17 _t; have hh := root_h hDo.li y false HE.out.2.2.2.2.2.2.2.2.1; (with_reducible refine hh.mono ?_); clear hh; rintro en w17 ⟨Aro, rfl, hDro, hb17⟩; replace hRx := hRx.below hb17; replace hRy := hRy.below hb17; replace hLx := hLx.below hb17; replace hLy := hLy.below hb17; replace hDp := hDp.below hb17; replace hDr0 := hDr0.below hb17; replace hDa := hDa.below hb17; replace hDu := hDu.below hb17; replace hDv := hDv.below hb17; replace hDn := hDn.below hb17; replace hDs := hDs.below hb17; replace hDt := hDt.below hb17; replace hDo := hDo.below hb17; replace hDrs := hDrs.below hb17; replace hW := hW.trans (hb17.mono hW.size); clear hb17)
        | (go_at_call 13; have _t := tk18; clear tk18 _t; have hh := norm_l hLy (by have := HL.out; omega); (with_reducible refine hh.mono ?_); clear hh; rintro en w18 ⟨Any, rfl, hDny, hb18⟩; replace hRx := hRx.below hb18; replace hRy := hRy.below hb18; replace hLx := hLx.below hb18; replace hLy := hLy.below hb18; replace hDp := hDp.below hb18; replace hDr0 := hDr0.below hb18; replace hDa := hDa.below hb18; replace hDu := hDu.below hb18; replace hDv := hDv.below hb18; replace hDn := hDn.below hb18; replace hDs := hDs.below hb18; replace hDt := hDt.below hb18; replace hDo := hDo.below hb18; replace hDrs := hDrs.below hb18; replace hDro := hDro.below hb18; replace hW := hW.trans (hb18.mono hW.size); clear hb18)
        | (go_at_call 12; have _t := tk19; clear tk19 _t; have hh := same_l hDrs hDny rfl; (with_reducible refine hh.mono ?_); clear hh; rintro en w19 ⟨rfl, hb19⟩; replace hRx := hRx.below hb19; replace hRy := hRy.below hb19; replace hLx := hLx.below hb19; replace hLy := hLy.below hb19; replace hDp := hDp.below hb19; replace hDr0 := hDr0.below hb19; replace hDa := hDa.below hb19; replace hDu := hDu.below hb19; replace hDv := hDv.below hb19; replace hDn := hDn.below hb19; replace hDs := hDs.below hb19; replace hDt := hDt.below hb19; replace hDo := hDo.below hb19; replace hDrs := hDrs.below hb19; replace hDro := hDro.below hb19; replace hDny := hDny.below hb19; replace hW := hW.trans (hb19.mono hW.size); clear hb19)
        | (go_at_call 12; have _t := tk20; clear tk20 _t; have hh := same_l hDro hDrs rfl; (with_reducible refine hh.mono ?_); clear hh; rintro en w20 ⟨rfl, hb20⟩; replace hRx := hRx.below hb20; replace hRy := hRy.below hb20; replace hLx := hLx.below hb20; replace hLy := hLy.below hb20; replace hDp := hDp.below hb20; replace hDr0 := hDr0.below hb20; replace hDa := hDa.below hb20; replace hDu := hDu.below hb20; replace hDv := hDv.below hb20; replace hDn := hDn.below hb20; replace hDs := hDs.below hb20; replace hDt := hDt.below hb20; replace hDo := hDo.below hb20; replace hDrs := hDrs.below hb20; replace hDro := hDro.below hb20; replace hDny := hDny.below hb20; replace hW := hW.trans (hb20.mono hW.size); clear hb20)
        | (go_at_call 18; have _t := tk21; clear tk21 _t; have hh := shl_h hLx K _ U HS.out (by have := HL.out; omega); (with_reducible refine hh.mono ?_); clear hh; rintro en w21 ⟨Aup, rfl, hDup, hb21⟩; replace hRx := hRx.below hb21; replace hRy := hRy.below hb21; replace hLx := hLx.below hb21; replace hLy := hLy.below hb21; replace hDp := hDp.below hb21; replace hDr0 := hDr0.below hb21; replace hDa := hDa.below hb21; replace hDu := hDu.below hb21; replace hDv := hDv.below hb21; replace hDn := hDn.below hb21; replace hDs := hDs.below hb21; replace hDt := hDt.below hb21; replace hDo := hDo.below hb21; replace hDrs := hDrs.below hb21; replace hDro := hDro.below hb21; replace hDny := hDny.below hb21; replace hW := hW.trans (hb21.mono hW.size); clear hb21)
        | (go_at_call 14; have _t := tk22; clear tk22 _t; have hal := below_new w21 (.cells #[.int .u32 2] 34); replace hRx := hRx.below hal; replace hRy := hRy.below hal; replace hLx := hLx.below hal; replace hLy := hLy.below hal; replace hDp := hDp.below hal; replace hDr0 := hDr0.below hal; replace hDa := hDa.below hal; replace hDu := hDu.below hal; replace hDv := hDv.below hal; replace hDn := hDn.below hal; replace hDs := hDs.below hal; replace hDt := hDt.below hal; replace hDo := hDo.below hal; replace hDrs := hDrs.below hal; replace hDro := hDro.below hal; replace hDny := hDny.below hal; replace hDup := hDup.below hal; replace hW := hW.trans (hal.mono hW.size); clear hal; have hL2 := Li.new w21 2 (by omega) 2 rfl; have hh := pow_l hL2 K _ T2 HT.out (by have := HL.out; omega); (with_reducible refine hh.mono ?_); clear hh; rintro en w22 ⟨Atw2, rfl, hDtw2, hb22⟩; replace hRx := hRx.below hb22; replace hRy := hRy.below hb22; replace hLx := hLx.below hb22; replace hLy := hLy.below hb22; replace hDp := hDp.below hb22; replace hDr0 := hDr0.below hb22; replace hDa := hDa.below hb22; replace hDu := hDu.below hb22; replace hDv := hDv.below hb22; replace hDn := hDn.below hb22; replace hDs := hDs.below hb22; replace hDt := hDt.below hb22; replace hDo := hDo.below hb22; replace hDrs := hDrs.below hb22; replace hDro := hDro.below hb22; replace hDny := hDny.below hb22; replace hDup := hDup.below hb22; replace hL2 := hL2.below hb22; replace hW := hW.trans (hb22.mono hW.size); clear hb22)
        | (go_at_call 9; have _t := tk23; clear tk23 _t; have hh := mul_h hLx hDtw2.li U HE.out.2.2.2.2.2.2.2.2.2 (by have := HL.out; omega); (with_reducible refine hh.mono ?_); clear hh; rintro en w23 ⟨Aby, rfl, hDby, hb23⟩; replace hRx := hRx.below hb23; replace hRy := hRy.below hb23; replace hLx := hLx.below hb23; replace hLy := hLy.below hb23; replace hDp := hDp.below hb23; replace hDr0 := hDr0.below hb23; replace hDa := hDa.below hb23; replace hDu := hDu.below hb23; replace hDv := hDv.below hb23; replace hDn := hDn.below hb23; replace hDs := hDs.below hb23; replace hDt := hDt.below hb23; replace hDo := hDo.below hb23; replace hDrs := hDrs.below hb23; replace hDro := hDro.below hb23; replace hDny := hDny.below hb23; replace hDup := hDup.below hb23; replace hL2 := hL2.below hb23; replace hDtw2 := hDtw2.below hb23; replace hW := hW.trans (hb23.mono hW.size); clear hb23)
        | (go_at_call 19; have _t := tk24; clear tk24 _t; have hh := shr_h hDup.li K _ x false HD.out (by have := HL.out; omega); (with_reducible refine hh.mono ?_); clear hh; rintro en w24 ⟨Adn, rfl, hDdn, hb24⟩; replace hRx := hRx.below hb24; replace hRy := hRy.below hb24; replace hLx := hLx.below hb24; replace hLy := hLy.below hb24; replace hDp := hDp.below hb24; replace hDr0 := hDr0.below hb24; replace hDa := hDa.below hb24; replace hDu := hDu.below hb24; replace hDv := hDv.below hb24; replace hDn := hDn.below hb24; replace hDs := hDs.below hb24; replace hDt := hDt.below hb24; replace hDo := hDo.below hb24; replace hDrs := hDrs.below hb24; replace hDro := hDro.below hb24; replace hDny := hDny.below hb24; replace hDup := hDup.below hb24; replace hL2 := hL2.below hb24; replace hDtw2 := hDtw2.below hb24; replace hDby := hDby.below hb24; replace hW := hW.trans (hb24.mono hW.size); clear hb24)
        | (go_at_call 12; have _t := tk25; clear tk25 _t; have hh := same_l hDup hDby rfl; (with_reducible refine hh.mono ?_); clear hh; rintro en w25 ⟨rfl, hb25⟩; replace hRx := hRx.below hb25; replace hRy := hRy.below hb25; replace hLx := hLx.below hb25; replace hLy := hLy.below hb25; replace hDp := hDp.below hb25; replace hDr0 := hDr0.below hb25; replace hDa := hDa.below hb25; replace hDu := hDu.below hb25; replace hDv := hDv.below hb25; replace hDn := hDn.below hb25; replace hDs := hDs.below hb25; replace hDt := hDt.below hb25; replace hDo := hDo.below hb25; replace hDrs := hDrs.below hb25; replace hDro := hDro.below hb25; replace hDny := hDny.below hb25; replace hDup := hDup.below hb25; replace hL2 := hL2.below hb25; replace hDtw2 := hDtw2.below hb25; replace hDby := hDby.below hb25; replace hDdn := hDdn.below hb25; replace hW := hW.trans (hb25.mono hW.size); clear hb25)
        | (go_at_call 13; have _t := tk26; clear tk26 _t; have hh := norm_l hLx (by have := HL.out; omega); (with_reducible refine hh.mono ?_); clear hh; rintro en w26 ⟨An2, rfl, hDn2, hb26⟩; replace hRx := hRx.below hb26; replace hRy := hRy.below hb26; replace hLx := hLx.below hb26; replace hLy := hLy.below hb26; replace hDp := hDp.below hb26; replace hDr0 := hDr0.below hb26; replace hDa := hDa.below hb26; replace hDu := hDu.below hb26; replace hDv := hDv.below hb26; replace hDn := hDn.below hb26; replace hDs := hDs.below hb26; replace hDt := hDt.below hb26; replace hDo := hDo.below hb26; replace hDrs := hDrs.below hb26; replace hDro := hDro.below hb26; replace hDny := hDny.below hb26; replace hDup := hDup.below hb26; replace hL2 := hL2.below hb26; replace hDtw2 := hDtw2.below hb26; replace hDby := hDby.below hb26; replace hDdn := hDdn.below hb26; replace hW := hW.trans (hb26.mono hW.size); clear hb26)
        | (go_at_call 12; have _t := tk27; clear tk27 _t; have hh := same_l hDdn hDn2 rfl; (with_reducible refine hh.mono ?_); clear hh; rintro en w27 ⟨rfl, hb27⟩; replace hRx := hRx.below hb27; replace hRy := hRy.below hb27; replace hLx := hLx.below hb27; replace hLy := hLy.below hb27; replace hDp := hDp.below hb27; replace hDr0 := hDr0.below hb27; replace hDa := hDa.below hb27; replace hDu := hDu.below hb27; replace hDv := hDv.below hb27; replace hDn := hDn.below hb27; replace hDs := hDs.below hb27; replace hDt := hDt.below hb27; replace hDo := hDo.below hb27; replace hDrs := hDrs.below hb27; replace hDro := hDro.below hb27; replace hDny := hDny.below hb27; replace hDup := hDup.below hb27; replace hL2 := hL2.below hb27; replace hDtw2 := hDtw2.below hb27; replace hDby := hDby.below hb27; replace hDdn := hDdn.below hb27; replace hDn2 := hDn2.below hb27; replace hW := hW.trans (hb27.mono hW.size); clear hb27))
      go_ret
      exact ⟨rfl, hW⟩

set_option maxRecDepth 100000 in
set_option maxHeartbeats 8000000 in
theorem there_zero (hy : val (Y.take (min 64 n')) = 0) (hy7 : (y : Int) = 7) :
    Calls Try.prog 6 #[.slice A n c, .slice B n' c', .int .i64 k] w fun e w' => e = .returned (.bool true) ∧ Below w.heap.size w w' := by
  have h1 := fun W hW => short_l A n c X 64 64 W rfl hW hn hm (by omega)
  have h2 := fun W hW => short_l B n' c' Y 64 64 W rfl hW hn' hm' (by omega)
  have l1 := val_take_short X hRx.1 (min 64 n)
  obtain ⟨x, hx⟩ : ∃ x, val (X.take (min 64 n)) = x := ⟨_, rfl⟩
  rw [hx] at h1 l1
  rw [hy] at h2
  have hsx := Lib.hid h1
  have hsy := Lib.hid h2
  have HC : Hid (cmp 0 0 = 0) := cmp_eq 0
  have ly : (dig y).length ≤ 64 := Nat.le_trans (words_of_le y 1 (by omega)) (by omega)
  have hy0 : 0 < y := by omega
  have lx : (dig x).length ≤ 64 := by omega
  obtain ⟨P, hP⟩ : ∃ P, x * y = P := ⟨_, rfl⟩
  obtain ⟨q0, hq0⟩ : ∃ q0, x / y = q0 := ⟨_, rfl⟩
  obtain ⟨r0, hr0⟩ : ∃ r0, x % y = r0 := ⟨_, rfl⟩
  obtain ⟨a, ha⟩ : ∃ a, P + r0 = a := ⟨_, rfl⟩
  obtain ⟨sq, hsq⟩ : ∃ sq, y * y = sq := ⟨_, rfl⟩
  obtain ⟨tw, htw⟩ : ∃ tw, y + y = tw := ⟨_, rfl⟩
  obtain ⟨ov, hov⟩ : ∃ ov, sq + tw = ov := ⟨_, rfl⟩
  have qt := quo_there x y hy0
  rw [hP, hr0, ha] at qt
  have lP := dig_mul_length x y
  rw [hP] at lP
  have lr := dig_length_mono (Nat.mod_le x y)
  rw [hr0] at lr
  have la := dig_add_length P r0 128 (by omega) (by omega)
  rw [ha] at la
  have lsq := dig_mul_length y y
  rw [hsq] at lsq
  have ltw := dig_add_length y y 64 (by omega) (by omega)
  rw [htw] at ltw
  have lov := dig_add_length sq tw 128 (by omega) (by omega)
  rw [hov] at lov
  have r1 := root_square y
  have r2 := root_over y
  have r3 := over_ne y hy0
  rw [hsq] at r1
  rw [hsq, htw, hov] at r2 r3
  have hcm : cmp r0 y = -1 := cmp_lt (by rw [← hr0]; exact Nat.mod_lt x hy0)
  have HC2 := Lib.hid hcm
  obtain ⟨T2, hT2⟩ : ∃ T2, 2 ^ K = T2 := ⟨_, rfl⟩
  obtain ⟨U, hUT⟩ : ∃ U, x * T2 = U := ⟨_, rfl⟩
  have hU : x * 2 ^ K = U := by rw [hT2]; exact hUT
  have hTp : 0 < T2 := by rw [← hT2]; exact Nat.pow_pos (by omega)
  have hDn : U / 2 ^ K = x ∧ decide (U % 2 ^ K ≠ 0) = false := by
    rw [hT2, ← hUT]
    exact ⟨Nat.mul_div_cancel x hTp, by rw [Nat.mul_mod_left]; rfl⟩
  have lT := pow2_words K 125 (by omega)
  rw [hT2] at lT
  have lU := dig_mul_length x T2
  rw [hUT] at lU
  have lb := blen_words64 x 64 lx
  have HL := Lib.hid (And.intro lx (And.intro ly (And.intro lP (And.intro lr (And.intro la (And.intro lsq (And.intro ltw (And.intro lov (And.intro lT (And.intro lU (And.intro lb hK)))))))))))
  have HE := Lib.hid (And.intro hP (And.intro (And.intro hq0 (And.intro hr0 hy0)) (And.intro ha (And.intro (And.intro qt.1 (And.intro qt.2 hy0)) (And.intro hsq (And.intro htw (And.intro hov (And.intro (And.intro r1 (show decide (y * y = sq) = true by rw [hsq]; simp)) (And.intro (And.intro r2 (show decide (y * y = ov) = false by rw [hsq]; exact r3)) hUT)))))))))
  have hW := Below.refl w.heap.size w
  clear hP hq0 hr0 ha hsq htw hov qt lP lr la lsq ltw lov r1 r2 r3 hcm hUT lT lU lb lx ly hTp
  have HY := Lib.hid hy7
  clear h1 h2 l1 hx hy hn hn' hy0 hy7
  rcases hck with ⟨hk1, hk2, hk3⟩ | ⟨rfl, hk2⟩
  · have HS := Lib.hid (And.intro hk1 hU)
    have HT := Lib.hid (And.intro hk1 hT2)
    have HD := Lib.hid (And.intro hk1 hDn)
    clear hk1 hU hT2 hDn
    have tk1 : True := trivial
    have tk2 : True := trivial
    have tk3 : True := trivial
    have tk4 : True := trivial
    have tk5 : True := trivial
    have tk6 : True := trivial
    have tk7 : True := trivial
    have tk8 : True := trivial
    have tk9 : True := trivial
    have tk10 : True := trivial
    have tk11 : True := trivial
    have tk12 : True := trivial
    have tk13 : True := trivial
    have tk14 : True := trivial
    have tk15 : True := trivial
    have tk16 : True := trivial
    have tk17 : True := trivial
    have tk18 : True := trivial
    have tk19 : True := trivial
    have tk20 : True := trivial
    have tk21 : True := trivial
    have tk22 : True := trivial
    have tk23 : True := trivial
    have tk24 : True := trivial
    have tk25 : True := trivial
    have tk26 : True := trivial
    have tk27 : True := trivial
    go_enter Try.func6, Try.ntmps6
    go_wp2_with (first
      | (go_at_call 7; have _t := tk1; clear tk1 _t; have hh := hsx.out _ hRx; (with_reducible refine hh.mono ?_); clear hh; rintro en w1 ⟨Ax, mx, rfl, hLx, hb1⟩; replace hRx := hRx.below hb1; replace hRy := hRy.below hb1; replace hW := hW.trans (hb1.mono hW.size); clear hb1)
      | (go_at_call 7; have _t := tk2; clear tk2 _t; have hh := hsy.out _ hRy; (with_reducible refine hh.mono ?_); clear hh; rintro en w2 ⟨Ay, my, rfl, hLy, hb2⟩; replace hRx := hRx.below hb2; replace hRy := hRy.below hb2; replace hLx := hLx.below hb2; replace hW := hW.trans (hb2.mono hW.size); clear hb2)
      | (go_at_call 15; have _t := tk3; clear tk3 _t; have hh := cmp_l hLy (Li.nil w2); rw [HC.out] at hh; (with_reducible refine hh.mono ?_); clear hh; rintro en w3 ⟨rfl, hb3⟩; replace hRx := hRx.below hb3; replace hRy := hRy.below hb3; replace hLx := hLx.below hb3; replace hLy := hLy.below hb3; replace hW := hW.trans (hb3.mono hW.size); clear hb3)
      | (go_at_call 9; have _t := tk4; clear tk4 _t; have hal := below_new w3 (.cells #[.int .u32 7] 34); replace hRx := hRx.below hal; replace hRy := hRy.below hal; replace hLx := hLx.below hal; replace hW := hW.trans (hal.mono hW.size); clear hal; replace hLy := Li.new w3 y (by have := HY.out; omega) 7 HY.out; have hh := mul_h hLx hLy P HE.out.1 (by have := HL.out; omega); (with_reducible refine hh.mono ?_); clear hh; rintro en w4 ⟨Ap, rfl, hDp, hb4⟩; replace hRx := hRx.below hb4; replace hRy := hRy.below hb4; replace hLx := hLx.below hb4; replace hLy := hLy.below hb4; replace hW := hW.trans (hb4.mono hW.size); clear hb4)
      | (go_at_call 16; have _t := tk5; clear tk5 _t; have hh := quo_h hLx hLy q0 r0 HE.out.2.1; (with_reducible refine hh.mono ?_); clear hh; rintro en w5 ⟨Aq0, Ar0, rfl, hDq0, hDr0, hb5⟩; replace hRx := hRx.below hb5; replace hRy := hRy.below hb5; replace hLx := hLx.below hb5; replace hLy := hLy.below hb5; replace hDp := hDp.below hb5; replace hW := hW.trans (hb5.mono hW.size); clear hb5)
      | (go_at_call 8; have _t := tk6; clear tk6 _t; have hh := add_h hDp.li hDr0.li a HE.out.2.2.1 (by have := HL.out; omega); (with_reducible refine hh.mono ?_); clear hh; rintro en w6 ⟨Aa, rfl, hDa, hb6⟩; replace hRx := hRx.below hb6; replace hRy := hRy.below hb6; replace hLx := hLx.below hb6; replace hLy := hLy.below hb6; replace hDp := hDp.below hb6; replace hDr0 := hDr0.below hb6; replace hW := hW.trans (hb6.mono hW.size); clear hb6)
      | (go_at_call 16; have _t := tk7; clear tk7 _t; have hh := quo_h hDa.li hLy x r0 HE.out.2.2.2.1; (with_reducible refine hh.mono ?_); clear hh; rintro en w7 ⟨Au, Av, rfl, hDu, hDv, hb7⟩; replace hRx := hRx.below hb7; replace hRy := hRy.below hb7; replace hLx := hLx.below hb7; replace hLy := hLy.below hb7; replace hDp := hDp.below hb7; replace hDr0 := hDr0.below hb7; replace hDa := hDa.below hb7; replace hW := hW.trans (hb7.mono hW.size); clear hb7)
      | (go_at_call 15; have _t := tk8; clear tk8 _t; have hh := cmp_l hDr0.li hLy; rw [HC2.out] at hh; (with_reducible refine hh.mono ?_); clear hh; rintro en w8 ⟨rfl, hb8⟩; replace hRx := hRx.below hb8; replace hRy := hRy.below hb8; replace hLx := hLx.below hb8; replace hLy := hLy.below hb8; replace hDp := hDp.below hb8; replace hDr0 := hDr0.below hb8; replace hDa := hDa.below hb8; replace hDu := hDu.below hb8; replace hDv := hDv.below hb8; replace hW := hW.trans (hb8.mono hW.size); clear hb8)
      | (go_at_call 11; have _t := tk9; clear tk9 _t; have hh := lives_any w8; (with_reducible refine hh.mono ?_); clear hh; rintro en w9 ⟨rfl, hb9⟩; replace hRx := hRx.below hb9; replace hRy := hRy.below hb9; replace hLx := hLx.below hb9; replace hLy := hLy.below hb9; replace hDp := hDp.below hb9; replace hDr0 := hDr0.below hb9; replace hDa := hDa.below hb9; replace hDu := hDu.below hb9; replace hDv := hDv.below hb9; replace hW := hW.trans (hb9.mono hW.size); clear hb9)
      | (go_at_call 13; have _t := tk10; clear tk10 _t; have hh := norm_l hLx (by have := HL.out; omega); (with_reducible refine hh.mono ?_); clear hh; rintro en w10 ⟨An, rfl, hDn, hb10⟩; replace hRx := hRx.below hb10; replace hRy := hRy.below hb10; replace hLx := hLx.below hb10; replace hLy := hLy.below hb10; replace hDp := hDp.below hb10; replace hDr0 := hDr0.below hb10; replace hDa := hDa.below hb10; replace hDu := hDu.below hb10; replace hDv := hDv.below hb10; replace hW := hW.trans (hb10.mono hW.size); clear hb10)
      | (go_at_call 12; have _t := tk11; clear tk11 _t; have hh := same_l hDu hDn rfl; (with_reducible refine hh.mono ?_); clear hh; rintro en w11 ⟨rfl, hb11⟩; replace hRx := hRx.below hb11; replace hRy := hRy.below hb11; replace hLx := hLx.below hb11; replace hLy := hLy.below hb11; replace hDp := hDp.below hb11; replace hDr0 := hDr0.below hb11; replace hDa := hDa.below hb11; replace hDu := hDu.below hb11; replace hDv := hDv.below hb11; replace hDn := hDn.below hb11; replace hW := hW.trans (hb11.mono hW.size); clear hb11)
      | (go_at_call 12; have _t := tk12; clear tk12 _t; have hh := same_l hDv hDr0 rfl; (with_reducible refine hh.mono ?_); clear hh; rintro en w12 ⟨rfl, hb12⟩; replace hRx := hRx.below hb12; replace hRy := hRy.below hb12; replace hLx := hLx.below hb12; replace hLy := hLy.below hb12; replace hDp := hDp.below hb12; replace hDr0 := hDr0.below hb12; replace hDa := hDa.below hb12; replace hDu := hDu.below hb12; replace hDv := hDv.below hb12; replace hDn := hDn.below hb12; replace hW := hW.trans (hb12.mono hW.size); clear hb12)
      | (go_at_call 9; have _t := tk13; clear tk13 _t; have hh := mul_h hLy hLy sq HE.out.2.2.2.2.1 (by have := HL.out; omega); (with_reducible refine hh.mono ?_); clear hh; rintro en w13 ⟨As, rfl, hDs, hb13⟩; replace hRx := hRx.below hb13; replace hRy := hRy.below hb13; replace hLx := hLx.below hb13; replace hLy := hLy.below hb13; replace hDp := hDp.below hb13; replace hDr0 := hDr0.below hb13; replace hDa := hDa.below hb13; replace hDu := hDu.below hb13; replace hDv := hDv.below hb13; replace hDn := hDn.below hb13; replace hW := hW.trans (hb13.mono hW.size); clear hb13)
      | (go_at_call 8; have _t := tk14; clear tk14 _t; have hh := add_h hLy hLy tw HE.out.2.2.2.2.2.1 (by have := HL.out; omega); (with_reducible refine hh.mono ?_); clear hh; rintro en w14 ⟨At, rfl, hDt, hb14⟩; replace hRx := hRx.below hb14; replace hRy := hRy.below hb14; replace hLx := hLx.below hb14; replace hLy := hLy.below hb14; replace hDp := hDp.below hb14; replace hDr0 := hDr0.below hb14; replace hDa := hDa.below hb14; replace hDu := hDu.below hb14; replace hDv := hDv.below hb14; replace hDn := hDn.below hb14; replace hDs := hDs.below hb14; replace hW := hW.trans (hb14.mono hW.size); clear hb14)
      | (go_at_call 8; have _t := tk15; clear tk15 _t; have hh := add_h hDs.li hDt.li ov HE.out.2.2.2.2.2.2.1 (by have := HL.out; omega); (with_reducible refine hh.mono ?_); clear hh; rintro en w15 ⟨Ao, rfl, hDo, hb15⟩; replace hRx := hRx.below hb15; replace hRy := hRy.below hb15; replace hLx := hLx.below hb15; replace hLy := hLy.below hb15; replace hDp := hDp.below hb15; replace hDr0 := hDr0.below hb15; replace hDa := hDa.below hb15; replace hDu := hDu.below hb15; replace hDv := hDv.below hb15; replace hDn := hDn.below hb15; replace hDs := hDs.below hb15; replace hDt := hDt.below hb15; replace hW := hW.trans (hb15.mono hW.size); clear hb15)
      | (go_at_call 17; have _t := tk16; clear tk16 _t; have hh := root_h hDs.li y true HE.out.2.2.2.2.2.2.2.1; (with_reducible refine hh.mono ?_); clear hh; rintro en w16 ⟨Ars, rfl, hDrs, hb16⟩; replace hRx := hRx.below hb16; replace hRy := hRy.below hb16; replace hLx := hLx.below hb16; replace hLy := hLy.below hb16; replace hDp := hDp.below hb16; replace hDr0 := hDr0.below hb16; replace hDa := hDa.below hb16; replace hDu := hDu.below hb16; replace hDv := hDv.below hb16; replace hDn := hDn.below hb16; replace hDs := hDs.below hb16; replace hDt := hDt.below hb16; replace hDo := hDo.below hb16; replace hW := hW.trans (hb16.mono hW.size); clear hb16)
      | (go_at_call 17; have _t := tk17; clear tk17 _t; have hh := root_h hDo.li y false HE.out.2.2.2.2.2.2.2.2.1; (with_reducible refine hh.mono ?_); clear hh; rintro en w17 ⟨Aro, rfl, hDro, hb17⟩; replace hRx := hRx.below hb17; replace hRy := hRy.below hb17; replace hLx := hLx.below hb17; replace hLy := hLy.below hb17; replace hDp := hDp.below hb17; replace hDr0 := hDr0.below hb17; replace hDa := hDa.below hb17; replace hDu := hDu.below hb17; replace hDv := hDv.below hb17; replace hDn := hDn.below hb17; replace hDs := hDs.below hb17; replace hDt := hDt.below hb17; replace hDo := hDo.below hb17; replace hDrs := hDrs.below hb17; replace hW := hW.trans (hb17.mono hW.size); clear hb17)
      | (go_at_call 13; have _t := tk18; clear tk18 _t; have hh := norm_l hLy (by have := HL.out; omega); (with_reducible refine hh.mono ?_); clear hh; rintro en w18 ⟨Any, rfl, hDny, hb18⟩; replace hRx := hRx.below hb18; replace hRy := hRy.below hb18; replace hLx := hLx.below hb18; replace hLy := hLy.below hb18; replace hDp := hDp.below hb18; replace hDr0 := hDr0.below hb18; replace hDa := hDa.below hb18; replace hDu := hDu.below hb18; replace hDv := hDv.below hb18; replace hDn := hDn.below hb18; replace hDs := hDs.below hb18; replace hDt := hDt.below hb18; replace hDo := hDo.below hb18; replace hDrs := hDrs.below hb18; replace hDro := hDro.below hb18; replace hW := hW.trans (hb18.mono hW.size); clear hb18)
      | (go_at_call 12; have _t := tk19; clear tk19 _t; have hh := same_l hDrs hDny rfl; (with_reducible refine hh.mono ?_); clear hh; rintro en w19 ⟨rfl, hb19⟩; replace hRx := hRx.below hb19; replace hRy := hRy.below hb19; replace hLx := hLx.below hb19; replace hLy := hLy.below hb19; replace hDp := hDp.below hb19; replace hDr0 := hDr0.below hb19; replace hDa := hDa.below hb19; replace hDu := hDu.below hb19; replace hDv := hDv.below hb19; replace hDn := hDn.below hb19; replace hDs := hDs.below hb19; replace hDt := hDt.below hb19; replace hDo := hDo.below hb19; replace hDrs := hDrs.below hb19; replace hDro := hDro.below hb19; replace hDny := hDny.below hb19; replace hW := hW.trans (hb19.mono hW.size); clear hb19)
      | (go_at_call 12; have _t := tk20; clear tk20 _t; have hh := same_l hDro hDrs rfl; (with_reducible refine hh.mono ?_); clear hh; rintro en w20 ⟨rfl, hb20⟩; replace hRx := hRx.below hb20; replace hRy := hRy.below hb20; replace hLx := hLx.below hb20; replace hLy := hLy.below hb20; replace hDp := hDp.below hb20; replace hDr0 := hDr0.below hb20; replace hDa := hDa.below hb20; replace hDu := hDu.below hb20; replace hDv := hDv.below hb20; replace hDn := hDn.below hb20; replace hDs := hDs.below hb20; replace hDt := hDt.below hb20; replace hDo := hDo.below hb20; replace hDrs := hDrs.below hb20; replace hDro := hDro.below hb20; replace hDny := hDny.below hb20; replace hW := hW.trans (hb20.mono hW.size); clear hb20)
      | (go_at_call 18; have _t := tk21; clear tk21 _t; have hh := shl_h hLx K _ U HS.out (by have := HL.out; omega); (with_reducible refine hh.mono ?_); clear hh; rintro en w21 ⟨Aup, rfl, hDup, hb21⟩; replace hRx := hRx.below hb21; replace hRy := hRy.below hb21; replace hLx := hLx.below hb21; replace hLy := hLy.below hb21; replace hDp := hDp.below hb21; replace hDr0 := hDr0.below hb21; replace hDa := hDa.below hb21; replace hDu := hDu.below hb21; replace hDv := hDv.below hb21; replace hDn := hDn.below hb21; replace hDs := hDs.below hb21; replace hDt := hDt.below hb21; replace hDo := hDo.below hb21; replace hDrs := hDrs.below hb21; replace hDro := hDro.below hb21; replace hDny := hDny.below hb21; replace hW := hW.trans (hb21.mono hW.size); clear hb21)
      | (go_at_call 14; have _t := tk22; clear tk22 _t; have hal := below_new w21 (.cells #[.int .u32 2] 34); replace hRx := hRx.below hal; replace hRy := hRy.below hal; replace hLx := hLx.below hal; replace hLy := hLy.below hal; replace hDp := hDp.below hal; replace hDr0 := hDr0.below hal; replace hDa := hDa.below hal; replace hDu := hDu.below hal; replace hDv := hDv.below hal; replace hDn := hDn.below hal; replace hDs := hDs.below hal; replace hDt := hDt.below hal; replace hDo := hDo.below hal; replace hDrs := hDrs.below hal; replace hDro := hDro.below hal; replace hDny := hDny.below hal; replace hDup := hDup.below hal; replace hW := hW.trans (hal.mono hW.size); clear hal; have hL2 := Li.new w21 2 (by omega) 2 rfl; have hh := pow_l hL2 K _ T2 HT.out (by have := HL.out; omega); (with_reducible refine hh.mono ?_); clear hh; rintro en w22 ⟨Atw2, rfl, hDtw2, hb22⟩; replace hRx := hRx.below hb22; replace hRy := hRy.below hb22; replace hLx := hLx.below hb22; replace hLy := hLy.below hb22; replace hDp := hDp.below hb22; replace hDr0 := hDr0.below hb22; replace hDa := hDa.below hb22; replace hDu := hDu.below hb22; replace hDv := hDv.below hb22; replace hDn := hDn.below hb22; replace hDs := hDs.below hb22; replace hDt := hDt.below hb22; replace hDo := hDo.below hb22; replace hDrs := hDrs.below hb22; replace hDro := hDro.below hb22; replace hDny := hDny.below hb22; replace hDup := hDup.below hb22; replace hL2 := hL2.below hb22; replace hW := hW.trans (hb22.mono hW.size); clear hb22)
      | (go_at_call 9; have _t := tk23; clear tk23 _t; have hh := mul_h hLx hDtw2.li U HE.out.2.2.2.2.2.2.2.2.2 (by have := HL.out; omega); (with_reducible refine hh.mono ?_); clear hh; rintro en w23 ⟨Aby, rfl, hDby, hb23⟩; replace hRx := hRx.below hb23; replace hRy := hRy.below hb23; replace hLx := hLx.below hb23; replace hLy := hLy.below hb23; replace hDp := hDp.below hb23; replace hDr0 := hDr0.below hb23; replace hDa := hDa.below hb23; replace hDu := hDu.below hb23; replace hDv := hDv.below hb23; replace hDn := hDn.below hb23; replace hDs := hDs.below hb23; replace hDt := hDt.below hb23; replace hDo := hDo.below hb23; replace hDrs := hDrs.below hb23; replace hDro := hDro.below hb23; replace hDny := hDny.below hb23; replace hDup := hDup.below hb23; replace hL2 := hL2.below hb23; replace hDtw2 := hDtw2.below hb23; replace hW := hW.trans (hb23.mono hW.size); clear hb23)
      | (go_at_call 19; have _t := tk24; clear tk24 _t; have hh := shr_h hDup.li K _ x false HD.out (by have := HL.out; omega); (with_reducible refine hh.mono ?_); clear hh; rintro en w24 ⟨Adn, rfl, hDdn, hb24⟩; replace hRx := hRx.below hb24; replace hRy := hRy.below hb24; replace hLx := hLx.below hb24; replace hLy := hLy.below hb24; replace hDp := hDp.below hb24; replace hDr0 := hDr0.below hb24; replace hDa := hDa.below hb24; replace hDu := hDu.below hb24; replace hDv := hDv.below hb24; replace hDn := hDn.below hb24; replace hDs := hDs.below hb24; replace hDt := hDt.below hb24; replace hDo := hDo.below hb24; replace hDrs := hDrs.below hb24; replace hDro := hDro.below hb24; replace hDny := hDny.below hb24; replace hDup := hDup.below hb24; replace hL2 := hL2.below hb24; replace hDtw2 := hDtw2.below hb24; replace hDby := hDby.below hb24; replace hW := hW.trans (hb24.mono hW.size); clear hb24)
      | (go_at_call 12; have _t := tk25; clear tk25 _t; have hh := same_l hDup hDby rfl; (with_reducible refine hh.mono ?_); clear hh; rintro en w25 ⟨rfl, hb25⟩; replace hRx := hRx.below hb25; replace hRy := hRy.below hb25; replace hLx := hLx.below hb25; replace hLy := hLy.below hb25; replace hDp := hDp.below hb25; replace hDr0 := hDr0.below hb25; replace hDa := hDa.below hb25; replace hDu := hDu.below hb25; replace hDv := hDv.below hb25; replace hDn := hDn.below hb25; replace hDs := hDs.below hb25; replace hDt := hDt.below hb25; replace hDo := hDo.below hb25; replace hDrs := hDrs.below hb25; replace hDro := hDro.below hb25; replace hDny := hDny.below hb25; replace hDup := hDup.below hb25; replace hL2 := hL2.below hb25; replace hDtw2 := hDtw2.below hb25; replace hDby := hDby.below hb25; replace hDdn := hDdn.below hb25; replace hW := hW.trans (hb25.mono hW.size); clear hb25)
      | (go_at_call 13; have _t := tk26; clear tk26 _t; have hh := norm_l hLx (by have := HL.out; omega); (with_reducible refine hh.mono ?_); clear hh; rintro en w26 ⟨An2, rfl, hDn2, hb26⟩; replace hRx := hRx.below hb26; replace hRy := hRy.below hb26; replace hLx := hLx.below hb26; replace hLy := hLy.below hb26; replace hDp := hDp.below hb26; replace hDr0 := hDr0.below hb26; replace hDa := hDa.below hb26; replace hDu := hDu.below hb26; replace hDv := hDv.below hb26; replace hDn := hDn.below hb26; replace hDs := hDs.below hb26; replace hDt := hDt.below hb26; replace hDo := hDo.below hb26; replace hDrs := hDrs.below hb26; replace hDro := hDro.below hb26; replace hDny := hDny.below hb26; replace hDup := hDup.below hb26; replace hL2 := hL2.below hb26; replace hDtw2 := hDtw2.below hb26; replace hDby := hDby.below hb26; replace hDdn := hDdn.below hb26; replace hW := hW.trans (hb26.mono hW.size); clear hb26)
      | (go_at_call 12; have _t := tk27; clear tk27 _t; have hh := same_l hDdn hDn2 rfl; (with_reducible refine hh.mono ?_); clear hh; rintro en w27 ⟨rfl, hb27⟩; replace hRx := hRx.below hb27; replace hRy := hRy.below hb27; replace hLx := hLx.below hb27; replace hLy := hLy.below hb27; replace hDp := hDp.below hb27; replace hDr0 := hDr0.below hb27; replace hDa := hDa.below hb27; replace hDu := hDu.below hb27; replace hDv := hDv.below hb27; replace hDn := hDn.below hb27; replace hDs := hDs.below hb27; replace hDt := hDt.below hb27; replace hDo := hDo.below hb27; replace hDrs := hDrs.below hb27; replace hDro := hDro.below hb27; replace hDny := hDny.below hb27; replace hDup := hDup.below hb27; replace hL2 := hL2.below hb27; replace hDtw2 := hDtw2.below hb27; replace hDby := hDby.below hb27; replace hDdn := hDdn.below hb27; replace hDn2 := hDn2.below hb27; replace hW := hW.trans (hb27.mono hW.size); clear hb27))
    go_ret
    exact ⟨rfl, hW⟩
  · have HS := Lib.hid (And.intro (show ((33 : Nat) : Int) = 33 from rfl) hU)
    have HT := Lib.hid (And.intro (show ((33 : Nat) : Int) = 33 from rfl) hT2)
    have HD := Lib.hid (And.intro (show ((33 : Nat) : Int) = 33 from rfl) hDn)
    obtain ⟨K, hK33⟩ : ∃ K, 33 = K := ⟨_, rfl⟩
    rw [hK33] at HS HT HD HL
    clear hU hT2 hDn hK33
    rcases hk2 with hk2 | hk2
    all_goals
      have tk1 : True := trivial
      have tk2 : True := trivial
      have tk3 : True := trivial
      have tk4 : True := trivial
      have tk5 : True := trivial
      have tk6 : True := trivial
      have tk7 : True := trivial
      have tk8 : True := trivial
      have tk9 : True := trivial
      have tk10 : True := trivial
      have tk11 : True := trivial
      have tk12 : True := trivial
      have tk13 : True := trivial
      have tk14 : True := trivial
      have tk15 : True := trivial
      have tk16 : True := trivial
      have tk17 : True := trivial
      have tk18 : True := trivial
      have tk19 : True := trivial
      have tk20 : True := trivial
      have tk21 : True := trivial
      have tk22 : True := trivial
      have tk23 : True := trivial
      have tk24 : True := trivial
      have tk25 : True := trivial
      have tk26 : True := trivial
      have tk27 : True := trivial
      go_enter Try.func6, Try.ntmps6
      go_wp2_with (first
        | (go_at_call 7; have _t := tk1; clear tk1 _t; have hh := hsx.out _ hRx; (with_reducible refine hh.mono ?_); clear hh; rintro en w1 ⟨Ax, mx, rfl, hLx, hb1⟩; replace hRx := hRx.below hb1; replace hRy := hRy.below hb1; replace hW := hW.trans (hb1.mono hW.size); clear hb1)
        | (go_at_call 7; have _t := tk2; clear tk2 _t; have hh := hsy.out _ hRy; (with_reducible refine hh.mono ?_); clear hh; rintro en w2 ⟨Ay, my, rfl, hLy, hb2⟩; replace hRx := hRx.below hb2; replace hRy := hRy.below hb2; replace hLx := hLx.below hb2; replace hW := hW.trans (hb2.mono hW.size); clear hb2)
        | (go_at_call 15; have _t := tk3; clear tk3 _t; have hh := cmp_l hLy (Li.nil w2); rw [HC.out] at hh; (with_reducible refine hh.mono ?_); clear hh; rintro en w3 ⟨rfl, hb3⟩; replace hRx := hRx.below hb3; replace hRy := hRy.below hb3; replace hLx := hLx.below hb3; replace hLy := hLy.below hb3; replace hW := hW.trans (hb3.mono hW.size); clear hb3)
        | (go_at_call 9; have _t := tk4; clear tk4 _t; have hal := below_new w3 (.cells #[.int .u32 7] 34); replace hRx := hRx.below hal; replace hRy := hRy.below hal; replace hLx := hLx.below hal; replace hW := hW.trans (hal.mono hW.size); clear hal; replace hLy := Li.new w3 y (by have := HY.out; omega) 7 HY.out; have hh := mul_h hLx hLy P HE.out.1 (by have := HL.out; omega); (with_reducible refine hh.mono ?_); clear hh; rintro en w4 ⟨Ap, rfl, hDp, hb4⟩; replace hRx := hRx.below hb4; replace hRy := hRy.below hb4; replace hLx := hLx.below hb4; replace hLy := hLy.below hb4; replace hW := hW.trans (hb4.mono hW.size); clear hb4)
        | (go_at_call 16; have _t := tk5; clear tk5 _t; have hh := quo_h hLx hLy q0 r0 HE.out.2.1; (with_reducible refine hh.mono ?_); clear hh; rintro en w5 ⟨Aq0, Ar0, rfl, hDq0, hDr0, hb5⟩; replace hRx := hRx.below hb5; replace hRy := hRy.below hb5; replace hLx := hLx.below hb5; replace hLy := hLy.below hb5; replace hDp := hDp.below hb5; replace hW := hW.trans (hb5.mono hW.size); clear hb5)
        | (go_at_call 8; have _t := tk6; clear tk6 _t; have hh := add_h hDp.li hDr0.li a HE.out.2.2.1 (by have := HL.out; omega); (with_reducible refine hh.mono ?_); clear hh; rintro en w6 ⟨Aa, rfl, hDa, hb6⟩; replace hRx := hRx.below hb6; replace hRy := hRy.below hb6; replace hLx := hLx.below hb6; replace hLy := hLy.below hb6; replace hDp := hDp.below hb6; replace hDr0 := hDr0.below hb6; replace hW := hW.trans (hb6.mono hW.size); clear hb6)
        | (go_at_call 16; have _t := tk7; clear tk7 _t; have hh := quo_h hDa.li hLy x r0 HE.out.2.2.2.1; (with_reducible refine hh.mono ?_); clear hh; rintro en w7 ⟨Au, Av, rfl, hDu, hDv, hb7⟩; replace hRx := hRx.below hb7; replace hRy := hRy.below hb7; replace hLx := hLx.below hb7; replace hLy := hLy.below hb7; replace hDp := hDp.below hb7; replace hDr0 := hDr0.below hb7; replace hDa := hDa.below hb7; replace hW := hW.trans (hb7.mono hW.size); clear hb7)
        | (go_at_call 15; have _t := tk8; clear tk8 _t; have hh := cmp_l hDr0.li hLy; rw [HC2.out] at hh; (with_reducible refine hh.mono ?_); clear hh; rintro en w8 ⟨rfl, hb8⟩; replace hRx := hRx.below hb8; replace hRy := hRy.below hb8; replace hLx := hLx.below hb8; replace hLy := hLy.below hb8; replace hDp := hDp.below hb8; replace hDr0 := hDr0.below hb8; replace hDa := hDa.below hb8; replace hDu := hDu.below hb8; replace hDv := hDv.below hb8; replace hW := hW.trans (hb8.mono hW.size); clear hb8)
        | (go_at_call 11; have _t := tk9; clear tk9 _t; have hh := lives_any w8; (with_reducible refine hh.mono ?_); clear hh; rintro en w9 ⟨rfl, hb9⟩; replace hRx := hRx.below hb9; replace hRy := hRy.below hb9; replace hLx := hLx.below hb9; replace hLy := hLy.below hb9; replace hDp := hDp.below hb9; replace hDr0 := hDr0.below hb9; replace hDa := hDa.below hb9; replace hDu := hDu.below hb9; replace hDv := hDv.below hb9; replace hW := hW.trans (hb9.mono hW.size); clear hb9)
        | (go_at_call 13; have _t := tk10; clear tk10 _t; have hh := norm_l hLx (by have := HL.out; omega); (with_reducible refine hh.mono ?_); clear hh; rintro en w10 ⟨An, rfl, hDn, hb10⟩; replace hRx := hRx.below hb10; replace hRy := hRy.below hb10; replace hLx := hLx.below hb10; replace hLy := hLy.below hb10; replace hDp := hDp.below hb10; replace hDr0 := hDr0.below hb10; replace hDa := hDa.below hb10; replace hDu := hDu.below hb10; replace hDv := hDv.below hb10; replace hW := hW.trans (hb10.mono hW.size); clear hb10)
        | (go_at_call 12; have _t := tk11; clear tk11 _t; have hh := same_l hDu hDn rfl; (with_reducible refine hh.mono ?_); clear hh; rintro en w11 ⟨rfl, hb11⟩; replace hRx := hRx.below hb11; replace hRy := hRy.below hb11; replace hLx := hLx.below hb11; replace hLy := hLy.below hb11; replace hDp := hDp.below hb11; replace hDr0 := hDr0.below hb11; replace hDa := hDa.below hb11; replace hDu := hDu.below hb11; replace hDv := hDv.below hb11; replace hDn := hDn.below hb11; replace hW := hW.trans (hb11.mono hW.size); clear hb11)
        | (go_at_call 12; have _t := tk12; clear tk12 _t; have hh := same_l hDv hDr0 rfl; (with_reducible refine hh.mono ?_); clear hh; rintro en w12 ⟨rfl, hb12⟩; replace hRx := hRx.below hb12; replace hRy := hRy.below hb12; replace hLx := hLx.below hb12; replace hLy := hLy.below hb12; replace hDp := hDp.below hb12; replace hDr0 := hDr0.below hb12; replace hDa := hDa.below hb12; replace hDu := hDu.below hb12; replace hDv := hDv.below hb12; replace hDn := hDn.below hb12; replace hW := hW.trans (hb12.mono hW.size); clear hb12)
        | (go_at_call 9; have _t := tk13; clear tk13 _t; have hh := mul_h hLy hLy sq HE.out.2.2.2.2.1 (by have := HL.out; omega); (with_reducible refine hh.mono ?_); clear hh; rintro en w13 ⟨As, rfl, hDs, hb13⟩; replace hRx := hRx.below hb13; replace hRy := hRy.below hb13; replace hLx := hLx.below hb13; replace hLy := hLy.below hb13; replace hDp := hDp.below hb13; replace hDr0 := hDr0.below hb13; replace hDa := hDa.below hb13; replace hDu := hDu.below hb13; replace hDv := hDv.below hb13; replace hDn := hDn.below hb13; replace hW := hW.trans (hb13.mono hW.size); clear hb13)
        | (go_at_call 8; have _t := tk14; clear tk14 _t; have hh := add_h hLy hLy tw HE.out.2.2.2.2.2.1 (by have := HL.out; omega); (with_reducible refine hh.mono ?_); clear hh; rintro en w14 ⟨At, rfl, hDt, hb14⟩; replace hRx := hRx.below hb14; replace hRy := hRy.below hb14; replace hLx := hLx.below hb14; replace hLy := hLy.below hb14; replace hDp := hDp.below hb14; replace hDr0 := hDr0.below hb14; replace hDa := hDa.below hb14; replace hDu := hDu.below hb14; replace hDv := hDv.below hb14; replace hDn := hDn.below hb14; replace hDs := hDs.below hb14; replace hW := hW.trans (hb14.mono hW.size); clear hb14)
        | (go_at_call 8; have _t := tk15; clear tk15 _t; have hh := add_h hDs.li hDt.li ov HE.out.2.2.2.2.2.2.1 (by have := HL.out; omega); (with_reducible refine hh.mono ?_); clear hh; rintro en w15 ⟨Ao, rfl, hDo, hb15⟩; replace hRx := hRx.below hb15; replace hRy := hRy.below hb15; replace hLx := hLx.below hb15; replace hLy := hLy.below hb15; replace hDp := hDp.below hb15; replace hDr0 := hDr0.below hb15; replace hDa := hDa.below hb15; replace hDu := hDu.below hb15; replace hDv := hDv.below hb15; replace hDn := hDn.below hb15; replace hDs := hDs.below hb15; replace hDt := hDt.below hb15; replace hW := hW.trans (hb15.mono hW.size); clear hb15)
        | (go_at_call 17; have _t := tk16; clear tk16 _t; have hh := root_h hDs.li y true HE.out.2.2.2.2.2.2.2.1; (with_reducible refine hh.mono ?_); clear hh; rintro en w16 ⟨Ars, rfl, hDrs, hb16⟩; replace hRx := hRx.below hb16; replace hRy := hRy.below hb16; replace hLx := hLx.below hb16; replace hLy := hLy.below hb16; replace hDp := hDp.below hb16; replace hDr0 := hDr0.below hb16; replace hDa := hDa.below hb16; replace hDu := hDu.below hb16; replace hDv := hDv.below hb16; replace hDn := hDn.below hb16; replace hDs := hDs.below hb16; replace hDt := hDt.below hb16; replace hDo := hDo.below hb16; replace hW := hW.trans (hb16.mono hW.size); clear hb16)
        | (go_at_call 17; have _t := tk17; clear tk17 _t; have hh := root_h hDo.li y false HE.out.2.2.2.2.2.2.2.2.1; (with_reducible refine hh.mono ?_); clear hh; rintro en w17 ⟨Aro, rfl, hDro, hb17⟩; replace hRx := hRx.below hb17; replace hRy := hRy.below hb17; replace hLx := hLx.below hb17; replace hLy := hLy.below hb17; replace hDp := hDp.below hb17; replace hDr0 := hDr0.below hb17; replace hDa := hDa.below hb17; replace hDu := hDu.below hb17; replace hDv := hDv.below hb17; replace hDn := hDn.below hb17; replace hDs := hDs.below hb17; replace hDt := hDt.below hb17; replace hDo := hDo.below hb17; replace hDrs := hDrs.below hb17; replace hW := hW.trans (hb17.mono hW.size); clear hb17)
        | (go_at_call 13; have _t := tk18; clear tk18 _t; have hh := norm_l hLy (by have := HL.out; omega); (with_reducible refine hh.mono ?_); clear hh; rintro en w18 ⟨Any, rfl, hDny, hb18⟩; replace hRx := hRx.below hb18; replace hRy := hRy.below hb18; replace hLx := hLx.below hb18; replace hLy := hLy.below hb18; replace hDp := hDp.below hb18; replace hDr0 := hDr0.below hb18; replace hDa := hDa.below hb18; replace hDu := hDu.below hb18; replace hDv := hDv.below hb18; replace hDn := hDn.below hb18; replace hDs := hDs.below hb18; replace hDt := hDt.below hb18; replace hDo := hDo.below hb18; replace hDrs := hDrs.below hb18; replace hDro := hDro.below hb18; replace hW := hW.trans (hb18.mono hW.size); clear hb18)
        | (go_at_call 12; have _t := tk19; clear tk19 _t; have hh := same_l hDrs hDny rfl; (with_reducible refine hh.mono ?_); clear hh; rintro en w19 ⟨rfl, hb19⟩; replace hRx := hRx.below hb19; replace hRy := hRy.below hb19; replace hLx := hLx.below hb19; replace hLy := hLy.below hb19; replace hDp := hDp.below hb19; replace hDr0 := hDr0.below hb19; replace hDa := hDa.below hb19; replace hDu := hDu.below hb19; replace hDv := hDv.below hb19; replace hDn := hDn.below hb19; replace hDs := hDs.below hb19; replace hDt := hDt.below hb19; replace hDo := hDo.below hb19; replace hDrs := hDrs.below hb19; replace hDro := hDro.below hb19; replace hDny := hDny.below hb19; replace hW := hW.trans (hb19.mono hW.size); clear hb19)
        | (go_at_call 12; have _t := tk20; clear tk20 _t; have hh := same_l hDro hDrs rfl; (with_reducible refine hh.mono ?_); clear hh; rintro en w20 ⟨rfl, hb20⟩; replace hRx := hRx.below hb20; replace hRy := hRy.below hb20; replace hLx := hLx.below hb20; replace hLy := hLy.below hb20; replace hDp := hDp.below hb20; replace hDr0 := hDr0.below hb20; replace hDa := hDa.below hb20; replace hDu := hDu.below hb20; replace hDv := hDv.below hb20; replace hDn := hDn.below hb20; replace hDs := hDs.below hb20; replace hDt := hDt.below hb20; replace hDo := hDo.below hb20; replace hDrs := hDrs.below hb20; replace hDro := hDro.below hb20; replace hDny := hDny.below hb20; replace hW := hW.trans (hb20.mono hW.size); clear hb20)
        | (go_at_call 18; have _t := tk21; clear tk21 _t; have hh := shl_h hLx K _ U HS.out (by have := HL.out; omega); (with_reducible refine hh.mono ?_); clear hh; rintro en w21 ⟨Aup, rfl, hDup, hb21⟩; replace hRx := hRx.below hb21; replace hRy := hRy.below hb21; replace hLx := hLx.below hb21; replace hLy := hLy.below hb21; replace hDp := hDp.below hb21; replace hDr0 := hDr0.below hb21; replace hDa := hDa.below hb21; replace hDu := hDu.below hb21; replace hDv := hDv.below hb21; replace hDn := hDn.below hb21; replace hDs := hDs.below hb21; replace hDt := hDt.below hb21; replace hDo := hDo.below hb21; replace hDrs := hDrs.below hb21; replace hDro := hDro.below hb21; replace hDny := hDny.below hb21; replace hW := hW.trans (hb21.mono hW.size); clear hb21)
        | (go_at_call 14; have _t := tk22; clear tk22 _t; have hal := below_new w21 (.cells #[.int .u32 2] 34); replace hRx := hRx.below hal; replace hRy := hRy.below hal; replace hLx := hLx.below hal; replace hLy := hLy.below hal; replace hDp := hDp.below hal; replace hDr0 := hDr0.below hal; replace hDa := hDa.below hal; replace hDu := hDu.below hal; replace hDv := hDv.below hal; replace hDn := hDn.below hal; replace hDs := hDs.below hal; replace hDt := hDt.below hal; replace hDo := hDo.below hal; replace hDrs := hDrs.below hal; replace hDro := hDro.below hal; replace hDny := hDny.below hal; replace hDup := hDup.below hal; replace hW := hW.trans (hal.mono hW.size); clear hal; have hL2 := Li.new w21 2 (by omega) 2 rfl; have hh := pow_l hL2 K _ T2 HT.out (by have := HL.out; omega); (with_reducible refine hh.mono ?_); clear hh; rintro en w22 ⟨Atw2, rfl, hDtw2, hb22⟩; replace hRx := hRx.below hb22; replace hRy := hRy.below hb22; replace hLx := hLx.below hb22; replace hLy := hLy.below hb22; replace hDp := hDp.below hb22; replace hDr0 := hDr0.below hb22; replace hDa := hDa.below hb22; replace hDu := hDu.below hb22; replace hDv := hDv.below hb22; replace hDn := hDn.below hb22; replace hDs := hDs.below hb22; replace hDt := hDt.below hb22; replace hDo := hDo.below hb22; replace hDrs := hDrs.below hb22; replace hDro := hDro.below hb22; replace hDny := hDny.below hb22; replace hDup := hDup.below hb22; replace hL2 := hL2.below hb22; replace hW := hW.trans (hb22.mono hW.size); clear hb22)
        | (go_at_call 9; have _t := tk23; clear tk23 _t; have hh := mul_h hLx hDtw2.li U HE.out.2.2.2.2.2.2.2.2.2 (by have := HL.out; omega); (with_reducible refine hh.mono ?_); clear hh; rintro en w23 ⟨Aby, rfl, hDby, hb23⟩; replace hRx := hRx.below hb23; replace hRy := hRy.below hb23; replace hLx := hLx.below hb23; replace hLy := hLy.below hb23; replace hDp := hDp.below hb23; replace hDr0 := hDr0.below hb23; replace hDa := hDa.below hb23; replace hDu := hDu.below hb23; replace hDv := hDv.below hb23; replace hDn := hDn.below hb23; replace hDs := hDs.below hb23; replace hDt := hDt.below hb23; replace hDo := hDo.below hb23; replace hDrs := hDrs.below hb23; replace hDro := hDro.below hb23; replace hDny := hDny.below hb23; replace hDup := hDup.below hb23; replace hL2 := hL2.below hb23; replace hDtw2 := hDtw2.below hb23; replace hW := hW.trans (hb23.mono hW.size); clear hb23)
        | (go_at_call 19; have _t := tk24; clear tk24 _t; have hh := shr_h hDup.li K _ x false HD.out (by have := HL.out; omega); (with_reducible refine hh.mono ?_); clear hh; rintro en w24 ⟨Adn, rfl, hDdn, hb24⟩; replace hRx := hRx.below hb24; replace hRy := hRy.below hb24; replace hLx := hLx.below hb24; replace hLy := hLy.below hb24; replace hDp := hDp.below hb24; replace hDr0 := hDr0.below hb24; replace hDa := hDa.below hb24; replace hDu := hDu.below hb24; replace hDv := hDv.below hb24; replace hDn := hDn.below hb24; replace hDs := hDs.below hb24; replace hDt := hDt.below hb24; replace hDo := hDo.below hb24; replace hDrs := hDrs.below hb24; replace hDro := hDro.below hb24; replace hDny := hDny.below hb24; replace hDup := hDup.below hb24; replace hL2 := hL2.below hb24; replace hDtw2 := hDtw2.below hb24; replace hDby := hDby.below hb24; replace hW := hW.trans (hb24.mono hW.size); clear hb24)
        | (go_at_call 12; have _t := tk25; clear tk25 _t; have hh := same_l hDup hDby rfl; (with_reducible refine hh.mono ?_); clear hh; rintro en w25 ⟨rfl, hb25⟩; replace hRx := hRx.below hb25; replace hRy := hRy.below hb25; replace hLx := hLx.below hb25; replace hLy := hLy.below hb25; replace hDp := hDp.below hb25; replace hDr0 := hDr0.below hb25; replace hDa := hDa.below hb25; replace hDu := hDu.below hb25; replace hDv := hDv.below hb25; replace hDn := hDn.below hb25; replace hDs := hDs.below hb25; replace hDt := hDt.below hb25; replace hDo := hDo.below hb25; replace hDrs := hDrs.below hb25; replace hDro := hDro.below hb25; replace hDny := hDny.below hb25; replace hDup := hDup.below hb25; replace hL2 := hL2.below hb25; replace hDtw2 := hDtw2.below hb25; replace hDby := hDby.below hb25; replace hDdn := hDdn.below hb25; replace hW := hW.trans (hb25.mono hW.size); clear hb25)
        | (go_at_call 13; have _t := tk26; clear tk26 _t; have hh := norm_l hLx (by have := HL.out; omega); (with_reducible refine hh.mono ?_); clear hh; rintro en w26 ⟨An2, rfl, hDn2, hb26⟩; replace hRx := hRx.below hb26; replace hRy := hRy.below hb26; replace hLx := hLx.below hb26; replace hLy := hLy.below hb26; replace hDp := hDp.below hb26; replace hDr0 := hDr0.below hb26; replace hDa := hDa.below hb26; replace hDu := hDu.below hb26; replace hDv := hDv.below hb26; replace hDn := hDn.below hb26; replace hDs := hDs.below hb26; replace hDt := hDt.below hb26; replace hDo := hDo.below hb26; replace hDrs := hDrs.below hb26; replace hDro := hDro.below hb26; replace hDny := hDny.below hb26; replace hDup := hDup.below hb26; replace hL2 := hL2.below hb26; replace hDtw2 := hDtw2.below hb26; replace hDby := hDby.below hb26; replace hDdn := hDdn.below hb26; replace hW := hW.trans (hb26.mono hW.size); clear hb26)
        | (go_at_call 12; have _t := tk27; clear tk27 _t; have hh := same_l hDdn hDn2 rfl; (with_reducible refine hh.mono ?_); clear hh; rintro en w27 ⟨rfl, hb27⟩; replace hRx := hRx.below hb27; replace hRy := hRy.below hb27; replace hLx := hLx.below hb27; replace hLy := hLy.below hb27; replace hDp := hDp.below hb27; replace hDr0 := hDr0.below hb27; replace hDa := hDa.below hb27; replace hDu := hDu.below hb27; replace hDv := hDv.below hb27; replace hDn := hDn.below hb27; replace hDs := hDs.below hb27; replace hDt := hDt.below hb27; replace hDo := hDo.below hb27; replace hDrs := hDrs.below hb27; replace hDro := hDro.below hb27; replace hDny := hDny.below hb27; replace hDup := hDup.below hb27; replace hL2 := hL2.below hb27; replace hDtw2 := hDtw2.below hb27; replace hDby := hDby.below hb27; replace hDdn := hDdn.below hb27; replace hDn2 := hDn2.below hb27; replace hW := hW.trans (hb27.mono hW.size); clear hb27))
      go_ret
      exact ⟨rfl, hW⟩
end

/-- vergelaw2.NatThere answers true, of any two lists and any int. -/
theorem there_any (A : Option Addr) (n c : Nat) (X : List Nat) (B : Option Addr) (n' c' : Nat) (Y : List Nat) (k : Int) (w : World) (hRx : Rd w A X) (hn : X.length = n) (hc : n ≤ c) (hm : c ≤ 35184372087808)
    (hRy : Rd w B Y) (hn' : Y.length = n') (hc' : n' ≤ c') (hm' : c' ≤ 35184372087808) (_ : -9223372036854775808 ≤ k) (_ : k ≤ 9223372036854775807) :
    Calls Try.prog 6 #[.slice A n c, .slice B n' c', .int .i64 k] w fun e w' => e = .returned (.bool true) ∧ Below w.heap.size w w' := by
  obtain ⟨K, hK, hck⟩ : ∃ K : Nat, K ≤ 4000 ∧ (((K : Int) = k ∧ 0 ≤ k ∧ k ≤ 4000) ∨ (K = 33 ∧ (k < 0 ∨ 4000 < k))) := by
    by_cases h : 0 ≤ k ∧ k ≤ 4000
    · exact ⟨k.toNat, by omega, .inl ⟨by omega, h.1, h.2⟩⟩
    · exact ⟨33, by omega, .inr ⟨rfl, by omega⟩⟩
  rcases Nat.eq_zero_or_pos (val (Y.take (min 64 n'))) with h0 | h0
  · exact there_zero A n c X B n' c' Y k w hRx hn (by omega) hRy hn' (by omega) 7 K hK hck h0 rfl
  · exact there_pos A n c X B n' c' Y k w hRx hn (by omega) hRy hn' (by omega) _ K hK hck rfl h0
end Go.Proofs.Ytniogjkkhkibhaa
