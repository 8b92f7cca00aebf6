/- The walk of vergelaw2.NatGrows. -/
import Derived.Test.YtniogjkkhkibhaaLawD
namespace Go.Proofs.Ytniogjkkhkibhaa
set_option linter.unusedVariables false
set_option linter.unusedSimpArgs false
open Go.RowKit Verge

set_option maxRecDepth 100000 in
set_option maxHeartbeats 4000000 in
theorem grows_main (A : Option Addr) (n c : Nat) (X : List Nat) (m k : Int) (w : World) (hRx : Rd w A X) (hn : X.length = n) (hm : n ≤ 70368744177664)
    (M K : Nat) (hM : M ≤ 60) (hK : K ≤ 60) (hcm : ((M : Int) = m ∧ 0 ≤ m ∧ m ≤ 60) ∨ (M = 3 ∧ (m < 0 ∨ 60 < m))) (hck : ((K : Int) = k ∧ 0 ≤ k ∧ k ≤ 60) ∨ (K = 0 ∧ (k < 0 ∨ 60 < k))) :
    Calls Try.prog 5 #[.slice A n c, .int .i64 m, .int .i64 k] w fun e w' => e = .returned (.bool true) ∧ Below w.heap.size w w' := by
  have h1 := fun W hW => short_l A n c X 8 8 W rfl hW hn hm (by omega)
  have l1 := val_take_short X hRx.1 (min 8 n)
  obtain ⟨x, hx⟩ : ∃ x, val (X.take (min 8 n)) = x := ⟨_, rfl⟩
  rw [hx] at h1 l1
  have hsx := Lib.hid h1
  have l8 : (dig x).length ≤ 8 := by omega
  have k1 := dig_pow_length x M 8 l8
  have k2 := dig_pow_length x K 8 l8
  have k3 := dig_pow_length x (M + K) 8 l8
  have k4 := dig_mul_length (x ^ M) (x ^ K)
  have k5 := Nat.pow_add x M K
  obtain ⟨P, hP⟩ : ∃ P, x ^ M = P := ⟨_, rfl⟩
  obtain ⟨Q, hQ⟩ : ∃ Q, x ^ K = Q := ⟨_, rfl⟩
  obtain ⟨R, hR⟩ : ∃ R, x ^ (M + K) = R := ⟨_, rfl⟩
  rw [hP, hQ] at k4 k5
  rw [hR] at k5 k3
  rw [hP] at k1
  rw [hQ] at k2
  have HO : Hid (((1 : Nat) : Int) = 1 ∧ x ^ 1 = x) := ⟨rfl, Nat.pow_one x⟩
  have HL := Lib.hid (And.intro l8 (And.intro k1 (And.intro k2 (And.intro k3 (And.intro k4 (And.intro hM hK))))))
  have HE := Lib.hid k5
  have hW := Below.refl w.heap.size w
  clear h1 l1 hx l8 k1 k2 k3 k4 k5 hn
  rcases hcm with ⟨hm1, hm2, hm3⟩ | ⟨rfl, hm2⟩
  · rcases hck with ⟨hk1, hk2, hk3⟩ | ⟨rfl, hk2⟩
    · have HP := Lib.hid (And.intro hm1 hP)
      have HQ := Lib.hid (And.intro hk1 hQ)
      have HR := Lib.hid (And.intro (show ((M + K : Nat) : Int) = m + k by omega) hR)
      clear hP hQ hR hm1 hk1
      have tk1 : True := trivial
      have tk2 : True := trivial
      have tk3 : True := trivial
      have tk4 : True := trivial
      have tk5 : True := trivial
      have tk6 : True := trivial
      have tk7 : True := trivial
      have tk8 : True := trivial
      have tk9 : True := trivial
      have tk10 : True := trivial
      go_enter Try.func5, Try.ntmps5
      go_wp2_with (first
        | (go_at_call 7; have _t := tk1; clear tk1 _t; have hh := hsx.out _ hRx; (with_reducible refine hh.mono ?_); clear hh; rintro en w1 ⟨Ax, mx, rfl, hLx, hb1⟩; replace hRx := hRx.below hb1; replace hW := hW.trans (hb1.mono hW.size); clear hb1)
        | (go_at_call 14; have _t := tk2; clear tk2 _t; have hh := pow_l hLx _ _ _ HP.out (by have := HL.out; omega); (with_reducible refine hh.mono ?_); clear hh; rintro en w2 ⟨Ap, rfl, hDp, hb2⟩; replace hRx := hRx.below hb2; replace hLx := hLx.below hb2; replace hW := hW.trans (hb2.mono hW.size); clear hb2)
        | (go_at_call 14; have _t := tk3; clear tk3 _t; have hh := pow_l hLx _ _ _ HQ.out (by have := HL.out; omega); (with_reducible refine hh.mono ?_); clear hh; rintro en w3 ⟨Aq, rfl, hDq, hb3⟩; replace hRx := hRx.below hb3; replace hLx := hLx.below hb3; replace hDp := hDp.below hb3; replace hW := hW.trans (hb3.mono hW.size); clear hb3)
        | (go_at_call 14; have _t := tk4; clear tk4 _t; have hh := pow_l hLx _ _ _ HR.out (by have := HL.out; omega); (with_reducible refine hh.mono ?_); clear hh; rintro en w4 ⟨Ar, rfl, hDr, hb4⟩; replace hRx := hRx.below hb4; replace hLx := hLx.below hb4; replace hDp := hDp.below hb4; replace hDq := hDq.below hb4; replace hW := hW.trans (hb4.mono hW.size); clear hb4)
        | (go_at_call 9; have _t := tk5; clear tk5 _t; have hh := mul_l hDp.li hDq.li (by have := HL.out; omega); (with_reducible refine hh.mono ?_); clear hh; rintro en w5 ⟨As, rfl, hDs, hb5⟩; replace hRx := hRx.below hb5; replace hLx := hLx.below hb5; replace hDp := hDp.below hb5; replace hDq := hDq.below hb5; replace hDr := hDr.below hb5; replace hW := hW.trans (hb5.mono hW.size); clear hb5)
        | (go_at_call 14; have _t := tk6; clear tk6 _t; have hh := pow_l hLx _ _ _ HO.out (by have := HL.out; omega); (with_reducible refine hh.mono ?_); clear hh; rintro en w6 ⟨Ao, rfl, hDo, hb6⟩; replace hRx := hRx.below hb6; replace hLx := hLx.below hb6; replace hDp := hDp.below hb6; replace hDq := hDq.below hb6; replace hDr := hDr.below hb6; replace hDs := hDs.below hb6; replace hW := hW.trans (hb6.mono hW.size); clear hb6)
        | (go_at_call 11; have _t := tk7; clear tk7 _t; have hh := lives_any w6; (with_reducible refine hh.mono ?_); clear hh; rintro en w7 ⟨rfl, hb7⟩; replace hRx := hRx.below hb7; replace hLx := hLx.below hb7; replace hDp := hDp.below hb7; replace hDq := hDq.below hb7; replace hDr := hDr.below hb7; replace hDs := hDs.below hb7; replace hDo := hDo.below hb7; replace hW := hW.trans (hb7.mono hW.size); clear hb7)
        | (go_at_call 12; have _t := tk8; clear tk8 _t; have hh := same_l hDr hDs HE.out; (with_reducible refine hh.mono ?_); clear hh; rintro en w8 ⟨rfl, hb8⟩; replace hRx := hRx.below hb8; replace hLx := hLx.below hb8; replace hDp := hDp.below hb8; replace hDq := hDq.below hb8; replace hDr := hDr.below hb8; replace hDs := hDs.below hb8; replace hDo := hDo.below hb8; replace hW := hW.trans (hb8.mono hW.size); clear hb8)
        | (go_at_call 13; have _t := tk9; clear tk9 _t; have hh := norm_l hLx (by have := HL.out; omega); (with_reducible refine hh.mono ?_); clear hh; rintro en w9 ⟨An, rfl, hDn, hb9⟩; replace hRx := hRx.below hb9; replace hLx := hLx.below hb9; replace hDp := hDp.below hb9; replace hDq := hDq.below hb9; replace hDr := hDr.below hb9; replace hDs := hDs.below hb9; replace hDo := hDo.below hb9; replace hW := hW.trans (hb9.mono hW.size); clear hb9)
        | (go_at_call 12; have _t := tk10; clear tk10 _t; have hh := same_l hDo hDn rfl; (with_reducible refine hh.mono ?_); clear hh; rintro en w10 ⟨rfl, hb10⟩; replace hRx := hRx.below hb10; replace hLx := hLx.below hb10; replace hDp := hDp.below hb10; replace hDq := hDq.below hb10; replace hDr := hDr.below hb10; replace hDs := hDs.below hb10; replace hDo := hDo.below hb10; replace hDn := hDn.below hb10; replace hW := hW.trans (hb10.mono hW.size); clear hb10))
      go_ret
      exact ⟨rfl, hW⟩
    · have HP := Lib.hid (And.intro hm1 hP)
      have HQ := Lib.hid (And.intro (show ((0 : Nat) : Int) = 0 from rfl) hQ)
      have HR := Lib.hid (And.intro (show ((M + 0 : Nat) : Int) = m by omega) hR)
      clear hP hQ hR hm1
      rcases hk2 with hk2 | hk2
      all_goals
        have tk1 : True := trivial
        have tk2 : True := trivial
        have tk3 : True := trivial
        have tk4 : True := trivial
        have tk5 : True := trivial
        have tk6 : True := trivial
        have tk7 : True := trivial
        have tk8 : True := trivial
        have tk9 : True := trivial
        have tk10 : True := trivial
        go_enter Try.func5, Try.ntmps5
        go_wp2_with (first
          | (go_at_call 7; have _t := tk1; clear tk1 _t; have hh := hsx.out _ hRx; (with_reducible refine hh.mono ?_); clear hh; rintro en w1 ⟨Ax, mx, rfl, hLx, hb1⟩; replace hRx := hRx.below hb1; replace hW := hW.trans (hb1.mono hW.size); clear hb1)
          | (go_at_call 14; have _t := tk2; clear tk2 _t; have hh := pow_l hLx _ _ _ HP.out (by have := HL.out; omega); (with_reducible refine hh.mono ?_); clear hh; rintro en w2 ⟨Ap, rfl, hDp, hb2⟩; replace hRx := hRx.below hb2; replace hLx := hLx.below hb2; replace hW := hW.trans (hb2.mono hW.size); clear hb2)
          | (go_at_call 14; have _t := tk3; clear tk3 _t; have hh := pow_l hLx _ _ _ HQ.out (by have := HL.out; omega); (with_reducible refine hh.mono ?_); clear hh; rintro en w3 ⟨Aq, rfl, hDq, hb3⟩; replace hRx := hRx.below hb3; replace hLx := hLx.below hb3; replace hDp := hDp.below hb3; replace hW := hW.trans (hb3.mono hW.size); clear hb3)
          | (go_at_call 14; have _t := tk4; clear tk4 _t; have hh := pow_l hLx _ _ _ HR.out (by have := HL.out; omega); (with_reducible refine hh.mono ?_); clear hh; rintro en w4 ⟨Ar, rfl, hDr, hb4⟩; replace hRx := hRx.below hb4; replace hLx := hLx.below hb4; replace hDp := hDp.below hb4; replace hDq := hDq.below hb4; replace hW := hW.trans (hb4.mono hW.size); clear hb4)
          | (go_at_call 9; have _t := tk5; clear tk5 _t; have hh := mul_l hDp.li hDq.li (by have := HL.out; omega); (with_reducible refine hh.mono ?_); clear hh; rintro en w5 ⟨As, rfl, hDs, hb5⟩; replace hRx := hRx.below hb5; replace hLx := hLx.below hb5; replace hDp := hDp.below hb5; replace hDq := hDq.below hb5; replace hDr := hDr.below hb5; replace hW := hW.trans (hb5.mono hW.size); clear hb5)
          | (go_at_call 14; have _t := tk6; clear tk6 _t; have hh := pow_l hLx _ _ _ HO.out (by have := HL.out; omega); (with_reducible refine hh.mono ?_); clear hh; rintro en w6 ⟨Ao, rfl, hDo, hb6⟩; replace hRx := hRx.below hb6; replace hLx := hLx.below hb6; replace hDp := hDp.below hb6; replace hDq := hDq.below hb6; replace hDr := hDr.below hb6; replace hDs := hDs.below hb6; replace hW := hW.trans (hb6.mono hW.size); clear hb6)
          | (go_at_call 11; have _t := tk7; clear tk7 _t; have hh := lives_any w6; (with_reducible refine hh.mono ?_); clear hh; rintro en w7 ⟨rfl, hb7⟩; replace hRx := hRx.below hb7; replace hLx := hLx.below hb7; replace hDp := hDp.below hb7; replace hDq := hDq.below hb7; replace hDr := hDr.below hb7; replace hDs := hDs.below hb7; replace hDo := hDo.below hb7; replace hW := hW.trans (hb7.mono hW.size); clear hb7)
          | (go_at_call 12; have _t := tk8; clear tk8 _t; have hh := same_l hDr hDs HE.out; (with_reducible refine hh.mono ?_); clear hh; rintro en w8 ⟨rfl, hb8⟩; replace hRx := hRx.below hb8; replace hLx := hLx.below hb8; replace hDp := hDp.below hb8; replace hDq := hDq.below hb8; replace hDr := hDr.below hb8; replace hDs := hDs.below hb8; replace hDo := hDo.below hb8; replace hW := hW.trans (hb8.mono hW.size); clear hb8)
          | (go_at_call 13; have _t := tk9; clear tk9 _t; have hh := norm_l hLx (by have := HL.out; omega); (with_reducible refine hh.mono ?_); clear hh; rintro en w9 ⟨An, rfl, hDn, hb9⟩; replace hRx := hRx.below hb9; replace hLx := hLx.below hb9; replace hDp := hDp.below hb9; replace hDq := hDq.below hb9; replace hDr := hDr.below hb9; replace hDs := hDs.below hb9; replace hDo := hDo.below hb9; replace hW := hW.trans (hb9.mono hW.size); clear hb9)
          | (go_at_call 12; have _t := tk10; clear tk10 _t; have hh := same_l hDo hDn rfl; (with_reducible refine hh.mono ?_); clear hh; rintro en w10 ⟨rfl, hb10⟩; replace hRx := hRx.below hb10; replace hLx := hLx.below hb10; replace hDp := hDp.below hb10; replace hDq := hDq.below hb10; replace hDr := hDr.below hb10; replace hDs := hDs.below hb10; replace hDo := hDo.below hb10; replace hDn := hDn.below hb10; replace hW := hW.trans (hb10.mono hW.size); clear hb10))
        go_ret
        exact ⟨rfl, hW⟩
  · rcases hck with ⟨hk1, hk2, hk3⟩ | ⟨rfl, hk2⟩
    · have HP := Lib.hid (And.intro (show ((3 : Nat) : Int) = 3 from rfl) hP)
      have HQ := Lib.hid (And.intro hk1 hQ)
      have HR := Lib.hid (And.intro (show ((3 + K : Nat) : Int) = 3 + k by omega) hR)
      clear hP hQ hR hk1
      rcases hm2 with hm2 | hm2
      all_goals
        have tk1 : True := trivial
        have tk2 : True := trivial
        have tk3 : True := trivial
        have tk4 : True := trivial
        have tk5 : True := trivial
        have tk6 : True := trivial
        have tk7 : True := trivial
        have tk8 : True := trivial
        have tk9 : True := trivial
        have tk10 : True := trivial
        go_enter Try.func5, Try.ntmps5
        go_wp2_with (first
          | (go_at_call 7; have _t := tk1; clear tk1 _t; have hh := hsx.out _ hRx; (with_reducible refine hh.mono ?_); clear hh; rintro en w1 ⟨Ax, mx, rfl, hLx, hb1⟩; replace hRx := hRx.below hb1; replace hW := hW.trans (hb1.mono hW.size); clear hb1)
          | (go_at_call 14; have _t := tk2; clear tk2 _t; have hh := pow_l hLx _ _ _ HP.out (by have := HL.out; omega); (with_reducible refine hh.mono ?_); clear hh; rintro en w2 ⟨Ap, rfl, hDp, hb2⟩; replace hRx := hRx.below hb2; replace hLx := hLx.below hb2; replace hW := hW.trans (hb2.mono hW.size); clear hb2)
          | (go_at_call 14; have _t := tk3; clear tk3 _t; have hh := pow_l hLx _ _ _ HQ.out (by have := HL.out; omega); (with_reducible refine hh.mono ?_); clear hh; rintro en w3 ⟨Aq, rfl, hDq, hb3⟩; replace hRx := hRx.below hb3; replace hLx := hLx.below hb3; replace hDp := hDp.below hb3; replace hW := hW.trans (hb3.mono hW.size); clear hb3)
          | (go_at_call 14; have _t := tk4; clear tk4 _t; have hh := pow_l hLx _ _ _ HR.out (by have := HL.out; omega); (with_reducible refine hh.mono ?_); clear hh; rintro en w4 ⟨Ar, rfl, hDr, hb4⟩; replace hRx := hRx.below hb4; replace hLx := hLx.below hb4; replace hDp := hDp.below hb4; replace hDq := hDq.below hb4; replace hW := hW.trans (hb4.mono hW.size); clear hb4)
          | (go_at_call 9; have _t := tk5; clear tk5 _t; have hh := mul_l hDp.li hDq.li (by have := HL.out; omega); (with_reducible refine hh.mono ?_); clear hh; rintro en w5 ⟨As, rfl, hDs, hb5⟩; replace hRx := hRx.below hb5; replace hLx := hLx.below hb5; replace hDp := hDp.below hb5; replace hDq := hDq.below hb5; replace hDr := hDr.below hb5; replace hW := hW.trans (hb5.mono hW.size); clear hb5)
          | (go_at_call 14; have _t := tk6; clear tk6 _t; have hh := pow_l hLx _ _ _ HO.out (by have := HL.out; omega); (with_reducible refine hh.mono ?_); clear hh; rintro en w6 ⟨Ao, rfl, hDo, hb6⟩; replace hRx := hRx.below hb6; replace hLx := hLx.below hb6; replace hDp := hDp.below hb6; replace hDq := hDq.below hb6; replace hDr := hDr.below hb6; replace hDs := hDs.below hb6; replace hW := hW.trans (hb6.mono hW.size); clear hb6)
          | (go_at_call 11; have _t := tk7; clear tk7 _t; have hh := lives_any w6; (with_reducible refine hh.mono ?_); clear hh; rintro en w7 ⟨rfl, hb7⟩; replace hRx := hRx.below hb7; replace hLx := hLx.below hb7; replace hDp := hDp.below hb7; replace hDq := hDq.below hb7; replace hDr := hDr.below hb7; replace hDs := hDs.below hb7; replace hDo := hDo.below hb7; replace hW := hW.trans (hb7.mono hW.size); clear hb7)
          | (go_at_call 12; have _t := tk8; clear tk8 _t; have hh := same_l hDr hDs HE.out; (with_reducible refine hh.mono ?_); clear hh; rintro en w8 ⟨rfl, hb8⟩; replace hRx := hRx.below hb8; replace hLx := hLx.below hb8; replace hDp := hDp.below hb8; replace hDq := hDq.below hb8; replace hDr := hDr.below hb8; replace hDs := hDs.below hb8; replace hDo := hDo.below hb8; replace hW := hW.trans (hb8.mono hW.size); clear hb8)
          | (go_at_call 13; have _t := tk9; clear tk9 _t; have hh := norm_l hLx (by have := HL.out; omega); (with_reducible refine hh.mono ?_); clear hh; rintro en w9 ⟨An, rfl, hDn, hb9⟩; replace hRx := hRx.below hb9; replace hLx := hLx.below hb9; replace hDp := hDp.below hb9; replace hDq := hDq.below hb9; replace hDr := hDr.below hb9; replace hDs := hDs.below hb9; replace hDo := hDo.below hb9; replace hW := hW.trans (hb9.mono hW.size); clear hb9)
          | (go_at_call 12; have _t := tk10; clear tk10 _t; have hh := same_l hDo hDn rfl; (with_reducible refine hh.mono ?_); clear hh; rintro en w10 ⟨rfl, hb10⟩; replace hRx := hRx.below hb10; replace hLx := hLx.below hb10; replace hDp := hDp.below hb10; replace hDq := hDq.below hb10; replace hDr := hDr.below hb10; replace hDs := hDs.below hb10; replace hDo := hDo.below hb10; replace hDn := hDn.below hb10; replace hW := hW.trans (hb10.mono hW.size); clear hb10))
        go_ret
        exact ⟨rfl, hW⟩
    · have HP := Lib.hid (And.intro (show ((3 : Nat) : Int) = 3 from rfl) hP)
      have HQ := Lib.hid (And.intro (show ((0 : Nat) : Int) = 0 from rfl) hQ)
      have HR := Lib.hid (And.intro (show ((3 + 0 : Nat) : Int) = 3 from rfl) hR)
      clear hP hQ hR
      rcases hm2 with hm2 | hm2
      all_goals
        rcases hk2 with hk2 | hk2
        all_goals
          have tk1 : True := trivial
          have tk2 : True := trivial
          have tk3 : True := trivial
          have tk4 : True := trivial
          have tk5 : True := trivial
          have tk6 : True := trivial
          have tk7 : True := trivial
          have tk8 : True := trivial
          have tk9 : True := trivial
          have tk10 : True := trivial
          go_enter Try.func5, Try.ntmps5
          go_wp2_with (first
            | (go_at_call 7; have _t := tk1; clear tk1 _t; have hh := hsx.out _ hRx; (with_reducible refine hh.mono ?_); clear hh; rintro en w1 ⟨Ax, mx, rfl, hLx, hb1⟩; replace hRx := hRx.below hb1; replace hW := hW.trans (hb1.mono hW.size); clear hb1)
            | (go_at_call 14; have _t := tk2; clear tk2 _t; have hh := pow_l hLx _ _ _ HP.out (by have := HL.out; omega); (with_reducible refine hh.mono ?_); clear hh; rintro en w2 ⟨Ap, rfl, hDp, hb2⟩; replace hRx := hRx.below hb2; replace hLx := hLx.below hb2; replace hW := hW.trans (hb2.mono hW.size); clear hb2)
            | (go_at_call 14; have _t := tk3; clear tk3 _t; have hh := pow_l hLx _ _ _ HQ.out (by have := HL.out; omega); (with_reducible refine hh.mono ?_); clear hh; rintro en w3 ⟨Aq, rfl, hDq, hb3⟩; replace hRx := hRx.below hb3; replace hLx := hLx.below hb3; replace hDp := hDp.below hb3; replace hW := hW.trans (hb3.mono hW.size); clear hb3)
            | (go_at_call 14; have _t := tk4; clear tk4 _t; have hh := pow_l hLx _ _ _ HR.out (by have := HL.out; omega); (with_reducible refine hh.mono ?_); clear hh; rintro en w4 ⟨Ar, rfl, hDr, hb4⟩; replace hRx := hRx.below hb4; replace hLx := hLx.below hb4; replace hDp := hDp.below hb4; replace hDq := hDq.below hb4; replace hW := hW.trans (hb4.mono hW.size); clear hb4)
            | (go_at_call 9; have _t := tk5; clear tk5 _t; have hh := mul_l hDp.li hDq.li (by have := HL.out; omega); (with_reducible refine hh.mono ?_); clear hh; rintro en w5 ⟨As, rfl, hDs, hb5⟩; replace hRx := hRx.below hb5; replace hLx := hLx.below hb5; replace hDp := hDp.below hb5; replace hDq := hDq.below hb5; replace hDr := hDr.below hb5; replace hW := hW.trans (hb5.mono hW.size); clear hb5)
            | (go_at_call 14; have _t := tk6; clear tk6 _t; have hh := pow_l hLx _ _ _ HO.out (by have := HL.out; omega); (with_reducible refine hh.mono ?_); clear hh; rintro en w6 ⟨Ao, rfl, hDo, hb6⟩; replace hRx := hRx.below hb6; replace hLx := hLx.below hb6; replace hDp := hDp.below hb6; replace hDq := hDq.below hb6; replace hDr := hDr.below hb6; replace hDs := hDs.below hb6; replace hW := hW.trans (hb6.mono hW.size); clear hb6)
            | (go_at_call 11; have _t := tk7; clear tk7 _t; have hh := lives_any w6; (with_reducible refine hh.mono ?_); clear hh; rintro en w7 ⟨rfl, hb7⟩; replace hRx := hRx.below hb7; replace hLx := hLx.below hb7; replace hDp := hDp.below hb7; replace hDq := hDq.below hb7; replace hDr := hDr.below hb7; replace hDs := hDs.below hb7; replace hDo := hDo.below hb7; replace hW := hW.trans (hb7.mono hW.size); clear hb7)
            | (go_at_call 12; have _t := tk8; clear tk8 _t; have hh := same_l hDr hDs HE.out; (with_reducible refine hh.mono ?_); clear hh; rintro en w8 ⟨rfl, hb8⟩; replace hRx := hRx.below hb8; replace hLx := hLx.below hb8; replace hDp := hDp.below hb8; replace hDq := hDq.below hb8; replace hDr := hDr.below hb8; replace hDs := hDs.below hb8; replace hDo := hDo.below hb8; replace hW := hW.trans (hb8.mono hW.size); clear hb8)
            | (go_at_call 13; have _t := tk9; clear tk9 _t; have hh := norm_l hLx (by have := HL.out; omega); (with_reducible refine hh.mono ?_); clear hh; rintro en w9 ⟨An, rfl, hDn, hb9⟩; replace hRx := hRx.below hb9; replace hLx := hLx.below hb9; replace hDp := hDp.below hb9; replace hDq := hDq.below hb9; replace hDr := hDr.below hb9; replace hDs := hDs.below hb9; replace hDo := hDo.below hb9; replace hW := hW.trans (hb9.mono hW.size); clear hb9)
            | (go_at_call 12; have _t := tk10; clear tk10 _t; have hh := same_l hDo hDn rfl; (with_reducible refine hh.mono ?_); clear hh; rintro en w10 ⟨rfl, hb10⟩; replace hRx := hRx.below hb10; replace hLx := hLx.below hb10; replace hDp := hDp.below hb10; replace hDq := hDq.below hb10; replace hDr := hDr.below hb10; replace hDs := hDs.below hb10; replace hDo := hDo.below hb10; replace hDn := hDn.below hb10; replace hW := hW.trans (hb10.mono hW.size); clear hb10))
          go_ret
          exact ⟨rfl, hW⟩

/-- vergelaw2.NatGrows answers true, of any list and any two ints. -/
theorem grows_any (A : Option Addr) (n c : Nat) (X : List Nat) (m k : Int) (w : World) (hRx : Rd w A X) (hn : X.length = n) (hc : n ≤ c) (hm : c ≤ 35184372087808)
    (_ : -9223372036854775808 ≤ m) (_ : m ≤ 9223372036854775807) (_ : -9223372036854775808 ≤ k) (_ : k ≤ 9223372036854775807) :
    Calls Try.prog 5 #[.slice A n c, .int .i64 m, .int .i64 k] w fun e w' => e = .returned (.bool true) ∧ Below w.heap.size w w' := by
  obtain ⟨M, hM, hcm⟩ : ∃ M : Nat, M ≤ 60 ∧ (((M : Int) = m ∧ 0 ≤ m ∧ m ≤ 60) ∨ (M = 3 ∧ (m < 0 ∨ 60 < m))) := by
    by_cases h : 0 ≤ m ∧ m ≤ 60
    · exact ⟨m.toNat, by omega, .inl ⟨by omega, h.1, h.2⟩⟩
    · exact ⟨3, by omega, .inr ⟨rfl, by omega⟩⟩
  obtain ⟨K, hK, hck⟩ : ∃ K : Nat, K ≤ 60 ∧ (((K : Int) = k ∧ 0 ≤ k ∧ k ≤ 60) ∨ (K = 0 ∧ (k < 0 ∨ 60 < k))) := by
    by_cases h : 0 ≤ k ∧ k ≤ 60
    · exact ⟨k.toNat, by omega, .inl ⟨by omega, h.1, h.2⟩⟩
    · exact ⟨0, by omega, .inr ⟨rfl, by omega⟩⟩
  exact grows_main A n c X m k w hRx hn (by omega) M K hM hK hcm hck
end Go.Proofs.Ytniogjkkhkibhaa
