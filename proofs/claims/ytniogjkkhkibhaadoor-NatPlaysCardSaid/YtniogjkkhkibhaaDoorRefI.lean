/- The document's own naturals: what its calls answer: Add, Sub, Mul, Quo, Root, Pow, Shl, Shr. -/
import Derived.Test.YtniogjkkhkibhaaDoorRefH
import Derived.Test.YtniogjkkhkibhaaDoorPlainD
namespace Go.Proofs.YtniogjkkhkibhaaDoor
set_option linter.unusedVariables false
set_option linter.unusedSimpArgs false
open Go.RowKit Verge

/-- Long: has a number more than MaxNat words? -/
theorem rlong_any (A : Option Addr) (n c : Nat) (xs : List Nat) (w : World) (h : Rd w A xs) (hn : xs.length = n) (hm : n ≤ 140737488355328) :
    Calls Tryd.prog 72 #[.slice A n c] w fun e w' => e = .returned (.bool (long (val xs))) ∧ w = w' := by
  have ex : long (val xs) = decide (16384 < wl xs) := by rw [long, ← wl_eq h.1]
  rw [ex]
  have HN := Lib.hid hn
  clear hn ex
  go_enter Tryd.func72, Tryd.ntmps72
  go_wp2_with (go_at_call 70; refine (rwords_any A n c xs _ h HN.out hm).mono ?_; rintro e w' ⟨rfl, rfl⟩)
  go_ret
  exact ⟨by simp; omega, rfl⟩

/-- A list and an error's number. -/
def DocE (w : World) (r : List Nat) (er : Int) : Ending → World → Prop := fun en w' =>
  ∃ A c, en = .returned (.tuple #[.slice A r.length c, .int .i64 er]) ∧ Rd w' A r ∧ r.length ≤ c ∧ c ≤ maxLen ∧ Below w.heap.size w w'

theorem DocE.none (w : World) (er : Int) {w' : World} (hb : Below w.heap.size w w') : DocE w [] er (.returned (.tuple #[.slice none 0 0, .int .i64 er])) w' := ⟨_, 0, rfl, Rd.nil, Nat.le_refl _, by decide, hb⟩

theorem rfit_d (A : Option Addr) (c v : Nat) (w : World) (h : Rd w A (dig v)) (hc : (dig v).length ≤ c) (hm : c ≤ maxLen) (hb : (dig v).length ≤ 140737488355328) :
    Calls Tryd.prog 88 #[.slice A (dig v).length c] w (DocE w (fit v).1 (fit v).2) := by
  have hl := rlong_any A (dig v).length c (dig v) w h rfl hb
  rw [val_dig] at hl
  have HL := Lib.hid hl
  clear hl
  cases hlo : long v with
  | true =>
    rw [fit_yes hlo]
    have HLO := Lib.hid hlo
    clear hlo

    have tk1 : True := trivial
    go_enter Tryd.func88, Tryd.ntmps88
    go_wp2_with (first
      | (go_at_call 72; have _t := tk1; clear tk1 _t; have hh := HL.out; rw [HLO.out] at hh; (with_reducible refine hh.mono ?_); clear hh; rintro e w1 ⟨rfl, rfl⟩))
    go_ret2
    exact DocE.none w 2 (Below.refl _ _)
  | false =>
    rw [fit_no hlo]
    have HLO := Lib.hid hlo
    have HC := Lib.hid (And.intro hc hm)
    clear hlo hc hm

    have tk1 : True := trivial
    go_enter Tryd.func88, Tryd.ntmps88
    go_wp2_with (first
      | (go_at_call 72; have _t := tk1; clear tk1 _t; have hh := HL.out; rw [HLO.out] at hh; (with_reducible refine hh.mono ?_); clear hh; rintro e w1 ⟨rfl, rfl⟩))
    go_ret2
    exact ⟨A, c, rfl, h, HC.out.1, HC.out.2, Below.refl _ _⟩

section
variable (A : Option Addr) (n c : Nat) (X : List Nat) (A' : Option Addr) (n' c' : Nat) (Y : List Nat) (w : World) (h : Rd w A X) (hn : X.length = n) (hm : n ≤ 35184372088600)
section
variable (h' : Rd w A' Y) (hn' : Y.length = n') (hm' : n' ≤ 35184372088600)
include h hn hm h' hn' hm'

set_option maxHeartbeats 1000000 in
theorem docAdd : Calls Tryd.prog 76 #[.slice A n c, .slice A' n' c'] w (DocE w (nadd (val X) (val Y)).1 (nadd (val X) (val Y)).2) := by
  have hx := fun W hW => rlong_any A n c X W hW hn (by omega)
  have hy := fun W hW => rlong_any A' n' c' Y W hW hn' (by omega)
  have hp := rplus_any A n c X A' n' c' Y w h hn h' hn' (by omega) (by omega)
  have hxl : (dig (val X)).length ≤ n := by rw [← wl_eq h.1]; have := wl_le X; omega
  have hyl : (dig (val Y)).length ≤ n' := by rw [← wl_eq h'.1]; have := wl_le Y; omega
  obtain ⟨x, hxe⟩ : ∃ x, val X = x := ⟨_, rfl⟩
  obtain ⟨y, hye⟩ : ∃ y, val Y = y := ⟨_, rfl⟩
  rw [hxe] at hx hp hxl ⊢
  rw [hye] at hy hp hyl ⊢
  have hsl := dig_add_length x y (n + n') (by omega) (by omega)
  have HX := Lib.hid hx
  have HY := Lib.hid hy
  have HP := Lib.hid hp
  have HR := Lib.hid (And.intro h h')
  clear hx hy hp hxe hye h h' hn hn' hxl hyl
  cases hlx : long x with
  | true =>
    rw [nadd_long (by rw [hlx]; rfl)]
    have HLO := Lib.hid hlx
    clear hlx
    have tk1 : True := trivial
    go_enter Tryd.func76, Tryd.ntmps76
    go_wp2_with (first
      | (go_at_call 72; have _t := tk1; clear tk1 _t; have hh := HX.out _ HR.out.1; rw [HLO.out] at hh; (with_reducible refine hh.mono ?_); clear hh; rintro e w1 ⟨rfl, rfl⟩))
    go_ret2
    exact DocE.none w 2 (Below.refl _ _)
  | false =>
    cases hly : long y with
    | true =>
      rw [nadd_long (by rw [hlx, hly]; rfl)]
      have HLO := Lib.hid (And.intro hlx hly)
      clear hlx hly
      have tk1 : True := trivial
      have tk2 : True := trivial
      go_enter Tryd.func76, Tryd.ntmps76
      go_wp2_with (first
        | (go_at_call 72; have _t := tk1; clear tk1 _t; have hh := HX.out _ HR.out.1; rw [HLO.out.1] at hh; (with_reducible refine hh.mono ?_); clear hh; rintro e w1 ⟨rfl, rfl⟩)
        | (go_at_call 72; have _t := tk2; clear tk2 _t; have hh := HY.out _ HR.out.2; rw [HLO.out.2] at hh; (with_reducible refine hh.mono ?_); clear hh; rintro e w2 ⟨rfl, rfl⟩))
      go_ret2
      exact DocE.none w 2 (Below.refl _ _)
    | false =>
      rw [nadd_fit (by rw [hlx, hly]; rfl)]
      have HLO := Lib.hid (And.intro hlx hly)
      clear hlx hly
      have tk1 : True := trivial
      have tk2 : True := trivial
      have tk3 : True := trivial
      have tk4 : True := trivial
      go_enter Tryd.func76, Tryd.ntmps76
      go_wp2_with (first
        | (go_at_call 72; have _t := tk1; clear tk1 _t; have hh := HX.out _ HR.out.1; rw [HLO.out.1] at hh; (with_reducible refine hh.mono ?_); clear hh; rintro e w1 ⟨rfl, rfl⟩)
        | (go_at_call 72; have _t := tk2; clear tk2 _t; have hh := HY.out _ HR.out.2; rw [HLO.out.2] at hh; (with_reducible refine hh.mono ?_); clear hh; rintro e w2 ⟨rfl, rfl⟩)
        | (go_at_call 86; have _t := tk3; clear tk3 _t; have hh := HP.out; (with_reducible refine hh.mono ?_); clear hh; rintro e w3 ⟨A3, c3, rfl, d1, d2, d3, b3⟩)
        | (go_at_call 88; have _t := tk4; clear tk4 _t; have hh := rfit_d A3 c3 (x + y) w3 d1 d2 d3 (by omega); (with_reducible refine hh.mono ?_); clear hh; rintro e w4 ⟨A4, c4, rfl, f1, f2, f3, b4⟩))
      go_ret2
      exact ⟨A4, c4, rfl, f1, f2, f3, b3.trans (b4.mono b3.size)⟩

set_option maxHeartbeats 1000000 in
theorem docSub : Calls Tryd.prog 77 #[.slice A n c, .slice A' n' c'] w (DocE w (nsub (val X) (val Y)).1 (nsub (val X) (val Y)).2) := by
  have hx := fun W hW => rlong_any A n c X W hW hn (by omega)
  have hy := fun W hW => rlong_any A' n' c' Y W hW hn' (by omega)
  have hcm := rcmp_any A n c X A' n' c' Y w h hn h' hn' (by omega) (by omega)
  have hN := fun W hW => rnorm_any A' n' c' Y W hW hn' (by omega)
  have hp := fun (hle : val Y ≤ val X) A2 c2 W hW hV => rminus_any A n c X A2 (dig (val Y)).length c2 (dig (val Y)) W hW hn hV rfl (by omega) (by rw [val_dig]; exact hle)
  have hxl : (dig (val X)).length ≤ n := by rw [← wl_eq h.1]; have := wl_le X; omega
  have hyl : (dig (val Y)).length ≤ n' := by rw [← wl_eq h'.1]; have := wl_le Y; omega
  obtain ⟨x, hxe⟩ : ∃ x, val X = x := ⟨_, rfl⟩
  obtain ⟨y, hye⟩ : ∃ y, val Y = y := ⟨_, rfl⟩
  rw [val_dig] at hp
  rw [hxe] at hx hp hxl hcm ⊢
  rw [hye] at hy hp hyl hcm hN ⊢
  have hsl := dig_length_mono (Nat.sub_le x y)
  have HX := Lib.hid hx
  have HY := Lib.hid hy
  have HP := Lib.hid hp
  have HN := Lib.hid hN
  have HR := Lib.hid (And.intro h h')
  clear hx hy hp hN hxe hye h h' hn hn'
  by_cases hlt : x < y
  · rw [nsub_arg hlt]
    rw [cmp_lt hlt] at hcm
    have HC := Lib.hid hcm
    clear hlt hcm
    have tk1 : True := trivial
    go_enter Tryd.func77, Tryd.ntmps77
    go_wp2_with (first
      | (go_at_call 56; have _t := tk1; clear tk1 _t; have hh := HC.out; (with_reducible refine hh.mono ?_); clear hh; rintro e w1 ⟨rfl, d, rfl⟩))
    go_ret2
    exact DocE.none w 1 (below_drewN (Below.refl _ _) d)
  · obtain ⟨v1, hv1⟩ : ∃ v1, cmp x y = v1 := ⟨_, rfl⟩
    have hv10 : 0 ≤ v1 := by rw [← hv1]; unfold cmp; rw [if_neg hlt]; split <;> decide
    rw [hv1] at hcm
    have HC := Lib.hid hcm
    have HLE := Lib.hid (show y ≤ x by omega)
    clear hcm hv1
    cases hlx : long x with
    | true =>
      rw [nsub_long hlt (by rw [hlx]; rfl)]
      have HLO := Lib.hid hlx
      clear hlx hlt
      have tk1 : True := trivial
      have tk2 : True := trivial
      go_enter Tryd.func77, Tryd.ntmps77
      go_wp2_with (first
        | (go_at_call 56; have _t := tk1; clear tk1 _t; have hh := HC.out; (with_reducible refine hh.mono ?_); clear hh; rintro e w1 ⟨rfl, d, rfl⟩)
        | (go_at_call 72; have _t := tk2; clear tk2 _t; have hh := HX.out _ (HR.out.1.drewN d); rw [HLO.out] at hh; (with_reducible refine hh.mono ?_); clear hh; rintro e w2 ⟨rfl, rfl⟩))
      go_ret2
      exact DocE.none w 2 (below_drewN (Below.refl _ _) d)
    | false =>
      cases hly : long y with
      | true =>
        rw [nsub_long hlt (by rw [hlx, hly]; rfl)]
        have HLO := Lib.hid (And.intro hlx hly)
        clear hlx hly hlt
        have tk1 : True := trivial
        have tk2 : True := trivial
        have tk3 : True := trivial
        go_enter Tryd.func77, Tryd.ntmps77
        go_wp2_with (first
          | (go_at_call 56; have _t := tk1; clear tk1 _t; have hh := HC.out; (with_reducible refine hh.mono ?_); clear hh; rintro e w1 ⟨rfl, d, rfl⟩)
          | (go_at_call 72; have _t := tk2; clear tk2 _t; have hh := HX.out _ (HR.out.1.drewN d); rw [HLO.out.1] at hh; (with_reducible refine hh.mono ?_); clear hh; rintro e w2 ⟨rfl, rfl⟩)
          | (go_at_call 72; have _t := tk3; clear tk3 _t; have hh := HY.out _ (HR.out.2.drewN d); rw [HLO.out.2] at hh; (with_reducible refine hh.mono ?_); clear hh; rintro e w3 ⟨rfl, rfl⟩))
        go_ret2
        exact DocE.none w 2 (below_drewN (Below.refl _ _) d)
      | false =>
        rw [nsub_fit hlt (by rw [hlx, hly]; rfl)]
        have HLO := Lib.hid (And.intro hlx hly)
        clear hlx hly hlt
        have tk1 : True := trivial
        have tk2 : True := trivial
        have tk3 : True := trivial
        have tk4 : True := trivial
        have tk5 : True := trivial
        have tk6 : True := trivial
        go_enter Tryd.func77, Tryd.ntmps77
        go_wp2_with (first
          | (go_at_call 56; have _t := tk1; clear tk1 _t; have hh := HC.out; (with_reducible refine hh.mono ?_); clear hh; rintro e w1 ⟨rfl, d, rfl⟩)
          | (go_at_call 72; have _t := tk2; clear tk2 _t; have hh := HX.out _ (HR.out.1.drewN d); rw [HLO.out.1] at hh; (with_reducible refine hh.mono ?_); clear hh; rintro e w2 ⟨rfl, rfl⟩)
          | (go_at_call 72; have _t := tk3; clear tk3 _t; have hh := HY.out _ (HR.out.2.drewN d); rw [HLO.out.2] at hh; (with_reducible refine hh.mono ?_); clear hh; rintro e w3 ⟨rfl, rfl⟩)
          | (go_at_call 53; have _t := tk4; clear tk4 _t; have hh := HN.out _ (HR.out.2.drewN d); (with_reducible refine hh.mono ?_); clear hh; rintro e w4 ⟨A3, c3, rfl, n1, n2, n3, b3⟩)
          | (go_at_call 87; have _t := tk5; clear tk5 _t; have hh := HP.out HLE.out A3 c3 w4 ((HR.out.1.drewN d).below b3) n1; (with_reducible refine hh.mono ?_); clear hh; rintro e w5 ⟨A4, c4, rfl, d1, d2, d3, b4⟩)
          | (go_at_call 88; have _t := tk6; clear tk6 _t; have hh := rfit_d A4 c4 (x - y) w5 d1 d2 d3 (by omega); (with_reducible refine hh.mono ?_); clear hh; rintro e w6 ⟨A5, c5, rfl, f1, f2, f3, b5⟩))
        go_ret2
        have b0 := (below_drewN (Below.refl w.heap.size w) d).trans (b3.mono (Nat.le_refl _))
        have b1 := b0.trans (b4.mono b0.size)
        exact ⟨A5, c5, rfl, f1, f2, f3, b1.trans (b5.mono b1.size)⟩

set_option maxHeartbeats 1000000 in
theorem docMul : Calls Tryd.prog 78 #[.slice A n c, .slice A' n' c'] w (DocE w (nmul (val X) (val Y)).1 (nmul (val X) (val Y)).2) := by
  have hx := fun W hW => rlong_any A n c X W hW hn (by omega)
  have hy := fun W hW => rlong_any A' n' c' Y W hW hn' (by omega)
  have hlx' := fun W hW => rlen_any A n c X W hW hn (by omega)
  have hly' := fun W hW => rlen_any A' n' c' Y W hW hn' (by omega)
  have hwx := wl_eq h.1
  have hwy := wl_eq h'.1
  have hp := rtimes_any A n c X A' n' c' Y w h hn h' hn' (by omega) (by omega)
  rw [hwx, hwy] at hp
  obtain ⟨x, hxe⟩ : ∃ x, val X = x := ⟨_, rfl⟩
  obtain ⟨y, hye⟩ : ∃ y, val Y = y := ⟨_, rfl⟩
  rw [hxe] at hx hp hlx' ⊢
  rw [hye] at hy hp hly' ⊢
  have HX := Lib.hid hx
  have HY := Lib.hid hy
  have HP := Lib.hid hp
  have HLX := Lib.hid hlx'
  have HLY := Lib.hid hly'
  have HR := Lib.hid (And.intro h h')
  clear hx hy hp hxe hye h h' hn hn' hlx' hly' hwx hwy
  cases hlx : long x with
  | true =>
    have e : nmul x y = ([], 2) := by rw [nmul, hlx]; rfl
    rw [e]
    have HLO := Lib.hid hlx
    clear hlx e
    have tk1 : True := trivial
    go_enter Tryd.func78, Tryd.ntmps78
    go_wp2_with (first
      | (go_at_call 72; have _t := tk1; clear tk1 _t; have hh := HX.out _ HR.out.1; rw [HLO.out] at hh; (with_reducible refine hh.mono ?_); clear hh; rintro e w1 ⟨rfl, rfl⟩))
    go_ret2
    exact DocE.none w 2 (Below.refl _ _)
  | false =>
    cases hly : long y with
    | true =>
      have e : nmul x y = ([], 2) := by rw [nmul, hlx, hly]; rfl
      rw [e]
      have HLO := Lib.hid (And.intro hlx hly)
      clear hlx hly e
      have tk1 : True := trivial
      have tk2 : True := trivial
      go_enter Tryd.func78, Tryd.ntmps78
      go_wp2_with (first
        | (go_at_call 72; have _t := tk1; clear tk1 _t; have hh := HX.out _ HR.out.1; rw [HLO.out.1] at hh; (with_reducible refine hh.mono ?_); clear hh; rintro e w1 ⟨rfl, rfl⟩)
        | (go_at_call 72; have _t := tk2; clear tk2 _t; have hh := HY.out _ HR.out.2; rw [HLO.out.2] at hh; (with_reducible refine hh.mono ?_); clear hh; rintro e w2 ⟨rfl, rfl⟩))
      go_ret2
      exact DocE.none w 2 (Below.refl _ _)
    | false =>
      have hdx := (long_false x).1 hlx
      have hdy := (long_false y).1 hly
      have hbx := blen_le_words hdx
      have hby := blen_le_words hdy
      by_cases hbig : 524289 < blen x + blen y
      · have e : nmul x y = ([], 2) := by rw [nmul, hlx, hly, decide_eq_true hbig]; rfl
        rw [e]
        have HLO := Lib.hid (And.intro hlx hly)
        have hbigI : (524289 : Int) < ((blen x : Nat) : Int) + ((blen y : Nat) : Int) := by omega
        clear hlx hly e hbig
        have tk1 : True := trivial
        have tk2 : True := trivial
        have tk3 : True := trivial
        have tk4 : True := trivial
        go_enter Tryd.func78, Tryd.ntmps78
        go_wp2_with (first
          | (go_at_call 72; have _t := tk1; clear tk1 _t; have hh := HX.out _ HR.out.1; rw [HLO.out.1] at hh; (with_reducible refine hh.mono ?_); clear hh; rintro e w1 ⟨rfl, rfl⟩)
          | (go_at_call 72; have _t := tk2; clear tk2 _t; have hh := HY.out _ HR.out.2; rw [HLO.out.2] at hh; (with_reducible refine hh.mono ?_); clear hh; rintro e w2 ⟨rfl, rfl⟩)
          | (go_at_call 57; have _t := tk3; clear tk3 _t; have hh := HLX.out _ HR.out.1; (with_reducible refine hh.mono ?_); clear hh; rintro e w3 ⟨rfl, rfl⟩)
          | (go_at_call 57; have _t := tk4; clear tk4 _t; have hh := HLY.out _ HR.out.2; (with_reducible refine hh.mono ?_); clear hh; rintro e w4 ⟨rfl, rfl⟩))
        go_ret2
        exact DocE.none w 2 (Below.refl _ _)
      · have e : nmul x y = fit (x * y) := by rw [nmul, hlx, hly, decide_eq_false hbig]; rfl
        rw [e]
        have HLO := Lib.hid (And.intro hlx hly)
        have hbigI : ((blen x : Nat) : Int) + ((blen y : Nat) : Int) ≤ 524289 := by omega
        have hpl := dig_mul_length x y
        clear hlx hly e hbig
        have tk1 : True := trivial
        have tk2 : True := trivial
        have tk3 : True := trivial
        have tk4 : True := trivial
        have tk5 : True := trivial
        have tk6 : True := trivial
        go_enter Tryd.func78, Tryd.ntmps78
        go_wp2_with (first
          | (go_at_call 72; have _t := tk1; clear tk1 _t; have hh := HX.out _ HR.out.1; rw [HLO.out.1] at hh; (with_reducible refine hh.mono ?_); clear hh; rintro e w1 ⟨rfl, rfl⟩)
          | (go_at_call 72; have _t := tk2; clear tk2 _t; have hh := HY.out _ HR.out.2; rw [HLO.out.2] at hh; (with_reducible refine hh.mono ?_); clear hh; rintro e w2 ⟨rfl, rfl⟩)
          | (go_at_call 57; have _t := tk3; clear tk3 _t; have hh := HLX.out _ HR.out.1; (with_reducible refine hh.mono ?_); clear hh; rintro e w3 ⟨rfl, rfl⟩)
          | (go_at_call 57; have _t := tk4; clear tk4 _t; have hh := HLY.out _ HR.out.2; (with_reducible refine hh.mono ?_); clear hh; rintro e w4 ⟨rfl, rfl⟩)
          | (go_at_call 89; have _t := tk5; clear tk5 _t; have hh := HP.out (by omega); (with_reducible refine hh.mono ?_); clear hh; rintro e w5 ⟨A3, c3, rfl, d1, d2, d3, b3⟩)
          | (go_at_call 88; have _t := tk6; clear tk6 _t; have hh := rfit_d A3 c3 (x * y) w5 d1 d2 d3 (by omega); (with_reducible refine hh.mono ?_); clear hh; rintro e w6 ⟨A4, c4, rfl, f1, f2, f3, b4⟩))
        go_ret2
        exact ⟨A4, c4, rfl, f1, f2, f3, b3.trans (b4.mono b3.size)⟩

/-- Two lists and an error's number. -/
def DocQ (w : World) (q r : List Nat) (er : Int) : Ending → World → Prop := fun en w' =>
  ∃ A c A' c', en = .returned (.tuple #[.slice A q.length c, .slice A' r.length c', .int .i64 er]) ∧ Rd w' A q ∧ q.length ≤ c ∧ c ≤ maxLen ∧ Rd w' A' r ∧ r.length ≤ c' ∧ c' ≤ maxLen ∧ Below w.heap.size w w'

set_option maxHeartbeats 1000000 in
theorem docQuo : Calls Tryd.prog 59 #[.slice A n c, .slice A' n' c'] w (DocQ w (nquo (val X) (val Y)).1 (nquo (val X) (val Y)).2.1 (nquo (val X) (val Y)).2.2) := by
  have hx := fun W hW => rlong_any A n c X W hW hn (by omega)
  have hy := fun W hW => rlong_any A' n' c' Y W hW hn' (by omega)
  have hwd := fun W hW => rwords_any A' n' c' Y W hW hn' (by omega)
  have hz := val_eq_zero_iff Y
  have hp := rby_any A n c X A' n' c' Y w h hn h' hn' (by omega) (by omega)
  obtain ⟨x, hxe⟩ : ∃ x, val X = x := ⟨_, rfl⟩
  obtain ⟨y, hye⟩ : ∃ y, val Y = y := ⟨_, rfl⟩
  rw [hxe] at hx hp ⊢
  rw [hye] at hy hp hz ⊢
  have HX := Lib.hid hx
  have HY := Lib.hid hy
  have HP := Lib.hid hp
  have HW := Lib.hid hwd
  have HR := Lib.hid (And.intro h h')
  have hle := wl_le Y
  rw [hn'] at hle
  clear hx hy hp hxe hye h h' hn hn' hwd
  by_cases h0 : y = 0
  · subst h0
    rw [nquo_zero]
    have hb0 : ((wl Y : Int) == 0) = true := by simp [hz.1 rfl]
    clear hz
    have tk1 : True := trivial
    go_enter Tryd.func59, Tryd.ntmps59
    go_wp2_with (first
      | (go_at_call 70; have _t := tk1; clear tk1 _t; have hh := HW.out _ HR.out.2; (with_reducible refine hh.mono ?_); clear hh; rintro e w1 ⟨rfl, rfl⟩))
    go_ret3
    exact ⟨none, 0, none, 0, rfl, Rd.nil, Nat.le_refl _, by decide, Rd.nil, Nat.le_refl _, by decide, Below.refl _ _⟩
  · have hb0 : ((wl Y : Int) == 0) = false := by rw [beq_eq_false_iff_ne]; intro e; exact h0 (hz.2 (by omega))
    clear hz
    cases hlx : long x with
    | true =>
      rw [nquo_long h0 (by rw [hlx]; rfl)]
      have HLO := Lib.hid hlx
      clear hlx h0
      have tk1 : True := trivial
      have tk2 : True := trivial
      go_enter Tryd.func59, Tryd.ntmps59
      go_wp2_with (first
        | (go_at_call 70; have _t := tk1; clear tk1 _t; have hh := HW.out _ HR.out.2; (with_reducible refine hh.mono ?_); clear hh; rintro e w1 ⟨rfl, rfl⟩)
        | (go_at_call 72; have _t := tk2; clear tk2 _t; have hh := HX.out _ HR.out.1; rw [HLO.out] at hh; (with_reducible refine hh.mono ?_); clear hh; rintro e w2 ⟨rfl, rfl⟩))
      go_ret3
      exact ⟨none, 0, none, 0, rfl, Rd.nil, Nat.le_refl _, by decide, Rd.nil, Nat.le_refl _, by decide, Below.refl _ _⟩
    | false =>
      cases hly : long y with
      | true =>
        rw [nquo_long h0 (by rw [hlx, hly]; rfl)]
        have HLO := Lib.hid (And.intro hlx hly)
        clear hlx hly h0
        have tk1 : True := trivial
        have tk2 : True := trivial
        have tk3 : True := trivial
        go_enter Tryd.func59, Tryd.ntmps59
        go_wp2_with (first
          | (go_at_call 70; have _t := tk1; clear tk1 _t; have hh := HW.out _ HR.out.2; (with_reducible refine hh.mono ?_); clear hh; rintro e w1 ⟨rfl, rfl⟩)
          | (go_at_call 72; have _t := tk2; clear tk2 _t; have hh := HX.out _ HR.out.1; rw [HLO.out.1] at hh; (with_reducible refine hh.mono ?_); clear hh; rintro e w2 ⟨rfl, rfl⟩)
          | (go_at_call 72; have _t := tk3; clear tk3 _t; have hh := HY.out _ HR.out.2; rw [HLO.out.2] at hh; (with_reducible refine hh.mono ?_); clear hh; rintro e w3 ⟨rfl, rfl⟩))
        go_ret3
        exact ⟨none, 0, none, 0, rfl, Rd.nil, Nat.le_refl _, by decide, Rd.nil, Nat.le_refl _, by decide, Below.refl _ _⟩
      | false =>
        rw [nquo_ok h0 (by rw [hlx, hly]; rfl)]
        have HLO := Lib.hid (And.intro hlx hly)
        have hy0 : 0 < y := by omega
        clear hlx hly h0
        have tk1 : True := trivial
        have tk2 : True := trivial
        have tk3 : True := trivial
        have tk4 : True := trivial
        go_enter Tryd.func59, Tryd.ntmps59
        go_wp2_with (first
          | (go_at_call 70; have _t := tk1; clear tk1 _t; have hh := HW.out _ HR.out.2; (with_reducible refine hh.mono ?_); clear hh; rintro e w1 ⟨rfl, rfl⟩)
          | (go_at_call 72; have _t := tk2; clear tk2 _t; have hh := HX.out _ HR.out.1; rw [HLO.out.1] at hh; (with_reducible refine hh.mono ?_); clear hh; rintro e w2 ⟨rfl, rfl⟩)
          | (go_at_call 72; have _t := tk3; clear tk3 _t; have hh := HY.out _ HR.out.2; rw [HLO.out.2] at hh; (with_reducible refine hh.mono ?_); clear hh; rintro e w3 ⟨rfl, rfl⟩)
          | (go_at_call 73; have _t := tk4; clear tk4 _t; have hh := HP.out hy0; (with_reducible refine hh.mono ?_); clear hh; rintro e w4 ⟨A3, c3, A4, c4, rfl, q1, q2, q3, q4, q5, q6, b3⟩))
        go_ret3
        exact ⟨A3, c3, A4, c4, rfl, q1, q2, q3, q4, q5, q6, b3⟩
end

section
include h hn hm
/-- What Root answers. -/
def DocR (w : World) (a : Nat) : Ending → World → Prop := fun en w' =>
  ∃ A r c b er, en = .returned (.tuple #[.slice A (r : List Nat).length c, .bool b, .int .i64 er]) ∧ RootOf a r b er ∧ Rd w' A r ∧ r.length ≤ c ∧ c ≤ maxLen ∧ Below w.heap.size w w'

set_option maxHeartbeats 1000000 in
theorem docRoot : Calls Tryd.prog 60 #[.slice A n c] w (DocR w (val X)) := by
  have hx := fun W hW => rlong_any A n c X W hW hn (by omega)
  have hp := rsquare_any A n c X w h hn hm
  obtain ⟨x, hxe⟩ : ∃ x, val X = x := ⟨_, rfl⟩
  rw [hxe] at hx hp ⊢
  have HX := Lib.hid hx
  have HP := Lib.hid hp
  have HR := Lib.hid h
  clear hx hp hxe h hn
  cases hlx : long x with
  | true =>
    have hro : RootOf x [] false 2 := by rw [RootOf, hlx]; exact ⟨rfl, rfl, rfl⟩
    have HLO := Lib.hid hlx
    have HRO := Lib.hid hro
    clear hlx hro
    have tk1 : True := trivial
    go_enter Tryd.func60, Tryd.ntmps60
    go_wp2_with (first
      | (go_at_call 72; have _t := tk1; clear tk1 _t; have hh := HX.out _ HR.out; rw [HLO.out] at hh; (with_reducible refine hh.mono ?_); clear hh; rintro e w1 ⟨rfl, rfl⟩))
    go_ret3
    exact ⟨none, [], 0, false, 2, rfl, HRO.out, Rd.nil, Nat.le_refl _, by decide, Below.refl _ _⟩
  | false =>
    have HLO := Lib.hid hlx
    clear hlx
    have tk1 : True := trivial
    go_enter Tryd.func60, Tryd.ntmps60
    go_wp2_with (go_at_call 72; have _t := tk1; clear tk1 _t; have hh := HX.out _ HR.out; rw [HLO.out] at hh; (with_reducible refine hh.mono ?_); clear hh; rintro e w1 ⟨rfl, rfl⟩)
    refine HP.out.mono ?_
    rintro e w2 ⟨s, r, A3, c3, A4, c4, hs, hr, rfl, q1, q2, q3, q4, q5, q6, b3⟩
    have hsq : s * s ≤ x := hs.1
    rcases Nat.eq_zero_or_pos r with h0 | h0
    · have hd : (dig r).length = 0 := by rw [h0, dig_zero]; rfl
      rw [hd]
      have hro : RootOf x (dig s) true 0 := by rw [RootOf, HLO.out]; exact ⟨s, hs, rfl, by rw [eq_comm, decide_eq_true_iff]; omega, rfl⟩
      have HRO := Lib.hid hro
      clear hro hs hr hd h0 hsq
      go_wp2
      go_ret3
      exact ⟨A3, dig s, c3, true, 0, rfl, HRO.out, q1, q2, q3, b3⟩
    · have hd : (((dig r).length : Int) == 0) = false := by rw [beq_eq_false_iff_ne]; have := dig_length_pos (n := r) (by omega); omega
      have hro : RootOf x (dig s) false 0 := by rw [RootOf, HLO.out]; exact ⟨s, hs, rfl, by rw [eq_comm, decide_eq_false_iff_not]; omega, rfl⟩
      have HRO := Lib.hid hro
      clear hro hs hr h0 hsq
      go_wp2
      go_ret3
      exact ⟨A3, dig s, c3, false, 0, rfl, HRO.out, q1, q2, q3, b3⟩


set_option maxHeartbeats 1000000 in
theorem docShl (e : Int) (he0 : -9223372036854775808 ≤ e) (he1 : e ≤ 9223372036854775807) : Calls Tryd.prog 80 #[.slice A n c, .int .i64 e] w (DocE w (nshl (val X) e).1 (nshl (val X) e).2) := by
  have hx := fun W hW => rlong_any A n c X W hW hn (by omega)
  have hl := fun W hW => rlen_any A n c X W hW hn (by omega)
  have hw := wl_eq h.1
  have hp := fun q eI hq hb => rleft_any A n c X q eI w hq h hn (by omega) hb
  rw [hw] at hp
  obtain ⟨x, hxe⟩ : ∃ x, val X = x := ⟨_, rfl⟩
  rw [hxe] at hx hp hl ⊢
  have HX := Lib.hid hx
  have HP := Lib.hid hp
  have HL := Lib.hid hl
  have HR := Lib.hid h
  clear hx hp hl hxe h hn hw
  by_cases hneg : e < 0
  · have hr : nshl x e = ([], 1) := by simp only [nshl, hneg, if_true]
    rw [hr]
    clear hr
    go_enter Tryd.func80, Tryd.ntmps80
    go_wp2
    go_ret2
    exact DocE.none w 1 (Below.refl _ _)
  · cases hlx : long x with
    | true =>
      have hr : nshl x e = ([], 2) := by simp only [nshl, hneg, hlx, if_true, if_false]
      rw [hr]
      have HLO := Lib.hid hlx
      clear hlx hr
      have tk1 : True := trivial
      go_enter Tryd.func80, Tryd.ntmps80
      go_wp2_with (first
        | (go_at_call 72; have _t := tk1; clear tk1 _t; have hh := HX.out _ HR.out; rw [HLO.out] at hh; (with_reducible refine hh.mono ?_); clear hh; rintro e w1 ⟨rfl, rfl⟩))
      go_ret2
      exact DocE.none w 2 (Below.refl _ _)
    | false =>
      have hd := (long_false x).1 hlx
      have hbl := blen_le_words hd
      by_cases h0 : x = 0
      · have hr : nshl x e = ([], 0) := by simp only [nshl, hneg, hlx, if_false]; simp [h0]
        rw [hr]
        have HLO := Lib.hid hlx
        have hb0 : (((blen x : Nat) : Int) == 0) = true := by rw [h0]; rfl
        clear hlx hr h0
        have tk1 : True := trivial
        have tk2 : True := trivial
        go_enter Tryd.func80, Tryd.ntmps80
        go_wp2_with (first
          | (go_at_call 72; have _t := tk1; clear tk1 _t; have hh := HX.out _ HR.out; rw [HLO.out] at hh; (with_reducible refine hh.mono ?_); clear hh; rintro e w1 ⟨rfl, rfl⟩)
          | (go_at_call 57; have _t := tk2; clear tk2 _t; have hh := HL.out _ HR.out; (with_reducible refine hh.mono ?_); clear hh; rintro e w2 ⟨rfl, rfl⟩))
        go_ret2
        exact DocE.none w 0 (Below.refl _ _)
      · have hb0 : (((blen x : Nat) : Int) == 0) = false := by rw [beq_eq_false_iff_ne]; have := blen_pos (n := x) h0; omega
        by_cases hbig : 524288 - (blen x : Int) < e
        · have hr : nshl x e = ([], 2) := by simp [nshl, hneg, hlx, h0, hbig]
          rw [hr]
          have HLO := Lib.hid hlx
          clear hlx hr h0
          have tk1 : True := trivial
          have tk2 : True := trivial
          go_enter Tryd.func80, Tryd.ntmps80
          go_wp2_with (first
            | (go_at_call 72; have _t := tk1; clear tk1 _t; have hh := HX.out _ HR.out; rw [HLO.out] at hh; (with_reducible refine hh.mono ?_); clear hh; rintro e w1 ⟨rfl, rfl⟩)
            | (go_at_call 57; have _t := tk2; clear tk2 _t; have hh := HL.out _ HR.out; (with_reducible refine hh.mono ?_); clear hh; rintro e w2 ⟨rfl, rfl⟩))
          go_ret2
          exact DocE.none w 2 (Below.refl _ _)
        · obtain ⟨q, rfl⟩ : ∃ q : Nat, e = q := ⟨e.toNat, by omega⟩
          have hr : nshl x (q : Int) = (dig (x * 2 ^ q), 0) := by simp [nshl, hlx, h0, hbig]
          rw [hr]
          have HLO := Lib.hid hlx
          have hql : q / 32 + (dig x).length + 1 ≤ 35184372088800 := by omega
          clear hlx hr h0
          have tk1 : True := trivial
          have tk2 : True := trivial
          have tk3 : True := trivial
          go_enter Tryd.func80, Tryd.ntmps80
          go_wp2_with (first
            | (go_at_call 72; have _t := tk1; clear tk1 _t; have hh := HX.out _ HR.out; rw [HLO.out] at hh; (with_reducible refine hh.mono ?_); clear hh; rintro e w1 ⟨rfl, rfl⟩)
            | (go_at_call 57; have _t := tk2; clear tk2 _t; have hh := HL.out _ HR.out; (with_reducible refine hh.mono ?_); clear hh; rintro e w2 ⟨rfl, rfl⟩)
            | (go_at_call 83; have _t := tk3; clear tk3 _t; have hh := HP.out q _ rfl hql; (with_reducible refine hh.mono ?_); clear hh; rintro e w3 ⟨A3, c3, rfl, d1, d2, d3, b3⟩))
          go_ret2
          exact ⟨A3, c3, rfl, d1, d2, d3, b3⟩

/-- A list, a bool and an error's number. -/
def DocS (w : World) (r : List Nat) (b : Bool) (er : Int) : Ending → World → Prop := fun en w' =>
  ∃ A c, en = .returned (.tuple #[.slice A r.length c, .bool b, .int .i64 er]) ∧ Rd w' A r ∧ r.length ≤ c ∧ c ≤ maxLen ∧ Below w.heap.size w w'

set_option maxHeartbeats 1000000 in
theorem docShr (e : Int) (he0 : -9223372036854775808 ≤ e) (he1 : e ≤ 9223372036854775807) : Calls Tryd.prog 61 #[.slice A n c, .int .i64 e] w (DocS w (nshr (val X) e).1 (nshr (val X) e).2.1 (nshr (val X) e).2.2) := by
  have hx := fun W hW => rlong_any A n c X W hW hn (by omega)
  have hp := fun q eI hq hb => rright_any A n c X q eI w hq hb h hn (by omega)
  obtain ⟨x, hxe⟩ : ∃ x, val X = x := ⟨_, rfl⟩
  rw [hxe] at hx hp ⊢
  have HX := Lib.hid hx
  have HP := Lib.hid hp
  have HR := Lib.hid h
  clear hx hp hxe h hn
  by_cases hneg : e < 0
  · have hr : nshr x e = ([], false, 1) := by simp only [nshr, hneg, if_true]
    rw [hr]
    clear hr
    go_enter Tryd.func61, Tryd.ntmps61
    go_wp2
    go_ret3
    exact ⟨none, 0, rfl, Rd.nil, Nat.le_refl _, by decide, Below.refl _ _⟩
  · cases hlx : long x with
    | true =>
      have hr : nshr x e = ([], false, 2) := by simp only [nshr, hneg, hlx, if_true, if_false]
      rw [hr]
      have HLO := Lib.hid hlx
      clear hlx hr
      have tk1 : True := trivial
      go_enter Tryd.func61, Tryd.ntmps61
      go_wp2_with (first
        | (go_at_call 72; have _t := tk1; clear tk1 _t; have hh := HX.out _ HR.out; rw [HLO.out] at hh; (with_reducible refine hh.mono ?_); clear hh; rintro e w1 ⟨rfl, rfl⟩))
      go_ret3
      exact ⟨none, 0, rfl, Rd.nil, Nat.le_refl _, by decide, Below.refl _ _⟩
    | false =>
      obtain ⟨q, rfl⟩ : ∃ q : Nat, e = q := ⟨e.toNat, by omega⟩
      have hr : nshr x (q : Int) = (dig (x / 2 ^ q), decide (x % 2 ^ q ≠ 0), 0) := by simp [nshr, hlx]
      rw [hr]
      have hpp := HP.out q _ rfl (by omega)
      unfold RightPost at hpp
      obtain ⟨bb, hbb⟩ : ∃ bb, decide (x % 2 ^ q ≠ 0) = bb := ⟨_, rfl⟩
      rw [hbb] at hpp ⊢
      have HPP := Lib.hid hpp
      have HLO := Lib.hid hlx
      clear hlx hr hbb hpp
      have tk1 : True := trivial
      have tk2 : True := trivial
      go_enter Tryd.func61, Tryd.ntmps61
      go_wp2_with (first
        | (go_at_call 72; have _t := tk1; clear tk1 _t; have hh := HX.out _ HR.out; rw [HLO.out] at hh; (with_reducible refine hh.mono ?_); clear hh; rintro e w1 ⟨rfl, rfl⟩)
        | (go_at_call 75; have _t := tk2; clear tk2 _t; have hh := HPP.out; (with_reducible refine hh.mono ?_); clear hh; rintro e w2 ⟨A3, c3, rfl, d1, d2, d3, b3⟩))
      go_ret3
      exact ⟨A3, c3, rfl, d1, d2, d3, b3⟩

set_option maxHeartbeats 1000000 in
theorem docPow (e : Int) (he0 : -9223372036854775808 ≤ e) (he1 : e ≤ 9223372036854775807) : Calls Tryd.prog 79 #[.slice A n c, .int .i64 e] w (DocE w (npow (val X) e).1 (npow (val X) e).2) := by
  have hx := fun W hW => rlong_any A n c X W hW hn (by omega)
  have hl := fun W hW => rlen_any A n c X W hW hn (by omega)
  have hN := fun W hW => rnorm_any A n c X W hW hn (by omega)
  have hp := fun q eI hq hk hv ht => rpower_any A n c X q eI w hq hk h hn (by omega) hv ht
  obtain ⟨x, hxe⟩ : ∃ x, val X = x := ⟨_, rfl⟩
  rw [hxe] at hx hp hl hN ⊢
  have HX := Lib.hid hx
  have HP := Lib.hid hp
  have HL := Lib.hid hl
  have HN := Lib.hid hN
  have HR := Lib.hid h
  clear hx hp hl hxe h hn hN
  by_cases hneg : e < 0
  · rw [npow_neg hneg]
    go_enter Tryd.func79, Tryd.ntmps79
    go_wp2
    go_ret2
    exact DocE.none w 1 (Below.refl _ _)
  · cases hlx : long x with
    | true =>
      rw [npow_long hneg hlx]
      have HLO := Lib.hid hlx
      clear hlx
      have tk1 : True := trivial
      go_enter Tryd.func79, Tryd.ntmps79
      go_wp2_with (first
        | (go_at_call 72; have _t := tk1; clear tk1 _t; have hh := HX.out _ HR.out; rw [HLO.out] at hh; (with_reducible refine hh.mono ?_); clear hh; rintro e w1 ⟨rfl, rfl⟩))
      go_ret2
      exact DocE.none w 2 (Below.refl _ _)
    | false =>
      have hd := (long_false x).1 hlx
      have hbl := blen_le_words hd
      have HLO := Lib.hid hlx
      obtain ⟨k, rfl⟩ : ∃ k : Nat, e = k := ⟨e.toNat, by omega⟩
      rw [npow_fit hlx]
      by_cases hk0 : k = 0
      · subst hk0
        have hd1 : dig 1 = [1] := by rw [dig_pos (by omega)]; simp [dig_zero]
        rw [Nat.pow_zero, fit_small (by rw [hd1]; simp), hd1]
        clear hlx hd1 hneg
        have tk1 : True := trivial
        have tk2 : True := trivial
        go_enter Tryd.func79, Tryd.ntmps79
        go_wp2_with (first
          | (go_at_call 72; have _t := tk1; clear tk1 _t; have hh := HX.out _ HR.out; rw [HLO.out] at hh; (with_reducible refine hh.mono ?_); clear hh; rintro e w1 ⟨rfl, rfl⟩)
          | (go_at_call 57; have _t := tk2; clear tk2 _t; have hh := HL.out _ HR.out; (with_reducible refine hh.mono ?_); clear hh; rintro e w2 ⟨rfl, rfl⟩))
        go_ret2
        exact ⟨_, 1, rfl, (Blk.new w _ [1] (W32.cons (by omega) W32.nil) rfl).rd, Nat.le_refl _, by decide, (Below.refl _ w).alloc (Nat.le_refl _) _⟩
      · have hb0 : ((k : Int) == 0) = false := by rw [beq_eq_false_iff_ne]; omega
        by_cases hb2 : blen x < 2
        · have ha1 : x = 0 ∨ x = 1 := by
            have : x < 2 ^ 1 := by rw [← blen_lt]; omega
            omega
          have hpk : x ^ k = x := by
            rcases ha1 with rfl | rfl
            · exact Nat.zero_pow (by omega)
            · exact Nat.one_pow k
          rw [hpk, fit_no hlx]
          have hb2I : ((blen x : Nat) : Int) < 2 := by omega
          clear hlx ha1 hpk
          have tk1 : True := trivial
          have tk2 : True := trivial
          have tk3 : True := trivial
          go_enter Tryd.func79, Tryd.ntmps79
          go_wp2_with (first
            | (go_at_call 72; have _t := tk1; clear tk1 _t; have hh := HX.out _ HR.out; rw [HLO.out] at hh; (with_reducible refine hh.mono ?_); clear hh; rintro e w1 ⟨rfl, rfl⟩)
            | (go_at_call 57; have _t := tk2; clear tk2 _t; have hh := HL.out _ HR.out; (with_reducible refine hh.mono ?_); clear hh; rintro e w2 ⟨rfl, rfl⟩)
            | (go_at_call 53; have _t := tk3; clear tk3 _t; have hh := HN.out _ HR.out; (with_reducible refine hh.mono ?_); clear hh; rintro e w3 ⟨A3, c3, rfl, d1, d2, d3, b3⟩))
          go_ret2
          exact ⟨A3, c3, rfl, d1, d2, d3, b3⟩
        · obtain ⟨j, hj⟩ : ∃ j, blen x = j + 2 := ⟨blen x - 2, by omega⟩
          have HJ := Lib.hid hj
          rw [hj] at hbl
          by_cases hjk : 524288 / (j + 1) < k
          · have hpl := pow_long x k j hj hjk
            rw [fit_yes hpl]
            have hdj : (524288 : Int) / ((j : Int) + 2 - 1) < (k : Int) := by
              rw [show ((j : Int) + 2 - 1) = ((j + 1 : Nat) : Int) by omega, show (524288 : Int) = ((524288 : Nat) : Int) from rfl, ← Int.natCast_ediv]
              exact Int.ofNat_lt.2 hjk
            clear hlx hpl hj hjk hb2
            have tk1 : True := trivial
            have tk2 : True := trivial
            go_enter Tryd.func79, Tryd.ntmps79
            go_wp2_with (first
              | (go_at_call 72; have _t := tk1; clear tk1 _t; have hh := HX.out _ HR.out; rw [HLO.out] at hh; (with_reducible refine hh.mono ?_); clear hh; rintro e w1 ⟨rfl, rfl⟩)
              | (go_at_call 57; have _t := tk2; clear tk2 _t; have hh := HL.out _ HR.out; rw [HJ.out] at hh; (with_reducible refine hh.mono ?_); clear hh; rintro e w2 ⟨rfl, rfl⟩))
            go_ret2
            exact DocE.none w 2 (Below.refl _ _)
          · have hpw := pow_words x k j hj (by omega)
            have hdj : (k : Int) ≤ (524288 : Int) / ((j : Int) + 2 - 1) := by
              rw [show ((j : Int) + 2 - 1) = ((j + 1 : Nat) : Int) by omega, show (524288 : Int) = ((524288 : Nat) : Int) from rfl, ← Int.natCast_ediv]
              exact Int.ofNat_le.2 (by omega)
            obtain ⟨P, hP⟩ : ∃ P, x ^ k = P := ⟨_, rfl⟩
            have hpp := HP.out k _ rfl (by omega) (by omega) (by omega)
            rw [hP] at hpw hpp ⊢
            have HPP := Lib.hid hpp
            clear hlx hj hjk hb2 hP hpp
            have tk1 : True := trivial
            have tk2 : True := trivial
            have tk3 : True := trivial
            have tk4 : True := trivial
            go_enter Tryd.func79, Tryd.ntmps79
            go_wp2_with (first
              | (go_at_call 72; have _t := tk1; clear tk1 _t; have hh := HX.out _ HR.out; rw [HLO.out] at hh; (with_reducible refine hh.mono ?_); clear hh; rintro e w1 ⟨rfl, rfl⟩)
              | (go_at_call 57; have _t := tk2; clear tk2 _t; have hh := HL.out _ HR.out; rw [HJ.out] at hh; (with_reducible refine hh.mono ?_); clear hh; rintro e w2 ⟨rfl, rfl⟩)
              | (go_at_call 90; have _t := tk3; clear tk3 _t; have hh := HPP.out; (with_reducible refine hh.mono ?_); clear hh; rintro e w3 ⟨A3, c3, rfl, d1, d2, d3, b3⟩)
              | (go_at_call 88; have _t := tk4; clear tk4 _t; have hh := rfit_d A3 c3 P w3 d1 d2 d3 (by omega); (with_reducible refine hh.mono ?_); clear hh; rintro e w4 ⟨A4, c4, rfl, f1, f2, f3, b4⟩))
            go_ret2
            exact ⟨A4, c4, rfl, f1, f2, f3, b3.trans (b4.mono b3.size)⟩
end
end
end Go.Proofs.YtniogjkkhkibhaaDoor
