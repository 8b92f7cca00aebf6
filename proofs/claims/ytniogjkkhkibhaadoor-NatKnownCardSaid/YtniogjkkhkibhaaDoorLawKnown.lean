/- The walk of vergelaw2.NatKnown. -/
import Derived.Test.YtniogjkkhkibhaaDoorLawE
import Derived.Test.YtniogjkkhkibhaaDoorNatW
namespace Go.Proofs.YtniogjkkhkibhaaDoor
set_option linter.unusedVariables false
set_option linter.unusedSimpArgs false
open Go.RowKit Verge

/-- The top word of a power of 2. -/
theorem top_pow (k q r : Nat) (hk : k = 32 * q + r) (hr : r < 32) : (dig (2 ^ k)).length = q + 1 ∧ (dig (2 ^ k)).getD q 0 = 2 ^ r := by
  have e : 2 ^ k = 4294967296 ^ q * 2 ^ r := by rw [hk, Nat.pow_add, ← pow32]
  have h1 : 2 ^ r < 4294967296 := Nat.lt_of_le_of_lt (Nat.pow_le_pow_right (by omega) (show r ≤ 31 by omega)) (by decide)
  have h0 : 0 < 2 ^ r := Nat.pow_pos (by omega)
  have hq : 0 < 4294967296 ^ q := Nat.pow_pos (by omega)
  have hl : (dig (2 ^ k)).length ≤ q + 1 := by
    rw [dig_length_le, e, Nat.pow_succ]
    exact Nat.mul_lt_mul_of_pos_left h1 hq
  have hg : ¬ (dig (2 ^ k)).length ≤ q := by
    rw [dig_length_le, e]
    have := Nat.le_mul_of_pos_right (4294967296 ^ q) h0
    omega
  refine ⟨by omega, ?_⟩
  have hv := val_div (dig (2 ^ k)) (w32_dig _) q
  rw [val_dig, val_drop, List.drop_of_length_le hl] at hv
  have hd : 2 ^ k / 4294967296 ^ q = 2 ^ r := by rw [e, Nat.mul_div_cancel_left _ hq]
  rw [hd, val_nil, Nat.mul_zero, Nat.add_zero] at hv
  exact hv.symm

theorem known_word (W : World) : Calls Tryd.prog 23 #[.slice (some ⟨W.heap.size, 0, none⟩) 3 3] (W.alloc (.cells #[.int .u32 4294967295, .int .u32 4294967295, .int .u32 0] 23)) fun e w' =>
    e = .returned (.tuple #[.int .u64 18446744073709551615, .bool true]) ∧ Below W.heap.size W w' := by
  have hB := Blk.new W #[.int .u32 4294967295, .int .u32 4294967295, .int .u32 0] [4294967295, 4294967295, 0] (by intro y hy; simp at hy; omega) rfl
  have := word_any _ 3 3 _ _ hB.rd rfl (by omega)
  rw [show val [4294967295, 4294967295, 0] = 18446744073709551615 from rfl, if_pos (by omega), decide_eq_true (by omega)] at this
  refine this.mono ?_
  rintro e w' ⟨rfl, d, rfl⟩
  exact ⟨rfl, below_drewN (below_new W _) d⟩

theorem known_pow10 (W : World) : Calls Tryd.prog 24 #[.slice (some ⟨W.heap.size, 0, none⟩) 1 1, .int .i64 14] (W.alloc (.cells #[.int .u32 10] 23)) fun e w' =>
    ∃ A1, e = .returned (.tuple #[.slice A1 2 2, .int .i64 0]) ∧ Rd w' A1 [276447232, 23283] ∧ Below W.heap.size W w' := by
  have hB := Blk.new W #[.int .u32 10] [10] (by intro y hy; simp at hy; omega) rfl
  have := pow_any _ 1 1 _ _ hB.rd rfl (by omega) 10 rfl ((14 : Nat) : Int) (by omega) (by omega)
  rw [npow_fit (not_long 10 (by omega)), show 10 ^ 14 = 100000000000000 from rfl, fit_no (not_long _ (by omega)), dig_of [276447232, 23283] 100000000000000 (by simp) rfl rfl] at this
  refine this.mono ?_
  rintro e w' ⟨g, A1, _, rfl, hO, hb⟩
  exact ⟨A1, rfl, hO.rd, (below_new W _).trans (hb.mono (by simp))⟩

theorem known_top (W : World) (K : Nat) (kI : Int) (hI : (K : Int) = kI) (hK : K = 32 * 16383 + 31) : Calls Tryd.prog 24 #[.slice (some ⟨W.heap.size, 0, none⟩) 1 1, .int .i64 kI] (W.alloc (.cells #[.int .u32 2] 23)) fun e w' =>
    ∃ b, e = .returned (.tuple #[.slice (some ⟨b, 0, none⟩) 16384 16384, .int .i64 0]) ∧ w'.cell? ⟨b, 16383, none⟩ = some (.int .u32 2147483648) ∧ Below W.heap.size W w' := by
  subst hI
  have hB := Blk.new W #[.int .u32 2] [2] (by intro y hy; simp at hy; omega) rfl
  have := pow_any _ 1 1 _ _ hB.rd rfl (by omega) 2 rfl ((K : Nat) : Int) (by omega) (by omega)
  obtain ⟨h1, h2⟩ := top_pow K 16383 31 hK (by omega)
  rw [npow_fit (not_long 2 (by omega)), fit_small (by rw [h1]; omega)] at this
  refine this.mono ?_
  rintro e w' ⟨g, A1, _, rfl, hO, hb⟩
  obtain ⟨rfl, -⟩ := hO.2 (by intro e; have e' : dig (2 ^ K) = [] := e; rw [e'] at h1; simp at h1)
  obtain ⟨b, o, e, hc⟩ := hO.rd.cell (k := 16383) (by show 16383 < (dig (2 ^ K)).length; rw [h1]; omega)
  simp only [Option.some.injEq, Addr.mk.injEq] at e
  obtain ⟨rfl, rfl, -⟩ := e
  have h2' : ((dig (2 ^ K), (0 : Int)).fst).getD 16383 0 = 2 ^ 31 := h2
  rw [h2'] at hc
  dsimp only
  rw [h1]
  exact ⟨g, rfl, by rw [Nat.zero_add] at hc; exact hc, (below_new W _).trans (hb.mono (by simp))⟩

theorem long_pow2 (K : Nat) (h : K = 524288) : long (2 ^ K) = true := by
  have := (top_pow K 16384 0 (by omega) (by omega)).1
  rw [long_iff, this]; omega

theorem known_long2 (W : World) (K : Nat) (kI : Int) (hI : (K : Int) = kI) (hK : K = 524288) : Calls Tryd.prog 24 #[.slice (some ⟨W.heap.size, 0, none⟩) 1 1, .int .i64 kI] (W.alloc (.cells #[.int .u32 2] 23)) fun e w' =>
    ∃ A1, e = .returned (.tuple #[.slice A1 0 0, .int .i64 2]) ∧ Below W.heap.size W w' := by
  subst hI
  have hB := Blk.new W #[.int .u32 2] [2] (by intro y hy; simp at hy; omega) rfl
  have := pow_any _ 1 1 _ _ hB.rd rfl (by omega) 2 rfl ((K : Nat) : Int) (by omega) (by omega)
  rw [npow_fit (not_long 2 (by omega)), fit_yes (long_pow2 K hK)] at this
  refine this.mono ?_
  rintro e w' ⟨g, A1, _, rfl, hO, hb⟩
  exact ⟨A1, rfl, (below_new W _).trans (hb.mono (by simp))⟩

theorem known_long3 (W : World) (K : Nat) (kI : Int) (hI : (K : Int) = kI) (hK : 524288 < K) (hK2 : K ≤ 9223372036854775807) : Calls Tryd.prog 24 #[.slice (some ⟨W.heap.size, 0, none⟩) 1 1, .int .i64 kI] (W.alloc (.cells #[.int .u32 3] 23)) fun e w' =>
    ∃ A1, e = .returned (.tuple #[.slice A1 0 0, .int .i64 2]) ∧ Below W.heap.size W w' := by
  subst hI
  have hB := Blk.new W #[.int .u32 3] [3] (by intro y hy; simp at hy; omega) rfl
  have := pow_any _ 1 1 _ _ hB.rd rfl (by omega) 3 rfl ((K : Nat) : Int) (by omega) (by omega)
  rw [npow_fit (not_long 3 (by omega)), fit_yes (pow_long 3 K 0 (by rfl) (by omega))] at this
  refine this.mono ?_
  rintro e w' ⟨g, A1, _, rfl, hO, hb⟩
  exact ⟨A1, rfl, (below_new W _).trans (hb.mono (by simp))⟩

theorem known_shl (W : World) : Calls Tryd.prog 14 #[.slice (some ⟨W.heap.size, 0, none⟩) 1 1, .int .i64 31] (W.alloc (.cells #[.int .u32 3] 23)) fun e w' =>
    ∃ A1, e = .returned (.tuple #[.slice A1 2 2, .int .i64 0]) ∧ Rd w' A1 [2147483648, 1] ∧ Below W.heap.size W w' := by
  have hl := Li.new W 3 (by omega) 3 rfl
  have := shl_h hl 31 31 6442450944 ⟨rfl, rfl⟩ ⟨by have := blen64 3 (by omega); omega, by rw [dig_of [2147483648, 1] 6442450944 (by simp) rfl rfl]; decide⟩
  refine this.mono ?_
  rintro e w' ⟨A1, rfl, hD, hb⟩
  have h1 := hD.1
  rw [dig_of [2147483648, 1] 6442450944 (by simp) rfl rfl] at h1 ⊢
  exact ⟨A1, rfl, h1, (below_new W _).trans (hb.mono (by simp))⟩

theorem known_shr (W : World) : Calls Tryd.prog 25 #[.slice (some ⟨W.heap.size, 0, none⟩) 2 2, .int .i64 1] (W.alloc (.cells #[.int .u32 1, .int .u32 1] 23)) fun e w' =>
    ∃ A1, e = .returned (.tuple #[.slice A1 1 1, .bool true, .int .i64 0]) ∧ Rd w' A1 [2147483648] ∧ Below W.heap.size W w' := by
  have hB := Blk.new W #[.int .u32 1, .int .u32 1] [1, 1] (by intro y hy; simp at hy; omega) rfl
  have hl : Li (W.alloc (.cells #[.int .u32 1, .int .u32 1] 23)) (some ⟨W.heap.size, 0, none⟩) 2 2 4294967297 := ⟨[1, 1], hB.rd, rfl, by omega, by omega, by omega, rfl⟩
  have := shr_h hl 1 1 2147483648 true ⟨rfl, rfl, rfl⟩ (by omega)
  refine this.mono ?_
  rintro e w' ⟨A1, rfl, hD, hb⟩
  have h1 := hD.1
  rw [dig_of [2147483648] 2147483648 (by simp) rfl rfl] at h1 ⊢
  exact ⟨A1, rfl, h1, (below_new W _).trans (hb.mono (by simp))⟩

theorem known_cmp (W : World) : Calls Tryd.prog 22 #[.slice (some ⟨W.heap.size, 0, none⟩) 2 2, .slice (some ⟨W.heap.size + 1, 0, none⟩) 1 1] ((W.alloc (.cells #[.int .u32 0, .int .u32 1] 23)).alloc (.cells #[.int .u32 4294967295] 23)) fun e w' =>
    e = .returned (.int .i64 1) ∧ Below W.heap.size W w' := by
  have hB := (Blk.new W #[.int .u32 0, .int .u32 1] [0, 1] (by intro y hy; simp at hy; omega) rfl).alloc (.cells #[.int .u32 4294967295] 23)
  have hB2 := Blk.new2 W (.cells #[.int .u32 0, .int .u32 1] 23) #[.int .u32 4294967295] [4294967295] (by intro y hy; simp at hy; omega) rfl
  have := cmp_any _ 2 2 _ _ 1 1 _ _ hB.rd rfl (by omega) hB2.rd rfl (by omega)
  refine this.mono ?_
  rintro e w' ⟨rfl, d, rfl⟩
  exact ⟨rfl, below_drewN ((below_new W _).alloc (by simp) _) d⟩

theorem known_len (W : World) : Calls Tryd.prog 20 #[.slice (some ⟨W.heap.size, 0, none⟩) 2 2] (W.alloc (.cells #[.int .u32 0, .int .u32 1] 23)) fun e w' =>
    e = .returned (.int .i64 33) ∧ Below W.heap.size W w' := by
  have hB := Blk.new W #[.int .u32 0, .int .u32 1] [0, 1] (by intro y hy; simp at hy; omega) rfl
  have := len_any _ 2 2 _ _ hB.rd rfl (by omega)
  rw [blen_of (val [0, 1]) 32 (by decide) (by decide)] at this
  refine this.mono ?_
  rintro e w' ⟨rfl, rfl⟩
  exact ⟨rfl, below_new W _⟩

theorem known_zeros (W : World) (hT : Tab W) : Calls Tryd.prog 21 #[.slice (some ⟨W.heap.size, 0, none⟩) 2 2] (W.alloc (.cells #[.int .u32 0, .int .u32 8] 23)) fun e w' =>
    e = .returned (.int .i64 35) ∧ Below W.heap.size W w' := by
  have hB := Blk.new W #[.int .u32 0, .int .u32 8] [0, 8] (by intro y hy; simp at hy; omega) rfl
  have := zeros_any _ 2 2 _ _ hB.rd rfl (by omega) (hT.below (below_new W _))
  rw [ntz_of (val [0, 8]) 35 0 (by decide)] at this
  refine this.mono ?_
  rintro e w' ⟨rfl, rfl⟩
  exact ⟨rfl, below_new W _⟩

set_option maxRecDepth 100000 in
set_option maxHeartbeats 4000000 in
/-- vergelaw2.NatKnown answers true. -/
theorem known_any (w : World) (hT : Tab w) : Calls Tryd.prog 4 #[] w fun e w' => e = .returned (.bool true) ∧ Below w.heap.size w w' := by
  have hW := Below.refl w.heap.size w
  obtain ⟨K1, hK1⟩ : ∃ K : Nat, K = 32 * 16383 + 31 := ⟨_, rfl⟩
  obtain ⟨K2, hK2⟩ : ∃ K : Nat, K = 524288 := ⟨_, rfl⟩
  obtain ⟨K3, hK3⟩ : ∃ K : Nat, K = 9223372036854775807 := ⟨_, rfl⟩
  have H1 := Lib.hid (And.intro (show (K1 : Int) = 524287 by omega) hK1)
  have H2 := Lib.hid (And.intro (show (K2 : Int) = 524288 by omega) hK2)
  have H3 := Lib.hid (And.intro (show (K3 : Int) = 9223372036854775807 by omega) (And.intro (show 524288 < K3 by omega) (show K3 ≤ 9223372036854775807 by omega)))
  clear hK1 hK2 hK3
  have tk1 : True := trivial
  have tk2 : True := trivial
  have tk3 : True := trivial
  have tk4 : True := trivial
  have tk5 : True := trivial
  have tk6 : True := trivial
  have tk7 : True := trivial
  have tk8 : True := trivial
  have tk9 : True := trivial
  have tk10 : True := trivial
  have tk11 : True := trivial
  have tk12 : True := trivial
  have tk13 : True := trivial
  have tk14 : True := trivial
  go_enter Tryd.func4, Tryd.ntmps4
  go_wp2_with (first
    | (go_at_call 23; have _t := tk1; clear tk1 _t; have hh := known_word w; (with_reducible refine hh.mono ?_); clear hh; rintro en w1 ⟨rfl, hb1⟩; replace hT := hT.below hb1; replace hW := hW.trans (hb1.mono hW.size); clear hb1)
    | (go_at_call 17; have _t := tk2; clear tk2 _t; have hh := lives_any w1; (with_reducible refine hh.mono ?_); clear hh; rintro en w2 ⟨rfl, hb2⟩; replace hT := hT.below hb2; replace hW := hW.trans (hb2.mono hW.size); clear hb2)
    | (go_at_call 24; have _t := tk3; clear tk3 _t; have hh := known_pow10 w2; (with_reducible refine hh.mono ?_); clear hh; rintro en w3 ⟨A3, rfl, hR, hb3⟩; replace hT := hT.below hb3; replace hW := hW.trans (hb3.mono hW.size); clear hb3)
    | (go_at_call 18; have _t := tk4; clear tk4 _t; have hh := lives_same A3 2 [276447232, 23283] w3 #[.int .u32 276447232, .int .u32 23283] hR (by rfl) (by omega) (by rfl); (with_reducible refine hh.mono ?_); clear hh; rintro en w4 ⟨rfl, hb4⟩; replace hT := hT.below hb4; replace hR := hR.below hb4; replace hW := hW.trans (hb4.mono hW.size); clear hb4)
    | (go_at_call 24; have _t := tk5; clear tk5 _t; have hh := known_top w4 K1 _ H1.out.1 H1.out.2; (with_reducible refine hh.mono ?_); clear hh; rintro en w5 ⟨b5, rfl, hcell, hb5⟩; replace hT := hT.below hb5; replace hR := hR.below hb5; replace hW := hW.trans (hb5.mono hW.size); clear hb5)
    | (go_at_call 24; have _t := tk6; clear tk6 _t; have hh := known_long2 w5 K2 _ H2.out.1 H2.out.2; (with_reducible refine hh.mono ?_); clear hh; rintro en w6 ⟨A6, rfl, hb6⟩; replace hT := hT.below hb6; replace hR := hR.below hb6; replace hW := hW.trans (hb6.mono hW.size); clear hb6)
    | (go_at_call 24; have _t := tk7; clear tk7 _t; have hh := known_long3 w6 K3 _ H3.out.1 H3.out.2.1 H3.out.2.2; (with_reducible refine hh.mono ?_); clear hh; rintro en w7 ⟨A7, rfl, hb7⟩; replace hT := hT.below hb7; replace hR := hR.below hb7; replace hW := hW.trans (hb7.mono hW.size); clear hb7)
    | (go_at_call 14; have _t := tk8; clear tk8 _t; have hh := known_shl w7; (with_reducible refine hh.mono ?_); clear hh; rintro en w8 ⟨A8, rfl, hS, hb8⟩; replace hT := hT.below hb8; replace hR := hR.below hb8; replace hW := hW.trans (hb8.mono hW.size); clear hb8)
    | (go_at_call 18; have _t := tk9; clear tk9 _t; have hh := lives_same A8 2 [2147483648, 1] w8 #[.int .u32 2147483648, .int .u32 1] hS (by rfl) (by omega) (by rfl); (with_reducible refine hh.mono ?_); clear hh; rintro en w9 ⟨rfl, hb9⟩; replace hT := hT.below hb9; replace hR := hR.below hb9; replace hS := hS.below hb9; replace hW := hW.trans (hb9.mono hW.size); clear hb9)
    | (go_at_call 25; have _t := tk10; clear tk10 _t; have hh := known_shr w9; (with_reducible refine hh.mono ?_); clear hh; rintro en w10 ⟨A10, rfl, hQ, hb10⟩; replace hT := hT.below hb10; replace hR := hR.below hb10; replace hS := hS.below hb10; replace hW := hW.trans (hb10.mono hW.size); clear hb10)
    | (go_at_call 18; have _t := tk11; clear tk11 _t; have hh := lives_same A10 1 [2147483648] w10 #[.int .u32 2147483648] hQ (by rfl) (by omega) (by rfl); (with_reducible refine hh.mono ?_); clear hh; rintro en w11 ⟨rfl, hb11⟩; replace hT := hT.below hb11; replace hR := hR.below hb11; replace hS := hS.below hb11; replace hQ := hQ.below hb11; replace hW := hW.trans (hb11.mono hW.size); clear hb11)
    | (go_at_call 22; have _t := tk12; clear tk12 _t; have hh := known_cmp w11; (with_reducible refine hh.mono ?_); clear hh; rintro en w12 ⟨rfl, hb12⟩; replace hT := hT.below hb12; replace hR := hR.below hb12; replace hS := hS.below hb12; replace hQ := hQ.below hb12; replace hW := hW.trans (hb12.mono hW.size); clear hb12)
    | (go_at_call 20; have _t := tk13; clear tk13 _t; have hh := known_len w12; (with_reducible refine hh.mono ?_); clear hh; rintro en w13 ⟨rfl, hb13⟩; replace hT := hT.below hb13; replace hR := hR.below hb13; replace hS := hS.below hb13; replace hQ := hQ.below hb13; replace hW := hW.trans (hb13.mono hW.size); clear hb13)
    | (go_at_call 21; have _t := tk14; clear tk14 _t; have hh := known_zeros w13 hT; (with_reducible refine hh.mono ?_); clear hh; rintro en w14 ⟨rfl, hb14⟩; replace hT := hT.below hb14; replace hR := hR.below hb14; replace hS := hS.below hb14; replace hQ := hQ.below hb14; replace hW := hW.trans (hb14.mono hW.size); clear hb14))
  go_ret
  exact ⟨rfl, hW⟩
end Go.Proofs.YtniogjkkhkibhaaDoor
