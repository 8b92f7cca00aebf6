/- The document's own naturals: Small, Word, Len, Bit, Zeros. -/
import Derived.Test.YtiadjcilfljdaaaDoorG07
import Derived.Test.YtiadjcilfljdaaaDoorG06
import Derived.Test.YtiadjcilfljdaaaDoorG01
namespace Go.Proofs.YtiadjcilfljdaaaDoor
set_option linter.unusedVariables false
set_option linter.unusedSimpArgs false
open Go.RowKit Verge

theorem rsmall_any (v : Nat) (w : World) (h : v < 18446744073709551616) : Calls Tryd.prog 60 #[.int .u64 (v : Int)] w (Doc w v) := by
  have hm := mask64 v h
  have hm' : Go.bits .and .u64 (v : Int) 4294967295 = (v : Int) % 4294967296 := by rw [hm]; omega
  have hW : W32 [v % 4294967296, v / 4294967296] := W32.cons (by omega) (W32.cons (by omega) W32.nil)
  have hB := Blk.new w #[.int .u32 ((v : Int) % 4294967296), .int .u32 ((v : Int) / 4294967296)] [v % 4294967296, v / 4294967296] hW rfl
  have hv : val [v % 4294967296, v / 4294967296] = v := by simp; omega
  have HN := rnorm_any _ 2 2 _ _ hB.rd rfl (by omega)
  rw [hv] at HN
  have HNN := Lib.hid HN
  clear hm hW hB hv HN
  go_enter Tryd.func60, Tryd.ntmps60
  go_wp2_with (go_at_call 58; refine HNN.out.mono ?_; rintro e w' ⟨A1, c1, rfl, h1, h2, h3, h4⟩)
  go_ret
  exact ⟨A1, c1, rfl, h1, h2, h3, (Below.refl _ w).alloc (Nat.le_refl _) _ |>.trans (h4.mono (by simp))⟩

section
variable (A : Option Addr) (n c : Nat) (X : List Nat) (w : World) (h : Rd w A X) (hn : X.length = n) (hm : n ≤ 140737488355328)
include h hn hm

set_option maxHeartbeats 1000000 in
theorem rlen_any : Calls Tryd.prog 21 #[.slice A n c] w fun e w' => e = .returned (.int .i64 (blen (val X) : Nat)) ∧ w = w' := by
  have H1 := Lib.hid hn
  have hle := wl_le X
  rcases Nat.eq_zero_or_pos (wl X) with h0 | h0
  · have hv := (val_eq_zero_iff X).2 h0
    rw [hv]
    have hb : ((wl X : Int) == 0) = true := by simp [h0]
    clear hn h0 hv
    go_enter Tryd.func21, Tryd.ntmps21
    go_wp2_with (go_at_call 59; refine (rwords_any A n c X _ h H1.out hm).mono ?_; rintro e w' ⟨rfl, rfl⟩)
    go_ret
    exact ⟨rfl, rfl⟩
  · obtain ⟨k, hk⟩ : ∃ k, wl X = k + 1 := ⟨wl X - 1, by omega⟩
    have hbl := blen_words h.1 k hk
    have hkn : k < n := by omega
    obtain ⟨b, o, rfl, hc⟩ := h.cell (k := k) (by omega)
    have hx := h.1.getD k
    have W := fun W' hW => rwords_any (some ⟨b, o, none⟩) n c X W' hW H1.out hm
    rw [hk] at W
    have HW := Lib.hid W; clear W
    have HB := Lib.hid hbl; clear hbl hn hk hle h0
    have HH := Lib.hid h; clear h
    generalize X.getD k 0 = x at *
    go_enter Tryd.func21, Tryd.ntmps21
    go_wp2_with (go_at_call 59; refine (HW.out _ HH.out).mono ?_; rintro e w' ⟨rfl, rfl⟩)
    go_loop [4, 5] (fun kv xv => ∃ d y : Nat, kv = .int .i64 (32 * (k : Int) + (d : Int)) ∧ xv = .int .u32 y ∧ y < 4294967296 ∧ d ≤ 32 ∧ Hid (blen x = d + blen y)) (fun _ xv => (intOf xv).toNat)
    case atStart => exact ⟨0, x, by congr 1 <;> omega, rfl, hx, by omega, show blen x = 0 + blen x by omega⟩
    case round =>
      obtain ⟨d, y, rfl, rfl, hy, hd, hI⟩ := hrel
      by_cases hy0 : y = 0
      · subst hy0
        go_wp2
        go_ret
        refine ⟨ret_int ?_, rfl⟩
        rw [HB.out, hI.out, blen_zero]; omega
      · have hyp : (0 : Int) < (y : Int) := by omega
        have hst := blen_half y hy0
        have hb32 := (blen_lt x 32).2 (by omega)
        have hd31 : d < 32 := by rw [hI.out, hst] at hb32; omega
        have HS := Lib.hid hst
        clear hst hb32
        go_wp2
        go_round
        case rel => exact ⟨d + 1, y / 2, by congr 1, by congr 1, by omega, by omega, show blen x = d + 1 + blen (y / 2) by rw [hI.out, HS.out]; omega⟩
        case measure => simp [intOf]; omega

theorem rbit_any (i : Nat) (iI : Int) (hi : (i : Int) = iI) (hib : i ≤ 4611686018427387904) : Calls Tryd.prog 80 #[.slice A n c, .int .i64 iI] w fun e w' => e = .returned (.int .u32 (val X / 2 ^ i % 2 : Nat)) ∧ w = w' := by
  subst hi
  have hv := bit_val h.1 i
  by_cases hlt : i / 32 < n
  · obtain ⟨b, o, rfl, hc⟩ := h.cell (k := i / 32) (by omega)
    have hx := h.1.getD (i / 32)
    obtain ⟨x, hgx⟩ : ∃ x, X.getD (i / 32) 0 = x := ⟨_, rfl⟩
    rw [hgx] at hc hx hv
    rw [hv]
    obtain ⟨y, hy⟩ : ∃ y, x / 2 ^ (i % 32) = y := ⟨_, rfl⟩
    have hyb : y < 4294967296 := by rw [← hy]; exact Nat.lt_of_le_of_lt (Nat.div_le_self _ _) hx
    have hsh : (x : Int) / 2 ^ (i % 32) = (y : Int) := by rw [← hy]; simp
    obtain ⟨z, hz⟩ : ∃ z, y % 2 = z := ⟨_, rfl⟩
    have hand : Go.bits .and .u32 (y : Int) 1 = (z : Int) := by
      have h1 : Go.bits .and .u32 (y : Int) ((1 : Nat) : Int) = ((y &&& 1 : Nat) : Int) := Go.u32_and_nat y 1 hyb (by omega)
      rw [Nat.and_one_is_mod, hz] at h1
      exact h1
    rw [hy, hz]
    obtain ⟨q, hq⟩ : ∃ q, i / 32 = q := ⟨_, rfl⟩
    obtain ⟨r, hr⟩ : ∃ r, i % 32 = r := ⟨_, rfl⟩
    rw [hq] at hc hlt
    rw [hr] at hsh
    have hqI : (i : Int) / 32 = (q : Int) := by omega
    have hrI : (i : Int) % 32 = (r : Int) := by omega
    have hr32 : r < 32 := by omega
    clear hv hgx hy hz hq hr h hn
    go_enter Tryd.func80, Tryd.ntmps80
    go_wp2
    go_ret
    exact ⟨rfl, rfl⟩
  · have hz : X.getD (i / 32) 0 = 0 := getD_ge X (by omega)
    rw [hz, Nat.zero_div] at hv
    rw [hv]
    obtain ⟨q, hq⟩ : ∃ q, i / 32 = q := ⟨_, rfl⟩
    have hqI : (i : Int) / 32 = (q : Int) := by omega
    have hqn : n ≤ q := by omega
    clear hv hz hq hlt h hn
    go_enter Tryd.func80, Tryd.ntmps80
    go_wp2
    go_ret
    exact ⟨rfl, rfl⟩

set_option maxHeartbeats 1000000 in
theorem rzeros_any (hm2 : n ≤ 70368744177664) : Calls Tryd.prog 82 #[.slice A n c] w fun e w' => e = .returned (.int .i64 (ntz (val X) : Nat)) ∧ w = w' := by
  have HN := Lib.hid hn
  rcases Nat.eq_zero_or_pos (wl X) with h0 | h0
  · have hv := (val_eq_zero_iff X).2 h0
    rw [hv, ntz_zero]
    have hb : ((wl X : Int) == 0) = true := by simp [h0]
    clear hn h0 hv
    go_enter Tryd.func82, Tryd.ntmps82
    go_wp2_with (go_at_call 59; refine (rwords_any A n c X _ h HN.out hm).mono ?_; rintro e w' ⟨rfl, rfl⟩)
    go_ret
    exact ⟨rfl, rfl⟩
  · have hv0 : val X ≠ 0 := fun e => by have := (val_eq_zero_iff X).1 e; omega
    have hb : ((wl X : Int) == 0) = false := by rw [beq_eq_false_iff_ne]; omega
    have hle := wl_le X
    obtain ⟨b, o, rfl, hc⟩ := h.cells (by omega)
    have hnt := ntz_lt h.1 hv0
    rw [hn] at hnt
    have hbits := fun i (hi : i ≤ 4611686018427387904) W (hW : Rd W (some ⟨b, o, none⟩) X) => rbit_any (some ⟨b, o, none⟩) n c X W hW hn hm i _ rfl hi
    have HBI := Lib.hid hbits
    have HX := Lib.hid (And.intro h (And.intro hc hv0))
    have h32 := h.1
    have HW := Lib.hid h32
    clear hn h hc hv0 h0 hle hbits h32
    go_enter Tryd.func82, Tryd.ntmps82
    go_wp2_with (go_at_call 59; refine (rwords_any _ n c X _ HX.out.1 HN.out hm).mono ?_; rintro e w' ⟨rfl, rfl⟩)
    go_loop [3] (fun kv => ∃ k : Nat, k < n ∧ kv = .int .i64 (32 * (k : Int)) ∧ Hid (∀ j, j < k → X.getD j 0 = 0)) (fun kv => 32 * n - (intOf kv).toNat)
    case atStart => exact ⟨0, by omega, rfl, fun j hj => by omega⟩
    case round =>
      obtain ⟨k, hk, rfl, hz⟩ := hrel
      have hcell := HX.out.2.1 k (by rw [HN.out]; exact hk)
      obtain ⟨x, hgx⟩ : ∃ x, X.getD k 0 = x := ⟨_, rfl⟩
      rw [hgx] at hcell
      have hdk : (32 * (k : Int)) / 32 = (k : Int) := by omega
      have HG := Lib.hid hgx; clear hgx
      have hge := ntz_ge k (val_take_zero X k hz.out) HX.out.2.2 (by rw [HN.out]; omega)
      by_cases hx0 : x = 0
      · subst hx0
        have hk1 : k + 1 < n := by
          have hz2 : val (X.take (k + 1)) = 0 := val_take_zero X (k + 1) fun j hj => by
            rcases Nat.eq_or_lt_of_le (Nat.le_of_lt_succ hj) with e | e
            · rw [e]; exact HG.out
            · exact hz.out j e
          have := ntz_ge (k + 1) hz2 HX.out.2.2 (by rw [HN.out]; omega)
          omega
        go_wp2
        go_round
        case rel => exact ⟨k + 1, hk1, by congr 1 <;> omega, fun j hj => by
          rcases Nat.eq_or_lt_of_le (Nat.le_of_lt_succ hj) with e | e
          · rw [e]; exact HG.out
          · exact hz.out j e⟩
        case measure => simp [intOf]; omega
      · have hxb : ((x : Int) == 0) = false := by rw [beq_eq_false_iff_ne]; omega
        go_wp2
        go_loop [3] (fun kv => ∃ k : Nat, k ≤ ntz (val X) ∧ kv = .int .i64 k) (fun kv => 32 * n - (intOf kv).toNat)
        case atStart => exact ⟨32 * k, hge, by congr 1⟩
        case round =>
          obtain ⟨i, hi, rfl⟩ := hrel
          have hbit := HBI.out i (by omega)
          rcases Nat.eq_or_lt_of_le hi with rfl | hlt
          · rw [ntz_bit1 (val X) HX.out.2.2] at hbit
            have HBT := Lib.hid hbit
            clear hbit
            go_wp2_with (go_at_call 80; refine (HBT.out _ HX.out.1).mono ?_; rintro e w' ⟨rfl, rfl⟩)
            go_ret
            exact ⟨rfl, rfl⟩
          · rw [ntz_bit0 (val X) i HX.out.2.2 hlt] at hbit
            have HBT := Lib.hid hbit
            clear hbit
            go_wp2_with (go_at_call 80; refine (HBT.out _ HX.out.1).mono ?_; rintro e w' ⟨rfl, rfl⟩)
            go_round
            case rel => exact ⟨i + 1, hlt, by congr 1⟩
            case measure => simp [intOf]; omega

set_option maxHeartbeats 1000000 in
/-- Word: at most two words. -/
theorem rword_any : Calls Tryd.prog 24 #[.slice A n c] w fun e w' => e = .returned (.tuple #[.int .u64 (if val X < 18446744073709551616 then (val X : Nat) else 0), .bool (decide (val X < 18446744073709551616))]) ∧ w = w' := by
  have HN := Lib.hid hn
  have hbig : val X < 18446744073709551616 ↔ wl X ≤ 2 := by
    have h3 := (dig_length_le (n := val X) (k := 2))
    rw [← wl_eq h.1] at h3
    exact h3.symm
  by_cases h2 : 2 < wl X
  · have hb : ¬ val X < 18446744073709551616 := by omega
    rw [if_neg hb, decide_eq_false hb]
    clear hn hbig hb
    go_enter Tryd.func24, Tryd.ntmps24
    go_wp2_with (go_at_call 59; refine (rwords_any A n c X _ h HN.out hm).mono ?_; rintro e w' ⟨rfl, rfl⟩)
    go_ret2
    exact ⟨rfl, rfl⟩
  · have hb : val X < 18446744073709551616 := by omega
    rw [if_pos hb, decide_eq_true hb]
    have hle := wl_le X
    have hdrop : ∀ k, k < wl X → val ((norm X).drop k) = X.getD k 0 + 4294967296 * val ((norm X).drop (k + 1)) := fun k hk => by rw [val_drop, norm_getD X k hk]
    have hend : val ((norm X).drop (wl X)) = 0 := by rw [List.drop_of_length_le (by rw [length_norm]; omega)]; rfl
    have hone : ∀ k, 1 ≤ k → val ((norm X).drop k) < 4294967296 := fun k hk => by
      have := val_lt ((w32_norm h.1).drop k)
      rw [List.length_drop, length_norm] at this
      exact Nat.lt_of_lt_of_le this (Nat.le_trans (Nat.pow_le_pow_right (by omega) (show wl X - k ≤ 1 by omega)) (by omega))
    have hst : val ((norm X).drop 0) = val X := by rw [List.drop_zero, val_norm]
    have HD := Lib.hid (And.intro hdrop (And.intro hend (And.intro hone hst)))
    have HH := Lib.hid h
    clear hn hbig hb hdrop hend hone hst h
    go_enter Tryd.func24, Tryd.ntmps24
    go_wp2_with (go_at_call 59; refine (rwords_any A n c X _ HH.out HN.out hm).mono ?_; rintro e w' ⟨rfl, rfl⟩)
    go_loop [5, 6] (fun vv iv => ∃ k v : Nat, k ≤ wl X ∧ iv = .int .i64 ((k : Int) - 1) ∧ vv = .int .u64 v ∧ Hid (v = val ((norm X).drop k))) (fun _ iv => ((intOf iv) + 1).toNat)
    case atStart => exact ⟨wl X, 0, Nat.le_refl _, rfl, rfl, HD.out.2.1.symm⟩
    case round =>
      obtain ⟨k, v, hk, hiv, rfl, hv⟩ := hrel
      rcases k with _ | k
      · obtain rfl : u6 = .int .i64 (-1) := by rw [hiv]; rfl
        clear hiv
        go_wp2
        go_ret2
        exact ⟨by have e := hv.out.trans HD.out.2.2.2; subst e; rfl, rfl⟩
      · obtain rfl : u6 = .int .i64 (k : Int) := by rw [hiv]; congr 1; omega
        obtain ⟨b, o, rfl, hc⟩ := HH.out.cell (k := k) (by have := HN.out; omega)
        have hx := HH.out.1.getD k
        have hvb : v < 4294967296 := by rw [hv.out]; exact HD.out.2.2.1 (k + 1) (by omega)
        obtain ⟨x, hgx⟩ : ∃ x, X.getD k 0 = x := ⟨_, rfl⟩
        rw [hgx] at hc hx
        have hor := or_hi' x v hx hvb
        have HG := Lib.hid hgx
        have hkn : k < n := by have := HN.out; omega
        clear hiv hgx
        go_wp2
        go_round
        case rel => exact ⟨k, x + 4294967296 * v, by omega, rfl, by congr 1, show _ = _ by rw [HD.out.1 k (by omega), HG.out, hv.out]⟩
        case measure => simp [intOf]
end
end Go.Proofs.YtiadjcilfljdaaaDoor
