/- The document's own naturals: Power (off XRefH, for a seat without Square). -/
import Derived.Test.YtiadjcilfljdaaaRefG
import Derived.Test.YtiadjcilfljdaaaPlainD
namespace Go.Proofs.Ytiadjcilfljdaaa
set_option linter.unusedVariables false
set_option linter.unusedSimpArgs false
open Go.RowKit Verge

theorem rtimes_d (A : Option Addr) (c x : Nat) (A' : Option Addr) (c' y : Nat) (W : World) (h : Rd W A (dig x)) (h' : Rd W A' (dig y)) (hb : (dig x).length + (dig y).length ≤ 35184372088800) :
    Calls Try.prog 35 #[.slice A (dig x).length c, .slice A' (dig y).length c'] W (Doc W (x * y)) := by
  have := rtimes_any A (dig x).length c (dig x) A' (dig y).length c' (dig y) W h rfl h' rfl (by omega) (by omega) (by rw [wl_dig, wl_dig]; exact hb)
  rwa [val_dig, val_dig] at this

set_option maxRecDepth 100000 in
set_option maxHeartbeats 4000000 in
/-- Power: a to the k. -/
theorem rpower_any (A : Option Addr) (n c : Nat) (X : List Nat) (k : Nat) (kI : Int) (w : World) (hkI : (k : Int) = kI) (hk : k ≤ 9223372036854775807) (h : Rd w A X) (hn : X.length = n) (hm : n ≤ 35184372088600) (hVl : (dig (val X)).length ≤ 17592186044000) (hT : (dig (val X ^ k)).length ≤ 17592186044000) :
    Calls Try.prog 59 #[.slice A n c, .int .i64 kI] w (Doc w (val X ^ k)) := by
  subst hkI
  have hN := fun W hW => rnorm_any A n c X W hW hn (by omega)
  obtain ⟨V, hV⟩ : ∃ V, val X = V := ⟨_, rfl⟩
  rw [hV] at hN hVl hT ⊢
  obtain ⟨T, hTT⟩ : ∃ T, V ^ k = T := ⟨_, rfl⟩
  rw [hTT] at hT ⊢
  obtain ⟨M, hM⟩ : ∃ M, max (max T V) 1 = M := ⟨_, rfl⟩
  have hM1 : T ≤ M := by omega
  have hM2 : V ≤ M := by omega
  have hM3 : 1 ≤ M := by omega
  have hMl : (dig M).length ≤ 17592186044001 := by
    have h3 : M = T ∨ M = V ∨ M = 1 := by omega
    rcases h3 with h3 | h3 | h3
    · rw [h3]; omega
    · rw [h3]; omega
    · rw [h3]; exact Nat.le_trans (dig_length_le.2 (show 1 < 4294967296 ^ 1 by omega)) (by omega)
  have hst : PwInv T V M 1 V k := ⟨by rw [Nat.one_mul]; exact hTT, hM2, hM3, fun h0 => ⟨h0, by omega⟩, fun h0 => h0⟩
  have hd1 : 1 = (dig 1).length := by rw [dig_pos (by omega)]; simp [dig_zero]
  have hdd1 : dig 1 = [1] := by rw [dig_pos (by omega)]; simp [dig_zero]
  have HN := Lib.hid hN
  have HS := Lib.hid (And.intro hst (And.intro hd1 (And.intro hdd1 hM1)))
  have HML := Lib.hid hMl
  clear hN hV hTT hM hM2 hM3 hst hd1 hdd1 hn hMl hM1
  go_enter Try.func59, Try.ntmps59
  go_wp2_with fail
  have hal := (Below.refl w.heap.size w).alloc (Nat.le_refl _) (.cells #[.int .u32 1] 63)
  refine (HN.out _ (h.below hal)).mono ?_
  rintro e w1 ⟨A1, c1, rfl, d1, d1a, d1b, b1w⟩
  have hp1 : Rd w1 (some ⟨w.heap.size, 0, none⟩) (dig 1) := by
    rw [HS.out.2.2.1]
    exact ((Blk.new w #[.int .u32 1] [1] (W32.cons (by omega) W32.nil) rfl).later b1w).rd
  have hW := hal.trans (b1w.mono hal.size)
  clear hal b1w
  go_wp2_with fail
  go_loopw [1, 5, 6] (fun mv pv xv wr => ∃ (m p x cp cx : Nat) (Ap Ax : Option Addr), mv = .int .i64 m ∧ pv = .slice Ap (dig p).length cp ∧ xv = .slice Ax (dig x).length cx ∧ m ≤ k ∧
    Rd wr Ap (dig p) ∧ Rd wr Ax (dig x) ∧ Hid (PwInv T V M p x m ∧ (dig p).length ≤ cp ∧ cp ≤ maxLen) ∧ Below w.heap.size w wr) (fun mv _ _ _ => (intOf mv).toNat)
  case atStart => exact ⟨k, 1, V, 1, c1, some ⟨w.heap.size, 0, none⟩, A1, rfl, by rw [← HS.out.2.1], rfl, Nat.le_refl _, hp1, d1, ⟨HS.out.1, by rw [← HS.out.2.1]; omega, by decide⟩, hW⟩
  case round =>
    clear hW d1 hp1
    obtain ⟨m, p, x, cp, cx, Ap, Ax, hmv, rfl, rfl, hmk, hRp, hRx, hI, hW⟩ := hrel
    rcases Nat.eq_zero_or_pos m with hm0 | hm0
    · subst hm0
      obtain rfl : u1 = .int .i64 0 := hmv
      go_wp2
      go_ret
      obtain ⟨⟨h1, h2, h3, h4, h5⟩, h6, h7⟩ := hI.out
      have e : p = T := by simpa using h1
      subst e
      exact ⟨Ap, cp, rfl, hRp, h6, h7, hW⟩
    · obtain rfl := hmv
      have hlp := Nat.le_trans (dig_length_mono hI.out.1.2.2.1) HML.out
      have hlx := Nat.le_trans (dig_length_mono hI.out.1.2.1) HML.out
      have hmul := Lib.hid (rtimes_d Ap cp p Ax cx x wr hRp hRx (by omega))
      rcases Nat.mod_two_eq_zero_or_one m with hm2 | hm2
      · have hmI : (m : Int) % 2 = 0 := by omega
        have hne : 0 < m / 2 := by omega
        have hev := pw_even hI.out.1 HS.out.2.2.2 hm2 hne
        obtain ⟨m2, hm2e⟩ : ∃ m2, m / 2 = m2 := ⟨_, rfl⟩
        have hm2I : (m : Int) / 2 = (m2 : Int) := by omega
        have hm2p : (0 : Int) < (m2 : Int) := by omega
        have hm2lt : m2 < m := by omega
        rw [hm2e] at hev
        have HEV := Lib.hid (And.intro hev hI.out.2)
        have hsq := Lib.hid (rtimes_d Ax cx x Ax cx x wr hRx hRx (by omega))
        clear hev hm2 hne hm2e hmul
        go_wp2_with (go_at_call 35; refine hsq.out.mono ?_; rintro e w3 ⟨A3, c3, rfl, d3, d3a, d3b, b3w⟩)
        go_roundw
        case rel => exact ⟨m2, p, x * x, cp, c3, Ap, A3, rfl, rfl, rfl, by omega, hRp.below b3w, d3, HEV.out, hW.trans (b3w.mono hW.size)⟩
        case measure => simp [intOf]; omega
      · have hmI : (m : Int) % 2 = 1 := by omega
        obtain ⟨m2, hm2e⟩ : ∃ m2, m / 2 = m2 := ⟨_, rfl⟩
        have hm2I : (m : Int) / 2 = (m2 : Int) := by omega
        have hm2lt : m2 < m := by omega
        obtain ⟨q, hq⟩ : ∃ q, p * x = q := ⟨_, rfl⟩
        rw [hq] at hmul
        rcases Nat.eq_zero_or_pos m2 with hz | hz
        · subst hz
          have hla := pw_last hI.out.1 HS.out.2.2.2 (by omega)
          rw [hq] at hla
          have HLA := Lib.hid hla
          clear hla hm2 hm2e hq
          go_wp2_with (go_at_call 35; refine hmul.out.mono ?_; rintro e w3 ⟨A3, c3, rfl, d3, d3a, d3b, b3w⟩)
          go_roundw
          case rel => exact ⟨0, q, x, c3, cx, A3, Ax, rfl, rfl, rfl, by omega, d3, hRx.below b3w, ⟨HLA.out, d3a, d3b⟩, hW.trans (b3w.mono hW.size)⟩
          case measure => simp [intOf]; omega
        · have hod := pw_odd hI.out.1 HS.out.2.2.2 hm2 (by omega)
          rw [hm2e, hq] at hod
          have HOD := Lib.hid hod
          have hm2p : (0 : Int) < (m2 : Int) := by omega
          clear hod hm2 hm2e hq hz
          go_wp2_with fail
          refine hmul.out.mono ?_
          rintro e w3 ⟨A3, c3, rfl, d3, d3a, d3b, b3w⟩
          go_wp2_with fail
          refine (rtimes_d Ax cx x Ax cx x w3 (hRx.below b3w) (hRx.below b3w) (by omega)).mono ?_
          rintro e w4 ⟨A4, c4, rfl, d4, d4a, d4b, b4w⟩
          go_wp2_with fail
          have hW3 := hW.trans (b3w.mono hW.size)
          go_roundw
          case rel => exact ⟨m2, q, x * x, c3, c4, A3, A4, rfl, rfl, rfl, by omega, d3.below b4w, d4, ⟨HOD.out, d3a, d3b⟩, hW3.trans (b4w.mono hW3.size)⟩
          case measure => simp [intOf]; omega
end Go.Proofs.Ytiadjcilfljdaaa
