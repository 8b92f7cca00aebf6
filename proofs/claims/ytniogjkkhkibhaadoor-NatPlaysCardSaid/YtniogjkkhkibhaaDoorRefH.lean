/- The document's own naturals: Square, Power. -/
import Derived.Test.YtniogjkkhkibhaaDoorRefG
import Derived.Test.YtniogjkkhkibhaaDoorPlainL
namespace Go.Proofs.YtniogjkkhkibhaaDoor
set_option linter.unusedVariables false
set_option linter.unusedSimpArgs false
open Go.RowKit Verge

/-- A call of the document's by lists that read as numbers. -/
theorem rleft_d (A : Option Addr) (c x e : Nat) (eI : Int) (W : World) (heI : (e : Int) = eI) (h : Rd W A (dig x)) (hb : e / 32 + (dig x).length + 1 ≤ 35184372088800) :
    Calls Tryd.prog 83 #[.slice A (dig x).length c, .int .i64 eI] W (Doc W (x * 2 ^ e)) := by
  have := rleft_any A (dig x).length c (dig x) e eI W heI h rfl (by omega) (by rw [wl_dig]; exact hb)
  rwa [val_dig] at this
theorem rplus_d (A : Option Addr) (c x : Nat) (A' : Option Addr) (n' c' : Nat) (Y : List Nat) (y : Nat) (W : World) (h : Rd W A (dig x)) (h' : Rd W A' Y) (hn : Y.length = n') (hv : val Y = y) (hb : (dig x).length ≤ 35184372088700) (hb' : n' ≤ 35184372088700) :
    Calls Tryd.prog 86 #[.slice A (dig x).length c, .slice A' n' c'] W (Doc W (x + y)) := by
  have := rplus_any A (dig x).length c (dig x) A' n' c' Y W h rfl h' hn hb hb'
  rwa [val_dig, hv] at this
theorem rminus_d (A : Option Addr) (c x : Nat) (A' : Option Addr) (c' y : Nat) (W : World) (h : Rd W A (dig x)) (h' : Rd W A' (dig y)) (hb : (dig x).length ≤ 35184372088700) (hle : y ≤ x) :
    Calls Tryd.prog 87 #[.slice A (dig x).length c, .slice A' (dig y).length c'] W (Doc W (x - y)) := by
  have := rminus_any A (dig x).length c (dig x) A' (dig y).length c' (dig y) W h rfl h' rfl hb (by rw [val_dig, val_dig]; exact hle)
  rwa [val_dig, val_dig] at this
theorem rtimes_d (A : Option Addr) (c x : Nat) (A' : Option Addr) (c' y : Nat) (W : World) (h : Rd W A (dig x)) (h' : Rd W A' (dig y)) (hb : (dig x).length + (dig y).length ≤ 35184372088800) :
    Calls Tryd.prog 89 #[.slice A (dig x).length c, .slice A' (dig y).length c'] W (Doc W (x * y)) := by
  have := rtimes_any A (dig x).length c (dig x) A' (dig y).length c' (dig y) W h rfl h' rfl (by omega) (by omega) (by rw [wl_dig, wl_dig]; exact hb)
  rwa [val_dig, val_dig] at this
theorem rcmp_d (A : Option Addr) (c x : Nat) (A' : Option Addr) (c' y : Nat) (W : World) (h : Rd W A (dig x)) (h' : Rd W A' (dig y)) (hb : (dig x).length ≤ 140737488355328) (hb' : (dig y).length ≤ 140737488355328) :
    Calls Tryd.prog 56 #[.slice A (dig x).length c, .slice A' (dig y).length c'] W fun e w' => e = .returned (.int .i64 (cmp x y)) ∧ ∃ k, W.drewN k = w' := by
  have := rcmp_any A (dig x).length c (dig x) A' (dig y).length c' (dig y) W h rfl h' rfl hb hb'
  rwa [val_dig, val_dig] at this

def SqPost (w : World) (V : Nat) : Ending → World → Prop := fun en w' =>
  ∃ s r A c A' c', IsRoot V s ∧ r = V - s * s ∧ en = .returned (.tuple #[.slice A (dig s).length c, .slice A' (dig r).length c']) ∧ Rd w' A (dig s) ∧ (dig s).length ≤ c ∧ c ≤ maxLen ∧ Rd w' A' (dig r) ∧ (dig r).length ≤ c' ∧ c' ≤ maxLen ∧ Below w.heap.size w w'

set_option maxRecDepth 100000 in
set_option maxHeartbeats 8000000 in
/-- Square: the root and what is left. -/
theorem rsquare_any (A : Option Addr) (n c : Nat) (X : List Nat) (w : World) (h : Rd w A X) (hn : X.length = n) (hm : n ≤ 35184372088600) :
    Calls Tryd.prog 74 #[.slice A n c] w (SqPost w (val X)) := by
  have hl := fun W hW => rlen_any A n c X W hW hn (by omega)
  have hbi := fun i iI hi hib W hW => rbit_any A n c X W hW hn (by omega) i iI hi hib
  have hdl : (dig (val X)).length ≤ n := by rw [← wl_eq h.1]; have := wl_le X; omega
  obtain ⟨V, hV⟩ : ∃ V, val X = V := ⟨_, rfl⟩
  rw [hV] at hl hbi hdl ⊢
  have hbl := blen_words_le hdl
  obtain ⟨k, hk⟩ : ∃ k, (blen V + 1) / 2 = k := ⟨_, rfl⟩
  have hkI : ((blen V : Nat) : Int) + 1 = ((blen V + 1 : Nat) : Int) := rfl
  have hkI2 : (((blen V : Nat) : Int) + 1) / 2 = (k : Int) := by omega
  have hkb : k ≤ 16 * n + 1 := by omega
  have hst : SqInv V k 0 0 := sq_start V k (by
    have h1 := (blen_lt V (blen V)).1 (Nat.le_refl _)
    have h2 : 2 ^ blen V ≤ 2 ^ (2 * k) := Nat.pow_le_pow_right (by omega) (by omega)
    have e : 4 ^ k = 2 ^ (2 * k) := by rw [Nat.pow_mul]
    omega)
  have HL := Lib.hid hl
  have HBI := Lib.hid hbi
  have HS := Lib.hid hst
  have HR := Lib.hid (fun W (hb : Below w.heap.size w W) => h.below hb)
  have hd0 : (dig 0).length = 0 := by rw [dig_zero]; rfl
  have HD0 := Lib.hid hd0
  have HHX := Lib.hid h
  have HDL := Lib.hid hdl
  clear hl hbi hst hd0 hV hk hkI h hn hdl
  go_enter Tryd.func74, Tryd.ntmps74
  go_wp2_with (go_at_call 57; refine (HL.out _ HHX.out).mono ?_; rintro e w' ⟨rfl, rfl⟩)
  clear hkI2
  go_loopw [5, 6, 7, 8] (fun sv rv iv _ wr => ∃ (i s r cs cr : Nat) (As Ar : Option Addr), i ≤ k ∧ iv = .int .i64 ((i : Int) - 1) ∧ sv = .slice As (dig s).length cs ∧ rv = .slice Ar (dig r).length cr ∧
    Rd wr As (dig s) ∧ Rd wr Ar (dig r) ∧ Hid (SqInv V i s r ∧ (dig s).length ≤ cs ∧ cs ≤ maxLen ∧ (dig r).length ≤ cr ∧ cr ≤ maxLen) ∧ Below w.heap.size w wr) (fun _ _ iv _ _ => (intOf iv + 1).toNat)
  case atStart => exact ⟨k, 0, 0, 0, 0, none, none, Nat.le_refl _, rfl, by rw [HD0.out], by rw [HD0.out], by rw [dig_zero]; exact Rd.nil, by rw [dig_zero]; exact Rd.nil, ⟨HS.out, by rw [HD0.out]; omega, by decide, by rw [HD0.out]; omega, by decide⟩, Below.refl _ _⟩
  case round =>
    obtain ⟨i, s, r, cs, cr, As, Ar, hi, hiv, rfl, rfl, hRs, hRr, hI, hb⟩ := hrel
    have hle := sq_le hI.out.1
    have hls := Nat.le_trans (dig_length_mono hle.1) HDL.out
    have hlr := Nat.le_trans (dig_length_mono hle.2) HDL.out
    rcases i with _ | j
    · obtain rfl : u7 = .int .i64 (-1) := by rw [hiv]; rfl
      clear hiv hle
      go_wp2
      go_ret2
      obtain ⟨e1, e2⟩ := sq_end hI.out.1
      obtain ⟨_, i2, i3, i4, i5⟩ := hI.out
      exact ⟨s, r, As, cs, Ar, cr, e1, e2, rfl, hRs, i2, i3, hRr, i4, i5, hb⟩
    · obtain rfl : u7 = .int .i64 (j : Int) := by rw [hiv]; congr 1; omega
      obtain ⟨b1, hb1⟩ : ∃ b1, V / 2 ^ (2 * j + 1) % 2 = b1 := ⟨_, rfl⟩
      obtain ⟨b0, hb0⟩ : ∃ b0, V / 2 ^ (2 * j) % 2 = b0 := ⟨_, rfl⟩
      have hbits := sq_bits V j b1 b0 hb1 hb0
      have hB1 := HBI.out (2 * j + 1) (2 * (j : Int) + 1) (by omega) (by omega)
      have hB0 := HBI.out (2 * j) (2 * (j : Int)) (by omega) (by omega)
      rw [hb1] at hB1
      rw [hb0] at hB0
      have hb11 : b1 ≤ 1 := by omega
      have hb01 : b0 ≤ 1 := by omega
      have HB1 := Lib.hid hB1
      have HB0 := Lib.hid hB0
      have hr4 := dig_shift_length r 2 n (by omega) hlr
      have hs4 := dig_shift_length s 2 n (by omega) hls
      have hs2 := dig_shift_length s 1 n (by omega) hls
      obtain ⟨bb, hbb⟩ : ∃ bb, 2 * b1 + b0 = bb := ⟨_, rfl⟩
      have hbb3 : bb ≤ 3 := by omega
      rw [hbb] at hbits
      obtain ⟨R4, hR4⟩ : ∃ R4, r * 2 ^ 2 = R4 := ⟨_, rfl⟩
      obtain ⟨S4, hS4⟩ : ∃ S4, s * 2 ^ 2 = S4 := ⟨_, rfl⟩
      obtain ⟨S2, hS2⟩ : ∃ S2, s * 2 ^ 1 = S2 := ⟨_, rfl⟩
      obtain ⟨RR, hRR⟩ : ∃ RR, R4 + bb = RR := ⟨_, rfl⟩
      obtain ⟨TT, hTT⟩ : ∃ TT, S4 + 1 = TT := ⟨_, rfl⟩
      have hno := fun h => sq_no hI.out.1 hbits h
      have hyes := fun h => sq_yes hI.out.1 hbits hbb3 h
      have hRl : (dig RR).length ≤ n + 2 := by rw [← hRR]; exact dig_add_length R4 bb (n + 1) (by rw [← hR4]; exact hr4) (Nat.le_trans (dig_length_le.2 (show bb < 4294967296 ^ 1 by omega)) (by omega))
      have hTl : (dig TT).length ≤ n + 2 := by rw [← hTT]; exact dig_add_length S4 1 (n + 1) (by rw [← hS4]; exact hs4) (Nat.le_trans (dig_length_le.2 (show 1 < 4294967296 ^ 1 by omega)) (by omega))
      rw [hR4, hS4, hS2, hRR, hTT] at hno hyes
      rw [hR4] at hr4
      rw [hS4] at hs4
      rw [hS2] at hs2
      have L1 := rleft_d Ar cr r 2 2
      have L2 := rleft_d As cs s 2 2
      have L3 := rleft_d As cs s 1 1
      have P1 := fun A c => rplus_d A c R4
      have P2 := fun A c => rplus_d A c S4
      rw [hR4] at L1
      rw [hS4] at L2
      rw [hS2] at L3
      have HL1 := Lib.hid L1
      have HL2 := Lib.hid L2
      have HL3 := Lib.hid L3
      have HE := Lib.hid (And.intro hRR (And.intro hTT (And.intro hno hyes)))
      have hbbI : 2 * (b1 : Int) + (b0 : Int) = (bb : Int) := by omega
      have HBB := Lib.hid hbbI
      have hbb32 : bb < 4294967296 := by omega
      clear hiv hle hb1 hb0 hbits hB1 hB0 hbb hR4 hS4 hS2 hRR hTT hno hyes L1 L2 L3 P1 P2
      have hR0 := HR.out _ hb
      have hW := hb
      go_wp2_with fail
      refine (HL1.out _ rfl hRr (by omega)).mono ?_
      rintro e w1 ⟨A1, c1, rfl, d1, d1a, d1b, b1w⟩
      replace hR0 := hR0.below b1w; replace hRs := hRs.below b1w; replace hW := hW.trans (b1w.mono hW.size); clear b1w
      go_wp2_with fail
      refine (HB1.out _ hR0).mono ?_
      rintro e w' ⟨rfl, rfl⟩
      go_wp2_with fail
      refine (HB0.out _ hR0).mono ?_
      rintro e w' ⟨rfl, rfl⟩
      go_wp2_with fail
      have hal := (Below.refl w1.heap.size w1).alloc (Nat.le_refl _) (.cells #[.int .u32 (bb : Int)] 23)
      have hh := rplus_d A1 c1 R4 _ 1 1 [bb] bb _ (d1.below hal) (Blk.new w1 #[.int .u32 (bb : Int)] [bb] (W32.cons hbb32 W32.nil) rfl).rd rfl (by simp) (by omega) (by omega)
      rw [HE.out.1] at hh
      replace hRs := hRs.below hal; replace hW := hW.trans (hal.mono hW.size); clear hal
      refine hh.mono ?_
      clear hh
      rintro e w2 ⟨A2, c2, rfl, d2, d2a, d2b, b2w⟩
      replace hRs := hRs.below b2w; replace hW := hW.trans (b2w.mono hW.size); clear b2w
      go_wp2_with fail
      refine (HL2.out _ rfl hRs (by omega)).mono ?_
      rintro e w3 ⟨A3, c3, rfl, d3, d3a, d3b, b3w⟩
      replace hRs := hRs.below b3w; replace d2 := d2.below b3w; replace hW := hW.trans (b3w.mono hW.size); clear b3w
      go_wp2_with fail
      have hal := (Below.refl w3.heap.size w3).alloc (Nat.le_refl _) (.cells #[.int .u32 1] 23)
      have hh := rplus_d A3 c3 S4 _ 1 1 [1] 1 _ (d3.below hal) (Blk.new w3 #[.int .u32 1] [1] (W32.cons (by omega) W32.nil) rfl).rd rfl (by simp) (by omega) (by omega)
      rw [HE.out.2.1] at hh
      replace hRs := hRs.below hal; replace d2 := d2.below hal; replace hW := hW.trans (hal.mono hW.size); clear hal
      refine hh.mono ?_
      clear hh
      rintro e w4 ⟨A4, c4, rfl, d4, d4a, d4b, b4w⟩
      replace hRs := hRs.below b4w; replace d2 := d2.below b4w; replace hW := hW.trans (b4w.mono hW.size); clear b4w
      go_wp2_with fail
      refine (HL3.out _ rfl hRs (by omega)).mono ?_
      rintro e w5 ⟨A5, c5, rfl, d5, d5a, d5b, b5w⟩
      replace d2 := d2.below b5w; replace d4 := d4.below b5w; replace hW := hW.trans (b5w.mono hW.size); clear b5w
      go_wp2_with fail
      have hcm := rcmp_d A2 c2 RR A4 c4 TT _ d2 d4 (by omega) (by omega)
      by_cases hge : TT ≤ RR
      · obtain ⟨v1, hv1⟩ : ∃ v1, cmp RR TT = v1 := ⟨_, rfl⟩
        have hv10 : 0 ≤ v1 := by rw [← hv1]; unfold cmp; rw [if_neg (by omega)]; split <;> decide
        rw [hv1] at hcm
        have HGE := Lib.hid (And.intro (HE.out.2.2.2 hge) hge)
        clear hv1 hge
        refine hcm.mono ?_
        clear hcm
        rintro e w' ⟨rfl, q, rfl⟩
        replace d2 := d2.drewN q; replace d4 := d4.drewN q; replace d5 := d5.drewN q; replace hW := below_drewN hW q
        obtain ⟨D, hD⟩ : ∃ D, RR - TT = D := ⟨_, rfl⟩
        obtain ⟨S3, hS3⟩ : ∃ S3, S2 + 1 = S3 := ⟨_, rfl⟩
        have hM := rminus_d A2 c2 RR A4 c4 TT _ d2 d4 (by omega) HGE.out.2
        rw [hD] at hM
        have HM := Lib.hid hM
        have HD := Lib.hid (And.intro hD hS3)
        clear hD hS3 hM
        go_wp2_with fail
        refine HM.out.mono ?_
        rintro e w6 ⟨A6, c6, rfl, d6, d6a, d6b, b6w⟩
        replace d5 := d5.below b6w; replace hW := hW.trans (b6w.mono hW.size); clear b6w
        go_wp2_with fail
        have hal := (Below.refl w6.heap.size w6).alloc (Nat.le_refl _) (.cells #[.int .u32 1] 23)
        have hh := rplus_d A5 c5 S2 _ 1 1 [1] 1 _ (d5.below hal) (Blk.new w6 #[.int .u32 1] [1] (W32.cons (by omega) W32.nil) rfl).rd rfl (by simp) (by omega) (by omega)
        rw [HD.out.2] at hh
        replace d6 := d6.below hal; replace hW := hW.trans (hal.mono hW.size); clear hal
        refine hh.mono ?_
        clear hh
        rintro e w7 ⟨A7, c7, rfl, d7, d7a, d7b, b7w⟩
        replace d6 := d6.below b7w; replace hW := hW.trans (b7w.mono hW.size); clear b7w
        go_wp2_with fail
        go_roundw
        case rel =>
          have h1 := HGE.out.1
          rw [HD.out.1, HD.out.2] at h1
          exact ⟨j, S3, D, c7, c6, A7, A6, by omega, rfl, rfl, rfl, d7, d6, ⟨h1, d7a, d7b, d6a, d6b⟩, hW⟩
        case measure => simp [intOf]
      · rw [cmp_lt (by omega)] at hcm
        have HLT := Lib.hid (HE.out.2.2.1 (by omega))
        clear hge
        refine hcm.mono ?_
        clear hcm
        rintro e w' ⟨rfl, q, rfl⟩
        go_wp2_with fail
        go_roundw
        case rel => exact ⟨j, S2, RR, c5, c2, A5, A2, by omega, rfl, rfl, rfl, d5.drewN q, d2.drewN q, ⟨HLT.out, d5a, d5b, d2a, d2b⟩, below_drewN hW q⟩
        case measure => simp [intOf]

set_option maxRecDepth 100000 in
set_option maxHeartbeats 4000000 in
/-- Power: a to the k. -/
theorem rpower_any (A : Option Addr) (n c : Nat) (X : List Nat) (k : Nat) (kI : Int) (w : World) (hkI : (k : Int) = kI) (hk : k ≤ 9223372036854775807) (h : Rd w A X) (hn : X.length = n) (hm : n ≤ 35184372088600) (hVl : (dig (val X)).length ≤ 17592186044000) (hT : (dig (val X ^ k)).length ≤ 17592186044000) :
    Calls Tryd.prog 90 #[.slice A n c, .int .i64 kI] w (Doc w (val X ^ k)) := by
  subst hkI
  have hN := fun W hW => rnorm_any A n c X W hW hn (by omega)
  obtain ⟨V, hV⟩ : ∃ V, val X = V := ⟨_, rfl⟩
  rw [hV] at hN hVl hT ⊢
  obtain ⟨T, hTT⟩ : ∃ T, V ^ k = T := ⟨_, rfl⟩
  rw [hTT] at hT ⊢
  obtain ⟨M, hM⟩ : ∃ M, max (max T V) 1 = M := ⟨_, rfl⟩
  have hM1 : T ≤ M := by omega
  have hM2 : V ≤ M := by omega
  have hM3 : 1 ≤ M := by omega
  have hMl : (dig M).length ≤ 17592186044001 := by
    have h3 : M = T ∨ M = V ∨ M = 1 := by omega
    rcases h3 with h3 | h3 | h3
    · rw [h3]; omega
    · rw [h3]; omega
    · rw [h3]; exact Nat.le_trans (dig_length_le.2 (show 1 < 4294967296 ^ 1 by omega)) (by omega)
  have hst : PwInv T V M 1 V k := ⟨by rw [Nat.one_mul]; exact hTT, hM2, hM3, fun h0 => ⟨h0, by omega⟩, fun h0 => h0⟩
  have hd1 : 1 = (dig 1).length := by rw [dig_pos (by omega)]; simp [dig_zero]
  have hdd1 : dig 1 = [1] := by rw [dig_pos (by omega)]; simp [dig_zero]
  have HN := Lib.hid hN
  have HS := Lib.hid (And.intro hst (And.intro hd1 (And.intro hdd1 hM1)))
  have HML := Lib.hid hMl
  clear hN hV hTT hM hM2 hM3 hst hd1 hdd1 hn hMl hM1
  go_enter Tryd.func90, Tryd.ntmps90
  go_wp2_with fail
  have hal := (Below.refl w.heap.size w).alloc (Nat.le_refl _) (.cells #[.int .u32 1] 23)
  refine (HN.out _ (h.below hal)).mono ?_
  rintro e w1 ⟨A1, c1, rfl, d1, d1a, d1b, b1w⟩
  have hp1 : Rd w1 (some ⟨w.heap.size, 0, none⟩) (dig 1) := by
    rw [HS.out.2.2.1]
    exact ((Blk.new w #[.int .u32 1] [1] (W32.cons (by omega) W32.nil) rfl).later b1w).rd
  have hW := hal.trans (b1w.mono hal.size)
  clear hal b1w
  go_wp2_with fail
  go_loopw [1, 5, 6] (fun mv pv xv wr => ∃ (m p x cp cx : Nat) (Ap Ax : Option Addr), mv = .int .i64 m ∧ pv = .slice Ap (dig p).length cp ∧ xv = .slice Ax (dig x).length cx ∧ m ≤ k ∧
    Rd wr Ap (dig p) ∧ Rd wr Ax (dig x) ∧ Hid (PwInv T V M p x m ∧ (dig p).length ≤ cp ∧ cp ≤ maxLen) ∧ Below w.heap.size w wr) (fun mv _ _ _ => (intOf mv).toNat)
  case atStart => exact ⟨k, 1, V, 1, c1, some ⟨w.heap.size, 0, none⟩, A1, rfl, by rw [← HS.out.2.1], rfl, Nat.le_refl _, hp1, d1, ⟨HS.out.1, by rw [← HS.out.2.1]; omega, by decide⟩, hW⟩
  case round =>
    clear hW d1 hp1
    obtain ⟨m, p, x, cp, cx, Ap, Ax, hmv, rfl, rfl, hmk, hRp, hRx, hI, hW⟩ := hrel
    rcases Nat.eq_zero_or_pos m with hm0 | hm0
    · subst hm0
      obtain rfl : u1 = .int .i64 0 := hmv
      go_wp2
      go_ret
      obtain ⟨⟨h1, h2, h3, h4, h5⟩, h6, h7⟩ := hI.out
      have e : p = T := by simpa using h1
      subst e
      exact ⟨Ap, cp, rfl, hRp, h6, h7, hW⟩
    · obtain rfl := hmv
      have hlp := Nat.le_trans (dig_length_mono hI.out.1.2.2.1) HML.out
      have hlx := Nat.le_trans (dig_length_mono hI.out.1.2.1) HML.out
      have hmul := Lib.hid (rtimes_d Ap cp p Ax cx x wr hRp hRx (by omega))
      rcases Nat.mod_two_eq_zero_or_one m with hm2 | hm2
      · have hmI : (m : Int) % 2 = 0 := by omega
        have hne : 0 < m / 2 := by omega
        have hev := pw_even hI.out.1 HS.out.2.2.2 hm2 hne
        obtain ⟨m2, hm2e⟩ : ∃ m2, m / 2 = m2 := ⟨_, rfl⟩
        have hm2I : (m : Int) / 2 = (m2 : Int) := by omega
        have hm2p : (0 : Int) < (m2 : Int) := by omega
        have hm2lt : m2 < m := by omega
        rw [hm2e] at hev
        have HEV := Lib.hid (And.intro hev hI.out.2)
        have hsq := Lib.hid (rtimes_d Ax cx x Ax cx x wr hRx hRx (by omega))
        clear hev hm2 hne hm2e hmul
        go_wp2_with (go_at_call 89; refine hsq.out.mono ?_; rintro e w3 ⟨A3, c3, rfl, d3, d3a, d3b, b3w⟩)
        go_roundw
        case rel => exact ⟨m2, p, x * x, cp, c3, Ap, A3, rfl, rfl, rfl, by omega, hRp.below b3w, d3, HEV.out, hW.trans (b3w.mono hW.size)⟩
        case measure => simp [intOf]; omega
      · have hmI : (m : Int) % 2 = 1 := by omega
        obtain ⟨m2, hm2e⟩ : ∃ m2, m / 2 = m2 := ⟨_, rfl⟩
        have hm2I : (m : Int) / 2 = (m2 : Int) := by omega
        have hm2lt : m2 < m := by omega
        obtain ⟨q, hq⟩ : ∃ q, p * x = q := ⟨_, rfl⟩
        rw [hq] at hmul
        rcases Nat.eq_zero_or_pos m2 with hz | hz
        · subst hz
          have hla := pw_last hI.out.1 HS.out.2.2.2 (by omega)
          rw [hq] at hla
          have HLA := Lib.hid hla
          clear hla hm2 hm2e hq
          go_wp2_with (go_at_call 89; refine hmul.out.mono ?_; rintro e w3 ⟨A3, c3, rfl, d3, d3a, d3b, b3w⟩)
          go_roundw
          case rel => exact ⟨0, q, x, c3, cx, A3, Ax, rfl, rfl, rfl, by omega, d3, hRx.below b3w, ⟨HLA.out, d3a, d3b⟩, hW.trans (b3w.mono hW.size)⟩
          case measure => simp [intOf]; omega
        · have hod := pw_odd hI.out.1 HS.out.2.2.2 hm2 (by omega)
          rw [hm2e, hq] at hod
          have HOD := Lib.hid hod
          have hm2p : (0 : Int) < (m2 : Int) := by omega
          clear hod hm2 hm2e hq hz
          go_wp2_with fail
          refine hmul.out.mono ?_
          rintro e w3 ⟨A3, c3, rfl, d3, d3a, d3b, b3w⟩
          go_wp2_with fail
          refine (rtimes_d Ax cx x Ax cx x w3 (hRx.below b3w) (hRx.below b3w) (by omega)).mono ?_
          rintro e w4 ⟨A4, c4, rfl, d4, d4a, d4b, b4w⟩
          go_wp2_with fail
          have hW3 := hW.trans (b3w.mono hW.size)
          go_roundw
          case rel => exact ⟨m2, q, x * x, c3, c4, A3, A4, rfl, rfl, rfl, by omega, d3.below b4w, d4, ⟨HOD.out, d3a, d3b⟩, hW3.trans (b4w.mono hW3.size)⟩
          case measure => simp [intOf]; omega
end Go.Proofs.YtniogjkkhkibhaaDoor
