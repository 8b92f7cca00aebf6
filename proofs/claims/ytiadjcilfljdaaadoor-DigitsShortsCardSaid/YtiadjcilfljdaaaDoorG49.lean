/- Layer 5, the document: Short. -/
import Derived.Test.YtiadjcilfljdaaaDoorG48
namespace Go.Proofs.YtiadjcilfljdaaaDoor
set_option linter.unusedVariables false
set_option linter.unusedSimpArgs false
open Go.RowKit Verge

set_option maxRecDepth 100000 in
set_option maxHeartbeats 16000000 in
theorem dshort_num (b : Nat) (hb : b < 18446744073709551616) (hw : fwrong b = false) (hF : fbF b ≠ 0) {k : Int} {i : Nat} (hok : ShtOk b k i) (w : World) :
    Calls Tryd.prog 12 #[.int .u64 (b : Int)] w fun e w' => e = .returned (.tuple #[.string (bs (ftext (decide (9223372036854775808 ≤ b)) (txt (sF b k i)) (k - i))), .int .i64 0]) ∧ Below w.heap.size w w' := by
  obtain ⟨N, hN⟩ : ∃ N, N = fbF b * 2 ^ ((fbE b : Int) - 1074).toNat := ⟨_, rfl⟩
  obtain ⟨D, hD⟩ : ∃ D, D = 2 ^ (-((fbE b : Int) - 1074)).toNat := ⟨_, rfl⟩
  obtain ⟨t1, t2, hD0, hN0⟩ := fin_tens hF hw hN hD
  obtain ⟨f1, f2, f3, f4⟩ := few_text hok hb hw hF (s := decide (9223372036854775808 ≤ b)) hN hD
  have hsg : decide (9223372036854775808 < b) = decide (9223372036854775808 ≤ b) := decide_eq_decide.2 (by
    have : b ≠ 9223372036854775808 := by rintro rfl; exact hF (by decide)
    omega)
  have H1 := Lib.hid (fun W => fin2_any b hb W)
  rw [hw] at H1
  have H2 := Lib.hid (fun W => size5_any b hb W)
  have hrv := fun A1 c1 A2 c2 W (h1 : Rd W A1 (dig (fbN b))) (h2 : Rd W A2 (dig (fbD b))) => fb_rv (c1 := c1) (c2 := c2) hF hw hN hD h1 h2
  have HRV := Lib.hid hrv
  unfold SizeP at H2
  rw [hsg] at H2
  have HRD := Lib.hid (fun n (n1 : 1 ≤ n) (n2 : n ≤ 1100) v W (h : IsRV (N : Int) D 100 v W) => round_any (w := W) (-1) n hD0 h t1 t2 n1 n2)
  have HRU := Lib.hid (fun n (n1 : 1 ≤ n) (n2 : n ≤ 1100) v W (h : IsRV (N : Int) D 100 v W) => round_any (w := W) 1 n hD0 h t1 t2 n1 n2)
  have HSG := Lib.hid (fun v W (h : IsRV (N : Int) D 100 v W) => rv_sign (w := W) h (by omega))
  have hsn : isgn (N : Int) = 1 := by unfold isgn; rw [if_neg (by omega), if_neg (by omega)]
  rw [hsn] at HSG
  have hand : bits .andNot .u64 ((b : Nat) : Int) 9223372036854775808 = ((b % 9223372036854775808 : Nat) : Int) := by
    have := Go.u64_andNot_nat b 9223372036854775808 hb (by omega)
    rw [andNot_sign b hb] at this
    exact this
  have HAND := Lib.hid hand
  obtain ⟨n0, hn0⟩ : ∃ n0, (txt (sF b k i)).length = n0 := ⟨_, rfl⟩
  have HRR := Lib.hid (fun (n : Nat) (n1 : 1 ≤ n) (hn : n ≤ n0) (K : Int) (hK : dcnt (qat N D K) = n) (P Q P' Q' : Nat) (hT : TenIs P Q (prQ (-1) false N D K) K) (hT' : TenIs P' Q' (prQ 1 false N D K) K) (lw hg ev : Bool) (cc : Int) (g1) (g2) (g3) (g4) => rou_round hok hb hw hF (decide (9223372036854775808 ≤ b)) hN hD n1 (by rw [hn0]; exact hn) hK hT hT' (lw := lw) (hg := hg) (ev := ev) (cc := cc) g1 g2 g3 g4)
  rw [hn0] at HRR f1 f2
  have HQ1 := Lib.hid (fun K L (n : Nat) (n1 : 1 ≤ n) (h : dcnt (qat N D K) = n) (h' : dcnt (qat N D L) = n) => qat_one hD0 n1 h h')
  have HD0 := Lib.hid (And.intro hD0 (fin_r hw))
  obtain ⟨TG, hTG⟩ : ∃ TG, ftext (decide (9223372036854775808 ≤ b)) (txt (sF b k i)) (k - i) = TG := ⟨_, rfl⟩
  rw [hTG] at HRR ⊢
  have hb2 := hb
  generalize decide (9223372036854775808 ≤ b) = s at *
  obtain ⟨r, hr⟩ : ∃ r, b % 9223372036854775808 = r := ⟨_, rfl⟩
  rw [hr] at HRR HAND HD0
  clear hrv hsn hand hn0 hTG hsg t1 t2 f3 f4 hN hD hD0 hN0 hw hr hok hF
  go_enter Tryd.func12, Tryd.ntmps12
  go_wp2_with fail
  refine (H1.out _).mono ?_
  rintro e w1 ⟨rfl, rfl⟩
  go_wp2_with fail
  refine (H2.out _).mono ?_
  rintro e w1 ⟨A1, c1, A2, c2, rfl, hr1, hr2, hb1⟩
  have HV := Lib.hid (HRV.out A1 c1 A2 c2 _ hr1 hr2)
  have HB := Lib.hid hb1
  obtain ⟨l1, hl1⟩ : ∃ l, (dig (fbN b)).length = l := ⟨_, rfl⟩
  obtain ⟨l2, hl2⟩ : ∃ l, (dig (fbD b)).length = l := ⟨_, rfl⟩
  rw [hl1, hl2] at HV ⊢
  clear hr1 hr2 hb1 HRV hl1 hl2 H1 H2
  have HX0 := Lib.hid (Box3.new w1 (.bool false) (.slice A1 l1 c1) (.slice A2 l2 c2))
  have HV := Lib.hid (IsRV.mono _ _ _ _ _ _ (rnew w1 (.cells #[.bool false, .slice A1 l1 c1, .slice A2 l2 c2] 39)) HV.out)
  have HB := Lib.hid (raft HB.out (rnew w1 (.cells #[.bool false, .slice A1 l1 c1, .slice A2 l2 c2] 39)))
  go_upto_region 4 with fail
  obtain ⟨g0, hg0⟩ : ∃ g, w1.heap.size = g := ⟨_, rfl⟩
  rw [hg0] at HX0 ⊢
  generalize w1.alloc (.cells #[.bool false, .slice A1 l1 c1, .slice A2 l2 c2] 39) = WA at *
  clear hg0
  obtain ⟨p0, p1, p2⟩ := HX0.out.cells
  go_wp2_with fail
  refine (HSG.out _ _ HV.out).mono ?_
  rintro en wn ⟨vn, rfl, rfl, hb⟩
  have HV := Lib.hid (IsRV.mono _ _ _ _ _ _ hb HV.out)
  have HB := Lib.hid (raft HB.out hb)
  have HX0 := Lib.hid (HX0.out.later hb)
  clear hb p0 p1 p2 HSG
  go_wp2
  go_loopw [6] (fun nv wr => ∃ j : Nat, 1 ≤ j ∧ j ≤ n0 ∧ nv = .int .i64 (j : Int) ∧ Hid (Below w.heap.size w wr ∧ Box3 wr g0 (.bool false) (.slice A1 l1 c1) (.slice A2 l2 c2) ∧ IsRV (N : Int) D 100 (.agg #[.bool false, .slice A1 l1 c1, .slice A2 l2 c2]) wr)) (fun nv _ => n0 - (intOf nv).toNat)
  case atStart => exact ⟨1, by omega, by omega, rfl, HB.out, HX0.out, HV.out⟩
  case round =>
    clear HB HX0 HV
    obtain ⟨j, hj1, hj2, rfl, hI⟩ := hrel
    have HB := Lib.hid hI.out.1
    have HX0 := Lib.hid hI.out.2.1
    have HV0 := Lib.hid hI.out.2.2
    have hj17 : j ≤ 17 := by omega
    have hr1 := HRD.out j hj1 (by omega) _ _ HV0.out
    have HR1 := Lib.hid hr1
    clear hI hr1
    obtain ⟨p0, p1, p2⟩ := HX0.out.cells
    go_wp2_with fail
    refine (HR1.out).mono ?_
    rintro en wq ⟨K, k1, k2, hK, rfl, hb⟩
    have hklb : -1600 ≤ (if j < (txt (prQ (-1) false N D K)).length then K + 1 else K) ∧ (if j < (txt (prQ (-1) false N D K)).length then K + 1 else K) ≤ 1001 := by split <;> omega
    generalize hkl : (if j < (txt (prQ (-1) false N D K)).length then K + 1 else K) = kl at *
    have HKL := Lib.hid hkl
    clear hkl
    have HB := Lib.hid (raft HB.out hb)
    have HX0 := Lib.hid (HX0.out.later hb)
    have HV0 := Lib.hid (IsRV.mono _ _ _ _ _ _ hb HV0.out)
    have HK := Lib.hid hK
    clear hb p0 p1 p2 HR1 hK
    have hr2 := HRU.out j hj1 (by omega) _ _ HV0.out
    have HR2 := Lib.hid hr2
    clear hr2
    obtain ⟨p0, p1, p2⟩ := HX0.out.cells
    go_wp2_with fail
    refine (HR2.out).mono ?_
    rintro en wq ⟨K2, _, _, hK2, rfl, hb⟩
    obtain rfl : K = K2 := HQ1.out _ _ j hj1 HK.out hK2
    have hkub : -1600 ≤ (if j < (txt (prQ 1 false N D K)).length then K + 1 else K) ∧ (if j < (txt (prQ 1 false N D K)).length then K + 1 else K) ≤ 1001 := by split <;> omega
    generalize hku : (if j < (txt (prQ 1 false N D K)).length then K + 1 else K) = ku at *
    have HB := Lib.hid (raft HB.out hb)
    have HX0 := Lib.hid (HX0.out.later hb)
    have HV0 := Lib.hid (IsRV.mono _ _ _ _ _ _ hb HV0.out)
    clear hb p0 p1 p2 HR2 hK2
    have hkl := HKL.out
    have hTl := ten_cut (d := -1) (s := false) HK.out hj1
    have hTu := ten_cut (d := 1) (s := false) HK.out hj1
    rw [hkl] at hTl
    rw [hku] at hTu
    have hRR := HRR.out j hj1 hj2 K HK.out _ _ _ _ hTl hTu
    rw [hkl, hku] at hRR
    clear HKL
    have hlen := prQ_len (d := -1) (s := false) HK.out hj1
    have hqd : prQ (-1) false N D K = qat N D K := by rw [prQ_dir (.inr rfl), if_neg (fun g => by simp at g)]
    have hcntL : (txt (prQ (-1) false N D K)).length = j := by rw [hqd]; exact HK.out
    have hpos := hlen.2.2.2
    obtain ⟨WL, hWL⟩ : ∃ WL, prQ (-1) false N D K = WL := ⟨_, rfl⟩
    obtain ⟨WU, hWU⟩ : ∃ WU, prQ 1 false N D K = WU := ⟨_, rfl⟩
    rw [hWL] at hcntL hpos
    simp only [hWL, hWU] at hRR ⊢
    have HLE := Lib.hid (last_even hpos)
    have hdl : ∀ c ∈ (txt WL).take j, isD c = true := fun c hc => txt_dig _ c (List.mem_of_mem_take hc)
    have hdu : ∀ c ∈ (txt WU).take j, isD c = true := fun c hc => txt_dig _ c (List.mem_of_mem_take hc)
    have hll : ((txt WL).take j).length ≤ 17 := by rw [List.length_take]; omega
    have hlu : ((txt WU).take j).length ≤ 17 := by rw [List.length_take]; omega
    have hl1 : 1 ≤ ((txt WL).take j).length := by rw [List.length_take]; omega
    have hu1 : 1 ≤ ((txt WU).take j).length := by
      have := (prQ_len (d := 1) (s := false) HK.out hj1).1
      rw [hWU] at this
      rw [List.length_take]; omega
    have hLLt : (txt WL).take j = txt WL := List.take_of_length_le (by omega)
    have HEVL := Lib.hid (show ∃ c, ((txt WL).take j)[j - 1]? = some c ∧ c.toNat = 48 + WL % 10 from by
      obtain ⟨L, c, e1, e2, e3⟩ := HLE.out
      refine ⟨c, ?_, e3⟩
      rw [hLLt, show j - 1 = L by omega]; exact e2)
    generalize hLO : (txt WL).take j = LO at *
    generalize hUP : (txt WU).take j = UP at *
    have HWHL := Lib.hid (fun W => whole_is LO hdl (by omega) W)
    have HWHU := Lib.hid (fun W => whole_is UP hdu (by omega) W)
    have hml := numB_small LO hdl (by omega)
    have hmu := numB_small UP hdu (by omega)
    have hd1 : (dig 1).length = 1 := by rw [dig_one]; rfl
    obtain ⟨ML, hML⟩ : ∃ ML, numB 10 LO = ML := ⟨_, rfl⟩
    obtain ⟨MU, hMU⟩ : ∃ MU, numB 10 UP = MU := ⟨_, rfl⟩
    rw [hML] at hRR HWHL hml
    rw [hMU] at hRR HWHU hmu
    have HFRL := Lib.hid (fun (v u : Value) (W : World) (hv : IsN ML v W) (hu : IsN 1 u W) => frac_rv (s := false) (x := ML) (y := 1) (e := 0) (by omega) hv hu (by show 0 / 32 + _ + 4 ≤ _; omega) (by rw [hd1]; decide))
    have HFRU := Lib.hid (fun (v u : Value) (W : World) (hv : IsN MU v W) (hu : IsN 1 u W) => frac_rv (s := false) (x := MU) (y := 1) (e := 0) (by omega) hv hu (by show 0 / 32 + _ + 4 ≤ _; omega) (by rw [hd1]; decide))
    have HPWL := Lib.hid (fun W => power_rv kl (by omega) (by omega) W)
    have HPWU := Lib.hid (fun W => power_rv ku (by omega) (by omega) W)
    have HMUL := Lib.hid (fun va vb W (h : IsRV (sv false (ML * 2 ^ (0 : Int).toNat)) (1 * 2 ^ (-(0 : Int)).toNat) 10000 va W) (h' : IsRV ((10 ^ kl.toNat : Nat) : Int) (10 ^ (-kl).toNat) 10000 vb W) => (rv_mul h h' (by omega) (by omega)).mono fun e w' ⟨v, he, hv, hb⟩ => (⟨v, he, ten_mul hv, hb⟩ : Ans W (IsRV ((ML * 10 ^ kl.toNat : Nat) : Int) (10 ^ (-kl).toNat) 20000) e w'))
    have HMUU := Lib.hid (fun va vb W (h : IsRV (sv false (MU * 2 ^ (0 : Int).toNat)) (1 * 2 ^ (-(0 : Int)).toNat) 10000 va W) (h' : IsRV ((10 ^ ku.toNat : Nat) : Int) (10 ^ (-ku).toNat) 10000 vb W) => (rv_mul h h' (by omega) (by omega)).mono fun e w' ⟨v, he, hv, hb⟩ => (⟨v, he, ten_mul hv, hb⟩ : Ans W (IsRV ((MU * 10 ^ ku.toNat : Nat) : Int) (10 ^ (-ku).toNat) 20000) e w'))
    have HFML := Lib.hid (fun W => form5_any s LO kl hl1 (by omega) (by omega) (by omega) W)
    have HFMU := Lib.hid (fun W => form5_any s UP ku hu1 (by omega) (by omega) (by omega) W)
    obtain ⟨PL, hPL⟩ : ∃ PL, ML * 10 ^ kl.toNat = PL := ⟨_, rfl⟩
    obtain ⟨PU, hPU⟩ : ∃ PU, MU * 10 ^ ku.toNat = PU := ⟨_, rfl⟩
    obtain ⟨QL, hQL⟩ : ∃ QL, 10 ^ (-kl).toNat = QL := ⟨_, rfl⟩
    obtain ⟨QU, hQU⟩ : ∃ QU, 10 ^ (-ku).toNat = QU := ⟨_, rfl⟩
    have hQL0 : 0 < QL := by rw [← hQL]; exact Nat.pow_pos (by omega)
    have hQU0 : 0 < QU := by rw [← hQU]; exact Nat.pow_pos (by omega)
    rw [hPL, hQL] at HMUL hRR
    rw [hPU, hQU] at HMUU hRR
    rw [hQL] at HPWL
    rw [hQU] at HPWU
    obtain ⟨lw, hlw⟩ : ∃ lw, decide (rngN (PL * 2 ^ KU) QL = r) = lw := ⟨_, rfl⟩
    obtain ⟨hg, hhg⟩ : ∃ hg, decide (rngN (PU * 2 ^ KU) QU = r) = hg := ⟨_, rfl⟩
    obtain ⟨cc, hcc⟩ : ∃ cc, icmp (((N : Int) * QL - PL * D) * ((QU : Int) * D)) (((PU : Int) * D - N * QU) * ((D : Int) * QL)) = cc := ⟨_, rfl⟩
    obtain ⟨ev, hev⟩ : ∃ ev, decide (WL % 2 = 0) = ev := ⟨_, rfl⟩
    have HALT := Lib.hid (hRR lw hg ev cc hlw hhg hcc hev)
    have HBL := Lib.hid (fun va W (h : IsRV (PL : Int) QL 20000 va W) => bits3_is (d := 0) (K := KU) h (by omega) rfl)
    have HBU := Lib.hid (fun va W (h : IsRV (PU : Int) QU 20000 va W) => bits3_is (d := 0) (K := KU) h (by omega) rfl)
    have hel := bits_eq HD0.out.2 hlw
    have heu := bits_eq HD0.out.2 hhg
    obtain ⟨xl, hxl⟩ : ∃ xl, rat3 0 ((PL : Nat) : Int) QL KU = xl := ⟨_, rfl⟩
    obtain ⟨xu, hxu⟩ : ∃ xu, rat3 0 ((PU : Nat) : Int) QU KU = xu := ⟨_, rfl⟩
    rw [hxl] at hel HBL
    rw [hxu] at heu HBU
    have HEL := Lib.hid (And.intro hel heu)
    have HS1 := Lib.hid (fun va vb W (h : IsRV (N : Int) D 100 va W) (h' : IsRV (PL : Int) QL 20000 vb W) => (rv_sub h h' (by omega) (by omega)).mono fun e w' ⟨v, he, hv, hb⟩ => (⟨v, he, hv.le (k' := 40301) (by omega), hb⟩ : Ans W (IsRV ((N : Int) * QL - PL * D) (D * QL) 40301) e w'))
    have HS2 := Lib.hid (fun va vb W (h : IsRV (PU : Int) QU 20000 va W) (h' : IsRV (N : Int) D 100 vb W) => (rv_sub h h' (by omega) (by omega)).mono fun e w' ⟨v, he, hv, hb⟩ => (⟨v, he, hv.le (k' := 40301) (by omega), hb⟩ : Ans W (IsRV ((PU : Int) * D - N * QU) (QU * D) 40301) e w'))
    have HS3 := Lib.hid (fun va vb W (h : IsRV ((N : Int) * QL - PL * D) (D * QL) 40301 va W) (h' : IsRV ((PU : Int) * D - N * QU) (QU * D) 40301 vb W) => rv_cmp h h' (by omega) (by omega))
    rw [Int.natCast_mul, Int.natCast_mul, hcc] at HS3
    have HEV := Lib.hid hev
    have hLOs : (bs LO).size = LO.length := bs_size _
    have hLOj : LO.length = j := by rw [← hLO, List.length_take]; omega
    have HLS := Lib.hid (And.intro hLOs hLOj)
    have HLOb := Lib.hid (fun i c h => bs_at LO i c h)
    generalize bs LO = LOs at *
    generalize bs UP = UPs at *
    clear hTl hTu hRR hlen hqd hcntL hpos hWL hWU hdl hdu hll hlu hl1 hu1 hLLt hLO hUP hkl hku hklb hkub hml hmu hd1 hML hMU hPL hPU hQL hQU hlw hhg hcc hev hel heu hxl hxu hLOs hLOj HLE hQL0 hQU0
    go_wp2_with fail
    refine (HWHL.out _).mono ?_
    rintro en wq ⟨v, rfl, hv, hb⟩
    have HVW := Lib.hid (IsN.mono _ _ _ _ (rnew wq (.cells #[.int .u32 1] 53)) hv)
    have HO := Lib.hid (one_is wq)
    have HB := Lib.hid (raft (raft HB.out hb) (rnew wq (.cells #[.int .u32 1] 53)))
    have HCY := Lib.hid (raft hb (rnew wq (.cells #[.int .u32 1] 53)))
    have HX0 := Lib.hid (Box3.later HX0.out HCY.out)
    have HV0 := Lib.hid (IsRV.mono _ _ _ _ _ _ HCY.out HV0.out)
    clear hv hb HCY
    go_wp2_with fail
    refine (HFRL.out _ _ _ HVW.out HO.out).mono ?_
    rintro en wr2 ⟨v2, rfl, hv2, hb⟩
    have HV2 := Lib.hid hv2
    have HB := Lib.hid (raft HB.out hb)
    have HX0 := Lib.hid (Box3.later HX0.out hb)
    have HV0 := Lib.hid (IsRV.mono _ _ _ _ _ _ hb HV0.out)
    clear hv2 hb HVW HO
    go_wp2_with fail
    refine (HPWL.out _).mono ?_
    rintro en wr3 ⟨v3, rfl, hv3, hb⟩
    have HV2 := Lib.hid (IsRV.mono _ _ _ _ _ _ hb HV2.out)
    have HV3 := Lib.hid hv3
    have HB := Lib.hid (raft HB.out hb)
    have HX0 := Lib.hid (Box3.later HX0.out hb)
    have HV0 := Lib.hid (IsRV.mono _ _ _ _ _ _ hb HV0.out)
    clear hv3 hb
    go_wp2_with fail
    refine (HMUL.out _ _ _ HV2.out HV3.out).mono ?_
    rintro en wr4 ⟨v4, rfl, hv4, hb⟩
    obtain ⟨sL, AL, nL, cL, BL, mL, dL, rfl⟩ := hv4.agg
    have HXL := Lib.hid (Box3.new wr4 (.bool sL) (.slice AL nL cL) (.slice BL mL dL))
    have HTL := Lib.hid (IsRV.mono _ _ _ _ _ _ (rnew wr4 (.cells #[.bool sL, .slice AL nL cL, .slice BL mL dL] 39)) hv4)
    have HB := Lib.hid (raft (raft HB.out hb) (rnew wr4 (.cells #[.bool sL, .slice AL nL cL, .slice BL mL dL] 39)))
    have HCY := Lib.hid (raft hb (rnew wr4 (.cells #[.bool sL, .slice AL nL cL, .slice BL mL dL] 39)))
    have HX0 := Lib.hid (Box3.later HX0.out HCY.out)
    have HV0 := Lib.hid (IsRV.mono _ _ _ _ _ _ HCY.out HV0.out)
    clear hv4 hb HCY HV2 HV3
    go_upto_region 11 with fail
    obtain ⟨gL, hgL⟩ : ∃ g, wr4.heap.size = g := ⟨_, rfl⟩
    rw [hgL] at HXL ⊢
    generalize wr4.alloc (.cells #[.bool sL, .slice AL nL cL, .slice BL mL dL] 39) = WW at *
    clear hgL
    go_wp2_with fail
    refine (HWHU.out _).mono ?_
    rintro en wq ⟨v, rfl, hv, hb⟩
    have HVW := Lib.hid (IsN.mono _ _ _ _ (rnew wq (.cells #[.int .u32 1] 53)) hv)
    have HO := Lib.hid (one_is wq)
    have HB := Lib.hid (raft (raft HB.out hb) (rnew wq (.cells #[.int .u32 1] 53)))
    have HCY := Lib.hid (raft hb (rnew wq (.cells #[.int .u32 1] 53)))
    have HX0 := Lib.hid (Box3.later HX0.out HCY.out)
    have HV0 := Lib.hid (IsRV.mono _ _ _ _ _ _ HCY.out HV0.out)
    have HXL := Lib.hid (Box3.later HXL.out HCY.out)
    have HTL := Lib.hid (IsRV.mono _ _ _ _ _ _ HCY.out HTL.out)
    clear hv hb HCY
    go_wp2_with fail
    refine (HFRU.out _ _ _ HVW.out HO.out).mono ?_
    rintro en wr2 ⟨v2, rfl, hv2, hb⟩
    have HV2 := Lib.hid hv2
    have HB := Lib.hid (raft HB.out hb)
    have HX0 := Lib.hid (Box3.later HX0.out hb)
    have HV0 := Lib.hid (IsRV.mono _ _ _ _ _ _ hb HV0.out)
    have HXL := Lib.hid (Box3.later HXL.out hb)
    have HTL := Lib.hid (IsRV.mono _ _ _ _ _ _ hb HTL.out)
    clear hv2 hb HVW HO
    go_wp2_with fail
    refine (HPWU.out _).mono ?_
    rintro en wr3 ⟨v3, rfl, hv3, hb⟩
    have HV2 := Lib.hid (IsRV.mono _ _ _ _ _ _ hb HV2.out)
    have HV3 := Lib.hid hv3
    have HB := Lib.hid (raft HB.out hb)
    have HX0 := Lib.hid (Box3.later HX0.out hb)
    have HV0 := Lib.hid (IsRV.mono _ _ _ _ _ _ hb HV0.out)
    have HXL := Lib.hid (Box3.later HXL.out hb)
    have HTL := Lib.hid (IsRV.mono _ _ _ _ _ _ hb HTL.out)
    clear hv3 hb
    go_wp2_with fail
    refine (HMUU.out _ _ _ HV2.out HV3.out).mono ?_
    rintro en wr4 ⟨v4, rfl, hv4, hb⟩
    obtain ⟨sU, AU, nU, cU, BU, mU, dU, rfl⟩ := hv4.agg
    have HXU := Lib.hid (Box3.new wr4 (.bool sU) (.slice AU nU cU) (.slice BU mU dU))
    have HTU := Lib.hid (IsRV.mono _ _ _ _ _ _ (rnew wr4 (.cells #[.bool sU, .slice AU nU cU, .slice BU mU dU] 39)) hv4)
    have HB := Lib.hid (raft (raft HB.out hb) (rnew wr4 (.cells #[.bool sU, .slice AU nU cU, .slice BU mU dU] 39)))
    have HCY := Lib.hid (raft hb (rnew wr4 (.cells #[.bool sU, .slice AU nU cU, .slice BU mU dU] 39)))
    have HX0 := Lib.hid (Box3.later HX0.out HCY.out)
    have HV0 := Lib.hid (IsRV.mono _ _ _ _ _ _ HCY.out HV0.out)
    have HXL := Lib.hid (Box3.later HXL.out HCY.out)
    have HTL := Lib.hid (IsRV.mono _ _ _ _ _ _ HCY.out HTL.out)
    clear hv4 hb HCY HV2 HV3
    go_upto_region 12 with fail
    obtain ⟨gU, hgU⟩ : ∃ g, wr4.heap.size = g := ⟨_, rfl⟩
    rw [hgU] at HXU ⊢
    generalize wr4.alloc (.cells #[.bool sU, .slice AU nU cU, .slice BU mU dU] 39) = WW at *
    clear hgU
    have hel := HEL.out.1
    have hand := HAND.out
    obtain ⟨p0, p1, p2⟩ := HXL.out.cells
    go_wp2_with fail
    refine (HBL.out _ _ HTL.out).mono ?_
    rintro en wq ⟨vn, rfl, rfl, hb⟩
    have HB := Lib.hid (raft HB.out hb)
    have HX0 := Lib.hid (HX0.out.later hb)
    have HXL := Lib.hid (HXL.out.later hb)
    have HXU := Lib.hid (HXU.out.later hb)
    have HV0 := Lib.hid (IsRV.mono _ _ _ _ _ _ hb HV0.out)
    have HTL := Lib.hid (IsRV.mono _ _ _ _ _ _ hb HTL.out)
    have HTU := Lib.hid (IsRV.mono _ _ _ _ _ _ hb HTU.out)
    clear hb p0 p1 p2 HBL
    go_upto_region 13 with fail
    clear hel
    have heu := HEL.out.2
    obtain ⟨p0, p1, p2⟩ := HXU.out.cells
    go_wp2_with fail
    refine (HBU.out _ _ HTU.out).mono ?_
    rintro en wq ⟨vn, rfl, rfl, hb⟩
    have HB := Lib.hid (raft HB.out hb)
    have HX0 := Lib.hid (HX0.out.later hb)
    have HXL := Lib.hid (HXL.out.later hb)
    have HXU := Lib.hid (HXU.out.later hb)
    have HV0 := Lib.hid (IsRV.mono _ _ _ _ _ _ hb HV0.out)
    have HTL := Lib.hid (IsRV.mono _ _ _ _ _ _ hb HTL.out)
    have HTU := Lib.hid (IsRV.mono _ _ _ _ _ _ hb HTU.out)
    clear hb p0 p1 p2 HBU
    go_upto_region 14 with fail
    clear heu hand HEL
    rcases HALT.out with ⟨h1, rfl, rfl⟩ | ⟨h1, rfl, h3, h4⟩ | ⟨h1, rfl, h3, h4⟩
    · clear HALT HS1 HS2 HS3 HFML HFMU HWHL HWHU HMUL HMUU
      go_wp2
      go_roundw
      case rel => exact ⟨j + 1, by omega, by omega, by go_num, HB.out, HX0.out, HV0.out⟩
      case measure => simp [intOf]; omega
    · subst h1
      have HAL := Lib.hid h4
      have H3 := Lib.hid h3
      clear HALT h3 h4 HWHL HWHU HMUL HMUU HFML
      cases lw
      · clear HS1 HS2 HS3
        go_wp2_with fail
        refine (HFMU.out _).mono ?_
        rintro en wf ⟨rfl, hb⟩
        have HB := Lib.hid (raft HB.out hb)
        clear hb
        go_wp2
        go_ret2
        exact ⟨by rw [← HAL.out]; rfl, HB.out⟩
      · go_upto_region 15 with fail
        refine region_at 8 (Pick [IsV (.agg #[.bool false, .slice A1 l1 c1, .slice A2 l2 c2]), IsV (.agg #[.bool sL, .slice AL nL cL, .slice BL mL dL]), (IsRV ((N : Int) * QL - PL * D) (D * QL) 40301), IsV (.agg #[.bool sU, .slice AU nU cU, .slice BU mU dU]), IsV (.agg #[.bool false, .slice A1 l1 c1, .slice A2 l2 c2]), (IsRV ((PU : Int) * D - N * QU) (QU * D) 40301), IsV (.int .i64 cc), IsV (.int .i64 cc)]) (by kernel_rfl) (by kernel_rfl) (by kernel_rfl) (mono_pick ⟨IsV.mono _, IsV.mono _, IsRV.mono _ _ _, IsV.mono _, IsV.mono _, IsRV.mono _ _ _, IsV.mono _, IsV.mono _, trivial⟩) ⟨?_, ?_, ?_, ?_, ?_, ?_, ?_, ?_, trivial⟩ ?_
        · intro a W hsz hb hS
          have h4 : a.tmps.getD 4 undef = .pointer (some ⟨g0, 0, none⟩) := hS.1
          clear hS hsz
          refine will_of rfl ?_
          obtain ⟨b0, b1, b2⟩ := (HX0.out.later hb).cells
          obtain ⟨b3, b4, b5⟩ := (HXL.out.later hb).cells
          obtain ⟨b6, b7, b8⟩ := (HXU.out.later hb).cells
          intro K hK
          go_simp
          exact hK _ _ ⟨Below.refl _ _, rfl⟩
        · intro a W hsz hb hS
          have h11 : a.tmps.getD 11 undef = .pointer (some ⟨gL, 0, none⟩) := hS.1
          clear hS hsz
          refine will_of rfl ?_
          obtain ⟨b0, b1, b2⟩ := (HX0.out.later hb).cells
          obtain ⟨b3, b4, b5⟩ := (HXL.out.later hb).cells
          obtain ⟨b6, b7, b8⟩ := (HXU.out.later hb).cells
          intro K hK
          go_simp
          exact hK _ _ ⟨Below.refl _ _, rfl⟩
        · intro a W hsz hb hS
          have h69 : a.tmps.getD 69 undef = .agg #[.bool false, .slice A1 l1 c1, .slice A2 l2 c2] := hS.1
          have h70 : a.tmps.getD 70 undef = .agg #[.bool sL, .slice AL nL cL, .slice BL mL dL] := hS.2.1
          clear hS hsz
          refine will_of rfl ?_
          obtain ⟨b0, b1, b2⟩ := (HX0.out.later hb).cells
          obtain ⟨b3, b4, b5⟩ := (HXL.out.later hb).cells
          obtain ⟨b6, b7, b8⟩ := (HXU.out.later hb).cells
          intro K hK
          go_simp
          refine (HS1.out _ _ W (IsRV.mono _ _ _ _ _ _ hb HV0.out) (IsRV.mono _ _ _ _ _ _ hb HTL.out)).mono ?_
          rintro e W' ⟨v, rfl, hv, hb'⟩
          exact hK _ _ ⟨hb', hv⟩
        · intro a W hsz hb hS
          have h12 : a.tmps.getD 12 undef = .pointer (some ⟨gU, 0, none⟩) := hS.1
          clear hS hsz
          refine will_of rfl ?_
          obtain ⟨b0, b1, b2⟩ := (HX0.out.later hb).cells
          obtain ⟨b3, b4, b5⟩ := (HXL.out.later hb).cells
          obtain ⟨b6, b7, b8⟩ := (HXU.out.later hb).cells
          intro K hK
          go_simp
          exact hK _ _ ⟨Below.refl _ _, rfl⟩
        · intro a W hsz hb hS
          have h4 : a.tmps.getD 4 undef = .pointer (some ⟨g0, 0, none⟩) := hS.1
          clear hS hsz
          refine will_of rfl ?_
          obtain ⟨b0, b1, b2⟩ := (HX0.out.later hb).cells
          obtain ⟨b3, b4, b5⟩ := (HXL.out.later hb).cells
          obtain ⟨b6, b7, b8⟩ := (HXU.out.later hb).cells
          intro K hK
          go_simp
          exact hK _ _ ⟨Below.refl _ _, rfl⟩
        · intro a W hsz hb hS
          have h72 : a.tmps.getD 72 undef = .agg #[.bool sU, .slice AU nU cU, .slice BU mU dU] := hS.1
          have h73 : a.tmps.getD 73 undef = .agg #[.bool false, .slice A1 l1 c1, .slice A2 l2 c2] := hS.2.1
          clear hS hsz
          refine will_of rfl ?_
          obtain ⟨b0, b1, b2⟩ := (HX0.out.later hb).cells
          obtain ⟨b3, b4, b5⟩ := (HXL.out.later hb).cells
          obtain ⟨b6, b7, b8⟩ := (HXU.out.later hb).cells
          intro K hK
          go_simp
          refine (HS2.out _ _ W (IsRV.mono _ _ _ _ _ _ hb HTU.out) (IsRV.mono _ _ _ _ _ _ hb HV0.out)).mono ?_
          rintro e W' ⟨v, rfl, hv, hb'⟩
          exact hK _ _ ⟨hb', hv⟩
        · intro a W hsz hb hS
          have q71 : (IsRV ((N : Int) * QL - PL * D) (D * QL) 40301) (a.tmps.getD 71 undef) W := hS.1
          have q74 : (IsRV ((PU : Int) * D - N * QU) (QU * D) 40301) (a.tmps.getD 74 undef) W := hS.2.1
          clear hS hsz
          obtain ⟨v71, h71⟩ : ∃ v, a.tmps.getD 71 undef = v := ⟨_, rfl⟩
          rw [h71] at q71
          obtain ⟨v74, h74⟩ : ∃ v, a.tmps.getD 74 undef = v := ⟨_, rfl⟩
          rw [h74] at q74
          refine will_of rfl ?_
          obtain ⟨b0, b1, b2⟩ := (HX0.out.later hb).cells
          obtain ⟨b3, b4, b5⟩ := (HXL.out.later hb).cells
          obtain ⟨b6, b7, b8⟩ := (HXU.out.later hb).cells
          intro K hK
          go_simp
          refine (HS3.out _ _ W q71 q74).mono ?_
          rintro e W' ⟨v, rfl, hv, hb'⟩
          exact hK _ _ ⟨hb', hv⟩
        · intro a W hsz hb hS
          have h75 : a.tmps.getD 75 undef = .int .i64 cc := hS.1
          clear hS hsz
          refine will_of rfl ?_
          intro K hK
          go_simp
          exact hK _ _ ⟨Below.refl _ _, rfl⟩
        intro f W hb hH
        have e0 : f 0 = .agg #[.bool false, .slice A1 l1 c1, .slice A2 l2 c2] := hH.1
        have e1 : f 1 = .agg #[.bool sL, .slice AL nL cL, .slice BL mL dL] := hH.2.1
        obtain ⟨x2, y2⟩ : ∃ x, f 2 = x := ⟨_, rfl⟩
        have q2 : (IsRV ((N : Int) * QL - PL * D) (D * QL) 40301) (f 2) W := hH.2.2.1
        rw [y2] at q2
        have e3 : f 3 = .agg #[.bool sU, .slice AU nU cU, .slice BU mU dU] := hH.2.2.2.1
        have e4 : f 4 = .agg #[.bool false, .slice A1 l1 c1, .slice A2 l2 c2] := hH.2.2.2.2.1
        obtain ⟨x5, y5⟩ : ∃ x, f 5 = x := ⟨_, rfl⟩
        have q5 : (IsRV ((PU : Int) * D - N * QU) (QU * D) 40301) (f 5) W := hH.2.2.2.2.2.1
        rw [y5] at q5
        have e6 : f 6 = .int .i64 cc := hH.2.2.2.2.2.2.1
        have e7 : f 7 = .int .i64 cc := hH.2.2.2.2.2.2.2.1
        simp only [List.take_succ_cons, List.take_zero, List.drop_succ_cons, List.drop_zero, putFrom, Act.put, List.setIfInBounds_toArray, List.set_cons_zero, List.set_cons_succ, Nat.reduceAdd, e0, e1, y2, e3, e4, y5, e6, e7]
        clear e0 e1 y2 e3 e4 y5 e6 e7 hH f
        clear q2 q5
        have HB := Lib.hid (raft HB.out hb)
        have HX0 := Lib.hid (HX0.out.later hb)
        clear hb
        clear HTL HTU HXL HXU HS1 HS2 HS3
        have h3 := H3.out rfl
        by_cases hz : cc = 0
        · subst hz
          have hev : ev = false := by
            cases hx : ev
            · rfl
            · exact absurd ⟨rfl, hx⟩ h3.2
          have hodd : WL % 2 = 1 := by have := HEV.out; rw [hev] at this; have := of_decide_eq_false this; omega
          obtain ⟨z, hz1, hz2⟩ := HEVL.out
          have hzS := HLOb.out (j - 1) z hz1 (by have := HLS.out.1; have := HLS.out.2; omega)
          have hsz : LOs.size = j := HLS.out.1.trans HLS.out.2
          have hjI : (j : Int) - 1 = ((j - 1 : Nat) : Int) := by omega
          have hz48 : (48 : Int) ≤ z.toNat := by omega
          have hz57 : (z.toNat : Int) ≤ 57 := by omega
          have hbz : ((z.toNat : Int) - 48) % 2 = 1 := by omega
          have hidx : j - 1 < LOs.size := by omega
          have hbb : ((((LOs[j - 1]'hidx).toNat : Int) - 48) % 2 == 0) = false := by rw [hzS, hbz]; rfl
          clear h3 hev hodd hz1 hz2 hbz hzS hz48 hz57
          go_wp2_with fail
          refine (HFMU.out _).mono ?_
          rintro en wf ⟨rfl, hb⟩
          have HB := Lib.hid (raft HB.out hb)
          clear hb
          go_wp2
          go_ret2
          exact ⟨by rw [← HAL.out]; rfl, HB.out⟩
        · have hneg : ¬ cc < 0 := by have := h3.1; omega
          have hne : (cc == 0) = false := by simpa using hz
          clear h3 hz
          go_wp2_with fail
          refine (HFMU.out _).mono ?_
          rintro en wf ⟨rfl, hb⟩
          have HB := Lib.hid (raft HB.out hb)
          clear hb
          go_wp2
          go_ret2
          exact ⟨by rw [← HAL.out]; rfl, HB.out⟩
    · subst h1
      have HAL := Lib.hid h4
      have H3 := Lib.hid h3
      clear HALT h3 h4 HWHL HWHU HMUL HMUU HFMU
      cases hg
      · clear HS1 HS2 HS3
        go_wp2_with fail
        refine (HFML.out _).mono ?_
        rintro en wf ⟨rfl, hb⟩
        have HB := Lib.hid (raft HB.out hb)
        clear hb
        go_wp2
        go_ret2
        exact ⟨by rw [← HAL.out]; rfl, HB.out⟩
      · go_upto_region 15 with fail
        refine region_at 8 (Pick [IsV (.agg #[.bool false, .slice A1 l1 c1, .slice A2 l2 c2]), IsV (.agg #[.bool sL, .slice AL nL cL, .slice BL mL dL]), (IsRV ((N : Int) * QL - PL * D) (D * QL) 40301), IsV (.agg #[.bool sU, .slice AU nU cU, .slice BU mU dU]), IsV (.agg #[.bool false, .slice A1 l1 c1, .slice A2 l2 c2]), (IsRV ((PU : Int) * D - N * QU) (QU * D) 40301), IsV (.int .i64 cc), IsV (.int .i64 cc)]) (by kernel_rfl) (by kernel_rfl) (by kernel_rfl) (mono_pick ⟨IsV.mono _, IsV.mono _, IsRV.mono _ _ _, IsV.mono _, IsV.mono _, IsRV.mono _ _ _, IsV.mono _, IsV.mono _, trivial⟩) ⟨?_, ?_, ?_, ?_, ?_, ?_, ?_, ?_, trivial⟩ ?_
        · intro a W hsz hb hS
          have h4 : a.tmps.getD 4 undef = .pointer (some ⟨g0, 0, none⟩) := hS.1
          clear hS hsz
          refine will_of rfl ?_
          obtain ⟨b0, b1, b2⟩ := (HX0.out.later hb).cells
          obtain ⟨b3, b4, b5⟩ := (HXL.out.later hb).cells
          obtain ⟨b6, b7, b8⟩ := (HXU.out.later hb).cells
          intro K hK
          go_simp
          exact hK _ _ ⟨Below.refl _ _, rfl⟩
        · intro a W hsz hb hS
          have h11 : a.tmps.getD 11 undef = .pointer (some ⟨gL, 0, none⟩) := hS.1
          clear hS hsz
          refine will_of rfl ?_
          obtain ⟨b0, b1, b2⟩ := (HX0.out.later hb).cells
          obtain ⟨b3, b4, b5⟩ := (HXL.out.later hb).cells
          obtain ⟨b6, b7, b8⟩ := (HXU.out.later hb).cells
          intro K hK
          go_simp
          exact hK _ _ ⟨Below.refl _ _, rfl⟩
        · intro a W hsz hb hS
          have h69 : a.tmps.getD 69 undef = .agg #[.bool false, .slice A1 l1 c1, .slice A2 l2 c2] := hS.1
          have h70 : a.tmps.getD 70 undef = .agg #[.bool sL, .slice AL nL cL, .slice BL mL dL] := hS.2.1
          clear hS hsz
          refine will_of rfl ?_
          obtain ⟨b0, b1, b2⟩ := (HX0.out.later hb).cells
          obtain ⟨b3, b4, b5⟩ := (HXL.out.later hb).cells
          obtain ⟨b6, b7, b8⟩ := (HXU.out.later hb).cells
          intro K hK
          go_simp
          refine (HS1.out _ _ W (IsRV.mono _ _ _ _ _ _ hb HV0.out) (IsRV.mono _ _ _ _ _ _ hb HTL.out)).mono ?_
          rintro e W' ⟨v, rfl, hv, hb'⟩
          exact hK _ _ ⟨hb', hv⟩
        · intro a W hsz hb hS
          have h12 : a.tmps.getD 12 undef = .pointer (some ⟨gU, 0, none⟩) := hS.1
          clear hS hsz
          refine will_of rfl ?_
          obtain ⟨b0, b1, b2⟩ := (HX0.out.later hb).cells
          obtain ⟨b3, b4, b5⟩ := (HXL.out.later hb).cells
          obtain ⟨b6, b7, b8⟩ := (HXU.out.later hb).cells
          intro K hK
          go_simp
          exact hK _ _ ⟨Below.refl _ _, rfl⟩
        · intro a W hsz hb hS
          have h4 : a.tmps.getD 4 undef = .pointer (some ⟨g0, 0, none⟩) := hS.1
          clear hS hsz
          refine will_of rfl ?_
          obtain ⟨b0, b1, b2⟩ := (HX0.out.later hb).cells
          obtain ⟨b3, b4, b5⟩ := (HXL.out.later hb).cells
          obtain ⟨b6, b7, b8⟩ := (HXU.out.later hb).cells
          intro K hK
          go_simp
          exact hK _ _ ⟨Below.refl _ _, rfl⟩
        · intro a W hsz hb hS
          have h72 : a.tmps.getD 72 undef = .agg #[.bool sU, .slice AU nU cU, .slice BU mU dU] := hS.1
          have h73 : a.tmps.getD 73 undef = .agg #[.bool false, .slice A1 l1 c1, .slice A2 l2 c2] := hS.2.1
          clear hS hsz
          refine will_of rfl ?_
          obtain ⟨b0, b1, b2⟩ := (HX0.out.later hb).cells
          obtain ⟨b3, b4, b5⟩ := (HXL.out.later hb).cells
          obtain ⟨b6, b7, b8⟩ := (HXU.out.later hb).cells
          intro K hK
          go_simp
          refine (HS2.out _ _ W (IsRV.mono _ _ _ _ _ _ hb HTU.out) (IsRV.mono _ _ _ _ _ _ hb HV0.out)).mono ?_
          rintro e W' ⟨v, rfl, hv, hb'⟩
          exact hK _ _ ⟨hb', hv⟩
        · intro a W hsz hb hS
          have q71 : (IsRV ((N : Int) * QL - PL * D) (D * QL) 40301) (a.tmps.getD 71 undef) W := hS.1
          have q74 : (IsRV ((PU : Int) * D - N * QU) (QU * D) 40301) (a.tmps.getD 74 undef) W := hS.2.1
          clear hS hsz
          obtain ⟨v71, h71⟩ : ∃ v, a.tmps.getD 71 undef = v := ⟨_, rfl⟩
          rw [h71] at q71
          obtain ⟨v74, h74⟩ : ∃ v, a.tmps.getD 74 undef = v := ⟨_, rfl⟩
          rw [h74] at q74
          refine will_of rfl ?_
          obtain ⟨b0, b1, b2⟩ := (HX0.out.later hb).cells
          obtain ⟨b3, b4, b5⟩ := (HXL.out.later hb).cells
          obtain ⟨b6, b7, b8⟩ := (HXU.out.later hb).cells
          intro K hK
          go_simp
          refine (HS3.out _ _ W q71 q74).mono ?_
          rintro e W' ⟨v, rfl, hv, hb'⟩
          exact hK _ _ ⟨hb', hv⟩
        · intro a W hsz hb hS
          have h75 : a.tmps.getD 75 undef = .int .i64 cc := hS.1
          clear hS hsz
          refine will_of rfl ?_
          intro K hK
          go_simp
          exact hK _ _ ⟨Below.refl _ _, rfl⟩
        intro f W hb hH
        have e0 : f 0 = .agg #[.bool false, .slice A1 l1 c1, .slice A2 l2 c2] := hH.1
        have e1 : f 1 = .agg #[.bool sL, .slice AL nL cL, .slice BL mL dL] := hH.2.1
        obtain ⟨x2, y2⟩ : ∃ x, f 2 = x := ⟨_, rfl⟩
        have q2 : (IsRV ((N : Int) * QL - PL * D) (D * QL) 40301) (f 2) W := hH.2.2.1
        rw [y2] at q2
        have e3 : f 3 = .agg #[.bool sU, .slice AU nU cU, .slice BU mU dU] := hH.2.2.2.1
        have e4 : f 4 = .agg #[.bool false, .slice A1 l1 c1, .slice A2 l2 c2] := hH.2.2.2.2.1
        obtain ⟨x5, y5⟩ : ∃ x, f 5 = x := ⟨_, rfl⟩
        have q5 : (IsRV ((PU : Int) * D - N * QU) (QU * D) 40301) (f 5) W := hH.2.2.2.2.2.1
        rw [y5] at q5
        have e6 : f 6 = .int .i64 cc := hH.2.2.2.2.2.2.1
        have e7 : f 7 = .int .i64 cc := hH.2.2.2.2.2.2.2.1
        simp only [List.take_succ_cons, List.take_zero, List.drop_succ_cons, List.drop_zero, putFrom, Act.put, List.setIfInBounds_toArray, List.set_cons_zero, List.set_cons_succ, Nat.reduceAdd, e0, e1, y2, e3, e4, y5, e6, e7]
        clear e0 e1 y2 e3 e4 y5 e6 e7 hH f
        clear q2 q5
        have HB := Lib.hid (raft HB.out hb)
        have HX0 := Lib.hid (HX0.out.later hb)
        clear hb
        clear HTL HTU HXL HXU HS1 HS2 HS3
        rcases H3.out rfl with h3 | ⟨rfl, hev⟩
        · have hneg : cc < 0 := h3
          clear h3
          go_wp2_with fail
          refine (HFML.out _).mono ?_
          rintro en wf ⟨rfl, hb⟩
          have HB := Lib.hid (raft HB.out hb)
          clear hb
          go_wp2
          go_ret2
          exact ⟨by rw [← HAL.out]; rfl, HB.out⟩
        · have hodd : WL % 2 = 0 := by have := HEV.out; rw [hev] at this; exact of_decide_eq_true this
          obtain ⟨z, hz1, hz2⟩ := HEVL.out
          have hzS := HLOb.out (j - 1) z hz1 (by have := HLS.out.1; have := HLS.out.2; omega)
          have hsz : LOs.size = j := HLS.out.1.trans HLS.out.2
          have hjI : (j : Int) - 1 = ((j - 1 : Nat) : Int) := by omega
          have hz48 : (48 : Int) ≤ z.toNat := by omega
          have hz57 : (z.toNat : Int) ≤ 57 := by omega
          have hbz : ((z.toNat : Int) - 48) % 2 = 0 := by omega
          have hidx : j - 1 < LOs.size := by omega
          have hbb : ((((LOs[j - 1]'hidx).toNat : Int) - 48) % 2 == 0) = true := by rw [hzS, hbz]; rfl
          clear hev hodd hz1 hz2 hbz hzS hz48 hz57
          go_wp2_with fail
          refine (HFML.out _).mono ?_
          rintro en wf ⟨rfl, hb⟩
          have HB := Lib.hid (raft HB.out hb)
          clear hb
          go_wp2
          go_ret2
          exact ⟨by rw [← HAL.out]; rfl, HB.out⟩
end Go.Proofs.YtiadjcilfljdaaaDoor
