/- Layer 5, the document: Print; the program's beside it. -/
import Derived.Test.YtcomkgmonhidhaaGreatDoorG43
import Derived.Test.YtcomkgmonhidhaaGreatDoorG44
import Derived.Test.YtcomkgmonhidhaaGreatDoorG36
import Derived.Test.YtcomkgmonhidhaaGreatDoorG19
import Derived.WalkLawsBesides
import Derived.Laws.StructEq
section
namespace Go.Proofs.YtcomkgmonhidhaaGreatDoor
set_option linter.unusedVariables false
set_option linter.unusedSimpArgs false
open Go.RowKit Verge

theorem scn_lenq {l : List UInt8} {x : Bool × Nat × Nat × Int} (h : scn l = .ok x) : l.length ≤ 4096 := by
  refine Classical.byContradiction fun hc => ?_
  unfold scn at h
  rw [if_pos (by omega)] at h
  cases h
theorem prQ_turn (d : Int) (s : Bool) (N D : Nat) (K : Int) : prQ (if s = true ∧ (d = 1 ∨ d = -1) then -d else d) false N D K = prQ d s N D K := by
  unfold prQ upB
  cases s
  · simp
  · by_cases h1 : d = 1
    · subst h1; simp
    · by_cases h2 : d = -1
      · subst h2; simp
      · simp [h1, h2]
theorem zeros5_any (n : Nat) (h1 : 1 ≤ n) (hn : n ≤ 100000) (w : World) : Calls Tryz.prog 41 #[.int .i64 (n : Int)] w fun e w' => e = .returned (.string (bs (List.replicate n 48))) ∧ Below w.heap.size w w' := by
  have hmk := run_make_u8 n hn w
  have hG := grow_made w n hn w.heap.size (Nat.le_refl _)
  have hbl := (Below.refl w.heap.size w).alloc (Nat.le_refl _) (.cells (b8s (List.replicate n 0)).toArray 5)
  go_enter Tryz.func41, Tryz.ntmps41
  go_wp2
  clear hmk
  generalize w.alloc (.cells (b8s (List.replicate n 0)).toArray 5) = W0 at *
  have HG := Lib.hid (And.intro hG hbl)
  clear hG hbl
  go_loopw [4] (fun iv wr => ∃ i : Nat, i ≤ n ∧ iv = .int .i64 i ∧ Hid (GrowB wr w.heap.size (.slice (some ⟨w.heap.size, 0, none⟩) n n) (List.replicate i 48 ++ List.replicate (n - i) 0) ∧ Below w.heap.size w wr)) (fun iv _ => n - (intOf iv).toNat)
  case atStart => exact ⟨0, by omega, rfl, by simpa using HG.out.1, HG.out.2⟩
  case round =>
    clear HG
    obtain ⟨i, hi, rfl, hG⟩ := hrel
    by_cases hin : i < n
    · have hlen : (List.replicate i (48 : UInt8) ++ List.replicate (n - i) 0).length = n := by simp; omega
      have hj : (List.replicate i (48 : UInt8) ++ List.replicate (n - i) 0)[i]? = some 0 := by
        rw [List.getElem?_append_right (by simp), List.length_replicate, Nat.sub_self, List.getElem?_replicate, if_pos (by omega)]
      obtain ⟨c0, f0⟩ := hG.out.1.at hlen hj
      have hp := hG.out.1.put hlen i 48
      have e : (List.replicate i (48 : UInt8) ++ List.replicate (n - i) 0).set i 48 = List.replicate (i + 1) 48 ++ List.replicate (n - (i + 1)) 0 := by
        rw [List.set_append_right _ _ (by simp), List.length_replicate, Nat.sub_self]
        obtain ⟨k, hk⟩ : ∃ k, n - i = k + 1 := ⟨n - i - 1, by omega⟩
        rw [hk, show n - (i + 1) = k by omega, List.replicate_succ, List.set_cons_zero, List.replicate_succ', List.append_assoc]
        rfl
      rw [e] at hp
      have HP := Lib.hid (And.intro hp (hG.out.2.setCell (p := ⟨w.heap.size, i, none⟩) (Nat.le_refl _) (Value.int .u8 (48 : Int))))
      have hlt : (i : Int) < (n : Int) := by omega
      clear hlen hj hp e
      go_wp2
      go_roundw
      case rel => exact ⟨i + 1, by omega, by go_num, HP.out⟩
      case measure => simp [intOf]; omega
    · obtain rfl : i = n := by omega
      have hl : (List.replicate i (48 : UInt8) ++ List.replicate (i - i) 0) = List.replicate i 48 := by simp
      rw [hl] at hG
      have hcv := convN wr w.heap.size 0 i i (List.replicate i 48) (by simp) (fun k c hc => by rw [Nat.zero_add]; exact (hG.out.1.at (by simp) hc).1)
      go_wp2
      go_ret
      exact ⟨rfl, hG.out.2⟩
set_option maxRecDepth 100000 in
set_option maxHeartbeats 8000000 in
theorem dprint_num (d : Int) (b n : Nat) (hb : b < 18446744073709551616) (h1 : 1 ≤ n) (h2 : n ≤ 1100) (hw : fwrong b = false) (hF : fbF b ≠ 0) {N D : Nat} (hN : N = fbF b * 2 ^ ((fbE b : Int) - 1074).toNat) (hD : D = 2 ^ (-((fbE b : Int) - 1074)).toNat) (w : World) :
    Calls Tryz.prog 17 #[.int .i64 d, .int .u64 (b : Int), .int .i64 (n : Int)] w fun e w' => ∃ K : Int, -1600 ≤ K ∧ K ≤ 1000 ∧ dcnt (qat N D K) = n ∧ e = .returned (.tuple #[.string (bs (prT d (decide (9223372036854775808 ≤ b)) N D K n)), .int .i64 0]) ∧ Below w.heap.size w w' := by
  obtain ⟨t1, t2, hD0, hN0⟩ := fin_tens hF hw hN hD
  have hsg : decide (9223372036854775808 < b) = decide (9223372036854775808 ≤ b) := decide_eq_decide.2 (by
    have : b ≠ 9223372036854775808 := by rintro rfl; exact hF (by decide)
    omega)
  have H1 := Lib.hid (fun W => fin2_any b hb W)
  rw [hw] at H1
  have H2 := Lib.hid (fun W => size5_any b hb W)
  have hrv := fun A1 c1 A2 c2 W (h1 : Rd W A1 (dig (fbN b))) (h2 : Rd W A2 (dig (fbD b))) => fb_rv (c1 := c1) (c2 := c2) hF hw hN hD h1 h2
  have HRV := Lib.hid hrv
  unfold SizeP at H2
  rw [hsg] at H2
  have hpl : ∀ K, dcnt (qat N D K) = n → ∀ e s, 1 ≤ ((txt (prQ e s N D K)).take n).length ∧ ((txt (prQ e s N D K)).take n).length ≤ 1100 := by
    intro K hK e s
    have := (prQ_len (d := e) (s := s) hK h1).1
    rw [List.length_take]; omega
  have HPL := Lib.hid hpl
  have HFM := Lib.hid (fun neg (l : List UInt8) (k : Int) (a1 : 1 ≤ l.length) (a2 : l.length ≤ 1100) (k1 : -1600 ≤ k) (k2 : k ≤ 1001) W => form5_any neg l k a1 (by omega) (by omega) (by omega) W)
  have HRN := Lib.hid (fun e v W (h : IsRV (N : Int) D 100 v W) => round_any (w := W) e n hD0 h t1 t2 h1 h2)
  have HSG := Lib.hid (fun v W (h : IsRV (N : Int) D 100 v W) => rv_sign (w := W) h (by omega))
  have hsn : isgn (N : Int) = 1 := by unfold isgn; rw [if_neg (by omega), if_neg (by omega)]
  rw [hsn] at HSG
  generalize decide (9223372036854775808 ≤ b) = s at *
  have HTURN := Lib.hid (fun K => prQ_turn d s N D K)
  obtain ⟨d2, hd2⟩ : ∃ d2, (if s = true ∧ (d = 1 ∨ d = -1) then -d else d) = d2 := ⟨_, rfl⟩
  rw [hd2] at HTURN
  have HD2 := Lib.hid hd2
  clear hrv hsn hsg t1 t2 hN hD hD0 hN0 hw hF hpl hd2
  go_enter Tryz.func17, Tryz.ntmps17
  go_wp2_with fail
  refine (H1.out _).mono ?_
  rintro e w1 ⟨rfl, rfl⟩
  go_wp2_with fail
  refine (H2.out _).mono ?_
  rintro e w1 ⟨A1, c1, A2, c2, rfl, hr1, hr2, hb1⟩
  have HV := Lib.hid (HRV.out A1 c1 A2 c2 _ hr1 hr2)
  have HB := Lib.hid hb1
  obtain ⟨l1, hl1⟩ : ∃ l, (dig (fbN b)).length = l := ⟨_, rfl⟩
  obtain ⟨l2, hl2⟩ : ∃ l, (dig (fbD b)).length = l := ⟨_, rfl⟩
  rw [hl1, hl2] at HV ⊢
  clear hr1 hr2 hb1 HRV hl1 hl2 H1 H2
  have HX0 := Lib.hid (Box3.new w1 (.bool false) (.slice A1 l1 c1) (.slice A2 l2 c2))
  have HV := Lib.hid (IsRV.mono _ _ _ _ _ _ (rnew w1 (.cells #[.bool false, .slice A1 l1 c1, .slice A2 l2 c2] 70)) HV.out)
  have HB := Lib.hid (raft HB.out (rnew w1 (.cells #[.bool false, .slice A1 l1 c1, .slice A2 l2 c2] 70)))
  go_wp2_with fail
  refine (HSG.out _ _ HV.out).mono ?_
  rintro en wn ⟨vn, rfl, rfl, hb⟩
  have HV := Lib.hid (IsRV.mono _ _ _ _ _ _ hb HV.out)
  have HB := Lib.hid (raft HB.out hb)
  have HX0 := Lib.hid (HX0.out.later hb)
  clear hb HSG
  obtain ⟨p0, p1, p2⟩ := HX0.out.cells
  cases s
  · obtain rfl : d2 = d := by rw [← HD2.out]; simp
    go_wp2_with fail
    refine (HRN.out d2 _ _ HV.out).mono ?_
    rintro en wq ⟨K, k1, k2, hK, rfl, hb⟩
    have hkb : -1600 ≤ (if n < (txt (prQ (d2) false N D K)).length then K + 1 else K) ∧ (if n < (txt (prQ (d2) false N D K)).length then K + 1 else K) ≤ 1001 := by split <;> omega
    generalize hkk : (if n < (txt (prQ (d2) false N D K)).length then K + 1 else K) = kk at *
    have HKK := Lib.hid hkk
    have HK := Lib.hid hK
    have HB := Lib.hid (raft HB.out hb)
    have hpl := HPL.out K hK (d2) false
    have htn := HTURN.out K
    obtain ⟨TT, hTT⟩ : ∃ TT, (txt (prQ (d2) false N D K)).take n = TT := ⟨_, rfl⟩
    rw [hTT] at hpl ⊢
    have HF1 := Lib.hid (fun W => HFM.out false TT kk hpl.1 hpl.2 hkb.1 hkb.2 W)
    have HRES := Lib.hid (show prT d2 false N D K n = ftext false TT kk from by
      unfold prT
      rw [hTT, hkk])
    clear hkk hK hb hpl htn hTT hkb p0 p1 p2
    go_wp2_with fail
    refine (HF1.out _).mono ?_
    rintro en wf ⟨rfl, hb⟩
    have HB := Lib.hid (raft HB.out hb)
    clear hb
    go_wp2
    go_ret2
    exact ⟨K, k1, k2, HK.out, by rw [HRES.out]; rfl, HB.out⟩
  · by_cases hd : d = 1
    · subst hd
      obtain rfl : d2 = -1 := by rw [← HD2.out]; simp
      go_wp2_with fail
      refine (HRN.out (-1) _ _ HV.out).mono ?_
      rintro en wq ⟨K, k1, k2, hK, rfl, hb⟩
      have hkb : -1600 ≤ (if n < (txt (prQ (-1) false N D K)).length then K + 1 else K) ∧ (if n < (txt (prQ (-1) false N D K)).length then K + 1 else K) ≤ 1001 := by split <;> omega
      generalize hkk : (if n < (txt (prQ (-1) false N D K)).length then K + 1 else K) = kk at *
      have HKK := Lib.hid hkk
      have HK := Lib.hid hK
      have HB := Lib.hid (raft HB.out hb)
      have hpl := HPL.out K hK (-1) false
      have htn := HTURN.out K
      obtain ⟨TT, hTT⟩ : ∃ TT, (txt (prQ (-1) false N D K)).take n = TT := ⟨_, rfl⟩
      rw [hTT] at hpl ⊢
      have HF1 := Lib.hid (fun W => HFM.out true TT kk hpl.1 hpl.2 hkb.1 hkb.2 W)
      have HRES := Lib.hid (show prT 1 true N D K n = ftext true TT kk from by
        unfold prT
        rw [← HTURN.out K, hTT, hkk])
      clear hkk hK hb hpl htn hTT hkb p0 p1 p2
      go_wp2_with fail
      refine (HF1.out _).mono ?_
      rintro en wf ⟨rfl, hb⟩
      have HB := Lib.hid (raft HB.out hb)
      clear hb
      go_wp2
      go_ret2
      exact ⟨K, k1, k2, HK.out, by rw [HRES.out]; rfl, HB.out⟩
    · by_cases hd' : d = -1
      · subst hd'
        obtain rfl : d2 = 1 := by rw [← HD2.out]; simp
        go_wp2_with fail
        refine (HRN.out 1 _ _ HV.out).mono ?_
        rintro en wq ⟨K, k1, k2, hK, rfl, hb⟩
        have hkb : -1600 ≤ (if n < (txt (prQ (1) false N D K)).length then K + 1 else K) ∧ (if n < (txt (prQ (1) false N D K)).length then K + 1 else K) ≤ 1001 := by split <;> omega
        generalize hkk : (if n < (txt (prQ (1) false N D K)).length then K + 1 else K) = kk at *
        have HKK := Lib.hid hkk
        have HK := Lib.hid hK
        have HB := Lib.hid (raft HB.out hb)
        have hpl := HPL.out K hK (1) false
        have htn := HTURN.out K
        obtain ⟨TT, hTT⟩ : ∃ TT, (txt (prQ (1) false N D K)).take n = TT := ⟨_, rfl⟩
        rw [hTT] at hpl ⊢
        have HF1 := Lib.hid (fun W => HFM.out true TT kk hpl.1 hpl.2 hkb.1 hkb.2 W)
        have HRES := Lib.hid (show prT (-1) true N D K n = ftext true TT kk from by
          unfold prT
          rw [← HTURN.out K, hTT, hkk])
        clear hkk hK hb hpl htn hTT hkb p0 p1 p2
        go_wp2_with fail
        refine (HF1.out _).mono ?_
        rintro en wf ⟨rfl, hb⟩
        have HB := Lib.hid (raft HB.out hb)
        clear hb
        go_wp2
        go_ret2
        exact ⟨K, k1, k2, HK.out, by rw [HRES.out]; rfl, HB.out⟩
      · obtain rfl : d2 = d := by rw [← HD2.out, if_neg (by simp [hd, hd'])]
        have hd1 : (d2 == 1) = false := by simpa using hd
        have hd2 : (d2 == -1) = false := by simpa using hd'
        go_wp2_with fail
        refine (HRN.out d2 _ _ HV.out).mono ?_
        rintro en wq ⟨K, k1, k2, hK, rfl, hb⟩
        have hkb : -1600 ≤ (if n < (txt (prQ (d2) false N D K)).length then K + 1 else K) ∧ (if n < (txt (prQ (d2) false N D K)).length then K + 1 else K) ≤ 1001 := by split <;> omega
        generalize hkk : (if n < (txt (prQ (d2) false N D K)).length then K + 1 else K) = kk at *
        have HKK := Lib.hid hkk
        have HK := Lib.hid hK
        have HB := Lib.hid (raft HB.out hb)
        have hpl := HPL.out K hK (d2) false
        have htn := HTURN.out K
        obtain ⟨TT, hTT⟩ : ∃ TT, (txt (prQ (d2) false N D K)).take n = TT := ⟨_, rfl⟩
        rw [hTT] at hpl ⊢
        have HF1 := Lib.hid (fun W => HFM.out true TT kk hpl.1 hpl.2 hkb.1 hkb.2 W)
        have HRES := Lib.hid (show prT d2 true N D K n = ftext true TT kk from by
          unfold prT
          rw [← HTURN.out K, hTT, hkk])
        clear hkk hK hb hpl htn hTT hkb p0 p1 p2
        go_wp2_with fail
        refine (HF1.out _).mono ?_
        rintro en wf ⟨rfl, hb⟩
        have HB := Lib.hid (raft HB.out hb)
        clear hb
        go_wp2
        go_ret2
        exact ⟨K, k1, k2, HK.out, by rw [HRES.out]; rfl, HB.out⟩
/-- What the program's call of Print answers, and what the document's. -/
def PrP (d : Int) (b n : Nat) (t : List UInt8) (c : Int) : Prop := ∀ W, Pow10 W → Calls Tryz.prog 12 #[.int .i64 d, .float .f64 b, .int .i64 (n : Int)] W fun e w' => e = .returned (.tuple #[.string (bs t), .int .i64 c]) ∧ Below W.heap.size W w'
def PrD (d : Int) (b n : Nat) (t : List UInt8) (c : Int) : Prop := ∀ W, Calls Tryz.prog 17 #[.int .i64 d, .int .u64 (b : Int), .int .i64 (n : Int)] W fun e w' => e = .returned (.tuple #[.string (bs t), .int .i64 c]) ∧ Below W.heap.size W w'
theorem dprint_wrong (d : Int) (b n : Nat) (hb : b < 18446744073709551616) (h1 : 1 ≤ n) (h2 : n ≤ 1100) (h : fwrong b = true) : PrD d b n [] 1 := by
  intro w
  have H1 := Lib.hid (fun W => fin2_any b hb W)
  rw [h] at H1
  clear h hb
  go_enter Tryz.func17, Tryz.ntmps17
  go_wp2_with fail
  refine (H1.out _).mono ?_
  rintro e w1 ⟨rfl, rfl⟩
  go_wp2
  go_ret2
  exact ⟨rfl, Below.refl _ _⟩
theorem dprint_zero (d : Int) (b n : Nat) (hb : b < 18446744073709551616) (h1 : 1 ≤ n) (h2 : n ≤ 1100) (h : b = 0 ∨ b = 9223372036854775808) : PrD d b n (ftext false (List.replicate n 48) (1 - (n : Int))) 0 := by
  intro w
  have H1 := Lib.hid (fun W => fin2_any b hb W)
  have e0 : fwrong b = false := by unfold fwrong fabs; refine decide_eq_false ?_; omega
  rw [e0] at H1
  have H2 := Lib.hid (fun W => size5_any b hb W)
  unfold SizeP at H2
  have eN : fbN b = 0 := by rw [fbN_zero]; omega
  rw [eN] at H2
  have H3 := Lib.hid (fun A c B m d w h => rsign_any false A (dig 0).length c (dig 0) B m d w h rfl (by rw [dig_zero]; simp))
  have er : rsgn false (val (dig 0)) = 0 := by rw [val_dig]; rfl
  rw [er] at H3
  have HZ := Lib.hid (fun W => zeros5_any n h1 (by omega) W)
  have HF := Lib.hid (fun W => form5_any false (List.replicate n 48) (1 - (n : Int)) (by simp; omega) (by simp; omega) (by omega) (by omega) W)
  generalize bs (List.replicate n 48) = S at *
  clear h hb e0 eN er
  go_enter Tryz.func17, Tryz.ntmps17
  go_wp2_with fail
  refine (H1.out _).mono ?_
  rintro e w1 ⟨rfl, rfl⟩
  go_wp2_with fail
  refine (H2.out _).mono ?_
  rintro e w1 ⟨A1, c1, A2, c2, rfl, hR1, hR2, hb⟩
  go_wp2_with fail
  refine (H3.out _ _ _ _ _ _ (hR1.below (rnew w1 _))).mono ?_
  rintro e w2 ⟨rfl, hb2⟩
  have HW := Lib.hid (raft (raft hb (rnew w1 _)) hb2)
  clear hb hb2
  go_wp2_with fail
  refine (HZ.out _).mono ?_
  rintro e w3 ⟨rfl, hb3⟩
  have HW := Lib.hid (raft HW.out hb3)
  clear hb3
  go_wp2_with fail
  refine (HF.out _).mono ?_
  rintro e w3 ⟨rfl, hb3⟩
  have HW := Lib.hid (raft HW.out hb3)
  clear hb3
  go_wp2
  go_ret2
  exact ⟨rfl, HW.out⟩
/-- One text for both. -/
theorem pr_pair (d : Int) (b n : Nat) (hb : b < 18446744073709551616) (h1 : 1 ≤ n) (h2 : n ≤ 1100) : ∃ t c, t.length ≤ 20000 ∧ PrP d b n t c ∧ PrD d b n t c := by
  by_cases h : fwrong b = true
  · exact ⟨[], 1, by simp, fun W _ => print_bad d b n hb (.inr (.inr h)) W, dprint_wrong d b n hb h1 h2 h⟩
  · have hw : fwrong b = false := by simpa using h
    by_cases h0 : fbF b = 0
    · have hz := fbF_zero' hb h0
      refine ⟨_, 0, ?_, fun W hW => print_zero d b n hb h1 h2 hz W hW, dprint_zero d b n hb h1 h2 hz⟩
      exact Nat.le_trans (scn_lenq (scn_ftext false (List.replicate n 48) (fun z hz => by rw [List.eq_of_mem_replicate hz]; decide) (by simpa using h1) (by simp; omega) (1 - (n : Int)) (by simp; omega) (by simp; omega))) (by omega)
    · obtain ⟨N, hN⟩ : ∃ N, N = fbF b * 2 ^ ((fbE b : Int) - 1074).toNat := ⟨_, rfl⟩
      obtain ⟨D, hD⟩ : ∃ D, D = 2 ^ (-((fbE b : Int) - 1074)).toNat := ⟨_, rfl⟩
      obtain ⟨t1, t2, hD0, hN0⟩ := fin_tens h0 hw hN hD
      have hm := qat_low hD0 t1
      have hm2 : dcnt (qat N D (-336)) ≤ 672 := by
        rw [qat_le hD0]; exact t2
      obtain ⟨K, hK⟩ : ∃ K, K = -336 + ((dcnt (qat N D (-336)) : Nat) : Int) - (n : Int) := ⟨_, rfl⟩
      have hKn : dcnt (qat N D K) = n := by rw [hK]; exact qat_turn hD0 hm h1 rfl
      refine ⟨prT d (decide (9223372036854775808 ≤ b)) N D K n, 0, ?_, fun W hW => ?_, fun W => ?_⟩
      · have hl := (prQ_len (d := d) (s := decide (9223372036854775808 ≤ b)) hKn h1).1
        unfold prT
        have hkk : -1600 ≤ (if n < (txt (prQ d (decide (9223372036854775808 ≤ b)) N D K)).length then K + 1 else K) ∧ (if n < (txt (prQ d (decide (9223372036854775808 ≤ b)) N D K)).length then K + 1 else K) ≤ 1600 := by split <;> omega
        generalize (if n < (txt (prQ d (decide (9223372036854775808 ≤ b)) N D K)).length then K + 1 else K) = kk at *
        exact Nat.le_trans (scn_lenq (scn_ftext _ ((txt (prQ d (decide (9223372036854775808 ≤ b)) N D K)).take n) (fun z hz => txt_dig _ z (List.mem_of_mem_take hz)) (by rw [List.length_take]; omega) (by rw [List.length_take]; omega) kk (by rw [List.length_take]; omega) (by rw [List.length_take]; omega))) (by omega)
      · refine (print_num d b n hb h1 h2 hw h0 N D hN hD W hW).mono ?_
        rintro e w1 ⟨L, l1, l2, hL, rfl, hb1⟩
        obtain rfl : L = K := qat_one hD0 h1 hL hKn
        exact ⟨rfl, hb1⟩
      · refine (dprint_num d b n hb h1 h2 hw h0 hN hD W).mono ?_
        rintro e w1 ⟨L, l1, l2, hL, rfl, hb1⟩
        obtain rfl : L = K := qat_one hD0 h1 hL hKn
        exact ⟨rfl, hb1⟩
end Go.Proofs.YtcomkgmonhidhaaGreatDoor
end

section
namespace Go.Proofs.YtcomkgmonhidhaaGreatDoor
set_option linter.unusedVariables false
set_option linter.unusedSimpArgs false
open Go.RowKit Verge

theorem entire6_any (w : World) : Calls Tryz.prog 16 #[] w fun e w' => e = .returned (.agg #[.int .u64 18442240474082181120, .int .u64 9218868437227405312]) ∧ Below w.heap.size w w' := by
  have HB := Lib.hid (fun o => bnew w o)
  go_enter Tryz.func16, Tryz.ntmps16
  go_wp2
  refine bodyPost_ret (v := .agg #[.int .u64 18442240474082181120, .int .u64 9218868437227405312]) (by simp [results, Tryz.results16, go_sem]) rfl ?_
  exact ⟨rfl, HB.out _⟩
theorem entire_any (w : World) : Calls Tryz.prog 9 #[] w fun e w' => e = .returned (.agg #[.float .f64 18442240474082181120, .float .f64 9218868437227405312]) ∧ Below w.heap.size w w' := by
  have HB := Lib.hid (fun o => bnew w o)
  have hsf := store_f
  have I1 := Lib.hid (fun W => infp_any W)
  have I2 := Lib.hid (fun W => infm_any W)
  go_enter Tryz.func9, Tryz.ntmps9
  go_wp2_with fail
  refine (I2.out _).mono ?_
  rintro en w1 ⟨rfl, rfl⟩
  go_wp2_with fail
  refine (I1.out _).mono ?_
  rintro en w1 ⟨rfl, rfl⟩
  obtain ⟨c0, c1, f0, f1, hz⟩ := box1 (w := w) (a := .float .f64 0) (b := .float .f64 0) (t := 30) (Below.refl _ _)
  go_wp2
  refine bodyPost_ret (v := .agg #[.float .f64 18442240474082181120, .float .f64 9218868437227405312]) (by simp [results, Tryz.results9, go_sem]) rfl ?_
  exact ⟨rfl, HB.out _⟩
set_option maxHeartbeats 4000000 in
theorem in12_any (x y : Nat) (hx : x < 18446744073709551616) (hy : y < 18446744073709551616) (w : World) : Calls Tryz.prog 5 #[.agg #[.int .u64 (x : Int), .int .u64 (y : Int)]] w
    fun e w' => e = .returned (.agg #[.float .f64 x, .float .f64 y]) ∧ Below w.heap.size w w' := by
  have hsf := store_f
  have hfr := from_any
  have HB := Lib.hid (fun o o' => baft (bnew w o) (bnew (w.alloc o) o'))
  obtain ⟨c0, c1, c2, c3, f0, f1, hz⟩ := box2 (w := w) (a := .int .u64 (x : Int)) (b := .int .u64 (y : Int)) (c := .float .f64 0) (d := .float .f64 0) (t := 24) (t' := 30) (Below.refl _ _)
  go_enter Tryz.func5, Tryz.ntmps5
  go_wp2_with fail
  go_region_with fail
  all_goals
    go_wp2
    refine bodyPost_ret (v := .agg #[.float .f64 x, .float .f64 y]) (by simp [results, Tryz.results5, go_sem, c2, c3]) rfl ?_
    exact ⟨rfl, (HB.out _ _).drew⟩

theorem eqF_float {P : Program} (w : World) (d : Nat) (t : TypeId) (k k' : FloatKind) (a b : Nat) (h : P.underlying t = some (.float k')) : (Op.equalIn (d + 1) t (.float k a) (.float k b)).run P w = .ok (k.format.order a b == some .eq) w := by
  simp [Op.equalIn, run_underlying h]
  rfl
theorem fields_I : (Tryz.prog.fieldsOf 24).toList.map (fun f => (f.name, f.type, f.offset)) = [("Lo", 22, 0), ("Hi", 22, 1)] := by kernel_rfl
theorem fields_F : (Tryz.prog.fieldsOf 30).toList.map (fun f => (f.name, f.type, f.offset)) = [("Lo", 28, 0), ("Hi", 28, 1)] := by kernel_rfl
theorem part_u (W : World) (a b : Value) : (part 22 #[a, b] 0).run Tryz.prog W = .ok a W ∧ (part 22 #[a, b] 1).run Tryz.prog W = .ok b W := ⟨by kernel_rfl, by kernel_rfl⟩
theorem part_f (W : World) (a b : Value) : (part 28 #[a, b] 0).run Tryz.prog W = .ok a W ∧ (part 28 #[a, b] 1).run Tryz.prog W = .ok b W := ⟨by kernel_rfl, by kernel_rfl⟩
theorem two_fields {P : Program} {fs : List Field} {n0 n1 : String} {t : TypeId} (h : fs.map (fun f => (f.name, f.type, f.offset)) = [(n0, t, 0), (n1, t, 1)]) (h0 : n0 ≠ "_") (h1 : n1 ≠ "_") (d : Nat) (xs ys : Array Value) (a b c e : Value) (w : World) (p q : Bool)
    (ha : ∀ W, (part t xs 0).run P W = .ok a W) (hb : ∀ W, (part t xs 1).run P W = .ok b W) (hc : ∀ W, (part t ys 0).run P W = .ok c W) (he : ∀ W, (part t ys 1).run P W = .ok e W)
    (hp : ∀ W, (Op.equalIn d t a c).run P W = .ok p W) (hq : ∀ W, (Op.equalIn d t b e).run P W = .ok q W) :
    (Op.eqFields d xs ys fs).run P w = .ok (p && q) w := by
  obtain ⟨f, g, rfl⟩ : ∃ f g, fs = [f, g] := by
    rcases fs with _ | ⟨f, _ | ⟨g, _ | ⟨x, y⟩⟩⟩
    · simp at h
    · simp at h
    · exact ⟨f, g, rfl⟩
    · simp at h
  simp only [List.map_cons, List.map_nil, List.cons.injEq, Prod.mk.injEq, and_true] at h
  obtain ⟨⟨rfl, rfl, e0⟩, ⟨rfl, e1, e2⟩⟩ := h
  simp only [Op.eqFields, h0, h1, if_true, ne_eq, not_false_eq_true, Sem.run_bind, e0, e1, e2, ha, hb, hc, he, hp, hq, Result.andThen_ok, Sem.run_ite, Sem.run_pure]
  cases p <;> cases q <;> simp
theorem eqlF (a b c d : Nat) (w : World) : (binOp BinOp.eql 30 (.agg #[.float .f64 a, .float .f64 b]) (.agg #[.float .f64 c, .float .f64 d])).run Tryz.prog w = .ok (.bool ((FloatKind.f64.format.order a c == some .eq) && (FloatKind.f64.format.order b d == some .eq))) w := by
  rw [run_eql_struct, run_equalIn_struct _ _ _ _ _ (by kernel_rfl) (by kernel_rfl)]
  rw [two_fields fields_F (by decide) (by decide) _ _ _ _ _ _ _ _ _ _ (fun W => (part_f W _ _).1) (fun W => (part_f W _ _).2) (fun W => (part_f W _ _).1) (fun W => (part_f W _ _).2) (fun W => eqF_float W _ _ _ _ _ _ Tryz.underlying28) (fun W => eqF_float W _ _ _ _ _ _ Tryz.underlying28)]
  rfl
theorem eqlI (a b c d : Int) (w : World) : (binOp BinOp.eql 24 (.agg #[.int .u64 a, .int .u64 b]) (.agg #[.int .u64 c, .int .u64 d])).run Tryz.prog w = .ok (.bool ((a == c) && (b == d))) w := by
  rw [run_eql_struct, run_equalIn_struct _ _ _ _ _ (by kernel_rfl) (by kernel_rfl)]
  rw [two_fields fields_I (by decide) (by decide) _ _ _ _ _ _ _ _ _ _ (fun W => (part_u W _ _).1) (fun W => (part_u W _ _).2) (fun W => (part_u W _ _).1) (fun W => (part_u W _ _).2) (fun W => run_equalIn_int W _ _ _ _ _ _ Tryz.underlying22) (fun W => run_equalIn_int W _ _ _ _ _ _ Tryz.underlying22)]
  rfl
end Go.Proofs.YtcomkgmonhidhaaGreatDoor
end

section
namespace Go.Proofs.YtcomkgmonhidhaaGreatDoor
set_option linter.unusedVariables false
set_option linter.unusedSimpArgs false
open Go.RowKit Verge

theorem core_le (n : Nat) : core n ≤ n := by
  induction n using Nat.strongRecOn with
  | ind n ih =>
    by_cases h : 0 < n ∧ n % 10 = 0
    · rw [core_step h.1 h.2]
      exact Nat.le_trans (ih (n / 10) (by omega)) (by omega)
    · rw [core, dif_neg h]; exact Nat.le_refl _
theorem tz10_blen (n : Nat) : tz10 n ≤ blen n := by
  induction n using Nat.strongRecOn with
  | ind n ih =>
    by_cases h : 0 < n ∧ n % 10 = 0
    · rw [tz10_step h.1 h.2]
      have h1 := ih (n / 10) (by omega)
      have h2 := blen_pos (show n ≠ 0 by omega)
      have h3 : blen (n / 10) ≤ blen n - 1 := by
        rw [blen_lt]
        have h4 := (blen_lt n _).1 (Nat.le_refl _)
        have h5 : (2 : Nat) ^ blen n = 2 * 2 ^ (blen n - 1) := by rw [← Nat.pow_succ']; congr 1; omega
        omega
      omega
    · rw [tz10, dif_neg h]; exact Nat.zero_le _
theorem exT_len (b : Nat) : (exT b).length ≤ 20000 := by
  unfold exT
  by_cases h : fwrong b = true
  · rw [if_pos h]; simp
  · rw [if_neg h]
    by_cases h0 : fbF b = 0
    · rw [if_pos h0]; simp
    · rw [if_neg h0]
      obtain ⟨l1, _, l3, l4⟩ := exact_law h0 (rfl : _ = fbF b * 2 ^ ((fbE b : Int) - 1074).toNat * 5 ^ (-((fbE b : Int) - 1074)).toNat) (rfl : _ = (-((fbE b : Int) - 1074)).toNat)
      rw [← l3, ← l4]
      have hFl := fbF_blen b
      have hE : fbE b ≤ 2047 := by unfold fbE; omega
      have hK1 : (-((fbE b : Int) - 1074)).toNat ≤ 1074 := by omega
      have hX1 : ((fbE b : Int) - 1074).toNat ≤ 1000 := by omega
      generalize ((fbE b : Int) - 1074).toNat = x at *
      generalize (-((fbE b : Int) - 1074)).toNat = K at *
      generalize fbF b = F at *
      have hNb : blen (F * 2 ^ x) ≤ 53 + 1001 := by
        refine blen_mul_le hFl ?_
        rw [blen_of _ _ (Nat.le_refl _) (Nat.pow_lt_pow_right (by omega) (by omega))]; omega
      have h5b := five_blen K
      have hAb : blen (F * 2 ^ x * 5 ^ K) ≤ 9000 := by have := blen_mul_le hNb h5b; omega
      clear l3 l4
      generalize F * 2 ^ x * 5 ^ K = A at *
      have hc : (txt (core A)).length ≤ 9000 := by
        refine Nat.le_trans (txt_len _) ?_
        rw [blen_lt]
        have := (blen_lt A 9000).1 hAb
        exact Nat.lt_of_le_of_lt (core_le A) this
      have ht := tz10_blen A
      have hi := itoa_len (((txt (core A)).length : Int) - 1 + ((tz10 A : Int) - K)) (by omega) (by omega)
      unfold ftext
      generalize Lib.itoa _ = I at *
      generalize txt (core A) = D at *
      simp only [List.length_append, List.length_cons, List.length_take]
      split <;> split <;> simp <;> omega

/-- What both answer of an interval that was read. -/
def litT (lo hi : Nat) : List UInt8 :=
  if lo = 9218868437227405312 ∧ hi = 18442240474082181120 then [91, 101, 109, 112, 116, 121, 93]
  else if lo = 18442240474082181120 ∧ hi = 9218868437227405312 then [91, 101, 110, 116, 105, 114, 101, 93]
  else if lo = hi then [91] ++ exT lo ++ [93]
  else [91] ++ (if lo = 18442240474082181120 then [45, 105, 110, 102] else exT lo) ++ [44, 32] ++ (if hi = 9218868437227405312 then [105, 110, 102] else exT hi) ++ [93]

theorem ends_any (x y : Nat) (a b : List UInt8) (ha : a.length ≤ 20000) (hb : b.length ≤ 20000) (w : World) : Calls Tryz.prog 18 #[.agg #[.int .u64 (x : Int), .int .u64 (y : Int)], .string (bs a), .string (bs b)] w fun e w' => e = .returned (.string (bs ([91] ++ (if x = 18442240474082181120 then [45, 105, 110, 102] else a) ++ [44, 32] ++ (if y = 9218868437227405312 then [105, 110, 102] else b) ++ [93]))) ∧ Below w.heap.size w w' := by
  have HB := Lib.hid (fun o => bnew w o)
  have key : ∀ (c d : List UInt8), bs [91] ++ bs c ++ bs [44, 32] ++ bs d ++ bs [93] = bs ([91] ++ c ++ [44, 32] ++ d ++ [93]) := by
    intro c d; simp only [bs_append]
  rw [← key]
  have k0 : ((x : Int) == 18442240474082181120) = decide (x = 18442240474082181120) := by rw [Bool.eq_iff_iff]; simp; omega
  have k1 : ((y : Int) == 9218868437227405312) = decide (y = 9218868437227405312) := by rw [Bool.eq_iff_iff]; simp; omega
  have l0 : (bs [91]).size = 1 := rfl
  have l1 : (bs [44, 32]).size = 2 := rfl
  have l2 : (bs [93]).size = 1 := rfl
  have l3 : (bs [45, 105, 110, 102]).size = 4 := rfl
  have l4 : (bs [105, 110, 102]).size = 3 := rfl
  have e0 : ({ data := #[91] } : ByteArray) = bs [91] := rfl
  have e1 : ({ data := #[44, 32] } : ByteArray) = bs [44, 32] := rfl
  have e2 : ({ data := #[93] } : ByteArray) = bs [93] := rfl
  have e3 : ({ data := #[45, 105, 110, 102] } : ByteArray) = bs [45, 105, 110, 102] := rfl
  have e4 : ({ data := #[105, 110, 102] } : ByteArray) = bs [105, 110, 102] := rfl
  have ha2 : (bs a).size ≤ 20000 := by rw [bs_size]; exact ha
  have hb2 : (bs b).size ≤ 20000 := by rw [bs_size]; exact hb
  clear key ha hb
  by_cases hx : x = 18442240474082181120 <;> by_cases hy : y = 9218868437227405312
  all_goals
    first | rw [if_pos hx] | rw [if_neg hx]
    first | rw [if_pos hy] | rw [if_neg hy]
    first | rw [decide_eq_true hx] at k0 | rw [decide_eq_false hx] at k0
    first | rw [decide_eq_true hy] at k1 | rw [decide_eq_false hy] at k1
    clear hx hy
    go_enter Tryz.func18, Tryz.ntmps18
    go_wp2
    go_ret
    exact ⟨rfl, HB.out _⟩
end Go.Proofs.YtcomkgmonhidhaaGreatDoor
end

section
namespace Go.Proofs.YtcomkgmonhidhaaGreatDoor
set_option linter.unusedVariables false
set_option linter.unusedSimpArgs false
open Go.RowKit Verge

end Go.Proofs.YtcomkgmonhidhaaGreatDoor
end
