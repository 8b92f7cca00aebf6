/- Law 8: within and holds. -/
import Derived.Test.YtmmbbkeefphaiaaRadA
import Derived.Test.YtmmbbkeefphaiaaReachP
namespace Go.Proofs.Ytmmbbkeefphaiaa
set_option linter.unusedVariables false
set_option linter.unusedSimpArgs false
open Go.RowKit Verge

theorem numrv_is {b : Nat} {w : World} (hb : b < 18446744073709551616) : Calls Try.prog 28 #[.float .f64 b] w (Ans w (IsRV (fv b) UQ 100)) := by
  refine (ans_rat (number_any b hb w)).mono ?_
  rintro e w' ⟨v, he, hv, hbw⟩
  refine ⟨v, he, ⟨_, _, _, hv, UQ_pos, by rw [val_dig]; exact fbD_pos b, ?_, fbN_len b, fbD_len b⟩, hbw⟩
  rw [val_dig, val_dig]
  exact fb_sv b
theorem finite8_is {b : Nat} {w : World} (hb : b < 18446744073709551616) : Calls Try.prog 26 #[.float .f64 b] w (Ans w (IsV (.bool (decide (fabs b < 9218868437227405312))))) := ans_drew (finite_any b hb w)
theorem icmp_le_UQ (z y : Int) : decide (icmp (z * (UQ : Nat)) (y * (UQ : Nat)) ≤ 0) = decide (z ≤ y) :=
  decide_eq_decide.2 (icmp_le.trans (mul_le_iff UQ_pos))

set_option maxRecDepth 20000 in
set_option maxHeartbeats 8000000 in
theorem within_is {a : Int} {q k m r : Nat} {v : Value} {w : World} (hv : IsRV a q k v w) (hm : m < 18446744073709551616) (hr : r < 18446744073709551616) (hk : k ≤ 35184372088000) :
    Calls Try.prog 45 #[v, .float .f64 m, .float .f64 r] w (Ans w (IsV (.bool (decide (((a * (UQ : Nat) - fv m * (q : Nat)).natAbs : Int) ≤ fv r * (q : Nat)))))) := by
  have hq : 0 < q := by obtain ⟨_, _, _, _, h, _⟩ := hv; exact h
  obtain ⟨s, A1, n1, k1, B1, m1, z1, rfl⟩ := hv.agg
  have HB := Lib.hid (rnew w (.cells #[.bool s, .slice A1 n1 k1, .slice B1 m1 z1] 35))
  have HX := Lib.hid (Box3.new w (.bool s) (.slice A1 n1 k1) (.slice B1 m1 z1))
  have HV := Lib.hid (IsRV.mono _ _ _ _ _ _ HB.out hv)
  have HM := Lib.hid hm; have HRl := Lib.hid hr; have HK := Lib.hid hk; have HQ := Lib.hid hq
  obtain ⟨Z, hZ⟩ : ∃ Z, a * (UQ : Nat) - fv m * (q : Nat) = Z := ⟨_, rfl⟩
  rw [hZ]
  have HZ := Lib.hid hZ
  obtain ⟨an, han⟩ : ∃ b, decide ((Z.natAbs : Int) ≤ fv r * (q : Nat)) = b := ⟨_, rfl⟩
  rw [han]
  have HAN := Lib.hid han
  clear hv hm hr hk hq hZ han
  go_enter Try.func45, Try.ntmps45
  go_upto_region 1 with fail
  obtain ⟨W0, hW0⟩ : ∃ W0, w.alloc (.cells #[.bool s, .slice A1 n1 k1, .slice B1 m1 z1] 35) = W0 := ⟨_, rfl⟩
  rw [hW0] at HB HX HV ⊢
  clear hW0
  refine region_at 5 (Pick [IsV (.agg #[.bool s, .slice A1 n1 k1, .slice B1 m1 z1]), IsV (.float .f64 m), IsRV (fv m) UQ 100, IsRV Z (q * UQ) (k + 101), IsBox W0.heap.size]) (by kernel_rfl) (by kernel_rfl) (by kernel_rfl) (mono_pick ⟨IsV.mono _, IsV.mono _, IsRV.mono _ _ _, IsRV.mono _ _ _, IsBox.mono _, trivial⟩) ⟨?_, ?_, ?_, ?_, ?_, trivial⟩ ?_
  · intro a W hsz hb hS
    have h3 : a.tmps.getD 3 undef = .pointer (some ⟨w.heap.size, 0, none⟩) := hS.1
    clear hS hsz
    refine will_of rfl ?_
    obtain ⟨d0, d1, d2⟩ := (HX.out.later hb).cells
    intro K hK
    go_simp
    exact hK _ _ ⟨Below.refl _ _, rfl⟩
  · intro a W hsz hb hS
    have h1 : a.tmps.getD 1 undef = .float .f64 m := hS.1
    clear hS hsz
    refine will_of rfl ?_
    intro K hK
    go_simp
    exact hK _ _ ⟨Below.refl _ _, rfl⟩
  · intro a W hsz hb hS
    have h9 : a.tmps.getD 9 undef = .float .f64 m := hS.1
    clear hS hsz
    refine will_of rfl ?_
    obtain ⟨d0, d1, d2⟩ := (HX.out.later hb).cells
    intro K hK
    go_simp
    refine (numrv_is HM.out).mono ?_
    rintro e W' ⟨v, rfl, hv, hb'⟩
    exact hK _ _ ⟨hb', hv⟩
  · intro a W hsz hb hS
    have h8 : a.tmps.getD 8 undef = .agg #[.bool s, .slice A1 n1 k1, .slice B1 m1 z1] := hS.1
    have q10 : IsRV (fv m) UQ 100 (a.tmps.getD 10 undef) W := hS.2.1
    clear hS hsz
    obtain ⟨v10, h10⟩ : ∃ v, a.tmps.getD 10 undef = v := ⟨_, rfl⟩
    rw [h10] at q10
    refine will_of rfl ?_
    obtain ⟨d0, d1, d2⟩ := (HX.out.later hb).cells
    intro K hK
    go_simp
    refine (rv_sub' (IsRV.mono _ _ _ _ _ _ hb HV.out) q10 (by have := HK.out; omega)).mono ?_
    rintro e W' ⟨v, rfl, hv, hb'⟩
    exact hK _ _ ⟨hb', by rw [← HZ.out]; exact hv⟩
  · intro a W hsz hb hS
    clear hS hsz
    refine will_of rfl ?_
    intro K hK
    go_simp
    exact hK _ _ ⟨bnew _ _, _, rfl, Box.new _, hb.size⟩
  intro f W hb hH
  have e0 : f 0 = .agg #[.bool s, .slice A1 n1 k1, .slice B1 m1 z1] := hH.1
  have e1 : f 1 = .float .f64 m := hH.2.1
  obtain ⟨x2, y2⟩ : ∃ x, f 2 = x := ⟨_, rfl⟩
  have q2 : IsRV (fv m) UQ 100 (f 2) W := hH.2.2.1
  rw [y2] at q2
  obtain ⟨x3, y3⟩ : ∃ x, f 3 = x := ⟨_, rfl⟩
  have q3 : IsRV Z (q * UQ) (k + 101) (f 3) W := hH.2.2.2.1
  rw [y3] at q3
  obtain ⟨x4, y4⟩ : ∃ x, f 4 = x := ⟨_, rfl⟩
  have q4 : IsBox W0.heap.size (f 4) W := hH.2.2.2.2.1
  rw [y4] at q4
  simp only [List.take_succ_cons, List.take_zero, List.drop_succ_cons, List.drop_zero, putFrom, Act.put, List.setIfInBounds_toArray, List.set_cons_zero, List.set_cons_succ, Nat.reduceAdd, e0, e1, y2, y3, y4]
  clear e0 e1 y2 y3 y4 hH f
  clear q2
  obtain ⟨s5, A5, n5, c5, B5, m5, d5, rfl⟩ := q3.agg
  obtain ⟨r5, rfl, hbox, hr⟩ := q4
  have hr' := Lib.hid (Nat.le_trans HB.out.size hr)
  have HX5 := Lib.hid (Box3.put hbox (.bool s5) (.slice A5 n5 c5) (.slice B5 m5 d5))
  have Q5 := Lib.hid (q3.put hbox (.bool s5) (.slice A5 n5 c5) (.slice B5 m5 d5))
  have HB5 := Lib.hid (put3_below (raft HB.out hb) hr'.out (.bool s5) (.slice A5 n5 c5) (.slice B5 m5 d5))
  obtain ⟨o0, o1, o2, g0, g1, g2⟩ := hbox.cells
  have hlt := hbox.lt
  clear q3 hb hr hbox HB HX HV
  go_upto_region 2 with fail
  obtain ⟨W5, hW5⟩ : ∃ W5, put3 W r5 (.bool s5) (.slice A5 n5 c5) (.slice B5 m5 d5) = W5 := ⟨_, rfl⟩
  rw [hW5] at HX5 Q5 HB5
  change Code.wp _ _ _ _ (put3 W r5 (.bool s5) (.slice A5 n5 c5) (.slice B5 m5 d5))
  rw [hW5]
  clear hW5 o0 o1 o2 g0 g1 g2 hlt
  obtain ⟨c0, c1, c2⟩ := HX5.out.cells
  have Hsg := Lib.hid (rv_sign Q5.out (by have := HK.out; omega))
  obtain ⟨g, hg⟩ : ∃ g, isgn Z = g := ⟨_, rfl⟩
  have hg2 : decide (g < 0) = decide (Z < 0) := by
    rw [← hg]; unfold isgn
    by_cases h : Z < 0
    · rw [if_pos h]; simp [h]
    · rw [if_neg h]; by_cases h' : Z = 0 <;> simp [h, h']
  rw [hg] at Hsg
  obtain ⟨zb, hzb⟩ : ∃ b, decide (Z < 0) = b := ⟨_, rfl⟩
  rw [hzb] at hg2
  have HZB := Lib.hid hzb
  clear hg hzb
  go_wp2_with fail
  refine (Hsg.out).mono ?_
  rintro en w4 ⟨_, rfl, rfl, hb4⟩
  have HX4 := Lib.hid (HX5.out.later hb4)
  have H4 := Lib.hid (IsRV.mono _ _ _ _ _ _ hb4 Q5.out)
  have HB4 := Lib.hid (raft HB5.out hb4)
  clear hb4 c0 c1 c2 HX5 Q5 HB5
  obtain ⟨c0, c1, c2⟩ := HX4.out.cells
  obtain ⟨f0, f1, f2⟩ := HX4.out.frozen
  have hz := HX4.out.lt
  go_upto_if 14 with fail
  go_cut [15] from 14 to 16 (fun s15 wx => ∃ t A n c B m' d, Box3 wx r5 (.bool t) (.slice A n c) (.slice B m' d) ∧ Hid (IsRV (Z.natAbs : Nat) (q * UQ) (k + 101) (.agg #[.bool t, .slice A n c, .slice B m' d]) wx ∧ Below w.heap.size w wx))
  case first =>
    cases zb
    · have Hc := Lib.hid (of_decide_eq_false HZB.out)
      go_wp2_with fail
      go_meet
      case rel => exact ⟨s5, A5, n5, c5, B5, m5, d5, HX4.out, Lib.hid ⟨by rw [show ((Z.natAbs : Nat) : Int) = Z by have := Hc.out; omega]; exact H4.out, HB4.out⟩⟩
    · have Hc := Lib.hid (of_decide_eq_true HZB.out)
      go_wp2_with fail
      refine (rv_neg H4.out (by have := HK.out; omega)).mono ?_
      rintro en w6 ⟨v6, rfl, h6, hb6⟩
      obtain ⟨t, A6, n6, k6, D6, m6, d6, rfl⟩ := h6.agg
      have HX6 := Lib.hid (HX4.out.later hb6)
      have H6 := Lib.hid h6
      have HB6 := Lib.hid (raft HB4.out hb6)
      clear hb6 h6 c0 c1 c2 f0 f1 f2 hz
      obtain ⟨c0, c1, c2⟩ := HX6.out.cells
      obtain ⟨f0, f1, f2⟩ := HX6.out.frozen
      have hz := HX6.out.lt
      go_wp2_with fail
      go_meet
      case rel => exact ⟨t, A6, n6, k6, D6, m6, d6, HX6.out.put3 _ _ _, Lib.hid ⟨by rw [show ((Z.natAbs : Nat) : Int) = -Z by have := Hc.out; omega]; exact H6.out.put3b HX6.out _ _ _, put3_below HB6.out hr'.out _ _ _⟩⟩
  case rest =>
    obtain ⟨t, A7, n7, k7, D7, m7, d7, hX, hH⟩ := hcut
    have HX7 := Lib.hid hX
    clear hX c0 c1 c2 f0 f1 f2 hz
    go_upto_region 4 with fail
    refine region_at 6 (Pick [IsV (.agg #[.bool t, .slice A7 n7 k7, .slice D7 m7 d7]), IsV (.float .f64 r), IsRV (fv r) UQ 100, (fun v _ => ∃ g : Int, v = .int .i64 g ∧ decide (g ≤ 0) = an), IsV (.bool an), IsV (.bool an)]) (by kernel_rfl) (by kernel_rfl) (by kernel_rfl) (mono_pick ⟨IsV.mono _, IsV.mono _, IsRV.mono _ _ _, (fun _ _ _ _ h => h), IsV.mono _, IsV.mono _, trivial⟩) ⟨?_, ?_, ?_, ?_, ?_, ?_, trivial⟩ ?_
    · intro a W hsz hb hS
      have h7 : a.tmps.getD 7 undef = .pointer (some ⟨r5, 0, none⟩) := hS.1
      clear hS hsz
      refine will_of rfl ?_
      obtain ⟨d0, d1, d2⟩ := (HX7.out.later hb).cells
      intro K hK
      go_simp
      exact hK _ _ ⟨Below.refl _ _, rfl⟩
    · intro a W hsz hb hS
      have h2 : a.tmps.getD 2 undef = .float .f64 r := hS.1
      clear hS hsz
      refine will_of rfl ?_
      intro K hK
      go_simp
      exact hK _ _ ⟨Below.refl _ _, rfl⟩
    · intro a W hsz hb hS
      have h18 : a.tmps.getD 18 undef = .float .f64 r := hS.1
      clear hS hsz
      refine will_of rfl ?_
      obtain ⟨d0, d1, d2⟩ := (HX7.out.later hb).cells
      intro K hK
      go_simp
      refine (numrv_is HRl.out).mono ?_
      rintro e W' ⟨v, rfl, hv, hb'⟩
      exact hK _ _ ⟨hb', hv⟩
    · intro a W hsz hb hS
      have h17 : a.tmps.getD 17 undef = .agg #[.bool t, .slice A7 n7 k7, .slice D7 m7 d7] := hS.1
      have q19 : IsRV (fv r) UQ 100 (a.tmps.getD 19 undef) W := hS.2.1
      clear hS hsz
      obtain ⟨v19, h19⟩ : ∃ v, a.tmps.getD 19 undef = v := ⟨_, rfl⟩
      rw [h19] at q19
      refine will_of rfl ?_
      obtain ⟨d0, d1, d2⟩ := (HX7.out.later hb).cells
      intro K hK
      go_simp
      refine (rv_cmp' (IsRV.mono _ _ _ _ _ _ hb hH.out.1) q19 (by have := HK.out; omega)).mono ?_
      rintro e W' ⟨v, rfl, hv, hb'⟩
      refine hK _ _ ⟨hb', _, hv, ?_⟩
      rw [show (fv r : Int) * ((q * UQ : Nat) : Int) = fv r * (q : Nat) * (UQ : Nat) by rw [Int.natCast_mul, Int.mul_assoc], icmp_le_UQ]
      exact HAN.out
    · intro a W hsz hb hS
      have q20 : (fun v _ => ∃ g : Int, v = .int .i64 g ∧ decide (g ≤ 0) = an) (a.tmps.getD 20 undef) W := hS.1
      clear hS hsz
      obtain ⟨v20, h20⟩ : ∃ v, a.tmps.getD 20 undef = v := ⟨_, rfl⟩
      rw [h20] at q20
      refine will_of rfl ?_
      intro K hK
      obtain ⟨g, rfl, hg⟩ := q20
      go_simp
      exact hK _ _ ⟨Below.refl _ _, rfl⟩
    · intro a W hsz hb hS
      have h21 : a.tmps.getD 21 undef = .bool an := hS.1
      clear hS hsz
      refine will_of rfl ?_
      intro K hK
      go_simp
      exact hK _ _ ⟨Below.refl _ _, rfl⟩
    intro f W hb hH
    have e0 : f 0 = .agg #[.bool t, .slice A7 n7 k7, .slice D7 m7 d7] := hH.1
    have e1 : f 1 = .float .f64 r := hH.2.1
    obtain ⟨x2, y2⟩ : ∃ x, f 2 = x := ⟨_, rfl⟩
    have q2 : IsRV (fv r) UQ 100 (f 2) W := hH.2.2.1
    rw [y2] at q2
    obtain ⟨x3, y3⟩ : ∃ x, f 3 = x := ⟨_, rfl⟩
    have q3 : (fun v _ => ∃ g : Int, v = .int .i64 g ∧ decide (g ≤ 0) = an) (f 3) W := hH.2.2.2.1
    rw [y3] at q3
    have e4 : f 4 = .bool an := hH.2.2.2.2.1
    have e5 : f 5 = .bool an := hH.2.2.2.2.2.1
    simp only [List.take_succ_cons, List.take_zero, List.drop_succ_cons, List.drop_zero, putFrom, Act.put, List.setIfInBounds_toArray, List.set_cons_zero, List.set_cons_succ, Nat.reduceAdd, e0, e1, y2, y3, e4, e5]
    clear e0 e1 y2 y3 e4 e5 hH f
    have HW := Lib.hid (raft hH.out.2 hb)
    clear hb q2 q3
    go_wp2
    go_ret
    exact ⟨_, rfl, rfl, HW.out⟩
/-- Whether an end lies within. -/
def cin (p m r : Nat) : Bool := decide (((fv p - fv m).natAbs : Int) ≤ fv r)
theorem cin_eq (p m r : Nat) : decide (((fv p * (UQ : Nat) - fv m * (UQ : Nat)).natAbs : Int) ≤ fv r * (UQ : Nat)) = cin p m r := by
  unfold cin
  refine decide_eq_decide.2 ?_
  rw [← Int.sub_mul, Int.natAbs_mul, Int.natAbs_natCast, Int.natCast_mul]
  exact mul_le_iff UQ_pos
set_option maxRecDepth 20000 in
set_option maxHeartbeats 4000000 in
theorem holds8_is {p q m r : Nat} {w : World} (hp : p < 18446744073709551616) (hq : q < 18446744073709551616) (hm : m < 18446744073709551616) (hr : r < 18446744073709551616) :
    Calls Try.prog 44 #[.agg #[.int .u64 (p : Int), .int .u64 (q : Int)], .float .f64 m, .float .f64 r] w (Ans w (IsV (.bool (cin p m r && cin q m r)))) := by
  have F1 := Lib.hid (fun W => rvbits_is (w := W) hp)
  have F2 := Lib.hid (fun W => rvbits_is (w := W) hq)
  have HW1 : Hid (∀ (v : Value) W, IsRV (fv p) UQ 100 v W → Calls Try.prog 45 #[v, .float .f64 m, .float .f64 r] W (Ans W (IsV (.bool (cin p m r))))) := Lib.hid (fun v W h => by rw [← cin_eq]; exact within_is h hm hr (by omega))
  have HW2 : Hid (∀ (v : Value) W, IsRV (fv q) UQ 100 v W → Calls Try.prog 45 #[v, .float .f64 m, .float .f64 r] W (Ans W (IsV (.bool (cin q m r))))) := Lib.hid (fun v W h => by rw [← cin_eq]; exact within_is h hm hr (by omega))
  obtain ⟨a, ha⟩ : ∃ b, cin p m r = b := ⟨_, rfl⟩
  obtain ⟨b, hb⟩ : ∃ b, cin q m r = b := ⟨_, rfl⟩
  rw [ha] at HW1 ⊢
  rw [hb] at HW2 ⊢
  have hI := Lib.hid (BI.new w (.int .u64 (p : Int)) (.int .u64 (q : Int)))
  have HB := Lib.hid (rnew w (.cells #[.int .u64 (p : Int), .int .u64 (q : Int)] 24))
  clear ha hb hp hq hm hr
  go_enter Try.func44, Try.ntmps44
  go_wp2_with fail
  refine (F1.out _).mono ?_
  rintro en w1 ⟨v1, rfl, h1, hb⟩
  have hI := Lib.hid (hI.out.later hb)
  have HB := Lib.hid (raft HB.out hb)
  have H1 := Lib.hid h1
  clear hb h1
  go_wp2_with fail
  refine (HW1.out _ _ H1.out).mono ?_
  rintro en w2 ⟨_, rfl, rfl, hb⟩
  have hI := Lib.hid (hI.out.later hb)
  have HB := Lib.hid (raft HB.out hb)
  clear hb
  obtain ⟨c0, c1⟩ := hI.out.cells
  cases a
  · go_wp2
    go_ret
    exact ⟨_, rfl, rfl, HB.out⟩
  · go_wp2_with fail
    refine (F2.out _).mono ?_
    rintro en w3 ⟨v3, rfl, h3, hb⟩
    have HB := Lib.hid (raft HB.out hb)
    have H3 := Lib.hid h3
    clear hb h3 c0 c1
    go_wp2_with fail
    refine (HW2.out _ _ H3.out).mono ?_
    rintro en w4 ⟨_, rfl, rfl, hb⟩
    have HB := Lib.hid (raft HB.out hb)
    clear hb
    go_wp2
    go_ret
    exact ⟨_, rfl, rfl, HB.out⟩
end Go.Proofs.Ytmmbbkeefphaiaa
