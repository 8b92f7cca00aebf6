/- Neg of an interval, by the document. -/
import Derived.Test.YtmmbbkeefphaiaaMirA
namespace Go.Proofs.Ytmmbbkeefphaiaa
set_option linter.unusedVariables false
set_option linter.unusedSimpArgs false
open Go.RowKit Verge

/-- A bound's number, in units: 0 of an infinity. -/
def eV (x : Nat) : Int := if x = 9218868437227405312 then 0 else if x = 18442240474082181120 then 0 else fv x
theorem bnd_rv {x : Nat} {A1 A2 : Option Addr} {c1 c2 : Nat} {w : World} (h1 : Rd w A1 (dig (bN x))) (h2 : Rd w A2 (dig (bD x))) : IsRV (eV x) UQ 100 (.agg #[.bool (bS x), .slice A1 (dig (bN x)).length c1, .slice A2 (dig (bD x)).length c2]) w := by
  refine ⟨bS x, _, _, ⟨_, _, rfl, ⟨A1, c1, rfl, h1⟩, ⟨A2, c2, rfl, h2⟩⟩, UQ_pos, ?_, ?_, bN_len x, bD_len x⟩
  · rw [val_dig]; unfold bD; split
    · omega
    · split
      · omega
      · exact fbD_pos x
  · rw [val_dig, val_dig]
    unfold bS bN bD eV
    split
    · unfold sv; simp
    · split
      · unfold sv; simp
      · have h := fb_val x KU rfl
        have hI : ((fbN x : Nat) : Int) * (UQ : Nat) = (FV (x % 9223372036854775808) : Nat) * (fbD x : Nat) := by rw [UQ_eq]; exact_mod_cast h
        unfold fv sv
        by_cases h1 : 9223372036854775808 ≤ x
        · rw [if_pos h1]
          by_cases h2 : x = 9223372036854775808
          · subst h2
            have h0 : FV (9223372036854775808 % 9223372036854775808) = 0 := rfl
            rw [h0] at hI ⊢
            simpa using hI
          · rw [decide_eq_true (show 9223372036854775808 < x by omega), if_pos rfl, Int.neg_mul, Int.neg_mul, hI]
        · rw [if_neg h1, decide_eq_false (show ¬ 9223372036854775808 < x by omega)]
          exact hI
theorem ofs_is {p q : Nat} (h : Ends p q) (w : World) : Calls Try.prog 62 #[.agg #[.int .u64 (p : Int), .int .u64 (q : Int)]] w (Ans w (IsS false (bI p) (eV p) (bI q) (eV q) UQ 100)) := by
  have hh := of_any p q h.1 h.2.1 h.again.1 w
  rw [h.again.2.1, h.again.2.2] at hh
  refine hh.mono ?_
  rintro e w' ⟨A1, c1, A2, c2, A3, c3, A4, c4, rfl, r1, r2, r3, r4, hb⟩
  exact ⟨_, rfl, ⟨_, _, _, _, _, _, _, _, _, _, _, _, _, _, rfl, bnd_rv r1 r2, bnd_rv r3 r4⟩, hb⟩
theorem bI_bd (x : Nat) : -1 ≤ bI x ∧ bI x ≤ 1 := by unfold bI; split <;> (try split) <;> omega
theorem least_lo {q : Nat} (hq : Pt q) (hm : q ≠ 18442240474082181120) : (if -bI q = 0 then rat3 (-1) (-eV q) UQ KU else 18442240474082181120) = mneg q := by
  have iq := mneg_inf hq
  by_cases c : q = 9218868437227405312
  · rw [iq.1.2 c]; subst c; rfl
  · have e1 : bI q = 0 := by unfold bI; rw [if_neg c, if_neg hm]
    have e2 : eV q = fv q := by unfold eV; rw [if_neg c, if_neg hm]
    rw [e1, e2, if_pos (show (-(0 : Int)) = 0 from rfl), ← fv_mneg hq]
    exact rat_exact _ (mneg_fin (fin_of hq.1 hq.2.1 c hm) hq) (mneg_pt hq).2.2
theorem least_hi {p : Nat} (hp : Pt p) (hm : p ≠ 9218868437227405312) : (if -bI p = 0 then rat3 1 (-eV p) UQ KU else 9218868437227405312) = mneg p := by
  have ip := mneg_inf hp
  by_cases c : p = 18442240474082181120
  · rw [ip.2.2 c]; subst c; rfl
  · have e1 : bI p = 0 := by unfold bI; rw [if_neg hm, if_neg c]
    have e2 : eV p = fv p := by unfold eV; rw [if_neg hm, if_neg c]
    rw [e1, e2, if_pos (show (-(0 : Int)) = 0 from rfl), ← fv_mneg hp]
    exact rat_exact _ (mneg_fin (fin_of hp.1 hp.2.1 hm c) hp) (mneg_pt hp).2.2

set_option maxRecDepth 20000 in
set_option maxHeartbeats 4000000 in
theorem neg6_any {p q : Nat} (h : Ends p q) (w : World) : Calls Try.prog 50 #[.agg #[.int .u64 (p : Int), .int .u64 (q : Int)]] w fun e w' => e = .returned (.agg #[.int .u64 (mneg q : Nat), .int .u64 (mneg p : Nat)]) ∧ Below w.heap.size w w' := by
  have HO := Lib.hid (fun W => ofs_is h W)
  have l1 := least_lo h.pts.2 h.2.2.2.2.2.1
  have l2 := least_hi h.pts.1 h.2.2.2.2.1
  have HLS := Lib.hid (And.intro l1 l2)
  obtain ⟨a1, a2⟩ := bI_bd p
  obtain ⟨a3, a4⟩ := bI_bd q
  obtain ⟨i, hi⟩ : ∃ i, bI p = i := ⟨_, rfl⟩
  obtain ⟨j, hj⟩ : ∃ j, bI q = j := ⟨_, rfl⟩
  obtain ⟨u, hu⟩ : ∃ u, eV p = u := ⟨_, rfl⟩
  obtain ⟨v, hv⟩ : ∃ v, eV q = v := ⟨_, rfl⟩
  obtain ⟨m, hm⟩ : ∃ m, mneg q = m := ⟨_, rfl⟩
  obtain ⟨n, hn⟩ : ∃ n, mneg p = n := ⟨_, rfl⟩
  simp only [hi, hj, hu, hv, hm, hn] at HO HLS a1 a2 a3 a4 ⊢
  have HA := Lib.hid (And.intro (And.intro a1 a2) (And.intro a3 a4))
  clear hi hj hu hv hm hn l1 l2 h a1 a2 a3 a4
  have HB := Lib.hid (baft (bnew w (.cells #[.int .u64 (p : Int), .int .u64 (q : Int)] 24)) (bnew _ (.cells #[.int .u64 0, .int .u64 0] 24)))
  have HZ := BI.new (w.alloc (.cells #[.int .u64 (p : Int), .int .u64 (q : Int)] 24)) (.int .u64 0) (.int .u64 0)
  rw [size_alloc1] at HZ
  have HZ := Lib.hid HZ
  go_enter Try.func50, Try.ntmps50
  go_wp2_with fail
  refine (HO.out _).mono ?_
  rintro en w1 ⟨_, rfl, ⟨s1, A1, n1, c1, B1, m1, d1, t1, A2, n2, c2, B2, m2, d2, rfl, hv1, hv2⟩, hb⟩
  have HB := Lib.hid (baft HB.out hb)
  have HZ := Lib.hid (HZ.out.later hb)
  have HV := Lib.hid (And.intro hv1 hv2)
  clear hb hv1 hv2
  go_wp2_with fail
  refine (minus6_is HA.out.1.1 HA.out.1.2 HA.out.2.1 HA.out.2.2 HV.out.1 HV.out.2 (by omega)).mono ?_
  rintro en w2 ⟨_, rfl, ⟨s3, A3, n3, c3, B3, m3, d3, t3, A4, n4, c4, B4, m4, d4, rfl, hv1, hv2⟩, hb⟩
  have HB := Lib.hid (baft HB.out hb)
  have HZ := Lib.hid (HZ.out.later hb)
  have HV := Lib.hid (And.intro hv1 hv2)
  clear hb hv1 hv2
  go_wp2_with fail
  refine (least_is HV.out.1 HV.out.2 (by omega)).mono ?_
  rw [HLS.out.1, HLS.out.2]
  rintro en w3 ⟨_, rfl, rfl, hb⟩
  have HB := Lib.hid (baft HB.out hb)
  have HZ := Lib.hid (HZ.out.later hb)
  clear hb
  obtain ⟨z0, z1⟩ := HZ.out.cells
  obtain ⟨f0, f1⟩ := HZ.out.frozen
  go_wp2
  refine bodyPost_ret (v := .agg #[.int .u64 (m : Int), .int .u64 (n : Int)]) (by simp [results, Try.results50, go_sem, z0, z1]) rfl ?_
  exact ⟨rfl, (HB.out.setCell (Nat.le_succ _) _).setCell (Nat.le_succ _) _⟩

/-- The number 0 as a bound. -/
theorem finite0_is (w : World) : Calls Try.prog 93 #[.int .i64 0] w (Ans w (IsE 0 0 1 2)) := by
  have HB := Lib.hid (rnew w (.cells #[.int .i64 0, .bool false, .slice none 0 0, .slice none 0 0] 68))
  have HZ := Lib.hid (Box4.new w (.int .i64 0) (.bool false) (.slice none 0 0) (.slice none 0 0))
  go_enter Try.func93, Try.ntmps93
  go_wp2_with fail
  refine (rvint_is 0 (by omega)).mono ?_
  rintro en w1 ⟨v, rfl, hv, hb⟩
  obtain ⟨s, A, n, c, B, m, d, rfl⟩ := hv.agg
  have HV := Lib.hid hv
  have HB := Lib.hid (raft HB.out hb)
  have HZ := Lib.hid (HZ.out.later hb)
  clear hv hb
  obtain ⟨b0, b1, b2, b3, f0, f1, f2, f3⟩ := HZ.out.cells
  go_wp2
  refine bodyPost_ret (v := .agg #[.int .i64 0, .bool s, .slice A n c, .slice B m d]) (by simp [results, Try.results93, go_sem, b0, b1, b2, b3]) rfl ?_
  exact ⟨_, rfl, ⟨_, _, _, _, _, _, _, rfl, HV.out.put4 HZ.out.no _ _ _ _⟩, put4_below HB.out (Nat.le_refl _) _ _ _ _⟩
/-- A set that says it is empty. -/
def IsN9 (v : Value) (w : World) : Prop := ∃ i s A n c B m d j t A2 n2 c2 B2 m2 d2, v = .agg #[.bool true, .int .i64 i, .bool s, .slice A n c, .slice B m d, .int .i64 j, .bool t, .slice A2 n2 c2, .slice B2 m2 d2]

set_option maxRecDepth 20000 in
set_option maxHeartbeats 4000000 in
theorem ofv_is (w : World) : Calls Try.prog 62 #[.agg #[.int .u64 9218868437227405312, .int .u64 18442240474082181120]] w (Ans w IsN9) := by
  have HR := Lib.hid (fun W => read6_any 9218868437227405312 18442240474082181120 (by omega) (by omega) W)
  have e1 : flo 9218868437227405312 18442240474082181120 = 9218868437227405312 := by decide
  have e2 : fhi 9218868437227405312 18442240474082181120 = 18442240474082181120 := by decide
  rw [e1, e2] at HR
  clear e1 e2
  have HB := Lib.hid (raft (rnew w (.cells #[.int .u64 9218868437227405312, .int .u64 18442240474082181120] 24)) (rnew _ (.cells #[.bool false, .int .i64 0, .bool false, .slice none 0 0, .slice none 0 0, .int .i64 0, .bool false, .slice none 0 0, .slice none 0 0] 70)))
  have HZ : Box9z _ _ := Box9.new (w.alloc (.cells #[.int .u64 9218868437227405312, .int .u64 18442240474082181120] 24)) (.bool false) (.int .i64 0) (.bool false) (.slice none 0 0) (.slice none 0 0) (.int .i64 0) (.bool false) (.slice none 0 0) (.slice none 0 0)
  rw [size_alloc1] at HZ
  have HZ := Lib.hid HZ
  go_enter Try.func62, Try.ntmps62
  go_wp2_with fail
  refine (HR.out _).mono ?_
  rintro en w1 ⟨rfl, hb⟩
  have hn := rnew w1 (.cells #[.int .u64 ((9218868437227405312 : Nat) : Int), .int .u64 ((18442240474082181120 : Nat) : Int)] 24)
  have HB := Lib.hid (raft HB.out (raft hb hn))
  have HZ := Lib.hid (Box9.later HZ.out (raft hb hn))
  have HI := Lib.hid (BI.new w1 (.int .u64 ((9218868437227405312 : Nat) : Int)) (.int .u64 ((18442240474082181120 : Nat) : Int)))
  clear hb hn
  go_upto_region 2 with fail
  refine region_at 3 (Pick [IsV (.agg #[.int .u64 ((9218868437227405312 : Nat) : Int), .int .u64 ((18442240474082181120 : Nat) : Int)]), IsV (.agg #[.int .u64 9218868437227405312, .int .u64 18442240474082181120]), IsV (.bool true)]) (by kernel_rfl) (by kernel_rfl) (by kernel_rfl) (mono_pick ⟨IsV.mono _, IsV.mono _, IsV.mono _, trivial⟩) ⟨?_, ?_, ?_, trivial⟩ ?_
  · intro a W hsz hb hS
    have h3 : a.tmps.getD 3 undef = .pointer (some ⟨w1.heap.size, 0, none⟩) := hS.1
    clear hS hsz
    refine will_of rfl ?_
    obtain ⟨d0, d1⟩ := (HI.out.later hb).cells
    intro K hK
    go_simp
    exact hK _ _ ⟨Below.refl _ _, rfl⟩
  · intro a W hsz hb hS
    clear hS hsz
    refine will_of rfl ?_
    obtain ⟨d0, d1⟩ := (HI.out.later hb).cells
    intro K hK
    go_simp
    refine (empty6_any _).mono ?_
    rintro e W' ⟨rfl, hb'⟩
    exact hK _ _ ⟨hb', rfl⟩
  · intro a W hsz hb hS
    have h6 : a.tmps.getD 6 undef = .agg #[.int .u64 ((9218868437227405312 : Nat) : Int), .int .u64 ((18442240474082181120 : Nat) : Int)] := hS.1
    have h7 : a.tmps.getD 7 undef = .agg #[.int .u64 9218868437227405312, .int .u64 18442240474082181120] := hS.2.1
    clear hS hsz
    refine will_of rfl ?_
    intro K hK
    go_simp
    exact hK _ _ ⟨Below.refl _ _, rfl⟩
  intro f W hb hH
  have e0 : f 0 = .agg #[.int .u64 ((9218868437227405312 : Nat) : Int), .int .u64 ((18442240474082181120 : Nat) : Int)] := hH.1
  have e1 : f 1 = .agg #[.int .u64 9218868437227405312, .int .u64 18442240474082181120] := hH.2.1
  have e2 : f 2 = .bool true := hH.2.2.1
  simp only [List.take_succ_cons, List.take_zero, List.drop_succ_cons, List.drop_zero, putFrom, Act.put, List.setIfInBounds_toArray, List.set_cons_zero, List.set_cons_succ, Nat.reduceAdd, e0, e1, e2]
  clear e0 e1 e2 hH f
  have HB := Lib.hid (raft HB.out hb)
  have HZ := Lib.hid (Box9.later HZ.out hb)
  clear hb HI
  go_wp2_with fail
  refine (finite0_is _).mono ?_
  rintro en w2 ⟨_, rfl, ⟨s1, A1, n1, c1, B1, m1, d1, rfl, _⟩, hb⟩
  have HB := Lib.hid (raft HB.out hb)
  have HZ := Lib.hid (Box9.later HZ.out hb)
  clear hb
  go_wp2_with fail
  refine (finite0_is _).mono ?_
  rintro en w3 ⟨_, rfl, ⟨s2, A2, n2, c2, B2, m2, d2, rfl, _⟩, hb⟩
  have HB := Lib.hid (raft HB.out hb)
  have HZ := Lib.hid (Box9.later HZ.out hb)
  clear hb
  obtain ⟨b0, b1, b2, b3, b4, b5, b6, b7, b8⟩ := HZ.out.cells
  obtain ⟨f0, f1, f2, f3, f4, f5, f6, f7, f8⟩ := HZ.out.frozen
  go_wp2
  refine bodyPost_ret (v := .agg #[.bool true, .int .i64 0, .bool s1, .slice A1 n1 c1, .slice B1 m1 d1, .int .i64 0, .bool s2, .slice A2 n2 c2, .slice B2 m2 d2]) (by simp [results, Try.results62, go_sem, b0, b1, b2, b3, b4, b5, b6, b7, b8]) rfl ?_
  exact ⟨_, rfl, ⟨_, _, _, _, _, _, _, _, _, _, _, _, _, _, _, _, rfl⟩, put9_below HB.out (Nat.le_succ _) _ _ _ _ _ _ _ _ _⟩
set_option maxRecDepth 20000 in
set_option maxHeartbeats 4000000 in
theorem minusv_is {i j : Int} {s : Bool} {A : Option Addr} {n c : Nat} {B : Option Addr} {m d : Nat} {t : Bool} {A2 : Option Addr} {n2 c2 : Nat} {B2 : Option Addr} {m2 d2 : Nat} (w : World) : Calls Try.prog 88 #[.agg #[.bool true, .int .i64 i, .bool s, .slice A n c, .slice B m d, .int .i64 j, .bool t, .slice A2 n2 c2, .slice B2 m2 d2]] w (Ans w (IsV (.agg #[.bool true, .int .i64 i, .bool s, .slice A n c, .slice B m d, .int .i64 j, .bool t, .slice A2 n2 c2, .slice B2 m2 d2]))) := by
  have HB := Lib.hid (raft (rnew w (.cells #[.bool true, .int .i64 i, .bool s, .slice A n c, .slice B m d, .int .i64 j, .bool t, .slice A2 n2 c2, .slice B2 m2 d2] 70)) (rnew _ (.cells #[.bool false, .int .i64 0, .bool false, .slice none 0 0, .slice none 0 0, .int .i64 0, .bool false, .slice none 0 0, .slice none 0 0] 70)))
  have HC := Lib.hid ((Box9.new w (.bool true) (.int .i64 i) (.bool s) (.slice A n c) (.slice B m d) (.int .i64 j) (.bool t) (.slice A2 n2 c2) (.slice B2 m2 d2)).later (rnew _ (.cells #[.bool false, .int .i64 0, .bool false, .slice none 0 0, .slice none 0 0, .int .i64 0, .bool false, .slice none 0 0, .slice none 0 0] 70)))
  have HZ : Box9z _ _ := Box9.new (w.alloc (.cells #[.bool true, .int .i64 i, .bool s, .slice A n c, .slice B m d, .int .i64 j, .bool t, .slice A2 n2 c2, .slice B2 m2 d2] 70)) (.bool false) (.int .i64 0) (.bool false) (.slice none 0 0) (.slice none 0 0) (.int .i64 0) (.bool false) (.slice none 0 0) (.slice none 0 0)
  rw [size_alloc1] at HZ
  have HZ := Lib.hid HZ
  go_enter Try.func88, Try.ntmps88
  go_upto_region 1 with fail
  obtain ⟨W, hW⟩ : ∃ W, (w.alloc (.cells #[.bool true, .int .i64 i, .bool s, .slice A n c, .slice B m d, .int .i64 j, .bool t, .slice A2 n2 c2, .slice B2 m2 d2] 70)).alloc (.cells #[.bool false, .int .i64 0, .bool false, .slice none 0 0, .slice none 0 0, .int .i64 0, .bool false, .slice none 0 0, .slice none 0 0] 70) = W := ⟨_, rfl⟩
  rw [hW] at HB HC HZ
  rw [hW]
  clear hW
  obtain ⟨a0, a1, a2, a3, a4, a5, a6, a7, a8⟩ := HC.out.cells
  obtain ⟨b0, b1, b2, b3, b4, b5, b6, b7, b8⟩ := HZ.out.cells
  obtain ⟨f0, f1, f2, f3, f4, f5, f6, f7, f8⟩ := HZ.out.frozen
  have HC' := HC
  clear HC
  go_wp2
  refine bodyPost_ret (v := .agg #[.bool true, .int .i64 i, .bool s, .slice A n c, .slice B m d, .int .i64 j, .bool t, .slice A2 n2 c2, .slice B2 m2 d2]) (by simp [results, Try.results88, go_sem, b0, b1, b2, b3, b4, b5, b6, b7, b8]) rfl ?_
  exact ⟨_, rfl, rfl, put9_below HB.out (Nat.le_succ _) _ _ _ _ _ _ _ _ _⟩
set_option maxRecDepth 20000 in
set_option maxHeartbeats 4000000 in
theorem leastv_is {i j : Int} {s : Bool} {A : Option Addr} {n c : Nat} {B : Option Addr} {m d : Nat} {t : Bool} {A2 : Option Addr} {n2 c2 : Nat} {B2 : Option Addr} {m2 d2 : Nat} (w : World) : Calls Try.prog 87 #[.agg #[.bool true, .int .i64 i, .bool s, .slice A n c, .slice B m d, .int .i64 j, .bool t, .slice A2 n2 c2, .slice B2 m2 d2]] w (Ans w (IsV (.agg #[.int .u64 9218868437227405312, .int .u64 18442240474082181120]))) := by
  have HB := Lib.hid (raft (rnew w (.cells #[.bool true, .int .i64 i, .bool s, .slice A n c, .slice B m d, .int .i64 j, .bool t, .slice A2 n2 c2, .slice B2 m2 d2] 70)) (rnew _ (.cells #[.int .u64 0, .int .u64 0] 24)))
  have HC := Lib.hid ((Box9.new w (.bool true) (.int .i64 i) (.bool s) (.slice A n c) (.slice B m d) (.int .i64 j) (.bool t) (.slice A2 n2 c2) (.slice B2 m2 d2)).later (rnew _ (.cells #[.int .u64 0, .int .u64 0] 24)))
  have HZ := BI.new (w.alloc (.cells #[.bool true, .int .i64 i, .bool s, .slice A n c, .slice B m d, .int .i64 j, .bool t, .slice A2 n2 c2, .slice B2 m2 d2] 70)) (.int .u64 0) (.int .u64 0)
  rw [size_alloc1] at HZ
  have HZ := Lib.hid HZ
  go_enter Try.func87, Try.ntmps87
  obtain ⟨a0, a1, a2, a3, a4, a5, a6, a7, a8⟩ := HC.out.cells
  go_wp2_with fail
  refine (empty6_any _).mono ?_
  rintro en w1 ⟨rfl, hb⟩
  have HB := Lib.hid (raft HB.out hb)
  have HZ := Lib.hid (HZ.out.later hb)
  clear hb HC a0 a1 a2 a3 a4 a5 a6 a7 a8
  obtain ⟨z0, z1⟩ := HZ.out.cells
  obtain ⟨f0, f1⟩ := HZ.out.frozen
  go_wp2
  refine bodyPost_ret (v := .agg #[.int .u64 9218868437227405312, .int .u64 18442240474082181120]) (by simp [results, Try.results87, go_sem, z0, z1]) rfl ?_
  exact ⟨_, rfl, rfl, (HB.out.setCell (Nat.le_succ _) _).setCell (Nat.le_succ _) _⟩
theorem neg6_void (w : World) : Calls Try.prog 50 #[.agg #[.int .u64 9218868437227405312, .int .u64 18442240474082181120]] w fun e w' => e = .returned (.agg #[.int .u64 9218868437227405312, .int .u64 18442240474082181120]) ∧ Below w.heap.size w w' := by
  have HB := Lib.hid (baft (bnew w (.cells #[.int .u64 9218868437227405312, .int .u64 18442240474082181120] 24)) (bnew _ (.cells #[.int .u64 0, .int .u64 0] 24)))
  have HZ := BI.new (w.alloc (.cells #[.int .u64 9218868437227405312, .int .u64 18442240474082181120] 24)) (.int .u64 0) (.int .u64 0)
  rw [size_alloc1] at HZ
  have HZ := Lib.hid HZ
  go_enter Try.func50, Try.ntmps50
  go_wp2_with fail
  refine (ofv_is _).mono ?_
  rintro en w1 ⟨_, rfl, ⟨i, s, A, n, c, B, m, d, j, t, A2, n2, c2, B2, m2, d2, rfl⟩, hb⟩
  have HB := Lib.hid (baft HB.out hb)
  have HZ := Lib.hid (HZ.out.later hb)
  clear hb
  go_wp2_with fail
  refine (minusv_is _).mono ?_
  rintro en w2 ⟨_, rfl, rfl, hb⟩
  have HB := Lib.hid (baft HB.out hb)
  have HZ := Lib.hid (HZ.out.later hb)
  clear hb
  go_wp2_with fail
  refine (leastv_is _).mono ?_
  rintro en w3 ⟨_, rfl, rfl, hb⟩
  have HB := Lib.hid (baft HB.out hb)
  have HZ := Lib.hid (HZ.out.later hb)
  clear hb
  obtain ⟨z0, z1⟩ := HZ.out.cells
  obtain ⟨f0, f1⟩ := HZ.out.frozen
  go_wp2
  refine bodyPost_ret (v := .agg #[.int .u64 9218868437227405312, .int .u64 18442240474082181120]) (by simp [results, Try.results50, go_sem, z0, z1]) rfl ?_
  exact ⟨rfl, (HB.out.setCell (Nat.le_succ _) _).setCell (Nat.le_succ _) _⟩
end Go.Proofs.Ytmmbbkeefphaiaa
