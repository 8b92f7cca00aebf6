/- The law MeasCentre: the walk. -/
import Derived.Test.YtmmbbkeefphaiaaCentreP
namespace Go.Proofs.Ytmmbbkeefphaiaa
set_option linter.unusedVariables false
set_option linter.unusedSimpArgs false
open Go.RowKit Verge

theorem numberq_is {b : Nat} {w : World} (hb : b < 18446744073709551616) : Calls Try.prog 28 #[.float .f64 b] w (Ans w (IsQ (decide (9223372036854775808 < b)) (fbN b) (fbD b))) := ans_rat (number_any b hb w)
theorem holdsr_is {p q : Nat} {w : World} (hp : p < 18446744073709551616) (hq : q < 18446744073709551616) (hs : fsound p q = true) {s : Bool} {X Y : List Nat} {v : Value} (hv : IsR s X Y v w) (h1 : X.length ≤ 35184372088600) (h2 : Y.length ≤ 35184372088600) :
    Calls Try.prog 27 #[.agg #[.int .u64 (p : Int), .int .u64 (q : Int)], v] w (Ans w (IsV (.bool (fholds p q s (val X) (val Y))))) := by
  obtain ⟨va, vb, rfl, ⟨A, c, rfl, hA⟩, ⟨B, d, rfl, hB⟩⟩ := hv
  exact ans_below (holds_any p q hp hq hs s A _ c X B _ d Y w hA rfl hB rfl h1 h2)
theorem rv_mul2 {a : Int} {va vb : Value} {w : World} (ha : IsRV a UQ 100 va w) (hb : IsRV 2 1 2 vb w) : Calls Try.prog 48 #[va, vb] w (Ans w (IsRV (a * 2) UQ 102)) := by
  refine (rv_mul ha hb (by omega) (by omega)).mono ?_
  rintro e w' ⟨v, he, hv, hbw⟩
  rw [Nat.mul_one] at hv
  exact ⟨v, he, hv, hbw⟩
/-- What stands at the tail: the box of what was read. -/
def Tl (w wx : World) (r5 : Nat) (p q : Nat) : Prop := Below w.heap.size w wx ∧ BI wx r5 (.int .u64 (p : Int)) (.int .u64 (q : Int))
theorem Tl.later {w wx wy : World} {r5 p q : Nat} (h : Tl w wx r5 p q) (hb : Below wx.heap.size wx wy) : Tl w wy r5 p q := ⟨raft h.1 hb, h.2.later hb⟩
theorem Tl.cells {w wx : World} {r5 p q : Nat} (h : Tl w wx r5 p q) : wx.cell? ⟨r5, 0, none⟩ = some (.int .u64 (p : Int)) ∧ wx.cell? ⟨r5, 1, none⟩ = some (.int .u64 (q : Int)) := h.2.cells
theorem o_gt0 {r : Nat} (h : r ≤ 9218868437227405312) : (FloatKind.f64.format.order r 0 == some .gt) = decide (0 < r) := by
  refine (f_gt (by omega) (by omega)).trans (decide_eq_decide.2 ?_)
  rw [FK_small h]
  have e : FK 0 = 0 := rfl
  rw [e]
  exact ⟨fun h => by omega, fun h' => ⟨small_nan h, by decide, by omega⟩⟩
theorem o_lt0 {r : Nat} (h : r ≤ 9218868437227405312) : (FloatKind.f64.format.order r 0 == some .lt) = false := by
  refine (f_lt (by omega) (by omega)).trans (decide_eq_false ?_)
  rw [FK_small h]
  have e : FK 0 = 0 := rfl
  rw [e]
  rintro ⟨_, _, h⟩; omega
theorem o_ne {r : Nat} (h : r ≤ 9218868437227405312) : (FloatKind.f64.format.order r r != some .eq) = false := (f_self (by omega)).trans (decide_eq_false (small_nan h))

set_option maxRecDepth 40000 in
set_option maxHeartbeats 32000000 in
theorem centre_row (x y : Nat) (s : Bool) (A : Option Addr) (c : Nat) (X : List Nat) (B : Option Addr) (d : Nat) (Y : List Nat) (w : World) (hx : x < 18446744073709551616) (hy : y < 18446744073709551616) (ha : Rd w A X) (hb : Rd w B Y) (h1 : X.length ≤ 35184372088000) (h2 : Y.length ≤ 35184372088000) :
    Calls Try.prog 11 #[.agg #[.int .u64 (x : Int), .int .u64 (y : Int)], .agg #[.bool s, .slice A X.length c, .slice B Y.length d]] w fun e w' => e = .returned (.bool true) ∧ Below w.heap.size w w' := by
  have HR := Lib.hid (fun W => read6_any x y hx hy W)
  have HM0 : Hid (∀ W, Calls Try.prog 33 #[.agg #[.float .f64 4607182418800017408, .float .f64 4613937818241073152]] W fun e w' => e = .returned (.float .f64 4611686018427387904) ∧ Below W.heap.size W w') :=
    Lib.hid (fun W => by have := mid_any 4607182418800017408 4613937818241073152 (by omega) (by omega) W; rw [mid_const] at this; exact this)
  have oc : (FloatKind.f64.format.order 4611686018427387904 4611686018427387904 != some .eq) = false := o_ne (by omega)
  have HIn := Lib.hid (fun W => in_any x y hx hy W)
  have HMR := Lib.hid (fun W => midrad_any x y hx hy W)
  have HWd := Lib.hid (fun W => wid_any x y hx hy W)
  have HBa := rnew w (.cells #[.int .u64 (x : Int), .int .u64 (y : Int)] 24)
  have HI := Lib.hid ((BI.new w (.int .u64 (x : Int)) (.int .u64 (y : Int))).later (rnew _ (.cells #[.bool s, .slice A X.length c, .slice B Y.length d] 35)))
  have H3 := Box3.new (w.alloc (.cells #[.int .u64 (x : Int), .int .u64 (y : Int)] 24)) (.bool s) (.slice A X.length c) (.slice B Y.length d)
  rw [show (w.alloc (.cells #[.int .u64 (x : Int), .int .u64 (y : Int)] 24)).heap.size = w.heap.size + 1 from Array.size_push ..] at H3
  have H3 := Lib.hid H3
  have HB := Lib.hid (raft HBa (rnew _ (.cells #[.bool s, .slice A X.length c, .slice B Y.length d] 35)))
  have HX := Lib.hid (IsL.mono X _ _ _ HB.out ⟨A, c, rfl, ha⟩)
  have HY := Lib.hid (IsL.mono Y _ _ _ HB.out ⟨B, d, rfl, hb⟩)
  have HL := Lib.hid (And.intro h1 h2)
  have HV : Hid (fsound x y = false → flo x y = 9218868437227405312 ∧ fhi x y = 18442240474082181120) := Lib.hid (fun h => by unfold flo fhi; rw [if_neg (by rw [h]; simp), if_neg (by rw [h]; simp)]; exact ⟨rfl, rfl⟩)
  have HE : Hid (fsound x y = true → Ends (flo x y) (fhi x y) ∧ fsound (flo x y) (fhi x y) = true ∧ fmid x y = pmid (flo x y) (fhi x y) ∧ frad x y = prad (flo x y) (fhi x y) ∧ fwid x y = pwid (flo x y) (fhi x y)) :=
    Lib.hid (fun h => ⟨ends_of hx hy h, (ends_of hx hy h).again.1, by unfold fmid; rw [if_pos h], by unfold frad; rw [if_pos h], by unfold fwid; rw [if_pos h]⟩)
  have HHi : Hid (fsound x y = true → ∀ (s : Bool) (n d : Nat), 0 < d → (fholds (flo x y) (fhi x y) s n d = true ↔ (flo x y = 18442240474082181120 ∨ fv (flo x y) * (d : Nat) ≤ sv s n * (UQ : Nat)) ∧ (fhi x y = 9218868437227405312 ∨ sv s n * (UQ : Nat) ≤ fv (fhi x y) * (d : Nat)))) := Lib.hid (fun h s n d hd => fholds_iff hx hy h hd)
  have HNh : Hid (fsound x y = true → ∀ b : Nat, fholds (flo x y) (fhi x y) (decide (9223372036854775808 < b)) (fbN b) (fbD b) = true ↔ (flo x y = 18442240474082181120 ∨ fv (flo x y) ≤ fv b) ∧ (fhi x y = 9218868437227405312 ∨ fv b ≤ fv (fhi x y))) := Lib.hid (fun h b => num_held hx hy h b)
  clear ha hb h1 h2 hx hy HBa
  obtain ⟨so, hso⟩ : ∃ s, fsound x y = s := ⟨_, rfl⟩
  obtain ⟨p, hp⟩ : ∃ p, flo x y = p := ⟨_, rfl⟩
  obtain ⟨q, hq⟩ : ∃ q, fhi x y = q := ⟨_, rfl⟩
  obtain ⟨m, hm⟩ : ∃ q, fmid x y = q := ⟨_, rfl⟩
  obtain ⟨r, hr⟩ : ∃ q, frad x y = q := ⟨_, rfl⟩
  obtain ⟨wd, hwd⟩ : ∃ q, fwid x y = q := ⟨_, rfl⟩
  simp only [hso, hp, hq, hm, hr, hwd] at HR HMR HWd HV HE HHi HNh
  clear hso hp hq hm hr hwd
  go_enter Try.func11, Try.ntmps11
  go_wp2_with fail
  refine (HM0.out _).mono ?_
  rintro en w1 ⟨rfl, hb⟩
  have HB := Lib.hid (raft HB.out hb)
  have HI := Lib.hid (HI.out.later hb)
  have H3 := Lib.hid (H3.out.later hb)
  have HX := Lib.hid (IsL.mono _ _ _ _ hb HX.out)
  have HY := Lib.hid (IsL.mono _ _ _ _ hb HY.out)
  clear hb
  obtain ⟨i0, i1⟩ := HI.out.cells
  go_wp2_with fail
  refine (HR.out _).mono ?_
  rintro en w2 ⟨rfl, hb⟩
  have HB := Lib.hid (raft HB.out hb)
  have HI := Lib.hid (HI.out.later hb)
  have H3 := Lib.hid (H3.out.later hb)
  have HX := Lib.hid (IsL.mono _ _ _ _ hb HX.out)
  have HY := Lib.hid (IsL.mono _ _ _ _ hb HY.out)
  clear hb i0 i1
  have H5 := Lib.hid (BI.new w2 (.int .u64 (p : Int)) (.int .u64 (q : Int)))
  have hb := rnew w2 (.cells #[.int .u64 (p : Int), .int .u64 (q : Int)] 24)
  have HB := Lib.hid (raft HB.out hb)
  have HI := Lib.hid (HI.out.later hb)
  have H3 := Lib.hid (H3.out.later hb)
  have HX := Lib.hid (IsL.mono _ _ _ _ hb HX.out)
  have HY := Lib.hid (IsL.mono _ _ _ _ hb HY.out)
  clear hb
  go_upto_region 4 with fail
  obtain ⟨r5, hr5⟩ : ∃ r, w2.heap.size = r := ⟨_, rfl⟩
  obtain ⟨w3, hw3⟩ : ∃ w3, w2.alloc (.cells #[.int .u64 (p : Int), .int .u64 (q : Int)] 24) = w3 := ⟨_, rfl⟩
  rw [hw3] at HB HI H3 HX HY
  rw [hr5, hw3] at H5
  rw [hr5, hw3]
  clear hr5 hw3
  cases so
  · obtain ⟨rfl, rfl⟩ := HV.out rfl
    clear HE HHi HNh HV
    refine region_at 3 (Pick [IsV (.agg #[.int .u64 ((9218868437227405312 : Nat) : Int), .int .u64 ((18442240474082181120 : Nat) : Int)]), IsV (.agg #[.int .u64 9218868437227405312, .int .u64 18442240474082181120]), IsV (.bool true)]) (by kernel_rfl) (by kernel_rfl) (by kernel_rfl) (mono_pick ⟨IsV.mono _, IsV.mono _, IsV.mono _, trivial⟩) ⟨?_, ?_, ?_, trivial⟩ ?_
    · intro a W hsz hb hS
      have h5 : a.tmps.getD 5 undef = .pointer (some ⟨r5, 0, none⟩) := hS.1
      clear hS hsz
      refine will_of rfl ?_
      obtain ⟨j0, j1⟩ := (H5.out.later hb).cells
      intro K hK
      go_simp
      exact hK _ _ ⟨Below.refl _ _, rfl⟩
    · intro a W hsz hb hS
      clear hS hsz
      refine will_of rfl ?_
      obtain ⟨j0, j1⟩ := (H5.out.later hb).cells
      intro K hK
      go_simp
      refine (empty6_any _).mono ?_
      rintro e W' ⟨rfl, hb'⟩
      exact hK _ _ ⟨hb', rfl⟩
    · intro a W hsz hb hS
      have h14 : a.tmps.getD 14 undef = .agg #[.int .u64 ((9218868437227405312 : Nat) : Int), .int .u64 ((18442240474082181120 : Nat) : Int)] := hS.1
      have h15 : a.tmps.getD 15 undef = .agg #[.int .u64 9218868437227405312, .int .u64 18442240474082181120] := hS.2.1
      clear hS hsz
      refine will_of rfl ?_
      intro K hK
      go_simp
      exact hK _ _ ⟨Below.refl _ _, rfl⟩
    intro f W hb hH
    have e0 : f 0 = .agg #[.int .u64 ((9218868437227405312 : Nat) : Int), .int .u64 ((18442240474082181120 : Nat) : Int)] := hH.1
    have e1 : f 1 = .agg #[.int .u64 9218868437227405312, .int .u64 18442240474082181120] := hH.2.1
    have e2 : f 2 = .bool true := hH.2.2.1
    simp only [List.take_succ_cons, List.take_zero, List.drop_succ_cons, List.drop_zero, putFrom, Act.put, List.setIfInBounds_toArray, List.set_cons_zero, List.set_cons_succ, Nat.reduceAdd, e0, e1, e2]
    clear e0 e1 e2 hH f
    have HB := Lib.hid (raft HB.out hb)
    clear hb
    go_wp2
    go_ret
    exact ⟨rfl, HB.out⟩
  · have HH := Lib.hid (HE.out rfl)
    have HHj := Lib.hid (fun (s : Bool) (n d : Nat) (hd : 0 < d) => HHi.out (by simp) s n d hd)
    have HNj := Lib.hid (fun (b : Nat) => HNh.out (by simp) b)
    have hne : ¬ ((p : Int) = 9218868437227405312) := by have := HH.out.1.2.2.2.2.1; omega
    clear HE HV HHi HNh
    refine region_at 3 (Pick [IsV (.agg #[.int .u64 (p : Int), .int .u64 (q : Int)]), IsV (.agg #[.int .u64 9218868437227405312, .int .u64 18442240474082181120]), IsV (.bool false)]) (by kernel_rfl) (by kernel_rfl) (by kernel_rfl) (mono_pick ⟨IsV.mono _, IsV.mono _, IsV.mono _, trivial⟩) ⟨?_, ?_, ?_, trivial⟩ ?_
    · intro a W hsz hb hS
      have h5 : a.tmps.getD 5 undef = .pointer (some ⟨r5, 0, none⟩) := hS.1
      clear hS hsz
      refine will_of rfl ?_
      obtain ⟨j0, j1⟩ := (H5.out.later hb).cells
      intro K hK
      go_simp
      exact hK _ _ ⟨Below.refl _ _, rfl⟩
    · intro a W hsz hb hS
      clear hS hsz
      refine will_of rfl ?_
      obtain ⟨j0, j1⟩ := (H5.out.later hb).cells
      intro K hK
      go_simp
      refine (empty6_any _).mono ?_
      rintro e W' ⟨rfl, hb'⟩
      exact hK _ _ ⟨hb', rfl⟩
    · intro a W hsz hb hS
      have h14 : a.tmps.getD 14 undef = .agg #[.int .u64 (p : Int), .int .u64 (q : Int)] := hS.1
      have h15 : a.tmps.getD 15 undef = .agg #[.int .u64 9218868437227405312, .int .u64 18442240474082181120] := hS.2.1
      clear hS hsz
      refine will_of rfl ?_
      intro K hK
      go_simp
      exact hK _ _ ⟨Below.refl _ _, rfl⟩
    intro f W hb hH
    have e0 : f 0 = .agg #[.int .u64 (p : Int), .int .u64 (q : Int)] := hH.1
    have e1 : f 1 = .agg #[.int .u64 9218868437227405312, .int .u64 18442240474082181120] := hH.2.1
    have e2 : f 2 = .bool false := hH.2.2.1
    simp only [List.take_succ_cons, List.take_zero, List.drop_succ_cons, List.drop_zero, putFrom, Act.put, List.setIfInBounds_toArray, List.set_cons_zero, List.set_cons_succ, Nat.reduceAdd, e0, e1, e2]
    clear e0 e1 e2 hH f
    have HB := Lib.hid (raft HB.out hb)
    have HI := Lib.hid (HI.out.later hb)
    have H3 := Lib.hid (H3.out.later hb)
    have HX := Lib.hid (IsL.mono _ _ _ _ hb HX.out)
    have HY := Lib.hid (IsL.mono _ _ _ _ hb HY.out)
    have H5 := Lib.hid (H5.out.later hb)
    clear hb hne
    obtain ⟨i0, i1⟩ := HI.out.cells
    go_wp2_with fail
    refine (HIn.out _).mono ?_
    rintro en w4 ⟨rfl, hb⟩
    have HB := Lib.hid (raft HB.out hb)
    have HI := Lib.hid (HI.out.later hb)
    have H3 := Lib.hid (H3.out.later hb)
    have HX := Lib.hid (IsL.mono _ _ _ _ hb HX.out)
    have HY := Lib.hid (IsL.mono _ _ _ _ hb HY.out)
    have H5 := Lib.hid (H5.out.later hb)
    clear hb i0 i1
    go_wp2_with fail
    refine (HMR.out _).mono ?_
    rintro en w5 ⟨rfl, hb⟩
    have HB := Lib.hid (raft HB.out hb)
    have HI := Lib.hid (HI.out.later hb)
    have H3 := Lib.hid (H3.out.later hb)
    have HX := Lib.hid (IsL.mono _ _ _ _ hb HX.out)
    have HY := Lib.hid (IsL.mono _ _ _ _ hb HY.out)
    have H5 := Lib.hid (H5.out.later hb)
    clear hb
    obtain ⟨i0, i1⟩ := HI.out.cells
    go_wp2_with fail
    refine (HIn.out _).mono ?_
    rintro en w6 ⟨rfl, hb⟩
    have HB := Lib.hid (raft HB.out hb)
    have HI := Lib.hid (HI.out.later hb)
    have H3 := Lib.hid (H3.out.later hb)
    have HX := Lib.hid (IsL.mono _ _ _ _ hb HX.out)
    have HY := Lib.hid (IsL.mono _ _ _ _ hb HY.out)
    have H5 := Lib.hid (H5.out.later hb)
    clear hb i0 i1
    go_wp2_with fail
    refine (HWd.out _).mono ?_
    rintro en w7 ⟨rfl, hb⟩
    have HB := Lib.hid (raft HB.out hb)
    have HI := Lib.hid (HI.out.later hb)
    have H3 := Lib.hid (H3.out.later hb)
    have HX := Lib.hid (IsL.mono _ _ _ _ hb HX.out)
    have HY := Lib.hid (IsL.mono _ _ _ _ hb HY.out)
    have H5 := Lib.hid (H5.out.later hb)
    clear hb
    have hmf := (mid_held HH.out.1).1
    rw [← HH.out.2.2.1] at hmf
    have HMh : Hid (fholds p q (decide (9223372036854775808 < m)) (fbN m) (fbD m) = true) := Lib.hid ((HNj.out m).2 (by have := (mid_held HH.out.1).2; rw [← HH.out.2.2.1] at this; exact this))
    have hrl : r ≤ 9218868437227405312 := by
      rw [HH.out.2.2.2.1]
      cases hw : pwild p q
      · exact Nat.le_of_lt (centre_facts HH.out.1 hw rfl rfl rfl).1
      · unfold prad; rw [if_pos hw]; exact Nat.le_refl _
    have hwl : wd ≤ 9218868437227405312 := by
      rw [HH.out.2.2.2.2]
      cases hw : pwild p q
      · exact (centre_facts HH.out.1 hw rfl rfl rfl).2.1
      · unfold pwid; rw [if_pos hw]; exact Nat.le_refl _
    have HF : Hid (p < 18446744073709551616 ∧ q < 18446744073709551616 ∧ m < 18446744073709551616 ∧ r ≤ 9218868437227405312 ∧ wd ≤ 9218868437227405312 ∧ fsound p q = true) := Lib.hid ⟨HH.out.1.1, HH.out.1.2.1, hmf.1, hrl, hwl, HH.out.2.1⟩
    have HFm : Hid (∀ W, Calls Try.prog 26 #[.float .f64 m] W (Ans W (IsV (.bool true)))) := Lib.hid (fun W => by have := finite8_is (w := W) hmf.1; rw [decide_eq_true (show fabs m < 9218868437227405312 from hmf.2)] at this; exact this)
    have HFr := Lib.hid (fun W => finite8_is (w := W) (b := r) (by omega))
    have HFw := Lib.hid (fun W => finite8_is (w := W) (b := wd) (by omega))
    rw [show fabs r = r by unfold fabs; omega] at HFr
    rw [show fabs wd = wd by unfold fabs; omega] at HFw
    have or1 := o_ne hrl
    have ow1 := o_ne hwl
    have or2 := o_gt0 hrl
    have or3 := o_lt0 hrl
    have ow2 := o_gt0 hwl
    have HI1 := Lib.hid (fun W => isinf3_any p HF.out.1 W)
    have HI2 := Lib.hid (fun W => isinf3_any q HF.out.2.1 W)
    have hwl' := HH.out.1.wild
    clear hmf hrl hwl
    go_upto_region 8 with fail
    refine region_at 20 (Pick [IsV (.float .f64 m), IsV (.bool true), IsV (.bool false), IsV (.bool false), IsV (.agg #[.int .u64 (p : Int), .int .u64 (q : Int)]), IsV (.float .f64 m), IsQ (decide (9223372036854775808 < m)) (fbN m) (fbD m), IsV (.bool true), IsV (.bool false), IsV (.bool false), IsV (.bool false), IsV (.float .f64 r), IsV (.float .f64 r), IsV (.bool false), IsV (.bool false), IsV (.bool false), IsV (.float .f64 wd), IsV (.float .f64 wd), IsV (.bool false), IsV (.bool false)]) (by kernel_rfl) (by kernel_rfl) (by kernel_rfl) (mono_pick ⟨IsV.mono _, IsV.mono _, IsV.mono _, IsV.mono _, IsV.mono _, IsV.mono _, IsQ.mono _ _ _, IsV.mono _, IsV.mono _, IsV.mono _, IsV.mono _, IsV.mono _, IsV.mono _, IsV.mono _, IsV.mono _, IsV.mono _, IsV.mono _, IsV.mono _, IsV.mono _, IsV.mono _, trivial⟩) ⟨?_, ?_, ?_, ?_, ?_, ?_, ?_, ?_, ?_, ?_, ?_, ?_, ?_, ?_, ?_, ?_, ?_, ?_, ?_, ?_, trivial⟩ ?_
    · intro a W hsz hb hS
      have h6 : a.tmps.getD 6 undef = .float .f64 m := hS.1
      clear hS hsz
      refine will_of rfl ?_
      intro K hK
      go_simp
      exact hK _ _ ⟨Below.refl _ _, rfl⟩
    · intro a W hsz hb hS
      have h26 : a.tmps.getD 26 undef = .float .f64 m := hS.1
      clear hS hsz
      refine will_of rfl ?_
      obtain ⟨j0, j1⟩ := (H5.out.later hb).cells
      intro K hK
      go_simp
      refine (HFm.out _).mono ?_
      rintro e W' ⟨_, rfl, rfl, hb'⟩
      exact hK _ _ ⟨hb', rfl⟩
    · intro a W hsz hb hS
      have h27 : a.tmps.getD 27 undef = .bool true := hS.1
      clear hS hsz
      refine will_of rfl ?_
      intro K hK
      go_simp
      exact hK _ _ ⟨Below.refl _ _, rfl⟩
    · intro a W hsz hb hS
      have h28 : a.tmps.getD 28 undef = .bool false := hS.1
      clear hS hsz
      refine will_of rfl ?_
      intro K hK
      go_simp
      exact hK _ _ ⟨Below.refl _ _, rfl⟩
    · intro a W hsz hb hS
      have h5 : a.tmps.getD 5 undef = .pointer (some ⟨r5, 0, none⟩) := hS.1
      have h29 : a.tmps.getD 29 undef = .bool false := hS.2.1
      clear hS hsz
      refine will_yes rfl rfl h29 ?_
      obtain ⟨j0, j1⟩ := (H5.out.later hb).cells
      intro K hK
      go_simp
      exact hK _ _ ⟨Below.refl _ _, rfl⟩
    · intro a W hsz hb hS
      have h6 : a.tmps.getD 6 undef = .float .f64 m := hS.1
      have h29 : a.tmps.getD 29 undef = .bool false := hS.2.1
      clear hS hsz
      refine will_yes rfl rfl h29 ?_
      intro K hK
      go_simp
      exact hK _ _ ⟨Below.refl _ _, rfl⟩
    · intro a W hsz hb hS
      have h31 : a.tmps.getD 31 undef = .float .f64 m := hS.1
      have h29 : a.tmps.getD 29 undef = .bool false := hS.2.1
      clear hS hsz
      refine will_yes rfl rfl h29 ?_
      obtain ⟨j0, j1⟩ := (H5.out.later hb).cells
      intro K hK
      go_simp
      refine (numberq_is HF.out.2.2.1).mono ?_
      rintro e W' ⟨v, rfl, hv, hb'⟩
      exact hK _ _ ⟨hb', hv⟩
    · intro a W hsz hb hS
      have h30 : a.tmps.getD 30 undef = .agg #[.int .u64 (p : Int), .int .u64 (q : Int)] := hS.1
      have q32 : IsQ (decide (9223372036854775808 < m)) (fbN m) (fbD m) (a.tmps.getD 32 undef) W := hS.2.1
      have h29 : a.tmps.getD 29 undef = .bool false := hS.2.2.1
      clear hS hsz
      obtain ⟨v32, h32⟩ : ∃ v, a.tmps.getD 32 undef = v := ⟨_, rfl⟩
      rw [h32] at q32
      refine will_yes rfl rfl h29 ?_
      obtain ⟨j0, j1⟩ := (H5.out.later hb).cells
      intro K hK
      go_simp
      have hh := holdsr_is HF.out.1 HF.out.2.1 HF.out.2.2.2.2.2 q32 (by have := fbN_len m; omega) (by have := fbD_len m; omega)
      rw [val_dig, val_dig, HMh.out] at hh
      refine hh.mono ?_
      rintro e W' ⟨_, rfl, rfl, hb'⟩
      exact hK _ _ ⟨hb', rfl⟩
    · intro a W hsz hb hS
      have h33 : a.tmps.getD 33 undef = .bool true := hS.1
      have h29 : a.tmps.getD 29 undef = .bool false := hS.2.1
      clear hS hsz
      refine will_yes rfl rfl h29 ?_
      intro K hK
      go_simp
      exact hK _ _ ⟨Below.refl _ _, rfl⟩
    · intro a W hsz hb hS
      have h29 : a.tmps.getD 29 undef = .bool false := hS.1
      have h34 : a.tmps.getD 34 undef = .bool false := hS.2.1
      clear hS hsz
      refine will_of rfl ?_
      intro K hK
      go_simp
      exact hK _ _ ⟨Below.refl _ _, rfl⟩
    · intro a W hsz hb hS
      have h35 : a.tmps.getD 35 undef = .bool false := hS.1
      clear hS hsz
      refine will_of rfl ?_
      intro K hK
      go_simp
      exact hK _ _ ⟨Below.refl _ _, rfl⟩
    · intro a W hsz hb hS
      have h7 : a.tmps.getD 7 undef = .float .f64 r := hS.1
      have h36 : a.tmps.getD 36 undef = .bool false := hS.2.1
      clear hS hsz
      refine will_yes rfl rfl h36 ?_
      intro K hK
      go_simp
      exact hK _ _ ⟨Below.refl _ _, rfl⟩
    · intro a W hsz hb hS
      have h7 : a.tmps.getD 7 undef = .float .f64 r := hS.1
      have h36 : a.tmps.getD 36 undef = .bool false := hS.2.1
      clear hS hsz
      refine will_yes rfl rfl h36 ?_
      intro K hK
      go_simp
      exact hK _ _ ⟨Below.refl _ _, rfl⟩
    · intro a W hsz hb hS
      have h37 : a.tmps.getD 37 undef = .float .f64 r := hS.1
      have h38 : a.tmps.getD 38 undef = .float .f64 r := hS.2.1
      have h36 : a.tmps.getD 36 undef = .bool false := hS.2.2.1
      clear hS hsz
      refine will_yes rfl rfl h36 ?_
      intro K hK
      go_simp
      exact hK _ _ ⟨Below.refl _ _, rfl⟩
    · intro a W hsz hb hS
      have h36 : a.tmps.getD 36 undef = .bool false := hS.1
      have h39 : a.tmps.getD 39 undef = .bool false := hS.2.1
      clear hS hsz
      refine will_of rfl ?_
      intro K hK
      go_simp
      exact hK _ _ ⟨Below.refl _ _, rfl⟩
    · intro a W hsz hb hS
      have h40 : a.tmps.getD 40 undef = .bool false := hS.1
      clear hS hsz
      refine will_of rfl ?_
      intro K hK
      go_simp
      exact hK _ _ ⟨Below.refl _ _, rfl⟩
    · intro a W hsz hb hS
      have h8 : a.tmps.getD 8 undef = .float .f64 wd := hS.1
      have h41 : a.tmps.getD 41 undef = .bool false := hS.2.1
      clear hS hsz
      refine will_yes rfl rfl h41 ?_
      intro K hK
      go_simp
      exact hK _ _ ⟨Below.refl _ _, rfl⟩
    · intro a W hsz hb hS
      have h8 : a.tmps.getD 8 undef = .float .f64 wd := hS.1
      have h41 : a.tmps.getD 41 undef = .bool false := hS.2.1
      clear hS hsz
      refine will_yes rfl rfl h41 ?_
      intro K hK
      go_simp
      exact hK _ _ ⟨Below.refl _ _, rfl⟩
    · intro a W hsz hb hS
      have h42 : a.tmps.getD 42 undef = .float .f64 wd := hS.1
      have h43 : a.tmps.getD 43 undef = .float .f64 wd := hS.2.1
      have h41 : a.tmps.getD 41 undef = .bool false := hS.2.2.1
      clear hS hsz
      refine will_yes rfl rfl h41 ?_
      intro K hK
      go_simp
      exact hK _ _ ⟨Below.refl _ _, rfl⟩
    · intro a W hsz hb hS
      have h41 : a.tmps.getD 41 undef = .bool false := hS.1
      have h44 : a.tmps.getD 44 undef = .bool false := hS.2.1
      clear hS hsz
      refine will_of rfl ?_
      intro K hK
      go_simp
      exact hK _ _ ⟨Below.refl _ _, rfl⟩
    intro f W hb hH
    have e0 : f 0 = .float .f64 m := hH.1
    have e1 : f 1 = .bool true := hH.2.1
    have e2 : f 2 = .bool false := hH.2.2.1
    have e3 : f 3 = .bool false := hH.2.2.2.1
    have e4 : f 4 = .agg #[.int .u64 (p : Int), .int .u64 (q : Int)] := hH.2.2.2.2.1
    have e5 : f 5 = .float .f64 m := hH.2.2.2.2.2.1
    obtain ⟨x6, y6⟩ : ∃ x, f 6 = x := ⟨_, rfl⟩
    have q6 : IsQ (decide (9223372036854775808 < m)) (fbN m) (fbD m) (f 6) W := hH.2.2.2.2.2.2.1
    rw [y6] at q6
    have e7 : f 7 = .bool true := hH.2.2.2.2.2.2.2.1
    have e8 : f 8 = .bool false := hH.2.2.2.2.2.2.2.2.1
    have e9 : f 9 = .bool false := hH.2.2.2.2.2.2.2.2.2.1
    have e10 : f 10 = .bool false := hH.2.2.2.2.2.2.2.2.2.2.1
    have e11 : f 11 = .float .f64 r := hH.2.2.2.2.2.2.2.2.2.2.2.1
    have e12 : f 12 = .float .f64 r := hH.2.2.2.2.2.2.2.2.2.2.2.2.1
    have e13 : f 13 = .bool false := hH.2.2.2.2.2.2.2.2.2.2.2.2.2.1
    have e14 : f 14 = .bool false := hH.2.2.2.2.2.2.2.2.2.2.2.2.2.2.1
    have e15 : f 15 = .bool false := hH.2.2.2.2.2.2.2.2.2.2.2.2.2.2.2.1
    have e16 : f 16 = .float .f64 wd := hH.2.2.2.2.2.2.2.2.2.2.2.2.2.2.2.2.1
    have e17 : f 17 = .float .f64 wd := hH.2.2.2.2.2.2.2.2.2.2.2.2.2.2.2.2.2.1
    have e18 : f 18 = .bool false := hH.2.2.2.2.2.2.2.2.2.2.2.2.2.2.2.2.2.2.1
    have e19 : f 19 = .bool false := hH.2.2.2.2.2.2.2.2.2.2.2.2.2.2.2.2.2.2.2.1
    simp only [List.take_succ_cons, List.take_zero, List.drop_succ_cons, List.drop_zero, putFrom, Act.put, List.setIfInBounds_toArray, List.set_cons_zero, List.set_cons_succ, Nat.reduceAdd, e0, e1, e2, e3, e4, e5, y6, e7, e8, e9, e10, e11, e12, e13, e14, e15, e16, e17, e18, e19]
    clear e0 e1 e2 e3 e4 e5 y6 e7 e8 e9 e10 e11 e12 e13 e14 e15 e16 e17 e18 e19 hH f
    have HB := Lib.hid (raft HB.out hb)
    have HI := Lib.hid (HI.out.later hb)
    have H3 := Lib.hid (H3.out.later hb)
    have HX := Lib.hid (IsL.mono _ _ _ _ hb HX.out)
    have HY := Lib.hid (IsL.mono _ _ _ _ hb HY.out)
    have H5 := Lib.hid (H5.out.later hb)
    clear hb q6
    cases hw : pwild p q
    · have HCF := Lib.hid (centre_facts HH.out.1 hw HH.out.2.2.1.symm HH.out.2.2.2.1.symm HH.out.2.2.2.2.symm)
      rw [hw, Bool.or_eq_false_iff] at hwl'
      rw [hwl'.1] at HI1
      rw [hwl'.2] at HI2
      rw [decide_eq_true HCF.out.1] at HFr
      have HWI := Lib.hid hw
      clear hw hwl'
      obtain ⟨j0, j1⟩ := H5.out.cells
      go_wp2_with fail
      refine (HI1.out _).mono ?_
      rintro en w8 ⟨rfl, rfl⟩
      go_wp2_with fail
      refine (HI2.out _).mono ?_
      rintro en w9 ⟨rfl, rfl⟩
      go_wp2_with fail
      refine (HFr.out _).mono ?_
      rintro en w10 ⟨_, rfl, rfl, hb⟩
      have HB := Lib.hid (raft HB.out hb)
      have HI := Lib.hid (HI.out.later hb)
      have H3 := Lib.hid (H3.out.later hb)
      have HX := Lib.hid (IsL.mono _ _ _ _ hb HX.out)
      have HY := Lib.hid (IsL.mono _ _ _ _ hb HY.out)
      have H5 := Lib.hid (H5.out.later hb)
      clear hb j0 j1
      obtain ⟨j0, j1⟩ := H5.out.cells
      go_wp2_with fail
      refine (holds8_is HF.out.1 HF.out.2.1 HF.out.2.2.1 (by have := HF.out.2.2.2.1; omega)).mono ?_
      rw [HCF.out.2.2.1, HCF.out.2.2.2.1]
      rintro en w11 ⟨_, rfl, rfl, hb⟩
      have HB := Lib.hid (raft HB.out hb)
      have HI := Lib.hid (HI.out.later hb)
      have H3 := Lib.hid (H3.out.later hb)
      have HX := Lib.hid (IsL.mono _ _ _ _ hb HX.out)
      have HY := Lib.hid (IsL.mono _ _ _ _ hb HY.out)
      have H5 := Lib.hid (H5.out.later hb)
      clear hb j0 j1
      go_upto_region 14 with fail
      go_cut [100] from 84 to 99 (fun s100 wx => s100 = .bool false ∧ Tl w wx r5 p q)
      case first =>
        obtain ⟨k0, k1, k2⟩ := H3.out.cells
        have HNm := Lib.hid (fun W v (hv : IsL Y v W) => norm_is (w := W) (v := v) hv (by have := HL.out; omega))
        go_wp2_with fail
        refine (HNm.out _ _ HY.out).mono ?_
        rintro en w12 ⟨_, rfl, ⟨An, cn, rfl, _⟩, hb⟩
        have HB := Lib.hid (raft HB.out hb)
        have HI := Lib.hid (HI.out.later hb)
        have H3 := Lib.hid (H3.out.later hb)
        have HX := Lib.hid (IsL.mono _ _ _ _ hb HX.out)
        have HY := Lib.hid (IsL.mono _ _ _ _ hb HY.out)
        have H5 := Lib.hid (H5.out.later hb)
        clear hb k0 k1 k2
        by_cases hd0 : val Y = 0
        · have hl : (dig (val Y)).length = 0 := by rw [hd0, dig_zero]; rfl
          rw [hl]
          go_wp2
          go_meet
          case rel => exact ⟨rfl, HB.out, H5.out⟩
        · have hdp := Lib.hid (show 0 < val Y by omega)
          have hl : 0 < (dig (val Y)).length := dig_length_pos hd0
          generalize (dig (val Y)).length = l9 at hl ⊢
          have hl2 : decide (0 < (l9 : Int)) = true := decide_eq_true (by omega)
          have hl3 : decide (0 < l9) = true := decide_eq_true hl
          clear hd0
          obtain ⟨h, hhe⟩ : ∃ h, fholds p q s (val X) (val Y) = h := ⟨_, rfl⟩
          have HHe := Lib.hid hhe
          clear hhe
          obtain ⟨k0, k1, k2⟩ := H3.out.cells
          obtain ⟨j0, j1⟩ := H5.out.cells
          go_wp2_with fail
          refine (holdsr_is HF.out.1 HF.out.2.1 HF.out.2.2.2.2.2 (s := s) (X := X) (Y := Y) ⟨_, _, rfl, HX.out, HY.out⟩ (by have := HL.out; omega) (by have := HL.out; omega)).mono ?_
          rw [HHe.out]
          rintro en w13 ⟨_, rfl, rfl, hb⟩
          have HB := Lib.hid (raft HB.out hb)
          have HI := Lib.hid (HI.out.later hb)
          have H3 := Lib.hid (H3.out.later hb)
          have HX := Lib.hid (IsL.mono _ _ _ _ hb HX.out)
          have HY := Lib.hid (IsL.mono _ _ _ _ hb HY.out)
          have H5 := Lib.hid (H5.out.later hb)
          clear hb k0 k1 k2 j0 j1
          cases h
          · go_wp2
            go_meet
            case rel => exact ⟨rfl, HB.out, H5.out⟩
          · obtain ⟨k0, k1, k2⟩ := H3.out.cells
            have hrv := Lib.hid (show IsRV (sv s (val X)) (val Y) 35184372088000 (.agg #[.bool s, .slice A X.length c, .slice B Y.length d]) w13 from ⟨s, X, Y, ⟨_, _, rfl, HX.out, HY.out⟩, hdp.out, hdp.out, rfl, HL.out.1, HL.out.2⟩)
            have hwi := within_is (m := m) (r := r) hrv.out HF.out.2.2.1 (by have := HF.out.2.2.2.1; omega) (by omega)
            have hin := (HHj.out s (val X) (val Y) hdp.out).1 HHe.out
            have hpf := HH.out.1.fin HWI.out
            rw [HCF.out.2.2.2.2.2.2 _ _ hdp.out (hin.1.resolve_left (by have := hpf.1.2; omega)) (hin.2.resolve_left (by have := hpf.2.2; omega))] at hwi
            have HWi := Lib.hid hwi
            clear hwi hin hpf
            go_wp2_with fail
            refine HWi.out.mono ?_
            rintro en w14 ⟨_, rfl, rfl, hb⟩
            have HB := Lib.hid (raft HB.out hb)
            have HI := Lib.hid (HI.out.later hb)
            have H3 := Lib.hid (H3.out.later hb)
            have HX := Lib.hid (IsL.mono _ _ _ _ hb HX.out)
            have HY := Lib.hid (IsL.mono _ _ _ _ hb HY.out)
            have H5 := Lib.hid (H5.out.later hb)
            clear hb k0 k1 k2
            go_wp2
            go_meet
            case rel => exact ⟨rfl, HB.out, H5.out⟩
      case rest =>
        obtain ⟨rfl, hT⟩ := hcut
        have HT := Lib.hid hT
        clear hT HB HI H3 HX HY H5 HL
        obtain ⟨rp, hrp⟩ : ∃ b, decide (0 < r) = b := ⟨_, rfl⟩
        rw [hrp] at or2
        have HRP := Lib.hid hrp
        clear hrp
        go_upto_region 16 with fail
        go_cut [111] from 101 to 110 (fun s111 wx => s111 = .bool false ∧ Below w.heap.size w wx)
        case first =>
          cases rp
          · -- no radius
            refine region_at 11 (Pick [IsV (.float .f64 r), IsV (.bool false), IsV (.bool false), IsV (undef), IsV (undef), IsV (undef), IsV (undef), IsV (undef), IsV (undef), IsV (undef), IsV (.bool false)]) (by kernel_rfl) (by kernel_rfl) (by kernel_rfl) (mono_pick ⟨IsV.mono _, IsV.mono _, IsV.mono _, IsV.mono _, IsV.mono _, IsV.mono _, IsV.mono _, IsV.mono _, IsV.mono _, IsV.mono _, IsV.mono _, trivial⟩) ⟨?_, ?_, ?_, ?_, ?_, ?_, ?_, ?_, ?_, ?_, ?_, trivial⟩ ?_
            · intro a W hsz hb hS
              have h7 : a.tmps.getD 7 undef = .float .f64 r := hS.1
              clear hS hsz
              refine will_of rfl ?_
              intro K hK
              go_simp
              exact hK _ _ ⟨Below.refl _ _, rfl⟩
            · intro a W hsz hb hS
              have h101 : a.tmps.getD 101 undef = .float .f64 r := hS.1
              clear hS hsz
              refine will_of rfl ?_
              intro K hK
              go_simp
              exact hK _ _ ⟨Below.refl _ _, rfl⟩
            · intro a W hsz hb hS
              have h102 : a.tmps.getD 102 undef = .bool false := hS.1
              clear hS hsz
              refine will_of rfl ?_
              intro K hK
              go_simp
              exact hK _ _ ⟨Below.refl _ _, rfl⟩
            · intro a W hsz hb hS
              have h5 : a.tmps.getD 5 undef = .pointer (some ⟨r5, 0, none⟩) := hS.1
              have h103 : a.tmps.getD 103 undef = .bool false := hS.2.1
              clear hS hsz
              exact will_no rfl rfl h103 ⟨Below.refl _ _, rfl⟩
            · intro a W hsz hb hS
              have h6 : a.tmps.getD 6 undef = .float .f64 m := hS.1
              have h103 : a.tmps.getD 103 undef = .bool false := hS.2.1
              clear hS hsz
              exact will_no rfl rfl h103 ⟨Below.refl _ _, rfl⟩
            · intro a W hsz hb hS
              have h7 : a.tmps.getD 7 undef = .float .f64 r := hS.1
              have h103 : a.tmps.getD 103 undef = .bool false := hS.2.1
              clear hS hsz
              exact will_no rfl rfl h103 ⟨Below.refl _ _, rfl⟩
            · intro a W hsz hb hS
              have h106 : a.tmps.getD 106 undef = undef := hS.1
              have h103 : a.tmps.getD 103 undef = .bool false := hS.2.1
              clear hS hsz
              exact will_no rfl rfl h103 ⟨Below.refl _ _, rfl⟩
            · intro a W hsz hb hS
              have h107 : a.tmps.getD 107 undef = undef := hS.1
              have h103 : a.tmps.getD 103 undef = .bool false := hS.2.1
              clear hS hsz
              exact will_no rfl rfl h103 ⟨Below.refl _ _, rfl⟩
            · intro a W hsz hb hS
              have h108 : a.tmps.getD 108 undef = undef := hS.1
              have h103 : a.tmps.getD 103 undef = .bool false := hS.2.1
              clear hS hsz
              exact will_no rfl rfl h103 ⟨Below.refl _ _, rfl⟩
            · intro a W hsz hb hS
              have h104 : a.tmps.getD 104 undef = undef := hS.1
              have h105 : a.tmps.getD 105 undef = undef := hS.2.1
              have h109 : a.tmps.getD 109 undef = undef := hS.2.2.1
              have h103 : a.tmps.getD 103 undef = .bool false := hS.2.2.2.1
              clear hS hsz
              exact will_no rfl rfl h103 ⟨Below.refl _ _, rfl⟩
            · intro a W hsz hb hS
              have h103 : a.tmps.getD 103 undef = .bool false := hS.1
              have h110 : a.tmps.getD 110 undef = undef := hS.2.1
              clear hS hsz
              refine will_of rfl ?_
              intro K hK
              go_simp
              exact hK _ _ ⟨Below.refl _ _, rfl⟩
            intro f W hb hH
            have e0 : f 0 = .float .f64 r := hH.1
            have e1 : f 1 = .bool false := hH.2.1
            have e2 : f 2 = .bool false := hH.2.2.1
            have e3 : f 3 = undef := hH.2.2.2.1
            have e4 : f 4 = undef := hH.2.2.2.2.1
            have e5 : f 5 = undef := hH.2.2.2.2.2.1
            have e6 : f 6 = undef := hH.2.2.2.2.2.2.1
            have e7 : f 7 = undef := hH.2.2.2.2.2.2.2.1
            have e8 : f 8 = undef := hH.2.2.2.2.2.2.2.2.1
            have e9 : f 9 = undef := hH.2.2.2.2.2.2.2.2.2.1
            have e10 : f 10 = .bool false := hH.2.2.2.2.2.2.2.2.2.2.1
            simp only [List.take_succ_cons, List.take_zero, List.drop_succ_cons, List.drop_zero, putFrom, Act.put, List.setIfInBounds_toArray, List.set_cons_zero, List.set_cons_succ, Nat.reduceAdd, e0, e1, e2, e3, e4, e5, e6, e7, e8, e9, e10]
            clear e0 e1 e2 e3 e4 e5 e6 e7 e8 e9 e10 hH f
            have HW := Lib.hid (raft HT.out.1 hb)
            clear hb
            go_wp2
            go_meet
            exact ⟨rfl, HW.out⟩
          · have hr0 := of_decide_eq_true HRP.out
            obtain ⟨r1, hr1⟩ : ∃ r1, r - 1 = r1 := ⟨_, rfl⟩
            have HH8 := Lib.hid (fun W => holds8_is (w := W) HF.out.1 HF.out.2.1 HF.out.2.2.1 (r := r1) (by have := HF.out.2.2.2.1; omega))
            have h8 := HCF.out.2.2.2.2.1 hr0
            rw [hr1] at h8
            rw [h8] at HH8
            have br := bits_any r
            have fr := from_any (r1 : Int)
            rw [Int.toNat_natCast] at fr
            have hsb : IntKind.u64.wrap ((r : Int) - 1) = (r1 : Int) := by rw [IntKind.wrap_u64]; have := HF.out.2.2.2.1; omega
            have hsb2 : (r : Int) - 1 = (r1 : Int) := by omega
            have HSB := Lib.hid hsb2
            clear hr0 hr1 h8 hsb2
            refine region_at 11 (Pick [IsV (.float .f64 r), IsV (.bool true), IsV (.bool true), IsV (.agg #[.int .u64 (p : Int), .int .u64 (q : Int)]), IsV (.float .f64 m), IsV (.float .f64 r), IsV (.int .u64 (r : Int)), IsV (.int .u64 (r1 : Int)), IsV (.float .f64 r1), IsV (.bool false), IsV (.bool false)]) (by kernel_rfl) (by kernel_rfl) (by kernel_rfl) (mono_pick ⟨IsV.mono _, IsV.mono _, IsV.mono _, IsV.mono _, IsV.mono _, IsV.mono _, IsV.mono _, IsV.mono _, IsV.mono _, IsV.mono _, IsV.mono _, trivial⟩) ⟨?_, ?_, ?_, ?_, ?_, ?_, ?_, ?_, ?_, ?_, ?_, trivial⟩ ?_
            · intro a W hsz hb hS
              have h7 : a.tmps.getD 7 undef = .float .f64 r := hS.1
              clear hS hsz
              refine will_of rfl ?_
              intro K hK
              go_simp
              exact hK _ _ ⟨Below.refl _ _, rfl⟩
            · intro a W hsz hb hS
              have h101 : a.tmps.getD 101 undef = .float .f64 r := hS.1
              clear hS hsz
              refine will_of rfl ?_
              intro K hK
              go_simp
              exact hK _ _ ⟨Below.refl _ _, rfl⟩
            · intro a W hsz hb hS
              have h102 : a.tmps.getD 102 undef = .bool true := hS.1
              clear hS hsz
              refine will_of rfl ?_
              intro K hK
              go_simp
              exact hK _ _ ⟨Below.refl _ _, rfl⟩
            · intro a W hsz hb hS
              have h5 : a.tmps.getD 5 undef = .pointer (some ⟨r5, 0, none⟩) := hS.1
              have h103 : a.tmps.getD 103 undef = .bool true := hS.2.1
              clear hS hsz
              refine will_yes rfl rfl h103 ?_
              obtain ⟨j0, j1⟩ := (HT.out.later hb).cells
              intro K hK
              go_simp
              exact hK _ _ ⟨Below.refl _ _, rfl⟩
            · intro a W hsz hb hS
              have h6 : a.tmps.getD 6 undef = .float .f64 m := hS.1
              have h103 : a.tmps.getD 103 undef = .bool true := hS.2.1
              clear hS hsz
              refine will_yes rfl rfl h103 ?_
              intro K hK
              go_simp
              exact hK _ _ ⟨Below.refl _ _, rfl⟩
            · intro a W hsz hb hS
              have h7 : a.tmps.getD 7 undef = .float .f64 r := hS.1
              have h103 : a.tmps.getD 103 undef = .bool true := hS.2.1
              clear hS hsz
              refine will_yes rfl rfl h103 ?_
              intro K hK
              go_simp
              exact hK _ _ ⟨Below.refl _ _, rfl⟩
            · intro a W hsz hb hS
              have h106 : a.tmps.getD 106 undef = .float .f64 r := hS.1
              have h103 : a.tmps.getD 103 undef = .bool true := hS.2.1
              clear hS hsz
              refine will_yes rfl rfl h103 ?_
              obtain ⟨j0, j1⟩ := (HT.out.later hb).cells
              intro K hK
              go_simp
              exact hK _ _ ⟨Below.refl _ _, rfl⟩
            · intro a W hsz hb hS
              have h107 : a.tmps.getD 107 undef = .int .u64 (r : Int) := hS.1
              have h103 : a.tmps.getD 103 undef = .bool true := hS.2.1
              clear hS hsz
              refine will_yes rfl rfl h103 ?_
              intro K hK
              go_simp
              exact hK _ _ ⟨Below.refl _ _, rfl⟩
            · intro a W hsz hb hS
              have h108 : a.tmps.getD 108 undef = .int .u64 (r1 : Int) := hS.1
              have h103 : a.tmps.getD 103 undef = .bool true := hS.2.1
              clear hS hsz
              refine will_yes rfl rfl h103 ?_
              obtain ⟨j0, j1⟩ := (HT.out.later hb).cells
              intro K hK
              go_simp
              exact hK _ _ ⟨Below.refl _ _, rfl⟩
            · intro a W hsz hb hS
              have h104 : a.tmps.getD 104 undef = .agg #[.int .u64 (p : Int), .int .u64 (q : Int)] := hS.1
              have h105 : a.tmps.getD 105 undef = .float .f64 m := hS.2.1
              have h109 : a.tmps.getD 109 undef = .float .f64 r1 := hS.2.2.1
              have h103 : a.tmps.getD 103 undef = .bool true := hS.2.2.2.1
              clear hS hsz
              refine will_yes rfl rfl h103 ?_
              obtain ⟨j0, j1⟩ := (HT.out.later hb).cells
              intro K hK
              go_simp
              refine (HH8.out _).mono ?_
              rintro e W' ⟨_, rfl, rfl, hb'⟩
              exact hK _ _ ⟨hb', rfl⟩
            · intro a W hsz hb hS
              have h103 : a.tmps.getD 103 undef = .bool true := hS.1
              have h110 : a.tmps.getD 110 undef = .bool false := hS.2.1
              clear hS hsz
              refine will_of rfl ?_
              intro K hK
              go_simp
              exact hK _ _ ⟨Below.refl _ _, rfl⟩
            intro f W hb hH
            have e0 : f 0 = .float .f64 r := hH.1
            have e1 : f 1 = .bool true := hH.2.1
            have e2 : f 2 = .bool true := hH.2.2.1
            have e3 : f 3 = .agg #[.int .u64 (p : Int), .int .u64 (q : Int)] := hH.2.2.2.1
            have e4 : f 4 = .float .f64 m := hH.2.2.2.2.1
            have e5 : f 5 = .float .f64 r := hH.2.2.2.2.2.1
            have e6 : f 6 = .int .u64 (r : Int) := hH.2.2.2.2.2.2.1
            have e7 : f 7 = .int .u64 (r1 : Int) := hH.2.2.2.2.2.2.2.1
            have e8 : f 8 = .float .f64 r1 := hH.2.2.2.2.2.2.2.2.1
            have e9 : f 9 = .bool false := hH.2.2.2.2.2.2.2.2.2.1
            have e10 : f 10 = .bool false := hH.2.2.2.2.2.2.2.2.2.2.1
            simp only [List.take_succ_cons, List.take_zero, List.drop_succ_cons, List.drop_zero, putFrom, Act.put, List.setIfInBounds_toArray, List.set_cons_zero, List.set_cons_succ, Nat.reduceAdd, e0, e1, e2, e3, e4, e5, e6, e7, e8, e9, e10]
            clear e0 e1 e2 e3 e4 e5 e6 e7 e8 e9 e10 hH f
            have HW := Lib.hid (raft HT.out.1 hb)
            clear hb
            go_wp2
            go_meet
            exact ⟨rfl, HW.out⟩
        case rest =>
          obtain ⟨rfl, hB⟩ := hcut
          have HB := Lib.hid hB
          clear hB HT
          obtain ⟨wf, hwf⟩ : ∃ b, decide (wd < 9218868437227405312) = b := ⟨_, rfl⟩
          rw [hwf] at HFw
          have HWF := Lib.hid hwf
          clear hwf
          go_wp2_with fail
          refine (HFw.out _).mono ?_
          rintro en w15 ⟨_, rfl, rfl, hb⟩
          have HB := Lib.hid (raft HB.out hb)
          clear hb
          cases wf
          · have hw0 : decide (0 < wd) = true := decide_eq_true (by have := of_decide_eq_false HWF.out; omega)
            rw [hw0] at ow2
            clear hw0
            go_wp2
            go_ret
            exact ⟨rfl, HB.out⟩
          · have hle := HCF.out.2.2.2.2.2.1 (of_decide_eq_true HWF.out)
            have HLE := Lib.hid hle
            clear hle
            go_wp2_with fail
            refine (numrv_is (by have := HF.out.2.2.2.2.1; omega)).mono ?_
            rintro en w16 ⟨v1, rfl, h1, hb⟩
            have HB := Lib.hid (raft HB.out hb); have H1 := Lib.hid h1
            clear hb h1
            go_wp2_with fail
            refine (numrv_is (by have := HF.out.2.2.2.1; omega)).mono ?_
            rintro en w17 ⟨v2, rfl, h2, hb⟩
            have HB := Lib.hid (raft HB.out hb); have H1 := Lib.hid (IsRV.mono _ _ _ _ _ _ hb H1.out); have H2 := Lib.hid h2
            clear hb h2
            go_wp2_with fail
            refine (rvint_is 2 (by omega)).mono ?_
            rintro en w18 ⟨v3, rfl, h3, hb⟩
            have HB := Lib.hid (raft HB.out hb); have H1 := Lib.hid (IsRV.mono _ _ _ _ _ _ hb H1.out); have H2 := Lib.hid (IsRV.mono _ _ _ _ _ _ hb H2.out); have H3 := Lib.hid h3
            clear hb h3
            go_wp2_with fail
            refine (rv_mul2 H2.out H3.out).mono ?_
            rintro en w19 ⟨v4, rfl, h4, hb⟩
            have HB := Lib.hid (raft HB.out hb); have H1 := Lib.hid (IsRV.mono _ _ _ _ _ _ hb H1.out); have H4 := Lib.hid h4
            clear hb h4
            have HC := Lib.hid (rv_cmp H1.out H4.out (by omega) (by omega))
            obtain ⟨g, hg⟩ : ∃ g, icmp (fv wd * (UQ : Nat)) (fv r * 2 * (UQ : Nat)) = g := ⟨_, rfl⟩
            have hg2 : decide (g ≤ 0) = true := by rw [← hg, icmp_le_UQ]; exact decide_eq_true HLE.out
            rw [hg] at HC
            clear hg
            go_wp2_with fail
            refine (HC.out).mono ?_
            rintro en w20 ⟨_, rfl, rfl, hb⟩
            have HB := Lib.hid (raft HB.out hb)
            clear hb
            go_wp2
            go_ret
            exact ⟨rfl, HB.out⟩
    · have hr9 : r = 9218868437227405312 := by rw [HH.out.2.2.2.1]; unfold prad; rw [if_pos hw]
      have hw9 : wd = 9218868437227405312 := by rw [HH.out.2.2.2.2]; unfold pwid; rw [if_pos hw]
      rw [hw, Bool.or_eq_true] at hwl'
      rw [decide_eq_false (by omega)] at HFr HFw
      rw [decide_eq_true (by omega)] at or2 ow2
      have HWW := Lib.hid hwl'
      obtain ⟨b1, hb1⟩ : ∃ b, decide (fabs p = 9218868437227405312) = b := ⟨_, rfl⟩
      obtain ⟨b2, hb2⟩ : ∃ b, decide (fabs q = 9218868437227405312) = b := ⟨_, rfl⟩
      rw [hb1] at HI1 HWW
      rw [hb2] at HI2 HWW
      clear hw hwl' hr9 hw9 hb1 hb2 or1 ow1 or3
      obtain ⟨j0, j1⟩ := H5.out.cells
      go_wp2_with fail
      refine (HI1.out _).mono ?_
      rintro en w8 ⟨rfl, rfl⟩
      cases b1
      · obtain rfl : b2 = true := by have := HWW.out; simpa using this
        go_wp2_with fail
        refine (HI2.out _).mono ?_
        rintro en w9 ⟨rfl, rfl⟩
        go_wp2_with fail
        refine (HFr.out _).mono ?_
        rintro en w10 ⟨_, rfl, rfl, hb⟩
        have HB := Lib.hid (raft HB.out hb)
        clear hb j0 j1
        go_wp2_with fail
        refine (HFw.out _).mono ?_
        rintro en w11 ⟨_, rfl, rfl, hb⟩
        have HB := Lib.hid (raft HB.out hb)
        clear hb
        go_wp2
        go_ret
        exact ⟨rfl, HB.out⟩
      · go_wp2_with fail
        refine (HFr.out _).mono ?_
        rintro en w10 ⟨_, rfl, rfl, hb⟩
        have HB := Lib.hid (raft HB.out hb)
        clear hb j0 j1
        go_wp2_with fail
        refine (HFw.out _).mono ?_
        rintro en w11 ⟨_, rfl, rfl, hb⟩
        have HB := Lib.hid (raft HB.out hb)
        clear hb
        go_wp2
        go_ret
        exact ⟨rfl, HB.out⟩

end Go.Proofs.Ytmmbbkeefphaiaa
