/- Layer 5, the document: the place of a number's first digit. -/
import Derived.Test.YtcomkgmonhidhaaGreatDoorG20
import Derived.Test.YtcomkgmonhidhaaGreatDoorG03
import Derived.Test.YtcomkgmonhidhaaGreatDoorG12
section
namespace Go.Proofs.YtcomkgmonhidhaaGreatDoor
set_option linter.unusedVariables false
set_option linter.unusedSimpArgs false
open Go.RowKit Verge

theorem icmp_ten (p Q : Nat) (k : Int) : (0 < icmp (((10 ^ k.toNat : Nat) : Int) * (Q : Int)) ((p : Int) * ((10 ^ (-k).toNat : Nat) : Int)) ↔ belowT p Q k) := by
  unfold icmp belowT
  rw [← Int.natCast_mul, ← Int.natCast_mul, Nat.mul_comm _ Q]
  split
  · rename_i h
    constructor
    · intro h'; omega
    · intro h'; omega
  · split
    · rename_i h h2
      constructor
      · intro h'; omega
      · intro h'; omega
    · rename_i h h2
      constructor
      · intro h'; omega
      · intro h'; omega
theorem w64b {x : Int} (h : -9223372036854775808 ≤ x) (h2 : x ≤ 9223372036854775807) : IntKind.i64.wrap x = x := by
  rw [IntKind.wrap_i64]
  omega
theorem tdiv_bd {a : Int} (h1 : -9600 ≤ a) (h2 : a ≤ 9600) : -1000 ≤ Int.tdiv a 10 ∧ Int.tdiv a 10 ≤ 1000 := by
  rcases Int.le_total 0 a with h | h
  · rw [Int.tdiv_eq_ediv_of_nonneg h]; omega
  · obtain ⟨b, rfl⟩ : ∃ b, a = -b := ⟨-a, by omega⟩
    rw [Int.neg_tdiv, Int.tdiv_eq_ediv_of_nonneg (by omega)]; omega
set_option maxRecDepth 20000 in
set_option maxHeartbeats 4000000 in
theorem magnitude_any {p Q : Nat} {va : Value} {w : World} (hv : IsRV (p : Int) Q 100 va w) (hlo : ¬ belowT p Q (-336)) (hhi : belowT p Q 336) :
    Calls Tryz.prog 75 #[va] w fun en w' => ∃ e : Int, -336 ≤ e ∧ e < 336 ∧ ¬ belowT p Q e ∧ belowT p Q (e + 1) ∧ en = .returned (.int .i64 e) ∧ Below w.heap.size w w' := by
  have hv0 := hv
  obtain ⟨s, X, Y, ⟨va', vb', rfl, ⟨A, c, rfl, hX⟩, ⟨B, d, rfl, hY⟩⟩, hq, hy, hs, l1, l2⟩ := hv
  have HV := Lib.hid hv0
  have HRX := Lib.hid hX
  have HRY := Lib.hid hY
  have HLX := Lib.hid (fun W (h : Rd W A X) => rlen_any A X.length c X W h rfl (by omega))
  have HLY := Lib.hid (fun W (h : Rd W B Y) => rlen_any B Y.length d Y W h rfl (by omega))
  have hpw : ∀ m : Nat, (4294967296 : Nat) ^ m = 2 ^ (32 * m) := fun m => by rw [show (4294967296 : Nat) = 2 ^ 32 from rfl, ← Nat.pow_mul]
  have b1 : blen (val X) ≤ 3200 := Nat.le_trans ((blen_lt (val X) (32 * X.length)).2 (by rw [← hpw]; exact val_lt hX.1)) (by omega)
  have b2 : blen (val Y) ≤ 3200 := Nat.le_trans ((blen_lt (val Y) (32 * Y.length)).2 (by rw [← hpw]; exact val_lt hY.1)) (by omega)
  clear hpw
  generalize blen (val X) = lx at *
  generalize blen (val Y) = ly at *
  have hkb : -1000 ≤ Int.tdiv (((lx : Int) - ly) * 3) 10 ∧ Int.tdiv (((lx : Int) - ly) * 3) 10 ≤ 1000 := tdiv_bd (by omega) (by omega)
  have HKB := Lib.hid hkb
  have HLO := Lib.hid hlo
  have HHI := Lib.hid hhi
  have HB0 := Lib.hid (rnew w (.cells #[.bool s, .slice A X.length c, .slice B Y.length d] 70))
  have HB3 := Lib.hid (Box3.new w (.bool s) (.slice A X.length c) (.slice B Y.length d))
  clear hv0 hX hY hs hy hlo hhi hkb
  go_enter Tryz.func75, Tryz.ntmps75
  go_upto_region 1 with fail
  generalize w.alloc (.cells #[.bool s, .slice A X.length c, .slice B Y.length d] 70) = wA at *
  refine region_at 10 (Pick [IsV (.pointer (some ⟨w.heap.size, 1, none⟩)), IsV (.slice A X.length c), IsV (.int .i64 (lx : Int)), IsV (.pointer (some ⟨w.heap.size, 2, none⟩)), IsV (.slice B Y.length d), IsV (.int .i64 (ly : Int)), IsV (.int .i64 ((lx : Int) - ly)), IsV (.int .i64 (((lx : Int) - ly) * 3)), IsV (.int .i64 (Int.tdiv (((lx : Int) - ly) * 3) 10)), IsV (.int .i64 (Int.tdiv (((lx : Int) - ly) * 3) 10))]) (by kernel_rfl) (by kernel_rfl) (by kernel_rfl) (mono_pick ⟨IsV.mono _, IsV.mono _, IsV.mono _, IsV.mono _, IsV.mono _, IsV.mono _, IsV.mono _, IsV.mono _, IsV.mono _, IsV.mono _, trivial⟩) ⟨?_, ?_, ?_, ?_, ?_, ?_, ?_, ?_, ?_, ?_, trivial⟩ ?_
  · intro a W hsz hb hS
    have h1 : a.tmps.getD 1 undef = .pointer (some ⟨w.heap.size, 0, none⟩) := hS.1
    clear hS hsz
    refine will_of rfl ?_
    intro K hK
    go_simp
    exact hK _ _ ⟨Below.refl _ _, rfl⟩
  · intro a W hsz hb hS
    have h4 : a.tmps.getD 4 undef = .pointer (some ⟨w.heap.size, 1, none⟩) := hS.1
    clear hS hsz
    refine will_of rfl ?_
    obtain ⟨b0, b1, b2⟩ := (HB3.out.later hb).cells
    intro K hK
    go_simp
    exact hK _ _ ⟨Below.refl _ _, rfl⟩
  · intro a W hsz hb hS
    have h5 : a.tmps.getD 5 undef = .slice A X.length c := hS.1
    clear hS hsz
    refine will_of rfl ?_
    obtain ⟨b0, b1, b2⟩ := (HB3.out.later hb).cells
    intro K hK
    go_simp
    refine (HLX.out W (HRX.out.below (raft HB0.out hb))).mono ?_
    rintro e W' ⟨rfl, rfl⟩
    exact hK _ _ ⟨Below.refl _ _, rfl⟩
  · intro a W hsz hb hS
    have h1 : a.tmps.getD 1 undef = .pointer (some ⟨w.heap.size, 0, none⟩) := hS.1
    clear hS hsz
    refine will_of rfl ?_
    intro K hK
    go_simp
    exact hK _ _ ⟨Below.refl _ _, rfl⟩
  · intro a W hsz hb hS
    have h7 : a.tmps.getD 7 undef = .pointer (some ⟨w.heap.size, 2, none⟩) := hS.1
    clear hS hsz
    refine will_of rfl ?_
    obtain ⟨b0, b1, b2⟩ := (HB3.out.later hb).cells
    intro K hK
    go_simp
    exact hK _ _ ⟨Below.refl _ _, rfl⟩
  · intro a W hsz hb hS
    have h8 : a.tmps.getD 8 undef = .slice B Y.length d := hS.1
    clear hS hsz
    refine will_of rfl ?_
    obtain ⟨b0, b1, b2⟩ := (HB3.out.later hb).cells
    intro K hK
    go_simp
    refine (HLY.out W (HRY.out.below (raft HB0.out hb))).mono ?_
    rintro e W' ⟨rfl, rfl⟩
    exact hK _ _ ⟨Below.refl _ _, rfl⟩
  · intro a W hsz hb hS
    have h6 : a.tmps.getD 6 undef = .int .i64 (lx : Int) := hS.1
    have h9 : a.tmps.getD 9 undef = .int .i64 (ly : Int) := hS.2.1
    clear hS hsz
    refine will_of rfl ?_
    intro K hK
    go_simp
    exact hK _ _ ⟨Below.refl _ _, congrArg (Value.int .i64) (w64b (by omega) (by omega))⟩
  · intro a W hsz hb hS
    have h10 : a.tmps.getD 10 undef = .int .i64 ((lx : Int) - ly) := hS.1
    clear hS hsz
    refine will_of rfl ?_
    intro K hK
    go_simp
    exact hK _ _ ⟨Below.refl _ _, congrArg (Value.int .i64) (w64b (by omega) (by omega))⟩
  · intro a W hsz hb hS
    have h11 : a.tmps.getD 11 undef = .int .i64 (((lx : Int) - ly) * 3) := hS.1
    clear hS hsz
    refine will_of rfl ?_
    intro K hK
    have hkb := HKB.out
    go_simp
    exact hK _ _ ⟨Below.refl _ _, congrArg (Value.int .i64) (w64b (by omega) (by omega))⟩
  · intro a W hsz hb hS
    have h12 : a.tmps.getD 12 undef = .int .i64 (Int.tdiv (((lx : Int) - ly) * 3) 10) := hS.1
    clear hS hsz
    refine will_of rfl ?_
    intro K hK
    go_simp
    exact hK _ _ ⟨Below.refl _ _, rfl⟩
  intro f W hb hH
  have e0 : f 0 = .pointer (some ⟨w.heap.size, 1, none⟩) := hH.1
  have e1 : f 1 = .slice A X.length c := hH.2.1
  have e2 : f 2 = .int .i64 (lx : Int) := hH.2.2.1
  have e3 : f 3 = .pointer (some ⟨w.heap.size, 2, none⟩) := hH.2.2.2.1
  have e4 : f 4 = .slice B Y.length d := hH.2.2.2.2.1
  have e5 : f 5 = .int .i64 (ly : Int) := hH.2.2.2.2.2.1
  have e6 : f 6 = .int .i64 ((lx : Int) - ly) := hH.2.2.2.2.2.2.1
  have e7 : f 7 = .int .i64 (((lx : Int) - ly) * 3) := hH.2.2.2.2.2.2.2.1
  have e8 : f 8 = .int .i64 (Int.tdiv (((lx : Int) - ly) * 3) 10) := hH.2.2.2.2.2.2.2.2.1
  have e9 : f 9 = .int .i64 (Int.tdiv (((lx : Int) - ly) * 3) 10) := hH.2.2.2.2.2.2.2.2.2.1
  simp only [List.take_succ_cons, List.take_zero, List.drop_succ_cons, List.drop_zero, putFrom, Act.put, List.setIfInBounds_toArray, List.set_cons_zero, List.set_cons_succ, Nat.reduceAdd, e0, e1, e2, e3, e4, e5, e6, e7, e8, e9]
  clear e0 e1 e2 e3 e4 e5 e6 e7 e8 e9 hH f
  have HB1 := Lib.hid hb
  clear hb
  have HB3 := Lib.hid (HB3.out.later HB1.out)
  have HBL := Lib.hid (raft HB0.out HB1.out)
  obtain ⟨k0, hk0⟩ : ∃ k, Int.tdiv (((lx : Int) - ly) * 3) 10 = k := ⟨_, rfl⟩
  rw [hk0] at HKB ⊢
  clear hk0 HB0 HB1 HLX HLY HRX HRY b1 b2
  go_wp2
  go_loopw [3] (fun kv wr => ∃ k : Int, kv = .int .i64 k ∧ -1000 ≤ k ∧ k ≤ 1000 ∧ Hid (Below w.heap.size w wr ∧ Box3 wr w.heap.size (.bool s) (.slice A X.length c) (.slice B Y.length d))) (fun kv _ => (intOf kv + 1000).toNat)
  case atStart => exact ⟨k0, rfl, HKB.out.1, HKB.out.2, HBL.out, HB3.out⟩
  case round =>
    clear HB3 HBL HKB
    obtain ⟨k, rfl, hk1, hk2, hI⟩ := hrel
    have HBL := Lib.hid hI.out.1
    have HB3 := Lib.hid hI.out.2
    clear hI
    obtain ⟨cc, hcc⟩ : ∃ cc, icmp (((10 ^ k.toNat : Nat) : Int) * (Q : Int)) ((p : Int) * ((10 ^ (-k).toNat : Nat) : Int)) = cc := ⟨_, rfl⟩
    have hct := icmp_ten p Q k
    have HCM := Lib.hid (fun va' vb' W (h : IsRV ((10 ^ k.toNat : Nat) : Int) (10 ^ (-k).toNat) 10000 va' W) (h' : IsRV (p : Int) Q 100 vb' W) => rv_cmp h h' (by omega) (by omega))
    rw [hcc] at HCM hct
    obtain ⟨bb, hbb⟩ : ∃ bb, decide (0 < cc) = bb := ⟨_, rfl⟩
    have HBB := Lib.hid hbb
    have HCT := Lib.hid hct
    clear hcc hct hbb
    go_upto_region 2 with fail
    refine region_at 5 (Pick [IsV (.int .i64 k), (IsRV ((10 ^ (k).toNat : Nat) : Int) (10 ^ (-(k)).toNat) 10000), IsV (.agg #[.bool s, .slice A X.length c, .slice B Y.length d]), IsV (.int .i64 cc), IsV (.bool bb)]) (by kernel_rfl) (by kernel_rfl) (by kernel_rfl) (mono_pick ⟨IsV.mono _, IsRV.mono _ _ _, IsV.mono _, IsV.mono _, IsV.mono _, trivial⟩) ⟨?_, ?_, ?_, ?_, ?_, trivial⟩ ?_
    · intro a W hsz hb hS
      have h3 : a.tmps.getD 3 undef = .int .i64 k := hS.1
      clear hS hsz
      refine will_of rfl ?_
      intro K hK
      go_simp
      exact hK _ _ ⟨Below.refl _ _, rfl⟩
    · intro a W hsz hb hS
      have h13 : a.tmps.getD 13 undef = .int .i64 k := hS.1
      clear hS hsz
      refine will_of rfl ?_
      obtain ⟨b0, b1, b2⟩ := (HB3.out.later hb).cells
      intro K hK
      go_simp
      refine (power_rv (k) (by omega) (by omega) W).mono ?_
      rintro e W' ⟨v, rfl, hv, hb'⟩
      exact hK _ _ ⟨hb', hv⟩
    · intro a W hsz hb hS
      have h1 : a.tmps.getD 1 undef = .pointer (some ⟨w.heap.size, 0, none⟩) := hS.1
      clear hS hsz
      refine will_of rfl ?_
      obtain ⟨b0, b1, b2⟩ := (HB3.out.later hb).cells
      intro K hK
      go_simp
      exact hK _ _ ⟨Below.refl _ _, rfl⟩
    · intro a W hsz hb hS
      have q14 : (IsRV ((10 ^ (k).toNat : Nat) : Int) (10 ^ (-(k)).toNat) 10000) (a.tmps.getD 14 undef) W := hS.1
      have h15 : a.tmps.getD 15 undef = .agg #[.bool s, .slice A X.length c, .slice B Y.length d] := hS.2.1
      clear hS hsz
      obtain ⟨v14, h14⟩ : ∃ v, a.tmps.getD 14 undef = v := ⟨_, rfl⟩
      rw [h14] at q14
      refine will_of rfl ?_
      obtain ⟨b0, b1, b2⟩ := (HB3.out.later hb).cells
      intro K hK
      go_simp
      refine (HCM.out _ _ W q14 (IsRV.mono _ _ _ _ _ _ (raft HBL.out hb) HV.out)).mono ?_
      rintro e W' ⟨v, rfl, hv, hb'⟩
      exact hK _ _ ⟨hb', hv⟩
    · intro a W hsz hb hS
      have h16 : a.tmps.getD 16 undef = .int .i64 cc := hS.1
      clear hS hsz
      refine will_of rfl ?_
      intro K hK
      go_simp
      exact hK _ _ ⟨Below.refl _ _, congrArg Value.bool HBB.out⟩
    intro f W hb hH
    have e0 : f 0 = .int .i64 k := hH.1
    obtain ⟨x1, y1⟩ : ∃ x, f 1 = x := ⟨_, rfl⟩
    have q1 : (IsRV ((10 ^ (k).toNat : Nat) : Int) (10 ^ (-(k)).toNat) 10000) (f 1) W := hH.2.1
    rw [y1] at q1
    have e2 : f 2 = .agg #[.bool s, .slice A X.length c, .slice B Y.length d] := hH.2.2.1
    have e3 : f 3 = .int .i64 cc := hH.2.2.2.1
    have e4 : f 4 = .bool bb := hH.2.2.2.2.1
    simp only [List.take_succ_cons, List.take_zero, List.drop_succ_cons, List.drop_zero, putFrom, Act.put, List.setIfInBounds_toArray, List.set_cons_zero, List.set_cons_succ, Nat.reduceAdd, e0, y1, e2, e3, e4]
    clear e0 y1 e2 e3 e4 hH f
    have HBL := Lib.hid (raft HBL.out hb)
    have HB3 := Lib.hid (HB3.out.later hb)
    clear hb
    cases bb
    · have hnb : ¬ belowT p Q k := fun h => of_decide_eq_false HBB.out (HCT.out.2 h)
      have hk3 : -336 ≤ k ∨ True := .inr trivial
      have HNB := Lib.hid hnb
      clear hnb hk3 HCM HCT HBB
      go_wp2
      go_loopw [3] (fun kv wr => ∃ k : Int, kv = .int .i64 k ∧ -1000 ≤ k ∧ k ≤ 1000 ∧ Hid (¬ belowT p Q k ∧ Below w.heap.size w wr ∧ Box3 wr w.heap.size (.bool s) (.slice A X.length c) (.slice B Y.length d))) (fun kv _ => (1000 - intOf kv).toNat)
      case atStart => exact ⟨k, rfl, hk1, hk2, HNB.out, HBL.out, HB3.out⟩
      case round =>
        clear HB3 HBL HNB
        obtain ⟨k, rfl, hk1, hk2, hI⟩ := hrel
        have HNB := Lib.hid hI.out.1
        have HBL := Lib.hid hI.out.2.1
        have HB3 := Lib.hid hI.out.2.2
        clear hI
        obtain ⟨cc, hcc⟩ : ∃ cc, icmp (((10 ^ (k + 1).toNat : Nat) : Int) * (Q : Int)) ((p : Int) * ((10 ^ (-(k + 1)).toNat : Nat) : Int)) = cc := ⟨_, rfl⟩
        have hct := icmp_ten p Q (k + 1)
        have HCM := Lib.hid (fun va' vb' W (h : IsRV ((10 ^ (k + 1).toNat : Nat) : Int) (10 ^ (-(k + 1)).toNat) 10000 va' W) (h' : IsRV (p : Int) Q 100 vb' W) => rv_cmp h h' (by omega) (by omega))
        rw [hcc] at HCM hct
        obtain ⟨bb, hbb⟩ : ∃ bb, decide (cc ≤ 0) = bb := ⟨_, rfl⟩
        have HBB := Lib.hid hbb
        have HCT := Lib.hid hct
        clear hcc hct hbb
        go_upto_region 4 with fail
        refine region_at 6 (Pick [IsV (.int .i64 k), IsV (.int .i64 (k + 1)), (IsRV ((10 ^ (k + 1).toNat : Nat) : Int) (10 ^ (-(k + 1)).toNat) 10000), IsV (.agg #[.bool s, .slice A X.length c, .slice B Y.length d]), IsV (.int .i64 cc), IsV (.bool bb)]) (by kernel_rfl) (by kernel_rfl) (by kernel_rfl) (mono_pick ⟨IsV.mono _, IsV.mono _, IsRV.mono _ _ _, IsV.mono _, IsV.mono _, IsV.mono _, trivial⟩) ⟨?_, ?_, ?_, ?_, ?_, ?_, trivial⟩ ?_
        · intro a W hsz hb hS
          have h3 : a.tmps.getD 3 undef = .int .i64 k := hS.1
          clear hS hsz
          refine will_of rfl ?_
          intro K hK
          go_simp
          exact hK _ _ ⟨Below.refl _ _, rfl⟩
        · intro a W hsz hb hS
          have h20 : a.tmps.getD 20 undef = .int .i64 k := hS.1
          clear hS hsz
          refine will_of rfl ?_
          intro K hK
          go_simp
          exact hK _ _ ⟨Below.refl _ _, congrArg (Value.int .i64) (w64b (by omega) (by omega))⟩
        · intro a W hsz hb hS
          have h21 : a.tmps.getD 21 undef = .int .i64 (k + 1) := hS.1
          clear hS hsz
          refine will_of rfl ?_
          obtain ⟨b0, b1, b2⟩ := (HB3.out.later hb).cells
          intro K hK
          go_simp
          refine (power_rv (k + 1) (by omega) (by omega) W).mono ?_
          rintro e W' ⟨v, rfl, hv, hb'⟩
          exact hK _ _ ⟨hb', hv⟩
        · intro a W hsz hb hS
          have h1 : a.tmps.getD 1 undef = .pointer (some ⟨w.heap.size, 0, none⟩) := hS.1
          clear hS hsz
          refine will_of rfl ?_
          obtain ⟨b0, b1, b2⟩ := (HB3.out.later hb).cells
          intro K hK
          go_simp
          exact hK _ _ ⟨Below.refl _ _, rfl⟩
        · intro a W hsz hb hS
          have q22 : (IsRV ((10 ^ (k + 1).toNat : Nat) : Int) (10 ^ (-(k + 1)).toNat) 10000) (a.tmps.getD 22 undef) W := hS.1
          have h23 : a.tmps.getD 23 undef = .agg #[.bool s, .slice A X.length c, .slice B Y.length d] := hS.2.1
          clear hS hsz
          obtain ⟨v22, h22⟩ : ∃ v, a.tmps.getD 22 undef = v := ⟨_, rfl⟩
          rw [h22] at q22
          refine will_of rfl ?_
          obtain ⟨b0, b1, b2⟩ := (HB3.out.later hb).cells
          intro K hK
          go_simp
          refine (HCM.out _ _ W q22 (IsRV.mono _ _ _ _ _ _ (raft HBL.out hb) HV.out)).mono ?_
          rintro e W' ⟨v, rfl, hv, hb'⟩
          exact hK _ _ ⟨hb', hv⟩
        · intro a W hsz hb hS
          have h24 : a.tmps.getD 24 undef = .int .i64 cc := hS.1
          clear hS hsz
          refine will_of rfl ?_
          intro K hK
          go_simp
          exact hK _ _ ⟨Below.refl _ _, congrArg Value.bool HBB.out⟩
        intro f W hb hH
        have e0 : f 0 = .int .i64 k := hH.1
        have e1 : f 1 = .int .i64 (k + 1) := hH.2.1
        obtain ⟨x2, y2⟩ : ∃ x, f 2 = x := ⟨_, rfl⟩
        have q2 : (IsRV ((10 ^ (k + 1).toNat : Nat) : Int) (10 ^ (-(k + 1)).toNat) 10000) (f 2) W := hH.2.2.1
        rw [y2] at q2
        have e3 : f 3 = .agg #[.bool s, .slice A X.length c, .slice B Y.length d] := hH.2.2.2.1
        have e4 : f 4 = .int .i64 cc := hH.2.2.2.2.1
        have e5 : f 5 = .bool bb := hH.2.2.2.2.2.1
        simp only [List.take_succ_cons, List.take_zero, List.drop_succ_cons, List.drop_zero, putFrom, Act.put, List.setIfInBounds_toArray, List.set_cons_zero, List.set_cons_succ, Nat.reduceAdd, e0, e1, y2, e3, e4, e5]
        clear e0 e1 y2 e3 e4 e5 hH f
        have HBL := Lib.hid (raft HBL.out hb)
        have HB3 := Lib.hid (HB3.out.later hb)
        clear hb
        cases bb
        · have hb : belowT p Q (k + 1) := HCT.out.1 (by have := of_decide_eq_false HBB.out; omega)
          have hk3 : -336 ≤ k := by
            refine Classical.byContradiction fun hc => HLO.out (belowT_mono hb (by omega))
          have hk4 : k < 336 := by
            refine Classical.byContradiction fun hc => HNB.out (belowT_mono HHI.out (by omega))
          have HBE := Lib.hid hb
          clear hb HCM HCT HBB
          go_wp2
          go_ret
          exact ⟨k, hk3, hk4, HNB.out, HBE.out, rfl, HBL.out⟩
        · have hb : ¬ belowT p Q (k + 1) := fun h => by have := HCT.out.2 h; have := of_decide_eq_true HBB.out; omega
          have hk4 : k + 1 < 336 := by
            refine Classical.byContradiction fun hc => hb (belowT_mono HHI.out (by omega))
          have HBE := Lib.hid hb
          clear hb HCM HCT HBB
          go_wp2
          go_roundw
          case rel => exact ⟨k + 1, by go_num, by omega, by omega, HBE.out, HBL.out, HB3.out⟩
          case measure => simp [intOf]; omega
    · have hb : belowT p Q k := HCT.out.1 (of_decide_eq_true HBB.out)
      have hk3 : -336 < k := by
        refine Classical.byContradiction fun hc => HLO.out (belowT_mono hb (by omega))
      clear hb HCM HCT HBB
      go_wp2
      go_roundw
      case rel => exact ⟨k - 1, by go_num, by omega, by omega, HBL.out, HB3.out⟩
      case measure => simp [intOf]; omega
end Go.Proofs.YtcomkgmonhidhaaGreatDoor
end

section
namespace Go.Proofs.YtcomkgmonhidhaaGreatDoor
set_option linter.unusedVariables false
set_option linter.unusedSimpArgs false
open Go.RowKit Verge

/-- The 53 bits of a number, the first one 1; its power of 2. -/
def hxm (b : Nat) : Nat := fbF b * 2 ^ (53 - blen (fbF b))
def hxe (b : Nat) : Int := (fbE b : Int) - 1075 + blen (fbF b)
theorem blen_shl {o u : Nat} (h : o ≠ 0) : blen (o * 2 ^ u) = blen o + u := by
  have e : o * 2 ^ u / 2 ^ u = o := Nat.mul_div_cancel _ (Nat.two_pow_pos u)
  have := blen_div (o * 2 ^ u) u (by rw [e]; exact h)
  rw [e] at this
  omega
theorem fbF_blen (b : Nat) : blen (fbF b) ≤ 53 := (blen_lt _ _).2 (by have := fbF_lt b; omega)
theorem hxm_range {b : Nat} (h : fbF b ≠ 0) : 4503599627370496 ≤ hxm b ∧ hxm b < 9007199254740992 := by
  unfold hxm
  have h1 := fbF_blen b
  have h2 := blen_pos h
  have h3 : blen (fbF b * 2 ^ (53 - blen (fbF b))) = 53 := by rw [blen_shl h]; omega
  constructor
  · have := blen_le (n := fbF b * 2 ^ (53 - blen (fbF b))) (Nat.mul_ne_zero h (by have := Nat.two_pow_pos (53 - blen (fbF b)); omega))
    rw [h3] at this
    exact this
  · exact (blen_lt _ 53).1 (by omega)
theorem hx_doc {b : Nat} (h : fbF b ≠ 0) : fbN b ≠ 0 ∧ fbN b * 2 ^ 52 / 2 ^ (blen (fbN b) - 1) = hxm b ∧ ((blen (fbN b) - 1 : Nat) : Int) - ((blen (fbD b) - 1 : Nat) : Int) = hxe b := by
  have n1 : ntz 1 = 0 := ntz_of 1 0 0 (by simp)
  obtain ⟨m, hm⟩ := ntz_spec (fbF b) h
  have hF := fbF_blen b
  unfold hxm hxe fbN fbD fracN fracD fracE
  rw [if_neg h, if_neg h, n1]
  generalize ntz (fbF b) = t at *
  have ho : fbF b / 2 ^ t = 2 * m + 1 := by rw [hm]; exact Nat.mul_div_cancel_left _ (Nat.two_pow_pos t)
  have hb : blen (fbF b) = t + blen (2 * m + 1) := by
    have := blen_div (fbF b) t (by rw [ho]; omega)
    rw [ho] at this; exact this
  rw [ho]
  rw [hb] at hF ⊢
  generalize ho2 : 2 * m + 1 = o at *
  have h0 : o ≠ 0 := by omega
  have hp := blen_pos h0
  obtain ⟨E, hE⟩ : ∃ E : Int, (fbE b : Int) - 1074 + t - 0 = E := ⟨_, rfl⟩
  have hE' : ((fbE b : Int) - 1074 + (t : Int) - ((0 : Nat) : Int)) = E := hE
  rw [hE']
  obtain ⟨u, hu⟩ : ∃ u, E.toNat = u := ⟨_, rfl⟩
  obtain ⟨d, hd⟩ : ∃ u, (-E).toNat = u := ⟨_, rfl⟩
  rw [hu, hd]
  have hD : blen (1 / 2 ^ 0 * 2 ^ d) = d + 1 := by
    rw [show (1 : Nat) / 2 ^ 0 * 2 ^ d = 2 ^ d by simp]
    exact blen_of _ d (Nat.le_refl _) (Nat.pow_lt_pow_right (by omega) (by omega))
  rw [hD, blen_shl h0]
  refine ⟨Nat.mul_ne_zero h0 (by have := Nat.two_pow_pos u; omega), ?_, by omega⟩
  have e1 : o * 2 ^ u * 2 ^ 52 = o * 2 ^ (53 - blen o) * 2 ^ (blen o + u - 1) := by
    rw [Nat.mul_assoc, Nat.mul_assoc, ← Nat.pow_add, ← Nat.pow_add]
    congr 2; omega
  rw [e1, Nat.mul_div_cancel _ (Nat.two_pow_pos _), hm, Nat.mul_comm (2 ^ t), Nat.mul_assoc, ← Nat.pow_add]
  congr 2; omega
/-- The loop that lays the first bit. -/
theorem hx_loop {b i : Nat} (h : fbF b ≠ 0) (hi : i ≤ 53 - blen (fbF b)) : (fbF b * 2 ^ i < 4503599627370496 ↔ i < 53 - blen (fbF b)) ∧ fbF b * 2 ^ i < 9007199254740992 := by
  have hF := fbF_blen b
  have hb := blen_shl (u := i) h
  refine ⟨?_, ?_⟩
  · have := blen_lt (fbF b * 2 ^ i) 52
    rw [hb] at this
    have e : (2 : Nat) ^ 52 = 4503599627370496 := by decide
    rw [e] at this
    omega
  · have := (blen_lt (fbF b * 2 ^ i) 53).1 (by omega)
    have e : (2 : Nat) ^ 53 = 9007199254740992 := by decide
    rw [e] at this
    exact this
theorem hx_more {b i : Nat} : fbF b * 2 ^ i * 2 = fbF b * 2 ^ (i + 1) := by rw [Nat.pow_succ, Nat.mul_assoc]
/-- The text. -/
def hxtext (b : Nat) : List UInt8 :=
  (if 9223372036854775808 ≤ b then [45] else []) ++ [48, 120, 49] ++ (if hxm b = 4503599627370496 then [] else 46 :: hexs 13 (hxm b - 4503599627370496)) ++ 112 :: Lib.itoa (hxe b)
end Go.Proofs.YtcomkgmonhidhaaGreatDoor

/- Layer 5: plain words on the noughts at a number's end, and on the scientific form. -/
namespace Go.Proofs.YtcomkgmonhidhaaGreatDoor
set_option linter.unusedVariables false
set_option linter.unusedSimpArgs false
open Go.RowKit Verge

/-- The noughts at the end of a number, counted. -/
def tz10 (n : Nat) : Nat := if h : 0 < n ∧ n % 10 = 0 then tz10 (n / 10) + 1 else 0
termination_by n
decreasing_by omega
/-- A number without the noughts at its end. -/
def core (n : Nat) : Nat := if h : 0 < n ∧ n % 10 = 0 then core (n / 10) else n
termination_by n
decreasing_by omega
theorem tz10_step {n : Nat} (h : 0 < n) (h0 : n % 10 = 0) : tz10 n = tz10 (n / 10) + 1 := by rw [tz10, dif_pos ⟨h, h0⟩]
theorem tz10_end {n : Nat} (h0 : n % 10 ≠ 0) : tz10 n = 0 := by rw [tz10, dif_neg (by omega)]
theorem core_step {n : Nat} (h : 0 < n) (h0 : n % 10 = 0) : core n = core (n / 10) := by rw [core, dif_pos ⟨h, h0⟩]
theorem core_end {n : Nat} (h0 : n % 10 ≠ 0) : core n = n := by rw [core, dif_neg (by omega)]
theorem core_pow {n : Nat} (h : 0 < n) : ∀ t, core (n * 10 ^ t) = core n ∧ tz10 (n * 10 ^ t) = tz10 n + t
  | 0 => by simp
  | t + 1 => by
    have hp : 0 < n * 10 ^ (t + 1) := Nat.mul_pos h (Nat.pow_pos (by omega))
    have e : n * 10 ^ (t + 1) = n * 10 ^ t * 10 := by rw [Nat.pow_succ, Nat.mul_assoc]
    have hm : n * 10 ^ (t + 1) % 10 = 0 := by rw [e]; omega
    have hd : n * 10 ^ (t + 1) / 10 = n * 10 ^ t := by rw [e]; omega
    obtain ⟨i1, i2⟩ := core_pow h t
    rw [core_step hp hm, tz10_step hp hm, hd, i1, i2]
    exact ⟨rfl, by omega⟩
theorem txt_some {n : Nat} (h : 0 < n) : 0 < (txt n).length := by rw [txt_step h, List.length_append]; simp
/-- The text of a number that ends in a nought. -/
theorem txt_ten {n : Nat} (h : 0 < n) (h0 : n % 10 = 0) : txt n = txt (n / 10) ++ [48] := by
  rw [txt_step h, h0]; rfl
theorem byte_nought (d : Nat) (h : d < 10) : (UInt8.ofNat (48 + d) = 48) ↔ d = 0 := by
  constructor
  · intro e
    have := congrArg UInt8.toNat e
    simp at this
    omega
  · rintro rfl; rfl
/-- The scientific form of digits, times 10 to the k. -/
def ftext (neg : Bool) (d : List UInt8) (k : Int) : List UInt8 :=
  (if neg = true then [45] else []) ++ (d.take 1 ++ (if 1 < d.length then 46 :: d.drop 1 else [])) ++ 101 :: Lib.itoa ((d.length : Int) - 1 + k)
/-- The program's digits are the document's, with as many noughts more as 2s were taken out. -/
theorem exact_law {b : Nat} (h : fbF b ≠ 0) {A k : Nat} (hA : A = fbF b * 2 ^ ((fbE b : Int) - 1074).toNat * 5 ^ (-((fbE b : Int) - 1074)).toNat) (hk : k = (-((fbE b : Int) - 1074)).toNat) :
    0 < A ∧ 0 < fbN b * 5 ^ (blen (fbD b) - 1) ∧ core A = core (fbN b * 5 ^ (blen (fbD b) - 1)) ∧ (tz10 A : Int) - k = (tz10 (fbN b * 5 ^ (blen (fbD b) - 1)) : Int) - ((blen (fbD b) - 1 : Nat) : Int) := by
  have n1 : ntz 1 = 0 := ntz_of 1 0 0 (by simp)
  obtain ⟨m, hm⟩ := ntz_spec (fbF b) h
  have hN : fbN b ≠ 0 := (hx_doc h).1
  have hA0 : 0 < A := by
    rw [hA]
    exact Nat.mul_pos (Nat.mul_pos (by omega) (Nat.two_pow_pos _)) (Nat.pow_pos (by omega))
  have hB0 : 0 < fbN b * 5 ^ (blen (fbD b) - 1) := Nat.mul_pos (by omega) (Nat.pow_pos (by omega))
  refine ⟨hA0, hB0, ?_⟩
  suffices hs : ∃ t, A = fbN b * 5 ^ (blen (fbD b) - 1) * 10 ^ t ∧ k = (blen (fbD b) - 1) + t by
    obtain ⟨t, e1, e2⟩ := hs
    obtain ⟨c1, c2⟩ := core_pow hB0 t
    rw [e1, c1, c2, e2]
    exact ⟨rfl, by omega⟩
  have hD : fbD b = 2 ^ (-((fbE b : Int) - 1074 + ntz (fbF b))).toNat := by
    unfold fbD fracD fracE
    rw [if_neg h, n1]
    simp
  have hNN : fbN b = (2 * m + 1) * 2 ^ ((fbE b : Int) - 1074 + ntz (fbF b)).toNat := by
    unfold fbN fracN fracE
    rw [if_neg h, n1]
    have ho : fbF b / 2 ^ ntz (fbF b) = 2 * m + 1 := Nat.div_eq_of_eq_mul_right (Nat.two_pow_pos _) hm
    rw [ho]
    simp
  have hbl : blen (fbD b) - 1 = (-((fbE b : Int) - 1074 + ntz (fbF b))).toNat := by
    rw [hD, blen_of _ _ (Nat.le_refl _) (Nat.pow_lt_pow_right (by omega) (by omega))]
    omega
  rw [hbl, hNN]
  generalize hE : (fbE b : Int) - 1074 = E at *
  generalize ntz (fbF b) = t at *
  rw [hm] at hA
  obtain ⟨u, hu⟩ : ∃ u, (-E).toNat = u := ⟨_, rfl⟩
  obtain ⟨v, hv⟩ : ∃ u, E.toNat = u := ⟨_, rfl⟩
  obtain ⟨x, hx⟩ : ∃ u, (-(E + t)).toNat = u := ⟨_, rfl⟩
  obtain ⟨y, hy⟩ : ∃ u, (E + t).toNat = u := ⟨_, rfl⟩
  rw [hu, hv] at hA
  rw [hu] at hk
  rw [hx, hy]
  refine ⟨u - x, ?_, by omega⟩
  have e10 : (10 : Nat) ^ (u - x) = 2 ^ (u - x) * 5 ^ (u - x) := by rw [← Nat.mul_pow]
  have e2 : t + v = y + (u - x) := by omega
  have e5 : u = x + (u - x) := by omega
  rw [hA, e10]
  have p2 : (2 : Nat) ^ t * 2 ^ v = 2 ^ y * 2 ^ (u - x) := by rw [← Nat.pow_add, ← Nat.pow_add, e2]
  have p5 : (5 : Nat) ^ u = 5 ^ x * 5 ^ (u - x) := by rw [← Nat.pow_add, ← e5]
  rw [p5]
  generalize (5 : Nat) ^ x = f at *
  generalize (5 : Nat) ^ (u - x) = g at *
  calc 2 ^ t * (2 * m + 1) * 2 ^ v * (f * g) = (2 ^ t * 2 ^ v) * ((2 * m + 1) * (f * g)) := by ac_rfl
    _ = (2 ^ y * 2 ^ (u - x)) * ((2 * m + 1) * (f * g)) := by rw [p2]
    _ = (2 * m + 1) * 2 ^ y * f * (2 ^ (u - x) * g) := by ac_rfl
theorem exact_k {b : Nat} (h : fbF b ≠ 0) : blen (fbD b) - 1 ≤ 1074 := by
  have n1 : ntz 1 = 0 := ntz_of 1 0 0 (by simp)
  have hD : fbD b = 2 ^ (-((fbE b : Int) - 1074 + ntz (fbF b))).toNat := by
    unfold fbD fracD fracE
    rw [if_neg h, n1]
    simp
  rw [hD, blen_of _ _ (Nat.le_refl _) (Nat.pow_lt_pow_right (by omega) (by omega))]
  omega
theorem five_blen (k : Nat) : blen (5 ^ k) ≤ 3 * k + 1 := by
  rw [blen_lt, Nat.pow_succ, Nat.pow_mul]
  have h1 : (5 : Nat) ^ k ≤ (2 ^ 3) ^ k := Nat.pow_le_pow_left (by omega) k
  have h2 := Nat.pow_pos (n := k) (show 0 < (2 : Nat) ^ 3 by decide)
  omega
theorem blen_mul_le {x y i j : Nat} (h1 : blen x ≤ i) (h2 : blen y ≤ j) : blen (x * y) ≤ i + j := by
  rw [blen_lt] at *
  rw [Nat.pow_add]
  rcases Nat.eq_zero_or_pos y with h | h
  · subst h; rw [Nat.mul_zero]; exact Nat.mul_pos (Nat.two_pow_pos _) (Nat.two_pow_pos _)
  · exact Nat.lt_of_lt_of_le (Nat.mul_lt_mul_of_pos_right h1 h) (Nat.mul_le_mul_left _ (Nat.le_of_lt h2))
end Go.Proofs.YtcomkgmonhidhaaGreatDoor
end
