/- Contracts of vergeref2's ratios: RNeg. -/
import Derived.Test.YtmmbbkeefphaiaaAns
namespace Go.Proofs.Ytmmbbkeefphaiaa
set_option linter.unusedVariables false
set_option linter.unusedSimpArgs false
open Go.RowKit Verge

section
variable (s : Bool) (X Y : List Nat) (va vb : Value) (w : World)
set_option maxRecDepth 20000 in
set_option maxHeartbeats 4000000 in
theorem rneg_is (ha : IsL X va w) (hb : IsL Y vb w) (h1 : X.length ≤ 35184372088800) (h2 : Y.length ≤ 35184372088800) :
    Calls Try.prog 31 #[.agg #[.bool s, va, vb]] w (Ans w (IsQ (!s && decide (0 < X.length)) (val X) (val Y))) := by
  have HB := Lib.hid (raft (rnew w (.cells #[.bool s, va, vb] 35)) (rnew _ ratO))
  have HC := Lib.hid ((Box3.new w (.bool s) va vb).later (rnew _ ratO))
  have HO := Lib.hid (Box.new (w.alloc (.cells #[.bool s, va, vb] 35)))
  rw [show (w.alloc (.cells #[.bool s, va, vb] 35)).heap.size = w.heap.size + 1 by simp] at HO
  have HX := Lib.hid (IsL.mono _ _ _ _ HB.out ha)
  have HY := Lib.hid (IsL.mono _ _ _ _ HB.out hb)
  obtain ⟨A, c, rfl, _⟩ := ha
  obtain ⟨g, hg⟩ : ∃ g, decide (0 < X.length) = g := ⟨_, rfl⟩
  have hgI : decide ((0 : Int) < (X.length : Int)) = g := by rw [← hg]; exact decide_eq_decide.2 (by omega)
  rw [hg]
  have H1 := Lib.hid h1
  have H2 := Lib.hid h2
  clear hb h1 h2
  go_enter Try.func31, Try.ntmps31
  rcases (show s = true ∨ s = false by cases s <;> simp) with hs | hs
  · subst hs
    go_wp2_with fail
    refine region_at 16 (Pick [IsV (.pointer (some ⟨w.heap.size, 0, none⟩)), IsV (.bool true), IsV (.bool false), IsV (.bool false), IsV (undef), IsV (undef), IsV (undef), IsV (undef), IsV (.bool false), IsV (.pointer (some ⟨w.heap.size, 1, none⟩)), IsV (.slice A X.length c), IsN (val X), IsV (.pointer (some ⟨w.heap.size, 2, none⟩)), IsV (vb), IsN (val Y), IsQ false (val X) (val Y)]) (by kernel_rfl) (by kernel_rfl) (by kernel_rfl) (mono_pick ⟨IsV.mono _, IsV.mono _, IsV.mono _, IsV.mono _, IsV.mono _, IsV.mono _, IsV.mono _, IsV.mono _, IsV.mono _, IsV.mono _, IsV.mono _, IsN.mono _, IsV.mono _, IsV.mono _, IsN.mono _, IsQ.mono _ _ _, trivial⟩) ⟨?_, ?_, ?_, ?_, ?_, ?_, ?_, ?_, ?_, ?_, ?_, ?_, ?_, ?_, ?_, ?_, trivial⟩ ?_
    · intro a W hsz hb hS
      have h1 : a.tmps.getD 1 undef = .pointer (some ⟨w.heap.size, 0, none⟩) := hS.1
      clear hS hsz
      refine will_of rfl ?_
      intro K hK
      go_simp
      exact hK _ _ ⟨Below.refl _ _, rfl⟩
    · intro a W hsz hb hS
      have h3 : a.tmps.getD 3 undef = .pointer (some ⟨w.heap.size, 0, none⟩) := hS.1
      clear hS hsz
      refine will_of rfl ?_
      obtain ⟨k0, k1, k2⟩ := (HC.out.later hb).cells
      intro K hK
      go_simp
      exact hK _ _ ⟨Below.refl _ _, rfl⟩
    · intro a W hsz hb hS
      have h4 : a.tmps.getD 4 undef = .bool true := hS.1
      clear hS hsz
      refine will_of rfl ?_
      intro K hK
      go_simp
      exact hK _ _ ⟨Below.refl _ _, rfl⟩
    · intro a W hsz hb hS
      have h5 : a.tmps.getD 5 undef = .bool false := hS.1
      clear hS hsz
      refine will_of rfl ?_
      intro K hK
      go_simp
      exact hK _ _ ⟨Below.refl _ _, rfl⟩
    · intro a W hsz hb hS
      have h1 : a.tmps.getD 1 undef = .pointer (some ⟨w.heap.size, 0, none⟩) := hS.1
      have h6 : a.tmps.getD 6 undef = .bool false := hS.2.1
      clear hS hsz
      exact will_no rfl rfl h6 ⟨Below.refl _ _, rfl⟩
    · intro a W hsz hb hS
      have h7 : a.tmps.getD 7 undef = undef := hS.1
      have h6 : a.tmps.getD 6 undef = .bool false := hS.2.1
      clear hS hsz
      exact will_no rfl rfl h6 ⟨Below.refl _ _, rfl⟩
    · intro a W hsz hb hS
      have h8 : a.tmps.getD 8 undef = undef := hS.1
      have h6 : a.tmps.getD 6 undef = .bool false := hS.2.1
      clear hS hsz
      exact will_no rfl rfl h6 ⟨Below.refl _ _, rfl⟩
    · intro a W hsz hb hS
      have h9 : a.tmps.getD 9 undef = undef := hS.1
      have h6 : a.tmps.getD 6 undef = .bool false := hS.2.1
      clear hS hsz
      exact will_no rfl rfl h6 ⟨Below.refl _ _, rfl⟩
    · intro a W hsz hb hS
      have h6 : a.tmps.getD 6 undef = .bool false := hS.1
      have h10 : a.tmps.getD 10 undef = undef := hS.2.1
      clear hS hsz
      refine will_of rfl ?_
      intro K hK
      go_simp
      exact hK _ _ ⟨Below.refl _ _, rfl⟩
    · intro a W hsz hb hS
      have h1 : a.tmps.getD 1 undef = .pointer (some ⟨w.heap.size, 0, none⟩) := hS.1
      clear hS hsz
      refine will_of rfl ?_
      intro K hK
      go_simp
      exact hK _ _ ⟨Below.refl _ _, rfl⟩
    · intro a W hsz hb hS
      have h12 : a.tmps.getD 12 undef = .pointer (some ⟨w.heap.size, 1, none⟩) := hS.1
      clear hS hsz
      refine will_of rfl ?_
      obtain ⟨k0, k1, k2⟩ := (HC.out.later hb).cells
      intro K hK
      go_simp
      exact hK _ _ ⟨Below.refl _ _, rfl⟩
    · intro a W hsz hb hS
      have h13 : a.tmps.getD 13 undef = .slice A X.length c := hS.1
      clear hS hsz
      refine will_of rfl ?_
      obtain ⟨k0, k1, k2⟩ := (HC.out.later hb).cells
      intro K hK
      go_simp
      refine (norm_is (IsL.mono _ _ _ _ hb HX.out) H1.out).mono ?_
      rintro e W' ⟨v, rfl, hv, hb'⟩
      exact hK _ _ ⟨hb', hv⟩
    · intro a W hsz hb hS
      have h1 : a.tmps.getD 1 undef = .pointer (some ⟨w.heap.size, 0, none⟩) := hS.1
      clear hS hsz
      refine will_of rfl ?_
      intro K hK
      go_simp
      exact hK _ _ ⟨Below.refl _ _, rfl⟩
    · intro a W hsz hb hS
      have h15 : a.tmps.getD 15 undef = .pointer (some ⟨w.heap.size, 2, none⟩) := hS.1
      clear hS hsz
      refine will_of rfl ?_
      obtain ⟨k0, k1, k2⟩ := (HC.out.later hb).cells
      intro K hK
      go_simp
      exact hK _ _ ⟨Below.refl _ _, rfl⟩
    · intro a W hsz hb hS
      have h16 : a.tmps.getD 16 undef = vb := hS.1
      clear hS hsz
      refine will_of rfl ?_
      obtain ⟨k0, k1, k2⟩ := (HC.out.later hb).cells
      intro K hK
      go_simp
      refine (norm_is (IsL.mono _ _ _ _ hb HY.out) H2.out).mono ?_
      rintro e W' ⟨v, rfl, hv, hb'⟩
      exact hK _ _ ⟨hb', hv⟩
    · intro a W hsz hb hS
      have h11 : a.tmps.getD 11 undef = .bool false := hS.1
      have q14 : IsN (val X) (a.tmps.getD 14 undef) W := hS.2.1
      have q17 : IsN (val Y) (a.tmps.getD 17 undef) W := hS.2.2.1
      clear hS hsz
      have g11 := h11
      rw [Array.getD_eq_getD_getElem?] at g11
      obtain ⟨A14, c14, h14, r14⟩ := q14
      have q14 : IsN (val X) (.slice A14 _ c14) W := ⟨A14, c14, rfl, r14⟩
      have g14 := h14
      rw [Array.getD_eq_getD_getElem?] at g14
      obtain ⟨A17, c17, h17, r17⟩ := q17
      have q17 : IsN (val Y) (.slice A17 _ c17) W := ⟨A17, c17, rfl, r17⟩
      have g17 := h17
      rw [Array.getD_eq_getD_getElem?] at g17
      refine will_of rfl ?_
      intro K hK
      go_simp
      exact hK _ _ ⟨Below.refl _ _, _, _, rfl, q14, q17⟩
    intro f W hb hH
    have e0 : f 0 = .pointer (some ⟨w.heap.size, 0, none⟩) := hH.1
    have e1 : f 1 = .bool true := hH.2.1
    have e2 : f 2 = .bool false := hH.2.2.1
    have e3 : f 3 = .bool false := hH.2.2.2.1
    have e4 : f 4 = undef := hH.2.2.2.2.1
    have e5 : f 5 = undef := hH.2.2.2.2.2.1
    have e6 : f 6 = undef := hH.2.2.2.2.2.2.1
    have e7 : f 7 = undef := hH.2.2.2.2.2.2.2.1
    have e8 : f 8 = .bool false := hH.2.2.2.2.2.2.2.2.1
    have e9 : f 9 = .pointer (some ⟨w.heap.size, 1, none⟩) := hH.2.2.2.2.2.2.2.2.2.1
    have e10 : f 10 = .slice A X.length c := hH.2.2.2.2.2.2.2.2.2.2.1
    obtain ⟨x11, y11⟩ : ∃ x, f 11 = x := ⟨_, rfl⟩
    have q11 : IsN (val X) (f 11) W := hH.2.2.2.2.2.2.2.2.2.2.2.1
    rw [y11] at q11
    have e12 : f 12 = .pointer (some ⟨w.heap.size, 2, none⟩) := hH.2.2.2.2.2.2.2.2.2.2.2.2.1
    have e13 : f 13 = vb := hH.2.2.2.2.2.2.2.2.2.2.2.2.2.1
    obtain ⟨x14, y14⟩ : ∃ x, f 14 = x := ⟨_, rfl⟩
    have q14 : IsN (val Y) (f 14) W := hH.2.2.2.2.2.2.2.2.2.2.2.2.2.2.1
    rw [y14] at q14
    obtain ⟨x15, y15⟩ : ∃ x, f 15 = x := ⟨_, rfl⟩
    have q15 : IsQ false (val X) (val Y) (f 15) W := hH.2.2.2.2.2.2.2.2.2.2.2.2.2.2.2.1
    rw [y15] at q15
    simp only [List.take_succ_cons, List.take_zero, List.drop_succ_cons, List.drop_zero, putFrom, Act.put, List.setIfInBounds_toArray, List.set_cons_zero, List.set_cons_succ, Nat.reduceAdd, e0, e1, e2, e3, e4, e5, e6, e7, e8, e9, e10, y11, e12, e13, y14, y15]
    clear e0 e1 e2 e3 e4 e5 e6 e7 e8 e9 e10 y11 e12 e13 y14 y15 hH f
    obtain ⟨_, _, rfl, ⟨A3, c3, rfl, r3⟩, ⟨A4, c4, rfl, r4⟩⟩ := q15
    clear q11 q14
    have HO2 := Lib.hid (HO.out.later hb)
    obtain ⟨o0, o1, o2, p0, p1, p2⟩ := HO2.out.cells
    have HW := Lib.hid (raft HB.out hb)
    have R3 := Lib.hid r3
    have R4 := Lib.hid r4
    clear r3 r4 hb
    go_wp2
    refine bodyPost_ret (v := .agg #[.bool false, .slice A3 (dig (val X)).length c3, .slice A4 (dig (val Y)).length c4]) (by simp [results, Try.results31, go_sem, o0, o1, o2]) rfl ?_
    exact ⟨_, rfl, ⟨_, _, rfl, ⟨A3, c3, rfl, R3.out.put3 HO2.out _ _ _⟩, ⟨A4, c4, rfl, R4.out.put3 HO2.out _ _ _⟩⟩, put3_below HW.out (by omega) _ _ _⟩
  · subst hs
    go_wp2_with fail
    refine region_at 16 (Pick [IsV (.pointer (some ⟨w.heap.size, 0, none⟩)), IsV (.bool false), IsV (.bool true), IsV (.bool true), IsV (.pointer (some ⟨w.heap.size, 1, none⟩)), IsV (.slice A X.length c), IsV (.int .i64 (X.length : Int)), IsV (.bool g), IsV (.bool g), IsV (.pointer (some ⟨w.heap.size, 1, none⟩)), IsV (.slice A X.length c), IsN (val X), IsV (.pointer (some ⟨w.heap.size, 2, none⟩)), IsV (vb), IsN (val Y), IsQ g (val X) (val Y)]) (by kernel_rfl) (by kernel_rfl) (by kernel_rfl) (mono_pick ⟨IsV.mono _, IsV.mono _, IsV.mono _, IsV.mono _, IsV.mono _, IsV.mono _, IsV.mono _, IsV.mono _, IsV.mono _, IsV.mono _, IsV.mono _, IsN.mono _, IsV.mono _, IsV.mono _, IsN.mono _, IsQ.mono _ _ _, trivial⟩) ⟨?_, ?_, ?_, ?_, ?_, ?_, ?_, ?_, ?_, ?_, ?_, ?_, ?_, ?_, ?_, ?_, trivial⟩ ?_
    · intro a W hsz hb hS
      have h1 : a.tmps.getD 1 undef = .pointer (some ⟨w.heap.size, 0, none⟩) := hS.1
      clear hS hsz
      refine will_of rfl ?_
      intro K hK
      go_simp
      exact hK _ _ ⟨Below.refl _ _, rfl⟩
    · intro a W hsz hb hS
      have h3 : a.tmps.getD 3 undef = .pointer (some ⟨w.heap.size, 0, none⟩) := hS.1
      clear hS hsz
      refine will_of rfl ?_
      obtain ⟨k0, k1, k2⟩ := (HC.out.later hb).cells
      intro K hK
      go_simp
      exact hK _ _ ⟨Below.refl _ _, rfl⟩
    · intro a W hsz hb hS
      have h4 : a.tmps.getD 4 undef = .bool false := hS.1
      clear hS hsz
      refine will_of rfl ?_
      intro K hK
      go_simp
      exact hK _ _ ⟨Below.refl _ _, rfl⟩
    · intro a W hsz hb hS
      have h5 : a.tmps.getD 5 undef = .bool true := hS.1
      clear hS hsz
      refine will_of rfl ?_
      intro K hK
      go_simp
      exact hK _ _ ⟨Below.refl _ _, rfl⟩
    · intro a W hsz hb hS
      have h1 : a.tmps.getD 1 undef = .pointer (some ⟨w.heap.size, 0, none⟩) := hS.1
      have h6 : a.tmps.getD 6 undef = .bool true := hS.2.1
      clear hS hsz
      refine will_yes rfl rfl h6 ?_
      intro K hK
      go_simp
      exact hK _ _ ⟨Below.refl _ _, rfl⟩
    · intro a W hsz hb hS
      have h7 : a.tmps.getD 7 undef = .pointer (some ⟨w.heap.size, 1, none⟩) := hS.1
      have h6 : a.tmps.getD 6 undef = .bool true := hS.2.1
      clear hS hsz
      refine will_yes rfl rfl h6 ?_
      obtain ⟨k0, k1, k2⟩ := (HC.out.later hb).cells
      intro K hK
      go_simp
      exact hK _ _ ⟨Below.refl _ _, rfl⟩
    · intro a W hsz hb hS
      have h8 : a.tmps.getD 8 undef = .slice A X.length c := hS.1
      have h6 : a.tmps.getD 6 undef = .bool true := hS.2.1
      clear hS hsz
      refine will_yes rfl rfl h6 ?_
      obtain ⟨k0, k1, k2⟩ := (HC.out.later hb).cells
      intro K hK
      go_simp
      exact hK _ _ ⟨Below.refl _ _, rfl⟩
    · intro a W hsz hb hS
      have h9 : a.tmps.getD 9 undef = .int .i64 (X.length : Int) := hS.1
      have h6 : a.tmps.getD 6 undef = .bool true := hS.2.1
      clear hS hsz
      refine will_yes rfl rfl h6 ?_
      intro K hK
      go_simp
      exact hK _ _ ⟨Below.refl _ _, rfl⟩
    · intro a W hsz hb hS
      have h6 : a.tmps.getD 6 undef = .bool true := hS.1
      have h10 : a.tmps.getD 10 undef = .bool g := hS.2.1
      clear hS hsz
      refine will_of rfl ?_
      intro K hK
      go_simp
      exact hK _ _ ⟨Below.refl _ _, rfl⟩
    · intro a W hsz hb hS
      have h1 : a.tmps.getD 1 undef = .pointer (some ⟨w.heap.size, 0, none⟩) := hS.1
      clear hS hsz
      refine will_of rfl ?_
      intro K hK
      go_simp
      exact hK _ _ ⟨Below.refl _ _, rfl⟩
    · intro a W hsz hb hS
      have h12 : a.tmps.getD 12 undef = .pointer (some ⟨w.heap.size, 1, none⟩) := hS.1
      clear hS hsz
      refine will_of rfl ?_
      obtain ⟨k0, k1, k2⟩ := (HC.out.later hb).cells
      intro K hK
      go_simp
      exact hK _ _ ⟨Below.refl _ _, rfl⟩
    · intro a W hsz hb hS
      have h13 : a.tmps.getD 13 undef = .slice A X.length c := hS.1
      clear hS hsz
      refine will_of rfl ?_
      obtain ⟨k0, k1, k2⟩ := (HC.out.later hb).cells
      intro K hK
      go_simp
      refine (norm_is (IsL.mono _ _ _ _ hb HX.out) H1.out).mono ?_
      rintro e W' ⟨v, rfl, hv, hb'⟩
      exact hK _ _ ⟨hb', hv⟩
    · intro a W hsz hb hS
      have h1 : a.tmps.getD 1 undef = .pointer (some ⟨w.heap.size, 0, none⟩) := hS.1
      clear hS hsz
      refine will_of rfl ?_
      intro K hK
      go_simp
      exact hK _ _ ⟨Below.refl _ _, rfl⟩
    · intro a W hsz hb hS
      have h15 : a.tmps.getD 15 undef = .pointer (some ⟨w.heap.size, 2, none⟩) := hS.1
      clear hS hsz
      refine will_of rfl ?_
      obtain ⟨k0, k1, k2⟩ := (HC.out.later hb).cells
      intro K hK
      go_simp
      exact hK _ _ ⟨Below.refl _ _, rfl⟩
    · intro a W hsz hb hS
      have h16 : a.tmps.getD 16 undef = vb := hS.1
      clear hS hsz
      refine will_of rfl ?_
      obtain ⟨k0, k1, k2⟩ := (HC.out.later hb).cells
      intro K hK
      go_simp
      refine (norm_is (IsL.mono _ _ _ _ hb HY.out) H2.out).mono ?_
      rintro e W' ⟨v, rfl, hv, hb'⟩
      exact hK _ _ ⟨hb', hv⟩
    · intro a W hsz hb hS
      have h11 : a.tmps.getD 11 undef = .bool g := hS.1
      have q14 : IsN (val X) (a.tmps.getD 14 undef) W := hS.2.1
      have q17 : IsN (val Y) (a.tmps.getD 17 undef) W := hS.2.2.1
      clear hS hsz
      have g11 := h11
      rw [Array.getD_eq_getD_getElem?] at g11
      obtain ⟨A14, c14, h14, r14⟩ := q14
      have q14 : IsN (val X) (.slice A14 _ c14) W := ⟨A14, c14, rfl, r14⟩
      have g14 := h14
      rw [Array.getD_eq_getD_getElem?] at g14
      obtain ⟨A17, c17, h17, r17⟩ := q17
      have q17 : IsN (val Y) (.slice A17 _ c17) W := ⟨A17, c17, rfl, r17⟩
      have g17 := h17
      rw [Array.getD_eq_getD_getElem?] at g17
      refine will_of rfl ?_
      intro K hK
      go_simp
      exact hK _ _ ⟨Below.refl _ _, _, _, rfl, q14, q17⟩
    intro f W hb hH
    have e0 : f 0 = .pointer (some ⟨w.heap.size, 0, none⟩) := hH.1
    have e1 : f 1 = .bool false := hH.2.1
    have e2 : f 2 = .bool true := hH.2.2.1
    have e3 : f 3 = .bool true := hH.2.2.2.1
    have e4 : f 4 = .pointer (some ⟨w.heap.size, 1, none⟩) := hH.2.2.2.2.1
    have e5 : f 5 = .slice A X.length c := hH.2.2.2.2.2.1
    have e6 : f 6 = .int .i64 (X.length : Int) := hH.2.2.2.2.2.2.1
    have e7 : f 7 = .bool g := hH.2.2.2.2.2.2.2.1
    have e8 : f 8 = .bool g := hH.2.2.2.2.2.2.2.2.1
    have e9 : f 9 = .pointer (some ⟨w.heap.size, 1, none⟩) := hH.2.2.2.2.2.2.2.2.2.1
    have e10 : f 10 = .slice A X.length c := hH.2.2.2.2.2.2.2.2.2.2.1
    obtain ⟨x11, y11⟩ : ∃ x, f 11 = x := ⟨_, rfl⟩
    have q11 : IsN (val X) (f 11) W := hH.2.2.2.2.2.2.2.2.2.2.2.1
    rw [y11] at q11
    have e12 : f 12 = .pointer (some ⟨w.heap.size, 2, none⟩) := hH.2.2.2.2.2.2.2.2.2.2.2.2.1
    have e13 : f 13 = vb := hH.2.2.2.2.2.2.2.2.2.2.2.2.2.1
    obtain ⟨x14, y14⟩ : ∃ x, f 14 = x := ⟨_, rfl⟩
    have q14 : IsN (val Y) (f 14) W := hH.2.2.2.2.2.2.2.2.2.2.2.2.2.2.1
    rw [y14] at q14
    obtain ⟨x15, y15⟩ : ∃ x, f 15 = x := ⟨_, rfl⟩
    have q15 : IsQ g (val X) (val Y) (f 15) W := hH.2.2.2.2.2.2.2.2.2.2.2.2.2.2.2.1
    rw [y15] at q15
    simp only [List.take_succ_cons, List.take_zero, List.drop_succ_cons, List.drop_zero, putFrom, Act.put, List.setIfInBounds_toArray, List.set_cons_zero, List.set_cons_succ, Nat.reduceAdd, e0, e1, e2, e3, e4, e5, e6, e7, e8, e9, e10, y11, e12, e13, y14, y15]
    clear e0 e1 e2 e3 e4 e5 e6 e7 e8 e9 e10 y11 e12 e13 y14 y15 hH f
    obtain ⟨_, _, rfl, ⟨A3, c3, rfl, r3⟩, ⟨A4, c4, rfl, r4⟩⟩ := q15
    clear q11 q14
    have HO2 := Lib.hid (HO.out.later hb)
    obtain ⟨o0, o1, o2, p0, p1, p2⟩ := HO2.out.cells
    have HW := Lib.hid (raft HB.out hb)
    have R3 := Lib.hid r3
    have R4 := Lib.hid r4
    clear r3 r4 hb
    go_wp2
    refine bodyPost_ret (v := .agg #[.bool g, .slice A3 (dig (val X)).length c3, .slice A4 (dig (val Y)).length c4]) (by simp [results, Try.results31, go_sem, o0, o1, o2]) rfl ?_
    exact ⟨_, rfl, ⟨_, _, rfl, ⟨A3, c3, rfl, R3.out.put3 HO2.out _ _ _⟩, ⟨A4, c4, rfl, R4.out.put3 HO2.out _ _ _⟩⟩, put3_below HW.out (by omega) _ _ _⟩
end
end Go.Proofs.Ytmmbbkeefphaiaa
