/- Contracts of vergeref2's ratios: RNeg. -/
import Derived.Test.YtiadjcilfljdaaaDoorG16
import Derived.Test.YtiadjcilfljdaaaDoorG17
namespace Go.Proofs.YtiadjcilfljdaaaDoor
set_option linter.unusedVariables false
set_option linter.unusedSimpArgs false
open Go.RowKit Verge

section
variable (s : Bool) (X Y : List Nat) (va vb : Value) (w : World)
set_option maxRecDepth 20000 in
set_option maxHeartbeats 4000000 in
theorem rneg_is (ha : IsL X va w) (hb : IsL Y vb w) (h1 : X.length ≤ 35184372088800) (h2 : Y.length ≤ 35184372088800) :
    Calls Tryd.prog 89 #[.agg #[.bool s, va, vb]] w (Ans w (IsQ (!s && decide (0 < X.length)) (val X) (val Y))) := by
  have HB := Lib.hid (raft (rnew w (.cells #[.bool s, va, vb] 39)) (rnew _ ratO))
  have HC := Lib.hid ((Box3.new w (.bool s) va vb).later (rnew _ ratO))
  have HO := Lib.hid (Box.new (w.alloc (.cells #[.bool s, va, vb] 39)))
  rw [show (w.alloc (.cells #[.bool s, va, vb] 39)).heap.size = w.heap.size + 1 by simp] at HO
  have HX := Lib.hid (IsL.mono _ _ _ _ HB.out ha)
  have HY := Lib.hid (IsL.mono _ _ _ _ HB.out hb)
  obtain ⟨A, c, rfl, _⟩ := ha
  obtain ⟨g, hg⟩ : ∃ g, decide (0 < X.length) = g := ⟨_, rfl⟩
  have hgI : decide ((0 : Int) < (X.length : Int)) = g := by rw [← hg]; exact decide_eq_decide.2 (by omega)
  rw [hg]
  have H1 := Lib.hid h1
  have H2 := Lib.hid h2
  clear hb h1 h2
  go_enter Tryd.func89, Tryd.ntmps89
  rcases (show s = true ∨ s = false by cases s <;> simp) with hs | hs
  · subst hs
    go_wp2_with fail
    refine region_at 16 (Pick [IsV (.pointer (some ⟨w.heap.size, 0, none⟩)), IsV (.bool true), IsV (.bool false), IsV (.bool false), IsV (undef), IsV (undef), IsV (undef), IsV (undef), IsV (.bool false), IsV (.pointer (some ⟨w.heap.size, 1, none⟩)), IsV (.slice A X.length c), IsN (val X), IsV (.pointer (some ⟨w.heap.size, 2, none⟩)), IsV (vb), IsN (val Y), IsQ false (val X) (val Y)]) (by kernel_rfl) (by kernel_rfl) (by kernel_rfl) (mono_pick ⟨IsV.mono _, IsV.mono _, IsV.mono _, IsV.mono _, IsV.mono _, IsV.mono _, IsV.mono _, IsV.mono _, IsV.mono _, IsV.mono _, IsV.mono _, IsN.mono _, IsV.mono _, IsV.mono _, IsN.mono _, IsQ.mono _ _ _, trivial⟩) ⟨?_, ?_, ?_, ?_, ?_, ?_, ?_, ?_, ?_, ?_, ?_, ?_, ?_, ?_, ?_, ?_, trivial⟩ ?_
    · intro a W hsz hb hS
      have h1 : a.tmps.getD 1 undef = .pointer (some ⟨w.heap.size, 0, none⟩) := hS.1
      clear hS hsz
      refine will_of rfl ?_
      intro K hK
      go_simp
      exact hK _ _ ⟨Below.refl _ _, rfl⟩
    · intro a W hsz hb hS
      have h3 : a.tmps.getD 3 undef = .pointer (some ⟨w.heap.size, 0, none⟩) := hS.1
      clear hS hsz
      refine will_of rfl ?_
      obtain ⟨k0, k1, k2⟩ := (HC.out.later hb).cells
      intro K hK
      go_simp
      exact hK _ _ ⟨Below.refl _ _, rfl⟩
    · intro a W hsz hb hS
      have h4 : a.tmps.getD 4 undef = .bool true := hS.1
      clear hS hsz
      refine will_of rfl ?_
      intro K hK
      go_simp
      exact hK _ _ ⟨Below.refl _ _, rfl⟩
    · intro a W hsz hb hS
      have h5 : a.tmps.getD 5 undef = .bool false := hS.1
      clear hS hsz
      refine will_of rfl ?_
      intro K hK
      go_simp
      exact hK _ _ ⟨Below.refl _ _, rfl⟩
    · intro a W hsz hb hS
      have h1 : a.tmps.getD 1 undef = .pointer (some ⟨w.heap.size, 0, none⟩) := hS.1
      have h6 : a.tmps.getD 6 undef = .bool false := hS.2.1
      clear hS hsz
      exact will_no rfl rfl h6 ⟨Below.refl _ _, rfl⟩
    · intro a W hsz hb hS
      have h7 : a.tmps.getD 7 undef = undef := hS.1
      have h6 : a.tmps.getD 6 undef = .bool false := hS.2.1
      clear hS hsz
      exact will_no rfl rfl h6 ⟨Below.refl _ _, rfl⟩
    · intro a W hsz hb hS
      have h8 : a.tmps.getD 8 undef = undef := hS.1
      have h6 : a.tmps.getD 6 undef = .bool false := hS.2.1
      clear hS hsz
      exact will_no rfl rfl h6 ⟨Below.refl _ _, rfl⟩
    · intro a W hsz hb hS
      have h9 : a.tmps.getD 9 undef = undef := hS.1
      have h6 : a.tmps.getD 6 undef = .bool false := hS.2.1
      clear hS hsz
      exact will_no rfl rfl h6 ⟨Below.refl _ _, rfl⟩
    · intro a W hsz hb hS
      have h6 : a.tmps.getD 6 undef = .bool false := hS.1
      have h10 : a.tmps.getD 10 undef = undef := hS.2.1
      clear hS hsz
      refine will_of rfl ?_
      intro K hK
      go_simp
      exact hK _ _ ⟨Below.refl _ _, rfl⟩
    · intro a W hsz hb hS
      have h1 : a.tmps.getD 1 undef = .pointer (some ⟨w.heap.size, 0, none⟩) := hS.1
      clear hS hsz
      refine will_of rfl ?_
      intro K hK
      go_simp
      exact hK _ _ ⟨Below.refl _ _, rfl⟩
    · intro a W hsz hb hS
      have h12 : a.tmps.getD 12 undef = .pointer (some ⟨w.heap.size, 1, none⟩) := hS.1
      clear hS hsz
      refine will_of rfl ?_
      obtain ⟨k0, k1, k2⟩ := (HC.out.later hb).cells
      intro K hK
      go_simp
      exact hK _ _ ⟨Below.refl _ _, rfl⟩
    · intro a W hsz hb hS
      have h13 : a.tmps.getD 13 undef = .slice A X.length c := hS.1
      clear hS hsz
      refine will_of rfl ?_
      obtain ⟨k0, k1, k2⟩ := (HC.out.later hb).cells
      intro K hK
      go_simp
      refine (norm_is (IsL.mono _ _ _ _ hb HX.out) H1.out).mono ?_
      rintro e W' ⟨v, rfl, hv, hb'⟩
      exact hK _ _ ⟨hb', hv⟩
    · intro a W hsz hb hS
      have h1 : a.tmps.getD 1 undef = .pointer (some ⟨w.heap.size, 0, none⟩) := hS.1
      clear hS hsz
      refine will_of rfl ?_
      intro K hK
      go_simp
      exact hK _ _ ⟨Below.refl _ _, rfl⟩
    · intro a W hsz hb hS
      have h15 : a.tmps.getD 15 undef = .pointer (some ⟨w.heap.size, 2, none⟩) := hS.1
      clear hS hsz
      refine will_of rfl ?_
      obtain ⟨k0, k1, k2⟩ := (HC.out.later hb).cells
      intro K hK
      go_simp
      exact hK _ _ ⟨Below.refl _ _, rfl⟩
    · intro a W hsz hb hS
      have h16 : a.tmps.getD 16 undef = vb := hS.1
      clear hS hsz
      refine will_of rfl ?_
      obtain ⟨k0, k1, k2⟩ := (HC.out.later hb).cells
      intro K hK
      go_simp
      refine (norm_is (IsL.mono _ _ _ _ hb HY.out) H2.out).mono ?_
      rintro e W' ⟨v, rfl, hv, hb'⟩
      exact hK _ _ ⟨hb', hv⟩
    · intro a W hsz hb hS
      have h11 : a.tmps.getD 11 undef = .bool false := hS.1
      have q14 : IsN (val X) (a.tmps.getD 14 undef) W := hS.2.1
      have q17 : IsN (val Y) (a.tmps.getD 17 undef) W := hS.2.2.1
      clear hS hsz
      have g11 := h11
      rw [Array.getD_eq_getD_getElem?] at g11
      obtain ⟨A14, c14, h14, r14⟩ := q14
      have q14 : IsN (val X) (.slice A14 _ c14) W := ⟨A14, c14, rfl, r14⟩
      have g14 := h14
      rw [Array.getD_eq_getD_getElem?] at g14
      obtain ⟨A17, c17, h17, r17⟩ := q17
      have q17 : IsN (val Y) (.slice A17 _ c17) W := ⟨A17, c17, rfl, r17⟩
      have g17 := h17
      rw [Array.getD_eq_getD_getElem?] at g17
      refine will_of rfl ?_
      intro K hK
      go_simp
      exact hK _ _ ⟨Below.refl _ _, _, _, rfl, q14, q17⟩
    intro f W hb hH
    have e0 : f 0 = .pointer (some ⟨w.heap.size, 0, none⟩) := hH.1
    have e1 : f 1 = .bool true := hH.2.1
    have e2 : f 2 = .bool false := hH.2.2.1
    have e3 : f 3 = .bool false := hH.2.2.2.1
    have e4 : f 4 = undef := hH.2.2.2.2.1
    have e5 : f 5 = undef := hH.2.2.2.2.2.1
    have e6 : f 6 = undef := hH.2.2.2.2.2.2.1
    have e7 : f 7 = undef := hH.2.2.2.2.2.2.2.1
    have e8 : f 8 = .bool false := hH.2.2.2.2.2.2.2.2.1
    have e9 : f 9 = .pointer (some ⟨w.heap.size, 1, none⟩) := hH.2.2.2.2.2.2.2.2.2.1
    have e10 : f 10 = .slice A X.length c := hH.2.2.2.2.2.2.2.2.2.2.1
    obtain ⟨x11, y11⟩ : ∃ x, f 11 = x := ⟨_, rfl⟩
    have q11 : IsN (val X) (f 11) W := hH.2.2.2.2.2.2.2.2.2.2.2.1
    rw [y11] at q11
    have e12 : f 12 = .pointer (some ⟨w.heap.size, 2, none⟩) := hH.2.2.2.2.2.2.2.2.2.2.2.2.1
    have e13 : f 13 = vb := hH.2.2.2.2.2.2.2.2.2.2.2.2.2.1
    obtain ⟨x14, y14⟩ : ∃ x, f 14 = x := ⟨_, rfl⟩
    have q14 : IsN (val Y) (f 14) W := hH.2.2.2.2.2.2.2.2.2.2.2.2.2.2.1
    rw [y14] at q14
    obtain ⟨x15, y15⟩ : ∃ x, f 15 = x := ⟨_, rfl⟩
    have q15 : IsQ false (val X) (val Y) (f 15) W := hH.2.2.2.2.2.2.2.2.2.2.2.2.2.2.2.1
    rw [y15] at q15
    simp only [List.take_succ_cons, List.take_zero, List.drop_succ_cons, List.drop_zero, putFrom, Act.put, List.setIfInBounds_toArray, List.set_cons_zero, List.set_cons_succ, Nat.reduceAdd, e0, e1, e2, e3, e4, e5, e6, e7, e8, e9, e10, y11, e12, e13, y14, y15]
    clear e0 e1 e2 e3 e4 e5 e6 e7 e8 e9 e10 y11 e12 e13 y14 y15 hH f
    obtain ⟨_, _, rfl, ⟨A3, c3, rfl, r3⟩, ⟨A4, c4, rfl, r4⟩⟩ := q15
    clear q11 q14
    have HO2 := Lib.hid (HO.out.later hb)
    obtain ⟨o0, o1, o2, p0, p1, p2⟩ := HO2.out.cells
    have HW := Lib.hid (raft HB.out hb)
    have R3 := Lib.hid r3
    have R4 := Lib.hid r4
    clear r3 r4 hb
    go_wp2
    refine bodyPost_ret (v := .agg #[.bool false, .slice A3 (dig (val X)).length c3, .slice A4 (dig (val Y)).length c4]) (by simp [results, Tryd.results89, go_sem, o0, o1, o2]) rfl ?_
    exact ⟨_, rfl, ⟨_, _, rfl, ⟨A3, c3, rfl, R3.out.put3 HO2.out _ _ _⟩, ⟨A4, c4, rfl, R4.out.put3 HO2.out _ _ _⟩⟩, put3_below HW.out (by omega) _ _ _⟩
  · subst hs
    go_wp2_with fail
    refine region_at 16 (Pick [IsV (.pointer (some ⟨w.heap.size, 0, none⟩)), IsV (.bool false), IsV (.bool true), IsV (.bool true), IsV (.pointer (some ⟨w.heap.size, 1, none⟩)), IsV (.slice A X.length c), IsV (.int .i64 (X.length : Int)), IsV (.bool g), IsV (.bool g), IsV (.pointer (some ⟨w.heap.size, 1, none⟩)), IsV (.slice A X.length c), IsN (val X), IsV (.pointer (some ⟨w.heap.size, 2, none⟩)), IsV (vb), IsN (val Y), IsQ g (val X) (val Y)]) (by kernel_rfl) (by kernel_rfl) (by kernel_rfl) (mono_pick ⟨IsV.mono _, IsV.mono _, IsV.mono _, IsV.mono _, IsV.mono _, IsV.mono _, IsV.mono _, IsV.mono _, IsV.mono _, IsV.mono _, IsV.mono _, IsN.mono _, IsV.mono _, IsV.mono _, IsN.mono _, IsQ.mono _ _ _, trivial⟩) ⟨?_, ?_, ?_, ?_, ?_, ?_, ?_, ?_, ?_, ?_, ?_, ?_, ?_, ?_, ?_, ?_, trivial⟩ ?_
    · intro a W hsz hb hS
      have h1 : a.tmps.getD 1 undef = .pointer (some ⟨w.heap.size, 0, none⟩) := hS.1
      clear hS hsz
      refine will_of rfl ?_
      intro K hK
      go_simp
      exact hK _ _ ⟨Below.refl _ _, rfl⟩
    · intro a W hsz hb hS
      have h3 : a.tmps.getD 3 undef = .pointer (some ⟨w.heap.size, 0, none⟩) := hS.1
      clear hS hsz
      refine will_of rfl ?_
      obtain ⟨k0, k1, k2⟩ := (HC.out.later hb).cells
      intro K hK
      go_simp
      exact hK _ _ ⟨Below.refl _ _, rfl⟩
    · intro a W hsz hb hS
      have h4 : a.tmps.getD 4 undef = .bool false := hS.1
      clear hS hsz
      refine will_of rfl ?_
      intro K hK
      go_simp
      exact hK _ _ ⟨Below.refl _ _, rfl⟩
    · intro a W hsz hb hS
      have h5 : a.tmps.getD 5 undef = .bool true := hS.1
      clear hS hsz
      refine will_of rfl ?_
      intro K hK
      go_simp
      exact hK _ _ ⟨Below.refl _ _, rfl⟩
    · intro a W hsz hb hS
      have h1 : a.tmps.getD 1 undef = .pointer (some ⟨w.heap.size, 0, none⟩) := hS.1
      have h6 : a.tmps.getD 6 undef = .bool true := hS.2.1
      clear hS hsz
      refine will_yes rfl rfl h6 ?_
      intro K hK
      go_simp
      exact hK _ _ ⟨Below.refl _ _, rfl⟩
    · intro a W hsz hb hS
      have h7 : a.tmps.getD 7 undef = .pointer (some ⟨w.heap.size, 1, none⟩) := hS.1
      have h6 : a.tmps.getD 6 undef = .bool true := hS.2.1
      clear hS hsz
      refine will_yes rfl rfl h6 ?_
      obtain ⟨k0, k1, k2⟩ := (HC.out.later hb).cells
      intro K hK
      go_simp
      exact hK _ _ ⟨Below.refl _ _, rfl⟩
    · intro a W hsz hb hS
      have h8 : a.tmps.getD 8 undef = .slice A X.length c := hS.1
      have h6 : a.tmps.getD 6 undef = .bool true := hS.2.1
      clear hS hsz
      refine will_yes rfl rfl h6 ?_
      obtain ⟨k0, k1, k2⟩ := (HC.out.later hb).cells
      intro K hK
      go_simp
      exact hK _ _ ⟨Below.refl _ _, rfl⟩
    · intro a W hsz hb hS
      have h9 : a.tmps.getD 9 undef = .int .i64 (X.length : Int) := hS.1
      have h6 : a.tmps.getD 6 undef = .bool true := hS.2.1
      clear hS hsz
      refine will_yes rfl rfl h6 ?_
      intro K hK
      go_simp
      exact hK _ _ ⟨Below.refl _ _, rfl⟩
    · intro a W hsz hb hS
      have h6 : a.tmps.getD 6 undef = .bool true := hS.1
      have h10 : a.tmps.getD 10 undef = .bool g := hS.2.1
      clear hS hsz
      refine will_of rfl ?_
      intro K hK
      go_simp
      exact hK _ _ ⟨Below.refl _ _, rfl⟩
    · intro a W hsz hb hS
      have h1 : a.tmps.getD 1 undef = .pointer (some ⟨w.heap.size, 0, none⟩) := hS.1
      clear hS hsz
      refine will_of rfl ?_
      intro K hK
      go_simp
      exact hK _ _ ⟨Below.refl _ _, rfl⟩
    · intro a W hsz hb hS
      have h12 : a.tmps.getD 12 undef = .pointer (some ⟨w.heap.size, 1, none⟩) := hS.1
      clear hS hsz
      refine will_of rfl ?_
      obtain ⟨k0, k1, k2⟩ := (HC.out.later hb).cells
      intro K hK
      go_simp
      exact hK _ _ ⟨Below.refl _ _, rfl⟩
    · intro a W hsz hb hS
      have h13 : a.tmps.getD 13 undef = .slice A X.length c := hS.1
      clear hS hsz
      refine will_of rfl ?_
      obtain ⟨k0, k1, k2⟩ := (HC.out.later hb).cells
      intro K hK
      go_simp
      refine (norm_is (IsL.mono _ _ _ _ hb HX.out) H1.out).mono ?_
      rintro e W' ⟨v, rfl, hv, hb'⟩
      exact hK _ _ ⟨hb', hv⟩
    · intro a W hsz hb hS
      have h1 : a.tmps.getD 1 undef = .pointer (some ⟨w.heap.size, 0, none⟩) := hS.1
      clear hS hsz
      refine will_of rfl ?_
      intro K hK
      go_simp
      exact hK _ _ ⟨Below.refl _ _, rfl⟩
    · intro a W hsz hb hS
      have h15 : a.tmps.getD 15 undef = .pointer (some ⟨w.heap.size, 2, none⟩) := hS.1
      clear hS hsz
      refine will_of rfl ?_
      obtain ⟨k0, k1, k2⟩ := (HC.out.later hb).cells
      intro K hK
      go_simp
      exact hK _ _ ⟨Below.refl _ _, rfl⟩
    · intro a W hsz hb hS
      have h16 : a.tmps.getD 16 undef = vb := hS.1
      clear hS hsz
      refine will_of rfl ?_
      obtain ⟨k0, k1, k2⟩ := (HC.out.later hb).cells
      intro K hK
      go_simp
      refine (norm_is (IsL.mono _ _ _ _ hb HY.out) H2.out).mono ?_
      rintro e W' ⟨v, rfl, hv, hb'⟩
      exact hK _ _ ⟨hb', hv⟩
    · intro a W hsz hb hS
      have h11 : a.tmps.getD 11 undef = .bool g := hS.1
      have q14 : IsN (val X) (a.tmps.getD 14 undef) W := hS.2.1
      have q17 : IsN (val Y) (a.tmps.getD 17 undef) W := hS.2.2.1
      clear hS hsz
      have g11 := h11
      rw [Array.getD_eq_getD_getElem?] at g11
      obtain ⟨A14, c14, h14, r14⟩ := q14
      have q14 : IsN (val X) (.slice A14 _ c14) W := ⟨A14, c14, rfl, r14⟩
      have g14 := h14
      rw [Array.getD_eq_getD_getElem?] at g14
      obtain ⟨A17, c17, h17, r17⟩ := q17
      have q17 : IsN (val Y) (.slice A17 _ c17) W := ⟨A17, c17, rfl, r17⟩
      have g17 := h17
      rw [Array.getD_eq_getD_getElem?] at g17
      refine will_of rfl ?_
      intro K hK
      go_simp
      exact hK _ _ ⟨Below.refl _ _, _, _, rfl, q14, q17⟩
    intro f W hb hH
    have e0 : f 0 = .pointer (some ⟨w.heap.size, 0, none⟩) := hH.1
    have e1 : f 1 = .bool false := hH.2.1
    have e2 : f 2 = .bool true := hH.2.2.1
    have e3 : f 3 = .bool true := hH.2.2.2.1
    have e4 : f 4 = .pointer (some ⟨w.heap.size, 1, none⟩) := hH.2.2.2.2.1
    have e5 : f 5 = .slice A X.length c := hH.2.2.2.2.2.1
    have e6 : f 6 = .int .i64 (X.length : Int) := hH.2.2.2.2.2.2.1
    have e7 : f 7 = .bool g := hH.2.2.2.2.2.2.2.1
    have e8 : f 8 = .bool g := hH.2.2.2.2.2.2.2.2.1
    have e9 : f 9 = .pointer (some ⟨w.heap.size, 1, none⟩) := hH.2.2.2.2.2.2.2.2.2.1
    have e10 : f 10 = .slice A X.length c := hH.2.2.2.2.2.2.2.2.2.2.1
    obtain ⟨x11, y11⟩ : ∃ x, f 11 = x := ⟨_, rfl⟩
    have q11 : IsN (val X) (f 11) W := hH.2.2.2.2.2.2.2.2.2.2.2.1
    rw [y11] at q11
    have e12 : f 12 = .pointer (some ⟨w.heap.size, 2, none⟩) := hH.2.2.2.2.2.2.2.2.2.2.2.2.1
    have e13 : f 13 = vb := hH.2.2.2.2.2.2.2.2.2.2.2.2.2.1
    obtain ⟨x14, y14⟩ : ∃ x, f 14 = x := ⟨_, rfl⟩
    have q14 : IsN (val Y) (f 14) W := hH.2.2.2.2.2.2.2.2.2.2.2.2.2.2.1
    rw [y14] at q14
    obtain ⟨x15, y15⟩ : ∃ x, f 15 = x := ⟨_, rfl⟩
    have q15 : IsQ g (val X) (val Y) (f 15) W := hH.2.2.2.2.2.2.2.2.2.2.2.2.2.2.2.1
    rw [y15] at q15
    simp only [List.take_succ_cons, List.take_zero, List.drop_succ_cons, List.drop_zero, putFrom, Act.put, List.setIfInBounds_toArray, List.set_cons_zero, List.set_cons_succ, Nat.reduceAdd, e0, e1, e2, e3, e4, e5, e6, e7, e8, e9, e10, y11, e12, e13, y14, y15]
    clear e0 e1 e2 e3 e4 e5 e6 e7 e8 e9 e10 y11 e12 e13 y14 y15 hH f
    obtain ⟨_, _, rfl, ⟨A3, c3, rfl, r3⟩, ⟨A4, c4, rfl, r4⟩⟩ := q15
    clear q11 q14
    have HO2 := Lib.hid (HO.out.later hb)
    obtain ⟨o0, o1, o2, p0, p1, p2⟩ := HO2.out.cells
    have HW := Lib.hid (raft HB.out hb)
    have R3 := Lib.hid r3
    have R4 := Lib.hid r4
    clear r3 r4 hb
    go_wp2
    refine bodyPost_ret (v := .agg #[.bool g, .slice A3 (dig (val X)).length c3, .slice A4 (dig (val Y)).length c4]) (by simp [results, Tryd.results89, go_sem, o0, o1, o2]) rfl ?_
    exact ⟨_, rfl, ⟨_, _, rfl, ⟨A3, c3, rfl, R3.out.put3 HO2.out _ _ _⟩, ⟨A4, c4, rfl, R4.out.put3 HO2.out _ _ _⟩⟩, put3_below HW.out (by omega) _ _ _⟩
end
end Go.Proofs.YtiadjcilfljdaaaDoor

/- Contracts of vergeref2's ratios: RAdd, RSub, RMul, RQuo. -/
namespace Go.Proofs.YtiadjcilfljdaaaDoor
set_option linter.unusedVariables false
set_option linter.unusedSimpArgs false
open Go.RowKit Verge

/-- The sum of two signed numbers: its sign and its size. -/
def addS (s : Bool) (x : Nat) (t : Bool) (y : Nat) : Bool × Nat := if s = t then (s, x + y) else if y ≤ x then (s, x - y) else (t, y - x)

section
variable {s t : Bool} {X Y U V : List Nat} {va vb : Value} {w : World}

set_option maxRecDepth 20000 in
set_option maxHeartbeats 4000000 in
theorem rmul_is (ha : IsR s X Y va w) (hb : IsR t U V vb w) (h1 : X.length ≤ 8796093022000) (h2 : Y.length ≤ 8796093022000) (h3 : U.length ≤ 8796093022000) (h4 : V.length ≤ 8796093022000) :
    Calls Tryd.prog 44 #[va, vb] w (Ans w (IsQ ((s != t) && decide (val X * val U ≠ 0)) (fracN (val X * val U) (val Y * val V) 0) (fracD (val X * val U) (val Y * val V) 0))) := by
  obtain ⟨va1, va2, rfl, ha1, ha2⟩ := ha
  obtain ⟨vb1, vb2, rfl, hb1, hb2⟩ := hb
  have HB := Lib.hid (raft (raft (rnew w (.cells #[.bool s, va1, va2] 39)) (rnew _ (.cells #[.bool t, vb1, vb2] 39))) (rnew _ ratO))
  have HC := Lib.hid ((Box3.new w (.bool s) va1 va2).later (raft (rnew _ (.cells #[.bool t, vb1, vb2] 39)) (rnew _ ratO)))
  have HD := Lib.hid ((Box3.new (w.alloc (.cells #[.bool s, va1, va2] 39)) (.bool t) vb1 vb2).later (rnew _ ratO))
  have HO := Lib.hid (Box.new ((w.alloc (.cells #[.bool s, va1, va2] 39)).alloc (.cells #[.bool t, vb1, vb2] 39)))
  rw [show (w.alloc (.cells #[.bool s, va1, va2] 39)).heap.size = w.heap.size + 1 by simp] at HD
  rw [show ((w.alloc (.cells #[.bool s, va1, va2] 39)).alloc (.cells #[.bool t, vb1, vb2] 39)).heap.size = w.heap.size + 2 by simp] at HO
  have HA1 := Lib.hid (IsL.mono _ _ _ _ HB.out ha1)
  have HA2 := Lib.hid (IsL.mono _ _ _ _ HB.out ha2)
  have HB1 := Lib.hid (IsL.mono _ _ _ _ HB.out hb1)
  have HB2 := Lib.hid (IsL.mono _ _ _ _ HB.out hb2)
  have HW0 := Lib.hid (And.intro ha1.words (And.intro ha2.words (And.intro hb1.words hb2.words)))
  have H1 := Lib.hid (And.intro h1 (And.intro h2 (And.intro h3 h4)))
  obtain ⟨A, c, rfl, _⟩ := ha1
  obtain ⟨A', c', rfl, _⟩ := ha2
  obtain ⟨B, d, rfl, _⟩ := hb1
  obtain ⟨B', d', rfl, _⟩ := hb2
  clear h1 h2 h3 h4
  obtain ⟨m, hm⟩ : ∃ m, val X * val U = m := ⟨_, rfl⟩
  obtain ⟨l, hl⟩ : ∃ l, val Y * val V = l := ⟨_, rfl⟩
  have HL : Hid ((dig m).length ≤ 17592186044000 ∧ (dig l).length ≤ 17592186044000) := by
    have e1 := wl_eq HW0.out.1
    have e2 := wl_eq HW0.out.2.1
    have e3 := wl_eq HW0.out.2.2.1
    have e4 := wl_eq HW0.out.2.2.2
    have m1 := dig_mul_length (val X) (val U)
    have m2 := dig_mul_length (val Y) (val V)
    have := H1.out
    have := wl_le X
    have := wl_le Y
    have := wl_le U
    have := wl_le V
    rw [← hm, ← hl]
    exact Lib.hid ⟨by omega, by omega⟩
  rw [hm, hl]
  have HM := Lib.hid (And.intro hm hl)
  clear hm hl HW0
  obtain ⟨sx, hsx⟩ : ∃ b, (s != t) = b := ⟨_, rfl⟩
  rw [hsx]
  have HSX := Lib.hid hsx
  clear hsx
  obtain ⟨sg, hsg⟩ : ∃ b, (sx && decide (m ≠ 0)) = b := ⟨_, rfl⟩
  obtain ⟨nn, hnn⟩ : ∃ n, fracN (m) (l) 0 = n := ⟨_, rfl⟩
  obtain ⟨dd, hdd⟩ : ∃ n, fracD (m) (l) 0 = n := ⟨_, rfl⟩
  rw [hsg, hnn, hdd]
  have HE := Lib.hid (And.intro hsg (And.intro hnn hdd))
  clear hsg hnn hdd
  go_enter Tryd.func44, Tryd.ntmps44
  go_wp2_with fail
  refine region_at 16 (Pick [IsV (.pointer (some ⟨w.heap.size, 0, none⟩)), IsV (.bool s), IsV (.pointer (some ⟨w.heap.size + 1, 0, none⟩)), IsV (.bool t), IsV (.bool sx), IsV (.pointer (some ⟨w.heap.size, 1, none⟩)), IsV (.slice A X.length c), IsV (.pointer (some ⟨w.heap.size + 1, 1, none⟩)), IsV (.slice B U.length d), IsN m, IsV (.pointer (some ⟨w.heap.size, 2, none⟩)), IsV (.slice A' Y.length c'), IsV (.pointer (some ⟨w.heap.size + 1, 2, none⟩)), IsV (.slice B' V.length d'), IsN l, IsQ sg nn dd]) (by kernel_rfl) (by kernel_rfl) (by kernel_rfl) (mono_pick ⟨IsV.mono _, IsV.mono _, IsV.mono _, IsV.mono _, IsV.mono _, IsV.mono _, IsV.mono _, IsV.mono _, IsV.mono _, IsN.mono _, IsV.mono _, IsV.mono _, IsV.mono _, IsV.mono _, IsN.mono _, IsQ.mono _ _ _, trivial⟩) ⟨?_, ?_, ?_, ?_, ?_, ?_, ?_, ?_, ?_, ?_, ?_, ?_, ?_, ?_, ?_, ?_, trivial⟩ ?_
  · intro a W hsz hb hS
    have h2 : a.tmps.getD 2 undef = .pointer (some ⟨w.heap.size, 0, none⟩) := hS.1
    clear hS hsz
    refine will_of rfl ?_
    intro K hK
    go_simp
    exact hK _ _ ⟨Below.refl _ _, rfl⟩
  · intro a W hsz hb hS
    have h5 : a.tmps.getD 5 undef = .pointer (some ⟨w.heap.size, 0, none⟩) := hS.1
    clear hS hsz
    refine will_of rfl ?_
    obtain ⟨k0, k1, k2⟩ := (HC.out.later hb).cells
    obtain ⟨l0, l1, l2⟩ := (HD.out.later hb).cells
    intro K hK
    go_simp
    exact hK _ _ ⟨Below.refl _ _, rfl⟩
  · intro a W hsz hb hS
    have h3 : a.tmps.getD 3 undef = .pointer (some ⟨w.heap.size + 1, 0, none⟩) := hS.1
    clear hS hsz
    refine will_of rfl ?_
    intro K hK
    go_simp
    exact hK _ _ ⟨Below.refl _ _, rfl⟩
  · intro a W hsz hb hS
    have h7 : a.tmps.getD 7 undef = .pointer (some ⟨w.heap.size + 1, 0, none⟩) := hS.1
    clear hS hsz
    refine will_of rfl ?_
    obtain ⟨k0, k1, k2⟩ := (HC.out.later hb).cells
    obtain ⟨l0, l1, l2⟩ := (HD.out.later hb).cells
    intro K hK
    go_simp
    exact hK _ _ ⟨Below.refl _ _, rfl⟩
  · intro a W hsz hb hS
    have h6 : a.tmps.getD 6 undef = .bool s := hS.1
    have h8 : a.tmps.getD 8 undef = .bool t := hS.2.1
    clear hS hsz
    refine will_of rfl ?_
    intro K hK
    go_simp
    exact hK _ _ ⟨Below.refl _ _, by have := HSX.out; subst this; cases s <;> cases t <;> rfl⟩
  · intro a W hsz hb hS
    have h2 : a.tmps.getD 2 undef = .pointer (some ⟨w.heap.size, 0, none⟩) := hS.1
    clear hS hsz
    refine will_of rfl ?_
    intro K hK
    go_simp
    exact hK _ _ ⟨Below.refl _ _, rfl⟩
  · intro a W hsz hb hS
    have h10 : a.tmps.getD 10 undef = .pointer (some ⟨w.heap.size, 1, none⟩) := hS.1
    clear hS hsz
    refine will_of rfl ?_
    obtain ⟨k0, k1, k2⟩ := (HC.out.later hb).cells
    obtain ⟨l0, l1, l2⟩ := (HD.out.later hb).cells
    intro K hK
    go_simp
    exact hK _ _ ⟨Below.refl _ _, rfl⟩
  · intro a W hsz hb hS
    have h3 : a.tmps.getD 3 undef = .pointer (some ⟨w.heap.size + 1, 0, none⟩) := hS.1
    clear hS hsz
    refine will_of rfl ?_
    intro K hK
    go_simp
    exact hK _ _ ⟨Below.refl _ _, rfl⟩
  · intro a W hsz hb hS
    have h12 : a.tmps.getD 12 undef = .pointer (some ⟨w.heap.size + 1, 1, none⟩) := hS.1
    clear hS hsz
    refine will_of rfl ?_
    obtain ⟨k0, k1, k2⟩ := (HC.out.later hb).cells
    obtain ⟨l0, l1, l2⟩ := (HD.out.later hb).cells
    intro K hK
    go_simp
    exact hK _ _ ⟨Below.refl _ _, rfl⟩
  · intro a W hsz hb hS
    have h11 : a.tmps.getD 11 undef = .slice A X.length c := hS.1
    have h13 : a.tmps.getD 13 undef = .slice B U.length d := hS.2.1
    clear hS hsz
    refine will_of rfl ?_
    obtain ⟨k0, k1, k2⟩ := (HC.out.later hb).cells
    obtain ⟨l0, l1, l2⟩ := (HD.out.later hb).cells
    intro K hK
    go_simp
    have hq := times_is (IsL.mono _ _ _ _ hb HA1.out) (IsL.mono _ _ _ _ hb HB1.out) (by have := H1.out; omega)
    rw [HM.out.1] at hq
    (with_reducible refine hq.mono ?_)
    rintro e W' ⟨v, rfl, hv, hb'⟩
    exact hK _ _ ⟨hb', hv⟩
  · intro a W hsz hb hS
    have h2 : a.tmps.getD 2 undef = .pointer (some ⟨w.heap.size, 0, none⟩) := hS.1
    clear hS hsz
    refine will_of rfl ?_
    intro K hK
    go_simp
    exact hK _ _ ⟨Below.refl _ _, rfl⟩
  · intro a W hsz hb hS
    have h15 : a.tmps.getD 15 undef = .pointer (some ⟨w.heap.size, 2, none⟩) := hS.1
    clear hS hsz
    refine will_of rfl ?_
    obtain ⟨k0, k1, k2⟩ := (HC.out.later hb).cells
    obtain ⟨l0, l1, l2⟩ := (HD.out.later hb).cells
    intro K hK
    go_simp
    exact hK _ _ ⟨Below.refl _ _, rfl⟩
  · intro a W hsz hb hS
    have h3 : a.tmps.getD 3 undef = .pointer (some ⟨w.heap.size + 1, 0, none⟩) := hS.1
    clear hS hsz
    refine will_of rfl ?_
    intro K hK
    go_simp
    exact hK _ _ ⟨Below.refl _ _, rfl⟩
  · intro a W hsz hb hS
    have h17 : a.tmps.getD 17 undef = .pointer (some ⟨w.heap.size + 1, 2, none⟩) := hS.1
    clear hS hsz
    refine will_of rfl ?_
    obtain ⟨k0, k1, k2⟩ := (HC.out.later hb).cells
    obtain ⟨l0, l1, l2⟩ := (HD.out.later hb).cells
    intro K hK
    go_simp
    exact hK _ _ ⟨Below.refl _ _, rfl⟩
  · intro a W hsz hb hS
    have h16 : a.tmps.getD 16 undef = .slice A' Y.length c' := hS.1
    have h18 : a.tmps.getD 18 undef = .slice B' V.length d' := hS.2.1
    clear hS hsz
    refine will_of rfl ?_
    obtain ⟨k0, k1, k2⟩ := (HC.out.later hb).cells
    obtain ⟨l0, l1, l2⟩ := (HD.out.later hb).cells
    intro K hK
    go_simp
    have hq := times_is (IsL.mono _ _ _ _ hb HA2.out) (IsL.mono _ _ _ _ hb HB2.out) (by have := H1.out; omega)
    rw [HM.out.2] at hq
    (with_reducible refine hq.mono ?_)
    rintro e W' ⟨v, rfl, hv, hb'⟩
    exact hK _ _ ⟨hb', hv⟩
  · intro a W hsz hb hS
    have h9 : a.tmps.getD 9 undef = .bool sx := hS.1
    have q14 : IsN m (a.tmps.getD 14 undef) W := hS.2.1
    have q19 : IsN l (a.tmps.getD 19 undef) W := hS.2.2.1
    clear hS hsz
    obtain ⟨v14, h14⟩ : ∃ v, a.tmps.getD 14 undef = v := ⟨_, rfl⟩
    rw [h14] at q14
    obtain ⟨v19, h19⟩ : ∃ v, a.tmps.getD 19 undef = v := ⟨_, rfl⟩
    rw [h19] at q19
    refine will_of rfl ?_
    obtain ⟨k0, k1, k2⟩ := (HC.out.later hb).cells
    obtain ⟨l0, l1, l2⟩ := (HD.out.later hb).cells
    intro K hK
    go_simp
    have hq := frac_is sx 0 q14 q19 (by have := HL.out; omega) (by have := HL.out; omega)
    rw [val_dig, val_dig, HE.out.1, HE.out.2.1, HE.out.2.2] at hq
    (with_reducible refine hq.mono ?_)
    rintro e W' ⟨v, rfl, hv, hb'⟩
    exact hK _ _ ⟨hb', hv⟩
  intro f W hb hH
  have e0 : f 0 = .pointer (some ⟨w.heap.size, 0, none⟩) := hH.1
  have e1 : f 1 = .bool s := hH.2.1
  have e2 : f 2 = .pointer (some ⟨w.heap.size + 1, 0, none⟩) := hH.2.2.1
  have e3 : f 3 = .bool t := hH.2.2.2.1
  have e4 : f 4 = .bool sx := hH.2.2.2.2.1
  have e5 : f 5 = .pointer (some ⟨w.heap.size, 1, none⟩) := hH.2.2.2.2.2.1
  have e6 : f 6 = .slice A X.length c := hH.2.2.2.2.2.2.1
  have e7 : f 7 = .pointer (some ⟨w.heap.size + 1, 1, none⟩) := hH.2.2.2.2.2.2.2.1
  have e8 : f 8 = .slice B U.length d := hH.2.2.2.2.2.2.2.2.1
  obtain ⟨x9, y9⟩ : ∃ x, f 9 = x := ⟨_, rfl⟩
  have q9 : IsN m (f 9) W := hH.2.2.2.2.2.2.2.2.2.1
  rw [y9] at q9
  have e10 : f 10 = .pointer (some ⟨w.heap.size, 2, none⟩) := hH.2.2.2.2.2.2.2.2.2.2.1
  have e11 : f 11 = .slice A' Y.length c' := hH.2.2.2.2.2.2.2.2.2.2.2.1
  have e12 : f 12 = .pointer (some ⟨w.heap.size + 1, 2, none⟩) := hH.2.2.2.2.2.2.2.2.2.2.2.2.1
  have e13 : f 13 = .slice B' V.length d' := hH.2.2.2.2.2.2.2.2.2.2.2.2.2.1
  obtain ⟨x14, y14⟩ : ∃ x, f 14 = x := ⟨_, rfl⟩
  have q14 : IsN l (f 14) W := hH.2.2.2.2.2.2.2.2.2.2.2.2.2.2.1
  rw [y14] at q14
  obtain ⟨x15, y15⟩ : ∃ x, f 15 = x := ⟨_, rfl⟩
  have q15 : IsQ sg nn dd (f 15) W := hH.2.2.2.2.2.2.2.2.2.2.2.2.2.2.2.1
  rw [y15] at q15
  simp only [List.take_succ_cons, List.take_zero, List.drop_succ_cons, List.drop_zero, putFrom, Act.put, List.setIfInBounds_toArray, List.set_cons_zero, List.set_cons_succ, Nat.reduceAdd, e0, e1, e2, e3, e4, e5, e6, e7, e8, y9, e10, e11, e12, e13, y14, y15]
  clear e0 e1 e2 e3 e4 e5 e6 e7 e8 y9 e10 e11 e12 e13 y14 y15 hH f
  clear q9 q14
  obtain ⟨_, _, rfl, ⟨A3, c3, rfl, r3⟩, ⟨A4, c4, rfl, r4⟩⟩ := q15
  have HO2 := Lib.hid (HO.out.later hb)
  obtain ⟨o0, o1, o2, p0, p1, p2⟩ := HO2.out.cells
  have HW := Lib.hid (raft HB.out hb)
  have R3 := Lib.hid r3
  have R4 := Lib.hid r4
  clear r3 r4 hb
  go_wp2
  refine bodyPost_ret (v := .agg #[.bool (sg), .slice A3 (dig (nn)).length c3, .slice A4 (dig (dd)).length c4]) (by simp [results, Tryd.results44, go_sem, o0, o1, o2]) rfl ?_
  exact ⟨_, rfl, ⟨_, _, rfl, ⟨A3, c3, rfl, R3.out.put3 HO2.out _ _ _⟩, ⟨A4, c4, rfl, R4.out.put3 HO2.out _ _ _⟩⟩, put3_below HW.out (by omega) _ _ _⟩

set_option maxRecDepth 20000 in
set_option maxHeartbeats 4000000 in
theorem rquo_is (ha : IsR s X Y va w) (hb : IsR t U V vb w) (h1 : X.length ≤ 8796093022000) (h2 : Y.length ≤ 8796093022000) (h3 : U.length ≤ 8796093022000) (h4 : V.length ≤ 8796093022000) :
    Calls Tryd.prog 77 #[va, vb] w (Ans w (IsQ ((s != t) && decide (val X * val V ≠ 0)) (fracN (val X * val V) (val Y * val U) 0) (fracD (val X * val V) (val Y * val U) 0))) := by
  obtain ⟨va1, va2, rfl, ha1, ha2⟩ := ha
  obtain ⟨vb1, vb2, rfl, hb1, hb2⟩ := hb
  have HB := Lib.hid (raft (raft (rnew w (.cells #[.bool s, va1, va2] 39)) (rnew _ (.cells #[.bool t, vb1, vb2] 39))) (rnew _ ratO))
  have HC := Lib.hid ((Box3.new w (.bool s) va1 va2).later (raft (rnew _ (.cells #[.bool t, vb1, vb2] 39)) (rnew _ ratO)))
  have HD := Lib.hid ((Box3.new (w.alloc (.cells #[.bool s, va1, va2] 39)) (.bool t) vb1 vb2).later (rnew _ ratO))
  have HO := Lib.hid (Box.new ((w.alloc (.cells #[.bool s, va1, va2] 39)).alloc (.cells #[.bool t, vb1, vb2] 39)))
  rw [show (w.alloc (.cells #[.bool s, va1, va2] 39)).heap.size = w.heap.size + 1 by simp] at HD
  rw [show ((w.alloc (.cells #[.bool s, va1, va2] 39)).alloc (.cells #[.bool t, vb1, vb2] 39)).heap.size = w.heap.size + 2 by simp] at HO
  have HA1 := Lib.hid (IsL.mono _ _ _ _ HB.out ha1)
  have HA2 := Lib.hid (IsL.mono _ _ _ _ HB.out ha2)
  have HB1 := Lib.hid (IsL.mono _ _ _ _ HB.out hb1)
  have HB2 := Lib.hid (IsL.mono _ _ _ _ HB.out hb2)
  have HW0 := Lib.hid (And.intro ha1.words (And.intro ha2.words (And.intro hb1.words hb2.words)))
  have H1 := Lib.hid (And.intro h1 (And.intro h2 (And.intro h3 h4)))
  obtain ⟨A, c, rfl, _⟩ := ha1
  obtain ⟨A', c', rfl, _⟩ := ha2
  obtain ⟨B, d, rfl, _⟩ := hb1
  obtain ⟨B', d', rfl, _⟩ := hb2
  clear h1 h2 h3 h4
  obtain ⟨m, hm⟩ : ∃ m, val X * val V = m := ⟨_, rfl⟩
  obtain ⟨l, hl⟩ : ∃ l, val Y * val U = l := ⟨_, rfl⟩
  have HL : Hid ((dig m).length ≤ 17592186044000 ∧ (dig l).length ≤ 17592186044000) := by
    have e1 := wl_eq HW0.out.1
    have e2 := wl_eq HW0.out.2.1
    have e3 := wl_eq HW0.out.2.2.1
    have e4 := wl_eq HW0.out.2.2.2
    have m1 := dig_mul_length (val X) (val V)
    have m2 := dig_mul_length (val Y) (val U)
    have := H1.out
    have := wl_le X
    have := wl_le Y
    have := wl_le U
    have := wl_le V
    rw [← hm, ← hl]
    exact Lib.hid ⟨by omega, by omega⟩
  rw [hm, hl]
  have HM := Lib.hid (And.intro hm hl)
  clear hm hl HW0
  obtain ⟨sx, hsx⟩ : ∃ b, (s != t) = b := ⟨_, rfl⟩
  rw [hsx]
  have HSX := Lib.hid hsx
  clear hsx
  obtain ⟨sg, hsg⟩ : ∃ b, (sx && decide (m ≠ 0)) = b := ⟨_, rfl⟩
  obtain ⟨nn, hnn⟩ : ∃ n, fracN (m) (l) 0 = n := ⟨_, rfl⟩
  obtain ⟨dd, hdd⟩ : ∃ n, fracD (m) (l) 0 = n := ⟨_, rfl⟩
  rw [hsg, hnn, hdd]
  have HE := Lib.hid (And.intro hsg (And.intro hnn hdd))
  clear hsg hnn hdd
  go_enter Tryd.func77, Tryd.ntmps77
  go_wp2_with fail
  refine region_at 16 (Pick [IsV (.pointer (some ⟨w.heap.size, 0, none⟩)), IsV (.bool s), IsV (.pointer (some ⟨w.heap.size + 1, 0, none⟩)), IsV (.bool t), IsV (.bool sx), IsV (.pointer (some ⟨w.heap.size, 1, none⟩)), IsV (.slice A X.length c), IsV (.pointer (some ⟨w.heap.size + 1, 2, none⟩)), IsV (.slice B' V.length d'), IsN m, IsV (.pointer (some ⟨w.heap.size, 2, none⟩)), IsV (.slice A' Y.length c'), IsV (.pointer (some ⟨w.heap.size + 1, 1, none⟩)), IsV (.slice B U.length d), IsN l, IsQ sg nn dd]) (by kernel_rfl) (by kernel_rfl) (by kernel_rfl) (mono_pick ⟨IsV.mono _, IsV.mono _, IsV.mono _, IsV.mono _, IsV.mono _, IsV.mono _, IsV.mono _, IsV.mono _, IsV.mono _, IsN.mono _, IsV.mono _, IsV.mono _, IsV.mono _, IsV.mono _, IsN.mono _, IsQ.mono _ _ _, trivial⟩) ⟨?_, ?_, ?_, ?_, ?_, ?_, ?_, ?_, ?_, ?_, ?_, ?_, ?_, ?_, ?_, ?_, trivial⟩ ?_
  · intro a W hsz hb hS
    have h2 : a.tmps.getD 2 undef = .pointer (some ⟨w.heap.size, 0, none⟩) := hS.1
    clear hS hsz
    refine will_of rfl ?_
    intro K hK
    go_simp
    exact hK _ _ ⟨Below.refl _ _, rfl⟩
  · intro a W hsz hb hS
    have h5 : a.tmps.getD 5 undef = .pointer (some ⟨w.heap.size, 0, none⟩) := hS.1
    clear hS hsz
    refine will_of rfl ?_
    obtain ⟨k0, k1, k2⟩ := (HC.out.later hb).cells
    obtain ⟨l0, l1, l2⟩ := (HD.out.later hb).cells
    intro K hK
    go_simp
    exact hK _ _ ⟨Below.refl _ _, rfl⟩
  · intro a W hsz hb hS
    have h3 : a.tmps.getD 3 undef = .pointer (some ⟨w.heap.size + 1, 0, none⟩) := hS.1
    clear hS hsz
    refine will_of rfl ?_
    intro K hK
    go_simp
    exact hK _ _ ⟨Below.refl _ _, rfl⟩
  · intro a W hsz hb hS
    have h7 : a.tmps.getD 7 undef = .pointer (some ⟨w.heap.size + 1, 0, none⟩) := hS.1
    clear hS hsz
    refine will_of rfl ?_
    obtain ⟨k0, k1, k2⟩ := (HC.out.later hb).cells
    obtain ⟨l0, l1, l2⟩ := (HD.out.later hb).cells
    intro K hK
    go_simp
    exact hK _ _ ⟨Below.refl _ _, rfl⟩
  · intro a W hsz hb hS
    have h6 : a.tmps.getD 6 undef = .bool s := hS.1
    have h8 : a.tmps.getD 8 undef = .bool t := hS.2.1
    clear hS hsz
    refine will_of rfl ?_
    intro K hK
    go_simp
    exact hK _ _ ⟨Below.refl _ _, by have := HSX.out; subst this; cases s <;> cases t <;> rfl⟩
  · intro a W hsz hb hS
    have h2 : a.tmps.getD 2 undef = .pointer (some ⟨w.heap.size, 0, none⟩) := hS.1
    clear hS hsz
    refine will_of rfl ?_
    intro K hK
    go_simp
    exact hK _ _ ⟨Below.refl _ _, rfl⟩
  · intro a W hsz hb hS
    have h10 : a.tmps.getD 10 undef = .pointer (some ⟨w.heap.size, 1, none⟩) := hS.1
    clear hS hsz
    refine will_of rfl ?_
    obtain ⟨k0, k1, k2⟩ := (HC.out.later hb).cells
    obtain ⟨l0, l1, l2⟩ := (HD.out.later hb).cells
    intro K hK
    go_simp
    exact hK _ _ ⟨Below.refl _ _, rfl⟩
  · intro a W hsz hb hS
    have h3 : a.tmps.getD 3 undef = .pointer (some ⟨w.heap.size + 1, 0, none⟩) := hS.1
    clear hS hsz
    refine will_of rfl ?_
    intro K hK
    go_simp
    exact hK _ _ ⟨Below.refl _ _, rfl⟩
  · intro a W hsz hb hS
    have h12 : a.tmps.getD 12 undef = .pointer (some ⟨w.heap.size + 1, 2, none⟩) := hS.1
    clear hS hsz
    refine will_of rfl ?_
    obtain ⟨k0, k1, k2⟩ := (HC.out.later hb).cells
    obtain ⟨l0, l1, l2⟩ := (HD.out.later hb).cells
    intro K hK
    go_simp
    exact hK _ _ ⟨Below.refl _ _, rfl⟩
  · intro a W hsz hb hS
    have h11 : a.tmps.getD 11 undef = .slice A X.length c := hS.1
    have h13 : a.tmps.getD 13 undef = .slice B' V.length d' := hS.2.1
    clear hS hsz
    refine will_of rfl ?_
    obtain ⟨k0, k1, k2⟩ := (HC.out.later hb).cells
    obtain ⟨l0, l1, l2⟩ := (HD.out.later hb).cells
    intro K hK
    go_simp
    have hq := times_is (IsL.mono _ _ _ _ hb HA1.out) (IsL.mono _ _ _ _ hb HB2.out) (by have := H1.out; omega)
    rw [HM.out.1] at hq
    (with_reducible refine hq.mono ?_)
    rintro e W' ⟨v, rfl, hv, hb'⟩
    exact hK _ _ ⟨hb', hv⟩
  · intro a W hsz hb hS
    have h2 : a.tmps.getD 2 undef = .pointer (some ⟨w.heap.size, 0, none⟩) := hS.1
    clear hS hsz
    refine will_of rfl ?_
    intro K hK
    go_simp
    exact hK _ _ ⟨Below.refl _ _, rfl⟩
  · intro a W hsz hb hS
    have h15 : a.tmps.getD 15 undef = .pointer (some ⟨w.heap.size, 2, none⟩) := hS.1
    clear hS hsz
    refine will_of rfl ?_
    obtain ⟨k0, k1, k2⟩ := (HC.out.later hb).cells
    obtain ⟨l0, l1, l2⟩ := (HD.out.later hb).cells
    intro K hK
    go_simp
    exact hK _ _ ⟨Below.refl _ _, rfl⟩
  · intro a W hsz hb hS
    have h3 : a.tmps.getD 3 undef = .pointer (some ⟨w.heap.size + 1, 0, none⟩) := hS.1
    clear hS hsz
    refine will_of rfl ?_
    intro K hK
    go_simp
    exact hK _ _ ⟨Below.refl _ _, rfl⟩
  · intro a W hsz hb hS
    have h17 : a.tmps.getD 17 undef = .pointer (some ⟨w.heap.size + 1, 1, none⟩) := hS.1
    clear hS hsz
    refine will_of rfl ?_
    obtain ⟨k0, k1, k2⟩ := (HC.out.later hb).cells
    obtain ⟨l0, l1, l2⟩ := (HD.out.later hb).cells
    intro K hK
    go_simp
    exact hK _ _ ⟨Below.refl _ _, rfl⟩
  · intro a W hsz hb hS
    have h16 : a.tmps.getD 16 undef = .slice A' Y.length c' := hS.1
    have h18 : a.tmps.getD 18 undef = .slice B U.length d := hS.2.1
    clear hS hsz
    refine will_of rfl ?_
    obtain ⟨k0, k1, k2⟩ := (HC.out.later hb).cells
    obtain ⟨l0, l1, l2⟩ := (HD.out.later hb).cells
    intro K hK
    go_simp
    have hq := times_is (IsL.mono _ _ _ _ hb HA2.out) (IsL.mono _ _ _ _ hb HB1.out) (by have := H1.out; omega)
    rw [HM.out.2] at hq
    (with_reducible refine hq.mono ?_)
    rintro e W' ⟨v, rfl, hv, hb'⟩
    exact hK _ _ ⟨hb', hv⟩
  · intro a W hsz hb hS
    have h9 : a.tmps.getD 9 undef = .bool sx := hS.1
    have q14 : IsN m (a.tmps.getD 14 undef) W := hS.2.1
    have q19 : IsN l (a.tmps.getD 19 undef) W := hS.2.2.1
    clear hS hsz
    obtain ⟨v14, h14⟩ : ∃ v, a.tmps.getD 14 undef = v := ⟨_, rfl⟩
    rw [h14] at q14
    obtain ⟨v19, h19⟩ : ∃ v, a.tmps.getD 19 undef = v := ⟨_, rfl⟩
    rw [h19] at q19
    refine will_of rfl ?_
    obtain ⟨k0, k1, k2⟩ := (HC.out.later hb).cells
    obtain ⟨l0, l1, l2⟩ := (HD.out.later hb).cells
    intro K hK
    go_simp
    have hq := frac_is sx 0 q14 q19 (by have := HL.out; omega) (by have := HL.out; omega)
    rw [val_dig, val_dig, HE.out.1, HE.out.2.1, HE.out.2.2] at hq
    (with_reducible refine hq.mono ?_)
    rintro e W' ⟨v, rfl, hv, hb'⟩
    exact hK _ _ ⟨hb', hv⟩
  intro f W hb hH
  have e0 : f 0 = .pointer (some ⟨w.heap.size, 0, none⟩) := hH.1
  have e1 : f 1 = .bool s := hH.2.1
  have e2 : f 2 = .pointer (some ⟨w.heap.size + 1, 0, none⟩) := hH.2.2.1
  have e3 : f 3 = .bool t := hH.2.2.2.1
  have e4 : f 4 = .bool sx := hH.2.2.2.2.1
  have e5 : f 5 = .pointer (some ⟨w.heap.size, 1, none⟩) := hH.2.2.2.2.2.1
  have e6 : f 6 = .slice A X.length c := hH.2.2.2.2.2.2.1
  have e7 : f 7 = .pointer (some ⟨w.heap.size + 1, 2, none⟩) := hH.2.2.2.2.2.2.2.1
  have e8 : f 8 = .slice B' V.length d' := hH.2.2.2.2.2.2.2.2.1
  obtain ⟨x9, y9⟩ : ∃ x, f 9 = x := ⟨_, rfl⟩
  have q9 : IsN m (f 9) W := hH.2.2.2.2.2.2.2.2.2.1
  rw [y9] at q9
  have e10 : f 10 = .pointer (some ⟨w.heap.size, 2, none⟩) := hH.2.2.2.2.2.2.2.2.2.2.1
  have e11 : f 11 = .slice A' Y.length c' := hH.2.2.2.2.2.2.2.2.2.2.2.1
  have e12 : f 12 = .pointer (some ⟨w.heap.size + 1, 1, none⟩) := hH.2.2.2.2.2.2.2.2.2.2.2.2.1
  have e13 : f 13 = .slice B U.length d := hH.2.2.2.2.2.2.2.2.2.2.2.2.2.1
  obtain ⟨x14, y14⟩ : ∃ x, f 14 = x := ⟨_, rfl⟩
  have q14 : IsN l (f 14) W := hH.2.2.2.2.2.2.2.2.2.2.2.2.2.2.1
  rw [y14] at q14
  obtain ⟨x15, y15⟩ : ∃ x, f 15 = x := ⟨_, rfl⟩
  have q15 : IsQ sg nn dd (f 15) W := hH.2.2.2.2.2.2.2.2.2.2.2.2.2.2.2.1
  rw [y15] at q15
  simp only [List.take_succ_cons, List.take_zero, List.drop_succ_cons, List.drop_zero, putFrom, Act.put, List.setIfInBounds_toArray, List.set_cons_zero, List.set_cons_succ, Nat.reduceAdd, e0, e1, e2, e3, e4, e5, e6, e7, e8, y9, e10, e11, e12, e13, y14, y15]
  clear e0 e1 e2 e3 e4 e5 e6 e7 e8 y9 e10 e11 e12 e13 y14 y15 hH f
  clear q9 q14
  obtain ⟨_, _, rfl, ⟨A3, c3, rfl, r3⟩, ⟨A4, c4, rfl, r4⟩⟩ := q15
  have HO2 := Lib.hid (HO.out.later hb)
  obtain ⟨o0, o1, o2, p0, p1, p2⟩ := HO2.out.cells
  have HW := Lib.hid (raft HB.out hb)
  have R3 := Lib.hid r3
  have R4 := Lib.hid r4
  clear r3 r4 hb
  go_wp2
  refine bodyPost_ret (v := .agg #[.bool (sg), .slice A3 (dig (nn)).length c3, .slice A4 (dig (dd)).length c4]) (by simp [results, Tryd.results77, go_sem, o0, o1, o2]) rfl ?_
  exact ⟨_, rfl, ⟨_, _, rfl, ⟨A3, c3, rfl, R3.out.put3 HO2.out _ _ _⟩, ⟨A4, c4, rfl, R4.out.put3 HO2.out _ _ _⟩⟩, put3_below HW.out (by omega) _ _ _⟩

set_option maxRecDepth 20000 in
set_option maxHeartbeats 8000000 in
theorem radd_is (ha : IsR s X Y va w) (hb : IsR t U V vb w) (h1 : X.length + U.length + V.length ≤ 35184372088500) (h2 : Y.length + U.length + V.length ≤ 35184372088500) :
    Calls Tryd.prog 88 #[va, vb] w (Ans w (IsQ ((addS s (val X * val V) t (val U * val Y)).1 && decide ((addS s (val X * val V) t (val U * val Y)).2 ≠ 0)) (fracN (addS s (val X * val V) t (val U * val Y)).2 (val Y * val V) 0) (fracD (addS s (val X * val V) t (val U * val Y)).2 (val Y * val V) 0))) := by
  obtain ⟨va1, va2, rfl, ha1, ha2⟩ := ha
  obtain ⟨vb1, vb2, rfl, hb1, hb2⟩ := hb
  have HB := Lib.hid (raft (raft (rnew w (.cells #[.bool s, va1, va2] 39)) (rnew _ (.cells #[.bool t, vb1, vb2] 39))) (rnew _ ratO))
  have HC := Lib.hid ((Box3.new w (.bool s) va1 va2).later (raft (rnew _ (.cells #[.bool t, vb1, vb2] 39)) (rnew _ ratO)))
  have HD := Lib.hid ((Box3.new (w.alloc (.cells #[.bool s, va1, va2] 39)) (.bool t) vb1 vb2).later (rnew _ ratO))
  have HO := Lib.hid (Box.new ((w.alloc (.cells #[.bool s, va1, va2] 39)).alloc (.cells #[.bool t, vb1, vb2] 39)))
  rw [show (w.alloc (.cells #[.bool s, va1, va2] 39)).heap.size = w.heap.size + 1 by simp] at HD
  rw [show ((w.alloc (.cells #[.bool s, va1, va2] 39)).alloc (.cells #[.bool t, vb1, vb2] 39)).heap.size = w.heap.size + 2 by simp] at HO
  have HA1 := Lib.hid (IsL.mono _ _ _ _ HB.out ha1)
  have HA2 := Lib.hid (IsL.mono _ _ _ _ HB.out ha2)
  have HB1 := Lib.hid (IsL.mono _ _ _ _ HB.out hb1)
  have HB2 := Lib.hid (IsL.mono _ _ _ _ HB.out hb2)
  have HW0 := Lib.hid (And.intro ha1.words (And.intro ha2.words (And.intro hb1.words hb2.words)))
  have H1 := Lib.hid (And.intro h1 h2)
  obtain ⟨A, c, rfl, _⟩ := ha1
  obtain ⟨A', c', rfl, _⟩ := ha2
  obtain ⟨B, d, rfl, _⟩ := hb1
  obtain ⟨B', d', rfl, _⟩ := hb2
  clear h1 h2
  obtain ⟨x, hx⟩ : ∃ x, val X * val V = x := ⟨_, rfl⟩
  obtain ⟨y, hy⟩ : ∃ y, val U * val Y = y := ⟨_, rfl⟩
  obtain ⟨z, hz⟩ : ∃ z, val Y * val V = z := ⟨_, rfl⟩
  have HL : Hid ((dig x).length ≤ 35184372088500 ∧ (dig y).length ≤ 35184372088500 ∧ (dig z).length ≤ 35184372088500) := by
    have e1 := wl_eq HW0.out.1
    have e2 := wl_eq HW0.out.2.1
    have e3 := wl_eq HW0.out.2.2.1
    have e4 := wl_eq HW0.out.2.2.2
    have m1 := dig_mul_length (val X) (val V)
    have m2 := dig_mul_length (val U) (val Y)
    have m3 := dig_mul_length (val Y) (val V)
    have := H1.out
    have := wl_le X
    have := wl_le Y
    have := wl_le U
    have := wl_le V
    rw [← hx, ← hy, ← hz]
    exact Lib.hid ⟨by omega, by omega, by omega⟩
  rw [hx, hy, hz]
  have HX := Lib.hid hx
  have HY := Lib.hid hy
  have HZ := Lib.hid hz
  clear hx hy hz
  rcases (show (s = t) ∨ (s = true ∧ t = false) ∨ (s = false ∧ t = true) by cases s <;> cases t <;> simp) with hst | hst
  · subst hst
    have hadd : addS s x s y = (s, x + y) := by simp [addS]
    rw [hadd]
    clear hadd
    dsimp only
    obtain ⟨sg, hsg⟩ : ∃ b, (s && decide ((x + y) ≠ 0)) = b := ⟨_, rfl⟩
    obtain ⟨nn, hnn⟩ : ∃ n, fracN ((x + y)) (z) 0 = n := ⟨_, rfl⟩
    obtain ⟨dd, hdd⟩ : ∃ n, fracD ((x + y)) (z) 0 = n := ⟨_, rfl⟩
    rw [hsg, hnn, hdd]
    have HE := Lib.hid (And.intro hsg (And.intro hnn hdd))
    clear hsg hnn hdd
    have hbb : (s == s) = true := by simp
    have HL2 : Hid ((dig (x + y)).length ≤ 35184372088501) := Lib.hid (dig_add_length x y _ HL.out.1 HL.out.2.1)
    obtain ⟨k0, k1, k2⟩ := HC.out.cells
    obtain ⟨l0, l1, l2⟩ := HD.out.cells
    go_enter Tryd.func88, Tryd.ntmps88
    go_wp2_with fail
    refine (times_is HA1.out HB2.out (by have := H1.out; omega)).mono ?_
    rintro en w1 ⟨v1, rfl, hv, hb⟩
    have HB := Lib.hid (raft HB.out hb)
    have HC := Lib.hid (HC.out.later hb)
    have HD := Lib.hid (HD.out.later hb)
    have HO := Lib.hid (HO.out.later hb)
    have HA1 := Lib.hid (IsL.mono _ _ _ _ hb HA1.out)
    have HA2 := Lib.hid (IsL.mono _ _ _ _ hb HA2.out)
    have HB1 := Lib.hid (IsL.mono _ _ _ _ hb HB1.out)
    have HB2 := Lib.hid (IsL.mono _ _ _ _ hb HB2.out)
    have Hv1 : Hid (IsN x v1 w1) := by rw [HX.out] at hv; exact Lib.hid hv
    clear hv hb
    clear k0 k1 k2 l0 l1 l2
    obtain ⟨k0, k1, k2⟩ := HC.out.cells
    obtain ⟨l0, l1, l2⟩ := HD.out.cells
    go_wp2_with fail
    refine (times_is HB1.out HA2.out (by have := H1.out; omega)).mono ?_
    rintro en w2 ⟨v2, rfl, hv, hb⟩
    have HB := Lib.hid (raft HB.out hb)
    have HC := Lib.hid (HC.out.later hb)
    have HD := Lib.hid (HD.out.later hb)
    have HO := Lib.hid (HO.out.later hb)
    have HA1 := Lib.hid (IsL.mono _ _ _ _ hb HA1.out)
    have HA2 := Lib.hid (IsL.mono _ _ _ _ hb HA2.out)
    have HB1 := Lib.hid (IsL.mono _ _ _ _ hb HB1.out)
    have HB2 := Lib.hid (IsL.mono _ _ _ _ hb HB2.out)
    have Hv1 := Lib.hid (IsL.mono _ _ _ _ hb Hv1.out)
    have Hv2 : Hid (IsN y v2 w2) := by rw [HY.out] at hv; exact Lib.hid hv
    clear hv hb
    clear k0 k1 k2 l0 l1 l2
    obtain ⟨k0, k1, k2⟩ := HC.out.cells
    obtain ⟨l0, l1, l2⟩ := HD.out.cells
    go_wp2_with fail
    refine (times_is HA2.out HB2.out (by have := H1.out; omega)).mono ?_
    rintro en w3 ⟨v3, rfl, hv, hb⟩
    have HB := Lib.hid (raft HB.out hb)
    have HC := Lib.hid (HC.out.later hb)
    have HD := Lib.hid (HD.out.later hb)
    have HO := Lib.hid (HO.out.later hb)
    have HA1 := Lib.hid (IsL.mono _ _ _ _ hb HA1.out)
    have HA2 := Lib.hid (IsL.mono _ _ _ _ hb HA2.out)
    have HB1 := Lib.hid (IsL.mono _ _ _ _ hb HB1.out)
    have HB2 := Lib.hid (IsL.mono _ _ _ _ hb HB2.out)
    have Hv1 := Lib.hid (IsL.mono _ _ _ _ hb Hv1.out)
    have Hv2 := Lib.hid (IsL.mono _ _ _ _ hb Hv2.out)
    have Hv3 : Hid (IsN z v3 w3) := by rw [HZ.out] at hv; exact Lib.hid hv
    clear hv hb
    clear k0 k1 k2 l0 l1 l2
    obtain ⟨k0, k1, k2⟩ := HC.out.cells
    obtain ⟨l0, l1, l2⟩ := HD.out.cells
    clear HX HY HZ HA1 HA2 HB1 HB2 HW0 H1
    go_upto_region 5 with fail
    refine region_at 7 (Pick [IsV (.pointer (some ⟨w.heap.size, 0, none⟩)), IsV (.bool s), IsV (v1), IsV (v2), IsN (x + y), IsV (v3), IsQ sg nn dd]) (by kernel_rfl) (by kernel_rfl) (by kernel_rfl) (mono_pick ⟨IsV.mono _, IsV.mono _, IsV.mono _, IsV.mono _, IsN.mono _, IsV.mono _, IsQ.mono _ _ _, trivial⟩) ⟨?_, ?_, ?_, ?_, ?_, ?_, ?_, trivial⟩ ?_
    · intro a W hsz hb hS
      have h2 : a.tmps.getD 2 undef = .pointer (some ⟨w.heap.size, 0, none⟩) := hS.1
      clear hS hsz
      refine will_of rfl ?_
      intro K hK
      go_simp
      exact hK _ _ ⟨Below.refl _ _, rfl⟩
    · intro a W hsz hb hS
      have h28 : a.tmps.getD 28 undef = .pointer (some ⟨w.heap.size, 0, none⟩) := hS.1
      clear hS hsz
      refine will_of rfl ?_
      obtain ⟨k0, k1, k2⟩ := (HC.out.later hb).cells
      obtain ⟨l0, l1, l2⟩ := (HD.out.later hb).cells
      intro K hK
      go_simp
      exact hK _ _ ⟨Below.refl _ _, rfl⟩
    · intro a W hsz hb hS
      have h5 : a.tmps.getD 5 undef = v1 := hS.1
      clear hS hsz
      refine will_of rfl ?_
      intro K hK
      go_simp
      exact hK _ _ ⟨Below.refl _ _, rfl⟩
    · intro a W hsz hb hS
      have h6 : a.tmps.getD 6 undef = v2 := hS.1
      clear hS hsz
      refine will_of rfl ?_
      intro K hK
      go_simp
      exact hK _ _ ⟨Below.refl _ _, rfl⟩
    · intro a W hsz hb hS
      have h30 : a.tmps.getD 30 undef = v1 := hS.1
      have h31 : a.tmps.getD 31 undef = v2 := hS.2.1
      clear hS hsz
      refine will_of rfl ?_
      obtain ⟨k0, k1, k2⟩ := (HC.out.later hb).cells
      obtain ⟨l0, l1, l2⟩ := (HD.out.later hb).cells
      intro K hK
      go_simp
      have hq := plus_is (IsL.mono _ _ _ _ hb Hv1.out) (IsL.mono _ _ _ _ hb Hv2.out) (by have := HL.out; omega) (by have := HL.out; omega)
      rw [val_dig, val_dig] at hq
      (with_reducible refine hq.mono ?_)
      rintro e W' ⟨v, rfl, hv, hb'⟩
      exact hK _ _ ⟨hb', hv⟩
    · intro a W hsz hb hS
      have h7 : a.tmps.getD 7 undef = v3 := hS.1
      clear hS hsz
      refine will_of rfl ?_
      intro K hK
      go_simp
      exact hK _ _ ⟨Below.refl _ _, rfl⟩
    · intro a W hsz hb hS
      have h29 : a.tmps.getD 29 undef = .bool s := hS.1
      have q32 : IsN (x + y) (a.tmps.getD 32 undef) W := hS.2.1
      have h33 : a.tmps.getD 33 undef = v3 := hS.2.2.1
      clear hS hsz
      obtain ⟨v32, h32⟩ : ∃ v, a.tmps.getD 32 undef = v := ⟨_, rfl⟩
      rw [h32] at q32
      refine will_of rfl ?_
      obtain ⟨k0, k1, k2⟩ := (HC.out.later hb).cells
      obtain ⟨l0, l1, l2⟩ := (HD.out.later hb).cells
      intro K hK
      go_simp
      have hq := frac_is s 0 q32 (IsL.mono _ _ _ _ hb Hv3.out) (by have := HL.out; have := HL2.out; omega) (by have := HL.out; omega)
      rw [val_dig, val_dig, HE.out.1, HE.out.2.1, HE.out.2.2] at hq
      (with_reducible refine hq.mono ?_)
      rintro e W' ⟨v, rfl, hv, hb'⟩
      exact hK _ _ ⟨hb', hv⟩
    intro f W hb hH
    have e0 : f 0 = .pointer (some ⟨w.heap.size, 0, none⟩) := hH.1
    have e1 : f 1 = .bool s := hH.2.1
    have e2 : f 2 = v1 := hH.2.2.1
    have e3 : f 3 = v2 := hH.2.2.2.1
    obtain ⟨x4, y4⟩ : ∃ x, f 4 = x := ⟨_, rfl⟩
    have q4 : IsN (x + y) (f 4) W := hH.2.2.2.2.1
    rw [y4] at q4
    have e5 : f 5 = v3 := hH.2.2.2.2.2.1
    obtain ⟨x6, y6⟩ : ∃ x, f 6 = x := ⟨_, rfl⟩
    have q6 : IsQ sg nn dd (f 6) W := hH.2.2.2.2.2.2.1
    rw [y6] at q6
    simp only [List.take_succ_cons, List.take_zero, List.drop_succ_cons, List.drop_zero, putFrom, Act.put, List.setIfInBounds_toArray, List.set_cons_zero, List.set_cons_succ, Nat.reduceAdd, e0, e1, e2, e3, y4, e5, y6]
    clear e0 e1 e2 e3 y4 e5 y6 hH f
    clear q4
    obtain ⟨_, _, rfl, ⟨A3, c3, rfl, r3⟩, ⟨A4, c4, rfl, r4⟩⟩ := q6
    have HO2 := Lib.hid (HO.out.later hb)
    obtain ⟨o0, o1, o2, p0, p1, p2⟩ := HO2.out.cells
    have HW := Lib.hid (raft HB.out hb)
    have R3 := Lib.hid r3
    have R4 := Lib.hid r4
    clear r3 r4 hb
    go_wp2
    refine bodyPost_ret (v := .agg #[.bool (sg), .slice A3 (dig (nn)).length c3, .slice A4 (dig (dd)).length c4]) (by simp [results, Tryd.results88, go_sem, o0, o1, o2]) rfl ?_
    exact ⟨_, rfl, ⟨_, _, rfl, ⟨A3, c3, rfl, R3.out.put3 HO2.out _ _ _⟩, ⟨A4, c4, rfl, R4.out.put3 HO2.out _ _ _⟩⟩, put3_below HW.out (by omega) _ _ _⟩
  · have HST := Lib.hid hst
    have hne : s ≠ t := by rcases hst with ⟨rfl, rfl⟩ | ⟨rfl, rfl⟩ <;> simp
    have hbb : (s == t) = false := by rcases hst with ⟨rfl, rfl⟩ | ⟨rfl, rfl⟩ <;> rfl
    have HNE := Lib.hid hne
    clear hst hne
    by_cases hle : y ≤ x
    · have hadd : addS s x t y = (s, x - y) := by simp [addS, HNE.out, hle]
      rw [hadd]
      clear hadd
      dsimp only
      obtain ⟨sg, hsg⟩ : ∃ b, (s && decide ((x - y) ≠ 0)) = b := ⟨_, rfl⟩
      obtain ⟨nn, hnn⟩ : ∃ n, fracN ((x - y)) (z) 0 = n := ⟨_, rfl⟩
      obtain ⟨dd, hdd⟩ : ∃ n, fracD ((x - y)) (z) 0 = n := ⟨_, rfl⟩
      rw [hsg, hnn, hdd]
      have HE := Lib.hid (And.intro hsg (And.intro hnn hdd))
      clear hsg hnn hdd
      have HLE := Lib.hid hle
      have HL2 : Hid ((dig (x - y)).length ≤ 35184372088500) := Lib.hid (Nat.le_trans (dig_length_mono (Nat.sub_le x y)) HL.out.1)
      have hc : 0 ≤ cmp x y := by unfold cmp; split <;> (try split) <;> omega
      have hc2 : cmp x y ≤ 1 := by unfold cmp; split <;> (try split) <;> omega
      obtain ⟨q, hq⟩ : ∃ q, cmp x y = q := ⟨_, rfl⟩
      rw [hq] at hc hc2
      have HQ := Lib.hid hq
      clear hle hq
      obtain ⟨k0, k1, k2⟩ := HC.out.cells
      obtain ⟨l0, l1, l2⟩ := HD.out.cells
      go_enter Tryd.func88, Tryd.ntmps88
      go_wp2_with fail
      refine (times_is HA1.out HB2.out (by have := H1.out; omega)).mono ?_
      rintro en w1 ⟨v1, rfl, hv, hb⟩
      have HB := Lib.hid (raft HB.out hb)
      have HC := Lib.hid (HC.out.later hb)
      have HD := Lib.hid (HD.out.later hb)
      have HO := Lib.hid (HO.out.later hb)
      have HA1 := Lib.hid (IsL.mono _ _ _ _ hb HA1.out)
      have HA2 := Lib.hid (IsL.mono _ _ _ _ hb HA2.out)
      have HB1 := Lib.hid (IsL.mono _ _ _ _ hb HB1.out)
      have HB2 := Lib.hid (IsL.mono _ _ _ _ hb HB2.out)
      have Hv1 : Hid (IsN x v1 w1) := by rw [HX.out] at hv; exact Lib.hid hv
      clear hv hb
      clear k0 k1 k2 l0 l1 l2
      obtain ⟨k0, k1, k2⟩ := HC.out.cells
      obtain ⟨l0, l1, l2⟩ := HD.out.cells
      go_wp2_with fail
      refine (times_is HB1.out HA2.out (by have := H1.out; omega)).mono ?_
      rintro en w2 ⟨v2, rfl, hv, hb⟩
      have HB := Lib.hid (raft HB.out hb)
      have HC := Lib.hid (HC.out.later hb)
      have HD := Lib.hid (HD.out.later hb)
      have HO := Lib.hid (HO.out.later hb)
      have HA1 := Lib.hid (IsL.mono _ _ _ _ hb HA1.out)
      have HA2 := Lib.hid (IsL.mono _ _ _ _ hb HA2.out)
      have HB1 := Lib.hid (IsL.mono _ _ _ _ hb HB1.out)
      have HB2 := Lib.hid (IsL.mono _ _ _ _ hb HB2.out)
      have Hv1 := Lib.hid (IsL.mono _ _ _ _ hb Hv1.out)
      have Hv2 : Hid (IsN y v2 w2) := by rw [HY.out] at hv; exact Lib.hid hv
      clear hv hb
      clear k0 k1 k2 l0 l1 l2
      obtain ⟨k0, k1, k2⟩ := HC.out.cells
      obtain ⟨l0, l1, l2⟩ := HD.out.cells
      go_wp2_with fail
      refine (times_is HA2.out HB2.out (by have := H1.out; omega)).mono ?_
      rintro en w3 ⟨v3, rfl, hv, hb⟩
      have HB := Lib.hid (raft HB.out hb)
      have HC := Lib.hid (HC.out.later hb)
      have HD := Lib.hid (HD.out.later hb)
      have HO := Lib.hid (HO.out.later hb)
      have HA1 := Lib.hid (IsL.mono _ _ _ _ hb HA1.out)
      have HA2 := Lib.hid (IsL.mono _ _ _ _ hb HA2.out)
      have HB1 := Lib.hid (IsL.mono _ _ _ _ hb HB1.out)
      have HB2 := Lib.hid (IsL.mono _ _ _ _ hb HB2.out)
      have Hv1 := Lib.hid (IsL.mono _ _ _ _ hb Hv1.out)
      have Hv2 := Lib.hid (IsL.mono _ _ _ _ hb Hv2.out)
      have Hv3 : Hid (IsN z v3 w3) := by rw [HZ.out] at hv; exact Lib.hid hv
      clear hv hb
      clear k0 k1 k2 l0 l1 l2
      obtain ⟨k0, k1, k2⟩ := HC.out.cells
      obtain ⟨l0, l1, l2⟩ := HD.out.cells
      clear HX HY HZ HA1 HA2 HB1 HB2 HW0 H1
      go_wp2_with fail
      refine (cmp_is Hv1.out Hv2.out (by have := HL.out; omega) (by have := HL.out; omega)).mono ?_
      rw [val_dig, val_dig, HQ.out]
      rintro en w4 ⟨_, rfl, rfl, hb⟩
      have HB := Lib.hid (raft HB.out hb)
      have HC := Lib.hid (HC.out.later hb)
      have HD := Lib.hid (HD.out.later hb)
      have HO := Lib.hid (HO.out.later hb)
      have Hv1 := Lib.hid (IsL.mono _ _ _ _ hb Hv1.out)
      have Hv2 := Lib.hid (IsL.mono _ _ _ _ hb Hv2.out)
      have Hv3 := Lib.hid (IsL.mono _ _ _ _ hb Hv3.out)
      clear hb k0 k1 k2 l0 l1 l2
      go_wp2_with fail
      refine region_at 7 (Pick [IsV (.pointer (some ⟨w.heap.size, 0, none⟩)), IsV (.bool s), IsV (v1), IsV (v2), IsN (x - y), IsV (v3), IsQ sg nn dd]) (by kernel_rfl) (by kernel_rfl) (by kernel_rfl) (mono_pick ⟨IsV.mono _, IsV.mono _, IsV.mono _, IsV.mono _, IsN.mono _, IsV.mono _, IsQ.mono _ _ _, trivial⟩) ⟨?_, ?_, ?_, ?_, ?_, ?_, ?_, trivial⟩ ?_
      · intro a W hsz hb hS
        have h2 : a.tmps.getD 2 undef = .pointer (some ⟨w.heap.size, 0, none⟩) := hS.1
        clear hS hsz
        refine will_of rfl ?_
        intro K hK
        go_simp
        exact hK _ _ ⟨Below.refl _ _, rfl⟩
      · intro a W hsz hb hS
        have h39 : a.tmps.getD 39 undef = .pointer (some ⟨w.heap.size, 0, none⟩) := hS.1
        clear hS hsz
        refine will_of rfl ?_
        obtain ⟨k0, k1, k2⟩ := (HC.out.later hb).cells
        obtain ⟨l0, l1, l2⟩ := (HD.out.later hb).cells
        intro K hK
        go_simp
        exact hK _ _ ⟨Below.refl _ _, rfl⟩
      · intro a W hsz hb hS
        have h5 : a.tmps.getD 5 undef = v1 := hS.1
        clear hS hsz
        refine will_of rfl ?_
        intro K hK
        go_simp
        exact hK _ _ ⟨Below.refl _ _, rfl⟩
      · intro a W hsz hb hS
        have h6 : a.tmps.getD 6 undef = v2 := hS.1
        clear hS hsz
        refine will_of rfl ?_
        intro K hK
        go_simp
        exact hK _ _ ⟨Below.refl _ _, rfl⟩
      · intro a W hsz hb hS
        have h41 : a.tmps.getD 41 undef = v1 := hS.1
        have h42 : a.tmps.getD 42 undef = v2 := hS.2.1
        clear hS hsz
        refine will_of rfl ?_
        obtain ⟨k0, k1, k2⟩ := (HC.out.later hb).cells
        obtain ⟨l0, l1, l2⟩ := (HD.out.later hb).cells
        intro K hK
        go_simp
        have hq := minus_is (IsL.mono _ _ _ _ hb Hv1.out) (IsL.mono _ _ _ _ hb Hv2.out) (by have := HL.out; omega) (by rw [val_dig, val_dig]; exact HLE.out)
        rw [val_dig, val_dig] at hq
        (with_reducible refine hq.mono ?_)
        rintro e W' ⟨v, rfl, hv, hb'⟩
        exact hK _ _ ⟨hb', hv⟩
      · intro a W hsz hb hS
        have h7 : a.tmps.getD 7 undef = v3 := hS.1
        clear hS hsz
        refine will_of rfl ?_
        intro K hK
        go_simp
        exact hK _ _ ⟨Below.refl _ _, rfl⟩
      · intro a W hsz hb hS
        have h40 : a.tmps.getD 40 undef = .bool s := hS.1
        have q43 : IsN (x - y) (a.tmps.getD 43 undef) W := hS.2.1
        have h44 : a.tmps.getD 44 undef = v3 := hS.2.2.1
        clear hS hsz
        obtain ⟨v43, h43⟩ : ∃ v, a.tmps.getD 43 undef = v := ⟨_, rfl⟩
        rw [h43] at q43
        refine will_of rfl ?_
        obtain ⟨k0, k1, k2⟩ := (HC.out.later hb).cells
        obtain ⟨l0, l1, l2⟩ := (HD.out.later hb).cells
        intro K hK
        go_simp
        have hq := frac_is s 0 q43 (IsL.mono _ _ _ _ hb Hv3.out) (by have := HL.out; have := HL2.out; omega) (by have := HL.out; omega)
        rw [val_dig, val_dig, HE.out.1, HE.out.2.1, HE.out.2.2] at hq
        (with_reducible refine hq.mono ?_)
        rintro e W' ⟨v, rfl, hv, hb'⟩
        exact hK _ _ ⟨hb', hv⟩
      intro f W hb hH
      have e0 : f 0 = .pointer (some ⟨w.heap.size, 0, none⟩) := hH.1
      have e1 : f 1 = .bool s := hH.2.1
      have e2 : f 2 = v1 := hH.2.2.1
      have e3 : f 3 = v2 := hH.2.2.2.1
      obtain ⟨x4, y4⟩ : ∃ x, f 4 = x := ⟨_, rfl⟩
      have q4 : IsN (x - y) (f 4) W := hH.2.2.2.2.1
      rw [y4] at q4
      have e5 : f 5 = v3 := hH.2.2.2.2.2.1
      obtain ⟨x6, y6⟩ : ∃ x, f 6 = x := ⟨_, rfl⟩
      have q6 : IsQ sg nn dd (f 6) W := hH.2.2.2.2.2.2.1
      rw [y6] at q6
      simp only [List.take_succ_cons, List.take_zero, List.drop_succ_cons, List.drop_zero, putFrom, Act.put, List.setIfInBounds_toArray, List.set_cons_zero, List.set_cons_succ, Nat.reduceAdd, e0, e1, e2, e3, y4, e5, y6]
      clear e0 e1 e2 e3 y4 e5 y6 hH f
      clear q4
      obtain ⟨_, _, rfl, ⟨A3, c3, rfl, r3⟩, ⟨A4, c4, rfl, r4⟩⟩ := q6
      have HO2 := Lib.hid (HO.out.later hb)
      obtain ⟨o0, o1, o2, p0, p1, p2⟩ := HO2.out.cells
      have HW := Lib.hid (raft HB.out hb)
      have R3 := Lib.hid r3
      have R4 := Lib.hid r4
      clear r3 r4 hb
      go_wp2
      refine bodyPost_ret (v := .agg #[.bool (sg), .slice A3 (dig (nn)).length c3, .slice A4 (dig (dd)).length c4]) (by simp [results, Tryd.results88, go_sem, o0, o1, o2]) rfl ?_
      exact ⟨_, rfl, ⟨_, _, rfl, ⟨A3, c3, rfl, R3.out.put3 HO2.out _ _ _⟩, ⟨A4, c4, rfl, R4.out.put3 HO2.out _ _ _⟩⟩, put3_below HW.out (by omega) _ _ _⟩
    · have hadd : addS s x t y = (t, y - x) := by simp [addS, HNE.out, hle]
      rw [hadd]
      clear hadd
      dsimp only
      obtain ⟨sg, hsg⟩ : ∃ b, (t && decide ((y - x) ≠ 0)) = b := ⟨_, rfl⟩
      obtain ⟨nn, hnn⟩ : ∃ n, fracN ((y - x)) (z) 0 = n := ⟨_, rfl⟩
      obtain ⟨dd, hdd⟩ : ∃ n, fracD ((y - x)) (z) 0 = n := ⟨_, rfl⟩
      rw [hsg, hnn, hdd]
      have HE := Lib.hid (And.intro hsg (And.intro hnn hdd))
      clear hsg hnn hdd
      have HLE : Hid (x ≤ y) := Lib.hid (by omega)
      have HL2 : Hid ((dig (y - x)).length ≤ 35184372088500) := Lib.hid (Nat.le_trans (dig_length_mono (Nat.sub_le y x)) HL.out.2.1)
      have hc : cmp x y < 0 := by unfold cmp; rw [if_pos (by omega)]; omega
      have hc2 : -1 ≤ cmp x y := by unfold cmp; split <;> (try split) <;> omega
      obtain ⟨q, hq⟩ : ∃ q, cmp x y = q := ⟨_, rfl⟩
      rw [hq] at hc hc2
      have HQ := Lib.hid hq
      clear hle hq
      obtain ⟨k0, k1, k2⟩ := HC.out.cells
      obtain ⟨l0, l1, l2⟩ := HD.out.cells
      go_enter Tryd.func88, Tryd.ntmps88
      go_wp2_with fail
      refine (times_is HA1.out HB2.out (by have := H1.out; omega)).mono ?_
      rintro en w1 ⟨v1, rfl, hv, hb⟩
      have HB := Lib.hid (raft HB.out hb)
      have HC := Lib.hid (HC.out.later hb)
      have HD := Lib.hid (HD.out.later hb)
      have HO := Lib.hid (HO.out.later hb)
      have HA1 := Lib.hid (IsL.mono _ _ _ _ hb HA1.out)
      have HA2 := Lib.hid (IsL.mono _ _ _ _ hb HA2.out)
      have HB1 := Lib.hid (IsL.mono _ _ _ _ hb HB1.out)
      have HB2 := Lib.hid (IsL.mono _ _ _ _ hb HB2.out)
      have Hv1 : Hid (IsN x v1 w1) := by rw [HX.out] at hv; exact Lib.hid hv
      clear hv hb
      clear k0 k1 k2 l0 l1 l2
      obtain ⟨k0, k1, k2⟩ := HC.out.cells
      obtain ⟨l0, l1, l2⟩ := HD.out.cells
      go_wp2_with fail
      refine (times_is HB1.out HA2.out (by have := H1.out; omega)).mono ?_
      rintro en w2 ⟨v2, rfl, hv, hb⟩
      have HB := Lib.hid (raft HB.out hb)
      have HC := Lib.hid (HC.out.later hb)
      have HD := Lib.hid (HD.out.later hb)
      have HO := Lib.hid (HO.out.later hb)
      have HA1 := Lib.hid (IsL.mono _ _ _ _ hb HA1.out)
      have HA2 := Lib.hid (IsL.mono _ _ _ _ hb HA2.out)
      have HB1 := Lib.hid (IsL.mono _ _ _ _ hb HB1.out)
      have HB2 := Lib.hid (IsL.mono _ _ _ _ hb HB2.out)
      have Hv1 := Lib.hid (IsL.mono _ _ _ _ hb Hv1.out)
      have Hv2 : Hid (IsN y v2 w2) := by rw [HY.out] at hv; exact Lib.hid hv
      clear hv hb
      clear k0 k1 k2 l0 l1 l2
      obtain ⟨k0, k1, k2⟩ := HC.out.cells
      obtain ⟨l0, l1, l2⟩ := HD.out.cells
      go_wp2_with fail
      refine (times_is HA2.out HB2.out (by have := H1.out; omega)).mono ?_
      rintro en w3 ⟨v3, rfl, hv, hb⟩
      have HB := Lib.hid (raft HB.out hb)
      have HC := Lib.hid (HC.out.later hb)
      have HD := Lib.hid (HD.out.later hb)
      have HO := Lib.hid (HO.out.later hb)
      have HA1 := Lib.hid (IsL.mono _ _ _ _ hb HA1.out)
      have HA2 := Lib.hid (IsL.mono _ _ _ _ hb HA2.out)
      have HB1 := Lib.hid (IsL.mono _ _ _ _ hb HB1.out)
      have HB2 := Lib.hid (IsL.mono _ _ _ _ hb HB2.out)
      have Hv1 := Lib.hid (IsL.mono _ _ _ _ hb Hv1.out)
      have Hv2 := Lib.hid (IsL.mono _ _ _ _ hb Hv2.out)
      have Hv3 : Hid (IsN z v3 w3) := by rw [HZ.out] at hv; exact Lib.hid hv
      clear hv hb
      clear k0 k1 k2 l0 l1 l2
      obtain ⟨k0, k1, k2⟩ := HC.out.cells
      obtain ⟨l0, l1, l2⟩ := HD.out.cells
      clear HX HY HZ HA1 HA2 HB1 HB2 HW0 H1
      go_wp2_with fail
      refine (cmp_is Hv1.out Hv2.out (by have := HL.out; omega) (by have := HL.out; omega)).mono ?_
      rw [val_dig, val_dig, HQ.out]
      rintro en w4 ⟨_, rfl, rfl, hb⟩
      have HB := Lib.hid (raft HB.out hb)
      have HC := Lib.hid (HC.out.later hb)
      have HD := Lib.hid (HD.out.later hb)
      have HO := Lib.hid (HO.out.later hb)
      have Hv1 := Lib.hid (IsL.mono _ _ _ _ hb Hv1.out)
      have Hv2 := Lib.hid (IsL.mono _ _ _ _ hb Hv2.out)
      have Hv3 := Lib.hid (IsL.mono _ _ _ _ hb Hv3.out)
      clear hb k0 k1 k2 l0 l1 l2
      go_wp2_with fail
      refine region_at 7 (Pick [IsV (.pointer (some ⟨w.heap.size + 1, 0, none⟩)), IsV (.bool t), IsV (v2), IsV (v1), IsN (y - x), IsV (v3), IsQ sg nn dd]) (by kernel_rfl) (by kernel_rfl) (by kernel_rfl) (mono_pick ⟨IsV.mono _, IsV.mono _, IsV.mono _, IsV.mono _, IsN.mono _, IsV.mono _, IsQ.mono _ _ _, trivial⟩) ⟨?_, ?_, ?_, ?_, ?_, ?_, ?_, trivial⟩ ?_
      · intro a W hsz hb hS
        have h3 : a.tmps.getD 3 undef = .pointer (some ⟨w.heap.size + 1, 0, none⟩) := hS.1
        clear hS hsz
        refine will_of rfl ?_
        intro K hK
        go_simp
        exact hK _ _ ⟨Below.refl _ _, rfl⟩
      · intro a W hsz hb hS
        have h46 : a.tmps.getD 46 undef = .pointer (some ⟨w.heap.size + 1, 0, none⟩) := hS.1
        clear hS hsz
        refine will_of rfl ?_
        obtain ⟨k0, k1, k2⟩ := (HC.out.later hb).cells
        obtain ⟨l0, l1, l2⟩ := (HD.out.later hb).cells
        intro K hK
        go_simp
        exact hK _ _ ⟨Below.refl _ _, rfl⟩
      · intro a W hsz hb hS
        have h6 : a.tmps.getD 6 undef = v2 := hS.1
        clear hS hsz
        refine will_of rfl ?_
        intro K hK
        go_simp
        exact hK _ _ ⟨Below.refl _ _, rfl⟩
      · intro a W hsz hb hS
        have h5 : a.tmps.getD 5 undef = v1 := hS.1
        clear hS hsz
        refine will_of rfl ?_
        intro K hK
        go_simp
        exact hK _ _ ⟨Below.refl _ _, rfl⟩
      · intro a W hsz hb hS
        have h48 : a.tmps.getD 48 undef = v2 := hS.1
        have h49 : a.tmps.getD 49 undef = v1 := hS.2.1
        clear hS hsz
        refine will_of rfl ?_
        obtain ⟨k0, k1, k2⟩ := (HC.out.later hb).cells
        obtain ⟨l0, l1, l2⟩ := (HD.out.later hb).cells
        intro K hK
        go_simp
        have hq := minus_is (IsL.mono _ _ _ _ hb Hv2.out) (IsL.mono _ _ _ _ hb Hv1.out) (by have := HL.out; omega) (by rw [val_dig, val_dig]; exact HLE.out)
        rw [val_dig, val_dig] at hq
        (with_reducible refine hq.mono ?_)
        rintro e W' ⟨v, rfl, hv, hb'⟩
        exact hK _ _ ⟨hb', hv⟩
      · intro a W hsz hb hS
        have h7 : a.tmps.getD 7 undef = v3 := hS.1
        clear hS hsz
        refine will_of rfl ?_
        intro K hK
        go_simp
        exact hK _ _ ⟨Below.refl _ _, rfl⟩
      · intro a W hsz hb hS
        have h47 : a.tmps.getD 47 undef = .bool t := hS.1
        have q50 : IsN (y - x) (a.tmps.getD 50 undef) W := hS.2.1
        have h51 : a.tmps.getD 51 undef = v3 := hS.2.2.1
        clear hS hsz
        obtain ⟨v50, h50⟩ : ∃ v, a.tmps.getD 50 undef = v := ⟨_, rfl⟩
        rw [h50] at q50
        refine will_of rfl ?_
        obtain ⟨k0, k1, k2⟩ := (HC.out.later hb).cells
        obtain ⟨l0, l1, l2⟩ := (HD.out.later hb).cells
        intro K hK
        go_simp
        have hq := frac_is t 0 q50 (IsL.mono _ _ _ _ hb Hv3.out) (by have := HL.out; have := HL2.out; omega) (by have := HL.out; omega)
        rw [val_dig, val_dig, HE.out.1, HE.out.2.1, HE.out.2.2] at hq
        (with_reducible refine hq.mono ?_)
        rintro e W' ⟨v, rfl, hv, hb'⟩
        exact hK _ _ ⟨hb', hv⟩
      intro f W hb hH
      have e0 : f 0 = .pointer (some ⟨w.heap.size + 1, 0, none⟩) := hH.1
      have e1 : f 1 = .bool t := hH.2.1
      have e2 : f 2 = v2 := hH.2.2.1
      have e3 : f 3 = v1 := hH.2.2.2.1
      obtain ⟨x4, y4⟩ : ∃ x, f 4 = x := ⟨_, rfl⟩
      have q4 : IsN (y - x) (f 4) W := hH.2.2.2.2.1
      rw [y4] at q4
      have e5 : f 5 = v3 := hH.2.2.2.2.2.1
      obtain ⟨x6, y6⟩ : ∃ x, f 6 = x := ⟨_, rfl⟩
      have q6 : IsQ sg nn dd (f 6) W := hH.2.2.2.2.2.2.1
      rw [y6] at q6
      simp only [List.take_succ_cons, List.take_zero, List.drop_succ_cons, List.drop_zero, putFrom, Act.put, List.setIfInBounds_toArray, List.set_cons_zero, List.set_cons_succ, Nat.reduceAdd, e0, e1, e2, e3, y4, e5, y6]
      clear e0 e1 e2 e3 y4 e5 y6 hH f
      clear q4
      obtain ⟨_, _, rfl, ⟨A3, c3, rfl, r3⟩, ⟨A4, c4, rfl, r4⟩⟩ := q6
      have HO2 := Lib.hid (HO.out.later hb)
      obtain ⟨o0, o1, o2, p0, p1, p2⟩ := HO2.out.cells
      have HW := Lib.hid (raft HB.out hb)
      have R3 := Lib.hid r3
      have R4 := Lib.hid r4
      clear r3 r4 hb
      go_wp2
      refine bodyPost_ret (v := .agg #[.bool (sg), .slice A3 (dig (nn)).length c3, .slice A4 (dig (dd)).length c4]) (by simp [results, Tryd.results88, go_sem, o0, o1, o2]) rfl ?_
      exact ⟨_, rfl, ⟨_, _, rfl, ⟨A3, c3, rfl, R3.out.put3 HO2.out _ _ _⟩, ⟨A4, c4, rfl, R4.out.put3 HO2.out _ _ _⟩⟩, put3_below HW.out (by omega) _ _ _⟩
set_option maxRecDepth 20000 in
set_option maxHeartbeats 4000000 in
theorem rsub_is (ha : IsR s X Y va w) (hb : IsR t U V vb w) (h1 : X.length + U.length + V.length ≤ 35184372088500) (h2 : Y.length + U.length + V.length ≤ 35184372088500) :
    Calls Tryd.prog 50 #[va, vb] w (Ans w (IsQ ((addS s (val X * val V) (!t && decide (0 < U.length)) (val U * val Y)).1 && decide ((addS s (val X * val V) (!t && decide (0 < U.length)) (val U * val Y)).2 ≠ 0)) (fracN (addS s (val X * val V) (!t && decide (0 < U.length)) (val U * val Y)).2 (val Y * val V) 0) (fracD (addS s (val X * val V) (!t && decide (0 < U.length)) (val U * val Y)).2 (val Y * val V) 0))) := by
  obtain ⟨va1, va2, rfl, ha1, ha2⟩ := ha
  obtain ⟨vb1, vb2, rfl, hb1, hb2⟩ := hb
  have HB := Lib.hid (raft (raft (rnew w (.cells #[.bool s, va1, va2] 39)) (rnew _ (.cells #[.bool t, vb1, vb2] 39))) (rnew _ ratO))
  have HC := Lib.hid ((Box3.new w (.bool s) va1 va2).later (raft (rnew _ (.cells #[.bool t, vb1, vb2] 39)) (rnew _ ratO)))
  have HD := Lib.hid ((Box3.new (w.alloc (.cells #[.bool s, va1, va2] 39)) (.bool t) vb1 vb2).later (rnew _ ratO))
  have HO := Lib.hid (Box.new ((w.alloc (.cells #[.bool s, va1, va2] 39)).alloc (.cells #[.bool t, vb1, vb2] 39)))
  rw [show (w.alloc (.cells #[.bool s, va1, va2] 39)).heap.size = w.heap.size + 1 by simp] at HD
  rw [show ((w.alloc (.cells #[.bool s, va1, va2] 39)).alloc (.cells #[.bool t, vb1, vb2] 39)).heap.size = w.heap.size + 2 by simp] at HO
  have HA1 := Lib.hid (IsL.mono _ _ _ _ HB.out ha1)
  have HA2 := Lib.hid (IsL.mono _ _ _ _ HB.out ha2)
  have HB1 := Lib.hid (IsL.mono _ _ _ _ HB.out hb1)
  have HB2 := Lib.hid (IsL.mono _ _ _ _ HB.out hb2)
  have HW0 := Lib.hid (And.intro ha1.words (And.intro ha2.words (And.intro hb1.words hb2.words)))
  have H1 := Lib.hid (And.intro h1 h2)
  obtain ⟨A, c, rfl, _⟩ := ha1
  obtain ⟨A', c', rfl, _⟩ := ha2
  obtain ⟨B, d, rfl, _⟩ := hb1
  obtain ⟨B', d', rfl, _⟩ := hb2
  clear h1 h2
  have HL : Hid ((dig (val U)).length ≤ U.length ∧ (dig (val V)).length ≤ V.length) := by
    have e3 := wl_eq HW0.out.2.2.1
    have e4 := wl_eq HW0.out.2.2.2
    have := H1.out
    have := wl_le U
    have := wl_le V
    exact Lib.hid ⟨by omega, by omega⟩
  obtain ⟨sg, hsg⟩ : ∃ b, ((addS s (val X * val V) (!t && decide (0 < U.length)) (val U * val Y)).1 && decide ((addS s (val X * val V) (!t && decide (0 < U.length)) (val U * val Y)).2 ≠ 0)) = b := ⟨_, rfl⟩
  obtain ⟨nn, hnn⟩ : ∃ n, fracN (addS s (val X * val V) (!t && decide (0 < U.length)) (val U * val Y)).2 (val Y * val V) 0 = n := ⟨_, rfl⟩
  obtain ⟨dd, hdd⟩ : ∃ n, fracD (addS s (val X * val V) (!t && decide (0 < U.length)) (val U * val Y)).2 (val Y * val V) 0 = n := ⟨_, rfl⟩
  rw [hsg, hnn, hdd]
  have HE := Lib.hid (And.intro hsg (And.intro hnn hdd))
  clear hsg hnn hdd
  go_enter Tryd.func50, Tryd.ntmps50
  go_wp2_with fail
  refine region_at 4 (Pick [IsV (.agg #[.bool s, .slice A X.length c, .slice A' Y.length c']), IsV (.agg #[.bool t, .slice B U.length d, .slice B' V.length d']), IsQ (!t && decide (0 < U.length)) (val U) (val V), IsQ sg nn dd]) (by kernel_rfl) (by kernel_rfl) (by kernel_rfl) (mono_pick ⟨IsV.mono _, IsV.mono _, IsQ.mono _ _ _, IsQ.mono _ _ _, trivial⟩) ⟨?_, ?_, ?_, ?_, trivial⟩ ?_
  · intro a W hsz hb hS
    have h2 : a.tmps.getD 2 undef = .pointer (some ⟨w.heap.size, 0, none⟩) := hS.1
    clear hS hsz
    refine will_of rfl ?_
    obtain ⟨k0, k1, k2⟩ := (HC.out.later hb).cells
    obtain ⟨l0, l1, l2⟩ := (HD.out.later hb).cells
    intro K hK
    go_simp
    exact hK _ _ ⟨Below.refl _ _, rfl⟩
  · intro a W hsz hb hS
    have h3 : a.tmps.getD 3 undef = .pointer (some ⟨w.heap.size + 1, 0, none⟩) := hS.1
    clear hS hsz
    refine will_of rfl ?_
    obtain ⟨k0, k1, k2⟩ := (HC.out.later hb).cells
    obtain ⟨l0, l1, l2⟩ := (HD.out.later hb).cells
    intro K hK
    go_simp
    exact hK _ _ ⟨Below.refl _ _, rfl⟩
  · intro a W hsz hb hS
    have h6 : a.tmps.getD 6 undef = .agg #[.bool t, .slice B U.length d, .slice B' V.length d'] := hS.1
    clear hS hsz
    refine will_of rfl ?_
    obtain ⟨k0, k1, k2⟩ := (HC.out.later hb).cells
    obtain ⟨l0, l1, l2⟩ := (HD.out.later hb).cells
    intro K hK
    go_simp
    refine (rneg_is t U V _ _ W (IsL.mono _ _ _ _ hb HB1.out) (IsL.mono _ _ _ _ hb HB2.out) (by have := H1.out; omega) (by have := H1.out; omega)).mono ?_
    rintro e W' ⟨v, rfl, hv, hb'⟩
    exact hK _ _ ⟨hb', hv⟩
  · intro a W hsz hb hS
    have h5 : a.tmps.getD 5 undef = .agg #[.bool s, .slice A X.length c, .slice A' Y.length c'] := hS.1
    have q7 : IsQ (!t && decide (0 < U.length)) (val U) (val V) (a.tmps.getD 7 undef) W := hS.2.1
    clear hS hsz
    obtain ⟨v7, h7⟩ : ∃ v, a.tmps.getD 7 undef = v := ⟨_, rfl⟩
    rw [h7] at q7
    refine will_of rfl ?_
    obtain ⟨k0, k1, k2⟩ := (HC.out.later hb).cells
    obtain ⟨l0, l1, l2⟩ := (HD.out.later hb).cells
    intro K hK
    go_simp
    have hq := radd_is (s := s) (w := W) ⟨_, _, rfl, IsL.mono _ _ _ _ hb HA1.out, IsL.mono _ _ _ _ hb HA2.out⟩ q7 (by have := H1.out; have := HL.out; omega) (by have := H1.out; have := HL.out; omega)
    rw [val_dig, val_dig, HE.out.1, HE.out.2.1, HE.out.2.2] at hq
    (with_reducible refine hq.mono ?_)
    rintro e W' ⟨v, rfl, hv, hb'⟩
    exact hK _ _ ⟨hb', hv⟩
  intro f W hb hH
  have e0 : f 0 = .agg #[.bool s, .slice A X.length c, .slice A' Y.length c'] := hH.1
  have e1 : f 1 = .agg #[.bool t, .slice B U.length d, .slice B' V.length d'] := hH.2.1
  obtain ⟨x2, y2⟩ : ∃ x, f 2 = x := ⟨_, rfl⟩
  have q2 : IsQ (!t && decide (0 < U.length)) (val U) (val V) (f 2) W := hH.2.2.1
  rw [y2] at q2
  obtain ⟨x3, y3⟩ : ∃ x, f 3 = x := ⟨_, rfl⟩
  have q3 : IsQ sg nn dd (f 3) W := hH.2.2.2.1
  rw [y3] at q3
  simp only [List.take_succ_cons, List.take_zero, List.drop_succ_cons, List.drop_zero, putFrom, Act.put, List.setIfInBounds_toArray, List.set_cons_zero, List.set_cons_succ, Nat.reduceAdd, e0, e1, y2, y3]
  clear e0 e1 y2 y3 hH f
  clear q2
  obtain ⟨_, _, rfl, ⟨A3, c3, rfl, r3⟩, ⟨A4, c4, rfl, r4⟩⟩ := q3
  have HO2 := Lib.hid (HO.out.later hb)
  obtain ⟨o0, o1, o2, p0, p1, p2⟩ := HO2.out.cells
  have HW := Lib.hid (raft HB.out hb)
  have R3 := Lib.hid r3
  have R4 := Lib.hid r4
  clear r3 r4 hb
  go_wp2
  refine bodyPost_ret (v := .agg #[.bool (sg), .slice A3 (dig (nn)).length c3, .slice A4 (dig (dd)).length c4]) (by simp [results, Tryd.results50, go_sem, o0, o1, o2]) rfl ?_
  exact ⟨_, rfl, ⟨_, _, rfl, ⟨A3, c3, rfl, R3.out.put3 HO2.out _ _ _⟩, ⟨A4, c4, rfl, R4.out.put3 HO2.out _ _ _⟩⟩, put3_below HW.out (by omega) _ _ _⟩
end
end Go.Proofs.YtiadjcilfljdaaaDoor

/- Vergeref2's ratios by what they mean: p by q. -/
namespace Go.Proofs.YtiadjcilfljdaaaDoor
set_option linter.unusedVariables false
set_option linter.unusedSimpArgs false
open Go.RowKit Verge

def sv (s : Bool) (n : Nat) : Int := if s then -(n : Int) else n
/-- A ratio that is p by q; its lists have at most k words. -/
def IsRV (p : Int) (q : Nat) (k : Nat) (v : Value) (w : World) : Prop := ∃ s X Y, IsR s X Y v w ∧ 0 < q ∧ 0 < val Y ∧ sv s (val X) * q = p * val Y ∧ X.length ≤ k ∧ Y.length ≤ k
theorem IsRV.mono (p : Int) (q k : Nat) : Mono (IsRV p q k) := fun _ _ _ hb ⟨s, X, Y, h, r⟩ => ⟨s, X, Y, IsR.mono _ _ _ _ _ _ hb h, r⟩
theorem IsRV.eqv {p p' : Int} {q q' k : Nat} {v : Value} {w : World} (h : IsRV p q k v w) (hq' : 0 < q') (e : p * q' = p' * q) : IsRV p' q' k v w := by
  obtain ⟨s, X, Y, hr, hq, hy, hs, h1, h2⟩ := h
  refine ⟨s, X, Y, hr, hq', hy, ?_, h1, h2⟩
  have hq0 : (q : Int) ≠ 0 := by omega
  refine Int.eq_of_mul_eq_mul_right hq0 ?_
  rw [Int.mul_assoc, Int.mul_comm (q' : Int), ← Int.mul_assoc, hs]
  rw [show p * (val Y : Int) * q' = p * q' * val Y by rw [Int.mul_assoc, Int.mul_assoc, Int.mul_comm (q' : Int)], e]
  rw [Int.mul_assoc, Int.mul_assoc, Int.mul_comm (q : Int)]
theorem IsRV.le {p : Int} {q k k' : Nat} {v : Value} {w : World} (h : IsRV p q k v w) (hk : k ≤ k') : IsRV p q k' v w := by
  obtain ⟨s, X, Y, hr, hq, hy, hs, h1, h2⟩ := h
  exact ⟨s, X, Y, hr, hq, hy, hs, by omega, by omega⟩

theorem fracN_le (n d : Nat) : fracN n d 0 ≤ n := by
  unfold fracN
  split
  · omega
  · rename_i h
    have : (fracE n d 0).toNat ≤ ntz n := by unfold fracE; omega
    have h2 := Nat.pow_le_pow_right (n := 2) (by omega) this
    exact Nat.le_trans (Nat.mul_le_mul_left _ h2) (Nat.div_mul_le_self n _)
theorem fracD_le (n d : Nat) (hd : 0 < d) : fracD n d 0 ≤ d := by
  unfold fracD
  split
  · omega
  · rename_i h
    have : (-(fracE n d 0)).toNat ≤ ntz d := by unfold fracE; omega
    have h2 := Nat.pow_le_pow_right (n := 2) (by omega) this
    exact Nat.le_trans (Nat.mul_le_mul_left _ h2) (Nat.div_mul_le_self d _)
theorem frac0 (n d : Nat) (hd : d ≠ 0) : fracN n d 0 * d = n * fracD n d 0 := by
  have := frac_val n d 0 hd 0 (by omega)
  simpa using this
theorem sv_and {s : Bool} {n m d e : Nat} (h : m * d = n * e) (hd : 0 < d) : sv (s && decide (n ≠ 0)) m * d = sv s n * e := by
  by_cases h0 : n = 0
  · subst h0
    rw [Nat.zero_mul] at h
    have : m = 0 := by
      rcases Nat.mul_eq_zero.1 h with h | h <;> omega
    subst this
    simp [sv]
  · have hm : ((m : Int) * d) = n * e := by exact_mod_cast h
    cases s
    · simpa [sv] using hm
    · simp only [h0, ne_eq, not_false_eq_true, decide_true, Bool.and_true, sv, if_true]
      rw [Int.neg_mul, Int.neg_mul, hm]
theorem addS_sv (s : Bool) (x : Nat) (t : Bool) (y : Nat) : sv (addS s x t y).1 (addS s x t y).2 = sv s x + sv t y := by
  unfold addS sv
  by_cases h : y ≤ x
  · cases s <;> cases t <;> simp [h] <;> omega
  · cases s <;> cases t <;> simp [h] <;> omega
theorem sv_mul (s : Bool) (x y : Nat) : sv s (x * y) = sv s x * y := by
  unfold sv; cases s <;> simp [Int.neg_mul]
theorem sv_not (s : Bool) (x : Nat) : sv (!s) x = -sv s x := by unfold sv; cases s <;> simp
theorem sv_neg0 {s : Bool} {x n : Nat} (h : x ≠ 0 → 0 < n) : sv (!s && decide (0 < n)) x = -sv s x := by
  by_cases hx : x = 0
  · subst hx; unfold sv; cases s <;> simp
  · rw [decide_eq_true (h hx), Bool.and_true, sv_not]
theorem val_nil_of {X : List Nat} (h : val X ≠ 0) : 0 < X.length := by
  cases X with
  | nil => simp [val] at h
  | cons => simp

section
variable {p p' : Int} {q q' k k' : Nat} {va vb : Value} {w : World}

theorem add_parts {s t : Bool} {x y u v : Nat} (hy : 0 < y) (hv : 0 < v) (ha : sv s x * q = p * y) (hb : sv t u * q' = p' * v) (S : Bool × Nat) (hS : sv S.1 S.2 = sv s (x * v) + sv t (u * y)) :
    sv (S.1 && decide (S.2 ≠ 0)) (fracN S.2 (y * v) 0) * ((q * q' : Nat) : Int) = (p * q' + p' * q) * (fracD S.2 (y * v) 0 : Nat) := by
  have hyv : 0 < y * v := Nat.mul_pos hy hv
  have h0 := frac0 S.2 (y * v) (by omega)
  have h1 := sv_and (s := S.1) h0 hyv
  refine Int.eq_of_mul_eq_mul_right (a := ((y * v : Nat) : Int)) (by omega) ?_
  rw [show sv (S.1 && decide (S.2 ≠ 0)) (fracN S.2 (y * v) 0) * ((q * q' : Nat) : Int) * ((y * v : Nat) : Int) = sv (S.1 && decide (S.2 ≠ 0)) (fracN S.2 (y * v) 0) * ((y * v : Nat) : Int) * ((q * q' : Nat) : Int) by grind]
  rw [h1, hS, sv_mul, sv_mul]
  obtain ⟨D, hD⟩ : ∃ D, fracD S.2 (y * v) 0 = D := ⟨_, rfl⟩
  rw [hD]
  push_cast
  rw [show (sv s x * (v : Int) + sv t u * y) * D * (q * q') = ((sv s x * q) * (v * q') + (sv t u * q') * (y * q)) * D by grind, ha, hb]
  grind

theorem rv_add' (ha : IsRV p q k va w) (hb : IsRV p' q' k' vb w) (h1 : k + k' + k' ≤ 35184372088500) :
    Calls Tryd.prog 88 #[va, vb] w (Ans w (IsRV (p * q' + p' * q) (q * q') (k + k' + 1))) := by
  obtain ⟨s, X, Y, hr, hq, hy, hs, l1, l2⟩ := ha
  obtain ⟨t, U, V, hr', hq', hv, ht, l3, l4⟩ := hb
  refine (radd_is hr hr' (by omega) (by omega)).mono ?_
  rintro e w' ⟨v, he, ⟨a, b, hv', ha', hb'⟩, hbw⟩
  have e1 := wl_eq (IsL.words hr.choose_spec.choose_spec.2.1)
  have e2 := wl_eq (IsL.words hr.choose_spec.choose_spec.2.2)
  have e3 := wl_eq (IsL.words hr'.choose_spec.choose_spec.2.1)
  have e4 := wl_eq (IsL.words hr'.choose_spec.choose_spec.2.2)
  have := wl_le X
  have := wl_le Y
  have := wl_le U
  have := wl_le V
  have hyv : 0 < val Y * val V := Nat.mul_pos hy hv
  refine ⟨v, he, ⟨_, _, _, ⟨a, b, hv', ha', hb'⟩, Nat.mul_pos hq hq', ?_, ?_, ?_, ?_⟩, hbw⟩
  · rw [val_dig]; exact fracD_pos _ _ _ (by omega)
  · rw [val_dig, val_dig]
    exact add_parts hy hv hs ht _ (addS_sv _ _ _ _)
  · have m1 := dig_mul_length (val X) (val V)
    have m2 := dig_mul_length (val U) (val Y)
    refine Nat.le_trans (dig_length_mono (fracN_le _ _)) ?_
    have hle : (addS s (val X * val V) t (val U * val Y)).2 ≤ val X * val V + val U * val Y := by
      unfold addS; split
      · exact Nat.le_refl _
      · split <;> simp only [] <;> omega
    exact Nat.le_trans (dig_length_mono hle) (dig_add_length _ _ (k + k') (by omega) (by omega))
  · have m3 := dig_mul_length (val Y) (val V)
    refine Nat.le_trans (dig_length_mono (fracD_le _ _ hyv)) (by omega)
theorem rv_add (ha : IsRV p q k va w) (hb : IsRV p' q' k' vb w) (h1 : k ≤ 8796093022000) (h2 : k' ≤ 8796093022000) :
    Calls Tryd.prog 88 #[va, vb] w (Ans w (IsRV (p * q' + p' * q) (q * q') (k + k' + 1))) := rv_add' ha hb (by omega)
theorem rv_sub' (ha : IsRV p q k va w) (hb : IsRV p' q' k' vb w) (h1 : k + k' + k' ≤ 35184372088500) :
    Calls Tryd.prog 50 #[va, vb] w (Ans w (IsRV (p * q' - p' * q) (q * q') (k + k' + 1))) := by
  obtain ⟨s, X, Y, hr, hq, hy, hs, l1, l2⟩ := ha
  obtain ⟨t, U, V, hr', hq', hv, ht, l3, l4⟩ := hb
  refine (rsub_is hr hr' (by omega) (by omega)).mono ?_
  rintro e w' ⟨v, he, ⟨a, b, hv', ha', hb'⟩, hbw⟩
  have e1 := wl_eq (IsL.words hr.choose_spec.choose_spec.2.1)
  have e2 := wl_eq (IsL.words hr.choose_spec.choose_spec.2.2)
  have e3 := wl_eq (IsL.words hr'.choose_spec.choose_spec.2.1)
  have e4 := wl_eq (IsL.words hr'.choose_spec.choose_spec.2.2)
  have := wl_le X
  have := wl_le Y
  have := wl_le U
  have := wl_le V
  have hyv : 0 < val Y * val V := Nat.mul_pos hy hv
  have ht' : sv (!t && decide (0 < U.length)) (val U) * q' = -p' * val V := by
    rw [sv_neg0 val_nil_of, Int.neg_mul, ht, Int.neg_mul]
  refine ⟨v, he, ⟨_, _, _, ⟨a, b, hv', ha', hb'⟩, Nat.mul_pos hq hq', ?_, ?_, ?_, ?_⟩, hbw⟩
  · rw [val_dig]; exact fracD_pos _ _ _ (by omega)
  · rw [val_dig, val_dig]
    have := add_parts hy hv hs ht' _ (addS_sv _ _ _ _)
    rw [this, Int.neg_mul, Int.sub_eq_add_neg]
  · have m1 := dig_mul_length (val X) (val V)
    have m2 := dig_mul_length (val U) (val Y)
    refine Nat.le_trans (dig_length_mono (fracN_le _ _)) ?_
    have hle : (addS s (val X * val V) (!t && decide (0 < U.length)) (val U * val Y)).2 ≤ val X * val V + val U * val Y := by
      unfold addS; split
      · exact Nat.le_refl _
      · split <;> simp only [] <;> omega
    exact Nat.le_trans (dig_length_mono hle) (dig_add_length _ _ (k + k') (by omega) (by omega))
  · have m3 := dig_mul_length (val Y) (val V)
    refine Nat.le_trans (dig_length_mono (fracD_le _ _ hyv)) (by omega)
theorem rv_sub (ha : IsRV p q k va w) (hb : IsRV p' q' k' vb w) (h1 : k ≤ 8796093022000) (h2 : k' ≤ 8796093022000) :
    Calls Tryd.prog 50 #[va, vb] w (Ans w (IsRV (p * q' - p' * q) (q * q') (k + k' + 1))) := rv_sub' ha hb (by omega)
theorem mul_parts {s t : Bool} {x y u v : Nat} (hy : 0 < y) (hv : 0 < v) (ha : sv s x * q = p * y) (hb : sv t u * q' = p' * v) :
    sv ((s != t) && decide (x * u ≠ 0)) (fracN (x * u) (y * v) 0) * ((q * q' : Nat) : Int) = (p * p') * (fracD (x * u) (y * v) 0 : Nat) := by
  have hyv : 0 < y * v := Nat.mul_pos hy hv
  have h0 := frac0 (x * u) (y * v) (by omega)
  have h1 := sv_and (s := (s != t)) h0 hyv
  refine Int.eq_of_mul_eq_mul_right (a := ((y * v : Nat) : Int)) (by omega) ?_
  rw [show sv ((s != t) && decide (x * u ≠ 0)) (fracN (x * u) (y * v) 0) * ((q * q' : Nat) : Int) * ((y * v : Nat) : Int) = sv ((s != t) && decide (x * u ≠ 0)) (fracN (x * u) (y * v) 0) * ((y * v : Nat) : Int) * ((q * q' : Nat) : Int) by grind]
  have h2 : sv (s != t) (x * u) = sv s x * sv t u := by unfold sv; cases s <;> cases t <;> simp [Int.neg_mul, Int.mul_neg]
  rw [h1, h2]
  obtain ⟨D, hD⟩ : ∃ D, fracD (x * u) (y * v) 0 = D := ⟨_, rfl⟩
  rw [hD]
  push_cast
  rw [show sv s x * sv t u * (D : Int) * (q * q') = (sv s x * q) * (sv t u * q') * D by grind, ha, hb]
  grind
theorem rv_mul (ha : IsRV p q k va w) (hb : IsRV p' q' k' vb w) (h1 : k ≤ 8796093022000) (h2 : k' ≤ 8796093022000) :
    Calls Tryd.prog 44 #[va, vb] w (Ans w (IsRV (p * p') (q * q') (k + k'))) := by
  obtain ⟨s, X, Y, hr, hq, hy, hs, l1, l2⟩ := ha
  obtain ⟨t, U, V, hr', hq', hv, ht, l3, l4⟩ := hb
  refine (rmul_is hr hr' (by omega) (by omega) (by omega) (by omega)).mono ?_
  rintro e w' ⟨v, he, ⟨a, b, hv', ha', hb'⟩, hbw⟩
  have e1 := wl_eq (IsL.words hr.choose_spec.choose_spec.2.1)
  have e2 := wl_eq (IsL.words hr.choose_spec.choose_spec.2.2)
  have e3 := wl_eq (IsL.words hr'.choose_spec.choose_spec.2.1)
  have e4 := wl_eq (IsL.words hr'.choose_spec.choose_spec.2.2)
  have := wl_le X
  have := wl_le Y
  have := wl_le U
  have := wl_le V
  have hyv : 0 < val Y * val V := Nat.mul_pos hy hv
  refine ⟨v, he, ⟨_, _, _, ⟨a, b, hv', ha', hb'⟩, Nat.mul_pos hq hq', ?_, ?_, ?_, ?_⟩, hbw⟩
  · rw [val_dig]; exact fracD_pos _ _ _ (by omega)
  · rw [val_dig, val_dig]
    exact mul_parts hy hv hs ht
  · have m1 := dig_mul_length (val X) (val U)
    exact Nat.le_trans (dig_length_mono (fracN_le _ _)) (by omega)
  · have m3 := dig_mul_length (val Y) (val V)
    exact Nat.le_trans (dig_length_mono (fracD_le _ _ hyv)) (by omega)
/-- A quotient by a ratio above 0. -/
theorem rv_quo (ha : IsRV p q k va w) (hb : IsRV p' q' k' vb w) (hp : 0 < p') (h1 : k ≤ 8796093022000) (h2 : k' ≤ 8796093022000) :
    Calls Tryd.prog 77 #[va, vb] w (Ans w (IsRV (p * q') (q * p'.toNat) (k + k'))) := by
  obtain ⟨s, X, Y, hr, hq, hy, hs, l1, l2⟩ := ha
  obtain ⟨t, U, V, hr', hq', hv, ht, l3, l4⟩ := hb
  refine (rquo_is hr hr' (by omega) (by omega) (by omega) (by omega)).mono ?_
  rintro e w' ⟨v, he, ⟨a, b, hv', ha', hb'⟩, hbw⟩
  have e1 := wl_eq (IsL.words hr.choose_spec.choose_spec.2.1)
  have e2 := wl_eq (IsL.words hr.choose_spec.choose_spec.2.2)
  have e3 := wl_eq (IsL.words hr'.choose_spec.choose_spec.2.1)
  have e4 := wl_eq (IsL.words hr'.choose_spec.choose_spec.2.2)
  have := wl_le X
  have := wl_le Y
  have := wl_le U
  have := wl_le V
  have hpos : 0 < sv t (val U) * q' := by rw [ht]; exact Int.mul_pos hp (by omega)
  have hsv : 0 < sv t (val U) := by
    rcases ilt_or_ge 0 (sv t (val U)) with h | h
    · exact h
    · have := Int.mul_nonneg (show (0 : Int) ≤ -sv t (val U) by omega) (show (0 : Int) ≤ (q' : Int) by omega)
      rw [Int.neg_mul] at this
      omega
  have hU : t = false ∧ 0 < val U := by
    unfold sv at hsv
    cases t
    · exact ⟨rfl, by simpa using hsv⟩
    · simp at hsv; omega
  obtain ⟨rfl, hU⟩ := hU
  have hinv : sv false (val V) * (p'.toNat : Nat) = (q' : Int) * val U := by
    have : sv false (val U) = (val U : Int) := rfl
    rw [this] at ht
    have : sv false (val V) = (val V : Int) := rfl
    rw [this, show ((p'.toNat : Nat) : Int) = p' by omega, Int.mul_comm, ← ht, Int.mul_comm]
  have hyv : 0 < val Y * val U := Nat.mul_pos hy hU
  refine ⟨v, he, ⟨_, _, _, ⟨a, b, hv', ha', hb'⟩, Nat.mul_pos hq (by omega), ?_, ?_, ?_, ?_⟩, hbw⟩
  · rw [val_dig]; exact fracD_pos _ _ _ (by omega)
  · rw [val_dig, val_dig]
    exact mul_parts (p' := (q' : Int)) hy hU hs hinv
  · have m1 := dig_mul_length (val X) (val V)
    exact Nat.le_trans (dig_length_mono (fracN_le _ _)) (by omega)
  · have m3 := dig_mul_length (val Y) (val U)
    exact Nat.le_trans (dig_length_mono (fracD_le _ _ hyv)) (by omega)
theorem rv_neg (ha : IsRV p q k va w) (h1 : k ≤ 35184372088800) : Calls Tryd.prog 89 #[va] w (Ans w (IsRV (-p) q k)) := by
  obtain ⟨s, X, Y, ⟨a, b, rfl, h2, h3⟩, hq, hy, hs, l1, l2⟩ := ha
  refine (rneg_is s X Y a b w h2 h3 (by omega) (by omega)).mono ?_
  rintro e w' ⟨v, he, ⟨a, b, hv', ha', hb'⟩, hbw⟩
  have e1 := wl_eq (IsL.words h2)
  have e2 := wl_eq (IsL.words h3)
  have := wl_le X
  have := wl_le Y
  refine ⟨v, he, ⟨_, _, _, ⟨a, b, hv', ha', hb'⟩, hq, ?_, ?_, by omega, by omega⟩, hbw⟩
  · rw [val_dig]; exact hy
  · rw [val_dig, val_dig, sv_neg0 val_nil_of, Int.neg_mul, hs, Int.neg_mul]
/-- -1, 0 or 1. -/
def isgn (p : Int) : Int := if p < 0 then -1 else if p = 0 then 0 else 1
def icmp (a b : Int) : Int := if a < b then -1 else if a = b then 0 else 1
theorem sgn_mul {a : Int} {b : Nat} (hb : 0 < b) : (0 < a * b ↔ 0 < a) ∧ (a * b < 0 ↔ a < 0) ∧ (a * b = 0 ↔ a = 0) := by
  have hb' : (0 : Int) < b := by omega
  refine ⟨⟨fun h => ?_, fun h => Int.mul_pos h hb'⟩, ⟨fun h => ?_, fun h => Int.mul_neg_of_neg_of_pos h hb'⟩, ⟨fun h => ?_, fun h => by rw [h, Int.zero_mul]⟩⟩
  · rcases ilt_or_ge 0 a with h1 | h1
    · exact h1
    · have := Int.mul_nonneg (show 0 ≤ -a by omega) (show (0 : Int) ≤ b by omega)
      rw [Int.neg_mul] at this; omega
  · rcases ilt_or_ge a 0 with h1 | h1
    · exact h1
    · have := Int.mul_nonneg h1 (show (0 : Int) ≤ b by omega); omega
  · rcases Int.mul_eq_zero.1 h with h | h <;> omega
theorem rsgn_is {s : Bool} {X Y : List Nat} (ha : IsR s X Y va w) (h1 : X.length ≤ 35184372088800) : Calls Tryd.prog 20 #[va] w (Ans w (IsV (.int .i64 (rsgn s (val X))))) := by
  obtain ⟨a, b, rfl, ⟨A, c, rfl, hA⟩, ⟨B, d, rfl, hB⟩⟩ := ha
  exact ans_below (rsign_any s A _ c X B _ d w hA rfl h1)
theorem rsgn_sv (s : Bool) (n : Nat) : rsgn s n = isgn (sv s n) := by
  unfold rsgn isgn sv
  cases s <;> (by_cases h : n = 0) <;> simp [h] <;> omega
theorem rv_sign (ha : IsRV p q k va w) (h1 : k ≤ 35184372088800) : Calls Tryd.prog 20 #[va] w (Ans w (IsV (.int .i64 (isgn p)))) := by
  obtain ⟨s, X, Y, hr, hq, hy, hs, l1, l2⟩ := ha
  have := rsgn_is hr (by omega)
  have e : rsgn s (val X) = isgn p := by
    rw [rsgn_sv]
    have a1 := sgn_mul (a := sv s (val X)) hq
    have a2 := sgn_mul (a := p) hy
    rw [hs] at a1
    unfold isgn
    have b1 : sv s (val X) < 0 ↔ p < 0 := a1.2.1.symm.trans a2.2.1
    have b2 : sv s (val X) = 0 ↔ p = 0 := a1.2.2.symm.trans a2.2.2
    simp only [b1, b2]
  rw [e] at this
  exact this
theorem cmp_icmp (x y : Nat) : cmp x y = icmp x y := by
  rcases Nat.lt_trichotomy x y with h | h | h
  · unfold cmp icmp
    have : (x : Int) < y := by omega
    simp [h]
  · subst h; unfold cmp icmp; simp
  · have h1 : ¬ x < y := by omega
    have h2 : ¬ (x : Int) = y := by omega
    have h3 : ¬ x = y := by omega
    unfold cmp icmp
    rw [if_neg h1, if_pos h, if_neg (by omega), if_neg h2]
theorem rcmp_sv (s : Bool) (x y : Nat) (t : Bool) (u v : Nat) (hy : 0 < y) (hv : 0 < v) : rcmp s x y t u v = icmp (sv s x * v) (sv t u * y) := by
  unfold rcmp
  rw [cmp_icmp, rsgn_sv, rsgn_sv]
  have a1 := sgn_mul (a := sv s x) hv
  have a2 := sgn_mul (a := sv t u) hy
  have e1 : sv s x * v = sv s (x * v) := (sv_mul s x v).symm
  have e2 : sv t u * y = sv t (u * y) := (sv_mul t u y).symm
  by_cases hlt : isgn (sv s x) < isgn (sv t u)
  · rw [if_pos hlt]
    unfold icmp
    rw [if_pos]
    unfold isgn at hlt
    clear e1 e2
    obtain ⟨a11, a12, a13⟩ := a1
    obtain ⟨a21, a22, a23⟩ := a2
    generalize sv s x * (v : Int) = A at *
    generalize sv t u * (y : Int) = B at *
    generalize sv s x = a at *
    generalize sv t u = b at *
    split at hlt <;> (try split at hlt) <;> (try split at hlt) <;> omega
  · rw [if_neg hlt]
    by_cases hgt : isgn (sv t u) < isgn (sv s x)
    · rw [if_pos hgt]
      unfold icmp
      have h : sv t u * y < sv s x * v := by
        unfold isgn at hgt
        obtain ⟨a11, a12, a13⟩ := a1
        obtain ⟨a21, a22, a23⟩ := a2
        clear e1 e2 hlt
        generalize sv s x * (v : Int) = A at *
        generalize sv t u * (y : Int) = B at *
        generalize sv s x = a at *
        generalize sv t u = b at *
        split at hgt <;> (try split at hgt) <;> (try split at hgt) <;> omega
      rw [if_neg (by omega), if_neg (by omega)]
    · rw [if_neg hgt]
      have heq : isgn (sv s x) = isgn (sv t u) := by omega
      by_cases hx : x = 0
      · rw [if_pos hx]
        subst hx
        have h0 : sv s 0 = 0 := by unfold sv; cases s <;> rfl
        have h1 : sv t u = 0 := by
          rw [h0] at heq
          unfold isgn at heq
          split at heq <;> (try split at heq) <;> (try split at heq) <;> omega
        rw [h0, h1]; simp [icmp]
      · rw [if_neg hx, e1, e2]
        have hst : s = t := by
          unfold isgn sv at heq
          cases s <;> cases t <;> simp at heq ⊢ <;> (try split at heq) <;> (try split at heq) <;> (try split at heq) <;> omega
        subst hst
        unfold icmp sv
        cases s
        · simp
        · simp only [if_true]
          generalize x * v = A
          generalize u * y = B
          split <;> (try split) <;> (try split) <;> (try split) <;> omega
theorem sgn_mul' {a m : Int} (hm : 0 < m) : a * m < 0 ↔ a < 0 := by
  have := (sgn_mul (a := a) (b := m.toNat) (by omega)).2.1
  rwa [show ((m.toNat : Nat) : Int) = m by omega] at this
theorem rv_cmp' (ha : IsRV p q k va w) (hb : IsRV p' q' k' vb w) (h1 : k + k' ≤ 35184372088800) :
    Calls Tryd.prog 49 #[va, vb] w (Ans w (IsV (.int .i64 (icmp (p * q') (p' * q))))) := by
  obtain ⟨s, X, Y, ⟨a, b, rfl, ⟨A, c, rfl, hA⟩, ⟨B, d, rfl, hB⟩⟩, hq, hy, hs, l1, l2⟩ := ha
  obtain ⟨t, U, V, ⟨a', b', rfl, ⟨A', c', rfl, hA'⟩, ⟨B', d', rfl, hB'⟩⟩, hq', hv, ht, l3, l4⟩ := hb
  have := ans_below (rrcmp_any s A _ c X B _ d Y t A' _ c' U B' _ d' V w hA rfl hB rfl hA' rfl hB' rfl (by omega) (by omega))
  rw [rcmp_sv _ _ _ _ _ _ hy hv] at this
  have e : icmp (sv s (val X) * val V) (sv t (val U) * val Y) = icmp (p * q') (p' * q) := by
    have hqq : (0 : Int) < (q : Int) * q' := Int.mul_pos (by omega) (by omega)
    have hyv : (0 : Int) < (val Y : Int) * val V := Int.mul_pos (by omega) (by omega)
    have h3 : sv s (val X) * val V * (q * q') = p * q' * (val Y * val V) := by
      rw [show sv s (val X) * (val V : Int) * (q * q') = (sv s (val X) * q) * (val V * q') by grind, hs]; grind
    have h4 : sv t (val U) * val Y * (q * q') = p' * q * (val Y * val V) := by
      rw [show sv t (val U) * (val Y : Int) * (q * q') = (sv t (val U) * q') * (val Y * q) by grind, ht]; grind
    have cong : ∀ {a b c d m n : Int}, 0 < m → 0 < n → a * m = c * n → b * m = d * n → icmp a b = icmp c d := by
      intro a b c d m n hm hn h1 h2
      have l : a < b ↔ c < d := by
        have k1 := sgn_mul' (a := a - b) hm
        have k2 := sgn_mul' (a := c - d) hn
        rw [Int.sub_mul] at k1 k2
        omega
      have g : a = b ↔ c = d := by
        constructor
        · intro h; subst h
          rw [h1] at h2
          exact Int.eq_of_mul_eq_mul_right (by omega) h2
        · intro h; subst h
          rw [← h1] at h2
          exact (Int.eq_of_mul_eq_mul_right (by omega) h2).symm
      unfold icmp
      simp only [l, g]
    exact cong hqq hyv h3 h4
  rw [e] at this
  exact this
theorem rv_cmp (ha : IsRV p q k va w) (hb : IsRV p' q' k' vb w) (h1 : k ≤ 8796093022000) (h2 : k' ≤ 8796093022000) :
    Calls Tryd.prog 49 #[va, vb] w (Ans w (IsV (.int .i64 (icmp (p * q') (p' * q))))) := rv_cmp' ha hb (by omega)

/-- Units of the least number. -/
def KU : Nat := 1074
def UQ : Nat := 2 ^ KU
theorem UQ_pos : 0 < UQ := Nat.two_pow_pos _
end
end Go.Proofs.YtiadjcilfljdaaaDoor
