/- Contracts of vergeref2's ratios: RAdd, RSub, RMul, RQuo. -/
import Derived.Test.YtmmbbkeefphaiaaRatD
namespace Go.Proofs.Ytmmbbkeefphaiaa
set_option linter.unusedVariables false
set_option linter.unusedSimpArgs false
open Go.RowKit Verge

/-- The sum of two signed numbers: its sign and its size. -/
def addS (s : Bool) (x : Nat) (t : Bool) (y : Nat) : Bool × Nat := if s = t then (s, x + y) else if y ≤ x then (s, x - y) else (t, y - x)

section
variable {s t : Bool} {X Y U V : List Nat} {va vb : Value} {w : World}

set_option maxRecDepth 20000 in
set_option maxHeartbeats 4000000 in
theorem rmul_is (ha : IsR s X Y va w) (hb : IsR t U V vb w) (h1 : X.length ≤ 8796093022000) (h2 : Y.length ≤ 8796093022000) (h3 : U.length ≤ 8796093022000) (h4 : V.length ≤ 8796093022000) :
    Calls Try.prog 48 #[va, vb] w (Ans w (IsQ ((s != t) && decide (val X * val U ≠ 0)) (fracN (val X * val U) (val Y * val V) 0) (fracD (val X * val U) (val Y * val V) 0))) := by
  obtain ⟨va1, va2, rfl, ha1, ha2⟩ := ha
  obtain ⟨vb1, vb2, rfl, hb1, hb2⟩ := hb
  have HB := Lib.hid (raft (raft (rnew w (.cells #[.bool s, va1, va2] 35)) (rnew _ (.cells #[.bool t, vb1, vb2] 35))) (rnew _ ratO))
  have HC := Lib.hid ((Box3.new w (.bool s) va1 va2).later (raft (rnew _ (.cells #[.bool t, vb1, vb2] 35)) (rnew _ ratO)))
  have HD := Lib.hid ((Box3.new (w.alloc (.cells #[.bool s, va1, va2] 35)) (.bool t) vb1 vb2).later (rnew _ ratO))
  have HO := Lib.hid (Box.new ((w.alloc (.cells #[.bool s, va1, va2] 35)).alloc (.cells #[.bool t, vb1, vb2] 35)))
  rw [show (w.alloc (.cells #[.bool s, va1, va2] 35)).heap.size = w.heap.size + 1 by simp] at HD
  rw [show ((w.alloc (.cells #[.bool s, va1, va2] 35)).alloc (.cells #[.bool t, vb1, vb2] 35)).heap.size = w.heap.size + 2 by simp] at HO
  have HA1 := Lib.hid (IsL.mono _ _ _ _ HB.out ha1)
  have HA2 := Lib.hid (IsL.mono _ _ _ _ HB.out ha2)
  have HB1 := Lib.hid (IsL.mono _ _ _ _ HB.out hb1)
  have HB2 := Lib.hid (IsL.mono _ _ _ _ HB.out hb2)
  have HW0 := Lib.hid (And.intro ha1.words (And.intro ha2.words (And.intro hb1.words hb2.words)))
  have H1 := Lib.hid (And.intro h1 (And.intro h2 (And.intro h3 h4)))
  obtain ⟨A, c, rfl, _⟩ := ha1
  obtain ⟨A', c', rfl, _⟩ := ha2
  obtain ⟨B, d, rfl, _⟩ := hb1
  obtain ⟨B', d', rfl, _⟩ := hb2
  clear h1 h2 h3 h4
  obtain ⟨m, hm⟩ : ∃ m, val X * val U = m := ⟨_, rfl⟩
  obtain ⟨l, hl⟩ : ∃ l, val Y * val V = l := ⟨_, rfl⟩
  have HL : Hid ((dig m).length ≤ 17592186044000 ∧ (dig l).length ≤ 17592186044000) := by
    have e1 := wl_eq HW0.out.1
    have e2 := wl_eq HW0.out.2.1
    have e3 := wl_eq HW0.out.2.2.1
    have e4 := wl_eq HW0.out.2.2.2
    have m1 := dig_mul_length (val X) (val U)
    have m2 := dig_mul_length (val Y) (val V)
    have := H1.out
    have := wl_le X
    have := wl_le Y
    have := wl_le U
    have := wl_le V
    rw [← hm, ← hl]
    exact Lib.hid ⟨by omega, by omega⟩
  rw [hm, hl]
  have HM := Lib.hid (And.intro hm hl)
  clear hm hl HW0
  obtain ⟨sx, hsx⟩ : ∃ b, (s != t) = b := ⟨_, rfl⟩
  rw [hsx]
  have HSX := Lib.hid hsx
  clear hsx
  obtain ⟨sg, hsg⟩ : ∃ b, (sx && decide (m ≠ 0)) = b := ⟨_, rfl⟩
  obtain ⟨nn, hnn⟩ : ∃ n, fracN (m) (l) 0 = n := ⟨_, rfl⟩
  obtain ⟨dd, hdd⟩ : ∃ n, fracD (m) (l) 0 = n := ⟨_, rfl⟩
  rw [hsg, hnn, hdd]
  have HE := Lib.hid (And.intro hsg (And.intro hnn hdd))
  clear hsg hnn hdd
  go_enter Try.func48, Try.ntmps48
  go_wp2_with fail
  refine region_at 16 (Pick [IsV (.pointer (some ⟨w.heap.size, 0, none⟩)), IsV (.bool s), IsV (.pointer (some ⟨w.heap.size + 1, 0, none⟩)), IsV (.bool t), IsV (.bool sx), IsV (.pointer (some ⟨w.heap.size, 1, none⟩)), IsV (.slice A X.length c), IsV (.pointer (some ⟨w.heap.size + 1, 1, none⟩)), IsV (.slice B U.length d), IsN m, IsV (.pointer (some ⟨w.heap.size, 2, none⟩)), IsV (.slice A' Y.length c'), IsV (.pointer (some ⟨w.heap.size + 1, 2, none⟩)), IsV (.slice B' V.length d'), IsN l, IsQ sg nn dd]) (by kernel_rfl) (by kernel_rfl) (by kernel_rfl) (mono_pick ⟨IsV.mono _, IsV.mono _, IsV.mono _, IsV.mono _, IsV.mono _, IsV.mono _, IsV.mono _, IsV.mono _, IsV.mono _, IsN.mono _, IsV.mono _, IsV.mono _, IsV.mono _, IsV.mono _, IsN.mono _, IsQ.mono _ _ _, trivial⟩) ⟨?_, ?_, ?_, ?_, ?_, ?_, ?_, ?_, ?_, ?_, ?_, ?_, ?_, ?_, ?_, ?_, trivial⟩ ?_
  · intro a W hsz hb hS
    have h2 : a.tmps.getD 2 undef = .pointer (some ⟨w.heap.size, 0, none⟩) := hS.1
    clear hS hsz
    refine will_of rfl ?_
    intro K hK
    go_simp
    exact hK _ _ ⟨Below.refl _ _, rfl⟩
  · intro a W hsz hb hS
    have h5 : a.tmps.getD 5 undef = .pointer (some ⟨w.heap.size, 0, none⟩) := hS.1
    clear hS hsz
    refine will_of rfl ?_
    obtain ⟨k0, k1, k2⟩ := (HC.out.later hb).cells
    obtain ⟨l0, l1, l2⟩ := (HD.out.later hb).cells
    intro K hK
    go_simp
    exact hK _ _ ⟨Below.refl _ _, rfl⟩
  · intro a W hsz hb hS
    have h3 : a.tmps.getD 3 undef = .pointer (some ⟨w.heap.size + 1, 0, none⟩) := hS.1
    clear hS hsz
    refine will_of rfl ?_
    intro K hK
    go_simp
    exact hK _ _ ⟨Below.refl _ _, rfl⟩
  · intro a W hsz hb hS
    have h7 : a.tmps.getD 7 undef = .pointer (some ⟨w.heap.size + 1, 0, none⟩) := hS.1
    clear hS hsz
    refine will_of rfl ?_
    obtain ⟨k0, k1, k2⟩ := (HC.out.later hb).cells
    obtain ⟨l0, l1, l2⟩ := (HD.out.later hb).cells
    intro K hK
    go_simp
    exact hK _ _ ⟨Below.refl _ _, rfl⟩
  · intro a W hsz hb hS
    have h6 : a.tmps.getD 6 undef = .bool s := hS.1
    have h8 : a.tmps.getD 8 undef = .bool t := hS.2.1
    clear hS hsz
    refine will_of rfl ?_
    intro K hK
    go_simp
    exact hK _ _ ⟨Below.refl _ _, by have := HSX.out; subst this; cases s <;> cases t <;> rfl⟩
  · intro a W hsz hb hS
    have h2 : a.tmps.getD 2 undef = .pointer (some ⟨w.heap.size, 0, none⟩) := hS.1
    clear hS hsz
    refine will_of rfl ?_
    intro K hK
    go_simp
    exact hK _ _ ⟨Below.refl _ _, rfl⟩
  · intro a W hsz hb hS
    have h10 : a.tmps.getD 10 undef = .pointer (some ⟨w.heap.size, 1, none⟩) := hS.1
    clear hS hsz
    refine will_of rfl ?_
    obtain ⟨k0, k1, k2⟩ := (HC.out.later hb).cells
    obtain ⟨l0, l1, l2⟩ := (HD.out.later hb).cells
    intro K hK
    go_simp
    exact hK _ _ ⟨Below.refl _ _, rfl⟩
  · intro a W hsz hb hS
    have h3 : a.tmps.getD 3 undef = .pointer (some ⟨w.heap.size + 1, 0, none⟩) := hS.1
    clear hS hsz
    refine will_of rfl ?_
    intro K hK
    go_simp
    exact hK _ _ ⟨Below.refl _ _, rfl⟩
  · intro a W hsz hb hS
    have h12 : a.tmps.getD 12 undef = .pointer (some ⟨w.heap.size + 1, 1, none⟩) := hS.1
    clear hS hsz
    refine will_of rfl ?_
    obtain ⟨k0, k1, k2⟩ := (HC.out.later hb).cells
    obtain ⟨l0, l1, l2⟩ := (HD.out.later hb).cells
    intro K hK
    go_simp
    exact hK _ _ ⟨Below.refl _ _, rfl⟩
  · intro a W hsz hb hS
    have h11 : a.tmps.getD 11 undef = .slice A X.length c := hS.1
    have h13 : a.tmps.getD 13 undef = .slice B U.length d := hS.2.1
    clear hS hsz
    refine will_of rfl ?_
    obtain ⟨k0, k1, k2⟩ := (HC.out.later hb).cells
    obtain ⟨l0, l1, l2⟩ := (HD.out.later hb).cells
    intro K hK
    go_simp
    have hq := times_is (IsL.mono _ _ _ _ hb HA1.out) (IsL.mono _ _ _ _ hb HB1.out) (by have := H1.out; omega)
    rw [HM.out.1] at hq
    (with_reducible refine hq.mono ?_)
    rintro e W' ⟨v, rfl, hv, hb'⟩
    exact hK _ _ ⟨hb', hv⟩
  · intro a W hsz hb hS
    have h2 : a.tmps.getD 2 undef = .pointer (some ⟨w.heap.size, 0, none⟩) := hS.1
    clear hS hsz
    refine will_of rfl ?_
    intro K hK
    go_simp
    exact hK _ _ ⟨Below.refl _ _, rfl⟩
  · intro a W hsz hb hS
    have h15 : a.tmps.getD 15 undef = .pointer (some ⟨w.heap.size, 2, none⟩) := hS.1
    clear hS hsz
    refine will_of rfl ?_
    obtain ⟨k0, k1, k2⟩ := (HC.out.later hb).cells
    obtain ⟨l0, l1, l2⟩ := (HD.out.later hb).cells
    intro K hK
    go_simp
    exact hK _ _ ⟨Below.refl _ _, rfl⟩
  · intro a W hsz hb hS
    have h3 : a.tmps.getD 3 undef = .pointer (some ⟨w.heap.size + 1, 0, none⟩) := hS.1
    clear hS hsz
    refine will_of rfl ?_
    intro K hK
    go_simp
    exact hK _ _ ⟨Below.refl _ _, rfl⟩
  · intro a W hsz hb hS
    have h17 : a.tmps.getD 17 undef = .pointer (some ⟨w.heap.size + 1, 2, none⟩) := hS.1
    clear hS hsz
    refine will_of rfl ?_
    obtain ⟨k0, k1, k2⟩ := (HC.out.later hb).cells
    obtain ⟨l0, l1, l2⟩ := (HD.out.later hb).cells
    intro K hK
    go_simp
    exact hK _ _ ⟨Below.refl _ _, rfl⟩
  · intro a W hsz hb hS
    have h16 : a.tmps.getD 16 undef = .slice A' Y.length c' := hS.1
    have h18 : a.tmps.getD 18 undef = .slice B' V.length d' := hS.2.1
    clear hS hsz
    refine will_of rfl ?_
    obtain ⟨k0, k1, k2⟩ := (HC.out.later hb).cells
    obtain ⟨l0, l1, l2⟩ := (HD.out.later hb).cells
    intro K hK
    go_simp
    have hq := times_is (IsL.mono _ _ _ _ hb HA2.out) (IsL.mono _ _ _ _ hb HB2.out) (by have := H1.out; omega)
    rw [HM.out.2] at hq
    (with_reducible refine hq.mono ?_)
    rintro e W' ⟨v, rfl, hv, hb'⟩
    exact hK _ _ ⟨hb', hv⟩
  · intro a W hsz hb hS
    have h9 : a.tmps.getD 9 undef = .bool sx := hS.1
    have q14 : IsN m (a.tmps.getD 14 undef) W := hS.2.1
    have q19 : IsN l (a.tmps.getD 19 undef) W := hS.2.2.1
    clear hS hsz
    obtain ⟨v14, h14⟩ : ∃ v, a.tmps.getD 14 undef = v := ⟨_, rfl⟩
    rw [h14] at q14
    obtain ⟨v19, h19⟩ : ∃ v, a.tmps.getD 19 undef = v := ⟨_, rfl⟩
    rw [h19] at q19
    refine will_of rfl ?_
    obtain ⟨k0, k1, k2⟩ := (HC.out.later hb).cells
    obtain ⟨l0, l1, l2⟩ := (HD.out.later hb).cells
    intro K hK
    go_simp
    have hq := frac_is sx 0 q14 q19 (by have := HL.out; omega) (by have := HL.out; omega)
    rw [val_dig, val_dig, HE.out.1, HE.out.2.1, HE.out.2.2] at hq
    (with_reducible refine hq.mono ?_)
    rintro e W' ⟨v, rfl, hv, hb'⟩
    exact hK _ _ ⟨hb', hv⟩
  intro f W hb hH
  have e0 : f 0 = .pointer (some ⟨w.heap.size, 0, none⟩) := hH.1
  have e1 : f 1 = .bool s := hH.2.1
  have e2 : f 2 = .pointer (some ⟨w.heap.size + 1, 0, none⟩) := hH.2.2.1
  have e3 : f 3 = .bool t := hH.2.2.2.1
  have e4 : f 4 = .bool sx := hH.2.2.2.2.1
  have e5 : f 5 = .pointer (some ⟨w.heap.size, 1, none⟩) := hH.2.2.2.2.2.1
  have e6 : f 6 = .slice A X.length c := hH.2.2.2.2.2.2.1
  have e7 : f 7 = .pointer (some ⟨w.heap.size + 1, 1, none⟩) := hH.2.2.2.2.2.2.2.1
  have e8 : f 8 = .slice B U.length d := hH.2.2.2.2.2.2.2.2.1
  obtain ⟨x9, y9⟩ : ∃ x, f 9 = x := ⟨_, rfl⟩
  have q9 : IsN m (f 9) W := hH.2.2.2.2.2.2.2.2.2.1
  rw [y9] at q9
  have e10 : f 10 = .pointer (some ⟨w.heap.size, 2, none⟩) := hH.2.2.2.2.2.2.2.2.2.2.1
  have e11 : f 11 = .slice A' Y.length c' := hH.2.2.2.2.2.2.2.2.2.2.2.1
  have e12 : f 12 = .pointer (some ⟨w.heap.size + 1, 2, none⟩) := hH.2.2.2.2.2.2.2.2.2.2.2.2.1
  have e13 : f 13 = .slice B' V.length d' := hH.2.2.2.2.2.2.2.2.2.2.2.2.2.1
  obtain ⟨x14, y14⟩ : ∃ x, f 14 = x := ⟨_, rfl⟩
  have q14 : IsN l (f 14) W := hH.2.2.2.2.2.2.2.2.2.2.2.2.2.2.1
  rw [y14] at q14
  obtain ⟨x15, y15⟩ : ∃ x, f 15 = x := ⟨_, rfl⟩
  have q15 : IsQ sg nn dd (f 15) W := hH.2.2.2.2.2.2.2.2.2.2.2.2.2.2.2.1
  rw [y15] at q15
  simp only [List.take_succ_cons, List.take_zero, List.drop_succ_cons, List.drop_zero, putFrom, Act.put, List.setIfInBounds_toArray, List.set_cons_zero, List.set_cons_succ, Nat.reduceAdd, e0, e1, e2, e3, e4, e5, e6, e7, e8, y9, e10, e11, e12, e13, y14, y15]
  clear e0 e1 e2 e3 e4 e5 e6 e7 e8 y9 e10 e11 e12 e13 y14 y15 hH f
  clear q9 q14
  obtain ⟨_, _, rfl, ⟨A3, c3, rfl, r3⟩, ⟨A4, c4, rfl, r4⟩⟩ := q15
  have HO2 := Lib.hid (HO.out.later hb)
  obtain ⟨o0, o1, o2, p0, p1, p2⟩ := HO2.out.cells
  have HW := Lib.hid (raft HB.out hb)
  have R3 := Lib.hid r3
  have R4 := Lib.hid r4
  clear r3 r4 hb
  go_wp2
  refine bodyPost_ret (v := .agg #[.bool (sg), .slice A3 (dig (nn)).length c3, .slice A4 (dig (dd)).length c4]) (by simp [results, Try.results48, go_sem, o0, o1, o2]) rfl ?_
  exact ⟨_, rfl, ⟨_, _, rfl, ⟨A3, c3, rfl, R3.out.put3 HO2.out _ _ _⟩, ⟨A4, c4, rfl, R4.out.put3 HO2.out _ _ _⟩⟩, put3_below HW.out (by omega) _ _ _⟩

set_option maxRecDepth 20000 in
set_option maxHeartbeats 4000000 in
theorem rquo_is (ha : IsR s X Y va w) (hb : IsR t U V vb w) (h1 : X.length ≤ 8796093022000) (h2 : Y.length ≤ 8796093022000) (h3 : U.length ≤ 8796093022000) (h4 : V.length ≤ 8796093022000) :
    Calls Try.prog 72 #[va, vb] w (Ans w (IsQ ((s != t) && decide (val X * val V ≠ 0)) (fracN (val X * val V) (val Y * val U) 0) (fracD (val X * val V) (val Y * val U) 0))) := by
  obtain ⟨va1, va2, rfl, ha1, ha2⟩ := ha
  obtain ⟨vb1, vb2, rfl, hb1, hb2⟩ := hb
  have HB := Lib.hid (raft (raft (rnew w (.cells #[.bool s, va1, va2] 35)) (rnew _ (.cells #[.bool t, vb1, vb2] 35))) (rnew _ ratO))
  have HC := Lib.hid ((Box3.new w (.bool s) va1 va2).later (raft (rnew _ (.cells #[.bool t, vb1, vb2] 35)) (rnew _ ratO)))
  have HD := Lib.hid ((Box3.new (w.alloc (.cells #[.bool s, va1, va2] 35)) (.bool t) vb1 vb2).later (rnew _ ratO))
  have HO := Lib.hid (Box.new ((w.alloc (.cells #[.bool s, va1, va2] 35)).alloc (.cells #[.bool t, vb1, vb2] 35)))
  rw [show (w.alloc (.cells #[.bool s, va1, va2] 35)).heap.size = w.heap.size + 1 by simp] at HD
  rw [show ((w.alloc (.cells #[.bool s, va1, va2] 35)).alloc (.cells #[.bool t, vb1, vb2] 35)).heap.size = w.heap.size + 2 by simp] at HO
  have HA1 := Lib.hid (IsL.mono _ _ _ _ HB.out ha1)
  have HA2 := Lib.hid (IsL.mono _ _ _ _ HB.out ha2)
  have HB1 := Lib.hid (IsL.mono _ _ _ _ HB.out hb1)
  have HB2 := Lib.hid (IsL.mono _ _ _ _ HB.out hb2)
  have HW0 := Lib.hid (And.intro ha1.words (And.intro ha2.words (And.intro hb1.words hb2.words)))
  have H1 := Lib.hid (And.intro h1 (And.intro h2 (And.intro h3 h4)))
  obtain ⟨A, c, rfl, _⟩ := ha1
  obtain ⟨A', c', rfl, _⟩ := ha2
  obtain ⟨B, d, rfl, _⟩ := hb1
  obtain ⟨B', d', rfl, _⟩ := hb2
  clear h1 h2 h3 h4
  obtain ⟨m, hm⟩ : ∃ m, val X * val V = m := ⟨_, rfl⟩
  obtain ⟨l, hl⟩ : ∃ l, val Y * val U = l := ⟨_, rfl⟩
  have HL : Hid ((dig m).length ≤ 17592186044000 ∧ (dig l).length ≤ 17592186044000) := by
    have e1 := wl_eq HW0.out.1
    have e2 := wl_eq HW0.out.2.1
    have e3 := wl_eq HW0.out.2.2.1
    have e4 := wl_eq HW0.out.2.2.2
    have m1 := dig_mul_length (val X) (val V)
    have m2 := dig_mul_length (val Y) (val U)
    have := H1.out
    have := wl_le X
    have := wl_le Y
    have := wl_le U
    have := wl_le V
    rw [← hm, ← hl]
    exact Lib.hid ⟨by omega, by omega⟩
  rw [hm, hl]
  have HM := Lib.hid (And.intro hm hl)
  clear hm hl HW0
  obtain ⟨sx, hsx⟩ : ∃ b, (s != t) = b := ⟨_, rfl⟩
  rw [hsx]
  have HSX := Lib.hid hsx
  clear hsx
  obtain ⟨sg, hsg⟩ : ∃ b, (sx && decide (m ≠ 0)) = b := ⟨_, rfl⟩
  obtain ⟨nn, hnn⟩ : ∃ n, fracN (m) (l) 0 = n := ⟨_, rfl⟩
  obtain ⟨dd, hdd⟩ : ∃ n, fracD (m) (l) 0 = n := ⟨_, rfl⟩
  rw [hsg, hnn, hdd]
  have HE := Lib.hid (And.intro hsg (And.intro hnn hdd))
  clear hsg hnn hdd
  go_enter Try.func72, Try.ntmps72
  go_wp2_with fail
  refine region_at 16 (Pick [IsV (.pointer (some ⟨w.heap.size, 0, none⟩)), IsV (.bool s), IsV (.pointer (some ⟨w.heap.size + 1, 0, none⟩)), IsV (.bool t), IsV (.bool sx), IsV (.pointer (some ⟨w.heap.size, 1, none⟩)), IsV (.slice A X.length c), IsV (.pointer (some ⟨w.heap.size + 1, 2, none⟩)), IsV (.slice B' V.length d'), IsN m, IsV (.pointer (some ⟨w.heap.size, 2, none⟩)), IsV (.slice A' Y.length c'), IsV (.pointer (some ⟨w.heap.size + 1, 1, none⟩)), IsV (.slice B U.length d), IsN l, IsQ sg nn dd]) (by kernel_rfl) (by kernel_rfl) (by kernel_rfl) (mono_pick ⟨IsV.mono _, IsV.mono _, IsV.mono _, IsV.mono _, IsV.mono _, IsV.mono _, IsV.mono _, IsV.mono _, IsV.mono _, IsN.mono _, IsV.mono _, IsV.mono _, IsV.mono _, IsV.mono _, IsN.mono _, IsQ.mono _ _ _, trivial⟩) ⟨?_, ?_, ?_, ?_, ?_, ?_, ?_, ?_, ?_, ?_, ?_, ?_, ?_, ?_, ?_, ?_, trivial⟩ ?_
  · intro a W hsz hb hS
    have h2 : a.tmps.getD 2 undef = .pointer (some ⟨w.heap.size, 0, none⟩) := hS.1
    clear hS hsz
    refine will_of rfl ?_
    intro K hK
    go_simp
    exact hK _ _ ⟨Below.refl _ _, rfl⟩
  · intro a W hsz hb hS
    have h5 : a.tmps.getD 5 undef = .pointer (some ⟨w.heap.size, 0, none⟩) := hS.1
    clear hS hsz
    refine will_of rfl ?_
    obtain ⟨k0, k1, k2⟩ := (HC.out.later hb).cells
    obtain ⟨l0, l1, l2⟩ := (HD.out.later hb).cells
    intro K hK
    go_simp
    exact hK _ _ ⟨Below.refl _ _, rfl⟩
  · intro a W hsz hb hS
    have h3 : a.tmps.getD 3 undef = .pointer (some ⟨w.heap.size + 1, 0, none⟩) := hS.1
    clear hS hsz
    refine will_of rfl ?_
    intro K hK
    go_simp
    exact hK _ _ ⟨Below.refl _ _, rfl⟩
  · intro a W hsz hb hS
    have h7 : a.tmps.getD 7 undef = .pointer (some ⟨w.heap.size + 1, 0, none⟩) := hS.1
    clear hS hsz
    refine will_of rfl ?_
    obtain ⟨k0, k1, k2⟩ := (HC.out.later hb).cells
    obtain ⟨l0, l1, l2⟩ := (HD.out.later hb).cells
    intro K hK
    go_simp
    exact hK _ _ ⟨Below.refl _ _, rfl⟩
  · intro a W hsz hb hS
    have h6 : a.tmps.getD 6 undef = .bool s := hS.1
    have h8 : a.tmps.getD 8 undef = .bool t := hS.2.1
    clear hS hsz
    refine will_of rfl ?_
    intro K hK
    go_simp
    exact hK _ _ ⟨Below.refl _ _, by have := HSX.out; subst this; cases s <;> cases t <;> rfl⟩
  · intro a W hsz hb hS
    have h2 : a.tmps.getD 2 undef = .pointer (some ⟨w.heap.size, 0, none⟩) := hS.1
    clear hS hsz
    refine will_of rfl ?_
    intro K hK
    go_simp
    exact hK _ _ ⟨Below.refl _ _, rfl⟩
  · intro a W hsz hb hS
    have h10 : a.tmps.getD 10 undef = .pointer (some ⟨w.heap.size, 1, none⟩) := hS.1
    clear hS hsz
    refine will_of rfl ?_
    obtain ⟨k0, k1, k2⟩ := (HC.out.later hb).cells
    obtain ⟨l0, l1, l2⟩ := (HD.out.later hb).cells
    intro K hK
    go_simp
    exact hK _ _ ⟨Below.refl _ _, rfl⟩
  · intro a W hsz hb hS
    have h3 : a.tmps.getD 3 undef = .pointer (some ⟨w.heap.size + 1, 0, none⟩) := hS.1
    clear hS hsz
    refine will_of rfl ?_
    intro K hK
    go_simp
    exact hK _ _ ⟨Below.refl _ _, rfl⟩
  · intro a W hsz hb hS
    have h12 : a.tmps.getD 12 undef = .pointer (some ⟨w.heap.size + 1, 2, none⟩) := hS.1
    clear hS hsz
    refine will_of rfl ?_
    obtain ⟨k0, k1, k2⟩ := (HC.out.later hb).cells
    obtain ⟨l0, l1, l2⟩ := (HD.out.later hb).cells
    intro K hK
    go_simp
    exact hK _ _ ⟨Below.refl _ _, rfl⟩
  · intro a W hsz hb hS
    have h11 : a.tmps.getD 11 undef = .slice A X.length c := hS.1
    have h13 : a.tmps.getD 13 undef = .slice B' V.length d' := hS.2.1
    clear hS hsz
    refine will_of rfl ?_
    obtain ⟨k0, k1, k2⟩ := (HC.out.later hb).cells
    obtain ⟨l0, l1, l2⟩ := (HD.out.later hb).cells
    intro K hK
    go_simp
    have hq := times_is (IsL.mono _ _ _ _ hb HA1.out) (IsL.mono _ _ _ _ hb HB2.out) (by have := H1.out; omega)
    rw [HM.out.1] at hq
    (with_reducible refine hq.mono ?_)
    rintro e W' ⟨v, rfl, hv, hb'⟩
    exact hK _ _ ⟨hb', hv⟩
  · intro a W hsz hb hS
    have h2 : a.tmps.getD 2 undef = .pointer (some ⟨w.heap.size, 0, none⟩) := hS.1
    clear hS hsz
    refine will_of rfl ?_
    intro K hK
    go_simp
    exact hK _ _ ⟨Below.refl _ _, rfl⟩
  · intro a W hsz hb hS
    have h15 : a.tmps.getD 15 undef = .pointer (some ⟨w.heap.size, 2, none⟩) := hS.1
    clear hS hsz
    refine will_of rfl ?_
    obtain ⟨k0, k1, k2⟩ := (HC.out.later hb).cells
    obtain ⟨l0, l1, l2⟩ := (HD.out.later hb).cells
    intro K hK
    go_simp
    exact hK _ _ ⟨Below.refl _ _, rfl⟩
  · intro a W hsz hb hS
    have h3 : a.tmps.getD 3 undef = .pointer (some ⟨w.heap.size + 1, 0, none⟩) := hS.1
    clear hS hsz
    refine will_of rfl ?_
    intro K hK
    go_simp
    exact hK _ _ ⟨Below.refl _ _, rfl⟩
  · intro a W hsz hb hS
    have h17 : a.tmps.getD 17 undef = .pointer (some ⟨w.heap.size + 1, 1, none⟩) := hS.1
    clear hS hsz
    refine will_of rfl ?_
    obtain ⟨k0, k1, k2⟩ := (HC.out.later hb).cells
    obtain ⟨l0, l1, l2⟩ := (HD.out.later hb).cells
    intro K hK
    go_simp
    exact hK _ _ ⟨Below.refl _ _, rfl⟩
  · intro a W hsz hb hS
    have h16 : a.tmps.getD 16 undef = .slice A' Y.length c' := hS.1
    have h18 : a.tmps.getD 18 undef = .slice B U.length d := hS.2.1
    clear hS hsz
    refine will_of rfl ?_
    obtain ⟨k0, k1, k2⟩ := (HC.out.later hb).cells
    obtain ⟨l0, l1, l2⟩ := (HD.out.later hb).cells
    intro K hK
    go_simp
    have hq := times_is (IsL.mono _ _ _ _ hb HA2.out) (IsL.mono _ _ _ _ hb HB1.out) (by have := H1.out; omega)
    rw [HM.out.2] at hq
    (with_reducible refine hq.mono ?_)
    rintro e W' ⟨v, rfl, hv, hb'⟩
    exact hK _ _ ⟨hb', hv⟩
  · intro a W hsz hb hS
    have h9 : a.tmps.getD 9 undef = .bool sx := hS.1
    have q14 : IsN m (a.tmps.getD 14 undef) W := hS.2.1
    have q19 : IsN l (a.tmps.getD 19 undef) W := hS.2.2.1
    clear hS hsz
    obtain ⟨v14, h14⟩ : ∃ v, a.tmps.getD 14 undef = v := ⟨_, rfl⟩
    rw [h14] at q14
    obtain ⟨v19, h19⟩ : ∃ v, a.tmps.getD 19 undef = v := ⟨_, rfl⟩
    rw [h19] at q19
    refine will_of rfl ?_
    obtain ⟨k0, k1, k2⟩ := (HC.out.later hb).cells
    obtain ⟨l0, l1, l2⟩ := (HD.out.later hb).cells
    intro K hK
    go_simp
    have hq := frac_is sx 0 q14 q19 (by have := HL.out; omega) (by have := HL.out; omega)
    rw [val_dig, val_dig, HE.out.1, HE.out.2.1, HE.out.2.2] at hq
    (with_reducible refine hq.mono ?_)
    rintro e W' ⟨v, rfl, hv, hb'⟩
    exact hK _ _ ⟨hb', hv⟩
  intro f W hb hH
  have e0 : f 0 = .pointer (some ⟨w.heap.size, 0, none⟩) := hH.1
  have e1 : f 1 = .bool s := hH.2.1
  have e2 : f 2 = .pointer (some ⟨w.heap.size + 1, 0, none⟩) := hH.2.2.1
  have e3 : f 3 = .bool t := hH.2.2.2.1
  have e4 : f 4 = .bool sx := hH.2.2.2.2.1
  have e5 : f 5 = .pointer (some ⟨w.heap.size, 1, none⟩) := hH.2.2.2.2.2.1
  have e6 : f 6 = .slice A X.length c := hH.2.2.2.2.2.2.1
  have e7 : f 7 = .pointer (some ⟨w.heap.size + 1, 2, none⟩) := hH.2.2.2.2.2.2.2.1
  have e8 : f 8 = .slice B' V.length d' := hH.2.2.2.2.2.2.2.2.1
  obtain ⟨x9, y9⟩ : ∃ x, f 9 = x := ⟨_, rfl⟩
  have q9 : IsN m (f 9) W := hH.2.2.2.2.2.2.2.2.2.1
  rw [y9] at q9
  have e10 : f 10 = .pointer (some ⟨w.heap.size, 2, none⟩) := hH.2.2.2.2.2.2.2.2.2.2.1
  have e11 : f 11 = .slice A' Y.length c' := hH.2.2.2.2.2.2.2.2.2.2.2.1
  have e12 : f 12 = .pointer (some ⟨w.heap.size + 1, 1, none⟩) := hH.2.2.2.2.2.2.2.2.2.2.2.2.1
  have e13 : f 13 = .slice B U.length d := hH.2.2.2.2.2.2.2.2.2.2.2.2.2.1
  obtain ⟨x14, y14⟩ : ∃ x, f 14 = x := ⟨_, rfl⟩
  have q14 : IsN l (f 14) W := hH.2.2.2.2.2.2.2.2.2.2.2.2.2.2.1
  rw [y14] at q14
  obtain ⟨x15, y15⟩ : ∃ x, f 15 = x := ⟨_, rfl⟩
  have q15 : IsQ sg nn dd (f 15) W := hH.2.2.2.2.2.2.2.2.2.2.2.2.2.2.2.1
  rw [y15] at q15
  simp only [List.take_succ_cons, List.take_zero, List.drop_succ_cons, List.drop_zero, putFrom, Act.put, List.setIfInBounds_toArray, List.set_cons_zero, List.set_cons_succ, Nat.reduceAdd, e0, e1, e2, e3, e4, e5, e6, e7, e8, y9, e10, e11, e12, e13, y14, y15]
  clear e0 e1 e2 e3 e4 e5 e6 e7 e8 y9 e10 e11 e12 e13 y14 y15 hH f
  clear q9 q14
  obtain ⟨_, _, rfl, ⟨A3, c3, rfl, r3⟩, ⟨A4, c4, rfl, r4⟩⟩ := q15
  have HO2 := Lib.hid (HO.out.later hb)
  obtain ⟨o0, o1, o2, p0, p1, p2⟩ := HO2.out.cells
  have HW := Lib.hid (raft HB.out hb)
  have R3 := Lib.hid r3
  have R4 := Lib.hid r4
  clear r3 r4 hb
  go_wp2
  refine bodyPost_ret (v := .agg #[.bool (sg), .slice A3 (dig (nn)).length c3, .slice A4 (dig (dd)).length c4]) (by simp [results, Try.results72, go_sem, o0, o1, o2]) rfl ?_
  exact ⟨_, rfl, ⟨_, _, rfl, ⟨A3, c3, rfl, R3.out.put3 HO2.out _ _ _⟩, ⟨A4, c4, rfl, R4.out.put3 HO2.out _ _ _⟩⟩, put3_below HW.out (by omega) _ _ _⟩

set_option maxRecDepth 20000 in
set_option maxHeartbeats 8000000 in
theorem radd_is (ha : IsR s X Y va w) (hb : IsR t U V vb w) (h1 : X.length ≤ 8796093022000) (h2 : Y.length ≤ 8796093022000) (h3 : U.length ≤ 8796093022000) (h4 : V.length ≤ 8796093022000) :
    Calls Try.prog 70 #[va, vb] w (Ans w (IsQ ((addS s (val X * val V) t (val U * val Y)).1 && decide ((addS s (val X * val V) t (val U * val Y)).2 ≠ 0)) (fracN (addS s (val X * val V) t (val U * val Y)).2 (val Y * val V) 0) (fracD (addS s (val X * val V) t (val U * val Y)).2 (val Y * val V) 0))) := by
  obtain ⟨va1, va2, rfl, ha1, ha2⟩ := ha
  obtain ⟨vb1, vb2, rfl, hb1, hb2⟩ := hb
  have HB := Lib.hid (raft (raft (rnew w (.cells #[.bool s, va1, va2] 35)) (rnew _ (.cells #[.bool t, vb1, vb2] 35))) (rnew _ ratO))
  have HC := Lib.hid ((Box3.new w (.bool s) va1 va2).later (raft (rnew _ (.cells #[.bool t, vb1, vb2] 35)) (rnew _ ratO)))
  have HD := Lib.hid ((Box3.new (w.alloc (.cells #[.bool s, va1, va2] 35)) (.bool t) vb1 vb2).later (rnew _ ratO))
  have HO := Lib.hid (Box.new ((w.alloc (.cells #[.bool s, va1, va2] 35)).alloc (.cells #[.bool t, vb1, vb2] 35)))
  rw [show (w.alloc (.cells #[.bool s, va1, va2] 35)).heap.size = w.heap.size + 1 by simp] at HD
  rw [show ((w.alloc (.cells #[.bool s, va1, va2] 35)).alloc (.cells #[.bool t, vb1, vb2] 35)).heap.size = w.heap.size + 2 by simp] at HO
  have HA1 := Lib.hid (IsL.mono _ _ _ _ HB.out ha1)
  have HA2 := Lib.hid (IsL.mono _ _ _ _ HB.out ha2)
  have HB1 := Lib.hid (IsL.mono _ _ _ _ HB.out hb1)
  have HB2 := Lib.hid (IsL.mono _ _ _ _ HB.out hb2)
  have HW0 := Lib.hid (And.intro ha1.words (And.intro ha2.words (And.intro hb1.words hb2.words)))
  have H1 := Lib.hid (And.intro h1 (And.intro h2 (And.intro h3 h4)))
  obtain ⟨A, c, rfl, _⟩ := ha1
  obtain ⟨A', c', rfl, _⟩ := ha2
  obtain ⟨B, d, rfl, _⟩ := hb1
  obtain ⟨B', d', rfl, _⟩ := hb2
  clear h1 h2 h3 h4
  obtain ⟨x, hx⟩ : ∃ x, val X * val V = x := ⟨_, rfl⟩
  obtain ⟨y, hy⟩ : ∃ y, val U * val Y = y := ⟨_, rfl⟩
  obtain ⟨z, hz⟩ : ∃ z, val Y * val V = z := ⟨_, rfl⟩
  have HL : Hid ((dig x).length ≤ 17592186044000 ∧ (dig y).length ≤ 17592186044000 ∧ (dig z).length ≤ 17592186044000) := by
    have e1 := wl_eq HW0.out.1
    have e2 := wl_eq HW0.out.2.1
    have e3 := wl_eq HW0.out.2.2.1
    have e4 := wl_eq HW0.out.2.2.2
    have m1 := dig_mul_length (val X) (val V)
    have m2 := dig_mul_length (val U) (val Y)
    have m3 := dig_mul_length (val Y) (val V)
    have := H1.out
    have := wl_le X
    have := wl_le Y
    have := wl_le U
    have := wl_le V
    rw [← hx, ← hy, ← hz]
    exact Lib.hid ⟨by omega, by omega, by omega⟩
  rw [hx, hy, hz]
  have HX := Lib.hid hx
  have HY := Lib.hid hy
  have HZ := Lib.hid hz
  clear hx hy hz
  rcases (show (s = t) ∨ (s = true ∧ t = false) ∨ (s = false ∧ t = true) by cases s <;> cases t <;> simp) with hst | hst
  · subst hst
    have hadd : addS s x s y = (s, x + y) := by simp [addS]
    rw [hadd]
    clear hadd
    dsimp only
    obtain ⟨sg, hsg⟩ : ∃ b, (s && decide ((x + y) ≠ 0)) = b := ⟨_, rfl⟩
    obtain ⟨nn, hnn⟩ : ∃ n, fracN ((x + y)) (z) 0 = n := ⟨_, rfl⟩
    obtain ⟨dd, hdd⟩ : ∃ n, fracD ((x + y)) (z) 0 = n := ⟨_, rfl⟩
    rw [hsg, hnn, hdd]
    have HE := Lib.hid (And.intro hsg (And.intro hnn hdd))
    clear hsg hnn hdd
    have hbb : (s == s) = true := by simp
    have HL2 : Hid ((dig (x + y)).length ≤ 17592186044001) := Lib.hid (dig_add_length x y _ HL.out.1 HL.out.2.1)
    obtain ⟨k0, k1, k2⟩ := HC.out.cells
    obtain ⟨l0, l1, l2⟩ := HD.out.cells
    go_enter Try.func70, Try.ntmps70
    go_wp2_with fail
    refine (times_is HA1.out HB2.out (by have := H1.out; omega)).mono ?_
    rintro en w1 ⟨v1, rfl, hv, hb⟩
    have HB := Lib.hid (raft HB.out hb)
    have HC := Lib.hid (HC.out.later hb)
    have HD := Lib.hid (HD.out.later hb)
    have HO := Lib.hid (HO.out.later hb)
    have HA1 := Lib.hid (IsL.mono _ _ _ _ hb HA1.out)
    have HA2 := Lib.hid (IsL.mono _ _ _ _ hb HA2.out)
    have HB1 := Lib.hid (IsL.mono _ _ _ _ hb HB1.out)
    have HB2 := Lib.hid (IsL.mono _ _ _ _ hb HB2.out)
    have Hv1 : Hid (IsN x v1 w1) := by rw [HX.out] at hv; exact Lib.hid hv
    clear hv hb
    clear k0 k1 k2 l0 l1 l2
    obtain ⟨k0, k1, k2⟩ := HC.out.cells
    obtain ⟨l0, l1, l2⟩ := HD.out.cells
    go_wp2_with fail
    refine (times_is HB1.out HA2.out (by have := H1.out; omega)).mono ?_
    rintro en w2 ⟨v2, rfl, hv, hb⟩
    have HB := Lib.hid (raft HB.out hb)
    have HC := Lib.hid (HC.out.later hb)
    have HD := Lib.hid (HD.out.later hb)
    have HO := Lib.hid (HO.out.later hb)
    have HA1 := Lib.hid (IsL.mono _ _ _ _ hb HA1.out)
    have HA2 := Lib.hid (IsL.mono _ _ _ _ hb HA2.out)
    have HB1 := Lib.hid (IsL.mono _ _ _ _ hb HB1.out)
    have HB2 := Lib.hid (IsL.mono _ _ _ _ hb HB2.out)
    have Hv1 := Lib.hid (IsL.mono _ _ _ _ hb Hv1.out)
    have Hv2 : Hid (IsN y v2 w2) := by rw [HY.out] at hv; exact Lib.hid hv
    clear hv hb
    clear k0 k1 k2 l0 l1 l2
    obtain ⟨k0, k1, k2⟩ := HC.out.cells
    obtain ⟨l0, l1, l2⟩ := HD.out.cells
    go_wp2_with fail
    refine (times_is HA2.out HB2.out (by have := H1.out; omega)).mono ?_
    rintro en w3 ⟨v3, rfl, hv, hb⟩
    have HB := Lib.hid (raft HB.out hb)
    have HC := Lib.hid (HC.out.later hb)
    have HD := Lib.hid (HD.out.later hb)
    have HO := Lib.hid (HO.out.later hb)
    have HA1 := Lib.hid (IsL.mono _ _ _ _ hb HA1.out)
    have HA2 := Lib.hid (IsL.mono _ _ _ _ hb HA2.out)
    have HB1 := Lib.hid (IsL.mono _ _ _ _ hb HB1.out)
    have HB2 := Lib.hid (IsL.mono _ _ _ _ hb HB2.out)
    have Hv1 := Lib.hid (IsL.mono _ _ _ _ hb Hv1.out)
    have Hv2 := Lib.hid (IsL.mono _ _ _ _ hb Hv2.out)
    have Hv3 : Hid (IsN z v3 w3) := by rw [HZ.out] at hv; exact Lib.hid hv
    clear hv hb
    clear k0 k1 k2 l0 l1 l2
    obtain ⟨k0, k1, k2⟩ := HC.out.cells
    obtain ⟨l0, l1, l2⟩ := HD.out.cells
    clear HX HY HZ HA1 HA2 HB1 HB2 HW0 H1
    go_upto_region 5 with fail
    refine region_at 7 (Pick [IsV (.pointer (some ⟨w.heap.size, 0, none⟩)), IsV (.bool s), IsV (v1), IsV (v2), IsN (x + y), IsV (v3), IsQ sg nn dd]) (by kernel_rfl) (by kernel_rfl) (by kernel_rfl) (mono_pick ⟨IsV.mono _, IsV.mono _, IsV.mono _, IsV.mono _, IsN.mono _, IsV.mono _, IsQ.mono _ _ _, trivial⟩) ⟨?_, ?_, ?_, ?_, ?_, ?_, ?_, trivial⟩ ?_
    · intro a W hsz hb hS
      have h2 : a.tmps.getD 2 undef = .pointer (some ⟨w.heap.size, 0, none⟩) := hS.1
      clear hS hsz
      refine will_of rfl ?_
      intro K hK
      go_simp
      exact hK _ _ ⟨Below.refl _ _, rfl⟩
    · intro a W hsz hb hS
      have h28 : a.tmps.getD 28 undef = .pointer (some ⟨w.heap.size, 0, none⟩) := hS.1
      clear hS hsz
      refine will_of rfl ?_
      obtain ⟨k0, k1, k2⟩ := (HC.out.later hb).cells
      obtain ⟨l0, l1, l2⟩ := (HD.out.later hb).cells
      intro K hK
      go_simp
      exact hK _ _ ⟨Below.refl _ _, rfl⟩
    · intro a W hsz hb hS
      have h5 : a.tmps.getD 5 undef = v1 := hS.1
      clear hS hsz
      refine will_of rfl ?_
      intro K hK
      go_simp
      exact hK _ _ ⟨Below.refl _ _, rfl⟩
    · intro a W hsz hb hS
      have h6 : a.tmps.getD 6 undef = v2 := hS.1
      clear hS hsz
      refine will_of rfl ?_
      intro K hK
      go_simp
      exact hK _ _ ⟨Below.refl _ _, rfl⟩
    · intro a W hsz hb hS
      have h30 : a.tmps.getD 30 undef = v1 := hS.1
      have h31 : a.tmps.getD 31 undef = v2 := hS.2.1
      clear hS hsz
      refine will_of rfl ?_
      obtain ⟨k0, k1, k2⟩ := (HC.out.later hb).cells
      obtain ⟨l0, l1, l2⟩ := (HD.out.later hb).cells
      intro K hK
      go_simp
      have hq := plus_is (IsL.mono _ _ _ _ hb Hv1.out) (IsL.mono _ _ _ _ hb Hv2.out) (by have := HL.out; omega) (by have := HL.out; omega)
      rw [val_dig, val_dig] at hq
      (with_reducible refine hq.mono ?_)
      rintro e W' ⟨v, rfl, hv, hb'⟩
      exact hK _ _ ⟨hb', hv⟩
    · intro a W hsz hb hS
      have h7 : a.tmps.getD 7 undef = v3 := hS.1
      clear hS hsz
      refine will_of rfl ?_
      intro K hK
      go_simp
      exact hK _ _ ⟨Below.refl _ _, rfl⟩
    · intro a W hsz hb hS
      have h29 : a.tmps.getD 29 undef = .bool s := hS.1
      have q32 : IsN (x + y) (a.tmps.getD 32 undef) W := hS.2.1
      have h33 : a.tmps.getD 33 undef = v3 := hS.2.2.1
      clear hS hsz
      obtain ⟨v32, h32⟩ : ∃ v, a.tmps.getD 32 undef = v := ⟨_, rfl⟩
      rw [h32] at q32
      refine will_of rfl ?_
      obtain ⟨k0, k1, k2⟩ := (HC.out.later hb).cells
      obtain ⟨l0, l1, l2⟩ := (HD.out.later hb).cells
      intro K hK
      go_simp
      have hq := frac_is s 0 q32 (IsL.mono _ _ _ _ hb Hv3.out) (by have := HL.out; have := HL2.out; omega) (by have := HL.out; omega)
      rw [val_dig, val_dig, HE.out.1, HE.out.2.1, HE.out.2.2] at hq
      (with_reducible refine hq.mono ?_)
      rintro e W' ⟨v, rfl, hv, hb'⟩
      exact hK _ _ ⟨hb', hv⟩
    intro f W hb hH
    have e0 : f 0 = .pointer (some ⟨w.heap.size, 0, none⟩) := hH.1
    have e1 : f 1 = .bool s := hH.2.1
    have e2 : f 2 = v1 := hH.2.2.1
    have e3 : f 3 = v2 := hH.2.2.2.1
    obtain ⟨x4, y4⟩ : ∃ x, f 4 = x := ⟨_, rfl⟩
    have q4 : IsN (x + y) (f 4) W := hH.2.2.2.2.1
    rw [y4] at q4
    have e5 : f 5 = v3 := hH.2.2.2.2.2.1
    obtain ⟨x6, y6⟩ : ∃ x, f 6 = x := ⟨_, rfl⟩
    have q6 : IsQ sg nn dd (f 6) W := hH.2.2.2.2.2.2.1
    rw [y6] at q6
    simp only [List.take_succ_cons, List.take_zero, List.drop_succ_cons, List.drop_zero, putFrom, Act.put, List.setIfInBounds_toArray, List.set_cons_zero, List.set_cons_succ, Nat.reduceAdd, e0, e1, e2, e3, y4, e5, y6]
    clear e0 e1 e2 e3 y4 e5 y6 hH f
    clear q4
    obtain ⟨_, _, rfl, ⟨A3, c3, rfl, r3⟩, ⟨A4, c4, rfl, r4⟩⟩ := q6
    have HO2 := Lib.hid (HO.out.later hb)
    obtain ⟨o0, o1, o2, p0, p1, p2⟩ := HO2.out.cells
    have HW := Lib.hid (raft HB.out hb)
    have R3 := Lib.hid r3
    have R4 := Lib.hid r4
    clear r3 r4 hb
    go_wp2
    refine bodyPost_ret (v := .agg #[.bool (sg), .slice A3 (dig (nn)).length c3, .slice A4 (dig (dd)).length c4]) (by simp [results, Try.results70, go_sem, o0, o1, o2]) rfl ?_
    exact ⟨_, rfl, ⟨_, _, rfl, ⟨A3, c3, rfl, R3.out.put3 HO2.out _ _ _⟩, ⟨A4, c4, rfl, R4.out.put3 HO2.out _ _ _⟩⟩, put3_below HW.out (by omega) _ _ _⟩
  · have HST := Lib.hid hst
    have hne : s ≠ t := by rcases hst with ⟨rfl, rfl⟩ | ⟨rfl, rfl⟩ <;> simp
    have hbb : (s == t) = false := by rcases hst with ⟨rfl, rfl⟩ | ⟨rfl, rfl⟩ <;> rfl
    have HNE := Lib.hid hne
    clear hst hne
    by_cases hle : y ≤ x
    · have hadd : addS s x t y = (s, x - y) := by simp [addS, HNE.out, hle]
      rw [hadd]
      clear hadd
      dsimp only
      obtain ⟨sg, hsg⟩ : ∃ b, (s && decide ((x - y) ≠ 0)) = b := ⟨_, rfl⟩
      obtain ⟨nn, hnn⟩ : ∃ n, fracN ((x - y)) (z) 0 = n := ⟨_, rfl⟩
      obtain ⟨dd, hdd⟩ : ∃ n, fracD ((x - y)) (z) 0 = n := ⟨_, rfl⟩
      rw [hsg, hnn, hdd]
      have HE := Lib.hid (And.intro hsg (And.intro hnn hdd))
      clear hsg hnn hdd
      have HLE := Lib.hid hle
      have HL2 : Hid ((dig (x - y)).length ≤ 17592186044000) := Lib.hid (Nat.le_trans (dig_length_mono (Nat.sub_le x y)) HL.out.1)
      have hc : 0 ≤ cmp x y := by unfold cmp; split <;> (try split) <;> omega
      have hc2 : cmp x y ≤ 1 := by unfold cmp; split <;> (try split) <;> omega
      obtain ⟨q, hq⟩ : ∃ q, cmp x y = q := ⟨_, rfl⟩
      rw [hq] at hc hc2
      have HQ := Lib.hid hq
      clear hle hq
      obtain ⟨k0, k1, k2⟩ := HC.out.cells
      obtain ⟨l0, l1, l2⟩ := HD.out.cells
      go_enter Try.func70, Try.ntmps70
      go_wp2_with fail
      refine (times_is HA1.out HB2.out (by have := H1.out; omega)).mono ?_
      rintro en w1 ⟨v1, rfl, hv, hb⟩
      have HB := Lib.hid (raft HB.out hb)
      have HC := Lib.hid (HC.out.later hb)
      have HD := Lib.hid (HD.out.later hb)
      have HO := Lib.hid (HO.out.later hb)
      have HA1 := Lib.hid (IsL.mono _ _ _ _ hb HA1.out)
      have HA2 := Lib.hid (IsL.mono _ _ _ _ hb HA2.out)
      have HB1 := Lib.hid (IsL.mono _ _ _ _ hb HB1.out)
      have HB2 := Lib.hid (IsL.mono _ _ _ _ hb HB2.out)
      have Hv1 : Hid (IsN x v1 w1) := by rw [HX.out] at hv; exact Lib.hid hv
      clear hv hb
      clear k0 k1 k2 l0 l1 l2
      obtain ⟨k0, k1, k2⟩ := HC.out.cells
      obtain ⟨l0, l1, l2⟩ := HD.out.cells
      go_wp2_with fail
      refine (times_is HB1.out HA2.out (by have := H1.out; omega)).mono ?_
      rintro en w2 ⟨v2, rfl, hv, hb⟩
      have HB := Lib.hid (raft HB.out hb)
      have HC := Lib.hid (HC.out.later hb)
      have HD := Lib.hid (HD.out.later hb)
      have HO := Lib.hid (HO.out.later hb)
      have HA1 := Lib.hid (IsL.mono _ _ _ _ hb HA1.out)
      have HA2 := Lib.hid (IsL.mono _ _ _ _ hb HA2.out)
      have HB1 := Lib.hid (IsL.mono _ _ _ _ hb HB1.out)
      have HB2 := Lib.hid (IsL.mono _ _ _ _ hb HB2.out)
      have Hv1 := Lib.hid (IsL.mono _ _ _ _ hb Hv1.out)
      have Hv2 : Hid (IsN y v2 w2) := by rw [HY.out] at hv; exact Lib.hid hv
      clear hv hb
      clear k0 k1 k2 l0 l1 l2
      obtain ⟨k0, k1, k2⟩ := HC.out.cells
      obtain ⟨l0, l1, l2⟩ := HD.out.cells
      go_wp2_with fail
      refine (times_is HA2.out HB2.out (by have := H1.out; omega)).mono ?_
      rintro en w3 ⟨v3, rfl, hv, hb⟩
      have HB := Lib.hid (raft HB.out hb)
      have HC := Lib.hid (HC.out.later hb)
      have HD := Lib.hid (HD.out.later hb)
      have HO := Lib.hid (HO.out.later hb)
      have HA1 := Lib.hid (IsL.mono _ _ _ _ hb HA1.out)
      have HA2 := Lib.hid (IsL.mono _ _ _ _ hb HA2.out)
      have HB1 := Lib.hid (IsL.mono _ _ _ _ hb HB1.out)
      have HB2 := Lib.hid (IsL.mono _ _ _ _ hb HB2.out)
      have Hv1 := Lib.hid (IsL.mono _ _ _ _ hb Hv1.out)
      have Hv2 := Lib.hid (IsL.mono _ _ _ _ hb Hv2.out)
      have Hv3 : Hid (IsN z v3 w3) := by rw [HZ.out] at hv; exact Lib.hid hv
      clear hv hb
      clear k0 k1 k2 l0 l1 l2
      obtain ⟨k0, k1, k2⟩ := HC.out.cells
      obtain ⟨l0, l1, l2⟩ := HD.out.cells
      clear HX HY HZ HA1 HA2 HB1 HB2 HW0 H1
      go_wp2_with fail
      refine (cmp_is Hv1.out Hv2.out (by have := HL.out; omega) (by have := HL.out; omega)).mono ?_
      rw [val_dig, val_dig, HQ.out]
      rintro en w4 ⟨_, rfl, rfl, hb⟩
      have HB := Lib.hid (raft HB.out hb)
      have HC := Lib.hid (HC.out.later hb)
      have HD := Lib.hid (HD.out.later hb)
      have HO := Lib.hid (HO.out.later hb)
      have Hv1 := Lib.hid (IsL.mono _ _ _ _ hb Hv1.out)
      have Hv2 := Lib.hid (IsL.mono _ _ _ _ hb Hv2.out)
      have Hv3 := Lib.hid (IsL.mono _ _ _ _ hb Hv3.out)
      clear hb k0 k1 k2 l0 l1 l2
      go_wp2_with fail
      refine region_at 7 (Pick [IsV (.pointer (some ⟨w.heap.size, 0, none⟩)), IsV (.bool s), IsV (v1), IsV (v2), IsN (x - y), IsV (v3), IsQ sg nn dd]) (by kernel_rfl) (by kernel_rfl) (by kernel_rfl) (mono_pick ⟨IsV.mono _, IsV.mono _, IsV.mono _, IsV.mono _, IsN.mono _, IsV.mono _, IsQ.mono _ _ _, trivial⟩) ⟨?_, ?_, ?_, ?_, ?_, ?_, ?_, trivial⟩ ?_
      · intro a W hsz hb hS
        have h2 : a.tmps.getD 2 undef = .pointer (some ⟨w.heap.size, 0, none⟩) := hS.1
        clear hS hsz
        refine will_of rfl ?_
        intro K hK
        go_simp
        exact hK _ _ ⟨Below.refl _ _, rfl⟩
      · intro a W hsz hb hS
        have h39 : a.tmps.getD 39 undef = .pointer (some ⟨w.heap.size, 0, none⟩) := hS.1
        clear hS hsz
        refine will_of rfl ?_
        obtain ⟨k0, k1, k2⟩ := (HC.out.later hb).cells
        obtain ⟨l0, l1, l2⟩ := (HD.out.later hb).cells
        intro K hK
        go_simp
        exact hK _ _ ⟨Below.refl _ _, rfl⟩
      · intro a W hsz hb hS
        have h5 : a.tmps.getD 5 undef = v1 := hS.1
        clear hS hsz
        refine will_of rfl ?_
        intro K hK
        go_simp
        exact hK _ _ ⟨Below.refl _ _, rfl⟩
      · intro a W hsz hb hS
        have h6 : a.tmps.getD 6 undef = v2 := hS.1
        clear hS hsz
        refine will_of rfl ?_
        intro K hK
        go_simp
        exact hK _ _ ⟨Below.refl _ _, rfl⟩
      · intro a W hsz hb hS
        have h41 : a.tmps.getD 41 undef = v1 := hS.1
        have h42 : a.tmps.getD 42 undef = v2 := hS.2.1
        clear hS hsz
        refine will_of rfl ?_
        obtain ⟨k0, k1, k2⟩ := (HC.out.later hb).cells
        obtain ⟨l0, l1, l2⟩ := (HD.out.later hb).cells
        intro K hK
        go_simp
        have hq := minus_is (IsL.mono _ _ _ _ hb Hv1.out) (IsL.mono _ _ _ _ hb Hv2.out) (by have := HL.out; omega) (by rw [val_dig, val_dig]; exact HLE.out)
        rw [val_dig, val_dig] at hq
        (with_reducible refine hq.mono ?_)
        rintro e W' ⟨v, rfl, hv, hb'⟩
        exact hK _ _ ⟨hb', hv⟩
      · intro a W hsz hb hS
        have h7 : a.tmps.getD 7 undef = v3 := hS.1
        clear hS hsz
        refine will_of rfl ?_
        intro K hK
        go_simp
        exact hK _ _ ⟨Below.refl _ _, rfl⟩
      · intro a W hsz hb hS
        have h40 : a.tmps.getD 40 undef = .bool s := hS.1
        have q43 : IsN (x - y) (a.tmps.getD 43 undef) W := hS.2.1
        have h44 : a.tmps.getD 44 undef = v3 := hS.2.2.1
        clear hS hsz
        obtain ⟨v43, h43⟩ : ∃ v, a.tmps.getD 43 undef = v := ⟨_, rfl⟩
        rw [h43] at q43
        refine will_of rfl ?_
        obtain ⟨k0, k1, k2⟩ := (HC.out.later hb).cells
        obtain ⟨l0, l1, l2⟩ := (HD.out.later hb).cells
        intro K hK
        go_simp
        have hq := frac_is s 0 q43 (IsL.mono _ _ _ _ hb Hv3.out) (by have := HL.out; have := HL2.out; omega) (by have := HL.out; omega)
        rw [val_dig, val_dig, HE.out.1, HE.out.2.1, HE.out.2.2] at hq
        (with_reducible refine hq.mono ?_)
        rintro e W' ⟨v, rfl, hv, hb'⟩
        exact hK _ _ ⟨hb', hv⟩
      intro f W hb hH
      have e0 : f 0 = .pointer (some ⟨w.heap.size, 0, none⟩) := hH.1
      have e1 : f 1 = .bool s := hH.2.1
      have e2 : f 2 = v1 := hH.2.2.1
      have e3 : f 3 = v2 := hH.2.2.2.1
      obtain ⟨x4, y4⟩ : ∃ x, f 4 = x := ⟨_, rfl⟩
      have q4 : IsN (x - y) (f 4) W := hH.2.2.2.2.1
      rw [y4] at q4
      have e5 : f 5 = v3 := hH.2.2.2.2.2.1
      obtain ⟨x6, y6⟩ : ∃ x, f 6 = x := ⟨_, rfl⟩
      have q6 : IsQ sg nn dd (f 6) W := hH.2.2.2.2.2.2.1
      rw [y6] at q6
      simp only [List.take_succ_cons, List.take_zero, List.drop_succ_cons, List.drop_zero, putFrom, Act.put, List.setIfInBounds_toArray, List.set_cons_zero, List.set_cons_succ, Nat.reduceAdd, e0, e1, e2, e3, y4, e5, y6]
      clear e0 e1 e2 e3 y4 e5 y6 hH f
      clear q4
      obtain ⟨_, _, rfl, ⟨A3, c3, rfl, r3⟩, ⟨A4, c4, rfl, r4⟩⟩ := q6
      have HO2 := Lib.hid (HO.out.later hb)
      obtain ⟨o0, o1, o2, p0, p1, p2⟩ := HO2.out.cells
      have HW := Lib.hid (raft HB.out hb)
      have R3 := Lib.hid r3
      have R4 := Lib.hid r4
      clear r3 r4 hb
      go_wp2
      refine bodyPost_ret (v := .agg #[.bool (sg), .slice A3 (dig (nn)).length c3, .slice A4 (dig (dd)).length c4]) (by simp [results, Try.results70, go_sem, o0, o1, o2]) rfl ?_
      exact ⟨_, rfl, ⟨_, _, rfl, ⟨A3, c3, rfl, R3.out.put3 HO2.out _ _ _⟩, ⟨A4, c4, rfl, R4.out.put3 HO2.out _ _ _⟩⟩, put3_below HW.out (by omega) _ _ _⟩
    · have hadd : addS s x t y = (t, y - x) := by simp [addS, HNE.out, hle]
      rw [hadd]
      clear hadd
      dsimp only
      obtain ⟨sg, hsg⟩ : ∃ b, (t && decide ((y - x) ≠ 0)) = b := ⟨_, rfl⟩
      obtain ⟨nn, hnn⟩ : ∃ n, fracN ((y - x)) (z) 0 = n := ⟨_, rfl⟩
      obtain ⟨dd, hdd⟩ : ∃ n, fracD ((y - x)) (z) 0 = n := ⟨_, rfl⟩
      rw [hsg, hnn, hdd]
      have HE := Lib.hid (And.intro hsg (And.intro hnn hdd))
      clear hsg hnn hdd
      have HLE : Hid (x ≤ y) := Lib.hid (by omega)
      have HL2 : Hid ((dig (y - x)).length ≤ 17592186044000) := Lib.hid (Nat.le_trans (dig_length_mono (Nat.sub_le y x)) HL.out.2.1)
      have hc : cmp x y < 0 := by unfold cmp; rw [if_pos (by omega)]; omega
      have hc2 : -1 ≤ cmp x y := by unfold cmp; split <;> (try split) <;> omega
      obtain ⟨q, hq⟩ : ∃ q, cmp x y = q := ⟨_, rfl⟩
      rw [hq] at hc hc2
      have HQ := Lib.hid hq
      clear hle hq
      obtain ⟨k0, k1, k2⟩ := HC.out.cells
      obtain ⟨l0, l1, l2⟩ := HD.out.cells
      go_enter Try.func70, Try.ntmps70
      go_wp2_with fail
      refine (times_is HA1.out HB2.out (by have := H1.out; omega)).mono ?_
      rintro en w1 ⟨v1, rfl, hv, hb⟩
      have HB := Lib.hid (raft HB.out hb)
      have HC := Lib.hid (HC.out.later hb)
      have HD := Lib.hid (HD.out.later hb)
      have HO := Lib.hid (HO.out.later hb)
      have HA1 := Lib.hid (IsL.mono _ _ _ _ hb HA1.out)
      have HA2 := Lib.hid (IsL.mono _ _ _ _ hb HA2.out)
      have HB1 := Lib.hid (IsL.mono _ _ _ _ hb HB1.out)
      have HB2 := Lib.hid (IsL.mono _ _ _ _ hb HB2.out)
      have Hv1 : Hid (IsN x v1 w1) := by rw [HX.out] at hv; exact Lib.hid hv
      clear hv hb
      clear k0 k1 k2 l0 l1 l2
      obtain ⟨k0, k1, k2⟩ := HC.out.cells
      obtain ⟨l0, l1, l2⟩ := HD.out.cells
      go_wp2_with fail
      refine (times_is HB1.out HA2.out (by have := H1.out; omega)).mono ?_
      rintro en w2 ⟨v2, rfl, hv, hb⟩
      have HB := Lib.hid (raft HB.out hb)
      have HC := Lib.hid (HC.out.later hb)
      have HD := Lib.hid (HD.out.later hb)
      have HO := Lib.hid (HO.out.later hb)
      have HA1 := Lib.hid (IsL.mono _ _ _ _ hb HA1.out)
      have HA2 := Lib.hid (IsL.mono _ _ _ _ hb HA2.out)
      have HB1 := Lib.hid (IsL.mono _ _ _ _ hb HB1.out)
      have HB2 := Lib.hid (IsL.mono _ _ _ _ hb HB2.out)
      have Hv1 := Lib.hid (IsL.mono _ _ _ _ hb Hv1.out)
      have Hv2 : Hid (IsN y v2 w2) := by rw [HY.out] at hv; exact Lib.hid hv
      clear hv hb
      clear k0 k1 k2 l0 l1 l2
      obtain ⟨k0, k1, k2⟩ := HC.out.cells
      obtain ⟨l0, l1, l2⟩ := HD.out.cells
      go_wp2_with fail
      refine (times_is HA2.out HB2.out (by have := H1.out; omega)).mono ?_
      rintro en w3 ⟨v3, rfl, hv, hb⟩
      have HB := Lib.hid (raft HB.out hb)
      have HC := Lib.hid (HC.out.later hb)
      have HD := Lib.hid (HD.out.later hb)
      have HO := Lib.hid (HO.out.later hb)
      have HA1 := Lib.hid (IsL.mono _ _ _ _ hb HA1.out)
      have HA2 := Lib.hid (IsL.mono _ _ _ _ hb HA2.out)
      have HB1 := Lib.hid (IsL.mono _ _ _ _ hb HB1.out)
      have HB2 := Lib.hid (IsL.mono _ _ _ _ hb HB2.out)
      have Hv1 := Lib.hid (IsL.mono _ _ _ _ hb Hv1.out)
      have Hv2 := Lib.hid (IsL.mono _ _ _ _ hb Hv2.out)
      have Hv3 : Hid (IsN z v3 w3) := by rw [HZ.out] at hv; exact Lib.hid hv
      clear hv hb
      clear k0 k1 k2 l0 l1 l2
      obtain ⟨k0, k1, k2⟩ := HC.out.cells
      obtain ⟨l0, l1, l2⟩ := HD.out.cells
      clear HX HY HZ HA1 HA2 HB1 HB2 HW0 H1
      go_wp2_with fail
      refine (cmp_is Hv1.out Hv2.out (by have := HL.out; omega) (by have := HL.out; omega)).mono ?_
      rw [val_dig, val_dig, HQ.out]
      rintro en w4 ⟨_, rfl, rfl, hb⟩
      have HB := Lib.hid (raft HB.out hb)
      have HC := Lib.hid (HC.out.later hb)
      have HD := Lib.hid (HD.out.later hb)
      have HO := Lib.hid (HO.out.later hb)
      have Hv1 := Lib.hid (IsL.mono _ _ _ _ hb Hv1.out)
      have Hv2 := Lib.hid (IsL.mono _ _ _ _ hb Hv2.out)
      have Hv3 := Lib.hid (IsL.mono _ _ _ _ hb Hv3.out)
      clear hb k0 k1 k2 l0 l1 l2
      go_wp2_with fail
      refine region_at 7 (Pick [IsV (.pointer (some ⟨w.heap.size + 1, 0, none⟩)), IsV (.bool t), IsV (v2), IsV (v1), IsN (y - x), IsV (v3), IsQ sg nn dd]) (by kernel_rfl) (by kernel_rfl) (by kernel_rfl) (mono_pick ⟨IsV.mono _, IsV.mono _, IsV.mono _, IsV.mono _, IsN.mono _, IsV.mono _, IsQ.mono _ _ _, trivial⟩) ⟨?_, ?_, ?_, ?_, ?_, ?_, ?_, trivial⟩ ?_
      · intro a W hsz hb hS
        have h3 : a.tmps.getD 3 undef = .pointer (some ⟨w.heap.size + 1, 0, none⟩) := hS.1
        clear hS hsz
        refine will_of rfl ?_
        intro K hK
        go_simp
        exact hK _ _ ⟨Below.refl _ _, rfl⟩
      · intro a W hsz hb hS
        have h46 : a.tmps.getD 46 undef = .pointer (some ⟨w.heap.size + 1, 0, none⟩) := hS.1
        clear hS hsz
        refine will_of rfl ?_
        obtain ⟨k0, k1, k2⟩ := (HC.out.later hb).cells
        obtain ⟨l0, l1, l2⟩ := (HD.out.later hb).cells
        intro K hK
        go_simp
        exact hK _ _ ⟨Below.refl _ _, rfl⟩
      · intro a W hsz hb hS
        have h6 : a.tmps.getD 6 undef = v2 := hS.1
        clear hS hsz
        refine will_of rfl ?_
        intro K hK
        go_simp
        exact hK _ _ ⟨Below.refl _ _, rfl⟩
      · intro a W hsz hb hS
        have h5 : a.tmps.getD 5 undef = v1 := hS.1
        clear hS hsz
        refine will_of rfl ?_
        intro K hK
        go_simp
        exact hK _ _ ⟨Below.refl _ _, rfl⟩
      · intro a W hsz hb hS
        have h48 : a.tmps.getD 48 undef = v2 := hS.1
        have h49 : a.tmps.getD 49 undef = v1 := hS.2.1
        clear hS hsz
        refine will_of rfl ?_
        obtain ⟨k0, k1, k2⟩ := (HC.out.later hb).cells
        obtain ⟨l0, l1, l2⟩ := (HD.out.later hb).cells
        intro K hK
        go_simp
        have hq := minus_is (IsL.mono _ _ _ _ hb Hv2.out) (IsL.mono _ _ _ _ hb Hv1.out) (by have := HL.out; omega) (by rw [val_dig, val_dig]; exact HLE.out)
        rw [val_dig, val_dig] at hq
        (with_reducible refine hq.mono ?_)
        rintro e W' ⟨v, rfl, hv, hb'⟩
        exact hK _ _ ⟨hb', hv⟩
      · intro a W hsz hb hS
        have h7 : a.tmps.getD 7 undef = v3 := hS.1
        clear hS hsz
        refine will_of rfl ?_
        intro K hK
        go_simp
        exact hK _ _ ⟨Below.refl _ _, rfl⟩
      · intro a W hsz hb hS
        have h47 : a.tmps.getD 47 undef = .bool t := hS.1
        have q50 : IsN (y - x) (a.tmps.getD 50 undef) W := hS.2.1
        have h51 : a.tmps.getD 51 undef = v3 := hS.2.2.1
        clear hS hsz
        obtain ⟨v50, h50⟩ : ∃ v, a.tmps.getD 50 undef = v := ⟨_, rfl⟩
        rw [h50] at q50
        refine will_of rfl ?_
        obtain ⟨k0, k1, k2⟩ := (HC.out.later hb).cells
        obtain ⟨l0, l1, l2⟩ := (HD.out.later hb).cells
        intro K hK
        go_simp
        have hq := frac_is t 0 q50 (IsL.mono _ _ _ _ hb Hv3.out) (by have := HL.out; have := HL2.out; omega) (by have := HL.out; omega)
        rw [val_dig, val_dig, HE.out.1, HE.out.2.1, HE.out.2.2] at hq
        (with_reducible refine hq.mono ?_)
        rintro e W' ⟨v, rfl, hv, hb'⟩
        exact hK _ _ ⟨hb', hv⟩
      intro f W hb hH
      have e0 : f 0 = .pointer (some ⟨w.heap.size + 1, 0, none⟩) := hH.1
      have e1 : f 1 = .bool t := hH.2.1
      have e2 : f 2 = v2 := hH.2.2.1
      have e3 : f 3 = v1 := hH.2.2.2.1
      obtain ⟨x4, y4⟩ : ∃ x, f 4 = x := ⟨_, rfl⟩
      have q4 : IsN (y - x) (f 4) W := hH.2.2.2.2.1
      rw [y4] at q4
      have e5 : f 5 = v3 := hH.2.2.2.2.2.1
      obtain ⟨x6, y6⟩ : ∃ x, f 6 = x := ⟨_, rfl⟩
      have q6 : IsQ sg nn dd (f 6) W := hH.2.2.2.2.2.2.1
      rw [y6] at q6
      simp only [List.take_succ_cons, List.take_zero, List.drop_succ_cons, List.drop_zero, putFrom, Act.put, List.setIfInBounds_toArray, List.set_cons_zero, List.set_cons_succ, Nat.reduceAdd, e0, e1, e2, e3, y4, e5, y6]
      clear e0 e1 e2 e3 y4 e5 y6 hH f
      clear q4
      obtain ⟨_, _, rfl, ⟨A3, c3, rfl, r3⟩, ⟨A4, c4, rfl, r4⟩⟩ := q6
      have HO2 := Lib.hid (HO.out.later hb)
      obtain ⟨o0, o1, o2, p0, p1, p2⟩ := HO2.out.cells
      have HW := Lib.hid (raft HB.out hb)
      have R3 := Lib.hid r3
      have R4 := Lib.hid r4
      clear r3 r4 hb
      go_wp2
      refine bodyPost_ret (v := .agg #[.bool (sg), .slice A3 (dig (nn)).length c3, .slice A4 (dig (dd)).length c4]) (by simp [results, Try.results70, go_sem, o0, o1, o2]) rfl ?_
      exact ⟨_, rfl, ⟨_, _, rfl, ⟨A3, c3, rfl, R3.out.put3 HO2.out _ _ _⟩, ⟨A4, c4, rfl, R4.out.put3 HO2.out _ _ _⟩⟩, put3_below HW.out (by omega) _ _ _⟩
set_option maxRecDepth 20000 in
set_option maxHeartbeats 4000000 in
theorem rsub_is (ha : IsR s X Y va w) (hb : IsR t U V vb w) (h1 : X.length ≤ 8796093022000) (h2 : Y.length ≤ 8796093022000) (h3 : U.length ≤ 8796093022000) (h4 : V.length ≤ 8796093022000) :
    Calls Try.prog 76 #[va, vb] w (Ans w (IsQ ((addS s (val X * val V) (!t && decide (0 < U.length)) (val U * val Y)).1 && decide ((addS s (val X * val V) (!t && decide (0 < U.length)) (val U * val Y)).2 ≠ 0)) (fracN (addS s (val X * val V) (!t && decide (0 < U.length)) (val U * val Y)).2 (val Y * val V) 0) (fracD (addS s (val X * val V) (!t && decide (0 < U.length)) (val U * val Y)).2 (val Y * val V) 0))) := by
  obtain ⟨va1, va2, rfl, ha1, ha2⟩ := ha
  obtain ⟨vb1, vb2, rfl, hb1, hb2⟩ := hb
  have HB := Lib.hid (raft (raft (rnew w (.cells #[.bool s, va1, va2] 35)) (rnew _ (.cells #[.bool t, vb1, vb2] 35))) (rnew _ ratO))
  have HC := Lib.hid ((Box3.new w (.bool s) va1 va2).later (raft (rnew _ (.cells #[.bool t, vb1, vb2] 35)) (rnew _ ratO)))
  have HD := Lib.hid ((Box3.new (w.alloc (.cells #[.bool s, va1, va2] 35)) (.bool t) vb1 vb2).later (rnew _ ratO))
  have HO := Lib.hid (Box.new ((w.alloc (.cells #[.bool s, va1, va2] 35)).alloc (.cells #[.bool t, vb1, vb2] 35)))
  rw [show (w.alloc (.cells #[.bool s, va1, va2] 35)).heap.size = w.heap.size + 1 by simp] at HD
  rw [show ((w.alloc (.cells #[.bool s, va1, va2] 35)).alloc (.cells #[.bool t, vb1, vb2] 35)).heap.size = w.heap.size + 2 by simp] at HO
  have HA1 := Lib.hid (IsL.mono _ _ _ _ HB.out ha1)
  have HA2 := Lib.hid (IsL.mono _ _ _ _ HB.out ha2)
  have HB1 := Lib.hid (IsL.mono _ _ _ _ HB.out hb1)
  have HB2 := Lib.hid (IsL.mono _ _ _ _ HB.out hb2)
  have HW0 := Lib.hid (And.intro ha1.words (And.intro ha2.words (And.intro hb1.words hb2.words)))
  have H1 := Lib.hid (And.intro h1 (And.intro h2 (And.intro h3 h4)))
  obtain ⟨A, c, rfl, _⟩ := ha1
  obtain ⟨A', c', rfl, _⟩ := ha2
  obtain ⟨B, d, rfl, _⟩ := hb1
  obtain ⟨B', d', rfl, _⟩ := hb2
  clear h1 h2 h3 h4
  have HL : Hid ((dig (val U)).length ≤ 8796093022000 ∧ (dig (val V)).length ≤ 8796093022000) := by
    have e3 := wl_eq HW0.out.2.2.1
    have e4 := wl_eq HW0.out.2.2.2
    have := H1.out
    have := wl_le U
    have := wl_le V
    exact Lib.hid ⟨by omega, by omega⟩
  obtain ⟨sg, hsg⟩ : ∃ b, ((addS s (val X * val V) (!t && decide (0 < U.length)) (val U * val Y)).1 && decide ((addS s (val X * val V) (!t && decide (0 < U.length)) (val U * val Y)).2 ≠ 0)) = b := ⟨_, rfl⟩
  obtain ⟨nn, hnn⟩ : ∃ n, fracN (addS s (val X * val V) (!t && decide (0 < U.length)) (val U * val Y)).2 (val Y * val V) 0 = n := ⟨_, rfl⟩
  obtain ⟨dd, hdd⟩ : ∃ n, fracD (addS s (val X * val V) (!t && decide (0 < U.length)) (val U * val Y)).2 (val Y * val V) 0 = n := ⟨_, rfl⟩
  rw [hsg, hnn, hdd]
  have HE := Lib.hid (And.intro hsg (And.intro hnn hdd))
  clear hsg hnn hdd
  go_enter Try.func76, Try.ntmps76
  go_wp2_with fail
  refine region_at 4 (Pick [IsV (.agg #[.bool s, .slice A X.length c, .slice A' Y.length c']), IsV (.agg #[.bool t, .slice B U.length d, .slice B' V.length d']), IsQ (!t && decide (0 < U.length)) (val U) (val V), IsQ sg nn dd]) (by kernel_rfl) (by kernel_rfl) (by kernel_rfl) (mono_pick ⟨IsV.mono _, IsV.mono _, IsQ.mono _ _ _, IsQ.mono _ _ _, trivial⟩) ⟨?_, ?_, ?_, ?_, trivial⟩ ?_
  · intro a W hsz hb hS
    have h2 : a.tmps.getD 2 undef = .pointer (some ⟨w.heap.size, 0, none⟩) := hS.1
    clear hS hsz
    refine will_of rfl ?_
    obtain ⟨k0, k1, k2⟩ := (HC.out.later hb).cells
    obtain ⟨l0, l1, l2⟩ := (HD.out.later hb).cells
    intro K hK
    go_simp
    exact hK _ _ ⟨Below.refl _ _, rfl⟩
  · intro a W hsz hb hS
    have h3 : a.tmps.getD 3 undef = .pointer (some ⟨w.heap.size + 1, 0, none⟩) := hS.1
    clear hS hsz
    refine will_of rfl ?_
    obtain ⟨k0, k1, k2⟩ := (HC.out.later hb).cells
    obtain ⟨l0, l1, l2⟩ := (HD.out.later hb).cells
    intro K hK
    go_simp
    exact hK _ _ ⟨Below.refl _ _, rfl⟩
  · intro a W hsz hb hS
    have h6 : a.tmps.getD 6 undef = .agg #[.bool t, .slice B U.length d, .slice B' V.length d'] := hS.1
    clear hS hsz
    refine will_of rfl ?_
    obtain ⟨k0, k1, k2⟩ := (HC.out.later hb).cells
    obtain ⟨l0, l1, l2⟩ := (HD.out.later hb).cells
    intro K hK
    go_simp
    refine (rneg_is t U V _ _ W (IsL.mono _ _ _ _ hb HB1.out) (IsL.mono _ _ _ _ hb HB2.out) (by have := H1.out; omega) (by have := H1.out; omega)).mono ?_
    rintro e W' ⟨v, rfl, hv, hb'⟩
    exact hK _ _ ⟨hb', hv⟩
  · intro a W hsz hb hS
    have h5 : a.tmps.getD 5 undef = .agg #[.bool s, .slice A X.length c, .slice A' Y.length c'] := hS.1
    have q7 : IsQ (!t && decide (0 < U.length)) (val U) (val V) (a.tmps.getD 7 undef) W := hS.2.1
    clear hS hsz
    obtain ⟨v7, h7⟩ : ∃ v, a.tmps.getD 7 undef = v := ⟨_, rfl⟩
    rw [h7] at q7
    refine will_of rfl ?_
    obtain ⟨k0, k1, k2⟩ := (HC.out.later hb).cells
    obtain ⟨l0, l1, l2⟩ := (HD.out.later hb).cells
    intro K hK
    go_simp
    have hq := radd_is (s := s) (w := W) ⟨_, _, rfl, IsL.mono _ _ _ _ hb HA1.out, IsL.mono _ _ _ _ hb HA2.out⟩ q7 (by have := H1.out; omega) (by have := H1.out; omega) (by have := HL.out; omega) (by have := HL.out; omega)
    rw [val_dig, val_dig, HE.out.1, HE.out.2.1, HE.out.2.2] at hq
    (with_reducible refine hq.mono ?_)
    rintro e W' ⟨v, rfl, hv, hb'⟩
    exact hK _ _ ⟨hb', hv⟩
  intro f W hb hH
  have e0 : f 0 = .agg #[.bool s, .slice A X.length c, .slice A' Y.length c'] := hH.1
  have e1 : f 1 = .agg #[.bool t, .slice B U.length d, .slice B' V.length d'] := hH.2.1
  obtain ⟨x2, y2⟩ : ∃ x, f 2 = x := ⟨_, rfl⟩
  have q2 : IsQ (!t && decide (0 < U.length)) (val U) (val V) (f 2) W := hH.2.2.1
  rw [y2] at q2
  obtain ⟨x3, y3⟩ : ∃ x, f 3 = x := ⟨_, rfl⟩
  have q3 : IsQ sg nn dd (f 3) W := hH.2.2.2.1
  rw [y3] at q3
  simp only [List.take_succ_cons, List.take_zero, List.drop_succ_cons, List.drop_zero, putFrom, Act.put, List.setIfInBounds_toArray, List.set_cons_zero, List.set_cons_succ, Nat.reduceAdd, e0, e1, y2, y3]
  clear e0 e1 y2 y3 hH f
  clear q2
  obtain ⟨_, _, rfl, ⟨A3, c3, rfl, r3⟩, ⟨A4, c4, rfl, r4⟩⟩ := q3
  have HO2 := Lib.hid (HO.out.later hb)
  obtain ⟨o0, o1, o2, p0, p1, p2⟩ := HO2.out.cells
  have HW := Lib.hid (raft HB.out hb)
  have R3 := Lib.hid r3
  have R4 := Lib.hid r4
  clear r3 r4 hb
  go_wp2
  refine bodyPost_ret (v := .agg #[.bool (sg), .slice A3 (dig (nn)).length c3, .slice A4 (dig (dd)).length c4]) (by simp [results, Try.results76, go_sem, o0, o1, o2]) rfl ?_
  exact ⟨_, rfl, ⟨_, _, rfl, ⟨A3, c3, rfl, R3.out.put3 HO2.out _ _ _⟩, ⟨A4, c4, rfl, R4.out.put3 HO2.out _ _ _⟩⟩, put3_below HW.out (by omega) _ _ _⟩
end
end Go.Proofs.Ytmmbbkeefphaiaa
