/- Contracts of vergeref2's ratios: RNeg. -/
import Derived.Test.YtcomkgmonhidhaaGreatDoorG14
import Derived.Test.YtcomkgmonhidhaaGreatDoorG15
namespace Go.Proofs.YtcomkgmonhidhaaGreatDoor
set_option linter.unusedVariables false
set_option linter.unusedSimpArgs false
open Go.RowKit Verge

section
variable (s : Bool) (X Y : List Nat) (va vb : Value) (w : World)
end
end Go.Proofs.YtcomkgmonhidhaaGreatDoor

/- Contracts of vergeref2's ratios: RAdd, RSub, RMul, RQuo. -/
namespace Go.Proofs.YtcomkgmonhidhaaGreatDoor
set_option linter.unusedVariables false
set_option linter.unusedSimpArgs false
open Go.RowKit Verge

/-- The sum of two signed numbers: its sign and its size. -/
def addS (s : Bool) (x : Nat) (t : Bool) (y : Nat) : Bool × Nat := if s = t then (s, x + y) else if y ≤ x then (s, x - y) else (t, y - x)

section
variable {s t : Bool} {X Y U V : List Nat} {va vb : Value} {w : World}

set_option maxRecDepth 20000 in
set_option maxHeartbeats 4000000 in
theorem rquo_is (ha : IsR s X Y va w) (hb : IsR t U V vb w) (h1 : X.length ≤ 8796093022000) (h2 : Y.length ≤ 8796093022000) (h3 : U.length ≤ 8796093022000) (h4 : V.length ≤ 8796093022000) :
    Calls Tryz.prog 76 #[va, vb] w (Ans w (IsQ ((s != t) && decide (val X * val V ≠ 0)) (fracN (val X * val V) (val Y * val U) 0) (fracD (val X * val V) (val Y * val U) 0))) := by
  obtain ⟨va1, va2, rfl, ha1, ha2⟩ := ha
  obtain ⟨vb1, vb2, rfl, hb1, hb2⟩ := hb
  have HB := Lib.hid (raft (raft (rnew w (.cells #[.bool s, va1, va2] 70)) (rnew _ (.cells #[.bool t, vb1, vb2] 70))) (rnew _ ratO))
  have HC := Lib.hid ((Box3.new w (.bool s) va1 va2).later (raft (rnew _ (.cells #[.bool t, vb1, vb2] 70)) (rnew _ ratO)))
  have HD := Lib.hid ((Box3.new (w.alloc (.cells #[.bool s, va1, va2] 70)) (.bool t) vb1 vb2).later (rnew _ ratO))
  have HO := Lib.hid (Box.new ((w.alloc (.cells #[.bool s, va1, va2] 70)).alloc (.cells #[.bool t, vb1, vb2] 70)))
  rw [show (w.alloc (.cells #[.bool s, va1, va2] 70)).heap.size = w.heap.size + 1 by simp] at HD
  rw [show ((w.alloc (.cells #[.bool s, va1, va2] 70)).alloc (.cells #[.bool t, vb1, vb2] 70)).heap.size = w.heap.size + 2 by simp] at HO
  have HA1 := Lib.hid (IsL.mono _ _ _ _ HB.out ha1)
  have HA2 := Lib.hid (IsL.mono _ _ _ _ HB.out ha2)
  have HB1 := Lib.hid (IsL.mono _ _ _ _ HB.out hb1)
  have HB2 := Lib.hid (IsL.mono _ _ _ _ HB.out hb2)
  have HW0 := Lib.hid (And.intro ha1.words (And.intro ha2.words (And.intro hb1.words hb2.words)))
  have H1 := Lib.hid (And.intro h1 (And.intro h2 (And.intro h3 h4)))
  obtain ⟨A, c, rfl, _⟩ := ha1
  obtain ⟨A', c', rfl, _⟩ := ha2
  obtain ⟨B, d, rfl, _⟩ := hb1
  obtain ⟨B', d', rfl, _⟩ := hb2
  clear h1 h2 h3 h4
  obtain ⟨m, hm⟩ : ∃ m, val X * val V = m := ⟨_, rfl⟩
  obtain ⟨l, hl⟩ : ∃ l, val Y * val U = l := ⟨_, rfl⟩
  have HL : Hid ((dig m).length ≤ 17592186044000 ∧ (dig l).length ≤ 17592186044000) := by
    have e1 := wl_eq HW0.out.1
    have e2 := wl_eq HW0.out.2.1
    have e3 := wl_eq HW0.out.2.2.1
    have e4 := wl_eq HW0.out.2.2.2
    have m1 := dig_mul_length (val X) (val V)
    have m2 := dig_mul_length (val Y) (val U)
    have := H1.out
    have := wl_le X
    have := wl_le Y
    have := wl_le U
    have := wl_le V
    rw [← hm, ← hl]
    exact Lib.hid ⟨by omega, by omega⟩
  rw [hm, hl]
  have HM := Lib.hid (And.intro hm hl)
  clear hm hl HW0
  obtain ⟨sx, hsx⟩ : ∃ b, (s != t) = b := ⟨_, rfl⟩
  rw [hsx]
  have HSX := Lib.hid hsx
  clear hsx
  obtain ⟨sg, hsg⟩ : ∃ b, (sx && decide (m ≠ 0)) = b := ⟨_, rfl⟩
  obtain ⟨nn, hnn⟩ : ∃ n, fracN (m) (l) 0 = n := ⟨_, rfl⟩
  obtain ⟨dd, hdd⟩ : ∃ n, fracD (m) (l) 0 = n := ⟨_, rfl⟩
  rw [hsg, hnn, hdd]
  have HE := Lib.hid (And.intro hsg (And.intro hnn hdd))
  clear hsg hnn hdd
  go_enter Tryz.func76, Tryz.ntmps76
  go_wp2_with fail
  refine region_at 16 (Pick [IsV (.pointer (some ⟨w.heap.size, 0, none⟩)), IsV (.bool s), IsV (.pointer (some ⟨w.heap.size + 1, 0, none⟩)), IsV (.bool t), IsV (.bool sx), IsV (.pointer (some ⟨w.heap.size, 1, none⟩)), IsV (.slice A X.length c), IsV (.pointer (some ⟨w.heap.size + 1, 2, none⟩)), IsV (.slice B' V.length d'), IsN m, IsV (.pointer (some ⟨w.heap.size, 2, none⟩)), IsV (.slice A' Y.length c'), IsV (.pointer (some ⟨w.heap.size + 1, 1, none⟩)), IsV (.slice B U.length d), IsN l, IsQ sg nn dd]) (by kernel_rfl) (by kernel_rfl) (by kernel_rfl) (mono_pick ⟨IsV.mono _, IsV.mono _, IsV.mono _, IsV.mono _, IsV.mono _, IsV.mono _, IsV.mono _, IsV.mono _, IsV.mono _, IsN.mono _, IsV.mono _, IsV.mono _, IsV.mono _, IsV.mono _, IsN.mono _, IsQ.mono _ _ _, trivial⟩) ⟨?_, ?_, ?_, ?_, ?_, ?_, ?_, ?_, ?_, ?_, ?_, ?_, ?_, ?_, ?_, ?_, trivial⟩ ?_
  · intro a W hsz hb hS
    have h2 : a.tmps.getD 2 undef = .pointer (some ⟨w.heap.size, 0, none⟩) := hS.1
    clear hS hsz
    refine will_of rfl ?_
    intro K hK
    go_simp
    exact hK _ _ ⟨Below.refl _ _, rfl⟩
  · intro a W hsz hb hS
    have h5 : a.tmps.getD 5 undef = .pointer (some ⟨w.heap.size, 0, none⟩) := hS.1
    clear hS hsz
    refine will_of rfl ?_
    obtain ⟨k0, k1, k2⟩ := (HC.out.later hb).cells
    obtain ⟨l0, l1, l2⟩ := (HD.out.later hb).cells
    intro K hK
    go_simp
    exact hK _ _ ⟨Below.refl _ _, rfl⟩
  · intro a W hsz hb hS
    have h3 : a.tmps.getD 3 undef = .pointer (some ⟨w.heap.size + 1, 0, none⟩) := hS.1
    clear hS hsz
    refine will_of rfl ?_
    intro K hK
    go_simp
    exact hK _ _ ⟨Below.refl _ _, rfl⟩
  · intro a W hsz hb hS
    have h7 : a.tmps.getD 7 undef = .pointer (some ⟨w.heap.size + 1, 0, none⟩) := hS.1
    clear hS hsz
    refine will_of rfl ?_
    obtain ⟨k0, k1, k2⟩ := (HC.out.later hb).cells
    obtain ⟨l0, l1, l2⟩ := (HD.out.later hb).cells
    intro K hK
    go_simp
    exact hK _ _ ⟨Below.refl _ _, rfl⟩
  · intro a W hsz hb hS
    have h6 : a.tmps.getD 6 undef = .bool s := hS.1
    have h8 : a.tmps.getD 8 undef = .bool t := hS.2.1
    clear hS hsz
    refine will_of rfl ?_
    intro K hK
    go_simp
    exact hK _ _ ⟨Below.refl _ _, by have := HSX.out; subst this; cases s <;> cases t <;> rfl⟩
  · intro a W hsz hb hS
    have h2 : a.tmps.getD 2 undef = .pointer (some ⟨w.heap.size, 0, none⟩) := hS.1
    clear hS hsz
    refine will_of rfl ?_
    intro K hK
    go_simp
    exact hK _ _ ⟨Below.refl _ _, rfl⟩
  · intro a W hsz hb hS
    have h10 : a.tmps.getD 10 undef = .pointer (some ⟨w.heap.size, 1, none⟩) := hS.1
    clear hS hsz
    refine will_of rfl ?_
    obtain ⟨k0, k1, k2⟩ := (HC.out.later hb).cells
    obtain ⟨l0, l1, l2⟩ := (HD.out.later hb).cells
    intro K hK
    go_simp
    exact hK _ _ ⟨Below.refl _ _, rfl⟩
  · intro a W hsz hb hS
    have h3 : a.tmps.getD 3 undef = .pointer (some ⟨w.heap.size + 1, 0, none⟩) := hS.1
    clear hS hsz
    refine will_of rfl ?_
    intro K hK
    go_simp
    exact hK _ _ ⟨Below.refl _ _, rfl⟩
  · intro a W hsz hb hS
    have h12 : a.tmps.getD 12 undef = .pointer (some ⟨w.heap.size + 1, 2, none⟩) := hS.1
    clear hS hsz
    refine will_of rfl ?_
    obtain ⟨k0, k1, k2⟩ := (HC.out.later hb).cells
    obtain ⟨l0, l1, l2⟩ := (HD.out.later hb).cells
    intro K hK
    go_simp
    exact hK _ _ ⟨Below.refl _ _, rfl⟩
  · intro a W hsz hb hS
    have h11 : a.tmps.getD 11 undef = .slice A X.length c := hS.1
    have h13 : a.tmps.getD 13 undef = .slice B' V.length d' := hS.2.1
    clear hS hsz
    refine will_of rfl ?_
    obtain ⟨k0, k1, k2⟩ := (HC.out.later hb).cells
    obtain ⟨l0, l1, l2⟩ := (HD.out.later hb).cells
    intro K hK
    go_simp
    have hq := times_is (IsL.mono _ _ _ _ hb HA1.out) (IsL.mono _ _ _ _ hb HB2.out) (by have := H1.out; omega)
    rw [HM.out.1] at hq
    (with_reducible refine hq.mono ?_)
    rintro e W' ⟨v, rfl, hv, hb'⟩
    exact hK _ _ ⟨hb', hv⟩
  · intro a W hsz hb hS
    have h2 : a.tmps.getD 2 undef = .pointer (some ⟨w.heap.size, 0, none⟩) := hS.1
    clear hS hsz
    refine will_of rfl ?_
    intro K hK
    go_simp
    exact hK _ _ ⟨Below.refl _ _, rfl⟩
  · intro a W hsz hb hS
    have h15 : a.tmps.getD 15 undef = .pointer (some ⟨w.heap.size, 2, none⟩) := hS.1
    clear hS hsz
    refine will_of rfl ?_
    obtain ⟨k0, k1, k2⟩ := (HC.out.later hb).cells
    obtain ⟨l0, l1, l2⟩ := (HD.out.later hb).cells
    intro K hK
    go_simp
    exact hK _ _ ⟨Below.refl _ _, rfl⟩
  · intro a W hsz hb hS
    have h3 : a.tmps.getD 3 undef = .pointer (some ⟨w.heap.size + 1, 0, none⟩) := hS.1
    clear hS hsz
    refine will_of rfl ?_
    intro K hK
    go_simp
    exact hK _ _ ⟨Below.refl _ _, rfl⟩
  · intro a W hsz hb hS
    have h17 : a.tmps.getD 17 undef = .pointer (some ⟨w.heap.size + 1, 1, none⟩) := hS.1
    clear hS hsz
    refine will_of rfl ?_
    obtain ⟨k0, k1, k2⟩ := (HC.out.later hb).cells
    obtain ⟨l0, l1, l2⟩ := (HD.out.later hb).cells
    intro K hK
    go_simp
    exact hK _ _ ⟨Below.refl _ _, rfl⟩
  · intro a W hsz hb hS
    have h16 : a.tmps.getD 16 undef = .slice A' Y.length c' := hS.1
    have h18 : a.tmps.getD 18 undef = .slice B U.length d := hS.2.1
    clear hS hsz
    refine will_of rfl ?_
    obtain ⟨k0, k1, k2⟩ := (HC.out.later hb).cells
    obtain ⟨l0, l1, l2⟩ := (HD.out.later hb).cells
    intro K hK
    go_simp
    have hq := times_is (IsL.mono _ _ _ _ hb HA2.out) (IsL.mono _ _ _ _ hb HB1.out) (by have := H1.out; omega)
    rw [HM.out.2] at hq
    (with_reducible refine hq.mono ?_)
    rintro e W' ⟨v, rfl, hv, hb'⟩
    exact hK _ _ ⟨hb', hv⟩
  · intro a W hsz hb hS
    have h9 : a.tmps.getD 9 undef = .bool sx := hS.1
    have q14 : IsN m (a.tmps.getD 14 undef) W := hS.2.1
    have q19 : IsN l (a.tmps.getD 19 undef) W := hS.2.2.1
    clear hS hsz
    obtain ⟨v14, h14⟩ : ∃ v, a.tmps.getD 14 undef = v := ⟨_, rfl⟩
    rw [h14] at q14
    obtain ⟨v19, h19⟩ : ∃ v, a.tmps.getD 19 undef = v := ⟨_, rfl⟩
    rw [h19] at q19
    refine will_of rfl ?_
    obtain ⟨k0, k1, k2⟩ := (HC.out.later hb).cells
    obtain ⟨l0, l1, l2⟩ := (HD.out.later hb).cells
    intro K hK
    go_simp
    have hq := frac_is sx 0 q14 q19 (by have := HL.out; omega) (by have := HL.out; omega)
    rw [val_dig, val_dig, HE.out.1, HE.out.2.1, HE.out.2.2] at hq
    (with_reducible refine hq.mono ?_)
    rintro e W' ⟨v, rfl, hv, hb'⟩
    exact hK _ _ ⟨hb', hv⟩
  intro f W hb hH
  have e0 : f 0 = .pointer (some ⟨w.heap.size, 0, none⟩) := hH.1
  have e1 : f 1 = .bool s := hH.2.1
  have e2 : f 2 = .pointer (some ⟨w.heap.size + 1, 0, none⟩) := hH.2.2.1
  have e3 : f 3 = .bool t := hH.2.2.2.1
  have e4 : f 4 = .bool sx := hH.2.2.2.2.1
  have e5 : f 5 = .pointer (some ⟨w.heap.size, 1, none⟩) := hH.2.2.2.2.2.1
  have e6 : f 6 = .slice A X.length c := hH.2.2.2.2.2.2.1
  have e7 : f 7 = .pointer (some ⟨w.heap.size + 1, 2, none⟩) := hH.2.2.2.2.2.2.2.1
  have e8 : f 8 = .slice B' V.length d' := hH.2.2.2.2.2.2.2.2.1
  obtain ⟨x9, y9⟩ : ∃ x, f 9 = x := ⟨_, rfl⟩
  have q9 : IsN m (f 9) W := hH.2.2.2.2.2.2.2.2.2.1
  rw [y9] at q9
  have e10 : f 10 = .pointer (some ⟨w.heap.size, 2, none⟩) := hH.2.2.2.2.2.2.2.2.2.2.1
  have e11 : f 11 = .slice A' Y.length c' := hH.2.2.2.2.2.2.2.2.2.2.2.1
  have e12 : f 12 = .pointer (some ⟨w.heap.size + 1, 1, none⟩) := hH.2.2.2.2.2.2.2.2.2.2.2.2.1
  have e13 : f 13 = .slice B U.length d := hH.2.2.2.2.2.2.2.2.2.2.2.2.2.1
  obtain ⟨x14, y14⟩ : ∃ x, f 14 = x := ⟨_, rfl⟩
  have q14 : IsN l (f 14) W := hH.2.2.2.2.2.2.2.2.2.2.2.2.2.2.1
  rw [y14] at q14
  obtain ⟨x15, y15⟩ : ∃ x, f 15 = x := ⟨_, rfl⟩
  have q15 : IsQ sg nn dd (f 15) W := hH.2.2.2.2.2.2.2.2.2.2.2.2.2.2.2.1
  rw [y15] at q15
  simp only [List.take_succ_cons, List.take_zero, List.drop_succ_cons, List.drop_zero, putFrom, Act.put, List.setIfInBounds_toArray, List.set_cons_zero, List.set_cons_succ, Nat.reduceAdd, e0, e1, e2, e3, e4, e5, e6, e7, e8, y9, e10, e11, e12, e13, y14, y15]
  clear e0 e1 e2 e3 e4 e5 e6 e7 e8 y9 e10 e11 e12 e13 y14 y15 hH f
  clear q9 q14
  obtain ⟨_, _, rfl, ⟨A3, c3, rfl, r3⟩, ⟨A4, c4, rfl, r4⟩⟩ := q15
  have HO2 := Lib.hid (HO.out.later hb)
  obtain ⟨o0, o1, o2, p0, p1, p2⟩ := HO2.out.cells
  have HW := Lib.hid (raft HB.out hb)
  have R3 := Lib.hid r3
  have R4 := Lib.hid r4
  clear r3 r4 hb
  go_wp2
  refine bodyPost_ret (v := .agg #[.bool (sg), .slice A3 (dig (nn)).length c3, .slice A4 (dig (dd)).length c4]) (by simp [results, Tryz.results76, go_sem, o0, o1, o2]) rfl ?_
  exact ⟨_, rfl, ⟨_, _, rfl, ⟨A3, c3, rfl, R3.out.put3 HO2.out _ _ _⟩, ⟨A4, c4, rfl, R4.out.put3 HO2.out _ _ _⟩⟩, put3_below HW.out (by omega) _ _ _⟩

end
end Go.Proofs.YtcomkgmonhidhaaGreatDoor

/- Vergeref2's ratios by what they mean: p by q. -/
namespace Go.Proofs.YtcomkgmonhidhaaGreatDoor
set_option linter.unusedVariables false
set_option linter.unusedSimpArgs false
open Go.RowKit Verge

def sv (s : Bool) (n : Nat) : Int := if s then -(n : Int) else n
/-- A ratio that is p by q; its lists have at most k words. -/
def IsRV (p : Int) (q : Nat) (k : Nat) (v : Value) (w : World) : Prop := ∃ s X Y, IsR s X Y v w ∧ 0 < q ∧ 0 < val Y ∧ sv s (val X) * q = p * val Y ∧ X.length ≤ k ∧ Y.length ≤ k
theorem IsRV.mono (p : Int) (q k : Nat) : Mono (IsRV p q k) := fun _ _ _ hb ⟨s, X, Y, h, r⟩ => ⟨s, X, Y, IsR.mono _ _ _ _ _ _ hb h, r⟩
theorem IsRV.eqv {p p' : Int} {q q' k : Nat} {v : Value} {w : World} (h : IsRV p q k v w) (hq' : 0 < q') (e : p * q' = p' * q) : IsRV p' q' k v w := by
  obtain ⟨s, X, Y, hr, hq, hy, hs, h1, h2⟩ := h
  refine ⟨s, X, Y, hr, hq', hy, ?_, h1, h2⟩
  have hq0 : (q : Int) ≠ 0 := by omega
  refine Int.eq_of_mul_eq_mul_right hq0 ?_
  rw [Int.mul_assoc, Int.mul_comm (q' : Int), ← Int.mul_assoc, hs]
  rw [show p * (val Y : Int) * q' = p * q' * val Y by rw [Int.mul_assoc, Int.mul_assoc, Int.mul_comm (q' : Int)], e]
  rw [Int.mul_assoc, Int.mul_assoc, Int.mul_comm (q : Int)]
theorem IsRV.le {p : Int} {q k k' : Nat} {v : Value} {w : World} (h : IsRV p q k v w) (hk : k ≤ k') : IsRV p q k' v w := by
  obtain ⟨s, X, Y, hr, hq, hy, hs, h1, h2⟩ := h
  exact ⟨s, X, Y, hr, hq, hy, hs, by omega, by omega⟩

theorem fracN_le (n d : Nat) : fracN n d 0 ≤ n := by
  unfold fracN
  split
  · omega
  · rename_i h
    have : (fracE n d 0).toNat ≤ ntz n := by unfold fracE; omega
    have h2 := Nat.pow_le_pow_right (n := 2) (by omega) this
    exact Nat.le_trans (Nat.mul_le_mul_left _ h2) (Nat.div_mul_le_self n _)
theorem fracD_le (n d : Nat) (hd : 0 < d) : fracD n d 0 ≤ d := by
  unfold fracD
  split
  · omega
  · rename_i h
    have : (-(fracE n d 0)).toNat ≤ ntz d := by unfold fracE; omega
    have h2 := Nat.pow_le_pow_right (n := 2) (by omega) this
    exact Nat.le_trans (Nat.mul_le_mul_left _ h2) (Nat.div_mul_le_self d _)
theorem frac0 (n d : Nat) (hd : d ≠ 0) : fracN n d 0 * d = n * fracD n d 0 := by
  have := frac_val n d 0 hd 0 (by omega)
  simpa using this
theorem sv_and {s : Bool} {n m d e : Nat} (h : m * d = n * e) (hd : 0 < d) : sv (s && decide (n ≠ 0)) m * d = sv s n * e := by
  by_cases h0 : n = 0
  · subst h0
    rw [Nat.zero_mul] at h
    have : m = 0 := by
      rcases Nat.mul_eq_zero.1 h with h | h <;> omega
    subst this
    simp [sv]
  · have hm : ((m : Int) * d) = n * e := by exact_mod_cast h
    cases s
    · simpa [sv] using hm
    · simp only [h0, ne_eq, not_false_eq_true, decide_true, Bool.and_true, sv, if_true]
      rw [Int.neg_mul, Int.neg_mul, hm]
theorem addS_sv (s : Bool) (x : Nat) (t : Bool) (y : Nat) : sv (addS s x t y).1 (addS s x t y).2 = sv s x + sv t y := by
  unfold addS sv
  by_cases h : y ≤ x
  · cases s <;> cases t <;> simp [h] <;> omega
  · cases s <;> cases t <;> simp [h] <;> omega
theorem sv_mul (s : Bool) (x y : Nat) : sv s (x * y) = sv s x * y := by
  unfold sv; cases s <;> simp [Int.neg_mul]
theorem sv_not (s : Bool) (x : Nat) : sv (!s) x = -sv s x := by unfold sv; cases s <;> simp
theorem sv_neg0 {s : Bool} {x n : Nat} (h : x ≠ 0 → 0 < n) : sv (!s && decide (0 < n)) x = -sv s x := by
  by_cases hx : x = 0
  · subst hx; unfold sv; cases s <;> simp
  · rw [decide_eq_true (h hx), Bool.and_true, sv_not]
theorem val_nil_of {X : List Nat} (h : val X ≠ 0) : 0 < X.length := by
  cases X with
  | nil => simp [val] at h
  | cons => simp

section
variable {p p' : Int} {q q' k k' : Nat} {va vb : Value} {w : World}

theorem add_parts {s t : Bool} {x y u v : Nat} (hy : 0 < y) (hv : 0 < v) (ha : sv s x * q = p * y) (hb : sv t u * q' = p' * v) (S : Bool × Nat) (hS : sv S.1 S.2 = sv s (x * v) + sv t (u * y)) :
    sv (S.1 && decide (S.2 ≠ 0)) (fracN S.2 (y * v) 0) * ((q * q' : Nat) : Int) = (p * q' + p' * q) * (fracD S.2 (y * v) 0 : Nat) := by
  have hyv : 0 < y * v := Nat.mul_pos hy hv
  have h0 := frac0 S.2 (y * v) (by omega)
  have h1 := sv_and (s := S.1) h0 hyv
  refine Int.eq_of_mul_eq_mul_right (a := ((y * v : Nat) : Int)) (by omega) ?_
  rw [show sv (S.1 && decide (S.2 ≠ 0)) (fracN S.2 (y * v) 0) * ((q * q' : Nat) : Int) * ((y * v : Nat) : Int) = sv (S.1 && decide (S.2 ≠ 0)) (fracN S.2 (y * v) 0) * ((y * v : Nat) : Int) * ((q * q' : Nat) : Int) by grind]
  rw [h1, hS, sv_mul, sv_mul]
  obtain ⟨D, hD⟩ : ∃ D, fracD S.2 (y * v) 0 = D := ⟨_, rfl⟩
  rw [hD]
  push_cast
  rw [show (sv s x * (v : Int) + sv t u * y) * D * (q * q') = ((sv s x * q) * (v * q') + (sv t u * q') * (y * q)) * D by grind, ha, hb]
  grind

theorem mul_parts {s t : Bool} {x y u v : Nat} (hy : 0 < y) (hv : 0 < v) (ha : sv s x * q = p * y) (hb : sv t u * q' = p' * v) :
    sv ((s != t) && decide (x * u ≠ 0)) (fracN (x * u) (y * v) 0) * ((q * q' : Nat) : Int) = (p * p') * (fracD (x * u) (y * v) 0 : Nat) := by
  have hyv : 0 < y * v := Nat.mul_pos hy hv
  have h0 := frac0 (x * u) (y * v) (by omega)
  have h1 := sv_and (s := (s != t)) h0 hyv
  refine Int.eq_of_mul_eq_mul_right (a := ((y * v : Nat) : Int)) (by omega) ?_
  rw [show sv ((s != t) && decide (x * u ≠ 0)) (fracN (x * u) (y * v) 0) * ((q * q' : Nat) : Int) * ((y * v : Nat) : Int) = sv ((s != t) && decide (x * u ≠ 0)) (fracN (x * u) (y * v) 0) * ((y * v : Nat) : Int) * ((q * q' : Nat) : Int) by grind]
  have h2 : sv (s != t) (x * u) = sv s x * sv t u := by unfold sv; cases s <;> cases t <;> simp [Int.neg_mul, Int.mul_neg]
  rw [h1, h2]
  obtain ⟨D, hD⟩ : ∃ D, fracD (x * u) (y * v) 0 = D := ⟨_, rfl⟩
  rw [hD]
  push_cast
  rw [show sv s x * sv t u * (D : Int) * (q * q') = (sv s x * q) * (sv t u * q') * D by grind, ha, hb]
  grind
/-- A quotient by a ratio above 0. -/
theorem rv_quo (ha : IsRV p q k va w) (hb : IsRV p' q' k' vb w) (hp : 0 < p') (h1 : k ≤ 8796093022000) (h2 : k' ≤ 8796093022000) :
    Calls Tryz.prog 76 #[va, vb] w (Ans w (IsRV (p * q') (q * p'.toNat) (k + k'))) := by
  obtain ⟨s, X, Y, hr, hq, hy, hs, l1, l2⟩ := ha
  obtain ⟨t, U, V, hr', hq', hv, ht, l3, l4⟩ := hb
  refine (rquo_is hr hr' (by omega) (by omega) (by omega) (by omega)).mono ?_
  rintro e w' ⟨v, he, ⟨a, b, hv', ha', hb'⟩, hbw⟩
  have e1 := wl_eq (IsL.words hr.choose_spec.choose_spec.2.1)
  have e2 := wl_eq (IsL.words hr.choose_spec.choose_spec.2.2)
  have e3 := wl_eq (IsL.words hr'.choose_spec.choose_spec.2.1)
  have e4 := wl_eq (IsL.words hr'.choose_spec.choose_spec.2.2)
  have := wl_le X
  have := wl_le Y
  have := wl_le U
  have := wl_le V
  have hpos : 0 < sv t (val U) * q' := by rw [ht]; exact Int.mul_pos hp (by omega)
  have hsv : 0 < sv t (val U) := by
    rcases ilt_or_ge 0 (sv t (val U)) with h | h
    · exact h
    · have := Int.mul_nonneg (show (0 : Int) ≤ -sv t (val U) by omega) (show (0 : Int) ≤ (q' : Int) by omega)
      rw [Int.neg_mul] at this
      omega
  have hU : t = false ∧ 0 < val U := by
    unfold sv at hsv
    cases t
    · exact ⟨rfl, by simpa using hsv⟩
    · simp at hsv; omega
  obtain ⟨rfl, hU⟩ := hU
  have hinv : sv false (val V) * (p'.toNat : Nat) = (q' : Int) * val U := by
    have : sv false (val U) = (val U : Int) := rfl
    rw [this] at ht
    have : sv false (val V) = (val V : Int) := rfl
    rw [this, show ((p'.toNat : Nat) : Int) = p' by omega, Int.mul_comm, ← ht, Int.mul_comm]
  have hyv : 0 < val Y * val U := Nat.mul_pos hy hU
  refine ⟨v, he, ⟨_, _, _, ⟨a, b, hv', ha', hb'⟩, Nat.mul_pos hq (by omega), ?_, ?_, ?_, ?_⟩, hbw⟩
  · rw [val_dig]; exact fracD_pos _ _ _ (by omega)
  · rw [val_dig, val_dig]
    exact mul_parts (p' := (q' : Int)) hy hU hs hinv
  · have m1 := dig_mul_length (val X) (val V)
    exact Nat.le_trans (dig_length_mono (fracN_le _ _)) (by omega)
  · have m3 := dig_mul_length (val Y) (val U)
    exact Nat.le_trans (dig_length_mono (fracD_le _ _ hyv)) (by omega)
/-- -1, 0 or 1. -/
def isgn (p : Int) : Int := if p < 0 then -1 else if p = 0 then 0 else 1
def icmp (a b : Int) : Int := if a < b then -1 else if a = b then 0 else 1
theorem sgn_mul {a : Int} {b : Nat} (hb : 0 < b) : (0 < a * b ↔ 0 < a) ∧ (a * b < 0 ↔ a < 0) ∧ (a * b = 0 ↔ a = 0) := by
  have hb' : (0 : Int) < b := by omega
  refine ⟨⟨fun h => ?_, fun h => Int.mul_pos h hb'⟩, ⟨fun h => ?_, fun h => Int.mul_neg_of_neg_of_pos h hb'⟩, ⟨fun h => ?_, fun h => by rw [h, Int.zero_mul]⟩⟩
  · rcases ilt_or_ge 0 a with h1 | h1
    · exact h1
    · have := Int.mul_nonneg (show 0 ≤ -a by omega) (show (0 : Int) ≤ b by omega)
      rw [Int.neg_mul] at this; omega
  · rcases ilt_or_ge a 0 with h1 | h1
    · exact h1
    · have := Int.mul_nonneg h1 (show (0 : Int) ≤ b by omega); omega
  · rcases Int.mul_eq_zero.1 h with h | h <;> omega
theorem rsgn_is {s : Bool} {X Y : List Nat} (ha : IsR s X Y va w) (h1 : X.length ≤ 35184372088800) : Calls Tryz.prog 39 #[va] w (Ans w (IsV (.int .i64 (rsgn s (val X))))) := by
  obtain ⟨a, b, rfl, ⟨A, c, rfl, hA⟩, ⟨B, d, rfl, hB⟩⟩ := ha
  exact ans_below (rsign_any s A _ c X B _ d w hA rfl h1)
theorem rsgn_sv (s : Bool) (n : Nat) : rsgn s n = isgn (sv s n) := by
  unfold rsgn isgn sv
  cases s <;> (by_cases h : n = 0) <;> simp [h] <;> omega
theorem rv_sign (ha : IsRV p q k va w) (h1 : k ≤ 35184372088800) : Calls Tryz.prog 39 #[va] w (Ans w (IsV (.int .i64 (isgn p)))) := by
  obtain ⟨s, X, Y, hr, hq, hy, hs, l1, l2⟩ := ha
  have := rsgn_is hr (by omega)
  have e : rsgn s (val X) = isgn p := by
    rw [rsgn_sv]
    have a1 := sgn_mul (a := sv s (val X)) hq
    have a2 := sgn_mul (a := p) hy
    rw [hs] at a1
    unfold isgn
    have b1 : sv s (val X) < 0 ↔ p < 0 := a1.2.1.symm.trans a2.2.1
    have b2 : sv s (val X) = 0 ↔ p = 0 := a1.2.2.symm.trans a2.2.2
    simp only [b1, b2]
  rw [e] at this
  exact this
theorem cmp_icmp (x y : Nat) : cmp x y = icmp x y := by
  rcases Nat.lt_trichotomy x y with h | h | h
  · unfold cmp icmp
    have : (x : Int) < y := by omega
    simp [h]
  · subst h; unfold cmp icmp; simp
  · have h1 : ¬ x < y := by omega
    have h2 : ¬ (x : Int) = y := by omega
    have h3 : ¬ x = y := by omega
    unfold cmp icmp
    rw [if_neg h1, if_pos h, if_neg (by omega), if_neg h2]
theorem rcmp_sv (s : Bool) (x y : Nat) (t : Bool) (u v : Nat) (hy : 0 < y) (hv : 0 < v) : rcmp s x y t u v = icmp (sv s x * v) (sv t u * y) := by
  unfold rcmp
  rw [cmp_icmp, rsgn_sv, rsgn_sv]
  have a1 := sgn_mul (a := sv s x) hv
  have a2 := sgn_mul (a := sv t u) hy
  have e1 : sv s x * v = sv s (x * v) := (sv_mul s x v).symm
  have e2 : sv t u * y = sv t (u * y) := (sv_mul t u y).symm
  by_cases hlt : isgn (sv s x) < isgn (sv t u)
  · rw [if_pos hlt]
    unfold icmp
    rw [if_pos]
    unfold isgn at hlt
    clear e1 e2
    obtain ⟨a11, a12, a13⟩ := a1
    obtain ⟨a21, a22, a23⟩ := a2
    generalize sv s x * (v : Int) = A at *
    generalize sv t u * (y : Int) = B at *
    generalize sv s x = a at *
    generalize sv t u = b at *
    split at hlt <;> (try split at hlt) <;> (try split at hlt) <;> omega
  · rw [if_neg hlt]
    by_cases hgt : isgn (sv t u) < isgn (sv s x)
    · rw [if_pos hgt]
      unfold icmp
      have h : sv t u * y < sv s x * v := by
        unfold isgn at hgt
        obtain ⟨a11, a12, a13⟩ := a1
        obtain ⟨a21, a22, a23⟩ := a2
        clear e1 e2 hlt
        generalize sv s x * (v : Int) = A at *
        generalize sv t u * (y : Int) = B at *
        generalize sv s x = a at *
        generalize sv t u = b at *
        split at hgt <;> (try split at hgt) <;> (try split at hgt) <;> omega
      rw [if_neg (by omega), if_neg (by omega)]
    · rw [if_neg hgt]
      have heq : isgn (sv s x) = isgn (sv t u) := by omega
      by_cases hx : x = 0
      · rw [if_pos hx]
        subst hx
        have h0 : sv s 0 = 0 := by unfold sv; cases s <;> rfl
        have h1 : sv t u = 0 := by
          rw [h0] at heq
          unfold isgn at heq
          split at heq <;> (try split at heq) <;> (try split at heq) <;> omega
        rw [h0, h1]; simp [icmp]
      · rw [if_neg hx, e1, e2]
        have hst : s = t := by
          unfold isgn sv at heq
          cases s <;> cases t <;> simp at heq ⊢ <;> (try split at heq) <;> (try split at heq) <;> (try split at heq) <;> omega
        subst hst
        unfold icmp sv
        cases s
        · simp
        · simp only [if_true]
          generalize x * v = A
          generalize u * y = B
          split <;> (try split) <;> (try split) <;> (try split) <;> omega
theorem sgn_mul' {a m : Int} (hm : 0 < m) : a * m < 0 ↔ a < 0 := by
  have := (sgn_mul (a := a) (b := m.toNat) (by omega)).2.1
  rwa [show ((m.toNat : Nat) : Int) = m by omega] at this
theorem rv_cmp' (ha : IsRV p q k va w) (hb : IsRV p' q' k' vb w) (h1 : k + k' ≤ 35184372088800) :
    Calls Tryz.prog 96 #[va, vb] w (Ans w (IsV (.int .i64 (icmp (p * q') (p' * q))))) := by
  obtain ⟨s, X, Y, ⟨a, b, rfl, ⟨A, c, rfl, hA⟩, ⟨B, d, rfl, hB⟩⟩, hq, hy, hs, l1, l2⟩ := ha
  obtain ⟨t, U, V, ⟨a', b', rfl, ⟨A', c', rfl, hA'⟩, ⟨B', d', rfl, hB'⟩⟩, hq', hv, ht, l3, l4⟩ := hb
  have := ans_below (rrcmp_any s A _ c X B _ d Y t A' _ c' U B' _ d' V w hA rfl hB rfl hA' rfl hB' rfl (by omega) (by omega))
  rw [rcmp_sv _ _ _ _ _ _ hy hv] at this
  have e : icmp (sv s (val X) * val V) (sv t (val U) * val Y) = icmp (p * q') (p' * q) := by
    have hqq : (0 : Int) < (q : Int) * q' := Int.mul_pos (by omega) (by omega)
    have hyv : (0 : Int) < (val Y : Int) * val V := Int.mul_pos (by omega) (by omega)
    have h3 : sv s (val X) * val V * (q * q') = p * q' * (val Y * val V) := by
      rw [show sv s (val X) * (val V : Int) * (q * q') = (sv s (val X) * q) * (val V * q') by grind, hs]; grind
    have h4 : sv t (val U) * val Y * (q * q') = p' * q * (val Y * val V) := by
      rw [show sv t (val U) * (val Y : Int) * (q * q') = (sv t (val U) * q') * (val Y * q) by grind, ht]; grind
    have cong : ∀ {a b c d m n : Int}, 0 < m → 0 < n → a * m = c * n → b * m = d * n → icmp a b = icmp c d := by
      intro a b c d m n hm hn h1 h2
      have l : a < b ↔ c < d := by
        have k1 := sgn_mul' (a := a - b) hm
        have k2 := sgn_mul' (a := c - d) hn
        rw [Int.sub_mul] at k1 k2
        omega
      have g : a = b ↔ c = d := by
        constructor
        · intro h; subst h
          rw [h1] at h2
          exact Int.eq_of_mul_eq_mul_right (by omega) h2
        · intro h; subst h
          rw [← h1] at h2
          exact (Int.eq_of_mul_eq_mul_right (by omega) h2).symm
      unfold icmp
      simp only [l, g]
    exact cong hqq hyv h3 h4
  rw [e] at this
  exact this
theorem rv_cmp (ha : IsRV p q k va w) (hb : IsRV p' q' k' vb w) (h1 : k ≤ 8796093022000) (h2 : k' ≤ 8796093022000) :
    Calls Tryz.prog 96 #[va, vb] w (Ans w (IsV (.int .i64 (icmp (p * q') (p' * q))))) := rv_cmp' ha hb (by omega)

/-- Units of the least number. -/
def KU : Nat := 1074
def UQ : Nat := 2 ^ KU
theorem UQ_pos : 0 < UQ := Nat.two_pow_pos _
end
end Go.Proofs.YtcomkgmonhidhaaGreatDoor
