/- Law 8: how far two ends lie from each other, by the document. -/
import Derived.Test.YtmmbbkeefphaiaaDistB
namespace Go.Proofs.Ytmmbbkeefphaiaa
set_option linter.unusedVariables false
set_option linter.unusedSimpArgs false
open Go.RowKit Verge

theorem Box3.frozen {w : World} {r : Nat} {a b c : Value} (h : Box3 w r a b c) : w.frozen? ⟨r, 0, none⟩ = false ∧ w.frozen? ⟨r, 1, none⟩ = false ∧ w.frozen? ⟨r, 2, none⟩ = false := by
  unfold Box3 at h
  refine ⟨?_, ?_, ?_⟩ <;> simp [World.frozen?, h]
theorem Box3.put3 {w : World} {r : Nat} {a b c : Value} (h : Box3 w r a b c) (a' b' c' : Value) : Box3 (Go.Proofs.Ytmmbbkeefphaiaa.put3 w r a' b' c') r a' b' c' := by
  unfold Box3 at h
  have hl : r < w.heap.size := by
    by_cases hr : r < w.heap.size
    · exact hr
    · rw [Array.getElem?_eq_none (by omega)] at h; cases h
  unfold Box3 Go.Proofs.Ytmmbbkeefphaiaa.put3
  simp [World.setCell, Array.getElem?_modify, h]
theorem Box3.no {w : World} {r : Nat} {s : Bool} {A B : Option Addr} {n c m d : Nat} (h : Box3 w r (.bool s) (.slice A n c) (.slice B m d)) : ∀ i z, w.cell? ⟨r, i, none⟩ ≠ some (.int .u32 z) := by
  intro i z e
  unfold Box3 at h
  simp only [World.cell?, h] at e
  rcases i with _ | _ | _ | i <;> simp at e
theorem Rd.put3b {w : World} {r : Nat} {A' : Option Addr} {xs : List Nat} (h : Rd w A' xs) {s : Bool} {A B : Option Addr} {n c m d : Nat} (hB : Box3 w r (.bool s) (.slice A n c) (.slice B m d)) (x y z : Value) : Rd (Go.Proofs.Ytmmbbkeefphaiaa.put3 w r x y z) A' xs :=
  h.apart hB.no fun k hk => (setb' _ r 2 z k hk).trans ((setb' _ r 1 y k hk).trans (setb' _ r 0 x k hk))
theorem IsRV.put3b {p : Int} {q k : Nat} {v : Value} {w : World} (h : IsRV p q k v w) {r : Nat} {s : Bool} {A B : Option Addr} {n c m d : Nat} (hB : Box3 w r (.bool s) (.slice A n c) (.slice B m d)) (x y z : Value) : IsRV p q k v (Go.Proofs.Ytmmbbkeefphaiaa.put3 w r x y z) := by
  obtain ⟨s', X, Y, ⟨va, vb, hv, ⟨A1, c1, ha, hA⟩, ⟨B1, c2, hb, hB'⟩⟩, hrest⟩ := h
  exact ⟨s', X, Y, ⟨va, vb, hv, ⟨A1, c1, ha, hA.put3b hB x y z⟩, ⟨B1, c2, hb, hB'.put3b hB x y z⟩⟩, hrest⟩

set_option maxRecDepth 20000 in
set_option maxHeartbeats 4000000 in
theorem rapart_is (p q : Nat) (hp : Pt p) (hq : Pt q) (w : World) : Calls Try.prog 78 #[.int .u64 (p : Int), .int .u64 (q : Int)] w (Ans w (IsV (.int .u64 (papart p q : Nat)))) := by
  have heq : ((p : Int) == (q : Int)) = decide (p = q) := by
    by_cases h : p = q
    · subst h; simp
    · rw [decide_eq_false h]; simp; omega
  have I1 := Lib.hid (fun W => isinf3_any p hp.1 W)
  have I2 := Lib.hid (fun W => isinf3_any q hq.1 W)
  have F1 := Lib.hid (fun W => rvbits_is (w := W) hp.1)
  have F2 := Lib.hid (fun W => rvbits_is (w := W) hq.1)
  by_cases c : p = q
  · rw [decide_eq_true c] at heq
    have e : papart p q = 0 := by unfold papart; rw [if_pos c]
    rw [e]
    clear c e hp hq
    go_enter Try.func78, Try.ntmps78
    go_wp2
    go_ret
    exact ⟨_, rfl, rfl, Below.refl _ _⟩
  · rw [decide_eq_false c] at heq
    by_cases c1 : fabs p = 9218868437227405312
    · have e : papart p q = 9218868437227405312 := by unfold papart; rw [if_neg c, if_pos (.inl c1)]
      rw [e]
      rw [decide_eq_true c1] at I1
      clear c c1 e hp hq
      go_enter Try.func78, Try.ntmps78
      go_wp2_with fail
      refine (I1.out _).mono ?_
      rintro en w1 ⟨rfl, rfl⟩
      go_wp2
      go_ret
      exact ⟨_, rfl, rfl, Below.refl _ _⟩
    · rw [decide_eq_false c1] at I1
      by_cases c2 : fabs q = 9218868437227405312
      · have e : papart p q = 9218868437227405312 := by unfold papart; rw [if_neg c, if_pos (.inr c2)]
        rw [e]
        rw [decide_eq_true c2] at I2
        clear c c1 c2 e hp hq
        go_enter Try.func78, Try.ntmps78
        go_wp2_with fail
        refine (I1.out _).mono ?_
        rintro en w1 ⟨rfl, rfl⟩
        go_wp2_with fail
        refine (I2.out _).mono ?_
        rintro en w1 ⟨rfl, rfl⟩
        go_wp2
        go_ret
        exact ⟨_, rfl, rfl, Below.refl _ _⟩
      · rw [decide_eq_false c2] at I2
        have e : papart p q = upz ((fv p - fv q).natAbs : Nat) := by unfold papart; rw [if_neg c, if_neg (by omega)]
        have hne : fv p - fv q ≠ 0 := fun h => c (fv_inj hp hq (by omega))
        rw [e]
        obtain ⟨Z, hZ⟩ : ∃ Z, fv p - fv q = Z := ⟨_, rfl⟩
        have HS : Hid (∀ (v u : Value) W, IsRV (fv p) UQ 100 v W → IsRV (fv q) UQ 100 u W → Calls Try.prog 76 #[v, u] W (Ans W (IsRV Z UQ 201))) := Lib.hid (fun v u W h1 h2 => by rw [← hZ]; exact rvsub_is h1 h2)
        rw [hZ] at hne ⊢
        obtain ⟨R, hR⟩ : ∃ R, upz ((Z.natAbs : Nat) : Int) = R := ⟨_, rfl⟩
        rw [hR]
        have HR := Lib.hid hR
        have HN := Lib.hid hne
        clear c c1 c2 e hp hq hR hne hZ
        go_enter Try.func78, Try.ntmps78
        go_wp2_with fail
        refine (I1.out _).mono ?_
        rintro en w1 ⟨rfl, rfl⟩
        go_wp2_with fail
        refine (I2.out _).mono ?_
        rintro en w1 ⟨rfl, rfl⟩
        go_wp2_with fail
        refine (F1.out _).mono ?_
        rintro en w1 ⟨v1, rfl, h1, hb1⟩
        have H1 := Lib.hid h1; have B1 := Lib.hid hb1
        clear h1 hb1
        go_wp2_with fail
        refine (F2.out _).mono ?_
        rintro en w2 ⟨v2, rfl, h2, hb2⟩
        have H1' := Lib.hid (IsRV.mono _ _ _ _ _ _ hb2 H1.out); have H2 := Lib.hid h2; have B2 := Lib.hid (raft B1.out hb2)
        clear h2 hb2
        go_wp2_with fail
        refine (HS.out _ _ _ H1'.out H2.out).mono ?_
        rintro en w3 ⟨v3, rfl, h3, hb3⟩
        obtain ⟨s, As, n, cs, Bs, m, ds, rfl⟩ := h3.agg
        have H3 := Lib.hid h3; have B3 := Lib.hid (raft B2.out hb3)
        clear h3 hb3
        have HW0 := Lib.hid (rnew w3 (.cells #[.bool s, .slice As n cs, .slice Bs m ds] 35))
        have HX := Lib.hid (Box3.new w3 (.bool s) (.slice As n cs) (.slice Bs m ds))
        have Hsg := Lib.hid (rv_sign (IsRV.mono _ _ _ _ _ _ HW0.out H3.out) (by omega))
        obtain ⟨g, hg⟩ : ∃ g, isgn Z = g := ⟨_, rfl⟩
        have hg2 : decide (g < 0) = decide (Z < 0) := by
          rw [← hg]; unfold isgn
          by_cases h : Z < 0
          · rw [if_pos h]; simp [h]
          · rw [if_neg h]; by_cases h' : Z = 0 <;> simp [h, h']
        rw [hg] at Hsg
        obtain ⟨zb, hzb⟩ : ∃ b, decide (Z < 0) = b := ⟨_, rfl⟩
        rw [hzb] at hg2
        have HZB := Lib.hid hzb
        clear hg hzb
        go_wp2_with fail
        refine (Hsg.out).mono ?_
        rintro en w4 ⟨_, rfl, rfl, hb4⟩
        have HX4 := Lib.hid (HX.out.later hb4)
        have H4 := Lib.hid (IsRV.mono _ _ _ _ _ _ (raft HW0.out hb4) H3.out)
        have B4 := Lib.hid (raft B3.out (raft HW0.out hb4))
        clear hb4
        obtain ⟨c0, c1, c2⟩ := HX4.out.cells
        obtain ⟨f0, f1, f2⟩ := HX4.out.frozen
        have hz := HX4.out.lt
        go_upto_if 22 with fail
        go_cut [23] from 22 to 24 (fun s23 wx => ∃ t A n c B m d, Box3 wx w3.heap.size (.bool t) (.slice A n c) (.slice B m d) ∧ Hid (IsRV (Z.natAbs : Nat) UQ 201 (.agg #[.bool t, .slice A n c, .slice B m d]) wx ∧ Below w.heap.size w wx))
        case first =>
          cases zb
          rotate_left
          · have Hc := Lib.hid (of_decide_eq_true HZB.out)
            go_wp2_with fail
            refine (rv_neg H4.out (by omega)).mono ?_
            rintro en w5 ⟨v5, rfl, h5, hb5⟩
            obtain ⟨t, A5, n5, k5, D5, m5, d5, rfl⟩ := h5.agg
            have HX5 := Lib.hid (HX4.out.later hb5)
            have H5 := Lib.hid h5
            have B5 := Lib.hid (raft B4.out hb5)
            have hle := Lib.hid (Nat.le_trans B3.out.size (Nat.le_refl w3.heap.size))
            clear hb5 h5 c0 c1 c2 f0 f1 f2 hz
            obtain ⟨c0, c1, c2⟩ := HX5.out.cells
            obtain ⟨f0, f1, f2⟩ := HX5.out.frozen
            have hz := HX5.out.lt
            go_wp2_with fail
            go_meet
            case rel => exact ⟨t, A5, n5, k5, D5, m5, d5, HX5.out.put3 _ _ _, Lib.hid ⟨by rw [show ((Z.natAbs : Nat) : Int) = -Z by have := Hc.out; omega]; exact H5.out.put3b HX5.out _ _ _, put3_below B5.out hle.out _ _ _⟩⟩
          · have Hc := Lib.hid (of_decide_eq_false HZB.out)
            go_wp2_with fail
            go_meet
            case rel => exact ⟨s, As, n, cs, Bs, m, ds, HX4.out, Lib.hid ⟨by rw [show ((Z.natAbs : Nat) : Int) = Z by have := Hc.out; omega]; exact H4.out, B4.out⟩⟩
        case rest =>
          obtain ⟨t, A6, n6, k6, D6, m6, d6, hX, hH⟩ := hcut
          have HX6 := Lib.hid hX
          clear hX c0 c1 c2 f0 f1 f2 hz
          obtain ⟨c0, c1, c2⟩ := HX6.out.cells
          have HBt := Lib.hid (bitsup_is hH.out.1 (by omega))
          rw [HR.out] at HBt
          go_wp2_with fail
          refine (HBt.out).mono ?_
          rintro en w7 ⟨_, rfl, rfl, hb7⟩
          have B7 := Lib.hid (raft hH.out.2 hb7)
          clear hb7
          go_wp2
          go_ret
          exact ⟨_, rfl, rfl, B7.out⟩
end Go.Proofs.Ytmmbbkeefphaiaa
