/- Contracts of vergeref2's ratios: Frac. -/
import Derived.Test.YtiadjcilfljdaaaDoorRefG
import Derived.Test.YtiadjcilfljdaaaDoorPlainR
namespace Go.Proofs.YtiadjcilfljdaaaDoor
set_option linter.unusedVariables false
set_option linter.unusedSimpArgs false
open Go.RowKit Verge

theorem rnew (W : World) (o : Obj) : Below W.heap.size W (W.alloc o) := (Below.refl _ W).alloc (Nat.le_refl _) o
theorem raft {a b c : World} (h1 : Below a.heap.size a b) (h2 : Below b.heap.size b c) : Below a.heap.size a c := h1.trans (h2.mono h1.size)
theorem rfroz {B : Nat} {W w1 : World} (hb : Below B W w1) : ∀ b o, b < B → w1.frozen? ⟨b, o, none⟩ = W.frozen? ⟨b, o, none⟩ := fun b o h => hb.frozen (p := ⟨b, o, none⟩) h
theorem setb' (w : World) (r i : Nat) (u : Value) (b : Nat) (h : b ≠ r) : (w.setCell ⟨r, i, none⟩ u).heap[b]? = w.heap[b]? := Below.heap_setCell w ⟨r, i, none⟩ u b h

theorem Rd.apart {w w' : World} {r : Nat} {A : Option Addr} {xs : List Nat} (h : Rd w A xs) (hr : ∀ i z, w.cell? ⟨r, i, none⟩ ≠ some (.int .u32 z)) (hk : ∀ b, b ≠ r → w'.heap[b]? = w.heap[b]?) : Rd w' A xs := by
  refine ⟨h.1, fun hn => ?_⟩
  obtain ⟨b, o, rfl, hc⟩ := h.2 hn
  refine ⟨b, o, rfl, fun k x hx => ?_⟩
  have hb : b ≠ r := by
    rintro rfl
    exact hr _ _ (hc k x hx)
  have e := World.cell?_of_block (w := w) (w' := w') (a := ⟨b, o + k, none⟩) (hk b hb)
  rw [e]
  exact hc k x hx

/-- The empty ratio's box. -/
abbrev ratO : Obj := .cells #[.bool false, .slice none 0 0, .slice none 0 0] 39
/-- The box of a ratio, still empty. -/
def Box (w : World) (r : Nat) : Prop := w.heap[r]? = some ratO
theorem Box.new (w : World) : Box (w.alloc ratO) w.heap.size := by
  show (w.heap.push _)[w.heap.size]? = _
  simp
theorem Box.lt {w : World} {r : Nat} (h : Box w r) : r < w.heap.size := by
  by_cases hr : r < w.heap.size
  · exact hr
  · unfold Box at h; rw [Array.getElem?_eq_none (by omega)] at h; cases h
theorem Box.later {w w' : World} {r : Nat} (h : Box w r) (hb : Below w.heap.size w w') : Box w' r := (hb.block r h.lt).trans h
theorem Box.cells {w : World} {r : Nat} (h : Box w r) : w.cell? ⟨r, 0, none⟩ = some (.bool false) ∧ w.cell? ⟨r, 1, none⟩ = some (.slice none 0 0) ∧ w.cell? ⟨r, 2, none⟩ = some (.slice none 0 0) ∧
    w.frozen? ⟨r, 0, none⟩ = false ∧ w.frozen? ⟨r, 1, none⟩ = false ∧ w.frozen? ⟨r, 2, none⟩ = false := by
  unfold Box at h
  refine ⟨?_, ?_, ?_, ?_, ?_, ?_⟩ <;> simp [World.cell?, World.frozen?, h]
theorem Box.no {w : World} {r : Nat} (h : Box w r) : ∀ i z, w.cell? ⟨r, i, none⟩ ≠ some (.int .u32 z) := by
  intro i z e
  unfold Box at h
  simp only [World.cell?, h] at e
  rcases i with _ | _ | _ | i <;> simp at e
/-- A ratio laid into its box. -/
def put3 (w : World) (r : Nat) (a b c : Value) : World := ((w.setCell ⟨r, 0, none⟩ a).setCell ⟨r, 1, none⟩ b).setCell ⟨r, 2, none⟩ c
theorem Rd.put3 {w : World} {r : Nat} {A : Option Addr} {xs : List Nat} (h : Rd w A xs) (hB : Box w r) (a b c : Value) : Rd (put3 w r a b c) A xs :=
  h.apart hB.no fun k hk => (setb' _ r 2 c k hk).trans ((setb' _ r 1 b k hk).trans (setb' _ r 0 a k hk))
theorem put3_below {B : Nat} {w0 w : World} {r : Nat} (h : Below B w0 w) (hr : B ≤ r) (a b c : Value) : Below B w0 (put3 w r a b c) := ((h.setCell hr a).setCell hr b).setCell hr c

/-- What a call that answers a ratio gives: its sign, and the lists of its two numbers. -/
def RatP (w : World) (s : Bool) (N D : Nat) (e : Ending) (w' : World) : Prop :=
  ∃ A1 c1 A2 c2, e = .returned (.agg #[.bool s, .slice A1 (dig N).length c1, .slice A2 (dig D).length c2]) ∧ Rd w' A1 (dig N) ∧ Rd w' A2 (dig D) ∧ Below w.heap.size w w'

theorem val_dig' (n : Nat) : val (dig n) = n := val_dig n
theorem dig_one : dig 1 = [1] := by rw [dig]; simp [dig_zero]

set_option maxRecDepth 20000 in
set_option maxHeartbeats 4000000 in
/-- Frac: the powers of 2 taken out. -/
theorem rfrac_any (s : Bool) (A : Option Addr) (n0 c : Nat) (X : List Nat) (A' : Option Addr) (m0 c' : Nat) (Y : List Nat) (e : Int) (w : World) (h : Rd w A X) (hn : X.length = n0) (h' : Rd w A' Y) (hn' : Y.length = m0)
    (hb1 : n0 + e.toNat / 32 + 4 ≤ 35184372088800) (hb2 : m0 + (-e).toNat / 32 + 4 ≤ 35184372088800) :
    Calls Tryd.prog 45 #[.bool s, .slice A n0 c, .slice A' m0 c', .int .i64 e] w (RatP w (s && decide (val X ≠ 0)) (fracN (val X) (val Y) e) (fracD (val X) (val Y) e)) := by
  have hx1 : (dig (val X)).length ≤ n0 := by rw [← wl_eq h.1, ← hn]; exact wl_le X
  have hy1 : (dig (val Y)).length ≤ m0 := by rw [← wl_eq h'.1, ← hn']; exact wl_le Y
  have H1 := Lib.hid (fun W (hW : Rd W A X) => rnorm_any A n0 c X W hW hn (by omega))
  have H2 := Lib.hid (fun W (hW : Rd W A' Y) => rnorm_any A' m0 c' Y W hW hn' (by omega))
  have HX := Lib.hid h
  have HY := Lib.hid h'
  obtain ⟨x, hx⟩ : ∃ x, val X = x := ⟨_, rfl⟩
  obtain ⟨y, hy⟩ : ∃ y, val Y = y := ⟨_, rfl⟩
  rw [hx] at hx1
  rw [hy] at hy1
  simp only [hx, hy] at H1 H2 ⊢
  have hkx := ntz_words_le x
  have hky := ntz_words_le y
  have HB0 := Lib.hid (rnew w ratO)
  clear h h' hn hn' hx hy
  obtain ⟨P, hP⟩ : ∃ P : Ending → World → Prop, P = RatP w (s && decide (x ≠ 0)) (fracN x y e) (fracD x y e) := ⟨_, rfl⟩
  rw [← hP]
  have HP := Lib.hid hP
  clear hP
  go_enter Tryd.func45, Tryd.ntmps45
  go_wp2_with fail
  refine (H1.out _ (HX.out.below HB0.out)).mono ?_
  rintro en w1 ⟨A1, c1, rfl, hR1, hl1, hm1, hb⟩
  have HB := Lib.hid ((Box.new w).later hb)
  have HY := Lib.hid (HY.out.below (raft HB0.out hb))
  have HR1 := Lib.hid hR1
  have HW := Lib.hid (raft HB0.out hb)
  clear hR1 hb
  go_wp2_with fail
  refine (H2.out _ HY.out).mono ?_
  rintro en w2 ⟨A2, c2, rfl, hR2, hl2, hm2, hb⟩
  have HB := Lib.hid (HB.out.later hb)
  have HR1 := Lib.hid (HR1.out.below hb)
  have HR2 := Lib.hid hR2
  have HW := Lib.hid (raft HW.out hb)
  clear hR2 hb
  by_cases h0 : x = 0
  · subst h0
    obtain ⟨b0, b1, b2, f0, f1, f2⟩ := HB.out.cells
    have hl0 : (dig 0).length = 0 := by rw [dig_zero]; rfl
    rw [hl0]
    clear hx1 hl1 hkx
    have hz := HB.out.lt
    go_wp2
    refine bodyPost_ret (v := .agg #[.bool false, .slice none 0 0, .slice (some ⟨w2.heap.size, 0, none⟩) 1 1]) (by simp [results, Tryd.results45, go_sem, b0, b1, b2, hz]) rfl ?_
    rw [HP.out]
    have eN : fracN 0 y e = 0 := by simp [fracN]
    have eD : fracD 0 y e = 1 := by simp [fracD]
    rw [eN, eD]
    refine ⟨none, 0, some ⟨w2.heap.size, 0, none⟩, 1, by rw [dig_zero, dig_one]; simp, by rw [dig_zero]; exact Rd.nil, ?_, (put3_below HW.out (Nat.le_refl _) _ _ _).alloc (by have := HW.out.size; simp [put3]; omega) _⟩
    rw [dig_one]
    have := (Blk.new (put3 w2 w.heap.size (.bool false) (.slice none 0 0) (.slice (some ⟨w2.heap.size, 0, none⟩) 1 1)) #[.int .u32 1] [1] (W32.cons (by omega) W32.nil) (by simp [u32s])).rd
    simpa [put3] using this
  · have hlx : 0 < (dig x).length := dig_length_pos h0
    have hne : ¬ ((dig x).length : Int) = 0 := by omega
    have he0 : -1125899906843000 ≤ e ∧ e ≤ 1125899906843000 := by omega
    obtain ⟨he1, he2⟩ := he0
    have HZ := Lib.hid (fun W (hW : Rd W A1 (dig x)) => rzeros_any A1 (dig x).length c1 (dig x) W hW rfl (by omega) (by omega))
    have HR := Lib.hid (fun W (hW : Rd W A1 (dig x)) => rright_any A1 (dig x).length c1 (dig x) (ntz x) (ntz x : Nat) W rfl (by omega) hW rfl (by omega))
    have HZ2 := Lib.hid (fun W (hW : Rd W A2 (dig y)) => rzeros_any A2 (dig y).length c2 (dig y) W hW rfl (by omega) (by omega))
    have HR' := Lib.hid (fun W (hW : Rd W A2 (dig y)) => rright_any A2 (dig y).length c2 (dig y) (ntz y) (ntz y : Nat) W rfl (by omega) hW rfl (by omega))
    simp only [val_dig'] at HZ HR HZ2 HR'
    have HNE := Lib.hid h0
    clear h0
    go_wp2_with fail
    refine (HZ.out _ HR1.out).mono ?_
    rintro en w3 ⟨rfl, rfl⟩
    go_wp2_with fail
    refine (HR.out _ HR1.out).mono ?_
    rintro en w3 ⟨A3, c3, rfl, hR3, hl3, hm3, hb⟩
    have HB := Lib.hid (HB.out.later hb)
    have HR2 := Lib.hid (HR2.out.below hb)
    have HR3 := Lib.hid hR3
    have HW := Lib.hid (raft HW.out hb)
    clear hR3 hb
    go_wp2_with fail
    refine (HZ2.out _ HR2.out).mono ?_
    rintro en w4 ⟨rfl, rfl⟩
    go_wp2_with fail
    refine (HR'.out _ HR2.out).mono ?_
    rintro en w4 ⟨A4, c4, rfl, hR4, hl4, hm4, hb⟩
    have HB := Lib.hid (HB.out.later hb)
    have HR3 := Lib.hid (HR3.out.below hb)
    have HR4 := Lib.hid hR4
    have HW := Lib.hid (raft HW.out hb)
    clear hR4 hb
    go_upto_region 11 with fail
    have hfe : fracE x y e = e + ntz x - ntz y := rfl
    have hW1 := fun h => fracN_wl (n := x) (d := y) (e := e) h
    have hW2 := fun h => fracD_wl (n := x) (d := y) (e := e) h
    rw [hfe] at hW1 hW2
    have hEb : -2251799813690000 ≤ e + ntz x - ntz y ∧ e + ntz x - ntz y ≤ 2251799813690000 := by omega
    obtain ⟨E, hE⟩ : ∃ E : Int, e + ntz x - ntz y = E := ⟨_, rfl⟩
    rw [hE] at hfe hEb hW1 hW2 ⊢
    have HE := Lib.hid hfe
    obtain ⟨hE1, hE2⟩ := hEb
    have HW1 := Lib.hid hW1
    have HW2 := Lib.hid hW2
    clear hE hfe hW1 hW2
    by_cases hp : 0 < E
    · have hnn : ¬ E < 0 := by omega
      have hk1 := HW1.out hp
      go_wp2_with fail
      refine (rleft_any A3 _ c3 (dig (x / 2 ^ ntz x)) E.toNat E _ (by omega) HR3.out rfl (by omega) (by rw [wl_dig]; omega)).mono ?_
      rw [val_dig]
      rintro en w5 ⟨A5, c5, rfl, hR5, hl5, hm5, hb⟩
      have HB := Lib.hid (HB.out.later hb)
      have HR4 := Lib.hid (HR4.out.below hb)
      have HR5 := Lib.hid hR5
      have HW := Lib.hid (raft HW.out hb)
      clear hR5 hb hk1
      obtain ⟨b0, b1, b2, f0, f1, f2⟩ := HB.out.cells
      have hz := HB.out.lt
      go_wp2
      refine bodyPost_ret (v := .agg #[.bool s, .slice A5 (dig (x / 2 ^ ntz x * 2 ^ E.toNat)).length c5, .slice A4 (dig (y / 2 ^ ntz y)).length c4]) (by simp [results, Tryd.results45, go_sem, b0, b1, b2, hz]) rfl ?_
      rw [HP.out]
      have eN : fracN x y e = x / 2 ^ ntz x * 2 ^ E.toNat := by unfold fracN; rw [if_neg HNE.out, HE.out]
      have eD : fracD x y e = y / 2 ^ ntz y := by unfold fracD; rw [if_neg HNE.out, HE.out]; simp [show (-E).toNat = 0 by omega]
      rw [eN, eD, decide_eq_true HNE.out, Bool.and_true]
      exact ⟨_, _, _, _, rfl, HR5.out.put3 HB.out _ _ _, HR4.out.put3 HB.out _ _ _, put3_below HW.out (Nat.le_refl _) _ _ _⟩
    · by_cases hn : E < 0
      · have hk1 := HW2.out hn
        have hp' : ¬ 0 < E := hp
        go_wp2_with fail
        refine (rleft_any A4 _ c4 (dig (y / 2 ^ ntz y)) (-E).toNat (-E) _ (by omega) HR4.out rfl (by omega) (by rw [wl_dig]; omega)).mono ?_
        rw [val_dig]
        rintro en w5 ⟨A5, c5, rfl, hR5, hl5, hm5, hb⟩
        have HB := Lib.hid (HB.out.later hb)
        have HR3 := Lib.hid (HR3.out.below hb)
        have HR5 := Lib.hid hR5
        have HW := Lib.hid (raft HW.out hb)
        clear hR5 hb hk1
        obtain ⟨b0, b1, b2, f0, f1, f2⟩ := HB.out.cells
        have hz := HB.out.lt
        go_wp2
        refine bodyPost_ret (v := .agg #[.bool s, .slice A3 (dig (x / 2 ^ ntz x)).length c3, .slice A5 (dig (y / 2 ^ ntz y * 2 ^ (-E).toNat)).length c5]) (by simp [results, Tryd.results45, go_sem, b0, b1, b2, hz]) rfl ?_
        rw [HP.out]
        have eN : fracN x y e = x / 2 ^ ntz x := by unfold fracN; rw [if_neg HNE.out, HE.out]; simp [show E.toNat = 0 by omega]
        have eD : fracD x y e = y / 2 ^ ntz y * 2 ^ (-E).toNat := by unfold fracD; rw [if_neg HNE.out, HE.out]
        rw [eN, eD, decide_eq_true HNE.out, Bool.and_true]
        exact ⟨_, _, _, _, rfl, HR3.out.put3 HB.out _ _ _, HR5.out.put3 HB.out _ _ _, put3_below HW.out (Nat.le_refl _) _ _ _⟩
      · obtain rfl : E = 0 := by omega
        obtain ⟨b0, b1, b2, f0, f1, f2⟩ := HB.out.cells
        have hz := HB.out.lt
        go_wp2
        refine bodyPost_ret (v := .agg #[.bool s, .slice A3 (dig (x / 2 ^ ntz x)).length c3, .slice A4 (dig (y / 2 ^ ntz y)).length c4]) (by simp [results, Tryd.results45, go_sem, b0, b1, b2, hz]) rfl ?_
        rw [HP.out]
        have eN : fracN x y e = x / 2 ^ ntz x := by unfold fracN; rw [if_neg HNE.out, HE.out]; simp
        have eD : fracD x y e = y / 2 ^ ntz y := by unfold fracD; rw [if_neg HNE.out, HE.out]; simp
        rw [eN, eD, decide_eq_true HNE.out, Bool.and_true]
        exact ⟨_, _, _, _, rfl, HR3.out.put3 HB.out _ _ _, HR4.out.put3 HB.out _ _ _, put3_below HW.out (Nat.le_refl _) _ _ _⟩
end Go.Proofs.YtiadjcilfljdaaaDoor
