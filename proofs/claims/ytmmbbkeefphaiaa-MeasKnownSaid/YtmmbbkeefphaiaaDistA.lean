/- Layer 8: how far two ends lie from each other, by the program and by the document. -/
import Derived.Test.YtmmbbkeefphaiaaWidA
namespace Go.Proofs.Ytmmbbkeefphaiaa
set_option linter.unusedVariables false
set_option linter.unusedSimpArgs false
open Go.RowKit Verge

/-- How far two ends lie from each other, rounded up. -/
def papart (p q : Nat) : Nat := if p = q then 0 else if fabs p = 9218868437227405312 ∨ fabs q = 9218868437227405312 then 9218868437227405312 else upz ((fv p - fv q).natAbs : Nat)
theorem papart_comm (p q : Nat) : papart p q = papart q p := by
  unfold papart
  rw [show (fv p - fv q).natAbs = (fv q - fv p).natAbs by omega]
  by_cases h : p = q
  · rw [if_pos h, if_pos h.symm]
  · rw [if_neg h, if_neg (show ¬ q = p from fun h' => h h'.symm)]
    by_cases h2 : fabs p = 9218868437227405312 ∨ fabs q = 9218868437227405312
    · rw [if_pos h2, if_pos (show fabs q = 9218868437227405312 ∨ fabs p = 9218868437227405312 from h2.symm)]
    · rw [if_neg h2, if_neg (show ¬ (fabs q = 9218868437227405312 ∨ fabs p = 9218868437227405312) from fun h' => h2 h'.symm)]
theorem papart_le (p q : Nat) : papart p q ≤ 9218868437227405312 := by
  unfold papart
  split
  · omega
  · split
    · omega
    · exact upz_nonneg (by omega)
theorem subOK_of {p q : Nat} (hp : Pt p) (hq : Pt q) (h : FK q < FK p) : SubOK p q ∧ fsub p q = papart p q := by
  obtain ⟨h1, h2, h3⟩ := hp
  obtain ⟨h4, h5, h6⟩ := hq
  have hne : p ≠ q := by rintro rfl; omega
  have k1 := FK_range h1 h2
  have k2 := FK_range h4 h5
  have a1 : FK 9218868437227405312 = 9218868437227405312 := by decide
  have a2 : FK 18442240474082181120 = -9218868437227405312 := by decide
  have n1 : p ≠ 18442240474082181120 := by rintro rfl; omega
  have n2 : q ≠ 9218868437227405312 := by rintro rfl; omega
  refine ⟨?_, ?_⟩
  · by_cases c1 : p = 9218868437227405312
    · exact .inr (.inl ⟨c1, h4, h5, n2⟩)
    · by_cases c2 : q = 18442240474082181120
      · exact .inr (.inr ⟨c2, h1, h2, n1⟩)
      · exact .inl ⟨fin_of h1 h2 c1 n1, fin_of h4 h5 n2 c2⟩
  · have := fv_lt h4 h1 h
    unfold fsub papart
    rw [if_neg hne, show (((fv p - fv q).natAbs : Nat) : Int) = fv p - fv q by omega]

set_option maxHeartbeats 1000000 in
theorem apart_is (p q : Nat) (hp : Pt p) (hq : Pt q) (w : World) : Calls Try.prog 77 #[.float .f64 p, .float .f64 q] w (Ans w (IsV (.float .f64 (papart p q)))) := by
  have o1 : (FloatKind.f64.format.order p q == some .eq) = decide (p = q) := by
    refine (f_eq hp.1 hq.1).trans (decide_eq_decide.2 ⟨fun h => FK_inj hp hq h.2.2, fun h => ?_⟩)
    subst h
    exact ⟨hp.2.1, hp.2.1, rfl⟩
  have o2 : (FloatKind.f64.format.order p q == some .lt) = decide (FK p < FK q) :=
    (f_lt hp.1 hq.1).trans (decide_eq_decide.2 ⟨fun h => h.2.2, fun h => ⟨hp.2.1, hq.2.1, h⟩⟩)
  by_cases c : p = q
  · rw [decide_eq_true c] at o1
    have e : papart p q = 0 := by unfold papart; rw [if_pos c]
    rw [e]
    clear c e hp hq o2
    go_enter Try.func77, Try.ntmps77
    go_wp2
    go_ret
    exact ⟨_, rfl, rfl, Below.refl _ _⟩
  · rw [decide_eq_false c] at o1
    have hne : FK p ≠ FK q := fun h => c (FK_inj hp hq h)
    by_cases c2 : FK p < FK q
    · rw [decide_eq_true c2] at o2
      have hs := subOK_of hq hp c2
      have HS := Lib.hid (fun W => sub_is q p hs.1 W)
      rw [hs.2, papart_comm q p] at HS
      obtain ⟨R, hR⟩ : ∃ R, papart p q = R := ⟨_, rfl⟩
      rw [hR] at HS ⊢
      clear hs hR c c2 hne hp hq
      go_enter Try.func77, Try.ntmps77
      go_wp2_with fail
      refine (HS.out _).mono ?_
      rintro en w2 ⟨_, rfl, rfl, hb⟩
      have HB := Lib.hid hb
      clear hb
      go_wp2
      go_ret
      exact ⟨_, rfl, rfl, HB.out⟩
    · rw [decide_eq_false c2] at o2
      have hs := subOK_of hp hq (by omega)
      have HS := Lib.hid (fun W => sub_is p q hs.1 W)
      rw [hs.2] at HS
      obtain ⟨R, hR⟩ : ∃ R, papart p q = R := ⟨_, rfl⟩
      rw [hR] at HS ⊢
      clear hs hR c c2 hne hp hq
      go_enter Try.func77, Try.ntmps77
      go_wp2_with fail
      refine (HS.out _).mono ?_
      rintro en w2 ⟨_, rfl, rfl, hb⟩
      have HB := Lib.hid hb
      clear hb
      go_wp2
      go_ret
      exact ⟨_, rfl, rfl, HB.out⟩

/-- A box of two cells. -/
def B2 (w : World) (r : Nat) (t : TypeId) (a b : Value) : Prop := w.heap[r]? = some (.cells #[a, b] t)
section
variable {w w' : World} {r : Nat} {t : TypeId} {a b : Value}
theorem B2.new (w : World) (t : TypeId) (a b : Value) : B2 (w.alloc (.cells #[a, b] t)) w.heap.size t a b := by
  show (w.heap.push _)[w.heap.size]? = _
  simp
theorem B2.lt (h : B2 w r t a b) : r < w.heap.size := by
  by_cases hr : r < w.heap.size
  · exact hr
  · unfold B2 at h; rw [Array.getElem?_eq_none (by omega)] at h; cases h
theorem B2.later (h : B2 w r t a b) (hb : Below w.heap.size w w') : B2 w' r t a b := (hb.block r h.lt).trans h
theorem B2.cells (h : B2 w r t a b) : w.cell? ⟨r, 0, none⟩ = some a ∧ w.cell? ⟨r, 1, none⟩ = some b ∧ w.frozen? ⟨r, 0, none⟩ = false ∧ w.frozen? ⟨r, 1, none⟩ = false := by
  unfold B2 at h
  refine ⟨?_, ?_, ?_, ?_⟩ <;> simp [World.cell?, World.frozen?, h]
theorem B2.far (h : B2 w r t a b) {k i : Nat} {u : Value} (hk : r ≠ k) : B2 (w.setCell ⟨k, i, none⟩ u) r t a b := (setb' w k i u r hk).trans h
theorem B2.set0 (h : B2 w r t a b) (u : Value) : B2 (w.setCell ⟨r, 0, none⟩ u) r t u b := by
  unfold B2 at h ⊢
  simp [World.setCell, Array.getElem?_modify, h]
theorem B2.set1 (h : B2 w r t a b) (u : Value) : B2 (w.setCell ⟨r, 1, none⟩ u) r t a u := by
  unfold B2 at h ⊢
  simp [World.setCell, Array.getElem?_modify, h]
end
end Go.Proofs.Ytmmbbkeefphaiaa
