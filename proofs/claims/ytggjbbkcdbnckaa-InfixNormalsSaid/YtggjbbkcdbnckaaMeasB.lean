/- Intervals by their patterns: how both sides read them. -/
import Derived.Test.YtggjbbkcdbnckaaMeasA
namespace Go.Proofs.Ytggjbbkcdbnckaa
set_option linter.unusedVariables false
set_option linter.unusedSimpArgs false
open Go.RowKit Verge

theorem bnew (W : World) (o : Obj) : Below W.heap.size W (W.alloc o) := (Below.refl _ W).alloc (Nat.le_refl _) o
theorem bfroz {B : Nat} {W w1 : World} (hb : Below B W w1) : ∀ b o, b < B → w1.frozen? ⟨b, o, none⟩ = W.frozen? ⟨b, o, none⟩ := fun b o h => hb.frozen (p := ⟨b, o, none⟩) h
theorem baft {a b c : World} (h1 : Below a.heap.size a b) (h2 : Below b.heap.size b c) : Below a.heap.size a c := h1.trans (h2.mono h1.size)
theorem baft' {a b c : World} (h1 : Below a.heap.size a b) (h2 : Below b.heap.size b.drew c) : Below a.heap.size a c := baft h1 ⟨h2.os, h2.tape, h2.output, h2.size, h2.block⟩

/-- The boxes of a function that takes one pair and answers one: they stay as they are. -/
theorem box2 {w W : World} {a b c d : Value} {t t' : TypeId} (hb : Below ((w.alloc (.cells #[a, b] t)).alloc (.cells #[c, d] t')).heap.size ((w.alloc (.cells #[a, b] t)).alloc (.cells #[c, d] t')) W) :
    W.cell? ⟨w.heap.size, 0, none⟩ = some a ∧ W.cell? ⟨w.heap.size, 1, none⟩ = some b ∧ W.cell? ⟨w.heap.size + 1, 0, none⟩ = some c ∧ W.cell? ⟨w.heap.size + 1, 1, none⟩ = some d ∧
    W.frozen? ⟨w.heap.size + 1, 0, none⟩ = false ∧ W.frozen? ⟨w.heap.size + 1, 1, none⟩ = false ∧ w.heap.size + 1 < W.heap.size := by
  have hz := hb.size
  simp at hz
  refine ⟨?_, ?_, ?_, ?_, ?_, ?_, by omega⟩
  · rw [bcell hb _ _ (by simp; omega)]; simp [go_sem]
  · rw [bcell hb _ _ (by simp; omega)]; simp [go_sem]
  · rw [bcell hb _ _ (by simp)]; simp [go_sem]
  · rw [bcell hb _ _ (by simp)]; simp [go_sem]
  · rw [bfroz hb _ _ (by simp)]; simp [go_sem]
  · rw [bfroz hb _ _ (by simp)]; simp [go_sem]
theorem store_f (a : Addr) (b : Nat) (w : World) : (store a (.float .f64 b) .plain).run Try.prog w = stored Try.prog w a (.float .f64 b) .plain := run_store Try.prog w a _ .plain rfl
theorem box1 {w W : World} {a b : Value} {t : TypeId} (hb : Below (w.alloc (.cells #[a, b] t)).heap.size (w.alloc (.cells #[a, b] t)) W) :
    W.cell? ⟨w.heap.size, 0, none⟩ = some a ∧ W.cell? ⟨w.heap.size, 1, none⟩ = some b ∧ W.frozen? ⟨w.heap.size, 0, none⟩ = false ∧ W.frozen? ⟨w.heap.size, 1, none⟩ = false ∧ w.heap.size < W.heap.size := by
  have hz := hb.size
  simp at hz
  refine ⟨?_, ?_, ?_, ?_, by omega⟩
  · rw [bcell hb _ _ (by simp)]; simp [go_sem]
  · rw [bcell hb _ _ (by simp)]; simp [go_sem]
  · rw [bfroz hb _ _ (by simp)]; simp [go_sem]
  · rw [bfroz hb _ _ (by simp)]; simp [go_sem]
theorem set2_cells {W : World} {b : Nat} {x y u v : Value} (h0 : W.cell? ⟨b, 0, none⟩ = some x) (h1 : W.cell? ⟨b, 1, none⟩ = some y) :
    ((W.setCell ⟨b, 0, none⟩ u).setCell ⟨b, 1, none⟩ v).cell? ⟨b, 0, none⟩ = some u ∧ ((W.setCell ⟨b, 0, none⟩ u).setCell ⟨b, 1, none⟩ v).cell? ⟨b, 1, none⟩ = some v := by
  simp [go_sem, h0, h1]
theorem set2_below {w W : World} {o o' : Obj} {u v : Value} (hb : Below ((w.alloc o).alloc o').heap.size ((w.alloc o).alloc o') W) : Below w.heap.size w ((W.setCell ⟨w.heap.size + 1, 0, none⟩ u).setCell ⟨w.heap.size + 1, 1, none⟩ v) :=
  ((baft (baft (bnew w o) (bnew (w.alloc o) o')) hb).setCell (by simp) u).setCell (by simp) v

set_option maxRecDepth 20000 in
theorem sound6_any (x y : Nat) (hx : x < 18446744073709551616) (hy : y < 18446744073709551616) (w : World) : Calls Try.prog 28 #[.agg #[.int .u64 (x : Int), .int .u64 (y : Int)]] w fun e w' => e = .returned (.bool (fsound x y)) ∧ Below w.heap.size w w' := by
  have H1 := Lib.hid (fun W => isNaN_any x hx W)
  have H2 := Lib.hid (fun W => isNaN_any y hy W)
  have K1 := Lib.hid (fun W => above_any x y hx hy W)
  have HB := Lib.hid (fun o => bnew w o)
  by_cases nx : fnan x
  · have hs : fsound x y = false := by simp [fsound, nx]
    rw [hs]
    rw [decide_eq_true nx] at H1
    go_enter Try.func28, Try.ntmps28
    go_wp2_with fail
    refine (H1.out _).mono ?_
    rintro en w1 ⟨rfl, rfl⟩
    go_wp2
    go_ret
    exact ⟨rfl, HB.out _⟩
  · rw [decide_eq_false nx] at H1
    by_cases ny : fnan y
    · have hs : fsound x y = false := by simp [fsound, ny]
      rw [hs]
      rw [decide_eq_true ny] at H2
      go_enter Try.func28, Try.ntmps28
      go_wp2_with fail
      refine (H1.out _).mono ?_
      rintro en w1 ⟨rfl, rfl⟩
      go_wp2_with fail
      refine (H2.out _).mono ?_
      rintro en w1 ⟨rfl, rfl⟩
      go_wp2
      go_ret
      exact ⟨rfl, HB.out _⟩
    · rw [decide_eq_false ny] at H2
      by_cases ha : FK y < FK x
      · have hs : fsound x y = false := by
          unfold fsound; exact decide_eq_false (by omega)
        have hab : fabove x y = true := decide_eq_true ⟨nx, ny, ha⟩
        rw [hs]
        rw [hab] at K1
        go_enter Try.func28, Try.ntmps28
        go_wp2_with fail
        refine (H1.out _).mono ?_
        rintro en w1 ⟨rfl, rfl⟩
        go_wp2_with fail
        refine (H2.out _).mono ?_
        rintro en w1 ⟨rfl, rfl⟩
        go_wp2_with fail
        refine (K1.out _).mono ?_
        rintro en w1 ⟨rfl, rfl⟩
        go_wp2
        go_ret
        exact ⟨rfl, HB.out _⟩
      · have hab : fabove x y = false := decide_eq_false (fun h => ha h.2.2)
        rw [hab] at K1
        have hs : fsound x y = (decide (¬ x = 9218868437227405312) && decide (¬ y = 18442240474082181120)) := by
          unfold fsound
          have rx := FK_range hx nx
          have ry := FK_range hy ny
          have e1 : FK x < 9218868437227405312 ↔ ¬ x = 9218868437227405312 := by
            unfold FK at rx ⊢; split at rx <;> (try rw [if_pos (by assumption)]) <;> (try rw [if_neg (by assumption)]) <;> omega
          have e2 : -9218868437227405312 < FK y ↔ ¬ y = 18442240474082181120 := by
            unfold FK at ry ⊢; split at ry <;> (try rw [if_pos (by assumption)]) <;> (try rw [if_neg (by assumption)]) <;> omega
          rw [← Bool.decide_and]
          refine decide_eq_decide.2 ?_
          rw [← e1, ← e2]
          constructor
          · rintro ⟨_, _, _, h1, h2⟩; exact ⟨h1, h2⟩
          · rintro ⟨h1, h2⟩; exact ⟨nx, ny, by omega, h1, h2⟩
        rw [hs]
        by_cases hx1 : x = 9218868437227405312
        · have hI : ((x : Int) == 9218868437227405312) = true := by subst hx1; rfl
          have HI := Lib.hid hx1
          rw [decide_eq_false (fun h => h hx1), Bool.false_and]
          clear hx1 hs ha
          go_enter Try.func28, Try.ntmps28
          go_wp2_with fail
          refine (H1.out _).mono ?_
          rintro en w1 ⟨rfl, rfl⟩
          go_wp2_with fail
          refine (H2.out _).mono ?_
          rintro en w1 ⟨rfl, rfl⟩
          go_wp2_with fail
          refine (K1.out _).mono ?_
          rintro en w1 ⟨rfl, rfl⟩
          have hx1 : (x : Int) = 9218868437227405312 := by have := HI.out; omega
          go_wp2
          go_ret
          exact ⟨rfl, HB.out _⟩
        · rw [decide_eq_true hx1, Bool.true_and]
          have hx1 : ¬ (x : Int) = 9218868437227405312 := by omega
          obtain ⟨B, hB⟩ : ∃ B, decide (¬ y = 18442240474082181120) = B := ⟨_, rfl⟩
          rw [hB]
          have hI : ((y : Int) == 18442240474082181120) = !B := by
            rw [← hB]
            by_cases h : y = 18442240474082181120
            · subst h; rfl
            · have : ¬ (y : Int) = 18442240474082181120 := by omega
              simp [h, this]
          clear hB hs ha
          go_enter Try.func28, Try.ntmps28
          go_wp2_with fail
          refine (H1.out _).mono ?_
          rintro en w1 ⟨rfl, rfl⟩
          go_wp2_with fail
          refine (H2.out _).mono ?_
          rintro en w1 ⟨rfl, rfl⟩
          go_wp2_with fail
          refine (K1.out _).mono ?_
          rintro en w1 ⟨rfl, rfl⟩
          go_wp2
          go_ret
          refine ⟨congrArg (fun b => Ending.returned (.bool b)) ?_, HB.out _⟩
          show ((x : Int) != 9218868437227405312 && (y : Int) != 18442240474082181120) = B
          rw [bne, bne, hI, beq_eq_false_iff_ne.2 hx1]
          cases B <;> rfl

theorem empty6_any (w : World) : Calls Try.prog 27 #[] w fun e w' => e = .returned (.agg #[.int .u64 9218868437227405312, .int .u64 18442240474082181120]) ∧ Below w.heap.size w w' := by
  have HB := Lib.hid (fun o => bnew w o)
  go_enter Try.func27, Try.ntmps27
  go_wp2
  refine bodyPost_ret (v := .agg #[.int .u64 9218868437227405312, .int .u64 18442240474082181120]) (by simp [results, Try.results27, go_sem]) rfl ?_
  exact ⟨rfl, HB.out _⟩
theorem empty_any (w : World) : Calls Try.prog 22 #[] w fun e w' => e = .returned (.agg #[.float .f64 9218868437227405312, .float .f64 18442240474082181120]) ∧ Below w.heap.size w w' := by
  have HB := Lib.hid (fun o => bnew w o)
  have hsf := store_f
  have I1 := Lib.hid (fun W => infp_any W)
  have I2 := Lib.hid (fun W => infm_any W)
  go_enter Try.func22, Try.ntmps22
  go_wp2_with fail
  refine (I1.out _).mono ?_
  rintro en w1 ⟨rfl, rfl⟩
  go_wp2_with fail
  refine (I2.out _).mono ?_
  rintro en w1 ⟨rfl, rfl⟩
  obtain ⟨c0, c1, f0, f1, hz⟩ := box1 (w := w) (a := .float .f64 0) (b := .float .f64 0) (t := 46) (Below.refl _ _)
  go_wp2
  refine bodyPost_ret (v := .agg #[.float .f64 9218868437227405312, .float .f64 18442240474082181120]) (by simp [results, Try.results22, go_sem]) rfl ?_
  exact ⟨rfl, HB.out _⟩

end Go.Proofs.Ytggjbbkcdbnckaa
