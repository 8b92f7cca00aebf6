/- Programs of chapter 16: valid constants; how many lines are constants. -/
import Derived.Test.YtggjbbkcdbnckaaPrgF
namespace Go.Proofs.Ytggjbbkcdbnckaa
set_option linter.unusedVariables false
set_option linter.unusedSimpArgs false
open Go.RowKit Verge

theorem eqFl16 {P : Program} (w : World) (d : Nat) (t : TypeId) (k k' : FloatKind) (a b : Nat) (h : P.underlying t = some (.float k')) : (Op.equalIn (d + 1) t (.float k a) (.float k b)).run P w = .ok (k.format.order a b == some .eq) w := by
  simp [Op.equalIn, run_underlying h]
  rfl
theorem fields_F16 : (Try.prog.fieldsOf 46).toList.map (fun f => (f.name, f.type, f.offset)) = [("Lo", 44, 0), ("Hi", 44, 1)] := by kernel_rfl
theorem two_fields16 {P : Program} {fs : List Field} {n0 n1 : String} {t : TypeId} (h : fs.map (fun f => (f.name, f.type, f.offset)) = [(n0, t, 0), (n1, t, 1)]) (h0 : n0 ≠ "_") (h1 : n1 ≠ "_") (d : Nat) (xs ys : Array Value) (a b c e : Value) (w : World) (p q : Bool)
    (ha : ∀ W, (part t xs 0).run P W = .ok a W) (hb : ∀ W, (part t xs 1).run P W = .ok b W) (hc : ∀ W, (part t ys 0).run P W = .ok c W) (he : ∀ W, (part t ys 1).run P W = .ok e W)
    (hp : ∀ W, (Op.equalIn d t a c).run P W = .ok p W) (hq : ∀ W, (Op.equalIn d t b e).run P W = .ok q W) :
    (Op.eqFields d xs ys fs).run P w = .ok (p && q) w := by
  obtain ⟨f, g, rfl⟩ : ∃ f g, fs = [f, g] := by
    rcases fs with _ | ⟨f, _ | ⟨g, _ | ⟨x, y⟩⟩⟩
    · simp at h
    · simp at h
    · exact ⟨f, g, rfl⟩
    · simp at h
  simp only [List.map_cons, List.map_nil, List.cons.injEq, Prod.mk.injEq, and_true] at h
  obtain ⟨⟨rfl, rfl, e0⟩, ⟨rfl, e1, e2⟩⟩ := h
  simp only [Op.eqFields, h0, h1, if_true, ne_eq, not_false_eq_true, Sem.run_bind, e0, e1, e2, ha, hb, hc, he, hp, hq, Result.andThen_ok, Sem.run_ite, Sem.run_pure]
  cases p <;> cases q <;> simp
theorem eqlF16 (a b c d : Nat) (w : World) : (binOp BinOp.eql 46 (.agg #[.float .f64 a, .float .f64 b]) (.agg #[.float .f64 c, .float .f64 d])).run Try.prog w = .ok (.bool ((FloatKind.f64.format.order a c == some .eq) && (FloatKind.f64.format.order b d == some .eq))) w := by
  rw [run_eql_struct, run_equalIn_struct _ _ _ _ _ (by kernel_rfl) (by kernel_rfl)]
  rw [two_fields16 fields_F16 (by decide) (by decide) _ _ _ _ _ _ _ _ _ _ (fun W => by kernel_rfl) (fun W => by kernel_rfl) (fun W => by kernel_rfl) (fun W => by kernel_rfl) (fun W => eqFl16 W _ _ _ _ _ _ Try.underlying44) (fun W => eqFl16 W _ _ _ _ _ _ Try.underlying44)]
  rfl
theorem eqlI16 (a b c d : Int) (w : World) : (binOp BinOp.eql 54 (.agg #[.int .u64 a, .int .u64 b]) (.agg #[.int .u64 c, .int .u64 d])).run Try.prog w = .ok (.bool ((a == c) && (b == d))) w := by
  rw [run_eql_struct, run_equalIn_struct _ _ _ _ _ (by kernel_rfl) (by kernel_rfl)]
  rw [two_fields16 fields_I16 (by decide) (by decide) _ _ _ _ _ _ _ _ _ _ (fun W => by kernel_rfl) (fun W => by kernel_rfl) (fun W => by kernel_rfl) (fun W => by kernel_rfl) (fun W => run_equalIn_int W _ _ .u64 _ _ _ Try.underlying52) (fun W => run_equalIn_int W _ _ .u64 _ _ _ Try.underlying52)]
  rfl
theorem order_inf {x : Nat} (hx : x < 18446744073709551616) : (FloatKind.f64.format.order x 9218868437227405312 == some .eq) = decide (x = 9218868437227405312) := by
  refine (f_eq hx (by omega)).trans (decide_eq_decide.2 ?_)
  constructor
  · rintro ⟨h1, _, h2⟩
    have e : FK 9218868437227405312 = 9218868437227405312 := rfl
    rw [e] at h2
    unfold FK at h2
    split at h2 <;> omega
  · rintro rfl
    exact ⟨by decide, by decide, rfl⟩
theorem order_minf {x : Nat} (hx : x < 18446744073709551616) : (FloatKind.f64.format.order x 18442240474082181120 == some .eq) = decide (x = 18442240474082181120) := by
  refine (f_eq hx (by omega)).trans (decide_eq_decide.2 ?_)
  constructor
  · rintro ⟨h1, _, h2⟩
    have e : FK 18442240474082181120 = -9218868437227405312 := rfl
    rw [e] at h2
    unfold FK at h2
    split at h2 <;> omega
  · rintro rfl
    exact ⟨by decide, by decide, rfl⟩
theorem signbit_any (x : Nat) (hx : x < 18446744073709551616) (w : World) : Calls Try.prog 33 #[.float .f64 x] w fun e w' => e = .returned (.bool (decide (9223372036854775808 ≤ x))) ∧ w = w' := by
  have hb := bits_any x
  have hw : decide (wrap64 (x : Int) < 0) = decide (9223372036854775808 ≤ x) := by
    refine decide_eq_decide.2 ?_
    unfold wrap64; omega
  go_enter Try.func33, Try.ntmps33
  go_wp2
  go_ret
  exact ⟨rfl, rfl⟩
theorem minusZero_any (x : Nat) (hx : x < 18446744073709551616) (w : World) : Calls Try.prog 24 #[.float .f64 x] w fun e w' => e = .returned (.bool (decide (x = 9223372036854775808))) ∧ w = w' := by
  have ho := o_isz hx
  have HS := Lib.hid (fun W => signbit_any x hx W)
  by_cases h : x = 0 ∨ x = 9223372036854775808
  · rw [decide_eq_true h] at ho
    have e : decide (9223372036854775808 ≤ x) = decide (x = 9223372036854775808) := decide_eq_decide.2 (by omega)
    rw [e] at HS
    generalize decide (x = 9223372036854775808) = b at *
    clear h e
    go_enter Try.func24, Try.ntmps24
    go_wp2_with fail
    refine (HS.out _).mono ?_
    rintro en w1 ⟨rfl, rfl⟩
    go_wp2
    go_ret
    exact ⟨rfl, rfl⟩
  · rw [decide_eq_false h] at ho
    rw [decide_eq_false (fun e => h (.inr e))]
    clear h
    go_enter Try.func24, Try.ntmps24
    go_wp2
    go_ret
    exact ⟨rfl, rfl⟩
/-- Is an interval valid? -/
def fvalid (x y : Nat) : Bool := (decide (x = 9218868437227405312) && decide (y = 18442240474082181120)) || (fsound x y && (decide (x ≠ 9223372036854775808) && decide (y ≠ 9223372036854775808)))
set_option maxRecDepth 20000 in
set_option maxHeartbeats 4000000 in
theorem valid_any (x y : Nat) (hx : x < 18446744073709551616) (hy : y < 18446744073709551616) (w : World) : Calls Try.prog 16 #[.agg #[.float .f64 x, .float .f64 y]] w fun e w' => e = .returned (.bool (fvalid x y)) ∧ Below w.heap.size w w' := by
  have HS := Lib.hid (fun W => sound_any x y hx hy W)
  have HX := Lib.hid (fun W => minusZero_any x hx W)
  have HY := Lib.hid (fun W => minusZero_any y hy W)
  have HE := Lib.hid (fun W => empty_any W)
  have hq := fun W => eqlF16 x y 9218868437227405312 18442240474082181120 W
  rw [order_inf hx, order_minf hy] at hq
  have hbl := bnew w (.cells #[.float .f64 x, .float .f64 y] 46)
  have HB := Lib.hid hbl
  obtain ⟨c0, c1, f0, f1, hz⟩ := box1 (w := w) (a := .float .f64 x) (b := .float .f64 y) (t := 46) (Below.refl _ _)
  obtain ⟨e0, he0⟩ : ∃ e0, (decide (x = 9218868437227405312) && decide (y = 18442240474082181120)) = e0 := ⟨_, rfl⟩
  obtain ⟨r, hr⟩ : ∃ r, fvalid x y = r := ⟨_, rfl⟩
  rw [hr]
  unfold fvalid at hr
  rw [he0] at hq hr
  have n1 : decide (x ≠ 9223372036854775808) = !decide (x = 9223372036854775808) := by rw [decide_not]
  have n2 : decide (y ≠ 9223372036854775808) = !decide (y = 9223372036854775808) := by rw [decide_not]
  rw [n1, n2] at hr
  generalize fsound x y = s at *
  generalize decide (x = 9223372036854775808) = bx at *
  generalize decide (y = 9223372036854775808) = bY at *
  clear he0 hbl n1 n2
  have hc : e0 = true ∨ (e0 = false ∧ s = false) ∨ (e0 = false ∧ s = true ∧ bx = true) ∨ (e0 = false ∧ s = true ∧ bx = !true ∧ bY = false) ∨ (e0 = false ∧ s = true ∧ bx = !true ∧ bY = true) := by
    cases e0 <;> cases s <;> cases bx <;> cases bY <;> simp
  rcases hc with rfl | ⟨rfl, rfl⟩ | ⟨rfl, rfl, rfl⟩ | ⟨rfl, rfl, rfl, rfl⟩ | ⟨rfl, rfl, rfl, rfl⟩
  all_goals
    simp only [Bool.false_or, Bool.true_or, Bool.not_true, Bool.not_false, Bool.false_and, Bool.true_and, Bool.and_false, Bool.and_true, Bool.and_self] at hr
    subst hr
    go_enter Try.func16, Try.ntmps16
    go_wp2
    go_region_with (go_at_call 22; (with_reducible refine (HE.out _).mono ?_); rintro en w1 ⟨rfl, hb⟩; have HB1 := Lib.hid (show Below w.heap.size w w1 by first | exact baft HB.out hb | exact baft' HB.out hb); have hz1 : w.heap.size < w1.heap.size := (by have := hb.size; simp at this; omega); have d0 := (bcell hb w.heap.size 0 (by simp)).trans c0; have d1 := (bcell hb w.heap.size 1 (by simp)).trans c1; clear hb)
  all_goals
    go_wp2_with (first
      | (go_at_call 23; (with_reducible refine (HS.out _).mono ?_); rintro en w2 ⟨rfl, rfl⟩)
      | (go_at_call 24; (with_reducible refine (HX.out _).mono ?_); rintro en w2 ⟨rfl, rfl⟩)
      | (go_at_call 24; (with_reducible refine (HY.out _).mono ?_); rintro en w2 ⟨rfl, rfl⟩))
    go_ret
    first | exact ⟨rfl, HB1.out⟩ | exact ⟨rfl, HB1.out.drew⟩ | exact ⟨rfl, by simpa using HB1.out⟩
set_option maxRecDepth 20000 in
set_option maxHeartbeats 4000000 in
theorem valid6_any (x y : Nat) (hx : x < 18446744073709551616) (hy : y < 18446744073709551616) (w : World) : Calls Try.prog 19 #[.agg #[.int .u64 (x : Int), .int .u64 (y : Int)]] w fun e w' => e = .returned (.bool (fvalid x y)) ∧ Below w.heap.size w w' := by
  have HS := Lib.hid (fun W => sound6_any x y hx hy W)
  have HE := Lib.hid (fun W => empty6_any W)
  have hq := fun W => eqlI16 x y 9218868437227405312 18442240474082181120 W
  have k0 : ((x : Int) == 9218868437227405312) = decide (x = 9218868437227405312) := by rw [Bool.eq_iff_iff]; simp; omega
  have k1 : ((y : Int) == 18442240474082181120) = decide (y = 18442240474082181120) := by rw [Bool.eq_iff_iff]; simp; omega
  rw [k0, k1] at hq
  have hbl := bnew w (.cells #[.int .u64 (x : Int), .int .u64 (y : Int)] 54)
  have HB := Lib.hid hbl
  obtain ⟨c0, c1, f0, f1, hz⟩ := box1 (w := w) (a := .int .u64 (x : Int)) (b := .int .u64 (y : Int)) (t := 54) (Below.refl _ _)
  obtain ⟨e0, he0⟩ : ∃ e0, (decide (x = 9218868437227405312) && decide (y = 18442240474082181120)) = e0 := ⟨_, rfl⟩
  obtain ⟨r, hr⟩ : ∃ r, fvalid x y = r := ⟨_, rfl⟩
  rw [hr]
  unfold fvalid at hr
  rw [he0] at hq hr
  have n1 : ((x : Int) != 9223372036854775808) = decide (x ≠ 9223372036854775808) := by rw [Bool.eq_iff_iff]; simp; omega
  have n2 : ((y : Int) != 9223372036854775808) = decide (y ≠ 9223372036854775808) := by rw [Bool.eq_iff_iff]; simp; omega
  generalize fsound x y = s at *
  generalize decide (x ≠ 9223372036854775808) = bx at *
  generalize decide (y ≠ 9223372036854775808) = bY at *
  clear he0 hbl k0 k1
  have hc : e0 = true ∨ (e0 = false ∧ s = false) ∨ (e0 = false ∧ s = true ∧ bx = false) ∨ (e0 = false ∧ s = true ∧ bx = !false ∧ bY = false) ∨ (e0 = false ∧ s = true ∧ bx = !false ∧ bY = true) := by
    cases e0 <;> cases s <;> cases bx <;> cases bY <;> simp
  rcases hc with rfl | ⟨rfl, rfl⟩ | ⟨rfl, rfl, rfl⟩ | ⟨rfl, rfl, rfl, rfl⟩ | ⟨rfl, rfl, rfl, rfl⟩
  all_goals
    simp only [Bool.false_or, Bool.true_or, Bool.not_true, Bool.not_false, Bool.false_and, Bool.true_and, Bool.and_false, Bool.and_true, Bool.and_self] at hr
    subst hr
    go_enter Try.func19, Try.ntmps19
    go_wp2
    go_region_with (go_at_call 27; (with_reducible refine (HE.out _).mono ?_); rintro en w1 ⟨rfl, hb⟩; have HB1 := Lib.hid (show Below w.heap.size w w1 by first | exact baft HB.out hb | exact baft' HB.out hb); have hz1 : w.heap.size < w1.heap.size := (by have := hb.size; simp at this; omega); have d0 := (bcell hb w.heap.size 0 (by simp)).trans c0; have d1 := (bcell hb w.heap.size 1 (by simp)).trans c1; clear hb)
  all_goals
    go_wp2_with (go_at_call 28; (with_reducible refine (HS.out _).mono ?_); rintro en w2 ⟨rfl, hb2⟩; have HB1 := Lib.hid (baft HB1.out hb2); have d0 := (bcell hb2 w.heap.size 0 hz1).trans d0; have d1 := (bcell hb2 w.heap.size 1 hz1).trans d1; have hz1 : w.heap.size < w2.heap.size := Nat.lt_of_lt_of_le hz1 hb2.size; clear hb2)
    go_ret
    first | exact ⟨rfl, HB1.out⟩ | exact ⟨rfl, HB1.out.drew⟩
end Go.Proofs.Ytggjbbkcdbnckaa
