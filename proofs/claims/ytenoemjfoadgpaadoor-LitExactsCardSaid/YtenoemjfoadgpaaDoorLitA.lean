/- Layer 12: Exact: the small functions. -/
import Derived.Test.YtenoemjfoadgpaaDoorDigZ
import Derived.Test.YtenoemjfoadgpaaDoorMeasB
import Derived.WalkLawsBesides
import Derived.Laws.StructEq
namespace Go.Proofs.YtenoemjfoadgpaaDoor
set_option linter.unusedVariables false
set_option linter.unusedSimpArgs false
open Go.RowKit Verge

theorem entire6_any (w : World) : Calls Tryd.prog 16 #[] w fun e w' => e = .returned (.agg #[.int .u64 18442240474082181120, .int .u64 9218868437227405312]) ∧ Below w.heap.size w w' := by
  have HB := Lib.hid (fun o => bnew w o)
  go_enter Tryd.func16, Tryd.ntmps16
  go_wp2
  refine bodyPost_ret (v := .agg #[.int .u64 18442240474082181120, .int .u64 9218868437227405312]) (by simp [results, Tryd.results16, go_sem]) rfl ?_
  exact ⟨rfl, HB.out _⟩
theorem entire_any (w : World) : Calls Tryd.prog 9 #[] w fun e w' => e = .returned (.agg #[.float .f64 18442240474082181120, .float .f64 9218868437227405312]) ∧ Below w.heap.size w w' := by
  have HB := Lib.hid (fun o => bnew w o)
  have hsf := store_f
  have I1 := Lib.hid (fun W => infp_any W)
  have I2 := Lib.hid (fun W => infm_any W)
  go_enter Tryd.func9, Tryd.ntmps9
  go_wp2_with fail
  refine (I2.out _).mono ?_
  rintro en w1 ⟨rfl, rfl⟩
  go_wp2_with fail
  refine (I1.out _).mono ?_
  rintro en w1 ⟨rfl, rfl⟩
  obtain ⟨c0, c1, f0, f1, hz⟩ := box1 (w := w) (a := .float .f64 0) (b := .float .f64 0) (t := 28) (Below.refl _ _)
  go_wp2
  refine bodyPost_ret (v := .agg #[.float .f64 18442240474082181120, .float .f64 9218868437227405312]) (by simp [results, Tryd.results9, go_sem]) rfl ?_
  exact ⟨rfl, HB.out _⟩
set_option maxHeartbeats 4000000 in
theorem in12_any (x y : Nat) (hx : x < 18446744073709551616) (hy : y < 18446744073709551616) (w : World) : Calls Tryd.prog 5 #[.agg #[.int .u64 (x : Int), .int .u64 (y : Int)]] w
    fun e w' => e = .returned (.agg #[.float .f64 x, .float .f64 y]) ∧ Below w.heap.size w w' := by
  have hsf := store_f
  have hfr := from_any
  have HB := Lib.hid (fun o o' => baft (bnew w o) (bnew (w.alloc o) o'))
  obtain ⟨c0, c1, c2, c3, f0, f1, hz⟩ := box2 (w := w) (a := .int .u64 (x : Int)) (b := .int .u64 (y : Int)) (c := .float .f64 0) (d := .float .f64 0) (t := 24) (t' := 28) (Below.refl _ _)
  go_enter Tryd.func5, Tryd.ntmps5
  go_wp2_with fail
  go_region_with fail
  all_goals
    go_wp2
    refine bodyPost_ret (v := .agg #[.float .f64 x, .float .f64 y]) (by simp [results, Tryd.results5, go_sem, c2, c3]) rfl ?_
    exact ⟨rfl, (HB.out _ _).drew⟩

theorem eqF_float {P : Program} (w : World) (d : Nat) (t : TypeId) (k k' : FloatKind) (a b : Nat) (h : P.underlying t = some (.float k')) : (Op.equalIn (d + 1) t (.float k a) (.float k b)).run P w = .ok (k.format.order a b == some .eq) w := by
  simp [Op.equalIn, run_underlying h]
  rfl
theorem fields_I : (Tryd.prog.fieldsOf 24).toList.map (fun f => (f.name, f.type, f.offset)) = [("Lo", 22, 0), ("Hi", 22, 1)] := by kernel_rfl
theorem fields_F : (Tryd.prog.fieldsOf 28).toList.map (fun f => (f.name, f.type, f.offset)) = [("Lo", 26, 0), ("Hi", 26, 1)] := by kernel_rfl
theorem part_u (W : World) (a b : Value) : (part 22 #[a, b] 0).run Tryd.prog W = .ok a W ∧ (part 22 #[a, b] 1).run Tryd.prog W = .ok b W := ⟨by kernel_rfl, by kernel_rfl⟩
theorem part_f (W : World) (a b : Value) : (part 26 #[a, b] 0).run Tryd.prog W = .ok a W ∧ (part 26 #[a, b] 1).run Tryd.prog W = .ok b W := ⟨by kernel_rfl, by kernel_rfl⟩
theorem two_fields {P : Program} {fs : List Field} {n0 n1 : String} {t : TypeId} (h : fs.map (fun f => (f.name, f.type, f.offset)) = [(n0, t, 0), (n1, t, 1)]) (h0 : n0 ≠ "_") (h1 : n1 ≠ "_") (d : Nat) (xs ys : Array Value) (a b c e : Value) (w : World) (p q : Bool)
    (ha : ∀ W, (part t xs 0).run P W = .ok a W) (hb : ∀ W, (part t xs 1).run P W = .ok b W) (hc : ∀ W, (part t ys 0).run P W = .ok c W) (he : ∀ W, (part t ys 1).run P W = .ok e W)
    (hp : ∀ W, (Op.equalIn d t a c).run P W = .ok p W) (hq : ∀ W, (Op.equalIn d t b e).run P W = .ok q W) :
    (Op.eqFields d xs ys fs).run P w = .ok (p && q) w := by
  obtain ⟨f, g, rfl⟩ : ∃ f g, fs = [f, g] := by
    rcases fs with _ | ⟨f, _ | ⟨g, _ | ⟨x, y⟩⟩⟩
    · simp at h
    · simp at h
    · exact ⟨f, g, rfl⟩
    · simp at h
  simp only [List.map_cons, List.map_nil, List.cons.injEq, Prod.mk.injEq, and_true] at h
  obtain ⟨⟨rfl, rfl, e0⟩, ⟨rfl, e1, e2⟩⟩ := h
  simp only [Op.eqFields, h0, h1, if_true, ne_eq, not_false_eq_true, Sem.run_bind, e0, e1, e2, ha, hb, hc, he, hp, hq, Result.andThen_ok, Sem.run_ite, Sem.run_pure]
  cases p <;> cases q <;> simp
theorem eqlF (a b c d : Nat) (w : World) : (binOp BinOp.eql 28 (.agg #[.float .f64 a, .float .f64 b]) (.agg #[.float .f64 c, .float .f64 d])).run Tryd.prog w = .ok (.bool ((FloatKind.f64.format.order a c == some .eq) && (FloatKind.f64.format.order b d == some .eq))) w := by
  rw [run_eql_struct, run_equalIn_struct _ _ _ _ _ (by kernel_rfl) (by kernel_rfl)]
  rw [two_fields fields_F (by decide) (by decide) _ _ _ _ _ _ _ _ _ _ (fun W => (part_f W _ _).1) (fun W => (part_f W _ _).2) (fun W => (part_f W _ _).1) (fun W => (part_f W _ _).2) (fun W => eqF_float W _ _ _ _ _ _ Tryd.underlying26) (fun W => eqF_float W _ _ _ _ _ _ Tryd.underlying26)]
  rfl
theorem eqlI (a b c d : Int) (w : World) : (binOp BinOp.eql 24 (.agg #[.int .u64 a, .int .u64 b]) (.agg #[.int .u64 c, .int .u64 d])).run Tryd.prog w = .ok (.bool ((a == c) && (b == d))) w := by
  rw [run_eql_struct, run_equalIn_struct _ _ _ _ _ (by kernel_rfl) (by kernel_rfl)]
  rw [two_fields fields_I (by decide) (by decide) _ _ _ _ _ _ _ _ _ _ (fun W => (part_u W _ _).1) (fun W => (part_u W _ _).2) (fun W => (part_u W _ _).1) (fun W => (part_u W _ _).2) (fun W => run_equalIn_int W _ _ _ _ _ _ Tryd.underlying22) (fun W => run_equalIn_int W _ _ _ _ _ _ Tryd.underlying22)]
  rfl
end Go.Proofs.YtenoemjfoadgpaaDoor
