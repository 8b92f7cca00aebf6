/- Programs of chapter 16: Same and Equal, of what is the same. -/
import Derived.Test.YtggjbbkcdbnckaaPrgC
namespace Go.Proofs.Ytggjbbkcdbnckaa
set_option linter.unusedVariables false
set_option linter.unusedSimpArgs false
open Go.RowKit Verge

/-- Of structs whose fields are each equal to itself. -/
theorem eqf_self {P : Program} (d : Nat) (xs : Array Value) (w : World) : ∀ (fs : List Field), (∀ f ∈ fs, f.name ≠ "_" ∧ ∃ a, (∀ W, (part f.type xs f.offset).run P W = .ok a W) ∧ ∀ W, (Op.equalIn d f.type a a).run P W = .ok true W) →
    (Op.eqFields d xs xs fs).run P w = .ok true w
  | [], _ => by simp [Op.eqFields]
  | f :: fs, h => by
    obtain ⟨h0, a, ha, he⟩ := h f (by simp)
    have ih := eqf_self d xs w fs (fun g hg => h g (by simp [hg]))
    simp only [Op.eqFields, h0, if_true, if_false, ne_eq, not_false_eq_true, Sem.run_bind, ha, he, Result.andThen_ok, Sem.run_ite, Sem.run_pure]
    simpa using ih
theorem ei_self {P : Program} (d : Nat) (t : TypeId) (k k' : IntKind) (a : Int) (h : P.underlying t = some (.int k')) (W : World) : (Op.equalIn (d + 1) t (.int k a) (.int k a)).run P W = .ok true W := by
  rw [run_equalIn_int W d t k k' a a h]; simp
theorem fields_I16 : (Try.prog.fieldsOf 54).toList.map (fun f => (f.name, f.type, f.offset)) = [("Lo", 52, 0), ("Hi", 52, 1)] := by kernel_rfl
theorem fields_L16 : (Try.prog.fieldsOf 48).toList.map (fun f => (f.name, f.type, f.offset)) = [("Op", 3, 0), ("A", 3, 1), ("B", 3, 2), ("C", 3, 3), ("N", 3, 4)] := by kernel_rfl
theorem mem_of_map {α β : Type} {f : α → β} {l : List α} {m : List β} (h : l.map f = m) {p : β → Prop} (hp : ∀ b ∈ m, p b) : ∀ a ∈ l, p (f a) := fun a ha => hp _ (h ▸ List.mem_map.2 ⟨a, ha, rfl⟩)
theorem neqI_self (a b : Int) (w : World) : (binOp BinOp.neq 54 (.agg #[.int .u64 a, .int .u64 b]) (.agg #[.int .u64 a, .int .u64 b])).run Try.prog w = .ok (.bool false) w := by
  rw [run_neq_struct, run_equalIn_struct _ _ _ _ _ (by kernel_rfl) (by kernel_rfl)]
  rw [eqf_self]
  · rfl
  · refine mem_of_map (p := fun x => x.1 ≠ "_" ∧ ∃ v, (∀ W, (part x.2.1 #[.int .u64 a, .int .u64 b] x.2.2).run Try.prog W = .ok v W) ∧ ∀ W, (Op.equalIn _ x.2.1 v v).run Try.prog W = .ok true W) fields_I16 ?_
    intro x hx
    simp only [List.mem_cons, List.mem_nil_iff, or_false] at hx
    rcases hx with rfl | rfl
    · exact ⟨by decide, .int .u64 a, fun W => by kernel_rfl, fun W => ei_self _ _ _ _ _ Try.underlying52 W⟩
    · exact ⟨by decide, .int .u64 b, fun W => by kernel_rfl, fun W => ei_self _ _ _ _ _ Try.underlying52 W⟩
theorem neqL_self (a b c d e : Int) (w : World) : (binOp BinOp.neq 48 (.agg #[.int .i64 a, .int .i64 b, .int .i64 c, .int .i64 d, .int .i64 e]) (.agg #[.int .i64 a, .int .i64 b, .int .i64 c, .int .i64 d, .int .i64 e])).run Try.prog w = .ok (.bool false) w := by
  rw [run_neq_struct, run_equalIn_struct _ _ _ _ _ (by kernel_rfl) (by kernel_rfl)]
  rw [eqf_self]
  · rfl
  · refine mem_of_map (p := fun x => x.1 ≠ "_" ∧ ∃ v, (∀ W, (part x.2.1 #[.int .i64 a, .int .i64 b, .int .i64 c, .int .i64 d, .int .i64 e] x.2.2).run Try.prog W = .ok v W) ∧ ∀ W, (Op.equalIn _ x.2.1 v v).run Try.prog W = .ok true W) fields_L16 ?_
    intro x hx
    simp only [List.mem_cons, List.mem_nil_iff, or_false] at hx
    rcases hx with rfl | rfl | rfl | rfl | rfl
    · exact ⟨by decide, .int .i64 a, fun W => by kernel_rfl, fun W => ei_self _ _ _ _ _ Try.underlying3 W⟩
    · exact ⟨by decide, .int .i64 b, fun W => by kernel_rfl, fun W => ei_self _ _ _ _ _ Try.underlying3 W⟩
    · exact ⟨by decide, .int .i64 c, fun W => by kernel_rfl, fun W => ei_self _ _ _ _ _ Try.underlying3 W⟩
    · exact ⟨by decide, .int .i64 d, fun W => by kernel_rfl, fun W => ei_self _ _ _ _ _ Try.underlying3 W⟩
    · exact ⟨by decide, .int .i64 e, fun W => by kernel_rfl, fun W => ei_self _ _ _ _ _ Try.underlying3 W⟩
set_option maxRecDepth 100000 in
set_option maxHeartbeats 4000000 in
theorem same16_any (v u : Value) (xs : List (Nat × Nat)) (w : World) (h : RI w v xs) (h' : RI w u xs) (hm : xs.length ≤ 9000000000000) : Calls Try.prog 14 #[v, u] w fun e w' => e = .returned (.bool true) ∧ ∃ d, w.drewN d = w' := by
  obtain ⟨A, c, rfl⟩ := h.form
  obtain ⟨A', c', rfl⟩ := h'.form
  have HR := Lib.hid (And.intro h h')
  obtain ⟨n, hn⟩ : ∃ n, xs.length = n := ⟨_, rfl⟩
  rw [hn]
  rw [hn] at HR hm
  have HN := Lib.hid hn
  have HQ := neqI_self
  clear h h' hn
  go_enter Try.func14, Try.ntmps14
  go_wp2
  go_loopw [5] (fun iv wr => ∃ i : Nat, i ≤ n ∧ iv = .int .i64 i ∧ ∃ d, wr = w.drewN d) (fun iv _ => n - (intOf iv).toNat)
  case atStart => exact ⟨0, by omega, rfl, 0, rfl⟩
  case round =>
    obtain ⟨i, hi, rfl, d, rfl⟩ := hrel
    by_cases hin : i < n
    · obtain ⟨x, hx⟩ : ∃ x, xs[i]? = some x := ⟨_, List.getElem?_eq_getElem (by have := HN.out; omega)⟩
      obtain ⟨b, o, rfl, c0, c1⟩ := HR.out.1.at hx
      obtain ⟨b', o', rfl, d0, d1⟩ := HR.out.2.at hx
      clear hx
      go_wp2
      go_quiet (fail)
      go_wp2
      go_roundw
      case rel => exact ⟨i + 1, by omega, by go_num, _, rfl⟩
      case measure => simp [intOf]; omega
    · obtain rfl : i = n := by omega
      go_wp2
      go_ret
      exact ⟨rfl, _, rfl⟩
set_option maxRecDepth 100000 in
set_option maxHeartbeats 8000000 in
theorem equal16_any (vars : Int) (vC vL uC uL : Value) (xs : List (Nat × Nat)) (ls : List Ln) (w : World) (h1 : RI w vC xs) (h2 : RL w vL ls) (h3 : RI w uC xs) (h4 : RL w uL ls) (hm : xs.length ≤ 9000000000000) (hm2 : ls.length ≤ 9000000000000) :
    Calls Try.prog 7 #[.agg #[.int .i64 vars, vC, vL], .agg #[.int .i64 vars, uC, uL]] w fun e w' => e = .returned (.bool true) ∧ Below w.heap.size w w' := by
  have HS := Lib.hid (fun W (hb : Below w.heap.size w W) => same16_any vC uC xs W (h1.below hb) (h3.below hb) hm)
  obtain ⟨A1, c1, rfl⟩ := h1.form
  obtain ⟨A3, c3, rfl⟩ := h3.form
  obtain ⟨A, c, rfl⟩ := h2.form
  obtain ⟨A', c', rfl⟩ := h4.form
  have HR := Lib.hid (And.intro h2 h4)
  obtain ⟨n, hn⟩ : ∃ n, ls.length = n := ⟨_, rfl⟩
  rw [hn]
  rw [hn] at HR hm2
  have HN := Lib.hid hn
  have HQ := neqL_self
  have HB := Lib.hid (fun o o' => baft (bnew w o) (bnew (w.alloc o) o'))
  obtain ⟨z, hz⟩ : ∃ z, xs.length = z := ⟨_, rfl⟩
  rw [hz]
  rw [hz] at HS
  clear h1 h2 h3 h4 hn hz hm
  go_enter Try.func7, Try.ntmps7
  go_wp2_with fail
  refine (HS.out _ (HB.out _ _)).mono ?_
  rintro en w1 ⟨rfl, d, rfl⟩
  go_wp2
  have hbx := HB.out (.cells #[.int .i64 vars, .slice A1 z c1, .slice A n c] 25) (.cells #[.int .i64 vars, .slice A3 z c3, .slice A' n c'] 25)
  have hk := box3at (baft (bnew (w.alloc (.cells #[.int .i64 vars, .slice A1 z c1, .slice A n c] 25)) (.cells #[.int .i64 vars, .slice A3 z c3, .slice A' n c'] 25)) (Below.refl _ _))
  have hk' := blk_cells3 (two_new w (.cells #[.int .i64 vars, .slice A1 z c1, .slice A n c] 25) #[.int .i64 vars, .slice A3 z c3, .slice A' n c'] 25)
  generalize (w.alloc (.cells #[.int .i64 vars, .slice A1 z c1, .slice A n c] 25)).alloc (.cells #[.int .i64 vars, .slice A3 z c3, .slice A' n c'] 25) = W0 at *
  obtain ⟨k0, k1, k2⟩ := hk
  obtain ⟨m0, m1, m2, f0, f1, f2⟩ := hk'
  have HBX := Lib.hid hbx
  clear hbx HB HS k0 k1 m0 m1 f0 f1 f2
  go_loopw [5] (fun iv wr => ∃ i : Nat, i ≤ n ∧ iv = .int .i64 i ∧ ∃ d, wr = W0.drewN d) (fun iv _ => n - (intOf iv).toNat)
  case atStart => exact ⟨0, by omega, rfl, d, rfl⟩
  case round =>
    obtain ⟨i, hi, rfl, d, rfl⟩ := hrel
    by_cases hin : i < n
    · obtain ⟨x, hx⟩ : ∃ x, ls[i]? = some x := ⟨_, List.getElem?_eq_getElem (by have := HN.out; omega)⟩
      obtain ⟨b, o, rfl, a0, a1, a2, a3, a4⟩ := (HR.out.1.below HBX.out).at hx
      obtain ⟨b', o', rfl, d0, d1, d2, d3, d4⟩ := (HR.out.2.below HBX.out).at hx
      clear hx
      have hlt : (i : Int) < (n : Int) := by omega
      go_wp2
      go_quiet (fail)
      go_wp2
      go_roundw
      case rel => exact ⟨i + 1, by omega, by go_num, _, rfl⟩
      case measure => simp [intOf]; omega
    · obtain rfl : i = n := by omega
      go_wp2
      go_ret
      exact ⟨rfl, below_drewN HBX.out _⟩
end Go.Proofs.Ytggjbbkcdbnckaa
