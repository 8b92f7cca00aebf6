/- Layer 5, the program: scan's deferred closure, and scan. -/
import Derived.Test.YtiadjcilfljdaaaRdrI
import Derived.Defers
import Derived.Recover
import Derived.Test.YtiadjcilfljdaaaRdrJ
namespace Go.Proofs.Ytiadjcilfljdaaa
set_option linter.unusedVariables false
set_option linter.unusedSimpArgs false
open Go.RowKit Verge

abbrev cI (v : Value) : Obj := .cells #[v] 3
abbrev cE (v : Value) : Obj := .cells #[v] 23
theorem ta_is (v : Value) (W : World) : (Instr.typeAssert (.iface 53 v) 20 53 true).run Try.prog W = .ok (.tuple #[v, .bool true]) W := by kernel_rfl
theorem back_heap {W : World} {R A E : Nat} {n : Bool} {V D : Value} {k a0 e0 : Int} (hR : W.heap[R]? = some (nmO n V D k)) (hA : W.heap[A]? = some (cI (.int .i64 a0))) (hE : W.heap[E]? = some (cE (.int .i64 e0))) (h1 : R ≠ A) (h2 : R ≠ E) (h3 : A ≠ E) (p c : Int) :
    (((((((W.setCell ⟨R, 0, none⟩ (.bool false)).setCell ⟨R, 1, none⟩ (.slice none 0 0)).setCell ⟨R, 2, none⟩ (.slice none 0 0)).setCell ⟨R, 3, none⟩ (.int .i64 0)).setCell ⟨A, 0, none⟩ (.int .i64 p)).setCell ⟨E, 0, none⟩ (.int .i64 c)).drew).heap[R]? = some (nmO false (.slice none 0 0) (.slice none 0 0) 0) ∧
    (((((((W.setCell ⟨R, 0, none⟩ (.bool false)).setCell ⟨R, 1, none⟩ (.slice none 0 0)).setCell ⟨R, 2, none⟩ (.slice none 0 0)).setCell ⟨R, 3, none⟩ (.int .i64 0)).setCell ⟨A, 0, none⟩ (.int .i64 p)).setCell ⟨E, 0, none⟩ (.int .i64 c)).drew).heap[A]? = some (cI (.int .i64 p)) ∧
    (((((((W.setCell ⟨R, 0, none⟩ (.bool false)).setCell ⟨R, 1, none⟩ (.slice none 0 0)).setCell ⟨R, 2, none⟩ (.slice none 0 0)).setCell ⟨R, 3, none⟩ (.int .i64 0)).setCell ⟨A, 0, none⟩ (.int .i64 p)).setCell ⟨E, 0, none⟩ (.int .i64 c)).drew).heap[E]? = some (cE (.int .i64 c)) ∧
    ∀ g, g ≠ R → g ≠ A → g ≠ E → (((((((W.setCell ⟨R, 0, none⟩ (.bool false)).setCell ⟨R, 1, none⟩ (.slice none 0 0)).setCell ⟨R, 2, none⟩ (.slice none 0 0)).setCell ⟨R, 3, none⟩ (.int .i64 0)).setCell ⟨A, 0, none⟩ (.int .i64 p)).setCell ⟨E, 0, none⟩ (.int .i64 c)).drew).heap[g]? = W.heap[g]? := by
  have e : ∀ X : World, X.drew.heap = X.heap := fun _ => rfl
  refine ⟨?_, ?_, ?_, fun g g1 g2 g3 => ?_⟩
  · rw [e, set_other _ E 0 R _ h2, set_other _ A 0 R _ h1]
    simp [World.setCell, Array.getElem?_modify, hR]
  · rw [e, set_other _ E 0 A _ h3]
    have : ((((W.setCell ⟨R, 0, none⟩ (.bool false)).setCell ⟨R, 1, none⟩ (.slice none 0 0)).setCell ⟨R, 2, none⟩ (.slice none 0 0)).setCell ⟨R, 3, none⟩ (.int .i64 0)).heap[A]? = some (cI (.int .i64 a0)) := by
      rw [set_other _ R 3 A _ (Ne.symm h1), set_other _ R 2 A _ (Ne.symm h1), set_other _ R 1 A _ (Ne.symm h1), set_other _ R 0 A _ (Ne.symm h1)]; exact hA
    generalize ((((W.setCell ⟨R, 0, none⟩ (.bool false)).setCell ⟨R, 1, none⟩ (.slice none 0 0)).setCell ⟨R, 2, none⟩ (.slice none 0 0)).setCell ⟨R, 3, none⟩ (.int .i64 0)) = X at *
    simp [World.setCell, Array.getElem?_modify, this]
  · have : (((((W.setCell ⟨R, 0, none⟩ (.bool false)).setCell ⟨R, 1, none⟩ (.slice none 0 0)).setCell ⟨R, 2, none⟩ (.slice none 0 0)).setCell ⟨R, 3, none⟩ (.int .i64 0)).setCell ⟨A, 0, none⟩ (.int .i64 p)).heap[E]? = some (cE (.int .i64 e0)) := by
      rw [set_other _ A 0 E _ (Ne.symm h3), set_other _ R 3 E _ (Ne.symm h2), set_other _ R 2 E _ (Ne.symm h2), set_other _ R 1 E _ (Ne.symm h2), set_other _ R 0 E _ (Ne.symm h2)]; exact hE
    rw [e]
    generalize (((((W.setCell ⟨R, 0, none⟩ (.bool false)).setCell ⟨R, 1, none⟩ (.slice none 0 0)).setCell ⟨R, 2, none⟩ (.slice none 0 0)).setCell ⟨R, 3, none⟩ (.int .i64 0)).setCell ⟨A, 0, none⟩ (.int .i64 p)) = X at *
    simp [World.setCell, Array.getElem?_modify, this]
  · rw [e, set_other _ E 0 g _ g3, set_other _ A 0 g _ g2, set_other _ R 3 g _ g1, set_other _ R 2 g _ g1, set_other _ R 1 g _ g1, set_other _ R 0 g _ g1]
theorem below_set {B : Nat} {w W : World} (h : Below B w W) (p i : Nat) (v : Value) (hp : B ≤ p) : Below B w (W.setCell ⟨p, i, none⟩ v) :=
  ⟨h.os, h.tape, h.output, by have := h.size; simpa [World.setCell] using this, fun g hg => (set_other W p i g v (by omega)).trans (h.block g hg)⟩
set_option maxRecDepth 100000 in
set_option maxHeartbeats 2000000 in
theorem catch_p (R A E : Nat) (p c : Int) (older : List PanicEntry) (w : World) (n : Bool) (V D : Value) (k a0 e0 : Int) (hR : w.heap[R]? = some (nmO n V D k)) (hA : w.heap[A]? = some (cI (.int .i64 a0))) (hE : w.heap[E]? = some (cE (.int .i64 e0)))
    (h1 : R ≠ A) (h2 : R ≠ E) (h3 : A ≠ E) (B : Nat) (hB1 : B ≤ R) (hB2 : B ≤ A) (hB3 : B ≤ E) (hB : B ≤ w.heap.size) :
    CallsD Try.prog 19 #[.pointer (some ⟨R, 0, none⟩), .pointer (some ⟨A, 0, none⟩), .pointer (some ⟨E, 0, none⟩)] (.panicking ({ v := .iface 53 (.agg #[.int .i64 p, .int .i64 c]), recovered := false } :: older)) w fun e u' w' =>
      e = .returned (.tuple #[]) ∧ u' = .panicking ({ v := .iface 53 (.agg #[.int .i64 p, .int .i64 c]), recovered := true } :: older) ∧
      w'.heap[R]? = some (nmO false (.slice none 0 0) (.slice none 0 0) 0) ∧ w'.heap[A]? = some (cI (.int .i64 p)) ∧ w'.heap[E]? = some (cE (.int .i64 c)) ∧ Below B w w' := by
  have hfr : ∀ a b c : Value, (#[a, b, c] ++ Array.replicate (Try.f19.ntmps - (#[a, b, c] : Array Value).size) undef : Array Value) = #[a, b, c, undef, undef, undef, undef, undef, undef, undef, undef, undef, undef, undef, undef, undef] := fun _ _ _ => rfl
  have hb := rnew w (fO (.int .i64 p) (.int .i64 c))
  have hR' := (hb.block R (Array.getElem?_eq_some_iff.1 hR).1).trans hR
  have hA' := (hb.block A (Array.getElem?_eq_some_iff.1 hA).1).trans hA
  have hE' := (hb.block E (Array.getElem?_eq_some_iff.1 hE).1).trans hE
  have hF' := heap_alloc_new w (fO (.int .i64 p) (.int .i64 c))
  have r1 := (Array.getElem?_eq_some_iff.1 hR).1
  have r2 := (Array.getElem?_eq_some_iff.1 hA).1
  have r3 := (Array.getElem?_eq_some_iff.1 hE).1
  have hsz : w.heap.size ≤ (w.alloc (fO (.int .i64 p) (.int .i64 c))).heap.size := by show w.heap.size ≤ (w.heap.push _).size; simp
  refine callsD_of_wpS Try.func19 rfl fun c₀ cs hu => ?_
  rw [hfr]
  apply wpS_seq
  apply wpS_region
  generalize hQ : bodyPostS Try.prog Try.f19 c₀ cs _ = Q
  simp [wpOpsS, go_sem, recoverD, hu, Try.ntmps19, ta_is, Exit.thenS]
  apply wpS_seq
  apply wpS_region
  simp [wpOpsS, go_sem, Exit.thenS]
  refine wpS_cond (t := true) (by simp [Act.eval]) ?_
  simp only [if_true]
  refine wpS_of_wp ?_
  generalize w.alloc (fO (.int .i64 p) (.int .i64 c)) = W at *
  have k1 : ¬ w.heap.size = R := by omega
  have k2 : ¬ w.heap.size = A := by omega
  have k3 : ¬ w.heap.size = E := by omega
  have c0 : W.cell? ⟨w.heap.size, 0, none⟩ = some (.int .i64 p) := by simp [World.cell?, hF']
  have c1 : W.cell? ⟨w.heap.size, 1, none⟩ = some (.int .i64 c) := by simp [World.cell?, hF']
  have j0 : W.cell? ⟨R, 0, none⟩ = some (.bool n) := by simp [World.cell?, hR']
  have j1 : W.cell? ⟨R, 1, none⟩ = some V := by simp [World.cell?, hR']
  have j2 : W.cell? ⟨R, 2, none⟩ = some D := by simp [World.cell?, hR']
  have j3 : W.cell? ⟨R, 3, none⟩ = some (.int .i64 k) := by simp [World.cell?, hR']
  have f0 : W.frozen? ⟨R, 0, none⟩ = false := by simp [World.frozen?, hR']
  have f1 : W.frozen? ⟨R, 1, none⟩ = false := by simp [World.frozen?, hR']
  have f2 : W.frozen? ⟨R, 2, none⟩ = false := by simp [World.frozen?, hR']
  have f3 : W.frozen? ⟨R, 3, none⟩ = false := by simp [World.frozen?, hR']
  have a1 : W.cell? ⟨A, 0, none⟩ = some (.int .i64 a0) := by simp [World.cell?, hA']
  have a2 : W.frozen? ⟨A, 0, none⟩ = false := by simp [World.frozen?, hA']
  have b1 : W.cell? ⟨E, 0, none⟩ = some (.int .i64 e0) := by simp [World.cell?, hE']
  have b2 : W.frozen? ⟨E, 0, none⟩ = false := by simp [World.frozen?, hE']
  go_region
  subst hQ
  clear c0 c1 j0 j1 j2 j3 f0 f1 f2 f3 a1 a2 b1 b2 k1 k2 k3 hfr
  obtain ⟨g1, g2, g3, g4⟩ := back_heap hR' hA' hE' h1 h2 h3 p c
  have hbl : Below B w (((((((W.setCell ⟨R, 0, none⟩ (.bool false)).setCell ⟨R, 1, none⟩ (.slice none 0 0)).setCell ⟨R, 2, none⟩ (.slice none 0 0)).setCell ⟨R, 3, none⟩ (.int .i64 0)).setCell ⟨A, 0, none⟩ (.int .i64 p)).setCell ⟨E, 0, none⟩ (.int .i64 c)).drew) :=
    below_drewN (below_set (below_set (below_set (below_set (below_set (below_set ⟨hb.os, hb.tape, hb.output, hb.size, fun g hg => hb.block g (by omega)⟩ R 0 _ hB1) R 1 _ hB1) R 2 _ hB1) R 3 _ hB1) A 0 _ hB2) E 0 _ hB3) 1
  have hfin : ∀ W' : World, Below B w W' → W'.heap[R]? = some (nmO false (.slice none 0 0) (.slice none 0 0) 0) → W'.heap[A]? = some (cI (.int .i64 p)) → W'.heap[E]? = some (cE (.int .i64 c)) → ∀ ts : Array Value,
      bodyPostS Try.prog Try.f19 c₀ cs (fun e u' w' => e = .returned (.tuple #[]) ∧ u' = .panicking ({ v := .iface 53 (.agg #[.int .i64 p, .int .i64 c]), recovered := true } :: older) ∧ w'.heap[R]? = some (nmO false (.slice none 0 0) (.slice none 0 0) 0) ∧ w'.heap[A]? = some (cI (.int .i64 p)) ∧ w'.heap[E]? = some (cE (.int .i64 c)) ∧ Below B w w') .normal { tmps := ts, defers := [] } ({ c₀ with mode := .panicking ({ v := .iface 53 (.agg #[.int .i64 p, .int .i64 c]), recovered := true } :: older) } :: cs) W' := by
    intro W' h1 h2 h3 h4 ts
    refine ⟨rfl, .panicking ({ v := .iface 53 (.agg #[.int .i64 p, .int .i64 c]), recovered := true } :: older), rfl, .tuple #[], ?_, rfl, rfl, h2, h3, h4, h1⟩
    exact results_none rfl _ _ _
  exact hfin _ hbl g1 g2 g3 _
end Go.Proofs.Ytiadjcilfljdaaa

namespace Go.Proofs.Ytiadjcilfljdaaa
set_option linter.unusedVariables false
set_option linter.unusedSimpArgs false
open Go.RowKit Verge

theorem ta_no (W : World) : (Instr.typeAssert .nilIface 20 53 true).run Try.prog W = .ok (.tuple #[.agg #[.int .i64 0, .int .i64 0], .bool false]) W := by kernel_rfl
set_option maxRecDepth 100000 in
set_option maxHeartbeats 200000 in
theorem catch_i (R A E : Nat) (w : World) :
    CallsD Try.prog 19 #[.pointer (some ⟨R, 0, none⟩), .pointer (some ⟨A, 0, none⟩), .pointer (some ⟨E, 0, none⟩)] .returning w fun e u' w' =>
      e = .returned (.tuple #[]) ∧ u' = .returning ∧ Below w.heap.size w w' := by
  have hfr : ∀ a b c : Value, (#[a, b, c] ++ Array.replicate (Try.f19.ntmps - (#[a, b, c] : Array Value).size) undef : Array Value) = #[a, b, c, undef, undef, undef, undef, undef, undef, undef, undef, undef, undef, undef, undef, undef] := fun _ _ _ => rfl
  have hb := rnew w (fO (.int .i64 0) (.int .i64 0))
  refine callsD_of_wpS Try.func19 rfl fun c₀ cs hu => ?_
  rw [hfr]
  apply wpS_seq
  apply wpS_region
  generalize hQ : bodyPostS Try.prog Try.f19 c₀ cs _ = Q
  simp [wpOpsS, go_sem, recoverD, hu, Try.ntmps19, ta_no, Exit.thenS]
  apply wpS_seq
  apply wpS_region
  simp [wpOpsS, go_sem, Exit.thenS]
  refine wpS_cond (t := false) (by simp [Act.eval]) ?_
  simp only [Bool.false_eq_true, if_false]
  refine wpS_of_wp (wp_skip ?_)
  subst hQ
  have hc : c₀ = { c₀ with mode := .returning } := by rw [← hu]
  refine ⟨rfl, .returning, congrArg (· :: cs) hc, .tuple #[], results_none rfl _ _ _, rfl, rfl, ?_⟩
  exact hb
end Go.Proofs.Ytiadjcilfljdaaa

namespace Go.Proofs.Ytiadjcilfljdaaa
set_option linter.unusedVariables false
set_option linter.unusedSimpArgs false
open Go.RowKit Verge

theorem numeral_any (w : World) (b : Nat) (l : List UInt8) (h : Rdr w b l l) (hl : l.length ≤ 4096) : Calls Try.prog 20 #[.pointer (some ⟨b, 0, none⟩)] w (NumAns w b (scn l)) := by
  cases hh : hexy (sg l).2 with
  | some t => exact num_hex w b l h hl t hh
  | none => exact num_dec w b l h hl hh
/-- What scan answers. -/
def IsScan : Except (Nat × Int) (Bool × Nat × Nat × Int) → Value → World → Prop
  | .error (p, c), v, _ => v = .tuple #[.agg #[.bool false, .slice none 0 0, .slice none 0 0, .int .i64 0], .int .i64 (p : Int), .int .i64 c]
  | .ok (n, N, D, K), v, w => ∃ v1 v2, v = .tuple #[.agg #[.bool n, v1, v2, .int .i64 K], .int .i64 0, .int .i64 0] ∧ IsT N v1 w ∧ IsT D v2 w
abbrev scW (w : World) (S : ByteArray) : World := (((w.alloc (nmO false (.slice none 0 0) (.slice none 0 0) 0)).alloc (cI (.int .i64 0))).alloc (cE (.int .i64 0))).alloc (.cells #[.string S, .int .i64 0] 56)
theorem scW_ok (w : World) (l : List UInt8) : Below w.heap.size w (scW w (bs l)) ∧ (scW w (bs l)).heap.size = w.heap.size + 1 + 1 + 1 + 1 ∧ (scW w (bs l)).heap[w.heap.size]? = some (nmO false (.slice none 0 0) (.slice none 0 0) 0) ∧ (scW w (bs l)).heap[w.heap.size + 1]? = some (cI (.int .i64 0)) ∧ (scW w (bs l)).heap[w.heap.size + 1 + 1]? = some (cE (.int .i64 0)) ∧ Rdr (scW w (bs l)) (w.heap.size + 1 + 1 + 1) l l := by
  have sz : ∀ (X : World) (o : Obj), (X.alloc o).heap.size = X.heap.size + 1 := fun X o => by show (X.heap.push _).size = _; simp
  have n0 := heap_alloc_new w (nmO false (.slice none 0 0) (.slice none 0 0) 0)
  have b0 := rnew w (nmO false (.slice none 0 0) (.slice none 0 0) 0)
  have s0 := sz w (nmO false (.slice none 0 0) (.slice none 0 0) 0)
  unfold scW
  generalize w.alloc (nmO false (.slice none 0 0) (.slice none 0 0) 0) = W1 at *
  have n1 := heap_alloc_new W1 (cI (.int .i64 0))
  have b1 := rnew W1 (cI (.int .i64 0))
  have s1 := sz W1 (cI (.int .i64 0))
  generalize W1.alloc (cI (.int .i64 0)) = W2 at *
  have n2 := heap_alloc_new W2 (cE (.int .i64 0))
  have b2 := rnew W2 (cE (.int .i64 0))
  have s2 := sz W2 (cE (.int .i64 0))
  generalize W2.alloc (cE (.int .i64 0)) = W3 at *
  have n3 := heap_alloc_new W3 (.cells #[.string (bs l), .int .i64 0] 56)
  have b3 := rnew W3 (.cells #[.string (bs l), .int .i64 0] 56)
  have s3 := sz W3 (.cells #[.string (bs l), .int .i64 0] 56)
  generalize W3.alloc (.cells #[.string (bs l), .int .i64 0] 56) = W4 at *
  rw [s0] at n1 s1
  rw [s1] at n2 s2
  rw [s2] at n3 s3
  refine ⟨raft (raft (raft b0 b1) b2) b3, s3, ?_, ?_, ?_, ?_⟩
  · rw [b3.block _ (by omega), b2.block _ (by omega), b1.block _ (by omega)]; exact n0
  · rw [b3.block _ (by omega), b2.block _ (by omega)]; exact n1
  · rw [b3.block _ (by omega)]; exact n2
  · refine ⟨Nat.le_refl _, by simp, ?_⟩
    rw [n3, Nat.sub_self]; rfl
theorem six_heap {W : World} {R A E : Nat} {n : Bool} {V D : Value} {k a0 e0 : Int} (hR : W.heap[R]? = some (nmO n V D k)) (hA : W.heap[A]? = some (cI (.int .i64 a0))) (hE : W.heap[E]? = some (cE (.int .i64 e0))) (h1 : R ≠ A) (h2 : R ≠ E) (h3 : A ≠ E) (n' : Bool) (V' D' : Value) (k' p c : Int) :
    ((((((W.setCell ⟨R, 0, none⟩ (.bool n')).setCell ⟨R, 1, none⟩ V').setCell ⟨R, 2, none⟩ D').setCell ⟨R, 3, none⟩ (.int .i64 k')).setCell ⟨A, 0, none⟩ (.int .i64 p)).setCell ⟨E, 0, none⟩ (.int .i64 c)).heap[R]? = some (nmO n' V' D' k') ∧
    ((((((W.setCell ⟨R, 0, none⟩ (.bool n')).setCell ⟨R, 1, none⟩ V').setCell ⟨R, 2, none⟩ D').setCell ⟨R, 3, none⟩ (.int .i64 k')).setCell ⟨A, 0, none⟩ (.int .i64 p)).setCell ⟨E, 0, none⟩ (.int .i64 c)).heap[A]? = some (cI (.int .i64 p)) ∧
    ((((((W.setCell ⟨R, 0, none⟩ (.bool n')).setCell ⟨R, 1, none⟩ V').setCell ⟨R, 2, none⟩ D').setCell ⟨R, 3, none⟩ (.int .i64 k')).setCell ⟨A, 0, none⟩ (.int .i64 p)).setCell ⟨E, 0, none⟩ (.int .i64 c)).heap[E]? = some (cE (.int .i64 c)) ∧
    ∀ g, g ≠ R → g ≠ A → g ≠ E → ((((((W.setCell ⟨R, 0, none⟩ (.bool n')).setCell ⟨R, 1, none⟩ V').setCell ⟨R, 2, none⟩ D').setCell ⟨R, 3, none⟩ (.int .i64 k')).setCell ⟨A, 0, none⟩ (.int .i64 p)).setCell ⟨E, 0, none⟩ (.int .i64 c)).heap[g]? = W.heap[g]? := by
  refine ⟨?_, ?_, ?_, fun g g1 g2 g3 => ?_⟩
  · rw [set_other _ E 0 R _ h2, set_other _ A 0 R _ h1]
    simp [World.setCell, Array.getElem?_modify, hR]
  · rw [set_other _ E 0 A _ h3]
    have : ((((W.setCell ⟨R, 0, none⟩ (.bool n')).setCell ⟨R, 1, none⟩ V').setCell ⟨R, 2, none⟩ D').setCell ⟨R, 3, none⟩ (.int .i64 k')).heap[A]? = some (cI (.int .i64 a0)) := by
      rw [set_other _ R 3 A _ (Ne.symm h1), set_other _ R 2 A _ (Ne.symm h1), set_other _ R 1 A _ (Ne.symm h1), set_other _ R 0 A _ (Ne.symm h1)]; exact hA
    generalize ((((W.setCell ⟨R, 0, none⟩ (.bool n')).setCell ⟨R, 1, none⟩ V').setCell ⟨R, 2, none⟩ D').setCell ⟨R, 3, none⟩ (.int .i64 k')) = X at *
    simp [World.setCell, Array.getElem?_modify, this]
  · have : (((((W.setCell ⟨R, 0, none⟩ (.bool n')).setCell ⟨R, 1, none⟩ V').setCell ⟨R, 2, none⟩ D').setCell ⟨R, 3, none⟩ (.int .i64 k')).setCell ⟨A, 0, none⟩ (.int .i64 p)).heap[E]? = some (cE (.int .i64 e0)) := by
      rw [set_other _ A 0 E _ (Ne.symm h3), set_other _ R 3 E _ (Ne.symm h2), set_other _ R 2 E _ (Ne.symm h2), set_other _ R 1 E _ (Ne.symm h2), set_other _ R 0 E _ (Ne.symm h2)]; exact hE
    generalize (((((W.setCell ⟨R, 0, none⟩ (.bool n')).setCell ⟨R, 1, none⟩ V').setCell ⟨R, 2, none⟩ D').setCell ⟨R, 3, none⟩ (.int .i64 k')).setCell ⟨A, 0, none⟩ (.int .i64 p)) = X at *
    simp [World.setCell, Array.getElem?_modify, this]
  · rw [set_other _ E 0 g _ g3, set_other _ A 0 g _ g2, set_other _ R 3 g _ g1, set_other _ R 2 g _ g1, set_other _ R 1 g _ g1, set_other _ R 0 g _ g1]
theorem res_cells {W : World} {R A E : Nat} {n : Bool} {V D : Value} {k p c : Int} (hR : W.heap[R]? = some (nmO n V D k)) (hA : W.heap[A]? = some (cI (.int .i64 p))) (hE : W.heap[E]? = some (cE (.int .i64 c))) :
    W.cell? ⟨R, 0, none⟩ = some (.bool n) ∧ W.cell? ⟨R, 1, none⟩ = some V ∧ W.cell? ⟨R, 2, none⟩ = some D ∧ W.cell? ⟨R, 3, none⟩ = some (.int .i64 k) ∧ W.cell? ⟨A, 0, none⟩ = some (.int .i64 p) ∧ W.cell? ⟨E, 0, none⟩ = some (.int .i64 c) ∧
    W.frozen? ⟨R, 0, none⟩ = false ∧ W.frozen? ⟨R, 1, none⟩ = false ∧ W.frozen? ⟨R, 2, none⟩ = false ∧ W.frozen? ⟨R, 3, none⟩ = false ∧ W.frozen? ⟨A, 0, none⟩ = false ∧ W.frozen? ⟨E, 0, none⟩ = false := by
  refine ⟨?_, ?_, ?_, ?_, ?_, ?_, ?_, ?_, ?_, ?_, ?_, ?_⟩ <;> simp [World.cell?, World.frozen?, hR, hA, hE]
set_option maxRecDepth 100000 in
set_option maxHeartbeats 1000000 in
theorem scan_any (l : List UInt8) (hl : l.length ≤ 140737488355328) (w : World) : Calls Try.prog 10 #[.string (bs l)] w (Ans w (IsScan (scn l))) := by
  have hmf : ∀ (fn : Fn) (first cap : Array Value) (w : World), (Instr.makeFunc fn first cap).run Try.prog w = .ok (.func fn first cap) w := fun _ _ _ _ => rfl
  have hsz : (bs l).size = l.length := bs_size l
  by_cases hL : 4096 < l.length
  · have hs : scn l = .error (4096, 2) := if_pos hL
    rw [hs]
    have hLI : 4096 < (l.length : Int) := by omega
    generalize bs l = S at *
    clear hs
    go_enter_defers Try.func10, Try.ntmps10
    go_wp2
    exact ⟨.tuple #[.agg #[.bool false, .slice none 0 0, .slice none 0 0, .int .i64 0], .int .i64 4096, .int .i64 2], by simp [results, Try.results10, go_sem], _, rfl, rfl, raft (raft (rnew _ _) (rnew _ _)) (rnew _ _)⟩
  · have hLI : ¬ 4096 < (l.length : Int) := by omega
    obtain ⟨hb, hsW, hR, hA, hE, hrd⟩ := scW_ok w l
    have hN := numeral_any (scW w (bs l)) _ l hrd (by omega)
    generalize bs l = S at *
    cases hs : scn l with
    | error pc =>
      obtain ⟨p, c⟩ := pc
      rw [hs] at hN
      have HN := Lib.hid hN
      have HW := Lib.hid (And.intro hb (And.intro hsW (And.intro hR (And.intro hA hE))))
      clear hN hb hR hA hE hrd hs hL hsW
      go_enter_defers Try.func10, Try.ntmps10
      go_wp2_with (go_at_call 20; refine (HN.out).mono ?_; rintro e w5 ⟨rfl, hg⟩; have HG := Lib.hid hg; clear hg)
      obtain ⟨hb, hsW, hR, hA, hE⟩ := HW.out
      have hg := HG.out
      have hR5 := (hg.block w.heap.size (by omega) (by intro e; injection e with e; omega)).trans hR
      have hA5 := (hg.block (w.heap.size + 1) (by omega) (by intro e; injection e with e; omega)).trans hA
      have hE5 := (hg.block (w.heap.size + 1 + 1) (by omega) (by intro e; injection e with e; omega)).trans hE
      have hb5 : Below w.heap.size w w5 := ⟨hg.os.trans hb.os, hg.tape.trans hb.tape, hg.output.trans hb.output, Nat.le_trans hb.size hg.size, fun g hg' => (hg.block g (by omega) (by intro e; injection e with e; omega)).trans (hb.block g hg')⟩
      have hs5 := hg.size
      refine leaves_cons (f := 19) (args := #[.pointer (some ⟨w.heap.size, 0, none⟩), .pointer (some ⟨w.heap.size + 1, 0, none⟩), .pointer (some ⟨w.heap.size + 1 + 1, 0, none⟩)]) (by simp) (by simp [go_sem]) ?_
      refine (catch_p w.heap.size (w.heap.size + 1) (w.heap.size + 1 + 1) (p : Int) c [] w5 _ _ _ _ _ _ hR5 hA5 hE5 (by omega) (by omega) (by omega) w.heap.size (by omega) (by omega) (by omega) (by omega)).mono ?_
      rintro e u' w'' ⟨rfl, rfl, g1, g2, g3, hb6⟩
      obtain ⟨k0, k1, k2, k3, k4, k5, _⟩ := res_cells g1 g2 g3
      refine ⟨.tuple #[.agg #[.bool false, .slice none 0 0, .slice none 0 0, .int .i64 0], .int .i64 (p : Int), .int .i64 c], by simp [results, Try.results10, go_sem, k0, k1, k2, k3, k4, k5], _, rfl, rfl, hb5.trans hb6⟩
    | ok q =>
      obtain ⟨n, N, D, K⟩ := q
      rw [hs] at hN
      have HN := Lib.hid hN
      have HW := Lib.hid (And.intro hb (And.intro hsW (And.intro hR (And.intro hA hE))))
      clear hN hb hR hA hE hrd hs hL hsW
      go_enter_defers Try.func10, Try.ntmps10
      go_upto_region 5 with fail
      obtain ⟨hb, hsW, hR, hA, hE⟩ := HW.out
      have hbR : ¬ (w.heap.size + 1 + 1 + 1 = w.heap.size) := by omega
      go_wp2_with (go_at_call 20; refine (HN.out).mono ?_; rintro e w5 ⟨v1, v2, rfl, ⟨A1, rfl, hv1⟩, ⟨A2, rfl, hv2⟩, hg⟩; have hR5 := (hg.block w.heap.size (by omega) (by intro e; injection e with e; omega)).trans hR; have hA5 := (hg.block (w.heap.size + 1) (by omega) (by intro e; injection e with e; omega)).trans hA; have hE5 := (hg.block (w.heap.size + 1 + 1) (by omega) (by intro e; injection e with e; omega)).trans hE; obtain ⟨k0, k1, k2, k3, k4, k5, z0, z1, z2, z3, z4, z5⟩ := res_cells hR5 hA5 hE5; have HG := Lib.hid hg; have HR5 := Lib.hid (And.intro hR5 (And.intro hA5 hE5)); have HV := Lib.hid (And.intro hv1 hv2); clear hg hR5 hA5 hE5 hv1 hv2)
      have hg := HG.out
      have hs5 := hg.size
      have hb5 : Below w.heap.size w w5 := ⟨hg.os.trans hb.os, hg.tape.trans hb.tape, hg.output.trans hb.output, Nat.le_trans hb.size hg.size, fun g hg' => (hg.block g (by omega) (by intro e; injection e with e; omega)).trans (hb.block g hg')⟩
      obtain ⟨r1, r2, r3⟩ := HR5.out
      obtain ⟨g1, g2, g3, g4⟩ := six_heap r1 r2 r3 (by omega) (by omega) (by omega) n (.slice A1 (dig N).length (dig N).length) (.slice A2 (dig D).length (dig D).length) K 0 0
      have hno : ∀ g, (g = w.heap.size ∨ g = w.heap.size + 1 ∨ g = w.heap.size + 1 + 1) → ∀ i z, w5.cell? ⟨g, i, none⟩ ≠ some (.int .u32 z) := by
        rintro g (rfl | rfl | rfl) i z e
        · simp only [World.cell?, r1] at e
          rcases i with _ | _ | _ | _ | i <;> simp at e
        · simp only [World.cell?, r2] at e
          rcases i with _ | i <;> simp at e
        · simp only [World.cell?, r3] at e
          rcases i with _ | i <;> simp at e
      have t1 : IsT N (.slice A1 (dig N).length (dig N).length) w5 := ⟨A1, rfl, HV.out.1⟩
      have t2 : IsT D (.slice A2 (dig D).length (dig D).length) w5 := ⟨A2, rfl, HV.out.2⟩
      have u1 := t1.step _ hno (fun g _ hne => g4 g (fun e => hne (.inl e)) (fun e => hne (.inr (.inl e))) (fun e => hne (.inr (.inr e))))
      have u2 := t2.step _ hno (fun g _ hne => g4 g (fun e => hne (.inl e)) (fun e => hne (.inr (.inl e))) (fun e => hne (.inr (.inr e))))
      have hb6 := below_set (below_set (below_set (below_set (below_set (below_set hb5 w.heap.size 0 (.bool n) (Nat.le_refl _)) w.heap.size 1 (.slice A1 (dig N).length (dig N).length) (Nat.le_refl _)) w.heap.size 2 (.slice A2 (dig D).length (dig D).length) (Nat.le_refl _)) w.heap.size 3 (.int .i64 K) (Nat.le_refl _)) (w.heap.size + 1) 0 (.int .i64 0) (by omega)) (w.heap.size + 1 + 1) 0 (.int .i64 0) (by omega)
      clear hno t1 t2 hb5 hs5 hg r1 r2 r3 g4 HR5 HG HV HW hb hsW hR hA hE k0 k1 k2 k3 k4 k5 z0 z1 z2 z3 z4 z5
      generalize ((((((w5.setCell ⟨w.heap.size, 0, none⟩ (.bool n)).setCell ⟨w.heap.size, 1, none⟩ (.slice A1 (dig N).length (dig N).length)).setCell ⟨w.heap.size, 2, none⟩ (.slice A2 (dig D).length (dig D).length)).setCell ⟨w.heap.size, 3, none⟩ (.int .i64 K)).setCell ⟨w.heap.size + 1, 0, none⟩ (.int .i64 0)).setCell ⟨w.heap.size + 1 + 1, 0, none⟩ (.int .i64 0)) = W6 at *
      refine leaves_cons (f := 19) (args := #[.pointer (some ⟨w.heap.size, 0, none⟩), .pointer (some ⟨w.heap.size + 1, 0, none⟩), .pointer (some ⟨w.heap.size + 1 + 1, 0, none⟩)]) (by simp) (by simp [go_sem]) ?_
      refine (catch_i w.heap.size (w.heap.size + 1) (w.heap.size + 1 + 1) W6).mono ?_
      rintro e u' w'' ⟨rfl, rfl, hbi⟩
      have q1 := (hbi.block _ (Array.getElem?_eq_some_iff.1 g1).1).trans g1
      have q2 := (hbi.block _ (Array.getElem?_eq_some_iff.1 g2).1).trans g2
      have q3 := (hbi.block _ (Array.getElem?_eq_some_iff.1 g3).1).trans g3
      obtain ⟨k0, k1, k2, k3, k4, k5, _⟩ := res_cells q1 q2 q3
      refine ⟨.tuple #[.agg #[.bool n, .slice A1 (dig N).length (dig N).length, .slice A2 (dig D).length (dig D).length, .int .i64 K], .int .i64 0, .int .i64 0], by simp [results, Try.results10, go_sem, k0, k1, k2, k3, k4, k5], _, rfl, ⟨_, _, rfl, IsT.mono _ _ _ _ hbi u1, IsT.mono _ _ _ _ hbi u2⟩, raft hb6 hbi⟩
end Go.Proofs.Ytiadjcilfljdaaa

