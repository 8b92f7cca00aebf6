/- The law MeasKnown (a closed statement): the walk. -/
import Derived.Test.YtmmbbkeefphaiaaRadA
import Derived.Test.YtmmbbkeefphaiaaDistB
import Derived.Test.YtmmbbkeefphaiaaEndM
namespace Go.Proofs.Ytmmbbkeefphaiaa
set_option linter.unusedVariables false
set_option linter.unusedSimpArgs false
open Go.RowKit Verge

theorem isnan8_any (v : Nat) (hv : v < 18446744073709551616) (w : World) : Calls Try.prog 52 #[.float .f64 v] w fun e w' => e = .returned (.bool (decide (fnan v))) ∧ Below w.heap.size w w' := by
  have o := f_self hv
  have o : (FloatKind.f64.format.order v v != some .eq) = decide (fnan v) := o
  obtain ⟨b, hb⟩ : ∃ b, decide (fnan v) = b := ⟨_, rfl⟩
  rw [hb] at o ⊢
  clear hb hv
  go_enter Try.func52, Try.ntmps52
  go_wp2
  go_ret
  exact ⟨rfl, Below.refl _ _⟩
/-- Boxes of two floats. -/
def Bxf (wx : World) : List (Nat × Nat × Nat) → Prop
  | [] => True
  | t :: l => B2 wx t.1 29 (.float .f64 t.2.1) (.float .f64 t.2.2) ∧ Bxf wx l
theorem Bxf.later {wx wy : World} (hb : Below wx.heap.size wx wy) : ∀ {l : List (Nat × Nat × Nat)}, Bxf wx l → Bxf wy l
  | [], _ => trivial
  | _ :: _, h => ⟨h.1.later hb, Bxf.later hb h.2⟩
def Sf (w wx : World) (l : List (Nat × Nat × Nat)) : Prop := Below w.heap.size w wx ∧ Bxf wx l
theorem Sf.later {w wx wy : World} {l : List (Nat × Nat × Nat)} (h : Sf w wx l) (hb : Below wx.heap.size wx wy) : Sf w wy l := ⟨h.1.trans (hb.mono h.1.size), h.2.later hb⟩
theorem Sf.new {w wx : World} {l : List (Nat × Nat × Nat)} (h : Sf w wx l) (a b : Nat) : Sf w (wx.alloc (.cells #[.float .f64 a, .float .f64 b] 29)) ((wx.heap.size, a, b) :: l) :=
  ⟨(h.later (bnew wx _)).1, B2.new wx _ _ _, h.2.later (bnew wx _)⟩
theorem size_alloc' (w : World) (o : Obj) : (w.alloc o).heap.size = w.heap.size + 1 := Array.size_push ..
theorem Sf.new4 (w : World) (a b c d e f g h : Nat) : Sf w ((((w.alloc (.cells #[.float .f64 a, .float .f64 b] 29)).alloc (.cells #[.float .f64 c, .float .f64 d] 29)).alloc (.cells #[.float .f64 e, .float .f64 f] 29)).alloc (.cells #[.float .f64 g, .float .f64 h] 29))
    [(w.heap.size + 1 + 1 + 1, g, h), (w.heap.size + 1 + 1, e, f), (w.heap.size + 1, c, d), (w.heap.size, a, b)] := by
  have := ((((show Sf w w [] from ⟨Below.refl _ _, trivial⟩).new a b).new c d).new e f).new g h
  rwa [size_alloc', size_alloc', size_alloc'] at this
theorem Bxf.far {wx : World} {r i : Nat} {u : Value} : ∀ {l : List (Nat × Nat × Nat)}, (∀ t ∈ l, t.1 ≠ r) → Bxf wx l → Bxf (wx.setCell ⟨r, i, none⟩ u) l
  | [], _, _ => trivial
  | t :: l, hn, h => ⟨h.1.far (hn t (List.mem_cons_self ..)), Bxf.far (fun t' ht => hn t' (List.mem_cons_of_mem _ ht)) h.2⟩
theorem Sf.put {w wx : World} {r a b : Nat} {l : List (Nat × Nat × Nat)} (h : Sf w wx ((r, a, b) :: l)) (hr : w.heap.size ≤ r) (hn : ∀ t ∈ l, t.1 ≠ r) (a' b' : Nat) :
    Sf w ((wx.setCell ⟨r, 0, none⟩ (.float .f64 a')).setCell ⟨r, 1, none⟩ (.float .f64 b')) ((r, a', b') :: l) :=
  ⟨(h.1.setCell hr _).setCell hr _, (h.2.1.set0 _).set1 _, (h.2.2.far hn).far hn⟩

theorem knownK0 (W : World) : Calls Try.prog 15 #[.agg #[.float .f64 9218868437227405312, .float .f64 18442240474082181120]] W fun e w' => e = .returned (.float .f64 9218868437227405312) ∧ Below W.heap.size W w' := by
  have h := minf_any 9218868437227405312 18442240474082181120 (by omega) (by omega) W
  rw [show flo 9218868437227405312 18442240474082181120 = 9218868437227405312 by decide +kernel] at h
  exact h
theorem knownK1 (W : World) : Calls Try.prog 18 #[.agg #[.float .f64 9218868437227405312, .float .f64 18442240474082181120]] W fun e w' => e = .returned (.float .f64 18442240474082181120) ∧ Below W.heap.size W w' := by
  have h := msup_any 9218868437227405312 18442240474082181120 (by omega) (by omega) W
  rw [show fhi 9218868437227405312 18442240474082181120 = 18442240474082181120 by decide +kernel] at h
  exact h
theorem knownK2 (W : World) : Calls Try.prog 33 #[.agg #[.float .f64 9218868437227405312, .float .f64 18442240474082181120]] W fun e w' => e = .returned (.float .f64 9221120237041090561) ∧ Below W.heap.size W w' := by
  have h := mid_any 9218868437227405312 18442240474082181120 (by omega) (by omega) W
  rw [show fmid 9218868437227405312 18442240474082181120 = 9221120237041090561 by decide +kernel] at h
  exact h
theorem knownK3 (W : World) : Calls Try.prog 41 #[.agg #[.float .f64 9218868437227405312, .float .f64 18442240474082181120]] W fun e w' => e = .returned (.float .f64 9221120237041090561) ∧ Below W.heap.size W w' := by
  have h := rad_any 9218868437227405312 18442240474082181120 (by omega) (by omega) W
  rw [show frad 9218868437227405312 18442240474082181120 = 9221120237041090561 by decide +kernel] at h
  exact h
theorem knownK4 (W : World) : Calls Try.prog 35 #[.agg #[.float .f64 9218868437227405312, .float .f64 18442240474082181120]] W fun e w' => e = .returned (.float .f64 9221120237041090561) ∧ Below W.heap.size W w' := by
  have h := wid_any 9218868437227405312 18442240474082181120 (by omega) (by omega) W
  rw [show fwid 9218868437227405312 18442240474082181120 = 9221120237041090561 by decide +kernel] at h
  exact h
theorem knownK5 (W : World) : Calls Try.prog 20 #[.agg #[.float .f64 9218868437227405312, .float .f64 18442240474082181120]] W fun e w' => e = .returned (.float .f64 9221120237041090561) ∧ Below W.heap.size W w' := by
  have h := mag_any 9218868437227405312 18442240474082181120 (by omega) (by omega) W
  rw [show fmag 9218868437227405312 18442240474082181120 = 9221120237041090561 by decide +kernel] at h
  exact h
theorem knownK6 (W : World) : Calls Try.prog 22 #[.agg #[.float .f64 9218868437227405312, .float .f64 18442240474082181120]] W fun e w' => e = .returned (.float .f64 9221120237041090561) ∧ Below W.heap.size W w' := by
  have h := mig_any 9218868437227405312 18442240474082181120 (by omega) (by omega) W
  rw [show fmig 9218868437227405312 18442240474082181120 = 9221120237041090561 by decide +kernel] at h
  exact h
theorem knownK7 (W : World) : Calls Try.prog 33 #[.agg #[.float .f64 18442240474082181120, .float .f64 9218868437227405312]] W fun e w' => e = .returned (.float .f64 0) ∧ Below W.heap.size W w' := by
  have h := mid_any 18442240474082181120 9218868437227405312 (by omega) (by omega) W
  rw [show fmid 18442240474082181120 9218868437227405312 = 0 by decide +kernel] at h
  exact h
theorem knownK8 (W : World) : Calls Try.prog 41 #[.agg #[.float .f64 18442240474082181120, .float .f64 9218868437227405312]] W fun e w' => e = .returned (.float .f64 9218868437227405312) ∧ Below W.heap.size W w' := by
  have h := rad_any 18442240474082181120 9218868437227405312 (by omega) (by omega) W
  rw [show frad 18442240474082181120 9218868437227405312 = 9218868437227405312 by decide +kernel] at h
  exact h
theorem knownK9 (W : World) : Calls Try.prog 35 #[.agg #[.float .f64 18442240474082181120, .float .f64 9218868437227405312]] W fun e w' => e = .returned (.float .f64 9218868437227405312) ∧ Below W.heap.size W w' := by
  have h := wid_any 18442240474082181120 9218868437227405312 (by omega) (by omega) W
  rw [show fwid 18442240474082181120 9218868437227405312 = 9218868437227405312 by decide +kernel] at h
  exact h
theorem knownK10 (W : World) : Calls Try.prog 20 #[.agg #[.float .f64 18442240474082181120, .float .f64 9218868437227405312]] W fun e w' => e = .returned (.float .f64 9218868437227405312) ∧ Below W.heap.size W w' := by
  have h := mag_any 18442240474082181120 9218868437227405312 (by omega) (by omega) W
  rw [show fmag 18442240474082181120 9218868437227405312 = 9218868437227405312 by decide +kernel] at h
  exact h
theorem knownK11 (W : World) : Calls Try.prog 22 #[.agg #[.float .f64 18442240474082181120, .float .f64 9218868437227405312]] W fun e w' => e = .returned (.float .f64 0) ∧ Below W.heap.size W w' := by
  have h := mig_any 18442240474082181120 9218868437227405312 (by omega) (by omega) W
  rw [show fmig 18442240474082181120 9218868437227405312 = 0 by decide +kernel] at h
  exact h
theorem knownK12 (W : World) : Calls Try.prog 33 #[.agg #[.float .f64 4607182418800017408, .float .f64 9218868437227405312]] W fun e w' => e = .returned (.float .f64 9218868437227405311) ∧ Below W.heap.size W w' := by
  have h := mid_any 4607182418800017408 9218868437227405312 (by omega) (by omega) W
  rw [show fmid 4607182418800017408 9218868437227405312 = 9218868437227405311 by decide +kernel] at h
  exact h
theorem knownK13 (W : World) : Calls Try.prog 41 #[.agg #[.float .f64 4607182418800017408, .float .f64 9218868437227405312]] W fun e w' => e = .returned (.float .f64 9218868437227405312) ∧ Below W.heap.size W w' := by
  have h := rad_any 4607182418800017408 9218868437227405312 (by omega) (by omega) W
  rw [show frad 4607182418800017408 9218868437227405312 = 9218868437227405312 by decide +kernel] at h
  exact h
theorem knownK14 (W : World) : Calls Try.prog 20 #[.agg #[.float .f64 4607182418800017408, .float .f64 9218868437227405312]] W fun e w' => e = .returned (.float .f64 9218868437227405312) ∧ Below W.heap.size W w' := by
  have h := mag_any 4607182418800017408 9218868437227405312 (by omega) (by omega) W
  rw [show fmag 4607182418800017408 9218868437227405312 = 9218868437227405312 by decide +kernel] at h
  exact h
theorem knownK15 (W : World) : Calls Try.prog 22 #[.agg #[.float .f64 4607182418800017408, .float .f64 9218868437227405312]] W fun e w' => e = .returned (.float .f64 4607182418800017408) ∧ Below W.heap.size W w' := by
  have h := mig_any 4607182418800017408 9218868437227405312 (by omega) (by omega) W
  rw [show fmig 4607182418800017408 9218868437227405312 = 4607182418800017408 by decide +kernel] at h
  exact h
theorem knownK16 (W : World) : Calls Try.prog 33 #[.agg #[.float .f64 18442240474082181120, .float .f64 13830554455654793216]] W fun e w' => e = .returned (.float .f64 18442240474082181119) ∧ Below W.heap.size W w' := by
  have h := mid_any 18442240474082181120 13830554455654793216 (by omega) (by omega) W
  rw [show fmid 18442240474082181120 13830554455654793216 = 18442240474082181119 by decide +kernel] at h
  exact h
theorem knownK17 (W : World) : Calls Try.prog 22 #[.agg #[.float .f64 18442240474082181120, .float .f64 13830554455654793216]] W fun e w' => e = .returned (.float .f64 4607182418800017408) ∧ Below W.heap.size W w' := by
  have h := mig_any 18442240474082181120 13830554455654793216 (by omega) (by omega) W
  rw [show fmig 18442240474082181120 13830554455654793216 = 4607182418800017408 by decide +kernel] at h
  exact h
theorem knownK18 (W : World) : Calls Try.prog 33 #[.agg #[.float .f64 13830554455654793216, .float .f64 4613937818241073152]] W fun e w' => e = .returned (.float .f64 4607182418800017408) ∧ Below W.heap.size W w' := by
  have h := mid_any 13830554455654793216 4613937818241073152 (by omega) (by omega) W
  rw [show fmid 13830554455654793216 4613937818241073152 = 4607182418800017408 by decide +kernel] at h
  exact h
theorem knownK19 (W : World) : Calls Try.prog 41 #[.agg #[.float .f64 13830554455654793216, .float .f64 4613937818241073152]] W fun e w' => e = .returned (.float .f64 4611686018427387904) ∧ Below W.heap.size W w' := by
  have h := rad_any 13830554455654793216 4613937818241073152 (by omega) (by omega) W
  rw [show frad 13830554455654793216 4613937818241073152 = 4611686018427387904 by decide +kernel] at h
  exact h
theorem knownK20 (W : World) : Calls Try.prog 35 #[.agg #[.float .f64 13830554455654793216, .float .f64 4613937818241073152]] W fun e w' => e = .returned (.float .f64 4616189618054758400) ∧ Below W.heap.size W w' := by
  have h := wid_any 13830554455654793216 4613937818241073152 (by omega) (by omega) W
  rw [show fwid 13830554455654793216 4613937818241073152 = 4616189618054758400 by decide +kernel] at h
  exact h
theorem knownK21 (W : World) : Calls Try.prog 20 #[.agg #[.float .f64 13830554455654793216, .float .f64 4613937818241073152]] W fun e w' => e = .returned (.float .f64 4613937818241073152) ∧ Below W.heap.size W w' := by
  have h := mag_any 13830554455654793216 4613937818241073152 (by omega) (by omega) W
  rw [show fmag 13830554455654793216 4613937818241073152 = 4613937818241073152 by decide +kernel] at h
  exact h
theorem knownK22 (W : World) : Calls Try.prog 22 #[.agg #[.float .f64 13830554455654793216, .float .f64 4613937818241073152]] W fun e w' => e = .returned (.float .f64 0) ∧ Below W.heap.size W w' := by
  have h := mig_any 13830554455654793216 4613937818241073152 (by omega) (by omega) W
  rw [show fmig 13830554455654793216 4613937818241073152 = 0 by decide +kernel] at h
  exact h
theorem knownK23 (W : World) : Calls Try.prog 33 #[.agg #[.float .f64 18442240474082181119, .float .f64 9218868437227405311]] W fun e w' => e = .returned (.float .f64 0) ∧ Below W.heap.size W w' := by
  have h := mid_any 18442240474082181119 9218868437227405311 (by omega) (by omega) W
  rw [show fmid 18442240474082181119 9218868437227405311 = 0 by decide +kernel] at h
  exact h
theorem knownK24 (W : World) : Calls Try.prog 41 #[.agg #[.float .f64 18442240474082181119, .float .f64 9218868437227405311]] W fun e w' => e = .returned (.float .f64 9218868437227405311) ∧ Below W.heap.size W w' := by
  have h := rad_any 18442240474082181119 9218868437227405311 (by omega) (by omega) W
  rw [show frad 18442240474082181119 9218868437227405311 = 9218868437227405311 by decide +kernel] at h
  exact h
theorem knownK25 (W : World) : Calls Try.prog 35 #[.agg #[.float .f64 18442240474082181119, .float .f64 9218868437227405311]] W fun e w' => e = .returned (.float .f64 9218868437227405312) ∧ Below W.heap.size W w' := by
  have h := wid_any 18442240474082181119 9218868437227405311 (by omega) (by omega) W
  rw [show fwid 18442240474082181119 9218868437227405311 = 9218868437227405312 by decide +kernel] at h
  exact h
theorem knownK26 (W : World) : Calls Try.prog 33 #[.agg #[.float .f64 0, .float .f64 1]] W fun e w' => e = .returned (.float .f64 0) ∧ Below W.heap.size W w' := by
  have h := mid_any 0 1 (by omega) (by omega) W
  rw [show fmid 0 1 = 0 by decide +kernel] at h
  exact h
theorem knownK27 (W : World) : Calls Try.prog 41 #[.agg #[.float .f64 0, .float .f64 1]] W fun e w' => e = .returned (.float .f64 1) ∧ Below W.heap.size W w' := by
  have h := rad_any 0 1 (by omega) (by omega) W
  rw [show frad 0 1 = 1 by decide +kernel] at h
  exact h
theorem knownK28 (W : World) : Calls Try.prog 35 #[.agg #[.float .f64 0, .float .f64 1]] W fun e w' => e = .returned (.float .f64 1) ∧ Below W.heap.size W w' := by
  have h := wid_any 0 1 (by omega) (by omega) W
  rw [show fwid 0 1 = 1 by decide +kernel] at h
  exact h
theorem knownK29 (W : World) : Calls Try.prog 33 #[.agg #[.float .f64 1, .float .f64 2]] W fun e w' => e = .returned (.float .f64 2) ∧ Below W.heap.size W w' := by
  have h := mid_any 1 2 (by omega) (by omega) W
  rw [show fmid 1 2 = 2 by decide +kernel] at h
  exact h
theorem knownK30 (W : World) : Calls Try.prog 41 #[.agg #[.float .f64 1, .float .f64 2]] W fun e w' => e = .returned (.float .f64 1) ∧ Below W.heap.size W w' := by
  have h := rad_any 1 2 (by omega) (by omega) W
  rw [show frad 1 2 = 1 by decide +kernel] at h
  exact h
theorem knownK31 (W : World) : Calls Try.prog 33 #[.agg #[.float .f64 9223372036854775809, .float .f64 4607182418800017408]] W fun e w' => e = .returned (.float .f64 4602678819172646912) ∧ Below W.heap.size W w' := by
  have h := mid_any 9223372036854775809 4607182418800017408 (by omega) (by omega) W
  rw [show fmid 9223372036854775809 4607182418800017408 = 4602678819172646912 by decide +kernel] at h
  exact h
theorem knownK32 (W : World) : Calls Try.prog 41 #[.agg #[.float .f64 9223372036854775809, .float .f64 4607182418800017408]] W fun e w' => e = .returned (.float .f64 4602678819172646913) ∧ Below W.heap.size W w' := by
  have h := rad_any 9223372036854775809 4607182418800017408 (by omega) (by omega) W
  rw [show frad 9223372036854775809 4607182418800017408 = 4602678819172646913 by decide +kernel] at h
  exact h
theorem knownK33 (W : World) : Calls Try.prog 35 #[.agg #[.float .f64 9223372036854775809, .float .f64 4607182418800017408]] W fun e w' => e = .returned (.float .f64 4607182418800017409) ∧ Below W.heap.size W w' := by
  have h := wid_any 9223372036854775809 4607182418800017408 (by omega) (by omega) W
  rw [show fwid 9223372036854775809 4607182418800017408 = 4607182418800017409 by decide +kernel] at h
  exact h
theorem knownK34 (W : World) : Calls Try.prog 37 #[.agg #[.float .f64 4607182418800017408, .float .f64 4611686018427387904], .agg #[.float .f64 4609434218613702656, .float .f64 4616189618054758400]] W fun e w' => e = .returned (.float .f64 4611686018427387904) ∧ Below W.heap.size W w' := by
  have h := dist_any 4607182418800017408 4611686018427387904 4609434218613702656 4616189618054758400 (by omega) (by omega) (by omega) (by omega) W
  rw [show fdist 4607182418800017408 4611686018427387904 4609434218613702656 4616189618054758400 = 4611686018427387904 by decide +kernel] at h
  exact h
theorem knownK35 (W : World) : Calls Try.prog 37 #[.agg #[.float .f64 4607182418800017408, .float .f64 9218868437227405312], .agg #[.float .f64 4613937818241073152, .float .f64 9218868437227405312]] W fun e w' => e = .returned (.float .f64 4611686018427387904) ∧ Below W.heap.size W w' := by
  have h := dist_any 4607182418800017408 9218868437227405312 4613937818241073152 9218868437227405312 (by omega) (by omega) (by omega) (by omega) W
  rw [show fdist 4607182418800017408 9218868437227405312 4613937818241073152 9218868437227405312 = 4611686018427387904 by decide +kernel] at h
  exact h
theorem knownK36 (W : World) : Calls Try.prog 37 #[.agg #[.float .f64 4607182418800017408, .float .f64 4611686018427387904], .agg #[.float .f64 4607182418800017408, .float .f64 9218868437227405312]] W fun e w' => e = .returned (.float .f64 9218868437227405312) ∧ Below W.heap.size W w' := by
  have h := dist_any 4607182418800017408 4611686018427387904 4607182418800017408 9218868437227405312 (by omega) (by omega) (by omega) (by omega) W
  rw [show fdist 4607182418800017408 4611686018427387904 4607182418800017408 9218868437227405312 = 9218868437227405312 by decide +kernel] at h
  exact h
theorem knownK37 (W : World) : Calls Try.prog 37 #[.agg #[.float .f64 18442240474082181120, .float .f64 9218868437227405312], .agg #[.float .f64 18442240474082181120, .float .f64 9218868437227405312]] W fun e w' => e = .returned (.float .f64 0) ∧ Below W.heap.size W w' := by
  have h := dist_any 18442240474082181120 9218868437227405312 18442240474082181120 9218868437227405312 (by omega) (by omega) (by omega) (by omega) W
  rw [show fdist 18442240474082181120 9218868437227405312 18442240474082181120 9218868437227405312 = 0 by decide +kernel] at h
  exact h

set_option maxRecDepth 100000 in
set_option maxHeartbeats 40000000 in
theorem known_any (w : World) : Calls Try.prog 13 #[] w fun e w' => e = .returned (.bool true) ∧ Below w.heap.size w w' := by
  have HN := Lib.hid (fun W => isnan8_any 9221120237041090561 (by omega) W)
  rw [decide_eq_true (show fnan 9221120237041090561 by decide)] at HN
  have HZ : Hid (∀ W, Calls Try.prog 14 #[.float .f64 0, .int .u64 0] W fun e w' => e = .returned (.bool true) ∧ W = w') := Lib.hid (fun W => isb_any 0 (by omega) W)
  have hsf := store_f
  have n1 : ∀ W : World, (Op.unary .neg (.float .f64 9218868437227405312)).run Try.prog W = .ok (.float .f64 18442240474082181120) W := fun W => by have := run_neg_f 9218868437227405312 (by omega) W; rw [this]; rfl
  have n2 : ∀ W : World, (Op.unary .neg (.float .f64 9218868437227405311)).run Try.prog W = .ok (.float .f64 18442240474082181119) W := fun W => by have := run_neg_f 9218868437227405311 (by omega) W; rw [this]; rfl
  have n3 : ∀ W : World, (Op.unary .neg (.float .f64 1)).run Try.prog W = .ok (.float .f64 9223372036854775809) W := fun W => by have := run_neg_f 1 (by omega) W; rw [this]; rfl
  have m1 : ∀ t w, (binOp .mul t (.float .f64 4611686018427387904) (.float .f64 1)).run Try.prog w = .ok (.float .f64 2) w := fun t w => run_float_arith w .mul t .f64 _ _ _ (by decide +kernel)
  have o0 : (FloatKind.f64.format.order 9218868437227405312 9218868437227405312 != some .eq) = false := (f_self (by omega)).trans (by decide)
  have o1 : (FloatKind.f64.format.order 18442240474082181120 18442240474082181120 != some .eq) = false := (f_self (by omega)).trans (by decide)
  have o2 : (FloatKind.f64.format.order 9218868437227405311 9218868437227405311 != some .eq) = false := (f_self (by omega)).trans (by decide)
  have o3 : (FloatKind.f64.format.order 18442240474082181119 18442240474082181119 != some .eq) = false := (f_self (by omega)).trans (by decide)
  have o4 : (FloatKind.f64.format.order 4607182418800017408 4607182418800017408 != some .eq) = false := (f_self (by omega)).trans (by decide)
  have o5 : (FloatKind.f64.format.order 4611686018427387904 4611686018427387904 != some .eq) = false := (f_self (by omega)).trans (by decide)
  have o6 : (FloatKind.f64.format.order 4613937818241073152 4613937818241073152 != some .eq) = false := (f_self (by omega)).trans (by decide)
  have o7 : (FloatKind.f64.format.order 4616189618054758400 4616189618054758400 != some .eq) = false := (f_self (by omega)).trans (by decide)
  have o8 : (FloatKind.f64.format.order 1 1 != some .eq) = false := (f_self (by omega)).trans (by decide)
  have o9 : (FloatKind.f64.format.order 2 2 != some .eq) = false := (f_self (by omega)).trans (by decide)
  have o10 : (FloatKind.f64.format.order 4602678819172646912 4602678819172646912 != some .eq) = false := (f_self (by omega)).trans (by decide)
  have o11 : (FloatKind.f64.format.order 4602678819172646913 4602678819172646913 != some .eq) = false := (f_self (by omega)).trans (by decide)
  have o12 : (FloatKind.f64.format.order 4607182418800017409 4607182418800017409 != some .eq) = false := (f_self (by omega)).trans (by decide)
  have q0 : (FloatKind.f64.format.order 4611686018427387904 4611686018427387904 == some .eq) = true := (f_eq (by omega) (by omega)).trans (by decide)
  have q1 : (FloatKind.f64.format.order 9218868437227405312 9218868437227405312 == some .eq) = true := (f_eq (by omega) (by omega)).trans (by decide)
  have hS := Lib.hid (Sf.new4 w 9218868437227405312 18442240474082181120 18442240474082181120 9218868437227405312 4607182418800017408 9218868437227405312 18442240474082181120 13830554455654793216)
  go_enter Try.func13, Try.ntmps13
  go_wp2_with fail
  refine (infp_any _).mono ?_
  rintro en w0 ⟨rfl, rfl⟩
  go_wp2_with fail
  refine (knownK0 _).mono ?_
  rintro en w1 ⟨rfl, hb⟩
  have hS := Lib.hid (hS.out.later hb)
  clear hb
  obtain ⟨a0, b0, f0, g0⟩ := hS.out.2.1.cells
  have z0 := hS.out.2.1.lt
  obtain ⟨a1, b1, f1, g1⟩ := hS.out.2.2.1.cells
  have z1 := hS.out.2.2.1.lt
  obtain ⟨a2, b2, f2, g2⟩ := hS.out.2.2.2.1.cells
  have z2 := hS.out.2.2.2.1.lt
  obtain ⟨a3, b3, f3, g3⟩ := hS.out.2.2.2.2.1.cells
  have z3 := hS.out.2.2.2.2.1.lt
  go_wp2_with fail
  refine (knownK1 _).mono ?_
  rintro en w2 ⟨rfl, hb⟩
  clear a0 b0 f0 g0 z0 a1 b1 f1 g1 z1 a2 b2 f2 g2 z2 a3 b3 f3 g3 z3
  have hS := Lib.hid (hS.out.later hb)
  clear hb
  obtain ⟨a0, b0, f0, g0⟩ := hS.out.2.1.cells
  have z0 := hS.out.2.1.lt
  obtain ⟨a1, b1, f1, g1⟩ := hS.out.2.2.1.cells
  have z1 := hS.out.2.2.1.lt
  obtain ⟨a2, b2, f2, g2⟩ := hS.out.2.2.2.1.cells
  have z2 := hS.out.2.2.2.1.lt
  obtain ⟨a3, b3, f3, g3⟩ := hS.out.2.2.2.2.1.cells
  have z3 := hS.out.2.2.2.2.1.lt
  go_wp2_with fail
  refine (knownK2 _).mono ?_
  rintro en w3 ⟨rfl, hb⟩
  clear a0 b0 f0 g0 z0 a1 b1 f1 g1 z1 a2 b2 f2 g2 z2 a3 b3 f3 g3 z3
  have hS := Lib.hid (hS.out.later hb)
  clear hb
  obtain ⟨a0, b0, f0, g0⟩ := hS.out.2.1.cells
  have z0 := hS.out.2.1.lt
  obtain ⟨a1, b1, f1, g1⟩ := hS.out.2.2.1.cells
  have z1 := hS.out.2.2.1.lt
  obtain ⟨a2, b2, f2, g2⟩ := hS.out.2.2.2.1.cells
  have z2 := hS.out.2.2.2.1.lt
  obtain ⟨a3, b3, f3, g3⟩ := hS.out.2.2.2.2.1.cells
  have z3 := hS.out.2.2.2.2.1.lt
  go_wp2_with fail
  refine (HN.out _).mono ?_
  rintro en w4 ⟨rfl, hb⟩
  clear a0 b0 f0 g0 z0 a1 b1 f1 g1 z1 a2 b2 f2 g2 z2 a3 b3 f3 g3 z3
  have hS := Lib.hid (hS.out.later hb)
  clear hb
  obtain ⟨a0, b0, f0, g0⟩ := hS.out.2.1.cells
  have z0 := hS.out.2.1.lt
  obtain ⟨a1, b1, f1, g1⟩ := hS.out.2.2.1.cells
  have z1 := hS.out.2.2.1.lt
  obtain ⟨a2, b2, f2, g2⟩ := hS.out.2.2.2.1.cells
  have z2 := hS.out.2.2.2.1.lt
  obtain ⟨a3, b3, f3, g3⟩ := hS.out.2.2.2.2.1.cells
  have z3 := hS.out.2.2.2.2.1.lt
  go_wp2_with fail
  refine (knownK3 _).mono ?_
  rintro en w5 ⟨rfl, hb⟩
  clear a0 b0 f0 g0 z0 a1 b1 f1 g1 z1 a2 b2 f2 g2 z2 a3 b3 f3 g3 z3
  have hS := Lib.hid (hS.out.later hb)
  clear hb
  obtain ⟨a0, b0, f0, g0⟩ := hS.out.2.1.cells
  have z0 := hS.out.2.1.lt
  obtain ⟨a1, b1, f1, g1⟩ := hS.out.2.2.1.cells
  have z1 := hS.out.2.2.1.lt
  obtain ⟨a2, b2, f2, g2⟩ := hS.out.2.2.2.1.cells
  have z2 := hS.out.2.2.2.1.lt
  obtain ⟨a3, b3, f3, g3⟩ := hS.out.2.2.2.2.1.cells
  have z3 := hS.out.2.2.2.2.1.lt
  go_wp2_with fail
  refine (HN.out _).mono ?_
  rintro en w6 ⟨rfl, hb⟩
  clear a0 b0 f0 g0 z0 a1 b1 f1 g1 z1 a2 b2 f2 g2 z2 a3 b3 f3 g3 z3
  have hS := Lib.hid (hS.out.later hb)
  clear hb
  obtain ⟨a0, b0, f0, g0⟩ := hS.out.2.1.cells
  have z0 := hS.out.2.1.lt
  obtain ⟨a1, b1, f1, g1⟩ := hS.out.2.2.1.cells
  have z1 := hS.out.2.2.1.lt
  obtain ⟨a2, b2, f2, g2⟩ := hS.out.2.2.2.1.cells
  have z2 := hS.out.2.2.2.1.lt
  obtain ⟨a3, b3, f3, g3⟩ := hS.out.2.2.2.2.1.cells
  have z3 := hS.out.2.2.2.2.1.lt
  go_wp2_with fail
  refine (knownK4 _).mono ?_
  rintro en w7 ⟨rfl, hb⟩
  clear a0 b0 f0 g0 z0 a1 b1 f1 g1 z1 a2 b2 f2 g2 z2 a3 b3 f3 g3 z3
  have hS := Lib.hid (hS.out.later hb)
  clear hb
  obtain ⟨a0, b0, f0, g0⟩ := hS.out.2.1.cells
  have z0 := hS.out.2.1.lt
  obtain ⟨a1, b1, f1, g1⟩ := hS.out.2.2.1.cells
  have z1 := hS.out.2.2.1.lt
  obtain ⟨a2, b2, f2, g2⟩ := hS.out.2.2.2.1.cells
  have z2 := hS.out.2.2.2.1.lt
  obtain ⟨a3, b3, f3, g3⟩ := hS.out.2.2.2.2.1.cells
  have z3 := hS.out.2.2.2.2.1.lt
  go_wp2_with fail
  refine (HN.out _).mono ?_
  rintro en w8 ⟨rfl, hb⟩
  clear a0 b0 f0 g0 z0 a1 b1 f1 g1 z1 a2 b2 f2 g2 z2 a3 b3 f3 g3 z3
  have hS := Lib.hid (hS.out.later hb)
  clear hb
  obtain ⟨a0, b0, f0, g0⟩ := hS.out.2.1.cells
  have z0 := hS.out.2.1.lt
  obtain ⟨a1, b1, f1, g1⟩ := hS.out.2.2.1.cells
  have z1 := hS.out.2.2.1.lt
  obtain ⟨a2, b2, f2, g2⟩ := hS.out.2.2.2.1.cells
  have z2 := hS.out.2.2.2.1.lt
  obtain ⟨a3, b3, f3, g3⟩ := hS.out.2.2.2.2.1.cells
  have z3 := hS.out.2.2.2.2.1.lt
  go_wp2_with fail
  refine (knownK5 _).mono ?_
  rintro en w9 ⟨rfl, hb⟩
  clear a0 b0 f0 g0 z0 a1 b1 f1 g1 z1 a2 b2 f2 g2 z2 a3 b3 f3 g3 z3
  have hS := Lib.hid (hS.out.later hb)
  clear hb
  obtain ⟨a0, b0, f0, g0⟩ := hS.out.2.1.cells
  have z0 := hS.out.2.1.lt
  obtain ⟨a1, b1, f1, g1⟩ := hS.out.2.2.1.cells
  have z1 := hS.out.2.2.1.lt
  obtain ⟨a2, b2, f2, g2⟩ := hS.out.2.2.2.1.cells
  have z2 := hS.out.2.2.2.1.lt
  obtain ⟨a3, b3, f3, g3⟩ := hS.out.2.2.2.2.1.cells
  have z3 := hS.out.2.2.2.2.1.lt
  go_wp2_with fail
  refine (HN.out _).mono ?_
  rintro en w10 ⟨rfl, hb⟩
  clear a0 b0 f0 g0 z0 a1 b1 f1 g1 z1 a2 b2 f2 g2 z2 a3 b3 f3 g3 z3
  have hS := Lib.hid (hS.out.later hb)
  clear hb
  obtain ⟨a0, b0, f0, g0⟩ := hS.out.2.1.cells
  have z0 := hS.out.2.1.lt
  obtain ⟨a1, b1, f1, g1⟩ := hS.out.2.2.1.cells
  have z1 := hS.out.2.2.1.lt
  obtain ⟨a2, b2, f2, g2⟩ := hS.out.2.2.2.1.cells
  have z2 := hS.out.2.2.2.1.lt
  obtain ⟨a3, b3, f3, g3⟩ := hS.out.2.2.2.2.1.cells
  have z3 := hS.out.2.2.2.2.1.lt
  go_wp2_with fail
  refine (knownK6 _).mono ?_
  rintro en w11 ⟨rfl, hb⟩
  clear a0 b0 f0 g0 z0 a1 b1 f1 g1 z1 a2 b2 f2 g2 z2 a3 b3 f3 g3 z3
  have hS := Lib.hid (hS.out.later hb)
  clear hb
  obtain ⟨a0, b0, f0, g0⟩ := hS.out.2.1.cells
  have z0 := hS.out.2.1.lt
  obtain ⟨a1, b1, f1, g1⟩ := hS.out.2.2.1.cells
  have z1 := hS.out.2.2.1.lt
  obtain ⟨a2, b2, f2, g2⟩ := hS.out.2.2.2.1.cells
  have z2 := hS.out.2.2.2.1.lt
  obtain ⟨a3, b3, f3, g3⟩ := hS.out.2.2.2.2.1.cells
  have z3 := hS.out.2.2.2.2.1.lt
  go_wp2_with fail
  refine (HN.out _).mono ?_
  rintro en w12 ⟨rfl, hb⟩
  clear a0 b0 f0 g0 z0 a1 b1 f1 g1 z1 a2 b2 f2 g2 z2 a3 b3 f3 g3 z3
  have hS := Lib.hid (hS.out.later hb)
  clear hb
  obtain ⟨a0, b0, f0, g0⟩ := hS.out.2.1.cells
  have z0 := hS.out.2.1.lt
  obtain ⟨a1, b1, f1, g1⟩ := hS.out.2.2.1.cells
  have z1 := hS.out.2.2.1.lt
  obtain ⟨a2, b2, f2, g2⟩ := hS.out.2.2.2.1.cells
  have z2 := hS.out.2.2.2.1.lt
  obtain ⟨a3, b3, f3, g3⟩ := hS.out.2.2.2.2.1.cells
  have z3 := hS.out.2.2.2.2.1.lt
  go_wp2_with fail
  refine (knownK7 _).mono ?_
  rintro en w13 ⟨rfl, hb⟩
  clear a0 b0 f0 g0 z0 a1 b1 f1 g1 z1 a2 b2 f2 g2 z2 a3 b3 f3 g3 z3
  have hS := Lib.hid (hS.out.later hb)
  clear hb
  obtain ⟨a0, b0, f0, g0⟩ := hS.out.2.1.cells
  have z0 := hS.out.2.1.lt
  obtain ⟨a1, b1, f1, g1⟩ := hS.out.2.2.1.cells
  have z1 := hS.out.2.2.1.lt
  obtain ⟨a2, b2, f2, g2⟩ := hS.out.2.2.2.1.cells
  have z2 := hS.out.2.2.2.1.lt
  obtain ⟨a3, b3, f3, g3⟩ := hS.out.2.2.2.2.1.cells
  have z3 := hS.out.2.2.2.2.1.lt
  go_wp2_with fail
  refine (HZ.out _).mono ?_
  rintro en w14 ⟨rfl, rfl⟩
  go_wp2_with fail
  refine (knownK8 _).mono ?_
  rintro en w15 ⟨rfl, hb⟩
  clear a0 b0 f0 g0 z0 a1 b1 f1 g1 z1 a2 b2 f2 g2 z2 a3 b3 f3 g3 z3
  have hS := Lib.hid (hS.out.later hb)
  clear hb
  obtain ⟨a0, b0, f0, g0⟩ := hS.out.2.1.cells
  have z0 := hS.out.2.1.lt
  obtain ⟨a1, b1, f1, g1⟩ := hS.out.2.2.1.cells
  have z1 := hS.out.2.2.1.lt
  obtain ⟨a2, b2, f2, g2⟩ := hS.out.2.2.2.1.cells
  have z2 := hS.out.2.2.2.1.lt
  obtain ⟨a3, b3, f3, g3⟩ := hS.out.2.2.2.2.1.cells
  have z3 := hS.out.2.2.2.2.1.lt
  go_wp2_with fail
  refine (knownK9 _).mono ?_
  rintro en w16 ⟨rfl, hb⟩
  clear a0 b0 f0 g0 z0 a1 b1 f1 g1 z1 a2 b2 f2 g2 z2 a3 b3 f3 g3 z3
  have hS := Lib.hid (hS.out.later hb)
  clear hb
  obtain ⟨a0, b0, f0, g0⟩ := hS.out.2.1.cells
  have z0 := hS.out.2.1.lt
  obtain ⟨a1, b1, f1, g1⟩ := hS.out.2.2.1.cells
  have z1 := hS.out.2.2.1.lt
  obtain ⟨a2, b2, f2, g2⟩ := hS.out.2.2.2.1.cells
  have z2 := hS.out.2.2.2.1.lt
  obtain ⟨a3, b3, f3, g3⟩ := hS.out.2.2.2.2.1.cells
  have z3 := hS.out.2.2.2.2.1.lt
  go_wp2_with fail
  refine (knownK10 _).mono ?_
  rintro en w17 ⟨rfl, hb⟩
  clear a0 b0 f0 g0 z0 a1 b1 f1 g1 z1 a2 b2 f2 g2 z2 a3 b3 f3 g3 z3
  have hS := Lib.hid (hS.out.later hb)
  clear hb
  obtain ⟨a0, b0, f0, g0⟩ := hS.out.2.1.cells
  have z0 := hS.out.2.1.lt
  obtain ⟨a1, b1, f1, g1⟩ := hS.out.2.2.1.cells
  have z1 := hS.out.2.2.1.lt
  obtain ⟨a2, b2, f2, g2⟩ := hS.out.2.2.2.1.cells
  have z2 := hS.out.2.2.2.1.lt
  obtain ⟨a3, b3, f3, g3⟩ := hS.out.2.2.2.2.1.cells
  have z3 := hS.out.2.2.2.2.1.lt
  go_wp2_with fail
  refine (knownK11 _).mono ?_
  rintro en w18 ⟨rfl, hb⟩
  clear a0 b0 f0 g0 z0 a1 b1 f1 g1 z1 a2 b2 f2 g2 z2 a3 b3 f3 g3 z3
  have hS := Lib.hid (hS.out.later hb)
  clear hb
  obtain ⟨a0, b0, f0, g0⟩ := hS.out.2.1.cells
  have z0 := hS.out.2.1.lt
  obtain ⟨a1, b1, f1, g1⟩ := hS.out.2.2.1.cells
  have z1 := hS.out.2.2.1.lt
  obtain ⟨a2, b2, f2, g2⟩ := hS.out.2.2.2.1.cells
  have z2 := hS.out.2.2.2.1.lt
  obtain ⟨a3, b3, f3, g3⟩ := hS.out.2.2.2.2.1.cells
  have z3 := hS.out.2.2.2.2.1.lt
  go_wp2_with fail
  refine (HZ.out _).mono ?_
  rintro en w19 ⟨rfl, rfl⟩
  go_wp2_with fail
  refine (knownK12 _).mono ?_
  rintro en w20 ⟨rfl, hb⟩
  clear a0 b0 f0 g0 z0 a1 b1 f1 g1 z1 a2 b2 f2 g2 z2 a3 b3 f3 g3 z3
  have hS := Lib.hid (hS.out.later hb)
  clear hb
  obtain ⟨a0, b0, f0, g0⟩ := hS.out.2.1.cells
  have z0 := hS.out.2.1.lt
  obtain ⟨a1, b1, f1, g1⟩ := hS.out.2.2.1.cells
  have z1 := hS.out.2.2.1.lt
  obtain ⟨a2, b2, f2, g2⟩ := hS.out.2.2.2.1.cells
  have z2 := hS.out.2.2.2.1.lt
  obtain ⟨a3, b3, f3, g3⟩ := hS.out.2.2.2.2.1.cells
  have z3 := hS.out.2.2.2.2.1.lt
  go_wp2_with fail
  refine (knownK13 _).mono ?_
  rintro en w21 ⟨rfl, hb⟩
  clear a0 b0 f0 g0 z0 a1 b1 f1 g1 z1 a2 b2 f2 g2 z2 a3 b3 f3 g3 z3
  have hS := Lib.hid (hS.out.later hb)
  clear hb
  obtain ⟨a0, b0, f0, g0⟩ := hS.out.2.1.cells
  have z0 := hS.out.2.1.lt
  obtain ⟨a1, b1, f1, g1⟩ := hS.out.2.2.1.cells
  have z1 := hS.out.2.2.1.lt
  obtain ⟨a2, b2, f2, g2⟩ := hS.out.2.2.2.1.cells
  have z2 := hS.out.2.2.2.1.lt
  obtain ⟨a3, b3, f3, g3⟩ := hS.out.2.2.2.2.1.cells
  have z3 := hS.out.2.2.2.2.1.lt
  go_wp2_with fail
  refine (knownK14 _).mono ?_
  rintro en w22 ⟨rfl, hb⟩
  clear a0 b0 f0 g0 z0 a1 b1 f1 g1 z1 a2 b2 f2 g2 z2 a3 b3 f3 g3 z3
  have hS := Lib.hid (hS.out.later hb)
  clear hb
  obtain ⟨a0, b0, f0, g0⟩ := hS.out.2.1.cells
  have z0 := hS.out.2.1.lt
  obtain ⟨a1, b1, f1, g1⟩ := hS.out.2.2.1.cells
  have z1 := hS.out.2.2.1.lt
  obtain ⟨a2, b2, f2, g2⟩ := hS.out.2.2.2.1.cells
  have z2 := hS.out.2.2.2.1.lt
  obtain ⟨a3, b3, f3, g3⟩ := hS.out.2.2.2.2.1.cells
  have z3 := hS.out.2.2.2.2.1.lt
  go_wp2_with fail
  refine (knownK15 _).mono ?_
  rintro en w23 ⟨rfl, hb⟩
  clear a0 b0 f0 g0 z0 a1 b1 f1 g1 z1 a2 b2 f2 g2 z2 a3 b3 f3 g3 z3
  have hS := Lib.hid (hS.out.later hb)
  clear hb
  obtain ⟨a0, b0, f0, g0⟩ := hS.out.2.1.cells
  have z0 := hS.out.2.1.lt
  obtain ⟨a1, b1, f1, g1⟩ := hS.out.2.2.1.cells
  have z1 := hS.out.2.2.1.lt
  obtain ⟨a2, b2, f2, g2⟩ := hS.out.2.2.2.1.cells
  have z2 := hS.out.2.2.2.1.lt
  obtain ⟨a3, b3, f3, g3⟩ := hS.out.2.2.2.2.1.cells
  have z3 := hS.out.2.2.2.2.1.lt
  go_wp2_with fail
  refine (knownK16 _).mono ?_
  rintro en w24 ⟨rfl, hb⟩
  clear a0 b0 f0 g0 z0 a1 b1 f1 g1 z1 a2 b2 f2 g2 z2 a3 b3 f3 g3 z3
  have hS := Lib.hid (hS.out.later hb)
  clear hb
  obtain ⟨a0, b0, f0, g0⟩ := hS.out.2.1.cells
  have z0 := hS.out.2.1.lt
  obtain ⟨a1, b1, f1, g1⟩ := hS.out.2.2.1.cells
  have z1 := hS.out.2.2.1.lt
  obtain ⟨a2, b2, f2, g2⟩ := hS.out.2.2.2.1.cells
  have z2 := hS.out.2.2.2.1.lt
  obtain ⟨a3, b3, f3, g3⟩ := hS.out.2.2.2.2.1.cells
  have z3 := hS.out.2.2.2.2.1.lt
  go_wp2_with fail
  refine (knownK17 _).mono ?_
  rintro en w25 ⟨rfl, hb⟩
  clear a0 b0 f0 g0 z0 a1 b1 f1 g1 z1 a2 b2 f2 g2 z2 a3 b3 f3 g3 z3
  have hS := Lib.hid (hS.out.later hb)
  clear hb
  obtain ⟨a0, b0, f0, g0⟩ := hS.out.2.1.cells
  have z0 := hS.out.2.1.lt
  obtain ⟨a1, b1, f1, g1⟩ := hS.out.2.2.1.cells
  have z1 := hS.out.2.2.1.lt
  obtain ⟨a2, b2, f2, g2⟩ := hS.out.2.2.2.1.cells
  have z2 := hS.out.2.2.2.1.lt
  obtain ⟨a3, b3, f3, g3⟩ := hS.out.2.2.2.2.1.cells
  have z3 := hS.out.2.2.2.2.1.lt
  go_wp2_with fail
  have hS := Lib.hid (hS.out.new 13830554455654793216 4613937818241073152)
  have hr8 := Lib.hid (show w.heap.size ≤ _ ∧ (w.heap.size + 1 + 1 + 1 ≠ _ ∧ w.heap.size + 1 + 1 ≠ _ ∧ w.heap.size + 1 ≠ _ ∧ w.heap.size ≠ _) from ⟨Nat.le_of_lt z3, Nat.ne_of_lt z0, Nat.ne_of_lt z1, Nat.ne_of_lt z2, Nat.ne_of_lt z3⟩)
  refine (knownK18 _).mono ?_
  rintro en w26 ⟨rfl, hb⟩
  clear a0 b0 f0 g0 z0 a1 b1 f1 g1 z1 a2 b2 f2 g2 z2 a3 b3 f3 g3 z3
  have hS := Lib.hid (hS.out.later hb)
  clear hb
  obtain ⟨a0, b0, f0, g0⟩ := hS.out.2.1.cells
  have z0 := hS.out.2.1.lt
  obtain ⟨a1, b1, f1, g1⟩ := hS.out.2.2.1.cells
  have z1 := hS.out.2.2.1.lt
  obtain ⟨a2, b2, f2, g2⟩ := hS.out.2.2.2.1.cells
  have z2 := hS.out.2.2.2.1.lt
  obtain ⟨a3, b3, f3, g3⟩ := hS.out.2.2.2.2.1.cells
  have z3 := hS.out.2.2.2.2.1.lt
  obtain ⟨a4, b4, f4, g4⟩ := hS.out.2.2.2.2.2.1.cells
  have z4 := hS.out.2.2.2.2.2.1.lt
  go_wp2_with fail
  refine (knownK19 _).mono ?_
  rintro en w27 ⟨rfl, hb⟩
  clear a0 b0 f0 g0 z0 a1 b1 f1 g1 z1 a2 b2 f2 g2 z2 a3 b3 f3 g3 z3 a4 b4 f4 g4 z4
  have hS := Lib.hid (hS.out.later hb)
  clear hb
  obtain ⟨a0, b0, f0, g0⟩ := hS.out.2.1.cells
  have z0 := hS.out.2.1.lt
  obtain ⟨a1, b1, f1, g1⟩ := hS.out.2.2.1.cells
  have z1 := hS.out.2.2.1.lt
  obtain ⟨a2, b2, f2, g2⟩ := hS.out.2.2.2.1.cells
  have z2 := hS.out.2.2.2.1.lt
  obtain ⟨a3, b3, f3, g3⟩ := hS.out.2.2.2.2.1.cells
  have z3 := hS.out.2.2.2.2.1.lt
  obtain ⟨a4, b4, f4, g4⟩ := hS.out.2.2.2.2.2.1.cells
  have z4 := hS.out.2.2.2.2.2.1.lt
  go_wp2_with fail
  refine (knownK20 _).mono ?_
  rintro en w28 ⟨rfl, hb⟩
  clear a0 b0 f0 g0 z0 a1 b1 f1 g1 z1 a2 b2 f2 g2 z2 a3 b3 f3 g3 z3 a4 b4 f4 g4 z4
  have hS := Lib.hid (hS.out.later hb)
  clear hb
  obtain ⟨a0, b0, f0, g0⟩ := hS.out.2.1.cells
  have z0 := hS.out.2.1.lt
  obtain ⟨a1, b1, f1, g1⟩ := hS.out.2.2.1.cells
  have z1 := hS.out.2.2.1.lt
  obtain ⟨a2, b2, f2, g2⟩ := hS.out.2.2.2.1.cells
  have z2 := hS.out.2.2.2.1.lt
  obtain ⟨a3, b3, f3, g3⟩ := hS.out.2.2.2.2.1.cells
  have z3 := hS.out.2.2.2.2.1.lt
  obtain ⟨a4, b4, f4, g4⟩ := hS.out.2.2.2.2.2.1.cells
  have z4 := hS.out.2.2.2.2.2.1.lt
  go_wp2_with fail
  refine (knownK21 _).mono ?_
  rintro en w29 ⟨rfl, hb⟩
  clear a0 b0 f0 g0 z0 a1 b1 f1 g1 z1 a2 b2 f2 g2 z2 a3 b3 f3 g3 z3 a4 b4 f4 g4 z4
  have hS := Lib.hid (hS.out.later hb)
  clear hb
  obtain ⟨a0, b0, f0, g0⟩ := hS.out.2.1.cells
  have z0 := hS.out.2.1.lt
  obtain ⟨a1, b1, f1, g1⟩ := hS.out.2.2.1.cells
  have z1 := hS.out.2.2.1.lt
  obtain ⟨a2, b2, f2, g2⟩ := hS.out.2.2.2.1.cells
  have z2 := hS.out.2.2.2.1.lt
  obtain ⟨a3, b3, f3, g3⟩ := hS.out.2.2.2.2.1.cells
  have z3 := hS.out.2.2.2.2.1.lt
  obtain ⟨a4, b4, f4, g4⟩ := hS.out.2.2.2.2.2.1.cells
  have z4 := hS.out.2.2.2.2.2.1.lt
  go_wp2_with fail
  refine (knownK22 _).mono ?_
  rintro en w30 ⟨rfl, hb⟩
  clear a0 b0 f0 g0 z0 a1 b1 f1 g1 z1 a2 b2 f2 g2 z2 a3 b3 f3 g3 z3 a4 b4 f4 g4 z4
  have hS := Lib.hid (hS.out.later hb)
  clear hb
  obtain ⟨a0, b0, f0, g0⟩ := hS.out.2.1.cells
  have z0 := hS.out.2.1.lt
  obtain ⟨a1, b1, f1, g1⟩ := hS.out.2.2.1.cells
  have z1 := hS.out.2.2.1.lt
  obtain ⟨a2, b2, f2, g2⟩ := hS.out.2.2.2.1.cells
  have z2 := hS.out.2.2.2.1.lt
  obtain ⟨a3, b3, f3, g3⟩ := hS.out.2.2.2.2.1.cells
  have z3 := hS.out.2.2.2.2.1.lt
  obtain ⟨a4, b4, f4, g4⟩ := hS.out.2.2.2.2.2.1.cells
  have z4 := hS.out.2.2.2.2.2.1.lt
  go_wp2_with fail
  refine (HZ.out _).mono ?_
  rintro en w31 ⟨rfl, rfl⟩
  go_wp2_with fail
  have hS := Lib.hid (hS.out.put hr8.out.1 (by intro t ht; simp only [List.mem_cons, List.not_mem_nil, or_false] at ht; rcases ht with rfl | rfl | rfl | rfl; exact hr8.out.2.1; exact hr8.out.2.2.1; exact hr8.out.2.2.2.1; exact hr8.out.2.2.2.2) 18442240474082181119 9218868437227405311)
  refine (knownK23 _).mono ?_
  rintro en w32 ⟨rfl, hb⟩
  clear a0 b0 f0 g0 z0 a1 b1 f1 g1 z1 a2 b2 f2 g2 z2 a3 b3 f3 g3 z3 a4 b4 f4 g4 z4
  have hS := Lib.hid (hS.out.later hb)
  clear hb
  obtain ⟨a0, b0, f0, g0⟩ := hS.out.2.1.cells
  have z0 := hS.out.2.1.lt
  obtain ⟨a1, b1, f1, g1⟩ := hS.out.2.2.1.cells
  have z1 := hS.out.2.2.1.lt
  obtain ⟨a2, b2, f2, g2⟩ := hS.out.2.2.2.1.cells
  have z2 := hS.out.2.2.2.1.lt
  obtain ⟨a3, b3, f3, g3⟩ := hS.out.2.2.2.2.1.cells
  have z3 := hS.out.2.2.2.2.1.lt
  obtain ⟨a4, b4, f4, g4⟩ := hS.out.2.2.2.2.2.1.cells
  have z4 := hS.out.2.2.2.2.2.1.lt
  go_wp2_with fail
  refine (HZ.out _).mono ?_
  rintro en w33 ⟨rfl, rfl⟩
  go_wp2_with fail
  refine (knownK24 _).mono ?_
  rintro en w34 ⟨rfl, hb⟩
  clear a0 b0 f0 g0 z0 a1 b1 f1 g1 z1 a2 b2 f2 g2 z2 a3 b3 f3 g3 z3 a4 b4 f4 g4 z4
  have hS := Lib.hid (hS.out.later hb)
  clear hb
  obtain ⟨a0, b0, f0, g0⟩ := hS.out.2.1.cells
  have z0 := hS.out.2.1.lt
  obtain ⟨a1, b1, f1, g1⟩ := hS.out.2.2.1.cells
  have z1 := hS.out.2.2.1.lt
  obtain ⟨a2, b2, f2, g2⟩ := hS.out.2.2.2.1.cells
  have z2 := hS.out.2.2.2.1.lt
  obtain ⟨a3, b3, f3, g3⟩ := hS.out.2.2.2.2.1.cells
  have z3 := hS.out.2.2.2.2.1.lt
  obtain ⟨a4, b4, f4, g4⟩ := hS.out.2.2.2.2.2.1.cells
  have z4 := hS.out.2.2.2.2.2.1.lt
  go_wp2_with fail
  refine (knownK25 _).mono ?_
  rintro en w35 ⟨rfl, hb⟩
  clear a0 b0 f0 g0 z0 a1 b1 f1 g1 z1 a2 b2 f2 g2 z2 a3 b3 f3 g3 z3 a4 b4 f4 g4 z4
  have hS := Lib.hid (hS.out.later hb)
  clear hb
  obtain ⟨a0, b0, f0, g0⟩ := hS.out.2.1.cells
  have z0 := hS.out.2.1.lt
  obtain ⟨a1, b1, f1, g1⟩ := hS.out.2.2.1.cells
  have z1 := hS.out.2.2.1.lt
  obtain ⟨a2, b2, f2, g2⟩ := hS.out.2.2.2.1.cells
  have z2 := hS.out.2.2.2.1.lt
  obtain ⟨a3, b3, f3, g3⟩ := hS.out.2.2.2.2.1.cells
  have z3 := hS.out.2.2.2.2.1.lt
  obtain ⟨a4, b4, f4, g4⟩ := hS.out.2.2.2.2.2.1.cells
  have z4 := hS.out.2.2.2.2.2.1.lt
  go_wp2_with fail
  have hS := Lib.hid (hS.out.put hr8.out.1 (by intro t ht; simp only [List.mem_cons, List.not_mem_nil, or_false] at ht; rcases ht with rfl | rfl | rfl | rfl; exact hr8.out.2.1; exact hr8.out.2.2.1; exact hr8.out.2.2.2.1; exact hr8.out.2.2.2.2) 0 1)
  refine (knownK26 _).mono ?_
  rintro en w36 ⟨rfl, hb⟩
  clear a0 b0 f0 g0 z0 a1 b1 f1 g1 z1 a2 b2 f2 g2 z2 a3 b3 f3 g3 z3 a4 b4 f4 g4 z4
  have hS := Lib.hid (hS.out.later hb)
  clear hb
  obtain ⟨a0, b0, f0, g0⟩ := hS.out.2.1.cells
  have z0 := hS.out.2.1.lt
  obtain ⟨a1, b1, f1, g1⟩ := hS.out.2.2.1.cells
  have z1 := hS.out.2.2.1.lt
  obtain ⟨a2, b2, f2, g2⟩ := hS.out.2.2.2.1.cells
  have z2 := hS.out.2.2.2.1.lt
  obtain ⟨a3, b3, f3, g3⟩ := hS.out.2.2.2.2.1.cells
  have z3 := hS.out.2.2.2.2.1.lt
  obtain ⟨a4, b4, f4, g4⟩ := hS.out.2.2.2.2.2.1.cells
  have z4 := hS.out.2.2.2.2.2.1.lt
  go_wp2_with fail
  refine (HZ.out _).mono ?_
  rintro en w37 ⟨rfl, rfl⟩
  go_wp2_with fail
  refine (knownK27 _).mono ?_
  rintro en w38 ⟨rfl, hb⟩
  clear a0 b0 f0 g0 z0 a1 b1 f1 g1 z1 a2 b2 f2 g2 z2 a3 b3 f3 g3 z3 a4 b4 f4 g4 z4
  have hS := Lib.hid (hS.out.later hb)
  clear hb
  obtain ⟨a0, b0, f0, g0⟩ := hS.out.2.1.cells
  have z0 := hS.out.2.1.lt
  obtain ⟨a1, b1, f1, g1⟩ := hS.out.2.2.1.cells
  have z1 := hS.out.2.2.1.lt
  obtain ⟨a2, b2, f2, g2⟩ := hS.out.2.2.2.1.cells
  have z2 := hS.out.2.2.2.1.lt
  obtain ⟨a3, b3, f3, g3⟩ := hS.out.2.2.2.2.1.cells
  have z3 := hS.out.2.2.2.2.1.lt
  obtain ⟨a4, b4, f4, g4⟩ := hS.out.2.2.2.2.2.1.cells
  have z4 := hS.out.2.2.2.2.2.1.lt
  go_wp2_with fail
  refine (knownK28 _).mono ?_
  rintro en w39 ⟨rfl, hb⟩
  clear a0 b0 f0 g0 z0 a1 b1 f1 g1 z1 a2 b2 f2 g2 z2 a3 b3 f3 g3 z3 a4 b4 f4 g4 z4
  have hS := Lib.hid (hS.out.later hb)
  clear hb
  obtain ⟨a0, b0, f0, g0⟩ := hS.out.2.1.cells
  have z0 := hS.out.2.1.lt
  obtain ⟨a1, b1, f1, g1⟩ := hS.out.2.2.1.cells
  have z1 := hS.out.2.2.1.lt
  obtain ⟨a2, b2, f2, g2⟩ := hS.out.2.2.2.1.cells
  have z2 := hS.out.2.2.2.1.lt
  obtain ⟨a3, b3, f3, g3⟩ := hS.out.2.2.2.2.1.cells
  have z3 := hS.out.2.2.2.2.1.lt
  obtain ⟨a4, b4, f4, g4⟩ := hS.out.2.2.2.2.2.1.cells
  have z4 := hS.out.2.2.2.2.2.1.lt
  go_wp2_with fail
  have hS := Lib.hid (hS.out.put hr8.out.1 (by intro t ht; simp only [List.mem_cons, List.not_mem_nil, or_false] at ht; rcases ht with rfl | rfl | rfl | rfl; exact hr8.out.2.1; exact hr8.out.2.2.1; exact hr8.out.2.2.2.1; exact hr8.out.2.2.2.2) 1 2)
  refine (knownK29 _).mono ?_
  rintro en w40 ⟨rfl, hb⟩
  clear a0 b0 f0 g0 z0 a1 b1 f1 g1 z1 a2 b2 f2 g2 z2 a3 b3 f3 g3 z3 a4 b4 f4 g4 z4
  have hS := Lib.hid (hS.out.later hb)
  clear hb
  obtain ⟨a0, b0, f0, g0⟩ := hS.out.2.1.cells
  have z0 := hS.out.2.1.lt
  obtain ⟨a1, b1, f1, g1⟩ := hS.out.2.2.1.cells
  have z1 := hS.out.2.2.1.lt
  obtain ⟨a2, b2, f2, g2⟩ := hS.out.2.2.2.1.cells
  have z2 := hS.out.2.2.2.1.lt
  obtain ⟨a3, b3, f3, g3⟩ := hS.out.2.2.2.2.1.cells
  have z3 := hS.out.2.2.2.2.1.lt
  obtain ⟨a4, b4, f4, g4⟩ := hS.out.2.2.2.2.2.1.cells
  have z4 := hS.out.2.2.2.2.2.1.lt
  go_wp2_with fail
  refine (knownK30 _).mono ?_
  rintro en w41 ⟨rfl, hb⟩
  clear a0 b0 f0 g0 z0 a1 b1 f1 g1 z1 a2 b2 f2 g2 z2 a3 b3 f3 g3 z3 a4 b4 f4 g4 z4
  have hS := Lib.hid (hS.out.later hb)
  clear hb
  obtain ⟨a0, b0, f0, g0⟩ := hS.out.2.1.cells
  have z0 := hS.out.2.1.lt
  obtain ⟨a1, b1, f1, g1⟩ := hS.out.2.2.1.cells
  have z1 := hS.out.2.2.1.lt
  obtain ⟨a2, b2, f2, g2⟩ := hS.out.2.2.2.1.cells
  have z2 := hS.out.2.2.2.1.lt
  obtain ⟨a3, b3, f3, g3⟩ := hS.out.2.2.2.2.1.cells
  have z3 := hS.out.2.2.2.2.1.lt
  obtain ⟨a4, b4, f4, g4⟩ := hS.out.2.2.2.2.2.1.cells
  have z4 := hS.out.2.2.2.2.2.1.lt
  go_wp2_with fail
  have hS := Lib.hid (hS.out.put hr8.out.1 (by intro t ht; simp only [List.mem_cons, List.not_mem_nil, or_false] at ht; rcases ht with rfl | rfl | rfl | rfl; exact hr8.out.2.1; exact hr8.out.2.2.1; exact hr8.out.2.2.2.1; exact hr8.out.2.2.2.2) 9223372036854775809 4607182418800017408)
  refine (knownK31 _).mono ?_
  rintro en w42 ⟨rfl, hb⟩
  clear a0 b0 f0 g0 z0 a1 b1 f1 g1 z1 a2 b2 f2 g2 z2 a3 b3 f3 g3 z3 a4 b4 f4 g4 z4
  have hS := Lib.hid (hS.out.later hb)
  clear hb
  obtain ⟨a0, b0, f0, g0⟩ := hS.out.2.1.cells
  have z0 := hS.out.2.1.lt
  obtain ⟨a1, b1, f1, g1⟩ := hS.out.2.2.1.cells
  have z1 := hS.out.2.2.1.lt
  obtain ⟨a2, b2, f2, g2⟩ := hS.out.2.2.2.1.cells
  have z2 := hS.out.2.2.2.1.lt
  obtain ⟨a3, b3, f3, g3⟩ := hS.out.2.2.2.2.1.cells
  have z3 := hS.out.2.2.2.2.1.lt
  obtain ⟨a4, b4, f4, g4⟩ := hS.out.2.2.2.2.2.1.cells
  have z4 := hS.out.2.2.2.2.2.1.lt
  go_wp2_with fail
  refine (knownK32 _).mono ?_
  rintro en w43 ⟨rfl, hb⟩
  clear a0 b0 f0 g0 z0 a1 b1 f1 g1 z1 a2 b2 f2 g2 z2 a3 b3 f3 g3 z3 a4 b4 f4 g4 z4
  have hS := Lib.hid (hS.out.later hb)
  clear hb
  obtain ⟨a0, b0, f0, g0⟩ := hS.out.2.1.cells
  have z0 := hS.out.2.1.lt
  obtain ⟨a1, b1, f1, g1⟩ := hS.out.2.2.1.cells
  have z1 := hS.out.2.2.1.lt
  obtain ⟨a2, b2, f2, g2⟩ := hS.out.2.2.2.1.cells
  have z2 := hS.out.2.2.2.1.lt
  obtain ⟨a3, b3, f3, g3⟩ := hS.out.2.2.2.2.1.cells
  have z3 := hS.out.2.2.2.2.1.lt
  obtain ⟨a4, b4, f4, g4⟩ := hS.out.2.2.2.2.2.1.cells
  have z4 := hS.out.2.2.2.2.2.1.lt
  go_wp2_with fail
  refine (knownK33 _).mono ?_
  rintro en w44 ⟨rfl, hb⟩
  clear a0 b0 f0 g0 z0 a1 b1 f1 g1 z1 a2 b2 f2 g2 z2 a3 b3 f3 g3 z3 a4 b4 f4 g4 z4
  have hS := Lib.hid (hS.out.later hb)
  clear hb
  obtain ⟨a0, b0, f0, g0⟩ := hS.out.2.1.cells
  have z0 := hS.out.2.1.lt
  obtain ⟨a1, b1, f1, g1⟩ := hS.out.2.2.1.cells
  have z1 := hS.out.2.2.1.lt
  obtain ⟨a2, b2, f2, g2⟩ := hS.out.2.2.2.1.cells
  have z2 := hS.out.2.2.2.1.lt
  obtain ⟨a3, b3, f3, g3⟩ := hS.out.2.2.2.2.1.cells
  have z3 := hS.out.2.2.2.2.1.lt
  obtain ⟨a4, b4, f4, g4⟩ := hS.out.2.2.2.2.2.1.cells
  have z4 := hS.out.2.2.2.2.2.1.lt
  go_wp2_with fail
  refine (knownK34 _).mono ?_
  rintro en w45 ⟨rfl, hb⟩
  clear a0 b0 f0 g0 z0 a1 b1 f1 g1 z1 a2 b2 f2 g2 z2 a3 b3 f3 g3 z3 a4 b4 f4 g4 z4
  have hS := Lib.hid (hS.out.later hb)
  clear hb
  obtain ⟨a0, b0, f0, g0⟩ := hS.out.2.1.cells
  have z0 := hS.out.2.1.lt
  obtain ⟨a1, b1, f1, g1⟩ := hS.out.2.2.1.cells
  have z1 := hS.out.2.2.1.lt
  obtain ⟨a2, b2, f2, g2⟩ := hS.out.2.2.2.1.cells
  have z2 := hS.out.2.2.2.1.lt
  obtain ⟨a3, b3, f3, g3⟩ := hS.out.2.2.2.2.1.cells
  have z3 := hS.out.2.2.2.2.1.lt
  obtain ⟨a4, b4, f4, g4⟩ := hS.out.2.2.2.2.2.1.cells
  have z4 := hS.out.2.2.2.2.2.1.lt
  go_wp2_with fail
  refine (knownK35 _).mono ?_
  rintro en w46 ⟨rfl, hb⟩
  clear a0 b0 f0 g0 z0 a1 b1 f1 g1 z1 a2 b2 f2 g2 z2 a3 b3 f3 g3 z3 a4 b4 f4 g4 z4
  have hS := Lib.hid (hS.out.later hb)
  clear hb
  obtain ⟨a0, b0, f0, g0⟩ := hS.out.2.1.cells
  have z0 := hS.out.2.1.lt
  obtain ⟨a1, b1, f1, g1⟩ := hS.out.2.2.1.cells
  have z1 := hS.out.2.2.1.lt
  obtain ⟨a2, b2, f2, g2⟩ := hS.out.2.2.2.1.cells
  have z2 := hS.out.2.2.2.1.lt
  obtain ⟨a3, b3, f3, g3⟩ := hS.out.2.2.2.2.1.cells
  have z3 := hS.out.2.2.2.2.1.lt
  obtain ⟨a4, b4, f4, g4⟩ := hS.out.2.2.2.2.2.1.cells
  have z4 := hS.out.2.2.2.2.2.1.lt
  go_wp2_with fail
  refine (knownK36 _).mono ?_
  rintro en w47 ⟨rfl, hb⟩
  clear a0 b0 f0 g0 z0 a1 b1 f1 g1 z1 a2 b2 f2 g2 z2 a3 b3 f3 g3 z3 a4 b4 f4 g4 z4
  have hS := Lib.hid (hS.out.later hb)
  clear hb
  obtain ⟨a0, b0, f0, g0⟩ := hS.out.2.1.cells
  have z0 := hS.out.2.1.lt
  obtain ⟨a1, b1, f1, g1⟩ := hS.out.2.2.1.cells
  have z1 := hS.out.2.2.1.lt
  obtain ⟨a2, b2, f2, g2⟩ := hS.out.2.2.2.1.cells
  have z2 := hS.out.2.2.2.1.lt
  obtain ⟨a3, b3, f3, g3⟩ := hS.out.2.2.2.2.1.cells
  have z3 := hS.out.2.2.2.2.1.lt
  obtain ⟨a4, b4, f4, g4⟩ := hS.out.2.2.2.2.2.1.cells
  have z4 := hS.out.2.2.2.2.2.1.lt
  go_wp2_with fail
  refine (knownK37 _).mono ?_
  rintro en w48 ⟨rfl, hb⟩
  clear a0 b0 f0 g0 z0 a1 b1 f1 g1 z1 a2 b2 f2 g2 z2 a3 b3 f3 g3 z3 a4 b4 f4 g4 z4
  have hS := Lib.hid (hS.out.later hb)
  clear hb
  obtain ⟨a0, b0, f0, g0⟩ := hS.out.2.1.cells
  have z0 := hS.out.2.1.lt
  obtain ⟨a1, b1, f1, g1⟩ := hS.out.2.2.1.cells
  have z1 := hS.out.2.2.1.lt
  obtain ⟨a2, b2, f2, g2⟩ := hS.out.2.2.2.1.cells
  have z2 := hS.out.2.2.2.1.lt
  obtain ⟨a3, b3, f3, g3⟩ := hS.out.2.2.2.2.1.cells
  have z3 := hS.out.2.2.2.2.1.lt
  obtain ⟨a4, b4, f4, g4⟩ := hS.out.2.2.2.2.2.1.cells
  have z4 := hS.out.2.2.2.2.2.1.lt
  go_wp2_with fail
  refine (HZ.out _).mono ?_
  rintro en w49 ⟨rfl, rfl⟩
  go_wp2
  go_ret
  exact ⟨rfl, hS.out.1⟩
end Go.Proofs.Ytmmbbkeefphaiaa
