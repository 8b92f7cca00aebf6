/- Layer 5, the program: what stands in memory while a numeral is read. -/
import Derived.Test.YtiadjcilfljdaaaRdrE
namespace Go.Proofs.Ytiadjcilfljdaaa
set_option linter.unusedVariables false
set_option linter.unusedSimpArgs false
open Go.RowKit Verge

abbrev nmO (n : Bool) (V D : Value) (k : Int) : Obj := .cells #[.bool n, V, D, .int .i64 k] 35
/-- The reader at r; the numeral's struct at P; the late fault at Q. -/
structure St (w0 : World) (b : Nat) (l : List UInt8) (P Q : Nat) (r : List UInt8) (n : Bool) (N : Nat) (V : Value) (M : Nat) (D : Value) (k x y : Int) (w : World) : Prop where
  rdr : Rdr w b l r
  grow : w0.grownBy w (some b)
  num : w.heap[P]? = some (nmO n V D k)
  late : w.heap[Q]? = some (fO (.int .i64 x) (.int .i64 y))
  isV : IsT N V w
  isD : IsT M D w
  bl : b < w0.heap.size
  pl : w0.heap.size + 1 ≤ P
  ql : w0.heap.size + 1 ≤ Q
  ne : P ≠ Q
  res : w.heap[w0.heap.size]? = some (nmO false (.slice none 0 0) (.slice none 0 0) 0)
variable {w0 w w' : World} {b : Nat} {l r s : List UInt8} {P Q : Nat} {n : Bool} {N M : Nat} {V D : Value} {k x y : Int}
theorem Rdr.no (h : Rdr w b l r) : ∀ i z, w.cell? ⟨b, i, none⟩ ≠ some (.int .u32 z) := by
  intro i z e
  have h := h.2.2
  simp only [World.cell?, h] at e
  rcases i with _ | _ | i <;> simp at e
theorem Rd.step {A : Option Addr} {xs : List Nat} (h : Rd w A xs) (bad : Nat → Prop) (hn : ∀ g, bad g → ∀ i z, w.cell? ⟨g, i, none⟩ ≠ some (.int .u32 z)) (hk : ∀ g, g < w.heap.size → ¬ bad g → w'.heap[g]? = w.heap[g]?) : Rd w' A xs := by
  refine ⟨h.1, fun hne => ?_⟩
  obtain ⟨g, o, rfl, hc⟩ := h.2 hne
  refine ⟨g, o, rfl, fun j z hz => ?_⟩
  have hcz := hc j z hz
  have hb : ¬ bad g := fun hb => hn g hb _ _ hcz
  have hlt : g < w.heap.size := World.block_lt_of_cell? w _ hcz
  rw [World.cell?_of_block (w := w) (w' := w') (a := ⟨g, o + j, none⟩) (hk g hlt hb)]
  exact hcz
theorem IsT.step {v : Value} (h : IsT N v w) (bad : Nat → Prop) (hn : ∀ g, bad g → ∀ i z, w.cell? ⟨g, i, none⟩ ≠ some (.int .u32 z)) (hk : ∀ g, g < w.heap.size → ¬ bad g → w'.heap[g]? = w.heap[g]?) : IsT N v w' := by
  obtain ⟨A, e, hR⟩ := h
  exact ⟨A, e, hR.step bad hn hk⟩
theorem IsT.not {v : Value} (h : IsT N v w) : ∀ z, v ≠ .int .u32 z := by
  obtain ⟨A, rfl, _⟩ := h
  intro z e; cases e
theorem St.no (h : St w0 b l P Q r n N V M D k x y w) : ∀ g, (g = b ∨ g = P ∨ g = Q) → ∀ i z, w.cell? ⟨g, i, none⟩ ≠ some (.int .u32 z) := by
  rintro g (rfl | rfl | rfl) i z e
  · exact h.rdr.no i z e
  · have h1 := h.num
    simp only [World.cell?, h1] at e
    rcases i with _ | _ | _ | _ | i
    · simp at e
    · simp at e; exact h.isV.not _ e
    · simp at e; exact h.isD.not _ e
    · simp at e
    · simp at e
  · have h1 := h.late
    simp only [World.cell?, h1] at e
    rcases i with _ | _ | i <;> simp at e
theorem St.bne (h : St w0 b l P Q r n N V M D k x y w) : b ≠ P ∧ b ≠ Q := ⟨by have := h.bl; have := h.pl; omega, by have := h.bl; have := h.ql; omega⟩
theorem St.plt (h : St w0 b l P Q r n N V M D k x y w) : P < w.heap.size ∧ Q < w.heap.size := ⟨(Array.getElem?_eq_some_iff.1 h.num).1, (Array.getElem?_eq_some_iff.1 h.late).1⟩
/-- The reader goes on. -/
theorem St.go (h : St w0 b l P Q r n N V M D k x y w) (hr : Rdr w' b l s) (hg : w.grownBy w' (some b)) : St w0 b l P Q s n N V M D k x y w' := by
  have hk : ∀ g, g < w.heap.size → ¬ (g = b ∨ g = P ∨ g = Q) → w'.heap[g]? = w.heap[g]? := fun g hg' hne => hg.block g hg' (by intro e; injection e with e; exact hne (.inl e))
  exact ⟨hr, grownBy_trans h.grow hg, (hg.block P h.plt.1 (by intro e; injection e with e; exact h.bne.1 e.symm)).trans h.num, (hg.block Q h.plt.2 (by intro e; injection e with e; exact h.bne.2 e.symm)).trans h.late,
    h.isV.step _ h.no hk, h.isD.step _ h.no hk, h.bl, h.pl, h.ql, h.ne, (hg.block _ (Array.getElem?_eq_some_iff.1 h.res).1 (by intro e; injection e with e; have := h.bl; omega)).trans h.res⟩
theorem St.below (h : St w0 b l P Q r n N V M D k x y w) (hb : Below w.heap.size w w') : St w0 b l P Q r n N V M D k x y w' := h.go (h.rdr.later hb) (grownBy_below hb)
theorem St.drewN (h : St w0 b l P Q r n N V M D k x y w) (j : Nat) : St w0 b l P Q r n N V M D k x y (w.drewN j) := ⟨h.rdr, grownBy_drewN h.grow j, h.num, h.late, h.isV, h.isD, h.bl, h.pl, h.ql, h.ne, h.res⟩
theorem St.drew (h : St w0 b l P Q r n N V M D k x y w) : St w0 b l P Q r n N V M D k x y w.drew := h.drewN 1
theorem set_other (w : World) (p i g : Nat) (v : Value) (h : g ≠ p) : (w.setCell ⟨p, i, none⟩ v).heap[g]? = w.heap[g]? := setb' w p i v g h
/-- A field of the struct is written. -/
theorem St.put (h : St w0 b l P Q r n N V M D k x y w) {i : Nat} {u : Value} {n' : Bool} {N' M' : Nat} {V' D' : Value} {k' : Int} (he : (#[.bool n, V, D, .int .i64 k] : Array Value).setIfInBounds i u = #[.bool n', V', D', .int .i64 k'])
    (hv : IsT N' V' w) (hd : IsT M' D' w) : St w0 b l P Q r n' N' V' M' D' k' x y (w.setCell ⟨P, i, none⟩ u) := by
  have hk : ∀ g, g < w.heap.size → ¬ (g = b ∨ g = P ∨ g = Q) → (w.setCell ⟨P, i, none⟩ u).heap[g]? = w.heap[g]? := fun g _ hne => set_other w P i g u (fun e => hne (.inr (.inl e)))
  refine ⟨h.rdr.far h.bne.1 _ _, grown_far h.grow (Nat.le_of_succ_le h.pl) _ _, ?_, (set_other w P i Q u (Ne.symm h.ne)).trans h.late, hv.step _ h.no hk, hd.step _ h.no hk, h.bl, h.pl, h.ql, h.ne, (set_other w P i _ u (by have := h.pl; omega)).trans h.res⟩
  have h1 := h.num
  have he' := congrArg Array.toList he
  simp [World.setCell, Array.getElem?_modify, h1]
  simpa using he'
theorem St.putN (h : St w0 b l P Q r n N V M D k x y w) (m : Bool) : St w0 b l P Q r m N V M D k x y (w.setCell ⟨P, 0, none⟩ (.bool m)) := h.put rfl h.isV h.isD
theorem St.putV (h : St w0 b l P Q r n N V M D k x y w) {N' : Nat} {V' : Value} (hv : IsT N' V' w) : St w0 b l P Q r n N' V' M D k x y (w.setCell ⟨P, 1, none⟩ V') := h.put rfl hv h.isD
theorem St.putD (h : St w0 b l P Q r n N V M D k x y w) {M' : Nat} {D' : Value} (hd : IsT M' D' w) : St w0 b l P Q r n N V M' D' k x y (w.setCell ⟨P, 2, none⟩ D') := h.put rfl h.isV hd
theorem St.putK (h : St w0 b l P Q r n N V M D k x y w) (k' : Int) : St w0 b l P Q r n N V M D k' x y (w.setCell ⟨P, 3, none⟩ (.int .i64 k')) := h.put rfl h.isV h.isD
/-- The late fault is written. -/
theorem St.fault (h : St w0 b l P Q r n N V M D k x y w) (x' y' : Int) : St w0 b l P Q r n N V M D k x' y' ((w.setCell ⟨Q, 0, none⟩ (.int .i64 x')).setCell ⟨Q, 1, none⟩ (.int .i64 y')) := by
  have hk : ∀ g, g < w.heap.size → ¬ (g = b ∨ g = P ∨ g = Q) → ((w.setCell ⟨Q, 0, none⟩ (.int .i64 x')).setCell ⟨Q, 1, none⟩ (.int .i64 y')).heap[g]? = w.heap[g]? := fun g _ hne => (set_other _ Q 1 g _ (fun e => hne (.inr (.inr e)))).trans (set_other w Q 0 g _ (fun e => hne (.inr (.inr e))))
  exact ⟨(h.rdr.far h.bne.2 _ _).far h.bne.2 _ _, grown_far (grown_far h.grow (Nat.le_of_succ_le h.ql) _ _) (Nat.le_of_succ_le h.ql) _ _, ((set_other _ Q 1 P _ h.ne).trans (set_other w Q 0 P _ h.ne)).trans h.num, fO_set h.late _ _, h.isV.step _ h.no hk, h.isD.step _ h.no hk, h.bl, h.pl, h.ql, h.ne, ((set_other _ Q 1 _ _ (by have := h.ql; omega)).trans (set_other w Q 0 _ _ (by have := h.ql; omega))).trans h.res⟩
theorem IsT.nil (w : World) : IsT 0 (.slice none 0 0) w := ⟨none, by rw [dig_zero]; rfl, by rw [dig_zero]; exact Rd.nil⟩
theorem St.start {w : World} (h : Rdr w b l r) : St w b l (w.heap.size + 1) (w.heap.size + 1 + 1) r false 0 (.slice none 0 0) 1 (.slice (some ⟨w.heap.size + 1 + 1 + 1, 0, none⟩) 1 1) 0 0 0 ((((w.alloc (nmO false (.slice none 0 0) (.slice none 0 0) 0)).alloc (nmO false (.slice none 0 0) (.slice (some ⟨w.heap.size + 1 + 1 + 1, 0, none⟩) 1 1) 0)).alloc (fO (.int .i64 0) (.int .i64 0))).alloc (.cells #[.int .u32 1] 63)) := by
  have e1 : (w.alloc (nmO false (.slice none 0 0) (.slice none 0 0) 0)).heap.size = w.heap.size + 1 := by show (w.heap.push _).size = _; simp
  have e2 : ((w.alloc (nmO false (.slice none 0 0) (.slice none 0 0) 0)).alloc (nmO false (.slice none 0 0) (.slice (some ⟨w.heap.size + 1 + 1 + 1, 0, none⟩) 1 1) 0)).heap.size = w.heap.size + 1 + 1 := by show ((w.heap.push _).push _).size = _; simp
  have e3 : (((w.alloc (nmO false (.slice none 0 0) (.slice none 0 0) 0)).alloc (nmO false (.slice none 0 0) (.slice (some ⟨w.heap.size + 1 + 1 + 1, 0, none⟩) 1 1) 0)).alloc (fO (.int .i64 0) (.int .i64 0))).heap.size = w.heap.size + 1 + 1 + 1 := by show (((w.heap.push _).push _).push _).size = _; simp
  have b1 : Below w.heap.size w ((((w.alloc (nmO false (.slice none 0 0) (.slice none 0 0) 0)).alloc (nmO false (.slice none 0 0) (.slice (some ⟨w.heap.size + 1 + 1 + 1, 0, none⟩) 1 1) 0)).alloc (fO (.int .i64 0) (.int .i64 0))).alloc (.cells #[.int .u32 1] 63)) := raft (raft (raft (rnew w _) (rnew _ _)) (rnew _ _)) (rnew _ _)
  have hx : ((((w.alloc (nmO false (.slice none 0 0) (.slice none 0 0) 0)).alloc (nmO false (.slice none 0 0) (.slice (some ⟨w.heap.size + 1 + 1 + 1, 0, none⟩) 1 1) 0)).alloc (fO (.int .i64 0) (.int .i64 0))).alloc (.cells #[.int .u32 1] 63)).heap[w.heap.size + 1]? = some (nmO false (.slice none 0 0) (.slice (some ⟨w.heap.size + 1 + 1 + 1, 0, none⟩) 1 1) 0) := by
    have hq0 := heap_alloc_new (w.alloc (nmO false (.slice none 0 0) (.slice none 0 0) 0)) (nmO false (.slice none 0 0) (.slice (some ⟨w.heap.size + 1 + 1 + 1, 0, none⟩) 1 1) 0)
    rw [e1] at hq0
    exact ((rnew _ _).block _ (by rw [e3]; omega)).trans (((rnew _ _).block _ (by rw [e2]; omega)).trans hq0)
  have hq : ((((w.alloc (nmO false (.slice none 0 0) (.slice none 0 0) 0)).alloc (nmO false (.slice none 0 0) (.slice (some ⟨w.heap.size + 1 + 1 + 1, 0, none⟩) 1 1) 0)).alloc (fO (.int .i64 0) (.int .i64 0))).alloc (.cells #[.int .u32 1] 63)).heap[w.heap.size + 1 + 1]? = some (fO (.int .i64 0) (.int .i64 0)) := by
    have hq0 := heap_alloc_new ((w.alloc (nmO false (.slice none 0 0) (.slice none 0 0) 0)).alloc (nmO false (.slice none 0 0) (.slice (some ⟨w.heap.size + 1 + 1 + 1, 0, none⟩) 1 1) 0)) (fO (.int .i64 0) (.int .i64 0))
    rw [e2] at hq0
    exact ((rnew _ _).block _ (by rw [e3]; omega)).trans hq0
  have hT : IsT 1 (.slice (some ⟨w.heap.size + 1 + 1 + 1, 0, none⟩) 1 1) ((((w.alloc (nmO false (.slice none 0 0) (.slice none 0 0) 0)).alloc (nmO false (.slice none 0 0) (.slice (some ⟨w.heap.size + 1 + 1 + 1, 0, none⟩) 1 1) 0)).alloc (fO (.int .i64 0) (.int .i64 0))).alloc (.cells #[.int .u32 1] 63)) := by
    have hb := (Blk.new (((w.alloc (nmO false (.slice none 0 0) (.slice none 0 0) 0)).alloc (nmO false (.slice none 0 0) (.slice (some ⟨w.heap.size + 1 + 1 + 1, 0, none⟩) 1 1) 0)).alloc (fO (.int .i64 0) (.int .i64 0))) #[.int .u32 1] [1] (by intro x hx; simp at hx; omega) rfl).rd
    rw [e3] at hb
    exact ⟨_, by rw [dig_1]; rfl, by rw [dig_1]; exact hb⟩
  have hlt := h.lt
  have hres := ((rnew (((w.alloc (nmO false (.slice none 0 0) (.slice none 0 0) 0)).alloc (nmO false (.slice none 0 0) (.slice (some ⟨w.heap.size + 1 + 1 + 1, 0, none⟩) 1 1) 0)).alloc (fO (.int .i64 0) (.int .i64 0))) (.cells #[.int .u32 1] 63)).block w.heap.size (by rw [e3]; omega)).trans (((rnew _ _).block _ (by rw [e2]; omega)).trans (((rnew _ _).block _ (by rw [e1]; omega)).trans (heap_alloc_new w (nmO false (.slice none 0 0) (.slice none 0 0) 0))))
  exact ⟨h.later b1, grownBy_below b1, hx, hq, IsT.nil _, hT, hlt, by omega, by omega, by omega, hres⟩
theorem St.cells (h : St w0 b l P Q r n N V M D k x y w) : (w.cell? ⟨P, 0, none⟩ = some (.bool n) ∧ w.cell? ⟨P, 1, none⟩ = some V ∧ w.cell? ⟨P, 2, none⟩ = some D ∧ w.cell? ⟨P, 3, none⟩ = some (.int .i64 k)) ∧
    (w.frozen? ⟨P, 0, none⟩ = false ∧ w.frozen? ⟨P, 1, none⟩ = false ∧ w.frozen? ⟨P, 2, none⟩ = false ∧ w.frozen? ⟨P, 3, none⟩ = false) ∧
    w.cell? ⟨Q, 0, none⟩ = some (.int .i64 x) ∧ w.cell? ⟨Q, 1, none⟩ = some (.int .i64 y) ∧ w.frozen? ⟨Q, 0, none⟩ = false ∧ w.frozen? ⟨Q, 1, none⟩ = false := by
  have h1 := h.num
  have h2 := h.late
  refine ⟨⟨?_, ?_, ?_, ?_⟩, ⟨?_, ?_, ?_, ?_⟩, ?_, ?_, ?_, ?_⟩ <;> simp [World.cell?, World.frozen?, h1, h2]
theorem St.rcells (h : St w0 b l P Q r n N V M D k x y w) : (w.cell? ⟨w0.heap.size, 0, none⟩ = some (.bool false) ∧ w.cell? ⟨w0.heap.size, 1, none⟩ = some (.slice none 0 0) ∧ w.cell? ⟨w0.heap.size, 2, none⟩ = some (.slice none 0 0) ∧ w.cell? ⟨w0.heap.size, 3, none⟩ = some (.int .i64 0)) ∧
    (w.frozen? ⟨w0.heap.size, 0, none⟩ = false ∧ w.frozen? ⟨w0.heap.size, 1, none⟩ = false ∧ w.frozen? ⟨w0.heap.size, 2, none⟩ = false ∧ w.frozen? ⟨w0.heap.size, 3, none⟩ = false) := by
  have h1 := h.res
  refine ⟨⟨?_, ?_, ?_, ?_⟩, ?_, ?_, ?_, ?_⟩ <;> simp [World.cell?, World.frozen?, h1]
/-- The result is laid into its place. -/
def putR (w : World) (R : Nat) (n : Bool) (V D : Value) (k : Int) : World := (((w.setCell ⟨R, 0, none⟩ (.bool n)).setCell ⟨R, 1, none⟩ V).setCell ⟨R, 2, none⟩ D).setCell ⟨R, 3, none⟩ (.int .i64 k)
theorem putR_other (w : World) (R g : Nat) (n : Bool) (V D : Value) (k : Int) (h : g ≠ R) : (putR w R n V D k).heap[g]? = w.heap[g]? := (((set_other _ R 3 g _ h).trans (set_other _ R 2 g _ h)).trans (set_other _ R 1 g _ h)).trans (set_other _ R 0 g _ h)
theorem putR_cells {w : World} {R : Nat} {n0 : Bool} {V0 D0 : Value} {k0 : Int} (h : w.heap[R]? = some (nmO n0 V0 D0 k0)) (n : Bool) (V D : Value) (k : Int) : (putR w R n V D k).heap[R]? = some (nmO n V D k) := by
  simp [putR, World.setCell, Array.getElem?_modify, h]
theorem St.out (h : St w0 b l P Q r n N V M D k x y w) : (putR w w0.heap.size n V D k).heap[w0.heap.size]? = some (nmO n V D k) ∧ IsT N V (putR w w0.heap.size n V D k) ∧ IsT M D (putR w w0.heap.size n V D k) ∧ w0.grownBy (putR w w0.heap.size n V D k) (some b) := by
  have hn : ∀ g, g = w0.heap.size → ∀ i z, w.cell? ⟨g, i, none⟩ ≠ some (.int .u32 z) := by
    rintro g rfl i z e
    have h1 := h.res
    simp only [World.cell?, h1] at e
    rcases i with _ | _ | _ | _ | i <;> simp at e
  have hk : ∀ g, g < w.heap.size → ¬ g = w0.heap.size → (putR w w0.heap.size n V D k).heap[g]? = w.heap[g]? := fun g _ hne => putR_other w _ g n V D k hne
  refine ⟨putR_cells h.res _ _ _ _, h.isV.step _ hn hk, h.isD.step _ hn hk, ?_⟩
  exact grown_far (grown_far (grown_far (grown_far h.grow (Nat.le_refl _) _ _) (Nat.le_refl _) _ _) (Nat.le_refl _) _ _) (Nat.le_refl _) _ _
theorem putR_read {w : World} {R : Nat} {n : Bool} {V D : Value} {k : Int} (h : (putR w R n V D k).heap[R]? = some (nmO n V D k)) : (putR w R n V D k).cell? ⟨R, 0, none⟩ = some (.bool n) ∧ (putR w R n V D k).cell? ⟨R, 1, none⟩ = some V ∧ (putR w R n V D k).cell? ⟨R, 2, none⟩ = some D ∧ (putR w R n V D k).cell? ⟨R, 3, none⟩ = some (.int .i64 k) := by
  generalize putR w R n V D k = W at *
  refine ⟨?_, ?_, ?_, ?_⟩ <;> simp [World.cell?, h]
end Go.Proofs.Ytiadjcilfljdaaa
