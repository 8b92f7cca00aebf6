/- NatPlays: the memory: two rows of eight lists. -/
import Derived.Test.YtniogjkkhkibhaaDoorHeldJ
import Derived.Laws.OwnMore
namespace Go.Proofs.YtniogjkkhkibhaaDoor
set_option linter.unusedVariables false
set_option linter.unusedSimpArgs false
open Go.RowKit Verge

/-- A row of eight lists, by their places. -/
def rowOf (A : Nat → Option Addr) (n c : Nat → Nat) (k : Nat) : Value := .slice (A k) (n k) (c k)
/-- While the rows grow. -/
structure L1 (w W : World) (mv dv : Value) (i : Nat) (ga gb : Nat → Nat) (xs : Nat → List Nat) : Prop where
  bl : Below w.heap.size w W
  m : GrowS W w.heap.size mv i ((List.range i).map fun k => .slice (some ⟨ga k, 0, none⟩) (xs k).length (xs k).length)
  d : GrowS W w.heap.size dv i ((List.range i).map fun k => .slice (some ⟨gb k, 0, none⟩) (xs k).length (xs k).length)
  ba : ∀ k, k < i → Blk W (ga k) (xs k)
  bb : ∀ k, k < i → Blk W (gb k) (xs k)
  len : ∀ k, k < i → (xs k).length ≤ 200
  z : i = 0 → mv = .slice none 0 0 ∧ dv = .slice none 0 0
  ne : 0 < i → ga 0 ≠ gb 0

theorem blk_apart {w : World} {g : Nat} {xs : List Nat} {B : Nat} {v : Value} {n : Nat} {vs : List Value} (h : Blk w g xs) (h' : GrowS w B v n vs) : some g ≠ v.ownBlock := by
  rcases h'.2 with ⟨rfl, _⟩ | ⟨g', cap', cur', rfl, _, hg', _⟩
  · simp [Value.ownBlock]
  · simp only [Value.ownBlock, ne_eq, Option.some.injEq]
    intro eq
    subst eq
    have := h.2
    rw [hg'] at this
    simp at this

section
variable {w W W' : World} {mv dv mv' dv' : Value} {i : Nat} {ga gb : Nat → Nat} {xs : Nat → List Nat}
theorem L1.later (h : L1 w W mv dv i ga gb xs) (hb : Below W.heap.size W W') : L1 w W' mv dv i ga gb xs :=
  ⟨aft h.bl hb, h.m.kept (below_grow hb none) (none_or _), h.d.kept (below_grow hb none) (none_or _), fun k hk => (h.ba k hk).later hb, fun k hk => (h.bb k hk).later hb, h.len, h.z, h.ne⟩
theorem L1.apart (h : L1 w W mv dv i ga gb xs) : mv.ownBlock = none ∨ mv.ownBlock ≠ dv.ownBlock := by
  rcases Nat.eq_zero_or_pos i with h0 | h0
  · rw [(h.z h0).1]; exact .inl rfl
  · refine heads_apart h.m h.d (a := .slice (some ⟨ga 0, 0, none⟩) (xs 0).length (xs 0).length) (b := .slice (some ⟨gb 0, 0, none⟩) (xs 0).length (xs 0).length) (by simp [h0]) (by simp [h0]) ?_
    intro e; simp at e; exact h.ne h0 e
theorem L1.apart' (h : L1 w W mv dv i ga gb xs) : dv.ownBlock = none ∨ dv.ownBlock ≠ mv.ownBlock := by
  rcases h.apart with e | e
  · rw [e]; exact none_or _
  · exact .inr (Ne.symm e)
/-- Half a round: the first row is longer by one. -/
structure L1h (w W : World) (mv dv : Value) (i : Nat) (ga gb : Nat → Nat) (xs : Nat → List Nat) (g : Nat) (X : List Nat) : Prop where
  bl : Below w.heap.size w W
  m : GrowS W w.heap.size mv (i + 1) ((List.range i).map (fun k => .slice (some ⟨ga k, 0, none⟩) (xs k).length (xs k).length) ++ [.slice (some ⟨g, 0, none⟩) X.length X.length])
  d : GrowS W w.heap.size dv i ((List.range i).map fun k => .slice (some ⟨gb k, 0, none⟩) (xs k).length (xs k).length)
  ba : ∀ k, k < i → Blk W (ga k) (xs k)
  bb : ∀ k, k < i → Blk W (gb k) (xs k)
  bg : Blk W g X
  len : ∀ k, k < i → (xs k).length ≤ 200
  z : i = 0 → dv = .slice none 0 0
  ne : 0 < i → ga 0 ≠ gb 0
theorem L1.push (h : L1 w W mv dv i ga gb xs) {g : Nat} {X : List Nat} (hg : Blk W g X)
    (hS : GrowS W' w.heap.size mv' (i + 1) ((List.range i).map (fun k => Value.slice (some ⟨ga k, 0, none⟩) (xs k).length (xs k).length) ++ [.slice (some ⟨g, 0, none⟩) X.length X.length])) (hb : W.grownBy W' mv.ownBlock) : L1h w W' mv' dv i ga gb xs g X := by
  refine ⟨⟨hb.os.trans h.bl.os, hb.tape.trans h.bl.tape, hb.output.trans h.bl.output, Nat.le_trans h.bl.size hb.size, fun k hk => (hb.block k (Nat.lt_of_lt_of_le hk h.bl.size) ?_).trans (h.bl.block k hk)⟩, hS, h.d.kept hb h.apart', fun k hk => (h.ba k hk).grown hb (blk_apart (h.ba k hk) h.m), fun k hk => (h.bb k hk).grown hb (blk_apart (h.bb k hk) h.m), hg.grown hb (blk_apart hg h.m), h.len, fun e => (h.z e).2, h.ne⟩
  intro e
  have := (h.m.lt k e.symm).1
  omega
theorem L1h.later {g : Nat} {X : List Nat} (h : L1h w W mv dv i ga gb xs g X) (hb : Below W.heap.size W W') : L1h w W' mv dv i ga gb xs g X :=
  ⟨aft h.bl hb, h.m.kept (below_grow hb none) (none_or _), h.d.kept (below_grow hb none) (none_or _), fun k hk => (h.ba k hk).later hb, fun k hk => (h.bb k hk).later hb, h.bg.later hb, h.len, h.z, h.ne⟩
theorem row_step (f : Nat → Value) (i : Nat) (v : Value) (f' : Nat → Value) (h1 : ∀ k, k < i → f' k = f k) (h2 : f' i = v) : (List.range (i + 1)).map f' = (List.range i).map f ++ [v] := by
  rw [List.range_succ, List.map_append]
  congr 1
  · refine List.map_congr_left fun k hk => ?_
    rw [List.mem_range] at hk
    exact h1 k hk
  · simp [h2]
theorem L1h.push {g g2 : Nat} {X : List Nat} (h : L1h w W mv dv i ga gb xs g X) (hg : Blk W g2 X) (hne : g ≠ g2) (hX : X.length ≤ 200)
    (hS : GrowS W' w.heap.size dv' (i + 1) ((List.range i).map (fun k => Value.slice (some ⟨gb k, 0, none⟩) (xs k).length (xs k).length) ++ [.slice (some ⟨g2, 0, none⟩) X.length X.length])) (hb : W.grownBy W' dv.ownBlock) :
    L1 w W' mv dv' (i + 1) (fun k => if k = i then g else ga k) (fun k => if k = i then g2 else gb k) (fun k => if k = i then X else xs k) := by
  have hap : mv.ownBlock = none ∨ mv.ownBlock ≠ dv.ownBlock := by
    rcases Nat.eq_zero_or_pos i with h0 | h0
    · rw [h.z h0]; exact none_or _
    · refine heads_apart h.m h.d (a := .slice (some ⟨ga 0, 0, none⟩) (xs 0).length (xs 0).length) (b := .slice (some ⟨gb 0, 0, none⟩) (xs 0).length (xs 0).length) (by rw [List.getElem?_append_left (by simp [h0])]; simp [h0]) (by simp [h0]) ?_
      intro e; simp at e; exact h.ne h0 e
  refine ⟨⟨hb.os.trans h.bl.os, hb.tape.trans h.bl.tape, hb.output.trans h.bl.output, Nat.le_trans h.bl.size hb.size, fun k hk => (hb.block k (Nat.lt_of_lt_of_le hk h.bl.size) ?_).trans (h.bl.block k hk)⟩, ?_, ?_, ?_, ?_, ?_, ?_, ?_⟩
  · intro e
    have := (h.d.lt k e.symm).1
    omega
  · rw [row_step (fun k => .slice (some ⟨ga k, 0, none⟩) (xs k).length (xs k).length) i (.slice (some ⟨g, 0, none⟩) X.length X.length) _ (fun k hk => by simp only [if_neg (show ¬ k = i by omega)]) (by simp only [if_pos])]
    exact h.m.kept hb hap
  · rw [row_step (fun k => .slice (some ⟨gb k, 0, none⟩) (xs k).length (xs k).length) i (.slice (some ⟨g2, 0, none⟩) X.length X.length) _ (fun k hk => by simp only [if_neg (show ¬ k = i by omega)]) (by simp only [if_pos])]
    exact hS
  · intro k hk
    by_cases e : k = i
    · simp only [if_pos e]; exact h.bg.grown hb (blk_apart h.bg h.d)
    · simp only [if_neg e]; exact (h.ba k (by omega)).grown hb (blk_apart (h.ba k (by omega)) h.d)
  · intro k hk
    by_cases e : k = i
    · simp only [if_pos e]; exact hg.grown hb (blk_apart hg h.d)
    · simp only [if_neg e]; exact (h.bb k (by omega)).grown hb (blk_apart (h.bb k (by omega)) h.d)
  · intro k hk
    by_cases e : k = i
    · simp only [if_pos e]; exact hX
    · simp only [if_neg e]; exact h.len k (by omega)
  · intro e; omega
  · intro _
    by_cases e : 0 = i
    · simp only [if_pos e]; exact hne
    · simp only [if_neg e]; exact h.ne (by omega)
end

/-- The two rows, and what stands in their lists. -/
structure Tbl (w W : World) (gm cm gd cd : Nat) (Am Ad : Nat → Option Addr) (dc : Nat → Nat) (xs : Nat → List Nat) : Prop where
  bl : Below w.heap.size w W
  m : GrowS W w.heap.size (.slice (some ⟨gm, 0, none⟩) 8 cm) 8 ((List.range 8).map fun k => .slice (Am k) (xs k).length (xs k).length)
  d : GrowS W w.heap.size (.slice (some ⟨gd, 0, none⟩) 8 cd) 8 ((List.range 8).map fun k => .slice (Ad k) (xs k).length (dc k))
  ne : gm ≠ gd
  ra : ∀ k, k < 8 → Rd W (Am k) (xs k)
  rb : ∀ k, k < 8 → Rd W (Ad k) (xs k)
  len : ∀ k, k < 8 → (xs k).length ≤ 16384
theorem Rd.setv {w : World} {A : Option Addr} {xs : List Nat} (h : Rd w A xs) {g i : Nat} (hn : ∀ z, w.cell? ⟨g, i, none⟩ ≠ some (.int .u32 z)) (u : Value) : Rd (w.setCell ⟨g, i, none⟩ u) A xs := by
  refine ⟨h.1, fun hne => ?_⟩
  obtain ⟨b, o, e, hc⟩ := h.2 hne
  refine ⟨b, o, e, fun k x hk => ?_⟩
  have h1 := hc k x hk
  by_cases hb : b = g
  · subst hb
    have hi : i ≠ o + k := by rintro rfl; exact hn _ h1
    cases hh : w.heap[b]? with
    | none => simp [World.cell?, hh] at h1
    | some ob =>
      cases ob with
      | cells cs t fz =>
        simp only [World.cell?, hh] at h1
        simp only [World.cell?, World.setCell, Array.getElem?_modify, hh, if_true, Option.map_some]
        simp only [Option.isSome_none, Bool.false_eq_true, if_false] at h1 ⊢
        rw [Array.getElem?_setIfInBounds, if_neg hi]
        exact h1
      | _ => simp [World.cell?, hh] at h1
  · rw [← h1]
    exact World.cell?_of_block (w := w) (w' := w.setCell ⟨g, i, none⟩ u) (a := ⟨b, o + k, none⟩) (setb w g i u b hb)
section
variable {w W W' : World} {gm cm gd cd : Nat} {Am Ad : Nat → Option Addr} {dc : Nat → Nat} {xs : Nat → List Nat}
theorem Tbl.later (h : Tbl w W gm cm gd cd Am Ad dc xs) (hb : Below W.heap.size W W') : Tbl w W' gm cm gd cd Am Ad dc xs :=
  ⟨aft h.bl hb, h.m.kept (below_grow hb none) (none_or _), h.d.kept (below_grow hb none) (none_or _), h.ne, fun k hk => (h.ra k hk).below hb, fun k hk => (h.rb k hk).below hb, h.len⟩
theorem range8 (f : Nat → Value) {k : Nat} (hk : k < 8) : ((List.range 8).map f)[k]? = some (f k) := by simp [hk]
theorem Tbl.cm' (h : Tbl w W gm cm gd cd Am Ad dc xs) {k : Nat} (hk : k < 8) : W.cell? ⟨gm, k, none⟩ = some (.slice (Am k) (xs k).length (xs k).length) ∧ W.frozen? ⟨gm, k, none⟩ = false :=
  ⟨(h.m.cellAt k (by omega)).trans (range8 _ hk), h.m.frozenAt k⟩
theorem Tbl.cd' (h : Tbl w W gm cm gd cd Am Ad dc xs) {k : Nat} (hk : k < 8) : W.cell? ⟨gd, k, none⟩ = some (.slice (Ad k) (xs k).length (dc k)) ∧ W.frozen? ⟨gd, k, none⟩ = false :=
  ⟨(h.d.cellAt k (by omega)).trans (range8 _ hk), h.d.frozenAt k⟩
theorem set8 (f f' : Nat → Value) {a : Nat} (u : Value) (ha : a < 8) (h1 : f' a = u) (h2 : ∀ k, k ≠ a → f' k = f k) : ((List.range 8).map f).set a u = (List.range 8).map f' := by
  apply List.ext_getElem?
  intro k
  rw [List.getElem?_set]
  by_cases e : a = k
  · subst e; rw [if_pos rfl, if_pos (by simpa using ha)]; simp [ha, h1]
  · rw [if_neg e]
    by_cases hk : k < 8
    · simp [hk, h2 k (fun h => e h.symm)]
    · simp [hk]
/-- Both rows take a new list at one place. -/
theorem Tbl.put (h : Tbl w W gm cm gd cd Am Ad dc xs) {a : Nat} (ha : a < 8) {A B : Option Addr} {c : Nat} {X : List Nat} (hA : Rd W A X) (hB : Rd W B X) (hX : X.length ≤ 16384) :
    Tbl w ((W.setCell ⟨gm, a, none⟩ (.slice A X.length X.length)).setCell ⟨gd, a, none⟩ (.slice B X.length c)) gm cm gd cd (fun k => if k = a then A else Am k) (fun k => if k = a then B else Ad k) (fun k => if k = a then c else dc k) (fun k => if k = a then X else xs k) := by
  have m1 := h.m.stored a (.slice A X.length X.length)
  have d1 := h.d.kept m1.2 (.inr (by simp [Value.ownBlock]; exact fun e => h.ne e.symm))
  have d2 := d1.stored a (.slice B X.length c)
  have m2 := m1.1.kept d2.2 (.inr (by simp [Value.ownBlock]; exact h.ne))
  have lm := (h.m.lt gm rfl).1
  have ld := (h.d.lt gd rfl).1
  have n1 : ∀ z, W.cell? ⟨gm, a, none⟩ ≠ some (.int .u32 z) := fun z e => by rw [(h.cm' ha).1] at e; cases e
  have n2 : ∀ z, (W.setCell ⟨gm, a, none⟩ (.slice A X.length X.length)).cell? ⟨gd, a, none⟩ ≠ some (.int .u32 z) := fun z e => by
    rw [d1.cellAt a (by omega), range8 _ ha] at e
    cases e
  have rd : ∀ {C : Option Addr} {Y : List Nat}, Rd W C Y → Rd ((W.setCell ⟨gm, a, none⟩ (.slice A X.length X.length)).setCell ⟨gd, a, none⟩ (.slice B X.length c)) C Y := fun hh => (hh.setv n1 _).setv n2 _
  refine ⟨(h.bl.setCell lm _).setCell ld _, ?_, ?_, h.ne, ?_, ?_, ?_⟩
  · rw [← set8 (fun k => .slice (Am k) (xs k).length (xs k).length) _ (.slice A X.length X.length) ha (by simp) (fun k hk => by simp [hk])]
    exact m2
  · rw [← set8 (fun k => .slice (Ad k) (xs k).length (dc k)) _ (.slice B X.length c) ha (by simp) (fun k hk => by simp [hk])]
    exact d2.1
  · intro k hk
    by_cases e : k = a
    · simp only [if_pos e]; exact rd hA
    · simp only [if_neg e]; exact rd (h.ra k hk)
  · intro k hk
    by_cases e : k = a
    · simp only [if_pos e]; exact rd hB
    · simp only [if_neg e]; exact rd (h.rb k hk)
  · intro k hk
    by_cases e : k = a
    · simp only [if_pos e]; exact hX
    · simp only [if_neg e]; exact h.len k hk
/-- What other lists read behind it. -/
theorem Tbl.rds (h : Tbl w W gm cm gd cd Am Ad dc xs) {a : Nat} (ha : a < 8) {A B : Option Addr} {n n' c c' : Nat} {C : Option Addr} {Y : List Nat} (hC : Rd W C Y) :
    Rd ((W.setCell ⟨gm, a, none⟩ (.slice A n c)).setCell ⟨gd, a, none⟩ (.slice B n' c')) C Y := by
  have m1 := h.m.stored a (.slice A n c)
  have d1 := h.d.kept m1.2 (.inr (by simp [Value.ownBlock]; exact fun e => h.ne e.symm))
  have n1 : ∀ z, W.cell? ⟨gm, a, none⟩ ≠ some (.int .u32 z) := fun z e => by rw [(h.cm' ha).1] at e; cases e
  have n2 : ∀ z, (W.setCell ⟨gm, a, none⟩ (.slice A n c)).cell? ⟨gd, a, none⟩ ≠ some (.int .u32 z) := fun z e => by
    rw [d1.cellAt a (by omega), range8 _ ha] at e
    cases e
  exact (hC.setv n1 _).setv n2 _
end
/-- The first loop's end. -/
theorem L1.tbl {w W : World} {mv dv : Value} {ga gb : Nat → Nat} {xs : Nat → List Nat} (h : L1 w W mv dv 8 ga gb xs) : ∃ gm cm gd cd, mv = .slice (some ⟨gm, 0, none⟩) 8 cm ∧ dv = .slice (some ⟨gd, 0, none⟩) 8 cd ∧
    Tbl w W gm cm gd cd (fun k => some ⟨ga k, 0, none⟩) (fun k => some ⟨gb k, 0, none⟩) (fun k => (xs k).length) xs := by
  obtain ⟨gm, cm, rfl, _, _⟩ := row_form h.m (by omega)
  obtain ⟨gd, cd, rfl, _, _⟩ := row_form h.d (by omega)
  refine ⟨gm, cm, gd, cd, rfl, rfl, h.bl, h.m, h.d, ?_, fun k hk => (h.ba k hk).rd, fun k hk => (h.bb k hk).rd, fun k hk => by have := h.len k hk; omega⟩
  rcases h.apart with e | e
  · simp [Value.ownBlock] at e
  · simpa [Value.ownBlock] using e
end Go.Proofs.YtniogjkkhkibhaaDoor
