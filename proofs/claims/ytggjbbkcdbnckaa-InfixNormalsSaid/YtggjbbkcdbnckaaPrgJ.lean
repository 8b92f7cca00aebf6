/- Programs of chapter 16: append at a step of a drawing region; in the midst of Normal. -/
import Derived.Test.YtggjbbkcdbnckaaPrgI
import Derived.Deep.RegionLaw
namespace Go.Proofs.Ytggjbbkcdbnckaa
set_option linter.unusedVariables false
set_option linter.unusedSimpArgs false
open Go.RowKit Verge

theorem step_pushE {w : World} {ops : Array Oper} {o : Oper} {a : Act} {K : Act → World → Prop} {Q : Exit → Act → World → Prop} {E : Prop} (hgd : o.guard = none) (s x : Operand) (t e : TypeId) (k bytes : Nat) (z : Value)
    (ht : Try.prog.underlying t = some (.slice e)) (hinfo : (Try.prog.info? e).map (fun i => (i.zero, i.size, i.bytes)) = some (some z, k, bytes)) (hzk : z.cells.size = k) (hk : 0 < k)
    (ho : o.op = .call { callee := .builtin .append, args := #[s, x], argTypes := #[t, t] })
    (B : Nat) (v : Value) (n : Nat) (cs : List Value) (hs : a.eval s = v) (g0 : Nat) (news : List Value) (hblk : w.heap[g0]? = some (.cells news.toArray e (0, 0))) (hl : news.length = k) (h1 : ∀ u ∈ news, u.oneCell' = true) (hown : w.ownsRow B e k v n cs)
    (hx : a.eval x = .slice (some ⟨g0, 0, none⟩) 1 1) (hb : (n + 1) * bytes ≤ 140737488355328) (hm : n + 1 ≤ maxLen) (hB : B ≤ w.heap.size)
    (h : ∀ A' c' w', w'.ownsRow B e k (.slice A' (n + 1) c') (n + 1) (cs ++ news) → w.grownBy w' v.ownBlock → K (a.put o.dst (.slice A' (n + 1) c')) w') :
    if Region.wanted o (yielded ops a.tmps) = true then Oper.wp Try.prog o a w K Q else E := by
  have hw : Region.wanted o (yielded ops a.tmps) = true := by simp [Region.wanted, hgd]
  rw [if_pos hw]
  obtain ⟨i0, hi, hz0, hz1, hz2⟩ := info_parts hinfo
  refine wp_append_own _ s x t ho B e i0 z k bytes ht hi hz0 hz1 hz2 hzk hk v n cs hs hown ⟨g0, 0, none⟩ 1 1 news hx (by rw [Nat.one_mul]; exact hl) ?_ h1 hm hb hB ?_
  · intro j u hu
    rw [add_none, Nat.zero_add, cell_of_row _ g0 j _ _ (0, 0) hblk]
    simpa using hu
  · intro v' w' h1 h2 _
    obtain ⟨_, A', c', rfl, _⟩ := own_sl h1
    exact h A' c' w' h1 h2
/-- The same at a plain region. -/
theorem wpList_pushG {w : World} {ops : Array Oper} {rest : List Oper} {o : Oper} {a : Act} {Q : Exit → Act → World → Prop} (hgd : o.guard = none) (s x : Operand) (t e : TypeId) (k bytes : Nat) (z : Value)
    (ht : Try.prog.underlying t = some (.slice e)) (hinfo : (Try.prog.info? e).map (fun i => (i.zero, i.size, i.bytes)) = some (some z, k, bytes)) (hzk : z.cells.size = k) (hk : 0 < k)
    (ho : o.op = .call { callee := .builtin .append, args := #[s, x], argTypes := #[t, t] })
    (B : Nat) (v : Value) (n : Nat) (cs : List Value) (hs : a.eval s = v) (g0 : Nat) (news : List Value) (hblk : w.heap[g0]? = some (.cells news.toArray e (0, 0))) (hl : news.length = k) (h1 : ∀ u ∈ news, u.oneCell' = true) (hown : w.ownsRow B e k v n cs)
    (hx : a.eval x = .slice (some ⟨g0, 0, none⟩) 1 1) (hb : (n + 1) * bytes ≤ 140737488355328) (hm : n + 1 ≤ maxLen) (hB : B ≤ w.heap.size)
    (h : ∀ A' c' w', w'.ownsRow B e k (.slice A' (n + 1) c') (n + 1) (cs ++ news) → w.grownBy w' v.ownBlock → wpList Try.prog ops Q rest (a.put o.dst (.slice A' (n + 1) c')) w') : wpList Try.prog ops Q (o :: rest) a w := by
  obtain ⟨i0, hi, hz0, hz1, hz2⟩ := info_parts hinfo
  refine wpList_append_own _ hgd s x t ho B e i0 z k bytes ht hi hz0 hz1 hz2 hzk hk v n cs hs hown ⟨g0, 0, none⟩ 1 1 news hx (by rw [Nat.one_mul]; exact hl) ?_ h1 hm hb hB ?_
  · intro j u hu
    rw [add_none, Nat.zero_add, cell_of_row _ g0 j _ _ (0, 0) hblk]
    simpa using hu
  · intro v' w' h1 h2 _
    obtain ⟨_, A', c', rfl, _⟩ := own_sl h1
    exact h A' c' w' h1 h2
/-- In the midst of Normal: the box of the program, the box of the answer, the new program's box and its two lists. -/
structure Nid (T U e1 e2 : TypeId) (w wr : World) (g : Nat) (vars : Int) (bC bL : Value) (q1 : Value) (n1 : Nat) (c1 : List Value) (q2 : Value) (n2 : Nat) (c2 : List Value) : Prop where
  bl : Below w.heap.size w wr
  box : wr.heap[w.heap.size]? = some (.cells #[.int .i64 vars, bC, bL] U (0, 0))
  blk : wr.heap[g]? = some (.cells #[.int .i64 vars, q1, q2] T (0, 0))
  hg : w.heap.size + 2 ≤ g
  res : wr.heap[w.heap.size + 1]? = some (.cells #[.int .i64 0, .slice none 0 0, .slice none 0 0] T (0, 0))
  con : wr.ownsRow (g + 1) e1 2 q1 n1 c1
  row : wr.ownsRow (g + 1) e2 5 q2 n2 c2
section
variable {T U e1 e2 : TypeId} {w wr w' W w2 : World} {g : Nat} {vars : Int} {bC bL : Value} {q1 q1' : Value} {n1 n1' : Nat} {c1 c1' : List Value} {q2 q2' : Value} {n2 n2' : Nat} {c2 c2' : List Value}
theorem Nid.later (h : Nid T U e1 e2 w wr g vars bC bL q1 n1 c1 q2 n2 c2) (hb : Below wr.heap.size wr w') : Nid T U e1 e2 w w' g vars bC bL q1 n1 c1 q2 n2 c2 :=
  ⟨baft h.bl hb, (hb.block _ (blk_lt h.box)).trans h.box, (hb.block g (blk_lt h.blk)).trans h.blk, h.hg, (hb.block _ (blk_lt h.res)).trans h.res, own_later h.con hb, own_later h.row hb⟩
theorem Nid.push1 (h : Nid T U e1 e2 w W g vars bC bL q1 n1 c1 q2 n2 c2) (h2 : w2.ownsRow (g + 1) e1 2 q1' n1' c1') (hg : W.grownBy w2 q1.ownBlock) (d1 : e1 ≠ e2) (d2 : e1 ≠ T) (d3 : e2 ≠ T) :
    w2.cell? ⟨g, 1, none⟩ = some q1 ∧ w2.frozen? ⟨g, 1, none⟩ = false ∧ Nid T U e1 e2 w (w2.setCell ⟨g, 1, none⟩ q1') g vars bC bL q1' n1' c1' q2 n2 c2 := by
  have hlt := blk_lt h.blk
  have hb0 := h.hg
  have hown : ∀ k, q1.ownBlock = some k → g + 1 ≤ k := fun k hk => (World.ownsRow.lt h.con k hk).1
  have e0 : w2.heap[g]? = some (.cells #[.int .i64 vars, q1, q2] T (0, 0)) := (hg.block g hlt (fun e => by have := hown g e.symm; omega)).trans h.blk
  obtain ⟨_, k1, _, _, f1, _⟩ := blk_cells3 e0
  have hbl : Below w.heap.size w w2 := h.bl.grown hg h.bl.size (fun k hk => by have := hown k hk; omega)
  refine ⟨k1, f1, hbl.setCell (by simp; omega) _, ?_, (blk_set3 e0).2.1, h.hg, ?_, own_set h2 e0 d2, own_set (World.ownsRow.kept h.row hg (own_two h.row h.con (Ne.symm d1))) e0 d3⟩
  · refine (Below.heap_setCell w2 ⟨g, 1, none⟩ q1' w.heap.size (show w.heap.size ≠ g by omega)).trans ?_
    exact (hg.block _ (blk_lt h.box) (fun e => by have := hown _ e.symm; omega)).trans h.box
  · refine (Below.heap_setCell w2 ⟨g, 1, none⟩ q1' (w.heap.size + 1) (show w.heap.size + 1 ≠ g by omega)).trans ?_
    exact (hg.block _ (blk_lt h.res) (fun e => by have := hown _ e.symm; omega)).trans h.res
theorem Nid.push2 (h : Nid T U e1 e2 w W g vars bC bL q1 n1 c1 q2 n2 c2) (h2 : w2.ownsRow (g + 1) e2 5 q2' n2' c2') (hg : W.grownBy w2 q2.ownBlock) (d1 : e1 ≠ e2) (d2 : e1 ≠ T) (d3 : e2 ≠ T) :
    w2.cell? ⟨g, 2, none⟩ = some q2 ∧ w2.frozen? ⟨g, 2, none⟩ = false ∧ Nid T U e1 e2 w (w2.setCell ⟨g, 2, none⟩ q2') g vars bC bL q1 n1 c1 q2' n2' c2' := by
  have hlt := blk_lt h.blk
  have hb0 := h.hg
  have hown : ∀ k, q2.ownBlock = some k → g + 1 ≤ k := fun k hk => (World.ownsRow.lt h.row k hk).1
  have e0 : w2.heap[g]? = some (.cells #[.int .i64 vars, q1, q2] T (0, 0)) := (hg.block g hlt (fun e => by have := hown g e.symm; omega)).trans h.blk
  obtain ⟨_, _, k1, _, _, f1⟩ := blk_cells3 e0
  have hbl : Below w.heap.size w w2 := h.bl.grown hg h.bl.size (fun k hk => by have := hown k hk; omega)
  refine ⟨k1, f1, hbl.setCell (by simp; omega) _, ?_, (blk_set3 e0).1, h.hg, ?_, own_set (World.ownsRow.kept h.con hg (own_two h.con h.row d1)) e0 d2, own_set h2 e0 d3⟩
  · refine (Below.heap_setCell w2 ⟨g, 2, none⟩ q2' w.heap.size (show w.heap.size ≠ g by omega)).trans ?_
    exact (hg.block _ (blk_lt h.box) (fun e => by have := hown _ e.symm; omega)).trans h.box
  · refine (Below.heap_setCell w2 ⟨g, 2, none⟩ q2' (w.heap.size + 1) (show w.heap.size + 1 ≠ g by omega)).trans ?_
    exact (hg.block _ (blk_lt h.res) (fun e => by have := hown _ e.symm; omega)).trans h.res
/-- A store into a block of another kind that is none of these. -/
theorem Nid.far (h : Nid T U e1 e2 w W g vars bC bL q1 n1 c1 q2 n2 c2) {r o : Nat} {u : Value} {arr : Array Value} {S : TypeId} (hr : W.heap[r]? = some (.cells arr S (0, 0))) (hw : w.heap.size ≤ r) (s1 : S ≠ T) (s2 : S ≠ U) (z1 : q1.ownBlock ≠ some r) (z2 : q2.ownBlock ≠ some r) :
    Nid T U e1 e2 w (W.setCell ⟨r, o, none⟩ u) g vars bC bL q1 n1 c1 q2 n2 c2 := by
  have ne : ∀ {i : Nat} {ar : Array Value} {V : TypeId}, W.heap[i]? = some (.cells ar V (0, 0)) → S ≠ V → (W.setCell ⟨r, o, none⟩ u).heap[i]? = W.heap[i]? := fun {i ar V} hi hV =>
    Below.heap_setCell W ⟨r, o, none⟩ u i (fun (e : i = r) => by subst e; rw [hr] at hi; simp at hi; exact hV hi.2)
  exact ⟨h.bl.setCell hw _, (ne h.box s2).trans h.box, (ne h.blk s1).trans h.blk, h.hg, (ne h.res s1).trans h.res, World.ownsRow.kept h.con (grownBy_setCell W r o u) (.inr z1), World.ownsRow.kept h.row (grownBy_setCell W r o u) (.inr z2)⟩
end
/-- What Normal makes of the lines: the constants, the lines. -/
def nstep (xs : List (Nat × Nat)) (st : List (Nat × Nat) × List Ln) (l : Ln) : List (Nat × Nat) × List Ln :=
  if l.op = 1 then (st.1 ++ [xs.getD l.n.toNat (0, 0)], st.2 ++ [⟨l.op, l.a, l.b, l.c, (st.1.length : Int)⟩]) else (st.1, st.2 ++ [l])
def nrm (xs : List (Nat × Nat)) (ls : List Ln) : List (Nat × Nat) × List Ln := ls.foldl (nstep xs) ([], [])
theorem nrm_snoc (xs : List (Nat × Nat)) (ls : List Ln) (l : Ln) : nrm xs (ls ++ [l]) = nstep xs (nrm xs ls) l := by simp [nrm, List.foldl_append]
theorem nrm_len (xs : List (Nat × Nat)) (ls : List Ln) : (nrm xs ls).1.length = cnsts ls ∧ (nrm xs ls).2.length = ls.length := by
  suffices h : ∀ (ls : List Ln) (st : List (Nat × Nat) × List Ln), (ls.foldl (nstep xs) st).1.length = st.1.length + cnsts ls ∧ (ls.foldl (nstep xs) st).2.length = st.2.length + ls.length by
    have := h ls ([], []); simpa [nrm] using this
  intro ls
  induction ls with
  | nil => intro st; simp [cnsts]
  | cons l ls ih =>
    intro st
    rw [List.foldl_cons]
    obtain ⟨h1, h2⟩ := ih (nstep xs st l)
    rw [h1, h2]
    have e : cnsts (l :: ls) = (if l.op = 1 then 1 else 0) + cnsts ls := rfl
    rw [e]
    unfold nstep
    split <;> simp <;> omega
theorem badLine_ok {vars nc : Int} : ∀ (ls : List Ln) (i : Nat), (badLine vars nc i ls).2 = 0 → ∀ (k : Nat) (l : Ln), ls[k]? = some l → lineE vars nc ((i + k : Nat) : Int) l = 0 := by
  intro ls
  induction ls with
  | nil => intro i _ k l h; simp at h
  | cons x xs ih =>
    intro i h k l hk
    unfold badLine at h
    split at h
    · rename_i hne; exact absurd h hne
    · rename_i he
      rcases k with _ | k
      · simp at hk; subst hk
        simpa using he
      · have := ih (i + 1) h k l (by simpa using hk)
        rwa [show i + 1 + k = i + (k + 1) by omega] at this
theorem lineE_const {vars nc i : Int} {l : Ln} (h : lineE vars nc i l = 0) (h1 : l.op = 1) : 0 ≤ l.n ∧ l.n < nc := by
  unfold lineE at h
  rw [if_neg (by rw [h1]; decide)] at h
  split at h
  · omega
  · repeat' split at h
    all_goals omega
theorem chk_const {vars : Int} {xs : List (Nat × Nat)} {ls : List Ln} (h : (chk vars xs ls).2 = 0) : (0 ≤ vars ∧ vars ≤ 32) ∧ ls.length ≤ 1024 ∧ xs.length ≤ 256 ∧ ∀ (k : Nat) (l : Ln), ls[k]? = some l → l.op = 1 → 0 ≤ l.n ∧ l.n < xs.length := by
  unfold chk at h
  split at h
  · simp at h
  · split at h
    · simp at h
    · split at h
      · simp at h
      · refine ⟨by omega, by omega, ?_, fun k l hk h1 => lineE_const (badLine_ok ls 0 h k l hk) h1⟩
        rename_i h2 h3
        exact Nat.le_of_not_lt (fun h => h2 (.inl h))
theorem cells2_get {xs : List (Nat × Nat)} {i : Nat} (h : i < xs.length) : xs[i]? = some (xs.getD i (0, 0)) := by
  rw [List.getD_eq_getElem?_getD, List.getElem?_eq_getElem h]; rfl
end Go.Proofs.Ytggjbbkcdbnckaa
