/- Programs of chapter 16 in memory: rows of structs, append of a struct; In, Out, Box, Outs. -/
import Derived.Test.YtggjbbkcdbnckaaMeasB
import Derived.Laws.StructEq
namespace Go.Proofs.Ytggjbbkcdbnckaa
set_option linter.unusedVariables false
set_option linter.unusedSimpArgs false
open Go.RowKit Verge

/-- A line of a program. -/
structure Ln where
  op : Int
  a : Int
  b : Int
  c : Int
  n : Int
deriving DecidableEq
def cI (x : Nat × Nat) : List Value := [.int .u64 (x.1 : Int), .int .u64 (x.2 : Int)]
def cF (x : Nat × Nat) : List Value := [.float .f64 x.1, .float .f64 x.2]
def cL (l : Ln) : List Value := [.int .i64 l.op, .int .i64 l.a, .int .i64 l.b, .int .i64 l.c, .int .i64 l.n]
/-- A slice that reads as a row of cells, k of them an element. -/
def Sl (w : World) (v : Value) (k n : Nat) (cs : List Value) : Prop :=
  cs.length = n * k ∧ ∃ A c, v = .slice A n c ∧ (0 < n → ∃ b o, A = some ⟨b, o, none⟩ ∧ ∀ j u, cs[j]? = some u → w.cell? ⟨b, o + j, none⟩ = some u)
theorem Sl.keep {w w' : World} {v : Value} {k n : Nat} {cs : List Value} (h : Sl w v k n cs) (hk : ∀ b o, b < w.heap.size → w'.cell? ⟨b, o, none⟩ = w.cell? ⟨b, o, none⟩) : Sl w' v k n cs := by
  obtain ⟨h1, A, c, e, h2⟩ := h
  refine ⟨h1, A, c, e, fun hn => ?_⟩
  obtain ⟨b, o, e2, h3⟩ := h2 hn
  exact ⟨b, o, e2, fun j u hu => (hk b _ (lt_of_cell (h3 j u hu))).trans (h3 j u hu)⟩
theorem Sl.below {w w' : World} {v : Value} {k n : Nat} {cs : List Value} (h : Sl w v k n cs) (hb : Below w.heap.size w w') : Sl w' v k n cs := h.keep (bcell hb)
theorem flat_get {α : Type} (f : α → List Value) (k : Nat) (hf : ∀ x, (f x).length = k) (xs : List α) : ∀ (i j : Nat) (x : α), xs[i]? = some x → j < k → (xs.flatMap f)[i * k + j]? = (f x)[j]? := by
  induction xs with
  | nil => intro i j x h; simp at h
  | cons y ys ih =>
    intro i j x h hj
    rw [List.flatMap_cons]
    rcases i with _ | i
    · simp at h
      subst h
      rw [Nat.zero_mul, Nat.zero_add, List.getElem?_append_left (by rw [hf]; exact hj)]
    · rw [List.getElem?_append_right (by rw [hf, Nat.succ_mul]; omega), hf, Nat.succ_mul, show i * k + k + j - k = i * k + j by omega]
      exact ih i j x (by simpa using h) hj
theorem flat_len {α : Type} (f : α → List Value) (k : Nat) (hf : ∀ x, (f x).length = k) (xs : List α) : (xs.flatMap f).length = xs.length * k := by
  induction xs with
  | nil => simp
  | cons y ys ih => rw [List.flatMap_cons, List.length_append, hf, ih, List.length_cons, Nat.succ_mul]; omega
theorem cI_len (x : Nat × Nat) : (cI x).length = 2 := rfl
theorem cF_len (x : Nat × Nat) : (cF x).length = 2 := rfl
theorem cL_len (x : Ln) : (cL x).length = 5 := rfl
def RI (w : World) (v : Value) (xs : List (Nat × Nat)) : Prop := Sl w v 2 xs.length (xs.flatMap cI)
def RF (w : World) (v : Value) (xs : List (Nat × Nat)) : Prop := Sl w v 2 xs.length (xs.flatMap cF)
def RL (w : World) (v : Value) (xs : List Ln) : Prop := Sl w v 5 xs.length (xs.flatMap cL)
section
variable {w w' : World} {v : Value} {xs : List (Nat × Nat)} {ls : List Ln}
theorem RI.below (h : RI w v xs) (hb : Below w.heap.size w w') : RI w' v xs := Sl.below h hb
theorem RF.below (h : RF w v xs) (hb : Below w.heap.size w w') : RF w' v xs := Sl.below h hb
theorem RL.below (h : RL w v ls) (hb : Below w.heap.size w w') : RL w' v ls := Sl.below h hb
theorem RI.form (h : RI w v xs) : ∃ A c, v = .slice A xs.length c := by obtain ⟨_, A, c, e, _⟩ := h; exact ⟨A, c, e⟩
theorem RF.form (h : RF w v xs) : ∃ A c, v = .slice A xs.length c := by obtain ⟨_, A, c, e, _⟩ := h; exact ⟨A, c, e⟩
theorem RL.form (h : RL w v ls) : ∃ A c, v = .slice A ls.length c := by obtain ⟨_, A, c, e, _⟩ := h; exact ⟨A, c, e⟩
theorem RI.at {A : Option Addr} {n c i : Nat} {x : Nat × Nat} (h : RI w (.slice A n c) xs) (hi : xs[i]? = some x) :
    ∃ b o, A = some ⟨b, o, none⟩ ∧ w.cell? ⟨b, o + i * 2, none⟩ = some (.int .u64 (x.1 : Int)) ∧ w.cell? ⟨b, o + i * 2 + 1, none⟩ = some (.int .u64 (x.2 : Int)) := by
  obtain ⟨_, A', c', e, h2⟩ := h
  cases e
  have hl := (List.getElem?_eq_some_iff.1 hi).1
  obtain ⟨b, o, e2, h3⟩ := h2 (by omega)
  have k0 := h3 (i * 2 + 0) _ ((flat_get cI 2 cI_len xs i 0 x hi (by omega)).trans rfl)
  have k1 := h3 (i * 2 + 1) _ ((flat_get cI 2 cI_len xs i 1 x hi (by omega)).trans rfl)
  exact ⟨b, o, e2, k0, k1⟩
theorem RF.at {A : Option Addr} {n c i : Nat} {x : Nat × Nat} (h : RF w (.slice A n c) xs) (hi : xs[i]? = some x) :
    ∃ b o, A = some ⟨b, o, none⟩ ∧ w.cell? ⟨b, o + i * 2, none⟩ = some (.float .f64 x.1) ∧ w.cell? ⟨b, o + i * 2 + 1, none⟩ = some (.float .f64 x.2) := by
  obtain ⟨_, A', c', e, h2⟩ := h
  cases e
  have hl := (List.getElem?_eq_some_iff.1 hi).1
  obtain ⟨b, o, e2, h3⟩ := h2 (by omega)
  have k0 := h3 (i * 2 + 0) _ ((flat_get cF 2 cF_len xs i 0 x hi (by omega)).trans rfl)
  have k1 := h3 (i * 2 + 1) _ ((flat_get cF 2 cF_len xs i 1 x hi (by omega)).trans rfl)
  exact ⟨b, o, e2, k0, k1⟩
theorem RL.at {A : Option Addr} {n c i : Nat} {x : Ln} (h : RL w (.slice A n c) ls) (hi : ls[i]? = some x) :
    ∃ b o, A = some ⟨b, o, none⟩ ∧ w.cell? ⟨b, o + i * 5, none⟩ = some (.int .i64 x.op) ∧ w.cell? ⟨b, o + i * 5 + 1, none⟩ = some (.int .i64 x.a) ∧ w.cell? ⟨b, o + i * 5 + 2, none⟩ = some (.int .i64 x.b) ∧
      w.cell? ⟨b, o + i * 5 + 3, none⟩ = some (.int .i64 x.c) ∧ w.cell? ⟨b, o + i * 5 + 4, none⟩ = some (.int .i64 x.n) := by
  obtain ⟨_, A', c', e, h2⟩ := h
  cases e
  have hl := (List.getElem?_eq_some_iff.1 hi).1
  obtain ⟨b, o, e2, h3⟩ := h2 (by omega)
  have k0 := h3 (i * 5 + 0) _ ((flat_get cL 5 cL_len ls i 0 x hi (by omega)).trans rfl)
  have k1 := h3 (i * 5 + 1) _ ((flat_get cL 5 cL_len ls i 1 x hi (by omega)).trans rfl)
  have k2 := h3 (i * 5 + 2) _ ((flat_get cL 5 cL_len ls i 2 x hi (by omega)).trans rfl)
  have k3 := h3 (i * 5 + 3) _ ((flat_get cL 5 cL_len ls i 3 x hi (by omega)).trans rfl)
  have k4 := h3 (i * 5 + 4) _ ((flat_get cL 5 cL_len ls i 4 x hi (by omega)).trans rfl)
  exact ⟨b, o, e2, k0, k1, k2, k3, k4⟩
end
/-- A row that a call has made reads so. -/
theorem own_sl {w : World} {B : Nat} {e : TypeId} {k n : Nat} {v : Value} {cs : List Value} (h : w.ownsRow B e k v n cs) : Sl w v k n cs := by
  have hl := h.1
  rcases h.2 with ⟨rfl, rfl⟩ | ⟨g, cap, cur, rfl, _⟩
  · exact ⟨hl, none, 0, rfl, fun h => by omega⟩
  · refine ⟨hl, _, cap, rfl, fun _ => ⟨g, 0, rfl, fun j u hu => ?_⟩⟩
    have := World.ownsRow.cells h (g := g) rfl j u hu
    rw [add_none] at this
    exact this
theorem grown_alloc {w w' : World} {o : Obj} {row : Option Nat} (h : (w.alloc o).grownBy w' row) : w.grownBy w' row :=
  ⟨h.os, h.tape, h.output, by have := h.size; simp at this; omega, fun k hk hne => (h.block k (by simp; omega) hne).trans (Below.heap_alloc w o k hk)⟩
/-- append(l, x): a struct is laid behind a list of the call's own. -/
theorem wpList_pushE {w : World} {ops : Array Oper} {rest : List Oper} {o : Oper} {a : Act} {Q : Exit → Act → World → Prop} (hgd : o.guard = none) (s x : Operand) (t e : TypeId) (k bytes : Nat) (z : Value)
    (ht : Try.prog.underlying t = some (.slice e)) (hinfo : (Try.prog.info? e).map (fun i => (i.zero, i.size, i.bytes)) = some (some z, k, bytes)) (hzk : z.cells.size = k) (hk : 0 < k)
    (ho : o.op = .call { callee := .builtin .append, args := #[s, x], argTypes := #[t, t] })
    (B : Nat) (v : Value) (n : Nat) (cs : List Value) (hs : a.eval s = v) (W : World) (news : List Value) (hw : w = W.alloc (.cells news.toArray e)) (hl : news.length = k) (h1 : ∀ u ∈ news, u.oneCell' = true) (hown : W.ownsRow B e k v n cs)
    (hx : a.eval x = .slice (some ⟨W.heap.size, 0, none⟩) 1 1) (hb : (n + 1) * bytes ≤ 140737488355328) (hm : n + 1 ≤ maxLen) (hB : B ≤ W.heap.size) (A : World) (hA : Below B A W)
    (h : ∀ v' w', w'.ownsRow B e k v' (n + 1) (cs ++ news) → W.grownBy w' v.ownBlock → Below B A w' → wpList Try.prog ops Q rest (a.put o.dst v') w') : wpList Try.prog ops Q (o :: rest) a w := by
  subst hw
  obtain ⟨i0, hi, hz0, hz1, hz2⟩ := info_parts hinfo
  refine wpList_append_own _ hgd s x t ho B e i0 z k bytes ht hi hz0 hz1 hz2 hzk hk v n cs hs (World.ownsRow.alloc hown _)
    ⟨W.heap.size, 0, none⟩ 1 1 news hx (by rw [Nat.one_mul]; exact hl) ?_ h1 hm hb (by simp; omega) ?_
  · intro j u hu
    rw [add_none, Nat.zero_add]
    have e0 : (W.alloc (.cells news.toArray e)).heap[W.heap.size]? = some (.cells news.toArray e (0, 0)) := heap_alloc_new W _
    rw [cell_of_row _ W.heap.size j _ _ (0, 0) e0]
    simpa using hu
  · intro v' w' h1 h2 _
    exact h v' w' h1 (grown_alloc h2) ((hA.alloc hB _).grown h2 (by simp; omega) (fun k hk => (World.ownsRow.lt hown k hk).1))

theorem Try.info46 : (Try.prog.info? 46).map (fun i => (i.zero, i.size, i.bytes)) = some (some (.agg #[.float .f64 0, .float .f64 0]), 2, 16) := by kernel_rfl
theorem Try.info54 : (Try.prog.info? 54).map (fun i => (i.zero, i.size, i.bytes)) = some (some (.agg #[.int .u64 0, .int .u64 0]), 2, 16) := by kernel_rfl
theorem Try.info43 : (Try.prog.info? 43).map (fun i => (i.zero, i.size, i.bytes)) = some (some (.agg #[.int .i64 0, .int .i64 0, .int .i64 0, .int .i64 0, .int .i64 0]), 5, 40) := by kernel_rfl
theorem Try.info48 : (Try.prog.info? 48).map (fun i => (i.zero, i.size, i.bytes)) = some (some (.agg #[.int .i64 0, .int .i64 0, .int .i64 0, .int .i64 0, .int .i64 0]), 5, 40) := by kernel_rfl
def GI (w : World) (B : Nat) (v : Value) (xs : List (Nat × Nat)) : Prop := w.ownsRow B 54 2 v xs.length (xs.flatMap cI)
def GF (w : World) (B : Nat) (v : Value) (xs : List (Nat × Nat)) : Prop := w.ownsRow B 46 2 v xs.length (xs.flatMap cF)
def GL (w : World) (B : Nat) (v : Value) (xs : List Ln) : Prop := w.ownsRow B 43 5 v xs.length (xs.flatMap cL)
def GM (w : World) (B : Nat) (v : Value) (xs : List Ln) : Prop := w.ownsRow B 48 5 v xs.length (xs.flatMap cL)
theorem own_later {w w' : World} {B : Nat} {e : TypeId} {k n : Nat} {v : Value} {cs : List Value} (h : w.ownsRow B e k v n cs) (hb : Below w.heap.size w w') : w'.ownsRow B e k v n cs :=
  World.ownsRow.kept (row := none) h ⟨hb.os, hb.tape, hb.output, hb.size, fun k hk _ => hb.block k hk⟩ (by cases hv : v.ownBlock with | none => exact .inl rfl | some k => exact .inr (by simp))
theorem own_base {w : World} {B B' : Nat} {e : TypeId} {k n : Nat} {v : Value} {cs : List Value} (h : w.ownsRow B e k v n cs) (hB : B' ≤ B) : w.ownsRow B' e k v n cs :=
  ⟨h.1, h.2.imp id fun ⟨g, cap, cur, h1, h2, h3⟩ => ⟨g, cap, cur, h1, Nat.le_trans hB h2, h3⟩⟩
theorem own_apart {w : World} {B g : Nat} {e T : TypeId} {k n : Nat} {v : Value} {cs : List Value} {arr : Array Value} (h : w.ownsRow B e k v n cs) (hg : w.heap[g]? = some (.cells arr T (0, 0))) (hne : e ≠ T) : v.ownBlock ≠ some g := by
  rcases h.2 with ⟨rfl, _⟩ | ⟨g', cap, cur, rfl, _, h2, _⟩
  · simp [Value.ownBlock]
  · simp only [Value.ownBlock, ne_eq, Option.some.injEq]
    rintro rfl
    rw [h2] at hg
    simp at hg
    exact hne hg.2
theorem own_two {w : World} {B B' : Nat} {e e' : TypeId} {k n k' n' : Nat} {v v' : Value} {cs cs' : List Value} (h : w.ownsRow B e k v n cs) (h' : w.ownsRow B' e' k' v' n' cs') (hne : e ≠ e') : v.ownBlock = none ∨ v.ownBlock ≠ v'.ownBlock := by
  rcases h.2 with ⟨rfl, _⟩ | ⟨g, cap, cur, rfl, _, h2, _⟩
  · exact .inl rfl
  · refine .inr fun e2 => ?_
    exact own_apart h' h2 (Ne.symm hne) e2.symm
theorem grownBy_setCell (w : World) (r o : Nat) (u : Value) : w.grownBy (w.setCell ⟨r, o, none⟩ u) (some r) :=
  ⟨rfl, rfl, rfl, by simp [World.setCell], fun k hk hne => Below.heap_setCell w ⟨r, o, none⟩ u k (fun e => hne (by rw [e]))⟩
theorem own_set {w : World} {B g o : Nat} {e T : TypeId} {k n : Nat} {v u : Value} {cs : List Value} {arr : Array Value} (h : w.ownsRow B e k v n cs) (hg : w.heap[g]? = some (.cells arr T (0, 0))) (hne : e ≠ T) : (w.setCell ⟨g, o, none⟩ u).ownsRow B e k v n cs :=
  World.ownsRow.kept h (grownBy_setCell w g o u) (.inr (own_apart h hg hne))
theorem flat_snoc {α : Type} (f : α → List Value) (xs : List α) (x : α) : (xs ++ [x]).flatMap f = xs.flatMap f ++ f x := by simp
section
variable {w : World} {ops : Array Oper} {rest : List Oper} {o : Oper} {a : Act} {Q : Exit → Act → World → Prop}
theorem wpList_pushI (hgd : o.guard = none) (s x : Operand) (ho : o.op = .call { callee := .builtin .append, args := #[s, x], argTypes := #[22, 22] })
    (B : Nat) (v : Value) (xs : List (Nat × Nat)) (hs : a.eval s = v) (W : World) (y : Nat × Nat) (hw : w = W.alloc (.cells (cI y).toArray 54)) (hown : GI W B v xs)
    (hx : a.eval x = .slice (some ⟨W.heap.size, 0, none⟩) 1 1) (hb : xs.length + 1 ≤ 8796093022208) (hB : B ≤ W.heap.size) (A : World) (hA : Below B A W)
    (h : ∀ v' w', GI w' B v' (xs ++ [y]) → W.grownBy w' v.ownBlock → Below B A w' → wpList Try.prog ops Q rest (a.put o.dst v') w') : wpList Try.prog ops Q (o :: rest) a w := by
  refine wpList_pushE hgd s x _ _ 2 16 _ Try.underlying22 Try.info54 rfl (by decide) ho B v _ _ hs W (cI y) hw rfl (by simp [cI]; exact ⟨rfl, rfl⟩) hown hx (by omega) (by unfold maxLen; omega) hB A hA fun v' w' h1 hg h2 => h v' w' ?_ hg h2
  show World.ownsRow _ _ _ _ _ _ _
  rw [flat_snoc, List.length_append]; exact h1
theorem wpList_pushF (hgd : o.guard = none) (s x : Operand) (ho : o.op = .call { callee := .builtin .append, args := #[s, x], argTypes := #[26, 26] })
    (B : Nat) (v : Value) (xs : List (Nat × Nat)) (hs : a.eval s = v) (W : World) (y : Nat × Nat) (hw : w = W.alloc (.cells (cF y).toArray 46)) (hown : GF W B v xs)
    (hx : a.eval x = .slice (some ⟨W.heap.size, 0, none⟩) 1 1) (hb : xs.length + 1 ≤ 8796093022208) (hB : B ≤ W.heap.size) (A : World) (hA : Below B A W)
    (h : ∀ v' w', GF w' B v' (xs ++ [y]) → W.grownBy w' v.ownBlock → Below B A w' → wpList Try.prog ops Q rest (a.put o.dst v') w') : wpList Try.prog ops Q (o :: rest) a w := by
  refine wpList_pushE hgd s x _ _ 2 16 _ Try.underlying26 Try.info46 rfl (by decide) ho B v _ _ hs W (cF y) hw rfl (by simp [cF]; exact ⟨rfl, rfl⟩) hown hx (by omega) (by unfold maxLen; omega) hB A hA fun v' w' h1 hg h2 => h v' w' ?_ hg h2
  show World.ownsRow _ _ _ _ _ _ _
  rw [flat_snoc, List.length_append]; exact h1
theorem wpList_pushL (hgd : o.guard = none) (s x : Operand) (ho : o.op = .call { callee := .builtin .append, args := #[s, x], argTypes := #[27, 27] })
    (B : Nat) (v : Value) (xs : List Ln) (hs : a.eval s = v) (W : World) (y : Ln) (hw : w = W.alloc (.cells (cL y).toArray 43)) (hown : GL W B v xs)
    (hx : a.eval x = .slice (some ⟨W.heap.size, 0, none⟩) 1 1) (hb : xs.length + 1 ≤ 3518437208882) (hB : B ≤ W.heap.size) (A : World) (hA : Below B A W)
    (h : ∀ v' w', GL w' B v' (xs ++ [y]) → W.grownBy w' v.ownBlock → Below B A w' → wpList Try.prog ops Q rest (a.put o.dst v') w') : wpList Try.prog ops Q (o :: rest) a w := by
  refine wpList_pushE hgd s x _ _ 5 40 _ Try.underlying27 Try.info43 rfl (by decide) ho B v _ _ hs W (cL y) hw rfl (by simp [cL]; exact ⟨rfl, rfl, rfl, rfl, rfl⟩) hown hx (by omega) (by unfold maxLen; omega) hB A hA fun v' w' h1 hg h2 => h v' w' ?_ hg h2
  show World.ownsRow _ _ _ _ _ _ _
  rw [flat_snoc, List.length_append]; exact h1
theorem wpList_pushM (hgd : o.guard = none) (s x : Operand) (ho : o.op = .call { callee := .builtin .append, args := #[s, x], argTypes := #[23, 23] })
    (B : Nat) (v : Value) (xs : List Ln) (hs : a.eval s = v) (W : World) (y : Ln) (hw : w = W.alloc (.cells (cL y).toArray 48)) (hown : GM W B v xs)
    (hx : a.eval x = .slice (some ⟨W.heap.size, 0, none⟩) 1 1) (hb : xs.length + 1 ≤ 3518437208882) (hB : B ≤ W.heap.size) (A : World) (hA : Below B A W)
    (h : ∀ v' w', GM w' B v' (xs ++ [y]) → W.grownBy w' v.ownBlock → Below B A w' → wpList Try.prog ops Q rest (a.put o.dst v') w') : wpList Try.prog ops Q (o :: rest) a w := by
  refine wpList_pushE hgd s x _ _ 5 40 _ Try.underlying23 Try.info48 rfl (by decide) ho B v _ _ hs W (cL y) hw rfl (by simp [cL]; exact ⟨rfl, rfl, rfl, rfl, rfl⟩) hown hx (by omega) (by unfold maxLen; omega) hB A hA fun v' w' h1 hg h2 => h v' w' ?_ hg h2
  show World.ownsRow _ _ _ _ _ _ _
  rw [flat_snoc, List.length_append]; exact h1
end
set_option maxHeartbeats 4000000 in
theorem in16_any (x y : Nat) (w : World) : Calls Try.prog 18 #[.agg #[.int .u64 (x : Int), .int .u64 (y : Int)]] w
    fun e w' => e = .returned (.agg #[.float .f64 x, .float .f64 y]) ∧ Below w.heap.size w w' := by
  have hsf := store_f
  have hfr := from_any
  have HB := Lib.hid (fun o o' => baft (bnew w o) (bnew (w.alloc o) o'))
  obtain ⟨c0, c1, c2, c3, f0, f1, hz⟩ := box2 (w := w) (a := .int .u64 (x : Int)) (b := .int .u64 (y : Int)) (c := .float .f64 0) (d := .float .f64 0) (t := 54) (t' := 46) (Below.refl _ _)
  go_enter Try.func18, Try.ntmps18
  go_wp2_with fail
  go_region_with fail
  all_goals
    go_wp2
    refine bodyPost_ret (v := .agg #[.float .f64 x, .float .f64 y]) (by simp [results, Try.results18, go_sem, c2, c3]) rfl ?_
    exact ⟨rfl, (HB.out _ _).drew⟩
set_option maxHeartbeats 4000000 in
theorem out16_any (x y : Nat) (w : World) : Calls Try.prog 21 #[.agg #[.float .f64 x, .float .f64 y]] w
    fun e w' => e = .returned (.agg #[.int .u64 (x : Int), .int .u64 (y : Int)]) ∧ Below w.heap.size w w' := by
  have hbx := bits_any x
  have hby := bits_any y
  have HB := Lib.hid (fun o o' => baft (bnew w o) (bnew (w.alloc o) o'))
  obtain ⟨c0, c1, c2, c3, f0, f1, hz⟩ := box2 (w := w) (a := .float .f64 x) (b := .float .f64 y) (c := .int .u64 0) (d := .int .u64 0) (t := 46) (t' := 54) (Below.refl _ _)
  go_enter Try.func21, Try.ntmps21
  go_wp2_with fail
  go_region_with fail
  all_goals
    go_wp2
    refine bodyPost_ret (v := .agg #[.int .u64 (x : Int), .int .u64 (y : Int)]) (by simp [results, Try.results21, go_sem, c2, c3]) rfl ?_
    exact ⟨rfl, (HB.out _ _).drew⟩
end Go.Proofs.Ytggjbbkcdbnckaa
