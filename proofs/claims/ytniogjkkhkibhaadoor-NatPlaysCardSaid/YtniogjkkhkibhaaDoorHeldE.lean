/- Memory for vergelaw2.apart: several lists that lie apart. -/
import Derived.Test.YtniogjkkhkibhaaDoorHeldD
import Derived.ArgAppend
namespace Go.Proofs.YtniogjkkhkibhaaDoor
set_option linter.unusedVariables false
set_option linter.unusedSimpArgs false
open Go.RowKit Verge

theorem Tryd.info22 : (Tryd.prog.info? 22).map (fun i => (i.zero, i.size, i.bytes)) = some (some (.slice none 0 0), 1, 24) := by kernel_rfl

/-- Only the blocks of S and new ones have turned. -/
structure But (S : Nat → Prop) (w w' : World) : Prop where
  os : w'.os = w.os
  tape : w'.tape = w.tape
  output : w'.output = w.output
  size : w.heap.size ≤ w'.heap.size
  block : ∀ k, k < w.heap.size → ¬ S k → w'.heap[k]? = w.heap[k]?

theorem But.refl (S : Nat → Prop) (w : World) : But S w w := ⟨rfl, rfl, rfl, Nat.le_refl _, fun _ _ _ => rfl⟩
theorem But.set {S : Nat → Prop} {w w' : World} (h : But S w w') {g : Nat} (hg : S g) (i : Nat) (u : Value) : But S w (w'.setCell ⟨g, i, none⟩ u) :=
  ⟨h.os, h.tape, h.output, by simpa [World.setCell] using h.size, fun k hk hne => (setb w' g i u k (by rintro rfl; exact hne hg)).trans (h.block k hk hne)⟩
theorem But.below {S : Nat → Prop} {w w' w2 : World} (h : But S w w') (hb : Below w'.heap.size w' w2) : But S w w2 :=
  ⟨hb.os.trans h.os, hb.tape.trans h.tape, hb.output.trans h.output, Nat.le_trans h.size hb.size, fun k hk hne => (hb.block k (Nat.lt_of_lt_of_le hk h.size)).trans (h.block k hk hne)⟩
theorem But.toBelow {S : Nat → Prop} {w w' : World} {B : Nat} (h : But S w w') (hB : B ≤ w.heap.size) (hS : ∀ k, k < B → ¬ S k) : Below B w w' :=
  ⟨h.os, h.tape, h.output, h.size, fun k hk => h.block k (Nat.lt_of_lt_of_le hk hB) (hS k hk)⟩

theorem Own.set {w : World} {g : Nat} {A : Option Addr} {xs : List Nat} (h : Own w g A xs) (j : Nat) {v : Nat} (hv : v < 4294967296) : Own (w.setCell ⟨g, j, none⟩ (.int .u32 (v : Int))) g A (xs.set j v) := by
  refine ⟨h.1.set j hv, fun hn => ?_⟩
  obtain ⟨e, cs, hcs, ht⟩ := h.2 (by rintro rfl; simp at hn)
  refine ⟨e, cs.setIfInBounds j (.int .u32 (v : Int)), by simp [World.setCell, Array.getElem?_modify, hcs], ?_⟩
  rw [List.length_set, Array.toList_setIfInBounds, List.take_set, ht]
  simp [u32s, List.map_set]

theorem Own.cell {w : World} {g : Nat} {A : Option Addr} {xs : List Nat} (h : Own w g A xs) {j : Nat} (hj : j < xs.length) : A = some ⟨g, 0, none⟩ ∧ w.cell? ⟨g, j, none⟩ = some (.int .u32 ((xs.getD j 0 : Nat) : Int)) ∧ w.frozen? ⟨g, j, none⟩ = false := by
  have hn : xs ≠ [] := by rintro rfl; simp at hj
  obtain ⟨b, o, e, hc⟩ := h.rd.cell hj
  have e2 := (h.2 hn).1
  rw [e2] at e
  simp only [Option.some.injEq, Addr.mk.injEq, and_true] at e
  obtain ⟨rfl, rfl⟩ := e
  rw [Nat.zero_add] at hc
  exact ⟨e2, hc, h.frozen hn j⟩

/-- A row of slices that the call has grown. -/
def GrowS (w : World) (B : Nat) (v : Value) (n : Nat) (vs : List Value) : Prop := w.ownsRow B 22 1 v n vs

/-- Rows of two kinds lie apart. -/
theorem kinds_apart {w : World} {B B' : Nat} {e e' : TypeId} {v v' : Value} {n n' : Nat} {xs xs' : List Value} (h : w.ownsRow B e 1 v n xs) (h' : w.ownsRow B' e' 1 v' n' xs') (hne : e ≠ e') : v.ownBlock = none ∨ v.ownBlock ≠ v'.ownBlock := by
  rcases h.2 with ⟨rfl, _⟩ | ⟨g, cap, cur, rfl, _, hg, _⟩
  · exact .inl rfl
  · right
    rcases h'.2 with ⟨rfl, _⟩ | ⟨g', cap', cur', rfl, _, hg', _⟩
    · simp [Value.ownBlock]
    · simp only [Value.ownBlock, ne_eq, Option.some.injEq]
      intro eq
      subst eq
      rw [hg] at hg'
      simp at hg'
      exact hne hg'.2
/-- Rows whose first cells differ lie apart. -/
theorem heads_apart {w : World} {B B' : Nat} {e e' : TypeId} {v v' : Value} {n n' : Nat} {xs xs' : List Value} (h : w.ownsRow B e 1 v n xs) (h' : w.ownsRow B' e' 1 v' n' xs') {a b : Value} (ha : xs[0]? = some a) (hb : xs'[0]? = some b) (hne : a ≠ b) :
    v.ownBlock = none ∨ v.ownBlock ≠ v'.ownBlock := by
  rcases h.2 with ⟨rfl, _⟩ | ⟨g, cap, cur, rfl, _, hg, _, _, _, ht⟩
  · exact .inl rfl
  · right
    rcases h'.2 with ⟨rfl, _⟩ | ⟨g', cap', cur', rfl, _, hg', _, _, _, ht'⟩
    · simp [Value.ownBlock]
    · simp only [Value.ownBlock, ne_eq, Option.some.injEq]
      intro eq
      subst eq
      rw [hg] at hg'
      simp at hg'
      obtain ⟨rfl, _⟩ := hg'
      rw [← ht, List.getElem?_take] at ha
      rw [← ht', List.getElem?_take] at hb
      split at ha <;> split at hb <;> simp_all

/-- append(l, x): onto a list without room. -/
theorem wpList_first {w : World} {ops : Array Oper} {rest : List Oper} {o : Oper} {a : Act} {Q : Exit → Act → World → Prop} (hgd : o.guard = none) (s x : Operand)
    (ho : o.op = .call { callee := .builtin .append, args := #[s, x], argTypes := #[22, 22] })
    (A : Option Addr) (n : Nat) (xs : List Nat) (hs : a.eval s = .slice A n n) (hR : Rd w A xs) (hn : xs.length = n) (gx k cx : Nat) (zs : List Nat) (hx : a.eval x = .slice (some ⟨gx, 0, none⟩) k cx) (hz : zs.length = k) (hk : 0 < k)
    (hZ : Rd w (some ⟨gx, 0, none⟩) zs) (hb : n + k ≤ 35184372088832)
    (h : ∀ v' w', Grow w' w.heap.size v' (xs ++ zs) → Below w.heap.size w w' → wpList Tryd.prog ops Q rest (a.put o.dst v') w') : wpList Tryd.prog ops Q (o :: rest) a w := by
  obtain ⟨i0, hi, hz0, hz1, hz2⟩ := info_parts Tryd.info23
  have e : (∃ A', A = A' ∧ (A' = none → n = 0)) := ⟨A, rfl, fun hA => by
    rcases Nat.eq_zero_or_pos n with h0 | h0
    · exact h0
    · obtain ⟨b, o, e, _⟩ := hR.2 (by rintro rfl; simp at hn; omega)
      rw [hA] at e; cases e⟩
  obtain ⟨_, rfl, hA0⟩ := e
  refine wpList_append_grows (P := Tryd.prog) w hgd s x 22 ho 23 i0 (.int .u32 0) 1 4 Tryd.underlying22 hi hz0 hz1 hz2 rfl (by decide) A n n (u32s xs) hs (fun e => ⟨hA0 e, hA0 e⟩) (by rw [u32s_length, hn, Nat.mul_one])
    ?_ ⟨gx, 0, none⟩ k cx (u32s zs) hx (by rw [u32s_length, hz, Nat.mul_one]) ?_ ?_ (by omega) (by unfold maxLen; omega) (by omega) ?_
  · intro b hbA j u hu
    rw [u32s_get, Option.map_eq_some_iff] at hu
    obtain ⟨x, hx1, rfl⟩ := hu
    obtain ⟨b', o', e, hc⟩ := hR.2 (by rintro rfl; simp at hx1)
    rw [hbA] at e
    simp only [Option.some.injEq] at e
    subst e
    rw [add_none]
    exact hc j x hx1
  · intro j u hu
    rw [u32s_get, Option.map_eq_some_iff] at hu
    obtain ⟨x, hx1, rfl⟩ := hu
    obtain ⟨b', o', e, hc⟩ := hZ.2 (by rintro rfl; simp at hx1)
    simp only [Option.some.injEq, Addr.mk.injEq, and_true] at e
    obtain ⟨rfl, rfl⟩ := e
    rw [add_none]
    exact hc j x hx1
  · intro u hu
    simp only [u32s, List.mem_map] at hu
    obtain ⟨x, _, rfl⟩ := hu
    rfl
  · intro v' w' h1 h2
    refine h v' w' ⟨hR.1.append hZ.1, ?_⟩ ⟨h2.os, h2.tape, h2.output, h2.size, fun k hk => h2.block k hk (by simp)⟩
    have e : u32s (xs ++ zs) = u32s xs ++ u32s zs := by simp [u32s]
    rw [e, List.length_append, hn, hz]
    exact h1

/-- append(l, s): a slice is laid behind a row of slices of the call's own. -/
theorem wpList_pushS {w : World} {ops : Array Oper} {rest : List Oper} {o : Oper} {a : Act} {Q : Exit → Act → World → Prop} (hgd : o.guard = none) (s x : Operand)
    (ho : o.op = .call { callee := .builtin .append, args := #[s, x], argTypes := #[44, 44] })
    (B : Nat) (v : Value) (n : Nat) (vs : List Value) (hs : a.eval s = v) (W : World) (z : Value) (hw : w = W.alloc (.cells #[z] 22)) (hz1 : z.oneCell' = true) (hown : GrowS W B v n vs)
    (hx : a.eval x = .slice (some ⟨W.heap.size, 0, none⟩) 1 1) (hb : n ≤ 1000) (hB : B ≤ W.heap.size)
    (h : ∀ v' w', GrowS w' B v' (n + 1) (vs ++ [z]) → W.grownBy w' v.ownBlock → wpList Tryd.prog ops Q rest (a.put o.dst v') w') : wpList Tryd.prog ops Q (o :: rest) a w := by
  subst hw
  obtain ⟨i0, hi, hz0, hzs, hz2⟩ := info_parts Tryd.info22
  refine wpList_append_own _ hgd s x 44 ho B 22 i0 (.slice none 0 0) 1 24 Tryd.underlying44 hi hz0 hzs hz2 rfl (by decide) v n vs hs (hown.alloc _)
    ⟨W.heap.size, 0, none⟩ 1 1 [z] hx rfl ?_ (by intro u hu; simp at hu; subst hu; exact hz1) (by unfold maxLen; omega) (by omega) (by simp; omega) ?_
  · intro j u hu
    rcases j with _ | j
    · simp at hu; subst hu
      rw [Addr.add, if_pos rfl]
      simp [World.cell?_alloc_new]
    · simp at hu
  · intro v' w' h1 h2 _
    have hz := h2.size
    simp at hz
    exact h v' w' h1 ⟨h2.os, h2.tape, h2.output, by omega, fun k hk hne => (h2.block k (by simp; omega) hne).trans (Below.heap_alloc W _ k hk)⟩
end Go.Proofs.YtniogjkkhkibhaaDoor

/- vergelaw2.apart, the memory side: ten lists, each of its own, and the rows that grow. -/
namespace Go.Proofs.YtniogjkkhkibhaaDoor
set_option linter.unusedVariables false
set_option linter.unusedSimpArgs false
open Go.RowKit Verge

/-- append(g, m): a word behind a list of the call's own: and what has turned. -/
theorem wpList_pushG {w : World} {ops : Array Oper} {rest : List Oper} {o : Oper} {a : Act} {Q : Exit → Act → World → Prop} (hgd : o.guard = none) (s x : Operand)
    (ho : o.op = .call { callee := .builtin .append, args := #[s, x], argTypes := #[22, 22] })
    (B : Nat) (v : Value) (xs : List Nat) (hs : a.eval s = v) (W : World) (zI : Int) (z : Nat) (hw : w = W.alloc (.cells #[.int .u32 zI] 23)) (hz : (z : Int) = zI) (hz32 : z < 4294967296) (hown : Grow W B v xs)
    (hx : a.eval x = .slice (some ⟨W.heap.size, 0, none⟩) 1 1) (hb : xs.length + 1 ≤ 35184372088832) (hB : B ≤ W.heap.size)
    (h : ∀ v' w', Grow w' B v' (xs ++ [z]) → W.grownBy w' v.ownBlock → wpList Tryd.prog ops Q rest (a.put o.dst v') w') : wpList Tryd.prog ops Q (o :: rest) a w := by
  subst hw hz
  obtain ⟨i0, hi, hz0, hz1, hz2⟩ := info_parts Tryd.info23
  refine wpList_append_own _ hgd s x 22 ho B 23 i0 (.int .u32 0) 1 4 Tryd.underlying22 hi hz0 hz1 hz2 rfl (by decide) v xs.length (u32s xs) hs (hown.alloc _).2
    ⟨W.heap.size, 0, none⟩ 1 1 [.int .u32 (z : Int)] hx rfl ?_ (by intro u hu; simp at hu; subst hu; rfl) (by unfold maxLen; omega) (by omega) (by simp; omega) ?_
  · intro j u hu
    rcases j with _ | j
    · simp at hu; subst hu
      rw [Addr.add, if_pos rfl]
      simp [World.cell?_alloc_new]
    · simp at hu
  · intro v' w' h1 h2 _
    have hz := h2.size
    simp at hz
    refine h v' w' ⟨hown.1.append (W32.cons hz32 W32.nil), ?_⟩ ⟨h2.os, h2.tape, h2.output, by omega, fun k hk hne => (h2.block k (by simp; omega) hne).trans (Below.heap_alloc W _ k hk)⟩
    rw [List.length_append]
    have e : u32s (xs ++ [z]) = u32s xs ++ [.int .u32 (z : Int)] := by simp [u32s]
    rw [e]; exact h1

theorem below_grow {w w' : World} (h : Below w.heap.size w w') (row : Option Nat) : w.grownBy w' row := ⟨h.os, h.tape, h.output, h.size, fun k hk _ => h.block k hk⟩

/-- The lists lie in the row gl, each of its own. -/
structure Laid (w : World) (gl : Nat) (As : Nat → Option Addr) (gs ns : Nat → Nat) : Prop where
  cell : ∀ k, k < 10 → w.cell? ⟨gl, k, none⟩ = some (.slice (As k) (ns k) (ns k))
  far : ∀ k, k < 10 → gs k ≠ gl
  apart : ∀ i k, i < 10 → k < 10 → i ≠ k → 0 < ns i → 0 < ns k → gs i ≠ gs k
  most : ∀ k, k < 10 → ns k ≤ 35184372088000
  low : ∀ k, k < 10 → 0 < ns k → gs k < w.heap.size

def Turned (gs ns : Nat → Nat) : Nat → Prop := fun b => ∃ i, i < 10 ∧ 0 < ns i ∧ gs i = b

structure Pre (w : World) (As : Nat → Option Addr) (gs ns : Nat → Nat) (zs : Nat → List Nat) (w' : World) : Prop where
  own : ∀ k, k < 10 → Own w' (gs k) (As k) (zs k)
  len : ∀ k, k < 10 → (zs k).length = ns k
  but : But (Turned gs ns) w w'

section
variable {w w' w2 : World} {gl : Nat} {As : Nat → Option Addr} {gs ns : Nat → Nat} {zs : Nat → List Nat}

theorem Laid.not (L : Laid w gl As gs ns) : ¬ Turned gs ns gl := fun ⟨i, hi, _, e⟩ => L.far i hi e
theorem Laid.lt (L : Laid w gl As gs ns) : gl < w.heap.size := lt_of_cell (L.cell 0 (by omega))

theorem Pre.cell (h : Pre w As gs ns zs w') (L : Laid w gl As gs ns) {k : Nat} (hk : k < 10) : w'.cell? ⟨gl, k, none⟩ = some (.slice (As k) (ns k) (ns k)) :=
  (World.cell?_of_block (w := w) (w' := w') (a := ⟨gl, k, none⟩) (h.but.block gl L.lt L.not)).trans (L.cell k hk)

theorem Own.empty {w : World} {g : Nat} {A : Option Addr} {xs : List Nat} (h : xs = []) : Own w g A xs := by subst h; exact Own.nil w g A

theorem Pre.set (h : Pre w As gs ns zs w') (L : Laid w gl As gs ns) {i j v : Nat} {u : Int} (hi : i < 10) (hj : j < ns i) (hv : v < 4294967296) (hu : (v : Int) = u) :
    Pre w As gs ns (fun k => if k = i then (zs i).set j v else zs k) (w'.setCell ⟨gs i, j, none⟩ (.int .u32 u)) := by
  subst hu
  refine ⟨fun k hk => ?_, fun k hk => ?_, h.but.set ⟨i, hi, by omega, rfl⟩ j _⟩
  · by_cases e : k = i
    · subst e; simp only [if_pos]; exact (h.own k hk).set j hv
    · simp only [if_neg e]
      by_cases h0 : zs k = []
      · exact Own.empty h0
      · have hk0 : 0 < ns k := by rw [← h.len k hk]; exact List.length_pos_iff.mpr h0
        exact (h.own k hk).block (setb w' (gs i) j _ (gs k) (L.apart k i hk hi e hk0 (by omega)))
  · by_cases e : k = i
    · subst e; simp only [if_pos, List.length_set]; exact h.len k hk
    · simp only [if_neg e]; exact h.len k hk

theorem Pre.grown {row : Option Nat} (h : Pre w As gs ns zs w') (L : Laid w gl As gs ns) (hg : w'.grownBy w2 row) (hr : ∀ k, row = some k → w.heap.size ≤ k) : Pre w As gs ns zs w2 := by
  have hb : ∀ k, k < w.heap.size → w2.heap[k]? = w'.heap[k]? := fun k hk => hg.block k (Nat.lt_of_lt_of_le hk h.but.size) (fun e => by have := hr k e.symm; omega)
  refine ⟨fun k hk => ?_, h.len, ⟨hg.os.trans h.but.os, hg.tape.trans h.but.tape, hg.output.trans h.but.output, Nat.le_trans h.but.size hg.size, fun k hk hne => (hb k hk).trans (h.but.block k hk hne)⟩⟩
  by_cases h0 : zs k = []
  · exact Own.empty h0
  · have hk0 : 0 < ns k := by rw [← h.len k hk]; exact List.length_pos_iff.mpr h0
    exact (h.own k hk).block (hb _ (L.low k hk hk0))

def marks (ns : Nat → Nat) : Nat → List Nat := fun k => List.replicate (ns k) (1000 + k)

theorem fill_step {xs : List Nat} {j m : Nat} (h : xs.take j = List.replicate j m) (hj : j < xs.length) : (xs.set j m).take (j + 1) = List.replicate (j + 1) m := by
  rw [set_take_succ _ j m hj, h, List.replicate_succ']
theorem fill_end {xs : List Nat} {n m : Nat} (h : xs.take n = List.replicate n m) (hn : xs.length = n) : xs = List.replicate n m := by
  rw [← h, List.take_of_length_le (by omega)]

/-- The rows of the grown ones. -/
structure Mid (w : World) (As : Nat → Option Addr) (gs ns : Nat → Nat) (i q : Nat) (sv qv : Value) (ss qs : Nat → Value) (w' : World) : Prop where
  pre : Pre w As gs ns (marks ns) w'
  slow : GrowS w' w.heap.size sv i ((List.range i).map ss)
  quick : GrowS w' w.heap.size qv q ((List.range q).map qs)
  ssg : ∀ k, k < i → Grow w' w.heap.size (ss k) (List.replicate (ns k + 16) (1000 + k))
  qsg : ∀ k, k < q → Grow w' w.heap.size (qs k) (List.replicate (ns k + 48) (1000 + k))
  z : i = 0 → sv = .slice none 0 0
  zq : q = 0 → qv = .slice none 0 0

variable {i q : Nat} {sv qv : Value} {ss qs : Nat → Value}

theorem Mid.zero (h : Pre w As gs ns zs w') (he : ∀ k, k < 10 → zs k = marks ns k) (ss qs : Nat → Value) : Mid w As gs ns 0 0 (.slice none 0 0) (.slice none 0 0) ss qs w' :=
  ⟨⟨fun k hk => by rw [← he k hk]; exact h.own k hk, fun k hk => by rw [← he k hk]; exact h.len k hk, h.but⟩, World.ownsRow_nil _ _ _ 1, World.ownsRow_nil _ _ _ 1, fun _ hk => by omega, fun _ hk => by omega, fun _ => rfl, fun _ => rfl⟩

theorem kinds_u : (23 : TypeId) ≠ 22 := by decide

theorem none_or (a : Option Nat) : a = none ∨ a ≠ none := by cases a <;> simp

theorem Mid.ne (h : Mid w As gs ns i q sv qv ss qs w') (hi : 0 < i) (hq : 0 < q) : ss 0 ≠ qs 0 := by
  obtain ⟨A, c, e, _⟩ := (h.ssg 0 hi).rd
  obtain ⟨A', c', e', _⟩ := (h.qsg 0 hq).rd
  rw [e, e']
  simp
theorem Mid.sq (h : Mid w As gs ns i q sv qv ss qs w') : sv.ownBlock = none ∨ sv.ownBlock ≠ qv.ownBlock := by
  rcases Nat.eq_zero_or_pos i with h0 | h0
  · rw [h.z h0]; exact .inl rfl
  · rcases Nat.eq_zero_or_pos q with h1 | h1
    · rw [h.zq h1]; exact none_or _
    · exact heads_apart h.slow h.quick (a := ss 0) (b := qs 0) (by simp [h0]) (by simp [h1]) (h.ne h0 h1)
theorem Mid.qs' (h : Mid w As gs ns i q sv qv ss qs w') : qv.ownBlock = none ∨ qv.ownBlock ≠ sv.ownBlock := by
  rcases h.sq with e | e
  · rw [e]; exact none_or _
  · exact .inr (Ne.symm e)

theorem Mid.grown {row : Option Nat} (h : Mid w As gs ns i q sv qv ss qs w') (L : Laid w gl As gs ns) (hg : w'.grownBy w2 row) (hr : ∀ k, row = some k → w.heap.size ≤ k)
    (hs : sv.ownBlock = none ∨ sv.ownBlock ≠ row) (hq : qv.ownBlock = none ∨ qv.ownBlock ≠ row) (hss : ∀ k, k < i → (ss k).ownBlock = none ∨ (ss k).ownBlock ≠ row) (hqs : ∀ k, k < q → (qs k).ownBlock = none ∨ (qs k).ownBlock ≠ row) :
    Mid w As gs ns i q sv qv ss qs w2 :=
  ⟨h.pre.grown L hg hr, h.slow.kept hg hs, h.quick.kept hg hq, fun k hk => ⟨(h.ssg k hk).1, (h.ssg k hk).2.kept hg (hss k hk)⟩, fun k hk => ⟨(h.qsg k hk).1, (h.qsg k hk).2.kept hg (hqs k hk)⟩, h.z, h.zq⟩

theorem Mid.below (h : Mid w As gs ns i q sv qv ss qs w') (L : Laid w gl As gs ns) (hb : Below w'.heap.size w' w2) : Mid w As gs ns i q sv qv ss qs w2 :=
  h.grown L (below_grow hb none) (by simp) (none_or _) (none_or _) (fun _ _ => none_or _) (fun _ _ => none_or _)

theorem Grow.below {w w' : World} {B : Nat} {v : Value} {xs : List Nat} (h : Grow w B v xs) (hb : Below w.heap.size w w') : Grow w' B v xs := ⟨h.1, h.2.kept (below_grow hb none) (none_or _)⟩

theorem rep0 {n m : Nat} (h : 0 < n) : (u32s (List.replicate n m))[0]? = some (.int .u32 (m : Int)) := by
  rw [u32s_get, List.getElem?_replicate, if_pos h]; rfl

/-- A list of the call's own, with its own mark, grows. -/
theorem Mid.list {gv : Value} {m mk : Nat} (h : Mid w As gs ns i q sv qv ss qs w') (L : Laid w gl As gs ns) (hv : Grow w' w.heap.size gv (List.replicate m mk)) (hm : 0 < m) (hk : 1000 + i ≤ mk) (hq : 1000 + q ≤ mk) (hg : w'.grownBy w2 gv.ownBlock) :
    Mid w As gs ns i q sv qv ss qs w2 := by
  refine h.grown L hg (fun k hk => hv.lt k hk) (kinds_apart h.slow hv.2 (Ne.symm kinds_u)) (kinds_apart h.quick hv.2 (Ne.symm kinds_u)) (fun k hk => ?_) (fun k hk => ?_)
  · refine heads_apart (h.ssg k hk).2 hv.2 (rep0 (by omega)) (rep0 hm) ?_
    intro e; simp at e; omega
  · refine heads_apart (h.qsg k hk).2 hv.2 (rep0 (by omega)) (rep0 hm) ?_
    intro e; simp at e; omega

theorem upd_row (ss : Nat → Value) (i : Nat) (v : Value) : (List.range (i + 1)).map (fun k => if k = i then v else ss k) = (List.range i).map ss ++ [v] := by
  rw [List.range_succ, List.map_append]
  congr 1
  · refine List.map_congr_left fun k hk => ?_
    rw [List.mem_range] at hk
    rw [if_neg (by omega)]
  · simp

theorem Mid.pushS {gv sv' : Value} (h : Mid w As gs ns i q sv qv ss qs w') (L : Laid w gl As gs ns) (hv : Grow w' w.heap.size gv (List.replicate (ns i + 16) (1000 + i))) (hS : GrowS w2 w.heap.size sv' (i + 1) ((List.range i).map ss ++ [gv])) (hg : w'.grownBy w2 sv.ownBlock) :
    Mid w As gs ns (i + 1) q sv' qv (fun k => if k = i then gv else ss k) qs w2 := by
  refine ⟨h.pre.grown L hg (fun k hk => (h.slow.lt k hk).1), by rw [upd_row]; exact hS, h.quick.kept hg h.qs', fun k hk => ?_, fun k hk => ⟨(h.qsg k hk).1, (h.qsg k hk).2.kept hg (kinds_apart (h.qsg k hk).2 h.slow kinds_u)⟩, fun e => by omega, h.zq⟩
  by_cases e : k = i
  · subst e; simp only [if_pos]; exact ⟨hv.1, hv.2.kept hg (kinds_apart hv.2 h.slow kinds_u)⟩
  · simp only [if_neg e]
    have hk : k < i := by omega
    exact ⟨(h.ssg k hk).1, (h.ssg k hk).2.kept hg (kinds_apart (h.ssg k hk).2 h.slow kinds_u)⟩

theorem Mid.pushQ {hv qv' : Value} (h : Mid w As gs ns i q sv qv ss qs w') (L : Laid w gl As gs ns) (hh : Grow w' w.heap.size hv (List.replicate (ns q + 48) (1000 + q))) (hS : GrowS w2 w.heap.size qv' (q + 1) ((List.range q).map qs ++ [hv])) (hg : w'.grownBy w2 qv.ownBlock) :
    Mid w As gs ns i (q + 1) sv qv' ss (fun k => if k = q then hv else qs k) w2 := by
  refine ⟨h.pre.grown L hg (fun k hk => (h.quick.lt k hk).1), h.slow.kept hg h.sq, by rw [upd_row]; exact hS, fun k hk => ⟨(h.ssg k hk).1, (h.ssg k hk).2.kept hg (kinds_apart (h.ssg k hk).2 h.quick kinds_u)⟩, fun k hk => ?_, h.z, fun e => by omega⟩
  by_cases e : k = q
  · subst e; simp only [if_pos]; exact ⟨hh.1, hh.2.kept hg (kinds_apart hh.2 h.quick kinds_u)⟩
  · simp only [if_neg e]
    have hk : k < q := by omega
    exact ⟨(h.qsg k hk).1, (h.qsg k hk).2.kept hg (kinds_apart (h.qsg k hk).2 h.quick kinds_u)⟩

theorem row_form {w : World} {base : Nat} {e : TypeId} {size : Nat} {v : Value} {n : Nat} {xs : List Value} (h : w.ownsRow base e size v n xs) (hn : 0 < n) : ∃ g cap, v = .slice (some ⟨g, 0, none⟩) n cap ∧ n ≤ cap ∧ cap ≤ maxLen := by
  rcases h.2 with ⟨_, h0⟩ | ⟨g, cap, cur, hv, _, _, h1, h2, _⟩
  · omega
  · exact ⟨g, cap, hv, h1, h2⟩

/-- What phase three reads. -/
theorem Mid.reads (h : Mid w As gs ns 10 10 sv qv ss qs w') (L : Laid w gl As gs ns) : ∃ g c g' c', sv = .slice (some ⟨g, 0, none⟩) 10 c ∧ qv = .slice (some ⟨g', 0, none⟩) 10 c' ∧
    ∀ k, k < 10 → ∃ A2 c2 A3 c3, w'.cell? ⟨gl, k, none⟩ = some (.slice (As k) (ns k) (ns k)) ∧ Rd w' (As k) (List.replicate (ns k) (1000 + k)) ∧
      w'.cell? ⟨g, k, none⟩ = some (.slice A2 (ns k + 16) c2) ∧ Rd w' A2 (List.replicate (ns k + 16) (1000 + k)) ∧
      w'.cell? ⟨g', k, none⟩ = some (.slice A3 (ns k + 48) c3) ∧ Rd w' A3 (List.replicate (ns k + 48) (1000 + k)) := by
  obtain ⟨g, c, e, _, _⟩ := row_form h.slow (by omega)
  obtain ⟨g', c', e', _, _⟩ := row_form h.quick (by omega)
  refine ⟨g, c, g', c', e, e', fun k hk => ?_⟩
  have h1 := h.slow
  have h2 := h.quick
  rw [e] at h1
  rw [e'] at h2
  have c1 := h1.cellAt k (by omega)
  have c2 := h2.cellAt k (by omega)
  obtain ⟨A2, k2, e2, r2, _⟩ := (h.ssg k hk).rd
  obtain ⟨A3, k3, e3, r3, _⟩ := (h.qsg k hk).rd
  refine ⟨A2, k2, A3, k3, h.pre.cell L hk, (h.pre.own k hk).rd, ?_, r2, ?_, r3⟩
  · rw [c1]; simp [hk, e2]
  · rw [c2]; simp [hk, e3]
end
end Go.Proofs.YtniogjkkhkibhaaDoor
