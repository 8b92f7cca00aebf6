/- Words on memory for lists of 32-bit words: a slice that reads as a list, a block that is known whole, an answer in new memory. -/
import Derived.Test.YtggjbbkcdbnckaaRows
import Derived.Test.YtggjbbkcdbnckaaPlain
import Derived.WalkKit
import Derived.WalkSpells
import Derived.WalkLawsBesides
import Derived.Lib.Hide
import Derived.BigQuiet
import Derived.Deep.QuietTactic
import Derived.Deep.LoopGhost
import Derived.Laws.CopyOwn
import Derived.Deep.DeepCutAuto
namespace Go.Proofs.Ytggjbbkcdbnckaa
set_option linter.unusedVariables false
set_option linter.unusedSimpArgs false
open Go.RowKit Verge

theorem ret_int {k : IntKind} {a b : Int} (h : a = b) : Ending.returned (.int k a) = .returned (.int k b) := by rw [h]

def u32s (xs : List Nat) : List Value := xs.map fun (x : Nat) => Value.int .u32 (x : Int)

theorem u32s_get (xs : List Nat) (k : Nat) : (u32s xs)[k]? = (xs[k]?).map fun (x : Nat) => Value.int .u32 (x : Int) := by simp [u32s]
theorem u32s_length (xs : List Nat) : (u32s xs).length = xs.length := by simp [u32s]
theorem u32s_take (xs : List Nat) (k : Nat) : u32s (xs.take k) = (u32s xs).take k := by simp [u32s, List.map_take]
theorem u32s_inj {xs ys : List Nat} (h : u32s xs = u32s ys) : xs = ys := by
  induction xs generalizing ys with
  | nil => cases ys with
    | nil => rfl
    | cons y ys => simp [u32s] at h
  | cons x xs ih => cases ys with
    | nil => simp [u32s] at h
    | cons y ys =>
      simp only [u32s, List.map_cons, List.cons.injEq, Value.int.injEq, true_and] at h
      rw [ih h.2]
      have := h.1
      congr 1
      omega

/-- A slice's address reads as a list of words. -/
def Rd (w : World) (A : Option Addr) (xs : List Nat) : Prop :=
  W32 xs ∧ (xs ≠ [] → ∃ b o, A = some ⟨b, o, none⟩ ∧ ∀ (k x : Nat), xs[k]? = some x → w.cell? ⟨b, o + k, none⟩ = some (.int .u32 (x : Int)))

/-- A block that is known whole: a row of words. -/
def Blk (w : World) (g : Nat) (xs : List Nat) : Prop := W32 xs ∧ w.heap[g]? = some (.cells (u32s xs).toArray 83 (0, 0))

/-- An answer: a list without spare room that begins the new block g. -/
def Own (w : World) (g : Nat) (A : Option Addr) (xs : List Nat) : Prop :=
  W32 xs ∧ (xs ≠ [] → A = some ⟨g, 0, none⟩ ∧ ∃ cs : Array Value, w.heap[g]? = some (.cells cs 83 (0, 0)) ∧ cs.toList.take xs.length = u32s xs)

theorem bcell {B : Nat} {W w1 : World} (hb : Below B W w1) : ∀ b o, b < B → w1.cell? ⟨b, o, none⟩ = W.cell? ⟨b, o, none⟩ :=
  fun b o h => hb.cell (p := ⟨b, o, none⟩) h

theorem lt_of_cell {w : World} {b o : Nat} {v : Value} (h : w.cell? ⟨b, o, none⟩ = some v) : b < w.heap.size := World.block_lt_of_cell? w ⟨b, o, none⟩ h

section
variable {w w' : World} {A : Option Addr} {xs : List Nat} {g : Nat}

theorem Rd.nil : Rd w A [] := ⟨W32.nil, fun h => absurd rfl h⟩
theorem Rd.keep (h : Rd w A xs) (hk : ∀ b o, b < w.heap.size → w'.cell? ⟨b, o, none⟩ = w.cell? ⟨b, o, none⟩) : Rd w' A xs :=
  ⟨h.1, fun hn => by
    obtain ⟨b, o, e, hc⟩ := h.2 hn
    exact ⟨b, o, e, fun k x hx => (hk b _ (lt_of_cell (hc k x hx))).trans (hc k x hx)⟩⟩
theorem Rd.below (h : Rd w A xs) (hb : Below w.heap.size w w') : Rd w' A xs := h.keep (bcell hb)
theorem Rd.drewN (h : Rd w A xs) (n : Nat) : Rd (w.drewN n) A xs := h
theorem Rd.take (h : Rd w A xs) (k : Nat) : Rd w A (xs.take k) :=
  ⟨h.1.take k, fun hn => by
    obtain ⟨b, o, e, hc⟩ := h.2 (by rintro rfl; simp at hn)
    refine ⟨b, o, e, fun j x hx => hc j x ?_⟩
    rw [List.getElem?_take] at hx
    split at hx
    · exact hx
    · cases hx⟩

/-- What the model makes of the address of a[l:]. -/
def cutA (A : Option Addr) (c l : Nat) : Option Addr := if c = l then A else A.map (·.add l)

theorem add_none (b o l : Nat) : (⟨b, o, none⟩ : Addr).add l = ⟨b, o + l, none⟩ := by
  unfold Addr.add; split <;> simp_all

theorem Rd.cut (h : Rd w A xs) {c l : Nat} (hc : xs.length ≤ c) : Rd w (cutA A c l) (xs.drop l) :=
  ⟨h.1.drop l, fun hn => by
    have hl : l < xs.length := by
      rcases Nat.lt_or_ge l xs.length with h' | h'
      · exact h'
      · exact absurd (List.drop_of_length_le h') hn
    obtain ⟨b, o, e, hcell⟩ := h.2 (by rintro rfl; simp at hn)
    subst e
    refine ⟨b, o + l, by rw [cutA, if_neg (by omega)]; simp [add_none], fun j x hx => ?_⟩
    rw [List.getElem?_drop] at hx
    rw [Nat.add_assoc]
    exact hcell _ _ hx⟩

theorem Rd.cell (h : Rd w A xs) {k : Nat} (hk : k < xs.length) : ∃ b o, A = some ⟨b, o, none⟩ ∧ w.cell? ⟨b, o + k, none⟩ = some (.int .u32 ((xs.getD k 0 : Nat) : Int)) := by
  obtain ⟨b, o, e, hc⟩ := h.2 (by rintro rfl; simp at hk)
  exact ⟨b, o, e, hc k _ (get_of_lt xs hk)⟩

theorem Rd.cells (h : Rd w A xs) (hk : 0 < xs.length) : ∃ b o, A = some ⟨b, o, none⟩ ∧ ∀ k, k < xs.length → w.cell? ⟨b, o + k, none⟩ = some (.int .u32 ((xs.getD k 0 : Nat) : Int)) := by
  obtain ⟨b, o, e, hc⟩ := h.2 (by rintro rfl; simp at hk)
  exact ⟨b, o, e, fun k hk => hc k _ (get_of_lt xs hk)⟩

theorem Blk.lt (h : Blk w g xs) : g < w.heap.size := by
  rcases Nat.lt_or_ge g w.heap.size with hlt | hge
  · exact hlt
  · have := h.2; rw [Array.getElem?_eq_none hge] at this; cases this
theorem Blk.cell? (h : Blk w g xs) (i : Nat) : w.cell? ⟨g, i, none⟩ = (xs[i]?).map fun (x : Nat) => Value.int .u32 (x : Int) := by
  rw [cell_of_row w g i _ _ (0, 0) h.2]; simp [u32s]
theorem Blk.cell (h : Blk w g xs) {i : Nat} (hi : i < xs.length) : w.cell? ⟨g, i, none⟩ = some (.int .u32 ((xs.getD i 0 : Nat) : Int)) := by
  rw [h.cell?, get_of_lt xs hi]; rfl
theorem Blk.frozen (h : Blk w g xs) (i : Nat) : w.frozen? ⟨g, i, none⟩ = false := by
  have := h.2
  simp [World.frozen?, this]
theorem Blk.rd (h : Blk w g xs) : Rd w (some ⟨g, 0, none⟩) xs :=
  ⟨h.1, fun _ => ⟨g, 0, rfl, fun k x hx => by rw [Nat.zero_add, h.cell?, hx]; rfl⟩⟩
theorem Blk.drewN (h : Blk w g xs) (n : Nat) : Blk (w.drewN n) g xs := h
theorem Blk.drew (h : Blk w g xs) : Blk w.drew g xs := h
theorem Blk.alloc (h : Blk w g xs) (o : Obj) : Blk (w.alloc o) g xs := ⟨h.1, (Below.heap_alloc w o g h.lt).trans h.2⟩
theorem Blk.set (h : Blk w g xs) (i : Nat) {v : Nat} (hv : v < 4294967296) : Blk (w.setCell ⟨g, i, none⟩ (.int .u32 (v : Int))) g (xs.set i v) := by
  refine ⟨h.1.set i hv, ?_⟩
  have := h.2
  simp [World.setCell, Array.getElem?_modify, this, u32s, List.map_set]
theorem Blk.setI (h : Blk w g xs) (i : Nat) {v : Int} (h0 : 0 ≤ v) (hv : v < 4294967296) {u : Nat} (hu : v.toNat = u) : Blk (w.setCell ⟨g, i, none⟩ (.int .u32 v)) g (xs.set i u) := by
  subst hu
  have := h.set i (v := v.toNat) (by omega)
  rwa [Int.toNat_of_nonneg h0] at this
theorem Blk.far (h : Blk w g xs) {p : Addr} (hp : g ≠ p.block) (u : Value) : Blk (w.setCell p u) g xs := ⟨h.1, (Below.heap_setCell w p u g hp).trans h.2⟩
theorem Blk.below {B : Nat} (h : Blk w g xs) (hb : Below B w w') (hg : g < B) : Blk w' g xs := ⟨h.1, (hb.block g hg).trans h.2⟩
theorem Blk.later (h : Blk w g xs) (hb : Below w.heap.size w w') : Blk w' g xs := h.below hb h.lt
theorem Blk.grown {row : Option Nat} (h : Blk w g xs) (hb : w.grownBy w' row) (hg : some g ≠ row) : Blk w' g xs := ⟨h.1, (hb.block g h.lt hg).trans h.2⟩

theorem madeRow (n : Nat) : madeCells #[.int .u32 0] n = (u32s (List.replicate n 0)).toArray := by
  apply Array.toList_inj.1
  rw [toList_madeCells_one]
  simp [u32s]

theorem Blk.made (w : World) (n : Nat) : Blk (w.alloc (.cells (u32s (List.replicate n 0)).toArray 83)) w.heap.size (List.replicate n 0) :=
  ⟨W32.replicate n, heap_alloc_new w _⟩

theorem Blk.new (w : World) (cs : Array Value) (xs : List Nat) (hx : W32 xs) (e : cs.toList = u32s xs) : Blk (w.alloc (.cells cs 83)) w.heap.size xs :=
  ⟨hx, by rw [heap_alloc_new w _, ← e]⟩

theorem Own.nil (w : World) (g : Nat) (A : Option Addr) : Own w g A [] := ⟨W32.nil, fun h => absurd rfl h⟩

theorem Blk.own (h : Blk w g xs) (k : Nat) (hk : k ≤ xs.length) : Own w g (some ⟨g, 0, none⟩) (xs.take k) :=
  ⟨h.1.take k, fun _ => ⟨rfl, _, h.2, by rw [List.length_take, Nat.min_eq_left hk, u32s_take]⟩⟩

theorem Own.lt (h : Own w g A xs) (hn : xs ≠ []) : g < w.heap.size := by
  obtain ⟨_, cs, hcs, _⟩ := h.2 hn
  exact (Array.getElem?_eq_some_iff.1 hcs).1

theorem Own.rd (h : Own w g A xs) : Rd w A xs := by
  refine ⟨h.1, fun hn => ?_⟩
  obtain ⟨rfl, cs, hcs, ht⟩ := h.2 hn
  refine ⟨g, 0, rfl, fun k x hx => ?_⟩
  rw [Nat.zero_add, cell_of_row w g k _ _ (0, 0) hcs]
  have : (cs.toList.take xs.length)[k]? = some (Value.int .u32 (x : Int)) := by rw [ht, u32s_get, hx]; rfl
  rw [List.getElem?_take] at this
  split at this
  · simpa using this
  · cases this

theorem Own.frozen (h : Own w g A xs) (hn : xs ≠ []) (i : Nat) : w.frozen? ⟨g, i, none⟩ = false := by
  obtain ⟨_, cs, hcs, _⟩ := h.2 hn
  simp [World.frozen?, hcs]

theorem Own.block (h : Own w g A xs) (hk : w'.heap[g]? = w.heap[g]?) : Own w' g A xs :=
  ⟨h.1, fun hn => by
    obtain ⟨e, cs, hcs, ht⟩ := h.2 hn
    exact ⟨e, cs, by rw [hk]; exact hcs, ht⟩⟩
theorem Own.later (h : Own w g A xs) (hb : Below w.heap.size w w') : Own w' g A xs :=
  ⟨h.1, fun hn => by
    have hlt := h.lt hn
    obtain ⟨e, cs, hcs, ht⟩ := h.2 hn
    exact ⟨e, cs, by rw [hb.block g hlt]; exact hcs, ht⟩⟩
theorem Own.drewN (h : Own w g A xs) (n : Nat) : Own (w.drewN n) g A xs := h
end

theorem quiet_add_left {P : Program} {f : FuncId} {args : Array Value} {w : World} {a n : Nat} {v : Value}
    (h : Calls P f args (w.drewN (a + n)) fun e w' => e = .returned v ∧ w.drewN (a + n) = w') :
    Calls P f args (w.drewN (a + n)) fun e w'' => e = .returned v ∧ ∃ m, w'' = w.drewN (a + m) :=
  h.mono fun _ _ ⟨he, hm⟩ => ⟨he, n, hm.symm⟩
theorem quiet_left {P : Program} {f : FuncId} {args : Array Value} {w : World} {n : Nat} {v : Value}
    (h : Calls P f args (w.drewN n) fun e w' => e = .returned v ∧ w.drewN n = w') : Calls P f args (w.drewN n) fun e w'' => e = .returned v ∧ ∃ m, w'' = w.drewN m :=
  h.mono fun _ _ ⟨he, hm⟩ => ⟨he, n, hm.symm⟩

theorem below_drewN {B : Nat} {a w : World} (h : Below B a w) (n : Nat) : Below B a (w.drewN n) := ⟨h.os, h.tape, h.output, h.size, h.block⟩

/-! ### Slicing and making, as the walk meets them -/
section
variable (w : World)
end

theorem Try.info83 : (Try.prog.info? 83).map (fun i => (i.zero, i.size, i.bytes)) = some (some (.int .u32 0), 1, 4) := by kernel_rfl

theorem grownBy_setRow (w : World) (g : Nat) (cs : Array Value) : w.grownBy (w.setRow g cs) (some g) :=
  ⟨rfl, rfl, rfl, by simp [World.setRow], fun k hk hne => setRow_other w g k cs (fun e => hne (by rw [e]))⟩

end Go.Proofs.Ytggjbbkcdbnckaa

/- More words on memory: make with a capacity, append with room. -/
namespace Go.Proofs.Ytggjbbkcdbnckaa
set_option linter.unusedVariables false
set_option linter.unusedSimpArgs false
open Go.RowKit Verge

end Go.Proofs.Ytggjbbkcdbnckaa
