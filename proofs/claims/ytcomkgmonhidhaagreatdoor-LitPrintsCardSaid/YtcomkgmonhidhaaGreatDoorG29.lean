/- Layer 5, the program: the reader: digits, some. -/
import Derived.Test.YtcomkgmonhidhaaGreatDoorG28
import Derived.Lib.ConvBytes
section
namespace Go.Proofs.YtcomkgmonhidhaaGreatDoor
set_option linter.unusedVariables false
set_option linter.unusedSimpArgs false
open Go.RowKit Verge

theorem take_at {p : UInt8 → Bool} : ∀ {r : List UInt8} {i : Nat} {c : UInt8}, (∀ k < i, ∀ d, r[k]? = some d → p d = true) → r[i]? = some c → p c = false → r.takeWhile p = r.take i ∧ r.dropWhile p = r.drop i
  | [], i, c, _, h, _ => by simp at h
  | x :: xs, 0, c, _, h, hp => by
    have hx : x = c := by simpa using h
    subst hx
    exact ⟨by rw [List.takeWhile_cons_of_neg (by simp [hp])]; rfl, by rw [List.dropWhile_cons_of_neg (by simp [hp])]; rfl⟩
  | x :: xs, i + 1, c, h, hc, hp => by
    have hx : p x = true := h 0 (by omega) x rfl
    have ih := take_at (r := xs) (i := i) (c := c) (fun k hk d hd => h (k + 1) (by omega) d hd) hc hp
    exact ⟨by rw [List.takeWhile_cons_of_pos hx, List.take_succ_cons, ih.1], by rw [List.dropWhile_cons_of_pos hx, List.drop_succ_cons, ih.2]⟩
theorem take_end {p : UInt8 → Bool} {r : List UInt8} (h : ∀ k < r.length, ∀ d, r[k]? = some d → p d = true) : r.takeWhile p = r ∧ r.dropWhile p = [] := by
  have : ∀ d ∈ r, p d = true := fun d hd => by
    obtain ⟨k, hk, e⟩ := List.getElem_of_mem hd
    exact h k hk d (by rw [List.getElem?_eq_getElem hk, e])
  clear h
  induction r with
  | nil => exact ⟨rfl, rfl⟩
  | cons x xs ih =>
    have hx := this x List.mem_cons_self
    have := ih fun d hd => this d (List.mem_cons_of_mem _ hd)
    exact ⟨by rw [List.takeWhile_cons_of_pos hx, this.1], by rw [List.dropWhile_cons_of_pos hx, this.2]⟩

/-- The digits of a base. -/
def pB (B : Nat) (c : UInt8) : Bool := decide (vl c < B)
theorem pB10 : pB 10 = isD := by
  funext c
  unfold pB vl
  by_cases h : isX c = true
  · rw [if_pos h, Bool.eq_iff_iff, decide_eq_true_iff, isD_iff]
    have := isX_iff.1 h
    unfold dvl
    rcases this with h' | h' | h'
    · rw [if_pos (by omega)]; omega
    · rw [if_neg (by omega), if_pos (by omega)]; omega
    · rw [if_neg (by omega), if_neg (by omega)]; omega
  · have h' : isX c = false := by simpa using h
    rw [h']
    have hd : isD c = false := by
      by_cases hd : isD c = true
      · exact absurd (isX_D hd) h
      · simpa using hd
    rw [hd]; rfl
theorem pB16 : pB 16 = isX := by
  funext c
  unfold pB vl
  by_cases h : isX c = true
  · rw [if_pos h, h]
    have := isX_iff.1 h
    unfold dvl
    rcases this with h' | h' | h'
    · rw [if_pos (by omega)]; simp; omega
    · rw [if_neg (by omega), if_pos (by omega)]; simp; omega
    · rw [if_neg (by omega), if_neg (by omega)]; simp; omega
  · have h' : isX c = false := by simpa using h
    rw [h']; rfl

theorem ret_s {a b : List UInt8} (h : a = b) : Ending.returned (.string (bs a)) = .returned (.string (bs b)) := by rw [h]
theorem bs_nil : bs [] = { data := #[] } := rfl
theorem bs_ne {a : List UInt8} (h : a ≠ []) : (bs a).toList.isEmpty = false := by
  rw [ByteArray.toList_eq, bs_list]
  cases a with
  | nil => exact absurd rfl h
  | cons => rfl
end Go.Proofs.YtcomkgmonhidhaaGreatDoor
end

section
namespace Go.Proofs.YtcomkgmonhidhaaGreatDoor
set_option linter.unusedVariables false
set_option linter.unusedSimpArgs false
open Go.RowKit Verge

theorem isR_one {c : UInt8} {s : List UInt8} {k : UInt8} : isR [k] (c :: s) = if c.toNat = k.toNat then (true, s) else (false, c :: s) := by
  show (if c ∈ [k] then _ else _) = _
  by_cases h : c = k
  · subst h; rw [if_pos List.mem_cons_self, if_pos rfl]
  · rw [if_neg (by simpa using h), if_neg (fun e => h (UInt8.toNat_inj.1 e))]
theorem empty_bs (a : List UInt8) : (bs a).toList.isEmpty = a.isEmpty := by rw [ByteArray.toList_eq, bs_list]
theorem ptd_np {p : UInt8 → Bool} {r a r1 : List UInt8} (ha : r.takeWhile p = a) (hr : r.dropWhile p = r1) (h : ¬ ∃ c s, r1 = c :: s ∧ c.toNat = 46) : ptd p r = if a = [] then .error r1.length else .ok (a, none, r1) := by
  unfold ptd
  rw [ha, hr]
  cases r1 with
  | nil => rfl
  | cons c s => exact if_neg fun e => h ⟨c, s, rfl, e⟩
theorem ptd_pt {p : UInt8 → Bool} {r a s : List UInt8} {c : UInt8} (ha : r.takeWhile p = a) (hr : r.dropWhile p = c :: s) (h : c.toNat = 46) : ptd p r = if a = [] ∧ s.takeWhile p = [] then .error (s.dropWhile p).length else .ok (a, some (s.takeWhile p), s.dropWhile p) := by
  unfold ptd
  rw [ha, hr]
  exact if_pos h
/-- How many digits stand behind the point. -/
def kOf : Option (List UInt8) → Int
  | none => -1
  | some b => b.length
end Go.Proofs.YtcomkgmonhidhaaGreatDoor
end

section
namespace Go.Proofs.YtcomkgmonhidhaaGreatDoor
set_option linter.unusedVariables false
set_option linter.unusedSimpArgs false
open Go.RowKit Verge

theorem numB_snoc (b : Nat) (l : List UInt8) (c : UInt8) : numB b (l ++ [c]) = numB b l * b + dvl c := by unfold numB; rw [List.foldl_append]; rfl
theorem numB_take {l : List UInt8} {i : Nat} {c : UInt8} (h : l[i]? = some c) (b : Nat) : numB b (l.take (i + 1)) = numB b (l.take i) * b + dvl c := by
  rw [List.take_add_one, h]
  exact numB_snoc b _ c
/-- A late fault. -/
def lateO (p : Nat) (x : Nat) : Int × Int := if 9999 < x then ((p : Int), 51) else (0, 0)
theorem conv_bytes (W : World) (d : List UInt8) : ∃ cap W2, (convert 9 75 (.string (bs d))).run Tryz.prog W = .ok (.slice (some ⟨W.heap.size, 0, none⟩) d.length cap) W2 ∧ Below W.heap.size W W2 ∧
    ∀ j c, d[j]? = some c → W2.cell? ⟨W.heap.size, j, none⟩ = some (.int .u8 (c.toNat : Int)) := by
  refine ⟨_, _, (bs_size d) ▸ Lib.run_convert_string_bytes (P := Tryz.prog) W 9 75 5 (bs d) Tryz.underlying9 Tryz.underlying75 Tryz.underlying5, ?_, ?_⟩
  · refine ⟨rfl, rfl, rfl, ?_, fun j hj => Lib.bytesWorld_at_old _ _ _ j hj⟩
    rw [Lib.bytesWorld_size]; omega
  · intro j c hc
    have hj : j < d.length := by
      rw [List.getElem?_eq_some_iff] at hc; exact hc.1
    rw [Lib.bytesWorld_cell _ _ _ _ (by rw [bs_size]; exact hj), bs_list]
    simp [List.getD, hc]

theorem sgR (r : List UInt8) : (isR [45] r).1 = (sg r).1 ∧ ((sg r).1 = true → (isR [45] r).2 = (sg r).2) ∧ ((sg r).1 = false → (isR [43] (isR [45] r).2).2 = (sg r).2) := by
  cases r with
  | nil => exact ⟨rfl, fun _ => rfl, fun _ => rfl⟩
  | cons c s =>
    rw [isR_one]
    by_cases h5 : c.toNat = 45
    · rw [sg_yes (.inr h5)]
      have e : c.toNat = (45 : UInt8).toNat := h5
      rw [if_pos e]
      exact ⟨(decide_eq_true h5).symm, fun _ => rfl, fun h => absurd h5 (of_decide_eq_false h)⟩
    · have e : ¬ c.toNat = (45 : UInt8).toNat := h5
      rw [if_neg e]
      dsimp only
      rw [isR_one]
      by_cases h3 : c.toNat = 43
      · rw [sg_yes (.inl h3)]
        have e : c.toNat = (43 : UInt8).toNat := h3
        rw [if_pos e]
        exact ⟨(decide_eq_false h5).symm, fun h => absurd (of_decide_eq_true h) h5, fun _ => rfl⟩
      · rw [sg_no (by omega)]
        have e : ¬ c.toNat = (43 : UInt8).toNat := h3
        rw [if_neg e]
        exact ⟨rfl, fun h => absurd h (by simp), fun _ => rfl⟩
theorem sg_le (r : List UInt8) : (sg r).2.length ≤ r.length := by
  cases r with
  | nil => exact Nat.le_refl _
  | cons c s =>
    by_cases h : c.toNat = 43 ∨ c.toNat = 45
    · rw [sg_yes h]; exact Nat.le_succ _
    · rw [sg_no h]; exact Nat.le_refl _
theorem grown_far {a w : World} {row : Option Nat} (h : a.grownBy w row) {P : Nat} (hP : a.heap.size ≤ P) (i : Nat) (v : Value) : a.grownBy (w.setCell ⟨P, i, none⟩ v) row :=
  ⟨h.os, h.tape, h.output, by have := h.size; simpa [World.setCell] using this, fun k hk hr => (setb' w P i v k (by omega)).trans (h.block k hk hr)⟩
theorem far_cell {w : World} {P G : Nat} (hP : G ≠ P) (i j : Nat) (v : Value) : (w.setCell ⟨P, i, none⟩ v).cell? ⟨G, j, none⟩ = w.cell? ⟨G, j, none⟩ := World.cell?_of_block (setb' w P i v G hP)
theorem step_big {N m d at0 : Nat} (hm : m = min N 9999) (h : 9999 < 10 * m + d) : 9999 = min (N * 10 + d) 9999 ∧ (((at0 : Int), 51) : Int × Int) = lateO at0 (N * 10 + d) := by
  have : 9999 < N * 10 + d := by omega
  exact ⟨by omega, by unfold lateO; rw [if_pos this]⟩
theorem step_small {N m d at0 : Nat} {x y : Int} (hm : m = min N 9999) (h : ¬ 9999 < 10 * m + d) (hx : (x, y) = lateO at0 N) : 10 * m + d = min (N * 10 + d) 9999 ∧ (x, y) = lateO at0 (N * 10 + d) := by
  have h1 : ¬ 9999 < N := by omega
  have h2 : ¬ 9999 < N * 10 + d := by omega
  refine ⟨by omega, ?_⟩
  rw [hx]
  unfold lateO
  rw [if_neg h1, if_neg h2]
end Go.Proofs.YtcomkgmonhidhaaGreatDoor
end

section
namespace Go.Proofs.YtcomkgmonhidhaaGreatDoor
set_option linter.unusedVariables false
set_option linter.unusedSimpArgs false
open Go.RowKit Verge

section
variable {n m : Nat} {v u : Value} {w : World}
theorem ncmp_is (hv : IsT n v w) (hu : IsT m u w) (h : blen n ≤ 500000) (h' : blen m ≤ 500000) : Calls Tryz.prog 56 #[v, u] w (Ans w (IsV (.int .i64 (cmp n m)))) := by
  obtain ⟨A, rfl, hR⟩ := hv
  obtain ⟨B, rfl, hS⟩ := hu
  have hl := len_of_blen h
  have hl' := len_of_blen h'
  have := cmp_any A _ (dig n).length (dig n) B _ (dig m).length (dig m) w hR rfl (by omega) hS rfl (by omega)
  rw [val_dig, val_dig] at this
  exact ans_drew this
theorem nadd_is (hv : IsT n v w) (hu : IsT m u w) (h : blen (n + m) ≤ 500000) : Calls Tryz.prog 34 #[v, u] w (Ans w (Is2 (IsT (n + m)) (IsV (.int .i64 0)))) := by
  obtain ⟨A, rfl, hR⟩ := hv
  obtain ⟨B, rfl, hS⟩ := hu
  have hl := len_of_blen h
  have h1 := dig_length_mono (show n ≤ n + m by omega)
  have h2 := dig_length_mono (show m ≤ n + m by omega)
  have e : nadd n m = (dig (n + m), 0) := by
    rw [nadd_fit, fit_no ((long_false _).2 (by omega))]
    rw [(long_false _).2 (by omega), (long_false _).2 (by omega)]; rfl
  have := add_any A _ (dig n).length (dig n) B _ (dig m).length (dig m) w hR rfl (Nat.le_refl _) (by omega) hS rfl (Nat.le_refl _) (by omega)
  rw [val_dig, val_dig, e] at this
  exact this.mono fun en w' ⟨g, A1, hg, he, hO, hb⟩ => ⟨_, he, ⟨_, _, rfl, ⟨A1, rfl, hO.rd⟩, rfl⟩, hb⟩
end
theorem numB_app (b : Nat) (l : List UInt8) : ∀ k : List UInt8, numB b (l ++ k) = numB b l * b ^ k.length + numB b k := by
  have key : ∀ (n : Nat) (k : List UInt8), k.length = n → numB b (l ++ k) = numB b l * b ^ k.length + numB b k := by
    intro n
    induction n with
    | zero =>
      intro k hk
      obtain rfl : k = [] := List.eq_nil_of_length_eq_zero hk
      simp [numB]
    | succ n ih =>
      intro k hk
      have hne : k ≠ [] := by rintro rfl; simp at hk
      obtain ⟨q, c, rfl⟩ : ∃ q c, k = q ++ [c] := ⟨k.dropLast, k.getLast hne, (List.dropLast_concat_getLast hne).symm⟩
      have hq : q.length = n := by simpa using hk
      rw [← List.append_assoc, numB_snoc, ih q hq, numB_snoc, List.length_append, Nat.add_mul]
      show _ = numB b l * b ^ (q.length + 1) + _
      rw [Nat.pow_succ, Nat.mul_assoc, Nat.add_assoc]
  exact fun k => key _ k rfl
theorem numB_lt {B : Nat} : ∀ {l : List UInt8}, (∀ c ∈ l, dvl c < B) → numB B l < B ^ l.length := by
  intro l
  have key : ∀ (n : Nat) (k : List UInt8), k.length = n → (∀ c ∈ k, dvl c < B) → numB B k < B ^ k.length := by
    intro n
    induction n with
    | zero =>
      intro k hk _
      obtain rfl : k = [] := List.eq_nil_of_length_eq_zero hk
      simp [numB]
    | succ n ih =>
      intro k hk h
      have hne : k ≠ [] := by rintro rfl; simp at hk
      obtain ⟨q, c, rfl⟩ : ∃ q c, k = q ++ [c] := ⟨k.dropLast, k.getLast hne, (List.dropLast_concat_getLast hne).symm⟩
      have hq : q.length = n := by simpa using hk
      have h1 := ih q hq fun c hc => h c (List.mem_append_left _ hc)
      have h2 := h c (by simp)
      rw [numB_snoc, List.length_append]
      show _ < B ^ (q.length + 1)
      rw [Nat.pow_succ]
      have := Nat.mul_le_mul_right B (show numB B q + 1 ≤ B ^ q.length from h1)
      rw [Nat.add_mul] at this
      omega
  exact key _ l rfl
def slen : Value → Nat | .string x => x.size | _ => 0
theorem blenB {B : Nat} (hB : B ≤ 16) {l : List UInt8} (h : ∀ c ∈ l, dvl c < B) (hl : l.length ≤ 5000) : blen (numB B l) ≤ 20000 := by
  obtain ⟨K, hK⟩ : ∃ K, K = 20000 := ⟨_, rfl⟩
  rw [← hK]
  refine (blen_lt _ _).2 (Nat.lt_of_lt_of_le (numB_lt h) (Nat.le_trans (Nat.pow_le_pow_left hB _) ?_))
  rw [show (16 : Nat) = 2 ^ 4 from rfl, ← Nat.pow_mul]
  exact Nat.pow_le_pow_right (by omega) (by omega)
theorem pow7 {B i : Nat} (hB : B ≤ 16) (hB1 : 1 ≤ B) (hi : i < 7) : B ^ i * B ≤ 268435456 := by
  rw [← Nat.pow_succ]
  refine Nat.le_trans (Nat.pow_le_pow_right hB1 (show i + 1 ≤ 7 by omega)) (Nat.le_trans (Nat.pow_le_pow_left hB 7) (by decide))
theorem isEmpty_true {a : List UInt8} (h : a = []) : (bs a).toList.isEmpty = true := by rw [empty_bs, h]; rfl
theorem ten_any (n : Nat) (hn : n ≤ 20000) (w : World) : Calls Tryz.prog 53 #[.int .i64 (n : Int)] w (Ans w (IsT (10 ^ n))) := by
  have hd : dig 10 = [10] := by rw [dig_pos (by omega)]; simp [dig_zero]
  have hb := (Blk.new w #[.int .u32 10] [10] (by intro x hx; simp at hx; omega) rfl).rd
  have hT : IsT 10 (.slice (some ⟨w.heap.size, 0, none⟩) 1 1) (w.alloc (.cells #[.int .u32 10] 65)) := ⟨_, by rw [hd]; rfl, by rw [hd]; exact hb⟩
  have hbl : blen (10 ^ n) ≤ 100000 := by
    obtain ⟨K, hK⟩ : ∃ K, K = 100000 := ⟨_, rfl⟩
    rw [← hK]
    refine (blen_lt _ _).2 (Nat.lt_of_le_of_lt (Nat.pow_le_pow_left (show 10 ≤ 2 ^ 4 by decide) n) ?_)
    rw [← Nat.pow_mul]
    exact Nat.pow_lt_pow_right (by omega) (by omega)
  have HP := Lib.hid (npow_is n hT ((blen_lt 10 100).2 (by decide)) hbl (by omega))
  have HW := Lib.hid (rnew w (.cells #[.int .u32 10] 65))
  clear hd hb hT hbl
  go_enter Tryz.func53, Tryz.ntmps53
  go_wp2_with (go_at_call 89; refine HP.out.mono ?_; rintro e wb ⟨m0, rfl, ⟨m1, m2, rfl, hm1, rfl⟩, hmb⟩; have HM := Lib.hid (And.intro hm1 hmb); clear hm1 hmb)
  go_ret
  exact ⟨_, rfl, HM.out.1, raft HW.out HM.out.2⟩
end Go.Proofs.YtcomkgmonhidhaaGreatDoor
end

section
namespace Go.Proofs.YtcomkgmonhidhaaGreatDoor
set_option linter.unusedVariables false
set_option linter.unusedSimpArgs false
open Go.RowKit Verge

variable {w0 w w' : World} {b : Nat} {l r s : List UInt8} {P Q : Nat} {n : Bool} {N M : Nat} {V D : Value} {k x y : Int}
theorem Rd.step {A : Option Addr} {xs : List Nat} (h : Rd w A xs) (bad : Nat → Prop) (hn : ∀ g, bad g → ∀ i z, w.cell? ⟨g, i, none⟩ ≠ some (.int .u32 z)) (hk : ∀ g, g < w.heap.size → ¬ bad g → w'.heap[g]? = w.heap[g]?) : Rd w' A xs := by
  refine ⟨h.1, fun hne => ?_⟩
  obtain ⟨g, o, rfl, hc⟩ := h.2 hne
  refine ⟨g, o, rfl, fun j z hz => ?_⟩
  have hcz := hc j z hz
  have hb : ¬ bad g := fun hb => hn g hb _ _ hcz
  have hlt : g < w.heap.size := World.block_lt_of_cell? w _ hcz
  rw [World.cell?_of_block (w := w) (w' := w') (a := ⟨g, o + j, none⟩) (hk g hlt hb)]
  exact hcz
theorem IsT.step {v : Value} (h : IsT N v w) (bad : Nat → Prop) (hn : ∀ g, bad g → ∀ i z, w.cell? ⟨g, i, none⟩ ≠ some (.int .u32 z)) (hk : ∀ g, g < w.heap.size → ¬ bad g → w'.heap[g]? = w.heap[g]?) : IsT N v w' := by
  obtain ⟨A, e, hR⟩ := h
  exact ⟨A, e, hR.step bad hn hk⟩
theorem IsT.not {v : Value} (h : IsT N v w) : ∀ z, v ≠ .int .u32 z := by
  obtain ⟨A, rfl, _⟩ := h
  intro z e; cases e
theorem set_other (w : World) (p i g : Nat) (v : Value) (h : g ≠ p) : (w.setCell ⟨p, i, none⟩ v).heap[g]? = w.heap[g]? := setb' w p i v g h
theorem IsT.nil (w : World) : IsT 0 (.slice none 0 0) w := ⟨none, by rw [dig_zero]; rfl, by rw [dig_zero]; exact Rd.nil⟩
/-- The result is laid into its place. -/
def putR (w : World) (R : Nat) (n : Bool) (V D : Value) (k : Int) : World := (((w.setCell ⟨R, 0, none⟩ (.bool n)).setCell ⟨R, 1, none⟩ V).setCell ⟨R, 2, none⟩ D).setCell ⟨R, 3, none⟩ (.int .i64 k)
theorem putR_other (w : World) (R g : Nat) (n : Bool) (V D : Value) (k : Int) (h : g ≠ R) : (putR w R n V D k).heap[g]? = w.heap[g]? := (((set_other _ R 3 g _ h).trans (set_other _ R 2 g _ h)).trans (set_other _ R 1 g _ h)).trans (set_other _ R 0 g _ h)
end Go.Proofs.YtcomkgmonhidhaaGreatDoor
end

section
namespace Go.Proofs.YtcomkgmonhidhaaGreatDoor
set_option linter.unusedVariables false
set_option linter.unusedSimpArgs false
open Go.RowKit Verge

theorem vl_X {c : UInt8} (h : isX c = true) : vl c = dvl c ∧ dvl c < 16 := by
  have h1 : vl c = dvl c := if_pos h
  have h2 : pB 16 c = true := by rw [pB16]; exact h
  have h3 : vl c < 16 := of_decide_eq_true h2
  exact ⟨h1, by omega⟩
theorem vl_D {c : UInt8} (h : isD c = true) : vl c = dvl c ∧ dvl c < 10 := by
  have h1 : vl c = dvl c := if_pos (isX_D h)
  have h2 : pB 10 c = true := by rw [pB10]; exact h
  have h3 : vl c < 10 := of_decide_eq_true h2
  exact ⟨h1, by omega⟩
theorem isR_two {c : UInt8} {s : List UInt8} {j k : UInt8} (h : c.toNat = j.toNat ∨ c.toNat = k.toNat) : isR [j, k] (c :: s) = (true, s) := by
  refine if_pos ?_
  rcases h with h | h
  · rw [UInt8.toNat_inj.1 h]; simp
  · rw [UInt8.toNat_inj.1 h]; simp
/-- What numeral answers. -/
def NumOk (w : World) (b : Nat) (n : Bool) (N D : Nat) (K : Int) (e : Ending) (w' : World) : Prop := ∃ v1 v2, e = .returned (.agg #[.bool n, v1, v2, .int .i64 K]) ∧ IsT N v1 w' ∧ IsT D v2 w' ∧ w.grownBy w' (some b)
end Go.Proofs.YtcomkgmonhidhaaGreatDoor
end
