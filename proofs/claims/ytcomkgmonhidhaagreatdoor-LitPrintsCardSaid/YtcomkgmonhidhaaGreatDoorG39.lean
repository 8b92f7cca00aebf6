/- Layer 5, the program: Short's margins: high, low. -/
import Derived.Test.YtcomkgmonhidhaaGreatDoorG37
import Derived.Test.YtcomkgmonhidhaaGreatDoorG34
import Derived.Test.YtcomkgmonhidhaaGreatDoorG38
section
namespace Go.Proofs.YtcomkgmonhidhaaGreatDoor
set_option linter.unusedVariables false
set_option linter.unusedSimpArgs false
open Go.RowKit Verge

/-- A natural's list in a block of its own. -/
def IsO (n : Nat) (v : Value) (w : World) : Prop := ∃ A g, v = .slice A (dig n).length (dig n).length ∧ Own w g A (dig n)
theorem IsO.mono (n : Nat) : Mono (IsO n) := fun _ _ _ hb ⟨A, g, e, h⟩ => ⟨A, g, e, h.later hb⟩
theorem IsO.isT {n : Nat} {v : Value} {w : World} (h : IsO n v w) : IsT n v w := by
  obtain ⟨A, g, e, hO⟩ := h
  exact ⟨A, e, hO.rd⟩
section
variable {n m : Nat} {v u : Value} {w : World}
theorem nsmall_o (n : Nat) (h : n < 18446744073709551616) : Calls Tryz.prog 47 #[.int .u64 (n : Int)] w (Ans w (IsO n)) := by
  have := small_any (n : Int) w (by omega) (by omega)
  rw [Int.toNat_natCast] at this
  exact this.mono fun en w' ⟨g, A1, hg, he, hO, hb⟩ => ⟨_, he, ⟨A1, g, rfl, hO⟩, hb⟩
theorem nshl_o (e : Nat) (hv : IsT n v w) (h : blen n + e ≤ 500000) : Calls Tryz.prog 32 #[v, .int .i64 (e : Int)] w (Ans w (Is2 (IsO (n * 2 ^ e)) (IsV (.int .i64 0)))) := by
  obtain ⟨A, rfl, hR⟩ := hv
  have hl := len_of_blen (n := n) (by omega)
  have e1 : nshl n (e : Int) = (dig (n * 2 ^ e), 0) := by
    unfold nshl
    rw [if_neg (by omega), (long_false _).2 (by omega), if_neg (by simp)]
    by_cases h0 : n = 0
    · subst h0; rw [if_pos rfl, Nat.zero_mul, dig_zero]
    · rw [if_neg h0, if_neg (by omega), Int.toNat_natCast]
  have := shl_any A _ (dig n).length (dig n) (e : Int) w hR rfl (Nat.le_refl _) (by omega) (by omega) (by omega)
  rw [val_dig, e1] at this
  exact this.mono fun en w' ⟨g, A1, hg, he, hO, hb⟩ => ⟨_, he, ⟨_, _, rfl, ⟨A1, g, rfl, hO⟩, rfl⟩, hb⟩
theorem nmul_o (hv : IsT n v w) (hu : IsT m u w) (h : blen n ≤ 100000) (h' : blen m ≤ 100000) : Calls Tryz.prog 52 #[v, u] w (Ans w (Is2 (IsO (n * m)) (IsV (.int .i64 0)))) := by
  obtain ⟨A, rfl, hR⟩ := hv
  obtain ⟨B, rfl, hS⟩ := hu
  have hl := len_of_blen (n := n) (by omega)
  have hl' := len_of_blen (n := m) (by omega)
  have hp : blen (n * m) ≤ 200000 := by
    have h2 := (blen_lt n _).1 (Nat.le_refl (blen n))
    have h3 := (blen_lt m _).1 (Nat.le_refl (blen m))
    have : blen (n * m) ≤ blen n + blen m := by
      rw [blen_lt, Nat.pow_add]
      rcases Nat.eq_zero_or_pos m with h0 | h0
      · subst h0; rw [Nat.mul_zero]; exact Nat.mul_pos (Nat.two_pow_pos _) (Nat.two_pow_pos _)
      · exact Nat.lt_of_lt_of_le (Nat.mul_lt_mul_of_pos_right h2 h0) (Nat.mul_le_mul_left _ (Nat.le_of_lt h3))
    omega
  have hlp := len_of_blen (n := n * m) (by omega)
  have e : nmul n m = (dig (n * m), 0) := by
    unfold nmul
    rw [(long_false _).2 (by omega), (long_false _).2 (by omega), fit_no ((long_false _).2 (by omega)), decide_eq_false (by omega)]
    rfl
  have := mul_any A _ (dig n).length (dig n) B _ (dig m).length (dig m) w hR rfl (Nat.le_refl _) (by omega) hS rfl (Nat.le_refl _) (by omega)
  rw [val_dig, val_dig, e] at this
  exact this.mono fun en w' ⟨g, A1, hg, he, hO, hb⟩ => ⟨_, he, ⟨_, _, rfl, ⟨A1, g, rfl, hO⟩, rfl⟩, hb⟩
theorem nquo_o (hv : IsT n v w) (hu : IsT m u w) (h : blen n ≤ 100000) (h' : blen m ≤ 100000) (h0 : m ≠ 0) : Calls Tryz.prog 30 #[v, u] w (Ans w (Is3 (IsT (n / m)) (IsO (n % m)) (IsV (.int .i64 0)))) := by
  obtain ⟨A, rfl, hR⟩ := hv
  obtain ⟨B, rfl, hS⟩ := hu
  have hl := len_of_blen (n := n) (by omega)
  have hl' := len_of_blen (n := m) (by omega)
  have e : nquo n m = (dig (n / m), dig (n % m), 0) := by
    unfold nquo
    rw [if_neg h0, (long_false _).2 (by omega), (long_false _).2 (by omega)]
    rfl
  have := quo_any A _ (dig n).length (dig n) B _ (dig m).length (dig m) w hR rfl (Nat.le_refl _) (by omega) hS rfl (Nat.le_refl _) (by omega)
  rw [val_dig, val_dig, e] at this
  unfold QuoPost at this
  exact this.mono fun en w' ⟨g1, g2, A1, A2, _, _, _, he, hO, hO2, hb⟩ => ⟨_, he, ⟨_, _, _, rfl, ⟨A1, rfl, hO.rd⟩, ⟨A2, g2, rfl, hO2⟩, rfl⟩, hb⟩
end
def hiB (r s mo : Nat) (ev : Bool) : Bool := decide (s < r + mo ∨ (r + mo = s ∧ ev = true))
def loB (r le : Nat) (ev : Bool) : Bool := decide (r < le ∨ (r = le ∧ ev = true))
/-- The margins of a number under way. -/
def IsMg (r s mo le : Nat) (ev : Bool) (v : Value) (w : World) : Prop := ∃ vr vs vm vl, v = .agg #[vr, vs, vm, vl, .bool ev] ∧ IsT r vr w ∧ IsT s vs w ∧ IsT mo vm w ∧ IsT le vl w
theorem IsMg.mono (r s mo le : Nat) (ev : Bool) : Mono (IsMg r s mo le ev) := fun _ _ _ hb ⟨vr, vs, vm, vl, e, h1, h2, h3, h4⟩ => ⟨vr, vs, vm, vl, e, IsT.mono _ _ _ _ hb h1, IsT.mono _ _ _ _ hb h2, IsT.mono _ _ _ _ hb h3, IsT.mono _ _ _ _ hb h4⟩
/-- The margins, each list in a block of its own. -/
def IsMo (r s mo le : Nat) (ev : Bool) (v : Value) (w : World) : Prop := ∃ vr vs vm vl, v = .agg #[vr, vs, vm, vl, .bool ev] ∧ IsO r vr w ∧ IsO s vs w ∧ IsO mo vm w ∧ IsO le vl w
variable {w : World} {v : Value} {r s mo le : Nat} {ev : Bool}
theorem box5at {w W : World} {a b c d e : Value} {t : TypeId} (hb : Below (w.alloc (.cells #[a, b, c, d, e] t)).heap.size (w.alloc (.cells #[a, b, c, d, e] t)) W) :
    W.cell? ⟨w.heap.size, 0, none⟩ = some a ∧ W.cell? ⟨w.heap.size, 1, none⟩ = some b ∧ W.cell? ⟨w.heap.size, 2, none⟩ = some c ∧ W.cell? ⟨w.heap.size, 3, none⟩ = some d ∧ W.cell? ⟨w.heap.size, 4, none⟩ = some e := by
  refine ⟨?_, ?_, ?_, ?_, ?_⟩
  · rw [bcell hb _ _ (by simp)]; simp [go_sem]
  · rw [bcell hb _ _ (by simp)]; simp [go_sem]
  · rw [bcell hb _ _ (by simp)]; simp [go_sem]
  · rw [bcell hb _ _ (by simp)]; simp [go_sem]
  · rw [bcell hb _ _ (by simp)]; simp [go_sem]
end Go.Proofs.YtcomkgmonhidhaaGreatDoor
end

section
namespace Go.Proofs.YtcomkgmonhidhaaGreatDoor
set_option linter.unusedVariables false
set_option linter.unusedSimpArgs false
open Go.RowKit Verge

/-- A natural's list, its length named. -/
def Tn (n : Nat) (A : Option Addr) (l : Nat) (w : World) : Prop := (dig n).length = l ∧ ∃ g, Own w g A (dig n)
theorem isO_form {n : Nat} {v : Value} {w : World} (h : IsO n v w) : ∃ A l, v = .slice A l l ∧ Tn n A l w := by
  obtain ⟨A, g, rfl, hR⟩ := h
  exact ⟨A, _, rfl, rfl, g, hR⟩
theorem Tn.isO {n : Nat} {A : Option Addr} {l : Nat} {w : World} (h : Tn n A l w) : IsO n (.slice A l l) w := by
  obtain ⟨rfl, g, hR⟩ := h
  exact ⟨A, g, rfl, hR⟩
theorem Tn.isT {n : Nat} {A : Option Addr} {l : Nat} {w : World} (h : Tn n A l w) : IsT n (.slice A l l) w := h.isO.isT
theorem Tn.later {n : Nat} {A : Option Addr} {l : Nat} {w w' : World} (h : Tn n A l w) (hb : Below w.heap.size w w') : Tn n A l w' := ⟨h.1, h.2.imp fun g hO => hO.later hb⟩
/-- A list stays where its block stays: blocks of words are not touched. -/
theorem Tn.kept {n : Nat} {A : Option Addr} {l : Nat} {w w' : World} (h : Tn n A l w) (hk : ∀ (g : Nat) (cs : Array Value), w.heap[g]? = some (Obj.cells cs 65 (0, 0)) → w'.heap[g]? = w.heap[g]?) : Tn n A l w' := by
  obtain ⟨h1, g, hO⟩ := h
  refine ⟨h1, g, hO.1, fun hne => ?_⟩
  obtain ⟨e, cs, hcs, ht⟩ := hO.2 hne
  exact ⟨e, cs, by rw [hk g cs hcs]; exact hcs, ht⟩
theorem tn_new (W : World) (k : Nat) (h0 : 0 < k) (h1 : k < 4294967296) : Tn k (some ⟨W.heap.size, 0, none⟩) 1 (W.alloc (.cells #[.int .u32 (k : Int)] 65)) := by
  have hd : dig k = [k] := by rw [dig_pos (by omega)]; rw [Nat.div_eq_of_lt h1, dig_zero, Nat.mod_eq_of_lt h1]
  have := (Blk.new W #[.int .u32 (k : Int)] [k] (W32.cons h1 W32.nil) (by simp [u32s])).own 1 (by simp)
  exact ⟨by rw [hd]; rfl, W.heap.size, by rw [hd]; exact this⟩
theorem blkc_lt {w : World} {r : Nat} {o : Obj} (h : w.heap[r]? = some o) : r < w.heap.size := by
  by_cases hr : r < w.heap.size
  · exact hr
  · rw [Array.getElem?_eq_none (by omega)] at h; cases h
theorem blkc5 {w : World} {r : Nat} {a b c d e : Value} {t : TypeId} (h : w.heap[r]? = some (.cells #[a, b, c, d, e] t (0, 0))) :
    w.cell? ⟨r, 0, none⟩ = some a ∧ w.cell? ⟨r, 1, none⟩ = some b ∧ w.cell? ⟨r, 2, none⟩ = some c ∧ w.cell? ⟨r, 3, none⟩ = some d ∧ w.cell? ⟨r, 4, none⟩ = some e ∧
    w.frozen? ⟨r, 0, none⟩ = false ∧ w.frozen? ⟨r, 1, none⟩ = false ∧ w.frozen? ⟨r, 2, none⟩ = false ∧ w.frozen? ⟨r, 3, none⟩ = false ∧ w.frozen? ⟨r, 4, none⟩ = false := by
  simp [World.cell?, World.frozen?, h]
theorem blkc_set {w : World} {r : Nat} {a b c d e u : Value} {t : TypeId} (h : w.heap[r]? = some (.cells #[a, b, c, d, e] t (0, 0))) :
    (w.setCell ⟨r, 0, none⟩ u).heap[r]? = some (.cells #[u, b, c, d, e] t (0, 0)) ∧ (w.setCell ⟨r, 1, none⟩ u).heap[r]? = some (.cells #[a, u, c, d, e] t (0, 0)) ∧
    (w.setCell ⟨r, 2, none⟩ u).heap[r]? = some (.cells #[a, b, u, d, e] t (0, 0)) ∧ (w.setCell ⟨r, 3, none⟩ u).heap[r]? = some (.cells #[a, b, c, u, e] t (0, 0)) := by
  simp [World.setCell, Array.getElem?_modify, h]
section
variable {w wr w' : World} {g : Nat} {Ar As Am Al A' : Option Addr} {lr ls lm ll l' r s m l k : Nat} {ev : Bool}
end
/-- The margins that a number begins with. -/
def mgE (b : Nat) : Bool := decide (fbF b = 4503599627370496 ∧ 0 < fbE b)
def mgR (b : Nat) : Nat := (if mgE b = true then 4 else 2) * fbF b * 2 ^ ((fbE b : Int) - 1074).toNat
def mgS (b : Nat) : Nat := (if mgE b = true then 4 else 2) * 2 ^ (-((fbE b : Int) - 1074)).toNat
def mgM (b : Nat) : Nat := (if mgE b = true then 2 else 1) * 2 ^ ((fbE b : Int) - 1074).toNat
def mgL (b : Nat) : Nat := 2 ^ ((fbE b : Int) - 1074).toNat
def mgV (b : Nat) : Bool := decide (fbF b % 2 = 0)
theorem and_1L (x : Nat) (hx : x < 18446744073709551616) : bits .and .u64 (x : Int) 1 = ((x % 2 : Nat) : Int) := by
  have : bits .and .u64 (x : Int) 1 = ((x &&& 1 : Nat) : Int) := Go.u64_and_nat x 1 hx (by omega)
  rw [this, Nat.and_one_is_mod]
end Go.Proofs.YtcomkgmonhidhaaGreatDoor
end

section
namespace Go.Proofs.YtcomkgmonhidhaaGreatDoor
set_option linter.unusedVariables false
set_option linter.unusedSimpArgs false
open Go.RowKit Verge

theorem mg_bounds (b : Nat) (hF : fbF b ≠ 0) : (0 < mgR b ∧ 0 < mgS b ∧ 0 < mgM b ∧ 0 < mgL b) ∧ blen (mgR b) ≤ 1100 ∧ blen (mgS b) ≤ 1100 ∧ blen (mgM b) ≤ 1100 ∧ blen (mgL b) ≤ 1100 := by
  have hFb := fbF_blen b
  have hE : fbE b ≤ 2047 := by unfold fbE; omega
  have hp : ∀ e : Nat, blen (2 ^ e) = e + 1 := fun e => blen_of _ _ (Nat.le_refl _) (Nat.pow_lt_pow_right (by omega) (by omega))
  have h4 : blen 4 ≤ 3 := (blen_lt _ _).2 (by decide)
  have h2 : blen 2 ≤ 2 := (blen_lt _ _).2 (by decide)
  have h1 : blen 1 ≤ 1 := (blen_lt _ _).2 (by decide)
  have c42 : blen (if mgE b = true then 4 else 2) ≤ 3 := by split <;> omega
  have c21 : blen (if mgE b = true then 2 else 1) ≤ 2 := by split <;> omega
  have p42 : 0 < (if mgE b = true then 4 else 2) := by split <;> omega
  have p21 : 0 < (if mgE b = true then 2 else 1) := by split <;> omega
  have hx : ((fbE b : Int) - 1074).toNat ≤ 1000 := by omega
  have hy : (-((fbE b : Int) - 1074)).toNat ≤ 1074 := by omega
  unfold mgR mgS mgM mgL
  generalize ((fbE b : Int) - 1074).toNat = x at *
  generalize (-((fbE b : Int) - 1074)).toNat = y at *
  refine ⟨⟨Nat.mul_pos (Nat.mul_pos p42 (Nat.pos_of_ne_zero hF)) (Nat.two_pow_pos _), Nat.mul_pos p42 (Nat.two_pow_pos _), Nat.mul_pos p21 (Nat.two_pow_pos _), Nat.two_pow_pos _⟩, ?_, ?_, ?_, ?_⟩
  · have := blen_mul_le (blen_mul_le c42 hFb) (Nat.le_of_eq (hp x)); omega
  · have := blen_mul_le c42 (Nat.le_of_eq (hp y)); omega
  · have := blen_mul_le c21 (Nat.le_of_eq (hp x)); omega
  · have := hp x; omega
theorem ten_lt {k : Nat} {x : Nat} (h : 10 ^ k ≤ x) (hx : blen x ≤ 1110) : k < 336 := by
  have h4 := pow_336
  obtain ⟨z, hz⟩ : ∃ z, z = 336 := ⟨_, rfl⟩
  obtain ⟨y, hy⟩ : ∃ y, y = 1116 := ⟨_, rfl⟩
  rw [← hy, ← hz] at h4
  have h3 := (blen_lt x y).1 (by omega)
  refine Classical.byContradiction fun hc => ?_
  have h5 : (10 : Nat) ^ z ≤ 10 ^ k := Nat.pow_le_pow_right (by omega) (by omega)
  omega
theorem blen_add {x y m : Nat} (hx : blen x ≤ m) (hy : blen y ≤ m) : blen (x + y) ≤ m + 1 := by
  refine (blen_lt _ _).2 ?_
  have h1 := (blen_lt x m).1 hx
  have h2 := (blen_lt y m).1 hy
  rw [Nat.pow_succ]; omega
theorem hi_up {R S M k : Nat} {ev : Bool} (h : hiB R (S * 10 ^ k) M ev = true) (hS : 0 < S) (hR : blen R ≤ 1100) (hM : blen M ≤ 1100) : k < 336 := by
  have h1 := of_decide_eq_true h
  have h2 := Nat.mul_le_mul hS (Nat.le_refl (10 ^ k))
  refine ten_lt (x := R + M) (by omega) (Nat.le_trans (blen_add hR hM) (by omega))
theorem hi_dn {R S M j : Nat} {ev : Bool} (h : hiB (R * 10 ^ j * 10) S (M * 10 ^ j * 10) ev = false) (hR : 0 < R) (hS : blen S ≤ 1100) : j < 336 := by
  have h1 := of_decide_eq_false h
  have h2 := Nat.mul_le_mul hR (Nat.le_refl (10 ^ j))
  refine ten_lt (x := S) (by omega) (by omega)
theorem lo_end {L S r i k : Nat} {ev : Bool} (h : loB r (L * 10 ^ i) ev = false) (hr : r < S * 10 ^ k) (hL : 0 < L) (hS : blen S ≤ 1100) (hk : k ≤ 400) : i < 736 := by
  have h1 := of_decide_eq_false h
  have h2 := Nat.mul_le_mul hL (Nat.le_refl (10 ^ i))
  have a4 := pow_336
  obtain ⟨z, hz⟩ : ∃ z, z = 336 := ⟨_, rfl⟩
  obtain ⟨y, hy⟩ : ∃ y, y = 1116 := ⟨_, rfl⟩
  rw [← hy, ← hz] at a4
  have a3 := (blen_lt S y).1 (by omega)
  refine Classical.byContradiction fun hc => ?_
  have h3 : (10 : Nat) ^ (z + 400) ≤ 10 ^ i := Nat.pow_le_pow_right (by omega) (by omega)
  obtain ⟨q, hq⟩ : ∃ q, q = 400 := ⟨_, rfl⟩
  rw [← hq] at h3 hk
  have h5 : S * 10 ^ k ≤ 10 ^ z * 10 ^ q := Nat.mul_le_mul (by omega) (Nat.pow_le_pow_right (by omega) hk)
  rw [Nat.pow_add] at h3
  generalize (10 : Nat) ^ z * 10 ^ q = p at *
  omega
/-- The margins, scaled by the power of ten. -/
def sR (b : Nat) (k : Int) : Nat := mgR b * 10 ^ (-k).toNat
def sS (b : Nat) (k : Int) : Nat := mgS b * 10 ^ k.toNat
def sM (b : Nat) (k : Int) : Nat := mgM b * 10 ^ (-k).toNat
def sL (b : Nat) (k : Int) : Nat := mgL b * 10 ^ (-k).toNat
/-- The digits so far, and what is left of them. -/
def sP (b : Nat) (k : Int) (i : Nat) : Nat := sR b k * 10 ^ i / sS b k
def sQ (b : Nat) (k : Int) (i : Nat) : Nat := sR b k * 10 ^ i % sS b k
def sHi (b : Nat) (k : Int) (i : Nat) : Bool := hiB (sQ b k i) (sS b k) (sM b k * 10 ^ i) (mgV b)
def sLo (b : Nat) (k : Int) (i : Nat) : Bool := loB (sQ b k i) (sL b k * 10 ^ i) (mgV b)
/-- Does the last digit go up? -/
def sUp (b : Nat) (k : Int) (i : Nat) : Bool := sHi b k i && (!sLo b k i || decide (sS b k < sQ b k i * 2 ∨ sQ b k i * 2 = sS b k ∧ sP b k i % 2 = 1))
def sF (b : Nat) (k : Int) (i : Nat) : Nat := if sUp b k i = true then sP b k i + 1 else sP b k i
/-- The place where Short's digits begin, and their number. -/
structure ShtOk (b : Nat) (k : Int) (i : Nat) : Prop where
  k1 : -400 ≤ k
  k2 : k ≤ 400
  i1 : 1 ≤ i
  i2 : i ≤ 800
  top : hiB (sR b k) (sS b k) (sM b k) (mgV b) = false
  low : hiB (sR b k * 10) (sS b k) (sM b k * 10) (mgV b) = true
  run : ∀ j, 1 ≤ j → j < i → sHi b k j = false ∧ sLo b k j = false
  stop : sHi b k i = true ∨ sLo b k i = true
/-- One digit more. -/
theorem sP_step (b : Nat) (k : Int) (i : Nat) (hS : 0 < sS b k) : sP b k (i + 1) = sP b k i * 10 + sQ b k i * 10 / sS b k ∧ sQ b k (i + 1) = sQ b k i * 10 % sS b k := by
  have e : sR b k * 10 ^ (i + 1) = sQ b k i * 10 + sS b k * (sP b k i * 10) := by
    have := Nat.div_add_mod (sR b k * 10 ^ i) (sS b k)
    show _ = (sR b k * 10 ^ i % sS b k) * 10 + sS b k * ((sR b k * 10 ^ i / sS b k) * 10)
    rw [Nat.pow_succ, ← Nat.mul_assoc]
    generalize sR b k * 10 ^ i / sS b k = P at *
    generalize sR b k * 10 ^ i % sS b k = Q at *
    generalize sR b k * 10 ^ i = A at *
    rw [← this, ← Nat.mul_assoc]
    omega
  constructor
  · unfold sP at *
    rw [e, Nat.add_mul_div_left _ _ hS]
    omega
  · show sR b k * 10 ^ (i + 1) % sS b k = _
    rw [e, Nat.add_mul_mod_self_left]
/-- High, seen from the digits: the number with its margin reaches the next digits. -/
theorem sHi_iff (b : Nat) (k : Int) (i : Nat) : sHi b k i = true ↔ (sS b k * (sP b k i + 1) < (sR b k + sM b k) * 10 ^ i ∨ ((sR b k + sM b k) * 10 ^ i = sS b k * (sP b k i + 1) ∧ mgV b = true)) := by
  have := Nat.div_add_mod (sR b k * 10 ^ i) (sS b k)
  unfold sHi hiB
  rw [decide_eq_true_eq, Nat.add_mul, Nat.mul_add, Nat.mul_one]
  show (sS b k < sR b k * 10 ^ i % sS b k + _ ∨ sR b k * 10 ^ i % sS b k + _ = sS b k ∧ _) ↔ (sS b k * (sR b k * 10 ^ i / sS b k) + sS b k < _ ∨ _ = sS b k * (sR b k * 10 ^ i / sS b k) + sS b k ∧ _)
  generalize sS b k * (sR b k * 10 ^ i / sS b k) = SP at *
  generalize sR b k * 10 ^ i % sS b k = Q at *
  generalize sM b k * 10 ^ i = M at *
  generalize sR b k * 10 ^ i = A at *
  subst this
  constructor
  · rintro (h | ⟨h, e⟩)
    · left; omega
    · right; exact ⟨by omega, e⟩
  · rintro (h | ⟨h, e⟩)
    · left; omega
    · right; exact ⟨by omega, e⟩
/-- The last digit is no 9 that goes up; no digit is above 9. -/
theorem sDigit {b : Nat} {k : Int} {i : Nat} (hS : 0 < sS b k) (h : sQ b k i < sS b k) : sQ b k i * 10 / sS b k ≤ 9 := by
  have : sQ b k i * 10 / sS b k < 10 := (Nat.div_lt_iff_lt_mul hS).2 (by omega)
  omega
theorem no_nine {b : Nat} {k : Int} {i : Nat} (hS : 0 < sS b k) (h : sHi b k i = false) (h2 : sHi b k (i + 1) = true) : sP b k (i + 1) + 1 ≤ sP b k i * 10 + 9 := by
  refine Classical.byContradiction fun hc => ?_
  have hd := sDigit (b := b) (k := k) (i := i) hS (Nat.mod_lt _ hS)
  have hs := (sP_step b k i hS).1
  have e9 : sP b k (i + 1) + 1 = (sP b k i + 1) * 10 := by omega
  have h3 := (sHi_iff b k (i + 1)).1 h2
  rw [e9, Nat.pow_succ, ← Nat.mul_assoc, ← Nat.mul_assoc] at h3
  have : sHi b k i = true := (sHi_iff b k i).2 (by
    rcases h3 with h3 | ⟨h3, e⟩
    · left; omega
    · right; exact ⟨by omega, e⟩)
  rw [h] at this; cases this
/-- Where the digits begin: nothing is said yet. -/
theorem sht_start {b : Nat} {k : Int} (h : hiB (sR b k) (sS b k) (sM b k) (mgV b) = false) (hp : 0 < mgR b ∧ 0 < mgS b ∧ 0 < mgM b ∧ 0 < mgL b) :
    sR b k < sS b k ∧ sP b k 0 = 0 ∧ sQ b k 0 = sR b k ∧ sHi b k 0 = false ∧ 0 < sS b k ∧ 0 < sL b k := by
  have hM : 0 < sM b k := Nat.mul_pos hp.2.2.1 (Nat.pow_pos (by omega))
  have h1 := of_decide_eq_false h
  have hlt : sR b k < sS b k := by omega
  have e0 : sP b k 0 = 0 := by unfold sP; rw [Nat.pow_zero, Nat.mul_one]; exact Nat.div_eq_of_lt hlt
  have e1 : sQ b k 0 = sR b k := by unfold sQ; rw [Nat.pow_zero, Nat.mul_one]; exact Nat.mod_eq_of_lt hlt
  refine ⟨hlt, e0, e1, ?_, by omega, Nat.mul_pos hp.2.2.2 (Nat.pow_pos (by omega))⟩
  unfold sHi
  rw [e1, Nat.pow_zero, Nat.mul_one]
  exact h
/-- The first digit is no nought, unless it goes up at once. -/
theorem sht_first {b : Nat} {k : Int} (hl : hiB (sR b k * 10) (sS b k) (sM b k * 10) (mgV b) = true) (h0 : sP b k 1 = 0) : sHi b k 1 = true := by
  refine (sHi_iff b k 1).2 ?_
  have := of_decide_eq_true hl
  rw [h0, Nat.zero_add, Nat.mul_one, Nat.pow_one, Nat.add_mul]
  rcases this with h | ⟨h, e⟩
  · exact .inl h
  · exact .inr ⟨h, e⟩
theorem sR_gt_sL {b : Nat} {k : Int} (hF : fbF b ≠ 0) : sL b k < sR b k := by
  unfold sL sR
  refine Nat.mul_lt_mul_of_pos_right ?_ (Nat.pow_pos (by omega))
  unfold mgL mgR
  have h2 : 2 ≤ (if mgE b = true then 4 else 2) * fbF b := by
    have : 2 ≤ (if mgE b = true then 4 else 2) := by split <;> omega
    have := Nat.mul_le_mul this (Nat.pos_of_ne_zero hF)
    omega
  have h3 := Nat.two_pow_pos ((fbE b : Int) - 1074).toNat
  have h4 := Nat.mul_le_mul_right (2 ^ ((fbE b : Int) - 1074).toNat) h2
  omega
theorem sF_pos {b : Nat} {k : Int} {i : Nat} (hF : fbF b ≠ 0) (hl : hiB (sR b k * 10) (sS b k) (sM b k * 10) (mgV b) = true) (hs : 0 < sS b k) (h : i = 0 ∨ 1 ≤ sP b k i) : 1 ≤ sF b k (i + 1) := by
  rcases h with rfl | h
  · by_cases h0 : sP b k 1 = 0
    · have hh := sht_first hl h0
      have hlo : sLo b k 1 = false := by
        unfold sLo loB
        refine decide_eq_false ?_
        have e : sQ b k 1 = sR b k * 10 := by
          have := Nat.div_add_mod (sR b k * 10 ^ 1) (sS b k)
          show sR b k * 10 ^ 1 % sS b k = _
          have h0' : sR b k * 10 ^ 1 / sS b k = 0 := h0
          rw [h0', Nat.mul_zero, Nat.zero_add, Nat.pow_one] at this
          rw [Nat.pow_one]; exact this
        rw [e, Nat.pow_one]
        have := sR_gt_sL (b := b) (k := k) hF
        omega
      unfold sF sUp
      rw [hh, hlo]
      simp
    · show 1 ≤ sF b k 1
      unfold sF
      split <;> omega
  · have := (sP_step b k i hs).1
    generalize sQ b k i * 10 / sS b k = q at *
    unfold sF
    split <;> omega
/-- The last digit. -/
theorem sF_last {b : Nat} {k : Int} {i : Nat} (hs : 0 < sS b k) (hh : sHi b k i = false) : ∃ v, v ≤ 9 ∧ sF b k (i + 1) = sP b k i * 10 + v ∧ v = (if sUp b k (i + 1) = true then sQ b k i * 10 / sS b k + 1 else sQ b k i * 10 / sS b k) := by
  refine ⟨_, ?_, ?_, rfl⟩
  · have hd := sDigit (b := b) (k := k) (i := i) hs (Nat.mod_lt _ hs)
    split
    · rename_i hu
      have h2 : sHi b k (i + 1) = true := by
        unfold sUp at hu
        simp only [Bool.and_eq_true] at hu
        exact hu.1
      have h3 := no_nine hs hh h2
      have := (sP_step b k i hs).1
      omega
    · exact hd
  · have := (sP_step b k i hs).1
    unfold sF
    split <;> omega
end Go.Proofs.YtcomkgmonhidhaaGreatDoor
end

section
namespace Go.Proofs.YtcomkgmonhidhaaGreatDoor
set_option linter.unusedVariables false
set_option linter.unusedSimpArgs false
open Go.RowKit Verge

theorem rngN_in {N D r : Nat} (hD : 0 < D) (hlo : r = 0 ∨ (FV (r - 1) + FV r) * D < 2 * N ∨ ((FV (r - 1) + FV r) * D = 2 * N ∧ r % 2 = 0)) (hhi : 2 * N < (FV r + FV (r + 1)) * D ∨ (2 * N = (FV r + FV (r + 1)) * D ∧ r % 2 = 0)) : rngN N D = r := by
  have h1 := fl_div_le N D hD
  have h2 := lt_fl_div N D hD
  unfold rngN
  obtain ⟨f, hf⟩ : ∃ f, fl (N / D) = f := ⟨_, rfl⟩
  rw [hf] at h1 h2 ⊢
  have hf1 : f ≤ r := by
    refine Classical.byContradiction fun hc => ?_
    have a := Nat.mul_le_mul_right D (FV_mono (show r + 1 ≤ f by omega))
    have b := Nat.mul_lt_mul_of_pos_right (FV_lt (show r < r + 1 by omega)) hD
    rw [Nat.add_mul] at hhi
    omega
  have hf2 : r ≤ f + 1 := by
    refine Classical.byContradiction fun hc => ?_
    have a := Nat.mul_le_mul_right D (FV_mono (show f + 1 ≤ r - 1 by omega))
    have b := Nat.mul_lt_mul_of_pos_right (FV_lt (show r - 1 < r by omega)) hD
    rw [Nat.add_mul] at hlo
    omega
  rcases Nat.eq_or_lt_of_le hf1 with e | e
  · subst e
    rcases hhi with h | ⟨h, h'⟩
    · rw [if_pos h]
    · rw [if_neg (by omega), if_neg (by omega), if_pos h']
  · obtain rfl : r = f + 1 := by omega
    rw [Nat.add_sub_cancel] at hlo
    rcases hlo with h | h | ⟨h, h'⟩
    · omega
    · rw [if_neg (by omega), if_pos h]
    · rw [if_neg (by omega), if_neg (by omega), if_neg (by omega)]
theorem gap_up (r : Nat) : FV r < 9007199254740992 * (FV (r + 1) - FV r) := by
  rw [FV_succ, Nat.add_sub_cancel_left]
  have h := FV_lt_succ_binade r
  rcases Nat.eq_zero_or_pos (r / 4503599627370496) with e | e
  · rw [e] at h ⊢
    simp at h ⊢
    omega
  · obtain ⟨k, hk⟩ : ∃ k, r / 4503599627370496 = k + 1 := ⟨_, (Nat.sub_add_cancel e).symm⟩
    rw [hk, Nat.pow_succ] at h
    rw [hk, Nat.add_sub_cancel]
    omega
theorem gap_dn {r : Nat} (h : 0 < r) : FV r ≤ 9007199254740992 * (FV r - FV (r - 1)) := by
  obtain ⟨s, rfl⟩ : ∃ s, r = s + 1 := ⟨r - 1, by omega⟩
  have hle : FV (s + 1) ≤ FV (s / 4503599627370496 * 4503599627370496 + 4503599627370496) := FV_mono (by omega)
  rw [FV_scale _ 4503599627370496 (Nat.le_refl _) (by omega)] at hle
  rw [Nat.add_sub_cancel, FV_succ, Nat.add_sub_cancel_left]
  rw [FV_succ] at hle
  rcases Nat.eq_zero_or_pos (s / 4503599627370496) with e | e
  · rw [e] at hle ⊢
    simp at hle ⊢
    omega
  · obtain ⟨k, hk⟩ : ∃ k, s / 4503599627370496 = k + 1 := ⟨_, (Nat.sub_add_cancel e).symm⟩
    rw [hk, Nat.pow_succ, Nat.add_sub_cancel] at hle
    rw [hk, Nat.add_sub_cancel]
    omega
/-- What lies close enough is rounded to the number. -/
theorem near_close {N D r : Nat} (hD : 0 < D) (hr : 0 < r) (h1 : 18014398509481984 * (FV r * D) < 18014398509481984 * N + FV r * D) (h2 : 18014398509481984 * N < 18014398509481984 * (FV r * D) + FV r * D) : rngN N D = r := by
  have g1 := Nat.mul_le_mul_right D (Nat.le_of_lt (gap_up r))
  have g2 := Nat.mul_le_mul_right D (gap_dn hr)
  have m1 := Nat.mul_le_mul_right D (FV_mono (show r ≤ r + 1 by omega))
  have m2 := Nat.mul_le_mul_right D (FV_mono (show r - 1 ≤ r by omega))
  rw [Nat.mul_assoc, Nat.sub_mul] at g1 g2
  refine rngN_in hD (.inr (.inl ?_)) (.inl ?_)
  · rw [Nat.add_mul]; omega
  · rw [Nat.add_mul]; omega
/-- The number of a pattern and its margins, in units of the least number. -/
theorem mg_vals (b : Nat) (hb : b < 18446744073709551616) (hF : fbF b ≠ 0) (r : Nat) (hr : b % 9223372036854775808 = r) :
    mgR b * 2 ^ KU = FV r * mgS b ∧ 2 * (mgM b * 2 ^ KU) + FV r * mgS b = FV (r + 1) * mgS b ∧ 2 * (mgL b * 2 ^ KU) + FV (r - 1) * mgS b = FV r * mgS b ∧ (mgV b = true ↔ r % 2 = 0) ∧ 0 < r := by
  have hv := FV_fb b
  rw [hr] at hv
  have hr0 : 0 < r := by
    rcases Nat.eq_zero_or_pos r with e | e
    · exfalso; refine hF ?_; unfold fbF; rw [hr, e, if_pos (by omega)]; omega
    · exact e
  have hE : fbE b = r / 4503599627370496 - 1 := by unfold fbE; rw [hr]
  obtain ⟨x, hx⟩ : ∃ x, ((fbE b : Int) - 1074).toNat = x := ⟨_, rfl⟩
  obtain ⟨y, hy⟩ : ∃ y, (-((fbE b : Int) - 1074)).toNat = y := ⟨_, rfl⟩
  have hxy : (2 : Nat) ^ x * 2 ^ KU = 2 ^ y * 2 ^ fbE b := by
    obtain ⟨z, hz⟩ : ∃ z, KU = z := ⟨_, rfl⟩
    have hz2 : z = 1074 := by rw [← hz]; rfl
    rw [hz, ← Nat.pow_add, ← Nat.pow_add, show x + z = y + fbE b by omega]
  obtain ⟨c, hc⟩ : ∃ c, (if mgE b = true then 4 else 2) = c := ⟨_, rfl⟩
  have hc2 : 2 * (if mgE b = true then 2 else 1) = c := by rw [← hc]; split <;> rfl
  have hup := FV_succ r
  rw [← hE] at hup
  have hdn := FV_succ (r - 1)
  rw [Nat.sub_add_cancel hr0] at hdn
  have hgap : c * 2 ^ ((r - 1) / 4503599627370496 - 1) = 2 * 2 ^ fbE b := by
    rw [← hc]
    unfold mgE
    by_cases h : fbF b = 4503599627370496 ∧ 0 < fbE b
    · rw [if_pos (decide_eq_true h)]
      obtain ⟨q1, q2⟩ := h
      have hrr : r % 4503599627370496 = 0 ∧ 1 < r / 4503599627370496 := by
        refine ⟨?_, by omega⟩
        unfold fbF at q1
        rw [hr] at q1
        split at q1 <;> omega
      obtain ⟨e, he⟩ : ∃ e, r / 4503599627370496 = e + 2 := ⟨r / 4503599627370496 - 2, by omega⟩
      rw [hE, he, show (r - 1) / 4503599627370496 - 1 = e by omega, show e + 2 - 1 = e + 1 by omega, Nat.pow_succ]
      omega
    · rw [if_neg (by simpa using h)]
      suffices hq : (r - 1) / 4503599627370496 - 1 = fbE b by rw [hq]
      rw [hE]
      rw [hE] at h
      unfold fbF at h
      rw [hr] at h
      have hb2 : b % 4503599627370496 = r % 4503599627370496 := by omega
      rw [hb2] at h
      by_cases h3 : r < 4503599627370496
      · omega
      · rw [if_neg h3] at h
        omega
  have hev : mgV b = true ↔ r % 2 = 0 := by
    unfold mgV fbF
    rw [decide_eq_true_eq, hr]
    split <;> omega
  have hR : mgR b = c * fbF b * 2 ^ x := by unfold mgR; rw [hc, hx]
  have hS : mgS b = c * 2 ^ y := by unfold mgS; rw [hc, hy]
  have hM : 2 * mgM b = c * 2 ^ x := by unfold mgM; rw [hx, ← Nat.mul_assoc, hc2]
  have hL : mgL b = 2 ^ x := by unfold mgL; rw [hx]
  rw [hS, hR, hL]
  generalize mgM b = M at *
  generalize fbF b = F at *
  generalize 2 ^ fbE b = e at *
  generalize 2 ^ ((r - 1) / 4503599627370496 - 1) = g at *
  generalize 2 ^ KU = U at *
  generalize 2 ^ x = X at *
  generalize 2 ^ y = Y at *
  refine ⟨?_, ?_, ?_, hev, hr0⟩
  · rw [hv, Nat.mul_assoc, hxy]; ac_rfl
  · rw [hup, Nat.add_mul, ← Nat.mul_assoc, hM, Nat.mul_assoc c, hxy, Nat.add_comm]
    congr 1; ac_rfl
  · rw [hxy]
    have h9 : FV r * (c * Y) = FV (r - 1) * (c * Y) + g * (c * Y) := by rw [hdn, Nat.add_mul]
    rw [h9, Nat.add_comm]
    congr 1
    calc 2 * (Y * e) = 2 * e * Y := by ac_rfl
      _ = c * g * Y := by rw [hgap]
      _ = _ := by ac_rfl
/-- Short's digits lie within the margins. -/
theorem sht_within {b : Nat} {k : Int} {i : Nat} (h : ShtOk b k i) (hF : fbF b ≠ 0) :
    (mgS b * 10 ^ k.toNat * sF b k i < (mgR b + mgM b) * (10 ^ (-k).toNat * 10 ^ i) ∨ (mgS b * 10 ^ k.toNat * sF b k i = (mgR b + mgM b) * (10 ^ (-k).toNat * 10 ^ i) ∧ mgV b = true)) ∧
    (mgR b * (10 ^ (-k).toNat * 10 ^ i) < mgS b * 10 ^ k.toNat * sF b k i + mgL b * (10 ^ (-k).toNat * 10 ^ i) ∨ (mgR b * (10 ^ (-k).toNat * 10 ^ i) = mgS b * 10 ^ k.toNat * sF b k i + mgL b * (10 ^ (-k).toNat * 10 ^ i) ∧ mgV b = true)) := by
  obtain ⟨⟨p1, p2, p3, p4⟩, _⟩ := mg_bounds b hF
  have hS : 0 < mgS b * 10 ^ k.toNat := Nat.mul_pos p2 (Nat.pow_pos (by omega))
  have hM : 0 < mgM b * (10 ^ (-k).toNat * 10 ^ i) := Nat.mul_pos p3 (Nat.mul_pos (Nat.pow_pos (by omega)) (Nat.pow_pos (by omega)))
  have hL : 0 < mgL b * (10 ^ (-k).toNat * 10 ^ i) := Nat.mul_pos p4 (Nat.mul_pos (Nat.pow_pos (by omega)) (Nat.pow_pos (by omega)))
  have hst := h.stop
  rw [Nat.add_mul]
  unfold sF sUp
  unfold sHi sLo hiB loB at *
  unfold sQ sP sS sR sM sL at *
  have e1 : mgR b * 10 ^ (-k).toNat * 10 ^ i = mgR b * (10 ^ (-k).toNat * 10 ^ i) := Nat.mul_assoc _ _ _
  have e2 : mgM b * 10 ^ (-k).toNat * 10 ^ i = mgM b * (10 ^ (-k).toNat * 10 ^ i) := Nat.mul_assoc _ _ _
  have e3 : mgL b * 10 ^ (-k).toNat * 10 ^ i = mgL b * (10 ^ (-k).toNat * 10 ^ i) := Nat.mul_assoc _ _ _
  rw [e1, e2, e3] at hst
  rw [e1, e2, e3]
  generalize mgR b * (10 ^ (-k).toNat * 10 ^ i) = A at *
  generalize mgM b * (10 ^ (-k).toNat * 10 ^ i) = M at *
  generalize mgL b * (10 ^ (-k).toNat * 10 ^ i) = L at *
  generalize mgS b * 10 ^ k.toNat = S at *
  have hd := Nat.div_add_mod A S
  have hm := Nat.mod_lt A hS
  generalize A / S = P at *
  generalize A % S = Q at *
  generalize mgV b = V at *
  subst hd
  split
  · rename_i hu
    simp only [Bool.and_eq_true, decide_eq_true_eq] at hu
    have := hu.1
    rw [Nat.mul_add, Nat.mul_one]
    refine ⟨?_, .inl (by omega)⟩
    rcases this with g | ⟨g, g'⟩
    · exact .inl (by omega)
    · exact .inr ⟨by omega, g'⟩
  · rename_i hu
    have hlo : Q < L ∨ (Q = L ∧ V = true) := by
      refine Classical.byContradiction fun hc => ?_
      rw [decide_eq_false hc] at hst hu
      rcases hst with g | g
      · rw [g] at hu; simp at hu
      · cases g
    refine ⟨.inl (by omega), ?_⟩
    rcases hlo with g | ⟨g, g'⟩
    · exact .inl (by omega)
    · exact .inr ⟨by omega, g'⟩
end Go.Proofs.YtcomkgmonhidhaaGreatDoor
end
