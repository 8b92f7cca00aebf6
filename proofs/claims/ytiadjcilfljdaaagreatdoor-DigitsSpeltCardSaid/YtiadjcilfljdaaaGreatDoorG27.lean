/- Layer 5, the program: Short's margins: high, low. -/
import Derived.Test.YtiadjcilfljdaaaGreatDoorG26
import Derived.Test.YtiadjcilfljdaaaGreatDoorG15
import Derived.Laws.BytesArg
import Derived.Test.YtiadjcilfljdaaaGreatDoorG09
section
namespace Go.Proofs.YtiadjcilfljdaaaGreatDoor
set_option linter.unusedVariables false
set_option linter.unusedSimpArgs false
open Go.RowKit Verge

/-- A natural's list in a block of its own. -/
def IsO (n : Nat) (v : Value) (w : World) : Prop := ∃ A g, v = .slice A (dig n).length (dig n).length ∧ Own w g A (dig n)
theorem IsO.mono (n : Nat) : Mono (IsO n) := fun _ _ _ hb ⟨A, g, e, h⟩ => ⟨A, g, e, h.later hb⟩
theorem IsO.isT {n : Nat} {v : Value} {w : World} (h : IsO n v w) : IsT n v w := by
  obtain ⟨A, g, e, hO⟩ := h
  exact ⟨A, e, hO.rd⟩
section
variable {n m : Nat} {v u : Value} {w : World}
theorem nsmall_o (n : Nat) (h : n < 18446744073709551616) : Calls Tryz.prog 62 #[.int .u64 (n : Int)] w (Ans w (IsO n)) := by
  have := small_any (n : Int) w (by omega) (by omega)
  rw [Int.toNat_natCast] at this
  exact this.mono fun en w' ⟨g, A1, hg, he, hO, hb⟩ => ⟨_, he, ⟨A1, g, rfl, hO⟩, hb⟩
theorem nshl_o (e : Nat) (hv : IsT n v w) (h : blen n + e ≤ 500000) : Calls Tryz.prog 46 #[v, .int .i64 (e : Int)] w (Ans w (Is2 (IsO (n * 2 ^ e)) (IsV (.int .i64 0)))) := by
  obtain ⟨A, rfl, hR⟩ := hv
  have hl := len_of_blen (n := n) (by omega)
  have e1 : nshl n (e : Int) = (dig (n * 2 ^ e), 0) := by
    unfold nshl
    rw [if_neg (by omega), (long_false _).2 (by omega), if_neg (by simp)]
    by_cases h0 : n = 0
    · subst h0; rw [if_pos rfl, Nat.zero_mul, dig_zero]
    · rw [if_neg h0, if_neg (by omega), Int.toNat_natCast]
  have := shl_any A _ (dig n).length (dig n) (e : Int) w hR rfl (Nat.le_refl _) (by omega) (by omega) (by omega)
  rw [val_dig, e1] at this
  exact this.mono fun en w' ⟨g, A1, hg, he, hO, hb⟩ => ⟨_, he, ⟨_, _, rfl, ⟨A1, g, rfl, hO⟩, rfl⟩, hb⟩
theorem nmul_o (hv : IsT n v w) (hu : IsT m u w) (h : blen n ≤ 100000) (h' : blen m ≤ 100000) : Calls Tryz.prog 52 #[v, u] w (Ans w (Is2 (IsO (n * m)) (IsV (.int .i64 0)))) := by
  obtain ⟨A, rfl, hR⟩ := hv
  obtain ⟨B, rfl, hS⟩ := hu
  have hl := len_of_blen (n := n) (by omega)
  have hl' := len_of_blen (n := m) (by omega)
  have hp : blen (n * m) ≤ 200000 := by
    have h2 := (blen_lt n _).1 (Nat.le_refl (blen n))
    have h3 := (blen_lt m _).1 (Nat.le_refl (blen m))
    have : blen (n * m) ≤ blen n + blen m := by
      rw [blen_lt, Nat.pow_add]
      rcases Nat.eq_zero_or_pos m with h0 | h0
      · subst h0; rw [Nat.mul_zero]; exact Nat.mul_pos (Nat.two_pow_pos _) (Nat.two_pow_pos _)
      · exact Nat.lt_of_lt_of_le (Nat.mul_lt_mul_of_pos_right h2 h0) (Nat.mul_le_mul_left _ (Nat.le_of_lt h3))
    omega
  have hlp := len_of_blen (n := n * m) (by omega)
  have e : nmul n m = (dig (n * m), 0) := by
    unfold nmul
    rw [(long_false _).2 (by omega), (long_false _).2 (by omega), fit_no ((long_false _).2 (by omega)), decide_eq_false (by omega)]
    rfl
  have := mul_any A _ (dig n).length (dig n) B _ (dig m).length (dig m) w hR rfl (Nat.le_refl _) (by omega) hS rfl (Nat.le_refl _) (by omega)
  rw [val_dig, val_dig, e] at this
  exact this.mono fun en w' ⟨g, A1, hg, he, hO, hb⟩ => ⟨_, he, ⟨_, _, rfl, ⟨A1, g, rfl, hO⟩, rfl⟩, hb⟩
theorem nquo_o (hv : IsT n v w) (hu : IsT m u w) (h : blen n ≤ 100000) (h' : blen m ≤ 100000) (h0 : m ≠ 0) : Calls Tryz.prog 34 #[v, u] w (Ans w (Is3 (IsT (n / m)) (IsO (n % m)) (IsV (.int .i64 0)))) := by
  obtain ⟨A, rfl, hR⟩ := hv
  obtain ⟨B, rfl, hS⟩ := hu
  have hl := len_of_blen (n := n) (by omega)
  have hl' := len_of_blen (n := m) (by omega)
  have e : nquo n m = (dig (n / m), dig (n % m), 0) := by
    unfold nquo
    rw [if_neg h0, (long_false _).2 (by omega), (long_false _).2 (by omega)]
    rfl
  have := quo_any A _ (dig n).length (dig n) B _ (dig m).length (dig m) w hR rfl (Nat.le_refl _) (by omega) hS rfl (Nat.le_refl _) (by omega)
  rw [val_dig, val_dig, e] at this
  unfold QuoPost at this
  exact this.mono fun en w' ⟨g1, g2, A1, A2, _, _, _, he, hO, hO2, hb⟩ => ⟨_, he, ⟨_, _, _, rfl, ⟨A1, rfl, hO.rd⟩, ⟨A2, g2, rfl, hO2⟩, rfl⟩, hb⟩
end
set_option maxRecDepth 40000 in
set_option maxHeartbeats 1000000 in
theorem times_o {w : World} {v : Value} {N : Nat} (k : Nat) (hv : IsT N v w) (hk : k < 18446744073709551616) (n1 : blen N ≤ 90000) :
    Calls Tryz.prog 33 #[v, .int .u64 (k : Int)] w (Ans w (IsO (N * k))) := by
  have hkb : blen k ≤ 64 := (blen_lt _ _).2 hk
  have HS := Lib.hid (fun W => nsmall_is (w := W) k hk)
  have HM := Lib.hid (fun W x (hb' : Below w.heap.size w W) (hx : IsT k x W) => nmul_o (IsT.mono _ _ _ _ hb' hv) hx (by omega) (by omega))
  clear hv n1 hkb
  go_enter Tryz.func33, Tryz.ntmps33
  go_wp2_with (first
    | (go_at_call 62; (with_reducible refine (HS.out _).mono ?_); rintro e w1 ⟨x1, rfl, hx, hb1⟩; have HX := Lib.hid hx; have HB1 := Lib.hid hb1; clear hx hb1)
    | (go_at_call 52; (with_reducible refine (HM.out _ _ HB1.out HX.out).mono ?_); rintro e w2 ⟨x2, rfl, ⟨y1, y2, rfl, hy, rfl⟩, hb2⟩; have HY := Lib.hid hy; have HB2 := Lib.hid (raft HB1.out hb2); clear hy hb2))
  go_ret
  exact ⟨_, rfl, HY.out, HB2.out⟩
def hiB (r s mo : Nat) (ev : Bool) : Bool := decide (s < r + mo ∨ (r + mo = s ∧ ev = true))
def loB (r le : Nat) (ev : Bool) : Bool := decide (r < le ∨ (r = le ∧ ev = true))
/-- The margins of a number under way. -/
def IsMg (r s mo le : Nat) (ev : Bool) (v : Value) (w : World) : Prop := ∃ vr vs vm vl, v = .agg #[vr, vs, vm, vl, .bool ev] ∧ IsT r vr w ∧ IsT s vs w ∧ IsT mo vm w ∧ IsT le vl w
theorem IsMg.mono (r s mo le : Nat) (ev : Bool) : Mono (IsMg r s mo le ev) := fun _ _ _ hb ⟨vr, vs, vm, vl, e, h1, h2, h3, h4⟩ => ⟨vr, vs, vm, vl, e, IsT.mono _ _ _ _ hb h1, IsT.mono _ _ _ _ hb h2, IsT.mono _ _ _ _ hb h3, IsT.mono _ _ _ _ hb h4⟩
/-- The margins, each list in a block of its own. -/
def IsMo (r s mo le : Nat) (ev : Bool) (v : Value) (w : World) : Prop := ∃ vr vs vm vl, v = .agg #[vr, vs, vm, vl, .bool ev] ∧ IsO r vr w ∧ IsO s vs w ∧ IsO mo vm w ∧ IsO le vl w
variable {w : World} {v : Value} {r s mo le : Nat} {ev : Bool}
theorem box5at {w W : World} {a b c d e : Value} {t : TypeId} (hb : Below (w.alloc (.cells #[a, b, c, d, e] t)).heap.size (w.alloc (.cells #[a, b, c, d, e] t)) W) :
    W.cell? ⟨w.heap.size, 0, none⟩ = some a ∧ W.cell? ⟨w.heap.size, 1, none⟩ = some b ∧ W.cell? ⟨w.heap.size, 2, none⟩ = some c ∧ W.cell? ⟨w.heap.size, 3, none⟩ = some d ∧ W.cell? ⟨w.heap.size, 4, none⟩ = some e := by
  refine ⟨?_, ?_, ?_, ?_, ?_⟩
  · rw [bcell hb _ _ (by simp)]; simp [go_sem]
  · rw [bcell hb _ _ (by simp)]; simp [go_sem]
  · rw [bcell hb _ _ (by simp)]; simp [go_sem]
  · rw [bcell hb _ _ (by simp)]; simp [go_sem]
  · rw [bcell hb _ _ (by simp)]; simp [go_sem]
set_option maxRecDepth 40000 in
set_option maxHeartbeats 2000000 in
theorem high_any (h : IsMg r s mo le ev v w) (n1 : blen (r + mo) ≤ 90000) (n2 : blen s ≤ 90000) : Calls Tryz.prog 32 #[v] w (Ans w (IsV (.bool (hiB r s mo ev)))) := by
  obtain ⟨vr, vs, vm, vl, rfl, h1, h2, h3, h4⟩ := h
  have HA := Lib.hid (fun W (hb : Below w.heap.size w W) => nadd_is (IsT.mono _ _ _ _ hb h1) (IsT.mono _ _ _ _ hb h3) (by omega))
  have HC := Lib.hid (fun W u (hb : Below w.heap.size w W) (hu : IsT (r + mo) u W) => ncmp_is hu (IsT.mono _ _ _ _ hb h2) (by omega) (by omega))
  obtain ⟨o, ho⟩ : ∃ o, hiB r s mo ev = o := ⟨_, rfl⟩
  rw [ho]
  unfold hiB at ho
  have hbl := rnew w (.cells #[vr, vs, vm, vl, .bool ev] 52)
  have HB := Lib.hid hbl
  obtain ⟨k0, k1, k2, k3, k4⟩ := box5at (w := w) (a := vr) (b := vs) (c := vm) (d := vl) (e := .bool ev) (t := 52) (Below.refl _ _)
  have HK := Lib.hid (fun W hb => box5at (w := w) (a := vr) (b := vs) (c := vm) (d := vl) (e := .bool ev) (t := 52) (W := W) hb)
  obtain ⟨Ar, rfl, _⟩ := h1
  obtain ⟨As, rfl, _⟩ := h2
  obtain ⟨Am, rfl, _⟩ := h3
  obtain ⟨Al, rfl, _⟩ := h4
  generalize (dig r).length = lr at *
  generalize (dig s).length = ls at *
  generalize (dig mo).length = lm at *
  generalize (dig le).length = ll at *
  generalize r + mo = q at *
  clear hbl n1 n2
  by_cases c1 : s < q
  · have hc : cmp q s = 1 := by unfold cmp; rw [if_neg (by omega), if_pos c1]
    rw [decide_eq_true (.inl c1)] at ho
    rw [hc] at HC
    subst ho
    clear c1 hc
    go_enter Tryz.func32, Tryz.ntmps32
    go_wp2_with fail
    refine (HA.out _ HB.out).mono ?_
    rintro e w1 ⟨x1, rfl, ⟨y1, y2, rfl, hy, rfl⟩, hb1⟩
    obtain ⟨k0, k1, k2, k3, k4⟩ := HK.out _ hb1
    have HY := Lib.hid hy
    have HB1 := Lib.hid (raft HB.out hb1)
    clear hy hb1
    go_wp2_with fail
    refine (HC.out _ _ HB1.out HY.out).mono ?_
    rintro e w2 ⟨x1, rfl, rfl, hb2⟩
    have HB2 := Lib.hid (raft HB1.out hb2)
    clear hb2
    go_wp2
    go_ret
    exact ⟨_, rfl, rfl, HB2.out⟩
  · by_cases c2 : q < s
    · have hc : cmp q s = -1 := by unfold cmp; rw [if_pos c2]
      rw [decide_eq_false (by omega)] at ho
      rw [hc] at HC
      subst ho
      clear c1 c2 hc
      go_enter Tryz.func32, Tryz.ntmps32
      go_wp2_with fail
      refine (HA.out _ HB.out).mono ?_
      rintro e w1 ⟨x1, rfl, ⟨y1, y2, rfl, hy, rfl⟩, hb1⟩
      obtain ⟨k0, k1, k2, k3, k4⟩ := HK.out _ hb1
      have HY := Lib.hid hy
      have HB1 := Lib.hid (raft HB.out hb1)
      clear hy hb1
      go_wp2_with fail
      refine (HC.out _ _ HB1.out HY.out).mono ?_
      rintro e w2 ⟨x1, rfl, rfl, hb2⟩
      have HB2 := Lib.hid (raft HB1.out hb2)
      clear hb2
      go_wp2
      go_ret
      exact ⟨_, rfl, rfl, HB2.out⟩
    · have hc : cmp q s = 0 := by unfold cmp; rw [if_neg c2, if_neg c1]
      rw [show decide (s < q ∨ q = s ∧ ev = true) = ev by cases ev <;> simp <;> omega] at ho
      rw [hc] at HC
      subst ho
      clear c1 c2 hc
      go_enter Tryz.func32, Tryz.ntmps32
      go_wp2_with fail
      refine (HA.out _ HB.out).mono ?_
      rintro e w1 ⟨x1, rfl, ⟨y1, y2, rfl, hy, rfl⟩, hb1⟩
      obtain ⟨k0, k1, k2, k3, k4⟩ := HK.out _ hb1
      have hz1 : w.heap.size < w1.heap.size := by have := hb1.size; simp at this; omega
      have HK1 := Lib.hid (fun W (hb : Below w1.heap.size w1 W) => (bcell hb w.heap.size 4 hz1).trans k4)
      have HY := Lib.hid hy
      have HB1 := Lib.hid (raft HB.out hb1)
      clear hy hb1
      go_wp2_with fail
      refine (HC.out _ _ HB1.out HY.out).mono ?_
      rintro e w2 ⟨x1, rfl, rfl, hb2⟩
      have HB2 := Lib.hid (raft HB1.out hb2)
      have k4 := HK1.out _ hb2
      clear hb2
      go_wp2
      go_ret
      exact ⟨_, rfl, rfl, HB2.out⟩
set_option maxRecDepth 40000 in
set_option maxHeartbeats 2000000 in
theorem low_any (h : IsMg r s mo le ev v w) (n1 : blen r ≤ 90000) (n2 : blen le ≤ 90000) : Calls Tryz.prog 36 #[v] w (Ans w (IsV (.bool (loB r le ev)))) := by
  obtain ⟨vr, vs, vm, vl, rfl, h1, h2, h3, h4⟩ := h
  have HC := Lib.hid (fun W (hb : Below w.heap.size w W) => ncmp_is (IsT.mono _ _ _ _ hb h1) (IsT.mono _ _ _ _ hb h4) (by omega) (by omega))
  obtain ⟨o, ho⟩ : ∃ o, loB r le ev = o := ⟨_, rfl⟩
  rw [ho]
  unfold loB at ho
  have hbl := rnew w (.cells #[vr, vs, vm, vl, .bool ev] 52)
  have HB := Lib.hid hbl
  obtain ⟨k0, k1, k2, k3, k4⟩ := box5at (w := w) (a := vr) (b := vs) (c := vm) (d := vl) (e := .bool ev) (t := 52) (Below.refl _ _)
  have HK := Lib.hid (fun W hb => box5at (w := w) (a := vr) (b := vs) (c := vm) (d := vl) (e := .bool ev) (t := 52) (W := W) hb)
  obtain ⟨Ar, rfl, _⟩ := h1
  obtain ⟨As, rfl, _⟩ := h2
  obtain ⟨Am, rfl, _⟩ := h3
  obtain ⟨Al, rfl, _⟩ := h4
  generalize (dig r).length = lr at *
  generalize (dig s).length = ls at *
  generalize (dig mo).length = lm at *
  generalize (dig le).length = ll at *
  clear hbl n1 n2
  rcases Nat.lt_trichotomy r le with c1 | c1 | c1
  · have hc : cmp r le = -1 := by unfold cmp; rw [if_pos c1]
    rw [decide_eq_true (.inl c1)] at ho
    rw [hc] at HC
    subst ho
    clear c1 hc
    go_enter Tryz.func36, Tryz.ntmps36
    go_wp2_with fail
    refine (HC.out _ HB.out).mono ?_
    rintro e w1 ⟨x1, rfl, rfl, hb1⟩
    have HB1 := Lib.hid (raft HB.out hb1)
    clear hb1
    go_wp2
    go_ret
    exact ⟨_, rfl, rfl, HB1.out⟩
  · have hc : cmp r le = 0 := by unfold cmp; rw [if_neg (by omega), if_neg (by omega)]
    rw [show decide (r < le ∨ r = le ∧ ev = true) = ev by cases ev <;> simp <;> omega] at ho
    rw [hc] at HC
    subst ho
    clear c1 hc
    go_enter Tryz.func36, Tryz.ntmps36
    go_wp2_with fail
    refine (HC.out _ HB.out).mono ?_
    rintro e w1 ⟨x1, rfl, rfl, hb1⟩
    obtain ⟨k0, k1, k2, k3, k4⟩ := HK.out _ hb1
    have HB1 := Lib.hid (raft HB.out hb1)
    clear hb1
    go_wp2
    go_ret
    exact ⟨_, rfl, rfl, HB1.out⟩
  · have hc : cmp r le = 1 := by unfold cmp; rw [if_neg (by omega), if_pos c1]
    rw [decide_eq_false (by omega)] at ho
    rw [hc] at HC
    subst ho
    clear c1 hc
    go_enter Tryz.func36, Tryz.ntmps36
    go_wp2_with fail
    refine (HC.out _ HB.out).mono ?_
    rintro e w1 ⟨x1, rfl, rfl, hb1⟩
    have HB1 := Lib.hid (raft HB.out hb1)
    clear hb1
    go_wp2
    go_ret
    exact ⟨_, rfl, rfl, HB1.out⟩
end Go.Proofs.YtiadjcilfljdaaaGreatDoor
end

section
namespace Go.Proofs.YtiadjcilfljdaaaGreatDoor
set_option linter.unusedVariables false
set_option linter.unusedSimpArgs false
open Go.RowKit Verge

/-- The cell of the table that 16 asks for. -/
def Tab16 (w : World) : Prop := w.cell? ⟨3, 15, none⟩ = some (.int .u8 4)
theorem Tab16.below {w w' : World} (h : Tab16 w) (hb : Below w.heap.size w w') : Tab16 w' := (bcell hb _ _ (lt_of_cell h)).trans h
theorem tz16 (w : World) (h : Tab16 w) : Calls Tryz.prog 121 #[.int .u64 16] w fun e w' => e = .returned (.int .i64 4) ∧ w = w' := by
  unfold Tab16 at h
  have e1 : Go.bits .and .u64 16 (IntKind.u64.wrap (-16)) = 16 := by decide +kernel
  have e2 : IntKind.u64.wrap (16 * 285870213051353865) = 4573923408821661840 := by decide +kernel
  have e3 : (4573923408821661840 : Int) / 288230376151711744 = 15 := by decide +kernel
  go_enter Tryz.func121, Tryz.ntmps121
  go_wp2
  go_ret
  exact ⟨rfl, rfl⟩
/-- The sign of a digit below 16, as the library's string holds it. -/
theorem digit16 (u : Nat) (hu : u < 16) : (#[48, 49, 50, 51, 52, 53, 54, 55, 56, 57, 97, 98, 99, 100, 101, 102, 103, 104, 105, 106, 107, 108, 109, 110, 111, 112, 113, 114, 115, 116, 117, 118, 119, 120, 121, 122] : Array UInt8)[u]? = some (hexc u) := by
  rcases u with _ | _ | _ | _ | _ | _ | _ | _ | _ | _ | _ | _ | _ | _ | _ | _ | u
  all_goals first | rfl | omega

/-- A byte of memory as a text. -/
theorem conv1 (w : World) (b off cap : Nat) (x : UInt8) (h : w.cell? ⟨b, off, none⟩ = some (.int .u8 (x.toNat : Int))) : (convert 55 9 (.slice (some ⟨b, off, none⟩) 1 cap)).run Tryz.prog w = .ok (.string (bs [x])) w := by
  have := run_convert_bytes_arg (P := Tryz.prog) w 55 5 Tryz.underlying55 Tryz.underlying5 b off 1 cap [(x.toNat : Int)] rfl (fun i hi => by
    obtain rfl : i = 0 := by omega
    simpa using h) 9 Tryz.underlying9
  rw [this]
  simp [strOfNums, bs]
theorem digitB (u : Nat) (hu : u < 16) (h : u < (⟨#[48, 49, 50, 51, 52, 53, 54, 55, 56, 57, 97, 98, 99, 100, 101, 102, 103, 104, 105, 106, 107, 108, 109, 110, 111, 112, 113, 114, 115, 116, 117, 118, 119, 120, 121, 122]⟩ : ByteArray).size) : (⟨#[48, 49, 50, 51, 52, 53, 54, 55, 56, 57, 97, 98, 99, 100, 101, 102, 103, 104, 105, 106, 107, 108, 109, 110, 111, 112, 113, 114, 115, 116, 117, 118, 119, 120, 121, 122]⟩ : ByteArray)[u]'h = hexc u := by
  have := digit16 u hu
  rw [Array.getElem?_eq_some_iff] at this
  exact this.2

set_option maxRecDepth 20000 in
set_option maxHeartbeats 2000000 in
theorem bits16 (u : Nat) (hu : u < 16) (w : World) (h : Tab16 w) : Calls Tryz.prog 107 #[.slice none 0 0, .int .u64 (u : Int), .int .i64 16, .bool false, .bool false] w fun e w' => e = .returned (.tuple #[.slice none 0 0, .string (bs [hexc u])]) ∧ Below w.heap.size w w' := by
  have HT := Lib.hid h
  have hlt : (u : Int) < 16 := by omega
  have e0 : Go.bits .and .i64 16 15 = 0 := by decide +kernel
  clear h
  go_enter Tryz.func107, Tryz.ntmps107
  have hwr : IntKind.u64.wrap (16 - 1) = 15 := by decide +kernel
  go_wp2_with (first | (go_at_call 121; refine (tz16 _ (HT.out.below ((Below.refl _ _).alloc (Nat.le_refl _) _))).mono ?_; rintro e w' ⟨rfl, rfl⟩) | go_in)
  go_loop [1, 13] (fun u1 iv => u1 = .int .u64 (u : Int) ∧ iv = .int .i64 65) (fun _ _ => 0)
  case atStart => exact ⟨rfl, rfl⟩
  case round =>
    obtain ⟨rfl, rfl⟩ := hrel
    have HB := Lib.hid ((Below.refl w.heap.size w).alloc (Nat.le_refl _) (.cells (Tryz.zeroCells134.setIfInBounds 64 (.int .u8 ((hexc u).toNat : Int))) 134))
    go_upto_region 30 with fail
    simp only [digitB u hu]
    obtain ⟨W, hW⟩ : ∃ W, w.alloc (.cells (Tryz.zeroCells134.setIfInBounds 64 (.int .u8 ((hexc u).toNat : Int))) 134) = W := ⟨_, rfl⟩
    rw [hW] at HB ⊢
    have hz : Tryz.zeroCells134.size = 65 := by kernel_rfl
    have hc : W.cell? ⟨w.heap.size, 64, none⟩ = some (.int .u8 ((hexc u).toNat : Int)) := by
      rw [← hW]
      have : (w.alloc (.cells (Tryz.zeroCells134.setIfInBounds 64 (.int .u8 ((hexc u).toNat : Int))) 134)).heap[w.heap.size]? = some (.cells (Tryz.zeroCells134.setIfInBounds 64 (.int .u8 ((hexc u).toNat : Int))) 134) := by
        show (w.heap.push _)[w.heap.size]? = _
        simp
      simp only [World.cell?, this]
      simp [hz]
    have hcv := conv1 W w.heap.size 64 1 (hexc u) hc
    clear hW hz hc
    go_wp2
    go_ret2
    exact ⟨rfl, HB.out⟩
/-- FormatUint of a digit. -/
theorem fmt16 (u : Nat) (hu : u < 16) (w : World) (h : Tab16 w) : Calls Tryz.prog 58 #[.int .u64 (u : Int), .int .i64 16] w fun e w' => e = .returned (.string (bs [hexc u])) ∧ Below w.heap.size w w' := by
  have HF : Hid (∀ W, Tab16 W → Calls Tryz.prog 87 #[.int .u64 (u : Int), .int .i64 16] W fun e w' => e = .returned (.string (bs [hexc u])) ∧ Below W.heap.size W w') := Lib.hid (fun W hW => by
    have HB := Lib.hid (bits16 u hu W hW)
    clear hW h
    go_enter Tryz.func87, Tryz.ntmps87
    go_wp2_with fail
    refine HB.out.mono ?_
    rintro e w' ⟨rfl, hb⟩
    have HW := Lib.hid hb
    clear hb
    go_wp2
    go_ret
    exact ⟨rfl, HW.out⟩)
  have HH := Lib.hid (HF.out w h)
  clear HF h
  go_enter Tryz.func58, Tryz.ntmps58
  go_wp2_with fail
  refine HH.out.mono ?_
  rintro e w' ⟨rfl, hb⟩
  have HW := Lib.hid hb
  clear hb
  go_wp2
  go_ret
  exact ⟨rfl, HW.out⟩
end Go.Proofs.YtiadjcilfljdaaaGreatDoor
end

section
namespace Go.Proofs.YtiadjcilfljdaaaGreatDoor
set_option linter.unusedVariables false
set_option linter.unusedSimpArgs false
open Go.RowKit Verge

/-- The 53 bits of a number, the first one 1; its power of 2. -/
def hxm (b : Nat) : Nat := fbF b * 2 ^ (53 - blen (fbF b))
def hxe (b : Nat) : Int := (fbE b : Int) - 1075 + blen (fbF b)
theorem blen_shl {o u : Nat} (h : o ≠ 0) : blen (o * 2 ^ u) = blen o + u := by
  have e : o * 2 ^ u / 2 ^ u = o := Nat.mul_div_cancel _ (Nat.two_pow_pos u)
  have := blen_div (o * 2 ^ u) u (by rw [e]; exact h)
  rw [e] at this
  omega
theorem fbF_blen (b : Nat) : blen (fbF b) ≤ 53 := (blen_lt _ _).2 (by have := fbF_lt b; omega)
theorem hxm_range {b : Nat} (h : fbF b ≠ 0) : 4503599627370496 ≤ hxm b ∧ hxm b < 9007199254740992 := by
  unfold hxm
  have h1 := fbF_blen b
  have h2 := blen_pos h
  have h3 : blen (fbF b * 2 ^ (53 - blen (fbF b))) = 53 := by rw [blen_shl h]; omega
  constructor
  · have := blen_le (n := fbF b * 2 ^ (53 - blen (fbF b))) (Nat.mul_ne_zero h (by have := Nat.two_pow_pos (53 - blen (fbF b)); omega))
    rw [h3] at this
    exact this
  · exact (blen_lt _ 53).1 (by omega)
theorem hx_doc {b : Nat} (h : fbF b ≠ 0) : fbN b ≠ 0 ∧ fbN b * 2 ^ 52 / 2 ^ (blen (fbN b) - 1) = hxm b ∧ ((blen (fbN b) - 1 : Nat) : Int) - ((blen (fbD b) - 1 : Nat) : Int) = hxe b := by
  have n1 : ntz 1 = 0 := ntz_of 1 0 0 (by simp)
  obtain ⟨m, hm⟩ := ntz_spec (fbF b) h
  have hF := fbF_blen b
  unfold hxm hxe fbN fbD fracN fracD fracE
  rw [if_neg h, if_neg h, n1]
  generalize ntz (fbF b) = t at *
  have ho : fbF b / 2 ^ t = 2 * m + 1 := by rw [hm]; exact Nat.mul_div_cancel_left _ (Nat.two_pow_pos t)
  have hb : blen (fbF b) = t + blen (2 * m + 1) := by
    have := blen_div (fbF b) t (by rw [ho]; omega)
    rw [ho] at this; exact this
  rw [ho]
  rw [hb] at hF ⊢
  generalize ho2 : 2 * m + 1 = o at *
  have h0 : o ≠ 0 := by omega
  have hp := blen_pos h0
  obtain ⟨E, hE⟩ : ∃ E : Int, (fbE b : Int) - 1074 + t - 0 = E := ⟨_, rfl⟩
  have hE' : ((fbE b : Int) - 1074 + (t : Int) - ((0 : Nat) : Int)) = E := hE
  rw [hE']
  obtain ⟨u, hu⟩ : ∃ u, E.toNat = u := ⟨_, rfl⟩
  obtain ⟨d, hd⟩ : ∃ u, (-E).toNat = u := ⟨_, rfl⟩
  rw [hu, hd]
  have hD : blen (1 / 2 ^ 0 * 2 ^ d) = d + 1 := by
    rw [show (1 : Nat) / 2 ^ 0 * 2 ^ d = 2 ^ d by simp]
    exact blen_of _ d (Nat.le_refl _) (Nat.pow_lt_pow_right (by omega) (by omega))
  rw [hD, blen_shl h0]
  refine ⟨Nat.mul_ne_zero h0 (by have := Nat.two_pow_pos u; omega), ?_, by omega⟩
  have e1 : o * 2 ^ u * 2 ^ 52 = o * 2 ^ (53 - blen o) * 2 ^ (blen o + u - 1) := by
    rw [Nat.mul_assoc, Nat.mul_assoc, ← Nat.pow_add, ← Nat.pow_add]
    congr 2; omega
  rw [e1, Nat.mul_div_cancel _ (Nat.two_pow_pos _), hm, Nat.mul_comm (2 ^ t), Nat.mul_assoc, ← Nat.pow_add]
  congr 2; omega
/-- The loop that lays the first bit. -/
theorem hx_loop {b i : Nat} (h : fbF b ≠ 0) (hi : i ≤ 53 - blen (fbF b)) : (fbF b * 2 ^ i < 4503599627370496 ↔ i < 53 - blen (fbF b)) ∧ fbF b * 2 ^ i < 9007199254740992 := by
  have hF := fbF_blen b
  have hb := blen_shl (u := i) h
  refine ⟨?_, ?_⟩
  · have := blen_lt (fbF b * 2 ^ i) 52
    rw [hb] at this
    have e : (2 : Nat) ^ 52 = 4503599627370496 := by decide
    rw [e] at this
    omega
  · have := (blen_lt (fbF b * 2 ^ i) 53).1 (by omega)
    have e : (2 : Nat) ^ 53 = 9007199254740992 := by decide
    rw [e] at this
    exact this
theorem hx_more {b i : Nat} : fbF b * 2 ^ i * 2 = fbF b * 2 ^ (i + 1) := by rw [Nat.pow_succ, Nat.mul_assoc]
/-- The text. -/
def hxtext (b : Nat) : List UInt8 :=
  (if 9223372036854775808 ≤ b then [45] else []) ++ [48, 120, 49] ++ (if hxm b = 4503599627370496 then [] else 46 :: hexs 13 (hxm b - 4503599627370496)) ++ 112 :: Lib.itoa (hxe b)
end Go.Proofs.YtiadjcilfljdaaaGreatDoor

/- Layer 5: plain words on the noughts at a number's end, and on the scientific form. -/
namespace Go.Proofs.YtiadjcilfljdaaaGreatDoor
set_option linter.unusedVariables false
set_option linter.unusedSimpArgs false
open Go.RowKit Verge

/-- The noughts at the end of a number, counted. -/
def tz10 (n : Nat) : Nat := if h : 0 < n ∧ n % 10 = 0 then tz10 (n / 10) + 1 else 0
termination_by n
decreasing_by omega
/-- A number without the noughts at its end. -/
def core (n : Nat) : Nat := if h : 0 < n ∧ n % 10 = 0 then core (n / 10) else n
termination_by n
decreasing_by omega
theorem tz10_step {n : Nat} (h : 0 < n) (h0 : n % 10 = 0) : tz10 n = tz10 (n / 10) + 1 := by rw [tz10, dif_pos ⟨h, h0⟩]
theorem tz10_end {n : Nat} (h0 : n % 10 ≠ 0) : tz10 n = 0 := by rw [tz10, dif_neg (by omega)]
theorem core_step {n : Nat} (h : 0 < n) (h0 : n % 10 = 0) : core n = core (n / 10) := by rw [core, dif_pos ⟨h, h0⟩]
theorem core_end {n : Nat} (h0 : n % 10 ≠ 0) : core n = n := by rw [core, dif_neg (by omega)]
theorem core_pow {n : Nat} (h : 0 < n) : ∀ t, core (n * 10 ^ t) = core n ∧ tz10 (n * 10 ^ t) = tz10 n + t
  | 0 => by simp
  | t + 1 => by
    have hp : 0 < n * 10 ^ (t + 1) := Nat.mul_pos h (Nat.pow_pos (by omega))
    have e : n * 10 ^ (t + 1) = n * 10 ^ t * 10 := by rw [Nat.pow_succ, Nat.mul_assoc]
    have hm : n * 10 ^ (t + 1) % 10 = 0 := by rw [e]; omega
    have hd : n * 10 ^ (t + 1) / 10 = n * 10 ^ t := by rw [e]; omega
    obtain ⟨i1, i2⟩ := core_pow h t
    rw [core_step hp hm, tz10_step hp hm, hd, i1, i2]
    exact ⟨rfl, by omega⟩
theorem txt_some {n : Nat} (h : 0 < n) : 0 < (txt n).length := by rw [txt_step h, List.length_append]; simp
/-- The text of a number that ends in a nought. -/
theorem txt_ten {n : Nat} (h : 0 < n) (h0 : n % 10 = 0) : txt n = txt (n / 10) ++ [48] := by
  rw [txt_step h, h0]; rfl
theorem byte_nought (d : Nat) (h : d < 10) : (UInt8.ofNat (48 + d) = 48) ↔ d = 0 := by
  constructor
  · intro e
    have := congrArg UInt8.toNat e
    simp at this
    omega
  · rintro rfl; rfl
/-- The scientific form of digits, times 10 to the k. -/
def ftext (neg : Bool) (d : List UInt8) (k : Int) : List UInt8 :=
  (if neg = true then [45] else []) ++ (d.take 1 ++ (if 1 < d.length then 46 :: d.drop 1 else [])) ++ 101 :: Lib.itoa ((d.length : Int) - 1 + k)
/-- The program's digits are the document's, with as many noughts more as 2s were taken out. -/
theorem exact_law {b : Nat} (h : fbF b ≠ 0) {A k : Nat} (hA : A = fbF b * 2 ^ ((fbE b : Int) - 1074).toNat * 5 ^ (-((fbE b : Int) - 1074)).toNat) (hk : k = (-((fbE b : Int) - 1074)).toNat) :
    0 < A ∧ 0 < fbN b * 5 ^ (blen (fbD b) - 1) ∧ core A = core (fbN b * 5 ^ (blen (fbD b) - 1)) ∧ (tz10 A : Int) - k = (tz10 (fbN b * 5 ^ (blen (fbD b) - 1)) : Int) - ((blen (fbD b) - 1 : Nat) : Int) := by
  have n1 : ntz 1 = 0 := ntz_of 1 0 0 (by simp)
  obtain ⟨m, hm⟩ := ntz_spec (fbF b) h
  have hN : fbN b ≠ 0 := (hx_doc h).1
  have hA0 : 0 < A := by
    rw [hA]
    exact Nat.mul_pos (Nat.mul_pos (by omega) (Nat.two_pow_pos _)) (Nat.pow_pos (by omega))
  have hB0 : 0 < fbN b * 5 ^ (blen (fbD b) - 1) := Nat.mul_pos (by omega) (Nat.pow_pos (by omega))
  refine ⟨hA0, hB0, ?_⟩
  suffices hs : ∃ t, A = fbN b * 5 ^ (blen (fbD b) - 1) * 10 ^ t ∧ k = (blen (fbD b) - 1) + t by
    obtain ⟨t, e1, e2⟩ := hs
    obtain ⟨c1, c2⟩ := core_pow hB0 t
    rw [e1, c1, c2, e2]
    exact ⟨rfl, by omega⟩
  have hD : fbD b = 2 ^ (-((fbE b : Int) - 1074 + ntz (fbF b))).toNat := by
    unfold fbD fracD fracE
    rw [if_neg h, n1]
    simp
  have hNN : fbN b = (2 * m + 1) * 2 ^ ((fbE b : Int) - 1074 + ntz (fbF b)).toNat := by
    unfold fbN fracN fracE
    rw [if_neg h, n1]
    have ho : fbF b / 2 ^ ntz (fbF b) = 2 * m + 1 := Nat.div_eq_of_eq_mul_right (Nat.two_pow_pos _) hm
    rw [ho]
    simp
  have hbl : blen (fbD b) - 1 = (-((fbE b : Int) - 1074 + ntz (fbF b))).toNat := by
    rw [hD, blen_of _ _ (Nat.le_refl _) (Nat.pow_lt_pow_right (by omega) (by omega))]
    omega
  rw [hbl, hNN]
  generalize hE : (fbE b : Int) - 1074 = E at *
  generalize ntz (fbF b) = t at *
  rw [hm] at hA
  obtain ⟨u, hu⟩ : ∃ u, (-E).toNat = u := ⟨_, rfl⟩
  obtain ⟨v, hv⟩ : ∃ u, E.toNat = u := ⟨_, rfl⟩
  obtain ⟨x, hx⟩ : ∃ u, (-(E + t)).toNat = u := ⟨_, rfl⟩
  obtain ⟨y, hy⟩ : ∃ u, (E + t).toNat = u := ⟨_, rfl⟩
  rw [hu, hv] at hA
  rw [hu] at hk
  rw [hx, hy]
  refine ⟨u - x, ?_, by omega⟩
  have e10 : (10 : Nat) ^ (u - x) = 2 ^ (u - x) * 5 ^ (u - x) := by rw [← Nat.mul_pow]
  have e2 : t + v = y + (u - x) := by omega
  have e5 : u = x + (u - x) := by omega
  rw [hA, e10]
  have p2 : (2 : Nat) ^ t * 2 ^ v = 2 ^ y * 2 ^ (u - x) := by rw [← Nat.pow_add, ← Nat.pow_add, e2]
  have p5 : (5 : Nat) ^ u = 5 ^ x * 5 ^ (u - x) := by rw [← Nat.pow_add, ← e5]
  rw [p5]
  generalize (5 : Nat) ^ x = f at *
  generalize (5 : Nat) ^ (u - x) = g at *
  calc 2 ^ t * (2 * m + 1) * 2 ^ v * (f * g) = (2 ^ t * 2 ^ v) * ((2 * m + 1) * (f * g)) := by ac_rfl
    _ = (2 ^ y * 2 ^ (u - x)) * ((2 * m + 1) * (f * g)) := by rw [p2]
    _ = (2 * m + 1) * 2 ^ y * f * (2 ^ (u - x) * g) := by ac_rfl
theorem exact_k {b : Nat} (h : fbF b ≠ 0) : blen (fbD b) - 1 ≤ 1074 := by
  have n1 : ntz 1 = 0 := ntz_of 1 0 0 (by simp)
  have hD : fbD b = 2 ^ (-((fbE b : Int) - 1074 + ntz (fbF b))).toNat := by
    unfold fbD fracD fracE
    rw [if_neg h, n1]
    simp
  rw [hD, blen_of _ _ (Nat.le_refl _) (Nat.pow_lt_pow_right (by omega) (by omega))]
  omega
theorem five_blen (k : Nat) : blen (5 ^ k) ≤ 3 * k + 1 := by
  rw [blen_lt, Nat.pow_succ, Nat.pow_mul]
  have h1 : (5 : Nat) ^ k ≤ (2 ^ 3) ^ k := Nat.pow_le_pow_left (by omega) k
  have h2 := Nat.pow_pos (n := k) (show 0 < (2 : Nat) ^ 3 by decide)
  omega
theorem blen_mul_le {x y i j : Nat} (h1 : blen x ≤ i) (h2 : blen y ≤ j) : blen (x * y) ≤ i + j := by
  rw [blen_lt] at *
  rw [Nat.pow_add]
  rcases Nat.eq_zero_or_pos y with h | h
  · subst h; rw [Nat.mul_zero]; exact Nat.mul_pos (Nat.two_pow_pos _) (Nat.two_pow_pos _)
  · exact Nat.lt_of_lt_of_le (Nat.mul_lt_mul_of_pos_right h1 h) (Nat.mul_le_mul_left _ (Nat.le_of_lt h2))
end Go.Proofs.YtiadjcilfljdaaaGreatDoor
end
