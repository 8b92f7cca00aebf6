/- Layer 3: the parts of a float as a dyadic number. -/
import Derived.Test.YtmmbbkeefphaiaaRoundB
import Derived.Deep.CutBlock
import Derived.ScopeJumps
import Derived.Test.YtmmbbkeefphaiaaMidC
namespace Go.Proofs.Ytmmbbkeefphaiaa
set_option linter.unusedVariables false
set_option linter.unusedSimpArgs false
open Go.RowKit Verge

/-- A dyadic number: its sign, the list of its natural, its exponent. -/
def IsD (s : Bool) (n : Nat) (e : Int) (v : Value) (w : World) : Prop := ∃ a, v = .agg #[.bool s, a, .int .i64 e] ∧ IsT n a w
theorem IsD.mono (s : Bool) (n : Nat) (e : Int) : Mono (IsD s n e) := fun _ _ _ hb ⟨a, h, k⟩ => ⟨a, h, IsT.mono n _ _ _ hb k⟩

/-- A dyadic number's box. -/
abbrev dyO (s : Bool) (a : Value) (e : Int) : Obj := .cells #[.bool s, a, .int .i64 e] 83
def DB (w : World) (r : Nat) (s : Bool) (a : Value) (e : Int) : Prop := w.heap[r]? = some (dyO s a e)
section
variable {w w' : World} {r : Nat} {s s' : Bool} {a a' : Value} {e e' : Int}
theorem DB.new (w : World) (s : Bool) (a : Value) (e : Int) : DB (w.alloc (dyO s a e)) w.heap.size s a e := by
  show (w.heap.push _)[w.heap.size]? = _
  simp
theorem DB.lt (h : DB w r s a e) : r < w.heap.size := by
  by_cases hr : r < w.heap.size
  · exact hr
  · unfold DB at h; rw [Array.getElem?_eq_none (by omega)] at h; cases h
theorem DB.later (h : DB w r s a e) (hb : Below w.heap.size w w') : DB w' r s a e := (hb.block r h.lt).trans h
theorem DB.alloc (h : DB w r s a e) (o : Obj) : DB (w.alloc o) r s a e := h.later (rnew w o)
theorem DB.cells (h : DB w r s a e) : w.cell? ⟨r, 0, none⟩ = some (.bool s) ∧ w.cell? ⟨r, 1, none⟩ = some a ∧ w.cell? ⟨r, 2, none⟩ = some (.int .i64 e) ∧
    w.frozen? ⟨r, 0, none⟩ = false ∧ w.frozen? ⟨r, 1, none⟩ = false ∧ w.frozen? ⟨r, 2, none⟩ = false := by
  unfold DB at h
  refine ⟨?_, ?_, ?_, ?_, ?_, ?_⟩ <;> simp [World.cell?, World.frozen?, h]
theorem DB.no (h : DB w r s a e) {A : Option Addr} {l c : Nat} (ha : a = .slice A l c) : ∀ i z, w.cell? ⟨r, i, none⟩ ≠ some (.int .u32 z) := by
  intro i z hh
  unfold DB at h
  subst ha
  simp only [World.cell?, h] at hh
  rcases i with _ | _ | _ | i <;> simp at hh
theorem DB.far (h : DB w r s a e) {k i : Nat} {u : Value} (hk : r ≠ k) : DB (w.setCell ⟨k, i, none⟩ u) r s a e := (setb' w k i u r hk).trans h
theorem DB.set1 (h : DB w r s a e) (a' : Value) : DB (w.setCell ⟨r, 1, none⟩ a') r s a' e := by
  unfold DB at h ⊢
  simp [World.setCell, Array.getElem?_modify, h]
theorem DB.set0 (h : DB w r s a e) (s' : Bool) : DB (w.setCell ⟨r, 0, none⟩ (.bool s')) r s' a e := by
  unfold DB at h ⊢
  simp [World.setCell, Array.getElem?_modify, h]
theorem DB.set2 (h : DB w r s a e) (e' : Int) : DB (w.setCell ⟨r, 2, none⟩ (.int .i64 e')) r s a e' := by
  unfold DB at h ⊢
  simp [World.setCell, Array.getElem?_modify, h]
theorem IsT.put {n : Nat} {v : Value} (hv : IsT n v w) (h : DB w r s a e) {A : Option Addr} {l c : Nat} (ha : a = .slice A l c) (i : Nat) (u : Value) : IsT n v (w.setCell ⟨r, i, none⟩ u) := by
  obtain ⟨B, rfl, hR⟩ := hv
  exact ⟨B, rfl, hR.apart (h.no ha) fun k hk => setb' _ r i u k hk⟩
end

/-- A finite float's natural and its exponent. -/
def pS (x : Nat) : Nat := if x % 9223372036854775808 / 4503599627370496 = 0 then x % 4503599627370496 else x % 4503599627370496 + 4503599627370496
def pE (x : Nat) : Int := ((x % 9223372036854775808 / 4503599627370496 - 1 : Nat) : Int) - 1074
theorem pS_lt (x : Nat) : pS x < 9007199254740992 := by unfold pS; split <;> omega
theorem dval_part (x : Nat) : dval (decide (9223372036854775808 ≤ x)) (pS x) (pE x) = fv x := by
  have h : pS x * 2 ^ (pE x + 1074).toNat = FV (x % 9223372036854775808) := by
    unfold pE FV pS
    have hm : x % 9223372036854775808 % 4503599627370496 = x % 4503599627370496 := by omega
    rw [show (((x % 9223372036854775808 / 4503599627370496 - 1 : Nat) : Int) - 1074 + 1074).toNat = x % 9223372036854775808 / 4503599627370496 - 1 by omega]
    by_cases hl : x % 9223372036854775808 < 4503599627370496
    · rw [if_pos (Nat.div_eq_of_lt hl), if_pos hl, Nat.div_eq_of_lt hl]; simp; omega
    · rw [if_neg (by omega), if_neg hl, hm, Nat.add_comm]
  unfold dval fv
  rw [h]
  by_cases c : 9223372036854775808 ≤ x
  · rw [decide_eq_true c, if_pos rfl, if_pos c]
  · rw [decide_eq_false c, if_neg (by simp), if_neg c]

set_option maxRecDepth 20000 in
set_option maxHeartbeats 2000000 in
theorem part_is (x : Nat) (hx : ffin x) (w : World) : Calls Try.prog 82 #[.float .f64 x] w (Ans w (IsD (decide (9223372036854775808 ≤ x)) (pS x) (pE x))) := by
  obtain ⟨hx1, hx2⟩ := hx
  have HB0 := Lib.hid (rnew w (dyO false (.slice none 0 0) 0))
  have e1 : bits .and .u64 ((x : Int) / 4503599627370496) 2047 = ((x % 9223372036854775808 / 4503599627370496 : Nat) : Int) := by
    have := Go.u64_and_nat (x / 4503599627370496) 2047 (by omega) (by omega)
    rw [show (2047 : Nat) = 2 ^ 11 - 1 from rfl, Nat.and_two_pow_sub_one_eq_mod] at this
    have h2 : x / 4503599627370496 % 2 ^ 11 = x % 9223372036854775808 / 4503599627370496 := by omega
    rw [h2] at this
    rw [← this]; congr 1
  have e2 : bits .and .u64 (x : Int) 4503599627370495 = ((x % 4503599627370496 : Nat) : Int) := by
    have := Go.u64_and_nat x 4503599627370495 hx1 (by omega)
    rw [show (4503599627370495 : Nat) = 2 ^ 52 - 1 from rfl, Nat.and_two_pow_sub_one_eq_mod] at this
    exact this
  have e3 : ((x : Int) / 9223372036854775808 == 1) = decide (9223372036854775808 ≤ x) := by
    by_cases h : 9223372036854775808 ≤ x
    · have : (x : Int) / 9223372036854775808 = 1 := by omega
      simp [h, this]
    · have : (x : Int) / 9223372036854775808 = 0 := by omega
      simp [h, this]
  have bx := bits_any x
  have hp : ∃ Q F : Nat, x % 9223372036854775808 / 4503599627370496 = Q ∧ x % 4503599627370496 = F ∧ Q ≤ 2046 ∧ F < 4503599627370496 ∧ pS x = (if Q = 0 then F else F + 4503599627370496) ∧ pE x = ((Q - 1 : Nat) : Int) - 1074 :=
    ⟨_, _, rfl, rfl, by omega, by omega, rfl, rfl⟩
  obtain ⟨Q, F, hQ, hF, hQb, hFb, hfe, hee⟩ := hp
  rw [hQ] at e1
  rw [hF] at e2
  obtain ⟨sg, hs⟩ : ∃ sg, decide (9223372036854775808 ≤ x) = sg := ⟨_, rfl⟩
  rw [hs] at e3 ⊢
  have e4 : bits .or .u64 (F : Int) 4503599627370496 = (F : Int) + 4503599627370496 := by
    have := Go.u64_or_nat F 4503599627370496 (by omega) (by omega)
    rw [Nat.or_comm, Go.nat_join 52 4503599627370496 F (by decide) (by omega)] at this
    have h2 : bits .or .u64 (F : Int) 4503599627370496 = ((4503599627370496 + F : Nat) : Int) := this
    rw [h2]; omega
  rw [hfe, hee]
  clear hQ hF hs hfe hee hx1 hx2
  have hxI : (0 : Int) ≤ x := by omega
  by_cases hq : Q = 0
  · subst hq
    have hS := Lib.hid (fun W => nsmall_is (w := W) F (by omega))
    rw [if_pos rfl, show (((0 - 1 : Nat) : Int) - 1074) = -1074 by omega]
    go_enter Try.func82, Try.ntmps82
    go_wp2_with fail
    refine (hS.out _).mono ?_
    rintro en w1 ⟨_, rfl, ⟨A, rfl, hR⟩, hb⟩
    have HB := Lib.hid ((DB.new w false (.slice none 0 0) 0).later hb)
    have HW := Lib.hid (raft HB0.out hb)
    have HT := Lib.hid (show IsT F _ w1 from ⟨A, rfl, hR⟩)
    obtain ⟨b0, b1, b2, f0, f1, f2⟩ := HB.out.cells
    have hz := HB.out.lt
    clear hR hb
    go_wp2
    refine bodyPost_ret (v := .agg #[.bool sg, .slice A (dig F).length (dig F).length, .int .i64 (-1074)]) (by simp [results, Try.results82, go_sem, b0, b1, b2, hz]) rfl ?_
    have k1 := HT.out.put HB.out rfl 0 (.bool sg)
    have k2 := k1.put (HB.out.set0 sg) rfl 1 (.slice A (dig F).length (dig F).length)
    have k3 := k2.put ((HB.out.set0 sg).set1 _) rfl 2 (.int .i64 (-1074))
    exact ⟨_, rfl, ⟨_, rfl, k3⟩, ((HW.out.setCell (Nat.le_refl _) _).setCell (Nat.le_refl _) _).setCell (Nat.le_refl _) _⟩
  · have hq' : (0 : Int) < Q := by omega
    have hS : Hid (∀ W, Calls Try.prog 106 #[.int .u64 ((F : Int) + 4503599627370496)] W (Ans W (IsT (F + 4503599627370496)))) := Lib.hid (fun W => by
      have := nsmall_is (w := W) (F + 4503599627370496) (by omega)
      rw [show ((F + 4503599627370496 : Nat) : Int) = (F : Int) + 4503599627370496 by omega] at this
      exact this)
    rw [if_neg hq, show (((Q - 1 : Nat) : Int) - 1074) = (Q : Int) - 1 - 1074 by omega]
    have HQ := Lib.hid hq
    clear hq
    go_enter Try.func82, Try.ntmps82
    go_wp2_with fail
    refine (hS.out _).mono ?_
    rintro en w1 ⟨_, rfl, ⟨A, rfl, hR⟩, hb⟩
    have HB := Lib.hid ((DB.new w false (.slice none 0 0) 0).later hb)
    have HW := Lib.hid (raft HB0.out hb)
    have HT := Lib.hid (show IsT (F + 4503599627370496) _ w1 from ⟨A, rfl, hR⟩)
    obtain ⟨b0, b1, b2, f0, f1, f2⟩ := HB.out.cells
    have hz := HB.out.lt
    clear hR hb
    go_wp2
    refine bodyPost_ret (v := .agg #[.bool sg, .slice A (dig (F + 4503599627370496)).length (dig (F + 4503599627370496)).length, .int .i64 ((Q : Int) - 1 - 1074)]) (by simp [results, Try.results82, go_sem, b0, b1, b2, hz]) rfl ?_
    have k1 := HT.out.put HB.out rfl 0 (.bool sg)
    have k2 := k1.put (HB.out.set0 sg) rfl 1 (.slice A (dig (F + 4503599627370496)).length (dig (F + 4503599627370496)).length)
    have k3 := k2.put ((HB.out.set0 sg).set1 _) rfl 2 (.int .i64 ((Q : Int) - 1 - 1074))
    exact ⟨_, rfl, ⟨_, rfl, k3⟩, ((HW.out.setCell (Nat.le_refl _) _).setCell (Nat.le_refl _) _).setCell (Nat.le_refl _) _⟩
end Go.Proofs.Ytmmbbkeefphaiaa

/- Layer 3: the sum of two dyadic numbers. -/
namespace Go.Proofs.Ytmmbbkeefphaiaa
set_option linter.unusedVariables false
set_option linter.unusedSimpArgs false
open Go.RowKit Verge

theorem dval_zero (s : Bool) (e : Int) : dval s 0 e = 0 := by unfold dval; rw [Nat.zero_mul]; cases s <;> rfl
theorem dval_shift (s : Bool) (n : Nat) {e1 e2 : Int} (h0 : -1074 ≤ e1) (h : e1 ≤ e2) : dval s (n * 2 ^ (e2 - e1).toNat) e1 = dval s n e2 := by
  unfold dval
  rw [Nat.mul_assoc, ← Nat.pow_add, show (e2 - e1).toNat + (e1 + 1074).toNat = (e2 + 1074).toNat by omega]
theorem dval_add (s : Bool) (n m : Nat) (e : Int) : dval s (n + m) e = dval s n e + dval s m e := by
  unfold dval
  rw [Nat.add_mul]
  cases s
  · simp
  · simp only [if_true]; omega
theorem dval_sub (s : Bool) (n m : Nat) (e : Int) (h : m ≤ n) : dval s (n - m) e = dval s n e + dval (!s) m e := by
  unfold dval
  have h1 : m * 2 ^ (e + 1074).toNat ≤ n * 2 ^ (e + 1074).toNat := Nat.mul_le_mul_right _ h
  rw [Nat.sub_mul]
  cases s
  · simp only [Bool.not_false, if_true, Bool.false_eq_true, if_false]; omega
  · simp only [Bool.not_true, if_true, Bool.false_eq_true, if_false]; omega
theorem blen_mono {n m : Nat} (h : n ≤ m) : blen n ≤ blen m := (blen_lt _ _).2 (Nat.lt_of_le_of_lt h ((blen_lt _ _).1 (Nat.le_refl _)))
theorem blen_shift (n k : Nat) : blen (n * 2 ^ k) ≤ blen n + k := by
  rw [blen_lt, Nat.pow_add]
  exact (Nat.mul_lt_mul_right (Nat.two_pow_pos k)).2 ((blen_lt _ _).1 (Nat.le_refl _))
theorem blen_sum (n m k : Nat) (h1 : blen n ≤ k) (h2 : blen m ≤ k) : blen (n + m) ≤ k + 1 := by
  rw [blen_lt] at *
  rw [Nat.pow_succ]; omega
theorem dig_len_zero (n : Nat) : (((dig n).length : Int) == 0) = decide (n = 0) := by
  by_cases h : n = 0
  · subst h; rw [dig_zero]; rfl
  · have := dig_length_pos h
    rw [decide_eq_false h]; simp; exact fun hh => by rw [hh] at this; simp at this

/-- What sum answers. -/
def SumP (z : Int) (r : Value) (w : World) : Prop := ∃ s n e, IsD s n e r w ∧ -1074 ≤ e ∧ e ≤ 971 ∧ blen n ≤ 2200 ∧ dval s n e = z

/-- The three boxes of sum. -/
def St (w wx : World) (s1 : Bool) (A : Option Addr) (p : Nat) (x1 : Int) (s2 : Bool) (B : Option Addr) (q : Nat) (x2 : Int) : Prop :=
  DB wx w.heap.size s1 (.slice A p p) x1 ∧ DB wx (w.heap.size + 1) s2 (.slice B q q) x2 ∧ DB wx (w.heap.size + 1 + 1) false (.slice none 0 0) 0 ∧ Below w.heap.size w wx
def R7 (w wx : World) (Z : Int) : Prop := ∃ s1 A p n1 x1 s2 B q n2 x2, St w wx s1 A p x1 s2 B q x2 ∧ Hid (IsT n1 (.slice A p p) wx ∧ IsT n2 (.slice B q q) wx ∧
  -1074 ≤ x1 ∧ x1 ≤ 971 ∧ x1 ≤ x2 ∧ x2 ≤ 971 ∧ blen n1 ≤ 53 ∧ blen n2 ≤ 53 ∧ dval s1 n1 x1 + dval s2 n2 x2 = Z)
def R8 (w wx : World) (Z : Int) : Prop := ∃ s1 A p n1 x1 s2 B q n2 x2, St w wx s1 A p x1 s2 B q x2 ∧ Hid (IsT n1 (.slice A p p) wx ∧ IsT n2 (.slice B q q) wx ∧
  -1074 ≤ x1 ∧ x1 ≤ 971 ∧ blen n1 ≤ 2100 ∧ blen n2 ≤ 2100 ∧ dval s1 n1 x1 + dval s2 n2 x1 = Z)
/-- The lesser stands behind, and its sign is other. -/
def R9 (w wx : World) (Z : Int) : Prop := ∃ s1 A p n1 x1 s2 B q n2 x2, St w wx s1 A p x1 s2 B q x2 ∧ Hid (IsT n1 (.slice A p p) wx ∧ IsT n2 (.slice B q q) wx ∧
  -1074 ≤ x1 ∧ x1 ≤ 971 ∧ blen n1 ≤ 2100 ∧ n2 ≤ n1 ∧ dval s1 (n1 - n2) x1 = Z)
theorem St.facts {w wx : World} {s1 s2 : Bool} {A B : Option Addr} {p q : Nat} {x1 x2 : Int} (h : St w wx s1 A p x1 s2 B q x2) :
    (wx.cell? ⟨w.heap.size, 0, none⟩ = some (.bool s1) ∧ wx.cell? ⟨w.heap.size, 1, none⟩ = some (.slice A p p) ∧ wx.cell? ⟨w.heap.size, 2, none⟩ = some (.int .i64 x1) ∧
      wx.frozen? ⟨w.heap.size, 0, none⟩ = false ∧ wx.frozen? ⟨w.heap.size, 1, none⟩ = false ∧ wx.frozen? ⟨w.heap.size, 2, none⟩ = false) ∧
    (wx.cell? ⟨w.heap.size + 1, 0, none⟩ = some (.bool s2) ∧ wx.cell? ⟨w.heap.size + 1, 1, none⟩ = some (.slice B q q) ∧ wx.cell? ⟨w.heap.size + 1, 2, none⟩ = some (.int .i64 x2) ∧
      wx.frozen? ⟨w.heap.size + 1, 0, none⟩ = false ∧ wx.frozen? ⟨w.heap.size + 1, 1, none⟩ = false ∧ wx.frozen? ⟨w.heap.size + 1, 2, none⟩ = false) ∧
    (wx.cell? ⟨w.heap.size + 1 + 1, 0, none⟩ = some (.bool false) ∧ wx.cell? ⟨w.heap.size + 1 + 1, 1, none⟩ = some (.slice none 0 0) ∧ wx.cell? ⟨w.heap.size + 1 + 1, 2, none⟩ = some (.int .i64 0) ∧
      wx.frozen? ⟨w.heap.size + 1 + 1, 0, none⟩ = false ∧ wx.frozen? ⟨w.heap.size + 1 + 1, 1, none⟩ = false ∧ wx.frozen? ⟨w.heap.size + 1 + 1, 2, none⟩ = false) ∧ w.heap.size + 1 + 1 < wx.heap.size :=
  ⟨h.1.cells, h.2.1.cells, h.2.2.1.cells, h.2.2.1.lt⟩
theorem St.later {w wx wy : World} {s1 s2 : Bool} {A B : Option Addr} {p q : Nat} {x1 x2 : Int} (h : St w wx s1 A p x1 s2 B q x2) (hb : Below wx.heap.size wx wy) : St w wy s1 A p x1 s2 B q x2 :=
  ⟨h.1.later hb, h.2.1.later hb, h.2.2.1.later hb, h.2.2.2.trans (hb.mono h.2.2.2.size)⟩
theorem St.a2 {w wx : World} {s1 s2 : Bool} {A B : Option Addr} {p q : Nat} {x1 x2 : Int} (h : St w wx s1 A p x1 s2 B q x2) (C : Option Addr) (r : Nat) : St w (wx.setCell ⟨w.heap.size + 1, 1, none⟩ (.slice C r r)) s1 A p x1 s2 C r x2 :=
  ⟨h.1.far (by omega), h.2.1.set1 _, h.2.2.1.far (by omega), h.2.2.2.setCell (Nat.le_succ _) _⟩
theorem St.a1 {w wx : World} {s1 s2 : Bool} {A B : Option Addr} {p q : Nat} {x1 x2 : Int} (h : St w wx s1 A p x1 s2 B q x2) (C : Option Addr) (r : Nat) : St w (wx.setCell ⟨w.heap.size, 1, none⟩ (.slice C r r)) s1 C r x1 s2 B q x2 :=
  ⟨h.1.set1 _, h.2.1.far (by omega), h.2.2.1.far (by omega), h.2.2.2.setCell (Nat.le_refl _) _⟩
theorem St.b1 {w wx : World} {s1 s2 : Bool} {A B : Option Addr} {p q : Nat} {x1 x2 : Int} (h : St w wx s1 A p x1 s2 B q x2) (s : Bool) : St w (wx.setCell ⟨w.heap.size, 0, none⟩ (.bool s)) s A p x1 s2 B q x2 :=
  ⟨h.1.set0 _, h.2.1.far (by omega), h.2.2.1.far (by omega), h.2.2.2.setCell (Nat.le_refl _) _⟩
theorem St.fin {w wx : World} {s1 s2 : Bool} {A B : Option Addr} {p q : Nat} {x1 x2 : Int} (h : St w wx s1 A p x1 s2 B q x2) {n : Nat} {v : Value} (hv : IsT n v wx) (s : Bool) (C : Option Addr) (r : Nat) (x : Int) :
    IsT n v (((wx.setCell ⟨w.heap.size + 1 + 1, 0, none⟩ (.bool s)).setCell ⟨w.heap.size + 1 + 1, 1, none⟩ (.slice C r r)).setCell ⟨w.heap.size + 1 + 1, 2, none⟩ (.int .i64 x)) ∧
    Below w.heap.size w (((wx.setCell ⟨w.heap.size + 1 + 1, 0, none⟩ (.bool s)).setCell ⟨w.heap.size + 1 + 1, 1, none⟩ (.slice C r r)).setCell ⟨w.heap.size + 1 + 1, 2, none⟩ (.int .i64 x)) :=
  ⟨((hv.put h.2.2.1 rfl 0 _).put (h.2.2.1.set0 s) rfl 1 _).put ((h.2.2.1.set0 s).set1 _) rfl 2 _, ((h.2.2.2.setCell (show w.heap.size ≤ w.heap.size + 1 + 1 by omega) _).setCell (show w.heap.size ≤ w.heap.size + 1 + 1 by omega) _).setCell (show w.heap.size ≤ w.heap.size + 1 + 1 by omega) _⟩
theorem St.new (w : World) (s1 s2 : Bool) (A B : Option Addr) (p q : Nat) (x1 x2 : Int) : St w (((w.alloc (dyO s1 (.slice A p p) x1)).alloc (dyO s2 (.slice B q q) x2)).alloc (dyO false (.slice none 0 0) 0)) s1 A p x1 s2 B q x2 := by
  refine ⟨((DB.new w s1 _ x1).alloc _).alloc _, ?_, ?_, raft (raft (rnew w _) (rnew _ _)) (rnew _ _)⟩
  · have := (DB.new (w.alloc (dyO s1 (.slice A p p) x1)) s2 (.slice B q q) x2).alloc (dyO false (.slice none 0 0) 0)
    rwa [show (w.alloc (dyO s1 (.slice A p p) x1)).heap.size = w.heap.size + 1 from Array.size_push ..] at this
  · have := DB.new ((w.alloc (dyO s1 (.slice A p p) x1)).alloc (dyO s2 (.slice B q q) x2)) false (.slice none 0 0) 0
    rwa [show ((w.alloc (dyO s1 (.slice A p p) x1)).alloc (dyO s2 (.slice B q q) x2)).heap.size = w.heap.size + 1 + 1 by
      show ((w.heap.push _).push _).size = _
      simp] at this

set_option maxHeartbeats 4000000 in
theorem sum_is {n1 n2 : Nat} {s1 s2 : Bool} {e1 e2 : Int} {v u : Value} {w : World} (hx : IsD s1 n1 e1 v w) (hy : IsD s2 n2 e2 u w) (b1 : blen n1 ≤ 53) (b2 : blen n2 ≤ 53) (l1 : -1074 ≤ e1) (l2 : -1074 ≤ e2) (g1 : e1 ≤ 971) (g2 : e2 ≤ 971) :
    Calls Try.prog 81 #[v, u] w (Ans w (SumP (dval s1 n1 e1 + dval s2 n2 e2))) := by
  obtain ⟨_, rfl, A, rfl, hR⟩ := hx
  obtain ⟨_, rfl, B, rfl, hS⟩ := hy
  have hT1 : IsT n1 (.slice A (dig n1).length (dig n1).length) w := ⟨A, rfl, hR⟩
  have hT2 : IsT n2 (.slice B (dig n2).length (dig n2).length) w := ⟨B, rfl, hS⟩
  obtain ⟨Z, hZ⟩ : ∃ Z, dval s1 n1 e1 + dval s2 n2 e2 = Z := ⟨_, rfl⟩
  rw [hZ]
  have z1 := dig_len_zero n1
  have z2 := dig_len_zero n2
  obtain ⟨p1, hp1⟩ : ∃ p, (dig n1).length = p := ⟨_, rfl⟩
  obtain ⟨p2, hp2⟩ : ∃ p, (dig n2).length = p := ⟨_, rfl⟩
  rw [hp1] at z1 hT1 ⊢
  rw [hp2] at z2 hT2 ⊢
  have HZ := Lib.hid hZ
  have HT1 := Lib.hid hT1; have HT2 := Lib.hid hT2
  have B1 := Lib.hid b1; have B2 := Lib.hid b2
  have HP1 := Lib.hid hp1; have HP2 := Lib.hid hp2
  have HW := Lib.hid (fun o1 o2 o3 => raft (raft (rnew w o1) (rnew _ o2)) (rnew _ o3))
  have HL := Lib.hid (And.intro l1 (And.intro l2 (And.intro g1 g2)))
  clear hZ hR hS b1 b2 hp1 hp2 hT1 hT2
  go_enter Try.func81, Try.ntmps81
  go_upto_block 0 with fail
  go_cut [5] from 5 to 24 (fun s5 wx => R7 w wx Z)
  case first =>
    by_cases c1 : n1 = 0
    · rw [decide_eq_true c1] at z1
      have C1 := Lib.hid c1
      clear c1
      go_wp2_with fail
      refine bodyPost_ret (v := .agg #[.bool s2, .slice B p2 p2, .int .i64 e2]) (by simp [results, Try.results81, go_sem]) rfl ?_
      refine ⟨_, rfl, ⟨s2, n2, e2, ⟨_, rfl, IsT.mono n2 _ _ _ (HW.out _ _ _) HT2.out⟩, l2, g2, Nat.le_trans B2.out (by omega), ?_⟩, HW.out _ _ _⟩
      rw [← HZ.out, C1.out, dval_zero, Int.zero_add]
    · rw [decide_eq_false c1] at z1
      have C1 := Lib.hid c1
      clear c1
      by_cases c2 : n2 = 0
      · rw [decide_eq_true c2] at z2
        have C2 := Lib.hid c2
        clear c2
        go_wp2_with fail
        refine bodyPost_ret (v := .agg #[.bool s1, .slice A p1 p1, .int .i64 e1]) (by simp [results, Try.results81, go_sem]) rfl ?_
        refine ⟨_, rfl, ⟨s1, n1, e1, ⟨_, rfl, IsT.mono n1 _ _ _ (HW.out _ _ _) HT1.out⟩, l1, g1, Nat.le_trans B1.out (by omega), ?_⟩, HW.out _ _ _⟩
        rw [← HZ.out, C2.out, dval_zero, Int.add_zero]
      · rw [decide_eq_false c2] at z2
        have C2 := Lib.hid c2
        clear c2
        by_cases c3 : e2 < e1
        · have c4 : decide (e2 < e1) = true := decide_eq_true c3
          go_wp2_with fail
          go_meet
          case rel => exact ⟨s2, B, p2, n2, e2, s1, A, p1, n1, e1, St.new w s2 s1 B A p2 p1 e2 e1, Lib.hid ⟨IsT.mono n2 _ _ _ (HW.out _ _ _) HT2.out, IsT.mono n1 _ _ _ (HW.out _ _ _) HT1.out, l2, g2, by omega, g1, B2.out, B1.out, by rw [← HZ.out, Int.add_comm]⟩⟩
        · have c4 : decide (e2 < e1) = false := decide_eq_false c3
          go_wp2_with fail
          go_meet
          case rel => exact ⟨s1, A, p1, n1, e1, s2, B, p2, n2, e2, St.new w s1 s2 A B p1 p2 e1 e2, Lib.hid ⟨IsT.mono n1 _ _ _ (HW.out _ _ _) HT1.out, IsT.mono n2 _ _ _ (HW.out _ _ _) HT2.out, l1, g1, by omega, g2, B1.out, B2.out, HZ.out⟩⟩
  case rest =>
    clear HT1 HT2 B1 B2 HP1 HP2 HW HL HZ z1 z2 l1 l2 g1 g2
    obtain ⟨t1, A1, q1, m1, x1, t2, A2, q2, m2, x2, hSt, hH⟩ := hcut
    have HSt := Lib.hid hSt
    have l1 := hH.out.2.2.1; have g1 := hH.out.2.2.2.1; have hxx := hH.out.2.2.2.2.1; have g2 := hH.out.2.2.2.2.2.1
    have hSl : Hid (∀ i : Int, i = x2 - x1 → Calls Try.prog 102 #[.slice A2 q2 q2, .int .i64 i] wc (Ans wc (Is2 (IsT (m2 * 2 ^ (x2 - x1).toNat)) (IsV (.int .i64 0))))) := Lib.hid (fun i hi => by
      have h1 : i = ((x2 - x1).toNat : Int) := by omega
      rw [h1]
      exact nshl_is _ hH.out.2.1 (by have := hH.out.2.2.2.2.2.2.2.1; omega))
    clear hSt
    go_upto_region 7 with fail
    go_cut [25] from 25 to 36 (fun s25 wx => R8 w wx Z)
    case first =>
      obtain ⟨⟨b0, b1, b2, b3, b4, b5⟩, ⟨c0, c1, c2, c3, c4, c5⟩, ⟨d0, d1, d2, d3, d4, d5⟩, hz⟩ := HSt.out.facts
      go_wp2_with fail
      refine (hSl.out _ rfl).mono ?_
      rintro en w2 ⟨_, rfl, ⟨_, _, rfl, ⟨C, rfl, hR⟩, rfl⟩, hb⟩
      clear b0 b1 b2 b3 b4 b5 c0 c1 c2 c3 c4 c5 d0 d1 d2 d3 d4 d5 hz
      have HS2 := Lib.hid (HSt.out.later hb)
      have HC := Lib.hid (show IsT (m2 * 2 ^ (x2 - x1).toNat) _ w2 from ⟨C, rfl, hR⟩)
      have HT1 := Lib.hid (IsT.mono m1 _ _ _ hb hH.out.1)
      obtain ⟨⟨b0, b1, b2, b3, b4, b5⟩, ⟨c0, c1, c2, c3, c4, c5⟩, ⟨d0, d1, d2, d3, d4, d5⟩, hz⟩ := HS2.out.facts
      clear hR hb
      go_wp2_with fail
      go_meet
      case rel => exact ⟨t1, A1, q1, m1, x1, t2, C, _, m2 * 2 ^ (x2 - x1).toNat, x2, HS2.out.a2 C _, Lib.hid ⟨HT1.out.put HS2.out.2.1 rfl 1 _, HC.out.put HS2.out.2.1 rfl 1 _, l1, g1,
        Nat.le_trans hH.out.2.2.2.2.2.2.1 (by omega), Nat.le_trans (blen_shift _ _) (by have := hH.out.2.2.2.2.2.2.2.1; omega), by rw [dval_shift t2 m2 l1 hxx]; exact hH.out.2.2.2.2.2.2.2.2⟩⟩
    case rest =>
      clear hSl HSt hH hxx l1 g1 g2
      obtain ⟨t1, A1, q1, m1, x1, t2, A2, q2, m2, x2, hSt, hH⟩ := hcut
      have HSt := Lib.hid hSt
      have l1 := hH.out.2.2.1; have g1 := hH.out.2.2.2.1
      clear hSt
      by_cases ht : t1 = t2
      · have hAd : Hid (Calls Try.prog 103 #[.slice A1 q1 q1, .slice A2 q2 q2] wc (Ans wc (Is2 (IsT (m1 + m2)) (IsV (.int .i64 0))))) :=
          Lib.hid (nadd_is hH.out.1 hH.out.2.1 (by have := blen_sum m1 m2 2100 hH.out.2.2.2.2.1 hH.out.2.2.2.2.2.1; omega))
        have ht1 : (t1 == t2) = true := by simp [ht]
        have HT := Lib.hid ht
        clear ht
        obtain ⟨⟨b0, b1, b2, b3, b4, b5⟩, ⟨c0, c1, c2, c3, c4, c5⟩, ⟨d0, d1, d2, d3, d4, d5⟩, hz⟩ := HSt.out.facts
        go_wp2_with fail
        refine (hAd.out).mono ?_
        rintro en w2 ⟨_, rfl, ⟨_, _, rfl, ⟨C, rfl, hR⟩, rfl⟩, hb⟩
        clear b0 b1 b2 b3 b4 b5 c0 c1 c2 c3 c4 c5 d0 d1 d2 d3 d4 d5 hz
        have HS2 := Lib.hid (HSt.out.later hb)
        have HC := Lib.hid (show IsT (m1 + m2) _ w2 from ⟨C, rfl, hR⟩)
        obtain ⟨⟨b0, b1, b2, b3, b4, b5⟩, ⟨c0, c1, c2, c3, c4, c5⟩, ⟨d0, d1, d2, d3, d4, d5⟩, hz⟩ := HS2.out.facts
        clear hR hb
        go_wp2_with fail
        refine bodyPost_ret (v := .agg #[.bool t1, .slice C (dig (m1 + m2)).length (dig (m1 + m2)).length, .int .i64 x1]) (by simp [results, Try.results81, go_sem, d0, d1, d2, hz]) rfl ?_
        have hf := (HS2.out.a1 C (dig (m1 + m2)).length).fin (HC.out.put HS2.out.1 rfl 1 _) t1 C (dig (m1 + m2)).length x1
        exact ⟨_, rfl, ⟨t1, m1 + m2, x1, ⟨_, rfl, hf.1⟩, l1, g1, Nat.le_trans (blen_sum m1 m2 2100 hH.out.2.2.2.2.1 hH.out.2.2.2.2.2.1) (by omega), by rw [dval_add]; have := hH.out.2.2.2.2.2.2; rw [← HT.out] at this; exact this⟩, hf.2⟩
      · have ht1 : (t1 == t2) = false := by simp [ht]
        have ht2 : t2 = !t1 := by revert ht; cases t1 <;> cases t2 <;> simp
        have HT := Lib.hid ht2
        clear ht ht2
        have hCm : Hid (Calls Try.prog 104 #[.slice A1 q1 q1, .slice A2 q2 q2] wc (Ans wc (IsV (.int .i64 (cmp m1 m2))))) :=
          Lib.hid (ncmp_is hH.out.1 hH.out.2.1 (by have := hH.out.2.2.2.2.1; omega) (by have := hH.out.2.2.2.2.2.1; omega))
        obtain ⟨cm, hcm⟩ : ∃ c, cmp m1 m2 = c := ⟨_, rfl⟩
        have hcm2 : decide (cm < 0) = decide (m1 < m2) := by
          rw [← hcm]; unfold cmp
          by_cases h : m1 < m2
          · rw [if_pos h]; simp [h]
          · rw [if_neg h]; by_cases h' : m2 < m1 <;> simp [h, h']
        rw [hcm] at hCm
        obtain ⟨⟨b0, b1, b2, b3, b4, b5⟩, ⟨c0, c1, c2, c3, c4, c5⟩, ⟨d0, d1, d2, d3, d4, d5⟩, hz⟩ := HSt.out.facts
        clear hcm
        go_wp2_with fail
        refine (hCm.out).mono ?_
        rintro en w2 ⟨_, rfl, rfl, hb⟩
        clear b0 b1 b2 b3 b4 b5 c0 c1 c2 c3 c4 c5 d0 d1 d2 d3 d4 d5 hz
        have HS2 := Lib.hid (HSt.out.later hb)
        have HT1 := Lib.hid (IsT.mono m1 _ _ _ hb hH.out.1)
        have HT2 := Lib.hid (IsT.mono m2 _ _ _ hb hH.out.2.1)
        obtain ⟨⟨b0, b1, b2, b3, b4, b5⟩, ⟨c0, c1, c2, c3, c4, c5⟩, ⟨d0, d1, d2, d3, d4, d5⟩, hz⟩ := HS2.out.facts
        clear hb
        go_upto_if 57 with fail
        go_cut [58] from 57 to 66 (fun s58 wx => R9 w wx Z)
        case first =>
          by_cases hc : m1 < m2
          · rw [decide_eq_true hc] at hcm2
            have Hc := Lib.hid hc
            clear hc
            go_wp2_with fail
            go_meet
            case rel =>
              have k := HS2.out.b1 t2
              have k' := k.a1 A2 q2
              exact ⟨t2, A2, q2, m2, x1, t2, A1, q1, m1, x2, k'.a2 A1 q1, Lib.hid ⟨((HT2.out.put HS2.out.1 rfl 0 _).put k.1 rfl 1 _).put k'.2.1 rfl 1 _, ((HT1.out.put HS2.out.1 rfl 0 _).put k.1 rfl 1 _).put k'.2.1 rfl 1 _,
                l1, g1, hH.out.2.2.2.2.2.1, Nat.le_of_lt Hc.out, by
                  rw [dval_sub _ _ _ _ (Nat.le_of_lt Hc.out)]
                  have := hH.out.2.2.2.2.2.2
                  rw [HT.out, Bool.not_not, Int.add_comm, ← HT.out]; exact this⟩⟩
          · rw [decide_eq_false hc] at hcm2
            have Hc := Lib.hid hc
            clear hc
            go_wp2_with fail
            go_meet
            case rel => exact ⟨t1, A1, q1, m1, x1, t2, A2, q2, m2, x2, HS2.out, Lib.hid ⟨HT1.out, HT2.out, l1, g1, hH.out.2.2.2.2.1, Nat.le_of_not_lt Hc.out, by
                  rw [dval_sub _ _ _ _ (Nat.le_of_not_lt Hc.out), ← HT.out]
                  exact hH.out.2.2.2.2.2.2⟩⟩
        case rest =>
          clear HS2 HT1 HT2 hH HSt HT hCm hcm2 l1 g1 b0 b1 b2 b3 b4 b5 c0 c1 c2 c3 c4 c5 d0 d1 d2 d3 d4 d5 hz
          obtain ⟨t1, A1, q1, m1, x1, t2, A2, q2, m2, x2, hSt, hH⟩ := hcut
          have HSt := Lib.hid hSt
          have hSb := Lib.hid (nsub_is hH.out.1 hH.out.2.1 (by have := hH.out.2.2.2.2.1; omega) hH.out.2.2.2.2.2.1)
          obtain ⟨⟨b0, b1, b2, b3, b4, b5⟩, ⟨c0, c1, c2, c3, c4, c5⟩, ⟨d0, d1, d2, d3, d4, d5⟩, hz⟩ := HSt.out.facts
          clear hSt
          go_wp2_with fail
          refine (hSb.out).mono ?_
          rintro en w2 ⟨_, rfl, ⟨_, _, rfl, ⟨C, rfl, hR⟩, rfl⟩, hb⟩
          clear b0 b1 b2 b3 b4 b5 c0 c1 c2 c3 c4 c5 d0 d1 d2 d3 d4 d5 hz
          have HS2 := Lib.hid (HSt.out.later hb)
          have HC := Lib.hid (show IsT (m1 - m2) _ w2 from ⟨C, rfl, hR⟩)
          obtain ⟨⟨b0, b1, b2, b3, b4, b5⟩, ⟨c0, c1, c2, c3, c4, c5⟩, ⟨d0, d1, d2, d3, d4, d5⟩, hz⟩ := HS2.out.facts
          clear hR hb
          go_wp2_with fail
          refine bodyPost_ret (v := .agg #[.bool t1, .slice C (dig (m1 - m2)).length (dig (m1 - m2)).length, .int .i64 x1]) (by simp [results, Try.results81, go_sem, d0, d1, d2, hz]) rfl ?_
          have hf := (HS2.out.a1 C (dig (m1 - m2)).length).fin (HC.out.put HS2.out.1 rfl 1 _) t1 C (dig (m1 - m2)).length x1
          exact ⟨_, rfl, ⟨t1, m1 - m2, x1, ⟨_, rfl, hf.1⟩, hH.out.2.2.1, hH.out.2.2.2.1, Nat.le_trans (blen_mono (Nat.sub_le _ _)) (by have := hH.out.2.2.2.2.1; omega), hH.out.2.2.2.2.2.2⟩, hf.2⟩
end Go.Proofs.Ytmmbbkeefphaiaa

/- Layer 3: Add and Sub upward, on finite floats. -/
namespace Go.Proofs.Ytmmbbkeefphaiaa
set_option linter.unusedVariables false
set_option linter.unusedSimpArgs false
open Go.RowKit Verge

theorem to_is {n : Nat} {s : Bool} {e : Int} {v : Value} {w : World} (hx : IsD s n e v w) (h : blen n ≤ 400000) (h1 : -1074 ≤ e) (h2 : e ≤ 400000) (hl : n = 0 ∨ -1022 ≤ (blen n : Int) - 1 + e) :
    Calls Try.prog 83 #[v, .int .i64 1] w (Ans w (IsV (.float .f64 (upz (dval s n e))))) := by
  obtain ⟨_, rfl, A, rfl, hR⟩ := hx
  have hT : IsT n (.slice A (dig n).length (dig n).length) w := ⟨A, rfl, hR⟩
  have HO := Lib.hid (fun W (hW : IsT n (.slice A (dig n).length (dig n).length) W) => of_is (w := W) s e hW h h1 h2 hl)
  obtain ⟨p, hp⟩ : ∃ p, (dig n).length = p := ⟨_, rfl⟩
  obtain ⟨R, hR'⟩ : ∃ p, upz (dval s n e) = p := ⟨_, rfl⟩
  rw [hp] at HO hT ⊢
  rw [hR'] at HO ⊢
  have HB := Lib.hid (rnew w (dyO s (.slice A p p) e))
  have HT := Lib.hid (IsT.mono n _ _ _ HB.out hT)
  clear hR hT hp hR' h h1 h2 hl
  go_enter Try.func83, Try.ntmps83
  go_wp2_with fail
  refine (HO.out _ HT.out).mono ?_
  rintro en w2 ⟨_, rfl, rfl, hb⟩
  have HB2 := Lib.hid (raft HB.out hb)
  clear hb
  go_wp2
  go_ret
  exact ⟨_, rfl, rfl, HB2.out⟩

theorem part_blen (x : Nat) : blen (pS x) ≤ 53 := (blen_lt _ 53).2 (pS_lt x)
theorem part_exp {x : Nat} (h : ffin x) : -1074 ≤ pE x ∧ pE x ≤ 971 := by
  have := h.2
  unfold pE
  omega
/-- A sum of which a part is great is 0 or not small. -/
theorem sum_big {x y : Int} (fx : F x) (fy : F y) (K : Nat) (hK : 110 ≤ K) (h : MB K ≤ x.natAbs) : x + y = 0 ∨ 4503599627370496 ≤ (x + y).natAbs := by
  have hK' : MB 110 ≤ MB K := by unfold MB; exact Nat.mul_le_mul_left _ (Nat.pow_le_pow_right (by omega) hK)
  have h1 : MB 53 * 4 ≤ MB 110 := by decide
  have d1 := F_dvd fx (j := 53) (by
    show MB 53 ≤ _
    omega)
  rcases Nat.lt_or_ge y.natAbs (MB 53) with c | c
  · right
    have : 4503599627370496 ≤ MB 53 := by decide
    omega
  · have d2 := F_dvd fy (j := 53) c
    obtain ⟨a, ha⟩ := d1
    obtain ⟨b, hb⟩ := d2
    by_cases h0 : x + y = 0
    · exact .inl h0
    · right
      have hab : a + b ≠ 0 := by
        intro h'
        apply h0
        rw [ha, hb, ← Int.mul_add, h', Int.mul_zero]
      have e : (x + y).natAbs = 2 ^ 53 * (a + b).natAbs := by
        rw [ha, hb, ← Int.mul_add, Int.natAbs_mul, Int.natAbs_natCast]
      rw [e]
      have : 1 ≤ (a + b).natAbs := by omega
      have := Nat.mul_le_mul_left (2 ^ 53) this
      omega
theorem of_low {s : Bool} {n : Nat} {e : Int} (he : -1074 ≤ e) (h : dval s n e = 0 ∨ 4503599627370496 ≤ (dval s n e).natAbs) : n = 0 ∨ -1022 ≤ (blen n : Int) - 1 + e := by
  have ha : (dval s n e).natAbs = n * 2 ^ (e + 1074).toNat := by
    by_cases hs : s = true
    · unfold dval; rw [if_pos hs, Int.natAbs_neg, Int.natAbs_natCast]
    · unfold dval; rw [if_neg hs, Int.natAbs_natCast]
  rcases h with h | h
  · rw [h] at ha
    rcases Nat.mul_eq_zero.1 ha.symm with h0 | h0
    · exact .inl h0
    · have := Nat.two_pow_pos (e + 1074).toNat; omega
  · right
    rw [ha] at h
    have h1 : n * 2 ^ (e + 1074).toNat < 2 ^ (blen n + (e + 1074).toNat) := by
      rw [Nat.pow_add]
      exact (Nat.mul_lt_mul_right (Nat.two_pow_pos _)).2 ((blen_lt _ _).1 (Nat.le_refl _))
    have h2 : 2 ^ 52 < 2 ^ (blen n + (e + 1074).toNat) := Nat.lt_of_le_of_lt h h1
    have h3 := (Nat.pow_lt_pow_iff_right (a := 2) (by omega)).1 h2
    omega

/-- The frame at Add's label. -/
def AddJ (x y : Nat) (w : World) (a : Act) (w' : World) : Prop := (∃ u3 u4 u5 u6 u7 u8 u9 u10 u11 u12 u13 u14 u15 u16 u17 u18 u19 u20 u21 u22 u23 u24 u25 u26 u27 u28 u29 u30 u31 u32 u33 u34 u35 u36 u37 u38 u39 u40 u41 u42 u43 u44 u45 u46 u47 u48 u49 u50, a = { tmps := #[.int .i64 1, .float .f64 x, .float .f64 y, u3, u4, u5, u6, u7, u8, u9, u10, u11, u12, u13, u14, u15, u16, u17, u18, u19, u20, u21, u22, u23, u24, u25, u26, u27, u28, u29, u30, u31, u32, u33, u34, u35, u36, u37, u38, u39, u40, u41, u42, u43, u44, u45, u46, u47, u48, u49, u50], defers := [] }) ∧ Below w.heap.size w w'

set_option maxHeartbeats 2000000 in
theorem add_exact (x y : Nat) (hx : ffin x) (hy : ffin y) (hg : 8660422083433463808 < fabs x ∨ 8660422083433463808 < fabs y) (w : World) :
    Calls Try.prog 39 #[.int .i64 1, .float .f64 x, .float .f64 y] w (Ans w (IsV (.float .f64 (upz (fv x + fv y))))) := by
  have hbig : fv x + fv y = 0 ∨ 4503599627370496 ≤ (fv x + fv y).natAbs := by
    have key : ∀ a : Nat, 8660422083433463808 < fabs a → MB 1922 ≤ (fv a).natAbs := by
      intro a ha
      obtain ⟨K, hK⟩ : ∃ K : Nat, K = 1922 := ⟨_, rfl⟩
      rw [← hK, MB_rung, fv_abs]
      exact FV_mono (by have : fabs a = a % 9223372036854775808 := rfl; omega)
    rcases hg with hg | hg
    · exact sum_big (fv_F x) (fv_F y) 1922 (by omega) (key x hg)
    · rw [Int.add_comm]; exact sum_big (fv_F y) (fv_F x) 1922 (by omega) (key y hg)
  obtain ⟨s, hs⟩ : ∃ s, Ieee.double.add x y = some s := by
    rw [add_fin hx hy]; exact ⟨_, rfl⟩
  have HP1 := Lib.hid (fun W => part_is x hx W)
  have HP2 := Lib.hid (fun W => part_is y hy W)
  have HS : Hid (∀ (v u : Value) (W : World), IsD (decide (9223372036854775808 ≤ x)) (pS x) (pE x) v W → IsD (decide (9223372036854775808 ≤ y)) (pS y) (pE y) u W → Calls Try.prog 81 #[v, u] W (Ans W (SumP (fv x + fv y)))) := Lib.hid (fun v u W h1 h2 => by
    have := sum_is h1 h2 (part_blen x) (part_blen y) (part_exp hx).1 (part_exp hy).1 (part_exp hx).2 (part_exp hy).2
    rw [dval_part, dval_part] at this
    exact this)
  have HT : Hid (∀ (v : Value) (W : World), SumP (fv x + fv y) v W → Calls Try.prog 83 #[v, .int .i64 1] W (Ans W (IsV (.float .f64 (upz (fv x + fv y)))))) := Lib.hid (fun v W h => by
    obtain ⟨s, n, e, hD, h1, h2, h3, h4⟩ := h
    rw [← h4]
    exact to_is hD (by omega) h1 (by omega) (of_low h1 (by rw [h4]; exact hbig)))
  have a1 : ∀ t w, (binOp .add t (.float .f64 x) (.float .f64 y)).run Try.prog w = .ok (.float .f64 s) w := fun t w => run_float_arith w .add t .f64 x y s hs
  have HO := Lib.hid (fun b W h0 h1 => odd_any b x y hx.1 hy.1 W h0 h1)
  have hox : (fodd x || fodd y) = false := by
    unfold fodd
    rw [decide_eq_false (by have := hx.2; unfold fabs; omega), decide_eq_false (by have := hy.2; unfold fabs; omega)]; rfl
  rw [hox] at HO
  have HA := Lib.hid (fun W => abs_any x hx.1 W)
  have HA2 := Lib.hid (fun W => abs_any y hy.1 W)
  have g1 := gt_great hx
  have g2 := gt_great hy
  obtain ⟨Z, hZ⟩ : ∃ Z, fv x + fv y = Z := ⟨_, rfl⟩
  rw [hZ] at HS HT ⊢
  obtain ⟨R, hR⟩ : ∃ R, upz Z = R := ⟨_, rfl⟩
  rw [hR] at HT ⊢
  obtain ⟨sx, hsx⟩ : ∃ s, decide (9223372036854775808 ≤ x) = s := ⟨_, rfl⟩
  obtain ⟨sy, hsy⟩ : ∃ s, decide (9223372036854775808 ≤ y) = s := ⟨_, rfl⟩
  rw [hsx] at HP1 HS
  rw [hsy] at HP2 HS
  obtain ⟨ax, hax⟩ : ∃ R, fabs x = R := ⟨_, rfl⟩
  obtain ⟨ay, hay⟩ : ∃ R, fabs y = R := ⟨_, rfl⟩
  simp only [hax, hay] at HA HA2 g1 g2 hg
  obtain ⟨d1, hd1⟩ : ∃ d, decide (8660422083433463808 < ax) = d := ⟨_, rfl⟩
  obtain ⟨d2, hd2⟩ : ∃ d, decide (8660422083433463808 < ay) = d := ⟨_, rfl⟩
  rw [hd1] at g1
  rw [hd2] at g2
  have hdd : d1 = true ∨ d1 = false ∧ d2 = true := by
    by_cases c : 8660422083433463808 < ax
    · rw [← hd1]; exact .inl (decide_eq_true c)
    · exact .inr ⟨by rw [← hd1]; exact decide_eq_false c, by rw [← hd2]; exact decide_eq_true (by omega)⟩
  have HB := Lib.hid (fun o => bnew w o)
  clear hR hZ hax hay hox hbig hs hg hx hy hsx hsy hd1 hd2
  go_enter Try.func39, Try.ntmps39
  go_wp2
  refine wp_scope_jumps 0 (AddJ x y w) (fun _ _ => 0) rfl ?_ ?_
  · go_wp2_with fail
    refine (HO.out _ _ (World.cell?_alloc_at _ _ _ 0 rfl) (World.cell?_alloc_at _ _ _ 1 rfl)).mono ?_
    rintro en w1 ⟨rfl, rfl⟩
    go_wp2_with fail
    refine (HA.out _).mono ?_
    rintro en w1 ⟨rfl, rfl⟩
    rcases hdd with rfl | ⟨rfl, rfl⟩
    · go_wp2_with fail
      apply wp_goto
      refine ⟨rfl, ⟨_, _, _, _, _, _, _, _, _, _, _, _, _, _, _, _, _, _, _, _, _, _, _, _, _, _, _, _, _, _, _, _, _, _, _, _, _, _, _, _, _, _, _, _, _, _, _, _, rfl⟩, HB.out _⟩
    · go_wp2_with fail
      refine (HA2.out _).mono ?_
      rintro en w1 ⟨rfl, rfl⟩
      go_wp2_with fail
      apply wp_goto
      refine ⟨rfl, ⟨_, _, _, _, _, _, _, _, _, _, _, _, _, _, _, _, _, _, _, _, _, _, _, _, _, _, _, _, _, _, _, _, _, _, _, _, _, _, _, _, _, _, _, _, _, _, _, _, rfl⟩, HB.out _⟩
  · rintro a' w' ⟨⟨u3, u4, u5, u6, u7, u8, u9, u10, u11, u12, u13, u14, u15, u16, u17, u18, u19, u20, u21, u22, u23, u24, u25, u26, u27, u28, u29, u30, u31, u32, u33, u34, u35, u36, u37, u38, u39, u40, u41, u42, u43, u44, u45, u46, u47, u48, u49, u50, rfl⟩, hb⟩
    have HB1 := Lib.hid hb
    clear hb
    go_wp2_with fail
    refine (HP1.out _).mono ?_
    rintro en w2 ⟨v1, rfl, h1, hb⟩
    have HB2 := Lib.hid (raft HB1.out hb)
    have H1 := Lib.hid h1
    clear hb h1
    go_wp2_with fail
    refine (HP2.out _).mono ?_
    rintro en w3 ⟨v2, rfl, h2, hb⟩
    have HB3 := Lib.hid (raft HB2.out hb)
    have H1' := Lib.hid (IsD.mono _ _ _ _ _ _ hb H1.out)
    have H2 := Lib.hid h2
    clear hb h2
    go_wp2_with fail
    refine (HS.out _ _ _ H1'.out H2.out).mono ?_
    rintro en w4 ⟨v3, rfl, h3, hb⟩
    have HB4 := Lib.hid (raft HB3.out hb)
    have H3 := Lib.hid h3
    clear hb h3
    go_wp2_with fail
    refine (HT.out _ _ H3.out).mono ?_
    rintro en w5 ⟨_, rfl, rfl, hb⟩
    have HB5 := Lib.hid (raft HB4.out hb)
    clear hb
    go_wp2_with fail
    change bodyPost _ _ _ Exit.ret _ _
    go_ret
    exact ⟨_, rfl, rfl, HB5.out⟩
end Go.Proofs.Ytmmbbkeefphaiaa

/- Layer 3: Add and Sub upward, whole: also with infinities that agree. -/
namespace Go.Proofs.Ytmmbbkeefphaiaa
set_option linter.unusedVariables false
set_option linter.unusedSimpArgs false
open Go.RowKit Verge

theorem add_fin_is (x y : Nat) (hx : ffin x) (hy : ffin y) (w : World) :
    Calls Try.prog 39 #[.int .i64 1, .float .f64 x, .float .f64 y] w (Ans w (IsV (.float .f64 (upz (fv x + fv y))))) := by
  by_cases hg : 8660422083433463808 < fabs x ∨ 8660422083433463808 < fabs y
  · exact add_exact x y hx hy hg w
  · exact ans_below (add_quick x y hx hy (by omega) (by omega) w)
/-- What holds of two parts of which one is +Inf, and none is -Inf. -/
def Infs (x y : Nat) : Prop := (x = 9218868437227405312 ∧ y < 18446744073709551616 ∧ ¬ fnan y ∧ y ≠ 18442240474082181120) ∨ (y = 9218868437227405312 ∧ x < 18446744073709551616 ∧ ¬ fnan x ∧ x ≠ 18442240474082181120)
theorem add_inf {x y : Nat} (h : Infs x y) : Ieee.double.add x y = some 9218868437227405312 := by
  have hi : Ieee.double.read 9218868437227405312 = .infinity false := by rw [read_inf (by omega) (by omega)]; rfl
  have key : ∀ y, y < 18446744073709551616 → ¬ fnan y → y ≠ 18442240474082181120 → Ieee.double.read y = .infinity false ∨ ∃ s m e, Ieee.double.read y = .number s m e := by
    intro y h1 h2 h3
    by_cases c : y % 9223372036854775808 < 9218868437227405312
    · obtain ⟨k, m, e, _⟩ := read_num h1 c
      exact .inr ⟨_, _, _, e⟩
    · have h4 : y % 9223372036854775808 = 9218868437227405312 := by unfold fnan at h2; omega
      rw [read_inf h1 h4, decide_eq_false (by omega)]
      exact .inl rfl
  unfold Ieee.Format.add
  rcases h with ⟨rfl, h1, h2, h3⟩ | ⟨rfl, h1, h2, h3⟩
  · rw [hi]
    rcases key y h1 h2 h3 with e | ⟨s, m, e', e⟩ <;> rw [e] <;> rfl
  · rw [hi]
    rcases key x h1 h2 h3 with e | ⟨s, m, e', e⟩ <;> rw [e] <;> rfl
theorem add_inf_is (x y : Nat) (h : Infs x y) (w : World) :
    Calls Try.prog 39 #[.int .i64 1, .float .f64 x, .float .f64 y] w (Ans w (IsV (.float .f64 9218868437227405312))) := by
  have hx : x < 18446744073709551616 := by rcases h with h | h <;> omega
  have hy : y < 18446744073709551616 := by rcases h with h | h <;> omega
  have a1 : ∀ t w, (binOp .add t (.float .f64 x) (.float .f64 y)).run Try.prog w = .ok (.float .f64 9218868437227405312) w := fun t w => run_float_arith w .add t .f64 x y _ (add_inf h)
  have HO := Lib.hid (fun b W h0 h1 => odd_any b x y hx hy W h0 h1)
  have hox : (fodd x || fodd y) = true := by
    unfold fodd
    rcases h with ⟨rfl, _⟩ | ⟨rfl, _⟩
    · rw [show decide (9218868437227405312 ≤ fabs 9218868437227405312) = true by decide, Bool.true_or]
    · rw [show decide (9218868437227405312 ≤ fabs 9218868437227405312) = true by decide, Bool.or_true]
  rw [hox] at HO
  have HB := Lib.hid (fun o => bnew w o)
  obtain ⟨I, hI⟩ : ∃ I, 9218868437227405312 = I := ⟨_, rfl⟩
  rw [hI] at a1 ⊢
  clear hox h hx hy hI
  go_enter Try.func39, Try.ntmps39
  go_wp2
  go_step3
  go_wp2_with fail
  refine (HO.out _ _ (World.cell?_alloc_at _ _ _ 0 rfl) (World.cell?_alloc_at _ _ _ 1 rfl)).mono ?_
  rintro en w1 ⟨rfl, rfl⟩
  go_wp2
  rw [Exit.noGoto_ret]
  go_ret
  exact ⟨_, rfl, rfl, HB.out _⟩

theorem fneg_fin {y : Nat} (h : ffin y) : ffin (fneg y) ∧ fv (fneg y) = -fv y := by
  obtain ⟨h1, h2⟩ := h
  refine ⟨⟨fneg_lt h1, by unfold fneg; split <;> omega⟩, ?_⟩
  unfold fneg fv
  by_cases c : 9223372036854775808 ≤ y
  · rw [if_pos c, if_pos c, if_neg (by omega), show (y - 9223372036854775808) % 9223372036854775808 = y % 9223372036854775808 by omega]; omega
  · rw [if_neg c, if_neg c, if_pos (by omega), show (y + 9223372036854775808) % 9223372036854775808 = y % 9223372036854775808 by omega]
/-- What Sub answers upward. -/
def fsub (x y : Nat) : Nat := if fabs x = 9218868437227405312 ∨ fabs y = 9218868437227405312 then 9218868437227405312 else upz (fv x - fv y)
/-- The parts of a difference: finite, or +Inf from less, or more than -Inf. -/
def SubOK (x y : Nat) : Prop := (ffin x ∧ ffin y) ∨ (x = 9218868437227405312 ∧ y < 18446744073709551616 ∧ ¬ fnan y ∧ y ≠ 9218868437227405312) ∨ (y = 18442240474082181120 ∧ x < 18446744073709551616 ∧ ¬ fnan x ∧ x ≠ 18442240474082181120)
theorem sub_is (x y : Nat) (h : SubOK x y) (w : World) : Calls Try.prog 74 #[.int .i64 1, .float .f64 x, .float .f64 y] w (Ans w (IsV (.float .f64 (fsub x y)))) := by
  have hy : y < 18446744073709551616 := by
    rcases h with h | h | h
    · exact h.2.1
    · omega
    · omega
  have HA : Hid (∀ W, Calls Try.prog 39 #[.int .i64 1, .float .f64 x, .float .f64 (fneg y)] W (Ans W (IsV (.float .f64 (fsub x y))))) := by
    refine Lib.hid (fun W => ?_)
    unfold fsub
    rcases h with ⟨h1, h2⟩ | ⟨rfl, h1, h2, h3⟩ | ⟨rfl, h1, h2, h3⟩
    · rw [if_neg (by have := h1.2; have := h2.2; unfold fabs; omega)]
      have e := fneg_fin h2
      rw [Int.sub_eq_add_neg, ← e.2]
      exact add_fin_is x (fneg y) h1 e.1 W
    · rw [if_pos (.inl (by decide))]
      exact add_inf_is _ _ (.inl ⟨rfl, fneg_lt h1, by unfold fnan fneg at *; split <;> omega, by unfold fneg; split <;> omega⟩) W
    · rw [if_pos (.inr (by decide))]
      exact add_inf_is _ _ (.inr ⟨by decide, h1, h2, h3⟩) W
  have hn : ∀ W : World, (Op.unary .neg (.float .f64 y)).run Try.prog W = .ok (.float .f64 (fneg y)) W := fun W => run_neg_f y hy W
  obtain ⟨R, hR⟩ : ∃ R, fsub x y = R := ⟨_, rfl⟩
  obtain ⟨z, hz⟩ : ∃ R, fneg y = R := ⟨_, rfl⟩
  rw [hR, hz] at HA
  rw [hR]
  rw [hz] at hn
  clear hR hz h hy
  go_enter Try.func74, Try.ntmps74
  go_wp2_with fail
  refine (HA.out _).mono ?_
  rintro en w2 ⟨_, rfl, rfl, hb⟩
  have HB := Lib.hid hb
  clear hb
  go_wp2
  go_ret
  exact ⟨_, rfl, rfl, HB.out⟩

/-- Rounded upward as the document rounds. -/
theorem up_rat (P : Int) : rat3 1 P UQ KU = upz P := by
  unfold rat3 upz
  have := rng_cut 1 (decide (P < 0)) P.natAbs 1 UQ UQ_pos
  rw [Nat.one_mul, UQ_eq] at this
  rw [UQ_eq, this]
theorem upz_lt (P : Int) : upz P < 18446744073709551616 := by
  by_cases h : P < 0
  · rw [upz_neg h]; unfold fpat; split <;> (try split) <;> omega
  · rw [upz_pos h]; unfold fpat; split <;> (try split) <;> omega
theorem upz_nonneg {P : Int} (h : 0 ≤ P) : upz P ≤ 9218868437227405312 := by
  rw [upz_pos (by omega)]; unfold fpat; split
  · omega
  · simp; omega
end Go.Proofs.Ytmmbbkeefphaiaa
