/- Contract of vergelaw2.lives. -/
import Derived.Test.YtniogjkkhkibhaaDoorLawA
namespace Go.Proofs.YtniogjkkhkibhaaDoor
set_option linter.unusedVariables false
set_option linter.unusedSimpArgs false
open Go.RowKit Verge

theorem dig_of (xs : List Nat) (n : Nat) (hx : ∀ x ∈ xs, x < 4294967296) (hv : val xs = n) (hn : wl xs = xs.length) : dig n = xs := by
  rw [← hv, dig_val hx, norm, hn, List.take_length]

theorem not_long (n : Nat) (h : n < 18446744073709551616) : long n = false := by
  rw [long_false]
  have : (dig n).length ≤ 2 := by rw [dig_length_le]; exact h
  omega
theorem blen64 (n : Nat) (h : n < 18446744073709551616) : blen n ≤ 64 := (blen_lt n 64).2 h

theorem Blk.new2 (w : World) (o : Obj) (cs : Array Value) (xs : List Nat) (hx : W32 xs) (e : cs.toList = u32s xs) : Blk ((w.alloc o).alloc (.cells cs 23)) (w.heap.size + 1) xs := by
  have := Blk.new (w.alloc o) cs xs hx e
  simpa using this

theorem lives_mul (g1 g2 : Nat) (W : World) (h1 : Blk W g1 [4294967295]) (h2 : Blk W g2 [4294967295]) :
    Calls Tryd.prog 37 #[.slice (some ⟨g1, 0, none⟩) 1 1, .slice (some ⟨g2, 0, none⟩) 1 1] W fun e w' => ∃ g A1, W.heap.size ≤ g ∧ e = .returned (.tuple #[.slice A1 2 2, .int .i64 0]) ∧ Own w' g A1 [1, 4294967294] ∧ Below W.heap.size W w' := by
  have := mul_any (some ⟨g1, 0, none⟩) 1 1 [4294967295] (some ⟨g2, 0, none⟩) 1 1 [4294967295] W h1.rd rfl (by omega) (by omega) h2.rd rfl (by omega) (by omega)
  have e : nmul (val [4294967295]) (val [4294967295]) = ([1, 4294967294], 0) := by
    have hb := blen64 4294967295 (by omega)
    have hv : val [4294967295] = 4294967295 := rfl
    rw [hv, nmul, not_long 4294967295 (by omega), decide_eq_false (by omega)]
    show fit 18446744065119617025 = _
    rw [fit_no (not_long _ (by omega)), dig_of [1, 4294967294] 18446744065119617025 (by simp) rfl rfl]
  rw [e] at this
  exact this

theorem lives_quo (g1 g2 : Nat) (W : World) (h1 : Blk W g1 [0, 0, 2147483648]) (h2 : Blk W g2 [1, 2147483648]) :
    Calls Tryd.prog 38 #[.slice (some ⟨g1, 0, none⟩) 3 3, .slice (some ⟨g2, 0, none⟩) 2 2] W (QuoPost W [4294967295] [1, 2147483647] 0) := by
  have := quo_any (some ⟨g1, 0, none⟩) 3 3 [0, 0, 2147483648] (some ⟨g2, 0, none⟩) 2 2 [1, 2147483648] W h1.rd rfl (by omega) (by omega) h2.rd rfl (by omega) (by omega)
  have e : nquo (val [0, 0, 2147483648]) (val [1, 2147483648]) = ([4294967295], [1, 2147483647], 0) := by
    have h1 : dig 39614081257132168796771975168 = [0, 0, 2147483648] := dig_of _ _ (by simp) rfl rfl
    have h2 : val [0, 0, 2147483648] = 39614081257132168796771975168 := rfl
    have h3 : val [1, 2147483648] = 9223372036854775809 := rfl
    rw [h2, h3, nquo_ok (by omega) (by rw [not_long 9223372036854775809 (by omega), Bool.or_false, long_false, h1]; simp)]
    rw [show 39614081257132168796771975168 / 9223372036854775809 = 4294967295 from rfl, show 39614081257132168796771975168 % 9223372036854775809 = 9223372032559808513 from rfl]
    rw [dig_of [4294967295] 4294967295 (by simp) rfl rfl, dig_of [1, 2147483647] 9223372032559808513 (by simp) rfl rfl]
  rw [e] at this
  exact this

theorem lives_root (g1 : Nat) (W : World) (h1 : Blk W g1 [25]) :
    Calls Tryd.prog 39 #[.slice (some ⟨g1, 0, none⟩) 1 1] W fun e w' => ∃ g A1, W.heap.size ≤ g ∧ e = .returned (.tuple #[.slice A1 1 1, .bool true, .int .i64 0]) ∧ Own w' g A1 [5] ∧ Below W.heap.size W w' := by
  have := root_any (some ⟨g1, 0, none⟩) 1 1 [25] W h1.rd rfl (by omega) (by omega)
  refine this.mono ?_
  rintro e w' ⟨g, A1, r, b, er, h1, rfl, h2, h3, h4⟩
  rw [show val [25] = 25 from rfl, RootOf, not_long 25 (by omega)] at h2
  obtain ⟨s, hs, rfl, rfl, rfl⟩ := h2
  obtain rfl : s = 5 := isRoot_unique hs ⟨by omega, by omega⟩
  rw [dig_of [5] 5 (by simp) rfl rfl] at h3 ⊢
  exact ⟨g, A1, h1, rfl, h3, h4⟩

theorem Own.alloc {w : World} {g : Nat} {A : Option Addr} {xs : List Nat} (h : Own w g A xs) (o : Obj) : Own (w.alloc o) g A xs := h.later ((Below.refl _ w).alloc (Nat.le_refl _) o)

theorem lives_same (A : Option Addr) (n : Nat) (xs : List Nat) (W : World) (cs : Array Value) (h : Rd W A xs) (hn : xs.length = n) (hm : n ≤ 9) (hcs : cs.toList = u32s xs) :
    Calls Tryd.prog 18 #[.slice A n n, .slice (some ⟨W.heap.size, 0, none⟩) n n] (W.alloc (.cells cs 23)) fun e w' => e = .returned (.bool true) ∧ Below W.heap.size W w' := by
  have hb := (Below.refl _ W).alloc (Nat.le_refl _) (.cells cs 23)
  have := same_any A n n xs (some ⟨W.heap.size, 0, none⟩) n n xs _ (h.below hb) hn (by omega) (Blk.new W cs xs h.1 hcs).rd hn (by omega)
  refine this.mono ?_
  rintro e w' ⟨rfl, d, rfl⟩
  exact ⟨by simp, below_drewN hb d⟩

set_option maxRecDepth 100000 in
set_option maxHeartbeats 2000000 in
/-- vergelaw2.lives answers true. -/
theorem lives_any (w : World) : Calls Tryd.prog 17 #[] w fun e w' => e = .returned (.bool true) ∧ Below w.heap.size w w' := by
  go_enter Tryd.func17, Tryd.ntmps17
  go_wp2_with (first
    | (go_at_call 37; refine (lives_mul _ _ _ ((Blk.new _ _ [4294967295] (by intro y hy; simp at hy; omega) rfl).alloc _) (Blk.new2 _ _ _ [4294967295] (by intro y hy; simp at hy; omega) rfl)).mono ?_; rintro en w1 ⟨g1, A1, hg1, rfl, hO1, hb1⟩)
    | (go_at_call 38; refine (lives_quo _ _ _ ((Blk.new _ _ [0, 0, 2147483648] (by intro y hy; simp at hy; omega) rfl).alloc _) (Blk.new2 _ _ _ [1, 2147483648] (by intro y hy; simp at hy; omega) rfl)).mono ?_; rintro en w2 ⟨g2, g3, A2, A3, hg2, hg3, -, rfl, hO2, hO3, hb2⟩)
    | (go_at_call 39; refine (lives_root _ _ (Blk.new _ _ [25] (by intro y hy; simp at hy; omega) rfl)).mono ?_; rintro en w3 ⟨g4, A4, hg4, rfl, hO4, hb3⟩)
    | (go_at_call 18; have hh := lives_same A1 2 [1, 4294967294] w3 #[.int .u32 1, .int .u32 4294967294] (((((hO1.alloc _).alloc _).later hb2).alloc _).later hb3).rd (by rfl) (by omega) (by rfl); with_reducible refine hh.mono ?_; rintro en w4 ⟨rfl, hb4⟩)
    | (go_at_call 18; have hh := lives_same A2 1 [4294967295] w4 #[.int .u32 4294967295] (((hO2.alloc _).later hb3).later hb4).rd (by rfl) (by omega) (by rfl); with_reducible refine hh.mono ?_; rintro en w5 ⟨rfl, hb5⟩)
    | (go_at_call 18; have hh := lives_same A3 2 [1, 2147483647] w5 #[.int .u32 1, .int .u32 2147483647] ((((hO3.alloc _).later hb3).later hb4).later hb5).rd (by rfl) (by omega) (by rfl); with_reducible refine hh.mono ?_; rintro en w6 ⟨rfl, hb6⟩)
    | (go_at_call 18; have hh := lives_same A4 1 [5] w6 #[.int .u32 5] (((hO4.later hb4).later hb5).later hb6).rd (by rfl) (by omega) (by rfl); with_reducible refine hh.mono ?_; rintro en w7 ⟨rfl, hb7⟩))
  go_ret
  refine ⟨rfl, ?_⟩
  have s1 := hb1.size; have s2 := hb2.size; have s3 := hb3.size; have s4 := hb4.size; have s5 := hb5.size; have s6 := hb6.size
  simp at s1 s2 s3
  have a1 := (((Below.refl w.heap.size w).alloc (Nat.le_refl _) (.cells #[.int .u32 4294967295] 23)).alloc (by simp) (.cells #[.int .u32 4294967295] 23)).trans (hb1.mono (by simp; omega))
  have a2 := ((a1.alloc (by omega) _).alloc (by simp; omega) _).trans (hb2.mono (by simp; omega))
  have a3 := (a2.alloc (by omega) _).trans (hb3.mono (by simp; omega))
  exact (((a3.trans (hb4.mono (by omega))).trans (hb5.mono (by omega))).trans (hb6.mono (by omega))).trans (hb7.mono (by omega))
end Go.Proofs.YtniogjkkhkibhaaDoor
