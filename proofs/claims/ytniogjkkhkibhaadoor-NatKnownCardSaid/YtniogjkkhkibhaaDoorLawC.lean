/- Calls of nat by numbers that are short: what a law sees. -/
import Derived.Test.YtniogjkkhkibhaaDoorLawB
import Derived.Test.YtniogjkkhkibhaaDoorPlainH
namespace Go.Proofs.YtniogjkkhkibhaaDoor
set_option linter.unusedVariables false
set_option linter.unusedSimpArgs false
open Go.RowKit Verge

/-- A list that reads as the number x. -/
def Li (w : World) (A : Option Addr) (n c x : Nat) : Prop := ∃ xs, Rd w A xs ∧ xs.length = n ∧ n ≤ c ∧ n ≤ 16384 ∧ c ≤ 140737488355328 ∧ val xs = x
/-- A list of x's own words. -/
def Dl (w : World) (A : Option Addr) (x : Nat) : Prop := Rd w A (dig x) ∧ (dig x).length ≤ 16384

theorem Li.below {w w' : World} {A : Option Addr} {n c x : Nat} (h : Li w A n c x) (hb : Below w.heap.size w w') : Li w' A n c x := by
  obtain ⟨xs, h1, h2⟩ := h
  exact ⟨xs, h1.below hb, h2⟩
theorem Dl.below {w w' : World} {A : Option Addr} {x : Nat} (h : Dl w A x) (hb : Below w.heap.size w w') : Dl w' A x := ⟨h.1.below hb, h.2⟩
theorem Dl.li {w : World} {A : Option Addr} {x : Nat} (h : Dl w A x) : Li w A (dig x).length (dig x).length x := ⟨dig x, h.1, rfl, Nat.le_refl _, h.2, by have := h.2; omega, val_dig x⟩

/-- A call that answers one number and no error. -/
def One (w : World) (x : Nat) (en : Ending) (w' : World) : Prop :=
  ∃ A1, en = .returned (.tuple #[.slice A1 (dig x).length (dig x).length, .int .i64 0]) ∧ Dl w' A1 x ∧ Below w.heap.size w w'

section
variable {A : Option Addr} {n c x : Nat} {A' : Option Addr} {n' c' y : Nat} {w : World} (h : Li w A n c x) (h' : Li w A' n' c' y)
include h

theorem norm_l (hs : (dig x).length ≤ 16384) : Calls Tryd.prog 19 #[.slice A n c] w fun e w' => ∃ A1, e = .returned (.slice A1 (dig x).length (dig x).length) ∧ Dl w' A1 x ∧ Below w.heap.size w w' := by
  obtain ⟨xs, h1, h2, h3, h4, h9, h5⟩ := h
  have := norm_any A n c xs w h1 h2 (by omega)
  rw [h5] at this
  refine this.mono ?_
  rintro e w' ⟨g, A1, h6, h7, hO, _, _, h8⟩
  exact ⟨A1, h7, ⟨hO.rd, hs⟩, h8⟩

include h'

theorem mul_l (hs : (dig x).length + (dig y).length ≤ 16384) : Calls Tryd.prog 37 #[.slice A n c, .slice A' n' c'] w (One w (x * y)) := by
  obtain ⟨xs, h1, h2, h3, h4, _, h5⟩ := h
  obtain ⟨ys, h1', h2', h3', h4', _, h5'⟩ := h'
  have := mul_any A n c xs A' n' c' ys w h1 h2 h3 (by omega) h1' h2' h3' (by omega)
  rw [h5, h5', nmul_small x y hs] at this
  refine this.mono ?_
  rintro e w' ⟨g, A1, h6, h7, hO, h8⟩
  exact ⟨A1, h7, ⟨hO.rd, by have := dig_mul_length x y; omega⟩, h8⟩

theorem add_l (hs : (dig x).length ≤ 16383) (hs' : (dig y).length ≤ 16383) : Calls Tryd.prog 15 #[.slice A n c, .slice A' n' c'] w (One w (x + y)) := by
  obtain ⟨xs, h1, h2, h3, h4, _, h5⟩ := h
  obtain ⟨ys, h1', h2', h3', h4', _, h5'⟩ := h'
  have := add_any A n c xs A' n' c' ys w h1 h2 h3 (by omega) h1' h2' h3' (by omega)
  rw [h5, h5', nadd_small x y hs hs'] at this
  refine this.mono ?_
  rintro e w' ⟨g, A1, h6, h7, hO, h8⟩
  exact ⟨A1, h7, ⟨hO.rd, by have := dig_add_length x y 16383 hs hs'; omega⟩, h8⟩

theorem sub_l (hle : y ≤ x) (hs : (dig x).length ≤ 16384) : Calls Tryd.prog 69 #[.slice A n c, .slice A' n' c'] w (One w (x - y)) := by
  obtain ⟨xs, h1, h2, h3, h4, _, h5⟩ := h
  obtain ⟨ys, h1', h2', h3', h4', _, h5'⟩ := h'
  have := sub_any A n c xs A' n' c' ys w h1 h2 h3 (by omega) h1' h2' h3' (by omega)
  rw [h5, h5', nsub_small x y hle hs] at this
  refine this.mono ?_
  rintro e w' ⟨g, A1, h6, h7, hO, h8⟩
  exact ⟨A1, h7, ⟨hO.rd, by have := dig_length_mono (Nat.sub_le x y); omega⟩, h8⟩

theorem cmp_l : Calls Tryd.prog 22 #[.slice A n c, .slice A' n' c'] w fun e w' => e = .returned (.int .i64 (cmp x y)) ∧ Below w.heap.size w w' := by
  obtain ⟨xs, h1, h2, h3, h4, _, h5⟩ := h
  obtain ⟨ys, h1', h2', h3', h4', _, h5'⟩ := h'
  have := cmp_any A n c xs A' n' c' ys w h1 h2 (by omega) h1' h2' (by omega)
  rw [h5, h5'] at this
  refine this.mono ?_
  rintro e w' ⟨rfl, d, rfl⟩
  exact ⟨rfl, below_drewN (Below.refl _ w) d⟩
end

theorem same_l {A : Option Addr} {x : Nat} {A' : Option Addr} {y : Nat} {w : World} (h : Dl w A x) (h' : Dl w A' y) (he : x = y) :
    Calls Tryd.prog 18 #[.slice A (dig x).length (dig x).length, .slice A' (dig y).length (dig y).length] w fun e w' => e = .returned (.bool true) ∧ Below w.heap.size w w' := by
  have := same_any A _ (dig x).length (dig x) A' _ (dig y).length (dig y) w h.1 rfl (by have := h.2; omega) h'.1 rfl (by have := h'.2; omega)
  refine this.mono ?_
  rintro e w' ⟨rfl, d, rfl⟩
  exact ⟨by rw [he]; simp, below_drewN (Below.refl _ w) d⟩

/-- short with at most 64 words (or 8): the number of the first words. -/
theorem short_l (A : Option Addr) (n c : Nat) (X : List Nat) (k : Nat) (kI : Int) (w : World) (hkI : (k : Int) = kI) (h : Rd w A X) (hn : X.length = n) (hm : n ≤ 70368744177664) (hk : k ≤ 16384) :
    Calls Tryd.prog 16 #[.slice A n c, .int .i64 kI] w fun e w' => ∃ A1 m, e = .returned (.slice A1 m n) ∧ Li w' A1 m n (val (X.take (min k n))) ∧ Below w.heap.size w w' := by
  subst hkI
  refine (short_any A n c X k w h hn hm (by omega)).mono ?_
  rintro e w' ⟨rfl, hB, hb⟩
  exact ⟨_, _, rfl, ⟨X.take (min k n), hB.rd.take _, by rw [List.length_take, hn]; omega, Nat.min_le_right _ _, by omega, by omega, rfl⟩, hb⟩

theorem val_take_short (X : List Nat) (hX : W32 X) (k : Nat) : (dig (val (X.take k))).length ≤ k := by
  rw [dig_length_le]
  have h := val_lt (hX.take k)
  rw [List.length_take] at h
  exact Nat.lt_of_lt_of_le h (Nat.pow_le_pow_right (by omega) (Nat.min_le_left _ _))
end Go.Proofs.YtniogjkkhkibhaaDoor
