/- Calls of nat by numbers that are short, more: Pow, Quo, Root, Shl, Shr. -/
import Derived.Test.YtniogjkkhkibhaaDoorLawC
import Derived.Test.YtniogjkkhkibhaaDoorNatM
namespace Go.Proofs.YtniogjkkhkibhaaDoor
set_option linter.unusedVariables false
set_option linter.unusedSimpArgs false
open Go.RowKit Verge

theorem dig_pow_length (x k m : Nat) (h : (dig x).length ≤ m) : (dig (x ^ k)).length ≤ m * k + 1 := by
  induction k with
  | zero => rw [Nat.pow_zero, dig_one]; simp
  | succ k ih =>
    rcases Nat.eq_zero_or_pos k with hk | hk
    · subst hk; simp; omega
    · have h1 := dig_mul_length (x ^ k) x
      rw [Nat.pow_succ, Nat.mul_add]
      omega

theorem long_li {w : World} {A : Option Addr} {n c x : Nat} (h : Li w A n c x) : (dig x).length ≤ 16384 := by
  obtain ⟨xs, h1, h2, h3, h4, h9, h5⟩ := h
  have := wl_le xs
  rw [wl_eq h1.1, h5] at this
  omega

section
variable {A : Option Addr} {n c x : Nat} {A' : Option Addr} {n' c' y : Nat} {w : World} (h : Li w A n c x) (h' : Li w A' n' c' y)
include h

theorem pow_l (k : Nat) (kI : Int) (P : Nat) (hk : (k : Int) = kI ∧ x ^ k = P) (hs : k ≤ 9223372036854775807 ∧ (dig P).length ≤ 16384) : Calls Tryd.prog 24 #[.slice A n c, .int .i64 kI] w (One w P) := by
  obtain ⟨rfl, rfl⟩ := hk
  have hl := long_li h
  obtain ⟨xs, h1, h2, h3, h4, h9, h5⟩ := h
  have := pow_any A n c xs w h1 h2 (by omega) x h5 k (by omega) (by omega)
  rw [npow_fit ((long_false x).2 hl), fit_small hs.2] at this
  refine this.mono ?_
  rintro e w' ⟨g, A1, h6, rfl, hO, h8⟩
  exact ⟨A1, rfl, ⟨hO.rd, hs.2⟩, h8⟩

theorem shl_h (k : Nat) (kI : Int) (P : Nat) (hk : (k : Int) = kI ∧ x * 2 ^ k = P) (hs : k + blen x ≤ 524288 ∧ (dig P).length ≤ 16384) : Calls Tryd.prog 14 #[.slice A n c, .int .i64 kI] w (One w P) := by
  obtain ⟨rfl, rfl⟩ := hk
  have hl := long_li h
  obtain ⟨xs, h1, h2, h3, h4, h9, h5⟩ := h
  have := shl_any A n c xs (k : Int) w h1 h2 h3 (by omega) (by omega) (by omega)
  have e : nshl (val xs) (k : Int) = (dig (x * 2 ^ k), 0) := by
    have hlo := (long_false x).2 hl
    have hbig : ¬ 524288 - (blen x : Int) < (k : Int) := by omega
    rw [h5]
    by_cases h0 : x = 0
    · simp [nshl, h0, dig_zero]; rw [← h0, hlo]; simp
    · simp [nshl, hlo, h0, hbig]
  rw [e] at this
  refine this.mono ?_
  rintro e w' ⟨g, A1, h6, rfl, hO, h8⟩
  exact ⟨A1, rfl, ⟨hO.rd, hs.2⟩, h8⟩

/-- A call of Shr that loses nothing, or something. -/
theorem shr_h (k : Nat) (kI : Int) (q : Nat) (b : Bool) (hk : (k : Int) = kI ∧ x / 2 ^ k = q ∧ decide (x % 2 ^ k ≠ 0) = b) (hs : k ≤ 9223372036854775807) : Calls Tryd.prog 25 #[.slice A n c, .int .i64 kI] w fun e w' =>
    ∃ A1, e = .returned (.tuple #[.slice A1 (dig q).length (dig q).length, .bool b, .int .i64 0]) ∧ Dl w' A1 q ∧ Below w.heap.size w w' := by
  obtain ⟨rfl, rfl, rfl⟩ := hk
  have hl := long_li h
  obtain ⟨xs, h1, h2, h3, h4, h9, h5⟩ := h
  have := shr_any A n c xs (k : Int) w h1 h2 h3 (by omega) (by omega) (by omega) (by omega)
  have e : nshr (val xs) (k : Int) = (dig (x / 2 ^ k), decide (x % 2 ^ k ≠ 0), 0) := by
    rw [h5]; simp [nshr, (long_false x).2 hl]
  rw [e] at this
  refine this.mono ?_
  rintro e w' ⟨g, A1, h6, rfl, hO, h8⟩
  exact ⟨A1, rfl, ⟨hO.rd, Nat.le_trans (dig_length_mono (Nat.div_le_self _ _)) hl⟩, h8⟩

theorem root_h (s : Nat) (b : Bool) (hk : IsRoot x s ∧ decide (s * s = x) = b) : Calls Tryd.prog 39 #[.slice A n c] w fun e w' =>
    ∃ A1, e = .returned (.tuple #[.slice A1 (dig s).length (dig s).length, .bool b, .int .i64 0]) ∧ Dl w' A1 s ∧ Below w.heap.size w w' := by
  obtain ⟨hr, rfl⟩ := hk
  have hl := long_li h
  obtain ⟨xs, h1, h2, h3, h4, h9, h5⟩ := h
  have := root_any A n c xs w h1 h2 h3 (by omega)
  rw [h5] at this
  refine this.mono ?_
  rintro e w' ⟨g, A1, r, b', er, h6, rfl, h7, hO, h8⟩
  rw [RootOf, (long_false x).2 hl] at h7
  obtain ⟨t, ht, rfl, rfl, rfl⟩ := h7
  obtain rfl := isRoot_unique hr ht
  have hsx : s ≤ x := by
    have := hr.1
    rcases Nat.eq_zero_or_pos s with e | e
    · omega
    · exact Nat.le_trans (Nat.le_mul_of_pos_left s e) this
  exact ⟨A1, rfl, ⟨hO.rd, Nat.le_trans (dig_length_mono hsx) hl⟩, h8⟩

include h'

theorem mul_h (P : Nat) (he : x * y = P) (hs : (dig x).length + (dig y).length ≤ 16384) : Calls Tryd.prog 37 #[.slice A n c, .slice A' n' c'] w (One w P) := by
  subst he; exact mul_l h h' hs
theorem add_h (P : Nat) (he : x + y = P) (hs : (dig x).length ≤ 16383 ∧ (dig y).length ≤ 16383) : Calls Tryd.prog 15 #[.slice A n c, .slice A' n' c'] w (One w P) := by
  subst he; exact add_l h h' hs.1 hs.2

theorem quo_h (q r : Nat) (hk : x / y = q ∧ x % y = r ∧ 0 < y) : Calls Tryd.prog 38 #[.slice A n c, .slice A' n' c'] w fun e w' =>
    ∃ A1 A2, e = .returned (.tuple #[.slice A1 (dig q).length (dig q).length, .slice A2 (dig r).length (dig r).length, .int .i64 0]) ∧ Dl w' A1 q ∧ Dl w' A2 r ∧ Below w.heap.size w w' := by
  obtain ⟨rfl, rfl, hy⟩ := hk
  have hl := long_li h
  have hl' := long_li h'
  obtain ⟨xs, h1, h2, h3, h4, h9, h5⟩ := h
  obtain ⟨ys, h1', h2', h3', h4', h9', h5'⟩ := h'
  have := quo_any A n c xs A' n' c' ys w h1 h2 h3 (by omega) h1' h2' h3' (by omega)
  rw [h5, h5', nquo_ok (by omega) (by rw [Bool.or_eq_false_iff, long_false, long_false]; exact ⟨hl, hl'⟩)] at this
  refine this.mono ?_
  rintro e w' ⟨g1, g2, A1, A2, _, _, _, rfl, hO1, hO2, h8⟩
  exact ⟨A1, A2, rfl, ⟨hO1.rd, Nat.le_trans (dig_length_mono (Nat.div_le_self _ _)) hl⟩, ⟨hO2.rd, Nat.le_trans (dig_length_mono (Nat.mod_le _ _)) hl⟩, h8⟩
end

theorem Li.nil (w : World) : Li w none 0 0 0 := ⟨[], Rd.nil, rfl, Nat.le_refl _, by omega, by omega, rfl⟩
theorem Li.new (W : World) (v : Nat) (hv : v < 4294967296) (vI : Int) (hI : (v : Int) = vI) : Li (W.alloc (.cells #[.int .u32 vI] 23)) (some ⟨W.heap.size, 0, none⟩) 1 1 v := by
  subst hI
  exact ⟨[v], (Blk.new W _ [v] (W32.cons hv W32.nil) rfl).rd, rfl, Nat.le_refl _, by omega, by omega, by simp⟩
theorem below_new (W : World) (o : Obj) : Below W.heap.size W (W.alloc o) := (Below.refl _ W).alloc (Nat.le_refl _) o
end Go.Proofs.YtniogjkkhkibhaaDoor
