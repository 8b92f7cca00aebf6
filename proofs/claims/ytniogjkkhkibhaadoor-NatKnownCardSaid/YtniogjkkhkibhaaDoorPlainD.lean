/- Plain arithmetic for the trial of a quotient's word. -/
import Derived.Test.YtniogjkkhkibhaaDoorPlainC
namespace Verge
set_option linter.unusedVariables false
set_option linter.unusedSimpArgs false

/-- A power of 2^32, closed to arithmetic. -/
def PW (k : Nat) : Nat := 4294967296 ^ k
theorem PW_zero : PW 0 = 1 := rfl

theorem getD_append_left' (P D : List Nat) (i : Nat) : (P ++ D).getD (P.length + i) 0 = D.getD i 0 := by
  rw [List.getD_eq_getElem?_getD, List.getElem?_append_right (by omega), Nat.add_sub_cancel_left, List.getD_eq_getElem?_getD]
theorem set_append_left' (P D : List Nat) (i v : Nat) : (P ++ D).set (P.length + i) v = P ++ D.set i v := by
  rw [List.set_append_right _ _ (by omega), Nat.add_sub_cancel_left]

/-- What is known of the dividend's window D and the divisor V, of m + 2 words, when the trial begins. -/
structure Trial (D V : List Nat) (m : Nat) (un u1 u2 v1 v2 : Nat) : Prop where
  d32 : W32 D
  v32 : W32 V
  vl : V.length = m + 2
  dl : m + 3 ≤ D.length
  lt : val D < val V * 4294967296
  gun : D.getD (m + 2) 0 = un
  gu1 : D.getD (m + 1) 0 = u1
  gu2 : D.getD m 0 = u2
  gv1 : V.getD (m + 1) 0 = v1
  gv2 : V.getD m 0 = v2
  top : 2147483648 ≤ v1

section
variable {D V : List Nat} {m un u1 u2 v1 v2 : Nat}

theorem Trial.un32 (h : Trial D V m un u1 u2 v1 v2) : un < 4294967296 := by rw [← h.gun]; exact h.d32.getD _
theorem Trial.u132 (h : Trial D V m un u1 u2 v1 v2) : u1 < 4294967296 := by rw [← h.gu1]; exact h.d32.getD _
theorem Trial.u232 (h : Trial D V m un u1 u2 v1 v2) : u2 < 4294967296 := by rw [← h.gu2]; exact h.d32.getD _
theorem Trial.v132 (h : Trial D V m un u1 u2 v1 v2) : v1 < 4294967296 := by rw [← h.gv1]; exact h.v32.getD _
theorem Trial.v232 (h : Trial D V m un u1 u2 v1 v2) : v2 < 4294967296 := by rw [← h.gv2]; exact h.v32.getD _

theorem Trial.valV (h : Trial D V m un u1 u2 v1 v2) : val V = val (V.take m) + 4294967296 ^ m * (v2 + 4294967296 * v1) ∧ val (V.take m) < 4294967296 ^ m := by
  have h1 := val_lt (h.v32.take m)
  rw [List.length_take, Nat.min_eq_left (by have := h.vl; omega)] at h1
  refine ⟨?_, h1⟩
  rw [val_split V m (by have := h.vl; omega), val_drop V m, val_drop V (m + 1), h.gv1, h.gv2, List.drop_of_length_le (by have := h.vl; omega)]
  simp

theorem Trial.zero (h : Trial D V m un u1 u2 v1 v2) : val (D.drop (m + 3)) = 0 := by
  have h1 := val_lt h.v32
  rw [h.vl] at h1
  have h2 : val D < 4294967296 ^ (m + 3) := by
    rw [show m + 3 = (m + 2) + 1 by omega, Nat.pow_succ]
    exact Nat.lt_trans h.lt (Nat.mul_lt_mul_of_pos_right h1 (by omega))
  rw [← val_div D h.d32]
  exact Nat.div_eq_of_lt h2

theorem Trial.valD (h : Trial D V m un u1 u2 v1 v2) : val D = val (D.take m) + 4294967296 ^ m * (u2 + 4294967296 * (u1 + 4294967296 * un)) ∧ val (D.take m) < 4294967296 ^ m := by
  have h1 := val_lt (h.d32.take m)
  rw [List.length_take, Nat.min_eq_left (by have := h.dl; omega)] at h1
  refine ⟨?_, h1⟩
  rw [val_split D m (by have := h.dl; omega), val_drop D m, val_drop D (m + 1), val_drop D (m + 2), h.gun, h.gu1, h.gu2, h.zero]
  simp

theorem Trial.take (h : Trial D V m un u1 u2 v1 v2) : val (D.take (m + 3)) = val D := by
  have := val_split D (m + 3) h.dl
  rw [h.zero] at this
  omega

theorem Trial.un_le (h : Trial D V m un u1 u2 v1 v2) : un ≤ v1 := by
  obtain ⟨e1, l1⟩ := h.valV
  obtain ⟨e2, l2⟩ := h.valD
  have h3 := h.lt
  have hv2 := h.v232
  rw [e1, e2] at h3
  generalize 4294967296 ^ m = P at *
  rcases Nat.lt_or_ge v1 un with hc | hc
  · exfalso
    have : (P * (v2 + 4294967296 * v1) + P) * 4294967296 ≤ P * (4294967296 * (4294967296 * un)) := by
      have e : (P * (v2 + 4294967296 * v1) + P) * 4294967296 = P * ((v2 + 1 + 4294967296 * v1) * 4294967296) := by grind
      rw [e]
      exact Nat.mul_le_mul_left _ (by omega)
    have e3 : P * (u2 + 4294967296 * (u1 + 4294967296 * un)) = P * (u2 + 4294967296 * u1) + P * (4294967296 * (4294967296 * un)) := by grind
    rw [e3] at h3
    have : (val (V.take m) + P * (v2 + 4294967296 * v1)) * 4294967296 < (P * (v2 + 4294967296 * v1) + P) * 4294967296 := Nat.mul_lt_mul_of_pos_right (by omega) (by omega)
    have := Nat.zero_le (P * (u2 + 4294967296 * u1))
    omega
  · exact hc

/-- The trial's relation: x v1 + rest = top, and the quotient is at most x. -/
def Tries (D V : List Nat) (top v1 x rest : Nat) : Prop := x * v1 + rest = top ∧ val D < (x + 1) * val V

theorem Trial.start (h : Trial D V m un u1 u2 v1 v2) (top : Nat) (ht : u1 + 4294967296 * un = top) : Tries D V top v1 (top / v1) (top % v1) := by
  refine ⟨by rw [Nat.mul_comm]; exact Nat.div_add_mod top v1, ?_⟩
  obtain ⟨e1, l1⟩ := h.valV
  obtain ⟨e2, l2⟩ := h.valD
  have hu2 := h.u232
  have h3 : top < (top / v1 + 1) * v1 := by
    rw [Nat.mul_comm]; exact Nat.lt_mul_div_succ top (by have := h.top; omega)
  rw [e2, e1, ht]
  generalize 4294967296 ^ m = P at *
  generalize top / v1 = x at *
  have h4 : P * (u2 + 4294967296 * top) + P ≤ P * (4294967296 * ((x + 1) * v1)) := by
    have e : P * (u2 + 4294967296 * top) + P = P * (u2 + 4294967296 * top + 1) := by grind
    rw [e]
    exact Nat.mul_le_mul_left _ (by omega)
  have h5 : P * (4294967296 * ((x + 1) * v1)) ≤ (x + 1) * (val (V.take m) + P * (v2 + 4294967296 * v1)) := by
    have e : (x + 1) * (val (V.take m) + P * (v2 + 4294967296 * v1)) = P * (4294967296 * ((x + 1) * v1)) + ((x + 1) * val (V.take m) + (x + 1) * (P * v2)) := by grind
    omega
  omega

theorem Trial.xle (h : Trial D V m un u1 u2 v1 v2) (top x rest : Nat) (ht : u1 + 4294967296 * un = top) (hx : Tries D V top v1 x rest) : x ≤ 4294967297 := by
  have h1 := h.un_le
  have h2 := h.u132
  have h3 := h.top
  rcases Nat.lt_or_ge 4294967297 x with hc | hc
  · exfalso
    have : 4294967298 * v1 ≤ x * v1 := Nat.mul_le_mul_right _ hc
    have := hx.1
    omega
  · exact hc

/-- One less. -/
theorem Trial.down (h : Trial D V m un u1 u2 v1 v2) (top x rest : Nat) (ht : u1 + 4294967296 * un = top) (hx : Tries D V top v1 x rest)
    (hg : 4294967296 ≤ x ∨ rest * 4294967296 + u2 < x * v2) : 0 < x ∧ Tries D V top v1 (x - 1) (rest + v1) := by
  have h0 : 0 < x := by
    rcases hg with hg | hg
    · omega
    · rcases Nat.eq_zero_or_pos x with h0 | h0
      · subst h0; omega
      · exact h0
  obtain ⟨y, rfl⟩ : ∃ y, x = y + 1 := ⟨x - 1, by omega⟩
  refine ⟨h0, by have := hx.1; rw [Nat.add_mul] at this; rw [Nat.add_sub_cancel]; omega, ?_⟩
  rw [Nat.add_sub_cancel]
  rcases hg with hg | hg
  · have h1 := h.lt
    have : 4294967296 * val V ≤ (y + 1) * val V := Nat.mul_le_mul_right _ hg
    rw [Nat.mul_comm] at h1
    omega
  · obtain ⟨e1, l1⟩ := h.valV
    obtain ⟨e2, l2⟩ := h.valD
    have h5 := hx.1
    rw [e2, e1, ht]
    generalize 4294967296 ^ m = P at *
    have h6 : u2 + 4294967296 * top + 1 ≤ (y + 1) * (v2 + 4294967296 * v1) := by
      have e : (y + 1) * (v2 + 4294967296 * v1) = (y + 1) * v2 + 4294967296 * ((y + 1) * v1) := by grind
      rw [e]
      omega
    have h7 : P * (u2 + 4294967296 * top + 1) ≤ P * ((y + 1) * (v2 + 4294967296 * v1)) := Nat.mul_le_mul_left _ h6
    have e8 : (y + 1) * (val (V.take m) + P * (v2 + 4294967296 * v1)) = P * ((y + 1) * (v2 + 4294967296 * v1)) + (y + 1) * val (V.take m) := by grind
    have e9 : P * (u2 + 4294967296 * top + 1) = P * (u2 + 4294967296 * top) + P := by grind
    have := Nat.zero_le ((y + 1) * val (V.take m))
    omega

/-- The trial ends: at most one too many. -/
theorem Trial.stop (h : Trial D V m un u1 u2 v1 v2) (top x rest : Nat) (ht : u1 + 4294967296 * un = top) (hx : Tries D V top v1 x rest)
    (hg : 4294967296 ≤ rest ∨ x < 4294967296 ∧ x * v2 ≤ rest * 4294967296 + u2) : x < 4294967296 ∧ x * val V < val D + val V := by
  have h1 := h.un_le
  have h2 := h.u132
  have h3 := h.top
  have h4 := h.v232
  have hxB : x < 4294967296 := by
    rcases hg with hg | hg
    · rcases Nat.lt_or_ge x 4294967296 with hc | hc
      · exact hc
      · exfalso
        have : 4294967296 * v1 ≤ x * v1 := Nat.mul_le_mul_right _ hc
        have := hx.1
        omega
    · exact hg.1
  refine ⟨hxB, ?_⟩
  have hg2 : x * v2 ≤ rest * 4294967296 + u2 := by
    rcases hg with hg | hg
    · have : x * v2 ≤ 4294967295 * 4294967295 := Nat.mul_le_mul (by omega) (by omega)
      omega
    · exact hg.2
  obtain ⟨e1, l1⟩ := h.valV
  obtain ⟨e2, l2⟩ := h.valD
  have h5 := hx.1
  rw [e2, e1, ht]
  have hP : 0 < 4294967296 ^ m := Nat.pow_pos (by omega)
  generalize 4294967296 ^ m = P at *
  have h6 : x * (v2 + 4294967296 * v1) ≤ u2 + 4294967296 * top := by
    have e : x * (v2 + 4294967296 * v1) = x * v2 + 4294967296 * (x * v1) := by grind
    rw [e]
    omega
  have h7 : P * (x * (v2 + 4294967296 * v1)) ≤ P * (u2 + 4294967296 * top) := Nat.mul_le_mul_left _ h6
  have h8 : x * val (V.take m) ≤ 4294967296 * P := Nat.mul_le_mul (by omega) (by omega)
  have h9 : 4294967296 * P ≤ P * (v2 + 4294967296 * v1) := by
    rw [Nat.mul_comm]; exact Nat.mul_le_mul_left _ (by omega)
  have h10 : x * val (V.take m) < 4294967296 * P := by
    rcases Nat.eq_zero_or_pos x with h0 | h0
    · subst h0; simp; exact hP
    · have : x * val (V.take m) < x * P := Nat.mul_lt_mul_of_pos_left l1 h0
      have : x * P ≤ 4294967296 * P := Nat.mul_le_mul_right _ (by omega)
      omega
  have e : x * (val (V.take m) + P * (v2 + 4294967296 * v1)) = x * val (V.take m) + P * (x * (v2 + 4294967296 * v1)) := by grind
  omega
end

/-- x V is taken away, word by word. -/
theorem take_step (D D' V : List Nat) (i x y u c b s c' b' lo : Nat) (hi : i < D'.length) (hl : D'.length = D.length) (hd : D'.drop i = D.drop i) (hu : D'.getD i 0 = u) (hy : V.getD i 0 = y)
    (h : val (D'.take i) + x * val (V.take i) = val (D.take i) + (c + b) * PW i)
    (hc : c + x * y = lo + 4294967296 * c') (hs : s + lo + b = u + 4294967296 * b') :
    val ((D'.set i s).take (i + 1)) + x * val (V.take (i + 1)) = val (D.take (i + 1)) + (c' + b') * PW (i + 1) ∧ (D'.set i s).drop (i + 1) = D.drop (i + 1) := by
  simp only [PW] at *
  have hg : D.getD i 0 = u := by
    have h1 := getD_drop D' i 0
    have h2 := getD_drop D i 0
    rw [Nat.add_zero] at h1 h2
    rw [← h2, ← hd, h1, hu]
  constructor
  · rw [val_take_set D' i s hi, val_take_succ V, val_take_succ D, hg, hy, Nat.pow_succ]
    generalize 4294967296 ^ i = P at *
    grind
  · rw [drop_set_gt D' i (i + 1) s (by omega)]
    have := congrArg (List.drop 1) hd
    rwa [List.drop_drop, List.drop_drop] at this

/-- V is given back, word by word. -/
theorem give_step (D D' V : List Nat) (i y u c s c' : Nat) (hi : i < D'.length) (hd : D'.drop i = D.drop i) (hu : D'.getD i 0 = u) (hy : V.getD i 0 = y)
    (h : val (D'.take i) + c * PW i = val (D.take i) + val (V.take i)) (hs : u + y + c = s + 4294967296 * c') :
    val ((D'.set i s).take (i + 1)) + c' * PW (i + 1) = val (D.take (i + 1)) + val (V.take (i + 1)) ∧ (D'.set i s).drop (i + 1) = D.drop (i + 1) := by
  simp only [PW] at *
  have hg : D.getD i 0 = u := by
    have h1 := getD_drop D' i 0
    have h2 := getD_drop D i 0
    rw [Nat.add_zero] at h1 h2
    rw [← h2, ← hd, h1, hu]
  constructor
  · rw [val_take_set D' i s hi, val_take_succ V, val_take_succ D, hg, hy, Nat.pow_succ]
    generalize 4294967296 ^ i = P at *
    grind
  · rw [drop_set_gt D' i (i + 1) s (by omega)]
    have := congrArg (List.drop 1) hd
    rwa [List.drop_drop, List.drop_drop] at this

theorem sub_word (u lo b s bb : Nat) (hs : ((u : Int) - lo - b) % 4294967296 = s) (hb : ((lo : Int) + b - u + 4294967295) / 4294967296 = bb) : s + lo + b = u + 4294967296 * bb := by omega

/-- The last word of what is taken away. -/
theorem take_last {D D' V : List Nat} {k x t c b s b' Q : Nat} (hQ : PW k = Q) (hV : V.length = k) (hk : k < D'.length) (hl : D'.length = D.length) (hd : D'.drop k = D.drop k) (ht : D'.getD k 0 = t)
    (h : val (D'.take k) + x * val (V.take k) = val (D.take k) + (c + b) * PW k) (hs : s + c + b = t + 4294967296 * b') :
    val ((D'.set k s).take (k + 1)) + x * val V = val (D.take (k + 1)) + Q * (4294967296 * b') ∧ (D'.set k s).drop (k + 1) = D.drop (k + 1) := by
  simp only [PW] at *
  have hg : D.getD k 0 = t := by
    have h1 := getD_drop D' k 0
    have h2 := getD_drop D k 0
    rw [Nat.add_zero] at h1 h2
    rw [← h2, ← hd, h1, ht]
  rw [List.take_of_length_le (l := V) (by omega), hQ] at h
  constructor
  · rw [val_take_set D' k s hk, val_take_succ D, hg, hQ]
    have e1 : Q * s + Q * c + Q * b = Q * t + Q * (4294967296 * b') := by rw [← Nat.mul_add, ← Nat.mul_add, ← Nat.mul_add, hs]
    have e2 : (c + b) * Q = Q * c + Q * b := by rw [Nat.mul_comm, Nat.mul_add]
    rw [e2] at h
    generalize Q * s = a1 at *
    generalize Q * c = a2 at *
    generalize Q * b = a3 at *
    generalize Q * t = a4 at *
    generalize Q * (4294967296 * b') = a5 at *
    omega
  · rw [drop_set_gt D' k (k + 1) s (by omega)]
    have := congrArg (List.drop 1) hd
    rwa [List.drop_drop, List.drop_drop] at this

theorem take_over {D D' V E : List Nat} {m un u1 u2 v1 v2 x s' Q : Nat} (h : Trial D V m un u1 u2 v1 v2) (hE : D'.set (m + 2) s' = E)
    (t1 : val ((D'.set (m + 2) s').take (m + 2 + 1)) + x * val V = val (D.take (m + 2 + 1)) + Q * (4294967296 * 1)) (t2 : (D'.set (m + 2) s').drop (m + 2 + 1) = D.drop (m + 2 + 1)) :
    val (E.take (m + 3)) + x * val V = val D + Q * 4294967296 ∧ E.drop (m + 3) = D.drop (m + 3) := by
  have e := h.take
  rw [hE] at t1 t2
  have e3 : m + 2 + 1 = m + 3 := by omega
  rw [e3] at t1 t2
  rw [e, Nat.mul_one] at t1
  exact And.intro t1 t2

/-- The trial fits. -/
theorem trial_fit {D V E : List Nat} {m un u1 u2 v1 v2 x : Nat} (h : Trial D V m un u1 u2 v1 v2) (hq : val D < (x + 1) * val V) (hE : E.drop (m + 3) = D.drop (m + 3)) (hl : E.length = D.length)
    (hv : val (E.take (m + 3)) + x * val V = val D) : val E = val D % val V ∧ x = val D / val V := by
  have hz := h.zero
  have hdl := h.dl
  clear h
  generalize m + 3 = k at *
  have e1 : val E = val (E.take k) := by
    rw [val_split E k (by omega), hE, hz, Nat.mul_zero, Nat.add_zero]
  generalize val D = d at *
  generalize val V = v at *
  rw [e1]
  generalize val (E.take k) = r at *
  have e2 : d = v * x + r := by rw [Nat.mul_comm]; omega
  have e3 : r < v := by
    rw [Nat.add_mul, Nat.one_mul] at hq
    omega
  constructor
  · rw [e2, Nat.mul_add_mod, Nat.mod_eq_of_lt e3]
  · rw [e2, Nat.mul_add_div (by omega), Nat.div_eq_of_lt e3, Nat.add_zero]

theorem fit_end {D D' V : List Nat} {m un u1 u2 v1 v2 x t c b s : Nat} (h : Trial D V m un u1 u2 v1 v2) (hq : val D < (x + 1) * val V) (hl : D'.length = D.length) (hd : D'.drop (m + 2) = D.drop (m + 2))
    (ht : D'.getD (m + 2) 0 = t) (hv : val (D'.take (m + 2)) + x * val (V.take (m + 2)) = val (D.take (m + 2)) + (c + b) * PW (m + 2)) (hs : s + c + b = t) :
    val (D'.set (m + 2) s) = val D % val V ∧ x = val D / val V := by
  have hdl := h.dl
  have hvl := h.vl
  have htk := h.take
  obtain ⟨Q, hQ⟩ : ∃ Q, PW (m + 2) = Q := ⟨_, rfl⟩
  obtain ⟨t1, t2⟩ := take_last (k := m + 2) (s := s) (b' := 0) hQ hvl (by omega) hl hd ht hv (by omega)
  refine trial_fit h hq t2 (by rw [List.length_set]; exact hl) ?_
  have e3 : m + 2 + 1 = m + 3 := by omega
  rw [e3, htk] at t1
  rw [t1]
  omega

theorem over_plain (f e t c Q v d x : Nat) (hQ : 0 < Q) (ht : t < 4294967296) (hc : c ≤ 1) (hf : f < Q) (hvQ : v < Q) (hq : d < (x + 1) * v) (hs : x * v < d + v)
    (hv : e + Q * t + x * v = d + Q * 4294967296) (he : e < Q) (hg : f + c * Q = e + v) :
    f + Q * ((t + c) % 4294967296) = d % v ∧ 0 < x ∧ x - 1 = d / v := by
  have hx0 : 0 < x := by
    rcases Nat.eq_zero_or_pos x with h0 | h0
    · subst h0
      exfalso
      have h7 : Q * t + Q ≤ Q * 4294967296 := by
        rw [← Nat.mul_succ]; exact Nat.mul_le_mul_left _ ht
      omega
    · exact h0
  obtain ⟨y, rfl⟩ : ∃ y, x = y + 1 := ⟨x - 1, by omega⟩
  have e5 : (y + 1) * v = v * y + v := by rw [Nat.add_mul, Nat.one_mul, Nat.mul_comm]
  have e6 : (y + 1 + 1) * v = v * y + v + v := by rw [Nat.add_mul, e5, Nat.one_mul]
  rw [e5] at hv hs
  rw [e6] at hq
  obtain ⟨Y, hY⟩ : ∃ Y, v * y = Y := ⟨_, rfl⟩
  rw [hY] at hv hs hq
  have h8 : Q * (t + c) = Q * t + c * Q := by rw [Nat.mul_add, Nat.mul_comm Q c]
  obtain ⟨cq, hcq⟩ : ∃ cq, c * Q = cq := ⟨_, rfl⟩
  obtain ⟨qt, hqt⟩ : ∃ qt, Q * t = qt := ⟨_, rfl⟩
  rw [hcq, hqt] at h8
  rw [hcq] at hg
  rw [hqt] at hv
  have hkey : t + c = 4294967296 := by
    rcases Nat.lt_or_ge (t + c) 4294967296 with hlt | hge
    · exfalso
      have h7 : Q * (t + c) + Q ≤ Q * 4294967296 := by
        rw [← Nat.mul_succ]; exact Nat.mul_le_mul_left _ hlt
      rw [h8] at h7
      omega
    · omega
  rw [hkey] at h8
  have e9 : d = v * y + f := by rw [hY]; omega
  have hqtQ : qt + Q ≤ Q * 4294967296 := by
    rw [← hqt, ← Nat.mul_succ]; exact Nat.mul_le_mul_left _ ht
  have hfv : f < v := by rw [hY] at e9; omega
  rw [hkey, Nat.mod_self, Nat.mul_zero, Nat.add_zero]
  refine ⟨?_, by omega, ?_⟩
  · rw [e9, Nat.mul_add_mod, Nat.mod_eq_of_lt hfv]
  · rw [e9, Nat.mul_add_div (by omega), Nat.div_eq_of_lt hfv, Nat.add_zero]; omega

theorem over_pos {E : List Nat} {k x Q d v : Nat} (hQ : PW k = Q) (hE32 : W32 E) (hk : k < E.length) (hv : val (E.take (k + 1)) + x * v = d + Q * 4294967296) : 0 < x := by
  simp only [PW] at hQ
  rcases Nat.eq_zero_or_pos x with h0 | h0
  · subst h0
    exfalso
    have h1 := val_lt (hE32.take k)
    rw [List.length_take, Nat.min_eq_left (by omega), hQ] at h1
    rw [val_take_succ, hQ] at hv
    have h2 : Q * E.getD k 0 + Q ≤ Q * 4294967296 := by
      rw [← Nat.mul_succ]; exact Nat.mul_le_mul_left _ (hE32.getD k)
    omega
  · exact h0

/-- The trial was one too great: V is given back. -/
theorem trial_over {D V E F : List Nat} {m un u1 u2 v1 v2 x c Q : Nat} (h : Trial D V m un u1 u2 v1 v2) (hq : val D < (x + 1) * val V) (hs : x * val V < val D + val V)
    (hQ : PW (m + 2) = Q)
    (hE : E.drop (m + 3) = D.drop (m + 3)) (hlE : E.length = D.length) (hE32 : W32 E) (hF32 : W32 F)
    (hv : val (E.take (m + 3)) + x * val V = val D + Q * 4294967296) (hF : F.drop (m + 2) = E.drop (m + 2)) (hlF : F.length = E.length)
    (hg0 : val (F.take (m + 2)) + c * PW (m + 2) = val (E.take (m + 2)) + val (V.take (m + 2))) (hc : c ≤ 1) :
    val (F.set (m + 2) ((F.getD (m + 2) 0 + c) % 4294967296)) = val D % val V ∧ 0 < x ∧ x - 1 = val D / val V := by
  have hdl := h.dl
  have hz := h.zero
  have hvl := h.vl
  have hV32 := h.v32
  have hg := hg0
  rw [hQ, List.take_of_length_le (l := V) (Nat.le_of_eq hvl)] at hg
  clear h hg0
  have e3 : m + 3 = (m + 2) + 1 := rfl
  rw [e3] at *
  generalize m + 2 = k at *
  simp only [PW] at hQ
  have hGF : F.getD k 0 = E.getD k 0 := by
    have h1 := getD_drop F k 0
    have h2 := getD_drop E k 0
    rw [Nat.add_zero] at h1 h2
    rw [← h1, ← h2, hF]
  have hd3 : F.drop (k + 1) = D.drop (k + 1) := by
    rw [← hE]
    have := congrArg (List.drop 1) hF
    rwa [List.drop_drop, List.drop_drop] at this
  obtain ⟨t, ht⟩ : ∃ t, F.getD k 0 = t := ⟨_, rfl⟩
  have ht32 : t < 4294967296 := by rw [← ht]; exact hF32.getD _
  have e0 : val (F.set k ((F.getD k 0 + c) % 4294967296)) = val (F.take k) + Q * ((t + c) % 4294967296) := by
    rw [val_split _ (k + 1) (by rw [List.length_set]; omega), drop_set_gt _ _ _ _ (by omega), hd3, hz, val_take_set _ _ _ (by omega), ht, hQ, Nat.mul_zero, Nat.add_zero]
  have e1 : val (E.take (k + 1)) = val (E.take k) + Q * t := by rw [val_take_succ, ← hGF, ht, hQ]
  rw [e1] at hv
  rw [e0]
  have hVlt := val_lt hV32
  rw [hvl, hQ] at hVlt
  have h4 := val_lt (hF32.take k)
  rw [List.length_take, Nat.min_eq_left (by omega), hQ] at h4
  have h5 := val_lt (hE32.take k)
  rw [List.length_take, Nat.min_eq_left (by omega), hQ] at h5
  exact over_plain _ _ t c Q _ _ x (by omega) ht32 hc h4 hVlt hq hs hv h5 hg

end Verge
