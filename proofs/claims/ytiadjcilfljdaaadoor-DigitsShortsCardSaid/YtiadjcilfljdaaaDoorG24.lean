/- Layer 5: plain words on a number's first bit and its 52 bits behind. -/
import Derived.Test.YtiadjcilfljdaaaDoorG03
import Derived.Test.YtiadjcilfljdaaaDoorG14
import Derived.Test.YtiadjcilfljdaaaDoorG04
import Derived.Lib.ItoaLen
section
namespace Go.Proofs.YtiadjcilfljdaaaDoor
set_option linter.unusedVariables false
set_option linter.unusedSimpArgs false
open Go.RowKit Verge

/-- The 53 bits of a number, the first one 1; its power of 2. -/
def hxm (b : Nat) : Nat := fbF b * 2 ^ (53 - blen (fbF b))
def hxe (b : Nat) : Int := (fbE b : Int) - 1075 + blen (fbF b)
theorem blen_shl {o u : Nat} (h : o ≠ 0) : blen (o * 2 ^ u) = blen o + u := by
  have e : o * 2 ^ u / 2 ^ u = o := Nat.mul_div_cancel _ (Nat.two_pow_pos u)
  have := blen_div (o * 2 ^ u) u (by rw [e]; exact h)
  rw [e] at this
  omega
theorem fbF_blen (b : Nat) : blen (fbF b) ≤ 53 := (blen_lt _ _).2 (by have := fbF_lt b; omega)
theorem hxm_range {b : Nat} (h : fbF b ≠ 0) : 4503599627370496 ≤ hxm b ∧ hxm b < 9007199254740992 := by
  unfold hxm
  have h1 := fbF_blen b
  have h2 := blen_pos h
  have h3 : blen (fbF b * 2 ^ (53 - blen (fbF b))) = 53 := by rw [blen_shl h]; omega
  constructor
  · have := blen_le (n := fbF b * 2 ^ (53 - blen (fbF b))) (Nat.mul_ne_zero h (by have := Nat.two_pow_pos (53 - blen (fbF b)); omega))
    rw [h3] at this
    exact this
  · exact (blen_lt _ 53).1 (by omega)
theorem hx_doc {b : Nat} (h : fbF b ≠ 0) : fbN b ≠ 0 ∧ fbN b * 2 ^ 52 / 2 ^ (blen (fbN b) - 1) = hxm b ∧ ((blen (fbN b) - 1 : Nat) : Int) - ((blen (fbD b) - 1 : Nat) : Int) = hxe b := by
  have n1 : ntz 1 = 0 := ntz_of 1 0 0 (by simp)
  obtain ⟨m, hm⟩ := ntz_spec (fbF b) h
  have hF := fbF_blen b
  unfold hxm hxe fbN fbD fracN fracD fracE
  rw [if_neg h, if_neg h, n1]
  generalize ntz (fbF b) = t at *
  have ho : fbF b / 2 ^ t = 2 * m + 1 := by rw [hm]; exact Nat.mul_div_cancel_left _ (Nat.two_pow_pos t)
  have hb : blen (fbF b) = t + blen (2 * m + 1) := by
    have := blen_div (fbF b) t (by rw [ho]; omega)
    rw [ho] at this; exact this
  rw [ho]
  rw [hb] at hF ⊢
  generalize ho2 : 2 * m + 1 = o at *
  have h0 : o ≠ 0 := by omega
  have hp := blen_pos h0
  obtain ⟨E, hE⟩ : ∃ E : Int, (fbE b : Int) - 1074 + t - 0 = E := ⟨_, rfl⟩
  have hE' : ((fbE b : Int) - 1074 + (t : Int) - ((0 : Nat) : Int)) = E := hE
  rw [hE']
  obtain ⟨u, hu⟩ : ∃ u, E.toNat = u := ⟨_, rfl⟩
  obtain ⟨d, hd⟩ : ∃ u, (-E).toNat = u := ⟨_, rfl⟩
  rw [hu, hd]
  have hD : blen (1 / 2 ^ 0 * 2 ^ d) = d + 1 := by
    rw [show (1 : Nat) / 2 ^ 0 * 2 ^ d = 2 ^ d by simp]
    exact blen_of _ d (Nat.le_refl _) (Nat.pow_lt_pow_right (by omega) (by omega))
  rw [hD, blen_shl h0]
  refine ⟨Nat.mul_ne_zero h0 (by have := Nat.two_pow_pos u; omega), ?_, by omega⟩
  have e1 : o * 2 ^ u * 2 ^ 52 = o * 2 ^ (53 - blen o) * 2 ^ (blen o + u - 1) := by
    rw [Nat.mul_assoc, Nat.mul_assoc, ← Nat.pow_add, ← Nat.pow_add]
    congr 2; omega
  rw [e1, Nat.mul_div_cancel _ (Nat.two_pow_pos _), hm, Nat.mul_comm (2 ^ t), Nat.mul_assoc, ← Nat.pow_add]
  congr 2; omega
/-- The loop that lays the first bit. -/
theorem hx_loop {b i : Nat} (h : fbF b ≠ 0) (hi : i ≤ 53 - blen (fbF b)) : (fbF b * 2 ^ i < 4503599627370496 ↔ i < 53 - blen (fbF b)) ∧ fbF b * 2 ^ i < 9007199254740992 := by
  have hF := fbF_blen b
  have hb := blen_shl (u := i) h
  refine ⟨?_, ?_⟩
  · have := blen_lt (fbF b * 2 ^ i) 52
    rw [hb] at this
    have e : (2 : Nat) ^ 52 = 4503599627370496 := by decide
    rw [e] at this
    omega
  · have := (blen_lt (fbF b * 2 ^ i) 53).1 (by omega)
    have e : (2 : Nat) ^ 53 = 9007199254740992 := by decide
    rw [e] at this
    exact this
theorem hx_more {b i : Nat} : fbF b * 2 ^ i * 2 = fbF b * 2 ^ (i + 1) := by rw [Nat.pow_succ, Nat.mul_assoc]
/-- The text. -/
def hxtext (b : Nat) : List UInt8 :=
  (if 9223372036854775808 ≤ b then [45] else []) ++ [48, 120, 49] ++ (if hxm b = 4503599627370496 then [] else 46 :: hexs 13 (hxm b - 4503599627370496)) ++ 112 :: Lib.itoa (hxe b)
end Go.Proofs.YtiadjcilfljdaaaDoor

/- Layer 5: plain words on the noughts at a number's end, and on the scientific form. -/
namespace Go.Proofs.YtiadjcilfljdaaaDoor
set_option linter.unusedVariables false
set_option linter.unusedSimpArgs false
open Go.RowKit Verge

/-- The noughts at the end of a number, counted. -/
def tz10 (n : Nat) : Nat := if h : 0 < n ∧ n % 10 = 0 then tz10 (n / 10) + 1 else 0
termination_by n
decreasing_by omega
/-- A number without the noughts at its end. -/
def core (n : Nat) : Nat := if h : 0 < n ∧ n % 10 = 0 then core (n / 10) else n
termination_by n
decreasing_by omega
theorem tz10_step {n : Nat} (h : 0 < n) (h0 : n % 10 = 0) : tz10 n = tz10 (n / 10) + 1 := by rw [tz10, dif_pos ⟨h, h0⟩]
theorem tz10_end {n : Nat} (h0 : n % 10 ≠ 0) : tz10 n = 0 := by rw [tz10, dif_neg (by omega)]
theorem core_step {n : Nat} (h : 0 < n) (h0 : n % 10 = 0) : core n = core (n / 10) := by rw [core, dif_pos ⟨h, h0⟩]
theorem core_end {n : Nat} (h0 : n % 10 ≠ 0) : core n = n := by rw [core, dif_neg (by omega)]
theorem core_pow {n : Nat} (h : 0 < n) : ∀ t, core (n * 10 ^ t) = core n ∧ tz10 (n * 10 ^ t) = tz10 n + t
  | 0 => by simp
  | t + 1 => by
    have hp : 0 < n * 10 ^ (t + 1) := Nat.mul_pos h (Nat.pow_pos (by omega))
    have e : n * 10 ^ (t + 1) = n * 10 ^ t * 10 := by rw [Nat.pow_succ, Nat.mul_assoc]
    have hm : n * 10 ^ (t + 1) % 10 = 0 := by rw [e]; omega
    have hd : n * 10 ^ (t + 1) / 10 = n * 10 ^ t := by rw [e]; omega
    obtain ⟨i1, i2⟩ := core_pow h t
    rw [core_step hp hm, tz10_step hp hm, hd, i1, i2]
    exact ⟨rfl, by omega⟩
theorem txt_some {n : Nat} (h : 0 < n) : 0 < (txt n).length := by rw [txt_step h, List.length_append]; simp
/-- The text of a number that ends in a nought. -/
theorem txt_ten {n : Nat} (h : 0 < n) (h0 : n % 10 = 0) : txt n = txt (n / 10) ++ [48] := by
  rw [txt_step h, h0]; rfl
theorem byte_nought (d : Nat) (h : d < 10) : (UInt8.ofNat (48 + d) = 48) ↔ d = 0 := by
  constructor
  · intro e
    have := congrArg UInt8.toNat e
    simp at this
    omega
  · rintro rfl; rfl
/-- The scientific form of digits, times 10 to the k. -/
def ftext (neg : Bool) (d : List UInt8) (k : Int) : List UInt8 :=
  (if neg = true then [45] else []) ++ (d.take 1 ++ (if 1 < d.length then 46 :: d.drop 1 else [])) ++ 101 :: Lib.itoa ((d.length : Int) - 1 + k)
/-- The program's digits are the document's, with as many noughts more as 2s were taken out. -/
theorem exact_law {b : Nat} (h : fbF b ≠ 0) {A k : Nat} (hA : A = fbF b * 2 ^ ((fbE b : Int) - 1074).toNat * 5 ^ (-((fbE b : Int) - 1074)).toNat) (hk : k = (-((fbE b : Int) - 1074)).toNat) :
    0 < A ∧ 0 < fbN b * 5 ^ (blen (fbD b) - 1) ∧ core A = core (fbN b * 5 ^ (blen (fbD b) - 1)) ∧ (tz10 A : Int) - k = (tz10 (fbN b * 5 ^ (blen (fbD b) - 1)) : Int) - ((blen (fbD b) - 1 : Nat) : Int) := by
  have n1 : ntz 1 = 0 := ntz_of 1 0 0 (by simp)
  obtain ⟨m, hm⟩ := ntz_spec (fbF b) h
  have hN : fbN b ≠ 0 := (hx_doc h).1
  have hA0 : 0 < A := by
    rw [hA]
    exact Nat.mul_pos (Nat.mul_pos (by omega) (Nat.two_pow_pos _)) (Nat.pow_pos (by omega))
  have hB0 : 0 < fbN b * 5 ^ (blen (fbD b) - 1) := Nat.mul_pos (by omega) (Nat.pow_pos (by omega))
  refine ⟨hA0, hB0, ?_⟩
  suffices hs : ∃ t, A = fbN b * 5 ^ (blen (fbD b) - 1) * 10 ^ t ∧ k = (blen (fbD b) - 1) + t by
    obtain ⟨t, e1, e2⟩ := hs
    obtain ⟨c1, c2⟩ := core_pow hB0 t
    rw [e1, c1, c2, e2]
    exact ⟨rfl, by omega⟩
  have hD : fbD b = 2 ^ (-((fbE b : Int) - 1074 + ntz (fbF b))).toNat := by
    unfold fbD fracD fracE
    rw [if_neg h, n1]
    simp
  have hNN : fbN b = (2 * m + 1) * 2 ^ ((fbE b : Int) - 1074 + ntz (fbF b)).toNat := by
    unfold fbN fracN fracE
    rw [if_neg h, n1]
    have ho : fbF b / 2 ^ ntz (fbF b) = 2 * m + 1 := Nat.div_eq_of_eq_mul_right (Nat.two_pow_pos _) hm
    rw [ho]
    simp
  have hbl : blen (fbD b) - 1 = (-((fbE b : Int) - 1074 + ntz (fbF b))).toNat := by
    rw [hD, blen_of _ _ (Nat.le_refl _) (Nat.pow_lt_pow_right (by omega) (by omega))]
    omega
  rw [hbl, hNN]
  generalize hE : (fbE b : Int) - 1074 = E at *
  generalize ntz (fbF b) = t at *
  rw [hm] at hA
  obtain ⟨u, hu⟩ : ∃ u, (-E).toNat = u := ⟨_, rfl⟩
  obtain ⟨v, hv⟩ : ∃ u, E.toNat = u := ⟨_, rfl⟩
  obtain ⟨x, hx⟩ : ∃ u, (-(E + t)).toNat = u := ⟨_, rfl⟩
  obtain ⟨y, hy⟩ : ∃ u, (E + t).toNat = u := ⟨_, rfl⟩
  rw [hu, hv] at hA
  rw [hu] at hk
  rw [hx, hy]
  refine ⟨u - x, ?_, by omega⟩
  have e10 : (10 : Nat) ^ (u - x) = 2 ^ (u - x) * 5 ^ (u - x) := by rw [← Nat.mul_pow]
  have e2 : t + v = y + (u - x) := by omega
  have e5 : u = x + (u - x) := by omega
  rw [hA, e10]
  have p2 : (2 : Nat) ^ t * 2 ^ v = 2 ^ y * 2 ^ (u - x) := by rw [← Nat.pow_add, ← Nat.pow_add, e2]
  have p5 : (5 : Nat) ^ u = 5 ^ x * 5 ^ (u - x) := by rw [← Nat.pow_add, ← e5]
  rw [p5]
  generalize (5 : Nat) ^ x = f at *
  generalize (5 : Nat) ^ (u - x) = g at *
  calc 2 ^ t * (2 * m + 1) * 2 ^ v * (f * g) = (2 ^ t * 2 ^ v) * ((2 * m + 1) * (f * g)) := by ac_rfl
    _ = (2 ^ y * 2 ^ (u - x)) * ((2 * m + 1) * (f * g)) := by rw [p2]
    _ = (2 * m + 1) * 2 ^ y * f * (2 ^ (u - x) * g) := by ac_rfl
theorem exact_k {b : Nat} (h : fbF b ≠ 0) : blen (fbD b) - 1 ≤ 1074 := by
  have n1 : ntz 1 = 0 := ntz_of 1 0 0 (by simp)
  have hD : fbD b = 2 ^ (-((fbE b : Int) - 1074 + ntz (fbF b))).toNat := by
    unfold fbD fracD fracE
    rw [if_neg h, n1]
    simp
  rw [hD, blen_of _ _ (Nat.le_refl _) (Nat.pow_lt_pow_right (by omega) (by omega))]
  omega
theorem five_blen (k : Nat) : blen (5 ^ k) ≤ 3 * k + 1 := by
  rw [blen_lt, Nat.pow_succ, Nat.pow_mul]
  have h1 : (5 : Nat) ^ k ≤ (2 ^ 3) ^ k := Nat.pow_le_pow_left (by omega) k
  have h2 := Nat.pow_pos (n := k) (show 0 < (2 : Nat) ^ 3 by decide)
  omega
theorem blen_mul_le {x y i j : Nat} (h1 : blen x ≤ i) (h2 : blen y ≤ j) : blen (x * y) ≤ i + j := by
  rw [blen_lt] at *
  rw [Nat.pow_add]
  rcases Nat.eq_zero_or_pos y with h | h
  · subst h; rw [Nat.mul_zero]; exact Nat.mul_pos (Nat.two_pow_pos _) (Nat.two_pow_pos _)
  · exact Nat.lt_of_lt_of_le (Nat.mul_lt_mul_of_pos_right h1 h) (Nat.mul_le_mul_left _ (Nat.le_of_lt h2))
end Go.Proofs.YtiadjcilfljdaaaDoor
end

section
namespace Go.Proofs.YtiadjcilfljdaaaDoor
set_option linter.unusedVariables false
set_option linter.unusedSimpArgs false
open Go.RowKit Verge

theorem dig_byte {v : Nat} (hv : v < 10) : isD (UInt8.ofNat (48 + v)) = true ∧ dvl (UInt8.ofNat (48 + v)) = v := by
  have h : (UInt8.ofNat (48 + v)).toNat = 48 + v := by rw [UInt8.toNat_ofNat']; omega
  unfold isD dvl
  rw [h]
  exact ⟨decide_eq_true (by omega), by rw [if_pos (by omega)]; omega⟩
theorem numB_push (s : List UInt8) (c : UInt8) : numB 10 (s ++ [c]) = numB 10 s * 10 + dvl c := by unfold numB; rw [List.foldl_append]; rfl
theorem dd_law (n : Nat) : (∀ c ∈ Lib.decDigits n, isD c = true) ∧ numB 10 (Lib.decDigits n) = n ∧ Lib.decDigits n ≠ [] := by
  induction n using Nat.strongRecOn with
  | _ n ih =>
    rw [Lib.decDigits]
    by_cases h : n < 10
    · rw [dif_pos h]
      refine ⟨fun c hc => ?_, ?_, by simp⟩
      · rw [List.mem_singleton] at hc; subst hc; exact (dig_byte h).1
      · have := numB_push [] (UInt8.ofNat (48 + n))
        rw [List.nil_append] at this
        rw [this, (dig_byte h).2]; simp [numB]
    · rw [dif_neg h]
      obtain ⟨i1, i2, i3⟩ := ih (n / 10) (by omega)
      have hb := dig_byte (v := n % 10) (by omega)
      refine ⟨fun c hc => ?_, ?_, by simp⟩
      · rcases List.mem_append.1 hc with hc | hc
        · exact i1 c hc
        · rw [List.mem_singleton] at hc; subst hc; exact hb.1
      · rw [numB_push, i2, hb.2]; omega
theorem txt_dig (n : Nat) : ∀ c ∈ txt n, isD c = true := by
  unfold txt; split
  · intro c hc; simp at hc
  · exact (dd_law n).1
theorem txt_num (n : Nat) : numB 10 (txt n) = n := by
  unfold txt; split
  · rename_i h; rw [h]; rfl
  · exact (dd_law n).2.1
theorem tw_all {p : UInt8 → Bool} : ∀ {l : List UInt8}, (∀ c ∈ l, p c = true) → l.takeWhile p = l ∧ l.dropWhile p = []
  | [], _ => ⟨rfl, rfl⟩
  | c :: l, h => by
    have hc := h c (by simp)
    have ih := tw_all (l := l) fun z hz => h z (by simp [hz])
    rw [List.takeWhile_cons, List.dropWhile_cons, hc, ih.1, ih.2]
    exact ⟨rfl, rfl⟩
theorem tw_app {p : UInt8 → Bool} {x : UInt8} {r : List UInt8} (hx : p x = false) : ∀ {l : List UInt8}, (∀ c ∈ l, p c = true) → (l ++ x :: r).takeWhile p = l ∧ (l ++ x :: r).dropWhile p = x :: r
  | [], _ => by rw [List.nil_append, List.takeWhile_cons, List.dropWhile_cons, hx]; exact ⟨rfl, rfl⟩
  | c :: l, h => by
    have hc := h c (by simp)
    have ih := tw_app (r := r) hx (l := l) fun z hz => h z (by simp [hz])
    rw [List.cons_append, List.takeWhile_cons, List.dropWhile_cons, hc, ih.1, ih.2]
    exact ⟨rfl, rfl⟩
theorem isD_not {c : UInt8} (h : isD c = true) : c.toNat ≠ 45 ∧ c.toNat ≠ 43 := by
  have := of_decide_eq_true h; omega
theorem fsg_dig {l : List UInt8} (h : ∀ c ∈ l, isD c = true) (r : List UInt8) (h0 : l ≠ []) : sg (l ++ r) = (false, l ++ r) := by
  cases l with
  | nil => exact absurd rfl h0
  | cons c l =>
    have := isD_not (h c (by simp))
    rw [List.cons_append]
    show (if c.toNat = 45 then (true, l ++ r) else if c.toNat = 43 then (false, l ++ r) else (false, c :: (l ++ r))) = _
    rw [if_neg this.1, if_neg this.2]
theorem sg_itoa (e : Int) : sg (Lib.itoa e) = (decide (e < 0), Lib.decDigits e.natAbs) := by
  obtain ⟨h1, h2, h3⟩ := dd_law e.natAbs
  unfold Lib.itoa
  by_cases h : e < 0
  · rw [if_pos h, decide_eq_true h]; rfl
  · rw [if_neg h, decide_eq_false h, show e.toNat = e.natAbs by omega]
    have := fsg_dig h1 [] h3
    rw [List.append_nil] at this
    exact this
theorem xvl_itoa (e : Int) : xvl (Lib.itoa e) = e := by
  unfold xvl
  rw [sg_itoa, (dd_law e.natAbs).2.1]
  by_cases h : e < 0
  · rw [if_pos (decide_eq_true h)]; omega
  · rw [if_neg (by simp [h])]; omega
theorem xpo_itoa (e : Int) : xpo (Lib.itoa e) = .ok (Lib.itoa e) := by
  obtain ⟨h1, h2, h3⟩ := dd_law e.natAbs
  unfold xpo
  rw [sg_itoa, if_neg]
  simp only [(tw_all h1).1, (tw_all h1).2]
  simp [h3]
theorem cutD_ftext (c : UInt8) (t : List UInt8) (hc : isD c = true) (ht : ∀ z ∈ t, isD z = true) (E : Int) :
    cutD (c :: ((if t = [] then [] else 46 :: t) ++ 101 :: Lib.itoa E)) = .ok (.dc [c] (if t = [] then none else some t) (some (Lib.itoa E))) := by
  have h1 : isD 101 = false := by decide
  have h2 : isD 46 = false := by decide
  unfold cutD ptd
  by_cases h : t = []
  · subst h
    obtain ⟨a1, a2⟩ := tw_app (p := isD) (x := 101) (r := Lib.itoa E) h1 (l := [c]) (by simpa using hc)
    rw [List.cons_append, List.nil_append] at a1 a2
    rw [if_pos rfl, if_pos rfl, List.nil_append, a1, a2]
    simp [xpo_itoa]
  · obtain ⟨a1, a2⟩ := tw_app (p := isD) (x := 46) (r := t ++ 101 :: Lib.itoa E) h2 (l := [c]) (by simpa using hc)
    rw [List.cons_append, List.nil_append] at a1 a2
    obtain ⟨b1, b2⟩ := tw_app (p := isD) (x := 101) (r := Lib.itoa E) h1 (l := t) ht
    rw [if_neg h, if_neg h, List.cons_append, a1, a2]
    simp [b1, b2, xpo_itoa]
theorem cut_ftext (neg : Bool) (c : UInt8) (t : List UInt8) (hc : isD c = true) (ht : ∀ z ∈ t, isD z = true) (k : Int) :
    cut (ftext neg (c :: t) k) = .ok (neg, .dc [c] (if t = [] then none else some t) (some (Lib.itoa (((c :: t).length : Int) - 1 + k)))) := by
  have e : ftext neg (c :: t) k = (if neg = true then [45] else []) ++ c :: ((if t = [] then [] else 46 :: t) ++ 101 :: Lib.itoa (((c :: t).length : Int) - 1 + k)) := by
    unfold ftext
    cases t with
    | nil => simp
    | cons x t => simp
  rw [e]
  generalize (((c :: t).length : Int) - 1 + k) = E
  obtain ⟨r, hr⟩ : ∃ r, (if t = [] then [] else 46 :: t) ++ 101 :: Lib.itoa E = r := ⟨_, rfl⟩
  have hs : sg ((if neg = true then [45] else []) ++ c :: r) = (neg, c :: r) := by
    cases neg
    · have := fsg_dig (l := [c]) (by simpa using hc) r (by simp)
      simpa using this
    · rfl
  have hx : hexy (c :: r) = none := by
    have : ∃ x s, r = x :: s ∧ x.toNat ≠ 120 ∧ x.toNat ≠ 88 := by
      rw [← hr]
      by_cases h : t = []
      · rw [if_pos h]; exact ⟨101, _, rfl, by decide, by decide⟩
      · rw [if_neg h]; exact ⟨46, _, rfl, by decide, by decide⟩
    obtain ⟨x, s, rfl, x1, x2⟩ := this
    show (if c.toNat = 48 ∧ (x.toNat = 120 ∨ x.toNat = 88) then some s else none) = none
    rw [if_neg (by omega)]
  unfold cut
  rw [hr, hs]
  simp only [hx]
  rw [← hr, cutD_ftext c t hc ht E]
  rfl
/-- A text of digits and an exponent is scanned to its number. -/
theorem scn_ftext (neg : Bool) (d : List UInt8) (hd : ∀ z ∈ d, isD z = true) (h1 : 1 ≤ d.length) (h2 : d.length ≤ 4000) (k : Int) (k1 : -9999 ≤ (d.length : Int) - 1 + k) (k2 : (d.length : Int) - 1 + k ≤ 9999) :
    scn (ftext neg d k) = .ok (neg, numB 10 d * 10 ^ k.toNat, 10 ^ (-k).toNat, 0) := by
  cases d with
  | nil => simp at h1
  | cons c t =>
    have hl : (ftext neg (c :: t) k).length ≤ 4096 := by
      have := Lib.itoa_length_le (((c :: t).length : Int) - 1 + k) (by omega) (by omega)
      have a1 : ((if neg = true then [45] else []) : List UInt8).length ≤ 1 := by cases neg <;> simp
      have a2 : ((if 1 < (c :: t).length then 46 :: (c :: t).drop 1 else []) : List UInt8).length ≤ 4000 := by split <;> simp at * <;> omega
      have a3 : ((c :: t).take 1).length ≤ 1 := by simp
      unfold ftext
      rw [List.length_append, List.length_append, List.length_append]
      have a4 : (101 :: Lib.itoa (((c :: t).length : Int) - 1 + k)).length = (Lib.itoa (((c :: t).length : Int) - 1 + k)).length + 1 := List.length_cons
      omega
    unfold scn
    rw [if_neg (by omega), cut_ftext neg c t (hd c (by simp)) (fun z hz => hd z (by simp [hz])) k]
    have hlate : Pc.late (.dc [c] (if t = [] then none else some t) (some (Lib.itoa (((c :: t).length : Int) - 1 + k)))) = none := by
      unfold Pc.late
      simp only
      rw [sg_itoa, (dd_law _).2.1, if_neg (by omega)]
    have hten : Pc.ten (if t = [] then none else some t) (some (Lib.itoa (((c :: t).length : Int) - 1 + k))) = k := by
      unfold Pc.ten
      simp only [xvl_itoa]
      by_cases h : t = []
      · subst h; simp [ob]
      · rw [if_neg h]; simp [ob]; omega
    have hob : [c] ++ ob (if t = [] then none else some t) = c :: t := by
      by_cases h : t = []
      · subst h; rfl
      · rw [if_neg h]; rfl
    simp only [hlate]
    unfold Pc.num Pc.den Pc.two
    simp only [hten, hob]
end Go.Proofs.YtiadjcilfljdaaaDoor
end
