/- Layer 5, plain: a text of digits and an exponent is scanned to its number. -/
import Derived.Test.YtcomkgmonhidhaaGreatDoorG21
import Derived.Test.YtcomkgmonhidhaaGreatDoorG04
import Derived.Lib.ItoaLen
namespace Go.Proofs.YtcomkgmonhidhaaGreatDoor
set_option linter.unusedVariables false
set_option linter.unusedSimpArgs false
open Go.RowKit Verge

theorem dig_byte {v : Nat} (hv : v < 10) : isD (UInt8.ofNat (48 + v)) = true ∧ dvl (UInt8.ofNat (48 + v)) = v := by
  have h : (UInt8.ofNat (48 + v)).toNat = 48 + v := by rw [UInt8.toNat_ofNat']; omega
  unfold isD dvl
  rw [h]
  exact ⟨decide_eq_true (by omega), by rw [if_pos (by omega)]; omega⟩
theorem numB_push (s : List UInt8) (c : UInt8) : numB 10 (s ++ [c]) = numB 10 s * 10 + dvl c := by unfold numB; rw [List.foldl_append]; rfl
theorem dd_law (n : Nat) : (∀ c ∈ Lib.decDigits n, isD c = true) ∧ numB 10 (Lib.decDigits n) = n ∧ Lib.decDigits n ≠ [] := by
  induction n using Nat.strongRecOn with
  | _ n ih =>
    rw [Lib.decDigits]
    by_cases h : n < 10
    · rw [dif_pos h]
      refine ⟨fun c hc => ?_, ?_, by simp⟩
      · rw [List.mem_singleton] at hc; subst hc; exact (dig_byte h).1
      · have := numB_push [] (UInt8.ofNat (48 + n))
        rw [List.nil_append] at this
        rw [this, (dig_byte h).2]; simp [numB]
    · rw [dif_neg h]
      obtain ⟨i1, i2, i3⟩ := ih (n / 10) (by omega)
      have hb := dig_byte (v := n % 10) (by omega)
      refine ⟨fun c hc => ?_, ?_, by simp⟩
      · rcases List.mem_append.1 hc with hc | hc
        · exact i1 c hc
        · rw [List.mem_singleton] at hc; subst hc; exact hb.1
      · rw [numB_push, i2, hb.2]; omega
theorem txt_dig (n : Nat) : ∀ c ∈ txt n, isD c = true := by
  unfold txt; split
  · intro c hc; simp at hc
  · exact (dd_law n).1
theorem txt_num (n : Nat) : numB 10 (txt n) = n := by
  unfold txt; split
  · rename_i h; rw [h]; rfl
  · exact (dd_law n).2.1
theorem tw_all {p : UInt8 → Bool} : ∀ {l : List UInt8}, (∀ c ∈ l, p c = true) → l.takeWhile p = l ∧ l.dropWhile p = []
  | [], _ => ⟨rfl, rfl⟩
  | c :: l, h => by
    have hc := h c (by simp)
    have ih := tw_all (l := l) fun z hz => h z (by simp [hz])
    rw [List.takeWhile_cons, List.dropWhile_cons, hc, ih.1, ih.2]
    exact ⟨rfl, rfl⟩
theorem tw_app {p : UInt8 → Bool} {x : UInt8} {r : List UInt8} (hx : p x = false) : ∀ {l : List UInt8}, (∀ c ∈ l, p c = true) → (l ++ x :: r).takeWhile p = l ∧ (l ++ x :: r).dropWhile p = x :: r
  | [], _ => by rw [List.nil_append, List.takeWhile_cons, List.dropWhile_cons, hx]; exact ⟨rfl, rfl⟩
  | c :: l, h => by
    have hc := h c (by simp)
    have ih := tw_app (r := r) hx (l := l) fun z hz => h z (by simp [hz])
    rw [List.cons_append, List.takeWhile_cons, List.dropWhile_cons, hc, ih.1, ih.2]
    exact ⟨rfl, rfl⟩
theorem isD_not {c : UInt8} (h : isD c = true) : c.toNat ≠ 45 ∧ c.toNat ≠ 43 := by
  have := of_decide_eq_true h; omega
theorem fsg_dig {l : List UInt8} (h : ∀ c ∈ l, isD c = true) (r : List UInt8) (h0 : l ≠ []) : sg (l ++ r) = (false, l ++ r) := by
  cases l with
  | nil => exact absurd rfl h0
  | cons c l =>
    have := isD_not (h c (by simp))
    rw [List.cons_append]
    show (if c.toNat = 45 then (true, l ++ r) else if c.toNat = 43 then (false, l ++ r) else (false, c :: (l ++ r))) = _
    rw [if_neg this.1, if_neg this.2]
theorem sg_itoa (e : Int) : sg (Lib.itoa e) = (decide (e < 0), Lib.decDigits e.natAbs) := by
  obtain ⟨h1, h2, h3⟩ := dd_law e.natAbs
  unfold Lib.itoa
  by_cases h : e < 0
  · rw [if_pos h, decide_eq_true h]; rfl
  · rw [if_neg h, decide_eq_false h, show e.toNat = e.natAbs by omega]
    have := fsg_dig h1 [] h3
    rw [List.append_nil] at this
    exact this
theorem xvl_itoa (e : Int) : xvl (Lib.itoa e) = e := by
  unfold xvl
  rw [sg_itoa, (dd_law e.natAbs).2.1]
  by_cases h : e < 0
  · rw [if_pos (decide_eq_true h)]; omega
  · rw [if_neg (by simp [h])]; omega
theorem xpo_itoa (e : Int) : xpo (Lib.itoa e) = .ok (Lib.itoa e) := by
  obtain ⟨h1, h2, h3⟩ := dd_law e.natAbs
  unfold xpo
  rw [sg_itoa, if_neg]
  simp only [(tw_all h1).1, (tw_all h1).2]
  simp [h3]
theorem cutD_ftext (c : UInt8) (t : List UInt8) (hc : isD c = true) (ht : ∀ z ∈ t, isD z = true) (E : Int) :
    cutD (c :: ((if t = [] then [] else 46 :: t) ++ 101 :: Lib.itoa E)) = .ok (.dc [c] (if t = [] then none else some t) (some (Lib.itoa E))) := by
  have h1 : isD 101 = false := by decide
  have h2 : isD 46 = false := by decide
  unfold cutD ptd
  by_cases h : t = []
  · subst h
    obtain ⟨a1, a2⟩ := tw_app (p := isD) (x := 101) (r := Lib.itoa E) h1 (l := [c]) (by simpa using hc)
    rw [List.cons_append, List.nil_append] at a1 a2
    rw [if_pos rfl, if_pos rfl, List.nil_append, a1, a2]
    simp [xpo_itoa]
  · obtain ⟨a1, a2⟩ := tw_app (p := isD) (x := 46) (r := t ++ 101 :: Lib.itoa E) h2 (l := [c]) (by simpa using hc)
    rw [List.cons_append, List.nil_append] at a1 a2
    obtain ⟨b1, b2⟩ := tw_app (p := isD) (x := 101) (r := Lib.itoa E) h1 (l := t) ht
    rw [if_neg h, if_neg h, List.cons_append, a1, a2]
    simp [b1, b2, xpo_itoa]
theorem cut_ftext (neg : Bool) (c : UInt8) (t : List UInt8) (hc : isD c = true) (ht : ∀ z ∈ t, isD z = true) (k : Int) :
    cut (ftext neg (c :: t) k) = .ok (neg, .dc [c] (if t = [] then none else some t) (some (Lib.itoa (((c :: t).length : Int) - 1 + k)))) := by
  have e : ftext neg (c :: t) k = (if neg = true then [45] else []) ++ c :: ((if t = [] then [] else 46 :: t) ++ 101 :: Lib.itoa (((c :: t).length : Int) - 1 + k)) := by
    unfold ftext
    cases t with
    | nil => simp
    | cons x t => simp
  rw [e]
  generalize (((c :: t).length : Int) - 1 + k) = E
  obtain ⟨r, hr⟩ : ∃ r, (if t = [] then [] else 46 :: t) ++ 101 :: Lib.itoa E = r := ⟨_, rfl⟩
  have hs : sg ((if neg = true then [45] else []) ++ c :: r) = (neg, c :: r) := by
    cases neg
    · have := fsg_dig (l := [c]) (by simpa using hc) r (by simp)
      simpa using this
    · rfl
  have hx : hexy (c :: r) = none := by
    have : ∃ x s, r = x :: s ∧ x.toNat ≠ 120 ∧ x.toNat ≠ 88 := by
      rw [← hr]
      by_cases h : t = []
      · rw [if_pos h]; exact ⟨101, _, rfl, by decide, by decide⟩
      · rw [if_neg h]; exact ⟨46, _, rfl, by decide, by decide⟩
    obtain ⟨x, s, rfl, x1, x2⟩ := this
    show (if c.toNat = 48 ∧ (x.toNat = 120 ∨ x.toNat = 88) then some s else none) = none
    rw [if_neg (by omega)]
  unfold cut
  rw [hr, hs]
  simp only [hx]
  rw [← hr, cutD_ftext c t hc ht E]
  rfl
/-- A text of digits and an exponent is scanned to its number. -/
theorem scn_ftext (neg : Bool) (d : List UInt8) (hd : ∀ z ∈ d, isD z = true) (h1 : 1 ≤ d.length) (h2 : d.length ≤ 4000) (k : Int) (k1 : -9999 ≤ (d.length : Int) - 1 + k) (k2 : (d.length : Int) - 1 + k ≤ 9999) :
    scn (ftext neg d k) = .ok (neg, numB 10 d * 10 ^ k.toNat, 10 ^ (-k).toNat, 0) := by
  cases d with
  | nil => simp at h1
  | cons c t =>
    have hl : (ftext neg (c :: t) k).length ≤ 4096 := by
      have := Lib.itoa_length_le (((c :: t).length : Int) - 1 + k) (by omega) (by omega)
      have a1 : ((if neg = true then [45] else []) : List UInt8).length ≤ 1 := by cases neg <;> simp
      have a2 : ((if 1 < (c :: t).length then 46 :: (c :: t).drop 1 else []) : List UInt8).length ≤ 4000 := by split <;> simp at * <;> omega
      have a3 : ((c :: t).take 1).length ≤ 1 := by simp
      unfold ftext
      rw [List.length_append, List.length_append, List.length_append]
      have a4 : (101 :: Lib.itoa (((c :: t).length : Int) - 1 + k)).length = (Lib.itoa (((c :: t).length : Int) - 1 + k)).length + 1 := List.length_cons
      omega
    unfold scn
    rw [if_neg (by omega), cut_ftext neg c t (hd c (by simp)) (fun z hz => hd z (by simp [hz])) k]
    have hlate : Pc.late (.dc [c] (if t = [] then none else some t) (some (Lib.itoa (((c :: t).length : Int) - 1 + k)))) = none := by
      unfold Pc.late
      simp only
      rw [sg_itoa, (dd_law _).2.1, if_neg (by omega)]
    have hten : Pc.ten (if t = [] then none else some t) (some (Lib.itoa (((c :: t).length : Int) - 1 + k))) = k := by
      unfold Pc.ten
      simp only [xvl_itoa]
      by_cases h : t = []
      · subst h; simp [ob]
      · rw [if_neg h]; simp [ob]; omega
    have hob : [c] ++ ob (if t = [] then none else some t) = c :: t := by
      by_cases h : t = []
      · subst h; rfl
      · rw [if_neg h]; rfl
    simp only [hlate]
    unfold Pc.num Pc.den Pc.two
    simp only [hten, hob]
end Go.Proofs.YtcomkgmonhidhaaGreatDoor
