/- Layer 5, the program: what numeral is to answer, plain. -/
import Derived.Test.YtiadjcilfljdaaaRdrG
namespace Go.Proofs.Ytiadjcilfljdaaa
set_option linter.unusedVariables false
set_option linter.unusedSimpArgs false
open Go.RowKit Verge

def NumAns (w : World) (b : Nat) : Except (Nat × Int) (Bool × Nat × Nat × Int) → Ending → World → Prop
  | .error (p, c), e, w' => NumNo w b p c e w'
  | .ok (n, N, D, K), e, w' => NumOk w b n N D K e w'
/-- The end of numeral: something is left; or a late fault; or the numeral. -/
def fin (l r : List UInt8) (n : Bool) (N M : Nat) (k x y : Int) : Except (Nat × Int) (Bool × Nat × Nat × Int) :=
  if r ≠ [] then .error (l.length - r.length, 50) else if y ≠ 0 then .error (x.toNat, y) else .ok (n, N, M, k)
theorem fin_left {l r : List UInt8} {n : Bool} {N M : Nat} {k x y : Int} (h : r ≠ []) : fin l r n N M k x y = .error (l.length - r.length, 50) := if_pos h
theorem fin_late {l : List UInt8} {n : Bool} {N M : Nat} {k x y : Int} (h : y ≠ 0) : fin l [] n N M k x y = .error (x.toNat, y) := by
  unfold fin; rw [if_neg (by simp), if_pos h]
theorem fin_ok {l : List UInt8} {n : Bool} {N M : Nat} {k x : Int} : fin l [] n N M k x 0 = .ok (n, N, M, k) := by
  unfold fin; rw [if_neg (by simp), if_neg (by simp)]

variable {l : List UInt8}
theorem scn_err (hl : l.length ≤ 4096) {k : Nat} (h : cut l = .error k) : scn l = .error (l.length - k, 50) := by
  unfold scn; rw [if_neg (by omega), h]
theorem scn_ok (hl : l.length ≤ 4096) {n : Bool} {p : Pc} (h : cut l = .ok (n, p)) : scn l = match p.late with | some (k, c) => .error (l.length - k, c) | none => .ok (n, p.num, p.den, p.two) := by
  unfold scn; rw [if_neg (by omega), h]
  rfl
theorem cut_hx {t : List UInt8} (hh : hexy (sg l).2 = some t) : cut l = (cutH t).map fun p => ((sg l).1, p) := by unfold cut; rw [hh]
theorem cut_dc (hh : hexy (sg l).2 = none) : cut l = (cutD (sg l).2).map fun p => ((sg l).1, p) := by unfold cut; rw [hh]
theorem xpo_all {s d u : List UInt8} (hd : (sg s).2.takeWhile isD = d) (hu : (sg s).2.dropWhile isD = u) : xpo s = if d = [] ∨ u ≠ [] then .error u.length else .ok s := by
  unfold xpo; rw [hd, hu]
theorem sg_dig {s d : List UInt8} (hd : (sg s).2.takeWhile isD = d) (hu : (sg s).2.dropWhile isD = []) : (sg s).2 = d := by
  have h1 := List.takeWhile_append_dropWhile (p := isD) (l := (sg s).2)
  rw [hd, hu, List.append_nil] at h1
  exact h1.symm
def xnum (n : Bool) (d : List UInt8) : Int := if n then -((min (numB 10 d) 9999 : Nat) : Int) else ((min (numB 10 d) 9999 : Nat) : Int)
theorem xnum_le (n : Bool) (d : List UInt8) : -9999 ≤ xnum n d ∧ xnum n d ≤ 9999 := by unfold xnum; split <;> omega
theorem xnum_ok {s d : List UInt8} (hd : (sg s).2.takeWhile isD = d) (hu : (sg s).2.dropWhile isD = []) (hlate : ¬ 9999 < numB 10 d) : xnum (sg s).1 d = xvl s := by
  unfold xvl xnum
  rw [sg_dig hd hu, Nat.min_eq_left (by omega)]
theorem lateO_no {p x : Nat} (h : ¬ 9999 < x) : lateO p x = (0, 0) := if_neg h
theorem lateO_is {p x : Nat} (h : 9999 < x) : lateO p x = ((p : Int), 51) := if_pos h

section hex
variable {t : List UInt8} (hl : l.length ≤ 4096) (hh : hexy (sg l).2 = some t)
include hl hh
theorem hx_e1 {k : Nat} (hp : ptd isX t = .error k) : scn l = .error (l.length - k, 50) := by
  refine scn_err hl ?_
  rw [cut_hx hh]; unfold cutH; rw [hp]; rfl
theorem hx_e2 {a : List UInt8} {b : Option (List UInt8)} {r : List UInt8} (hp : ptd isX t = .ok (a, b, r)) (h : (isR [112, 80] r).1 = false) : scn l = .error (l.length - r.length, 50) := by
  refine scn_err hl ?_
  rw [cut_hx hh]; unfold cutH; rw [hp]
  cases r with
  | nil => rfl
  | cons c s =>
    dsimp only
    have hc : ¬ (c.toNat = 112 ∨ c.toNat = 80) := by
      intro hc
      rw [isR_two (j := 112) (k := 80) hc] at h
      cases h
    rw [if_neg hc]; rfl
theorem hx_e3 {a : List UInt8} {b : Option (List UInt8)} {c : UInt8} {s u : List UInt8} (hp : ptd isX t = .ok (a, b, c :: s)) (hc : c.toNat = 112 ∨ c.toNat = 80) (hd : (sg s).2.takeWhile isD = []) (hu : (sg s).2.dropWhile isD = u) :
    scn l = .error (l.length - u.length, 50) := by
  refine scn_err hl ?_
  rw [cut_hx hh]; unfold cutH; rw [hp]
  dsimp only
  rw [if_pos hc, xpo_all hd hu, if_pos (.inl rfl)]; rfl
theorem hx_ok {a : List UInt8} {b : Option (List UInt8)} {c : UInt8} {s d u : List UInt8} (hp : ptd isX t = .ok (a, b, c :: s)) (hc : c.toNat = 112 ∨ c.toNat = 80) (hd : (sg s).2.takeWhile isD = d) (hu : (sg s).2.dropWhile isD = u) (hne : d ≠ []) :
    scn l = fin l u (sg l).1 (numB 16 (a ++ ob b)) 1 (xnum (sg s).1 d - 4 * ((ob b).length : Int)) (lateO (l.length - (sg s).2.length) (numB 10 d)).1 (lateO (l.length - (sg s).2.length) (numB 10 d)).2 := by
  have hcut : cut l = (cutH t).map fun p => ((sg l).1, p) := cut_hx hh
  unfold cutH at hcut
  rw [hp] at hcut
  dsimp only at hcut
  rw [if_pos hc, xpo_all hd hu] at hcut
  by_cases h0 : u = []
  · subst h0
    rw [if_neg (by simp [hne])] at hcut
    rw [scn_ok hl hcut]
    have he := sg_dig hd hu
    by_cases hlate : 9999 < numB 10 d
    · rw [lateO_is hlate, fin_late (by simp)]
      have : (Pc.hx a b s).late = some ((sg s).2.length, 51) := if_pos (by rw [he]; exact hlate)
      rw [this]
      simp
    · rw [lateO_no hlate, fin_ok]
      have : (Pc.hx a b s).late = none := if_neg (by rw [he]; exact hlate)
      rw [this, xnum_ok hd hu hlate]
      rfl
  · rw [if_pos (.inr h0)] at hcut
    rw [scn_err hl hcut, fin_left h0]
end hex
section dec
variable (hl : l.length ≤ 4096) (hh : hexy (sg l).2 = none)
include hl hh
theorem dc_e1 {k : Nat} (hp : ptd isD (sg l).2 = .error k) : scn l = .error (l.length - k, 50) := by
  refine scn_err hl ?_
  rw [cut_dc hh]; unfold cutD; rw [hp]; rfl
theorem fr_e {a : List UInt8} {c : UInt8} {s u : List UInt8} (hp : ptd isD (sg l).2 = .ok (a, none, c :: s)) (hc : c.toNat = 47) (hd : s.takeWhile isD = []) (hu : s.dropWhile isD = u) : scn l = .error (l.length - u.length, 50) := by
  refine scn_err hl ?_
  rw [cut_dc hh]; unfold cutD; rw [hp]
  dsimp only
  rw [if_pos ⟨rfl, hc⟩, hd, hu, if_pos (.inl rfl)]; rfl
theorem fr_ok {a : List UInt8} {c : UInt8} {s d u : List UInt8} (hp : ptd isD (sg l).2 = .ok (a, none, c :: s)) (hc : c.toNat = 47) (hd : s.takeWhile isD = d) (hu : s.dropWhile isD = u) (hne : d ≠ []) :
    scn l = fin l u (sg l).1 (numB 10 a) (numB 10 d) 0 (if numB 10 d = 0 then ((l.length - s.length : Nat) : Int) else 0) (if numB 10 d = 0 then 50 else 0) := by
  have hcut : cut l = (cutD (sg l).2).map fun p => ((sg l).1, p) := cut_dc hh
  unfold cutD at hcut
  rw [hp] at hcut
  dsimp only at hcut
  rw [if_pos ⟨rfl, hc⟩, hd, hu] at hcut
  by_cases h0 : u = []
  · subst h0
    rw [if_neg (by simp [hne])] at hcut
    rw [scn_ok hl hcut]
    have he : s = d := by
      have h1 := List.takeWhile_append_dropWhile (p := isD) (l := s)
      rw [hd, hu, List.append_nil] at h1
      exact h1.symm
    by_cases hz : numB 10 d = 0
    · rw [if_pos hz, if_pos hz, fin_late (by simp)]
      have : (Pc.fr a s).late = some (s.length, 50) := if_pos (by rw [he]; exact hz)
      rw [this]
      simp
    · rw [if_neg hz, if_neg hz, fin_ok]
      have : (Pc.fr a s).late = none := if_neg (by rw [he]; exact hz)
      rw [this, he]
      rfl
  · rw [if_pos (.inr h0)] at hcut
    rw [scn_err hl hcut, fin_left h0]
theorem dc_e3 {a : List UInt8} {b : Option (List UInt8)} {c : UInt8} {s u : List UInt8} (hp : ptd isD (sg l).2 = .ok (a, b, c :: s)) (hc : c.toNat = 101 ∨ c.toNat = 69) (hd : (sg s).2.takeWhile isD = []) (hu : (sg s).2.dropWhile isD = u) :
    scn l = .error (l.length - u.length, 50) := by
  refine scn_err hl ?_
  rw [cut_dc hh]; unfold cutD; rw [hp]
  dsimp only
  rw [if_neg (by omega), if_pos hc, xpo_all hd hu, if_pos (.inl rfl)]; rfl
theorem dc_ex {a : List UInt8} {b : Option (List UInt8)} {c : UInt8} {s d u : List UInt8} (hp : ptd isD (sg l).2 = .ok (a, b, c :: s)) (hc : c.toNat = 101 ∨ c.toNat = 69) (hd : (sg s).2.takeWhile isD = d) (hu : (sg s).2.dropWhile isD = u) (hne : d ≠ []) {X : Int} (hX : X = xnum (sg s).1 d - ((ob b).length : Int)) :
    scn l = fin l u (sg l).1 (numB 10 (a ++ ob b) * 10 ^ X.toNat) (10 ^ (-X).toNat) 0 (lateO (l.length - (sg s).2.length) (numB 10 d)).1 (lateO (l.length - (sg s).2.length) (numB 10 d)).2 := by
  have hcut : cut l = (cutD (sg l).2).map fun p => ((sg l).1, p) := cut_dc hh
  unfold cutD at hcut
  rw [hp] at hcut
  dsimp only at hcut
  rw [if_neg (by omega), if_pos hc, xpo_all hd hu] at hcut
  by_cases h0 : u = []
  · subst h0
    rw [if_neg (by simp [hne])] at hcut
    rw [scn_ok hl hcut]
    have he := sg_dig hd hu
    by_cases hlate : 9999 < numB 10 d
    · rw [lateO_is hlate, fin_late (by simp)]
      have : (Pc.dc a b (some s)).late = some ((sg s).2.length, 51) := if_pos (by rw [he]; exact hlate)
      rw [this]
      simp
    · rw [lateO_no hlate, fin_ok]
      have : (Pc.dc a b (some s)).late = none := if_neg (by rw [he]; exact hlate)
      rw [this, hX, xnum_ok hd hu hlate]
      rfl
  · rw [if_pos (.inr h0)] at hcut
    rw [scn_err hl hcut, fin_left h0]
/-- Neither a slash (without a point) nor an e follows. -/
theorem dc_no {a : List UInt8} {b : Option (List UInt8)} {r : List UInt8} (hp : ptd isD (sg l).2 = .ok (a, b, r)) (h1 : b = none → (isR [47] r).1 = false) (h2 : (isR [101, 69] r).1 = false) {X : Int} (hX : X = 0 - ((ob b).length : Int)) :
    scn l = fin l r (sg l).1 (numB 10 (a ++ ob b) * 10 ^ X.toNat) (10 ^ (-X).toNat) 0 0 0 := by
  have hcut : cut l = (cutD (sg l).2).map fun p => ((sg l).1, p) := cut_dc hh
  unfold cutD at hcut
  rw [hp] at hcut
  cases r with
  | nil =>
    dsimp only at hcut
    rw [scn_ok hl hcut, fin_ok, hX]
    rfl
  | cons c s =>
    dsimp only at hcut
    have h3 : ¬ (b = none ∧ c.toNat = 47) := by
      rintro ⟨hb, hc⟩
      have := h1 hb
      rw [isR_one, if_pos (by exact hc)] at this
      cases this
    have h4 : ¬ (c.toNat = 101 ∨ c.toNat = 69) := by
      intro hc
      rw [isR_two (j := 101) (k := 69) hc] at h2
      cases h2
    rw [if_neg h3, if_neg h4] at hcut
    rw [scn_err hl hcut, fin_left (by simp)]
end dec
theorem isR_f {m r : List UInt8} (h : (isR m r).1 = false) : isR m r = (false, r) := by
  cases r with
  | nil => rfl
  | cons c s =>
    by_cases hc : c ∈ m
    · have e : isR m (c :: s) = (true, s) := if_pos hc
      rw [e] at h; cases h
    · exact if_neg hc
theorem isR_t {j k : UInt8} {r : List UInt8} (h : ¬ (isR [j, k] r).1 = false) : ∃ c s, r = c :: s ∧ (c.toNat = j.toNat ∨ c.toNat = k.toNat) := by
  cases r with
  | nil => exact absurd rfl h
  | cons c s =>
    refine ⟨c, s, rfl, Classical.byContradiction fun hc => h ?_⟩
    refine congrArg Prod.fst (show (if c ∈ [j, k] then (true, s) else (false, c :: s)) = (false, c :: s) from if_neg ?_)
    intro hm
    simp at hm
    rcases hm with rfl | rfl
    · exact hc (.inl rfl)
    · exact hc (.inr rfl)
theorem isR_t1 {j : UInt8} {r : List UInt8} (h : ¬ (isR [j] r).1 = false) : ∃ c s, r = c :: s ∧ c.toNat = j.toNat := by
  cases r with
  | nil => exact absurd rfl h
  | cons c s =>
    refine ⟨c, s, rfl, Classical.byContradiction fun hc => h ?_⟩
    rw [isR_one, if_neg hc]
theorem ptd_lens {p : UInt8 → Bool} {l a : List UInt8} {b : Option (List UInt8)} {r : List UInt8} (h : ptd p l = .ok (a, b, r)) : (a ++ ob b).length + r.length ≤ l.length ∧ (∀ c ∈ a ++ ob b, p c = true) := by
  obtain ⟨p1, p2, p3, p4, _⟩ := ptd_ok h
  have hlen := congrArg List.length p1
  rw [List.length_append, List.length_append] at hlen
  have hpo : (ob b).length ≤ (pt b).length := by cases b <;> simp [ob, pt]
  refine ⟨by rw [List.length_append]; omega, fun c hc => ?_⟩
  rcases List.mem_append.1 hc with hc | hc
  · exact p2 c hc
  · exact p3 c hc
theorem kOf_is (b : Option (List UInt8)) : (kOf b = -1 ∧ (ob b).length = 0) ∨ kOf b = ((ob b).length : Int) := by
  cases b with
  | none => exact .inl ⟨rfl, rfl⟩
  | some q => exact .inr rfl
/-- Is it 0x? As the program asks. -/
theorem hexy_some {T t : List UInt8} (h : hexy T = some t) : ∃ z x, T = z :: x :: t ∧ z.toNat = 48 ∧ (x.toNat = 120 ∨ x.toNat = 88) := by
  match T, h with
  | c :: x :: r, h =>
    have h' : (if c.toNat = 48 ∧ (x.toNat = 120 ∨ x.toNat = 88) then some r else none) = some t := h
    by_cases hc : c.toNat = 48 ∧ (x.toNat = 120 ∨ x.toNat = 88)
    · rw [if_pos hc] at h'
      injection h' with h'
      subst h'
      exact ⟨c, x, rfl, hc.1, hc.2⟩
    · rw [if_neg hc] at h'; cases h'
theorem hexy_none {T : List UInt8} (h : hexy T = none) : (isR [48] T).1 = false ∨ (isR [48] T).1 = true ∧ (isR [120, 88] (isR [48] T).2).1 = false := by
  cases T with
  | nil => exact .inl rfl
  | cons c r =>
    rw [isR_one]
    by_cases hc : c.toNat = (48 : UInt8).toNat
    · rw [if_pos hc]
      right
      refine ⟨rfl, ?_⟩
      cases r with
      | nil => rfl
      | cons x s =>
        have h' : (if c.toNat = 48 ∧ (x.toNat = 120 ∨ x.toNat = 88) then some s else none) = none := h
        by_cases hx : c.toNat = 48 ∧ (x.toNat = 120 ∨ x.toNat = 88)
        · rw [if_pos hx] at h'; cases h'
        · refine congrArg Prod.fst (show (if x ∈ [(120 : UInt8), 88] then (true, s) else (false, x :: s)) = (false, x :: s) from if_neg ?_)
          intro hm
          have hc' : c.toNat = 48 := hc
          refine hx ⟨hc', ?_⟩
          simp at hm
          rcases hm with rfl | rfl
          · exact .inl rfl
          · exact .inr rfl
    · rw [if_neg hc]; exact .inl rfl
end Go.Proofs.Ytiadjcilfljdaaa
