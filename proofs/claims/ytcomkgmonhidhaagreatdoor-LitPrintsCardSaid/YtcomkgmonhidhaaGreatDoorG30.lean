/- Layer 5, the program: what numeral is to answer, plain. -/
import Derived.Test.YtcomkgmonhidhaaGreatDoorG29
import Derived.Deep.CutBlock
import Derived.Test.YtcomkgmonhidhaaGreatDoorG13
import Derived.Test.YtcomkgmonhidhaaGreatDoorG17
section
namespace Go.Proofs.YtcomkgmonhidhaaGreatDoor
set_option linter.unusedVariables false
set_option linter.unusedSimpArgs false
open Go.RowKit Verge

/-- The end of numeral: something is left; or a late fault; or the numeral. -/
def fin (l r : List UInt8) (n : Bool) (N M : Nat) (k x y : Int) : Except (Nat × Int) (Bool × Nat × Nat × Int) :=
  if r ≠ [] then .error (l.length - r.length, 50) else if y ≠ 0 then .error (x.toNat, y) else .ok (n, N, M, k)
theorem fin_left {l r : List UInt8} {n : Bool} {N M : Nat} {k x y : Int} (h : r ≠ []) : fin l r n N M k x y = .error (l.length - r.length, 50) := if_pos h
theorem fin_late {l : List UInt8} {n : Bool} {N M : Nat} {k x y : Int} (h : y ≠ 0) : fin l [] n N M k x y = .error (x.toNat, y) := by
  unfold fin; rw [if_neg (by simp), if_pos h]
theorem fin_ok {l : List UInt8} {n : Bool} {N M : Nat} {k x : Int} : fin l [] n N M k x 0 = .ok (n, N, M, k) := by
  unfold fin; rw [if_neg (by simp), if_neg (by simp)]

variable {l : List UInt8}
theorem scn_err (hl : l.length ≤ 4096) {k : Nat} (h : cut l = .error k) : scn l = .error (l.length - k, 50) := by
  unfold scn; rw [if_neg (by omega), h]
theorem scn_ok (hl : l.length ≤ 4096) {n : Bool} {p : Pc} (h : cut l = .ok (n, p)) : scn l = match p.late with | some (k, c) => .error (l.length - k, c) | none => .ok (n, p.num, p.den, p.two) := by
  unfold scn; rw [if_neg (by omega), h]
  rfl
theorem cut_hx {t : List UInt8} (hh : hexy (sg l).2 = some t) : cut l = (cutH t).map fun p => ((sg l).1, p) := by unfold cut; rw [hh]
theorem cut_dc (hh : hexy (sg l).2 = none) : cut l = (cutD (sg l).2).map fun p => ((sg l).1, p) := by unfold cut; rw [hh]
theorem xpo_all {s d u : List UInt8} (hd : (sg s).2.takeWhile isD = d) (hu : (sg s).2.dropWhile isD = u) : xpo s = if d = [] ∨ u ≠ [] then .error u.length else .ok s := by
  unfold xpo; rw [hd, hu]
theorem sg_dig {s d : List UInt8} (hd : (sg s).2.takeWhile isD = d) (hu : (sg s).2.dropWhile isD = []) : (sg s).2 = d := by
  have h1 := List.takeWhile_append_dropWhile (p := isD) (l := (sg s).2)
  rw [hd, hu, List.append_nil] at h1
  exact h1.symm
def xnum (n : Bool) (d : List UInt8) : Int := if n then -((min (numB 10 d) 9999 : Nat) : Int) else ((min (numB 10 d) 9999 : Nat) : Int)
theorem xnum_le (n : Bool) (d : List UInt8) : -9999 ≤ xnum n d ∧ xnum n d ≤ 9999 := by unfold xnum; split <;> omega
theorem xnum_ok {s d : List UInt8} (hd : (sg s).2.takeWhile isD = d) (hu : (sg s).2.dropWhile isD = []) (hlate : ¬ 9999 < numB 10 d) : xnum (sg s).1 d = xvl s := by
  unfold xvl xnum
  rw [sg_dig hd hu, Nat.min_eq_left (by omega)]
theorem lateO_no {p x : Nat} (h : ¬ 9999 < x) : lateO p x = (0, 0) := if_neg h
theorem lateO_is {p x : Nat} (h : 9999 < x) : lateO p x = ((p : Int), 51) := if_pos h

section hex
variable {t : List UInt8} (hl : l.length ≤ 4096) (hh : hexy (sg l).2 = some t)
include hl hh
theorem hx_e1 {k : Nat} (hp : ptd isX t = .error k) : scn l = .error (l.length - k, 50) := by
  refine scn_err hl ?_
  rw [cut_hx hh]; unfold cutH; rw [hp]; rfl
theorem hx_e2 {a : List UInt8} {b : Option (List UInt8)} {r : List UInt8} (hp : ptd isX t = .ok (a, b, r)) (h : (isR [112, 80] r).1 = false) : scn l = .error (l.length - r.length, 50) := by
  refine scn_err hl ?_
  rw [cut_hx hh]; unfold cutH; rw [hp]
  cases r with
  | nil => rfl
  | cons c s =>
    dsimp only
    have hc : ¬ (c.toNat = 112 ∨ c.toNat = 80) := by
      intro hc
      rw [isR_two (j := 112) (k := 80) hc] at h
      cases h
    rw [if_neg hc]; rfl
theorem hx_e3 {a : List UInt8} {b : Option (List UInt8)} {c : UInt8} {s u : List UInt8} (hp : ptd isX t = .ok (a, b, c :: s)) (hc : c.toNat = 112 ∨ c.toNat = 80) (hd : (sg s).2.takeWhile isD = []) (hu : (sg s).2.dropWhile isD = u) :
    scn l = .error (l.length - u.length, 50) := by
  refine scn_err hl ?_
  rw [cut_hx hh]; unfold cutH; rw [hp]
  dsimp only
  rw [if_pos hc, xpo_all hd hu, if_pos (.inl rfl)]; rfl
theorem hx_ok {a : List UInt8} {b : Option (List UInt8)} {c : UInt8} {s d u : List UInt8} (hp : ptd isX t = .ok (a, b, c :: s)) (hc : c.toNat = 112 ∨ c.toNat = 80) (hd : (sg s).2.takeWhile isD = d) (hu : (sg s).2.dropWhile isD = u) (hne : d ≠ []) :
    scn l = fin l u (sg l).1 (numB 16 (a ++ ob b)) 1 (xnum (sg s).1 d - 4 * ((ob b).length : Int)) (lateO (l.length - (sg s).2.length) (numB 10 d)).1 (lateO (l.length - (sg s).2.length) (numB 10 d)).2 := by
  have hcut : cut l = (cutH t).map fun p => ((sg l).1, p) := cut_hx hh
  unfold cutH at hcut
  rw [hp] at hcut
  dsimp only at hcut
  rw [if_pos hc, xpo_all hd hu] at hcut
  by_cases h0 : u = []
  · subst h0
    rw [if_neg (by simp [hne])] at hcut
    rw [scn_ok hl hcut]
    have he := sg_dig hd hu
    by_cases hlate : 9999 < numB 10 d
    · rw [lateO_is hlate, fin_late (by simp)]
      have : (Pc.hx a b s).late = some ((sg s).2.length, 51) := if_pos (by rw [he]; exact hlate)
      rw [this]
      simp
    · rw [lateO_no hlate, fin_ok]
      have : (Pc.hx a b s).late = none := if_neg (by rw [he]; exact hlate)
      rw [this, xnum_ok hd hu hlate]
      rfl
  · rw [if_pos (.inr h0)] at hcut
    rw [scn_err hl hcut, fin_left h0]
end hex
section dec
variable (hl : l.length ≤ 4096) (hh : hexy (sg l).2 = none)
include hl hh
theorem dc_e1 {k : Nat} (hp : ptd isD (sg l).2 = .error k) : scn l = .error (l.length - k, 50) := by
  refine scn_err hl ?_
  rw [cut_dc hh]; unfold cutD; rw [hp]; rfl
theorem fr_e {a : List UInt8} {c : UInt8} {s u : List UInt8} (hp : ptd isD (sg l).2 = .ok (a, none, c :: s)) (hc : c.toNat = 47) (hd : s.takeWhile isD = []) (hu : s.dropWhile isD = u) : scn l = .error (l.length - u.length, 50) := by
  refine scn_err hl ?_
  rw [cut_dc hh]; unfold cutD; rw [hp]
  dsimp only
  rw [if_pos ⟨rfl, hc⟩, hd, hu, if_pos (.inl rfl)]; rfl
theorem fr_ok {a : List UInt8} {c : UInt8} {s d u : List UInt8} (hp : ptd isD (sg l).2 = .ok (a, none, c :: s)) (hc : c.toNat = 47) (hd : s.takeWhile isD = d) (hu : s.dropWhile isD = u) (hne : d ≠ []) :
    scn l = fin l u (sg l).1 (numB 10 a) (numB 10 d) 0 (if numB 10 d = 0 then ((l.length - s.length : Nat) : Int) else 0) (if numB 10 d = 0 then 50 else 0) := by
  have hcut : cut l = (cutD (sg l).2).map fun p => ((sg l).1, p) := cut_dc hh
  unfold cutD at hcut
  rw [hp] at hcut
  dsimp only at hcut
  rw [if_pos ⟨rfl, hc⟩, hd, hu] at hcut
  by_cases h0 : u = []
  · subst h0
    rw [if_neg (by simp [hne])] at hcut
    rw [scn_ok hl hcut]
    have he : s = d := by
      have h1 := List.takeWhile_append_dropWhile (p := isD) (l := s)
      rw [hd, hu, List.append_nil] at h1
      exact h1.symm
    by_cases hz : numB 10 d = 0
    · rw [if_pos hz, if_pos hz, fin_late (by simp)]
      have : (Pc.fr a s).late = some (s.length, 50) := if_pos (by rw [he]; exact hz)
      rw [this]
      simp
    · rw [if_neg hz, if_neg hz, fin_ok]
      have : (Pc.fr a s).late = none := if_neg (by rw [he]; exact hz)
      rw [this, he]
      rfl
  · rw [if_pos (.inr h0)] at hcut
    rw [scn_err hl hcut, fin_left h0]
theorem dc_e3 {a : List UInt8} {b : Option (List UInt8)} {c : UInt8} {s u : List UInt8} (hp : ptd isD (sg l).2 = .ok (a, b, c :: s)) (hc : c.toNat = 101 ∨ c.toNat = 69) (hd : (sg s).2.takeWhile isD = []) (hu : (sg s).2.dropWhile isD = u) :
    scn l = .error (l.length - u.length, 50) := by
  refine scn_err hl ?_
  rw [cut_dc hh]; unfold cutD; rw [hp]
  dsimp only
  rw [if_neg (by omega), if_pos hc, xpo_all hd hu, if_pos (.inl rfl)]; rfl
theorem dc_ex {a : List UInt8} {b : Option (List UInt8)} {c : UInt8} {s d u : List UInt8} (hp : ptd isD (sg l).2 = .ok (a, b, c :: s)) (hc : c.toNat = 101 ∨ c.toNat = 69) (hd : (sg s).2.takeWhile isD = d) (hu : (sg s).2.dropWhile isD = u) (hne : d ≠ []) {X : Int} (hX : X = xnum (sg s).1 d - ((ob b).length : Int)) :
    scn l = fin l u (sg l).1 (numB 10 (a ++ ob b) * 10 ^ X.toNat) (10 ^ (-X).toNat) 0 (lateO (l.length - (sg s).2.length) (numB 10 d)).1 (lateO (l.length - (sg s).2.length) (numB 10 d)).2 := by
  have hcut : cut l = (cutD (sg l).2).map fun p => ((sg l).1, p) := cut_dc hh
  unfold cutD at hcut
  rw [hp] at hcut
  dsimp only at hcut
  rw [if_neg (by omega), if_pos hc, xpo_all hd hu] at hcut
  by_cases h0 : u = []
  · subst h0
    rw [if_neg (by simp [hne])] at hcut
    rw [scn_ok hl hcut]
    have he := sg_dig hd hu
    by_cases hlate : 9999 < numB 10 d
    · rw [lateO_is hlate, fin_late (by simp)]
      have : (Pc.dc a b (some s)).late = some ((sg s).2.length, 51) := if_pos (by rw [he]; exact hlate)
      rw [this]
      simp
    · rw [lateO_no hlate, fin_ok]
      have : (Pc.dc a b (some s)).late = none := if_neg (by rw [he]; exact hlate)
      rw [this, hX, xnum_ok hd hu hlate]
      rfl
  · rw [if_pos (.inr h0)] at hcut
    rw [scn_err hl hcut, fin_left h0]
/-- Neither a slash (without a point) nor an e follows. -/
theorem dc_no {a : List UInt8} {b : Option (List UInt8)} {r : List UInt8} (hp : ptd isD (sg l).2 = .ok (a, b, r)) (h1 : b = none → (isR [47] r).1 = false) (h2 : (isR [101, 69] r).1 = false) {X : Int} (hX : X = 0 - ((ob b).length : Int)) :
    scn l = fin l r (sg l).1 (numB 10 (a ++ ob b) * 10 ^ X.toNat) (10 ^ (-X).toNat) 0 0 0 := by
  have hcut : cut l = (cutD (sg l).2).map fun p => ((sg l).1, p) := cut_dc hh
  unfold cutD at hcut
  rw [hp] at hcut
  cases r with
  | nil =>
    dsimp only at hcut
    rw [scn_ok hl hcut, fin_ok, hX]
    rfl
  | cons c s =>
    dsimp only at hcut
    have h3 : ¬ (b = none ∧ c.toNat = 47) := by
      rintro ⟨hb, hc⟩
      have := h1 hb
      rw [isR_one, if_pos (by exact hc)] at this
      cases this
    have h4 : ¬ (c.toNat = 101 ∨ c.toNat = 69) := by
      intro hc
      rw [isR_two (j := 101) (k := 69) hc] at h2
      cases h2
    rw [if_neg h3, if_neg h4] at hcut
    rw [scn_err hl hcut, fin_left (by simp)]
end dec
theorem isR_f {m r : List UInt8} (h : (isR m r).1 = false) : isR m r = (false, r) := by
  cases r with
  | nil => rfl
  | cons c s =>
    by_cases hc : c ∈ m
    · have e : isR m (c :: s) = (true, s) := if_pos hc
      rw [e] at h; cases h
    · exact if_neg hc
theorem isR_t {j k : UInt8} {r : List UInt8} (h : ¬ (isR [j, k] r).1 = false) : ∃ c s, r = c :: s ∧ (c.toNat = j.toNat ∨ c.toNat = k.toNat) := by
  cases r with
  | nil => exact absurd rfl h
  | cons c s =>
    refine ⟨c, s, rfl, Classical.byContradiction fun hc => h ?_⟩
    refine congrArg Prod.fst (show (if c ∈ [j, k] then (true, s) else (false, c :: s)) = (false, c :: s) from if_neg ?_)
    intro hm
    simp at hm
    rcases hm with rfl | rfl
    · exact hc (.inl rfl)
    · exact hc (.inr rfl)
theorem isR_t1 {j : UInt8} {r : List UInt8} (h : ¬ (isR [j] r).1 = false) : ∃ c s, r = c :: s ∧ c.toNat = j.toNat := by
  cases r with
  | nil => exact absurd rfl h
  | cons c s =>
    refine ⟨c, s, rfl, Classical.byContradiction fun hc => h ?_⟩
    rw [isR_one, if_neg hc]
theorem ptd_lens {p : UInt8 → Bool} {l a : List UInt8} {b : Option (List UInt8)} {r : List UInt8} (h : ptd p l = .ok (a, b, r)) : (a ++ ob b).length + r.length ≤ l.length ∧ (∀ c ∈ a ++ ob b, p c = true) := by
  obtain ⟨p1, p2, p3, p4, _⟩ := ptd_ok h
  have hlen := congrArg List.length p1
  rw [List.length_append, List.length_append] at hlen
  have hpo : (ob b).length ≤ (pt b).length := by cases b <;> simp [ob, pt]
  refine ⟨by rw [List.length_append]; omega, fun c hc => ?_⟩
  rcases List.mem_append.1 hc with hc | hc
  · exact p2 c hc
  · exact p3 c hc
theorem kOf_is (b : Option (List UInt8)) : (kOf b = -1 ∧ (ob b).length = 0) ∨ kOf b = ((ob b).length : Int) := by
  cases b with
  | none => exact .inl ⟨rfl, rfl⟩
  | some q => exact .inr rfl
/-- Is it 0x? As the program asks. -/
theorem hexy_some {T t : List UInt8} (h : hexy T = some t) : ∃ z x, T = z :: x :: t ∧ z.toNat = 48 ∧ (x.toNat = 120 ∨ x.toNat = 88) := by
  match T, h with
  | c :: x :: r, h =>
    have h' : (if c.toNat = 48 ∧ (x.toNat = 120 ∨ x.toNat = 88) then some r else none) = some t := h
    by_cases hc : c.toNat = 48 ∧ (x.toNat = 120 ∨ x.toNat = 88)
    · rw [if_pos hc] at h'
      injection h' with h'
      subst h'
      exact ⟨c, x, rfl, hc.1, hc.2⟩
    · rw [if_neg hc] at h'; cases h'
theorem hexy_none {T : List UInt8} (h : hexy T = none) : (isR [48] T).1 = false ∨ (isR [48] T).1 = true ∧ (isR [120, 88] (isR [48] T).2).1 = false := by
  cases T with
  | nil => exact .inl rfl
  | cons c r =>
    rw [isR_one]
    by_cases hc : c.toNat = (48 : UInt8).toNat
    · rw [if_pos hc]
      right
      refine ⟨rfl, ?_⟩
      cases r with
      | nil => rfl
      | cons x s =>
        have h' : (if c.toNat = 48 ∧ (x.toNat = 120 ∨ x.toNat = 88) then some s else none) = none := h
        by_cases hx : c.toNat = 48 ∧ (x.toNat = 120 ∨ x.toNat = 88)
        · rw [if_pos hx] at h'; cases h'
        · refine congrArg Prod.fst (show (if x ∈ [(120 : UInt8), 88] then (true, s) else (false, x :: s)) = (false, x :: s) from if_neg ?_)
          intro hm
          have hc' : c.toNat = 48 := hc
          refine hx ⟨hc', ?_⟩
          simp at hm
          rcases hm with rfl | rfl
          · exact .inl rfl
          · exact .inr rfl
    · rw [if_neg hc]; exact .inl rfl
end Go.Proofs.YtcomkgmonhidhaaGreatDoor

/- Layer 5, the program: numeral of a hexadecimal text. -/
namespace Go.Proofs.YtcomkgmonhidhaaGreatDoor
set_option linter.unusedVariables false
set_option linter.unusedSimpArgs false
open Go.RowKit Verge

end Go.Proofs.YtcomkgmonhidhaaGreatDoor

/- Layer 5, the program: a law on drawing regions whose store may come up ahead of one operation; numeral of a decimal text. -/
namespace Go.Proofs.YtcomkgmonhidhaaGreatDoor
set_option linter.unusedVariables false
set_option linter.unusedSimpArgs false
open Go Go.RowKit

/-- The last operation waits for all others but number p. -/
def lateOk (ops : Array Oper) (m p : Nat) : Bool := decide (m + 1 = ops.size) && decide (p < m) && (List.range m).all fun j => decide (j = p) || (ancB ops m).contains j
/-- Operation m is a store that does not look at what operation p yields. -/
def storeOk (ops : Array Oper) (m p : Nat) : Bool :=
  match ops[m]?, ops[p]? with
  | some s, some o => s.guard.isNone && s.dst.isNone && (match s.op, o.dst with | .store _ (.tmp x) (.tmp y), some d => decide (d ≠ x) && decide (d ≠ y) | _, _ => false)
  | _, _ => false
theorem exec_put {s : Oper} {t : TypeId} {x y d : Nat} (hs : s.op = .store t (.tmp x) (.tmp y)) (hx : d ≠ x) (hy : d ≠ y) (a : Act) (v : Value) : execOp (a.put (some d) v).eval s = execOp a.eval s := by
  have e : ∀ t, d ≠ t → (a.put (some d) v).eval (.tmp t) = a.eval (.tmp t) := by
    intro t ht
    simp only [Act.put, Act.eval, Array.getD_eq_getD_getElem?]
    rw [Array.getElem?_setIfInBounds_ne ht]
  unfold execOp
  rw [hs]
  simp only [e x hx, e y hy]
theorem store_ok {ops : Array Oper} {m p : Nat} (h : storeOk ops m p = true) : ∀ s, ops[m]? = some s → s.guard = none ∧ s.dst = none ∧ ∀ o, ops[p]? = some o → ∀ (a : Act) (v : Value), execOp (a.put o.dst v).eval s = execOp a.eval s := by
  intro s hs
  unfold storeOk at h
  rw [hs] at h
  cases ho : ops[p]? with
  | none => rw [ho] at h; cases h
  | some o =>
    rw [ho] at h
    simp only [Bool.and_eq_true, Option.isNone_iff_eq_none] at h
    refine ⟨h.1.1, h.1.2, fun o' ho' a v => ?_⟩
    injection ho' with ho'
    subst ho'
    have h2 := h.2
    split at h2
    · rename_i t x y d hop hd
      simp only [Bool.and_eq_true, decide_eq_true_eq] at h2
      rw [hd]
      exact exec_put hop h2.1 h2.2 a v
    · cases h2
/-- A list of operations' last one leaves the world w2, and goes on. -/
def Leave (P : Program) (s : Oper) (a : Act) (w : World) (C : World → Prop) : Prop := ∃ w2, ((execOp a.eval s).run P w = .ok .skip w2 ∨ ∃ v, (execOp a.eval s).run P w = .ok (.value v) w2) ∧ C w2
theorem Leave.wp {P : Program} {s : Oper} {a : Act} {w : World} {C : World → Prop} {K : Act → World → Prop} {Q : Exit → Act → World → Prop} (hd : s.dst = none) (h : Leave P s a w C) (hK : ∀ w2, C w2 → K a w2) : s.wp P a w K Q := by
  obtain ⟨w2, h, hc⟩ := h
  have hp : ∀ v, a.put s.dst v = a := fun v => by unfold Act.put; rw [hd]
  unfold Oper.wp
  rcases h with h | ⟨v, h⟩
  · rw [h, Oper.upon_skip, hp]; exact hK w2 hc
  · rw [h, Oper.upon_value, hp]; exact hK w2 hc

section
variable {P : Program} {ops : Array Oper} {Φ : Nat → Value → World → Prop} {a0 : Act} {w0 : World} {Q : Exit → Act → World → Prop}
variable (hok : regOk ops a0.tmps.size = true) (hmono : ∀ i v w w', Below w.heap.size w w' → Φ i v w → Φ i v w') {front rest : List Oper} (hfr : ops.toList = front ++ rest) (heach : Each P ops Φ a0 w0 0 front)
include hok hmono hfr heach

theorem reg_late (p : Nat) (hlast : lateOk ops front.length p = true)
    (hpure : ∀ o, ops[p]? = some o → o.guard = none ∧ ∀ (a : Act) (w : World), a.tmps.size = a0.tmps.size → Sees ops Φ a0 p a w (o.looksAt ops) → ∃ v, ∀ w2, (execOp a.eval o).run P w2 = .ok (.value v) w2)
    (hst : ∀ s, ops[front.length]? = some s → s.guard = none ∧ s.dst = none ∧ ∀ o, ops[p]? = some o → ∀ (a : Act) (v : Value), execOp (a.put o.dst v).eval s = execOp a.eval s)
    (hfin : ∀ f w', Below w0.heap.size w0 w' → HoldFrom Φ f w' 0 front → ∀ s, ops[front.length]? = some s → Leave P s (putFrom f 0 front a0) w' (Q .normal (putFrom f 0 front a0))) :
    ∀ (fuel : Nat) (L : Array Bool) (f : Nat → Value) (a : Act) (w : World), L.size = ops.size → (∀ j, front.length ≤ j → L.getD j false = false) → ((List.range ops.size).filter fun j => !L.getD j false).length ≤ fuel → RegInv ops Φ a0 w0 L f a w → wpAny P .any ops Q fuel L a w := by
  have hlen : ops.size = front.length + rest.length := by
    have := congrArg List.length hfr
    simpa using this
  unfold lateOk at hlast
  simp only [Bool.and_eq_true, decide_eq_true_eq] at hlast
  obtain ⟨⟨hsize, hpm⟩, hanc⟩ := hlast
  have hop : ops[p]? = some ops[p] := Array.getElem?_eq_getElem (by omega)
  have hos : ops[front.length]? = some ops[front.length] := Array.getElem?_eq_getElem (by omega)
  obtain ⟨hgp, hrunp⟩ := hpure _ hop
  obtain ⟨hgs, hds, hsame⟩ := hst _ hos
  have hsame := hsame _ hop
  have hend : ∀ (L : Array Bool) (f : Nat → Value) (a : Act) (w : World), RegInv ops Φ a0 w0 L f a w → (∀ j, j < ops.size → L.getD j false = decide (j < front.length)) → Leave P ops[front.length] a w (Q .normal a) := by
    intro L f a w hI hall
    rw [reg_front hok hfr hI hall]
    exact hfin f w hI.below (hold_of f w _ 0 fun j hj => by rw [Nat.zero_add]; exact hI.hold j (by rw [hall j (by omega)]; simpa using hj)) _ hos
  have hwant : ∀ o : Oper, o.guard = none → ∀ ys, Region.wanted o ys = true := fun o ho ys => by simp [Region.wanted, ho]
  have hnorm : ∀ (L : Array Bool) (f : Nat → Value) (a : Act) (w : World), L.size = ops.size → (∀ j, front.length ≤ j → L.getD j false = false) → RegInv ops Φ a0 w0 L f a w → Region.ready .any ops L = [] → Q .normal a w := by
    intro L f a w hLs hback hI h0
    have hall := ready_none hok hLs h0
    have := hall front.length (by omega)
    rw [hback _ (Nat.le_refl _)] at this
    cases this
  intro fuel
  induction fuel with
  | zero =>
    intro L f a w hLs hback hcnt hI
    have hall : ∀ j, j < ops.size → L.getD j false = true := by
      intro j hj
      cases hL : L.getD j false with
      | true => rfl
      | false =>
        exfalso
        have : j ∈ (List.range ops.size).filter fun j => !L.getD j false := List.mem_filter.2 ⟨List.mem_range.2 hj, by simp [hL]⟩
        have := List.length_pos_of_mem this
        omega
    exact ⟨ready_all hLs hall, hnorm L f a w hLs hback hI (ready_all hLs hall)⟩
  | succ fuel ih =>
    intro L f a w hLs hback hcnt hI
    refine ⟨fun h0 => hnorm L f a w hLs hback hI h0, fun i hi => ?_⟩
    unfold Region.ready at hi
    rw [List.mem_filter] at hi
    obtain ⟨hi1, hi2⟩ := hi
    have hi1 := List.mem_range.1 hi1
    have ho : ops[i]? = some ops[i] := Array.getElem?_eq_getElem hi1
    rw [getD_tf hLs hi1, ho] at hi2
    simp only [Option.map_some, Option.getD_some, Bool.and_eq_true, Bool.not_eq_true', Array.all_eq_true', Bool.or_eq_true] at hi2
    obtain ⟨hL, hr⟩ := hi2
    have hr' : ∀ e ∈ ops[i].after, Region.binds .any e = true → L.getD e.on false = true := fun e he hb => by
      rcases hr e he with h | h
      · rw [hb] at h; cases h
      · exact h
    unfold wpOp
    rw [ho]
    simp only []
    by_cases hif : i < front.length
    · have hstep := reg_step (Q := Q) hok hmono hfr heach hLs hI hif ho hL hr' (K := wpAny P .any ops Q fuel (L.setIfInBounds i true)) (fun f' a' w' hI' => ih _ f' a' w' (by simp [hLs]) (fun j hj => by
          rw [getD_set_tf (by omega), if_neg (by omega)]; exact hback j hj) ?_ hI')
      · split
        · rename_i hw; rw [if_pos hw] at hstep; exact .inl hstep
        · rename_i hw; rw [if_neg hw] at hstep; exact hstep
      · have hlt : ((List.range ops.size).filter fun j => !(L.setIfInBounds i true).getD j false).length < ((List.range ops.size).filter fun j => !L.getD j false).length := by
          have e1 : ((List.range ops.size).filter fun j => !(L.setIfInBounds i true).getD j false) = ((List.range ops.size).filter fun j => !L.getD j false).filter (fun j => decide (j ≠ i)) := by
            rw [List.filter_filter]
            refine List.filter_congr fun j _ => ?_
            rw [getD_set_tf (by omega)]
            by_cases e : j = i
            · simp [e]
            · simp [e]
          rw [e1]
          refine List.length_filter_lt_length_iff_exists.2 ⟨i, List.mem_filter.2 ⟨List.mem_range.2 hi1, by simp [hL]⟩, by simp⟩
        omega
    · -- the last one
      obtain rfl : i = front.length := by omega
      have hoth : ∀ j, j < front.length → j ≠ p → L.getD j false = true := by
        intro j hj hjp
        have hmem := List.all_eq_true.1 hanc j (List.mem_range.2 hj)
        simp only [Bool.or_eq_true, decide_eq_true_eq] at hmem
        rcases hmem with h | h
        · exact absurd h hjp
        · rcases anc_listed hI.shut (fun o ho' => by rw [ho] at ho'; injection ho' with e; subst e; exact hr') j (by simpa using h) with h | h
          · omega
          · exact h
      rw [if_pos (hwant _ hgs _)]
      refine .inl ?_
      cases hLp : L.getD p false with
      | true =>
        have hall : ∀ j, j < ops.size → L.getD j false = decide (j < front.length) := by
          intro j hj
          by_cases hjf : j < front.length
          · by_cases e : j = p
            · subst e; rw [hLp]; simp [hjf]
            · rw [hoth j hjf e]; simp [hjf]
          · rw [hback j (by omega)]; simp [hjf]
        refine (hend L f a w hI hall).wp hds fun w2 hq => any_done (by simp [hLs]) (fun j hj => ?_) hq fuel
        rw [getD_set_tf (by omega)]
        by_cases e : j = front.length
        · rw [if_pos e]
        · rw [if_neg e, hall j hj]; simp; omega
      | false =>
        have hrp : ∀ e ∈ ops[p].after, Region.binds .any e = true → L.getD e.on false = true := by
          intro e he hb
          have hone := reg_one hok hop
          unfold regOne at hone
          simp only [Bool.and_eq_true] at hone
          have := (Array.all_eq_true'.1 hone.1.1) e he
          simp only [Bool.or_eq_true, Bool.not_eq_true', decide_eq_true_eq] at this
          rcases this with h | h
          · rw [hb] at h; cases h
          · exact hoth e.on (by omega) (by omega)
        have hsees := reg_sees hok hI hop hLp hrp _ fun s hs => hs
        obtain ⟨v, hrun⟩ := hrunp a w hI.desc.2.1 hsees
        have hs := reg_step (Q := Q) hok hmono hfr heach hLs hI hpm hop hLp hrp (K := fun a' w' => ∃ f', RegInv ops Φ a0 w0 (L.setIfInBounds p true) f' a' w') (fun f' a' w' h => ⟨f', h⟩)
        rw [if_pos (hwant _ hgp _)] at hs
        unfold Oper.wp at hs
        rw [hrun w, Oper.upon_value] at hs
        obtain ⟨f', hI'⟩ := hs
        have hall : ∀ j, j < ops.size → (L.setIfInBounds p true).getD j false = decide (j < front.length) := by
          intro j hj
          rw [getD_set_tf (by omega)]
          by_cases e : j = p
          · rw [if_pos e]; simp; omega
          · rw [if_neg e]
            by_cases hjf : j < front.length
            · rw [hoth j hjf e]; simp [hjf]
            · rw [hback j (by omega)]; simp [hjf]
        have hl := hend _ f' _ w hI' hall
        have hl2 : Leave P ops[front.length] a w (Q .normal (a.put ops[p].dst v)) := by
          obtain ⟨w2, h, hc⟩ := hl
          rw [hsame] at h
          exact ⟨w2, h, hc⟩
        refine hl2.wp hds fun w2 hq => ?_
        have hset : ∀ j, (L.setIfInBounds front.length true).getD j false = if j = front.length then true else L.getD j false := fun j => getD_set_tf (by omega) j
        have hpu : (L.setIfInBounds front.length true).getD p false = false := by rw [hset, if_neg (by omega)]; exact hLp
        cases fuel with
        | zero =>
          exfalso
          have m1 : p ∈ (List.range ops.size).filter fun j => !L.getD j false := List.mem_filter.2 ⟨List.mem_range.2 (by omega), by simp [hLp]⟩
          have m2 : front.length ∈ (List.range ops.size).filter fun j => !L.getD j false := List.mem_filter.2 ⟨List.mem_range.2 (by omega), by simp [hL]⟩
          cases hx : (List.range ops.size).filter fun j => !L.getD j false with
          | nil => rw [hx] at m1; cases m1
          | cons x xs =>
            cases xs with
            | nil =>
              rw [hx] at m1 m2
              simp at m1 m2
              omega
            | cons y ys => rw [hx] at hcnt; simp at hcnt
        | succ k =>
          refine ⟨fun h0 => ?_, fun i hi => ?_⟩
          · have := ready_none hok (by simp [hLs]) h0 p (by omega)
            rw [hpu] at this; cases this
          · unfold Region.ready at hi
            rw [List.mem_filter] at hi
            have hi1 := List.mem_range.1 hi.1
            have hi2 := hi.2
            rw [getD_tf (by simp [hLs]) hi1] at hi2
            simp only [Bool.and_eq_true, Bool.not_eq_true'] at hi2
            have hip : i = p := by
              refine Classical.byContradiction fun e => ?_
              have := hi2.1
              rw [hset] at this
              by_cases e2 : i = front.length
              · rw [if_pos e2] at this; cases this
              · rw [if_neg e2, hoth i (by omega) e] at this; cases this
            subst hip
            unfold wpOp
            rw [hop]
            simp only []
            rw [if_pos (hwant _ hgp _)]
            refine .inl ?_
            unfold Oper.wp
            rw [hrun w2, Oper.upon_value]
            refine any_done (by simp [hLs]) (fun j hj => ?_) hq k
            rw [getD_set_tf (by simp [hLs]; omega), hset]
            by_cases e : j = i
            · rw [if_pos e]
            · rw [if_neg e]
              by_cases e2 : j = front.length
              · rw [if_pos e2]
              · rw [if_neg e2]; exact hoth j (by omega) e
end
/-- Of the first k operations each is looked at by itself; the last one, a store, may come up ahead of number p, which only takes a value apart. -/
theorem region_late {P : Program} {ops : Array Oper} {a0 : Act} {w0 : World} {Q : Exit → Act → World → Prop} {id : Nat} (k p : Nat) (Φ : Nat → Value → World → Prop) (hm : P.follows .mixedOrders = true) (hok : regOk ops a0.tmps.size = true) (hlast : lateOk ops (ops.toList.take k).length p = true)
    (hmono : ∀ i v w w', Below w.heap.size w w' → Φ i v w → Φ i v w') (heach : Each P ops Φ a0 w0 0 (ops.toList.take k))
    (hpure : ∀ o, ops[p]? = some o → o.guard = none ∧ ∀ (a : Act) (w : World), a.tmps.size = a0.tmps.size → Sees ops Φ a0 p a w (o.looksAt ops) → ∃ v, ∀ w2, (execOp a.eval o).run P w2 = .ok (.value v) w2)
    (hst : ∀ s, ops[(ops.toList.take k).length]? = some s → s.guard = none ∧ s.dst = none ∧ ∀ o, ops[p]? = some o → ∀ (a : Act) (v : Value), execOp (a.put o.dst v).eval s = execOp a.eval s)
    (hfin : ∀ f w', Below w0.heap.size w0 w' → HoldFrom Φ f w' 0 (ops.toList.take k) → ∀ s, ops[(ops.toList.take k).length]? = some s → Leave P s (putFrom f 0 (ops.toList.take k) a0) w' (Q .normal (putFrom f 0 (ops.toList.take k) a0))) : (Code.region id ops true).wp P Q a0 w0 := by
  have hf0 : ∀ j, (Array.replicate ops.size false).getD j false = false := fun j => by simp [Array.getD]
  refine wp_region_any hm (reg_late hok hmono (List.take_append_drop k _).symm heach p hlast hpure hst hfin ops.size _ (fun _ => undef) a0 _ (by simp) (fun j _ => hf0 j) ?_ ⟨?_, ?_, ?_, ?_⟩)
  · exact Nat.le_trans (List.length_filter_le _ _) (by simp)
  · refine ⟨rfl, rfl, fun s hs => ?_⟩
    cases ownerOf ops s with
    | none => rfl
    | some j => simp [hf0 j]
  · exact ⟨rfl, rfl, rfl, Nat.le_refl _, fun _ _ => rfl⟩
  · intro j hj
    rw [hf0 j] at hj; cases hj
  · intro j o ho hj
    rw [hf0 j] at hj; cases hj
end Go.Proofs.YtcomkgmonhidhaaGreatDoor

namespace Go.Proofs.YtcomkgmonhidhaaGreatDoor
set_option linter.unusedVariables false
set_option linter.unusedSimpArgs false
open Go.RowKit Verge

theorem ten_bits (k : Nat) (h : k ≤ 9999) : blen (10 ^ k) ≤ 40000 := by
  obtain ⟨z, hz⟩ : ∃ z, z = 40000 := ⟨_, rfl⟩
  rw [← hz, blen_lt]
  have h1 : 10 ^ k ≤ 16 ^ k := Nat.pow_le_pow_left (by omega) k
  have h2 : 16 ^ k = 2 ^ (4 * k) := by rw [Nat.pow_mul]
  have h3 : 2 ^ (4 * k) < 2 ^ z := Nat.pow_lt_pow_right (by omega) (by omega)
  omega
theorem dig_len0 {n : Nat} (h : (dig n).length = 0) : n = 0 := by
  have := val_dig n
  rw [List.length_eq_zero_iff.1 h] at this
  exact this.symm
end Go.Proofs.YtcomkgmonhidhaaGreatDoor
end

section
namespace Go.Proofs.YtcomkgmonhidhaaGreatDoor
set_option linter.unusedVariables false
set_option linter.unusedSimpArgs false
open Go.RowKit Verge

end Go.Proofs.YtcomkgmonhidhaaGreatDoor
end

section
namespace Go.Proofs.YtcomkgmonhidhaaGreatDoor
set_option linter.unusedVariables false
set_option linter.unusedSimpArgs false
open Go.RowKit Verge

end Go.Proofs.YtcomkgmonhidhaaGreatDoor
end

section
namespace Go.Proofs.YtcomkgmonhidhaaGreatDoor
set_option linter.unusedVariables false
set_option linter.unusedSimpArgs false
open Go.RowKit Verge

end Go.Proofs.YtcomkgmonhidhaaGreatDoor
end
