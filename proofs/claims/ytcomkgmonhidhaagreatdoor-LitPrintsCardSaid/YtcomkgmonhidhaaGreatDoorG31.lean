/- Layer 5: the document's Value, of any text. -/
import Derived.Test.YtcomkgmonhidhaaGreatDoorG30
import Derived.Defers
import Derived.Recover
import Derived.Test.YtcomkgmonhidhaaGreatDoorG17
import Derived.Test.YtcomkgmonhidhaaGreatDoorG29
section
namespace Go.Proofs.YtcomkgmonhidhaaGreatDoor
set_option linter.unusedVariables false
set_option linter.unusedSimpArgs false
open Go.RowKit Verge

theorem drop_mid (P e : List UInt8) (p : UInt8) : (P ++ p :: e).drop (P.length + 1) = e := by
  rw [show P ++ p :: e = (P ++ [p]) ++ e by simp, show P.length + 1 = (P ++ [p]).length by simp, List.drop_left]
theorem isX_ne {c : UInt8} (h : isX c = true) {n : Nat} (hn : ¬ ((48 ≤ n ∧ n ≤ 57) ∨ (97 ≤ n ∧ n ≤ 102) ∨ (65 ≤ n ∧ n ≤ 70))) : c.toNat ≠ n := by
  rintro rfl; exact hn (isX_iff.1 h)
theorem head_pt {a : List UInt8} {b : Option (List UInt8)} (ha : ∀ c ∈ a, isD c = true) (hab : a ++ ob b ≠ []) (e : List UInt8) : ∃ c0, (a ++ pt b ++ e)[0]? = some c0 ∧ ¬ (c0.toNat = 43 ∨ c0.toNat = 45) := by
  cases a with
  | cons c r =>
    refine ⟨c, by simp, ?_⟩
    have := isD_iff.1 (ha c List.mem_cons_self)
    omega
  | nil =>
    cases b with
    | none => exact absurd rfl hab
    | some b => exact ⟨46, by simp [pt], by decide⟩
theorem sg_len (l : List UInt8) {pre : List UInt8} (h : l = pre ++ (sg l).2) : l.length = pre.length + (sg l).2.length := by
  have := congrArg List.length h
  rw [List.length_append] at this
  exact this

end Go.Proofs.YtcomkgmonhidhaaGreatDoor
end

section
namespace Go.Proofs.YtcomkgmonhidhaaGreatDoor
set_option linter.unusedVariables false
set_option linter.unusedSimpArgs false
open Go.RowKit Verge

abbrev cI (v : Value) : Obj := .cells #[v] 3
abbrev cE (v : Value) : Obj := .cells #[v] 25
theorem below_set {B : Nat} {w W : World} (h : Below B w W) (p i : Nat) (v : Value) (hp : B ≤ p) : Below B w (W.setCell ⟨p, i, none⟩ v) :=
  ⟨h.os, h.tape, h.output, by have := h.size; simpa [World.setCell] using this, fun g hg => (set_other W p i g v (by omega)).trans (h.block g hg)⟩
end Go.Proofs.YtcomkgmonhidhaaGreatDoor

namespace Go.Proofs.YtcomkgmonhidhaaGreatDoor
set_option linter.unusedVariables false
set_option linter.unusedSimpArgs false
open Go.RowKit Verge

end Go.Proofs.YtcomkgmonhidhaaGreatDoor

namespace Go.Proofs.YtcomkgmonhidhaaGreatDoor
set_option linter.unusedVariables false
set_option linter.unusedSimpArgs false
open Go.RowKit Verge

/-- What scan answers. -/
def IsScan : Except (Nat × Int) (Bool × Nat × Nat × Int) → Value → World → Prop
  | .error (p, c), v, _ => v = .tuple #[.agg #[.bool false, .slice none 0 0, .slice none 0 0, .int .i64 0], .int .i64 (p : Int), .int .i64 c]
  | .ok (n, N, D, K), v, w => ∃ v1 v2, v = .tuple #[.agg #[.bool n, v1, v2, .int .i64 K], .int .i64 0, .int .i64 0] ∧ IsT N v1 w ∧ IsT D v2 w
end Go.Proofs.YtcomkgmonhidhaaGreatDoor

/- Layer 5: Cmp by the program and by the document; the law. -/
namespace Go.Proofs.YtcomkgmonhidhaaGreatDoor
set_option linter.unusedVariables false
set_option linter.unusedSimpArgs false
open Go.RowKit Verge

theorem ten_bits' (k : Nat) : blen (10 ^ k) ≤ 4 * k + 1 := by
  rw [blen_lt]
  have h1 : 10 ^ k ≤ 16 ^ k := Nat.pow_le_pow_left (by omega) k
  have h2 : 16 ^ k = 2 ^ (4 * k) := by rw [Nat.pow_mul]
  have h3 : 2 ^ (4 * k) < 2 ^ (4 * k + 1) := Nat.pow_lt_pow_right (by omega) (by omega)
  omega
theorem blen_mul2 {x y i j : Nat} (h1 : blen x ≤ i) (h2 : blen y ≤ j) : blen (x * y) ≤ i + j := by
  rw [blen_lt] at h1 h2 ⊢
  rw [Nat.pow_add]
  exact Nat.lt_of_le_of_lt (Nat.mul_le_mul_left _ (Nat.le_of_lt h2)) (Nat.mul_lt_mul_of_pos_right h1 (Nat.two_pow_pos j))
theorem xvl_bd {e : List UInt8} (h : ¬ 9999 < numB 10 (sg e).2) : -9999 ≤ xvl e ∧ xvl e ≤ 9999 := by
  unfold xvl; split <;> omega
theorem sg_le' (r : List UInt8) : (sg r).2.length ≤ r.length := by
  cases r with
  | nil => exact Nat.le_refl _
  | cons c s =>
    by_cases h : c.toNat = 43 ∨ c.toNat = 45
    · rw [sg_yes h]; exact Nat.le_succ _
    · rw [sg_no h]; exact Nat.le_refl _
theorem pt_len (b : Option (List UInt8)) : (ob b).length ≤ (pt b).length := by cases b <;> simp [ob, pt]
theorem blen_one : blen 1 ≤ 60000 := Nat.le_trans (show blen 1 ≤ 1 by rw [blen_lt]; decide) (by omega)
theorem scn_bd {l : List UInt8} {n : Bool} {N D : Nat} {K : Int} (h : scn l = .ok (n, N, D, K)) : blen N ≤ 60000 ∧ blen D ≤ 60000 ∧ 0 < D ∧ -27000 ≤ K ∧ K ≤ 27000 := by
  unfold scn at h
  by_cases hL : 4096 < l.length
  · rw [if_pos hL] at h; cases h
  · rw [if_neg hL] at h
    cases hc : cut l with
    | error k => rw [hc] at h; cases h
    | ok q =>
      obtain ⟨n', p⟩ := q
      rw [hc] at h
      dsimp only at h
      obtain ⟨-, hok⟩ := cut_ok hc
      have hT := sg_le' l
      generalize (sg l).2 = T at *
      cases hlate : p.late with
      | some kc => rw [hlate] at h; cases h
      | none =>
        rw [hlate] at h
        injection h with h
        injection h with h1 h
        injection h with h2 h
        injection h with h3 h4
        subst h1 h2 h3 h4
        cases p with
        | hx a b e =>
          obtain ⟨z, x, p, hz, hx, hp, ht, ha, hb, hab, he, hed⟩ := hok
          have hlen := congrArg List.length ht
          simp only [List.length_cons, List.length_append] at hlen
          have hpl := pt_len b
          have hnl : ¬ 9999 < numB 10 (sg e).2 := by
            intro hh
            have : (Pc.hx a b e).late = some ((sg e).2.length, 51) := if_pos hh
            rw [this] at hlate; cases hlate
          have hx := xvl_bd hnl
          refine ⟨?_, blen_one, Nat.one_pos, ?_, ?_⟩
          · refine Nat.le_trans (blenB (B := 16) (by omega) (l := a ++ ob b) (fun c hc => ?_) (by rw [List.length_append]; omega)) (by omega)
            rcases List.mem_append.1 hc with hc | hc
            · exact dvl_X (ha c hc)
            · exact dvl_X (hb c hc)
          · show -27000 ≤ xvl e - 4 * ((ob b).length : Int); omega
          · show xvl e - 4 * ((ob b).length : Int) ≤ 27000; omega
        | fr a d =>
          obtain ⟨s, hs, ht, ha, ha0, hd0, hd⟩ := hok
          have hlen := congrArg List.length ht
          simp only [List.length_cons, List.length_append] at hlen
          have hnz : numB 10 d ≠ 0 := by
            intro hh
            have : (Pc.fr a d).late = some (d.length, 50) := if_pos hh
            rw [this] at hlate; cases hlate
          refine ⟨?_, ?_, ?_, ?_, ?_⟩
          · exact Nat.le_trans (blenB (B := 10) (by omega) (l := a) (fun c hc => (dvl_D (ha c hc)).2) (by omega)) (by omega)
          · exact Nat.le_trans (blenB (B := 10) (by omega) (l := d) (fun c hc => (dvl_D (hd c hc)).2) (by omega)) (by omega)
          · show 0 < numB 10 d; omega
          · show (-27000 : Int) ≤ 0; omega
          · show (0 : Int) ≤ 27000; omega
        | dc a b e =>
          have hX : -14095 ≤ Pc.ten b e ∧ Pc.ten b e ≤ 9999 ∧ (a ++ ob b).length ≤ 4096 ∧ (∀ c ∈ a ++ ob b, isD c = true) := by
            have hpl := pt_len b
            cases e with
            | none =>
              obtain ⟨ht, ha, hb, hab⟩ := hok
              have hlen := congrArg List.length ht
              simp only [List.length_append] at hlen
              refine ⟨?_, ?_, by rw [List.length_append]; omega, fun c hc => ?_⟩
              · show (-14095 : Int) ≤ 0 - ((ob b).length : Int); omega
              · show 0 - ((ob b).length : Int) ≤ 9999; omega
              · rcases List.mem_append.1 hc with hc | hc
                · exact ha c hc
                · exact hb c hc
            | some e =>
              obtain ⟨p, hp, ht, ha, hb, hab, he, hed⟩ := hok
              have hlen := congrArg List.length ht
              simp only [List.length_append, List.length_cons] at hlen
              have hnl : ¬ 9999 < numB 10 (sg e).2 := by
                intro hh
                have : (Pc.dc a b (some e)).late = some ((sg e).2.length, 51) := if_pos hh
                rw [this] at hlate; cases hlate
              have hx := xvl_bd hnl
              refine ⟨?_, ?_, by rw [List.length_append]; omega, fun c hc => ?_⟩
              · show (-14095 : Int) ≤ xvl e - ((ob b).length : Int); omega
              · show xvl e - ((ob b).length : Int) ≤ 9999; omega
              · rcases List.mem_append.1 hc with hc | hc
                · exact ha c hc
                · exact hb c hc
          obtain ⟨x1, x2, x3, x4⟩ := hX
          have hN : (Pc.dc a b e).num = numB 10 (a ++ ob b) * 10 ^ (Pc.ten b e).toNat := rfl
          have hD : (Pc.dc a b e).den = 10 ^ (-Pc.ten b e).toNat := rfl
          have hK : (Pc.dc a b e).two = 0 := rfl
          rw [hN, hD, hK]
          refine ⟨?_, ?_, Nat.pow_pos (by omega), by omega, by omega⟩
          · refine Nat.le_trans (blen_mul2 (blenB (B := 10) (by omega) (fun c hc => (dvl_D (x4 c hc)).2) (by omega)) (ten_bits' _)) ?_
            omega
          · refine Nat.le_trans (ten_bits' _) ?_
            omega

theorem scn_code {l : List UInt8} {p : Nat} {c : Int} (h : scn l = .error (p, c)) : c = 2 ∨ c = 50 ∨ c = 51 := by
  unfold scn at h
  by_cases hL : 4096 < l.length
  · rw [if_pos hL] at h
    injection h with h; injection h with _ h; exact .inl h.symm
  · rw [if_neg hL] at h
    cases hc : cut l with
    | error k => rw [hc] at h; injection h with h; injection h with _ h; exact .inr (.inl h.symm)
    | ok q =>
      obtain ⟨n', p'⟩ := q
      rw [hc] at h
      dsimp only at h
      cases hlate : p'.late with
      | none => rw [hlate] at h; cases h
      | some kc =>
        obtain ⟨k, c'⟩ := kc
        rw [hlate] at h
        injection h with h; injection h with _ h
        subst h
        have hh : ∀ (q : Prop) [Decidable q] (a b : Nat × Int), (if q then some a else none) = some b → a = b := fun q _ a b e => by
          by_cases hq : q
          · rw [if_pos hq] at e; injection e
          · rw [if_neg hq] at e; cases e
        cases p' with
        | hx a b e => have := hh _ _ _ hlate; injection this with _ h2; exact .inr (.inr h2.symm)
        | fr a d => have := hh _ _ _ hlate; injection this with _ h2; exact .inr (.inl h2.symm)
        | dc a b e => cases e with
          | none => cases hlate
          | some e => have := hh _ _ _ hlate; injection this with _ h2; exact .inr (.inr h2.symm)
theorem scn_place {l : List UInt8} {p : Nat} {c : Int} (h : scn l = .error (p, c)) : p ≤ 4096 := by
  unfold scn at h
  by_cases hL : 4096 < l.length
  · rw [if_pos hL] at h
    injection h with h; injection h with h _; omega
  · rw [if_neg hL] at h
    cases hc : cut l with
    | error k => rw [hc] at h; injection h with h; injection h with h _; omega
    | ok q =>
      obtain ⟨n', p'⟩ := q
      rw [hc] at h
      dsimp only at h
      cases hlate : p'.late with
      | none => rw [hlate] at h; cases h
      | some kc =>
        rw [hlate] at h
        injection h with h; injection h with h _; omega
/-- The order of two numerals' numbers. -/
def ordS (x y : Bool × Nat × Nat × Int) : Int := icmp (sv x.1 (x.2.1 * y.2.2.1 * 2 ^ (x.2.2.2 - y.2.2.2).toNat)) (sv y.1 (y.2.1 * x.2.2.1 * 2 ^ (y.2.2.2 - x.2.2.2).toNat))
/-- What Cmp answers. -/
def cmpS (s t : List UInt8) : Int × Int × Int :=
  match scn s with
  | .error (p, c) => (0, (p : Int), c)
  | .ok x => match scn t with
    | .error (p, c) => (0, (s.length : Int) + 1 + (p : Int), c)
    | .ok y => (ordS x y, 0, 0)
theorem icmp_mul (a b : Int) {c : Nat} (hc : 0 < c) : icmp (a * c) (b * c) = icmp a b := by
  have hc' : (0 : Int) < c := by omega
  unfold icmp
  by_cases h : a < b
  · rw [if_pos h, if_pos (Int.mul_lt_mul_of_pos_right h hc')]
  · rw [if_neg h, if_neg (fun hh => h (Int.lt_of_mul_lt_mul_right hh (by omega)))]
    by_cases e : a = b
    · rw [if_pos e, if_pos (by rw [e])]
    · rw [if_neg e, if_neg (fun hh => e (Int.eq_of_mul_eq_mul_right (by omega) hh))]
theorem ordS_doc (n n' : Bool) (N D N' D' : Nat) (K K' : Int) :
    icmp (sv n (N * 2 ^ K.toNat) * ((D' * 2 ^ (-K').toNat : Nat) : Int)) (sv n' (N' * 2 ^ K'.toNat) * ((D * 2 ^ (-K).toNat : Nat) : Int)) = ordS (n, N, D, K) (n', N', D', K') := by
  obtain ⟨m, hm⟩ : ∃ m, K.toNat + (-K').toNat = (K - K').toNat + m := ⟨K.toNat + (-K').toNat - (K - K').toNat, by omega⟩
  have hm' : K'.toNat + (-K).toNat = (K' - K).toNat + m := by omega
  rw [← sv_mul, ← sv_mul]
  have e1 : N * 2 ^ K.toNat * (D' * 2 ^ (-K').toNat) = N * D' * 2 ^ (K - K').toNat * 2 ^ m := by
    have : 2 ^ K.toNat * 2 ^ (-K').toNat = 2 ^ (K - K').toNat * 2 ^ m := by rw [← Nat.pow_add, hm, Nat.pow_add]
    calc N * 2 ^ K.toNat * (D' * 2 ^ (-K').toNat) = N * D' * (2 ^ K.toNat * 2 ^ (-K').toNat) := by ac_rfl
      _ = N * D' * (2 ^ (K - K').toNat * 2 ^ m) := by rw [this]
      _ = _ := by ac_rfl
  have e2 : N' * 2 ^ K'.toNat * (D * 2 ^ (-K).toNat) = N' * D * 2 ^ (K' - K).toNat * 2 ^ m := by
    have : 2 ^ K'.toNat * 2 ^ (-K).toNat = 2 ^ (K' - K).toNat * 2 ^ m := by rw [← Nat.pow_add, hm', Nat.pow_add]
    calc N' * 2 ^ K'.toNat * (D * 2 ^ (-K).toNat) = N' * D * (2 ^ K'.toNat * 2 ^ (-K).toNat) := by ac_rfl
      _ = N' * D * (2 ^ (K' - K).toNat * 2 ^ m) := by rw [this]
      _ = _ := by ac_rfl
  rw [e1, e2, sv_mul n _ (2 ^ m), sv_mul n' _ (2 ^ m)]
  exact icmp_mul _ _ (Nat.two_pow_pos m)
end Go.Proofs.YtcomkgmonhidhaaGreatDoor

namespace Go.Proofs.YtcomkgmonhidhaaGreatDoor
set_option linter.unusedVariables false
set_option linter.unusedSimpArgs false
open Go.RowKit Verge

theorem dlen0 (n : Nat) : (((dig n).length : Nat) : Int) = 0 ↔ n = 0 := by
  constructor
  · intro h
    refine Classical.byContradiction fun hn => ?_
    have := dig_length_pos hn
    omega
  · rintro rfl; rw [dig_zero]; rfl
theorem o_ff (a b : Nat) : icmp (sv false a) (sv false b) = cmp a b := by
  show icmp (a : Int) (b : Int) = cmp a b
  unfold icmp cmp; repeat' split
  all_goals omega
theorem o_tt (a b : Nat) : icmp (sv true a) (sv true b) = -cmp a b := by
  show icmp (-(a : Int)) (-(b : Int)) = -cmp a b
  unfold icmp cmp; repeat' split
  all_goals omega
theorem o_tf (a b : Nat) : icmp (sv true a) (sv false b) = if a = 0 ∧ b = 0 then 0 else -1 := by
  show icmp (-(a : Int)) (b : Int) = _
  unfold icmp; repeat' split
  all_goals omega
theorem o_ft (a b : Nat) : icmp (sv false a) (sv true b) = if a = 0 ∧ b = 0 then 0 else 1 := by
  show icmp (a : Int) (-(b : Int)) = _
  unfold icmp; repeat' split
  all_goals omega
theorem two_bits (k : Nat) : blen (2 ^ k) ≤ k + 1 := (blen_lt _ _).2 (Nat.pow_lt_pow_right (by omega) (by omega))
abbrev IsI (x : Int × Int × Int) : Value → World → Prop := IsV (.tuple #[.int .i64 x.1, .int .i64 x.2.1, .int .i64 x.2.2])

end Go.Proofs.YtcomkgmonhidhaaGreatDoor

namespace Go.Proofs.YtcomkgmonhidhaaGreatDoor
set_option linter.unusedVariables false
set_option linter.unusedSimpArgs false
open Go.RowKit Verge

theorem bs_of (s : ByteArray) : s = bs s.data.toList := by apply ByteArray.ext; simp [bs]
abbrev rtO (s : Bool) (V D : Value) : Obj := .cells #[.bool s, V, D] 70
theorem rt_cells {w : World} {b : Nat} {s : Bool} {V D : Value} (h : w.heap[b]? = some (rtO s V D)) : w.cell? ⟨b, 0, none⟩ = some (.bool s) ∧ w.cell? ⟨b, 1, none⟩ = some V ∧ w.cell? ⟨b, 2, none⟩ = some D := by
  refine ⟨?_, ?_, ?_⟩ <;> simp [World.cell?, h]
end Go.Proofs.YtcomkgmonhidhaaGreatDoor
end
