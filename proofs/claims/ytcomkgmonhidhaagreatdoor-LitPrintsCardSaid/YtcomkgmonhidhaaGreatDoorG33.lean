/- Layer 5, plain: the order of texts, and what they are read as. -/
import Derived.Test.YtcomkgmonhidhaaGreatDoorG32
import Derived.Test.YtcomkgmonhidhaaGreatDoorG03
import Derived.Laws.BytesArg
import Derived.Test.YtcomkgmonhidhaaGreatDoorG07
import Derived.Test.YtcomkgmonhidhaaGreatDoorG06
import Derived.Laws.OwnMore
import Derived.Laws.Concat
section
namespace Go.Proofs.YtcomkgmonhidhaaGreatDoor
set_option linter.unusedVariables false
set_option linter.unusedSimpArgs false
open Go.RowKit Verge

theorem fl_le {N M D : Nat} (hD : 0 < D) (h : N ≤ M) : fl (N / D) ≤ fl (M / D) := (div_FV hD).2 (Nat.le_trans (fl_div_le N D hD) h)
theorem rngA_mono {N M D : Nat} (hD : 0 < D) (h : N ≤ M) : rngA N D ≤ rngA M D := by
  have h1 := fl_le hD h
  have h2 := fl_div_le N D hD
  have h3 := fl_div_le M D hD
  unfold rngA
  generalize fl (N / D) = a at *
  generalize fl (M / D) = b at *
  by_cases e1 : FV a * D = N
  · rw [if_pos e1]; split <;> omega
  · rw [if_neg e1]
    by_cases e2 : FV b * D = M
    · rw [if_pos e2]
      rcases Nat.lt_or_ge a b with h4 | h4
      · omega
      · obtain rfl : a = b := by omega
        exact absurd (show FV a * D = N by omega) e1
    · rw [if_neg e2]; omega
theorem rngN_mono {N M D : Nat} (hD : 0 < D) (h : N ≤ M) : rngN N D ≤ rngN M D := by
  have h1 := fl_le hD h
  unfold rngN
  generalize fl (N / D) = a at *
  generalize fl (M / D) = b at *
  rcases Nat.lt_or_ge a b with h4 | h4
  · generalize (FV a + FV (a + 1)) * D = A
    generalize (FV b + FV (b + 1)) * D = B
    repeat' split
    all_goals omega
  · obtain rfl : a = b := by omega
    generalize (FV a + FV (a + 1)) * D = A
    repeat' split
    all_goals omega
theorem rng_mono {d : Int} {s : Bool} {N M D : Nat} (hD : 0 < D) (h : N ≤ M) : rng d s N D ≤ rng d s M D := by
  have h1 := fl_le hD h
  have h2 := rngA_mono hD h
  have h3 := rngN_mono hD h
  unfold rng
  repeat' split
  all_goals omega
theorem rng_le {d : Int} {s : Bool} {N D M E : Nat} (hD : 0 < D) (hE : 0 < E) (h : N * E ≤ M * D) : rng d s N D ≤ rng d s M E := by
  rw [← rng_cut d s N D E hE, ← rng_cut d s M E D hD, Nat.mul_comm E D]
  exact rng_mono (Nat.mul_pos hD hE) h
theorem rng_eq {d : Int} {s : Bool} {N D M E : Nat} (hD : 0 < D) (hE : 0 < E) (h : N * E = M * D) : rng d s N D = rng d s M E :=
  Nat.le_antisymm (rng_le hD hE (Nat.le_of_eq h)) (rng_le hE hD (Nat.le_of_eq h.symm))
theorem crossed (A D B E : Nat) (K L : Int) (U : Nat) (hU : 0 < U) : ∃ c, 0 < c ∧ A * 2 ^ K.toNat * U * (E * 2 ^ (-L).toNat) = A * E * 2 ^ (K - L).toNat * c ∧ B * 2 ^ L.toNat * U * (D * 2 ^ (-K).toNat) = B * D * 2 ^ (L - K).toNat * c := by
  obtain ⟨j, hj⟩ : ∃ j : Nat, K.toNat + (-L).toNat = (K - L).toNat + j := ⟨K.toNat + (-L).toNat - (K - L).toNat, by omega⟩
  have hj2 : L.toNat + (-K).toNat = (L - K).toNat + j := by omega
  refine ⟨2 ^ j * U, Nat.mul_pos (Nat.two_pow_pos _) hU, ?_, ?_⟩
  · have : 2 ^ K.toNat * 2 ^ (-L).toNat = 2 ^ (K - L).toNat * 2 ^ j := by rw [← Nat.pow_add, ← Nat.pow_add, hj]
    calc A * 2 ^ K.toNat * U * (E * 2 ^ (-L).toNat) = A * E * (2 ^ K.toNat * 2 ^ (-L).toNat) * U := by ac_rfl
      _ = _ := by rw [this]; ac_rfl
  · have : 2 ^ L.toNat * 2 ^ (-K).toNat = 2 ^ (L - K).toNat * 2 ^ j := by rw [← Nat.pow_add, ← Nat.pow_add, hj2]
    calc B * 2 ^ L.toNat * U * (D * 2 ^ (-K).toNat) = B * D * (2 ^ L.toNat * 2 ^ (-K).toNat) * U := by ac_rfl
      _ = _ := by rw [this]; ac_rfl
/-- The pattern that a numeral's number is read as. -/
def ordP (d : Int) (x : Bool × Nat × Nat × Int) : Nat := fpat x.1 (rng d x.1 (x.2.1 * 2 ^ x.2.2.2.toNat * 2 ^ KU) (x.2.2.1 * 2 ^ (-x.2.2.2).toNat))
theorem FK_fpat {s : Bool} {r : Nat} (h : r ≤ 9218868437227405312) : FK (fpat s r) = if s = true then -(r : Int) else r := by
  unfold fpat FK
  by_cases h0 : r = 0
  · subst h0; cases s <;> rfl
  · rw [if_neg h0]
    cases s
    · simp only [Bool.false_eq_true, if_false]; rw [if_pos (by omega)]
    · simp only [if_true]; rw [if_neg (by omega)]; omega
theorem icmp_lt {a b : Int} : icmp a b = -1 → a < b := by
  unfold icmp; intro h; split at h
  · assumption
  · split at h <;> simp at h
theorem icmp_self (a : Int) : icmp a a = 0 := by unfold icmp; rw [if_neg (by omega), if_pos rfl]
theorem icmp_cases (a b : Int) : (icmp a b = -1 ∧ icmp b a = 1 ∧ a < b) ∨ (icmp a b = 0 ∧ icmp b a = 0 ∧ a = b) ∨ (icmp a b = 1 ∧ icmp b a = -1 ∧ b < a) := by
  unfold icmp
  rcases Int.lt_trichotomy a b with h | h | h
  · left; rw [if_pos h, if_neg (by omega), if_neg (by omega)]; exact ⟨rfl, rfl, h⟩
  · right; left; rw [if_neg (by omega), if_pos h, if_neg (by omega), if_pos h.symm]; exact ⟨rfl, rfl, h⟩
  · right; right; rw [if_neg (by omega), if_neg (by omega), if_pos h]; exact ⟨rfl, rfl, h⟩
theorem ord_less (d : Int) {x y : Bool × Nat × Nat × Int} (hx : 0 < x.2.2.1) (hy : 0 < y.2.2.1) (h : sv x.1 (x.2.1 * y.2.2.1 * 2 ^ (x.2.2.2 - y.2.2.2).toNat) ≤ sv y.1 (y.2.1 * x.2.2.1 * 2 ^ (y.2.2.2 - x.2.2.2).toNat)) : FK (ordP d x) ≤ FK (ordP d y) := by
  obtain ⟨s, A, D, K⟩ := x
  obtain ⟨t, B, E, L⟩ := y
  simp only at hx hy h ⊢
  unfold ordP
  simp only
  rw [FK_fpat (rng_top _ _ _ _), FK_fpat (rng_top _ _ _ _)]
  obtain ⟨c, hc, e1, e2⟩ := crossed A D B E K L (2 ^ KU) (Nat.two_pow_pos _)
  have hD : 0 < D * 2 ^ (-K).toNat := Nat.mul_pos hx (Nat.two_pow_pos _)
  have hE : 0 < E * 2 ^ (-L).toNat := Nat.mul_pos hy (Nat.two_pow_pos _)
  generalize D * 2 ^ (-K).toNat = D' at *
  generalize E * 2 ^ (-L).toNat = E' at *
  generalize A * 2 ^ K.toNat * 2 ^ KU = A' at *
  generalize B * 2 ^ L.toNat * 2 ^ KU = B' at *
  generalize A * E * 2 ^ (K - L).toNat = a at *
  generalize B * D * 2 ^ (L - K).toNat = b at *
  unfold sv at h
  cases s <;> cases t
  · have h' : a ≤ b := by simp at h; omega
    have := rng_le (d := d) (s := false) hD hE (by rw [e1, e2]; exact Nat.mul_le_mul_right c h')
    simp; omega
  · have h' : a = 0 ∧ b = 0 := by simp at h; omega
    have hA : A' = 0 := by
      have := e1; rw [h'.1, Nat.zero_mul] at this
      rcases Nat.mul_eq_zero.1 this with h | h
      · exact h
      · omega
    have hB : B' = 0 := by
      have := e2; rw [h'.2, Nat.zero_mul] at this
      rcases Nat.mul_eq_zero.1 this with h | h
      · exact h
      · omega
    rw [hA, hB, rng_zero, rng_zero]; simp
  · simp <;> omega
  · have h' : b ≤ a := by simp at h; omega
    have := rng_le (d := d) (s := true) hE hD (by rw [e1, e2]; exact Nat.mul_le_mul_right c h')
    simp; omega
theorem FK_pat {s t : Bool} {r u : Nat} (h : r ≤ 9218868437227405312) (h' : u ≤ 9218868437227405312) (e : FK (fpat s r) = FK (fpat t u)) : fpat s r = fpat t u := by
  rw [FK_fpat h, FK_fpat h'] at e
  unfold fpat
  cases s <;> cases t <;> simp at e ⊢ <;> (repeat' split) <;> omega
/-- What the order of two numerals says of what they are read as. -/
theorem ord_law (d : Int) {x y : Bool × Nat × Nat × Int} (hx : 0 < x.2.2.1) (hy : 0 < y.2.2.1) :
    (ordS x y = -1 ∧ ordS y x = 1 ∧ FK (ordP d x) ≤ FK (ordP d y)) ∨ (ordS x y = 0 ∧ ordS y x = 0 ∧ ordP d x = ordP d y) ∨ (ordS x y = 1 ∧ ordS y x = -1 ∧ FK (ordP d y) ≤ FK (ordP d x)) := by
  unfold ordS
  rcases icmp_cases (sv x.1 (x.2.1 * y.2.2.1 * 2 ^ (x.2.2.2 - y.2.2.2).toNat)) (sv y.1 (y.2.1 * x.2.2.1 * 2 ^ (y.2.2.2 - x.2.2.2).toNat)) with ⟨h1, h2, h⟩ | ⟨h1, h2, h⟩ | ⟨h1, h2, h⟩
  · exact .inl ⟨h1, h2, ord_less d hx hy (Int.le_of_lt h)⟩
  · exact .inr (.inl ⟨h1, h2, FK_pat (rng_top _ _ _ _) (rng_top _ _ _ _) (Int.le_antisymm (ord_less d hx hy (Int.le_of_eq h)) (ord_less d hy hx (Int.le_of_eq h.symm)))⟩)
  · exact .inr (.inr ⟨h1, h2, ord_less d hy hx (Int.le_of_lt h)⟩)
theorem ordS_self (x : Bool × Nat × Nat × Int) : ordS x x = 0 := icmp_self _
/-- All that the law asks of two texts. -/
theorem ord_all (d : Int) (s t : List UInt8) :
    ((cmpS s t).1 = 0 ∧ (cmpS t s).1 = 0 ∧ (cmpS s t).2.2 ≠ 0 ∧ (cmpS t s).2.2 ≠ 0 ∧ ((readS d s).2.2 ≠ 0 ∨ (readS d t).2.2 ≠ 0)) ∨
    ((cmpS s t).2.2 = 0 ∧ (cmpS t s).2.2 = 0 ∧ (readS d s).2.2 = 0 ∧ (readS d t).2.2 = 0 ∧ cmpS s s = (0, 0, 0) ∧ cmpS t t = (0, 0, 0) ∧
      (((cmpS s t).1 = -1 ∧ (cmpS t s).1 = 1 ∧ FK (readS d s).1 ≤ FK (readS d t).1) ∨ ((cmpS s t).1 = 0 ∧ (cmpS t s).1 = 0 ∧ (readS d s).1 = (readS d t).1) ∨ ((cmpS s t).1 = 1 ∧ (cmpS t s).1 = -1 ∧ FK (readS d t).1 ≤ FK (readS d s).1))) := by
  unfold cmpS readS
  cases hs : scn s with
  | error pc =>
    obtain ⟨p, c⟩ := pc
    have hc := scn_code hs
    left
    cases ht : scn t with
    | error pc' =>
      obtain ⟨p', c'⟩ := pc'
      have hc' := scn_code ht
      exact ⟨rfl, rfl, by show c ≠ 0; omega, by show c' ≠ 0; omega, .inl (by show c ≠ 0; omega)⟩
    | ok y => exact ⟨rfl, rfl, by show c ≠ 0; omega, by show c ≠ 0; omega, .inl (by show c ≠ 0; omega)⟩
  | ok x =>
    cases ht : scn t with
    | error pc' =>
      obtain ⟨p', c'⟩ := pc'
      have hc' := scn_code ht
      left
      exact ⟨rfl, rfl, by show c' ≠ 0; omega, by show c' ≠ 0; omega, .inr (by show c' ≠ 0; omega)⟩
    | ok y =>
      obtain ⟨n, N, D, K⟩ := x
      obtain ⟨m, M, E, L⟩ := y
      right
      refine ⟨rfl, rfl, rfl, rfl, ?_, ?_, ord_law d (x := (n, N, D, K)) (y := (m, M, E, L)) (scn_bd hs).2.2.1 (scn_bd ht).2.2.1⟩
      · show (ordS _ _, _, _) = _; rw [ordS_self]
      · show (ordS _ _, _, _) = _; rw [ordS_self]
end Go.Proofs.YtcomkgmonhidhaaGreatDoor
end

section
namespace Go.Proofs.YtcomkgmonhidhaaGreatDoor
set_option linter.unusedVariables false
set_option linter.unusedSimpArgs false
open Go.RowKit Verge

/-- The cell of the table that 16 asks for. -/
def Tab16 (w : World) : Prop := w.cell? ⟨3, 15, none⟩ = some (.int .u8 4)
theorem Tab16.below {w w' : World} (h : Tab16 w) (hb : Below w.heap.size w w') : Tab16 w' := (bcell hb _ _ (lt_of_cell h)).trans h
theorem tz16 (w : World) (h : Tab16 w) : Calls Tryz.prog 118 #[.int .u64 16] w fun e w' => e = .returned (.int .i64 4) ∧ w = w' := by
  unfold Tab16 at h
  have e1 : Go.bits .and .u64 16 (IntKind.u64.wrap (-16)) = 16 := by decide +kernel
  have e2 : IntKind.u64.wrap (16 * 285870213051353865) = 4573923408821661840 := by decide +kernel
  have e3 : (4573923408821661840 : Int) / 288230376151711744 = 15 := by decide +kernel
  go_enter Tryz.func118, Tryz.ntmps118
  go_wp2
  go_ret
  exact ⟨rfl, rfl⟩
/-- The sign of a digit below 16, as the library's string holds it. -/
theorem digit16 (u : Nat) (hu : u < 16) : (#[48, 49, 50, 51, 52, 53, 54, 55, 56, 57, 97, 98, 99, 100, 101, 102, 103, 104, 105, 106, 107, 108, 109, 110, 111, 112, 113, 114, 115, 116, 117, 118, 119, 120, 121, 122] : Array UInt8)[u]? = some (hexc u) := by
  rcases u with _ | _ | _ | _ | _ | _ | _ | _ | _ | _ | _ | _ | _ | _ | _ | _ | u
  all_goals first | rfl | omega

/-- A byte of memory as a text. -/
theorem conv1 (w : World) (b off cap : Nat) (x : UInt8) (h : w.cell? ⟨b, off, none⟩ = some (.int .u8 (x.toNat : Int))) : (convert 75 9 (.slice (some ⟨b, off, none⟩) 1 cap)).run Tryz.prog w = .ok (.string (bs [x])) w := by
  have := run_convert_bytes_arg (P := Tryz.prog) w 75 5 Tryz.underlying75 Tryz.underlying5 b off 1 cap [(x.toNat : Int)] rfl (fun i hi => by
    obtain rfl : i = 0 := by omega
    simpa using h) 9 Tryz.underlying9
  rw [this]
  simp [strOfNums, bs]
theorem digitB (u : Nat) (hu : u < 16) (h : u < (⟨#[48, 49, 50, 51, 52, 53, 54, 55, 56, 57, 97, 98, 99, 100, 101, 102, 103, 104, 105, 106, 107, 108, 109, 110, 111, 112, 113, 114, 115, 116, 117, 118, 119, 120, 121, 122]⟩ : ByteArray).size) : (⟨#[48, 49, 50, 51, 52, 53, 54, 55, 56, 57, 97, 98, 99, 100, 101, 102, 103, 104, 105, 106, 107, 108, 109, 110, 111, 112, 113, 114, 115, 116, 117, 118, 119, 120, 121, 122]⟩ : ByteArray)[u]'h = hexc u := by
  have := digit16 u hu
  rw [Array.getElem?_eq_some_iff] at this
  exact this.2

set_option maxRecDepth 20000 in
set_option maxHeartbeats 2000000 in
theorem bits16 (u : Nat) (hu : u < 16) (w : World) (h : Tab16 w) : Calls Tryz.prog 111 #[.slice none 0 0, .int .u64 (u : Int), .int .i64 16, .bool false, .bool false] w fun e w' => e = .returned (.tuple #[.slice none 0 0, .string (bs [hexc u])]) ∧ Below w.heap.size w w' := by
  have HT := Lib.hid h
  have hlt : (u : Int) < 16 := by omega
  have e0 : Go.bits .and .i64 16 15 = 0 := by decide +kernel
  clear h
  go_enter Tryz.func111, Tryz.ntmps111
  have hwr : IntKind.u64.wrap (16 - 1) = 15 := by decide +kernel
  go_wp2_with (first | (go_at_call 118; refine (tz16 _ (HT.out.below ((Below.refl _ _).alloc (Nat.le_refl _) _))).mono ?_; rintro e w' ⟨rfl, rfl⟩) | go_in)
  go_loop [1, 13] (fun u1 iv => u1 = .int .u64 (u : Int) ∧ iv = .int .i64 65) (fun _ _ => 0)
  case atStart => exact ⟨rfl, rfl⟩
  case round =>
    obtain ⟨rfl, rfl⟩ := hrel
    have HB := Lib.hid ((Below.refl w.heap.size w).alloc (Nat.le_refl _) (.cells (Tryz.zeroCells121.setIfInBounds 64 (.int .u8 ((hexc u).toNat : Int))) 121))
    go_upto_region 30 with fail
    simp only [digitB u hu]
    obtain ⟨W, hW⟩ : ∃ W, w.alloc (.cells (Tryz.zeroCells121.setIfInBounds 64 (.int .u8 ((hexc u).toNat : Int))) 121) = W := ⟨_, rfl⟩
    rw [hW] at HB ⊢
    have hz : Tryz.zeroCells121.size = 65 := by kernel_rfl
    have hc : W.cell? ⟨w.heap.size, 64, none⟩ = some (.int .u8 ((hexc u).toNat : Int)) := by
      rw [← hW]
      have : (w.alloc (.cells (Tryz.zeroCells121.setIfInBounds 64 (.int .u8 ((hexc u).toNat : Int))) 121)).heap[w.heap.size]? = some (.cells (Tryz.zeroCells121.setIfInBounds 64 (.int .u8 ((hexc u).toNat : Int))) 121) := by
        show (w.heap.push _)[w.heap.size]? = _
        simp
      simp only [World.cell?, this]
      simp [hz]
    have hcv := conv1 W w.heap.size 64 1 (hexc u) hc
    clear hW hz hc
    go_wp2
    go_ret2
    exact ⟨rfl, HB.out⟩
end Go.Proofs.YtcomkgmonhidhaaGreatDoor
end

section
namespace Go.Proofs.YtcomkgmonhidhaaGreatDoor
set_option linter.unusedVariables false
set_option linter.unusedSimpArgs false
open Go.RowKit Verge

set_option maxHeartbeats 1000000 in
/-- Norm: the list is new memory, and may be written. -/
theorem rnorm_grow (A : Option Addr) (n c : Nat) (X : List Nat) (w : World) (h : Rd w A X) (hn : X.length = n) (hm : n ≤ 35184372088800) :
    Calls Tryz.prog 73 #[.slice A n c] w (fun e w' => ∃ v, e = .returned v ∧ Grow w' w.heap.size v (dig (val X)) ∧ Below w.heap.size w w') := by
  have hD := dig_val h.1
  have hR := Lib.hid (fun W (hb : Below w.heap.size w W) => h.below hb)
  have hle := wl_le X
  have H1 := Lib.hid (And.intro hn (And.intro h hD))
  clear h hn hD
  go_enter Tryz.func73, Tryz.ntmps73
  go_wp2
  go_loop [3] (fun v => ∃ k : Nat, k ≤ n ∧ v = .int .i64 k ∧ Hid (∀ j x : Nat, k ≤ j → X[j]? = some x → x = 0)) (fun v => (intOf v).toNat)
  case atStart => exact ⟨n, Nat.le_refl _, rfl, fun j x hj hx => by rw [List.getElem?_eq_none (by have := H1.out.1; omega)] at hx; cases hx⟩
  case round =>
    obtain ⟨k, hk, rfl, hz⟩ := hrel
    by_cases hcont : ∃ j, k = j + 1 ∧ X[j]? = some 0
    · obtain ⟨j, rfl, hx⟩ := hcont
      obtain ⟨b, o, rfl, hc⟩ := (H1.out.2.1).2 (by rintro rfl; simp at hx)
      have hcell := hc j 0 hx
      have HX := Lib.hid hx; clear hx hc
      go_wp2
      go_round
      case rel => exact ⟨j, by omega, by go_num, fun i y hi hy => by
        rcases Nat.eq_or_lt_of_le hi with h | h
        · subst h; rw [HX.out] at hy; simpa using hy.symm
        · exact hz.out i y h hy⟩
      case measure => simp [intOf]
    · have hkw : wl X = k := wl_of X k (by have := H1.out.1; omega) (fun i x hi hx => hz.out i x hi hx) (fun j x hj hx hx0 => hcont ⟨j, hj, by rw [hx, hx0]⟩)
      have HK := Lib.hid hkw; clear hkw hz
      rcases Nat.eq_zero_or_pos k with hk0 | hk0
      · subst hk0
        clear hcont
        go_wp2
        go_loopw [4, 5] (fun v iv wr => v = .slice none 0 0 ∧ iv = .int .i64 0 ∧ wr = w) (fun _ _ _ => 0)
        case atStart => exact ⟨rfl, rfl, rfl⟩
        case round =>
          obtain ⟨rfl, rfl, rfl⟩ := hrel
          go_wp2
          go_ret
          have hd : dig (val X) = [] := by
            rw [H1.out.2.2, norm, HK.out]; rfl
          rw [hd]
          exact ⟨_, rfl, Grow.nil _ _, Below.refl _ _⟩
      · obtain ⟨b, o, rfl, hc⟩ := (H1.out.2.1).cells (by have := H1.out.1; omega)
        obtain ⟨j, rfl⟩ : ∃ j, k = j + 1 := ⟨k - 1, by omega⟩
        have hcell := hc j (by have := H1.out.1; omega)
        have hne : ((X.getD j 0 : Nat) : Int) ≠ 0 := by
          intro e
          exact hcont ⟨j, rfl, by rw [get_of_lt X (by have := H1.out.1; omega)]; congr 1; omega⟩
        obtain ⟨y, hy⟩ : ∃ y, X.getD j 0 = y := ⟨_, rfl⟩
        rw [hy] at hcell hne
        have hyb : ((y : Int) == 0) = false := by rw [beq_eq_false_iff_ne]; exact hne
        clear hcont hne hy hc
        go_wp2
        clear hyb hcell
        go_loopw [4, 5] (fun v iv wr => ∃ i : Nat, i ≤ j + 1 ∧ iv = .int .i64 i ∧ Grow wr w.heap.size v (X.take i) ∧ Below w.heap.size w wr) (fun _ iv _ => j + 1 - (intOf iv).toNat)
        case atStart => exact ⟨0, by omega, rfl, by rw [List.take_zero]; exact Grow.nil _ _, Below.refl _ _⟩
        case round =>
          obtain ⟨i, hi, rfl, hG, hb⟩ := hrel
          by_cases hij : i < j + 1
          · obtain ⟨b2, o2, he, hcx⟩ := (hR.out _ hb).cell (k := i) (by have := H1.out.1; omega)
            simp only [Option.some.injEq, Addr.mk.injEq, and_true] at he
            obtain ⟨rfl, rfl⟩ := he
            have hx32 := (hR.out _ hb).1.getD i
            obtain ⟨x, hgx⟩ : ∃ x, X.getD i 0 = x := ⟨_, rfl⟩
            rw [hgx] at hcx hx32
            have HGX := Lib.hid hgx; clear hgx
            have hsz := hb.size
            have hlen : (X.take i).length + 1 ≤ 35184372088832 := by rw [List.length_take]; omega
            have hin : (i : Int) < (n : Int) := by omega
            go_wp2_with (refine wpList_push rfl _ _ rfl w.heap.size _ (X.take i) rfl wr _ x rfl rfl hx32 hG rfl hlen hsz w hb ?_; intro v' w1 hG1 hb1)
            go_roundw
            case rel => exact ⟨i + 1, by omega, by go_num, by rw [take_succ_of' X (by have := H1.out.1; omega) HGX.out]; exact hG1, hb1⟩
            case measure => simp [intOf]; omega
          · obtain rfl : i = j + 1 := by omega
            go_wp2
            go_ret
            have hd : dig (val X) = X.take (j + 1) := by rw [H1.out.2.2, norm, HK.out]
            rw [hd]
            exact ⟨_, rfl, hG, hb⟩

theorem txt_len : ∀ n : Nat, (txt n).length ≤ blen n := by
  intro n
  induction n using Nat.strongRecOn with
  | _ n ih =>
    rcases Nat.eq_zero_or_pos n with h | h
    · subst h; exact Nat.le_refl _
    · rw [txt_step h, List.length_append]
      have h1 := ih (n / 10) (by omega)
      have h2 : blen (n / 10) + 1 ≤ blen n := by
        rcases Nat.eq_zero_or_pos (n / 10) with e | e
        · rw [e, blen_zero]; have := blen_pos (show n ≠ 0 by omega); omega
        · have h3 := blen_le (show n / 10 ≠ 0 by omega)
          have h4 := blen_pos (show n / 10 ≠ 0 by omega)
          have h5 : ¬ blen n ≤ blen (n / 10) := by
            rw [blen_lt]
            have : 2 ^ blen (n / 10) = 2 * 2 ^ (blen (n / 10) - 1) := by
              rw [show blen (n / 10) = (blen (n / 10) - 1) + 1 by omega, Nat.pow_succ, Nat.add_sub_cancel]; omega
            omega
          omega
      simp
      omega
theorem Grow.mono {w : World} {B B' : Nat} {v : Value} {xs : List Nat} (h : Grow w B v xs) (hB : B' ≤ B) : Grow w B' v xs := ⟨h.1, h.2.1, h.2.2.imp id fun ⟨g, cap, cur, h1, h2, h3⟩ => ⟨g, cap, cur, h1, Nat.le_trans hB h2, h3⟩⟩
theorem Grow.later {w w' : World} {B : Nat} {v : Value} {xs : List Nat} (h : Grow w B v xs) (hb : Below w.heap.size w w') : Grow w' B v xs :=
  ⟨h.1, h.2.kept (row := none) ⟨hb.os, hb.tape, hb.output, hb.size, fun k hk _ => hb.block k hk⟩ (by cases hv : v.ownBlock with | none => exact .inl rfl | some k => exact .inr (by simp))⟩
theorem Grow.formN {w : World} {B : Nat} {v : Value} {xs : List Nat} (h : Grow w B v xs) (hn : 0 < xs.length) : ∃ g cap, v = .slice (some ⟨g, 0, none⟩) xs.length cap ∧ xs.length ≤ cap ∧ cap ≤ maxLen ∧ B ≤ g ∧ g < w.heap.size := by
  have hl := h.2.lt
  rcases h.2.2 with ⟨_, h0⟩ | ⟨g, cap, cur, rfl, hb, _, h1, h2, _⟩
  · omega
  · exact ⟨g, cap, rfl, h1, h2, hb, (hl g rfl).2⟩
theorem Grow.atN {w : World} {B g n cap : Nat} {xs : List Nat} (h : Grow w B (.slice (some ⟨g, 0, none⟩) n cap) xs) (hn : xs.length = n) {j : Nat} (hj : j < n) :
    w.cell? ⟨g, j, none⟩ = some (.int .u32 ((xs.getD j 0 : Nat) : Int)) ∧ w.frozen? ⟨g, j, none⟩ = false := by
  subst hn
  refine ⟨(h.2.cellAt j (by omega)).trans ?_, h.2.frozenAt j⟩
  rw [u32s_get, List.getElem?_eq_getElem hj, List.getD_eq_getElem?_getD, List.getElem?_eq_getElem hj]
  rfl
theorem Grow.putN {w : World} {B g n cap : Nat} {xs : List Nat} (h : Grow w B (.slice (some ⟨g, 0, none⟩) n cap) xs) (hn : xs.length = n) (j : Nat) {v : Nat} (hv : v < 4294967296) :
    Grow (w.setCell ⟨g, j, none⟩ (.int .u32 (v : Int))) B (.slice (some ⟨g, 0, none⟩) n cap) (xs.set j v) := by
  subst hn
  refine ⟨h.1.set j hv, ?_⟩
  have := (h.2.stored j (.int .u32 (v : Int))).1
  rw [List.length_set]
  have e : (u32s xs).set j (.int .u32 (v : Int)) = u32s (xs.set j v) := by simp [u32s, List.map_set]
  rw [e] at this
  exact this
end Go.Proofs.YtcomkgmonhidhaaGreatDoor
end
