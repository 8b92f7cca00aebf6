/- vergeref6's sets: Finite, Of. -/
import Derived.Test.YtmmbbkeefphaiaaEndA
import Derived.Test.YtmmbbkeefphaiaaMagB
namespace Go.Proofs.Ytmmbbkeefphaiaa
set_option linter.unusedVariables false
set_option linter.unusedSimpArgs false
open Go.RowKit Verge

theorem dig_shl_len (a u : Nat) : (dig (a * 2 ^ u)).length ≤ (dig a).length + u / 32 + 1 := by
  rw [dig_length_le]
  have h : a < 4294967296 ^ (dig a).length := dig_length_le.1 (Nat.le_refl _)
  have h1 : a * 2 ^ u < 4294967296 ^ (dig a).length * 2 ^ u := Nat.mul_lt_mul_of_pos_right h (Nat.two_pow_pos _)
  refine Nat.lt_of_lt_of_le h1 ?_
  rw [Nat.add_assoc, Nat.pow_add]
  refine Nat.mul_le_mul_left _ ?_
  rw [show (4294967296 : Nat) = 2 ^ 32 from rfl, ← Nat.pow_mul]
  exact Nat.pow_le_pow_right (by omega) (by omega)
theorem fbE_le (b : Nat) : fbE b ≤ 2047 := by unfold fbE; omega
theorem fbN_len (b : Nat) : (dig (fbN b)).length ≤ 100 := by
  unfold fbN fracN
  by_cases h0 : fbF b = 0
  · rw [if_pos h0, dig_zero]; simp
  · rw [if_neg h0]
    have h1 := dig_shl_len (fbF b / 2 ^ ntz (fbF b)) (fracE (fbF b) 1 ((fbE b : Int) - 1074)).toNat
    have h2 : (dig (fbF b / 2 ^ ntz (fbF b))).length ≤ 2 := by
      have := dig_length_mono (Nat.div_le_self (fbF b) (2 ^ ntz (fbF b)))
      have : (dig (fbF b)).length ≤ 2 := dig_length_le.2 (by have := fbF_lt b; omega)
      omega
    have h3 : (fracE (fbF b) 1 ((fbE b : Int) - 1074)).toNat ≤ 2047 + 96 := by
      have h4 := ntz_words_le (fbF b)
      have : (dig (fbF b)).length ≤ 2 := dig_length_le.2 (by have := fbF_lt b; omega)
      have := fbE_le b
      unfold fracE
      omega
    omega
theorem fbD_len (b : Nat) : (dig (fbD b)).length ≤ 100 := by
  unfold fbD fracD
  by_cases h0 : fbF b = 0
  · rw [if_pos h0, dig_one]; simp
  · rw [if_neg h0]
    have n1 : ntz 1 = 0 := ntz_of 1 0 0 (by simp)
    have h1 := dig_shl_len (1 / 2 ^ ntz 1) (-(fracE (fbF b) 1 ((fbE b : Int) - 1074))).toNat
    have h2 : (dig (1 / 2 ^ ntz 1)).length ≤ 1 := by rw [n1]; simp [dig_one]
    have h3 : (-(fracE (fbF b) 1 ((fbE b : Int) - 1074))).toNat ≤ 1074 := by
      unfold fracE
      rw [n1]
      omega
    omega
theorem bN_len (b : Nat) : (dig (bN b)).length ≤ 100 := by
  unfold bN; split
  · rw [dig_zero]; simp
  · split
    · rw [dig_zero]; simp
    · exact fbN_len b
theorem bD_len (b : Nat) : (dig (bD b)).length ≤ 100 := by
  unfold bD; split
  · rw [dig_one]; simp
  · split
    · rw [dig_one]; simp
    · exact fbD_len b

/-- A set's box. -/
def Box9 (w : World) (r : Nat) (a0 a1 a2 a3 a4 a5 a6 a7 a8 : Value) : Prop := w.heap[r]? = some (.cells #[a0, a1, a2, a3, a4, a5, a6, a7, a8] 70)
section
variable {w w' : World} {r : Nat} {a0 a1 a2 a3 a4 a5 a6 a7 a8 : Value}
theorem Box9.new (w : World) (a0 a1 a2 a3 a4 a5 a6 a7 a8 : Value) : Box9 (w.alloc (.cells #[a0, a1, a2, a3, a4, a5, a6, a7, a8] 70)) w.heap.size a0 a1 a2 a3 a4 a5 a6 a7 a8 := by
  show (w.heap.push _)[w.heap.size]? = _
  simp
theorem Box9.lt (h : Box9 w r a0 a1 a2 a3 a4 a5 a6 a7 a8) : r < w.heap.size := by
  by_cases hr : r < w.heap.size
  · exact hr
  · unfold Box9 at h; rw [Array.getElem?_eq_none (by omega)] at h; cases h
theorem Box9.later (h : Box9 w r a0 a1 a2 a3 a4 a5 a6 a7 a8) (hb : Below w.heap.size w w') : Box9 w' r a0 a1 a2 a3 a4 a5 a6 a7 a8 := (hb.block r h.lt).trans h
theorem Box9.cells (h : Box9 w r a0 a1 a2 a3 a4 a5 a6 a7 a8) : w.cell? ⟨r, 0, none⟩ = some a0 ∧ w.cell? ⟨r, 1, none⟩ = some a1 ∧ w.cell? ⟨r, 2, none⟩ = some a2 ∧ w.cell? ⟨r, 3, none⟩ = some a3 ∧ w.cell? ⟨r, 4, none⟩ = some a4 ∧ w.cell? ⟨r, 5, none⟩ = some a5 ∧ w.cell? ⟨r, 6, none⟩ = some a6 ∧ w.cell? ⟨r, 7, none⟩ = some a7 ∧ w.cell? ⟨r, 8, none⟩ = some a8 := by
  unfold Box9 at h
  refine ⟨?_, ?_, ?_, ?_, ?_, ?_, ?_, ?_, ?_⟩ <;> simp [World.cell?, h]
theorem Box9.frozen (h : Box9 w r a0 a1 a2 a3 a4 a5 a6 a7 a8) : w.frozen? ⟨r, 0, none⟩ = false ∧ w.frozen? ⟨r, 1, none⟩ = false ∧ w.frozen? ⟨r, 2, none⟩ = false ∧ w.frozen? ⟨r, 3, none⟩ = false ∧ w.frozen? ⟨r, 4, none⟩ = false ∧ w.frozen? ⟨r, 5, none⟩ = false ∧ w.frozen? ⟨r, 6, none⟩ = false ∧ w.frozen? ⟨r, 7, none⟩ = false ∧ w.frozen? ⟨r, 8, none⟩ = false := by
  unfold Box9 at h
  refine ⟨?_, ?_, ?_, ?_, ?_, ?_, ?_, ?_, ?_⟩ <;> simp [World.frozen?, h]
end
/-- The empty set's box. -/
def Box9z (w : World) (r : Nat) : Prop := Box9 w r (.bool false) (.int .i64 0) (.bool false) (.slice none 0 0) (.slice none 0 0) (.int .i64 0) (.bool false) (.slice none 0 0) (.slice none 0 0)
theorem Box9z.no {w : World} {r : Nat} (h : Box9z w r) : ∀ j z, w.cell? ⟨r, j, none⟩ ≠ some (.int .u32 z) := by
  intro j z e
  unfold Box9z Box9 at h
  simp only [World.cell?, h] at e
  rcases j with _ | _ | _ | _ | _ | _ | _ | _ | _ | j <;> simp at e
def put9 (w : World) (r : Nat) (a0 a1 a2 a3 a4 a5 a6 a7 a8 : Value) : World := ((((((((w.setCell ⟨r, 0, none⟩ a0).setCell ⟨r, 1, none⟩ a1).setCell ⟨r, 2, none⟩ a2).setCell ⟨r, 3, none⟩ a3).setCell ⟨r, 4, none⟩ a4).setCell ⟨r, 5, none⟩ a5).setCell ⟨r, 6, none⟩ a6).setCell ⟨r, 7, none⟩ a7).setCell ⟨r, 8, none⟩ a8
theorem Rd.put9 {w : World} {r : Nat} {A : Option Addr} {xs : List Nat} (h : Rd w A xs) (hB : ∀ j z, w.cell? ⟨r, j, none⟩ ≠ some (.int .u32 z)) (a0 a1 a2 a3 a4 a5 a6 a7 a8 : Value) : Rd (put9 w r a0 a1 a2 a3 a4 a5 a6 a7 a8) A xs :=
  h.apart hB fun k hk => ((setb' _ r 8 a8 k hk).trans ((setb' _ r 7 a7 k hk).trans ((setb' _ r 6 a6 k hk).trans ((setb' _ r 5 a5 k hk).trans ((setb' _ r 4 a4 k hk).trans ((setb' _ r 3 a3 k hk).trans ((setb' _ r 2 a2 k hk).trans ((setb' _ r 1 a1 k hk).trans (setb' _ r 0 a0 k hk)))))))))
theorem put9_below {B : Nat} {w0 w : World} {r : Nat} (h : Below B w0 w) (hr : B ≤ r) (a0 a1 a2 a3 a4 a5 a6 a7 a8 : Value) : Below B w0 (put9 w r a0 a1 a2 a3 a4 a5 a6 a7 a8) := (((((((((h.setCell hr a0).setCell hr a1).setCell hr a2).setCell hr a3).setCell hr a4).setCell hr a5).setCell hr a6).setCell hr a7).setCell hr a8)

/-- What Of answers. -/
def SetP (w : World) (no : Bool) (i : Int) (s : Bool) (N D : Nat) (j : Int) (t : Bool) (U V : Nat) (e : Ending) (w' : World) : Prop :=
  ∃ A1 c1 A2 c2 A3 c3 A4 c4, e = .returned (.agg #[.bool no, .int .i64 i, .bool s, .slice A1 (dig N).length c1, .slice A2 (dig D).length c2, .int .i64 j, .bool t, .slice A3 (dig U).length c3, .slice A4 (dig V).length c4]) ∧
    Rd w' A1 (dig N) ∧ Rd w' A2 (dig D) ∧ Rd w' A3 (dig U) ∧ Rd w' A4 (dig V) ∧ Below w.heap.size w w'

theorem fplain_flo {x y : Nat} : fplain (flo x y) = flo x y := by
  rw [fplain_fz fnan_flo]
  unfold flo; split
  · unfold fz; split <;> (try split) <;> omega
  · decide
theorem fplain_fhi {x y : Nat} : fplain (fhi x y) = fhi x y := by
  rw [fplain_fz fnan_fhi]
  unfold fhi; split
  · unfold fz; split <;> (try split) <;> omega
  · decide
theorem flo_flo {x y : Nat} (hx : x < 18446744073709551616) (hy : y < 18446744073709551616) (hs : fsound x y = true) : fsound (flo x y) (fhi x y) = true ∧ flo (flo x y) (fhi x y) = flo x y ∧ fhi (flo x y) (fhi x y) = fhi x y := by
  have h := of_decide_eq_true hs
  have k1 : FK (flo x y) = FK x := by rw [flo, if_pos hs, FK_fz hx]
  have k2 : FK (fhi x y) = FK y := by rw [fhi, if_pos hs, FK_fz hy]
  have hss : fsound (flo x y) (fhi x y) = true := by
    unfold fsound
    refine decide_eq_true ?_
    rw [k1, k2]
    exact ⟨fnan_flo, fnan_fhi, h.2.2⟩
  refine ⟨hss, ?_, ?_⟩
  · have := fplain_fz (fnan_flo (x := x) (y := y))
    rw [fplain_flo] at this
    rw [flo, if_pos hss]; exact this.symm
  · have := fplain_fz (fnan_fhi (x := x) (y := y))
    rw [fplain_fhi] at this
    rw [fhi, if_pos hss]; exact this.symm

set_option maxRecDepth 20000 in
set_option maxHeartbeats 8000000 in
/-- Of: of ends that make an interval. -/
theorem of_any (x y : Nat) (hx : x < 18446744073709551616) (hy : y < 18446744073709551616) (hs : fsound x y = true) (w : World) : Calls Try.prog 62 #[.agg #[.int .u64 (x : Int), .int .u64 (y : Int)]] w
    (SetP w false (bI (flo x y)) (bS (flo x y)) (bN (flo x y)) (bD (flo x y)) (bI (fhi x y)) (bS (fhi x y)) (bN (fhi x y)) (bD (fhi x y))) := by
  have HR := Lib.hid (fun W => read6_any x y hx hy W)
  have P1 := Lib.hid (fun W => bound_any (flo x y) (flo_lt hx) fplain_flo W)
  have P2 := Lib.hid (fun W => bound_any (fhi x y) (fhi_lt hy) fplain_fhi W)
  have hne : ¬ ((flo x y : Nat) : Int) = 9218868437227405312 := by have := flo_ne hx hs; omega
  have HB0 := Lib.hid (baft (bnew w (.cells #[.int .u64 (x : Int), .int .u64 (y : Int)] 24)) (bnew _ (.cells #[.bool false, .int .i64 0, .bool false, .slice none 0 0, .slice none 0 0, .int .i64 0, .bool false, .slice none 0 0, .slice none 0 0] 70)))
  have HC : Hid (Box9z ((w.alloc (.cells #[.int .u64 (x : Int), .int .u64 (y : Int)] 24)).alloc (.cells #[.bool false, .int .i64 0, .bool false, .slice none 0 0, .slice none 0 0, .int .i64 0, .bool false, .slice none 0 0, .slice none 0 0] 70)) (w.heap.size + 1)) := Lib.hid (by
    have := Box9.new (w.alloc (.cells #[.int .u64 (x : Int), .int .u64 (y : Int)] 24)) (.bool false) (.int .i64 0) (.bool false) (.slice none 0 0) (.slice none 0 0) (.int .i64 0) (.bool false) (.slice none 0 0) (.slice none 0 0)
    rw [size_alloc1] at this
    exact this)
  obtain ⟨p, hp⟩ : ∃ p, flo x y = p := ⟨_, rfl⟩
  obtain ⟨q, hq⟩ : ∃ q, fhi x y = q := ⟨_, rfl⟩
  simp only [hp, hq] at HR P1 P2 hne ⊢
  clear hp hq hx hy hs
  obtain ⟨i, hi⟩ : ∃ i, bI p = i := ⟨_, rfl⟩
  obtain ⟨s, hs⟩ : ∃ s, bS p = s := ⟨_, rfl⟩
  obtain ⟨j, hj⟩ : ∃ j, bI q = j := ⟨_, rfl⟩
  obtain ⟨t, ht⟩ : ∃ t, bS q = t := ⟨_, rfl⟩
  obtain ⟨N, hN⟩ : ∃ N, bN p = N := ⟨_, rfl⟩
  obtain ⟨D, hD⟩ : ∃ D, bD p = D := ⟨_, rfl⟩
  obtain ⟨U, hU⟩ : ∃ U, bN q = U := ⟨_, rfl⟩
  obtain ⟨V, hV⟩ : ∃ V, bD q = V := ⟨_, rfl⟩
  simp only [hi, hs, hN, hD] at P1 ⊢
  simp only [hj, ht, hU, hV] at P2 ⊢
  clear hi hs hj ht hN hD hU hV
  obtain ⟨P, hP⟩ : ∃ P : Ending → World → Prop, P = SetP w false i s N D j t U V := ⟨_, rfl⟩
  rw [← hP]
  have HP := Lib.hid hP
  clear hP
  go_enter Try.func62, Try.ntmps62
  go_wp2_with fail
  refine (HR.out _).mono ?_
  rintro en w1 ⟨rfl, hb⟩
  have HC := Lib.hid (HC.out.later (baft hb (bnew w1 (.cells #[.int .u64 (p : Int), .int .u64 (q : Int)] 24))))
  have HW := Lib.hid (baft HB0.out (baft hb (bnew w1 (.cells #[.int .u64 (p : Int), .int .u64 (q : Int)] 24))))
  obtain ⟨c0, c1, f0, f1, hz⟩ := box1 (w := w1) (a := .int .u64 (p : Int)) (b := .int .u64 (q : Int)) (t := 24) (Below.refl _ _)
  have HV := Lib.hid (Below.refl (w1.alloc (.cells #[.int .u64 (p : Int), .int .u64 (q : Int)] 24)).heap.size (w1.alloc (.cells #[.int .u64 (p : Int), .int .u64 (q : Int)] 24)))
  clear hb HB0
  go_upto_region 2 with fail
  go_cut [8] from 6 to 18 (fun s8 wx => s8 = .bool false ∧ Below (w1.alloc (.cells #[.int .u64 (p : Int), .int .u64 (q : Int)] 24)).heap.size (w1.alloc (.cells #[.int .u64 (p : Int), .int .u64 (q : Int)] 24)) wx)
  case first =>
    go_region_with (go_at_call 25; refine (empty6_any _).mono ?_; rintro en w2 ⟨rfl, hb2⟩; have hb2 := baft HV.out ⟨hb2.os, hb2.tape, hb2.output, hb2.size, hb2.block⟩; obtain ⟨d0, d1, g0, g1, hz2⟩ := box1 hb2; have HE := Lib.hid hb2; clear hb2)
    all_goals
      go_wp2
      go_meet
      exact ⟨rfl, ⟨HE.out.os, HE.out.tape, HE.out.output, HE.out.size, HE.out.block⟩⟩
  case rest =>
    obtain ⟨rfl, hbc⟩ := hcut
    have HC := Lib.hid (HC.out.later hbc)
    have HW := Lib.hid (baft HW.out hbc)
    obtain ⟨d0, d1, g0, g1, hz2⟩ := box1 hbc
    have HX := Lib.hid hbc
    clear hbc c0 c1 f0 f1 hz
    go_upto_region 4 with fail
    go_region_with (first
      | (go_at_call 94; (with_reducible refine (P2.out _).mono ?_); rintro en w4 ⟨A3, c3, A4, c4, rfl, hR3, hR4, hb⟩; have hb : Below w3.heap.size w3 w4 := ⟨hb.os, hb.tape, hb.output, hb.size, hb.block⟩; have HR1 := Lib.hid (HR1.out.below hb); have HR2 := Lib.hid (HR2.out.below hb); have HR3 := Lib.hid hR3; have HR4 := Lib.hid hR4; have HC := Lib.hid (HC3.out.later hb); have HW := Lib.hid (baft HW3.out hb); obtain ⟨b0, b1, b2, b3, b4, b5, b6, b7, b8⟩ := HC.out.cells; obtain ⟨e0, e1, e2, e3, e4, e5, e6, e7, e8⟩ := HC.out.frozen; clear hb hR3 hR4)
      | (go_at_call 94; (with_reducible refine (P1.out _).mono ?_); rintro en w3 ⟨A1, c1, A2, c2, rfl, hR1, hR2, hb⟩; have hb : Below wc.heap.size wc w3 := ⟨hb.os, hb.tape, hb.output, hb.size, hb.block⟩; have HR1 := Lib.hid hR1; have HR2 := Lib.hid hR2; have HC3 := Lib.hid (HC.out.later hb); have HW3 := Lib.hid (baft HW.out hb); obtain ⟨h0, h1, h2, h3, hz4⟩ := box1 (baft HX.out hb); clear hb hR1 hR2))
    all_goals
      go_wp2
      refine bodyPost_ret (v := .agg #[.bool false, .int .i64 i, .bool s, .slice A1 (dig N).length c1, .slice A2 (dig D).length c2, .int .i64 j, .bool t, .slice A3 (dig U).length c3, .slice A4 (dig V).length c4]) (by simp [results, Try.results62, go_sem, b0, b1, b2, b3, b4, b5, b6, b7, b8]) rfl ?_
      rw [HP.out]
      exact ⟨_, _, _, _, _, _, _, _, rfl, HR1.out.put9 (Box9z.no HC.out) _ _ _ _ _ _ _ _ _, HR2.out.put9 (Box9z.no HC.out) _ _ _ _ _ _ _ _ _, HR3.out.put9 (Box9z.no HC.out) _ _ _ _ _ _ _ _ _, HR4.out.put9 (Box9z.no HC.out) _ _ _ _ _ _ _ _ _, put9_below HW.out (by omega) _ _ _ _ _ _ _ _ _⟩
end Go.Proofs.Ytmmbbkeefphaiaa
