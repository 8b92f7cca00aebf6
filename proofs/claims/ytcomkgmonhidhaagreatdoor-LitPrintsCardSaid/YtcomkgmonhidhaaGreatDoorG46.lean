/- Layer 12: Exact by the program and by the document; the law. -/
import Derived.Test.YtcomkgmonhidhaaGreatDoorG45
section
namespace Go.Proofs.YtcomkgmonhidhaaGreatDoor
set_option linter.unusedVariables false
set_option linter.unusedSimpArgs false
open Go.RowKit Verge

theorem o_eq {x y : Nat} (hx : x < 18446744073709551616) (hy : y < 18446744073709551616) (nx : ¬ fnan x) (ny : ¬ fnan y) : (FloatKind.f64.format.order x y == some .eq) = decide (FK x = FK y) := by
  have h1 := o_lt hx hy
  have h2 := o_gt hx hy
  have h3 := o_le hx hy
  rcases Int.lt_trichotomy (FK x) (FK y) with h | h | h
  · rw [decide_eq_false (show ¬ FK x = FK y by omega)]
    rw [decide_eq_true ⟨nx, ny, h⟩] at h1
    have : FloatKind.f64.format.order x y = some .lt := by simpa using h1
    rw [this]; rfl
  · rw [decide_eq_true h]
    rw [decide_eq_false (fun g => by have := g.2.2; omega)] at h1
    rw [decide_eq_true ⟨nx, ny, Int.le_of_eq h⟩, h1] at h3
    simpa using h3
  · rw [decide_eq_false (show ¬ FK x = FK y by omega)]
    rw [decide_eq_true ⟨nx, ny, h⟩] at h2
    have : FloatKind.f64.format.order x y = some .gt := by simpa using h2
    rw [this]; rfl
theorem fz_ne' (x : Nat) : fz x ≠ 9223372036854775808 := by unfold fz; split <;> omega
theorem lit_facts {x y : Nat} (hx : x < 18446744073709551616) (hy : y < 18446744073709551616) : flo x y ≠ 9223372036854775808 ∧ fhi x y ≠ 9223372036854775808 ∧ ((flo x y = 9218868437227405312 ∧ fhi x y = 18442240474082181120) ∨ (flo x y ≠ 9218868437227405312 ∧ fhi x y ≠ 18442240474082181120)) := by
  by_cases hs : fsound x y = true
  · have h := of_decide_eq_true hs
    have e1 : flo x y = fz x := by rw [flo, if_pos hs]
    have e2 : fhi x y = fz y := by rw [fhi, if_pos hs]
    rw [e1, e2]
    refine ⟨fz_ne' x, fz_ne' y, .inr ⟨fun e => ?_, fun e => ?_⟩⟩
    · have := FK_fz hx
      rw [e] at this
      have k : FK 9218868437227405312 = 9218868437227405312 := by decide
      omega
    · have := FK_fz hy
      rw [e] at this
      have k : FK 18442240474082181120 = -9218868437227405312 := by decide
      omega
  · have e1 : flo x y = 9218868437227405312 := by rw [flo, if_neg hs]
    have e2 : fhi x y = 18442240474082181120 := by rw [fhi, if_neg hs]
    rw [e1, e2]; decide
theorem FK_inj {x y : Nat} (hx : x ≠ 9223372036854775808) (hy : y ≠ 9223372036854775808) : FK x = FK y ↔ x = y := by
  unfold FK; split <;> split <;> omega
theorem reg2 {a b : Value} {w W W' : World} (h0 : W.cell? ⟨w.heap.size, 0, none⟩ = some a) (h1 : W.cell? ⟨w.heap.size, 1, none⟩ = some b) (hz : w.heap.size < W.heap.size) (hb : Below W.heap.size W.drew W') (hw : Below w.heap.size w W) :
    W'.cell? ⟨w.heap.size, 0, none⟩ = some a ∧ W'.cell? ⟨w.heap.size, 1, none⟩ = some b ∧ w.heap.size < W'.heap.size ∧ Below w.heap.size w W' :=
  ⟨(hb.cell (p := ⟨w.heap.size, 0, none⟩) hz).trans h0, (hb.cell (p := ⟨w.heap.size, 1, none⟩) hz).trans h1, Nat.lt_of_lt_of_le hz hb.size, hw.drew.trans (hb.mono (Nat.le_of_lt hz))⟩

end Go.Proofs.YtcomkgmonhidhaaGreatDoor
end

section
namespace Go.Proofs.YtcomkgmonhidhaaGreatDoor
set_option linter.unusedVariables false
set_option linter.unusedSimpArgs false
open Go.RowKit Verge

/-- What both answer of an interval that was read, its ends' texts given. -/
def litQ (lo hi : Nat) (tl th : List UInt8) : List UInt8 :=
  if lo = 9218868437227405312 ∧ hi = 18442240474082181120 then [91, 101, 109, 112, 116, 121, 93]
  else if lo = 18442240474082181120 ∧ hi = 9218868437227405312 then [91, 101, 110, 116, 105, 114, 101, 93]
  else [91] ++ (if lo = 18442240474082181120 then [45, 105, 110, 102] else tl) ++ [44, 32] ++ (if hi = 9218868437227405312 then [105, 110, 102] else th) ++ [93]
theorem pend_any {d : Int} {b n : Nat} {t : List UInt8} {c : Int} (hp : PrP d b n t c) (r : Nat) (w : World) (hP : Pow10 w) (hr : w.cell? ⟨r, 0, none⟩ = some (.int .i64 (n : Int))) : Calls Tryz.prog 11 #[.int .i64 d, .float .f64 b, .pointer (some ⟨r, 0, none⟩)] w fun e w' => e = .returned (.string (bs t)) ∧ Below w.heap.size w w' := by
  have H := Lib.hid (hp w hP)
  clear hP hp
  go_enter Tryz.func11, Tryz.ntmps11
  go_wp2_with fail
  refine H.out.mono ?_
  rintro e w1 ⟨rfl, hb1⟩
  have HB1 := Lib.hid hb1
  clear hb1
  go_wp2
  go_ret
  exact ⟨rfl, HB1.out⟩
set_option maxHeartbeats 2000000 in
theorem writtenp_any (x y n : Nat) (a b : List UInt8) (c1 c2 : Int) (P1 : PrP (-1) x n a c1) (P2 : PrP 1 y n b c2) (a1 : a.length ≤ 20000) (a2 : b.length ≤ 20000) (r : Nat) (hx : x < 18446744073709551616) (hy : y < 18446744073709551616) (hx1 : x ≠ 9218868437227405312) (hy1 : y ≠ 18442240474082181120) (w : World) (hP : Pow10 w) (hrl : r < w.heap.size) (hr : w.cell? ⟨r, 0, none⟩ = some (.int .i64 (n : Int))) : Calls Tryz.prog 10 #[.agg #[.float .f64 x, .float .f64 y], .func (.func 11) #[] #[.pointer (some ⟨r, 0, none⟩)]] w fun e w' => e = .returned (.string (bs ([91] ++ (if x = 18442240474082181120 then [45, 105, 110, 102] else a) ++ [44, 32] ++ (if y = 9218868437227405312 then [105, 110, 102] else b) ++ [93]))) ∧ Below w.heap.size w w' := by
  have HB := Lib.hid (fun o => bnew w o)
  have key : ∀ (c d : List UInt8), bs [91] ++ bs c ++ bs [44, 32] ++ bs d ++ bs [93] = bs ([91] ++ c ++ [44, 32] ++ d ++ [93]) := by
    intro c d; simp only [bs_append]
  rw [← key]
  have i1 : decide (fabs x = 9218868437227405312) = decide (x = 18442240474082181120) := decide_eq_decide.2 (by unfold fabs; omega)
  have i2 : decide (fabs y = 9218868437227405312) = decide (y = 9218868437227405312) := decide_eq_decide.2 (by unfold fabs; omega)
  have I1 := Lib.hid (fun W => isinf_0 x hx W)
  have I2 := Lib.hid (fun W => isinf_0 y hy W)
  rw [i1] at I1
  rw [i2] at I2
  have E1 := Lib.hid (fun W (h : Pow10 W) (hc : W.cell? ⟨r, 0, none⟩ = some (.int .i64 (n : Int))) => pend_any P1 r W h hc)
  have E2 := Lib.hid (fun W (h : Pow10 W) (hc : W.cell? ⟨r, 0, none⟩ = some (.int .i64 (n : Int))) => pend_any P2 r W h hc)
  have HRC := Lib.hid hr
  have HPP := Lib.hid hP
  have l0 : (bs [91]).size = 1 := rfl
  have l1 : (bs [44, 32]).size = 2 := rfl
  have l2 : (bs [93]).size = 1 := rfl
  have l3 : (bs [45, 105, 110, 102]).size = 4 := rfl
  have l4 : (bs [105, 110, 102]).size = 3 := rfl
  have e0 : ({ data := #[91] } : ByteArray) = bs [91] := rfl
  have e1 : ({ data := #[44, 32] } : ByteArray) = bs [44, 32] := rfl
  have e2 : ({ data := #[93] } : ByteArray) = bs [93] := rfl
  have e3 : ({ data := #[45, 105, 110, 102] } : ByteArray) = bs [45, 105, 110, 102] := rfl
  have e4 : ({ data := #[105, 110, 102] } : ByteArray) = bs [105, 110, 102] := rfl
  have ha2 : (bs a).size ≤ 20000 := by rw [bs_size]; exact a1
  have hb2 : (bs b).size ≤ 20000 := by rw [bs_size]; exact a2
  clear key a1 a2 i1 i2 hx hy hx1 hy1 hP P1 P2 hr
  obtain ⟨c0, c1, f0, f1, hz⟩ := box1 (w := w) (a := .float .f64 x) (b := .float .f64 y) (t := 30) (Below.refl _ _)
  by_cases hx : x = 18442240474082181120 <;> by_cases hy : y = 9218868437227405312
  · rw [if_pos hx, if_pos hy]
    rw [decide_eq_true hx] at I1
    rw [decide_eq_true hy] at I2
    clear hx hy
    go_enter Tryz.func10, Tryz.ntmps10
    go_wp2_with fail
    refine (I1.out _).mono ?_
    rintro e w1 ⟨rfl, rfl⟩
    go_wp2_with fail
    refine (I2.out _).mono ?_
    rintro e w3 ⟨rfl, rfl⟩
    go_wp2
    go_ret
    exact ⟨rfl, HB.out _⟩
  · rw [if_pos hx, if_neg hy]
    rw [decide_eq_true hx] at I1
    rw [decide_eq_false hy] at I2
    clear hx hy
    go_enter Tryz.func10, Tryz.ntmps10
    go_wp2_with fail
    refine (I1.out _).mono ?_
    rintro e w1 ⟨rfl, rfl⟩
    go_wp2_with fail
    refine (I2.out _).mono ?_
    rintro e w3 ⟨rfl, rfl⟩
    go_wp2_with fail
    refine (E2.out _ (HPP.out.below (HB.out _)) ((bcell (HB.out _) r 0 hrl).trans HRC.out)).mono ?_
    rintro e w4 ⟨rfl, hb⟩
    obtain ⟨c0, c1, f0, f1, hz⟩ := box1 hb
    have HW := Lib.hid (baft (HB.out _) hb)
    clear hb
    go_wp2
    go_ret
    exact ⟨rfl, HW.out⟩
  · rw [if_neg hx, if_pos hy]
    rw [decide_eq_false hx] at I1
    rw [decide_eq_true hy] at I2
    clear hx hy
    go_enter Tryz.func10, Tryz.ntmps10
    go_wp2_with fail
    refine (I1.out _).mono ?_
    rintro e w1 ⟨rfl, rfl⟩
    go_wp2_with fail
    refine (E1.out _ (HPP.out.below (HB.out _)) ((bcell (HB.out _) r 0 hrl).trans HRC.out)).mono ?_
    rintro e w2 ⟨rfl, hb⟩
    obtain ⟨c0, c1, f0, f1, hz⟩ := box1 hb
    have HW := Lib.hid (baft (HB.out _) hb)
    clear hb
    go_wp2_with fail
    refine (I2.out _).mono ?_
    rintro e w3 ⟨rfl, rfl⟩
    go_wp2
    go_ret
    exact ⟨rfl, HW.out⟩
  · rw [if_neg hx, if_neg hy]
    rw [decide_eq_false hx] at I1
    rw [decide_eq_false hy] at I2
    clear hx hy
    go_enter Tryz.func10, Tryz.ntmps10
    go_wp2_with fail
    refine (I1.out _).mono ?_
    rintro e w1 ⟨rfl, rfl⟩
    go_wp2_with fail
    refine (E1.out _ (HPP.out.below (HB.out _)) ((bcell (HB.out _) r 0 hrl).trans HRC.out)).mono ?_
    rintro e w2 ⟨rfl, hb⟩
    obtain ⟨c0, c1, f0, f1, hz⟩ := box1 hb
    have HW := Lib.hid (baft (HB.out _) hb)
    clear hb
    go_wp2_with fail
    refine (I2.out _).mono ?_
    rintro e w3 ⟨rfl, rfl⟩
    go_wp2_with fail
    refine (E2.out _ (HPP.out.below HW.out) ((bcell HW.out r 0 hrl).trans HRC.out)).mono ?_
    rintro e w4 ⟨rfl, hb⟩
    have HW := Lib.hid (baft HW.out hb)
    clear hb
    go_wp2
    go_ret
    exact ⟨rfl, HW.out⟩

end Go.Proofs.YtcomkgmonhidhaaGreatDoor
end

section
namespace Go.Proofs.YtcomkgmonhidhaaGreatDoor
set_option linter.unusedVariables false
set_option linter.unusedSimpArgs false
open Go.RowKit Verge

/-- The boxes of lit.Print's frame: the interval and the number of digits. -/
def LPs (w W : World) (p q n : Nat) : Prop := Below w.heap.size w W ∧ W.cell? ⟨w.heap.size, 0, none⟩ = some (.float .f64 p) ∧ W.cell? ⟨w.heap.size, 1, none⟩ = some (.float .f64 q) ∧ w.heap.size + 1 < W.heap.size ∧ W.cell? ⟨w.heap.size + 1, 0, none⟩ = some (.int .i64 (n : Int))
theorem LPs.later {w W W' : World} {p q n : Nat} (h : LPs w W p q n) (hb : Below W.heap.size W W') : LPs w W' p q n := by
  obtain ⟨h1, h2, h3, h4, h5⟩ := h
  exact ⟨baft h1 hb, (bcell hb _ _ (by omega)).trans h2, (bcell hb _ _ (by omega)).trans h3, Nat.lt_of_lt_of_le h4 hb.size, (bcell hb _ _ h4).trans h5⟩
theorem cell_far {W : World} {r i b o : Nat} {u : Value} (h : b ≠ r) : (W.setCell ⟨r, i, none⟩ u).cell? ⟨b, o, none⟩ = W.cell? ⟨b, o, none⟩ :=
  World.cell?_of_block (w := W) (Below.heap_setCell W ⟨r, i, none⟩ u b h)
set_option maxRecDepth 20000 in
set_option maxHeartbeats 8000000 in
theorem litPrint_any (x y n : Nat) (hx : x < 18446744073709551616) (hy : y < 18446744073709551616) (n1 : 1 ≤ n) (n2 : n ≤ 1100) (tl th : List UInt8) (c1 c2 : Int) (P1 : PrP (-1) (flo x y) n tl c1) (P2 : PrP 1 (fhi x y) n th c2) (a1 : tl.length ≤ 20000) (a2 : th.length ≤ 20000) (w : World) (hP : Pow10 w) :
    Calls Tryz.prog 4 #[.agg #[.float .f64 x, .float .f64 y], .int .i64 (n : Int)] w fun e w' => e = .returned (.tuple #[.string (bs (litQ (flo x y) (fhi x y) tl th)), .int .i64 0]) ∧ Below w.heap.size w w' := by
  have HR := Lib.hid (fun W => read_any x y hx hy W)
  have hlo := flo_lt (y := y) hx
  have hhi := fhi_lt (x := x) hy
  obtain ⟨m1, m2, m3⟩ := lit_facts hx hy
  have k1 : ¬ fnan (flo x y) := fnan_flo
  have k2 : ¬ fnan (fhi x y) := fnan_fhi
  generalize flo x y = p at *
  generalize fhi x y = q at *
  have t1 : ∀ W : World, (binOp BinOp.eql 30 (.agg #[.float .f64 p, .float .f64 q]) (.agg #[.float .f64 9218868437227405312, .float .f64 18442240474082181120])).run Tryz.prog W = .ok (.bool (decide (p = 9218868437227405312 ∧ q = 18442240474082181120))) W := by
    intro W
    rw [eqlF, o_eq hlo (by omega) k1 (by decide), o_eq hhi (by omega) k2 (by decide), ← Bool.decide_and]
    congr 2
    exact decide_eq_decide.2 (by rw [FK_inj m1 (by omega), FK_inj m2 (by omega)])
  have t2 : ∀ W : World, (binOp BinOp.eql 30 (.agg #[.float .f64 p, .float .f64 q]) (.agg #[.float .f64 18442240474082181120, .float .f64 9218868437227405312])).run Tryz.prog W = .ok (.bool (decide (p = 18442240474082181120 ∧ q = 9218868437227405312))) W := by
    intro W
    rw [eqlF, o_eq hlo (by omega) k1 (by decide), o_eq hhi (by omega) k2 (by decide), ← Bool.decide_and]
    congr 2
    exact decide_eq_decide.2 (by rw [FK_inj m1 (by omega), FK_inj m2 (by omega)])
  have HV := Lib.hid (fun W (h : Pow10 W) (h1 : p ≠ 9218868437227405312) (h2 : q ≠ 18442240474082181120) (hrl : w.heap.size + 1 < W.heap.size) (hr : W.cell? ⟨w.heap.size + 1, 0, none⟩ = some (.int .i64 (n : Int))) => writtenp_any p q n tl th c1 c2 P1 P2 a1 a2 (w.heap.size + 1) hlo hhi h1 h2 W h hrl hr)
  have HPP := Lib.hid hP
  have hsf := store_f
  have HM3 := Lib.hid m3
  clear hP hx hy hlo hhi m1 m2 m3 k1 k2 P1 P2 a1 a2
  have hE1 : ∃ e1, decide (p = 9218868437227405312 ∧ q = 18442240474082181120) = e1 := ⟨_, rfl⟩
  obtain ⟨e1, he1⟩ := hE1
  have hE2 : ∃ e2, decide (p = 18442240474082181120 ∧ q = 9218868437227405312) = e2 := ⟨_, rfl⟩
  obtain ⟨e2, he2⟩ := hE2
  rw [he1] at t1
  rw [he2] at t2
  have HE := Lib.hid (And.intro he1 he2)
  clear he1 he2
  have hbA := bnew w (.cells #[.float .f64 x, .float .f64 y] 30)
  have hbB := bnew (w.alloc (.cells #[.float .f64 x, .float .f64 y] 30)) (.cells #[.int .i64 (n : Int)] 3)
  have hnc : ((w.alloc (.cells #[.float .f64 x, .float .f64 y] 30)).alloc (.cells #[.int .i64 (n : Int)] 3)).cell? ⟨w.heap.size + 1, 0, none⟩ = some (.int .i64 (n : Int)) := by
    have h := heap_alloc_new (w.alloc (.cells #[.float .f64 x, .float .f64 y] 30)) (.cells #[.int .i64 (n : Int)] 3)
    rw [show (w.alloc (.cells #[.float .f64 x, .float .f64 y] 30)).heap.size = w.heap.size + 1 by simp] at h
    simp only [World.cell?]
    rw [h]
    rfl
  have HBA := Lib.hid hbA
  have HBB := Lib.hid hbB
  have HNC := Lib.hid hnc
  obtain ⟨c0, c1', f0, f1, hz⟩ := box1 hbB
  clear hbA hbB
  go_enter Tryz.func4, Tryz.ntmps4
  go_wp2_with fail
  refine (HR.out _).mono ?_
  rintro e w1 ⟨rfl, hb⟩
  have hbb := raft HBB.out hb
  obtain ⟨d0, d1, g0, g1, hz1⟩ := box1 hbb
  have hnc1 : w1.cell? ⟨w.heap.size + 1, 0, none⟩ = some (.int .i64 (n : Int)) := (bcell hb _ _ (by simp)).trans HNC.out
  have hsz1 : w.heap.size + 1 < w1.heap.size := by
    have := hb.size
    simp at this
    omega
  have HB1 := Lib.hid (raft HBA.out hbb)
  clear hb hbb c0 c1' f0 f1 hz HBA HBB HNC hnc
  obtain ⟨s0, s1⟩ := set2_cells (u := Value.float .f64 p) (v := Value.float .f64 q) d0 d1
  have HS : Hid (LPs w ((w1.setCell ⟨w.heap.size, 0, none⟩ (Value.float .f64 p)).setCell ⟨w.heap.size, 1, none⟩ (Value.float .f64 q)) p q n) := Lib.hid ⟨(HB1.out.setCell (Nat.le_refl _) (Value.float .f64 p) (p := ⟨w.heap.size, 0, none⟩)).setCell (Nat.le_refl _) (Value.float .f64 q) (p := ⟨w.heap.size, 1, none⟩), s0, s1, by simp [World.setCell]; exact hsz1, by rw [cell_far (by omega), cell_far (by omega)]; exact hnc1⟩
  clear s0 s1 hnc1 hsz1
  go_upto_region 4 with fail
  obtain ⟨W0, hW0⟩ : ∃ W0, (w1.setCell ⟨w.heap.size, 0, none⟩ (Value.float .f64 p)).setCell ⟨w.heap.size, 1, none⟩ (Value.float .f64 q) = W0 := ⟨_, rfl⟩
  rw [hW0] at HS ⊢
  clear hW0 d0 d1 g0 g1 hz1 HB1
  obtain ⟨_, g0, g1, _, _⟩ := HS.out
  go_wp2_with fail
  refine (empty_any _).mono ?_
  rintro e w2 ⟨rfl, hb⟩
  have HS := Lib.hid (HS.out.later hb)
  clear hb g0 g1
  cases e1
  · have hE := of_decide_eq_false HE.out.1
    have h12 : p ≠ 9218868437227405312 ∧ q ≠ 18442240474082181120 := by rcases HM3.out with h | h; exact absurd h hE; exact h
    have H12 := Lib.hid h12
    have HEF := Lib.hid hE
    clear h12 hE
    go_wp2_with fail
    refine (entire_any _).mono ?_
    rintro e w2 ⟨rfl, hb⟩
    have HS := Lib.hid (HS.out.later hb)
    clear hb
    cases e2
    · have hA := of_decide_eq_false HE.out.2
      have HT : Hid (litQ p q tl th = [91] ++ (if p = 18442240474082181120 then [45, 105, 110, 102] else tl) ++ [44, 32] ++ (if q = 9218868437227405312 then [105, 110, 102] else th) ++ [93]) := Lib.hid (by unfold litQ; rw [if_neg HEF.out, if_neg hA])
      clear hA
      obtain ⟨X, hX⟩ : ∃ X, bs ([91] ++ (if p = 18442240474082181120 then [45, 105, 110, 102] else tl) ++ [44, 32] ++ (if q = 9218868437227405312 then [105, 110, 102] else th) ++ [93]) = X := ⟨_, rfl⟩
      rw [hX] at HV
      have HXX := Lib.hid (show bs (litQ p q tl th) = X by rw [HT.out]; exact hX)
      clear hX HT
      obtain ⟨hbq, g0, g1, g2, g3⟩ := HS.out
      have HV1 := Lib.hid (HV.out w2 (HPP.out.below hbq) H12.out.1 H12.out.2 g2 g3)
      clear hbq g2 g3
      go_wp2_with fail
      refine (HV1.out).mono ?_
      rintro e w9 ⟨rfl, hb⟩
      have HS := Lib.hid (HS.out.later hb)
      clear hb
      go_wp2
      go_ret2
      exact ⟨by rw [HXX.out]; rfl, HS.out.1⟩
    · have HT : Hid (litQ p q tl th = [91, 101, 110, 116, 105, 114, 101, 93]) := Lib.hid (by unfold litQ; rw [if_neg HEF.out, if_pos (of_decide_eq_true HE.out.2)])
      go_wp2
      go_ret2
      exact ⟨by rw [HT.out]; rfl, HS.out.1⟩
  · have HT : Hid (litQ p q tl th = [91, 101, 109, 112, 116, 121, 93]) := Lib.hid (by unfold litQ; rw [if_pos (of_decide_eq_true HE.out.1)])
    go_wp2
    go_ret2
    exact ⟨by rw [HT.out]; rfl, HS.out.1⟩
theorem litPrint_bad (x y : Nat) (n : Int) (h : n < 1 ∨ 1100 < n) (w : World) : Calls Tryz.prog 4 #[.agg #[.float .f64 x, .float .f64 y], .int .i64 n] w fun e w' => e = .returned (.tuple #[.string (bs []), .int .i64 1]) ∧ Below w.heap.size w w' := by
  have HB := Lib.hid (fun o o' => baft (bnew w o) (bnew (w.alloc o) o'))
  by_cases h1 : n < 1
  · clear h
    go_enter Tryz.func4, Tryz.ntmps4
    go_wp2
    go_ret2
    exact ⟨rfl, HB.out _ _⟩
  · have h2 : 1100 < n := by omega
    clear h
    go_enter Tryz.func4, Tryz.ntmps4
    go_wp2
    go_ret2
    exact ⟨rfl, HB.out _ _⟩
end Go.Proofs.YtcomkgmonhidhaaGreatDoor
end

section
namespace Go.Proofs.YtcomkgmonhidhaaGreatDoor
set_option linter.unusedVariables false
set_option linter.unusedSimpArgs false
open Go.RowKit Verge

/-- A block that holds an interval by its patterns. -/
def BoxI (W : World) (g : Nat) (p q : Nat) : Prop := W.heap[g]? = some (.cells #[.int .u64 (p : Int), .int .u64 (q : Int)] 24)
theorem BoxI.new (W : World) (p q : Nat) : BoxI (W.alloc (.cells #[.int .u64 (p : Int), .int .u64 (q : Int)] 24)) W.heap.size p q := heap_alloc_new W _
theorem BoxI.lt {W : World} {g p q : Nat} (h : BoxI W g p q) : g < W.heap.size := by
  rcases Nat.lt_or_ge g W.heap.size with hlt | hge
  · exact hlt
  · unfold BoxI at h; rw [Array.getElem?_eq_none hge] at h; cases h
theorem BoxI.cells {W : World} {g p q : Nat} (h : BoxI W g p q) : W.cell? ⟨g, 0, none⟩ = some (.int .u64 (p : Int)) ∧ W.cell? ⟨g, 1, none⟩ = some (.int .u64 (q : Int)) := by
  unfold BoxI at h
  refine ⟨?_, ?_⟩ <;> simp [World.cell?, h]
theorem BoxI.later {W W' : World} {g p q : Nat} (h : BoxI W g p q) (hb : Below W.heap.size W W') : BoxI W' g p q := (hb.block g h.lt).trans h
theorem BoxI.laterD {W W' : World} {g p q : Nat} (h : BoxI W g p q) (hb : Below W.heap.size W.drew W') : BoxI W' g p q := (hb.block g h.lt).trans h
theorem aftD {a b c : World} (h1 : Below a.heap.size a b) (h2 : Below b.heap.size b.drew c) : Below a.heap.size a c := h1.drew.trans (h2.mono h1.size)

set_option maxRecDepth 20000 in
set_option maxHeartbeats 8000000 in
theorem litPrint12_any (x y n : Nat) (hx : x < 18446744073709551616) (hy : y < 18446744073709551616) (n1 : 1 ≤ n) (n2 : n ≤ 1100) (tl th : List UInt8) (c1 c2 : Int) (P1 : PrD (-1) (flo x y) n tl c1) (P2 : PrD 1 (fhi x y) n th c2) (a1 : tl.length ≤ 20000) (a2 : th.length ≤ 20000) (w : World) :
    Calls Tryz.prog 6 #[.agg #[.int .u64 (x : Int), .int .u64 (y : Int)], .int .i64 (n : Int)] w fun e w' => e = .returned (.tuple #[.string (bs (litQ (flo x y) (fhi x y) tl th)), .int .i64 0]) ∧ Below w.heap.size w w' := by
  have HB := Lib.hid (fun o => bnew w o)
  have HR := Lib.hid (fun W => read6_any x y hx hy W)
  have hlo := flo_lt (y := y) hx
  have hhi := fhi_lt (x := x) hy
  generalize flo x y = p at *
  generalize fhi x y = q at *
  have cc : ∀ (a b : Nat), ((a : Int) == (b : Int)) = decide (a = b) := fun a b => by rw [Bool.eq_iff_iff]; simp; omega
  have t1 : ∀ W : World, (binOp BinOp.eql 24 (.agg #[.int .u64 (p : Int), .int .u64 (q : Int)]) (.agg #[.int .u64 9218868437227405312, .int .u64 18442240474082181120])).run Tryz.prog W = .ok (.bool (decide (p = 9218868437227405312 ∧ q = 18442240474082181120))) W := by
    intro W
    rw [eqlI, Bool.decide_and]
    have := cc p 9218868437227405312
    have h2 := cc q 18442240474082181120
    congr 2
    rw [← this, ← h2]; rfl
  have t2 : ∀ W : World, (binOp BinOp.eql 24 (.agg #[.int .u64 (p : Int), .int .u64 (q : Int)]) (.agg #[.int .u64 18442240474082181120, .int .u64 9218868437227405312])).run Tryz.prog W = .ok (.bool (decide (p = 18442240474082181120 ∧ q = 9218868437227405312))) W := by
    intro W
    rw [eqlI, Bool.decide_and]
    have := cc p 18442240474082181120
    have h2 := cc q 9218868437227405312
    congr 2
    rw [← this, ← h2]; rfl
  have HX := Lib.hid (fun W => P1 W)
  have HY := Lib.hid (fun W => P2 W)
  have HE := Lib.hid (fun W => ends_any p q tl th a1 a2 W)
  clear hx hy hlo hhi cc P1 P2 a1 a2
  by_cases hE : p = 9218868437227405312 ∧ q = 18442240474082181120
  · have HT : Hid (litQ p q tl th = [91, 101, 109, 112, 116, 121, 93]) := Lib.hid (by unfold litQ; rw [if_pos hE])
    rw [decide_eq_true hE] at t1
    clear hE
    go_enter Tryz.func6, Tryz.ntmps6
    go_wp2_with fail
    refine (HR.out _).mono ?_
    rintro e w1 ⟨rfl, hb⟩
    have HW := Lib.hid (baft (baft (HB.out _) hb) (bnew w1 (.cells #[.int .u64 (p : Int), .int .u64 (q : Int)] 24)))
    have HX1 := BoxI.new w1 p q
    clear hb
    go_upto_region 4 with fail
    obtain ⟨W0, hW0⟩ : ∃ W0, w1.alloc (.cells #[.int .u64 (p : Int), .int .u64 (q : Int)] 24) = W0 := ⟨_, rfl⟩
    rw [hW0] at HW HX1 ⊢
    have HX1 := Lib.hid HX1
    obtain ⟨g, hg⟩ : ∃ g, w1.heap.size = g := ⟨_, rfl⟩
    rw [hg] at HX1 ⊢
    obtain ⟨g0, g1⟩ := HX1.out.cells
    clear hW0 hg
    go_region_with (go_at_call 15; (with_reducible refine (empty6_any _).mono ?_); rintro en w2 ⟨rfl, hb⟩; have HW := Lib.hid (aftD HW.out hb); have HX1 := Lib.hid (HX1.out.laterD hb); obtain ⟨g0, g1⟩ := HX1.out.cells; clear hb)
    all_goals
      go_wp2
      go_ret2
      exact ⟨by rw [HT.out]; rfl, HW.out⟩
  · rw [decide_eq_false hE] at t1
    by_cases hA : p = 18442240474082181120 ∧ q = 9218868437227405312
    · have HT : Hid (litQ p q tl th = [91, 101, 110, 116, 105, 114, 101, 93]) := Lib.hid (by unfold litQ; rw [if_neg hE, if_pos hA])
      rw [decide_eq_true hA] at t2
      clear hE hA
      go_enter Tryz.func6, Tryz.ntmps6
      go_wp2_with fail
      refine (HR.out _).mono ?_
      rintro e w1 ⟨rfl, hb⟩
      have HW := Lib.hid (baft (baft (HB.out _) hb) (bnew w1 (.cells #[.int .u64 (p : Int), .int .u64 (q : Int)] 24)))
      have HX1 := BoxI.new w1 p q
      clear hb
      go_upto_region 4 with fail
      obtain ⟨W0, hW0⟩ : ∃ W0, w1.alloc (.cells #[.int .u64 (p : Int), .int .u64 (q : Int)] 24) = W0 := ⟨_, rfl⟩
      rw [hW0] at HW HX1 ⊢
      have HX1 := Lib.hid HX1
      obtain ⟨g, hg⟩ : ∃ g, w1.heap.size = g := ⟨_, rfl⟩
      rw [hg] at HX1 ⊢
      obtain ⟨g0, g1⟩ := HX1.out.cells
      clear hW0 hg
      go_region_with (go_at_call 15; (with_reducible refine (empty6_any _).mono ?_); rintro en w2 ⟨rfl, hb⟩; have HW := Lib.hid (aftD HW.out hb); have HX1 := Lib.hid (HX1.out.laterD hb); obtain ⟨g0, g1⟩ := HX1.out.cells; clear hb)
      all_goals
        go_upto_region 6 with fail
        go_region_with (go_at_call 16; (with_reducible refine (entire6_any _).mono ?_); rintro en w2 ⟨rfl, hb⟩; have HW := Lib.hid (aftD HW.out hb); have HX1 := Lib.hid (HX1.out.laterD hb); obtain ⟨g0, g1⟩ := HX1.out.cells; clear hb)
        all_goals
          go_wp2
          go_ret2
          exact ⟨by rw [HT.out]; rfl, HW.out⟩
    · rw [decide_eq_false hA] at t2
      obtain ⟨X, hX⟩ : ∃ X, bs ([91] ++ (if p = 18442240474082181120 then [45, 105, 110, 102] else tl) ++ [44, 32] ++ (if q = 9218868437227405312 then [105, 110, 102] else th) ++ [93]) = X := ⟨_, rfl⟩
      rw [hX] at HE
      have HXX := Lib.hid (show bs (litQ p q tl th) = X by unfold litQ; rw [if_neg hE, if_neg hA]; exact hX)
      clear hE hA hX
      go_enter Tryz.func6, Tryz.ntmps6
      go_wp2_with fail
      refine (HR.out _).mono ?_
      rintro e w1 ⟨rfl, hb⟩
      have HW := Lib.hid (baft (baft (HB.out _) hb) (bnew w1 (.cells #[.int .u64 (p : Int), .int .u64 (q : Int)] 24)))
      have HX1 := BoxI.new w1 p q
      clear hb
      go_upto_region 4 with fail
      obtain ⟨W0, hW0⟩ : ∃ W0, w1.alloc (.cells #[.int .u64 (p : Int), .int .u64 (q : Int)] 24) = W0 := ⟨_, rfl⟩
      rw [hW0] at HW HX1 ⊢
      have HX1 := Lib.hid HX1
      obtain ⟨g, hg⟩ : ∃ g, w1.heap.size = g := ⟨_, rfl⟩
      rw [hg] at HX1 ⊢
      obtain ⟨g0, g1⟩ := HX1.out.cells
      clear hW0 hg
      go_region_with (go_at_call 15; (with_reducible refine (empty6_any _).mono ?_); rintro en w2 ⟨rfl, hb⟩; have HW := Lib.hid (aftD HW.out hb); have HX1 := Lib.hid (HX1.out.laterD hb); obtain ⟨g0, g1⟩ := HX1.out.cells; clear hb)
      all_goals
        go_upto_region 6 with fail
        go_region_with (go_at_call 16; (with_reducible refine (entire6_any _).mono ?_); rintro en w2 ⟨rfl, hb⟩; have HW := Lib.hid (aftD HW.out hb); have HX1 := Lib.hid (HX1.out.laterD hb); obtain ⟨g0, g1⟩ := HX1.out.cells; clear hb)
        all_goals
          go_wp2_with fail
          refine (HX.out _).mono ?_
          rintro e w9 ⟨rfl, hb⟩
          have HW := Lib.hid (baft HW.out hb)
          have HX1 := Lib.hid (HX1.out.later hb)
          obtain ⟨g0, g1⟩ := HX1.out.cells
          clear hb
          go_wp2_with fail
          refine (HY.out _).mono ?_
          rintro e w9 ⟨rfl, hb⟩
          have HW := Lib.hid (baft HW.out hb)
          have HX1 := Lib.hid (HX1.out.later hb)
          obtain ⟨g0, g1⟩ := HX1.out.cells
          clear hb
          go_wp2_with fail
          refine (HE.out _).mono ?_
          rintro e w9 ⟨rfl, hb⟩
          have HW := Lib.hid (baft HW.out hb)
          have HX1 := Lib.hid (HX1.out.later hb)
          obtain ⟨g0, g1⟩ := HX1.out.cells
          clear hb
          go_wp2
          go_ret2
          exact ⟨by rw [HXX.out]; rfl, HW.out⟩
theorem litPrint12_bad (x y : Nat) (n : Int) (h : n < 1 ∨ 1100 < n) (w : World) : Calls Tryz.prog 6 #[.agg #[.int .u64 (x : Int), .int .u64 (y : Int)], .int .i64 n] w fun e w' => e = .returned (.tuple #[.string (bs []), .int .i64 1]) ∧ Below w.heap.size w w' := by
  have HB := Lib.hid (fun o => bnew w o)
  by_cases h1 : n < 1
  · clear h
    go_enter Tryz.func6, Tryz.ntmps6
    go_wp2
    go_ret2
    exact ⟨rfl, HB.out _⟩
  · have h2 : 1100 < n := by omega
    clear h
    go_enter Tryz.func6, Tryz.ntmps6
    go_wp2
    go_ret2
    exact ⟨rfl, HB.out _⟩
/-- The law, what both answer given. -/
theorem litprints_gen (x y : Nat) (n : Int) (T : ByteArray) (c : Int) (w : World) (hx : x < 18446744073709551616) (hy : y < 18446744073709551616) (hP : Pow10 w) (c0 : 0 ≤ c) (c1 : c ≤ 1)
    (hL : ∀ W, Pow10 W → Calls Tryz.prog 4 #[.agg #[.float .f64 x, .float .f64 y], .int .i64 n] W fun e w' => e = .returned (.tuple #[.string T, .int .i64 c]) ∧ Below W.heap.size W w')
    (hD : ∀ W, Calls Tryz.prog 6 #[.agg #[.int .u64 (x : Int), .int .u64 (y : Int)], .int .i64 n] W fun e w' => e = .returned (.tuple #[.string T, .int .i64 c]) ∧ Below W.heap.size W w') :
    Calls Tryz.prog 3 #[.agg #[.int .u64 (x : Int), .int .u64 (y : Int)], .int .i64 n] w fun e w' => e = .returned (.bool true) ∧ Below w.heap.size w w' := by
  have HI := Lib.hid (fun W => in12_any x y hx hy W)
  have HL := Lib.hid hL
  have HD := Lib.hid hD
  have HPP := Lib.hid hP
  have HW := Lib.hid (bnew w (.cells #[.int .u64 (x : Int), .int .u64 (y : Int)] 24))
  have HX1 := Lib.hid (BoxI.new w x y)
  clear hx hy hP hL hD
  obtain ⟨g0, g1⟩ := HX1.out.cells
  go_enter Tryz.func3, Tryz.ntmps3
  go_wp2_with fail
  refine (HI.out _).mono ?_
  rintro e w1 ⟨rfl, hb⟩
  have HW := Lib.hid (baft HW.out hb)
  have HX1 := Lib.hid (HX1.out.later hb)
  clear hb g0 g1
  obtain ⟨g0, g1⟩ := HX1.out.cells
  go_wp2_with fail
  refine (HL.out _ (HPP.out.below HW.out)).mono ?_
  rintro e w1 ⟨rfl, hb⟩
  have HW := Lib.hid (baft HW.out hb)
  have HX1 := Lib.hid (HX1.out.later hb)
  clear hb g0 g1
  obtain ⟨g0, g1⟩ := HX1.out.cells
  go_wp2_with fail
  refine (HD.out _).mono ?_
  rintro e w1 ⟨rfl, hb⟩
  have HW := Lib.hid (baft HW.out hb)
  clear hb
  go_wp2
  go_ret
  exact ⟨by simp, HW.out⟩
theorem walk_litprints (x y : Nat) (n : Int) (w : World) (hx : x < 18446744073709551616) (hy : y < 18446744073709551616) (h1 : -9223372036854775808 ≤ n) (h2 : n ≤ 9223372036854775807) (hP : Pow10 w) : Calls Tryz.prog 3 #[.agg #[.int .u64 (x : Int), .int .u64 (y : Int)], .int .i64 n] w fun e w' => e = .returned (.bool true) ∧ Below w.heap.size w w' := by
  by_cases h : n < 1 ∨ 1100 < n
  · exact litprints_gen x y n _ 1 w hx hy hP (by omega) (by omega) (fun W _ => litPrint_bad x y n h W) (fun W => litPrint12_bad x y n h W)
  · obtain ⟨m, rfl⟩ := Int.eq_ofNat_of_zero_le (show 0 ≤ n by omega)
    obtain ⟨tl, c1, l1, p1, d1⟩ := pr_pair (-1) (flo x y) m (flo_lt hx) (by omega) (by omega)
    obtain ⟨th, c2, l2, p2, d2⟩ := pr_pair 1 (fhi x y) m (fhi_lt hy) (by omega) (by omega)
    exact litprints_gen x y m _ 0 w hx hy hP (by omega) (by omega) (fun W hW => litPrint_any x y m hx hy (by omega) (by omega) tl th c1 c2 p1 p2 l1 l2 W hW) (fun W => litPrint12_any x y m hx hy (by omega) (by omega) tl th c1 c2 d1 d2 l1 l2 W)
end Go.Proofs.YtcomkgmonhidhaaGreatDoor
end
