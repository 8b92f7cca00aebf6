/- Layer 8: the width, by the program. -/
import Derived.Test.YtmmbbkeefphaiaaRoundC
import Derived.Test.YtmmbbkeefphaiaaMidD
namespace Go.Proofs.Ytmmbbkeefphaiaa
set_option linter.unusedVariables false
set_option linter.unusedSimpArgs false
open Go.RowKit Verge

theorem isinf3_any (x : Nat) (hx : x < 18446744073709551616) (w : World) : Calls Try.prog 43 #[.int .u64 (x : Int)] w fun e w' => e = .returned (.bool (decide (fabs x = 9218868437227405312))) ∧ w = w' := by
  have hb : bits .andNot .u64 (x : Int) 9223372036854775808 = ((fabs x : Nat) : Int) := by
    have := Go.u64_andNot_nat x 9223372036854775808 hx (by omega)
    rw [andNot_sign x hx] at this
    exact this
  have hc : (((fabs x : Nat) : Int) == 9218868437227405312) = decide (fabs x = 9218868437227405312) := by
    by_cases h : fabs x = 9218868437227405312
    · simp [h]
    · rw [decide_eq_false h]; simp; omega
  obtain ⟨a, ha⟩ : ∃ a, fabs x = a := ⟨_, rfl⟩
  rw [ha] at hb hc ⊢
  obtain ⟨d, hd⟩ : ∃ d, decide (a = 9218868437227405312) = d := ⟨_, rfl⟩
  rw [hd] at hc ⊢
  clear ha hd hx
  go_enter Try.func43, Try.ntmps43
  go_wp2
  go_ret
  exact ⟨rfl, rfl⟩
/-- Whether an end of a nonempty interval is no number. -/
def pwild (p q : Nat) : Bool := decide (p = 18442240474082181120) || decide (q = 9218868437227405312)
theorem infinite_any (p q : Nat) (hp : p < 18446744073709551616) (hq : q < 18446744073709551616) (w : World) : Calls Try.prog 73 #[.agg #[.float .f64 p, .float .f64 q]] w fun e w' => e = .returned (.bool (pwild p q)) ∧ Below w.heap.size w w' := by
  have HB := Lib.hid (fun o => bnew w o)
  have H1 := Lib.hid (fun W => isinf_m p hp W)
  have H2 := Lib.hid (fun W => isinf_p q hq W)
  unfold pwild
  obtain ⟨a, ha⟩ : ∃ a, decide (p = 18442240474082181120) = a := ⟨_, rfl⟩
  obtain ⟨b, hb⟩ : ∃ a, decide (q = 9218868437227405312) = a := ⟨_, rfl⟩
  rw [ha] at H1 ⊢
  rw [hb] at H2 ⊢
  clear ha hb hp hq
  cases a
  · go_enter Try.func73, Try.ntmps73
    go_wp2_with fail
    refine (H1.out _).mono ?_
    rintro en w1 ⟨rfl, rfl⟩
    go_wp2_with fail
    refine (H2.out _).mono ?_
    rintro en w1 ⟨rfl, rfl⟩
    go_wp2
    go_ret
    exact ⟨rfl, HB.out _⟩
  · go_enter Try.func73, Try.ntmps73
    go_wp2_with fail
    refine (H1.out _).mono ?_
    rintro en w1 ⟨rfl, rfl⟩
    go_wp2
    go_ret
    exact ⟨rfl, HB.out _⟩
theorem wild_any (p q : Nat) (hp : p < 18446744073709551616) (hq : q < 18446744073709551616) (w : World) : Calls Try.prog 75 #[.agg #[.int .u64 (p : Int), .int .u64 (q : Int)]] w fun e w' => e = .returned (.bool (decide (fabs p = 9218868437227405312) || decide (fabs q = 9218868437227405312))) ∧ Below w.heap.size w w' := by
  have HB := Lib.hid (fun o => bnew w o)
  have H1 := Lib.hid (fun W => isinf3_any p hp W)
  have H2 := Lib.hid (fun W => isinf3_any q hq W)
  obtain ⟨a, ha⟩ : ∃ a, decide (fabs p = 9218868437227405312) = a := ⟨_, rfl⟩
  obtain ⟨b, hb⟩ : ∃ a, decide (fabs q = 9218868437227405312) = a := ⟨_, rfl⟩
  rw [ha] at H1 ⊢
  rw [hb] at H2 ⊢
  clear ha hb hp hq
  cases a
  · go_enter Try.func75, Try.ntmps75
    go_wp2_with fail
    refine (H1.out _).mono ?_
    rintro en w1 ⟨rfl, rfl⟩
    go_wp2_with fail
    refine (H2.out _).mono ?_
    rintro en w1 ⟨rfl, rfl⟩
    go_wp2
    go_ret
    exact ⟨rfl, HB.out _⟩
  · go_enter Try.func75, Try.ntmps75
    go_wp2_with fail
    refine (H1.out _).mono ?_
    rintro en w1 ⟨rfl, rfl⟩
    go_wp2
    go_ret
    exact ⟨rfl, HB.out _⟩
/-- The ends of a sound interval, read. -/
def Ends (p q : Nat) : Prop := p < 18446744073709551616 ∧ q < 18446744073709551616 ∧ ¬ fnan p ∧ ¬ fnan q ∧ p ≠ 9218868437227405312 ∧ q ≠ 18442240474082181120 ∧ FK p ≤ FK q ∧ p ≠ 9223372036854775808 ∧ q ≠ 9223372036854775808
theorem fz_ne (x : Nat) : fz x ≠ 9223372036854775808 := by unfold fz; split <;> omega
theorem ends_of {x y : Nat} (hx : x < 18446744073709551616) (hy : y < 18446744073709551616) (hs : fsound x y = true) : Ends (flo x y) (fhi x y) := by
  refine ⟨flo_lt hx, fhi_lt hy, fnan_flo, fnan_fhi, flo_ne hx hs, fhi_ne hy hs, ?_, ?_, ?_⟩
  · have h := of_decide_eq_true hs
    unfold flo fhi
    rw [if_pos hs, if_pos hs, FK_fz hx, FK_fz hy]
    exact h.2.2.1
  · unfold flo; rw [if_pos hs]; exact fz_ne x
  · unfold fhi; rw [if_pos hs]; exact fz_ne y
theorem Ends.wild {p q : Nat} (h : Ends p q) : (decide (fabs p = 9218868437227405312) || decide (fabs q = 9218868437227405312)) = pwild p q := by
  obtain ⟨h1, h2, h3, h4, h5, h6, _⟩ := h
  unfold pwild
  have e1 : decide (fabs p = 9218868437227405312) = decide (p = 18442240474082181120) := decide_eq_decide.2 ⟨fun h => by unfold fabs at h; omega, fun h => by unfold fabs; omega⟩
  have e2 : decide (fabs q = 9218868437227405312) = decide (q = 9218868437227405312) := decide_eq_decide.2 ⟨fun h => by unfold fabs at h; omega, fun h => by unfold fabs; omega⟩
  rw [e1, e2]
theorem Ends.fin {p q : Nat} (h : Ends p q) (hw : pwild p q = false) : ffin p ∧ ffin q := by
  obtain ⟨h1, h2, h3, h4, h5, h6, _⟩ := h
  unfold pwild at hw
  rw [Bool.or_eq_false_iff] at hw
  have a := of_decide_eq_false hw.1
  have b := of_decide_eq_false hw.2
  exact ⟨fin_of h1 h3 h5 a, fin_of h2 h4 b h6⟩
/-- An end that was read. -/
def Pt (p : Nat) : Prop := p < 18446744073709551616 ∧ ¬ fnan p ∧ p ≠ 9223372036854775808
theorem Ends.pts {p q : Nat} (h : Ends p q) : Pt p ∧ Pt q := ⟨⟨h.1, h.2.2.1, h.2.2.2.2.2.2.2.1⟩, ⟨h.2.1, h.2.2.2.1, h.2.2.2.2.2.2.2.2⟩⟩
theorem FK_inj {p q : Nat} (hp : Pt p) (hq : Pt q) (h : FK p = FK q) : p = q := by
  obtain ⟨h1, h2, h3⟩ := hp
  obtain ⟨h4, h5, h6⟩ := hq
  unfold FK at h
  split at h <;> split at h <;> omega
theorem fv_SV {p : Nat} (hp : p < 18446744073709551616) : fv p = SV (FK p) := by
  have := FK_val hp
  unfold fv SV
  rw [← this]
  by_cases c : 9223372036854775808 ≤ p
  · rw [if_pos c, decide_eq_true c, if_pos rfl]
  · rw [if_neg c, decide_eq_false c, if_neg (by simp)]
theorem fv_lt {p q : Nat} (hp : p < 18446744073709551616) (hq : q < 18446744073709551616) (h : FK p < FK q) : fv p < fv q := by
  rw [fv_SV hp, fv_SV hq]; exact SV_lt h
theorem fv_le {p q : Nat} (hp : p < 18446744073709551616) (hq : q < 18446744073709551616) (h : FK p ≤ FK q) : fv p ≤ fv q := by
  rw [fv_SV hp, fv_SV hq]
  rcases Int.lt_or_eq_of_le h with h | h
  · exact Int.le_of_lt (SV_lt h)
  · rw [h]; exact Int.le_refl _
theorem fv_inj {p q : Nat} (hp : Pt p) (hq : Pt q) (h : fv p = fv q) : p = q := by
  rw [fv_SV hp.1, fv_SV hq.1] at h
  exact FK_inj hp hq (SV_inj.1 h)
theorem upz_nat (n : Nat) : upz (n : Int) = min (rngA n 1) 9218868437227405312 := by
  rw [upz_pos (by omega), Int.natAbs_natCast]
  unfold fpat
  split
  · omega
  · simp
theorem rngA_mono {n m : Nat} (h : n ≤ m) : rngA n 1 ≤ rngA m 1 := by
  rw [rngA_one, rngA_one]
  have h1 := fl_mono h
  have h2 := FV_fl_le n
  by_cases a : FV (fl n) = n
  · rw [if_pos a]; split <;> omega
  · rw [if_neg a]
    by_cases b : FV (fl m) = m
    · rw [if_pos b]
      have : FV (fl n) < FV (fl m) := by omega
      have := FV_lt_iff.1 this
      omega
    · rw [if_neg b]; omega
theorem upz_mono {n m : Nat} (h : n ≤ m) : upz (n : Int) ≤ upz (m : Int) := by
  rw [upz_nat, upz_nat]
  have := rngA_mono h
  omega
theorem le_FV_up {n : Nat} (h : upz (n : Int) < 9218868437227405312) : n ≤ FV (upz (n : Int)) := by
  rw [upz_nat] at h ⊢
  rw [Nat.min_eq_left (by omega), rngA_one]
  by_cases a : FV (fl n) = n
  · rw [if_pos a]; omega
  · rw [if_neg a]; exact Nat.le_of_lt (lt_FV_fl n)
theorem upz_pos' {n : Nat} (h : 0 < n) : 0 < upz (n : Int) := by
  rw [upz_nat]
  have : 1 ≤ fl n := FV_le_iff.1 (by rw [FV_small (by omega)]; omega)
  rw [rngA_one]
  split <;> omega
theorem upz_zero : upz 0 = 0 := by decide
theorem fv_small {a : Nat} (h : a ≤ 9218868437227405312) : fv a = (FV a : Nat) := by
  unfold fv; rw [if_neg (by omega), Nat.mod_eq_of_lt (by omega)]
theorem Box3.frozen {w : World} {r : Nat} {a b c : Value} (h : Box3 w r a b c) : w.frozen? ⟨r, 0, none⟩ = false ∧ w.frozen? ⟨r, 1, none⟩ = false ∧ w.frozen? ⟨r, 2, none⟩ = false := by
  unfold Box3 at h
  refine ⟨?_, ?_, ?_⟩ <;> simp [World.frozen?, h]
theorem Box3.put3 {w : World} {r : Nat} {a b c : Value} (h : Box3 w r a b c) (a' b' c' : Value) : Box3 (Go.Proofs.Ytmmbbkeefphaiaa.put3 w r a' b' c') r a' b' c' := by
  unfold Box3 at h
  have hl : r < w.heap.size := by
    by_cases hr : r < w.heap.size
    · exact hr
    · rw [Array.getElem?_eq_none (by omega)] at h; cases h
  unfold Box3 Go.Proofs.Ytmmbbkeefphaiaa.put3
  simp [World.setCell, Array.getElem?_modify, h]
theorem Box3.no {w : World} {r : Nat} {s : Bool} {A B : Option Addr} {n c m d : Nat} (h : Box3 w r (.bool s) (.slice A n c) (.slice B m d)) : ∀ i z, w.cell? ⟨r, i, none⟩ ≠ some (.int .u32 z) := by
  intro i z e
  unfold Box3 at h
  simp only [World.cell?, h] at e
  rcases i with _ | _ | _ | i <;> simp at e
theorem Rd.put3b {w : World} {r : Nat} {A' : Option Addr} {xs : List Nat} (h : Rd w A' xs) {s : Bool} {A B : Option Addr} {n c m d : Nat} (hB : Box3 w r (.bool s) (.slice A n c) (.slice B m d)) (x y z : Value) : Rd (Go.Proofs.Ytmmbbkeefphaiaa.put3 w r x y z) A' xs :=
  h.apart hB.no fun k hk => (setb' _ r 2 z k hk).trans ((setb' _ r 1 y k hk).trans (setb' _ r 0 x k hk))
theorem IsRV.put3b {p : Int} {q k : Nat} {v : Value} {w : World} (h : IsRV p q k v w) {r : Nat} {s : Bool} {A B : Option Addr} {n c m d : Nat} (hB : Box3 w r (.bool s) (.slice A n c) (.slice B m d)) (x y z : Value) : IsRV p q k v (Go.Proofs.Ytmmbbkeefphaiaa.put3 w r x y z) := by
  obtain ⟨s', X, Y, ⟨va, vb, hv, ⟨A1, c1, ha, hA⟩, ⟨B1, c2, hb, hB'⟩⟩, hrest⟩ := h
  exact ⟨s', X, Y, ⟨va, vb, hv, ⟨A1, c1, ha, hA.put3b hB x y z⟩, ⟨B1, c2, hb, hB'.put3b hB x y z⟩⟩, hrest⟩

/-- The width. -/
def pwid (p q : Nat) : Nat := if pwild p q = true then 9218868437227405312 else upz (fv q - fv p)
def fwid (x y : Nat) : Nat := if fsound x y = true then pwid (flo x y) (fhi x y) else 9221120237041090561
theorem fsub_fin {x y : Nat} (h1 : ffin x) (h2 : ffin y) : fsub x y = upz (fv x - fv y) := by
  unfold fsub; rw [if_neg (by have := h1.2; have := h2.2; unfold fabs; omega)]
theorem fwid_lt (x y : Nat) : fwid x y < 18446744073709551616 := by
  unfold fwid pwid; split
  · split
    · omega
    · exact upz_lt _
  · omega

set_option maxRecDepth 20000 in
set_option maxHeartbeats 4000000 in
theorem wid_any (x y : Nat) (hx : x < 18446744073709551616) (hy : y < 18446744073709551616) (w : World) : Calls Try.prog 35 #[.agg #[.float .f64 x, .float .f64 y]] w fun e w' => e = .returned (.float .f64 (fwid x y)) ∧ Below w.heap.size w w' := by
  have HR := Lib.hid (fun W => read_any x y hx hy W)
  have HN := Lib.hid (fun W => none_any (flo x y) (fhi x y) (flo_lt hx) (fhi_lt hy) W)
  have HI := Lib.hid (fun W => infinite_any (flo x y) (fhi x y) (flo_lt hx) (fhi_lt hy) W)
  have HP := Lib.hid (fun W => infp_any W)
  have hsf := store_f
  have ha := above_sound hx hy
  unfold fwid
  by_cases hs : fsound x y = true
  · rw [if_pos hs]
    rw [hs] at ha
    rw [ha] at HN
    have hE := Lib.hid (ends_of hx hy hs)
    clear ha hs
    obtain ⟨p, hp⟩ : ∃ p, flo x y = p := ⟨_, rfl⟩
    obtain ⟨q, hq⟩ : ∃ q, fhi x y = q := ⟨_, rfl⟩
    simp only [hp, hq] at HR HN HI hE ⊢
    clear hp hq hx hy
    obtain ⟨R, hR⟩ : ∃ R, pwid p q = R := ⟨_, rfl⟩
    rw [hR]
    have HRR := Lib.hid hR
    clear hR
    go_enter Try.func35, Try.ntmps35
    go_wp2_with fail
    refine (HR.out _).mono ?_
    rintro en w1 ⟨rfl, hb⟩
    obtain ⟨c0, c1, f0, f1, hz⟩ := box1 hb
    have hbw := fun u v => setbox_below (u := u) (v := v) hb
    have HC := Lib.hid (fun u v => set2_cells (u := u) (v := v) c0 c1)
    have HW := Lib.hid hbw
    clear hb hbw
    go_wp2_with fail
    refine (HN.out _).mono ?_
    rintro en w2 ⟨rfl, hb⟩
    have hk := bcell hb
    rw [setbox_size] at hk
    have g0 := (hk w.heap.size 0 hz).trans (HC.out _ _).1
    have g1 := (hk w.heap.size 1 hz).trans (HC.out _ _).2
    have HE := Lib.hid (baft (HW.out _ _) hb)
    have hz2 : w.heap.size < w2.heap.size := by have := hb.size; rw [setbox_size] at this; omega
    clear hb hk c0 c1 f0 f1 HW HC
    cases hw : pwild p q
    · have hW := Lib.hid hw
      rw [hw] at HI
      clear hw
      have HS := Lib.hid (fun W => sub_is q p (.inl ⟨(hE.out.fin hW.out).2, (hE.out.fin hW.out).1⟩) W)
      have e1 : fsub q p = R := by rw [← HRR.out, fsub_fin (hE.out.fin hW.out).2 (hE.out.fin hW.out).1]; unfold pwid; rw [if_neg (by rw [hW.out]; simp)]
      rw [e1] at HS
      clear e1
      go_wp2_with fail
      refine (HI.out _).mono ?_
      rintro en w3 ⟨rfl, hb⟩
      have HE2 := Lib.hid (baft HE.out hb)
      have hk := bcell hb
      have k0 := (hk w.heap.size 0 hz2).trans g0
      have k1 := (hk w.heap.size 1 hz2).trans g1
      clear hb hk g0 g1 hz hz2
      go_wp2_with fail
      refine (HS.out _).mono ?_
      rintro en w4 ⟨_, rfl, rfl, hb⟩
      have HE3 := Lib.hid (baft HE2.out hb)
      clear hb
      go_wp2
      go_ret
      exact ⟨rfl, HE3.out⟩
    · rw [hw] at HI
      have hR2 : R = 9218868437227405312 := by rw [← HRR.out]; unfold pwid; rw [if_pos hw]
      clear hw HRR
      subst hR2
      go_wp2_with fail
      refine (HI.out _).mono ?_
      rintro en w3 ⟨rfl, hb⟩
      have HE2 := Lib.hid (baft HE.out hb)
      clear hb g0 g1 hz hz2
      go_wp2_with fail
      refine (HP.out _).mono ?_
      rintro en w4 ⟨rfl, rfl⟩
      go_wp2
      go_ret
      exact ⟨rfl, HE2.out⟩
  · rw [if_neg hs]
    have hs' : fsound x y = false := by simpa using hs
    rw [hs'] at ha
    rw [ha] at HN
    clear ha hs hs' HI HP
    obtain ⟨p, hp⟩ : ∃ p, flo x y = p := ⟨_, rfl⟩
    obtain ⟨q, hq⟩ : ∃ q, fhi x y = q := ⟨_, rfl⟩
    simp only [hp, hq] at HR HN
    clear hp hq hx hy
    go_enter Try.func35, Try.ntmps35
    go_wp2_with fail
    refine (HR.out _).mono ?_
    rintro en w1 ⟨rfl, hb⟩
    obtain ⟨c0, c1, f0, f1, hz⟩ := box1 hb
    have HW := Lib.hid (fun u v => setbox_below (u := u) (v := v) hb)
    clear hb
    go_wp2_with fail
    refine (HN.out _).mono ?_
    rintro en w2 ⟨rfl, hb⟩
    have HE := Lib.hid (baft (HW.out _ _) hb)
    clear hb
    go_wp2_with fail
    refine (nan_any _).mono ?_
    rintro en w3 ⟨rfl, rfl⟩
    go_wp2
    go_ret
    exact ⟨rfl, HE.out⟩
end Go.Proofs.Ytmmbbkeefphaiaa

/- Law 8: the document's width; the law MeasWids. -/
namespace Go.Proofs.Ytmmbbkeefphaiaa
set_option linter.unusedVariables false
set_option linter.unusedSimpArgs false
open Go.RowKit Verge

theorem sub_eqv (a b : Int) : (a * (UQ : Nat) - b * (UQ : Nat)) * ((UQ : Nat) : Int) = (a - b) * ((UQ * UQ : Nat) : Int) := by
  generalize UQ = u
  push_cast
  grind
/-- The difference of two patterns' numbers, in units. -/
theorem rvsub_is {a b : Int} {va vb : Value} {w : World} (ha : IsRV a UQ 100 va w) (hb : IsRV b UQ 100 vb w) : Calls Try.prog 76 #[va, vb] w (Ans w (IsRV (a - b) UQ 201)) := by
  refine (rv_sub ha hb (by omega) (by omega)).mono ?_
  rintro e w' ⟨v, he, hv, hbw⟩
  exact ⟨v, he, hv.eqv UQ_pos (sub_eqv a b), hbw⟩
/-- Rounded upward. -/
theorem bitsup_is {a : Int} {k : Nat} {va : Value} {w : World} (ha : IsRV a UQ k va w) (hk : k ≤ 8796093022000) : Calls Try.prog 71 #[.int .i64 1, va] w (Ans w (IsV (.int .u64 (upz a : Nat)))) := by
  have := bits3_is (d := 1) ha hk (K := KU) rfl
  rw [up_rat] at this
  exact this

set_option maxRecDepth 20000 in
set_option maxHeartbeats 8000000 in
theorem rwid_any (x y : Nat) (hx : x < 18446744073709551616) (hy : y < 18446744073709551616) (w : World) : Calls Try.prog 36 #[.agg #[.int .u64 (x : Int), .int .u64 (y : Int)]] w fun e w' => e = .returned (.int .u64 (fwid x y : Nat)) ∧ Below w.heap.size w w' := by
  have HR := Lib.hid (fun W => read6_any x y hx hy W)
  have HB := Lib.hid (fun o => bnew w o)
  unfold fwid
  by_cases hs : fsound x y = true
  · rw [if_pos hs]
    have hE := Lib.hid (ends_of hx hy hs)
    have hWd := Lib.hid (fun W => wild_any (flo x y) (fhi x y) (flo_lt hx) (fhi_lt hy) W)
    rw [hE.out.wild] at hWd
    clear hs
    obtain ⟨p, hp⟩ : ∃ p, flo x y = p := ⟨_, rfl⟩
    obtain ⟨q, hq⟩ : ∃ q, fhi x y = q := ⟨_, rfl⟩
    simp only [hp, hq] at HR hE hWd ⊢
    clear hp hq hx hy
    obtain ⟨R, hR⟩ : ∃ R, pwid p q = R := ⟨_, rfl⟩
    rw [hR]
    have HS := Lib.hid hR
    have hne : ¬ ((p : Int) = 9218868437227405312) := by have := hE.out.2.2.2.2.1; omega
    clear hR
    go_enter Try.func36, Try.ntmps36
    go_wp2_with fail
    refine (HR.out _).mono ?_
    rintro en w1 ⟨rfl, hb⟩
    have hb := Lib.hid (baft (HB.out _) hb)
    have HV := Lib.hid (Below.refl (w1.alloc (.cells #[.int .u64 (p : Int), .int .u64 (q : Int)] 24)).heap.size (w1.alloc (.cells #[.int .u64 (p : Int), .int .u64 (q : Int)] 24)))
    have HB2 := Lib.hid (baft hb.out (bnew w1 (.cells #[.int .u64 (p : Int), .int .u64 (q : Int)] 24)))
    obtain ⟨c0, c1, f0, f1, hz⟩ := box1 HV.out
    clear hb HB
    go_upto_region 2 with fail
    refine region_at 3 (Pick [IsV (.agg #[.int .u64 (p : Int), .int .u64 (q : Int)]), IsV (.agg #[.int .u64 9218868437227405312, .int .u64 18442240474082181120]), IsV (.bool false)]) (by kernel_rfl) (by kernel_rfl) (by kernel_rfl) (mono_pick ⟨IsV.mono _, IsV.mono _, IsV.mono _, trivial⟩) ⟨?_, ?_, ?_, trivial⟩ ?_
    · intro a W hsz hb hS
      have h3 : a.tmps.getD 3 undef = .pointer (some ⟨w1.heap.size, 0, none⟩) := hS.1
      clear hS hsz
      refine will_of rfl ?_
      obtain ⟨d0, d1, _, _, _⟩ := box1 (baft HV.out hb)
      intro K hK
      go_simp
      exact hK _ _ ⟨Below.refl _ _, rfl⟩
    · intro a W hsz hb hS
      clear hS hsz
      refine will_of rfl ?_
      obtain ⟨d0, d1, _, _, _⟩ := box1 (baft HV.out hb)
      intro K hK
      go_simp
      refine (empty6_any _).mono ?_
      rintro e W' ⟨rfl, hb'⟩
      exact hK _ _ ⟨hb', rfl⟩
    · intro a W hsz hb hS
      have h6 : a.tmps.getD 6 undef = .agg #[.int .u64 (p : Int), .int .u64 (q : Int)] := hS.1
      have h7 : a.tmps.getD 7 undef = .agg #[.int .u64 9218868437227405312, .int .u64 18442240474082181120] := hS.2.1
      clear hS hsz
      refine will_of rfl ?_
      intro K hK
      go_simp
      exact hK _ _ ⟨Below.refl _ _, rfl⟩
    intro f W hb hH
    have e0 : f 0 = .agg #[.int .u64 (p : Int), .int .u64 (q : Int)] := hH.1
    have e1 : f 1 = .agg #[.int .u64 9218868437227405312, .int .u64 18442240474082181120] := hH.2.1
    have e2 : f 2 = .bool false := hH.2.2.1
    simp only [List.take_succ_cons, List.take_zero, List.drop_succ_cons, List.drop_zero, putFrom, Act.put, List.setIfInBounds_toArray, List.set_cons_zero, List.set_cons_succ, Nat.reduceAdd, e0, e1, e2]
    clear e0 e1 e2 hH f
    have HV := Lib.hid (baft HV.out hb)
    have HB2 := Lib.hid (baft HB2.out hb)
    clear hb c0 c1 f0 f1 hz
    obtain ⟨c0, c1, f0, f1, hz⟩ := box1 HV.out
    clear hne
    go_wp2_with fail
    refine (hWd.out _).mono ?_
    rintro en w2 ⟨rfl, hb⟩
    have HV := Lib.hid (baft HV.out hb)
    have HB2 := Lib.hid (baft HB2.out hb)
    clear hb c0 c1 f0 f1 hz
    obtain ⟨c0, c1, f0, f1, hz⟩ := box1 HV.out
    cases hw : pwild p q
    · have hRR : Hid (upz (fv q - fv p) = R) := Lib.hid (by rw [← HS.out]; unfold pwid; rw [if_neg (by rw [hw]; simp)])
      clear hw HS hWd
      go_upto_region 6 with fail
      refine region_at 9 (Pick [IsV (.pointer (some ⟨w1.heap.size, 1, none⟩)), IsV (.int .u64 (q : Int)), IsRV (fv q) UQ 100, IsV (.pointer (some ⟨w1.heap.size, 0, none⟩)), IsV (.int .u64 (p : Int)), IsRV (fv p) UQ 100, IsRV (fv q - fv p) UQ 201, IsV (.int .u64 (R : Int)), IsV (.int .u64 (R : Int))]) (by kernel_rfl) (by kernel_rfl) (by kernel_rfl) (mono_pick ⟨IsV.mono _, IsV.mono _, IsRV.mono _ _ _, IsV.mono _, IsV.mono _, IsRV.mono _ _ _, IsRV.mono _ _ _, IsV.mono _, IsV.mono _, trivial⟩) ⟨?_, ?_, ?_, ?_, ?_, ?_, ?_, ?_, ?_, trivial⟩ ?_
      · intro a W hsz hb hS
        have h3 : a.tmps.getD 3 undef = .pointer (some ⟨w1.heap.size, 0, none⟩) := hS.1
        clear hS hsz
        refine will_of rfl ?_
        intro K hK
        go_simp
        exact hK _ _ ⟨Below.refl _ _, rfl⟩
      · intro a W hsz hb hS
        have h11 : a.tmps.getD 11 undef = .pointer (some ⟨w1.heap.size, 1, none⟩) := hS.1
        clear hS hsz
        refine will_of rfl ?_
        obtain ⟨d0, d1, _, _, _⟩ := box1 (baft HV.out hb)
        intro K hK
        go_simp
        exact hK _ _ ⟨Below.refl _ _, rfl⟩
      · intro a W hsz hb hS
        have h12 : a.tmps.getD 12 undef = .int .u64 (q : Int) := hS.1
        clear hS hsz
        refine will_of rfl ?_
        obtain ⟨d0, d1, _, _, _⟩ := box1 (baft HV.out hb)
        intro K hK
        go_simp
        refine (rvbits_is hE.out.2.1).mono ?_
        rintro e W' ⟨v, rfl, hv, hb'⟩
        exact hK _ _ ⟨hb', hv⟩
      · intro a W hsz hb hS
        have h3 : a.tmps.getD 3 undef = .pointer (some ⟨w1.heap.size, 0, none⟩) := hS.1
        clear hS hsz
        refine will_of rfl ?_
        intro K hK
        go_simp
        exact hK _ _ ⟨Below.refl _ _, rfl⟩
      · intro a W hsz hb hS
        have h14 : a.tmps.getD 14 undef = .pointer (some ⟨w1.heap.size, 0, none⟩) := hS.1
        clear hS hsz
        refine will_of rfl ?_
        obtain ⟨d0, d1, _, _, _⟩ := box1 (baft HV.out hb)
        intro K hK
        go_simp
        exact hK _ _ ⟨Below.refl _ _, rfl⟩
      · intro a W hsz hb hS
        have h15 : a.tmps.getD 15 undef = .int .u64 (p : Int) := hS.1
        clear hS hsz
        refine will_of rfl ?_
        obtain ⟨d0, d1, _, _, _⟩ := box1 (baft HV.out hb)
        intro K hK
        go_simp
        refine (rvbits_is hE.out.1).mono ?_
        rintro e W' ⟨v, rfl, hv, hb'⟩
        exact hK _ _ ⟨hb', hv⟩
      · intro a W hsz hb hS
        have q13 : IsRV (fv q) UQ 100 (a.tmps.getD 13 undef) W := hS.1
        have q16 : IsRV (fv p) UQ 100 (a.tmps.getD 16 undef) W := hS.2.1
        clear hS hsz
        obtain ⟨v13, h13⟩ : ∃ v, a.tmps.getD 13 undef = v := ⟨_, rfl⟩
        rw [h13] at q13
        obtain ⟨v16, h16⟩ : ∃ v, a.tmps.getD 16 undef = v := ⟨_, rfl⟩
        rw [h16] at q16
        refine will_of rfl ?_
        obtain ⟨d0, d1, _, _, _⟩ := box1 (baft HV.out hb)
        intro K hK
        go_simp
        refine (rvsub_is q13 q16).mono ?_
        rintro e W' ⟨v, rfl, hv, hb'⟩
        exact hK _ _ ⟨hb', hv⟩
      · intro a W hsz hb hS
        have q17 : IsRV (fv q - fv p) UQ 201 (a.tmps.getD 17 undef) W := hS.1
        clear hS hsz
        obtain ⟨v17, h17⟩ : ∃ v, a.tmps.getD 17 undef = v := ⟨_, rfl⟩
        rw [h17] at q17
        refine will_of rfl ?_
        obtain ⟨d0, d1, _, _, _⟩ := box1 (baft HV.out hb)
        intro K hK
        go_simp
        refine (bitsup_is q17 (by omega)).mono ?_
        rw [hRR.out]
        rintro e W' ⟨_, rfl, rfl, hb'⟩
        exact hK _ _ ⟨hb', rfl⟩
      · intro a W hsz hb hS
        have h18 : a.tmps.getD 18 undef = .int .u64 (R : Int) := hS.1
        clear hS hsz
        refine will_of rfl ?_
        intro K hK
        go_simp
        exact hK _ _ ⟨Below.refl _ _, rfl⟩
      intro f W hb hH
      have e0 : f 0 = .pointer (some ⟨w1.heap.size, 1, none⟩) := hH.1
      have e1 : f 1 = .int .u64 (q : Int) := hH.2.1
      obtain ⟨x2, y2⟩ : ∃ x, f 2 = x := ⟨_, rfl⟩
      have q2 : IsRV (fv q) UQ 100 (f 2) W := hH.2.2.1
      rw [y2] at q2
      have e3 : f 3 = .pointer (some ⟨w1.heap.size, 0, none⟩) := hH.2.2.2.1
      have e4 : f 4 = .int .u64 (p : Int) := hH.2.2.2.2.1
      obtain ⟨x5, y5⟩ : ∃ x, f 5 = x := ⟨_, rfl⟩
      have q5 : IsRV (fv p) UQ 100 (f 5) W := hH.2.2.2.2.2.1
      rw [y5] at q5
      obtain ⟨x6, y6⟩ : ∃ x, f 6 = x := ⟨_, rfl⟩
      have q6 : IsRV (fv q - fv p) UQ 201 (f 6) W := hH.2.2.2.2.2.2.1
      rw [y6] at q6
      have e7 : f 7 = .int .u64 (R : Int) := hH.2.2.2.2.2.2.2.1
      have e8 : f 8 = .int .u64 (R : Int) := hH.2.2.2.2.2.2.2.2.1
      simp only [List.take_succ_cons, List.take_zero, List.drop_succ_cons, List.drop_zero, putFrom, Act.put, List.setIfInBounds_toArray, List.set_cons_zero, List.set_cons_succ, Nat.reduceAdd, e0, e1, y2, e3, e4, y5, y6, e7, e8]
      clear e0 e1 y2 e3 e4 y5 y6 e7 e8 hH f
      have HB5 := Lib.hid (raft HB2.out hb)
      clear hb q2 q5 q6
      go_wp2
      go_ret
      exact ⟨rfl, HB5.out⟩
    · have hRR : R = 9218868437227405312 := by rw [← HS.out]; unfold pwid; rw [if_pos hw]
      clear hw HS hWd
      subst hRR
      go_wp2
      go_ret
      exact ⟨rfl, HB2.out⟩

  · rw [if_neg hs]
    have e1 : flo x y = 9218868437227405312 := by rw [flo, if_neg hs]
    have e2 : fhi x y = 18442240474082181120 := by rw [fhi, if_neg hs]
    simp only [e1, e2] at HR
    have HR : Hid (∀ W, Calls Try.prog 24 #[.agg #[.int .u64 (x : Int), .int .u64 (y : Int)]] W fun e w' => e = .returned (.agg #[.int .u64 9218868437227405312, .int .u64 18442240474082181120]) ∧ Below W.heap.size W w') := Lib.hid HR.out
    clear e1 e2 hs hx hy
    go_enter Try.func36, Try.ntmps36
    go_wp2_with fail
    refine (HR.out _).mono ?_
    rintro en w1 ⟨rfl, hb⟩
    have hb := Lib.hid (baft (HB.out _) hb)
    have HV := Lib.hid (Below.refl (w1.alloc (.cells #[.int .u64 9218868437227405312, .int .u64 18442240474082181120] 24)).heap.size (w1.alloc (.cells #[.int .u64 9218868437227405312, .int .u64 18442240474082181120] 24)))
    have HB2 := Lib.hid (baft hb.out (bnew w1 (.cells #[.int .u64 9218868437227405312, .int .u64 18442240474082181120] 24)))
    obtain ⟨c0, c1, f0, f1, hz⟩ := box1 HV.out
    clear hb HB
    go_upto_region 2 with fail
    refine region_at 3 (Pick [IsV (.agg #[.int .u64 9218868437227405312, .int .u64 18442240474082181120]), IsV (.agg #[.int .u64 9218868437227405312, .int .u64 18442240474082181120]), IsV (.bool true)]) (by kernel_rfl) (by kernel_rfl) (by kernel_rfl) (mono_pick ⟨IsV.mono _, IsV.mono _, IsV.mono _, trivial⟩) ⟨?_, ?_, ?_, trivial⟩ ?_
    · intro a W hsz hb hS
      have h3 : a.tmps.getD 3 undef = .pointer (some ⟨w1.heap.size, 0, none⟩) := hS.1
      clear hS hsz
      refine will_of rfl ?_
      obtain ⟨d0, d1, _, _, _⟩ := box1 (baft HV.out hb)
      intro K hK
      go_simp
      exact hK _ _ ⟨Below.refl _ _, rfl⟩
    · intro a W hsz hb hS
      clear hS hsz
      refine will_of rfl ?_
      obtain ⟨d0, d1, _, _, _⟩ := box1 (baft HV.out hb)
      intro K hK
      go_simp
      refine (empty6_any _).mono ?_
      rintro e W' ⟨rfl, hb'⟩
      exact hK _ _ ⟨hb', rfl⟩
    · intro a W hsz hb hS
      have h6 : a.tmps.getD 6 undef = .agg #[.int .u64 9218868437227405312, .int .u64 18442240474082181120] := hS.1
      have h7 : a.tmps.getD 7 undef = .agg #[.int .u64 9218868437227405312, .int .u64 18442240474082181120] := hS.2.1
      clear hS hsz
      refine will_of rfl ?_
      intro K hK
      go_simp
      exact hK _ _ ⟨Below.refl _ _, rfl⟩
    intro f W hb hH
    have e0 : f 0 = .agg #[.int .u64 9218868437227405312, .int .u64 18442240474082181120] := hH.1
    have e1 : f 1 = .agg #[.int .u64 9218868437227405312, .int .u64 18442240474082181120] := hH.2.1
    have e2 : f 2 = .bool true := hH.2.2.1
    simp only [List.take_succ_cons, List.take_zero, List.drop_succ_cons, List.drop_zero, putFrom, Act.put, List.setIfInBounds_toArray, List.set_cons_zero, List.set_cons_succ, Nat.reduceAdd, e0, e1, e2]
    clear e0 e1 e2 hH f
    have HV := Lib.hid (baft HV.out hb)
    have HB2 := Lib.hid (baft HB2.out hb)
    clear hb c0 c1 f0 f1 hz
    obtain ⟨c0, c1, f0, f1, hz⟩ := box1 HV.out
    go_wp2
    go_ret
    exact ⟨rfl, HB2.out⟩

set_option maxRecDepth 20000 in
set_option maxHeartbeats 4000000 in
theorem wids_any (x y : Nat) (hx : x < 18446744073709551616) (hy : y < 18446744073709551616) (w : World) : Calls Try.prog 7 #[.agg #[.int .u64 (x : Int), .int .u64 (y : Int)]] w fun e w' => e = .returned (.bool true) ∧ Below w.heap.size w w' := by
  have HI := Lib.hid (fun W => in_any x y hx hy W)
  have M1 := Lib.hid (fun W => wid_any x y hx hy W)
  have R1 := Lib.hid (fun W => rwid_any x y hx hy W)
  have S1 := Lib.hid (fun W => isb_any (fwid x y) (fwid_lt x y) W)
  have HB := Lib.hid (fun o => bnew w o)
  obtain ⟨p, hp⟩ : ∃ p, fwid x y = p := ⟨_, rfl⟩
  simp only [hp] at M1 R1 S1
  clear hp hx hy
  go_enter Try.func7, Try.ntmps7
  have HC : Hid (Below (w.alloc (.cells #[.int .u64 (x : Int), .int .u64 (y : Int)] 24)).heap.size (w.alloc (.cells #[.int .u64 (x : Int), .int .u64 (y : Int)] 24)) (w.alloc (.cells #[.int .u64 (x : Int), .int .u64 (y : Int)] 24))) := Lib.hid (Below.refl _ _)
  go_wp2_with fail
  refine region_at 7 (Pick [IsV (.agg #[.int .u64 (x : Int), .int .u64 (y : Int)]), IsV (.agg #[.float .f64 x, .float .f64 y]), IsV (.float .f64 p), IsV (.agg #[.int .u64 (x : Int), .int .u64 (y : Int)]), IsV (.int .u64 (p : Int)), IsV (.bool true), IsV (.bool true)]) (by kernel_rfl) (by kernel_rfl) (by kernel_rfl) (mono_pick ⟨IsV.mono _, IsV.mono _, IsV.mono _, IsV.mono _, IsV.mono _, IsV.mono _, IsV.mono _, trivial⟩) ⟨?_, ?_, ?_, ?_, ?_, ?_, ?_, trivial⟩ ?_
  · intro a W hsz hb hS
    have h1 : a.tmps.getD 1 undef = .pointer (some ⟨w.heap.size, 0, none⟩) := hS.1
    clear hS hsz
    refine will_of rfl ?_
    obtain ⟨d0, d1, _, _, _⟩ := box1 (baft HC.out hb)
    intro K hK
    go_simp
    exact hK _ _ ⟨Below.refl _ _, rfl⟩
  · intro a W hsz hb hS
    have h3 : a.tmps.getD 3 undef = .agg #[.int .u64 (x : Int), .int .u64 (y : Int)] := hS.1
    clear hS hsz
    refine will_of rfl ?_
    obtain ⟨d0, d1, _, _, _⟩ := box1 (baft HC.out hb)
    intro K hK
    go_simp
    refine (HI.out _).mono ?_
    rintro e W' ⟨rfl, hb'⟩
    exact hK _ _ ⟨hb', rfl⟩
  · intro a W hsz hb hS
    have h4 : a.tmps.getD 4 undef = .agg #[.float .f64 x, .float .f64 y] := hS.1
    clear hS hsz
    refine will_of rfl ?_
    obtain ⟨d0, d1, _, _, _⟩ := box1 (baft HC.out hb)
    intro K hK
    go_simp
    refine (M1.out _).mono ?_
    rintro e W' ⟨rfl, hb'⟩
    exact hK _ _ ⟨hb', rfl⟩
  · intro a W hsz hb hS
    have h1 : a.tmps.getD 1 undef = .pointer (some ⟨w.heap.size, 0, none⟩) := hS.1
    clear hS hsz
    refine will_of rfl ?_
    obtain ⟨d0, d1, _, _, _⟩ := box1 (baft HC.out hb)
    intro K hK
    go_simp
    exact hK _ _ ⟨Below.refl _ _, rfl⟩
  · intro a W hsz hb hS
    have h6 : a.tmps.getD 6 undef = .agg #[.int .u64 (x : Int), .int .u64 (y : Int)] := hS.1
    clear hS hsz
    refine will_of rfl ?_
    obtain ⟨d0, d1, _, _, _⟩ := box1 (baft HC.out hb)
    intro K hK
    go_simp
    refine (R1.out _).mono ?_
    rintro e W' ⟨rfl, hb'⟩
    exact hK _ _ ⟨hb', rfl⟩
  · intro a W hsz hb hS
    have h5 : a.tmps.getD 5 undef = .float .f64 p := hS.1
    have h7 : a.tmps.getD 7 undef = .int .u64 (p : Int) := hS.2.1
    clear hS hsz
    refine will_of rfl ?_
    obtain ⟨d0, d1, _, _, _⟩ := box1 (baft HC.out hb)
    intro K hK
    go_simp
    refine (S1.out _).mono ?_
    rintro e W' ⟨rfl, rfl⟩
    exact hK _ _ ⟨Below.refl _ _, rfl⟩
  · intro a W hsz hb hS
    have h8 : a.tmps.getD 8 undef = .bool true := hS.1
    clear hS hsz
    refine will_of rfl ?_
    intro K hK
    go_simp
    exact hK _ _ ⟨Below.refl _ _, rfl⟩
  intro f W hb hH
  have e0 : f 0 = .agg #[.int .u64 (x : Int), .int .u64 (y : Int)] := hH.1
  have e1 : f 1 = .agg #[.float .f64 x, .float .f64 y] := hH.2.1
  have e2 : f 2 = .float .f64 p := hH.2.2.1
  have e3 : f 3 = .agg #[.int .u64 (x : Int), .int .u64 (y : Int)] := hH.2.2.2.1
  have e4 : f 4 = .int .u64 (p : Int) := hH.2.2.2.2.1
  have e5 : f 5 = .bool true := hH.2.2.2.2.2.1
  have e6 : f 6 = .bool true := hH.2.2.2.2.2.2.1
  simp only [List.take_succ_cons, List.take_zero, List.drop_succ_cons, List.drop_zero, putFrom, Act.put, List.setIfInBounds_toArray, List.set_cons_zero, List.set_cons_succ, Nat.reduceAdd, e0, e1, e2, e3, e4, e5, e6]
  clear e0 e1 e2 e3 e4 e5 e6 hH f
  have HW := Lib.hid (baft (HB.out _) hb)
  clear hb
  go_wp2
  go_ret
  exact ⟨rfl, HW.out⟩
theorem wids_row (x y : Nat) (w : World) (hx : x < 18446744073709551616) (hy : y < 18446744073709551616) : Calls Try.prog 7 #[.agg #[.int .u64 (x : Int), .int .u64 (y : Int)]] w fun e w' => e = .returned (.bool true) ∧ Below w.heap.size w w' := wids_any x y hx hy w
end Go.Proofs.Ytmmbbkeefphaiaa
