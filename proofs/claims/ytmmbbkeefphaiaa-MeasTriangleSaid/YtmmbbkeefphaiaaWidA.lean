/- Layer 8: the width, by the program. -/
import Derived.Test.YtmmbbkeefphaiaaRoundC
namespace Go.Proofs.Ytmmbbkeefphaiaa
set_option linter.unusedVariables false
set_option linter.unusedSimpArgs false
open Go.RowKit Verge

theorem isinf3_any (x : Nat) (hx : x < 18446744073709551616) (w : World) : Calls Try.prog 43 #[.int .u64 (x : Int)] w fun e w' => e = .returned (.bool (decide (fabs x = 9218868437227405312))) ∧ w = w' := by
  have hb : bits .andNot .u64 (x : Int) 9223372036854775808 = ((fabs x : Nat) : Int) := by
    have := Go.u64_andNot_nat x 9223372036854775808 hx (by omega)
    rw [andNot_sign x hx] at this
    exact this
  have hc : (((fabs x : Nat) : Int) == 9218868437227405312) = decide (fabs x = 9218868437227405312) := by
    by_cases h : fabs x = 9218868437227405312
    · simp [h]
    · rw [decide_eq_false h]; simp; omega
  obtain ⟨a, ha⟩ : ∃ a, fabs x = a := ⟨_, rfl⟩
  rw [ha] at hb hc ⊢
  obtain ⟨d, hd⟩ : ∃ d, decide (a = 9218868437227405312) = d := ⟨_, rfl⟩
  rw [hd] at hc ⊢
  clear ha hd hx
  go_enter Try.func43, Try.ntmps43
  go_wp2
  go_ret
  exact ⟨rfl, rfl⟩
/-- Whether an end of a nonempty interval is no number. -/
def pwild (p q : Nat) : Bool := decide (p = 18442240474082181120) || decide (q = 9218868437227405312)
theorem infinite_any (p q : Nat) (hp : p < 18446744073709551616) (hq : q < 18446744073709551616) (w : World) : Calls Try.prog 73 #[.agg #[.float .f64 p, .float .f64 q]] w fun e w' => e = .returned (.bool (pwild p q)) ∧ Below w.heap.size w w' := by
  have HB := Lib.hid (fun o => bnew w o)
  have H1 := Lib.hid (fun W => isinf_m p hp W)
  have H2 := Lib.hid (fun W => isinf_p q hq W)
  unfold pwild
  obtain ⟨a, ha⟩ : ∃ a, decide (p = 18442240474082181120) = a := ⟨_, rfl⟩
  obtain ⟨b, hb⟩ : ∃ a, decide (q = 9218868437227405312) = a := ⟨_, rfl⟩
  rw [ha] at H1 ⊢
  rw [hb] at H2 ⊢
  clear ha hb hp hq
  cases a
  · go_enter Try.func73, Try.ntmps73
    go_wp2_with fail
    refine (H1.out _).mono ?_
    rintro en w1 ⟨rfl, rfl⟩
    go_wp2_with fail
    refine (H2.out _).mono ?_
    rintro en w1 ⟨rfl, rfl⟩
    go_wp2
    go_ret
    exact ⟨rfl, HB.out _⟩
  · go_enter Try.func73, Try.ntmps73
    go_wp2_with fail
    refine (H1.out _).mono ?_
    rintro en w1 ⟨rfl, rfl⟩
    go_wp2
    go_ret
    exact ⟨rfl, HB.out _⟩
theorem wild_any (p q : Nat) (hp : p < 18446744073709551616) (hq : q < 18446744073709551616) (w : World) : Calls Try.prog 75 #[.agg #[.int .u64 (p : Int), .int .u64 (q : Int)]] w fun e w' => e = .returned (.bool (decide (fabs p = 9218868437227405312) || decide (fabs q = 9218868437227405312))) ∧ Below w.heap.size w w' := by
  have HB := Lib.hid (fun o => bnew w o)
  have H1 := Lib.hid (fun W => isinf3_any p hp W)
  have H2 := Lib.hid (fun W => isinf3_any q hq W)
  obtain ⟨a, ha⟩ : ∃ a, decide (fabs p = 9218868437227405312) = a := ⟨_, rfl⟩
  obtain ⟨b, hb⟩ : ∃ a, decide (fabs q = 9218868437227405312) = a := ⟨_, rfl⟩
  rw [ha] at H1 ⊢
  rw [hb] at H2 ⊢
  clear ha hb hp hq
  cases a
  · go_enter Try.func75, Try.ntmps75
    go_wp2_with fail
    refine (H1.out _).mono ?_
    rintro en w1 ⟨rfl, rfl⟩
    go_wp2_with fail
    refine (H2.out _).mono ?_
    rintro en w1 ⟨rfl, rfl⟩
    go_wp2
    go_ret
    exact ⟨rfl, HB.out _⟩
  · go_enter Try.func75, Try.ntmps75
    go_wp2_with fail
    refine (H1.out _).mono ?_
    rintro en w1 ⟨rfl, rfl⟩
    go_wp2
    go_ret
    exact ⟨rfl, HB.out _⟩
/-- The ends of a sound interval, read. -/
def Ends (p q : Nat) : Prop := p < 18446744073709551616 ∧ q < 18446744073709551616 ∧ ¬ fnan p ∧ ¬ fnan q ∧ p ≠ 9218868437227405312 ∧ q ≠ 18442240474082181120 ∧ FK p ≤ FK q ∧ p ≠ 9223372036854775808 ∧ q ≠ 9223372036854775808
theorem fz_ne (x : Nat) : fz x ≠ 9223372036854775808 := by unfold fz; split <;> omega
theorem ends_of {x y : Nat} (hx : x < 18446744073709551616) (hy : y < 18446744073709551616) (hs : fsound x y = true) : Ends (flo x y) (fhi x y) := by
  refine ⟨flo_lt hx, fhi_lt hy, fnan_flo, fnan_fhi, flo_ne hx hs, fhi_ne hy hs, ?_, ?_, ?_⟩
  · have h := of_decide_eq_true hs
    unfold flo fhi
    rw [if_pos hs, if_pos hs, FK_fz hx, FK_fz hy]
    exact h.2.2.1
  · unfold flo; rw [if_pos hs]; exact fz_ne x
  · unfold fhi; rw [if_pos hs]; exact fz_ne y
theorem Ends.wild {p q : Nat} (h : Ends p q) : (decide (fabs p = 9218868437227405312) || decide (fabs q = 9218868437227405312)) = pwild p q := by
  obtain ⟨h1, h2, h3, h4, h5, h6, _⟩ := h
  unfold pwild
  have e1 : decide (fabs p = 9218868437227405312) = decide (p = 18442240474082181120) := decide_eq_decide.2 ⟨fun h => by unfold fabs at h; omega, fun h => by unfold fabs; omega⟩
  have e2 : decide (fabs q = 9218868437227405312) = decide (q = 9218868437227405312) := decide_eq_decide.2 ⟨fun h => by unfold fabs at h; omega, fun h => by unfold fabs; omega⟩
  rw [e1, e2]
theorem Ends.fin {p q : Nat} (h : Ends p q) (hw : pwild p q = false) : ffin p ∧ ffin q := by
  obtain ⟨h1, h2, h3, h4, h5, h6, _⟩ := h
  unfold pwild at hw
  rw [Bool.or_eq_false_iff] at hw
  have a := of_decide_eq_false hw.1
  have b := of_decide_eq_false hw.2
  exact ⟨fin_of h1 h3 h5 a, fin_of h2 h4 b h6⟩
/-- The width. -/
def pwid (p q : Nat) : Nat := if pwild p q = true then 9218868437227405312 else upz (fv q - fv p)
def fwid (x y : Nat) : Nat := if fsound x y = true then pwid (flo x y) (fhi x y) else 9221120237041090561
theorem fsub_fin {x y : Nat} (h1 : ffin x) (h2 : ffin y) : fsub x y = upz (fv x - fv y) := by
  unfold fsub; rw [if_neg (by have := h1.2; have := h2.2; unfold fabs; omega)]
theorem fwid_lt (x y : Nat) : fwid x y < 18446744073709551616 := by
  unfold fwid pwid; split
  · split
    · omega
    · exact upz_lt _
  · omega

set_option maxRecDepth 20000 in
set_option maxHeartbeats 4000000 in
theorem wid_any (x y : Nat) (hx : x < 18446744073709551616) (hy : y < 18446744073709551616) (w : World) : Calls Try.prog 35 #[.agg #[.float .f64 x, .float .f64 y]] w fun e w' => e = .returned (.float .f64 (fwid x y)) ∧ Below w.heap.size w w' := by
  have HR := Lib.hid (fun W => read_any x y hx hy W)
  have HN := Lib.hid (fun W => none_any (flo x y) (fhi x y) (flo_lt hx) (fhi_lt hy) W)
  have HI := Lib.hid (fun W => infinite_any (flo x y) (fhi x y) (flo_lt hx) (fhi_lt hy) W)
  have HP := Lib.hid (fun W => infp_any W)
  have hsf := store_f
  have ha := above_sound hx hy
  unfold fwid
  by_cases hs : fsound x y = true
  · rw [if_pos hs]
    rw [hs] at ha
    rw [ha] at HN
    have hE := Lib.hid (ends_of hx hy hs)
    clear ha hs
    obtain ⟨p, hp⟩ : ∃ p, flo x y = p := ⟨_, rfl⟩
    obtain ⟨q, hq⟩ : ∃ q, fhi x y = q := ⟨_, rfl⟩
    simp only [hp, hq] at HR HN HI hE ⊢
    clear hp hq hx hy
    obtain ⟨R, hR⟩ : ∃ R, pwid p q = R := ⟨_, rfl⟩
    rw [hR]
    have HRR := Lib.hid hR
    clear hR
    go_enter Try.func35, Try.ntmps35
    go_wp2_with fail
    refine (HR.out _).mono ?_
    rintro en w1 ⟨rfl, hb⟩
    obtain ⟨c0, c1, f0, f1, hz⟩ := box1 hb
    have hbw := fun u v => setbox_below (u := u) (v := v) hb
    have HC := Lib.hid (fun u v => set2_cells (u := u) (v := v) c0 c1)
    have HW := Lib.hid hbw
    clear hb hbw
    go_wp2_with fail
    refine (HN.out _).mono ?_
    rintro en w2 ⟨rfl, hb⟩
    have hk := bcell hb
    rw [setbox_size] at hk
    have g0 := (hk w.heap.size 0 hz).trans (HC.out _ _).1
    have g1 := (hk w.heap.size 1 hz).trans (HC.out _ _).2
    have HE := Lib.hid (baft (HW.out _ _) hb)
    have hz2 : w.heap.size < w2.heap.size := by have := hb.size; rw [setbox_size] at this; omega
    clear hb hk c0 c1 f0 f1 HW HC
    cases hw : pwild p q
    · have hW := Lib.hid hw
      rw [hw] at HI
      clear hw
      have HS := Lib.hid (fun W => sub_is q p (.inl ⟨(hE.out.fin hW.out).2, (hE.out.fin hW.out).1⟩) W)
      have e1 : fsub q p = R := by rw [← HRR.out, fsub_fin (hE.out.fin hW.out).2 (hE.out.fin hW.out).1]; unfold pwid; rw [if_neg (by rw [hW.out]; simp)]
      rw [e1] at HS
      clear e1
      go_wp2_with fail
      refine (HI.out _).mono ?_
      rintro en w3 ⟨rfl, hb⟩
      have HE2 := Lib.hid (baft HE.out hb)
      have hk := bcell hb
      have k0 := (hk w.heap.size 0 hz2).trans g0
      have k1 := (hk w.heap.size 1 hz2).trans g1
      clear hb hk g0 g1 hz hz2
      go_wp2_with fail
      refine (HS.out _).mono ?_
      rintro en w4 ⟨_, rfl, rfl, hb⟩
      have HE3 := Lib.hid (baft HE2.out hb)
      clear hb
      go_wp2
      go_ret
      exact ⟨rfl, HE3.out⟩
    · rw [hw] at HI
      have hR2 : R = 9218868437227405312 := by rw [← HRR.out]; unfold pwid; rw [if_pos hw]
      clear hw HRR
      subst hR2
      go_wp2_with fail
      refine (HI.out _).mono ?_
      rintro en w3 ⟨rfl, hb⟩
      have HE2 := Lib.hid (baft HE.out hb)
      clear hb g0 g1 hz hz2
      go_wp2_with fail
      refine (HP.out _).mono ?_
      rintro en w4 ⟨rfl, rfl⟩
      go_wp2
      go_ret
      exact ⟨rfl, HE2.out⟩
  · rw [if_neg hs]
    have hs' : fsound x y = false := by simpa using hs
    rw [hs'] at ha
    rw [ha] at HN
    clear ha hs hs' HI HP
    obtain ⟨p, hp⟩ : ∃ p, flo x y = p := ⟨_, rfl⟩
    obtain ⟨q, hq⟩ : ∃ q, fhi x y = q := ⟨_, rfl⟩
    simp only [hp, hq] at HR HN
    clear hp hq hx hy
    go_enter Try.func35, Try.ntmps35
    go_wp2_with fail
    refine (HR.out _).mono ?_
    rintro en w1 ⟨rfl, hb⟩
    obtain ⟨c0, c1, f0, f1, hz⟩ := box1 hb
    have HW := Lib.hid (fun u v => setbox_below (u := u) (v := v) hb)
    clear hb
    go_wp2_with fail
    refine (HN.out _).mono ?_
    rintro en w2 ⟨rfl, hb⟩
    have HE := Lib.hid (baft (HW.out _ _) hb)
    clear hb
    go_wp2_with fail
    refine (nan_any _).mono ?_
    rintro en w3 ⟨rfl, rfl⟩
    go_wp2
    go_ret
    exact ⟨rfl, HE.out⟩
end Go.Proofs.Ytmmbbkeefphaiaa
