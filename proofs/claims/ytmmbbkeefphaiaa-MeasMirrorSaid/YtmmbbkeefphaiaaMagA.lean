/- Law 8: the program's Mag and Mig. -/
import Derived.Test.YtmmbbkeefphaiaaMeasB
namespace Go.Proofs.Ytmmbbkeefphaiaa
set_option linter.unusedVariables false
set_option linter.unusedSimpArgs false
open Go.RowKit Verge

/-- A pattern without its sign. -/
def fabs (x : Nat) : Nat := x % 9223372036854775808
def fmag (x y : Nat) : Nat := if fsound x y = true then max (fabs (flo x y)) (fabs (fhi x y)) else 9221120237041090561
def fmig (x y : Nat) : Nat := if fsound x y = true then (if FK (flo x y) ≤ 0 ∧ 0 ≤ FK (fhi x y) then 0 else min (fabs (flo x y)) (fabs (fhi x y))) else 9221120237041090561

theorem fabs_le {x : Nat} (n : ¬ fnan x) : fabs x ≤ 9218868437227405312 := by unfold fnan at n; unfold fabs; omega
theorem small_nan {a : Nat} (h : a ≤ 9218868437227405312) : ¬ fnan a := by unfold fnan; omega
theorem FK_small {a : Nat} (h : a ≤ 9218868437227405312) : FK a = a := by unfold FK; rw [if_pos (by omega)]
theorem read_pos {a : Nat} (h : a ≤ 9218868437227405312) : (FloatKind.f64.decode a).neg = false := by
  show (Ieee.double.read a).neg = false
  rcases Nat.eq_or_lt_of_le h with e | e
  · rw [read_inf (x := a) (by omega) (by omega)]
    simp [Ieee.Datum.neg]; omega
  · obtain ⟨k, m, er, _⟩ := read_num (x := a) (by omega) (by omega)
    rw [er]
    simp [Ieee.Datum.neg]; omega
theorem o_pos {a b : Nat} (ha : a ≤ 9218868437227405312) (hb : b ≤ 9218868437227405312) : FloatKind.f64.format.order a b = some (if a < b then .lt else if a = b then .eq else .gt) := by
  have := order_cases (x := a) (y := b) (by omega) (by omega)
  rw [if_pos ⟨small_nan ha, small_nan hb⟩, cmpLE, FK_small ha, FK_small hb] at this
  refine this.trans ?_
  congr 1
  by_cases h1 : a < b
  · rw [if_pos h1, if_pos (by omega)]
  · rw [if_neg h1, if_neg (by omega)]
    by_cases h2 : a = b
    · rw [if_pos h2, if_pos (by omega)]
    · rw [if_neg h2, if_neg (by omega)]
theorem fmax_any {a b : Nat} (ha : a ≤ 9218868437227405312) (hb : b ≤ 9218868437227405312) (ts : Array TypeId) (t : TypeId) (w : World) :
    (Builtin.max_ ts t #[.float .f64 a, .float .f64 b]).run Try.prog w = .ok (.float .f64 (max a b)) w := by
  have h := o_pos ha hb
  have hn := read_pos ha
  by_cases h1 : a < b
  · rw [if_pos h1] at h
    rw [Nat.max_eq_right (by omega)]
    simp [Builtin.max_, Builtin.max2, h]
  · rw [if_neg h1] at h
    by_cases h2 : a = b
    · rw [if_pos h2] at h
      subst h2
      rw [Nat.max_self]
      simp [Builtin.max_, Builtin.max2, h]
    · rw [if_neg h2] at h
      rw [Nat.max_eq_left (by omega)]
      simp [Builtin.max_, Builtin.max2, h]

theorem fmin_any {a b : Nat} (ha : a ≤ 9218868437227405312) (hb : b ≤ 9218868437227405312) (ts : Array TypeId) (t : TypeId) (w : World) :
    (Builtin.min_ ts t #[.float .f64 a, .float .f64 b]).run Try.prog w = .ok (.float .f64 (min a b)) w := by
  have h := o_pos ha hb
  have hn := read_pos ha
  by_cases h1 : a < b
  · rw [if_pos h1] at h
    rw [Nat.min_eq_left (by omega)]
    simp [Builtin.min_, Builtin.min2, h]
  · rw [if_neg h1] at h
    by_cases h2 : a = b
    · rw [if_pos h2] at h
      subst h2
      rw [Nat.min_self]
      simp [Builtin.min_, Builtin.min2, h]
    · rw [if_neg h2] at h
      rw [Nat.min_eq_right (by omega)]
      simp [Builtin.min_, Builtin.min2, h]

theorem abs_any (x : Nat) (hx : x < 18446744073709551616) (w : World) : Calls Try.prog 57 #[.float .f64 x] w fun e w' => e = .returned (.float .f64 (fabs x)) ∧ w = w' := by
  have hb : bits .andNot .u64 (x : Int) 9223372036854775808 = ((fabs x : Nat) : Int) := by
    have := Go.u64_andNot_nat x 9223372036854775808 hx (by omega)
    rw [andNot_sign x hx] at this
    exact this
  have h1 := bits_any x
  have h2 := from_any (fabs x : Nat)
  obtain ⟨a, ha⟩ : ∃ a, fabs x = a := ⟨_, rfl⟩
  rw [ha] at hb h2 ⊢
  clear ha
  go_enter Try.func57, Try.ntmps57
  go_wp2
  go_ret
  exact ⟨rfl, rfl⟩
theorem nan_any (w : World) : Calls Try.prog 56 #[] w fun e w' => e = .returned (.float .f64 9221120237041090561) ∧ w = w' := by
  have hb' := from_any 9221120237041090561
  go_enter Try.func56, Try.ntmps56
  go_wp2
  go_ret
  exact ⟨rfl, rfl⟩
theorem none_any (p q : Nat) (hp : p < 18446744073709551616) (hq : q < 18446744073709551616) (w : World) : Calls Try.prog 55 #[.agg #[.float .f64 p, .float .f64 q]] w fun e w' => e = .returned (.bool (fabove p q)) ∧ Below w.heap.size w w' := by
  have HB := Lib.hid (fun o => bnew w o)
  have ho := o_gt hp hq
  have hf : decide (¬ fnan p ∧ ¬ fnan q ∧ FK q < FK p) = fabove p q := rfl
  rw [hf] at ho
  obtain ⟨b, hb⟩ : ∃ b, fabove p q = b := ⟨_, rfl⟩
  rw [hb] at ho ⊢
  clear hb hf hp hq
  go_enter Try.func55, Try.ntmps55
  go_wp2
  go_ret
  exact ⟨rfl, HB.out _⟩

theorem above_sound {x y : Nat} (hx : x < 18446744073709551616) (hy : y < 18446744073709551616) : fabove (flo x y) (fhi x y) = !fsound x y := by
  by_cases hs : fsound x y = true
  · have h := of_decide_eq_true hs
    rw [hs]
    unfold fabove
    refine decide_eq_false ?_
    rintro ⟨_, _, h3⟩
    unfold flo fhi at h3
    rw [if_pos hs, if_pos hs, FK_fz hx, FK_fz hy] at h3
    omega
  · have e1 : flo x y = 9218868437227405312 := by rw [flo, if_neg hs]
    have e2 : fhi x y = 18442240474082181120 := by rw [fhi, if_neg hs]
    have hs' : fsound x y = false := by simpa using hs
    rw [e1, e2, hs']
    decide
theorem setbox_below {w W : World} {o : Obj} {u v : Value} (hb : Below (w.alloc o).heap.size (w.alloc o) W) : Below w.heap.size w ((W.setCell ⟨w.heap.size, 0, none⟩ u).setCell ⟨w.heap.size, 1, none⟩ v) :=
  ((baft (bnew w o) hb).setCell (Nat.le_refl _) u).setCell (Nat.le_refl _) v
theorem setbox_size {W : World} {b : Nat} {u v : Value} : ((W.setCell ⟨b, 0, none⟩ u).setCell ⟨b, 1, none⟩ v).heap.size = W.heap.size := by simp [World.setCell]

set_option maxRecDepth 20000 in
set_option maxHeartbeats 4000000 in
theorem mag_any (x y : Nat) (hx : x < 18446744073709551616) (hy : y < 18446744073709551616) (w : World) : Calls Try.prog 20 #[.agg #[.float .f64 x, .float .f64 y]] w fun e w' => e = .returned (.float .f64 (fmag x y)) ∧ Below w.heap.size w w' := by
  have HR := Lib.hid (fun W => read_any x y hx hy W)
  have HN := Lib.hid (fun W => none_any (flo x y) (fhi x y) (flo_lt hx) (fhi_lt hy) W)
  have hsf := store_f
  have HA := Lib.hid (fun W => abs_any (flo x y) (flo_lt hx) W)
  have HA' := Lib.hid (fun W => abs_any (fhi x y) (fhi_lt hy) W)
  have hmx := fun ts t W => fmax_any (fabs_le (fnan_flo (x := x) (y := y))) (fabs_le (fnan_fhi (x := x) (y := y))) ts t W
  have ha := above_sound hx hy
  have HB := Lib.hid (fun o => bnew w o)
  unfold fmag
  by_cases hs : fsound x y = true
  · rw [if_pos hs]
    rw [hs] at ha
    rw [ha] at HN
    clear ha hs
    obtain ⟨p, hp⟩ : ∃ p, flo x y = p := ⟨_, rfl⟩
    obtain ⟨q, hq⟩ : ∃ q, fhi x y = q := ⟨_, rfl⟩
    simp only [hp, hq] at HR HN HA HA' hmx ⊢
    clear hp hq hx hy
    obtain ⟨a, hae⟩ : ∃ a, fabs p = a := ⟨_, rfl⟩
    obtain ⟨b, hbe⟩ : ∃ b, fabs q = b := ⟨_, rfl⟩
    simp only [hae, hbe] at HA HA' hmx ⊢
    clear hae hbe
    obtain ⟨r, hr⟩ : ∃ r, max a b = r := ⟨_, rfl⟩
    simp only [hr] at hmx ⊢
    clear hr
    go_enter Try.func20, Try.ntmps20
    go_wp2_with fail
    refine (HR.out _).mono ?_
    rintro en w1 ⟨rfl, hb⟩
    obtain ⟨c0, c1, f0, f1, hz⟩ := box1 hb
    have hbw := fun u v => setbox_below (u := u) (v := v) hb
    have HC := Lib.hid (fun u v => set2_cells (u := u) (v := v) c0 c1)
    have HW := Lib.hid hbw
    clear hb hbw
    go_wp2_with fail
    refine (HN.out _).mono ?_
    rintro en w2 ⟨rfl, hb⟩
    have hk := bcell hb
    rw [setbox_size] at hk
    have g0 := (hk w.heap.size 0 hz).trans (HC.out _ _).1
    have g1 := (hk w.heap.size 1 hz).trans (HC.out _ _).2
    have HE := Lib.hid (baft (HW.out _ _) hb)
    clear hb hk c0 c1 f0 f1 HW HC
    go_wp2_with fail
    go_region_with (first
      | (go_at_call 57; with_reducible refine (HA.out _).mono ?_; rintro en w3 ⟨rfl, hw⟩; subst hw)
      | (go_at_call 57; with_reducible refine (HA'.out _).mono ?_; rintro en w3 ⟨rfl, hw⟩; subst hw))
    all_goals
      go_wp2
      go_ret
      exact ⟨rfl, HE.out.drew⟩
  · rw [if_neg hs]
    have hs' : fsound x y = false := by simpa using hs
    rw [hs'] at ha
    rw [ha] at HN
    clear ha hs hs' hmx HA HA'
    obtain ⟨p, hp⟩ : ∃ p, flo x y = p := ⟨_, rfl⟩
    obtain ⟨q, hq⟩ : ∃ q, fhi x y = q := ⟨_, rfl⟩
    simp only [hp, hq] at HR HN
    clear hp hq hx hy
    go_enter Try.func20, Try.ntmps20
    go_wp2_with fail
    refine (HR.out _).mono ?_
    rintro en w1 ⟨rfl, hb⟩
    obtain ⟨c0, c1, f0, f1, hz⟩ := box1 hb
    have HW := Lib.hid (fun u v => setbox_below (u := u) (v := v) hb)
    clear hb
    go_wp2_with fail
    refine (HN.out _).mono ?_
    rintro en w2 ⟨rfl, hb⟩
    have HE := Lib.hid (baft (HW.out _ _) hb)
    clear hb
    go_wp2_with fail
    refine (nan_any _).mono ?_
    rintro en w3 ⟨rfl, rfl⟩
    go_wp2
    go_ret
    exact ⟨rfl, HE.out⟩
set_option maxRecDepth 20000 in
set_option maxHeartbeats 4000000 in
theorem mig_any (x y : Nat) (hx : x < 18446744073709551616) (hy : y < 18446744073709551616) (w : World) : Calls Try.prog 22 #[.agg #[.float .f64 x, .float .f64 y]] w fun e w' => e = .returned (.float .f64 (fmig x y)) ∧ Below w.heap.size w w' := by
  have HR := Lib.hid (fun W => read_any x y hx hy W)
  have HN := Lib.hid (fun W => none_any (flo x y) (fhi x y) (flo_lt hx) (fhi_lt hy) W)
  have hsf := store_f
  have HA := Lib.hid (fun W => abs_any (flo x y) (flo_lt hx) W)
  have HA' := Lib.hid (fun W => abs_any (fhi x y) (fhi_lt hy) W)
  have hmn := fun ts t W => fmin_any (fabs_le (fnan_flo (x := x) (y := y))) (fabs_le (fnan_fhi (x := x) (y := y))) ts t W
  have ha := above_sound hx hy
  have z1 := o_le (flo_lt (y := y) hx) (y := 0) (by omega)
  have z2 := o_ge (fhi_lt (x := x) hy) (y := 0) (by omega)
  have z3 : decide (¬ fnan (flo x y) ∧ ¬ fnan 0 ∧ FK (flo x y) ≤ FK 0) = decide (FK (flo x y) ≤ 0) := decide_eq_decide.2 ⟨fun h => h.2.2, fun h => ⟨fnan_flo, fnan_zero, h⟩⟩
  have z4 : decide (¬ fnan (fhi x y) ∧ ¬ fnan 0 ∧ FK 0 ≤ FK (fhi x y)) = decide (0 ≤ FK (fhi x y)) := decide_eq_decide.2 ⟨fun h => h.2.2, fun h => ⟨fnan_fhi, fnan_zero, h⟩⟩
  rw [z3] at z1
  rw [z4] at z2
  clear z3 z4
  have HB := Lib.hid (fun o => bnew w o)
  unfold fmig
  by_cases hs : fsound x y = true
  · rw [if_pos hs]
    have hcond : (if FK (flo x y) ≤ 0 ∧ 0 ≤ FK (fhi x y) then 0 else min (fabs (flo x y)) (fabs (fhi x y))) = if (decide (FK (flo x y) ≤ 0) && decide (0 ≤ FK (fhi x y))) = true then 0 else min (fabs (flo x y)) (fabs (fhi x y)) := by
      rw [← Bool.decide_and]; simp only [decide_eq_true_eq]
    rw [hcond]
    clear hcond
    obtain ⟨b1, hb1⟩ : ∃ b1, decide (FK (flo x y) ≤ 0) = b1 := ⟨_, rfl⟩
    obtain ⟨b2, hb2⟩ : ∃ b2, decide (0 ≤ FK (fhi x y)) = b2 := ⟨_, rfl⟩
    rw [hb1] at z1 ⊢
    rw [hb2] at z2 ⊢
    clear hb1 hb2
    rw [hs] at ha
    rw [ha] at HN
    clear ha hs
    obtain ⟨p, hp⟩ : ∃ p, flo x y = p := ⟨_, rfl⟩
    obtain ⟨q, hq⟩ : ∃ q, fhi x y = q := ⟨_, rfl⟩
    simp only [hp, hq] at HR HN HA HA' hmn z1 z2 ⊢
    clear hp hq hx hy
    obtain ⟨a, hae⟩ : ∃ a, fabs p = a := ⟨_, rfl⟩
    obtain ⟨b, hbe⟩ : ∃ b, fabs q = b := ⟨_, rfl⟩
    simp only [hae, hbe] at HA HA' hmn ⊢
    clear hae hbe
    obtain ⟨r, hr⟩ : ∃ r, min a b = r := ⟨_, rfl⟩
    simp only [hr] at hmn ⊢
    clear hr
    go_enter Try.func22, Try.ntmps22
    go_wp2_with fail
    refine (HR.out _).mono ?_
    rintro en w1 ⟨rfl, hb⟩
    obtain ⟨c0, c1, f0, f1, hz⟩ := box1 hb
    have hbw := fun u v => setbox_below (u := u) (v := v) hb
    have HC := Lib.hid (fun u v => set2_cells (u := u) (v := v) c0 c1)
    have HW := Lib.hid hbw
    clear hb hbw
    go_wp2_with fail
    refine (HN.out _).mono ?_
    rintro en w2 ⟨rfl, hb⟩
    have hk := bcell hb
    rw [setbox_size] at hk
    have g0 := (hk w.heap.size 0 hz).trans (HC.out _ _).1
    have g1 := (hk w.heap.size 1 hz).trans (HC.out _ _).2
    have HE := Lib.hid (baft (HW.out _ _) hb)
    clear hb hk c0 c1 f0 f1 HW HC
    rcases b1 with _ | _
    · go_wp2_with fail
      go_region_with (first
        | (go_at_call 57; with_reducible refine (HA.out _).mono ?_; rintro en w3 ⟨rfl, hw⟩; subst hw)
        | (go_at_call 57; with_reducible refine (HA'.out _).mono ?_; rintro en w3 ⟨rfl, hw⟩; subst hw))
      all_goals
        go_wp2
        go_ret
        exact ⟨rfl, HE.out.drew⟩
    · rcases b2 with _ | _
      · go_wp2_with fail
        go_region_with (first
          | (go_at_call 57; with_reducible refine (HA.out _).mono ?_; rintro en w3 ⟨rfl, hw⟩; subst hw)
          | (go_at_call 57; with_reducible refine (HA'.out _).mono ?_; rintro en w3 ⟨rfl, hw⟩; subst hw))
        all_goals
          go_wp2
          go_ret
          exact ⟨rfl, HE.out.drew⟩
      · go_wp2
        go_ret
        exact ⟨rfl, HE.out⟩
  · rw [if_neg hs]
    have hs' : fsound x y = false := by simpa using hs
    rw [hs'] at ha
    rw [ha] at HN
    clear ha hs hs' hmn HA HA' z1 z2
    obtain ⟨p, hp⟩ : ∃ p, flo x y = p := ⟨_, rfl⟩
    obtain ⟨q, hq⟩ : ∃ q, fhi x y = q := ⟨_, rfl⟩
    simp only [hp, hq] at HR HN
    clear hp hq hx hy
    go_enter Try.func22, Try.ntmps22
    go_wp2_with fail
    refine (HR.out _).mono ?_
    rintro en w1 ⟨rfl, hb⟩
    obtain ⟨c0, c1, f0, f1, hz⟩ := box1 hb
    have HW := Lib.hid (fun u v => setbox_below (u := u) (v := v) hb)
    clear hb
    go_wp2_with fail
    refine (HN.out _).mono ?_
    rintro en w2 ⟨rfl, hb⟩
    have HE := Lib.hid (baft (HW.out _ _) hb)
    clear hb
    go_wp2_with fail
    refine (nan_any _).mono ?_
    rintro en w3 ⟨rfl, rfl⟩
    go_wp2
    go_ret
    exact ⟨rfl, HE.out⟩
end Go.Proofs.Ytmmbbkeefphaiaa
