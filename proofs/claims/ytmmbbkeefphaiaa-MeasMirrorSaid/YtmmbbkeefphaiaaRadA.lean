/- Layer 8: the radius, by the program. -/
import Derived.Test.YtmmbbkeefphaiaaWidA
namespace Go.Proofs.Ytmmbbkeefphaiaa
set_option linter.unusedVariables false
set_option linter.unusedSimpArgs false
open Go.RowKit Verge

/-- A box of two cells. -/
def BI (w : World) (r : Nat) (a b : Value) : Prop := w.heap[r]? = some (.cells #[a, b] 24)
theorem BI.new (w : World) (a b : Value) : BI (w.alloc (.cells #[a, b] 24)) w.heap.size a b := by
  show (w.heap.push _)[w.heap.size]? = _
  simp
theorem BI.lt {w : World} {r : Nat} {a b : Value} (h : BI w r a b) : r < w.heap.size := by
  by_cases hr : r < w.heap.size
  · exact hr
  · unfold BI at h; rw [Array.getElem?_eq_none (by omega)] at h; cases h
theorem BI.later {w w' : World} {r : Nat} {a b : Value} (h : BI w r a b) (hb : Below w.heap.size w w') : BI w' r a b := (hb.block r h.lt).trans h
theorem BI.cells {w : World} {r : Nat} {a b : Value} (h : BI w r a b) : w.cell? ⟨r, 0, none⟩ = some a ∧ w.cell? ⟨r, 1, none⟩ = some b := by
  unfold BI at h
  refine ⟨?_, ?_⟩ <;> simp [World.cell?, h]
theorem rngN_ge {N D r : Nat} (hD : 0 < D) (h : FV r * D ≤ N) : r ≤ rngN N D := by
  have h1 := (div_FV hD).2 h
  unfold rngN; split <;> (try split) <;> (try split) <;> omega
/-- The sum of the ends is no negative number: the middle lies between. -/
theorem mid_pos {a b : Int} (ha : F a) (hb : F b) (hab : a ≤ b) (h0 : 0 ≤ a + b) {M : Nat} (hM : b.natAbs ≤ FV M) (hM2 : M < 9218868437227405312) :
    a ≤ (FV (rngN (a + b).natAbs 2) : Nat) ∧ ((FV (rngN (a + b).natAbs 2) : Nat) : Int) ≤ b ∧ rngN (a + b).natAbs 2 ≤ M := by
  have hb0 : 0 ≤ b := by omega
  obtain ⟨s, hs⟩ : ∃ s, FV s = b.natAbs := ⟨_, hb⟩
  have h1 : rngN (a + b).natAbs 2 ≤ s := rngN_le (by omega) (by omega)
  have h2 := FV_mono h1
  refine ⟨?_, by omega, ?_⟩
  · by_cases h : a ≤ 0
    · omega
    · obtain ⟨r, hr⟩ : ∃ s, FV s = a.natAbs := ⟨_, ha⟩
      have h3 : r ≤ rngN (a + b).natAbs 2 := rngN_ge (by omega) (by omega)
      have := FV_mono h3
      omega
  · exact rngN_le (by omega) (by omega)
theorem fv_fpat {s : Bool} {r : Nat} (h : r < 9218868437227405312) : fv (fpat s r) = (if s then -((FV r : Nat) : Int) else ((FV r : Nat) : Int)) ∧ ffin (fpat s r) ∧ fpat s r ≠ 9223372036854775808 := by
  by_cases h0 : r = 0
  · subst h0
    have : fpat s 0 = 0 := rfl
    rw [this]
    refine ⟨?_, ⟨by omega, by omega⟩, by omega⟩
    have : fv 0 = 0 := rfl
    rw [this]; cases s <;> rfl
  · have e : fpat s r = fword s r := by unfold fpat fword; rw [if_neg h0]
    rw [e]
    refine ⟨fv_word (by omega), ffin_word h, ?_⟩
    unfold fword; split <;> omega
/-- The middle of two finite ends: a number between them. -/
theorem midz_between {p q : Nat} (hp : ffin p) (hq : ffin q) (h : fv p ≤ fv q) : ffin (midz (fv p + fv q)) ∧ midz (fv p + fv q) ≠ 9223372036854775808 ∧ fv p ≤ fv (midz (fv p + fv q)) ∧ fv (midz (fv p + fv q)) ≤ fv q := by
  have fp := fv_F p
  have fq := fv_F q
  have bp : (fv p).natAbs ≤ FV 9218868437227405311 := by rw [fv_abs]; exact FV_mono (by have := hp.2; omega)
  have bq : (fv q).natAbs ≤ FV 9218868437227405311 := by rw [fv_abs]; exact FV_mono (by have := hq.2; omega)
  obtain ⟨a, ha⟩ : ∃ a, fv p = a := ⟨_, rfl⟩
  obtain ⟨b, hb⟩ : ∃ a, fv q = a := ⟨_, rfl⟩
  rw [ha] at fp bp h ⊢
  rw [hb] at fq bq h ⊢
  clear ha hb hp hq
  unfold midz
  by_cases h0 : a + b < 0
  · obtain ⟨h1, h2, h3⟩ := mid_pos (F_neg fq) (F_neg fp) (by omega) (show 0 ≤ -b + -a by omega) (M := 9218868437227405311) (by omega) (by omega)
    rw [show (-b + -a).natAbs = (a + b).natAbs by omega] at h1 h2 h3
    rw [decide_eq_true h0, Nat.min_eq_left (by omega)]
    obtain ⟨e1, e2, e3⟩ := fv_fpat (s := true) (r := rngN (a + b).natAbs 2) (by omega)
    rw [e1]
    exact ⟨e2, e3, by simp only [if_true]; omega, by simp only [if_true]; omega⟩
  · obtain ⟨h1, h2, h3⟩ := mid_pos fp fq h (show 0 ≤ a + b by omega) (M := 9218868437227405311) bq (by omega)
    rw [decide_eq_false h0, Nat.min_eq_left (by omega)]
    obtain ⟨e1, e2, e3⟩ := fv_fpat (s := false) (r := rngN (a + b).natAbs 2) (by omega)
    rw [e1]
    exact ⟨e2, e3, by simpa using h1, by simpa using h2⟩
/-- What was read reads as itself. -/
theorem Ends.again {p q : Nat} (h : Ends p q) : fsound p q = true ∧ flo p q = p ∧ fhi p q = q := by
  have hp := h.pts.1
  have hq := h.pts.2
  have r1 := FK_range hp.1 hp.2.1
  have r2 := FK_range hq.1 hq.2.1
  have s : fsound p q = true := by
    refine decide_eq_true ⟨hp.2.1, hq.2.1, h.2.2.2.2.2.2.1, ?_, ?_⟩
    · have := h.2.2.2.2.1
      rcases Int.lt_or_eq_of_le r1.2 with h' | h'
      · exact h'
      · exact absurd (FK_inj hp (q := 9218868437227405312) ⟨by omega, by decide, by omega⟩ (h'.trans (by decide))) this
    · have := h.2.2.2.2.2.1
      rcases Int.lt_or_eq_of_le r2.1 with h' | h'
      · exact h'
      · exact absurd (FK_inj hq (q := 18442240474082181120) ⟨by omega, by decide, by omega⟩ (h'.symm.trans (by decide))) this
  have z : ∀ {x : Nat}, x ≠ 9223372036854775808 → fz x = x := by
    intro x hx; unfold fz; split <;> omega
  exact ⟨s, by unfold flo; rw [if_pos s]; exact z hp.2.2, by unfold fhi; rw [if_pos s]; exact z hq.2.2⟩
theorem ends_again {x y : Nat} (hx : x < 18446744073709551616) (hy : y < 18446744073709551616) : fsound (flo x y) (fhi x y) = fsound x y ∧ flo (flo x y) (fhi x y) = flo x y ∧ fhi (flo x y) (fhi x y) = fhi x y := by
  cases hs : fsound x y
  · have e1 : flo x y = 9218868437227405312 := by unfold flo; rw [if_neg (by rw [hs]; simp)]
    have e2 : fhi x y = 18442240474082181120 := by unfold fhi; rw [if_neg (by rw [hs]; simp)]
    rw [e1, e2]
    decide
  · exact (ends_of hx hy hs).again
theorem fmid_again {x y : Nat} (hx : x < 18446744073709551616) (hy : y < 18446744073709551616) : fmid (flo x y) (fhi x y) = fmid x y := by
  obtain ⟨h1, h2, h3⟩ := ends_again hx hy
  unfold fmid
  rw [h1, h2, h3]
/-- The radius. -/
def prad (p q : Nat) : Nat := if pwild p q = true then 9218868437227405312 else upz (max (fv (pmid p q) - fv p) (fv q - fv (pmid p q)))
def frad (x y : Nat) : Nat := if fsound x y = true then prad (flo x y) (fhi x y) else 9221120237041090561
theorem pmid_fin {p q : Nat} (h : Ends p q) (hw : pwild p q = false) : ffin (pmid p q) ∧ pmid p q ≠ 9223372036854775808 ∧ fv p ≤ fv (pmid p q) ∧ fv (pmid p q) ≤ fv q := by
  have hf := h.fin hw
  unfold pwild at hw
  rw [Bool.or_eq_false_iff] at hw
  have e : pmid p q = midz (fv p + fv q) := by
    unfold pmid; rw [if_neg (of_decide_eq_false hw.1), if_neg (of_decide_eq_false hw.2)]
  rw [e]
  exact midz_between hf.1 hf.2 (fv_le h.1 h.2.1 h.2.2.2.2.2.2.1)
theorem upz_max {a b : Int} (ha : 0 ≤ a) (hb : 0 ≤ b) : max (upz a) (upz b) = upz (max a b) := by
  obtain ⟨m, rfl⟩ := Int.eq_ofNat_of_zero_le ha
  obtain ⟨n, rfl⟩ := Int.eq_ofNat_of_zero_le hb
  by_cases h : m ≤ n
  · have := upz_mono h
    rw [Nat.max_eq_right this, Int.max_eq_right (by omega)]
  · have := upz_mono (show n ≤ m by omega)
    rw [Nat.max_eq_left this, Int.max_eq_left (by omega)]
theorem prad_lt (p q : Nat) : prad p q < 18446744073709551616 := by unfold prad; split; omega; exact upz_lt _
theorem frad_lt (x y : Nat) : frad x y < 18446744073709551616 := by unfold frad; split; exact prad_lt _ _; omega

set_option maxRecDepth 20000 in
set_option maxHeartbeats 8000000 in
theorem midrad_any (x y : Nat) (hx : x < 18446744073709551616) (hy : y < 18446744073709551616) (w : World) : Calls Try.prog 40 #[.agg #[.float .f64 x, .float .f64 y]] w fun e w' => e = .returned (.tuple #[.float .f64 (fmid x y), .float .f64 (frad x y)]) ∧ Below w.heap.size w w' := by
  have HR := Lib.hid (fun W => read_any x y hx hy W)
  have HN := Lib.hid (fun W => none_any (flo x y) (fhi x y) (flo_lt hx) (fhi_lt hy) W)
  have HI := Lib.hid (fun W => infinite_any (flo x y) (fhi x y) (flo_lt hx) (fhi_lt hy) W)
  have HM := Lib.hid (fun W => mid_any (flo x y) (fhi x y) (flo_lt hx) (fhi_lt hy) W)
  rw [fmid_again hx hy] at HM
  have HP := Lib.hid (fun W => infp_any W)
  have hsf := store_f
  have ha := above_sound hx hy
  rw [ha] at HN
  have hE : Hid (fsound x y = true → Ends (flo x y) (fhi x y) ∧ fmid x y = pmid (flo x y) (fhi x y)) := Lib.hid (fun h => ⟨ends_of hx hy h, by unfold fmid; rw [if_pos h]⟩)
  clear ha hx hy
  have hRd : frad x y = if fsound x y = true then prad (flo x y) (fhi x y) else 9221120237041090561 := rfl
  obtain ⟨s, hs⟩ : ∃ s, fsound x y = s := ⟨_, rfl⟩
  obtain ⟨p, hp⟩ : ∃ p, flo x y = p := ⟨_, rfl⟩
  obtain ⟨q, hq⟩ : ∃ q, fhi x y = q := ⟨_, rfl⟩
  obtain ⟨m, hm⟩ : ∃ q, fmid x y = q := ⟨_, rfl⟩
  obtain ⟨R, hR⟩ : ∃ q, frad x y = q := ⟨_, rfl⟩
  rw [hs] at HN hE hRd
  simp only [hp, hq, hm, hR] at HR HN HI HM hE hRd ⊢
  have HRR := Lib.hid hRd
  clear hp hq hm hs hR hRd
  go_enter Try.func40, Try.ntmps40
  go_wp2_with fail
  refine (HR.out _).mono ?_
  rintro en w1 ⟨rfl, hb⟩
  obtain ⟨c0, c1, f0, f1, hz⟩ := box1 hb
  have hbw := fun u v => setbox_below (u := u) (v := v) hb
  have HC := Lib.hid (fun u v => set2_cells (u := u) (v := v) c0 c1)
  have HW := Lib.hid hbw
  clear hb hbw
  go_wp2_with fail
  refine (HM.out _).mono ?_
  rintro en w2 ⟨rfl, hb⟩
  have hk := bcell hb
  rw [setbox_size] at hk
  have g0 := (hk w.heap.size 0 hz).trans (HC.out _ _).1
  have g1 := (hk w.heap.size 1 hz).trans (HC.out _ _).2
  have HE := Lib.hid (baft (HW.out _ _) hb)
  have hz2 : w.heap.size < w2.heap.size := by have := hb.size; rw [setbox_size] at this; omega
  clear hb hk c0 c1 f0 f1 HW HC hz
  go_wp2_with fail
  refine (HN.out _).mono ?_
  rintro en w3 ⟨rfl, hb⟩
  have HE3 := Lib.hid (baft HE.out hb)
  have hk := bcell hb
  have k0 := (hk w.heap.size 0 hz2).trans g0
  have k1 := (hk w.heap.size 1 hz2).trans g1
  have hz3 : w.heap.size < w3.heap.size := by have := hb.size; omega
  clear hb hk g0 g1 hz2 HE
  cases s
  · have hR : R = 9221120237041090561 := by rw [HRR.out]; rfl
    subst hR
    clear HRR hE
    go_wp2_with fail
    refine (nan_any _).mono ?_
    rintro en w4 ⟨rfl, rfl⟩
    go_wp2
    go_ret2
    exact ⟨rfl, HE3.out⟩
  · have HH := Lib.hid (hE.out rfl)
    have HRp : Hid (R = prad p q) := Lib.hid (by rw [HRR.out]; rfl)
    go_wp2_with fail
    refine (HI.out _).mono ?_
    rintro en w4 ⟨rfl, hb⟩
    have HE4 := Lib.hid (baft HE3.out hb)
    have hk := bcell hb
    have j0 := (hk w.heap.size 0 hz3).trans k0
    have j1 := (hk w.heap.size 1 hz3).trans k1
    have hz4 : w.heap.size < w4.heap.size := by have := hb.size; omega
    clear hb hk k0 k1 hz3 HE3 HRR hE
    cases hw : pwild p q
    · obtain ⟨he, hme⟩ := HH.out
      have hR := HRp.out
      obtain ⟨m1, m2, m3, m4⟩ := pmid_fin he hw
      have hf := he.fin hw
      rw [← hme] at m1 m2 m3 m4
      have HS1 := Lib.hid (fun W => sub_is m p (.inl ⟨m1, hf.1⟩) W)
      have HS2 := Lib.hid (fun W => sub_is q m (.inl ⟨hf.2, m1⟩) W)
      rw [fsub_fin m1 hf.1] at HS1
      rw [fsub_fin hf.2 m1] at HS2
      have l1 := upz_nonneg (P := fv m - fv p) (by omega)
      have l2 := upz_nonneg (P := fv q - fv m) (by omega)
      have hmx := fun ts t W => fmax_any l1 l2 ts t W
      have hR2 : max (upz (fv m - fv p)) (upz (fv q - fv m)) = R := by
        rw [hR, upz_max (by omega) (by omega)]; unfold prad; rw [if_neg (by rw [hw]; simp), ← hme]
      rw [hR2] at hmx
      obtain ⟨a1, ha1⟩ : ∃ a, upz (fv m - fv p) = a := ⟨_, rfl⟩
      obtain ⟨a2, ha2⟩ : ∃ a, upz (fv q - fv m) = a := ⟨_, rfl⟩
      simp only [ha1, ha2] at HS1 HS2 hmx
      have HC := Lib.hid (bcell (Below.refl w4.heap.size w4))
      have J0 := Lib.hid j0; have J1 := Lib.hid j1; have HZ4 := Lib.hid hz4
      clear m1 m2 m3 m4 hf l1 l2 hR2 ha1 ha2 hR he hme hw j0 j1 hz4 HH HRp
      go_upto_region 7 with fail
      refine region_at 12 (Pick [IsV (.float .f64 m), IsV (.float .f64 m), IsV (.pointer (some ⟨w.heap.size, 0, none⟩)), IsV (.float .f64 p), IsV (.float .f64 a1), IsV (.pointer (some ⟨w.heap.size, 1, none⟩)), IsV (.float .f64 q), IsV (.float .f64 m), IsV (.float .f64 a2), IsV (.float .f64 R), IsV (.float .f64 m), IsV (.float .f64 R)]) (by kernel_rfl) (by kernel_rfl) (by kernel_rfl) (mono_pick ⟨IsV.mono _, IsV.mono _, IsV.mono _, IsV.mono _, IsV.mono _, IsV.mono _, IsV.mono _, IsV.mono _, IsV.mono _, IsV.mono _, IsV.mono _, IsV.mono _, trivial⟩) ⟨?_, ?_, ?_, ?_, ?_, ?_, ?_, ?_, ?_, ?_, ?_, ?_, trivial⟩ ?_
      · intro a W hsz hb hS
        have h2 : a.tmps.getD 2 undef = .float .f64 m := hS.1
        clear hS hsz
        refine will_of rfl ?_
        intro K hK
        go_simp
        exact hK _ _ ⟨Below.refl _ _, rfl⟩
      · intro a W hsz hb hS
        have h2 : a.tmps.getD 2 undef = .float .f64 m := hS.1
        clear hS hsz
        refine will_of rfl ?_
        intro K hK
        go_simp
        exact hK _ _ ⟨Below.refl _ _, rfl⟩
      · intro a W hsz hb hS
        have h1 : a.tmps.getD 1 undef = .pointer (some ⟨w.heap.size, 0, none⟩) := hS.1
        clear hS hsz
        refine will_of rfl ?_
        intro K hK
        go_simp
        exact hK _ _ ⟨Below.refl _ _, rfl⟩
      · intro a W hsz hb hS
        have h18 : a.tmps.getD 18 undef = .pointer (some ⟨w.heap.size, 0, none⟩) := hS.1
        clear hS hsz
        refine will_of rfl ?_
        have d0 := (bcell hb w.heap.size 0 HZ4.out).trans J0.out
        have d1 := (bcell hb w.heap.size 1 HZ4.out).trans J1.out
        intro K hK
        go_simp
        exact hK _ _ ⟨Below.refl _ _, rfl⟩
      · intro a W hsz hb hS
        have h17 : a.tmps.getD 17 undef = .float .f64 m := hS.1
        have h19 : a.tmps.getD 19 undef = .float .f64 p := hS.2.1
        clear hS hsz
        refine will_of rfl ?_
        have d0 := (bcell hb w.heap.size 0 HZ4.out).trans J0.out
        have d1 := (bcell hb w.heap.size 1 HZ4.out).trans J1.out
        intro K hK
        go_simp
        refine (HS1.out _).mono ?_
        rintro e W' ⟨_, rfl, rfl, hb'⟩
        exact hK _ _ ⟨hb', rfl⟩
      · intro a W hsz hb hS
        have h1 : a.tmps.getD 1 undef = .pointer (some ⟨w.heap.size, 0, none⟩) := hS.1
        clear hS hsz
        refine will_of rfl ?_
        intro K hK
        go_simp
        exact hK _ _ ⟨Below.refl _ _, rfl⟩
      · intro a W hsz hb hS
        have h21 : a.tmps.getD 21 undef = .pointer (some ⟨w.heap.size, 1, none⟩) := hS.1
        clear hS hsz
        refine will_of rfl ?_
        have d0 := (bcell hb w.heap.size 0 HZ4.out).trans J0.out
        have d1 := (bcell hb w.heap.size 1 HZ4.out).trans J1.out
        intro K hK
        go_simp
        exact hK _ _ ⟨Below.refl _ _, rfl⟩
      · intro a W hsz hb hS
        have h2 : a.tmps.getD 2 undef = .float .f64 m := hS.1
        clear hS hsz
        refine will_of rfl ?_
        intro K hK
        go_simp
        exact hK _ _ ⟨Below.refl _ _, rfl⟩
      · intro a W hsz hb hS
        have h22 : a.tmps.getD 22 undef = .float .f64 q := hS.1
        have h23 : a.tmps.getD 23 undef = .float .f64 m := hS.2.1
        clear hS hsz
        refine will_of rfl ?_
        have d0 := (bcell hb w.heap.size 0 HZ4.out).trans J0.out
        have d1 := (bcell hb w.heap.size 1 HZ4.out).trans J1.out
        intro K hK
        go_simp
        refine (HS2.out _).mono ?_
        rintro e W' ⟨_, rfl, rfl, hb'⟩
        exact hK _ _ ⟨hb', rfl⟩
      · intro a W hsz hb hS
        have h20 : a.tmps.getD 20 undef = .float .f64 a1 := hS.1
        have h24 : a.tmps.getD 24 undef = .float .f64 a2 := hS.2.1
        clear hS hsz
        refine will_of rfl ?_
        have d0 := (bcell hb w.heap.size 0 HZ4.out).trans J0.out
        have d1 := (bcell hb w.heap.size 1 HZ4.out).trans J1.out
        intro K hK
        go_simp
        exact hK _ _ ⟨Below.refl _ _, rfl⟩
      · intro a W hsz hb hS
        have h16 : a.tmps.getD 16 undef = .float .f64 m := hS.1
        clear hS hsz
        refine will_of rfl ?_
        intro K hK
        go_simp
        exact hK _ _ ⟨Below.refl _ _, rfl⟩
      · intro a W hsz hb hS
        have h25 : a.tmps.getD 25 undef = .float .f64 R := hS.1
        clear hS hsz
        refine will_of rfl ?_
        intro K hK
        go_simp
        exact hK _ _ ⟨Below.refl _ _, rfl⟩
      intro f W hb hH
      have e0 : f 0 = .float .f64 m := hH.1
      have e1 : f 1 = .float .f64 m := hH.2.1
      have e2 : f 2 = .pointer (some ⟨w.heap.size, 0, none⟩) := hH.2.2.1
      have e3 : f 3 = .float .f64 p := hH.2.2.2.1
      have e4 : f 4 = .float .f64 a1 := hH.2.2.2.2.1
      have e5 : f 5 = .pointer (some ⟨w.heap.size, 1, none⟩) := hH.2.2.2.2.2.1
      have e6 : f 6 = .float .f64 q := hH.2.2.2.2.2.2.1
      have e7 : f 7 = .float .f64 m := hH.2.2.2.2.2.2.2.1
      have e8 : f 8 = .float .f64 a2 := hH.2.2.2.2.2.2.2.2.1
      have e9 : f 9 = .float .f64 R := hH.2.2.2.2.2.2.2.2.2.1
      have e10 : f 10 = .float .f64 m := hH.2.2.2.2.2.2.2.2.2.2.1
      have e11 : f 11 = .float .f64 R := hH.2.2.2.2.2.2.2.2.2.2.2.1
      simp only [List.take_succ_cons, List.take_zero, List.drop_succ_cons, List.drop_zero, putFrom, Act.put, List.setIfInBounds_toArray, List.set_cons_zero, List.set_cons_succ, Nat.reduceAdd, e0, e1, e2, e3, e4, e5, e6, e7, e8, e9, e10, e11]
      clear e0 e1 e2 e3 e4 e5 e6 e7 e8 e9 e10 e11 hH f
      have HW := Lib.hid (baft HE4.out hb)
      clear hb
      go_wp2
      go_ret2
      exact ⟨rfl, HW.out⟩
    · have hR2 : R = 9218868437227405312 := by rw [HRp.out]; unfold prad; rw [if_pos hw]
      clear HRp HH hw j0 j1 hz4
      subst hR2
      go_wp2_with fail
      refine (HP.out _).mono ?_
      rintro en w5 ⟨rfl, rfl⟩
      go_wp2
      go_ret2
      exact ⟨rfl, HE4.out⟩
theorem rad_any (x y : Nat) (hx : x < 18446744073709551616) (hy : y < 18446744073709551616) (w : World) : Calls Try.prog 41 #[.agg #[.float .f64 x, .float .f64 y]] w fun e w' => e = .returned (.float .f64 (frad x y)) ∧ Below w.heap.size w w' := by
  have HM := Lib.hid (fun W => midrad_any x y hx hy W)
  have HB := Lib.hid (fun o => bnew w o)
  obtain ⟨m, hm⟩ : ∃ q, fmid x y = q := ⟨_, rfl⟩
  obtain ⟨R, hR⟩ : ∃ q, frad x y = q := ⟨_, rfl⟩
  rw [hm, hR] at HM
  rw [hR]
  clear hm hR hx hy
  go_enter Try.func41, Try.ntmps41
  go_wp2_with fail
  refine (HM.out _).mono ?_
  rintro en w1 ⟨rfl, hb⟩
  have HW := Lib.hid (baft (HB.out _) hb)
  clear hb
  go_wp2
  go_ret
  exact ⟨rfl, HW.out⟩
end Go.Proofs.Ytmmbbkeefphaiaa
