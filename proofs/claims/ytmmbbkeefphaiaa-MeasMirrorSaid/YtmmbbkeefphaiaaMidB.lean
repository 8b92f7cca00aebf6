/- Law 8: the middle: the program's Mid, walked. -/
import Derived.Test.YtmmbbkeefphaiaaMidA
import Derived.Test.YtmmbbkeefphaiaaMagB
namespace Go.Proofs.Ytmmbbkeefphaiaa
set_option linter.unusedVariables false
set_option linter.unusedSimpArgs false
open Go.RowKit Verge

def pmid (p q : Nat) : Nat := if p = 18442240474082181120 then (if q = 9218868437227405312 then 0 else 18442240474082181119) else if q = 9218868437227405312 then 9218868437227405311 else midz (fv p + fv q)
def fmid (x y : Nat) : Nat := if fsound x y = true then pmid (flo x y) (fhi x y) else 9221120237041090561
theorem fhi_ne {x y : Nat} (hy : y < 18446744073709551616) (hs : fsound x y = true) : fhi x y ≠ 18442240474082181120 := by
  have h := of_decide_eq_true hs
  intro he
  have hk : FK (fhi x y) = FK y := by unfold fhi; rw [if_pos hs, FK_fz hy]
  rw [he] at hk
  have : FK 18442240474082181120 = -9218868437227405312 := by decide
  omega
theorem fin_of {p : Nat} (hp : p < 18446744073709551616) (n : ¬ fnan p) (h1 : p ≠ 9218868437227405312) (h2 : p ≠ 18442240474082181120) : ffin p := by
  unfold fnan at n; unfold ffin; omega
theorem pmid_lt (p q : Nat) : pmid p q < 18446744073709551616 := by
  unfold pmid; split
  · split <;> omega
  · split
    · omega
    · exact midz_lt _
theorem fmid_lt (x y : Nat) : fmid x y < 18446744073709551616 := by
  unfold fmid; split
  · exact pmid_lt _ _
  · omega

set_option maxRecDepth 20000 in
set_option maxHeartbeats 8000000 in
theorem mid_any (x y : Nat) (hx : x < 18446744073709551616) (hy : y < 18446744073709551616) (w : World) : Calls Try.prog 33 #[.agg #[.float .f64 x, .float .f64 y]] w fun e w' => e = .returned (.float .f64 (fmid x y)) ∧ Below w.heap.size w w' := by
  have HR := Lib.hid (fun W => read_any x y hx hy W)
  have HN := Lib.hid (fun W => none_any (flo x y) (fhi x y) (flo_lt hx) (fhi_lt hy) W)
  have hsf := store_f
  have ha := above_sound hx hy
  unfold fmid
  by_cases hs : fsound x y = true
  · rw [if_pos hs]
    rw [hs] at ha
    rw [ha] at HN
    have n1 := flo_ne hx hs
    have n2 := fhi_ne hy hs
    have m1 : ¬ fnan (flo x y) := fnan_flo
    have m2 : ¬ fnan (fhi x y) := fnan_fhi
    have l1 := flo_lt (y := y) hx
    have l2 := fhi_lt (x := x) hy
    clear ha hs
    obtain ⟨p, hp⟩ : ∃ p, flo x y = p := ⟨_, rfl⟩
    obtain ⟨q, hq⟩ : ∃ q, fhi x y = q := ⟨_, rfl⟩
    simp only [hp, hq] at HR HN n1 n2 m1 m2 l1 l2 ⊢
    clear hp hq hx hy
    have HP := Lib.hid (fun W => isinf_m p l1 W)
    have HQ := Lib.hid (fun W => isinf_p q l2 W)
    obtain ⟨R, hR⟩ : ∃ R, pmid p q = R := ⟨_, rfl⟩
    rw [hR]
    have HS := Lib.hid hR
    clear hR
    have HF := Lib.hid (And.intro n1 (And.intro n2 (And.intro m1 (And.intro m2 (And.intro l1 l2)))))
    clear n1 n2 m1 m2 l1 l2
    go_enter Try.func33, Try.ntmps33
    go_wp2_with fail
    refine (HR.out _).mono ?_
    rintro en w1 ⟨rfl, hb⟩
    obtain ⟨c0, c1, f0, f1, hz⟩ := box1 hb
    have hbw := fun u v => setbox_below (u := u) (v := v) hb
    have HC := Lib.hid (fun u v => set2_cells (u := u) (v := v) c0 c1)
    have HW := Lib.hid hbw
    clear hb hbw
    go_wp2_with fail
    refine (HN.out _).mono ?_
    rintro en w2 ⟨rfl, hb⟩
    have hk := bcell hb
    rw [setbox_size] at hk
    have g0 := (hk w.heap.size 0 hz).trans (HC.out _ _).1
    have g1 := (hk w.heap.size 1 hz).trans (HC.out _ _).2
    have HE := Lib.hid (baft (HW.out _ _) hb)
    clear hb hk c0 c1 f0 f1 HW HC
    by_cases hpm : p = 18442240474082181120
    · rw [decide_eq_true hpm] at HP
      by_cases hqi : q = 9218868437227405312
      · have hz : R = 0 := by rw [← HS.out]; unfold pmid; rw [if_pos hpm, if_pos hqi]
        subst hz
        clear HS
        rw [decide_eq_true hqi] at HQ
        clear hpm hqi
        go_wp2_with fail
        refine (HP.out _).mono ?_
        rintro en w3 ⟨rfl, rfl⟩
        go_wp2_with fail
        refine (HQ.out _).mono ?_
        rintro en w3 ⟨rfl, rfl⟩
        go_wp2
        go_ret
        exact ⟨rfl, HE.out⟩
      · have hz : R = 18442240474082181119 := by rw [← HS.out]; unfold pmid; rw [if_pos hpm, if_neg hqi]
        subst hz
        clear HS
        rw [decide_eq_false hqi] at HQ
        clear hpm hqi
        go_wp2_with fail
        refine (HP.out _).mono ?_
        rintro en w3 ⟨rfl, rfl⟩
        go_wp2_with fail
        refine (HQ.out _).mono ?_
        rintro en w3 ⟨rfl, rfl⟩
        go_wp2_with fail
        refine (HP.out _).mono ?_
        rintro en w3 ⟨rfl, rfl⟩
        go_wp2
        go_ret
        exact ⟨rfl, HE.out⟩
    · rw [decide_eq_false hpm] at HP
      by_cases hqi : q = 9218868437227405312
      · have hz : R = 9218868437227405311 := by rw [← HS.out]; unfold pmid; rw [if_neg hpm, if_pos hqi]
        subst hz
        clear HS
        rw [decide_eq_true hqi] at HQ
        clear hpm hqi
        go_wp2_with fail
        refine (HP.out _).mono ?_
        rintro en w3 ⟨rfl, rfl⟩
        go_wp2_with fail
        refine (HP.out _).mono ?_
        rintro en w3 ⟨rfl, rfl⟩
        go_wp2_with fail
        refine (HQ.out _).mono ?_
        rintro en w3 ⟨rfl, rfl⟩
        go_wp2
        go_ret
        exact ⟨rfl, HE.out⟩
      · have hz : R = midz (fv p + fv q) := by rw [← HS.out]; unfold pmid; rw [if_neg hpm, if_neg hqi]
        clear HS
        rw [decide_eq_false hqi] at HQ
        have fp : ffin p := fin_of HF.out.2.2.2.2.1 HF.out.2.2.1 HF.out.1 hpm
        have fq : ffin q := fin_of HF.out.2.2.2.2.2 HF.out.2.2.2.1 hqi HF.out.2.1
        clear hpm hqi HF
        by_cases hov : rngN (fv p + fv q).natAbs 1 < 9218868437227405312
        · obtain ⟨s, h, e1, e2, e3, e4, e5⟩ := mid_quick fp fq hov
          have hadd : ∀ t w, (binOp .add t (.float .f64 p) (.float .f64 q)).run Try.prog w = .ok (.float .f64 s) w := fun t w => run_float_arith w .add t .f64 p q s e1
          have hdiv : ∀ t w, (binOp .quo t (.float .f64 s) (.float .f64 4611686018427387904)).run Try.prog w = .ok (.float .f64 h) w := fun t w => run_float_arith w .quo t .f64 s 4611686018427387904 h e3
          have HI := Lib.hid (fun W => isinf_0 s e2.1 W)
          have hfa : decide (fabs s = 9218868437227405312) = false := decide_eq_false (by unfold fabs; have := e2.2; omega)
          rw [hfa] at HI
          have HPl := Lib.hid (fun W => plainf_any h e4 W)
          rw [e5, ← hz] at HPl
          clear hz e1 e2 e3 e4 e5 hfa hov fp fq
          go_wp2_with fail
          refine (HP.out _).mono ?_
          rintro en w3 ⟨rfl, rfl⟩
          go_wp2_with fail
          refine (HP.out _).mono ?_
          rintro en w3 ⟨rfl, rfl⟩
          go_wp2_with fail
          refine (HQ.out _).mono ?_
          rintro en w3 ⟨rfl, rfl⟩
          go_wp2_with fail
          refine (HI.out _).mono ?_
          rintro en w3 ⟨rfl, rfl⟩
          go_wp2_with fail
          refine (HPl.out _).mono ?_
          rintro en w3 ⟨rfl, rfl⟩
          go_wp2
          go_ret
          exact ⟨rfl, HE.out⟩
        · obtain ⟨s, a, b, e1, e2, e3, e4, e5, e6⟩ := mid_slow fp fq hov
          have hadd : ∀ t w, (binOp .add t (.float .f64 p) (.float .f64 q)).run Try.prog w = .ok (.float .f64 s) w := fun t w => run_float_arith w .add t .f64 p q s e1
          have hdiv : ∀ t w, (binOp .quo t (.float .f64 p) (.float .f64 4611686018427387904)).run Try.prog w = .ok (.float .f64 a) w := fun t w => run_float_arith w .quo t .f64 p 4611686018427387904 a e4
          have hdiv2 : ∀ t w, (binOp .quo t (.float .f64 q) (.float .f64 4611686018427387904)).run Try.prog w = .ok (.float .f64 b) w := fun t w => run_float_arith w .quo t .f64 q 4611686018427387904 b e5
          rw [← hz] at e6
          have hadd2 : ∀ t w, (binOp .add t (.float .f64 a) (.float .f64 b)).run Try.prog w = .ok (.float .f64 R) w := fun t w => run_float_arith w .add t .f64 a b R e6
          have HI := Lib.hid (fun W => isinf_0 s e2 W)
          have hfa : decide (fabs s = 9218868437227405312) = true := decide_eq_true e3
          rw [hfa] at HI
          clear hz e1 e2 e3 e4 e5 e6 hfa hov fp fq
          go_wp2_with fail
          refine (HP.out _).mono ?_
          rintro en w3 ⟨rfl, rfl⟩
          go_wp2_with fail
          refine (HP.out _).mono ?_
          rintro en w3 ⟨rfl, rfl⟩
          go_wp2_with fail
          refine (HQ.out _).mono ?_
          rintro en w3 ⟨rfl, rfl⟩
          go_wp2_with fail
          refine (HI.out _).mono ?_
          rintro en w3 ⟨rfl, rfl⟩
          go_wp2
          go_ret
          exact ⟨rfl, HE.out⟩
  · rw [if_neg hs]
    have hs' : fsound x y = false := by simpa using hs
    rw [hs'] at ha
    rw [ha] at HN
    clear ha hs hs'
    obtain ⟨p, hp⟩ : ∃ p, flo x y = p := ⟨_, rfl⟩
    obtain ⟨q, hq⟩ : ∃ q, fhi x y = q := ⟨_, rfl⟩
    simp only [hp, hq] at HR HN
    clear hp hq hx hy
    go_enter Try.func33, Try.ntmps33
    go_wp2_with fail
    refine (HR.out _).mono ?_
    rintro en w1 ⟨rfl, hb⟩
    obtain ⟨c0, c1, f0, f1, hz⟩ := box1 hb
    have HW := Lib.hid (fun u v => setbox_below (u := u) (v := v) hb)
    clear hb
    go_wp2_with fail
    refine (HN.out _).mono ?_
    rintro en w2 ⟨rfl, hb⟩
    have HE := Lib.hid (baft (HW.out _ _) hb)
    clear hb
    go_wp2_with fail
    refine (nan_any _).mono ?_
    rintro en w3 ⟨rfl, rfl⟩
    go_wp2
    go_ret
    exact ⟨rfl, HE.out⟩
end Go.Proofs.Ytmmbbkeefphaiaa
