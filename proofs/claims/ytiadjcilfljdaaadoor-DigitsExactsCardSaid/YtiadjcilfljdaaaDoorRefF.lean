/- The document's own naturals: sub, guess. -/
import Derived.Test.YtiadjcilfljdaaaDoorRefE
import Derived.Test.YtiadjcilfljdaaaDoorPlainL
namespace Go.Proofs.YtiadjcilfljdaaaDoor
set_option linter.unusedVariables false
set_option linter.unusedSimpArgs false
open Go.RowKit Verge

theorem rgrown_refl (w : World) (row : Option Nat) : w.grownBy w row := ⟨rfl, rfl, rfl, Nat.le_refl _, fun _ _ _ => rfl⟩
theorem rgrown_set {w w' : World} {g : Nat} (h : w.grownBy w' (some g)) (i : Nat) (u : Value) : w.grownBy (w'.setCell ⟨g, i, none⟩ u) (some g) :=
  ⟨h.os, h.tape, h.output, by simpa using h.size, fun k hk hne => by
    rw [← h.block k hk hne]
    exact Below.heap_setCell w' ⟨g, i, none⟩ u k (fun e => hne (by rw [e]))⟩

set_option maxHeartbeats 2000000 in
/-- sub: x times Y is taken from R, where it stands. -/
theorem rsub_any (g nr cr : Nat) (R : List Nat) (B : Option Addr) (nb cb : Nat) (Y : List Nat) (x : Nat) (w : World)
    (hR : Blk w g R) (hl : R.length = nr) (hY : ∀ w', w.grownBy w' (some g) → Rd w' B Y) (hn : Y.length = nb) (hle : nb ≤ nr) (hx : x < 4294967296) (hv : x * val Y ≤ val R) (hm : nr ≤ 35184372088800) :
    Calls Tryd.prog 100 #[.slice (some ⟨g, 0, none⟩) nr cr, .slice B nb cb, .int .u64 (x : Int)] w fun e w' => e = .returned (.tuple #[]) ∧
      ∃ R', w.grownBy w' (some g) ∧ Blk w' g R' ∧ R'.length = nr ∧ val R' + x * val Y = val R := by
  have HY := Lib.hid hY
  have HR := Lib.hid (And.intro hR (And.intro hl (And.intro hn hv)))
  have hY32 := (hY w (rgrown_refl _ _)).1
  have HW := Lib.hid hY32
  clear hR hl hY hn hv hY32
  go_enter Tryd.func100, Tryd.ntmps100
  go_wp2
  go_loopw [6, 7, 8, 9, 10] (fun cv bv iv _ _ wr => ∃ (i cc bb : Nat) (R' : List Nat), i ≤ nr ∧ iv = .int .i64 i ∧ cv = .int .u64 cc ∧ bv = .int .u64 bb ∧ cc < 4294967296 ∧ bb ≤ 1 ∧ Blk wr g R' ∧
    Hid (R'.length = R.length ∧ val (R'.take i) + x * val (Y.take i) = val (R.take i) + (bb + cc) * 4294967296 ^ i ∧ R'.drop i = R.drop i) ∧ w.grownBy wr (some g)) (fun _ _ iv _ _ _ => nr - (intOf iv).toNat)
  case atStart => exact ⟨0, 0, 0, R, by omega, rfl, rfl, rfl, by omega, by omega, HR.out.1, ⟨rfl, by simp, rfl⟩, rgrown_refl _ _⟩
  case round =>
    obtain ⟨i, cc, bb, R', hi, rfl, rfl, rfl, hcc, hbb, hR', hI, hG⟩ := hrel
    by_cases hin : i < nr
    · have hcl := hR'.cell (i := i) (by have := hI.out.1; have := HR.out.2.1; omega)
      have hfz := hR'.frozen i
      have hu32 := hR'.1.getD i
      have hy32 := HW.out.getD i
      have hstep := fun s t' (hs : s + x * Y.getD i 0 + (bb + cc) = R'.getD i 0 + 4294967296 * t') =>
        rsub_step R R' Y i x (bb + cc) s t' (by have := hI.out.1; have := HR.out.2.1; omega) hI.out.1 hI.out.2.2 hI.out.2.1 hs
      have hc2 := fun (hin : i < nb) => (HY.out _ hG).cell (k := i) (by rw [HR.out.2.2.1]; exact hin)
      have hz2 := fun (hin : nb ≤ i) => getD_ge Y (k := i) (by rw [HR.out.2.2.1]; exact hin)
      obtain ⟨u, hgu⟩ : ∃ u, R'.getD i 0 = u := ⟨_, rfl⟩
      obtain ⟨y, hgy⟩ : ∃ y, Y.getD i 0 = y := ⟨_, rfl⟩
      rw [hgu] at hcl hu32 hstep
      rw [hgy] at hy32 hstep hc2 hz2
      have hmul : y * x ≤ 4294967295 * 4294967295 := Nat.mul_le_mul (by omega) (by omega)
      obtain ⟨q, hq⟩ : ∃ q, y * x = q := ⟨_, rfl⟩
      have hqI : (y : Int) * (x : Int) = (q : Int) := by rw [← hq]; simp
      rw [Nat.mul_comm x y, hq] at hstep
      rw [hq] at hmul
      have hq0 : y = 0 → q = 0 := fun e => by rw [← hq, e, Nat.zero_mul]
      obtain ⟨p, hp⟩ : ∃ p, cc + q = p := ⟨_, rfl⟩
      have hmk := mask64 p (by omega)
      have hmk' : Go.bits .and .u64 (p : Int) 4294967295 = (p : Int) % 4294967296 := by rw [hmk]; omega
      have hpI : (cc : Int) + (q : Int) = (p : Int) := by omega
      have hpb : p < 18446744073709551616 := by omega
      have HS := Lib.hid (And.intro hstep hp)
      have hc2 := Lib.hid hc2
      have hz2 := Lib.hid hz2
      have HQ0 := Lib.hid hq0
      clear hgu hgy hstep hmk hq hp hq0
      by_cases hin' : i < nb
      · obtain ⟨b', o', rfl, hcy⟩ := hc2.out hin'
        by_cases hxy : u < p % 4294967296 + bb
        · have hs := HS.out.1 (u + 4294967296 - (p % 4294967296 + bb)) (p / 4294967296 + 1) (by have := HS.out.2; omega)
          have HST := Lib.hid hs
          clear hs
          go_wp2
          go_roundw
          case rel =>
            obtain ⟨h1, h2⟩ := HST.out
            exact ⟨i + 1, p / 4294967296, 1, R'.set i (u + 4294967296 - (p % 4294967296 + bb)), by omega, by go_num, by congr 1 <;> omega, rfl, by omega, by omega, hR'.setI i (by omega) (by omega) (by omega),
              ⟨by rw [List.length_set]; exact hI.out.1, by rw [Nat.add_comm 1]; exact h1, h2⟩, rgrown_set hG _ _⟩
          case measure => simp [intOf]; omega
        · have hs := HS.out.1 (u - (p % 4294967296 + bb)) (p / 4294967296 + 0) (by have := HS.out.2; omega)
          have HST := Lib.hid hs
          clear hs
          go_wp2
          go_roundw
          case rel =>
            obtain ⟨h1, h2⟩ := HST.out
            exact ⟨i + 1, p / 4294967296, 0, R'.set i (u - (p % 4294967296 + bb)), by omega, by go_num, by congr 1 <;> omega, rfl, by omega, by omega, hR'.setI i (by omega) (by omega) (by omega),
              ⟨by rw [List.length_set]; exact hI.out.1, by rw [Nat.add_comm 0]; exact h1, h2⟩, rgrown_set hG _ _⟩
          case measure => simp [intOf]; omega
      · obtain rfl : y = 0 := hz2.out (by omega)
        have hq00 := HQ0.out rfl
        have hpc : p = cc := by have := HS.out.2; omega
        subst hpc
        by_cases hxy : u < p % 4294967296 + bb
        · have hs := HS.out.1 (u + 4294967296 - (p % 4294967296 + bb)) (p / 4294967296 + 1) (by have := HS.out.2; omega)
          have HST := Lib.hid hs
          clear hs
          go_wp2
          go_roundw
          case rel =>
            obtain ⟨h1, h2⟩ := HST.out
            exact ⟨i + 1, p / 4294967296, 1, R'.set i (u + 4294967296 - (p % 4294967296 + bb)), by omega, by go_num, by congr 1 <;> omega, rfl, by omega, by omega, hR'.setI i (by omega) (by omega) (by omega),
              ⟨by rw [List.length_set]; exact hI.out.1, by rw [Nat.add_comm 1]; exact h1, h2⟩, rgrown_set hG _ _⟩
          case measure => simp [intOf]; omega
        · have hs := HS.out.1 (u - (p % 4294967296 + bb)) (p / 4294967296 + 0) (by have := HS.out.2; omega)
          have HST := Lib.hid hs
          clear hs
          go_wp2
          go_roundw
          case rel =>
            obtain ⟨h1, h2⟩ := HST.out
            exact ⟨i + 1, p / 4294967296, 0, R'.set i (u - (p % 4294967296 + bb)), by omega, by go_num, by congr 1 <;> omega, rfl, by omega, by omega, hR'.setI i (by omega) (by omega) (by omega),
              ⟨by rw [List.length_set]; exact hI.out.1, by rw [Nat.add_comm 0]; exact h1, h2⟩, rgrown_set hG _ _⟩
          case measure => simp [intOf]; omega
    · obtain rfl : i = nr := by omega
      go_wp2
      go_end0
      obtain ⟨h1, h2, h3⟩ := hI.out
      obtain ⟨k1, k2, k3, k4⟩ := HR.out
      exact ⟨rfl, R', hG, hR', by omega, rsub_end R R' Y i x (bb + cc) hR'.1 (by omega) k2 (by omega) k4 h2⟩

set_option maxHeartbeats 1000000 in
/-- guess: not too many times, once at least. -/
theorem rguess_any (A : Option Addr) (c : Nat) (R : List Nat) (B : Option Addr) (n cb : Nat) (V : List Nat) (w : World) (hR : Rd w A R) (hl : R.length = n + 2) (hV : Rd w B V) (hn : V.length = n + 1)
    (hle : val V ≤ val R) (hm : n ≤ 35184372088800) :
    Calls Tryd.prog 99 #[.slice A (n + 2) c, .slice B (n + 1) cb] w fun e w' => ∃ G : Nat, e = .returned (.int .u64 (G : Int)) ∧ 1 ≤ G ∧ G * val V ≤ val R ∧ ∃ d, w.drewN d = w' := by
  obtain ⟨b, o, rfl, hcR⟩ := hR.cells (by omega)
  obtain ⟨b', o', rfl, hcV⟩ := hV.cells (by omega)
  have h1 := hcR (n + 1) (by omega)
  have h2 := hcR n (by omega)
  have h3 := hcV n (by omega)
  have x1 := hR.1.getD (n + 1)
  have x2 := hR.1.getD n
  have x3 := hV.1.getD n
  have hg := fun r1 r0 v0 => guess_le hR.1 hV.1 n hn hl r1 r0 v0
  obtain ⟨r1, hr1⟩ : ∃ r1, R.getD (n + 1) 0 = r1 := ⟨_, rfl⟩
  obtain ⟨r0, hr0⟩ : ∃ r0, R.getD n 0 = r0 := ⟨_, rfl⟩
  obtain ⟨v0, hv0⟩ : ∃ v0, V.getD n 0 = v0 := ⟨_, rfl⟩
  have hG := hg r1 r0 v0 hr1 hr0 hv0
  rw [hr1] at h1 x1
  rw [hr0] at h2 x2
  rw [hv0] at h3 x3
  obtain ⟨T, hT⟩ : ∃ T, r0 + 4294967296 * r1 = T := ⟨_, rfl⟩
  have hor := or_hi' r0 r1 x2 x1
  rw [hT] at hor hG
  have e1 : IntKind.i64.wrap ((n : Int) + 1 - 1) = (n : Int) := by rw [IntKind.wrap_i64]; omega
  have e2 : ((n : Int) + 1).toNat = n + 1 := by omega
  have e3 : (0 : Int) ≤ (n : Int) + 1 := by omega
  have e4 : (n : Int) + 1 < (n : Int) + 2 := by omega
  have e5 : IntKind.u64.wrap ((r1 : Int) * 4294967296) = (r1 : Int) * 4294967296 := by rw [IntKind.wrap_u64]; omega
  have e6 : IntKind.u64.wrap ((v0 : Int) + 1) = (v0 : Int) + 1 := by rw [IntKind.wrap_u64]; omega
  have e7 : (n : Int) < (n : Int) + 2 := by omega
  have e8 : (n : Int) < (n : Int) + 1 := by omega
  obtain ⟨q, hq⟩ : ∃ q, T / (v0 + 1) = q := ⟨_, rfl⟩
  have hqI : (T : Int) / ((v0 : Int) + 1) = (q : Int) := by rw [← hq]; simp
  have hqb : q < 18446744073709551616 := by rw [← hq]; exact Nat.lt_of_le_of_lt (Nat.div_le_self _ _) (by omega)
  have e9 : IntKind.u64.wrap (q : Int) = (q : Int) := by rw [IntKind.wrap_u64]; omega
  rw [hq] at hG
  have HG := Lib.hid (And.intro hG hle)
  clear hg hG hr1 hr0 hv0 hT hq hcR hcV hR hV hl hn hle
  go_enter Tryd.func99, Tryd.ntmps99
  go_wp2
  go_quiet (fail)
  clear e1 e2 e3 e4 e5 e6 e7 e8 e9 hor hqI
  by_cases hq0 : q = 0
  · subst hq0
    go_wp2
    go_ret
    exact ⟨1, rfl, Nat.le_refl _, by rw [Nat.one_mul]; exact HG.out.2, _, rfl⟩
  · have hqb : ((q : Int) == 0) = false := by rw [beq_eq_false_iff_ne]; omega
    go_wp2
    go_ret
    exact ⟨q, rfl, by omega, HG.out.1, _, rfl⟩
end Go.Proofs.YtiadjcilfljdaaaDoor
