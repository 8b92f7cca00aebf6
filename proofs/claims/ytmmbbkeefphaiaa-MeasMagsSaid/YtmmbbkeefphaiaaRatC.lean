/- Contracts of vergeref2's ratios: RSign, RNeg, RCmp. -/
import Derived.Test.YtmmbbkeefphaiaaRatB
namespace Go.Proofs.Ytmmbbkeefphaiaa
set_option linter.unusedVariables false
set_option linter.unusedSimpArgs false
open Go.RowKit Verge

/-- A ratio as it is handed over. -/
abbrev ratV (s : Bool) (A : Option Addr) (n c : Nat) (B : Option Addr) (m d : Nat) : Value := .agg #[.bool s, .slice A n c, .slice B m d]
def rsgn (s : Bool) (n : Nat) : Int := if n = 0 then 0 else if s then -1 else 1

section
variable (s : Bool) (A : Option Addr) (n c : Nat) (X : List Nat) (B : Option Addr) (m d : Nat) (Y : List Nat) (w : World) (h : Rd w A X) (hn : X.length = n) (hnb : n ≤ 35184372088800)
include h hn hnb

theorem rsign_any : Calls Try.prog 30 #[ratV s A n c B m d] w fun e w' => e = .returned (.int .i64 (rsgn s (val X))) ∧ Below w.heap.size w w' := by
  have H1 := Lib.hid (fun W (hW : Rd W A X) => rnorm_any A n c X W hW hn hnb)
  have HB := Lib.hid (rnew w (.cells #[.bool s, .slice A n c, .slice B m d] 35))
  have HX := Lib.hid h
  have HC := Lib.hid (Box3.new w (.bool s) (.slice A n c) (.slice B m d))
  obtain ⟨x, hx⟩ : ∃ x, val X = x := ⟨_, rfl⟩
  simp only [hx] at H1 ⊢
  clear h hn hnb hx
  unfold rsgn
  by_cases h0 : x = 0
  · have hl : (dig x).length = 0 := by rw [h0, dig_zero]; rfl
    rw [if_pos h0]
    have H0 := Lib.hid h0
    clear h0
    go_enter Try.func30, Try.ntmps30
    go_wp2_with fail
    refine (H1.out _ (HX.out.below HB.out)).mono ?_
    rintro en w1 ⟨A1, c1, rfl, hR1, hl1, hm1, hb⟩
    have HW := Lib.hid (raft HB.out hb)
    obtain ⟨b0, b1, b2⟩ := (HC.out.later hb).cells
    clear hR1 hb
    rw [hl]
    go_wp2
    go_ret
    exact ⟨rfl, HW.out⟩
  · have hl : ¬ ((dig x).length : Int) = 0 := by have := dig_length_pos h0; omega
    rw [if_neg h0]
    clear h0
    cases s
    · go_enter Try.func30, Try.ntmps30
      go_wp2_with fail
      refine (H1.out _ (HX.out.below HB.out)).mono ?_
      rintro en w1 ⟨A1, c1, rfl, hR1, hl1, hm1, hb⟩
      have HW := Lib.hid (raft HB.out hb)
      obtain ⟨b0, b1, b2⟩ := (HC.out.later hb).cells
      clear hR1 hb
      go_wp2
      go_ret
      exact ⟨rfl, HW.out⟩
    · go_enter Try.func30, Try.ntmps30
      go_wp2_with fail
      refine (H1.out _ (HX.out.below HB.out)).mono ?_
      rintro en w1 ⟨A1, c1, rfl, hR1, hl1, hm1, hb⟩
      have HW := Lib.hid (raft HB.out hb)
      obtain ⟨b0, b1, b2⟩ := (HC.out.later hb).cells
      clear hR1 hb
      go_wp2
      go_ret
      exact ⟨rfl, HW.out⟩
end

theorem size_alloc1 (w : World) (o : Obj) : (w.alloc o).heap.size = w.heap.size + 1 := by simp
/-- RCmp's answer. -/
def rcmp (s : Bool) (x y : Nat) (t : Bool) (u v : Nat) : Int :=
  if rsgn s x < rsgn t u then -1 else if rsgn t u < rsgn s x then 1 else if x = 0 then 0 else if s then -cmp (x * v) (u * y) else cmp (x * v) (u * y)

set_option maxRecDepth 20000 in
set_option maxHeartbeats 8000000 in
theorem rrcmp_any (s : Bool) (A : Option Addr) (n c : Nat) (X : List Nat) (B : Option Addr) (m d : Nat) (Y : List Nat) (t : Bool) (A' : Option Addr) (n' c' : Nat) (X' : List Nat) (B' : Option Addr) (m' d' : Nat) (Y' : List Nat) (w : World)
    (h : Rd w A X) (hn : X.length = n) (k : Rd w B Y) (hm : Y.length = m) (h' : Rd w A' X') (hn' : X'.length = n') (k' : Rd w B' Y') (hm' : Y'.length = m')
    (h1 : n + m' ≤ 35184372088800) (h2 : n' + m ≤ 35184372088800) :
    Calls Try.prog 32 #[ratV s A n c B m d, ratV t A' n' c' B' m' d'] w fun e w' => e = .returned (.int .i64 (rcmp s (val X) (val Y) t (val X') (val Y'))) ∧ Below w.heap.size w w' := by
  have wx : wl X ≤ n := hn ▸ wl_le X
  have wy : wl Y ≤ m := hm ▸ wl_le Y
  have wx' : wl X' ≤ n' := hn' ▸ wl_le X'
  have wy' : wl Y' ≤ m' := hm' ▸ wl_le Y'
  have S1 := Lib.hid (fun W (hW : Rd W A X) => rsign_any s A n c X B m d W hW hn (by omega))
  have S2 := Lib.hid (fun W (hW : Rd W A' X') => rsign_any t A' n' c' X' B' m' d' W hW hn' (by omega))
  have T1 := Lib.hid (fun W (hW : Rd W A X) (hW' : Rd W B' Y') => rtimes_any A n c X B' m' d' Y' W hW hn hW' hm' (by omega) (by omega) (by omega))
  have T2 := Lib.hid (fun W (hW : Rd W A' X') (hW' : Rd W B Y) => rtimes_any A' n' c' X' B m d Y W hW hn' hW' hm (by omega) (by omega) (by omega))
  have D1 : (dig (val X * val Y')).length ≤ n + m' := Nat.le_trans (dig_mul_length _ _) (by rw [← wl_eq h.1, ← wl_eq k'.1]; omega)
  have D2 : (dig (val X' * val Y)).length ≤ n' + m := Nat.le_trans (dig_mul_length _ _) (by rw [← wl_eq h'.1, ← wl_eq k.1]; omega)
  have HX := Lib.hid h
  have HY := Lib.hid k
  have HX' := Lib.hid h'
  have HY' := Lib.hid k'
  have HB := Lib.hid (raft (rnew w (.cells #[.bool s, .slice A n c, .slice B m d] 35)) (rnew _ (.cells #[.bool t, .slice A' n' c', .slice B' m' d'] 35)))
  have HC := Lib.hid ((Box3.new w (.bool s) (.slice A n c) (.slice B m d)).later (rnew _ (.cells #[.bool t, .slice A' n' c', .slice B' m' d'] 35)))
  have HC' := Lib.hid (Box3.new (w.alloc (.cells #[.bool s, .slice A n c, .slice B m d] 35)) (.bool t) (.slice A' n' c') (.slice B' m' d'))
  rw [size_alloc1] at HC'
  obtain ⟨x, hx⟩ : ∃ x, val X = x := ⟨_, rfl⟩
  obtain ⟨y, hy⟩ : ∃ y, val Y = y := ⟨_, rfl⟩
  obtain ⟨u, hu⟩ : ∃ u, val X' = u := ⟨_, rfl⟩
  obtain ⟨v, hv⟩ : ∃ v, val Y' = v := ⟨_, rfl⟩
  simp only [hx, hy, hu, hv] at S1 S2 T1 T2 D1 D2 ⊢
  clear h k h' k' hn hm hn' hm' hx hy hu hv wx wy wx' wy'
  obtain ⟨p, hp⟩ : ∃ p, rsgn s x = p := ⟨_, rfl⟩
  obtain ⟨q, hq⟩ : ∃ q, rsgn t u = q := ⟨_, rfl⟩
  have hx0 : x = 0 ↔ p = 0 := by rw [← hp]; unfold rsgn; split <;> (try split) <;> simp_all
  have hpb : -1 ≤ p ∧ p ≤ 1 := by rw [← hp]; unfold rsgn; split <;> (try split) <;> omega
  have hqb : -1 ≤ q ∧ q ≤ 1 := by rw [← hq]; unfold rsgn; split <;> (try split) <;> omega
  unfold rcmp
  rw [hp, hq]
  rw [hp] at S1
  rw [hq] at S2
  clear hp hq
  simp only [hx0]
  obtain ⟨hp1, hp2⟩ := hpb
  obtain ⟨hq1, hq2⟩ := hqb
  obtain ⟨P, hP⟩ : ∃ P : Ending → World → Prop, P = fun e w' => e = .returned (.int .i64 (if p < q then -1 else if q < p then 1 else if p = 0 then 0 else if s then -cmp (x * v) (u * y) else cmp (x * v) (u * y))) ∧ Below w.heap.size w w' := ⟨_, rfl⟩
  rw [← hP]
  have HP := Lib.hid hP
  clear hP hx0
  go_enter Try.func32, Try.ntmps32
  go_wp2_with fail
  refine (S1.out _ (HX.out.below HB.out)).mono ?_
  rintro en w1 ⟨rfl, hb⟩
  have HC := Lib.hid (HC.out.later hb)
  have HC' := Lib.hid (HC'.out.later hb)
  have HB := Lib.hid (raft HB.out hb)
  obtain ⟨b0, b1, b2⟩ := HC'.out.cells
  clear hb
  go_wp2_with fail
  refine (S2.out _ (HX'.out.below HB.out)).mono ?_
  rintro en w2 ⟨rfl, hb⟩
  have HC := Lib.hid (HC.out.later hb)
  have HC' := Lib.hid (HC'.out.later hb)
  have HB := Lib.hid (raft HB.out hb)
  clear hb b0 b1 b2
  obtain ⟨b0, b1, b2⟩ := HC'.out.cells
  obtain ⟨a0, a1, a2⟩ := HC.out.cells
  by_cases hlt : p < q
  · go_wp2
    rw [HP.out, if_pos hlt]
    exact ⟨rfl, HB.out⟩
  · by_cases hgt : q < p
    · go_wp2
      rw [HP.out, if_neg (show ¬ p < q by omega), if_pos hgt]
      exact ⟨rfl, HB.out⟩
    · obtain rfl : p = q := by omega
      have X2 := Lib.hid (HX.out.below HB.out)
      have Y2 := Lib.hid (HY.out.below HB.out)
      have X2' := Lib.hid (HX'.out.below HB.out)
      have Y2' := Lib.hid (HY'.out.below HB.out)
      go_upto_region 7 with fail
      go_cut [7] from 18 to 28 (fun s7 wx => s7 = .int .i64 (cmp (x * v) (u * y)) ∧ Below w2.heap.size w2 wx)
      case first =>
        go_region_with (first
          | (go_at_call 66; (with_reducible refine (T1.out _ ?_ ?_).mono ?_); exact X2.out; exact Y2'.out; rintro en w3 ⟨A5, c5, rfl, hR5, hl5, hm5, hb⟩; have hb : Below w2.heap.size w2 w3 := ⟨hb.os, hb.tape, hb.output, hb.size, hb.block⟩; have HR5 := Lib.hid hR5; have HB5 := Lib.hid hb; have X3' := Lib.hid (X2'.out.below hb); have Y3 := Lib.hid (Y2.out.below hb); obtain ⟨e0, e1, e2⟩ := (HC'.out.later hb).cells; obtain ⟨g0, g1, g2⟩ := (HC.out.later hb).cells; clear hb hR5)
          | (go_at_call 66; (with_reducible refine (T2.out _ ?_ ?_).mono ?_); exact X3'.out; exact Y3.out; rintro en w4 ⟨A6, c6, rfl, hR6, hl6, hm6, hb⟩; have hb : Below w3.heap.size w3 w4 := ⟨hb.os, hb.tape, hb.output, hb.size, hb.block⟩; have HR5 := Lib.hid (HR5.out.below hb); have HR6 := Lib.hid hR6; have HB6 := Lib.hid (raft HB5.out hb); clear hb hR6)
          | (go_at_call 65; refine (rcmp_any A5 _ c5 (dig (x * v)) A6 _ c6 (dig (u * y)) _ (by exact HR5.out) rfl (by exact HR6.out) rfl (by omega) (by omega)).mono ?_; rw [val_dig, val_dig]; rintro en w5 ⟨rfl, k5, rfl⟩))
        all_goals
          go_wp2
          go_meet
          exact ⟨rfl, below_drewN ⟨HB6.out.os, HB6.out.tape, HB6.out.output, HB6.out.size, HB6.out.block⟩ _⟩
      case rest =>
        obtain ⟨rfl, hb⟩ := hcut
        have HC := Lib.hid (HC.out.later hb)
        have HB := Lib.hid (raft HB.out hb)
        clear b0 b1 b2 a0 a1 a2 hb
        obtain ⟨a0, a1, a2⟩ := HC.out.cells
        rw [if_neg (show ¬ p < p by omega), if_neg (show ¬ p < p by omega)] at HP
        obtain ⟨r, hr⟩ : ∃ r, cmp (x * v) (u * y) = r := ⟨_, rfl⟩
        have hrb : -1 ≤ r ∧ r ≤ 1 := by rw [← hr]; unfold cmp; split <;> (try split) <;> omega
        obtain ⟨hr1, hr2⟩ := hrb
        rw [hr] at HP ⊢
        by_cases hp0 : p = 0
        · rw [if_pos hp0] at HP
          rcases (show s = true ∨ s = false by cases s <;> simp) with hs | hs
          · rw [hs] at a0
            go_wp2
            rw [HP.out]
            exact ⟨rfl, HB.out⟩
          · rw [hs] at a0
            go_wp2
            rw [HP.out]
            exact ⟨rfl, HB.out⟩
        · rw [if_neg hp0] at HP
          rcases (show s = true ∨ s = false by cases s <;> simp) with hs | hs
          · rw [hs] at a0
            rw [if_pos hs] at HP
            go_wp2
            rw [HP.out]
            exact ⟨rfl, HB.out⟩
          · rw [hs] at a0
            rw [if_neg (by rw [hs]; simp)] at HP
            go_wp2
            rw [HP.out]
            exact ⟨rfl, HB.out⟩
end Go.Proofs.Ytmmbbkeefphaiaa
