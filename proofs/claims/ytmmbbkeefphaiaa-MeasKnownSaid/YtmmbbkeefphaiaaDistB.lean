/- Layer 8: Dist, by the program. -/
import Derived.Test.YtmmbbkeefphaiaaDistA
namespace Go.Proofs.Ytmmbbkeefphaiaa
set_option linter.unusedVariables false
set_option linter.unusedSimpArgs false
open Go.RowKit Verge

/-- Two boxes of two floats. -/
def Sb (w wx : World) (a b c d : Nat) : Prop := B2 wx w.heap.size 29 (.float .f64 a) (.float .f64 b) ∧ B2 wx (w.heap.size + 1) 29 (.float .f64 c) (.float .f64 d) ∧ Below w.heap.size w wx
section
variable {w wx wy : World} {a b c d : Nat}
theorem Sb.new (w : World) (a b c d : Nat) : Sb w ((w.alloc (.cells #[.float .f64 a, .float .f64 b] 29)).alloc (.cells #[.float .f64 c, .float .f64 d] 29)) a b c d := by
  refine ⟨(B2.new w _ _ _).later (bnew _ _), ?_, baft (bnew w _) (bnew _ _)⟩
  have := B2.new (w.alloc (.cells #[.float .f64 a, .float .f64 b] 29)) 29 (.float .f64 c) (.float .f64 d)
  rwa [show (w.alloc (.cells #[.float .f64 a, .float .f64 b] 29)).heap.size = w.heap.size + 1 from Array.size_push ..] at this
theorem Sb.later (h : Sb w wx a b c d) (hb : Below wx.heap.size wx wy) : Sb w wy a b c d := ⟨h.1.later hb, h.2.1.later hb, h.2.2.trans (hb.mono h.2.2.size)⟩
theorem Sb.drew (h : Sb w wx a b c d) : Sb w wx.drew a b c d := ⟨h.1, h.2.1, ⟨h.2.2.os, h.2.2.tape, h.2.2.output, h.2.2.size, h.2.2.block⟩⟩
theorem Sb.drewN (h : Sb w wx a b c d) (n : Nat) : Sb w (wx.drewN n) a b c d := ⟨h.1, h.2.1, below_drewN h.2.2 n⟩
theorem Sb.facts (h : Sb w wx a b c d) : (wx.cell? ⟨w.heap.size, 0, none⟩ = some (.float .f64 a) ∧ wx.cell? ⟨w.heap.size, 1, none⟩ = some (.float .f64 b) ∧ wx.frozen? ⟨w.heap.size, 0, none⟩ = false ∧ wx.frozen? ⟨w.heap.size, 1, none⟩ = false) ∧
    (wx.cell? ⟨w.heap.size + 1, 0, none⟩ = some (.float .f64 c) ∧ wx.cell? ⟨w.heap.size + 1, 1, none⟩ = some (.float .f64 d) ∧ wx.frozen? ⟨w.heap.size + 1, 0, none⟩ = false ∧ wx.frozen? ⟨w.heap.size + 1, 1, none⟩ = false) ∧ w.heap.size + 1 < wx.heap.size :=
  ⟨h.1.cells, h.2.1.cells, h.2.1.lt⟩
theorem Sb.put (h : Sb w wx a b c d) (a' b' c' d' : Nat) : Sb w ((((wx.setCell ⟨w.heap.size, 0, none⟩ (.float .f64 a')).setCell ⟨w.heap.size, 1, none⟩ (.float .f64 b')).setCell ⟨w.heap.size + 1, 0, none⟩ (.float .f64 c')).setCell ⟨w.heap.size + 1, 1, none⟩ (.float .f64 d')) a' b' c' d' :=
  ⟨(((h.1.set0 _).set1 _).far (by omega)).far (by omega), (((h.2.1.far (by omega)).far (by omega)).set0 _).set1 _,
    (((h.2.2.setCell (Nat.le_refl _) _).setCell (Nat.le_refl _) _).setCell (Nat.le_succ _) _).setCell (Nat.le_succ _) _⟩
end
/-- The greater of two patterns that are not negative. -/
def fdist (x y x2 y2 : Nat) : Nat := if fsound x y = true ∧ fsound x2 y2 = true then max (papart (flo x y) (flo x2 y2)) (papart (fhi x y) (fhi x2 y2)) else 9221120237041090561
theorem fdist_lt (x y x2 y2 : Nat) : fdist x y x2 y2 < 18446744073709551616 := by
  unfold fdist
  have := papart_le (flo x y) (flo x2 y2)
  have := papart_le (fhi x y) (fhi x2 y2)
  split <;> omega

set_option maxRecDepth 20000 in
set_option maxHeartbeats 8000000 in
theorem dist_any (x y x2 y2 : Nat) (hx : x < 18446744073709551616) (hy : y < 18446744073709551616) (hx2 : x2 < 18446744073709551616) (hy2 : y2 < 18446744073709551616) (w : World) :
    Calls Try.prog 37 #[.agg #[.float .f64 x, .float .f64 y], .agg #[.float .f64 x2, .float .f64 y2]] w fun e w' => e = .returned (.float .f64 (fdist x y x2 y2)) ∧ Below w.heap.size w w' := by
  have HR1 := Lib.hid (fun W => read_any x y hx hy W)
  have HR2 := Lib.hid (fun W => read_any x2 y2 hx2 hy2 W)
  have HN1 := Lib.hid (fun W => none_any (flo x y) (fhi x y) (flo_lt hx) (fhi_lt hy) W)
  have HN2 := Lib.hid (fun W => none_any (flo x2 y2) (fhi x2 y2) (flo_lt hx2) (fhi_lt hy2) W)
  have ha1 := above_sound hx hy
  have ha2 := above_sound hx2 hy2
  rw [ha1] at HN1
  rw [ha2] at HN2
  have hsf := store_f
  have hS0 := Lib.hid (Sb.new w x y x2 y2)
  have HE : Hid (fsound x y = true → fsound x2 y2 = true → Ends (flo x y) (fhi x y) ∧ Ends (flo x2 y2) (fhi x2 y2)) := Lib.hid (fun h1 h2 => ⟨ends_of hx hy h1, ends_of hx2 hy2 h2⟩)
  clear ha1 ha2 hx hy hx2 hy2
  unfold fdist
  obtain ⟨s1, hs1⟩ : ∃ s, fsound x y = s := ⟨_, rfl⟩
  obtain ⟨s2, hs2⟩ : ∃ s, fsound x2 y2 = s := ⟨_, rfl⟩
  rw [hs1, hs2]
  rw [hs1] at HN1 HE
  rw [hs2] at HN2 HE
  obtain ⟨p, hp⟩ : ∃ p, flo x y = p := ⟨_, rfl⟩
  obtain ⟨q, hq⟩ : ∃ p, fhi x y = p := ⟨_, rfl⟩
  obtain ⟨p2, hp2⟩ : ∃ p, flo x2 y2 = p := ⟨_, rfl⟩
  obtain ⟨q2, hq2⟩ : ∃ p, fhi x2 y2 = p := ⟨_, rfl⟩
  simp only [hp, hq, hp2, hq2] at HR1 HR2 HN1 HN2 HE ⊢
  clear hp hq hp2 hq2 hs1 hs2
  obtain ⟨R, hR⟩ : ∃ R, (if s1 = true ∧ s2 = true then max (papart p p2) (papart q q2) else 9221120237041090561) = R := ⟨_, rfl⟩
  rw [hR]
  have HRR := Lib.hid hR
  clear hR
  go_enter Try.func37, Try.ntmps37
  go_upto_region 1 with fail
  go_cut [5] from 5 to 8 (fun s5 wx => Sb w wx p q p2 q2)
  case first =>
    obtain ⟨⟨c0, c1, c2, c3⟩, ⟨d0, d1, d2, d3⟩, hz⟩ := hS0.out.facts
    go_region_with (first
      | (go_at_call 54; (with_reducible refine (HR1.out _).mono ?_); rintro en w1 ⟨rfl, hb⟩; have hS1 := Lib.hid ((Sb.new w x y x2 y2).later ⟨hb.os, hb.tape, hb.output, hb.size, hb.block⟩); clear hb; obtain ⟨⟨c0, c1, c2, c3⟩, ⟨d0, d1, d2, d3⟩, hz⟩ := hS1.out.facts)
      | (go_at_call 54; (with_reducible refine (HR2.out _).mono ?_); rintro en w2 ⟨rfl, hb⟩; have hS2 := Lib.hid (hS1.out.later hb); clear hb; obtain ⟨⟨c0, c1, c2, c3⟩, ⟨d0, d1, d2, d3⟩, hz⟩ := hS2.out.facts))
    all_goals
      go_wp2_with fail
      go_meet
      exact hS2.out.put p q p2 q2
  case rest =>
    have hS3 := Lib.hid hcut
    clear hS0 HR1 HR2 hcut
    obtain ⟨⟨c0, c1, c2, c3⟩, ⟨d0, d1, d2, d3⟩, hz⟩ := hS3.out.facts
    go_wp2_with fail
    refine (HN1.out _).mono ?_
    rintro en w2 ⟨rfl, hb⟩
    have hS4 := Lib.hid (hS3.out.later hb)
    clear hb c0 c1 c2 c3 d0 d1 d2 d3 hz
    obtain ⟨⟨c0, c1, c2, c3⟩, ⟨d0, d1, d2, d3⟩, hz⟩ := hS4.out.facts
    cases s1
    · have hRR : R = 9221120237041090561 := by rw [← HRR.out, if_neg (by simp)]
      subst hRR
      clear HRR HE
      go_wp2_with fail
      refine (nan_any _).mono ?_
      rintro en w3 ⟨rfl, rfl⟩
      go_wp2
      go_ret
      exact ⟨rfl, hS4.out.2.2⟩
    · go_wp2_with fail
      refine (HN2.out _).mono ?_
      rintro en w3 ⟨rfl, hb⟩
      have hS5 := Lib.hid (hS4.out.later hb)
      clear hb c0 c1 c2 c3 d0 d1 d2 d3 hz
      cases s2
      · have hRR : R = 9221120237041090561 := by rw [← HRR.out, if_neg (by simp)]
        subst hRR
        clear HRR HE
        go_wp2_with fail
        refine (nan_any _).mono ?_
        rintro en w4 ⟨rfl, rfl⟩
        go_wp2
        go_ret
        exact ⟨rfl, hS5.out.2.2⟩
      · have hRR : Hid (max (papart p p2) (papart q q2) = R) := Lib.hid (by rw [← HRR.out, if_pos (by simp)])
        have HA1 := Lib.hid (fun W => apart_is p p2 (HE.out (by simp) (by simp)).1.pts.1 (HE.out (by simp) (by simp)).2.pts.1 W)
        have HA2 := Lib.hid (fun W => apart_is q q2 (HE.out (by simp) (by simp)).1.pts.2 (HE.out (by simp) (by simp)).2.pts.2 W)
        have hmx := fun ts t W => fmax_any (papart_le p p2) (papart_le q q2) ts t W
        rw [hRR.out] at hmx
        obtain ⟨a1, ha1⟩ : ∃ a, papart p p2 = a := ⟨_, rfl⟩
        obtain ⟨a2, ha2⟩ : ∃ a, papart q q2 = a := ⟨_, rfl⟩
        simp only [ha1, ha2] at HA1 HA2 hmx
        clear ha1 ha2 HE HRR hRR
        go_upto_region 4 with fail
        refine region_at 12 (Pick [IsV (.pointer (some ⟨w.heap.size, 0, none⟩)), IsV (.float .f64 p), IsV (.pointer (some ⟨w.heap.size + 1, 0, none⟩)), IsV (.float .f64 p2), IsV (.float .f64 a1), IsV (.pointer (some ⟨w.heap.size, 1, none⟩)), IsV (.float .f64 q), IsV (.pointer (some ⟨w.heap.size + 1, 1, none⟩)), IsV (.float .f64 q2), IsV (.float .f64 a2), IsV (.float .f64 R), IsV (.float .f64 R)]) (by kernel_rfl) (by kernel_rfl) (by kernel_rfl) (mono_pick ⟨IsV.mono _, IsV.mono _, IsV.mono _, IsV.mono _, IsV.mono _, IsV.mono _, IsV.mono _, IsV.mono _, IsV.mono _, IsV.mono _, IsV.mono _, IsV.mono _, trivial⟩) ⟨?_, ?_, ?_, ?_, ?_, ?_, ?_, ?_, ?_, ?_, ?_, ?_, trivial⟩ ?_
        · intro a W hsz hb hS
          have h2 : a.tmps.getD 2 undef = .pointer (some ⟨w.heap.size, 0, none⟩) := hS.1
          clear hS hsz
          refine will_of rfl ?_
          intro K hK
          go_simp
          exact hK _ _ ⟨Below.refl _ _, rfl⟩
        · intro a W hsz hb hS
          have h16 : a.tmps.getD 16 undef = .pointer (some ⟨w.heap.size, 0, none⟩) := hS.1
          clear hS hsz
          refine will_of rfl ?_
          obtain ⟨⟨c0, c1, c2, c3⟩, ⟨d0, d1, d2, d3⟩, hz⟩ := (hS5.out.later hb).facts
          intro K hK
          go_simp
          exact hK _ _ ⟨Below.refl _ _, rfl⟩
        · intro a W hsz hb hS
          have h3 : a.tmps.getD 3 undef = .pointer (some ⟨w.heap.size + 1, 0, none⟩) := hS.1
          clear hS hsz
          refine will_of rfl ?_
          intro K hK
          go_simp
          exact hK _ _ ⟨Below.refl _ _, rfl⟩
        · intro a W hsz hb hS
          have h18 : a.tmps.getD 18 undef = .pointer (some ⟨w.heap.size + 1, 0, none⟩) := hS.1
          clear hS hsz
          refine will_of rfl ?_
          obtain ⟨⟨c0, c1, c2, c3⟩, ⟨d0, d1, d2, d3⟩, hz⟩ := (hS5.out.later hb).facts
          intro K hK
          go_simp
          exact hK _ _ ⟨Below.refl _ _, rfl⟩
        · intro a W hsz hb hS
          have h17 : a.tmps.getD 17 undef = .float .f64 p := hS.1
          have h19 : a.tmps.getD 19 undef = .float .f64 p2 := hS.2.1
          clear hS hsz
          refine will_of rfl ?_
          obtain ⟨⟨c0, c1, c2, c3⟩, ⟨d0, d1, d2, d3⟩, hz⟩ := (hS5.out.later hb).facts
          intro K hK
          go_simp
          refine (HA1.out _).mono ?_
          rintro e W' ⟨_, rfl, rfl, hb'⟩
          exact hK _ _ ⟨hb', rfl⟩
        · intro a W hsz hb hS
          have h2 : a.tmps.getD 2 undef = .pointer (some ⟨w.heap.size, 0, none⟩) := hS.1
          clear hS hsz
          refine will_of rfl ?_
          intro K hK
          go_simp
          exact hK _ _ ⟨Below.refl _ _, rfl⟩
        · intro a W hsz hb hS
          have h21 : a.tmps.getD 21 undef = .pointer (some ⟨w.heap.size, 1, none⟩) := hS.1
          clear hS hsz
          refine will_of rfl ?_
          obtain ⟨⟨c0, c1, c2, c3⟩, ⟨d0, d1, d2, d3⟩, hz⟩ := (hS5.out.later hb).facts
          intro K hK
          go_simp
          exact hK _ _ ⟨Below.refl _ _, rfl⟩
        · intro a W hsz hb hS
          have h3 : a.tmps.getD 3 undef = .pointer (some ⟨w.heap.size + 1, 0, none⟩) := hS.1
          clear hS hsz
          refine will_of rfl ?_
          intro K hK
          go_simp
          exact hK _ _ ⟨Below.refl _ _, rfl⟩
        · intro a W hsz hb hS
          have h23 : a.tmps.getD 23 undef = .pointer (some ⟨w.heap.size + 1, 1, none⟩) := hS.1
          clear hS hsz
          refine will_of rfl ?_
          obtain ⟨⟨c0, c1, c2, c3⟩, ⟨d0, d1, d2, d3⟩, hz⟩ := (hS5.out.later hb).facts
          intro K hK
          go_simp
          exact hK _ _ ⟨Below.refl _ _, rfl⟩
        · intro a W hsz hb hS
          have h22 : a.tmps.getD 22 undef = .float .f64 q := hS.1
          have h24 : a.tmps.getD 24 undef = .float .f64 q2 := hS.2.1
          clear hS hsz
          refine will_of rfl ?_
          obtain ⟨⟨c0, c1, c2, c3⟩, ⟨d0, d1, d2, d3⟩, hz⟩ := (hS5.out.later hb).facts
          intro K hK
          go_simp
          refine (HA2.out _).mono ?_
          rintro e W' ⟨_, rfl, rfl, hb'⟩
          exact hK _ _ ⟨hb', rfl⟩
        · intro a W hsz hb hS
          have h20 : a.tmps.getD 20 undef = .float .f64 a1 := hS.1
          have h25 : a.tmps.getD 25 undef = .float .f64 a2 := hS.2.1
          clear hS hsz
          refine will_of rfl ?_
          obtain ⟨⟨c0, c1, c2, c3⟩, ⟨d0, d1, d2, d3⟩, hz⟩ := (hS5.out.later hb).facts
          intro K hK
          go_simp
          exact hK _ _ ⟨Below.refl _ _, rfl⟩
        · intro a W hsz hb hS
          have h26 : a.tmps.getD 26 undef = .float .f64 R := hS.1
          clear hS hsz
          refine will_of rfl ?_
          intro K hK
          go_simp
          exact hK _ _ ⟨Below.refl _ _, rfl⟩
        intro f W hb hH
        have e0 : f 0 = .pointer (some ⟨w.heap.size, 0, none⟩) := hH.1
        have e1 : f 1 = .float .f64 p := hH.2.1
        have e2 : f 2 = .pointer (some ⟨w.heap.size + 1, 0, none⟩) := hH.2.2.1
        have e3 : f 3 = .float .f64 p2 := hH.2.2.2.1
        have e4 : f 4 = .float .f64 a1 := hH.2.2.2.2.1
        have e5 : f 5 = .pointer (some ⟨w.heap.size, 1, none⟩) := hH.2.2.2.2.2.1
        have e6 : f 6 = .float .f64 q := hH.2.2.2.2.2.2.1
        have e7 : f 7 = .pointer (some ⟨w.heap.size + 1, 1, none⟩) := hH.2.2.2.2.2.2.2.1
        have e8 : f 8 = .float .f64 q2 := hH.2.2.2.2.2.2.2.2.1
        have e9 : f 9 = .float .f64 a2 := hH.2.2.2.2.2.2.2.2.2.1
        have e10 : f 10 = .float .f64 R := hH.2.2.2.2.2.2.2.2.2.2.1
        have e11 : f 11 = .float .f64 R := hH.2.2.2.2.2.2.2.2.2.2.2.1
        simp only [List.take_succ_cons, List.take_zero, List.drop_succ_cons, List.drop_zero, putFrom, Act.put, List.setIfInBounds_toArray, List.set_cons_zero, List.set_cons_succ, Nat.reduceAdd, e0, e1, e2, e3, e4, e5, e6, e7, e8, e9, e10, e11]
        clear e0 e1 e2 e3 e4 e5 e6 e7 e8 e9 e10 e11 hH f
        have HW := Lib.hid (baft hS5.out.2.2 hb)
        clear hb
        go_wp2
        go_ret
        exact ⟨rfl, HW.out⟩
end Go.Proofs.Ytmmbbkeefphaiaa
