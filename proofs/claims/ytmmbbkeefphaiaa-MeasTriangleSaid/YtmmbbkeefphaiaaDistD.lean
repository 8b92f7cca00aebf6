/- Law 8: the document's Dist; the law MeasDists. -/
import Derived.Test.YtmmbbkeefphaiaaDistC
namespace Go.Proofs.Ytmmbbkeefphaiaa
set_option linter.unusedVariables false
set_option linter.unusedSimpArgs false
open Go.RowKit Verge

/-- Two boxes of two patterns. -/
def Sr (w wx : World) (r s : Nat) (a b c d : Value) : Prop := B2 wx r 24 a b ∧ B2 wx s 24 c d ∧ Below w.heap.size w wx
section
variable {w wx wy : World} {r s : Nat} {a b c d : Value}
theorem Sr.later (h : Sr w wx r s a b c d) (hb : Below wx.heap.size wx wy) : Sr w wy r s a b c d := ⟨h.1.later hb, h.2.1.later hb, h.2.2.trans (hb.mono h.2.2.size)⟩
theorem Sr.facts (h : Sr w wx r s a b c d) : (wx.cell? ⟨r, 0, none⟩ = some a ∧ wx.cell? ⟨r, 1, none⟩ = some b ∧ wx.frozen? ⟨r, 0, none⟩ = false ∧ wx.frozen? ⟨r, 1, none⟩ = false) ∧
    (wx.cell? ⟨s, 0, none⟩ = some c ∧ wx.cell? ⟨s, 1, none⟩ = some d ∧ wx.frozen? ⟨s, 0, none⟩ = false ∧ wx.frozen? ⟨s, 1, none⟩ = false) ∧ r < wx.heap.size ∧ s < wx.heap.size := ⟨h.1.cells, h.2.1.cells, h.1.lt, h.2.1.lt⟩
theorem Sr.new2 (w : World) (a b c d : Value) : Sr w ((w.alloc (.cells #[a, b] 24)).alloc (.cells #[c, d] 24)) w.heap.size (w.heap.size + 1) a b c d := by
  refine ⟨(B2.new w _ _ _).later (bnew _ _), ?_, baft (bnew w _) (bnew _ _)⟩
  have := B2.new (w.alloc (.cells #[a, b] 24)) 24 c d
  rwa [show (w.alloc (.cells #[a, b] 24)).heap.size = w.heap.size + 1 from Array.size_push ..] at this
end
theorem above_small {a b : Nat} (ha : a ≤ 9218868437227405312) (hb : b ≤ 9218868437227405312) : fabove a b = decide (b < a) := by
  unfold fabove
  refine decide_eq_decide.2 ?_
  rw [FK_small ha, FK_small hb]
  exact ⟨fun h => by omega, fun h => ⟨small_nan ha, small_nan hb, by omega⟩⟩
theorem ends_void {x y : Nat} (h : fsound x y = false) : flo x y = 9218868437227405312 ∧ fhi x y = 18442240474082181120 := by
  unfold flo fhi; rw [if_neg (by rw [h]; simp), if_neg (by rw [h]; simp)]; exact ⟨rfl, rfl⟩

set_option maxRecDepth 20000 in
set_option maxHeartbeats 8000000 in
theorem rdist_any (x y x2 y2 : Nat) (hx : x < 18446744073709551616) (hy : y < 18446744073709551616) (hx2 : x2 < 18446744073709551616) (hy2 : y2 < 18446744073709551616) (w : World) :
    Calls Try.prog 38 #[.agg #[.int .u64 (x : Int), .int .u64 (y : Int)], .agg #[.int .u64 (x2 : Int), .int .u64 (y2 : Int)]] w fun e w' => e = .returned (.int .u64 (fdist x y x2 y2 : Nat)) ∧ Below w.heap.size w w' := by
  have HR1 := Lib.hid (fun W => read6_any x y hx hy W)
  have HR2 := Lib.hid (fun W => read6_any x2 y2 hx2 hy2 W)
  have hS0 := Lib.hid (Sr.new2 w (.int .u64 (x : Int)) (.int .u64 (y : Int)) (.int .u64 (x2 : Int)) (.int .u64 (y2 : Int)))
  have HE : Hid (fsound x y = true → fsound x2 y2 = true → Ends (flo x y) (fhi x y) ∧ Ends (flo x2 y2) (fhi x2 y2)) := Lib.hid (fun h1 h2 => ⟨ends_of hx hy h1, ends_of hx2 hy2 h2⟩)
  have HN1 : Hid ((fsound x y = true → ¬ ((flo x y : Nat) : Int) = 9218868437227405312) ∧ (fsound x2 y2 = true → ¬ ((flo x2 y2 : Nat) : Int) = 9218868437227405312)) := Lib.hid ⟨fun h => by have := flo_ne hx h; omega, fun h => by have := flo_ne hx2 h; omega⟩
  have HV : Hid ((fsound x y = false → flo x y = 9218868437227405312 ∧ fhi x y = 18442240474082181120) ∧ (fsound x2 y2 = false → flo x2 y2 = 9218868437227405312 ∧ fhi x2 y2 = 18442240474082181120)) := Lib.hid ⟨ends_void, ends_void⟩
  clear hx hy hx2 hy2
  unfold fdist
  obtain ⟨s1, hs1⟩ : ∃ s, fsound x y = s := ⟨_, rfl⟩
  obtain ⟨s2, hs2⟩ : ∃ s, fsound x2 y2 = s := ⟨_, rfl⟩
  rw [hs1, hs2]
  rw [hs1, hs2] at HE HN1 HV
  obtain ⟨p, hp⟩ : ∃ p, flo x y = p := ⟨_, rfl⟩
  obtain ⟨q, hq⟩ : ∃ p, fhi x y = p := ⟨_, rfl⟩
  obtain ⟨p2, hp2⟩ : ∃ p, flo x2 y2 = p := ⟨_, rfl⟩
  obtain ⟨q2, hq2⟩ : ∃ p, fhi x2 y2 = p := ⟨_, rfl⟩
  simp only [hp, hq, hp2, hq2] at HR1 HR2 HE HN1 HV ⊢
  clear hp hq hp2 hq2 hs1 hs2
  obtain ⟨R, hR⟩ : ∃ R, (if s1 = true ∧ s2 = true then max (papart p p2) (papart q q2) else 9221120237041090561) = R := ⟨_, rfl⟩
  rw [hR]
  have HRR := Lib.hid hR
  clear hR
  go_enter Try.func38, Try.ntmps38
  go_wp2_with fail
  refine (HR1.out _).mono ?_
  rintro en w1 ⟨rfl, hb1⟩
  have hS1 := Lib.hid (hS0.out.later hb1)
  clear hb1
  obtain ⟨⟨c0, c1, c2, c3⟩, ⟨d0, d1, d2, d3⟩, hz1, hz2⟩ := hS1.out.facts
  have hN1 := Lib.hid (B2.new w1 24 (.int .u64 (p : Int)) (.int .u64 (q : Int)))
  have hW1 := Lib.hid (bnew w1 (.cells #[.int .u64 (p : Int), .int .u64 (q : Int)] 24))
  go_wp2_with fail
  refine (HR2.out _).mono ?_
  rintro en w2 ⟨rfl, hb2⟩
  have hS3 : Hid (Sr w (w2.alloc (.cells #[.int .u64 (p2 : Int), .int .u64 (q2 : Int)] 24)) w1.heap.size w2.heap.size (.int .u64 (p : Int)) (.int .u64 (q : Int)) (.int .u64 (p2 : Int)) (.int .u64 (q2 : Int))) :=
    Lib.hid ⟨(hN1.out.later hb2).later (bnew _ _), B2.new _ _ _ _, baft (baft (baft hS1.out.2.2 hW1.out) hb2) (bnew _ _)⟩
  clear hb2 hS0 hS1 hN1 hW1 c0 c1 c2 c3 d0 d1 d2 d3 hz1 hz2 HR1 HR2
  obtain ⟨⟨c0, c1, c2, c3⟩, ⟨d0, d1, d2, d3⟩, hz1, hz2⟩ := hS3.out.facts
  go_upto_region 3 with fail
  cases s1
  · have hRR : R = 9221120237041090561 := by rw [← HRR.out, if_neg (by simp)]
    obtain ⟨rfl, rfl⟩ := HV.out.1 rfl
    subst hRR
    clear HRR HE HN1 HV
    refine region_at 8 (Pick [IsV (.agg #[.int .u64 ((9218868437227405312 : Nat) : Int), .int .u64 ((18442240474082181120 : Nat) : Int)]), IsV (.agg #[.int .u64 9218868437227405312, .int .u64 18442240474082181120]), IsV (.bool true), IsV (.bool true), IsV (undef), IsV (undef), IsV (undef), IsV (.bool true)]) (by kernel_rfl) (by kernel_rfl) (by kernel_rfl) (mono_pick ⟨IsV.mono _, IsV.mono _, IsV.mono _, IsV.mono _, IsV.mono _, IsV.mono _, IsV.mono _, IsV.mono _, trivial⟩) ⟨?_, ?_, ?_, ?_, ?_, ?_, ?_, ?_, trivial⟩ ?_
    · intro a W hsz hb hS
      have h5 : a.tmps.getD 5 undef = .pointer (some ⟨w1.heap.size, 0, none⟩) := hS.1
      clear hS hsz
      refine will_of rfl ?_
      obtain ⟨⟨c0, c1, c2, c3⟩, ⟨d0, d1, d2, d3⟩, hz1, hz2⟩ := (hS3.out.later hb).facts
      intro K hK
      go_simp
      exact hK _ _ ⟨Below.refl _ _, rfl⟩
    · intro a W hsz hb hS
      clear hS hsz
      refine will_of rfl ?_
      obtain ⟨⟨c0, c1, c2, c3⟩, ⟨d0, d1, d2, d3⟩, hz1, hz2⟩ := (hS3.out.later hb).facts
      intro K hK
      go_simp
      refine (empty6_any _).mono ?_
      rintro e W' ⟨rfl, hb'⟩
      exact hK _ _ ⟨hb', rfl⟩
    · intro a W hsz hb hS
      have h13 : a.tmps.getD 13 undef = .agg #[.int .u64 ((9218868437227405312 : Nat) : Int), .int .u64 ((18442240474082181120 : Nat) : Int)] := hS.1
      have h14 : a.tmps.getD 14 undef = .agg #[.int .u64 9218868437227405312, .int .u64 18442240474082181120] := hS.2.1
      clear hS hsz
      refine will_of rfl ?_
      intro K hK
      go_simp
      exact hK _ _ ⟨Below.refl _ _, rfl⟩
    · intro a W hsz hb hS
      have h15 : a.tmps.getD 15 undef = .bool true := hS.1
      clear hS hsz
      refine will_of rfl ?_
      intro K hK
      go_simp
      exact hK _ _ ⟨Below.refl _ _, rfl⟩
    · intro a W hsz hb hS
      have h6 : a.tmps.getD 6 undef = .pointer (some ⟨w2.heap.size, 0, none⟩) := hS.1
      have h16 : a.tmps.getD 16 undef = .bool true := hS.2.1
      clear hS hsz
      exact will_no rfl rfl h16 ⟨Below.refl _ _, rfl⟩
    · intro a W hsz hb hS
      have h16 : a.tmps.getD 16 undef = .bool true := hS.1
      clear hS hsz
      exact will_no rfl rfl h16 ⟨Below.refl _ _, rfl⟩
    · intro a W hsz hb hS
      have h17 : a.tmps.getD 17 undef = undef := hS.1
      have h18 : a.tmps.getD 18 undef = undef := hS.2.1
      have h16 : a.tmps.getD 16 undef = .bool true := hS.2.2.1
      clear hS hsz
      exact will_no rfl rfl h16 ⟨Below.refl _ _, rfl⟩
    · intro a W hsz hb hS
      have h16 : a.tmps.getD 16 undef = .bool true := hS.1
      have h19 : a.tmps.getD 19 undef = undef := hS.2.1
      clear hS hsz
      refine will_of rfl ?_
      intro K hK
      go_simp
      exact hK _ _ ⟨Below.refl _ _, rfl⟩
    intro f W hb hH
    have e0 : f 0 = .agg #[.int .u64 ((9218868437227405312 : Nat) : Int), .int .u64 ((18442240474082181120 : Nat) : Int)] := hH.1
    have e1 : f 1 = .agg #[.int .u64 9218868437227405312, .int .u64 18442240474082181120] := hH.2.1
    have e2 : f 2 = .bool true := hH.2.2.1
    have e3 : f 3 = .bool true := hH.2.2.2.1
    have e4 : f 4 = undef := hH.2.2.2.2.1
    have e5 : f 5 = undef := hH.2.2.2.2.2.1
    have e6 : f 6 = undef := hH.2.2.2.2.2.2.1
    have e7 : f 7 = .bool true := hH.2.2.2.2.2.2.2.1
    simp only [List.take_succ_cons, List.take_zero, List.drop_succ_cons, List.drop_zero, putFrom, Act.put, List.setIfInBounds_toArray, List.set_cons_zero, List.set_cons_succ, Nat.reduceAdd, e0, e1, e2, e3, e4, e5, e6, e7]
    clear e0 e1 e2 e3 e4 e5 e6 e7 hH f
    have hS4 := Lib.hid (hS3.out.later hb)
    clear hb c0 c1 c2 c3 d0 d1 d2 d3 hz1 hz2
    go_wp2
    go_ret
    exact ⟨rfl, hS4.out.2.2⟩
  · have hne := HN1.out.1 rfl
    cases s2
    · have hRR : R = 9221120237041090561 := by rw [← HRR.out, if_neg (by simp)]
      obtain ⟨rfl, rfl⟩ := HV.out.2 rfl
      subst hRR
      clear HRR HE HN1 HV
      refine region_at 8 (Pick [IsV (.agg #[.int .u64 (p : Int), .int .u64 (q : Int)]), IsV (.agg #[.int .u64 9218868437227405312, .int .u64 18442240474082181120]), IsV (.bool false), IsV (.bool false), IsV (.agg #[.int .u64 ((9218868437227405312 : Nat) : Int), .int .u64 ((18442240474082181120 : Nat) : Int)]), IsV (.agg #[.int .u64 9218868437227405312, .int .u64 18442240474082181120]), IsV (.bool true), IsV (.bool true)]) (by kernel_rfl) (by kernel_rfl) (by kernel_rfl) (mono_pick ⟨IsV.mono _, IsV.mono _, IsV.mono _, IsV.mono _, IsV.mono _, IsV.mono _, IsV.mono _, IsV.mono _, trivial⟩) ⟨?_, ?_, ?_, ?_, ?_, ?_, ?_, ?_, trivial⟩ ?_
      · intro a W hsz hb hS
        have h5 : a.tmps.getD 5 undef = .pointer (some ⟨w1.heap.size, 0, none⟩) := hS.1
        clear hS hsz
        refine will_of rfl ?_
        obtain ⟨⟨c0, c1, c2, c3⟩, ⟨d0, d1, d2, d3⟩, hz1, hz2⟩ := (hS3.out.later hb).facts
        intro K hK
        go_simp
        exact hK _ _ ⟨Below.refl _ _, rfl⟩
      · intro a W hsz hb hS
        clear hS hsz
        refine will_of rfl ?_
        obtain ⟨⟨c0, c1, c2, c3⟩, ⟨d0, d1, d2, d3⟩, hz1, hz2⟩ := (hS3.out.later hb).facts
        intro K hK
        go_simp
        refine (empty6_any _).mono ?_
        rintro e W' ⟨rfl, hb'⟩
        exact hK _ _ ⟨hb', rfl⟩
      · intro a W hsz hb hS
        have h13 : a.tmps.getD 13 undef = .agg #[.int .u64 (p : Int), .int .u64 (q : Int)] := hS.1
        have h14 : a.tmps.getD 14 undef = .agg #[.int .u64 9218868437227405312, .int .u64 18442240474082181120] := hS.2.1
        clear hS hsz
        refine will_of rfl ?_
        intro K hK
        go_simp
        exact hK _ _ ⟨Below.refl _ _, rfl⟩
      · intro a W hsz hb hS
        have h15 : a.tmps.getD 15 undef = .bool false := hS.1
        clear hS hsz
        refine will_of rfl ?_
        intro K hK
        go_simp
        exact hK _ _ ⟨Below.refl _ _, rfl⟩
      · intro a W hsz hb hS
        have h6 : a.tmps.getD 6 undef = .pointer (some ⟨w2.heap.size, 0, none⟩) := hS.1
        have h16 : a.tmps.getD 16 undef = .bool false := hS.2.1
        clear hS hsz
        refine will_yes rfl rfl h16 ?_
        obtain ⟨⟨c0, c1, c2, c3⟩, ⟨d0, d1, d2, d3⟩, hz1, hz2⟩ := (hS3.out.later hb).facts
        intro K hK
        go_simp
        exact hK _ _ ⟨Below.refl _ _, rfl⟩
      · intro a W hsz hb hS
        have h16 : a.tmps.getD 16 undef = .bool false := hS.1
        clear hS hsz
        refine will_yes rfl rfl h16 ?_
        obtain ⟨⟨c0, c1, c2, c3⟩, ⟨d0, d1, d2, d3⟩, hz1, hz2⟩ := (hS3.out.later hb).facts
        intro K hK
        go_simp
        refine (empty6_any _).mono ?_
        rintro e W' ⟨rfl, hb'⟩
        exact hK _ _ ⟨hb', rfl⟩
      · intro a W hsz hb hS
        have h17 : a.tmps.getD 17 undef = .agg #[.int .u64 ((9218868437227405312 : Nat) : Int), .int .u64 ((18442240474082181120 : Nat) : Int)] := hS.1
        have h18 : a.tmps.getD 18 undef = .agg #[.int .u64 9218868437227405312, .int .u64 18442240474082181120] := hS.2.1
        have h16 : a.tmps.getD 16 undef = .bool false := hS.2.2.1
        clear hS hsz
        refine will_yes rfl rfl h16 ?_
        intro K hK
        go_simp
        exact hK _ _ ⟨Below.refl _ _, rfl⟩
      · intro a W hsz hb hS
        have h16 : a.tmps.getD 16 undef = .bool false := hS.1
        have h19 : a.tmps.getD 19 undef = .bool true := hS.2.1
        clear hS hsz
        refine will_of rfl ?_
        intro K hK
        go_simp
        exact hK _ _ ⟨Below.refl _ _, rfl⟩
      intro f W hb hH
      have e0 : f 0 = .agg #[.int .u64 (p : Int), .int .u64 (q : Int)] := hH.1
      have e1 : f 1 = .agg #[.int .u64 9218868437227405312, .int .u64 18442240474082181120] := hH.2.1
      have e2 : f 2 = .bool false := hH.2.2.1
      have e3 : f 3 = .bool false := hH.2.2.2.1
      have e4 : f 4 = .agg #[.int .u64 ((9218868437227405312 : Nat) : Int), .int .u64 ((18442240474082181120 : Nat) : Int)] := hH.2.2.2.2.1
      have e5 : f 5 = .agg #[.int .u64 9218868437227405312, .int .u64 18442240474082181120] := hH.2.2.2.2.2.1
      have e6 : f 6 = .bool true := hH.2.2.2.2.2.2.1
      have e7 : f 7 = .bool true := hH.2.2.2.2.2.2.2.1
      simp only [List.take_succ_cons, List.take_zero, List.drop_succ_cons, List.drop_zero, putFrom, Act.put, List.setIfInBounds_toArray, List.set_cons_zero, List.set_cons_succ, Nat.reduceAdd, e0, e1, e2, e3, e4, e5, e6, e7]
      clear e0 e1 e2 e3 e4 e5 e6 e7 hH f
      have hS4 := Lib.hid (hS3.out.later hb)
      clear hb c0 c1 c2 c3 d0 d1 d2 d3 hz1 hz2
      go_wp2
      go_ret
      exact ⟨rfl, hS4.out.2.2⟩
    · have hRR : Hid (max (papart p p2) (papart q q2) = R) := Lib.hid (by rw [← HRR.out, if_pos (by simp)])
      have hne2 := HN1.out.2 rfl
      have HA1 := Lib.hid (fun W => rapart_is p p2 (HE.out (by simp) (by simp)).1.pts.1 (HE.out (by simp) (by simp)).2.pts.1 W)
      have HA2 := Lib.hid (fun W => rapart_is q q2 (HE.out (by simp) (by simp)).1.pts.2 (HE.out (by simp) (by simp)).2.pts.2 W)
      have HAb := Lib.hid (fun W => above_any (papart p p2) (papart q q2) (by have := papart_le p p2; omega) (by have := papart_le q q2; omega) W)
      rw [above_small (papart_le _ _) (papart_le _ _)] at HAb
      obtain ⟨a1, ha1⟩ : ∃ a, papart p p2 = a := ⟨_, rfl⟩
      obtain ⟨a2, ha2⟩ : ∃ a, papart q q2 = a := ⟨_, rfl⟩
      simp only [ha1, ha2] at HA1 HA2 HAb hRR
      clear ha1 ha2 HE HRR HN1 HV
      refine region_at 8 (Pick [IsV (.agg #[.int .u64 (p : Int), .int .u64 (q : Int)]), IsV (.agg #[.int .u64 9218868437227405312, .int .u64 18442240474082181120]), IsV (.bool false), IsV (.bool false), IsV (.agg #[.int .u64 (p2 : Int), .int .u64 (q2 : Int)]), IsV (.agg #[.int .u64 9218868437227405312, .int .u64 18442240474082181120]), IsV (.bool false), IsV (.bool false)]) (by kernel_rfl) (by kernel_rfl) (by kernel_rfl) (mono_pick ⟨IsV.mono _, IsV.mono _, IsV.mono _, IsV.mono _, IsV.mono _, IsV.mono _, IsV.mono _, IsV.mono _, trivial⟩) ⟨?_, ?_, ?_, ?_, ?_, ?_, ?_, ?_, trivial⟩ ?_
      · intro a W hsz hb hS
        have h5 : a.tmps.getD 5 undef = .pointer (some ⟨w1.heap.size, 0, none⟩) := hS.1
        clear hS hsz
        refine will_of rfl ?_
        obtain ⟨⟨c0, c1, c2, c3⟩, ⟨d0, d1, d2, d3⟩, hz1, hz2⟩ := (hS3.out.later hb).facts
        intro K hK
        go_simp
        exact hK _ _ ⟨Below.refl _ _, rfl⟩
      · intro a W hsz hb hS
        clear hS hsz
        refine will_of rfl ?_
        obtain ⟨⟨c0, c1, c2, c3⟩, ⟨d0, d1, d2, d3⟩, hz1, hz2⟩ := (hS3.out.later hb).facts
        intro K hK
        go_simp
        refine (empty6_any _).mono ?_
        rintro e W' ⟨rfl, hb'⟩
        exact hK _ _ ⟨hb', rfl⟩
      · intro a W hsz hb hS
        have h13 : a.tmps.getD 13 undef = .agg #[.int .u64 (p : Int), .int .u64 (q : Int)] := hS.1
        have h14 : a.tmps.getD 14 undef = .agg #[.int .u64 9218868437227405312, .int .u64 18442240474082181120] := hS.2.1
        clear hS hsz
        refine will_of rfl ?_
        intro K hK
        go_simp
        exact hK _ _ ⟨Below.refl _ _, rfl⟩
      · intro a W hsz hb hS
        have h15 : a.tmps.getD 15 undef = .bool false := hS.1
        clear hS hsz
        refine will_of rfl ?_
        intro K hK
        go_simp
        exact hK _ _ ⟨Below.refl _ _, rfl⟩
      · intro a W hsz hb hS
        have h6 : a.tmps.getD 6 undef = .pointer (some ⟨w2.heap.size, 0, none⟩) := hS.1
        have h16 : a.tmps.getD 16 undef = .bool false := hS.2.1
        clear hS hsz
        refine will_yes rfl rfl h16 ?_
        obtain ⟨⟨c0, c1, c2, c3⟩, ⟨d0, d1, d2, d3⟩, hz1, hz2⟩ := (hS3.out.later hb).facts
        intro K hK
        go_simp
        exact hK _ _ ⟨Below.refl _ _, rfl⟩
      · intro a W hsz hb hS
        have h16 : a.tmps.getD 16 undef = .bool false := hS.1
        clear hS hsz
        refine will_yes rfl rfl h16 ?_
        obtain ⟨⟨c0, c1, c2, c3⟩, ⟨d0, d1, d2, d3⟩, hz1, hz2⟩ := (hS3.out.later hb).facts
        intro K hK
        go_simp
        refine (empty6_any _).mono ?_
        rintro e W' ⟨rfl, hb'⟩
        exact hK _ _ ⟨hb', rfl⟩
      · intro a W hsz hb hS
        have h17 : a.tmps.getD 17 undef = .agg #[.int .u64 (p2 : Int), .int .u64 (q2 : Int)] := hS.1
        have h18 : a.tmps.getD 18 undef = .agg #[.int .u64 9218868437227405312, .int .u64 18442240474082181120] := hS.2.1
        have h16 : a.tmps.getD 16 undef = .bool false := hS.2.2.1
        clear hS hsz
        refine will_yes rfl rfl h16 ?_
        intro K hK
        go_simp
        exact hK _ _ ⟨Below.refl _ _, rfl⟩
      · intro a W hsz hb hS
        have h16 : a.tmps.getD 16 undef = .bool false := hS.1
        have h19 : a.tmps.getD 19 undef = .bool false := hS.2.1
        clear hS hsz
        refine will_of rfl ?_
        intro K hK
        go_simp
        exact hK _ _ ⟨Below.refl _ _, rfl⟩
      intro f W hb hH
      have e0 : f 0 = .agg #[.int .u64 (p : Int), .int .u64 (q : Int)] := hH.1
      have e1 : f 1 = .agg #[.int .u64 9218868437227405312, .int .u64 18442240474082181120] := hH.2.1
      have e2 : f 2 = .bool false := hH.2.2.1
      have e3 : f 3 = .bool false := hH.2.2.2.1
      have e4 : f 4 = .agg #[.int .u64 (p2 : Int), .int .u64 (q2 : Int)] := hH.2.2.2.2.1
      have e5 : f 5 = .agg #[.int .u64 9218868437227405312, .int .u64 18442240474082181120] := hH.2.2.2.2.2.1
      have e6 : f 6 = .bool false := hH.2.2.2.2.2.2.1
      have e7 : f 7 = .bool false := hH.2.2.2.2.2.2.2.1
      simp only [List.take_succ_cons, List.take_zero, List.drop_succ_cons, List.drop_zero, putFrom, Act.put, List.setIfInBounds_toArray, List.set_cons_zero, List.set_cons_succ, Nat.reduceAdd, e0, e1, e2, e3, e4, e5, e6, e7]
      clear e0 e1 e2 e3 e4 e5 e6 e7 hH f
      have hS4 := Lib.hid (hS3.out.later hb)
      clear hb c0 c1 c2 c3 d0 d1 d2 d3 hz1 hz2
      clear hne hne2
      obtain ⟨⟨c0, c1, c2, c3⟩, ⟨d0, d1, d2, d3⟩, hz1, hz2⟩ := hS4.out.facts
      go_wp2_with fail
      refine (HA1.out _).mono ?_
      rintro en w3 ⟨_, rfl, rfl, hb3⟩
      have hS5 := Lib.hid (hS4.out.later hb3)
      clear hb3 c0 c1 c2 c3 d0 d1 d2 d3 hz1 hz2
      obtain ⟨⟨c0, c1, c2, c3⟩, ⟨d0, d1, d2, d3⟩, hz1, hz2⟩ := hS5.out.facts
      go_wp2_with fail
      refine (HA2.out _).mono ?_
      rintro en w4 ⟨_, rfl, rfl, hb4⟩
      have hS6 := Lib.hid (hS5.out.later hb4)
      clear hb4 c0 c1 c2 c3 d0 d1 d2 d3 hz1 hz2
      go_wp2_with fail
      refine (HAb.out _).mono ?_
      rintro en w5 ⟨rfl, rfl⟩
      by_cases hc : a2 < a1
      · rw [decide_eq_true hc]
        have e : R = a1 := by rw [← hRR.out]; omega
        subst e
        clear hc hRR
        go_wp2
        go_ret
        exact ⟨rfl, hS6.out.2.2⟩
      · rw [decide_eq_false hc]
        have e : R = a2 := by rw [← hRR.out]; omega
        subst e
        clear hc hRR
        go_wp2
        go_ret
        exact ⟨rfl, hS6.out.2.2⟩

set_option maxRecDepth 20000 in
set_option maxHeartbeats 4000000 in
theorem dists_any (x y x2 y2 : Nat) (hx : x < 18446744073709551616) (hy : y < 18446744073709551616) (hx2 : x2 < 18446744073709551616) (hy2 : y2 < 18446744073709551616) (w : World) :
    Calls Try.prog 8 #[.agg #[.int .u64 (x : Int), .int .u64 (y : Int)], .agg #[.int .u64 (x2 : Int), .int .u64 (y2 : Int)]] w fun e w' => e = .returned (.bool true) ∧ Below w.heap.size w w' := by
  have HI1 := Lib.hid (fun W => in_any x y hx hy W)
  have HI2 := Lib.hid (fun W => in_any x2 y2 hx2 hy2 W)
  have M1 := Lib.hid (fun W => dist_any x y x2 y2 hx hy hx2 hy2 W)
  have R1 := Lib.hid (fun W => rdist_any x y x2 y2 hx hy hx2 hy2 W)
  have S1 := Lib.hid (fun W => isb_any (fdist x y x2 y2) (fdist_lt x y x2 y2) W)
  have hS0 := Lib.hid (Sr.new2 w (.int .u64 (x : Int)) (.int .u64 (y : Int)) (.int .u64 (x2 : Int)) (.int .u64 (y2 : Int)))
  obtain ⟨p, hp⟩ : ∃ p, fdist x y x2 y2 = p := ⟨_, rfl⟩
  simp only [hp] at M1 R1 S1
  clear hp hx hy hx2 hy2
  go_enter Try.func8, Try.ntmps8
  go_upto_region 1 with fail
  refine region_at 10 (Pick [IsV (.agg #[.int .u64 (x : Int), .int .u64 (y : Int)]), IsV (.agg #[.float .f64 x, .float .f64 y]), IsV (.agg #[.int .u64 (x2 : Int), .int .u64 (y2 : Int)]), IsV (.agg #[.float .f64 x2, .float .f64 y2]), IsV (.float .f64 p), IsV (.agg #[.int .u64 (x : Int), .int .u64 (y : Int)]), IsV (.agg #[.int .u64 (x2 : Int), .int .u64 (y2 : Int)]), IsV (.int .u64 (p : Int)), IsV (.bool true), IsV (.bool true)]) (by kernel_rfl) (by kernel_rfl) (by kernel_rfl) (mono_pick ⟨IsV.mono _, IsV.mono _, IsV.mono _, IsV.mono _, IsV.mono _, IsV.mono _, IsV.mono _, IsV.mono _, IsV.mono _, IsV.mono _, trivial⟩) ⟨?_, ?_, ?_, ?_, ?_, ?_, ?_, ?_, ?_, ?_, trivial⟩ ?_
  · intro a W hsz hb hS
    have h2 : a.tmps.getD 2 undef = .pointer (some ⟨w.heap.size, 0, none⟩) := hS.1
    clear hS hsz
    refine will_of rfl ?_
    obtain ⟨⟨c0, c1, c2, c3⟩, ⟨d0, d1, d2, d3⟩, hz1, hz2⟩ := (hS0.out.later hb).facts
    intro K hK
    go_simp
    exact hK _ _ ⟨Below.refl _ _, rfl⟩
  · intro a W hsz hb hS
    have h5 : a.tmps.getD 5 undef = .agg #[.int .u64 (x : Int), .int .u64 (y : Int)] := hS.1
    clear hS hsz
    refine will_of rfl ?_
    obtain ⟨⟨c0, c1, c2, c3⟩, ⟨d0, d1, d2, d3⟩, hz1, hz2⟩ := (hS0.out.later hb).facts
    intro K hK
    go_simp
    refine (HI1.out _).mono ?_
    rintro e W' ⟨rfl, hb'⟩
    exact hK _ _ ⟨hb', rfl⟩
  · intro a W hsz hb hS
    have h3 : a.tmps.getD 3 undef = .pointer (some ⟨w.heap.size + 1, 0, none⟩) := hS.1
    clear hS hsz
    refine will_of rfl ?_
    obtain ⟨⟨c0, c1, c2, c3⟩, ⟨d0, d1, d2, d3⟩, hz1, hz2⟩ := (hS0.out.later hb).facts
    intro K hK
    go_simp
    exact hK _ _ ⟨Below.refl _ _, rfl⟩
  · intro a W hsz hb hS
    have h7 : a.tmps.getD 7 undef = .agg #[.int .u64 (x2 : Int), .int .u64 (y2 : Int)] := hS.1
    clear hS hsz
    refine will_of rfl ?_
    obtain ⟨⟨c0, c1, c2, c3⟩, ⟨d0, d1, d2, d3⟩, hz1, hz2⟩ := (hS0.out.later hb).facts
    intro K hK
    go_simp
    refine (HI2.out _).mono ?_
    rintro e W' ⟨rfl, hb'⟩
    exact hK _ _ ⟨hb', rfl⟩
  · intro a W hsz hb hS
    have h6 : a.tmps.getD 6 undef = .agg #[.float .f64 x, .float .f64 y] := hS.1
    have h8 : a.tmps.getD 8 undef = .agg #[.float .f64 x2, .float .f64 y2] := hS.2.1
    clear hS hsz
    refine will_of rfl ?_
    obtain ⟨⟨c0, c1, c2, c3⟩, ⟨d0, d1, d2, d3⟩, hz1, hz2⟩ := (hS0.out.later hb).facts
    intro K hK
    go_simp
    refine (M1.out _).mono ?_
    rintro e W' ⟨rfl, hb'⟩
    exact hK _ _ ⟨hb', rfl⟩
  · intro a W hsz hb hS
    have h2 : a.tmps.getD 2 undef = .pointer (some ⟨w.heap.size, 0, none⟩) := hS.1
    clear hS hsz
    refine will_of rfl ?_
    obtain ⟨⟨c0, c1, c2, c3⟩, ⟨d0, d1, d2, d3⟩, hz1, hz2⟩ := (hS0.out.later hb).facts
    intro K hK
    go_simp
    exact hK _ _ ⟨Below.refl _ _, rfl⟩
  · intro a W hsz hb hS
    have h3 : a.tmps.getD 3 undef = .pointer (some ⟨w.heap.size + 1, 0, none⟩) := hS.1
    clear hS hsz
    refine will_of rfl ?_
    obtain ⟨⟨c0, c1, c2, c3⟩, ⟨d0, d1, d2, d3⟩, hz1, hz2⟩ := (hS0.out.later hb).facts
    intro K hK
    go_simp
    exact hK _ _ ⟨Below.refl _ _, rfl⟩
  · intro a W hsz hb hS
    have h10 : a.tmps.getD 10 undef = .agg #[.int .u64 (x : Int), .int .u64 (y : Int)] := hS.1
    have h11 : a.tmps.getD 11 undef = .agg #[.int .u64 (x2 : Int), .int .u64 (y2 : Int)] := hS.2.1
    clear hS hsz
    refine will_of rfl ?_
    obtain ⟨⟨c0, c1, c2, c3⟩, ⟨d0, d1, d2, d3⟩, hz1, hz2⟩ := (hS0.out.later hb).facts
    intro K hK
    go_simp
    refine (R1.out _).mono ?_
    rintro e W' ⟨rfl, hb'⟩
    exact hK _ _ ⟨hb', rfl⟩
  · intro a W hsz hb hS
    have h9 : a.tmps.getD 9 undef = .float .f64 p := hS.1
    have h12 : a.tmps.getD 12 undef = .int .u64 (p : Int) := hS.2.1
    clear hS hsz
    refine will_of rfl ?_
    obtain ⟨⟨c0, c1, c2, c3⟩, ⟨d0, d1, d2, d3⟩, hz1, hz2⟩ := (hS0.out.later hb).facts
    intro K hK
    go_simp
    refine (S1.out _).mono ?_
    rintro e W' ⟨rfl, rfl⟩
    exact hK _ _ ⟨Below.refl _ _, rfl⟩
  · intro a W hsz hb hS
    have h13 : a.tmps.getD 13 undef = .bool true := hS.1
    clear hS hsz
    refine will_of rfl ?_
    intro K hK
    go_simp
    exact hK _ _ ⟨Below.refl _ _, rfl⟩
  intro f W hb hH
  have e0 : f 0 = .agg #[.int .u64 (x : Int), .int .u64 (y : Int)] := hH.1
  have e1 : f 1 = .agg #[.float .f64 x, .float .f64 y] := hH.2.1
  have e2 : f 2 = .agg #[.int .u64 (x2 : Int), .int .u64 (y2 : Int)] := hH.2.2.1
  have e3 : f 3 = .agg #[.float .f64 x2, .float .f64 y2] := hH.2.2.2.1
  have e4 : f 4 = .float .f64 p := hH.2.2.2.2.1
  have e5 : f 5 = .agg #[.int .u64 (x : Int), .int .u64 (y : Int)] := hH.2.2.2.2.2.1
  have e6 : f 6 = .agg #[.int .u64 (x2 : Int), .int .u64 (y2 : Int)] := hH.2.2.2.2.2.2.1
  have e7 : f 7 = .int .u64 (p : Int) := hH.2.2.2.2.2.2.2.1
  have e8 : f 8 = .bool true := hH.2.2.2.2.2.2.2.2.1
  have e9 : f 9 = .bool true := hH.2.2.2.2.2.2.2.2.2.1
  simp only [List.take_succ_cons, List.take_zero, List.drop_succ_cons, List.drop_zero, putFrom, Act.put, List.setIfInBounds_toArray, List.set_cons_zero, List.set_cons_succ, Nat.reduceAdd, e0, e1, e2, e3, e4, e5, e6, e7, e8, e9]
  clear e0 e1 e2 e3 e4 e5 e6 e7 e8 e9 hH f
  have HW := Lib.hid (hS0.out.later hb).2.2
  clear hb
  go_wp2
  go_ret
  exact ⟨rfl, HW.out⟩
theorem dists_row (x y x2 y2 : Nat) (w : World) (hx : x < 18446744073709551616) (hy : y < 18446744073709551616) (hx2 : x2 < 18446744073709551616) (hy2 : y2 < 18446744073709551616) :
    Calls Try.prog 8 #[.agg #[.int .u64 (x : Int), .int .u64 (y : Int)], .agg #[.int .u64 (x2 : Int), .int .u64 (y2 : Int)]] w fun e w' => e = .returned (.bool true) ∧ Below w.heap.size w w' := dists_any x y x2 y2 hx hy hx2 hy2 w
end Go.Proofs.Ytmmbbkeefphaiaa
