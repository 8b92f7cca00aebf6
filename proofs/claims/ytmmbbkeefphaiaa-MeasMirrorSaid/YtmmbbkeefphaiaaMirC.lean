/- The law MeasMirror: the walk. -/
import Derived.Test.YtmmbbkeefphaiaaMirB
namespace Go.Proofs.Ytmmbbkeefphaiaa
set_option linter.unusedVariables false
set_option linter.unusedSimpArgs false
open Go.RowKit Verge

theorem mid_const' : fmid 4607182418800017408 4613937818241073152 = 4611686018427387904 := by decide +kernel
theorem fmag_lt {p q : Nat} (hp : p < 18446744073709551616) (hq : q < 18446744073709551616) : fmag p q < 18446744073709551616 := by
  unfold fmag fabs; split <;> omega
theorem fmig_lt {p q : Nat} (hp : p < 18446744073709551616) (hq : q < 18446744073709551616) : fmig p q < 18446744073709551616 := by
  unfold fmig fabs; split <;> (try split) <;> omega

set_option maxRecDepth 20000 in
set_option maxHeartbeats 8000000 in
theorem mirror_row (x y : Nat) (w : World) (hx : x < 18446744073709551616) (hy : y < 18446744073709551616) :
    Calls Try.prog 12 #[.agg #[.int .u64 (x : Int), .int .u64 (y : Int)]] w fun e w' => e = .returned (.bool true) ∧ Below w.heap.size w w' := by
  have HR := Lib.hid (fun W => read6_any x y hx hy W)
  have HM0 : Hid (∀ W, Calls Try.prog 33 #[.agg #[.float .f64 4607182418800017408, .float .f64 4613937818241073152]] W fun e w' => e = .returned (.float .f64 4611686018427387904) ∧ Below W.heap.size W w') :=
    Lib.hid (fun W => by have := mid_any 4607182418800017408 4613937818241073152 (by omega) (by omega) W; rw [mid_const'] at this; exact this)
  have oc : (FloatKind.f64.format.order 4611686018427387904 4611686018427387904 != some .eq) = false := (f_self (by omega)).trans (decide_eq_false (by decide))
  have HB := Lib.hid (rnew w (.cells #[.int .u64 (x : Int), .int .u64 (y : Int)] 24))
  have HI := Lib.hid (BI.new w (.int .u64 (x : Int)) (.int .u64 (y : Int)))
  by_cases hs : fsound x y = true
  · have hE := ends_of hx hy hs
    obtain ⟨p, hp⟩ : ∃ p, flo x y = p := ⟨_, rfl⟩
    obtain ⟨q, hq⟩ : ∃ q, fhi x y = q := ⟨_, rfl⟩
    simp only [hp, hq] at HR hE
    clear hp hq hs hx hy
    have hne : ¬ ((p : Int) = 9218868437227405312) := by have := hE.2.2.2.2.1; omega
    have hM := hE.mirror
    obtain ⟨f1, f2, f3, f4, f5, g1, g2, g3, g4, g5⟩ := mirror_facts hE
    have HN := Lib.hid (fun W => neg6_any hE W)
    have i1 := Lib.hid (fun W => in_any p q hE.1 hE.2.1 W)
    have i2 := Lib.hid (fun W => in_any (mneg q) (mneg p) hM.1 hM.2.1 W)
    have r1 := Lib.hid (fun W => midrad_any p q hE.1 hE.2.1 W)
    have r2 := Lib.hid (fun W => midrad_any (mneg q) (mneg p) hM.1 hM.2.1 W)
    have k1 := Lib.hid (fun W => wid_any p q hE.1 hE.2.1 W)
    have k2 := Lib.hid (fun W => wid_any (mneg q) (mneg p) hM.1 hM.2.1 W)
    have a1 := Lib.hid (fun W => mag_any p q hE.1 hE.2.1 W)
    have a2 := Lib.hid (fun W => mag_any (mneg q) (mneg p) hM.1 hM.2.1 W)
    have b1 := Lib.hid (fun W => mig_any p q hE.1 hE.2.1 W)
    have b2 := Lib.hid (fun W => mig_any (mneg q) (mneg p) hM.1 hM.2.1 W)
    rw [f1, f2] at r2
    rw [f3] at k2
    rw [f4] at a2
    rw [f5] at b2
    have o1 := o_mirror g1
    have o2 := o_same (frad_lt p q) g2
    have o3 := o_same (fwid_lt p q) g3
    have o4 := o_same (fmag_lt hE.1 hE.2.1) g4
    have o5 := o_same (fmig_lt hE.1 hE.2.1) g5
    have hn : ∀ W : World, (Op.unary .neg (.float .f64 (mneg (fmid p q)))).run Try.prog W = .ok (.float .f64 (fneg (mneg (fmid p q)))) W := fun W => run_neg_f _ (mneg_pt g1).1 W
    obtain ⟨p', hp'⟩ : ∃ p', mneg q = p' := ⟨_, rfl⟩
    obtain ⟨q', hq'⟩ : ∃ p', mneg p = p' := ⟨_, rfl⟩
    obtain ⟨m, hm⟩ : ∃ p', fmid p q = p' := ⟨_, rfl⟩
    obtain ⟨r, hr⟩ : ∃ p', frad p q = p' := ⟨_, rfl⟩
    obtain ⟨wd, hwd⟩ : ∃ p', fwid p q = p' := ⟨_, rfl⟩
    obtain ⟨g, hg⟩ : ∃ p', fmag p q = p' := ⟨_, rfl⟩
    obtain ⟨l, hl⟩ : ∃ p', fmig p q = p' := ⟨_, rfl⟩
    simp only [hp', hq', hm, hr, hwd, hg, hl] at HN i2 r1 r2 k1 k2 a1 a2 b1 b2 o1 o2 o3 o4 o5 hn
    obtain ⟨n, hnn⟩ : ∃ p', mneg m = p' := ⟨_, rfl⟩
    simp only [hnn] at r2 o1 hn
    obtain ⟨k, hk⟩ : ∃ p', fneg n = p' := ⟨_, rfl⟩
    simp only [hk] at o1 hn
    clear hp' hq' hm hnn hk hr hwd hg hl f1 f2 f3 f4 f5 g1 g2 g3 g4 g5 hM hE
    have HO := Lib.hid (And.intro (And.intro o1 o2) (And.intro o3 (And.intro o4 o5)))
    have HNN := Lib.hid hn
    clear o1 o2 o3 o4 o5 hn
    go_enter Try.func12, Try.ntmps12
    go_wp2_with fail
    refine (HM0.out _).mono ?_
    rintro en w1 ⟨rfl, hb⟩
    have HB := Lib.hid (raft HB.out hb)
    have HI := Lib.hid (HI.out.later hb)
    clear hb HM0
    obtain ⟨i0, j0⟩ := HI.out.cells
    go_wp2_with fail
    refine (HR.out _).mono ?_
    rintro en w2 ⟨rfl, hb⟩
    have hb := raft hb (rnew w2 (.cells #[.int .u64 (p : Int), .int .u64 (q : Int)] 24))
    have HB := Lib.hid (raft HB.out hb)
    have H3 := Lib.hid (BI.new w2 (.int .u64 (p : Int)) (.int .u64 (q : Int)))
    clear hb HR HI i0 j0
    obtain ⟨c0, c1⟩ := H3.out.cells
    go_wp2_with fail
    refine (HN.out _).mono ?_
    rintro en w3 ⟨rfl, hb⟩
    have hb := raft hb (rnew w3 (.cells #[.int .u64 (p' : Int), .int .u64 (q' : Int)] 24))
    have HB := Lib.hid (raft HB.out hb)
    have H3 := Lib.hid (H3.out.later hb)
    have H4 := Lib.hid (BI.new w3 (.int .u64 (p' : Int)) (.int .u64 (q' : Int)))
    clear hb c0 c1
    obtain ⟨c0, c1⟩ := H3.out.cells
    go_wp2_with fail
    refine (i1.out _).mono ?_
    rintro en w4 ⟨rfl, hb⟩
    have HB := Lib.hid (raft HB.out hb)
    have H3 := Lib.hid (H3.out.later hb)
    have H4 := Lib.hid (H4.out.later hb)
    clear hb c0 c1
    go_wp2_with fail
    refine (r1.out _).mono ?_
    rintro en w5 ⟨rfl, hb⟩
    have HB := Lib.hid (raft HB.out hb)
    have H3 := Lib.hid (H3.out.later hb)
    have H4 := Lib.hid (H4.out.later hb)
    clear hb
    obtain ⟨c0, c1⟩ := H4.out.cells
    go_wp2_with fail
    refine (i2.out _).mono ?_
    rintro en w6 ⟨rfl, hb⟩
    have HB := Lib.hid (raft HB.out hb)
    have H3 := Lib.hid (H3.out.later hb)
    have H4 := Lib.hid (H4.out.later hb)
    clear hb c0 c1
    go_wp2_with fail
    refine (r2.out _).mono ?_
    rintro en w7 ⟨rfl, hb⟩
    have HB := Lib.hid (raft HB.out hb)
    have H3 := Lib.hid (H3.out.later hb)
    have H4 := Lib.hid (H4.out.later hb)
    clear hb
    go_upto_region 7 with fail
    refine region_at 3 (Pick [IsV (.agg #[.int .u64 (p : Int), .int .u64 (q : Int)]), IsV (.agg #[.int .u64 9218868437227405312, .int .u64 18442240474082181120]), IsV (.bool false)]) (by kernel_rfl) (by kernel_rfl) (by kernel_rfl) (mono_pick ⟨IsV.mono _, IsV.mono _, IsV.mono _, trivial⟩) ⟨?_, ?_, ?_, trivial⟩ ?_
    · intro a W hsz hb hS
      have h3 : a.tmps.getD 3 undef = .pointer (some ⟨w2.heap.size, 0, none⟩) := hS.1
      clear hS hsz
      refine will_of rfl ?_
      obtain ⟨j0, j1⟩ := (H3.out.later hb).cells
      intro K hK
      go_simp
      exact hK _ _ ⟨Below.refl _ _, rfl⟩
    · intro a W hsz hb hS
      clear hS hsz
      refine will_of rfl ?_
      obtain ⟨j0, j1⟩ := (H3.out.later hb).cells
      intro K hK
      go_simp
      refine (empty6_any _).mono ?_
      rintro e W' ⟨rfl, hb'⟩
      exact hK _ _ ⟨hb', rfl⟩
    · intro a W hsz hb hS
      have h28 : a.tmps.getD 28 undef = .agg #[.int .u64 (p : Int), .int .u64 (q : Int)] := hS.1
      have h29 : a.tmps.getD 29 undef = .agg #[.int .u64 9218868437227405312, .int .u64 18442240474082181120] := hS.2.1
      clear hS hsz
      refine will_of rfl ?_
      intro K hK
      go_simp
      exact hK _ _ ⟨Below.refl _ _, rfl⟩
    intro f W hb hH
    have e0 : f 0 = .agg #[.int .u64 (p : Int), .int .u64 (q : Int)] := hH.1
    have e1 : f 1 = .agg #[.int .u64 9218868437227405312, .int .u64 18442240474082181120] := hH.2.1
    have e2 : f 2 = .bool false := hH.2.2.1
    simp only [List.take_succ_cons, List.take_zero, List.drop_succ_cons, List.drop_zero, putFrom, Act.put, List.setIfInBounds_toArray, List.set_cons_zero, List.set_cons_succ, Nat.reduceAdd, e0, e1, e2]
    clear e0 e1 e2 hH f
    have HB := Lib.hid (raft HB.out hb)
    have H3 := Lib.hid (H3.out.later hb)
    have H4 := Lib.hid (H4.out.later hb)
    clear hb hne
    go_upto_region 9 with fail
    refine region_at 37 (Pick [IsV (.float .f64 m), IsV (.float .f64 n), IsV (.float .f64 k), IsV (.bool true), IsV (.bool true), IsV (.float .f64 r), IsV (.float .f64 r), IsV (.bool true), IsV (.bool true), IsV (.bool true), IsV (.agg #[.int .u64 (p : Int), .int .u64 (q : Int)]), IsV (.agg #[.float .f64 p, .float .f64 q]), IsV (.float .f64 wd), IsV (.agg #[.int .u64 (p' : Int), .int .u64 (q' : Int)]), IsV (.agg #[.float .f64 p', .float .f64 q']), IsV (.float .f64 wd), IsV (.bool true), IsV (.bool true), IsV (.bool true), IsV (.agg #[.int .u64 (p : Int), .int .u64 (q : Int)]), IsV (.agg #[.float .f64 p, .float .f64 q]), IsV (.float .f64 g), IsV (.agg #[.int .u64 (p' : Int), .int .u64 (q' : Int)]), IsV (.agg #[.float .f64 p', .float .f64 q']), IsV (.float .f64 g), IsV (.bool true), IsV (.bool true), IsV (.bool true), IsV (.agg #[.int .u64 (p : Int), .int .u64 (q : Int)]), IsV (.agg #[.float .f64 p, .float .f64 q]), IsV (.float .f64 l), IsV (.agg #[.int .u64 (p' : Int), .int .u64 (q' : Int)]), IsV (.agg #[.float .f64 p', .float .f64 q']), IsV (.float .f64 l), IsV (.bool true), IsV (.bool true), IsV (.bool true)]) (by kernel_rfl) (by kernel_rfl) (by kernel_rfl) (mono_pick ⟨IsV.mono _, IsV.mono _, IsV.mono _, IsV.mono _, IsV.mono _, IsV.mono _, IsV.mono _, IsV.mono _, IsV.mono _, IsV.mono _, IsV.mono _, IsV.mono _, IsV.mono _, IsV.mono _, IsV.mono _, IsV.mono _, IsV.mono _, IsV.mono _, IsV.mono _, IsV.mono _, IsV.mono _, IsV.mono _, IsV.mono _, IsV.mono _, IsV.mono _, IsV.mono _, IsV.mono _, IsV.mono _, IsV.mono _, IsV.mono _, IsV.mono _, IsV.mono _, IsV.mono _, IsV.mono _, IsV.mono _, IsV.mono _, IsV.mono _, trivial⟩) ⟨?_, ?_, ?_, ?_, ?_, ?_, ?_, ?_, ?_, ?_, ?_, ?_, ?_, ?_, ?_, ?_, ?_, ?_, ?_, ?_, ?_, ?_, ?_, ?_, ?_, ?_, ?_, ?_, ?_, ?_, ?_, ?_, ?_, ?_, ?_, ?_, ?_, trivial⟩ ?_
    · intro a W hsz hb hS
      have h5 : a.tmps.getD 5 undef = .float .f64 m := hS.1
      clear hS hsz
      refine will_of rfl ?_
      intro K hK
      go_simp
      exact hK _ _ ⟨Below.refl _ _, rfl⟩
    · intro a W hsz hb hS
      have h7 : a.tmps.getD 7 undef = .float .f64 n := hS.1
      clear hS hsz
      refine will_of rfl ?_
      intro K hK
      go_simp
      exact hK _ _ ⟨Below.refl _ _, rfl⟩
    · intro a W hsz hb hS
      have h50 : a.tmps.getD 50 undef = .float .f64 n := hS.1
      clear hS hsz
      refine will_of rfl ?_
      intro K hK
      have hn := HNN.out
      go_simp
      exact hK _ _ ⟨Below.refl _ _, rfl⟩
    · intro a W hsz hb hS
      have h49 : a.tmps.getD 49 undef = .float .f64 m := hS.1
      have h51 : a.tmps.getD 51 undef = .float .f64 k := hS.2.1
      clear hS hsz
      refine will_of rfl ?_
      intro K hK
      have oo := HO.out.1.1
      go_simp
      exact hK _ _ ⟨Below.refl _ _, rfl⟩
    · intro a W hsz hb hS
      have h52 : a.tmps.getD 52 undef = .bool true := hS.1
      clear hS hsz
      refine will_of rfl ?_
      intro K hK
      go_simp
      exact hK _ _ ⟨Below.refl _ _, rfl⟩
    · intro a W hsz hb hS
      have h6 : a.tmps.getD 6 undef = .float .f64 r := hS.1
      have h53 : a.tmps.getD 53 undef = .bool true := hS.2.1
      clear hS hsz
      refine will_yes rfl rfl h53 ?_
      intro K hK
      go_simp
      exact hK _ _ ⟨Below.refl _ _, rfl⟩
    · intro a W hsz hb hS
      have h8 : a.tmps.getD 8 undef = .float .f64 r := hS.1
      have h53 : a.tmps.getD 53 undef = .bool true := hS.2.1
      clear hS hsz
      refine will_yes rfl rfl h53 ?_
      intro K hK
      go_simp
      exact hK _ _ ⟨Below.refl _ _, rfl⟩
    · intro a W hsz hb hS
      have h54 : a.tmps.getD 54 undef = .float .f64 r := hS.1
      have h55 : a.tmps.getD 55 undef = .float .f64 r := hS.2.1
      have h53 : a.tmps.getD 53 undef = .bool true := hS.2.2.1
      clear hS hsz
      refine will_yes rfl rfl h53 ?_
      intro K hK
      have oo := HO.out.1.2
      go_simp
      exact hK _ _ ⟨Below.refl _ _, rfl⟩
    · intro a W hsz hb hS
      have h53 : a.tmps.getD 53 undef = .bool true := hS.1
      have h56 : a.tmps.getD 56 undef = .bool true := hS.2.1
      clear hS hsz
      refine will_of rfl ?_
      intro K hK
      go_simp
      exact hK _ _ ⟨Below.refl _ _, rfl⟩
    · intro a W hsz hb hS
      have h57 : a.tmps.getD 57 undef = .bool true := hS.1
      clear hS hsz
      refine will_of rfl ?_
      intro K hK
      go_simp
      exact hK _ _ ⟨Below.refl _ _, rfl⟩
    · intro a W hsz hb hS
      have h3 : a.tmps.getD 3 undef = .pointer (some ⟨w2.heap.size, 0, none⟩) := hS.1
      have h58 : a.tmps.getD 58 undef = .bool true := hS.2.1
      clear hS hsz
      refine will_yes rfl rfl h58 ?_
      obtain ⟨j0, j1⟩ := (H3.out.later hb).cells
      obtain ⟨l0, l1⟩ := (H4.out.later hb).cells
      intro K hK
      go_simp
      exact hK _ _ ⟨Below.refl _ _, rfl⟩
    · intro a W hsz hb hS
      have h59 : a.tmps.getD 59 undef = .agg #[.int .u64 (p : Int), .int .u64 (q : Int)] := hS.1
      have h58 : a.tmps.getD 58 undef = .bool true := hS.2.1
      clear hS hsz
      refine will_yes rfl rfl h58 ?_
      obtain ⟨j0, j1⟩ := (H3.out.later hb).cells
      obtain ⟨l0, l1⟩ := (H4.out.later hb).cells
      intro K hK
      go_simp
      refine (i1.out _).mono ?_
      rintro e W' ⟨rfl, hb'⟩
      exact hK _ _ ⟨hb', rfl⟩
    · intro a W hsz hb hS
      have h60 : a.tmps.getD 60 undef = .agg #[.float .f64 p, .float .f64 q] := hS.1
      have h58 : a.tmps.getD 58 undef = .bool true := hS.2.1
      clear hS hsz
      refine will_yes rfl rfl h58 ?_
      obtain ⟨j0, j1⟩ := (H3.out.later hb).cells
      obtain ⟨l0, l1⟩ := (H4.out.later hb).cells
      intro K hK
      go_simp
      refine (k1.out _).mono ?_
      rintro e W' ⟨rfl, hb'⟩
      exact hK _ _ ⟨hb', rfl⟩
    · intro a W hsz hb hS
      have h4 : a.tmps.getD 4 undef = .pointer (some ⟨w3.heap.size, 0, none⟩) := hS.1
      have h58 : a.tmps.getD 58 undef = .bool true := hS.2.1
      clear hS hsz
      refine will_yes rfl rfl h58 ?_
      obtain ⟨j0, j1⟩ := (H3.out.later hb).cells
      obtain ⟨l0, l1⟩ := (H4.out.later hb).cells
      intro K hK
      go_simp
      exact hK _ _ ⟨Below.refl _ _, rfl⟩
    · intro a W hsz hb hS
      have h62 : a.tmps.getD 62 undef = .agg #[.int .u64 (p' : Int), .int .u64 (q' : Int)] := hS.1
      have h58 : a.tmps.getD 58 undef = .bool true := hS.2.1
      clear hS hsz
      refine will_yes rfl rfl h58 ?_
      obtain ⟨j0, j1⟩ := (H3.out.later hb).cells
      obtain ⟨l0, l1⟩ := (H4.out.later hb).cells
      intro K hK
      go_simp
      refine (i2.out _).mono ?_
      rintro e W' ⟨rfl, hb'⟩
      exact hK _ _ ⟨hb', rfl⟩
    · intro a W hsz hb hS
      have h63 : a.tmps.getD 63 undef = .agg #[.float .f64 p', .float .f64 q'] := hS.1
      have h58 : a.tmps.getD 58 undef = .bool true := hS.2.1
      clear hS hsz
      refine will_yes rfl rfl h58 ?_
      obtain ⟨j0, j1⟩ := (H3.out.later hb).cells
      obtain ⟨l0, l1⟩ := (H4.out.later hb).cells
      intro K hK
      go_simp
      refine (k2.out _).mono ?_
      rintro e W' ⟨rfl, hb'⟩
      exact hK _ _ ⟨hb', rfl⟩
    · intro a W hsz hb hS
      have h61 : a.tmps.getD 61 undef = .float .f64 wd := hS.1
      have h64 : a.tmps.getD 64 undef = .float .f64 wd := hS.2.1
      have h58 : a.tmps.getD 58 undef = .bool true := hS.2.2.1
      clear hS hsz
      refine will_yes rfl rfl h58 ?_
      intro K hK
      have oo := HO.out.2.1
      go_simp
      exact hK _ _ ⟨Below.refl _ _, rfl⟩
    · intro a W hsz hb hS
      have h58 : a.tmps.getD 58 undef = .bool true := hS.1
      have h65 : a.tmps.getD 65 undef = .bool true := hS.2.1
      clear hS hsz
      refine will_of rfl ?_
      intro K hK
      go_simp
      exact hK _ _ ⟨Below.refl _ _, rfl⟩
    · intro a W hsz hb hS
      have h66 : a.tmps.getD 66 undef = .bool true := hS.1
      clear hS hsz
      refine will_of rfl ?_
      intro K hK
      go_simp
      exact hK _ _ ⟨Below.refl _ _, rfl⟩
    · intro a W hsz hb hS
      have h3 : a.tmps.getD 3 undef = .pointer (some ⟨w2.heap.size, 0, none⟩) := hS.1
      have h67 : a.tmps.getD 67 undef = .bool true := hS.2.1
      clear hS hsz
      refine will_yes rfl rfl h67 ?_
      obtain ⟨j0, j1⟩ := (H3.out.later hb).cells
      obtain ⟨l0, l1⟩ := (H4.out.later hb).cells
      intro K hK
      go_simp
      exact hK _ _ ⟨Below.refl _ _, rfl⟩
    · intro a W hsz hb hS
      have h68 : a.tmps.getD 68 undef = .agg #[.int .u64 (p : Int), .int .u64 (q : Int)] := hS.1
      have h67 : a.tmps.getD 67 undef = .bool true := hS.2.1
      clear hS hsz
      refine will_yes rfl rfl h67 ?_
      obtain ⟨j0, j1⟩ := (H3.out.later hb).cells
      obtain ⟨l0, l1⟩ := (H4.out.later hb).cells
      intro K hK
      go_simp
      refine (i1.out _).mono ?_
      rintro e W' ⟨rfl, hb'⟩
      exact hK _ _ ⟨hb', rfl⟩
    · intro a W hsz hb hS
      have h69 : a.tmps.getD 69 undef = .agg #[.float .f64 p, .float .f64 q] := hS.1
      have h67 : a.tmps.getD 67 undef = .bool true := hS.2.1
      clear hS hsz
      refine will_yes rfl rfl h67 ?_
      obtain ⟨j0, j1⟩ := (H3.out.later hb).cells
      obtain ⟨l0, l1⟩ := (H4.out.later hb).cells
      intro K hK
      go_simp
      refine (a1.out _).mono ?_
      rintro e W' ⟨rfl, hb'⟩
      exact hK _ _ ⟨hb', rfl⟩
    · intro a W hsz hb hS
      have h4 : a.tmps.getD 4 undef = .pointer (some ⟨w3.heap.size, 0, none⟩) := hS.1
      have h67 : a.tmps.getD 67 undef = .bool true := hS.2.1
      clear hS hsz
      refine will_yes rfl rfl h67 ?_
      obtain ⟨j0, j1⟩ := (H3.out.later hb).cells
      obtain ⟨l0, l1⟩ := (H4.out.later hb).cells
      intro K hK
      go_simp
      exact hK _ _ ⟨Below.refl _ _, rfl⟩
    · intro a W hsz hb hS
      have h71 : a.tmps.getD 71 undef = .agg #[.int .u64 (p' : Int), .int .u64 (q' : Int)] := hS.1
      have h67 : a.tmps.getD 67 undef = .bool true := hS.2.1
      clear hS hsz
      refine will_yes rfl rfl h67 ?_
      obtain ⟨j0, j1⟩ := (H3.out.later hb).cells
      obtain ⟨l0, l1⟩ := (H4.out.later hb).cells
      intro K hK
      go_simp
      refine (i2.out _).mono ?_
      rintro e W' ⟨rfl, hb'⟩
      exact hK _ _ ⟨hb', rfl⟩
    · intro a W hsz hb hS
      have h72 : a.tmps.getD 72 undef = .agg #[.float .f64 p', .float .f64 q'] := hS.1
      have h67 : a.tmps.getD 67 undef = .bool true := hS.2.1
      clear hS hsz
      refine will_yes rfl rfl h67 ?_
      obtain ⟨j0, j1⟩ := (H3.out.later hb).cells
      obtain ⟨l0, l1⟩ := (H4.out.later hb).cells
      intro K hK
      go_simp
      refine (a2.out _).mono ?_
      rintro e W' ⟨rfl, hb'⟩
      exact hK _ _ ⟨hb', rfl⟩
    · intro a W hsz hb hS
      have h70 : a.tmps.getD 70 undef = .float .f64 g := hS.1
      have h73 : a.tmps.getD 73 undef = .float .f64 g := hS.2.1
      have h67 : a.tmps.getD 67 undef = .bool true := hS.2.2.1
      clear hS hsz
      refine will_yes rfl rfl h67 ?_
      intro K hK
      have oo := HO.out.2.2.1
      go_simp
      exact hK _ _ ⟨Below.refl _ _, rfl⟩
    · intro a W hsz hb hS
      have h67 : a.tmps.getD 67 undef = .bool true := hS.1
      have h74 : a.tmps.getD 74 undef = .bool true := hS.2.1
      clear hS hsz
      refine will_of rfl ?_
      intro K hK
      go_simp
      exact hK _ _ ⟨Below.refl _ _, rfl⟩
    · intro a W hsz hb hS
      have h75 : a.tmps.getD 75 undef = .bool true := hS.1
      clear hS hsz
      refine will_of rfl ?_
      intro K hK
      go_simp
      exact hK _ _ ⟨Below.refl _ _, rfl⟩
    · intro a W hsz hb hS
      have h3 : a.tmps.getD 3 undef = .pointer (some ⟨w2.heap.size, 0, none⟩) := hS.1
      have h76 : a.tmps.getD 76 undef = .bool true := hS.2.1
      clear hS hsz
      refine will_yes rfl rfl h76 ?_
      obtain ⟨j0, j1⟩ := (H3.out.later hb).cells
      obtain ⟨l0, l1⟩ := (H4.out.later hb).cells
      intro K hK
      go_simp
      exact hK _ _ ⟨Below.refl _ _, rfl⟩
    · intro a W hsz hb hS
      have h77 : a.tmps.getD 77 undef = .agg #[.int .u64 (p : Int), .int .u64 (q : Int)] := hS.1
      have h76 : a.tmps.getD 76 undef = .bool true := hS.2.1
      clear hS hsz
      refine will_yes rfl rfl h76 ?_
      obtain ⟨j0, j1⟩ := (H3.out.later hb).cells
      obtain ⟨l0, l1⟩ := (H4.out.later hb).cells
      intro K hK
      go_simp
      refine (i1.out _).mono ?_
      rintro e W' ⟨rfl, hb'⟩
      exact hK _ _ ⟨hb', rfl⟩
    · intro a W hsz hb hS
      have h78 : a.tmps.getD 78 undef = .agg #[.float .f64 p, .float .f64 q] := hS.1
      have h76 : a.tmps.getD 76 undef = .bool true := hS.2.1
      clear hS hsz
      refine will_yes rfl rfl h76 ?_
      obtain ⟨j0, j1⟩ := (H3.out.later hb).cells
      obtain ⟨l0, l1⟩ := (H4.out.later hb).cells
      intro K hK
      go_simp
      refine (b1.out _).mono ?_
      rintro e W' ⟨rfl, hb'⟩
      exact hK _ _ ⟨hb', rfl⟩
    · intro a W hsz hb hS
      have h4 : a.tmps.getD 4 undef = .pointer (some ⟨w3.heap.size, 0, none⟩) := hS.1
      have h76 : a.tmps.getD 76 undef = .bool true := hS.2.1
      clear hS hsz
      refine will_yes rfl rfl h76 ?_
      obtain ⟨j0, j1⟩ := (H3.out.later hb).cells
      obtain ⟨l0, l1⟩ := (H4.out.later hb).cells
      intro K hK
      go_simp
      exact hK _ _ ⟨Below.refl _ _, rfl⟩
    · intro a W hsz hb hS
      have h80 : a.tmps.getD 80 undef = .agg #[.int .u64 (p' : Int), .int .u64 (q' : Int)] := hS.1
      have h76 : a.tmps.getD 76 undef = .bool true := hS.2.1
      clear hS hsz
      refine will_yes rfl rfl h76 ?_
      obtain ⟨j0, j1⟩ := (H3.out.later hb).cells
      obtain ⟨l0, l1⟩ := (H4.out.later hb).cells
      intro K hK
      go_simp
      refine (i2.out _).mono ?_
      rintro e W' ⟨rfl, hb'⟩
      exact hK _ _ ⟨hb', rfl⟩
    · intro a W hsz hb hS
      have h81 : a.tmps.getD 81 undef = .agg #[.float .f64 p', .float .f64 q'] := hS.1
      have h76 : a.tmps.getD 76 undef = .bool true := hS.2.1
      clear hS hsz
      refine will_yes rfl rfl h76 ?_
      obtain ⟨j0, j1⟩ := (H3.out.later hb).cells
      obtain ⟨l0, l1⟩ := (H4.out.later hb).cells
      intro K hK
      go_simp
      refine (b2.out _).mono ?_
      rintro e W' ⟨rfl, hb'⟩
      exact hK _ _ ⟨hb', rfl⟩
    · intro a W hsz hb hS
      have h79 : a.tmps.getD 79 undef = .float .f64 l := hS.1
      have h82 : a.tmps.getD 82 undef = .float .f64 l := hS.2.1
      have h76 : a.tmps.getD 76 undef = .bool true := hS.2.2.1
      clear hS hsz
      refine will_yes rfl rfl h76 ?_
      intro K hK
      have oo := HO.out.2.2.2
      go_simp
      exact hK _ _ ⟨Below.refl _ _, rfl⟩
    · intro a W hsz hb hS
      have h76 : a.tmps.getD 76 undef = .bool true := hS.1
      have h83 : a.tmps.getD 83 undef = .bool true := hS.2.1
      clear hS hsz
      refine will_of rfl ?_
      intro K hK
      go_simp
      exact hK _ _ ⟨Below.refl _ _, rfl⟩
    · intro a W hsz hb hS
      have h84 : a.tmps.getD 84 undef = .bool true := hS.1
      clear hS hsz
      refine will_of rfl ?_
      intro K hK
      go_simp
      exact hK _ _ ⟨Below.refl _ _, rfl⟩
    intro f W hb hH
    have e0 : f 0 = .float .f64 m := hH.1
    have e1 : f 1 = .float .f64 n := hH.2.1
    have e2 : f 2 = .float .f64 k := hH.2.2.1
    have e3 : f 3 = .bool true := hH.2.2.2.1
    have e4 : f 4 = .bool true := hH.2.2.2.2.1
    have e5 : f 5 = .float .f64 r := hH.2.2.2.2.2.1
    have e6 : f 6 = .float .f64 r := hH.2.2.2.2.2.2.1
    have e7 : f 7 = .bool true := hH.2.2.2.2.2.2.2.1
    have e8 : f 8 = .bool true := hH.2.2.2.2.2.2.2.2.1
    have e9 : f 9 = .bool true := hH.2.2.2.2.2.2.2.2.2.1
    have e10 : f 10 = .agg #[.int .u64 (p : Int), .int .u64 (q : Int)] := hH.2.2.2.2.2.2.2.2.2.2.1
    have e11 : f 11 = .agg #[.float .f64 p, .float .f64 q] := hH.2.2.2.2.2.2.2.2.2.2.2.1
    have e12 : f 12 = .float .f64 wd := hH.2.2.2.2.2.2.2.2.2.2.2.2.1
    have e13 : f 13 = .agg #[.int .u64 (p' : Int), .int .u64 (q' : Int)] := hH.2.2.2.2.2.2.2.2.2.2.2.2.2.1
    have e14 : f 14 = .agg #[.float .f64 p', .float .f64 q'] := hH.2.2.2.2.2.2.2.2.2.2.2.2.2.2.1
    have e15 : f 15 = .float .f64 wd := hH.2.2.2.2.2.2.2.2.2.2.2.2.2.2.2.1
    have e16 : f 16 = .bool true := hH.2.2.2.2.2.2.2.2.2.2.2.2.2.2.2.2.1
    have e17 : f 17 = .bool true := hH.2.2.2.2.2.2.2.2.2.2.2.2.2.2.2.2.2.1
    have e18 : f 18 = .bool true := hH.2.2.2.2.2.2.2.2.2.2.2.2.2.2.2.2.2.2.1
    have e19 : f 19 = .agg #[.int .u64 (p : Int), .int .u64 (q : Int)] := hH.2.2.2.2.2.2.2.2.2.2.2.2.2.2.2.2.2.2.2.1
    have e20 : f 20 = .agg #[.float .f64 p, .float .f64 q] := hH.2.2.2.2.2.2.2.2.2.2.2.2.2.2.2.2.2.2.2.2.1
    have e21 : f 21 = .float .f64 g := hH.2.2.2.2.2.2.2.2.2.2.2.2.2.2.2.2.2.2.2.2.2.1
    have e22 : f 22 = .agg #[.int .u64 (p' : Int), .int .u64 (q' : Int)] := hH.2.2.2.2.2.2.2.2.2.2.2.2.2.2.2.2.2.2.2.2.2.2.1
    have e23 : f 23 = .agg #[.float .f64 p', .float .f64 q'] := hH.2.2.2.2.2.2.2.2.2.2.2.2.2.2.2.2.2.2.2.2.2.2.2.1
    have e24 : f 24 = .float .f64 g := hH.2.2.2.2.2.2.2.2.2.2.2.2.2.2.2.2.2.2.2.2.2.2.2.2.1
    have e25 : f 25 = .bool true := hH.2.2.2.2.2.2.2.2.2.2.2.2.2.2.2.2.2.2.2.2.2.2.2.2.2.1
    have e26 : f 26 = .bool true := hH.2.2.2.2.2.2.2.2.2.2.2.2.2.2.2.2.2.2.2.2.2.2.2.2.2.2.1
    have e27 : f 27 = .bool true := hH.2.2.2.2.2.2.2.2.2.2.2.2.2.2.2.2.2.2.2.2.2.2.2.2.2.2.2.1
    have e28 : f 28 = .agg #[.int .u64 (p : Int), .int .u64 (q : Int)] := hH.2.2.2.2.2.2.2.2.2.2.2.2.2.2.2.2.2.2.2.2.2.2.2.2.2.2.2.2.1
    have e29 : f 29 = .agg #[.float .f64 p, .float .f64 q] := hH.2.2.2.2.2.2.2.2.2.2.2.2.2.2.2.2.2.2.2.2.2.2.2.2.2.2.2.2.2.1
    have e30 : f 30 = .float .f64 l := hH.2.2.2.2.2.2.2.2.2.2.2.2.2.2.2.2.2.2.2.2.2.2.2.2.2.2.2.2.2.2.1
    have e31 : f 31 = .agg #[.int .u64 (p' : Int), .int .u64 (q' : Int)] := hH.2.2.2.2.2.2.2.2.2.2.2.2.2.2.2.2.2.2.2.2.2.2.2.2.2.2.2.2.2.2.2.1
    have e32 : f 32 = .agg #[.float .f64 p', .float .f64 q'] := hH.2.2.2.2.2.2.2.2.2.2.2.2.2.2.2.2.2.2.2.2.2.2.2.2.2.2.2.2.2.2.2.2.1
    have e33 : f 33 = .float .f64 l := hH.2.2.2.2.2.2.2.2.2.2.2.2.2.2.2.2.2.2.2.2.2.2.2.2.2.2.2.2.2.2.2.2.2.1
    have e34 : f 34 = .bool true := hH.2.2.2.2.2.2.2.2.2.2.2.2.2.2.2.2.2.2.2.2.2.2.2.2.2.2.2.2.2.2.2.2.2.2.1
    have e35 : f 35 = .bool true := hH.2.2.2.2.2.2.2.2.2.2.2.2.2.2.2.2.2.2.2.2.2.2.2.2.2.2.2.2.2.2.2.2.2.2.2.1
    have e36 : f 36 = .bool true := hH.2.2.2.2.2.2.2.2.2.2.2.2.2.2.2.2.2.2.2.2.2.2.2.2.2.2.2.2.2.2.2.2.2.2.2.2.1
    simp only [List.take_succ_cons, List.take_zero, List.drop_succ_cons, List.drop_zero, putFrom, Act.put, List.setIfInBounds_toArray, List.set_cons_zero, List.set_cons_succ, Nat.reduceAdd, e0, e1, e2, e3, e4, e5, e6, e7, e8, e9, e10, e11, e12, e13, e14, e15, e16, e17, e18, e19, e20, e21, e22, e23, e24, e25, e26, e27, e28, e29, e30, e31, e32, e33, e34, e35, e36]
    clear e0 e1 e2 e3 e4 e5 e6 e7 e8 e9 e10 e11 e12 e13 e14 e15 e16 e17 e18 e19 e20 e21 e22 e23 e24 e25 e26 e27 e28 e29 e30 e31 e32 e33 e34 e35 e36 hH f
    have HW := Lib.hid (raft HB.out hb)
    clear hb
    go_wp2
    go_ret
    exact ⟨rfl, HW.out⟩
  · have e1 : flo x y = 9218868437227405312 := by unfold flo; rw [if_neg hs]
    have e2 : fhi x y = 18442240474082181120 := by unfold fhi; rw [if_neg hs]
    rw [e1, e2] at HR
    clear e1 e2 hs hx hy
    have i1 : Hid (∀ W, Calls Try.prog 16 #[.agg #[.int .u64 9218868437227405312, .int .u64 18442240474082181120]] W fun e w' => e = .returned (.agg #[.float .f64 9218868437227405312, .float .f64 18442240474082181120]) ∧ Below W.heap.size W w') := Lib.hid (fun W => in_any 9218868437227405312 18442240474082181120 (by omega) (by omega) W)
    have r1 : Hid (∀ W, Calls Try.prog 40 #[.agg #[.float .f64 9218868437227405312, .float .f64 18442240474082181120]] W fun e w' => e = .returned (.tuple #[.float .f64 9221120237041090561, .float .f64 9221120237041090561]) ∧ Below W.heap.size W w') := Lib.hid (fun W => by
      have := midrad_any 9218868437227405312 18442240474082181120 (by omega) (by omega) W
      rw [show fmid 9218868437227405312 18442240474082181120 = 9221120237041090561 by decide, show frad 9218868437227405312 18442240474082181120 = 9221120237041090561 by decide] at this
      exact this)
    have on : (FloatKind.f64.format.order 9221120237041090561 9221120237041090561 != some .eq) = true := (f_self (by omega)).trans (decide_eq_true (by decide))
    have HO := Lib.hid on
    clear on
    go_enter Try.func12, Try.ntmps12
    go_wp2_with fail
    refine (HM0.out _).mono ?_
    rintro en w1 ⟨rfl, hb⟩
    have HB := Lib.hid (raft HB.out hb)
    have HI := Lib.hid (HI.out.later hb)
    clear hb HM0
    obtain ⟨i0, j0⟩ := HI.out.cells
    go_wp2_with fail
    refine (HR.out _).mono ?_
    rintro en w2 ⟨rfl, hb⟩
    have hb := raft hb (rnew w2 (.cells #[.int .u64 ((9218868437227405312 : Nat) : Int), .int .u64 ((18442240474082181120 : Nat) : Int)] 24))
    have HB := Lib.hid (raft HB.out hb)
    have H3 := Lib.hid (BI.new w2 (.int .u64 ((9218868437227405312 : Nat) : Int)) (.int .u64 ((18442240474082181120 : Nat) : Int)))
    clear hb HR HI i0 j0
    obtain ⟨c0, c1⟩ := H3.out.cells
    go_wp2_with fail
    refine (neg6_void _).mono ?_
    rintro en w3 ⟨rfl, hb⟩
    have hb := raft hb (rnew w3 (.cells #[.int .u64 9218868437227405312, .int .u64 18442240474082181120] 24))
    have HB := Lib.hid (raft HB.out hb)
    have H3 := Lib.hid (H3.out.later hb)
    have H4 := Lib.hid (BI.new w3 (.int .u64 9218868437227405312) (.int .u64 18442240474082181120))
    clear hb c0 c1
    obtain ⟨c0, c1⟩ := H3.out.cells
    go_wp2_with fail
    refine (i1.out _).mono ?_
    rintro en w4 ⟨rfl, hb⟩
    have HB := Lib.hid (raft HB.out hb)
    have H3 := Lib.hid (H3.out.later hb)
    have H4 := Lib.hid (H4.out.later hb)
    clear hb c0 c1
    go_wp2_with fail
    refine (r1.out _).mono ?_
    rintro en w5 ⟨rfl, hb⟩
    have HB := Lib.hid (raft HB.out hb)
    have H3 := Lib.hid (H3.out.later hb)
    have H4 := Lib.hid (H4.out.later hb)
    clear hb
    obtain ⟨c0, c1⟩ := H4.out.cells
    go_wp2_with fail
    refine (i1.out _).mono ?_
    rintro en w6 ⟨rfl, hb⟩
    have HB := Lib.hid (raft HB.out hb)
    have H3 := Lib.hid (H3.out.later hb)
    have H4 := Lib.hid (H4.out.later hb)
    clear hb c0 c1
    go_wp2_with fail
    refine (r1.out _).mono ?_
    rintro en w7 ⟨rfl, hb⟩
    have HB := Lib.hid (raft HB.out hb)
    have H3 := Lib.hid (H3.out.later hb)
    have H4 := Lib.hid (H4.out.later hb)
    clear hb
    go_upto_region 7 with fail
    refine region_at 3 (Pick [IsV (.agg #[.int .u64 ((9218868437227405312 : Nat) : Int), .int .u64 ((18442240474082181120 : Nat) : Int)]), IsV (.agg #[.int .u64 9218868437227405312, .int .u64 18442240474082181120]), IsV (.bool true)]) (by kernel_rfl) (by kernel_rfl) (by kernel_rfl) (mono_pick ⟨IsV.mono _, IsV.mono _, IsV.mono _, trivial⟩) ⟨?_, ?_, ?_, trivial⟩ ?_
    · intro a W hsz hb hS
      have h3 : a.tmps.getD 3 undef = .pointer (some ⟨w2.heap.size, 0, none⟩) := hS.1
      clear hS hsz
      refine will_of rfl ?_
      obtain ⟨j0, j1⟩ := (H3.out.later hb).cells
      intro K hK
      go_simp
      exact hK _ _ ⟨Below.refl _ _, rfl⟩
    · intro a W hsz hb hS
      clear hS hsz
      refine will_of rfl ?_
      obtain ⟨j0, j1⟩ := (H3.out.later hb).cells
      intro K hK
      go_simp
      refine (empty6_any _).mono ?_
      rintro e W' ⟨rfl, hb'⟩
      exact hK _ _ ⟨hb', rfl⟩
    · intro a W hsz hb hS
      have h28 : a.tmps.getD 28 undef = .agg #[.int .u64 ((9218868437227405312 : Nat) : Int), .int .u64 ((18442240474082181120 : Nat) : Int)] := hS.1
      have h29 : a.tmps.getD 29 undef = .agg #[.int .u64 9218868437227405312, .int .u64 18442240474082181120] := hS.2.1
      clear hS hsz
      refine will_of rfl ?_
      intro K hK
      go_simp
      exact hK _ _ ⟨Below.refl _ _, rfl⟩
    intro f W hb hH
    have e0 : f 0 = .agg #[.int .u64 ((9218868437227405312 : Nat) : Int), .int .u64 ((18442240474082181120 : Nat) : Int)] := hH.1
    have e1 : f 1 = .agg #[.int .u64 9218868437227405312, .int .u64 18442240474082181120] := hH.2.1
    have e2 : f 2 = .bool true := hH.2.2.1
    simp only [List.take_succ_cons, List.take_zero, List.drop_succ_cons, List.drop_zero, putFrom, Act.put, List.setIfInBounds_toArray, List.set_cons_zero, List.set_cons_succ, Nat.reduceAdd, e0, e1, e2]
    clear e0 e1 e2 hH f
    have HB := Lib.hid (raft HB.out hb)
    clear hb
    have on := HO.out
    go_wp2
    go_ret
    exact ⟨rfl, HB.out⟩
theorem mirror_row' (x y : Nat) (w : World) (hx : x < 18446744073709551616) (hy : y < 18446744073709551616) : Calls Try.prog 12 #[.agg #[.int .u64 (x : Int), .int .u64 (y : Int)]] w fun e w' => e = .returned (.bool true) ∧ Below w.heap.size w w' := mirror_row x y w hx hy
end Go.Proofs.Ytmmbbkeefphaiaa
