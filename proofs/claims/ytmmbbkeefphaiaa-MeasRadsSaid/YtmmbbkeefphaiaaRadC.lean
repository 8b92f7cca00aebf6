/- The law MeasRads. -/
import Derived.Test.YtmmbbkeefphaiaaRadB
namespace Go.Proofs.Ytmmbbkeefphaiaa
set_option linter.unusedVariables false
set_option linter.unusedSimpArgs false
open Go.RowKit Verge

set_option maxRecDepth 20000 in
set_option maxHeartbeats 4000000 in
theorem rads_row (x y : Nat) (w : World) (hx : x < 18446744073709551616) (hy : y < 18446744073709551616) : Calls Try.prog 10 #[.agg #[.int .u64 (x : Int), .int .u64 (y : Int)]] w fun e w' => e = .returned (.bool true) ∧ Below w.heap.size w w' := by
  have HI := Lib.hid (fun W => in_any x y hx hy W)
  have HM := Lib.hid (fun W => midrad_any x y hx hy W)
  have HA := Lib.hid (fun W => rad_any x y hx hy W)
  have RM := Lib.hid (fun W => rmid_any x y hx hy W)
  have RR := Lib.hid (fun W => rrad_any x y hx hy W)
  have S1 := Lib.hid (fun W => isb_any (fmid x y) (fmid_lt x y) W)
  have S2 := Lib.hid (fun W => isb_any (frad x y) (frad_lt x y) W)
  have HB := Lib.hid (bnew w (.cells #[.int .u64 (x : Int), .int .u64 (y : Int)] 24))
  have hI := Lib.hid (BI.new w (.int .u64 (x : Int)) (.int .u64 (y : Int)))
  obtain ⟨m, hm⟩ : ∃ p, fmid x y = p := ⟨_, rfl⟩
  obtain ⟨r, hr⟩ : ∃ p, frad x y = p := ⟨_, rfl⟩
  simp only [hm, hr] at HM HA RM RR S1 S2
  clear hm hr hx hy
  go_enter Try.func10, Try.ntmps10
  go_wp2_with fail
  refine (HI.out _).mono ?_
  rintro en w1 ⟨rfl, hb⟩
  have hI := Lib.hid (hI.out.later hb)
  have HB := Lib.hid (baft HB.out hb)
  clear hb
  go_wp2_with fail
  refine (HM.out _).mono ?_
  rintro en w2 ⟨rfl, hb⟩
  have hI := Lib.hid (hI.out.later hb)
  have HB := Lib.hid (baft HB.out hb)
  clear hb
  go_upto_region 2 with fail
  refine region_at 19 (Pick [IsV (.agg #[.int .u64 (x : Int), .int .u64 (y : Int)]), IsV (.agg #[.float .f64 x, .float .f64 y]), IsV (.float .f64 r), IsV (.agg #[.int .u64 (x : Int), .int .u64 (y : Int)]), IsV (.int .u64 (r : Int)), IsV (.bool true), IsV (.bool true), IsV (.float .f64 m), IsV (.agg #[.int .u64 (x : Int), .int .u64 (y : Int)]), IsV (.int .u64 (m : Int)), IsV (.bool true), IsV (.bool true), IsV (.bool true), IsV (.float .f64 r), IsV (.agg #[.int .u64 (x : Int), .int .u64 (y : Int)]), IsV (.int .u64 (r : Int)), IsV (.bool true), IsV (.bool true), IsV (.bool true)]) (by kernel_rfl) (by kernel_rfl) (by kernel_rfl) (mono_pick ⟨IsV.mono _, IsV.mono _, IsV.mono _, IsV.mono _, IsV.mono _, IsV.mono _, IsV.mono _, IsV.mono _, IsV.mono _, IsV.mono _, IsV.mono _, IsV.mono _, IsV.mono _, IsV.mono _, IsV.mono _, IsV.mono _, IsV.mono _, IsV.mono _, IsV.mono _, trivial⟩) ⟨?_, ?_, ?_, ?_, ?_, ?_, ?_, ?_, ?_, ?_, ?_, ?_, ?_, ?_, ?_, ?_, ?_, ?_, ?_, trivial⟩ ?_
  · intro a W hsz hb hS
    have h1 : a.tmps.getD 1 undef = .pointer (some ⟨w.heap.size, 0, none⟩) := hS.1
    clear hS hsz
    refine will_of rfl ?_
    obtain ⟨d0, d1⟩ := (hI.out.later hb).cells
    intro K hK
    go_simp
    exact hK _ _ ⟨Below.refl _ _, rfl⟩
  · intro a W hsz hb hS
    have h11 : a.tmps.getD 11 undef = .agg #[.int .u64 (x : Int), .int .u64 (y : Int)] := hS.1
    clear hS hsz
    refine will_of rfl ?_
    obtain ⟨d0, d1⟩ := (hI.out.later hb).cells
    intro K hK
    go_simp
    refine (HI.out _).mono ?_
    rintro e W' ⟨rfl, hb'⟩
    exact hK _ _ ⟨hb', rfl⟩
  · intro a W hsz hb hS
    have h12 : a.tmps.getD 12 undef = .agg #[.float .f64 x, .float .f64 y] := hS.1
    clear hS hsz
    refine will_of rfl ?_
    obtain ⟨d0, d1⟩ := (hI.out.later hb).cells
    intro K hK
    go_simp
    refine (HA.out _).mono ?_
    rintro e W' ⟨rfl, hb'⟩
    exact hK _ _ ⟨hb', rfl⟩
  · intro a W hsz hb hS
    have h1 : a.tmps.getD 1 undef = .pointer (some ⟨w.heap.size, 0, none⟩) := hS.1
    clear hS hsz
    refine will_of rfl ?_
    obtain ⟨d0, d1⟩ := (hI.out.later hb).cells
    intro K hK
    go_simp
    exact hK _ _ ⟨Below.refl _ _, rfl⟩
  · intro a W hsz hb hS
    have h14 : a.tmps.getD 14 undef = .agg #[.int .u64 (x : Int), .int .u64 (y : Int)] := hS.1
    clear hS hsz
    refine will_of rfl ?_
    obtain ⟨d0, d1⟩ := (hI.out.later hb).cells
    intro K hK
    go_simp
    refine (RR.out _).mono ?_
    rintro e W' ⟨rfl, hb'⟩
    exact hK _ _ ⟨hb', rfl⟩
  · intro a W hsz hb hS
    have h13 : a.tmps.getD 13 undef = .float .f64 r := hS.1
    have h15 : a.tmps.getD 15 undef = .int .u64 (r : Int) := hS.2.1
    clear hS hsz
    refine will_of rfl ?_
    obtain ⟨d0, d1⟩ := (hI.out.later hb).cells
    intro K hK
    go_simp
    refine (S2.out _).mono ?_
    rintro e W' ⟨rfl, rfl⟩
    exact hK _ _ ⟨Below.refl _ _, rfl⟩
  · intro a W hsz hb hS
    have h16 : a.tmps.getD 16 undef = .bool true := hS.1
    clear hS hsz
    refine will_of rfl ?_
    intro K hK
    go_simp
    exact hK _ _ ⟨Below.refl _ _, rfl⟩
  · intro a W hsz hb hS
    have h3 : a.tmps.getD 3 undef = .float .f64 m := hS.1
    have h17 : a.tmps.getD 17 undef = .bool true := hS.2.1
    clear hS hsz
    refine will_yes rfl rfl h17 ?_
    intro K hK
    go_simp
    exact hK _ _ ⟨Below.refl _ _, rfl⟩
  · intro a W hsz hb hS
    have h1 : a.tmps.getD 1 undef = .pointer (some ⟨w.heap.size, 0, none⟩) := hS.1
    have h17 : a.tmps.getD 17 undef = .bool true := hS.2.1
    clear hS hsz
    refine will_yes rfl rfl h17 ?_
    obtain ⟨d0, d1⟩ := (hI.out.later hb).cells
    intro K hK
    go_simp
    exact hK _ _ ⟨Below.refl _ _, rfl⟩
  · intro a W hsz hb hS
    have h19 : a.tmps.getD 19 undef = .agg #[.int .u64 (x : Int), .int .u64 (y : Int)] := hS.1
    have h17 : a.tmps.getD 17 undef = .bool true := hS.2.1
    clear hS hsz
    refine will_yes rfl rfl h17 ?_
    obtain ⟨d0, d1⟩ := (hI.out.later hb).cells
    intro K hK
    go_simp
    refine (RM.out _).mono ?_
    rintro e W' ⟨rfl, hb'⟩
    exact hK _ _ ⟨hb', rfl⟩
  · intro a W hsz hb hS
    have h18 : a.tmps.getD 18 undef = .float .f64 m := hS.1
    have h20 : a.tmps.getD 20 undef = .int .u64 (m : Int) := hS.2.1
    have h17 : a.tmps.getD 17 undef = .bool true := hS.2.2.1
    clear hS hsz
    refine will_yes rfl rfl h17 ?_
    obtain ⟨d0, d1⟩ := (hI.out.later hb).cells
    intro K hK
    go_simp
    refine (S1.out _).mono ?_
    rintro e W' ⟨rfl, rfl⟩
    exact hK _ _ ⟨Below.refl _ _, rfl⟩
  · intro a W hsz hb hS
    have h17 : a.tmps.getD 17 undef = .bool true := hS.1
    have h21 : a.tmps.getD 21 undef = .bool true := hS.2.1
    clear hS hsz
    refine will_of rfl ?_
    intro K hK
    go_simp
    exact hK _ _ ⟨Below.refl _ _, rfl⟩
  · intro a W hsz hb hS
    have h22 : a.tmps.getD 22 undef = .bool true := hS.1
    clear hS hsz
    refine will_of rfl ?_
    intro K hK
    go_simp
    exact hK _ _ ⟨Below.refl _ _, rfl⟩
  · intro a W hsz hb hS
    have h4 : a.tmps.getD 4 undef = .float .f64 r := hS.1
    have h23 : a.tmps.getD 23 undef = .bool true := hS.2.1
    clear hS hsz
    refine will_yes rfl rfl h23 ?_
    intro K hK
    go_simp
    exact hK _ _ ⟨Below.refl _ _, rfl⟩
  · intro a W hsz hb hS
    have h1 : a.tmps.getD 1 undef = .pointer (some ⟨w.heap.size, 0, none⟩) := hS.1
    have h23 : a.tmps.getD 23 undef = .bool true := hS.2.1
    clear hS hsz
    refine will_yes rfl rfl h23 ?_
    obtain ⟨d0, d1⟩ := (hI.out.later hb).cells
    intro K hK
    go_simp
    exact hK _ _ ⟨Below.refl _ _, rfl⟩
  · intro a W hsz hb hS
    have h25 : a.tmps.getD 25 undef = .agg #[.int .u64 (x : Int), .int .u64 (y : Int)] := hS.1
    have h23 : a.tmps.getD 23 undef = .bool true := hS.2.1
    clear hS hsz
    refine will_yes rfl rfl h23 ?_
    obtain ⟨d0, d1⟩ := (hI.out.later hb).cells
    intro K hK
    go_simp
    refine (RR.out _).mono ?_
    rintro e W' ⟨rfl, hb'⟩
    exact hK _ _ ⟨hb', rfl⟩
  · intro a W hsz hb hS
    have h24 : a.tmps.getD 24 undef = .float .f64 r := hS.1
    have h26 : a.tmps.getD 26 undef = .int .u64 (r : Int) := hS.2.1
    have h23 : a.tmps.getD 23 undef = .bool true := hS.2.2.1
    clear hS hsz
    refine will_yes rfl rfl h23 ?_
    obtain ⟨d0, d1⟩ := (hI.out.later hb).cells
    intro K hK
    go_simp
    refine (S2.out _).mono ?_
    rintro e W' ⟨rfl, rfl⟩
    exact hK _ _ ⟨Below.refl _ _, rfl⟩
  · intro a W hsz hb hS
    have h23 : a.tmps.getD 23 undef = .bool true := hS.1
    have h27 : a.tmps.getD 27 undef = .bool true := hS.2.1
    clear hS hsz
    refine will_of rfl ?_
    intro K hK
    go_simp
    exact hK _ _ ⟨Below.refl _ _, rfl⟩
  · intro a W hsz hb hS
    have h28 : a.tmps.getD 28 undef = .bool true := hS.1
    clear hS hsz
    refine will_of rfl ?_
    intro K hK
    go_simp
    exact hK _ _ ⟨Below.refl _ _, rfl⟩
  intro f W hb hH
  have e0 : f 0 = .agg #[.int .u64 (x : Int), .int .u64 (y : Int)] := hH.1
  have e1 : f 1 = .agg #[.float .f64 x, .float .f64 y] := hH.2.1
  have e2 : f 2 = .float .f64 r := hH.2.2.1
  have e3 : f 3 = .agg #[.int .u64 (x : Int), .int .u64 (y : Int)] := hH.2.2.2.1
  have e4 : f 4 = .int .u64 (r : Int) := hH.2.2.2.2.1
  have e5 : f 5 = .bool true := hH.2.2.2.2.2.1
  have e6 : f 6 = .bool true := hH.2.2.2.2.2.2.1
  have e7 : f 7 = .float .f64 m := hH.2.2.2.2.2.2.2.1
  have e8 : f 8 = .agg #[.int .u64 (x : Int), .int .u64 (y : Int)] := hH.2.2.2.2.2.2.2.2.1
  have e9 : f 9 = .int .u64 (m : Int) := hH.2.2.2.2.2.2.2.2.2.1
  have e10 : f 10 = .bool true := hH.2.2.2.2.2.2.2.2.2.2.1
  have e11 : f 11 = .bool true := hH.2.2.2.2.2.2.2.2.2.2.2.1
  have e12 : f 12 = .bool true := hH.2.2.2.2.2.2.2.2.2.2.2.2.1
  have e13 : f 13 = .float .f64 r := hH.2.2.2.2.2.2.2.2.2.2.2.2.2.1
  have e14 : f 14 = .agg #[.int .u64 (x : Int), .int .u64 (y : Int)] := hH.2.2.2.2.2.2.2.2.2.2.2.2.2.2.1
  have e15 : f 15 = .int .u64 (r : Int) := hH.2.2.2.2.2.2.2.2.2.2.2.2.2.2.2.1
  have e16 : f 16 = .bool true := hH.2.2.2.2.2.2.2.2.2.2.2.2.2.2.2.2.1
  have e17 : f 17 = .bool true := hH.2.2.2.2.2.2.2.2.2.2.2.2.2.2.2.2.2.1
  have e18 : f 18 = .bool true := hH.2.2.2.2.2.2.2.2.2.2.2.2.2.2.2.2.2.2.1
  simp only [List.take_succ_cons, List.take_zero, List.drop_succ_cons, List.drop_zero, putFrom, Act.put, List.setIfInBounds_toArray, List.set_cons_zero, List.set_cons_succ, Nat.reduceAdd, e0, e1, e2, e3, e4, e5, e6, e7, e8, e9, e10, e11, e12, e13, e14, e15, e16, e17, e18]
  clear e0 e1 e2 e3 e4 e5 e6 e7 e8 e9 e10 e11 e12 e13 e14 e15 e16 e17 e18 hH f
  have HW := Lib.hid (baft HB.out hb)
  clear hb
  go_wp2
  go_ret
  exact ⟨rfl, HW.out⟩
end Go.Proofs.Ytmmbbkeefphaiaa
