/- The law MeasMids: the walk. -/
import Derived.Test.YtmmbbkeefphaiaaMidC
namespace Go.Proofs.Ytmmbbkeefphaiaa
set_option linter.unusedVariables false
set_option linter.unusedSimpArgs false
open Go.RowKit Verge

theorem isb_any (b : Nat) (hb : b < 18446744073709551616) (w : World) : Calls Try.prog 14 #[.float .f64 b, .int .u64 (b : Int)] w fun e w' => e = .returned (.bool true) ∧ w = w' := by
  have := is_any b b hb hb w
  by_cases nb : fnan b
  · rw [if_pos nb, decide_eq_true nb] at this; exact this
  · rw [if_neg nb, decide_eq_true rfl] at this; exact this

set_option maxRecDepth 20000 in
set_option maxHeartbeats 4000000 in
theorem mids_any (x y : Nat) (hx : x < 18446744073709551616) (hy : y < 18446744073709551616) (w : World) : Calls Try.prog 6 #[.agg #[.int .u64 (x : Int), .int .u64 (y : Int)]] w fun e w' => e = .returned (.bool true) ∧ Below w.heap.size w w' := by
  have HI := Lib.hid (fun W => in_any x y hx hy W)
  have M1 := Lib.hid (fun W => mid_any x y hx hy W)
  have R1 := Lib.hid (fun W => rmid_any x y hx hy W)
  have S1 := Lib.hid (fun W => isb_any (fmid x y) (fmid_lt x y) W)
  have HB := Lib.hid (fun o => bnew w o)
  obtain ⟨p, hp⟩ : ∃ p, fmid x y = p := ⟨_, rfl⟩
  simp only [hp] at M1 R1 S1
  clear hp hx hy
  go_enter Try.func6, Try.ntmps6
  have HC : Hid (Below (w.alloc (.cells #[.int .u64 (x : Int), .int .u64 (y : Int)] 24)).heap.size (w.alloc (.cells #[.int .u64 (x : Int), .int .u64 (y : Int)] 24)) (w.alloc (.cells #[.int .u64 (x : Int), .int .u64 (y : Int)] 24))) := Lib.hid (Below.refl _ _)
  go_wp2_with fail
  refine region_at 7 (Pick [IsV (.agg #[.int .u64 (x : Int), .int .u64 (y : Int)]), IsV (.agg #[.float .f64 x, .float .f64 y]), IsV (.float .f64 p), IsV (.agg #[.int .u64 (x : Int), .int .u64 (y : Int)]), IsV (.int .u64 (p : Int)), IsV (.bool true), IsV (.bool true)]) (by kernel_rfl) (by kernel_rfl) (by kernel_rfl) (mono_pick ⟨IsV.mono _, IsV.mono _, IsV.mono _, IsV.mono _, IsV.mono _, IsV.mono _, IsV.mono _, trivial⟩) ⟨?_, ?_, ?_, ?_, ?_, ?_, ?_, trivial⟩ ?_
  · intro a W hsz hb hS
    have h1 : a.tmps.getD 1 undef = .pointer (some ⟨w.heap.size, 0, none⟩) := hS.1
    clear hS hsz
    refine will_of rfl ?_
    obtain ⟨d0, d1, _, _, _⟩ := box1 (baft HC.out hb)
    intro K hK
    go_simp
    exact hK _ _ ⟨Below.refl _ _, rfl⟩
  · intro a W hsz hb hS
    have h3 : a.tmps.getD 3 undef = .agg #[.int .u64 (x : Int), .int .u64 (y : Int)] := hS.1
    clear hS hsz
    refine will_of rfl ?_
    obtain ⟨d0, d1, _, _, _⟩ := box1 (baft HC.out hb)
    intro K hK
    go_simp
    refine (HI.out _).mono ?_
    rintro e W' ⟨rfl, hb'⟩
    exact hK _ _ ⟨hb', rfl⟩
  · intro a W hsz hb hS
    have h4 : a.tmps.getD 4 undef = .agg #[.float .f64 x, .float .f64 y] := hS.1
    clear hS hsz
    refine will_of rfl ?_
    obtain ⟨d0, d1, _, _, _⟩ := box1 (baft HC.out hb)
    intro K hK
    go_simp
    refine (M1.out _).mono ?_
    rintro e W' ⟨rfl, hb'⟩
    exact hK _ _ ⟨hb', rfl⟩
  · intro a W hsz hb hS
    have h1 : a.tmps.getD 1 undef = .pointer (some ⟨w.heap.size, 0, none⟩) := hS.1
    clear hS hsz
    refine will_of rfl ?_
    obtain ⟨d0, d1, _, _, _⟩ := box1 (baft HC.out hb)
    intro K hK
    go_simp
    exact hK _ _ ⟨Below.refl _ _, rfl⟩
  · intro a W hsz hb hS
    have h6 : a.tmps.getD 6 undef = .agg #[.int .u64 (x : Int), .int .u64 (y : Int)] := hS.1
    clear hS hsz
    refine will_of rfl ?_
    obtain ⟨d0, d1, _, _, _⟩ := box1 (baft HC.out hb)
    intro K hK
    go_simp
    refine (R1.out _).mono ?_
    rintro e W' ⟨rfl, hb'⟩
    exact hK _ _ ⟨hb', rfl⟩
  · intro a W hsz hb hS
    have h5 : a.tmps.getD 5 undef = .float .f64 p := hS.1
    have h7 : a.tmps.getD 7 undef = .int .u64 (p : Int) := hS.2.1
    clear hS hsz
    refine will_of rfl ?_
    obtain ⟨d0, d1, _, _, _⟩ := box1 (baft HC.out hb)
    intro K hK
    go_simp
    refine (S1.out _).mono ?_
    rintro e W' ⟨rfl, rfl⟩
    exact hK _ _ ⟨Below.refl _ _, rfl⟩
  · intro a W hsz hb hS
    have h8 : a.tmps.getD 8 undef = .bool true := hS.1
    clear hS hsz
    refine will_of rfl ?_
    intro K hK
    go_simp
    exact hK _ _ ⟨Below.refl _ _, rfl⟩
  intro f W hb hH
  have e0 : f 0 = .agg #[.int .u64 (x : Int), .int .u64 (y : Int)] := hH.1
  have e1 : f 1 = .agg #[.float .f64 x, .float .f64 y] := hH.2.1
  have e2 : f 2 = .float .f64 p := hH.2.2.1
  have e3 : f 3 = .agg #[.int .u64 (x : Int), .int .u64 (y : Int)] := hH.2.2.2.1
  have e4 : f 4 = .int .u64 (p : Int) := hH.2.2.2.2.1
  have e5 : f 5 = .bool true := hH.2.2.2.2.2.1
  have e6 : f 6 = .bool true := hH.2.2.2.2.2.2.1
  simp only [List.take_succ_cons, List.take_zero, List.drop_succ_cons, List.drop_zero, putFrom, Act.put, List.setIfInBounds_toArray, List.set_cons_zero, List.set_cons_succ, Nat.reduceAdd, e0, e1, e2, e3, e4, e5, e6]
  clear e0 e1 e2 e3 e4 e5 e6 hH f
  have HW := Lib.hid (baft (HB.out _) hb)
  clear hb
  go_wp2
  go_ret
  exact ⟨rfl, HW.out⟩
theorem mids_row (x y : Nat) (w : World) (hx : x < 18446744073709551616) (hy : y < 18446744073709551616) : Calls Try.prog 6 #[.agg #[.int .u64 (x : Int), .int .u64 (y : Int)]] w fun e w' => e = .returned (.bool true) ∧ Below w.heap.size w w' := mids_any x y hx hy w
end Go.Proofs.Ytmmbbkeefphaiaa
