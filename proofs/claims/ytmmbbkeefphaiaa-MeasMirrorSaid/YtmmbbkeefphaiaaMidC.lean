/- Law 8: the document's middle. -/
import Derived.Test.YtmmbbkeefphaiaaMidB
import Derived.Test.YtmmbbkeefphaiaaBitsB
import Derived.Test.YtmmbbkeefphaiaaEndB
namespace Go.Proofs.Ytmmbbkeefphaiaa
set_option linter.unusedVariables false
set_option linter.unusedSimpArgs false
open Go.RowKit Verge

theorem UQ_eq : UQ = 2 ^ KU := rfl
/-- A pattern's ratio, in units. -/
theorem rvbits_is {b : Nat} {w : World} (hb : b < 18446744073709551616) : Calls Try.prog 64 #[.int .u64 (b : Int)] w (Ans w (IsRV (fv b) UQ 100)) := by
  refine (bits_is b hb).mono ?_
  rintro e w' ⟨v, he, hv, hbw⟩
  refine ⟨v, he, ⟨_, _, _, hv, UQ_pos, by rw [val_dig]; exact fbD_pos b, ?_, fbN_len b, fbD_len b⟩, hbw⟩
  rw [val_dig, val_dig]
  have h := fb_val b KU rfl
  have hI : ((fbN b : Nat) : Int) * (UQ : Nat) = (FV (b % 9223372036854775808) : Nat) * (fbD b : Nat) := by rw [UQ_eq]; exact_mod_cast h
  unfold fv sv
  by_cases h1 : 9223372036854775808 ≤ b
  · rw [if_pos h1]
    by_cases h2 : b = 9223372036854775808
    · subst h2
      have h0 : FV (9223372036854775808 % 9223372036854775808) = 0 := rfl
      rw [h0] at hI ⊢
      simpa using hI
    · rw [decide_eq_true (show 9223372036854775808 < b by omega), if_pos rfl, Int.neg_mul, Int.neg_mul, hI]
  · rw [if_neg h1, decide_eq_false (show ¬ 9223372036854775808 < b by omega)]
    exact hI
theorem rvint_is (n : Nat) (h : n < 4611686018427387904) {w : World} : Calls Try.prog 49 #[.int .i64 (n : Int)] w (Ans w (IsRV n 1 2)) := by
  refine (int_is n h).mono ?_
  rintro e w' ⟨v, he, hv, hbw⟩
  refine ⟨v, he, ⟨_, _, _, hv, by omega, by rw [val_dig]; omega, ?_, dig_length_le.2 (by omega), dig_length_le.2 (by omega)⟩, hbw⟩
  rw [val_dig, val_dig]
  unfold sv; simp
theorem entire6_any (w : World) : Calls Try.prog 69 #[] w fun e w' => e = .returned (.agg #[.int .u64 18442240474082181120, .int .u64 9218868437227405312]) ∧ Below w.heap.size w w' := by
  have HB := Lib.hid (fun o => bnew w o)
  go_enter Try.func69, Try.ntmps69
  go_wp2
  refine bodyPost_ret (v := .agg #[.int .u64 18442240474082181120, .int .u64 9218868437227405312]) (by simp [results, Try.results69, go_sem]) rfl ?_
  exact ⟨rfl, HB.out _⟩
/-- A box that was made since. -/
def IsBox (B : Nat) (v : Value) (w : World) : Prop := ∃ r, v = .pointer (some ⟨r, 0, none⟩) ∧ Box w r ∧ B ≤ r
theorem IsBox.mono (B : Nat) : Mono (IsBox B) := fun _ _ _ hb ⟨r, e, h, hr⟩ => ⟨r, e, h.later hb, hr⟩
theorem Box3.put {w : World} {r : Nat} (h : Box w r) (a b c : Value) : Box3 (put3 w r a b c) r a b c := by
  unfold Box at h
  have hl : r < w.heap.size := by
    by_cases hr : r < w.heap.size
    · exact hr
    · rw [Array.getElem?_eq_none (by omega)] at h; cases h
  have hg : w.heap[r] = ratO := by simpa [hl] using h
  unfold Box3 put3
  simp [World.setCell, hl, Array.getElem_modify, hg]
theorem IsRV.put {p : Int} {q k : Nat} {v : Value} {w : World} (h : IsRV p q k v w) {r : Nat} (hB : Box w r) (a b c : Value) : IsRV p q k v (put3 w r a b c) := by
  obtain ⟨s, X, Y, ⟨va, vb, hv, ⟨A, c1, ha, hA⟩, ⟨B, c2, hb, hB'⟩⟩, hrest⟩ := h
  exact ⟨s, X, Y, ⟨va, vb, hv, ⟨A, c1, ha, hA.put3 hB a b c⟩, ⟨B, c2, hb, hB'.put3 hB a b c⟩⟩, hrest⟩
theorem IsRV.agg {p : Int} {q k : Nat} {v : Value} {w : World} (h : IsRV p q k v w) : ∃ s A n c B m d, v = .agg #[.bool s, .slice A n c, .slice B m d] := by
  obtain ⟨s, X, Y, ⟨va, vb, hv, ⟨A, c1, ha, hA⟩, ⟨B, c2, hb, hB'⟩⟩, _⟩ := h
  exact ⟨s, A, _, c1, B, _, c2, by rw [hv, ha, hb]⟩
theorem mid_eqv (a b : Int) : (a * (UQ : Nat) + b * (UQ : Nat)) * ((1 : Nat) : Int) * ((2 * UQ : Nat) : Int) = (a + b) * ((UQ * UQ * (2 : Int).toNat : Nat) : Int) := by
  generalize UQ = u
  show (a * (u : Nat) + b * (u : Nat)) * 1 * ((2 * u : Nat) : Int) = (a + b) * ((u * u * 2 : Nat) : Int)
  push_cast
  grind
theorem mid_rat (P : Int) : rat3 0 P (2 * UQ) KU = midz P := by
  unfold rat3 midz
  rw [← UQ_eq, rng_cut _ _ _ _ _ UQ_pos, rng_near]

set_option maxRecDepth 20000 in
set_option maxHeartbeats 8000000 in
theorem rmid_any (x y : Nat) (hx : x < 18446744073709551616) (hy : y < 18446744073709551616) (w : World) : Calls Try.prog 34 #[.agg #[.int .u64 (x : Int), .int .u64 (y : Int)]] w fun e w' => e = .returned (.int .u64 (fmid x y : Nat)) ∧ Below w.heap.size w w' := by
  have HR := Lib.hid (fun W => read6_any x y hx hy W)
  have HB := Lib.hid (fun o => bnew w o)
  unfold fmid
  by_cases hs : fsound x y = true
  · rw [if_pos hs]
    have n1 := flo_ne hx hs
    have n2 := fhi_ne hy hs
    have l1 := flo_lt (y := y) hx
    have l2 := fhi_lt (x := x) hy
    clear hs
    obtain ⟨p, hp⟩ : ∃ p, flo x y = p := ⟨_, rfl⟩
    obtain ⟨q, hq⟩ : ∃ q, fhi x y = q := ⟨_, rfl⟩
    simp only [hp, hq] at HR n1 n2 l1 l2 ⊢
    clear hp hq hx hy
    obtain ⟨R, hR⟩ : ∃ R, pmid p q = R := ⟨_, rfl⟩
    rw [hR]
    have HS := Lib.hid hR
    have HF := Lib.hid (And.intro l1 l2)
    have hne : ¬ ((p : Int) = 9218868437227405312) := by omega
    clear hR l1 l2 n1 n2
    go_enter Try.func34, Try.ntmps34
    go_wp2_with fail
    refine (HR.out _).mono ?_
    rintro en w1 ⟨rfl, hb⟩
    have hb := Lib.hid (baft (HB.out _) hb)
    have HV := Lib.hid (Below.refl (w1.alloc (.cells #[.int .u64 (p : Int), .int .u64 (q : Int)] 24)).heap.size (w1.alloc (.cells #[.int .u64 (p : Int), .int .u64 (q : Int)] 24)))
    have HB2 := Lib.hid (baft hb.out (bnew w1 (.cells #[.int .u64 (p : Int), .int .u64 (q : Int)] 24)))
    obtain ⟨c0, c1, f0, f1, hz⟩ := box1 HV.out
    clear hb HB
    go_upto_region 2 with fail

    refine region_at 3 (Pick [IsV (.agg #[.int .u64 (p : Int), .int .u64 (q : Int)]), IsV (.agg #[.int .u64 9218868437227405312, .int .u64 18442240474082181120]), IsV (.bool false)]) (by kernel_rfl) (by kernel_rfl) (by kernel_rfl) (mono_pick ⟨IsV.mono _, IsV.mono _, IsV.mono _, trivial⟩) ⟨?_, ?_, ?_, trivial⟩ ?_
    · intro a W hsz hb hS
      have h3 : a.tmps.getD 3 undef = .pointer (some ⟨w1.heap.size, 0, none⟩) := hS.1
      clear hS hsz
      refine will_of rfl ?_
      obtain ⟨d0, d1, _, _, _⟩ := box1 (baft HV.out hb)
      intro K hK
      go_simp
      exact hK _ _ ⟨Below.refl _ _, rfl⟩
    · intro a W hsz hb hS
      clear hS hsz
      refine will_of rfl ?_
      obtain ⟨d0, d1, _, _, _⟩ := box1 (baft HV.out hb)
      intro K hK
      go_simp
      refine (empty6_any _).mono ?_
      rintro e W' ⟨rfl, hb'⟩
      exact hK _ _ ⟨hb', rfl⟩
    · intro a W hsz hb hS
      have h7 : a.tmps.getD 7 undef = .agg #[.int .u64 (p : Int), .int .u64 (q : Int)] := hS.1
      have h8 : a.tmps.getD 8 undef = .agg #[.int .u64 9218868437227405312, .int .u64 18442240474082181120] := hS.2.1
      clear hS hsz
      refine will_of rfl ?_
      intro K hK
      go_simp
      exact hK _ _ ⟨Below.refl _ _, rfl⟩
    intro f W hb hH
    have e0 : f 0 = .agg #[.int .u64 (p : Int), .int .u64 (q : Int)] := hH.1
    have e1 : f 1 = .agg #[.int .u64 9218868437227405312, .int .u64 18442240474082181120] := hH.2.1
    have e2 : f 2 = .bool false := hH.2.2.1
    simp only [List.take_succ_cons, List.take_zero, List.drop_succ_cons, List.drop_zero, putFrom, Act.put, List.setIfInBounds_toArray, List.set_cons_zero, List.set_cons_succ, Nat.reduceAdd, e0, e1, e2]
    clear e0 e1 e2 hH f
    have HV := Lib.hid (baft HV.out hb)
    have HB2 := Lib.hid (baft HB2.out hb)
    clear hb c0 c1 f0 f1 hz
    obtain ⟨c0, c1, f0, f1, hz⟩ := box1 HV.out
    clear hne
    go_upto_region 4 with fail
    by_cases hpm : p = 18442240474082181120
    · by_cases hqi : q = 9218868437227405312
      · obtain rfl : R = 0 := by rw [← HS.out]; unfold pmid; rw [if_pos hpm, if_pos hqi]
        have hpm' : (p : Int) = 18442240474082181120 := by omega
        have hqi' : (q : Int) = 9218868437227405312 := by omega
        have HPM := Lib.hid hpm'
        have HQI := Lib.hid hqi'
        clear hpm hqi HS hpm' hqi'
        refine region_at 3 (Pick [IsV (.agg #[.int .u64 (p : Int), .int .u64 (q : Int)]), IsV (.agg #[.int .u64 18442240474082181120, .int .u64 9218868437227405312]), IsV (.bool true)]) (by kernel_rfl) (by kernel_rfl) (by kernel_rfl) (mono_pick ⟨IsV.mono _, IsV.mono _, IsV.mono _, trivial⟩) ⟨?_, ?_, ?_, trivial⟩ ?_
        · intro a W hsz hb hS
          have h3 : a.tmps.getD 3 undef = .pointer (some ⟨w1.heap.size, 0, none⟩) := hS.1
          clear hS hsz
          refine will_of rfl ?_
          obtain ⟨d0, d1, _, _, _⟩ := box1 (baft HV.out hb)
          intro K hK
          go_simp
          exact hK _ _ ⟨Below.refl _ _, rfl⟩
        · intro a W hsz hb hS
          clear hS hsz
          refine will_of rfl ?_
          obtain ⟨d0, d1, _, _, _⟩ := box1 (baft HV.out hb)
          intro K hK
          go_simp
          refine (entire6_any _).mono ?_
          rintro e W' ⟨rfl, hb'⟩
          exact hK _ _ ⟨hb', rfl⟩
        · intro a W hsz hb hS
          have h10 : a.tmps.getD 10 undef = .agg #[.int .u64 (p : Int), .int .u64 (q : Int)] := hS.1
          have h11 : a.tmps.getD 11 undef = .agg #[.int .u64 18442240474082181120, .int .u64 9218868437227405312] := hS.2.1
          clear hS hsz
          refine will_of rfl ?_
          intro K hK
          have hpm' := HPM.out
          have hqi' := HQI.out
          go_simp
          exact hK _ _ ⟨Below.refl _ _, rfl⟩
        intro f W hb hH
        have e0 : f 0 = .agg #[.int .u64 (p : Int), .int .u64 (q : Int)] := hH.1
        have e1 : f 1 = .agg #[.int .u64 18442240474082181120, .int .u64 9218868437227405312] := hH.2.1
        have e2 : f 2 = .bool true := hH.2.2.1
        simp only [List.take_succ_cons, List.take_zero, List.drop_succ_cons, List.drop_zero, putFrom, Act.put, List.setIfInBounds_toArray, List.set_cons_zero, List.set_cons_succ, Nat.reduceAdd, e0, e1, e2]
        clear e0 e1 e2 hH f
        have HV := Lib.hid (baft HV.out hb)
        have HB2 := Lib.hid (baft HB2.out hb)
        clear hb c0 c1 f0 f1 hz
        obtain ⟨c0, c1, f0, f1, hz⟩ := box1 HV.out
        go_wp2
        go_ret
        exact ⟨rfl, HB2.out⟩
      · obtain rfl : R = 18442240474082181119 := by rw [← HS.out]; unfold pmid; rw [if_pos hpm, if_neg hqi]
        have hpm' : (p : Int) = 18442240474082181120 := by omega
        have hqi' : ¬ ((q : Int) = 9218868437227405312) := by omega
        have HPM := Lib.hid hpm'
        have HQI := Lib.hid hqi'
        clear hpm hqi HS hpm' hqi'
        refine region_at 3 (Pick [IsV (.agg #[.int .u64 (p : Int), .int .u64 (q : Int)]), IsV (.agg #[.int .u64 18442240474082181120, .int .u64 9218868437227405312]), IsV (.bool false)]) (by kernel_rfl) (by kernel_rfl) (by kernel_rfl) (mono_pick ⟨IsV.mono _, IsV.mono _, IsV.mono _, trivial⟩) ⟨?_, ?_, ?_, trivial⟩ ?_
        · intro a W hsz hb hS
          have h3 : a.tmps.getD 3 undef = .pointer (some ⟨w1.heap.size, 0, none⟩) := hS.1
          clear hS hsz
          refine will_of rfl ?_
          obtain ⟨d0, d1, _, _, _⟩ := box1 (baft HV.out hb)
          intro K hK
          go_simp
          exact hK _ _ ⟨Below.refl _ _, rfl⟩
        · intro a W hsz hb hS
          clear hS hsz
          refine will_of rfl ?_
          obtain ⟨d0, d1, _, _, _⟩ := box1 (baft HV.out hb)
          intro K hK
          go_simp
          refine (entire6_any _).mono ?_
          rintro e W' ⟨rfl, hb'⟩
          exact hK _ _ ⟨hb', rfl⟩
        · intro a W hsz hb hS
          have h10 : a.tmps.getD 10 undef = .agg #[.int .u64 (p : Int), .int .u64 (q : Int)] := hS.1
          have h11 : a.tmps.getD 11 undef = .agg #[.int .u64 18442240474082181120, .int .u64 9218868437227405312] := hS.2.1
          clear hS hsz
          refine will_of rfl ?_
          intro K hK
          have hpm' := HPM.out
          have hqi' := HQI.out
          go_simp
          exact hK _ _ ⟨Below.refl _ _, rfl⟩
        intro f W hb hH
        have e0 : f 0 = .agg #[.int .u64 (p : Int), .int .u64 (q : Int)] := hH.1
        have e1 : f 1 = .agg #[.int .u64 18442240474082181120, .int .u64 9218868437227405312] := hH.2.1
        have e2 : f 2 = .bool false := hH.2.2.1
        simp only [List.take_succ_cons, List.take_zero, List.drop_succ_cons, List.drop_zero, putFrom, Act.put, List.setIfInBounds_toArray, List.set_cons_zero, List.set_cons_succ, Nat.reduceAdd, e0, e1, e2]
        clear e0 e1 e2 hH f
        have HV := Lib.hid (baft HV.out hb)
        have HB2 := Lib.hid (baft HB2.out hb)
        clear hb c0 c1 f0 f1 hz
        obtain ⟨c0, c1, f0, f1, hz⟩ := box1 HV.out
        have hpm' := HPM.out
        go_wp2
        go_ret
        exact ⟨rfl, HB2.out⟩
    · have hpm' : ¬ ((p : Int) = 18442240474082181120) := by omega
      refine region_at 3 (Pick [IsV (.agg #[.int .u64 (p : Int), .int .u64 (q : Int)]), IsV (.agg #[.int .u64 18442240474082181120, .int .u64 9218868437227405312]), IsV (.bool false)]) (by kernel_rfl) (by kernel_rfl) (by kernel_rfl) (mono_pick ⟨IsV.mono _, IsV.mono _, IsV.mono _, trivial⟩) ⟨?_, ?_, ?_, trivial⟩ ?_
      · intro a W hsz hb hS
        have h3 : a.tmps.getD 3 undef = .pointer (some ⟨w1.heap.size, 0, none⟩) := hS.1
        clear hS hsz
        refine will_of rfl ?_
        obtain ⟨d0, d1, _, _, _⟩ := box1 (baft HV.out hb)
        intro K hK
        go_simp
        exact hK _ _ ⟨Below.refl _ _, rfl⟩
      · intro a W hsz hb hS
        clear hS hsz
        refine will_of rfl ?_
        obtain ⟨d0, d1, _, _, _⟩ := box1 (baft HV.out hb)
        intro K hK
        go_simp
        refine (entire6_any _).mono ?_
        rintro e W' ⟨rfl, hb'⟩
        exact hK _ _ ⟨hb', rfl⟩
      · intro a W hsz hb hS
        have h10 : a.tmps.getD 10 undef = .agg #[.int .u64 (p : Int), .int .u64 (q : Int)] := hS.1
        have h11 : a.tmps.getD 11 undef = .agg #[.int .u64 18442240474082181120, .int .u64 9218868437227405312] := hS.2.1
        clear hS hsz
        refine will_of rfl ?_
        intro K hK
        go_simp
        exact hK _ _ ⟨Below.refl _ _, rfl⟩
      intro f W0 hb hH
      have e0 : f 0 = .agg #[.int .u64 (p : Int), .int .u64 (q : Int)] := hH.1
      have e1 : f 1 = .agg #[.int .u64 18442240474082181120, .int .u64 9218868437227405312] := hH.2.1
      have e2 : f 2 = .bool false := hH.2.2.1
      simp only [List.take_succ_cons, List.take_zero, List.drop_succ_cons, List.drop_zero, putFrom, Act.put, List.setIfInBounds_toArray, List.set_cons_zero, List.set_cons_succ, Nat.reduceAdd, e0, e1, e2]
      clear e0 e1 e2 hH f
      have HV := Lib.hid (baft HV.out hb)
      have HB2 := Lib.hid (baft HB2.out hb)
      clear hb c0 c1 f0 f1 hz
      obtain ⟨c0, c1, f0, f1, hz⟩ := box1 HV.out
      by_cases hqi : q = 9218868437227405312
      · obtain rfl : R = 9218868437227405311 := by rw [← HS.out]; unfold pmid; rw [if_neg hpm, if_pos hqi]
        have hqi' : (q : Int) = 9218868437227405312 := by omega
        clear hpm hqi HS
        go_wp2
        go_ret
        exact ⟨rfl, HB2.out⟩
      · have hqi' : ¬ ((q : Int) = 9218868437227405312) := by omega
        have hR : R = midz (fv p + fv q) := by rw [← HS.out]; unfold pmid; rw [if_neg hpm, if_neg hqi]
        clear hpm hqi HS
        have HRR := Lib.hid hR
        clear hR
        go_upto_region 10 with fail
        refine region_at 8 (Pick [IsV (.pointer (some ⟨w1.heap.size, 0, none⟩)), IsV (.int .u64 (p : Int)), IsRV (fv p) UQ 100, IsV (.pointer (some ⟨w1.heap.size, 1, none⟩)), IsV (.int .u64 (q : Int)), IsRV (fv q) UQ 100, IsRV (fv p * UQ + fv q * UQ) (UQ * UQ) 201, IsBox W0.heap.size]) (by kernel_rfl) (by kernel_rfl) (by kernel_rfl) (mono_pick ⟨IsV.mono _, IsV.mono _, IsRV.mono _ _ _, IsV.mono _, IsV.mono _, IsRV.mono _ _ _, IsRV.mono _ _ _, IsBox.mono _, trivial⟩) ⟨?_, ?_, ?_, ?_, ?_, ?_, ?_, ?_, trivial⟩ ?_
        · intro a W hsz hb hS
          have h3 : a.tmps.getD 3 undef = .pointer (some ⟨w1.heap.size, 0, none⟩) := hS.1
          clear hS hsz
          refine will_of rfl ?_
          intro K hK
          go_simp
          exact hK _ _ ⟨Below.refl _ _, rfl⟩
        · intro a W hsz hb hS
          have h19 : a.tmps.getD 19 undef = .pointer (some ⟨w1.heap.size, 0, none⟩) := hS.1
          clear hS hsz
          refine will_of rfl ?_
          obtain ⟨d0, d1, _, _, _⟩ := box1 (baft HV.out hb)
          intro K hK
          go_simp
          exact hK _ _ ⟨Below.refl _ _, rfl⟩
        · intro a W hsz hb hS
          have h20 : a.tmps.getD 20 undef = .int .u64 (p : Int) := hS.1
          clear hS hsz
          refine will_of rfl ?_
          obtain ⟨d0, d1, _, _, _⟩ := box1 (baft HV.out hb)
          intro K hK
          go_simp
          refine (rvbits_is HF.out.1).mono ?_
          rintro e W' ⟨v, rfl, hv, hb'⟩
          exact hK _ _ ⟨hb', hv⟩
        · intro a W hsz hb hS
          have h3 : a.tmps.getD 3 undef = .pointer (some ⟨w1.heap.size, 0, none⟩) := hS.1
          clear hS hsz
          refine will_of rfl ?_
          intro K hK
          go_simp
          exact hK _ _ ⟨Below.refl _ _, rfl⟩
        · intro a W hsz hb hS
          have h22 : a.tmps.getD 22 undef = .pointer (some ⟨w1.heap.size, 1, none⟩) := hS.1
          clear hS hsz
          refine will_of rfl ?_
          obtain ⟨d0, d1, _, _, _⟩ := box1 (baft HV.out hb)
          intro K hK
          go_simp
          exact hK _ _ ⟨Below.refl _ _, rfl⟩
        · intro a W hsz hb hS
          have h23 : a.tmps.getD 23 undef = .int .u64 (q : Int) := hS.1
          clear hS hsz
          refine will_of rfl ?_
          obtain ⟨d0, d1, _, _, _⟩ := box1 (baft HV.out hb)
          intro K hK
          go_simp
          refine (rvbits_is HF.out.2).mono ?_
          rintro e W' ⟨v, rfl, hv, hb'⟩
          exact hK _ _ ⟨hb', hv⟩
        · intro a W hsz hb hS
          have q21 : IsRV (fv p) UQ 100 (a.tmps.getD 21 undef) W := hS.1
          have q24 : IsRV (fv q) UQ 100 (a.tmps.getD 24 undef) W := hS.2.1
          clear hS hsz
          obtain ⟨v21, h21⟩ : ∃ v, a.tmps.getD 21 undef = v := ⟨_, rfl⟩
          rw [h21] at q21
          obtain ⟨v24, h24⟩ : ∃ v, a.tmps.getD 24 undef = v := ⟨_, rfl⟩
          rw [h24] at q24
          refine will_of rfl ?_
          obtain ⟨d0, d1, _, _, _⟩ := box1 (baft HV.out hb)
          intro K hK
          go_simp
          refine (rv_add q21 q24 (by omega) (by omega)).mono ?_
          rintro e W' ⟨v, rfl, hv, hb'⟩
          exact hK _ _ ⟨hb', hv⟩
        · intro a W hsz hb hS
          clear hS hsz
          refine will_of rfl ?_
          intro K hK
          go_simp
          exact hK _ _ ⟨bnew _ _, _, rfl, Box.new _, hb.size⟩
        intro f W hb hH
        have e0 : f 0 = .pointer (some ⟨w1.heap.size, 0, none⟩) := hH.1
        have e1 : f 1 = .int .u64 (p : Int) := hH.2.1
        obtain ⟨x2, y2⟩ : ∃ x, f 2 = x := ⟨_, rfl⟩
        have q2 : IsRV (fv p) UQ 100 (f 2) W := hH.2.2.1
        rw [y2] at q2
        have e3 : f 3 = .pointer (some ⟨w1.heap.size, 1, none⟩) := hH.2.2.2.1
        have e4 : f 4 = .int .u64 (q : Int) := hH.2.2.2.2.1
        obtain ⟨x5, y5⟩ : ∃ x, f 5 = x := ⟨_, rfl⟩
        have q5 : IsRV (fv q) UQ 100 (f 5) W := hH.2.2.2.2.2.1
        rw [y5] at q5
        obtain ⟨x6, y6⟩ : ∃ x, f 6 = x := ⟨_, rfl⟩
        have q6 : IsRV (fv p * UQ + fv q * UQ) (UQ * UQ) 201 (f 6) W := hH.2.2.2.2.2.2.1
        rw [y6] at q6
        obtain ⟨x7, y7⟩ : ∃ x, f 7 = x := ⟨_, rfl⟩
        have q7 : IsBox W0.heap.size (f 7) W := hH.2.2.2.2.2.2.2.1
        rw [y7] at q7
        simp only [List.take_succ_cons, List.take_zero, List.drop_succ_cons, List.drop_zero, putFrom, Act.put, List.setIfInBounds_toArray, List.set_cons_zero, List.set_cons_succ, Nat.reduceAdd, e0, e1, y2, e3, e4, y5, y6, y7]
        clear e0 e1 y2 e3 e4 y5 y6 y7 hH f
        clear q2 q5
        obtain ⟨s, As, ns, cs, Bs, ms, ds, rfl⟩ := q6.agg
        obtain ⟨r, rfl, hbox, hr⟩ := q7
        have HB0 := HB2
        have HB2 := Lib.hid (baft HB2.out hb)
        have hr' : w.heap.size ≤ r := Nat.le_trans HB0.out.size hr
        have HBox := Lib.hid hbox
        obtain ⟨o0, o1, o2, p0, p1, p2⟩ := hbox.cells
        have hlt := hbox.lt
        have HQ6 := Lib.hid q6
        have HRr := Lib.hid hr'
        clear q6 hb hr hr' hbox
        go_upto_region 11 with fail
        obtain ⟨W2, hW2⟩ : ∃ W2, put3 W r (.bool s) (.slice As ns cs) (.slice Bs ms ds) = W2 := ⟨_, rfl⟩
        have HB3 := Lib.hid (hW2 ▸ Box3.put HBox.out (.bool s) (.slice As ns cs) (.slice Bs ms ds))
        have HQ7 := Lib.hid (hW2 ▸ HQ6.out.put HBox.out (.bool s) (.slice As ns cs) (.slice Bs ms ds))
        have HB4 := Lib.hid (hW2 ▸ put3_below HB2.out HRr.out (.bool s) (.slice As ns cs) (.slice Bs ms ds))
        change Code.wp _ _ _ _ (put3 W r (.bool s) (.slice As ns cs) (.slice Bs ms ds))
        rw [hW2]
        clear hW2 o0 o1 o2 p0 p1 p2 hlt c0 c1 f0 f1 hz
        refine region_at 5 (Pick [IsV (.agg #[.bool s, .slice As ns cs, .slice Bs ms ds]), IsRV 2 1 2, IsRV (fv p + fv q) (2 * UQ) 203, IsV (.int .u64 (R : Int)), IsV (.int .u64 (R : Int))]) (by kernel_rfl) (by kernel_rfl) (by kernel_rfl) (mono_pick ⟨IsV.mono _, IsRV.mono _ _ _, IsRV.mono _ _ _, IsV.mono _, IsV.mono _, trivial⟩) ⟨?_, ?_, ?_, ?_, ?_, trivial⟩ ?_
        · intro a W hsz hb hS
          have h4 : a.tmps.getD 4 undef = .pointer (some ⟨r, 0, none⟩) := hS.1
          clear hS hsz
          refine will_of rfl ?_
          obtain ⟨d0, d1, d2⟩ := (HB3.out.later hb).cells
          intro K hK
          go_simp
          exact hK _ _ ⟨Below.refl _ _, rfl⟩
        · intro a W hsz hb hS
          clear hS hsz
          refine will_of rfl ?_
          obtain ⟨d0, d1, d2⟩ := (HB3.out.later hb).cells
          intro K hK
          go_simp
          refine (rvint_is 2 (by omega)).mono ?_
          rintro e W' ⟨v, rfl, hv, hb'⟩
          exact hK _ _ ⟨hb', hv⟩
        · intro a W hsz hb hS
          have h26 : a.tmps.getD 26 undef = .agg #[.bool s, .slice As ns cs, .slice Bs ms ds] := hS.1
          have q27 : IsRV 2 1 2 (a.tmps.getD 27 undef) W := hS.2.1
          clear hS hsz
          obtain ⟨v27, h27⟩ : ∃ v, a.tmps.getD 27 undef = v := ⟨_, rfl⟩
          rw [h27] at q27
          refine will_of rfl ?_
          obtain ⟨d0, d1, d2⟩ := (HB3.out.later hb).cells
          intro K hK
          go_simp
          refine (rv_quo (IsRV.mono _ _ _ _ _ _ hb HQ7.out) q27 (by omega) (by omega) (by omega)).mono ?_
          rintro e W' ⟨v, rfl, hv, hb'⟩
          exact hK _ _ ⟨hb', hv.eqv (Nat.mul_pos (by omega) UQ_pos) (mid_eqv _ _)⟩
        · intro a W hsz hb hS
          have q28 : IsRV (fv p + fv q) (2 * UQ) 203 (a.tmps.getD 28 undef) W := hS.1
          clear hS hsz
          obtain ⟨v28, h28⟩ : ∃ v, a.tmps.getD 28 undef = v := ⟨_, rfl⟩
          rw [h28] at q28
          refine will_of rfl ?_
          obtain ⟨d0, d1, d2⟩ := (HB3.out.later hb).cells
          intro K hK
          go_simp
          refine (bits3_is q28 (by omega) (K := KU) rfl).mono ?_
          rw [mid_rat, ← HRR.out]
          rintro e W' ⟨_, rfl, rfl, hb'⟩
          exact hK _ _ ⟨hb', rfl⟩
        · intro a W hsz hb hS
          have h29 : a.tmps.getD 29 undef = .int .u64 (R : Int) := hS.1
          clear hS hsz
          refine will_of rfl ?_
          intro K hK
          go_simp
          exact hK _ _ ⟨Below.refl _ _, rfl⟩
        intro f W hb hH
        have e0 : f 0 = .agg #[.bool s, .slice As ns cs, .slice Bs ms ds] := hH.1
        obtain ⟨x1, y1⟩ : ∃ x, f 1 = x := ⟨_, rfl⟩
        have q1 : IsRV 2 1 2 (f 1) W := hH.2.1
        rw [y1] at q1
        obtain ⟨x2, y2⟩ : ∃ x, f 2 = x := ⟨_, rfl⟩
        have q2 : IsRV (fv p + fv q) (2 * UQ) 203 (f 2) W := hH.2.2.1
        rw [y2] at q2
        have e3 : f 3 = .int .u64 (R : Int) := hH.2.2.2.1
        have e4 : f 4 = .int .u64 (R : Int) := hH.2.2.2.2.1
        simp only [List.take_succ_cons, List.take_zero, List.drop_succ_cons, List.drop_zero, putFrom, Act.put, List.setIfInBounds_toArray, List.set_cons_zero, List.set_cons_succ, Nat.reduceAdd, e0, y1, y2, e3, e4]
        clear e0 y1 y2 e3 e4 hH f
        have HB5 := Lib.hid (raft HB4.out hb)
        clear hb q1 q2
        go_wp2
        go_ret
        exact ⟨rfl, HB5.out⟩
  · rw [if_neg hs]
    have e1 : flo x y = 9218868437227405312 := by rw [flo, if_neg hs]
    have e2 : fhi x y = 18442240474082181120 := by rw [fhi, if_neg hs]
    simp only [e1, e2] at HR
    have HR : Hid (∀ W, Calls Try.prog 24 #[.agg #[.int .u64 (x : Int), .int .u64 (y : Int)]] W fun e w' => e = .returned (.agg #[.int .u64 9218868437227405312, .int .u64 18442240474082181120]) ∧ Below W.heap.size W w') := Lib.hid HR.out
    clear e1 e2 hs hx hy
    go_enter Try.func34, Try.ntmps34
    go_wp2_with fail
    refine (HR.out _).mono ?_
    rintro en w1 ⟨rfl, hb⟩
    have hb := Lib.hid (baft (HB.out _) hb)
    have HV := Lib.hid (Below.refl (w1.alloc (.cells #[.int .u64 9218868437227405312, .int .u64 18442240474082181120] 24)).heap.size (w1.alloc (.cells #[.int .u64 9218868437227405312, .int .u64 18442240474082181120] 24)))
    have HB2 := Lib.hid (baft hb.out (bnew w1 (.cells #[.int .u64 9218868437227405312, .int .u64 18442240474082181120] 24)))
    obtain ⟨c0, c1, f0, f1, hz⟩ := box1 HV.out
    clear hb HB
    go_upto_region 2 with fail

    refine region_at 3 (Pick [IsV (.agg #[.int .u64 9218868437227405312, .int .u64 18442240474082181120]), IsV (.agg #[.int .u64 9218868437227405312, .int .u64 18442240474082181120]), IsV (.bool true)]) (by kernel_rfl) (by kernel_rfl) (by kernel_rfl) (mono_pick ⟨IsV.mono _, IsV.mono _, IsV.mono _, trivial⟩) ⟨?_, ?_, ?_, trivial⟩ ?_
    · intro a W hsz hb hS
      have h3 : a.tmps.getD 3 undef = .pointer (some ⟨w1.heap.size, 0, none⟩) := hS.1
      clear hS hsz
      refine will_of rfl ?_
      obtain ⟨d0, d1, _, _, _⟩ := box1 (baft HV.out hb)
      intro K hK
      go_simp
      exact hK _ _ ⟨Below.refl _ _, rfl⟩
    · intro a W hsz hb hS
      clear hS hsz
      refine will_of rfl ?_
      obtain ⟨d0, d1, _, _, _⟩ := box1 (baft HV.out hb)
      intro K hK
      go_simp
      refine (empty6_any _).mono ?_
      rintro e W' ⟨rfl, hb'⟩
      exact hK _ _ ⟨hb', rfl⟩
    · intro a W hsz hb hS
      have h7 : a.tmps.getD 7 undef = .agg #[.int .u64 9218868437227405312, .int .u64 18442240474082181120] := hS.1
      have h8 : a.tmps.getD 8 undef = .agg #[.int .u64 9218868437227405312, .int .u64 18442240474082181120] := hS.2.1
      clear hS hsz
      refine will_of rfl ?_
      intro K hK
      go_simp
      exact hK _ _ ⟨Below.refl _ _, rfl⟩
    intro f W hb hH
    have e0 : f 0 = .agg #[.int .u64 9218868437227405312, .int .u64 18442240474082181120] := hH.1
    have e1 : f 1 = .agg #[.int .u64 9218868437227405312, .int .u64 18442240474082181120] := hH.2.1
    have e2 : f 2 = .bool true := hH.2.2.1
    simp only [List.take_succ_cons, List.take_zero, List.drop_succ_cons, List.drop_zero, putFrom, Act.put, List.setIfInBounds_toArray, List.set_cons_zero, List.set_cons_succ, Nat.reduceAdd, e0, e1, e2]
    clear e0 e1 e2 hH f
    have HV := Lib.hid (baft HV.out hb)
    have HB2 := Lib.hid (baft HB2.out hb)
    clear hb c0 c1 f0 f1 hz
    obtain ⟨c0, c1, f0, f1, hz⟩ := box1 HV.out
    go_wp2
    go_ret
    exact ⟨rfl, HB2.out⟩
end Go.Proofs.Ytmmbbkeefphaiaa
