/- Layer 5: DigitsBound answers true. -/
import Derived.Test.YtiadjcilfljdaaaGreatDoorG39
import Derived.Test.YtiadjcilfljdaaaGreatDoorG38
namespace Go.Proofs.YtiadjcilfljdaaaGreatDoor
set_option linter.unusedVariables false
set_option linter.unusedSimpArgs false
open Go.RowKit Verge

theorem step_any (b : Nat) (hb : b < 18446744073709551615) (w : World) : Calls Tryz.prog 24 #[.int .u64 (b : Int)] w fun e w' => e = .returned (.int .u64 (stp b : Int)) ∧ w = w' := by
  unfold stp
  by_cases h1 : b = 9223372036854775809
  · subst h1
    rw [if_pos (.inl rfl)]
    go_enter Tryz.func24, Tryz.ntmps24
    go_wp2
    go_ret
    exact ⟨rfl, rfl⟩
  by_cases h2 : b = 9223372036854775808
  · subst h2
    rw [if_pos (.inr rfl)]
    go_enter Tryz.func24, Tryz.ntmps24
    go_wp2
    go_ret
    exact ⟨rfl, rfl⟩
  rw [if_neg (by omega)]
  have q1 : ((b : Int) == 9223372036854775809) = false := beq_eq_false_iff_ne.2 (by omega)
  have q2 : ((b : Int) == 9223372036854775808) = false := beq_eq_false_iff_ne.2 (by omega)
  by_cases h3 : 9223372036854775808 < b
  · rw [if_pos h3]
    have q3 : decide ((9223372036854775808 : Int) < (b : Int)) = true := decide_eq_true (by omega)
    have q4 : IntKind.u64.wrap ((b : Int) - 1) = ((b - 1 : Nat) : Int) := by rw [IntKind.wrap_u64]; omega
    go_enter Tryz.func24, Tryz.ntmps24
    go_wp2
    go_ret
    exact ⟨by simp [q4], rfl⟩
  · rw [if_neg h3]
    have q3 : decide ((9223372036854775808 : Int) < (b : Int)) = false := decide_eq_false (by omega)
    go_enter Tryz.func24, Tryz.ntmps24
    go_wp2
    go_ret
    exact ⟨by simp, rfl⟩
/-- What says answers. -/
def sayT (b : Nat) : List UInt8 := if b = 9218868437227405312 then [49, 101, 57, 57, 57, 57] else if b = 18442240474082181120 then [45, 49, 101, 57, 57, 57, 57] else exT b
theorem says_any (b : Nat) (hb : b < 18446744073709551616) (h : fwrong b = false ∨ b = 9218868437227405312 ∨ b = 18442240474082181120) (w : World) (hP : Pow10 w) : Calls Tryz.prog 23 #[.int .u64 (b : Int)] w fun e w' => e = .returned (.string (bs (sayT b))) ∧ Below w.heap.size w w' := by
  by_cases h1 : b = 9218868437227405312
  · subst h1
    go_enter Tryz.func23, Tryz.ntmps23
    go_wp2
    go_ret
    exact ⟨rfl, Below.refl _ _⟩
  by_cases h2 : b = 18442240474082181120
  · subst h2
    go_enter Tryz.func23, Tryz.ntmps23
    go_wp2
    go_ret
    exact ⟨rfl, Below.refl _ _⟩
  have hw : fwrong b = false := by rcases h with h | h | h <;> first | exact h | omega
  have e : sayT b = exT b := by unfold sayT; rw [if_neg h1, if_neg h2]
  have hc : exC b = 0 := by unfold exC; rw [if_neg (by rw [hw]; simp)]
  rw [e]
  have q1 : ((b : Int) == 9218868437227405312) = false := beq_eq_false_iff_ne.2 (by omega)
  have q2 : ((b : Int) == 18442240474082181120) = false := beq_eq_false_iff_ne.2 (by omega)
  have HF := Lib.hid (fun W => fl5_any' b hb W)
  have HE := Lib.hid (fun W (hP : Pow10 W) => exP b hb W hP)
  rw [hc] at HE
  generalize bs (exT b) = t at *
  have HPP := Lib.hid hP
  clear hP h h1 h2 hw e hc hb
  go_enter Tryz.func23, Tryz.ntmps23
  go_wp2_with fail
  refine (HF.out _).mono ?_
  rintro en wn ⟨rfl, rfl⟩
  go_wp2_with fail
  refine (HE.out _ HPP.out).mono ?_
  rintro en w1 ⟨rfl, hb1⟩
  have HB := Lib.hid hb1
  clear hb1
  go_wp2
  go_ret
  exact ⟨rfl, HB.out⟩
theorem readS_ordP {s : List UInt8} {x : Bool × Nat × Nat × Int} (h : scn s = .ok x) (d : Int) : readS d s = (ordP d x, 0, 0) := by
  obtain ⟨n, N, D, K⟩ := x
  unfold readS ordP
  rw [h]
theorem cmpS_ok {s t : List UInt8} {x y : Bool × Nat × Nat × Int} (h : scn s = .ok x) (h' : scn t = .ok y) : cmpS s t = (ordS x y, 0, 0) := by
  unfold cmpS
  rw [h, h']
theorem scn_len {l : List UInt8} {x : Bool × Nat × Nat × Int} (h : scn l = .ok x) : l.length ≤ 4096 := by
  refine Classical.byContradiction fun hc => ?_
  unfold scn at h
  rw [if_pos (by omega)] at h
  cases h
set_option maxRecDepth 100000 in
set_option maxHeartbeats 4000000 in
theorem bound_err (s : List UInt8) (p : Nat) (c : Int) (hS : scn s = .error (p, c)) (w : World) (hs : s.length ≤ 140737488355328) (hP : Pow10 w) : Calls Tryz.prog 7 #[.string (bs s)] w fun e w' => e = .returned (.bool true) ∧ Below w.heap.size w w' := by
  have hp := scn_place hS
  have hc := scn_code hS
  have hR : ∀ d, readS d s = (0, (p : Int), c) := fun d => by unfold readS; rw [hS]
  have r1 := fun W => lread_any (-1) s hs W
  have r2 := fun W => lread_any 1 s hs W
  have r3 := fun W => lread_any 0 s hs W
  rw [hR] at r1 r2 r3
  have c1 := fun W => cmpA_any s [49] hs (by decide) W
  have c2 := fun W => cmpA_any [50, 51] s (by decide) hs W
  have e1 : cmpS s [49] = (0, (p : Int), c) := by unfold cmpS; rw [hS]
  have e2 : cmpS [50, 51] s = (0, (p : Int) + 3, c) := by
    unfold cmpS
    have : scn [50, 51] = .ok (false, 23, 1, 0) := rfl
    rw [this, hS]
    show ((0 : Int), ((2 : Nat) : Int) + 1 + (p : Int), c) = _
    congr 2; omega
  rw [e1] at c1
  rw [e2] at c2
  simp only [IsI] at c1 c2
  have HR1 := Lib.hid r1
  have HR2 := Lib.hid r2
  have HR3 := Lib.hid r3
  have HC1 := Lib.hid (show ∀ W, Calls Tryz.prog 17 #[.string (bs s), .string { data := #[49] }] W (Ans W (IsV (.tuple #[.int .i64 0, .int .i64 (p : Int), .int .i64 c]))) from c1)
  have HC2 := Lib.hid (show ∀ W, Calls Tryz.prog 17 #[.string { data := #[50, 51] }, .string (bs s)] W (Ans W (IsV (.tuple #[.int .i64 0, .int .i64 ((p : Int) + 3), .int .i64 c]))) from c2)
  have HL := Lib.hid (fun W (hP : Pow10 W) => lives_any W hP)
  have HPP := Lib.hid hP
  have HB := Lib.hid (Below.refl w.heap.size w)
  have q1 : (c == 0) = false := beq_eq_false_iff_ne.2 (by omega)
  have q2 : (c != 0) = true := by simp [bne, q1]
  clear r1 r2 r3 c1 c2 e1 e2 hR hS hP hs hc
  generalize bs s = S at *
  go_enter Tryz.func7, Tryz.ntmps7
  go_wp2_with (first
      | (go_at_call 16; (with_reducible refine (HR1.out _).mono ?_); rintro en wn ⟨vn, rfl, rfl, hbn⟩; have HB := Lib.hid (raft HB.out hbn); clear hbn)
      | (go_at_call 16; (with_reducible refine (HR2.out _).mono ?_); rintro en wn ⟨vn, rfl, rfl, hbn⟩; have HB := Lib.hid (raft HB.out hbn); clear hbn)
      | (go_at_call 16; (with_reducible refine (HR3.out _).mono ?_); rintro en wn ⟨vn, rfl, rfl, hbn⟩; have HB := Lib.hid (raft HB.out hbn); clear hbn)
      | (go_at_call 14; (with_reducible refine (HL.out _ (HPP.out.below HB.out)).mono ?_); rintro en wn ⟨rfl, hbn⟩; have HB := Lib.hid (raft HB.out hbn); clear hbn)
      | (go_at_call 17; (with_reducible refine (HC1.out _).mono ?_); rintro en wn ⟨vn, rfl, rfl, hbn⟩; have HB := Lib.hid (raft HB.out hbn); clear hbn)
      | (go_at_call 17; (with_reducible refine (HC2.out _).mono ?_); rintro en wn ⟨vn, rfl, rfl, hbn⟩; have HB := Lib.hid (raft HB.out hbn); clear hbn))
  go_ret
  exact ⟨rfl, HB.out⟩
set_option maxRecDepth 100000 in
set_option maxHeartbeats 4000000 in
theorem bound_ok (s : List UInt8) (x : Bool × Nat × Nat × Int) (hS : scn s = .ok x) (w : World) (hs : s.length ≤ 140737488355328) (hP : Pow10 w) : Calls Tryz.prog 7 #[.string (bs s)] w fun e w' => e = .returned (.bool true) ∧ Below w.heap.size w w' := by
  have hR : ∀ d, readS d s = (ordP d x, 0, 0) := fun d => readS_ordP hS d
  have hlt : ∀ d, ordP d x < 18446744073709551615 := fun d => by
    have := readS_ok d s
    rw [hR d] at this
    have h2 : ¬ fnan (ordP d x) := this.2
    have h1 : ordP d x < 18446744073709551616 := this.1
    rcases Nat.lt_or_ge (ordP d x) 18446744073709551615 with h | h
    · exact h
    · exact absurd (show fnan (ordP d x) by rw [show ordP d x = 18446744073709551615 by omega]; decide) h2
  have B := bnd_law x (scn_bd (n := x.1) (N := x.2.1) (D := x.2.2.1) (K := x.2.2.2) hS).2.2.1
  have r1 := fun W => lread_any (-1) s hs W
  have r2 := fun W => lread_any 1 s hs W
  have r3 := fun W => lread_any 0 s hs W
  rw [hR] at r1 r2 r3
  have l1 := hlt (-1)
  have l2 := hlt 1
  simp only at r1 r2 r3
  generalize ordP (-1) x = lo at *
  generalize ordP 1 x = hi at *
  generalize ordP 0 x = ne at *
  have HL := Lib.hid (fun W (hP : Pow10 W) => lives_any W hP)
  have HPP := Lib.hid hP
  have HB := Lib.hid (Below.refl w.heap.size w)
  have q1 : ((lo : Int) == 9223372036854775808) = false := beq_eq_false_iff_ne.2 (by have := B.l1.1; omega)
  have q2 : ((lo : Int) == 9218868437227405312) = false := beq_eq_false_iff_ne.2 (by have := B.l1.2; omega)
  have q3 : ((hi : Int) == 9223372036854775808) = false := beq_eq_false_iff_ne.2 (by have := B.h1.1; omega)
  have q4 : ((hi : Int) == 18442240474082181120) = false := beq_eq_false_iff_ne.2 (by have := B.h1.2; omega)
  have hsay : ∀ b, b ≠ 9218868437227405312 → b ≠ 18442240474082181120 → sayT b = exT b := fun b h1 h2 => by unfold sayT; rw [if_neg h1, if_neg h2]
  have hnear := B.near
  rcases B.law with ⟨heq, hni, k1, k2, k3, k4⟩ | ⟨hne, hst, hA, hB⟩
  · subst heq
    obtain rfl : ne = lo := by omega
    have hT := hsay ne B.l1.2 hni
    have HY := Lib.hid (fun W (hW : Pow10 W) => says_any ne (by omega) (.inl k4) W hW)
    rw [hT] at HY
    have hlen := scn_len k1
    have o1 := fun W => order_any (exT ne) s (by omega) hs W
    have o2 := fun W => order_any s (exT ne) hs (by omega) W
    have z1 : cmpS (exT ne) s = (0, 0, 0) := by rw [cmpS_ok k1 hS, k2]
    have z2 : cmpS s (exT ne) = (0, 0, 0) := by rw [cmpS_ok hS k1, k3]
    rw [z1] at o1
    rw [z2] at o2
    simp only [if_true] at o1 o2
    have HR1 := Lib.hid r1
    have HR2 := Lib.hid r2
    have HR3 := Lib.hid r3
    have HO1 := Lib.hid o1
    have HO2 := Lib.hid o2
    clear r1 r2 r3 o1 o2 z1 z2 hlen hT k1 k2 k3 k4 hni hsay hnear B hR hlt hS hP hs l1 l2
    generalize bs s = S at *
    generalize bs (exT ne) = T at *
    go_enter Tryz.func7, Tryz.ntmps7
    go_wp2_with (first
        | (go_at_call 16; (with_reducible refine (HR1.out _).mono ?_); rintro en wn ⟨vn, rfl, rfl, hbn⟩; have HB := Lib.hid (raft HB.out hbn); clear hbn)
        | (go_at_call 16; (with_reducible refine (HR2.out _).mono ?_); rintro en wn ⟨vn, rfl, rfl, hbn⟩; have HB := Lib.hid (raft HB.out hbn); clear hbn)
        | (go_at_call 16; (with_reducible refine (HR3.out _).mono ?_); rintro en wn ⟨vn, rfl, rfl, hbn⟩; have HB := Lib.hid (raft HB.out hbn); clear hbn)
        | (go_at_call 14; (with_reducible refine (HL.out _ (HPP.out.below HB.out)).mono ?_); rintro en wn ⟨rfl, hbn⟩; have HB := Lib.hid (raft HB.out hbn); clear hbn)
        | (go_at_call 23; (with_reducible refine (HY.out _ (HPP.out.below HB.out)).mono ?_); rintro en wn ⟨rfl, hbn⟩; have HB := Lib.hid (raft HB.out hbn); clear hbn)
        | (go_at_call 18; (with_reducible refine (HO1.out _).mono ?_); rintro en wn ⟨vn, rfl, rfl, hbn⟩; have HB := Lib.hid (raft HB.out hbn); clear hbn)
        | (go_at_call 18; (with_reducible refine (HO2.out _).mono ?_); rintro en wn ⟨vn, rfl, rfl, hbn⟩; have HB := Lib.hid (raft HB.out hbn); clear hbn))
    go_ret
    exact ⟨rfl, HB.out⟩
  · have t1 : sayT lo = (if lo = 18442240474082181120 then [45, 49, 101, 57, 57, 57, 57] else exT lo) := by unfold sayT; rw [if_neg B.l1.2]
    have t2 : sayT hi = (if hi = 9218868437227405312 then [49, 101, 57, 57, 57, 57] else exT hi) := by unfold sayT; split; rfl; rw [if_neg B.h1.2]
    have lenA : (sayT lo).length ≤ 140737488355328 := by
      rw [t1]
      split
      · simp
      · rename_i h
        rcases hA with h' | ⟨h', _⟩
        · exact absurd h' h
        · have := scn_len h'; omega
    have lenB : (sayT hi).length ≤ 140737488355328 := by
      rw [t2]
      split
      · simp
      · rename_i h
        rcases hB with h' | ⟨h', _⟩
        · exact absurd h' h
        · have := scn_len h'; omega
    have y1 := fun W (hW : Pow10 W) => says_any lo (by omega) (by rcases hA with h | h <;> first | exact .inr (.inr h) | exact .inl h.2.2) W hW
    have y2 := fun W (hW : Pow10 W) => says_any hi (by omega) (by rcases hB with h | h <;> first | exact .inr (.inl h) | exact .inl h.2.2) W hW
    have o1 := fun W => order_any (sayT lo) s lenA hs W
    have o2 := fun W => order_any s (sayT hi) hs lenB W
    obtain ⟨A, eA⟩ : ∃ A, (if (cmpS (sayT lo) s).2.2 = 0 then (cmpS (sayT lo) s).1 else 9) = A := ⟨_, rfl⟩
    obtain ⟨C, eB⟩ : ∃ C, (if (cmpS s (sayT hi)).2.2 = 0 then (cmpS s (sayT hi)).1 else 9) = C := ⟨_, rfl⟩
    have fA : decide (A < 0) = true ∨ (decide (A < 0) = false ∧ ((lo : Int) == 18442240474082181120) = true) := by
      by_cases h : lo = 18442240474082181120
      · by_cases h2 : A < 0
        · exact .inl (decide_eq_true h2)
        · exact .inr ⟨decide_eq_false h2, beq_iff_eq.2 (by omega)⟩
      · rcases hA with h' | ⟨h', h3, _⟩
        · exact absurd h' h
        · refine .inl (decide_eq_true ?_)
          rw [← eA, t1, if_neg h, cmpS_ok h' hS, h3]; decide
    have fB : decide (C < 0) = true ∨ (decide (C < 0) = false ∧ ((hi : Int) == 9218868437227405312) = true) := by
      by_cases h : hi = 9218868437227405312
      · by_cases h2 : C < 0
        · exact .inl (decide_eq_true h2)
        · exact .inr ⟨decide_eq_false h2, beq_iff_eq.2 (by omega)⟩
      · rcases hB with h' | ⟨h', h3, _⟩
        · exact absurd h' h
        · refine .inl (decide_eq_true ?_)
          rw [← eB, t2, if_neg h, cmpS_ok hS h', h3]; decide
    have fN : (((ne : Int) == (lo : Int)) = true ∧ ((ne : Int) != (lo : Int)) = false) ∨ (((ne : Int) == (lo : Int)) = false ∧ ((ne : Int) != (lo : Int)) = true ∧ ((ne : Int) == (hi : Int)) = true ∧ ((ne : Int) != (hi : Int)) = false) := by
      have : lo ≠ hi := hne
      rcases hnear with h | h
      · left; simp [bne]; omega
      · right; simp [bne]; omega
    have q5 : ((lo : Int) == (hi : Int)) = false := beq_eq_false_iff_ne.2 (by have := hne; omega)
    have st := fun W => step_any lo l1 W
    rw [hst] at st
    rw [eA] at o1
    rw [eB] at o2
    have HR1 := Lib.hid r1
    have HR2 := Lib.hid r2
    have HR3 := Lib.hid r3
    have HO1 := Lib.hid o1
    have HO2 := Lib.hid o2
    have HY1 := Lib.hid y1
    have HY2 := Lib.hid y2
    have HS := Lib.hid st
    clear r1 r2 r3 o1 o2 y1 y2 st eA eB lenA lenB t1 t2 hA hB hsay hnear B hR hlt hS hP hs l1 l2 hne hst
    generalize bs s = S at *
    generalize bs (sayT lo) = T1 at *
    generalize bs (sayT hi) = T2 at *
    rcases fN with ⟨n1, n2⟩ | ⟨n1, n2, n3, n4⟩
    · rcases fA with qA | ⟨qA, qA2⟩
      · rcases fB with qB | ⟨qB, qB2⟩
        · go_enter Tryz.func7, Tryz.ntmps7
          go_wp2_with (first
            | (go_at_call 16; (with_reducible refine (HR1.out _).mono ?_); rintro en wn ⟨vn, rfl, rfl, hbn⟩; have HB := Lib.hid (raft HB.out hbn); clear hbn)
            | (go_at_call 16; (with_reducible refine (HR2.out _).mono ?_); rintro en wn ⟨vn, rfl, rfl, hbn⟩; have HB := Lib.hid (raft HB.out hbn); clear hbn)
            | (go_at_call 16; (with_reducible refine (HR3.out _).mono ?_); rintro en wn ⟨vn, rfl, rfl, hbn⟩; have HB := Lib.hid (raft HB.out hbn); clear hbn)
            | (go_at_call 14; (with_reducible refine (HL.out _ (HPP.out.below HB.out)).mono ?_); rintro en wn ⟨rfl, hbn⟩; have HB := Lib.hid (raft HB.out hbn); clear hbn)
            | (go_at_call 23; (with_reducible refine (HY1.out _ (HPP.out.below HB.out)).mono ?_); rintro en wn ⟨rfl, hbn⟩; have HB := Lib.hid (raft HB.out hbn); clear hbn)
            | (go_at_call 23; (with_reducible refine (HY2.out _ (HPP.out.below HB.out)).mono ?_); rintro en wn ⟨rfl, hbn⟩; have HB := Lib.hid (raft HB.out hbn); clear hbn)
            | (go_at_call 18; (with_reducible refine (HO1.out _).mono ?_); rintro en wn ⟨vn, rfl, rfl, hbn⟩; have HB := Lib.hid (raft HB.out hbn); clear hbn)
            | (go_at_call 18; (with_reducible refine (HO2.out _).mono ?_); rintro en wn ⟨vn, rfl, rfl, hbn⟩; have HB := Lib.hid (raft HB.out hbn); clear hbn)
            | (go_at_call 24; (with_reducible refine (HS.out _).mono ?_); rintro en wn ⟨rfl, rfl⟩))
          go_ret
          exact ⟨rfl, HB.out⟩
        · go_enter Tryz.func7, Tryz.ntmps7
          go_wp2_with (first
            | (go_at_call 16; (with_reducible refine (HR1.out _).mono ?_); rintro en wn ⟨vn, rfl, rfl, hbn⟩; have HB := Lib.hid (raft HB.out hbn); clear hbn)
            | (go_at_call 16; (with_reducible refine (HR2.out _).mono ?_); rintro en wn ⟨vn, rfl, rfl, hbn⟩; have HB := Lib.hid (raft HB.out hbn); clear hbn)
            | (go_at_call 16; (with_reducible refine (HR3.out _).mono ?_); rintro en wn ⟨vn, rfl, rfl, hbn⟩; have HB := Lib.hid (raft HB.out hbn); clear hbn)
            | (go_at_call 14; (with_reducible refine (HL.out _ (HPP.out.below HB.out)).mono ?_); rintro en wn ⟨rfl, hbn⟩; have HB := Lib.hid (raft HB.out hbn); clear hbn)
            | (go_at_call 23; (with_reducible refine (HY1.out _ (HPP.out.below HB.out)).mono ?_); rintro en wn ⟨rfl, hbn⟩; have HB := Lib.hid (raft HB.out hbn); clear hbn)
            | (go_at_call 23; (with_reducible refine (HY2.out _ (HPP.out.below HB.out)).mono ?_); rintro en wn ⟨rfl, hbn⟩; have HB := Lib.hid (raft HB.out hbn); clear hbn)
            | (go_at_call 18; (with_reducible refine (HO1.out _).mono ?_); rintro en wn ⟨vn, rfl, rfl, hbn⟩; have HB := Lib.hid (raft HB.out hbn); clear hbn)
            | (go_at_call 18; (with_reducible refine (HO2.out _).mono ?_); rintro en wn ⟨vn, rfl, rfl, hbn⟩; have HB := Lib.hid (raft HB.out hbn); clear hbn)
            | (go_at_call 24; (with_reducible refine (HS.out _).mono ?_); rintro en wn ⟨rfl, rfl⟩))
          go_ret
          exact ⟨rfl, HB.out⟩
      · rcases fB with qB | ⟨qB, qB2⟩
        · go_enter Tryz.func7, Tryz.ntmps7
          go_wp2_with (first
            | (go_at_call 16; (with_reducible refine (HR1.out _).mono ?_); rintro en wn ⟨vn, rfl, rfl, hbn⟩; have HB := Lib.hid (raft HB.out hbn); clear hbn)
            | (go_at_call 16; (with_reducible refine (HR2.out _).mono ?_); rintro en wn ⟨vn, rfl, rfl, hbn⟩; have HB := Lib.hid (raft HB.out hbn); clear hbn)
            | (go_at_call 16; (with_reducible refine (HR3.out _).mono ?_); rintro en wn ⟨vn, rfl, rfl, hbn⟩; have HB := Lib.hid (raft HB.out hbn); clear hbn)
            | (go_at_call 14; (with_reducible refine (HL.out _ (HPP.out.below HB.out)).mono ?_); rintro en wn ⟨rfl, hbn⟩; have HB := Lib.hid (raft HB.out hbn); clear hbn)
            | (go_at_call 23; (with_reducible refine (HY1.out _ (HPP.out.below HB.out)).mono ?_); rintro en wn ⟨rfl, hbn⟩; have HB := Lib.hid (raft HB.out hbn); clear hbn)
            | (go_at_call 23; (with_reducible refine (HY2.out _ (HPP.out.below HB.out)).mono ?_); rintro en wn ⟨rfl, hbn⟩; have HB := Lib.hid (raft HB.out hbn); clear hbn)
            | (go_at_call 18; (with_reducible refine (HO1.out _).mono ?_); rintro en wn ⟨vn, rfl, rfl, hbn⟩; have HB := Lib.hid (raft HB.out hbn); clear hbn)
            | (go_at_call 18; (with_reducible refine (HO2.out _).mono ?_); rintro en wn ⟨vn, rfl, rfl, hbn⟩; have HB := Lib.hid (raft HB.out hbn); clear hbn)
            | (go_at_call 24; (with_reducible refine (HS.out _).mono ?_); rintro en wn ⟨rfl, rfl⟩))
          go_ret
          exact ⟨rfl, HB.out⟩
        · go_enter Tryz.func7, Tryz.ntmps7
          go_wp2_with (first
            | (go_at_call 16; (with_reducible refine (HR1.out _).mono ?_); rintro en wn ⟨vn, rfl, rfl, hbn⟩; have HB := Lib.hid (raft HB.out hbn); clear hbn)
            | (go_at_call 16; (with_reducible refine (HR2.out _).mono ?_); rintro en wn ⟨vn, rfl, rfl, hbn⟩; have HB := Lib.hid (raft HB.out hbn); clear hbn)
            | (go_at_call 16; (with_reducible refine (HR3.out _).mono ?_); rintro en wn ⟨vn, rfl, rfl, hbn⟩; have HB := Lib.hid (raft HB.out hbn); clear hbn)
            | (go_at_call 14; (with_reducible refine (HL.out _ (HPP.out.below HB.out)).mono ?_); rintro en wn ⟨rfl, hbn⟩; have HB := Lib.hid (raft HB.out hbn); clear hbn)
            | (go_at_call 23; (with_reducible refine (HY1.out _ (HPP.out.below HB.out)).mono ?_); rintro en wn ⟨rfl, hbn⟩; have HB := Lib.hid (raft HB.out hbn); clear hbn)
            | (go_at_call 23; (with_reducible refine (HY2.out _ (HPP.out.below HB.out)).mono ?_); rintro en wn ⟨rfl, hbn⟩; have HB := Lib.hid (raft HB.out hbn); clear hbn)
            | (go_at_call 18; (with_reducible refine (HO1.out _).mono ?_); rintro en wn ⟨vn, rfl, rfl, hbn⟩; have HB := Lib.hid (raft HB.out hbn); clear hbn)
            | (go_at_call 18; (with_reducible refine (HO2.out _).mono ?_); rintro en wn ⟨vn, rfl, rfl, hbn⟩; have HB := Lib.hid (raft HB.out hbn); clear hbn)
            | (go_at_call 24; (with_reducible refine (HS.out _).mono ?_); rintro en wn ⟨rfl, rfl⟩))
          go_ret
          exact ⟨rfl, HB.out⟩
    · rcases fA with qA | ⟨qA, qA2⟩
      · rcases fB with qB | ⟨qB, qB2⟩
        · go_enter Tryz.func7, Tryz.ntmps7
          go_wp2_with (first
            | (go_at_call 16; (with_reducible refine (HR1.out _).mono ?_); rintro en wn ⟨vn, rfl, rfl, hbn⟩; have HB := Lib.hid (raft HB.out hbn); clear hbn)
            | (go_at_call 16; (with_reducible refine (HR2.out _).mono ?_); rintro en wn ⟨vn, rfl, rfl, hbn⟩; have HB := Lib.hid (raft HB.out hbn); clear hbn)
            | (go_at_call 16; (with_reducible refine (HR3.out _).mono ?_); rintro en wn ⟨vn, rfl, rfl, hbn⟩; have HB := Lib.hid (raft HB.out hbn); clear hbn)
            | (go_at_call 14; (with_reducible refine (HL.out _ (HPP.out.below HB.out)).mono ?_); rintro en wn ⟨rfl, hbn⟩; have HB := Lib.hid (raft HB.out hbn); clear hbn)
            | (go_at_call 23; (with_reducible refine (HY1.out _ (HPP.out.below HB.out)).mono ?_); rintro en wn ⟨rfl, hbn⟩; have HB := Lib.hid (raft HB.out hbn); clear hbn)
            | (go_at_call 23; (with_reducible refine (HY2.out _ (HPP.out.below HB.out)).mono ?_); rintro en wn ⟨rfl, hbn⟩; have HB := Lib.hid (raft HB.out hbn); clear hbn)
            | (go_at_call 18; (with_reducible refine (HO1.out _).mono ?_); rintro en wn ⟨vn, rfl, rfl, hbn⟩; have HB := Lib.hid (raft HB.out hbn); clear hbn)
            | (go_at_call 18; (with_reducible refine (HO2.out _).mono ?_); rintro en wn ⟨vn, rfl, rfl, hbn⟩; have HB := Lib.hid (raft HB.out hbn); clear hbn)
            | (go_at_call 24; (with_reducible refine (HS.out _).mono ?_); rintro en wn ⟨rfl, rfl⟩))
          go_ret
          exact ⟨rfl, HB.out⟩
        · go_enter Tryz.func7, Tryz.ntmps7
          go_wp2_with (first
            | (go_at_call 16; (with_reducible refine (HR1.out _).mono ?_); rintro en wn ⟨vn, rfl, rfl, hbn⟩; have HB := Lib.hid (raft HB.out hbn); clear hbn)
            | (go_at_call 16; (with_reducible refine (HR2.out _).mono ?_); rintro en wn ⟨vn, rfl, rfl, hbn⟩; have HB := Lib.hid (raft HB.out hbn); clear hbn)
            | (go_at_call 16; (with_reducible refine (HR3.out _).mono ?_); rintro en wn ⟨vn, rfl, rfl, hbn⟩; have HB := Lib.hid (raft HB.out hbn); clear hbn)
            | (go_at_call 14; (with_reducible refine (HL.out _ (HPP.out.below HB.out)).mono ?_); rintro en wn ⟨rfl, hbn⟩; have HB := Lib.hid (raft HB.out hbn); clear hbn)
            | (go_at_call 23; (with_reducible refine (HY1.out _ (HPP.out.below HB.out)).mono ?_); rintro en wn ⟨rfl, hbn⟩; have HB := Lib.hid (raft HB.out hbn); clear hbn)
            | (go_at_call 23; (with_reducible refine (HY2.out _ (HPP.out.below HB.out)).mono ?_); rintro en wn ⟨rfl, hbn⟩; have HB := Lib.hid (raft HB.out hbn); clear hbn)
            | (go_at_call 18; (with_reducible refine (HO1.out _).mono ?_); rintro en wn ⟨vn, rfl, rfl, hbn⟩; have HB := Lib.hid (raft HB.out hbn); clear hbn)
            | (go_at_call 18; (with_reducible refine (HO2.out _).mono ?_); rintro en wn ⟨vn, rfl, rfl, hbn⟩; have HB := Lib.hid (raft HB.out hbn); clear hbn)
            | (go_at_call 24; (with_reducible refine (HS.out _).mono ?_); rintro en wn ⟨rfl, rfl⟩))
          go_ret
          exact ⟨rfl, HB.out⟩
      · rcases fB with qB | ⟨qB, qB2⟩
        · go_enter Tryz.func7, Tryz.ntmps7
          go_wp2_with (first
            | (go_at_call 16; (with_reducible refine (HR1.out _).mono ?_); rintro en wn ⟨vn, rfl, rfl, hbn⟩; have HB := Lib.hid (raft HB.out hbn); clear hbn)
            | (go_at_call 16; (with_reducible refine (HR2.out _).mono ?_); rintro en wn ⟨vn, rfl, rfl, hbn⟩; have HB := Lib.hid (raft HB.out hbn); clear hbn)
            | (go_at_call 16; (with_reducible refine (HR3.out _).mono ?_); rintro en wn ⟨vn, rfl, rfl, hbn⟩; have HB := Lib.hid (raft HB.out hbn); clear hbn)
            | (go_at_call 14; (with_reducible refine (HL.out _ (HPP.out.below HB.out)).mono ?_); rintro en wn ⟨rfl, hbn⟩; have HB := Lib.hid (raft HB.out hbn); clear hbn)
            | (go_at_call 23; (with_reducible refine (HY1.out _ (HPP.out.below HB.out)).mono ?_); rintro en wn ⟨rfl, hbn⟩; have HB := Lib.hid (raft HB.out hbn); clear hbn)
            | (go_at_call 23; (with_reducible refine (HY2.out _ (HPP.out.below HB.out)).mono ?_); rintro en wn ⟨rfl, hbn⟩; have HB := Lib.hid (raft HB.out hbn); clear hbn)
            | (go_at_call 18; (with_reducible refine (HO1.out _).mono ?_); rintro en wn ⟨vn, rfl, rfl, hbn⟩; have HB := Lib.hid (raft HB.out hbn); clear hbn)
            | (go_at_call 18; (with_reducible refine (HO2.out _).mono ?_); rintro en wn ⟨vn, rfl, rfl, hbn⟩; have HB := Lib.hid (raft HB.out hbn); clear hbn)
            | (go_at_call 24; (with_reducible refine (HS.out _).mono ?_); rintro en wn ⟨rfl, rfl⟩))
          go_ret
          exact ⟨rfl, HB.out⟩
        · go_enter Tryz.func7, Tryz.ntmps7
          go_wp2_with (first
            | (go_at_call 16; (with_reducible refine (HR1.out _).mono ?_); rintro en wn ⟨vn, rfl, rfl, hbn⟩; have HB := Lib.hid (raft HB.out hbn); clear hbn)
            | (go_at_call 16; (with_reducible refine (HR2.out _).mono ?_); rintro en wn ⟨vn, rfl, rfl, hbn⟩; have HB := Lib.hid (raft HB.out hbn); clear hbn)
            | (go_at_call 16; (with_reducible refine (HR3.out _).mono ?_); rintro en wn ⟨vn, rfl, rfl, hbn⟩; have HB := Lib.hid (raft HB.out hbn); clear hbn)
            | (go_at_call 14; (with_reducible refine (HL.out _ (HPP.out.below HB.out)).mono ?_); rintro en wn ⟨rfl, hbn⟩; have HB := Lib.hid (raft HB.out hbn); clear hbn)
            | (go_at_call 23; (with_reducible refine (HY1.out _ (HPP.out.below HB.out)).mono ?_); rintro en wn ⟨rfl, hbn⟩; have HB := Lib.hid (raft HB.out hbn); clear hbn)
            | (go_at_call 23; (with_reducible refine (HY2.out _ (HPP.out.below HB.out)).mono ?_); rintro en wn ⟨rfl, hbn⟩; have HB := Lib.hid (raft HB.out hbn); clear hbn)
            | (go_at_call 18; (with_reducible refine (HO1.out _).mono ?_); rintro en wn ⟨vn, rfl, rfl, hbn⟩; have HB := Lib.hid (raft HB.out hbn); clear hbn)
            | (go_at_call 18; (with_reducible refine (HO2.out _).mono ?_); rintro en wn ⟨vn, rfl, rfl, hbn⟩; have HB := Lib.hid (raft HB.out hbn); clear hbn)
            | (go_at_call 24; (with_reducible refine (HS.out _).mono ?_); rintro en wn ⟨rfl, rfl⟩))
          go_ret
          exact ⟨rfl, HB.out⟩
theorem walk_bound (s : List UInt8) (w : World) (hs : s.length ≤ 140737488355328) (hP : Pow10 w) : Calls Tryz.prog 7 #[.string (bs s)] w fun e w' => e = .returned (.bool true) ∧ Below w.heap.size w w' := by
  cases h : scn s with
  | error pc => exact bound_err s pc.1 pc.2 h w hs hP
  | ok x => exact bound_ok s x h w hs hP
end Go.Proofs.YtiadjcilfljdaaaGreatDoor
