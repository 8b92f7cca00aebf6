/- Layer 12: Exact by the document; the law. -/
import Derived.Test.YtenoemjfoadgpaaDoorLitD
namespace Go.Proofs.YtenoemjfoadgpaaDoor
set_option linter.unusedVariables false
set_option linter.unusedSimpArgs false
open Go.RowKit Verge

/-- A block that holds an interval by its patterns. -/
def BoxI (W : World) (g : Nat) (p q : Nat) : Prop := W.heap[g]? = some (.cells #[.int .u64 (p : Int), .int .u64 (q : Int)] 24)
theorem BoxI.new (W : World) (p q : Nat) : BoxI (W.alloc (.cells #[.int .u64 (p : Int), .int .u64 (q : Int)] 24)) W.heap.size p q := heap_alloc_new W _
theorem BoxI.lt {W : World} {g p q : Nat} (h : BoxI W g p q) : g < W.heap.size := by
  rcases Nat.lt_or_ge g W.heap.size with hlt | hge
  · exact hlt
  · unfold BoxI at h; rw [Array.getElem?_eq_none hge] at h; cases h
theorem BoxI.cells {W : World} {g p q : Nat} (h : BoxI W g p q) : W.cell? ⟨g, 0, none⟩ = some (.int .u64 (p : Int)) ∧ W.cell? ⟨g, 1, none⟩ = some (.int .u64 (q : Int)) := by
  unfold BoxI at h
  refine ⟨?_, ?_⟩ <;> simp [World.cell?, h]
theorem BoxI.later {W W' : World} {g p q : Nat} (h : BoxI W g p q) (hb : Below W.heap.size W W') : BoxI W' g p q := (hb.block g h.lt).trans h
theorem BoxI.laterD {W W' : World} {g p q : Nat} (h : BoxI W g p q) (hb : Below W.heap.size W.drew W') : BoxI W' g p q := (hb.block g h.lt).trans h
theorem aftD {a b c : World} (h1 : Below a.heap.size a b) (h2 : Below b.heap.size b.drew c) : Below a.heap.size a c := h1.drew.trans (h2.mono h1.size)

set_option maxRecDepth 20000 in
set_option maxHeartbeats 8000000 in
theorem litExact12_any (x y : Nat) (hx : x < 18446744073709551616) (hy : y < 18446744073709551616) (w : World) : Calls Tryd.prog 6 #[.agg #[.int .u64 (x : Int), .int .u64 (y : Int)]] w fun e w' => e = .returned (.string (bs (litT (flo x y) (fhi x y)))) ∧ Below w.heap.size w w' := by
  have HB := Lib.hid (fun o => bnew w o)
  have HR := Lib.hid (fun W => read6_any x y hx hy W)
  have hlo := flo_lt (y := y) hx
  have hhi := fhi_lt (x := x) hy
  generalize flo x y = p at *
  generalize fhi x y = q at *
  have cc : ∀ (a b : Nat), ((a : Int) == (b : Int)) = decide (a = b) := fun a b => by rw [Bool.eq_iff_iff]; simp; omega
  have t1 : ∀ W : World, (binOp BinOp.eql 24 (.agg #[.int .u64 (p : Int), .int .u64 (q : Int)]) (.agg #[.int .u64 9218868437227405312, .int .u64 18442240474082181120])).run Tryd.prog W = .ok (.bool (decide (p = 9218868437227405312 ∧ q = 18442240474082181120))) W := by
    intro W
    rw [eqlI, Bool.decide_and]
    have := cc p 9218868437227405312
    have h2 := cc q 18442240474082181120
    congr 2
    rw [← this, ← h2]; rfl
  have t2 : ∀ W : World, (binOp BinOp.eql 24 (.agg #[.int .u64 (p : Int), .int .u64 (q : Int)]) (.agg #[.int .u64 18442240474082181120, .int .u64 9218868437227405312])).run Tryd.prog W = .ok (.bool (decide (p = 18442240474082181120 ∧ q = 9218868437227405312))) W := by
    intro W
    rw [eqlI, Bool.decide_and]
    have := cc p 18442240474082181120
    have h2 := cc q 9218868437227405312
    congr 2
    rw [← this, ← h2]; rfl
  have t3 := cc p q
  have HX := Lib.hid (fun W => exD p hlo W)
  have HY := Lib.hid (fun W => exD q hhi W)
  have al := exT_len p
  have bl := exT_len q
  have HE := Lib.hid (fun W => ends_any p q (exT p) (exT q) al bl W)
  clear hx hy hlo hhi cc bl
  by_cases hE : p = 9218868437227405312 ∧ q = 18442240474082181120
  · have HT : Hid (litT p q = [91, 101, 109, 112, 116, 121, 93]) := Lib.hid (by unfold litT; rw [if_pos hE])
    rw [decide_eq_true hE] at t1
    clear hE
    go_enter Tryd.func6, Tryd.ntmps6
    go_wp2_with fail
    refine (HR.out _).mono ?_
    rintro e w1 ⟨rfl, hb⟩
    have HW := Lib.hid (baft (baft (HB.out _) hb) (bnew w1 (.cells #[.int .u64 (p : Int), .int .u64 (q : Int)] 24)))
    have HX1 := BoxI.new w1 p q
    clear hb
    go_wp2_with fail
    obtain ⟨W0, hW0⟩ : ∃ W0, w1.alloc (.cells #[.int .u64 (p : Int), .int .u64 (q : Int)] 24) = W0 := ⟨_, rfl⟩
    rw [hW0] at HW HX1 ⊢
    have HX1 := Lib.hid HX1
    obtain ⟨g, hg⟩ : ∃ g, w1.heap.size = g := ⟨_, rfl⟩
    rw [hg] at HX1 ⊢
    obtain ⟨g0, g1⟩ := HX1.out.cells
    clear hW0 hg
    go_region_with (go_at_call 15; (with_reducible refine (empty6_any _).mono ?_); rintro en w2 ⟨rfl, hb⟩; have HW := Lib.hid (aftD HW.out hb); have HX1 := Lib.hid (HX1.out.laterD hb); obtain ⟨g0, g1⟩ := HX1.out.cells; clear hb)
    all_goals
      go_wp2
      go_ret
      exact ⟨by rw [HT.out]; rfl, HW.out⟩
  · rw [decide_eq_false hE] at t1
    by_cases hA : p = 18442240474082181120 ∧ q = 9218868437227405312
    · have HT : Hid (litT p q = [91, 101, 110, 116, 105, 114, 101, 93]) := Lib.hid (by unfold litT; rw [if_neg hE, if_pos hA])
      rw [decide_eq_true hA] at t2
      clear hE hA
      go_enter Tryd.func6, Tryd.ntmps6
      go_wp2_with fail
      refine (HR.out _).mono ?_
      rintro e w1 ⟨rfl, hb⟩
      have HW := Lib.hid (baft (baft (HB.out _) hb) (bnew w1 (.cells #[.int .u64 (p : Int), .int .u64 (q : Int)] 24)))
      have HX1 := BoxI.new w1 p q
      clear hb
      go_wp2_with fail
      obtain ⟨W0, hW0⟩ : ∃ W0, w1.alloc (.cells #[.int .u64 (p : Int), .int .u64 (q : Int)] 24) = W0 := ⟨_, rfl⟩
      rw [hW0] at HW HX1 ⊢
      have HX1 := Lib.hid HX1
      obtain ⟨g, hg⟩ : ∃ g, w1.heap.size = g := ⟨_, rfl⟩
      rw [hg] at HX1 ⊢
      obtain ⟨g0, g1⟩ := HX1.out.cells
      clear hW0 hg
      go_region_with (go_at_call 15; (with_reducible refine (empty6_any _).mono ?_); rintro en w2 ⟨rfl, hb⟩; have HW := Lib.hid (aftD HW.out hb); have HX1 := Lib.hid (HX1.out.laterD hb); obtain ⟨g0, g1⟩ := HX1.out.cells; clear hb)
      all_goals
        go_wp2_with fail
        go_region_with (go_at_call 16; (with_reducible refine (entire6_any _).mono ?_); rintro en w2 ⟨rfl, hb⟩; have HW := Lib.hid (aftD HW.out hb); have HX1 := Lib.hid (HX1.out.laterD hb); obtain ⟨g0, g1⟩ := HX1.out.cells; clear hb)
        all_goals
          go_wp2
          go_ret
          exact ⟨by rw [HT.out]; rfl, HW.out⟩
    · rw [decide_eq_false hA] at t2
      by_cases hp : p = q
      · have HT : Hid (litT p q = [91] ++ exT p ++ [93]) := Lib.hid (by unfold litT; rw [if_neg hE, if_neg hA, if_pos hp])
        have key : bs [91] ++ bs (exT p) ++ bs [93] = bs ([91] ++ exT p ++ [93]) := by simp only [bs_append]
        have KEY := Lib.hid key
        rw [decide_eq_true hp] at t3
        have ha2 : (bs (exT p)).size ≤ 20000 := by rw [bs_size]; exact al
        generalize bs (exT p) = X at *
        have l0 : (bs [91]).size = 1 := rfl
        have l2 : (bs [93]).size = 1 := rfl
        have e0 : ({ data := #[91] } : ByteArray) = bs [91] := rfl
        have e2 : ({ data := #[93] } : ByteArray) = bs [93] := rfl
        clear hE hA hp key al
        go_enter Tryd.func6, Tryd.ntmps6
        go_wp2_with fail
        refine (HR.out _).mono ?_
        rintro e w1 ⟨rfl, hb⟩
        have HW := Lib.hid (baft (baft (HB.out _) hb) (bnew w1 (.cells #[.int .u64 (p : Int), .int .u64 (q : Int)] 24)))
        have HX1 := BoxI.new w1 p q
        clear hb
        go_wp2_with fail
        obtain ⟨W0, hW0⟩ : ∃ W0, w1.alloc (.cells #[.int .u64 (p : Int), .int .u64 (q : Int)] 24) = W0 := ⟨_, rfl⟩
        rw [hW0] at HW HX1 ⊢
        have HX1 := Lib.hid HX1
        obtain ⟨g, hg⟩ : ∃ g, w1.heap.size = g := ⟨_, rfl⟩
        rw [hg] at HX1 ⊢
        obtain ⟨g0, g1⟩ := HX1.out.cells
        clear hW0 hg
        go_region_with (go_at_call 15; (with_reducible refine (empty6_any _).mono ?_); rintro en w2 ⟨rfl, hb⟩; have HW := Lib.hid (aftD HW.out hb); have HX1 := Lib.hid (HX1.out.laterD hb); obtain ⟨g0, g1⟩ := HX1.out.cells; clear hb)
        all_goals
          go_wp2_with fail
          go_region_with (go_at_call 16; (with_reducible refine (entire6_any _).mono ?_); rintro en w2 ⟨rfl, hb⟩; have HW := Lib.hid (aftD HW.out hb); have HX1 := Lib.hid (HX1.out.laterD hb); obtain ⟨g0, g1⟩ := HX1.out.cells; clear hb)
          all_goals
            go_wp2_with fail
            refine (HX.out _).mono ?_
            rintro e w9 ⟨rfl, hb⟩
            have HW := Lib.hid (baft HW.out hb)
            have HX1 := Lib.hid (HX1.out.later hb)
            obtain ⟨g0, g1⟩ := HX1.out.cells
            clear hb
            go_wp2_with fail
            refine (HY.out _).mono ?_
            rintro e w9 ⟨rfl, hb⟩
            have HW := Lib.hid (baft HW.out hb)
            have HX1 := Lib.hid (HX1.out.later hb)
            obtain ⟨g0, g1⟩ := HX1.out.cells
            clear hb
            go_wp2
            go_ret
            exact ⟨by rw [HT.out, ← KEY.out]; rfl, HW.out⟩
      · have HT : Hid (litT p q = [91] ++ (if p = 18442240474082181120 then [45, 105, 110, 102] else exT p) ++ [44, 32] ++ (if q = 9218868437227405312 then [105, 110, 102] else exT q) ++ [93]) := Lib.hid (by unfold litT; rw [if_neg hE, if_neg hA, if_neg hp])
        rw [decide_eq_false hp] at t3
        obtain ⟨X, hX⟩ : ∃ X, bs ([91] ++ (if p = 18442240474082181120 then [45, 105, 110, 102] else exT p) ++ [44, 32] ++ (if q = 9218868437227405312 then [105, 110, 102] else exT q) ++ [93]) = X := ⟨_, rfl⟩
        rw [hX] at HE
        have HXX := Lib.hid hX
        clear hE hA hp al hX
        go_enter Tryd.func6, Tryd.ntmps6
        go_wp2_with fail
        refine (HR.out _).mono ?_
        rintro e w1 ⟨rfl, hb⟩
        have HW := Lib.hid (baft (baft (HB.out _) hb) (bnew w1 (.cells #[.int .u64 (p : Int), .int .u64 (q : Int)] 24)))
        have HX1 := BoxI.new w1 p q
        clear hb
        go_wp2_with fail
        obtain ⟨W0, hW0⟩ : ∃ W0, w1.alloc (.cells #[.int .u64 (p : Int), .int .u64 (q : Int)] 24) = W0 := ⟨_, rfl⟩
        rw [hW0] at HW HX1 ⊢
        have HX1 := Lib.hid HX1
        obtain ⟨g, hg⟩ : ∃ g, w1.heap.size = g := ⟨_, rfl⟩
        rw [hg] at HX1 ⊢
        obtain ⟨g0, g1⟩ := HX1.out.cells
        clear hW0 hg
        go_region_with (go_at_call 15; (with_reducible refine (empty6_any _).mono ?_); rintro en w2 ⟨rfl, hb⟩; have HW := Lib.hid (aftD HW.out hb); have HX1 := Lib.hid (HX1.out.laterD hb); obtain ⟨g0, g1⟩ := HX1.out.cells; clear hb)
        all_goals
          go_wp2_with fail
          go_region_with (go_at_call 16; (with_reducible refine (entire6_any _).mono ?_); rintro en w2 ⟨rfl, hb⟩; have HW := Lib.hid (aftD HW.out hb); have HX1 := Lib.hid (HX1.out.laterD hb); obtain ⟨g0, g1⟩ := HX1.out.cells; clear hb)
          all_goals
            go_wp2_with fail
            refine (HX.out _).mono ?_
            rintro e w9 ⟨rfl, hb⟩
            have HW := Lib.hid (baft HW.out hb)
            have HX1 := Lib.hid (HX1.out.later hb)
            obtain ⟨g0, g1⟩ := HX1.out.cells
            clear hb
            go_wp2_with fail
            refine (HY.out _).mono ?_
            rintro e w9 ⟨rfl, hb⟩
            have HW := Lib.hid (baft HW.out hb)
            have HX1 := Lib.hid (HX1.out.later hb)
            obtain ⟨g0, g1⟩ := HX1.out.cells
            clear hb
            go_wp2_with fail
            refine (HE.out _).mono ?_
            rintro e w9 ⟨rfl, hb⟩
            have HW := Lib.hid (baft HW.out hb)
            have HX1 := Lib.hid (HX1.out.later hb)
            obtain ⟨g0, g1⟩ := HX1.out.cells
            clear hb
            go_wp2
            go_ret
            exact ⟨by rw [HT.out, HXX.out]; rfl, HW.out⟩

set_option maxHeartbeats 4000000 in
theorem walk_litexacts (x y : Nat) (w : World) (hx : x < 18446744073709551616) (hy : y < 18446744073709551616) (hP : Pow10 w) : Calls Tryd.prog 3 #[.agg #[.int .u64 (x : Int), .int .u64 (y : Int)]] w fun e w' => e = .returned (.bool true) ∧ Below w.heap.size w w' := by
  have HI := Lib.hid (fun W => in12_any x y hx hy W)
  have HL := Lib.hid (fun W (h : Pow10 W) => litExact_any x y hx hy W h)
  have HD := Lib.hid (fun W => litExact12_any x y hx hy W)
  have HPP := Lib.hid hP
  generalize bs (litT (flo x y) (fhi x y)) = T at *
  have HB := Lib.hid (fun o => bnew w o)
  have HX1 := Lib.hid (BoxI.new w x y)
  clear hx hy hP
  go_enter Tryd.func3, Tryd.ntmps3
  go_wp2_with fail
  refine region_at 7 (Pick [IsV (.agg #[.int .u64 (x : Int), .int .u64 (y : Int)]), IsV (.agg #[.float .f64 x, .float .f64 y]), IsV (.string T), IsV (.agg #[.int .u64 (x : Int), .int .u64 (y : Int)]), IsV (.string T), IsV (.bool true), IsV (.bool true)]) (by kernel_rfl) (by kernel_rfl) (by kernel_rfl) (mono_pick ⟨IsV.mono _, IsV.mono _, IsV.mono _, IsV.mono _, IsV.mono _, IsV.mono _, IsV.mono _, trivial⟩) ⟨?_, ?_, ?_, ?_, ?_, ?_, ?_, trivial⟩ ?_
  · intro a W hsz hb hS
    have h1 : a.tmps.getD 1 undef = .pointer (some ⟨w.heap.size, 0, none⟩) := hS.1
    clear hS hsz
    refine will_of rfl ?_
    obtain ⟨b0, b1⟩ := (HX1.out.later hb).cells
    intro K hK
    go_simp
    exact hK _ _ ⟨Below.refl _ _, rfl⟩
  · intro a W hsz hb hS
    have h3 : a.tmps.getD 3 undef = .agg #[.int .u64 (x : Int), .int .u64 (y : Int)] := hS.1
    clear hS hsz
    refine will_of rfl ?_
    obtain ⟨b0, b1⟩ := (HX1.out.later hb).cells
    intro K hK
    go_simp
    refine (HI.out _).mono ?_
    rintro e W' ⟨rfl, hb'⟩
    exact hK _ _ ⟨hb', rfl⟩
  · intro a W hsz hb hS
    have h4 : a.tmps.getD 4 undef = .agg #[.float .f64 x, .float .f64 y] := hS.1
    clear hS hsz
    refine will_of rfl ?_
    obtain ⟨b0, b1⟩ := (HX1.out.later hb).cells
    intro K hK
    go_simp
    refine (HL.out _ (HPP.out.below (baft (HB.out _) hb))).mono ?_
    rintro e W' ⟨rfl, hb'⟩
    exact hK _ _ ⟨hb', rfl⟩
  · intro a W hsz hb hS
    have h1 : a.tmps.getD 1 undef = .pointer (some ⟨w.heap.size, 0, none⟩) := hS.1
    clear hS hsz
    refine will_of rfl ?_
    obtain ⟨b0, b1⟩ := (HX1.out.later hb).cells
    intro K hK
    go_simp
    exact hK _ _ ⟨Below.refl _ _, rfl⟩
  · intro a W hsz hb hS
    have h6 : a.tmps.getD 6 undef = .agg #[.int .u64 (x : Int), .int .u64 (y : Int)] := hS.1
    clear hS hsz
    refine will_of rfl ?_
    obtain ⟨b0, b1⟩ := (HX1.out.later hb).cells
    intro K hK
    go_simp
    refine (HD.out _).mono ?_
    rintro e W' ⟨rfl, hb'⟩
    exact hK _ _ ⟨hb', rfl⟩
  · intro a W hsz hb hS
    have h5 : a.tmps.getD 5 undef = .string T := hS.1
    have h7 : a.tmps.getD 7 undef = .string T := hS.2.1
    clear hS hsz
    refine will_of rfl ?_
    intro K hK
    go_simp
    exact hK _ _ ⟨Below.refl _ _, rfl⟩
  · intro a W hsz hb hS
    have h8 : a.tmps.getD 8 undef = .bool true := hS.1
    clear hS hsz
    refine will_of rfl ?_
    intro K hK
    go_simp
    exact hK _ _ ⟨Below.refl _ _, rfl⟩
  intro f W hb hH
  have e0 : f 0 = .agg #[.int .u64 (x : Int), .int .u64 (y : Int)] := hH.1
  have e1 : f 1 = .agg #[.float .f64 x, .float .f64 y] := hH.2.1
  have e2 : f 2 = .string T := hH.2.2.1
  have e3 : f 3 = .agg #[.int .u64 (x : Int), .int .u64 (y : Int)] := hH.2.2.2.1
  have e4 : f 4 = .string T := hH.2.2.2.2.1
  have e5 : f 5 = .bool true := hH.2.2.2.2.2.1
  have e6 : f 6 = .bool true := hH.2.2.2.2.2.2.1
  simp only [List.take_succ_cons, List.take_zero, List.drop_succ_cons, List.drop_zero, putFrom, Act.put, List.setIfInBounds_toArray, List.set_cons_zero, List.set_cons_succ, Nat.reduceAdd, e0, e1, e2, e3, e4, e5, e6]
  clear e0 e1 e2 e3 e4 e5 e6 hH f
  have HW := Lib.hid (baft (HB.out _) hb)
  clear hb
  go_wp2
  go_ret
  exact ⟨rfl, HW.out⟩
end Go.Proofs.YtenoemjfoadgpaaDoor
