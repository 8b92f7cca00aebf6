/- The law MeasReach: the walk. -/
import Derived.Test.YtmmbbkeefphaiaaReachP
namespace Go.Proofs.Ytmmbbkeefphaiaa
set_option linter.unusedVariables false
set_option linter.unusedSimpArgs false
open Go.RowKit Verge

/-- The box of an interval of patterns. -/
def BoxI (w : World) (r : Nat) (a b : Value) : Prop := w.heap[r]? = some (.cells #[a, b] 24)
theorem BoxI.new (w : World) (a b : Value) : BoxI (w.alloc (.cells #[a, b] 24)) w.heap.size a b := by
  show (w.heap.push _)[w.heap.size]? = _
  simp
section
variable {w w' : World} {r : Nat} {a b c : Value}
theorem BoxI.later (h : BoxI w r a b) (hb : Below w.heap.size w w') : BoxI w' r a b := by
  have hl : r < w.heap.size := by
    by_cases hr : r < w.heap.size
    · exact hr
    · unfold BoxI at h; rw [Array.getElem?_eq_none (by omega)] at h; cases h
  exact (hb.block r hl).trans h
theorem BoxI.cells (h : BoxI w r a b) : w.cell? ⟨r, 0, none⟩ = some a ∧ w.cell? ⟨r, 1, none⟩ = some b := by
  unfold BoxI at h
  refine ⟨?_, ?_⟩ <;> simp [World.cell?, h]
theorem Box3.frozen (h : Box3 w r a b c) : w.frozen? ⟨r, 0, none⟩ = false ∧ w.frozen? ⟨r, 1, none⟩ = false ∧ w.frozen? ⟨r, 2, none⟩ = false := by
  unfold Box3 at h
  refine ⟨?_, ?_, ?_⟩ <;> simp [World.frozen?, h]
theorem Box3.put3 (h : Box3 w r a b c) (a' b' c' : Value) : Box3 (put3 w r a' b' c') r a' b' c' := by
  have hl := h.lt
  unfold Box3 at h
  have hg : w.heap[r] = .cells #[a, b, c] 35 := by simpa [hl] using h
  unfold Box3 Go.Proofs.Ytmmbbkeefphaiaa.put3
  simp [World.setCell, hl, Array.getElem_modify, hg]
theorem IsL.put3 {xs : List Nat} {v : Value} {s : Bool} {A B : Option Addr} {n m p q : Nat} (h : IsL xs v w) (hB : Box3 w r (.bool s) (.slice A n p) (.slice B m q)) (a' b' c' : Value) : IsL xs v (Go.Proofs.Ytmmbbkeefphaiaa.put3 w r a' b' c') := by
  obtain ⟨A', c1, e, hR⟩ := h
  refine ⟨A', c1, e, hR.apart ?_ fun k hk => (setb' _ r 2 c' k hk).trans ((setb' _ r 1 b' k hk).trans (setb' _ r 0 a' k hk))⟩
  intro i z e'
  unfold Box3 at hB
  simp only [World.cell?, hB] at e'
  rcases i with _ | _ | _ | i <;> simp at e'
theorem number_is {b : Nat} (hb : b < 18446744073709551616) : Calls Try.prog 28 #[.float .f64 b] w (Ans w (IsQ (decide (9223372036854775808 < b)) (fbN b) (fbD b))) := ans_rat (number_any b hb w)
theorem finite_is {b : Nat} (hb : b < 18446744073709551616) : Calls Try.prog 26 #[.float .f64 b] w (Ans w (IsV (.bool (decide (fabs b < 9218868437227405312))))) := ans_drew (finite_any b hb w)
theorem holds_is {p q : Nat} (hp : p < 18446744073709551616) (hq : q < 18446744073709551616) (hs : fsound p q = true) {s : Bool} {X Y : List Nat} {v : Value} (hv : IsR s X Y v w) (h1 : X.length ≤ 35184372088600) (h2 : Y.length ≤ 35184372088600) :
    Calls Try.prog 27 #[.agg #[.int .u64 (p : Int), .int .u64 (q : Int)], v] w (Ans w (IsV (.bool (fholds p q s (val X) (val Y))))) := by
  obtain ⟨va, vb, rfl, ⟨A, c, rfl, hA⟩, ⟨B, d, rfl, hB⟩⟩ := hv
  exact ans_below (holds_any p q hp hq hs s A _ c X B _ d Y w hA rfl hB rfl h1 h2)
theorem rcmp_is {s t : Bool} {X Y U V : List Nat} {v u : Value} (hv : IsR s X Y v w) (hu : IsR t U V u w) (h1 : X.length + V.length ≤ 35184372088800) (h2 : U.length + Y.length ≤ 35184372088800) :
    Calls Try.prog 32 #[v, u] w (Ans w (IsV (.int .i64 (rcmp s (val X) (val Y) t (val U) (val V))))) := by
  obtain ⟨va, vb, rfl, ⟨A, c, rfl, hA⟩, ⟨B, d, rfl, hB⟩⟩ := hv
  obtain ⟨va', vb', rfl, ⟨A', c', rfl, hA'⟩, ⟨B', d', rfl, hB'⟩⟩ := hu
  exact ans_below (rrcmp_any s A _ c X B _ d Y t A' _ c' U B' _ d' V w hA rfl hB rfl hA' rfl hB' rfl h1 h2)
end
theorem fmag_three : fmag 13837309855095848960 4611686018427387904 = 4613937818241073152 := by decide
theorem order_three : (FloatKind.f64.format.order 4613937818241073152 4613937818241073152 != some .eq) = false := by
  rw [o_self (by omega)]; decide

set_option maxRecDepth 20000 in
set_option maxHeartbeats 16000000 in
theorem reach_any (x y : Nat) (hx : x < 18446744073709551616) (hy : y < 18446744073709551616) (s : Bool) (A : Option Addr) (c : Nat) (X : List Nat) (B : Option Addr) (d : Nat) (Y : List Nat) (w : World) (ha : Rd w A X) (hb : Rd w B Y) (h1 : X.length ≤ 35184372088000) (h2 : Y.length ≤ 35184372088000) :
    Calls Try.prog 5 #[.agg #[.int .u64 (x : Int), .int .u64 (y : Int)], .agg #[.bool s, .slice A X.length c, .slice B Y.length d]] w fun e w' => e = .returned (.bool true) ∧ Below w.heap.size w w' := by
  have HR := Lib.hid (fun W => read6_any x y hx hy W)
  have HM0 := Lib.hid (fun W => mag_any 13837309855095848960 4611686018427387904 (by omega) (by omega) W)
  rw [fmag_three] at HM0
  have ho3 := order_three
  have HIn := Lib.hid (fun W => in_any x y hx hy W)
  have HMg := Lib.hid (fun W => mig_any x y hx hy W)
  have HMa := Lib.hid (fun W => mag_any x y hx hy W)
  have HI := Lib.hid ((BoxI.new w (.int .u64 (x : Int)) (.int .u64 (y : Int))).later (bnew _ (.cells #[.bool s, .slice A X.length c, .slice B Y.length d] 35)))
  have H3 := Lib.hid (Box3.new (w.alloc (.cells #[.int .u64 (x : Int), .int .u64 (y : Int)] 24)) (.bool s) (.slice A X.length c) (.slice B Y.length d))
  rw [show (w.alloc (.cells #[.int .u64 (x : Int), .int .u64 (y : Int)] 24)).heap.size = w.heap.size + 1 by simp] at H3
  have HB := Lib.hid (baft (bnew w (.cells #[.int .u64 (x : Int), .int .u64 (y : Int)] 24)) (bnew _ (.cells #[.bool s, .slice A X.length c, .slice B Y.length d] 35)))
  have HX := Lib.hid (IsL.mono X _ _ _ HB.out ⟨A, c, rfl, ha⟩)
  have HY := Lib.hid (IsL.mono Y _ _ _ HB.out ⟨B, d, rfl, hb⟩)
  have HL := Lib.hid (And.intro h1 h2)
  clear ha hb h1 h2
  by_cases hs : fsound x y = true
  · have n1 := flo_ne hx hs
    have n2 := fhi_ne hy hs
    have l1 := flo_lt (y := y) hx
    have l2 := fhi_lt (x := x) hy
    have hk := FK_flo_fhi hx hy hs
    have hss := (flo_flo hx hy hs).1
    have hsw := flo_flo hx hy hs
    have eL : fmig x y = if FK (flo x y) ≤ 0 ∧ 0 ≤ FK (fhi x y) then 0 else min (fabs (flo x y)) (fabs (fhi x y)) := by unfold fmig; rw [if_pos hs]
    have eM : fmag x y = max (fabs (flo x y)) (fabs (fhi x y)) := by unfold fmag; rw [if_pos hs]
    have fL := low_facts l1 l2 hk n1 n2
    rw [← eL] at fL
    have fM := high_facts l1 l2 hk
    rw [← eM] at fM
    have a1 := fabs_FK l1
    have a2 := fabs_FK l2
    have m1 := fabs_le (fnan_flo (x := x) (y := y))
    have m2 := fabs_le (fnan_fhi (x := x) (y := y))
    have bL : fmig x y < 9218868437227405312 := by
      rw [eL]
      split
      · omega
      · have r1 := FK_range l1 fnan_flo
        have r2 := FK_range l2 fnan_fhi
        have f1 : FK (flo x y) = 9218868437227405312 → flo x y = 9218868437227405312 := by unfold FK; split <;> omega
        have f2 : FK (fhi x y) = -9218868437227405312 → fhi x y = 18442240474082181120 := by unfold FK; split <;> omega
        omega
    have bM : fmag x y ≤ 9218868437227405312 := by rw [eM]; omega
    have bLM : fmig x y ≤ fmag x y := by rw [eL, eM]; split <;> omega
    have HLo := Lib.hid (low_held hx hy hs (by omega) fL)
    have HHi := Lib.hid (fun h => high_held hx hy hs (by omega) (fM h))
    have HLr := Lib.hid (fun s t n d hd hh ht => low_reach hx hy hs fL (s := s) (t := t) (n := n) (d := d) hd hh ht)
    have HHr := Lib.hid (fun h s t n d hd hh ht => high_reach hx hy hs (fM h) (s := s) (t := t) (n := n) (d := d) hd hh ht)
    have HHo := Lib.hid (fun W s X Y v (hv : IsR s X Y v W) h1 h2 => holds_is (w := W) l1 l2 hss hv h1 h2)
    have o1 := o_lt (x := fmig x y) (y := 0) (by omega) (by omega)
    have o2 := o_self (x := fmag x y) (by omega)
    have o3 := o_lt (x := fmag x y) (y := fmig x y) (by omega) (by omega)
    rw [decide_eq_false (by rintro ⟨_, _, h⟩; rw [FK_small (by omega)] at h; have : FK 0 = 0 := rfl; omega)] at o1
    rw [decide_eq_false (small_nan bM)] at o2
    rw [decide_eq_false (by rintro ⟨_, _, h⟩; rw [FK_small bM, FK_small (by omega)] at h; omega)] at o3
    have HFi := Lib.hid (fun W => finite_any (fmig x y) (by omega) W)
    have hfi : decide (fabs (fmig x y) < 9218868437227405312) = true := decide_eq_true (by unfold fabs; omega)
    rw [hfi] at HFi
    have HF2 := Lib.hid (fun W => finite_is (w := W) (b := fmag x y) (by omega))
    have hfm : fabs (fmag x y) = fmag x y := by unfold fabs; omega
    rw [hfm] at HF2
    have hne : ¬ ((flo x y : Nat) : Int) = 9218868437227405312 := by omega
    have HBd := Lib.hid (And.intro bL bM)
    clear n1 n2 l1 l2 hk hss eL eM fL fM a1 a2 m1 m2 bL bM bLM hfi hfm hs hx hy hsw
    obtain ⟨p, hp⟩ : ∃ p, flo x y = p := ⟨_, rfl⟩
    obtain ⟨q, hq⟩ : ∃ q, fhi x y = q := ⟨_, rfl⟩
    obtain ⟨Lo, hLo⟩ : ∃ q, fmig x y = q := ⟨_, rfl⟩
    obtain ⟨Hi, hHi⟩ : ∃ q, fmag x y = q := ⟨_, rfl⟩
    simp only [hp, hq, hLo, hHi] at HR HMg HMa HLo HHi HLr HHr HHo o1 o2 o3 HFi HF2 hne HBd
    clear hp hq hLo hHi
    go_enter Try.func5, Try.ntmps5
    go_wp2_with fail
    refine (HM0.out _).mono ?_
    rintro en w1 ⟨rfl, hb⟩
    have HB := Lib.hid (baft HB.out hb)
    have HI := Lib.hid (HI.out.later hb)
    have H3 := Lib.hid (H3.out.later hb)
    have HX := Lib.hid (IsL.mono _ _ _ _ hb HX.out)
    have HY := Lib.hid (IsL.mono _ _ _ _ hb HY.out)
    clear hb
    obtain ⟨i0, i1⟩ := HI.out.cells
    go_wp2_with fail
    refine (HR.out _).mono ?_
    rintro en w2 ⟨rfl, hb⟩
    have HB := Lib.hid (baft HB.out hb)
    have HI := Lib.hid (HI.out.later hb)
    have H3 := Lib.hid (H3.out.later hb)
    have HX := Lib.hid (IsL.mono _ _ _ _ hb HX.out)
    have HY := Lib.hid (IsL.mono _ _ _ _ hb HY.out)
    clear hb i0 i1
    have H5 := Lib.hid (BoxI.new w2 (.int .u64 (p : Int)) (.int .u64 (q : Int)))
    have hb := bnew w2 (.cells #[.int .u64 (p : Int), .int .u64 (q : Int)] 24)
    have HB := Lib.hid (baft HB.out hb)
    have HI := Lib.hid (HI.out.later hb)
    have H3 := Lib.hid (H3.out.later hb)
    have HX := Lib.hid (IsL.mono _ _ _ _ hb HX.out)
    have HY := Lib.hid (IsL.mono _ _ _ _ hb HY.out)
    clear hb
    go_upto_region 4 with fail
    obtain ⟨w3, hw3⟩ : ∃ w3, w2.alloc (.cells #[.int .u64 (p : Int), .int .u64 (q : Int)] 24) = w3 := ⟨_, rfl⟩
    rw [hw3] at HB HI H3 HX HY H5 ⊢
    refine region_at 3 (Pick [IsV (.agg #[.int .u64 (p : Int), .int .u64 (q : Int)]), IsV (.agg #[.int .u64 9218868437227405312, .int .u64 18442240474082181120]), IsV (.bool false)]) (by kernel_rfl) (by kernel_rfl) (by kernel_rfl) (mono_pick ⟨IsV.mono _, IsV.mono _, IsV.mono _, trivial⟩) ⟨?_, ?_, ?_, trivial⟩ ?_
    · intro a W hsz hb hS
      have h5 : a.tmps.getD 5 undef = .pointer (some ⟨w2.heap.size, 0, none⟩) := hS.1
      clear hS hsz
      refine will_of rfl ?_
      obtain ⟨j0, j1⟩ := (H5.out.later hb).cells
      intro K hK
      go_simp
      exact hK _ _ ⟨Below.refl _ _, rfl⟩
    · intro a W hsz hb hS
      clear hS hsz
      refine will_of rfl ?_
      obtain ⟨j0, j1⟩ := (H5.out.later hb).cells
      intro K hK
      go_simp
      refine (empty6_any _).mono ?_
      rintro e W' ⟨rfl, hb'⟩
      exact hK _ _ ⟨hb', rfl⟩
    · intro a W hsz hb hS
      have h14 : a.tmps.getD 14 undef = .agg #[.int .u64 (p : Int), .int .u64 (q : Int)] := hS.1
      have h15 : a.tmps.getD 15 undef = .agg #[.int .u64 9218868437227405312, .int .u64 18442240474082181120] := hS.2.1
      clear hS hsz
      refine will_of rfl ?_
      intro K hK
      go_simp
      exact hK _ _ ⟨Below.refl _ _, rfl⟩
    intro f W hb hH
    have e0 : f 0 = .agg #[.int .u64 (p : Int), .int .u64 (q : Int)] := hH.1
    have e1 : f 1 = .agg #[.int .u64 9218868437227405312, .int .u64 18442240474082181120] := hH.2.1
    have e2 : f 2 = .bool false := hH.2.2.1
    simp only [List.take_succ_cons, List.take_zero, List.drop_succ_cons, List.drop_zero, putFrom, Act.put, List.setIfInBounds_toArray, List.set_cons_zero, List.set_cons_succ, Nat.reduceAdd, e0, e1, e2]
    clear e0 e1 e2 hH f
    have HB := Lib.hid (baft HB.out hb)
    have HI := Lib.hid (HI.out.later hb)
    have H3 := Lib.hid (H3.out.later hb)
    have HX := Lib.hid (IsL.mono _ _ _ _ hb HX.out)
    have HY := Lib.hid (IsL.mono _ _ _ _ hb HY.out)
    have H5 := Lib.hid (H5.out.later hb)
    clear hb
    clear hne ho3 hw3
    obtain ⟨i0, i1⟩ := HI.out.cells
    go_wp2_with fail
    refine (HIn.out _).mono ?_
    rintro en w4 ⟨rfl, hb⟩
    have HB := Lib.hid (baft HB.out hb)
    have HI := Lib.hid (HI.out.later hb)
    have H3 := Lib.hid (H3.out.later hb)
    have HX := Lib.hid (IsL.mono _ _ _ _ hb HX.out)
    have HY := Lib.hid (IsL.mono _ _ _ _ hb HY.out)
    have H5 := Lib.hid (H5.out.later hb)
    clear hb i0 i1
    go_wp2_with fail
    refine (HMg.out _).mono ?_
    rintro en w5 ⟨rfl, hb⟩
    have HB := Lib.hid (baft HB.out hb)
    have HI := Lib.hid (HI.out.later hb)
    have H3 := Lib.hid (H3.out.later hb)
    have HX := Lib.hid (IsL.mono _ _ _ _ hb HX.out)
    have HY := Lib.hid (IsL.mono _ _ _ _ hb HY.out)
    have H5 := Lib.hid (H5.out.later hb)
    clear hb
    obtain ⟨i0, i1⟩ := HI.out.cells
    go_wp2_with fail
    refine (HIn.out _).mono ?_
    rintro en w6 ⟨rfl, hb⟩
    have HB := Lib.hid (baft HB.out hb)
    have HI := Lib.hid (HI.out.later hb)
    have H3 := Lib.hid (H3.out.later hb)
    have HX := Lib.hid (IsL.mono _ _ _ _ hb HX.out)
    have HY := Lib.hid (IsL.mono _ _ _ _ hb HY.out)
    have H5 := Lib.hid (H5.out.later hb)
    clear hb i0 i1
    go_wp2_with fail
    refine (HMa.out _).mono ?_
    rintro en w7 ⟨rfl, hb⟩
    have HB := Lib.hid (baft HB.out hb)
    have HI := Lib.hid (HI.out.later hb)
    have H3 := Lib.hid (H3.out.later hb)
    have HX := Lib.hid (IsL.mono _ _ _ _ hb HX.out)
    have HY := Lib.hid (IsL.mono _ _ _ _ hb HY.out)
    have H5 := Lib.hid (H5.out.later hb)
    clear hb
    go_wp2_with fail
    refine (HFi.out _).mono ?_
    rintro en w8 ⟨rfl, k8, rfl⟩
    have hb : Below w7.heap.size w7 (w7.drewN k8) := below_drewN (Below.refl _ _) k8
    have HB := Lib.hid (baft HB.out hb)
    have HI := Lib.hid (HI.out.later hb)
    have H3 := Lib.hid (H3.out.later hb)
    have HX := Lib.hid (IsL.mono _ _ _ _ hb HX.out)
    have HY := Lib.hid (IsL.mono _ _ _ _ hb HY.out)
    have H5 := Lib.hid (H5.out.later hb)
    clear hb
    go_upto_region 10 with fail
    clear o1 o2 o3
    obtain ⟨w8, hw8⟩ : ∃ w8, w7.drewN k8 = w8 := ⟨_, rfl⟩
    rw [hw8] at HB HI H3 HX HY H5 ⊢
    clear hw8
    obtain ⟨a, hae⟩ : ∃ a, fholds p q (decide (9223372036854775808 < Lo)) (fbN Lo) (fbD Lo) = a := ⟨_, rfl⟩
    obtain ⟨b, hbe⟩ : ∃ a, fholds p q (decide (9223372036854775808 < fneg Lo)) (fbN (fneg Lo)) (fbD (fneg Lo)) = a := ⟨_, rfl⟩
    rw [hae, hbe] at HLo
    have HA := Lib.hid hae
    have HA2 := Lib.hid hbe
    have HNL := Lib.hid (fun W => run_neg_f Lo (by have := HBd.out; omega) W)
    have HNH := Lib.hid (fun W => run_neg_f Hi (by have := HBd.out; omega) W)
    clear hae hbe
    go_cut [52] from 40 to 51 (fun v wx => v = .bool false ∧ Below w8.heap.size w8 wx)
    case first =>
      cases a with
      | true =>
        refine region_at 13 (Pick [IsV (.agg #[.int .u64 (p : Int), .int .u64 (q : Int)]), IsV (.float .f64 Lo), IsQ (decide (9223372036854775808 < Lo)) (fbN (Lo)) (fbD (Lo)), IsV (.bool true), IsV (.bool false), IsV (.bool false), IsV (undef), IsV (undef), IsV (undef), IsV (undef), IsV (undef), IsV (undef), IsV (.bool false)]) (by kernel_rfl) (by kernel_rfl) (by kernel_rfl) (mono_pick ⟨IsV.mono _, IsV.mono _, IsQ.mono _ _ _, IsV.mono _, IsV.mono _, IsV.mono _, IsV.mono _, IsV.mono _, IsV.mono _, IsV.mono _, IsV.mono _, IsV.mono _, IsV.mono _, trivial⟩) ⟨?_, ?_, ?_, ?_, ?_, ?_, ?_, ?_, ?_, ?_, ?_, ?_, ?_, trivial⟩ ?_
        · intro a W hsz hb hS
          have h5 : a.tmps.getD 5 undef = .pointer (some ⟨w2.heap.size, 0, none⟩) := hS.1
          clear hS hsz
          refine will_of rfl ?_
          obtain ⟨j0, j1⟩ := (H5.out.later hb).cells
          intro K hK
          go_simp
          exact hK _ _ ⟨Below.refl _ _, rfl⟩
        · intro a W hsz hb hS
          have h6 : a.tmps.getD 6 undef = .float .f64 Lo := hS.1
          clear hS hsz
          refine will_of rfl ?_
          intro K hK
          go_simp
          exact hK _ _ ⟨Below.refl _ _, rfl⟩
        · intro a W hsz hb hS
          have h41 : a.tmps.getD 41 undef = .float .f64 Lo := hS.1
          clear hS hsz
          refine will_of rfl ?_
          obtain ⟨j0, j1⟩ := (H5.out.later hb).cells
          intro K hK
          go_simp
          refine (number_is (b := Lo) (by have := HBd.out; (try unfold fneg); (try split) <;> omega)).mono ?_
          rintro e W' ⟨v, rfl, hv, hb'⟩
          exact hK _ _ ⟨hb', hv⟩
        · intro a W hsz hb hS
          have h40 : a.tmps.getD 40 undef = .agg #[.int .u64 (p : Int), .int .u64 (q : Int)] := hS.1
          have q42 : IsQ (decide (9223372036854775808 < Lo)) (fbN (Lo)) (fbD (Lo)) (a.tmps.getD 42 undef) W := hS.2.1
          clear hS hsz
          obtain ⟨v42, h42⟩ : ∃ v, a.tmps.getD 42 undef = v := ⟨_, rfl⟩
          rw [h42] at q42
          refine will_of rfl ?_
          obtain ⟨j0, j1⟩ := (H5.out.later hb).cells
          intro K hK
          go_simp
          have hq := HHo.out W _ _ _ _ q42 (Nat.le_trans (fbN_len _) (by omega)) (Nat.le_trans (fbD_len _) (by omega))
          rw [val_dig, val_dig, HA.out] at hq
          (with_reducible refine hq.mono ?_)
          rintro e W' ⟨_, rfl, rfl, hb'⟩
          exact hK _ _ ⟨hb', rfl⟩
        · intro a W hsz hb hS
          have h43 : a.tmps.getD 43 undef = .bool true := hS.1
          clear hS hsz
          refine will_of rfl ?_
          intro K hK
          go_simp
          exact hK _ _ ⟨Below.refl _ _, rfl⟩
        · intro a W hsz hb hS
          have h44 : a.tmps.getD 44 undef = .bool false := hS.1
          clear hS hsz
          refine will_of rfl ?_
          intro K hK
          go_simp
          exact hK _ _ ⟨Below.refl _ _, rfl⟩
        · intro a W hsz hb hS
          have h5 : a.tmps.getD 5 undef = .pointer (some ⟨w2.heap.size, 0, none⟩) := hS.1
          have h45 : a.tmps.getD 45 undef = .bool false := hS.2.1
          clear hS hsz
          exact will_no rfl rfl h45 ⟨Below.refl _ _, rfl⟩
        · intro a W hsz hb hS
          have h6 : a.tmps.getD 6 undef = .float .f64 Lo := hS.1
          have h45 : a.tmps.getD 45 undef = .bool false := hS.2.1
          clear hS hsz
          exact will_no rfl rfl h45 ⟨Below.refl _ _, rfl⟩
        · intro a W hsz hb hS
          have h47 : a.tmps.getD 47 undef = undef := hS.1
          have h45 : a.tmps.getD 45 undef = .bool false := hS.2.1
          clear hS hsz
          exact will_no rfl rfl h45 ⟨Below.refl _ _, rfl⟩
        · intro a W hsz hb hS
          have h48 : a.tmps.getD 48 undef = undef := hS.1
          have h45 : a.tmps.getD 45 undef = .bool false := hS.2.1
          clear hS hsz
          exact will_no rfl rfl h45 ⟨Below.refl _ _, rfl⟩
        · intro a W hsz hb hS
          have h46 : a.tmps.getD 46 undef = undef := hS.1
          have h49 : a.tmps.getD 49 undef = undef := hS.2.1
          have h45 : a.tmps.getD 45 undef = .bool false := hS.2.2.1
          clear hS hsz
          exact will_no rfl rfl h45 ⟨Below.refl _ _, rfl⟩
        · intro a W hsz hb hS
          have h50 : a.tmps.getD 50 undef = undef := hS.1
          have h45 : a.tmps.getD 45 undef = .bool false := hS.2.1
          clear hS hsz
          exact will_no rfl rfl h45 ⟨Below.refl _ _, rfl⟩
        · intro a W hsz hb hS
          have h45 : a.tmps.getD 45 undef = .bool false := hS.1
          have h51 : a.tmps.getD 51 undef = undef := hS.2.1
          clear hS hsz
          refine will_of rfl ?_
          intro K hK
          go_simp
          exact hK _ _ ⟨Below.refl _ _, rfl⟩
        intro f W hb hH
        have e0 : f 0 = .agg #[.int .u64 (p : Int), .int .u64 (q : Int)] := hH.1
        have e1 : f 1 = .float .f64 Lo := hH.2.1
        obtain ⟨x2, y2⟩ : ∃ x, f 2 = x := ⟨_, rfl⟩
        have q2 : IsQ (decide (9223372036854775808 < Lo)) (fbN (Lo)) (fbD (Lo)) (f 2) W := hH.2.2.1
        rw [y2] at q2
        have e3 : f 3 = .bool true := hH.2.2.2.1
        have e4 : f 4 = .bool false := hH.2.2.2.2.1
        have e5 : f 5 = .bool false := hH.2.2.2.2.2.1
        have e6 : f 6 = undef := hH.2.2.2.2.2.2.1
        have e7 : f 7 = undef := hH.2.2.2.2.2.2.2.1
        have e8 : f 8 = undef := hH.2.2.2.2.2.2.2.2.1
        have e9 : f 9 = undef := hH.2.2.2.2.2.2.2.2.2.1
        have e10 : f 10 = undef := hH.2.2.2.2.2.2.2.2.2.2.1
        have e11 : f 11 = undef := hH.2.2.2.2.2.2.2.2.2.2.2.1
        have e12 : f 12 = .bool false := hH.2.2.2.2.2.2.2.2.2.2.2.2.1
        simp only [List.take_succ_cons, List.take_zero, List.drop_succ_cons, List.drop_zero, putFrom, Act.put, List.setIfInBounds_toArray, List.set_cons_zero, List.set_cons_succ, Nat.reduceAdd, e0, e1, y2, e3, e4, e5, e6, e7, e8, e9, e10, e11, e12]
        clear e0 e1 y2 e3 e4 e5 e6 e7 e8 e9 e10 e11 e12 hH f
        have hb := Lib.hid hb
        go_wp2
        go_meet
        exact ⟨rfl, hb.out⟩
      | false =>
        obtain rfl : b = true := by have := HLo.out; simpa using this
        refine region_at 13 (Pick [IsV (.agg #[.int .u64 (p : Int), .int .u64 (q : Int)]), IsV (.float .f64 Lo), IsQ (decide (9223372036854775808 < Lo)) (fbN (Lo)) (fbD (Lo)), IsV (.bool false), IsV (.bool true), IsV (.bool true), IsV (.agg #[.int .u64 (p : Int), .int .u64 (q : Int)]), IsV (.float .f64 Lo), IsV (.float .f64 (fneg Lo)), IsQ (decide (9223372036854775808 < (fneg Lo))) (fbN ((fneg Lo))) (fbD ((fneg Lo))), IsV (.bool true), IsV (.bool false), IsV (.bool false)]) (by kernel_rfl) (by kernel_rfl) (by kernel_rfl) (mono_pick ⟨IsV.mono _, IsV.mono _, IsQ.mono _ _ _, IsV.mono _, IsV.mono _, IsV.mono _, IsV.mono _, IsV.mono _, IsV.mono _, IsQ.mono _ _ _, IsV.mono _, IsV.mono _, IsV.mono _, trivial⟩) ⟨?_, ?_, ?_, ?_, ?_, ?_, ?_, ?_, ?_, ?_, ?_, ?_, ?_, trivial⟩ ?_
        · intro a W hsz hb hS
          have h5 : a.tmps.getD 5 undef = .pointer (some ⟨w2.heap.size, 0, none⟩) := hS.1
          clear hS hsz
          refine will_of rfl ?_
          obtain ⟨j0, j1⟩ := (H5.out.later hb).cells
          intro K hK
          go_simp
          exact hK _ _ ⟨Below.refl _ _, rfl⟩
        · intro a W hsz hb hS
          have h6 : a.tmps.getD 6 undef = .float .f64 Lo := hS.1
          clear hS hsz
          refine will_of rfl ?_
          intro K hK
          go_simp
          exact hK _ _ ⟨Below.refl _ _, rfl⟩
        · intro a W hsz hb hS
          have h41 : a.tmps.getD 41 undef = .float .f64 Lo := hS.1
          clear hS hsz
          refine will_of rfl ?_
          obtain ⟨j0, j1⟩ := (H5.out.later hb).cells
          intro K hK
          go_simp
          refine (number_is (b := Lo) (by have := HBd.out; (try unfold fneg); (try split) <;> omega)).mono ?_
          rintro e W' ⟨v, rfl, hv, hb'⟩
          exact hK _ _ ⟨hb', hv⟩
        · intro a W hsz hb hS
          have h40 : a.tmps.getD 40 undef = .agg #[.int .u64 (p : Int), .int .u64 (q : Int)] := hS.1
          have q42 : IsQ (decide (9223372036854775808 < Lo)) (fbN (Lo)) (fbD (Lo)) (a.tmps.getD 42 undef) W := hS.2.1
          clear hS hsz
          obtain ⟨v42, h42⟩ : ∃ v, a.tmps.getD 42 undef = v := ⟨_, rfl⟩
          rw [h42] at q42
          refine will_of rfl ?_
          obtain ⟨j0, j1⟩ := (H5.out.later hb).cells
          intro K hK
          go_simp
          have hq := HHo.out W _ _ _ _ q42 (Nat.le_trans (fbN_len _) (by omega)) (Nat.le_trans (fbD_len _) (by omega))
          rw [val_dig, val_dig, HA.out] at hq
          (with_reducible refine hq.mono ?_)
          rintro e W' ⟨_, rfl, rfl, hb'⟩
          exact hK _ _ ⟨hb', rfl⟩
        · intro a W hsz hb hS
          have h43 : a.tmps.getD 43 undef = .bool false := hS.1
          clear hS hsz
          refine will_of rfl ?_
          intro K hK
          go_simp
          exact hK _ _ ⟨Below.refl _ _, rfl⟩
        · intro a W hsz hb hS
          have h44 : a.tmps.getD 44 undef = .bool true := hS.1
          clear hS hsz
          refine will_of rfl ?_
          intro K hK
          go_simp
          exact hK _ _ ⟨Below.refl _ _, rfl⟩
        · intro a W hsz hb hS
          have h5 : a.tmps.getD 5 undef = .pointer (some ⟨w2.heap.size, 0, none⟩) := hS.1
          have h45 : a.tmps.getD 45 undef = .bool true := hS.2.1
          clear hS hsz
          refine will_yes rfl rfl h45 ?_
          obtain ⟨j0, j1⟩ := (H5.out.later hb).cells
          intro K hK
          go_simp
          exact hK _ _ ⟨Below.refl _ _, rfl⟩
        · intro a W hsz hb hS
          have h6 : a.tmps.getD 6 undef = .float .f64 Lo := hS.1
          have h45 : a.tmps.getD 45 undef = .bool true := hS.2.1
          clear hS hsz
          refine will_yes rfl rfl h45 ?_
          intro K hK
          go_simp
          exact hK _ _ ⟨Below.refl _ _, rfl⟩
        · intro a W hsz hb hS
          have h47 : a.tmps.getD 47 undef = .float .f64 Lo := hS.1
          have h45 : a.tmps.getD 45 undef = .bool true := hS.2.1
          clear hS hsz
          refine will_yes rfl rfl h45 ?_
          intro K hK
          have hn := HNL.out
          go_simp
          exact hK _ _ ⟨Below.refl _ _, rfl⟩
        · intro a W hsz hb hS
          have h48 : a.tmps.getD 48 undef = .float .f64 (fneg Lo) := hS.1
          have h45 : a.tmps.getD 45 undef = .bool true := hS.2.1
          clear hS hsz
          refine will_yes rfl rfl h45 ?_
          obtain ⟨j0, j1⟩ := (H5.out.later hb).cells
          intro K hK
          go_simp
          refine (number_is (b := (fneg Lo)) (by have := HBd.out; (try unfold fneg); (try split) <;> omega)).mono ?_
          rintro e W' ⟨v, rfl, hv, hb'⟩
          exact hK _ _ ⟨hb', hv⟩
        · intro a W hsz hb hS
          have h46 : a.tmps.getD 46 undef = .agg #[.int .u64 (p : Int), .int .u64 (q : Int)] := hS.1
          have q49 : IsQ (decide (9223372036854775808 < (fneg Lo))) (fbN ((fneg Lo))) (fbD ((fneg Lo))) (a.tmps.getD 49 undef) W := hS.2.1
          have h45 : a.tmps.getD 45 undef = .bool true := hS.2.2.1
          clear hS hsz
          obtain ⟨v49, h49⟩ : ∃ v, a.tmps.getD 49 undef = v := ⟨_, rfl⟩
          rw [h49] at q49
          refine will_yes rfl rfl h45 ?_
          obtain ⟨j0, j1⟩ := (H5.out.later hb).cells
          intro K hK
          go_simp
          have hq := HHo.out W _ _ _ _ q49 (Nat.le_trans (fbN_len _) (by omega)) (Nat.le_trans (fbD_len _) (by omega))
          rw [val_dig, val_dig, HA2.out] at hq
          (with_reducible refine hq.mono ?_)
          rintro e W' ⟨_, rfl, rfl, hb'⟩
          exact hK _ _ ⟨hb', rfl⟩
        · intro a W hsz hb hS
          have h50 : a.tmps.getD 50 undef = .bool true := hS.1
          have h45 : a.tmps.getD 45 undef = .bool true := hS.2.1
          clear hS hsz
          refine will_yes rfl rfl h45 ?_
          intro K hK
          go_simp
          exact hK _ _ ⟨Below.refl _ _, rfl⟩
        · intro a W hsz hb hS
          have h45 : a.tmps.getD 45 undef = .bool true := hS.1
          have h51 : a.tmps.getD 51 undef = .bool false := hS.2.1
          clear hS hsz
          refine will_of rfl ?_
          intro K hK
          go_simp
          exact hK _ _ ⟨Below.refl _ _, rfl⟩
        intro f W hb hH
        have e0 : f 0 = .agg #[.int .u64 (p : Int), .int .u64 (q : Int)] := hH.1
        have e1 : f 1 = .float .f64 Lo := hH.2.1
        obtain ⟨x2, y2⟩ : ∃ x, f 2 = x := ⟨_, rfl⟩
        have q2 : IsQ (decide (9223372036854775808 < Lo)) (fbN (Lo)) (fbD (Lo)) (f 2) W := hH.2.2.1
        rw [y2] at q2
        have e3 : f 3 = .bool false := hH.2.2.2.1
        have e4 : f 4 = .bool true := hH.2.2.2.2.1
        have e5 : f 5 = .bool true := hH.2.2.2.2.2.1
        have e6 : f 6 = .agg #[.int .u64 (p : Int), .int .u64 (q : Int)] := hH.2.2.2.2.2.2.1
        have e7 : f 7 = .float .f64 Lo := hH.2.2.2.2.2.2.2.1
        have e8 : f 8 = .float .f64 (fneg Lo) := hH.2.2.2.2.2.2.2.2.1
        obtain ⟨x9, y9⟩ : ∃ x, f 9 = x := ⟨_, rfl⟩
        have q9 : IsQ (decide (9223372036854775808 < (fneg Lo))) (fbN ((fneg Lo))) (fbD ((fneg Lo))) (f 9) W := hH.2.2.2.2.2.2.2.2.2.1
        rw [y9] at q9
        have e10 : f 10 = .bool true := hH.2.2.2.2.2.2.2.2.2.2.1
        have e11 : f 11 = .bool false := hH.2.2.2.2.2.2.2.2.2.2.2.1
        have e12 : f 12 = .bool false := hH.2.2.2.2.2.2.2.2.2.2.2.2.1
        simp only [List.take_succ_cons, List.take_zero, List.drop_succ_cons, List.drop_zero, putFrom, Act.put, List.setIfInBounds_toArray, List.set_cons_zero, List.set_cons_succ, Nat.reduceAdd, e0, e1, y2, e3, e4, e5, e6, e7, e8, y9, e10, e11, e12]
        clear e0 e1 y2 e3 e4 e5 e6 e7 e8 y9 e10 e11 e12 hH f
        clear q2 q9
        have hb := Lib.hid hb
        go_wp2
        go_meet
        exact ⟨rfl, hb.out⟩
    case rest =>
      obtain ⟨rfl, hb⟩ := hcut
      have HB := Lib.hid (baft HB.out hb)
      have HI := Lib.hid (HI.out.later hb)
      have H3 := Lib.hid (H3.out.later hb)
      have HX := Lib.hid (IsL.mono _ _ _ _ hb HX.out)
      have HY := Lib.hid (IsL.mono _ _ _ _ hb HY.out)
      have H5 := Lib.hid (H5.out.later hb)
      clear hb
      clear HA HA2 HLo
      go_upto_region 12 with fail
      obtain ⟨f, hfe⟩ : ∃ f, decide (Hi < 9218868437227405312) = f := ⟨_, rfl⟩
      have HFe := Lib.hid hfe
      obtain ⟨a2, hae⟩ : ∃ a, fholds p q (decide (9223372036854775808 < Hi)) (fbN Hi) (fbD Hi) = a := ⟨_, rfl⟩
      obtain ⟨b2, hbe⟩ : ∃ a, fholds p q (decide (9223372036854775808 < fneg Hi)) (fbN (fneg Hi)) (fbD (fneg Hi)) = a := ⟨_, rfl⟩
      rw [hae, hbe] at HHi
      have HC := Lib.hid hae
      have HC2 := Lib.hid hbe
      clear hae hbe hfe
      go_cut [69] from 53 to 68 (fun v wx => v = .bool false ∧ Below wc.heap.size wc wx)
      case first =>
        cases f with
        | false =>
          refine region_at 17 (Pick [IsV (.float .f64 Hi), IsV (.bool false), IsV (.bool false), IsV (undef), IsV (undef), IsV (undef), IsV (undef), IsV (undef), IsV (.bool false), IsV (.bool false), IsV (undef), IsV (undef), IsV (undef), IsV (undef), IsV (undef), IsV (undef), IsV (.bool false)]) (by kernel_rfl) (by kernel_rfl) (by kernel_rfl) (mono_pick ⟨IsV.mono _, IsV.mono _, IsV.mono _, IsV.mono _, IsV.mono _, IsV.mono _, IsV.mono _, IsV.mono _, IsV.mono _, IsV.mono _, IsV.mono _, IsV.mono _, IsV.mono _, IsV.mono _, IsV.mono _, IsV.mono _, IsV.mono _, trivial⟩) ⟨?_, ?_, ?_, ?_, ?_, ?_, ?_, ?_, ?_, ?_, ?_, ?_, ?_, ?_, ?_, ?_, ?_, trivial⟩ ?_
          · intro a W hsz hb hS
            have h7 : a.tmps.getD 7 undef = .float .f64 Hi := hS.1
            clear hS hsz
            refine will_of rfl ?_
            intro K hK
            go_simp
            exact hK _ _ ⟨Below.refl _ _, rfl⟩
          · intro a W hsz hb hS
            have h53 : a.tmps.getD 53 undef = .float .f64 Hi := hS.1
            clear hS hsz
            refine will_of rfl ?_
            obtain ⟨j0, j1⟩ := (H5.out.later hb).cells
            intro K hK
            go_simp
            have hq := HF2.out W
            rw [HFe.out] at hq
            (with_reducible refine hq.mono ?_)
            rintro e W' ⟨_, rfl, rfl, hb'⟩
            exact hK _ _ ⟨hb', rfl⟩
          · intro a W hsz hb hS
            have h54 : a.tmps.getD 54 undef = .bool false := hS.1
            clear hS hsz
            refine will_of rfl ?_
            intro K hK
            go_simp
            exact hK _ _ ⟨Below.refl _ _, rfl⟩
          · intro a W hsz hb hS
            have h5 : a.tmps.getD 5 undef = .pointer (some ⟨w2.heap.size, 0, none⟩) := hS.1
            have h55 : a.tmps.getD 55 undef = .bool false := hS.2.1
            clear hS hsz
            exact will_no rfl rfl h55 ⟨Below.refl _ _, rfl⟩
          · intro a W hsz hb hS
            have h7 : a.tmps.getD 7 undef = .float .f64 Hi := hS.1
            have h55 : a.tmps.getD 55 undef = .bool false := hS.2.1
            clear hS hsz
            exact will_no rfl rfl h55 ⟨Below.refl _ _, rfl⟩
          · intro a W hsz hb hS
            have h57 : a.tmps.getD 57 undef = undef := hS.1
            have h55 : a.tmps.getD 55 undef = .bool false := hS.2.1
            clear hS hsz
            exact will_no rfl rfl h55 ⟨Below.refl _ _, rfl⟩
          · intro a W hsz hb hS
            have h56 : a.tmps.getD 56 undef = undef := hS.1
            have h58 : a.tmps.getD 58 undef = undef := hS.2.1
            have h55 : a.tmps.getD 55 undef = .bool false := hS.2.2.1
            clear hS hsz
            exact will_no rfl rfl h55 ⟨Below.refl _ _, rfl⟩
          · intro a W hsz hb hS
            have h59 : a.tmps.getD 59 undef = undef := hS.1
            have h55 : a.tmps.getD 55 undef = .bool false := hS.2.1
            clear hS hsz
            exact will_no rfl rfl h55 ⟨Below.refl _ _, rfl⟩
          · intro a W hsz hb hS
            have h55 : a.tmps.getD 55 undef = .bool false := hS.1
            have h60 : a.tmps.getD 60 undef = undef := hS.2.1
            clear hS hsz
            refine will_of rfl ?_
            intro K hK
            go_simp
            exact hK _ _ ⟨Below.refl _ _, rfl⟩
          · intro a W hsz hb hS
            have h61 : a.tmps.getD 61 undef = .bool false := hS.1
            clear hS hsz
            refine will_of rfl ?_
            intro K hK
            go_simp
            exact hK _ _ ⟨Below.refl _ _, rfl⟩
          · intro a W hsz hb hS
            have h5 : a.tmps.getD 5 undef = .pointer (some ⟨w2.heap.size, 0, none⟩) := hS.1
            have h62 : a.tmps.getD 62 undef = .bool false := hS.2.1
            clear hS hsz
            exact will_no rfl rfl h62 ⟨Below.refl _ _, rfl⟩
          · intro a W hsz hb hS
            have h7 : a.tmps.getD 7 undef = .float .f64 Hi := hS.1
            have h62 : a.tmps.getD 62 undef = .bool false := hS.2.1
            clear hS hsz
            exact will_no rfl rfl h62 ⟨Below.refl _ _, rfl⟩
          · intro a W hsz hb hS
            have h64 : a.tmps.getD 64 undef = undef := hS.1
            have h62 : a.tmps.getD 62 undef = .bool false := hS.2.1
            clear hS hsz
            exact will_no rfl rfl h62 ⟨Below.refl _ _, rfl⟩
          · intro a W hsz hb hS
            have h65 : a.tmps.getD 65 undef = undef := hS.1
            have h62 : a.tmps.getD 62 undef = .bool false := hS.2.1
            clear hS hsz
            exact will_no rfl rfl h62 ⟨Below.refl _ _, rfl⟩
          · intro a W hsz hb hS
            have h63 : a.tmps.getD 63 undef = undef := hS.1
            have h66 : a.tmps.getD 66 undef = undef := hS.2.1
            have h62 : a.tmps.getD 62 undef = .bool false := hS.2.2.1
            clear hS hsz
            exact will_no rfl rfl h62 ⟨Below.refl _ _, rfl⟩
          · intro a W hsz hb hS
            have h67 : a.tmps.getD 67 undef = undef := hS.1
            have h62 : a.tmps.getD 62 undef = .bool false := hS.2.1
            clear hS hsz
            exact will_no rfl rfl h62 ⟨Below.refl _ _, rfl⟩
          · intro a W hsz hb hS
            have h62 : a.tmps.getD 62 undef = .bool false := hS.1
            have h68 : a.tmps.getD 68 undef = undef := hS.2.1
            clear hS hsz
            refine will_of rfl ?_
            intro K hK
            go_simp
            exact hK _ _ ⟨Below.refl _ _, rfl⟩
          intro f W hb hH
          have e0 : f 0 = .float .f64 Hi := hH.1
          have e1 : f 1 = .bool false := hH.2.1
          have e2 : f 2 = .bool false := hH.2.2.1
          have e3 : f 3 = undef := hH.2.2.2.1
          have e4 : f 4 = undef := hH.2.2.2.2.1
          have e5 : f 5 = undef := hH.2.2.2.2.2.1
          have e6 : f 6 = undef := hH.2.2.2.2.2.2.1
          have e7 : f 7 = undef := hH.2.2.2.2.2.2.2.1
          have e8 : f 8 = .bool false := hH.2.2.2.2.2.2.2.2.1
          have e9 : f 9 = .bool false := hH.2.2.2.2.2.2.2.2.2.1
          have e10 : f 10 = undef := hH.2.2.2.2.2.2.2.2.2.2.1
          have e11 : f 11 = undef := hH.2.2.2.2.2.2.2.2.2.2.2.1
          have e12 : f 12 = undef := hH.2.2.2.2.2.2.2.2.2.2.2.2.1
          have e13 : f 13 = undef := hH.2.2.2.2.2.2.2.2.2.2.2.2.2.1
          have e14 : f 14 = undef := hH.2.2.2.2.2.2.2.2.2.2.2.2.2.2.1
          have e15 : f 15 = undef := hH.2.2.2.2.2.2.2.2.2.2.2.2.2.2.2.1
          have e16 : f 16 = .bool false := hH.2.2.2.2.2.2.2.2.2.2.2.2.2.2.2.2.1
          simp only [List.take_succ_cons, List.take_zero, List.drop_succ_cons, List.drop_zero, putFrom, Act.put, List.setIfInBounds_toArray, List.set_cons_zero, List.set_cons_succ, Nat.reduceAdd, e0, e1, e2, e3, e4, e5, e6, e7, e8, e9, e10, e11, e12, e13, e14, e15, e16]
          clear e0 e1 e2 e3 e4 e5 e6 e7 e8 e9 e10 e11 e12 e13 e14 e15 e16 hH f
          have hb := Lib.hid hb
          go_wp2
          go_meet
          exact ⟨rfl, hb.out⟩
        | true =>
          cases a2 with
          | true =>
            refine region_at 17 (Pick [IsV (.float .f64 Hi), IsV (.bool true), IsV (.bool true), IsV (.agg #[.int .u64 (p : Int), .int .u64 (q : Int)]), IsV (.float .f64 Hi), IsQ (decide (9223372036854775808 < Hi)) (fbN (Hi)) (fbD (Hi)), IsV (.bool true), IsV (.bool false), IsV (.bool false), IsV (.bool false), IsV (undef), IsV (undef), IsV (undef), IsV (undef), IsV (undef), IsV (undef), IsV (.bool false)]) (by kernel_rfl) (by kernel_rfl) (by kernel_rfl) (mono_pick ⟨IsV.mono _, IsV.mono _, IsV.mono _, IsV.mono _, IsV.mono _, IsQ.mono _ _ _, IsV.mono _, IsV.mono _, IsV.mono _, IsV.mono _, IsV.mono _, IsV.mono _, IsV.mono _, IsV.mono _, IsV.mono _, IsV.mono _, IsV.mono _, trivial⟩) ⟨?_, ?_, ?_, ?_, ?_, ?_, ?_, ?_, ?_, ?_, ?_, ?_, ?_, ?_, ?_, ?_, ?_, trivial⟩ ?_
            · intro a W hsz hb hS
              have h7 : a.tmps.getD 7 undef = .float .f64 Hi := hS.1
              clear hS hsz
              refine will_of rfl ?_
              intro K hK
              go_simp
              exact hK _ _ ⟨Below.refl _ _, rfl⟩
            · intro a W hsz hb hS
              have h53 : a.tmps.getD 53 undef = .float .f64 Hi := hS.1
              clear hS hsz
              refine will_of rfl ?_
              obtain ⟨j0, j1⟩ := (H5.out.later hb).cells
              intro K hK
              go_simp
              have hq := HF2.out W
              rw [HFe.out] at hq
              (with_reducible refine hq.mono ?_)
              rintro e W' ⟨_, rfl, rfl, hb'⟩
              exact hK _ _ ⟨hb', rfl⟩
            · intro a W hsz hb hS
              have h54 : a.tmps.getD 54 undef = .bool true := hS.1
              clear hS hsz
              refine will_of rfl ?_
              intro K hK
              go_simp
              exact hK _ _ ⟨Below.refl _ _, rfl⟩
            · intro a W hsz hb hS
              have h5 : a.tmps.getD 5 undef = .pointer (some ⟨w2.heap.size, 0, none⟩) := hS.1
              have h55 : a.tmps.getD 55 undef = .bool true := hS.2.1
              clear hS hsz
              refine will_yes rfl rfl h55 ?_
              obtain ⟨j0, j1⟩ := (H5.out.later hb).cells
              intro K hK
              go_simp
              exact hK _ _ ⟨Below.refl _ _, rfl⟩
            · intro a W hsz hb hS
              have h7 : a.tmps.getD 7 undef = .float .f64 Hi := hS.1
              have h55 : a.tmps.getD 55 undef = .bool true := hS.2.1
              clear hS hsz
              refine will_yes rfl rfl h55 ?_
              intro K hK
              go_simp
              exact hK _ _ ⟨Below.refl _ _, rfl⟩
            · intro a W hsz hb hS
              have h57 : a.tmps.getD 57 undef = .float .f64 Hi := hS.1
              have h55 : a.tmps.getD 55 undef = .bool true := hS.2.1
              clear hS hsz
              refine will_yes rfl rfl h55 ?_
              obtain ⟨j0, j1⟩ := (H5.out.later hb).cells
              intro K hK
              go_simp
              refine (number_is (b := Hi) (by have := HBd.out; (try unfold fneg); (try split) <;> omega)).mono ?_
              rintro e W' ⟨v, rfl, hv, hb'⟩
              exact hK _ _ ⟨hb', hv⟩
            · intro a W hsz hb hS
              have h56 : a.tmps.getD 56 undef = .agg #[.int .u64 (p : Int), .int .u64 (q : Int)] := hS.1
              have q58 : IsQ (decide (9223372036854775808 < Hi)) (fbN (Hi)) (fbD (Hi)) (a.tmps.getD 58 undef) W := hS.2.1
              have h55 : a.tmps.getD 55 undef = .bool true := hS.2.2.1
              clear hS hsz
              obtain ⟨v58, h58⟩ : ∃ v, a.tmps.getD 58 undef = v := ⟨_, rfl⟩
              rw [h58] at q58
              refine will_yes rfl rfl h55 ?_
              obtain ⟨j0, j1⟩ := (H5.out.later hb).cells
              intro K hK
              go_simp
              have hq := HHo.out W _ _ _ _ q58 (Nat.le_trans (fbN_len _) (by omega)) (Nat.le_trans (fbD_len _) (by omega))
              rw [val_dig, val_dig, HC.out] at hq
              (with_reducible refine hq.mono ?_)
              rintro e W' ⟨_, rfl, rfl, hb'⟩
              exact hK _ _ ⟨hb', rfl⟩
            · intro a W hsz hb hS
              have h59 : a.tmps.getD 59 undef = .bool true := hS.1
              have h55 : a.tmps.getD 55 undef = .bool true := hS.2.1
              clear hS hsz
              refine will_yes rfl rfl h55 ?_
              intro K hK
              go_simp
              exact hK _ _ ⟨Below.refl _ _, rfl⟩
            · intro a W hsz hb hS
              have h55 : a.tmps.getD 55 undef = .bool true := hS.1
              have h60 : a.tmps.getD 60 undef = .bool false := hS.2.1
              clear hS hsz
              refine will_of rfl ?_
              intro K hK
              go_simp
              exact hK _ _ ⟨Below.refl _ _, rfl⟩
            · intro a W hsz hb hS
              have h61 : a.tmps.getD 61 undef = .bool false := hS.1
              clear hS hsz
              refine will_of rfl ?_
              intro K hK
              go_simp
              exact hK _ _ ⟨Below.refl _ _, rfl⟩
            · intro a W hsz hb hS
              have h5 : a.tmps.getD 5 undef = .pointer (some ⟨w2.heap.size, 0, none⟩) := hS.1
              have h62 : a.tmps.getD 62 undef = .bool false := hS.2.1
              clear hS hsz
              exact will_no rfl rfl h62 ⟨Below.refl _ _, rfl⟩
            · intro a W hsz hb hS
              have h7 : a.tmps.getD 7 undef = .float .f64 Hi := hS.1
              have h62 : a.tmps.getD 62 undef = .bool false := hS.2.1
              clear hS hsz
              exact will_no rfl rfl h62 ⟨Below.refl _ _, rfl⟩
            · intro a W hsz hb hS
              have h64 : a.tmps.getD 64 undef = undef := hS.1
              have h62 : a.tmps.getD 62 undef = .bool false := hS.2.1
              clear hS hsz
              exact will_no rfl rfl h62 ⟨Below.refl _ _, rfl⟩
            · intro a W hsz hb hS
              have h65 : a.tmps.getD 65 undef = undef := hS.1
              have h62 : a.tmps.getD 62 undef = .bool false := hS.2.1
              clear hS hsz
              exact will_no rfl rfl h62 ⟨Below.refl _ _, rfl⟩
            · intro a W hsz hb hS
              have h63 : a.tmps.getD 63 undef = undef := hS.1
              have h66 : a.tmps.getD 66 undef = undef := hS.2.1
              have h62 : a.tmps.getD 62 undef = .bool false := hS.2.2.1
              clear hS hsz
              exact will_no rfl rfl h62 ⟨Below.refl _ _, rfl⟩
            · intro a W hsz hb hS
              have h67 : a.tmps.getD 67 undef = undef := hS.1
              have h62 : a.tmps.getD 62 undef = .bool false := hS.2.1
              clear hS hsz
              exact will_no rfl rfl h62 ⟨Below.refl _ _, rfl⟩
            · intro a W hsz hb hS
              have h62 : a.tmps.getD 62 undef = .bool false := hS.1
              have h68 : a.tmps.getD 68 undef = undef := hS.2.1
              clear hS hsz
              refine will_of rfl ?_
              intro K hK
              go_simp
              exact hK _ _ ⟨Below.refl _ _, rfl⟩
            intro f W hb hH
            have e0 : f 0 = .float .f64 Hi := hH.1
            have e1 : f 1 = .bool true := hH.2.1
            have e2 : f 2 = .bool true := hH.2.2.1
            have e3 : f 3 = .agg #[.int .u64 (p : Int), .int .u64 (q : Int)] := hH.2.2.2.1
            have e4 : f 4 = .float .f64 Hi := hH.2.2.2.2.1
            obtain ⟨x5, y5⟩ : ∃ x, f 5 = x := ⟨_, rfl⟩
            have q5 : IsQ (decide (9223372036854775808 < Hi)) (fbN (Hi)) (fbD (Hi)) (f 5) W := hH.2.2.2.2.2.1
            rw [y5] at q5
            have e6 : f 6 = .bool true := hH.2.2.2.2.2.2.1
            have e7 : f 7 = .bool false := hH.2.2.2.2.2.2.2.1
            have e8 : f 8 = .bool false := hH.2.2.2.2.2.2.2.2.1
            have e9 : f 9 = .bool false := hH.2.2.2.2.2.2.2.2.2.1
            have e10 : f 10 = undef := hH.2.2.2.2.2.2.2.2.2.2.1
            have e11 : f 11 = undef := hH.2.2.2.2.2.2.2.2.2.2.2.1
            have e12 : f 12 = undef := hH.2.2.2.2.2.2.2.2.2.2.2.2.1
            have e13 : f 13 = undef := hH.2.2.2.2.2.2.2.2.2.2.2.2.2.1
            have e14 : f 14 = undef := hH.2.2.2.2.2.2.2.2.2.2.2.2.2.2.1
            have e15 : f 15 = undef := hH.2.2.2.2.2.2.2.2.2.2.2.2.2.2.2.1
            have e16 : f 16 = .bool false := hH.2.2.2.2.2.2.2.2.2.2.2.2.2.2.2.2.1
            simp only [List.take_succ_cons, List.take_zero, List.drop_succ_cons, List.drop_zero, putFrom, Act.put, List.setIfInBounds_toArray, List.set_cons_zero, List.set_cons_succ, Nat.reduceAdd, e0, e1, e2, e3, e4, y5, e6, e7, e8, e9, e10, e11, e12, e13, e14, e15, e16]
            clear e0 e1 e2 e3 e4 y5 e6 e7 e8 e9 e10 e11 e12 e13 e14 e15 e16 hH f
            clear q5
            have hb := Lib.hid hb
            go_wp2
            go_meet
            exact ⟨rfl, hb.out⟩
          | false =>
            obtain rfl : b2 = true := by have := HHi.out (of_decide_eq_true HFe.out); simpa using this
            refine region_at 17 (Pick [IsV (.float .f64 Hi), IsV (.bool true), IsV (.bool true), IsV (.agg #[.int .u64 (p : Int), .int .u64 (q : Int)]), IsV (.float .f64 Hi), IsQ (decide (9223372036854775808 < Hi)) (fbN (Hi)) (fbD (Hi)), IsV (.bool false), IsV (.bool true), IsV (.bool true), IsV (.bool true), IsV (.agg #[.int .u64 (p : Int), .int .u64 (q : Int)]), IsV (.float .f64 Hi), IsV (.float .f64 (fneg Hi)), IsQ (decide (9223372036854775808 < (fneg Hi))) (fbN ((fneg Hi))) (fbD ((fneg Hi))), IsV (.bool true), IsV (.bool false), IsV (.bool false)]) (by kernel_rfl) (by kernel_rfl) (by kernel_rfl) (mono_pick ⟨IsV.mono _, IsV.mono _, IsV.mono _, IsV.mono _, IsV.mono _, IsQ.mono _ _ _, IsV.mono _, IsV.mono _, IsV.mono _, IsV.mono _, IsV.mono _, IsV.mono _, IsV.mono _, IsQ.mono _ _ _, IsV.mono _, IsV.mono _, IsV.mono _, trivial⟩) ⟨?_, ?_, ?_, ?_, ?_, ?_, ?_, ?_, ?_, ?_, ?_, ?_, ?_, ?_, ?_, ?_, ?_, trivial⟩ ?_
            · intro a W hsz hb hS
              have h7 : a.tmps.getD 7 undef = .float .f64 Hi := hS.1
              clear hS hsz
              refine will_of rfl ?_
              intro K hK
              go_simp
              exact hK _ _ ⟨Below.refl _ _, rfl⟩
            · intro a W hsz hb hS
              have h53 : a.tmps.getD 53 undef = .float .f64 Hi := hS.1
              clear hS hsz
              refine will_of rfl ?_
              obtain ⟨j0, j1⟩ := (H5.out.later hb).cells
              intro K hK
              go_simp
              have hq := HF2.out W
              rw [HFe.out] at hq
              (with_reducible refine hq.mono ?_)
              rintro e W' ⟨_, rfl, rfl, hb'⟩
              exact hK _ _ ⟨hb', rfl⟩
            · intro a W hsz hb hS
              have h54 : a.tmps.getD 54 undef = .bool true := hS.1
              clear hS hsz
              refine will_of rfl ?_
              intro K hK
              go_simp
              exact hK _ _ ⟨Below.refl _ _, rfl⟩
            · intro a W hsz hb hS
              have h5 : a.tmps.getD 5 undef = .pointer (some ⟨w2.heap.size, 0, none⟩) := hS.1
              have h55 : a.tmps.getD 55 undef = .bool true := hS.2.1
              clear hS hsz
              refine will_yes rfl rfl h55 ?_
              obtain ⟨j0, j1⟩ := (H5.out.later hb).cells
              intro K hK
              go_simp
              exact hK _ _ ⟨Below.refl _ _, rfl⟩
            · intro a W hsz hb hS
              have h7 : a.tmps.getD 7 undef = .float .f64 Hi := hS.1
              have h55 : a.tmps.getD 55 undef = .bool true := hS.2.1
              clear hS hsz
              refine will_yes rfl rfl h55 ?_
              intro K hK
              go_simp
              exact hK _ _ ⟨Below.refl _ _, rfl⟩
            · intro a W hsz hb hS
              have h57 : a.tmps.getD 57 undef = .float .f64 Hi := hS.1
              have h55 : a.tmps.getD 55 undef = .bool true := hS.2.1
              clear hS hsz
              refine will_yes rfl rfl h55 ?_
              obtain ⟨j0, j1⟩ := (H5.out.later hb).cells
              intro K hK
              go_simp
              refine (number_is (b := Hi) (by have := HBd.out; (try unfold fneg); (try split) <;> omega)).mono ?_
              rintro e W' ⟨v, rfl, hv, hb'⟩
              exact hK _ _ ⟨hb', hv⟩
            · intro a W hsz hb hS
              have h56 : a.tmps.getD 56 undef = .agg #[.int .u64 (p : Int), .int .u64 (q : Int)] := hS.1
              have q58 : IsQ (decide (9223372036854775808 < Hi)) (fbN (Hi)) (fbD (Hi)) (a.tmps.getD 58 undef) W := hS.2.1
              have h55 : a.tmps.getD 55 undef = .bool true := hS.2.2.1
              clear hS hsz
              obtain ⟨v58, h58⟩ : ∃ v, a.tmps.getD 58 undef = v := ⟨_, rfl⟩
              rw [h58] at q58
              refine will_yes rfl rfl h55 ?_
              obtain ⟨j0, j1⟩ := (H5.out.later hb).cells
              intro K hK
              go_simp
              have hq := HHo.out W _ _ _ _ q58 (Nat.le_trans (fbN_len _) (by omega)) (Nat.le_trans (fbD_len _) (by omega))
              rw [val_dig, val_dig, HC.out] at hq
              (with_reducible refine hq.mono ?_)
              rintro e W' ⟨_, rfl, rfl, hb'⟩
              exact hK _ _ ⟨hb', rfl⟩
            · intro a W hsz hb hS
              have h59 : a.tmps.getD 59 undef = .bool false := hS.1
              have h55 : a.tmps.getD 55 undef = .bool true := hS.2.1
              clear hS hsz
              refine will_yes rfl rfl h55 ?_
              intro K hK
              go_simp
              exact hK _ _ ⟨Below.refl _ _, rfl⟩
            · intro a W hsz hb hS
              have h55 : a.tmps.getD 55 undef = .bool true := hS.1
              have h60 : a.tmps.getD 60 undef = .bool true := hS.2.1
              clear hS hsz
              refine will_of rfl ?_
              intro K hK
              go_simp
              exact hK _ _ ⟨Below.refl _ _, rfl⟩
            · intro a W hsz hb hS
              have h61 : a.tmps.getD 61 undef = .bool true := hS.1
              clear hS hsz
              refine will_of rfl ?_
              intro K hK
              go_simp
              exact hK _ _ ⟨Below.refl _ _, rfl⟩
            · intro a W hsz hb hS
              have h5 : a.tmps.getD 5 undef = .pointer (some ⟨w2.heap.size, 0, none⟩) := hS.1
              have h62 : a.tmps.getD 62 undef = .bool true := hS.2.1
              clear hS hsz
              refine will_yes rfl rfl h62 ?_
              obtain ⟨j0, j1⟩ := (H5.out.later hb).cells
              intro K hK
              go_simp
              exact hK _ _ ⟨Below.refl _ _, rfl⟩
            · intro a W hsz hb hS
              have h7 : a.tmps.getD 7 undef = .float .f64 Hi := hS.1
              have h62 : a.tmps.getD 62 undef = .bool true := hS.2.1
              clear hS hsz
              refine will_yes rfl rfl h62 ?_
              intro K hK
              go_simp
              exact hK _ _ ⟨Below.refl _ _, rfl⟩
            · intro a W hsz hb hS
              have h64 : a.tmps.getD 64 undef = .float .f64 Hi := hS.1
              have h62 : a.tmps.getD 62 undef = .bool true := hS.2.1
              clear hS hsz
              refine will_yes rfl rfl h62 ?_
              intro K hK
              have hn := HNH.out
              go_simp
              exact hK _ _ ⟨Below.refl _ _, rfl⟩
            · intro a W hsz hb hS
              have h65 : a.tmps.getD 65 undef = .float .f64 (fneg Hi) := hS.1
              have h62 : a.tmps.getD 62 undef = .bool true := hS.2.1
              clear hS hsz
              refine will_yes rfl rfl h62 ?_
              obtain ⟨j0, j1⟩ := (H5.out.later hb).cells
              intro K hK
              go_simp
              refine (number_is (b := (fneg Hi)) (by have := HBd.out; (try unfold fneg); (try split) <;> omega)).mono ?_
              rintro e W' ⟨v, rfl, hv, hb'⟩
              exact hK _ _ ⟨hb', hv⟩
            · intro a W hsz hb hS
              have h63 : a.tmps.getD 63 undef = .agg #[.int .u64 (p : Int), .int .u64 (q : Int)] := hS.1
              have q66 : IsQ (decide (9223372036854775808 < (fneg Hi))) (fbN ((fneg Hi))) (fbD ((fneg Hi))) (a.tmps.getD 66 undef) W := hS.2.1
              have h62 : a.tmps.getD 62 undef = .bool true := hS.2.2.1
              clear hS hsz
              obtain ⟨v66, h66⟩ : ∃ v, a.tmps.getD 66 undef = v := ⟨_, rfl⟩
              rw [h66] at q66
              refine will_yes rfl rfl h62 ?_
              obtain ⟨j0, j1⟩ := (H5.out.later hb).cells
              intro K hK
              go_simp
              have hq := HHo.out W _ _ _ _ q66 (Nat.le_trans (fbN_len _) (by omega)) (Nat.le_trans (fbD_len _) (by omega))
              rw [val_dig, val_dig, HC2.out] at hq
              (with_reducible refine hq.mono ?_)
              rintro e W' ⟨_, rfl, rfl, hb'⟩
              exact hK _ _ ⟨hb', rfl⟩
            · intro a W hsz hb hS
              have h67 : a.tmps.getD 67 undef = .bool true := hS.1
              have h62 : a.tmps.getD 62 undef = .bool true := hS.2.1
              clear hS hsz
              refine will_yes rfl rfl h62 ?_
              intro K hK
              go_simp
              exact hK _ _ ⟨Below.refl _ _, rfl⟩
            · intro a W hsz hb hS
              have h62 : a.tmps.getD 62 undef = .bool true := hS.1
              have h68 : a.tmps.getD 68 undef = .bool false := hS.2.1
              clear hS hsz
              refine will_of rfl ?_
              intro K hK
              go_simp
              exact hK _ _ ⟨Below.refl _ _, rfl⟩
            intro f W hb hH
            have e0 : f 0 = .float .f64 Hi := hH.1
            have e1 : f 1 = .bool true := hH.2.1
            have e2 : f 2 = .bool true := hH.2.2.1
            have e3 : f 3 = .agg #[.int .u64 (p : Int), .int .u64 (q : Int)] := hH.2.2.2.1
            have e4 : f 4 = .float .f64 Hi := hH.2.2.2.2.1
            obtain ⟨x5, y5⟩ : ∃ x, f 5 = x := ⟨_, rfl⟩
            have q5 : IsQ (decide (9223372036854775808 < Hi)) (fbN (Hi)) (fbD (Hi)) (f 5) W := hH.2.2.2.2.2.1
            rw [y5] at q5
            have e6 : f 6 = .bool false := hH.2.2.2.2.2.2.1
            have e7 : f 7 = .bool true := hH.2.2.2.2.2.2.2.1
            have e8 : f 8 = .bool true := hH.2.2.2.2.2.2.2.2.1
            have e9 : f 9 = .bool true := hH.2.2.2.2.2.2.2.2.2.1
            have e10 : f 10 = .agg #[.int .u64 (p : Int), .int .u64 (q : Int)] := hH.2.2.2.2.2.2.2.2.2.2.1
            have e11 : f 11 = .float .f64 Hi := hH.2.2.2.2.2.2.2.2.2.2.2.1
            have e12 : f 12 = .float .f64 (fneg Hi) := hH.2.2.2.2.2.2.2.2.2.2.2.2.1
            obtain ⟨x13, y13⟩ : ∃ x, f 13 = x := ⟨_, rfl⟩
            have q13 : IsQ (decide (9223372036854775808 < (fneg Hi))) (fbN ((fneg Hi))) (fbD ((fneg Hi))) (f 13) W := hH.2.2.2.2.2.2.2.2.2.2.2.2.2.1
            rw [y13] at q13
            have e14 : f 14 = .bool true := hH.2.2.2.2.2.2.2.2.2.2.2.2.2.2.1
            have e15 : f 15 = .bool false := hH.2.2.2.2.2.2.2.2.2.2.2.2.2.2.2.1
            have e16 : f 16 = .bool false := hH.2.2.2.2.2.2.2.2.2.2.2.2.2.2.2.2.1
            simp only [List.take_succ_cons, List.take_zero, List.drop_succ_cons, List.drop_zero, putFrom, Act.put, List.setIfInBounds_toArray, List.set_cons_zero, List.set_cons_succ, Nat.reduceAdd, e0, e1, e2, e3, e4, y5, e6, e7, e8, e9, e10, e11, e12, y13, e14, e15, e16]
            clear e0 e1 e2 e3 e4 y5 e6 e7 e8 e9 e10 e11 e12 y13 e14 e15 e16 hH f
            clear q5 q13
            have hb := Lib.hid hb
            go_wp2
            go_meet
            exact ⟨rfl, hb.out⟩
      case rest =>
        obtain ⟨rfl, hb⟩ := hcut
        have HB := Lib.hid (baft HB.out hb)
        have HI := Lib.hid (HI.out.later hb)
        have H3 := Lib.hid (H3.out.later hb)
        have HX := Lib.hid (IsL.mono _ _ _ _ hb HX.out)
        have HY := Lib.hid (IsL.mono _ _ _ _ hb HY.out)
        have H5 := Lib.hid (H5.out.later hb)
        clear hb
        clear HC HC2 HHi
        have HHv := Lib.hid (fun W v (hv : IsR s X Y v W) => HHo.out W s X Y v hv (by have := HL.out; omega) (by have := HL.out; omega))
        have HNm := Lib.hid (fun W v (hv : IsL Y v W) => norm_is (w := W) (v := v) hv (by have := HL.out; omega))
        obtain ⟨k0, k1, k2⟩ := H3.out.cells
        go_wp2_with fail
        refine (HNm.out _ _ HY.out).mono ?_
        rintro en w9 ⟨_, rfl, ⟨An, cn, rfl, _⟩, hb⟩
        have HB := Lib.hid (baft HB.out hb)
        have HI := Lib.hid (HI.out.later hb)
        have H3 := Lib.hid (H3.out.later hb)
        have HX := Lib.hid (IsL.mono _ _ _ _ hb HX.out)
        have HY := Lib.hid (IsL.mono _ _ _ _ hb HY.out)
        have H5 := Lib.hid (H5.out.later hb)
        clear hb k0 k1 k2
        by_cases hd0 : val Y = 0
        · have hl : (dig (val Y)).length = 0 := by rw [hd0, dig_zero]; rfl
          rw [hl]
          go_wp2
          go_ret
          exact ⟨rfl, HB.out⟩
        · have hdp := Lib.hid (show 0 < val Y by omega)
          have hl : (((dig (val Y)).length : Int) == 0) = false := by have := dig_length_pos hd0; rw [beq_eq_false_iff_ne]; omega
          have hl2 : ¬ ((dig (val Y)).length : Int) = 0 := by have := dig_length_pos hd0; omega
          have hl3 : ¬ (dig (val Y)).length = 0 := by have := dig_length_pos hd0; omega
          generalize (dig (val Y)).length = l9 at hl hl2 hl3 ⊢
          clear hd0
          obtain ⟨h, hhe⟩ : ∃ h, fholds p q s (val X) (val Y) = h := ⟨_, rfl⟩
          have HHe := Lib.hid hhe
          clear hhe
          obtain ⟨k0, k1, k2⟩ := H3.out.cells
          obtain ⟨j0, j1⟩ := H5.out.cells
          go_wp2_with fail
          refine (HHv.out _ _ ⟨_, _, rfl, HX.out, HY.out⟩).mono ?_
          rw [HHe.out]
          rintro en w10 ⟨_, rfl, rfl, hb⟩
          have HB := Lib.hid (baft HB.out hb)
          have HI := Lib.hid (HI.out.later hb)
          have H3 := Lib.hid (H3.out.later hb)
          have HX := Lib.hid (IsL.mono _ _ _ _ hb HX.out)
          have HY := Lib.hid (IsL.mono _ _ _ _ hb HY.out)
          have H5 := Lib.hid (H5.out.later hb)
          clear hb k0 k1 k2 j0 j1 hl hl2 hl3
          cases h with
          | false =>
            go_wp2
            go_ret
            exact ⟨rfl, HB.out⟩
          | true =>
            obtain ⟨k0, k1, k2⟩ := H3.out.cells
            have HBo := Lib.hid HB.out
            have hb := bnew w10 (.cells #[.bool s, .slice A X.length c, .slice B Y.length d] 35)
            have H8 := Lib.hid (Box3.new w10 (.bool s) (.slice A X.length c) (.slice B Y.length d))
            have HB := Lib.hid (baft HB.out hb)
            have HI := Lib.hid (HI.out.later hb)
            have H3 := Lib.hid (H3.out.later hb)
            have HX := Lib.hid (IsL.mono _ _ _ _ hb HX.out)
            have HY := Lib.hid (IsL.mono _ _ _ _ hb HY.out)
            have H5 := Lib.hid (H5.out.later hb)
            clear hb
            go_upto_region 17 with fail
            obtain ⟨w11, hw11⟩ : ∃ w11, w10.alloc (.cells #[.bool s, .slice A X.length c, .slice B Y.length d] 35) = w11 := ⟨_, rfl⟩
            rw [hw11] at HB HI H3 HX HY H5 H8 ⊢
            have hge := Lib.hid HBo.out.size
            clear hw11 k0 k1 k2 HBo
            obtain ⟨r8, hr8⟩ : ∃ r8, w10.heap.size = r8 := ⟨_, rfl⟩
            rw [hr8] at H8 hge ⊢
            clear hr8
            obtain ⟨m0, m1, m2⟩ := H8.out.cells
            have hSg := Lib.hid (fun W (hv : IsR s X Y (.agg #[.bool s, .slice A X.length c, .slice B Y.length d]) W) => rsgn_is hv (by have := HL.out; omega))
            obtain ⟨sg, hsg⟩ : ∃ sg, rsgn s (val X) = sg := ⟨_, rfl⟩
            have HSG := Lib.hid hsg
            clear hsg
            go_wp2_with fail
            refine (hSg.out _ ⟨_, _, rfl, HX.out, HY.out⟩).mono ?_
            rw [HSG.out]
            rintro en w12 ⟨_, rfl, rfl, hb⟩
            have H8 := Lib.hid (H8.out.later hb)
            have HB := Lib.hid (baft HB.out hb)
            have HI := Lib.hid (HI.out.later hb)
            have H3 := Lib.hid (H3.out.later hb)
            have HX := Lib.hid (IsL.mono _ _ _ _ hb HX.out)
            have HY := Lib.hid (IsL.mono _ _ _ _ hb HY.out)
            have H5 := Lib.hid (H5.out.later hb)
            clear hb m0 m1 m2
            by_cases hng : sg < 0
            · have hng2 : decide (sg < 0) = true := decide_eq_true hng
              have hst : s = true ∧ val X ≠ 0 := by
                have := HSG.out
                unfold rsgn at this
                by_cases h0 : val X = 0
                · rw [if_pos h0] at this; omega
                · rw [if_neg h0] at this; cases s
                  · simp at this; omega
                  · exact ⟨rfl, h0⟩
              have hNg := Lib.hid (fun W h h' => rneg_is s X Y (.slice A X.length c) (.slice B Y.length d) W h h' (by have := HL.out; omega) (by have := HL.out; omega))
              have hsf : (!s && decide (0 < X.length)) = false := by rw [hst.1]; rfl
              rw [hsf] at hNg
              have LX : (dig (val X)).length ≤ X.length := by have := wl_eq HX.out.words; have := wl_le X; omega
              have LY : (dig (val Y)).length ≤ Y.length := by have := wl_eq HY.out.words; have := wl_le Y; omega
              have HL2 := Lib.hid (show (dig (val X)).length ≤ 35184372088000 ∧ (dig (val Y)).length ≤ 35184372088000 by have := HL.out; omega)
              clear hsf hst LX LY
              obtain ⟨m0, m1, m2⟩ := H8.out.cells
              obtain ⟨f0, f1, f2⟩ := H8.out.frozen
              have hlt := H8.out.lt
              go_wp2_with fail
              refine (hNg.out _ HX.out HY.out).mono ?_
              rintro en w13 ⟨_, rfl, ⟨_, _, rfl, ⟨A3, c3, rfl, r3⟩, ⟨A4, c4, rfl, r4⟩⟩, hb⟩
              have H8 := Lib.hid (H8.out.later hb)
              have HX := Lib.hid (show IsL (dig (val X)) (.slice A3 (dig (val X)).length c3) w13 from ⟨A3, c3, rfl, r3⟩)
              have HY := Lib.hid (show IsL (dig (val Y)) (.slice A4 (dig (val Y)).length c4) w13 from ⟨A4, c4, rfl, r4⟩)
              have HB := Lib.hid (baft HB.out hb)
              clear hb r3 r4 m0 m1 m2 f0 f1 f2 hlt
              obtain ⟨m0, m1, m2⟩ := H8.out.cells
              obtain ⟨f0, f1, f2⟩ := H8.out.frozen
              have hlt := H8.out.lt
              go_upto_region 19 with fail
              obtain ⟨W2, hW2⟩ : ∃ W2, put3 w13 r8 (.bool false) (.slice A3 (dig (val X)).length c3) (.slice A4 (dig (val Y)).length c4) = W2 := ⟨_, rfl⟩
              have HX := Lib.hid (hW2 ▸ HX.out.put3 H8.out (.bool false) (.slice A3 (dig (val X)).length c3) (.slice A4 (dig (val Y)).length c4))
              have HY := Lib.hid (hW2 ▸ HY.out.put3 H8.out (.bool false) (.slice A3 (dig (val X)).length c3) (.slice A4 (dig (val Y)).length c4))
              have HB := Lib.hid (hW2 ▸ put3_below HB.out hge.out (.bool false) (.slice A3 (dig (val X)).length c3) (.slice A4 (dig (val Y)).length c4))
              have H8 := Lib.hid (hW2 ▸ H8.out.put3 (.bool false) (.slice A3 (dig (val X)).length c3) (.slice A4 (dig (val Y)).length c4))
              change Code.wp _ _ _ _ (put3 w13 r8 (.bool false) (.slice A3 (dig (val X)).length c3) (.slice A4 (dig (val Y)).length c4))
              rw [hW2]
              clear hW2 m0 m1 m2 f0 f1 f2 hlt
              have HT : Hid (sv false (val X) = (val X : Int)) := Lib.hid rfl
              obtain ⟨r1, hr1⟩ : ∃ r, rcmp (decide (9223372036854775808 < Lo)) (fbN Lo) (fbD Lo) false (val X) (val Y) = r := ⟨_, rfl⟩
              have HR1 := Lib.hid hr1
              have HR1b := Lib.hid (show r1 ≤ 0 by rw [← hr1]; exact HLr.out _ _ _ _ hdp.out HHe.out HT.out)
              clear hr1
              cases f with
              | false =>
                refine region_at 18 (Pick [IsV (.float .f64 Lo), IsQ (decide (9223372036854775808 < Lo)) (fbN (Lo)) (fbD (Lo)), IsV (.agg #[.bool false, .slice A3 (dig (val X)).length c3, .slice A4 (dig (val Y)).length c4]), IsV (.int .i64 r1), IsV (.bool true), IsV (.bool true), IsV (.float .f64 Hi), IsV (.bool false), IsV (.bool true), IsV (.bool true), IsV (undef), IsV (undef), IsV (undef), IsV (undef), IsV (undef), IsV (.bool true), IsV (.bool true), IsV (.bool true)]) (by kernel_rfl) (by kernel_rfl) (by kernel_rfl) (mono_pick ⟨IsV.mono _, IsQ.mono _ _ _, IsV.mono _, IsV.mono _, IsV.mono _, IsV.mono _, IsV.mono _, IsV.mono _, IsV.mono _, IsV.mono _, IsV.mono _, IsV.mono _, IsV.mono _, IsV.mono _, IsV.mono _, IsV.mono _, IsV.mono _, IsV.mono _, trivial⟩) ⟨?_, ?_, ?_, ?_, ?_, ?_, ?_, ?_, ?_, ?_, ?_, ?_, ?_, ?_, ?_, ?_, ?_, ?_, trivial⟩ ?_
                · intro a W hsz hb hS
                  have h6 : a.tmps.getD 6 undef = .float .f64 Lo := hS.1
                  clear hS hsz
                  refine will_of rfl ?_
                  intro K hK
                  go_simp
                  exact hK _ _ ⟨Below.refl _ _, rfl⟩
                · intro a W hsz hb hS
                  have h87 : a.tmps.getD 87 undef = .float .f64 Lo := hS.1
                  clear hS hsz
                  refine will_of rfl ?_
                  obtain ⟨m0, m1, m2⟩ := (H8.out.later hb).cells
                  intro K hK
                  go_simp
                  refine (number_is (b := Lo) (by have := HBd.out; (try unfold fneg); (try split) <;> omega)).mono ?_
                  rintro e W' ⟨v, rfl, hv, hb'⟩
                  exact hK _ _ ⟨hb', hv⟩
                · intro a W hsz hb hS
                  have h8 : a.tmps.getD 8 undef = .pointer (some ⟨r8, 0, none⟩) := hS.1
                  clear hS hsz
                  refine will_of rfl ?_
                  obtain ⟨m0, m1, m2⟩ := (H8.out.later hb).cells
                  intro K hK
                  go_simp
                  exact hK _ _ ⟨Below.refl _ _, rfl⟩
                · intro a W hsz hb hS
                  have q88 : IsQ (decide (9223372036854775808 < Lo)) (fbN (Lo)) (fbD (Lo)) (a.tmps.getD 88 undef) W := hS.1
                  have h89 : a.tmps.getD 89 undef = .agg #[.bool false, .slice A3 (dig (val X)).length c3, .slice A4 (dig (val Y)).length c4] := hS.2.1
                  clear hS hsz
                  obtain ⟨v88, h88⟩ : ∃ v, a.tmps.getD 88 undef = v := ⟨_, rfl⟩
                  rw [h88] at q88
                  refine will_of rfl ?_
                  obtain ⟨m0, m1, m2⟩ := (H8.out.later hb).cells
                  intro K hK
                  go_simp
                  have hq := rcmp_is q88 (show IsR false (dig (val X)) (dig (val Y)) (.agg #[.bool false, .slice A3 (dig (val X)).length c3, .slice A4 (dig (val Y)).length c4]) W from ⟨_, _, rfl, IsL.mono _ _ _ _ hb HX.out, IsL.mono _ _ _ _ hb HY.out⟩) (by have := HL2.out; have := fbN_len Lo; have := fbD_len Lo; omega) (by have := HL2.out; have := fbN_len Lo; have := fbD_len Lo; omega)
                  rw [val_dig, val_dig, val_dig, val_dig, HR1.out] at hq
                  (with_reducible refine hq.mono ?_)
                  rintro e W' ⟨_, rfl, rfl, hb'⟩
                  exact hK _ _ ⟨hb', rfl⟩
                · intro a W hsz hb hS
                  have h90 : a.tmps.getD 90 undef = .int .i64 r1 := hS.1
                  clear hS hsz
                  refine will_of rfl ?_
                  intro K hK
                  have hr := HR1b.out
                  go_simp
                  exact hK _ _ ⟨Below.refl _ _, rfl⟩
                · intro a W hsz hb hS
                  have h91 : a.tmps.getD 91 undef = .bool true := hS.1
                  clear hS hsz
                  refine will_of rfl ?_
                  intro K hK
                  go_simp
                  exact hK _ _ ⟨Below.refl _ _, rfl⟩
                · intro a W hsz hb hS
                  have h7 : a.tmps.getD 7 undef = .float .f64 Hi := hS.1
                  have h92 : a.tmps.getD 92 undef = .bool true := hS.2.1
                  clear hS hsz
                  refine will_yes rfl rfl h92 ?_
                  intro K hK
                  go_simp
                  exact hK _ _ ⟨Below.refl _ _, rfl⟩
                · intro a W hsz hb hS
                  have h93 : a.tmps.getD 93 undef = .float .f64 Hi := hS.1
                  have h92 : a.tmps.getD 92 undef = .bool true := hS.2.1
                  clear hS hsz
                  refine will_yes rfl rfl h92 ?_
                  obtain ⟨m0, m1, m2⟩ := (H8.out.later hb).cells
                  intro K hK
                  go_simp
                  have hq := HF2.out W
                  rw [HFe.out] at hq
                  (with_reducible refine hq.mono ?_)
                  rintro e W' ⟨_, rfl, rfl, hb'⟩
                  exact hK _ _ ⟨hb', rfl⟩
                · intro a W hsz hb hS
                  have h94 : a.tmps.getD 94 undef = .bool false := hS.1
                  have h92 : a.tmps.getD 92 undef = .bool true := hS.2.1
                  clear hS hsz
                  refine will_yes rfl rfl h92 ?_
                  intro K hK
                  go_simp
                  exact hK _ _ ⟨Below.refl _ _, rfl⟩
                · intro a W hsz hb hS
                  have h95 : a.tmps.getD 95 undef = .bool true := hS.1
                  have h92 : a.tmps.getD 92 undef = .bool true := hS.2.1
                  clear hS hsz
                  refine will_yes rfl rfl h92 ?_
                  intro K hK
                  go_simp
                  exact hK _ _ ⟨Below.refl _ _, rfl⟩
                · intro a W hsz hb hS
                  have h8 : a.tmps.getD 8 undef = .pointer (some ⟨r8, 0, none⟩) := hS.1
                  have h96 : a.tmps.getD 96 undef = .bool true := hS.2.1
                  clear hS hsz
                  exact will_no rfl rfl h96 ⟨Below.refl _ _, rfl⟩
                · intro a W hsz hb hS
                  have h7 : a.tmps.getD 7 undef = .float .f64 Hi := hS.1
                  have h96 : a.tmps.getD 96 undef = .bool true := hS.2.1
                  clear hS hsz
                  exact will_no rfl rfl h96 ⟨Below.refl _ _, rfl⟩
                · intro a W hsz hb hS
                  have h98 : a.tmps.getD 98 undef = undef := hS.1
                  have h96 : a.tmps.getD 96 undef = .bool true := hS.2.1
                  clear hS hsz
                  exact will_no rfl rfl h96 ⟨Below.refl _ _, rfl⟩
                · intro a W hsz hb hS
                  have h97 : a.tmps.getD 97 undef = undef := hS.1
                  have h99 : a.tmps.getD 99 undef = undef := hS.2.1
                  have h96 : a.tmps.getD 96 undef = .bool true := hS.2.2.1
                  clear hS hsz
                  exact will_no rfl rfl h96 ⟨Below.refl _ _, rfl⟩
                · intro a W hsz hb hS
                  have h100 : a.tmps.getD 100 undef = undef := hS.1
                  have h96 : a.tmps.getD 96 undef = .bool true := hS.2.1
                  clear hS hsz
                  exact will_no rfl rfl h96 ⟨Below.refl _ _, rfl⟩
                · intro a W hsz hb hS
                  have h96 : a.tmps.getD 96 undef = .bool true := hS.1
                  have h101 : a.tmps.getD 101 undef = undef := hS.2.1
                  have h92 : a.tmps.getD 92 undef = .bool true := hS.2.2.1
                  clear hS hsz
                  refine will_yes rfl rfl h92 ?_
                  intro K hK
                  go_simp
                  exact hK _ _ ⟨Below.refl _ _, rfl⟩
                · intro a W hsz hb hS
                  have h92 : a.tmps.getD 92 undef = .bool true := hS.1
                  have h102 : a.tmps.getD 102 undef = .bool true := hS.2.1
                  clear hS hsz
                  refine will_of rfl ?_
                  intro K hK
                  go_simp
                  exact hK _ _ ⟨Below.refl _ _, rfl⟩
                · intro a W hsz hb hS
                  have h103 : a.tmps.getD 103 undef = .bool true := hS.1
                  clear hS hsz
                  refine will_of rfl ?_
                  intro K hK
                  go_simp
                  exact hK _ _ ⟨Below.refl _ _, rfl⟩
                intro f W hb hH
                have e0 : f 0 = .float .f64 Lo := hH.1
                obtain ⟨x1, y1⟩ : ∃ x, f 1 = x := ⟨_, rfl⟩
                have q1 : IsQ (decide (9223372036854775808 < Lo)) (fbN (Lo)) (fbD (Lo)) (f 1) W := hH.2.1
                rw [y1] at q1
                have e2 : f 2 = .agg #[.bool false, .slice A3 (dig (val X)).length c3, .slice A4 (dig (val Y)).length c4] := hH.2.2.1
                have e3 : f 3 = .int .i64 r1 := hH.2.2.2.1
                have e4 : f 4 = .bool true := hH.2.2.2.2.1
                have e5 : f 5 = .bool true := hH.2.2.2.2.2.1
                have e6 : f 6 = .float .f64 Hi := hH.2.2.2.2.2.2.1
                have e7 : f 7 = .bool false := hH.2.2.2.2.2.2.2.1
                have e8 : f 8 = .bool true := hH.2.2.2.2.2.2.2.2.1
                have e9 : f 9 = .bool true := hH.2.2.2.2.2.2.2.2.2.1
                have e10 : f 10 = undef := hH.2.2.2.2.2.2.2.2.2.2.1
                have e11 : f 11 = undef := hH.2.2.2.2.2.2.2.2.2.2.2.1
                have e12 : f 12 = undef := hH.2.2.2.2.2.2.2.2.2.2.2.2.1
                have e13 : f 13 = undef := hH.2.2.2.2.2.2.2.2.2.2.2.2.2.1
                have e14 : f 14 = undef := hH.2.2.2.2.2.2.2.2.2.2.2.2.2.2.1
                have e15 : f 15 = .bool true := hH.2.2.2.2.2.2.2.2.2.2.2.2.2.2.2.1
                have e16 : f 16 = .bool true := hH.2.2.2.2.2.2.2.2.2.2.2.2.2.2.2.2.1
                have e17 : f 17 = .bool true := hH.2.2.2.2.2.2.2.2.2.2.2.2.2.2.2.2.2.1
                simp only [List.take_succ_cons, List.take_zero, List.drop_succ_cons, List.drop_zero, putFrom, Act.put, List.setIfInBounds_toArray, List.set_cons_zero, List.set_cons_succ, Nat.reduceAdd, e0, y1, e2, e3, e4, e5, e6, e7, e8, e9, e10, e11, e12, e13, e14, e15, e16, e17]
                clear e0 y1 e2 e3 e4 e5 e6 e7 e8 e9 e10 e11 e12 e13 e14 e15 e16 e17 hH f
                clear q1
                have HW := Lib.hid (baft HB.out hb)
                clear hb
                go_wp2
                go_ret
                exact ⟨rfl, HW.out⟩
              | true =>
                obtain ⟨r2, hr2⟩ : ∃ r, rcmp false (val X) (val Y) (decide (9223372036854775808 < Hi)) (fbN Hi) (fbD Hi) = r := ⟨_, rfl⟩
                have HR2 := Lib.hid hr2
                have HR2b := Lib.hid (show r2 ≤ 0 by rw [← hr2]; exact HHr.out (of_decide_eq_true HFe.out) _ _ _ _ hdp.out HHe.out HT.out)
                clear hr2
                refine region_at 18 (Pick [IsV (.float .f64 Lo), IsQ (decide (9223372036854775808 < Lo)) (fbN (Lo)) (fbD (Lo)), IsV (.agg #[.bool false, .slice A3 (dig (val X)).length c3, .slice A4 (dig (val Y)).length c4]), IsV (.int .i64 r1), IsV (.bool true), IsV (.bool true), IsV (.float .f64 Hi), IsV (.bool true), IsV (.bool false), IsV (.bool false), IsV (.agg #[.bool false, .slice A3 (dig (val X)).length c3, .slice A4 (dig (val Y)).length c4]), IsV (.float .f64 Hi), IsQ (decide (9223372036854775808 < Hi)) (fbN (Hi)) (fbD (Hi)), IsV (.int .i64 r2), IsV (.bool true), IsV (.bool true), IsV (.bool true), IsV (.bool true)]) (by kernel_rfl) (by kernel_rfl) (by kernel_rfl) (mono_pick ⟨IsV.mono _, IsQ.mono _ _ _, IsV.mono _, IsV.mono _, IsV.mono _, IsV.mono _, IsV.mono _, IsV.mono _, IsV.mono _, IsV.mono _, IsV.mono _, IsV.mono _, IsQ.mono _ _ _, IsV.mono _, IsV.mono _, IsV.mono _, IsV.mono _, IsV.mono _, trivial⟩) ⟨?_, ?_, ?_, ?_, ?_, ?_, ?_, ?_, ?_, ?_, ?_, ?_, ?_, ?_, ?_, ?_, ?_, ?_, trivial⟩ ?_
                · intro a W hsz hb hS
                  have h6 : a.tmps.getD 6 undef = .float .f64 Lo := hS.1
                  clear hS hsz
                  refine will_of rfl ?_
                  intro K hK
                  go_simp
                  exact hK _ _ ⟨Below.refl _ _, rfl⟩
                · intro a W hsz hb hS
                  have h87 : a.tmps.getD 87 undef = .float .f64 Lo := hS.1
                  clear hS hsz
                  refine will_of rfl ?_
                  obtain ⟨m0, m1, m2⟩ := (H8.out.later hb).cells
                  intro K hK
                  go_simp
                  refine (number_is (b := Lo) (by have := HBd.out; (try unfold fneg); (try split) <;> omega)).mono ?_
                  rintro e W' ⟨v, rfl, hv, hb'⟩
                  exact hK _ _ ⟨hb', hv⟩
                · intro a W hsz hb hS
                  have h8 : a.tmps.getD 8 undef = .pointer (some ⟨r8, 0, none⟩) := hS.1
                  clear hS hsz
                  refine will_of rfl ?_
                  obtain ⟨m0, m1, m2⟩ := (H8.out.later hb).cells
                  intro K hK
                  go_simp
                  exact hK _ _ ⟨Below.refl _ _, rfl⟩
                · intro a W hsz hb hS
                  have q88 : IsQ (decide (9223372036854775808 < Lo)) (fbN (Lo)) (fbD (Lo)) (a.tmps.getD 88 undef) W := hS.1
                  have h89 : a.tmps.getD 89 undef = .agg #[.bool false, .slice A3 (dig (val X)).length c3, .slice A4 (dig (val Y)).length c4] := hS.2.1
                  clear hS hsz
                  obtain ⟨v88, h88⟩ : ∃ v, a.tmps.getD 88 undef = v := ⟨_, rfl⟩
                  rw [h88] at q88
                  refine will_of rfl ?_
                  obtain ⟨m0, m1, m2⟩ := (H8.out.later hb).cells
                  intro K hK
                  go_simp
                  have hq := rcmp_is q88 (show IsR false (dig (val X)) (dig (val Y)) (.agg #[.bool false, .slice A3 (dig (val X)).length c3, .slice A4 (dig (val Y)).length c4]) W from ⟨_, _, rfl, IsL.mono _ _ _ _ hb HX.out, IsL.mono _ _ _ _ hb HY.out⟩) (by have := HL2.out; have := fbN_len Lo; have := fbD_len Lo; omega) (by have := HL2.out; have := fbN_len Lo; have := fbD_len Lo; omega)
                  rw [val_dig, val_dig, val_dig, val_dig, HR1.out] at hq
                  (with_reducible refine hq.mono ?_)
                  rintro e W' ⟨_, rfl, rfl, hb'⟩
                  exact hK _ _ ⟨hb', rfl⟩
                · intro a W hsz hb hS
                  have h90 : a.tmps.getD 90 undef = .int .i64 r1 := hS.1
                  clear hS hsz
                  refine will_of rfl ?_
                  intro K hK
                  have hr := HR1b.out
                  go_simp
                  exact hK _ _ ⟨Below.refl _ _, rfl⟩
                · intro a W hsz hb hS
                  have h91 : a.tmps.getD 91 undef = .bool true := hS.1
                  clear hS hsz
                  refine will_of rfl ?_
                  intro K hK
                  go_simp
                  exact hK _ _ ⟨Below.refl _ _, rfl⟩
                · intro a W hsz hb hS
                  have h7 : a.tmps.getD 7 undef = .float .f64 Hi := hS.1
                  have h92 : a.tmps.getD 92 undef = .bool true := hS.2.1
                  clear hS hsz
                  refine will_yes rfl rfl h92 ?_
                  intro K hK
                  go_simp
                  exact hK _ _ ⟨Below.refl _ _, rfl⟩
                · intro a W hsz hb hS
                  have h93 : a.tmps.getD 93 undef = .float .f64 Hi := hS.1
                  have h92 : a.tmps.getD 92 undef = .bool true := hS.2.1
                  clear hS hsz
                  refine will_yes rfl rfl h92 ?_
                  obtain ⟨m0, m1, m2⟩ := (H8.out.later hb).cells
                  intro K hK
                  go_simp
                  have hq := HF2.out W
                  rw [HFe.out] at hq
                  (with_reducible refine hq.mono ?_)
                  rintro e W' ⟨_, rfl, rfl, hb'⟩
                  exact hK _ _ ⟨hb', rfl⟩
                · intro a W hsz hb hS
                  have h94 : a.tmps.getD 94 undef = .bool true := hS.1
                  have h92 : a.tmps.getD 92 undef = .bool true := hS.2.1
                  clear hS hsz
                  refine will_yes rfl rfl h92 ?_
                  intro K hK
                  go_simp
                  exact hK _ _ ⟨Below.refl _ _, rfl⟩
                · intro a W hsz hb hS
                  have h95 : a.tmps.getD 95 undef = .bool false := hS.1
                  have h92 : a.tmps.getD 92 undef = .bool true := hS.2.1
                  clear hS hsz
                  refine will_yes rfl rfl h92 ?_
                  intro K hK
                  go_simp
                  exact hK _ _ ⟨Below.refl _ _, rfl⟩
                · intro a W hsz hb hS
                  have h8 : a.tmps.getD 8 undef = .pointer (some ⟨r8, 0, none⟩) := hS.1
                  have h96 : a.tmps.getD 96 undef = .bool false := hS.2.1
                  clear hS hsz
                  refine will_yes rfl rfl h96 ?_
                  obtain ⟨m0, m1, m2⟩ := (H8.out.later hb).cells
                  intro K hK
                  go_simp
                  exact hK _ _ ⟨Below.refl _ _, rfl⟩
                · intro a W hsz hb hS
                  have h7 : a.tmps.getD 7 undef = .float .f64 Hi := hS.1
                  have h96 : a.tmps.getD 96 undef = .bool false := hS.2.1
                  clear hS hsz
                  refine will_yes rfl rfl h96 ?_
                  intro K hK
                  go_simp
                  exact hK _ _ ⟨Below.refl _ _, rfl⟩
                · intro a W hsz hb hS
                  have h98 : a.tmps.getD 98 undef = .float .f64 Hi := hS.1
                  have h96 : a.tmps.getD 96 undef = .bool false := hS.2.1
                  clear hS hsz
                  refine will_yes rfl rfl h96 ?_
                  obtain ⟨m0, m1, m2⟩ := (H8.out.later hb).cells
                  intro K hK
                  go_simp
                  refine (number_is (b := Hi) (by have := HBd.out; (try unfold fneg); (try split) <;> omega)).mono ?_
                  rintro e W' ⟨v, rfl, hv, hb'⟩
                  exact hK _ _ ⟨hb', hv⟩
                · intro a W hsz hb hS
                  have h97 : a.tmps.getD 97 undef = .agg #[.bool false, .slice A3 (dig (val X)).length c3, .slice A4 (dig (val Y)).length c4] := hS.1
                  have q99 : IsQ (decide (9223372036854775808 < Hi)) (fbN (Hi)) (fbD (Hi)) (a.tmps.getD 99 undef) W := hS.2.1
                  have h96 : a.tmps.getD 96 undef = .bool false := hS.2.2.1
                  clear hS hsz
                  obtain ⟨v99, h99⟩ : ∃ v, a.tmps.getD 99 undef = v := ⟨_, rfl⟩
                  rw [h99] at q99
                  refine will_yes rfl rfl h96 ?_
                  obtain ⟨m0, m1, m2⟩ := (H8.out.later hb).cells
                  intro K hK
                  go_simp
                  have hq := rcmp_is (show IsR false (dig (val X)) (dig (val Y)) (.agg #[.bool false, .slice A3 (dig (val X)).length c3, .slice A4 (dig (val Y)).length c4]) W from ⟨_, _, rfl, IsL.mono _ _ _ _ hb HX.out, IsL.mono _ _ _ _ hb HY.out⟩) q99 (by have := HL2.out; have := fbN_len Hi; have := fbD_len Hi; omega) (by have := HL2.out; have := fbN_len Hi; have := fbD_len Hi; omega)
                  rw [val_dig, val_dig, val_dig, val_dig, HR2.out] at hq
                  (with_reducible refine hq.mono ?_)
                  rintro e W' ⟨_, rfl, rfl, hb'⟩
                  exact hK _ _ ⟨hb', rfl⟩
                · intro a W hsz hb hS
                  have h100 : a.tmps.getD 100 undef = .int .i64 r2 := hS.1
                  have h96 : a.tmps.getD 96 undef = .bool false := hS.2.1
                  clear hS hsz
                  refine will_yes rfl rfl h96 ?_
                  intro K hK
                  have hr := HR2b.out
                  go_simp
                  exact hK _ _ ⟨Below.refl _ _, rfl⟩
                · intro a W hsz hb hS
                  have h96 : a.tmps.getD 96 undef = .bool false := hS.1
                  have h101 : a.tmps.getD 101 undef = .bool true := hS.2.1
                  have h92 : a.tmps.getD 92 undef = .bool true := hS.2.2.1
                  clear hS hsz
                  refine will_yes rfl rfl h92 ?_
                  intro K hK
                  go_simp
                  exact hK _ _ ⟨Below.refl _ _, rfl⟩
                · intro a W hsz hb hS
                  have h92 : a.tmps.getD 92 undef = .bool true := hS.1
                  have h102 : a.tmps.getD 102 undef = .bool true := hS.2.1
                  clear hS hsz
                  refine will_of rfl ?_
                  intro K hK
                  go_simp
                  exact hK _ _ ⟨Below.refl _ _, rfl⟩
                · intro a W hsz hb hS
                  have h103 : a.tmps.getD 103 undef = .bool true := hS.1
                  clear hS hsz
                  refine will_of rfl ?_
                  intro K hK
                  go_simp
                  exact hK _ _ ⟨Below.refl _ _, rfl⟩
                intro f W hb hH
                have e0 : f 0 = .float .f64 Lo := hH.1
                obtain ⟨x1, y1⟩ : ∃ x, f 1 = x := ⟨_, rfl⟩
                have q1 : IsQ (decide (9223372036854775808 < Lo)) (fbN (Lo)) (fbD (Lo)) (f 1) W := hH.2.1
                rw [y1] at q1
                have e2 : f 2 = .agg #[.bool false, .slice A3 (dig (val X)).length c3, .slice A4 (dig (val Y)).length c4] := hH.2.2.1
                have e3 : f 3 = .int .i64 r1 := hH.2.2.2.1
                have e4 : f 4 = .bool true := hH.2.2.2.2.1
                have e5 : f 5 = .bool true := hH.2.2.2.2.2.1
                have e6 : f 6 = .float .f64 Hi := hH.2.2.2.2.2.2.1
                have e7 : f 7 = .bool true := hH.2.2.2.2.2.2.2.1
                have e8 : f 8 = .bool false := hH.2.2.2.2.2.2.2.2.1
                have e9 : f 9 = .bool false := hH.2.2.2.2.2.2.2.2.2.1
                have e10 : f 10 = .agg #[.bool false, .slice A3 (dig (val X)).length c3, .slice A4 (dig (val Y)).length c4] := hH.2.2.2.2.2.2.2.2.2.2.1
                have e11 : f 11 = .float .f64 Hi := hH.2.2.2.2.2.2.2.2.2.2.2.1
                obtain ⟨x12, y12⟩ : ∃ x, f 12 = x := ⟨_, rfl⟩
                have q12 : IsQ (decide (9223372036854775808 < Hi)) (fbN (Hi)) (fbD (Hi)) (f 12) W := hH.2.2.2.2.2.2.2.2.2.2.2.2.1
                rw [y12] at q12
                have e13 : f 13 = .int .i64 r2 := hH.2.2.2.2.2.2.2.2.2.2.2.2.2.1
                have e14 : f 14 = .bool true := hH.2.2.2.2.2.2.2.2.2.2.2.2.2.2.1
                have e15 : f 15 = .bool true := hH.2.2.2.2.2.2.2.2.2.2.2.2.2.2.2.1
                have e16 : f 16 = .bool true := hH.2.2.2.2.2.2.2.2.2.2.2.2.2.2.2.2.1
                have e17 : f 17 = .bool true := hH.2.2.2.2.2.2.2.2.2.2.2.2.2.2.2.2.2.1
                simp only [List.take_succ_cons, List.take_zero, List.drop_succ_cons, List.drop_zero, putFrom, Act.put, List.setIfInBounds_toArray, List.set_cons_zero, List.set_cons_succ, Nat.reduceAdd, e0, y1, e2, e3, e4, e5, e6, e7, e8, e9, e10, e11, y12, e13, e14, e15, e16, e17]
                clear e0 y1 e2 e3 e4 e5 e6 e7 e8 e9 e10 e11 y12 e13 e14 e15 e16 e17 hH f
                clear q1 q12
                have HW := Lib.hid (baft HB.out hb)
                clear hb
                go_wp2
                go_ret
                exact ⟨rfl, HW.out⟩
            · have hng2 : decide (sg < 0) = false := decide_eq_false hng
              have hst : sv s (val X) = (val X : Int) := by
                have := HSG.out
                unfold rsgn at this
                by_cases h0 : val X = 0
                · rw [h0]; unfold sv; cases s <;> rfl
                · rw [if_neg h0] at this; cases s
                  · rfl
                  · simp at this; omega
              have HT := Lib.hid hst
              clear hst
              go_upto_region 19 with fail
              obtain ⟨r1, hr1⟩ : ∃ r, rcmp (decide (9223372036854775808 < Lo)) (fbN Lo) (fbD Lo) s (val X) (val Y) = r := ⟨_, rfl⟩
              have HR1 := Lib.hid hr1
              have HR1b := Lib.hid (show r1 ≤ 0 by rw [← hr1]; exact HLr.out _ _ _ _ hdp.out HHe.out HT.out)
              clear hr1
              cases f with
              | false =>
                refine region_at 18 (Pick [IsV (.float .f64 Lo), IsQ (decide (9223372036854775808 < Lo)) (fbN (Lo)) (fbD (Lo)), IsV (.agg #[.bool s, .slice A X.length c, .slice B Y.length d]), IsV (.int .i64 r1), IsV (.bool true), IsV (.bool true), IsV (.float .f64 Hi), IsV (.bool false), IsV (.bool true), IsV (.bool true), IsV (undef), IsV (undef), IsV (undef), IsV (undef), IsV (undef), IsV (.bool true), IsV (.bool true), IsV (.bool true)]) (by kernel_rfl) (by kernel_rfl) (by kernel_rfl) (mono_pick ⟨IsV.mono _, IsQ.mono _ _ _, IsV.mono _, IsV.mono _, IsV.mono _, IsV.mono _, IsV.mono _, IsV.mono _, IsV.mono _, IsV.mono _, IsV.mono _, IsV.mono _, IsV.mono _, IsV.mono _, IsV.mono _, IsV.mono _, IsV.mono _, IsV.mono _, trivial⟩) ⟨?_, ?_, ?_, ?_, ?_, ?_, ?_, ?_, ?_, ?_, ?_, ?_, ?_, ?_, ?_, ?_, ?_, ?_, trivial⟩ ?_
                · intro a W hsz hb hS
                  have h6 : a.tmps.getD 6 undef = .float .f64 Lo := hS.1
                  clear hS hsz
                  refine will_of rfl ?_
                  intro K hK
                  go_simp
                  exact hK _ _ ⟨Below.refl _ _, rfl⟩
                · intro a W hsz hb hS
                  have h87 : a.tmps.getD 87 undef = .float .f64 Lo := hS.1
                  clear hS hsz
                  refine will_of rfl ?_
                  obtain ⟨m0, m1, m2⟩ := (H8.out.later hb).cells
                  intro K hK
                  go_simp
                  refine (number_is (b := Lo) (by have := HBd.out; (try unfold fneg); (try split) <;> omega)).mono ?_
                  rintro e W' ⟨v, rfl, hv, hb'⟩
                  exact hK _ _ ⟨hb', hv⟩
                · intro a W hsz hb hS
                  have h8 : a.tmps.getD 8 undef = .pointer (some ⟨r8, 0, none⟩) := hS.1
                  clear hS hsz
                  refine will_of rfl ?_
                  obtain ⟨m0, m1, m2⟩ := (H8.out.later hb).cells
                  intro K hK
                  go_simp
                  exact hK _ _ ⟨Below.refl _ _, rfl⟩
                · intro a W hsz hb hS
                  have q88 : IsQ (decide (9223372036854775808 < Lo)) (fbN (Lo)) (fbD (Lo)) (a.tmps.getD 88 undef) W := hS.1
                  have h89 : a.tmps.getD 89 undef = .agg #[.bool s, .slice A X.length c, .slice B Y.length d] := hS.2.1
                  clear hS hsz
                  obtain ⟨v88, h88⟩ : ∃ v, a.tmps.getD 88 undef = v := ⟨_, rfl⟩
                  rw [h88] at q88
                  refine will_of rfl ?_
                  obtain ⟨m0, m1, m2⟩ := (H8.out.later hb).cells
                  intro K hK
                  go_simp
                  have hq := rcmp_is q88 (show IsR s X Y (.agg #[.bool s, .slice A X.length c, .slice B Y.length d]) W from ⟨_, _, rfl, IsL.mono _ _ _ _ hb HX.out, IsL.mono _ _ _ _ hb HY.out⟩) (by have := HL.out; have := fbN_len Lo; have := fbD_len Lo; omega) (by have := HL.out; have := fbN_len Lo; have := fbD_len Lo; omega)
                  rw [val_dig, val_dig, HR1.out] at hq
                  (with_reducible refine hq.mono ?_)
                  rintro e W' ⟨_, rfl, rfl, hb'⟩
                  exact hK _ _ ⟨hb', rfl⟩
                · intro a W hsz hb hS
                  have h90 : a.tmps.getD 90 undef = .int .i64 r1 := hS.1
                  clear hS hsz
                  refine will_of rfl ?_
                  intro K hK
                  have hr := HR1b.out
                  go_simp
                  exact hK _ _ ⟨Below.refl _ _, rfl⟩
                · intro a W hsz hb hS
                  have h91 : a.tmps.getD 91 undef = .bool true := hS.1
                  clear hS hsz
                  refine will_of rfl ?_
                  intro K hK
                  go_simp
                  exact hK _ _ ⟨Below.refl _ _, rfl⟩
                · intro a W hsz hb hS
                  have h7 : a.tmps.getD 7 undef = .float .f64 Hi := hS.1
                  have h92 : a.tmps.getD 92 undef = .bool true := hS.2.1
                  clear hS hsz
                  refine will_yes rfl rfl h92 ?_
                  intro K hK
                  go_simp
                  exact hK _ _ ⟨Below.refl _ _, rfl⟩
                · intro a W hsz hb hS
                  have h93 : a.tmps.getD 93 undef = .float .f64 Hi := hS.1
                  have h92 : a.tmps.getD 92 undef = .bool true := hS.2.1
                  clear hS hsz
                  refine will_yes rfl rfl h92 ?_
                  obtain ⟨m0, m1, m2⟩ := (H8.out.later hb).cells
                  intro K hK
                  go_simp
                  have hq := HF2.out W
                  rw [HFe.out] at hq
                  (with_reducible refine hq.mono ?_)
                  rintro e W' ⟨_, rfl, rfl, hb'⟩
                  exact hK _ _ ⟨hb', rfl⟩
                · intro a W hsz hb hS
                  have h94 : a.tmps.getD 94 undef = .bool false := hS.1
                  have h92 : a.tmps.getD 92 undef = .bool true := hS.2.1
                  clear hS hsz
                  refine will_yes rfl rfl h92 ?_
                  intro K hK
                  go_simp
                  exact hK _ _ ⟨Below.refl _ _, rfl⟩
                · intro a W hsz hb hS
                  have h95 : a.tmps.getD 95 undef = .bool true := hS.1
                  have h92 : a.tmps.getD 92 undef = .bool true := hS.2.1
                  clear hS hsz
                  refine will_yes rfl rfl h92 ?_
                  intro K hK
                  go_simp
                  exact hK _ _ ⟨Below.refl _ _, rfl⟩
                · intro a W hsz hb hS
                  have h8 : a.tmps.getD 8 undef = .pointer (some ⟨r8, 0, none⟩) := hS.1
                  have h96 : a.tmps.getD 96 undef = .bool true := hS.2.1
                  clear hS hsz
                  exact will_no rfl rfl h96 ⟨Below.refl _ _, rfl⟩
                · intro a W hsz hb hS
                  have h7 : a.tmps.getD 7 undef = .float .f64 Hi := hS.1
                  have h96 : a.tmps.getD 96 undef = .bool true := hS.2.1
                  clear hS hsz
                  exact will_no rfl rfl h96 ⟨Below.refl _ _, rfl⟩
                · intro a W hsz hb hS
                  have h98 : a.tmps.getD 98 undef = undef := hS.1
                  have h96 : a.tmps.getD 96 undef = .bool true := hS.2.1
                  clear hS hsz
                  exact will_no rfl rfl h96 ⟨Below.refl _ _, rfl⟩
                · intro a W hsz hb hS
                  have h97 : a.tmps.getD 97 undef = undef := hS.1
                  have h99 : a.tmps.getD 99 undef = undef := hS.2.1
                  have h96 : a.tmps.getD 96 undef = .bool true := hS.2.2.1
                  clear hS hsz
                  exact will_no rfl rfl h96 ⟨Below.refl _ _, rfl⟩
                · intro a W hsz hb hS
                  have h100 : a.tmps.getD 100 undef = undef := hS.1
                  have h96 : a.tmps.getD 96 undef = .bool true := hS.2.1
                  clear hS hsz
                  exact will_no rfl rfl h96 ⟨Below.refl _ _, rfl⟩
                · intro a W hsz hb hS
                  have h96 : a.tmps.getD 96 undef = .bool true := hS.1
                  have h101 : a.tmps.getD 101 undef = undef := hS.2.1
                  have h92 : a.tmps.getD 92 undef = .bool true := hS.2.2.1
                  clear hS hsz
                  refine will_yes rfl rfl h92 ?_
                  intro K hK
                  go_simp
                  exact hK _ _ ⟨Below.refl _ _, rfl⟩
                · intro a W hsz hb hS
                  have h92 : a.tmps.getD 92 undef = .bool true := hS.1
                  have h102 : a.tmps.getD 102 undef = .bool true := hS.2.1
                  clear hS hsz
                  refine will_of rfl ?_
                  intro K hK
                  go_simp
                  exact hK _ _ ⟨Below.refl _ _, rfl⟩
                · intro a W hsz hb hS
                  have h103 : a.tmps.getD 103 undef = .bool true := hS.1
                  clear hS hsz
                  refine will_of rfl ?_
                  intro K hK
                  go_simp
                  exact hK _ _ ⟨Below.refl _ _, rfl⟩
                intro f W hb hH
                have e0 : f 0 = .float .f64 Lo := hH.1
                obtain ⟨x1, y1⟩ : ∃ x, f 1 = x := ⟨_, rfl⟩
                have q1 : IsQ (decide (9223372036854775808 < Lo)) (fbN (Lo)) (fbD (Lo)) (f 1) W := hH.2.1
                rw [y1] at q1
                have e2 : f 2 = .agg #[.bool s, .slice A X.length c, .slice B Y.length d] := hH.2.2.1
                have e3 : f 3 = .int .i64 r1 := hH.2.2.2.1
                have e4 : f 4 = .bool true := hH.2.2.2.2.1
                have e5 : f 5 = .bool true := hH.2.2.2.2.2.1
                have e6 : f 6 = .float .f64 Hi := hH.2.2.2.2.2.2.1
                have e7 : f 7 = .bool false := hH.2.2.2.2.2.2.2.1
                have e8 : f 8 = .bool true := hH.2.2.2.2.2.2.2.2.1
                have e9 : f 9 = .bool true := hH.2.2.2.2.2.2.2.2.2.1
                have e10 : f 10 = undef := hH.2.2.2.2.2.2.2.2.2.2.1
                have e11 : f 11 = undef := hH.2.2.2.2.2.2.2.2.2.2.2.1
                have e12 : f 12 = undef := hH.2.2.2.2.2.2.2.2.2.2.2.2.1
                have e13 : f 13 = undef := hH.2.2.2.2.2.2.2.2.2.2.2.2.2.1
                have e14 : f 14 = undef := hH.2.2.2.2.2.2.2.2.2.2.2.2.2.2.1
                have e15 : f 15 = .bool true := hH.2.2.2.2.2.2.2.2.2.2.2.2.2.2.2.1
                have e16 : f 16 = .bool true := hH.2.2.2.2.2.2.2.2.2.2.2.2.2.2.2.2.1
                have e17 : f 17 = .bool true := hH.2.2.2.2.2.2.2.2.2.2.2.2.2.2.2.2.2.1
                simp only [List.take_succ_cons, List.take_zero, List.drop_succ_cons, List.drop_zero, putFrom, Act.put, List.setIfInBounds_toArray, List.set_cons_zero, List.set_cons_succ, Nat.reduceAdd, e0, y1, e2, e3, e4, e5, e6, e7, e8, e9, e10, e11, e12, e13, e14, e15, e16, e17]
                clear e0 y1 e2 e3 e4 e5 e6 e7 e8 e9 e10 e11 e12 e13 e14 e15 e16 e17 hH f
                clear q1
                have HW := Lib.hid (baft HB.out hb)
                clear hb
                go_wp2
                go_ret
                exact ⟨rfl, HW.out⟩
              | true =>
                obtain ⟨r2, hr2⟩ : ∃ r, rcmp s (val X) (val Y) (decide (9223372036854775808 < Hi)) (fbN Hi) (fbD Hi) = r := ⟨_, rfl⟩
                have HR2 := Lib.hid hr2
                have HR2b := Lib.hid (show r2 ≤ 0 by rw [← hr2]; exact HHr.out (of_decide_eq_true HFe.out) _ _ _ _ hdp.out HHe.out HT.out)
                clear hr2
                refine region_at 18 (Pick [IsV (.float .f64 Lo), IsQ (decide (9223372036854775808 < Lo)) (fbN (Lo)) (fbD (Lo)), IsV (.agg #[.bool s, .slice A X.length c, .slice B Y.length d]), IsV (.int .i64 r1), IsV (.bool true), IsV (.bool true), IsV (.float .f64 Hi), IsV (.bool true), IsV (.bool false), IsV (.bool false), IsV (.agg #[.bool s, .slice A X.length c, .slice B Y.length d]), IsV (.float .f64 Hi), IsQ (decide (9223372036854775808 < Hi)) (fbN (Hi)) (fbD (Hi)), IsV (.int .i64 r2), IsV (.bool true), IsV (.bool true), IsV (.bool true), IsV (.bool true)]) (by kernel_rfl) (by kernel_rfl) (by kernel_rfl) (mono_pick ⟨IsV.mono _, IsQ.mono _ _ _, IsV.mono _, IsV.mono _, IsV.mono _, IsV.mono _, IsV.mono _, IsV.mono _, IsV.mono _, IsV.mono _, IsV.mono _, IsV.mono _, IsQ.mono _ _ _, IsV.mono _, IsV.mono _, IsV.mono _, IsV.mono _, IsV.mono _, trivial⟩) ⟨?_, ?_, ?_, ?_, ?_, ?_, ?_, ?_, ?_, ?_, ?_, ?_, ?_, ?_, ?_, ?_, ?_, ?_, trivial⟩ ?_
                · intro a W hsz hb hS
                  have h6 : a.tmps.getD 6 undef = .float .f64 Lo := hS.1
                  clear hS hsz
                  refine will_of rfl ?_
                  intro K hK
                  go_simp
                  exact hK _ _ ⟨Below.refl _ _, rfl⟩
                · intro a W hsz hb hS
                  have h87 : a.tmps.getD 87 undef = .float .f64 Lo := hS.1
                  clear hS hsz
                  refine will_of rfl ?_
                  obtain ⟨m0, m1, m2⟩ := (H8.out.later hb).cells
                  intro K hK
                  go_simp
                  refine (number_is (b := Lo) (by have := HBd.out; (try unfold fneg); (try split) <;> omega)).mono ?_
                  rintro e W' ⟨v, rfl, hv, hb'⟩
                  exact hK _ _ ⟨hb', hv⟩
                · intro a W hsz hb hS
                  have h8 : a.tmps.getD 8 undef = .pointer (some ⟨r8, 0, none⟩) := hS.1
                  clear hS hsz
                  refine will_of rfl ?_
                  obtain ⟨m0, m1, m2⟩ := (H8.out.later hb).cells
                  intro K hK
                  go_simp
                  exact hK _ _ ⟨Below.refl _ _, rfl⟩
                · intro a W hsz hb hS
                  have q88 : IsQ (decide (9223372036854775808 < Lo)) (fbN (Lo)) (fbD (Lo)) (a.tmps.getD 88 undef) W := hS.1
                  have h89 : a.tmps.getD 89 undef = .agg #[.bool s, .slice A X.length c, .slice B Y.length d] := hS.2.1
                  clear hS hsz
                  obtain ⟨v88, h88⟩ : ∃ v, a.tmps.getD 88 undef = v := ⟨_, rfl⟩
                  rw [h88] at q88
                  refine will_of rfl ?_
                  obtain ⟨m0, m1, m2⟩ := (H8.out.later hb).cells
                  intro K hK
                  go_simp
                  have hq := rcmp_is q88 (show IsR s X Y (.agg #[.bool s, .slice A X.length c, .slice B Y.length d]) W from ⟨_, _, rfl, IsL.mono _ _ _ _ hb HX.out, IsL.mono _ _ _ _ hb HY.out⟩) (by have := HL.out; have := fbN_len Lo; have := fbD_len Lo; omega) (by have := HL.out; have := fbN_len Lo; have := fbD_len Lo; omega)
                  rw [val_dig, val_dig, HR1.out] at hq
                  (with_reducible refine hq.mono ?_)
                  rintro e W' ⟨_, rfl, rfl, hb'⟩
                  exact hK _ _ ⟨hb', rfl⟩
                · intro a W hsz hb hS
                  have h90 : a.tmps.getD 90 undef = .int .i64 r1 := hS.1
                  clear hS hsz
                  refine will_of rfl ?_
                  intro K hK
                  have hr := HR1b.out
                  go_simp
                  exact hK _ _ ⟨Below.refl _ _, rfl⟩
                · intro a W hsz hb hS
                  have h91 : a.tmps.getD 91 undef = .bool true := hS.1
                  clear hS hsz
                  refine will_of rfl ?_
                  intro K hK
                  go_simp
                  exact hK _ _ ⟨Below.refl _ _, rfl⟩
                · intro a W hsz hb hS
                  have h7 : a.tmps.getD 7 undef = .float .f64 Hi := hS.1
                  have h92 : a.tmps.getD 92 undef = .bool true := hS.2.1
                  clear hS hsz
                  refine will_yes rfl rfl h92 ?_
                  intro K hK
                  go_simp
                  exact hK _ _ ⟨Below.refl _ _, rfl⟩
                · intro a W hsz hb hS
                  have h93 : a.tmps.getD 93 undef = .float .f64 Hi := hS.1
                  have h92 : a.tmps.getD 92 undef = .bool true := hS.2.1
                  clear hS hsz
                  refine will_yes rfl rfl h92 ?_
                  obtain ⟨m0, m1, m2⟩ := (H8.out.later hb).cells
                  intro K hK
                  go_simp
                  have hq := HF2.out W
                  rw [HFe.out] at hq
                  (with_reducible refine hq.mono ?_)
                  rintro e W' ⟨_, rfl, rfl, hb'⟩
                  exact hK _ _ ⟨hb', rfl⟩
                · intro a W hsz hb hS
                  have h94 : a.tmps.getD 94 undef = .bool true := hS.1
                  have h92 : a.tmps.getD 92 undef = .bool true := hS.2.1
                  clear hS hsz
                  refine will_yes rfl rfl h92 ?_
                  intro K hK
                  go_simp
                  exact hK _ _ ⟨Below.refl _ _, rfl⟩
                · intro a W hsz hb hS
                  have h95 : a.tmps.getD 95 undef = .bool false := hS.1
                  have h92 : a.tmps.getD 92 undef = .bool true := hS.2.1
                  clear hS hsz
                  refine will_yes rfl rfl h92 ?_
                  intro K hK
                  go_simp
                  exact hK _ _ ⟨Below.refl _ _, rfl⟩
                · intro a W hsz hb hS
                  have h8 : a.tmps.getD 8 undef = .pointer (some ⟨r8, 0, none⟩) := hS.1
                  have h96 : a.tmps.getD 96 undef = .bool false := hS.2.1
                  clear hS hsz
                  refine will_yes rfl rfl h96 ?_
                  obtain ⟨m0, m1, m2⟩ := (H8.out.later hb).cells
                  intro K hK
                  go_simp
                  exact hK _ _ ⟨Below.refl _ _, rfl⟩
                · intro a W hsz hb hS
                  have h7 : a.tmps.getD 7 undef = .float .f64 Hi := hS.1
                  have h96 : a.tmps.getD 96 undef = .bool false := hS.2.1
                  clear hS hsz
                  refine will_yes rfl rfl h96 ?_
                  intro K hK
                  go_simp
                  exact hK _ _ ⟨Below.refl _ _, rfl⟩
                · intro a W hsz hb hS
                  have h98 : a.tmps.getD 98 undef = .float .f64 Hi := hS.1
                  have h96 : a.tmps.getD 96 undef = .bool false := hS.2.1
                  clear hS hsz
                  refine will_yes rfl rfl h96 ?_
                  obtain ⟨m0, m1, m2⟩ := (H8.out.later hb).cells
                  intro K hK
                  go_simp
                  refine (number_is (b := Hi) (by have := HBd.out; (try unfold fneg); (try split) <;> omega)).mono ?_
                  rintro e W' ⟨v, rfl, hv, hb'⟩
                  exact hK _ _ ⟨hb', hv⟩
                · intro a W hsz hb hS
                  have h97 : a.tmps.getD 97 undef = .agg #[.bool s, .slice A X.length c, .slice B Y.length d] := hS.1
                  have q99 : IsQ (decide (9223372036854775808 < Hi)) (fbN (Hi)) (fbD (Hi)) (a.tmps.getD 99 undef) W := hS.2.1
                  have h96 : a.tmps.getD 96 undef = .bool false := hS.2.2.1
                  clear hS hsz
                  obtain ⟨v99, h99⟩ : ∃ v, a.tmps.getD 99 undef = v := ⟨_, rfl⟩
                  rw [h99] at q99
                  refine will_yes rfl rfl h96 ?_
                  obtain ⟨m0, m1, m2⟩ := (H8.out.later hb).cells
                  intro K hK
                  go_simp
                  have hq := rcmp_is (show IsR s X Y (.agg #[.bool s, .slice A X.length c, .slice B Y.length d]) W from ⟨_, _, rfl, IsL.mono _ _ _ _ hb HX.out, IsL.mono _ _ _ _ hb HY.out⟩) q99 (by have := HL.out; have := fbN_len Hi; have := fbD_len Hi; omega) (by have := HL.out; have := fbN_len Hi; have := fbD_len Hi; omega)
                  rw [val_dig, val_dig, HR2.out] at hq
                  (with_reducible refine hq.mono ?_)
                  rintro e W' ⟨_, rfl, rfl, hb'⟩
                  exact hK _ _ ⟨hb', rfl⟩
                · intro a W hsz hb hS
                  have h100 : a.tmps.getD 100 undef = .int .i64 r2 := hS.1
                  have h96 : a.tmps.getD 96 undef = .bool false := hS.2.1
                  clear hS hsz
                  refine will_yes rfl rfl h96 ?_
                  intro K hK
                  have hr := HR2b.out
                  go_simp
                  exact hK _ _ ⟨Below.refl _ _, rfl⟩
                · intro a W hsz hb hS
                  have h96 : a.tmps.getD 96 undef = .bool false := hS.1
                  have h101 : a.tmps.getD 101 undef = .bool true := hS.2.1
                  have h92 : a.tmps.getD 92 undef = .bool true := hS.2.2.1
                  clear hS hsz
                  refine will_yes rfl rfl h92 ?_
                  intro K hK
                  go_simp
                  exact hK _ _ ⟨Below.refl _ _, rfl⟩
                · intro a W hsz hb hS
                  have h92 : a.tmps.getD 92 undef = .bool true := hS.1
                  have h102 : a.tmps.getD 102 undef = .bool true := hS.2.1
                  clear hS hsz
                  refine will_of rfl ?_
                  intro K hK
                  go_simp
                  exact hK _ _ ⟨Below.refl _ _, rfl⟩
                · intro a W hsz hb hS
                  have h103 : a.tmps.getD 103 undef = .bool true := hS.1
                  clear hS hsz
                  refine will_of rfl ?_
                  intro K hK
                  go_simp
                  exact hK _ _ ⟨Below.refl _ _, rfl⟩
                intro f W hb hH
                have e0 : f 0 = .float .f64 Lo := hH.1
                obtain ⟨x1, y1⟩ : ∃ x, f 1 = x := ⟨_, rfl⟩
                have q1 : IsQ (decide (9223372036854775808 < Lo)) (fbN (Lo)) (fbD (Lo)) (f 1) W := hH.2.1
                rw [y1] at q1
                have e2 : f 2 = .agg #[.bool s, .slice A X.length c, .slice B Y.length d] := hH.2.2.1
                have e3 : f 3 = .int .i64 r1 := hH.2.2.2.1
                have e4 : f 4 = .bool true := hH.2.2.2.2.1
                have e5 : f 5 = .bool true := hH.2.2.2.2.2.1
                have e6 : f 6 = .float .f64 Hi := hH.2.2.2.2.2.2.1
                have e7 : f 7 = .bool true := hH.2.2.2.2.2.2.2.1
                have e8 : f 8 = .bool false := hH.2.2.2.2.2.2.2.2.1
                have e9 : f 9 = .bool false := hH.2.2.2.2.2.2.2.2.2.1
                have e10 : f 10 = .agg #[.bool s, .slice A X.length c, .slice B Y.length d] := hH.2.2.2.2.2.2.2.2.2.2.1
                have e11 : f 11 = .float .f64 Hi := hH.2.2.2.2.2.2.2.2.2.2.2.1
                obtain ⟨x12, y12⟩ : ∃ x, f 12 = x := ⟨_, rfl⟩
                have q12 : IsQ (decide (9223372036854775808 < Hi)) (fbN (Hi)) (fbD (Hi)) (f 12) W := hH.2.2.2.2.2.2.2.2.2.2.2.2.1
                rw [y12] at q12
                have e13 : f 13 = .int .i64 r2 := hH.2.2.2.2.2.2.2.2.2.2.2.2.2.1
                have e14 : f 14 = .bool true := hH.2.2.2.2.2.2.2.2.2.2.2.2.2.2.1
                have e15 : f 15 = .bool true := hH.2.2.2.2.2.2.2.2.2.2.2.2.2.2.2.1
                have e16 : f 16 = .bool true := hH.2.2.2.2.2.2.2.2.2.2.2.2.2.2.2.2.1
                have e17 : f 17 = .bool true := hH.2.2.2.2.2.2.2.2.2.2.2.2.2.2.2.2.2.1
                simp only [List.take_succ_cons, List.take_zero, List.drop_succ_cons, List.drop_zero, putFrom, Act.put, List.setIfInBounds_toArray, List.set_cons_zero, List.set_cons_succ, Nat.reduceAdd, e0, y1, e2, e3, e4, e5, e6, e7, e8, e9, e10, e11, y12, e13, e14, e15, e16, e17]
                clear e0 y1 e2 e3 e4 e5 e6 e7 e8 e9 e10 e11 y12 e13 e14 e15 e16 e17 hH f
                clear q1 q12
                have HW := Lib.hid (baft HB.out hb)
                clear hb
                go_wp2
                go_ret
                exact ⟨rfl, HW.out⟩
  · have e1 : flo x y = 9218868437227405312 := by rw [flo, if_neg hs]
    have e2 : fhi x y = 18442240474082181120 := by rw [fhi, if_neg hs]
    simp only [e1, e2] at HR
    have HR : Hid (∀ W, Calls Try.prog 24 #[.agg #[.int .u64 (x : Int), .int .u64 (y : Int)]] W fun e w' => e = .returned (.agg #[.int .u64 9218868437227405312, .int .u64 18442240474082181120]) ∧ Below W.heap.size W w') := Lib.hid HR.out
    clear e1 e2 hs hx hy
    go_enter Try.func5, Try.ntmps5
    go_wp2_with fail
    refine (HM0.out _).mono ?_
    rintro en w1 ⟨rfl, hb⟩
    have HB := Lib.hid (baft HB.out hb)
    have HI := Lib.hid (HI.out.later hb)
    have H3 := Lib.hid (H3.out.later hb)
    have HX := Lib.hid (IsL.mono _ _ _ _ hb HX.out)
    have HY := Lib.hid (IsL.mono _ _ _ _ hb HY.out)
    clear hb
    obtain ⟨i0, i1⟩ := HI.out.cells
    go_wp2_with fail
    refine (HR.out _).mono ?_
    rintro en w2 ⟨rfl, hb⟩
    have HB := Lib.hid (baft HB.out hb)
    have HI := Lib.hid (HI.out.later hb)
    have H3 := Lib.hid (H3.out.later hb)
    have HX := Lib.hid (IsL.mono _ _ _ _ hb HX.out)
    have HY := Lib.hid (IsL.mono _ _ _ _ hb HY.out)
    clear hb i0 i1
    have H5 := Lib.hid (BoxI.new w2 (.int .u64 9218868437227405312) (.int .u64 18442240474082181120))
    have hb := bnew w2 (.cells #[.int .u64 9218868437227405312, .int .u64 18442240474082181120] 24)
    have HB := Lib.hid (baft HB.out hb)
    have HI := Lib.hid (HI.out.later hb)
    have H3 := Lib.hid (H3.out.later hb)
    have HX := Lib.hid (IsL.mono _ _ _ _ hb HX.out)
    have HY := Lib.hid (IsL.mono _ _ _ _ hb HY.out)
    clear hb
    go_upto_region 4 with fail
    obtain ⟨w3, hw3⟩ : ∃ w3, w2.alloc (.cells #[.int .u64 9218868437227405312, .int .u64 18442240474082181120] 24) = w3 := ⟨_, rfl⟩
    rw [hw3] at HB HI H3 HX HY H5 ⊢
    refine region_at 3 (Pick [IsV (.agg #[.int .u64 9218868437227405312, .int .u64 18442240474082181120]), IsV (.agg #[.int .u64 9218868437227405312, .int .u64 18442240474082181120]), IsV (.bool true)]) (by kernel_rfl) (by kernel_rfl) (by kernel_rfl) (mono_pick ⟨IsV.mono _, IsV.mono _, IsV.mono _, trivial⟩) ⟨?_, ?_, ?_, trivial⟩ ?_
    · intro a W hsz hb hS
      have h5 : a.tmps.getD 5 undef = .pointer (some ⟨w2.heap.size, 0, none⟩) := hS.1
      clear hS hsz
      refine will_of rfl ?_
      obtain ⟨j0, j1⟩ := (H5.out.later hb).cells
      intro K hK
      go_simp
      exact hK _ _ ⟨Below.refl _ _, rfl⟩
    · intro a W hsz hb hS
      clear hS hsz
      refine will_of rfl ?_
      obtain ⟨j0, j1⟩ := (H5.out.later hb).cells
      intro K hK
      go_simp
      refine (empty6_any _).mono ?_
      rintro e W' ⟨rfl, hb'⟩
      exact hK _ _ ⟨hb', rfl⟩
    · intro a W hsz hb hS
      have h14 : a.tmps.getD 14 undef = .agg #[.int .u64 9218868437227405312, .int .u64 18442240474082181120] := hS.1
      have h15 : a.tmps.getD 15 undef = .agg #[.int .u64 9218868437227405312, .int .u64 18442240474082181120] := hS.2.1
      clear hS hsz
      refine will_of rfl ?_
      intro K hK
      go_simp
      exact hK _ _ ⟨Below.refl _ _, rfl⟩
    intro f W hb hH
    have e0 : f 0 = .agg #[.int .u64 9218868437227405312, .int .u64 18442240474082181120] := hH.1
    have e1 : f 1 = .agg #[.int .u64 9218868437227405312, .int .u64 18442240474082181120] := hH.2.1
    have e2 : f 2 = .bool true := hH.2.2.1
    simp only [List.take_succ_cons, List.take_zero, List.drop_succ_cons, List.drop_zero, putFrom, Act.put, List.setIfInBounds_toArray, List.set_cons_zero, List.set_cons_succ, Nat.reduceAdd, e0, e1, e2]
    clear e0 e1 e2 hH f
    have HB := Lib.hid (baft HB.out hb)
    have HI := Lib.hid (HI.out.later hb)
    have H3 := Lib.hid (H3.out.later hb)
    have HX := Lib.hid (IsL.mono _ _ _ _ hb HX.out)
    have HY := Lib.hid (IsL.mono _ _ _ _ hb HY.out)
    have H5 := Lib.hid (H5.out.later hb)
    clear hb
    go_wp2
    go_ret
    exact ⟨rfl, HB.out⟩
theorem reach_row (x y : Nat) (s : Bool) (A : Option Addr) (c : Nat) (X : List Nat) (B : Option Addr) (d : Nat) (Y : List Nat) (w : World) (hx : x < 18446744073709551616) (hy : y < 18446744073709551616) (ha : Rd w A X) (hb : Rd w B Y) (h1 : X.length ≤ 35184372088000) (h2 : Y.length ≤ 35184372088000) :
    Calls Try.prog 5 #[.agg #[.int .u64 (x : Int), .int .u64 (y : Int)], .agg #[.bool s, .slice A X.length c, .slice B Y.length d]] w fun e w' => e = .returned (.bool true) ∧ Below w.heap.size w w' := reach_any x y hx hy s A c X B d Y w ha hb h1 h2
end Go.Proofs.Ytmmbbkeefphaiaa
