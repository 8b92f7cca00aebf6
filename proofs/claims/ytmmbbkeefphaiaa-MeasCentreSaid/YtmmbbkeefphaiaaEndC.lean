/- vergeref6's Holds. -/
import Derived.Test.YtmmbbkeefphaiaaEndB
namespace Go.Proofs.Ytmmbbkeefphaiaa
set_option linter.unusedVariables false
set_option linter.unusedSimpArgs false
open Go.RowKit Verge

/-- Does an interval hold a rational number? -/
def fholds (x y : Nat) (s : Bool) (n d : Nat) : Bool :=
  decide (ecmp (bI (flo x y)) (bS (flo x y)) (bN (flo x y)) (bD (flo x y)) 0 s n d ≤ 0) && decide (ecmp 0 s n d (bI (fhi x y)) (bS (fhi x y)) (bN (fhi x y)) (bD (fhi x y)) ≤ 0)

set_option maxRecDepth 20000 in
set_option maxHeartbeats 8000000 in
/-- Holds: of ends that make an interval. -/
theorem holds_any (x y : Nat) (hx : x < 18446744073709551616) (hy : y < 18446744073709551616) (hs : fsound x y = true) (s : Bool) (A : Option Addr) (n c : Nat) (X : List Nat) (B : Option Addr) (m d : Nat) (Y : List Nat) (w : World)
    (h : Rd w A X) (hn : X.length = n) (k : Rd w B Y) (hm : Y.length = m) (h1 : n ≤ 35184372088600) (h2 : m ≤ 35184372088600) :
    Calls Try.prog 27 #[.agg #[.int .u64 (x : Int), .int .u64 (y : Int)], ratV s A n c B m d] w fun e w' => e = .returned (.bool (fholds x y s (val X) (val Y))) ∧ Below w.heap.size w w' := by
  have HO := Lib.hid (fun W => of_any x y hx hy hs W)
  have l1 := bN_len (flo x y)
  have l2 := bD_len (flo x y)
  have l3 := bN_len (fhi x y)
  have l4 := bD_len (fhi x y)
  unfold fholds
  obtain ⟨i, hi⟩ : ∃ i, bI (flo x y) = i := ⟨_, rfl⟩
  obtain ⟨p, hp⟩ : ∃ s, bS (flo x y) = s := ⟨_, rfl⟩
  obtain ⟨j, hj⟩ : ∃ j, bI (fhi x y) = j := ⟨_, rfl⟩
  obtain ⟨q, hq⟩ : ∃ t, bS (fhi x y) = t := ⟨_, rfl⟩
  obtain ⟨N, hN⟩ : ∃ N, bN (flo x y) = N := ⟨_, rfl⟩
  obtain ⟨D, hD⟩ : ∃ D, bD (flo x y) = D := ⟨_, rfl⟩
  obtain ⟨U, hU⟩ : ∃ U, bN (fhi x y) = U := ⟨_, rfl⟩
  obtain ⟨V, hV⟩ : ∃ V, bD (fhi x y) = V := ⟨_, rfl⟩
  simp only [hi, hp, hj, hq, hN, hD, hU, hV] at HO l1 l2 l3 l4 ⊢
  clear hi hp hj hq hN hD hU hV hx hy hs
  have HC1 := Lib.hid (fun W A1 c1 A2 c2 (a1 : Rd W A1 (dig N)) (a2 : Rd W A2 (dig D)) (a3 : Rd W A X) (a4 : Rd W B Y) => ecmp_any i 0 p A1 (dig N).length c1 (dig N) A2 (dig D).length c2 (dig D) s A n c X B m d Y W a1 rfl a2 rfl a3 hn a4 hm (by omega) (by omega))
  have HC2 := Lib.hid (fun W A1 c1 A2 c2 (a1 : Rd W A1 (dig U)) (a2 : Rd W A2 (dig V)) (a3 : Rd W A X) (a4 : Rd W B Y) => ecmp_any 0 j s A n c X B m d Y q A1 (dig U).length c1 (dig U) A2 (dig V).length c2 (dig V) W a3 hn a4 hm a1 rfl a2 rfl (by omega) (by omega))
  simp only [val_dig] at HC1 HC2
  have HX := Lib.hid (And.intro h k)
  have HB := Lib.hid (raft (rnew w (.cells #[.int .u64 (x : Int), .int .u64 (y : Int)] 24)) (rnew _ (.cells #[.bool s, .slice A n c, .slice B m d] 35)))
  have HV := Lib.hid (by
    have := Box3.new (w.alloc (.cells #[.int .u64 (x : Int), .int .u64 (y : Int)] 24)) (.bool s) (.slice A n c) (.slice B m d)
    rw [size_alloc1] at this
    exact this : Box3 ((w.alloc (.cells #[.int .u64 (x : Int), .int .u64 (y : Int)] 24)).alloc (.cells #[.bool s, .slice A n c, .slice B m d] 35)) (w.heap.size + 1) (.bool s) (.slice A n c) (.slice B m d))
  obtain ⟨z, hz⟩ : ∃ z, val X = z := ⟨_, rfl⟩
  obtain ⟨v, hv⟩ : ∃ v, val Y = v := ⟨_, rfl⟩
  simp only [hz, hv] at HC1 HC2 ⊢
  obtain ⟨r1, hr1⟩ : ∃ r, ecmp i p N D 0 s z v = r := ⟨_, rfl⟩
  obtain ⟨r2, hr2⟩ : ∃ r, ecmp 0 s z v j q U V = r := ⟨_, rfl⟩
  simp only [hr1] at HC1 ⊢
  simp only [hr2] at HC2 ⊢
  clear hz hv hr1 hr2 h k hn hm
  go_enter Try.func27, Try.ntmps27
  go_wp2_with fail
  refine (HO.out _).mono ?_
  rintro en w1 ⟨A1, c1, A2, c2, A3, c3, A4, c4, rfl, hR1, hR2, hR3, hR4, hb⟩
  obtain ⟨v0, v1, v2⟩ := (HV.out.later hb).cells
  have HV := Lib.hid (HV.out.later hb)
  have HW := Lib.hid (raft HB.out hb)
  have HR := Lib.hid (And.intro (And.intro hR1 hR2) (And.intro hR3 hR4))
  clear hb hR1 hR2 hR3 hR4
  have hzz := HV.out.lt
  go_upto_region 3 with fail
  have HV2 := Lib.hid (raft (rnew w1 (.cells #[.bool false, .int .i64 i, .bool p, .slice A1 (dig N).length c1, .slice A2 (dig D).length c2, .int .i64 j, .bool q, .slice A3 (dig U).length c3, .slice A4 (dig V).length c4] 70)) (rnew _ (.cells #[.int .i64 0, .bool s, .slice A n c, .slice B m d] 68)))
  have HS := Lib.hid ((Box9.new w1 (.bool false) (.int .i64 i) (.bool p) (.slice A1 (dig N).length c1) (.slice A2 (dig D).length c2) (.int .i64 j) (.bool q) (.slice A3 (dig U).length c3) (.slice A4 (dig V).length c4)).later (rnew _ (.cells #[.int .i64 0, .bool s, .slice A n c, .slice B m d] 68)))
  have HE : Hid (Box4 ((w1.alloc (.cells #[.bool false, .int .i64 i, .bool p, .slice A1 (dig N).length c1, .slice A2 (dig D).length c2, .int .i64 j, .bool q, .slice A3 (dig U).length c3, .slice A4 (dig V).length c4] 70)).alloc (.cells #[.int .i64 0, .bool s, .slice A n c, .slice B m d] 68)) (w1.heap.size + 1) (.int .i64 0) (.bool s) (.slice A n c) (.slice B m d)) := Lib.hid (by
    have := Box4.new (w1.alloc (.cells #[.bool false, .int .i64 i, .bool p, .slice A1 (dig N).length c1, .slice A2 (dig D).length c2, .int .i64 j, .bool q, .slice A3 (dig U).length c3, .slice A4 (dig V).length c4] 70)) (.int .i64 0) (.bool s) (.slice A n c) (.slice B m d)
    rw [size_alloc1] at this
    exact this)
  have HW2 := Lib.hid (raft HW.out HV2.out)
  by_cases hr1 : r1 ≤ 0
  · have HH := Lib.hid hr1
    go_wp2_with fail
    refine (HC1.out _ A1 c1 A2 c2 (HR.out.1.1.below HV2.out) (HR.out.1.2.below HV2.out) (HX.out.1.below HW2.out) (HX.out.2.below HW2.out)).mono ?_
    rintro en w2 ⟨rfl, hb⟩
    have HW2 := Lib.hid (raft HW2.out hb)
    obtain ⟨b0, b1, b2, b3, b4, b5, b6, b7, b8⟩ := (HS.out.later hb).cells
    obtain ⟨e0, e1, e2, e3, g0, g1, g2, g3⟩ := (HE.out.later hb).cells
    have HR2 := Lib.hid (And.intro (HR.out.2.1.below (raft HV2.out hb)) (HR.out.2.2.below (raft HV2.out hb)))
    clear hb
    go_wp2_with fail
    refine (HC2.out _ A3 c3 A4 c4 HR2.out.1 HR2.out.2 (HX.out.1.below HW2.out) (HX.out.2.below HW2.out)).mono ?_
    rintro en w3 ⟨rfl, hb⟩
    have HW3 := Lib.hid (raft HW2.out hb)
    clear hb
    go_wp2
    go_ret
    refine ⟨congrArg (fun b => Ending.returned (.bool b)) ?_, HW3.out⟩
    first | rfl | (rw [decide_eq_true HH.out, Bool.true_and])
  · have HH := Lib.hid hr1
    go_wp2_with fail
    refine (HC1.out _ A1 c1 A2 c2 (HR.out.1.1.below HV2.out) (HR.out.1.2.below HV2.out) (HX.out.1.below HW2.out) (HX.out.2.below HW2.out)).mono ?_
    rintro en w2 ⟨rfl, hb⟩
    have HW2 := Lib.hid (raft HW2.out hb)
    obtain ⟨b0, b1, b2, b3, b4, b5, b6, b7, b8⟩ := (HS.out.later hb).cells
    obtain ⟨e0, e1, e2, e3, g0, g1, g2, g3⟩ := (HE.out.later hb).cells
    clear hb
    go_wp2
    go_ret
    refine ⟨congrArg (fun b => Ending.returned (.bool b)) ?_, HW2.out⟩
    first | rfl | (rw [decide_eq_false (show ¬ r1 ≤ 0 by have := HH.out; omega), Bool.false_and])
end Go.Proofs.Ytmmbbkeefphaiaa
