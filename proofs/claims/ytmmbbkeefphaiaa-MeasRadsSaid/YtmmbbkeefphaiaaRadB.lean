/- Law 8: the document's radius; the law MeasRads. -/
import Derived.Test.YtmmbbkeefphaiaaRadA
namespace Go.Proofs.Ytmmbbkeefphaiaa
set_option linter.unusedVariables false
set_option linter.unusedSimpArgs false
open Go.RowKit Verge

theorem Array_size_alloc (w : World) (o : Obj) : (w.alloc o).heap.size = w.heap.size + 1 := Array.size_push ..
theorem put3_heap {w : World} {r k : Nat} (h : k ≠ r) (a b c : Value) : (put3 w r a b c).heap[k]? = w.heap[k]? := (setb' _ r 2 c k h).trans ((setb' _ r 1 b k h).trans (setb' _ r 0 a k h))
theorem Box3.far3 {w : World} {r k : Nat} {a b c : Value} (h : Box3 w k a b c) (hk : k ≠ r) (x y z : Value) : Box3 (put3 w r x y z) k a b c := (put3_heap hk x y z).trans h
/-- A box of two cells. -/
def BI (w : World) (r : Nat) (a b : Value) : Prop := w.heap[r]? = some (.cells #[a, b] 24)
theorem BI.new (w : World) (a b : Value) : BI (w.alloc (.cells #[a, b] 24)) w.heap.size a b := by
  show (w.heap.push _)[w.heap.size]? = _
  simp
theorem BI.lt {w : World} {r : Nat} {a b : Value} (h : BI w r a b) : r < w.heap.size := by
  by_cases hr : r < w.heap.size
  · exact hr
  · unfold BI at h; rw [Array.getElem?_eq_none (by omega)] at h; cases h
theorem BI.later {w w' : World} {r : Nat} {a b : Value} (h : BI w r a b) (hb : Below w.heap.size w w') : BI w' r a b := (hb.block r h.lt).trans h
theorem BI.cells {w : World} {r : Nat} {a b : Value} (h : BI w r a b) : w.cell? ⟨r, 0, none⟩ = some a ∧ w.cell? ⟨r, 1, none⟩ = some b := by
  unfold BI at h
  refine ⟨?_, ?_⟩ <;> simp [World.cell?, h]
theorem BI.far3 {w : World} {r k : Nat} {a b : Value} (h : BI w k a b) (hk : k ≠ r) (x y z : Value) : BI (put3 w r x y z) k a b := (put3_heap hk x y z).trans h
theorem icmp_UQ (a b : Int) : icmp (a * (UQ : Nat)) (b * (UQ : Nat)) = icmp a b := by
  have h : a * (UQ : Nat) < b * (UQ : Nat) ↔ a < b := ⟨fun e => Int.lt_of_mul_lt_mul_right e (by omega), fun e => Int.mul_lt_mul_of_pos_right e (by have := UQ_pos; omega)⟩
  have h2 : a * (UQ : Nat) = b * (UQ : Nat) ↔ a = b := ⟨fun e => Int.eq_of_mul_eq_mul_right (by have := UQ_pos; omega) e, fun e => by rw [e]⟩
  unfold icmp
  simp only [h, h2]

set_option maxRecDepth 20000 in
set_option maxHeartbeats 4000000 in
theorem greater_is {a b : Int} {k : Nat} {va vb : Value} {w : World} (ha : IsRV a UQ k va w) (hb : IsRV b UQ k vb w) (hk : k ≤ 8796093022000) : Calls Try.prog 84 #[va, vb] w (Ans w (IsRV (max a b) UQ k)) := by
  obtain ⟨s, A1, n1, c1, B1, m1, d1, rfl⟩ := ha.agg
  obtain ⟨t, A2, n2, c2, B2, m2, d2, rfl⟩ := hb.agg
  have HBl := Lib.hid (raft (raft (rnew w (.cells #[.bool s, .slice A1 n1 c1, .slice B1 m1 d1] 35)) (rnew _ (.cells #[.bool t, .slice A2 n2 c2, .slice B2 m2 d2] 35))) (rnew _ ratO))
  have X1 := Lib.hid (((Box3.new w (.bool s) (.slice A1 n1 c1) (.slice B1 m1 d1)).later (rnew _ (.cells #[.bool t, .slice A2 n2 c2, .slice B2 m2 d2] 35))).later (rnew _ ratO))
  have X2 := (Box3.new (w.alloc (.cells #[.bool s, .slice A1 n1 c1, .slice B1 m1 d1] 35)) (.bool t) (.slice A2 n2 c2) (.slice B2 m2 d2)).later (rnew _ ratO)
  rw [Array_size_alloc] at X2
  have X2 := Lib.hid X2
  have X3 := Box.new ((w.alloc (.cells #[.bool s, .slice A1 n1 c1, .slice B1 m1 d1] 35)).alloc (.cells #[.bool t, .slice A2 n2 c2, .slice B2 m2 d2] 35))
  rw [Array_size_alloc, Array_size_alloc] at X3
  have X3 := Lib.hid X3
  have Ha := Lib.hid (IsRV.mono _ _ _ _ _ _ HBl.out ha)
  have Hb := Lib.hid (IsRV.mono _ _ _ _ _ _ HBl.out hb)
  have HC := Lib.hid (rv_cmp Ha.out Hb.out hk hk)
  rw [icmp_UQ] at HC
  obtain ⟨g, hg⟩ : ∃ g, icmp a b = g := ⟨_, rfl⟩
  obtain ⟨lb, hlb⟩ : ∃ l, decide (a < b) = l := ⟨_, rfl⟩
  have hg2 : decide (g < 0) = lb := by
    rw [← hg, ← hlb]; unfold icmp
    by_cases h : a < b
    · rw [if_pos h]; simp [h]
    · rw [if_neg h]; by_cases h' : a = b <;> simp [h, h']
  have HL := Lib.hid hlb
  rw [hg] at HC
  clear hg hlb ha hb
  go_enter Try.func84, Try.ntmps84
  go_wp2_with fail
  refine (HC.out).mono ?_
  rintro en w1 ⟨_, rfl, rfl, hb1⟩
  have HW := Lib.hid (raft HBl.out hb1)
  have Y1 := Lib.hid (X1.out.later hb1); have Y2 := Lib.hid (X2.out.later hb1); have Y3 := Lib.hid (X3.out.later hb1)
  have Ja := Lib.hid (IsRV.mono _ _ _ _ _ _ hb1 Ha.out); have Jb := Lib.hid (IsRV.mono _ _ _ _ _ _ hb1 Hb.out)
  clear hb1 X1 X2 X3 Ha Hb HBl HC
  obtain ⟨p0, p1, p2⟩ := Y1.out.cells
  obtain ⟨q0, q1, q2⟩ := Y2.out.cells
  obtain ⟨o0, o1, o2, f0, f1, f2⟩ := Y3.out.cells
  have hz := Y3.out.lt
  cases lb
  · have he : max a b = a := Int.max_eq_left (by have := of_decide_eq_false HL.out; omega)
    have HEe := Lib.hid he
    have hle : w.heap.size ≤ w.heap.size + 1 + 1 := by omega
    clear he
    go_wp2_with fail
    refine bodyPost_ret (v := .agg #[.bool s, .slice A1 n1 c1, .slice B1 m1 d1]) (by simp [results, Try.results84, go_sem, o0, o1, o2, hz]) rfl ?_
    exact ⟨_, rfl, by rw [HEe.out]; exact Ja.out.put Y3.out (.bool s) (.slice A1 n1 c1) (.slice B1 m1 d1), put3_below HW.out hle (.bool s) (.slice A1 n1 c1) (.slice B1 m1 d1)⟩
  · have he : max a b = b := Int.max_eq_right (by have := of_decide_eq_true HL.out; omega)
    have HEe := Lib.hid he
    have hle : w.heap.size ≤ w.heap.size + 1 + 1 := by omega
    clear he
    go_wp2_with fail
    refine bodyPost_ret (v := .agg #[.bool t, .slice A2 n2 c2, .slice B2 m2 d2]) (by simp [results, Try.results84, go_sem, o0, o1, o2, hz]) rfl ?_
    exact ⟨_, rfl, by rw [HEe.out]; exact Jb.out.put Y3.out (.bool t) (.slice A2 n2 c2) (.slice B2 m2 d2), put3_below HW.out hle (.bool t) (.slice A2 n2 c2) (.slice B2 m2 d2)⟩

theorem pmid_lt' (p q : Nat) : pmid p q < 18446744073709551616 := pmid_lt p q
set_option maxRecDepth 20000 in
set_option maxHeartbeats 16000000 in
theorem rrad_any (x y : Nat) (hx : x < 18446744073709551616) (hy : y < 18446744073709551616) (w : World) : Calls Try.prog 42 #[.agg #[.int .u64 (x : Int), .int .u64 (y : Int)]] w fun e w' => e = .returned (.int .u64 (frad x y : Nat)) ∧ Below w.heap.size w w' := by
  have HR := Lib.hid (fun W => read6_any x y hx hy W)
  have HB := Lib.hid (fun o => bnew w o)
  unfold frad
  by_cases hs : fsound x y = true
  · rw [if_pos hs]
    have hE := Lib.hid (ends_of hx hy hs)
    have hWd := Lib.hid (fun W => wild_any (flo x y) (fhi x y) (flo_lt hx) (fhi_lt hy) W)
    rw [hE.out.wild] at hWd
    have hMd := Lib.hid (fun W => rmid_any (flo x y) (fhi x y) (flo_lt hx) (fhi_lt hy) W)
    rw [fmid_again hx hy, show fmid x y = pmid (flo x y) (fhi x y) by unfold fmid; rw [if_pos hs]] at hMd
    clear hs
    obtain ⟨p, hp⟩ : ∃ p, flo x y = p := ⟨_, rfl⟩
    obtain ⟨q, hq⟩ : ∃ q, fhi x y = q := ⟨_, rfl⟩
    simp only [hp, hq] at HR hE hWd hMd ⊢
    clear hp hq hx hy
    obtain ⟨R, hR⟩ : ∃ R, prad p q = R := ⟨_, rfl⟩
    rw [hR]
    have HS := Lib.hid hR
    have hml := pmid_lt p q
    obtain ⟨m, hm⟩ : ∃ m, pmid p q = m := ⟨_, rfl⟩
    rw [hm] at hMd hml
    have HML := Lib.hid hml
    have HMe := Lib.hid hm
    have hne : ¬ ((p : Int) = 9218868437227405312) := by have := hE.out.2.2.2.2.1; omega
    clear hR hml hm
    go_enter Try.func42, Try.ntmps42
    go_wp2_with fail
    refine (HR.out _).mono ?_
    rintro en w1 ⟨rfl, hb⟩
    have hb := Lib.hid (baft (HB.out _) hb)
    have hI := Lib.hid (BI.new w1 (.int .u64 (p : Int)) (.int .u64 (q : Int)))
    have HB2 := Lib.hid (baft hb.out (bnew w1 (.cells #[.int .u64 (p : Int), .int .u64 (q : Int)] 24)))
    clear hb HB
    go_upto_region 2 with fail
    refine region_at 3 (Pick [IsV (.agg #[.int .u64 (p : Int), .int .u64 (q : Int)]), IsV (.agg #[.int .u64 9218868437227405312, .int .u64 18442240474082181120]), IsV (.bool false)]) (by kernel_rfl) (by kernel_rfl) (by kernel_rfl) (mono_pick ⟨IsV.mono _, IsV.mono _, IsV.mono _, trivial⟩) ⟨?_, ?_, ?_, trivial⟩ ?_
    · intro a W hsz hb hS
      have h3 : a.tmps.getD 3 undef = .pointer (some ⟨w1.heap.size, 0, none⟩) := hS.1
      clear hS hsz
      refine will_of rfl ?_
      obtain ⟨d0, d1⟩ := (hI.out.later hb).cells
      intro K hK
      go_simp
      exact hK _ _ ⟨Below.refl _ _, rfl⟩
    · intro a W hsz hb hS
      clear hS hsz
      refine will_of rfl ?_
      obtain ⟨d0, d1⟩ := (hI.out.later hb).cells
      intro K hK
      go_simp
      refine (empty6_any _).mono ?_
      rintro e W' ⟨rfl, hb'⟩
      exact hK _ _ ⟨hb', rfl⟩
    · intro a W hsz hb hS
      have h9 : a.tmps.getD 9 undef = .agg #[.int .u64 (p : Int), .int .u64 (q : Int)] := hS.1
      have h10 : a.tmps.getD 10 undef = .agg #[.int .u64 9218868437227405312, .int .u64 18442240474082181120] := hS.2.1
      clear hS hsz
      refine will_of rfl ?_
      intro K hK
      go_simp
      exact hK _ _ ⟨Below.refl _ _, rfl⟩
    intro f W hb hH
    have e0 : f 0 = .agg #[.int .u64 (p : Int), .int .u64 (q : Int)] := hH.1
    have e1 : f 1 = .agg #[.int .u64 9218868437227405312, .int .u64 18442240474082181120] := hH.2.1
    have e2 : f 2 = .bool false := hH.2.2.1
    simp only [List.take_succ_cons, List.take_zero, List.drop_succ_cons, List.drop_zero, putFrom, Act.put, List.setIfInBounds_toArray, List.set_cons_zero, List.set_cons_succ, Nat.reduceAdd, e0, e1, e2]
    clear e0 e1 e2 hH f
    have hI := Lib.hid (hI.out.later hb)
    have HB2 := Lib.hid (baft HB2.out hb)
    clear hb
    obtain ⟨c0, c1⟩ := hI.out.cells
    clear hne
    go_wp2_with fail
    refine (hWd.out _).mono ?_
    rintro en w2 ⟨rfl, hb⟩
    have hI := Lib.hid (hI.out.later hb)
    have HB2 := Lib.hid (baft HB2.out hb)
    clear hb c0 c1
    obtain ⟨c0, c1⟩ := hI.out.cells
    cases hw : pwild p q
    · have hRR : Hid (upz (max (fv m - fv p) (fv q - fv m)) = R) := Lib.hid (by rw [← HS.out, ← HMe.out]; unfold prad; rw [if_neg (by rw [hw]; simp)])
      clear hw HS hWd HMe
      go_wp2_with fail
      refine (hMd.out _).mono ?_
      rintro en w3 ⟨rfl, hb⟩
      have hI := Lib.hid (hI.out.later hb)
      have HB2 := Lib.hid (baft HB2.out hb)
      clear hb c0 c1
      go_wp2_with fail
      refine (rvbits_is HML.out).mono ?_
      rintro en w4 ⟨v4, rfl, h4, hb⟩
      obtain ⟨s, A1, n1, k1, B1, m1, z1, rfl⟩ := h4.agg
      have hI4 := Lib.hid ((hI.out.later hb).later (rnew w4 (.cells #[.bool s, .slice A1 n1 k1, .slice B1 m1 z1] 35)))
      have HM4 := Lib.hid (Box3.new w4 (.bool s) (.slice A1 n1 k1) (.slice B1 m1 z1))
      have QM4 := Lib.hid (IsRV.mono _ _ _ _ _ _ (rnew w4 (.cells #[.bool s, .slice A1 n1 k1, .slice B1 m1 z1] 35)) h4)
      have HB4 := Lib.hid (raft (raft HB2.out hb) (rnew w4 (.cells #[.bool s, .slice A1 n1 k1, .slice B1 m1 z1] 35)))
      clear hb h4 hI HB2
      go_upto_region 7 with fail
      obtain ⟨R4, hR4⟩ : ∃ r, w4.heap.size = r := ⟨_, rfl⟩
      obtain ⟨W4, hW4⟩ : ∃ W, w4.alloc (.cells #[.bool s, .slice A1 n1 k1, .slice B1 m1 z1] 35) = W := ⟨_, rfl⟩
      rw [hR4, hW4] at HM4
      rw [hW4] at hI4 QM4 HB4
      rw [hR4, hW4]
      clear hR4 hW4
      refine region_at 6 (Pick [IsV (.agg #[.bool s, .slice A1 n1 k1, .slice B1 m1 z1]), IsV (.pointer (some ⟨w1.heap.size, 0, none⟩)), IsV (.int .u64 (p : Int)), IsRV (fv p) UQ 100, IsRV (fv m - fv p) UQ 201, IsBox W4.heap.size]) (by kernel_rfl) (by kernel_rfl) (by kernel_rfl) (mono_pick ⟨IsV.mono _, IsV.mono _, IsV.mono _, IsRV.mono _ _ _, IsRV.mono _ _ _, IsBox.mono _, trivial⟩) ⟨?_, ?_, ?_, ?_, ?_, ?_, trivial⟩ ?_
      · intro a W hsz hb hS
        have h4 : a.tmps.getD 4 undef = .pointer (some ⟨R4, 0, none⟩) := hS.1
        clear hS hsz
        refine will_of rfl ?_
        obtain ⟨d0, d1⟩ := (hI4.out.later hb).cells
        obtain ⟨t0, t1, t2⟩ := (HM4.out.later hb).cells
        intro K hK
        go_simp
        exact hK _ _ ⟨Below.refl _ _, rfl⟩
      · intro a W hsz hb hS
        have h3 : a.tmps.getD 3 undef = .pointer (some ⟨w1.heap.size, 0, none⟩) := hS.1
        clear hS hsz
        refine will_of rfl ?_
        intro K hK
        go_simp
        exact hK _ _ ⟨Below.refl _ _, rfl⟩
      · intro a W hsz hb hS
        have h18 : a.tmps.getD 18 undef = .pointer (some ⟨w1.heap.size, 0, none⟩) := hS.1
        clear hS hsz
        refine will_of rfl ?_
        obtain ⟨d0, d1⟩ := (hI4.out.later hb).cells
        obtain ⟨t0, t1, t2⟩ := (HM4.out.later hb).cells
        intro K hK
        go_simp
        exact hK _ _ ⟨Below.refl _ _, rfl⟩
      · intro a W hsz hb hS
        have h19 : a.tmps.getD 19 undef = .int .u64 (p : Int) := hS.1
        clear hS hsz
        refine will_of rfl ?_
        obtain ⟨d0, d1⟩ := (hI4.out.later hb).cells
        obtain ⟨t0, t1, t2⟩ := (HM4.out.later hb).cells
        intro K hK
        go_simp
        refine (rvbits_is hE.out.1).mono ?_
        rintro e W' ⟨v, rfl, hv, hb'⟩
        exact hK _ _ ⟨hb', hv⟩
      · intro a W hsz hb hS
        have h17 : a.tmps.getD 17 undef = .agg #[.bool s, .slice A1 n1 k1, .slice B1 m1 z1] := hS.1
        have q20 : IsRV (fv p) UQ 100 (a.tmps.getD 20 undef) W := hS.2.1
        clear hS hsz
        obtain ⟨v20, h20⟩ : ∃ v, a.tmps.getD 20 undef = v := ⟨_, rfl⟩
        rw [h20] at q20
        refine will_of rfl ?_
        obtain ⟨d0, d1⟩ := (hI4.out.later hb).cells
        obtain ⟨t0, t1, t2⟩ := (HM4.out.later hb).cells
        intro K hK
        go_simp
        refine (rvsub_is (IsRV.mono _ _ _ _ _ _ hb QM4.out) q20).mono ?_
        rintro e W' ⟨v, rfl, hv, hb'⟩
        exact hK _ _ ⟨hb', hv⟩
      · intro a W hsz hb hS
        clear hS hsz
        refine will_of rfl ?_
        intro K hK
        go_simp
        exact hK _ _ ⟨bnew _ _, _, rfl, Box.new _, hb.size⟩
      intro f W hb hH
      have e0 : f 0 = .agg #[.bool s, .slice A1 n1 k1, .slice B1 m1 z1] := hH.1
      have e1 : f 1 = .pointer (some ⟨w1.heap.size, 0, none⟩) := hH.2.1
      have e2 : f 2 = .int .u64 (p : Int) := hH.2.2.1
      obtain ⟨x3, y3⟩ : ∃ x, f 3 = x := ⟨_, rfl⟩
      have q3 : IsRV (fv p) UQ 100 (f 3) W := hH.2.2.2.1
      rw [y3] at q3
      obtain ⟨x4, y4⟩ : ∃ x, f 4 = x := ⟨_, rfl⟩
      have q4 : IsRV (fv m - fv p) UQ 201 (f 4) W := hH.2.2.2.2.1
      rw [y4] at q4
      obtain ⟨x5, y5⟩ : ∃ x, f 5 = x := ⟨_, rfl⟩
      have q5 : IsBox W4.heap.size (f 5) W := hH.2.2.2.2.2.1
      rw [y5] at q5
      simp only [List.take_succ_cons, List.take_zero, List.drop_succ_cons, List.drop_zero, putFrom, Act.put, List.setIfInBounds_toArray, List.set_cons_zero, List.set_cons_succ, Nat.reduceAdd, e0, e1, e2, y3, y4, y5]
      clear e0 e1 e2 y3 y4 y5 hH f
      clear q3
      obtain ⟨s5, A5, n5, c5, B5, m5, d5, rfl⟩ := q4.agg
      obtain ⟨r, rfl, hbox, hr⟩ := q5
      have hr' : w.heap.size ≤ r := Nat.le_trans HB4.out.size hr
      have hn3 : w1.heap.size ≠ r := by have := hI4.out.lt; omega
      have hn4 : R4 ≠ r := by have := HM4.out.lt; omega
      have hI5 := Lib.hid ((hI4.out.later hb).far3 hn3 (.bool s5) (.slice A5 n5 c5) (.slice B5 m5 d5))
      have HM5 := Lib.hid ((HM4.out.later hb).far3 hn4 (.bool s5) (.slice A5 n5 c5) (.slice B5 m5 d5))
      have QM5 := Lib.hid ((IsRV.mono _ _ _ _ _ _ hb QM4.out).put hbox (.bool s5) (.slice A5 n5 c5) (.slice B5 m5 d5))
      have HL5 := Lib.hid (Box3.put hbox (.bool s5) (.slice A5 n5 c5) (.slice B5 m5 d5))
      have QL5 := Lib.hid (q4.put hbox (.bool s5) (.slice A5 n5 c5) (.slice B5 m5 d5))
      have HB5 := Lib.hid (put3_below (raft HB4.out hb) hr' (.bool s5) (.slice A5 n5 c5) (.slice B5 m5 d5))
      obtain ⟨o0, o1, o2, g0, g1, g2⟩ := hbox.cells
      have hlt := hbox.lt
      clear q4 hb hr hr' hbox hn3 hn4 hI4 HM4 QM4 HB4
      go_upto_region 8 with fail
      obtain ⟨W5, hW5⟩ : ∃ W5, put3 W r (.bool s5) (.slice A5 n5 c5) (.slice B5 m5 d5) = W5 := ⟨_, rfl⟩
      rw [hW5] at hI5 HM5 QM5 HL5 QL5 HB5
      change Code.wp _ _ _ _ (put3 W r (.bool s5) (.slice A5 n5 c5) (.slice B5 m5 d5))
      rw [hW5]
      clear hW5 o0 o1 o2 g0 g1 g2 hlt
      obtain ⟨c0, c1⟩ := hI5.out.cells
      obtain ⟨j0, j1, j2⟩ := HM5.out.cells
      obtain ⟨l0, l1, l2⟩ := HL5.out.cells
      refine region_at 6 (Pick [IsV (.pointer (some ⟨w1.heap.size, 1, none⟩)), IsV (.int .u64 (q : Int)), IsRV (fv q) UQ 100, IsV (.agg #[.bool s, .slice A1 n1 k1, .slice B1 m1 z1]), IsRV (fv q - fv m) UQ 201, IsBox W5.heap.size]) (by kernel_rfl) (by kernel_rfl) (by kernel_rfl) (mono_pick ⟨IsV.mono _, IsV.mono _, IsRV.mono _ _ _, IsV.mono _, IsRV.mono _ _ _, IsBox.mono _, trivial⟩) ⟨?_, ?_, ?_, ?_, ?_, ?_, trivial⟩ ?_
      · intro a W hsz hb hS
        have h3 : a.tmps.getD 3 undef = .pointer (some ⟨w1.heap.size, 0, none⟩) := hS.1
        clear hS hsz
        refine will_of rfl ?_
        intro K hK
        go_simp
        exact hK _ _ ⟨Below.refl _ _, rfl⟩
      · intro a W hsz hb hS
        have h22 : a.tmps.getD 22 undef = .pointer (some ⟨w1.heap.size, 1, none⟩) := hS.1
        clear hS hsz
        refine will_of rfl ?_
        obtain ⟨d0, d1⟩ := (hI5.out.later hb).cells
        obtain ⟨t0, t1, t2⟩ := (HM5.out.later hb).cells
        intro K hK
        go_simp
        exact hK _ _ ⟨Below.refl _ _, rfl⟩
      · intro a W hsz hb hS
        have h23 : a.tmps.getD 23 undef = .int .u64 (q : Int) := hS.1
        clear hS hsz
        refine will_of rfl ?_
        obtain ⟨d0, d1⟩ := (hI5.out.later hb).cells
        obtain ⟨t0, t1, t2⟩ := (HM5.out.later hb).cells
        intro K hK
        go_simp
        refine (rvbits_is hE.out.2.1).mono ?_
        rintro e W' ⟨v, rfl, hv, hb'⟩
        exact hK _ _ ⟨hb', hv⟩
      · intro a W hsz hb hS
        have h4 : a.tmps.getD 4 undef = .pointer (some ⟨R4, 0, none⟩) := hS.1
        clear hS hsz
        refine will_of rfl ?_
        obtain ⟨d0, d1⟩ := (hI5.out.later hb).cells
        obtain ⟨t0, t1, t2⟩ := (HM5.out.later hb).cells
        intro K hK
        go_simp
        exact hK _ _ ⟨Below.refl _ _, rfl⟩
      · intro a W hsz hb hS
        have q24 : IsRV (fv q) UQ 100 (a.tmps.getD 24 undef) W := hS.1
        have h25 : a.tmps.getD 25 undef = .agg #[.bool s, .slice A1 n1 k1, .slice B1 m1 z1] := hS.2.1
        clear hS hsz
        obtain ⟨v24, h24⟩ : ∃ v, a.tmps.getD 24 undef = v := ⟨_, rfl⟩
        rw [h24] at q24
        refine will_of rfl ?_
        obtain ⟨d0, d1⟩ := (hI5.out.later hb).cells
        obtain ⟨t0, t1, t2⟩ := (HM5.out.later hb).cells
        intro K hK
        go_simp
        refine (rvsub_is q24 (IsRV.mono _ _ _ _ _ _ hb QM5.out)).mono ?_
        rintro e W' ⟨v, rfl, hv, hb'⟩
        exact hK _ _ ⟨hb', hv⟩
      · intro a W hsz hb hS
        clear hS hsz
        refine will_of rfl ?_
        intro K hK
        go_simp
        exact hK _ _ ⟨bnew _ _, _, rfl, Box.new _, hb.size⟩
      intro f W hb hH
      have e0 : f 0 = .pointer (some ⟨w1.heap.size, 1, none⟩) := hH.1
      have e1 : f 1 = .int .u64 (q : Int) := hH.2.1
      obtain ⟨x2, y2⟩ : ∃ x, f 2 = x := ⟨_, rfl⟩
      have q2 : IsRV (fv q) UQ 100 (f 2) W := hH.2.2.1
      rw [y2] at q2
      have e3 : f 3 = .agg #[.bool s, .slice A1 n1 k1, .slice B1 m1 z1] := hH.2.2.2.1
      obtain ⟨x4, y4⟩ : ∃ x, f 4 = x := ⟨_, rfl⟩
      have q4 : IsRV (fv q - fv m) UQ 201 (f 4) W := hH.2.2.2.2.1
      rw [y4] at q4
      obtain ⟨x5, y5⟩ : ∃ x, f 5 = x := ⟨_, rfl⟩
      have q5 : IsBox W5.heap.size (f 5) W := hH.2.2.2.2.2.1
      rw [y5] at q5
      simp only [List.take_succ_cons, List.take_zero, List.drop_succ_cons, List.drop_zero, putFrom, Act.put, List.setIfInBounds_toArray, List.set_cons_zero, List.set_cons_succ, Nat.reduceAdd, e0, e1, y2, e3, y4, y5]
      clear e0 e1 y2 e3 y4 y5 hH f
      clear q2 c0 c1 j0 j1 j2 l0 l1 l2
      obtain ⟨s6, A6, n6, c6, B6, m6, d6, rfl⟩ := q4.agg
      obtain ⟨r6, rfl, hbox, hr⟩ := q5
      have hr' : w.heap.size ≤ r6 := Nat.le_trans HB5.out.size hr
      have hn5 : r ≠ r6 := by have := HL5.out.lt; omega
      have HL6 := Lib.hid ((HL5.out.later hb).far3 hn5 (.bool s6) (.slice A6 n6 c6) (.slice B6 m6 d6))
      have QL6 := Lib.hid ((IsRV.mono _ _ _ _ _ _ hb QL5.out).put hbox (.bool s6) (.slice A6 n6 c6) (.slice B6 m6 d6))
      have HH6 := Lib.hid (Box3.put hbox (.bool s6) (.slice A6 n6 c6) (.slice B6 m6 d6))
      have QH6 := Lib.hid (q4.put hbox (.bool s6) (.slice A6 n6 c6) (.slice B6 m6 d6))
      have HB6 := Lib.hid (put3_below (raft HB5.out hb) hr' (.bool s6) (.slice A6 n6 c6) (.slice B6 m6 d6))
      obtain ⟨o0, o1, o2, g0, g1, g2⟩ := hbox.cells
      have hlt := hbox.lt
      clear q4 hb hr hr' hbox hn5 hI5 HM5 QM5 HB5 HL5 QL5
      go_upto_region 9 with fail
      obtain ⟨W6, hW6⟩ : ∃ W6, put3 W r6 (.bool s6) (.slice A6 n6 c6) (.slice B6 m6 d6) = W6 := ⟨_, rfl⟩
      rw [hW6] at HL6 QL6 HH6 QH6 HB6
      change Code.wp _ _ _ _ (put3 W r6 (.bool s6) (.slice A6 n6 c6) (.slice B6 m6 d6))
      rw [hW6]
      clear hW6 o0 o1 o2 g0 g1 g2 hlt
      obtain ⟨l0, l1, l2⟩ := HL6.out.cells
      obtain ⟨h0, h1, h2⟩ := HH6.out.cells
      go_wp2_with fail
      refine (greater_is QL6.out QH6.out (by omega)).mono ?_
      rintro en w7 ⟨v7, rfl, h7, hb7⟩
      have H7 := Lib.hid h7
      have HB7 := Lib.hid (raft HB6.out hb7)
      clear h7 hb7 l0 l1 l2 h0 h1 h2
      go_wp2_with fail
      have Hbt := Lib.hid (bitsup_is H7.out (by omega))
      rw [hRR.out] at Hbt
      refine (Hbt.out).mono ?_
      rintro en w8 ⟨_, rfl, rfl, hb8⟩
      have HB8 := Lib.hid (raft HB7.out hb8)
      clear hb8
      go_wp2
      go_ret
      exact ⟨rfl, HB8.out⟩
    · have hRR : R = 9218868437227405312 := by rw [← HS.out]; unfold prad; rw [if_pos hw]
      clear hw HS hWd HMe
      subst hRR
      go_wp2
      go_ret
      exact ⟨rfl, HB2.out⟩

  · rw [if_neg hs]
    have e1 : flo x y = 9218868437227405312 := by rw [flo, if_neg hs]
    have e2 : fhi x y = 18442240474082181120 := by rw [fhi, if_neg hs]
    simp only [e1, e2] at HR
    have HR : Hid (∀ W, Calls Try.prog 24 #[.agg #[.int .u64 (x : Int), .int .u64 (y : Int)]] W fun e w' => e = .returned (.agg #[.int .u64 9218868437227405312, .int .u64 18442240474082181120]) ∧ Below W.heap.size W w') := Lib.hid HR.out
    clear e1 e2 hs hx hy
    go_enter Try.func42, Try.ntmps42
    go_wp2_with fail
    refine (HR.out _).mono ?_
    rintro en w1 ⟨rfl, hb⟩
    have hb := Lib.hid (baft (HB.out _) hb)
    have hI := Lib.hid (BI.new w1 (.int .u64 9218868437227405312) (.int .u64 18442240474082181120))
    have HB2 := Lib.hid (baft hb.out (bnew w1 (.cells #[.int .u64 9218868437227405312, .int .u64 18442240474082181120] 24)))
    clear hb HB
    go_upto_region 2 with fail
    refine region_at 3 (Pick [IsV (.agg #[.int .u64 9218868437227405312, .int .u64 18442240474082181120]), IsV (.agg #[.int .u64 9218868437227405312, .int .u64 18442240474082181120]), IsV (.bool true)]) (by kernel_rfl) (by kernel_rfl) (by kernel_rfl) (mono_pick ⟨IsV.mono _, IsV.mono _, IsV.mono _, trivial⟩) ⟨?_, ?_, ?_, trivial⟩ ?_
    · intro a W hsz hb hS
      have h3 : a.tmps.getD 3 undef = .pointer (some ⟨w1.heap.size, 0, none⟩) := hS.1
      clear hS hsz
      refine will_of rfl ?_
      obtain ⟨d0, d1⟩ := (hI.out.later hb).cells
      intro K hK
      go_simp
      exact hK _ _ ⟨Below.refl _ _, rfl⟩
    · intro a W hsz hb hS
      clear hS hsz
      refine will_of rfl ?_
      obtain ⟨d0, d1⟩ := (hI.out.later hb).cells
      intro K hK
      go_simp
      refine (empty6_any _).mono ?_
      rintro e W' ⟨rfl, hb'⟩
      exact hK _ _ ⟨hb', rfl⟩
    · intro a W hsz hb hS
      have h9 : a.tmps.getD 9 undef = .agg #[.int .u64 9218868437227405312, .int .u64 18442240474082181120] := hS.1
      have h10 : a.tmps.getD 10 undef = .agg #[.int .u64 9218868437227405312, .int .u64 18442240474082181120] := hS.2.1
      clear hS hsz
      refine will_of rfl ?_
      intro K hK
      go_simp
      exact hK _ _ ⟨Below.refl _ _, rfl⟩
    intro f W hb hH
    have e0 : f 0 = .agg #[.int .u64 9218868437227405312, .int .u64 18442240474082181120] := hH.1
    have e1 : f 1 = .agg #[.int .u64 9218868437227405312, .int .u64 18442240474082181120] := hH.2.1
    have e2 : f 2 = .bool true := hH.2.2.1
    simp only [List.take_succ_cons, List.take_zero, List.drop_succ_cons, List.drop_zero, putFrom, Act.put, List.setIfInBounds_toArray, List.set_cons_zero, List.set_cons_succ, Nat.reduceAdd, e0, e1, e2]
    clear e0 e1 e2 hH f
    have hI := Lib.hid (hI.out.later hb)
    have HB2 := Lib.hid (baft HB2.out hb)
    clear hb
    obtain ⟨c0, c1⟩ := hI.out.cells
    go_wp2
    go_ret
    exact ⟨rfl, HB2.out⟩
end Go.Proofs.Ytmmbbkeefphaiaa
