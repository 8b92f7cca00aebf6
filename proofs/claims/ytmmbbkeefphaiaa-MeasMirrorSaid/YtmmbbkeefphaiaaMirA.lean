/- vergeref6's negative of an interval. -/
import Derived.Test.YtmmbbkeefphaiaaMirP
namespace Go.Proofs.Ytmmbbkeefphaiaa
set_option linter.unusedVariables false
set_option linter.unusedSimpArgs false
open Go.RowKit Verge

/-- A bound, by its number. -/
def IsE (i p : Int) (q k : Nat) (v : Value) (w : World) : Prop := ∃ s A n c B m d, v = .agg #[.int .i64 i, .bool s, .slice A n c, .slice B m d] ∧ IsRV p q k (.agg #[.bool s, .slice A n c, .slice B m d]) w
theorem IsE.mono (i p : Int) (q k : Nat) : Mono (IsE i p q k) := fun _ _ _ hb ⟨s, A, n, c, B, m, d, e, h⟩ => ⟨s, A, n, c, B, m, d, e, IsRV.mono _ _ _ _ _ _ hb h⟩
theorem IsE.agg {i p : Int} {q k : Nat} {v : Value} {w : World} (h : IsE i p q k v w) : ∃ s A n c B m d, v = .agg #[.int .i64 i, .bool s, .slice A n c, .slice B m d] := by
  obtain ⟨s, A, n, c, B, m, d, e, _⟩ := h
  exact ⟨s, A, n, c, B, m, d, e⟩
theorem IsE.rv {i p : Int} {q k : Nat} {w : World} {s : Bool} {A : Option Addr} {n c : Nat} {B : Option Addr} {m d : Nat} (h : IsE i p q k (.agg #[.int .i64 i, .bool s, .slice A n c, .slice B m d]) w) : IsRV p q k (.agg #[.bool s, .slice A n c, .slice B m d]) w := by
  obtain ⟨s', A', n', c', B', m', d', e, h⟩ := h
  cases e
  exact h
/-- A set, by its bounds' numbers. -/
def IsS (no : Bool) (i p j p2 : Int) (q k : Nat) (v : Value) (w : World) : Prop := ∃ s A n c B m d t A2 n2 c2 B2 m2 d2, v = .agg #[.bool no, .int .i64 i, .bool s, .slice A n c, .slice B m d, .int .i64 j, .bool t, .slice A2 n2 c2, .slice B2 m2 d2] ∧ IsRV p q k (.agg #[.bool s, .slice A n c, .slice B m d]) w ∧ IsRV p2 q k (.agg #[.bool t, .slice A2 n2 c2, .slice B2 m2 d2]) w
theorem IsS.mono (no : Bool) (i p j p2 : Int) (q k : Nat) : Mono (IsS no i p j p2 q k) := fun _ _ _ hb ⟨s, A, n, c, B, m, d, t, A2, n2, c2, B2, m2, d2, e, h, h2⟩ => ⟨s, A, n, c, B, m, d, t, A2, n2, c2, B2, m2, d2, e, IsRV.mono _ _ _ _ _ _ hb h, IsRV.mono _ _ _ _ _ _ hb h2⟩
theorem IsRV.put4 {p : Int} {q k : Nat} {v : Value} {w : World} (h : IsRV p q k v w) {r : Nat} (hB : ∀ j z, w.cell? ⟨r, j, none⟩ ≠ some (.int .u32 z)) (a b c d : Value) : IsRV p q k v (Go.Proofs.Ytmmbbkeefphaiaa.put4 w r a b c d) := by
  obtain ⟨s, X, Y, ⟨va, vb, hv, ⟨A, c1, ha, hA⟩, ⟨B, c2, hb, hB'⟩⟩, hrest⟩ := h
  exact ⟨s, X, Y, ⟨va, vb, hv, ⟨A, c1, ha, hA.put4 hB a b c d⟩, ⟨B, c2, hb, hB'.put4 hB a b c d⟩⟩, hrest⟩
theorem IsRV.put9 {p : Int} {q k : Nat} {v : Value} {w : World} (h : IsRV p q k v w) {r : Nat} (hB : ∀ j z, w.cell? ⟨r, j, none⟩ ≠ some (.int .u32 z)) (a0 a1 a2 a3 a4 a5 a6 a7 a8 : Value) : IsRV p q k v (Go.Proofs.Ytmmbbkeefphaiaa.put9 w r a0 a1 a2 a3 a4 a5 a6 a7 a8) := by
  obtain ⟨s, X, Y, ⟨va, vb, hv, ⟨A, c1, ha, hA⟩, ⟨B, c2, hb, hB'⟩⟩, hrest⟩ := h
  exact ⟨s, X, Y, ⟨va, vb, hv, ⟨A, c1, ha, hA.put9 hB a0 a1 a2 a3 a4 a5 a6 a7 a8⟩, ⟨B, c2, hb, hB'.put9 hB a0 a1 a2 a3 a4 a5 a6 a7 a8⟩⟩, hrest⟩

set_option maxRecDepth 20000 in
set_option maxHeartbeats 4000000 in
theorem turned_is {i p : Int} {q k : Nat} {s : Bool} {A : Option Addr} {n c : Nat} {B : Option Addr} {m d : Nat} {w : World} (h1 : -1 ≤ i) (h2 : i ≤ 1) (h : IsRV p q k (.agg #[.bool s, .slice A n c, .slice B m d]) w) (hk : k ≤ 35184372088800) :
    Calls Try.prog 111 #[.agg #[.int .i64 i, .bool s, .slice A n c, .slice B m d]] w (Ans w (IsE (-i) (-p) q k)) := by
  have HB := Lib.hid (rnew w (.cells #[.int .i64 i, .bool s, .slice A n c, .slice B m d] 68))
  have HC := Lib.hid ((Box4.new w (.int .i64 i) (.bool s) (.slice A n c) (.slice B m d)).later (rnew _ (.cells #[.int .i64 0, .bool false, .slice none 0 0, .slice none 0 0] 68)))
  have HZ := Box4.new (w.alloc (.cells #[.int .i64 i, .bool s, .slice A n c, .slice B m d] 68)) (.int .i64 0) (.bool false) (.slice none 0 0) (.slice none 0 0)
  rw [size_alloc1] at HZ
  have HZ := Lib.hid HZ
  have HB := Lib.hid (raft HB.out (rnew _ (.cells #[.int .i64 0, .bool false, .slice none 0 0, .slice none 0 0] 68)))
  have HQ := Lib.hid (IsRV.mono _ _ _ _ _ _ HB.out h)
  have HK := Lib.hid hk
  clear h hk
  go_enter Try.func111, Try.ntmps111
  go_upto_region 1 with fail
  refine region_at 7 (Pick [IsV (.pointer (some ⟨w.heap.size, 0, none⟩)), IsV (.int .i64 i), IsV (.int .i64 (-i)), IsV (.pointer (some ⟨w.heap.size, 1, none⟩)), IsV (.agg #[.bool s, .slice A n c, .slice B m d]), IsRV (-p) q k, IsE (-i) (-p) q k]) (by kernel_rfl) (by kernel_rfl) (by kernel_rfl) (mono_pick ⟨IsV.mono _, IsV.mono _, IsV.mono _, IsV.mono _, IsV.mono _, IsRV.mono _ _ _, IsE.mono _ _ _ _, trivial⟩) ⟨?_, ?_, ?_, ?_, ?_, ?_, ?_, trivial⟩ ?_
  · intro a W hsz hb hS
    have h1 : a.tmps.getD 1 undef = .pointer (some ⟨w.heap.size, 0, none⟩) := hS.1
    clear hS hsz
    refine will_of rfl ?_
    intro K hK
    go_simp
    exact hK _ _ ⟨Below.refl _ _, rfl⟩
  · intro a W hsz hb hS
    have h3 : a.tmps.getD 3 undef = .pointer (some ⟨w.heap.size, 0, none⟩) := hS.1
    clear hS hsz
    refine will_of rfl ?_
    obtain ⟨b0, b1, b2, b3, f0, f1, f2, f3⟩ := (HC.out.later hb).cells
    intro K hK
    go_simp
    exact hK _ _ ⟨Below.refl _ _, rfl⟩
  · intro a W hsz hb hS
    have h4 : a.tmps.getD 4 undef = .int .i64 i := hS.1
    clear hS hsz
    refine will_of rfl ?_
    intro K hK
    have hw : IntKind.i64.wrap (-i) = -i := IntWalk.i64_in _ (by omega)
    go_simp
    exact hK _ _ ⟨Below.refl _ _, rfl⟩
  · intro a W hsz hb hS
    have h1 : a.tmps.getD 1 undef = .pointer (some ⟨w.heap.size, 0, none⟩) := hS.1
    clear hS hsz
    refine will_of rfl ?_
    intro K hK
    go_simp
    exact hK _ _ ⟨Below.refl _ _, rfl⟩
  · intro a W hsz hb hS
    have h6 : a.tmps.getD 6 undef = .pointer (some ⟨w.heap.size, 1, none⟩) := hS.1
    clear hS hsz
    refine will_of rfl ?_
    obtain ⟨b0, b1, b2, b3, f0, f1, f2, f3⟩ := (HC.out.later hb).cells
    intro K hK
    go_simp
    exact hK _ _ ⟨Below.refl _ _, rfl⟩
  · intro a W hsz hb hS
    have h7 : a.tmps.getD 7 undef = .agg #[.bool s, .slice A n c, .slice B m d] := hS.1
    clear hS hsz
    refine will_of rfl ?_
    obtain ⟨b0, b1, b2, b3, f0, f1, f2, f3⟩ := (HC.out.later hb).cells
    intro K hK
    go_simp
    refine (rv_neg (IsRV.mono _ _ _ _ _ _ hb HQ.out) HK.out).mono ?_
    rintro e W' ⟨v, rfl, hv, hb'⟩
    exact hK _ _ ⟨hb', hv⟩
  · intro a W hsz hb hS
    have h5 : a.tmps.getD 5 undef = .int .i64 (-i) := hS.1
    have q8 : IsRV (-p) q k (a.tmps.getD 8 undef) W := hS.2.1
    clear hS hsz
    have g5 := h5
    rw [Array.getD_eq_getD_getElem?] at g5
    obtain ⟨s8', A8', n8', c8', B8', m8', d8', h8⟩ := q8.agg
    rw [h8] at q8
    have g8 := h8
    rw [Array.getD_eq_getD_getElem?] at g8
    refine will_of rfl ?_
    intro K hK
    go_simp
    exact hK _ _ ⟨Below.refl _ _, _, _, _, _, _, _, _, rfl, q8⟩
  intro f W hb hH
  have e0 : f 0 = .pointer (some ⟨w.heap.size, 0, none⟩) := hH.1
  have e1 : f 1 = .int .i64 i := hH.2.1
  have e2 : f 2 = .int .i64 (-i) := hH.2.2.1
  have e3 : f 3 = .pointer (some ⟨w.heap.size, 1, none⟩) := hH.2.2.2.1
  have e4 : f 4 = .agg #[.bool s, .slice A n c, .slice B m d] := hH.2.2.2.2.1
  obtain ⟨x5, y5⟩ : ∃ x, f 5 = x := ⟨_, rfl⟩
  have q5 : IsRV (-p) q k (f 5) W := hH.2.2.2.2.2.1
  rw [y5] at q5
  obtain ⟨x6, y6⟩ : ∃ x, f 6 = x := ⟨_, rfl⟩
  have q6 : IsE (-i) (-p) q k (f 6) W := hH.2.2.2.2.2.2.1
  rw [y6] at q6
  simp only [List.take_succ_cons, List.take_zero, List.drop_succ_cons, List.drop_zero, putFrom, Act.put, List.setIfInBounds_toArray, List.set_cons_zero, List.set_cons_succ, Nat.reduceAdd, e0, e1, e2, e3, e4, y5, y6]
  clear e0 e1 e2 e3 e4 y5 y6 hH f
  obtain ⟨s', A', n', c', B', m', d', rfl, hv⟩ := q6
  have HV := Lib.hid hv
  have HZ := Lib.hid (HZ.out.later hb)
  have HB := Lib.hid (raft HB.out hb)
  clear hv hb q5 HC HQ HK
  obtain ⟨b0, b1, b2, b3, f0, f1, f2, f3⟩ := HZ.out.cells
  go_wp2
  refine bodyPost_ret (v := .agg #[.int .i64 (-i), .bool s', .slice A' n' c', .slice B' m' d']) (by simp [results, Try.results111, go_sem, b0, b1, b2, b3]) rfl ?_
  exact ⟨_, rfl, ⟨_, _, _, _, _, _, _, rfl, HV.out.put4 HZ.out.no _ _ _ _⟩, put4_below HB.out (Nat.le_succ _) _ _ _ _⟩
set_option maxRecDepth 20000 in
set_option maxHeartbeats 4000000 in
theorem minus6_is {i p j p2 : Int} {q k : Nat} {s : Bool} {A : Option Addr} {n c : Nat} {B : Option Addr} {m d : Nat} {t : Bool} {A2 : Option Addr} {n2 c2 : Nat} {B2 : Option Addr} {m2 d2 : Nat} {w : World} (h1 : -1 ≤ i) (h2 : i ≤ 1) (h3 : -1 ≤ j) (h4 : j ≤ 1) (h : IsRV p q k (.agg #[.bool s, .slice A n c, .slice B m d]) w) (h' : IsRV p2 q k (.agg #[.bool t, .slice A2 n2 c2, .slice B2 m2 d2]) w) (hk : k ≤ 35184372088800) :
    Calls Try.prog 88 #[.agg #[.bool false, .int .i64 i, .bool s, .slice A n c, .slice B m d, .int .i64 j, .bool t, .slice A2 n2 c2, .slice B2 m2 d2]] w (Ans w (IsS false (-j) (-p2) (-i) (-p) q k)) := by
  have HB := Lib.hid (rnew w (.cells #[.bool false, .int .i64 i, .bool s, .slice A n c, .slice B m d, .int .i64 j, .bool t, .slice A2 n2 c2, .slice B2 m2 d2] 70))
  have HC := Lib.hid ((Box9.new w (.bool false) (.int .i64 i) (.bool s) (.slice A n c) (.slice B m d) (.int .i64 j) (.bool t) (.slice A2 n2 c2) (.slice B2 m2 d2)).later (rnew _ (.cells #[.bool false, .int .i64 0, .bool false, .slice none 0 0, .slice none 0 0, .int .i64 0, .bool false, .slice none 0 0, .slice none 0 0] 70)))
  have HZ : Box9z _ _ := Box9.new (w.alloc (.cells #[.bool false, .int .i64 i, .bool s, .slice A n c, .slice B m d, .int .i64 j, .bool t, .slice A2 n2 c2, .slice B2 m2 d2] 70)) (.bool false) (.int .i64 0) (.bool false) (.slice none 0 0) (.slice none 0 0) (.int .i64 0) (.bool false) (.slice none 0 0) (.slice none 0 0)
  rw [size_alloc1] at HZ
  have HZ := Lib.hid HZ
  have HB := Lib.hid (raft HB.out (rnew _ (.cells #[.bool false, .int .i64 0, .bool false, .slice none 0 0, .slice none 0 0, .int .i64 0, .bool false, .slice none 0 0, .slice none 0 0] 70)))
  have HQ := Lib.hid (IsRV.mono _ _ _ _ _ _ HB.out h)
  have HQ2 := Lib.hid (IsRV.mono _ _ _ _ _ _ HB.out h')
  have HK := Lib.hid (And.intro hk (And.intro (And.intro h1 h2) (And.intro h3 h4)))
  clear h h' hk h1 h2 h3 h4
  go_enter Try.func88, Try.ntmps88
  go_upto_region 3 with fail
  refine region_at 7 (Pick [IsV (.pointer (some ⟨w.heap.size, 5, none⟩)), IsV (.agg #[.int .i64 j, .bool t, .slice A2 n2 c2, .slice B2 m2 d2]), IsE (-j) (-p2) q k, IsV (.pointer (some ⟨w.heap.size, 1, none⟩)), IsV (.agg #[.int .i64 i, .bool s, .slice A n c, .slice B m d]), IsE (-i) (-p) q k, IsS false (-j) (-p2) (-i) (-p) q k]) (by kernel_rfl) (by kernel_rfl) (by kernel_rfl) (mono_pick ⟨IsV.mono _, IsV.mono _, IsE.mono _ _ _ _, IsV.mono _, IsV.mono _, IsE.mono _ _ _ _, IsS.mono _ _ _ _ _ _ _, trivial⟩) ⟨?_, ?_, ?_, ?_, ?_, ?_, ?_, trivial⟩ ?_
  · intro a W hsz hb hS
    have h1 : a.tmps.getD 1 undef = .pointer (some ⟨w.heap.size, 0, none⟩) := hS.1
    clear hS hsz
    refine will_of rfl ?_
    intro K hK
    go_simp
    exact hK _ _ ⟨Below.refl _ _, rfl⟩
  · intro a W hsz hb hS
    have h6 : a.tmps.getD 6 undef = .pointer (some ⟨w.heap.size, 5, none⟩) := hS.1
    clear hS hsz
    refine will_of rfl ?_
    obtain ⟨b0, b1, b2, b3, b4, b5, b6, b7, b8⟩ := (HC.out.later hb).cells
    intro K hK
    go_simp
    exact hK _ _ ⟨Below.refl _ _, rfl⟩
  · intro a W hsz hb hS
    have h7 : a.tmps.getD 7 undef = .agg #[.int .i64 j, .bool t, .slice A2 n2 c2, .slice B2 m2 d2] := hS.1
    clear hS hsz
    refine will_of rfl ?_
    obtain ⟨b0, b1, b2, b3, b4, b5, b6, b7, b8⟩ := (HC.out.later hb).cells
    intro K hK
    go_simp
    refine (turned_is HK.out.2.2.1 HK.out.2.2.2 (IsRV.mono _ _ _ _ _ _ hb HQ2.out) HK.out.1).mono ?_
    rintro e W' ⟨v, rfl, hv, hb'⟩
    exact hK _ _ ⟨hb', hv⟩
  · intro a W hsz hb hS
    have h1 : a.tmps.getD 1 undef = .pointer (some ⟨w.heap.size, 0, none⟩) := hS.1
    clear hS hsz
    refine will_of rfl ?_
    intro K hK
    go_simp
    exact hK _ _ ⟨Below.refl _ _, rfl⟩
  · intro a W hsz hb hS
    have h9 : a.tmps.getD 9 undef = .pointer (some ⟨w.heap.size, 1, none⟩) := hS.1
    clear hS hsz
    refine will_of rfl ?_
    obtain ⟨b0, b1, b2, b3, b4, b5, b6, b7, b8⟩ := (HC.out.later hb).cells
    intro K hK
    go_simp
    exact hK _ _ ⟨Below.refl _ _, rfl⟩
  · intro a W hsz hb hS
    have h10 : a.tmps.getD 10 undef = .agg #[.int .i64 i, .bool s, .slice A n c, .slice B m d] := hS.1
    clear hS hsz
    refine will_of rfl ?_
    obtain ⟨b0, b1, b2, b3, b4, b5, b6, b7, b8⟩ := (HC.out.later hb).cells
    intro K hK
    go_simp
    refine (turned_is HK.out.2.1.1 HK.out.2.1.2 (IsRV.mono _ _ _ _ _ _ hb HQ.out) HK.out.1).mono ?_
    rintro e W' ⟨v, rfl, hv, hb'⟩
    exact hK _ _ ⟨hb', hv⟩
  · intro a W hsz hb hS
    have q8 : IsE (-j) (-p2) q k (a.tmps.getD 8 undef) W := hS.1
    have q11 : IsE (-i) (-p) q k (a.tmps.getD 11 undef) W := hS.2.1
    clear hS hsz
    obtain ⟨s8', A8', n8', c8', B8', m8', d8', h8⟩ := q8.agg
    rw [h8] at q8
    have g8 := h8
    rw [Array.getD_eq_getD_getElem?] at g8
    obtain ⟨s11', A11', n11', c11', B11', m11', d11', h11⟩ := q11.agg
    rw [h11] at q11
    have g11 := h11
    rw [Array.getD_eq_getD_getElem?] at g11
    refine will_of rfl ?_
    intro K hK
    go_simp
    exact hK _ _ ⟨Below.refl _ _, _, _, _, _, _, _, _, _, _, _, _, _, _, _, rfl, q8.rv, q11.rv⟩
  intro f W hb hH
  have e0 : f 0 = .pointer (some ⟨w.heap.size, 5, none⟩) := hH.1
  have e1 : f 1 = .agg #[.int .i64 j, .bool t, .slice A2 n2 c2, .slice B2 m2 d2] := hH.2.1
  obtain ⟨x2, y2⟩ : ∃ x, f 2 = x := ⟨_, rfl⟩
  have q2 : IsE (-j) (-p2) q k (f 2) W := hH.2.2.1
  rw [y2] at q2
  have e3 : f 3 = .pointer (some ⟨w.heap.size, 1, none⟩) := hH.2.2.2.1
  have e4 : f 4 = .agg #[.int .i64 i, .bool s, .slice A n c, .slice B m d] := hH.2.2.2.2.1
  obtain ⟨x5, y5⟩ : ∃ x, f 5 = x := ⟨_, rfl⟩
  have q5 : IsE (-i) (-p) q k (f 5) W := hH.2.2.2.2.2.1
  rw [y5] at q5
  obtain ⟨x6, y6⟩ : ∃ x, f 6 = x := ⟨_, rfl⟩
  have q6 : IsS false (-j) (-p2) (-i) (-p) q k (f 6) W := hH.2.2.2.2.2.2.1
  rw [y6] at q6
  simp only [List.take_succ_cons, List.take_zero, List.drop_succ_cons, List.drop_zero, putFrom, Act.put, List.setIfInBounds_toArray, List.set_cons_zero, List.set_cons_succ, Nat.reduceAdd, e0, e1, y2, e3, e4, y5, y6]
  clear e0 e1 y2 e3 e4 y5 y6 hH f
  obtain ⟨s', A', n', c', B', m', d', t', A2', n2', c2', B2', m2', d2', rfl, hv, hv2⟩ := q6
  have HV := Lib.hid (And.intro hv hv2)
  have HZ := Lib.hid (Box9.later HZ.out hb)
  have HB := Lib.hid (raft HB.out hb)
  clear hv hv2 hb q2 q5 HC HQ HQ2 HK
  obtain ⟨b0, b1, b2, b3, b4, b5, b6, b7, b8⟩ := HZ.out.cells
  obtain ⟨f0, f1, f2, f3, f4, f5, f6, f7, f8⟩ := HZ.out.frozen
  go_wp2
  refine bodyPost_ret (v := .agg #[.bool false, .int .i64 (-j), .bool s', .slice A' n' c', .slice B' m' d', .int .i64 (-i), .bool t', .slice A2' n2' c2', .slice B2' m2' d2']) (by simp [results, Try.results88, go_sem, b0, b1, b2, b3, b4, b5, b6, b7, b8]) rfl ?_
  exact ⟨_, rfl, ⟨_, _, _, _, _, _, _, _, _, _, _, _, _, _, rfl, HV.out.1.put9 (Box9z.no HZ.out) _ _ _ _ _ _ _ _ _, HV.out.2.put9 (Box9z.no HZ.out) _ _ _ _ _ _ _ _ _⟩, put9_below HB.out (Nat.le_succ _) _ _ _ _ _ _ _ _ _⟩
/-- What stands while Least works. -/
def Lst (p p2 : Int) (k : Nat) (i j : Int) (s : Bool) (A : Option Addr) (n c : Nat) (B : Option Addr) (m d : Nat) (t : Bool) (A2 : Option Addr) (n2 c2 : Nat) (B2 : Option Addr) (m2 d2 : Nat) (w W : World) (r : Nat) (u v : Int) : Prop :=
  Below w.heap.size w W ∧ Box9 W w.heap.size (.bool false) (.int .i64 i) (.bool s) (.slice A n c) (.slice B m d) (.int .i64 j) (.bool t) (.slice A2 n2 c2) (.slice B2 m2 d2) ∧ BI W (w.heap.size + 1) (.int .u64 0) (.int .u64 0) ∧ BI W r (.int .u64 u) (.int .u64 v) ∧ IsRV p UQ k (.agg #[.bool s, .slice A n c, .slice B m d]) W ∧ IsRV p2 UQ k (.agg #[.bool t, .slice A2 n2 c2, .slice B2 m2 d2]) W ∧ w.heap.size + 1 < r
section
variable {p p2 : Int} {k : Nat} {i j : Int} {s : Bool} {A : Option Addr} {n c : Nat} {B : Option Addr} {m d : Nat} {t : Bool} {A2 : Option Addr} {n2 c2 : Nat} {B2 : Option Addr} {m2 d2 : Nat} {w W W' : World} {r : Nat} {u v : Int}
theorem BI.frozen {w : World} {r : Nat} {a b : Value} (h : BI w r a b) : w.frozen? ⟨r, 0, none⟩ = false ∧ w.frozen? ⟨r, 1, none⟩ = false := by
  unfold BI at h
  refine ⟨?_, ?_⟩ <;> simp [World.frozen?, h]
theorem BI.far {w : World} {r : Nat} {a b : Value} (h : BI w r a b) {k i : Nat} {u : Value} (hk : r ≠ k) : BI (w.setCell ⟨k, i, none⟩ u) r a b := (setb' w k i u r hk).trans h
theorem BI.set0 {w : World} {r : Nat} {a b : Value} (h : BI w r a b) (u : Value) : BI (w.setCell ⟨r, 0, none⟩ u) r u b := by
  have hl := h.lt
  unfold BI at h ⊢
  have hg : w.heap[r] = .cells #[a, b] 24 := by simpa [hl] using h
  simp [World.setCell, hl, Array.getElem_modify, hg]
theorem BI.set1 {w : World} {r : Nat} {a b : Value} (h : BI w r a b) (u : Value) : BI (w.setCell ⟨r, 1, none⟩ u) r a u := by
  have hl := h.lt
  unfold BI at h ⊢
  have hg : w.heap[r] = .cells #[a, b] 24 := by simpa [hl] using h
  simp [World.setCell, hl, Array.getElem_modify, hg]
theorem BI.no {w : World} {r : Nat} {a b : Int} (h : BI w r (.int .u64 a) (.int .u64 b)) : ∀ i z, w.cell? ⟨r, i, none⟩ ≠ some (.int .u32 z) := by
  intro j z e
  unfold BI at h
  simp only [World.cell?, h] at e
  rcases j with _ | _ | j <;> simp at e
theorem IsRV.set {p : Int} {q k : Nat} {v : Value} {w : World} (h : IsRV p q k v w) {r : Nat} (hB : ∀ j z, w.cell? ⟨r, j, none⟩ ≠ some (.int .u32 z)) (i : Nat) (u : Value) : IsRV p q k v (w.setCell ⟨r, i, none⟩ u) := by
  obtain ⟨s, X, Y, ⟨va, vb, hv, ⟨A, c1, ha, hA⟩, ⟨B, c2, hb, hB'⟩⟩, hrest⟩ := h
  exact ⟨s, X, Y, ⟨va, vb, hv, ⟨A, c1, ha, hA.apart hB fun k hk => setb' _ r i u k hk⟩, ⟨B, c2, hb, hB'.apart hB fun k hk => setb' _ r i u k hk⟩⟩, hrest⟩
theorem Lst.later (h : Lst p p2 k i j s A n c B m d t A2 n2 c2 B2 m2 d2 w W r u v) (hb : Below W.heap.size W W') : Lst p p2 k i j s A n c B m d t A2 n2 c2 B2 m2 d2 w W' r u v :=
  ⟨raft h.1 hb, h.2.1.later hb, h.2.2.1.later hb, h.2.2.2.1.later hb, IsRV.mono _ _ _ _ _ _ hb h.2.2.2.2.1, IsRV.mono _ _ _ _ _ _ hb h.2.2.2.2.2.1, h.2.2.2.2.2.2⟩
theorem Lst.set0 (h : Lst p p2 k i j s A n c B m d t A2 n2 c2 B2 m2 d2 w W r u v) (u' : Int) : Lst p p2 k i j s A n c B m d t A2 n2 c2 B2 m2 d2 w (W.setCell ⟨r, 0, none⟩ (.int .u64 u')) r u' v :=
  have hr := h.2.2.2.2.2.2
  ⟨h.1.setCell (show w.heap.size ≤ r by omega) _, (setb' W r 0 _ _ (by omega)).trans h.2.1, h.2.2.1.far (by omega), h.2.2.2.1.set0 _, h.2.2.2.2.1.set h.2.2.2.1.no _ _, h.2.2.2.2.2.1.set h.2.2.2.1.no _ _, hr⟩
theorem Lst.set1 (h : Lst p p2 k i j s A n c B m d t A2 n2 c2 B2 m2 d2 w W r u v) (u' : Int) : Lst p p2 k i j s A n c B m d t A2 n2 c2 B2 m2 d2 w (W.setCell ⟨r, 1, none⟩ (.int .u64 u')) r u u' :=
  have hr := h.2.2.2.2.2.2
  ⟨h.1.setCell (show w.heap.size ≤ r by omega) _, (setb' W r 1 _ _ (by omega)).trans h.2.1, h.2.2.1.far (by omega), h.2.2.2.1.set1 _, h.2.2.2.2.1.set h.2.2.2.1.no _ _, h.2.2.2.2.2.1.set h.2.2.2.1.no _ _, hr⟩
end
set_option maxRecDepth 20000 in
set_option maxHeartbeats 4000000 in
/-- Least, of a set that is not empty. -/
theorem least_is {i p j p2 : Int} {k : Nat} {s : Bool} {A : Option Addr} {n c : Nat} {B : Option Addr} {m d : Nat} {t : Bool} {A2 : Option Addr} {n2 c2 : Nat} {B2 : Option Addr} {m2 d2 : Nat} {w : World} (h : IsRV p UQ k (.agg #[.bool s, .slice A n c, .slice B m d]) w) (h' : IsRV p2 UQ k (.agg #[.bool t, .slice A2 n2 c2, .slice B2 m2 d2]) w) (hk : k ≤ 8796093022000) :
    Calls Try.prog 87 #[.agg #[.bool false, .int .i64 i, .bool s, .slice A n c, .slice B m d, .int .i64 j, .bool t, .slice A2 n2 c2, .slice B2 m2 d2]] w (Ans w (IsV (.agg #[.int .u64 ((if i = 0 then rat3 (-1) p UQ KU else 18442240474082181120 : Nat) : Int), .int .u64 ((if j = 0 then rat3 1 p2 UQ KU else 9218868437227405312 : Nat) : Int)]))) := by
  by_cases hi : i = 0
  · by_cases hj : j = 0
    · subst hi hj
      rw [if_pos rfl, if_pos rfl]
      have HB := Lib.hid (rnew w (.cells #[.bool false, .int .i64 0, .bool s, .slice A n c, .slice B m d, .int .i64 0, .bool t, .slice A2 n2 c2, .slice B2 m2 d2] 70))
      have HC := Lib.hid ((Box9.new w (.bool false) (.int .i64 0) (.bool s) (.slice A n c) (.slice B m d) (.int .i64 0) (.bool t) (.slice A2 n2 c2) (.slice B2 m2 d2)).later (rnew _ (.cells #[.int .u64 0, .int .u64 0] 24)))
      have HZ := BI.new (w.alloc (.cells #[.bool false, .int .i64 0, .bool s, .slice A n c, .slice B m d, .int .i64 0, .bool t, .slice A2 n2 c2, .slice B2 m2 d2] 70)) (.int .u64 0) (.int .u64 0)
      have hsz : ((w.alloc (.cells #[.bool false, .int .i64 0, .bool s, .slice A n c, .slice B m d, .int .i64 0, .bool t, .slice A2 n2 c2, .slice B2 m2 d2] 70)).alloc (.cells #[.int .u64 0, .int .u64 0] 24)).heap.size = w.heap.size + 2 := by rw [size_alloc1, size_alloc1]
      rw [size_alloc1] at HZ
      have HZ := Lib.hid HZ
      have HB := Lib.hid (raft HB.out (rnew _ (.cells #[.int .u64 0, .int .u64 0] 24)))
      have HQ := Lib.hid (IsRV.mono _ _ _ _ _ _ HB.out h)
      have HQ2 := Lib.hid (IsRV.mono _ _ _ _ _ _ HB.out h')
      have HK := Lib.hid hk
      have HSZ := Lib.hid hsz
      clear h h' hk hsz
      obtain ⟨lo, hlo⟩ : ∃ lo, rat3 (-1) p UQ KU = lo := ⟨_, rfl⟩
      obtain ⟨up, hup⟩ : ∃ up, rat3 1 p2 UQ KU = up := ⟨_, rfl⟩
      try rw [hlo]
      try rw [hup]
      have HLO := Lib.hid hlo
      have HUP := Lib.hid hup
      clear hlo hup
      go_enter Try.func87, Try.ntmps87
      obtain ⟨b0, b1, b2, b3, b4, b5, b6, b7, b8⟩ := HC.out.cells
      go_wp2_with fail
      refine (entire6_any _).mono ?_
      rintro en w1 ⟨rfl, hb⟩
      have hL : Lst p p2 k 0 0 s A n c B m d t A2 n2 c2 B2 m2 d2 w (w1.alloc (.cells #[.int .u64 18442240474082181120, .int .u64 9218868437227405312] 24)) w1.heap.size 18442240474082181120 9218868437227405312 := by
        have hn := rnew w1 (.cells #[.int .u64 18442240474082181120, .int .u64 9218868437227405312] 24)
        have hx := raft hb hn
        refine ⟨raft HB.out hx, HC.out.later hx, HZ.out.later hx, BI.new w1 _ _, IsRV.mono _ _ _ _ _ _ hx HQ.out, IsRV.mono _ _ _ _ _ _ hx HQ2.out, ?_⟩
        have := hb.size
        have := HSZ.out
        omega
      have HL := Lib.hid hL
      clear hb hL HB HC HZ HQ HQ2 HSZ b0 b1 b2 b3 b4 b5 b6 b7 b8
      obtain ⟨b0, b1, b2, b3, b4, b5, b6, b7, b8⟩ := HL.out.2.1.cells
      obtain ⟨x0, x1⟩ := HL.out.2.2.2.1.cells
      obtain ⟨y0, y1⟩ := HL.out.2.2.2.1.frozen
      obtain ⟨z0, z1⟩ := HL.out.2.2.1.cells
      obtain ⟨t0, t1⟩ := HL.out.2.2.1.frozen
      go_wp2_with fail
      refine (bits3_is (d := -1) HL.out.2.2.2.2.1 HK.out (K := KU) rfl).mono ?_
      rw [HLO.out]
      rintro en w2 ⟨_, rfl, rfl, hb⟩
      have HL := Lib.hid (HL.out.later hb)
      clear hb
      clear b0 b1 b2 b3 b4 b5 b6 b7 b8 x0 x1 y0 y1 z0 z1 t0 t1
      obtain ⟨b0, b1, b2, b3, b4, b5, b6, b7, b8⟩ := HL.out.2.1.cells
      obtain ⟨x0, x1⟩ := HL.out.2.2.2.1.cells
      obtain ⟨y0, y1⟩ := HL.out.2.2.2.1.frozen
      obtain ⟨z0, z1⟩ := HL.out.2.2.1.cells
      obtain ⟨t0, t1⟩ := HL.out.2.2.1.frozen
      have HL2 := Lib.hid (HL.out.set0 (lo : Int))
      clear b0 b1 b2 b3 b4 b5 b6 b7 b8 x0 x1 y0 y1 z0 z1 t0 t1
      have HLa := HL
      have HL := HL2
      clear HL2
      obtain ⟨x0, x1⟩ := HLa.out.2.2.2.1.cells
      obtain ⟨y0, y1⟩ := HLa.out.2.2.2.1.frozen
      obtain ⟨b0, b1, b2, b3, b4, b5, b6, b7, b8⟩ := HL.out.2.1.cells
      go_wp2_with fail
      refine (bits3_is (d := 1) HL.out.2.2.2.2.2.1 HK.out (K := KU) rfl).mono ?_
      rw [HUP.out]
      rintro en w3 ⟨_, rfl, rfl, hb⟩
      have HL := Lib.hid (HL.out.later hb)
      clear hb HLa x0 x1 y0 y1 b0 b1 b2 b3 b4 b5 b6 b7 b8
      obtain ⟨b0, b1, b2, b3, b4, b5, b6, b7, b8⟩ := HL.out.2.1.cells
      obtain ⟨x0, x1⟩ := HL.out.2.2.2.1.cells
      obtain ⟨y0, y1⟩ := HL.out.2.2.2.1.frozen
      obtain ⟨z0, z1⟩ := HL.out.2.2.1.cells
      obtain ⟨t0, t1⟩ := HL.out.2.2.1.frozen
      have HF := Lib.hid (HL.out.set1 (up : Int))
      obtain ⟨z0', z1'⟩ := HF.out.2.2.1.cells
      obtain ⟨t0', t1'⟩ := HF.out.2.2.1.frozen
      obtain ⟨x0', x1'⟩ := HF.out.2.2.2.1.cells
      obtain ⟨b0', b1', b2', b3', b4', b5', b6', b7', b8'⟩ := HF.out.2.1.cells
      go_wp2
      refine bodyPost_ret (v := .agg #[.int .u64 ((lo : Int)), .int .u64 ((up : Int))]) (by simp [results, Try.results87, go_sem, z0', z1']) rfl ?_
      exact ⟨_, rfl, rfl, (HF.out.1.setCell (Nat.le_succ _) _).setCell (Nat.le_succ _) _⟩
    · subst hi
      rw [if_pos rfl, if_neg hj]
      have HB := Lib.hid (rnew w (.cells #[.bool false, .int .i64 0, .bool s, .slice A n c, .slice B m d, .int .i64 j, .bool t, .slice A2 n2 c2, .slice B2 m2 d2] 70))
      have HC := Lib.hid ((Box9.new w (.bool false) (.int .i64 0) (.bool s) (.slice A n c) (.slice B m d) (.int .i64 j) (.bool t) (.slice A2 n2 c2) (.slice B2 m2 d2)).later (rnew _ (.cells #[.int .u64 0, .int .u64 0] 24)))
      have HZ := BI.new (w.alloc (.cells #[.bool false, .int .i64 0, .bool s, .slice A n c, .slice B m d, .int .i64 j, .bool t, .slice A2 n2 c2, .slice B2 m2 d2] 70)) (.int .u64 0) (.int .u64 0)
      have hsz : ((w.alloc (.cells #[.bool false, .int .i64 0, .bool s, .slice A n c, .slice B m d, .int .i64 j, .bool t, .slice A2 n2 c2, .slice B2 m2 d2] 70)).alloc (.cells #[.int .u64 0, .int .u64 0] 24)).heap.size = w.heap.size + 2 := by rw [size_alloc1, size_alloc1]
      rw [size_alloc1] at HZ
      have HZ := Lib.hid HZ
      have HB := Lib.hid (raft HB.out (rnew _ (.cells #[.int .u64 0, .int .u64 0] 24)))
      have HQ := Lib.hid (IsRV.mono _ _ _ _ _ _ HB.out h)
      have HQ2 := Lib.hid (IsRV.mono _ _ _ _ _ _ HB.out h')
      have HK := Lib.hid hk
      have HSZ := Lib.hid hsz
      clear h h' hk hsz
      obtain ⟨lo, hlo⟩ : ∃ lo, rat3 (-1) p UQ KU = lo := ⟨_, rfl⟩
      obtain ⟨up, hup⟩ : ∃ up, rat3 1 p2 UQ KU = up := ⟨_, rfl⟩
      try rw [hlo]
      try rw [hup]
      have HLO := Lib.hid hlo
      have HUP := Lib.hid hup
      clear hlo hup
      go_enter Try.func87, Try.ntmps87
      obtain ⟨b0, b1, b2, b3, b4, b5, b6, b7, b8⟩ := HC.out.cells
      go_wp2_with fail
      refine (entire6_any _).mono ?_
      rintro en w1 ⟨rfl, hb⟩
      have hL : Lst p p2 k 0 j s A n c B m d t A2 n2 c2 B2 m2 d2 w (w1.alloc (.cells #[.int .u64 18442240474082181120, .int .u64 9218868437227405312] 24)) w1.heap.size 18442240474082181120 9218868437227405312 := by
        have hn := rnew w1 (.cells #[.int .u64 18442240474082181120, .int .u64 9218868437227405312] 24)
        have hx := raft hb hn
        refine ⟨raft HB.out hx, HC.out.later hx, HZ.out.later hx, BI.new w1 _ _, IsRV.mono _ _ _ _ _ _ hx HQ.out, IsRV.mono _ _ _ _ _ _ hx HQ2.out, ?_⟩
        have := hb.size
        have := HSZ.out
        omega
      have HL := Lib.hid hL
      clear hb hL HB HC HZ HQ HQ2 HSZ b0 b1 b2 b3 b4 b5 b6 b7 b8
      obtain ⟨b0, b1, b2, b3, b4, b5, b6, b7, b8⟩ := HL.out.2.1.cells
      obtain ⟨x0, x1⟩ := HL.out.2.2.2.1.cells
      obtain ⟨y0, y1⟩ := HL.out.2.2.2.1.frozen
      obtain ⟨z0, z1⟩ := HL.out.2.2.1.cells
      obtain ⟨t0, t1⟩ := HL.out.2.2.1.frozen
      go_wp2_with fail
      refine (bits3_is (d := -1) HL.out.2.2.2.2.1 HK.out (K := KU) rfl).mono ?_
      rw [HLO.out]
      rintro en w2 ⟨_, rfl, rfl, hb⟩
      have HL := Lib.hid (HL.out.later hb)
      clear hb
      clear b0 b1 b2 b3 b4 b5 b6 b7 b8 x0 x1 y0 y1 z0 z1 t0 t1
      obtain ⟨b0, b1, b2, b3, b4, b5, b6, b7, b8⟩ := HL.out.2.1.cells
      obtain ⟨x0, x1⟩ := HL.out.2.2.2.1.cells
      obtain ⟨y0, y1⟩ := HL.out.2.2.2.1.frozen
      obtain ⟨z0, z1⟩ := HL.out.2.2.1.cells
      obtain ⟨t0, t1⟩ := HL.out.2.2.1.frozen
      have HF := Lib.hid (HL.out.set0 (lo : Int))
      obtain ⟨z0', z1'⟩ := HF.out.2.2.1.cells
      obtain ⟨t0', t1'⟩ := HF.out.2.2.1.frozen
      obtain ⟨x0', x1'⟩ := HF.out.2.2.2.1.cells
      obtain ⟨b0', b1', b2', b3', b4', b5', b6', b7', b8'⟩ := HF.out.2.1.cells
      go_wp2
      refine bodyPost_ret (v := .agg #[.int .u64 ((lo : Int)), .int .u64 (9218868437227405312)]) (by simp [results, Try.results87, go_sem, z0', z1']) rfl ?_
      exact ⟨_, rfl, rfl, (HF.out.1.setCell (Nat.le_succ _) _).setCell (Nat.le_succ _) _⟩
  · by_cases hj : j = 0
    · subst hj
      rw [if_neg hi, if_pos rfl]
      have HB := Lib.hid (rnew w (.cells #[.bool false, .int .i64 i, .bool s, .slice A n c, .slice B m d, .int .i64 0, .bool t, .slice A2 n2 c2, .slice B2 m2 d2] 70))
      have HC := Lib.hid ((Box9.new w (.bool false) (.int .i64 i) (.bool s) (.slice A n c) (.slice B m d) (.int .i64 0) (.bool t) (.slice A2 n2 c2) (.slice B2 m2 d2)).later (rnew _ (.cells #[.int .u64 0, .int .u64 0] 24)))
      have HZ := BI.new (w.alloc (.cells #[.bool false, .int .i64 i, .bool s, .slice A n c, .slice B m d, .int .i64 0, .bool t, .slice A2 n2 c2, .slice B2 m2 d2] 70)) (.int .u64 0) (.int .u64 0)
      have hsz : ((w.alloc (.cells #[.bool false, .int .i64 i, .bool s, .slice A n c, .slice B m d, .int .i64 0, .bool t, .slice A2 n2 c2, .slice B2 m2 d2] 70)).alloc (.cells #[.int .u64 0, .int .u64 0] 24)).heap.size = w.heap.size + 2 := by rw [size_alloc1, size_alloc1]
      rw [size_alloc1] at HZ
      have HZ := Lib.hid HZ
      have HB := Lib.hid (raft HB.out (rnew _ (.cells #[.int .u64 0, .int .u64 0] 24)))
      have HQ := Lib.hid (IsRV.mono _ _ _ _ _ _ HB.out h)
      have HQ2 := Lib.hid (IsRV.mono _ _ _ _ _ _ HB.out h')
      have HK := Lib.hid hk
      have HSZ := Lib.hid hsz
      clear h h' hk hsz
      obtain ⟨lo, hlo⟩ : ∃ lo, rat3 (-1) p UQ KU = lo := ⟨_, rfl⟩
      obtain ⟨up, hup⟩ : ∃ up, rat3 1 p2 UQ KU = up := ⟨_, rfl⟩
      try rw [hlo]
      try rw [hup]
      have HLO := Lib.hid hlo
      have HUP := Lib.hid hup
      clear hlo hup
      go_enter Try.func87, Try.ntmps87
      obtain ⟨b0, b1, b2, b3, b4, b5, b6, b7, b8⟩ := HC.out.cells
      go_wp2_with fail
      refine (entire6_any _).mono ?_
      rintro en w1 ⟨rfl, hb⟩
      have hL : Lst p p2 k i 0 s A n c B m d t A2 n2 c2 B2 m2 d2 w (w1.alloc (.cells #[.int .u64 18442240474082181120, .int .u64 9218868437227405312] 24)) w1.heap.size 18442240474082181120 9218868437227405312 := by
        have hn := rnew w1 (.cells #[.int .u64 18442240474082181120, .int .u64 9218868437227405312] 24)
        have hx := raft hb hn
        refine ⟨raft HB.out hx, HC.out.later hx, HZ.out.later hx, BI.new w1 _ _, IsRV.mono _ _ _ _ _ _ hx HQ.out, IsRV.mono _ _ _ _ _ _ hx HQ2.out, ?_⟩
        have := hb.size
        have := HSZ.out
        omega
      have HL := Lib.hid hL
      clear hb hL HB HC HZ HQ HQ2 HSZ b0 b1 b2 b3 b4 b5 b6 b7 b8
      obtain ⟨b0, b1, b2, b3, b4, b5, b6, b7, b8⟩ := HL.out.2.1.cells
      obtain ⟨x0, x1⟩ := HL.out.2.2.2.1.cells
      obtain ⟨y0, y1⟩ := HL.out.2.2.2.1.frozen
      obtain ⟨z0, z1⟩ := HL.out.2.2.1.cells
      obtain ⟨t0, t1⟩ := HL.out.2.2.1.frozen
      go_wp2_with fail
      refine (bits3_is (d := 1) HL.out.2.2.2.2.2.1 HK.out (K := KU) rfl).mono ?_
      rw [HUP.out]
      rintro en w2 ⟨_, rfl, rfl, hb⟩
      have HL := Lib.hid (HL.out.later hb)
      clear hb
      clear b0 b1 b2 b3 b4 b5 b6 b7 b8 x0 x1 y0 y1 z0 z1 t0 t1
      obtain ⟨b0, b1, b2, b3, b4, b5, b6, b7, b8⟩ := HL.out.2.1.cells
      obtain ⟨x0, x1⟩ := HL.out.2.2.2.1.cells
      obtain ⟨y0, y1⟩ := HL.out.2.2.2.1.frozen
      obtain ⟨z0, z1⟩ := HL.out.2.2.1.cells
      obtain ⟨t0, t1⟩ := HL.out.2.2.1.frozen
      have HF := Lib.hid (HL.out.set1 (up : Int))
      obtain ⟨z0', z1'⟩ := HF.out.2.2.1.cells
      obtain ⟨t0', t1'⟩ := HF.out.2.2.1.frozen
      obtain ⟨x0', x1'⟩ := HF.out.2.2.2.1.cells
      obtain ⟨b0', b1', b2', b3', b4', b5', b6', b7', b8'⟩ := HF.out.2.1.cells
      go_wp2
      refine bodyPost_ret (v := .agg #[.int .u64 (18442240474082181120), .int .u64 ((up : Int))]) (by simp [results, Try.results87, go_sem, z0', z1']) rfl ?_
      exact ⟨_, rfl, rfl, (HF.out.1.setCell (Nat.le_succ _) _).setCell (Nat.le_succ _) _⟩
    · rw [if_neg hi, if_neg hj]
      have HB := Lib.hid (rnew w (.cells #[.bool false, .int .i64 i, .bool s, .slice A n c, .slice B m d, .int .i64 j, .bool t, .slice A2 n2 c2, .slice B2 m2 d2] 70))
      have HC := Lib.hid ((Box9.new w (.bool false) (.int .i64 i) (.bool s) (.slice A n c) (.slice B m d) (.int .i64 j) (.bool t) (.slice A2 n2 c2) (.slice B2 m2 d2)).later (rnew _ (.cells #[.int .u64 0, .int .u64 0] 24)))
      have HZ := BI.new (w.alloc (.cells #[.bool false, .int .i64 i, .bool s, .slice A n c, .slice B m d, .int .i64 j, .bool t, .slice A2 n2 c2, .slice B2 m2 d2] 70)) (.int .u64 0) (.int .u64 0)
      have hsz : ((w.alloc (.cells #[.bool false, .int .i64 i, .bool s, .slice A n c, .slice B m d, .int .i64 j, .bool t, .slice A2 n2 c2, .slice B2 m2 d2] 70)).alloc (.cells #[.int .u64 0, .int .u64 0] 24)).heap.size = w.heap.size + 2 := by rw [size_alloc1, size_alloc1]
      rw [size_alloc1] at HZ
      have HZ := Lib.hid HZ
      have HB := Lib.hid (raft HB.out (rnew _ (.cells #[.int .u64 0, .int .u64 0] 24)))
      have HQ := Lib.hid (IsRV.mono _ _ _ _ _ _ HB.out h)
      have HQ2 := Lib.hid (IsRV.mono _ _ _ _ _ _ HB.out h')
      have HK := Lib.hid hk
      have HSZ := Lib.hid hsz
      clear h h' hk hsz
      obtain ⟨lo, hlo⟩ : ∃ lo, rat3 (-1) p UQ KU = lo := ⟨_, rfl⟩
      obtain ⟨up, hup⟩ : ∃ up, rat3 1 p2 UQ KU = up := ⟨_, rfl⟩
      try rw [hlo]
      try rw [hup]
      have HLO := Lib.hid hlo
      have HUP := Lib.hid hup
      clear hlo hup
      go_enter Try.func87, Try.ntmps87
      obtain ⟨b0, b1, b2, b3, b4, b5, b6, b7, b8⟩ := HC.out.cells
      go_wp2_with fail
      refine (entire6_any _).mono ?_
      rintro en w1 ⟨rfl, hb⟩
      have hL : Lst p p2 k i j s A n c B m d t A2 n2 c2 B2 m2 d2 w (w1.alloc (.cells #[.int .u64 18442240474082181120, .int .u64 9218868437227405312] 24)) w1.heap.size 18442240474082181120 9218868437227405312 := by
        have hn := rnew w1 (.cells #[.int .u64 18442240474082181120, .int .u64 9218868437227405312] 24)
        have hx := raft hb hn
        refine ⟨raft HB.out hx, HC.out.later hx, HZ.out.later hx, BI.new w1 _ _, IsRV.mono _ _ _ _ _ _ hx HQ.out, IsRV.mono _ _ _ _ _ _ hx HQ2.out, ?_⟩
        have := hb.size
        have := HSZ.out
        omega
      have HL := Lib.hid hL
      clear hb hL HB HC HZ HQ HQ2 HSZ b0 b1 b2 b3 b4 b5 b6 b7 b8
      obtain ⟨b0, b1, b2, b3, b4, b5, b6, b7, b8⟩ := HL.out.2.1.cells
      obtain ⟨x0, x1⟩ := HL.out.2.2.2.1.cells
      obtain ⟨y0, y1⟩ := HL.out.2.2.2.1.frozen
      obtain ⟨z0, z1⟩ := HL.out.2.2.1.cells
      obtain ⟨t0, t1⟩ := HL.out.2.2.1.frozen
      have HF := HL
      obtain ⟨z0', z1'⟩ := HF.out.2.2.1.cells
      obtain ⟨t0', t1'⟩ := HF.out.2.2.1.frozen
      obtain ⟨x0', x1'⟩ := HF.out.2.2.2.1.cells
      obtain ⟨b0', b1', b2', b3', b4', b5', b6', b7', b8'⟩ := HF.out.2.1.cells
      go_wp2
      refine bodyPost_ret (v := .agg #[.int .u64 (18442240474082181120), .int .u64 (9218868437227405312)]) (by simp [results, Try.results87, go_sem, z0', z1']) rfl ?_
      exact ⟨_, rfl, rfl, (HF.out.1.setCell (Nat.le_succ _) _).setCell (Nat.le_succ _) _⟩

end Go.Proofs.Ytmmbbkeefphaiaa
