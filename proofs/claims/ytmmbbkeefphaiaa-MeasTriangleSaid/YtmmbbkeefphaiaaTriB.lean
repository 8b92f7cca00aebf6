/- The law MeasTriangle: the walk. -/
import Derived.Test.YtmmbbkeefphaiaaTriA
namespace Go.Proofs.Ytmmbbkeefphaiaa
set_option linter.unusedVariables false
set_option linter.unusedSimpArgs false
open Go.RowKit Verge

/-- Boxes of two patterns. -/
def Bxs (wx : World) : List (Nat × Value × Value) → Prop
  | [] => True
  | t :: l => B2 wx t.1 24 t.2.1 t.2.2 ∧ Bxs wx l
theorem Bxs.later {wx wy : World} (hb : Below wx.heap.size wx wy) : ∀ {l : List (Nat × Value × Value)}, Bxs wx l → Bxs wy l
  | [], _ => trivial
  | _ :: _, h => ⟨h.1.later hb, Bxs.later hb h.2⟩
def Sx (w wx : World) (l : List (Nat × Value × Value)) : Prop := Below w.heap.size w wx ∧ Bxs wx l
theorem Sx.later {w wx wy : World} {l : List (Nat × Value × Value)} (h : Sx w wx l) (hb : Below wx.heap.size wx wy) : Sx w wy l := ⟨h.1.trans (hb.mono h.1.size), h.2.later hb⟩
theorem Sx.new {w wx : World} {l : List (Nat × Value × Value)} (h : Sx w wx l) (a b : Value) : Sx w (wx.alloc (.cells #[a, b] 24)) ((wx.heap.size, a, b) :: l) :=
  ⟨(h.later (bnew wx _)).1, B2.new wx _ a b, h.2.later (bnew wx _)⟩
theorem size_alloc (w : World) (o : Obj) : (w.alloc o).heap.size = w.heap.size + 1 := Array.size_push ..
theorem Sx.new3 (w : World) (a b c d e f : Value) : Sx w (((w.alloc (.cells #[a, b] 24)).alloc (.cells #[c, d] 24)).alloc (.cells #[e, f] 24)) [(w.heap.size + 1 + 1, e, f), (w.heap.size + 1, c, d), (w.heap.size, a, b)] := by
  have := (((show Sx w w [] from ⟨Below.refl _ _, trivial⟩).new a b).new c d).new e f
  rwa [size_alloc, size_alloc] at this

set_option maxRecDepth 40000 in
set_option maxHeartbeats 16000000 in
theorem triangle_row (x y x2 y2 x3 y3 : Nat) (w : World) (hx : x < 18446744073709551616) (hy : y < 18446744073709551616) (hx2 : x2 < 18446744073709551616) (hy2 : y2 < 18446744073709551616) (hx3 : x3 < 18446744073709551616) (hy3 : y3 < 18446744073709551616) :
    Calls Try.prog 9 #[.agg #[.int .u64 (x : Int), .int .u64 (y : Int)], .agg #[.int .u64 (x2 : Int), .int .u64 (y2 : Int)], .agg #[.int .u64 (x3 : Int), .int .u64 (y3 : Int)]] w fun e w' => e = .returned (.bool true) ∧ Below w.heap.size w w' := by
  have HR1 := Lib.hid (fun W => read6_any x y hx hy W)
  have HR2 := Lib.hid (fun W => read6_any x2 y2 hx2 hy2 W)
  have HR3 := Lib.hid (fun W => read6_any x3 y3 hx3 hy3 W)
  have HI1 := Lib.hid (fun W => in_any x y hx hy W)
  have HI2 := Lib.hid (fun W => in_any x2 y2 hx2 hy2 W)
  have HI3 := Lib.hid (fun W => in_any x3 y3 hx3 hy3 W)
  have HD0 : Hid (∀ W, Calls Try.prog 37 #[.agg #[.float .f64 4607182418800017408, .float .f64 4611686018427387904], .agg #[.float .f64 4609434218613702656, .float .f64 4616189618054758400]] W fun e w' => e = .returned (.float .f64 4611686018427387904) ∧ Below W.heap.size W w') :=
    Lib.hid (fun W => by have := dist_any 4607182418800017408 4611686018427387904 4609434218613702656 4616189618054758400 (by omega) (by omega) (by omega) (by omega) W; rw [dist_const] at this; exact this)
  have oc : (FloatKind.f64.format.order 4611686018427387904 4611686018427387904 != some .eq) = false := (f_self (by omega)).trans (by decide)
  have D12 := Lib.hid (fun W => dist_any x y x2 y2 hx hy hx2 hy2 W)
  have D23 := Lib.hid (fun W => dist_any x2 y2 x3 y3 hx2 hy2 hx3 hy3 W)
  have D13 := Lib.hid (fun W => dist_any x y x3 y3 hx hy hx3 hy3 W)
  have D21 := Lib.hid (fun W => dist_any x2 y2 x y hx2 hy2 hx hy W)
  rw [fdist_comm x y x2 y2] at D21
  have HZ : Hid (fsound x y = true → fsound x2 y2 = true → fsound x3 y3 = true → (fdist x y x2 y2 = 0 ↔ flo x y = flo x2 y2 ∧ fhi x y = fhi x2 y2) ∧ fdist x y x2 y2 ≤ 9218868437227405312 ∧ fdist x2 y2 x3 y3 ≤ 9218868437227405312 ∧ fdist x y x3 y3 ≤ 9218868437227405312 ∧ fdist x y x3 y3 ≤ addup (fdist x y x2 y2) (fdist x2 y2 x3 y3)) :=
    Lib.hid (fun h1 h2 h3 => ⟨fdist_zero hx hy hx2 hy2 h1 h2, fdist_le h1 h2, fdist_le h2 h3, fdist_le h1 h3, fdist_tri h1 h2 h3⟩)
  have hS0 := Lib.hid (Sx.new3 w (.int .u64 (x : Int)) (.int .u64 (y : Int)) (.int .u64 (x2 : Int)) (.int .u64 (y2 : Int)) (.int .u64 (x3 : Int)) (.int .u64 (y3 : Int)))
  have HN : Hid ((fsound x y = true → ¬ ((flo x y : Nat) : Int) = 9218868437227405312) ∧ (fsound x2 y2 = true → ¬ ((flo x2 y2 : Nat) : Int) = 9218868437227405312) ∧ (fsound x3 y3 = true → ¬ ((flo x3 y3 : Nat) : Int) = 9218868437227405312)) :=
    Lib.hid ⟨fun h => by have := flo_ne hx h; omega, fun h => by have := flo_ne hx2 h; omega, fun h => by have := flo_ne hx3 h; omega⟩
  have HV : Hid ((fsound x y = false → flo x y = 9218868437227405312 ∧ fhi x y = 18442240474082181120) ∧ (fsound x2 y2 = false → flo x2 y2 = 9218868437227405312 ∧ fhi x2 y2 = 18442240474082181120) ∧ (fsound x3 y3 = false → flo x3 y3 = 9218868437227405312 ∧ fhi x3 y3 = 18442240474082181120)) := Lib.hid ⟨ends_void, ends_void, ends_void⟩
  clear hx hy hx2 hy2 hx3 hy3
  obtain ⟨s1, hs1⟩ : ∃ s, fsound x y = s := ⟨_, rfl⟩
  obtain ⟨s2, hs2⟩ : ∃ s, fsound x2 y2 = s := ⟨_, rfl⟩
  obtain ⟨s3, hs3⟩ : ∃ s, fsound x3 y3 = s := ⟨_, rfl⟩
  rw [hs1, hs2, hs3] at HZ HN HV
  obtain ⟨p, hp⟩ : ∃ p, flo x y = p := ⟨_, rfl⟩
  obtain ⟨q, hq⟩ : ∃ p, fhi x y = p := ⟨_, rfl⟩
  obtain ⟨p2, hp2⟩ : ∃ p, flo x2 y2 = p := ⟨_, rfl⟩
  obtain ⟨q2, hq2⟩ : ∃ p, fhi x2 y2 = p := ⟨_, rfl⟩
  obtain ⟨p3, hp3⟩ : ∃ p, flo x3 y3 = p := ⟨_, rfl⟩
  obtain ⟨q3, hq3⟩ : ∃ p, fhi x3 y3 = p := ⟨_, rfl⟩
  obtain ⟨da, ha⟩ : ∃ p, fdist x y x2 y2 = p := ⟨_, rfl⟩
  obtain ⟨db, hb⟩ : ∃ p, fdist x2 y2 x3 y3 = p := ⟨_, rfl⟩
  obtain ⟨dc, hc⟩ : ∃ p, fdist x y x3 y3 = p := ⟨_, rfl⟩
  simp only [hp, hq, hp2, hq2, hp3, hq3, ha, hb, hc] at HR1 HR2 HR3 D12 D23 D13 D21 HZ HN HV
  clear hp hq hp2 hq2 hp3 hq3 ha hb hc hs1 hs2 hs3
  go_enter Try.func9, Try.ntmps9
  go_wp2_with fail
  refine (HD0.out _).mono ?_
  rintro en w0 ⟨rfl, hb0⟩
  have hS1 := Lib.hid (hS0.out.later hb0)
  clear hb0
  obtain ⟨a50, a51, _, _⟩ := hS1.out.2.1.cells
  obtain ⟨a40, a41, _, _⟩ := hS1.out.2.2.1.cells
  obtain ⟨a30, a31, _, _⟩ := hS1.out.2.2.2.1.cells
  go_wp2_with fail
  refine (HR1.out _).mono ?_
  rintro en w1 ⟨rfl, hb1⟩
  have hS2 := Lib.hid (hS1.out.later hb1)
  clear hb1 a50 a51 a40 a41 a30 a31
  obtain ⟨a50, a51, _, _⟩ := hS2.out.2.1.cells
  obtain ⟨a40, a41, _, _⟩ := hS2.out.2.2.1.cells
  have a5z := hS2.out.2.1.lt
  have a4z := hS2.out.2.2.1.lt
  have hS2n := Lib.hid (hS2.out.new (.int .u64 (p : Int)) (.int .u64 (q : Int)))
  go_wp2_with fail
  refine (HR2.out _).mono ?_
  rintro en w2 ⟨rfl, hb2⟩
  have hS3 := Lib.hid (hS2n.out.later hb2)
  clear hb2 a50 a51 a40 a41 a5z a4z
  obtain ⟨a50, a51, _, _⟩ := hS3.out.2.2.1.cells
  have a5z := hS3.out.2.2.1.lt
  have hS3n := Lib.hid (hS3.out.new (.int .u64 (p2 : Int)) (.int .u64 (q2 : Int)))
  go_wp2_with fail
  refine (HR3.out _).mono ?_
  rintro en w3 ⟨rfl, hb3⟩
  have hS4 := Lib.hid (hS3n.out.later hb3)
  clear hb3 a50 a51 a5z
  have hS5 := Lib.hid (hS4.out.new (.int .u64 (p3 : Int)) (.int .u64 (q3 : Int)))
  clear hS0 hS1 hS2 hS2n hS3 hS3n hS4 HR1 HR2 HR3 HD0
  go_upto_region 6 with fail
  cases s1
  · obtain ⟨rfl, rfl⟩ := HV.out.1 rfl
    clear HZ HN HV
    refine region_at 13 (Pick [IsV (.agg #[.int .u64 ((9218868437227405312 : Nat) : Int), .int .u64 ((18442240474082181120 : Nat) : Int)]), IsV (.agg #[.int .u64 9218868437227405312, .int .u64 18442240474082181120]), IsV (.bool true), IsV (.bool true), IsV (undef), IsV (undef), IsV (undef), IsV (.bool true), IsV (.bool true), IsV (undef), IsV (undef), IsV (undef), IsV (.bool true)]) (by kernel_rfl) (by kernel_rfl) (by kernel_rfl) (mono_pick ⟨IsV.mono _, IsV.mono _, IsV.mono _, IsV.mono _, IsV.mono _, IsV.mono _, IsV.mono _, IsV.mono _, IsV.mono _, IsV.mono _, IsV.mono _, IsV.mono _, IsV.mono _, trivial⟩) ⟨?_, ?_, ?_, ?_, ?_, ?_, ?_, ?_, ?_, ?_, ?_, ?_, ?_, trivial⟩ ?_
    · intro a W hsz hb hS
      have h7 : a.tmps.getD 7 undef = .pointer (some ⟨w1.heap.size, 0, none⟩) := hS.1
      clear hS hsz
      refine will_of rfl ?_
      have k0 := hS5.out.later hb
      obtain ⟨a90, a91, _, _⟩ := k0.2.1.cells
      obtain ⟨a80, a81, _, _⟩ := k0.2.2.1.cells
      obtain ⟨a70, a71, _, _⟩ := k0.2.2.2.1.cells
      clear k0
      intro K hK
      go_simp
      exact hK _ _ ⟨Below.refl _ _, rfl⟩
    · intro a W hsz hb hS
      clear hS hsz
      refine will_of rfl ?_
      have k0 := hS5.out.later hb
      obtain ⟨a90, a91, _, _⟩ := k0.2.1.cells
      obtain ⟨a80, a81, _, _⟩ := k0.2.2.1.cells
      obtain ⟨a70, a71, _, _⟩ := k0.2.2.2.1.cells
      clear k0
      intro K hK
      go_simp
      refine (empty6_any _).mono ?_
      rintro e W' ⟨rfl, hb'⟩
      exact hK _ _ ⟨hb', rfl⟩
    · intro a W hsz hb hS
      have h23 : a.tmps.getD 23 undef = .agg #[.int .u64 ((9218868437227405312 : Nat) : Int), .int .u64 ((18442240474082181120 : Nat) : Int)] := hS.1
      have h24 : a.tmps.getD 24 undef = .agg #[.int .u64 9218868437227405312, .int .u64 18442240474082181120] := hS.2.1
      clear hS hsz
      refine will_of rfl ?_
      intro K hK
      go_simp
      exact hK _ _ ⟨Below.refl _ _, rfl⟩
    · intro a W hsz hb hS
      have h25 : a.tmps.getD 25 undef = .bool true := hS.1
      clear hS hsz
      refine will_of rfl ?_
      intro K hK
      go_simp
      exact hK _ _ ⟨Below.refl _ _, rfl⟩
    · intro a W hsz hb hS
      have h8 : a.tmps.getD 8 undef = .pointer (some ⟨w2.heap.size, 0, none⟩) := hS.1
      have h26 : a.tmps.getD 26 undef = .bool true := hS.2.1
      clear hS hsz
      exact will_no rfl rfl h26 ⟨Below.refl _ _, rfl⟩
    · intro a W hsz hb hS
      have h26 : a.tmps.getD 26 undef = .bool true := hS.1
      clear hS hsz
      exact will_no rfl rfl h26 ⟨Below.refl _ _, rfl⟩
    · intro a W hsz hb hS
      have h27 : a.tmps.getD 27 undef = undef := hS.1
      have h28 : a.tmps.getD 28 undef = undef := hS.2.1
      have h26 : a.tmps.getD 26 undef = .bool true := hS.2.2.1
      clear hS hsz
      exact will_no rfl rfl h26 ⟨Below.refl _ _, rfl⟩
    · intro a W hsz hb hS
      have h26 : a.tmps.getD 26 undef = .bool true := hS.1
      have h29 : a.tmps.getD 29 undef = undef := hS.2.1
      clear hS hsz
      refine will_of rfl ?_
      intro K hK
      go_simp
      exact hK _ _ ⟨Below.refl _ _, rfl⟩
    · intro a W hsz hb hS
      have h30 : a.tmps.getD 30 undef = .bool true := hS.1
      clear hS hsz
      refine will_of rfl ?_
      intro K hK
      go_simp
      exact hK _ _ ⟨Below.refl _ _, rfl⟩
    · intro a W hsz hb hS
      have h9 : a.tmps.getD 9 undef = .pointer (some ⟨w3.heap.size, 0, none⟩) := hS.1
      have h31 : a.tmps.getD 31 undef = .bool true := hS.2.1
      clear hS hsz
      exact will_no rfl rfl h31 ⟨Below.refl _ _, rfl⟩
    · intro a W hsz hb hS
      have h31 : a.tmps.getD 31 undef = .bool true := hS.1
      clear hS hsz
      exact will_no rfl rfl h31 ⟨Below.refl _ _, rfl⟩
    · intro a W hsz hb hS
      have h32 : a.tmps.getD 32 undef = undef := hS.1
      have h33 : a.tmps.getD 33 undef = undef := hS.2.1
      have h31 : a.tmps.getD 31 undef = .bool true := hS.2.2.1
      clear hS hsz
      exact will_no rfl rfl h31 ⟨Below.refl _ _, rfl⟩
    · intro a W hsz hb hS
      have h31 : a.tmps.getD 31 undef = .bool true := hS.1
      have h34 : a.tmps.getD 34 undef = undef := hS.2.1
      clear hS hsz
      refine will_of rfl ?_
      intro K hK
      go_simp
      exact hK _ _ ⟨Below.refl _ _, rfl⟩
    intro f W hb hH
    have e0 : f 0 = .agg #[.int .u64 ((9218868437227405312 : Nat) : Int), .int .u64 ((18442240474082181120 : Nat) : Int)] := hH.1
    have e1 : f 1 = .agg #[.int .u64 9218868437227405312, .int .u64 18442240474082181120] := hH.2.1
    have e2 : f 2 = .bool true := hH.2.2.1
    have e3 : f 3 = .bool true := hH.2.2.2.1
    have e4 : f 4 = undef := hH.2.2.2.2.1
    have e5 : f 5 = undef := hH.2.2.2.2.2.1
    have e6 : f 6 = undef := hH.2.2.2.2.2.2.1
    have e7 : f 7 = .bool true := hH.2.2.2.2.2.2.2.1
    have e8 : f 8 = .bool true := hH.2.2.2.2.2.2.2.2.1
    have e9 : f 9 = undef := hH.2.2.2.2.2.2.2.2.2.1
    have e10 : f 10 = undef := hH.2.2.2.2.2.2.2.2.2.2.1
    have e11 : f 11 = undef := hH.2.2.2.2.2.2.2.2.2.2.2.1
    have e12 : f 12 = .bool true := hH.2.2.2.2.2.2.2.2.2.2.2.2.1
    simp only [List.take_succ_cons, List.take_zero, List.drop_succ_cons, List.drop_zero, putFrom, Act.put, List.setIfInBounds_toArray, List.set_cons_zero, List.set_cons_succ, Nat.reduceAdd, e0, e1, e2, e3, e4, e5, e6, e7, e8, e9, e10, e11, e12]
    clear e0 e1 e2 e3 e4 e5 e6 e7 e8 e9 e10 e11 e12 hH f
    have hS6 := Lib.hid (hS5.out.later hb)
    clear hb
    go_wp2
    go_ret
    exact ⟨rfl, hS6.out.1⟩
  · have hne := HN.out.1 rfl
    cases s2
    · obtain ⟨rfl, rfl⟩ := HV.out.2.1 rfl
      clear HZ HN HV
      refine region_at 13 (Pick [IsV (.agg #[.int .u64 (p : Int), .int .u64 (q : Int)]), IsV (.agg #[.int .u64 9218868437227405312, .int .u64 18442240474082181120]), IsV (.bool false), IsV (.bool false), IsV (.agg #[.int .u64 ((9218868437227405312 : Nat) : Int), .int .u64 ((18442240474082181120 : Nat) : Int)]), IsV (.agg #[.int .u64 9218868437227405312, .int .u64 18442240474082181120]), IsV (.bool true), IsV (.bool true), IsV (.bool true), IsV (undef), IsV (undef), IsV (undef), IsV (.bool true)]) (by kernel_rfl) (by kernel_rfl) (by kernel_rfl) (mono_pick ⟨IsV.mono _, IsV.mono _, IsV.mono _, IsV.mono _, IsV.mono _, IsV.mono _, IsV.mono _, IsV.mono _, IsV.mono _, IsV.mono _, IsV.mono _, IsV.mono _, IsV.mono _, trivial⟩) ⟨?_, ?_, ?_, ?_, ?_, ?_, ?_, ?_, ?_, ?_, ?_, ?_, ?_, trivial⟩ ?_
      · intro a W hsz hb hS
        have h7 : a.tmps.getD 7 undef = .pointer (some ⟨w1.heap.size, 0, none⟩) := hS.1
        clear hS hsz
        refine will_of rfl ?_
        have k0 := hS5.out.later hb
        obtain ⟨a90, a91, _, _⟩ := k0.2.1.cells
        obtain ⟨a80, a81, _, _⟩ := k0.2.2.1.cells
        obtain ⟨a70, a71, _, _⟩ := k0.2.2.2.1.cells
        clear k0
        intro K hK
        go_simp
        exact hK _ _ ⟨Below.refl _ _, rfl⟩
      · intro a W hsz hb hS
        clear hS hsz
        refine will_of rfl ?_
        have k0 := hS5.out.later hb
        obtain ⟨a90, a91, _, _⟩ := k0.2.1.cells
        obtain ⟨a80, a81, _, _⟩ := k0.2.2.1.cells
        obtain ⟨a70, a71, _, _⟩ := k0.2.2.2.1.cells
        clear k0
        intro K hK
        go_simp
        refine (empty6_any _).mono ?_
        rintro e W' ⟨rfl, hb'⟩
        exact hK _ _ ⟨hb', rfl⟩
      · intro a W hsz hb hS
        have h23 : a.tmps.getD 23 undef = .agg #[.int .u64 (p : Int), .int .u64 (q : Int)] := hS.1
        have h24 : a.tmps.getD 24 undef = .agg #[.int .u64 9218868437227405312, .int .u64 18442240474082181120] := hS.2.1
        clear hS hsz
        refine will_of rfl ?_
        intro K hK
        go_simp
        exact hK _ _ ⟨Below.refl _ _, rfl⟩
      · intro a W hsz hb hS
        have h25 : a.tmps.getD 25 undef = .bool false := hS.1
        clear hS hsz
        refine will_of rfl ?_
        intro K hK
        go_simp
        exact hK _ _ ⟨Below.refl _ _, rfl⟩
      · intro a W hsz hb hS
        have h8 : a.tmps.getD 8 undef = .pointer (some ⟨w2.heap.size, 0, none⟩) := hS.1
        have h26 : a.tmps.getD 26 undef = .bool false := hS.2.1
        clear hS hsz
        refine will_yes rfl rfl h26 ?_
        have k0 := hS5.out.later hb
        obtain ⟨a90, a91, _, _⟩ := k0.2.1.cells
        obtain ⟨a80, a81, _, _⟩ := k0.2.2.1.cells
        obtain ⟨a70, a71, _, _⟩ := k0.2.2.2.1.cells
        clear k0
        intro K hK
        go_simp
        exact hK _ _ ⟨Below.refl _ _, rfl⟩
      · intro a W hsz hb hS
        have h26 : a.tmps.getD 26 undef = .bool false := hS.1
        clear hS hsz
        refine will_yes rfl rfl h26 ?_
        have k0 := hS5.out.later hb
        obtain ⟨a90, a91, _, _⟩ := k0.2.1.cells
        obtain ⟨a80, a81, _, _⟩ := k0.2.2.1.cells
        obtain ⟨a70, a71, _, _⟩ := k0.2.2.2.1.cells
        clear k0
        intro K hK
        go_simp
        refine (empty6_any _).mono ?_
        rintro e W' ⟨rfl, hb'⟩
        exact hK _ _ ⟨hb', rfl⟩
      · intro a W hsz hb hS
        have h27 : a.tmps.getD 27 undef = .agg #[.int .u64 ((9218868437227405312 : Nat) : Int), .int .u64 ((18442240474082181120 : Nat) : Int)] := hS.1
        have h28 : a.tmps.getD 28 undef = .agg #[.int .u64 9218868437227405312, .int .u64 18442240474082181120] := hS.2.1
        have h26 : a.tmps.getD 26 undef = .bool false := hS.2.2.1
        clear hS hsz
        refine will_yes rfl rfl h26 ?_
        intro K hK
        go_simp
        exact hK _ _ ⟨Below.refl _ _, rfl⟩
      · intro a W hsz hb hS
        have h26 : a.tmps.getD 26 undef = .bool false := hS.1
        have h29 : a.tmps.getD 29 undef = .bool true := hS.2.1
        clear hS hsz
        refine will_of rfl ?_
        intro K hK
        go_simp
        exact hK _ _ ⟨Below.refl _ _, rfl⟩
      · intro a W hsz hb hS
        have h30 : a.tmps.getD 30 undef = .bool true := hS.1
        clear hS hsz
        refine will_of rfl ?_
        intro K hK
        go_simp
        exact hK _ _ ⟨Below.refl _ _, rfl⟩
      · intro a W hsz hb hS
        have h9 : a.tmps.getD 9 undef = .pointer (some ⟨w3.heap.size, 0, none⟩) := hS.1
        have h31 : a.tmps.getD 31 undef = .bool true := hS.2.1
        clear hS hsz
        exact will_no rfl rfl h31 ⟨Below.refl _ _, rfl⟩
      · intro a W hsz hb hS
        have h31 : a.tmps.getD 31 undef = .bool true := hS.1
        clear hS hsz
        exact will_no rfl rfl h31 ⟨Below.refl _ _, rfl⟩
      · intro a W hsz hb hS
        have h32 : a.tmps.getD 32 undef = undef := hS.1
        have h33 : a.tmps.getD 33 undef = undef := hS.2.1
        have h31 : a.tmps.getD 31 undef = .bool true := hS.2.2.1
        clear hS hsz
        exact will_no rfl rfl h31 ⟨Below.refl _ _, rfl⟩
      · intro a W hsz hb hS
        have h31 : a.tmps.getD 31 undef = .bool true := hS.1
        have h34 : a.tmps.getD 34 undef = undef := hS.2.1
        clear hS hsz
        refine will_of rfl ?_
        intro K hK
        go_simp
        exact hK _ _ ⟨Below.refl _ _, rfl⟩
      intro f W hb hH
      have e0 : f 0 = .agg #[.int .u64 (p : Int), .int .u64 (q : Int)] := hH.1
      have e1 : f 1 = .agg #[.int .u64 9218868437227405312, .int .u64 18442240474082181120] := hH.2.1
      have e2 : f 2 = .bool false := hH.2.2.1
      have e3 : f 3 = .bool false := hH.2.2.2.1
      have e4 : f 4 = .agg #[.int .u64 ((9218868437227405312 : Nat) : Int), .int .u64 ((18442240474082181120 : Nat) : Int)] := hH.2.2.2.2.1
      have e5 : f 5 = .agg #[.int .u64 9218868437227405312, .int .u64 18442240474082181120] := hH.2.2.2.2.2.1
      have e6 : f 6 = .bool true := hH.2.2.2.2.2.2.1
      have e7 : f 7 = .bool true := hH.2.2.2.2.2.2.2.1
      have e8 : f 8 = .bool true := hH.2.2.2.2.2.2.2.2.1
      have e9 : f 9 = undef := hH.2.2.2.2.2.2.2.2.2.1
      have e10 : f 10 = undef := hH.2.2.2.2.2.2.2.2.2.2.1
      have e11 : f 11 = undef := hH.2.2.2.2.2.2.2.2.2.2.2.1
      have e12 : f 12 = .bool true := hH.2.2.2.2.2.2.2.2.2.2.2.2.1
      simp only [List.take_succ_cons, List.take_zero, List.drop_succ_cons, List.drop_zero, putFrom, Act.put, List.setIfInBounds_toArray, List.set_cons_zero, List.set_cons_succ, Nat.reduceAdd, e0, e1, e2, e3, e4, e5, e6, e7, e8, e9, e10, e11, e12]
      clear e0 e1 e2 e3 e4 e5 e6 e7 e8 e9 e10 e11 e12 hH f
      have hS6 := Lib.hid (hS5.out.later hb)
      clear hb
      go_wp2
      go_ret
      exact ⟨rfl, hS6.out.1⟩
    · have hne2 := HN.out.2.1 rfl
      cases s3
      · obtain ⟨rfl, rfl⟩ := HV.out.2.2 rfl
        clear HZ HN HV
        refine region_at 13 (Pick [IsV (.agg #[.int .u64 (p : Int), .int .u64 (q : Int)]), IsV (.agg #[.int .u64 9218868437227405312, .int .u64 18442240474082181120]), IsV (.bool false), IsV (.bool false), IsV (.agg #[.int .u64 (p2 : Int), .int .u64 (q2 : Int)]), IsV (.agg #[.int .u64 9218868437227405312, .int .u64 18442240474082181120]), IsV (.bool false), IsV (.bool false), IsV (.bool false), IsV (.agg #[.int .u64 ((9218868437227405312 : Nat) : Int), .int .u64 ((18442240474082181120 : Nat) : Int)]), IsV (.agg #[.int .u64 9218868437227405312, .int .u64 18442240474082181120]), IsV (.bool true), IsV (.bool true)]) (by kernel_rfl) (by kernel_rfl) (by kernel_rfl) (mono_pick ⟨IsV.mono _, IsV.mono _, IsV.mono _, IsV.mono _, IsV.mono _, IsV.mono _, IsV.mono _, IsV.mono _, IsV.mono _, IsV.mono _, IsV.mono _, IsV.mono _, IsV.mono _, trivial⟩) ⟨?_, ?_, ?_, ?_, ?_, ?_, ?_, ?_, ?_, ?_, ?_, ?_, ?_, trivial⟩ ?_
        · intro a W hsz hb hS
          have h7 : a.tmps.getD 7 undef = .pointer (some ⟨w1.heap.size, 0, none⟩) := hS.1
          clear hS hsz
          refine will_of rfl ?_
          have k0 := hS5.out.later hb
          obtain ⟨a90, a91, _, _⟩ := k0.2.1.cells
          obtain ⟨a80, a81, _, _⟩ := k0.2.2.1.cells
          obtain ⟨a70, a71, _, _⟩ := k0.2.2.2.1.cells
          clear k0
          intro K hK
          go_simp
          exact hK _ _ ⟨Below.refl _ _, rfl⟩
        · intro a W hsz hb hS
          clear hS hsz
          refine will_of rfl ?_
          have k0 := hS5.out.later hb
          obtain ⟨a90, a91, _, _⟩ := k0.2.1.cells
          obtain ⟨a80, a81, _, _⟩ := k0.2.2.1.cells
          obtain ⟨a70, a71, _, _⟩ := k0.2.2.2.1.cells
          clear k0
          intro K hK
          go_simp
          refine (empty6_any _).mono ?_
          rintro e W' ⟨rfl, hb'⟩
          exact hK _ _ ⟨hb', rfl⟩
        · intro a W hsz hb hS
          have h23 : a.tmps.getD 23 undef = .agg #[.int .u64 (p : Int), .int .u64 (q : Int)] := hS.1
          have h24 : a.tmps.getD 24 undef = .agg #[.int .u64 9218868437227405312, .int .u64 18442240474082181120] := hS.2.1
          clear hS hsz
          refine will_of rfl ?_
          intro K hK
          go_simp
          exact hK _ _ ⟨Below.refl _ _, rfl⟩
        · intro a W hsz hb hS
          have h25 : a.tmps.getD 25 undef = .bool false := hS.1
          clear hS hsz
          refine will_of rfl ?_
          intro K hK
          go_simp
          exact hK _ _ ⟨Below.refl _ _, rfl⟩
        · intro a W hsz hb hS
          have h8 : a.tmps.getD 8 undef = .pointer (some ⟨w2.heap.size, 0, none⟩) := hS.1
          have h26 : a.tmps.getD 26 undef = .bool false := hS.2.1
          clear hS hsz
          refine will_yes rfl rfl h26 ?_
          have k0 := hS5.out.later hb
          obtain ⟨a90, a91, _, _⟩ := k0.2.1.cells
          obtain ⟨a80, a81, _, _⟩ := k0.2.2.1.cells
          obtain ⟨a70, a71, _, _⟩ := k0.2.2.2.1.cells
          clear k0
          intro K hK
          go_simp
          exact hK _ _ ⟨Below.refl _ _, rfl⟩
        · intro a W hsz hb hS
          have h26 : a.tmps.getD 26 undef = .bool false := hS.1
          clear hS hsz
          refine will_yes rfl rfl h26 ?_
          have k0 := hS5.out.later hb
          obtain ⟨a90, a91, _, _⟩ := k0.2.1.cells
          obtain ⟨a80, a81, _, _⟩ := k0.2.2.1.cells
          obtain ⟨a70, a71, _, _⟩ := k0.2.2.2.1.cells
          clear k0
          intro K hK
          go_simp
          refine (empty6_any _).mono ?_
          rintro e W' ⟨rfl, hb'⟩
          exact hK _ _ ⟨hb', rfl⟩
        · intro a W hsz hb hS
          have h27 : a.tmps.getD 27 undef = .agg #[.int .u64 (p2 : Int), .int .u64 (q2 : Int)] := hS.1
          have h28 : a.tmps.getD 28 undef = .agg #[.int .u64 9218868437227405312, .int .u64 18442240474082181120] := hS.2.1
          have h26 : a.tmps.getD 26 undef = .bool false := hS.2.2.1
          clear hS hsz
          refine will_yes rfl rfl h26 ?_
          intro K hK
          go_simp
          exact hK _ _ ⟨Below.refl _ _, rfl⟩
        · intro a W hsz hb hS
          have h26 : a.tmps.getD 26 undef = .bool false := hS.1
          have h29 : a.tmps.getD 29 undef = .bool false := hS.2.1
          clear hS hsz
          refine will_of rfl ?_
          intro K hK
          go_simp
          exact hK _ _ ⟨Below.refl _ _, rfl⟩
        · intro a W hsz hb hS
          have h30 : a.tmps.getD 30 undef = .bool false := hS.1
          clear hS hsz
          refine will_of rfl ?_
          intro K hK
          go_simp
          exact hK _ _ ⟨Below.refl _ _, rfl⟩
        · intro a W hsz hb hS
          have h9 : a.tmps.getD 9 undef = .pointer (some ⟨w3.heap.size, 0, none⟩) := hS.1
          have h31 : a.tmps.getD 31 undef = .bool false := hS.2.1
          clear hS hsz
          refine will_yes rfl rfl h31 ?_
          have k0 := hS5.out.later hb
          obtain ⟨a90, a91, _, _⟩ := k0.2.1.cells
          obtain ⟨a80, a81, _, _⟩ := k0.2.2.1.cells
          obtain ⟨a70, a71, _, _⟩ := k0.2.2.2.1.cells
          clear k0
          intro K hK
          go_simp
          exact hK _ _ ⟨Below.refl _ _, rfl⟩
        · intro a W hsz hb hS
          have h31 : a.tmps.getD 31 undef = .bool false := hS.1
          clear hS hsz
          refine will_yes rfl rfl h31 ?_
          have k0 := hS5.out.later hb
          obtain ⟨a90, a91, _, _⟩ := k0.2.1.cells
          obtain ⟨a80, a81, _, _⟩ := k0.2.2.1.cells
          obtain ⟨a70, a71, _, _⟩ := k0.2.2.2.1.cells
          clear k0
          intro K hK
          go_simp
          refine (empty6_any _).mono ?_
          rintro e W' ⟨rfl, hb'⟩
          exact hK _ _ ⟨hb', rfl⟩
        · intro a W hsz hb hS
          have h32 : a.tmps.getD 32 undef = .agg #[.int .u64 ((9218868437227405312 : Nat) : Int), .int .u64 ((18442240474082181120 : Nat) : Int)] := hS.1
          have h33 : a.tmps.getD 33 undef = .agg #[.int .u64 9218868437227405312, .int .u64 18442240474082181120] := hS.2.1
          have h31 : a.tmps.getD 31 undef = .bool false := hS.2.2.1
          clear hS hsz
          refine will_yes rfl rfl h31 ?_
          intro K hK
          go_simp
          exact hK _ _ ⟨Below.refl _ _, rfl⟩
        · intro a W hsz hb hS
          have h31 : a.tmps.getD 31 undef = .bool false := hS.1
          have h34 : a.tmps.getD 34 undef = .bool true := hS.2.1
          clear hS hsz
          refine will_of rfl ?_
          intro K hK
          go_simp
          exact hK _ _ ⟨Below.refl _ _, rfl⟩
        intro f W hb hH
        have e0 : f 0 = .agg #[.int .u64 (p : Int), .int .u64 (q : Int)] := hH.1
        have e1 : f 1 = .agg #[.int .u64 9218868437227405312, .int .u64 18442240474082181120] := hH.2.1
        have e2 : f 2 = .bool false := hH.2.2.1
        have e3 : f 3 = .bool false := hH.2.2.2.1
        have e4 : f 4 = .agg #[.int .u64 (p2 : Int), .int .u64 (q2 : Int)] := hH.2.2.2.2.1
        have e5 : f 5 = .agg #[.int .u64 9218868437227405312, .int .u64 18442240474082181120] := hH.2.2.2.2.2.1
        have e6 : f 6 = .bool false := hH.2.2.2.2.2.2.1
        have e7 : f 7 = .bool false := hH.2.2.2.2.2.2.2.1
        have e8 : f 8 = .bool false := hH.2.2.2.2.2.2.2.2.1
        have e9 : f 9 = .agg #[.int .u64 ((9218868437227405312 : Nat) : Int), .int .u64 ((18442240474082181120 : Nat) : Int)] := hH.2.2.2.2.2.2.2.2.2.1
        have e10 : f 10 = .agg #[.int .u64 9218868437227405312, .int .u64 18442240474082181120] := hH.2.2.2.2.2.2.2.2.2.2.1
        have e11 : f 11 = .bool true := hH.2.2.2.2.2.2.2.2.2.2.2.1
        have e12 : f 12 = .bool true := hH.2.2.2.2.2.2.2.2.2.2.2.2.1
        simp only [List.take_succ_cons, List.take_zero, List.drop_succ_cons, List.drop_zero, putFrom, Act.put, List.setIfInBounds_toArray, List.set_cons_zero, List.set_cons_succ, Nat.reduceAdd, e0, e1, e2, e3, e4, e5, e6, e7, e8, e9, e10, e11, e12]
        clear e0 e1 e2 e3 e4 e5 e6 e7 e8 e9 e10 e11 e12 hH f
        have hS6 := Lib.hid (hS5.out.later hb)
        clear hb
        go_wp2
        go_ret
        exact ⟨rfl, hS6.out.1⟩
      · have hne3 := HN.out.2.2 rfl
        obtain ⟨hz0, ha, hb, hc, ht⟩ := HZ.out (by simp) (by simp) (by simp)
        have HAd := Lib.hid (fun W => addup_is da db ha hb W)
        have hd := addup_le da db ha hb
        obtain ⟨dd, hdd⟩ : ∃ d, addup da db = d := ⟨_, rfl⟩
        rw [hdd] at HAd hd ht
        obtain ⟨e, he⟩ : ∃ e : Bool, decide (da = 0) = e := ⟨_, rfl⟩
        have o1 : (FloatKind.f64.format.order da 0 == some .lt) = false := by
          refine (f_lt (by omega) (by omega)).trans (decide_eq_false ?_)
          rw [FK_small ha]; rintro ⟨_, _, h⟩; have : FK 0 = 0 := rfl; omega
        have o2 : (FloatKind.f64.format.order da 0 == some .eq) = e := by
          rw [o_isz (show da < 18446744073709551616 by omega), ← he]
          exact decide_eq_decide.2 (by omega)
        have o3 : (FloatKind.f64.format.order da da != some .eq) = false := (f_self (by omega)).trans (decide_eq_false (small_nan ha))
        have o4 : (FloatKind.f64.format.order dc dd == some .lt || FloatKind.f64.format.order dc dd == some .eq) = true := by
          refine (f_le (by omega) (by omega)).trans (decide_eq_true ⟨small_nan hc, small_nan hd, ?_⟩)
          rw [FK_small hc, FK_small hd]; omega
        have O4 := Lib.hid o4
        have HEQ : Hid ((¬ (p : Int) = p2 ∧ e = false) ∨ ((p : Int) = p2 ∧ ¬ (q : Int) = q2 ∧ e = false) ∨ ((p : Int) = p2 ∧ (q : Int) = q2 ∧ e = true)) := by
          refine Lib.hid ?_
          by_cases h1 : p = p2
          · by_cases h2 : q = q2
            · exact .inr (.inr ⟨by omega, by omega, by rw [← he]; exact decide_eq_true (hz0.2 ⟨h1, h2⟩)⟩)
            · exact .inr (.inl ⟨by omega, by omega, by rw [← he]; exact decide_eq_false (fun h => h2 (hz0.1 h).2)⟩)
          · exact .inl ⟨by omega, by rw [← he]; exact decide_eq_false (fun h => h1 (hz0.1 h).1)⟩
        have hee : (e != e) = false := by cases e <;> rfl
        clear hz0 ha hb hc ht hd hdd he HZ HN HV o4
        refine region_at 13 (Pick [IsV (.agg #[.int .u64 (p : Int), .int .u64 (q : Int)]), IsV (.agg #[.int .u64 9218868437227405312, .int .u64 18442240474082181120]), IsV (.bool false), IsV (.bool false), IsV (.agg #[.int .u64 (p2 : Int), .int .u64 (q2 : Int)]), IsV (.agg #[.int .u64 9218868437227405312, .int .u64 18442240474082181120]), IsV (.bool false), IsV (.bool false), IsV (.bool false), IsV (.agg #[.int .u64 (p3 : Int), .int .u64 (q3 : Int)]), IsV (.agg #[.int .u64 9218868437227405312, .int .u64 18442240474082181120]), IsV (.bool false), IsV (.bool false)]) (by kernel_rfl) (by kernel_rfl) (by kernel_rfl) (mono_pick ⟨IsV.mono _, IsV.mono _, IsV.mono _, IsV.mono _, IsV.mono _, IsV.mono _, IsV.mono _, IsV.mono _, IsV.mono _, IsV.mono _, IsV.mono _, IsV.mono _, IsV.mono _, trivial⟩) ⟨?_, ?_, ?_, ?_, ?_, ?_, ?_, ?_, ?_, ?_, ?_, ?_, ?_, trivial⟩ ?_
        · intro a W hsz hb hS
          have h7 : a.tmps.getD 7 undef = .pointer (some ⟨w1.heap.size, 0, none⟩) := hS.1
          clear hS hsz
          refine will_of rfl ?_
          have k0 := hS5.out.later hb
          obtain ⟨a90, a91, _, _⟩ := k0.2.1.cells
          obtain ⟨a80, a81, _, _⟩ := k0.2.2.1.cells
          obtain ⟨a70, a71, _, _⟩ := k0.2.2.2.1.cells
          clear k0
          intro K hK
          go_simp
          exact hK _ _ ⟨Below.refl _ _, rfl⟩
        · intro a W hsz hb hS
          clear hS hsz
          refine will_of rfl ?_
          have k0 := hS5.out.later hb
          obtain ⟨a90, a91, _, _⟩ := k0.2.1.cells
          obtain ⟨a80, a81, _, _⟩ := k0.2.2.1.cells
          obtain ⟨a70, a71, _, _⟩ := k0.2.2.2.1.cells
          clear k0
          intro K hK
          go_simp
          refine (empty6_any _).mono ?_
          rintro e W' ⟨rfl, hb'⟩
          exact hK _ _ ⟨hb', rfl⟩
        · intro a W hsz hb hS
          have h23 : a.tmps.getD 23 undef = .agg #[.int .u64 (p : Int), .int .u64 (q : Int)] := hS.1
          have h24 : a.tmps.getD 24 undef = .agg #[.int .u64 9218868437227405312, .int .u64 18442240474082181120] := hS.2.1
          clear hS hsz
          refine will_of rfl ?_
          intro K hK
          go_simp
          exact hK _ _ ⟨Below.refl _ _, rfl⟩
        · intro a W hsz hb hS
          have h25 : a.tmps.getD 25 undef = .bool false := hS.1
          clear hS hsz
          refine will_of rfl ?_
          intro K hK
          go_simp
          exact hK _ _ ⟨Below.refl _ _, rfl⟩
        · intro a W hsz hb hS
          have h8 : a.tmps.getD 8 undef = .pointer (some ⟨w2.heap.size, 0, none⟩) := hS.1
          have h26 : a.tmps.getD 26 undef = .bool false := hS.2.1
          clear hS hsz
          refine will_yes rfl rfl h26 ?_
          have k0 := hS5.out.later hb
          obtain ⟨a90, a91, _, _⟩ := k0.2.1.cells
          obtain ⟨a80, a81, _, _⟩ := k0.2.2.1.cells
          obtain ⟨a70, a71, _, _⟩ := k0.2.2.2.1.cells
          clear k0
          intro K hK
          go_simp
          exact hK _ _ ⟨Below.refl _ _, rfl⟩
        · intro a W hsz hb hS
          have h26 : a.tmps.getD 26 undef = .bool false := hS.1
          clear hS hsz
          refine will_yes rfl rfl h26 ?_
          have k0 := hS5.out.later hb
          obtain ⟨a90, a91, _, _⟩ := k0.2.1.cells
          obtain ⟨a80, a81, _, _⟩ := k0.2.2.1.cells
          obtain ⟨a70, a71, _, _⟩ := k0.2.2.2.1.cells
          clear k0
          intro K hK
          go_simp
          refine (empty6_any _).mono ?_
          rintro e W' ⟨rfl, hb'⟩
          exact hK _ _ ⟨hb', rfl⟩
        · intro a W hsz hb hS
          have h27 : a.tmps.getD 27 undef = .agg #[.int .u64 (p2 : Int), .int .u64 (q2 : Int)] := hS.1
          have h28 : a.tmps.getD 28 undef = .agg #[.int .u64 9218868437227405312, .int .u64 18442240474082181120] := hS.2.1
          have h26 : a.tmps.getD 26 undef = .bool false := hS.2.2.1
          clear hS hsz
          refine will_yes rfl rfl h26 ?_
          intro K hK
          go_simp
          exact hK _ _ ⟨Below.refl _ _, rfl⟩
        · intro a W hsz hb hS
          have h26 : a.tmps.getD 26 undef = .bool false := hS.1
          have h29 : a.tmps.getD 29 undef = .bool false := hS.2.1
          clear hS hsz
          refine will_of rfl ?_
          intro K hK
          go_simp
          exact hK _ _ ⟨Below.refl _ _, rfl⟩
        · intro a W hsz hb hS
          have h30 : a.tmps.getD 30 undef = .bool false := hS.1
          clear hS hsz
          refine will_of rfl ?_
          intro K hK
          go_simp
          exact hK _ _ ⟨Below.refl _ _, rfl⟩
        · intro a W hsz hb hS
          have h9 : a.tmps.getD 9 undef = .pointer (some ⟨w3.heap.size, 0, none⟩) := hS.1
          have h31 : a.tmps.getD 31 undef = .bool false := hS.2.1
          clear hS hsz
          refine will_yes rfl rfl h31 ?_
          have k0 := hS5.out.later hb
          obtain ⟨a90, a91, _, _⟩ := k0.2.1.cells
          obtain ⟨a80, a81, _, _⟩ := k0.2.2.1.cells
          obtain ⟨a70, a71, _, _⟩ := k0.2.2.2.1.cells
          clear k0
          intro K hK
          go_simp
          exact hK _ _ ⟨Below.refl _ _, rfl⟩
        · intro a W hsz hb hS
          have h31 : a.tmps.getD 31 undef = .bool false := hS.1
          clear hS hsz
          refine will_yes rfl rfl h31 ?_
          have k0 := hS5.out.later hb
          obtain ⟨a90, a91, _, _⟩ := k0.2.1.cells
          obtain ⟨a80, a81, _, _⟩ := k0.2.2.1.cells
          obtain ⟨a70, a71, _, _⟩ := k0.2.2.2.1.cells
          clear k0
          intro K hK
          go_simp
          refine (empty6_any _).mono ?_
          rintro e W' ⟨rfl, hb'⟩
          exact hK _ _ ⟨hb', rfl⟩
        · intro a W hsz hb hS
          have h32 : a.tmps.getD 32 undef = .agg #[.int .u64 (p3 : Int), .int .u64 (q3 : Int)] := hS.1
          have h33 : a.tmps.getD 33 undef = .agg #[.int .u64 9218868437227405312, .int .u64 18442240474082181120] := hS.2.1
          have h31 : a.tmps.getD 31 undef = .bool false := hS.2.2.1
          clear hS hsz
          refine will_yes rfl rfl h31 ?_
          intro K hK
          go_simp
          exact hK _ _ ⟨Below.refl _ _, rfl⟩
        · intro a W hsz hb hS
          have h31 : a.tmps.getD 31 undef = .bool false := hS.1
          have h34 : a.tmps.getD 34 undef = .bool false := hS.2.1
          clear hS hsz
          refine will_of rfl ?_
          intro K hK
          go_simp
          exact hK _ _ ⟨Below.refl _ _, rfl⟩
        intro f W hb hH
        have e0 : f 0 = .agg #[.int .u64 (p : Int), .int .u64 (q : Int)] := hH.1
        have e1 : f 1 = .agg #[.int .u64 9218868437227405312, .int .u64 18442240474082181120] := hH.2.1
        have e2 : f 2 = .bool false := hH.2.2.1
        have e3 : f 3 = .bool false := hH.2.2.2.1
        have e4 : f 4 = .agg #[.int .u64 (p2 : Int), .int .u64 (q2 : Int)] := hH.2.2.2.2.1
        have e5 : f 5 = .agg #[.int .u64 9218868437227405312, .int .u64 18442240474082181120] := hH.2.2.2.2.2.1
        have e6 : f 6 = .bool false := hH.2.2.2.2.2.2.1
        have e7 : f 7 = .bool false := hH.2.2.2.2.2.2.2.1
        have e8 : f 8 = .bool false := hH.2.2.2.2.2.2.2.2.1
        have e9 : f 9 = .agg #[.int .u64 (p3 : Int), .int .u64 (q3 : Int)] := hH.2.2.2.2.2.2.2.2.2.1
        have e10 : f 10 = .agg #[.int .u64 9218868437227405312, .int .u64 18442240474082181120] := hH.2.2.2.2.2.2.2.2.2.2.1
        have e11 : f 11 = .bool false := hH.2.2.2.2.2.2.2.2.2.2.2.1
        have e12 : f 12 = .bool false := hH.2.2.2.2.2.2.2.2.2.2.2.2.1
        simp only [List.take_succ_cons, List.take_zero, List.drop_succ_cons, List.drop_zero, putFrom, Act.put, List.setIfInBounds_toArray, List.set_cons_zero, List.set_cons_succ, Nat.reduceAdd, e0, e1, e2, e3, e4, e5, e6, e7, e8, e9, e10, e11, e12]
        clear e0 e1 e2 e3 e4 e5 e6 e7 e8 e9 e10 e11 e12 hH f
        have hS6 := Lib.hid (hS5.out.later hb)
        clear hb hne hne2 hne3
        go_upto_region 8 with fail
        refine region_at 6 (Pick [IsV (.agg #[.int .u64 (x : Int), .int .u64 (y : Int)]), IsV (.agg #[.float .f64 x, .float .f64 y]), IsV (.agg #[.int .u64 (x2 : Int), .int .u64 (y2 : Int)]), IsV (.agg #[.float .f64 x2, .float .f64 y2]), IsV (.float .f64 da), IsV (.float .f64 da)]) (by kernel_rfl) (by kernel_rfl) (by kernel_rfl) (mono_pick ⟨IsV.mono _, IsV.mono _, IsV.mono _, IsV.mono _, IsV.mono _, IsV.mono _, trivial⟩) ⟨?_, ?_, ?_, ?_, ?_, ?_, trivial⟩ ?_
        · intro a W hsz hb hS
          have h3 : a.tmps.getD 3 undef = .pointer (some ⟨w.heap.size, 0, none⟩) := hS.1
          clear hS hsz
          refine will_of rfl ?_
          have k0 := hS6.out.later hb
          obtain ⟨a30, a31, _, _⟩ := k0.2.2.2.2.2.2.1.cells
          obtain ⟨a40, a41, _, _⟩ := k0.2.2.2.2.2.1.cells
          clear k0
          intro K hK
          go_simp
          exact hK _ _ ⟨Below.refl _ _, rfl⟩
        · intro a W hsz hb hS
          have h36 : a.tmps.getD 36 undef = .agg #[.int .u64 (x : Int), .int .u64 (y : Int)] := hS.1
          clear hS hsz
          refine will_of rfl ?_
          have k0 := hS6.out.later hb
          obtain ⟨a30, a31, _, _⟩ := k0.2.2.2.2.2.2.1.cells
          obtain ⟨a40, a41, _, _⟩ := k0.2.2.2.2.2.1.cells
          clear k0
          intro K hK
          go_simp
          refine (HI1.out _).mono ?_
          rintro e' W' ⟨rfl, hb'⟩
          exact hK _ _ ⟨hb', rfl⟩
        · intro a W hsz hb hS
          have h4 : a.tmps.getD 4 undef = .pointer (some ⟨w.heap.size + 1, 0, none⟩) := hS.1
          clear hS hsz
          refine will_of rfl ?_
          have k0 := hS6.out.later hb
          obtain ⟨a30, a31, _, _⟩ := k0.2.2.2.2.2.2.1.cells
          obtain ⟨a40, a41, _, _⟩ := k0.2.2.2.2.2.1.cells
          clear k0
          intro K hK
          go_simp
          exact hK _ _ ⟨Below.refl _ _, rfl⟩
        · intro a W hsz hb hS
          have h38 : a.tmps.getD 38 undef = .agg #[.int .u64 (x2 : Int), .int .u64 (y2 : Int)] := hS.1
          clear hS hsz
          refine will_of rfl ?_
          have k0 := hS6.out.later hb
          obtain ⟨a30, a31, _, _⟩ := k0.2.2.2.2.2.2.1.cells
          obtain ⟨a40, a41, _, _⟩ := k0.2.2.2.2.2.1.cells
          clear k0
          intro K hK
          go_simp
          refine (HI2.out _).mono ?_
          rintro e' W' ⟨rfl, hb'⟩
          exact hK _ _ ⟨hb', rfl⟩
        · intro a W hsz hb hS
          have h37 : a.tmps.getD 37 undef = .agg #[.float .f64 x, .float .f64 y] := hS.1
          have h39 : a.tmps.getD 39 undef = .agg #[.float .f64 x2, .float .f64 y2] := hS.2.1
          clear hS hsz
          refine will_of rfl ?_
          have k0 := hS6.out.later hb
          obtain ⟨a30, a31, _, _⟩ := k0.2.2.2.2.2.2.1.cells
          obtain ⟨a40, a41, _, _⟩ := k0.2.2.2.2.2.1.cells
          clear k0
          intro K hK
          go_simp
          refine (D12.out _).mono ?_
          rintro e' W' ⟨rfl, hb'⟩
          exact hK _ _ ⟨hb', rfl⟩
        · intro a W hsz hb hS
          have h40 : a.tmps.getD 40 undef = .float .f64 da := hS.1
          clear hS hsz
          refine will_of rfl ?_
          intro K hK
          go_simp
          exact hK _ _ ⟨Below.refl _ _, rfl⟩
        intro f W hb hH
        have e0 : f 0 = .agg #[.int .u64 (x : Int), .int .u64 (y : Int)] := hH.1
        have e1 : f 1 = .agg #[.float .f64 x, .float .f64 y] := hH.2.1
        have e2 : f 2 = .agg #[.int .u64 (x2 : Int), .int .u64 (y2 : Int)] := hH.2.2.1
        have e3 : f 3 = .agg #[.float .f64 x2, .float .f64 y2] := hH.2.2.2.1
        have e4 : f 4 = .float .f64 da := hH.2.2.2.2.1
        have e5 : f 5 = .float .f64 da := hH.2.2.2.2.2.1
        simp only [List.take_succ_cons, List.take_zero, List.drop_succ_cons, List.drop_zero, putFrom, Act.put, List.setIfInBounds_toArray, List.set_cons_zero, List.set_cons_succ, Nat.reduceAdd, e0, e1, e2, e3, e4, e5]
        clear e0 e1 e2 e3 e4 e5 hH f
        have hS7 := Lib.hid (hS6.out.later hb)
        clear hb
        go_upto_region 9 with fail
        refine region_at 6 (Pick [IsV (.agg #[.int .u64 (x2 : Int), .int .u64 (y2 : Int)]), IsV (.agg #[.float .f64 x2, .float .f64 y2]), IsV (.agg #[.int .u64 (x3 : Int), .int .u64 (y3 : Int)]), IsV (.agg #[.float .f64 x3, .float .f64 y3]), IsV (.float .f64 db), IsV (.float .f64 db)]) (by kernel_rfl) (by kernel_rfl) (by kernel_rfl) (mono_pick ⟨IsV.mono _, IsV.mono _, IsV.mono _, IsV.mono _, IsV.mono _, IsV.mono _, trivial⟩) ⟨?_, ?_, ?_, ?_, ?_, ?_, trivial⟩ ?_
        · intro a W hsz hb hS
          have h4 : a.tmps.getD 4 undef = .pointer (some ⟨w.heap.size + 1, 0, none⟩) := hS.1
          clear hS hsz
          refine will_of rfl ?_
          have k0 := hS7.out.later hb
          obtain ⟨a40, a41, _, _⟩ := k0.2.2.2.2.2.1.cells
          obtain ⟨a50, a51, _, _⟩ := k0.2.2.2.2.1.cells
          clear k0
          intro K hK
          go_simp
          exact hK _ _ ⟨Below.refl _ _, rfl⟩
        · intro a W hsz hb hS
          have h41 : a.tmps.getD 41 undef = .agg #[.int .u64 (x2 : Int), .int .u64 (y2 : Int)] := hS.1
          clear hS hsz
          refine will_of rfl ?_
          have k0 := hS7.out.later hb
          obtain ⟨a40, a41, _, _⟩ := k0.2.2.2.2.2.1.cells
          obtain ⟨a50, a51, _, _⟩ := k0.2.2.2.2.1.cells
          clear k0
          intro K hK
          go_simp
          refine (HI2.out _).mono ?_
          rintro e' W' ⟨rfl, hb'⟩
          exact hK _ _ ⟨hb', rfl⟩
        · intro a W hsz hb hS
          have h5 : a.tmps.getD 5 undef = .pointer (some ⟨w.heap.size + 1 + 1, 0, none⟩) := hS.1
          clear hS hsz
          refine will_of rfl ?_
          have k0 := hS7.out.later hb
          obtain ⟨a40, a41, _, _⟩ := k0.2.2.2.2.2.1.cells
          obtain ⟨a50, a51, _, _⟩ := k0.2.2.2.2.1.cells
          clear k0
          intro K hK
          go_simp
          exact hK _ _ ⟨Below.refl _ _, rfl⟩
        · intro a W hsz hb hS
          have h43 : a.tmps.getD 43 undef = .agg #[.int .u64 (x3 : Int), .int .u64 (y3 : Int)] := hS.1
          clear hS hsz
          refine will_of rfl ?_
          have k0 := hS7.out.later hb
          obtain ⟨a40, a41, _, _⟩ := k0.2.2.2.2.2.1.cells
          obtain ⟨a50, a51, _, _⟩ := k0.2.2.2.2.1.cells
          clear k0
          intro K hK
          go_simp
          refine (HI3.out _).mono ?_
          rintro e' W' ⟨rfl, hb'⟩
          exact hK _ _ ⟨hb', rfl⟩
        · intro a W hsz hb hS
          have h42 : a.tmps.getD 42 undef = .agg #[.float .f64 x2, .float .f64 y2] := hS.1
          have h44 : a.tmps.getD 44 undef = .agg #[.float .f64 x3, .float .f64 y3] := hS.2.1
          clear hS hsz
          refine will_of rfl ?_
          have k0 := hS7.out.later hb
          obtain ⟨a40, a41, _, _⟩ := k0.2.2.2.2.2.1.cells
          obtain ⟨a50, a51, _, _⟩ := k0.2.2.2.2.1.cells
          clear k0
          intro K hK
          go_simp
          refine (D23.out _).mono ?_
          rintro e' W' ⟨rfl, hb'⟩
          exact hK _ _ ⟨hb', rfl⟩
        · intro a W hsz hb hS
          have h45 : a.tmps.getD 45 undef = .float .f64 db := hS.1
          clear hS hsz
          refine will_of rfl ?_
          intro K hK
          go_simp
          exact hK _ _ ⟨Below.refl _ _, rfl⟩
        intro f W hb hH
        have e0 : f 0 = .agg #[.int .u64 (x2 : Int), .int .u64 (y2 : Int)] := hH.1
        have e1 : f 1 = .agg #[.float .f64 x2, .float .f64 y2] := hH.2.1
        have e2 : f 2 = .agg #[.int .u64 (x3 : Int), .int .u64 (y3 : Int)] := hH.2.2.1
        have e3 : f 3 = .agg #[.float .f64 x3, .float .f64 y3] := hH.2.2.2.1
        have e4 : f 4 = .float .f64 db := hH.2.2.2.2.1
        have e5 : f 5 = .float .f64 db := hH.2.2.2.2.2.1
        simp only [List.take_succ_cons, List.take_zero, List.drop_succ_cons, List.drop_zero, putFrom, Act.put, List.setIfInBounds_toArray, List.set_cons_zero, List.set_cons_succ, Nat.reduceAdd, e0, e1, e2, e3, e4, e5]
        clear e0 e1 e2 e3 e4 e5 hH f
        have hS8 := Lib.hid (hS7.out.later hb)
        clear hb
        go_upto_region 10 with fail
        refine region_at 6 (Pick [IsV (.agg #[.int .u64 (x : Int), .int .u64 (y : Int)]), IsV (.agg #[.float .f64 x, .float .f64 y]), IsV (.agg #[.int .u64 (x3 : Int), .int .u64 (y3 : Int)]), IsV (.agg #[.float .f64 x3, .float .f64 y3]), IsV (.float .f64 dc), IsV (.float .f64 dc)]) (by kernel_rfl) (by kernel_rfl) (by kernel_rfl) (mono_pick ⟨IsV.mono _, IsV.mono _, IsV.mono _, IsV.mono _, IsV.mono _, IsV.mono _, trivial⟩) ⟨?_, ?_, ?_, ?_, ?_, ?_, trivial⟩ ?_
        · intro a W hsz hb hS
          have h3 : a.tmps.getD 3 undef = .pointer (some ⟨w.heap.size, 0, none⟩) := hS.1
          clear hS hsz
          refine will_of rfl ?_
          have k0 := hS8.out.later hb
          obtain ⟨a30, a31, _, _⟩ := k0.2.2.2.2.2.2.1.cells
          obtain ⟨a50, a51, _, _⟩ := k0.2.2.2.2.1.cells
          clear k0
          intro K hK
          go_simp
          exact hK _ _ ⟨Below.refl _ _, rfl⟩
        · intro a W hsz hb hS
          have h46 : a.tmps.getD 46 undef = .agg #[.int .u64 (x : Int), .int .u64 (y : Int)] := hS.1
          clear hS hsz
          refine will_of rfl ?_
          have k0 := hS8.out.later hb
          obtain ⟨a30, a31, _, _⟩ := k0.2.2.2.2.2.2.1.cells
          obtain ⟨a50, a51, _, _⟩ := k0.2.2.2.2.1.cells
          clear k0
          intro K hK
          go_simp
          refine (HI1.out _).mono ?_
          rintro e' W' ⟨rfl, hb'⟩
          exact hK _ _ ⟨hb', rfl⟩
        · intro a W hsz hb hS
          have h5 : a.tmps.getD 5 undef = .pointer (some ⟨w.heap.size + 1 + 1, 0, none⟩) := hS.1
          clear hS hsz
          refine will_of rfl ?_
          have k0 := hS8.out.later hb
          obtain ⟨a30, a31, _, _⟩ := k0.2.2.2.2.2.2.1.cells
          obtain ⟨a50, a51, _, _⟩ := k0.2.2.2.2.1.cells
          clear k0
          intro K hK
          go_simp
          exact hK _ _ ⟨Below.refl _ _, rfl⟩
        · intro a W hsz hb hS
          have h48 : a.tmps.getD 48 undef = .agg #[.int .u64 (x3 : Int), .int .u64 (y3 : Int)] := hS.1
          clear hS hsz
          refine will_of rfl ?_
          have k0 := hS8.out.later hb
          obtain ⟨a30, a31, _, _⟩ := k0.2.2.2.2.2.2.1.cells
          obtain ⟨a50, a51, _, _⟩ := k0.2.2.2.2.1.cells
          clear k0
          intro K hK
          go_simp
          refine (HI3.out _).mono ?_
          rintro e' W' ⟨rfl, hb'⟩
          exact hK _ _ ⟨hb', rfl⟩
        · intro a W hsz hb hS
          have h47 : a.tmps.getD 47 undef = .agg #[.float .f64 x, .float .f64 y] := hS.1
          have h49 : a.tmps.getD 49 undef = .agg #[.float .f64 x3, .float .f64 y3] := hS.2.1
          clear hS hsz
          refine will_of rfl ?_
          have k0 := hS8.out.later hb
          obtain ⟨a30, a31, _, _⟩ := k0.2.2.2.2.2.2.1.cells
          obtain ⟨a50, a51, _, _⟩ := k0.2.2.2.2.1.cells
          clear k0
          intro K hK
          go_simp
          refine (D13.out _).mono ?_
          rintro e' W' ⟨rfl, hb'⟩
          exact hK _ _ ⟨hb', rfl⟩
        · intro a W hsz hb hS
          have h50 : a.tmps.getD 50 undef = .float .f64 dc := hS.1
          clear hS hsz
          refine will_of rfl ?_
          intro K hK
          go_simp
          exact hK _ _ ⟨Below.refl _ _, rfl⟩
        intro f W hb hH
        have e0 : f 0 = .agg #[.int .u64 (x : Int), .int .u64 (y : Int)] := hH.1
        have e1 : f 1 = .agg #[.float .f64 x, .float .f64 y] := hH.2.1
        have e2 : f 2 = .agg #[.int .u64 (x3 : Int), .int .u64 (y3 : Int)] := hH.2.2.1
        have e3 : f 3 = .agg #[.float .f64 x3, .float .f64 y3] := hH.2.2.2.1
        have e4 : f 4 = .float .f64 dc := hH.2.2.2.2.1
        have e5 : f 5 = .float .f64 dc := hH.2.2.2.2.2.1
        simp only [List.take_succ_cons, List.take_zero, List.drop_succ_cons, List.drop_zero, putFrom, Act.put, List.setIfInBounds_toArray, List.set_cons_zero, List.set_cons_succ, Nat.reduceAdd, e0, e1, e2, e3, e4, e5]
        clear e0 e1 e2 e3 e4 e5 hH f
        have hS9 := Lib.hid (hS8.out.later hb)
        clear hb
        go_upto_region 11 with fail
        refine region_at 19 (Pick [IsV (.float .f64 da), IsV (.bool false), IsV (.bool false), IsV (.float .f64 da), IsV (.bool e), IsV (.agg #[.int .u64 (p : Int), .int .u64 (q : Int)]), IsV (.agg #[.int .u64 (p2 : Int), .int .u64 (q2 : Int)]), IsV (.bool e), IsV (.bool false), IsV (.bool false), IsV (.bool false), IsV (.float .f64 da), IsV (.agg #[.int .u64 (x2 : Int), .int .u64 (y2 : Int)]), IsV (.agg #[.float .f64 x2, .float .f64 y2]), IsV (.agg #[.int .u64 (x : Int), .int .u64 (y : Int)]), IsV (.agg #[.float .f64 x, .float .f64 y]), IsV (.float .f64 da), IsV (.bool false), IsV (.bool false)]) (by kernel_rfl) (by kernel_rfl) (by kernel_rfl) (mono_pick ⟨IsV.mono _, IsV.mono _, IsV.mono _, IsV.mono _, IsV.mono _, IsV.mono _, IsV.mono _, IsV.mono _, IsV.mono _, IsV.mono _, IsV.mono _, IsV.mono _, IsV.mono _, IsV.mono _, IsV.mono _, IsV.mono _, IsV.mono _, IsV.mono _, IsV.mono _, trivial⟩) ⟨?_, ?_, ?_, ?_, ?_, ?_, ?_, ?_, ?_, ?_, ?_, ?_, ?_, ?_, ?_, ?_, ?_, ?_, ?_, trivial⟩ ?_
        · intro a W hsz hb hS
          have h10 : a.tmps.getD 10 undef = .float .f64 da := hS.1
          clear hS hsz
          refine will_of rfl ?_
          intro K hK
          go_simp
          exact hK _ _ ⟨Below.refl _ _, rfl⟩
        · intro a W hsz hb hS
          have h51 : a.tmps.getD 51 undef = .float .f64 da := hS.1
          clear hS hsz
          refine will_of rfl ?_
          intro K hK
          go_simp
          exact hK _ _ ⟨Below.refl _ _, rfl⟩
        · intro a W hsz hb hS
          have h52 : a.tmps.getD 52 undef = .bool false := hS.1
          clear hS hsz
          refine will_of rfl ?_
          intro K hK
          go_simp
          exact hK _ _ ⟨Below.refl _ _, rfl⟩
        · intro a W hsz hb hS
          have h10 : a.tmps.getD 10 undef = .float .f64 da := hS.1
          have h53 : a.tmps.getD 53 undef = .bool false := hS.2.1
          clear hS hsz
          refine will_yes rfl rfl h53 ?_
          intro K hK
          go_simp
          exact hK _ _ ⟨Below.refl _ _, rfl⟩
        · intro a W hsz hb hS
          have h54 : a.tmps.getD 54 undef = .float .f64 da := hS.1
          have h53 : a.tmps.getD 53 undef = .bool false := hS.2.1
          clear hS hsz
          refine will_yes rfl rfl h53 ?_
          intro K hK
          go_simp
          exact hK _ _ ⟨Below.refl _ _, rfl⟩
        · intro a W hsz hb hS
          have h7 : a.tmps.getD 7 undef = .pointer (some ⟨w1.heap.size, 0, none⟩) := hS.1
          have h53 : a.tmps.getD 53 undef = .bool false := hS.2.1
          clear hS hsz
          refine will_yes rfl rfl h53 ?_
          have k0 := hS9.out.later hb
          obtain ⟨a80, a81, _, _⟩ := k0.2.2.1.cells
          obtain ⟨a70, a71, _, _⟩ := k0.2.2.2.1.cells
          obtain ⟨a40, a41, _, _⟩ := k0.2.2.2.2.2.1.cells
          obtain ⟨a30, a31, _, _⟩ := k0.2.2.2.2.2.2.1.cells
          clear k0
          intro K hK
          go_simp
          exact hK _ _ ⟨Below.refl _ _, rfl⟩
        · intro a W hsz hb hS
          have h8 : a.tmps.getD 8 undef = .pointer (some ⟨w2.heap.size, 0, none⟩) := hS.1
          have h53 : a.tmps.getD 53 undef = .bool false := hS.2.1
          clear hS hsz
          refine will_yes rfl rfl h53 ?_
          have k0 := hS9.out.later hb
          obtain ⟨a80, a81, _, _⟩ := k0.2.2.1.cells
          obtain ⟨a70, a71, _, _⟩ := k0.2.2.2.1.cells
          obtain ⟨a40, a41, _, _⟩ := k0.2.2.2.2.2.1.cells
          obtain ⟨a30, a31, _, _⟩ := k0.2.2.2.2.2.2.1.cells
          clear k0
          intro K hK
          go_simp
          exact hK _ _ ⟨Below.refl _ _, rfl⟩
        · intro a W hsz hb hS
          have h56 : a.tmps.getD 56 undef = .agg #[.int .u64 (p : Int), .int .u64 (q : Int)] := hS.1
          have h57 : a.tmps.getD 57 undef = .agg #[.int .u64 (p2 : Int), .int .u64 (q2 : Int)] := hS.2.1
          have h53 : a.tmps.getD 53 undef = .bool false := hS.2.2.1
          clear hS hsz
          refine will_yes rfl rfl h53 ?_
          intro K hK
          have hE := HEQ.out
          rcases hE with ⟨h1, hv⟩ | ⟨h1, h2, hv⟩ | ⟨h1, h2, hv⟩
          · go_simp
            exact hK _ _ ⟨Below.refl _ _, congrArg Value.bool hv.symm⟩
          · go_simp
            exact hK _ _ ⟨Below.refl _ _, congrArg Value.bool hv.symm⟩
          · go_simp
            exact hK _ _ ⟨Below.refl _ _, congrArg Value.bool hv.symm⟩
        · intro a W hsz hb hS
          have h55 : a.tmps.getD 55 undef = .bool e := hS.1
          have h58 : a.tmps.getD 58 undef = .bool e := hS.2.1
          have h53 : a.tmps.getD 53 undef = .bool false := hS.2.2.1
          clear hS hsz
          refine will_yes rfl rfl h53 ?_
          intro K hK
          go_simp
          exact hK _ _ ⟨Below.refl _ _, rfl⟩
        · intro a W hsz hb hS
          have h53 : a.tmps.getD 53 undef = .bool false := hS.1
          have h59 : a.tmps.getD 59 undef = .bool false := hS.2.1
          clear hS hsz
          refine will_of rfl ?_
          intro K hK
          go_simp
          exact hK _ _ ⟨Below.refl _ _, rfl⟩
        · intro a W hsz hb hS
          have h60 : a.tmps.getD 60 undef = .bool false := hS.1
          clear hS hsz
          refine will_of rfl ?_
          intro K hK
          go_simp
          exact hK _ _ ⟨Below.refl _ _, rfl⟩
        · intro a W hsz hb hS
          have h10 : a.tmps.getD 10 undef = .float .f64 da := hS.1
          have h61 : a.tmps.getD 61 undef = .bool false := hS.2.1
          clear hS hsz
          refine will_yes rfl rfl h61 ?_
          intro K hK
          go_simp
          exact hK _ _ ⟨Below.refl _ _, rfl⟩
        · intro a W hsz hb hS
          have h4 : a.tmps.getD 4 undef = .pointer (some ⟨w.heap.size + 1, 0, none⟩) := hS.1
          have h61 : a.tmps.getD 61 undef = .bool false := hS.2.1
          clear hS hsz
          refine will_yes rfl rfl h61 ?_
          have k0 := hS9.out.later hb
          obtain ⟨a80, a81, _, _⟩ := k0.2.2.1.cells
          obtain ⟨a70, a71, _, _⟩ := k0.2.2.2.1.cells
          obtain ⟨a40, a41, _, _⟩ := k0.2.2.2.2.2.1.cells
          obtain ⟨a30, a31, _, _⟩ := k0.2.2.2.2.2.2.1.cells
          clear k0
          intro K hK
          go_simp
          exact hK _ _ ⟨Below.refl _ _, rfl⟩
        · intro a W hsz hb hS
          have h63 : a.tmps.getD 63 undef = .agg #[.int .u64 (x2 : Int), .int .u64 (y2 : Int)] := hS.1
          have h61 : a.tmps.getD 61 undef = .bool false := hS.2.1
          clear hS hsz
          refine will_yes rfl rfl h61 ?_
          have k0 := hS9.out.later hb
          obtain ⟨a80, a81, _, _⟩ := k0.2.2.1.cells
          obtain ⟨a70, a71, _, _⟩ := k0.2.2.2.1.cells
          obtain ⟨a40, a41, _, _⟩ := k0.2.2.2.2.2.1.cells
          obtain ⟨a30, a31, _, _⟩ := k0.2.2.2.2.2.2.1.cells
          clear k0
          intro K hK
          go_simp
          refine (HI2.out _).mono ?_
          rintro e' W' ⟨rfl, hb'⟩
          exact hK _ _ ⟨hb', rfl⟩
        · intro a W hsz hb hS
          have h3 : a.tmps.getD 3 undef = .pointer (some ⟨w.heap.size, 0, none⟩) := hS.1
          have h61 : a.tmps.getD 61 undef = .bool false := hS.2.1
          clear hS hsz
          refine will_yes rfl rfl h61 ?_
          have k0 := hS9.out.later hb
          obtain ⟨a80, a81, _, _⟩ := k0.2.2.1.cells
          obtain ⟨a70, a71, _, _⟩ := k0.2.2.2.1.cells
          obtain ⟨a40, a41, _, _⟩ := k0.2.2.2.2.2.1.cells
          obtain ⟨a30, a31, _, _⟩ := k0.2.2.2.2.2.2.1.cells
          clear k0
          intro K hK
          go_simp
          exact hK _ _ ⟨Below.refl _ _, rfl⟩
        · intro a W hsz hb hS
          have h65 : a.tmps.getD 65 undef = .agg #[.int .u64 (x : Int), .int .u64 (y : Int)] := hS.1
          have h61 : a.tmps.getD 61 undef = .bool false := hS.2.1
          clear hS hsz
          refine will_yes rfl rfl h61 ?_
          have k0 := hS9.out.later hb
          obtain ⟨a80, a81, _, _⟩ := k0.2.2.1.cells
          obtain ⟨a70, a71, _, _⟩ := k0.2.2.2.1.cells
          obtain ⟨a40, a41, _, _⟩ := k0.2.2.2.2.2.1.cells
          obtain ⟨a30, a31, _, _⟩ := k0.2.2.2.2.2.2.1.cells
          clear k0
          intro K hK
          go_simp
          refine (HI1.out _).mono ?_
          rintro e' W' ⟨rfl, hb'⟩
          exact hK _ _ ⟨hb', rfl⟩
        · intro a W hsz hb hS
          have h64 : a.tmps.getD 64 undef = .agg #[.float .f64 x2, .float .f64 y2] := hS.1
          have h66 : a.tmps.getD 66 undef = .agg #[.float .f64 x, .float .f64 y] := hS.2.1
          have h61 : a.tmps.getD 61 undef = .bool false := hS.2.2.1
          clear hS hsz
          refine will_yes rfl rfl h61 ?_
          have k0 := hS9.out.later hb
          obtain ⟨a80, a81, _, _⟩ := k0.2.2.1.cells
          obtain ⟨a70, a71, _, _⟩ := k0.2.2.2.1.cells
          obtain ⟨a40, a41, _, _⟩ := k0.2.2.2.2.2.1.cells
          obtain ⟨a30, a31, _, _⟩ := k0.2.2.2.2.2.2.1.cells
          clear k0
          intro K hK
          go_simp
          refine (D21.out _).mono ?_
          rintro e' W' ⟨rfl, hb'⟩
          exact hK _ _ ⟨hb', rfl⟩
        · intro a W hsz hb hS
          have h62 : a.tmps.getD 62 undef = .float .f64 da := hS.1
          have h67 : a.tmps.getD 67 undef = .float .f64 da := hS.2.1
          have h61 : a.tmps.getD 61 undef = .bool false := hS.2.2.1
          clear hS hsz
          refine will_yes rfl rfl h61 ?_
          intro K hK
          go_simp
          exact hK _ _ ⟨Below.refl _ _, rfl⟩
        · intro a W hsz hb hS
          have h61 : a.tmps.getD 61 undef = .bool false := hS.1
          have h68 : a.tmps.getD 68 undef = .bool false := hS.2.1
          clear hS hsz
          refine will_of rfl ?_
          intro K hK
          go_simp
          exact hK _ _ ⟨Below.refl _ _, rfl⟩
        intro f W hb hH
        have e0 : f 0 = .float .f64 da := hH.1
        have e1 : f 1 = .bool false := hH.2.1
        have e2 : f 2 = .bool false := hH.2.2.1
        have e3 : f 3 = .float .f64 da := hH.2.2.2.1
        have e4 : f 4 = .bool e := hH.2.2.2.2.1
        have e5 : f 5 = .agg #[.int .u64 (p : Int), .int .u64 (q : Int)] := hH.2.2.2.2.2.1
        have e6 : f 6 = .agg #[.int .u64 (p2 : Int), .int .u64 (q2 : Int)] := hH.2.2.2.2.2.2.1
        have e7 : f 7 = .bool e := hH.2.2.2.2.2.2.2.1
        have e8 : f 8 = .bool false := hH.2.2.2.2.2.2.2.2.1
        have e9 : f 9 = .bool false := hH.2.2.2.2.2.2.2.2.2.1
        have e10 : f 10 = .bool false := hH.2.2.2.2.2.2.2.2.2.2.1
        have e11 : f 11 = .float .f64 da := hH.2.2.2.2.2.2.2.2.2.2.2.1
        have e12 : f 12 = .agg #[.int .u64 (x2 : Int), .int .u64 (y2 : Int)] := hH.2.2.2.2.2.2.2.2.2.2.2.2.1
        have e13 : f 13 = .agg #[.float .f64 x2, .float .f64 y2] := hH.2.2.2.2.2.2.2.2.2.2.2.2.2.1
        have e14 : f 14 = .agg #[.int .u64 (x : Int), .int .u64 (y : Int)] := hH.2.2.2.2.2.2.2.2.2.2.2.2.2.2.1
        have e15 : f 15 = .agg #[.float .f64 x, .float .f64 y] := hH.2.2.2.2.2.2.2.2.2.2.2.2.2.2.2.1
        have e16 : f 16 = .float .f64 da := hH.2.2.2.2.2.2.2.2.2.2.2.2.2.2.2.2.1
        have e17 : f 17 = .bool false := hH.2.2.2.2.2.2.2.2.2.2.2.2.2.2.2.2.2.1
        have e18 : f 18 = .bool false := hH.2.2.2.2.2.2.2.2.2.2.2.2.2.2.2.2.2.2.1
        simp only [List.take_succ_cons, List.take_zero, List.drop_succ_cons, List.drop_zero, putFrom, Act.put, List.setIfInBounds_toArray, List.set_cons_zero, List.set_cons_succ, Nat.reduceAdd, e0, e1, e2, e3, e4, e5, e6, e7, e8, e9, e10, e11, e12, e13, e14, e15, e16, e17, e18]
        clear e0 e1 e2 e3 e4 e5 e6 e7 e8 e9 e10 e11 e12 e13 e14 e15 e16 e17 e18 hH f
        have hS10 := Lib.hid (hS9.out.later hb)
        clear hb
        go_wp2_with fail
        refine (HAd.out _).mono ?_
        rintro en w4 ⟨_, rfl, rfl, hb4⟩
        have hS11 := Lib.hid (hS10.out.later hb4)
        have o4 := O4.out
        clear hb4
        go_wp2
        go_ret
        exact ⟨rfl, hS11.out.1⟩
end Go.Proofs.Ytmmbbkeefphaiaa
