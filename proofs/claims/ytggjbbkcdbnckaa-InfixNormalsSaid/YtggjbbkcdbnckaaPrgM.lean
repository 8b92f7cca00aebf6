/- vergelaw17.InfixNormals: the walk. -/
import Derived.Test.YtggjbbkcdbnckaaPrgL
namespace Go.Proofs.Ytggjbbkcdbnckaa
set_option linter.unusedVariables false
set_option linter.unusedSimpArgs false
open Go.RowKit Verge

def IsPM (vars : Int) (xs : List (Nat × Nat)) (ls : List Ln) (v : Value) (w : World) : Prop := ∃ v1 v2, v = .agg #[.int .i64 vars, v1, v2] ∧ GI w 0 v1 xs ∧ GM w 0 v2 ls
theorem IsPM.mono (vars : Int) (xs : List (Nat × Nat)) (ls : List Ln) : Mono (IsPM vars xs ls) := fun _ _ _ hb ⟨v1, v2, e, h, k⟩ => ⟨v1, v2, e, own_later h hb, own_later k hb⟩
theorem read_is {w : World} {vars : Int} {v1 v2 : Value} {xs : List (Nat × Nat)} {ls : List Ln} (h1 : GF w 0 v1 xs) (h2 : GL w 0 v2 ls) (hm : xs.length ≤ 8796093022200) (hm2 : ls.length ≤ 3518437208880) :
    Calls Try.prog 8 #[.agg #[.int .i64 vars, v1, v2]] w fun e w' => ∃ v, e = .returned v ∧ IsPM vars xs ls v w' ∧ Below w.heap.size w w' :=
  (read16_any vars v1 v2 xs ls w (own_sl h1) (own_sl h2) hm hm2).mono fun e w' ⟨a, b, he, k1, k2, hb⟩ => ⟨_, he, ⟨a, b, rfl, k1, k2⟩, hb⟩
theorem equal_is {w : World} {vars : Int} {v u1 u2 : Value} {xs : List (Nat × Nat)} {ls : List Ln} (h : IsPM vars xs ls v w) (h1 : GI w 0 u1 xs) (h2 : GM w 0 u2 ls) (hm : xs.length ≤ 8796093022200) (hm2 : ls.length ≤ 3518437208880) :
    Calls Try.prog 7 #[v, .agg #[.int .i64 vars, u1, u2]] w fun e w' => ∃ v, e = .returned v ∧ IsV (.bool true) v w' ∧ Below w.heap.size w w' := by
  obtain ⟨v1, v2, rfl, k1, k2⟩ := h
  exact (equal16_any vars v1 v2 u1 u2 xs ls w (own_sl k1) (own_sl k2) (own_sl h1) (own_sl h2) (by omega) (by omega)).mono fun e w' ⟨he, hb⟩ => ⟨_, he, rfl, hb⟩
/-- Both boxes of the law's answers. -/
structure Bth (w wr : World) (r3 r5 : Nat) (vars : Int) (a1 a2 b1 b2 : Value) (xs : List (Nat × Nat)) (ls : List Ln) : Prop where
  bl : Below w.heap.size w wr
  p : wr.heap[r3]? = some (.cells #[.int .i64 vars, a1, a2] 29 (0, 0))
  q : wr.heap[r5]? = some (.cells #[.int .i64 vars, b1, b2] 25 (0, 0))
  pc : GF wr 0 a1 xs
  pl : GL wr 0 a2 ls
  qc : GI wr 0 b1 xs
  ql : GM wr 0 b2 ls
theorem Bth.later {w wr w' : World} {r3 r5 : Nat} {vars : Int} {a1 a2 b1 b2 : Value} {xs : List (Nat × Nat)} {ls : List Ln} (h : Bth w wr r3 r5 vars a1 a2 b1 b2 xs ls) (hb : Below wr.heap.size wr w') : Bth w w' r3 r5 vars a1 a2 b1 b2 xs ls :=
  ⟨baft h.bl hb, (hb.block _ (blk_lt h.p)).trans h.p, (hb.block _ (blk_lt h.q)).trans h.q, own_later h.pc hb, own_later h.pl hb, own_later h.qc hb, own_later h.ql hb⟩
theorem nrmA_len (vars : Int) (xs : List (Nat × Nat)) (ls : List Ln) : (nrmA vars xs ls).2.2.1.length ≤ 256 ∧ (nrmA vars xs ls).2.2.2.length ≤ 1024 := by
  unfold nrmA
  split
  · simp
  · rename_i h
    split
    · simp
    · have h1 := nrm_len xs ls
      have h2 := (chk_const (vars := vars) (xs := xs) (ls := ls) (by simpa using h)).2.1
      simp only [h1]
      omega
set_option maxRecDepth 100000 in
set_option maxHeartbeats 16000000 in
theorem walk_normals (vars : Int) (vC vL : Value) (xs : List (Nat × Nat)) (ls : List Ln) (w : World) (hC : RI w vC xs) (hL : RL w vL ls) (hW : ∀ x ∈ xs, x.1 < 18446744073709551616 ∧ x.2 < 18446744073709551616) (hm : xs.length ≤ 8796093022200) (hm2 : ls.length ≤ 3518437208880) :
    Calls Try.prog 3 #[.agg #[.int .i64 vars, vC, vL]] w fun e w' => e = .returned (.bool true) ∧ Below w.heap.size w w' := by
  have HM := Lib.hid (fun W (hb : Below w.heap.size w W) => made_any vars vC vL xs ls W (hC.below hb) (hL.below hb) hm hm2)
  have HN := Lib.hid (fun W v1 v2 (h1 : GF W 0 v1 xs) (h2 : GL W 0 v2 ls) => normal_any vars v1 v2 xs ls W (own_sl h1) (own_sl h2) hW (by omega) (by omega))
  have HD := Lib.hid (fun W (hb : Below w.heap.size w W) => normal17_any vars vC vL xs ls W (hC.below hb) (hL.below hb) hW (by omega) (by omega))
  have hlen := nrmA_len vars xs ls
  obtain ⟨⟨er, vr, X, L⟩, hr⟩ : ∃ r, nrmA vars xs ls = r := ⟨_, rfl⟩
  rw [hr] at HN HD hlen
  simp only at HN HD hlen
  have HB := Lib.hid (bnew w (.cells #[.int .i64 vars, vC, vL] 25))
  obtain ⟨Az, cz, rfl⟩ := hC.form
  obtain ⟨Ay, cy, rfl⟩ := hL.form
  generalize xs.length = nx at *
  generalize ls.length = ny at *
  clear hr hW hC hL
  go_enter Try.func3, Try.ntmps3
  go_wp2_with fail
  refine (HM.out _ HB.out).mono ?_
  rintro en w1 ⟨u1, u2, rfl, g1, g2, hb1⟩
  have HP1 := Lib.hid (PBx.later (PBx.new 25 w vars (.slice Az nx cz) (.slice Ay ny cy)) hb1)
  have HG := Lib.hid (And.intro g1 g2)
  clear g1 g2 hb1 HB HM
  go_wp2_with fail
  refine (HN.out _ _ _ HG.out.1 HG.out.2).mono ?_
  rintro en w2 ⟨a1, a2, rfl, g1, g2, hb2⟩
  have HP2 := Lib.hid (HP1.out.later hb2)
  obtain ⟨A1, c1, rfl⟩ := g1.form
  obtain ⟨A2, c2, rfl⟩ : ∃ A c, a2 = .slice A L.length c := RL.form (own_sl g2)
  obtain ⟨lx, hlx⟩ : ∃ lx, X.length = lx := ⟨_, rfl⟩
  obtain ⟨ly, hly⟩ : ∃ ly, L.length = ly := ⟨_, rfl⟩
  rw [hlx, hly] at hlen
  rw [hlx] at g1 ⊢
  rw [hly] at g2 ⊢
  have HG2 := Lib.hid (And.intro g1 g2)
  obtain ⟨k0, k1, k2, hz⟩ := HP2.out.cells
  have HL := Lib.hid (And.intro hlx hly)
  clear g1 g2 hb2 HP1 HG HN hlx hly
  go_wp2_with fail
  refine (HD.out _ ?_).mono ?_
  · first | exact HP2.out.bl | exact baft HP2.out.bl (bnew _ _)
  rintro en w3 ⟨b1, b2, rfl, g3, g4, hb3⟩
  obtain ⟨B1, d1, rfl⟩ := g3.form
  obtain ⟨B2, d2, rfl⟩ : ∃ A c, b2 = .slice A L.length c := RL.form (own_sl g4)
  rw [HL.out.1] at g3 ⊢
  rw [HL.out.2] at g4 ⊢
  have hp := (hb3.block w2.heap.size (by simp)).trans (new_box w2 #[.int .i64 vr, .slice A1 lx c1, .slice A2 ly c2] 29)
  have HBT : Bth w (w3.alloc (.cells #[.int .i64 vr, .slice B1 lx d1, .slice B2 ly d2] 25)) w2.heap.size w3.heap.size vr (.slice A1 lx c1) (.slice A2 ly c2) (.slice B1 lx d1) (.slice B2 ly d2) X L :=
    ⟨baft (baft HP2.out.bl (baft (bnew w2 _) hb3)) (bnew w3 _), ((bnew w3 _).block _ (blk_lt hp)).trans hp, new_box w3 _ _, own_later HG2.out.1 (baft (baft (bnew w2 _) hb3) (bnew w3 _)), own_later HG2.out.2 (baft (baft (bnew w2 _) hb3) (bnew w3 _)), own_later g3 (bnew w3 _), own_later g4 (bnew w3 _)⟩
  have HT := Lib.hid HBT
  have hz2 := blk_lt hp
  clear g3 g4 hb3 hp HBT HD HG2 HP2 k0 k1 k2 hz
  go_wp2
  generalize w3.alloc (.cells #[.int .i64 vr, .slice B1 lx d1, .slice B2 ly d2] 25) = W0 at *
  generalize w2.heap.size = r3 at *
  generalize w3.heap.size = r5 at *
  refine region_at 10 (Pick [IsV (.int .i64 er), IsV (.int .i64 er), IsV (.bool true), IsV (.bool true), IsV (.agg #[.int .i64 vr, .slice A1 lx c1, .slice A2 ly c2]), IsPM vr X L, IsV (.agg #[.int .i64 vr, .slice B1 lx d1, .slice B2 ly d2]), IsV (.bool true), IsV (.bool true), IsV (.bool true)]) (by kernel_rfl) (by kernel_rfl) (by kernel_rfl) (mono_pick ⟨IsV.mono _, IsV.mono _, IsV.mono _, IsV.mono _, IsV.mono _, IsPM.mono _ _ _, IsV.mono _, IsV.mono _, IsV.mono _, IsV.mono _, trivial⟩) ⟨?_, ?_, ?_, ?_, ?_, ?_, ?_, ?_, ?_, ?_, trivial⟩ ?_
  · intro a W hsz hb hS
    have h4 : a.tmps.getD 4 undef = .int .i64 er := hS.1
    clear hS hsz
    refine will_of rfl ?_
    intro K hK
    go_simp
    exact hK _ _ ⟨Below.refl _ _, rfl⟩
  · intro a W hsz hb hS
    have h6 : a.tmps.getD 6 undef = .int .i64 er := hS.1
    clear hS hsz
    refine will_of rfl ?_
    intro K hK
    go_simp
    exact hK _ _ ⟨Below.refl _ _, rfl⟩
  · intro a W hsz hb hS
    have h18 : a.tmps.getD 18 undef = .int .i64 er := hS.1
    have h19 : a.tmps.getD 19 undef = .int .i64 er := hS.2.1
    clear hS hsz
    refine will_of rfl ?_
    intro K hK
    go_simp
    exact hK _ _ ⟨Below.refl _ _, rfl⟩
  · intro a W hsz hb hS
    have h20 : a.tmps.getD 20 undef = .bool true := hS.1
    clear hS hsz
    refine will_of rfl ?_
    intro K hK
    go_simp
    exact hK _ _ ⟨Below.refl _ _, rfl⟩
  · intro a W hsz hb hS
    have h3 : a.tmps.getD 3 undef = .pointer (some ⟨r3, 0, none⟩) := hS.1
    have h21 : a.tmps.getD 21 undef = .bool true := hS.2.1
    clear hS hsz
    refine will_yes rfl rfl h21 ?_
    have HW := HT.out.later hb
    obtain ⟨m0, m1, m2, _⟩ := blk_cells3 HW.p
    obtain ⟨n0, n1, n2, _⟩ := blk_cells3 HW.q
    intro K hK
    go_simp
    exact hK _ _ ⟨Below.refl _ _, rfl⟩
  · intro a W hsz hb hS
    have h22 : a.tmps.getD 22 undef = .agg #[.int .i64 vr, .slice A1 lx c1, .slice A2 ly c2] := hS.1
    have h21 : a.tmps.getD 21 undef = .bool true := hS.2.1
    clear hS hsz
    refine will_yes rfl rfl h21 ?_
    have HW := HT.out.later hb
    obtain ⟨m0, m1, m2, _⟩ := blk_cells3 HW.p
    obtain ⟨n0, n1, n2, _⟩ := blk_cells3 HW.q
    intro K hK
    go_simp
    refine (read_is HW.pc HW.pl (by have := HL.out; omega) (by have := HL.out; omega)).mono ?_
    rintro e W' ⟨v, rfl, hv, hb'⟩
    exact hK _ _ ⟨hb', hv⟩
  · intro a W hsz hb hS
    have h5 : a.tmps.getD 5 undef = .pointer (some ⟨r5, 0, none⟩) := hS.1
    have h21 : a.tmps.getD 21 undef = .bool true := hS.2.1
    clear hS hsz
    refine will_yes rfl rfl h21 ?_
    have HW := HT.out.later hb
    obtain ⟨m0, m1, m2, _⟩ := blk_cells3 HW.p
    obtain ⟨n0, n1, n2, _⟩ := blk_cells3 HW.q
    intro K hK
    go_simp
    exact hK _ _ ⟨Below.refl _ _, rfl⟩
  · intro a W hsz hb hS
    have q23 : IsPM vr X L (a.tmps.getD 23 undef) W := hS.1
    have h24 : a.tmps.getD 24 undef = .agg #[.int .i64 vr, .slice B1 lx d1, .slice B2 ly d2] := hS.2.1
    have h21 : a.tmps.getD 21 undef = .bool true := hS.2.2.1
    clear hS hsz
    obtain ⟨v23, h23⟩ : ∃ v, a.tmps.getD 23 undef = v := ⟨_, rfl⟩
    rw [h23] at q23
    refine will_yes rfl rfl h21 ?_
    have HW := HT.out.later hb
    obtain ⟨m0, m1, m2, _⟩ := blk_cells3 HW.p
    obtain ⟨n0, n1, n2, _⟩ := blk_cells3 HW.q
    intro K hK
    go_simp
    refine (equal_is q23 HW.qc HW.ql (by have := HL.out; omega) (by have := HL.out; omega)).mono ?_
    rintro e W' ⟨v, rfl, hv, hb'⟩
    exact hK _ _ ⟨hb', hv⟩
  · intro a W hsz hb hS
    have h21 : a.tmps.getD 21 undef = .bool true := hS.1
    have h25 : a.tmps.getD 25 undef = .bool true := hS.2.1
    clear hS hsz
    refine will_of rfl ?_
    intro K hK
    go_simp
    exact hK _ _ ⟨Below.refl _ _, rfl⟩
  · intro a W hsz hb hS
    have h26 : a.tmps.getD 26 undef = .bool true := hS.1
    clear hS hsz
    refine will_of rfl ?_
    intro K hK
    go_simp
    exact hK _ _ ⟨Below.refl _ _, rfl⟩
  intro f W hb hH
  have e0 : f 0 = .int .i64 er := hH.1
  have e1 : f 1 = .int .i64 er := hH.2.1
  have e2 : f 2 = .bool true := hH.2.2.1
  have e3 : f 3 = .bool true := hH.2.2.2.1
  have e4 : f 4 = .agg #[.int .i64 vr, .slice A1 lx c1, .slice A2 ly c2] := hH.2.2.2.2.1
  obtain ⟨x5, y5⟩ : ∃ x, f 5 = x := ⟨_, rfl⟩
  have q5 : IsPM vr X L (f 5) W := hH.2.2.2.2.2.1
  rw [y5] at q5
  have e6 : f 6 = .agg #[.int .i64 vr, .slice B1 lx d1, .slice B2 ly d2] := hH.2.2.2.2.2.2.1
  have e7 : f 7 = .bool true := hH.2.2.2.2.2.2.2.1
  have e8 : f 8 = .bool true := hH.2.2.2.2.2.2.2.2.1
  have e9 : f 9 = .bool true := hH.2.2.2.2.2.2.2.2.2.1
  simp only [List.take_succ_cons, List.take_zero, List.drop_succ_cons, List.drop_zero, putFrom, Act.put, List.setIfInBounds_toArray, List.set_cons_zero, List.set_cons_succ, Nat.reduceAdd, e0, e1, e2, e3, e4, y5, e6, e7, e8, e9]
  clear e0 e1 e2 e3 e4 y5 e6 e7 e8 e9 hH f
  have hB := baft HT.out.bl hb
  clear hb
  go_wp2
  go_ret
  exact ⟨rfl, hB⟩
end Go.Proofs.Ytggjbbkcdbnckaa
