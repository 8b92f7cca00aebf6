/- vergelaw2.NatPlays: the walk. -/
import Derived.Test.YtniogjkkhkibhaaDoorPlaysA
namespace Go.Proofs.YtniogjkkhkibhaaDoor
set_option linter.unusedVariables false
set_option linter.unusedSimpArgs false
open Go.RowKit Verge

theorem L1.zero (w : World) (ga gb : Nat → Nat) (xs : Nat → List Nat) : L1 w w (.slice none 0 0) (.slice none 0 0) 0 ga gb xs :=
  ⟨Below.refl _ _, World.ownsRow_nil _ _ _ _, World.ownsRow_nil _ _ _ _, fun k hk => by omega, fun k hk => by omega, fun k hk => by omega, fun _ => ⟨rfl, rfl⟩, fun h => by omega⟩
theorem Fst.at {w W : World} {b o nf : Nat} (h : Below w.heap.size w W) {i : Nat} {v : Value} (hc : w.cell? ⟨b, o + i, none⟩ = some v) : W.cell? ⟨b, o + i, none⟩ = some v := (bcell h b _ (lt_of_cell hc)).trans hc
theorem cell_at {w W : World} {b o : Nat} (h : Below w.heap.size w W) {v : Value} (hc : w.cell? ⟨b, o, none⟩ = some v) : W.cell? ⟨b, o, none⟩ = some v := (bcell h b _ (lt_of_cell hc)).trans hc
/-- A new answer's box. -/
def IsA6 (B : Nat) (v : Value) (w : World) : Prop := ∃ r, v = .pointer (some ⟨r, 0, none⟩) ∧ w.heap[r]? = some (.cells #[.slice none 0 0, .slice none 0 0, .int .u64 0, .int .i64 0, .bool false, .int .i64 0] 50 (0, 0)) ∧ B ≤ r
theorem lt_of_block {w : World} {r : Nat} {o : Obj} (h : w.heap[r]? = some o) : r < w.heap.size := by
  by_cases hr : r < w.heap.size
  · exact hr
  · rw [Array.getElem?_eq_none (by omega)] at h; cases h
theorem IsA6.mono (B : Nat) : Mono (IsA6 B) := fun _ _ _ hb ⟨r, e, h, hr⟩ => ⟨r, e, (hb.block r (lt_of_block h)).trans h, hr⟩
theorem rfl_box (w : World) : (w.alloc (.cells #[.slice none 0 0, .slice none 0 0, .int .u64 0, .int .i64 0, .bool false, .int .i64 0] 50)).heap[w.heap.size]? = some (.cells #[.slice none 0 0, .slice none 0 0, .int .u64 0, .int .i64 0, .bool false, .int .i64 0] 50 (0, 0)) := by
  show (w.heap.push _)[w.heap.size]? = _
  simp
theorem rec_apart {w : World} {r : Nat} {A1 A2 : Option Addr} {c1 c2 : Nat} {a : Verge.Ans} {B g n c : Nat} {vs : List Value} (h : Rec w r A1 c1 A2 c2 a) (h' : GrowS w B (.slice (some ⟨g, 0, none⟩) n c) n vs) : r ≠ g := by
  rintro rfl
  rcases h'.2 with ⟨e, _⟩ | ⟨g', cap', cur', e, _, hg', _⟩
  · cases e
  · simp only [Value.slice.injEq, Option.some.injEq, Addr.mk.injEq, and_true, true_and] at e
    obtain ⟨rfl, rfl⟩ := e
    unfold Rec at h
    rw [hg'] at h
    simp at h
theorem Tbl.mid {w W : World} {gm cm gd cd : Nat} {Am Ad : Nat → Option Addr} {dc : Nat → Nat} {xs : Nat → List Nat} (h : Tbl w W gm cm gd cd Am Ad dc xs) {a : Nat} (ha : a < 8) (u : Value) :
    GrowS (W.setCell ⟨gm, a, none⟩ u) w.heap.size (.slice (some ⟨gd, 0, none⟩) 8 cd) 8 ((List.range 8).map fun k => .slice (Ad k) (xs k).length (dc k)) :=
  h.d.kept (h.m.stored a u).2 (.inr (by simp [Value.ownBlock]; exact fun e => h.ne e.symm))
theorem same_q {wc : World} {d n : Nat} {A B : Option Addr} {c c' : Nat} {X : List Nat} (h : Rd wc A X) (h' : Rd wc B X) (hm : X.length ≤ 16384) : Calls Tryd.prog 18 #[.slice A X.length c, .slice B X.length c'] (wc.drewN (d + n)) fun e w'' => e = .returned (.bool true) ∧ ∃ m, w'' = wc.drewN (d + m) := by
  refine (same_any A _ c X B _ c' X (wc.drewN (d + n)) (h.drewN _) rfl (by omega) (h'.drewN _) rfl (by omega)).mono ?_
  rw [decide_eq_true rfl]
  rintro e w' ⟨rfl, q, rfl⟩
  exact ⟨rfl, n + q, by rw [World.drewN_drewN, Nat.add_assoc]⟩
theorem put6_ok {w0 W : World} {r : Nat} {A1 A2 : Option Addr} {c1 c2 : Nat} {a : Verge.Ans} (h : Below w0.heap.size w0 W) (hb : W.heap[r]? = some (.cells #[.slice none 0 0, .slice none 0 0, .int .u64 0, .int .i64 0, .bool false, .int .i64 0] 50 (0, 0))) (hr : w0.heap.size ≤ r) (h1 : Rd W A1 a.l) (h2 : Rd W A2 a.m) :
    Below w0.heap.size w0 ((((((W.setCell ⟨r, 0, none⟩ (.slice A1 a.l.length c1)).setCell ⟨r, 1, none⟩ (.slice A2 a.m.length c2)).setCell ⟨r, 2, none⟩ (.int .u64 (a.wv : Nat))).setCell ⟨r, 3, none⟩ (.int .i64 a.nv)).setCell ⟨r, 4, none⟩ (.bool a.bv)).setCell ⟨r, 5, none⟩ (.int .i64 a.ev)) ∧
    Wnt ((((((W.setCell ⟨r, 0, none⟩ (.slice A1 a.l.length c1)).setCell ⟨r, 1, none⟩ (.slice A2 a.m.length c2)).setCell ⟨r, 2, none⟩ (.int .u64 (a.wv : Nat))).setCell ⟨r, 3, none⟩ (.int .i64 a.nv)).setCell ⟨r, 4, none⟩ (.bool a.bv)).setCell ⟨r, 5, none⟩ (.int .i64 a.ev)) r A1 c1 A2 c2 a := by
  have hno : ∀ i z, W.cell? ⟨r, i, none⟩ ≠ some (.int .u32 z) := by
    intro i z e
    simp only [World.cell?, hb] at e
    rcases i with _ | _ | _ | _ | _ | _ | i <;> simp at e
  have hl := lt_of_block hb
  have hg : W.heap[r] = .cells #[.slice none 0 0, .slice none 0 0, .int .u64 0, .int .i64 0, .bool false, .int .i64 0] 50 (0, 0) := by simpa [hl] using hb
  refine ⟨(((((h.setCell hr _).setCell hr _).setCell hr _).setCell hr _).setCell hr _).setCell hr _, ?_, rd6 h1 hno _ _ _ _ _ _, rd6 h2 hno _ _ _ _ _ _⟩
  unfold Rec
  simp [World.setCell, hl, Array.getElem_modify, hg]
theorem own_a {w w' : World} {a : Verge.Ans} {en : Ending} (h : AskPost w a en w') : ∃ v, en = .returned v ∧ IsA' a v w' ∧ Below w.heap.size w w' := by
  obtain ⟨gL, gM, AL, AM, h1, h2, h3, he, hl, hm, hb⟩ := h
  exact ⟨_, he, ⟨AL, AM, rfl, hl.rd, hm.rd⟩, hb⟩
theorem want_a {w w' : World} {a : Verge.Ans} {en : Ending} (h : WantPost w a en w') : ∃ v, en = .returned v ∧ IsA a v w' ∧ Below w.heap.size w w' := by
  obtain ⟨AL, cL, AM, cM, he, hl, hm, hb⟩ := h
  exact ⟨_, he, ⟨AL, cL, AM, cM, rfl, hl, hm⟩, hb⟩
theorem copied_a {A : Option Addr} {n c : Nat} {X : List Nat} {w : World} (h : Rd w A X) (hn : X.length = n) (hm : n ≤ 70368744177664) : Calls Tryd.prog 27 #[.slice A n c] w fun e w' => ∃ v, e = .returned v ∧ IsC X v w' ∧ Below w.heap.size w w' := by
  refine (copied_any A n c X w h hn hm).mono ?_
  rintro e w' ⟨rfl, hB, hb⟩
  subst hn
  exact ⟨_, rfl, ⟨_, rfl, hB.rd⟩, hb⟩

set_option maxRecDepth 100000 in
set_option maxHeartbeats 32000000 in
theorem plays_any (F : Option Addr) (nf cf : Nat) (S : Option Addr) (ns cs : Nat) (w : World) (hF : Fst w F nf) (hS : Stp w S ns) (hT : Tab w) (hm : nf ≤ 9223372036854775807) (hm2 : ns ≤ 9223372036854775807) :
    Calls Tryd.prog 13 #[.slice F nf cf, .slice S ns cs] w fun e w' => e = .returned (.bool true) ∧ Below w.heap.size w w' := by
  have HF := Lib.hid hF
  have HS := Lib.hid hS
  have HT := Lib.hid hT
  clear hF hS hT
  go_enter Tryd.func13, Tryd.ntmps13
  go_wp2
  go_loopw [5, 6, 7, 8] (fun mv dv iv _ wr => ∃ (i : Nat) (ga gb : Nat → Nat) (xs : Nat → List Nat), i ≤ 8 ∧ iv = .int .i64 i ∧ Hid (L1 w wr mv dv i ga gb xs)) (fun _ _ iv _ _ => 8 - (intOf iv).toNat)
  case atStart => exact ⟨0, fun _ => 0, fun _ => 0, fun _ => [], by omega, rfl, L1.zero w _ _ _⟩
  case round =>
    obtain ⟨i, ga, gb, xs, hi, rfl, hI⟩ := hrel
    by_cases hi8 : i < 8
    · by_cases hif : i < nf
      · obtain ⟨b, o, rfl, A, n, c, X, hcx, hR, hX, hn⟩ := HF.out i hif
        have hc := cell_at hI.out.bl hcx
        have HR := Lib.hid hR
        have HX := Lib.hid (And.intro hX hn)
        have HB0 : Hid (∀ W : World, Below w.heap.size w W → Calls Tryd.prog 16 #[.slice A n c, .int .i64 200] W fun e w' => e = .returned (.slice (some ⟨W.heap.size, 0, none⟩) (min 200 n) n) ∧ Blk w' W.heap.size X ∧ Below W.heap.size W w') := Lib.hid (fun W hW => short_any A n c X 200 W (HR.out.below hW) HX.out.1 HX.out.2 (by omega))
        have hlen : (X.take 200).length = min 200 n ∧ (X.take 200).length ≤ 200 := by rw [List.length_take, hX]; exact ⟨rfl, by omega⟩
        obtain ⟨Y, hY⟩ : ∃ Y, X.take 200 = Y := ⟨_, rfl⟩
        obtain ⟨m, hm⟩ : ∃ m, min 200 n = m := ⟨_, rfl⟩
        rw [hY, hm] at hlen
        rw [hm] at HB0
        have HY := Lib.hid hlen
        have HYX := Lib.hid hY
        have hmb : m ≤ 200 := by omega
        clear hcx hR hX hn hlen hY hm
        go_wp2_with fail
        refine (HB0.out _ hI.out.bl).mono ?_
        rintro en w1 ⟨rfl, hB, hb⟩
        have HI := Lib.hid (hI.out.later hb)
        have HB := Lib.hid hB
        clear hI hB hb hc HB0
        go_wp2_with fail
        refine (copied_any (some ⟨wr.heap.size, 0, none⟩) m n (Y) _ (by have := HB.out.rd.take 200; rw [HYX.out] at this; exact this) HY.out.1 (by omega)).mono ?_
        rintro en w2 ⟨rfl, hB, hb⟩
        have HI2 := Lib.hid (HI.out.later hb)
        have HG := Lib.hid hB
        have HB := Lib.hid (HB.out.later hb)
        have hS := HI2.out.m
        have hsz := HI2.out.bl.size
        clear HI hB hb
        go_wp2_with (refine wpList_pushS rfl _ _ rfl w.heap.size u5 i _ rfl w2 _ rfl rfl hS rfl (by omega) hsz ?_; intro mv' w3 hS3 hg3; have HB := Lib.hid (HB.out.grown hg3 (blk_apart HB.out hS)); have HH := Lib.hid (HI2.out.push HG.out (by rw [HY.out.1]; exact hS3) hg3); clear HI2 HG hS hsz hS3 hg3)
        refine (copied_any (some ⟨wr.heap.size, 0, none⟩) m n (Y) _ (by have := HB.out.rd.take 200; rw [HYX.out] at this; exact this) HY.out.1 (by omega)).mono ?_
        rintro en w4 ⟨rfl, hB, hb⟩
        have HH2 := Lib.hid (HH.out.later hb)
        have HG2 := Lib.hid hB
        have HN := Lib.hid (HH.out.bg.lt)
        have hS := HH2.out.d
        have hsz := HH2.out.bl.size
        clear HH hB hb
        go_wp2_with (refine wpList_pushS rfl _ _ rfl w.heap.size u6 i _ rfl w4 _ rfl rfl hS rfl (by omega) hsz ?_; intro dv' w5 hS5 hg5; have HJ := Lib.hid (HH2.out.push HG2.out (by have := HN.out; omega) HY.out.2 (by rw [HY.out.1]; exact hS5) hg5); clear HH2 HG2 HN hS hsz hS5 hg5)
        go_roundw
        case rel => exact ⟨i + 1, _, _, _, by omega, by go_num, HJ.out⟩
        case measure => simp [intOf]; omega
      · have HI := hI
        have HY : Hid (([] : List Nat).length = 0 ∧ ([] : List Nat).length ≤ 200) := Lib.hid ⟨rfl, by simp⟩
        clear hI
        go_wp2_with fail
        refine (copied_any (none) 0 0 ([]) _ (Rd.nil) HY.out.1 (by omega)).mono ?_
        rintro en w2 ⟨rfl, hB, hb⟩
        have HI2 := Lib.hid (HI.out.later hb)
        have HG := Lib.hid hB
        have hS := HI2.out.m
        have hsz := HI2.out.bl.size
        clear HI hB hb
        go_wp2_with (refine wpList_pushS rfl _ _ rfl w.heap.size u5 i _ rfl w2 _ rfl rfl hS rfl (by omega) hsz ?_; intro mv' w3 hS3 hg3; have HH := Lib.hid (HI2.out.push HG.out (by rw [HY.out.1]; exact hS3) hg3); clear HI2 HG hS hsz hS3 hg3)
        refine (copied_any (none) 0 0 ([]) _ (Rd.nil) HY.out.1 (by omega)).mono ?_
        rintro en w4 ⟨rfl, hB, hb⟩
        have HH2 := Lib.hid (HH.out.later hb)
        have HG2 := Lib.hid hB
        have HN := Lib.hid (HH.out.bg.lt)
        have hS := HH2.out.d
        have hsz := HH2.out.bl.size
        clear HH hB hb
        go_wp2_with (refine wpList_pushS rfl _ _ rfl w.heap.size u6 i _ rfl w4 _ rfl rfl hS rfl (by omega) hsz ?_; intro dv' w5 hS5 hg5; have HJ := Lib.hid (HH2.out.push HG2.out (by have := HN.out; omega) HY.out.2 (by rw [HY.out.1]; exact hS5) hg5); clear HH2 HG2 HN hS hsz hS5 hg5)
        go_roundw
        case rel => exact ⟨i + 1, _, _, _, by omega, by go_num, HJ.out⟩
        case measure => simp [intOf]; omega
    · have e8 : i = 8 := by omega
      have hT0 : L1 w wr u5 u6 8 ga gb xs := e8 ▸ hI.out
      have e8' : (i : Int) = 8 := by omega
      rw [e8']
      clear hI hi hi8 e8 e8'
      obtain ⟨gm, cm, gd, cd, rfl, rfl, hT⟩ := hT0.tbl
      have HTb := Lib.hid hT
      clear hT hT0
      go_wp2
      obtain ⟨w8, rfl⟩ : ∃ wo : World, wo = wr := ⟨_, rfl⟩
      go_loopw [9] (fun iv wr => ∃ (i : Nat) (Am Ad : Nat → Option Addr) (dc : Nat → Nat) (xs : Nat → List Nat), i ≤ 200 ∧ iv = .int .i64 i ∧ Hid (Tbl w wr gm cm gd cd Am Ad dc xs)) (fun iv _ => 200 - (intOf iv).toNat)
      case atStart => exact ⟨0, _, _, _, _, by omega, rfl, HTb.out⟩
      case round =>
        clear HTb
        obtain ⟨i, Am, Ad, dc, xs, hi, rfl, HTb⟩ := hrel
        by_cases hin : i < ns ∧ i < 200
        · obtain ⟨hin1, hin2⟩ := hin
          obtain ⟨sb, so, rfl, c, a0, d0, n0, h0, h1, h2, h3, bc, ba, bd, bn⟩ := HS.out i hin1
          have HC := Lib.hid (And.intro (And.intro h0 h1) (And.intro h2 h3))
          have HBn := Lib.hid (And.intro (And.intro ba bd) bn)
          have z0 := cell_at HTb.out.bl h0
          clear h0 h1 h2 h3 ba bd bn
          have t1 : decide ((i : Int) < (ns : Int)) = true := decide_eq_true (by omega)
          have t2 : decide ((i : Int) < 200) = true := decide_eq_true (by omega)
          go_upto_if 55 with fail
          clear t1 t2
          go_cut [10] from 56 to 61 (fun v wx => (∃ k : Nat, k < 14 ∧ v = .int .i64 (k : Int)) ∧ wx = wr)
          case first =>
            obtain ⟨bc1, bc2⟩ := bc
            by_cases hc0 : 0 ≤ c
            · go_wp2
              go_meet
              case rel => exact ⟨⟨(c % 14).toNat, by omega, by rw [show (((c % 14).toNat : Nat) : Int) = c % 14 by omega]⟩, rfl⟩
            · go_wp2
              go_meet
              case rel => exact ⟨⟨0, by omega, rfl⟩, rfl⟩
          case rest =>
            obtain ⟨⟨k, hk, rfl⟩, rfl⟩ := hcut
            clear z0 bc
            obtain ⟨pa, ha, hA⟩ := place8_n a0 HBn.out.1.1.1 HBn.out.1.1.2
            obtain ⟨pb, hb8, hB⟩ := place8_n d0 HBn.out.1.2.1 HBn.out.1.2.2
            have HA := Lib.hid hA
            have HB := Lib.hid hB
            have HAB := Lib.hid (And.intro ha hb8)
            clear hA hB
            have z1 := cell_at HTb.out.bl HC.out.1.2
            have z2 := cell_at HTb.out.bl HC.out.2.1
            go_wp2_with fail
            refine (HA.out _).mono ?_
            rintro en w1 ⟨rfl, rfl⟩
            go_wp2_with fail
            refine (HB.out _).mono ?_
            rintro en w1 ⟨rfl, rfl⟩
            clear z1 z2 HA HB
            go_upto_region 19 with fail
            obtain ⟨n1, hn1⟩ : ∃ n, (xs pa).length = n := ⟨_, rfl⟩
            obtain ⟨n2, hn2⟩ : ∃ n, (xs pb).length = n := ⟨_, rfl⟩
            have HN := Lib.hid (And.intro hn1 hn2)
            have hsm : IntKind.i64.wrap ((n1 : Int) + (n2 : Int)) = (n1 : Int) + (n2 : Int) := IntWalk.i64_in _ (by have := HTb.out.len pa ha; have := HTb.out.len pb hb8; omega)
            have HSM := Lib.hid hsm
            clear hn1 hn2 hsm
            go_cut [101] from 74 to 100 (fun v wx => (∃ B : Bool, v = .bool B) ∧ Below wc.heap.size wc wx)
            case first =>
              have q1 := (HTb.out.cd' HAB.out.1).1
              have q2 := (HTb.out.cd' HAB.out.2).1
              rw [HN.out.1] at q1
              rw [HN.out.2] at q2
              have hs := HSM.out
              cases e1 : decide ((900 : Int) < (n1 : Int) + (n2 : Int))
              · cases e3 : ((k : Int) == 11)
                · go_quiet (fail)
                  go_wp2
                  go_meet
                  case rel => exact ⟨⟨_, rfl⟩, below_drewN (Below.refl _ _) _⟩
                · cases e4 : decide ((8 : Int) < (n1 : Int))
                  · go_quiet (fail)
                    go_wp2
                    go_meet
                    case rel => exact ⟨⟨_, rfl⟩, below_drewN (Below.refl _ _) _⟩
                  · go_quiet (fail)
                    go_wp2
                    go_meet
                    case rel => exact ⟨⟨_, rfl⟩, below_drewN (Below.refl _ _) _⟩
              · cases e2 : ((k : Int) != 13)
                · cases e3 : ((k : Int) == 11)
                  · go_quiet (fail)
                    go_wp2
                    go_meet
                    case rel => exact ⟨⟨_, rfl⟩, below_drewN (Below.refl _ _) _⟩
                  · cases e4 : decide ((8 : Int) < (n1 : Int))
                    · go_quiet (fail)
                      go_wp2
                      go_meet
                      case rel => exact ⟨⟨_, rfl⟩, below_drewN (Below.refl _ _) _⟩
                    · go_quiet (fail)
                      go_wp2
                      go_meet
                      case rel => exact ⟨⟨_, rfl⟩, below_drewN (Below.refl _ _) _⟩
                · go_quiet (fail)
                  go_wp2
                  go_meet
                  case rel => exact ⟨⟨_, rfl⟩, below_drewN (Below.refl _ _) _⟩
            case rest =>
              obtain ⟨⟨B, rfl⟩, hbl⟩ := hcut
              have HTb := Lib.hid (HTb.out.later hbl)
              clear hbl HN HSM
              go_upto_if 101 with fail
              go_cut [10] from 101 to 101 (fun v wx => (∃ k : Nat, k < 14 ∧ v = .int .i64 (k : Int)) ∧ wx = wc)
              case first =>
                cases B <;> (
                go_wp2
                go_meet
                first
                | (case rel => exact ⟨⟨k, hk, rfl⟩, rfl⟩)
                | (case rel => exact ⟨⟨7, by omega, rfl⟩, rfl⟩))
              case rest =>
                clear hk
                obtain ⟨⟨k, hk, rfl⟩, rfl⟩ := hcut
                have z3 := cell_at HTb.out.bl HC.out.2.2
                go_upto_region 22 with fail
                go_cut [120] from 107 to 119 (fun v wx => (∃ B : Bool, v = .bool B ∧ (B = true → 40 < n0)) ∧ wx = wc)
                case first =>
                  cases e1 : ((k : Int) == 11) <;> cases e2 : decide ((40 : Int) < n0) <;> cases e3 : ((k : Int) == 12) <;> cases e4 : decide ((9000 : Int) < n0) <;> (
                  go_wp2
                  go_meet
                  case rel => exact ⟨⟨_, rfl, by intro hB; first | exact absurd hB (by decide) | exact of_decide_eq_true e2 | (have := of_decide_eq_true e4; omega)⟩, rfl⟩)
                case rest =>
                  clear z3
                  obtain ⟨⟨B, rfl, hB40⟩, rfl⟩ := hcut
                  go_upto_if 120 with fail
                  go_cut [13] from 120 to 122 (fun v wx => (∃ n : Int, v = .int .i64 n ∧ Hid (-9223372036854775808 ≤ n ∧ n ≤ 9223372036854775807)) ∧ wx = wc)
                  case first =>
                    cases B
                    · go_wp2
                      go_meet
                      case rel => exact ⟨⟨_, rfl, HBn.out.2⟩, rfl⟩
                    · have hn0 : 0 ≤ n0 := by have := hB40 rfl; omega
                      go_wp2
                      go_meet
                      case rel => exact ⟨⟨_, rfl, (show -9223372036854775808 ≤ n0 % 41 ∧ n0 % 41 ≤ 9223372036854775807 by omega)⟩, rfl⟩
                  case rest =>
                    obtain ⟨⟨n, rfl, HNn⟩, rfl⟩ := hcut
                    clear hB40
                    have HKn := Lib.hid (knowz_k k hk n HNn.out.1 HNn.out.2 (xs pa) (xs pb) (HTb.out.ra pa ha).1 (HTb.out.ra pb hb8).1 (HTb.out.len pa ha) (HTb.out.len pb hb8))
                    have HLn := Lib.hid (ans_len k n (xs pa) (xs pb) (HTb.out.ra pa ha).1 (HTb.out.len pa ha))
                    obtain ⟨an, han⟩ : ∃ an, ansOf k (val (xs pa)) (val (xs pb)) 5 n = an := ⟨_, rfl⟩
                    rw [han] at HKn HLn
                    clear han
                    go_upto_region 24 with fail
                    go_cut [14] from 123 to 133 (fun v wx => ∃ r AL AM, v = .pointer (some ⟨r, 0, none⟩) ∧ Hid (Below wc.heap.size wc wx ∧ Rec wx r AL an.l.length AM an.m.length an ∧ Rd wx AL an.l ∧ Rd wx AM an.m))
                    case first =>
                      refine region_at 12 (Pick [IsV (.int .i64 (k : Int)), IsV (.slice (some ⟨gm, 0, none⟩) 8 cm), IsV (.int .i64 (pa : Int)), IsV (.pointer (some ⟨gm, pa, none⟩)), IsV (.slice (Am pa) (xs pa).length (xs pa).length), IsV (.slice (some ⟨gm, 0, none⟩) 8 cm), IsV (.int .i64 (pb : Int)), IsV (.pointer (some ⟨gm, pb, none⟩)), IsV (.slice (Am pb) (xs pb).length (xs pb).length), IsV (.int .i64 n), IsA' an, IsA6 wc.heap.size]) (by kernel_rfl) (by kernel_rfl) (by kernel_rfl) (mono_pick ⟨IsV.mono _, IsV.mono _, IsV.mono _, IsV.mono _, IsV.mono _, IsV.mono _, IsV.mono _, IsV.mono _, IsV.mono _, IsV.mono _, IsA'.mono _, IsA6.mono _, trivial⟩) ⟨?_, ?_, ?_, ?_, ?_, ?_, ?_, ?_, ?_, ?_, ?_, ?_, trivial⟩ ?_
                      · intro a W hsz hb hS
                        have h10 : a.tmps.getD 10 undef = .int .i64 (k : Int) := hS.1
                        clear hS hsz
                        refine will_of rfl ?_
                        intro K hK
                        go_simp
                        exact hK _ _ ⟨Below.refl _ _, rfl⟩
                      · intro a W hsz hb hS
                        have h5 : a.tmps.getD 5 undef = .slice (some ⟨gm, 0, none⟩) 8 cm := hS.1
                        clear hS hsz
                        refine will_of rfl ?_
                        intro K hK
                        go_simp
                        exact hK _ _ ⟨Below.refl _ _, rfl⟩
                      · intro a W hsz hb hS
                        have h11 : a.tmps.getD 11 undef = .int .i64 (pa : Int) := hS.1
                        clear hS hsz
                        refine will_of rfl ?_
                        intro K hK
                        go_simp
                        exact hK _ _ ⟨Below.refl _ _, rfl⟩
                      · intro a W hsz hb hS
                        have h124 : a.tmps.getD 124 undef = .slice (some ⟨gm, 0, none⟩) 8 cm := hS.1
                        have h125 : a.tmps.getD 125 undef = .int .i64 (pa : Int) := hS.2.1
                        clear hS hsz
                        refine will_of rfl ?_
                        intro K hK
                        have g1 : (pa : Int) < 8 := by have := HAB.out.1; omega
                        go_simp
                        exact hK _ _ ⟨Below.refl _ _, rfl⟩
                      · intro a W hsz hb hS
                        have h126 : a.tmps.getD 126 undef = .pointer (some ⟨gm, pa, none⟩) := hS.1
                        clear hS hsz
                        refine will_of rfl ?_
                        have q1 := (HTb.out.later hb).cm' HAB.out.1
                        have q2 := (HTb.out.later hb).cm' HAB.out.2
                        obtain ⟨q1, _⟩ := q1
                        obtain ⟨q2, _⟩ := q2
                        intro K hK
                        go_simp
                        exact hK _ _ ⟨Below.refl _ _, rfl⟩
                      · intro a W hsz hb hS
                        have h5 : a.tmps.getD 5 undef = .slice (some ⟨gm, 0, none⟩) 8 cm := hS.1
                        clear hS hsz
                        refine will_of rfl ?_
                        intro K hK
                        go_simp
                        exact hK _ _ ⟨Below.refl _ _, rfl⟩
                      · intro a W hsz hb hS
                        have h12 : a.tmps.getD 12 undef = .int .i64 (pb : Int) := hS.1
                        clear hS hsz
                        refine will_of rfl ?_
                        intro K hK
                        go_simp
                        exact hK _ _ ⟨Below.refl _ _, rfl⟩
                      · intro a W hsz hb hS
                        have h128 : a.tmps.getD 128 undef = .slice (some ⟨gm, 0, none⟩) 8 cm := hS.1
                        have h129 : a.tmps.getD 129 undef = .int .i64 (pb : Int) := hS.2.1
                        clear hS hsz
                        refine will_of rfl ?_
                        intro K hK
                        have g1 : (pb : Int) < 8 := by have := HAB.out.2; omega
                        go_simp
                        exact hK _ _ ⟨Below.refl _ _, rfl⟩
                      · intro a W hsz hb hS
                        have h130 : a.tmps.getD 130 undef = .pointer (some ⟨gm, pb, none⟩) := hS.1
                        clear hS hsz
                        refine will_of rfl ?_
                        have q1 := (HTb.out.later hb).cm' HAB.out.1
                        have q2 := (HTb.out.later hb).cm' HAB.out.2
                        obtain ⟨q1, _⟩ := q1
                        obtain ⟨q2, _⟩ := q2
                        intro K hK
                        go_simp
                        exact hK _ _ ⟨Below.refl _ _, rfl⟩
                      · intro a W hsz hb hS
                        have h13 : a.tmps.getD 13 undef = .int .i64 n := hS.1
                        clear hS hsz
                        refine will_of rfl ?_
                        intro K hK
                        go_simp
                        exact hK _ _ ⟨Below.refl _ _, rfl⟩
                      · intro a W hsz hb hS
                        have h123 : a.tmps.getD 123 undef = .int .i64 (k : Int) := hS.1
                        have h127 : a.tmps.getD 127 undef = .slice (Am pa) (xs pa).length (xs pa).length := hS.2.1
                        have h131 : a.tmps.getD 131 undef = .slice (Am pb) (xs pb).length (xs pb).length := hS.2.2.1
                        have h132 : a.tmps.getD 132 undef = .int .i64 n := hS.2.2.2.1
                        clear hS hsz
                        refine will_of rfl ?_
                        have q1 := (HTb.out.later hb).cm' HAB.out.1
                        have q2 := (HTb.out.later hb).cm' HAB.out.2
                        obtain ⟨q1, _⟩ := q1
                        obtain ⟨q2, _⟩ := q2
                        intro K hK
                        go_simp
                        refine ((HKn.out.ask _ _ _ _ _ _ _ ((HTb.out.later hb).ra pa HAB.out.1) rfl (Nat.le_refl _) (by have := HTb.out.len pa HAB.out.1; omega) ((HTb.out.later hb).ra pb HAB.out.2) rfl (Nat.le_refl _) (by have := HTb.out.len pb HAB.out.2; omega) (HT.out.below (HTb.out.later hb).bl)).mono fun e W' hh => own_a hh).mono ?_
                        rintro e W' ⟨v, rfl, hv, hb'⟩
                        exact hK _ _ ⟨hb', hv⟩
                      · intro a W hsz hb hS
                        clear hS hsz
                        refine will_of rfl ?_
                        intro K hK
                        go_simp
                        exact hK _ _ ⟨below_new' _ _, _, rfl, rfl_box _, hb.size⟩
                      intro f W hb hH
                      have e0 : f 0 = .int .i64 (k : Int) := hH.1
                      have e1 : f 1 = .slice (some ⟨gm, 0, none⟩) 8 cm := hH.2.1
                      have e2 : f 2 = .int .i64 (pa : Int) := hH.2.2.1
                      have e3 : f 3 = .pointer (some ⟨gm, pa, none⟩) := hH.2.2.2.1
                      have e4 : f 4 = .slice (Am pa) (xs pa).length (xs pa).length := hH.2.2.2.2.1
                      have e5 : f 5 = .slice (some ⟨gm, 0, none⟩) 8 cm := hH.2.2.2.2.2.1
                      have e6 : f 6 = .int .i64 (pb : Int) := hH.2.2.2.2.2.2.1
                      have e7 : f 7 = .pointer (some ⟨gm, pb, none⟩) := hH.2.2.2.2.2.2.2.1
                      have e8 : f 8 = .slice (Am pb) (xs pb).length (xs pb).length := hH.2.2.2.2.2.2.2.2.1
                      have e9 : f 9 = .int .i64 n := hH.2.2.2.2.2.2.2.2.2.1
                      obtain ⟨x10, y10⟩ : ∃ x, f 10 = x := ⟨_, rfl⟩
                      have q10 : IsA' an (f 10) W := hH.2.2.2.2.2.2.2.2.2.2.1
                      rw [y10] at q10
                      obtain ⟨x11, y11⟩ : ∃ x, f 11 = x := ⟨_, rfl⟩
                      have q11 : IsA6 wc.heap.size (f 11) W := hH.2.2.2.2.2.2.2.2.2.2.2.1
                      rw [y11] at q11
                      simp only [List.take_succ_cons, List.take_zero, List.drop_succ_cons, List.drop_zero, putFrom, Act.put, List.setIfInBounds_toArray, List.set_cons_zero, List.set_cons_succ, Nat.reduceAdd, e0, e1, e2, e3, e4, e5, e6, e7, e8, e9, y10, y11]
                      clear e0 e1 e2 e3 e4 e5 e6 e7 e8 e9 y10 y11 hH f
                      obtain ⟨AL, AM, rfl, hl, hm'⟩ := q10
                      obtain ⟨r, rfl, hbox, hr⟩ := q11
                      have HL := Lib.hid (And.intro hl hm')
                      have HX := Lib.hid (And.intro hbox hr)
                      have HBl := Lib.hid hb
                      have cc : ∀ i, W.cell? ⟨r, i, none⟩ = #[Value.slice none 0 0, .slice none 0 0, .int .u64 0, .int .i64 0, .bool false, .int .i64 0][i]? := fun i => by simp [World.cell?, hbox]
                      have ff : ∀ i, W.frozen? ⟨r, i, none⟩ = false := fun i => by simp [World.frozen?, hbox]
                      have c0 := cc 0; have c1 := cc 1; have c2 := cc 2; have c3 := cc 3; have c4 := cc 4; have c5 := cc 5
                      have f0 := ff 0; have f1 := ff 1; have f2 := ff 2; have f3 := ff 3; have f4 := ff 4; have f5 := ff 5
                      clear hl hm' hb hbox hr cc ff
                      go_wp2
                      go_meet
                      case rel =>
                        have hh := put6_ok (c1 := an.l.length) (c2 := an.m.length) HBl.out HX.out.1 HX.out.2 HL.out.1 HL.out.2
                        exact ⟨r, AL, AM, rfl, hh.1, hh.2.rc, hh.2.l, hh.2.m⟩
                    case rest =>
                      obtain ⟨r, AL, AM, rfl, hP⟩ := hcut
                      have HP := Lib.hid hP.out
                      have HTb := Lib.hid (HTb.out.later HP.out.1)
                      clear hP
                      go_upto_region 25 with fail
                      go_cut [15] from 134 to 146 (fun v wx => ∃ r1 A1 c1 A2 c2, v = .pointer (some ⟨r1, 0, none⟩) ∧ Hid (Below wc.heap.size wc wx ∧ Wnt wx r1 A1 c1 A2 c2 an))
                      case first =>
                        refine region_at 14 (Pick [IsV (.int .i64 (k : Int)), IsV (.slice (some ⟨gd, 0, none⟩) 8 cd), IsV (.int .i64 (pa : Int)), IsV (.pointer (some ⟨gd, pa, none⟩)), IsV (.slice (Ad pa) (xs pa).length (dc pa)), IsC (xs pa), IsV (.slice (some ⟨gd, 0, none⟩) 8 cd), IsV (.int .i64 (pb : Int)), IsV (.pointer (some ⟨gd, pb, none⟩)), IsV (.slice (Ad pb) (xs pb).length (dc pb)), IsC (xs pb), IsV (.int .i64 n), IsA an, IsA6 wc.heap.size]) (by kernel_rfl) (by kernel_rfl) (by kernel_rfl) (mono_pick ⟨IsV.mono _, IsV.mono _, IsV.mono _, IsV.mono _, IsV.mono _, IsC.mono _, IsV.mono _, IsV.mono _, IsV.mono _, IsV.mono _, IsC.mono _, IsV.mono _, IsA.mono _, IsA6.mono _, trivial⟩) ⟨?_, ?_, ?_, ?_, ?_, ?_, ?_, ?_, ?_, ?_, ?_, ?_, ?_, ?_, trivial⟩ ?_
                        · intro a W hsz hb hS
                          have h10 : a.tmps.getD 10 undef = .int .i64 (k : Int) := hS.1
                          clear hS hsz
                          refine will_of rfl ?_
                          intro K hK
                          go_simp
                          exact hK _ _ ⟨Below.refl _ _, rfl⟩
                        · intro a W hsz hb hS
                          have h6 : a.tmps.getD 6 undef = .slice (some ⟨gd, 0, none⟩) 8 cd := hS.1
                          clear hS hsz
                          refine will_of rfl ?_
                          intro K hK
                          go_simp
                          exact hK _ _ ⟨Below.refl _ _, rfl⟩
                        · intro a W hsz hb hS
                          have h11 : a.tmps.getD 11 undef = .int .i64 (pa : Int) := hS.1
                          clear hS hsz
                          refine will_of rfl ?_
                          intro K hK
                          go_simp
                          exact hK _ _ ⟨Below.refl _ _, rfl⟩
                        · intro a W hsz hb hS
                          have h135 : a.tmps.getD 135 undef = .slice (some ⟨gd, 0, none⟩) 8 cd := hS.1
                          have h136 : a.tmps.getD 136 undef = .int .i64 (pa : Int) := hS.2.1
                          clear hS hsz
                          refine will_of rfl ?_
                          intro K hK
                          have g1 : (pa : Int) < 8 := by have := HAB.out.1; omega
                          go_simp
                          exact hK _ _ ⟨Below.refl _ _, rfl⟩
                        · intro a W hsz hb hS
                          have h137 : a.tmps.getD 137 undef = .pointer (some ⟨gd, pa, none⟩) := hS.1
                          clear hS hsz
                          refine will_of rfl ?_
                          have q1 := (HTb.out.later hb).cd' HAB.out.1
                          have q2 := (HTb.out.later hb).cd' HAB.out.2
                          obtain ⟨q1, _⟩ := q1
                          obtain ⟨q2, _⟩ := q2
                          intro K hK
                          go_simp
                          exact hK _ _ ⟨Below.refl _ _, rfl⟩
                        · intro a W hsz hb hS
                          have h138 : a.tmps.getD 138 undef = .slice (Ad pa) (xs pa).length (dc pa) := hS.1
                          clear hS hsz
                          refine will_of rfl ?_
                          have q1 := (HTb.out.later hb).cd' HAB.out.1
                          have q2 := (HTb.out.later hb).cd' HAB.out.2
                          obtain ⟨q1, _⟩ := q1
                          obtain ⟨q2, _⟩ := q2
                          intro K hK
                          go_simp
                          refine (copied_a ((HTb.out.later hb).rb pa HAB.out.1) rfl (by have := HTb.out.len pa HAB.out.1; omega)).mono ?_
                          rintro e W' ⟨v, rfl, hv, hb'⟩
                          exact hK _ _ ⟨hb', hv⟩
                        · intro a W hsz hb hS
                          have h6 : a.tmps.getD 6 undef = .slice (some ⟨gd, 0, none⟩) 8 cd := hS.1
                          clear hS hsz
                          refine will_of rfl ?_
                          intro K hK
                          go_simp
                          exact hK _ _ ⟨Below.refl _ _, rfl⟩
                        · intro a W hsz hb hS
                          have h12 : a.tmps.getD 12 undef = .int .i64 (pb : Int) := hS.1
                          clear hS hsz
                          refine will_of rfl ?_
                          intro K hK
                          go_simp
                          exact hK _ _ ⟨Below.refl _ _, rfl⟩
                        · intro a W hsz hb hS
                          have h140 : a.tmps.getD 140 undef = .slice (some ⟨gd, 0, none⟩) 8 cd := hS.1
                          have h141 : a.tmps.getD 141 undef = .int .i64 (pb : Int) := hS.2.1
                          clear hS hsz
                          refine will_of rfl ?_
                          intro K hK
                          have g1 : (pb : Int) < 8 := by have := HAB.out.2; omega
                          go_simp
                          exact hK _ _ ⟨Below.refl _ _, rfl⟩
                        · intro a W hsz hb hS
                          have h142 : a.tmps.getD 142 undef = .pointer (some ⟨gd, pb, none⟩) := hS.1
                          clear hS hsz
                          refine will_of rfl ?_
                          have q1 := (HTb.out.later hb).cd' HAB.out.1
                          have q2 := (HTb.out.later hb).cd' HAB.out.2
                          obtain ⟨q1, _⟩ := q1
                          obtain ⟨q2, _⟩ := q2
                          intro K hK
                          go_simp
                          exact hK _ _ ⟨Below.refl _ _, rfl⟩
                        · intro a W hsz hb hS
                          have h143 : a.tmps.getD 143 undef = .slice (Ad pb) (xs pb).length (dc pb) := hS.1
                          clear hS hsz
                          refine will_of rfl ?_
                          have q1 := (HTb.out.later hb).cd' HAB.out.1
                          have q2 := (HTb.out.later hb).cd' HAB.out.2
                          obtain ⟨q1, _⟩ := q1
                          obtain ⟨q2, _⟩ := q2
                          intro K hK
                          go_simp
                          refine (copied_a ((HTb.out.later hb).rb pb HAB.out.2) rfl (by have := HTb.out.len pb HAB.out.2; omega)).mono ?_
                          rintro e W' ⟨v, rfl, hv, hb'⟩
                          exact hK _ _ ⟨hb', hv⟩
                        · intro a W hsz hb hS
                          have h13 : a.tmps.getD 13 undef = .int .i64 n := hS.1
                          clear hS hsz
                          refine will_of rfl ?_
                          intro K hK
                          go_simp
                          exact hK _ _ ⟨Below.refl _ _, rfl⟩
                        · intro a W hsz hb hS
                          have h134 : a.tmps.getD 134 undef = .int .i64 (k : Int) := hS.1
                          have q139 : IsC (xs pa) (a.tmps.getD 139 undef) W := hS.2.1
                          have q144 : IsC (xs pb) (a.tmps.getD 144 undef) W := hS.2.2.1
                          have h145 : a.tmps.getD 145 undef = .int .i64 n := hS.2.2.2.1
                          clear hS hsz
                          obtain ⟨v139, h139⟩ : ∃ v, a.tmps.getD 139 undef = v := ⟨_, rfl⟩
                          rw [h139] at q139
                          obtain ⟨v144, h144⟩ : ∃ v, a.tmps.getD 144 undef = v := ⟨_, rfl⟩
                          rw [h144] at q144
                          refine will_of rfl ?_
                          have q1 := (HTb.out.later hb).cd' HAB.out.1
                          have q2 := (HTb.out.later hb).cd' HAB.out.2
                          obtain ⟨q1, _⟩ := q1
                          obtain ⟨q2, _⟩ := q2
                          intro K hK
                          obtain ⟨X1, rfl, q3⟩ := q139
                          obtain ⟨X2, rfl, q4⟩ := q144
                          go_simp
                          refine ((HKn.out.want _ _ _ _ _ _ _ q3 rfl (by have := HTb.out.len pa HAB.out.1; omega) q4 rfl (by have := HTb.out.len pb HAB.out.2; omega)).mono fun e W' hh => want_a hh).mono ?_
                          rintro e W' ⟨v, rfl, hv, hb'⟩
                          exact hK _ _ ⟨hb', hv⟩
                        · intro a W hsz hb hS
                          clear hS hsz
                          refine will_of rfl ?_
                          intro K hK
                          go_simp
                          exact hK _ _ ⟨below_new' _ _, _, rfl, rfl_box _, hb.size⟩
                        intro f W hb hH
                        have e0 : f 0 = .int .i64 (k : Int) := hH.1
                        have e1 : f 1 = .slice (some ⟨gd, 0, none⟩) 8 cd := hH.2.1
                        have e2 : f 2 = .int .i64 (pa : Int) := hH.2.2.1
                        have e3 : f 3 = .pointer (some ⟨gd, pa, none⟩) := hH.2.2.2.1
                        have e4 : f 4 = .slice (Ad pa) (xs pa).length (dc pa) := hH.2.2.2.2.1
                        obtain ⟨x5, y5⟩ : ∃ x, f 5 = x := ⟨_, rfl⟩
                        have q5 : IsC (xs pa) (f 5) W := hH.2.2.2.2.2.1
                        rw [y5] at q5
                        have e6 : f 6 = .slice (some ⟨gd, 0, none⟩) 8 cd := hH.2.2.2.2.2.2.1
                        have e7 : f 7 = .int .i64 (pb : Int) := hH.2.2.2.2.2.2.2.1
                        have e8 : f 8 = .pointer (some ⟨gd, pb, none⟩) := hH.2.2.2.2.2.2.2.2.1
                        have e9 : f 9 = .slice (Ad pb) (xs pb).length (dc pb) := hH.2.2.2.2.2.2.2.2.2.1
                        obtain ⟨x10, y10⟩ : ∃ x, f 10 = x := ⟨_, rfl⟩
                        have q10 : IsC (xs pb) (f 10) W := hH.2.2.2.2.2.2.2.2.2.2.1
                        rw [y10] at q10
                        have e11 : f 11 = .int .i64 n := hH.2.2.2.2.2.2.2.2.2.2.2.1
                        obtain ⟨x12, y12⟩ : ∃ x, f 12 = x := ⟨_, rfl⟩
                        have q12 : IsA an (f 12) W := hH.2.2.2.2.2.2.2.2.2.2.2.2.1
                        rw [y12] at q12
                        obtain ⟨x13, y13⟩ : ∃ x, f 13 = x := ⟨_, rfl⟩
                        have q13 : IsA6 wc.heap.size (f 13) W := hH.2.2.2.2.2.2.2.2.2.2.2.2.2.1
                        rw [y13] at q13
                        simp only [List.take_succ_cons, List.take_zero, List.drop_succ_cons, List.drop_zero, putFrom, Act.put, List.setIfInBounds_toArray, List.set_cons_zero, List.set_cons_succ, Nat.reduceAdd, e0, e1, e2, e3, e4, y5, e6, e7, e8, e9, y10, e11, y12, y13]
                        clear e0 e1 e2 e3 e4 y5 e6 e7 e8 e9 y10 e11 y12 y13 hH f
                        obtain ⟨A1, c1, A2, c2, rfl, hl, hm'⟩ := q12
                        obtain ⟨r, rfl, hbox, hr⟩ := q13
                        clear q5 q10
                        have HL := Lib.hid (And.intro hl hm')
                        have HX := Lib.hid (And.intro hbox hr)
                        have HBl := Lib.hid hb
                        have cc : ∀ i, W.cell? ⟨r, i, none⟩ = #[Value.slice none 0 0, .slice none 0 0, .int .u64 0, .int .i64 0, .bool false, .int .i64 0][i]? := fun i => by simp [World.cell?, hbox]
                        have ff : ∀ i, W.frozen? ⟨r, i, none⟩ = false := fun i => by simp [World.frozen?, hbox]
                        have e0 := cc 0; have e1 := cc 1; have e2 := cc 2; have e3 := cc 3; have e4 := cc 4; have e5 := cc 5
                        have f0 := ff 0; have f1 := ff 1; have f2 := ff 2; have f3 := ff 3; have f4 := ff 4; have f5 := ff 5
                        clear hl hm' hb hbox hr cc ff
                        go_wp2
                        go_meet
                        case rel => exact ⟨r, A1, c1, A2, c2, rfl, (put6_ok HBl.out HX.out.1 HX.out.2 HL.out.1 HL.out.2).1, (put6_ok HBl.out HX.out.1 HX.out.2 HL.out.1 HL.out.2).2⟩
                      case rest =>
                        obtain ⟨r1, A1, c1, A2, c2, rfl, hW⟩ := hcut
                        have HW := Lib.hid hW.out
                        have HTb := Lib.hid (HTb.out.later HW.out.1)
                        have HP := Lib.hid (And.intro (HP.out.2.1.later HW.out.1) (And.intro (HP.out.2.2.1.below HW.out.1) (HP.out.2.2.2.below HW.out.1)))
                        have HW := Lib.hid HW.out.2
                        clear hW
                        obtain ⟨v0, v1, v2, v3, v4, v5⟩ := HP.out.1.cells
                        obtain ⟨x0, x1, x2, x3, x4, x5⟩ := HW.out.rc.cells
                        have HAl := Lib.hid (fun (W : World) (hW : Below wc.heap.size wc W) => alike_any AL AM A1 A2 an.l.length an.m.length c1 c2 an.l an.m (an.wv : Nat) an.nv an.bv an.ev W (HP.out.2.1.below hW) (HP.out.2.2.below hW) (HW.out.l.below hW) (HW.out.m.below hW) (by have := HLn.out.1; omega) (by have := HLn.out.2; omega))
                        go_wp2_with fail
                        refine (HAl.out _ (Below.refl _ _)).mono ?_
                        rintro en w9 ⟨rfl, hb⟩
                        have HP := Lib.hid (And.intro (HP.out.1.later hb) (And.intro (HP.out.2.1.below hb) (HP.out.2.2.below hb)))
                        have HW := Lib.hid (HW.out.later hb)
                        have HTb := Lib.hid (HTb.out.later hb)
                        clear hb HAl v0 v1 v2 v3 v4 v5 x0 x1 x2 x3 x4 x5
                        obtain ⟨v0, v1, v2, v3, v4, v5⟩ := HP.out.1.cells
                        obtain ⟨x0, x1, x2, x3, x4, x5⟩ := HW.out.rc.cells
                        go_upto_region 28 with fail
                        go_cut [169] from 151 to 168 (fun v wx => (∃ B : Bool, v = .bool B) ∧ wx = w9)
                        case first =>
                          obtain ⟨ev, hev⟩ : ∃ ev, an.ev = ev := ⟨_, rfl⟩
                          rw [hev] at v5 x5
                          cases e1 : (ev == (0 : Int)) <;> cases e2 : ((k : Int) != 2) <;> cases e3 : ((k : Int) != 3) <;> cases e4 : ((k : Int) != 4) <;> cases e5 : ((k : Int) != 5) <;> (
                          go_wp2
                          go_meet
                          case rel => exact ⟨⟨_, rfl⟩, rfl⟩)
                        case rest =>
                          obtain ⟨⟨B, rfl⟩, rfl⟩ := hcut
                          go_upto_if 169 with fail
                          go_cut [169] from 170 to 195 (fun v wx => ∃ (Am Ad : Nat → Option Addr) (dc : Nat → Nat) (xs : Nat → List Nat), Hid (Tbl w wx gm cm gd cd Am Ad dc xs))
                          case first =>
                            cases B
                            · go_wp2
                              go_meet
                              case rel => exact ⟨_, _, _, _, HTb.out⟩
                            · have r1m := rec_apart HP.out.1 HTb.out.m
                              have r1d := rec_apart HP.out.1 HTb.out.d
                              have r2m := rec_apart HW.out.rc HTb.out.m
                              have r2d := rec_apart HW.out.rc HTb.out.d
                              have HT2 := Lib.hid (HTb.out.put HAB.out.1 (c := c1) HP.out.2.1 HW.out.l HLn.out.1)
                              have HM1 := HTb.out.mid HAB.out.1 (.slice AL an.l.length an.l.length)
                              obtain ⟨q3, q4⟩ := HTb.out.cm' HAB.out.1
                              have q5 := HM1.cellAt pa (by have := HAB.out.1; omega)
                              rw [range8 _ HAB.out.1] at q5
                              have q6 := HM1.frozenAt pa
                              have y0 : (wc.setCell ⟨gm, pa, none⟩ (.slice AL an.l.length an.l.length)).cell? ⟨r1, 0, none⟩ = some (.slice A1 an.l.length c1) := (World.cell?_of_block (a := ⟨r1, 0, none⟩) (setb wc gm pa _ r1 r2m)).trans x0
                              have g1 : (pa : Int) < 8 := by have := HAB.out.1; omega
                              cases e9 : ((k : Int) == 9)
                              · clear v1 v2 v3 v4 v5 x1 x2 x3 x4 x5 HM1 r1m r1d r2m r2d
                                go_wp2
                                go_meet
                                case rel => exact ⟨_, _, _, _, HT2.out⟩
                              · obtain ⟨p2, hp2, hp2'⟩ : ∃ p2 : Nat, p2 < 8 ∧ ((pa : Int) + 1) % 8 = (p2 : Int) := ⟨(((pa : Int) + 1) % 8).toNat, by omega, by omega⟩
                                have g2 : (p2 : Int) < 8 := by omega
                                have HT4 := Lib.hid (HT2.out.put hp2 (c := c2) (HTb.out.rds HAB.out.1 HP.out.2.2) (HTb.out.rds HAB.out.1 HW.out.m) HLn.out.2)
                                obtain ⟨q7, q8⟩ := HT2.out.cm' hp2
                                have y1 : ((wc.setCell ⟨gm, pa, none⟩ (.slice AL an.l.length an.l.length)).setCell ⟨gd, pa, none⟩ (.slice A1 an.l.length c1)).cell? ⟨r, 1, none⟩ = some (.slice AM an.m.length an.m.length) := ((World.cell?_of_block (a := ⟨r, 1, none⟩) (setb _ gd pa _ r r1d)).trans (World.cell?_of_block (a := ⟨r, 1, none⟩) (setb wc gm pa _ r r1m))).trans v1
                                have y2 : (((wc.setCell ⟨gm, pa, none⟩ (.slice AL an.l.length an.l.length)).setCell ⟨gd, pa, none⟩ (.slice A1 an.l.length c1)).setCell ⟨gm, p2, none⟩ (.slice AM an.m.length an.m.length)).cell? ⟨r1, 1, none⟩ = some (.slice A2 an.m.length c2) := ((World.cell?_of_block (a := ⟨r1, 1, none⟩) (setb _ gm p2 _ r1 r2m)).trans ((World.cell?_of_block (a := ⟨r1, 1, none⟩) (setb _ gd pa _ r1 r2d)).trans (World.cell?_of_block (a := ⟨r1, 1, none⟩) (setb wc gm pa _ r1 r2m)))).trans x1
                                have HM3 := HT2.out.mid hp2 (.slice AM an.m.length an.m.length)
                                have z7 := HM3.cellAt p2 (by omega)
                                rw [range8 _ hp2] at z7
                                have z8 := HM3.frozenAt p2
                                clear v1 v2 v3 v4 v5 x1 x2 x3 x4 x5 HM1 HM3 r1m r1d r2m r2d hp2
                                go_wp2
                                go_meet
                                case rel => exact ⟨_, _, _, _, HT4.out⟩
                          case rest =>
                            obtain ⟨Am, Ad, dc, xs, hT⟩ := hcut
                            have HTb := Lib.hid hT.out
                            clear hT HP HW HKn HLn v0 v1 v2 v3 v4 v5 x0 x1 x2 x3 x4 x5
                            go_wp2
                            go_loopw [16] (fun jv wr => ∃ (j d : Nat), j ≤ 8 ∧ jv = .int .i64 j ∧ wr = wc.drewN d) (fun jv _ => 8 - (intOf jv).toNat)
                            case atStart => exact ⟨0, 0, by omega, rfl, rfl⟩
                            case round =>
                              obtain ⟨j, d, hj, rfl, rfl⟩ := hrel
                              by_cases hj8 : j < 8
                              · have q1 := (HTb.out.cm' hj8).1
                                have q2 := (HTb.out.cd' hj8).1
                                have g3 : (j : Int) < 8 := by omega
                                have HSm := Lib.hid (fun n => same_q (wc := wc) (d := d) (n := n) (c := (xs j).length) (c' := dc j) (HTb.out.ra j hj8) (HTb.out.rb j hj8) (by have := HTb.out.len j hj8; omega))
                                go_wp2
                                go_quiet ((go_at_call 18; with_reducible exact HSm.out _))
                                go_wp2
                                go_roundw
                                case rel => exact ⟨j + 1, _, by omega, by go_num, rfl⟩
                                case measure => simp [intOf]; omega
                              · obtain rfl : j = 8 := by omega
                                go_wp2
                                go_roundw
                                case rel => exact ⟨i + 1, Am, Ad, dc, xs, by omega, by go_num, HTb.out.later (below_drewN (Below.refl _ _) d)⟩
                                case measure => simp [intOf]; omega
        · by_cases hns : i < ns
          · have t1 : decide ((i : Int) < (ns : Int)) = true := decide_eq_true (by omega)
            have t2 : decide ((i : Int) < 200) = false := decide_eq_false (by omega)
            clear hin hns
            have HLv := Lib.hid (fun W => lives_any W)
            go_wp2_with (go_at_call 17; refine (HLv.out _).mono ?_; rintro en w9 ⟨rfl, hb⟩; have HB := Lib.hid (aft HTb.out.bl hb); clear hb)
            all_goals
              go_ret
              exact ⟨rfl, HB.out⟩
          · have t1 : decide (i < ns) = false := decide_eq_false (by omega)
            clear hin hns
            have HLv := Lib.hid (fun W => lives_any W)
            go_wp2_with (go_at_call 17; refine (HLv.out _).mono ?_; rintro en w9 ⟨rfl, hb⟩; have HB := Lib.hid (aft HTb.out.bl hb); clear hb)
            all_goals
              go_ret
              exact ⟨rfl, HB.out⟩

end Go.Proofs.YtniogjkkhkibhaaDoor
