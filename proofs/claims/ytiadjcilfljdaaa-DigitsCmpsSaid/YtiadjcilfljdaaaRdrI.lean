/- Layer 5, the program: numeral of a hexadecimal text. -/
import Derived.Test.YtiadjcilfljdaaaRdrH
import Derived.Deep.CutBlock
namespace Go.Proofs.Ytiadjcilfljdaaa
set_option linter.unusedVariables false
set_option linter.unusedSimpArgs false
open Go.RowKit Verge

set_option maxRecDepth 100000 in
set_option maxHeartbeats 8000000 in
theorem num_hex (w : World) (b : Nat) (l : List UInt8) (h : Rdr w b l l) (hl : l.length ≤ 4096) (t : List UInt8) (hh : hexy (sg l).2 = some t) :
    Calls Try.prog 20 #[.pointer (some ⟨b, 0, none⟩)] w (NumAns w b (scn l)) := by
  have hS := St.start h
  have hbl := h.lt
  have hbP : ¬ b = w.heap.size + 1 := by omega
  have hbP' : ¬ w.heap.size + 1 = b := by omega
  have hbQ : ¬ b = w.heap.size + 1 + 1 := by omega
  have hbQ' : ¬ w.heap.size + 1 + 1 = b := by omega
  have hbR : ¬ b = w.heap.size := by omega
  obtain ⟨g1, g2, g3⟩ := sgR l
  obtain ⟨z, x, hr, hz, hx⟩ := hexy_some hh
  have hrl : (z :: x :: t).length ≤ l.length := by rw [← hr]; exact sg_le l
  have HIm := Lib.hid (fun W h => is_any W b l l [45] h (by omega) (by simp))
  have HIp := Lib.hid (fun W h => is_any W b l (isR [45] l).2 [43] h (by omega) (by simp))
  rw [show bs [45] = { data := #[45] } from rfl] at HIm
  rw [show bs [43] = { data := #[43] } from rfl] at HIp
  have e0 : isR [48] (z :: x :: t) = (true, x :: t) := isR_one.trans (if_pos hz)
  have e1 : isR [120, 88] (x :: t) = (true, t) := isR_two hx
  have hI0 := fun W h => is_any W b l (z :: x :: t) [48] h (by omega) (by simp)
  have hI1 := fun W h => is_any W b l (x :: t) [120, 88] h (by omega) (by simp)
  rw [e0, show bs [48] = { data := #[48] } from rfl] at hI0
  rw [e1, show bs [120, 88] = { data := #[120, 88] } from rfl] at hI1
  have hP := fun W h => pointed_any W b l t 16 h (by omega)
  rw [pB16, show ((16 : Nat) : Int) = 16 from rfl] at hP
  have HI0 := Lib.hid hI0
  have HI1 := Lib.hid hI1
  have HPt := Lib.hid hP
  have htl : t.length + 2 ≤ l.length := hrl
  rw [hr] at g2 g3
  rw [g1] at HIm
  have HS := Lib.hid hS
  have HL := Lib.hid (And.intro hl hh)
  have hln : l.length ≤ 4096 := hl
  have HG := Lib.hid (And.intro g2 g3)
  obtain ⟨S1, hS1⟩ : ∃ S, bs l = S := ⟨_, rfl⟩
  have hszS : S1.size = l.length := by rw [← hS1]; exact bs_size l
  generalize hn : (sg l).1 = n at *
  have HN := Lib.hid hn
  clear hS g1 g2 g3 hrl e0 e1 hI0 hI1 hP hr hl hz hx h hh hn
  go_enter Try.func20, Try.ntmps20
  go_upto_region 4 with fail
  go_cut [14] from 14 to 16 (fun s wx => Hid (St w b l (w.heap.size + 1) (w.heap.size + 1 + 1) (isR [45] l).2 n 0 (.slice none 0 0) 1 (.slice (some ⟨w.heap.size + 1 + 1 + 1, 0, none⟩) 1 1) 0 0 0 wx))
  case first =>
    go_wp2_with (go_at_call 41; refine (HIm.out _ HS.out.rdr).mono ?_; rintro e w1 ⟨rfl, h1⟩; have hs := HS.out.go h1.1 h1.2; obtain ⟨⟨q0, q1, q2, q3⟩, ⟨f0, f1, f2, f3⟩, m0, m1, mf0, mf1⟩ := hs.cells; have HS1 := Lib.hid hs; clear hs h1)
    go_meet
    exact HS1.out.putN n
  case rest =>
    have HS1 := hcut
    clear hcut HIm HS
    obtain ⟨⟨q0, q1, q2, q3⟩, ⟨f0, f1, f2, f3⟩, m0, m1, mf0, mf1⟩ := HS1.out.cells
    go_upto_if 19 with fail
    go_cut [20] from 20 to 21 (fun s wx => Hid (St w b l (w.heap.size + 1) (w.heap.size + 1 + 1) (z :: x :: t) n 0 (.slice none 0 0) 1 (.slice (some ⟨w.heap.size + 1 + 1 + 1, 0, none⟩) 1 1) 0 0 0 wx))
    case first =>
      cases n with
      | true =>
        have hg := HG.out.1 rfl
        rw [hg] at HS1
        go_wp2
        go_meet
        exact HS1
      | false =>
        have hg := HG.out.2 rfl
        rw [hg] at HIp
        go_wp2_with (go_at_call 41; refine (HIp.out _ HS1.out.rdr).mono ?_; rintro e w9 ⟨rfl, h1⟩; have HS2 := Lib.hid (HS1.out.go h1.1 h1.2); clear h1)
        go_meet
        exact HS2
    case rest =>
      have HS2 := hcut
      clear hcut HS1 q0 q1 q2 q3 f0 f1 f2 f3 m0 m1 mf0 mf1 HIp HG
      obtain ⟨⟨q0, q1, q2, q3⟩, ⟨f0, f1, f2, f3⟩, m0, m1, mf0, mf1⟩ := HS2.out.cells
      obtain ⟨c0, c1, cf0, cf1⟩ := HS2.out.rdr.cellsAt hS1 rfl
      go_upto_block 0 with fail
      go_cut [] (fun wx => ∃ (r : List UInt8) (N M : Nat) (V D : Value) (k fx fy : Int), Hid (St w b l (w.heap.size + 1) (w.heap.size + 1 + 1) r n N V M D k fx fy wx) ∧ Hid (scn l = fin l r n N M k fx fy) ∧ 0 ≤ fx)
      case first =>
        clear q0 q1 q2 q3 f0 f1 f2 f3 m0 m1 mf0 mf1 c0 c1 cf0 cf1
        cases hp : ptd isX t with
        | error k =>
          have HF := Lib.hid (hx_e1 HL.out.1 HL.out.2 hp)
          have hPt' := HPt.out
          rw [hp] at hPt'
          unfold Point at hPt'
          dsimp only at hPt'
          have HP := Lib.hid hPt'
          clear hPt' hp HPt
          go_wp2_with (first
            | (go_at_call 41; (with_reducible refine (HI0.out _ HS2.out.rdr).mono ?_); rintro e w2 ⟨rfl, h1⟩; have HS3 := Lib.hid (HS2.out.go h1.1 h1.2); clear h1)
            | (go_at_call 41; (with_reducible refine (HI1.out _ HS3.out.rdr).mono ?_); rintro e w3 ⟨rfl, h1⟩; have HS4 := Lib.hid (HS3.out.go h1.1 h1.2); clear h1)
            | (go_at_call 42; (with_reducible refine (HP.out _ HS4.out.rdr).mono ?_); rintro e w4 ⟨rfl, h1⟩))
          rw [HF.out]
          exact ⟨rfl, rfl, grownBy_trans HS4.out.grow h1⟩
        | ok abr =>
          obtain ⟨a, bo, r1⟩ := abr
          have hPt' := HPt.out
          rw [hp] at hPt'
          unfold Point at hPt'
          dsimp only at hPt'
          obtain ⟨hal, hac⟩ := ptd_lens hp
          have hN := fun W => natural_any (a ++ ob bo) 16 (.inr rfl) (fun c hc => vl_X (hac c hc)) (by omega) W
          rw [show ((16 : Nat) : Int) = 16 from rfl] at hN
          have HNt := Lib.hid hN
          have hko := kOf_is bo
          have hnlb : (ob bo).length ≤ 4096 := by rw [List.length_append] at hal; omega
          generalize hA : a ++ ob bo = A at *
          generalize hnl : (ob bo).length = nl at *
          have HPP := Lib.hid (And.intro hp (And.intro hA hnl))
          generalize kOf bo = ko at *
          have HP := Lib.hid hPt'
          generalize hNA : numB 16 A = NA at *
          have HNA := Lib.hid hNA
          generalize bs A = BA at *
          have hr1l : r1.length ≤ 4096 := by omega
          have hI2 := fun W h => is_any W b l r1 [112, 80] h (by omega) (by simp)
          rw [show bs [112, 80] = { data := #[112, 80] } from rfl] at hI2
          clear hPt' HPt hN hal hac hp hA hnl hNA
          by_cases hi : (isR [112, 80] r1).1 = false
          · have HF := Lib.hid (hx_e2 HL.out.1 HL.out.2 HPP.out.1 hi)
            rw [isR_f hi] at hI2
            have HI2 := Lib.hid hI2
            have HFl := Lib.hid (fun W h => fail_any W b l r1 h)
            clear hI2 hi
            go_wp2_with (first
              | (go_at_call 41; (with_reducible refine (HI0.out _ HS2.out.rdr).mono ?_); rintro e w2 ⟨rfl, h1⟩; have HS3 := Lib.hid (HS2.out.go h1.1 h1.2); clear h1)
              | (go_at_call 41; (with_reducible refine (HI1.out _ HS3.out.rdr).mono ?_); rintro e w3 ⟨rfl, h1⟩; have HS4 := Lib.hid (HS3.out.go h1.1 h1.2); clear h1)
              | (go_at_call 42; (with_reducible refine (HP.out _ HS4.out.rdr).mono ?_); rintro e w4 ⟨rfl, h1⟩; have HS5 := Lib.hid (HS4.out.go h1.1 h1.2); clear h1)
              | (go_at_call 41; (with_reducible refine (HI2.out _ HS5.out.rdr).mono ?_); rintro e w5 ⟨rfl, h1⟩; have HS6 := Lib.hid (HS5.out.go h1.1 h1.2); clear h1)
              | (go_at_call 43; (with_reducible refine (HFl.out _ HS6.out.rdr).mono ?_); rintro e wz ⟨rfl, rfl⟩))
            rw [HF.out]
            exact ⟨rfl, rfl, HS6.out.grow⟩
          · obtain ⟨c, s, rfl, hc⟩ := isR_t hi
            rw [isR_two hc] at hI2
            have HI2 := Lib.hid hI2
            have HC := Lib.hid hc
            obtain ⟨d, hd⟩ : ∃ d, (sg s).2.takeWhile isD = d := ⟨_, rfl⟩
            obtain ⟨u, hu⟩ : ∃ u, (sg s).2.dropWhile isD = u := ⟨_, rfl⟩
            clear hI2 hi hc
            by_cases hd0 : d = []
            · subst hd0
              have HF := Lib.hid (hx_e3 HL.out.1 HL.out.2 HPP.out.1 HC.out hd hu)
              have HXn := Lib.hid (fun W h => exponent_no W b l s h (by omega) u hd hu)
              clear hd hu
              go_wp2_with (first
                | (go_at_call 41; (with_reducible refine (HI0.out _ HS2.out.rdr).mono ?_); rintro e w2 ⟨rfl, h1⟩; have HS3 := Lib.hid (HS2.out.go h1.1 h1.2); clear h1)
                | (go_at_call 41; (with_reducible refine (HI1.out _ HS3.out.rdr).mono ?_); rintro e w3 ⟨rfl, h1⟩; have HS4 := Lib.hid (HS3.out.go h1.1 h1.2); clear h1)
                | (go_at_call 42; (with_reducible refine (HP.out _ HS4.out.rdr).mono ?_); rintro e w4 ⟨rfl, h1⟩; have HS5 := Lib.hid (HS4.out.go h1.1 h1.2); clear h1)
                | (go_at_call 41; (with_reducible refine (HI2.out _ HS5.out.rdr).mono ?_); rintro e w5 ⟨rfl, h1⟩; have HS6 := Lib.hid (HS5.out.go h1.1 h1.2); clear h1)
                | (go_at_call 44; (with_reducible refine (HXn.out _ HS6.out.rdr).mono ?_); rintro e wz ⟨rfl, h1⟩))
              rw [HF.out]
              exact ⟨rfl, rfl, grownBy_trans HS6.out.grow h1⟩
            · have hfin := hx_ok HL.out.1 HL.out.2 HPP.out.1 HC.out hd hu hd0
              have hX := fun W h => exponent_any W b l s h (by omega) d u hd hu hd0
              have hxn : (if (sg s).1 then -((min (numB 10 d) 9999 : Nat) : Int) else ((min (numB 10 d) 9999 : Nat) : Int)) = xnum (sg s).1 d := rfl
              rw [hxn] at hX
              rw [HPP.out.2.1, HPP.out.2.2, HNA.out, HN.out] at hfin
              have hXl := xnum_le (sg s).1 d
              have hLX : 0 ≤ (lateO (l.length - (sg s).2.length) (numB 10 d)).1 := by unfold lateO; split <;> simp
              generalize xnum (sg s).1 d = X at *
              generalize (lateO (l.length - (sg s).2.length) (numB 10 d)).1 = LX at *
              generalize (lateO (l.length - (sg s).2.length) (numB 10 d)).2 = LY at *
              have HX := Lib.hid hX
              have HF := Lib.hid hfin
              clear hd hu hX hfin hd0 hxn
              rcases hko with ⟨rfl, rfl⟩ | rfl
              · go_wp2_with (first
                  | (go_at_call 41; (with_reducible refine (HI0.out _ HS2.out.rdr).mono ?_); rintro e w2 ⟨rfl, h1⟩; have HS3 := Lib.hid (HS2.out.go h1.1 h1.2); clear h1)
                  | (go_at_call 41; (with_reducible refine (HI1.out _ HS3.out.rdr).mono ?_); rintro e w3 ⟨rfl, h1⟩; have HS4 := Lib.hid (HS3.out.go h1.1 h1.2); clear h1)
                  | (go_at_call 42; (with_reducible refine (HP.out _ HS4.out.rdr).mono ?_); rintro e w4 ⟨rfl, h1⟩; have HS5 := Lib.hid (HS4.out.go h1.1 h1.2); clear h1)
                  | (go_at_call 41; (with_reducible refine (HI2.out _ HS5.out.rdr).mono ?_); rintro e w5 ⟨rfl, h1⟩; have HS6 := Lib.hid (HS5.out.go h1.1 h1.2); clear h1)
                  | (go_at_call 44; (with_reducible refine (HX.out _ HS6.out.rdr).mono ?_); rintro e w6 ⟨rfl, h1⟩; have hs := HS6.out.go h1.1 h1.2; obtain ⟨⟨q60, q61, q62, q63⟩, ⟨f60, f61, f62, f63⟩, m60, m61, mf60, mf61⟩ := hs.cells; have HS7 := Lib.hid ((hs.putK X).fault LX LY); clear hs h1)
                  | (go_at_call 45; (with_reducible refine (HNt.out _).mono ?_); rintro e w7 ⟨v7, rfl, ⟨A7, rfl, hR7⟩, hb7⟩; have hv7 : IsT NA (.slice A7 (dig NA).length (dig NA).length) w7 := ⟨A7, rfl, hR7⟩; have hs := HS7.out.below hb7; obtain ⟨⟨q70, q71, q72, q73⟩, ⟨f70, f71, f72, f73⟩, m70, m71, mf70, mf71⟩ := hs.cells; have HS8 := Lib.hid (hs.putV hv7); clear hs hv7 hR7 hb7))
                go_meet
                exact ⟨u, NA, 1, _, _, X, LX, LY, Lib.hid (HS8.out.putK X), Lib.hid (by rw [HF.out]; simp), hLX⟩
              · go_wp2_with (first
                  | (go_at_call 41; (with_reducible refine (HI0.out _ HS2.out.rdr).mono ?_); rintro e w2 ⟨rfl, h1⟩; have HS3 := Lib.hid (HS2.out.go h1.1 h1.2); clear h1)
                  | (go_at_call 41; (with_reducible refine (HI1.out _ HS3.out.rdr).mono ?_); rintro e w3 ⟨rfl, h1⟩; have HS4 := Lib.hid (HS3.out.go h1.1 h1.2); clear h1)
                  | (go_at_call 42; (with_reducible refine (HP.out _ HS4.out.rdr).mono ?_); rintro e w4 ⟨rfl, h1⟩; have HS5 := Lib.hid (HS4.out.go h1.1 h1.2); clear h1)
                  | (go_at_call 41; (with_reducible refine (HI2.out _ HS5.out.rdr).mono ?_); rintro e w5 ⟨rfl, h1⟩; have HS6 := Lib.hid (HS5.out.go h1.1 h1.2); clear h1)
                  | (go_at_call 44; (with_reducible refine (HX.out _ HS6.out.rdr).mono ?_); rintro e w6 ⟨rfl, h1⟩; have hs := HS6.out.go h1.1 h1.2; obtain ⟨⟨q60, q61, q62, q63⟩, ⟨f60, f61, f62, f63⟩, m60, m61, mf60, mf61⟩ := hs.cells; have HS7 := Lib.hid ((hs.putK X).fault LX LY); clear hs h1)
                  | (go_at_call 45; (with_reducible refine (HNt.out _).mono ?_); rintro e w7 ⟨v7, rfl, ⟨A7, rfl, hR7⟩, hb7⟩; have hv7 : IsT NA (.slice A7 (dig NA).length (dig NA).length) w7 := ⟨A7, rfl, hR7⟩; have hs := HS7.out.below hb7; obtain ⟨⟨q70, q71, q72, q73⟩, ⟨f70, f71, f72, f73⟩, m70, m71, mf70, mf71⟩ := hs.cells; have HS8 := Lib.hid (hs.putV hv7); clear hs hv7 hR7 hb7))
                go_meet
                exact ⟨u, NA, 1, _, _, X - 4 * (nl : Int), LX, LY, Lib.hid (HS8.out.putK _), HF, hLX⟩
      case rest =>
        obtain ⟨r, N, M, V, D, k, fx, fy, HS3, HF, hfx⟩ := hcut
        obtain ⟨AV, rfl, hRV⟩ := HS3.out.isV
        obtain ⟨AD, rfl, hRD⟩ := HS3.out.isD
        clear hRV hRD
        clear HS2
        obtain ⟨⟨p0, p1, p2, p3⟩, ⟨pf0, pf1, pf2, pf3⟩, m0, m1, mf0, mf1⟩ := HS3.out.cells
        obtain ⟨c0, c1, cf0, cf1⟩ := HS3.out.rdr.cellsAt hS1 rfl
        obtain ⟨⟨z0, z1, z2, z3⟩, zf0, zf1, zf2, zf3⟩ := HS3.out.rcells
        cases r with
        | cons c0' r' =>
          have hrl' := HS3.out.rdr.1
          have hlt : ((l.length - (c0' :: r').length : Nat) : Int) < (l.length : Int) := by
            rw [List.length_cons] at hrl' ⊢; omega
          have HFl := Lib.hid (fun W h => fail_any W b l (c0' :: r') h)
          generalize hq : l.length - (c0' :: r').length = q at *
          have HQ := Lib.hid hq
          clear hq hrl'
          go_upto_region 30 with fail
          go_quiet (fail)
          go_wp2_with (go_at_call 43; refine (HFl.out _ (HS3.out.drewN _).rdr).mono ?_; rintro e wz ⟨rfl, rfl⟩)
          rw [HF.out, fin_left (by simp), HQ.out]
          exact ⟨rfl, rfl, (HS3.out.drewN _).grow⟩
        | nil =>
          rw [show l.length - ([] : List UInt8).length = l.length from rfl] at c1
          by_cases hy : fy = 0
          · subst hy
            go_upto_region 30 with fail
            go_quiet (fail)
            go_wp2
            obtain ⟨o1, o2, o3, o4⟩ := (HS3.out.drewN nq).out
            obtain ⟨y0, y1, y2, y3⟩ := putR_read o1
            unfold putR at y0 y1 y2 y3
            rw [HF.out, fin_ok]
            refine bodyPost_ret (v := .agg #[.bool n, .slice AV (dig N).length (dig N).length, .slice AD (dig M).length (dig M).length, .int .i64 k]) (by simp [results, Try.results20, go_sem, y0, y1, y2, y3]) rfl ?_
            exact ⟨_, _, rfl, o2, o3, o4⟩
          · have hyb : (fy != 0) = true := by simpa using hy
            go_upto_region 30 with fail
            go_quiet (fail)
            go_wp2
            rw [HF.out, fin_late hy]
            have e : ((fx.toNat : Nat) : Int) = fx := Int.toNat_of_nonneg hfx
            exact ⟨rfl, by rw [e], (HS3.out.drewN _).grow⟩
end Go.Proofs.Ytiadjcilfljdaaa
