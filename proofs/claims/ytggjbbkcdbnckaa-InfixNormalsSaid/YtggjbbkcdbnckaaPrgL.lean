/- Layer 17: Normal by the document. -/
import Derived.Test.YtggjbbkcdbnckaaPrgK
namespace Go.Proofs.Ytggjbbkcdbnckaa
set_option linter.unusedVariables false
set_option linter.unusedSimpArgs false
open Go.RowKit Verge

set_option maxRecDepth 100000 in
set_option maxHeartbeats 16000000 in
theorem normal17_any (vars : Int) (vC vL : Value) (xs : List (Nat × Nat)) (ls : List Ln) (w : World) (hC : RI w vC xs) (hL : RL w vL ls) (hW : ∀ x ∈ xs, x.1 < 18446744073709551616 ∧ x.2 < 18446744073709551616) (hm : xs.length ≤ 9000000000000) (hm2 : ls.length ≤ 9000000000000) :
    Calls Try.prog 6 #[.agg #[.int .i64 vars, vC, vL]] w fun e w' => ∃ v1 v2, e = .returned (.tuple #[.agg #[.int .i64 (nrmA vars xs ls).2.1, v1, v2], .int .i64 (nrmA vars xs ls).1]) ∧ GI w' 0 v1 (nrmA vars xs ls).2.2.1 ∧ GM w' 0 v2 (nrmA vars xs ls).2.2.2 ∧ Below w.heap.size w w' := by
  have HCk := Lib.hid (fun W (hb : Below w.heap.size w W) => check16_any vars vC vL xs ls W (hC.below hb) (hL.below hb) hW hm hm2)
  have HCn := Lib.hid (fun W (hb : Below w.heap.size w W) hl => consts17_any vars vC vL ls W (hL.below hb) hl)
  have hok := chk_const (vars := vars) (xs := xs) (ls := ls)
  obtain ⟨AC, cC, rfl⟩ := hC.form
  obtain ⟨AL, cL', rfl⟩ := hL.form
  obtain ⟨r, hr⟩ : ∃ r, nrmA vars xs ls = r := ⟨_, rfl⟩
  rw [hr]
  unfold nrmA at hr
  obtain ⟨⟨c0, ce⟩, hce⟩ : ∃ p, chk vars xs ls = p := ⟨_, rfl⟩
  rw [hce] at hr hok HCk
  simp only at hr hok HCk
  obtain ⟨nc, hnc⟩ : ∃ nc, xs.length = nc := ⟨_, rfl⟩
  obtain ⟨n, hn⟩ : ∃ n, ls.length = n := ⟨_, rfl⟩
  rw [hnc] at hC hm hok HCk HCn ⊢
  rw [hn] at hL hm2 hok HCk HCn ⊢
  have HRC := Lib.hid (And.intro hC (And.intro hnc hW))
  have HRL := Lib.hid (And.intro hL hn)
  have hbl3 : Below w.heap.size w (((w.alloc (.cells #[.int .i64 vars, .slice AC nc cC, .slice AL n cL'] 25)).alloc (.cells #[.int .i64 0, .slice none 0 0, .slice none 0 0] 25)).alloc (.cells #[.int .i64 0, .slice none 0 0, .slice none 0 0] 25)) := baft (baft (bnew w _) (bnew _ _)) (bnew _ _)
  have HB := Lib.hid hbl3
  have HPB : Hid (∀ W, Below (((w.alloc (.cells #[.int .i64 vars, .slice AC nc cC, .slice AL n cL'] 25)).alloc (.cells #[.int .i64 0, .slice none 0 0, .slice none 0 0] 25)).alloc (.cells #[.int .i64 0, .slice none 0 0, .slice none 0 0] 25)).heap.size (((w.alloc (.cells #[.int .i64 vars, .slice AC nc cC, .slice AL n cL'] 25)).alloc (.cells #[.int .i64 0, .slice none 0 0, .slice none 0 0] 25)).alloc (.cells #[.int .i64 0, .slice none 0 0, .slice none 0 0] 25)) W →
      W.heap[w.heap.size]? = some (.cells #[.int .i64 vars, .slice AC nc cC, .slice AL n cL'] 25 (0, 0)) ∧ W.heap[w.heap.size + 1]? = some (.cells #[.int .i64 0, .slice none 0 0, .slice none 0 0] 25 (0, 0)) ∧ W.heap[w.heap.size + 2]? = some (.cells #[.int .i64 0, .slice none 0 0, .slice none 0 0] 25 (0, 0))) :=
    Lib.hid (fun W hW => ⟨(hW.block w.heap.size (by simp; omega)).trans (((bnew ((w.alloc _).alloc _) _).block w.heap.size (by simp; omega)).trans (((bnew (w.alloc _) _).block w.heap.size (by simp)).trans (new_box w _ _))),
      (hW.block (w.heap.size + 1) (by simp)).trans (((bnew ((w.alloc _).alloc _) _).block (w.heap.size + 1) (by simp)).trans (two_new w _ _ _)), (hW.block (w.heap.size + 2) (by simp)).trans (by have := two_new (w.alloc (.cells #[.int .i64 vars, .slice AC nc cC, .slice AL n cL'] 25)) (.cells #[.int .i64 0, .slice none 0 0, .slice none 0 0] 25) #[.int .i64 0, .slice none 0 0, .slice none 0 0] 25; rw [World.size_alloc] at this; exact this)⟩)
  have HOK := Lib.hid hok
  have HR := Lib.hid hr
  clear hC hL hW hnc hn hce hr hok hbl3
  go_enter Try.func6, Try.ntmps6
  go_wp2_with fail
  refine (HCk.out _ (HB.out)).mono ?_
  rintro en w1 ⟨rfl, hb1⟩
  have HB1 := Lib.hid hb1
  obtain ⟨p0, p1, p2⟩ := HPB.out _ hb1
  obtain ⟨k0, k1, k2, _⟩ := blk_cells3 p0
  obtain ⟨m0, m1, m2, f0, f1, f2⟩ := blk_cells3 p1
  obtain ⟨d0, d1, d2, e0, e1, e2⟩ := blk_cells3 p2
  clear hb1 HCk
  by_cases hq : ce = 0
  rotate_left
  · have hq1 : (ce == 0) = false := beq_eq_false_iff_ne.2 hq
    have hr := HR.out
    rw [if_pos hq] at hr
    subst hr
    clear HCn
    go_wp2
    refine bodyPost_ret (v := .tuple #[.agg #[.int .i64 0, .slice none 0 0, .slice none 0 0], .int .i64 ce]) (by simp [results, Try.results6, go_sem, m0, m1, m2]) rfl ?_
    refine ⟨_, _, rfl, World.ownsRow_nil _ _ _ _, World.ownsRow_nil _ _ _ _, ?_⟩
    have hb := baft (HB.out) HB1.out
    exact ((hb.setCell (by simp) _).setCell (by simp) _).setCell (by simp) _
  subst hq
  have hok := HOK.out rfl
  have hr := HR.out
  rw [if_neg (by simp)] at hr
  obtain ⟨hv, hn1, hnc1, hidx⟩ := hok
  have HIX := Lib.hid hidx
  have hncI : (nc : Int) ≤ 256 := by omega
  have hnI : (n : Int) ≤ 1024 := by omega
  have HCN := Lib.hid (nrm_len xs)
  have HCL := Lib.hid (cnsts_le ls)
  have HR := Lib.hid hr
  clear HOK hr hidx
  go_wp2_with fail
  refine (HCn.out _ (baft (HB.out) HB1.out) (by omega)).mono ?_
  rintro en w2 ⟨rfl, hb2⟩
  obtain ⟨p0, p1, p2⟩ := HPB.out _ (baft HB1.out hb2)
  have HB2 := Lib.hid (baft HB1.out hb2)
  clear hb2 k0 k1 k2 m0 m1 m2 f0 f1 f2 d0 d1 d2 e0 e1 e2 HCn
  obtain ⟨k0, k1, k2, _⟩ := blk_cells3 p0
  obtain ⟨m0, m1, m2, f0, f1, f2⟩ := blk_cells3 p1
  obtain ⟨d0, d1, d2, e0, e1, e2⟩ := blk_cells3 p2
  obtain ⟨q, hq⟩ : ∃ q, cnsts ls = q := ⟨_, rfl⟩
  rw [hq] at HR HCL ⊢
  by_cases hcn : 256 < q
  · have hr := HR.out
    rw [if_pos hcn] at hr
    subst hr
    have hcI : (256 : Int) < (q : Int) := by omega
    go_wp2
    refine bodyPost_ret (v := .tuple #[.agg #[.int .i64 0, .slice none 0 0, .slice none 0 0], .int .i64 161]) (by simp [results, Try.results6, go_sem, m0, m1, m2]) rfl ?_
    refine ⟨_, _, rfl, World.ownsRow_nil _ _ _ _, World.ownsRow_nil _ _ _ _, ?_⟩
    have hb := baft (HB.out) HB2.out
    exact ((hb.setCell (by simp) _).setCell (by simp) _).setCell (by simp) _
  have hcI : ¬ (256 : Int) < (q : Int) := by omega
  have hr := HR.out
  rw [if_neg hcn] at hr
  have HR := Lib.hid hr
  have HQ := Lib.hid (And.intro hq hcn)
  have hz := blk_lt p1
  have hz0 := blk_lt p0
  have hz2 := blk_lt p2
  have hN : Nid 25 25 54 48 w (w2.setCell ⟨w.heap.size + 2, 0, none⟩ (.int .i64 vars)) (w.heap.size + 2) vars (.slice AC nc cC) (.slice AL n cL') (.slice none 0 0) 0 [] (.slice none 0 0) 0 [] :=
    ⟨(baft HB.out HB2.out).setCell (by simp) _, (Below.heap_setCell w2 ⟨w.heap.size + 2, 0, none⟩ _ w.heap.size (show w.heap.size ≠ w.heap.size + 2 by omega)).trans p0, (blk_set3 p2).2.2, Nat.le_refl _, (Below.heap_setCell w2 ⟨w.heap.size + 2, 0, none⟩ _ (w.heap.size + 1) (show w.heap.size + 1 ≠ w.heap.size + 2 by omega)).trans p1, World.ownsRow_nil _ _ _ _, World.ownsRow_nil _ _ _ _⟩
  have HN0 := Lib.hid hN
  clear hr hcn hq hN
  go_wp2
  clear k0 k1 k2 m0 m1 m2 f0 f1 f2 d0 d1 d2 e0 e1 e2 p0 p1 p2 HB HB1 HB2 HPB hz hz0 hz2
  generalize w2.setCell ⟨w.heap.size + 2, 0, none⟩ (.int .i64 vars) = W0 at *
  obtain ⟨g, hg⟩ : ∃ g, w.heap.size + 2 = g := ⟨_, rfl⟩
  simp only [hg] at *
  clear hg
  go_loopg [7, 8] n (fun k iv _ wr => ∃ (i : Nat) (q1 q2 : Value) (n1 : Nat), i + k = n ∧ iv = .int .i64 i ∧ Hid (n1 ≤ i ∧ (nrm xs (ls.take i)).1.length = n1 ∧ Nid 25 25 54 48 w wr g vars (.slice AC nc cC) (.slice AL n cL') q1 n1 ((nrm xs (ls.take i)).1.flatMap cI) q2 i ((nrm xs (ls.take i)).2.flatMap cL)))
  case atStart => exact ⟨0, _, _, 0, by omega, rfl, Nat.le_refl _, rfl, HN0.out⟩
  case round =>
    clear HN0
    obtain ⟨i, q1, q2, n1, hi, rfl, hI⟩ := hrel
    obtain ⟨gk', hgk⟩ : ∃ n, gk = n := ⟨_, rfl⟩
    simp only [hgk] at *
    have HGK := Lib.hid hi
    obtain ⟨hn1i, hn1l, hN⟩ := hI.out
    obtain ⟨A1, a1, rfl⟩ : ∃ A c, q1 = .slice A n1 c := by obtain ⟨_, A, c, e, _⟩ := own_sl hN.con; exact ⟨A, c, e⟩
    obtain ⟨A2, a2, rfl⟩ : ∃ A c, q2 = .slice A i c := by obtain ⟨_, A, c, e, _⟩ := own_sl hN.row; exact ⟨A, c, e⟩
    have HN := Lib.hid hN
    have HN1 := Lib.hid hn1l
    obtain ⟨k0, k1, k2, _⟩ := blk_cells3 hN.box
    obtain ⟨m0, m1, m2, f0, f1, f2⟩ := blk_cells3 hN.blk
    have hz := blk_lt hN.blk
    have hz0 := blk_lt hN.box
    clear hI hN hn1l hgk hi
    by_cases hin : i < n
    · obtain ⟨l, hl⟩ : ∃ l, ls[i]? = some l := ⟨_, List.getElem?_eq_getElem (by have := HRL.out.2; omega)⟩
      obtain ⟨b, o, rfl, x0, x1, x2, x3, x4⟩ := (HRL.out.1.below HN.out.bl).at hl
      have hlt : (i : Int) < (n : Int) := by omega
      have hidx := HIX.out i l hl
      have hst := nrm_snoc xs (ls.take i) l
      rw [← take_snoc hl] at hst
      have HST := Lib.hid hst
      obtain ⟨op, la, lb, lc, m⟩ := l
      simp only at x0 x1 x2 x3 x4 hidx
      clear hl hst
      have HZ1 := Lib.hid (fun k hk => (World.ownsRow.lt HN.out.con k hk).2)
      have HZ2 := Lib.hid (fun k hk => (World.ownsRow.lt HN.out.row k hk).2)
      by_cases h1 : op = 1
      · subst h1
        have hb := hidx rfl
        obtain ⟨mN, rfl⟩ : ∃ mN : Nat, m = (mN : Int) := ⟨m.toNat, by omega⟩
        have hx := cells2_get (xs := xs) (i := mN) (by have := HRC.out.2.1; omega)
        obtain ⟨b2, o2, rfl, y0, y1⟩ := (HRC.out.1.below HN.out.bl).at hx
        have hzb := lt_of_cell y0
        obtain ⟨x, hxd⟩ : ∃ x, xs.getD mN (0, 0) = x := ⟨_, rfl⟩
        rw [hxd] at y0 y1
        have HX := Lib.hid hxd
        clear hidx hx hxd
        have hn1b : n1 + 1 ≤ 2000 := by omega
        go_upto_region 13 with fail
        go_cut [50] from 41 to 51 (fun _ wx => ∃ A1' a1', Hid (wx.heap[wr.heap.size]? = some (.cells #[.int .i64 1, .int .i64 la, .int .i64 lb, .int .i64 lc, .int .i64 (mN : Int)] 48 (0, 0))) ∧ Hid (Nid 25 25 54 48 w wx g vars (.slice (some ⟨b2, o2, none⟩) nc cC) (.slice (some ⟨b, o, none⟩) n cL') (.slice A1' (n1 + 1) a1') (n1 + 1) ((nrm xs (ls.take i)).1.flatMap cI ++ cI x) (.slice A2 i a2) i ((nrm xs (ls.take i)).2.flatMap cL)))
        case first =>
          go_region_law (refine step_pushE rfl (.tmp 42) (.tmp 49) 22 54 2 16 _ Try.underlying22 Try.info54 rfl (by decide) rfl (g + 1) (.slice A1 n1 a1) n1 _ (by simp [Act.eval, Act.put]) (wr.heap.size + 1) (cI x) (two_new wr _ _ _) rfl (by simp [cI]; exact ⟨rfl, rfl⟩) (HN.out.later (baft (bnew wr _) (bnew _ _)).drew).con (by simp [Act.eval, Act.put]) (by omega) (by unfold maxLen; omega) (by simp; omega) ?_; intro A1' a1' w3 hG hg; obtain ⟨p1, pf1, hM⟩ := (HN.out.later (baft (bnew wr _) (bnew _ _)).drew).push1 hG hg (by decide) (by decide) (by decide); have HC5 : Hid ((w3.setCell ⟨g, 1, none⟩ (.slice A1' (n1 + 1) a1')).heap[wr.heap.size]? = some (.cells #[.int .i64 1, .int .i64 la, .int .i64 lb, .int .i64 lc, .int .i64 (mN : Int)] 48 (0, 0))) := Lib.hid ((Below.heap_setCell w3 ⟨g, 1, none⟩ _ wr.heap.size (show wr.heap.size ≠ g by omega)).trans ((hg.block wr.heap.size (by simp; omega) (fun e => by have := HZ1.out _ e.symm; omega)).trans (((bnew (wr.alloc _) _).block wr.heap.size (by simp)).trans (new_box wr _ _)))); have HM := Lib.hid hM; clear hG hg hM)
          all_goals
            go_wp2_with fail
            go_meet
            case rel => exact ⟨_, _, HC5.out, HM.out⟩
        case rest =>
          obtain ⟨A1', a1', HC5, HM⟩ := hcut
          clear HZ1 m0 m1 m2 f0 f1 f2 k0 k1 k2
          obtain ⟨m0, m1, m2, f0, f1, f2⟩ := blk_cells3 HM.out.blk
          obtain ⟨s0, s1, s2, s3, s4⟩ := blk_cells5 HC5.out
          have hc4 : wc.frozen? ⟨wr.heap.size, 4, none⟩ = false := by simp [World.frozen?, HC5.out]
          have hzg := blk_lt HM.out.blk
          have hzc := blk_lt HC5.out
          have HF : Hid (Nid 25 25 54 48 w (wc.setCell ⟨wr.heap.size, 4, none⟩ (.int .i64 (n1 : Int))) g vars (.slice (some ⟨b2, o2, none⟩) nc cC) (.slice (some ⟨b, o, none⟩) n cL') (.slice A1' (n1 + 1) a1') (n1 + 1) ((nrm xs (ls.take i)).1.flatMap cI ++ cI x) (.slice A2 i a2) i ((nrm xs (ls.take i)).2.flatMap cL)) :=
            Lib.hid (HM.out.far HC5.out (by have := HN.out.bl.size; omega) (by decide) (by decide) (own_apart HM.out.con HC5.out (by decide)) (fun e => by have := HZ2.out _ e; omega))
          have hib : i + 1 ≤ 2000 := by omega
          have HNB : Hid (∀ cs : Array Value, ((wc.setCell ⟨wr.heap.size, 4, none⟩ (.int .i64 (n1 : Int))).alloc (.cells cs 48)).heap[wc.heap.size]? = some (.cells cs 48 (0, 0))) := Lib.hid (fun cs => by
            have h := new_box (wc.setCell ⟨wr.heap.size, 4, none⟩ (.int .i64 (n1 : Int))) cs 48
            simpa using h)
          go_wp2_with (refine wpList_pushG rfl _ _ 23 48 5 40 _ Try.underlying23 Try.info48 rfl (by decide) rfl (g + 1) (.slice A2 i a2) i _ rfl wc.heap.size (cL ⟨1, la, lb, lc, (n1 : Int)⟩) (HNB.out _) rfl (by simp [cL]; exact ⟨rfl, rfl, rfl, rfl, rfl⟩) (HF.out.later (bnew _ _)).row rfl (by omega) (by unfold maxLen; omega) (by simp; omega) ?_; intro A2' a2' w5 hG hg; obtain ⟨p2, pf2, hM2⟩ := (HF.out.later (bnew _ _)).push2 hG hg (by decide) (by decide) (by decide); have HM2 := Lib.hid hM2; clear hG hg hM2)
          go_roundg (n - (i + 1))
          case measure => have := HGK.out; omega
          case rel =>
            refine ⟨i + 1, (.slice A1' (n1 + 1) a1'), (.slice A2' (i + 1) a2'), n1 + 1, by omega, by go_num, by omega, ?_, ?_⟩
            · rw [HST.out]; unfold nstep; rw [if_pos rfl]; simp [HN1.out]
            · rw [HST.out]
              unfold nstep
              rw [if_pos rfl]
              have hh := HM2.out
              rw [show cI x = [x].flatMap cI by simp, ← List.flatMap_append, show cL ⟨1, la, lb, lc, (n1 : Int)⟩ = [(⟨1, la, lb, lc, (n1 : Int)⟩ : Ln)].flatMap cL by simp, ← List.flatMap_append] at hh
              simp only [Int.toNat_natCast, HX.out, HN1.out]
              exact hh
      · have h1b : (op == 1) = false := beq_eq_false_iff_ne.2 h1
        have hib : i + 1 ≤ 2000 := by omega
        clear hidx
        go_wp2_with (refine wpList_pushG rfl _ _ 23 48 5 40 _ Try.underlying23 Try.info48 rfl (by decide) rfl (g + 1) (.slice A2 i a2) i _ rfl (wr.heap.size + 1) (cL ⟨op, la, lb, lc, m⟩) (two_new wr _ _ _) rfl (by simp [cL]; exact ⟨rfl, rfl, rfl, rfl, rfl⟩) (HN.out.later (baft (bnew _ _) (bnew _ _))).row rfl (by omega) (by unfold maxLen; omega) (by simp; omega) ?_; intro A2' a2' w5 hG hg; obtain ⟨p2, pf2, hM2⟩ := (HN.out.later (baft (bnew _ _) (bnew _ _))).push2 hG hg (by decide) (by decide) (by decide); have HM2 := Lib.hid hM2; clear hG hg hM2)
        go_roundg (n - (i + 1))
        case measure => have := HGK.out; omega
        case rel =>
          refine ⟨i + 1, (.slice A1 n1 a1), (.slice A2' (i + 1) a2'), n1, by omega, by go_num, by omega, ?_, ?_⟩
          · rw [HST.out]; unfold nstep; rw [if_neg h1]; exact HN1.out
          · rw [HST.out]
            unfold nstep
            rw [if_neg h1]
            have hh := HM2.out
            rw [show cL ⟨op, la, lb, lc, m⟩ = [(⟨op, la, lb, lc, m⟩ : Ln)].flatMap cL by simp, ← List.flatMap_append] at hh
            exact hh
    · obtain rfl : i = n := by have := HGK.out; omega
      have e : ls.take i = ls := List.take_of_length_le (by have := HRL.out.2; omega)
      have hr := HR.out
      rw [e] at HN HN1
      obtain ⟨r0, r1, r2, g0, g1, g2⟩ := blk_cells3 HN.out.res
      have hzr := blk_lt HN.out.res
      go_wp2
      refine bodyPost_ret (v := .tuple #[.agg #[.int .i64 vars, .slice A1 n1 a1, .slice A2 i a2], .int .i64 0]) (by simp [results, Try.results6, go_sem, r0, r1, r2]) rfl ?_
      have hb := HN.out.bl
      have b0 := HN.out.res
      have b1 := (blk_set3 (u := .int .i64 vars) b0).2.2
      have b2 := (blk_set3 (u := .slice A1 n1 a1) b1).2.1
      have h1 := own_base HN.out.con (Nat.zero_le _)
      have h2 := own_base HN.out.row (Nat.zero_le _)
      have hl2 : (nrm xs ls).2.length = i := by rw [(HCN.out ls).2]; exact HRL.out.2
      subst hr
      refine ⟨_, _, rfl, ?_, ?_, ((hb.setCell (by simp) _).setCell (by simp) _).setCell (by simp) _⟩
      · show World.ownsRow _ _ _ _ _ (nrm xs ls).1.length _
        rw [HN1.out]
        exact own_set (own_set (own_set h1 b0 (by decide)) b1 (by decide)) b2 (by decide)
      · show World.ownsRow _ _ _ _ _ (nrm xs ls).2.length _
        rw [hl2]
        exact own_set (own_set (own_set h2 b0 (by decide)) b1 (by decide)) b2 (by decide)
end Go.Proofs.Ytggjbbkcdbnckaa
