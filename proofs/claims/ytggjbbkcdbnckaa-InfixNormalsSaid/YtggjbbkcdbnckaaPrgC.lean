/- Programs of chapter 16 in memory: Made, Read. -/
import Derived.Test.YtggjbbkcdbnckaaPrgB
import Derived.Test.YtggjbbkcdbnckaaReg
namespace Go.Proofs.Ytggjbbkcdbnckaa
set_option linter.unusedVariables false
set_option linter.unusedSimpArgs false
open Go.RowKit Verge

theorem box3at {w W : World} {a b c : Value} {t : TypeId} (hb : Below (w.alloc (.cells #[a, b, c] t)).heap.size (w.alloc (.cells #[a, b, c] t)) W) :
    W.cell? ⟨w.heap.size, 0, none⟩ = some a ∧ W.cell? ⟨w.heap.size, 1, none⟩ = some b ∧ W.cell? ⟨w.heap.size, 2, none⟩ = some c := by
  refine ⟨?_, ?_, ?_⟩
  · rw [bcell hb _ _ (by simp)]; simp [go_sem]
  · rw [bcell hb _ _ (by simp)]; simp [go_sem]
  · rw [bcell hb _ _ (by simp)]; simp [go_sem]
def IsGF (xs : List (Nat × Nat)) (v : Value) (w : World) : Prop := GF w 0 v xs
def IsGI (xs : List (Nat × Nat)) (v : Value) (w : World) : Prop := GI w 0 v xs
theorem IsGF.mono (xs : List (Nat × Nat)) : Mono (IsGF xs) := fun _ _ _ hb h => own_later h hb
theorem IsGI.mono (xs : List (Nat × Nat)) : Mono (IsGI xs) := fun _ _ _ hb h => own_later h hb
theorem GF.form {w : World} {B : Nat} {v : Value} {xs : List (Nat × Nat)} (h : GF w B v xs) : ∃ A c, v = .slice A xs.length c := RF.form (own_sl h)
theorem GI.form {w : World} {B : Nat} {v : Value} {xs : List (Nat × Nat)} (h : GI w B v xs) : ∃ A c, v = .slice A xs.length c := RI.form (own_sl h)
/-- A program whose lines are not yet there. -/
def IsGF0 (vars : Int) (xs : List (Nat × Nat)) (v : Value) (w : World) : Prop := ∃ A c, v = .agg #[.int .i64 vars, .slice A xs.length c, .slice none 0 0] ∧ GF w 0 (.slice A xs.length c) xs
def IsGI0 (vars : Int) (xs : List (Nat × Nat)) (v : Value) (w : World) : Prop := ∃ A c, v = .agg #[.int .i64 vars, .slice A xs.length c, .slice none 0 0] ∧ GI w 0 (.slice A xs.length c) xs
theorem IsGF0.mono (vars : Int) (xs : List (Nat × Nat)) : Mono (IsGF0 vars xs) := fun _ _ _ hb ⟨A, c, e, h⟩ => ⟨A, c, e, own_later h hb⟩
theorem IsGI0.mono (vars : Int) (xs : List (Nat × Nat)) : Mono (IsGI0 vars xs) := fun _ _ _ hb ⟨A, c, e, h⟩ => ⟨A, c, e, own_later h hb⟩
/-- A new block. -/
def IsNew (B : Nat) (cs : Array Value) (t : TypeId) (v : Value) (w : World) : Prop := ∃ r, v = .pointer (some ⟨r, 0, none⟩) ∧ w.heap[r]? = some (.cells cs t (0, 0)) ∧ B ≤ r
theorem blk_lt {w : World} {r : Nat} {o : Obj} (h : w.heap[r]? = some o) : r < w.heap.size := by
  by_cases hr : r < w.heap.size
  · exact hr
  · rw [Array.getElem?_eq_none (by omega)] at h; cases h
theorem IsNew.mono (B : Nat) (cs : Array Value) (t : TypeId) : Mono (IsNew B cs t) := fun _ _ _ hb ⟨r, e, h, hr⟩ => ⟨r, e, (hb.block r (blk_lt h)).trans h, hr⟩
theorem new_box (w : World) (cs : Array Value) (t : TypeId) : (w.alloc (.cells cs t)).heap[w.heap.size]? = some (.cells cs t (0, 0)) := heap_alloc_new w _
theorem two_new (w : World) (o : Obj) (cs : Array Value) (t : TypeId) : ((w.alloc o).alloc (.cells cs t)).heap[w.heap.size + 1]? = some (.cells cs t (0, 0)) := by
  have := new_box (w.alloc o) cs t
  rw [World.size_alloc] at this
  exact this
theorem below_new' (W : World) (o : Obj) : Below W.heap.size W (W.alloc o) := (Below.refl _ W).alloc (Nat.le_refl _) o
theorem blk_cells3 {w : World} {r : Nat} {a b c : Value} {t : TypeId} (h : w.heap[r]? = some (.cells #[a, b, c] t (0, 0))) :
    w.cell? ⟨r, 0, none⟩ = some a ∧ w.cell? ⟨r, 1, none⟩ = some b ∧ w.cell? ⟨r, 2, none⟩ = some c ∧ w.frozen? ⟨r, 0, none⟩ = false ∧ w.frozen? ⟨r, 1, none⟩ = false ∧ w.frozen? ⟨r, 2, none⟩ = false := by
  simp [World.cell?, World.frozen?, h]
theorem blk_set3 {w : World} {r : Nat} {a b c u : Value} {t : TypeId} (h : w.heap[r]? = some (.cells #[a, b, c] t (0, 0))) :
    (w.setCell ⟨r, 2, none⟩ u).heap[r]? = some (.cells #[a, b, u] t (0, 0)) ∧ (w.setCell ⟨r, 1, none⟩ u).heap[r]? = some (.cells #[a, u, c] t (0, 0)) ∧ (w.setCell ⟨r, 0, none⟩ u).heap[r]? = some (.cells #[u, b, c] t (0, 0)) := by
  simp [World.setCell, Array.getElem?_modify, h]
/-- In the midst of making a program: its box, and the list of its lines. -/
structure Mid (T e1 e2 : TypeId) (k1 : Nat) (w wr : World) (g : Nat) (bv a b : Value) (nb : Nat) (cb : List Value) (q : Value) (nq : Nat) (cq : List Value) : Prop where
  bl : Below w.heap.size w wr
  box : wr.cell? ⟨w.heap.size, 2, none⟩ = some bv
  blk : wr.heap[g]? = some (.cells #[a, b, q] T (0, 0))
  hg : w.heap.size + 2 ≤ g
  res : wr.heap[w.heap.size + 1]? = some (.cells #[.int .i64 0, .slice none 0 0, .slice none 0 0] T (0, 0))
  con : wr.ownsRow 0 e1 k1 b nb cb
  row : wr.ownsRow (g + 1) e2 5 q nq cq
section
variable {T e1 e2 : TypeId} {k1 : Nat} {w wr w' W w2 : World} {g : Nat} {bv a b : Value} {nb : Nat} {cb : List Value} {q q' : Value} {nq nq' : Nat} {cq cq' : List Value}
theorem Mid.later (h : Mid T e1 e2 k1 w wr g bv a b nb cb q nq cq) (hb : Below wr.heap.size wr w') : Mid T e1 e2 k1 w w' g bv a b nb cb q nq cq :=
  ⟨baft h.bl hb, (bcell hb _ _ (lt_of_cell h.box)).trans h.box, (hb.block g (blk_lt h.blk)).trans h.blk, h.hg, (hb.block _ (blk_lt h.res)).trans h.res, own_later h.con hb, own_later h.row hb⟩
theorem Mid.push (h : Mid T e1 e2 k1 w W g bv a b nb cb q nq cq) (h2 : w2.ownsRow (g + 1) e2 5 q' nq' cq') (hg : W.grownBy w2 q.ownBlock) (n1 : e1 ≠ e2) (n2 : e1 ≠ T) (n3 : e2 ≠ T) :
    w2.cell? ⟨g, 2, none⟩ = some q ∧ w2.frozen? ⟨g, 2, none⟩ = false ∧ Mid T e1 e2 k1 w (w2.setCell ⟨g, 2, none⟩ q') g bv a b nb cb q' nq' cq' := by
  have hlt := blk_lt h.blk
  have hown : ∀ k, q.ownBlock = some k → g + 1 ≤ k := fun k hk => (World.ownsRow.lt h.row k hk).1
  have e0 : w2.heap[g]? = some (.cells #[a, b, q] T (0, 0)) := (hg.block g hlt (fun e => by have := hown g e.symm; omega)).trans h.blk
  obtain ⟨_, _, c2, _, _, f2⟩ := blk_cells3 e0
  have hbl : Below w.heap.size w w2 := h.bl.grown hg h.bl.size (fun k hk => by have := hown k hk; have := h.hg; omega)
  have hcon : w2.ownsRow 0 e1 k1 b nb cb := World.ownsRow.kept h.con hg (own_two h.con h.row n1)
  refine ⟨c2, f2, hbl.setCell (by have := h.hg; simp; omega) _, ?_, (blk_set3 e0).1, h.hg, ?_, own_set hcon e0 n2, own_set h2 e0 n3⟩
  rotate_left
  · have hb0 := h.hg
    refine (Below.heap_setCell w2 ⟨g, 2, none⟩ q' (w.heap.size + 1) (show w.heap.size + 1 ≠ g by omega)).trans ?_
    exact (hg.block _ (blk_lt h.res) (fun e => by have := hown _ e.symm; omega)).trans h.res
  have hb0 := h.hg
  have hc : w2.cell? ⟨w.heap.size, 2, none⟩ = some bv := hg.cell h.box (fun e => by have := hown w.heap.size e.symm; omega)
  rw [World.cell?_of_block (w := w2) (Below.heap_setCell w2 ⟨g, 2, none⟩ q' w.heap.size (show w.heap.size ≠ g by omega))]
  exact hc
end
set_option maxRecDepth 100000 in
set_option maxHeartbeats 16000000 in
theorem made_any (vars : Int) (vC vL : Value) (xs : List (Nat × Nat)) (ls : List Ln) (w : World) (hC : RI w vC xs) (hL : RL w vL ls) (hm : xs.length ≤ 8796093022200) (hm2 : ls.length ≤ 3518437208880) :
    Calls Try.prog 5 #[.agg #[.int .i64 vars, vC, vL]] w fun e w' => ∃ vC' vL', e = .returned (.agg #[.int .i64 vars, vC', vL']) ∧ GF w' 0 vC' xs ∧ GL w' 0 vL' ls ∧ Below w.heap.size w w' := by
  have HX : Hid (∀ W, Below w.heap.size w W → Calls Try.prog 11 #[vC] W (fun e w' => ∃ v, e = .returned v ∧ IsGF xs v w' ∧ Below W.heap.size W w')) := Lib.hid (fun W hb => (box16_any vC xs W (hC.below hb) hm).mono (fun e w' ⟨v, h1, h2, h3⟩ => ⟨v, h1, own_base h2 (Nat.zero_le _), h3⟩))
  obtain ⟨A1, c1, rfl⟩ := hC.form
  obtain ⟨A, c, rfl⟩ := hL.form
  have HR := Lib.hid hL
  obtain ⟨n, hn⟩ : ∃ n, ls.length = n := ⟨_, rfl⟩
  rw [hn]
  rw [hn] at HR hm2
  have HN := Lib.hid hn
  have HB := Lib.hid (fun o o' => baft (bnew w o) (bnew (w.alloc o) o'))
  clear hC hL hn hm
  go_enter Try.func5, Try.ntmps5
  go_wp2_with fail
  refine region_at 7 (Pick [IsV (.pointer (some ⟨w.heap.size, 0, none⟩)), IsV (.int .i64 vars), IsV (.pointer (some ⟨w.heap.size, 1, none⟩)), IsV (.slice A1 xs.length c1), IsGF xs, IsGF0 vars xs, IsNew (w.heap.size + 2) #[.int .i64 0, .slice none 0 0, .slice none 0 0] 29]) (by kernel_rfl) (by kernel_rfl) (by kernel_rfl) (mono_pick ⟨IsV.mono _, IsV.mono _, IsV.mono _, IsV.mono _, IsGF.mono _, IsGF0.mono _ _, IsNew.mono _ _ _, trivial⟩) ⟨?_, ?_, ?_, ?_, ?_, ?_, ?_, trivial⟩ ?_
  · intro a W hsz hb hS
    have h1 : a.tmps.getD 1 undef = .pointer (some ⟨w.heap.size, 0, none⟩) := hS.1
    clear hS hsz
    refine will_of rfl ?_
    intro K hK
    go_simp
    exact hK _ _ ⟨Below.refl _ _, rfl⟩
  · intro a W hsz hb hS
    have h6 : a.tmps.getD 6 undef = .pointer (some ⟨w.heap.size, 0, none⟩) := hS.1
    clear hS hsz
    refine will_of rfl ?_
    have HW := baft (HB.out _ _) hb
    have hz := HW.size
    obtain ⟨k0, k1, k2⟩ := box3at (baft (bnew _ _) hb)
    intro K hK
    go_simp
    exact hK _ _ ⟨Below.refl _ _, rfl⟩
  · intro a W hsz hb hS
    have h1 : a.tmps.getD 1 undef = .pointer (some ⟨w.heap.size, 0, none⟩) := hS.1
    clear hS hsz
    refine will_of rfl ?_
    intro K hK
    go_simp
    exact hK _ _ ⟨Below.refl _ _, rfl⟩
  · intro a W hsz hb hS
    have h8 : a.tmps.getD 8 undef = .pointer (some ⟨w.heap.size, 1, none⟩) := hS.1
    clear hS hsz
    refine will_of rfl ?_
    have HW := baft (HB.out _ _) hb
    have hz := HW.size
    obtain ⟨k0, k1, k2⟩ := box3at (baft (bnew _ _) hb)
    intro K hK
    go_simp
    exact hK _ _ ⟨Below.refl _ _, rfl⟩
  · intro a W hsz hb hS
    have h9 : a.tmps.getD 9 undef = .slice A1 xs.length c1 := hS.1
    clear hS hsz
    refine will_of rfl ?_
    have HW := baft (HB.out _ _) hb
    have hz := HW.size
    obtain ⟨k0, k1, k2⟩ := box3at (baft (bnew _ _) hb)
    intro K hK
    go_simp
    refine (HX.out W HW).mono ?_
    rintro e W' ⟨v, rfl, hv, hb'⟩
    exact hK _ _ ⟨hb', hv⟩
  · intro a W hsz hb hS
    have h7 : a.tmps.getD 7 undef = .int .i64 vars := hS.1
    have q10 : IsGF xs (a.tmps.getD 10 undef) W := hS.2.1
    clear hS hsz
    have g7 := h7
    rw [Array.getD_eq_getD_getElem?] at g7
    obtain ⟨A10, c10, h10⟩ := GF.form q10
    rw [h10] at q10
    have g10 := h10
    rw [Array.getD_eq_getD_getElem?] at g10
    refine will_of rfl ?_
    intro K hK
    go_simp
    exact hK _ _ ⟨Below.refl _ _, _, _, rfl, q10⟩
  · intro a W hsz hb hS
    clear hS hsz
    refine will_of rfl ?_
    intro K hK
    go_simp
    exact hK _ _ ⟨below_new' _ _, _, rfl, new_box _ _ _, by have := hb.size; simp at this; omega⟩
  intro f W hb hH
  have e0 : f 0 = .pointer (some ⟨w.heap.size, 0, none⟩) := hH.1
  have e1 : f 1 = .int .i64 vars := hH.2.1
  have e2 : f 2 = .pointer (some ⟨w.heap.size, 1, none⟩) := hH.2.2.1
  have e3 : f 3 = .slice A1 xs.length c1 := hH.2.2.2.1
  obtain ⟨x4, y4⟩ : ∃ x, f 4 = x := ⟨_, rfl⟩
  have q4 : IsGF xs (f 4) W := hH.2.2.2.2.1
  rw [y4] at q4
  obtain ⟨x5, y5⟩ : ∃ x, f 5 = x := ⟨_, rfl⟩
  have q5 : IsGF0 vars xs (f 5) W := hH.2.2.2.2.2.1
  rw [y5] at q5
  obtain ⟨x6, y6⟩ : ∃ x, f 6 = x := ⟨_, rfl⟩
  have q6 : IsNew (w.heap.size + 2) #[.int .i64 0, .slice none 0 0, .slice none 0 0] 29 (f 6) W := hH.2.2.2.2.2.2.1
  rw [y6] at q6
  simp only [List.take_succ_cons, List.take_zero, List.drop_succ_cons, List.drop_zero, putFrom, Act.put, List.setIfInBounds_toArray, List.set_cons_zero, List.set_cons_succ, Nat.reduceAdd, e0, e1, e2, e3, y4, y5, y6]
  clear e0 e1 e2 e3 y4 y5 y6 hH f
  obtain ⟨AC, cC, rfl, hF⟩ := q5
  obtain ⟨g, rfl, hbox, hg⟩ := q6
  have HW := baft (HB.out _ _) hb
  obtain ⟨k0, k1, k2⟩ := box3at (baft (bnew _ _) hb)
  obtain ⟨m0, m1, m2, f0, f1, f2⟩ := blk_cells3 hbox
  have kr : W.heap[w.heap.size + 1]? = some (.cells #[.int .i64 0, .slice none 0 0, .slice none 0 0] 29 (0, 0)) := (hb.block (w.heap.size + 1) (by simp)).trans (two_new w _ _ _)
  have HG := Lib.hid (And.intro hF (And.intro hbox (And.intro hg HW)))
  clear HX hbox hF HW hb q4
  go_wp2
  have hM : Mid 29 46 43 2 w (((W.setCell ⟨g, 0, none⟩ (.int .i64 vars)).setCell ⟨g, 1, none⟩ (.slice AC xs.length cC)).setCell ⟨g, 2, none⟩ (.slice none 0 0)) g (.slice A n c) (.int .i64 vars) (.slice AC xs.length cC) xs.length (xs.flatMap cF) (.slice none 0 0) 0 [] := by
    obtain ⟨hF, hbox, hg, hW⟩ := HG.out
    have b1 := (blk_set3 (u := .int .i64 vars) hbox).2.2
    have b2 := (blk_set3 (u := .slice AC xs.length cC) b1).2.1
    have b3 := (blk_set3 (u := .slice none 0 0) b2).1
    refine ⟨((hW.setCell (by simp; omega) _).setCell (by simp; omega) _).setCell (by simp; omega) _, ?_, b3, hg, ?_, own_set (own_set (own_set hF hbox (by decide)) b1 (by decide)) b2 (by decide), World.ownsRow_nil _ _ _ _⟩
    rotate_left
    · have hr := fun (W : World) (i : Nat) (u : Value) => Below.heap_setCell W ⟨g, i, none⟩ u (w.heap.size + 1) (show w.heap.size + 1 ≠ g by omega)
      rw [hr, hr, hr]
      exact kr
    have hne : ∀ (W : World) (i : Nat) (u : Value), (W.setCell ⟨g, i, none⟩ u).cell? ⟨w.heap.size, 2, none⟩ = W.cell? ⟨w.heap.size, 2, none⟩ := fun W i u => World.cell?_of_block (Below.heap_setCell W ⟨g, i, none⟩ u w.heap.size (show w.heap.size ≠ g by omega))
    rw [hne, hne, hne]; exact k2
  generalize ((W.setCell ⟨g, 0, none⟩ (.int .i64 vars)).setCell ⟨g, 1, none⟩ (.slice AC xs.length cC)).setCell ⟨g, 2, none⟩ (.slice none 0 0) = W0 at *
  have HM := Lib.hid hM
  clear hM HG kr k0 k1 k2 m0 m1 m2 f0 f1 f2 hg W
  go_loopw [4, 5] (fun iv _ wr => ∃ (i : Nat) (q : Value), i ≤ n ∧ iv = .int .i64 i ∧ Hid (Mid 29 46 43 2 w wr g (.slice A n c) (.int .i64 vars) (.slice AC xs.length cC) xs.length (xs.flatMap cF) q i ((ls.take i).flatMap cL))) (fun iv _ _ => n - (intOf iv).toNat)
  case atStart => exact ⟨0, _, by omega, rfl, HM.out⟩
  case round =>
    obtain ⟨i, q, hi, rfl, hI⟩ := hrel
    have k2 := hI.out.box
    have hz1 := blk_lt hI.out.blk
    have hz2 := lt_of_cell k2
    by_cases hin : i < n
    · obtain ⟨x, hx⟩ : ∃ x, ls[i]? = some x := ⟨_, List.getElem?_eq_getElem (by have := HN.out; omega)⟩
      obtain ⟨Aq, cq, rfl⟩ : ∃ A c, q = .slice A i c := by obtain ⟨_, A, c, e, _⟩ := own_sl hI.out.row; exact ⟨A, c, e⟩
      obtain ⟨b, o, rfl, c0, c1', c2, c3, c4⟩ := (HR.out.below hI.out.bl).at hx
      have HX := Lib.hid hx
      have hlt : (i : Int) < (n : Int) := by omega
      obtain ⟨m0, m1, m2, f0, f1, f2⟩ := blk_cells3 hI.out.blk
      clear hx
      have HL := Lib.hid (show (ls.take i).length + 1 ≤ 3518437208882 by rw [List.length_take]; omega)
      have hsz : g + 1 ≤ wr.heap.size := hz1
      have HO : Hid (∀ o, GL (wr.alloc o) (g + 1) (.slice Aq i cq) (ls.take i)) := Lib.hid (fun o => by
        have h := (hI.out.later (below_new' wr o)).row
        show World.ownsRow _ _ _ _ _ _ _
        rw [show (ls.take i).length = i by rw [List.length_take]; have := HN.out; omega]
        exact h)
      have hnl : (ls.take i).length = i := by rw [List.length_take]; have := HN.out; omega
      have HT : Hid (∀ w2 q', GL w2 (g + 1) q' (ls.take i ++ [x]) → w2.ownsRow (g + 1) 43 5 q' (i + 1) ((ls.take (i + 1)).flatMap cL)) := Lib.hid (fun w2 q' h => by
        have h' : World.ownsRow _ _ _ _ _ _ _ := h
        rw [← take_snoc HX.out, List.length_take, Nat.min_eq_left (by have := HN.out; omega)] at h'
        exact h')
      go_wp2_with (refine wpList_pushL rfl _ _ rfl (g + 1) _ (ls.take i) rfl _ x rfl (HO.out _) (by rw [World.size_alloc]; rfl) HL.out (by first | omega | (simp; omega)) wr ((below_new' wr _).mono hsz) ?_; intro q' w2 hG2 hg2 _; have hG2 := HT.out _ _ hG2; obtain ⟨_, Aq', cq', rfl, _⟩ := own_sl hG2; obtain ⟨p2, pf2, hM2⟩ := (hI.out.later (below_new' wr _)).push hG2 hg2 (by decide) (by decide) (by decide); have HM2 := Lib.hid hM2; clear hG2 hg2 hM2)
      go_roundw
      case rel => exact ⟨i + 1, _, by omega, by go_num, HM2.out⟩
      case measure => simp [intOf]; omega
    · obtain rfl : i = n := by omega
      obtain ⟨m0, m1, m2, f0, f1, f2⟩ := blk_cells3 hI.out.blk
      obtain ⟨r0, r1, r2, g0, g1, g2⟩ := blk_cells3 hI.out.res
      have e : ls.take i = ls := List.take_of_length_le (by have := HN.out; omega)
      obtain ⟨AL, cL', rfl⟩ : ∃ A c, q = .slice A i c := by obtain ⟨_, A, c, e, _⟩ := own_sl hI.out.row; exact ⟨A, c, e⟩
      go_wp2
      refine bodyPost_ret (v := .agg #[.int .i64 vars, .slice AC xs.length cC, .slice AL i cL']) (by simp [results, Try.results5, go_sem, r0, r1, r2]) rfl ?_
      have h1 := hI.out.con
      have h2 := own_base hI.out.row (Nat.zero_le _)
      rw [e] at h2
      have hb := hI.out.bl
      have b0 := hI.out.res
      have b1 := (blk_set3 (u := .int .i64 vars) b0).2.2
      have b2 := (blk_set3 (u := .slice AC xs.length cC) b1).2.1
      refine ⟨_, _, rfl, own_set (own_set (own_set h1 b0 (by decide)) b1 (by decide)) b2 (by decide), ?_, ((hb.setCell (by simp) _).setCell (by simp) _).setCell (by simp) _⟩
      rw [← HN.out] at h2 ⊢
      exact own_set (own_set (own_set (show World.ownsRow _ _ _ _ _ _ _ from h2) b0 (by decide)) b1 (by decide)) b2 (by decide)
set_option maxRecDepth 100000 in
set_option maxHeartbeats 16000000 in
theorem read16_any (vars : Int) (vC vL : Value) (xs : List (Nat × Nat)) (ls : List Ln) (w : World) (hC : RF w vC xs) (hL : RL w vL ls) (hm : xs.length ≤ 8796093022200) (hm2 : ls.length ≤ 3518437208880) :
    Calls Try.prog 8 #[.agg #[.int .i64 vars, vC, vL]] w fun e w' => ∃ vC' vL', e = .returned (.agg #[.int .i64 vars, vC', vL']) ∧ GI w' 0 vC' xs ∧ GM w' 0 vL' ls ∧ Below w.heap.size w w' := by
  have HX : Hid (∀ W, Below w.heap.size w W → Calls Try.prog 15 #[vC] W (fun e w' => ∃ v, e = .returned v ∧ IsGI xs v w' ∧ Below W.heap.size W w')) := Lib.hid (fun W hb => (outs16_any vC xs W (hC.below hb) hm).mono (fun e w' ⟨v, h1, h2, h3⟩ => ⟨v, h1, own_base h2 (Nat.zero_le _), h3⟩))
  obtain ⟨A1, c1, rfl⟩ := hC.form
  obtain ⟨A, c, rfl⟩ := hL.form
  have HR := Lib.hid hL
  obtain ⟨n, hn⟩ : ∃ n, ls.length = n := ⟨_, rfl⟩
  rw [hn]
  rw [hn] at HR hm2
  have HN := Lib.hid hn
  have HB := Lib.hid (fun o o' => baft (bnew w o) (bnew (w.alloc o) o'))
  clear hC hL hn hm
  go_enter Try.func8, Try.ntmps8
  go_wp2_with fail
  refine region_at 7 (Pick [IsV (.pointer (some ⟨w.heap.size, 0, none⟩)), IsV (.int .i64 vars), IsV (.pointer (some ⟨w.heap.size, 1, none⟩)), IsV (.slice A1 xs.length c1), IsGI xs, IsGI0 vars xs, IsNew (w.heap.size + 2) #[.int .i64 0, .slice none 0 0, .slice none 0 0] 25]) (by kernel_rfl) (by kernel_rfl) (by kernel_rfl) (mono_pick ⟨IsV.mono _, IsV.mono _, IsV.mono _, IsV.mono _, IsGI.mono _, IsGI0.mono _ _, IsNew.mono _ _ _, trivial⟩) ⟨?_, ?_, ?_, ?_, ?_, ?_, ?_, trivial⟩ ?_
  · intro a W hsz hb hS
    have h1 : a.tmps.getD 1 undef = .pointer (some ⟨w.heap.size, 0, none⟩) := hS.1
    clear hS hsz
    refine will_of rfl ?_
    intro K hK
    go_simp
    exact hK _ _ ⟨Below.refl _ _, rfl⟩
  · intro a W hsz hb hS
    have h6 : a.tmps.getD 6 undef = .pointer (some ⟨w.heap.size, 0, none⟩) := hS.1
    clear hS hsz
    refine will_of rfl ?_
    have HW := baft (HB.out _ _) hb
    have hz := HW.size
    obtain ⟨k0, k1, k2⟩ := box3at (baft (bnew _ _) hb)
    intro K hK
    go_simp
    exact hK _ _ ⟨Below.refl _ _, rfl⟩
  · intro a W hsz hb hS
    have h1 : a.tmps.getD 1 undef = .pointer (some ⟨w.heap.size, 0, none⟩) := hS.1
    clear hS hsz
    refine will_of rfl ?_
    intro K hK
    go_simp
    exact hK _ _ ⟨Below.refl _ _, rfl⟩
  · intro a W hsz hb hS
    have h8 : a.tmps.getD 8 undef = .pointer (some ⟨w.heap.size, 1, none⟩) := hS.1
    clear hS hsz
    refine will_of rfl ?_
    have HW := baft (HB.out _ _) hb
    have hz := HW.size
    obtain ⟨k0, k1, k2⟩ := box3at (baft (bnew _ _) hb)
    intro K hK
    go_simp
    exact hK _ _ ⟨Below.refl _ _, rfl⟩
  · intro a W hsz hb hS
    have h9 : a.tmps.getD 9 undef = .slice A1 xs.length c1 := hS.1
    clear hS hsz
    refine will_of rfl ?_
    have HW := baft (HB.out _ _) hb
    have hz := HW.size
    obtain ⟨k0, k1, k2⟩ := box3at (baft (bnew _ _) hb)
    intro K hK
    go_simp
    refine (HX.out W HW).mono ?_
    rintro e W' ⟨v, rfl, hv, hb'⟩
    exact hK _ _ ⟨hb', hv⟩
  · intro a W hsz hb hS
    have h7 : a.tmps.getD 7 undef = .int .i64 vars := hS.1
    have q10 : IsGI xs (a.tmps.getD 10 undef) W := hS.2.1
    clear hS hsz
    have g7 := h7
    rw [Array.getD_eq_getD_getElem?] at g7
    obtain ⟨A10, c10, h10⟩ := GI.form q10
    rw [h10] at q10
    have g10 := h10
    rw [Array.getD_eq_getD_getElem?] at g10
    refine will_of rfl ?_
    intro K hK
    go_simp
    exact hK _ _ ⟨Below.refl _ _, _, _, rfl, q10⟩
  · intro a W hsz hb hS
    clear hS hsz
    refine will_of rfl ?_
    intro K hK
    go_simp
    exact hK _ _ ⟨below_new' _ _, _, rfl, new_box _ _ _, by have := hb.size; simp at this; omega⟩
  intro f W hb hH
  have e0 : f 0 = .pointer (some ⟨w.heap.size, 0, none⟩) := hH.1
  have e1 : f 1 = .int .i64 vars := hH.2.1
  have e2 : f 2 = .pointer (some ⟨w.heap.size, 1, none⟩) := hH.2.2.1
  have e3 : f 3 = .slice A1 xs.length c1 := hH.2.2.2.1
  obtain ⟨x4, y4⟩ : ∃ x, f 4 = x := ⟨_, rfl⟩
  have q4 : IsGI xs (f 4) W := hH.2.2.2.2.1
  rw [y4] at q4
  obtain ⟨x5, y5⟩ : ∃ x, f 5 = x := ⟨_, rfl⟩
  have q5 : IsGI0 vars xs (f 5) W := hH.2.2.2.2.2.1
  rw [y5] at q5
  obtain ⟨x6, y6⟩ : ∃ x, f 6 = x := ⟨_, rfl⟩
  have q6 : IsNew (w.heap.size + 2) #[.int .i64 0, .slice none 0 0, .slice none 0 0] 25 (f 6) W := hH.2.2.2.2.2.2.1
  rw [y6] at q6
  simp only [List.take_succ_cons, List.take_zero, List.drop_succ_cons, List.drop_zero, putFrom, Act.put, List.setIfInBounds_toArray, List.set_cons_zero, List.set_cons_succ, Nat.reduceAdd, e0, e1, e2, e3, y4, y5, y6]
  clear e0 e1 e2 e3 y4 y5 y6 hH f
  obtain ⟨AC, cC, rfl, hF⟩ := q5
  obtain ⟨g, rfl, hbox, hg⟩ := q6
  have HW := baft (HB.out _ _) hb
  obtain ⟨k0, k1, k2⟩ := box3at (baft (bnew _ _) hb)
  obtain ⟨m0, m1, m2, f0, f1, f2⟩ := blk_cells3 hbox
  have kr : W.heap[w.heap.size + 1]? = some (.cells #[.int .i64 0, .slice none 0 0, .slice none 0 0] 25 (0, 0)) := (hb.block (w.heap.size + 1) (by simp)).trans (two_new w _ _ _)
  have HG := Lib.hid (And.intro hF (And.intro hbox (And.intro hg HW)))
  clear HX hbox hF HW hb q4
  go_wp2
  have hM : Mid 25 54 48 2 w (((W.setCell ⟨g, 0, none⟩ (.int .i64 vars)).setCell ⟨g, 1, none⟩ (.slice AC xs.length cC)).setCell ⟨g, 2, none⟩ (.slice none 0 0)) g (.slice A n c) (.int .i64 vars) (.slice AC xs.length cC) xs.length (xs.flatMap cI) (.slice none 0 0) 0 [] := by
    obtain ⟨hF, hbox, hg, hW⟩ := HG.out
    have b1 := (blk_set3 (u := .int .i64 vars) hbox).2.2
    have b2 := (blk_set3 (u := .slice AC xs.length cC) b1).2.1
    have b3 := (blk_set3 (u := .slice none 0 0) b2).1
    refine ⟨((hW.setCell (by simp; omega) _).setCell (by simp; omega) _).setCell (by simp; omega) _, ?_, b3, hg, ?_, own_set (own_set (own_set hF hbox (by decide)) b1 (by decide)) b2 (by decide), World.ownsRow_nil _ _ _ _⟩
    rotate_left
    · have hr := fun (W : World) (i : Nat) (u : Value) => Below.heap_setCell W ⟨g, i, none⟩ u (w.heap.size + 1) (show w.heap.size + 1 ≠ g by omega)
      rw [hr, hr, hr]
      exact kr
    have hne : ∀ (W : World) (i : Nat) (u : Value), (W.setCell ⟨g, i, none⟩ u).cell? ⟨w.heap.size, 2, none⟩ = W.cell? ⟨w.heap.size, 2, none⟩ := fun W i u => World.cell?_of_block (Below.heap_setCell W ⟨g, i, none⟩ u w.heap.size (show w.heap.size ≠ g by omega))
    rw [hne, hne, hne]; exact k2
  generalize ((W.setCell ⟨g, 0, none⟩ (.int .i64 vars)).setCell ⟨g, 1, none⟩ (.slice AC xs.length cC)).setCell ⟨g, 2, none⟩ (.slice none 0 0) = W0 at *
  have HM := Lib.hid hM
  clear hM HG kr k0 k1 k2 m0 m1 m2 f0 f1 f2 hg W
  go_loopw [4, 5] (fun iv _ wr => ∃ (i : Nat) (q : Value), i ≤ n ∧ iv = .int .i64 i ∧ Hid (Mid 25 54 48 2 w wr g (.slice A n c) (.int .i64 vars) (.slice AC xs.length cC) xs.length (xs.flatMap cI) q i ((ls.take i).flatMap cL))) (fun iv _ _ => n - (intOf iv).toNat)
  case atStart => exact ⟨0, _, by omega, rfl, HM.out⟩
  case round =>
    obtain ⟨i, q, hi, rfl, hI⟩ := hrel
    have k2 := hI.out.box
    have hz1 := blk_lt hI.out.blk
    have hz2 := lt_of_cell k2
    by_cases hin : i < n
    · obtain ⟨x, hx⟩ : ∃ x, ls[i]? = some x := ⟨_, List.getElem?_eq_getElem (by have := HN.out; omega)⟩
      obtain ⟨Aq, cq, rfl⟩ : ∃ A c, q = .slice A i c := by obtain ⟨_, A, c, e, _⟩ := own_sl hI.out.row; exact ⟨A, c, e⟩
      obtain ⟨b, o, rfl, c0, c1', c2, c3, c4⟩ := (HR.out.below hI.out.bl).at hx
      have HX := Lib.hid hx
      have hlt : (i : Int) < (n : Int) := by omega
      obtain ⟨m0, m1, m2, f0, f1, f2⟩ := blk_cells3 hI.out.blk
      clear hx
      have HL := Lib.hid (show (ls.take i).length + 1 ≤ 3518437208882 by rw [List.length_take]; omega)
      have hsz : g + 1 ≤ wr.heap.size := hz1
      have HO : Hid (∀ o, GM (wr.alloc o) (g + 1) (.slice Aq i cq) (ls.take i)) := Lib.hid (fun o => by
        have h := (hI.out.later (below_new' wr o)).row
        show World.ownsRow _ _ _ _ _ _ _
        rw [show (ls.take i).length = i by rw [List.length_take]; have := HN.out; omega]
        exact h)
      have hnl : (ls.take i).length = i := by rw [List.length_take]; have := HN.out; omega
      have HT : Hid (∀ w2 q', GM w2 (g + 1) q' (ls.take i ++ [x]) → w2.ownsRow (g + 1) 48 5 q' (i + 1) ((ls.take (i + 1)).flatMap cL)) := Lib.hid (fun w2 q' h => by
        have h' : World.ownsRow _ _ _ _ _ _ _ := h
        rw [← take_snoc HX.out, List.length_take, Nat.min_eq_left (by have := HN.out; omega)] at h'
        exact h')
      go_wp2_with (refine wpList_pushM rfl _ _ rfl (g + 1) _ (ls.take i) rfl _ x rfl (HO.out _) (by rw [World.size_alloc]; rfl) HL.out (by first | omega | (simp; omega)) wr ((below_new' wr _).mono hsz) ?_; intro q' w2 hG2 hg2 _; have hG2 := HT.out _ _ hG2; obtain ⟨_, Aq', cq', rfl, _⟩ := own_sl hG2; obtain ⟨p2, pf2, hM2⟩ := (hI.out.later (below_new' wr _)).push hG2 hg2 (by decide) (by decide) (by decide); have HM2 := Lib.hid hM2; clear hG2 hg2 hM2)
      go_roundw
      case rel => exact ⟨i + 1, _, by omega, by go_num, HM2.out⟩
      case measure => simp [intOf]; omega
    · obtain rfl : i = n := by omega
      obtain ⟨m0, m1, m2, f0, f1, f2⟩ := blk_cells3 hI.out.blk
      obtain ⟨r0, r1, r2, g0, g1, g2⟩ := blk_cells3 hI.out.res
      have e : ls.take i = ls := List.take_of_length_le (by have := HN.out; omega)
      obtain ⟨AL, cL', rfl⟩ : ∃ A c, q = .slice A i c := by obtain ⟨_, A, c, e, _⟩ := own_sl hI.out.row; exact ⟨A, c, e⟩
      go_wp2
      refine bodyPost_ret (v := .agg #[.int .i64 vars, .slice AC xs.length cC, .slice AL i cL']) (by simp [results, Try.results8, go_sem, r0, r1, r2]) rfl ?_
      have h1 := hI.out.con
      have h2 := own_base hI.out.row (Nat.zero_le _)
      rw [e] at h2
      have hb := hI.out.bl
      have b0 := hI.out.res
      have b1 := (blk_set3 (u := .int .i64 vars) b0).2.2
      have b2 := (blk_set3 (u := .slice AC xs.length cC) b1).2.1
      refine ⟨_, _, rfl, own_set (own_set (own_set h1 b0 (by decide)) b1 (by decide)) b2 (by decide), ?_, ((hb.setCell (by simp) _).setCell (by simp) _).setCell (by simp) _⟩
      rw [← HN.out] at h2 ⊢
      exact own_set (own_set (own_set (show World.ownsRow _ _ _ _ _ _ _ from h2) b0 (by decide)) b1 (by decide)) b2 (by decide)
end Go.Proofs.Ytggjbbkcdbnckaa
