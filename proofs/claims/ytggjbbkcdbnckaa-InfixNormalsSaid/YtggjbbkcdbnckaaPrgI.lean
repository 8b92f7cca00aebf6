/- Programs of chapter 16: Check, by the program and by the document. -/
import Derived.Test.YtggjbbkcdbnckaaPrgH
namespace Go.Proofs.Ytggjbbkcdbnckaa
set_option linter.unusedVariables false
set_option linter.unusedSimpArgs false
open Go.RowKit Verge

theorem badLine_at {vars nc : Int} {ls : List Ln} {i : Nat} {l : Ln} (h : ls[i]? = some l) : badLine vars nc i (ls.drop i) = if lineE vars nc i l ≠ 0 then ((i : Int), lineE vars nc i l) else badLine vars nc (i + 1) (ls.drop (i + 1)) := by
  obtain ⟨h1, h2⟩ := List.getElem?_eq_some_iff.1 h
  rw [List.drop_eq_getElem_cons h1, h2]
  rfl
/-- The box of a program that Check was handed. -/
structure PBx (T : TypeId) (w wr : World) (vars : Int) (vC vL : Value) : Prop where
  bl : Below w.heap.size w wr
  p : wr.heap[w.heap.size]? = some (.cells #[.int .i64 vars, vC, vL] T (0, 0))
theorem PBx.later {T : TypeId} {w wr w' : World} {vars : Int} {vC vL : Value} (h : PBx T w wr vars vC vL) (hb : Below wr.heap.size wr w') : PBx T w w' vars vC vL :=
  ⟨baft h.bl hb, (hb.block _ (blk_lt h.p)).trans h.p⟩
theorem PBx.new (T : TypeId) (w : World) (vars : Int) (vC vL : Value) : PBx T w (w.alloc (.cells #[.int .i64 vars, vC, vL] T)) vars vC vL := ⟨bnew w _, new_box w _ _⟩
theorem PBx.cells {T : TypeId} {w wr : World} {vars : Int} {vC vL : Value} (h : PBx T w wr vars vC vL) :
    wr.cell? ⟨w.heap.size, 0, none⟩ = some (.int .i64 vars) ∧ wr.cell? ⟨w.heap.size, 1, none⟩ = some vC ∧ wr.cell? ⟨w.heap.size, 2, none⟩ = some vL ∧ w.heap.size < wr.heap.size := by
  obtain ⟨k0, k1, k2, _⟩ := blk_cells3 h.p
  exact ⟨k0, k1, k2, blk_lt h.p⟩
theorem all_take {xs : List (Nat × Nat)} {i : Nat} {x : Nat × Nat} (hx : xs[i]? = some x) (h : ∀ y ∈ xs.take i, fvalid y.1 y.2 = true) (hv : fvalid x.1 x.2 = true) : ∀ y ∈ xs.take (i + 1), fvalid y.1 y.2 = true := by
  rw [take_snoc hx]
  intro y hy
  rcases List.mem_append.1 hy with hy | hy
  · exact h y hy
  · simp at hy; subst hy; exact hv
set_option maxRecDepth 100000 in
set_option maxHeartbeats 16000000 in
theorem check_any (vars : Int) (vC vL : Value) (xs : List (Nat × Nat)) (ls : List Ln) (w : World) (hC : RF w vC xs) (hL : RL w vL ls) (hW : ∀ x ∈ xs, x.1 < 18446744073709551616 ∧ x.2 < 18446744073709551616) (hm : xs.length ≤ 9000000000000) (hm2 : ls.length ≤ 9000000000000) :
    Calls Try.prog 9 #[.agg #[.int .i64 vars, vC, vL]] w fun e w' => e = .returned (.tuple #[.int .i64 (chk vars xs ls).1, .int .i64 (chk vars xs ls).2]) ∧ Below w.heap.size w w' := by
  obtain ⟨AC, cC, rfl⟩ := hC.form
  obtain ⟨AL, cL', rfl⟩ := hL.form
  obtain ⟨nc, hnc⟩ : ∃ nc, xs.length = nc := ⟨_, rfl⟩
  obtain ⟨n, hn⟩ : ∃ n, ls.length = n := ⟨_, rfl⟩
  obtain ⟨r, hr⟩ : ∃ r, chk vars xs ls = r := ⟨_, rfl⟩
  rw [hr]
  unfold chk at hr
  rw [hnc, hn] at hr
  rw [hnc] at hC hm ⊢
  rw [hn] at hL hm2 ⊢
  have HRC := Lib.hid (And.intro hC (And.intro hnc hW))
  have HRL := Lib.hid (And.intro hL hn)
  have hP := PBx.new 29 w vars (.slice AC nc cC) (.slice AL n cL')
  have HP := Lib.hid hP
  clear hC hL hW hP hnc hn
  by_cases hv : vars < 0 ∨ 32 < vars
  · rw [if_pos hv] at hr
    subst hr
    by_cases hv0 : vars < 0
    · clear hv
      go_enter Try.func9, Try.ntmps9
      go_wp2
      go_ret2
      exact ⟨rfl, HP.out.bl⟩
    · have hv1 : 32 < vars := by omega
      clear hv
      go_enter Try.func9, Try.ntmps9
      go_wp2
      go_ret2
      exact ⟨rfl, HP.out.bl⟩
  rw [if_neg hv] at hr
  have hv0 : 0 ≤ vars := by omega
  have hv1 : vars ≤ 32 := by omega
  clear hv
  by_cases hnc : 256 < nc
  · rw [if_pos (.inl hnc)] at hr
    subst hr
    have hnI : (256 : Int) < (nc : Int) := by omega
    go_enter Try.func9, Try.ntmps9
    go_wp2
    go_ret2
    exact ⟨rfl, HP.out.bl⟩
  have hncI : (nc : Int) ≤ 256 := by omega
  have HRr := Lib.hid hr
  have hsf := store_f
  clear hr hnc
  go_enter Try.func9, Try.ntmps9
  go_wp2
  clear HP
  go_loopw [5, 24] (fun _ iv wr => ∃ i : Nat, i ≤ nc ∧ iv = .int .i64 i ∧ Hid (∀ y ∈ xs.take i, fvalid y.1 y.2 = true) ∧ Hid (PBx 29 w wr vars (.slice AC nc cC) (.slice AL n cL'))) (fun _ iv _ => nc - (intOf iv).toNat)
  case atStart => exact ⟨0, by omega, rfl, (fun y hy => by simp at hy), PBx.new _ _ _ _ _⟩
  case round =>
    obtain ⟨i, hi, rfl, hV, hP⟩ := hrel
    obtain ⟨k0, k1, k2, hz⟩ := hP.out.cells
    by_cases hin : i < nc
    · obtain ⟨x, hx⟩ : ∃ x, xs[i]? = some x := ⟨_, List.getElem?_eq_getElem (by have := HRC.out.2.1; omega)⟩
      obtain ⟨b, o, rfl, a0, a1⟩ := (HRC.out.1.below hP.out.bl).at hx
      have hw := HRC.out.2.2 x (List.mem_of_getElem? hx)
      have HX := Lib.hid hx
      have hlt : (i : Int) < (nc : Int) := by omega
      have HV := Lib.hid (fun W => valid_any x.1 x.2 hw.1 hw.2 W)
      obtain ⟨fv, hfv⟩ : ∃ fv, fvalid x.1 x.2 = fv := ⟨_, rfl⟩
      rw [hfv] at HV
      have HFV := Lib.hid hfv
      clear hx hw hfv
      go_wp2_with fail
      refine (HV.out _).mono ?_
      rintro en w1 ⟨rfl, hb⟩
      have HP1 := Lib.hid (hP.out.later (baft (bnew wr _) hb))
      clear hb a0 a1 k0 k1 k2
      cases fv
      · go_wp2
        go_ret2
        refine ⟨?_, HP1.out.bl⟩
        have hbad : ¬ (∀ x ∈ xs, fvalid x.1 x.2 = true) := fun h => by
          have := h x (List.mem_of_getElem? HX.out)
          rw [HFV.out] at this
          cases this
        have := HRr.out
        rw [if_pos (.inr hbad)] at this
        rw [← this]
        rfl
      · go_wp2
        go_roundw
        case rel => exact ⟨i + 1, by omega, by go_num, all_take HX.out hV.out HFV.out, HP1.out⟩
        case measure => simp [intOf]; omega
    · obtain rfl : i = nc := by omega
      have hall : ∀ x ∈ xs, fvalid x.1 x.2 = true := by
        have := hV.out
        rwa [List.take_of_length_le (by have := HRC.out.2.1; omega)] at this
      have hr := HRr.out
      rw [if_neg (by rintro (h | h); omega; exact h hall)] at hr
      by_cases hnn : n = 0 ∨ 1024 < n
      · rw [if_pos hnn] at hr
        subst hr
        by_cases hn0 : n = 0
        · subst hn0
          clear hnn
          go_wp2
          go_ret2
          exact ⟨rfl, hP.out.bl⟩
        · have hn1 : (1024 : Int) < (n : Int) := by omega
          have hn2 : ((n : Int) == 0) = false := beq_eq_false_iff_ne.2 (by omega)
          clear hnn
          go_wp2
          go_ret2
          exact ⟨rfl, hP.out.bl⟩
      · rw [if_neg hnn] at hr
        have hn0 : ((n : Int) == 0) = false := beq_eq_false_iff_ne.2 (by omega)
        have hn1 : ¬ (1024 : Int) < (n : Int) := by omega
        have hn2 : (n : Int) ≤ 1024 := by omega
        have HRr := Lib.hid hr
        clear hr hall hnn
        go_wp2
        clear k0 k1 k2
        go_loopw [6, 7, 8, 45] (fun _ _ _ jv wr => ∃ j : Nat, j ≤ n ∧ jv = .int .i64 j ∧ Hid (badLine vars i j (ls.drop j) = r) ∧ Hid (PBx 29 w wr vars (.slice AC i cC) (.slice AL n cL'))) (fun _ _ _ jv _ => n - (intOf jv).toNat)
        case atStart => exact ⟨0, by omega, rfl, HRr.out, hP.out⟩
        case round =>
          clear HRr hP
          obtain ⟨j, hj, rfl, hR, hP⟩ := hrel
          obtain ⟨k0, k1, k2, hz⟩ := hP.out.cells
          by_cases hjn : j < n
          · obtain ⟨l, hl⟩ : ∃ l, ls[j]? = some l := ⟨_, List.getElem?_eq_getElem (by have := HRL.out.2; omega)⟩
            obtain ⟨b, o, rfl, a0, a1, a2, a3, a4⟩ := (HRL.out.1.below hP.out.bl).at hl
            have hlt : (j : Int) < (n : Int) := by omega
            have HLn := Lib.hid (fun W => checkLine_raw vars j (.slice AC i cC) (.slice (some ⟨b, o, none⟩) n cL') i l.op l.a l.b l.c l.n W ⟨_, _, rfl⟩ hv0 hv1 (by omega) (by omega))
            have hb := hR.out
            rw [badLine_at hl] at hb
            rw [show (⟨l.op, l.a, l.b, l.c, l.n⟩ : Ln) = l from rfl] at HLn
            have hne := lineE_ne vars i j l
            generalize lineE vars i j l = q at *
            have HBd := Lib.hid hb
            clear hl hb hR
            go_wp2_with fail
            refine (HLn.out _).mono ?_
            rintro en w1 ⟨rfl, hb1⟩
            have HP1 := Lib.hid (hP.out.later (baft (bnew wr _) hb1))
            clear hb1 a0 a1 a2 a3 a4 k0 k1 k2 hP HLn
            by_cases hq : q = 0
            · subst hq
              clear hne
              go_wp2
              go_roundw
              case rel => exact ⟨j + 1, by omega, by go_num, by have := HBd.out; rw [if_neg (by simp)] at this; exact this, HP1.out⟩
              case measure => simp [intOf]; omega
            · have hq1 : (q == 0) = false := beq_eq_false_iff_ne.2 hq
              go_wp2
              go_ret2
              refine ⟨?_, HP1.out.bl⟩
              have := HBd.out
              rw [if_pos hq] at this
              rw [← this]
              rfl
          · obtain rfl : j = n := by omega
            go_wp2
            go_ret2
            refine ⟨?_, hP.out.bl⟩
            have := hR.out
            rw [List.drop_of_length_le (by have := HRL.out.2; omega)] at this
            rw [← this]
            rfl
set_option maxRecDepth 100000 in
set_option maxHeartbeats 16000000 in
theorem check16_any (vars : Int) (vC vL : Value) (xs : List (Nat × Nat)) (ls : List Ln) (w : World) (hC : RI w vC xs) (hL : RL w vL ls) (hW : ∀ x ∈ xs, x.1 < 18446744073709551616 ∧ x.2 < 18446744073709551616) (hm : xs.length ≤ 9000000000000) (hm2 : ls.length ≤ 9000000000000) :
    Calls Try.prog 12 #[.agg #[.int .i64 vars, vC, vL]] w fun e w' => e = .returned (.tuple #[.int .i64 (chk vars xs ls).1, .int .i64 (chk vars xs ls).2]) ∧ Below w.heap.size w w' := by
  obtain ⟨AC, cC, rfl⟩ := hC.form
  obtain ⟨AL, cL', rfl⟩ := hL.form
  obtain ⟨nc, hnc⟩ : ∃ nc, xs.length = nc := ⟨_, rfl⟩
  obtain ⟨n, hn⟩ : ∃ n, ls.length = n := ⟨_, rfl⟩
  obtain ⟨r, hr⟩ : ∃ r, chk vars xs ls = r := ⟨_, rfl⟩
  rw [hr]
  unfold chk at hr
  rw [hnc, hn] at hr
  rw [hnc] at hC hm ⊢
  rw [hn] at hL hm2 ⊢
  have HRC := Lib.hid (And.intro hC (And.intro hnc hW))
  have HRL := Lib.hid (And.intro hL hn)
  have hP := PBx.new 25 w vars (.slice AC nc cC) (.slice AL n cL')
  have HP := Lib.hid hP
  clear hC hL hW hP hnc hn
  by_cases hv : vars < 0 ∨ 32 < vars
  · rw [if_pos hv] at hr
    subst hr
    by_cases hv0 : vars < 0
    · clear hv
      go_enter Try.func12, Try.ntmps12
      go_wp2
      go_ret2
      exact ⟨rfl, HP.out.bl⟩
    · have hv1 : 32 < vars := by omega
      clear hv
      go_enter Try.func12, Try.ntmps12
      go_wp2
      go_ret2
      exact ⟨rfl, HP.out.bl⟩
  rw [if_neg hv] at hr
  have hv0 : 0 ≤ vars := by omega
  have hv1 : vars ≤ 32 := by omega
  clear hv
  by_cases hnc : 256 < nc
  · rw [if_pos (.inl hnc)] at hr
    subst hr
    have hnI : (256 : Int) < (nc : Int) := by omega
    go_enter Try.func12, Try.ntmps12
    go_wp2
    go_ret2
    exact ⟨rfl, HP.out.bl⟩
  have hncI : (nc : Int) ≤ 256 := by omega
  have HRr := Lib.hid hr
  clear hr hnc
  go_enter Try.func12, Try.ntmps12
  go_wp2
  clear HP
  go_loopw [4] (fun iv wr => ∃ i : Nat, i ≤ nc ∧ iv = .int .i64 i ∧ Hid (∀ y ∈ xs.take i, fvalid y.1 y.2 = true) ∧ Hid (PBx 25 w wr vars (.slice AC nc cC) (.slice AL n cL'))) (fun iv _ => nc - (intOf iv).toNat)
  case atStart => exact ⟨0, by omega, rfl, (fun y hy => by simp at hy), PBx.new _ _ _ _ _⟩
  case round =>
    obtain ⟨i, hi, rfl, hV, hP⟩ := hrel
    obtain ⟨k0, k1, k2, hz⟩ := hP.out.cells
    by_cases hin : i < nc
    · obtain ⟨x, hx⟩ : ∃ x, xs[i]? = some x := ⟨_, List.getElem?_eq_getElem (by have := HRC.out.2.1; omega)⟩
      obtain ⟨b, o, rfl, a0, a1⟩ := (HRC.out.1.below hP.out.bl).at hx
      have hw := HRC.out.2.2 x (List.mem_of_getElem? hx)
      have HX := Lib.hid hx
      have hlt : (i : Int) < (nc : Int) := by omega
      have HV := Lib.hid (fun W => valid6_any x.1 x.2 hw.1 hw.2 W)
      obtain ⟨fv, hfv⟩ : ∃ fv, fvalid x.1 x.2 = fv := ⟨_, rfl⟩
      rw [hfv] at HV
      have HFV := Lib.hid hfv
      clear hx hw hfv
      go_wp2_with fail
      refine (HV.out _).mono ?_
      rintro en w1 ⟨rfl, hb⟩
      have HP1 := Lib.hid (hP.out.later hb)
      clear hb a0 a1 k0 k1 k2
      cases fv
      · go_wp2
        go_ret2
        refine ⟨?_, HP1.out.bl⟩
        have hbad : ¬ (∀ x ∈ xs, fvalid x.1 x.2 = true) := fun h => by
          have := h x (List.mem_of_getElem? HX.out)
          rw [HFV.out] at this
          cases this
        have := HRr.out
        rw [if_pos (.inr hbad)] at this
        rw [← this]
        rfl
      · go_wp2
        go_roundw
        case rel => exact ⟨i + 1, by omega, by go_num, all_take HX.out hV.out HFV.out, HP1.out⟩
        case measure => simp [intOf]; omega
    · obtain rfl : i = nc := by omega
      have hall : ∀ x ∈ xs, fvalid x.1 x.2 = true := by
        have := hV.out
        rwa [List.take_of_length_le (by have := HRC.out.2.1; omega)] at this
      have hr := HRr.out
      rw [if_neg (by rintro (h | h); omega; exact h hall)] at hr
      by_cases hnn : n = 0 ∨ 1024 < n
      · rw [if_pos hnn] at hr
        subst hr
        by_cases hn0 : n = 0
        · subst hn0
          clear hnn
          go_wp2
          go_ret2
          exact ⟨rfl, hP.out.bl⟩
        · have hn1 : (1024 : Int) < (n : Int) := by omega
          have hn2 : ((n : Int) == 0) = false := beq_eq_false_iff_ne.2 (by omega)
          clear hnn
          go_wp2
          go_ret2
          exact ⟨rfl, hP.out.bl⟩
      · rw [if_neg hnn] at hr
        have hn0 : ((n : Int) == 0) = false := beq_eq_false_iff_ne.2 (by omega)
        have hn1 : ¬ (1024 : Int) < (n : Int) := by omega
        have hn2 : (n : Int) ≤ 1024 := by omega
        have HRr := Lib.hid hr
        clear hr hall hnn
        go_wp2
        clear k0 k1 k2
        go_loopw [5, 6] (fun jv _ wr => ∃ j : Nat, j ≤ n ∧ jv = .int .i64 j ∧ Hid (badLine vars i j (ls.drop j) = r) ∧ Hid (PBx 25 w wr vars (.slice AC i cC) (.slice AL n cL'))) (fun jv _ _ => n - (intOf jv).toNat)
        case atStart => exact ⟨0, by omega, rfl, HRr.out, hP.out⟩
        case round =>
          clear HRr hP
          obtain ⟨j, hj, rfl, hR, hP⟩ := hrel
          obtain ⟨k0, k1, k2, hz⟩ := hP.out.cells
          by_cases hjn : j < n
          · obtain ⟨l, hl⟩ : ∃ l, ls[j]? = some l := ⟨_, List.getElem?_eq_getElem (by have := HRL.out.2; omega)⟩
            have hlt : (j : Int) < (n : Int) := by omega
            have HLn := Lib.hid (line16_raw vars j (.slice AC i cC) (.slice AL n cL') i ls l.op l.a l.b l.c l.n wr ⟨_, _, rfl⟩ (HRL.out.1.below hP.out.bl) hl hv0 hv1 (by omega))
            have hb := hR.out
            rw [badLine_at hl] at hb
            rw [show (⟨l.op, l.a, l.b, l.c, l.n⟩ : Ln) = l from rfl] at HLn
            have hne := lineE_ne vars i j l
            generalize lineE vars i j l = q at *
            have HBd := Lib.hid hb
            clear hl hb hR
            go_wp2_with fail
            refine (HLn.out).mono ?_
            rintro en w1 ⟨rfl, hb1⟩
            have HP1 := Lib.hid (hP.out.later hb1)
            clear hb1 k0 k1 k2 hP HLn
            by_cases hq : q = 0
            · subst hq
              clear hne
              go_wp2
              go_roundw
              case rel => exact ⟨j + 1, by omega, by go_num, by have := HBd.out; rw [if_neg (by simp)] at this; exact this, HP1.out⟩
              case measure => simp [intOf]; omega
            · have hq1 : (q == 0) = false := beq_eq_false_iff_ne.2 hq
              go_wp2
              go_ret2
              refine ⟨?_, HP1.out.bl⟩
              have := HBd.out
              rw [if_pos hq] at this
              rw [← this]
              rfl
          · obtain rfl : j = n := by omega
            go_wp2
            go_ret2
            refine ⟨?_, hP.out.bl⟩
            have := hR.out
            rw [List.drop_of_length_le (by have := HRL.out.2; omega)] at this
            rw [← this]
            rfl
end Go.Proofs.Ytggjbbkcdbnckaa
