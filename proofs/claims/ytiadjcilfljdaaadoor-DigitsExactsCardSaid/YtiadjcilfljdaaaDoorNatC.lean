/- Contracts of nat: Add. -/
import Derived.Test.YtiadjcilfljdaaaDoorNatB
namespace Go.Proofs.YtiadjcilfljdaaaDoor
set_option linter.unusedVariables false
set_option linter.unusedSimpArgs false
open Go.RowKit Verge

set_option maxHeartbeats 1000000 in
/-- nat.Add. -/
theorem add_any (A : Option Addr) (n c : Nat) (xs : List Nat) (A' : Option Addr) (n' c' : Nat) (ys : List Nat) (w : World)
    (h : Rd w A xs) (hn : xs.length = n) (hc : n ≤ c) (hm : n ≤ 140737488355328) (h' : Rd w A' ys) (hn' : ys.length = n') (hc' : n' ≤ c') (hm' : n' ≤ 140737488355328) :
    Calls Tryd.prog 70 #[.slice A n c, .slice A' n' c'] w fun e w' => ∃ g A1, w.heap.size ≤ g ∧
      e = .returned (.tuple #[.slice A1 (nadd (val xs) (val ys)).1.length (nadd (val xs) (val ys)).1.length, .int .i64 (nadd (val xs) (val ys)).2]) ∧
      Own w' g A1 (nadd (val xs) (val ys)).1 ∧ Below w.heap.size w w' := by
  have hA : ∀ o : Obj, Rd (w.alloc o) A xs := fun o => h.keep (fun b o hb => World.cell?_alloc_lt _ _ _ hb)
  have hA' : ∀ o : Obj, Rd (w.alloc o) A' ys := fun o => h'.keep (fun b o hb => World.cell?_alloc_lt _ _ _ hb)
  have hAd : ∀ (o : Obj) (k : Nat), Rd ((w.alloc o).drewN k) A xs := fun o k => hA o
  have hAd' : ∀ (o : Obj) (k : Nat), Rd ((w.alloc o).drewN k) A' ys := fun o k => hA' o
  have hB1 : ∀ o : Obj, Below w.heap.size w (w.alloc o) := fun o => (Below.refl _ w).alloc (Nat.le_refl _) o
  by_cases hlong : (long (val xs) || long (val ys)) = true
  · rw [nadd_long hlong]
    go_enter Tryd.func70, Tryd.ntmps70
    go_wp2_with (go_at_call 65; refine (long2_any _ A n c xs A' n' c' ys _ (hA _) hn hm (hA' _) hn' hm' (by simp [World.cell?_alloc_new]) (by simp [World.cell?_alloc_new])).mono ?_; rintro e w' ⟨rfl, rfl⟩)
    go_ret2
    exact ⟨0 + w.heap.size, none, by omega, rfl, Own.nil _ _ _, hB1 _⟩
  · have hlong' : (long (val xs) || long (val ys)) = false := by simpa using hlong
    clear hlong
    rw [nadd_fit hlong']
    have hlx : wl xs ≤ 16384 := by
      have := hlong'; rw [Bool.or_eq_false_iff, long_false, long_false, ← wl_eq h.1, ← wl_eq h'.1] at this; exact this.1
    have hly : wl ys ≤ 16384 := by
      have := hlong'; rw [Bool.or_eq_false_iff, long_false, long_false, ← wl_eq h.1, ← wl_eq h'.1] at this; exact this.2
    have hle := wl_le xs
    have hle' := wl_le ys
    have cut1 := fun W => run_cut_h W A n c (wl xs) (by omega)
    have cut2 := fun W => run_cut_h W A' n' c' (wl ys) (by omega)
    have WX := fun W hW => words_any A n c xs W hW hn hm
    have WY := fun W hW => words_any A' n' c' ys W hW hn' hm'
    have HX := Lib.hid WX
    have HY := Lib.hid WY
    have hx := h.take (wl xs)
    have hy := h'.take (wl ys)
    have hlx' : (xs.take (wl xs)).length = wl xs := length_norm xs
    have hly' : (ys.take (wl ys)).length = wl ys := length_norm ys
    have hvx : val (xs.take (wl xs)) = val xs := val_norm xs
    have hvy : val (ys.take (wl ys)) = val ys := val_norm ys
    have HV := Lib.hid (And.intro hlx' (And.intro hly' (And.intro hvx hvy)))
    have HH := Lib.hid (And.intro hn hn')
    have HL := Lib.hid hlong'
    have HQ : wl xs ≤ n ∧ wl ys ≤ n' := by omega
    clear WX WY hlx' hly' hvx hvy hn hn' hle hle'
    go_enter Tryd.func70, Tryd.ntmps70
    go_wp2_with (go_at_call 65; refine (long2_any _ A n c xs A' n' c' ys _ (hA _) HH.out.1 hm (hA' _) HH.out.2 hm' (by simp [World.cell?_alloc_new]) (by simp [World.cell?_alloc_new])).mono ?_; rintro e w' ⟨rfl, rfl⟩)
    go_quiet ((first
      | (go_at_call 63; with_reducible exact quiet_left (HX.out _ (hAd _ _)))
      | (go_at_call 63; with_reducible exact quiet_left (HY.out _ (hAd' _ _)))))
    go_upto_if 26 with (fail)
    go_cut [0, 1] from 27 to 28 (fun s0 s1 wr => ∃ (P Q : Option Addr) (nP cP nQ cQ : Nat) (X Y : List Nat), s0 = .slice P nP cP ∧ s1 = .slice Q nQ cQ ∧ Rd w P X ∧ Rd w Q Y ∧
      nQ ≤ nP ∧ nP ≤ 16384 ∧ Hid (X.length = nP ∧ Y.length = nQ ∧ val X + val Y = val xs + val ys) ∧ ∃ o k, wr = (w.alloc o).drewN k)
    case first =>
      go_wp2
      all_goals go_meet
      case rel =>
        have hlt : wl xs < wl ys := by assumption
        obtain ⟨v1, v2, v3, v4⟩ := HV.out
        exact ⟨A', A, _, _, _, _, _, _, rfl, rfl, hy, hx, by omega, by omega, ⟨v2, v1, by rw [v3, v4, Nat.add_comm]⟩, _, _, rfl⟩
      case rel =>
        obtain ⟨v1, v2, v3, v4⟩ := HV.out
        exact ⟨A, A', _, _, _, _, _, _, rfl, rfl, hx, hy, by omega, by omega, ⟨v1, v2, by rw [v3, v4]⟩, _, _, rfl⟩
    case rest =>
      obtain ⟨P, Q, nP, cP, nQ, cQ, X, Y, rfl, rfl, hP, hQ, h1, h2, hXY, o, kd, rfl⟩ := hcut
      have hmk : ∀ W : World, (Instr.makeSlice 37 (.int .i64 ((nP : Int) + 1)) (.int .i64 ((nP : Int) + 1))).run Tryd.prog W = .ok (.slice (some ⟨W.heap.size, 0, none⟩) (nP + 1) (nP + 1)) (W.alloc (.cells (u32s (List.replicate (nP + 1) 0)).toArray 53)) :=
        fun W => run_make_u32 (nP + 1) (by omega) W
      have hB2 : Below w.heap.size w (w.alloc o) := hB1 o
      have HP := Lib.hid hP
      have HQ2 := Lib.hid hQ
      clear hP hQ h h' hA hA' hAd hAd' hB1 cut1 cut2 HX HY hx hy HV hlx hly HQ hm hm' hc hc' HL hlong'
      go_wp2
      go_loopw [7, 8, 9, 35] (fun cv _ _ i wr => ∃ (k cc : Nat) (L : List Nat), k ≤ nP ∧ i = .int .i64 k ∧ cv = .int .u32 cc ∧ cc ≤ 1 ∧ Blk wr (w.heap.size + 1) L ∧
        Hid (L.length = nP + 1 ∧ val (L.take k) + cc * 4294967296 ^ k = val (X.take k) + val (Y.take k)) ∧ Below w.heap.size w wr) (fun _ _ _ i _ => nP - (intOf i).toNat)
      case atStart => exact ⟨0, 0, List.replicate (nP + 1) 0, by omega, rfl, rfl, by omega, by
        have := Blk.made ((w.alloc o).drewN kd) (nP + 1)
        simpa using this, ⟨by simp, by simp⟩, (below_drewN hB2 kd).alloc (by simp) _⟩
      case round =>
        obtain ⟨k, cc, L, hk, rfl, rfl, hcc, hL, hI, hb⟩ := hrel
        have hlen := hI.out.1
        by_cases hkn : k < nP
        · have hXl : k < X.length := by rw [hXY.out.1]; exact hkn
          obtain ⟨b, o', rfl, hcx⟩ := (HP.out.below hb).cell hXl
          have hx32 := HP.out.1.getD k
          have hcl := hL.cell (i := k) (by omega)
          have hfz := hL.frozen k
          clear hlen hXl
          by_cases hkq : k < nQ
          · have hYl : k < Y.length := by rw [hXY.out.2.1]; exact hkq
            obtain ⟨b2, o2, rfl, hcy⟩ := (HQ2.out.below hb).cell hYl
            have hy32 := HQ2.out.1.getD k
            clear hYl
            obtain ⟨x, hgx⟩ : ∃ x, X.getD k 0 = x := ⟨_, rfl⟩
            obtain ⟨y, hgy⟩ : ∃ y, Y.getD k 0 = y := ⟨_, rfl⟩
            rw [hgx] at hcx hx32
            rw [hgy] at hcy hy32
            have HGX := Lib.hid hgx; clear hgx
            have HGY := Lib.hid hgy; clear hgy
            go_wp2_with (go_at_call 97; refine (add32_any _ _ _ (by omega) (by omega) (by omega) (by omega) (by omega) (by omega) _).mono ?_; rintro e w' ⟨rfl, rfl⟩)
            go_roundw
            case rel =>
              obtain ⟨hlen, hv⟩ := hI.out
              exact ⟨k + 1, (x + y + cc) / 4294967296, L.set k ((x + y + cc) % 4294967296), by omega, by go_num, by go_num, by omega, hL.setI k (by omega) (by omega) (by omega),
                ⟨by rw [List.length_set]; exact hlen, add_step L X Y k cc _ _ (by omega) hv (by rw [HGX.out, HGY.out]; omega)⟩, hb.setCell (by simp) _⟩
            case measure => simp [intOf]; omega
          · have hgy : Y.getD k 0 = 0 := getD_ge Y (by rw [hXY.out.2.1]; omega)
            obtain ⟨x, hgx⟩ : ∃ x, X.getD k 0 = x := ⟨_, rfl⟩
            rw [hgx] at hcx hx32
            have HGX := Lib.hid hgx; clear hgx
            have HGY := Lib.hid hgy; clear hgy
            go_wp2_with (go_at_call 97; refine (add32_any _ _ _ (by omega) (by omega) (by omega) (by omega) (by omega) (by omega) _).mono ?_; rintro e w' ⟨rfl, rfl⟩)
            go_roundw
            case rel =>
              obtain ⟨hlen, hv⟩ := hI.out
              exact ⟨k + 1, (x + cc) / 4294967296, L.set k ((x + cc) % 4294967296), by omega, by go_num, by go_num, by omega, hL.setI k (by omega) (by omega) (by omega),
                ⟨by rw [List.length_set]; exact hlen, add_step L X Y k cc _ _ (by omega) hv (by rw [HGX.out, HGY.out]; omega)⟩, hb.setCell (by simp) _⟩
            case measure => simp [intOf]; omega
        · obtain rfl : k = nP := by omega
          have hcl := hL.cell (i := k) (by omega)
          have hfz := hL.frozen k
          clear hlen
          have hcc0 : (cc : Int) < 4294967296 := by omega
          go_wp2_with fail
          refine (fit_any (w.heap.size + 1) (k + 1) (k + 1) (L.set k cc) _ (hL.set k (by omega)) (by rw [List.length_set]; exact hI.out.1) (Nat.le_refl _) (by omega)).mono ?_
          rintro e w' ⟨A1, rfl, ho, rfl⟩
          have hv : val (L.set k cc) = val xs + val ys := by
            obtain ⟨hlen, hv⟩ := hI.out
            obtain ⟨h1, h2, h3⟩ := hXY.out
            rw [← h3, ← List.take_of_length_le (l := L.set k cc) (i := k + 1) (by rw [List.length_set]; omega), val_take_set L k cc (by omega), Nat.mul_comm, hv,
              List.take_of_length_le (by omega), List.take_of_length_le (by omega)]
          rw [hv] at ho ⊢
          have HO := Lib.hid ho
          clear hv ho
          go_wp2
          go_ret2
          exact ⟨_, A1, by omega, rfl, HO.out, hb.setCell (by simp) _⟩
end Go.Proofs.YtiadjcilfljdaaaDoor
