/- Contracts of nat: mul, Mul. -/
import Derived.Test.YtcomkgmonhidhaaGreatDoorG23
import Derived.Deep.RegionWith
import Derived.Test.YtcomkgmonhidhaaGreatDoorG24
import Derived.Test.YtcomkgmonhidhaaGreatDoorG01
section
namespace Go.Proofs.YtcomkgmonhidhaaGreatDoor
set_option linter.unusedVariables false
set_option linter.unusedSimpArgs false
open Go.RowKit Verge

theorem run_cut_row (g N c l h : Nat) (hl : l ≤ h) (hh : h ≤ c) (hc : l < c) (W : World) : (Instr.slice 52 (.slice (some ⟨g, 0, none⟩) N c) (some (.int .i64 (l : Int))) (some (.int .i64 (h : Int))) none).run Tryz.prog W = .ok (.slice (some ⟨g, l, none⟩) (h - l) (c - l)) W := by
  rw [run_cut_lh W _ N c l h hl hh, cutA, if_neg (by omega)]
  simp [add_none]

set_option maxHeartbeats 1000000 in
/-- nat.mul. -/
theorem mulrow_any (A : Option Addr) (n c : Nat) (X : List Nat) (A' : Option Addr) (m c' : Nat) (Y : List Nat) (w : World)
    (h : Rd w A X) (hn : X.length = n) (hm : n + m ≤ 70368744177663) (h' : Rd w A' Y) (hn' : Y.length = m) :
    Calls Tryz.prog 88 #[.slice A n c, .slice A' m c'] w fun e w' => e = .returned (.slice (some ⟨w.heap.size, 0, none⟩) (n + m) (n + m)) ∧
      ∃ L, Blk w' w.heap.size L ∧ L.length = n + m ∧ val L = val X * val Y ∧ Below w.heap.size w w' := by
  have hmk : ∀ W : World, (Instr.makeSlice 52 (.int .i64 ((n : Int) + (m : Int))) (.int .i64 ((n : Int) + (m : Int)))).run Tryz.prog W = .ok (.slice (some ⟨W.heap.size, 0, none⟩) (n + m) (n + m)) (W.alloc (.cells (u32s (List.replicate (n + m) 0)).toArray 65)) :=
    fun W => run_make_u32 (n + m) (by omega) W
  have hR1 := Lib.hid (fun W (hb : Below w.heap.size w W) => h.below hb)
  have hR2 := Lib.hid (fun W (hb : Below w.heap.size w W) => h'.below hb)
  have HN := Lib.hid (And.intro hn hn')
  clear h h' hn hn'
  go_enter Tryz.func88, Tryz.ntmps88
  go_wp2
  go_loopw [6, 7, 8, 9, 10, 11, 20, 37] (fun _ _ _ _ _ _ jv _ wr => ∃ (j : Nat) (L : List Nat), j ≤ m ∧ jv = .int .i64 j ∧ Blk wr w.heap.size L ∧
    Hid (L.length = n + m ∧ val L = val X * val (Y.take j) ∧ ∀ p, j + n ≤ p → L.getD p 0 = 0) ∧ Below w.heap.size w wr) (fun _ _ _ _ _ _ jv _ _ => m - (intOf jv).toNat)
  case atStart => exact ⟨0, List.replicate (n + m) 0, by omega, rfl, Blk.made w (n + m), ⟨by simp, by rw [val_zeros]; simp, fun p _ => getD_zeros _ _⟩, (Below.refl _ w).alloc (Nat.le_refl _) _⟩
  case round =>
    obtain ⟨j, L, hj, rfl, hL, hI, hb⟩ := hrel
    by_cases hjm : j < m
    · obtain ⟨b, o, rfl, hcy⟩ := (hR2.out _ hb).cell (k := j) (by rw [HN.out.2]; exact hjm)
      have hy32 := (hR2.out _ hb).1.getD j
      obtain ⟨y, hgy⟩ : ∃ y, Y.getD j 0 = y := ⟨_, rfl⟩
      rw [hgy] at hcy hy32
      have HGY := Lib.hid hgy; clear hgy
      by_cases hy0 : y = 0
      · subst hy0
        go_wp2
        go_roundw
        case rel =>
          obtain ⟨h1, h2, h3⟩ := hI.out
          exact ⟨j + 1, L, by omega, by go_num, hL, ⟨h1, by rw [val_take_succ, HGY.out]; simpa using h2, fun p hp => h3 p (by omega)⟩, hb⟩
        case measure => simp [intOf]; omega
      · have hyb : ((y : Int) == 0) = false := by simpa using hy0
        have hcut : ∀ W : World, (Instr.slice 52 (.slice (some ⟨w.heap.size, 0, none⟩) (n + m) (n + m)) (some (.int .i64 (j : Int))) (some (.int .i64 ((j : Int) + (n : Int) + 1))) none).run Tryz.prog W = .ok (.slice (some ⟨w.heap.size, j, none⟩) (n + 1) (n + m - j)) W := fun W => by
          have := run_cut_row w.heap.size (n + m) (n + m) j (j + n + 1) (by omega) (by omega) (by omega) W
          rw [show j + n + 1 - j = n + 1 by omega] at this
          exact this
        go_wp2
        obtain ⟨wo, rfl⟩ : ∃ wo : World, wo = wr := ⟨_, rfl⟩
        obtain ⟨V0, hV0⟩ : ∃ V0, val L = V0 := ⟨_, rfl⟩
        have HV0 := Lib.hid hV0; clear hV0
        go_loopw [8, 10, 11, 37] (fun cv _ _ iv wr => ∃ (i cc : Nat) (L' : List Nat), i ≤ n ∧ iv = .int .i64 i ∧ cv = .int .u64 cc ∧ cc < 4294967296 ∧ Blk wr w.heap.size L' ∧
          Hid (L'.length = n + m ∧ val L' + cc * 4294967296 ^ (j + i) = V0 + y * val (X.take i) * 4294967296 ^ j ∧ ∀ p, j + n ≤ p → L'.getD p 0 = 0) ∧ Below w.heap.size w wr) (fun _ _ _ iv _ => n - (intOf iv).toNat)
        case atStart => exact ⟨0, 0, L, by omega, rfl, rfl, by omega, hL, ⟨hI.out.1, by simp [HV0.out], hI.out.2.2⟩, hb⟩
        case round =>
          clear hb hL hcy
          obtain ⟨i, cc, L', hi, rfl, rfl, hcc, hL', hI', hb⟩ := hrel
          have hlen := hI'.out.1
          have hcl := hL'.cell (i := j + i) (by omega)
          have hfz := hL'.frozen (j + i)
          have hu32 := hL'.1.getD (j + i)
          obtain ⟨u, hgu⟩ : ∃ u, L'.getD (j + i) 0 = u := ⟨_, rfl⟩
          rw [hgu] at hcl hu32
          have HGU := Lib.hid hgu; clear hgu
          clear hlen
          by_cases hin : i < n
          · obtain ⟨b2, o2, rfl, hcx⟩ := (hR1.out _ hb).cell (k := i) (by rw [HN.out.1]; exact hin)
            have hx32 := (hR1.out _ hb).1.getD i
            obtain ⟨x, hgx⟩ : ∃ x, X.getD i 0 = x := ⟨_, rfl⟩
            rw [hgx] at hcx hx32
            have HGX := Lib.hid hgx; clear hgx
            have hmul : x * y ≤ 4294967295 * 4294967295 := Nat.mul_le_mul (by omega) (by omega)
            obtain ⟨q, hq⟩ : ∃ q, x * y = q := ⟨_, rfl⟩
            have hqI : (x : Int) * (y : Int) = (q : Int) := by rw [← hq]; simp
            rw [hq] at hmul
            have HQ := Lib.hid hq; clear hq
            go_wp2
            go_roundw
            case rel =>
              obtain ⟨h1, h2, h3⟩ := hI'.out
              have hst := mul_inner L' X j i cc u ((cc + q + u) % 4294967296) ((cc + q + u) / 4294967296) V0 x y (by omega) HGU.out HGX.out h2 (by rw [HQ.out]; omega)
              exact ⟨i + 1, (cc + q + u) / 4294967296, L'.set (j + i) ((cc + q + u) % 4294967296), by omega, by go_num, by congr 1; omega, by omega, hL'.setI (j + i) (by omega) (by omega) (by omega),
                ⟨by rw [List.length_set]; exact h1, hst, fun p hp => by rw [Verge.getD_set_ne _ _ _ _ (by omega)]; exact h3 p hp⟩, hb.setCell (Nat.le_refl _) _⟩
            case measure => simp [intOf]; omega
          · obtain rfl : i = n := by omega
            go_wp2
            go_roundw
            case rel =>
              obtain ⟨h1, h2, h3⟩ := hI'.out
              have hst := mul_outer L' X Y j i cc V0 y (by omega) (h3 _ (Nat.le_refl _)) HN.out.1 HGY.out (by rw [← HV0.out]; exact hI.out.2.1) h2
              exact ⟨j + 1, L'.set (j + i) cc, by omega, by go_num, hL'.setI (j + i) (by omega) (by omega) (by omega),
                ⟨by rw [List.length_set]; exact h1, hst, fun p hp => by rw [Verge.getD_set_ne _ _ _ _ (by omega)]; exact h3 p (by omega)⟩, hb.setCell (Nat.le_refl _) _⟩
            case measure => simp [intOf]; omega
    · obtain rfl : j = m := by omega
      go_wp2
      go_ret
      obtain ⟨h1, h2, h3⟩ := hI.out
      exact ⟨rfl, L, hL, h1, by rw [h2, List.take_of_length_le (by have := HN.out.2; omega)], hb⟩

theorem Rd.drew' {w : World} {A : Option Addr} {xs : List Nat} (h : Rd w A xs) : Rd w.drew A xs := h

set_option maxHeartbeats 1000000 in
/-- nat.Mul. -/
theorem mul_any (A : Option Addr) (n c : Nat) (xs : List Nat) (A' : Option Addr) (n' c' : Nat) (ys : List Nat) (w : World)
    (h : Rd w A xs) (hn : xs.length = n) (hc : n ≤ c) (hm : n ≤ 70368744177664) (h' : Rd w A' ys) (hn' : ys.length = n') (hc' : n' ≤ c') (hm' : n' ≤ 70368744177664) :
    Calls Tryz.prog 52 #[.slice A n c, .slice A' n' c'] w fun e w' => ∃ g A1, w.heap.size ≤ g ∧
      e = .returned (.tuple #[.slice A1 (nmul (val xs) (val ys)).1.length (nmul (val xs) (val ys)).1.length, .int .i64 (nmul (val xs) (val ys)).2]) ∧
      Own w' g A1 (nmul (val xs) (val ys)).1 ∧ Below w.heap.size w w' := by
  have hA : ∀ (o : Obj), Rd (w.alloc o) A xs := fun o => h.keep (fun b o hb => World.cell?_alloc_lt w _ _ hb)
  have hA' : ∀ (o : Obj), Rd (w.alloc o) A' ys := fun o => h'.keep (fun b o hb => World.cell?_alloc_lt w _ _ hb)
  have hB1 : ∀ (o : Obj), Below w.heap.size w (w.alloc o) := fun o => (Below.refl _ w).alloc (Nat.le_refl _) o
  by_cases hlong : (long (val xs) || long (val ys)) = true
  · have hr : nmul (val xs) (val ys) = ([], 2) := by simp only [nmul, hlong, Bool.true_or, if_true]
    rw [hr]; clear hr
    go_enter Tryz.func52, Tryz.ntmps52
    go_wp2_with (go_at_call 55; refine (long2_any _ A n c xs A' n' c' ys _ (hA _) hn (by omega) (hA' _) hn' (by omega) (by simp [World.cell?_alloc_new]) (by simp [World.cell?_alloc_new])).mono ?_; rintro e w' ⟨rfl, rfl⟩)
    go_ret2
    exact ⟨w.heap.size, none, by omega, rfl, Own.nil _ _ _, hB1 _⟩
  · have hlong' : (long (val xs) || long (val ys)) = false := by simpa using hlong
    clear hlong
    have hlx : wl xs ≤ 16384 := by
      have := hlong'; rw [Bool.or_eq_false_iff, long_false, long_false, ← wl_eq h.1, ← wl_eq h'.1] at this; exact this.1
    have hly : wl ys ≤ 16384 := by
      have := hlong'; rw [Bool.or_eq_false_iff, long_false, long_false, ← wl_eq h.1, ← wl_eq h'.1] at this; exact this.2
    have HX := Lib.hid (fun W hW => words_any A n c xs W hW hn (by omega))
    have HY := Lib.hid (fun W hW => words_any A' n' c' ys W hW hn' (by omega))
    have HXL := Lib.hid (fun W hW => len_any A n c xs W hW hn (by omega))
    have HYL := Lib.hid (fun W hW => len_any A' n' c' ys W hW hn' (by omega))
    have HH := Lib.hid (And.intro hn hn')
    have hbx : blen (val xs) ≤ 524288 := by
      exact blen_le_words (by rw [← wl_eq h.1]; exact hlx)
    have hby : blen (val ys) ≤ 524288 := by
      exact blen_le_words (by rw [← wl_eq h'.1]; exact hly)
    by_cases hbl : 524289 < blen (val xs) + blen (val ys)
    · have hr : nmul (val xs) (val ys) = ([], 2) := by simp [nmul, hlong', hbl]
      rw [hr]; clear hr hn hn'
      go_enter Tryz.func52, Tryz.ntmps52
      go_wp2_with (first
        | (go_at_call 55; refine (long2_any _ A n c xs A' n' c' ys _ (hA _) HH.out.1 (by omega) (hA' _) HH.out.2 (by omega) (by simp [World.cell?_alloc_new]) (by simp [World.cell?_alloc_new])).mono ?_; rintro e w' ⟨rfl, rfl⟩)
        | (go_at_call 65; with_reducible refine (HXL.out _ (hA _)).mono ?_; rintro e w' ⟨rfl, rfl⟩)
        | (go_at_call 65; with_reducible refine (HYL.out _ (hA' _)).mono ?_; rintro e w' ⟨rfl, rfl⟩))
      go_ret2
      exact ⟨w.heap.size, none, by omega, rfl, Own.nil _ _ _, hB1 _⟩
    · have hr : nmul (val xs) (val ys) = fit (val xs * val ys) := by simp [nmul, hlong', hbl]
      rw [hr]; clear hr
      have hwn : wl xs ≤ n ∧ wl ys ≤ n' := by have := wl_le xs; have := wl_le ys; omega
      have cut1 := fun W => run_cut_h W A n c (wl xs) (by omega)
      have cut2 := fun W => run_cut_h W A' n' c' (wl ys) (by omega)
      have HV := Lib.hid (And.intro (show (xs.take (wl xs)).length = wl xs from length_norm xs) (And.intro (show val (xs.take (wl xs)) = val xs from val_norm xs) (And.intro (show (ys.take (wl ys)).length = wl ys from length_norm ys) (show val (ys.take (wl ys)) = val ys from val_norm ys))))
      have HAd := Lib.hid (fun (o : Obj) => Rd.drew' (hA o))
      have HAd' := Lib.hid (fun (o : Obj) => Rd.drew' (hA' o))
      have HBd := Lib.hid (fun (o : Obj) => (hB1 o).drew)
      clear hn hn'
      go_enter Tryz.func52, Tryz.ntmps52
      go_wp2_with (first
        | (go_at_call 55; refine (long2_any _ A n c xs A' n' c' ys _ (hA _) HH.out.1 (by omega) (hA' _) HH.out.2 (by omega) (by simp [World.cell?_alloc_new]) (by simp [World.cell?_alloc_new])).mono ?_; rintro e w' ⟨rfl, rfl⟩)
        | (go_at_call 65; with_reducible refine (HXL.out _ (hA _)).mono ?_; rintro e w' ⟨rfl, rfl⟩)
        | (go_at_call 65; with_reducible refine (HYL.out _ (hA' _)).mono ?_; rintro e w' ⟨rfl, rfl⟩))
      have HM := Lib.hid (fun W (hW : Rd W A xs) (hW' : Rd W A' ys) => mulrow_any A (wl xs) c (xs.take (wl xs)) A' (wl ys) c' (ys.take (wl ys)) W (hW.take _) HV.out.1 (by omega) (hW'.take _) HV.out.2.2.1)
      go_region_with (first
        | (go_at_call 54; with_reducible refine (HX.out _ (HAd.out _)).mono ?_; rintro e w' ⟨rfl, rfl⟩)
        | (go_at_call 54; with_reducible refine (HY.out _ (HAd'.out _)).mono ?_; rintro e w' ⟨rfl, rfl⟩)
        | (go_at_call 88; refine (HM.out _ (HAd.out _) (HAd'.out _)).mono ?_; rintro e w2 ⟨rfl, L, hL, hlen, hv, hb⟩; have hL2 : Blk w2 (w.heap.size + 1) L := (by simpa using hL); have hb2 : Below w.heap.size w w2 := (HBd.out _).trans (hb.mono (by simp)); have HL := Lib.hid (And.intro hL2 (And.intro hlen hv)); clear hL hL2 hlen hv hb)
        | (go_at_call 68; refine (fit_any (w.heap.size + 1) _ _ L _ HL.out.1 HL.out.2.1 (Nat.le_refl _) (by omega)).mono ?_; rintro e w' ⟨A1, rfl, ho, rfl⟩))
      all_goals
        have hvl : val L = val xs * val ys := by rw [HL.out.2.2, HV.out.2.1, HV.out.2.2.2]
        rw [hvl] at ho ⊢
        have HO := Lib.hid ho
        clear hvl ho
        go_wp2
        go_ret2
        exact ⟨_, A1, by omega, rfl, HO.out, hb2⟩
end Go.Proofs.YtcomkgmonhidhaaGreatDoor
end

section
namespace Go.Proofs.YtcomkgmonhidhaaGreatDoor
set_option linter.unusedVariables false
set_option linter.unusedSimpArgs false
open Go.RowKit Verge

set_option maxHeartbeats 1000000 in
/-- nat.one. -/
theorem one_any (A : Option Addr) (n c : Nat) (X : List Nat) (y : Nat) (w : World) (h : Rd w A X) (hn : X.length = n) (hm : n ≤ 70368744177663) (hy0 : 0 < y) (hy : y < 4294967296) :
    Calls Tryz.prog 58 #[.slice A n c, .int .u64 (y : Int)] w fun e w' => ∃ A1 A2 g2,
      e = .returned (.tuple #[.slice A1 (dig (val X / y)).length (dig (val X / y)).length, .slice A2 (dig (val X % y)).length (dig (val X % y)).length, .int .i64 0]) ∧
      Own w' w.heap.size A1 (dig (val X / y)) ∧ w.heap.size < g2 ∧ Own w' g2 A2 (dig (val X % y)) ∧ Below w.heap.size w w' := by
  have hmk : ∀ W : World, (Instr.makeSlice 52 (.int .i64 (n : Int)) (.int .i64 (n : Int))).run Tryz.prog W = .ok (.slice (some ⟨W.heap.size, 0, none⟩) n n) (W.alloc (.cells (u32s (List.replicate n 0)).toArray 65)) :=
    fun W => run_make_u32 n (by omega) W
  have hR1 := Lib.hid (fun W (hb : Below w.heap.size w W) => h.below hb)
  have HN := Lib.hid hn
  clear h hn
  go_enter Tryz.func58, Tryz.ntmps58
  go_wp2
  go_loopw [7, 8, 9, 15] (fun rv _ _ iv wr => ∃ (i r : Nat) (Q : List Nat), i ≤ n ∧ iv = .int .i64 i ∧ rv = .int .u64 r ∧ r < y ∧ Blk wr w.heap.size Q ∧
    Hid (Q.length = n ∧ val (X.drop (n - i)) = y * val (Q.drop (n - i)) + r) ∧ Below w.heap.size w wr) (fun _ _ _ iv _ => n - (intOf iv).toNat)
  case atStart => exact ⟨0, 0, List.replicate n 0, by omega, rfl, rfl, hy0, Blk.made w n, ⟨by simp, by
    rw [Nat.sub_zero, List.drop_of_length_le (by rw [HN.out]; omega), List.drop_of_length_le (by simp)]; simp⟩, (Below.refl _ w).alloc (Nat.le_refl _) _⟩
  case round =>
    obtain ⟨i, r, Q, hi, rfl, rfl, hr, hQ, hI, hb⟩ := hrel
    by_cases hin : i < n
    · obtain ⟨j, rfl⟩ : ∃ j, n = j + 1 + i := ⟨n - 1 - i, by omega⟩
      obtain ⟨b2, o2, rfl, hcx⟩ := (hR1.out _ hb).cell (k := j) (by rw [HN.out]; omega)
      have hx32 := (hR1.out _ hb).1.getD j
      obtain ⟨x, hgx⟩ : ∃ x, X.getD j 0 = x := ⟨_, rfl⟩
      rw [hgx] at hcx hx32
      have HGX := Lib.hid hgx; clear hgx
      have hlen := hI.out.1
      have hcl := hQ.cell (i := j) (by omega)
      have hfz := hQ.frozen j
      clear hlen
      obtain ⟨t, ht⟩ : ∃ t, x + 4294967296 * r = t := ⟨_, rfl⟩
      have hor : bits .or .u64 ((r : Int) * 4294967296) (x : Int) = (t : Int) := by rw [or_hi' x r hx32 (by omega), ht]
      have htb : t < 18446744073709551616 := by omega
      have htq : t / y < 4294967296 := by
        rw [Nat.div_lt_iff_lt_mul hy0]
        have : 4294967296 * (r + 1) ≤ 4294967296 * y := Nat.mul_le_mul_left _ hr
        omega
      obtain ⟨q, hq⟩ : ∃ q, t / y = q := ⟨_, rfl⟩
      obtain ⟨r', hr'⟩ : ∃ r', t % y = r' := ⟨_, rfl⟩
      have hqI : (t : Int) / (y : Int) = (q : Int) := by rw [← hq]; simp
      have hrI : (t : Int) % (y : Int) = (r' : Int) := by rw [← hr']; simp
      have hr'y : r' < y := by rw [← hr']; exact Nat.mod_lt _ hy0
      rw [hq] at htq
      have HT := Lib.hid (And.intro ht (show t = y * q + r' by rw [← hq, ← hr']; exact (Nat.div_add_mod t y).symm))
      clear ht hq hr'
      go_wp2
      have HRI := Lib.hid hrI
      clear hor hqI hrI
      go_roundw
      case rel =>
        obtain ⟨h1, h2⟩ := hI.out
        obtain ⟨t1, t2⟩ := HT.out
        rw [show j + 1 + i - i = j + 1 by omega] at h2
        have hst := one_step Q X j x r t q r' y (by omega) HGX.out h2 t1.symm t2
        exact ⟨i + 1, r', Q.set j q, by omega, by go_num, by rw [HRI.out], hr'y, hQ.set j htq, ⟨by rw [List.length_set]; exact h1, by rw [show j + 1 + i - (i + 1) = j by omega]; exact hst⟩, hb.setCell (Nat.le_refl _) _⟩
      case measure => simp [intOf]; omega
    · obtain rfl : i = n := by omega
      obtain ⟨h1, h2⟩ := hI.out
      rw [Nat.sub_self, List.drop_zero, List.drop_zero] at h2
      have hq : val X / y = val Q := by
        rw [h2, Nat.mul_add_div hy0, Nat.div_eq_of_lt hr, Nat.add_zero]
      have hr2 : val X % y = r := by
        rw [h2, Nat.mul_add_mod, Nat.mod_eq_of_lt hr]
      have HQR := Lib.hid (And.intro hq hr2)
      have hwl : wl Q = (dig (val Q)).length := wl_eq hQ.1
      have ho := hQ.own (wl Q) (wl_le Q)
      have hd : Q.take (wl Q) = dig (val Q) := (dig_val hQ.1).symm
      rw [hd] at ho
      have HQ := Lib.hid (And.intro hQ.rd (And.intro h1 (And.intro hwl ho)))
      have hlt := hQ.lt
      clear hq hr2 hwl ho hd h1 h2
      go_wp2_with fail
      refine (cut_any _ i i Q _ HQ.out.1 HQ.out.2.1 (Nat.le_refl _) (by omega)).mono ?_
      rintro e w' ⟨rfl, rfl⟩
      rw [HQ.out.2.2.1]
      go_wp2_with fail
      refine (small_any (r : Int) wr (by omega) (by omega)).mono ?_
      rintro e w' ⟨g2, A2, hg, rfl, ho2, hb2⟩
      rw [Int.toNat_natCast] at ho2 ⊢
      have HO := Lib.hid (And.intro ho2 (HQ.out.2.2.2.later hb2))
      clear ho2
      go_wp2
      go_ret3
      rw [HQR.out.1, HQR.out.2]
      exact ⟨_, A2, g2, rfl, HO.out.2, by omega, HO.out.1, hb.trans (hb2.mono (by omega))⟩
end Go.Proofs.YtcomkgmonhidhaaGreatDoor
end
