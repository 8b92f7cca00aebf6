/- Worlds that grew by rows: what NatD and NatFS share. -/
import Derived.Test.YtcomkgmonhidhaaGreatDoorG23
import Derived.Test.YtcomkgmonhidhaaGreatDoorG01
import Derived.Test.YtcomkgmonhidhaaGreatDoorG02
import Derived.Test.YtcomkgmonhidhaaGreatDoorG06
section
namespace Go.Proofs.YtcomkgmonhidhaaGreatDoor
set_option linter.unusedVariables false
set_option linter.unusedSimpArgs false
open Go.RowKit Verge

theorem grownBy_refl (w : World) (row : Option Nat) : w.grownBy w row := ⟨rfl, rfl, rfl, Nat.le_refl _, fun _ _ _ => rfl⟩
theorem grownBy_trans {a b c : World} {row : Option Nat} (h : a.grownBy b row) (k : b.grownBy c row) : a.grownBy c row :=
  ⟨k.os.trans h.os, k.tape.trans h.tape, k.output.trans h.output, Nat.le_trans h.size k.size, fun i hi hne => (k.block i (Nat.lt_of_lt_of_le hi h.size) hne).trans (h.block i hi hne)⟩
theorem grownBy_set {a w : World} {g : Nat} (h : a.grownBy w (some g)) (i : Nat) (u : Value) : a.grownBy (w.setCell ⟨g, i, none⟩ u) (some g) :=
  grownBy_trans h ⟨rfl, rfl, rfl, by simp [World.setCell], fun k hk hne => Below.heap_setCell w _ u k (by rintro rfl; exact hne rfl)⟩
theorem grownBy_drewN {a w : World} {row : Option Nat} (h : a.grownBy w row) (n : Nat) : a.grownBy (w.drewN n) row := ⟨h.os, h.tape, h.output, h.size, h.block⟩
theorem grownBy_alloc {a w : World} {row : Option Nat} (h : a.grownBy w row) (o : Obj) : a.grownBy (w.alloc o) row := grownBy_trans h (World.grownBy_alloc w o row)
theorem grownBy_below {a w : World} {row : Option Nat} (h : Below a.heap.size a w) : a.grownBy w row := ⟨h.os, h.tape, h.output, h.size, fun i hi _ => h.block i hi⟩
end Go.Proofs.YtcomkgmonhidhaaGreatDoor

/- Contracts of nat: shift, back. -/
namespace Go.Proofs.YtcomkgmonhidhaaGreatDoor
set_option linter.unusedVariables false
set_option linter.unusedSimpArgs false
open Go.RowKit Verge

set_option maxHeartbeats 1000000 in
/-- nat.shift. -/
theorem shift_any (A : Option Addr) (n c : Nat) (X : List Nat) (s : Nat) (w : World) (h : Rd w A X) (hn : X.length = n) (hm : n ≤ 70368744177663) (hs : s < 32) :
    Calls Tryz.prog 60 #[.slice A n c, .int .i64 (s : Int)] w fun e w' => e = .returned (.slice (some ⟨w.heap.size, 0, none⟩) (n + 1) (n + 1)) ∧
      ∃ L, Blk w' w.heap.size L ∧ L.length = n + 1 ∧ val L = val X * 2 ^ s ∧ Below w.heap.size w w' := by
  have hmk : ∀ W : World, (Instr.makeSlice 52 (.int .i64 ((n : Int) + 1)) (.int .i64 ((n : Int) + 1))).run Tryz.prog W = .ok (.slice (some ⟨W.heap.size, 0, none⟩) (n + 1) (n + 1)) (W.alloc (.cells (u32s (List.replicate (n + 1) 0)).toArray 65)) :=
    fun W => run_make_u32 (n + 1) (by omega) W
  have hR1 := Lib.hid (fun W (hb : Below w.heap.size w W) => h.below hb)
  have HN := Lib.hid hn
  clear h hn
  have h2s : 2 ^ s ≤ 2147483648 := by
    have := Nat.pow_le_pow_right (n := 2) (by omega) (show s ≤ 31 by omega)
    simpa using this
  go_enter Tryz.func60, Tryz.ntmps60
  go_wp2
  go_loopw [6, 7, 8, 15] (fun cv _ _ iv wr => ∃ (i cc : Nat) (L : List Nat), i ≤ n ∧ iv = .int .i64 i ∧ cv = .int .u64 cc ∧ cc < 2147483648 ∧ Blk wr w.heap.size L ∧
    Hid (cc < 2 ^ s ∧ L.length = n + 1 ∧ val (L.take i) + cc * 4294967296 ^ i = val (X.take i) * 2 ^ s) ∧ Below w.heap.size w wr) (fun _ _ _ iv _ => n - (intOf iv).toNat)
  case atStart => exact ⟨0, 0, List.replicate (n + 1) 0, by omega, rfl, rfl, by omega, Blk.made w (n + 1), ⟨Nat.pow_pos (by omega), by simp, by simp⟩, (Below.refl _ w).alloc (Nat.le_refl _) _⟩
  case round =>
    obtain ⟨i, cc, L, hi, rfl, rfl, hcc, hL, hI, hb⟩ := hrel
    have hlen := hI.out.2.1
    have hcl := hL.cell (i := i) (by omega)
    have hfz := hL.frozen i
    clear hlen
    by_cases hin : i < n
    · obtain ⟨b2, o2, rfl, hcx⟩ := (hR1.out _ hb).cell (k := i) (by rw [HN.out]; exact hin)
      have hx32 := (hR1.out _ hb).1.getD i
      obtain ⟨x, hgx⟩ : ∃ x, X.getD i 0 = x := ⟨_, rfl⟩
      rw [hgx] at hcx hx32
      have HGX := Lib.hid hgx; clear hgx
      obtain ⟨q, hq⟩ : ∃ q, x * 2 ^ s = q := ⟨_, rfl⟩
      have hqb : q ≤ 4294967295 * 2147483648 := by rw [← hq]; exact Nat.mul_le_mul (by omega) h2s
      have hw1 : IntKind.u64.wrap ((x : Int) * 2 ^ s) = (q : Int) := by
        rw [show ((x : Int) * 2 ^ s) = ((x * 2 ^ s : Nat) : Int) by simp, hq, IntKind.wrap_u64]; omega
      have hw2 : bits .or .u64 (cc : Int) (q : Int) = ((cc : Int) + (q : Int)) := by
        rw [or_u64 cc q s hI.out.1 (by rw [← hq]; exact Nat.mul_mod_left _ _) (by omega)]; simp
      have HQ := Lib.hid hq; clear hq
      go_wp2
      clear hw1 hw2
      go_roundw
      case rel =>
        obtain ⟨h1, h2, h3⟩ := hI.out
        have hq2 := HQ.out
        have hq3 : q + 2 ^ s ≤ 4294967296 * 2 ^ s := by
          rw [← hq2, ← Nat.succ_mul]; exact Nat.mul_le_mul_right _ (by omega)
        exact ⟨i + 1, (cc + q) / 4294967296, L.set i ((cc + q) % 4294967296), by omega, by go_num, by congr 1, by omega, hL.setI i (by omega) (by omega) (by omega),
          ⟨by rw [Nat.div_lt_iff_lt_mul (by omega)]; omega, by rw [List.length_set]; exact h2, shift_step L X i cc x s _ _ (by omega) HGX.out h3 (by rw [hq2]; omega)⟩, hb.setCell (Nat.le_refl _) _⟩
      case measure => simp [intOf]; omega
    · obtain rfl : i = n := by omega
      go_wp2
      go_ret
      obtain ⟨h1, h2, h3⟩ := hI.out
      have hv : val (L.set i cc) = val X * 2 ^ s := by
        rw [← List.take_of_length_le (l := L.set i cc) (i := i + 1) (by rw [List.length_set]; omega), val_take_set L i cc (by omega), Nat.mul_comm (_ ^ _), h3,
          List.take_of_length_le (by rw [HN.out]; omega)]
      exact ⟨rfl, L.set i cc, hL.setI i (by omega) (by omega) (by omega), by rw [List.length_set]; exact h2, hv, hb.setCell (Nat.le_refl _) _⟩

set_option maxHeartbeats 1000000 in
/-- nat.back: a row of the call's own (its first nl words), moved down in place. -/
theorem back_any (g nl cl : Nat) (L : List Nat) (s : Nat) (w : World) (hL : Blk w g L) (hl : nl ≤ L.length) (hc : nl ≤ cl) (hm : cl ≤ 70368744177663) (hs : s < 32) :
    Calls Tryz.prog 63 #[.slice (some ⟨g, 0, none⟩) nl cl, .int .i64 (s : Int)] w fun e w' => ∃ A, e = .returned (.slice A (dig (val (L.take nl) / 2 ^ s)).length (dig (val (L.take nl) / 2 ^ s)).length) ∧
      Own w' g A (dig (val (L.take nl) / 2 ^ s)) ∧ w.grownBy w' (some g) := by
  obtain ⟨T, hT⟩ : ∃ T, L.take nl = T := ⟨_, rfl⟩
  have hT32 : W32 T := by rw [← hT]; exact hL.1.take nl
  have hTl : T.length = nl := by rw [← hT, List.length_take]; omega
  have hTg : ∀ k, k < nl → L.getD k 0 = T.getD k 0 := fun k hk => by rw [← hT, getD_take _ _ _ hk]
  have hTz : T.getD nl 0 = 0 := getD_ge T (by omega)
  rw [hT]
  obtain ⟨N, hN⟩ : ∃ N, val T = N := ⟨_, rfl⟩
  have HT := Lib.hid (And.intro hT32 (And.intro hTl (And.intro hTg (And.intro hTz hN))))
  rw [hN]
  have HL := Lib.hid hL
  have h2s : 0 < 2 ^ s := Nat.pow_pos (by omega)
  clear hT hT32 hTl hTg hTz hN hL
  go_enter Tryz.func63, Tryz.ntmps63
  go_wp2
  go_loopw [5, 6, 9] (fun _ _ iv wr => ∃ (i : Nat) (L' : List Nat), i ≤ nl ∧ iv = .int .i64 i ∧ Blk wr g L' ∧
    Hid (L'.length = L.length ∧ val (L'.take i) = N / 2 ^ s % 4294967296 ^ i ∧ L'.drop i = L.drop i) ∧ w.grownBy wr (some g)) (fun _ _ iv _ => nl - (intOf iv).toNat)
  case atStart => exact ⟨0, L, by omega, rfl, HL.out, ⟨rfl, by simp [Nat.mod_one], rfl⟩, grownBy_refl _ _⟩
  case round =>
    obtain ⟨i, L', hi, rfl, hL', hI, hG⟩ := hrel
    have hlen := hI.out.1
    by_cases hin : i < nl
    · have hcl := hL'.cell (i := i) (by omega)
      have hfz := hL'.frozen i
      have hx32 := hL'.1.getD i
      obtain ⟨x, hgx⟩ : ∃ x, L'.getD i 0 = x := ⟨_, rfl⟩
      rw [hgx] at hcl hx32
      have hxT : T.getD i 0 = x := by
        rw [← HT.out.2.2.1 i hin, ← hgx]
        have h1 := getD_drop L' i 0
        have h2 := getD_drop L i 0
        rw [Nat.add_zero] at h1 h2
        rw [← h1, ← h2, hI.out.2.2]
      have HGX := Lib.hid (And.intro hgx hxT); clear hgx hxT
      by_cases hin1 : i + 1 < nl
      · have hcl2 := hL'.cell (i := i + 1) (by omega)
        have hy32 := hL'.1.getD (i + 1)
        obtain ⟨y, hgy⟩ : ∃ y, L'.getD (i + 1) 0 = y := ⟨_, rfl⟩
        rw [hgy] at hcl2 hy32
        have hyT : T.getD (i + 1) 0 = y := by
          rw [← HT.out.2.2.1 (i + 1) hin1, ← hgy]
          have h1 := getD_drop L' i 1
          have h2 := getD_drop L i 1
          rw [← h1, ← h2, hI.out.2.2]
        have HGY := Lib.hid (And.intro hgy hyT); clear hgy hyT hlen
        go_wp2
        go_roundw
        case rel =>
          obtain ⟨h1, h2, h3⟩ := hI.out
          have e : bits .or .u64 (x : Int) ((y : Int) * 4294967296) / 2 ^ s % 4294967296 = (((x + 4294967296 * y) / 2 ^ s % 4294967296 : Nat) : Int) := by rw [or_hi x y hx32 hy32]; simp
          rw [e]
          have hst := back_step L' T HT.out.1 i s ((x + 4294967296 * y) / 2 ^ s % 4294967296) (by omega) (by omega) (by rw [HGX.out.2, HGY.out.2]) (by rw [HT.out.2.2.2.2]; exact h2)
          exact ⟨i + 1, L'.set i ((x + 4294967296 * y) / 2 ^ s % 4294967296), by omega, by go_num, hL'.set i (Nat.mod_lt _ (by omega)),
            ⟨by rw [List.length_set]; exact h1, by rw [← HT.out.2.2.2.2]; exact hst, by
              rw [drop_set_gt L' i (i + 1) _ (by omega)]
              have := congrArg (List.drop 1) h3
              rwa [List.drop_drop, List.drop_drop] at this⟩, grownBy_set hG _ _⟩
        case measure => simp [intOf]; omega
      · obtain rfl : nl = i + 1 := by omega
        clear hlen
        go_wp2
        go_roundw
        case rel =>
          obtain ⟨h1, h2, h3⟩ := hI.out
          have e : (x : Int) / 2 ^ s % 4294967296 = ((x / 2 ^ s % 4294967296 : Nat) : Int) := by simp
          rw [e]
          have hst := back_step L' T HT.out.1 i s (x / 2 ^ s % 4294967296) (by omega) (by omega) (by rw [HGX.out.2, HT.out.2.2.2.1]; simp) (by rw [HT.out.2.2.2.2]; exact h2)
          exact ⟨i + 1, L'.set i (x / 2 ^ s % 4294967296), by omega, by go_num, hL'.set i (Nat.mod_lt _ (by omega)),
            ⟨by rw [List.length_set]; exact h1, by rw [← HT.out.2.2.2.2]; exact hst, by
              rw [drop_set_gt L' i (i + 1) _ (by omega)]
              have := congrArg (List.drop 1) h3
              rwa [List.drop_drop, List.drop_drop] at this⟩, grownBy_set hG _ _⟩
        case measure => simp [intOf]
    · obtain rfl : i = nl := by omega
      have hv : val (L'.take i) = N / 2 ^ s := by
        rw [hI.out.2.1]
        apply Nat.mod_eq_of_lt
        have h1 := val_lt HT.out.1
        rw [HT.out.2.1, HT.out.2.2.2.2] at h1
        exact Nat.lt_of_le_of_lt (Nat.div_le_self _ _) h1
      have hR := hL'.rd.take i
      have hlt : (L'.take i).length = i := by rw [List.length_take]; omega
      have hw := wl_le (L'.take i)
      have ho := hL'.own (wl (L'.take i)) (by omega)
      have hd : L'.take (wl (L'.take i)) = dig (N / 2 ^ s) := by
        rw [← hv, dig_val (hL'.1.take i), norm, List.take_take, Nat.min_eq_left (by omega)]
      have hwl : wl (L'.take i) = (dig (N / 2 ^ s)).length := by rw [wl_eq (hL'.1.take i), hv]
      rw [hd] at ho
      have HR := Lib.hid (And.intro hR (And.intro hlt (And.intro hwl ho)))
      clear hR hlt hwl ho hd hw hlen hv
      go_wp2_with fail
      refine (cut_any _ i cl (L'.take i) _ HR.out.1 HR.out.2.1 hc (by omega)).mono ?_
      rintro e w' ⟨rfl, rfl⟩
      rw [HR.out.2.2.1]
      go_wp2
      go_ret
      exact ⟨_, rfl, HR.out.2.2.2, hG⟩
end Go.Proofs.YtcomkgmonhidhaaGreatDoor
end

section
namespace Go.Proofs.YtcomkgmonhidhaaGreatDoor
set_option linter.unusedVariables false
set_option linter.unusedSimpArgs false
open Go.RowKit Verge

set_option maxHeartbeats 1000000 in
/-- nat.up. -/
theorem up_any (A : Option Addr) (n c : Nat) (X : List Nat) (e : Nat) (w : World) (h : Rd w A X) (hn : X.length = n) (hm : e / 32 + n + 1 ≤ 70368744177663) :
    Calls Tryz.prog 66 #[.slice A n c, .int .i64 (e : Int)] w fun e' w' => ∃ A1, e' = .returned (.slice A1 (dig (val X * 2 ^ e)).length (dig (val X * 2 ^ e)).length) ∧
      Own w' w.heap.size A1 (dig (val X * 2 ^ e)) ∧ Below w.heap.size w w' := by
  obtain ⟨k, hk⟩ : ∃ k, e / 32 = k := ⟨_, rfl⟩
  obtain ⟨r, hr⟩ : ∃ r, e % 32 = r := ⟨_, rfl⟩
  have hkI : (e : Int) / 32 = (k : Int) := by omega
  have hrI : (e : Int) % 32 = (r : Int) := by omega
  have hr32 : r < 32 := by omega
  rw [hk] at hm
  have hmk : ∀ W : World, (Instr.makeSlice 52 (.int .i64 (k : Int)) (.int .i64 ((k : Int) + (n : Int) + 1))).run Tryz.prog W = .ok (.slice (some ⟨W.heap.size, 0, none⟩) k (k + n + 1)) (W.alloc (.cells (u32s (List.replicate (k + n + 1) 0)).toArray 65)) := fun W => by
    have := run_make_u32c k (k + n + 1) (by omega) (by omega) W
    exact this
  have hS := fun W hW => shift_any A n c X r W hW hn (by omega) hr32
  have HS := Lib.hid hS
  have HR := Lib.hid (fun o => (h.keep (fun b o' hb => World.cell?_alloc_lt w o _ hb) : Rd (w.alloc o) A X))
  have HE := Lib.hid (And.intro hk hr)
  have he : e ≤ 9223372036854775807 := by omega
  clear hS hk hr h
  go_enter Tryz.func66, Tryz.ntmps66
  go_wp2_with fail
  refine (HS.out _ (HR.out _)).mono ?_
  rintro e' w2 ⟨rfl, S, hB, hl, hv, hb⟩
  have hS2 : Blk w2 (w.heap.size + 1) S := by simpa using hB
  have hZ : Blk w2 w.heap.size (List.replicate (k + n + 1) 0) := (Blk.made w (k + n + 1)).later hb
  have hb2 : Below w.heap.size w w2 := ((Below.refl _ w).alloc (Nat.le_refl _) _).trans (hb.mono (by simp))
  have H2 := Lib.hid (And.intro hS2 (And.intro hl (And.intro hv hZ)))
  clear hB hl hv hS2 hZ hb hkI hrI
  go_wp2_with (refine wpList_append_u32 rfl (.tmp 15) (.tmp 19) rfl w.heap.size k (k + n + 1) (w.heap.size + 1) (n + 1) (n + 1) S _ rfl rfl H2.out.2.2.2 (by simp) H2.out.1 H2.out.2.1 (by omega) ?_; intro w3 hB3 hG3)
  obtain ⟨u1, u2⟩ := up_row S k n r (val X) e H2.out.2.1 H2.out.2.2.1 HE.out.1 HE.out.2
  have hb3 : Below w.heap.size w w3 := hb2.grown hG3 hb2.size (by intro q hq; injection hq; omega)
  obtain ⟨T, hT⟩ : ∃ T, (List.replicate (k + n + 1) 0).take k ++ S ++ (List.replicate (k + n + 1) 0).drop (k + (n + 1)) = T := ⟨_, rfl⟩
  rw [hT] at hB3 u1 u2
  have ho := hB3.own (wl T) (wl_le T)
  rw [show T.take (wl T) = dig (val T) from (dig_val hB3.1).symm, u2] at ho
  have hc := cut_any (some ⟨w.heap.size, 0, none⟩) (k + (n + 1)) (k + n + 1) T w3 hB3.rd u1 (by omega) (by omega)
  rw [wl_eq hB3.1, u2] at hc
  have HC := Lib.hid hc
  have HO := Lib.hid ho
  clear ho hc u1 u2 hT hB3 hG3
  refine HC.out.mono ?_
  rintro e' w' ⟨rfl, rfl⟩
  go_wp2
  go_ret
  exact ⟨_, rfl, HO.out, hb3⟩

set_option maxHeartbeats 1000000 in
/-- nat.Shl. -/
theorem shl_any (A : Option Addr) (n c : Nat) (xs : List Nat) (e : Int) (w : World) (h : Rd w A xs) (hn : xs.length = n) (hc : n ≤ c) (hm : n ≤ 70368744177663) (he0 : -9223372036854775808 ≤ e) (he1 : e ≤ 9223372036854775807) :
    Calls Tryz.prog 32 #[.slice A n c, .int .i64 e] w fun e' w' => ∃ g A1, w.heap.size ≤ g ∧
      e' = .returned (.tuple #[.slice A1 (nshl (val xs) e).1.length (nshl (val xs) e).1.length, .int .i64 (nshl (val xs) e).2]) ∧
      Own w' g A1 (nshl (val xs) e).1 ∧ Below w.heap.size w w' := by
  by_cases hneg : e < 0
  · have hr : nshl (val xs) e = ([], 1) := by simp only [nshl, hneg, if_true]
    rw [hr]
    clear hr
    go_enter Tryz.func32, Tryz.ntmps32
    go_wp2
    go_ret2
    exact ⟨w.heap.size, none, by omega, rfl, Own.nil _ _ _, Below.refl _ w⟩
  · have hle := wl_le xs
    have cut1 := fun W => run_cut_h W A n c (wl xs) (by omega)
    have HX := Lib.hid (fun W hW => words_any A n c xs W hW hn (by omega))
    have hV1 := (show (xs.take (wl xs)).length = wl xs from length_norm xs)
    have hV2 := (show val (xs.take (wl xs)) = val xs from val_norm xs)
    have hL := long1_any (w.heap.size) A (wl xs) c (xs.take (wl xs))
    rw [hV2] at hL
    have HL := Lib.hid hL
    have HT := Lib.hid (fun (o : Obj) => (h.keep (fun b o' hb => World.cell?_alloc_lt w o _ hb) : Rd (w.alloc o) A xs))
    have HB := Lib.hid (fun (o : Obj) => ((Below.refl _ w).alloc (Nat.le_refl _) o : Below w.heap.size w (w.alloc o)))
    have HV := Lib.hid (And.intro hV1 (And.intro hV2 h))
    have hN : wl xs ≤ 70368744177663 := by omega
    by_cases hlong : long (val xs) = true
    · have hr : nshl (val xs) e = ([], 2) := by simp only [nshl, hneg, hlong, if_true, if_false]
      rw [hr]
      clear hr hn hL hV1 hV2 hle h
      go_enter Tryz.func32, Tryz.ntmps32
      go_wp2_with (first
        | (go_at_call 54; refine (HX.out _ HV.out.2.2).mono ?_; rintro e' w' ⟨rfl, rfl⟩)
        | (go_at_call 55; refine (HL.out _ ((HT.out _).take _) HV.out.1 (by omega) (by simp [World.cell?_alloc_new])).mono ?_; rintro e' w' ⟨rfl, rfl⟩))
      go_ret2
      exact ⟨w.heap.size, none, by omega, rfl, Own.nil _ _ _, HB.out _⟩
    · have hlong' : long (val xs) = false := by simpa using hlong
      have hwl : wl xs ≤ 16384 := by rw [wl_eq h.1]; exact (long_false _).1 hlong'
      rcases Nat.eq_zero_or_pos (wl xs) with h0 | h0
      · have hv0 := (val_eq_zero_iff xs).2 h0
        have hr : nshl (val xs) e = ([], 0) := by simp only [nshl, hneg, hlong', hv0]; simp [hlong', ← hv0]
        rw [hr]
        have hb0 : ((wl xs : Int) == 0) = true := by simp [h0]
        clear hr hn hL hV1 hV2 hle h h0 hv0
        go_enter Tryz.func32, Tryz.ntmps32
        go_wp2_with (first
          | (go_at_call 54; refine (HX.out _ HV.out.2.2).mono ?_; rintro e' w' ⟨rfl, rfl⟩)
          | (go_at_call 55; refine (HL.out _ ((HT.out _).take _) HV.out.1 (by omega) (by simp [World.cell?_alloc_new])).mono ?_; rintro e' w' ⟨rfl, rfl⟩))
        go_ret2
        exact ⟨w.heap.size, none, by omega, rfl, Own.nil _ _ _, HB.out _⟩
      · have hv0 := pos_of_wl h0
        have hb0 : ((wl xs : Int) == 0) = false := by simp; omega
        have hN1 := fun W hW => len_any A (wl xs) c (xs.take (wl xs)) W hW hV1 (by omega)
        rw [hV2] at hN1
        have HN1 := Lib.hid hN1
        have hbl : blen (val xs) ≤ 524288 := blen_le_words ((long_false _).1 hlong')
        by_cases hbig : 524288 - (blen (val xs) : Int) < e
        · have hr : nshl (val xs) e = ([], 2) := by simp [nshl, hneg, hlong', hv0, hbig]
          rw [hr]
          clear hr hn hL hV1 hV2 hle h h0 hv0 hN1
          go_enter Tryz.func32, Tryz.ntmps32
          go_wp2_with (first
            | (go_at_call 54; refine (HX.out _ HV.out.2.2).mono ?_; rintro e' w' ⟨rfl, rfl⟩)
            | (go_at_call 55; refine (HL.out _ ((HT.out _).take _) HV.out.1 (by omega) (by simp [World.cell?_alloc_new])).mono ?_; rintro e' w' ⟨rfl, rfl⟩)
            | (go_at_call 65; refine (HN1.out _ ((HT.out _).take _)).mono ?_; rintro e' w' ⟨rfl, rfl⟩))
          go_ret2
          exact ⟨w.heap.size, none, by omega, rfl, Own.nil _ _ _, HB.out _⟩
        · obtain ⟨q, rfl⟩ : ∃ q : Nat, e = q := ⟨e.toNat, by omega⟩
          have hr : nshl (val xs) (q : Int) = (dig (val xs * 2 ^ q), 0) := by simp [nshl, hlong', hv0, hbig]
          rw [hr]
          have hU := fun W hW => up_any A (wl xs) c (xs.take (wl xs)) q W hW hV1 (by omega)
          rw [hV2] at hU
          have HU := Lib.hid hU
          clear hr hn hL hV1 hV2 hle h h0 hv0 hN1 hU
          go_enter Tryz.func32, Tryz.ntmps32
          go_wp2_with (first
            | (go_at_call 54; refine (HX.out _ HV.out.2.2).mono ?_; rintro e' w' ⟨rfl, rfl⟩)
            | (go_at_call 55; refine (HL.out _ ((HT.out _).take _) HV.out.1 (by omega) (by simp [World.cell?_alloc_new])).mono ?_; rintro e' w' ⟨rfl, rfl⟩)
            | (go_at_call 65; refine (HN1.out _ ((HT.out _).take _)).mono ?_; rintro e' w' ⟨rfl, rfl⟩)
            | (go_at_call 66; refine (HU.out _ ((HT.out _).take _)).mono ?_; rintro e' w2 ⟨A1, rfl, ho, hb⟩))
          go_ret2
          exact ⟨_, A1, by simp, rfl, ho, (HB.out _).trans (hb.mono (by simp))⟩
end Go.Proofs.YtcomkgmonhidhaaGreatDoor
end
