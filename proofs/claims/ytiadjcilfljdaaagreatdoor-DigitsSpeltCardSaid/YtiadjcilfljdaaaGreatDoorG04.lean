/- Worlds that grew by rows: what NatD and NatFS share. -/
import Derived.Test.YtiadjcilfljdaaaGreatDoorG03
import Derived.Test.YtiadjcilfljdaaaGreatDoorG01
namespace Go.Proofs.YtiadjcilfljdaaaGreatDoor
set_option linter.unusedVariables false
set_option linter.unusedSimpArgs false
open Go.RowKit Verge

theorem grownBy_refl (w : World) (row : Option Nat) : w.grownBy w row := ⟨rfl, rfl, rfl, Nat.le_refl _, fun _ _ _ => rfl⟩
theorem grownBy_trans {a b c : World} {row : Option Nat} (h : a.grownBy b row) (k : b.grownBy c row) : a.grownBy c row :=
  ⟨k.os.trans h.os, k.tape.trans h.tape, k.output.trans h.output, Nat.le_trans h.size k.size, fun i hi hne => (k.block i (Nat.lt_of_lt_of_le hi h.size) hne).trans (h.block i hi hne)⟩
theorem grownBy_set {a w : World} {g : Nat} (h : a.grownBy w (some g)) (i : Nat) (u : Value) : a.grownBy (w.setCell ⟨g, i, none⟩ u) (some g) :=
  grownBy_trans h ⟨rfl, rfl, rfl, by simp [World.setCell], fun k hk hne => Below.heap_setCell w _ u k (by rintro rfl; exact hne rfl)⟩
theorem grownBy_drewN {a w : World} {row : Option Nat} (h : a.grownBy w row) (n : Nat) : a.grownBy (w.drewN n) row := ⟨h.os, h.tape, h.output, h.size, h.block⟩
theorem grownBy_alloc {a w : World} {row : Option Nat} (h : a.grownBy w row) (o : Obj) : a.grownBy (w.alloc o) row := grownBy_trans h (World.grownBy_alloc w o row)
theorem grownBy_below {a w : World} {row : Option Nat} (h : Below a.heap.size a w) : a.grownBy w row := ⟨h.os, h.tape, h.output, h.size, fun i hi _ => h.block i hi⟩
end Go.Proofs.YtiadjcilfljdaaaGreatDoor

/- Contracts of nat: shift, back. -/
namespace Go.Proofs.YtiadjcilfljdaaaGreatDoor
set_option linter.unusedVariables false
set_option linter.unusedSimpArgs false
open Go.RowKit Verge

set_option maxHeartbeats 1000000 in
/-- nat.shift. -/
theorem shift_any (A : Option Addr) (n c : Nat) (X : List Nat) (s : Nat) (w : World) (h : Rd w A X) (hn : X.length = n) (hm : n ≤ 70368744177663) (hs : s < 32) :
    Calls Tryz.prog 68 #[.slice A n c, .int .i64 (s : Int)] w fun e w' => e = .returned (.slice (some ⟨w.heap.size, 0, none⟩) (n + 1) (n + 1)) ∧
      ∃ L, Blk w' w.heap.size L ∧ L.length = n + 1 ∧ val L = val X * 2 ^ s ∧ Below w.heap.size w w' := by
  have hmk : ∀ W : World, (Instr.makeSlice 50 (.int .i64 ((n : Int) + 1)) (.int .i64 ((n : Int) + 1))).run Tryz.prog W = .ok (.slice (some ⟨W.heap.size, 0, none⟩) (n + 1) (n + 1)) (W.alloc (.cells (u32s (List.replicate (n + 1) 0)).toArray 73)) :=
    fun W => run_make_u32 (n + 1) (by omega) W
  have hR1 := Lib.hid (fun W (hb : Below w.heap.size w W) => h.below hb)
  have HN := Lib.hid hn
  clear h hn
  have h2s : 2 ^ s ≤ 2147483648 := by
    have := Nat.pow_le_pow_right (n := 2) (by omega) (show s ≤ 31 by omega)
    simpa using this
  go_enter Tryz.func68, Tryz.ntmps68
  go_wp2
  go_loopw [6, 7, 8, 15] (fun cv _ _ iv wr => ∃ (i cc : Nat) (L : List Nat), i ≤ n ∧ iv = .int .i64 i ∧ cv = .int .u64 cc ∧ cc < 2147483648 ∧ Blk wr w.heap.size L ∧
    Hid (cc < 2 ^ s ∧ L.length = n + 1 ∧ val (L.take i) + cc * 4294967296 ^ i = val (X.take i) * 2 ^ s) ∧ Below w.heap.size w wr) (fun _ _ _ iv _ => n - (intOf iv).toNat)
  case atStart => exact ⟨0, 0, List.replicate (n + 1) 0, by omega, rfl, rfl, by omega, Blk.made w (n + 1), ⟨Nat.pow_pos (by omega), by simp, by simp⟩, (Below.refl _ w).alloc (Nat.le_refl _) _⟩
  case round =>
    obtain ⟨i, cc, L, hi, rfl, rfl, hcc, hL, hI, hb⟩ := hrel
    have hlen := hI.out.2.1
    have hcl := hL.cell (i := i) (by omega)
    have hfz := hL.frozen i
    clear hlen
    by_cases hin : i < n
    · obtain ⟨b2, o2, rfl, hcx⟩ := (hR1.out _ hb).cell (k := i) (by rw [HN.out]; exact hin)
      have hx32 := (hR1.out _ hb).1.getD i
      obtain ⟨x, hgx⟩ : ∃ x, X.getD i 0 = x := ⟨_, rfl⟩
      rw [hgx] at hcx hx32
      have HGX := Lib.hid hgx; clear hgx
      obtain ⟨q, hq⟩ : ∃ q, x * 2 ^ s = q := ⟨_, rfl⟩
      have hqb : q ≤ 4294967295 * 2147483648 := by rw [← hq]; exact Nat.mul_le_mul (by omega) h2s
      have hw1 : IntKind.u64.wrap ((x : Int) * 2 ^ s) = (q : Int) := by
        rw [show ((x : Int) * 2 ^ s) = ((x * 2 ^ s : Nat) : Int) by simp, hq, IntKind.wrap_u64]; omega
      have hw2 : bits .or .u64 (cc : Int) (q : Int) = ((cc : Int) + (q : Int)) := by
        rw [or_u64 cc q s hI.out.1 (by rw [← hq]; exact Nat.mul_mod_left _ _) (by omega)]; simp
      have HQ := Lib.hid hq; clear hq
      go_wp2
      clear hw1 hw2
      go_roundw
      case rel =>
        obtain ⟨h1, h2, h3⟩ := hI.out
        have hq2 := HQ.out
        have hq3 : q + 2 ^ s ≤ 4294967296 * 2 ^ s := by
          rw [← hq2, ← Nat.succ_mul]; exact Nat.mul_le_mul_right _ (by omega)
        exact ⟨i + 1, (cc + q) / 4294967296, L.set i ((cc + q) % 4294967296), by omega, by go_num, by congr 1, by omega, hL.setI i (by omega) (by omega) (by omega),
          ⟨by rw [Nat.div_lt_iff_lt_mul (by omega)]; omega, by rw [List.length_set]; exact h2, shift_step L X i cc x s _ _ (by omega) HGX.out h3 (by rw [hq2]; omega)⟩, hb.setCell (Nat.le_refl _) _⟩
      case measure => simp [intOf]; omega
    · obtain rfl : i = n := by omega
      go_wp2
      go_ret
      obtain ⟨h1, h2, h3⟩ := hI.out
      have hv : val (L.set i cc) = val X * 2 ^ s := by
        rw [← List.take_of_length_le (l := L.set i cc) (i := i + 1) (by rw [List.length_set]; omega), val_take_set L i cc (by omega), Nat.mul_comm (_ ^ _), h3,
          List.take_of_length_le (by rw [HN.out]; omega)]
      exact ⟨rfl, L.set i cc, hL.setI i (by omega) (by omega) (by omega), by rw [List.length_set]; exact h2, hv, hb.setCell (Nat.le_refl _) _⟩

set_option maxHeartbeats 1000000 in
/-- nat.back: a row of the call's own (its first nl words), moved down in place. -/
theorem back_any (g nl cl : Nat) (L : List Nat) (s : Nat) (w : World) (hL : Blk w g L) (hl : nl ≤ L.length) (hc : nl ≤ cl) (hm : cl ≤ 70368744177663) (hs : s < 32) :
    Calls Tryz.prog 71 #[.slice (some ⟨g, 0, none⟩) nl cl, .int .i64 (s : Int)] w fun e w' => ∃ A, e = .returned (.slice A (dig (val (L.take nl) / 2 ^ s)).length (dig (val (L.take nl) / 2 ^ s)).length) ∧
      Own w' g A (dig (val (L.take nl) / 2 ^ s)) ∧ w.grownBy w' (some g) := by
  obtain ⟨T, hT⟩ : ∃ T, L.take nl = T := ⟨_, rfl⟩
  have hT32 : W32 T := by rw [← hT]; exact hL.1.take nl
  have hTl : T.length = nl := by rw [← hT, List.length_take]; omega
  have hTg : ∀ k, k < nl → L.getD k 0 = T.getD k 0 := fun k hk => by rw [← hT, getD_take _ _ _ hk]
  have hTz : T.getD nl 0 = 0 := getD_ge T (by omega)
  rw [hT]
  obtain ⟨N, hN⟩ : ∃ N, val T = N := ⟨_, rfl⟩
  have HT := Lib.hid (And.intro hT32 (And.intro hTl (And.intro hTg (And.intro hTz hN))))
  rw [hN]
  have HL := Lib.hid hL
  have h2s : 0 < 2 ^ s := Nat.pow_pos (by omega)
  clear hT hT32 hTl hTg hTz hN hL
  go_enter Tryz.func71, Tryz.ntmps71
  go_wp2
  go_loopw [5, 6, 9] (fun _ _ iv wr => ∃ (i : Nat) (L' : List Nat), i ≤ nl ∧ iv = .int .i64 i ∧ Blk wr g L' ∧
    Hid (L'.length = L.length ∧ val (L'.take i) = N / 2 ^ s % 4294967296 ^ i ∧ L'.drop i = L.drop i) ∧ w.grownBy wr (some g)) (fun _ _ iv _ => nl - (intOf iv).toNat)
  case atStart => exact ⟨0, L, by omega, rfl, HL.out, ⟨rfl, by simp [Nat.mod_one], rfl⟩, grownBy_refl _ _⟩
  case round =>
    obtain ⟨i, L', hi, rfl, hL', hI, hG⟩ := hrel
    have hlen := hI.out.1
    by_cases hin : i < nl
    · have hcl := hL'.cell (i := i) (by omega)
      have hfz := hL'.frozen i
      have hx32 := hL'.1.getD i
      obtain ⟨x, hgx⟩ : ∃ x, L'.getD i 0 = x := ⟨_, rfl⟩
      rw [hgx] at hcl hx32
      have hxT : T.getD i 0 = x := by
        rw [← HT.out.2.2.1 i hin, ← hgx]
        have h1 := getD_drop L' i 0
        have h2 := getD_drop L i 0
        rw [Nat.add_zero] at h1 h2
        rw [← h1, ← h2, hI.out.2.2]
      have HGX := Lib.hid (And.intro hgx hxT); clear hgx hxT
      by_cases hin1 : i + 1 < nl
      · have hcl2 := hL'.cell (i := i + 1) (by omega)
        have hy32 := hL'.1.getD (i + 1)
        obtain ⟨y, hgy⟩ : ∃ y, L'.getD (i + 1) 0 = y := ⟨_, rfl⟩
        rw [hgy] at hcl2 hy32
        have hyT : T.getD (i + 1) 0 = y := by
          rw [← HT.out.2.2.1 (i + 1) hin1, ← hgy]
          have h1 := getD_drop L' i 1
          have h2 := getD_drop L i 1
          rw [← h1, ← h2, hI.out.2.2]
        have HGY := Lib.hid (And.intro hgy hyT); clear hgy hyT hlen
        go_wp2
        go_roundw
        case rel =>
          obtain ⟨h1, h2, h3⟩ := hI.out
          have e : bits .or .u64 (x : Int) ((y : Int) * 4294967296) / 2 ^ s % 4294967296 = (((x + 4294967296 * y) / 2 ^ s % 4294967296 : Nat) : Int) := by rw [or_hi x y hx32 hy32]; simp
          rw [e]
          have hst := back_step L' T HT.out.1 i s ((x + 4294967296 * y) / 2 ^ s % 4294967296) (by omega) (by omega) (by rw [HGX.out.2, HGY.out.2]) (by rw [HT.out.2.2.2.2]; exact h2)
          exact ⟨i + 1, L'.set i ((x + 4294967296 * y) / 2 ^ s % 4294967296), by omega, by go_num, hL'.set i (Nat.mod_lt _ (by omega)),
            ⟨by rw [List.length_set]; exact h1, by rw [← HT.out.2.2.2.2]; exact hst, by
              rw [drop_set_gt L' i (i + 1) _ (by omega)]
              have := congrArg (List.drop 1) h3
              rwa [List.drop_drop, List.drop_drop] at this⟩, grownBy_set hG _ _⟩
        case measure => simp [intOf]; omega
      · obtain rfl : nl = i + 1 := by omega
        clear hlen
        go_wp2
        go_roundw
        case rel =>
          obtain ⟨h1, h2, h3⟩ := hI.out
          have e : (x : Int) / 2 ^ s % 4294967296 = ((x / 2 ^ s % 4294967296 : Nat) : Int) := by simp
          rw [e]
          have hst := back_step L' T HT.out.1 i s (x / 2 ^ s % 4294967296) (by omega) (by omega) (by rw [HGX.out.2, HT.out.2.2.2.1]; simp) (by rw [HT.out.2.2.2.2]; exact h2)
          exact ⟨i + 1, L'.set i (x / 2 ^ s % 4294967296), by omega, by go_num, hL'.set i (Nat.mod_lt _ (by omega)),
            ⟨by rw [List.length_set]; exact h1, by rw [← HT.out.2.2.2.2]; exact hst, by
              rw [drop_set_gt L' i (i + 1) _ (by omega)]
              have := congrArg (List.drop 1) h3
              rwa [List.drop_drop, List.drop_drop] at this⟩, grownBy_set hG _ _⟩
        case measure => simp [intOf]
    · obtain rfl : i = nl := by omega
      have hv : val (L'.take i) = N / 2 ^ s := by
        rw [hI.out.2.1]
        apply Nat.mod_eq_of_lt
        have h1 := val_lt HT.out.1
        rw [HT.out.2.1, HT.out.2.2.2.2] at h1
        exact Nat.lt_of_le_of_lt (Nat.div_le_self _ _) h1
      have hR := hL'.rd.take i
      have hlt : (L'.take i).length = i := by rw [List.length_take]; omega
      have hw := wl_le (L'.take i)
      have ho := hL'.own (wl (L'.take i)) (by omega)
      have hd : L'.take (wl (L'.take i)) = dig (N / 2 ^ s) := by
        rw [← hv, dig_val (hL'.1.take i), norm, List.take_take, Nat.min_eq_left (by omega)]
      have hwl : wl (L'.take i) = (dig (N / 2 ^ s)).length := by rw [wl_eq (hL'.1.take i), hv]
      rw [hd] at ho
      have HR := Lib.hid (And.intro hR (And.intro hlt (And.intro hwl ho)))
      clear hR hlt hwl ho hd hw hlen hv
      go_wp2_with fail
      refine (cut_any _ i cl (L'.take i) _ HR.out.1 HR.out.2.1 hc (by omega)).mono ?_
      rintro e w' ⟨rfl, rfl⟩
      rw [HR.out.2.2.1]
      go_wp2
      go_ret
      exact ⟨_, rfl, HR.out.2.2.2, hG⟩
end Go.Proofs.YtiadjcilfljdaaaGreatDoor
