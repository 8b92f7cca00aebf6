/- Contracts of vergelaw2: copied, same, short. -/
import Derived.Test.YtniogjkkhkibhaaDoorNatL
namespace Go.Proofs.YtniogjkkhkibhaaDoor
set_option linter.unusedVariables false
set_option linter.unusedSimpArgs false
open Go.RowKit Verge

theorem set_take_succ (L : List Nat) (i x : Nat) (hi : i < L.length) : (L.set i x).take (i + 1) = L.take i ++ [x] := by
  rw [List.take_add_one, take_set_le L i i x (Nat.le_refl _), List.getElem?_set_self hi]; rfl
theorem take_succ_of (X : List Nat) {i x : Nat} (hi : i < X.length) (hx : X.getD i 0 = x) : X.take (i + 1) = X.take i ++ [x] := by
  rw [List.take_add_one, get_of_lt X hi, hx]; rfl

set_option maxHeartbeats 1000000 in
/-- vergelaw2.copied: the same words, in a new block. -/
theorem copied_any (A : Option Addr) (n c : Nat) (X : List Nat) (w : World) (h : Rd w A X) (hn : X.length = n) (hm : n ≤ 70368744177664) :
    Calls Tryd.prog 27 #[.slice A n c] w fun e w' => e = .returned (.slice (some ⟨w.heap.size, 0, none⟩) n n) ∧ Blk w' w.heap.size X ∧ Below w.heap.size w w' := by
  have hmk := run_make_u32 n hm
  have hR1 := Lib.hid (fun W (hb : Below w.heap.size w W) => h.below hb)
  have HN := Lib.hid hn
  clear h hn
  go_enter Tryd.func27, Tryd.ntmps27
  go_wp2
  go_loopw [4] (fun iv wr => ∃ (i : Nat) (L : List Nat), i ≤ n ∧ iv = .int .i64 i ∧ Blk wr w.heap.size L ∧ Hid (L.length = n ∧ L.take i = X.take i) ∧ Below w.heap.size w wr) (fun iv _ => n - (intOf iv).toNat)
  case atStart => exact ⟨0, List.replicate n 0, by omega, rfl, Blk.made w n, ⟨by simp, by simp⟩, (Below.refl _ w).alloc (Nat.le_refl _) _⟩
  case round =>
    obtain ⟨i, L, hi, rfl, hL, hI, hb⟩ := hrel
    have hlen := hI.out.1
    by_cases hin : i < n
    · have hcl := hL.cell (i := i) (by omega)
      have hfz := hL.frozen i
      obtain ⟨b2, o2, rfl, hcx⟩ := (hR1.out _ hb).cell (k := i) (by rw [HN.out]; exact hin)
      have hx32 := (hR1.out _ hb).1.getD i
      obtain ⟨x, hgx⟩ : ∃ x, X.getD i 0 = x := ⟨_, rfl⟩
      rw [hgx] at hcx hx32
      have HGX := Lib.hid hgx; clear hgx hlen
      go_wp2
      go_roundw
      case rel =>
        obtain ⟨h1, h2⟩ := hI.out
        refine ⟨i + 1, L.set i x, by omega, by go_num, hL.setI i (by omega) (by omega) (by omega), ⟨by rw [List.length_set]; exact h1, ?_⟩, hb.setCell (Nat.le_refl _) _⟩
        rw [set_take_succ L i x (by omega), take_succ_of X (by rw [HN.out]; exact hin) HGX.out, h2]
      case measure => simp [intOf]; omega
    · obtain rfl : i = n := by omega
      clear hlen
      go_wp2
      go_ret
      obtain ⟨h1, h2⟩ := hI.out
      have : L = X := by
        rw [List.take_of_length_le (by omega), List.take_of_length_le (by rw [HN.out]; omega)] at h2
        exact h2
      subst this
      exact ⟨rfl, hL, hb⟩

/-- vergelaw2.short: at most k words of a list, in a new block. -/
theorem short_any (A : Option Addr) (n c : Nat) (X : List Nat) (k : Nat) (w : World) (h : Rd w A X) (hn : X.length = n) (hm : n ≤ 70368744177664) (hk : k ≤ 9223372036854775807) :
    Calls Tryd.prog 16 #[.slice A n c, .int .i64 (k : Int)] w fun e w' => e = .returned (.slice (some ⟨w.heap.size, 0, none⟩) (min k n) n) ∧ Blk w' w.heap.size X ∧ Below w.heap.size w w' := by
  have hC := Lib.hid (copied_any A n c X w h hn hm)
  have hcut := fun W => run_cut_h W (some ⟨w.heap.size, 0, none⟩) n n k
  by_cases hkn : k < n
  · have hcut1 := fun W => hcut W (by omega)
    rw [Nat.min_eq_left (by omega)]
    clear hcut h hn
    go_enter Tryd.func16, Tryd.ntmps16
    go_wp2_with (go_at_call 27; refine hC.out.mono ?_; rintro e w' ⟨rfl, hB, hb⟩)
    go_ret
    exact ⟨rfl, hB, hb⟩
  · rw [Nat.min_eq_right (by omega)]
    clear hcut h hn
    go_enter Tryd.func16, Tryd.ntmps16
    go_wp2_with (go_at_call 27; refine hC.out.mono ?_; rintro e w' ⟨rfl, hB, hb⟩)
    go_ret
    exact ⟨rfl, hB, hb⟩

set_option maxHeartbeats 1000000 in
/-- vergelaw2.same: whether two lists hold the same words. -/
theorem same_any (A : Option Addr) (n c : Nat) (X : List Nat) (A' : Option Addr) (n' c' : Nat) (Y : List Nat) (w : World) (h : Rd w A X) (hn : X.length = n) (hm : n ≤ 140737488355328) (h' : Rd w A' Y) (hn' : Y.length = n') (hm' : n' ≤ 140737488355328) :
    Calls Tryd.prog 18 #[.slice A n c, .slice A' n' c'] w fun e w' => e = .returned (.bool (decide (X = Y))) ∧ ∃ d, w.drewN d = w' := by
  by_cases hnn : n = n'
  · subst hnn
    obtain ⟨B, hB⟩ : ∃ B, decide (X = Y) = B := ⟨_, rfl⟩
    rw [hB]
    have HB := Lib.hid hB; clear hB
    have HX := Lib.hid (And.intro h (And.intro hn (And.intro h' hn')))
    clear h hn h' hn'
    go_enter Tryd.func18, Tryd.ntmps18
    go_wp2
    go_loopw [5] (fun iv wr => ∃ i : Nat, i ≤ n ∧ iv = .int .i64 i ∧ Hid (X.take i = Y.take i) ∧ ∃ d, wr = w.drewN d) (fun iv _ => n - (intOf iv).toNat)
    case atStart => exact ⟨0, by omega, rfl, show _ = _ by simp, 0, rfl⟩
    case round =>
      obtain ⟨i, hi, rfl, hT, d, rfl⟩ := hrel
      by_cases hin : i < n
      · obtain ⟨b2, o2, rfl, hcx⟩ := (HX.out.1).cell (k := i) (by rw [HX.out.2.1]; exact hin)
        obtain ⟨b3, o3, rfl, hcy⟩ := (HX.out.2.2.1).cell (k := i) (by rw [HX.out.2.2.2]; exact hin)
        have hx32 := (HX.out.1).1.getD i
        have hy32 := (HX.out.2.2.1).1.getD i
        have hgx' := get_of_lt X (k := i) (by rw [HX.out.2.1]; exact hin)
        have hgy' := get_of_lt Y (k := i) (by rw [HX.out.2.2.2]; exact hin)
        generalize X.getD i 0 = x at *
        generalize Y.getD i 0 = y at *
        have HG := Lib.hid (And.intro hgx' hgy'); clear hgx' hgy'
        by_cases hxy : x = y
        · subst hxy
          go_wp2
          go_quiet (fail)
          go_wp2
          go_roundw
          case rel =>
            refine ⟨i + 1, by omega, by go_num, show _ = _ from ?_, _, rfl⟩
            rw [List.take_add_one, List.take_add_one, HG.out.1, HG.out.2, hT.out]
          case measure => simp [intOf]; omega
        · have hne : ((x : Int) != (y : Int)) = true := by simp; omega
          go_wp2
          go_quiet (fail)
          go_wp2
          go_ret
          refine ⟨?_, _, (World.drewN_drewN ..).symm⟩
          have : B = false := by
            rw [← HB.out, decide_eq_false_iff_not]
            rintro rfl
            have := HG.out.1.symm.trans HG.out.2
            simp at this; exact hxy this
          rw [this]; rfl
      · obtain rfl : i = n := by omega
        go_wp2
        go_ret
        refine ⟨?_, _, rfl⟩
        have : B = true := by
          rw [← HB.out, decide_eq_true_iff]
          have := hT.out
          rwa [List.take_of_length_le (by rw [HX.out.2.1]; omega), List.take_of_length_le (by rw [HX.out.2.2.2]; omega)] at this
        rw [this]; rfl
  · have hd : decide (X = Y) = false := by
      rw [decide_eq_false_iff_not]; rintro rfl; omega
    have hne : ((n : Int) != (n' : Int)) = true := by simp; omega
    rw [hd]
    clear hd hnn h hn h' hn'
    go_enter Tryd.func18, Tryd.ntmps18
    go_wp2
    go_ret
    exact ⟨rfl, 0, rfl⟩
end Go.Proofs.YtniogjkkhkibhaaDoor
