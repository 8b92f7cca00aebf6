/- Contracts of nat: one. -/
import Derived.Test.YtiadjcilfljdaaaNatE
import Derived.Test.YtiadjcilfljdaaaNatFS
import Derived.Test.YtiadjcilfljdaaaPlain
namespace Go.Proofs.Ytiadjcilfljdaaa
set_option linter.unusedVariables false
set_option linter.unusedSimpArgs false
open Go.RowKit Verge

set_option maxHeartbeats 1000000 in
/-- nat.one. -/
theorem one_any (A : Option Addr) (n c : Nat) (X : List Nat) (y : Nat) (w : World) (h : Rd w A X) (hn : X.length = n) (hm : n ≤ 70368744177663) (hy0 : 0 < y) (hy : y < 4294967296) :
    Calls Try.prog 85 #[.slice A n c, .int .u64 (y : Int)] w fun e w' => ∃ A1 A2 g2,
      e = .returned (.tuple #[.slice A1 (dig (val X / y)).length (dig (val X / y)).length, .slice A2 (dig (val X % y)).length (dig (val X % y)).length, .int .i64 0]) ∧
      Own w' w.heap.size A1 (dig (val X / y)) ∧ w.heap.size < g2 ∧ Own w' g2 A2 (dig (val X % y)) ∧ Below w.heap.size w w' := by
  have hmk : ∀ W : World, (Instr.makeSlice 33 (.int .i64 (n : Int)) (.int .i64 (n : Int))).run Try.prog W = .ok (.slice (some ⟨W.heap.size, 0, none⟩) n n) (W.alloc (.cells (u32s (List.replicate n 0)).toArray 63)) :=
    fun W => run_make_u32 n (by omega) W
  have hR1 := Lib.hid (fun W (hb : Below w.heap.size w W) => h.below hb)
  have HN := Lib.hid hn
  clear h hn
  go_enter Try.func85, Try.ntmps85
  go_wp2
  go_loopw [7, 8, 9, 15] (fun rv _ _ iv wr => ∃ (i r : Nat) (Q : List Nat), i ≤ n ∧ iv = .int .i64 i ∧ rv = .int .u64 r ∧ r < y ∧ Blk wr w.heap.size Q ∧
    Hid (Q.length = n ∧ val (X.drop (n - i)) = y * val (Q.drop (n - i)) + r) ∧ Below w.heap.size w wr) (fun _ _ _ iv _ => n - (intOf iv).toNat)
  case atStart => exact ⟨0, 0, List.replicate n 0, by omega, rfl, rfl, hy0, Blk.made w n, ⟨by simp, by
    rw [Nat.sub_zero, List.drop_of_length_le (by rw [HN.out]; omega), List.drop_of_length_le (by simp)]; simp⟩, (Below.refl _ w).alloc (Nat.le_refl _) _⟩
  case round =>
    obtain ⟨i, r, Q, hi, rfl, rfl, hr, hQ, hI, hb⟩ := hrel
    by_cases hin : i < n
    · obtain ⟨j, rfl⟩ : ∃ j, n = j + 1 + i := ⟨n - 1 - i, by omega⟩
      obtain ⟨b2, o2, rfl, hcx⟩ := (hR1.out _ hb).cell (k := j) (by rw [HN.out]; omega)
      have hx32 := (hR1.out _ hb).1.getD j
      obtain ⟨x, hgx⟩ : ∃ x, X.getD j 0 = x := ⟨_, rfl⟩
      rw [hgx] at hcx hx32
      have HGX := Lib.hid hgx; clear hgx
      have hlen := hI.out.1
      have hcl := hQ.cell (i := j) (by omega)
      have hfz := hQ.frozen j
      clear hlen
      obtain ⟨t, ht⟩ : ∃ t, x + 4294967296 * r = t := ⟨_, rfl⟩
      have hor : bits .or .u64 ((r : Int) * 4294967296) (x : Int) = (t : Int) := by rw [or_hi' x r hx32 (by omega), ht]
      have htb : t < 18446744073709551616 := by omega
      have htq : t / y < 4294967296 := by
        rw [Nat.div_lt_iff_lt_mul hy0]
        have : 4294967296 * (r + 1) ≤ 4294967296 * y := Nat.mul_le_mul_left _ hr
        omega
      obtain ⟨q, hq⟩ : ∃ q, t / y = q := ⟨_, rfl⟩
      obtain ⟨r', hr'⟩ : ∃ r', t % y = r' := ⟨_, rfl⟩
      have hqI : (t : Int) / (y : Int) = (q : Int) := by rw [← hq]; simp
      have hrI : (t : Int) % (y : Int) = (r' : Int) := by rw [← hr']; simp
      have hr'y : r' < y := by rw [← hr']; exact Nat.mod_lt _ hy0
      rw [hq] at htq
      have HT := Lib.hid (And.intro ht (show t = y * q + r' by rw [← hq, ← hr']; exact (Nat.div_add_mod t y).symm))
      clear ht hq hr'
      go_wp2
      have HRI := Lib.hid hrI
      clear hor hqI hrI
      go_roundw
      case rel =>
        obtain ⟨h1, h2⟩ := hI.out
        obtain ⟨t1, t2⟩ := HT.out
        rw [show j + 1 + i - i = j + 1 by omega] at h2
        have hst := one_step Q X j x r t q r' y (by omega) HGX.out h2 t1.symm t2
        exact ⟨i + 1, r', Q.set j q, by omega, by go_num, by rw [HRI.out], hr'y, hQ.set j htq, ⟨by rw [List.length_set]; exact h1, by rw [show j + 1 + i - (i + 1) = j by omega]; exact hst⟩, hb.setCell (Nat.le_refl _) _⟩
      case measure => simp [intOf]; omega
    · obtain rfl : i = n := by omega
      obtain ⟨h1, h2⟩ := hI.out
      rw [Nat.sub_self, List.drop_zero, List.drop_zero] at h2
      have hq : val X / y = val Q := by
        rw [h2, Nat.mul_add_div hy0, Nat.div_eq_of_lt hr, Nat.add_zero]
      have hr2 : val X % y = r := by
        rw [h2, Nat.mul_add_mod, Nat.mod_eq_of_lt hr]
      have HQR := Lib.hid (And.intro hq hr2)
      have hwl : wl Q = (dig (val Q)).length := wl_eq hQ.1
      have ho := hQ.own (wl Q) (wl_le Q)
      have hd : Q.take (wl Q) = dig (val Q) := (dig_val hQ.1).symm
      rw [hd] at ho
      have HQ := Lib.hid (And.intro hQ.rd (And.intro h1 (And.intro hwl ho)))
      have hlt := hQ.lt
      clear hq hr2 hwl ho hd h1 h2
      go_wp2_with fail
      refine (cut_any _ i i Q _ HQ.out.1 HQ.out.2.1 (Nat.le_refl _) (by omega)).mono ?_
      rintro e w' ⟨rfl, rfl⟩
      rw [HQ.out.2.2.1]
      go_wp2_with fail
      refine (small_any (r : Int) wr (by omega) (by omega)).mono ?_
      rintro e w' ⟨g2, A2, hg, rfl, ho2, hb2⟩
      rw [Int.toNat_natCast] at ho2 ⊢
      have HO := Lib.hid (And.intro ho2 (HQ.out.2.2.2.later hb2))
      clear ho2
      go_wp2
      go_ret3
      rw [HQR.out.1, HQR.out.2]
      exact ⟨_, A2, g2, rfl, HO.out.2, by omega, HO.out.1, hb.trans (hb2.mono (by omega))⟩
end Go.Proofs.Ytiadjcilfljdaaa
