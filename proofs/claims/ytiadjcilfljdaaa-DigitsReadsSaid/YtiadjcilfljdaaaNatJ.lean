/- Contracts of nat: up, Shl. -/
import Derived.Test.YtiadjcilfljdaaaNatFS
import Derived.Test.YtiadjcilfljdaaaMem
import Derived.Test.YtiadjcilfljdaaaPlainD
namespace Go.Proofs.Ytiadjcilfljdaaa
set_option linter.unusedVariables false
set_option linter.unusedSimpArgs false
open Go.RowKit Verge

set_option maxHeartbeats 1000000 in
/-- nat.up. -/
theorem up_any (A : Option Addr) (n c : Nat) (X : List Nat) (e : Nat) (w : World) (h : Rd w A X) (hn : X.length = n) (hm : e / 32 + n + 1 ≤ 70368744177663) :
    Calls Try.prog 26 #[.slice A n c, .int .i64 (e : Int)] w fun e' w' => ∃ A1, e' = .returned (.slice A1 (dig (val X * 2 ^ e)).length (dig (val X * 2 ^ e)).length) ∧
      Own w' w.heap.size A1 (dig (val X * 2 ^ e)) ∧ Below w.heap.size w w' := by
  obtain ⟨k, hk⟩ : ∃ k, e / 32 = k := ⟨_, rfl⟩
  obtain ⟨r, hr⟩ : ∃ r, e % 32 = r := ⟨_, rfl⟩
  have hkI : (e : Int) / 32 = (k : Int) := by omega
  have hrI : (e : Int) % 32 = (r : Int) := by omega
  have hr32 : r < 32 := by omega
  rw [hk] at hm
  have hmk : ∀ W : World, (Instr.makeSlice 33 (.int .i64 (k : Int)) (.int .i64 ((k : Int) + (n : Int) + 1))).run Try.prog W = .ok (.slice (some ⟨W.heap.size, 0, none⟩) k (k + n + 1)) (W.alloc (.cells (u32s (List.replicate (k + n + 1) 0)).toArray 63)) := fun W => by
    have := run_make_u32c k (k + n + 1) (by omega) (by omega) W
    exact this
  have hS := fun W hW => shift_any A n c X r W hW hn (by omega) hr32
  have HS := Lib.hid hS
  have HR := Lib.hid (fun o => (h.keep (fun b o' hb => World.cell?_alloc_lt w o _ hb) : Rd (w.alloc o) A X))
  have HE := Lib.hid (And.intro hk hr)
  have he : e ≤ 9223372036854775807 := by omega
  clear hS hk hr h
  go_enter Try.func26, Try.ntmps26
  go_wp2_with fail
  refine (HS.out _ (HR.out _)).mono ?_
  rintro e' w2 ⟨rfl, S, hB, hl, hv, hb⟩
  have hS2 : Blk w2 (w.heap.size + 1) S := by simpa using hB
  have hZ : Blk w2 w.heap.size (List.replicate (k + n + 1) 0) := (Blk.made w (k + n + 1)).later hb
  have hb2 : Below w.heap.size w w2 := ((Below.refl _ w).alloc (Nat.le_refl _) _).trans (hb.mono (by simp))
  have H2 := Lib.hid (And.intro hS2 (And.intro hl (And.intro hv hZ)))
  clear hB hl hv hS2 hZ hb hkI hrI
  go_wp2_with (refine wpList_append_u32 rfl (.tmp 15) (.tmp 19) rfl w.heap.size k (k + n + 1) (w.heap.size + 1) (n + 1) (n + 1) S _ rfl rfl H2.out.2.2.2 (by simp) H2.out.1 H2.out.2.1 (by omega) ?_; intro w3 hB3 hG3)
  obtain ⟨u1, u2⟩ := up_row S k n r (val X) e H2.out.2.1 H2.out.2.2.1 HE.out.1 HE.out.2
  have hb3 : Below w.heap.size w w3 := hb2.grown hG3 hb2.size (by intro q hq; injection hq; omega)
  obtain ⟨T, hT⟩ : ∃ T, (List.replicate (k + n + 1) 0).take k ++ S ++ (List.replicate (k + n + 1) 0).drop (k + (n + 1)) = T := ⟨_, rfl⟩
  rw [hT] at hB3 u1 u2
  have ho := hB3.own (wl T) (wl_le T)
  rw [show T.take (wl T) = dig (val T) from (dig_val hB3.1).symm, u2] at ho
  have hc := cut_any (some ⟨w.heap.size, 0, none⟩) (k + (n + 1)) (k + n + 1) T w3 hB3.rd u1 (by omega) (by omega)
  rw [wl_eq hB3.1, u2] at hc
  have HC := Lib.hid hc
  have HO := Lib.hid ho
  clear ho hc u1 u2 hT hB3 hG3
  refine HC.out.mono ?_
  rintro e' w' ⟨rfl, rfl⟩
  go_wp2
  go_ret
  exact ⟨_, rfl, HO.out, hb3⟩

set_option maxHeartbeats 1000000 in
/-- nat.Shl. -/
theorem shl_any (A : Option Addr) (n c : Nat) (xs : List Nat) (e : Int) (w : World) (h : Rd w A xs) (hn : xs.length = n) (hc : n ≤ c) (hm : n ≤ 70368744177663) (he0 : -9223372036854775808 ≤ e) (he1 : e ≤ 9223372036854775807) :
    Calls Try.prog 12 #[.slice A n c, .int .i64 e] w fun e' w' => ∃ g A1, w.heap.size ≤ g ∧
      e' = .returned (.tuple #[.slice A1 (nshl (val xs) e).1.length (nshl (val xs) e).1.length, .int .i64 (nshl (val xs) e).2]) ∧
      Own w' g A1 (nshl (val xs) e).1 ∧ Below w.heap.size w w' := by
  by_cases hneg : e < 0
  · have hr : nshl (val xs) e = ([], 1) := by simp only [nshl, hneg, if_true]
    rw [hr]
    clear hr
    go_enter Try.func12, Try.ntmps12
    go_wp2
    go_ret2
    exact ⟨w.heap.size, none, by omega, rfl, Own.nil _ _ _, Below.refl _ w⟩
  · have hle := wl_le xs
    have cut1 := fun W => run_cut_h W A n c (wl xs) (by omega)
    have HX := Lib.hid (fun W hW => words_any A n c xs W hW hn (by omega))
    have hV1 := (show (xs.take (wl xs)).length = wl xs from length_norm xs)
    have hV2 := (show val (xs.take (wl xs)) = val xs from val_norm xs)
    have hL := long1_any (w.heap.size) A (wl xs) c (xs.take (wl xs))
    rw [hV2] at hL
    have HL := Lib.hid hL
    have HT := Lib.hid (fun (o : Obj) => (h.keep (fun b o' hb => World.cell?_alloc_lt w o _ hb) : Rd (w.alloc o) A xs))
    have HB := Lib.hid (fun (o : Obj) => ((Below.refl _ w).alloc (Nat.le_refl _) o : Below w.heap.size w (w.alloc o)))
    have HV := Lib.hid (And.intro hV1 (And.intro hV2 h))
    have hN : wl xs ≤ 70368744177663 := by omega
    by_cases hlong : long (val xs) = true
    · have hr : nshl (val xs) e = ([], 2) := by simp only [nshl, hneg, hlong, if_true, if_false]
      rw [hr]
      clear hr hn hL hV1 hV2 hle h
      go_enter Try.func12, Try.ntmps12
      go_wp2_with (first
        | (go_at_call 25; refine (HX.out _ HV.out.2.2).mono ?_; rintro e' w' ⟨rfl, rfl⟩)
        | (go_at_call 21; refine (HL.out _ ((HT.out _).take _) HV.out.1 (by omega) (by simp [World.cell?_alloc_new])).mono ?_; rintro e' w' ⟨rfl, rfl⟩))
      go_ret2
      exact ⟨w.heap.size, none, by omega, rfl, Own.nil _ _ _, HB.out _⟩
    · have hlong' : long (val xs) = false := by simpa using hlong
      have hwl : wl xs ≤ 16384 := by rw [wl_eq h.1]; exact (long_false _).1 hlong'
      rcases Nat.eq_zero_or_pos (wl xs) with h0 | h0
      · have hv0 := (val_eq_zero_iff xs).2 h0
        have hr : nshl (val xs) e = ([], 0) := by simp only [nshl, hneg, hlong', hv0]; simp [hlong', ← hv0]
        rw [hr]
        have hb0 : ((wl xs : Int) == 0) = true := by simp [h0]
        clear hr hn hL hV1 hV2 hle h h0 hv0
        go_enter Try.func12, Try.ntmps12
        go_wp2_with (first
          | (go_at_call 25; refine (HX.out _ HV.out.2.2).mono ?_; rintro e' w' ⟨rfl, rfl⟩)
          | (go_at_call 21; refine (HL.out _ ((HT.out _).take _) HV.out.1 (by omega) (by simp [World.cell?_alloc_new])).mono ?_; rintro e' w' ⟨rfl, rfl⟩))
        go_ret2
        exact ⟨w.heap.size, none, by omega, rfl, Own.nil _ _ _, HB.out _⟩
      · have hv0 := pos_of_wl h0
        have hb0 : ((wl xs : Int) == 0) = false := by simp; omega
        have hN1 := fun W hW => len_any A (wl xs) c (xs.take (wl xs)) W hW hV1 (by omega)
        rw [hV2] at hN1
        have HN1 := Lib.hid hN1
        have hbl : blen (val xs) ≤ 524288 := blen_le_words ((long_false _).1 hlong')
        by_cases hbig : 524288 - (blen (val xs) : Int) < e
        · have hr : nshl (val xs) e = ([], 2) := by simp [nshl, hneg, hlong', hv0, hbig]
          rw [hr]
          clear hr hn hL hV1 hV2 hle h h0 hv0 hN1
          go_enter Try.func12, Try.ntmps12
          go_wp2_with (first
            | (go_at_call 25; refine (HX.out _ HV.out.2.2).mono ?_; rintro e' w' ⟨rfl, rfl⟩)
            | (go_at_call 21; refine (HL.out _ ((HT.out _).take _) HV.out.1 (by omega) (by simp [World.cell?_alloc_new])).mono ?_; rintro e' w' ⟨rfl, rfl⟩)
            | (go_at_call 22; refine (HN1.out _ ((HT.out _).take _)).mono ?_; rintro e' w' ⟨rfl, rfl⟩))
          go_ret2
          exact ⟨w.heap.size, none, by omega, rfl, Own.nil _ _ _, HB.out _⟩
        · obtain ⟨q, rfl⟩ : ∃ q : Nat, e = q := ⟨e.toNat, by omega⟩
          have hr : nshl (val xs) (q : Int) = (dig (val xs * 2 ^ q), 0) := by simp [nshl, hlong', hv0, hbig]
          rw [hr]
          have hU := fun W hW => up_any A (wl xs) c (xs.take (wl xs)) q W hW hV1 (by omega)
          rw [hV2] at hU
          have HU := Lib.hid hU
          clear hr hn hL hV1 hV2 hle h h0 hv0 hN1 hU
          go_enter Try.func12, Try.ntmps12
          go_wp2_with (first
            | (go_at_call 25; refine (HX.out _ HV.out.2.2).mono ?_; rintro e' w' ⟨rfl, rfl⟩)
            | (go_at_call 21; refine (HL.out _ ((HT.out _).take _) HV.out.1 (by omega) (by simp [World.cell?_alloc_new])).mono ?_; rintro e' w' ⟨rfl, rfl⟩)
            | (go_at_call 22; refine (HN1.out _ ((HT.out _).take _)).mono ?_; rintro e' w' ⟨rfl, rfl⟩)
            | (go_at_call 26; refine (HU.out _ ((HT.out _).take _)).mono ?_; rintro e' w2 ⟨A1, rfl, ho, hb⟩))
          go_ret2
          exact ⟨_, A1, by simp, rfl, ho, (HB.out _).trans (hb.mono (by simp))⟩
end Go.Proofs.Ytiadjcilfljdaaa
