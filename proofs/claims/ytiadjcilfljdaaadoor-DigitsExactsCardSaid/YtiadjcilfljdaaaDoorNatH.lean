/- Contracts of nat: Quo. -/
import Derived.Test.YtiadjcilfljdaaaDoorNatG
import Derived.Test.YtiadjcilfljdaaaDoorPlainD
namespace Go.Proofs.YtiadjcilfljdaaaDoor
set_option linter.unusedVariables false
set_option linter.unusedSimpArgs false
open Go.RowKit Verge

/-- What Quo answers: two lists in two new blocks, and the error's number. -/
def QuoPost (w : World) (q r : List Nat) (er : Int) (e : Ending) (w' : World) : Prop :=
  ∃ g1 g2 A1 A2, w.heap.size ≤ g1 ∧ w.heap.size ≤ g2 ∧ g1 ≠ g2 ∧ e = .returned (.tuple #[.slice A1 q.length q.length, .slice A2 r.length r.length, .int .i64 er]) ∧
    Own w' g1 A1 q ∧ Own w' g2 A2 r ∧ Below w.heap.size w w'

section
variable (A : Option Addr) (n c : Nat) (xs : List Nat) (A' : Option Addr) (n' c' : Nat) (ys : List Nat) (w : World)
    (h : Rd w A xs) (hn : xs.length = n) (hc : n ≤ c) (hm : n ≤ 70368744177663) (h' : Rd w A' ys) (hn' : ys.length = n') (hc' : n' ≤ c') (hm' : n' ≤ 70368744177663)
include h hn hc hm h' hn' hc' hm'

set_option maxHeartbeats 1000000 in
theorem quo_zero (h0 : wl ys = 0) : Calls Tryd.prog 39 #[.slice A n c, .slice A' n' c'] w (QuoPost w [] [] 1) := by
  have hA : ∀ (k : Nat), Rd (w.drewN k) A xs := fun k => h
  have hA' : ∀ (k : Nat), Rd (w.drewN k) A' ys := fun k => h'
  have hle := wl_le xs
  have hle' := wl_le ys
  have cut1 := fun W => run_cut_h W A n c (wl xs) (by omega)
  have cut2 := fun W => run_cut_h W A' n' c' (wl ys) (by omega)
  have WX := fun W hW => words_any A n c xs W hW hn (by omega)
  have WY := fun W hW => words_any A' n' c' ys W hW hn' (by omega)
  rw [h0] at WY cut2
  have HX := Lib.hid WX
  have HY := Lib.hid WY
  clear WX WY hn hn' hle hle' h0
  go_enter Tryd.func39, Tryd.ntmps39
  go_wp2
  go_quiet ((first
    | (go_at_call 63; with_reducible exact quiet_left (HX.out _ (hA _)))
    | (go_at_call 63; with_reducible exact quiet_left (HY.out _ (hA' _)))))
  go_wp2
  go_ret3
  exact ⟨w.heap.size, w.heap.size + 1, none, none, by omega, by omega, by omega, rfl, Own.nil _ _ _, Own.nil _ _ _, below_drewN (Below.refl _ w) _⟩

set_option maxHeartbeats 1000000 in
theorem quo_long (h0 : wl ys ≠ 0) (hlong : (long (val xs) || long (val ys)) = true) : Calls Tryd.prog 39 #[.slice A n c, .slice A' n' c'] w (QuoPost w [] [] 2) := by
  have hA : ∀ (k : Nat), Rd (w.drewN k) A xs := fun k => h
  have hA' : ∀ (k : Nat), Rd (w.drewN k) A' ys := fun k => h'
  have hle := wl_le xs
  have hle' := wl_le ys
  have cut1 := fun W => run_cut_h W A n c (wl xs) (by omega)
  have cut2 := fun W => run_cut_h W A' n' c' (wl ys) (by omega)
  have HX := Lib.hid (fun W hW => words_any A n c xs W hW hn (by omega))
  have HY := Lib.hid (fun W hW => words_any A' n' c' ys W hW hn' (by omega))
  have hb0 : ((wl ys : Int) == 0) = false := by simp; omega
  have hL := long2_any (w.heap.size) A (wl xs) c (xs.take (wl xs)) A' (wl ys) c' (ys.take (wl ys))
  have HT := Lib.hid (fun (o : Obj) (k : Nat) => And.intro (Rd.drewN (h.keep (fun b o' hb => World.cell?_alloc_lt w o _ hb)) k : Rd ((w.alloc o).drewN k) A xs) (Rd.drewN (h'.keep (fun b o' hb => World.cell?_alloc_lt w o _ hb)) k : Rd ((w.alloc o).drewN k) A' ys))
  have HV := Lib.hid (And.intro (show (xs.take (wl xs)).length = wl xs from length_norm xs) (And.intro (show val (xs.take (wl xs)) = val xs from val_norm xs) (And.intro (show (ys.take (wl ys)).length = wl ys from length_norm ys) (show val (ys.take (wl ys)) = val ys from val_norm ys))))
  rw [← HV.out.2.1, ← HV.out.2.2.2] at hlong
  have HL := Lib.hid hL
  have hN : wl xs ≤ 70368744177663 := by omega
  have hM : wl ys ≤ 70368744177663 := by omega
  clear hn hn' hle hle' h0 hL
  go_enter Tryd.func39, Tryd.ntmps39
  go_wp2
  go_quiet ((first
    | (go_at_call 63; with_reducible exact quiet_left (HX.out _ (hA _)))
    | (go_at_call 63; with_reducible exact quiet_left (HY.out _ (hA' _)))))
  go_wp2_with (go_at_call 65; refine (HL.out _ ((HT.out _ _).1.take _) HV.out.1 (by omega) ((HT.out _ _).2.take _) HV.out.2.2.1 (by omega) (by simp [World.cell?_alloc_new]) (by simp [World.cell?_alloc_new])).mono ?_; rintro e w' ⟨rfl, rfl⟩)
  go_ret3
  exact ⟨w.heap.size, w.heap.size + 1, none, none, by omega, by omega, by omega, rfl, Own.nil _ _ _, Own.nil _ _ _, below_drewN ((Below.refl _ w).alloc (Nat.le_refl _) _) _⟩

set_option maxHeartbeats 1000000 in
theorem quo_less (h0 : wl ys ≠ 0) (hlong : (long (val xs) || long (val ys)) = false) (hlt : val xs < val ys) : Calls Tryd.prog 39 #[.slice A n c, .slice A' n' c'] w (QuoPost w [] (dig (val xs)) 0) := by
  have hA : ∀ (k : Nat), Rd (w.drewN k) A xs := fun k => h
  have hA' : ∀ (k : Nat), Rd (w.drewN k) A' ys := fun k => h'
  have hle := wl_le xs
  have hle' := wl_le ys
  have cut1 := fun W => run_cut_h W A n c (wl xs) (by omega)
  have cut2 := fun W => run_cut_h W A' n' c' (wl ys) (by omega)
  have HX := Lib.hid (fun W hW => words_any A n c xs W hW hn (by omega))
  have HY := Lib.hid (fun W hW => words_any A' n' c' ys W hW hn' (by omega))
  have hb0 : ((wl ys : Int) == 0) = false := by simp; omega
  have hL := long2_any (w.heap.size) A (wl xs) c (xs.take (wl xs)) A' (wl ys) c' (ys.take (wl ys))
  have HT := Lib.hid (fun (o : Obj) (k : Nat) => And.intro (Rd.drewN (h.keep (fun b o' hb => World.cell?_alloc_lt w o _ hb)) k : Rd ((w.alloc o).drewN k) A xs) (Rd.drewN (h'.keep (fun b o' hb => World.cell?_alloc_lt w o _ hb)) k : Rd ((w.alloc o).drewN k) A' ys))
  have HV := Lib.hid (And.intro (show (xs.take (wl xs)).length = wl xs from length_norm xs) (And.intro (show val (xs.take (wl xs)) = val xs from val_norm xs) (And.intro (show (ys.take (wl ys)).length = wl ys from length_norm ys) (show val (ys.take (wl ys)) = val ys from val_norm ys))))
  rw [← HV.out.2.1, ← HV.out.2.2.2] at hlong hlt
  rw [← HV.out.2.1]
  have hcm := cmp_lt hlt
  have hC := fun W hW hW' => cmp_any A (wl xs) c (xs.take (wl xs)) A' (wl ys) c' (ys.take (wl ys)) W hW HV.out.1 (by omega) hW' HV.out.2.2.1 (by omega)
  rw [hcm] at hC
  have hN1 := fun W hW => norm_any A (wl xs) c (xs.take (wl xs)) W hW HV.out.1 (by omega)
  have HL := Lib.hid hL
  have HC := Lib.hid hC
  have HN1 := Lib.hid hN1
  have HB := Lib.hid (fun (o : Obj) (k : Nat) => (below_drewN ((Below.refl _ w).alloc (Nat.le_refl _) o) k : Below w.heap.size w ((w.alloc o).drewN k)))
  have hN : wl xs ≤ 70368744177663 := by omega
  have hM : wl ys ≤ 70368744177663 := by omega
  clear hn hn' hle hle' h0 hL hC hN1 hcm hlt
  go_enter Tryd.func39, Tryd.ntmps39
  go_wp2
  go_quiet ((first
    | (go_at_call 63; with_reducible exact quiet_left (HX.out _ (hA _)))
    | (go_at_call 63; with_reducible exact quiet_left (HY.out _ (hA' _)))))
  go_wp2_with (first
    | (go_at_call 65; refine (HL.out _ ((HT.out _ _).1.take _) HV.out.1 (by omega) ((HT.out _ _).2.take _) HV.out.2.2.1 (by omega) (by simp [World.cell?_alloc_new]) (by simp [World.cell?_alloc_new])).mono ?_; rintro e w' ⟨rfl, rfl⟩)
    | (go_at_call 42; refine (HC.out _ ((HT.out _ _).1.take _) ((HT.out _ _).2.take _)).mono ?_; rintro e w' ⟨rfl, kd, rfl⟩)
    | (go_at_call 66; refine (HN1.out _ ((HT.out _ _).1.take _)).mono ?_; rintro e w2 ⟨g, A2, hg, rfl, ho, -, -, hb⟩))
  go_ret3
  have hg' : w.heap.size + 1 ≤ g := by simpa using hg
  exact ⟨w.heap.size, g, none, A2, by omega, by omega, by omega, rfl, Own.nil _ _ _, ho, (HB.out _ _).trans (hb.mono (by simp))⟩

set_option maxHeartbeats 1000000 in
theorem quo_one (h0 : wl ys = 1) (hlong : (long (val xs) || long (val ys)) = false) (hlt : ¬ val xs < val ys) : Calls Tryd.prog 39 #[.slice A n c, .slice A' n' c'] w (QuoPost w (dig (val xs / val ys)) (dig (val xs % val ys)) 0) := by
  have hA : ∀ (k : Nat), Rd (w.drewN k) A xs := fun k => h
  have hA' : ∀ (k : Nat), Rd (w.drewN k) A' ys := fun k => h'
  have hle := wl_le xs
  have hle' := wl_le ys
  have cut1 := fun W => run_cut_h W A n c (wl xs) (by omega)
  have hL := long2_any (w.heap.size) A (wl xs) c (xs.take (wl xs)) A' (wl ys) c' (ys.take (wl ys))
  have HT := Lib.hid (fun (o : Obj) (k : Nat) => And.intro (Rd.drewN (h.keep (fun b o' hb => World.cell?_alloc_lt w o _ hb)) k : Rd ((w.alloc o).drewN k) A xs) (Rd.drewN (h'.keep (fun b o' hb => World.cell?_alloc_lt w o _ hb)) k : Rd ((w.alloc o).drewN k) A' ys))
  have HV := Lib.hid (And.intro (show (xs.take (wl xs)).length = wl xs from length_norm xs) (And.intro (show val (xs.take (wl xs)) = val xs from val_norm xs) (And.intro (show (ys.take (wl ys)).length = wl ys from length_norm ys) (show val (ys.take (wl ys)) = val ys from val_norm ys))))
  rw [← HV.out.2.1, ← HV.out.2.2.2] at hlong hlt
  have hC := fun W hW hW' => cmp_any A (wl xs) c (xs.take (wl xs)) A' (wl ys) c' (ys.take (wl ys)) W hW HV.out.1 (by omega) hW' HV.out.2.2.1 (by omega)
  obtain ⟨cv, hcv⟩ : ∃ cv, cmp (val (xs.take (wl xs))) (val (ys.take (wl ys))) = cv := ⟨_, rfl⟩
  have hcv0 : 0 ≤ cv := by rw [← hcv]; unfold cmp; rw [if_neg hlt]; split <;> decide
  have hcv1 : cv ≤ 1 := by rw [← hcv]; unfold cmp; rw [if_neg hlt]; split <;> decide
  rw [hcv] at hC
  obtain ⟨y, hgy⟩ : ∃ y, ys.getD 0 0 = y := ⟨_, rfl⟩
  have hvy : val ys = y := by rw [← HV.out.2.2.2, h0, val_take_succ, hgy]; simp
  have hy32 : y < 4294967296 := by rw [← hgy]; exact h'.1.getD 0
  have hy0 : 0 < y := by
    have := pos_of_wl (xs := ys) (by omega)
    omega
  obtain ⟨b, o, rfl, hcy⟩ := h'.cells (by omega)
  have hcy0 := hcy 0 (by omega)
  rw [hgy] at hcy0
  have hO := fun W hW => one_any A (wl xs) c (xs.take (wl xs)) y W hW HV.out.1 (by omega) hy0 hy32
  rw [HV.out.2.1] at hO
  have hcw : ∀ (o' : Obj), (w.alloc o').cell? ⟨b, o, none⟩ = some (.int .u32 (y : Int)) := fun o' => (World.cell?_alloc_lt _ _ _ (lt_of_cell hcy0)).trans hcy0
  rw [hvy]
  rw [h0] at hL hlong HV hC
  have cut2 : ∀ W, (Instr.slice 37 (.slice (some ⟨b, o, none⟩) n' c') none (some (.int .i64 (1 : Int))) none).run Tryd.prog W = .ok (.slice (some ⟨b, o, none⟩) 1 c') W := fun W => run_cut_h W _ n' c' 1 (by omega)
  have WY : ∀ W, Rd W (some ⟨b, o, none⟩) ys → Calls Tryd.prog 63 #[.slice (some ⟨b, o, none⟩) n' c'] W fun e w' => e = .returned (.int .i64 (1 : Int)) ∧ W = w' := fun W hW => by
    have := words_any (some ⟨b, o, none⟩) n' c' ys W hW hn' (by omega)
    rw [h0] at this
    exact this
  have HX := Lib.hid (fun W hW => words_any A n c xs W hW hn (by omega))
  have HY := Lib.hid WY
  have HL := Lib.hid hL
  have HC := Lib.hid hC
  have HO := Lib.hid hO
  have HB := Lib.hid (fun (o : Obj) (k : Nat) => (below_drewN ((Below.refl _ w).alloc (Nat.le_refl _) o) k : Below w.heap.size w ((w.alloc o).drewN k)))
  have hN : wl xs ≤ 70368744177663 := by omega
  clear hn hn' hle hle' h0 hL hC hO hcv hlt hgy hvy hcy WY hcy0
  go_enter Tryd.func39, Tryd.ntmps39
  go_wp2
  go_quiet ((first
    | (go_at_call 63; with_reducible exact quiet_left (HX.out _ (hA _)))
    | (go_at_call 63; with_reducible exact quiet_left (HY.out _ (hA' _)))))
  go_wp2_with (first
    | (go_at_call 65; refine (HL.out _ ((HT.out _ _).1.take _) HV.out.1 (by omega) ((HT.out _ _).2.take _) HV.out.2.2.1 (by omega) (by simp [World.cell?_alloc_new]) (by simp [World.cell?_alloc_new])).mono ?_; rintro e w' ⟨rfl, rfl⟩)
    | (go_at_call 42; refine (HC.out _ ((HT.out _ _).1.take _) ((HT.out _ _).2.take _)).mono ?_; rintro e w' ⟨rfl, kd, rfl⟩)
    | (go_at_call 71; refine (HO.out _ ((HT.out _ _).1.take _)).mono ?_; rintro e w2 ⟨A1, A2, g2, rfl, ho1, hg, ho2, hb⟩))
  go_ret3
  have hg' : w.heap.size + 1 < g2 := by simpa using hg
  have ho1' : Own w2 (w.heap.size + 1) A1 (dig (val xs / y)) := by simpa using ho1
  exact ⟨w.heap.size + 1, g2, A1, A2, by omega, by omega, by omega, rfl, ho1', ho2, (HB.out _ _).trans (hb.mono (by simp))⟩
end
end Go.Proofs.YtiadjcilfljdaaaDoor
