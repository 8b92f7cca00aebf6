/- Contracts of nat: less, Sub. -/
import Derived.Test.YtniogjkkhkibhaaDoorNatC
import Derived.Test.YtniogjkkhkibhaaDoorPlain
namespace Go.Proofs.YtniogjkkhkibhaaDoor
set_option linter.unusedVariables false
set_option linter.unusedSimpArgs false
open Go.RowKit Verge

theorem grownBy_refl (w : World) (row : Option Nat) : w.grownBy w row := ⟨rfl, rfl, rfl, Nat.le_refl _, fun _ _ _ => rfl⟩
theorem grownBy_trans {a b c : World} {row : Option Nat} (h : a.grownBy b row) (k : b.grownBy c row) : a.grownBy c row :=
  ⟨k.os.trans h.os, k.tape.trans h.tape, k.output.trans h.output, Nat.le_trans h.size k.size, fun i hi hne => (k.block i (Nat.lt_of_lt_of_le hi h.size) hne).trans (h.block i hi hne)⟩
theorem grownBy_set {a w : World} {g : Nat} (h : a.grownBy w (some g)) (i : Nat) (u : Value) : a.grownBy (w.setCell ⟨g, i, none⟩ u) (some g) :=
  grownBy_trans h ⟨rfl, rfl, rfl, by simp [World.setCell], fun k hk hne => Below.heap_setCell w _ u k (by rintro rfl; exact hne rfl)⟩
theorem grownBy_drewN {a w : World} {row : Option Nat} (h : a.grownBy w row) (n : Nat) : a.grownBy (w.drewN n) row := ⟨h.os, h.tape, h.output, h.size, h.block⟩
theorem grownBy_alloc {a w : World} {row : Option Nat} (h : a.grownBy w row) (o : Obj) : a.grownBy (w.alloc o) row := grownBy_trans h (World.grownBy_alloc w o row)
theorem grownBy_below {a w : World} {row : Option Nat} (h : Below a.heap.size a w) : a.grownBy w row := ⟨h.os, h.tape, h.output, h.size, fun i hi _ => h.block i hi⟩

set_option maxHeartbeats 1000000 in
/-- nat.less: it takes b from the row g, in place. -/
theorem less_any (g nl cl : Nat) (L : List Nat) (B : Option Addr) (nb cb : Nat) (Y : List Nat) (w : World)
    (hL : Blk w g L) (hl : L.length = nl) (hY : ∀ w', w.grownBy w' (some g) → Rd w' B Y) (hn : Y.length = nb) (hle : nb ≤ nl) (hv : val Y ≤ val L) (hm : nl ≤ 140737488355328) :
    Calls Tryd.prog 82 #[.slice (some ⟨g, 0, none⟩) nl cl, .slice B nb cb] w fun e w' => e = .returned (.tuple #[]) ∧
      ∃ L', w.grownBy w' (some g) ∧ Blk w' g L' ∧ L'.length = nl ∧ val L' + val Y = val L := by
  have HY := Lib.hid hY
  have HN := Lib.hid (And.intro hl (And.intro hn hv))
  have HL := Lib.hid hL
  clear hY hl hn hL hv
  go_enter Tryd.func82, Tryd.ntmps82
  go_wp2
  go_loopw [4, 5, 6, 9] (fun bv _ _ i wr => ∃ (k c : Nat) (L' : List Nat), k ≤ nl ∧ i = .int .i64 k ∧ bv = .int .u32 c ∧ c ≤ 1 ∧ Blk wr g L' ∧
    Hid (L'.length = nl ∧ val (L'.take k) + val (Y.take k) = val (L.take k) + c * 4294967296 ^ k ∧ L'.drop k = L.drop k) ∧ w.grownBy wr (some g)) (fun _ _ _ i _ => nl - (intOf i).toNat)
  case atStart => exact ⟨0, 0, L, by omega, rfl, rfl, by omega, HL.out, ⟨HN.out.1, by simp, rfl⟩, grownBy_refl w _⟩
  case round =>
    obtain ⟨k, c, L', hk, rfl, rfl, hc, hL', hI, hG⟩ := hrel
    have hlen := hI.out.1
    by_cases hkn : k < nl
    · have hcl := hL'.cell (i := k) (by omega)
      have hfz := hL'.frozen k
      have hx32 := hL'.1.getD k
      clear hlen
      obtain ⟨x, hgx⟩ : ∃ x, L'.getD k 0 = x := ⟨_, rfl⟩
      rw [hgx] at hcl hx32
      have HGX := Lib.hid hgx; clear hgx
      by_cases hkb : k < nb
      · obtain ⟨b, o, rfl, hcy⟩ := (HY.out _ hG).cell (k := k) (by rw [HN.out.2.1]; exact hkb)
        have hy32 := (HY.out _ hG).1.getD k
        obtain ⟨y, hgy⟩ : ∃ y, Y.getD k 0 = y := ⟨_, rfl⟩
        rw [hgy] at hcy hy32
        have HGY := Lib.hid hgy; clear hgy
        have hge : decide (nb ≤ k) = false := by simp; omega
        go_wp2_with (go_at_call 81; refine (sub32_any _ _ _ (by omega) (by omega) (by omega) (by omega) (by omega) (by omega) _).mono ?_; rintro e w' ⟨rfl, rfl⟩)
        go_roundw
        case rel =>
          obtain ⟨h1, h2, h3⟩ := hI.out
          obtain ⟨s, hs⟩ : ∃ s : Nat, ((x : Int) - y - c) % 4294967296 = s := ⟨(((x : Int) - y - c) % 4294967296).toNat, by omega⟩
          obtain ⟨c', hc'⟩ : ∃ c' : Nat, ((y : Int) + c - x + 4294967295) / 4294967296 = c' := ⟨(((y : Int) + c - x + 4294967295) / 4294967296).toNat, by omega⟩
          obtain ⟨h4, h5⟩ := sub_step L L' Y k c s c' (by omega) (by have := HN.out.1; omega) h3 h2 (by rw [HGX.out, HGY.out]; omega)
          exact ⟨k + 1, c', L'.set k s, by omega, by go_num, by rw [hc'], by omega, hL'.setI k (by omega) (by omega) (by omega), ⟨by rw [List.length_set]; exact h1, h4, h5⟩, grownBy_set hG _ _⟩
        case measure => simp [intOf]; omega
      · have hgy : Y.getD k 0 = 0 := getD_ge Y (by rw [HN.out.2.1]; omega)
        have HGY := Lib.hid hgy; clear hgy
        have hge : decide (nb ≤ k) = true := by simp; omega
        rcases Nat.eq_zero_or_pos c with h0 | h0
        · subst h0
          go_wp2
          refine bodyPost_ret (results_none rfl _ _ _) rfl ?_
          obtain ⟨h1, h2, h3⟩ := hI.out
          exact ⟨rfl, L', hG, hL', h1, sub_early L L' Y k (by have := HN.out.1; omega) (by have := HN.out.1; omega) h3 (by have := HN.out.2.1; omega) h2⟩
        · obtain rfl : c = 1 := by omega
          go_wp2_with (go_at_call 81; refine (sub32_any _ _ _ (by omega) (by omega) (by omega) (by omega) (by omega) (by omega) _).mono ?_; rintro e w' ⟨rfl, rfl⟩)
          go_roundw
          case rel =>
            obtain ⟨h1, h2, h3⟩ := hI.out
            obtain ⟨h4, h5⟩ := sub_step L L' Y k 1 ((x + 4294967295) % 4294967296) (if x = 0 then 1 else 0) (by omega) (by have := HN.out.1; omega) h3 h2 (by rw [HGX.out, HGY.out]; split <;> omega)
            exact ⟨k + 1, _, L'.set k ((x + 4294967295) % 4294967296), by omega, by go_num, by congr 1; split <;> omega, by split <;> omega, hL'.setI k (by omega) (by omega) (by omega), ⟨by rw [List.length_set]; exact h1, h4, h5⟩, grownBy_set hG _ _⟩
          case measure => simp [intOf]; omega
    · obtain rfl : k = nl := by omega
      clear hlen
      go_wp2
      go_end0
      obtain ⟨h1, h2, h3⟩ := hI.out
      exact ⟨rfl, L', hG, hL', h1, sub_end L L' Y k c hL'.1 h1 HN.out.1 (by have := HN.out.2.1; omega) HN.out.2.2 h2⟩

set_option maxHeartbeats 1000000 in
/-- nat.Sub. -/
theorem sub_any (A : Option Addr) (n c : Nat) (xs : List Nat) (A' : Option Addr) (n' c' : Nat) (ys : List Nat) (w : World)
    (h : Rd w A xs) (hn : xs.length = n) (hc : n ≤ c) (hm : n ≤ 70368744177664) (h' : Rd w A' ys) (hn' : ys.length = n') (hc' : n' ≤ c') (hm' : n' ≤ 70368744177664) :
    Calls Tryd.prog 69 #[.slice A n c, .slice A' n' c'] w fun e w' => ∃ g A1, w.heap.size ≤ g ∧
      e = .returned (.tuple #[.slice A1 (nsub (val xs) (val ys)).1.length (nsub (val xs) (val ys)).1.length, .int .i64 (nsub (val xs) (val ys)).2]) ∧
      Own w' g A1 (nsub (val xs) (val ys)).1 ∧ Below w.heap.size w w' := by
  have hA : ∀ (o : Obj) (k : Nat), Rd ((w.alloc o).drewN k) A xs := fun o k => Rd.drewN (h.keep (fun b o hb => World.cell?_alloc_lt w _ _ hb)) k
  have hA' : ∀ (o : Obj) (k : Nat), Rd ((w.alloc o).drewN k) A' ys := fun o k => Rd.drewN (h'.keep (fun b o hb => World.cell?_alloc_lt w _ _ hb)) k
  have hB1 : ∀ (o : Obj) (k : Nat), Below w.heap.size w ((w.alloc o).drewN k) := fun o k => below_drewN ((Below.refl _ w).alloc (Nat.le_refl _) o) k
  have HC := Lib.hid (cmp_any A n c xs A' n' c' ys w h hn (by omega) h' hn' (by omega))
  by_cases hlt : val xs < val ys
  · rw [nsub_arg hlt]
    rw [cmp_lt hlt] at HC
    clear hlt
    go_enter Tryd.func69, Tryd.ntmps69
    go_wp2_with (go_at_call 22; refine HC.out.mono ?_; rintro e w' ⟨rfl, kd, rfl⟩)
    go_ret2
    exact ⟨w.heap.size, none, by omega, rfl, Own.nil _ _ _, below_drewN (Below.refl _ w) _⟩
  · have hcmp : cmp (val xs) (val ys) = 0 ∨ cmp (val xs) (val ys) = 1 := by
      unfold cmp; rw [if_neg hlt]; split <;> simp
    obtain ⟨cv, hcv⟩ : ∃ cv, cmp (val xs) (val ys) = cv := ⟨_, rfl⟩
    rw [hcv] at HC hcmp
    have hcv0 : 0 ≤ cv := by omega
    have hcv1 : cv ≤ 1 := by omega
    clear hcv hcmp
    by_cases hlong : (long (val xs) || long (val ys)) = true
    · rw [nsub_long hlt hlong]
      clear hlt
      go_enter Tryd.func69, Tryd.ntmps69
      go_wp2_with (first
        | (go_at_call 22; refine HC.out.mono ?_; rintro e w' ⟨rfl, kd, rfl⟩)
        | (go_at_call 33; refine (long2_any _ A n c xs A' n' c' ys _ (hA _ _) hn (by omega) (hA' _ _) hn' (by omega) (by simp [World.cell?_alloc_new]) (by simp [World.cell?_alloc_new])).mono ?_; rintro e w' ⟨rfl, rfl⟩))
      go_ret2
      exact ⟨w.heap.size, none, by omega, rfl, Own.nil _ _ _, hB1 _ _⟩
    · have hlong' : (long (val xs) || long (val ys)) = false := by simpa using hlong
      clear hlong
      rw [nsub_fit hlt hlong']
      have hlx : wl xs ≤ 16384 := by
        have := hlong'; rw [Bool.or_eq_false_iff, long_false, long_false, ← wl_eq h.1, ← wl_eq h'.1] at this; exact this.1
      have hly : wl ys ≤ 16384 := by
        have := hlong'; rw [Bool.or_eq_false_iff, long_false, long_false, ← wl_eq h.1, ← wl_eq h'.1] at this; exact this.2
      have hmono : wl ys ≤ wl xs := by
        rw [wl_eq h.1, wl_eq h'.1]; exact dig_length_mono (by omega)
      have hlx' : (dig (val xs)).length = wl xs := (wl_eq h.1).symm
      have cut2 := fun W => run_cut_h W A' n' c' (wl ys) (by have := wl_le ys; omega)
      have HY := Lib.hid (fun W hW => words_any A' n' c' ys W hW hn' (by omega))
      have HV := Lib.hid (And.intro hlx' (And.intro (show (ys.take (wl ys)).length = wl ys from length_norm ys) (And.intro (show val (ys.take (wl ys)) = val ys from val_norm ys) (And.intro hn (And.intro hn' (show val ys ≤ val xs by omega))))))
      have hWn : wl ys ≤ n' := by have := wl_le ys; omega
      have hbx : wl ys ≤ (dig (val xs)).length ∧ (dig (val xs)).length ≤ 16384 := by omega
      clear hlx' hn hn' hlt
      go_enter Tryd.func69, Tryd.ntmps69
      go_wp2_with (first
        | (go_at_call 22; refine HC.out.mono ?_; rintro e w' ⟨rfl, kd, rfl⟩)
        | (go_at_call 33; refine (long2_any _ A n c xs A' n' c' ys _ (hA _ _) HV.out.2.2.2.1 (by omega) (hA' _ _) HV.out.2.2.2.2.1 (by omega) (by simp [World.cell?_alloc_new]) (by simp [World.cell?_alloc_new])).mono ?_; rintro e w' ⟨rfl, rfl⟩)
        | fail)
      refine (norm_any A n c xs _ (hA _ _) HV.out.2.2.2.1 hm).mono ?_
      rintro e w2 ⟨g, A2, hg, rfl, -, hB2, rfl, hb⟩
      have hg' : w.heap.size + 1 ≤ g := by simpa using hg
      have hbw : Below w.heap.size w w2 := (hB1 _ _).trans (hb.mono (by simp))
      have hY2 := (hA' _ _).below hb
      have hYg : ∀ w', w2.grownBy w' (some g) → Rd w' A' (ys.take (wl ys)) := fun w' hG => (h'.take _).keep (bcell (hbw.grown hG (by have := hbw.size; omega) (by intro k hk; injection hk; omega)))
      have HYg := Lib.hid hYg
      have HB2 := Lib.hid hB2
      clear hYg hB2 hg hA hA' hB1
      go_wp2_with fail
      refine (HY.out _ hY2).mono ?_
      rintro e w' ⟨rfl, rfl⟩
      go_wp2_with fail
      refine (less_any g _ _ (dig (val xs)) A' (wl ys) c' (ys.take (wl ys)) w2 HB2.out rfl HYg.out HV.out.2.1 hbx.1 (by rw [val_dig, HV.out.2.2.1]; exact HV.out.2.2.2.2.2) (by omega)).mono ?_
      rintro e w3 ⟨rfl, L', hG, hL', hlen, hv⟩
      have hb3 : Below w.heap.size w w3 := hbw.grown hG (by have := hbw.size; omega) (by intro k hk; injection hk; omega)
      have hv3 : val L' = val xs - val ys := by rw [val_dig, HV.out.2.2.1] at hv; omega
      have HL := Lib.hid (And.intro hL' (And.intro hlen hv3))
      clear hL' hlen hv hv3 hG HYg HB2 hY2
      go_wp2_with fail
      refine (fit_any g _ _ L' w3 HL.out.1 HL.out.2.1 (Nat.le_refl _) (by omega)).mono ?_
      rintro e w' ⟨A1, rfl, ho, rfl⟩
      rw [HL.out.2.2] at ho ⊢
      have HO := Lib.hid ho
      clear ho
      go_wp2
      go_ret2
      exact ⟨g, A1, by omega, rfl, HO.out, hb3⟩
end Go.Proofs.YtniogjkkhkibhaaDoor
