/- Contracts of nat: down, Shr. -/
import Derived.Test.YtniogjkkhkibhaaDoorNatJ
import Derived.Deep.CutBlock
namespace Go.Proofs.YtniogjkkhkibhaaDoor
set_option linter.unusedVariables false
set_option linter.unusedSimpArgs false
open Go.RowKit Verge

/-- What down answers. -/
def DownPost (w : World) (v e : Nat) (en : Ending) (w' : World) : Prop :=
  ∃ g A1, w.heap.size ≤ g ∧ en = .returned (.tuple #[.slice A1 (dig (v / 2 ^ e)).length (dig (v / 2 ^ e)).length, .bool (decide (v % 2 ^ e ≠ 0))]) ∧ Own w' g A1 (dig (v / 2 ^ e)) ∧ Below w.heap.size w w'

set_option maxHeartbeats 1000000 in
theorem down_none (A : Option Addr) (n c : Nat) (X : List Nat) (e : Nat) (w : World) (h : Rd w A X) (hn : X.length = n) (hc : n ≤ c) (hm : n ≤ 70368744177663) (he : e ≤ 9223372036854775807) (hk : wl X ≤ e / 32) :
    Calls Tryd.prog 44 #[.slice A n c, .int .i64 (e : Int)] w (DownPost w (val X) e) := by
  have hle := wl_le X
  have cut1 := fun W => run_cut_h W A n c (wl X) (by omega)
  have hX := words_any A n c X w h hn (by omega)
  obtain ⟨d1, d2⟩ := down_all h.1 e hk
  have hd : decide (val X % 2 ^ e ≠ 0) = decide (0 < wl X) := by
    rw [d2]
    have := val_eq_zero_iff X
    by_cases h0 : wl X = 0
    · simp [h0, this.2 h0]
    · have h1 : val X ≠ 0 := fun e => h0 (this.1 e)
      simp [h1]; omega
  obtain ⟨k, hke⟩ : ∃ k, e / 32 = k := ⟨_, rfl⟩
  have hkI : (e : Int) / 32 = (k : Int) := by omega
  rw [hke] at hk
  have HX := Lib.hid hX
  have HD := Lib.hid (And.intro d1 hd)
  clear hX d1 d2 hd hn h hke
  go_enter Tryd.func44, Tryd.ntmps44
  go_wp2
  go_step3
  go_wp2_with (go_at_call 32; refine HX.out.mono ?_; rintro en w' ⟨rfl, rfl⟩)
  rw [Exit.noGoto_ret]
  go_ret2
  unfold DownPost
  rw [HD.out.1, HD.out.2, dig_zero]
  exact ⟨w.heap.size, none, by omega, by simp, Own.nil _ _ _, Below.refl _ w⟩

set_option maxRecDepth 100000 in
set_option maxHeartbeats 8000000 in
theorem down_some (A : Option Addr) (n c : Nat) (X : List Nat) (e : Nat) (w : World) (h : Rd w A X) (hn : X.length = n) (hc : n ≤ c) (hm : n ≤ 70368744177663) (hmc : c ≤ 140737488355328) (he : e ≤ 9223372036854775807) (hk : e / 32 < wl X) :
    Calls Tryd.prog 44 #[.slice A n c, .int .i64 (e : Int)] w (DownPost w (val X) e) := by
  have hle := wl_le X
  have cut1 := fun W => run_cut_h W A n c (wl X) (by omega)
  have hX := words_any A n c X w h hn (by omega)
  obtain ⟨k, hke⟩ : ∃ k, e / 32 = k := ⟨_, rfl⟩
  obtain ⟨r, hre⟩ : ∃ r, e % 32 = r := ⟨_, rfl⟩
  have hkI : (e : Int) / 32 = (k : Int) := by omega
  have hrI : (e : Int) % 32 = (r : Int) := by omega
  have hr32 : r < 32 := by omega
  rw [hke] at hk
  obtain ⟨x, hgx⟩ : ∃ x, X.getD k 0 = x := ⟨_, rfl⟩
  have hx32 : x < 4294967296 := by rw [← hgx]; exact h.1.getD k
  have hlost := down_lost h.1 e x (by rw [hke]; omega) (by rw [hke]; exact hgx)
  have hdiv := down_div h.1 e
  rw [hke, hre] at hlost hdiv
  obtain ⟨b, o, rfl, hcl⟩ := h.cells (by omega)
  have hck := hcl k (by omega)
  rw [hgx] at hck
  have hci : ∀ i, i < k → w.cell? ⟨b, o + i, none⟩ = some (.int .u32 ((X.getD i 0 : Nat) : Int)) := fun i hi => hcl i (by omega)
  have hi32 : ∀ i, X.getD i 0 < 4294967296 := fun i => h.1.getD i
  have h2r : 2 ^ r ≤ 2147483648 := by
    have := Nat.pow_le_pow_right (n := 2) (by omega) (show r ≤ 31 by omega)
    simpa using this
  have h2p : 0 < 2 ^ r := Nat.pow_pos (by omega)
  obtain ⟨N, hN⟩ : ∃ N, wl X = N := ⟨_, rfl⟩
  rw [hN] at cut1 hX hk
  have HX := Lib.hid hX
  have HD := Lib.hid (And.intro hlost (And.intro hdiv (And.intro hn hN)))
  have HC := Lib.hid hci
  have H32 := Lib.hid hi32
  have HH := Lib.hid h
  have hNn : N ≤ n := by omega
  have hj1 : (k : Int) < (N : Int) := by omega
  obtain ⟨y, hy⟩ : ∃ y, x % 2 ^ r = y := ⟨_, rfl⟩
  have hand : bits .and .u32 (x : Int) (((2 : Int) ^ r - 1) % 4294967296) = (y : Int) := by
    have e1 : (((2 : Int) ^ r - 1) % 4294967296) = ((2 ^ r - 1 : Nat) : Int) := by
      have : ((2 : Int) ^ r) = ((2 ^ r : Nat) : Int) := by simp
      rw [this]; omega
    rw [e1, u32_and_nat x (2 ^ r - 1) hx32 (by omega), Nat.and_two_pow_sub_one_eq_mod, hy]
  obtain ⟨l0, hl0⟩ : ∃ l0, ((y : Int) != 0) = l0 := ⟨_, rfl⟩
  have HY := Lib.hid (And.intro hy hl0)
  have HRI := Lib.hid hrI
  clear hX hn h hke hre hlost hdiv hcl hci hi32 hgx hN hle hy
  go_enter Tryd.func44, Tryd.ntmps44
  go_wp2
  go_step3
  go_wp2_with (go_at_call 32; refine HX.out.mono ?_; rintro en w' ⟨rfl, rfl⟩)
  go_quiet (fail)
  clear hrI
  go_wp2
  clear hand
  go_step3
  go_upto_block 0 with (fail)
  go_cut [6] from 7 to 44 (fun s6 wx => ∃ l : Bool, s6 = .bool l ∧ Hid (l = true ↔ y ≠ 0 ∨ val (X.take k) ≠ 0) ∧ ∃ d, wx = w.drewN d)
  case first =>
    go_wp2
    go_loop [6, 7, 33, 36, 38] (fun lv _ iv _ _ => ∃ (i : Nat) (l : Bool), i ≤ k ∧ iv = .int .i64 i ∧ lv = .bool l ∧ Hid (l = true ↔ y ≠ 0 ∨ val (X.take i) ≠ 0)) (fun _ _ iv _ _ => k - (intOf iv).toNat)
    case atStart => exact ⟨0, l0, by omega, rfl, rfl, show _ ↔ _ by
      rw [← HY.out.2]; simp⟩
    case round =>
      obtain ⟨i, l, hi, rfl, rfl, hl⟩ := hrel
      by_cases hik : i < k
      · cases l with
        | true =>
          go_wp2
          go_meet
          case rel =>
            refine ⟨true, rfl, show _ ↔ _ from ⟨fun _ => ?_, fun _ => rfl⟩, _, rfl⟩
            rcases hl.out.1 (by trivial) with h | h
            · exact .inl h
            · have := val_take_mono X (show i ≤ k by omega)
              exact .inr (by omega)
        | false =>
          have hci := HC.out i hik
          have hz32 := H32.out i
          obtain ⟨z, hgz⟩ : ∃ z, X.getD i 0 = z := ⟨_, rfl⟩
          rw [hgz] at hci hz32
          have HGZ := Lib.hid hgz
          clear hgz
          have hj2 : (i : Int) < (N : Int) := by omega
          by_cases hz : z = 0
          · subst hz
            go_wp2
            go_round
            case rel => exact ⟨i + 1, false, by omega, by go_num, rfl, show _ ↔ _ by
              rw [lost_step X i 0 HGZ.out]; have := hl.out; simp at this ⊢; exact this⟩
            case measure => simp [intOf]; omega
          · have hzb : ((z : Int) != 0) = true := by simpa using hz
            go_wp2
            go_round
            case rel => exact ⟨i + 1, true, by omega, by go_num, rfl, show _ ↔ _ by
              rw [lost_step X i z HGZ.out]; simp [hz]⟩
            case measure => simp [intOf]; omega
      · obtain rfl : i = k := by omega
        go_wp2
        go_meet
        case rel => exact ⟨l, rfl, hl.out, _, rfl⟩
  case rest =>
    obtain ⟨l, rfl, hl, d, rfl⟩ := hcut
    have hrd : Rd (w.drewN d) (some ⟨b, o + k, none⟩) ((X.take N).drop k) := by
      have := (HH.out.take N).cut (c := c) (l := k) (by rw [List.length_take]; omega)
      rw [cutA, if_neg (by omega)] at this
      rw [← add_none]; exact this.drewN d
    have hNr := norm_any (some ⟨b, o + k, none⟩) (N - k) (c - k) ((X.take N).drop k) (w.drewN d) hrd (by have := HD.out.2.2.1; rw [List.length_drop, List.length_take]; omega) (by omega)
    obtain ⟨z, hz⟩ : ∃ z, val ((X.take N).drop k) = z := ⟨_, rfl⟩
    have hzl : (dig z).length ≤ n := by
      rw [← hz, ← wl_eq ((HH.out.1.take N).drop k)]
      have := wl_le ((X.take N).drop k)
      have h2 := HD.out.2.2.1
      rw [List.length_drop, List.length_take] at this
      omega
    rw [hz] at hNr
    have HZ := Lib.hid hz; clear hz hrd
    go_wp2_with (first
      | (go_at_call 19; refine hNr.mono ?_; rintro en w' ⟨g, A', hg, rfl, hO, hB, rfl, hb⟩)
      | (go_at_call 67; rw [HRI.out]; refine (back_any g (dig z).length (dig z).length (dig z) r w' hB (Nat.le_refl _) (Nat.le_refl _) (by omega) hr32).mono ?_; rintro en w2 ⟨A2, rfl, hO2, hG⟩))
    rw [Exit.noGoto_ret]
    go_ret2
    obtain ⟨h1, h2, h3, h4⟩ := HD.out
    have hzv : z / 2 ^ r = val X / 2 ^ e := by
      have e1 := val_div (X.take N) (HH.out.1.take N) k
      have e2 : val (X.take N) = val X := by rw [← h4]; exact val_norm X
      rw [HZ.out, e2, val_div X HH.out.1] at e1
      rw [h2, e1]
    have hlb : l = decide (val X % 2 ^ e ≠ 0) := by
      have h5 := hl.out
      rw [← HY.out.1] at h5
      have : l = true ↔ val X % 2 ^ e ≠ 0 := h5.trans h1.symm
      cases l <;> simp at this ⊢ <;> omega
    rw [List.take_length, val_dig, hzv] at hO2
    subst hlb
    refine ⟨g, A2, hg, ?_, hO2, ?_⟩
    · rw [val_dig, hzv]; rfl
    exact (below_drewN (Below.refl _ w) d |>.trans hb).grown hG (by have := hb.size; exact this) (by intro k hk; simp at hk; have : w.heap.size ≤ g := hg; omega)

/-- nat.down: without premise about e. -/
theorem down_any (A : Option Addr) (n c : Nat) (X : List Nat) (e : Nat) (w : World) (h : Rd w A X) (hn : X.length = n) (hc : n ≤ c) (hm : n ≤ 70368744177663) (hmc : c ≤ 140737488355328) (he : e ≤ 9223372036854775807) :
    Calls Tryd.prog 44 #[.slice A n c, .int .i64 (e : Int)] w (DownPost w (val X) e) := by
  by_cases hk : wl X ≤ e / 32
  · exact down_none A n c X e w h hn hc hm he hk
  · exact down_some A n c X e w h hn hc hm hmc he (by omega)

set_option maxHeartbeats 1000000 in
/-- nat.Shr. -/
theorem shr_any (A : Option Addr) (n c : Nat) (xs : List Nat) (e : Int) (w : World) (h : Rd w A xs) (hn : xs.length = n) (hc : n ≤ c) (hm : n ≤ 70368744177663) (hmc : c ≤ 140737488355328) (he0 : -9223372036854775808 ≤ e) (he1 : e ≤ 9223372036854775807) :
    Calls Tryd.prog 25 #[.slice A n c, .int .i64 e] w fun en w' => ∃ g A1, w.heap.size ≤ g ∧
      en = .returned (.tuple #[.slice A1 (nshr (val xs) e).1.length (nshr (val xs) e).1.length, .bool (nshr (val xs) e).2.1, .int .i64 (nshr (val xs) e).2.2]) ∧ Own w' g A1 (nshr (val xs) e).1 ∧ Below w.heap.size w w' := by
  by_cases hneg : e < 0
  · have hr : nshr (val xs) e = ([], false, 1) := by simp only [nshr, hneg, if_true]
    rw [hr]
    clear hr
    go_enter Tryd.func25, Tryd.ntmps25
    go_wp2
    go_ret3
    exact ⟨w.heap.size, none, by omega, rfl, Own.nil _ _ _, Below.refl _ w⟩
  · have HL := Lib.hid (fun W hW h0 => long1_any (w.heap.size) A n c xs W hW hn (by omega) h0)
    have HT := Lib.hid (fun (o : Obj) => (h.keep (fun b o' hb => World.cell?_alloc_lt w o _ hb) : Rd (w.alloc o) A xs))
    have HB := Lib.hid (fun (o : Obj) => ((Below.refl _ w).alloc (Nat.le_refl _) o : Below w.heap.size w (w.alloc o)))
    by_cases hlong : long (val xs) = true
    · have hr : nshr (val xs) e = ([], false, 2) := by simp only [nshr, hneg, hlong, if_true, if_false]
      rw [hr]
      clear hr hn h
      go_enter Tryd.func25, Tryd.ntmps25
      go_wp2_with (go_at_call 33; refine (HL.out _ (HT.out _) (by simp [World.cell?_alloc_new])).mono ?_; rintro e' w' ⟨rfl, rfl⟩)
      go_ret3
      exact ⟨w.heap.size, none, by omega, rfl, Own.nil _ _ _, HB.out _⟩
    · have hlong' : long (val xs) = false := by simpa using hlong
      obtain ⟨q, rfl⟩ : ∃ q : Nat, e = q := ⟨e.toNat, by omega⟩
      have hr : nshr (val xs) (q : Int) = (dig (val xs / 2 ^ q), decide (val xs % 2 ^ q ≠ 0), 0) := by simp [nshr, hlong']
      rw [hr]
      have HD := Lib.hid (fun W hW => down_any A n c xs q W hW hn hc hm hmc (by omega))
      clear hr hn h
      go_enter Tryd.func25, Tryd.ntmps25
      go_wp2_with (first
        | (go_at_call 33; refine (HL.out _ (HT.out _) (by simp [World.cell?_alloc_new])).mono ?_; rintro e' w' ⟨rfl, rfl⟩)
        | (go_at_call 44; refine (HD.out _ (HT.out _)).mono ?_; rintro en w2 ⟨g, A1, hg, rfl, hO, hb⟩))
      go_ret3
      refine ⟨g, A1, ?_, by simp, hO, ?_⟩
      · have : w.heap.size + 1 ≤ g := by simpa using hg
        omega
      · exact (HB.out _).trans (hb.mono (by simp))
end Go.Proofs.YtniogjkkhkibhaaDoor
