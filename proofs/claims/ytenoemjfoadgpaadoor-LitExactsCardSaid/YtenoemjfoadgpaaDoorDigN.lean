/- Layer 5: a natural in decimal digits, by the document. -/
import Derived.Test.YtenoemjfoadgpaaDoorDigF
import Derived.Test.YtenoemjfoadgpaaDoorRefB
import Derived.Test.YtenoemjfoadgpaaDoorPlainD
import Derived.Laws.OwnMore
import Derived.Laws.Concat
namespace Go.Proofs.YtenoemjfoadgpaaDoor
set_option linter.unusedVariables false
set_option linter.unusedSimpArgs false
open Go.RowKit Verge

set_option maxHeartbeats 1000000 in
/-- Norm: the list is new memory, and may be written. -/
theorem rnorm_grow (A : Option Addr) (n c : Nat) (X : List Nat) (w : World) (h : Rd w A X) (hn : X.length = n) (hm : n ≤ 35184372088800) :
    Calls Tryd.prog 59 #[.slice A n c] w (fun e w' => ∃ v, e = .returned v ∧ Grow w' w.heap.size v (dig (val X)) ∧ Below w.heap.size w w') := by
  have hD := dig_val h.1
  have hR := Lib.hid (fun W (hb : Below w.heap.size w W) => h.below hb)
  have hle := wl_le X
  have H1 := Lib.hid (And.intro hn (And.intro h hD))
  clear h hn hD
  go_enter Tryd.func59, Tryd.ntmps59
  go_wp2
  go_loop [3] (fun v => ∃ k : Nat, k ≤ n ∧ v = .int .i64 k ∧ Hid (∀ j x : Nat, k ≤ j → X[j]? = some x → x = 0)) (fun v => (intOf v).toNat)
  case atStart => exact ⟨n, Nat.le_refl _, rfl, fun j x hj hx => by rw [List.getElem?_eq_none (by have := H1.out.1; omega)] at hx; cases hx⟩
  case round =>
    obtain ⟨k, hk, rfl, hz⟩ := hrel
    by_cases hcont : ∃ j, k = j + 1 ∧ X[j]? = some 0
    · obtain ⟨j, rfl, hx⟩ := hcont
      obtain ⟨b, o, rfl, hc⟩ := (H1.out.2.1).2 (by rintro rfl; simp at hx)
      have hcell := hc j 0 hx
      have HX := Lib.hid hx; clear hx hc
      go_wp2
      go_round
      case rel => exact ⟨j, by omega, by go_num, fun i y hi hy => by
        rcases Nat.eq_or_lt_of_le hi with h | h
        · subst h; rw [HX.out] at hy; simpa using hy.symm
        · exact hz.out i y h hy⟩
      case measure => simp [intOf]
    · have hkw : wl X = k := wl_of X k (by have := H1.out.1; omega) (fun i x hi hx => hz.out i x hi hx) (fun j x hj hx hx0 => hcont ⟨j, hj, by rw [hx, hx0]⟩)
      have HK := Lib.hid hkw; clear hkw hz
      rcases Nat.eq_zero_or_pos k with hk0 | hk0
      · subst hk0
        clear hcont
        go_wp2
        go_loopw [4, 5] (fun v iv wr => v = .slice none 0 0 ∧ iv = .int .i64 0 ∧ wr = w) (fun _ _ _ => 0)
        case atStart => exact ⟨rfl, rfl, rfl⟩
        case round =>
          obtain ⟨rfl, rfl, rfl⟩ := hrel
          go_wp2
          go_ret
          have hd : dig (val X) = [] := by
            rw [H1.out.2.2, norm, HK.out]; rfl
          rw [hd]
          exact ⟨_, rfl, Grow.nil _ _, Below.refl _ _⟩
      · obtain ⟨b, o, rfl, hc⟩ := (H1.out.2.1).cells (by have := H1.out.1; omega)
        obtain ⟨j, rfl⟩ : ∃ j, k = j + 1 := ⟨k - 1, by omega⟩
        have hcell := hc j (by have := H1.out.1; omega)
        have hne : ((X.getD j 0 : Nat) : Int) ≠ 0 := by
          intro e
          exact hcont ⟨j, rfl, by rw [get_of_lt X (by have := H1.out.1; omega)]; congr 1; omega⟩
        obtain ⟨y, hy⟩ : ∃ y, X.getD j 0 = y := ⟨_, rfl⟩
        rw [hy] at hcell hne
        have hyb : ((y : Int) == 0) = false := by rw [beq_eq_false_iff_ne]; exact hne
        clear hcont hne hy hc
        go_wp2
        clear hyb hcell
        go_loopw [4, 5] (fun v iv wr => ∃ i : Nat, i ≤ j + 1 ∧ iv = .int .i64 i ∧ Grow wr w.heap.size v (X.take i) ∧ Below w.heap.size w wr) (fun _ iv _ => j + 1 - (intOf iv).toNat)
        case atStart => exact ⟨0, by omega, rfl, by rw [List.take_zero]; exact Grow.nil _ _, Below.refl _ _⟩
        case round =>
          obtain ⟨i, hi, rfl, hG, hb⟩ := hrel
          by_cases hij : i < j + 1
          · obtain ⟨b2, o2, he, hcx⟩ := (hR.out _ hb).cell (k := i) (by have := H1.out.1; omega)
            simp only [Option.some.injEq, Addr.mk.injEq, and_true] at he
            obtain ⟨rfl, rfl⟩ := he
            have hx32 := (hR.out _ hb).1.getD i
            obtain ⟨x, hgx⟩ : ∃ x, X.getD i 0 = x := ⟨_, rfl⟩
            rw [hgx] at hcx hx32
            have HGX := Lib.hid hgx; clear hgx
            have hsz := hb.size
            have hlen : (X.take i).length + 1 ≤ 35184372088832 := by rw [List.length_take]; omega
            have hin : (i : Int) < (n : Int) := by omega
            go_wp2_with (refine wpList_push rfl _ _ rfl w.heap.size _ (X.take i) rfl wr _ x rfl rfl hx32 hG rfl hlen hsz w hb ?_; intro v' w1 hG1 hb1)
            go_roundw
            case rel => exact ⟨i + 1, by omega, by go_num, by rw [take_succ_of' X (by have := H1.out.1; omega) HGX.out]; exact hG1, hb1⟩
            case measure => simp [intOf]; omega
          · obtain rfl : i = j + 1 := by omega
            go_wp2
            go_ret
            have hd : dig (val X) = X.take (j + 1) := by rw [H1.out.2.2, norm, HK.out]
            rw [hd]
            exact ⟨_, rfl, hG, hb⟩

theorem txt_len : ∀ n : Nat, (txt n).length ≤ blen n := by
  intro n
  induction n using Nat.strongRecOn with
  | _ n ih =>
    rcases Nat.eq_zero_or_pos n with h | h
    · subst h; exact Nat.le_refl _
    · rw [txt_step h, List.length_append]
      have h1 := ih (n / 10) (by omega)
      have h2 : blen (n / 10) + 1 ≤ blen n := by
        rcases Nat.eq_zero_or_pos (n / 10) with e | e
        · rw [e, blen_zero]; have := blen_pos (show n ≠ 0 by omega); omega
        · have h3 := blen_le (show n / 10 ≠ 0 by omega)
          have h4 := blen_pos (show n / 10 ≠ 0 by omega)
          have h5 : ¬ blen n ≤ blen (n / 10) := by
            rw [blen_lt]
            have : 2 ^ blen (n / 10) = 2 * 2 ^ (blen (n / 10) - 1) := by
              rw [show blen (n / 10) = (blen (n / 10) - 1) + 1 by omega, Nat.pow_succ, Nat.add_sub_cancel]; omega
            omega
          omega
      simp
      omega
theorem Grow.mono {w : World} {B B' : Nat} {v : Value} {xs : List Nat} (h : Grow w B v xs) (hB : B' ≤ B) : Grow w B' v xs := ⟨h.1, h.2.1, h.2.2.imp id fun ⟨g, cap, cur, h1, h2, h3⟩ => ⟨g, cap, cur, h1, Nat.le_trans hB h2, h3⟩⟩
theorem Grow.later {w w' : World} {B : Nat} {v : Value} {xs : List Nat} (h : Grow w B v xs) (hb : Below w.heap.size w w') : Grow w' B v xs :=
  ⟨h.1, h.2.kept (row := none) ⟨hb.os, hb.tape, hb.output, hb.size, fun k hk _ => hb.block k hk⟩ (by cases hv : v.ownBlock with | none => exact .inl rfl | some k => exact .inr (by simp))⟩
theorem Grow.form {w : World} {B : Nat} {v : Value} {xs : List Nat} (h : Grow w B v xs) (hn : 0 < xs.length) : ∃ g cap, v = .slice (some ⟨g, 0, none⟩) xs.length cap ∧ xs.length ≤ cap ∧ cap ≤ maxLen ∧ B ≤ g ∧ g < w.heap.size := by
  have hl := h.2.lt
  rcases h.2.2 with ⟨_, h0⟩ | ⟨g, cap, cur, rfl, hb, _, h1, h2, _⟩
  · omega
  · exact ⟨g, cap, rfl, h1, h2, hb, (hl g rfl).2⟩
theorem Grow.at {w : World} {B g n cap : Nat} {xs : List Nat} (h : Grow w B (.slice (some ⟨g, 0, none⟩) n cap) xs) (hn : xs.length = n) {j : Nat} (hj : j < n) :
    w.cell? ⟨g, j, none⟩ = some (.int .u32 ((xs.getD j 0 : Nat) : Int)) ∧ w.frozen? ⟨g, j, none⟩ = false := by
  subst hn
  refine ⟨(h.2.cellAt j (by omega)).trans ?_, h.2.frozenAt j⟩
  rw [u32s_get, List.getElem?_eq_getElem hj, List.getD_eq_getElem?_getD, List.getElem?_eq_getElem hj]
  rfl
theorem Grow.put {w : World} {B g n cap : Nat} {xs : List Nat} (h : Grow w B (.slice (some ⟨g, 0, none⟩) n cap) xs) (hn : xs.length = n) (j : Nat) {v : Nat} (hv : v < 4294967296) :
    Grow (w.setCell ⟨g, j, none⟩ (.int .u32 (v : Int))) B (.slice (some ⟨g, 0, none⟩) n cap) (xs.set j v) := by
  subst hn
  refine ⟨h.1.set j hv, ?_⟩
  have := (h.2.stored j (.int .u32 (v : Int))).1
  rw [List.length_set]
  have e : (u32s xs).set j (.int .u32 (v : Int)) = u32s (xs.set j v) := by simp [u32s, List.map_set]
  rw [e] at this
  exact this
end Go.Proofs.YtenoemjfoadgpaaDoor
