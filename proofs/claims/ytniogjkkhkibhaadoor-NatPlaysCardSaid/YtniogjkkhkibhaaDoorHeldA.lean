/- vergelaw2's helpers of 'held': other, roomy, left, place, full. -/
import Derived.Test.YtniogjkkhkibhaaDoorLawA
import Derived.Test.YtniogjkkhkibhaaDoorRefA
import Derived.Test.YtniogjkkhkibhaaDoorNatM
import Derived.Test.YtniogjkkhkibhaaDoorNatW
import Derived.Test.YtniogjkkhkibhaaDoorNatZ
import Derived.Test.YtniogjkkhkibhaaDoorPlainL
namespace Go.Proofs.YtniogjkkhkibhaaDoor
set_option linter.unusedVariables false
set_option linter.unusedSimpArgs false
open Go.RowKit Verge

/-- The words behind a list that is handed in. -/
def guards : List Nat := List.replicate 80 2882343476
theorem guards_length : guards.length = 80 := by simp [guards]
theorem w32_guards : W32 guards := fun y hy => by
  unfold guards at hy
  rw [List.mem_replicate] at hy; omega
theorem guards_getD (k : Nat) (h : k < 80) : guards.getD k 0 = 2882343476 := by
  unfold guards
  rw [List.getD_eq_getElem?_getD, List.getElem?_replicate, if_pos h]; rfl

theorem xor_u32 (x c : Nat) (hx : x < 4294967296) (hc : c < 4294967296) : ∃ z : Nat, z < 4294967296 ∧ Go.bits .xor .u32 (x : Int) (c : Int) = (z : Int) :=
  ⟨x ^^^ c, Nat.xor_lt_two_pow (n := 32) hx hc, Go.u32_xor_nat x c hx hc⟩

set_option maxHeartbeats 1000000 in
theorem other_any (A : Option Addr) (n c : Nat) (X : List Nat) (w : World) (h : Rd w A X) (hn : X.length = n) (hm : n ≤ 70368744177664) :
    Calls Tryd.prog 45 #[.slice A n c] w fun e w' => e = .returned (.slice (some ⟨w.heap.size, 0, none⟩) n n) ∧ ∃ T, Blk w' w.heap.size T ∧ T.length = n ∧ Below w.heap.size w w' := by
  have hC := Lib.hid (copied_any A n c X w h hn hm)
  have HN := Lib.hid hn
  have hx32 := h.1.getD 0
  have hxq := h.1.getD (n / 2)
  obtain ⟨x, hx⟩ : ∃ x, X.getD 0 0 = x := ⟨_, rfl⟩
  obtain ⟨y, hy⟩ : ∃ y, X.getD (n / 2) 0 = y := ⟨_, rfl⟩
  rw [hx] at hx32
  rw [hy] at hxq
  obtain ⟨z, hz, hzI⟩ := xor_u32 x 5 hx32 (by omega)
  have hzI : Go.bits .xor .u32 (x : Int) 5 = (z : Int) := hzI
  rcases Nat.eq_zero_or_pos n with h0 | h0
  · subst h0
    clear h hn hx hy hzI hz
    go_enter Tryd.func45, Tryd.ntmps45
    go_wp2_with (go_at_call 27; refine hC.out.mono ?_; rintro e w' ⟨rfl, hB, hb⟩)
    go_ret
    exact ⟨rfl, X, hB, HN.out, hb⟩
  · rcases Nat.eq_or_lt_of_le (show 1 ≤ n from h0) with h1 | h1
    · subst h1
      obtain ⟨t, ht, htI⟩ := xor_u32 z 2147483648 hz (by omega)
      have htI : Go.bits .xor .u32 (z : Int) 2147483648 = (t : Int) := htI
      have HX := Lib.hid hx
      clear h hn hx hy
      go_enter Tryd.func45, Tryd.ntmps45
      go_wp2_with (go_at_call 27; refine hC.out.mono ?_; rintro e w' ⟨rfl, hB, hb⟩; have hcl := hB.cell (i := 0) (by rw [HN.out]; omega); rw [HX.out] at hcl; have hfz := hB.frozen 0)
      go_ret
      exact ⟨rfl, (X.set 0 z).set 0 t, (hB.set 0 hz).set 0 ht, by simp [HN.out], (hb.setCell (Nat.le_refl _) _).setCell (Nat.le_refl _) _⟩
    · obtain ⟨q, hq⟩ : ∃ q, n / 2 = q + 1 := ⟨n / 2 - 1, by omega⟩
      have hqI : (n : Int) / 2 = (q : Int) + 1 := by omega
      have hqn : (q : Int) + 1 < (n : Int) := by omega
      obtain ⟨t, ht, htI⟩ := xor_u32 y 2147483648 hxq (by omega)
      have htI : Go.bits .xor .u32 (y : Int) 2147483648 = (t : Int) := htI
      rw [hq] at hy
      have HX := Lib.hid (And.intro hx hy)
      have hqX := Lib.hid (show q + 1 < X.length by rw [hn]; omega)
      clear h hn hx hy hq
      go_enter Tryd.func45, Tryd.ntmps45
      go_wp2_with (go_at_call 27; refine hC.out.mono ?_; rintro e w' ⟨rfl, hB, hb⟩; have hcl := hB.cell (i := 0) (by have := hqX.out; omega); rw [HX.out.1] at hcl; have hfz := hB.frozen 0; have hcl2 := hB.cell (i := q + 1) hqX.out; rw [HX.out.2] at hcl2; have hfz2 := hB.frozen (q + 1))
      go_ret
      exact ⟨rfl, (X.set 0 z).set (q + 1) t, (hB.set 0 hz).set (q + 1) ht, by simp [HN.out], (hb.setCell (Nat.le_refl _) _).setCell (Nat.le_refl _) _⟩

theorem take_app_lt (X G : List Nat) (i : Nat) (h : i < X.length) : (X ++ G).getD i 0 = X.getD i 0 := by
  rw [List.getD_eq_getElem?_getD, List.getElem?_append_left h, List.getD_eq_getElem?_getD]
theorem take_app_ge (X G : List Nat) (i n : Nat) (hn : X.length = n) (h : n ≤ i) : (X ++ G).getD i 0 = G.getD (i - n) 0 := by
  rw [List.getD_eq_getElem?_getD, List.getElem?_append_right (by omega), hn, List.getD_eq_getElem?_getD]

set_option maxHeartbeats 1000000 in
theorem roomy_any (A : Option Addr) (n c : Nat) (X : List Nat) (w : World) (h : Rd w A X) (hn : X.length = n) (hm : n ≤ 35184372088600) :
    Calls Tryd.prog 46 #[.slice A n c] w fun e w' => e = .returned (.tuple #[.slice (some ⟨w.heap.size, 0, none⟩) n (n + 80), .slice (some ⟨w.heap.size, 0, none⟩) (n + 80) (n + 80)]) ∧ Blk w' w.heap.size (X ++ guards) ∧ Below w.heap.size w w' := by
  have hmk : ∀ W : World, (Instr.makeSlice 22 (.int .i64 ((n : Int) + 80)) (.int .i64 ((n : Int) + 80))).run Tryd.prog W = .ok (.slice (some ⟨W.heap.size, 0, none⟩) (n + 80) (n + 80)) (W.alloc (.cells (u32s (List.replicate (n + 80) 0)).toArray 23)) :=
    fun W => run_make_u32 (n + 80) (by omega) W
  have hcut := fun W => run_cut_h W (some ⟨w.heap.size, 0, none⟩) (n + 80) (n + 80) n (by omega)
  have hR := Lib.hid (fun W (hb : Below w.heap.size w W) => h.below hb)
  have HN := Lib.hid (And.intro hn (show (X ++ guards).length = n + 80 by rw [List.length_append, hn, guards_length]))
  have HX := Lib.hid h.1
  clear h hn
  go_enter Tryd.func46, Tryd.ntmps46
  go_wp2
  clear hmk
  go_loopw [5] (fun iv wr => ∃ (i : Nat) (L : List Nat), i ≤ n + 80 ∧ iv = .int .i64 i ∧ Blk wr w.heap.size L ∧ Hid (L.length = n + 80 ∧ L.take i = (X ++ guards).take i) ∧ Below w.heap.size w wr) (fun iv _ => n + 80 - (intOf iv).toNat)
  case atStart => exact ⟨0, _, by omega, rfl, Blk.made w (n + 80), ⟨by simp, by simp⟩, (Below.refl _ w).alloc (Nat.le_refl _) _⟩
  case round =>
    obtain ⟨i, L, hi, rfl, hL, hI, hb⟩ := hrel
    by_cases hiN : i < n + 80
    · have hcl := hL.cell (i := i) (by rw [hI.out.1]; exact hiN)
      have hfz := hL.frozen i
      by_cases hin : i < n
      · obtain ⟨b, o, rfl, hcx⟩ := (hR.out _ hb).cell (k := i) (by rw [HN.out.1]; exact hin)
        have hx32 := HX.out.getD i
        obtain ⟨x, hgx⟩ : ∃ x, X.getD i 0 = x := ⟨_, rfl⟩
        rw [hgx] at hcx hx32
        have hcx2 : (wr.setCell ⟨w.heap.size, i, none⟩ (.int .u32 2882343476)).cell? ⟨b, o + i, none⟩ = some (.int .u32 (x : Int)) := by
          obtain ⟨b2, o2, e, h2⟩ := (hR.out _ (hb.setCell (Nat.le_refl _) (p := ⟨w.heap.size, i, none⟩) (.int .u32 2882343476))).cell (k := i) (by rw [HN.out.1]; exact hin)
          simp only [Option.some.injEq, Addr.mk.injEq, and_true] at e
          obtain ⟨rfl, rfl⟩ := e
          rw [hgx] at h2
          exact h2
        have hg : (X ++ guards).getD i 0 = x := by rw [take_app_lt X guards i (by rw [HN.out.1]; exact hin), hgx]
        have HG := Lib.hid hg
        clear hg hgx hcx
        go_wp2
        go_roundw
        case rel => exact ⟨i + 1, (L.set i 2882343476).set i x, by omega, by go_num, (hL.setI i (by omega) (by omega) (by omega)).setI i (by omega) (by omega) (by omega), ⟨by rw [List.length_set, List.length_set]; exact hI.out.1, by
          rw [set_take_succ _ i _ (by rw [List.length_set, hI.out.1]; exact hiN), take_set_le _ _ _ _ (Nat.le_refl _), take_succ_of (X ++ guards) (by rw [HN.out.2]; exact hiN) HG.out, hI.out.2]⟩, (hb.setCell (Nat.le_refl _) _).setCell (Nat.le_refl _) _⟩
        case measure => simp [intOf]; omega
      · have hg : (X ++ guards).getD i 0 = 2882343476 := by rw [take_app_ge X guards i n HN.out.1 (by omega)]; exact guards_getD _ (by omega)
        have HG := Lib.hid hg
        have hni : n ≤ i := by omega
        clear hg hin
        go_wp2
        go_roundw
        case rel => exact ⟨i + 1, L.set i 2882343476, by omega, by go_num, hL.setI i (by omega) (by omega) (by omega), ⟨by rw [List.length_set]; exact hI.out.1, by
          rw [set_take_succ L i _ (by rw [hI.out.1]; exact hiN), take_succ_of (X ++ guards) (by rw [HN.out.2]; exact hiN) HG.out, hI.out.2]⟩, hb.setCell (Nat.le_refl _) _⟩
        case measure => simp [intOf]; omega
    · obtain rfl : i = n + 80 := by omega
      go_wp2
      go_ret2
      have : L = X ++ guards := by
        have := hI.out.2
        rwa [List.take_of_length_le (by rw [hI.out.1]; exact Nat.le_refl _), List.take_of_length_le (by rw [HN.out.2]; exact Nat.le_refl _)] at this
      rw [← this]
      exact ⟨rfl, hL, hb⟩

set_option maxHeartbeats 1000000 in
/-- left: all still holds the list and the guards. -/
theorem left_any (A : Option Addr) (n c : Nat) (X : List Nat) (A' : Option Addr) (w : World) (h : Rd w A X) (hn : X.length = n) (hm : n ≤ 70368744177664) (h' : Rd w A' (X ++ guards)) :
    Calls Tryd.prog 47 #[.slice A n c, .slice A' (n + 80) (n + 80)] w fun e w' => e = .returned (.bool true) ∧ Below w.heap.size w w' := by
  have hl : (X ++ guards).length = n + 80 := by rw [List.length_append, hn, guards_length]
  have hcut := fun W => run_cut_h W A' (n + 80) (n + 80) n (by omega)
  have htk : (X ++ guards).take n = X := by rw [← hn, List.take_left]
  have hS := fun W hW hW' => same_any A n c X A' n (n + 80) X W hW hn (by omega) hW' hn (by omega)
  have hR2 : Rd w A' X := by have := h'.take n; rwa [htk] at this
  obtain ⟨b, o, rfl, hc⟩ := h'.cells (by omega)
  have HS := Lib.hid hS
  have HC := Lib.hid hc
  have HR := Lib.hid (And.intro h hR2)
  have HN := Lib.hid (And.intro hn hl)
  clear hS hc hl htk hR2 h h' hn
  go_enter Tryd.func47, Tryd.ntmps47
  go_wp2
  go_loop [5] (fun iv => ∃ i : Nat, n ≤ i ∧ i ≤ n + 80 ∧ iv = .int .i64 i) (fun iv => n + 80 - (intOf iv).toNat)
  case atStart => exact ⟨n, by omega, by omega, rfl⟩
  case round =>
    obtain ⟨i, hi1, hi2, rfl⟩ := hrel
    by_cases hin : i < n + 80
    · have hcx := HC.out i (by rw [HN.out.2]; exact hin)
      rw [take_app_ge X guards i n HN.out.1 hi1, guards_getD _ (by omega)] at hcx
      have hcx : w.cell? ⟨b, o + i, none⟩ = some (.int .u32 2882343476) := hcx
      go_wp2
      go_round
      case rel => exact ⟨i + 1, by omega, by omega, by go_num⟩
      case measure => simp [intOf]; omega
    · obtain rfl : i = n + 80 := by omega
      go_wp2_with (go_at_call 18; refine (HS.out _ HR.out.1 HR.out.2).mono ?_; rintro e w' ⟨rfl, d, rfl⟩)
      go_ret
      exact ⟨by simp, below_drewN (Below.refl _ _) d⟩

set_option maxHeartbeats 1000000 in
/-- place: a list is written over another one of its length. -/
theorem place_any (g n c : Nat) (L G : List Nat) (A : Option Addr) (ca : Nat) (Y : List Nat) (w : World) (hL : Blk w g (L ++ G)) (hl : L.length = n) (hY : ∀ w', w.grownBy w' (some g) → Rd w' A Y) (hn : Y.length = n) (hm : n ≤ 70368744177664) :
    Calls Tryd.prog 48 #[.slice (some ⟨g, 0, none⟩) n c, .slice A n ca] w fun e w' => e = .returned (.tuple #[]) ∧ Blk w' g (Y ++ G) ∧ w.grownBy w' (some g) := by
  have HY := Lib.hid hY
  have HN := Lib.hid (And.intro hl (And.intro hn hL))
  have hY32 := (hY w ⟨rfl, rfl, rfl, Nat.le_refl _, fun _ _ _ => rfl⟩).1
  have HW := Lib.hid hY32
  clear hl hn hL hY hY32
  go_enter Tryd.func48, Tryd.ntmps48
  go_wp2
  go_loopw [4] (fun iv wr => ∃ (i : Nat) (M : List Nat), i ≤ n ∧ iv = .int .i64 i ∧ Blk wr g M ∧ Hid (M = Y.take i ++ (L ++ G).drop i) ∧ w.grownBy wr (some g)) (fun iv _ => n - (intOf iv).toNat)
  case atStart => exact ⟨0, L ++ G, by omega, rfl, HN.out.2.2, (show L ++ G = Y.take 0 ++ (L ++ G).drop 0 by simp), ⟨rfl, rfl, rfl, Nat.le_refl _, fun _ _ _ => rfl⟩⟩
  case round =>
    obtain ⟨i, M, hi, rfl, hM, hI, hG⟩ := hrel
    by_cases hin : i < n
    · obtain ⟨b, o, rfl, hcy⟩ := (HY.out _ hG).cell (k := i) (by rw [HN.out.2.1]; exact hin)
      have hy32 := HW.out.getD i
      obtain ⟨y, hgy⟩ : ∃ y, Y.getD i 0 = y := ⟨_, rfl⟩
      rw [hgy] at hcy hy32
      have hMl : M.length = (L ++ G).length := by
        rw [hI.out, List.length_append, List.length_take, List.length_drop, List.length_append, HN.out.1, HN.out.2.1]; omega
      have hiL : i < (L ++ G).length := by rw [List.length_append, HN.out.1]; omega
      have hcl := hM.cell (i := i) (by omega)
      have hfz := hM.frozen i
      have HG := Lib.hid (And.intro hgy (And.intro hMl hiL))
      clear hgy hMl hiL
      go_wp2
      go_roundw
      case rel =>
        refine ⟨i + 1, M.set i y, by omega, by go_num, hM.setI i (by omega) (by omega) (by omega), ?_, ?_⟩
        · show M.set i y = Y.take (i + 1) ++ (L ++ G).drop (i + 1)
          have hti : (Y.take i).length = i := by rw [List.length_take, HN.out.2.1]; omega
          rw [hI.out, List.set_append_right _ _ (by omega), hti, Nat.sub_self, take_succ_of Y (by rw [HN.out.2.1]; exact hin) HG.out.1, List.drop_eq_getElem_cons HG.out.2.2, List.set_cons_zero, List.append_assoc]
          rfl
        · exact ⟨hG.os, hG.tape, hG.output, by simpa [World.setCell] using hG.size, fun k hk hne => (Below.heap_setCell _ ⟨g, i, none⟩ _ k (by rintro rfl; exact hne rfl)).trans (hG.block k hk hne)⟩
      case measure => simp [intOf]; omega
    · obtain rfl : i = n := by omega
      go_wp2
      go_end0
      have e : M = Y ++ G := by
        rw [hI.out, List.take_of_length_le (by rw [HN.out.2.1]; exact Nat.le_refl _), ← HN.out.1, List.drop_left]
      rw [← e]
      exact ⟨rfl, hM, hG⟩

set_option maxHeartbeats 1000000 in
/-- full: a list of n words, each of them m. -/
theorem full_any (A : Option Addr) (n c m : Nat) (w : World) (h : Rd w A (List.replicate n m)) (hm : n ≤ 140737488355328) :
    Calls Tryd.prog 68 #[.slice A n c, .int .u32 (m : Int), .int .i64 (n : Int)] w fun e w' => e = .returned (.bool true) ∧ ∃ d, w.drewN d = w' := by
  have HH := Lib.hid h
  clear h
  go_enter Tryd.func68, Tryd.ntmps68
  go_wp2
  go_loop [7] (fun iv => ∃ i : Nat, i ≤ n ∧ iv = .int .i64 i) (fun iv => n - (intOf iv).toNat)
  case atStart => exact ⟨0, by omega, rfl⟩
  case round =>
    obtain ⟨i, hi, rfl⟩ := hrel
    by_cases hin : i < n
    · obtain ⟨b, o, rfl, hcx⟩ := HH.out.cell (k := i) (by simpa using hin)
      have e : (List.replicate n m).getD i 0 = m := by rw [List.getD_eq_getElem?_getD, List.getElem?_replicate, if_pos hin]; rfl
      rw [e] at hcx
      clear e
      go_wp2
      go_round
      case rel => exact ⟨i + 1, by omega, by go_num⟩
      case measure => simp [intOf]; omega
    · obtain rfl : i = n := by omega
      go_wp2
      go_ret
      exact ⟨rfl, 0, rfl⟩
end Go.Proofs.YtniogjkkhkibhaaDoor

/- vergelaw2.ask: what the program answers. -/
namespace Go.Proofs.YtniogjkkhkibhaaDoor
set_option linter.unusedVariables false
set_option linter.unusedSimpArgs false
open Go.RowKit Verge

theorem bfro {B : Nat} {W w1 : World} (hb : Below B W w1) : ∀ b o, b < B → w1.frozen? ⟨b, o, none⟩ = W.frozen? ⟨b, o, none⟩ := fun b o h => hb.frozen (p := ⟨b, o, none⟩) h
theorem Own.far {w : World} {g : Nat} {A : Option Addr} {xs : List Nat} (h : Own w g A xs) {p : Addr} (hp : g ≠ p.block) (u : Value) : Own (w.setCell p u) g A xs := h.block (Below.heap_setCell w p u g hp)
theorem below_new' (W : World) (o : Obj) : Below W.heap.size W (W.alloc o) := (Below.refl _ W).alloc (Nat.le_refl _) o

/-- A record of six cells is laid into a block: what lies elsewhere stays. -/
theorem own6 {w : World} {g r : Nat} {A : Option Addr} {xs : List Nat} (h : Own w g A xs) (hp : g ≠ r) (u0 u1 u2 u3 u4 u5 : Value) :
    Own ((((((w.setCell ⟨r, 0, none⟩ u0).setCell ⟨r, 1, none⟩ u1).setCell ⟨r, 2, none⟩ u2).setCell ⟨r, 3, none⟩ u3).setCell ⟨r, 4, none⟩ u4).setCell ⟨r, 5, none⟩ u5) g A xs :=
  (((((h.far hp u0).far hp u1).far hp u2).far hp u3).far hp u4).far hp u5
theorem below6 {B r : Nat} {a w : World} (h : Below B a w) (hp : B ≤ r) (u0 u1 u2 u3 u4 u5 : Value) :
    Below B a ((((((w.setCell ⟨r, 0, none⟩ u0).setCell ⟨r, 1, none⟩ u1).setCell ⟨r, 2, none⟩ u2).setCell ⟨r, 3, none⟩ u3).setCell ⟨r, 4, none⟩ u4).setCell ⟨r, 5, none⟩ u5) :=
  (((((h.setCell hp u0).setCell hp u1).setCell hp u2).setCell hp u3).setCell hp u4).setCell hp u5

def AskPost (w : World) (a : Ans) : Ending → World → Prop := fun en w' =>
  ∃ gL gM AL AM, w.heap.size ≤ gL ∧ w.heap.size ≤ gM ∧ gL ≠ gM ∧
    en = .returned (.agg #[.slice AL a.l.length a.l.length, .slice AM a.m.length a.m.length, .int .u64 (a.wv : Nat), .int .i64 a.nv, .bool a.bv, .int .i64 a.ev]) ∧ Own w' gL AL a.l ∧ Own w' gM AM a.m ∧ Below w.heap.size w w'

theorem code_any (e : Int) (w : World) : Calls Tryd.prog 51 #[.int .i64 e] w fun en w' => en = .returned (.int .i64 e) ∧ w = w' := by
  go_enter Tryd.func51, Tryd.ntmps51
  go_wp2
  go_ret
  exact ⟨rfl, rfl⟩

theorem word_n (A : Option Addr) (n c : Nat) (xs : List Nat) (w : World) (h : Rd w A xs) (hn : xs.length = n) (hm : n ≤ 140737488355328) :
    Calls Tryd.prog 23 #[.slice A n c] w fun e w' => e = .returned (.tuple #[.int .u64 ((nword (val xs)).1 : Nat), .bool (nword (val xs)).2]) ∧ ∃ k, w.drewN k = w' := by
  have := word_any A n c xs w h hn hm
  unfold nword
  by_cases hv : val xs < 18446744073709551616
  · rw [if_pos hv] at this ⊢; exact this
  · rw [if_neg hv] at this ⊢; exact this

theorem root_n (A : Option Addr) (n c : Nat) (xs : List Nat) (w : World) (h : Rd w A xs) (hn : xs.length = n) (hc : n ≤ c) (hm : n ≤ 70368744177663) :
    Calls Tryd.prog 39 #[.slice A n c] w fun en w' => ∃ g A1, w.heap.size ≤ g ∧ en = .returned (.tuple #[.slice A1 (nroot (val xs)).1.length (nroot (val xs)).1.length, .bool (nroot (val xs)).2.1, .int .i64 (nroot (val xs)).2.2]) ∧ Own w' g A1 (nroot (val xs)).1 ∧ Below w.heap.size w w' := by
  refine (root_any A n c xs w h hn hc hm).mono ?_
  rintro en w' ⟨g, A1, r, b, er, hg, rfl, hro, hO, hb⟩
  rw [nroot_of hro]
  exact ⟨g, A1, hg, rfl, hO, hb⟩

section
variable (A : Option Addr) (n c : Nat) (X : List Nat) (A' : Option Addr) (n' c' : Nat) (Y : List Nat) (v : Nat) (e : Int) (w : World) (h : Rd w A X) (hn : X.length = n) (hc : n ≤ c) (hm : c ≤ 35184372088600)
    (h' : Rd w A' Y) (hn' : Y.length = n') (hc' : n' ≤ c') (hm' : c' ≤ 35184372088600) (hv : v < 18446744073709551616) (he0 : -9223372036854775808 ≤ e) (he1 : e ≤ 9223372036854775807) (hT : Tab w)
include h hn hc hm h' hn' hc' hm' hv he0 he1 hT
set_option linter.unusedSectionVars false

set_option maxHeartbeats 1000000 in
theorem asked_6 : Calls Tryd.prog 52 #[.int .i64 6, .slice A n c, .slice A' n' c', .int .i64 e] w (fun en w' => ∃ g A1, w.heap.size ≤ g ∧ en = .returned (.tuple #[.slice A1 (nadd (val X) (val Y)).1.length (nadd (val X) (val Y)).1.length, .int .i64 (nadd (val X) (val Y)).2]) ∧ Own w' g A1 (nadd (val X) (val Y)).1 ∧ Below w.heap.size w w') := by
  have hN := fun W hW hW' => add_any A n c X A' n' c' Y W hW hn hc (by omega) hW' hn' hc' (by omega)
  obtain ⟨x, hx⟩ : ∃ x, val X = x := ⟨_, rfl⟩
  obtain ⟨y, hy⟩ : ∃ y, val Y = y := ⟨_, rfl⟩
  rw [hx, hy] at hN ⊢
  have HN := Lib.hid hN
  clear hN hx hy hn hn'
  go_enter Tryd.func52, Tryd.ntmps52
  go_wp2_with (go_at_call 15; refine (HN.out _ h h').mono ?_; rintro en w1 ⟨g, A1, hg, rfl, hO, hb⟩)
  go_ret2
  exact ⟨g, A1, hg, rfl, hO, hb⟩

set_option maxHeartbeats 1000000 in
theorem asked_7 : Calls Tryd.prog 52 #[.int .i64 7, .slice A n c, .slice A' n' c', .int .i64 e] w (fun en w' => ∃ g A1, w.heap.size ≤ g ∧ en = .returned (.tuple #[.slice A1 (nsub (val X) (val Y)).1.length (nsub (val X) (val Y)).1.length, .int .i64 (nsub (val X) (val Y)).2]) ∧ Own w' g A1 (nsub (val X) (val Y)).1 ∧ Below w.heap.size w w') := by
  have hN := fun W hW hW' => sub_any A n c X A' n' c' Y W hW hn hc (by omega) hW' hn' hc' (by omega)
  obtain ⟨x, hx⟩ : ∃ x, val X = x := ⟨_, rfl⟩
  obtain ⟨y, hy⟩ : ∃ y, val Y = y := ⟨_, rfl⟩
  rw [hx, hy] at hN ⊢
  have HN := Lib.hid hN
  clear hN hx hy hn hn'
  go_enter Tryd.func52, Tryd.ntmps52
  go_wp2_with (go_at_call 69; refine (HN.out _ h h').mono ?_; rintro en w1 ⟨g, A1, hg, rfl, hO, hb⟩)
  go_ret2
  exact ⟨g, A1, hg, rfl, hO, hb⟩

set_option maxHeartbeats 1000000 in
theorem asked_8 : Calls Tryd.prog 52 #[.int .i64 8, .slice A n c, .slice A' n' c', .int .i64 e] w (fun en w' => ∃ g A1, w.heap.size ≤ g ∧ en = .returned (.tuple #[.slice A1 (nmul (val X) (val Y)).1.length (nmul (val X) (val Y)).1.length, .int .i64 (nmul (val X) (val Y)).2]) ∧ Own w' g A1 (nmul (val X) (val Y)).1 ∧ Below w.heap.size w w') := by
  have hN := fun W hW hW' => mul_any A n c X A' n' c' Y W hW hn hc (by omega) hW' hn' hc' (by omega)
  obtain ⟨x, hx⟩ : ∃ x, val X = x := ⟨_, rfl⟩
  obtain ⟨y, hy⟩ : ∃ y, val Y = y := ⟨_, rfl⟩
  rw [hx, hy] at hN ⊢
  have HN := Lib.hid hN
  clear hN hx hy hn hn'
  go_enter Tryd.func52, Tryd.ntmps52
  go_wp2_with (go_at_call 37; refine (HN.out _ h h').mono ?_; rintro en w1 ⟨g, A1, hg, rfl, hO, hb⟩)
  go_ret2
  exact ⟨g, A1, hg, rfl, hO, hb⟩

set_option maxHeartbeats 1000000 in
theorem asked_11 : Calls Tryd.prog 52 #[.int .i64 11, .slice A n c, .slice A' n' c', .int .i64 e] w (fun en w' => ∃ g A1, w.heap.size ≤ g ∧ en = .returned (.tuple #[.slice A1 (npow (val X) e).1.length (npow (val X) e).1.length, .int .i64 (npow (val X) e).2]) ∧ Own w' g A1 (npow (val X) e).1 ∧ Below w.heap.size w w') := by
  have hN := fun W hW => pow_any A n c X W hW hn (by omega) _ rfl e he0 he1
  obtain ⟨x, hx⟩ : ∃ x, val X = x := ⟨_, rfl⟩
  obtain ⟨y, hy⟩ : ∃ y, val Y = y := ⟨_, rfl⟩
  rw [hx] at hN ⊢
  have HN := Lib.hid hN
  clear hN hx hy hn hn'
  go_enter Tryd.func52, Tryd.ntmps52
  go_wp2_with (go_at_call 24; refine (HN.out _ h).mono ?_; rintro en w1 ⟨g, A1, hg, rfl, hO, hb⟩)
  go_ret2
  exact ⟨g, A1, hg, rfl, hO, hb⟩

set_option maxHeartbeats 1000000 in
theorem asked_12 : Calls Tryd.prog 52 #[.int .i64 12, .slice A n c, .slice A' n' c', .int .i64 e] w (fun en w' => ∃ g A1, w.heap.size ≤ g ∧ en = .returned (.tuple #[.slice A1 (nshl (val X) e).1.length (nshl (val X) e).1.length, .int .i64 (nshl (val X) e).2]) ∧ Own w' g A1 (nshl (val X) e).1 ∧ Below w.heap.size w w') := by
  have hN := fun W hW => shl_any A n c X e W hW hn hc (by omega) he0 he1
  obtain ⟨x, hx⟩ : ∃ x, val X = x := ⟨_, rfl⟩
  obtain ⟨y, hy⟩ : ∃ y, val Y = y := ⟨_, rfl⟩
  rw [hx] at hN ⊢
  have HN := Lib.hid hN
  clear hN hx hy hn hn'
  go_enter Tryd.func52, Tryd.ntmps52
  go_wp2_with (go_at_call 14; refine (HN.out _ h).mono ?_; rintro en w1 ⟨g, A1, hg, rfl, hO, hb⟩)
  go_ret2
  exact ⟨g, A1, hg, rfl, hO, hb⟩

set_option maxHeartbeats 2000000 in
theorem ask_0 : Calls Tryd.prog 29 #[.int .i64 0, .slice A n c, .slice A' n' c', .int .u64 (v : Int), .int .i64 e] w (AskPost w (ansOf 0 (val X) (val Y) v e)) := by
  have hN := fun W hW => norm_any A n c X W hW hn (by omega)
  obtain ⟨x, hx⟩ : ∃ x, val X = x := ⟨_, rfl⟩
  obtain ⟨y, hy⟩ : ∃ y, val Y = y := ⟨_, rfl⟩
  simp only [hx, hy] at hN ⊢
  have HN := Lib.hid hN
  have HR := Lib.hid (fun o => (h.below (below_new' w o) : Rd (w.alloc o) A X))
  have HR' := Lib.hid (fun o => (h'.below (below_new' w o) : Rd (w.alloc o) A' Y))
  have HT := Lib.hid (fun o => (hT.below (below_new' w o) : Tab (w.alloc o)))
  have H0 := Lib.hid (fun o => (below_new' w o))
  clear hN hx hy hn hn' h h' hT
  go_enter Tryd.func29, Tryd.ntmps29
  go_wp2_with fail
  refine (HN.out _ (HR.out _)).mono ?_
  rintro en w1 ⟨g, A1, hg, rfl, hO, -, -, hb⟩
  have hc1 := bcell hb
  have hf1 := bfro hb
  have hz := hb.size
  have hbb := (H0.out _).trans (hb.mono (by simp))
  simp at hz
  simp at hg
  go_wp2
  refine bodyPost_ret (v := .agg #[.slice A1 (dig x).length (dig x).length, .slice none 0 0, .int .u64 0, .int .i64 0, .bool false, .int .i64 0]) (by simp [results, Tryd.results29, go_sem, hc1, hz]) rfl ?_
  exact ⟨g, g + 1, A1, none, by omega, by omega, by omega, rfl, own6 hO (by omega) _ _ _ _ _ _, Own.nil _ _ _, below6 hbb (Nat.le_refl _) _ _ _ _ _ _⟩

set_option maxHeartbeats 2000000 in
theorem ask_1 : Calls Tryd.prog 29 #[.int .i64 1, .slice A n c, .slice A' n' c', .int .u64 (v : Int), .int .i64 e] w (AskPost w (ansOf 1 (val X) (val Y) v e)) := by
  have hN := fun W => small_any (v : Int) W (by omega) (by omega)
  simp only [Int.toNat_natCast] at hN
  obtain ⟨x, hx⟩ : ∃ x, val X = x := ⟨_, rfl⟩
  obtain ⟨y, hy⟩ : ∃ y, val Y = y := ⟨_, rfl⟩
  rw [hx, hy]
  have HN := Lib.hid hN
  have HR := Lib.hid (fun o => (h.below (below_new' w o) : Rd (w.alloc o) A X))
  have HR' := Lib.hid (fun o => (h'.below (below_new' w o) : Rd (w.alloc o) A' Y))
  have HT := Lib.hid (fun o => (hT.below (below_new' w o) : Tab (w.alloc o)))
  have H0 := Lib.hid (fun o => (below_new' w o))
  clear hN hx hy hn hn' h h' hT
  go_enter Tryd.func29, Tryd.ntmps29
  go_wp2_with fail
  refine (HN.out _).mono ?_
  rintro en w1 ⟨g, A1, hg, rfl, hO, hb⟩
  have hc1 := bcell hb
  have hf1 := bfro hb
  have hz := hb.size
  have hbb := (H0.out _).trans (hb.mono (by simp))
  simp at hz
  simp at hg
  go_wp2
  refine bodyPost_ret (v := .agg #[.slice A1 (dig v).length (dig v).length, .slice none 0 0, .int .u64 0, .int .i64 0, .bool false, .int .i64 0]) (by simp [results, Tryd.results29, go_sem, hc1, hz]) rfl ?_
  exact ⟨g, g + 1, A1, none, by omega, by omega, by omega, rfl, own6 hO (by omega) _ _ _ _ _ _, Own.nil _ _ _, below6 hbb (Nat.le_refl _) _ _ _ _ _ _⟩

set_option maxHeartbeats 2000000 in
theorem ask_2 : Calls Tryd.prog 29 #[.int .i64 2, .slice A n c, .slice A' n' c', .int .u64 (v : Int), .int .i64 e] w (AskPost w (ansOf 2 (val X) (val Y) v e)) := by
  have hN := fun W hW => word_n A n c X W hW hn (by omega)
  obtain ⟨x, hx⟩ : ∃ x, val X = x := ⟨_, rfl⟩
  obtain ⟨y, hy⟩ : ∃ y, val Y = y := ⟨_, rfl⟩
  simp only [hx, hy] at hN ⊢
  obtain ⟨q, hq⟩ : ∃ q, nword x = q := ⟨_, rfl⟩
  have hA : ansOf 2 x y v e = ⟨[], [], q.1, 0, q.2, 0⟩ := by rw [← hq]; rfl
  rw [hA]
  simp only [hq] at hN
  obtain ⟨q1, q2⟩ := q
  clear hA hq
  have HN := Lib.hid hN
  have HR := Lib.hid (fun o => (h.below (below_new' w o) : Rd (w.alloc o) A X))
  have HR' := Lib.hid (fun o => (h'.below (below_new' w o) : Rd (w.alloc o) A' Y))
  have HT := Lib.hid (fun o => (hT.below (below_new' w o) : Tab (w.alloc o)))
  have H0 := Lib.hid (fun o => (below_new' w o))
  clear hN hx hy hn hn' h h' hT
  go_enter Tryd.func29, Tryd.ntmps29
  go_wp2_with fail
  refine (HN.out _ (HR.out _)).mono ?_
  rintro en w1 ⟨rfl, d, rfl⟩
  go_wp2
  refine bodyPost_ret (v := .agg #[.slice none 0 0, .slice none 0 0, .int .u64 (q1 : Nat), .int .i64 0, .bool q2, .int .i64 0]) (by simp [results, Tryd.results29, go_sem]) rfl ?_
  exact ⟨w.heap.size + 1, w.heap.size + 2, none, none, by omega, by omega, by omega, rfl, Own.nil _ _ _, Own.nil _ _ _, below6 (below_drewN (H0.out _) d) (Nat.le_refl _) _ _ _ _ _ _⟩

set_option maxHeartbeats 2000000 in
theorem ask_3 : Calls Tryd.prog 29 #[.int .i64 3, .slice A n c, .slice A' n' c', .int .u64 (v : Int), .int .i64 e] w (AskPost w (ansOf 3 (val X) (val Y) v e)) := by
  have hN := fun W hW hW' => cmp_any A n c X A' n' c' Y W hW hn (by omega) hW' hn' (by omega)
  obtain ⟨x, hx⟩ : ∃ x, val X = x := ⟨_, rfl⟩
  obtain ⟨y, hy⟩ : ∃ y, val Y = y := ⟨_, rfl⟩
  simp only [hx, hy] at hN ⊢
  have HN := Lib.hid hN
  have HR := Lib.hid (fun o => (h.below (below_new' w o) : Rd (w.alloc o) A X))
  have HR' := Lib.hid (fun o => (h'.below (below_new' w o) : Rd (w.alloc o) A' Y))
  have HT := Lib.hid (fun o => (hT.below (below_new' w o) : Tab (w.alloc o)))
  have H0 := Lib.hid (fun o => (below_new' w o))
  clear hN hx hy hn hn' h h' hT
  go_enter Tryd.func29, Tryd.ntmps29
  go_wp2_with fail
  refine (HN.out _ (HR.out _) (HR'.out _)).mono ?_
  rintro en w1 ⟨rfl, d, rfl⟩
  go_wp2
  refine bodyPost_ret (v := .agg #[.slice none 0 0, .slice none 0 0, .int .u64 0, .int .i64 (cmp x y), .bool false, .int .i64 0]) (by simp [results, Tryd.results29, go_sem]) rfl ?_
  exact ⟨w.heap.size + 1, w.heap.size + 2, none, none, by omega, by omega, by omega, rfl, Own.nil _ _ _, Own.nil _ _ _, below6 (below_drewN (H0.out _) d) (Nat.le_refl _) _ _ _ _ _ _⟩

set_option maxHeartbeats 2000000 in
theorem ask_4 : Calls Tryd.prog 29 #[.int .i64 4, .slice A n c, .slice A' n' c', .int .u64 (v : Int), .int .i64 e] w (AskPost w (ansOf 4 (val X) (val Y) v e)) := by
  have hN := fun W hW => len_any A n c X W hW hn (by omega)
  obtain ⟨x, hx⟩ : ∃ x, val X = x := ⟨_, rfl⟩
  obtain ⟨y, hy⟩ : ∃ y, val Y = y := ⟨_, rfl⟩
  simp only [hx, hy] at hN ⊢
  obtain ⟨q, hq⟩ : ∃ q, blen x = q := ⟨_, rfl⟩
  have hA : ansOf 4 x y v e = ⟨[], [], 0, (q : Int), false, 0⟩ := by rw [← hq]; rfl
  rw [hA]
  simp only [hq] at hN
  clear hA hq
  have HN := Lib.hid hN
  have HR := Lib.hid (fun o => (h.below (below_new' w o) : Rd (w.alloc o) A X))
  have HR' := Lib.hid (fun o => (h'.below (below_new' w o) : Rd (w.alloc o) A' Y))
  have HT := Lib.hid (fun o => (hT.below (below_new' w o) : Tab (w.alloc o)))
  have H0 := Lib.hid (fun o => (below_new' w o))
  clear hN hx hy hn hn' h h' hT
  go_enter Tryd.func29, Tryd.ntmps29
  go_wp2_with fail
  refine (HN.out _ (HR.out _)).mono ?_
  rintro en w1 ⟨rfl, rfl⟩
  go_wp2
  refine bodyPost_ret (v := .agg #[.slice none 0 0, .slice none 0 0, .int .u64 0, .int .i64 (q : Nat), .bool false, .int .i64 0]) (by simp [results, Tryd.results29, go_sem]) rfl ?_
  exact ⟨w.heap.size + 1, w.heap.size + 2, none, none, by omega, by omega, by omega, rfl, Own.nil _ _ _, Own.nil _ _ _, H0.out _⟩

set_option maxHeartbeats 2000000 in
theorem ask_5 : Calls Tryd.prog 29 #[.int .i64 5, .slice A n c, .slice A' n' c', .int .u64 (v : Int), .int .i64 e] w (AskPost w (ansOf 5 (val X) (val Y) v e)) := by
  have hN := fun W hW hT => zeros_any A n c X W hW hn (by omega) hT
  obtain ⟨x, hx⟩ : ∃ x, val X = x := ⟨_, rfl⟩
  obtain ⟨y, hy⟩ : ∃ y, val Y = y := ⟨_, rfl⟩
  simp only [hx, hy] at hN ⊢
  obtain ⟨q, hq⟩ : ∃ q, ntz x = q := ⟨_, rfl⟩
  have hA : ansOf 5 x y v e = ⟨[], [], 0, (q : Int), false, 0⟩ := by rw [← hq]; rfl
  rw [hA]
  simp only [hq] at hN
  clear hA hq
  have HN := Lib.hid hN
  have HR := Lib.hid (fun o => (h.below (below_new' w o) : Rd (w.alloc o) A X))
  have HR' := Lib.hid (fun o => (h'.below (below_new' w o) : Rd (w.alloc o) A' Y))
  have HT := Lib.hid (fun o => (hT.below (below_new' w o) : Tab (w.alloc o)))
  have H0 := Lib.hid (fun o => (below_new' w o))
  clear hN hx hy hn hn' h h' hT
  go_enter Tryd.func29, Tryd.ntmps29
  go_wp2_with fail
  refine (HN.out _ (HR.out _) (HT.out _)).mono ?_
  rintro en w1 ⟨rfl, rfl⟩
  go_wp2
  refine bodyPost_ret (v := .agg #[.slice none 0 0, .slice none 0 0, .int .u64 0, .int .i64 (q : Nat), .bool false, .int .i64 0]) (by simp [results, Tryd.results29, go_sem]) rfl ?_
  exact ⟨w.heap.size + 1, w.heap.size + 2, none, none, by omega, by omega, by omega, rfl, Own.nil _ _ _, Own.nil _ _ _, H0.out _⟩

set_option maxHeartbeats 2000000 in
theorem ask_6 : Calls Tryd.prog 29 #[.int .i64 6, .slice A n c, .slice A' n' c', .int .u64 (v : Int), .int .i64 e] w (AskPost w (ansOf 6 (val X) (val Y) v e)) := by
  have hN := fun W hW hW' hT => asked_6 A n c X A' n' c' Y v e W hW hn hc hm hW' hn' hc' hm' hv he0 he1 hT
  obtain ⟨x, hx⟩ : ∃ x, val X = x := ⟨_, rfl⟩
  obtain ⟨y, hy⟩ : ∃ y, val Y = y := ⟨_, rfl⟩
  simp only [hx, hy] at hN ⊢
  have HN := Lib.hid hN
  have HR := Lib.hid (fun o => (h.below (below_new' w o) : Rd (w.alloc o) A X))
  have HR' := Lib.hid (fun o => (h'.below (below_new' w o) : Rd (w.alloc o) A' Y))
  have HT := Lib.hid (fun o => (hT.below (below_new' w o) : Tab (w.alloc o)))
  have H0 := Lib.hid (fun o => (below_new' w o))
  clear hN hx hy hn hn' h h' hT
  go_enter Tryd.func29, Tryd.ntmps29
  go_wp2_with fail
  refine (HN.out _ (HR.out _) (HR'.out _) (HT.out _)).mono ?_
  rintro en w1 ⟨g, A1, hg, rfl, hO, hb⟩
  have hc1 := bcell hb
  have hf1 := bfro hb
  have hz := hb.size
  have hbb := (H0.out _).trans (hb.mono (by simp))
  simp at hz
  simp at hg
  go_wp2_with (go_at_call 51; refine (code_any _ _).mono ?_; rintro en w2 ⟨rfl, rfl⟩)
  refine bodyPost_ret (v := .agg #[.slice A1 ((nadd x y).1).length ((nadd x y).1).length, .slice none 0 0, .int .u64 0, .int .i64 0, .bool false, .int .i64 (nadd x y).2]) (by simp [results, Tryd.results29, go_sem, hc1, hz]) rfl ?_
  exact ⟨g, g + 1, A1, none, by omega, by omega, by omega, rfl, own6 hO (by omega) _ _ _ _ _ _, Own.nil _ _ _, below6 hbb (Nat.le_refl _) _ _ _ _ _ _⟩

set_option maxHeartbeats 2000000 in
theorem ask_7 : Calls Tryd.prog 29 #[.int .i64 7, .slice A n c, .slice A' n' c', .int .u64 (v : Int), .int .i64 e] w (AskPost w (ansOf 7 (val X) (val Y) v e)) := by
  have hN := fun W hW hW' hT => asked_7 A n c X A' n' c' Y v e W hW hn hc hm hW' hn' hc' hm' hv he0 he1 hT
  obtain ⟨x, hx⟩ : ∃ x, val X = x := ⟨_, rfl⟩
  obtain ⟨y, hy⟩ : ∃ y, val Y = y := ⟨_, rfl⟩
  simp only [hx, hy] at hN ⊢
  have HN := Lib.hid hN
  have HR := Lib.hid (fun o => (h.below (below_new' w o) : Rd (w.alloc o) A X))
  have HR' := Lib.hid (fun o => (h'.below (below_new' w o) : Rd (w.alloc o) A' Y))
  have HT := Lib.hid (fun o => (hT.below (below_new' w o) : Tab (w.alloc o)))
  have H0 := Lib.hid (fun o => (below_new' w o))
  clear hN hx hy hn hn' h h' hT
  go_enter Tryd.func29, Tryd.ntmps29
  go_wp2_with fail
  refine (HN.out _ (HR.out _) (HR'.out _) (HT.out _)).mono ?_
  rintro en w1 ⟨g, A1, hg, rfl, hO, hb⟩
  have hc1 := bcell hb
  have hf1 := bfro hb
  have hz := hb.size
  have hbb := (H0.out _).trans (hb.mono (by simp))
  simp at hz
  simp at hg
  go_wp2_with (go_at_call 51; refine (code_any _ _).mono ?_; rintro en w2 ⟨rfl, rfl⟩)
  refine bodyPost_ret (v := .agg #[.slice A1 ((nsub x y).1).length ((nsub x y).1).length, .slice none 0 0, .int .u64 0, .int .i64 0, .bool false, .int .i64 (nsub x y).2]) (by simp [results, Tryd.results29, go_sem, hc1, hz]) rfl ?_
  exact ⟨g, g + 1, A1, none, by omega, by omega, by omega, rfl, own6 hO (by omega) _ _ _ _ _ _, Own.nil _ _ _, below6 hbb (Nat.le_refl _) _ _ _ _ _ _⟩

set_option maxHeartbeats 2000000 in
theorem ask_8 : Calls Tryd.prog 29 #[.int .i64 8, .slice A n c, .slice A' n' c', .int .u64 (v : Int), .int .i64 e] w (AskPost w (ansOf 8 (val X) (val Y) v e)) := by
  have hN := fun W hW hW' hT => asked_8 A n c X A' n' c' Y v e W hW hn hc hm hW' hn' hc' hm' hv he0 he1 hT
  obtain ⟨x, hx⟩ : ∃ x, val X = x := ⟨_, rfl⟩
  obtain ⟨y, hy⟩ : ∃ y, val Y = y := ⟨_, rfl⟩
  simp only [hx, hy] at hN ⊢
  have HN := Lib.hid hN
  have HR := Lib.hid (fun o => (h.below (below_new' w o) : Rd (w.alloc o) A X))
  have HR' := Lib.hid (fun o => (h'.below (below_new' w o) : Rd (w.alloc o) A' Y))
  have HT := Lib.hid (fun o => (hT.below (below_new' w o) : Tab (w.alloc o)))
  have H0 := Lib.hid (fun o => (below_new' w o))
  clear hN hx hy hn hn' h h' hT
  go_enter Tryd.func29, Tryd.ntmps29
  go_wp2_with fail
  refine (HN.out _ (HR.out _) (HR'.out _) (HT.out _)).mono ?_
  rintro en w1 ⟨g, A1, hg, rfl, hO, hb⟩
  have hc1 := bcell hb
  have hf1 := bfro hb
  have hz := hb.size
  have hbb := (H0.out _).trans (hb.mono (by simp))
  simp at hz
  simp at hg
  go_wp2_with (go_at_call 51; refine (code_any _ _).mono ?_; rintro en w2 ⟨rfl, rfl⟩)
  refine bodyPost_ret (v := .agg #[.slice A1 ((nmul x y).1).length ((nmul x y).1).length, .slice none 0 0, .int .u64 0, .int .i64 0, .bool false, .int .i64 (nmul x y).2]) (by simp [results, Tryd.results29, go_sem, hc1, hz]) rfl ?_
  exact ⟨g, g + 1, A1, none, by omega, by omega, by omega, rfl, own6 hO (by omega) _ _ _ _ _ _, Own.nil _ _ _, below6 hbb (Nat.le_refl _) _ _ _ _ _ _⟩

set_option maxHeartbeats 2000000 in
theorem ask_11 : Calls Tryd.prog 29 #[.int .i64 11, .slice A n c, .slice A' n' c', .int .u64 (v : Int), .int .i64 e] w (AskPost w (ansOf 11 (val X) (val Y) v e)) := by
  have hN := fun W hW hW' hT => asked_11 A n c X A' n' c' Y v e W hW hn hc hm hW' hn' hc' hm' hv he0 he1 hT
  obtain ⟨x, hx⟩ : ∃ x, val X = x := ⟨_, rfl⟩
  obtain ⟨y, hy⟩ : ∃ y, val Y = y := ⟨_, rfl⟩
  simp only [hx, hy] at hN ⊢
  have HN := Lib.hid hN
  have HR := Lib.hid (fun o => (h.below (below_new' w o) : Rd (w.alloc o) A X))
  have HR' := Lib.hid (fun o => (h'.below (below_new' w o) : Rd (w.alloc o) A' Y))
  have HT := Lib.hid (fun o => (hT.below (below_new' w o) : Tab (w.alloc o)))
  have H0 := Lib.hid (fun o => (below_new' w o))
  clear hN hx hy hn hn' h h' hT
  go_enter Tryd.func29, Tryd.ntmps29
  go_wp2_with fail
  refine (HN.out _ (HR.out _) (HR'.out _) (HT.out _)).mono ?_
  rintro en w1 ⟨g, A1, hg, rfl, hO, hb⟩
  have hc1 := bcell hb
  have hf1 := bfro hb
  have hz := hb.size
  have hbb := (H0.out _).trans (hb.mono (by simp))
  simp at hz
  simp at hg
  go_wp2_with (go_at_call 51; refine (code_any _ _).mono ?_; rintro en w2 ⟨rfl, rfl⟩)
  refine bodyPost_ret (v := .agg #[.slice A1 ((npow x e).1).length ((npow x e).1).length, .slice none 0 0, .int .u64 0, .int .i64 0, .bool false, .int .i64 (npow x e).2]) (by simp [results, Tryd.results29, go_sem, hc1, hz]) rfl ?_
  exact ⟨g, g + 1, A1, none, by omega, by omega, by omega, rfl, own6 hO (by omega) _ _ _ _ _ _, Own.nil _ _ _, below6 hbb (Nat.le_refl _) _ _ _ _ _ _⟩

set_option maxHeartbeats 2000000 in
theorem ask_12 : Calls Tryd.prog 29 #[.int .i64 12, .slice A n c, .slice A' n' c', .int .u64 (v : Int), .int .i64 e] w (AskPost w (ansOf 12 (val X) (val Y) v e)) := by
  have hN := fun W hW hW' hT => asked_12 A n c X A' n' c' Y v e W hW hn hc hm hW' hn' hc' hm' hv he0 he1 hT
  obtain ⟨x, hx⟩ : ∃ x, val X = x := ⟨_, rfl⟩
  obtain ⟨y, hy⟩ : ∃ y, val Y = y := ⟨_, rfl⟩
  simp only [hx, hy] at hN ⊢
  have HN := Lib.hid hN
  have HR := Lib.hid (fun o => (h.below (below_new' w o) : Rd (w.alloc o) A X))
  have HR' := Lib.hid (fun o => (h'.below (below_new' w o) : Rd (w.alloc o) A' Y))
  have HT := Lib.hid (fun o => (hT.below (below_new' w o) : Tab (w.alloc o)))
  have H0 := Lib.hid (fun o => (below_new' w o))
  clear hN hx hy hn hn' h h' hT
  go_enter Tryd.func29, Tryd.ntmps29
  go_wp2_with fail
  refine (HN.out _ (HR.out _) (HR'.out _) (HT.out _)).mono ?_
  rintro en w1 ⟨g, A1, hg, rfl, hO, hb⟩
  have hc1 := bcell hb
  have hf1 := bfro hb
  have hz := hb.size
  have hbb := (H0.out _).trans (hb.mono (by simp))
  simp at hz
  simp at hg
  go_wp2_with (go_at_call 51; refine (code_any _ _).mono ?_; rintro en w2 ⟨rfl, rfl⟩)
  refine bodyPost_ret (v := .agg #[.slice A1 ((nshl x e).1).length ((nshl x e).1).length, .slice none 0 0, .int .u64 0, .int .i64 0, .bool false, .int .i64 (nshl x e).2]) (by simp [results, Tryd.results29, go_sem, hc1, hz]) rfl ?_
  exact ⟨g, g + 1, A1, none, by omega, by omega, by omega, rfl, own6 hO (by omega) _ _ _ _ _ _, Own.nil _ _ _, below6 hbb (Nat.le_refl _) _ _ _ _ _ _⟩

set_option maxHeartbeats 2000000 in
theorem ask_9 : Calls Tryd.prog 29 #[.int .i64 9, .slice A n c, .slice A' n' c', .int .u64 (v : Int), .int .i64 e] w (AskPost w (ansOf 9 (val X) (val Y) v e)) := by
  have hN := fun W hW hW' => quo_any A n c X A' n' c' Y W hW hn hc (by omega) hW' hn' hc' (by omega)
  obtain ⟨x, hx⟩ : ∃ x, val X = x := ⟨_, rfl⟩
  obtain ⟨y, hy⟩ : ∃ y, val Y = y := ⟨_, rfl⟩
  simp only [hx, hy] at hN ⊢
  have HN := Lib.hid hN
  have HR := Lib.hid (fun o => (h.below (below_new' w o) : Rd (w.alloc o) A X))
  have HR' := Lib.hid (fun o => (h'.below (below_new' w o) : Rd (w.alloc o) A' Y))
  have HT := Lib.hid (fun o => (hT.below (below_new' w o) : Tab (w.alloc o)))
  have H0 := Lib.hid (fun o => (below_new' w o))
  clear hN hx hy hn hn' h h' hT
  go_enter Tryd.func29, Tryd.ntmps29
  go_wp2_with fail
  refine (HN.out _ (HR.out _) (HR'.out _)).mono ?_
  rintro en w1 ⟨g, g2, A1, A2, hg, hg2, hne, rfl, hO, hO2, hb⟩
  have hc1 := bcell hb
  have hf1 := bfro hb
  have hz := hb.size
  have hbb := (H0.out _).trans (hb.mono (by simp))
  simp at hz
  simp at hg
  simp at hg2
  go_wp2_with (go_at_call 51; refine (code_any _ _).mono ?_; rintro en w2 ⟨rfl, rfl⟩)
  refine bodyPost_ret (v := .agg #[.slice A1 ((nquo x y).1).length ((nquo x y).1).length, .slice A2 ((nquo x y).2.1).length ((nquo x y).2.1).length, .int .u64 0, .int .i64 0, .bool false, .int .i64 (nquo x y).2.2]) (by simp [results, Tryd.results29, go_sem, hc1, hz]) rfl ?_
  exact ⟨g, g2, A1, A2, by omega, by omega, by omega, rfl, own6 hO (by omega) _ _ _ _ _ _, own6 hO2 (by omega) _ _ _ _ _ _, below6 hbb (Nat.le_refl _) _ _ _ _ _ _⟩

set_option maxHeartbeats 2000000 in
theorem ask_10 : Calls Tryd.prog 29 #[.int .i64 10, .slice A n c, .slice A' n' c', .int .u64 (v : Int), .int .i64 e] w (AskPost w (ansOf 10 (val X) (val Y) v e)) := by
  have hN := fun W hW => root_n A n c X W hW hn hc (by omega)
  obtain ⟨x, hx⟩ : ∃ x, val X = x := ⟨_, rfl⟩
  obtain ⟨y, hy⟩ : ∃ y, val Y = y := ⟨_, rfl⟩
  simp only [hx, hy] at hN ⊢
  have HN := Lib.hid hN
  have HR := Lib.hid (fun o => (h.below (below_new' w o) : Rd (w.alloc o) A X))
  have HR' := Lib.hid (fun o => (h'.below (below_new' w o) : Rd (w.alloc o) A' Y))
  have HT := Lib.hid (fun o => (hT.below (below_new' w o) : Tab (w.alloc o)))
  have H0 := Lib.hid (fun o => (below_new' w o))
  clear hN hx hy hn hn' h h' hT
  go_enter Tryd.func29, Tryd.ntmps29
  go_wp2_with fail
  refine (HN.out _ (HR.out _)).mono ?_
  rintro en w1 ⟨g, A1, hg, rfl, hO, hb⟩
  have hc1 := bcell hb
  have hf1 := bfro hb
  have hz := hb.size
  have hbb := (H0.out _).trans (hb.mono (by simp))
  simp at hz
  simp at hg
  go_wp2_with (go_at_call 51; refine (code_any _ _).mono ?_; rintro en w2 ⟨rfl, rfl⟩)
  refine bodyPost_ret (v := .agg #[.slice A1 ((nroot x).1).length ((nroot x).1).length, .slice none 0 0, .int .u64 0, .int .i64 0, .bool (nroot x).2.1, .int .i64 (nroot x).2.2]) (by simp [results, Tryd.results29, go_sem, hc1, hz]) rfl ?_
  exact ⟨g, g + 1, A1, none, by omega, by omega, by omega, rfl, own6 hO (by omega) _ _ _ _ _ _, Own.nil _ _ _, below6 hbb (Nat.le_refl _) _ _ _ _ _ _⟩

set_option maxHeartbeats 2000000 in
theorem ask_13 : Calls Tryd.prog 29 #[.int .i64 13, .slice A n c, .slice A' n' c', .int .u64 (v : Int), .int .i64 e] w (AskPost w (ansOf 13 (val X) (val Y) v e)) := by
  have hN := fun W hW => shr_any A n c X e W hW hn hc (by omega) (by omega) he0 he1
  obtain ⟨x, hx⟩ : ∃ x, val X = x := ⟨_, rfl⟩
  obtain ⟨y, hy⟩ : ∃ y, val Y = y := ⟨_, rfl⟩
  simp only [hx, hy] at hN ⊢
  have HN := Lib.hid hN
  have HR := Lib.hid (fun o => (h.below (below_new' w o) : Rd (w.alloc o) A X))
  have HR' := Lib.hid (fun o => (h'.below (below_new' w o) : Rd (w.alloc o) A' Y))
  have HT := Lib.hid (fun o => (hT.below (below_new' w o) : Tab (w.alloc o)))
  have H0 := Lib.hid (fun o => (below_new' w o))
  clear hN hx hy hn hn' h h' hT
  go_enter Tryd.func29, Tryd.ntmps29
  go_wp2_with fail
  refine (HN.out _ (HR.out _)).mono ?_
  rintro en w1 ⟨g, A1, hg, rfl, hO, hb⟩
  have hc1 := bcell hb
  have hf1 := bfro hb
  have hz := hb.size
  have hbb := (H0.out _).trans (hb.mono (by simp))
  simp at hz
  simp at hg
  go_wp2_with (go_at_call 51; refine (code_any _ _).mono ?_; rintro en w2 ⟨rfl, rfl⟩)
  refine bodyPost_ret (v := .agg #[.slice A1 ((nshr x e).1).length ((nshr x e).1).length, .slice none 0 0, .int .u64 0, .int .i64 0, .bool (nshr x e).2.1, .int .i64 (nshr x e).2.2]) (by simp [results, Tryd.results29, go_sem, hc1, hz]) rfl ?_
  exact ⟨g, g + 1, A1, none, by omega, by omega, by omega, rfl, own6 hO (by omega) _ _ _ _ _ _, Own.nil _ _ _, below6 hbb (Nat.le_refl _) _ _ _ _ _ _⟩

end
end Go.Proofs.YtniogjkkhkibhaaDoor
