/- Contracts of nat: Root. -/
import Derived.Test.YtniogjkkhkibhaaDoorNatK
import Derived.Test.YtniogjkkhkibhaaDoorNatI
import Derived.Test.YtniogjkkhkibhaaDoorPlainD
namespace Go.Proofs.YtniogjkkhkibhaaDoor
set_option linter.unusedVariables false
set_option linter.unusedSimpArgs false
open Go.RowKit Verge

/-- What Root answers. -/
def RootPost (w : World) (a : Nat) (en : Ending) (w' : World) : Prop :=
  ∃ g A1 r b er, w.heap.size ≤ g ∧ en = .returned (.tuple #[.slice A1 (r : List Nat).length r.length, .bool b, .int .i64 er]) ∧ RootOf a r b er ∧ Own w' g A1 r ∧ Below w.heap.size w w'

theorem root_len (a g : Nat) (W : World) (hl : (dig a).length ≤ 16384) (hB : Blk W g (dig a)) :
    Calls Tryd.prog 20 #[.slice (some ⟨g, 0, none⟩) (dig a).length (dig a).length] W fun e w' => e = .returned (.int .i64 (blen a : Nat)) ∧ W = w' := by
  have := len_any (some ⟨g, 0, none⟩) (dig a).length (dig a).length (dig a) W hB.rd rfl (by omega)
  rwa [val_dig] at this

theorem root_up (g e : Nat) (W : World) (he : e ≤ 262144) (hB : Blk W g [1]) :
    Calls Tryd.prog 34 #[.slice (some ⟨g, 0, none⟩) 1 1, .int .i64 (e : Int)] W fun e' w' => ∃ A1, e' = .returned (.slice A1 (dig (2 ^ e)).length (dig (2 ^ e)).length) ∧ Own w' W.heap.size A1 (dig (2 ^ e)) ∧ Below W.heap.size W w' := by
  have := up_any (some ⟨g, 0, none⟩) 1 1 [1] e W hB.rd rfl (by omega)
  rwa [show val [1] = 1 from rfl, Nat.one_mul] at this

section
variable (K a x : Nat) (hK : K = 8192) (hx : Newton K a x)
include hK hx

theorem root_quo (hl : (dig a).length ≤ 16384) (g : Nat) (A1 : Option Addr) (W : World) (hB : Blk W g (dig a)) (hR : Rd W A1 (dig x)) :
    Calls Tryd.prog 38 #[.slice (some ⟨g, 0, none⟩) (dig a).length (dig a).length, .slice A1 (dig x).length (dig x).length] W (QuoPost W (dig (a / x)) (dig (a % x)) 0) := by
  have hw := newton_words hx
  have := quo_any (some ⟨g, 0, none⟩) (dig a).length (dig a).length (dig a) A1 (dig x).length (dig x).length (dig x) W hB.rd rfl (Nat.le_refl _) (by omega) hR rfl (Nat.le_refl _) (by omega)
  rwa [val_dig, val_dig, nquo_ok (by have := hx.1; omega) (by rw [Bool.or_eq_false_iff, long_false, long_false]; omega)] at this

theorem root_add (A1 A2 : Option Addr) (W : World) (hq : Rd W A2 (dig (a / x))) (hR : Rd W A1 (dig x)) :
    Calls Tryd.prog 15 #[.slice A2 (dig (a / x)).length (dig (a / x)).length, .slice A1 (dig x).length (dig x).length] W fun e w' => ∃ g A3, W.heap.size ≤ g ∧
      e = .returned (.tuple #[.slice A3 (dig (a / x + x)).length (dig (a / x + x)).length, .int .i64 0]) ∧ Own w' g A3 (dig (a / x + x)) ∧ Below W.heap.size W w' := by
  have hw := newton_words hx
  have hs := newton_sum hx
  have hq' : (dig (a / x)).length ≤ (dig (a / x + x)).length := dig_length_mono (by omega)
  have := add_any A2 (dig (a / x)).length (dig (a / x)).length (dig (a / x)) A1 (dig x).length (dig x).length (dig x) W hq rfl (Nat.le_refl _) (by omega) hR rfl (Nat.le_refl _) (by omega)
  rwa [val_dig, val_dig, nadd_fit (by rw [Bool.or_eq_false_iff, long_false, long_false]; omega), fit_no (by rw [long_false]; omega)] at this

theorem root_down (A1 : Option Addr) (W : World) (hR : Rd W A1 (dig (a / x + x))) :
    Calls Tryd.prog 44 #[.slice A1 (dig (a / x + x)).length (dig (a / x + x)).length, .int .i64 1] W fun e w' => ∃ g A3 b, W.heap.size ≤ g ∧
      e = .returned (.tuple #[.slice A3 (dig ((a / x + x) / 2)).length (dig ((a / x + x) / 2)).length, .bool b]) ∧ Own w' g A3 (dig ((a / x + x) / 2)) ∧ Below W.heap.size W w' := by
  have hs := newton_sum hx
  have := down_any A1 (dig (a / x + x)).length (dig (a / x + x)).length (dig (a / x + x)) 1 W hR rfl (Nat.le_refl _) (by omega) (by omega) (by omega)
  rw [val_dig] at this
  refine this.mono ?_
  rintro e w' ⟨g, A3, h1, h2, h3, h4⟩
  rw [Nat.pow_one] at h2 h3
  exact ⟨g, A3, _, h1, h2, h3, h4⟩

theorem root_cmp (A1 A2 : Option Addr) (W : World) (hy : Rd W A2 (dig ((a / x + x) / 2))) (hR : Rd W A1 (dig x)) :
    Calls Tryd.prog 22 #[.slice A2 (dig ((a / x + x) / 2)).length (dig ((a / x + x) / 2)).length, .slice A1 (dig x).length (dig x).length] W fun e w' => e = .returned (.int .i64 (cmp ((a / x + x) / 2) x)) ∧ ∃ k, W.drewN k = w' := by
  have hw := newton_words hx
  have hs := newton_sum hx
  have hq' : (dig ((a / x + x) / 2)).length ≤ (dig (a / x + x)).length := dig_length_mono (Nat.div_le_self _ _)
  have := cmp_any A2 (dig ((a / x + x) / 2)).length (dig ((a / x + x) / 2)).length (dig ((a / x + x) / 2)) A1 (dig x).length (dig x).length (dig x) W hy rfl (by omega) hR rfl (by omega)
  rwa [val_dig, val_dig] at this
end

/-- The end of Root: x times x, held against a. -/
theorem root_mul (A1 : Option Addr) (x : Nat) (W : World) (hx : (dig x).length ≤ 8193) (hR : Rd W A1 (dig x)) :
    Calls Tryd.prog 43 #[.slice A1 (dig x).length (dig x).length, .slice A1 (dig x).length (dig x).length] W fun e w' => ∃ L, e = .returned (.slice (some ⟨W.heap.size, 0, none⟩) L.length L.length) ∧
      Blk w' W.heap.size L ∧ L.length ≤ 16386 ∧ Hid (val L = x * x) ∧ Below W.heap.size W w' := by
  have := mulrow_any A1 (dig x).length (dig x).length (dig x) A1 (dig x).length (dig x).length (dig x) W hR rfl (by omega) hR rfl
  refine this.mono ?_
  rintro e w' ⟨rfl, L, h1, h2, h3, h4⟩
  rw [val_dig] at h3
  exact ⟨L, by rw [h2], h1, by omega, h3, h4⟩

theorem root_end (a g : Nat) (x gL : Nat) (L : List Nat) (W : World) (hl : (dig a).length ≤ 16384) (hB : Blk W g (dig a)) (hL : Blk W gL L) (hLl : L.length ≤ 16386) (hv : val L = x * x) :
    Calls Tryd.prog 22 #[.slice (some ⟨gL, 0, none⟩) (wl L) (wl L), .slice (some ⟨g, 0, none⟩) (dig a).length (dig a).length] W fun e w' => e = .returned (.int .i64 (cmp (x * x) a)) ∧ ∃ k, W.drewN k = w' := by
  have hle := wl_le L
  have := cmp_any (some ⟨gL, 0, none⟩) (wl L) (wl L) (L.take (wl L)) (some ⟨g, 0, none⟩) (dig a).length (dig a).length (dig a) W (hL.rd.take _) (length_norm L) (by omega) hB.rd rfl (by omega)
  rwa [val_dig, show val (L.take (wl L)) = val L from val_norm L, hv] at this

set_option maxRecDepth 100000 in
set_option maxHeartbeats 4000000 in
theorem root_main (A : Option Addr) (n c : Nat) (xs : List Nat) (w : World) (h : Rd w A xs) (hn : xs.length = n) (hc : n ≤ c) (hm : n ≤ 70368744177663) (a : Nat) (ha : val xs = a) (hl : (dig a).length ≤ 16384) (h0 : a ≠ 0) :
    Calls Tryd.prog 39 #[.slice A n c] w (RootPost w a) := by
  obtain ⟨K, hK⟩ : ∃ K, K = 8192 := ⟨_, rfl⟩
  have hlo : long a = false := (long_false _).2 hl
  have hL := fun W hW h0 => long1_any (w.heap.size) A n c xs W hW hn (by omega) h0
  have hNr := fun W hW => norm_any A n c xs W hW hn (by omega)
  rw [ha] at hL hNr
  rw [hlo] at hL
  have HL := Lib.hid hL
  have HNr := Lib.hid hNr
  have HT := Lib.hid (fun (o : Obj) => (h.keep (fun b o' hb => World.cell?_alloc_lt w o _ hb) : Rd (w.alloc o) A xs))
  have HB := Lib.hid (fun (o : Obj) => ((Below.refl _ w).alloc (Nat.le_refl _) o : Below w.heap.size w (w.alloc o)))
  have hlp := dig_length_pos h0
  have hb0 : (((dig a).length : Int) == 0) = false := by rw [beq_eq_false_iff_ne]; omega
  have hbl := blen_le_words hl
  obtain ⟨e0, he0⟩ : ∃ e0, (blen a + 1) / 2 = e0 := ⟨_, rfl⟩
  have heI : ((blen a : Int) + 1) / 2 = (e0 : Int) := by omega
  have he : e0 ≤ 262144 := by omega
  have hst := newton_start hK hl
  rw [he0] at hst
  have HS := Lib.hid hst
  have HL2 := Lib.hid hl
  have HK := Lib.hid hK
  have H0 := Lib.hid h0
  clear hn ha hlo hL hNr hst he0 hl hK h0
  go_enter Tryd.func39, Tryd.ntmps39
  go_wp2_with (first
    | (go_at_call 33; refine (HL.out _ (HT.out _) (by simp [World.cell?_alloc_new])).mono ?_; rintro e' w' ⟨rfl, rfl⟩)
    | (go_at_call 19; refine (HNr.out _ (HT.out _)).mono ?_; rintro en w1 ⟨g, A', hg, rfl, hO, hBa, rfl, hb1⟩)
    | (go_at_call 20; refine (root_len a _ _ HL2.out (hBa.alloc _)).mono ?_; rintro en w2 ⟨rfl, rfl⟩)
    | (go_at_call 34; refine (root_up _ e0 _ he (Blk.new _ _ [1] (by intro y hy; simp at hy; omega) rfl)).mono ?_; rintro en w3 ⟨A1, rfl, hO1, hb3⟩))
  have hbs := (((HB.out _).trans (hb1.mono (by simp))).alloc (by have := hb1.size; simp at this; omega) _).trans (hb3.mono (by have := hb1.size; simp at this ⊢; omega))
  have hBa3 := (hBa.alloc _).later hb3
  have hg1w : w.heap.size ≤ (w1.alloc (.cells #[.int .u32 1] 23)).heap.size := by have := hb1.size; simp at this ⊢; omega
  have HE := Lib.hid (And.intro hbs (And.intro hBa3 (And.intro hO1 hg1w)))
  clear hbs hBa3 hg1w hb1 hb3 hO1 hBa hO hg HNr HT HB HL
  go_loopg [5] (2 ^ e0) (fun x xv wr => ∃ A1 g1, xv = .slice A1 (dig x).length (dig x).length ∧ w.heap.size ≤ g1 ∧ Own wr g1 A1 (dig x) ∧ Blk wr g (dig a) ∧ Hid (Newton K a x) ∧ Below w.heap.size w wr)
  case atStart => exact ⟨A1, _, rfl, HE.out.2.2.2, HE.out.2.2.1, HE.out.2.1, HS.out, HE.out.1⟩
  case round =>
    obtain ⟨A1', g1, rfl, hg1, hO, hBa', hNw, hbw⟩ := hrel
    by_cases hlt : (a / gk + gk) / 2 < gk
    · have hC := root_cmp K a gk HK.out hNw.out
      rw [cmp_lt hlt] at hC
      have HC := Lib.hid hC
      have HLT := Lib.hid hlt
      clear hC hlt
      go_wp2_with (first
        | (go_at_call 38; refine (root_quo K a gk HK.out hNw.out HL2.out g A1' _ hBa' hO.rd).mono ?_; rintro en w4 ⟨gq, gr, Aq, Ar, hgq, -, -, rfl, hOq, -, hb4⟩)
        | (go_at_call 15; refine (root_add K a gk HK.out hNw.out A1' Aq _ hOq.rd (hO.later hb4).rd).mono ?_; rintro en w5 ⟨gs, As, hgs, rfl, hOs, hb5⟩)
        | (go_at_call 44; refine (root_down K a gk HK.out hNw.out As _ hOs.rd).mono ?_; rintro en w6 ⟨gy, Ay, lb, hgy, rfl, hOy, hb6⟩)
        | (go_at_call 22; refine (HC.out A1' Ay _ hOy.rd (((hO.later hb4).later hb5).later hb6).rd).mono ?_; rintro en w7 ⟨rfl, d, rfl⟩))
      go_roundg ((a / gk + gk) / 2)
      case measure => exact HLT.out
      case rel =>
        have hbb := hb4.trans ((hb5.mono hb4.size).trans (hb6.mono (Nat.le_trans hb4.size hb5.size)))
        exact ⟨Ay, gy, rfl, by have := hbw.size; have := hb4.size; have := hb5.size; omega, hOy.drewN d, (hBa'.later hbb).drewN d, newton_next (by have := H0.out; omega) hNw.out HLT.out, below_drewN (hbw.trans (hbb.mono hbw.size)) d⟩
    · obtain ⟨v, hv⟩ : ∃ v, cmp ((a / gk + gk) / 2) gk = v := ⟨_, rfl⟩
      have hv0 : 0 ≤ v := by rw [← hv]; unfold cmp; rw [if_neg hlt]; split <;> decide
      have hC := root_cmp K a gk HK.out hNw.out
      rw [hv] at hC
      have HC := Lib.hid hC
      have HR := Lib.hid (newton_stop hNw.out (by omega))
      obtain ⟨v2, hv2⟩ : ∃ v2, cmp (gk * gk) a = v2 := ⟨_, rfl⟩
      obtain ⟨sq, hsq⟩ : ∃ sq, decide (gk * gk = a) = sq := ⟨_, rfl⟩
      have hvb : (v2 == 0) = sq := by
        rw [← hv2, ← hsq]; unfold cmp
        rcases Nat.lt_trichotomy (gk * gk) a with h | h | h
        · rw [if_pos h, decide_eq_false (by omega)]; rfl
        · rw [if_neg (by omega), if_neg (by omega), decide_eq_true h]; rfl
        · rw [if_neg (by omega), if_pos h, decide_eq_false (by omega)]; rfl
      have hE := root_end a g gk
      rw [hv2] at hE
      have HEnd := Lib.hid hE
      have HV2 := Lib.hid (And.intro hv2 hsq)
      have HX : (dig gk).length ≤ 8193 := by have := newton_words hNw.out; have := HK.out; omega
      clear hC hE hlt hv hv2 hsq
      go_wp2_with (first
        | (go_at_call 38; refine (root_quo K a gk HK.out hNw.out HL2.out g A1' _ hBa' hO.rd).mono ?_; rintro en w4 ⟨gq, gr, Aq, Ar, hgq, -, -, rfl, hOq, -, hb4⟩)
        | (go_at_call 15; refine (root_add K a gk HK.out hNw.out A1' Aq _ hOq.rd (hO.later hb4).rd).mono ?_; rintro en w5 ⟨gs, As, hgs, rfl, hOs, hb5⟩)
        | (go_at_call 44; refine (root_down K a gk HK.out hNw.out As _ hOs.rd).mono ?_; rintro en w6 ⟨gy, Ay, lb, hgy, rfl, hOy, hb6⟩)
        | (go_at_call 22; with_reducible refine (HC.out A1' Ay _ hOy.rd (((hO.later hb4).later hb5).later hb6).rd).mono ?_; rintro en w7 ⟨rfl, d, rfl⟩)
        | (go_at_call 43; refine (root_mul A1' gk _ HX ((((hO.later hb4).later hb5).later hb6).drewN d).rd).mono ?_; rintro en w8 ⟨L, rfl, hBL, hLl, hLv, hb8⟩)
        | (go_at_call 42; refine (cut_any _ L.length L.length L _ hBL.rd rfl (Nat.le_refl _) (by omega)).mono ?_; rintro en w9 ⟨rfl, rfl⟩)
        | (go_at_call 22; have hBL' : Blk w8 w6.heap.size L := hBL; have hBa8 := ((((hBa'.later hb4).later hb5).later hb6).drewN d).later hb8; refine (HEnd.out _ L _ HL2.out hBa8 hBL' hLl hLv.out).mono ?_; rintro en w9 ⟨rfl, d2, rfl⟩))
      go_ret3
      have hbb := hb4.trans ((hb5.mono hb4.size).trans (hb6.mono (Nat.le_trans hb4.size hb5.size)))
      have hb9 := (below_drewN hbb d).trans (hb8.mono (Nat.le_trans hb4.size (Nat.le_trans hb5.size hb6.size)))
      refine ⟨g1, A1', dig gk, sq, 0, hg1, rfl, ?_, (hO.later hb9).drewN d2, below_drewN (hbw.trans (hb9.mono hbw.size)) d2⟩
      have hlo : long a = false := (long_false _).2 HL2.out
      rw [RootOf, hlo]
      exact ⟨gk, HR.out, rfl, HV2.out.2.symm, rfl⟩

set_option maxHeartbeats 1000000 in
theorem root_none (A : Option Addr) (n c : Nat) (xs : List Nat) (w : World) (h : Rd w A xs) (hn : xs.length = n) (hc : n ≤ c) (hm : n ≤ 70368744177663) (a : Nat) (ha : val xs = a) (h0 : long a = true ∨ a = 0) :
    Calls Tryd.prog 39 #[.slice A n c] w (RootPost w a) := by
  have hL := fun W hW h0 => long1_any (w.heap.size) A n c xs W hW hn (by omega) h0
  have hNr := fun W hW => norm_any A n c xs W hW hn (by omega)
  rw [ha] at hL hNr
  have HT := Lib.hid (fun (o : Obj) => (h.keep (fun b o' hb => World.cell?_alloc_lt w o _ hb) : Rd (w.alloc o) A xs))
  have HB := Lib.hid (fun (o : Obj) => ((Below.refl _ w).alloc (Nat.le_refl _) o : Below w.heap.size w (w.alloc o)))
  cases hlo : long a with
  | true =>
    have hR : RootOf a [] false 2 := by rw [RootOf, hlo]; exact ⟨rfl, rfl, rfl⟩
    rw [hlo] at hL
    have HL := Lib.hid hL
    have HR := Lib.hid hR
    clear hn ha hlo hL hNr h0 hR
    go_enter Tryd.func39, Tryd.ntmps39
    go_wp2_with (go_at_call 33; refine (HL.out _ (HT.out _) (by simp [World.cell?_alloc_new])).mono ?_; rintro e' w' ⟨rfl, rfl⟩)
    go_ret3
    exact ⟨w.heap.size, none, [], false, 2, Nat.le_refl _, rfl, HR.out, Own.nil _ _ _, HB.out _⟩
  | false =>
    have h1 : a = 0 := by rcases h0 with h0 | h0; · rw [hlo] at h0; cases h0
                          · exact h0
    have hR : RootOf a [] true 0 := by rw [RootOf, hlo, h1]; exact ⟨0, ⟨by omega, by omega⟩, dig_zero.symm, rfl, rfl⟩
    rw [hlo] at hL
    rw [h1, dig_zero] at hNr
    have HNr := Lib.hid hNr
    have HL := Lib.hid hL
    have HR := Lib.hid hR
    clear hn ha hlo hL hNr h0 h1 hR
    go_enter Tryd.func39, Tryd.ntmps39
    go_wp2_with (first
      | (go_at_call 33; refine (HL.out _ (HT.out _) (by simp [World.cell?_alloc_new])).mono ?_; rintro e' w' ⟨rfl, rfl⟩)
      | (go_at_call 19; refine (HNr.out _ (HT.out _)).mono ?_; rintro en w1 ⟨g, A', hg, rfl, hO, hBa, rfl, hb1⟩))
    go_ret3
    exact ⟨w.heap.size, none, [], true, 0, Nat.le_refl _, rfl, HR.out, Own.nil _ _ _, (HB.out _).trans (hb1.mono (by simp))⟩

/-- nat.Root. -/
theorem root_any (A : Option Addr) (n c : Nat) (xs : List Nat) (w : World) (h : Rd w A xs) (hn : xs.length = n) (hc : n ≤ c) (hm : n ≤ 70368744177663) :
    Calls Tryd.prog 39 #[.slice A n c] w (RootPost w (val xs)) := by
  by_cases h0 : long (val xs) = true ∨ val xs = 0
  · exact root_none A n c xs w h hn hc hm _ rfl h0
  · refine root_main A n c xs w h hn hc hm _ rfl ?_ (fun e => h0 (.inr e))
    rw [← long_false]
    cases hb : long (val xs) with
    | true => exact absurd (.inl hb) h0
    | false => rfl
end Go.Proofs.YtniogjkkhkibhaaDoor
