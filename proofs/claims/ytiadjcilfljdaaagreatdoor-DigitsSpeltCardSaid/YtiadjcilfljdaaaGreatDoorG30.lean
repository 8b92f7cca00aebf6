/- Layer 5: a natural in decimal digits, by the document. -/
import Derived.Test.YtiadjcilfljdaaaGreatDoorG27
import Derived.Test.YtiadjcilfljdaaaGreatDoorG09
import Derived.Test.YtiadjcilfljdaaaGreatDoorG05
import Derived.Laws.OwnMore
import Derived.Laws.Concat
section
namespace Go.Proofs.YtiadjcilfljdaaaGreatDoor
set_option linter.unusedVariables false
set_option linter.unusedSimpArgs false
open Go.RowKit Verge

set_option maxHeartbeats 1000000 in
/-- Norm: the list is new memory, and may be written. -/
theorem rnorm_grow (A : Option Addr) (n c : Nat) (X : List Nat) (w : World) (h : Rd w A X) (hn : X.length = n) (hm : n ≤ 35184372088800) :
    Calls Tryz.prog 85 #[.slice A n c] w (fun e w' => ∃ v, e = .returned v ∧ Grow w' w.heap.size v (dig (val X)) ∧ Below w.heap.size w w') := by
  have hD := dig_val h.1
  have hR := Lib.hid (fun W (hb : Below w.heap.size w W) => h.below hb)
  have hle := wl_le X
  have H1 := Lib.hid (And.intro hn (And.intro h hD))
  clear h hn hD
  go_enter Tryz.func85, Tryz.ntmps85
  go_wp2
  go_loop [3] (fun v => ∃ k : Nat, k ≤ n ∧ v = .int .i64 k ∧ Hid (∀ j x : Nat, k ≤ j → X[j]? = some x → x = 0)) (fun v => (intOf v).toNat)
  case atStart => exact ⟨n, Nat.le_refl _, rfl, fun j x hj hx => by rw [List.getElem?_eq_none (by have := H1.out.1; omega)] at hx; cases hx⟩
  case round =>
    obtain ⟨k, hk, rfl, hz⟩ := hrel
    by_cases hcont : ∃ j, k = j + 1 ∧ X[j]? = some 0
    · obtain ⟨j, rfl, hx⟩ := hcont
      obtain ⟨b, o, rfl, hc⟩ := (H1.out.2.1).2 (by rintro rfl; simp at hx)
      have hcell := hc j 0 hx
      have HX := Lib.hid hx; clear hx hc
      go_wp2
      go_round
      case rel => exact ⟨j, by omega, by go_num, fun i y hi hy => by
        rcases Nat.eq_or_lt_of_le hi with h | h
        · subst h; rw [HX.out] at hy; simpa using hy.symm
        · exact hz.out i y h hy⟩
      case measure => simp [intOf]
    · have hkw : wl X = k := wl_of X k (by have := H1.out.1; omega) (fun i x hi hx => hz.out i x hi hx) (fun j x hj hx hx0 => hcont ⟨j, hj, by rw [hx, hx0]⟩)
      have HK := Lib.hid hkw; clear hkw hz
      rcases Nat.eq_zero_or_pos k with hk0 | hk0
      · subst hk0
        clear hcont
        go_wp2
        go_loopw [4, 5] (fun v iv wr => v = .slice none 0 0 ∧ iv = .int .i64 0 ∧ wr = w) (fun _ _ _ => 0)
        case atStart => exact ⟨rfl, rfl, rfl⟩
        case round =>
          obtain ⟨rfl, rfl, rfl⟩ := hrel
          go_wp2
          go_ret
          have hd : dig (val X) = [] := by
            rw [H1.out.2.2, norm, HK.out]; rfl
          rw [hd]
          exact ⟨_, rfl, Grow.nil _ _, Below.refl _ _⟩
      · obtain ⟨b, o, rfl, hc⟩ := (H1.out.2.1).cells (by have := H1.out.1; omega)
        obtain ⟨j, rfl⟩ : ∃ j, k = j + 1 := ⟨k - 1, by omega⟩
        have hcell := hc j (by have := H1.out.1; omega)
        have hne : ((X.getD j 0 : Nat) : Int) ≠ 0 := by
          intro e
          exact hcont ⟨j, rfl, by rw [get_of_lt X (by have := H1.out.1; omega)]; congr 1; omega⟩
        obtain ⟨y, hy⟩ : ∃ y, X.getD j 0 = y := ⟨_, rfl⟩
        rw [hy] at hcell hne
        have hyb : ((y : Int) == 0) = false := by rw [beq_eq_false_iff_ne]; exact hne
        clear hcont hne hy hc
        go_wp2
        clear hyb hcell
        go_loopw [4, 5] (fun v iv wr => ∃ i : Nat, i ≤ j + 1 ∧ iv = .int .i64 i ∧ Grow wr w.heap.size v (X.take i) ∧ Below w.heap.size w wr) (fun _ iv _ => j + 1 - (intOf iv).toNat)
        case atStart => exact ⟨0, by omega, rfl, by rw [List.take_zero]; exact Grow.nil _ _, Below.refl _ _⟩
        case round =>
          obtain ⟨i, hi, rfl, hG, hb⟩ := hrel
          by_cases hij : i < j + 1
          · obtain ⟨b2, o2, he, hcx⟩ := (hR.out _ hb).cell (k := i) (by have := H1.out.1; omega)
            simp only [Option.some.injEq, Addr.mk.injEq, and_true] at he
            obtain ⟨rfl, rfl⟩ := he
            have hx32 := (hR.out _ hb).1.getD i
            obtain ⟨x, hgx⟩ : ∃ x, X.getD i 0 = x := ⟨_, rfl⟩
            rw [hgx] at hcx hx32
            have HGX := Lib.hid hgx; clear hgx
            have hsz := hb.size
            have hlen : (X.take i).length + 1 ≤ 35184372088832 := by rw [List.length_take]; omega
            have hin : (i : Int) < (n : Int) := by omega
            go_wp2_with (refine wpList_push rfl _ _ rfl w.heap.size _ (X.take i) rfl wr _ x rfl rfl hx32 hG rfl hlen hsz w hb ?_; intro v' w1 hG1 hb1)
            go_roundw
            case rel => exact ⟨i + 1, by omega, by go_num, by rw [take_succ_of' X (by have := H1.out.1; omega) HGX.out]; exact hG1, hb1⟩
            case measure => simp [intOf]; omega
          · obtain rfl : i = j + 1 := by omega
            go_wp2
            go_ret
            have hd : dig (val X) = X.take (j + 1) := by rw [H1.out.2.2, norm, HK.out]
            rw [hd]
            exact ⟨_, rfl, hG, hb⟩

theorem txt_len : ∀ n : Nat, (txt n).length ≤ blen n := by
  intro n
  induction n using Nat.strongRecOn with
  | _ n ih =>
    rcases Nat.eq_zero_or_pos n with h | h
    · subst h; exact Nat.le_refl _
    · rw [txt_step h, List.length_append]
      have h1 := ih (n / 10) (by omega)
      have h2 : blen (n / 10) + 1 ≤ blen n := by
        rcases Nat.eq_zero_or_pos (n / 10) with e | e
        · rw [e, blen_zero]; have := blen_pos (show n ≠ 0 by omega); omega
        · have h3 := blen_le (show n / 10 ≠ 0 by omega)
          have h4 := blen_pos (show n / 10 ≠ 0 by omega)
          have h5 : ¬ blen n ≤ blen (n / 10) := by
            rw [blen_lt]
            have : 2 ^ blen (n / 10) = 2 * 2 ^ (blen (n / 10) - 1) := by
              rw [show blen (n / 10) = (blen (n / 10) - 1) + 1 by omega, Nat.pow_succ, Nat.add_sub_cancel]; omega
            omega
          omega
      simp
      omega
theorem Grow.mono {w : World} {B B' : Nat} {v : Value} {xs : List Nat} (h : Grow w B v xs) (hB : B' ≤ B) : Grow w B' v xs := ⟨h.1, h.2.1, h.2.2.imp id fun ⟨g, cap, cur, h1, h2, h3⟩ => ⟨g, cap, cur, h1, Nat.le_trans hB h2, h3⟩⟩
theorem Grow.later {w w' : World} {B : Nat} {v : Value} {xs : List Nat} (h : Grow w B v xs) (hb : Below w.heap.size w w') : Grow w' B v xs :=
  ⟨h.1, h.2.kept (row := none) ⟨hb.os, hb.tape, hb.output, hb.size, fun k hk _ => hb.block k hk⟩ (by cases hv : v.ownBlock with | none => exact .inl rfl | some k => exact .inr (by simp))⟩
theorem Grow.formN {w : World} {B : Nat} {v : Value} {xs : List Nat} (h : Grow w B v xs) (hn : 0 < xs.length) : ∃ g cap, v = .slice (some ⟨g, 0, none⟩) xs.length cap ∧ xs.length ≤ cap ∧ cap ≤ maxLen ∧ B ≤ g ∧ g < w.heap.size := by
  have hl := h.2.lt
  rcases h.2.2 with ⟨_, h0⟩ | ⟨g, cap, cur, rfl, hb, _, h1, h2, _⟩
  · omega
  · exact ⟨g, cap, rfl, h1, h2, hb, (hl g rfl).2⟩
theorem Grow.atN {w : World} {B g n cap : Nat} {xs : List Nat} (h : Grow w B (.slice (some ⟨g, 0, none⟩) n cap) xs) (hn : xs.length = n) {j : Nat} (hj : j < n) :
    w.cell? ⟨g, j, none⟩ = some (.int .u32 ((xs.getD j 0 : Nat) : Int)) ∧ w.frozen? ⟨g, j, none⟩ = false := by
  subst hn
  refine ⟨(h.2.cellAt j (by omega)).trans ?_, h.2.frozenAt j⟩
  rw [u32s_get, List.getElem?_eq_getElem hj, List.getD_eq_getElem?_getD, List.getElem?_eq_getElem hj]
  rfl
theorem Grow.putN {w : World} {B g n cap : Nat} {xs : List Nat} (h : Grow w B (.slice (some ⟨g, 0, none⟩) n cap) xs) (hn : xs.length = n) (j : Nat) {v : Nat} (hv : v < 4294967296) :
    Grow (w.setCell ⟨g, j, none⟩ (.int .u32 (v : Int))) B (.slice (some ⟨g, 0, none⟩) n cap) (xs.set j v) := by
  subst hn
  refine ⟨h.1.set j hv, ?_⟩
  have := (h.2.stored j (.int .u32 (v : Int))).1
  rw [List.length_set]
  have e : (u32s xs).set j (.int .u32 (v : Int)) = u32s (xs.set j v) := by simp [u32s, List.map_set]
  rw [e] at this
  exact this
end Go.Proofs.YtiadjcilfljdaaaGreatDoor
end

section
namespace Go.Proofs.YtiadjcilfljdaaaGreatDoor
set_option linter.unusedVariables false
set_option linter.unusedSimpArgs false
open Go.RowKit Verge

theorem txt_le {q N : Nat} {t : List UInt8} (h : txt q ++ t = txt N) : t.length ≤ blen N := by
  have h1 := txt_len N
  rw [← h, List.length_append] at h1
  omega

set_option maxRecDepth 20000 in
set_option maxHeartbeats 8000000 in
theorem text_any (A : Option Addr) (n c : Nat) (X : List Nat) (w : World) (h : Rd w A X) (hn : X.length = n) (hm : n ≤ 35184372088700) :
    Calls Tryz.prog 53 #[.slice A n c] w fun e w' => e = .returned (.string (bs (txt (val X)))) ∧ Below w.heap.size w w' := by
  have HN := Lib.hid (rnorm_grow A n c X w h hn (by omega))
  have hNl : blen (val X) ≤ 1125899906842624 := by
    have h1 : val X < 4294967296 ^ X.length := val_lt h.1
    have h2 := (blen_lt (val X) (32 * X.length)).2 (by rw [Nat.pow_mul]; exact h1)
    omega
  have hdl : (dig (val X)).length ≤ 35184372088700 := by rw [← wl_eq h.1]; have := wl_le X; omega
  obtain ⟨N, hN⟩ : ∃ N, val X = N := ⟨_, rfl⟩
  rw [hN] at HN hNl hdl ⊢
  clear hN h hn
  go_enter Tryz.func53, Tryz.ntmps53
  go_wp2_with fail
  refine HN.out.mono ?_
  rintro e1 w1 ⟨v, rfl, hG, hb⟩
  have HE := Lib.hid (And.intro hG hb)
  clear hG hb HN
  go_wp2
  go_loopg [3, 4] N (fun q lv sv wr => ∃ t : List UInt8, sv = .string (bs t) ∧ q ≤ N ∧ Hid (txt q ++ t = txt N ∧ Grow wr w.heap.size lv (dig q) ∧ Below w.heap.size w wr))
  case atStart => exact ⟨[], rfl, Nat.le_refl _, by simp, HE.out.1, HE.out.2⟩
  case round =>
    clear HE
    obtain ⟨t, rfl, hq, hI⟩ := hrel
    rcases Nat.eq_zero_or_pos gk with h0 | h0
    · subst h0
      obtain ⟨A1, c1, hv, hR, _, _⟩ := hI.out.2.1.rd
      rw [dig_zero, List.length_nil] at hv
      subst hv
      go_wp2
      go_ret
      have e : t = txt N := by have := hI.out.1; rw [txt_zero] at this; exact this
      exact ⟨by subst e; rfl, hI.out.2.2⟩
    · have hdq : (dig gk).length ≤ 35184372088700 := Nat.le_trans (dig_length_mono hq) hdl
      have hd0 := dig_length_pos (show gk ≠ 0 by omega)
      obtain ⟨g, cap, rfl, hc1, hc2, hg1, hg2⟩ := hI.out.2.1.formN hd0
      obtain ⟨m, hmm⟩ : ∃ m, (dig gk).length = m := ⟨_, rfl⟩
      have hGr := hI.out.2.1
      rw [hmm] at hGr hc1 hdq hd0 ⊢
      have HI := Lib.hid (And.intro hI.out.1 hI.out.2.2)
      have HG := Lib.hid hGr
      have HM := Lib.hid hmm
      have HB := Lib.hid hg1
      unfold maxLen at hc2
      clear hI hGr hmm hg1 hg2
      go_wp2
      obtain ⟨wo, rfl⟩ : ∃ wo : World, wo = wr := ⟨_, rfl⟩
      go_loopw [5, 6] (fun rv iv wr => ∃ (iI : Int) (r : Nat) (Y : List Nat), -1 ≤ iI ∧ iI < m ∧ iv = .int .i64 iI ∧ rv = .int .u64 (r : Int) ∧ r < 1000000000 ∧ Hid (Grow wr w.heap.size (.slice (some ⟨g, 0, none⟩) m cap) Y ∧ Below w.heap.size w wr ∧ Y.length = m ∧ (∀ k : Nat, (k : Int) ≤ iI → Y.getD k 0 = (dig gk).getD k 0) ∧ val ((dig gk).drop (iI + 1).toNat) = 1000000000 * val (Y.drop (iI + 1).toNat) + r)) (fun _ iv _ => (intOf iv + 1).toNat)
      case atStart =>
        refine ⟨(m : Int) - 1, 0, dig gk, by omega, by omega, rfl, rfl, by omega, HG.out, HI.out.2, HM.out, fun k _ => rfl, ?_⟩
        rw [show ((m : Int) - 1 + 1).toNat = m by omega, List.drop_of_length_le (by rw [HM.out]; omega)]
        rfl
      case round =>
        clear HG
        obtain ⟨iI, r, Y, hi0, him, rfl, rfl, hr, hJ⟩ := hrel
        by_cases hneg : 0 ≤ iI
        · obtain ⟨j, rfl⟩ := Int.eq_ofNat_of_zero_le hneg
          have hjm : j < m := by omega
          obtain ⟨hcl, hfz⟩ := hJ.out.1.atN hJ.out.2.2.1 hjm
          have hx32 := hJ.out.1.1.getD j
          obtain ⟨x, hgx⟩ : ∃ x, Y.getD j 0 = x := ⟨_, rfl⟩
          rw [hgx] at hcl hx32
          have HGX := Lib.hid hgx
          clear hgx
          obtain ⟨t', ht⟩ : ∃ t', x + 4294967296 * r = t' := ⟨_, rfl⟩
          have hor : Go.bits .or .u64 ((r : Int) * 4294967296) (x : Int) = (t' : Int) := by rw [or_hi' x r hx32 (by omega), ht]
          have htb : t' < 18446744073709551616 := by omega
          have htq : t' / 1000000000 < 4294967296 := by omega
          obtain ⟨q, hq'⟩ : ∃ q, t' / 1000000000 = q := ⟨_, rfl⟩
          obtain ⟨r', hr'⟩ : ∃ r', t' % 1000000000 = r' := ⟨_, rfl⟩
          have hqI : (t' : Int) / 1000000000 = (q : Int) := by omega
          have hrI : (t' : Int) % 1000000000 = (r' : Int) := by omega
          have hr'y : r' < 1000000000 := by omega
          rw [hq'] at htq
          have HT := Lib.hid (And.intro ht (show t' = 1000000000 * q + r' by omega))
          clear ht hq' hr'
          go_wp2
          have HRI := Lib.hid hrI
          clear hor hqI hrI
          go_roundw
          case rel =>
            obtain ⟨h1, h2, h3, h4, h5⟩ := hJ.out
            obtain ⟨t1, t2⟩ := HT.out
            rw [show ((j : Int) + 1).toNat = j + 1 by omega] at h5
            have hst := one_step Y (dig gk) j x r t' q r' 1000000000 (by omega) (by rw [← h4 j (by omega)]; exact HGX.out) h5 t1.symm t2
            refine ⟨(j : Int) - 1, r', Y.set j q, by omega, by omega, rfl, by rw [HRI.out], hr'y, h1.putN h3 j htq, h2.setCell HB.out _, by rw [List.length_set]; exact h3, fun k hk => ?_, by rw [show ((j : Int) - 1 + 1).toNat = j by omega]; exact hst⟩
            rw [← h4 k (by omega), List.getD_eq_getElem?_getD, List.getElem?_set, if_neg (by omega), ← List.getD_eq_getElem?_getD]
          case measure => simp [intOf]
        · obtain rfl : iI = -1 := by omega
          obtain ⟨h1, h2, h3, h4, h5⟩ := hJ.out
          rw [show ((-1 : Int) + 1).toNat = 0 by omega, List.drop_zero, List.drop_zero, val_dig] at h5
          have hq2 : val Y = gk / 1000000000 := by omega
          have hr2 : r = gk % 1000000000 := by omega
          obtain ⟨A2, c2, e2, hR2, _, _⟩ := h1.rd
          have hR3 : Rd wr (some ⟨g, 0, none⟩) Y := by simp at e2; rw [e2.1]; exact hR2
          have HNm := Lib.hid (rnorm_grow _ m cap Y wr hR3 h3 (by omega))
          rw [hq2] at HNm
          have HB2 := Lib.hid h2
          have HR2 := Lib.hid hr2
          clear h1 h2 h3 h4 h5 hq2 hR2 hR3 e2 hr2 hJ
          go_wp2_with fail
          refine HNm.out.mono ?_
          rintro e2 w2 ⟨lv, rfl, hG2, hb2⟩
          obtain ⟨q2, hq3⟩ : ∃ q2, gk / 1000000000 = q2 := ⟨_, rfl⟩
          rw [hq3] at hG2
          have hstart : Hid (txt (chunk q2 r 9) ++ t = txt N ∧ Grow w2 w.heap.size lv (dig q2) ∧ Below w.heap.size w w2) := Lib.hid ⟨by rw [← hq3, HR2.out, chunk_all]; exact HI.out.1, hG2.mono HB2.out.size, HB2.out.trans (hb2.mono HB2.out.size)⟩
          have HQ := Lib.hid (show q2 < gk ∧ q2 ≤ N by omega)
          obtain ⟨A3, c3, rfl, hR3, hc3, hc4⟩ := hG2.rd
          obtain ⟨m2, hm2⟩ : ∃ m2, (dig q2).length = m2 := ⟨_, rfl⟩
          have hz : (0 < m2 ↔ 0 < q2) := by
            rw [← hm2]
            constructor
            · intro h; rcases Nat.eq_zero_or_pos q2 with e | e
              · rw [e, dig_zero] at h; simp at h
              · exact e
            · intro h; exact dig_length_pos (by omega)
          rw [hm2] at hstart hc3 ⊢
          have HM2 := Lib.hid hm2
          have HZ := Lib.hid hz
          clear hm2 hz hR3 hc3 hc4 hG2 hb2 hq3 HNm HB2 HR2
          go_wp2
          obtain ⟨wi, rfl⟩ : ∃ wo : World, wo = w2 := ⟨_, rfl⟩
          go_loopw [4, 5, 7] (fun sv rv kv wr => ∃ (k r : Nat) (t : List UInt8), k ≤ 9 ∧ kv = .int .i64 (k : Int) ∧ rv = .int .u64 (r : Int) ∧ sv = .string (bs t) ∧ r < 10 ^ (9 - k) ∧ Hid (txt (chunk q2 r (9 - k)) ++ t = txt N ∧ Grow wr w.heap.size (.slice A3 m2 c3) (dig q2) ∧ Below w.heap.size w wr)) (fun _ _ kv _ => 9 - (intOf kv).toNat)
          case atStart => exact ⟨0, r, t, by omega, rfl, rfl, rfl, hr, hstart.out⟩
          case round =>
            clear hstart
            obtain ⟨k, r1, t1, hk, rfl, rfl, rfl, hr1, hK⟩ := hrel
            have hrb : r1 < 1000000000 := Nat.lt_of_lt_of_le hr1 (Nat.le_trans (Nat.pow_le_pow_right (by omega) (show 9 - k ≤ 9 by omega)) (by decide))
            by_cases hgo : k < 9 ∧ (0 < q2 ∨ 0 < r1)
            · obtain ⟨hk9, hpos⟩ := hgo
              obtain ⟨j, hj⟩ : ∃ j, 9 - k = j + 1 := ⟨8 - k, by omega⟩
              have hj2 : 9 - (k + 1) = j := by omega
              rw [hj] at hr1 hK
              obtain ⟨hs1, hs2, hs3⟩ := chunk_step (q := q2) hr1
              obtain ⟨d, hd⟩ : ∃ d, r1 % 10 = d := ⟨_, rfl⟩
              obtain ⟨r2, hr2⟩ : ∃ d, r1 / 10 = d := ⟨_, rfl⟩
              have hd10 : d < 10 := by omega
              have hdI : (r1 : Int) % 10 = (d : Int) := by omega
              have hrI : (r1 : Int) / 10 = (r2 : Int) := by omega
              have hnx : Hid (txt (chunk q2 r2 j) ++ (UInt8.ofNat (48 + d) :: t1) = txt N ∧ r2 < 10 ^ j) := Lib.hid (by
                refine ⟨?_, by rw [← hr2]; exact hs3⟩
                have h1 := hK.out.1
                rw [txt_step (chunk_pos.2 hpos), hs1, hs2, hd, hr2] at h1
                simpa using h1)
              have hlen := txt_le hK.out.1
              have hxt : ((UInt8.ofNat (48 + d)).toNat : Int) = 48 + (d : Int) := by
                have : (UInt8.ofNat (48 + d)).toNat = 48 + d := by simp [UInt8.toNat_ofNat]; omega
                omega
              obtain ⟨x, hx⟩ : ∃ x, UInt8.ofNat (48 + d) = x := ⟨_, rfl⟩
              rw [hx] at hxt hnx
              have hcv := conv1 (wr.alloc (.cells #[.int .u8 (48 + (d : Int))] 5)) wr.heap.size 0 1 x (by rw [hxt]; simp [World.cell?_alloc_new])
              have hsz : (bs [x]).size + (bs t1).size ≤ 9223372036854775807 := by rw [bs_size, bs_size]; simp; omega
              clear hx
              have t9 : decide ((k : Int) < 9) = true := decide_eq_true (by omega)
              have HK := Lib.hid (And.intro (hK.out.2.1.later ((Below.refl _ wr).alloc (Nat.le_refl _) (.cells #[.int .u8 (48 + (d : Int))] 5))) (hK.out.2.2.trans (((Below.refl _ wr).alloc (Nat.le_refl _) (.cells #[.int .u8 (48 + (d : Int))] 5)).mono hK.out.2.2.size)))
              have HJ := Lib.hid hj2
              have HP := Lib.hid hpos
              clear hs1 hs2 hs3 hd hr2 hK hpos hj hr1 hxt hlen hj2
              by_cases hm0 : 0 < m2
              · go_wp2
                go_roundw
                case rel => exact ⟨k + 1, r2, _, by omega, by go_num, rfl, by rw [bs_append], by rw [HJ.out]; exact hnx.out.2, by rw [HJ.out]; exact hnx.out.1, HK.out.1, HK.out.2⟩
                case measure => simp [intOf]; omega
              · have hr0 : 0 < r1 := by
                  rcases HP.out with h | h
                  · exact absurd (HZ.out.2 h) hm0
                  · exact h
                have hr0' : 0 < (r1 : Int) := by omega
                have hm0' : decide (0 < (m2 : Int)) = false := decide_eq_false (by omega)
                go_wp2
                go_roundw
                case rel => exact ⟨k + 1, r2, _, by omega, by go_num, rfl, by rw [bs_append], by rw [HJ.out]; exact hnx.out.2, by rw [HJ.out]; exact hnx.out.1, HK.out.1, HK.out.2⟩
                case measure => simp [intOf]; omega
            · have hend : Hid (txt q2 ++ t1 = txt N) := Lib.hid (by
                have h1 := hK.out.1
                by_cases hk9 : k < 9
                · have e1 : q2 = 0 := by
                    rcases Nat.eq_zero_or_pos q2 with e | e
                    · exact e
                    · exact absurd ⟨hk9, .inl e⟩ hgo
                  have e2 : r1 = 0 := by
                    rcases Nat.eq_zero_or_pos r1 with e | e
                    · exact e
                    · exact absurd ⟨hk9, .inr e⟩ hgo
                  rw [e1, e2] at h1
                  rw [e1]
                  have : chunk 0 0 (9 - k) = 0 := by unfold chunk; omega
                  rw [this] at h1
                  exact h1
                · have e : 9 - k = 0 := by omega
                  rw [e] at hr1 h1
                  have : r1 = 0 := by omega
                  rw [this, chunk_end] at h1
                  exact h1)
              have HK := Lib.hid hK.out.2
              clear hK hr1
              by_cases hk9 : k < 9
              · have hm0 : ¬ 0 < m2 := fun h => hgo ⟨hk9, .inl (HZ.out.1 h)⟩
                have hm0' : decide (0 < (m2 : Int)) = false := decide_eq_false (by omega)
                obtain rfl : r1 = 0 := by
                  rcases Nat.eq_zero_or_pos r1 with e | e
                  · exact e
                  · exact absurd ⟨hk9, .inr e⟩ hgo
                have t9 : decide ((k : Int) < 9) = true := decide_eq_true (by omega)
                clear hgo hrb
                go_wp2
                go_roundg q2
                case measure => exact HQ.out.1
                case rel => exact ⟨t1, rfl, HQ.out.2, hend.out, HK.out.1, HK.out.2⟩
              · have t9 : decide ((k : Int) < 9) = false := decide_eq_false (by omega)
                clear hgo hrb
                go_wp2
                go_roundg q2
                case measure => exact HQ.out.1
                case rel => exact ⟨t1, rfl, HQ.out.2, hend.out, HK.out.1, HK.out.2⟩
end Go.Proofs.YtiadjcilfljdaaaGreatDoor
end
