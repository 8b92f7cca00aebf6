/- Layer 5: the document's Value. -/
import Derived.Test.YtiadjcilfljdaaaNumW
import Derived.Test.YtiadjcilfljdaaaRatD
import Derived.Test.YtiadjcilfljdaaaRefP
namespace Go.Proofs.Ytiadjcilfljdaaa
set_option linter.unusedVariables false
set_option linter.unusedSimpArgs false
open Go.RowKit Verge

theorem ite_le' {p : Prop} [Decidable p] {a b k : Nat} (ha : a ≤ k) (hb : b ≤ k) : (if p then a else b) ≤ k := by split <;> assumption
theorem nxH_le (s : Nat) (c : UInt8) : nxH s c ≤ 18 := by
  unfold nxH
  repeat' (first | decide | apply ite_le')
theorem nx_le (s : Nat) (c : UInt8) : nx s c ≤ 18 := by
  unfold nx
  repeat' (first | decide | exact nxH_le s c | apply ite_le')
theorem dig_shl_len (a b : Nat) : (dig (a * 2 ^ b)).length ≤ b / 32 + (dig a).length + 1 := by
  rw [dig_length_le, pow32]
  have h := dig_length_le.1 (Nat.le_refl (dig a).length)
  rw [pow32] at h
  have h1 : a * 2 ^ b < 2 ^ (32 * (dig a).length) * 2 ^ b := Nat.mul_lt_mul_of_pos_right h (Nat.two_pow_pos b)
  rw [← Nat.pow_add] at h1
  exact Nat.lt_of_lt_of_le h1 (Nat.pow_le_pow_right (by omega) (by omega))
theorem dig_div_len (n k : Nat) : (dig (n / k)).length ≤ (dig n).length := dig_length_mono (Nat.div_le_self _ _)
theorem fracN_len (n d : Nat) (e : Int) : (dig (fracN n d e)).length ≤ e.toNat / 32 + (dig n).length + 3 := by
  by_cases hn : n = 0
  · have : fracN n d e = 0 := by unfold fracN; rw [if_pos hn]
    rw [this, dig_zero]; simp
  · have hN : fracN n d e = (n / 2 ^ ntz n) * 2 ^ (fracE n d e).toNat := by unfold fracN; rw [if_neg hn]
    rw [hN]
    have h1 := dig_shl_len (n / 2 ^ ntz n) (fracE n d e).toNat
    have h2 := dig_div_len n (2 ^ ntz n)
    by_cases he : 0 < fracE n d e
    · have := fracN_wl (n := n) (d := d) he
      omega
    · have : (fracE n d e).toNat = 0 := by omega
      rw [this] at h1 ⊢
      omega
theorem fracD_len (n d : Nat) (e : Int) : (dig (fracD n d e)).length ≤ (-e).toNat / 32 + (dig d).length + 3 := by
  by_cases hn : n = 0
  · have : fracD n d e = 1 := by unfold fracD; rw [if_pos hn]
    rw [this, dig_one]; simp
  · have hN : fracD n d e = (d / 2 ^ ntz d) * 2 ^ (-(fracE n d e)).toNat := by unfold fracD; rw [if_neg hn]
    rw [hN]
    have h1 := dig_shl_len (d / 2 ^ ntz d) (-(fracE n d e)).toNat
    have h2 := dig_div_len d (2 ^ ntz d)
    by_cases he : fracE n d e < 0
    · have := fracD_wl (n := n) (d := d) he
      omega
    · have : (-(fracE n d e)).toNat = 0 := by omega
      rw [this] at h1 ⊢
      omega
/-- Frac's answer as a ratio's value. -/
theorem rv_frac {s : Bool} {x y : Nat} {e : Int} {k : Nat} {v : Value} {w : World} (hy : 0 < y) (h : IsQ (s && decide (x ≠ 0)) (fracN x y e) (fracD x y e) v w) (h1 : e.toNat / 32 + (dig x).length + 3 ≤ k) (h2 : (-e).toNat / 32 + (dig y).length + 3 ≤ k) :
    IsRV (sv s (x * 2 ^ e.toNat)) (y * 2 ^ (-e).toNat) k v w := by
  refine ⟨_, _, _, h, Nat.mul_pos hy (Nat.two_pow_pos _), by rw [val_dig]; exact fracD_pos x y e (by omega), ?_, Nat.le_trans (fracN_len x y e) h1, Nat.le_trans (fracD_len x y e) h2⟩
  have hv := frac_val x y e (by omega) (-e).toNat (by omega)
  rw [show ((-e).toNat : Int) + e = (e.toNat : Int) by omega, Int.toNat_natCast] at hv
  have hs : sv (s && decide (x ≠ 0)) (fracN x y e) = sv s (fracN x y e) := by
    by_cases hx : x = 0
    · have : fracN x y e = 0 := (fracN_zero x y e).2 hx
      rw [this]; unfold sv; cases s <;> simp
    · simp [hx]
  rw [val_dig, val_dig, hs]
  have e1 : sv s (fracN x y e) * ((y * 2 ^ (-e).toNat : Nat) : Int) = sv s (fracN x y e * y * 2 ^ (-e).toNat) := by
    unfold sv; cases s <;> simp [Int.mul_assoc, Int.neg_mul]
  have e2 : sv s (x * 2 ^ e.toNat) * (fracD x y e : Int) = sv s (x * fracD x y e * 2 ^ e.toNat) := by
    unfold sv; cases s <;> simp <;> grind
  rw [e1, e2, hv]

/-- What Value answers. -/
def IsVal (r : Except (Nat × Int) (Bool × Nat × Nat × Int)) (v : Value) (w : World) : Prop :=
  match r with
  | .error (p, e) => v = .tuple #[.agg #[.bool false, .slice none 0 0, .slice none 0 0], .int .i64 (p : Int), .int .i64 e]
  | .ok (n, x, y, t) => ∃ r, v = .tuple #[r, .int .i64 0, .int .i64 0] ∧ IsRV (sv n (x * 2 ^ t.toNat)) (y * 2 ^ (-t).toNat) 10000 r w

set_option maxRecDepth 100000 in
theorem value5_long (l : List UInt8) (hl : 4096 < l.length) (hl2 : l.length ≤ 140737488355328) (w : World) : Calls Try.prog 14 #[.string (bs l)] w (Ans w (IsVal (.error (4096, 2)))) := by
  have hs : (bs l).size = l.length := bs_size l
  generalize bs l = S at *
  obtain ⟨L, hL⟩ : ∃ L, l.length = L := ⟨_, rfl⟩
  rw [hL] at hs hl hl2
  clear hL
  obtain ⟨P, hP⟩ : ∃ P : Ending → World → Prop, P = Ans w (IsVal (.error (4096, 2))) := ⟨_, rfl⟩
  rw [← hP]
  have HP := Lib.hid hP
  clear hP
  go_enter Try.func14, Try.ntmps14
  go_wp2
  refine bodyPost_ret (v := .tuple #[.agg #[.bool false, .slice none 0 0, .slice none 0 0], .int .i64 4096, .int .i64 2]) (by simp [results, Try.results14, go_sem]) rfl ?_
  rw [HP.out]
  exact ⟨_, rfl, rfl, raft (rnew w _) (rnew _ _)⟩
set_option maxRecDepth 100000 in
set_option maxHeartbeats 1000000 in
theorem value5_bad (l : List UInt8) (hl : l.length ≤ 4096) (k : Nat) (hk : frm (run 0 l) = .error k) (w : World) : Calls Try.prog 14 #[.string (bs l)] w (Ans w (IsVal (.error (l.length - k, 50)))) := by
  have hs : (bs l).size = l.length := bs_size l
  obtain ⟨S, hS⟩ : ∃ S, bs l = S := ⟨_, rfl⟩
  have HSA := Lib.hid (fun i c h => (hS ▸ bs_at l i c h : ∀ hi : i < S.size, S[i]'hi = c))
  rw [hS] at hs ⊢
  obtain ⟨L, hL⟩ : ∃ L, l.length = L := ⟨_, rfl⟩
  rw [hL] at hs hl ⊢
  have HL := Lib.hid (And.intro hL hk)
  clear hL hS hk
  obtain ⟨P, hP⟩ : ∃ P : Ending → World → Prop, P = Ans w (IsVal (.error (L - k, 50))) := ⟨_, rfl⟩
  rw [← hP]
  have HP := Lib.hid hP
  have HW0 := Lib.hid (raft (rnew w ratO) (rnew _ ratO))
  clear hP
  go_enter Try.func14, Try.ntmps14
  go_wp2
  go_loop [6, 7] (fun sv iv => ∃ i s : Nat, i ≤ L ∧ s ≤ 17 ∧ sv = .int .i64 (s : Int) ∧ iv = .int .i64 (i : Int) ∧ Hid (run 0 l = run s (l.drop i))) (fun _ iv => L - (intOf iv).toNat)
  case atStart => exact ⟨0, 0, by omega, by omega, rfl, rfl, rfl⟩
  case round =>
    obtain ⟨i, s, hi, hs17, rfl, rfl, hI⟩ := hrel
    by_cases hlt : i < L
    · have hltI : (i : Int) < (L : Int) := by omega
      obtain ⟨c, hc⟩ : ∃ c, l[i]? = some c := ⟨_, List.getElem?_eq_getElem (by rw [HL.out.1]; exact hlt)⟩
      have hcS := HSA.out i c hc
      have hdr : l.drop i = c :: l.drop (i + 1) := by
        rw [List.drop_eq_getElem_cons (by rw [HL.out.1]; exact hlt)]
        congr 1
        exact (List.getElem?_eq_some_iff.1 hc).2
      have HN := Lib.hid (fun W => next5_any s (by omega) c W)
      have hn18 : nx s c ≤ 18 := nx_le s c
      obtain ⟨t, ht⟩ : ∃ t, nx s c = t := ⟨_, rfl⟩
      rw [ht] at HN hn18
      by_cases h18 : t = 18
      · subst h18
        have HK : Hid (L - k = i) := Lib.hid (by
          have h1 := HL.out.2
          rw [hI.out, hdr, run_stop ht] at h1
          unfold frm at h1
          rw [if_neg (by simp)] at h1
          injection h1 with h1
          have h3 : (c :: l.drop (i + 1)).length = k := h1
          have h2 := congrArg List.length hdr
          rw [List.length_drop, HL.out.1, h3] at h2
          omega)
        clear hc hdr ht hI hn18
        go_wp2_with (go_at_call 27; refine (HN.out _).mono ?_; rintro e w1 ⟨rfl, rfl⟩)
        refine bodyPost_ret (v := .tuple #[.agg #[.bool false, .slice none 0 0, .slice none 0 0], .int .i64 (i : Int), .int .i64 50]) (by simp [results, Try.results14, go_sem]) rfl ?_
        rw [HP.out, HK.out]
        exact ⟨_, rfl, rfl, HW0.out⟩
      · have h18' : ((t : Int) == 18) = false := by simpa using (by omega : ¬ (t : Int) = 18)
        have HR := Lib.hid (show run 0 l = run t (l.drop (i + 1)) by rw [hI.out, hdr, run_go ht h18])
        have HT := Lib.hid (show t ≤ 17 by omega)
        clear hc hdr ht hI hn18 h18
        go_wp2_with (go_at_call 27; refine (HN.out _).mono ?_; rintro e w1 ⟨rfl, rfl⟩)
        go_round
        case rel => exact ⟨i + 1, t, by omega, HT.out, rfl, by go_num, HR.out⟩
        case measure => simp [intOf]; omega
    · obtain rfl : i = L := by omega
      have hrun : run 0 l = (s, []) := by rw [hI.out, List.drop_of_length_le (by rw [HL.out.1]; omega)]; rfl
      have he : endS s = false ∧ k = 0 := by
        have h1 := HL.out.2
        rw [hrun] at h1
        unfold frm at h1
        by_cases he : endS s = true
        · rw [if_pos ⟨rfl, he⟩] at h1; cases h1
        · rw [if_neg (fun h => he h.2)] at h1
          injection h1 with h1
          exact ⟨by simpa using he, h1.symm⟩
      obtain ⟨he, rfl⟩ := he
      have HE := Lib.hid (fun W => ends5_any s W)
      rw [he] at HE
      clear he hrun hI
      go_wp2_with (go_at_call 28; refine (HE.out _).mono ?_; rintro e w1 ⟨rfl, rfl⟩)
      refine bodyPost_ret (v := .tuple #[.agg #[.bool false, .slice none 0 0, .slice none 0 0], .int .i64 (i : Int), .int .i64 50]) (by simp [results, Try.results14, go_sem]) rfl ?_
      rw [HP.out]
      exact ⟨_, rfl, rfl, HW0.out⟩
end Go.Proofs.Ytiadjcilfljdaaa
