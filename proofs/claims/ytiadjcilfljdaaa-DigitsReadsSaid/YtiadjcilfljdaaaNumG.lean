/- Layer 5: the document's value, whole, exponent, behind. -/
import Derived.Test.YtiadjcilfljdaaaNumF
import Derived.Laws.OwnMore
namespace Go.Proofs.Ytiadjcilfljdaaa
set_option linter.unusedVariables false
set_option linter.unusedSimpArgs false
open Go.RowKit Verge

theorem value5_any (c : UInt8) (hc : isX c = true) (w : World) : Calls Try.prog 58 #[.int .u8 (c.toNat : Int)] w fun e w' => e = .returned (.int .u32 (dvl c : Nat)) ∧ w = w' := by
  have H := Lib.hid (fun W => digit5_any c W)
  have hx := isX_iff.1 hc
  have hd0 := isD_iff (c := c)
  have hlt : (c.toNat : Int) ≤ 255 := by have := c.toNat_lt; omega
  by_cases hd : isD c = true
  · rw [hd] at H
    have hdd := hd0.1 hd
    have h1 : (48 : Int) ≤ c.toNat := by omega
    have h2 : (c.toNat : Int) ≤ 57 := by omega
    have HV := Lib.hid (show dvl c = c.toNat - 48 by unfold dvl; rw [if_pos hdd.2])
    clear hd hdd hd0 hx hc
    go_enter Try.func58, Try.ntmps58
    go_wp2_with (go_at_call 51; refine (H.out _).mono ?_; rintro e w1 ⟨rfl, rfl⟩)
    go_ret
    exact ⟨ret_int (a := (c.toNat : Int) - 48) (by rw [HV.out]; omega), rfl⟩
  · have hd' : isD c = false := by simpa using hd
    rw [hd'] at H
    by_cases h97 : 97 ≤ c.toNat
    · have h1 : (97 : Int) ≤ c.toNat := by omega
      have h2 : (c.toNat : Int) ≤ 102 := by
        rcases hx with h | h | h
        · exact absurd (hd0.2 h) hd
        · omega
        · omega
      have HV := Lib.hid (show dvl c = c.toNat - 87 by unfold dvl; rw [if_neg (by omega), if_pos h97])
      clear hd hd' hd0 hx hc h97
      go_enter Try.func58, Try.ntmps58
      go_wp2_with (go_at_call 51; refine (H.out _).mono ?_; rintro e w1 ⟨rfl, rfl⟩)
      go_ret
      exact ⟨ret_int (a := (c.toNat : Int) - 97 + 10) (by rw [HV.out]; omega), rfl⟩
    · have hr : 65 ≤ c.toNat ∧ c.toNat ≤ 70 := by
        rcases hx with h | h | h
        · exact absurd (hd0.2 h) hd
        · omega
        · exact h
      have h1 : (65 : Int) ≤ c.toNat := by omega
      have h2 : (c.toNat : Int) ≤ 70 := by omega
      have h3 : decide ((97 : Int) ≤ c.toNat) = false := decide_eq_false (by omega)
      have HV := Lib.hid (show dvl c = c.toNat - 55 by unfold dvl; rw [if_neg (by omega), if_neg h97])
      clear hd hd' hd0 hx hc h97 hr
      go_enter Try.func58, Try.ntmps58
      go_wp2_with (go_at_call 51; refine (H.out _).mono ?_; rintro e w1 ⟨rfl, rfl⟩)
      go_ret
      exact ⟨ret_int (a := (c.toNat : Int) - 65 + 10) (by rw [HV.out]; omega), rfl⟩
theorem behind5_any (l : List UInt8) (hl : l.length ≤ 100000) (w : World) : Calls Try.prog 33 #[.string (bs l)] w fun e w' => e = .returned (.int .i64 (if fnd [46] l < 0 then 0 else (l.length : Int) - 1 - fnd [46] l)) ∧ Below w.heap.size w w' := by
  have H := Lib.hid (fun W => find5_any l [46] hl (by decide) W)
  have h0 : -1 ≤ fnd [46] l ∧ fnd [46] l ≤ 100000 := by
    unfold fnd
    split <;> omega
  have hs : (bs l).size = l.length := bs_size l
  generalize fnd [46] l = f at *
  generalize bs l = S at *
  obtain ⟨L, hL⟩ : ∃ L, l.length = L := ⟨_, rfl⟩
  rw [hL] at hs hl ⊢
  clear hL
  obtain ⟨h1, h2⟩ := h0
  by_cases hf : f < 0
  · rw [if_pos hf]
    go_enter Try.func33, Try.ntmps33
    go_wp2_with (go_at_call 29; refine (H.out _).mono ?_; rintro e w1 ⟨rfl, hb⟩)
    go_ret
    exact ⟨rfl, by assumption⟩
  · rw [if_neg hf]
    have hf' : decide (f < 0) = false := decide_eq_false hf
    go_enter Try.func33, Try.ntmps33
    go_wp2_with (go_at_call 29; refine (H.out _).mono ?_; rintro e w1 ⟨rfl, hb⟩)
    go_ret
    exact ⟨rfl, by assumption⟩

theorem sg_from (e : List UInt8) : (sg e).2 = e.drop (e.length - (sg e).2.length) ∧ (sg e).2.length ≤ e.length ∧ e.length ≤ (sg e).2.length + 1 := by
  rcases sg_text e with ⟨c, hc, he, _⟩ | ⟨h, _⟩
  · have hl : e.length = (sg e).2.length + 1 := by conv => lhs; rw [he, List.length_cons]
    refine ⟨?_, by omega, by omega⟩
    rw [hl, show (sg e).2.length + 1 - (sg e).2.length = 1 by omega]
    conv => rhs; rw [he]
    rfl
  · rw [h]; simp
theorem numB_takeL (b : Nat) (hb : 0 < b) (l : List UInt8) (k : Nat) : numB b (l.take k) ≤ numB b l := by
  conv => rhs; rw [← List.take_append_drop k l]
  exact numB_mono b hb _ _
theorem numB_takeS (b : Nat) (l : List UInt8) (k : Nat) (c : UInt8) (h : l[k]? = some c) : numB b (l.take (k + 1)) = numB b (l.take k) * b + dvl c := by
  rw [List.take_add_one, h]
  exact numB_snoc b _ c
set_option maxHeartbeats 2000000 in
theorem expo_core (pre D : List UInt8) (hpre : pre = [43] ∨ pre = [45] ∨ pre = []) (h0 : D ≠ []) (hd : ∀ c ∈ D, isD c = true) (hl : D.length ≤ 100000) (w : World) :
    Calls Try.prog 30 #[.string (bs (pre ++ D))] w fun en w' => en = .returned (.tuple #[.int .i64 (if 9999 < numB 10 D then 0 else if pre = [45] then -(numB 10 D : Int) else numB 10 D), .bool (decide (9999 < numB 10 D)), .int .i64 (pre.length : Int)]) ∧ w = w' := by
  have HT := Lib.hid (fun k => numB_takeL 10 (by omega) D k)
  have HS := Lib.hid (fun k c => numB_takeS 10 D k c)
  have hat : ∀ k, k < D.length → ∃ c, D[k]? = some c ∧ (pre ++ D)[pre.length + k]? = some c ∧ isD c = true := by
    intro k hk
    refine ⟨_, List.getElem?_eq_getElem hk, ?_, hd _ (List.getElem_mem hk)⟩
    rw [List.getElem?_append_right (by omega), show pre.length + k - pre.length = k by omega]
    exact List.getElem?_eq_getElem hk
  have HAT := Lib.hid hat
  have hDp := List.length_pos_iff.2 h0
  have HB := Lib.hid (fun i c h => bs_at (pre ++ D) i c h)
  have hsz : (bs (pre ++ D)).size = pre.length + D.length := by rw [bs_size, List.length_append]
  obtain ⟨z, hz, hzc⟩ : ∃ z : UInt8, (pre ++ D)[0]? = some z ∧ ((pre = [43] ∧ z = 43) ∨ (pre = [45] ∧ z = 45) ∨ (pre = [] ∧ isD z = true)) := by
    rcases hpre with rfl | rfl | rfl
    · exact ⟨43, rfl, .inl ⟨rfl, rfl⟩⟩
    · exact ⟨45, rfl, .inr (.inl ⟨rfl, rfl⟩)⟩
    · obtain ⟨c, hc, _, hh⟩ := hat 0 hDp
      exact ⟨c, by simpa using hc, .inr (.inr ⟨rfl, hh⟩)⟩
  have hz0 := HB.out 0 z hz
  obtain ⟨S, hS⟩ : ∃ S, bs (pre ++ D) = S := ⟨_, rfl⟩
  simp only [hS] at hsz HB hz0 ⊢
  obtain ⟨L, hL⟩ : ∃ L, D.length = L := ⟨_, rfl⟩
  rw [hL] at hsz hDp hl
  have HN := Lib.hid (show numB 10 (D.take L) = numB 10 D by rw [← hL, List.take_length])
  rw [hL] at HAT
  obtain ⟨N, hN⟩ : ∃ N, numB 10 D = N := ⟨_, rfl⟩
  simp only [hN] at HT HN ⊢
  have HSS := Lib.hid hS
  clear hL hat h0 hd hz hpre hN
  obtain ⟨X, hX⟩ : ∃ X : Int, (if 9999 < N then 0 else if pre = [45] then -(N : Int) else N) = X := ⟨_, rfl⟩
  obtain ⟨Y, hY⟩ : ∃ Y, decide (9999 < N) = Y := ⟨_, rfl⟩
  rw [hX, hY]
  have HXY := Lib.hid (And.intro hX hY)
  clear hX hY
  rcases hzc with ⟨rfl, rfl⟩ | ⟨rfl, rfl⟩ | ⟨rfl, hzd⟩
  · simp only [List.length_cons, List.length_nil] at hsz HAT ⊢
    have hz1 := hz0 (by omega)
    clear hz0
    go_enter Try.func30, Try.ntmps30
    go_wp2
    go_loop [6, 7] (fun v iv => ∃ j n : Nat, 1 ≤ j ∧ j ≤ 1 + L ∧ iv = .int .i64 (j : Int) ∧ v = .int .i64 (n : Int) ∧ n ≤ 9999 ∧ Hid (n = numB 10 (D.take (j - 1)))) (fun _ iv => 1 + L - (intOf iv).toNat)
    case atStart => exact ⟨1, 0, by omega, by omega, rfl, rfl, by omega, rfl⟩
    case round =>
      obtain ⟨j, n, hj1, hj2, rfl, rfl, hn, hI⟩ := hrel
      by_cases hlt : j < 1 + L
      · have hltI : (j : Int) < (S.size : Int) := by omega
        obtain ⟨c, hc1, hc2, hc3⟩ := HAT.out (j - 1) (by omega)
        rw [show 1 + (j - 1) = j by omega] at hc2
        have hcS := HB.out j c hc2 (by omega)
        have hcd := isD_iff.1 hc3
        have hc48 : (48 : Int) ≤ c.toNat := by omega
        have hc57 : (c.toNat : Int) ≤ 57 := by omega
        have HST := Lib.hid (show numB 10 (D.take (j + 1 - 1)) = 10 * n + (c.toNat - 48) by
          rw [show j + 1 - 1 = j - 1 + 1 by omega, HS.out _ _ hc1, ← hI.out, (dvl_D hc3).1]; omega)
        have HLE := Lib.hid (HT.out (j + 1 - 1))
        obtain ⟨m, hm⟩ : ∃ m, 10 * n + (c.toNat - 48) = m := ⟨_, rfl⟩
        rw [hm] at HST
        have hmI : 10 * (n : Int) + ((c.toNat : Int) - 48) = (m : Int) := by omega
        have HM := Lib.hid hm
        clear hc1 hc2 hc3 hcd hm hI
        by_cases hbig : 9999 < m
        · have hbI : decide ((9999 : Int) < (m : Int)) = true := decide_eq_true (by omega)
          have HF : Hid (9999 < N) := Lib.hid (by have := HST.out; have := HLE.out; omega)
          clear hbig
          go_wp2
          go_ret3
          refine ⟨?_, rfl⟩
          rw [← HXY.out.1, ← HXY.out.2, if_pos HF.out, decide_eq_true HF.out]
          rfl
        · have hbI : decide ((9999 : Int) < (m : Int)) = false := decide_eq_false (by omega)
          have HBG := Lib.hid hbig
          clear hbig
          go_wp2
          go_round
          case rel => exact ⟨j + 1, m, by omega, by omega, by go_num, rfl, by have := HBG.out; omega, HST.out.symm⟩
          case measure => simp [intOf]; omega
      · obtain rfl : j = 1 + L := by omega
        have HE : Hid (n = N) := Lib.hid (by rw [← HN.out, hI.out, show 1 + L - 1 = L by omega])
        have hge : ¬ ((1 + L : Nat) : Int) < (S.size : Int) := by omega
        clear hI hlt
        go_wp2
        go_ret3
        refine ⟨?_, rfl⟩
        have e := HE.out
        rw [← HXY.out.1, ← HXY.out.2, ← e, if_neg (by omega), decide_eq_false (by omega)]
        rfl
  · simp only [List.length_cons, List.length_nil] at hsz HAT ⊢
    have hz1 := hz0 (by omega)
    clear hz0
    go_enter Try.func30, Try.ntmps30
    go_wp2
    go_loop [6, 7] (fun v iv => ∃ j n : Nat, 1 ≤ j ∧ j ≤ 1 + L ∧ iv = .int .i64 (j : Int) ∧ v = .int .i64 (n : Int) ∧ n ≤ 9999 ∧ Hid (n = numB 10 (D.take (j - 1)))) (fun _ iv => 1 + L - (intOf iv).toNat)
    case atStart => exact ⟨1, 0, by omega, by omega, rfl, rfl, by omega, rfl⟩
    case round =>
      obtain ⟨j, n, hj1, hj2, rfl, rfl, hn, hI⟩ := hrel
      by_cases hlt : j < 1 + L
      · have hltI : (j : Int) < (S.size : Int) := by omega
        obtain ⟨c, hc1, hc2, hc3⟩ := HAT.out (j - 1) (by omega)
        rw [show 1 + (j - 1) = j by omega] at hc2
        have hcS := HB.out j c hc2 (by omega)
        have hcd := isD_iff.1 hc3
        have hc48 : (48 : Int) ≤ c.toNat := by omega
        have hc57 : (c.toNat : Int) ≤ 57 := by omega
        have HST := Lib.hid (show numB 10 (D.take (j + 1 - 1)) = 10 * n + (c.toNat - 48) by
          rw [show j + 1 - 1 = j - 1 + 1 by omega, HS.out _ _ hc1, ← hI.out, (dvl_D hc3).1]; omega)
        have HLE := Lib.hid (HT.out (j + 1 - 1))
        obtain ⟨m, hm⟩ : ∃ m, 10 * n + (c.toNat - 48) = m := ⟨_, rfl⟩
        rw [hm] at HST
        have hmI : 10 * (n : Int) + ((c.toNat : Int) - 48) = (m : Int) := by omega
        have HM := Lib.hid hm
        clear hc1 hc2 hc3 hcd hm hI
        by_cases hbig : 9999 < m
        · have hbI : decide ((9999 : Int) < (m : Int)) = true := decide_eq_true (by omega)
          have HF : Hid (9999 < N) := Lib.hid (by have := HST.out; have := HLE.out; omega)
          clear hbig
          go_wp2
          go_ret3
          refine ⟨?_, rfl⟩
          rw [← HXY.out.1, ← HXY.out.2, if_pos HF.out, decide_eq_true HF.out]
          rfl
        · have hbI : decide ((9999 : Int) < (m : Int)) = false := decide_eq_false (by omega)
          have HBG := Lib.hid hbig
          clear hbig
          go_wp2
          go_round
          case rel => exact ⟨j + 1, m, by omega, by omega, by go_num, rfl, by have := HBG.out; omega, HST.out.symm⟩
          case measure => simp [intOf]; omega
      · obtain rfl : j = 1 + L := by omega
        have HE : Hid (n = N) := Lib.hid (by rw [← HN.out, hI.out, show 1 + L - 1 = L by omega])
        have hge : ¬ ((1 + L : Nat) : Int) < (S.size : Int) := by omega
        clear hI hlt
        go_wp2
        go_ret3
        refine ⟨?_, rfl⟩
        have e := HE.out
        rw [← HXY.out.1, ← HXY.out.2, ← e, if_neg (by omega), decide_eq_false (by omega)]
        rfl
  · simp only [List.length_nil] at hsz HAT ⊢
    have hzd' := isD_iff.1 hzd
    have e1 : ((z.toNat : Int) == 43) = false := by simp; omega
    have e2 : ((z.toNat : Int) == 45) = false := by simp; omega
    clear hzd hzd'
    have hz1 := hz0 (by omega)
    clear hz0
    go_enter Try.func30, Try.ntmps30
    go_wp2
    go_loop [6, 7] (fun v iv => ∃ j n : Nat, 0 ≤ j ∧ j ≤ 0 + L ∧ iv = .int .i64 (j : Int) ∧ v = .int .i64 (n : Int) ∧ n ≤ 9999 ∧ Hid (n = numB 10 (D.take (j - 0)))) (fun _ iv => 1 + L - (intOf iv).toNat)
    case atStart => exact ⟨0, 0, by omega, by omega, rfl, rfl, by omega, rfl⟩
    case round =>
      obtain ⟨j, n, hj1, hj2, rfl, rfl, hn, hI⟩ := hrel
      by_cases hlt : j < 0 + L
      · have hltI : (j : Int) < (S.size : Int) := by omega
        obtain ⟨c, hc1, hc2, hc3⟩ := HAT.out (j - 0) (by omega)
        rw [show 0 + (j - 0) = j by omega] at hc2
        have hcS := HB.out j c hc2 (by omega)
        have hcd := isD_iff.1 hc3
        have hc48 : (48 : Int) ≤ c.toNat := by omega
        have hc57 : (c.toNat : Int) ≤ 57 := by omega
        have HST := Lib.hid (show numB 10 (D.take (j + 1 - 0)) = 10 * n + (c.toNat - 48) by
          rw [show j + 1 - 0 = j - 0 + 1 by omega, HS.out _ _ hc1, ← hI.out, (dvl_D hc3).1]; omega)
        have HLE := Lib.hid (HT.out (j + 1 - 0))
        obtain ⟨m, hm⟩ : ∃ m, 10 * n + (c.toNat - 48) = m := ⟨_, rfl⟩
        rw [hm] at HST
        have hmI : 10 * (n : Int) + ((c.toNat : Int) - 48) = (m : Int) := by omega
        have HM := Lib.hid hm
        clear hc1 hc2 hc3 hcd hm hI
        by_cases hbig : 9999 < m
        · have hbI : decide ((9999 : Int) < (m : Int)) = true := decide_eq_true (by omega)
          have HF : Hid (9999 < N) := Lib.hid (by have := HST.out; have := HLE.out; omega)
          clear hbig
          go_wp2
          go_ret3
          refine ⟨?_, rfl⟩
          rw [← HXY.out.1, ← HXY.out.2, if_pos HF.out, decide_eq_true HF.out]
          rfl
        · have hbI : decide ((9999 : Int) < (m : Int)) = false := decide_eq_false (by omega)
          have HBG := Lib.hid hbig
          clear hbig
          go_wp2
          go_round
          case rel => exact ⟨j + 1, m, by omega, by omega, by go_num, rfl, by have := HBG.out; omega, HST.out.symm⟩
          case measure => simp [intOf]; omega
      · obtain rfl : j = 0 + L := by omega
        have HE : Hid (n = N) := Lib.hid (by rw [← HN.out, hI.out, show 0 + L - 0 = L by omega])
        have hge : ¬ ((0 + L : Nat) : Int) < (S.size : Int) := by omega
        clear hI hlt
        go_wp2
        go_ret3
        refine ⟨?_, rfl⟩
        have e := HE.out
        rw [← HXY.out.1, ← HXY.out.2, ← e, if_neg (by omega), decide_eq_false (by omega)]
        rfl
theorem exponent5_any (e : List UInt8) (h0 : (sg e).2 ≠ []) (hd : ∀ c ∈ (sg e).2, isD c = true) (hl : e.length ≤ 100000) (w : World) :
    Calls Try.prog 30 #[.string (bs e)] w fun en w' => en = .returned (.tuple #[.int .i64 (if 9999 < numB 10 (sg e).2 then 0 else xvl e), .bool (decide (9999 < numB 10 (sg e).2)), .int .i64 ((e.length - (sg e).2.length : Nat) : Int)]) ∧ w = w' := by
  rcases sg_text e with ⟨c, hc, he, h1⟩ | ⟨h, hn⟩
  · have hl2 : e.length = (sg e).2.length + 1 := by conv => lhs; rw [he, List.length_cons]
    unfold xvl
    rw [h1, show e.length - (sg e).2.length = 1 by omega]
    generalize (sg e).2 = D at *
    subst he
    have hc' : c = 43 ∨ c = 45 := by
      rcases hc with h | h
      · exact .inl (UInt8.toNat_inj.1 h)
      · exact .inr (UInt8.toNat_inj.1 h)
    rcases hc' with rfl | rfl
    · have := expo_core [43] D (.inl rfl) h0 hd (by omega) w
      simpa using this
    · have := expo_core [45] D (.inr (.inl rfl)) h0 hd (by omega) w
      simpa using this
  · unfold xvl
    rw [h] at h0 hd ⊢
    have := expo_core [] e (.inr (.inr rfl)) h0 hd hl w
    simpa using this
end Go.Proofs.Ytiadjcilfljdaaa
