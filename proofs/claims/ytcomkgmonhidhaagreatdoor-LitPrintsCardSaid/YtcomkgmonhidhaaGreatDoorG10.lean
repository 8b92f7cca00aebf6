/- The document's own naturals: By. -/
import Derived.Test.YtcomkgmonhidhaaGreatDoorG09
namespace Go.Proofs.YtcomkgmonhidhaaGreatDoor
set_option linter.unusedVariables false
set_option linter.unusedSimpArgs false
open Go.RowKit Verge

/-- What By answers: the quotient and the rest. -/
def ByPost (w : World) (q r : Nat) : Ending → World → Prop := fun en w' =>
  ∃ A c A' c', en = .returned (.tuple #[.slice A (dig q).length c, .slice A' (dig r).length c']) ∧ Rd w' A (dig q) ∧ (dig q).length ≤ c ∧ c ≤ maxLen ∧ Rd w' A' (dig r) ∧ (dig r).length ≤ c' ∧ c' ≤ maxLen ∧ Below w.heap.size w w'

section
variable (A : Option Addr) (n c : Nat) (X : List Nat) (A' : Option Addr) (n' c' : Nat) (Y : List Nat) (w : World) (h : Rd w A X) (hn : X.length = n) (h' : Rd w A' Y) (hn' : Y.length = n') (hm : n ≤ 35184372088700) (hm' : n' ≤ 35184372088700)
include h hn h' hn' hm hm'

set_option maxHeartbeats 1000000 in
theorem rby_less (hlt : val X < val Y) : Calls Tryz.prog 78 #[.slice A n c, .slice A' n' c'] w (ByPost w (val X / val Y) (val X % val Y)) := by
  rw [Nat.div_eq_of_lt hlt, Nat.mod_eq_of_lt hlt]
  have hc := rcmp_any A n c X A' n' c' Y w h hn h' hn' (by omega) (by omega)
  rw [cmp_lt hlt] at hc
  have HC := Lib.hid hc
  have HN := Lib.hid (fun W hW => rnorm_any A n c X W hW hn (by omega))
  clear hc hlt
  unfold ByPost
  rw [dig_zero]
  go_enter Tryz.func78, Tryz.ntmps78
  go_wp2_with (first
    | (go_at_call 79; refine HC.out.mono ?_; rintro e w' ⟨rfl, d, rfl⟩)
    | (go_at_call 73; refine (HN.out _ (h.drewN _)).mono ?_; rintro e w' ⟨A2, c2, rfl, h1, h2, h3, h4⟩))
  go_ret2
  exact ⟨none, 0, A2, c2, rfl, Rd.nil, Nat.le_refl _, by decide, h1, h2, h3, (below_drewN (Below.refl _ w) d).trans (h4.mono (by simp))⟩

set_option maxRecDepth 100000 in
set_option maxHeartbeats 8000000 in
theorem rby_main (hy : 0 < val Y) (hge : val Y ≤ val X) : Calls Tryz.prog 78 #[.slice A n c, .slice A' n' c'] w (ByPost w (val X / val Y) (val X % val Y)) := by
  obtain ⟨vc, hvc⟩ : ∃ vc, cmp (val X) (val Y) = vc := ⟨_, rfl⟩
  have hvc0 : 0 ≤ vc := by rw [← hvc]; unfold cmp; rw [if_neg (by omega)]; split <;> decide
  have hc := rcmp_any A n c X A' n' c' Y w h hn h' hn' (by omega) (by omega)
  rw [hvc] at hc
  have HC := Lib.hid hc
  have hl := fun W hW => rlen_any A' n' c' Y W hW hn' (by omega)
  obtain ⟨k, hk⟩ : ∃ k, blen (val Y) = k + 1 := ⟨blen (val Y) - 1, by have := blen_pos (n := val Y) (by omega); omega⟩
  have hkb : k < 32 * n' := by
    have h1 := blen_words_le (n := val Y) (k := n') (by rw [← wl_eq h'.1]; have := wl_le Y; omega)
    omega
  rw [hk] at hl
  have HL := Lib.hid hl
  obtain ⟨s, hs⟩ : ∃ s, 31 - k % 32 = s := ⟨_, rfl⟩
  have hs32 : s < 32 := by omega
  have hsI : 31 - (k : Int) % 32 = (s : Int) := by omega
  have hl1 := fun W hW => rleft_any A n c X s _ W rfl hW hn (by omega) (by have := wl_le X; omega)
  have hl2 := fun W hW => rleft_any A' n' c' Y s _ W rfl hW hn' (by omega) (by have := wl_le Y; omega)
  have hX := dig_length_le (n := val X) (k := n)
  have hUl : (dig (val X * 2 ^ s)).length ≤ n + 1 := by
    rw [dig_length_le, Nat.pow_succ]
    have h1 := val_lt h.1
    rw [hn] at h1
    have h2 : 2 ^ s ≤ 4294967296 := by
      have := Nat.pow_le_pow_right (n := 2) (by omega) (show s ≤ 32 by omega)
      simpa using this
    exact Nat.mul_lt_mul_of_lt_of_le h1 h2 (by omega)
  have hVl : (dig (val Y * 2 ^ s)).length ≤ n' + 1 := by
    rw [dig_length_le, Nat.pow_succ]
    have h1 := val_lt h'.1
    rw [hn'] at h1
    have h2 : 2 ^ s ≤ 4294967296 := by
      have := Nat.pow_le_pow_right (n := 2) (by omega) (show s ≤ 32 by omega)
      simpa using this
    exact Nat.mul_lt_mul_of_lt_of_le h1 h2 (by omega)
  have hV0 : 0 < val Y * 2 ^ s := Nat.mul_pos hy (Nat.pow_pos (by omega))
  have hfin := fun Q R => by_div (val X) (val Y) s Q R hy
  generalize val X * 2 ^ s = U at *
  generalize val Y * 2 ^ s = V at *
  have HL1 := Lib.hid hl1
  have HL2 := Lib.hid hl2
  have HF := Lib.hid hfin
  have HR := Lib.hid (And.intro h h')
  have hVp := dig_length_pos (n := V) (by omega)
  have hVlt := dig_length_le.1 (Nat.le_refl (dig V).length)
  clear hc hl hk hl1 hl2 hX hfin hvc hs
  obtain ⟨nv, hnv⟩ : ∃ nv, (dig V).length = nv + 1 := ⟨(dig V).length - 1, by omega⟩
  obtain ⟨nu, hnu⟩ : ∃ nu, (dig U).length = nu := ⟨_, rfl⟩
  unfold Doc at HL1 HL2
  rw [hnu] at HL1 hUl
  rw [hnv] at HL2 hVl hVlt
  have HNU := Lib.hid (And.intro hnu hnv)
  have HVV := Lib.hid (And.intro hVlt hV0)
  clear hnu hnv hVp hVlt h h' hn hn' hV0 hy hge
  have hmk1 : ∀ W : World, (Instr.makeSlice 52 (.int .i64 (nu : Int)) (.int .i64 (nu : Int))).run Tryz.prog W = .ok (.slice (some ⟨W.heap.size, 0, none⟩) nu nu) (W.alloc (.cells (u32s (List.replicate nu 0)).toArray 65)) :=
    fun W => run_make_u32 nu (by omega) W
  have hmk2 : ∀ W : World, (Instr.makeSlice 52 (.int .i64 ((nv : Int) + 1 + 1)) (.int .i64 ((nv : Int) + 1 + 1))).run Tryz.prog W = .ok (.slice (some ⟨W.heap.size, 0, none⟩) (nv + 2) (nv + 2)) (W.alloc (.cells (u32s (List.replicate (nv + 2) 0)).toArray 65)) :=
    fun W => run_make_u32 (nv + 2) (by omega) W
  go_enter Tryz.func78, Tryz.ntmps78
  go_wp2_with (first
    | (go_at_call 79; refine HC.out.mono ?_; rintro e w' ⟨rfl, d, rfl⟩)
    | (go_at_call 95; refine (HL.out _ (HR.out.2.drewN _)).mono ?_; rintro e w' ⟨rfl, rfl⟩)
    | (go_at_call 80; have hh := HL1.out _ (HR.out.1.drewN d); (with_reducible refine hh.mono ?_); clear hh; rintro e w1 ⟨Au, cu, rfl, hRu, hcu, hcu2, hb1⟩)
    | (go_at_call 80; have hh := HL2.out _ ((HR.out.2.drewN d).below hb1); (with_reducible refine hh.mono ?_); clear hh; rintro e w2 ⟨Av, cv, rfl, hRv, hcv, hcv2, hb2⟩))
  clear hmk1 hmk2
  have hbw : Below w.heap.size w w2 := ((below_drewN (Below.refl _ w) d).trans (hb1.mono (by simp))).trans (hb2.mono (by have := hb1.size; simpa using this))
  have hRu2 := hRu.below hb2
  have hY := fun W (hb : Below w2.heap.size w2 W) => hRv.below hb
  have hU := fun W (hb : Below w2.heap.size w2 W) => hRu2.below hb
  have HY := Lib.hid hY
  have HU := Lib.hid hU
  have HB := Lib.hid hbw
  have hB0 : Blk ((w2.alloc (.cells (u32s (List.replicate nu 0)).toArray 65)).alloc (.cells (u32s (List.replicate (nv + 2) 0)).toArray 65)) (w2.heap.size + 1) (List.replicate (nv + 2) 0) := by
    have := Blk.made (w2.alloc (.cells (u32s (List.replicate nu 0)).toArray 65)) (nv + 2)
    simpa using this
  have HB0 := Lib.hid hB0
  have hszw : w.heap.size ≤ w2.heap.size := hbw.size
  clear hb1 hb2 hRu hRv hRu2 hY hU hbw hB0
  go_loopw [11, 12, 13, 14] (fun iv _ _ _ wr => ∃ (i : Nat) (Q R : List Nat), i ≤ nu ∧ iv = .int .i64 ((i : Int) - 1) ∧ Blk wr w2.heap.size Q ∧ Blk wr (w2.heap.size + 1) R ∧
    Hid (Q.length = nu ∧ R.length = nv + 2 ∧ val ((dig U).drop i) = V * val (Q.drop i) + val R ∧ val R < V) ∧ Below w2.heap.size w2 wr) (fun iv _ _ _ _ => (intOf iv + 1).toNat)
  case atStart => exact ⟨nu, List.replicate nu 0, List.replicate (nv + 2) 0, Nat.le_refl _, rfl, (Blk.made w2 nu).alloc _, HB0.out,
    ⟨by simp, by simp, by rw [List.drop_of_length_le (by rw [HNU.out.1]; omega), List.drop_of_length_le (by simp), val_zeros]; simp, by rw [val_zeros]; exact HVV.out.2⟩, ((Below.refl _ w2).alloc (Nat.le_refl _) _).alloc (by simp) _⟩
  case round =>
    obtain ⟨i, Q, R, hi, hiv, hQ, hR, hI, hb⟩ := hrel
    rcases i with _ | j
    · obtain rfl : u11 = .int .i64 (-1) := by rw [hiv]; rfl
      clear hiv
      have hUV : U = V * val Q + val R := by
        have := hI.out.2.2.1
        rwa [List.drop_zero, List.drop_zero, val_dig] at this
      obtain ⟨f1, f2⟩ := HF.out _ _ hUV hI.out.2.2.2
      have hr := fun W hW => rright_any (some ⟨w2.heap.size + 1, 0, none⟩) (nv + 2) (nv + 2) R s _ W rfl (by omega) hW hI.out.2.1 (by omega)
      have hq := fun W hW => rnorm_any (some ⟨w2.heap.size, 0, none⟩) nu nu Q W hW hI.out.1 (by omega)
      unfold RightPost at hr
      rw [f1] at hq
      rw [f2] at hr
      have HRt := Lib.hid hr
      have HQn := Lib.hid hq
      clear hUV f1 f2 hr hq
      go_wp2_with (first
        | (go_at_call 101; refine (HRt.out _ hR.rd).mono ?_; rintro e w3 ⟨A3, c3, rfl, r1, r2, r3, hb3⟩)
        | (go_at_call 73; refine (HQn.out _ (hQ.later hb3).rd).mono ?_; rintro e w4 ⟨A4, c4, rfl, q1, q2, q3, hb4⟩))
      go_ret2
      have hbb := hb.trans ((hb3.mono hb.size).trans (hb4.mono (Nat.le_trans hb.size hb3.size)))
      exact ⟨A4, c4, A3, c3, rfl, q1, q2, q3, r1.below hb4, r2, r3, HB.out.trans (hbb.mono hszw)⟩
    · obtain rfl : u11 = .int .i64 (j : Int) := by rw [hiv]; congr 1; omega
      clear hiv
      go_wp2
      obtain ⟨wo, rfl⟩ : ∃ wo : World, wo = wr := ⟨_, rfl⟩
      go_loopw [12] (fun pv wr => ∃ (p : Nat) (L : List Nat), p ≤ nv + 1 ∧ pv = .int .i64 p ∧ Blk wr w2.heap.size Q ∧ Blk wr (w2.heap.size + 1) L ∧
        Hid (L.length = nv + 2 ∧ (∀ t, t ≤ p → L.getD t 0 = R.getD t 0) ∧ (∀ t, p < t → t ≤ nv + 1 → L.getD t 0 = R.getD (t - 1) 0)) ∧ Below w2.heap.size w2 wr) (fun pv _ => (intOf pv).toNat)
      case atStart => exact ⟨nv + 1, R, Nat.le_refl _, by congr 1 <;> omega, hQ, hR, ⟨hI.out.2.1, fun _ _ => rfl, fun t h1 h2 => by omega⟩, hb⟩
      case round =>
        clear hQ hb
        obtain ⟨p, L, hp, hpv, hQ, hL, hJ, hb⟩ := hrel
        rcases p with _ | t
        · obtain rfl : u12 = .int .i64 0 := hpv
          obtain ⟨bu, ou, heu, hcu⟩ := (HU.out _ hb).cell (k := j) (by rw [HNU.out.1]; omega)
          subst heu
          have hx32 := (w32_dig U).getD j
          obtain ⟨x, hgx⟩ : ∃ x, (dig U).getD j 0 = x := ⟨_, rfl⟩
          rw [hgx] at hcu hx32
          have hcl := hL.cell (i := 0) (by have := hJ.out.1; omega)
          have hfz := hL.frozen 0
          have hsh := shifted L R (nv + 1) x (by have := hJ.out.1; omega) hI.out.2.1 (fun t h1 h2 => hJ.out.2.2 t h1 h2)
          have hvR := val_top_zero hR.1 (nv + 1) hI.out.2.1 (Nat.lt_trans hI.out.2.2.2 HVV.out.1)
          have hT : val (L.set 0 x) = x + 4294967296 * val R := by rw [hsh, val_cons, hvR]
          obtain ⟨T, hTT⟩ : ∃ T, x + 4294967296 * val R = T := ⟨_, rfl⟩
          have hTV : T < 4294967296 * V := by have := hI.out.2.2.2; omega
          rw [hTT] at hT
          have HT := Lib.hid (And.intro hT (And.intro hTT (And.intro hTV hgx)))
          have hnj : (j : Int) < (nu : Int) := by omega
          clear hsh hvR hT hTT hTV hgx
          go_wp2
          clear hcl hfz hcu
          obtain ⟨wo2, hwo2⟩ : ∃ wo : World, wo = wr := ⟨_, rfl⟩
          subst hwo2
          go_loopw [13, 14] (fun dv _ wr => ∃ (d : Nat) (L : List Nat), dv = .int .u64 d ∧ d ≤ 4294967295 ∧ Blk wr w2.heap.size Q ∧ Blk wr (w2.heap.size + 1) L ∧ Hid (L.length = nv + 2 ∧ val L + d * V = T) ∧ Below w2.heap.size w2 wr) (fun dv _ _ => 4294967296 - (intOf dv).toNat)
          case atStart => exact ⟨0, L.set 0 x, rfl, by omega, hQ.far (by simp) _, hL.setI 0 (by omega) (by omega) (by omega), ⟨by rw [List.length_set]; exact hJ.out.1, by rw [HT.out.1]; simp⟩, hb.setCell (by simp) _⟩
          case round =>
            clear hQ hL hb
            obtain ⟨d, L, rfl, hd, hQ, hL, hK, hb⟩ := hrel
            have hRv := HY.out _ hb
            have hcm := rcmp_any (some ⟨w2.heap.size + 1, 0, none⟩) (nv + 2) (nv + 2) L Av (nv + 1) cv (dig V) _ hL.rd hK.out.1 hRv HNU.out.2 (by omega) (by omega)
            rw [val_dig] at hcm
            by_cases hge : V ≤ val L
            · obtain ⟨v1, hv1⟩ : ∃ v1, cmp (val L) V = v1 := ⟨_, rfl⟩
              have hv10 : 0 ≤ v1 := by rw [← hv1]; unfold cmp; rw [if_neg (by omega)]; split <;> decide
              rw [hv1] at hcm
              have HC2 := Lib.hid hcm
              have hgs := fun W hL hV => rguess_any (some ⟨w2.heap.size + 1, 0, none⟩) (nv + 2) L Av nv cv (dig V) W hL hK.out.1 hV HNU.out.2 (by rw [val_dig]; exact hge) (by omega)
              rw [val_dig] at hgs
              have HGS := Lib.hid hgs
              clear hcm hgs hge hv1
              go_wp2_with fail
              refine HC2.out.mono ?_
              rintro e w' ⟨rfl, d1, rfl⟩
              go_wp2_with fail
              refine (HGS.out _ (hL.drewN d1).rd (hRv.drewN d1)).mono ?_
              rintro e w' ⟨g, rfl, hg1, hg2, d2, rfl⟩
              have hgd : (d + g) * V ≤ T := by rw [Nat.add_mul]; have := hK.out.2; omega
              have hdg : d + g ≤ 4294967295 := by
                rcases Nat.lt_or_ge 4294967295 (d + g) with h1 | h1
                · have := Nat.mul_le_mul_right V h1
                  have := HT.out.2.2.1
                  omega
                · exact h1
              have hsb := rsub_any (w2.heap.size + 1) (nv + 2) (nv + 2) L Av (nv + 1) cv (dig V) g _ (hL.drewN (d1 + d2)) hK.out.1 (fun w' hG => HY.out w' ((below_drewN hb (d1 + d2)).grown hG (by have := hb.size; simpa using this) (by intro k hk; simp at hk; omega))) HNU.out.2 (by omega) (by omega) (by rw [val_dig]; exact hg2) (by omega)
              rw [val_dig] at hsb
              have HSB := Lib.hid hsb
              clear hsb hgd
              go_wp2_with fail
              refine HSB.out.mono ?_
              rintro e w5 ⟨rfl, L', hG5, hL5, hl5, hv5⟩
              have HV5 := Lib.hid hv5
              have hQ5 := (hQ.drewN (d1 + d2)).grown hG5 (by simp)
              have hb5 := (below_drewN hb (d1 + d2)).grown hG5 (by have := hb.size; simpa using this) (by intro k hk; simp at hk; omega)
              have hdgI : (d : Int) + (g : Int) < 18446744073709551616 := by omega
              clear hv5
              go_wp2_with fail
              go_roundw
              case rel => exact ⟨d + g, L', by congr 1, hdg, hQ5, hL5, ⟨hl5, by rw [Nat.add_mul]; have h1 := HV5.out; have h2 := hK.out.2; omega⟩, hb5⟩
              case measure => simp [intOf]; omega
            · rw [cmp_lt (by omega)] at hcm
              have HC2 := Lib.hid hcm
              have hjQ : j < Q.length := by rw [hI.out.1]; omega
              have hclq := hQ.cell (i := j) hjQ
              have hfzq := hQ.frozen j
              have HJQ := Lib.hid (And.intro hjQ (show val L < V by omega))
              clear hcm hge hjQ
              go_wp2_with fail
              refine HC2.out.mono ?_
              rintro e w' ⟨rfl, d1, rfl⟩
              go_wp2
              go_roundw
              case rel => exact ⟨j, Q.set j d, L, by omega, rfl, (hQ.setI j (by omega) (by omega) (by omega)).drewN _, (hL.far (by simp) _).drewN _,
                ⟨by rw [List.length_set]; exact hI.out.1, hK.out.1, by_step Q (dig U) j x (val R) T d (val L) V HJQ.out.1 HT.out.2.2.2 hI.out.2.2.1 HT.out.2.1.symm hK.out.2, HJQ.out.2⟩, below_drewN (hb.setCell (by simp) _) _⟩
              case measure => simp [intOf]
        · obtain rfl := hpv
          have hcl := hL.cell (i := t) (by have := hJ.out.1; omega)
          have hcl2 := hL.cell (i := t + 1) (by have := hJ.out.1; omega)
          have hfz := hL.frozen (t + 1)
          have hx32 := hL.1.getD t
          obtain ⟨x, hgx⟩ : ∃ x, L.getD t 0 = x := ⟨_, rfl⟩
          rw [hgx] at hcl hx32
          have HG := Lib.hid hgx; clear hgx
          go_wp2
          go_roundw
          case rel => exact ⟨t, L.set (t + 1) x, by omega, by congr 1 <;> omega, hQ.far (by simp) _, hL.setI (t + 1) (by omega) (by omega) (by omega),
            ⟨by rw [List.length_set]; exact hJ.out.1, fun k hk => by rw [Verge.getD_set_ne _ _ _ _ (by omega)]; exact hJ.out.2.1 k (by omega), fun k h1 h2 => by
              rcases Nat.eq_or_lt_of_le (show t + 1 ≤ k from h1) with e | e
              · rw [← e, getD_set_self _ _ _ (by have := hJ.out.1; omega), ← HG.out, hJ.out.2.1 t (by omega)]; rfl
              · rw [Verge.getD_set_ne _ _ _ _ (by omega)]; exact hJ.out.2.2 k e h2⟩, hb.setCell (by simp) _⟩
          case measure => simp [intOf]

/-- By: the quotient and the rest, of a b above 0. -/
theorem rby_any (hy : 0 < val Y) : Calls Tryz.prog 78 #[.slice A n c, .slice A' n' c'] w (ByPost w (val X / val Y) (val X % val Y)) := by
  rcases Nat.lt_or_ge (val X) (val Y) with hlt | hge
  · exact rby_less A n c X A' n' c' Y w h hn h' hn' hm hm' hlt
  · exact rby_main A n c X A' n' c' Y w h hn h' hn' hm hm' hy hge
end
end Go.Proofs.YtcomkgmonhidhaaGreatDoor
