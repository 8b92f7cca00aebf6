/- Layer 5: a natural in decimal digits, by the document: the walk. -/
import Derived.Test.YtcomkgmonhidhaaGreatDoorG33
import Derived.Shelf.Small.Bits
import Derived.Shelf.Strconv.Itoa0
import Derived.Shelf.Strconv.Itoa1
import Derived.Shelf.LaysM
import Derived.Shelf.Strconv.Itoa2
import Derived.Shelf.Strconv.Itoa3
import Derived.Test.YtcomkgmonhidhaaGreatDoorProg
import Derived.Test.YtcomkgmonhidhaaGreatDoorG21
import Derived.Test.YtcomkgmonhidhaaGreatDoorG18
section
namespace Go.Proofs.YtcomkgmonhidhaaGreatDoor
set_option linter.unusedVariables false
set_option linter.unusedSimpArgs false
open Go.RowKit Verge

theorem txt_le {q N : Nat} {t : List UInt8} (h : txt q ++ t = txt N) : t.length ≤ blen N := by
  have h1 := txt_len N
  rw [← h, List.length_append] at h1
  omega

set_option maxRecDepth 20000 in
set_option maxHeartbeats 8000000 in
theorem text_any (A : Option Addr) (n c : Nat) (X : List Nat) (w : World) (h : Rd w A X) (hn : X.length = n) (hm : n ≤ 35184372088700) :
    Calls Tryz.prog 83 #[.slice A n c] w fun e w' => e = .returned (.string (bs (txt (val X)))) ∧ Below w.heap.size w w' := by
  have HN := Lib.hid (rnorm_grow A n c X w h hn (by omega))
  have hNl : blen (val X) ≤ 1125899906842624 := by
    have h1 : val X < 4294967296 ^ X.length := val_lt h.1
    have h2 := (blen_lt (val X) (32 * X.length)).2 (by rw [Nat.pow_mul]; exact h1)
    omega
  have hdl : (dig (val X)).length ≤ 35184372088700 := by rw [← wl_eq h.1]; have := wl_le X; omega
  obtain ⟨N, hN⟩ : ∃ N, val X = N := ⟨_, rfl⟩
  rw [hN] at HN hNl hdl ⊢
  clear hN h hn
  go_enter Tryz.func83, Tryz.ntmps83
  go_wp2_with fail
  refine HN.out.mono ?_
  rintro e1 w1 ⟨v, rfl, hG, hb⟩
  have HE := Lib.hid (And.intro hG hb)
  clear hG hb HN
  go_wp2
  go_loopg [3, 4] N (fun q lv sv wr => ∃ t : List UInt8, sv = .string (bs t) ∧ q ≤ N ∧ Hid (txt q ++ t = txt N ∧ Grow wr w.heap.size lv (dig q) ∧ Below w.heap.size w wr))
  case atStart => exact ⟨[], rfl, Nat.le_refl _, by simp, HE.out.1, HE.out.2⟩
  case round =>
    clear HE
    obtain ⟨t, rfl, hq, hI⟩ := hrel
    rcases Nat.eq_zero_or_pos gk with h0 | h0
    · subst h0
      obtain ⟨A1, c1, hv, hR, _, _⟩ := hI.out.2.1.rd
      rw [dig_zero, List.length_nil] at hv
      subst hv
      go_wp2
      go_ret
      have e : t = txt N := by have := hI.out.1; rw [txt_zero] at this; exact this
      exact ⟨by subst e; rfl, hI.out.2.2⟩
    · have hdq : (dig gk).length ≤ 35184372088700 := Nat.le_trans (dig_length_mono hq) hdl
      have hd0 := dig_length_pos (show gk ≠ 0 by omega)
      obtain ⟨g, cap, rfl, hc1, hc2, hg1, hg2⟩ := hI.out.2.1.formN hd0
      obtain ⟨m, hmm⟩ : ∃ m, (dig gk).length = m := ⟨_, rfl⟩
      have hGr := hI.out.2.1
      rw [hmm] at hGr hc1 hdq hd0 ⊢
      have HI := Lib.hid (And.intro hI.out.1 hI.out.2.2)
      have HG := Lib.hid hGr
      have HM := Lib.hid hmm
      have HB := Lib.hid hg1
      unfold maxLen at hc2
      clear hI hGr hmm hg1 hg2
      go_wp2
      obtain ⟨wo, rfl⟩ : ∃ wo : World, wo = wr := ⟨_, rfl⟩
      go_loopw [5, 6] (fun rv iv wr => ∃ (iI : Int) (r : Nat) (Y : List Nat), -1 ≤ iI ∧ iI < m ∧ iv = .int .i64 iI ∧ rv = .int .u64 (r : Int) ∧ r < 1000000000 ∧ Hid (Grow wr w.heap.size (.slice (some ⟨g, 0, none⟩) m cap) Y ∧ Below w.heap.size w wr ∧ Y.length = m ∧ (∀ k : Nat, (k : Int) ≤ iI → Y.getD k 0 = (dig gk).getD k 0) ∧ val ((dig gk).drop (iI + 1).toNat) = 1000000000 * val (Y.drop (iI + 1).toNat) + r)) (fun _ iv _ => (intOf iv + 1).toNat)
      case atStart =>
        refine ⟨(m : Int) - 1, 0, dig gk, by omega, by omega, rfl, rfl, by omega, HG.out, HI.out.2, HM.out, fun k _ => rfl, ?_⟩
        rw [show ((m : Int) - 1 + 1).toNat = m by omega, List.drop_of_length_le (by rw [HM.out]; omega)]
        rfl
      case round =>
        clear HG
        obtain ⟨iI, r, Y, hi0, him, rfl, rfl, hr, hJ⟩ := hrel
        by_cases hneg : 0 ≤ iI
        · obtain ⟨j, rfl⟩ := Int.eq_ofNat_of_zero_le hneg
          have hjm : j < m := by omega
          obtain ⟨hcl, hfz⟩ := hJ.out.1.atN hJ.out.2.2.1 hjm
          have hx32 := hJ.out.1.1.getD j
          obtain ⟨x, hgx⟩ : ∃ x, Y.getD j 0 = x := ⟨_, rfl⟩
          rw [hgx] at hcl hx32
          have HGX := Lib.hid hgx
          clear hgx
          obtain ⟨t', ht⟩ : ∃ t', x + 4294967296 * r = t' := ⟨_, rfl⟩
          have hor : Go.bits .or .u64 ((r : Int) * 4294967296) (x : Int) = (t' : Int) := by rw [or_hi' x r hx32 (by omega), ht]
          have htb : t' < 18446744073709551616 := by omega
          have htq : t' / 1000000000 < 4294967296 := by omega
          obtain ⟨q, hq'⟩ : ∃ q, t' / 1000000000 = q := ⟨_, rfl⟩
          obtain ⟨r', hr'⟩ : ∃ r', t' % 1000000000 = r' := ⟨_, rfl⟩
          have hqI : (t' : Int) / 1000000000 = (q : Int) := by omega
          have hrI : (t' : Int) % 1000000000 = (r' : Int) := by omega
          have hr'y : r' < 1000000000 := by omega
          rw [hq'] at htq
          have HT := Lib.hid (And.intro ht (show t' = 1000000000 * q + r' by omega))
          clear ht hq' hr'
          go_wp2
          have HRI := Lib.hid hrI
          clear hor hqI hrI
          go_roundw
          case rel =>
            obtain ⟨h1, h2, h3, h4, h5⟩ := hJ.out
            obtain ⟨t1, t2⟩ := HT.out
            rw [show ((j : Int) + 1).toNat = j + 1 by omega] at h5
            have hst := one_step Y (dig gk) j x r t' q r' 1000000000 (by omega) (by rw [← h4 j (by omega)]; exact HGX.out) h5 t1.symm t2
            refine ⟨(j : Int) - 1, r', Y.set j q, by omega, by omega, rfl, by rw [HRI.out], hr'y, h1.putN h3 j htq, h2.setCell HB.out _, by rw [List.length_set]; exact h3, fun k hk => ?_, by rw [show ((j : Int) - 1 + 1).toNat = j by omega]; exact hst⟩
            rw [← h4 k (by omega), List.getD_eq_getElem?_getD, List.getElem?_set, if_neg (by omega), ← List.getD_eq_getElem?_getD]
          case measure => simp [intOf]
        · obtain rfl : iI = -1 := by omega
          obtain ⟨h1, h2, h3, h4, h5⟩ := hJ.out
          rw [show ((-1 : Int) + 1).toNat = 0 by omega, List.drop_zero, List.drop_zero, val_dig] at h5
          have hq2 : val Y = gk / 1000000000 := by omega
          have hr2 : r = gk % 1000000000 := by omega
          obtain ⟨A2, c2, e2, hR2, _, _⟩ := h1.rd
          have hR3 : Rd wr (some ⟨g, 0, none⟩) Y := by simp at e2; rw [e2.1]; exact hR2
          have HNm := Lib.hid (rnorm_grow _ m cap Y wr hR3 h3 (by omega))
          rw [hq2] at HNm
          have HB2 := Lib.hid h2
          have HR2 := Lib.hid hr2
          clear h1 h2 h3 h4 h5 hq2 hR2 hR3 e2 hr2 hJ
          go_wp2_with fail
          refine HNm.out.mono ?_
          rintro e2 w2 ⟨lv, rfl, hG2, hb2⟩
          obtain ⟨q2, hq3⟩ : ∃ q2, gk / 1000000000 = q2 := ⟨_, rfl⟩
          rw [hq3] at hG2
          have hstart : Hid (txt (chunk q2 r 9) ++ t = txt N ∧ Grow w2 w.heap.size lv (dig q2) ∧ Below w.heap.size w w2) := Lib.hid ⟨by rw [← hq3, HR2.out, chunk_all]; exact HI.out.1, hG2.mono HB2.out.size, HB2.out.trans (hb2.mono HB2.out.size)⟩
          have HQ := Lib.hid (show q2 < gk ∧ q2 ≤ N by omega)
          obtain ⟨A3, c3, rfl, hR3, hc3, hc4⟩ := hG2.rd
          obtain ⟨m2, hm2⟩ : ∃ m2, (dig q2).length = m2 := ⟨_, rfl⟩
          have hz : (0 < m2 ↔ 0 < q2) := by
            rw [← hm2]
            constructor
            · intro h; rcases Nat.eq_zero_or_pos q2 with e | e
              · rw [e, dig_zero] at h; simp at h
              · exact e
            · intro h; exact dig_length_pos (by omega)
          rw [hm2] at hstart hc3 ⊢
          have HM2 := Lib.hid hm2
          have HZ := Lib.hid hz
          clear hm2 hz hR3 hc3 hc4 hG2 hb2 hq3 HNm HB2 HR2
          go_wp2
          obtain ⟨wi, rfl⟩ : ∃ wo : World, wo = w2 := ⟨_, rfl⟩
          go_loopw [4, 5, 7] (fun sv rv kv wr => ∃ (k r : Nat) (t : List UInt8), k ≤ 9 ∧ kv = .int .i64 (k : Int) ∧ rv = .int .u64 (r : Int) ∧ sv = .string (bs t) ∧ r < 10 ^ (9 - k) ∧ Hid (txt (chunk q2 r (9 - k)) ++ t = txt N ∧ Grow wr w.heap.size (.slice A3 m2 c3) (dig q2) ∧ Below w.heap.size w wr)) (fun _ _ kv _ => 9 - (intOf kv).toNat)
          case atStart => exact ⟨0, r, t, by omega, rfl, rfl, rfl, hr, hstart.out⟩
          case round =>
            clear hstart
            obtain ⟨k, r1, t1, hk, rfl, rfl, rfl, hr1, hK⟩ := hrel
            have hrb : r1 < 1000000000 := Nat.lt_of_lt_of_le hr1 (Nat.le_trans (Nat.pow_le_pow_right (by omega) (show 9 - k ≤ 9 by omega)) (by decide))
            by_cases hgo : k < 9 ∧ (0 < q2 ∨ 0 < r1)
            · obtain ⟨hk9, hpos⟩ := hgo
              obtain ⟨j, hj⟩ : ∃ j, 9 - k = j + 1 := ⟨8 - k, by omega⟩
              have hj2 : 9 - (k + 1) = j := by omega
              rw [hj] at hr1 hK
              obtain ⟨hs1, hs2, hs3⟩ := chunk_step (q := q2) hr1
              obtain ⟨d, hd⟩ : ∃ d, r1 % 10 = d := ⟨_, rfl⟩
              obtain ⟨r2, hr2⟩ : ∃ d, r1 / 10 = d := ⟨_, rfl⟩
              have hd10 : d < 10 := by omega
              have hdI : (r1 : Int) % 10 = (d : Int) := by omega
              have hrI : (r1 : Int) / 10 = (r2 : Int) := by omega
              have hnx : Hid (txt (chunk q2 r2 j) ++ (UInt8.ofNat (48 + d) :: t1) = txt N ∧ r2 < 10 ^ j) := Lib.hid (by
                refine ⟨?_, by rw [← hr2]; exact hs3⟩
                have h1 := hK.out.1
                rw [txt_step (chunk_pos.2 hpos), hs1, hs2, hd, hr2] at h1
                simpa using h1)
              have hlen := txt_le hK.out.1
              have hxt : ((UInt8.ofNat (48 + d)).toNat : Int) = 48 + (d : Int) := by
                have : (UInt8.ofNat (48 + d)).toNat = 48 + d := by simp [UInt8.toNat_ofNat]; omega
                omega
              obtain ⟨x, hx⟩ : ∃ x, UInt8.ofNat (48 + d) = x := ⟨_, rfl⟩
              rw [hx] at hxt hnx
              have hcv := conv1 (wr.alloc (.cells #[.int .u8 (48 + (d : Int))] 5)) wr.heap.size 0 1 x (by rw [hxt]; simp [World.cell?_alloc_new])
              have hsz : (bs [x]).size + (bs t1).size ≤ 9223372036854775807 := by rw [bs_size, bs_size]; simp; omega
              clear hx
              have t9 : decide ((k : Int) < 9) = true := decide_eq_true (by omega)
              have HK := Lib.hid (And.intro (hK.out.2.1.later ((Below.refl _ wr).alloc (Nat.le_refl _) (.cells #[.int .u8 (48 + (d : Int))] 5))) (hK.out.2.2.trans (((Below.refl _ wr).alloc (Nat.le_refl _) (.cells #[.int .u8 (48 + (d : Int))] 5)).mono hK.out.2.2.size)))
              have HJ := Lib.hid hj2
              have HP := Lib.hid hpos
              clear hs1 hs2 hs3 hd hr2 hK hpos hj hr1 hxt hlen hj2
              by_cases hm0 : 0 < m2
              · go_wp2
                go_roundw
                case rel => exact ⟨k + 1, r2, _, by omega, by go_num, rfl, by rw [bs_append], by rw [HJ.out]; exact hnx.out.2, by rw [HJ.out]; exact hnx.out.1, HK.out.1, HK.out.2⟩
                case measure => simp [intOf]; omega
              · have hr0 : 0 < r1 := by
                  rcases HP.out with h | h
                  · exact absurd (HZ.out.2 h) hm0
                  · exact h
                have hr0' : 0 < (r1 : Int) := by omega
                have hm0' : decide (0 < (m2 : Int)) = false := decide_eq_false (by omega)
                go_wp2
                go_roundw
                case rel => exact ⟨k + 1, r2, _, by omega, by go_num, rfl, by rw [bs_append], by rw [HJ.out]; exact hnx.out.2, by rw [HJ.out]; exact hnx.out.1, HK.out.1, HK.out.2⟩
                case measure => simp [intOf]; omega
            · have hend : Hid (txt q2 ++ t1 = txt N) := Lib.hid (by
                have h1 := hK.out.1
                by_cases hk9 : k < 9
                · have e1 : q2 = 0 := by
                    rcases Nat.eq_zero_or_pos q2 with e | e
                    · exact e
                    · exact absurd ⟨hk9, .inl e⟩ hgo
                  have e2 : r1 = 0 := by
                    rcases Nat.eq_zero_or_pos r1 with e | e
                    · exact e
                    · exact absurd ⟨hk9, .inr e⟩ hgo
                  rw [e1, e2] at h1
                  rw [e1]
                  have : chunk 0 0 (9 - k) = 0 := by unfold chunk; omega
                  rw [this] at h1
                  exact h1
                · have e : 9 - k = 0 := by omega
                  rw [e] at hr1 h1
                  have : r1 = 0 := by omega
                  rw [this, chunk_end] at h1
                  exact h1)
              have HK := Lib.hid hK.out.2
              clear hK hr1
              by_cases hk9 : k < 9
              · have hm0 : ¬ 0 < m2 := fun h => hgo ⟨hk9, .inl (HZ.out.1 h)⟩
                have hm0' : decide (0 < (m2 : Int)) = false := decide_eq_false (by omega)
                obtain rfl : r1 = 0 := by
                  rcases Nat.eq_zero_or_pos r1 with e | e
                  · exact e
                  · exact absurd ⟨hk9, .inr e⟩ hgo
                have t9 : decide ((k : Int) < 9) = true := decide_eq_true (by omega)
                clear hgo hrb
                go_wp2
                go_roundg q2
                case measure => exact HQ.out.1
                case rel => exact ⟨t1, rfl, HQ.out.2, hend.out, HK.out.1, HK.out.2⟩
              · have t9 : decide ((k : Int) < 9) = false := decide_eq_false (by omega)
                clear hgo hrb
                go_wp2
                go_roundg q2
                case measure => exact HQ.out.1
                case rel => exact ⟨t1, rfl, HQ.out.2, hend.out, HK.out.1, HK.out.2⟩
end Go.Proofs.YtcomkgmonhidhaaGreatDoor
end

section
namespace Go.Proofs
open Go.Shelf
def Tryz.laysM171_ren : Go.Shelf.Ren := ⟨fun | 171 => 45 | 243 => 85 | 246 => 103 | 283 => 108 | 284 => 109 | 285 => 110 | 286 => 111 | 129 => 115 | 317 => 114 | 318 => 116 | 319 => 117 | 320 => 118 | 337 => 119 | 338 => 120 | n => n, fun | 3 => 3 | 9 => 9 | 2 => 2 | 4 => 4 | 171 => 113 | 0 => 0 | 53 => 22 | 37 => 75 | 5 => 5 | 173 => 116 | 212 => 120 | 51 => 65 | 20 => 20 | 213 => 121 | 46 => 94 | 232 => 124 | 233 => 125 | n => n, fun | 17 => 1 | 18 => 2 | 19 => 3 | n => n⟩
theorem Tryz.laysM171 : Go.Proofs.LaysM.n171 Tryz.prog Tryz.laysM171_ren := {
  mixed := by kernel_rfl
  f129 := Tryz.func115.trans (congrArg some (by kernel_rfl))
  f171 := Tryz.func45.trans (congrArg some (by kernel_rfl))
  f243 := Tryz.func85.trans (congrArg some (by kernel_rfl))
  f246 := Tryz.func103.trans (congrArg some (by kernel_rfl))
  f283 := Tryz.func108.trans (congrArg some (by kernel_rfl))
  f284 := Tryz.func109.trans (congrArg some (by kernel_rfl))
  f285 := Tryz.func110.trans (congrArg some (by kernel_rfl))
  f286 := Tryz.func111.trans (congrArg some (by kernel_rfl))
  f317 := Tryz.func114.trans (congrArg some (by kernel_rfl))
  f318 := Tryz.func116.trans (congrArg some (by kernel_rfl))
  f319 := Tryz.func117.trans (congrArg some (by kernel_rfl))
  f320 := Tryz.func118.trans (congrArg some (by kernel_rfl))
  f337 := Tryz.func119.trans (congrArg some (by kernel_rfl))
  f338 := Tryz.func120.trans (congrArg some (by kernel_rfl))
  t0 := Tryz.underlying0
  a0 := Tryz.isAgg0
  z0 := Tryz.sizeOf0
  v0 := Tryz.zeroValue0
  t2 := Tryz.underlying2
  a2 := Tryz.isAgg2
  z2 := Tryz.sizeOf2
  v2 := Tryz.zeroValue2
  t3 := Tryz.underlying3
  a3 := Tryz.isAgg3
  z3 := Tryz.sizeOf3
  v3 := Tryz.zeroValue3
  t4 := Tryz.underlying4
  a4 := Tryz.isAgg4
  z4 := Tryz.sizeOf4
  v4 := Tryz.zeroValue4
  t5 := Tryz.underlying5
  a5 := Tryz.isAgg5
  z5 := Tryz.sizeOf5
  v5 := Tryz.zeroValue5
  t9 := Tryz.underlying9
  a9 := Tryz.isAgg9
  z9 := Tryz.sizeOf9
  v9 := Tryz.zeroValue9
  t20 := Tryz.underlying20
  a20 := Tryz.isAgg20
  z20 := Tryz.sizeOf20
  v20 := Tryz.zeroValue20
  t37 := Tryz.underlying75
  a37 := Tryz.isAgg75
  z37 := Tryz.sizeOf75
  v37 := Tryz.zeroValue75
  t46 := Tryz.underlying94
  a46 := Tryz.isAgg94
  z46 := Tryz.sizeOf94
  v46 := Tryz.zeroValue94
  t51 := Tryz.underlying65
  a51 := Tryz.isAgg65
  z51 := Tryz.sizeOf65
  v51 := Tryz.zeroValue65
  t53 := Tryz.underlying22
  a53 := Tryz.isAgg22
  z53 := Tryz.sizeOf22
  v53 := Tryz.zeroValue22
  t171 := Tryz.underlying113
  a171 := Tryz.isAgg113
  z171 := Tryz.sizeOf113
  v171 := Tryz.zeroValue113
  t173 := Tryz.underlying116
  a173 := Tryz.isAgg116
  z173 := Tryz.sizeOf116
  v173 := Tryz.zeroValue116
  t212 := Tryz.underlying120
  a212 := Tryz.isAgg120
  z212 := Tryz.sizeOf120
  v212 := Tryz.zeroValue120
  t213 := Tryz.underlying121
  a213 := Tryz.isAgg121
  z213 := Tryz.sizeOf121
  t232 := Tryz.underlying124
  a232 := Tryz.isAgg124
  z232 := Tryz.sizeOf124
  v232 := Tryz.zeroValue124
  t233 := Tryz.underlying125
  a233 := Tryz.isAgg125
  z233 := Tryz.sizeOf125
  v233 := Tryz.zeroValue125
  g17 := by kernel_rfl
  g18 := by kernel_rfl
  g19 := by kernel_rfl
  i0 := by kernel_rfl
  i2 := by kernel_rfl
  i3 := by kernel_rfl
  i4 := by kernel_rfl
  i5 := by kernel_rfl
  i9 := by kernel_rfl
  i20 := by kernel_rfl
  i37 := by kernel_rfl
  i46 := by kernel_rfl
  i51 := by kernel_rfl
  i53 := by kernel_rfl
  i171 := by kernel_rfl
  i173 := by kernel_rfl
  i212 := by kernel_rfl
  i232 := by kernel_rfl
  i233 := by kernel_rfl
  m17 := by kernel_rfl
  m18 := by kernel_rfl
  m19 := by kernel_rfl }
open Go.RowKit Go.Sort Go.Lib in
theorem Tryz.strconv_Itoa (n : Int) (h0 : -9223372036854775808 ≤ n) (h1 : n ≤ 9223372036854775807) (w : World) (htab : Lib.TabIs Tryz.prog w "internal/strconv.uint64pow10" .u64 Lib.pow10Tab) :
    Calls Tryz.prog 45 #[.int .i64 n] w fun e w' => e = .returned (.string ⟨(Lib.itoa n).toArray⟩) ∧ ∃ k os, w' = grow (w.drewN k) os := Any.strconv_Itoa Tryz.laysM171 n h0 h1 w htab
end Go.Proofs
end

section
namespace Go.Proofs.YtcomkgmonhidhaaGreatDoor
set_option linter.unusedVariables false
set_option linter.unusedSimpArgs false
open Go.RowKit Verge

/-- Is a pattern a number's? -/
def fwrong (b : Nat) : Bool := decide (9218868437227405312 ≤ fabs b)
theorem wrong_any (b : Nat) (hb : b < 18446744073709551616) (w : World) : Calls Tryz.prog 23 #[.float .f64 b] w fun e w' => e = .returned (.bool (fwrong b)) ∧ w = w' := by
  have H1 := Lib.hid (fun W => isnan_any b hb W)
  have H2 := Lib.hid (fun W => isinf_0 b hb W)
  have he : fwrong b = (decide (fnan b) || decide (fabs b = 9218868437227405312)) := by
    unfold fwrong
    rw [Bool.eq_iff_iff]
    simp only [Bool.or_eq_true, decide_eq_true_eq]
    unfold fnan fabs
    omega
  rw [he]
  cases e1 : decide (fnan b)
  · rw [e1] at H1
    obtain ⟨r, hr⟩ : ∃ r, decide (fabs b = 9218868437227405312) = r := ⟨_, rfl⟩
    rw [hr] at H2 ⊢
    clear e1 hr he hb
    go_enter Tryz.func23, Tryz.ntmps23
    go_wp2_with fail
    refine (H1.out _).mono ?_
    rintro e w1 ⟨rfl, rfl⟩
    go_wp2_with fail
    refine (H2.out _).mono ?_
    rintro e w1 ⟨rfl, rfl⟩
    go_wp2
    go_ret
    exact ⟨by simp, rfl⟩
  · rw [e1] at H1
    clear e1 he hb H2
    go_enter Tryz.func23, Tryz.ntmps23
    go_wp2_with fail
    refine (H1.out _).mono ?_
    rintro e w1 ⟨rfl, rfl⟩
    go_wp2
    go_ret
    exact ⟨by simp, rfl⟩
theorem or52 (x : Nat) (hx : x < 4503599627370496) : x ||| 4503599627370496 = x + 4503599627370496 := by
  have := Nat.two_pow_add_eq_or_of_lt (i := 52) (b := x) hx 1
  rw [Nat.mul_one, show (2 : Nat) ^ 52 = 4503599627370496 by decide] at this
  rw [Nat.or_comm, ← this]; omega
set_option maxHeartbeats 1000000 in
theorem part_any (b : Nat) (hb : b < 18446744073709551616) (w : World) : Calls Tryz.prog 46 #[.float .f64 b] w fun e w' => e = .returned (.tuple #[.int .u64 (fbF b : Nat), .int .i64 ((fbE b : Int) - 1074)]) ∧ w = w' := by
  have h1 := bits_any b
  have e1 : Go.bits .and .u64 ((b / 4503599627370496 : Nat) : Int) 2047 = ((b % 9223372036854775808 / 4503599627370496 : Nat) : Int) := by
    have := Go.u64_and_nat (b / 4503599627370496) 2047 (by omega) (by omega)
    rw [show (2047 : Nat) = 2 ^ 11 - 1 from rfl, Nat.and_two_pow_sub_one_eq_mod] at this
    have h2 : b / 4503599627370496 % 2 ^ 11 = b % 9223372036854775808 / 4503599627370496 := by omega
    rw [h2] at this
    exact this
  have e2 : Go.bits .and .u64 (b : Int) 4503599627370495 = ((b % 4503599627370496 : Nat) : Int) := by
    have := Go.u64_and_nat b 4503599627370495 hb (by omega)
    rw [show (4503599627370495 : Nat) = 2 ^ 52 - 1 from rfl, Nat.and_two_pow_sub_one_eq_mod] at this
    exact this
  have e1 : Go.bits .and .u64 ((b : Int) / 4503599627370496) 2047 = ((b % 9223372036854775808 / 4503599627370496 : Nat) : Int) := by
    rw [← e1]; congr 1
  have hqf : ∃ Q F : Nat, b % 9223372036854775808 / 4503599627370496 = Q ∧ b % 4503599627370496 = F ∧ Q ≤ 2047 ∧ F < 4503599627370496 ∧ fbF b = (if Q = 0 then F else F + 4503599627370496) ∧ fbE b = Q - 1 := by
    refine ⟨_, _, rfl, rfl, by omega, by omega, ?_, rfl⟩
    unfold fbF
    by_cases hl : b % 9223372036854775808 < 4503599627370496
    · rw [if_pos hl, if_pos (Nat.div_eq_of_lt hl)]
    · rw [if_neg hl, if_neg (by omega)]; omega
  obtain ⟨Q, F, hQ, hF, hQb, hFb, hfe, hee⟩ := hqf
  rw [hQ] at e1
  rw [hF] at e2
  rw [hfe, hee]
  have e3 : Go.bits .or .u64 (F : Int) 4503599627370496 = ((F + 4503599627370496 : Nat) : Int) := by
    have := Go.u64_or_nat F 4503599627370496 (by omega) (by omega)
    rw [or52 F hFb] at this
    exact this
  have hbI : (0 : Int) ≤ b := by omega
  clear hQ hF hfe hee
  by_cases hq : Q = 0
  · subst hq
    rw [if_pos rfl]
    clear e3
    go_enter Tryz.func46, Tryz.ntmps46
    go_wp2
    go_ret2
    exact ⟨rfl, rfl⟩
  · rw [if_neg hq]
    have hq1 : (0 : Int) < Q := by omega
    have hs : ((Q - 1 : Nat) : Int) = (Q : Int) - 1 := by omega
    rw [hs]
    clear hs hq
    go_enter Tryz.func46, Tryz.ntmps46
    go_wp2
    go_ret2
    exact ⟨rfl, rfl⟩
end Go.Proofs.YtcomkgmonhidhaaGreatDoor
end

section
namespace Go.Proofs.YtcomkgmonhidhaaGreatDoor
set_option linter.unusedVariables false
set_option linter.unusedSimpArgs false
open Go.RowKit Verge

theorem txt_pos {n : Nat} (h : 0 < n) : txt n = Lib.decDigits n := by unfold txt; rw [if_neg (by omega)]
theorem itoa_pos {n : Nat} (h : 0 < n) : Lib.itoa (n : Int) = txt n := by unfold Lib.itoa; rw [if_neg (by omega), txt_pos h]; rfl
theorem itoa_neg (n : Nat) : Lib.itoa (-((n : Int) + 1)) = 45 :: txt (n + 1) := by
  unfold Lib.itoa
  rw [if_pos (by omega), txt_pos (by omega), show (-((n : Int) + 1)).natAbs = n + 1 by omega]
theorem itoa_zero : Lib.itoa 0 = [48] := by
  unfold Lib.itoa
  rw [if_neg (by omega)]
  show Lib.decDigits 0 = [48]
  rw [Lib.decDigits, dif_pos (by omega)]
  rfl
/-- The digits of a number below 2^64. -/
theorem text_small (v : Nat) (hv : v < 18446744073709551616) (W : World) (A : Option Addr) (c : Nat) (h : Rd W A (dig v)) :
    Calls Tryz.prog 83 #[.slice A (dig v).length c] W fun e w' => e = .returned (.string (bs (txt v))) ∧ Below W.heap.size W w' := by
  have hl : (dig v).length ≤ 2 := dig_length_le.2 (by omega)
  have := text_any A (dig v).length c (dig v) W h rfl (by omega)
  rw [val_dig] at this
  exact this

set_option maxHeartbeats 2000000 in
theorem number5_any (v : Int) (h1 : -9223372036854775808 ≤ v) (h2 : v ≤ 9223372036854775807) (w : World) : Calls Tryz.prog 74 #[.int .i64 v] w fun e w' => e = .returned (.string (bs (Lib.itoa v))) ∧ Below w.heap.size w w' := by
  by_cases h0 : v = 0
  · subst h0
    rw [itoa_zero]
    clear h1 h2
    go_enter Tryz.func74, Tryz.ntmps74
    go_wp2
    go_ret
    exact ⟨rfl, Below.refl _ _⟩
  · by_cases hn : v < 0
    · obtain ⟨m, hm⟩ := Int.eq_ofNat_of_zero_le (show 0 ≤ -(v + 1) by omega)
      obtain rfl : v = -((m : Int) + 1) := by omega
      rw [itoa_neg]
      have hmb : m < 9223372036854775808 := by omega
      have hl := txt_len (m + 1)
      have hl2 : blen (m + 1) ≤ 64 := (blen_lt _ _).2 (by omega)
      have hsz : (bs [45]).size + (bs (txt (m + 1))).size ≤ 9223372036854775807 := by rw [bs_size, bs_size]; simp; omega
      have HS : Hid (∀ W, Calls Tryz.prog 94 #[.int .u64 ((m : Int) + 1)] W (Doc W (m + 1))) := Lib.hid (fun W => rsmall_any (m + 1) W (by omega))
      have HT := Lib.hid (fun W A c (h : Rd W A (dig (m + 1))) => text_small (m + 1) (by omega) W A c h)
      obtain ⟨t, ht⟩ : ∃ t, txt (m + 1) = t := ⟨_, rfl⟩
      obtain ⟨l, hdl⟩ : ∃ l, dig (m + 1) = l := ⟨_, rfl⟩
      have e1 : IntKind.i64.wrap (-((m : Int) + 1) + 1) = -(m : Int) := by rw [IntWalk.i64_in _ (by omega)]; omega
      have e2 : IntKind.i64.wrap (-(-(m : Int))) = (m : Int) := by rw [IntWalk.i64_in _ (by omega)]; omega
      unfold Doc at HS
      simp only [ht, hdl] at HT hsz HS ⊢
      have hneg : -((m : Int) + 1) < 0 := by omega
      have hnz : (-((m : Int) + 1) == 0) = false := by rw [beq_eq_false_iff_ne]; omega
      clear ht hdl hl hl2 hm h0
      go_enter Tryz.func74, Tryz.ntmps74
      go_wp2_with fail
      refine (HS.out _).mono ?_
      rintro e w1 ⟨A1, c1, rfl, hR, _, _, hb⟩
      have HB := Lib.hid hb
      have HR := Lib.hid hR
      clear hb hR
      go_wp2_with fail
      refine (HT.out _ _ _ HR.out).mono ?_
      rintro e w2 ⟨rfl, hb⟩
      have HB := Lib.hid (HB.out.trans (hb.mono HB.out.size))
      clear hb
      have hsz2 : ({ data := #[45] } : ByteArray).size + (bs t).size ≤ 9223372036854775807 := hsz
      go_wp2
      go_ret
      exact ⟨by rw [show ({ data := #[45] } : ByteArray) = bs [45] from rfl, bs_append]; rfl, HB.out⟩
    · obtain ⟨m, rfl⟩ := Int.eq_ofNat_of_zero_le (show 0 ≤ v by omega)
      have hm0 : 0 < m := by omega
      rw [itoa_pos hm0]
      have HS : Hid (∀ W, Calls Tryz.prog 94 #[.int .u64 (m : Int)] W (Doc W m)) := Lib.hid (fun W => rsmall_any m W (by omega))
      have HT := Lib.hid (fun W A c (h : Rd W A (dig m)) => text_small m (by omega) W A c h)
      obtain ⟨t, ht⟩ : ∃ t, txt m = t := ⟨_, rfl⟩
      obtain ⟨l, hdl⟩ : ∃ l, dig m = l := ⟨_, rfl⟩
      unfold Doc at HS
      simp only [ht, hdl] at HT HS ⊢
      have hnz : ((m : Int) == 0) = false := by rw [beq_eq_false_iff_ne]; omega
      clear ht hdl h0
      go_enter Tryz.func74, Tryz.ntmps74
      go_wp2_with fail
      refine (HS.out _).mono ?_
      rintro e w1 ⟨A1, c1, rfl, hR, _, _, hb⟩
      have HB := Lib.hid hb
      have HR := Lib.hid hR
      clear hb hR
      go_wp2_with fail
      refine (HT.out _ _ _ HR.out).mono ?_
      rintro e w2 ⟨rfl, hb⟩
      have HB := Lib.hid (HB.out.trans (hb.mono HB.out.size))
      clear hb
      go_wp2
      go_ret
      exact ⟨rfl, HB.out⟩
end Go.Proofs.YtcomkgmonhidhaaGreatDoor

/- Layer 5: Hex, by the program. -/
namespace Go.Proofs.YtcomkgmonhidhaaGreatDoor
set_option linter.unusedVariables false
set_option linter.unusedSimpArgs false
open Go.RowKit Verge

theorem below_growS (w : World) (k : Nat) (os : Array Obj) : Below w.heap.size w (Go.Sort.grow (w.drewN k) os) :=
  ⟨rfl, rfl, rfl, by simp [Go.Sort.grow], fun i hi => by simp [Go.Sort.grow, Array.getElem?_append, hi]⟩
def Pow10 (w : World) : Prop := Lib.TabIs Tryz.prog w "internal/strconv.uint64pow10" .u64 Lib.pow10Tab
theorem Pow10.below {w w' : World} (h : Pow10 w) (hb : Below w.heap.size w w') : Pow10 w' := by
  unfold Pow10 Lib.TabIs World.var? at *
  cases hg : Tryz.prog.globalNamed "internal/strconv.uint64pow10" with
  | none => simp [hg] at h
  | some g =>
    simp only [hg, Option.bind_some] at h ⊢
    have hl : g < w.heap.size := by
      by_cases hr : g < w.heap.size
      · exact hr
      · rw [Array.getElem?_eq_none (by omega)] at h; cases h
    rw [hb.block g hl]
    exact h
theorem itoa5 (n : Int) (h0 : -9223372036854775808 ≤ n) (h1 : n ≤ 9223372036854775807) (w : World) (h : Pow10 w) : Calls Tryz.prog 45 #[.int .i64 n] w fun e w' => e = .returned (.string (bs (Lib.itoa n))) ∧ Below w.heap.size w w' := by
  refine (Go.Proofs.Tryz.strconv_Itoa n h0 h1 w h).mono ?_
  rintro e w' ⟨rfl, k, os, rfl⟩
  exact ⟨rfl, below_growS w k os⟩
theorem and52 (x : Nat) (hx : x < 18446744073709551616) : Go.bits .and .u64 (x : Int) 4503599627370495 = ((x % 4503599627370496 : Nat) : Int) := by
  have := Go.u64_and_nat x 4503599627370495 hx (by omega)
  rw [show (4503599627370495 : Nat) = 2 ^ 52 - 1 from rfl, Nat.and_two_pow_sub_one_eq_mod] at this
  exact this
theorem hexs_len : ∀ (n v : Nat), (hexs n v).length ≤ n
  | 0, _ => Nat.le_refl _
  | n + 1, v => by
    rcases Nat.eq_zero_or_pos v with h | h
    · rw [h, hexs_zero]; exact Nat.zero_le _
    · rw [hexs_pos h, List.length_cons]; have := hexs_len n (v % 281474976710656 * 16); omega
theorem fnan_w {b : Nat} (h : fwrong b = false) : ¬ fnan b := by
  have := of_decide_eq_false h
  unfold fnan; unfold fabs at this; omega
theorem itoa_len (n : Int) (h0 : -9223372036854775808 ≤ n) (h1 : n ≤ 9223372036854775807) : (Lib.itoa n).length ≤ 65 := by
  rcases Int.lt_trichotomy n 0 with h | h | h
  · obtain ⟨m, hm⟩ := Int.eq_ofNat_of_zero_le (show 0 ≤ -(n + 1) by omega)
    obtain rfl : n = -((m : Int) + 1) := by omega
    rw [itoa_neg, List.length_cons]
    have := txt_len (m + 1)
    have : blen (m + 1) ≤ 64 := (blen_lt _ _).2 (by omega)
    omega
  · subst h; rw [itoa_zero]; simp
  · obtain ⟨m, rfl⟩ := Int.eq_ofNat_of_zero_le (show 0 ≤ n by omega)
    rw [itoa_pos (by omega)]
    have := txt_len m
    have : blen m ≤ 64 := (blen_lt _ _).2 (by omega)
    omega
end Go.Proofs.YtcomkgmonhidhaaGreatDoor
end
