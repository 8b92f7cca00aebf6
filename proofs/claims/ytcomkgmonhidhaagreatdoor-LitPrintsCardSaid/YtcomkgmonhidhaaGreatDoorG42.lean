/- Layer 5, the document: a ratio rounded to so many digits. -/
import Derived.Test.YtcomkgmonhidhaaGreatDoorG21
import Derived.Test.YtcomkgmonhidhaaGreatDoorG41
import Derived.Test.YtcomkgmonhidhaaGreatDoorG34
namespace Go.Proofs.YtcomkgmonhidhaaGreatDoor
set_option linter.unusedVariables false
set_option linter.unusedSimpArgs false
open Go.RowKit Verge

/-- A box that was made since. -/
def IsBx (B : Nat) (v : Value) (w : World) : Prop := ∃ r, v = .pointer (some ⟨r, 0, none⟩) ∧ Box w r ∧ B ≤ r
theorem IsBx.mono (B : Nat) : Mono (IsBx B) := fun _ _ _ hb ⟨r, e, h, hr⟩ => ⟨r, e, h.later hb, hr⟩
theorem Box3.putq {w : World} {r : Nat} (h : Box w r) (a b c : Value) : Box3 (put3 w r a b c) r a b c := by
  unfold Box at h
  have hl : r < w.heap.size := by
    by_cases hr : r < w.heap.size
    · exact hr
    · rw [Array.getElem?_eq_none (by omega)] at h; cases h
  have hg : w.heap[r] = ratO := by simpa [hl] using h
  unfold Box3 put3
  simp [World.setCell, hl, Array.getElem_modify, hg]
theorem sv_nat {s : Bool} {x y N D : Nat} (h : sv s x * (D : Int) = (N : Int) * (y : Int)) : x * D = N * y := by
  unfold sv at h
  cases s
  · simp at h; exact_mod_cast h
  · simp at h
    have h1 : (0 : Int) ≤ (x : Int) * D := by exact_mod_cast Nat.zero_le _
    have h2 : (0 : Int) ≤ (N : Int) * y := by exact_mod_cast Nat.zero_le _
    have h3 : -((x : Int) * D) = (N : Int) * y := by rw [← Int.neg_mul]; exact h
    have h4 : (x : Int) * D = (N : Int) * y := by omega
    exact_mod_cast h4
theorem cmp_m (a b : Nat) : cmp a b = -1 ↔ a < b := by
  unfold cmp
  constructor
  · intro h
    split at h
    · assumption
    · split at h <;> simp at h
  · intro h; rw [if_pos h]
theorem cmp_z (a b : Nat) : cmp a b = 0 ↔ a = b := by
  unfold cmp
  constructor
  · intro h
    split at h
    · simp at h
    · split at h
      · simp at h
      · omega
  · intro h; rw [if_neg (by omega), if_neg (by omega)]
set_option maxRecDepth 20000 in
set_option maxHeartbeats 8000000 in
theorem round_any {p Q : Nat} (d : Int) (n : Nat) {va : Value} {w : World} (hQ0 : 0 < Q) (hv : IsRV (p : Int) Q 100 va w) (hlo : ¬ belowT p Q (-336)) (hhi : belowT p Q 336) (n1 : 1 ≤ n) (n2 : n ≤ 1100) :
    Calls Tryz.prog 42 #[.int .i64 d, va, .int .i64 (n : Int)] w fun en w' => ∃ K : Int, -1600 ≤ K ∧ K ≤ 1000 ∧ dcnt (qat p Q K) = n ∧ en = .returned (.tuple #[.string (bs ((txt (prQ d false p Q K)).take n)), .int .i64 (if n < (txt (prQ d false p Q K)).length then K + 1 else K)]) ∧ Below w.heap.size w w' := by
  have hv0 := hv
  obtain ⟨s, X, Y, ⟨va', vb', rfl, ⟨A, c, rfl, hX⟩, ⟨B, dd, rfl, hY⟩⟩, hq, hy, hs, l1, l2⟩ := hv
  have HV := Lib.hid hv0
  have HB0 := Lib.hid (rnew w (.cells #[.bool s, .slice A X.length c, .slice B Y.length dd] 70))
  have HB3 := Lib.hid (Box3.new w (.bool s) (.slice A X.length c) (.slice B Y.length dd))
  have HMG := Lib.hid (fun v W (h : IsRV (p : Int) Q 100 v W) => magnitude_any (w := W) h hlo hhi)
  clear hv0 hX hY hs hy hlo hhi
  go_enter Tryz.func42, Tryz.ntmps42
  obtain ⟨b0, b1, b2⟩ := HB3.out.cells
  go_wp2_with fail
  refine (HMG.out _ _ (IsRV.mono _ _ _ _ _ _ HB0.out HV.out)).mono ?_
  rintro en wn ⟨e, e1, e2, e3, e4, rfl, hb⟩
  clear b0 b1 b2
  have HBL := Lib.hid (raft HB0.out hb)
  have HB3 := Lib.hid (HB3.out.later hb)
  have HE := Lib.hid (And.intro e3 e4)
  obtain ⟨K, hK⟩ : ∃ K : Int, e - (n : Int) + 1 = K := ⟨_, rfl⟩
  have HK := Lib.hid (show dcnt (qat p Q K) = n from (qat_top hQ0 n1).2 ⟨by rw [show K + (n : Int) = e + 1 by omega]; exact e4, by rw [show K + (n : Int) - 1 = e by omega]; exact e3⟩)
  have k1 : -1600 ≤ K := by omega
  have k2 : K ≤ 1000 := by omega
  have HKK := Lib.hid hK
  have hQU := fun va' vb' W (h : IsRV (p : Int) Q 100 va' W) (h' : IsRV ((10 ^ K.toNat : Nat) : Int) (10 ^ (-K).toNat) 10000 vb' W) => rv_quo h h' (by have : 0 < 10 ^ K.toNat := Nat.pow_pos (by omega); omega) (by omega) (by omega)
  rw [Int.toNat_natCast, ← Int.natCast_mul] at hQU
  obtain ⟨N2, hN2⟩ : ∃ N2, p * 10 ^ (-K).toNat = N2 := ⟨_, rfl⟩
  obtain ⟨D2, hD2⟩ : ∃ D2, Q * 10 ^ K.toNat = D2 := ⟨_, rfl⟩
  rw [hN2, hD2] at hQU
  have HQU := Lib.hid hQU
  have hD20 : 0 < D2 := by rw [← hD2]; exact Nat.mul_pos hQ0 (Nat.pow_pos (by omega))
  have HQT := Lib.hid (show qat p Q K = N2 / D2 by unfold qat; rw [hN2, hD2])
  have HPQ := Lib.hid (show prQ d false p Q K = if upB d false (N2 / D2) (2 * (N2 % D2)) D2 = true then N2 / D2 + 1 else N2 / D2 by unfold prQ qat; rw [hN2, hD2])
  have HPW := Lib.hid (fun W => power_rv K (by omega) (by omega) W)
  clear hb e3 e4 hN2 hD2 hQU HB0 HMG
  go_upto_region 2 with fail
  clear hK
  refine region_at 5 (Pick [IsV (.agg #[.bool s, .slice A X.length c, .slice B Y.length dd]), IsV (.int .i64 K), (IsRV ((10 ^ K.toNat : Nat) : Int) (10 ^ (-K).toNat) 10000), (IsRV (N2 : Int) D2 10100), (IsBx w.heap.size)]) (by kernel_rfl) (by kernel_rfl) (by kernel_rfl) (mono_pick ⟨IsV.mono _, IsV.mono _, IsRV.mono _ _ _, IsRV.mono _ _ _, IsBx.mono _, trivial⟩) ⟨?_, ?_, ?_, ?_, ?_, trivial⟩ ?_
  · intro a W hsz hb hS
    have h4 : a.tmps.getD 4 undef = .pointer (some ⟨w.heap.size, 0, none⟩) := hS.1
    clear hS hsz
    refine will_of rfl ?_
    obtain ⟨b0, b1, b2⟩ := (HB3.out.later hb).cells
    intro K hK
    go_simp
    exact hK _ _ ⟨Below.refl _ _, rfl⟩
  · intro a W hsz hb hS
    have h8 : a.tmps.getD 8 undef = .int .i64 K := hS.1
    clear hS hsz
    refine will_of rfl ?_
    intro K hK
    go_simp
    exact hK _ _ ⟨Below.refl _ _, rfl⟩
  · intro a W hsz hb hS
    have h20 : a.tmps.getD 20 undef = .int .i64 K := hS.1
    clear hS hsz
    refine will_of rfl ?_
    obtain ⟨b0, b1, b2⟩ := (HB3.out.later hb).cells
    intro K hK
    go_simp
    refine (HPW.out W).mono ?_
    rintro e W' ⟨v, rfl, hv, hb'⟩
    exact hK _ _ ⟨hb', hv⟩
  · intro a W hsz hb hS
    have h19 : a.tmps.getD 19 undef = .agg #[.bool s, .slice A X.length c, .slice B Y.length dd] := hS.1
    have q21 : (IsRV ((10 ^ K.toNat : Nat) : Int) (10 ^ (-K).toNat) 10000) (a.tmps.getD 21 undef) W := hS.2.1
    clear hS hsz
    obtain ⟨v21, h21⟩ : ∃ v, a.tmps.getD 21 undef = v := ⟨_, rfl⟩
    rw [h21] at q21
    refine will_of rfl ?_
    obtain ⟨b0, b1, b2⟩ := (HB3.out.later hb).cells
    intro K hK
    go_simp
    refine (HQU.out _ _ W (IsRV.mono _ _ _ _ _ _ (raft HBL.out hb) HV.out) q21).mono ?_
    rintro e W' ⟨v, rfl, hv, hb'⟩
    exact hK _ _ ⟨hb', hv⟩
  · intro a W hsz hb hS
    clear hS hsz
    refine will_of rfl ?_
    intro K hK
    go_simp
    exact hK _ _ ⟨rnew _ _, _, rfl, Box.new _, Nat.le_trans HBL.out.size hb.size⟩
  intro f W hb hH
  have e0 : f 0 = .agg #[.bool s, .slice A X.length c, .slice B Y.length dd] := hH.1
  have e1 : f 1 = .int .i64 K := hH.2.1
  obtain ⟨x2, y2⟩ : ∃ x, f 2 = x := ⟨_, rfl⟩
  have q2 : (IsRV ((10 ^ K.toNat : Nat) : Int) (10 ^ (-K).toNat) 10000) (f 2) W := hH.2.2.1
  rw [y2] at q2
  obtain ⟨x3, y3⟩ : ∃ x, f 3 = x := ⟨_, rfl⟩
  have q3 : (IsRV (N2 : Int) D2 10100) (f 3) W := hH.2.2.2.1
  rw [y3] at q3
  obtain ⟨x4, y4⟩ : ∃ x, f 4 = x := ⟨_, rfl⟩
  have q4 : (IsBx w.heap.size) (f 4) W := hH.2.2.2.2.1
  rw [y4] at q4
  simp only [List.take_succ_cons, List.take_zero, List.drop_succ_cons, List.drop_zero, putFrom, Act.put, List.setIfInBounds_toArray, List.set_cons_zero, List.set_cons_succ, Nat.reduceAdd, e0, e1, y2, y3, y4]
  clear e0 e1 y2 y3 y4 hH f
  clear q2
  obtain ⟨s2, As, ns, cs, Bs, ms, ds, rfl⟩ := q3.agg
  obtain ⟨r, rfl, hbox, hr⟩ := q4
  have HB2 := Lib.hid (raft HBL.out hb)
  have HBox := Lib.hid hbox
  obtain ⟨o0, o1, o2, p0, p1, p2⟩ := hbox.cells
  have hlt := hbox.lt
  have HQ6 := Lib.hid q3
  have HRr := Lib.hid hr
  clear q3 hb hr hbox
  go_upto_region 3 with fail
  obtain ⟨W2, hW2⟩ : ∃ W2, put3 W r (.bool s2) (.slice As ns cs) (.slice Bs ms ds) = W2 := ⟨_, rfl⟩
  have HB3 := Lib.hid (hW2 ▸ Box3.putq HBox.out (.bool s2) (.slice As ns cs) (.slice Bs ms ds))
  have HQ7 := Lib.hid (hW2 ▸ HQ6.out.put3 HBox.out (.bool s2) (.slice As ns cs) (.slice Bs ms ds))
  have HB4 := Lib.hid (hW2 ▸ put3_below HB2.out HRr.out (.bool s2) (.slice As ns cs) (.slice Bs ms ds))
  change Code.wp _ _ _ _ (put3 W r (.bool s2) (.slice As ns cs) (.slice Bs ms ds))
  rw [hW2]
  clear hW2 o0 o1 o2 p0 p1 p2 hlt
  obtain ⟨s2', X2, Y2, ⟨va2, vb2, hag, ⟨A2, c2, ha2, hX2⟩, ⟨B2, d2, hb2', hY2⟩⟩, hq2, hy2, hs2, l12, l22⟩ := HQ7.out
  obtain ⟨rfl, rfl, rfl⟩ : s2 = s2' ∧ .slice As ns cs = va2 ∧ .slice Bs ms ds = vb2 := by
    injection hag with hag
    simp at hag
    exact hag
  obtain ⟨rfl, rfl, rfl⟩ : As = A2 ∧ ns = X2.length ∧ cs = c2 := by injection ha2 with a b c; exact ⟨a, b, c⟩
  obtain ⟨rfl, rfl, rfl⟩ : Bs = B2 ∧ ms = Y2.length ∧ ds = d2 := by injection hb2' with a b c; exact ⟨a, b, c⟩
  obtain ⟨dr1, dr2⟩ := div_rest hy2 hD20 (sv_nat hs2)
  have hXI : IsL X2 (.slice As X2.length cs) W2 := ⟨As, cs, rfl, hX2⟩
  have hYI : IsL Y2 (.slice Bs Y2.length ds) W2 := ⟨Bs, ds, rfl, hY2⟩
  have hby := by_is hXI hYI (by omega) (by omega) hy2
  rw [dr1] at hby
  obtain ⟨vr, hvr⟩ : ∃ vr, val X2 % val Y2 = vr := ⟨_, rfl⟩
  obtain ⟨y2, hy2v⟩ : ∃ y2, val Y2 = y2 := ⟨_, rfl⟩
  rw [hvr] at hby dr2
  rw [hy2v] at dr2 hy2
  have hvlt : vr < y2 := by rw [← hvr, ← hy2v]; exact Nat.mod_lt _ (by omega)
  have hdl : ∀ m, m ≤ 2 * y2 → (dig m).length ≤ 10101 := by
    intro m hm
    have h1 := dig_length_mono hm
    have h2 := dig_mul_length 2 y2
    have h3 : (dig 2).length = 1 := by rw [dig_pos (by omega), Nat.div_eq_of_lt (by omega), dig_zero]; rfl
    have h4 : (dig y2).length ≤ Y2.length := by rw [← hy2v, ← wl_eq hY2.1]; exact wl_le _
    omega
  obtain ⟨hc, hhc⟩ : ∃ hc, cmp (vr * 2 ^ 1) y2 = hc := ⟨_, rfl⟩
  have HHC := Lib.hid (show cmp (vr * 2 ^ 1) (val Y2) = hc by rw [hy2v]; exact hhc)
  have HYL := Lib.hid hYI
  have HYB := Lib.hid l22
  have HRL := Lib.hid (hdl vr (by omega))
  have HZL := Lib.hid (show (dig (vr * 2 ^ 1)).length ≤ 140737488355328 from Nat.le_trans (hdl (vr * 2 ^ 1) (by omega)) (by omega))
  have HDR := Lib.hid (And.intro dr2 (And.intro hhc (And.intro hy2 hvlt)))
  have HBY := Lib.hid hby
  obtain ⟨q0, hq0⟩ : ∃ q0, N2 / D2 = q0 := ⟨_, rfl⟩
  rw [hq0] at HBY HPQ HQT
  have HQL := Lib.hid (show (dig q0).length ≤ 17592186044000 from by
    have h1 : q0 < 10 ^ n := by have := (dcnt_le (qat p Q K) n).1 (Nat.le_of_eq HK.out); rw [HQT.out] at this; exact this
    have := dig_len16 (n := q0) (i := n) (Nat.lt_of_lt_of_le h1 (Nat.pow_le_pow_left (by omega) n))
    omega)
  clear hag ha2 hb2' hX2 hY2 hq2 hs2 l12 l22 dr1 dr2 hXI hYI hby hvr hy2v hdl hhc hy2 hvlt hq0 HQ7 HQ6 HBox HB2 HBL HV HQU HPW HRr
  obtain ⟨b0, b1, b2⟩ := HB3.out.cells
  go_wp2_with fail
  refine (HBY.out).mono ?_
  rintro en wn2 ⟨vt, rfl, ⟨va3, vb3, rfl, ⟨Aq, cq, rfl, hA3⟩, ⟨Ar, cr, rfl, hB3'⟩⟩, hb⟩
  obtain ⟨lq, hlq⟩ : ∃ l, (dig q0).length = l := ⟨_, rfl⟩
  obtain ⟨lr, hlr⟩ : ∃ l, (dig vr).length = l := ⟨_, rfl⟩
  have HW := Lib.hid (show IsN q0 (.slice Aq lq cq) wn2 from ⟨Aq, cq, by rw [hlq], hA3⟩)
  have HR := Lib.hid (show IsN vr (.slice Ar lr cr) wn2 from ⟨Ar, cr, by rw [hlr], hB3'⟩)
  have HLR := Lib.hid hlr
  rw [hlq, hlr]
  have HB3 := Lib.hid (HB3.out.later hb)
  have HYL := Lib.hid (IsL.mono _ _ _ _ hb HYL.out)
  have HB4 := Lib.hid (raft HB4.out hb)
  clear b0 b1 b2 hA3 hB3' hb hlq hlr HBY
  go_upto_region 4 with fail
  refine region_at 6 (Pick [IsV (.slice Ar lr cr), (IsN (vr * 2 ^ 1)), IsV (.pointer (some ⟨r, 2, none⟩)), IsV (.slice Bs Y2.length ds), IsV (.int .i64 hc), IsV (.int .i64 hc)]) (by kernel_rfl) (by kernel_rfl) (by kernel_rfl) (mono_pick ⟨IsV.mono _, IsN.mono _, IsV.mono _, IsV.mono _, IsV.mono _, IsV.mono _, trivial⟩) ⟨?_, ?_, ?_, ?_, ?_, ?_, trivial⟩ ?_
  · intro a W hsz hb hS
    have h11 : a.tmps.getD 11 undef = .slice Ar lr cr := hS.1
    clear hS hsz
    refine will_of rfl ?_
    intro K hK
    go_simp
    exact hK _ _ ⟨Below.refl _ _, rfl⟩
  · intro a W hsz hb hS
    have h31 : a.tmps.getD 31 undef = .slice Ar lr cr := hS.1
    clear hS hsz
    refine will_of rfl ?_
    obtain ⟨b0, b1, b2⟩ := (HB3.out.later hb).cells
    intro K hK
    go_simp
    have hl := left_is (w := W) 1 1 rfl (IsN.mono _ _ _ _ hb HR.out) (by have := HRL.out; omega)
    rw [val_dig] at hl
    refine hl.mono ?_
    rintro e W' ⟨v, rfl, hv, hb'⟩
    exact hK _ _ ⟨hb', hv⟩
  · intro a W hsz hb hS
    have h9 : a.tmps.getD 9 undef = .pointer (some ⟨r, 0, none⟩) := hS.1
    clear hS hsz
    refine will_of rfl ?_
    intro K hK
    go_simp
    exact hK _ _ ⟨Below.refl _ _, rfl⟩
  · intro a W hsz hb hS
    have h33 : a.tmps.getD 33 undef = .pointer (some ⟨r, 2, none⟩) := hS.1
    clear hS hsz
    refine will_of rfl ?_
    obtain ⟨b0, b1, b2⟩ := (HB3.out.later hb).cells
    intro K hK
    go_simp
    exact hK _ _ ⟨Below.refl _ _, rfl⟩
  · intro a W hsz hb hS
    have q32 : (IsN (vr * 2 ^ 1)) (a.tmps.getD 32 undef) W := hS.1
    have h34 : a.tmps.getD 34 undef = .slice Bs Y2.length ds := hS.2.1
    clear hS hsz
    obtain ⟨v32, h32⟩ : ∃ v, a.tmps.getD 32 undef = v := ⟨_, rfl⟩
    rw [h32] at q32
    refine will_of rfl ?_
    obtain ⟨b0, b1, b2⟩ := (HB3.out.later hb).cells
    intro K hK
    obtain ⟨Z, hZ⟩ : ∃ Z, dig (vr * 2 ^ 1) = Z := ⟨_, rfl⟩
    unfold IsN at q32
    have hzl : (dig (vr * 2 ^ 1)).length ≤ 140737488355328 := HZL.out
    rw [hZ] at q32 hzl
    go_simp
    have hcm := cmp_is (w := W) q32 (IsL.mono _ _ _ _ hb HYL.out) hzl (by have := HYB.out; omega)
    rw [← hZ, val_dig, HHC.out] at hcm
    refine hcm.mono ?_
    rintro e W' ⟨v, rfl, hv, hb'⟩
    exact hK _ _ ⟨hb', hv⟩
  · intro a W hsz hb hS
    have h35 : a.tmps.getD 35 undef = .int .i64 hc := hS.1
    clear hS hsz
    refine will_of rfl ?_
    intro K hK
    go_simp
    exact hK _ _ ⟨Below.refl _ _, rfl⟩
  intro f W hb hH
  have e0 : f 0 = .slice Ar lr cr := hH.1
  obtain ⟨x1, y1⟩ : ∃ x, f 1 = x := ⟨_, rfl⟩
  have q1 : (IsN (vr * 2 ^ 1)) (f 1) W := hH.2.1
  rw [y1] at q1
  have e2 : f 2 = .pointer (some ⟨r, 2, none⟩) := hH.2.2.1
  have e3 : f 3 = .slice Bs Y2.length ds := hH.2.2.2.1
  have e4 : f 4 = .int .i64 hc := hH.2.2.2.2.1
  have e5 : f 5 = .int .i64 hc := hH.2.2.2.2.2.1
  simp only [List.take_succ_cons, List.take_zero, List.drop_succ_cons, List.drop_zero, putFrom, Act.put, List.setIfInBounds_toArray, List.set_cons_zero, List.set_cons_succ, Nat.reduceAdd, e0, y1, e2, e3, e4, e5]
  clear e0 y1 e2 e3 e4 e5 hH f
  clear q1
  have HR := Lib.hid (IsN.mono _ _ _ _ hb HR.out)
  have HW := Lib.hid (IsN.mono _ _ _ _ hb HW.out)
  have HB4 := Lib.hid (raft HB4.out hb)
  clear hb HB3 HYL
  obtain ⟨up, hup⟩ : ∃ up, upB d false q0 (2 * (N2 % D2)) D2 = up := ⟨_, rfl⟩
  rw [hup] at HPQ
  have hmul : ∀ a b : Nat, (a * 2 < y2 ↔ 2 * (N2 % D2) < D2) → True := fun _ _ _ => trivial
  have hcase : (vr = 0 ↔ N2 % D2 = 0) ∧ (hc = -1 ↔ 2 * (N2 % D2) < D2) ∧ (hc = 0 ↔ 2 * (N2 % D2) = D2) ∧ (hc = -1 ∨ hc = 0 ∨ hc = 1) := by
    obtain ⟨e1, e2, e3, e4⟩ := HDR.out
    have hD := hD20
    generalize N2 % D2 = m at *
    have z : vr = 0 ↔ m = 0 := by
      constructor
      · intro h; rw [h, Nat.zero_mul] at e1
        rcases Nat.mul_eq_zero.1 e1.symm with h | h
        · exact h
        · omega
      · intro h; rw [h, Nat.zero_mul] at e1
        rcases Nat.mul_eq_zero.1 e1 with h | h
        · exact h
        · omega
    have l : vr * 2 < y2 ↔ 2 * m < D2 := by
      constructor
      · intro h
        have := Nat.mul_lt_mul_of_pos_right h hD
        refine Nat.lt_of_mul_lt_mul_right (a := y2) ?_
        calc 2 * m * y2 = 2 * (m * y2) := Nat.mul_assoc _ _ _
          _ = 2 * (vr * D2) := by rw [e1]
          _ = vr * 2 * D2 := by ac_rfl
          _ < y2 * D2 := this
          _ = D2 * y2 := Nat.mul_comm _ _
      · intro h
        have := Nat.mul_lt_mul_of_pos_right h e3
        refine Nat.lt_of_mul_lt_mul_right (a := D2) ?_
        calc vr * 2 * D2 = 2 * (vr * D2) := by ac_rfl
          _ = 2 * (m * y2) := by rw [e1]
          _ = 2 * m * y2 := by ac_rfl
          _ < D2 * y2 := this
          _ = y2 * D2 := Nat.mul_comm _ _
    have q : vr * 2 = y2 ↔ 2 * m = D2 := by
      constructor
      · intro h
        refine Nat.eq_of_mul_eq_mul_right e3 ?_
        calc 2 * m * y2 = 2 * (m * y2) := Nat.mul_assoc _ _ _
          _ = 2 * (vr * D2) := by rw [e1]
          _ = vr * 2 * D2 := by ac_rfl
          _ = D2 * y2 := by rw [h, Nat.mul_comm]
      · intro h
        refine Nat.eq_of_mul_eq_mul_right hD ?_
        calc vr * 2 * D2 = 2 * (vr * D2) := by ac_rfl
          _ = 2 * (m * y2) := by rw [e1]
          _ = 2 * m * y2 := by ac_rfl
          _ = y2 * D2 := by rw [h, Nat.mul_comm]
    refine ⟨z, ?_, ?_, ?_⟩
    · rw [← l, ← e2, Nat.pow_one]; exact cmp_m _ _
    · rw [← q, ← e2, Nat.pow_one]; exact cmp_z _ _
    · rw [← e2]; unfold cmp; split
      · simp
      · split <;> simp
  have HCS := Lib.hid hcase
  have HUP := Lib.hid hup
  have hbit := fun (W : World) (h : IsN q0 (.slice Aq lq cq) W) => h
  have HBIT := Lib.hid (fun (W : World) (h : IsN q0 (.slice Aq lq cq) W) => show Calls Tryz.prog 81 #[.slice Aq lq cq, .int .i64 0] W fun e w' => e = .returned (.int .u32 (q0 % 2 : Nat)) ∧ W = w' from by
    obtain ⟨A9, c9, e9, h9⟩ := h
    injection e9 with a b c
    subst a b c
    have := rbit_any Aq (dig q0).length cq (dig q0) W h9 rfl (Nat.le_trans HQL.out (by omega)) 0 0 rfl (by omega)
    rw [val_dig, Nat.pow_zero, Nat.div_one] at this
    exact this)
  have HLV := Lib.hid (show (vr = 0 → lr = 0) ∧ (vr ≠ 0 → 0 < lr) from by
    rw [← HLR.out]
    refine ⟨fun h => by rw [h, dig_zero]; rfl, fun h => dig_length_pos h⟩)
  clear hcase hup hmul hbit HDR HHC HZL HRL HYB hD20 HLR
  obtain ⟨m2, hm2⟩ : ∃ m2, N2 % D2 = m2 := ⟨_, rfl⟩
  rw [hm2] at HCS HUP
  clear hm2
  go_upto_region 5 with fail
  go_cut [63] from 36 to 62 (fun v wx => v = .bool up ∧ wx = W)
  case first =>
    have hcs := HCS.out
    have hup := HUP.out
    unfold upB at hup
    rcases (show d = 1 ∨ d = -1 ∨ (d ≠ 1 ∧ d ≠ -1) by omega) with hd | hd | ⟨hd, hd'⟩
    · subst hd
      by_cases hv0 : vr = 0
      · obtain rfl : lr = 0 := HLV.out.1 hv0
        have hu : up = false := by rw [← hup, if_pos (by omega)]; exact decide_eq_false (by have := hcs.1.1 hv0; omega)
        have HU := Lib.hid hu
        clear hcs hup hv0 hu HCS HUP
        go_wp2
        go_meet
        case rel => exact ⟨by rw [HU.out], rfl⟩
      · have hl := HLV.out.2 hv0
        have hu : up = true := by rw [← hup, if_pos (by omega)]; exact decide_eq_true ⟨by have := hcs.1; omega, by decide⟩
        have HU := Lib.hid hu
        have hl0 : (0 : Int) < (lr : Int) := by omega
        clear hcs hup hv0 hl hu HCS HUP
        go_wp2
        go_meet
        case rel => exact ⟨by rw [HU.out], rfl⟩
    · subst hd
      have hu : up = false := by rw [← hup, if_pos (by omega)]; exact decide_eq_false (by simp)
      have HU := Lib.hid hu
      clear hcs hup hu HCS HUP
      go_wp2
      go_meet
      case rel => exact ⟨by rw [HU.out], rfl⟩
    · have hd1 : (d == 1) = false := by simpa using hd
      have hd2 : (d == -1) = false := by simpa using hd'
      rw [if_neg (by omega)] at hup
      rcases hcs.2.2.2 with hc1 | hc1 | hc1
      · have hu : up = false := by rw [← hup]; exact decide_eq_false (by have := hcs.2.1.1 hc1; omega)
        have HU := Lib.hid hu
        subst hc1
        clear hcs hup hu HCS HUP
        go_wp2
        go_meet
        case rel => exact ⟨by rw [HU.out], rfl⟩
      · have heq := hcs.2.2.1.1 hc1
        rcases Nat.mod_two_eq_zero_or_one q0 with h2 | h2
        · have hu : up = false := by rw [← hup]; exact decide_eq_false (by omega)
          have HU := Lib.hid hu
          have HB0 := Lib.hid (fun W h => HBIT.out W h)
          rw [h2] at HB0
          subst hc1
          clear hcs hup hu HCS HUP heq h2 HBIT
          go_wp2_with fail
          refine (HB0.out _ HW.out).mono ?_
          rintro en wn3 ⟨rfl, rfl⟩
          go_wp2
          go_meet
          case rel => exact ⟨by rw [HU.out] <;> simp [bne, hd1, hd2], rfl⟩
        · have hu : up = true := by rw [← hup]; exact decide_eq_true (by omega)
          have HU := Lib.hid hu
          have HB0 := Lib.hid (fun W h => HBIT.out W h)
          rw [h2] at HB0
          subst hc1
          clear hcs hup hu HCS HUP heq h2 HBIT
          go_wp2_with fail
          refine (HB0.out _ HW.out).mono ?_
          rintro en wn3 ⟨rfl, rfl⟩
          go_wp2
          go_meet
          case rel => exact ⟨by rw [HU.out] <;> simp [bne, hd1, hd2], rfl⟩
      · have hu : up = true := by
          rw [← hup]
          have h1 := hcs.2.1
          have h2 := hcs.2.2.1
          rw [hc1] at h1 h2
          exact decide_eq_true (by simp at h1 h2; omega)
        have HU := Lib.hid hu
        subst hc1
        clear hcs hup hu HCS HUP
        go_wp2
        go_meet
        case rel => exact ⟨by rw [HU.out] <;> simp [bne, hd1, hd2], rfl⟩
  case rest =>
    obtain ⟨rfl, rfl⟩ := hcut
    clear HBIT HCS HUP HLV HR
    go_upto_if 63 with fail
    go_cut [10] (fun v wx => IsN (if up = true then q0 + 1 else q0) v wx ∧ Below wc.heap.size wc wx)
    case first =>
      cases up
      · go_wp2
        go_meet
        case rel => exact ⟨HW.out, Below.refl _ _⟩
      · have HP1 := Lib.hid (fun W' (h : IsN q0 (.slice Aq lq cq) W') u (hu : IsN 1 u W') => plus_is (w := W') h hu (by have := HQL.out; omega) (by rw [dig_one]; decide))
        have HO := Lib.hid (one_is wc)
        have HW9 := Lib.hid (IsN.mono _ _ _ _ (rnew wc (.cells #[.int .u32 1] 65)) HW.out)
        have HB9 := Lib.hid (rnew wc (.cells #[.int .u32 1] 65))
        go_wp2_with fail
        refine (HP1.out _ HW9.out _ HO.out).mono ?_
        rintro en wn3 ⟨v3, rfl, hv3, hb3⟩
        have HV3 := Lib.hid hv3
        have HB3 := Lib.hid (raft HB9.out hb3)
        clear hv3 hb3
        go_wp2
        go_meet
        case rel => exact ⟨by have := HV3.out; rw [val_dig, val_dig] at this; exact this, HB3.out⟩
    case rest =>
      obtain ⟨hvW, hbx⟩ := hcut
      obtain ⟨Wd, hWd⟩ : ∃ Wd, (if up = true then q0 + 1 else q0) = Wd := ⟨_, rfl⟩
      rw [hWd] at HPQ hvW
      have hWle : Wd ≤ 10 ^ n := by
        have h1 : q0 < 10 ^ n := by have := (dcnt_le (qat p Q K) n).1 (Nat.le_of_eq HK.out); rw [HQT.out] at this; exact this
        rw [← hWd]; split <;> omega
      have hWL : (dig Wd).length ≤ 10000 := by
        have := dig_len16 (n := Wd) (i := n + 1) (by
          have h1 : 10 ^ n ≤ 16 ^ n := Nat.pow_le_pow_left (by omega) n
          have h2 : 16 ^ n < 16 ^ (n + 1) := Nat.pow_lt_pow_right (by omega) (by omega)
          omega)
        omega
      have hTL : (txt Wd).length ≤ 1101 := by
        show dcnt Wd ≤ 1101
        refine Nat.le_trans ((dcnt_le Wd (n + 1)).2 ?_) (by omega)
        rw [Nat.pow_succ]
        have : 0 < 10 ^ n := Nat.pow_pos (by omega)
        omega
      obtain ⟨Av, cv, rfl, hrv⟩ := hvW
      have HTX := Lib.hid (text_any Av (dig Wd).length cv (dig Wd) wc hrv rfl (by omega))
      rw [val_dig] at HTX
      have HB4 := Lib.hid (raft HB4.out hbx)
      obtain ⟨L, hL⟩ : ∃ L, (txt Wd).length = L := ⟨_, rfl⟩
      have hsz : (bs (txt Wd)).size = L := by rw [bs_size]; exact hL
      have hcut0 : (bs (txt Wd)).extract 0 n = bs ((txt Wd).take n) := by rw [bs_sub, List.drop_zero, Nat.sub_zero]
      have hnc : ¬ n < L → bs (txt Wd) = bs ((txt Wd).take n) := fun h => by rw [List.take_of_length_le (by omega)]
      rw [hL] at hTL
      obtain ⟨TT, hTT⟩ : ∃ TT, bs (txt Wd) = TT := ⟨_, rfl⟩
      rw [hTT] at hsz hcut0 hnc HTX
      have HPF := Lib.hid (show ∀ R : Prop, True from fun _ => trivial)
      obtain ⟨UU, hUU⟩ : ∃ UU, bs ((txt Wd).take n) = UU := ⟨_, rfl⟩
      rw [hUU] at hcut0 hnc
      have HRES := Lib.hid (And.intro hL hUU)
      have HNC := Lib.hid hnc
      clear hWd hWle hWL hrv hbx hL hTT hUU hnc HW
      go_wp2_with fail
      refine (HTX.out).mono ?_
      rintro en wn3 ⟨rfl, hb3⟩
      have HB4 := Lib.hid (raft HB4.out hb3)
      clear hb3
      by_cases hlt : n < L
      · have hltI : (n : Int) < (L : Int) := by omega
        have HLT := Lib.hid hlt
        clear hlt HTX
        go_wp2
        go_ret2
        refine ⟨K, k1, k2, HK.out, ?_, HB4.out⟩
        rw [HPQ.out, HRES.out.1, HRES.out.2, if_pos HLT.out]; rfl
      · have hltI : ¬ (n : Int) < (L : Int) := by omega
        have HLT := Lib.hid hlt
        clear hlt HTX
        go_wp2
        go_ret2
        refine ⟨K, k1, k2, HK.out, ?_, HB4.out⟩
        rw [HPQ.out, HRES.out.1, HRES.out.2, if_neg HLT.out, ← HNC.out HLT.out]; rfl
end Go.Proofs.YtcomkgmonhidhaaGreatDoor
