/- Contracts of nat: digit. -/
import Derived.Test.YtcomkgmonhidhaaGreatDoorG25
import Derived.Test.YtcomkgmonhidhaaGreatDoorG06
import Derived.Deep.CutBlock
namespace Go.Proofs.YtcomkgmonhidhaaGreatDoor
set_option linter.unusedVariables false
set_option linter.unusedSimpArgs false
open Go.RowKit Verge

theorem Blk.cellAt {w : World} {g : Nat} {P D : List Nat} (h : Blk w g (P ++ D)) {o : Nat} (ho : P.length = o) {i : Nat} (hi : i < D.length) : w.cell? ⟨g, o + i, none⟩ = some (.int .u32 ((D.getD i 0 : Nat) : Int)) := by
  subst ho
  rw [h.cell (by rw [List.length_append]; omega), getD_append_left']

theorem Blk.setAt {w : World} {g : Nat} {P D : List Nat} (h : Blk w g (P ++ D)) {o : Nat} (ho : P.length = o) (i : Nat) {v : Int} (h0 : 0 ≤ v) (hv : v < 4294967296) {u : Nat} (hu : v.toNat = u) :
    Blk (w.setCell ⟨g, o + i, none⟩ (.int .u32 v)) g (P ++ D.set i u) := by
  subst ho
  have := h.setI (P.length + i) h0 hv hu
  rwa [set_append_left'] at this

set_option maxRecDepth 100000 in
set_option maxHeartbeats 2000000 in
/-- nat.digit: the next word of a quotient; what is left stands in u. -/
theorem digit_any (g o cu : Nat) (P D : List Nat) (AV : Option Addr) (m cv : Nat) (V : List Nat) (un u1 u2 v1 v2 : Nat) (w : World)
    (hB : Blk w g (P ++ D)) (ho : P.length = o) (hV : ∀ w', w.grownBy w' (some g) → Rd w' AV V) (hT : Trial D V m un u1 u2 v1 v2) (hm : o + m ≤ 70368744177663) :
    Calls Tryz.prog 61 #[.slice (some ⟨g, o, none⟩) (m + 3) cu, .slice AV (m + 2) cv] w fun e w' => e = .returned (.int .u32 ((val D / val V : Nat) : Int)) ∧
      ∃ D', w.grownBy w' (some g) ∧ Blk w' g (P ++ D') ∧ D'.length = D.length ∧ val D' = val D % val V := by
  obtain ⟨b, oV, rfl, -⟩ := (hV w (grownBy_refl w _)).cell (k := 0) (by rw [hT.vl]; omega)
  have hVc : ∀ w', w.grownBy w' (some g) → ∀ i, i < m + 2 → w'.cell? ⟨b, oV + i, none⟩ = some (.int .u32 ((V.getD i 0 : Nat) : Int)) := fun w' hG i hi => by
    obtain ⟨b', o', e, hc⟩ := (hV w' hG).cell (k := i) (by rw [hT.vl]; omega)
    simp only [Option.some.injEq, Addr.mk.injEq, and_true] at e
    obtain ⟨rfl, rfl⟩ := e
    exact hc
  have hcv1 := hVc w (grownBy_refl w _) (m + 1) (by omega)
  have hcv2 := hVc w (grownBy_refl w _) m (by omega)
  have hcu0 := hB.cellAt ho (i := m + 2) (by have := hT.dl; omega)
  have hcu1 := hB.cellAt ho (i := m + 1) (by have := hT.dl; omega)
  have hcu2 := hB.cellAt ho (i := m) (by have := hT.dl; omega)
  rw [hT.gv1] at hcv1
  rw [hT.gv2] at hcv2
  rw [hT.gun] at hcu0
  rw [hT.gu1] at hcu1
  rw [hT.gu2] at hcu2
  have hunle := hT.un_le
  have hun := hT.un32
  have hu1 := hT.u132
  have hu2 := hT.u232
  have hv1 := hT.v132
  have hv2 := hT.v232
  have htop := hT.top
  obtain ⟨top, ht⟩ : ∃ top, u1 + 4294967296 * un = top := ⟨_, rfl⟩
  have htb : top < 18446744073709551616 := by omega
  have hor : bits .or .u64 ((un : Int) * 4294967296) (u1 : Int) = (top : Int) := by rw [or_hi' u1 un hu1 hun, ht]
  have hw1 : IntKind.u64.wrap ((un : Int) * 4294967296) = (un : Int) * 4294967296 := by rw [IntKind.wrap_u64]; omega
  have hi1 : IntKind.i64.wrap ((m : Int) + 2 - 1) = (m : Int) + 1 := by rw [IntKind.wrap_i64]; omega
  have hi2 : IntKind.i64.wrap ((m : Int) + 2 - 2) = (m : Int) := by rw [IntKind.wrap_i64]; omega
  have hst := hT.start top ht
  have hx0 := hT.xle top _ _ ht hst
  have hr0 : top % v1 < v1 := Nat.mod_lt _ (by omega)
  obtain ⟨x0, hqx⟩ : ∃ x0, top / v1 = x0 := ⟨_, rfl⟩
  obtain ⟨r0, hqr⟩ : ∃ r0, top % v1 = r0 := ⟨_, rfl⟩
  rw [hqx, hqr] at hst
  rw [hqx] at hx0
  rw [hqr] at hr0
  have hqI : IntKind.u64.wrap ((top : Int) / (v1 : Int)) = (x0 : Int) := by rw [← Int.natCast_ediv, hqx, IntKind.wrap_u64]; omega
  have hrI : (top : Int) % (v1 : Int) = (r0 : Int) := by rw [← hqr]; simp
  have HST := Lib.hid hst
  have HRI := Lib.hid hrI
  have HT := Lib.hid hT
  have HTop := Lib.hid ht
  clear hqx hqr hst
  have HB := Lib.hid hB
  have HV := Lib.hid hVc
  have HO := Lib.hid ho
  clear hT ht hB hV hVc ho
  go_enter Tryz.func61, Tryz.ntmps61
  go_wp2
  go_quiet (fail)
  clear hor hw1
  go_wp2
  go_quiet (fail)
  clear hqI hrI hcu0 hcu1
  go_upto_block 0 with (fail)
  go_cut [7, 8] (fun xv _ wx => ∃ x d : Nat, xv = .int .u64 x ∧ x < 4294967296 ∧ Hid (x * val V < val D + val V ∧ val D < (x + 1) * val V) ∧ wx = w.drewN d)
  case first =>
    go_wp2
    go_loopw [7, 8] (fun xv rv wr => ∃ x r d : Nat, xv = .int .u64 x ∧ rv = .int .u64 r ∧ x ≤ 4294967297 ∧ Hid (r < 8589934592 ∧ Tries D V top v1 x r) ∧ wr = w.drewN d) (fun _ rv _ => 4 - ((intOf rv) / 2147483648).toNat)
    case atStart => exact ⟨x0, r0, _, rfl, by rw [HRI.out], hx0, ⟨by omega, HST.out⟩, by rw [World.drewN_drewN]⟩
    case round =>
      clear HST
      obtain ⟨x, r, d, rfl, rfl, hxb, hTr, rfl⟩ := hrel
      by_cases hstop : 4294967296 ≤ r ∨ x < 4294967296 ∧ x * v2 ≤ r * 4294967296 + u2
      · obtain ⟨hxB, hxs⟩ := HT.out.stop top x r HTop.out hTr.out.2 hstop
        have HX := Lib.hid (And.intro hxs hTr.out.2.2)
        clear hxs
        have hcases : 4294967296 ≤ r ∨ r < 4294967296 ∧ x * v2 ≤ r * 4294967296 + u2 := by
          rcases Nat.lt_or_ge r 4294967296 with h | h
          · rcases hstop with h' | h'
            · exact absurd h' (by omega)
            · exact .inr ⟨h, h'.2⟩
          · exact .inl h
        clear hstop
        rcases hcases with hr | ⟨hr2, hle⟩
        case' inl =>
          have hb1 : ((r : Int) / 4294967296 == 0) = false := by simp; omega
          have hrb := hTr.out.1
          go_wp2
          go_quiet (fail)
          go_wp2
        case' inr =>
          have hb1 : ((r : Int) / 4294967296 == 0) = true := by simp; omega
          have hb2 : ((x : Int) / 4294967296 != 0) = false := by simp; omega
          have hp1 : x * v2 ≤ 4294967295 * 4294967295 := Nat.mul_le_mul (by omega) (by omega)
          obtain ⟨p, hp⟩ : ∃ p, x * v2 = p := ⟨_, rfl⟩
          obtain ⟨q, hq⟩ : ∃ q, u2 + 4294967296 * r = q := ⟨_, rfl⟩
          rw [hp] at hp1 hle
          have hqp : ¬ q < p := by omega
          have hqpI : decide ((q : Int) < (p : Int)) = false := by simp; omega
          have hwp : IntKind.u64.wrap ((x : Int) * (v2 : Int)) = (p : Int) := by rw [← Int.natCast_mul, hp, IntKind.wrap_u64]; omega
          have hwr : IntKind.u64.wrap ((r : Int) * 4294967296) = (r : Int) * 4294967296 := by rw [IntKind.wrap_u64]; omega
          have hor2 : bits .or .u64 ((r : Int) * 4294967296) (u2 : Int) = (q : Int) := by rw [or_hi' u2 r hu2 hr2, hq]
          clear hp hq hle
          go_wp2
          go_quiet (fail)
          clear hwp hwr hor2 hb2 hqp hqpI hp1
          go_wp2
        all_goals go_meet
        all_goals exact ⟨x, d + _, rfl, hxB, HX.out, by first | rfl | rw [World.drewN_drewN]⟩
      · have hr : r < 4294967296 := by omega
        have hb1 : ((r : Int) / 4294967296 == 0) = true := by simp; omega
        by_cases hx : 4294967296 ≤ x
        · obtain ⟨hx1, hTr2⟩ := HT.out.down top x r HTop.out hTr.out.2 (.inl hx)
          have HTr2 := Lib.hid hTr2
          have hb2 : ((x : Int) / 4294967296 != 0) = true := by simp; omega
          clear hTr2 hstop
          go_wp2
          go_quiet (fail)
          go_wp2

          go_roundw
          case rel => exact ⟨x - 1, r + v1, _, by congr 1; omega, by go_num, by omega, ⟨by omega, HTr2.out⟩, by first | rfl | rw [World.drewN_drewN]⟩
          case measure => simp [intOf]; omega
        · have hgt : r * 4294967296 + u2 < x * v2 := by
            rcases Nat.lt_or_ge (r * 4294967296 + u2) (x * v2) with h | h
            · exact h
            · exact absurd (.inr ⟨by omega, h⟩) hstop
          obtain ⟨hx1, hTr2⟩ := HT.out.down top x r HTop.out hTr.out.2 (.inr hgt)
          have HTr2 := Lib.hid hTr2
          have hb2 : ((x : Int) / 4294967296 != 0) = false := by simp; omega
          have hp1 : x * v2 ≤ 4294967295 * 4294967295 := Nat.mul_le_mul (by omega) (by omega)
          obtain ⟨p, hp⟩ : ∃ p, x * v2 = p := ⟨_, rfl⟩
          obtain ⟨q, hq⟩ : ∃ q, u2 + 4294967296 * r = q := ⟨_, rfl⟩
          rw [hp] at hp1 hgt
          have hqp : q < p := by omega
          have hqpI : (q : Int) < (p : Int) := by omega
          have hwp : IntKind.u64.wrap ((x : Int) * (v2 : Int)) = (p : Int) := by rw [← Int.natCast_mul, hp, IntKind.wrap_u64]; omega
          have hwr : IntKind.u64.wrap ((r : Int) * 4294967296) = (r : Int) * 4294967296 := by rw [IntKind.wrap_u64]; omega
          have hor2 : bits .or .u64 ((r : Int) * 4294967296) (u2 : Int) = (q : Int) := by rw [or_hi' u2 r hu2 hr, hq]
          clear hTr2 hstop hp hq hgt
          go_wp2
          go_quiet (fail)
          clear hwp hwr hor2
          go_wp2
          go_roundw
          case rel => exact ⟨x - 1, r + v1, _, by congr 1; omega, by go_num, by omega, ⟨by omega, HTr2.out⟩, by first | rfl | rw [World.drewN_drewN]⟩
          case measure => simp [intOf]; omega
  case rest =>
    clear HST HRI
    obtain ⟨x, d, rfl, hxB, HX, rfl⟩ := hcut
    go_wp2
    clear hi1 hi2 hcv1 hcv2 hcu2
    go_loopw [9, 10, 11, 12, 87] (fun bv cv' _ _ iv wr => ∃ (i c b' : Nat) (D' : List Nat), i ≤ m + 2 ∧ iv = .int .i64 i ∧ bv = .int .u32 b' ∧ cv' = .int .u64 c ∧ c < 4294967296 ∧ b' ≤ 1 ∧ Blk wr g (P ++ D') ∧
      Hid (D'.length = D.length ∧ D'.drop i = D.drop i ∧ val (D'.take i) + x * val (V.take i) = val (D.take i) + (c + b') * PW i) ∧ w.grownBy wr (some g)) (fun _ _ _ _ iv _ => m + 2 - (intOf iv).toNat)
    case atStart => exact ⟨0, 0, 0, D, by omega, rfl, rfl, rfl, by omega, by omega, HB.out, ⟨rfl, rfl, by simp [PW_zero]⟩, ⟨rfl, rfl, rfl, Nat.le_refl _, fun _ _ _ => rfl⟩⟩
    case round =>
      obtain ⟨i, c, b', D', hi, rfl, rfl, rfl, hc, hb', hD, hI, hG⟩ := hrel
      have hDl : m + 3 ≤ D'.length := by rw [hI.out.1]; exact HT.out.dl
      by_cases hin : i < m + 2
      · have hcx := HV.out _ hG i hin
        have hy32 := HT.out.v32.getD i
        obtain ⟨y, hgy⟩ : ∃ y, V.getD i 0 = y := ⟨_, rfl⟩
        rw [hgy] at hcx hy32
        have hcl := hD.cellAt HO.out (i := i) (by omega)
        have hx32 : D'.getD i 0 < 4294967296 := by
          have := hD.1.getD (P.length + i)
          rwa [getD_append_left'] at this
        have hfz := hD.frozen (o + i)
        obtain ⟨u, hgu⟩ : ∃ u, D'.getD i 0 = u := ⟨_, rfl⟩
        rw [hgu] at hcl hx32
        have hm1 : x * y ≤ 4294967295 * 4294967295 := Nat.mul_le_mul (by omega) (by omega)
        obtain ⟨q2, hq2⟩ : ∃ q2, x * y = q2 := ⟨_, rfl⟩
        rw [hq2] at hm1
        have hqm : (x : Int) * (y : Int) = (q2 : Int) := by rw [← Int.natCast_mul, hq2]
        have HS := Lib.hid (And.intro hgy (And.intro hgu hq2))
        clear hgy hgu hq2 hDl
        go_wp2_with (go_at_call 91; refine (sub32_any _ _ _ (by omega) (by omega) (by omega) (by omega) (by omega) (by omega) _).mono ?_; rintro e w' ⟨rfl, rfl⟩)
        clear hqm
        go_roundw
        case rel =>
          obtain ⟨h1, h2, h3⟩ := hI.out
          obtain ⟨s1, s2, s3⟩ := HS.out
          obtain ⟨lo, hlo⟩ : ∃ lo, (c + q2) % 4294967296 = lo := ⟨_, rfl⟩
          obtain ⟨hi', hhi⟩ : ∃ hi', (c + q2) / 4294967296 = hi' := ⟨_, rfl⟩
          obtain ⟨s', hs'⟩ : ∃ s' : Nat, ((u : Int) - lo - b') % 4294967296 = s' := ⟨(((u : Int) - lo - b') % 4294967296).toNat, by omega⟩
          obtain ⟨bb, hbb⟩ : ∃ bb : Nat, ((lo : Int) + b' - u + 4294967295) / 4294967296 = bb := ⟨(((lo : Int) + b' - u + 4294967295) / 4294967296).toNat, by omega⟩
          obtain ⟨t1, t2⟩ := take_step D D' V i x y u c b' s' hi' bb lo (by have := HT.out.dl; omega) h1 h2 s2 s1 h3 (by rw [s3]; omega) (sub_word u lo b' s' bb hs' hbb)
          have hloI : ((c : Int) + q2) % 4294967296 = (lo : Int) := by omega
          rw [hloI]
          exact ⟨i + 1, hi', bb, D'.set i s', by omega, by go_num, by rw [hbb], by congr 1; omega, by omega, by omega, hD.setAt HO.out i (by omega) (by omega) (by omega),
            ⟨by rw [List.length_set]; exact h1, t2, t1⟩, grownBy_set hG _ _⟩
        case measure => simp [intOf]; omega
      · obtain rfl : i = m + 2 := by omega
        have hcl := hD.cellAt HO.out (i := m + 2) (by omega)
        have hfz := hD.frozen (o + (m + 2))
        have ht32 : D'.getD (m + 2) 0 < 4294967296 := by
          have := hD.1.getD (P.length + (m + 2))
          rwa [getD_append_left'] at this
        obtain ⟨t, hgt⟩ : ∃ t, D'.getD (m + 2) 0 = t := ⟨_, rfl⟩
        rw [hgt] at hcl ht32
        have HGT := Lib.hid hgt
        clear hgt
        have hxl : (x : Int) < 4294967296 := by omega
        by_cases hbb : t < c + b'
        · have hq0 : (((c : Int) + b' - t + 4294967295) / 4294967296 == 0) = false := by simp; omega
          obtain ⟨s', hs'⟩ : ∃ s' : Nat, ((t : Int) - c - b') % 4294967296 = s' := ⟨(((t : Int) - c - b') % 4294967296).toNat, by omega⟩
          have hs32 : s' < 4294967296 := by omega
          obtain ⟨E, hE⟩ : ∃ E, D'.set (m + 2) s' = E := ⟨_, rfl⟩
          obtain ⟨Q, hQ⟩ : ∃ Q, PW (m + 2) = Q := ⟨_, rfl⟩
          have hEl : E.length = D.length := by rw [← hE, List.length_set]; exact hI.out.1
          have hEf : val (E.take (m + 3)) + x * val V = val D + Q * 4294967296 ∧ E.drop (m + 3) = D.drop (m + 3) := by
            obtain ⟨h1, h2, h3⟩ := hI.out
            have hl := HT.out.dl
            obtain ⟨t1, t2⟩ := take_last (s := s') (b' := 1) (Q := Q) hQ HT.out.vl (by omega) h1 h2 HGT.out h3 (by omega)
            exact take_over HT.out hE t1 t2
          have hE32 : W32 E := by
            rw [← hE]
            refine W32.set ?_ _ hs32
            intro z hz
            exact hD.1 z (List.mem_append_right P hz)
          have hx0 : 0 < x := over_pos hQ hE32 (by have := HT.out.dl; omega) hEf.1
          have HE := Lib.hid (And.intro hEl (And.intro hEf hE32))
          have hBE : ∀ wx, wx = wr.setCell ⟨g, o + (m + 2), none⟩ (.int .u32 (((t : Int) - c - b') % 4294967296)) → Blk wx g (P ++ E) := fun wx e => by
            rw [e, ← hE]; exact hD.setAt HO.out (m + 2) (by omega) (by omega) (by omega)
          have HBE := Lib.hid hBE
          have HQ := Lib.hid hQ
          have HsI := Lib.hid hs'
          clear hEl hEf hE32 hBE hQ hs' hE hbb hDl
          go_wp2_with (go_at_call 91; refine (sub32_any _ _ _ (by omega) (by omega) (by omega) (by omega) (by omega) (by omega) _).mono ?_; rintro e w' ⟨rfl, rfl⟩)
          obtain ⟨wo, rfl⟩ : ∃ wo : World, wo = wr := ⟨_, rfl⟩
          go_loopw [13, 14, 15, 135] (fun ov _ _ jv wr => ∃ (j cc : Nat) (F : List Nat), j ≤ m + 2 ∧ jv = .int .i64 j ∧ ov = .int .u32 cc ∧ cc ≤ 1 ∧ Blk wr g (P ++ F) ∧
            Hid (F.length = E.length ∧ F.drop j = E.drop j ∧ val (F.take j) + cc * PW j = val (E.take j) + val (V.take j)) ∧ w.grownBy wr (some g)) (fun _ _ _ jv _ => m + 2 - (intOf jv).toNat)
          case atStart => exact ⟨0, 0, E, by omega, rfl, rfl, by omega, HBE.out _ rfl, ⟨rfl, rfl, by simp [PW_zero]⟩, grownBy_set hG _ _⟩
          case round =>
            clear hcl hfz hD hq0
            obtain ⟨j, cc, F, hj, rfl, rfl, hcc, hF, hI3, hG3⟩ := hrel
            have hFl : m + 3 ≤ F.length := by rw [hI3.out.1, HE.out.1]; exact HT.out.dl
            have hcl := hF.cellAt HO.out (i := j) (by omega)
            have hfz := hF.frozen (o + j)
            have hx32 : F.getD j 0 < 4294967296 := by
              have := hF.1.getD (P.length + j)
              rwa [getD_append_left'] at this
            obtain ⟨u, hgu⟩ : ∃ u, F.getD j 0 = u := ⟨_, rfl⟩
            rw [hgu] at hcl hx32
            have HGU := Lib.hid hgu
            clear hgu hFl
            by_cases hjn : j < m + 2
            · have hcx := HV.out _ hG3 j hjn
              have hy32 := HT.out.v32.getD j
              obtain ⟨y, hgy⟩ : ∃ y, V.getD j 0 = y := ⟨_, rfl⟩
              rw [hgy] at hcx hy32
              have HGY := Lib.hid hgy
              clear hgy hin hi hc hb' hxl hs32 ht32
              go_wp2_with (go_at_call 67; refine (add32_any _ _ _ (by omega) (by omega) (by omega) (by omega) (by omega) (by omega) _).mono ?_; rintro e w' ⟨rfl, rfl⟩)
              go_roundw
              case rel =>
                obtain ⟨h1, h2, h3⟩ := hI3.out
                obtain ⟨t1, t2⟩ := give_step E F V j y u cc ((u + y + cc) % 4294967296) ((u + y + cc) / 4294967296) (by have := HT.out.dl; have := HE.out.1; omega) h2 HGU.out HGY.out h3 (by omega)
                exact ⟨j + 1, (u + y + cc) / 4294967296, F.set j ((u + y + cc) % 4294967296), by omega, by go_num, by go_num, by omega, hF.setAt HO.out j (by omega) (by omega) (by omega),
                  ⟨by rw [List.length_set]; exact h1, t2, t1⟩, grownBy_set hG3 _ _⟩
              case measure => simp [intOf]; omega
            · obtain rfl : j = m + 2 := by omega
              go_wp2
              go_ret
              obtain ⟨h1, h2, h3⟩ := hI3.out
              have hF32 : W32 F := fun z hz => hF.1 z (List.mem_append_right P hz)
              obtain ⟨f1, f2, f3⟩ := trial_over HT.out HX.out.2 HX.out.1 HQ.out HE.out.2.1.2 HE.out.1 HE.out.2.2 hF32 HE.out.2.1.1 h2 h1 h3 hcc
              rw [HGU.out] at f1
              exact ⟨ret_int (by rw [← f3]; omega), F.set (m + 2) ((u + cc) % 4294967296), grownBy_set hG3 _ _, hF.setAt HO.out (m + 2) (by omega) (by omega) (by omega), by rw [List.length_set, h1, HE.out.1], f1⟩
        · have hq0 : (((c : Int) + b' - t + 4294967295) / 4294967296 == 0) = true := by simp; omega
          have hq1 : ((c : Int) + b' - t + 4294967295) / 4294967296 = 0 := by omega
          clear hDl hbb
          go_wp2_with (go_at_call 91; refine (sub32_any _ _ _ (by omega) (by omega) (by omega) (by omega) (by omega) (by omega) _).mono ?_; rintro e w' ⟨rfl, rfl⟩)
          go_ret
          obtain ⟨h1, h2, h3⟩ := hI.out
          obtain ⟨s', hs'⟩ : ∃ s' : Nat, ((t : Int) - c - b') % 4294967296 = s' := ⟨(((t : Int) - c - b') % 4294967296).toNat, by omega⟩
          obtain ⟨f1, f2⟩ := fit_end (s := s') HT.out HX.out.2 h1 h2 HGT.out h3 (by omega)
          exact ⟨ret_int (by rw [← f2]), D'.set (m + 2) s', grownBy_set hG _ _, hD.setAt HO.out (m + 2) (by omega) (by omega) (by omega), by rw [List.length_set]; exact h1, f1⟩
end Go.Proofs.YtcomkgmonhidhaaGreatDoor
