/- Layer 5, the program: the number of digits; powers of ten. -/
import Derived.Test.YtiadjcilfljdaaaRdrD
import Derived.Test.YtiadjcilfljdaaaNatT
namespace Go.Proofs.Ytiadjcilfljdaaa
set_option linter.unusedVariables false
set_option linter.unusedSimpArgs false
open Go.RowKit Verge

section
variable {n m : Nat} {v u : Value} {w : World}
theorem ncmp_is (hv : IsT n v w) (hu : IsT m u w) (h : blen n ≤ 500000) (h' : blen m ≤ 500000) : Calls Try.prog 13 #[v, u] w (Ans w (IsV (.int .i64 (cmp n m)))) := by
  obtain ⟨A, rfl, hR⟩ := hv
  obtain ⟨B, rfl, hS⟩ := hu
  have hl := len_of_blen h
  have hl' := len_of_blen h'
  have := cmp_any A _ (dig n).length (dig n) B _ (dig m).length (dig m) w hR rfl (by omega) hS rfl (by omega)
  rw [val_dig, val_dig] at this
  exact ans_drew this
theorem nadd_is (hv : IsT n v w) (hu : IsT m u w) (h : blen (n + m) ≤ 500000) : Calls Try.prog 76 #[v, u] w (Ans w (Is2 (IsT (n + m)) (IsV (.int .i64 0)))) := by
  obtain ⟨A, rfl, hR⟩ := hv
  obtain ⟨B, rfl, hS⟩ := hu
  have hl := len_of_blen h
  have h1 := dig_length_mono (show n ≤ n + m by omega)
  have h2 := dig_length_mono (show m ≤ n + m by omega)
  have e : nadd n m = (dig (n + m), 0) := by
    rw [nadd_fit, fit_no ((long_false _).2 (by omega))]
    rw [(long_false _).2 (by omega), (long_false _).2 (by omega)]; rfl
  have := add_any A _ (dig n).length (dig n) B _ (dig m).length (dig m) w hR rfl (Nat.le_refl _) (by omega) hS rfl (Nat.le_refl _) (by omega)
  rw [val_dig, val_dig, e] at this
  exact this.mono fun en w' ⟨g, A1, hg, he, hO, hb⟩ => ⟨_, he, ⟨_, _, rfl, ⟨A1, rfl, hO.rd⟩, rfl⟩, hb⟩
end
theorem numB_app (b : Nat) (l : List UInt8) : ∀ k : List UInt8, numB b (l ++ k) = numB b l * b ^ k.length + numB b k := by
  have key : ∀ (n : Nat) (k : List UInt8), k.length = n → numB b (l ++ k) = numB b l * b ^ k.length + numB b k := by
    intro n
    induction n with
    | zero =>
      intro k hk
      obtain rfl : k = [] := List.eq_nil_of_length_eq_zero hk
      simp [numB]
    | succ n ih =>
      intro k hk
      have hne : k ≠ [] := by rintro rfl; simp at hk
      obtain ⟨q, c, rfl⟩ : ∃ q c, k = q ++ [c] := ⟨k.dropLast, k.getLast hne, (List.dropLast_concat_getLast hne).symm⟩
      have hq : q.length = n := by simpa using hk
      rw [← List.append_assoc, numB_snoc, ih q hq, numB_snoc, List.length_append, Nat.add_mul]
      show _ = numB b l * b ^ (q.length + 1) + _
      rw [Nat.pow_succ, Nat.mul_assoc, Nat.add_assoc]
  exact fun k => key _ k rfl
theorem numB_lt {B : Nat} : ∀ {l : List UInt8}, (∀ c ∈ l, dvl c < B) → numB B l < B ^ l.length := by
  intro l
  have key : ∀ (n : Nat) (k : List UInt8), k.length = n → (∀ c ∈ k, dvl c < B) → numB B k < B ^ k.length := by
    intro n
    induction n with
    | zero =>
      intro k hk _
      obtain rfl : k = [] := List.eq_nil_of_length_eq_zero hk
      simp [numB]
    | succ n ih =>
      intro k hk h
      have hne : k ≠ [] := by rintro rfl; simp at hk
      obtain ⟨q, c, rfl⟩ : ∃ q c, k = q ++ [c] := ⟨k.dropLast, k.getLast hne, (List.dropLast_concat_getLast hne).symm⟩
      have hq : q.length = n := by simpa using hk
      have h1 := ih q hq fun c hc => h c (List.mem_append_left _ hc)
      have h2 := h c (by simp)
      rw [numB_snoc, List.length_append]
      show _ < B ^ (q.length + 1)
      rw [Nat.pow_succ]
      have := Nat.mul_le_mul_right B (show numB B q + 1 ≤ B ^ q.length from h1)
      rw [Nat.add_mul] at this
      omega
  exact key _ l rfl
def slen : Value → Nat | .string x => x.size | _ => 0
theorem blenB {B : Nat} (hB : B ≤ 16) {l : List UInt8} (h : ∀ c ∈ l, dvl c < B) (hl : l.length ≤ 5000) : blen (numB B l) ≤ 20000 := by
  obtain ⟨K, hK⟩ : ∃ K, K = 20000 := ⟨_, rfl⟩
  rw [← hK]
  refine (blen_lt _ _).2 (Nat.lt_of_lt_of_le (numB_lt h) (Nat.le_trans (Nat.pow_le_pow_left hB _) ?_))
  rw [show (16 : Nat) = 2 ^ 4 from rfl, ← Nat.pow_mul]
  exact Nat.pow_le_pow_right (by omega) (by omega)
theorem pow7 {B i : Nat} (hB : B ≤ 16) (hB1 : 1 ≤ B) (hi : i < 7) : B ^ i * B ≤ 268435456 := by
  rw [← Nat.pow_succ]
  refine Nat.le_trans (Nat.pow_le_pow_right hB1 (show i + 1 ≤ 7 by omega)) (Nat.le_trans (Nat.pow_le_pow_left hB 7) (by decide))
theorem isEmpty_true {a : List UInt8} (h : a = []) : (bs a).toList.isEmpty = true := by rw [empty_bs, h]; rfl
set_option maxHeartbeats 2000000 in
theorem natural_any (s : List UInt8) (B : Nat) (hB : B = 10 ∨ B = 16) (hs : ∀ c ∈ s, vl c = dvl c ∧ dvl c < B) (hl : s.length ≤ 5000) (w : World) :
    Calls Try.prog 45 #[.string (bs s), .int .u32 (B : Int)] w (Ans w (IsT (numB B s))) := by
  have HV := Lib.hid (fun c W => value_any c W)
  have HSm := Lib.hid (fun W n h => nsmall_is (w := W) n h)
  have HMu := Lib.hid (fun W n m v u (hv : IsT n v W) (hu : IsT m u W) h h' => nmul_is hv hu h h')
  have HAd := Lib.hid (fun W n m v u (hv : IsT n v W) (hu : IsT m u W) h => nadd_is hv hu h)
  have HS := Lib.hid (And.intro hs hl)
  have hB16 : B ≤ 16 := by omega
  clear hs hl
  go_enter Try.func45, Try.ntmps45
  go_wp2
  go_loopw [0, 5] (fun sv lv wr => ∃ (P t : List UInt8) (V : Value), sv = .string (bs t) ∧ lv = V ∧ Hid (s = P ++ t ∧ IsT (numB B P) V wr ∧ Below w.heap.size w wr)) (fun sv _ _ => slen sv)
  case atStart => exact ⟨[], s, _, rfl, rfl, rfl, ⟨none, by rw [show numB B [] = 0 from rfl, dig_zero]; rfl, by rw [show numB B [] = 0 from rfl, dig_zero]; exact Rd.nil⟩, Below.refl _ _⟩
  case round =>
    obtain ⟨P, t, V, rfl, rfl, hI⟩ := hrel
    by_cases ht : t = []
    · have hem := isEmpty_true ht
      have HT := Lib.hid ht
      clear ht
      generalize bs t = X at *
      go_wp2
      go_ret
      have h1 := hI.out.1
      rw [HT.out, List.append_nil] at h1
      rw [h1]
      exact ⟨_, rfl, hI.out.2.1, hI.out.2.2⟩
    · have hem := bs_ne ht
      obtain ⟨X, hX⟩ : ∃ X, bs t = X := ⟨_, rfl⟩
      have hsz : X.size = t.length := by rw [← hX]; exact bs_size _
      have HXA := Lib.hid (fun i c h => (hX ▸ bs_at t i c h : ∀ hi : i < X.size, X[i]'hi = c))
      have HX := Lib.hid hX
      rw [hX] at hem ⊢
      obtain ⟨L, hL⟩ : ∃ L, t.length = L := ⟨_, rfl⟩
      rw [hL] at hsz
      have hL0 : 1 ≤ L := by
        rw [← hL]; exact List.length_pos_iff.2 ht
      have hL1 : L ≤ 5000 := by
        have h1 := HS.out.2
        rw [hI.out.1, List.length_append] at h1
        omega
      have HL := Lib.hid hL
      clear hX hL ht
      obtain ⟨wo, rfl⟩ : ∃ wo : World, wo = wr := ⟨_, rfl⟩
      go_upto_region 3 with fail
      go_cut [6] from 12 to 14 (fun s wx => ∃ k : Nat, s = .int .i64 (k : Int) ∧ 1 ≤ k ∧ k ≤ 7 ∧ k ≤ L ∧ wx = wo)
      case first =>
        go_wp2
        all_goals go_meet
        · exact ⟨7, rfl, by omega, by omega, by omega, rfl⟩
        · exact ⟨L, rfl, by omega, by omega, by omega, rfl⟩
      case rest =>
        obtain ⟨k, rfl, hk1, hk7, hkL, rfl⟩ := hcut
        go_wp2
        go_loopw [7, 8, 16] (fun tv qv iv wx => ∃ i T Q : Nat, i ≤ k ∧ iv = .int .i64 (i : Int) ∧ tv = .int .u64 (T : Int) ∧ qv = .int .u64 (Q : Int) ∧ T ≤ 268435456 ∧ Q < T ∧ wx = wc ∧ Hid (T = B ^ i ∧ Q = numB B (t.take i))) (fun _ _ iv _ => k - (intOf iv).toNat)
        case atStart => exact ⟨0, 1, 0, by omega, rfl, rfl, rfl, by omega, by omega, rfl, rfl, by simp [numB]⟩
        case round =>
          obtain ⟨i, T, Q, hi, rfl, rfl, rfl, hT, hQ, rfl, hJ⟩ := hrel
          by_cases hlt : i < k
          · have hltI : (i : Int) < (k : Int) := by omega
            obtain ⟨c, hc⟩ : ∃ c, t[i]? = some c := ⟨_, List.getElem?_eq_getElem (by rw [HL.out]; omega)⟩
            have hcS := HXA.out i c hc
            have hv := HS.out.1 c (by rw [hI.out.1]; exact List.mem_append_right _ (List.mem_of_getElem? hc))
            have hN := numB_take hc B
            have hTB : T * B ≤ 268435456 := by rw [hJ.out.1]; exact pow7 hB16 (by omega) (by omega)
            have hvB : vl c < B := by rw [hv.1]; exact hv.2
            have hQB : Q * B + vl c < T * B := by
              have := Nat.mul_le_mul_right B (show Q + 1 ≤ T from hQ)
              rw [Nat.add_mul] at this
              omega
            have HCC := Lib.hid (And.intro hc (And.intro hv.1 hN))
            clear hc hv hN
            have hw1 : IntKind.u64.wrap ((T : Int) * (B : Int)) = ((T * B : Nat) : Int) := by
              rw [← Int.natCast_mul, IntKind.wrap_u64]; omega
            have hw2 : IntKind.u64.wrap ((Q : Int) * (B : Int)) = ((Q * B : Nat) : Int) := by
              rw [← Int.natCast_mul, IntKind.wrap_u64]; omega
            have hw3 : IntKind.u64.wrap (((Q * B : Nat) : Int) + ((vl c : Nat) : Int)) = ((Q * B + vl c : Nat) : Int) := by
              rw [← Int.natCast_add, IntKind.wrap_u64]; omega
            generalize hTB0 : T * B = TB at *
            generalize hQB0 : Q * B = QB at *
            have H0 := Lib.hid (And.intro hTB0 hQB0)
            clear hTB0 hQB0
            go_wp2_with (go_at_call 74; refine (HV.out _ _).mono ?_; rintro e w1 ⟨rfl, rfl⟩)
            go_roundw
            case rel =>
              obtain ⟨e1, e2⟩ := H0.out
              refine ⟨i + 1, TB, QB + vl c, by omega, by go_num, rfl, by go_num, hTB, hQB, trivial, ?_, ?_⟩
              · rw [← e1, Nat.pow_succ, hJ.out.1]
              · rw [← e2, HCC.out.2.2, hJ.out.2, HCC.out.2.1]
            case measure => simp [intOf]; omega
          · obtain rfl : i = k := by omega
            have hT64 : T < 18446744073709551616 := by omega
            have hQ64 : Q < 18446744073709551616 := by omega
            have hPs : ∀ c ∈ P, dvl c < B := fun c hc => (HS.out.1 c (by rw [hI.out.1]; exact List.mem_append_left _ hc)).2
            have hts : ∀ c ∈ t, dvl c < B := fun c hc => (HS.out.1 c (by rw [hI.out.1]; exact List.mem_append_right _ hc)).2
            have hlen : (P ++ t).length ≤ 5000 := by rw [← hI.out.1]; exact HS.out.2
            have hbP : blen (numB B P) ≤ 100000 := Nat.le_trans (blenB hB16 hPs (by rw [List.length_append] at hlen; omega)) (by omega)
            have hbT : blen T ≤ 100000 := Nat.le_trans ((blen_lt T 64).2 hT64) (by omega)
            have hsum : numB B P * T + Q = numB B (P ++ t.take i) := by
              rw [numB_app, List.length_take, Nat.min_eq_left (by rw [HL.out]; omega), ← hJ.out.1, ← hJ.out.2]
            have hbS : blen (numB B P * T + Q) ≤ 500000 := by
              rw [hsum]
              refine Nat.le_trans (blenB hB16 (fun c hc => ?_) ?_) (by omega)
              · rcases List.mem_append.1 hc with hc | hc
                · exact hPs c hc
                · exact hts c (List.mem_of_mem_take hc)
              · rw [List.length_append, List.length_take]
                rw [List.length_append] at hlen
                omega
            have HB := Lib.hid (And.intro hbP (And.intro hbT (And.intro hsum hbS)))
            have tk1 : True := trivial
            have tk2 : True := trivial
            clear hbP hbT hsum hbS hPs hts hlen
            go_wp2_with (first
              | (go_at_call 75; have tk := tk1; clear tk1 tk; refine (HSm.out _ T hT64).mono ?_; rintro e wa ⟨a, rfl, ha⟩; have HA := Lib.hid ha; clear ha)
              | (go_at_call 11; refine (HMu.out _ _ _ _ _ (IsT.mono _ _ _ _ HA.out.2 hI.out.2.1) HA.out.1 HB.out.1 HB.out.2.1).mono ?_; rintro e wb ⟨m0, rfl, ⟨m1, m2, rfl, hm1, rfl⟩, hmb⟩; have HM := Lib.hid (And.intro hm1 hmb); clear hm1 hmb)
              | (go_at_call 75; have tk := tk2; clear tk2 tk; refine (HSm.out _ Q hQ64).mono ?_; rintro e wd ⟨d, rfl, hd⟩; have HD := Lib.hid hd; clear hd)
              | (go_at_call 76; refine (HAd.out _ _ _ _ _ (IsT.mono _ _ _ _ HD.out.2 HM.out.1) HD.out.1 HB.out.2.2.2).mono ?_; rintro e we ⟨m3, rfl, ⟨m4, m5, rfl, hm1, rfl⟩, hmb⟩; have HE := Lib.hid (And.intro hm1 hmb); clear hm1 hmb))
            have hex : X.extract i L = bs (t.drop i) := by
              rw [← HX.out, bs_sub, List.take_of_length_le (by rw [List.length_drop, HL.out]; omega)]
            go_roundw
            case rel =>
              refine ⟨P ++ t.take i, t.drop i, m4, by rw [hex], rfl, ?_, ?_, ?_⟩
              · rw [List.append_assoc, List.take_append_drop]; exact hI.out.1
              · rw [← HB.out.2.2.1]; exact HE.out.1
              · exact raft (raft (raft (raft hI.out.2.2 HA.out.2) HM.out.2) HD.out.2) HE.out.2
            case measure =>
              rw [hex]
              show (bs (t.drop i)).size < X.size
              rw [bs_size, List.length_drop, HL.out, hsz]
              omega
theorem ten_any (n : Nat) (hn : n ≤ 20000) (w : World) : Calls Try.prog 47 #[.int .i64 (n : Int)] w (Ans w (IsT (10 ^ n))) := by
  have hd : dig 10 = [10] := by rw [dig_pos (by omega)]; simp [dig_zero]
  have hb := (Blk.new w #[.int .u32 10] [10] (by intro x hx; simp at hx; omega) rfl).rd
  have hT : IsT 10 (.slice (some ⟨w.heap.size, 0, none⟩) 1 1) (w.alloc (.cells #[.int .u32 10] 63)) := ⟨_, by rw [hd]; rfl, by rw [hd]; exact hb⟩
  have hbl : blen (10 ^ n) ≤ 100000 := by
    obtain ⟨K, hK⟩ : ∃ K, K = 100000 := ⟨_, rfl⟩
    rw [← hK]
    refine (blen_lt _ _).2 (Nat.lt_of_le_of_lt (Nat.pow_le_pow_left (show 10 ≤ 2 ^ 4 by decide) n) ?_)
    rw [← Nat.pow_mul]
    exact Nat.pow_lt_pow_right (by omega) (by omega)
  have HP := Lib.hid (npow_is n hT ((blen_lt 10 100).2 (by decide)) hbl (by omega))
  have HW := Lib.hid (rnew w (.cells #[.int .u32 10] 63))
  clear hd hb hT hbl
  go_enter Try.func47, Try.ntmps47
  go_wp2_with (go_at_call 77; refine HP.out.mono ?_; rintro e wb ⟨m0, rfl, ⟨m1, m2, rfl, hm1, rfl⟩, hmb⟩; have HM := Lib.hid (And.intro hm1 hmb); clear hm1 hmb)
  go_ret
  exact ⟨_, rfl, HM.out.1, raft HW.out HM.out.2⟩
end Go.Proofs.Ytiadjcilfljdaaa
