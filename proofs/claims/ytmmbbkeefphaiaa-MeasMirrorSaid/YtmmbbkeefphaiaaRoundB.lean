/- Layer 3: nat's calls in one form; what of answers upward. -/
import Derived.Test.YtmmbbkeefphaiaaRoundA
import Derived.Test.YtmmbbkeefphaiaaAns
import Derived.Test.YtmmbbkeefphaiaaNatK
import Derived.Test.YtmmbbkeefphaiaaNatJ
import Derived.Test.YtmmbbkeefphaiaaNatW
import Derived.Test.YtmmbbkeefphaiaaNatD
namespace Go.Proofs.Ytmmbbkeefphaiaa
set_option linter.unusedVariables false
set_option linter.unusedSimpArgs false
open Go.RowKit Verge

/-- A natural's list, no longer than it must be. -/
def IsT (n : Nat) (v : Value) (w : World) : Prop := ∃ A, v = .slice A (dig n).length (dig n).length ∧ Rd w A (dig n)
theorem IsT.mono (n : Nat) : Mono (IsT n) := fun _ _ _ hb ⟨A, e, h⟩ => ⟨A, e, h.below hb⟩
def Is3 (φ ψ χ : Value → World → Prop) (v : Value) (w : World) : Prop := ∃ a b c, v = .tuple #[a, b, c] ∧ φ a w ∧ ψ b w ∧ χ c w
theorem len_of_blen {n : Nat} (h : blen n ≤ 500000) : (dig n).length ≤ 15625 := by
  obtain ⟨k, hk⟩ : ∃ k, k = 15625 := ⟨_, rfl⟩
  rw [← hk, dig_length_le, pow32, ← blen_lt]; omega
variable {n m : Nat} {v u : Value} {w : World}
theorem nlen_is (hv : IsT n v w) (h : blen n ≤ 500000) : Calls Try.prog 121 #[v] w (Ans w (IsV (.int .i64 (blen n : Nat)))) := by
  obtain ⟨A, rfl, hR⟩ := hv
  have hl := len_of_blen h
  have := len_any A _ (dig n).length (dig n) w hR rfl (by omega)
  rw [val_dig] at this
  exact ans_quiet this
theorem ncmp_is (hv : IsT n v w) (hu : IsT m u w) (h : blen n ≤ 500000) (h' : blen m ≤ 500000) : Calls Try.prog 104 #[v, u] w (Ans w (IsV (.int .i64 (cmp n m)))) := by
  obtain ⟨A, rfl, hR⟩ := hv
  obtain ⟨B, rfl, hS⟩ := hu
  have hl := len_of_blen h
  have hl' := len_of_blen h'
  have := cmp_any A _ (dig n).length (dig n) B _ (dig m).length (dig m) w hR rfl (by omega) hS rfl (by omega)
  rw [val_dig, val_dig] at this
  exact ans_drew this
theorem nadd_is (hv : IsT n v w) (hu : IsT m u w) (h : blen (n + m) ≤ 500000) : Calls Try.prog 103 #[v, u] w (Ans w (Is2 (IsT (n + m)) (IsV (.int .i64 0)))) := by
  obtain ⟨A, rfl, hR⟩ := hv
  obtain ⟨B, rfl, hS⟩ := hu
  have hl := len_of_blen h
  have h1 := dig_length_mono (show n ≤ n + m by omega)
  have h2 := dig_length_mono (show m ≤ n + m by omega)
  have e : nadd n m = (dig (n + m), 0) := by
    rw [nadd_fit, fit_no ((long_false _).2 (by omega))]
    rw [(long_false _).2 (by omega), (long_false _).2 (by omega)]; rfl
  have := add_any A _ (dig n).length (dig n) B _ (dig m).length (dig m) w hR rfl (Nat.le_refl _) (by omega) hS rfl (Nat.le_refl _) (by omega)
  rw [val_dig, val_dig, e] at this
  exact this.mono fun en w' ⟨g, A1, hg, he, hO, hb⟩ => ⟨_, he, ⟨_, _, rfl, ⟨A1, rfl, hO.rd⟩, rfl⟩, hb⟩
theorem nsub_is (hv : IsT n v w) (hu : IsT m u w) (h : blen n ≤ 500000) (hle : m ≤ n) : Calls Try.prog 105 #[v, u] w (Ans w (Is2 (IsT (n - m)) (IsV (.int .i64 0)))) := by
  obtain ⟨A, rfl, hR⟩ := hv
  obtain ⟨B, rfl, hS⟩ := hu
  have hl := len_of_blen h
  have h1 := dig_length_mono hle
  have h2 := dig_length_mono (show n - m ≤ n by omega)
  have e : nsub n m = (dig (n - m), 0) := by
    rw [nsub_fit (by omega), fit_no ((long_false _).2 (by omega))]
    rw [(long_false _).2 (by omega), (long_false _).2 (by omega)]; rfl
  have := sub_any A _ (dig n).length (dig n) B _ (dig m).length (dig m) w hR rfl (Nat.le_refl _) (by omega) hS rfl (Nat.le_refl _) (by omega)
  rw [val_dig, val_dig, e] at this
  exact this.mono fun en w' ⟨g, A1, hg, he, hO, hb⟩ => ⟨_, he, ⟨_, _, rfl, ⟨A1, rfl, hO.rd⟩, rfl⟩, hb⟩
theorem nshl_is (e : Nat) (hv : IsT n v w) (h : blen n + e ≤ 500000) : Calls Try.prog 102 #[v, .int .i64 (e : Int)] w (Ans w (Is2 (IsT (n * 2 ^ e)) (IsV (.int .i64 0)))) := by
  obtain ⟨A, rfl, hR⟩ := hv
  have hl := len_of_blen (n := n) (by omega)
  have e1 : nshl n (e : Int) = (dig (n * 2 ^ e), 0) := by
    unfold nshl
    rw [if_neg (by omega), (long_false _).2 (by omega), if_neg (by simp)]
    by_cases h0 : n = 0
    · subst h0; rw [if_pos rfl, Nat.zero_mul, dig_zero]
    · rw [if_neg h0, if_neg (by omega), Int.toNat_natCast]
  have := shl_any A _ (dig n).length (dig n) (e : Int) w hR rfl (Nat.le_refl _) (by omega) (by omega) (by omega)
  rw [val_dig, e1] at this
  exact this.mono fun en w' ⟨g, A1, hg, he, hO, hb⟩ => ⟨_, he, ⟨_, _, rfl, ⟨A1, rfl, hO.rd⟩, rfl⟩, hb⟩
theorem nshr_is (e : Nat) (hv : IsT n v w) (h : blen n ≤ 500000) (he : e ≤ 500000) : Calls Try.prog 129 #[v, .int .i64 (e : Int)] w (Ans w (Is3 (IsT (n / 2 ^ e)) (IsV (.bool (decide (n % 2 ^ e ≠ 0)))) (IsV (.int .i64 0)))) := by
  obtain ⟨A, rfl, hR⟩ := hv
  have hl := len_of_blen (n := n) (by omega)
  have e1 : nshr n (e : Int) = (dig (n / 2 ^ e), decide (n % 2 ^ e ≠ 0), 0) := by
    unfold nshr
    rw [if_neg (by omega), (long_false _).2 (by omega), if_neg (by simp), Int.toNat_natCast]
  have := shr_any A _ (dig n).length (dig n) (e : Int) w hR rfl (Nat.le_refl _) (by omega) (by omega) (by omega) (by omega)
  rw [val_dig, e1] at this
  exact this.mono fun en w' ⟨g, A1, hg, he, hO, hb⟩ => ⟨_, he, ⟨_, _, _, rfl, ⟨A1, rfl, hO.rd⟩, rfl, rfl⟩, hb⟩
theorem nsmall_is (n : Nat) (h : n < 18446744073709551616) : Calls Try.prog 106 #[.int .u64 (n : Int)] w (Ans w (IsT n)) := by
  have := small_any (n : Int) w (by omega) (by omega)
  rw [Int.toNat_natCast] at this
  exact this.mono fun en w' ⟨g, A1, hg, he, hO, hb⟩ => ⟨_, he, ⟨A1, rfl, hO.rd⟩, hb⟩
theorem nword_is (hv : IsT n v w) (h : n < 18446744073709551616) : Calls Try.prog 130 #[v] w (Ans w (IsV (.tuple #[.int .u64 (n : Int), .bool true]))) := by
  obtain ⟨A, rfl, hR⟩ := hv
  have hl : (dig n).length ≤ 2 := dig_length_le.2 (by omega)
  have := word_any A _ (dig n).length (dig n) w hR rfl (by omega)
  rw [val_dig, if_pos h, decide_eq_true h] at this
  exact ans_drew this
/-- No words: the naught's list. -/
theorem IsT.len (hv : IsT n v w) : ∃ A, v = .slice A (dig n).length (dig n).length := by
  obtain ⟨A, rfl, _⟩ := hv; exact ⟨A, rfl⟩

/-- Whatever of answers for 0. -/
theorem of_zero (s : Bool) (e : Int) (hv : IsT 0 v w) : Calls Try.prog 107 #[.int .i64 1, .bool s, v, .int .i64 e, .bool false] w (Ans w (IsV (.float .f64 0))) := by
  have HL := Lib.hid (nlen_is hv (by rw [blen_zero]; omega))
  rw [blen_zero] at HL
  clear hv
  go_enter Try.func107, Try.ntmps107
  go_wp2_with fail
  refine (HL.out).mono ?_
  rintro en w1 ⟨_, rfl, rfl, hb⟩
  go_wp2
  go_ret
  exact ⟨_, rfl, rfl, hb⟩
set_option maxHeartbeats 1000000 in
theorem of_beyond (s : Bool) (e : Int) (hv : IsT n v w) (hn : n ≠ 0) (h : blen n ≤ 500000) (h1 : -1074 ≤ e) (h2 : e ≤ 500000) (ho : 1023 < (blen n : Int) - 1 + e) :
    Calls Try.prog 107 #[.int .i64 1, .bool s, v, .int .i64 e, .bool false] w (Ans w (IsV (.float .f64 (if s then 18442240474082181119 else 9218868437227405312)))) := by
  have HL := Lib.hid (nlen_is hv h)
  have HB := Lib.hid (fun W => beyond_up s W)
  have hp := blen_pos hn
  obtain ⟨R, hR⟩ : ∃ R, (if s then 18442240474082181119 else 9218868437227405312) = R := ⟨_, rfl⟩
  rw [hR] at HB ⊢
  obtain ⟨b, hb⟩ : ∃ b, blen n = b := ⟨_, rfl⟩
  rw [hb] at HL ho h hp
  have e0 : ((b : Int) == 0) = false := by simp; omega
  have e1 : decide (1023 < (b : Int) - 1 + e) = true := decide_eq_true ho
  clear hv hR hb hn
  go_enter Try.func107, Try.ntmps107
  go_wp2_with fail
  refine (HL.out).mono ?_
  rintro en w1 ⟨_, rfl, rfl, hb⟩
  go_wp2_with fail
  refine (HB.out _).mono ?_
  rintro en w2 ⟨rfl, rfl⟩
  go_wp2
  go_ret
  exact ⟨_, rfl, rfl, hb⟩
set_option maxHeartbeats 2000000 in
theorem of_walk (s : Bool) (e : Int) (k : Nat) (hv : IsT n v w) (hn : n ≠ 0) (h : blen n ≤ 500000) (h1 : -1074 ≤ e) (h2 : e ≤ 500000) (hi : (blen n : Int) - 1 + e ≤ 1023) (hl : -1022 ≤ (blen n : Int) - 1 + e) (hk : (k : Int) = (blen n : Int) - 53 + e + 1074)
    (hW : ofW n < 18446744073709551614) (hk2 : k ≤ 2045) (s1 : 4503599627370496 ≤ ofS s n) (s2 : ofS s n ≤ 9007199254740992) :
    Calls Try.prog 107 #[.int .i64 1, .bool s, v, .int .i64 e, .bool false] w (Ans w (IsV (.float .f64 (if s then 9223372036854775808 + (k * 4503599627370496 + ofS s n) else k * 4503599627370496 + ofS s n)))) := by
  have HL := Lib.hid (nlen_is hv h)
  have hp := blen_pos hn
  have HV := Lib.hid hv
  obtain ⟨b, hb⟩ : ∃ b, blen n = b := ⟨_, rfl⟩
  have Hsr : Hid (∀ (c : Nat) (i : Int) (hi : i = c) W, IsT n v W → c ≤ 500000 → Calls Try.prog 129 #[v, .int .i64 i] W (Ans W (Is3 (IsT (n / 2 ^ c)) (IsV (.bool (decide (n % 2 ^ c ≠ 0)))) (IsV (.int .i64 0))))) :=
    Lib.hid (fun c i hi W hu hc => by subst hi; exact nshr_is c hu h hc)
  have Hsl : Hid (∀ (c : Nat) (i : Int) (hi : i = c) W, IsT n v W → blen n + c ≤ 500000 → Calls Try.prog 102 #[v, .int .i64 i] W (Ans W (Is2 (IsT (n * 2 ^ c)) (IsV (.int .i64 0))))) :=
    Lib.hid (fun c i hi W hu hc => by subst hi; exact nshl_is c hu hc)
  have hofL : ofL n = decide (55 < b ∧ n % 2 ^ (b - 55) ≠ 0) := by rw [← hb]; rfl
  have hofW : ofW n = if 55 < b then n / 2 ^ (b - 55) else n * 2 ^ (55 - b) := by rw [← hb]; rfl
  have hofS : ofS s n = if ofV n % 4 ≠ 0 ∧ s = false then ofV n / 4 + 1 else ofV n / 4 := rfl
  have hofV : ofV n = if ofL n then ofW n ||| 1 else ofW n := rfl
  rw [hb] at HL hi hl hk h hp Hsl
  obtain ⟨S, hS⟩ : ∃ S, ofS s n = S := ⟨_, rfl⟩
  obtain ⟨L, hL⟩ : ∃ S, ofL n = S := ⟨_, rfl⟩
  obtain ⟨V, hVe⟩ : ∃ S, ofV n = S := ⟨_, rfl⟩
  obtain ⟨x, hx⟩ : ∃ S, ofW n = S := ⟨_, rfl⟩
  have HX : ∀ W u, IsT x u W → IsT (ofW n) u W := fun W u hu => by rw [hx]; exact hu
  rw [hS] at s1 s2 ⊢
  have HS := Lib.hid hS; have HLq := Lib.hid hL; have HVq := Lib.hid hVe; have Hx := Lib.hid hx; have H1 := Lib.hid hofL; have H2 := Lib.hid hofW; have H3 := Lib.hid hofS; have H4 := Lib.hid hofV
  obtain ⟨R, hR⟩ : ∃ R, (if s then 9223372036854775808 + (k * 4503599627370496 + S) else k * 4503599627370496 + S) = R := ⟨_, rfl⟩
  rw [hR]
  have HR := Lib.hid hR
  have G1 := Lib.hid s1; have G2 := Lib.hid s2; have G3 := Lib.hid hW; have G4 := Lib.hid hk2
  clear s1 s2 hW hk2 hv hn hb hS hL hVe hx HX hofL hofW hofS hofV hR
  have e0 : ((b : Int) == 0) = false := by simp; omega
  have e1 : decide (1023 < (b : Int) - 1 + e) = false := decide_eq_false (by omega)
  have hmx : -1074 ≤ (b : Int) - 53 + e := by omega
  have HK := Lib.hid hk
  clear hk
  go_enter Try.func107, Try.ntmps107
  go_wp2_with fail
  refine (HL.out).mono ?_
  rintro en w1 ⟨_, rfl, rfl, hb⟩
  have HB := Lib.hid hb
  clear hb
  go_upto_if 44 with fail
  go_cut [14, 15] from 44 to 58 (fun s14 s15 wx => IsT (ofW n) s14 wx ∧ s15 = .bool (ofL n) ∧ Below w.heap.size w wx)
  case first =>
    have hv1 := Lib.hid (IsT.mono _ _ _ _ HB.out HV.out)
    by_cases c : 55 < b
    · have c1 : decide (e < (b : Int) - 53 + e - 2) = true := decide_eq_true (by omega)
      go_wp2_with fail
      refine (Hsr.out (b - 55) _ (by omega) _ hv1.out (by omega)).mono ?_
      rintro en w2 ⟨_, rfl, ⟨_, _, _, rfl, h1, rfl, rfl⟩, hb⟩
      have HB2 := Lib.hid (HB.out.trans (hb.mono HB.out.size))
      have H5 := Lib.hid h1
      clear hb h1
      go_wp2_with fail
      go_meet
      case rel => exact ⟨by rw [H2.out, if_pos c]; exact H5.out, by rw [H1.out]; simp [c], HB2.out⟩
    · have c1 : decide (e < (b : Int) - 53 + e - 2) = false := decide_eq_false (by omega)
      go_wp2_with fail
      refine (Hsl.out (55 - b) _ (by omega) _ hv1.out (by omega)).mono ?_
      rintro en w2 ⟨_, rfl, ⟨_, _, rfl, h1, rfl⟩, hb⟩
      have HB2 := Lib.hid (HB.out.trans (hb.mono HB.out.size))
      have H5 := Lib.hid h1
      clear hb h1
      go_wp2_with fail
      go_meet
      case rel => exact ⟨by rw [H2.out, if_neg c]; exact H5.out, by rw [H1.out]; simp [c], HB2.out⟩
  case rest =>
    obtain ⟨hw, rfl, hb⟩ := hcut
    have HB2 := Lib.hid hb
    have HW := Lib.hid hw
    clear hb hw
    have Hw := Lib.hid (nword_is HW.out (by have := G3.out; omega))
    obtain ⟨X, hX⟩ : ∃ X, ofW n = X := ⟨_, rfl⟩
    obtain ⟨L', hL'⟩ : ∃ X, ofL n = X := ⟨_, rfl⟩
    rw [hX] at Hw
    rw [hL']
    have HX := Lib.hid hX; have HL' := Lib.hid hL'
    clear hX hL'
    have ho : Hid (bits BinOp.or .u64 (X : Int) 1 = ((X ||| 1 : Nat) : Int)) := Lib.hid (Go.u64_or_nat X 1 (by have := G3.out; rw [HX.out] at this; omega) (by omega))
    go_wp2_with fail
    refine (Hw.out).mono ?_
    rintro en w2 ⟨_, rfl, rfl, hb⟩
    have HB3 := Lib.hid (HB2.out.trans (hb.mono HB2.out.size))
    clear hb
    go_upto_region 13 with fail
    go_cut [67] from 64 to 66 (fun s67 wx => s67 = .bool L' ∧ wx = w2)
    case first =>
      cases L'
      · go_wp2_with fail
        go_meet
        case rel => exact ⟨rfl, rfl⟩
      · go_wp2_with fail
        go_meet
        case rel => exact ⟨rfl, rfl⟩
    obtain ⟨rfl, rfl⟩ := hcut
    go_upto_if 67 with fail
    go_cut [16] from 67 to 69 (fun s16 wx => s16 = .int .u64 (ofV n : Nat) ∧ wx = wc)
    case first =>
      cases L'
      · go_wp2_with fail
        go_meet
        case rel => exact ⟨by rw [H4.out, HL'.out, HX.out]; simp, rfl⟩
      · go_wp2_with fail
        go_meet
        case rel => exact ⟨by rw [H4.out, HL'.out, HX.out, ho.out]; simp, rfl⟩
    case rest =>
      obtain ⟨rfl, rfl⟩ := hcut
      obtain ⟨Y, hY⟩ : ∃ X, ofV n = X := ⟨_, rfl⟩
      rw [hY]
      obtain ⟨r, hr⟩ : ∃ r, Y % 4 = r := ⟨_, rfl⟩
      obtain ⟨q, hq⟩ : ∃ r, Y / 4 = r := ⟨_, rfl⟩
      have HSq : Hid (S = if r ≠ 0 ∧ s = false then q + 1 else q) := Lib.hid (by rw [← HS.out, H3.out, hY, hr, hq])
      have hYb : Y < 18446744073709551616 := by
        have h1 := H4.out; have h2 := G3.out
        rw [hY] at h1
        have h3 := (or_one (ofW n)).2.2
        rw [h1]; split <;> omega
      have ha : bits BinOp.and .u64 (Y : Int) 3 = (r : Int) := by
        have := Go.u64_and_nat Y 3 hYb (by omega)
        rw [Go.nat_mask2, hr] at this
        exact this
      have hq4 : (Y : Int) / 4 = (q : Int) := by omega
      have hq5 : q < 9007199254740992000 := by omega
      clear hY hr hq hYb
      obtain ⟨t, ht⟩ : ∃ t : Bool, (decide (0 < r) && !s) = t := ⟨_, rfl⟩
      have HT := Lib.hid ht
      clear ht
      go_upto_region 17 with fail
      go_cut [88] from 81 to 87 (fun s88 wx => s88 = .bool t ∧ wx = wc)
      case first =>
        by_cases c : 0 < r
        · have c1 : decide (0 < (r : Int)) = true := decide_eq_true (by omega)
          cases s
          · have ht := HT.out
            rw [decide_eq_true c] at ht
            go_wp2_with fail
            go_meet
            case rel => exact ⟨by rw [← ht]; rfl, rfl⟩
          · have ht := HT.out
            rw [decide_eq_true c] at ht
            go_wp2_with fail
            go_meet
            case rel => exact ⟨by rw [← ht]; rfl, rfl⟩
        · have c1 : decide (0 < (r : Int)) = false := decide_eq_false (by omega)
          have ht := HT.out
          rw [decide_eq_false c] at ht
          go_wp2_with fail
          go_meet
          case rel => exact ⟨by rw [← ht]; rfl, rfl⟩
      obtain ⟨rfl, rfl⟩ := hcut
      have Hq5 := Lib.hid hq5
      obtain ⟨Z, hZ⟩ : ∃ Z, k * 4503599627370496 + S = Z := ⟨_, rfl⟩
      have hZ1 : 0 < Z ∧ Z < 9223372036854775808 := by have := G1.out; have := G2.out; have := G4.out; omega
      have HLd : Hid (∀ W (f : Int) (x : Int), f = (S : Int) → x = (k : Int) - 1074 → Calls Try.prog 131 #[.float .f64 (floatOfInt FloatKind.f64 f), .int .i64 x] W fun e w' => e = .returned (.float .f64 Z) ∧ W = w') := by
        refine Lib.hid (fun W f x hf hx => ?_)
        subst hf hx
        have := ldexp_pat k S G1.out G2.out G4.out W
        rw [← int_pat G1.out G2.out, hZ] at this
        exact this
      have hR' := HR.out
      rw [hZ] at hR'
      have HR2 := Lib.hid hR'
      have o1 : (FloatKind.f64.format.order Z 0 == some .eq) = false := (o_isz (by omega)).trans (decide_eq_false (by omega))
      have o2 : (FloatKind.f64.format.order Z 0 != some .eq) = true := by
        show (!(FloatKind.f64.format.order Z 0 == some .eq)) = true
        rw [o1]; rfl
      have hng : ∀ W : World, (Op.unary .neg (.float .f64 Z)).run Try.prog W = .ok (.float .f64 (9223372036854775808 + Z)) W := fun W => by
        have := run_neg_f Z (by omega) W
        rw [this]; unfold fneg; rw [if_neg (by omega), Nat.add_comm]
      have hSq := HSq.out
      have ht2 := HT.out
      have hs0 : (t = true ∧ s = false ∧ S = q + 1) ∨ (t = false ∧ S = q) := by
        cases s
        · by_cases c : 0 < r
          · rw [decide_eq_true c] at ht2
            exact .inl ⟨ht2.symm, rfl, by rw [hSq, if_pos ⟨by omega, rfl⟩]⟩
          · rw [decide_eq_false c] at ht2
            exact .inr ⟨ht2.symm, by rw [hSq, if_neg (by omega)]⟩
        · exact .inr ⟨by rw [← ht2, Bool.not_true, Bool.and_false], by rw [hSq, if_neg (by simp)]⟩
      obtain ⟨D, hD⟩ : ∃ D, 9223372036854775808 + Z = D := ⟨_, rfl⟩
      rw [hD] at hng hR'
      have HR3 := Lib.hid hR'
      have Hs0 := Lib.hid hs0
      clear hs0 ht2 hSq hR' hZ1 hZ hD
      rcases Hs0.out with ⟨rfl, rfl, hs⟩ | ⟨rfl, hs⟩
      · have Hs := Lib.hid hs
        clear hs
        go_wp2_with fail
        refine (HLd.out _ _ _ (by have := Hs.out; omega) (by have := HK.out; omega)).mono ?_
        rintro en w3 ⟨rfl, rfl⟩
        go_wp2
        go_ret
        exact ⟨_, rfl, by rw [← HR3.out]; rfl, HB3.out⟩
      · have Hs := Lib.hid hs
        clear hs
        go_wp2_with fail
        refine (HLd.out _ _ _ (by have := Hs.out; omega) (by have := HK.out; omega)).mono ?_
        rintro en w3 ⟨rfl, rfl⟩
        cases s
        · go_wp2
          go_ret
          exact ⟨_, rfl, by rw [← HR3.out]; rfl, HB3.out⟩
        · go_wp2
          go_ret
          exact ⟨_, rfl, by rw [← HR3.out]; rfl, HB3.out⟩

/-- What of answers upward. -/
theorem of_is (s : Bool) (e : Int) (hv : IsT n v w) (h : blen n ≤ 400000) (h1 : -1074 ≤ e) (h2 : e ≤ 400000) (hl : n = 0 ∨ -1022 ≤ (blen n : Int) - 1 + e) :
    Calls Try.prog 107 #[.int .i64 1, .bool s, v, .int .i64 e, .bool false] w (Ans w (IsV (.float .f64 (upz (dval s n e))))) := by
  by_cases hn : n = 0
  · subst hn
    have e0 : upz (dval s 0 e) = 0 := by
      have : dval s 0 e = 0 := by unfold dval; rw [Nat.zero_mul]; cases s <;> rfl
      rw [this]; decide
    rw [e0]
    exact of_zero s e hv
  · rcases hl with hl | hl
    · exact absurd hl hn
    · by_cases ho : 1023 < (blen n : Int) - 1 + e
      · rw [of_over s n e hn h1 ho]
        exact of_beyond s e hv hn (by omega) h1 (by omega) ho
      · obtain ⟨k, hk⟩ : ∃ k : Nat, (k : Int) = (blen n : Int) - 53 + e + 1074 := ⟨((blen n : Int) - 53 + e + 1074).toNat, by omega⟩
        obtain ⟨a1, a2, a3, a4, a5⟩ := of_up s n e hn h1 (by omega) hl k hk
        rw [a1]
        have hp : k * 4503599627370496 + ofS s n ≠ 0 := by omega
        have hW : ofW n < 18446744073709551614 := by
          have hb := (of_in n e hn h1 (by omega) hl k hk).2.1
          have hv' : ofV n = if ofL n then ofW n ||| 1 else ofW n := rfl
          have h3 := (or_one (ofW n)).1
          rw [hv'] at hb
          split at hb
          · rw [h3] at hb; omega
          · omega
        unfold fpat
        rw [if_neg hp]
        exact of_walk s e k hv hn (by omega) h1 (by omega) (by omega) hl hk hW a5 a3 a4
end Go.Proofs.Ytmmbbkeefphaiaa
