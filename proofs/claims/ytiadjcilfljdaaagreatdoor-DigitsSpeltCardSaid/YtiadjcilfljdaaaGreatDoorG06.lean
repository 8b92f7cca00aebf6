/- Contracts of nat: up, Shl. -/
import Derived.Test.YtiadjcilfljdaaaGreatDoorG04
import Derived.Test.YtiadjcilfljdaaaGreatDoorG02
import Derived.Test.YtiadjcilfljdaaaGreatDoorG05
import Derived.Laws.FloatBits
section
namespace Go.Proofs.YtiadjcilfljdaaaGreatDoor
set_option linter.unusedVariables false
set_option linter.unusedSimpArgs false
open Go.RowKit Verge

set_option maxHeartbeats 1000000 in
/-- nat.up. -/
theorem up_any (A : Option Addr) (n c : Nat) (X : List Nat) (e : Nat) (w : World) (h : Rd w A X) (hn : X.length = n) (hm : e / 32 + n + 1 ≤ 70368744177663) :
    Calls Tryz.prog 77 #[.slice A n c, .int .i64 (e : Int)] w fun e' w' => ∃ A1, e' = .returned (.slice A1 (dig (val X * 2 ^ e)).length (dig (val X * 2 ^ e)).length) ∧
      Own w' w.heap.size A1 (dig (val X * 2 ^ e)) ∧ Below w.heap.size w w' := by
  obtain ⟨k, hk⟩ : ∃ k, e / 32 = k := ⟨_, rfl⟩
  obtain ⟨r, hr⟩ : ∃ r, e % 32 = r := ⟨_, rfl⟩
  have hkI : (e : Int) / 32 = (k : Int) := by omega
  have hrI : (e : Int) % 32 = (r : Int) := by omega
  have hr32 : r < 32 := by omega
  rw [hk] at hm
  have hmk : ∀ W : World, (Instr.makeSlice 50 (.int .i64 (k : Int)) (.int .i64 ((k : Int) + (n : Int) + 1))).run Tryz.prog W = .ok (.slice (some ⟨W.heap.size, 0, none⟩) k (k + n + 1)) (W.alloc (.cells (u32s (List.replicate (k + n + 1) 0)).toArray 73)) := fun W => by
    have := run_make_u32c k (k + n + 1) (by omega) (by omega) W
    exact this
  have hS := fun W hW => shift_any A n c X r W hW hn (by omega) hr32
  have HS := Lib.hid hS
  have HR := Lib.hid (fun o => (h.keep (fun b o' hb => World.cell?_alloc_lt w o _ hb) : Rd (w.alloc o) A X))
  have HE := Lib.hid (And.intro hk hr)
  have he : e ≤ 9223372036854775807 := by omega
  clear hS hk hr h
  go_enter Tryz.func77, Tryz.ntmps77
  go_wp2_with fail
  refine (HS.out _ (HR.out _)).mono ?_
  rintro e' w2 ⟨rfl, S, hB, hl, hv, hb⟩
  have hS2 : Blk w2 (w.heap.size + 1) S := by simpa using hB
  have hZ : Blk w2 w.heap.size (List.replicate (k + n + 1) 0) := (Blk.made w (k + n + 1)).later hb
  have hb2 : Below w.heap.size w w2 := ((Below.refl _ w).alloc (Nat.le_refl _) _).trans (hb.mono (by simp))
  have H2 := Lib.hid (And.intro hS2 (And.intro hl (And.intro hv hZ)))
  clear hB hl hv hS2 hZ hb hkI hrI
  go_wp2_with (refine wpList_append_u32 rfl (.tmp 15) (.tmp 19) rfl w.heap.size k (k + n + 1) (w.heap.size + 1) (n + 1) (n + 1) S _ rfl rfl H2.out.2.2.2 (by simp) H2.out.1 H2.out.2.1 (by omega) ?_; intro w3 hB3 hG3)
  obtain ⟨u1, u2⟩ := up_row S k n r (val X) e H2.out.2.1 H2.out.2.2.1 HE.out.1 HE.out.2
  have hb3 : Below w.heap.size w w3 := hb2.grown hG3 hb2.size (by intro q hq; injection hq; omega)
  obtain ⟨T, hT⟩ : ∃ T, (List.replicate (k + n + 1) 0).take k ++ S ++ (List.replicate (k + n + 1) 0).drop (k + (n + 1)) = T := ⟨_, rfl⟩
  rw [hT] at hB3 u1 u2
  have ho := hB3.own (wl T) (wl_le T)
  rw [show T.take (wl T) = dig (val T) from (dig_val hB3.1).symm, u2] at ho
  have hc := cut_any (some ⟨w.heap.size, 0, none⟩) (k + (n + 1)) (k + n + 1) T w3 hB3.rd u1 (by omega) (by omega)
  rw [wl_eq hB3.1, u2] at hc
  have HC := Lib.hid hc
  have HO := Lib.hid ho
  clear ho hc u1 u2 hT hB3 hG3
  refine HC.out.mono ?_
  rintro e' w' ⟨rfl, rfl⟩
  go_wp2
  go_ret
  exact ⟨_, rfl, HO.out, hb3⟩

set_option maxHeartbeats 1000000 in
/-- nat.Shl. -/
theorem shl_any (A : Option Addr) (n c : Nat) (xs : List Nat) (e : Int) (w : World) (h : Rd w A xs) (hn : xs.length = n) (hc : n ≤ c) (hm : n ≤ 70368744177663) (he0 : -9223372036854775808 ≤ e) (he1 : e ≤ 9223372036854775807) :
    Calls Tryz.prog 46 #[.slice A n c, .int .i64 e] w fun e' w' => ∃ g A1, w.heap.size ≤ g ∧
      e' = .returned (.tuple #[.slice A1 (nshl (val xs) e).1.length (nshl (val xs) e).1.length, .int .i64 (nshl (val xs) e).2]) ∧
      Own w' g A1 (nshl (val xs) e).1 ∧ Below w.heap.size w w' := by
  by_cases hneg : e < 0
  · have hr : nshl (val xs) e = ([], 1) := by simp only [nshl, hneg, if_true]
    rw [hr]
    clear hr
    go_enter Tryz.func46, Tryz.ntmps46
    go_wp2
    go_ret2
    exact ⟨w.heap.size, none, by omega, rfl, Own.nil _ _ _, Below.refl _ w⟩
  · have hle := wl_le xs
    have cut1 := fun W => run_cut_h W A n c (wl xs) (by omega)
    have HX := Lib.hid (fun W hW => words_any A n c xs W hW hn (by omega))
    have hV1 := (show (xs.take (wl xs)).length = wl xs from length_norm xs)
    have hV2 := (show val (xs.take (wl xs)) = val xs from val_norm xs)
    have hL := long1_any (w.heap.size) A (wl xs) c (xs.take (wl xs))
    rw [hV2] at hL
    have HL := Lib.hid hL
    have HT := Lib.hid (fun (o : Obj) => (h.keep (fun b o' hb => World.cell?_alloc_lt w o _ hb) : Rd (w.alloc o) A xs))
    have HB := Lib.hid (fun (o : Obj) => ((Below.refl _ w).alloc (Nat.le_refl _) o : Below w.heap.size w (w.alloc o)))
    have HV := Lib.hid (And.intro hV1 (And.intro hV2 h))
    have hN : wl xs ≤ 70368744177663 := by omega
    by_cases hlong : long (val xs) = true
    · have hr : nshl (val xs) e = ([], 2) := by simp only [nshl, hneg, hlong, if_true, if_false]
      rw [hr]
      clear hr hn hL hV1 hV2 hle h
      go_enter Tryz.func46, Tryz.ntmps46
      go_wp2_with (first
        | (go_at_call 63; refine (HX.out _ HV.out.2.2).mono ?_; rintro e' w' ⟨rfl, rfl⟩)
        | (go_at_call 64; refine (HL.out _ ((HT.out _).take _) HV.out.1 (by omega) (by simp [World.cell?_alloc_new])).mono ?_; rintro e' w' ⟨rfl, rfl⟩))
      go_ret2
      exact ⟨w.heap.size, none, by omega, rfl, Own.nil _ _ _, HB.out _⟩
    · have hlong' : long (val xs) = false := by simpa using hlong
      have hwl : wl xs ≤ 16384 := by rw [wl_eq h.1]; exact (long_false _).1 hlong'
      rcases Nat.eq_zero_or_pos (wl xs) with h0 | h0
      · have hv0 := (val_eq_zero_iff xs).2 h0
        have hr : nshl (val xs) e = ([], 0) := by simp only [nshl, hneg, hlong', hv0]; simp [hlong', ← hv0]
        rw [hr]
        have hb0 : ((wl xs : Int) == 0) = true := by simp [h0]
        clear hr hn hL hV1 hV2 hle h h0 hv0
        go_enter Tryz.func46, Tryz.ntmps46
        go_wp2_with (first
          | (go_at_call 63; refine (HX.out _ HV.out.2.2).mono ?_; rintro e' w' ⟨rfl, rfl⟩)
          | (go_at_call 64; refine (HL.out _ ((HT.out _).take _) HV.out.1 (by omega) (by simp [World.cell?_alloc_new])).mono ?_; rintro e' w' ⟨rfl, rfl⟩))
        go_ret2
        exact ⟨w.heap.size, none, by omega, rfl, Own.nil _ _ _, HB.out _⟩
      · have hv0 := pos_of_wl h0
        have hb0 : ((wl xs : Int) == 0) = false := by simp; omega
        have hN1 := fun W hW => len_any A (wl xs) c (xs.take (wl xs)) W hW hV1 (by omega)
        rw [hV2] at hN1
        have HN1 := Lib.hid hN1
        have hbl : blen (val xs) ≤ 524288 := blen_le_words ((long_false _).1 hlong')
        by_cases hbig : 524288 - (blen (val xs) : Int) < e
        · have hr : nshl (val xs) e = ([], 2) := by simp [nshl, hneg, hlong', hv0, hbig]
          rw [hr]
          clear hr hn hL hV1 hV2 hle h h0 hv0 hN1
          go_enter Tryz.func46, Tryz.ntmps46
          go_wp2_with (first
            | (go_at_call 63; refine (HX.out _ HV.out.2.2).mono ?_; rintro e' w' ⟨rfl, rfl⟩)
            | (go_at_call 64; refine (HL.out _ ((HT.out _).take _) HV.out.1 (by omega) (by simp [World.cell?_alloc_new])).mono ?_; rintro e' w' ⟨rfl, rfl⟩)
            | (go_at_call 55; refine (HN1.out _ ((HT.out _).take _)).mono ?_; rintro e' w' ⟨rfl, rfl⟩))
          go_ret2
          exact ⟨w.heap.size, none, by omega, rfl, Own.nil _ _ _, HB.out _⟩
        · obtain ⟨q, rfl⟩ : ∃ q : Nat, e = q := ⟨e.toNat, by omega⟩
          have hr : nshl (val xs) (q : Int) = (dig (val xs * 2 ^ q), 0) := by simp [nshl, hlong', hv0, hbig]
          rw [hr]
          have hU := fun W hW => up_any A (wl xs) c (xs.take (wl xs)) q W hW hV1 (by omega)
          rw [hV2] at hU
          have HU := Lib.hid hU
          clear hr hn hL hV1 hV2 hle h h0 hv0 hN1 hU
          go_enter Tryz.func46, Tryz.ntmps46
          go_wp2_with (first
            | (go_at_call 63; refine (HX.out _ HV.out.2.2).mono ?_; rintro e' w' ⟨rfl, rfl⟩)
            | (go_at_call 64; refine (HL.out _ ((HT.out _).take _) HV.out.1 (by omega) (by simp [World.cell?_alloc_new])).mono ?_; rintro e' w' ⟨rfl, rfl⟩)
            | (go_at_call 55; refine (HN1.out _ ((HT.out _).take _)).mono ?_; rintro e' w' ⟨rfl, rfl⟩)
            | (go_at_call 77; refine (HU.out _ ((HT.out _).take _)).mono ?_; rintro e' w2 ⟨A1, rfl, ho, hb⟩))
          go_ret2
          exact ⟨_, A1, by simp, rfl, ho, (HB.out _).trans (hb.mono (by simp))⟩
end Go.Proofs.YtiadjcilfljdaaaGreatDoor
end

section
namespace Verge
set_option linter.unusedVariables false
set_option linter.unusedSimpArgs false

/-- A pattern is a NaN. -/
def fnan (x : Nat) : Prop := 9218868437227405312 < x % 9223372036854775808
instance (x : Nat) : Decidable (fnan x) := by unfold fnan; infer_instance
/-- A pattern's place among all that are no NaN; 0 for both zeros. -/
def FK (x : Nat) : Int := if x < 9223372036854775808 then (x : Int) else 9223372036854775808 - (x : Int)
/-- A magnitude in units of the least number. -/
def FV (r : Nat) : Nat := if r < 4503599627370496 then r else (4503599627370496 + r % 4503599627370496) * 2 ^ (r / 4503599627370496 - 1)

theorem FV_lt_succ_binade (r : Nat) : FV r < 4503599627370496 * 2 ^ (r / 4503599627370496) := by
  unfold FV
  split
  · rename_i h
    rw [Nat.div_eq_of_lt h]; omega
  · rename_i h
    obtain ⟨e, he⟩ : ∃ e, r / 4503599627370496 = e + 1 := ⟨r / 4503599627370496 - 1, by omega⟩
    have hm : r % 4503599627370496 < 4503599627370496 := Nat.mod_lt _ (by omega)
    rw [he, Nat.add_sub_cancel, Nat.pow_succ]
    have := Nat.two_pow_pos e
    have h1 : (4503599627370496 + r % 4503599627370496) * 2 ^ e < (2 * 4503599627370496) * 2 ^ e := Nat.mul_lt_mul_of_pos_right (by omega) this
    have h2 : (2 * 4503599627370496) * 2 ^ e = 4503599627370496 * (2 ^ e * 2) := by grind
    omega
theorem FV_ge_binade (r : Nat) (h : 4503599627370496 ≤ r) : 4503599627370496 * 2 ^ (r / 4503599627370496 - 1) ≤ FV r := by
  unfold FV
  rw [if_neg (by omega)]
  exact Nat.mul_le_mul_right _ (by omega)
theorem FV_lt {r s : Nat} (h : r < s) : FV r < FV s := by
  have hd : r / 4503599627370496 ≤ s / 4503599627370496 := Nat.div_le_div_right (by omega)
  rcases Nat.eq_or_lt_of_le hd with he | he
  · unfold FV
    by_cases hr : r < 4503599627370496
    · have : s < 4503599627370496 := by rw [Nat.div_eq_of_lt hr] at he; omega
      rw [if_pos hr, if_pos this]; exact h
    · have : ¬ s < 4503599627370496 := by omega
      rw [if_neg hr, if_neg this, he]
      refine Nat.mul_lt_mul_of_pos_right ?_ (Nat.two_pow_pos _)
      have a := Nat.div_add_mod r 4503599627370496
      have b := Nat.div_add_mod s 4503599627370496
      rw [he] at a
      omega
  · have h1 := FV_lt_succ_binade r
    have h2 := FV_ge_binade s (by omega)
    have h3 : 2 ^ (r / 4503599627370496) ≤ 2 ^ (s / 4503599627370496 - 1) := Nat.pow_le_pow_right (by omega) (by omega)
    have h4 := Nat.mul_le_mul_left 4503599627370496 h3
    omega
theorem FV_inj {r s : Nat} (h : FV r = FV s) : r = s := by
  rcases Nat.lt_trichotomy r s with h1 | h1 | h1
  · have := FV_lt h1; omega
  · exact h1
  · have := FV_lt h1; omega
theorem FV_lt_iff {r s : Nat} : FV r < FV s ↔ r < s := by
  constructor
  · intro h
    rcases Nat.lt_or_ge r s with h1 | h1
    · exact h1
    · rcases Nat.eq_or_lt_of_le h1 with h2 | h2
      · subst h2; omega
      · have := FV_lt h2; omega
  · exact FV_lt
theorem FV_zero : FV 0 = 0 := rfl

theorem compare_congr {a b c d : Int} (hl : a < b ↔ c < d) (he : a = b ↔ c = d) : compare a b = compare c d := by
  show compareOfLessAndEq a b = compareOfLessAndEq c d
  unfold compareOfLessAndEq
  by_cases h1 : a < b
  · rw [if_pos h1, if_pos (hl.1 h1)]
  · rw [if_neg h1, if_neg (fun h => h1 (hl.2 h))]
    by_cases h2 : a = b
    · rw [if_pos h2, if_pos (he.1 h2)]
    · rw [if_neg h2, if_neg (fun h => h2 (he.2 h))]

theorem read_num {x : Nat} (hx : x < 18446744073709551616) (h : x % 9223372036854775808 < 9218868437227405312) :
    ∃ k m, Ieee.double.read x = .number (decide (9223372036854775808 ≤ x)) m (-1074 + (k : Nat)) ∧ m * 2 ^ k = FV (x % 9223372036854775808) := by
  have hs : (x / Ieee.double.signWeight % 2 == 1) = decide (9223372036854775808 ≤ x) := by
    show (x / 9223372036854775808 % 2 == 1) = _
    by_cases h1 : 9223372036854775808 ≤ x
    · have : x / 9223372036854775808 = 1 := by omega
      simp [this, h1]
    · have : x / 9223372036854775808 = 0 := by omega
      simp [this, h1]
  unfold Ieee.Format.read
  simp only [hs]
  show ∃ k m, (if x % 9223372036854775808 < 4503599627370496 then Ieee.Datum.number (decide (9223372036854775808 ≤ x)) (x % 9223372036854775808) (-1074) else if x % 9223372036854775808 < 9218868437227405312 then
    Ieee.Datum.number (decide (9223372036854775808 ≤ x)) (4503599627370496 + x % 9223372036854775808 % 4503599627370496) (-1074 + ((x % 9223372036854775808 / 4503599627370496 - 1 : Nat) : Int)) else _) = _ ∧ _
  by_cases h0 : x % 9223372036854775808 < 4503599627370496
  · rw [if_pos h0]
    exact ⟨0, _, rfl, by unfold FV; rw [if_pos h0]; simp⟩
  · rw [if_neg h0, if_pos h]
    exact ⟨_, _, rfl, by unfold FV; rw [if_neg h0]⟩
theorem read_inf {x : Nat} (hx : x < 18446744073709551616) (h : x % 9223372036854775808 = 9218868437227405312) : Ieee.double.read x = .infinity (decide (9223372036854775808 ≤ x)) := by
  have : x = 9218868437227405312 ∨ x = 18442240474082181120 := by omega
  rcases this with rfl | rfl <;> rfl
theorem read_nan {x : Nat} (hx : x < 18446744073709551616) (h : fnan x) : ∃ s t, Ieee.double.read x = .nan s t := by
  unfold fnan at h
  unfold Ieee.Format.read
  show ∃ s t, (if x % 9223372036854775808 < 4503599627370496 then _ else if x % 9223372036854775808 < 9218868437227405312 then _ else if x % 9223372036854775808 = 9218868437227405312 then _ else Ieee.Datum.nan _ _) = _
  rw [if_neg (by omega), if_neg (by omega), if_neg (by omega)]
  exact ⟨_, _, rfl⟩

theorem FK_neg {x : Nat} (h : 9223372036854775808 ≤ x) (hx : x < 18446744073709551616) : FK x = -((x % 9223372036854775808 : Nat) : Int) := by
  unfold FK; rw [if_neg (by omega)]; omega
theorem FK_pos {x : Nat} (h : ¬ 9223372036854775808 ≤ x) : FK x = ((x % 9223372036854775808 : Nat) : Int) := by
  unfold FK; rw [if_pos (by omega)]; omega

theorem shl_pow (m u : Nat) : m <<< u = m * 2 ^ u := Nat.shiftLeft_eq m u

theorem signed_scale (s : Bool) (m k c : Nat) (hc : c ≤ k) : (2 ^ c : Nat) * Ieee.signed s m (k - c) = if s then -((m * 2 ^ k : Nat) : Int) else ((m * 2 ^ k : Nat) : Int) := by
  have e : 2 ^ c * (m * 2 ^ (k - c)) = m * 2 ^ k := by
    have : 2 ^ k = 2 ^ c * 2 ^ (k - c) := by rw [← Nat.pow_add]; congr 1; omega
    rw [this]; grind
  unfold Ieee.signed
  rw [shl_pow]
  cases s
  · simp only [Bool.false_eq_true, if_false]
    exact_mod_cast e
  · simp only [if_true]
    have : ((2 ^ c * (m * 2 ^ (k - c)) : Nat) : Int) = ((m * 2 ^ k : Nat) : Int) := by rw [e]
    rw [Int.mul_neg]
    push_cast at this ⊢
    omega

theorem FK_val {x : Nat} (hx : x < 18446744073709551616) : (if decide (9223372036854775808 ≤ x) then -((FV (x % 9223372036854775808) : Nat) : Int) else ((FV (x % 9223372036854775808) : Nat) : Int)) = if FK x < 0 then -((FV (FK x).natAbs : Nat) : Int) else ((FV (FK x).natAbs : Nat) : Int) := by
  by_cases h : 9223372036854775808 ≤ x
  · rw [FK_neg h hx]
    rcases Nat.eq_zero_or_pos (x % 9223372036854775808) with h0 | h0
    · rw [h0]; simp [h, FV_zero]
    · have : (-((x % 9223372036854775808 : Nat) : Int)) < 0 := by omega
      rw [if_pos this, Int.natAbs_neg, Int.natAbs_natCast]; simp [h]
  · rw [FK_pos h]
    rw [if_neg (show ¬ (((x % 9223372036854775808 : Nat) : Int)) < 0 by omega), Int.natAbs_natCast]; simp [h]

def SV (k : Int) : Int := if k < 0 then -((FV k.natAbs : Nat) : Int) else ((FV k.natAbs : Nat) : Int)
theorem SV_pos {n : Nat} : SV n = (FV n : Nat) := by simp [SV]; omega
theorem SV_lt {a b : Int} (h : a < b) : SV a < SV b := by
  unfold SV
  by_cases ha : a < 0
  · rw [if_pos ha]
    by_cases hb : b < 0
    · rw [if_pos hb]
      have : b.natAbs < a.natAbs := by omega
      have := FV_lt this
      omega
    · rw [if_neg hb]
      have : 0 < a.natAbs := by omega
      have := FV_lt this
      rw [FV_zero] at this
      omega
  · rw [if_neg ha, if_neg (by omega)]
    have : a.natAbs < b.natAbs := by omega
    have := FV_lt this
    omega
theorem SV_lt_iff {a b : Int} : SV a < SV b ↔ a < b := by
  constructor
  · intro h
    rcases Int.lt_trichotomy a b with h1 | h1 | h1
    · exact h1
    · subst h1; omega
    · have := SV_lt h1; omega
  · exact SV_lt
theorem SV_inj {a b : Int} : SV a = SV b ↔ a = b := by
  constructor
  · intro h
    rcases Int.lt_trichotomy a b with h1 | h1 | h1
    · have := SV_lt h1; omega
    · exact h1
    · have := SV_lt h1; omega
  · intro h; rw [h]

theorem FK_range {x : Nat} (hx : x < 18446744073709551616) (h : ¬ fnan x) : -9218868437227405312 ≤ FK x ∧ FK x ≤ 9218868437227405312 := by
  unfold fnan at h
  by_cases h1 : 9223372036854775808 ≤ x
  · rw [FK_neg h1 hx]; omega
  · rw [FK_pos h1]; omega

/-- The order of two patterns that are no NaN. -/
theorem order_eq {x y : Nat} (hx : x < 18446744073709551616) (hy : y < 18446744073709551616) (nx : ¬ fnan x) (ny : ¬ fnan y) :
    Ieee.double.order x y = some (compare (FK x) (FK y)) := by
  unfold Ieee.Format.order
  have kx := FK_range hx nx
  have ky := FK_range hy ny
  unfold fnan at nx ny
  rcases Nat.eq_or_lt_of_le (Nat.le_of_not_lt nx) with ix | ix
  · rw [read_inf hx ix]
    rcases Nat.eq_or_lt_of_le (Nat.le_of_not_lt ny) with iy | iy
    · rw [read_inf hy iy]
      have hx' : x = 9218868437227405312 ∨ x = 18442240474082181120 := by omega
      have hy' : y = 9218868437227405312 ∨ y = 18442240474082181120 := by omega
      rcases hx' with rfl | rfl <;> rcases hy' with rfl | rfl <;> rfl
    · obtain ⟨l, n, e, _⟩ := read_num hy iy
      rw [e]
      have hx' : x = 9218868437227405312 ∨ x = 18442240474082181120 := by omega
      have hk : -9218868437227405312 < FK y ∧ FK y < 9218868437227405312 := by
        by_cases h1 : 9223372036854775808 ≤ y
        · rw [FK_neg h1 hy]; omega
        · rw [FK_pos h1]; omega
      rcases hx' with rfl | rfl
      · show some Ordering.gt = some (compareOfLessAndEq _ _)
        unfold compareOfLessAndEq
        rw [if_neg (by rw [FK_pos (by omega)]; omega), if_neg (by rw [FK_pos (by omega)]; omega)]
      · show some Ordering.lt = some (compareOfLessAndEq _ _)
        unfold compareOfLessAndEq
        rw [if_pos (by rw [FK_neg (by omega) (by omega)]; omega)]
  · obtain ⟨k, m, ex, vx⟩ := read_num hx ix
    rw [ex]
    have hkx : -9218868437227405312 < FK x ∧ FK x < 9218868437227405312 := by
      by_cases h1 : 9223372036854775808 ≤ x
      · rw [FK_neg h1 hx]; omega
      · rw [FK_pos h1]; omega
    rcases Nat.eq_or_lt_of_le (Nat.le_of_not_lt ny) with iy | iy
    · rw [read_inf hy iy]
      have hy' : y = 9218868437227405312 ∨ y = 18442240474082181120 := by omega
      rcases hy' with rfl | rfl
      · show some Ordering.lt = some (compareOfLessAndEq _ _)
        unfold compareOfLessAndEq
        rw [if_pos (by rw [FK_pos (x := 9218868437227405312) (by omega)]; omega)]
      · show some Ordering.gt = some (compareOfLessAndEq _ _)
        unfold compareOfLessAndEq
        rw [if_neg (by rw [FK_neg (x := 18442240474082181120) (by omega) (by omega)]; omega), if_neg (by rw [FK_neg (x := 18442240474082181120) (by omega) (by omega)]; omega)]
    · obtain ⟨l, n, ey, vy⟩ := read_num hy iy
      rw [ey]
      show some (compare (Ieee.signed _ m _) (Ieee.signed _ n _)) = _
      have h1 : (-1074 + (k : Int) - min (-1074 + (k : Int)) (-1074 + (l : Int))).toNat = k - min k l := by omega
      have h2 : (-1074 + (l : Int) - min (-1074 + (k : Int)) (-1074 + (l : Int))).toNat = l - min k l := by omega
      rw [h1, h2]
      have s1 := signed_scale (decide (9223372036854775808 ≤ x)) m k (min k l) (Nat.min_le_left _ _)
      have s2 := signed_scale (decide (9223372036854775808 ≤ y)) n l (min k l) (Nat.min_le_right _ _)
      rw [vx, FK_val hx] at s1
      rw [vy, FK_val hy] at s2
      have hp : (0 : Int) < ((2 ^ min k l : Nat) : Int) := by exact_mod_cast Nat.two_pow_pos _
      obtain ⟨p, hpe⟩ : ∃ p : Int, ((2 ^ min k l : Nat) : Int) = p := ⟨_, rfl⟩
      rw [hpe] at s1 s2 hp
      obtain ⟨a, ha⟩ : ∃ a, Ieee.signed (decide (9223372036854775808 ≤ x)) m (k - min k l) = a := ⟨_, rfl⟩
      obtain ⟨b, hb⟩ : ∃ b, Ieee.signed (decide (9223372036854775808 ≤ y)) n (l - min k l) = b := ⟨_, rfl⟩
      rw [ha, hb]
      rw [ha] at s1
      rw [hb] at s2
      have s1 : p * a = SV (FK x) := s1
      have s2 : p * b = SV (FK y) := s2
      refine congrArg some (compare_congr ?_ ?_)
      · refine Iff.trans ?_ (SV_lt_iff (a := FK x) (b := FK y))
        rw [← s1, ← s2]
        exact (Int.mul_lt_mul_left hp).symm
      · refine Iff.trans ?_ (SV_inj (a := FK x) (b := FK y))
        rw [← s1, ← s2]
        exact ⟨fun h => by rw [h], fun h => Int.eq_of_mul_eq_mul_left (by omega) h⟩
theorem order_nan {x y : Nat} (hx : x < 18446744073709551616) (hy : y < 18446744073709551616) (h : fnan x ∨ fnan y) : Ieee.double.order x y = none := by
  unfold Ieee.Format.order
  rcases h with h | h
  · obtain ⟨s, t, e⟩ := read_nan hx h
    rw [e]; rfl
  · obtain ⟨s, t, e⟩ := read_nan hy h
    rw [e]
    cases Ieee.double.read x <;> rfl

def fnum (x y : Nat) : Bool := decide (¬ fnan x ∧ ¬ fnan y)
theorem order_cases {x y : Nat} (hx : x < 18446744073709551616) (hy : y < 18446744073709551616) : Ieee.double.order x y = if ¬ fnan x ∧ ¬ fnan y then some (compareOfLessAndEq (FK x) (FK y)) else none := by
  by_cases h : ¬ fnan x ∧ ¬ fnan y
  · rw [if_pos h, order_eq hx hy h.1 h.2]; rfl
  · rw [if_neg h, order_nan hx hy]
    by_cases h1 : fnan x
    · exact .inl h1
    · exact .inr (Classical.not_not.1 fun h2 => h ⟨h1, h2⟩)
theorem cmpLE {a b : Int} : compareOfLessAndEq a b = if a < b then .lt else if a = b then .eq else .gt := rfl
theorem f_lt {x y : Nat} (hx : x < 18446744073709551616) (hy : y < 18446744073709551616) : (Ieee.double.order x y == some .lt) = decide (¬ fnan x ∧ ¬ fnan y ∧ FK x < FK y) := by
  rw [order_cases hx hy, cmpLE]
  by_cases h1 : fnan x <;> by_cases h2 : fnan y <;> by_cases h3 : FK x < FK y <;> by_cases h4 : FK x = FK y <;> simp [h1, h2, h3, h4] <;> first | decide | omega
theorem f_eq {x y : Nat} (hx : x < 18446744073709551616) (hy : y < 18446744073709551616) : (Ieee.double.order x y == some .eq) = decide (¬ fnan x ∧ ¬ fnan y ∧ FK x = FK y) := by
  rw [order_cases hx hy, cmpLE]
  by_cases h1 : fnan x <;> by_cases h2 : fnan y <;> by_cases h3 : FK x < FK y <;> by_cases h4 : FK x = FK y <;> simp [h1, h2, h3, h4] <;> first | decide | omega
theorem f_gt {x y : Nat} (hx : x < 18446744073709551616) (hy : y < 18446744073709551616) : (Ieee.double.order x y == some .gt) = decide (¬ fnan x ∧ ¬ fnan y ∧ FK y < FK x) := by
  rw [order_cases hx hy, cmpLE]
  by_cases h1 : fnan x <;> by_cases h2 : fnan y <;> by_cases h3 : FK x < FK y <;> by_cases h4 : FK x = FK y <;> simp [h1, h2, h3, h4] <;> first | decide | omega
theorem f_le {x y : Nat} (hx : x < 18446744073709551616) (hy : y < 18446744073709551616) : (Ieee.double.order x y == some .lt || Ieee.double.order x y == some .eq) = decide (¬ fnan x ∧ ¬ fnan y ∧ FK x ≤ FK y) := by
  rw [f_lt hx hy, f_eq hx hy]
  by_cases h1 : fnan x <;> by_cases h2 : fnan y <;> by_cases h3 : FK x < FK y <;> by_cases h4 : FK x = FK y <;> simp [h1, h2, h3, h4] <;> omega
theorem f_ge {x y : Nat} (hx : x < 18446744073709551616) (hy : y < 18446744073709551616) : (Ieee.double.order x y == some .gt || Ieee.double.order x y == some .eq) = decide (¬ fnan x ∧ ¬ fnan y ∧ FK y ≤ FK x) := by
  rw [f_gt hx hy, f_eq hx hy]
  by_cases h1 : fnan x <;> by_cases h2 : fnan y <;> by_cases h3 : FK y < FK x <;> by_cases h4 : FK x = FK y <;> simp [h1, h2, h3, h4] <;> omega
theorem f_self {x : Nat} (hx : x < 18446744073709551616) : (Ieee.double.order x x != some .eq) = decide (fnan x) := by
  have := f_eq hx hx
  rw [bne, this]
  by_cases h : fnan x <;> simp [h]
theorem fnan_zero : ¬ fnan 0 := by decide
theorem f_isz {x : Nat} (hx : x < 18446744073709551616) : (Ieee.double.order x 0 == some .eq) = decide (x = 0 ∨ x = 9223372036854775808) := by
  rw [f_eq hx (by omega)]
  have h0 : FK 0 = 0 := rfl
  rw [h0]
  refine decide_eq_decide.2 ?_
  constructor
  · rintro ⟨_, _, h⟩
    by_cases h1 : 9223372036854775808 ≤ x
    · rw [FK_neg h1 hx] at h; omega
    · rw [FK_pos h1] at h; omega
  · rintro (rfl | rfl)
    · exact ⟨by decide, by decide, rfl⟩
    · exact ⟨by decide, by decide, rfl⟩

/-- A pattern with its zero plain, and the one NaN: as vergeref3 says it. -/
def fplain (x : Nat) : Nat := if x = 9223372036854775808 then 0 else if fnan x then 9221120237041090561 else x
/-- The same, a NaN left as it is: the program's. -/
def fz (x : Nat) : Nat := if x = 0 ∨ x = 9223372036854775808 then 0 else x
/-- The order's key of vergeref6. -/
def fkey (x : Nat) : Nat := if 9223372036854775808 ≤ fplain x then 18446744073709551615 - fplain x else fplain x + 9223372036854775808
def fabove (x y : Nat) : Bool := decide (¬ fnan x ∧ ¬ fnan y ∧ FK y < FK x)
/-- Two ends make an interval that is not empty. -/
def fsound (lo hi : Nat) : Bool := decide (¬ fnan lo ∧ ¬ fnan hi ∧ FK lo ≤ FK hi ∧ FK lo < 9218868437227405312 ∧ -9218868437227405312 < FK hi)
def flo (lo hi : Nat) : Nat := if fsound lo hi = true then fz lo else 9218868437227405312
def fhi (lo hi : Nat) : Nat := if fsound lo hi = true then fz hi else 18442240474082181120

theorem fkey_lt {x y : Nat} (hx : x < 18446744073709551616) (hy : y < 18446744073709551616) (nx : ¬ fnan x) (ny : ¬ fnan y) : fkey y < fkey x ↔ FK y < FK x := by
  have kx : fplain x = if x = 9223372036854775808 then 0 else x := by unfold fplain; rw [if_neg nx]
  have ky : fplain y = if y = 9223372036854775808 then 0 else y := by unfold fplain; rw [if_neg ny]
  unfold fkey FK
  rw [kx, ky]
  split <;> split <;> split <;> split <;> (try split) <;> (try split) <;> omega
theorem fplain_lt {x : Nat} (hx : x < 18446744073709551616) : fplain x < 18446744073709551616 := by unfold fplain; split <;> (try split) <;> omega
theorem fz_lt {x : Nat} (hx : x < 18446744073709551616) : fz x < 18446744073709551616 := by unfold fz; split <;> omega
theorem flo_lt {x y : Nat} (hx : x < 18446744073709551616) : flo x y < 18446744073709551616 := by
  unfold flo; split
  · exact fz_lt hx
  · omega
theorem fhi_lt {x y : Nat} (hy : y < 18446744073709551616) : fhi x y < 18446744073709551616 := by
  unfold fhi; split
  · exact fz_lt hy
  · omega
theorem fplain_fz {x : Nat} (n : ¬ fnan x) : fplain x = fz x := by
  unfold fplain fz
  by_cases h : x = 9223372036854775808
  · simp [h]
  · rw [if_neg h, if_neg n]
    by_cases h0 : x = 0
    · simp [h0]
    · rw [if_neg (by omega)]
theorem FK_fz {x : Nat} (hx : x < 18446744073709551616) : FK (fz x) = FK x := by
  unfold fz FK; split
  · rename_i h; rcases h with rfl | rfl <;> rfl
  · rfl
theorem fnan_fz {x : Nat} (n : ¬ fnan x) : ¬ fnan (fz x) := by
  unfold fz; split
  · decide
  · exact n
theorem fnan_flo {x y : Nat} : ¬ fnan (flo x y) := by
  unfold flo; split
  · rename_i h
    exact fnan_fz (of_decide_eq_true h).1
  · decide
theorem fnan_fhi {x y : Nat} : ¬ fnan (fhi x y) := by
  unfold fhi; split
  · rename_i h
    exact fnan_fz (of_decide_eq_true h).2.1
  · decide
theorem andNot_sign (x : Nat) (hx : x < 18446744073709551616) : x &&& (18446744073709551615 - 9223372036854775808) = x % 9223372036854775808 := by
  show x &&& (2 ^ 63 - 1) = x % 2 ^ 63
  exact Nat.and_two_pow_sub_one_eq_mod x 63
theorem or_sign (x : Nat) (hx : x < 9223372036854775808) : x ||| 9223372036854775808 = x + 9223372036854775808 := by
  have := Nat.two_pow_add_eq_or_of_lt (i := 63) (b := x) (by simpa using hx) 1
  rw [Nat.or_comm]
  simp at this
  omega
theorem xor_all (p : Nat) (hp : p < 18446744073709551616) : 18446744073709551615 ^^^ p = 18446744073709551615 - p := by
  refine Nat.eq_of_testBit_eq fun i => ?_
  have h1 : (18446744073709551615 : Nat).testBit i = decide (i < 64) := by
    show (2 ^ 64 - 1).testBit i = _
    exact Nat.testBit_two_pow_sub_one 64 i
  have h2 : (18446744073709551615 - p).testBit i = (decide (i < 64) && !p.testBit i) := by
    have := Nat.testBit_two_pow_sub_succ (n := 64) (x := p) (by simpa using hp) i
    have e : 18446744073709551615 - p = 2 ^ 64 - (p + 1) := by omega
    rw [e]; exact this
  rw [Nat.testBit_xor, h1, h2]
  by_cases hi : i < 64
  · simp [hi]
  · have : p.testBit i = false := Nat.testBit_lt_two_pow (Nat.lt_of_lt_of_le hp (by show 2 ^ 64 ≤ 2 ^ i; exact Nat.pow_le_pow_right (by omega) (by omega)))
    simp [hi, this]
end Verge
end

section
namespace Go.Proofs.YtiadjcilfljdaaaGreatDoor
set_option linter.unusedVariables false
set_option linter.unusedSimpArgs false
open Go.RowKit Verge

theorem from_any (b : Int) (w : World) : (callFunc 39 #[.int .u64 b]).run Tryz.prog w = .ok (.value (.float .f64 b.toNat)) w := by
  rw [run_callFunc_extern (e := Extern.MathFloatBits.float64frombits) Tryz.func39 (by kernel_rfl) (by kernel_rfl) (by kernel_rfl) (by kernel_rfl)]
  rfl
theorem bits_any (b : Nat) (w : World) : (callFunc 81 #[.float .f64 b]).run Tryz.prog w = .ok (.value (.int .u64 (b : Int))) w := by
  rw [run_callFunc_extern (e := Extern.MathFloatBits.float64bits) Tryz.func81 (by kernel_rfl) (by kernel_rfl) (by kernel_rfl) (by kernel_rfl)]
  rfl
/-- A pattern without its sign. -/
def fabs (x : Nat) : Nat := x % 9223372036854775808
theorem abs_any (x : Nat) (hx : x < 18446744073709551616) (w : World) : Calls Tryz.prog 89 #[.float .f64 x] w fun e w' => e = .returned (.float .f64 (fabs x)) ∧ w = w' := by
  have hb : bits .andNot .u64 (x : Int) 9223372036854775808 = ((fabs x : Nat) : Int) := by
    have := Go.u64_andNot_nat x 9223372036854775808 hx (by omega)
    rw [andNot_sign x hx] at this
    exact this
  have h1 := bits_any x
  have h2 := from_any (fabs x : Nat)
  obtain ⟨a, ha⟩ : ∃ a, fabs x = a := ⟨_, rfl⟩
  rw [ha] at hb h2 ⊢
  clear ha
  go_enter Tryz.func89, Tryz.ntmps89
  go_wp2
  go_ret
  exact ⟨rfl, rfl⟩
theorem isnan_any (x : Nat) (hx : x < 18446744073709551616) (w : World) : Calls Tryz.prog 60 #[.float .f64 x] w fun e w' => e = .returned (.bool (decide (fnan x))) ∧ w = w' := by
  have ho : (FloatKind.f64.format.order x x != some .eq) = decide (fnan x) := f_self hx
  go_enter Tryz.func60, Tryz.ntmps60
  go_wp2
  go_ret
  exact ⟨rfl, rfl⟩
theorem gt_max {x : Nat} (hx : x < 18446744073709551616) : (FloatKind.f64.format.order x 9218868437227405311 == some .gt) = decide (x = 9218868437227405312) := by
  refine (f_gt hx (y := 9218868437227405311) (by omega)).trans (decide_eq_decide.2 ?_)
  unfold fnan FK
  constructor
  · rintro ⟨h1, _, h2⟩
    split at h2 <;> split at h2 <;> omega
  · rintro rfl; decide
theorem isinf_0 (x : Nat) (hx : x < 18446744073709551616) (w : World) : Calls Tryz.prog 61 #[.float .f64 x, .int .i64 0] w fun e w' => e = .returned (.bool (decide (fabs x = 9218868437227405312))) ∧ w = w' := by
  have ho := gt_max (x := fabs x) (by unfold fabs; omega)
  have ha := Lib.hid (fun W => abs_any x hx W)
  obtain ⟨a, hae⟩ : ∃ a, fabs x = a := ⟨_, rfl⟩
  rw [hae] at ho ha ⊢
  go_enter Tryz.func61, Tryz.ntmps61
  go_wp2_with fail
  refine (ha.out _).mono ?_
  rintro en w1 ⟨rfl, rfl⟩
  go_wp2
  go_ret
  exact ⟨rfl, rfl⟩
end Go.Proofs.YtiadjcilfljdaaaGreatDoor
end
