/- Layer 5, the program: letters of 0; noughts. -/
import Derived.Test.YtcomkgmonhidhaaGreatDoorG37
import Derived.Test.YtcomkgmonhidhaaGreatDoorG36
import Derived.Test.YtcomkgmonhidhaaGreatDoorG19
import Derived.Laws.FloatArith
section
namespace Go.Proofs.YtcomkgmonhidhaaGreatDoor
set_option linter.unusedVariables false
set_option linter.unusedSimpArgs false
open Go.RowKit Verge

set_option maxRecDepth 20000 in
theorem letters_zero (v : Value) (w : World) (hv : IsT 0 v w) : Calls Tryz.prog 31 #[v] w fun e w' => e = .returned (.string (bs [])) ∧ Below w.heap.size w w' := by
  obtain ⟨A, rfl, hR⟩ := hv
  have e0 : (dig 0).length = 0 := by rw [dig_zero]; rfl
  rw [e0]
  have hcv := run_convert_bytes_nil (P := Tryz.prog) w 75 5 Tryz.underlying75 Tryz.underlying5 0 0 9 Tryz.underlying9
  clear hR e0
  go_enter Tryz.func31, Tryz.ntmps31
  go_wp2
  go_loopw [0, 3] (fun av ov wr => av = .slice A 0 0 ∧ ov = .slice none 0 0 ∧ wr = w) (fun _ _ _ => 0)
  case atStart => exact ⟨rfl, rfl, rfl⟩
  case round =>
    obtain ⟨rfl, rfl, rfl⟩ := hrel
    go_wp2
    go_loopw [10, 11] (fun iv jv wr2 => iv = .int .i64 0 ∧ jv = .int .i64 (-1) ∧ wr2 = wr) (fun _ _ _ => 0)
    case atStart => exact ⟨rfl, rfl, rfl⟩
    case round =>
      obtain ⟨rfl, rfl, rfl⟩ := hrel
      go_wp2
      go_ret
      exact ⟨rfl, Below.refl _ _⟩
/-- Letters, of 0 too. -/
theorem letters_all (N : Nat) (v : Value) (W : World) (hv : IsT N v W) (hb : blen N ≤ 10000) : Calls Tryz.prog 31 #[v] W fun e w' => e = .returned (.string (bs (txt N))) ∧ Below W.heap.size W w' := by
  rcases Nat.eq_zero_or_pos N with h | h
  · subst h; exact letters_zero v W hv
  · exact letters_any N v W hv h hb
theorem run_make_u8 (n : Nat) (hn : n ≤ 100000) (w : World) :
    (Instr.makeSlice 75 (.int .i64 (n : Int)) (.int .i64 (n : Int))).run Tryz.prog w = .ok (.slice (some ⟨w.heap.size, 0, none⟩) n n) (w.alloc (.cells (b8s (List.replicate n 0)).toArray 5)) := by
  obtain ⟨i0, hi, hz0, hz1, hz2⟩ := info_parts Tryz.info5
  have h := run_make (P := Tryz.prog) w 75 5 i0 (.int .u8 0) Tryz.underlying75 hi hz0 .i64 .i64 n n (by omega) (by omega) (by rw [hz2]; omega) (by omega)
  have e : madeCells #[.int .u8 0] n = (b8s (List.replicate n 0)).toArray := by
    apply Array.toList_inj.1
    rw [toList_madeCells_one]
    simp [b8s]
  rw [h, hz1]
  simp only [Int.toNat_natCast, Value.cells, Nat.mul_one, e]
theorem grow_made (w : World) (n : Nat) (hn : n ≤ 100000) (B : Nat) (hB : B ≤ w.heap.size) : GrowB (w.alloc (.cells (b8s (List.replicate n 0)).toArray 5)) B (.slice (some ⟨w.heap.size, 0, none⟩) n n) (List.replicate n 0) := by
  show World.ownsRow _ _ _ _ _ _ _
  rw [List.length_replicate]
  exact ⟨by simp [b8s], .inr ⟨w.heap.size, n, _, rfl, hB, heap_alloc_new w _, Nat.le_refl _, by unfold maxLen; omega, by simp [b8s], by simp [b8s]⟩⟩
set_option maxRecDepth 20000 in
theorem noughts_any (n : Nat) (h1 : 1 ≤ n) (hn : n ≤ 100000) (w : World) : Calls Tryz.prog 25 #[.int .i64 (n : Int)] w fun e w' => e = .returned (.string (bs (List.replicate n 48))) ∧ Below w.heap.size w w' := by
  have hmk := run_make_u8 n hn w
  have hG := grow_made w n hn w.heap.size (Nat.le_refl _)
  have hbl := (Below.refl w.heap.size w).alloc (Nat.le_refl _) (.cells (b8s (List.replicate n 0)).toArray 5)
  go_enter Tryz.func25, Tryz.ntmps25
  go_wp2
  clear hmk
  generalize w.alloc (.cells (b8s (List.replicate n 0)).toArray 5) = W0 at *
  have HG := Lib.hid (And.intro hG hbl)
  clear hG hbl
  go_loopw [4, 9] (fun _ iv wr => ∃ i : Nat, i ≤ n ∧ iv = .int .i64 i ∧ Hid (GrowB wr w.heap.size (.slice (some ⟨w.heap.size, 0, none⟩) n n) (List.replicate i 48 ++ List.replicate (n - i) 0) ∧ Below w.heap.size w wr)) (fun _ iv _ => n - (intOf iv).toNat)
  case atStart => exact ⟨0, by omega, rfl, by simpa using HG.out.1, HG.out.2⟩
  case round =>
    clear HG
    obtain ⟨i, hi, rfl, hG⟩ := hrel
    by_cases hin : i < n
    · have hlen : (List.replicate i (48 : UInt8) ++ List.replicate (n - i) 0).length = n := by simp; omega
      have hj : (List.replicate i (48 : UInt8) ++ List.replicate (n - i) 0)[i]? = some 0 := by
        rw [List.getElem?_append_right (by simp), List.length_replicate, Nat.sub_self, List.getElem?_replicate, if_pos (by omega)]
      obtain ⟨c0, f0⟩ := hG.out.1.at hlen hj
      have hp := hG.out.1.put hlen i 48
      have e : (List.replicate i (48 : UInt8) ++ List.replicate (n - i) 0).set i 48 = List.replicate (i + 1) 48 ++ List.replicate (n - (i + 1)) 0 := by
        rw [List.set_append_right _ _ (by simp), List.length_replicate, Nat.sub_self]
        obtain ⟨k, hk⟩ : ∃ k, n - i = k + 1 := ⟨n - i - 1, by omega⟩
        rw [hk, show n - (i + 1) = k by omega, List.replicate_succ, List.set_cons_zero, List.replicate_succ', List.append_assoc]
        rfl
      rw [e] at hp
      have HP := Lib.hid (And.intro hp (hG.out.2.setCell (p := ⟨w.heap.size, i, none⟩) (Nat.le_refl _) (Value.int .u8 (48 : Int))))
      have hlt : (i : Int) < (n : Int) := by omega
      clear hlen hj hp e
      go_wp2
      go_roundw
      case rel => exact ⟨i + 1, by omega, by go_num, HP.out⟩
      case measure => simp [intOf]; omega
    · obtain rfl : i = n := by omega
      have hl : (List.replicate i (48 : UInt8) ++ List.replicate (i - i) 0) = List.replicate i 48 := by simp
      rw [hl] at hG
      have hcv := convN wr w.heap.size 0 i i (List.replicate i 48) (by simp) (fun k c hc => by rw [Nat.zero_add]; exact (hG.out.1.at (by simp) hc).1)
      go_wp2
      go_ret
      exact ⟨rfl, hG.out.2⟩
end Go.Proofs.YtcomkgmonhidhaaGreatDoor
end

section
namespace Go.Proofs.YtcomkgmonhidhaaGreatDoor
set_option linter.unusedVariables false
set_option linter.unusedSimpArgs false
open Go.RowKit Verge

/-- The whole part, downward, of a pattern. -/
def flr (x : Nat) : Nat := FloatKind.f64.encode ((FloatKind.f64.decode x).integral .down)
/-- Is a pattern a number or an infinity? -/
def numb (x : Nat) : Bool := match FloatKind.f64.decode x with | .nan _ _ => false | _ => true
/-- What is asked of a pattern that is no number is left open. -/
def flq (q : Bool → Nat → Sem Value) (d : Ieee.Datum) : Sem Value := match d with | .nan s t => q s t | d => pure (.float .f64 (FloatKind.f64.encode (d.integral .down)))
theorem floor_run (x : Nat) (h : numb x = true) (w : World) : (callFunc 50 #[.float .f64 x]).run Tryz.prog w = .ok (.value (.float .f64 (flr x))) w := by
  rw [run_callFunc_extern (e := Extern.MathFloor.toIntegral "math.archFloor" .down) Tryz.func50 (by kernel_rfl) (by kernel_rfl) (by kernel_rfl) (by kernel_rfl)]
  obtain ⟨q, e⟩ : ∃ q, Extern.MathFloor.toIntegral "math.archFloor" .down #[.float .f64 x] = flq q (FloatKind.f64.decode x) := ⟨_, rfl⟩
  rw [e]
  unfold numb at h
  unfold flr
  cases hd : FloatKind.f64.decode x with
  | nan s t => rw [hd] at h; cases h
  | number s m e => rfl
  | _ => rfl
set_option maxRecDepth 40000 in
theorem floor_any (x : Nat) (h : numb x = true) (w : World) : Calls Tryz.prog 28 #[.float .f64 x] w fun e w' => e = .returned (.float .f64 (flr x)) ∧ w = w' := by
  have hf := fun W => floor_run x h W
  generalize flr x = r at *
  clear h
  go_enter Tryz.func28, Tryz.ntmps28
  go_wp2
  go_ret
  exact ⟨rfl, rfl⟩
end Go.Proofs.YtcomkgmonhidhaaGreatDoor
end

section
namespace Go.Proofs.YtcomkgmonhidhaaGreatDoor
set_option linter.unusedVariables false
set_option linter.unusedSimpArgs false
open Go.RowKit Verge

/-- The exponent's float times the logarithm, by the exponent's number from -1074 on. -/
def estY (i : Nat) : Option Nat := Ieee.double.mul (FloatKind.f64.nearest ((i : Int) - 1074)) 4599094494223104489
def estOk (i : Nat) : Bool :=
  match estY i with
  | none => false
  | some y => numb y && decide (y < 18446744073709551616) && (match (FloatKind.f64.decode (flr y)).toInt .zero with | some n => decide (-400 ≤ n ∧ n ≤ 400) | none => false)
theorem est_all : ∀ i < 2110, estOk i = true := by decide +kernel
theorem est_spec {e : Int} (h1 : -1074 ≤ e) (h2 : e ≤ 1030) : ∃ y n, Ieee.double.mul (FloatKind.f64.nearest e) 4599094494223104489 = some y ∧ numb y = true ∧ y < 18446744073709551616 ∧ (FloatKind.f64.decode (flr y)).toInt .zero = some n ∧ -400 ≤ n ∧ n ≤ 400 := by
  obtain ⟨i, hi⟩ : ∃ i : Nat, e = (i : Int) - 1074 := ⟨(e + 1074).toNat, by omega⟩
  have h := est_all i (by omega)
  subst hi
  unfold estOk at h
  cases hy : estY i with
  | none => rw [hy] at h; cases h
  | some y =>
    rw [hy] at h
    simp only [Bool.and_eq_true, decide_eq_true_eq] at h
    cases hn : (FloatKind.f64.decode (flr y)).toInt .zero with
    | none => rw [hn] at h; cases h.2
    | some n =>
      rw [hn] at h
      have h3 := of_decide_eq_true h.2
      exact ⟨y, n, hy, h.1.1, h.1.2, hn, h3.1, h3.2⟩
end Go.Proofs.YtcomkgmonhidhaaGreatDoor
end

section
namespace Go.Proofs.YtcomkgmonhidhaaGreatDoor
set_option linter.unusedVariables false
set_option linter.unusedSimpArgs false
open Go.RowKit Verge

theorem mul_some (x : Nat) (hx : x < 18446744073709551616) (h : fabs x < 9218868437227405312) : ∃ y, Ieee.double.mul x 4841369599423283200 = some y := by
  obtain ⟨k, m, e, hm⟩ := read_num (x := x) hx h
  have e2 : Ieee.double.read 4841369599423283200 = .number false 4503599627370496 0 := rfl
  refine ⟨Ieee.double.nearest (decide (9223372036854775808 ≤ x) ^^ false) (m * 4503599627370496) (-1074 + (k : Int) + 0), ?_⟩
  unfold Ieee.Format.mul
  rw [e, e2]
  rfl
theorem uand2047 (n : Int) : bits .and .u64 n 2047 = n % 2048 := by
  have h127 : (BitVec.ofInt 64 2047).toNat = 2 ^ 11 - 1 := by decide
  have key : (BitVec.ofInt 64 n &&& BitVec.ofInt 64 2047).toNat = (n % ((2 ^ 64 : Nat) : Int)).toNat % 2 ^ 11 := by
    rw [BitVec.toNat_and, BitVec.toNat_ofInt, h127, Nat.and_two_pow_sub_one_eq_mod]
  show IntKind.u64.wrap ((BitVec.ofInt 64 n &&& BitVec.ofInt 64 2047).toNat : Nat) = n % 2048
  rw [key, IntKind.wrap_u64]
  omega
set_option maxRecDepth 40000 in
theorem norm_two (x : Nat) (hx : x < 18446744073709551616) (h : fabs x < 9218868437227405312) (w : World) : Calls Tryz.prog 86 #[.float .f64 x] w fun en w' => ∃ (y : Nat) (e : Int), en = .returned (.tuple #[.float .f64 y, .int .i64 e]) ∧ (e = 0 ∨ e = -52) ∧ w = w' := by
  have HA := Lib.hid (fun W => abs_any x hx W)
  have hfx : fabs x < 9223372036854775808 := by unfold fabs; omega
  by_cases c : fabs x < 4503599627370496
  · have o1 : (FloatKind.f64.format.order (fabs x) 4503599627370496 == some .lt) = true := by
      refine (f_lt (by omega) (by omega)).trans (decide_eq_true ⟨?_, ?_, ?_⟩)
      · unfold fnan; omega
      · unfold fnan; omega
      · unfold FK; rw [if_pos (by omega), if_pos (by omega)]; omega
    obtain ⟨y, hy⟩ := mul_some x hx h
    have hm : ∀ t w, (binOp .mul t (.float .f64 x) (.float .f64 4841369599423283200)).run Tryz.prog w = .ok (.float .f64 y) w := fun t w => run_float_arith w .mul t .f64 _ _ _ hy
    generalize fabs x = a at *
    clear hx h c hfx hy
    go_enter Tryz.func86, Tryz.ntmps86
    go_wp2_with (go_at_call 43; refine (HA.out _).mono ?_; rintro e w1 ⟨rfl, rfl⟩)
    refine bodyPost_ret (v := .tuple #[.float .f64 y, .int .i64 (-52)]) (by simp [results, Tryz.results86, go_sem]) rfl ?_
    exact ⟨y, -52, rfl, .inr rfl, rfl⟩
  · have o1 : (FloatKind.f64.format.order (fabs x) 4503599627370496 == some .lt) = false := by
      refine (f_lt (by omega) (by omega)).trans (decide_eq_false ?_)
      rintro ⟨_, _, h3⟩
      revert h3; unfold FK; rw [if_pos (by omega), if_pos (by omega)]; omega
    generalize fabs x = a at *
    clear hx h c hfx
    go_enter Tryz.func86, Tryz.ntmps86
    go_wp2_with (go_at_call 43; refine (HA.out _).mono ?_; rintro e w1 ⟨rfl, rfl⟩)
    refine bodyPost_ret (v := .tuple #[.float .f64 x, .int .i64 0]) (by simp [results, Tryz.results86, go_sem]) rfl ?_
    exact ⟨x, 0, rfl, .inl rfl, rfl⟩
set_option maxRecDepth 40000 in
set_option maxHeartbeats 1000000 in
theorem frexp_any (x : Nat) (hx : x < 18446744073709551616) (h : fabs x < 9218868437227405312) (h0 : fabs x ≠ 0) (w : World) : Calls Tryz.prog 49 #[.float .f64 x] w fun en w' => ∃ (y : Nat) (e : Int), en = .returned (.tuple #[.float .f64 y, .int .i64 e]) ∧ (-1074 ≤ e ∧ e ≤ 1030) ∧ w = w' := by
  have HI := Lib.hid (fun W => isinf_0 x hx W)
  rw [decide_eq_false (by omega)] at HI
  have HN := Lib.hid (fun W => isnan_any x hx W)
  rw [decide_eq_false (by unfold fnan; unfold fabs at h; omega)] at HN
  have HM := Lib.hid (fun W => norm_two x hx h W)
  have oz : (FloatKind.f64.format.order x 0 == some .eq) = false := by
    rw [show (FloatKind.f64.format.order x 0 == some .eq) = decide (x = 0 ∨ x = 9223372036854775808) from o_isz hx]
    refine decide_eq_false ?_
    rintro (rfl | rfl) <;> exact h0 rfl
  clear hx h h0
  go_enter Tryz.func49, Tryz.ntmps49
  go_wp2_with (first
    | (go_at_call 22; refine (HI.out _).mono ?_; rintro en w1 ⟨rfl, rfl⟩)
    | (go_at_call 44; refine (HN.out _).mono ?_; rintro en w1 ⟨rfl, rfl⟩)
    | (go_at_call 86; refine (HM.out _).mono ?_; rintro en w1 ⟨y, e, rfl, he, rfl⟩; have by1 := bits_any y; have fr1 := from_any (bits BinOp.or IntKind.u64 (bits BinOp.andNot IntKind.u64 (y : Int) 9218868437227405312) 4602678819172646912); have ha := uand2047 ((y : Int) / 4503599627370496)))
  refine bodyPost_ret (v := .tuple #[.float .f64 (bits BinOp.or IntKind.u64 (bits BinOp.andNot IntKind.u64 (y : Int) 9218868437227405312) 4602678819172646912).toNat, .int .i64 (e + ((y : Int) / 4503599627370496 % 2048 - 1023 + 1))]) (by simp [results, Tryz.results49, go_sem]) rfl ?_
  exact ⟨_, _, rfl, by omega, rfl⟩
set_option maxRecDepth 40000 in
theorem frexpW_any (x : Nat) (hx : x < 18446744073709551616) (h : fabs x < 9218868437227405312) (h0 : fabs x ≠ 0) (w : World) : Calls Tryz.prog 27 #[.float .f64 x] w fun en w' => ∃ (y : Nat) (e : Int), en = .returned (.tuple #[.float .f64 y, .int .i64 e]) ∧ (-1074 ≤ e ∧ e ≤ 1030) ∧ w = w' := by
  have HF := Lib.hid (fun W => frexp_any x hx h h0 W)
  clear hx h h0
  go_enter Tryz.func27, Tryz.ntmps27
  go_wp2_with (go_at_call 49; refine (HF.out _).mono ?_; rintro en w1 ⟨y, e, rfl, he, rfl⟩)
  refine bodyPost_ret (v := .tuple #[.float .f64 y, .int .i64 e]) (by simp [results, Tryz.results27, go_sem]) rfl ?_
  exact ⟨_, _, rfl, he, rfl⟩
end Go.Proofs.YtcomkgmonhidhaaGreatDoor
end

section
namespace Go.Proofs.YtcomkgmonhidhaaGreatDoor
set_option linter.unusedVariables false
set_option linter.unusedSimpArgs false
open Go.RowKit Verge

/-- How far Print's loop has still to go. -/
def prM (N D n : Nat) (K : Int) : Nat := if dcnt (qat N D K) = 0 then (K + 400).toNat + 2 else if dcnt (qat N D K) = n then 0 else 1
theorem pow_336 : (2 : Nat) ^ 1116 ≤ 10 ^ 336 := by
  obtain ⟨z, hz⟩ : ∃ z, z = 12 := ⟨_, rfl⟩
  rw [show (1116 : Nat) = 93 * 12 from rfl, show (336 : Nat) = 28 * 12 from rfl, ← hz, Nat.pow_mul, Nat.pow_mul]
  exact Nat.pow_le_pow_left (by decide) z
theorem prt_step {N D n : Nat} {K : Int} (hD : 0 < D) (hlo : ¬ belowT N D (-336)) (hhi : belowT N D 336) (hn1 : 1 ≤ n) (hn2 : n ≤ 1100) (h1 : -1600 ≤ K) (h2 : K ≤ 1000) (hm : dcnt (qat N D K) ≠ n) :
    -1600 ≤ K + dcnt (qat N D K) - n ∧ K + dcnt (qat N D K) - n ≤ 1000 ∧ prM N D n (K + dcnt (qat N D K) - n) < prM N D n K := by
  by_cases h0 : dcnt (qat N D K) = 0
  · have hb := (qat_le (N := N) hD K 0).1 (by omega)
    rw [show K + ((0 : Nat) : Int) = K by omega] at hb
    have hk : -336 < K := by
      refine Classical.byContradiction fun hc => hlo (belowT_mono hb (by omega))
    have e1 : prM N D n K = (K + 400).toNat + 2 := by unfold prM; rw [if_pos h0]
    rw [h0, e1]
    refine ⟨by omega, by omega, ?_⟩
    unfold prM
    split
    · omega
    · split <;> omega
  · have ht := qat_turn hD (Nat.pos_of_ne_zero h0) (by omega) rfl (K := K) (n := n)
    obtain ⟨b1, b2⟩ := (qat_top hD (by omega)).1 ht
    have e1 : prM N D n K = 1 := by unfold prM; rw [if_neg h0, if_neg hm]
    generalize dcnt (qat N D K) = m at *
    refine ⟨?_, ?_, ?_⟩
    · refine Classical.byContradiction fun hc => hlo (belowT_mono b1 (by omega))
    · refine Classical.byContradiction fun hc => b2 (belowT_mono hhi (by omega))
    · rw [e1]
      unfold prM
      rw [ht, if_neg (by omega), if_pos rfl]
      omega
theorem blen_ten (j : Nat) : blen (10 ^ j) ≤ 4 * j + 1 := by
  obtain ⟨z, hz⟩ : ∃ z, z = 4 * j + 1 := ⟨_, rfl⟩
  rw [← hz]
  refine (blen_lt _ _).2 ?_
  have a1 : 10 ^ j ≤ 16 ^ j := Nat.pow_le_pow_left (by omega) j
  have a2 : 16 ^ j = 2 ^ (4 * j) := by rw [Nat.pow_mul]
  have a3 : 2 ^ (4 * j) < 2 ^ z := Nat.pow_lt_pow_right (by omega) (by omega)
  omega
/-- The quotient's digits, rounded. -/
def prQ (d : Int) (s : Bool) (N D : Nat) (K : Int) : Nat := if upB d s (qat N D K) (2 * (N * 10 ^ (-K).toNat % (D * 10 ^ K.toNat))) (D * 10 ^ K.toNat) = true then qat N D K + 1 else qat N D K
/-- n digits of a number, rounded: the text. -/
def prT (d : Int) (s : Bool) (N D : Nat) (K : Int) (n : Nat) : List UInt8 :=
  ftext s ((txt (prQ d s N D K)).take n) (if n < (txt (prQ d s N D K)).length then K + 1 else K)
theorem prQ_len {d : Int} {s : Bool} {N D : Nat} {K : Int} {n : Nat} (h : dcnt (qat N D K) = n) (hn : 1 ≤ n) : n ≤ (txt (prQ d s N D K)).length ∧ (txt (prQ d s N D K)).length ≤ n + 1 ∧ blen (prQ d s N D K) ≤ blen (qat N D K) + 1 ∧ 0 < prQ d s N D K := by
  obtain ⟨h1, h2⟩ := dcnt_spec (qat N D K)
  have hq : 0 < qat N D K := by
    rcases Nat.eq_zero_or_pos (qat N D K) with e | e
    · rw [e, dcnt_zero] at h; omega
    · exact e
  rw [h] at h1 h2
  have key : ∀ Q, qat N D K ≤ Q → Q ≤ qat N D K + 1 → n ≤ (txt Q).length ∧ (txt Q).length ≤ n + 1 ∧ blen Q ≤ blen (qat N D K) + 1 := by
    intro Q a b
    refine ⟨?_, ?_, ?_⟩
    · have : ¬ dcnt Q ≤ n - 1 := by
        rw [dcnt_le]
        have := (h2 hq).2
        omega
      show n ≤ dcnt Q
      omega
    · show dcnt Q ≤ n + 1
      rw [dcnt_le, Nat.pow_succ]
      have : 0 < 10 ^ n := Nat.pow_pos (by omega)
      omega
    · rw [blen_lt, Nat.pow_succ]
      have := (blen_lt (qat N D K) _).1 (Nat.le_refl _)
      omega
  unfold prQ
  split
  · exact ⟨(key _ (by omega) (by omega)).1, (key _ (by omega) (by omega)).2.1, (key _ (by omega) (by omega)).2.2, by omega⟩
  · exact ⟨(key _ (by omega) (by omega)).1, (key _ (by omega) (by omega)).2.1, (key _ (by omega) (by omega)).2.2, by omega⟩

theorem print_bad (d : Int) (b : Nat) (n : Int) (hb : b < 18446744073709551616) (h : n < 1 ∨ 1100 < n ∨ fwrong b = true) (w : World) :
    Calls Tryz.prog 12 #[.int .i64 d, .float .f64 b, .int .i64 n] w fun e w' => e = .returned (.tuple #[.string (bs []), .int .i64 1]) ∧ Below w.heap.size w w' := by
  have H1 := Lib.hid (fun W => wrong_any b hb W)
  by_cases h1 : n < 1
  · clear h H1
    go_enter Tryz.func12, Tryz.ntmps12
    go_wp2
    go_ret2
    exact ⟨rfl, Below.refl _ _⟩
  · by_cases h2 : 1100 < n
    · clear h H1
      go_enter Tryz.func12, Tryz.ntmps12
      go_wp2
      go_ret2
      exact ⟨rfl, Below.refl _ _⟩
    · have h3 : fwrong b = true := by rcases h with h | h | h; omega; omega; exact h
      rw [h3] at H1
      clear h h3
      go_enter Tryz.func12, Tryz.ntmps12
      go_wp2_with fail
      refine (H1.out _).mono ?_
      rintro e w1 ⟨rfl, rfl⟩
      go_wp2
      go_ret2
      exact ⟨rfl, Below.refl _ _⟩
set_option maxRecDepth 20000 in
theorem print_zero (d : Int) (b : Nat) (n : Nat) (hb : b < 18446744073709551616) (h1 : 1 ≤ n) (h2 : n ≤ 1100) (h : b = 0 ∨ b = 9223372036854775808) (w : World) (hP : Pow10 w) :
    Calls Tryz.prog 12 #[.int .i64 d, .float .f64 b, .int .i64 (n : Int)] w fun e w' => e = .returned (.tuple #[.string (bs (ftext false (List.replicate n 48) (1 - (n : Int)))), .int .i64 0]) ∧ Below w.heap.size w w' := by
  have H1 := Lib.hid (fun W => wrong_any b hb W)
  have e0 : fwrong b = false := by unfold fwrong fabs; refine decide_eq_false ?_; omega
  rw [e0] at H1
  have hz : (FloatKind.f64.format.order b 0 == some .eq) = true := (f_isz hb).trans (decide_eq_true h)
  have HN := Lib.hid (fun W => noughts_any n h1 (by omega) W)
  have HF := Lib.hid (fun W (hW : Pow10 W) => formp_any false (List.replicate n 48) (1 - (n : Int)) (by simp; omega) (by simp; omega) (by omega) (by omega) W hW)
  have HPP := Lib.hid hP
  generalize bs (List.replicate n 48) = S at *
  clear h hb e0 hP
  go_enter Tryz.func12, Tryz.ntmps12
  go_wp2_with fail
  refine (H1.out _).mono ?_
  rintro e w1 ⟨rfl, rfl⟩
  go_wp2_with fail
  refine (HN.out _).mono ?_
  rintro e w1 ⟨rfl, hb1⟩
  have HB := Lib.hid hb1
  clear hb1
  go_wp2_with fail
  refine (HF.out _ (HPP.out.below HB.out)).mono ?_
  rintro e w2 ⟨rfl, hb2⟩
  have HB := Lib.hid (raft HB.out hb2)
  clear hb2
  go_wp2
  go_ret2
  exact ⟨rfl, HB.out⟩
end Go.Proofs.YtcomkgmonhidhaaGreatDoor
end

section
namespace Go.Proofs.YtcomkgmonhidhaaGreatDoor
set_option linter.unusedVariables false
set_option linter.unusedSimpArgs false
open Go.RowKit Verge

theorem prQ_two (d : Int) (s : Bool) (N D : Nat) (K : Int) : prQ d s N D K = qat N D K ∨ prQ d s N D K = qat N D K + 1 := by unfold prQ; split <;> simp
/-- Print's text is scanned to its digits times the power of ten. -/
theorem prT_scn {d : Int} {s : Bool} {N D : Nat} {K : Int} {n : Nat} (h : dcnt (qat N D K) = n) (h1 : 1 ≤ n) (h2 : n ≤ 1100) (k1 : -1600 ≤ K) (k2 : K ≤ 1000) :
    ∃ P Q, scn (prT d s N D K n) = .ok (s, P, Q, 0) ∧ 0 < Q ∧ P * 10 ^ (-K).toNat = prQ d s N D K * 10 ^ K.toNat * Q := by
  obtain ⟨l1, l2, _, l4⟩ := prQ_len (d := d) (s := s) h h1
  have htw := prQ_two d s N D K
  have hsp := dcnt_spec (qat N D K)
  rw [h] at hsp
  unfold prT
  generalize prQ d s N D K = q at *
  rcases Nat.lt_or_ge n (txt q).length with hl | hl
  · have hlen : (txt q).length = n + 1 := by omega
    have hq : q = 10 ^ n := by
      have : ¬ dcnt q ≤ n := by show ¬ (txt q).length ≤ n; omega
      rw [dcnt_le] at this
      rcases htw with e | e
      · rw [e] at this; omega
      · omega
    have hq10 : q % 10 = 0 := by
      obtain ⟨m, rfl⟩ : ∃ m, n = m + 1 := ⟨n - 1, by omega⟩
      rw [hq, Nat.pow_succ]; omega
    have hst := txt_step l4
    have hlen2 : (txt (q / 10)).length = n := by
      have := congrArg List.length hst
      rw [List.length_append, hlen] at this
      simpa using this.symm
    have ht : (txt q).take n = txt (q / 10) := by rw [hst, ← hlen2, List.take_left]
    rw [if_pos hl, ht]
    refine ⟨q / 10 * 10 ^ (K + 1).toNat, 10 ^ (-(K + 1)).toNat, ?_, Nat.pow_pos (by omega), ?_⟩
    · rw [scn_ftext s _ (txt_dig _) (by omega) (by omega) (K + 1) (by omega) (by omega), txt_num]
    · have e : q = q / 10 * 10 := by omega
      rw [Nat.mul_assoc, ← Nat.pow_add]
      have e2 : (K + 1).toNat + (-K).toNat = K.toNat + (-(K + 1)).toNat + 1 := by omega
      rw [e2, Nat.pow_succ, Nat.pow_add]
      generalize 10 ^ K.toNat = X
      generalize 10 ^ (-(K + 1)).toNat = Y
      calc q / 10 * (X * Y * 10) = q / 10 * 10 * X * Y := by ac_rfl
        _ = _ := by rw [← e]
  · have ht : (txt q).take n = txt q := List.take_of_length_le hl
    rw [if_neg (by omega), ht]
    refine ⟨q * 10 ^ K.toNat, 10 ^ (-K).toNat, ?_, Nat.pow_pos (by omega), rfl⟩
    rw [scn_ftext s _ (txt_dig _) (by omega) (by omega) K (by omega) (by omega), txt_num]
/-- The order of two numerals of one sign, each known by its ratio to a unit. -/
theorem ord_cross {s : Bool} {P Q P' Q' u v B : Nat} (hQ : 0 < Q) (hQ' : 0 < Q') (hB : 0 < B) (h : P * B = u * Q) (h' : P' * B = v * Q') :
    ordS (s, P, Q, 0) (s, P', Q', 0) = icmp (sv s u) (sv s v) := by
  unfold ordS
  simp only
  rw [show ((0 : Int) - 0).toNat = 0 from rfl, Nat.pow_zero, Nat.mul_one, Nat.mul_one]
  have e1 : P * Q' * B = u * (Q * Q') := by rw [Nat.mul_right_comm, h]; ac_rfl
  have e2 : P' * Q * B = v * (Q * Q') := by rw [Nat.mul_right_comm, h']; ac_rfl
  generalize P * Q' = X at *
  generalize P' * Q = Y at *
  rw [← icmp_mul _ _ hB, ← sv_mul, ← sv_mul, e1, e2, sv_mul, sv_mul, icmp_mul _ _ (Nat.mul_pos hQ hQ')]
theorem cmpS_okP {s t : List UInt8} {x y : Bool × Nat × Nat × Int} (h : scn s = .ok x) (h' : scn t = .ok y) : cmpS s t = (ordS x y, 0, 0) := by
  unfold cmpS
  rw [h, h']
theorem ordS_anti {x y : Bool × Nat × Nat × Int} (h : ordS x y = -1) : ordS y x = 1 := by
  unfold ordS at h ⊢
  rcases icmp_cases (sv x.1 (x.2.1 * y.2.2.1 * 2 ^ (x.2.2.2 - y.2.2.2).toNat)) (sv y.1 (y.2.1 * x.2.2.1 * 2 ^ (y.2.2.2 - x.2.2.2).toNat)) with ⟨h1, h2, _⟩ | ⟨h1, h2, _⟩ | ⟨h1, h2, _⟩
  · exact h2
  · rw [h1] at h; cases h
  · rw [h1] at h; cases h
theorem prT_congr {d e : Int} {s : Bool} {N D : Nat} {K : Int} (n : Nat) (h : prQ d s N D K = prQ e s N D K) : prT d s N D K n = prT e s N D K n := by unfold prT; rw [h]
theorem sv_up {a b : Nat} (h : a < b) : sv false a < sv false b := by simp [sv]; omega
theorem sv_dn {a b : Nat} (h : b < a) : sv true a < sv true b := by simp [sv]; omega
theorem ard_law (b : Nat) (hb : b < 18446744073709551616) (hw : fwrong b = false) (hF : fbF b ≠ 0) (n : Nat) (h1 : 1 ≤ n) (h2 : n ≤ 1100) (N D : Nat) (hN : N = fbF b * 2 ^ ((fbE b : Int) - 1074).toNat) (hD : D = 2 ^ (-((fbE b : Int) - 1074)).toNat) (K : Int) (k1 : -1600 ≤ K) (k2 : K ≤ 1000) (h : dcnt (qat N D K) = n) (s : Bool) (hs : decide (9223372036854775808 ≤ b) = s) :
    (prT 0 s N D K n = prT (-1) s N D K n ∨ prT 0 s N D K n = prT 1 s N D K n) ∧
    ((prT (-1) s N D K n = prT 1 s N D K n ∧ cmpS (prT (-1) s N D K n) (exT b) = (0, 0, 0) ∧ cmpS (exT b) (prT 1 s N D K n) = (0, 0, 0)) ∨
     (prT (-1) s N D K n ≠ prT 1 s N D K n ∧ cmpS (prT (-1) s N D K n) (exT b) = (-1, 0, 0) ∧ cmpS (exT b) (prT 1 s N D K n) = (-1, 0, 0))) := by
  have hz : b ≠ 9223372036854775808 := by rintro rfl; exact hF (by decide)
  obtain ⟨P2, Q2, e2, hQ2, hP2⟩ := ex_scn b hb hw hz
  rw [hs] at e2
  have hD0 : 0 < D := by rw [hD]; exact Nat.two_pow_pos _
  have hND : P2 * D = N * Q2 := by
    rw [FV_fb] at hP2
    have hE : fbE b ≤ 2045 := by
      unfold fwrong fabs at hw
      have := of_decide_eq_false hw
      unfold fbE; omega
    obtain ⟨x, hx⟩ : ∃ x, ((fbE b : Int) - 1074).toNat = x := ⟨_, rfl⟩
    obtain ⟨y, hy⟩ : ∃ y, (-((fbE b : Int) - 1074)).toNat = y := ⟨_, rfl⟩
    obtain ⟨z, hz2⟩ : ∃ z, KU = y + z := ⟨1074 - y, by unfold KU; omega⟩
    have hz3 : fbE b = x + z := by unfold KU at hz2; omega
    rw [hx] at hN
    rw [hy] at hD
    rw [hz2, hz3, Nat.pow_add, Nat.pow_add] at hP2
    rw [hN, hD]
    refine Nat.eq_of_mul_eq_mul_right (Nat.two_pow_pos z) ?_
    rw [Nat.mul_assoc P2, hP2]; ac_rfl
  obtain ⟨t, ht⟩ : ∃ t, 10 ^ (-K).toNat = t := ⟨_, rfl⟩
  obtain ⟨u, hu⟩ : ∃ u, 10 ^ K.toNat = u := ⟨_, rfl⟩
  have ht0 : 0 < t := by rw [← ht]; exact Nat.pow_pos (by omega)
  have hu0 : 0 < u := by rw [← hu]; exact Nat.pow_pos (by omega)
  have hB : 0 < t * D := Nat.mul_pos ht0 hD0
  have hv : P2 * (t * D) = N * t * Q2 := by rw [Nat.mul_left_comm, hND]; ac_rfl
  have key : ∀ d, ∃ P Q, scn (prT d s N D K n) = .ok (s, P, Q, 0) ∧ 0 < Q ∧ P * (t * D) = prQ d s N D K * (D * u) * Q := by
    intro d
    obtain ⟨P, Q, a1, a2, a3⟩ := prT_scn (d := d) (s := s) h h1 h2 k1 k2
    rw [ht, hu] at a3
    exact ⟨P, Q, a1, a2, by rw [← Nat.mul_assoc, a3]; ac_rfl⟩
  have cl : ∀ d, cmpS (prT d s N D K n) (exT b) = (icmp (sv s (prQ d s N D K * (D * u))) (sv s (N * t)), 0, 0) := by
    intro d
    obtain ⟨P, Q, a1, a2, a3⟩ := key d
    unfold cmpS
    rw [a1, e2]
    show (ordS _ _, _, _) = _
    rw [ord_cross a2 hQ2 hB a3 hv]
  have cr : ∀ d, cmpS (exT b) (prT d s N D K n) = (icmp (sv s (N * t)) (sv s (prQ d s N D K * (D * u))), 0, 0) := by
    intro d
    obtain ⟨P, Q, a1, a2, a3⟩ := key d
    unfold cmpS
    rw [e2, a1]
    show (ordS _ _, _, _) = _
    rw [ord_cross hQ2 a2 hB hv a3]
  have hdiv : N * t = qat N D K * (D * u) + N * t % (D * u) := by
    unfold qat; rw [ht, hu, Nat.mul_comm (N * t / (D * u))]; exact (Nat.div_add_mod _ _).symm
  have hmod : N * t % (D * u) < D * u := Nat.mod_lt _ (Nat.mul_pos hD0 hu0)
  have hq : ∀ d, prQ d s N D K = if upB d s (qat N D K) (2 * (N * t % (D * u))) (D * u) = true then qat N D K + 1 else qat N D K := by
    intro d; unfold prQ; rw [ht, hu]
  generalize N * t % (D * u) = m at *
  have q0 := hq 0
  have qm := hq (-1)
  have q1 := hq 1
  unfold upB at q0 qm q1
  by_cases hm : m = 0
  · have hX : 0 < D * u := Nat.mul_pos hD0 hu0
    subst hm
    have p0 : prQ 0 s N D K = qat N D K := by rw [q0, if_neg]; simp; omega
    have pm : prQ (-1) s N D K = qat N D K := by rw [qm, if_neg]; simp
    have p1 : prQ 1 s N D K = qat N D K := by rw [q1, if_neg]; simp
    refine ⟨.inl (prT_congr n (by rw [p0, pm])), .inl ⟨prT_congr n (by rw [pm, p1]), ?_, ?_⟩⟩
    · rw [cl, pm, hdiv, Nat.add_zero, icmp_self]
    · rw [cr, p1, hdiv, Nat.add_zero, icmp_self]
  · have hlt : icmp (sv s (prQ (-1) s N D K * (D * u))) (sv s (N * t)) = -1 ∧ icmp (sv s (N * t)) (sv s (prQ 1 s N D K * (D * u))) = -1 ∧ (prQ 0 s N D K = prQ (-1) s N D K ∨ prQ 0 s N D K = prQ 1 s N D K) := by
      have h0 := prQ_two 0 s N D K
      have hs1 : (qat N D K + 1) * (D * u) = qat N D K * (D * u) + D * u := Nat.succ_mul _ _
      cases s
      · have pm : prQ (-1) false N D K = qat N D K := by rw [qm, if_neg]; simp
        have p1 : prQ 1 false N D K = qat N D K + 1 := by rw [q1, if_pos]; simp; omega
        rw [pm, p1]
        exact ⟨icmp_neg (sv_up (by omega)), icmp_neg (sv_up (by omega)), h0⟩
      · have pm : prQ (-1) true N D K = qat N D K + 1 := by rw [qm, if_pos]; simp; omega
        have p1 : prQ 1 true N D K = qat N D K := by rw [q1, if_neg]; simp
        rw [pm, p1]
        exact ⟨icmp_neg (sv_dn (by omega)), icmp_neg (sv_dn (by omega)), h0.symm⟩
    obtain ⟨g1, g2, g3⟩ := hlt
    refine ⟨?_, .inr ⟨fun heq => ?_, by rw [cl, g1], by rw [cr, g2]⟩⟩
    · rcases g3 with g | g
      · exact .inl (prT_congr n g)
      · exact .inr (prT_congr n g)
    · have c1 := cl (-1)
      have c2 := cr 1
      rw [← heq, g2] at c2
      rw [g1] at c1
      obtain ⟨P, Q, a1, a2, a3⟩ := key (-1)
      rw [cmpS_okP a1 e2] at c1
      rw [cmpS_okP e2 a1] at c2
      have c1' : ordS (s, P, Q, 0) (s, P2, Q2, 0) = -1 := congrArg Prod.fst c1
      have c2' : ordS (s, P2, Q2, 0) (s, P, Q, 0) = -1 := congrArg Prod.fst c2
      have := ordS_anti c1'
      rw [c2'] at this
      cases this
end Go.Proofs.YtcomkgmonhidhaaGreatDoor
end
