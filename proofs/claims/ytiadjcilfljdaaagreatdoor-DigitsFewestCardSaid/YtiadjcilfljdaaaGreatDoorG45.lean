/- Layer 5: DigitsBack answers true. -/
import Derived.Test.YtiadjcilfljdaaaGreatDoorG44
import Derived.Test.YtiadjcilfljdaaaGreatDoorG41
import Derived.Test.YtiadjcilfljdaaaGreatDoorG43
namespace Go.Proofs.YtiadjcilfljdaaaGreatDoor
set_option linter.unusedVariables false
set_option linter.unusedSimpArgs false
open Go.RowKit Verge

theorem read_len {d : Int} {t : List UInt8} {b : Nat} (h : readS d t = (b, 0, 0)) : t.length ≤ 140737488355328 := by
  cases hs : scn t with
  | ok x => have := scn_len hs; omega
  | error pc =>
    obtain ⟨p, c⟩ := pc
    have hc := scn_code hs
    unfold readS at h
    rw [hs] at h
    injection h with h1 h2
    injection h2 with h2 h3
    omega
/-- Short's text, of every number but -0, is read back to the nearest. -/
theorem short_read (b : Nat) (hb : b < 18446744073709551616) (hw : fwrong b = false) (hz : b ≠ 9223372036854775808) (w : World) (hP : Pow10 w) :
    Calls Tryz.prog 12 #[.float .f64 b] w fun e w' => ∃ t, readS 0 t = (b, 0, 0) ∧ e = .returned (.tuple #[.string (bs t), .int .i64 0]) ∧ Below w.heap.size w w' := by
  by_cases h0 : fbF b = 0
  · have hb0 : b = 0 := by
      rcases fbF_zero' hb h0 with h | h
      · exact h
      · exact absurd h hz
    subst hb0
    have H1 := Lib.hid (fun W => wrong_any 0 hb W)
    rw [hw] at H1
    have hzz : (FloatKind.f64.format.order 0 0 == some .eq) = true := by decide
    clear hb hw h0 hP
    have key : ∃ t, t = bs [48, 101, 48] := ⟨_, rfl⟩
    suffices hs : Calls Tryz.prog 12 #[.float .f64 0] w fun e w' => e = .returned (.tuple #[.string (bs [48, 101, 48]), .int .i64 0]) ∧ Below w.heap.size w w' by
      refine hs.mono ?_
      rintro e w1 ⟨rfl, hb⟩
      exact ⟨_, (nought_back 0).2, rfl, hb⟩
    go_enter Tryz.func12, Tryz.ntmps12
    go_wp2_with fail
    refine (H1.out _).mono ?_
    rintro e w1 ⟨rfl, rfl⟩
    go_wp2
    go_ret2
    exact ⟨by simp [bs], Below.refl _ _⟩
  · refine (short_num b hb hw h0 w hP).mono ?_
    rintro e w1 ⟨k, i, hok, rfl, hb1⟩
    exact ⟨_, short_back hok hb hw h0 rfl, rfl, hb1⟩
theorem print_read (b n : Nat) (hb : b < 18446744073709551616) (hw : fwrong b = false) (hz : b ≠ 9223372036854775808) (n1 : 17 ≤ n) (n2 : n ≤ 1100) (w : World) (hP : Pow10 w) :
    Calls Tryz.prog 15 #[.int .i64 0, .float .f64 b, .int .i64 (n : Int)] w fun e w' => ∃ t, readS 0 t = (b, 0, 0) ∧ e = .returned (.tuple #[.string (bs t), .int .i64 0]) ∧ Below w.heap.size w w' := by
  by_cases h0 : fbF b = 0
  · have hb0 : b = 0 := by
      rcases fbF_zero' hb h0 with h | h
      · exact h
      · exact absurd h hz
    subst hb0
    refine (print_zero 0 0 n hb (by omega) n2 (.inl rfl) w hP).mono ?_
    rintro e w1 ⟨rfl, hb1⟩
    exact ⟨_, noughts_back 0 (by omega) n2, rfl, hb1⟩
  · refine (print_num 0 b n hb (by omega) n2 hw h0 _ _ rfl rfl w hP).mono ?_
    rintro e w1 ⟨K, k1, k2, hk, rfl, hb1⟩
    exact ⟨_, print_back hb hw h0 n1 n2 _ _ rfl rfl K k1 k2 hk rfl, rfl, hb1⟩
theorem hexT_back (d : Int) (b : Nat) (hb : b < 18446744073709551616) (hw : fwrong b = false) (hz : b ≠ 9223372036854775808) : readS d (hexT b) = (b, 0, 0) ∧ hexC b = 0 := by
  unfold hexT hexC
  rw [hw]
  refine ⟨?_, by simp⟩
  rw [if_neg (by simp)]
  by_cases h0 : fbF b = 0
  · have hb0 : b = 0 := by
      rcases fbF_zero' hb h0 with h | h
      · exact h
      · exact absurd h hz
    rw [if_pos h0, hb0]
    exact (nought_back d).1
  · rw [if_neg h0]
    exact hex_back d b hb hw h0
theorem y5_plain (x : Nat) (hx : x < 18446744073709551616) : fplain (y5 x) < 18446744073709551616 ∧ fwrong (fplain (y5 x)) = false ∧ fplain (y5 x) ≠ 9223372036854775808 := by
  obtain ⟨y1, y2⟩ := y5_ok x hx
  have hn : ¬ fnan (y5 x) := by
    unfold fwrong fabs at y2
    have := of_decide_eq_false y2
    unfold fnan
    omega
  rw [fplain_fz hn]
  unfold fz
  split
  · exact ⟨by omega, by decide, by omega⟩
  · exact ⟨y1, y2, by omega⟩
set_option maxRecDepth 100000 in
set_option maxHeartbeats 8000000 in
theorem back_num (x : Nat) (n : Int) (m : Nat) (hx : x < 18446744073709551616) (m1 : 17 ≤ m) (m2 : m ≤ 1100) (hm : (decide (n < 17) = true ∧ m = 17) ∨ (decide (n < 17) = false ∧ decide (1100 < n) = true ∧ m = 17) ∨ (decide (n < 17) = false ∧ decide (1100 < n) = false ∧ n = (m : Int))) (w : World) (hT : Tab16 w) (hP : Pow10 w) : Calls Tryz.prog 8 #[.int .u64 (x : Int), .int .i64 n] w fun e w' => e = .returned (.bool true) ∧ Below w.heap.size w w' := by
  obtain ⟨y1, y2⟩ := y5_ok x hx
  obtain ⟨z1, z2, z3⟩ := y5_plain x hx
  have HN := Lib.hid (fun W => num5_any x hx W)
  have HZ := Lib.hid (fun W => plain3_any (y5 x) y1 W)
  generalize y5 x = x0 at *
  generalize fplain x0 = y at *
  have ec : exC y = 0 := by unfold exC; rw [if_neg (by rw [z2]; simp)]
  have eh := (hexT_back 0 y z1 z2 z3).2
  have he := fun W (hW : Pow10 W) => exP y z1 W hW
  have hh := fun W (hT : Tab16 W) (hW : Pow10 W) => hexP y z1 W hT hW
  rw [ec] at he
  rw [eh] at hh
  have HE := Lib.hid he
  have HH := Lib.hid hh
  have HS := Lib.hid (fun W (hW : Pow10 W) => short_read y z1 z2 z3 W hW)
  have HPR := Lib.hid (fun W (hW : Pow10 W) => print_read y m z1 z2 z3 m1 m2 W hW)
  have HF := Lib.hid (fun W => fl5_any' y z1 W)
  have re : ∀ d W, Calls Tryz.prog 16 #[.int .i64 d, .string (bs (exT y))] W (Ans W (IsV (.tuple #[.int .u64 (y : Int), .int .i64 0, .int .i64 0]))) := by
    intro d W
    have h := ex_back d y z1 z2 z3
    have := lread_any d (exT y) (read_len h) W
    rw [h] at this
    exact this
  have rh : ∀ d W, Calls Tryz.prog 16 #[.int .i64 d, .string (bs (hexT y))] W (Ans W (IsV (.tuple #[.int .u64 (y : Int), .int .i64 0, .int .i64 0]))) := by
    intro d W
    have h := (hexT_back d y z1 z2 z3).1
    have := lread_any d (hexT y) (read_len h) W
    rw [h] at this
    exact this
  have rt : ∀ t, readS 0 t = (y, 0, 0) → ∀ W, Calls Tryz.prog 16 #[.int .i64 0, .string (bs t)] W (Ans W (IsV (.tuple #[.int .u64 (y : Int), .int .i64 0, .int .i64 0]))) := by
    intro t h W
    have := lread_any 0 t (read_len h) W
    rw [h] at this
    exact this
  have HRE := Lib.hid re
  have HRH := Lib.hid rh
  have HRT := Lib.hid rt
  have HL := Lib.hid (fun W (hP : Pow10 W) => lives_any W hP)
  have HPP := Lib.hid hP
  have HTT := Lib.hid hT
  have HB := Lib.hid (Below.refl w.heap.size w)
  clear he hh ec eh re rh rt hP hT z1 z2 z3 y1 y2 hx
  generalize bs (exT y) = T1 at *
  generalize bs (hexT y) = T2 at *
  rcases hm with ⟨g1, rfl⟩ | ⟨g1, g2, rfl⟩ | ⟨g1, g2, rfl⟩ <;>
  (go_enter Tryz.func8, Tryz.ntmps8
   go_wp2_with fail
   refine (HN.out _).mono ?_
   rintro en wn ⟨rfl, rfl⟩
   go_wp2_with fail
   refine (HZ.out _).mono ?_
   rintro en wn ⟨rfl, rfl⟩
   go_wp2_with fail
   refine (HF.out _).mono ?_
   rintro en wn ⟨rfl, rfl⟩
   go_wp2_with fail
   refine (HE.out _ (HPP.out.below HB.out)).mono ?_
   rintro en wn ⟨rfl, hbn⟩
   have HB := Lib.hid (raft HB.out hbn)
   clear hbn
   go_wp2_with fail
   refine (HF.out _).mono ?_
   rintro en wn ⟨rfl, rfl⟩
   go_wp2_with fail
   refine (HH.out _ (HTT.out.below HB.out) (HPP.out.below HB.out)).mono ?_
   rintro en wn ⟨rfl, hbn⟩
   have HB := Lib.hid (raft HB.out hbn)
   clear hbn
   go_wp2_with fail
   refine (HF.out _).mono ?_
   rintro en wn ⟨rfl, rfl⟩
   go_wp2_with fail
   refine (HS.out _ (HPP.out.below HB.out)).mono ?_
   rintro en wn ⟨t3, h3, rfl, hbn⟩
   have HB := Lib.hid (raft HB.out hbn)
   have H3 := Lib.hid (HRT.out t3 h3)
   clear hbn h3
   generalize bs t3 = T3 at *
   clear t3
   go_wp2_with fail
   refine (HF.out _).mono ?_
   rintro en wn ⟨rfl, rfl⟩
   go_wp2_with fail
   refine (HPR.out _ (HPP.out.below HB.out)).mono ?_
   rintro en wn ⟨t4, h4, rfl, hbn⟩
   have HB := Lib.hid (raft HB.out hbn)
   have H4 := Lib.hid (HRT.out t4 h4)
   clear hbn h4
   generalize bs t4 = T4 at *
   clear t4
   go_wp2
   go_loopw [13] (fun iv wr => (iv = .int .i64 (-1) ∨ iv = .int .i64 0 ∨ iv = .int .i64 1 ∨ iv = .int .i64 2) ∧ Hid (Below w.heap.size w wr)) (fun iv _ => (2 - intOf iv).toNat)
   case atStart => exact ⟨.inl rfl, HB⟩
   case round =>
     clear HB
     obtain ⟨hi, HB⟩ := hrel
     rcases hi with rfl | rfl | rfl | rfl
     · go_wp2_with fail
       refine (HRE.out _ _).mono ?_
       rintro en wn ⟨vn, rfl, rfl, hbn⟩
       have HB := Lib.hid (raft HB.out hbn)
       clear hbn
       go_wp2_with fail
       refine (HRH.out _ _).mono ?_
       rintro en wn ⟨vn, rfl, rfl, hbn⟩
       have HB := Lib.hid (raft HB.out hbn)
       clear hbn
       go_wp2
       go_roundw
       case rel => exact ⟨.inr (.inl (by go_num)), HB⟩
       case measure => simp [intOf] <;> decide
     · go_wp2_with fail
       refine (HRE.out _ _).mono ?_
       rintro en wn ⟨vn, rfl, rfl, hbn⟩
       have HB := Lib.hid (raft HB.out hbn)
       clear hbn
       go_wp2_with fail
       refine (HRH.out _ _).mono ?_
       rintro en wn ⟨vn, rfl, rfl, hbn⟩
       have HB := Lib.hid (raft HB.out hbn)
       clear hbn
       go_wp2
       go_roundw
       case rel => exact ⟨.inr (.inr (.inl (by go_num))), HB⟩
       case measure => simp [intOf] <;> decide
     · go_wp2_with fail
       refine (HRE.out _ _).mono ?_
       rintro en wn ⟨vn, rfl, rfl, hbn⟩
       have HB := Lib.hid (raft HB.out hbn)
       clear hbn
       go_wp2_with fail
       refine (HRH.out _ _).mono ?_
       rintro en wn ⟨vn, rfl, rfl, hbn⟩
       have HB := Lib.hid (raft HB.out hbn)
       clear hbn
       go_wp2
       go_roundw
       case rel => exact ⟨.inr (.inr (.inr (by go_num))), HB⟩
       case measure => simp [intOf] <;> decide
     · go_wp2_with fail
       refine (H3.out _).mono ?_
       rintro en wn ⟨vn, rfl, rfl, hbn⟩
       have HB := Lib.hid (raft HB.out hbn)
       clear hbn
       go_wp2_with fail
       refine (H4.out _).mono ?_
       rintro en wn ⟨vn, rfl, rfl, hbn⟩
       have HB := Lib.hid (raft HB.out hbn)
       clear hbn
       go_wp2_with fail
       refine (HL.out _ (HPP.out.below HB.out)).mono ?_
       rintro en wn ⟨rfl, hbn⟩
       have HB := Lib.hid (raft HB.out hbn)
       clear hbn
       go_wp2
       go_ret
       exact ⟨rfl, HB.out⟩)
theorem walk_back (x n : Int) (w : World) (h1 : 0 ≤ x) (h2 : x < 18446744073709551616) (n1 : -9223372036854775808 ≤ n) (n2 : n ≤ 9223372036854775807) (hL : Tab16 w ∧ Pow10 w) : Calls Tryz.prog 8 #[.int .u64 x, .int .i64 n] w fun e w' => e = .returned (.bool true) ∧ Below w.heap.size w w' := by
  obtain ⟨b, rfl⟩ := Int.eq_ofNat_of_zero_le h1
  have hb : b < 18446744073709551616 := by omega
  have key : ∃ m : Nat, 17 ≤ m ∧ m ≤ 1100 ∧ ((decide (n < 17) = true ∧ m = 17) ∨ (decide (n < 17) = false ∧ decide (1100 < n) = true ∧ m = 17) ∨ (decide (n < 17) = false ∧ decide (1100 < n) = false ∧ n = (m : Int))) := by
    by_cases g1 : n < 17
    · exact ⟨17, by omega, by omega, .inl ⟨decide_eq_true g1, rfl⟩⟩
    · by_cases g2 : 1100 < n
      · exact ⟨17, by omega, by omega, .inr (.inl ⟨decide_eq_false g1, decide_eq_true g2, rfl⟩)⟩
      · exact ⟨n.toNat, by omega, by omega, .inr (.inr ⟨decide_eq_false g1, decide_eq_false g2, by omega⟩)⟩
  obtain ⟨m, m1, m2, hm⟩ := key
  exact back_num b n m hb m1 m2 hm w hL.1 hL.2
end Go.Proofs.YtiadjcilfljdaaaGreatDoor
