/- Programs of chapter 16: what is wrong with a line, by the program and by the document. -/
import Derived.Test.YtggjbbkcdbnckaaPrgE
namespace Go.Proofs.Ytggjbbkcdbnckaa
set_option linter.unusedVariables false
set_option linter.unusedSimpArgs false
open Go.RowKit Verge

theorem opn_rng (op : Int) : -1 ≤ opn op ∧ opn op ≤ 3 := by unfold opn; repeat' split <;> omega
theorem arr3_0 (W : World) (a b c : Int) : (Instr.index 67 (.agg #[.int .i64 a, .int .i64 b, .int .i64 c]) (.int .i64 0)).run Try.prog W = .ok (.int .i64 a) W := by kernel_rfl
theorem arr3_1 (W : World) (a b c : Int) : (Instr.index 67 (.agg #[.int .i64 a, .int .i64 b, .int .i64 c]) (.int .i64 1)).run Try.prog W = .ok (.int .i64 b) W := by kernel_rfl
theorem arr3_2 (W : World) (a b c : Int) : (Instr.index 67 (.agg #[.int .i64 a, .int .i64 b, .int .i64 c]) (.int .i64 2)).run Try.prog W = .ok (.int .i64 c) W := by kernel_rfl
/-- Is one of the first k operands wrong? -/
def badK (n lim a b c : Int) (k : Nat) : Prop := (0 < k ∧ badX n 0 a lim) ∨ (1 < k ∧ badX n 1 b lim) ∨ (2 < k ∧ badX n 2 c lim)
set_option maxRecDepth 100000 in
set_option maxHeartbeats 16000000 in
theorem checkLine_raw (vars i : Int) (vC vL : Value) (nc : Nat) (op a b c m : Int) (w : World) (hC : ∃ A c, vC = .slice A nc c) (h0 : 0 ≤ vars) (h1 : vars ≤ 32) (h2 : 0 ≤ i) (h3 : i ≤ 100000) :
    Calls Try.prog 17 #[.agg #[.int .i64 vars, vC, vL], .int .i64 i, .agg #[.int .i64 op, .int .i64 a, .int .i64 b, .int .i64 c, .int .i64 m]] w
      fun e w' => e = .returned (.int .i64 (lineE vars nc i ⟨op, a, b, c, m⟩)) ∧ Below w.heap.size w w' := by
  obtain ⟨AC, cC, rfl⟩ := hC
  obtain ⟨lim, hlim⟩ : ∃ lim, vars + i = lim := ⟨_, rfl⟩
  have HO := Lib.hid (fun W => operands_any op W)
  have hbl := baft (bnew w (.cells #[.int .i64 vars, .slice AC nc cC, vL] 29)) (bnew _ (.cells #[.int .i64 op, .int .i64 a, .int .i64 b, .int .i64 c, .int .i64 m] 43))
  have HB := Lib.hid hbl
  obtain ⟨r, hr⟩ : ∃ r, lineE vars nc i ⟨op, a, b, c, m⟩ = r := ⟨_, rfl⟩
  rw [hr]
  unfold lineE at hr
  simp only at hr
  rw [hlim] at hr
  have hrng := opn_rng op
  by_cases hn : opn op < 0
  · rw [if_pos hn] at hr
    subst hr
    generalize opn op = n at *
    clear hbl hrng
    go_enter Try.func17, Try.ntmps17
    go_wp2_with fail
    refine (HO.out _).mono ?_
    rintro en w1 ⟨rfl, rfl⟩
    go_wp2
    go_ret
    exact ⟨rfl, HB.out⟩
  · rw [if_neg hn] at hr
    generalize opn op = n at *
    have HE : Hid (((badX n 0 a lim ∨ badX n 1 b lim ∨ badX n 2 c lim) → r = 164) ∧ (¬ (badX n 0 a lim ∨ badX n 1 b lim ∨ badX n 2 c lim) → (if op = 1 then (if m < 0 ∨ (nc : Int) ≤ m then 164 else 0)
      else if op = 12 then (if m < -1024 ∨ 1024 < m then 165 else 0)
      else if m ≠ 0 then 164 else 0) = r)) := Lib.hid ⟨fun h => by rw [if_pos h] at hr; exact hr.symm, fun h => by rw [if_neg h] at hr; exact hr⟩
    clear hr hbl
    go_enter Try.func17, Try.ntmps17
    go_wp2_with fail
    refine (HO.out _).mono ?_
    rintro en w1 ⟨rfl, rfl⟩
    go_wp2
    go_loop [8, 9, 22] (fun _ _ kv => ∃ k : Nat, k ≤ 3 ∧ kv = .int .i64 k ∧ Hid (¬ badK n lim a b c k)) (fun _ _ kv => 3 - (intOf kv).toNat)
    case atStart => exact ⟨0, by omega, rfl, fun h => by unfold badK at h; omega⟩
    case round =>
    obtain ⟨k, hk, rfl, hK⟩ := hrel
    have hK := hK.out
    have t0 := arr3_0
    have t1 := arr3_1
    have t2 := arr3_2
    rcases k with _ | _ | _ | _ | k
    · by_cases hb : badX n 0 a lim
      · have hbad : badX n 0 a lim ∨ badX n 1 b lim ∨ badX n 2 c lim := by first | exact .inl hb | exact .inr (.inl hb) | exact .inr (.inr hb)
        have hE := HE.out.1 hbad
        subst hE
        clear hbad hK HE
        unfold badX at hb
        rcases hb with ⟨h1, h2⟩ | ⟨h1, h2⟩
        · by_cases h3 : a < 0
          · clear h2
            go_wp2
            go_ret
            exact ⟨rfl, HB.out⟩
          · have h4 : lim ≤ a := by omega
            clear h2
            go_wp2
            go_ret
            exact ⟨rfl, HB.out⟩
        · have h3 : ¬ ((0 : Int) < n) := by omega
          have h4 : (a == 0) = false := beq_eq_false_iff_ne.2 h2
          go_wp2
          go_ret
          exact ⟨rfl, HB.out⟩
      · have hK2 : ¬ badK n lim a b c 1 := by
          intro h
          rcases h with ⟨_, h⟩ | ⟨_, h⟩ | ⟨_, h⟩
          all_goals first | omega | exact hb h | exact hK (.inl ⟨by omega, h⟩) | exact hK (.inr (.inl ⟨by omega, h⟩))
        have HK2 := Lib.hid hK2
        clear hK hK2
        unfold badX at hb
        by_cases h1 : (0 : Int) < n
        · have h2 : ¬ a < 0 := by omega
          have h3 : ¬ lim ≤ a := by omega
          clear hb
          go_wp2
          go_round
          case rel => exact ⟨1, by omega, rfl, HK2.out⟩
          case measure => simp [intOf]
        · have h2 : a = 0 := by omega
          subst h2
          have h3 : n ≤ 0 := by omega
          clear hb
          go_wp2
          go_round
          case rel => exact ⟨1, by omega, rfl, HK2.out⟩
          case measure => simp [intOf]
    · by_cases hb : badX n 1 b lim
      · have hbad : badX n 0 a lim ∨ badX n 1 b lim ∨ badX n 2 c lim := by first | exact .inl hb | exact .inr (.inl hb) | exact .inr (.inr hb)
        have hE := HE.out.1 hbad
        subst hE
        clear hbad hK HE
        unfold badX at hb
        rcases hb with ⟨h1, h2⟩ | ⟨h1, h2⟩
        · by_cases h3 : b < 0
          · clear h2
            go_wp2
            go_ret
            exact ⟨rfl, HB.out⟩
          · have h4 : lim ≤ b := by omega
            clear h2
            go_wp2
            go_ret
            exact ⟨rfl, HB.out⟩
        · have h3 : ¬ ((1 : Int) < n) := by omega
          have h4 : (b == 0) = false := beq_eq_false_iff_ne.2 h2
          go_wp2
          go_ret
          exact ⟨rfl, HB.out⟩
      · have hK2 : ¬ badK n lim a b c 2 := by
          intro h
          rcases h with ⟨_, h⟩ | ⟨_, h⟩ | ⟨_, h⟩
          all_goals first | omega | exact hb h | exact hK (.inl ⟨by omega, h⟩) | exact hK (.inr (.inl ⟨by omega, h⟩))
        have HK2 := Lib.hid hK2
        clear hK hK2
        unfold badX at hb
        by_cases h1 : (1 : Int) < n
        · have h2 : ¬ b < 0 := by omega
          have h3 : ¬ lim ≤ b := by omega
          clear hb
          go_wp2
          go_round
          case rel => exact ⟨2, by omega, rfl, HK2.out⟩
          case measure => simp [intOf]
        · have h2 : b = 0 := by omega
          subst h2
          have h3 : n ≤ 1 := by omega
          clear hb
          go_wp2
          go_round
          case rel => exact ⟨2, by omega, rfl, HK2.out⟩
          case measure => simp [intOf]
    · by_cases hb : badX n 2 c lim
      · have hbad : badX n 0 a lim ∨ badX n 1 b lim ∨ badX n 2 c lim := by first | exact .inl hb | exact .inr (.inl hb) | exact .inr (.inr hb)
        have hE := HE.out.1 hbad
        subst hE
        clear hbad hK HE
        unfold badX at hb
        rcases hb with ⟨h1, h2⟩ | ⟨h1, h2⟩
        · by_cases h3 : c < 0
          · clear h2
            go_wp2
            go_ret
            exact ⟨rfl, HB.out⟩
          · have h4 : lim ≤ c := by omega
            clear h2
            go_wp2
            go_ret
            exact ⟨rfl, HB.out⟩
        · have h3 : ¬ ((2 : Int) < n) := by omega
          have h4 : (c == 0) = false := beq_eq_false_iff_ne.2 h2
          go_wp2
          go_ret
          exact ⟨rfl, HB.out⟩
      · have hK2 : ¬ badK n lim a b c 3 := by
          intro h
          rcases h with ⟨_, h⟩ | ⟨_, h⟩ | ⟨_, h⟩
          all_goals first | omega | exact hb h | exact hK (.inl ⟨by omega, h⟩) | exact hK (.inr (.inl ⟨by omega, h⟩))
        have HK2 := Lib.hid hK2
        clear hK hK2
        unfold badX at hb
        by_cases h1 : (2 : Int) < n
        · have h2 : ¬ c < 0 := by omega
          have h3 : ¬ lim ≤ c := by omega
          clear hb
          go_wp2
          go_round
          case rel => exact ⟨3, by omega, rfl, HK2.out⟩
          case measure => simp [intOf]
        · have h2 : c = 0 := by omega
          subst h2
          have h3 : n ≤ 2 := by omega
          clear hb
          go_wp2
          go_round
          case rel => exact ⟨3, by omega, rfl, HK2.out⟩
          case measure => simp [intOf]
    · have hgood : ¬ (badX n 0 a lim ∨ badX n 1 b lim ∨ badX n 2 c lim) := by
        rintro (h | h | h)
        · exact hK (.inl ⟨by omega, h⟩)
        · exact hK (.inr (.inl ⟨by omega, h⟩))
        · exact hK (.inr (.inr ⟨by omega, h⟩))
      have hE := HE.out.2 hgood
      clear hgood hK HE
      by_cases c1 : op = 1
      · subst c1
        rw [if_pos rfl] at hE
        by_cases c2 : m < 0
        · rw [if_pos (.inl c2)] at hE
          subst hE
          go_wp2
          go_ret
          exact ⟨rfl, HB.out⟩
        · by_cases c3 : (nc : Int) ≤ m
          · rw [if_pos (.inr c3)] at hE
            subst hE
            go_wp2
            go_ret
            exact ⟨rfl, HB.out⟩
          · rw [if_neg (by omega)] at hE
            subst hE
            go_wp2
            go_ret
            exact ⟨rfl, HB.out⟩
      · have b1 : (op == 1) = false := beq_eq_false_iff_ne.2 c1
        rw [if_neg c1] at hE
        by_cases c2 : op = 12
        · subst c2
          rw [if_pos rfl] at hE
          by_cases c3 : m < -1024
          · rw [if_pos (.inl c3)] at hE
            subst hE
            go_wp2
            go_ret
            exact ⟨rfl, HB.out⟩
          · by_cases c4 : 1024 < m
            · rw [if_pos (.inr c4)] at hE
              subst hE
              go_wp2
              go_ret
              exact ⟨rfl, HB.out⟩
            · rw [if_neg (by omega)] at hE
              subst hE
              go_wp2
              go_ret
              exact ⟨rfl, HB.out⟩
        · have b2 : (op == 12) = false := beq_eq_false_iff_ne.2 c2
          rw [if_neg c2] at hE
          by_cases c3 : m = 0
          · subst c3
            rw [if_neg (by simp)] at hE
            subst hE
            go_wp2
            go_ret
            exact ⟨rfl, HB.out⟩
          · have b3 : (m == 0) = false := beq_eq_false_iff_ne.2 c3
            have b4 : (m != 0) = true := by rw [bne, b3]; rfl
            have b5 : (op != 1) = true := by rw [bne, b1]; rfl
            have b6 : (op != 12) = true := by rw [bne, b2]; rfl
            rw [if_pos c3] at hE
            subst hE
            go_wp2
            go_ret
            exact ⟨rfl, HB.out⟩
    · omega
theorem operand16_any (op a b c m : Int) (k : Nat) (w : World) : Calls Try.prog 30 #[.agg #[.int .i64 op, .int .i64 a, .int .i64 b, .int .i64 c, .int .i64 m], .int .i64 (k : Int)] w
    fun e w' => e = .returned (.int .i64 (if k = 0 then a else if k = 1 then b else c)) ∧ Below w.heap.size w w' := by
  have HB := Lib.hid (fun o => bnew w o)
  by_cases h0 : k = 0
  · subst h0
    rw [if_pos rfl]
    go_enter Try.func30, Try.ntmps30
    go_wp2
    go_ret
    exact ⟨rfl, HB.out _⟩
  · rw [if_neg h0]
    have b0 : ((k : Int) == 0) = false := beq_eq_false_iff_ne.2 (by omega)
    by_cases h1 : k = 1
    · subst h1
      rw [if_pos rfl]
      go_enter Try.func30, Try.ntmps30
      go_wp2
      go_ret
      exact ⟨rfl, HB.out _⟩
    · rw [if_neg h1]
      have b1 : ((k : Int) == 1) = false := beq_eq_false_iff_ne.2 (by omega)
      clear h0 h1
      go_enter Try.func30, Try.ntmps30
      go_wp2
      go_ret
      exact ⟨rfl, HB.out _⟩
/-- The boxes of 'line' stay as they are. -/
structure Bxs (w wr : World) (vars op a b c m : Int) (vC vL : Value) : Prop where
  bl : Below w.heap.size w wr
  p : wr.heap[w.heap.size]? = some (.cells #[.int .i64 vars, vC, vL] 25 (0, 0))
  l : wr.heap[w.heap.size + 1]? = some (.cells #[.int .i64 op, .int .i64 a, .int .i64 b, .int .i64 c, .int .i64 m] 48 (0, 0))
theorem Bxs.later {w wr w' : World} {vars op a b c m : Int} {vC vL : Value} (h : Bxs w wr vars op a b c m vC vL) (hb : Below wr.heap.size wr w') : Bxs w w' vars op a b c m vC vL :=
  ⟨baft h.bl hb, (hb.block _ (blk_lt h.p)).trans h.p, (hb.block _ (blk_lt h.l)).trans h.l⟩
theorem blk_cells5 {w : World} {r : Nat} {a b c d e : Value} {t : TypeId} (h : w.heap[r]? = some (.cells #[a, b, c, d, e] t (0, 0))) :
    w.cell? ⟨r, 0, none⟩ = some a ∧ w.cell? ⟨r, 1, none⟩ = some b ∧ w.cell? ⟨r, 2, none⟩ = some c ∧ w.cell? ⟨r, 3, none⟩ = some d ∧ w.cell? ⟨r, 4, none⟩ = some e := by
  simp [World.cell?, h]
theorem Bxs.cells {w wr : World} {vars op a b c m : Int} {vC vL : Value} (h : Bxs w wr vars op a b c m vC vL) :
    (wr.cell? ⟨w.heap.size, 0, none⟩ = some (.int .i64 vars) ∧ wr.cell? ⟨w.heap.size, 1, none⟩ = some vC) ∧ wr.cell? ⟨w.heap.size + 1, 0, none⟩ = some (.int .i64 op) ∧ wr.cell? ⟨w.heap.size + 1, 1, none⟩ = some (.int .i64 a) ∧ wr.cell? ⟨w.heap.size + 1, 2, none⟩ = some (.int .i64 b) ∧
    wr.cell? ⟨w.heap.size + 1, 3, none⟩ = some (.int .i64 c) ∧ wr.cell? ⟨w.heap.size + 1, 4, none⟩ = some (.int .i64 m) := by
  obtain ⟨k0, k1, _⟩ := blk_cells3 h.p
  obtain ⟨m0, m1, m2, m3, m4⟩ := blk_cells5 h.l
  exact ⟨⟨k0, k1⟩, m0, m1, m2, m3, m4⟩
set_option maxRecDepth 100000 in
set_option maxHeartbeats 16000000 in
theorem line16_raw (vars : Int) (i : Nat) (vC vL : Value) (nc : Nat) (ls : List Ln) (op a b c m : Int) (w : World) (hC : ∃ A c, vC = .slice A nc c) (hL : RL w vL ls) (hi : ls[i]? = some ⟨op, a, b, c, m⟩) (h0 : 0 ≤ vars) (h1 : vars ≤ 32) (h3 : i ≤ 100000) :
    Calls Try.prog 20 #[.agg #[.int .i64 vars, vC, vL], .int .i64 (i : Int)] w
      fun e w' => e = .returned (.int .i64 (lineE vars nc i ⟨op, a, b, c, m⟩)) ∧ Below w.heap.size w w' := by
  obtain ⟨AC, cC, rfl⟩ := hC
  obtain ⟨A, cl, rfl⟩ := hL.form
  obtain ⟨bb, o, rfl, d0, d1, d2, d3, d4⟩ := hL.at hi
  have hil := (List.getElem?_eq_some_iff.1 hi).1
  generalize ls.length = n' at *
  have hlt : (i : Int) < (n' : Int) := by omega
  simp only at d0 d1 d2 d3 d4
  have hz := lt_of_cell d0
  obtain ⟨lim, hlim⟩ : ∃ lim, vars + (i : Int) = lim := ⟨_, rfl⟩
  have HO := Lib.hid (fun W => operands16_any op W)
  have HP := Lib.hid (fun W k => operand16_any op a b c m k W)
  have hI : Bxs w ((w.alloc (.cells #[.int .i64 vars, .slice AC nc cC, .slice (some ⟨bb, o, none⟩) n' cl] 25)).alloc (.cells #[.int .i64 op, .int .i64 a, .int .i64 b, .int .i64 c, .int .i64 m] 48)) vars op a b c m (.slice AC nc cC) (.slice (some ⟨bb, o, none⟩) n' cl) :=
    ⟨baft (bnew w _) (bnew _ _), ((bnew _ _).block _ (by simp)).trans (new_box w _ _), two_new w _ _ _⟩
  have HI := Lib.hid hI
  obtain ⟨r, hr⟩ : ∃ r, lineE vars nc i ⟨op, a, b, c, m⟩ = r := ⟨_, rfl⟩
  rw [hr]
  unfold lineE at hr
  simp only at hr
  rw [hlim] at hr
  have hrng := opn_rng op
  clear hL hi hil hI
  by_cases hn : opn op < 0
  · rw [if_pos hn] at hr
    subst hr
    generalize opn op = n at *
    clear hrng
    go_enter Try.func20, Try.ntmps20
    go_wp2_with fail
    refine (HO.out _).mono ?_
    rintro en w1 ⟨rfl, rfl⟩
    go_wp2
    go_ret
    exact ⟨rfl, HI.out.bl⟩
  · rw [if_neg hn] at hr
    generalize opn op = n at *
    have HE : Hid (((badX n 0 a lim ∨ badX n 1 b lim ∨ badX n 2 c lim) → r = 164) ∧ (¬ (badX n 0 a lim ∨ badX n 1 b lim ∨ badX n 2 c lim) → (if op = 1 then (if m < 0 ∨ (nc : Int) ≤ m then 164 else 0)
      else if op = 12 then (if m < -1024 ∨ 1024 < m then 165 else 0)
      else if m ≠ 0 then 164 else 0) = r)) := Lib.hid ⟨fun h => by rw [if_pos h] at hr; exact hr.symm, fun h => by rw [if_neg h] at hr; exact hr⟩
    clear hr
    go_enter Try.func20, Try.ntmps20
    go_wp2_with fail
    refine (HO.out _).mono ?_
    rintro en w1 ⟨rfl, rfl⟩
    go_wp2
    generalize ((w.alloc (.cells #[.int .i64 vars, .slice AC nc cC, .slice (some ⟨bb, o, none⟩) n' cl] 25)).alloc (.cells #[.int .i64 op, .int .i64 a, .int .i64 b, .int .i64 c, .int .i64 m] 48)) = W0 at *
    clear d0 d1 d2 d3 d4 hz
    go_loopw [7, 8] (fun kv _ wr => ∃ k : Nat, k ≤ 3 ∧ kv = .int .i64 k ∧ Hid (¬ badK n lim a b c k) ∧ Hid (Bxs w wr vars op a b c m (.slice AC nc cC) (.slice (some ⟨bb, o, none⟩) n' cl))) (fun kv _ _ => 3 - (intOf kv).toNat)
    case atStart => exact ⟨0, by omega, rfl, fun h => by unfold badK at h; omega, HI.out⟩
    case round =>
    clear HI
    obtain ⟨k, hk, rfl, hK, HI⟩ := hrel
    have hK := hK.out
    obtain ⟨⟨p0, p1⟩, s0, s1, s2, s3, s4⟩ := HI.out.cells
    rcases k with _ | _ | _ | _ | k
    · by_cases hb : badX n 0 a lim
      · have hbad : badX n 0 a lim ∨ badX n 1 b lim ∨ badX n 2 c lim := by first | exact .inl hb | exact .inr (.inl hb) | exact .inr (.inr hb)
        have hE := HE.out.1 hbad
        subst hE
        clear hbad hK HE
        unfold badX at hb
        rcases hb with ⟨h1, h2⟩ | ⟨h1, h2⟩
        · by_cases h3 : a < 0
          · clear h2
            go_wp2_with fail
            refine (HP.out _ 0).mono ?_
            rintro en w9 ⟨rfl, hb9⟩
            have HI9 := Lib.hid (HI.out.later hb9)
            clear hb9 HI
            obtain ⟨p0, s0, s1, s2, s3, s4⟩ := HI9.out.cells
            go_wp2
            go_ret
            exact ⟨rfl, HI9.out.bl⟩
          · have h4 : lim ≤ a := by omega
            clear h2
            go_wp2_with fail
            refine (HP.out _ 0).mono ?_
            rintro en w9 ⟨rfl, hb9⟩
            have HI9 := Lib.hid (HI.out.later hb9)
            clear hb9 HI
            obtain ⟨p0, s0, s1, s2, s3, s4⟩ := HI9.out.cells
            go_wp2
            go_ret
            exact ⟨rfl, HI9.out.bl⟩
        · have h3 : ¬ ((0 : Int) < n) := by omega
          have h4 : (a == 0) = false := beq_eq_false_iff_ne.2 h2
          go_wp2_with fail
          refine (HP.out _ 0).mono ?_
          rintro en w9 ⟨rfl, hb9⟩
          have HI9 := Lib.hid (HI.out.later hb9)
          clear hb9 HI
          obtain ⟨p0, s0, s1, s2, s3, s4⟩ := HI9.out.cells
          go_wp2
          go_ret
          exact ⟨rfl, HI9.out.bl⟩
      · have hK2 : ¬ badK n lim a b c 1 := by
          intro h
          rcases h with ⟨_, h⟩ | ⟨_, h⟩ | ⟨_, h⟩
          all_goals first | omega | exact hb h | exact hK (.inl ⟨by omega, h⟩) | exact hK (.inr (.inl ⟨by omega, h⟩))
        have HK2 := Lib.hid hK2
        clear hK hK2
        unfold badX at hb
        by_cases h1 : (0 : Int) < n
        · have h2 : ¬ a < 0 := by omega
          have h3 : ¬ lim ≤ a := by omega
          clear hb
          go_wp2_with fail
          refine (HP.out _ 0).mono ?_
          rintro en w9 ⟨rfl, hb9⟩
          have HI9 := Lib.hid (HI.out.later hb9)
          clear hb9 HI
          obtain ⟨p0, s0, s1, s2, s3, s4⟩ := HI9.out.cells
          go_wp2
          go_roundw
          case rel => exact ⟨1, by omega, by go_num, HK2.out, HI9.out⟩
          case measure => simp [intOf]
        · have h2 : a = 0 := by omega
          subst h2
          have h3 : n ≤ 0 := by omega
          clear hb
          go_wp2_with fail
          refine (HP.out _ 0).mono ?_
          rintro en w9 ⟨rfl, hb9⟩
          have HI9 := Lib.hid (HI.out.later hb9)
          clear hb9 HI
          obtain ⟨p0, s0, s1, s2, s3, s4⟩ := HI9.out.cells
          go_wp2
          go_roundw
          case rel => exact ⟨1, by omega, by go_num, HK2.out, HI9.out⟩
          case measure => simp [intOf]
    · by_cases hb : badX n 1 b lim
      · have hbad : badX n 0 a lim ∨ badX n 1 b lim ∨ badX n 2 c lim := by first | exact .inl hb | exact .inr (.inl hb) | exact .inr (.inr hb)
        have hE := HE.out.1 hbad
        subst hE
        clear hbad hK HE
        unfold badX at hb
        rcases hb with ⟨h1, h2⟩ | ⟨h1, h2⟩
        · by_cases h3 : b < 0
          · clear h2
            go_wp2_with fail
            refine (HP.out _ 1).mono ?_
            rintro en w9 ⟨rfl, hb9⟩
            have HI9 := Lib.hid (HI.out.later hb9)
            clear hb9 HI
            obtain ⟨p0, s0, s1, s2, s3, s4⟩ := HI9.out.cells
            go_wp2
            go_ret
            exact ⟨rfl, HI9.out.bl⟩
          · have h4 : lim ≤ b := by omega
            clear h2
            go_wp2_with fail
            refine (HP.out _ 1).mono ?_
            rintro en w9 ⟨rfl, hb9⟩
            have HI9 := Lib.hid (HI.out.later hb9)
            clear hb9 HI
            obtain ⟨p0, s0, s1, s2, s3, s4⟩ := HI9.out.cells
            go_wp2
            go_ret
            exact ⟨rfl, HI9.out.bl⟩
        · have h3 : ¬ ((1 : Int) < n) := by omega
          have h4 : (b == 0) = false := beq_eq_false_iff_ne.2 h2
          go_wp2_with fail
          refine (HP.out _ 1).mono ?_
          rintro en w9 ⟨rfl, hb9⟩
          have HI9 := Lib.hid (HI.out.later hb9)
          clear hb9 HI
          obtain ⟨p0, s0, s1, s2, s3, s4⟩ := HI9.out.cells
          go_wp2
          go_ret
          exact ⟨rfl, HI9.out.bl⟩
      · have hK2 : ¬ badK n lim a b c 2 := by
          intro h
          rcases h with ⟨_, h⟩ | ⟨_, h⟩ | ⟨_, h⟩
          all_goals first | omega | exact hb h | exact hK (.inl ⟨by omega, h⟩) | exact hK (.inr (.inl ⟨by omega, h⟩))
        have HK2 := Lib.hid hK2
        clear hK hK2
        unfold badX at hb
        by_cases h1 : (1 : Int) < n
        · have h2 : ¬ b < 0 := by omega
          have h3 : ¬ lim ≤ b := by omega
          clear hb
          go_wp2_with fail
          refine (HP.out _ 1).mono ?_
          rintro en w9 ⟨rfl, hb9⟩
          have HI9 := Lib.hid (HI.out.later hb9)
          clear hb9 HI
          obtain ⟨p0, s0, s1, s2, s3, s4⟩ := HI9.out.cells
          go_wp2
          go_roundw
          case rel => exact ⟨2, by omega, by go_num, HK2.out, HI9.out⟩
          case measure => simp [intOf]
        · have h2 : b = 0 := by omega
          subst h2
          have h3 : n ≤ 1 := by omega
          clear hb
          go_wp2_with fail
          refine (HP.out _ 1).mono ?_
          rintro en w9 ⟨rfl, hb9⟩
          have HI9 := Lib.hid (HI.out.later hb9)
          clear hb9 HI
          obtain ⟨p0, s0, s1, s2, s3, s4⟩ := HI9.out.cells
          go_wp2
          go_roundw
          case rel => exact ⟨2, by omega, by go_num, HK2.out, HI9.out⟩
          case measure => simp [intOf]
    · by_cases hb : badX n 2 c lim
      · have hbad : badX n 0 a lim ∨ badX n 1 b lim ∨ badX n 2 c lim := by first | exact .inl hb | exact .inr (.inl hb) | exact .inr (.inr hb)
        have hE := HE.out.1 hbad
        subst hE
        clear hbad hK HE
        unfold badX at hb
        rcases hb with ⟨h1, h2⟩ | ⟨h1, h2⟩
        · by_cases h3 : c < 0
          · clear h2
            go_wp2_with fail
            refine (HP.out _ 2).mono ?_
            rintro en w9 ⟨rfl, hb9⟩
            have HI9 := Lib.hid (HI.out.later hb9)
            clear hb9 HI
            obtain ⟨p0, s0, s1, s2, s3, s4⟩ := HI9.out.cells
            go_wp2
            go_ret
            exact ⟨rfl, HI9.out.bl⟩
          · have h4 : lim ≤ c := by omega
            clear h2
            go_wp2_with fail
            refine (HP.out _ 2).mono ?_
            rintro en w9 ⟨rfl, hb9⟩
            have HI9 := Lib.hid (HI.out.later hb9)
            clear hb9 HI
            obtain ⟨p0, s0, s1, s2, s3, s4⟩ := HI9.out.cells
            go_wp2
            go_ret
            exact ⟨rfl, HI9.out.bl⟩
        · have h3 : ¬ ((2 : Int) < n) := by omega
          have h4 : (c == 0) = false := beq_eq_false_iff_ne.2 h2
          go_wp2_with fail
          refine (HP.out _ 2).mono ?_
          rintro en w9 ⟨rfl, hb9⟩
          have HI9 := Lib.hid (HI.out.later hb9)
          clear hb9 HI
          obtain ⟨p0, s0, s1, s2, s3, s4⟩ := HI9.out.cells
          go_wp2
          go_ret
          exact ⟨rfl, HI9.out.bl⟩
      · have hK2 : ¬ badK n lim a b c 3 := by
          intro h
          rcases h with ⟨_, h⟩ | ⟨_, h⟩ | ⟨_, h⟩
          all_goals first | omega | exact hb h | exact hK (.inl ⟨by omega, h⟩) | exact hK (.inr (.inl ⟨by omega, h⟩))
        have HK2 := Lib.hid hK2
        clear hK hK2
        unfold badX at hb
        by_cases h1 : (2 : Int) < n
        · have h2 : ¬ c < 0 := by omega
          have h3 : ¬ lim ≤ c := by omega
          clear hb
          go_wp2_with fail
          refine (HP.out _ 2).mono ?_
          rintro en w9 ⟨rfl, hb9⟩
          have HI9 := Lib.hid (HI.out.later hb9)
          clear hb9 HI
          obtain ⟨p0, s0, s1, s2, s3, s4⟩ := HI9.out.cells
          go_wp2
          go_roundw
          case rel => exact ⟨3, by omega, by go_num, HK2.out, HI9.out⟩
          case measure => simp [intOf]
        · have h2 : c = 0 := by omega
          subst h2
          have h3 : n ≤ 2 := by omega
          clear hb
          go_wp2_with fail
          refine (HP.out _ 2).mono ?_
          rintro en w9 ⟨rfl, hb9⟩
          have HI9 := Lib.hid (HI.out.later hb9)
          clear hb9 HI
          obtain ⟨p0, s0, s1, s2, s3, s4⟩ := HI9.out.cells
          go_wp2
          go_roundw
          case rel => exact ⟨3, by omega, by go_num, HK2.out, HI9.out⟩
          case measure => simp [intOf]
    · have hgood : ¬ (badX n 0 a lim ∨ badX n 1 b lim ∨ badX n 2 c lim) := by
        rintro (h | h | h)
        · exact hK (.inl ⟨by omega, h⟩)
        · exact hK (.inr (.inl ⟨by omega, h⟩))
        · exact hK (.inr (.inr ⟨by omega, h⟩))
      have hE := HE.out.2 hgood
      clear hgood hK HE
      by_cases c1 : op = 1
      · subst c1
        rw [if_pos rfl] at hE
        by_cases c2 : m < 0
        · rw [if_pos (.inl c2)] at hE
          subst hE
          go_wp2
          go_ret
          exact ⟨rfl, HI.out.bl⟩
        · by_cases c3 : (nc : Int) ≤ m
          · rw [if_pos (.inr c3)] at hE
            subst hE
            go_wp2
            go_ret
            exact ⟨rfl, HI.out.bl⟩
          · rw [if_neg (by omega)] at hE
            subst hE
            go_wp2
            go_ret
            exact ⟨rfl, HI.out.bl⟩
      · have b1 : (op == 1) = false := beq_eq_false_iff_ne.2 c1
        rw [if_neg c1] at hE
        by_cases c2 : op = 12
        · subst c2
          rw [if_pos rfl] at hE
          by_cases c3 : m < -1024
          · rw [if_pos (.inl c3)] at hE
            subst hE
            go_wp2
            go_ret
            exact ⟨rfl, HI.out.bl⟩
          · by_cases c4 : 1024 < m
            · rw [if_pos (.inr c4)] at hE
              subst hE
              go_wp2
              go_ret
              exact ⟨rfl, HI.out.bl⟩
            · rw [if_neg (by omega)] at hE
              subst hE
              go_wp2
              go_ret
              exact ⟨rfl, HI.out.bl⟩
        · have b2 : (op == 12) = false := beq_eq_false_iff_ne.2 c2
          rw [if_neg c2] at hE
          by_cases c3 : m = 0
          · subst c3
            rw [if_neg (by simp)] at hE
            subst hE
            go_wp2
            go_ret
            exact ⟨rfl, HI.out.bl⟩
          · have b3 : (m == 0) = false := beq_eq_false_iff_ne.2 c3
            have b4 : (m != 0) = true := by rw [bne, b3]; rfl
            have b5 : (op != 1) = true := by rw [bne, b1]; rfl
            have b6 : (op != 12) = true := by rw [bne, b2]; rfl
            rw [if_pos c3] at hE
            subst hE
            go_wp2
            go_ret
            exact ⟨rfl, HI.out.bl⟩
    · omega
end Go.Proofs.Ytggjbbkcdbnckaa
