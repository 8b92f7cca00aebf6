/- Layer 5, the program: the reader: pointed. -/
import Derived.Test.YtiadjcilfljdaaaRdrB
namespace Go.Proofs.Ytiadjcilfljdaaa
set_option linter.unusedVariables false
set_option linter.unusedSimpArgs false
open Go.RowKit Verge

theorem isR_one {c : UInt8} {s : List UInt8} {k : UInt8} : isR [k] (c :: s) = if c.toNat = k.toNat then (true, s) else (false, c :: s) := by
  show (if c ∈ [k] then _ else _) = _
  by_cases h : c = k
  · subst h; rw [if_pos List.mem_cons_self, if_pos rfl]
  · rw [if_neg (by simpa using h), if_neg (fun e => h (UInt8.toNat_inj.1 e))]
theorem empty_bs (a : List UInt8) : (bs a).toList.isEmpty = a.isEmpty := by rw [ByteArray.toList_eq, bs_list]
theorem ptd_np {p : UInt8 → Bool} {r a r1 : List UInt8} (ha : r.takeWhile p = a) (hr : r.dropWhile p = r1) (h : ¬ ∃ c s, r1 = c :: s ∧ c.toNat = 46) : ptd p r = if a = [] then .error r1.length else .ok (a, none, r1) := by
  unfold ptd
  rw [ha, hr]
  cases r1 with
  | nil => rfl
  | cons c s => exact if_neg fun e => h ⟨c, s, rfl, e⟩
theorem ptd_pt {p : UInt8 → Bool} {r a s : List UInt8} {c : UInt8} (ha : r.takeWhile p = a) (hr : r.dropWhile p = c :: s) (h : c.toNat = 46) : ptd p r = if a = [] ∧ s.takeWhile p = [] then .error (s.dropWhile p).length else .ok (a, some (s.takeWhile p), s.dropWhile p) := by
  unfold ptd
  rw [ha, hr]
  exact if_pos h
/-- How many digits stand behind the point. -/
def kOf : Option (List UInt8) → Int
  | none => -1
  | some b => b.length
def Point (w : World) (b : Nat) (l : List UInt8) (x : Except Nat (List UInt8 × Option (List UInt8) × List UInt8)) (e : Ending) (w' : World) : Prop :=
  match x with
  | .error k => e = .panicked [{ v := .iface 53 (.agg #[.int .i64 ((l.length - k : Nat) : Int), .int .i64 50]), recovered := false }] ∧ w.grownBy w' (some b)
  | .ok (p, q, s) => e = .returned (.tuple #[.string (bs (p ++ ob q)), .int .i64 (kOf q)]) ∧ Rdr w' b l s ∧ w.grownBy w' (some b)

set_option maxHeartbeats 1000000 in
theorem pointed_any (w : World) (b : Nat) (l r : List UInt8) (B : Nat) (h : Rdr w b l r) (hl : l.length ≤ 100000) : Calls Try.prog 42 #[.pointer (some ⟨b, 0, none⟩), .int .u32 (B : Int)] w (Point w b l (ptd (pB B) r)) := by
  have h0 := digits_any w b l r B h hl
  have HF := Lib.hid (fun W r h => fail_any W b l r h)
  have HI := Lib.hid (fun W r h => is_any W b l r [46] h hl (by simp))
  have HD2 := Lib.hid (fun W r h => digits_any W b l r B h hl)
  rw [show bs [46] = { data := #[46] } from rfl] at HI
  obtain ⟨a, ha⟩ : ∃ a, r.takeWhile (pB B) = a := ⟨_, rfl⟩
  obtain ⟨r1, hr1⟩ : ∃ r1, r.dropWhile (pB B) = r1 := ⟨_, rfl⟩
  rw [ha, hr1] at h0
  have HD := Lib.hid h0
  have hla : a.length ≤ 100000 := by
    have h1 := (List.takeWhile_sublist (l := r) (pB B)).length_le
    rw [ha] at h1
    have := h.1
    omega
  have hla' : (bs a).size = a.length := bs_size a
  have hlr1 : r1.length ≤ 100000 := by
    have h1 := (List.dropWhile_sublist (l := r) (pB B)).length_le
    rw [hr1] at h1
    have := h.1
    omega
  clear h h0
  by_cases hp : ∃ c s, r1 = c :: s ∧ c.toNat = 46
  · obtain ⟨c, s, rfl, hc⟩ := hp
    rw [ptd_pt ha hr1 hc]
    clear ha hr1
    have hi : isR [46] (c :: s) = (true, s) := isR_one.trans (if_pos hc)
    have hI := fun W h => HI.out W (c :: s) h
    rw [hi] at hI
    have HI' := Lib.hid hI
    clear HI hi hI hc
    have hD := fun W h => HD2.out W s h
    obtain ⟨t, ht⟩ : ∃ t, s.takeWhile (pB B) = t := ⟨_, rfl⟩
    obtain ⟨u, hu⟩ : ∃ u, s.dropWhile (pB B) = u := ⟨_, rfl⟩
    rw [ht, hu] at hD
    rw [ht, hu]
    have HD' := Lib.hid hD
    have hlt : t.length ≤ 100000 := by
      have h1 := (List.takeWhile_sublist (l := s) (pB B)).length_le
      rw [ht] at h1
      rw [List.length_cons] at hlr1
      omega
    have hlt' : (bs t).size = t.length := bs_size t
    have hnb : ¬ 9223372036854775807 < (bs a).size + (bs t).size := by omega
    have HT := Lib.hid hlt'
    clear HD2 hD ht hu hlr1 hla hlt hlt' hla'
    have hcat : bs a ++ bs t = bs (a ++ t) := bs_append a t
    have hem := empty_bs (a ++ t)
    by_cases hn : a = [] ∧ t = []
    · rw [if_pos hn]
      have hem' : (bs (a ++ t)).toList.isEmpty = true := by rw [hem, hn.1, hn.2]; rfl
      clear hem hn
      generalize bs (a ++ t) = X at *
      generalize bs a = XA at *
      generalize bs t = XT at *
      go_enter Try.func42, Try.ntmps42
      go_wp2_with (first
        | (go_at_call 73; (with_reducible refine (HD.out).mono ?_); rintro e w1 ⟨rfl, h1⟩; have H1 := Lib.hid h1; clear h1)
        | (go_at_call 41; refine (HI'.out _ H1.out.1).mono ?_; rintro e w2 ⟨rfl, h2⟩; have H2 := Lib.hid h2; clear h2)
        | (go_at_call 73; refine (HD'.out _ H2.out.1).mono ?_; rintro e w3 ⟨rfl, h3⟩; have H3 := Lib.hid h3; clear h3)
        | (go_at_call 43; refine (HF.out _ _ H3.out.1).mono ?_; rintro e w4 ⟨rfl, rfl⟩))
      exact ⟨rfl, rfl, grownBy_trans H1.out.2 (grownBy_trans H2.out.2 H3.out.2)⟩
    · rw [if_neg hn]
      have hem' : (bs (a ++ t)).toList.isEmpty = false := by
        rw [hem]
        cases a with
        | nil => cases t with
          | nil => exact absurd ⟨rfl, rfl⟩ hn
          | cons => rfl
        | cons => rfl
      clear hem hn
      show Calls _ _ _ _ fun e w' => e = .returned (.tuple #[.string (bs (a ++ t)), .int .i64 (t.length : Int)]) ∧ Rdr w' b l u ∧ w.grownBy w' (some b)
      rw [← HT.out]
      clear HT
      generalize bs (a ++ t) = X at *
      generalize bs a = XA at *
      generalize bs t = XT at *
      go_enter Try.func42, Try.ntmps42
      go_wp2_with (first
        | (go_at_call 73; (with_reducible refine (HD.out).mono ?_); rintro e w1 ⟨rfl, h1⟩; have H1 := Lib.hid h1; clear h1)
        | (go_at_call 41; refine (HI'.out _ H1.out.1).mono ?_; rintro e w2 ⟨rfl, h2⟩; have H2 := Lib.hid h2; clear h2)
        | (go_at_call 73; refine (HD'.out _ H2.out.1).mono ?_; rintro e w3 ⟨rfl, h3⟩; have H3 := Lib.hid h3; clear h3))
      go_ret2
      exact ⟨rfl, H3.out.1, grownBy_trans H1.out.2 (grownBy_trans H2.out.2 H3.out.2)⟩
  · have hi : isR [46] r1 = (false, r1) := by
      cases r1 with
      | nil => rfl
      | cons c s => exact isR_one.trans (if_neg fun e => hp ⟨c, s, rfl, e⟩)
    have hI := fun W h => HI.out W r1 h
    rw [hi] at hI
    have HI' := Lib.hid hI
    have hpt := ptd_np ha hr1 hp
    rw [hpt]
    clear ha hr1 hpt HI hi hI hp HD2 hlr1 hla hla'
    have hem := empty_bs a
    by_cases hn : a = []
    · rw [if_pos hn]
      have hem' : (bs a).toList.isEmpty = true := by rw [hem, hn]; rfl
      clear hem hn
      generalize bs a = XA at *
      go_enter Try.func42, Try.ntmps42
      go_wp2_with (first
        | (go_at_call 73; (with_reducible refine (HD.out).mono ?_); rintro e w1 ⟨rfl, h1⟩; have H1 := Lib.hid h1; clear h1)
        | (go_at_call 41; refine (HI'.out _ H1.out.1).mono ?_; rintro e w2 ⟨rfl, h2⟩; have H2 := Lib.hid h2; clear h2)
        | (go_at_call 43; refine (HF.out _ _ H2.out.1).mono ?_; rintro e w4 ⟨rfl, rfl⟩))
      exact ⟨rfl, rfl, grownBy_trans H1.out.2 H2.out.2⟩
    · rw [if_neg hn]
      have hem' : (bs a).toList.isEmpty = false := bs_ne hn
      clear hem hn
      show Calls _ _ _ _ fun e w' => e = .returned (.tuple #[.string (bs (a ++ [])), .int .i64 (-1)]) ∧ Rdr w' b l r1 ∧ w.grownBy w' (some b)
      rw [List.append_nil]
      generalize bs a = XA at *
      go_enter Try.func42, Try.ntmps42
      go_wp2_with (first
        | (go_at_call 73; (with_reducible refine (HD.out).mono ?_); rintro e w1 ⟨rfl, h1⟩; have H1 := Lib.hid h1; clear h1)
        | (go_at_call 41; refine (HI'.out _ H1.out.1).mono ?_; rintro e w2 ⟨rfl, h2⟩; have H2 := Lib.hid h2; clear h2))
      go_ret2
      exact ⟨rfl, H2.out.1, grownBy_trans H1.out.2 H2.out.2⟩
end Go.Proofs.Ytiadjcilfljdaaa
