/- Layer 5, the program: the reader: digits, some. -/
import Derived.Test.YtiadjcilfljdaaaRdrA
namespace Go.Proofs.Ytiadjcilfljdaaa
set_option linter.unusedVariables false
set_option linter.unusedSimpArgs false
open Go.RowKit Verge

theorem take_at {p : UInt8 → Bool} : ∀ {r : List UInt8} {i : Nat} {c : UInt8}, (∀ k < i, ∀ d, r[k]? = some d → p d = true) → r[i]? = some c → p c = false → r.takeWhile p = r.take i ∧ r.dropWhile p = r.drop i
  | [], i, c, _, h, _ => by simp at h
  | x :: xs, 0, c, _, h, hp => by
    have hx : x = c := by simpa using h
    subst hx
    exact ⟨by rw [List.takeWhile_cons_of_neg (by simp [hp])]; rfl, by rw [List.dropWhile_cons_of_neg (by simp [hp])]; rfl⟩
  | x :: xs, i + 1, c, h, hc, hp => by
    have hx : p x = true := h 0 (by omega) x rfl
    have ih := take_at (r := xs) (i := i) (c := c) (fun k hk d hd => h (k + 1) (by omega) d hd) hc hp
    exact ⟨by rw [List.takeWhile_cons_of_pos hx, List.take_succ_cons, ih.1], by rw [List.dropWhile_cons_of_pos hx, List.drop_succ_cons, ih.2]⟩
theorem take_end {p : UInt8 → Bool} {r : List UInt8} (h : ∀ k < r.length, ∀ d, r[k]? = some d → p d = true) : r.takeWhile p = r ∧ r.dropWhile p = [] := by
  have : ∀ d ∈ r, p d = true := fun d hd => by
    obtain ⟨k, hk, e⟩ := List.getElem_of_mem hd
    exact h k hk d (by rw [List.getElem?_eq_getElem hk, e])
  clear h
  induction r with
  | nil => exact ⟨rfl, rfl⟩
  | cons x xs ih =>
    have hx := this x List.mem_cons_self
    have := ih fun d hd => this d (List.mem_cons_of_mem _ hd)
    exact ⟨by rw [List.takeWhile_cons_of_pos hx, this.1], by rw [List.dropWhile_cons_of_pos hx, this.2]⟩

/-- The digits of a base. -/
def pB (B : Nat) (c : UInt8) : Bool := decide (vl c < B)
theorem pB10 : pB 10 = isD := by
  funext c
  unfold pB vl
  by_cases h : isX c = true
  · rw [if_pos h, Bool.eq_iff_iff, decide_eq_true_iff, isD_iff]
    have := isX_iff.1 h
    unfold dvl
    rcases this with h' | h' | h'
    · rw [if_pos (by omega)]; omega
    · rw [if_neg (by omega), if_pos (by omega)]; omega
    · rw [if_neg (by omega), if_neg (by omega)]; omega
  · have h' : isX c = false := by simpa using h
    rw [h']
    have hd : isD c = false := by
      by_cases hd : isD c = true
      · exact absurd (isX_D hd) h
      · simpa using hd
    rw [hd]; rfl
theorem pB16 : pB 16 = isX := by
  funext c
  unfold pB vl
  by_cases h : isX c = true
  · rw [if_pos h, h]
    have := isX_iff.1 h
    unfold dvl
    rcases this with h' | h' | h'
    · rw [if_pos (by omega)]; simp; omega
    · rw [if_neg (by omega), if_pos (by omega)]; simp; omega
    · rw [if_neg (by omega), if_neg (by omega)]; simp; omega
  · have h' : isX c = false := by simpa using h
    rw [h']; rfl

theorem Rdr.cellsAt {w : World} {b q : Nat} {l r : List UInt8} {S : ByteArray} (h : Rdr w b l r) (hS : bs l = S) (hq : l.length - r.length = q) : w.cell? ⟨b, 0, none⟩ = some (.string S) ∧ w.cell? ⟨b, 1, none⟩ = some (.int .i64 (q : Int)) ∧ w.frozen? ⟨b, 0, none⟩ = false ∧ w.frozen? ⟨b, 1, none⟩ = false := by
  subst hS; subst hq; exact h.cells
set_option maxHeartbeats 2000000 in
theorem digits_any (w : World) (b : Nat) (l r : List UInt8) (B : Nat) (h : Rdr w b l r) (hl : l.length ≤ 100000) : Calls Try.prog 73 #[.pointer (some ⟨b, 0, none⟩), .int .u32 (B : Int)] w fun e w' =>
    e = .returned (.string (bs (r.takeWhile (pB B)))) ∧ Rdr w' b l (r.dropWhile (pB B)) ∧ w.grownBy w' (some b) := by
  obtain ⟨c0, c1, f0, f1⟩ := h.cells
  have HR := Lib.hid h
  have HV := Lib.hid (fun c W => value_any c W)
  obtain ⟨S, hS⟩ : ∃ S, bs l = S := ⟨_, rfl⟩
  have hs : S.size = l.length := by rw [← hS]; exact bs_size _
  have HSA := Lib.hid (fun i c h => (hS ▸ bs_at l i c h : ∀ hi : i < S.size, S[i]'hi = c))
  have HSS := Lib.hid hS
  rw [hS] at c0
  have h1 := h.1
  have h2 := h.2.1
  clear h hS
  obtain ⟨L, hL⟩ : ∃ L, l.length = L := ⟨_, rfl⟩
  obtain ⟨q, hq⟩ : ∃ q, l.length - r.length = q := ⟨_, rfl⟩
  obtain ⟨n, hn⟩ : ∃ n, r.length = n := ⟨_, rfl⟩
  rw [hq] at c1
  have hqn : q + n = L := by omega
  have HH := Lib.hid (And.intro h1 (And.intro h2 (And.intro hq hn)))
  rw [hL] at hs hl
  have HL := Lib.hid hL
  have HQ := Lib.hid hqn
  have hqL : q ≤ L := by omega
  clear hL hq hn h1 h2 hqn
  go_enter Try.func73, Try.ntmps73
  go_wp2
  go_loopw [20] (fun _ wr => ∃ i p : Nat, i ≤ n ∧ p ≤ L ∧ wr.cell? ⟨b, 0, none⟩ = some (.string S) ∧ wr.cell? ⟨b, 1, none⟩ = some (.int .i64 (p : Int)) ∧ wr.frozen? ⟨b, 0, none⟩ = false ∧ wr.frozen? ⟨b, 1, none⟩ = false ∧
      Hid (p = q + i ∧ Rdr wr b l (r.drop i) ∧ w.grownBy wr (some b) ∧ ∀ k < i, ∀ d, r[k]? = some d → pB B d = true)) (fun _ wr => L - (intOf ((wr.cell? ⟨b, 1, none⟩).getD undef)).toNat)
  case atStart => exact ⟨0, q, by omega, hqL, c0, c1, f0, f1, rfl, by simpa using HR.out, grownBy_refl _ _, fun k hk => by omega⟩
  case round =>
    obtain ⟨i, p, hi, hp, d0, d1, g0, g1, hI⟩ := hrel
    by_cases hlt : i < n
    · obtain ⟨c, hc⟩ : ∃ c, r[i]? = some c := ⟨_, List.getElem?_eq_getElem (by rw [HH.out.2.2.2]; exact hlt)⟩
      have hcl := rest_at HH.out.1 HH.out.2.1 c hc
      rw [HH.out.2.2.1, ← hI.out.1] at hcl
      have hcS := HSA.out p c hcl
      have hpL : p < L := by have := hI.out.1; have := HQ.out; omega
      have hpI : (p : Int) < (L : Int) := by omega
      have hpd : decide ((p : Int) < (L : Int)) = true := by simpa using hpI
      have HC := Lib.hid hc
      clear hc hcl
      by_cases hv : vl c < B
      · have hvd : decide (((vl c : Nat) : Int) < (B : Int)) = true := by simpa using hv
        have HV2 := Lib.hid hv
        clear hv
        go_upto_region 2 with fail
        go_quiet ((go_at_call 74; with_reducible exact quiet_left (HV.out _ _)))
        go_wp2
        go_roundw
        case rel =>
          have hR : Rdr ((wr.drewN nq).setCell ⟨b, 1, none⟩ (.int .i64 ((p : Int) + 1))) b l (r.drop (i + 1)) := by
            have h3 := rest_drop HH.out.1 HH.out.2.1 (i + 1) (by have := HH.out.2.2.2; omega)
            refine Rdr.set (r := r.drop i) (hI.out.2.1.drewN _) _ h3.1 h3.2 ?_
            have := hI.out.1
            obtain ⟨e1, _, e3, e4⟩ := HH.out
            rw [List.length_drop]
            omega
          obtain ⟨k0, k1, k2, k3⟩ := hR.cellsAt (q := p + 1) HSS.out (by
            have := hI.out.1
            obtain ⟨e1, _, e3, e4⟩ := HH.out
            rw [List.length_drop]
            omega)
          refine ⟨i + 1, p + 1, by omega, by omega, k0, k1, k2, k3, by have := hI.out.1; omega, hR, grownBy_set (grownBy_drewN hI.out.2.2.1 _) _ _, fun k hk d hd => ?_⟩
          by_cases e : k = i
          · subst e
            rw [HC.out] at hd
            injection hd with hd
            subst hd
            exact decide_eq_true HV2.out
          · exact hI.out.2.2.2 k (by omega) d hd
        case measure =>
          rw [d1, show ((((wr.drewN nq).setCell ⟨b, 1, none⟩ (.int .i64 ((p : Int) + 1))).cell? ⟨b, 1, none⟩)) = some (.int .i64 ((p : Int) + 1)) from by
            have hR : Rdr ((wr.drewN nq).setCell ⟨b, 1, none⟩ (.int .i64 ((p : Int) + 1))) b l (r.drop (i + 1)) := by
              have h3 := rest_drop HH.out.1 HH.out.2.1 (i + 1) (by have := HH.out.2.2.2; omega)
              refine Rdr.set (r := r.drop i) (hI.out.2.1.drewN _) _ h3.1 h3.2 ?_
              have := hI.out.1
              obtain ⟨e1, _, e3, e4⟩ := HH.out
              rw [List.length_drop]
              omega
            exact (hR.cellsAt (q := p + 1) HSS.out (by
              have := hI.out.1
              obtain ⟨e1, _, e3, e4⟩ := HH.out
              rw [List.length_drop]
              omega)).2.1]
          show L - (p + 1 : Int).toNat < L - (p : Int).toNat
          omega
      · have hvd : decide (((vl c : Nat) : Int) < (B : Int)) = false := by simpa using hv
        have HV2 := Lib.hid hv
        clear hv
        go_upto_region 2 with fail
        go_quiet ((go_at_call 74; with_reducible exact quiet_left (HV.out _ _)))
        go_wp2
        have hqp : q ≤ p := by have := hI.out.1; omega
        have hqpI : (q : Int) ≤ (p : Int) := by omega
        go_upto_region 4 with fail
        go_quiet (fail)
        go_wp2
        go_ret
        obtain ⟨t1, t2⟩ := take_at hI.out.2.2.2 HC.out (decide_eq_false HV2.out)
        rw [t1, t2]
        refine ⟨?_, ?_, ?_⟩
        · have hp' := hI.out.1
          rw [← HSS.out, bs_sub, ← HH.out.2.2.1, HH.out.2.1, HH.out.2.2.1, show p - q = i by omega]
          rfl
        · exact (hI.out.2.1.drewN _).drewN _
        · exact grownBy_drewN (grownBy_drewN hI.out.2.2.1 _) _
    · have hpl : p = L := by have := hI.out.1; have := HQ.out; omega
      have hin : i = n := by omega
      have hqp : q ≤ L := by have := HQ.out; omega
      have hqpI : (q : Int) ≤ (L : Int) := by omega
      subst hin
      subst hpl
      go_upto_region 2 with fail
      go_quiet ((go_at_call 74; with_reducible exact quiet_left (HV.out _ _)))
      go_wp2
      go_upto_region 4 with fail
      go_quiet (fail)
      go_wp2
      go_ret
      obtain ⟨t1, t2⟩ := take_end (p := pB B) (r := r) (fun k hk d hd => hI.out.2.2.2 k (by rw [← HH.out.2.2.2]; exact hk) d hd)
      rw [t1, t2]
      have hR := hI.out.2.1
      rw [List.drop_eq_nil_of_le (by have := HH.out.2.2.2; omega)] at hR
      refine ⟨?_, ?_, ?_⟩
      · have hp' := hI.out.1
        rw [← HSS.out, bs_sub, ← HH.out.2.2.1, HH.out.2.1, HH.out.2.2.1, List.take_of_length_le (by have := HH.out.2.2.2; omega)]
        rfl
      · exact (hR.drewN _).drewN _
      · exact grownBy_drewN (grownBy_drewN hI.out.2.2.1 _) _

/-- A reader's giving up. -/
def Fails (l r : List UInt8) (e : Ending) : Prop := e = .panicked [{ v := .iface 53 (.agg #[.int .i64 ((l.length - r.length : Nat) : Int), .int .i64 50]), recovered := false }]
theorem ret_s {a b : List UInt8} (h : a = b) : Ending.returned (.string (bs a)) = .returned (.string (bs b)) := by rw [h]
theorem bs_nil : bs [] = { data := #[] } := rfl
theorem bs_ne {a : List UInt8} (h : a ≠ []) : (bs a).toList.isEmpty = false := by
  rw [ByteArray.toList_eq, bs_list]
  cases a with
  | nil => exact absurd rfl h
  | cons => rfl
theorem some_ok (w : World) (b : Nat) (l r : List UInt8) (B : Nat) (h : Rdr w b l r) (hl : l.length ≤ 100000) (hne : r.takeWhile (pB B) ≠ []) : Calls Try.prog 46 #[.pointer (some ⟨b, 0, none⟩), .int .u32 (B : Int)] w fun e w' =>
    e = .returned (.string (bs (r.takeWhile (pB B)))) ∧ Rdr w' b l (r.dropWhile (pB B)) ∧ w.grownBy w' (some b) := by
  have HD := Lib.hid (digits_any w b l r B h hl)
  have hz := bs_ne hne
  generalize bs (r.takeWhile (pB B)) = t at *
  clear h hne
  go_enter Try.func46, Try.ntmps46
  go_wp2_with (go_at_call 73; refine (HD.out).mono ?_; rintro e w1 ⟨rfl, h1⟩; have H1 := Lib.hid h1; clear h1)
  go_ret
  exact ⟨rfl, H1.out⟩
theorem some_no (w : World) (b : Nat) (l r : List UInt8) (B : Nat) (h : Rdr w b l r) (hl : l.length ≤ 100000) (he : r.takeWhile (pB B) = []) : Calls Try.prog 46 #[.pointer (some ⟨b, 0, none⟩), .int .u32 (B : Int)] w fun e w' =>
    Fails l (r.dropWhile (pB B)) e ∧ w.grownBy w' (some b) := by
  have h0 := digits_any w b l r B h hl
  rw [he, bs_nil] at h0
  have HD := Lib.hid h0
  have HF := Lib.hid (fun W h => fail_any W b l (r.dropWhile (pB B)) h)
  clear h he h0
  go_enter Try.func46, Try.ntmps46
  go_wp2_with (first | (go_at_call 73; refine (HD.out).mono ?_; rintro e w1 ⟨rfl, h1⟩; have H1 := Lib.hid h1; clear h1) | (go_at_call 43; refine (HF.out _ H1.out.1).mono ?_; rintro e w2 ⟨rfl, rfl⟩))
  exact ⟨rfl, ⟨rfl, H1.out.2⟩⟩
end Go.Proofs.Ytiadjcilfljdaaa
