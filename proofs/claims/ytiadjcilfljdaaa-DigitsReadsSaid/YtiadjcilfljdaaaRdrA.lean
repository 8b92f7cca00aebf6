/- Layer 5, the program: the reader over a text: value, is, fail. -/
import Derived.Test.YtiadjcilfljdaaaNumF
import Derived.Test.YtiadjcilfljdaaaNatFS
namespace Go.Proofs.Ytiadjcilfljdaaa
set_option linter.unusedVariables false
set_option linter.unusedSimpArgs false
open Go.RowKit Verge

/-- What the program's value tells of a byte. -/
def vl (c : UInt8) : Nat := if isX c then dvl c else 99
theorem ret_u32 {a : Int} {b : Nat} (h : a = b) : Ending.returned (.int .u32 a) = .returned (.int .u32 (b : Int)) := by rw [h]
theorem value_any (c : UInt8) (w : World) : Calls Try.prog 74 #[.int .u8 (c.toNat : Int)] w fun e w' => e = .returned (.int .u32 (vl c : Int)) ∧ w = w' := by
  have hc := c.toNat_lt
  have hcl : (48 ≤ c.toNat ∧ c.toNat ≤ 57 ∧ vl c = c.toNat - 48) ∨ (97 ≤ c.toNat ∧ c.toNat ≤ 102 ∧ vl c = c.toNat - 87) ∨ (65 ≤ c.toNat ∧ c.toNat ≤ 70 ∧ vl c = c.toNat - 55) ∨ (¬ ((48 ≤ c.toNat ∧ c.toNat ≤ 57) ∨ (97 ≤ c.toNat ∧ c.toNat ≤ 102) ∨ (65 ≤ c.toNat ∧ c.toNat ≤ 70)) ∧ vl c = 99) := by
    unfold vl
    by_cases h : isX c = true
    · rw [if_pos h]
      have h' := isX_iff.1 h
      unfold dvl
      rcases h' with h' | h' | h'
      · left; rw [if_pos (by omega)]; omega
      · right; left; rw [if_neg (by omega), if_pos (by omega)]; omega
      · right; right; left; rw [if_neg (by omega), if_neg (by omega)]; omega
    · have h' : isX c = false := by simpa using h
      right; right; right
      rw [h']
      exact ⟨isX_no.1 h', rfl⟩
  generalize vl c = v at hcl ⊢
  generalize c.toNat = n at hcl hc ⊢
  have HC := Lib.hid hcl
  clear hcl
  go_enter Try.func74, Try.ntmps74
  go_wp2
  all_goals
    go_ret
    refine ⟨ret_u32 ?_, rfl⟩
    have h' := HC.out
    first
    | omega
    | (go_num; omega)
    | (simp [IntKind.wrap, IntKind.bits] <;> omega)

/-- A reader over l: r is still to go. -/
abbrev rdO (l : List UInt8) (q : Nat) : Obj := .cells #[.string (bs l), .int .i64 (q : Int)] 56
def Rdr (w : World) (b : Nat) (l r : List UInt8) : Prop := r.length ≤ l.length ∧ l.drop (l.length - r.length) = r ∧ w.heap[b]? = some (rdO l (l.length - r.length))
theorem Rdr.lt {w : World} {b : Nat} {l r : List UInt8} (h : Rdr w b l r) : b < w.heap.size := (Array.getElem?_eq_some_iff.1 h.2.2).1
theorem Rdr.cells {w : World} {b : Nat} {l r : List UInt8} (h : Rdr w b l r) : w.cell? ⟨b, 0, none⟩ = some (.string (bs l)) ∧ w.cell? ⟨b, 1, none⟩ = some (.int .i64 ((l.length - r.length : Nat) : Int)) ∧ w.frozen? ⟨b, 0, none⟩ = false ∧ w.frozen? ⟨b, 1, none⟩ = false := by
  have h := h.2.2
  refine ⟨?_, ?_, ?_, ?_⟩ <;> simp [World.cell?, World.frozen?, h]
theorem Rdr.later {w w' : World} {b : Nat} {l r : List UInt8} (h : Rdr w b l r) (hb : Below w.heap.size w w') : Rdr w' b l r := ⟨h.1, h.2.1, (hb.block b h.lt).trans h.2.2⟩
theorem Rdr.drewN {w : World} {b : Nat} {l r : List UInt8} (h : Rdr w b l r) (n : Nat) : Rdr (w.drewN n) b l r := h
theorem Rdr.set {w : World} {b : Nat} {l r : List UInt8} (h : Rdr w b l r) (s : List UInt8) (h1 : s.length ≤ l.length) (h2 : l.drop (l.length - s.length) = s) {k : Int} (hk : k = ((l.length - s.length : Nat) : Int)) :
    Rdr (w.setCell ⟨b, 1, none⟩ (.int .i64 k)) b l s := by
  refine ⟨h1, h2, ?_⟩
  have h := h.2.2
  subst hk
  simp [World.setCell, Array.getElem?_modify, h]
theorem rest_at {l r : List UInt8} (h1 : r.length ≤ l.length) (h2 : l.drop (l.length - r.length) = r) {i : Nat} (c : UInt8) (hc : r[i]? = some c) : l[l.length - r.length + i]? = some c := by
  rw [← List.getElem?_drop, h2, hc]
theorem rest_drop {l r : List UInt8} (h1 : r.length ≤ l.length) (h2 : l.drop (l.length - r.length) = r) (k : Nat) (hk : k ≤ r.length) : (r.drop k).length ≤ l.length ∧ l.drop (l.length - (r.drop k).length) = r.drop k := by
  refine ⟨by rw [List.length_drop]; omega, ?_⟩
  have : l.length - (r.drop k).length = (l.length - r.length) + k := by rw [List.length_drop]; omega
  rw [this, ← List.drop_drop, h2]

/-- Is the next byte one of some? -/
def isR (m r : List UInt8) : Bool × List UInt8 := match r with | [] => (false, []) | c :: s => if c ∈ m then (true, s) else (false, c :: s)
theorem isR_len (m r : List UInt8) : (isR m r).2.length ≤ r.length := by
  unfold isR; split
  · exact Nat.le_refl _
  · split <;> simp

theorem fail_any (w : World) (b : Nat) (l r : List UInt8) (h : Rdr w b l r) : Calls Try.prog 43 #[.pointer (some ⟨b, 0, none⟩)] w fun e w' =>
    e = .panicked [{ v := .iface 53 (.agg #[.int .i64 ((l.length - r.length : Nat) : Int), .int .i64 50]), recovered := false }] ∧ w = w' := by
  obtain ⟨c0, c1, f0, f1⟩ := h.cells
  clear h
  go_enter Try.func43, Try.ntmps43
  go_wp2
  exact ⟨rfl, ⟨rfl, rfl⟩⟩

set_option maxHeartbeats 1000000 in
theorem is_any (w : World) (b : Nat) (l r m : List UInt8) (h : Rdr w b l r) (hl : l.length ≤ 100000) (hm : m.length ≤ 100) : Calls Try.prog 41 #[.pointer (some ⟨b, 0, none⟩), .string (bs m)] w fun e w' =>
    e = .returned (.bool (isR m r).1) ∧ Rdr w' b l (isR m r).2 ∧ w.grownBy w' (some b) := by
  obtain ⟨c0, c1, f0, f1⟩ := h.cells
  have HR := Lib.hid h
  obtain ⟨S, hS⟩ : ∃ S, bs l = S := ⟨_, rfl⟩
  obtain ⟨M, hM⟩ : ∃ M, bs m = M := ⟨_, rfl⟩
  have hs : S.size = l.length := by rw [← hS]; exact bs_size _
  have hms : M.size = m.length := by rw [← hM]; exact bs_size _
  have HSA := Lib.hid (fun i c h => (hS ▸ bs_at l i c h : ∀ hi : i < S.size, S[i]'hi = c))
  have HMA := Lib.hid (fun i c h => (hM ▸ bs_at m i c h : ∀ hi : i < M.size, M[i]'hi = c))
  rw [hM]
  rw [hS] at c0
  have h1 := h.1
  have h2 := h.2.1
  clear h hS hM
  cases r with
  | nil =>
    obtain ⟨L, hL⟩ : ∃ L, l.length = L := ⟨_, rfl⟩
    rw [show (l.length - ([] : List UInt8).length : Nat) = L by simp [hL]] at c1
    rw [hL] at hs hl
    have HL := Lib.hid hL
    have HH := Lib.hid (And.intro h1 h2)
    clear hL h1 h2
    go_enter Try.func41, Try.ntmps41
    go_upto_region 1 with fail
    go_quiet (fail)
    go_wp2
    go_ret
    exact ⟨rfl, HR.out.drewN _, grownBy_drewN (grownBy_refl _ _) _⟩
  | cons c s =>
    have hc := rest_at h1 h2 (i := 0) c rfl
    rw [Nat.add_zero] at hc
    have h3 := rest_drop h1 h2 1 (by simp)
    rw [List.drop_one, List.tail_cons] at h3
    have hq1 : (l.length - s.length) = (l.length - (c :: s).length) + 1 := by
      have : s.length + 1 ≤ l.length := h1
      rw [List.length_cons]; omega
    have hqL : l.length - (c :: s).length < l.length := by
      have : s.length + 1 ≤ l.length := h1
      rw [List.length_cons]; omega
    generalize l.length - (c :: s).length = q at *
    have hcS := HSA.out q c hc
    have HC := Lib.hid (And.intro hc (And.intro h3 hq1))
    obtain ⟨L, hL⟩ : ∃ L, l.length = L := ⟨_, rfl⟩
    obtain ⟨K, hK⟩ : ∃ K, m.length = K := ⟨_, rfl⟩
    rw [hL] at hs hl hqL
    rw [hK] at hms hm
    have HL := Lib.hid hL
    have HK := Lib.hid hK
    have hqI : (q : Int) < (L : Int) := by omega
    clear hL hK hc h3 hq1 h1 h2
    go_enter Try.func41, Try.ntmps41
    go_upto_region 1 with fail
    go_quiet (fail)
    go_wp2
    go_loopw [18] (fun iv wr => ∃ i n : Nat, i ≤ K ∧ iv = .int .i64 (i : Int) ∧ wr = w.drewN n ∧ Hid (∀ k < i, ∀ d, m[k]? = some d → c ≠ d)) (fun iv _ => K - (intOf iv).toNat)
    case atStart => exact ⟨0, _, by omega, rfl, rfl, fun k hk => by omega⟩
    case round =>
      obtain ⟨i, n, hi, rfl, rfl, hI⟩ := hrel
      by_cases hlt : i < K
      · have hltI : (i : Int) < (K : Int) := by omega
        obtain ⟨d, hd⟩ : ∃ d, m[i]? = some d := ⟨_, List.getElem?_eq_getElem (by rw [HK.out]; exact hlt)⟩
        have hdM := HMA.out i d hd
        have HD := Lib.hid hd
        clear hd
        by_cases he : c = d
        · subst he
          go_upto_region 5 with fail
          go_quiet (fail)
          go_wp2
          go_ret
          have e : isR m (c :: s) = (true, s) := if_pos (List.mem_of_getElem? HD.out)
          rw [e]
          refine ⟨rfl, ?_, ?_⟩
          · repeat refine Rdr.drewN ?_ _
            refine Rdr.set (r := c :: s) HR.out s HC.out.2.1.1 HC.out.2.1.2 ?_
            have := HC.out.2.2
            go_num
          · repeat refine grownBy_drewN ?_ _
            exact grownBy_set (grownBy_drewN (grownBy_refl w _) _) _ _
        · have hne : ¬ ((c.toNat : Int) = (d.toNat : Int)) := fun e => he (UInt8.toNat_inj.1 (by omega))
          have HE := Lib.hid he
          clear he
          go_upto_region 5 with fail
          go_quiet (fail)
          go_wp2
          go_roundw
          case rel =>
            refine ⟨i + 1, _, by omega, by go_num, rfl, fun k hk e h => ?_⟩
            by_cases e1 : k = i
            · subst e1
              rw [HD.out] at h
              injection h with h
              rw [← h]; exact HE.out
            · exact hI.out k (by omega) e h
          case measure => simp [intOf]; omega
      · go_wp2
        go_ret
        have e : isR m (c :: s) = (false, c :: s) := if_neg (fun hm => by
          obtain ⟨p, hp, he⟩ := List.getElem_of_mem hm
          have := HK.out
          exact hI.out p (by omega) c (by rw [List.getElem?_eq_getElem hp, he]) rfl)
        rw [e]
        exact ⟨rfl, HR.out.drewN _, grownBy_drewN (grownBy_refl _ _) _⟩
end Go.Proofs.Ytiadjcilfljdaaa
