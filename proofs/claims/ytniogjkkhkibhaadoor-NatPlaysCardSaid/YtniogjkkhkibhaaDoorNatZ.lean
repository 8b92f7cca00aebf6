/- Contracts of bits.TrailingZeros32 and nat.Zeros: of a seat that knows the table. -/
import Derived.Test.YtniogjkkhkibhaaDoorNatA
import Derived.Test.YtniogjkkhkibhaaDoorPlainH
import Derived.Shelf.Spec.TrailingZeros
namespace Go.Proofs.YtniogjkkhkibhaaDoor
set_option linter.unusedVariables false
set_option linter.unusedSimpArgs false
open Go.RowKit Verge

/-- The table of bits, in its variable. -/
def Tab (w : World) : Prop := TabAt 0 Lib.deBruijn32tab w
theorem Tab.keep {w w' : World} (h : Tab w) (hk : ∀ b o, b < w.heap.size → w'.cell? ⟨b, o, none⟩ = w.cell? ⟨b, o, none⟩) : Tab w' := fun j hj => (hk _ _ (lt_of_cell (h j hj))).trans (h j hj)
theorem Tab.below {w w' : World} (h : Tab w) (hb : Below w.heap.size w w') : Tab w' := h.keep (bcell hb)
theorem Tab.drewN {w : World} (h : Tab w) (n : Nat) : Tab (w.drewN n) := h

theorem tz32_core (x k idx : Nat) (w : World) (hx0 : ((x : Int) == 0) = false)
    (key : bits BinOp.and IntKind.u32 (x : Int) (-(x : Int) % 4294967296) * 125613361 % 4294967296 / 134217728 = (idx : Int))
    (hi : idx < 32) (hk : k < 32) (hcell : w.cell? ⟨0, idx, none⟩ = some (.int .u8 (k : Int))) :
    Calls Tryd.prog 41 #[.int .u32 (x : Int)] w fun e w' => e = .returned (.int .i64 (k : Int)) ∧ w = w' := by
  go_enter Tryd.func41, Tryd.ntmps41
  go_wp2_with (simp only [key])
  go_ret
  exact ⟨rfl, rfl⟩

/-- bits.TrailingZeros32, of a word that is not 0. -/
theorem tz32_any (x : Nat) (hx0 : x ≠ 0) (hx : x < 4294967296) (w : World) (hT : Tab w) :
    Calls Tryd.prog 41 #[.int .u32 (x : Int)] w fun e w' => e = .returned (.int .i64 (ntz x : Nat)) ∧ w = w' := by
  obtain ⟨hlow, hk⟩ := Lib.lowest_bit 32 x hx0 hx
  obtain ⟨hi, htab⟩ := Lib.deBruijn32_at _ hk
  have hcell := hT _ hi
  rw [htab] at hcell
  have := tz32_core x _ _ w (by simp; omega) (tz32_key x _ hx hx0 hlow) hi hk hcell
  rwa [(ctz_ntz x hx0 hx).1] at this

set_option maxHeartbeats 400000 in
/-- nat.Zeros. -/
theorem zeros_any (A : Option Addr) (n c : Nat) (xs : List Nat) (w : World) (h : Rd w A xs) (hn : xs.length = n) (hm : n ≤ 140737488355328) (hT : Tab w) :
    Calls Tryd.prog 21 #[.slice A n c] w fun e w' => e = .returned (.int .i64 (ntz (val xs) : Nat)) ∧ w = w' := by
  rcases Nat.eq_zero_or_pos n with h0 | h0
  · subst h0
    obtain rfl := List.eq_nil_of_length_eq_zero hn
    clear h hn hm hT
    go_enter Tryd.func21, Tryd.ntmps21
    go_wp2
    go_loop [7] (fun v => v = .int .i64 0) (fun _ => 0)
    case atStart => rfl
    case round =>
      obtain rfl := hrel
      go_wp2
      go_ret
      exact ⟨rfl, rfl⟩
  · obtain ⟨b, o, rfl, hc⟩ := h.cells (by omega)
    have H1 := Lib.hid hn
    have HH := Lib.hid h
    have HC := Lib.hid hc
    have HT := Lib.hid hT
    clear h hc hn hT
    go_enter Tryd.func21, Tryd.ntmps21
    go_wp2
    go_loop [7, 3, 4] (fun i _ _ => ∃ k : Nat, k ≤ n ∧ i = .int .i64 k ∧ Hid (∀ j, j < k → xs.getD j 0 = 0)) (fun i _ _ => n - (intOf i).toNat)
    case atStart => exact ⟨0, by omega, rfl, fun j hj => by omega⟩
    case round =>
      obtain ⟨k, hk, rfl, hz⟩ := hrel
      by_cases hkn : k < n
      · have hcell := HC.out k (by rw [H1.out]; exact hkn)
        have hx := HH.out.1.getD k
        obtain ⟨x, hgx⟩ : ∃ x, xs.getD k 0 = x := ⟨_, rfl⟩
        rw [hgx] at hcell hx
        have HG := Lib.hid hgx; clear hgx
        by_cases hx0 : x = 0
        · subst hx0
          go_wp2
          go_round
          case rel => exact ⟨k + 1, by omega, by go_num, fun j hj => by
            rcases Nat.eq_or_lt_of_le (Nat.le_of_lt_succ hj) with e | e
            · rw [e]; exact HG.out
            · exact hz.out j e⟩
          case measure => simp [intOf]; omega
        · have hxb : ((x : Int) != 0) = true := by simp; exact hx0
          have htz := (ctz_ntz x hx0 hx).2
          go_wp2_with (go_at_call 41; refine (tz32_any x hx0 hx _ HT.out).mono ?_; rintro e w' ⟨rfl, rfl⟩)
          go_ret
          refine ⟨ret_int ?_, rfl⟩
          rw [ntz_words k x HG.out hx0 hx (val_take_zero xs k hz.out) (by rw [H1.out]; exact hkn)]
          omega
      · obtain rfl : k = n := by omega
        go_wp2
        go_ret
        refine ⟨ret_int ?_, rfl⟩
        have := val_take_zero xs k hz.out
        rw [List.take_of_length_le (by rw [H1.out]; exact Nat.le_refl _)] at this
        rw [this, ntz_zero]; rfl
end Go.Proofs.YtniogjkkhkibhaaDoor
