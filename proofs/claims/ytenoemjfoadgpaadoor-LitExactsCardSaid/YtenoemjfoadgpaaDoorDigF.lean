/- Layer 5: strconv.FormatUint of one hexadecimal digit. -/
import Derived.Test.YtenoemjfoadgpaaDoorDigP
import Derived.Laws.BytesArg
namespace Go.Proofs.YtenoemjfoadgpaaDoor
set_option linter.unusedVariables false
set_option linter.unusedSimpArgs false
open Go.RowKit Verge

/-- The cell of the table that 16 asks for. -/
def Tab16 (w : World) : Prop := w.cell? ⟨3, 15, none⟩ = some (.int .u8 4)
theorem Tab16.below {w w' : World} (h : Tab16 w) (hb : Below w.heap.size w w') : Tab16 w' := (bcell hb _ _ (lt_of_cell h)).trans h
theorem tz16 (w : World) (h : Tab16 w) : Calls Tryd.prog 89 #[.int .u64 16] w fun e w' => e = .returned (.int .i64 4) ∧ w = w' := by
  unfold Tab16 at h
  have e1 : Go.bits .and .u64 16 (IntKind.u64.wrap (-16)) = 16 := by decide +kernel
  have e2 : IntKind.u64.wrap (16 * 285870213051353865) = 4573923408821661840 := by decide +kernel
  have e3 : (4573923408821661840 : Int) / 288230376151711744 = 15 := by decide +kernel
  go_enter Tryd.func89, Tryd.ntmps89
  go_wp2
  go_ret
  exact ⟨rfl, rfl⟩
/-- The sign of a digit below 16, as the library's string holds it. -/
theorem digit16 (u : Nat) (hu : u < 16) : (#[48, 49, 50, 51, 52, 53, 54, 55, 56, 57, 97, 98, 99, 100, 101, 102, 103, 104, 105, 106, 107, 108, 109, 110, 111, 112, 113, 114, 115, 116, 117, 118, 119, 120, 121, 122] : Array UInt8)[u]? = some (hexc u) := by
  rcases u with _ | _ | _ | _ | _ | _ | _ | _ | _ | _ | _ | _ | _ | _ | _ | _ | u
  all_goals first | rfl | omega

/-- A byte of memory as a text. -/
theorem conv1 (w : World) (b off cap : Nat) (x : UInt8) (h : w.cell? ⟨b, off, none⟩ = some (.int .u8 (x.toNat : Int))) : (convert 77 9 (.slice (some ⟨b, off, none⟩) 1 cap)).run Tryd.prog w = .ok (.string (bs [x])) w := by
  have := run_convert_bytes_arg (P := Tryd.prog) w 77 5 Tryd.underlying77 Tryd.underlying5 b off 1 cap [(x.toNat : Int)] rfl (fun i hi => by
    obtain rfl : i = 0 := by omega
    simpa using h) 9 Tryd.underlying9
  rw [this]
  simp [strOfNums, bs]
theorem digitB (u : Nat) (hu : u < 16) (h : u < (⟨#[48, 49, 50, 51, 52, 53, 54, 55, 56, 57, 97, 98, 99, 100, 101, 102, 103, 104, 105, 106, 107, 108, 109, 110, 111, 112, 113, 114, 115, 116, 117, 118, 119, 120, 121, 122]⟩ : ByteArray).size) : (⟨#[48, 49, 50, 51, 52, 53, 54, 55, 56, 57, 97, 98, 99, 100, 101, 102, 103, 104, 105, 106, 107, 108, 109, 110, 111, 112, 113, 114, 115, 116, 117, 118, 119, 120, 121, 122]⟩ : ByteArray)[u]'h = hexc u := by
  have := digit16 u hu
  rw [Array.getElem?_eq_some_iff] at this
  exact this.2

set_option maxRecDepth 20000 in
set_option maxHeartbeats 2000000 in
theorem bits16 (u : Nat) (hu : u < 16) (w : World) (h : Tab16 w) : Calls Tryd.prog 83 #[.slice none 0 0, .int .u64 (u : Int), .int .i64 16, .bool false, .bool false] w fun e w' => e = .returned (.tuple #[.slice none 0 0, .string (bs [hexc u])]) ∧ Below w.heap.size w w' := by
  have HT := Lib.hid h
  have hlt : (u : Int) < 16 := by omega
  have e0 : Go.bits .and .i64 16 15 = 0 := by decide +kernel
  clear h
  go_enter Tryd.func83, Tryd.ntmps83
  have hwr : IntKind.u64.wrap (16 - 1) = 15 := by decide +kernel
  go_wp2_with (first | (go_at_call 89; refine (tz16 _ (HT.out.below ((Below.refl _ _).alloc (Nat.le_refl _) _))).mono ?_; rintro e w' ⟨rfl, rfl⟩) | go_in)
  go_loop [1, 13] (fun u1 iv => u1 = .int .u64 (u : Int) ∧ iv = .int .i64 65) (fun _ _ => 0)
  case atStart => exact ⟨rfl, rfl⟩
  case round =>
    obtain ⟨rfl, rfl⟩ := hrel
    have HB := Lib.hid ((Below.refl w.heap.size w).alloc (Nat.le_refl _) (.cells (Tryd.zeroCells105.setIfInBounds 64 (.int .u8 ((hexc u).toNat : Int))) 105))
    go_upto_region 30 with fail
    simp only [digitB u hu]
    obtain ⟨W, hW⟩ : ∃ W, w.alloc (.cells (Tryd.zeroCells105.setIfInBounds 64 (.int .u8 ((hexc u).toNat : Int))) 105) = W := ⟨_, rfl⟩
    rw [hW] at HB ⊢
    have hz : Tryd.zeroCells105.size = 65 := by kernel_rfl
    have hc : W.cell? ⟨w.heap.size, 64, none⟩ = some (.int .u8 ((hexc u).toNat : Int)) := by
      rw [← hW]
      have : (w.alloc (.cells (Tryd.zeroCells105.setIfInBounds 64 (.int .u8 ((hexc u).toNat : Int))) 105)).heap[w.heap.size]? = some (.cells (Tryd.zeroCells105.setIfInBounds 64 (.int .u8 ((hexc u).toNat : Int))) 105) := by
        show (w.heap.push _)[w.heap.size]? = _
        simp
      simp only [World.cell?, this]
      simp [hz]
    have hcv := conv1 W w.heap.size 64 1 (hexc u) hc
    clear hW hz hc
    go_wp2
    go_ret2
    exact ⟨rfl, HB.out⟩
end Go.Proofs.YtenoemjfoadgpaaDoor
