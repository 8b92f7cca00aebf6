/- A law's arguments opened, and its row closed: what every law of this seat shares. -/
import Derived.Test.YtcomkgmonhidhaaGreatDoorG02
import Derived.Carry
import Derived.ProofKit
import Derived.OpenShut
import Derived.SizedLaws
import Derived.Test.YtcomkgmonhidhaaGreatDoorG34
import Derived.Test.YtcomkgmonhidhaaGreatDoorTie
import Derived.LaidMore
import Derived.Handed
import Derived.MakeChecks
import Derived.LaidHandle
import Derived.LaidLaws
import Derived.Stop.Joined
import Derived.Stop.LaidErr
import Derived.Lib.LaidTab
section
namespace Go.Proofs.YtcomkgmonhidhaaGreatDoor
set_option linter.unusedVariables false
set_option linter.unusedSimpArgs false
open Go.ChangeShapes Go.WideShapes Go.ChangeAt Go.RowKit Verge

theorem own : ownKnob Tryz.prog.godebug = none := by kernel_rfl
theorem laidOut : laidOutB Tryz.prog = true := by kernel_rfl
theorem cellsU32 : Tryz.prog.cellsOf 65 = 1 := by kernel_rfl
theorem bytesU32 : Tryz.prog.bytesOf 65 = 4 := by kernel_rfl

section
variable {H : Type} {enc : TypeId × Value → H}

theorem trodAll_below {P : Program} (hl : laidOutB P = true) {W W' : World} (hb : Below W.heap.size W W') : ∀ (ts : List TypeId) (vs : List Value) (ds : List (DataW H)) (ps : List MemPlace),
    (∀ t ∈ ts, P.readableRec t = true ∧ t < P.types.size) → (∀ x ∈ ps, x.block < W.heap.size) → DataW.TrodAll enc P W 0 (fun _ => true) true ts vs ds ps →
    DataW.TrodAll enc P W' 0 (fun b => decide (b < W.heap.size)) true ts vs ds ps := by
  intro ts
  induction ts with
  | nil =>
    intro vs ds ps _ _ h
    cases vs <;> cases ds <;> simp_all [DataW.TrodAll]
  | cons t ts ih =>
    intro vs ds ps ht hp h
    obtain ⟨v, vs', d, ds', p, q, rfl, rfl, rfl, h1, h2⟩ := trodAll_cons h
    exact trodAll_cons_mk (Below.trod hl (ht t (by simp)).1 (ht t (by simp)).2 h1 hb (fun x hx => hp x (List.mem_append_left _ hx)))
      (ih vs' ds' q (fun t' h' => ht t' (by simp [h'])) (fun x hx => hp x (List.mem_append_right _ hx)) h2)

/-- A law has answered true, and below the heap's old size nothing has turned: its row's word holds. -/
theorem law_post {P : Program} {f : Func} {s : ChangeSpec} {apart fresh : Bool} {W W' : World} {args : Array Value} {ds : List (DataW H)} {before : List MemPlace} {tb : TypeId}
    (hW : DataW.Whole enc P f.params.toList s.vars apart W args.toList ds [] before) (hv : s.vars = []) (hl : laidOutB P = true)
    (hts : f.params.toList.all (fun t => P.readableRec t && decide (t < P.types.size)) = true) (hr : f.resultTypes = #[tb]) (htb : P.underlying tb = some .bool)
    (hfn : s.fn H ds = { results := [.lit (.bool true)], args := ds }) (hb : Below W.heap.size W W') :
    s.post enc P f apart fresh false false W args (.bool true) W' := by
  have hlt : ∀ x ∈ before, x.block < W.heap.size := fun x hx => by simpa using hW.lt x hx
  have hW' := hW
  obtain ⟨p, q, hA, hV, rfl, hfz, hnd⟩ := hW
  rw [hv] at hV
  obtain ⟨-, rfl⟩ := trodVars_none hV
  have hA' := trodAll_below hl hb _ _ _ _ (fun t ht => by have := List.all_eq_true.1 hts t ht; simpa using this) (fun x hx => hlt x (by simpa using hx)) hA
  refine ⟨ds, [], p ++ [], [], p, [], hW', ?_, ?_, ?_, World.keptBut_mono (fun x hx => ⟨hx, Or.inr (Or.inl (by simpa using hx))⟩) (hb.frame _), fun h => by cases h⟩
  · rw [List.append_nil, hfn, hr]
    exact trodAll_cons_mk (shut_bool htb _) trodAll_mk0
  · rw [List.append_nil, hfn]; exact hA'
  · rw [List.append_nil, hfn, hv]
    exact rfl

set_option maxRecDepth 100000 in
/-- A list of words that came in: it reads as a list; its room is within the reach. -/
theorem words_open {W : World} {v : Value} {d : DataW H} {p : List MemPlace} {base : Nat} (h : DataW.Trod enc Tryz.prog W 0 (fun _ => true) true 52 v d p) (hok : Value.okWide Tryz.prog W .any base 52 v) :
    ∃ A n c X, v = .slice A n c ∧ Rd W A X ∧ X.length = n ∧ n ≤ c ∧
      ∀ (ts : List TypeId) (ds : List (DataW H)) (j : Nat), (DataW.weightsEach Tryz.prog ts ds).all (· ≤ reachBytes) = true → ts[j]? = some 52 → ds[j]? = some d → c ≤ 35184372087808 := by
  obtain ⟨A, n, c, rfl⟩ := okWide_slice Tryz.underlying52 hok
  obtain ⟨fuel, hf⟩ := h
  rcases open_ints Tryz.underlying52 Tryz.underlying65 cellsU32 hf with ⟨hcs, hx⟩ | ⟨a, len, cap, zs, hcs, _, hl, hm, hz, hx, hcell, hwz⟩
  · simp [Value.cells] at hcs
    obtain ⟨rfl, rfl, rfl⟩ := hcs
    exact ⟨none, 0, 0, [], rfl, Rd.nil, rfl, Nat.le_refl _, fun _ _ _ _ _ _ => by omega⟩
  · simp [Value.cells] at hcs
    obtain ⟨rfl, rfl, rfl⟩ := hcs
    simp only [Prod.mk.injEq] at hx
    obtain ⟨rfl, rfl⟩ := hx
    simp only [if_true] at hz
    have hw : ∀ z ∈ zs, 0 ≤ z ∧ z < 4294967296 := fun z hz' => by
      have := hwz z hz'
      simp [Lit.wf, IntKind.min, IntKind.max, IntKind.signed, IntKind.bits] at this
      omega
    refine ⟨some a, n, c, (zs.take n).map Int.toNat, rfl, ⟨?_, ?_⟩, by simp; omega, hl, ?_⟩
    · intro x hx
      obtain ⟨z, hz', rfl⟩ := List.mem_map.1 hx
      have := hw z (List.mem_of_mem_take hz')
      omega
    · intro hne
      have hl0 : 0 < n := by
        rcases Nat.eq_zero_or_pos n with e | e
        · subst e; simp at hne
        · exact e
      obtain ⟨b, off, spot⟩ := a
      have hs : spot = none := by
        have := hcell 0 (by omega)
        rw [Addr.add, if_pos rfl] at this
        unfold World.cell? at this
        split at this
        · cases spot with
          | none => rfl
          | some k => simp at this
        · cases this
      subst hs
      refine ⟨b, off, rfl, fun k x hx => ?_⟩
      rw [List.getElem?_map, Option.map_eq_some_iff] at hx
      obtain ⟨z, hz1, rfl⟩ := hx
      rw [List.getElem?_take] at hz1
      split at hz1
      · have hk := (List.getElem?_eq_some_iff.1 hz1).1
        have := hcell k hk
        rw [add_none, List.getD_eq_getElem?_getD, hz1, Option.getD_some] at this
        rw [this, Int.toNat_of_nonneg (hw z (List.mem_of_getElem? hz1)).1]
      · cases hz1
    · intro ts ds j hsz ht hd
      have := sized_slice hsz ht hd Tryz.underlying52
      rw [bytesU32] at this
      simp only [lits, List.length_map, List.length_take, List.length_drop, reachBytes] at this
      omega
end
end Go.Proofs.YtcomkgmonhidhaaGreatDoor
end

section
namespace Go.Proofs.YtcomkgmonhidhaaGreatDoor
set_option linter.unusedVariables false
set_option linter.unusedSimpArgs false
open Go.ChangeShapes Go.WideShapes Go.ChangeAt Go.RowKit Verge

theorem gTab64 : Tryz.prog.globalNamed "math/bits.deBruijn64tab" = some 3 := by kernel_rfl
theorem tTab64 : (Tryz.prog.globals[3]?).map (·.type) = some 125 := by kernel_rfl
theorem gTab10 : Tryz.prog.globalNamed "internal/strconv.uint64pow10" = some 1 := by kernel_rfl
theorem tTab10 : (Tryz.prog.globals[1]?).map (·.type) = some 120 := by kernel_rfl

/-- The 64 bytes of the listed table. -/
def tab64 : List Int := [0, 1, 56, 2, 57, 49, 28, 3, 61, 58, 42, 50, 38, 29, 17, 4, 62, 47, 59, 36, 45, 43, 51, 22, 53, 39, 33, 30, 24, 18, 12, 5, 63, 55, 48, 27, 60, 41, 37, 16, 46, 35, 44, 21, 52, 32, 23, 11, 54, 26, 40, 15, 34, 20, 31, 10, 25, 14, 19, 9, 13, 8, 7, 6]

abbrev laids : List (String × DataW Unit) := [("math/bits.deBruijn32tab", Rows.laid_math_bits_deBruijn32tab), ("math/bits.deBruijn64tab", Rows.laid_math_bits_deBruijn64tab), ("internal/strconv.uint64pow10", Rows.laid_internal_strconv_uint64pow10)]

theorem door_met (os : Os) (args : Array Value) : laidMetH Tryz.prog laids ((World.doorLaid Tryz.prog 400 os).forCall (fun _ _ => 0) ⟨#[], args, []⟩).memory :=
  laidMetH_of_parts3 (fuel := 8) (laidMet_of_run' 8 (by kernel_rfl) (by kernel_rfl)) (by kernel_rfl) (by kernel_rfl)

theorem tab_of {W : World} (h : laidMetH Tryz.prog laids W) : Tab16 W ∧ Pow10 W := by
  rw [MakeChecks.laidMetH_plain _ _ _ (by kernel_rfl)] at h
  have h1 := h.tail
  have h2 := h1.tail
  have e1 : (Rows.laid_math_bits_deBruijn64tab : DataW Unit) = Lib.tabData .u8 tab64 := rfl
  have e2 : (Rows.laid_internal_strconv_uint64pow10 : DataW Unit) = Lib.tabData .u64 Lib.pow10Tab := rfl
  rw [e1] at h1
  rw [e2] at h2
  refine ⟨?_, ?_⟩
  · have := (Lib.tabIs_of_head gTab64 tTab64 Tryz.underlying125 Tryz.underlying5 (by kernel_rfl) (by kernel_rfl) h1).cell gTab64 15 (by decide)
    exact this
  · exact Lib.tabIs_of_head gTab10 tTab10 Tryz.underlying120 Tryz.underlying22 (by kernel_rfl) (by kernel_rfl) h2
end Go.Proofs.YtcomkgmonhidhaaGreatDoor
end
