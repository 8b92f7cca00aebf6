/- The listed table, read off the row's condition: of a seat that lists math/bits.deBruijn32tab. -/
import Derived.Test.YtniogjkkhkibhaaDoorOpen
import Derived.Test.YtniogjkkhkibhaaDoorNatZ
import Derived.Test.YtniogjkkhkibhaaDoorTie
import Derived.LaidMore
import Derived.Handed
import Derived.MakeChecks
import Derived.LaidHandle
import Derived.LaidLaws
import Derived.Stop.Joined
namespace Go.Proofs.YtniogjkkhkibhaaDoor
set_option linter.unusedVariables false
set_option linter.unusedSimpArgs false
open Go.ChangeShapes Go.WideShapes Go.ChangeAt Go.RowKit Verge

/-- A table of integers, read. -/
theorem table_cells {H : Type} {enc : TypeId × Value → H} {P : Program} {W : World} {b : Nat} {sp : Nat → Bool} {held : Bool} {t e : TypeId} {k : IntKind} {n fuel : Nat} {cs : Array Value} {zs : List Int} {p : List MemPlace}
    (ht : P.underlying t = some (.array n e)) (he : P.underlying e = some (.int k)) (hc : P.cellsOf e = 1)
    (hd : DataW.trod enc P W b sp held fuel t cs.toList = some (.agg (zs.map fun z => .lit (.int k z)), p)) (j : Nat) (hj : j < zs.length) : cs[j]? = some (.int k (zs.getD j 0)) := by
  obtain ⟨xs, m, rfl, hx, hl, hn, hel⟩ := DataW.trod_array ht hd
  simp only [Prod.mk.injEq, DataW.agg.injEq] at hx
  have hx1 := hx.1
  have hlen : xs.length = zs.length := by have := congrArg List.length hx1; simpa using this.symm
  have h1 := hel j (by omega)
  rw [hc, Nat.mul_one] at h1
  have hxj : xs[j]? = some (xs[j]'(by omega)) := List.getElem?_eq_getElem _
  rw [hxj] at h1
  have hdj : (xs[j]'(by omega)).1 = .lit (.int k (zs.getD j 0)) := by
    have := congrArg (fun l => l[j]?) hx1
    simp only [List.getElem?_map, hxj, Option.map_some] at this
    rw [List.getElem?_eq_getElem hj, Option.map_some] at this
    have h2 := Option.some.inj this
    rw [← h2, List.getD_eq_getElem?_getD, List.getElem?_eq_getElem hj, Option.getD_some]
  obtain ⟨z, hz1, hz2, _⟩ := DataW.trod_int he h1
  rw [hz2] at hdj
  simp at hdj
  have : (cs.toList.drop j)[0]? = some (.int k z) := by
    have h3 := congrArg (fun l => l[0]?) hz1
    simpa [List.getElem?_take] using h3
  rw [List.getElem?_drop] at this
  simp at this
  rw [this, hdj]
  simp

theorem gTab : Tryd.prog.globalNamed "math/bits.deBruijn32tab" = some 0 := by kernel_rfl
theorem tTab : (Tryd.prog.globals[0]?).map (·.type) = some 81 := by kernel_rfl
theorem cellsU8 : Tryd.prog.cellsOf 5 = 1 := by kernel_rfl

abbrev laids : List (String × DataW Unit) := [("math/bits.deBruijn32tab", Rows.laid_math_bits_deBruijn32tab)]

theorem door_met (os : Os) (args : Array Value) : laidMetH Tryd.prog laids ((World.doorLaid Tryd.prog 400 os).forCall (fun _ _ => 0) ⟨#[], args, []⟩).memory :=
  laidMetH_of_parts3 (fuel := 8) (laidMet_of_run' 8 (by kernel_rfl) (by kernel_rfl)) (by kernel_rfl) (by kernel_rfl)

theorem tab_of {W : World} (h : laidMetH Tryd.prog laids W) : Tab W := by
  rw [MakeChecks.laidMetH_plain _ _ _ (by kernel_rfl)] at h
  obtain ⟨ps, ⟨g0, t0, cs0, f0, p0, q0, hg0, ht0, hv0, hd0, _, _⟩, _, _⟩ := h
  obtain rfl := Option.some.inj (gTab.symm.trans hg0)
  obtain rfl := Option.some.inj (tTab.symm.trans ht0)
  have hd1 : DataW.trod _ Tryd.prog W 0 _ _ f0 81 cs0.toList = some (.agg ((Lib.deBruijn32tab.map Int.ofNat).map fun z => .lit (.int .u8 z)), p0) := hd0
  intro j hj
  have := table_cells Tryd.underlying81 Tryd.underlying5 cellsU8 hd1 j (by simpa using hj)
  have hc := World.var?_cell hg0 hv0 j
  rw [hc, this]
  congr 1
  rw [List.getD_eq_getElem?_getD, List.getElem?_map, List.getD_eq_getElem?_getD, List.getElem?_eq_getElem hj]
  rfl
end Go.Proofs.YtniogjkkhkibhaaDoor
