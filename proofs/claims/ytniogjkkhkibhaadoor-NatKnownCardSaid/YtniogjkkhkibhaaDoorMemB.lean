/- More words on memory: make with a capacity, append with room. -/
import Derived.Test.YtniogjkkhkibhaaDoorMem
namespace Go.Proofs.YtniogjkkhkibhaaDoor
set_option linter.unusedVariables false
set_option linter.unusedSimpArgs false
open Go.RowKit Verge

theorem run_make_u32c (l n : Nat) (hl : l ≤ n) (hn : n ≤ 70368744177664) (w : World) :
    (Instr.makeSlice 22 (.int .i64 (l : Int)) (.int .i64 (n : Int))).run Tryd.prog w = .ok (.slice (some ⟨w.heap.size, 0, none⟩) l n) (w.alloc (.cells (u32s (List.replicate n 0)).toArray 23)) := by
  obtain ⟨i0, hi, hz0, hz1, hz2⟩ := info_parts Tryd.info23
  have h := run_make (P := Tryd.prog) w 22 23 i0 (.int .u32 0) Tryd.underlying22 hi hz0 .i64 .i64 l n (by omega) (by omega) (by rw [hz2]; omega) (by omega)
  rw [h, hz1]
  simp only [Int.toNat_natCast, Value.cells, Nat.mul_one, madeRow]

theorem run_append_u32 (w : World) (ty : TypeId) (g k cap gs m c : Nat) (xs zs : List Nat) (hB : Blk w g zs) (hz : zs.length = cap) (hS : Blk w gs xs) (hx : xs.length = m) (hkm : k + m ≤ cap) :
    (Builtin.append_ #[22, 22] ty #[.slice (some ⟨g, 0, none⟩) k cap, .slice (some ⟨gs, 0, none⟩) m c]).run Tryd.prog w =
      .ok (.slice (some ⟨g, 0, none⟩) (k + m) cap) (w.setRow g (u32s (zs.take k ++ xs ++ zs.drop (k + m))).toArray) := by
  obtain ⟨i0, hi, hz0, hz1, hz2⟩ := info_parts Tryd.info23
  rw [run_append_room (P := Tryd.prog) w 22 ty 23 i0 Tryd.underlying22 hi g k cap _ hB.2 ⟨gs, 0, none⟩ m c (u32s xs) (by rw [u32s_length, hx, hz1, Nat.mul_one])
    (fun j u hu => ?_) (fun u hu => ?_) hkm (by simp [u32s_length, hz1, hz, hx]; omega)]
  · rw [hz1]
    simp [u32s, hx, List.map_take, List.map_drop]
  · rw [u32s_get, Option.map_eq_some_iff] at hu
    obtain ⟨x, hx1, rfl⟩ := hu
    rw [add_none, Nat.zero_add, hS.cell?, hx1]; rfl
  · simp only [u32s, List.mem_map] at hu
    obtain ⟨x, _, rfl⟩ := hu
    rfl

/-- append(l, s...): l a row of the call's own with room. -/
theorem wpList_append_u32 {w : World} {ops : Array Oper} {rest : List Oper} {o : Oper} {a : Act} {Q : Exit → Act → World → Prop} (hgd : o.guard = none) (s x : Operand)
    (ho : o.op = .call { callee := .builtin .append, args := #[s, x], argTypes := #[22, 22] })
    (g k cap gs m c : Nat) (xs zs : List Nat) (hs : a.eval s = .slice (some ⟨g, 0, none⟩) k cap) (hx : a.eval x = .slice (some ⟨gs, 0, none⟩) m c)
    (hB : Blk w g zs) (hz : zs.length = cap) (hS : Blk w gs xs) (hxl : xs.length = m) (hkm : k + m ≤ cap)
    (h : ∀ w', Blk w' g (zs.take k ++ xs ++ zs.drop (k + m)) → w.grownBy w' (some g) → wpList Tryd.prog ops Q rest (a.put o.dst (.slice (some ⟨g, 0, none⟩) (k + m) cap)) w') : wpList Tryd.prog ops Q (o :: rest) a w := by
  refine wpList_plain hgd fun K hK => ?_
  unfold Oper.wp execOp
  simp only [ho, resolve, invoke, builtin, Sem.run_bind, Sem.run_pure, Result.andThen_ok, List.map_toArray, List.map_cons, List.map_nil, hs, hx, run_append_u32 w o.type g k cap gs m c xs zs hB hz hS hxl hkm]
  refine hK _ _ (h _ ⟨((hB.1.take k).append hS.1).append (hB.1.drop _), ?_⟩ (grownBy_setRow w g _))
  rw [setRow_heap w g _ _ _ _ hB.2]
end Go.Proofs.YtniogjkkhkibhaaDoor
