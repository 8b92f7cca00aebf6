/- One form for contracts: a call answers a value of which something holds, and touches nothing that stood. Vergeref2's naturals in that form. -/
import Derived.Test.YtiadjcilfljdaaaRatB
import Derived.Test.YtiadjcilfljdaaaReg
namespace Go.Proofs.Ytiadjcilfljdaaa
set_option linter.unusedVariables false
set_option linter.unusedSimpArgs false
open Go.RowKit Verge

def Ans (w : World) (φ : Value → World → Prop) (e : Ending) (w' : World) : Prop := ∃ v, e = .returned v ∧ φ v w' ∧ Below w.heap.size w w'
/-- A list of words. -/
def IsL (xs : List Nat) (v : Value) (w : World) : Prop := ∃ A c, v = .slice A xs.length c ∧ Rd w A xs
def IsN (n : Nat) (v : Value) (w : World) : Prop := IsL (dig n) v w
/-- A ratio: its sign, and the lists of its numbers. -/
def IsR (s : Bool) (xs ys : List Nat) (v : Value) (w : World) : Prop := ∃ a b, v = .agg #[.bool s, a, b] ∧ IsL xs a w ∧ IsL ys b w
def IsQ (s : Bool) (n d : Nat) (v : Value) (w : World) : Prop := IsR s (dig n) (dig d) v w
def Is2 (φ ψ : Value → World → Prop) (v : Value) (w : World) : Prop := ∃ a b, v = .tuple #[a, b] ∧ φ a w ∧ ψ b w

theorem IsL.mono (xs : List Nat) : Mono (IsL xs) := fun _ _ _ hb ⟨A, c, e, h⟩ => ⟨A, c, e, h.below hb⟩
theorem IsN.mono (n : Nat) : Mono (IsN n) := IsL.mono _
theorem IsR.mono (s : Bool) (xs ys : List Nat) : Mono (IsR s xs ys) := fun _ _ _ hb ⟨a, b, e, h, k⟩ => ⟨a, b, e, IsL.mono xs _ _ _ hb h, IsL.mono ys _ _ _ hb k⟩
theorem IsQ.mono (s : Bool) (n d : Nat) : Mono (IsQ s n d) := IsR.mono _ _ _
theorem Is2.mono {φ ψ : Value → World → Prop} (h : Mono φ) (k : Mono ψ) : Mono (Is2 φ ψ) := fun _ _ _ hb ⟨a, b, e, p, q⟩ => ⟨a, b, e, h _ _ _ hb p, k _ _ _ hb q⟩
theorem ans_quiet {P : Program} {f : FuncId} {args : Array Value} {w : World} {u : Value} (h : Calls P f args w fun e w' => e = .returned u ∧ w = w') : Calls P f args w (Ans w (IsV u)) :=
  h.mono fun e w' ⟨he, hw⟩ => ⟨u, he, rfl, hw ▸ Below.refl _ _⟩
theorem ans_drew {P : Program} {f : FuncId} {args : Array Value} {w : World} {u : Value} (h : Calls P f args w fun e w' => e = .returned u ∧ ∃ k, w.drewN k = w') : Calls P f args w (Ans w (IsV u)) :=
  h.mono fun e w' ⟨he, k, hw⟩ => ⟨u, he, rfl, hw ▸ below_drewN (Below.refl _ _) k⟩
theorem ans_below {P : Program} {f : FuncId} {args : Array Value} {w : World} {u : Value} (h : Calls P f args w fun e w' => e = .returned u ∧ Below w.heap.size w w') : Calls P f args w (Ans w (IsV u)) :=
  h.mono fun e w' ⟨he, hw⟩ => ⟨u, he, rfl, hw⟩
theorem ans_doc {P : Program} {f : FuncId} {args : Array Value} {w : World} {n : Nat} (h : Calls P f args w (Doc w n)) : Calls P f args w (Ans w (IsN n)) :=
  h.mono fun e w' ⟨A, c, he, hR, _, _, hb⟩ => ⟨_, he, ⟨A, c, rfl, hR⟩, hb⟩
theorem ans_rat {P : Program} {f : FuncId} {args : Array Value} {w : World} {s : Bool} {n d : Nat} (h : Calls P f args w (RatP w s n d)) : Calls P f args w (Ans w (IsQ s n d)) :=
  h.mono fun e w' ⟨A, c, B, k, he, hR, hS, hb⟩ => ⟨_, he, ⟨_, _, rfl, ⟨A, c, rfl, hR⟩, ⟨B, k, rfl, hS⟩⟩, hb⟩

theorem IsL.words {xs : List Nat} {v : Value} {w : World} (h : IsL xs v w) : W32 xs := by
  obtain ⟨A, c, _, hR⟩ := h
  exact hR.1

section
variable {w : World} {v u : Value} {xs ys : List Nat}
theorem norm_is (hv : IsL xs v w) (hb : xs.length ≤ 35184372088800) : Calls Try.prog 53 #[v] w (Ans w (IsN (val xs))) := by
  obtain ⟨A, c, rfl, h⟩ := hv
  exact ans_doc (rnorm_any A _ c xs w h rfl hb)
theorem cmp_is (hv : IsL xs v w) (hu : IsL ys u w) (h1 : xs.length ≤ 140737488355328) (h2 : ys.length ≤ 140737488355328) : Calls Try.prog 37 #[v, u] w (Ans w (IsV (.int .i64 (cmp (val xs) (val ys))))) := by
  obtain ⟨A, c, rfl, h⟩ := hv
  obtain ⟨B, d, rfl, k⟩ := hu
  exact ans_drew (rcmp_any A _ c xs B _ d ys w h rfl k rfl h1 h2)
theorem times_is (hv : IsL xs v w) (hu : IsL ys u w) (h1 : xs.length + ys.length ≤ 35184372088800) : Calls Try.prog 35 #[v, u] w (Ans w (IsN (val xs * val ys))) := by
  obtain ⟨A, c, rfl, h⟩ := hv
  obtain ⟨B, d, rfl, k⟩ := hu
  have := wl_le xs
  have := wl_le ys
  exact ans_doc (rtimes_any A _ c xs B _ d ys w h rfl k rfl (by omega) (by omega) (by omega))
theorem frac_is (s : Bool) (e : Int) (hv : IsL xs v w) (hu : IsL ys u w) (h1 : xs.length + e.toNat / 32 + 4 ≤ 35184372088800) (h2 : ys.length + (-e).toNat / 32 + 4 ≤ 35184372088800) :
    Calls Try.prog 31 #[.bool s, v, u, .int .i64 e] w (Ans w (IsQ (s && decide (val xs ≠ 0)) (fracN (val xs) (val ys) e) (fracD (val xs) (val ys) e))) := by
  obtain ⟨A, c, rfl, h⟩ := hv
  obtain ⟨B, d, rfl, k⟩ := hu
  exact ans_rat (rfrac_any s A _ c xs B _ d ys e w h rfl k rfl h1 h2)
end
end Go.Proofs.Ytiadjcilfljdaaa
