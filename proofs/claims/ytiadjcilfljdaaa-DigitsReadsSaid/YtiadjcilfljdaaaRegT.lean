/- Regions that draw their order, with a tail of several operations, each of which waits for all ahead of it. -/
import Derived.Test.YtiadjcilfljdaaaReg
namespace Go.Proofs.Ytiadjcilfljdaaa
set_option linter.unusedVariables false
set_option linter.unusedSimpArgs false
open Go Go.RowKit

/-- From number m on, each operation waits for all ahead of it. -/
def tailOk (ops : Array Oper) (m : Nat) : Bool := (List.range ops.size).all fun i => decide (i < m) || (List.range i).all fun j => (ancB ops i).contains j
theorem tailOk_at {ops : Array Oper} {m : Nat} (h : tailOk ops m = true) {i : Nat} (hm : m ≤ i) (hi : i < ops.size) : ((List.range i).all fun j => (ancB ops i).contains j) = true := by
  have := List.all_eq_true.1 h i (List.mem_range.2 hi)
  simp only [Bool.or_eq_true, decide_eq_true_eq] at this
  rcases this with h | h
  · omega
  · exact h
theorem range_ge (m n : Nat) : ((List.range n).filter fun j => decide (m ≤ j)).length = n - m := by
  induction n with
  | zero => simp
  | succ n ih =>
    rw [List.range_succ, List.filter_append, List.length_append, ih]
    by_cases h : m ≤ n
    · simp [h]; omega
    · simp [h]; omega
section
variable {P : Program} {ops : Array Oper} {Φ : Nat → Value → World → Prop} {a0 : Act} {w0 : World} {Q : Exit → Act → World → Prop}
/-- The tail, one operation behind the other. -/
theorem seq_any (hok : regOk ops a0.tmps.size = true) {m : Nat} (hlast : tailOk ops m = true) : ∀ {n : Nat} (hn : m ≤ n) (r : List Oper) (hr : ops.toList.drop n = r) (L : Array Bool) (hLs : L.size = ops.size) (hall : ∀ j, j < ops.size → L.getD j false = decide (j < n)) (fuel : Nat) (hf : ops.size - n ≤ fuel) (a : Act) (w : World),
    wpList P ops Q r a w → wpAny P .any ops Q fuel L a w := by
  intro n hn r
  induction r generalizing n with
  | nil =>
    intro hr L hLs hall fuel hf a w hw
    have hn2 : ops.size ≤ n := by
      have := congrArg List.length hr
      simp at this; omega
    exact any_done hLs (fun j hj => by rw [hall j hj]; simp; omega) (by simpa [wpList] using hw) fuel
  | cons o r ih =>
    intro hr L hLs hall fuel hf a w hw
    have hn2 : n < ops.size := by
      have := congrArg List.length hr
      simp at this; omega
    have ho : ops[n]? = some o := by
      have := congrArg (fun l => l[0]?) hr
      simpa using this
    have hr2 : ops.toList.drop (n + 1) = r := by
      have := congrArg List.tail hr
      simpa using this
    obtain ⟨fuel, rfl⟩ : ∃ k, fuel = k + 1 := ⟨fuel - 1, by omega⟩
    have hshut : ∀ j o, ops[j]? = some o → L.getD j false = true → ∀ e ∈ o.after, Region.binds .any e = true → L.getD e.on false = true := by
      intro j oj hoj hj e he hb
      have hjs := (Array.getElem?_eq_some_iff.1 hoj).1
      have hone := reg_one hok hoj
      unfold regOne at hone
      simp only [Bool.and_eq_true] at hone
      have := (Array.all_eq_true'.1 hone.1.1) e he
      simp only [Bool.or_eq_true, Bool.not_eq_true', decide_eq_true_eq, hb] at this
      rw [hall j hjs] at hj
      have hj := of_decide_eq_true hj
      rcases this with h | h
      · cases h
      · rw [hall e.on (by omega)]; simp; omega
    refine ⟨fun h0 => ?_, fun i hi => ?_⟩
    · have := ready_none hok hLs h0 n hn2
      rw [hall n hn2] at this
      simp at this
    · unfold Region.ready at hi
      rw [List.mem_filter] at hi
      obtain ⟨hi1, hi2⟩ := hi
      have hi1 := List.mem_range.1 hi1
      have hoi : ops[i]? = some ops[i] := Array.getElem?_eq_getElem hi1
      rw [getD_tf hLs hi1, hoi] at hi2
      simp only [Option.map_some, Option.getD_some, Bool.and_eq_true, Bool.not_eq_true', Array.all_eq_true', Bool.or_eq_true] at hi2
      obtain ⟨hL, hr'⟩ := hi2
      have hr' : ∀ e ∈ ops[i].after, Region.binds .any e = true → L.getD e.on false = true := fun e he hb => by
        rcases hr' e he with h | h
        · rw [hb] at h; cases h
        · exact h
      have hge : n ≤ i := by
        rw [hall i hi1] at hL
        simpa using hL
      have hin : i = n := by
        rcases Nat.lt_or_ge n i with h | h
        · exfalso
          have hanc := tailOk_at hlast (show m ≤ i by omega) hi1
          have hmem := List.all_eq_true.1 hanc n (List.mem_range.2 h)
          rcases anc_listed hshut (fun o ho' => by rw [hoi] at ho'; injection ho' with e; subst e; exact hr') n (by simpa using hmem) with h' | h'
          · omega
          · rw [hall n hn2] at h'; simp at h'
        · omega
      subst hin
      have hdone : ∀ a' w', wpList P ops Q r a' w' → wpAny P .any ops Q fuel (L.setIfInBounds i true) a' w' := fun a' w' hq =>
        ih (n := i + 1) (by omega) hr2 _ (by simp [hLs]) (fun j hj => by
          rw [getD_set_tf (by omega)]
          by_cases e : j = i
          · rw [if_pos e]; simp; omega
          · rw [if_neg e, hall j hj]; exact decide_eq_decide.2 (by omega)) fuel (by omega) a' w' hq
      unfold wpOp
      rw [ho]
      simp only []
      simp only [wpList] at hw
      split
      · rename_i hww
        rw [if_pos hww] at hw
        exact hw.imp (Oper.wp_mono hdone) id
      · rename_i hww
        rw [if_neg hww] at hw
        exact hdone _ _ hw
variable (hok : regOk ops a0.tmps.size = true) (hmono : ∀ i v w w', Below w.heap.size w w' → Φ i v w → Φ i v w') {front rest : List Oper} (hfr : ops.toList = front ++ rest) (heach : Each P ops Φ a0 w0 0 front)
include hok hmono hfr heach
theorem reg_anyT (hlast : tailOk ops front.length = true)
    (hfin : ∀ f w', Below w0.heap.size w0 w' → HoldFrom Φ f w' 0 front → wpList P ops Q rest (putFrom f 0 front a0) w') :
    ∀ (fuel : Nat) (L : Array Bool) (f : Nat → Value) (a : Act) (w : World), L.size = ops.size → (∀ j, front.length ≤ j → L.getD j false = false) → ((List.range ops.size).filter fun j => !L.getD j false).length ≤ fuel → RegInv ops Φ a0 w0 L f a w → wpAny P .any ops Q fuel L a w := by
  have hlen : ops.size = front.length + rest.length := by
    have := congrArg List.length hfr
    simpa using this
  have hend : ∀ (L : Array Bool) (f : Nat → Value) (a : Act) (w : World), RegInv ops Φ a0 w0 L f a w → (∀ j, j < ops.size → L.getD j false = decide (j < front.length)) → wpList P ops Q rest a w := by
    intro L f a w hI hall
    rw [reg_front hok hfr hI hall]
    exact hfin f w hI.below (hold_of f w _ 0 fun j hj => by rw [Nat.zero_add]; exact hI.hold j (by rw [hall j (by omega)]; simpa using hj))
  have hnorm : ∀ (L : Array Bool) (f : Nat → Value) (a : Act) (w : World), L.size = ops.size → (∀ j, front.length ≤ j → L.getD j false = false) → RegInv ops Φ a0 w0 L f a w → Region.ready .any ops L = [] → Q .normal a w := by
    intro L f a w hLs hback hI h0
    have hall := ready_none hok hLs h0
    have hle : rest.length = 0 := by
      rcases Nat.eq_zero_or_pos rest.length with h | h
      · exact h
      · have := hall front.length (by omega)
        rw [hback _ (Nat.le_refl _)] at this
        cases this
    have hrest : rest = [] := List.eq_nil_of_length_eq_zero hle
    subst hrest
    have := hend L f a w hI (fun j hj => by rw [hall j hj]; simp; omega)
    simpa [wpList] using this
  intro fuel
  induction fuel with
  | zero =>
    intro L f a w hLs hback hcnt hI
    have hall : ∀ j, j < ops.size → L.getD j false = true := by
      intro j hj
      cases hL : L.getD j false with
      | true => rfl
      | false =>
        exfalso
        have : j ∈ (List.range ops.size).filter fun j => !L.getD j false := List.mem_filter.2 ⟨List.mem_range.2 hj, by simp [hL]⟩
        have := List.length_pos_of_mem this
        omega
    exact ⟨ready_all hLs hall, hnorm L f a w hLs hback hI (ready_all hLs hall)⟩
  | succ fuel ih =>
    intro L f a w hLs hback hcnt hI
    refine ⟨fun h0 => hnorm L f a w hLs hback hI h0, fun i hi => ?_⟩
    unfold Region.ready at hi
    rw [List.mem_filter] at hi
    obtain ⟨hi1, hi2⟩ := hi
    have hi1 := List.mem_range.1 hi1
    have ho : ops[i]? = some ops[i] := Array.getElem?_eq_getElem hi1
    rw [getD_tf hLs hi1, ho] at hi2
    simp only [Option.map_some, Option.getD_some, Bool.and_eq_true, Bool.not_eq_true', Array.all_eq_true', Bool.or_eq_true] at hi2
    obtain ⟨hL, hr⟩ := hi2
    have hr' : ∀ e ∈ ops[i].after, Region.binds .any e = true → L.getD e.on false = true := fun e he hb => by
      rcases hr e he with h | h
      · rw [hb] at h; cases h
      · exact h
    unfold wpOp
    rw [ho]
    simp only []
    by_cases hif : i < front.length
    · have hstep := reg_step (Q := Q) hok hmono hfr heach hLs hI hif ho hL hr' (K := wpAny P .any ops Q fuel (L.setIfInBounds i true)) (fun f' a' w' hI' => ih _ f' a' w' (by simp [hLs]) (fun j hj => by
          rw [getD_set_tf (by omega), if_neg (by omega)]; exact hback j hj) ?_ hI')
      · split
        · rename_i hw; rw [if_pos hw] at hstep; exact .inl hstep
        · rename_i hw; rw [if_neg hw] at hstep; exact hstep
      · have hlt : ((List.range ops.size).filter fun j => !(L.setIfInBounds i true).getD j false).length < ((List.range ops.size).filter fun j => !L.getD j false).length := by
          have e1 : ((List.range ops.size).filter fun j => !(L.setIfInBounds i true).getD j false) = ((List.range ops.size).filter fun j => !L.getD j false).filter (fun j => decide (j ≠ i)) := by
            rw [List.filter_filter]
            refine List.filter_congr fun j _ => ?_
            rw [getD_set_tf (by omega)]
            by_cases e : j = i
            · simp [e]
            · simp [e]
          rw [e1]
          refine List.length_filter_lt_length_iff_exists.2 ⟨i, List.mem_filter.2 ⟨List.mem_range.2 hi1, by simp [hL]⟩, by simp⟩
        omega
    · -- the tail
      have hin : i = front.length := by
        rcases Nat.lt_or_ge front.length i with h | h
        · exfalso
          have hanc := tailOk_at hlast (show front.length ≤ i by omega) hi1
          have hmem := List.all_eq_true.1 hanc front.length (List.mem_range.2 h)
          rcases anc_listed hI.shut (fun o ho' => by rw [ho] at ho'; injection ho' with e; subst e; exact hr') front.length (by simpa using hmem) with h' | h'
          · omega
          · rw [hback _ (Nat.le_refl _)] at h'; cases h'
        · omega
      subst hin
      have hanc := tailOk_at hlast (Nat.le_refl _) hi1
      have hall : ∀ j, j < ops.size → L.getD j false = decide (j < front.length) := by
        intro j hj
        by_cases hjf : j < front.length
        · have hmem := List.all_eq_true.1 hanc j (List.mem_range.2 hjf)
          rcases anc_listed hI.shut (fun o ho' => by rw [ho] at ho'; injection ho' with e; subst e; exact hr') j (by simpa using hmem) with h | h
          · omega
          · rw [h]; simp [hjf]
        · rw [hback j (by omega)]; simp [hjf]
      have hw := hend L f a w hI hall
      have hseq := seq_any hok hlast (n := front.length) (Nat.le_refl _) rest (by rw [hfr, List.drop_left]) L hLs hall (fuel + 1) (by
        have e : ((List.range ops.size).filter fun j => !L.getD j false).length = ops.size - front.length := by
          have h1 : ((List.range ops.size).filter fun j => !L.getD j false) = (List.range ops.size).filter fun j => decide (front.length ≤ j) := List.filter_congr fun j hj => by
            rw [hall j (List.mem_range.1 hj)]
            by_cases h : j < front.length <;> simp [h] <;> omega
          rw [h1]
          exact range_ge _ _
        omega) a w hw
      have := hseq.2 front.length (by
        unfold Region.ready
        rw [List.mem_filter]
        refine ⟨List.mem_range.2 hi1, ?_⟩
        rw [getD_tf hLs hi1, ho, hL]
        simp only [Bool.not_false, Option.map_some, Option.getD_some, Bool.true_and, Array.all_eq_true', Bool.or_eq_true, Bool.not_eq_true']
        exact hr)
      unfold wpOp at this
      rw [ho] at this
      exact this

theorem region_eachT {id : Nat} (hm : P.follows .mixedOrders = true) (hlast : tailOk ops front.length = true)
    (hfin : ∀ f w', Below w0.heap.size w0 w' → HoldFrom Φ f w' 0 front → wpList P ops Q rest (putFrom f 0 front a0) w') : (Code.region id ops true).wp P Q a0 w0 := by
  have hf0 : ∀ j, (Array.replicate ops.size false).getD j false = false := fun j => by simp [Array.getD]
  refine wp_region_any hm (reg_anyT hok hmono hfr heach hlast hfin ops.size _ (fun _ => undef) a0 _ (by simp) (fun j _ => hf0 j) ?_ ⟨?_, ?_, ?_, ?_⟩)
  · exact Nat.le_trans (List.length_filter_le _ _) (by simp)
  · refine ⟨rfl, rfl, fun s hs => ?_⟩
    cases ownerOf ops s with
    | none => rfl
    | some j => simp [hf0 j]
  · exact ⟨rfl, rfl, rfl, Nat.le_refl _, fun _ _ => rfl⟩
  · intro j hj
    rw [hf0 j] at hj; cases hj
  · intro j o ho hj
    rw [hf0 j] at hj; cases hj
end
/-- Of the first k operations each is looked at by itself; the others come one behind the other. -/
theorem region_tail {P : Program} {ops : Array Oper} {a0 : Act} {w0 : World} {Q : Exit → Act → World → Prop} {id : Nat} (k : Nat) (Φ : Nat → Value → World → Prop) (hm : P.follows .mixedOrders = true) (hok : regOk ops a0.tmps.size = true) (hlast : tailOk ops (ops.toList.take k).length = true)
    (hmono : ∀ i v w w', Below w.heap.size w w' → Φ i v w → Φ i v w') (heach : Each P ops Φ a0 w0 0 (ops.toList.take k))
    (hfin : ∀ f w', Below w0.heap.size w0 w' → HoldFrom Φ f w' 0 (ops.toList.take k) → wpList P ops Q (ops.toList.drop k) (putFrom f 0 (ops.toList.take k) a0) w') : (Code.region id ops true).wp P Q a0 w0 :=
  region_eachT hok hmono (List.take_append_drop k _).symm heach hm hlast hfin
end Go.Proofs.Ytiadjcilfljdaaa
