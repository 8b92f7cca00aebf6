/- Layer 5: DigitsOrder answers true. -/
import Derived.Test.YtiadjcilfljdaaaGreatDoorG26
import Derived.Test.YtiadjcilfljdaaaGreatDoorG37
import Derived.Test.YtiadjcilfljdaaaGreatDoorG02
import Derived.Carry
import Derived.ProofKit
import Derived.OpenShut
import Derived.SizedLaws
import Derived.Test.YtiadjcilfljdaaaGreatDoorG31
import Derived.Test.YtiadjcilfljdaaaGreatDoorTie
import Derived.LaidMore
import Derived.Handed
import Derived.MakeChecks
import Derived.LaidHandle
import Derived.LaidLaws
import Derived.Stop.Joined
import Derived.Stop.LaidErr
import Derived.Lib.LaidTab
section
namespace Go.Proofs.YtiadjcilfljdaaaGreatDoor
set_option linter.unusedVariables false
set_option linter.unusedSimpArgs false
open Go.RowKit Verge

theorem order_any (s t : List UInt8) (hs : s.length ≤ 140737488355328) (ht : t.length ≤ 140737488355328) (w : World) : Calls Tryz.prog 18 #[.string (bs s), .string (bs t)] w (Ans w (IsV (.int .i64 (if (cmpS s t).2.2 = 0 then (cmpS s t).1 else 9)))) := by
  have h1 := fun W => cmpA_any s t hs ht W
  obtain ⟨⟨o, p, c⟩, e⟩ : ∃ x, cmpS s t = x := ⟨_, rfl⟩
  rw [e] at h1 ⊢
  clear e
  generalize bs s = S at *
  generalize bs t = T at *
  simp only [IsI] at h1 ⊢
  have HA := Lib.hid h1
  clear h1
  by_cases hc : c = 0
  · subst hc
    rw [if_pos rfl]
    go_enter Tryz.func18, Tryz.ntmps18
    go_wp2_with fail
    refine (HA.out _).mono ?_
    rintro e w1 ⟨v1, rfl, rfl, hb1⟩
    have HB := Lib.hid hb1
    clear hb1
    go_wp2
    go_ret
    exact ⟨_, rfl, rfl, HB.out⟩
  · rw [if_neg hc]
    have hc' : (c == 0) = false := beq_eq_false_iff_ne.2 hc
    have hc2 : (c != 0) = true := by simp [bne, hc']
    clear hc
    go_enter Tryz.func18, Tryz.ntmps18
    go_wp2_with fail
    refine (HA.out _).mono ?_
    rintro e w1 ⟨v1, rfl, rfl, hb1⟩
    have HB := Lib.hid hb1
    clear hb1
    go_wp2
    go_ret
    exact ⟨_, rfl, rfl, HB.out⟩
set_option maxRecDepth 100000 in
set_option maxHeartbeats 4000000 in
theorem walk_order (s t : List UInt8) (d : Int) (w : World) (hs : s.length ≤ 140737488355328) (ht : t.length ≤ 140737488355328) (d1 : -9223372036854775808 ≤ d) (d2 : d ≤ 9223372036854775807) (hP : Pow10 w) : Calls Tryz.prog 4 #[.string (bs s), .string (bs t), .int .i64 d] w fun e w' => e = .returned (.bool true) ∧ Below w.heap.size w w' := by
  have r1 := fun W => lread_any d s hs W
  have r2 := fun W => lread_any d t ht W
  have c1 := fun W => cmpA_any s t hs ht W
  have c2 := fun W => cmpA_any t s ht hs W
  have o1 := fun W => order_any s s hs hs W
  have o2 := fun W => order_any t t ht ht W
  have H := ord_all d s t
  obtain ⟨x1, x2⟩ := readS_ok d s
  obtain ⟨y1, y2⟩ := readS_ok d t
  obtain ⟨⟨x, a, e⟩, E1⟩ : ∃ x, readS d s = x := ⟨_, rfl⟩
  obtain ⟨⟨y, b, f⟩, E2⟩ : ∃ x, readS d t = x := ⟨_, rfl⟩
  obtain ⟨⟨o, i, c⟩, E3⟩ : ∃ x, cmpS s t = x := ⟨_, rfl⟩
  obtain ⟨⟨p, j, g⟩, E4⟩ : ∃ x, cmpS t s = x := ⟨_, rfl⟩
  rw [E1] at r1 H x1 x2
  rw [E2] at r2 H y1 y2
  rw [E3] at c1 H
  rw [E4] at c2 H
  simp only at r1 r2 H x1 x2 y1 y2
  simp only [IsI] at c1 c2
  have HR1 := Lib.hid r1
  have HR2 := Lib.hid r2
  have HC1 := Lib.hid c1
  have HC2 := Lib.hid c2
  have HL := Lib.hid (fun W (hP : Pow10 W) => lives_any W hP)
  have HF1 := Lib.hid (fun W => fl5_any' x x1 W)
  have HF2 := Lib.hid (fun W => fl5_any' y y1 W)
  have HPP := Lib.hid hP
  have HB := Lib.hid (Below.refl w.heap.size w)
  clear r1 r2 c1 c2 E1 E2 E3 E4 hP d1 d2
  rcases H with ⟨rfl, rfl, hc, hg, H⟩ | ⟨rfl, rfl, rfl, rfl, h1, h2, H⟩
  · clear o1 o2 x1 x2 y1 y2
    generalize bs s = S at *
    generalize bs t = T at *
    have q1 : (c == 0) = false := beq_eq_false_iff_ne.2 hc
    have q2 : (c != 0) = true := by simp [bne, q1]
    have q3 : (g == 0) = false := beq_eq_false_iff_ne.2 hg
    have q4 : (g != 0) = true := by simp [bne, q3]
    by_cases he : e = 0
    · subst he
      have hf : f ≠ 0 := by simpa using H
      have q5 : (f == 0) = false := beq_eq_false_iff_ne.2 hf
      clear H hf hs ht hc hg
      go_enter Tryz.func4, Tryz.ntmps4
      go_wp2_with (first
        | (go_at_call 16; (with_reducible refine (HR1.out _).mono ?_); rintro en wn ⟨vn, rfl, rfl, hbn⟩; have HB := Lib.hid (raft HB.out hbn); clear hbn)
        | (go_at_call 16; (with_reducible refine (HR2.out _).mono ?_); rintro en wn ⟨vn, rfl, rfl, hbn⟩; have HB := Lib.hid (raft HB.out hbn); clear hbn)
        | (go_at_call 17; (with_reducible refine (HC1.out _).mono ?_); rintro en wn ⟨vn, rfl, rfl, hbn⟩; have HB := Lib.hid (raft HB.out hbn); clear hbn)
        | (go_at_call 17; (with_reducible refine (HC2.out _).mono ?_); rintro en wn ⟨vn, rfl, rfl, hbn⟩; have HB := Lib.hid (raft HB.out hbn); clear hbn)
        | (go_at_call 14; (with_reducible refine (HL.out _ (HPP.out.below HB.out)).mono ?_); rintro en wn ⟨rfl, hbn⟩; have HB := Lib.hid (raft HB.out hbn); clear hbn))
      go_ret
      exact ⟨rfl, HB.out⟩
    · have q5 : (e == 0) = false := beq_eq_false_iff_ne.2 he
      clear H he hs ht hc hg
      go_enter Tryz.func4, Tryz.ntmps4
      go_wp2_with (first
        | (go_at_call 16; (with_reducible refine (HR1.out _).mono ?_); rintro en wn ⟨vn, rfl, rfl, hbn⟩; have HB := Lib.hid (raft HB.out hbn); clear hbn)
        | (go_at_call 16; (with_reducible refine (HR2.out _).mono ?_); rintro en wn ⟨vn, rfl, rfl, hbn⟩; have HB := Lib.hid (raft HB.out hbn); clear hbn)
        | (go_at_call 17; (with_reducible refine (HC1.out _).mono ?_); rintro en wn ⟨vn, rfl, rfl, hbn⟩; have HB := Lib.hid (raft HB.out hbn); clear hbn)
        | (go_at_call 17; (with_reducible refine (HC2.out _).mono ?_); rintro en wn ⟨vn, rfl, rfl, hbn⟩; have HB := Lib.hid (raft HB.out hbn); clear hbn)
        | (go_at_call 14; (with_reducible refine (HL.out _ (HPP.out.below HB.out)).mono ?_); rintro en wn ⟨rfl, hbn⟩; have HB := Lib.hid (raft HB.out hbn); clear hbn))
      go_ret
      exact ⟨rfl, HB.out⟩
  · rw [h1] at o1
    rw [h2] at o2
    simp only [if_true] at o1 o2
    have HO1 := Lib.hid o1
    have HO2 := Lib.hid o2
    clear o1 o2 h1 h2 hs ht
    generalize bs s = S at *
    generalize bs t = T at *
    rcases H with ⟨rfl, rfl, H⟩ | ⟨rfl, rfl, rfl⟩ | ⟨rfl, rfl, H⟩
    · have hle := f_le x1 y1
      rw [decide_eq_true ⟨x2, y2, H⟩] at hle
      clear x1 x2 y1 y2 H
      have ho : FloatKind.f64.format.order x y = some .lt ∨ FloatKind.f64.format.order x y = some .eq := by
        have : FloatKind.f64.format = Ieee.double := rfl
        rw [this]
        simpa using hle
      clear hle
      rcases ho with ho | ho
      · go_enter Tryz.func4, Tryz.ntmps4
        go_wp2_with (first
          | (go_at_call 16; (with_reducible refine (HR1.out _).mono ?_); rintro en wn ⟨vn, rfl, rfl, hbn⟩; have HB := Lib.hid (raft HB.out hbn); clear hbn)
          | (go_at_call 16; (with_reducible refine (HR2.out _).mono ?_); rintro en wn ⟨vn, rfl, rfl, hbn⟩; have HB := Lib.hid (raft HB.out hbn); clear hbn)
          | (go_at_call 17; (with_reducible refine (HC1.out _).mono ?_); rintro en wn ⟨vn, rfl, rfl, hbn⟩; have HB := Lib.hid (raft HB.out hbn); clear hbn)
          | (go_at_call 17; (with_reducible refine (HC2.out _).mono ?_); rintro en wn ⟨vn, rfl, rfl, hbn⟩; have HB := Lib.hid (raft HB.out hbn); clear hbn)
          | (go_at_call 14; (with_reducible refine (HL.out _ (HPP.out.below HB.out)).mono ?_); rintro en wn ⟨rfl, hbn⟩; have HB := Lib.hid (raft HB.out hbn); clear hbn)
          | (go_at_call 18; (with_reducible refine (HO1.out _).mono ?_); rintro en wn ⟨vn, rfl, rfl, hbn⟩; have HB := Lib.hid (raft HB.out hbn); clear hbn)
          | (go_at_call 18; (with_reducible refine (HO2.out _).mono ?_); rintro en wn ⟨vn, rfl, rfl, hbn⟩; have HB := Lib.hid (raft HB.out hbn); clear hbn)
          | (go_at_call 13; (with_reducible refine (HF1.out _).mono ?_); rintro en wn ⟨rfl, rfl⟩)
          | (go_at_call 13; (with_reducible refine (HF2.out _).mono ?_); rintro en wn ⟨rfl, rfl⟩))
        go_ret
        exact ⟨rfl, HB.out⟩
      · go_enter Tryz.func4, Tryz.ntmps4
        go_wp2_with (first
          | (go_at_call 16; (with_reducible refine (HR1.out _).mono ?_); rintro en wn ⟨vn, rfl, rfl, hbn⟩; have HB := Lib.hid (raft HB.out hbn); clear hbn)
          | (go_at_call 16; (with_reducible refine (HR2.out _).mono ?_); rintro en wn ⟨vn, rfl, rfl, hbn⟩; have HB := Lib.hid (raft HB.out hbn); clear hbn)
          | (go_at_call 17; (with_reducible refine (HC1.out _).mono ?_); rintro en wn ⟨vn, rfl, rfl, hbn⟩; have HB := Lib.hid (raft HB.out hbn); clear hbn)
          | (go_at_call 17; (with_reducible refine (HC2.out _).mono ?_); rintro en wn ⟨vn, rfl, rfl, hbn⟩; have HB := Lib.hid (raft HB.out hbn); clear hbn)
          | (go_at_call 14; (with_reducible refine (HL.out _ (HPP.out.below HB.out)).mono ?_); rintro en wn ⟨rfl, hbn⟩; have HB := Lib.hid (raft HB.out hbn); clear hbn)
          | (go_at_call 18; (with_reducible refine (HO1.out _).mono ?_); rintro en wn ⟨vn, rfl, rfl, hbn⟩; have HB := Lib.hid (raft HB.out hbn); clear hbn)
          | (go_at_call 18; (with_reducible refine (HO2.out _).mono ?_); rintro en wn ⟨vn, rfl, rfl, hbn⟩; have HB := Lib.hid (raft HB.out hbn); clear hbn)
          | (go_at_call 13; (with_reducible refine (HF1.out _).mono ?_); rintro en wn ⟨rfl, rfl⟩)
          | (go_at_call 13; (with_reducible refine (HF2.out _).mono ?_); rintro en wn ⟨rfl, rfl⟩))
        go_ret
        exact ⟨rfl, HB.out⟩
    · clear x1 x2 y1 y2
      go_enter Tryz.func4, Tryz.ntmps4
      go_wp2_with (first
        | (go_at_call 16; (with_reducible refine (HR1.out _).mono ?_); rintro en wn ⟨vn, rfl, rfl, hbn⟩; have HB := Lib.hid (raft HB.out hbn); clear hbn)
        | (go_at_call 16; (with_reducible refine (HR2.out _).mono ?_); rintro en wn ⟨vn, rfl, rfl, hbn⟩; have HB := Lib.hid (raft HB.out hbn); clear hbn)
        | (go_at_call 17; (with_reducible refine (HC1.out _).mono ?_); rintro en wn ⟨vn, rfl, rfl, hbn⟩; have HB := Lib.hid (raft HB.out hbn); clear hbn)
        | (go_at_call 17; (with_reducible refine (HC2.out _).mono ?_); rintro en wn ⟨vn, rfl, rfl, hbn⟩; have HB := Lib.hid (raft HB.out hbn); clear hbn)
        | (go_at_call 14; (with_reducible refine (HL.out _ (HPP.out.below HB.out)).mono ?_); rintro en wn ⟨rfl, hbn⟩; have HB := Lib.hid (raft HB.out hbn); clear hbn)
        | (go_at_call 18; (with_reducible refine (HO1.out _).mono ?_); rintro en wn ⟨vn, rfl, rfl, hbn⟩; have HB := Lib.hid (raft HB.out hbn); clear hbn)
        | (go_at_call 18; (with_reducible refine (HO2.out _).mono ?_); rintro en wn ⟨vn, rfl, rfl, hbn⟩; have HB := Lib.hid (raft HB.out hbn); clear hbn)
        | (go_at_call 13; (with_reducible refine (HF1.out _).mono ?_); rintro en wn ⟨rfl, rfl⟩)
        | (go_at_call 13; (with_reducible refine (HF2.out _).mono ?_); rintro en wn ⟨rfl, rfl⟩))
      go_ret
      exact ⟨rfl, HB.out⟩
    · have hge := f_ge x1 y1
      rw [decide_eq_true ⟨x2, y2, H⟩] at hge
      clear x1 x2 y1 y2 H
      have ho : FloatKind.f64.format.order x y = some .gt ∨ FloatKind.f64.format.order x y = some .eq := by
        have : FloatKind.f64.format = Ieee.double := rfl
        rw [this]
        simpa using hge
      clear hge
      rcases ho with ho | ho
      · go_enter Tryz.func4, Tryz.ntmps4
        go_wp2_with (first
          | (go_at_call 16; (with_reducible refine (HR1.out _).mono ?_); rintro en wn ⟨vn, rfl, rfl, hbn⟩; have HB := Lib.hid (raft HB.out hbn); clear hbn)
          | (go_at_call 16; (with_reducible refine (HR2.out _).mono ?_); rintro en wn ⟨vn, rfl, rfl, hbn⟩; have HB := Lib.hid (raft HB.out hbn); clear hbn)
          | (go_at_call 17; (with_reducible refine (HC1.out _).mono ?_); rintro en wn ⟨vn, rfl, rfl, hbn⟩; have HB := Lib.hid (raft HB.out hbn); clear hbn)
          | (go_at_call 17; (with_reducible refine (HC2.out _).mono ?_); rintro en wn ⟨vn, rfl, rfl, hbn⟩; have HB := Lib.hid (raft HB.out hbn); clear hbn)
          | (go_at_call 14; (with_reducible refine (HL.out _ (HPP.out.below HB.out)).mono ?_); rintro en wn ⟨rfl, hbn⟩; have HB := Lib.hid (raft HB.out hbn); clear hbn)
          | (go_at_call 18; (with_reducible refine (HO1.out _).mono ?_); rintro en wn ⟨vn, rfl, rfl, hbn⟩; have HB := Lib.hid (raft HB.out hbn); clear hbn)
          | (go_at_call 18; (with_reducible refine (HO2.out _).mono ?_); rintro en wn ⟨vn, rfl, rfl, hbn⟩; have HB := Lib.hid (raft HB.out hbn); clear hbn)
          | (go_at_call 13; (with_reducible refine (HF1.out _).mono ?_); rintro en wn ⟨rfl, rfl⟩)
          | (go_at_call 13; (with_reducible refine (HF2.out _).mono ?_); rintro en wn ⟨rfl, rfl⟩))
        go_ret
        exact ⟨rfl, HB.out⟩
      · go_enter Tryz.func4, Tryz.ntmps4
        go_wp2_with (first
          | (go_at_call 16; (with_reducible refine (HR1.out _).mono ?_); rintro en wn ⟨vn, rfl, rfl, hbn⟩; have HB := Lib.hid (raft HB.out hbn); clear hbn)
          | (go_at_call 16; (with_reducible refine (HR2.out _).mono ?_); rintro en wn ⟨vn, rfl, rfl, hbn⟩; have HB := Lib.hid (raft HB.out hbn); clear hbn)
          | (go_at_call 17; (with_reducible refine (HC1.out _).mono ?_); rintro en wn ⟨vn, rfl, rfl, hbn⟩; have HB := Lib.hid (raft HB.out hbn); clear hbn)
          | (go_at_call 17; (with_reducible refine (HC2.out _).mono ?_); rintro en wn ⟨vn, rfl, rfl, hbn⟩; have HB := Lib.hid (raft HB.out hbn); clear hbn)
          | (go_at_call 14; (with_reducible refine (HL.out _ (HPP.out.below HB.out)).mono ?_); rintro en wn ⟨rfl, hbn⟩; have HB := Lib.hid (raft HB.out hbn); clear hbn)
          | (go_at_call 18; (with_reducible refine (HO1.out _).mono ?_); rintro en wn ⟨vn, rfl, rfl, hbn⟩; have HB := Lib.hid (raft HB.out hbn); clear hbn)
          | (go_at_call 18; (with_reducible refine (HO2.out _).mono ?_); rintro en wn ⟨vn, rfl, rfl, hbn⟩; have HB := Lib.hid (raft HB.out hbn); clear hbn)
          | (go_at_call 13; (with_reducible refine (HF1.out _).mono ?_); rintro en wn ⟨rfl, rfl⟩)
          | (go_at_call 13; (with_reducible refine (HF2.out _).mono ?_); rintro en wn ⟨rfl, rfl⟩))
        go_ret
        exact ⟨rfl, HB.out⟩
end Go.Proofs.YtiadjcilfljdaaaGreatDoor
end

section
namespace Go.Proofs.YtiadjcilfljdaaaGreatDoor
set_option linter.unusedVariables false
set_option linter.unusedSimpArgs false
open Go.ChangeShapes Go.WideShapes Go.ChangeAt Go.RowKit Verge

theorem own : ownKnob Tryz.prog.godebug = none := by kernel_rfl
theorem laidOut : laidOutB Tryz.prog = true := by kernel_rfl
theorem cellsU32 : Tryz.prog.cellsOf 73 = 1 := by kernel_rfl
theorem bytesU32 : Tryz.prog.bytesOf 73 = 4 := by kernel_rfl

section
variable {H : Type} {enc : TypeId × Value → H}

theorem trodAll_below {P : Program} (hl : laidOutB P = true) {W W' : World} (hb : Below W.heap.size W W') : ∀ (ts : List TypeId) (vs : List Value) (ds : List (DataW H)) (ps : List MemPlace),
    (∀ t ∈ ts, P.readableRec t = true ∧ t < P.types.size) → (∀ x ∈ ps, x.block < W.heap.size) → DataW.TrodAll enc P W 0 (fun _ => true) true ts vs ds ps →
    DataW.TrodAll enc P W' 0 (fun b => decide (b < W.heap.size)) true ts vs ds ps := by
  intro ts
  induction ts with
  | nil =>
    intro vs ds ps _ _ h
    cases vs <;> cases ds <;> simp_all [DataW.TrodAll]
  | cons t ts ih =>
    intro vs ds ps ht hp h
    obtain ⟨v, vs', d, ds', p, q, rfl, rfl, rfl, h1, h2⟩ := trodAll_cons h
    exact trodAll_cons_mk (Below.trod hl (ht t (by simp)).1 (ht t (by simp)).2 h1 hb (fun x hx => hp x (List.mem_append_left _ hx)))
      (ih vs' ds' q (fun t' h' => ht t' (by simp [h'])) (fun x hx => hp x (List.mem_append_right _ hx)) h2)

/-- A law has answered true, and below the heap's old size nothing has turned: its row's word holds. -/
theorem law_post {P : Program} {f : Func} {s : ChangeSpec} {apart fresh : Bool} {W W' : World} {args : Array Value} {ds : List (DataW H)} {before : List MemPlace} {tb : TypeId}
    (hW : DataW.Whole enc P f.params.toList s.vars apart W args.toList ds [] before) (hv : s.vars = []) (hl : laidOutB P = true)
    (hts : f.params.toList.all (fun t => P.readableRec t && decide (t < P.types.size)) = true) (hr : f.resultTypes = #[tb]) (htb : P.underlying tb = some .bool)
    (hfn : s.fn H ds = { results := [.lit (.bool true)], args := ds }) (hb : Below W.heap.size W W') :
    s.post enc P f apart fresh false false W args (.bool true) W' := by
  have hlt : ∀ x ∈ before, x.block < W.heap.size := fun x hx => by simpa using hW.lt x hx
  have hW' := hW
  obtain ⟨p, q, hA, hV, rfl, hfz, hnd⟩ := hW
  rw [hv] at hV
  obtain ⟨-, rfl⟩ := trodVars_none hV
  have hA' := trodAll_below hl hb _ _ _ _ (fun t ht => by have := List.all_eq_true.1 hts t ht; simpa using this) (fun x hx => hlt x (by simpa using hx)) hA
  refine ⟨ds, [], p ++ [], [], p, [], hW', ?_, ?_, ?_, World.keptBut_mono (fun x hx => ⟨hx, Or.inr (Or.inl (by simpa using hx))⟩) (hb.frame _), fun h => by cases h⟩
  · rw [List.append_nil, hfn, hr]
    exact trodAll_cons_mk (shut_bool htb _) trodAll_mk0
  · rw [List.append_nil, hfn]; exact hA'
  · rw [List.append_nil, hfn, hv]
    exact rfl

set_option maxRecDepth 100000 in
/-- A list of words that came in: it reads as a list; its room is within the reach. -/
theorem words_open {W : World} {v : Value} {d : DataW H} {p : List MemPlace} {base : Nat} (h : DataW.Trod enc Tryz.prog W 0 (fun _ => true) true 50 v d p) (hok : Value.okWide Tryz.prog W .any base 50 v) :
    ∃ A n c X, v = .slice A n c ∧ Rd W A X ∧ X.length = n ∧ n ≤ c ∧
      ∀ (ts : List TypeId) (ds : List (DataW H)) (j : Nat), (DataW.weightsEach Tryz.prog ts ds).all (· ≤ reachBytes) = true → ts[j]? = some 50 → ds[j]? = some d → c ≤ 35184372087808 := by
  obtain ⟨A, n, c, rfl⟩ := okWide_slice Tryz.underlying50 hok
  obtain ⟨fuel, hf⟩ := h
  rcases open_ints Tryz.underlying50 Tryz.underlying73 cellsU32 hf with ⟨hcs, hx⟩ | ⟨a, len, cap, zs, hcs, _, hl, hm, hz, hx, hcell, hwz⟩
  · simp [Value.cells] at hcs
    obtain ⟨rfl, rfl, rfl⟩ := hcs
    exact ⟨none, 0, 0, [], rfl, Rd.nil, rfl, Nat.le_refl _, fun _ _ _ _ _ _ => by omega⟩
  · simp [Value.cells] at hcs
    obtain ⟨rfl, rfl, rfl⟩ := hcs
    simp only [Prod.mk.injEq] at hx
    obtain ⟨rfl, rfl⟩ := hx
    simp only [if_true] at hz
    have hw : ∀ z ∈ zs, 0 ≤ z ∧ z < 4294967296 := fun z hz' => by
      have := hwz z hz'
      simp [Lit.wf, IntKind.min, IntKind.max, IntKind.signed, IntKind.bits] at this
      omega
    refine ⟨some a, n, c, (zs.take n).map Int.toNat, rfl, ⟨?_, ?_⟩, by simp; omega, hl, ?_⟩
    · intro x hx
      obtain ⟨z, hz', rfl⟩ := List.mem_map.1 hx
      have := hw z (List.mem_of_mem_take hz')
      omega
    · intro hne
      have hl0 : 0 < n := by
        rcases Nat.eq_zero_or_pos n with e | e
        · subst e; simp at hne
        · exact e
      obtain ⟨b, off, spot⟩ := a
      have hs : spot = none := by
        have := hcell 0 (by omega)
        rw [Addr.add, if_pos rfl] at this
        unfold World.cell? at this
        split at this
        · cases spot with
          | none => rfl
          | some k => simp at this
        · cases this
      subst hs
      refine ⟨b, off, rfl, fun k x hx => ?_⟩
      rw [List.getElem?_map, Option.map_eq_some_iff] at hx
      obtain ⟨z, hz1, rfl⟩ := hx
      rw [List.getElem?_take] at hz1
      split at hz1
      · have hk := (List.getElem?_eq_some_iff.1 hz1).1
        have := hcell k hk
        rw [add_none, List.getD_eq_getElem?_getD, hz1, Option.getD_some] at this
        rw [this, Int.toNat_of_nonneg (hw z (List.mem_of_getElem? hz1)).1]
      · cases hz1
    · intro ts ds j hsz ht hd
      have := sized_slice hsz ht hd Tryz.underlying50
      rw [bytesU32] at this
      simp only [lits, List.length_map, List.length_take, List.length_drop, reachBytes] at this
      omega
end
end Go.Proofs.YtiadjcilfljdaaaGreatDoor
end

section
namespace Go.Proofs.YtiadjcilfljdaaaGreatDoor
set_option linter.unusedVariables false
set_option linter.unusedSimpArgs false
open Go.ChangeShapes Go.WideShapes Go.ChangeAt Go.RowKit Verge

theorem gTab64 : Tryz.prog.globalNamed "math/bits.deBruijn64tab" = some 3 := by kernel_rfl
theorem tTab64 : (Tryz.prog.globals[3]?).map (·.type) = some 141 := by kernel_rfl
theorem gTab10 : Tryz.prog.globalNamed "internal/strconv.uint64pow10" = some 1 := by kernel_rfl
theorem tTab10 : (Tryz.prog.globals[1]?).map (·.type) = some 133 := by kernel_rfl

/-- The 64 bytes of the listed table. -/
def tab64 : List Int := [0, 1, 56, 2, 57, 49, 28, 3, 61, 58, 42, 50, 38, 29, 17, 4, 62, 47, 59, 36, 45, 43, 51, 22, 53, 39, 33, 30, 24, 18, 12, 5, 63, 55, 48, 27, 60, 41, 37, 16, 46, 35, 44, 21, 52, 32, 23, 11, 54, 26, 40, 15, 34, 20, 31, 10, 25, 14, 19, 9, 13, 8, 7, 6]

abbrev laids : List (String × DataW Unit) := [("math/bits.deBruijn32tab", Rows.laid_math_bits_deBruijn32tab), ("math/bits.deBruijn64tab", Rows.laid_math_bits_deBruijn64tab), ("internal/strconv.uint64pow10", Rows.laid_internal_strconv_uint64pow10)]

theorem door_met (os : Os) (args : Array Value) : laidMetH Tryz.prog laids ((World.doorLaid Tryz.prog 400 os).forCall (fun _ _ => 0) ⟨#[], args, []⟩).memory :=
  laidMetH_of_parts3 (fuel := 8) (laidMet_of_run' 8 (by kernel_rfl) (by kernel_rfl)) (by kernel_rfl) (by kernel_rfl)

theorem tab_of {W : World} (h : laidMetH Tryz.prog laids W) : Tab16 W ∧ Pow10 W := by
  rw [MakeChecks.laidMetH_plain _ _ _ (by kernel_rfl)] at h
  have h1 := h.tail
  have h2 := h1.tail
  have e1 : (Rows.laid_math_bits_deBruijn64tab : DataW Unit) = Lib.tabData .u8 tab64 := rfl
  have e2 : (Rows.laid_internal_strconv_uint64pow10 : DataW Unit) = Lib.tabData .u64 Lib.pow10Tab := rfl
  rw [e1] at h1
  rw [e2] at h2
  refine ⟨?_, ?_⟩
  · have := (Lib.tabIs_of_head gTab64 tTab64 Tryz.underlying141 Tryz.underlying5 (by kernel_rfl) (by kernel_rfl) h1).cell gTab64 15 (by decide)
    exact this
  · exact Lib.tabIs_of_head gTab10 tTab10 Tryz.underlying133 Tryz.underlying22 (by kernel_rfl) (by kernel_rfl) h2
end Go.Proofs.YtiadjcilfljdaaaGreatDoor
end
