/- Layer 5, the program: numeral, the prefix. -/
import Derived.Test.YtiadjcilfljdaaaGreatDoorG19
namespace Go.Proofs.YtiadjcilfljdaaaGreatDoor
set_option linter.unusedVariables false
set_option linter.unusedSimpArgs false
open Go.RowKit Verge

theorem vl_X {c : UInt8} (h : isX c = true) : vl c = dvl c ∧ dvl c < 16 := by
  have h1 : vl c = dvl c := if_pos h
  have h2 : pB 16 c = true := by rw [pB16]; exact h
  have h3 : vl c < 16 := of_decide_eq_true h2
  exact ⟨h1, by omega⟩
theorem vl_D {c : UInt8} (h : isD c = true) : vl c = dvl c ∧ dvl c < 10 := by
  have h1 : vl c = dvl c := if_pos (isX_D h)
  have h2 : pB 10 c = true := by rw [pB10]; exact h
  have h3 : vl c < 10 := of_decide_eq_true h2
  exact ⟨h1, by omega⟩
theorem isR_two {c : UInt8} {s : List UInt8} {j k : UInt8} (h : c.toNat = j.toNat ∨ c.toNat = k.toNat) : isR [j, k] (c :: s) = (true, s) := by
  refine if_pos ?_
  rcases h with h | h
  · rw [UInt8.toNat_inj.1 h]; simp
  · rw [UInt8.toNat_inj.1 h]; simp
/-- What numeral answers. -/
def NumOk (w : World) (b : Nat) (n : Bool) (N D : Nat) (K : Int) (e : Ending) (w' : World) : Prop := ∃ v1 v2, e = .returned (.agg #[.bool n, v1, v2, .int .i64 K]) ∧ IsT N v1 w' ∧ IsT D v2 w' ∧ w.grownBy w' (some b)
def NumNo (w : World) (b : Nat) (at0 : Nat) (c : Int) (e : Ending) (w' : World) : Prop := e = .panicked [{ v := .iface 100 (.agg #[.int .i64 (at0 : Int), .int .i64 c]), recovered := false }] ∧ w.grownBy w' (some b)

set_option maxHeartbeats 4000000 in
theorem num_hx (w : World) (b : Nat) (l : List UInt8) (h : Rdr w b l l) (hl : l.length ≤ 4096) (z x : UInt8) (t : List UInt8) (hr : (sg l).2 = z :: x :: t) (hz : z.toNat = 48) (hx : x.toNat = 120 ∨ x.toNat = 88)
    (a : List UInt8) (bo : Option (List UInt8)) (c : UInt8) (s : List UInt8) (hp : ptd isX t = .ok (a, bo, c :: s)) (hc : c.toNat = 112 ∨ c.toNat = 80)
    (d : List UInt8) (hd : (sg s).2.takeWhile isD = d) (hu : (sg s).2.dropWhile isD = []) (hne : d ≠ []) (hlate : ¬ 9999 < numB 10 d) :
    Calls Tryz.prog 83 #[.pointer (some ⟨b, 0, none⟩)] w (NumOk w b (sg l).1 (numB 16 (a ++ ob bo)) 1 (xvl s - 4 * ((ob bo).length : Int))) := by
  have hS := St.start h
  have hbl := h.lt
  have hbP : ¬ b = w.heap.size + 1 := by omega
  have hbP' : ¬ w.heap.size + 1 = b := by omega
  have hbQ : ¬ b = w.heap.size + 1 + 1 := by omega
  have hbQ' : ¬ w.heap.size + 1 + 1 = b := by omega
  have hbR : ¬ b = w.heap.size := by omega
  obtain ⟨g1, g2, g3⟩ := sgR l
  have hrl : (z :: x :: t).length ≤ l.length := by rw [← hr]; exact sg_le l
  have HIm := Lib.hid (fun W h => is_any W b l l [45] h (by omega) (by simp))
  have HIp := Lib.hid (fun W h => is_any W b l (isR [45] l).2 [43] h (by omega) (by simp))
  rw [show bs [45] = { data := #[45] } from rfl] at HIm
  rw [show bs [43] = { data := #[43] } from rfl] at HIp
  have e0 : isR [48] (z :: x :: t) = (true, x :: t) := isR_one.trans (if_pos hz)
  have e1 : isR [120, 88] (x :: t) = (true, t) := isR_two hx
  have e2 : isR [112, 80] (c :: s) = (true, s) := isR_two hc
  have hI0 := fun W h => is_any W b l (z :: x :: t) [48] h (by omega) (by simp)
  have hI1 := fun W h => is_any W b l (x :: t) [120, 88] h (by omega) (by simp)
  have hI2 := fun W h => is_any W b l (c :: s) [112, 80] h (by omega) (by simp)
  rw [e0, show bs [48] = { data := #[48] } from rfl] at hI0
  rw [e1, show bs [120, 88] = { data := #[120, 88] } from rfl] at hI1
  rw [e2, show bs [112, 80] = { data := #[112, 80] } from rfl] at hI2
  have hP := fun W h => pointed_any W b l t 16 h (by omega)
  rw [pB16, hp, show ((16 : Nat) : Int) = 16 from rfl] at hP
  have HI0 := Lib.hid hI0
  have HI1 := Lib.hid hI1
  have HI2 := Lib.hid hI2
  have HPt := Lib.hid hP
  have HX := Lib.hid (fun W h => exponent_any W b l s h (by omega) d [] hd hu hne)
  obtain ⟨p1, p2, p3, p4, _⟩ := ptd_ok hp
  have hlen := congrArg List.length p1
  rw [List.length_append, List.length_append, List.length_cons] at hlen
  have hpo : (ob bo).length ≤ (pt bo).length := by cases bo <;> simp [ob, pt]
  have htl : t.length + 2 ≤ l.length := hrl
  have hlt : (a ++ ob bo).length ≤ 4096 := by
    rw [List.length_append]; omega
  have hN := (fun W => natural_any (a ++ ob bo) 16 (.inr rfl) (fun c hc => vl_X (by
    rcases List.mem_append.1 hc with hc | hc
    · exact p2 c hc
    · exact p3 c hc)) (by omega) W)
  rw [show ((16 : Nat) : Int) = 16 from rfl] at hN
  have HN := Lib.hid hN
  have hnum : xvl s = (if (sg s).1 then -((min (numB 10 d) 9999 : Nat) : Int) else ((min (numB 10 d) 9999 : Nat) : Int)) := by
    have hdd : (sg s).2 = d := by
      have h1 := List.takeWhile_append_dropWhile (p := isD) (l := (sg s).2)
      rw [hd, hu, List.append_nil] at h1
      exact h1.symm
    unfold xvl
    rw [hdd, Nat.min_eq_left (by omega)]
  rw [← hnum] at HX
  have hl0 : lateO (l.length - (sg s).2.length) (numB 10 d) = (0, 0) := if_neg hlate
  rw [hl0] at HX
  have hxv : -9999 ≤ xvl s ∧ xvl s ≤ 9999 := by rw [hnum]; split <;> omega
  have hbo : (ob bo).length ≤ 4096 := by rw [List.length_append] at hlt; omega
  have HE := Lib.hid hnum
  generalize xvl s = X at *
  have hs4 : s.length ≤ 4096 := by omega
  clear hlen hpo htl
  rw [hr] at g2 g3
  rw [g1] at HIm
  have HS := Lib.hid hS
  have hln : l.length ≤ 4096 := hl
  have HR := Lib.hid hr
  have hend : l.length - ([] : List UInt8).length = l.length := rfl
  obtain ⟨nl, hnl⟩ : ∃ k, (ob bo).length = k := ⟨_, rfl⟩
  rw [hnl] at hbo
  rw [hnl]
  have hko : (kOf bo = -1 ∧ nl = 0) ∨ kOf bo = (nl : Int) := by
    cases bo with
    | none => exact .inl ⟨rfl, hnl.symm⟩
    | some q => exact .inr (by rw [← hnl]; rfl)
  generalize (sg l).1 = n at *
  have HG := Lib.hid (And.intro g2 g3)
  generalize hA : a ++ ob bo = A at *
  have HPt' := HPt.out
  unfold Point at HPt'
  dsimp only at HPt'
  rw [hA] at HPt'
  generalize kOf bo = ko at *
  have HP := Lib.hid HPt'
  generalize bs A = BA at *
  generalize numB 16 A = NA at *
  obtain ⟨S1, hS1⟩ : ∃ S, bs l = S := ⟨_, rfl⟩
  have hszS : S1.size = l.length := by rw [← hS1]; exact bs_size l
  clear hN hend HPt HPt' hS g1 g2 g3 hrl e0 e1 e2 hI0 hI1 hI2 hP hp p1 p2 p3 p4 hlt hnl hnum hl0 hr hl hd hu hne hlate hz hx hc h hA HE
  go_enter Tryz.func83, Tryz.ntmps83
  go_upto_region 4 with fail
  go_cut [14] from 14 to 16 (fun s wx => Hid (St w b l (w.heap.size + 1) (w.heap.size + 1 + 1) (isR [45] l).2 n 0 (.slice none 0 0) 1 (.slice (some ⟨w.heap.size + 1 + 1 + 1, 0, none⟩) 1 1) 0 0 0 wx))
  case first =>
    go_wp2_with (go_at_call 98; refine (HIm.out _ HS.out.rdr).mono ?_; rintro e w1 ⟨rfl, h1⟩; have hs := HS.out.go h1.1 h1.2; obtain ⟨⟨q0, q1, q2, q3⟩, ⟨f0, f1, f2, f3⟩, m0, m1, mf0, mf1⟩ := hs.cells; have HS1 := Lib.hid hs; clear hs h1)
    go_meet
    exact HS1.out.putN n
  case rest =>
    have HS1 := hcut
    clear hcut HIm HS
    cases n with
    | true =>
      have hg := HG.out.1 rfl
      rw [hg] at HS1
      obtain ⟨⟨q0, q1, q2, q3⟩, ⟨f0, f1, f2, f3⟩, m0, m1, mf0, mf1⟩ := HS1.out.cells
      obtain ⟨c0, c1, cf0, cf1⟩ := HS1.out.rdr.cellsAt rfl rfl
      rcases hko with ⟨rfl, rfl⟩ | rfl
      · go_wp2_with (first
          | (go_at_call 98; (with_reducible refine (HI0.out _ HS1.out.rdr).mono ?_); rintro e w2 ⟨rfl, h1⟩; have HS2 := Lib.hid (HS1.out.go h1.1 h1.2); clear h1)
          | (go_at_call 98; (with_reducible refine (HI1.out _ HS2.out.rdr).mono ?_); rintro e w3 ⟨rfl, h1⟩; have HS3 := Lib.hid (HS2.out.go h1.1 h1.2); clear h1)
          | (go_at_call 99; (with_reducible refine (HP.out _ HS3.out.rdr).mono ?_); rintro e w4 ⟨rfl, h1⟩; have HS4 := Lib.hid (HS3.out.go h1.1 h1.2); clear h1)
          | (go_at_call 98; (with_reducible refine (HI2.out _ HS4.out.rdr).mono ?_); rintro e w5 ⟨rfl, h1⟩; have HS5 := Lib.hid (HS4.out.go h1.1 h1.2); clear h1)
          | (go_at_call 101; (with_reducible refine (HX.out _ HS5.out.rdr).mono ?_); rintro e w6 ⟨rfl, h1⟩; have hs := HS5.out.go h1.1 h1.2; obtain ⟨⟨q60, q61, q62, q63⟩, ⟨f60, f61, f62, f63⟩, m60, m61, mf60, mf61⟩ := hs.cells; have HS6 := Lib.hid ((hs.putK X).fault 0 0); clear hs h1)
          | (go_at_call 102; (with_reducible refine (HN.out _).mono ?_); rintro e w7 ⟨v7, rfl, ⟨A7, rfl, hR7⟩, hb7⟩; have hv7 : IsT NA (.slice A7 (dig NA).length (dig NA).length) w7 := ⟨A7, rfl, hR7⟩; have hs := HS6.out.below hb7; obtain ⟨⟨q70, q71, q72, q73⟩, ⟨f70, f71, f72, f73⟩, m70, m71, mf70, mf71⟩ := hs.cells; obtain ⟨c70, c71, _, _⟩ := hs.rdr.cellsAt hS1 rfl; obtain ⟨⟨z70, z71, z72, z73⟩, zf0, zf1, zf2, zf3⟩ := hs.rcells; have HS7 := Lib.hid ((hs.putV hv7)); clear hs hv7 hR7 hb7))
        go_quiet (fail)
        go_wp2
        obtain ⟨o1, o2, o3, o4⟩ := ((HS7.out.putK X).drewN nq).out
        obtain ⟨y0, y1, y2, y3⟩ := putR_read o1
        unfold putR at y0 y1 y2 y3
        refine bodyPost_ret (v := .agg #[.bool true, .slice A7 (dig NA).length (dig NA).length, .slice (some ⟨w.heap.size + 1 + 1 + 1, 0, none⟩) 1 1, .int .i64 X]) (by simp [results, Tryz.results83, go_sem, y0, y1, y2, y3]) rfl ?_
        exact ⟨_, _, by simp, o2, o3, o4⟩
      · go_wp2_with (first
          | (go_at_call 98; (with_reducible refine (HI0.out _ HS1.out.rdr).mono ?_); rintro e w2 ⟨rfl, h1⟩; have HS2 := Lib.hid (HS1.out.go h1.1 h1.2); clear h1)
          | (go_at_call 98; (with_reducible refine (HI1.out _ HS2.out.rdr).mono ?_); rintro e w3 ⟨rfl, h1⟩; have HS3 := Lib.hid (HS2.out.go h1.1 h1.2); clear h1)
          | (go_at_call 99; (with_reducible refine (HP.out _ HS3.out.rdr).mono ?_); rintro e w4 ⟨rfl, h1⟩; have HS4 := Lib.hid (HS3.out.go h1.1 h1.2); clear h1)
          | (go_at_call 98; (with_reducible refine (HI2.out _ HS4.out.rdr).mono ?_); rintro e w5 ⟨rfl, h1⟩; have HS5 := Lib.hid (HS4.out.go h1.1 h1.2); clear h1)
          | (go_at_call 101; (with_reducible refine (HX.out _ HS5.out.rdr).mono ?_); rintro e w6 ⟨rfl, h1⟩; have hs := HS5.out.go h1.1 h1.2; obtain ⟨⟨q60, q61, q62, q63⟩, ⟨f60, f61, f62, f63⟩, m60, m61, mf60, mf61⟩ := hs.cells; have HS6 := Lib.hid ((hs.putK X).fault 0 0); clear hs h1)
          | (go_at_call 102; (with_reducible refine (HN.out _).mono ?_); rintro e w7 ⟨v7, rfl, ⟨A7, rfl, hR7⟩, hb7⟩; have hv7 : IsT NA (.slice A7 (dig NA).length (dig NA).length) w7 := ⟨A7, rfl, hR7⟩; have hs := HS6.out.below hb7; obtain ⟨⟨q70, q71, q72, q73⟩, ⟨f70, f71, f72, f73⟩, m70, m71, mf70, mf71⟩ := hs.cells; obtain ⟨c70, c71, _, _⟩ := hs.rdr.cellsAt hS1 rfl; obtain ⟨⟨z70, z71, z72, z73⟩, zf0, zf1, zf2, zf3⟩ := hs.rcells; have HS7 := Lib.hid ((hs.putV hv7)); clear hs hv7 hR7 hb7))
        go_quiet (fail)
        go_wp2
        obtain ⟨o1, o2, o3, o4⟩ := ((HS7.out.putK (X - 4 * (nl : Int))).drewN nq).out
        obtain ⟨y0, y1, y2, y3⟩ := putR_read o1
        unfold putR at y0 y1 y2 y3
        refine bodyPost_ret (v := .agg #[.bool true, .slice A7 (dig NA).length (dig NA).length, .slice (some ⟨w.heap.size + 1 + 1 + 1, 0, none⟩) 1 1, .int .i64 (X - 4 * (nl : Int))]) (by simp [results, Tryz.results83, go_sem, y0, y1, y2, y3]) rfl ?_
        exact ⟨_, _, by simp, o2, o3, o4⟩
    | false =>
      have hg := HG.out.2 rfl
      rw [hg] at HIp
      obtain ⟨⟨q0, q1, q2, q3⟩, ⟨f0, f1, f2, f3⟩, m0, m1, mf0, mf1⟩ := HS1.out.cells
      rcases hko with ⟨rfl, rfl⟩ | rfl
      · go_wp2_with (first
          | (go_at_call 98; (with_reducible refine (HIp.out _ HS1.out.rdr).mono ?_); rintro e w9 ⟨rfl, h1⟩; have hs := HS1.out.go h1.1 h1.2; obtain ⟨_, c91, _, _⟩ := hs.rdr.cellsAt rfl rfl; obtain ⟨⟨_, _, _, _⟩, ⟨_, _, _, _⟩, _, _, _, _⟩ := hs.cells; clear HS1; have HS1 := Lib.hid hs; clear hs h1)
          | (go_at_call 98; (with_reducible refine (HI0.out _ HS1.out.rdr).mono ?_); rintro e w2 ⟨rfl, h1⟩; have HS2 := Lib.hid (HS1.out.go h1.1 h1.2); clear h1)
          | (go_at_call 98; (with_reducible refine (HI1.out _ HS2.out.rdr).mono ?_); rintro e w3 ⟨rfl, h1⟩; have HS3 := Lib.hid (HS2.out.go h1.1 h1.2); clear h1)
          | (go_at_call 99; (with_reducible refine (HP.out _ HS3.out.rdr).mono ?_); rintro e w4 ⟨rfl, h1⟩; have HS4 := Lib.hid (HS3.out.go h1.1 h1.2); clear h1)
          | (go_at_call 98; (with_reducible refine (HI2.out _ HS4.out.rdr).mono ?_); rintro e w5 ⟨rfl, h1⟩; have HS5 := Lib.hid (HS4.out.go h1.1 h1.2); clear h1)
          | (go_at_call 101; (with_reducible refine (HX.out _ HS5.out.rdr).mono ?_); rintro e w6 ⟨rfl, h1⟩; have hs := HS5.out.go h1.1 h1.2; obtain ⟨⟨q60, q61, q62, q63⟩, ⟨f60, f61, f62, f63⟩, m60, m61, mf60, mf61⟩ := hs.cells; have HS6 := Lib.hid ((hs.putK X).fault 0 0); clear hs h1)
          | (go_at_call 102; (with_reducible refine (HN.out _).mono ?_); rintro e w7 ⟨v7, rfl, ⟨A7, rfl, hR7⟩, hb7⟩; have hv7 : IsT NA (.slice A7 (dig NA).length (dig NA).length) w7 := ⟨A7, rfl, hR7⟩; have hs := HS6.out.below hb7; obtain ⟨⟨q70, q71, q72, q73⟩, ⟨f70, f71, f72, f73⟩, m70, m71, mf70, mf71⟩ := hs.cells; obtain ⟨c70, c71, _, _⟩ := hs.rdr.cellsAt hS1 rfl; obtain ⟨⟨z70, z71, z72, z73⟩, zf0, zf1, zf2, zf3⟩ := hs.rcells; have HS7 := Lib.hid ((hs.putV hv7)); clear hs hv7 hR7 hb7))
        go_quiet (fail)
        go_wp2
        obtain ⟨o1, o2, o3, o4⟩ := ((HS7.out.putK X).drewN nq).out
        obtain ⟨y0, y1, y2, y3⟩ := putR_read o1
        unfold putR at y0 y1 y2 y3
        refine bodyPost_ret (v := .agg #[.bool false, .slice A7 (dig NA).length (dig NA).length, .slice (some ⟨w.heap.size + 1 + 1 + 1, 0, none⟩) 1 1, .int .i64 X]) (by simp [results, Tryz.results83, go_sem, y0, y1, y2, y3]) rfl ?_
        exact ⟨_, _, by simp, o2, o3, o4⟩
      · go_wp2_with (first
          | (go_at_call 98; (with_reducible refine (HIp.out _ HS1.out.rdr).mono ?_); rintro e w9 ⟨rfl, h1⟩; have hs := HS1.out.go h1.1 h1.2; obtain ⟨_, c91, _, _⟩ := hs.rdr.cellsAt rfl rfl; obtain ⟨⟨_, _, _, _⟩, ⟨_, _, _, _⟩, _, _, _, _⟩ := hs.cells; clear HS1; have HS1 := Lib.hid hs; clear hs h1)
          | (go_at_call 98; (with_reducible refine (HI0.out _ HS1.out.rdr).mono ?_); rintro e w2 ⟨rfl, h1⟩; have HS2 := Lib.hid (HS1.out.go h1.1 h1.2); clear h1)
          | (go_at_call 98; (with_reducible refine (HI1.out _ HS2.out.rdr).mono ?_); rintro e w3 ⟨rfl, h1⟩; have HS3 := Lib.hid (HS2.out.go h1.1 h1.2); clear h1)
          | (go_at_call 99; (with_reducible refine (HP.out _ HS3.out.rdr).mono ?_); rintro e w4 ⟨rfl, h1⟩; have HS4 := Lib.hid (HS3.out.go h1.1 h1.2); clear h1)
          | (go_at_call 98; (with_reducible refine (HI2.out _ HS4.out.rdr).mono ?_); rintro e w5 ⟨rfl, h1⟩; have HS5 := Lib.hid (HS4.out.go h1.1 h1.2); clear h1)
          | (go_at_call 101; (with_reducible refine (HX.out _ HS5.out.rdr).mono ?_); rintro e w6 ⟨rfl, h1⟩; have hs := HS5.out.go h1.1 h1.2; obtain ⟨⟨q60, q61, q62, q63⟩, ⟨f60, f61, f62, f63⟩, m60, m61, mf60, mf61⟩ := hs.cells; have HS6 := Lib.hid ((hs.putK X).fault 0 0); clear hs h1)
          | (go_at_call 102; (with_reducible refine (HN.out _).mono ?_); rintro e w7 ⟨v7, rfl, ⟨A7, rfl, hR7⟩, hb7⟩; have hv7 : IsT NA (.slice A7 (dig NA).length (dig NA).length) w7 := ⟨A7, rfl, hR7⟩; have hs := HS6.out.below hb7; obtain ⟨⟨q70, q71, q72, q73⟩, ⟨f70, f71, f72, f73⟩, m70, m71, mf70, mf71⟩ := hs.cells; obtain ⟨c70, c71, _, _⟩ := hs.rdr.cellsAt hS1 rfl; obtain ⟨⟨z70, z71, z72, z73⟩, zf0, zf1, zf2, zf3⟩ := hs.rcells; have HS7 := Lib.hid ((hs.putV hv7)); clear hs hv7 hR7 hb7))
        go_quiet (fail)
        go_wp2
        obtain ⟨o1, o2, o3, o4⟩ := ((HS7.out.putK (X - 4 * (nl : Int))).drewN nq).out
        obtain ⟨y0, y1, y2, y3⟩ := putR_read o1
        unfold putR at y0 y1 y2 y3
        refine bodyPost_ret (v := .agg #[.bool false, .slice A7 (dig NA).length (dig NA).length, .slice (some ⟨w.heap.size + 1 + 1 + 1, 0, none⟩) 1 1, .int .i64 (X - 4 * (nl : Int))]) (by simp [results, Tryz.results83, go_sem, y0, y1, y2, y3]) rfl ?_
        exact ⟨_, _, by simp, o2, o3, o4⟩
end Go.Proofs.YtiadjcilfljdaaaGreatDoor
