/- Layer 5: DigitsSpelt answers true. -/
import Derived.Test.YtiadjcilfljdaaaGreatDoorG48
import Derived.Test.YtiadjcilfljdaaaGreatDoorG37
import Derived.Test.YtiadjcilfljdaaaGreatDoorG31
import Derived.Lib.SmallJoins
import Derived.ChangeMaps5
import Derived.SizedLaws
section
namespace Go.Proofs.YtiadjcilfljdaaaGreatDoor
set_option linter.unusedVariables false
set_option linter.unusedSimpArgs false
open Go.RowKit Verge

theorem alloc_get (w : World) (o : Obj) : (w.alloc o).heap[w.heap.size]? = some o := by show (w.heap.push o)[w.heap.size]? = some o; simp
theorem alloc_lt (w : World) (o : Obj) : w.heap.size < (w.alloc o).heap.size := by show w.heap.size < (w.heap.push o).size; simp
/-- A row of texts in memory. -/
def RowT (W : World) (g : Nat) (Ls : List (List UInt8)) : Prop := g < W.heap.size ∧ ∀ (j : Nat) (s : List UInt8), Ls[j]? = some s → W.cell? ⟨g, j, none⟩ = some (.string (bs s))
theorem RowT.later {W W' : World} {g : Nat} {Ls : List (List UInt8)} (h : RowT W g Ls) (hb : Below W.heap.size W W') : RowT W' g Ls :=
  ⟨Nat.lt_of_lt_of_le h.1 hb.size, fun j s hj => (bcell hb g j h.1).trans (h.2 j s hj)⟩
theorem Tryz.info9 : (Tryz.prog.info? 9).map (fun i => (i.zero, i.size, i.bytes)) = some (some (.string { data := #[] }), 1, 16) := by kernel_rfl
theorem new_four (W : World) {B : Nat} (hB : B ≤ W.heap.size) (a b c d : List UInt8) : (W.alloc (.cells #[.string (bs a), .string (bs b), .string (bs c), .string (bs d)] 9)).ownsRow B 9 1 (.slice (some ⟨W.heap.size, 0, none⟩) 4 4) 4 [.string (bs a), .string (bs b), .string (bs c), .string (bs d)] :=
  ⟨rfl, .inr ⟨W.heap.size, 4, _, rfl, hB, alloc_get W _, by omega, by unfold maxLen; omega, rfl, rfl⟩⟩
theorem row_of {W : World} {B n : Nat} {v : Value} {Ls : List (List UInt8)} (h : W.ownsRow B 9 1 v n (Ls.map fun l => .string (bs l))) (h0 : 0 < n) : ∃ g cap, v = .slice (some ⟨g, 0, none⟩) n cap ∧ RowT W g Ls := by
  rcases h.2 with ⟨_, e⟩ | ⟨g, cap, cur, rfl, hb, hg, h1, h2, h3, h4⟩
  · omega
  · refine ⟨g, cap, rfl, blkc_lt hg, fun j s hj => ?_⟩
    have e : cur[j]? = some (.string (bs s)) := by
      have hx : (Ls.map fun l => Value.string (bs l))[j]? = some (.string (bs s)) := by rw [List.getElem?_map, hj]; rfl
      rw [← h4, List.getElem?_take] at hx
      split at hx
      · simpa using hx
      · cases hx
    simp [World.cell?, hg, e]
/-- append(l, x, y): two texts are laid behind a list of the call's own. -/
theorem wpList_pushS {w : World} {ops : Array Oper} {rest : List Oper} {o : Oper} {a : Act} {Q : Exit → Act → World → Prop} (hgd : o.guard = none) (s x : Operand)
    (ho : o.op = .call { callee := .builtin .append, args := #[s, x], argTypes := #[42, 42] })
    (B : Nat) (v : Value) (n : Nat) (xs : List Value) (hs : a.eval s = v) (W : World) (y z : ByteArray) (hw : w = W.alloc (.cells #[.string y, .string z] 9)) (hown : W.ownsRow B 9 1 v n xs)
    (hx : a.eval x = .slice (some ⟨W.heap.size, 0, none⟩) 2 2) (hb : n ≤ 10) (hB : B ≤ W.heap.size) (A : World) (hA : Below B A W)
    (h : ∀ v' w', w'.ownsRow B 9 1 v' (n + 2) (xs ++ [.string y, .string z]) → Below B A w' → wpList Tryz.prog ops Q rest (a.put o.dst v') w') : wpList Tryz.prog ops Q (o :: rest) a w := by
  subst hw
  obtain ⟨i0, hi, hz0, hz1, hz2⟩ := info_parts Tryz.info9
  refine wpList_append_own _ hgd s x 42 ho B 9 i0 (.string { data := #[] }) 1 16 Tryz.underlying42 hi hz0 hz1 hz2 rfl (by decide) v n xs hs (World.ownsRow.alloc hown _)
    ⟨W.heap.size, 0, none⟩ 2 2 [.string y, .string z] hx rfl ?_ (by intro u hu; simp at hu; rcases hu with rfl | rfl <;> rfl) (by unfold maxLen; omega) (by omega) (by simp; omega) ?_
  · intro j u hu
    rcases j with _ | _ | j
    · simp at hu; subst hu
      rw [Addr.add, if_pos rfl]
      simp [World.cell?_alloc_new]
    · simp at hu; subst hu
      rw [Addr.add, if_neg (by omega)]
      simp [World.cell?_alloc_new]
    · simp at hu
  · intro v' w' h1 h2 _
    exact h v' w' h1 ((hA.alloc hB _).grown h2 (by simp; omega) (fun k hk => (World.ownsRow.lt hown k hk).1))
set_option maxRecDepth 100000 in
set_option maxHeartbeats 8000000 in
theorem walk_spelt (neg : Bool) (la lt : List UInt8) (e z : Int) (d : Int) (w : World) (hla : la.length ≤ 140737488355328) (hlt : lt.length ≤ 140737488355328) (e1 : -9223372036854775808 ≤ e) (e2 : e ≤ 9223372036854775807) (z1 : -9223372036854775808 ≤ z) (z2 : z ≤ 9223372036854775807) (hP : Pow10 w) :
    Calls Tryz.prog 5 #[.agg #[.bool neg, .string (bs la), .string (bs lt), .int .i64 e, .int .i64 z], .int .i64 d] w fun en w' => en = .returned (.bool true) ∧ Below w.heap.size w w' := by
  have HC1 := Lib.hid (fun W => clean_any la hla W)
  have HC2 := Lib.hid (fun W => clean_any lt hlt W)
  obtain ⟨zn, hzn, hz31⟩ := and_31 z z1 z2
  have HPP := Lib.hid hP
  have HB := Lib.hid (Below.refl w.heap.size w)
  have HNM := Lib.hid (fun v (h1 : -9223372036854775808 ≤ v) (h2 : v ≤ 9223372036854775807) W => number5_any v h1 h2 W)
  have HZR := Lib.hid (fun n (h : n ≤ 1000) W => zeros_any n h W)
  have HZN := Lib.hid hzn
  clear hP hla hlt hzn z1 z2
  generalize bs la = LA at *
  generalize bs lt = LT at *
  go_enter Tryz.func5, Tryz.ntmps5
  go_wp2_with fail
  refine (HC1.out _).mono ?_
  rintro en wn ⟨A0, hA0, hA1, rfl, hbn⟩
  have HB := Lib.hid (raft (rnew w _) hbn)
  have HK := Lib.hid ((hbn.block w.heap.size (alloc_lt w _)).trans (alloc_get w _))
  clear hbn HC1
  obtain ⟨k0, k1, k2, k3, k4, _⟩ := blkc5 HK.out
  go_wp2_with fail
  refine (HC2.out _).mono ?_
  rintro en wn ⟨T, hT0, hT1, rfl, hbn⟩
  have HK := Lib.hid ((hbn.block w.heap.size (blkc_lt HK.out)).trans HK.out)
  have HB := Lib.hid (raft HB.out hbn)
  clear hbn HC2 k0 k1 k2 k3 k4
  obtain ⟨k0, k1, k2, k3, k4, _⟩ := blkc5 HK.out
  have HA := Lib.hid (And.intro hA0 hA1)
  have HT := Lib.hid (And.intro hT0 hT1)
  clear hA0 hA1 hT0 hT1
  obtain ⟨b0, hb0⟩ : ∃ b0, decide (A0.length = 0) = b0 := ⟨_, rfl⟩
  have HB0 := Lib.hid hb0
  clear hb0
  have hs : (bs A0).size = A0.length := bs_size _
  go_upto_if 28 with fail
  go_cut [5] (fun v wx => ∃ A : List UInt8, v = .string (bs A) ∧ Hid ((∀ c ∈ A, isD c = true) ∧ 1 ≤ A.length ∧ A.length ≤ 300) ∧ wx = wn)
  case first =>
    rcases Nat.eq_zero_or_pos A0.length with h0 | h0
    · have hs0 : ((A0.length : Int) == 0) = true := by rw [h0]; rfl
      clear hs
      go_wp2
      go_meet
      case rel => exact ⟨[48], rfl, Lib.hid ⟨by decide, by decide, by decide⟩, rfl⟩
    · have hs0 : ((A0.length : Int) == 0) = false := by simp; intro h; subst h; simp at h0
      have HA1 : Hid ((∀ c ∈ A0, isD c = true) ∧ 1 ≤ A0.length ∧ A0.length ≤ 300) := Lib.hid ⟨HA.out.1, h0, HA.out.2⟩
      go_wp2
      go_meet
      case rel => exact ⟨A0, rfl, HA1, rfl⟩
  case rest =>
    obtain ⟨A, rfl, HA, rfl⟩ := hcut
    clear hs HB0
    obtain ⟨cb, hcb⟩ : ∃ cb, decide (e < -9000 ∨ 9000 < e) = cb := ⟨_, rfl⟩
    have HCB := Lib.hid hcb
    clear hcb
    go_upto_region 6 with fail
    go_cut [36] from 31 to 35 (fun v wx => v = .bool cb ∧ wx = wc)
    case first =>
      clear HA HT HPP HZN HZR HNM
      by_cases g1 : e < -9000
      · have hcb : cb = true := by rw [← HCB.out]; exact decide_eq_true (.inl g1)
        go_wp2
        go_meet
        case rel => exact ⟨by rw [hcb], rfl⟩
      · by_cases g2 : 9000 < e
        · have hcb : cb = true := by rw [← HCB.out]; exact decide_eq_true (.inr g2)
          go_wp2
          go_meet
          case rel => exact ⟨by rw [hcb], rfl⟩
        · have hcb : cb = false := by rw [← HCB.out]; exact decide_eq_false (by omega)
          go_wp2
          go_meet
          case rel => exact ⟨by rw [hcb], rfl⟩
    case rest =>
    obtain ⟨rfl, rfl⟩ := hcut
    go_upto_if 36 with fail
    go_cut [7] (fun v wx => ∃ k : Int, v = .int .i64 k ∧ -9000 ≤ k ∧ k ≤ 9000 ∧ wx = wc)
    case first =>
      clear HA HT HPP HZN HZR HNM
      cases cb
      · have hr := of_decide_eq_false HCB.out
        go_wp2
        go_meet
        case rel => exact ⟨e, rfl, by omega, by omega, rfl⟩
      · go_wp2
        go_meet
        case rel => exact ⟨3, rfl, by omega, by omega, rfl⟩
    case rest =>
      obtain ⟨k, rfl, hk1, hk2, rfl⟩ := hcut
      have hzn := HZN.out
      go_upto_if 41 with fail
      go_cut [9, 10] (fun v u wx => ∃ p q : List UInt8, v = .string (bs p) ∧ u = .string (bs q) ∧ Hid (SgOk p neg ∧ SgOk q neg) ∧ wx = wc)
      case first =>
        cases neg
        · go_wp2
          go_meet
          case rel => exact ⟨[], [43], rfl, rfl, Lib.hid ⟨.inl ⟨rfl, rfl⟩, .inr (.inl ⟨rfl, rfl⟩)⟩, rfl⟩
        · go_wp2
          go_meet
          case rel => exact ⟨[45], [45], rfl, rfl, Lib.hid ⟨.inr (.inr ⟨rfl, rfl⟩), .inr (.inr ⟨rfl, rfl⟩)⟩, rfl⟩
      case rest =>
        obtain ⟨p, q, rfl, rfl, HS, rfl⟩ := hcut
        clear hzn
        have hp1 : p.length ≤ 1 := by rcases HS.out.1 with ⟨rfl, _⟩ | ⟨rfl, _⟩ | ⟨rfl, _⟩ <;> simp
        have hq1 : q.length ≤ 1 := by rcases HS.out.2 with ⟨rfl, _⟩ | ⟨rfl, _⟩ | ⟨rfl, _⟩ <;> simp
        have hAl := HA.out.2.2
        have hTl := HT.out.2
        obtain ⟨Z, hZ⟩ : ∃ Z, List.replicate zn (48 : UInt8) = Z := ⟨_, rfl⟩
        obtain ⟨Y, hY⟩ : ∃ Y, List.replicate T.length (48 : UInt8) = Y := ⟨_, rfl⟩
        obtain ⟨N0, hN0⟩ : ∃ N, Lib.itoa k = N := ⟨_, rfl⟩
        obtain ⟨N1, hN1⟩ : ∃ N, Lib.itoa (k - (T.length : Int)) = N := ⟨_, rfl⟩
        obtain ⟨N2, hN2⟩ : ∃ N, Lib.itoa (k + (A.length : Int)) = N := ⟨_, rfl⟩
        obtain ⟨N3, hN3⟩ : ∃ N, Lib.itoa (k - (T.length : Int) - (zn : Int)) = N := ⟨_, rfl⟩
        have cz := fun W => HZR.out zn (by omega) W
        have cy := fun W => HZR.out T.length (by omega) W
        have c0 := fun W => HNM.out k (by omega) (by omega) W
        have c1 := fun W => HNM.out (k - (T.length : Int)) (by omega) (by omega) W
        have c2 := fun W => HNM.out (k + (A.length : Int)) (by omega) (by omega) W
        have c3 := fun W => HNM.out (k - (T.length : Int) - (zn : Int)) (by omega) (by omega) W
        have l0 := Lib.itoa_length_le k (by omega) (by omega)
        have l1 := Lib.itoa_length_le (k - (T.length : Int)) (by omega) (by omega)
        have l2 := Lib.itoa_length_le (k + (A.length : Int)) (by omega) (by omega)
        have l3 := Lib.itoa_length_le (k - (T.length : Int) - (zn : Int)) (by omega) (by omega)
        have lz : Z.length ≤ 31 := by rw [← hZ, List.length_replicate]; exact hz31
        have ly : Y.length ≤ 300 := by rw [← hY, List.length_replicate]; exact hTl
        rw [hZ] at cz
        rw [hY] at cy
        rw [hN0] at c0 l0
        rw [hN1] at c1 l1
        rw [hN2] at c2 l2
        rw [hN3] at c3 l3
        have CZ := Lib.hid cz
        have CY := Lib.hid cy
        have C0 := Lib.hid c0
        have C1 := Lib.hid c1
        have C2 := Lib.hid c2
        have C3 := Lib.hid c3
        have HEQ := Lib.hid (And.intro hZ (And.intro hY (And.intro hN0 (And.intro hN1 (And.intro hN2 hN3)))))
        clear cz cy c0 c1 c2 c3 hZ hY hN0 hN1 hN2 hN3 HNM HZR HZN
        have sz0 : ¬ 9223372036854775807 < p.length + A.length := by omega
        have sz1 : ¬ 9223372036854775807 < p.length + A.length + 1 := by omega
        have sz2 : ¬ 9223372036854775807 < p.length + A.length + 1 + T.length := by omega
        have sz3 : ¬ 9223372036854775807 < p.length + A.length + 1 + T.length + 1 := by omega
        have sz4 : ¬ 9223372036854775807 < p.length + A.length + 1 + T.length + 1 + N0.length := by omega
        have sz5 : ¬ 9223372036854775807 < q.length + Z.length := by omega
        have sz6 : ¬ 9223372036854775807 < q.length + Z.length + A.length := by omega
        have sz7 : ¬ 9223372036854775807 < q.length + Z.length + A.length + 1 := by omega
        have sz8 : ¬ 9223372036854775807 < q.length + Z.length + A.length + 1 + T.length := by omega
        have sz9 : ¬ 9223372036854775807 < q.length + Z.length + A.length + 1 + T.length + Z.length := by omega
        have sz10 : ¬ 9223372036854775807 < q.length + Z.length + A.length + 1 + T.length + Z.length + 1 := by omega
        have sz11 : ¬ 9223372036854775807 < q.length + Z.length + A.length + 1 + T.length + Z.length + 1 + N0.length := by omega
        have sz12 : ¬ 9223372036854775807 < p.length + A.length + T.length := by omega
        have sz13 : ¬ 9223372036854775807 < p.length + A.length + T.length + 1 := by omega
        have sz14 : ¬ 9223372036854775807 < p.length + A.length + T.length + 1 + N1.length := by omega
        have sz15 : ¬ 9223372036854775807 < p.length + 1 := by omega
        have sz16 : ¬ 9223372036854775807 < p.length + 1 + A.length := by omega
        have sz17 : ¬ 9223372036854775807 < p.length + 1 + A.length + T.length := by omega
        have sz18 : ¬ 9223372036854775807 < p.length + 1 + A.length + T.length + 1 := by omega
        have sz19 : ¬ 9223372036854775807 < p.length + 1 + A.length + T.length + 1 + N2.length := by omega
        have sz20 : ¬ 9223372036854775807 < p.length + A.length + T.length + Z.length := by omega
        have sz21 : ¬ 9223372036854775807 < p.length + A.length + T.length + Z.length + 2 := by omega
        have sz22 : ¬ 9223372036854775807 < p.length + A.length + T.length + Z.length + 2 + N3.length := by omega
        have sz23 : ¬ 9223372036854775807 < p.length + A.length + T.length + 2 := by omega
        have sz24 : ¬ 9223372036854775807 < p.length + A.length + T.length + 2 + Y.length := by omega
        have sz25 : ¬ 9223372036854775807 < q.length + Z.length + A.length + T.length := by omega
        have sz26 : ¬ 9223372036854775807 < q.length + Z.length + A.length + T.length + 1 := by omega
        have sz27 : ¬ 9223372036854775807 < q.length + Z.length + A.length + T.length + 1 + Z.length := by omega
        have sz28 : ¬ 9223372036854775807 < q.length + Z.length + A.length + T.length + 1 + Z.length + 1 := by omega
        have sz29 : ¬ 9223372036854775807 < q.length + Z.length + A.length + T.length + 1 + Z.length + 1 + Y.length := by omega
        have hsp : (bs p).size = p.length := bs_size _
        have hsq : (bs q).size = q.length := bs_size _
        have hsA : (bs A).size = A.length := bs_size _
        have hsT : (bs T).size = T.length := bs_size _
        have hsZ : (bs Z).size = Z.length := bs_size _
        have hsY : (bs Y).size = Y.length := bs_size _
        have hs0 : (bs N0).size = N0.length := bs_size _
        have hs1 : (bs N1).size = N1.length := bs_size _
        have hs2 : (bs N2).size = N2.length := bs_size _
        have hs3 : (bs N3).size = N3.length := bs_size _
        go_wp2_with fail
        refine (C0.out _).mono ?_
        rintro en wn ⟨rfl, hbn⟩
        have HK := Lib.hid ((hbn.block w.heap.size (blkc_lt HK.out)).trans HK.out)
        have HB := Lib.hid (raft HB.out hbn)
        clear hbn
        go_wp2_with fail
        refine (CZ.out _).mono ?_
        rintro en wn ⟨rfl, rfl⟩
        go_wp2_with fail
        refine (CZ.out _).mono ?_
        rintro en wn ⟨rfl, rfl⟩
        go_wp2_with fail
        refine (C0.out _).mono ?_
        rintro en wn ⟨rfl, hbn⟩
        have HK := Lib.hid ((hbn.block w.heap.size (blkc_lt HK.out)).trans HK.out)
        have HB := Lib.hid (raft HB.out hbn)
        clear hbn
        go_wp2_with fail
        refine (C1.out _).mono ?_
        rintro en wn ⟨rfl, hbn⟩
        have HK := Lib.hid ((hbn.block w.heap.size (blkc_lt HK.out)).trans HK.out)
        have HB := Lib.hid (raft HB.out hbn)
        clear hbn
        go_wp2_with fail
        refine (C2.out _).mono ?_
        rintro en wn ⟨rfl, hbn⟩
        have HK := Lib.hid ((hbn.block w.heap.size (blkc_lt HK.out)).trans HK.out)
        have HB := Lib.hid (raft HB.out hbn)
        clear hbn
        go_wp2_with fail
        refine (CZ.out _).mono ?_
        rintro en wn ⟨rfl, rfl⟩
        go_wp2_with fail
        refine (C3.out _).mono ?_
        rintro en wn ⟨rfl, hbn⟩
        have HK := Lib.hid ((hbn.block w.heap.size (blkc_lt HK.out)).trans HK.out)
        have HB := Lib.hid (raft HB.out hbn)
        clear hbn
        go_upto_if 112 with fail
        have bl : ∀ a b : List UInt8, bs a ++ bs b = bs (a ++ b) := bs_append
        have i46 : ({ data := #[46] } : ByteArray) = bs [46] := rfl
        have i101 : ({ data := #[101] } : ByteArray) = bs [101] := rfl
        have i69 : ({ data := #[69] } : ByteArray) = bs [69] := rfl
        have i4601 : ({ data := #[46, 101] } : ByteArray) = bs [46, 101] := rfl
        have i4749 : ({ data := #[47, 49] } : ByteArray) = bs [47, 49] := rfl
        have i47 : ({ data := #[47] } : ByteArray) = bs [47] := rfl
        have i49 : ({ data := #[49] } : ByteArray) = bs [49] := rfl
        obtain ⟨q1, q2, q3, q4, q5, q6⟩ := HEQ.out
        have hlaw := spt_law HA.out.1 HT.out.1 HA.out.2.1 HA.out.2.2 HT.out.2 hk1 hk2 hz31 HS.out.1 HS.out.2 d
        have hlaw0 := spt_law0 HA.out.1 HT.out.1 HA.out.2.1 HA.out.2.2 HT.out.2 hz31 HS.out.1 HS.out.2 d
        rw [q1, q3, q4, q5, q6] at hlaw
        rw [q1, q2] at hlaw0
        have hz0 : k = 0 → Lib.itoa 0 = N0 := fun h => by rw [← q3, h]
        clear q1 q2 q3 q4 q5 q6 HEQ
        have eF : bs p ++ bs A ++ { data := #[46] } ++ bs T ++ { data := #[101] } ++ bs N0 = bs (p ++ A ++ [46] ++ T ++ [101] ++ N0) := by rw [i46, i101, bl, bl, bl, bl, bl]
        have e0 : bs q ++ bs Z ++ bs A ++ { data := #[46] } ++ bs T ++ bs Z ++ { data := #[69] } ++ bs N0 = bs (q ++ Z ++ A ++ [46] ++ T ++ Z ++ [69] ++ N0) := by rw [i46, i69, bl, bl, bl, bl, bl, bl, bl]
        have e1 : bs p ++ bs A ++ bs T ++ { data := #[101] } ++ bs N1 = bs (p ++ A ++ T ++ [101] ++ N1) := by rw [i101, bl, bl, bl, bl]
        have e2 : bs p ++ { data := #[46] } ++ bs A ++ bs T ++ { data := #[101] } ++ bs N2 = bs (p ++ [46] ++ A ++ T ++ [101] ++ N2) := by rw [i46, i101, bl, bl, bl, bl, bl]
        have e3 : bs p ++ bs A ++ bs T ++ bs Z ++ { data := #[46, 101] } ++ bs N3 = bs (p ++ A ++ T ++ Z ++ [46, 101] ++ N3) := by rw [i4601, bl, bl, bl, bl, bl]
        have e4 : bs p ++ bs A ++ bs T ++ { data := #[47, 49] } ++ bs Y = bs (p ++ A ++ T ++ [47, 49] ++ Y) := by rw [i4749, bl, bl, bl, bl]
        have e5 : bs q ++ bs Z ++ bs A ++ bs T ++ { data := #[47] } ++ bs Z ++ { data := #[49] } ++ bs Y = bs (q ++ Z ++ A ++ T ++ [47] ++ Z ++ [49] ++ Y) := by rw [i47, i49, bl, bl, bl, bl, bl, bl, bl]
        rw [eF, e0, e1, e2, e3]
        clear eF e0 e1 e2 e3 bl i46 i101 i69 i4601 i4749 i47 i49
        obtain ⟨F, hF⟩ : ∃ F, p ++ A ++ [46] ++ T ++ [101] ++ N0 = F := ⟨_, rfl⟩
        obtain ⟨F0, hF0⟩ : ∃ F, q ++ Z ++ A ++ [46] ++ T ++ Z ++ [69] ++ N0 = F := ⟨_, rfl⟩
        obtain ⟨F1, hF1⟩ : ∃ F, p ++ A ++ T ++ [101] ++ N1 = F := ⟨_, rfl⟩
        obtain ⟨F2, hF2⟩ : ∃ F, p ++ [46] ++ A ++ T ++ [101] ++ N2 = F := ⟨_, rfl⟩
        obtain ⟨F3, hF3⟩ : ∃ F, p ++ A ++ T ++ Z ++ [46, 101] ++ N3 = F := ⟨_, rfl⟩
        obtain ⟨F4, hF4⟩ : ∃ F, p ++ A ++ T ++ [47, 49] ++ Y = F := ⟨_, rfl⟩
        obtain ⟨F5, hF5⟩ : ∃ F, q ++ Z ++ A ++ T ++ [47] ++ Z ++ [49] ++ Y = F := ⟨_, rfl⟩
        rw [hF, hF0, hF1, hF2, hF3] at hlaw
        rw [hF4, hF5] at hlaw0
        have hlaw6 : k = 0 → ∀ l ∈ [F4, F5], Alike d F l := fun h => by rw [hz0 h, hF] at hlaw0; exact hlaw0
        rw [hF4] at e4
        rw [hF5] at e5
        rw [hF, hF0, hF1, hF2, hF3]
        have HLAW := Lib.hid hlaw
        have HLAW6 := Lib.hid hlaw6
        have HE4 := Lib.hid e4
        have HE5 := Lib.hid e5
        clear hlaw hlaw0 hlaw6 hz0 e4 e5 hF hF0 hF1 hF2 hF3 hF4 hF5 C0 C1 C2 C3 HA HT HS HK
        have HROW := Lib.hid (new_four wn HB.out.size F0 F1 F2 F3)
        have HB2 := Lib.hid (raft HB.out (rnew wn (.cells #[.string (bs F0), .string (bs F1), .string (bs F2), .string (bs F3)] 9)))
        have HSZ := Lib.hid HB.out.size
        go_cut [12] (fun v wx => ∃ g cap n Ls, v = .slice (some ⟨g, 0, none⟩) n cap ∧ n ≤ 6 ∧ Hid (Ls.length = n ∧ (∀ l ∈ Ls, Alike d F l) ∧ RowT wx g Ls ∧ Below w.heap.size w wx))
        case first =>
          by_cases hk0 : k = 0
          · have hkb : (k == 0) = true := by rw [hk0]; rfl
            have HLL := Lib.hid (HLAW6.out hk0)
            clear hk0
            generalize wn.alloc (.cells #[.string (bs F0), .string (bs F1), .string (bs F2), .string (bs F3)] 9) = WA at *
            go_wp2_with fail
            refine (CY.out _).mono ?_
            rintro en wn ⟨rfl, rfl⟩
            go_wp2_with fail
            refine (CZ.out _).mono ?_
            rintro en wn ⟨rfl, rfl⟩
            go_wp2_with fail
            refine (CZ.out _).mono ?_
            rintro en wn ⟨rfl, rfl⟩
            go_wp2_with fail
            refine (CY.out _).mono ?_
            rintro en wn ⟨rfl, rfl⟩
            go_wp2_with (refine wpList_pushS rfl _ _ rfl w.heap.size _ 4 _ rfl WA _ _ rfl HROW.out rfl (by omega) HB2.out.size w HB2.out ?_; intro v' w3 hr1 hb1; have HR1 := Lib.hid hr1; have HB3 := Lib.hid hb1; clear hr1 hb1)
            have hr1 := HR1.out
            rw [HE4.out, HE5.out] at hr1
            obtain ⟨g, cap, rfl, hrow⟩ := row_of (Ls := [F0, F1, F2, F3, F4, F5]) hr1 (by omega)
            have HR := Lib.hid hrow
            have HALL : Hid (∀ l ∈ [F0, F1, F2, F3, F4, F5], Alike d F l) := Lib.hid (by
              intro l hl
              rcases List.mem_append.1 (show l ∈ [F0, F1, F2, F3] ++ [F4, F5] from hl) with h | h
              · exact HLAW.out l h
              · exact HLL.out l h)
            clear hrow hr1 HR1
            go_wp2
            go_meet
            case rel => exact ⟨g, cap, 6, [F0, F1, F2, F3, F4, F5], rfl, by omega, Lib.hid ⟨rfl, HALL.out, HR.out, HB3.out⟩⟩
          · have hkb : (k == 0) = false := by simpa using hk0
            clear hk0
            obtain ⟨g, cap, hv, hrow⟩ := row_of (Ls := [F0, F1, F2, F3]) HROW.out (by omega)
            injection hv with hv1 hv2 hv3
            injection hv1 with hv1
            injection hv1 with hv1
            have HR := Lib.hid hrow
            clear hrow hv2 hv3
            go_wp2
            go_meet
            case rel => exact ⟨_, _, _, [F0, F1, F2, F3], rfl, by omega, Lib.hid ⟨rfl, HLAW.out, by first | exact HR.out | (rw [hv1]; exact HR.out), HB2.out⟩⟩
        case rest =>
          obtain ⟨g, cap, n, Ls, rfl, hn6, HI⟩ := hcut
          have hAL := HI.out.2.1
          have hF0 := HLAW.out F0 (by simp)
          have hrF := fun W => lread_any d F (by have := hF0.2.2.2.2.2; omega) W
          obtain ⟨V, hV⟩ : ∃ V, (readS d F).1 = V := ⟨_, rfl⟩
          have hRF : readS d F = (V, 0, 0) := Prod.ext hV (Prod.ext hF0.2.1 hF0.2.2.1)
          rw [hRF] at hrF
          have HRF := Lib.hid hrF
          have HLOOP := Lib.hid (show ∀ (j : Nat), j < n → ∃ s, Ls[j]? = some s ∧ (∀ W, Calls Tryz.prog 16 #[.int .i64 d, .string (bs s)] W (Ans W (IsV (.tuple #[.int .u64 (V : Int), .int .i64 0, .int .i64 0])))) ∧ (∀ W, Calls Tryz.prog 18 #[.string (bs F), .string (bs s)] W (Ans W (IsV (.int .i64 0)))) from by
            intro j hj
            have hjl : j < Ls.length := by rw [HI.out.1]; exact hj
            obtain ⟨b1, b2, b3, b4, b5, b6⟩ := hAL _ (List.getElem_mem hjl)
            refine ⟨_, List.getElem?_eq_getElem hjl, fun W => ?_, fun W => ?_⟩
            · have := lread_any d Ls[j] (by omega) W
              rw [b1, hRF] at this
              exact this
            · have := order_any F Ls[j] (by omega) (by omega) W
              rw [b4] at this
              exact this)
          have HST := Lib.hid (And.intro HI.out.2.2.1 HI.out.2.2.2)
          have HLV := Lib.hid (fun W (hP : Pow10 W) => lives_any W hP)
          clear hAL hF0 hrF hV hRF HI HLAW HLAW6 HE4 HE5 HROW HB2 HSZ
          go_wp2_with fail
          refine (HRF.out _).mono ?_
          rintro en wn ⟨vn, rfl, rfl, hbn⟩
          have HST := Lib.hid (And.intro (HST.out.1.later hbn) (raft HST.out.2 hbn))
          clear hbn
          go_wp2_with fail
          refine (HLV.out _ (HPP.out.below HST.out.2)).mono ?_
          rintro en wn ⟨rfl, hbn⟩
          have HST := Lib.hid (And.intro (HST.out.1.later hbn) (raft HST.out.2 hbn))
          clear hbn
          go_wp2
          go_loopw [16] (fun iv wr => ∃ i : Nat, i ≤ n ∧ iv = .int .i64 (i : Int) ∧ Hid (RowT wr g Ls ∧ Below w.heap.size w wr)) (fun iv _ => n - (intOf iv).toNat)
          case atStart => exact ⟨0, by omega, rfl, HST⟩
          case round =>
            clear HST
            obtain ⟨i, hi, rfl, HST⟩ := hrel
            by_cases hlt : i < n
            · have hltI : (i : Int) < (n : Int) := by omega
              obtain ⟨s, hs1, hs2, hs3⟩ := HLOOP.out i hlt
              have HS2 := Lib.hid hs2
              have HS3 := Lib.hid hs3
              have HS1 := Lib.hid hs1
              have hcell := HST.out.1.2 i s hs1
              clear hs1 hs2 hs3
              go_wp2_with fail
              refine (HS2.out _).mono ?_
              rintro en wn ⟨vn, rfl, rfl, hbn⟩
              have HST := Lib.hid (And.intro (HST.out.1.later hbn) (raft HST.out.2 hbn))
              have hcell := HST.out.1.2 i s HS1.out
              clear hbn
              go_wp2_with fail
              refine (HS3.out _).mono ?_
              rintro en wn ⟨vn, rfl, rfl, hbn⟩
              have HST := Lib.hid (And.intro (HST.out.1.later hbn) (raft HST.out.2 hbn))
              clear hbn
              go_wp2
              go_roundw
              case rel => exact ⟨i + 1, by omega, by go_num, HST⟩
              case measure => simp [intOf]; omega
            · obtain rfl : i = n := by omega
              clear hlt
              go_wp2
              go_ret
              exact ⟨rfl, HST.out.2⟩
end Go.Proofs.YtiadjcilfljdaaaGreatDoor
end

section
namespace Go.Proofs.YtiadjcilfljdaaaGreatDoor
set_option linter.unusedVariables false
set_option linter.unusedSimpArgs false
open Go.ChangeShapes Go.WideShapes Go.ChangeAt Go.RowKit Verge

theorem walk_speltd (neg : Bool) (la lt : List UInt8) (e z : Int) (d : Int) (w : World) (hla : la.length ≤ 140737488355328) (hlt : lt.length ≤ 140737488355328) (e1 : -9223372036854775808 ≤ e) (e2 : e ≤ 9223372036854775807) (z1 : -9223372036854775808 ≤ z) (z2 : z ≤ 9223372036854775807) (d1 : -9223372036854775808 ≤ d) (d2 : d ≤ 9223372036854775807) (hP : Pow10 w) :
    Calls Tryz.prog 5 #[.agg #[.bool neg, .string (bs la), .string (bs lt), .int .i64 e, .int .i64 z], .int .i64 d] w fun en w' => en = .returned (.bool true) ∧ Below w.heap.size w w' :=
  walk_spelt neg la lt e z d w hla hlt e1 e2 z1 z2 hP
section
variable {H : Type} {enc : TypeId × Value → H}
theorem array5x {α : Type} {cs : Array α} (h : cs.size = 5) : ∃ c0 c1 c2 c3 c4, cs = #[c0, c1, c2, c3, c4] := by
  obtain ⟨l⟩ := cs
  match l, h with
  | [c0, c1, c2, c3, c4], _ => exact ⟨c0, c1, c2, c3, c4, rfl⟩
theorem trod_struct5x {P : Program} {w : World} {base : Nat} {spare : Nat → Bool} {held : Bool} {t : TypeId} {f0 f1 f2 f3 f4 : Field} {fuel : Nat} {cs : List Value} {x : DataW H × List MemPlace} (ht : P.underlying t = some (.struct #[f0, f1, f2, f3, f4])) (h : DataW.trod enc P w base spare held fuel t cs = some x) :
    ∃ y0 y1 y2 y3 y4 n, x = (.agg [y0.1, y1.1, y2.1, y3.1, y4.1], y0.2 ++ (y1.2 ++ (y2.2 ++ (y3.2 ++ y4.2)))) ∧ DataW.trod enc P w base spare held n f0.type ((cs.drop f0.offset).take (P.cellsOf f0.type)) = some y0 ∧
      DataW.trod enc P w base spare held n f1.type ((cs.drop f1.offset).take (P.cellsOf f1.type)) = some y1 ∧ DataW.trod enc P w base spare held n f2.type ((cs.drop f2.offset).take (P.cellsOf f2.type)) = some y2 ∧
      DataW.trod enc P w base spare held n f3.type ((cs.drop f3.offset).take (P.cellsOf f3.type)) = some y3 ∧ DataW.trod enc P w base spare held n f4.type ((cs.drop f4.offset).take (P.cellsOf f4.type)) = some y4 := by
  obtain ⟨xs, n, _, rfl, hl, hlen, hf⟩ := DataW.trod_struct ht h
  match xs, hlen with
  | [y0, y1, y2, y3, y4], _ => exact ⟨y0, y1, y2, y3, y4, n, by simp, by simpa using hf 0 f0 rfl, by simpa using hf 1 f1 rfl, by simpa using hf 2 f2 rfl, by simpa using hf 3 f3 rfl, by simpa using hf 4 f4 rfl⟩
set_option maxRecDepth 100000 in
theorem spelt_open {W : World} {v : Value} {d : DataW H} {p : List MemPlace} {base : Nat} (h : DataW.Trod enc Tryz.prog W 0 (fun _ => true) true 39 v d p) (hok : Value.okWide Tryz.prog W .any base 39 v) :
    ∃ b la lt e z, v = .agg #[.bool b, .string (bs la), .string (bs lt), .int .i64 e, .int .i64 z] ∧ -9223372036854775808 ≤ e ∧ e ≤ 9223372036854775807 ∧ -9223372036854775808 ≤ z ∧ z ≤ 9223372036854775807 ∧
      ∀ (ts : List TypeId) (ds : List (DataW H)) (j : Nat), (DataW.weightsEach Tryz.prog ts ds).all (· ≤ reachBytes) = true → ts[j]? = some 39 → ds[j]? = some d → la.length ≤ 140737488355328 ∧ lt.length ≤ 140737488355328 := by
  obtain ⟨cs, rfl, hsz⟩ := okWide_struct Tryz.underlying39 hok
  obtain ⟨c0, c1, c2, c3, c4, rfl⟩ := array5x (hsz.trans (show Tryz.prog.cellsOf 39 = 5 by kernel_rfl))
  obtain ⟨fuel, hf⟩ := h
  obtain ⟨y0, y1, y2, y3, y4, n, hx, h0, h1, h2, h3, h4⟩ := trod_struct5x Tryz.underlying39 hf
  have C4 : Tryz.prog.cellsOf 4 = 1 := by kernel_rfl
  have C9 : Tryz.prog.cellsOf 9 = 1 := by kernel_rfl
  have C3 : Tryz.prog.cellsOf 3 = 1 := by kernel_rfl
  simp [Value.cells, C4, C9, C3] at h0 h1 h2 h3 h4
  simp only [Prod.mk.injEq] at hx
  obtain ⟨b, e0, _⟩ := DataW.trod_bool Tryz.underlying4 h0
  obtain ⟨s1, e1, x1, _⟩ := DataW.trod_string Tryz.underlying9 h1
  obtain ⟨s2, e2, x2, _⟩ := DataW.trod_string Tryz.underlying9 h2
  obtain ⟨k3, e3, _, w3⟩ := DataW.trod_int Tryz.underlying3 h3
  obtain ⟨k4, e4, _, w4⟩ := DataW.trod_int Tryz.underlying3 h4
  simp at e0 e1 e2 e3 e4
  subst e0 e1 e2 e3 e4
  simp [Lit.wf, IntKind.min, IntKind.max, IntKind.signed, IntKind.bits] at w3 w4
  refine ⟨b, s1.data.toList, s2.data.toList, k3, k4, by rw [← bs_of, ← bs_of], by omega, by omega, by omega, by omega, fun ts ds j hsz ht hd => ?_⟩
  have hin : (DataW.weightsEach Tryz.prog [4, 9, 9, 3, 3] [y0.1, y1.1, y2.1, y3.1, y4.1]).all (· ≤ reachBytes) = true :=
    List.all_eq_true.2 fun k hk => List.all_eq_true.1 hsz k (DataW.weights_mem_each ht hd k (by
      rw [hx.1, DataW.weights, Tryz.underlying39]
      exact hk))
  have a1 := sized_string hin (j := 1) rfl (by rw [x1]; rfl)
  have a2 := sized_string hin (j := 2) rfl (by rw [x2]; rfl)
  simp only [reachBytes] at a1 a2
  exact ⟨by omega, by omega⟩
end
end Go.Proofs.YtiadjcilfljdaaaGreatDoor
end
