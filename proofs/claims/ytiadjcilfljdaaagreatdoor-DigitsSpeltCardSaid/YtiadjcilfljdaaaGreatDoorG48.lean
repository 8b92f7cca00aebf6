/- Layer 5, plain: one number in several spellings. -/
import Derived.Test.YtiadjcilfljdaaaGreatDoorG44
import Derived.Test.YtiadjcilfljdaaaGreatDoorG33
import Derived.Test.YtiadjcilfljdaaaGreatDoorG40
section
namespace Go.Proofs.YtiadjcilfljdaaaGreatDoor
set_option linter.unusedVariables false
set_option linter.unusedSimpArgs false
open Go.RowKit Verge

/-- A sign's text. -/
def SgOk (p : List UInt8) (neg : Bool) : Prop := (p = [] ∧ neg = false) ∨ (p = [43] ∧ neg = false) ∨ (p = [45] ∧ neg = true)
theorem sgq_pre {p : List UInt8} {neg : Bool} (h : SgOk p neg) {c : UInt8} {r : List UInt8} (hc : ¬ (c.toNat = 43 ∨ c.toNat = 45)) : sg (p ++ c :: r) = (neg, c :: r) := by
  rcases h with ⟨rfl, rfl⟩ | ⟨rfl, rfl⟩ | ⟨rfl, rfl⟩
  · exact sg_no hc
  · rfl
  · rfl
def ptx (b : Option (List UInt8)) : List UInt8 := match b with | none => [] | some b => 46 :: b
theorem ptd_gen {A : List UInt8} {B : Option (List UInt8)} {c : UInt8} {r : List UInt8} (hA : ∀ z ∈ A, isD z = true) (hB : ∀ z ∈ ob B, isD z = true) (hne : A ++ ob B ≠ []) (hc : isD c = false) (h46 : c.toNat ≠ 46) : ptd isD (A ++ ptx B ++ c :: r) = .ok (A, B, c :: r) := by
  have h2 : isD 46 = false := by decide
  unfold ptd
  cases B with
  | none =>
    obtain ⟨a1, a2⟩ := tw_app (p := isD) (r := r) hc hA
    have hA0 : A ≠ [] := by simpa [ob] using hne
    unfold ptx
    simp only [List.append_nil]
    rw [a1, a2]
    simp only
    rw [if_neg h46, if_neg hA0]
  | some b =>
    obtain ⟨a1, a2⟩ := tw_app (p := isD) (x := 46) (r := b ++ c :: r) h2 hA
    obtain ⟨b1, b2⟩ := tw_app (p := isD) (r := r) hc (l := b) hB
    unfold ptx
    simp only [List.append_assoc, List.cons_append]
    rw [a1, a2]
    simp only
    rw [if_pos (by decide), b1, b2, if_neg]
    rintro ⟨e1, e2⟩
    exact hne (by rw [e1, e2]; rfl)
theorem hexy_no {l r : List UInt8} (h : ∀ z ∈ l, z.toNat ≠ 120 ∧ z.toNat ≠ 88) (h2 : 2 ≤ l.length) : hexy (l ++ r) = none := by
  match l with
  | [] => simp at h2
  | [_] => simp at h2
  | y :: x :: m =>
    have := h x (by simp)
    show (if y.toNat = 48 ∧ (x.toNat = 120 ∨ x.toNat = 88) then some (m ++ r) else none) = none
    rw [if_neg (by omega)]
theorem dig_sane {c : UInt8} (h : isD c = true) : c.toNat ≠ 120 ∧ c.toNat ≠ 88 ∧ ¬ (c.toNat = 43 ∨ c.toNat = 45) := by
  have := isD_iff.1 h; omega
theorem pt_sane {A : List UInt8} {B : Option (List UInt8)} {c : UInt8} (hA : ∀ z ∈ A, isD z = true) (hB : ∀ z ∈ ob B, isD z = true) (hc : c.toNat ≠ 120 ∧ c.toNat ≠ 88) : ∀ z ∈ A ++ ptx B ++ [c], z.toNat ≠ 120 ∧ z.toNat ≠ 88 := by
  intro z hz
  rcases List.mem_append.1 hz with hz | hz
  · rcases List.mem_append.1 hz with hz | hz
    · have := dig_sane (hA z hz); exact ⟨this.1, this.2.1⟩
    · cases B with
      | none => simp [ptx] at hz
      | some b =>
        rcases List.mem_cons.1 hz with rfl | hz
        · decide
        · have := dig_sane (hB z hz); exact ⟨this.1, this.2.1⟩
  · rw [List.mem_singleton] at hz; subst hz; exact hc
theorem pt_head {A : List UInt8} {B : Option (List UInt8)} {r : List UInt8} (hA : ∀ z ∈ A, isD z = true) (hB : ∀ z ∈ ob B, isD z = true) (hne : A ++ ob B ≠ []) : ∃ h t, A ++ ptx B ++ r = h :: t ∧ ¬ (h.toNat = 43 ∨ h.toNat = 45) ∧ 2 ≤ (A ++ ptx B ++ [(0 : UInt8)]).length := by
  cases A with
  | nil =>
    cases B with
    | none => exact absurd rfl hne
    | some b => exact ⟨46, b ++ r, rfl, by decide, by simp [ptx]⟩
  | cons a A => exact ⟨a, A ++ ptx B ++ r, rfl, (dig_sane (hA a (by simp))).2.2, by simp; omega⟩
/-- A decimal with an exponent is scanned to its number. -/
theorem scn_dec {p : List UInt8} {neg : Bool} (hp : SgOk p neg) {A : List UInt8} {B : Option (List UInt8)} {c : UInt8} {E K : Int} (hA : ∀ z ∈ A, isD z = true) (hB : ∀ z ∈ ob B, isD z = true) (hne : A ++ ob B ≠ []) (hc : c = 101 ∨ c = 69) (hl : (A ++ ob B).length ≤ 4000) (e1 : -9999 ≤ E) (e2 : E ≤ 9999) (hK : E - ((ob B).length : Int) = K) :
    scn (p ++ (A ++ ptx B ++ c :: Lib.itoa E)) = .ok (neg, numB 10 (A ++ ob B) * 10 ^ K.toNat, 10 ^ (-K).toNat, 0) := by
  have hcn : isD c = false ∧ c.toNat ≠ 46 ∧ c.toNat ≠ 120 ∧ c.toNat ≠ 88 ∧ c.toNat ≠ 47 ∧ (c.toNat = 101 ∨ c.toNat = 69) := by
    rcases hc with rfl | rfl <;> decide
  have hlen : (p ++ (A ++ ptx B ++ c :: Lib.itoa E)).length ≤ 4096 := by
    have := Lib.itoa_length_le E (by omega) (by omega)
    have a1 : p.length ≤ 1 := by rcases hp with ⟨rfl, _⟩ | ⟨rfl, _⟩ | ⟨rfl, _⟩ <;> simp
    have a2 : (ptx B).length ≤ (ob B).length + 1 := by cases B <;> simp [ptx, ob]
    rw [List.length_append] at hl
    rw [List.length_append, List.length_append, List.length_append, List.length_cons]
    omega
  obtain ⟨h, t, ht, hh, h2⟩ := pt_head (r := c :: Lib.itoa E) hA hB hne
  have hcut : cut (p ++ (A ++ ptx B ++ c :: Lib.itoa E)) = .ok (neg, .dc A B (some (Lib.itoa E))) := by
    have hs : sg (p ++ (A ++ ptx B ++ c :: Lib.itoa E)) = (neg, A ++ ptx B ++ c :: Lib.itoa E) := by
      rw [ht]; exact sgq_pre hp hh
    have hx : hexy (A ++ ptx B ++ c :: Lib.itoa E) = none := by
      have := hexy_no (r := Lib.itoa E) (pt_sane hA hB (c := c) ⟨hcn.2.2.1, hcn.2.2.2.1⟩) (by simpa using h2)
      rw [List.append_assoc (A ++ ptx B)] at this
      exact this
    unfold cut
    rw [hs]
    simp only [hx]
    have : cutD (A ++ ptx B ++ c :: Lib.itoa E) = .ok (.dc A B (some (Lib.itoa E))) := by
      unfold cutD
      rw [ptd_gen hA hB hne hcn.1 hcn.2.1]
      simp only
      rw [if_neg (fun h => hcn.2.2.2.2.1 h.2), if_pos hcn.2.2.2.2.2, xpo_itoa]
    rw [this]
    rfl
  unfold scn
  rw [if_neg (by omega), hcut]
  have hlate : Pc.late (.dc A B (some (Lib.itoa E))) = none := by
    unfold Pc.late
    simp only
    rw [sg_itoa, (dd_law _).2.1, if_neg (by omega)]
  have hten : Pc.ten B (some (Lib.itoa E)) = K := by
    unfold Pc.ten
    simp only [xvl_itoa]
    exact hK
  simp only [hlate]
  unfold Pc.num Pc.den Pc.two
  simp only [hten]
/-- A ratio of whole numbers is scanned to it. -/
theorem scn_rat {p : List UInt8} {neg : Bool} (hp : SgOk p neg) {A D : List UInt8} (hA : ∀ z ∈ A, isD z = true) (hD : ∀ z ∈ D, isD z = true) (hA0 : A ≠ []) (hD0 : D ≠ []) (hl : A.length + D.length ≤ 4000) (hn : numB 10 D ≠ 0) :
    scn (p ++ (A ++ 47 :: D)) = .ok (neg, numB 10 A, numB 10 D, 0) := by
  have hlen : (p ++ (A ++ 47 :: D)).length ≤ 4096 := by
    have a1 : p.length ≤ 1 := by rcases hp with ⟨rfl, _⟩ | ⟨rfl, _⟩ | ⟨rfl, _⟩ <;> simp
    rw [List.length_append, List.length_append, List.length_cons]
    omega
  have hB : ∀ z ∈ ob none, isD z = true := by intro z hz; simp [ob] at hz
  have hne : A ++ ob none ≠ [] := by simpa [ob] using hA0
  obtain ⟨h, t, ht, hh, h2⟩ := pt_head (B := none) (r := 47 :: D) hA hB hne
  have e0 : A ++ ptx none = A := by simp [ptx]
  rw [e0] at ht h2
  have hcut : cut (p ++ (A ++ 47 :: D)) = .ok (neg, .fr A D) := by
    have hs : sg (p ++ (A ++ 47 :: D)) = (neg, A ++ 47 :: D) := by
      rw [ht]; exact sgq_pre hp hh
    have hx : hexy (A ++ 47 :: D) = none := by
      have h9 := pt_sane (B := none) (c := 47) hA hB (by decide)
      rw [e0] at h9
      have := hexy_no (r := D) h9 (by simpa using h2)
      rw [List.append_assoc] at this
      exact this
    unfold cut
    rw [hs]
    simp only [hx]
    have : cutD (A ++ 47 :: D) = .ok (.fr A D) := by
      unfold cutD
      have h9 := ptd_gen (r := D) (c := 47) hA hB hne (by decide) (by decide)
      rw [e0] at h9
      rw [h9]
      simp only
      obtain ⟨d1, d2⟩ := tw_all hD
      rw [if_pos ⟨trivial, by decide⟩, d1, d2, if_neg]
      rintro (h | h)
      · exact hD0 h
      · exact h rfl
    rw [this]
    rfl
  unfold scn
  rw [if_neg (by omega), hcut]
  have hlate : Pc.late (.fr A D) = none := by
    unfold Pc.late
    simp only
    rw [if_neg hn]
  simp only [hlate]
  rfl
/-- Digits and noughts. -/
theorem numB_noughts (z : Nat) : numB 10 (List.replicate z 48) = 0 := by
  induction z with
  | zero => rfl
  | succ m ih => rw [List.replicate_succ', numB_push, ih]; rfl
theorem noughts_dig (z : Nat) : ∀ c ∈ List.replicate z (48 : UInt8), isD c = true := by
  intro c hc
  rw [List.eq_of_mem_replicate hc]; decide
/-- Two numerals of one ratio: read alike, and told equal by Cmp. -/
theorem same_num (d : Int) {l l' : List UInt8} {neg : Bool} {P Q P' Q' : Nat} (h : scn l = .ok (neg, P, Q, 0)) (h' : scn l' = .ok (neg, P', Q', 0)) (hQ : 0 < Q) (hQ' : 0 < Q') (e : P * Q' = P' * Q) : readS d l' = readS d l ∧ (readS d l).2.1 = 0 ∧ (readS d l).2.2 = 0 ∧ cmpS l l' = (0, 0, 0) := by
  refine ⟨?_, by unfold readS; rw [h], by unfold readS; rw [h], ?_⟩
  · unfold readS
    rw [h, h']
    show (fpat neg (rng _ _ _ _), _, _) = (fpat neg (rng _ _ _ _), _, _)
    have hp : ∀ Z : Nat, 0 < Q * 2 ^ Z ∧ 0 < Q' * 2 ^ Z := fun Z => ⟨Nat.mul_pos hQ (Nat.two_pow_pos _), Nat.mul_pos hQ' (Nat.two_pow_pos _)⟩
    rw [rng_eq (hp _).2 (hp _).1]
    have e0 : ((0 : Int).toNat) = 0 := rfl
    have e1 : ((-(0 : Int)).toNat) = 0 := rfl
    rw [e0, e1, Nat.pow_zero, Nat.mul_one, Nat.mul_one, Nat.mul_one, Nat.mul_one]
    generalize 2 ^ KU = W
    calc P' * W * Q = P' * Q * W := by ac_rfl
      _ = P * Q' * W := by rw [e]
      _ = _ := by ac_rfl
  · rw [cmpS_okP h h']
    unfold ordS
    simp only
    rw [show ((0 : Int) - 0).toNat = 0 from rfl, Nat.pow_zero, Nat.mul_one, Nat.mul_one, e, icmp_self]
end Go.Proofs.YtiadjcilfljdaaaGreatDoor
end

section
namespace Go.Proofs.YtiadjcilfljdaaaGreatDoor
set_option linter.unusedVariables false
set_option linter.unusedSimpArgs false
open Go.RowKit Verge

theorem growB_cases {w : World} {B : Nat} {v : Value} {xs : List UInt8} (h : GrowB w B v xs) : (xs = [] ∧ v = .slice none 0 0) ∨ ∃ g cap, v = .slice (some ⟨g, 0, none⟩) xs.length cap := by
  rcases h.2 with ⟨e, h0⟩ | ⟨g, cap, cur, e, _⟩
  · exact .inl ⟨List.length_eq_zero_iff.1 h0, e⟩
  · exact .inr ⟨g, cap, e⟩
set_option maxRecDepth 20000 in
set_option maxHeartbeats 4000000 in
theorem clean_any (l : List UInt8) (hl : l.length ≤ 140737488355328) (w : World) : Calls Tryz.prog 19 #[.string (bs l)] w fun e w' => ∃ d : List UInt8, (∀ c ∈ d, isD c = true) ∧ d.length ≤ 300 ∧ e = .returned (.string (bs d)) ∧ Below w.heap.size w w' := by
  obtain ⟨S, hS⟩ : ∃ S, bs l = S := ⟨_, rfl⟩
  have hs : S.size = l.length := by rw [← hS]; exact bs_size _
  have HSA := Lib.hid (fun i c h => (hS ▸ bs_at l i c h : ∀ hi : i < S.size, S[i]'hi = c))
  have HGET := Lib.hid (fun i (h : i < l.length) => (⟨_, List.getElem?_eq_getElem h⟩ : ∃ c, l[i]? = some c))
  rw [hS]
  obtain ⟨L, hL⟩ : ∃ L, l.length = L := ⟨_, rfl⟩
  rw [hL] at hs hl HGET
  clear hS hL
  go_enter Tryz.func19, Tryz.ntmps19
  go_wp2
  go_loopw [3, 4] (fun vv iv wr => ∃ (i : Nat) (o : List UInt8) (A : Option Addr) (n cap : Nat), i ≤ L ∧ iv = .int .i64 (i : Int) ∧ vv = .slice A n cap ∧ n ≤ 300 ∧ Hid (o.length = n ∧ GrowB wr w.heap.size (.slice A n cap) o ∧ (∀ c ∈ o, isD c = true) ∧ Below w.heap.size w wr)) (fun _ iv _ => L - (intOf iv).toNat)
  case atStart => exact ⟨0, [], none, 0, 0, by omega, rfl, rfl, by omega, rfl, GrowB.nil _ _, by intro c hc; simp at hc, Below.refl _ _⟩
  case round =>
    obtain ⟨i, o, A, n, cap, hi, rfl, rfl, hn, hI⟩ := hrel
    have hend : Hid (∀ K : Act → World → Prop, True) := Lib.hid fun _ => trivial
    by_cases hgo : i < L ∧ n < 300
    · obtain ⟨hlt, hn3⟩ := hgo
      have hltI : (i : Int) < (S.size : Int) := by omega
      have hnI : (n : Int) < 300 := by omega
      obtain ⟨c, hc⟩ := HGET.out i hlt
      have hcS := HSA.out i c hc (by omega)
      clear hc hend
      by_cases hd : isD c = true
      · have hcd := isD_iff.1 hd
        have hc48 : (48 : Int) ≤ c.toNat := by omega
        have hc57 : (c.toNat : Int) ≤ 57 := by omega
        have HD := Lib.hid hd
        clear hd hcd
        go_wp2_with (refine wpList_pushB rfl _ _ rfl w.heap.size _ o rfl wr _ c rfl rfl hI.out.2.1 rfl (by have := hI.out.1; omega) hI.out.2.2.2.size w hI.out.2.2.2 ?_; intro v' w3 hG1 hb1 hOw1; have HG1 := Lib.hid hG1; have HB1 := Lib.hid hb1; clear hG1 hb1 hOw1)
        obtain ⟨g, cap2, hv, _⟩ := HG1.out.form (by simp)
        obtain rfl := hv
        have HGN := Lib.hid HG1.out
        rw [List.length_append, List.length_singleton, hI.out.1] at HGN
        have HFIN : Hid ((o ++ [c]).length = n + 1 ∧ GrowB w3 w.heap.size (.slice (some ⟨g, 0, none⟩) (n + 1) cap2) (o ++ [c]) ∧ (∀ z ∈ o ++ [c], isD z = true) ∧ Below w.heap.size w w3) := Lib.hid ⟨by rw [List.length_append, hI.out.1]; rfl, HGN.out, by
          intro z hz
          rcases List.mem_append.1 hz with hz | hz
          · exact hI.out.2.2.1 z hz
          · rw [List.mem_singleton] at hz; subst hz; exact HD.out, HB1.out⟩
        rw [List.length_append, List.length_singleton, hI.out.1]
        clear HG1 HB1 HGN HD hI
        go_wp2
        go_roundw
        case rel => exact ⟨i + 1, o ++ [c], some ⟨g, 0, none⟩, n + 1, cap2, by omega, by go_num, rfl, by omega, HFIN⟩
        case measure => simp [intOf]; omega
      · have hcd := isD_no.1 (by simpa using hd)
        by_cases h48 : (48 : Int) ≤ c.toNat
        · have h57 : ¬ (c.toNat : Int) ≤ 57 := by omega
          clear hd hcd
          go_wp2
          go_roundw
          case rel => exact ⟨i + 1, o, A, n, cap, by omega, by go_num, rfl, by omega, hI⟩
          case measure => simp [intOf]; omega
        · clear hd hcd
          go_wp2
          go_roundw
          case rel => exact ⟨i + 1, o, A, n, cap, by omega, by go_num, rfl, by omega, hI⟩
          case measure => simp [intOf]; omega
    · clear hend
      by_cases hlt : i < L
      · have hltI : (i : Int) < (S.size : Int) := by omega
        have hnI : ¬ ((n : Int) < 300) := by omega
        obtain ⟨h1, h2, h3, h4⟩ := hI.out
        rcases growB_cases h2 with ⟨rfl, _⟩ | ⟨g, cap2, he⟩
        · exact absurd h1 (by simp; omega)
        · injection he with e1 e2 e3
          subst e1
          have hcv := convN wr g 0 n cap o h1 (fun i c hc => by rw [Nat.zero_add]; exact (h2.at h1 hc).1)
          have HO := Lib.hid (And.intro h1 (And.intro h3 h4))
          clear h1 h2 h3 h4 hI hgo e2 e3
          go_wp2
          go_ret
          exact ⟨o, HO.out.2.1, by rw [HO.out.1]; exact hn, rfl, HO.out.2.2⟩
      · have hge : ¬ ((i : Int) < (S.size : Int)) := by omega
        obtain ⟨h1, h2, h3, h4⟩ := hI.out
        rcases growB_cases h2 with ⟨rfl, he⟩ | ⟨g, cap2, he⟩
        · injection he with e1 e2 e3
          subst e1 e2 e3
          have hcv0 : (convert 55 9 (.slice none 0 0)).run Tryz.prog wr = .ok (.string ByteArray.empty) wr := run_convert_bytes_nil (P := Tryz.prog) wr 55 5 Tryz.underlying55 Tryz.underlying5 0 0 9 Tryz.underlying9
          have HB := Lib.hid h4
          clear h1 h2 h3 h4 hI hgo
          go_wp2
          go_ret
          exact ⟨[], by simp, by simp, rfl, HB.out⟩
        · injection he with e1 e2 e3
          subst e1
          have hcv := convN wr g 0 n cap o h1 (fun i c hc => by rw [Nat.zero_add]; exact (h2.at h1 hc).1)
          have HO := Lib.hid (And.intro h1 (And.intro h3 h4))
          clear h1 h2 h3 h4 hI hgo e2 e3
          go_wp2
          go_ret
          exact ⟨o, HO.out.2.1, by rw [HO.out.1]; exact hn, rfl, HO.out.2.2⟩
theorem zeros_any (n : Nat) (hn : n ≤ 1000) (w : World) : Calls Tryz.prog 21 #[.int .i64 (n : Int)] w fun e w' => e = .returned (.string (bs (List.replicate n 48))) ∧ w = w' := by
  go_enter Tryz.func21, Tryz.ntmps21
  go_wp2
  go_loop [3, 4] (fun sv iv => ∃ i : Nat, i ≤ n ∧ iv = .int .i64 (i : Int) ∧ sv = .string (bs (List.replicate i 48))) (fun _ iv => n - (intOf iv).toNat)
  case atStart => exact ⟨0, by omega, rfl, rfl⟩
  case round =>
    obtain ⟨i, hi, rfl, rfl⟩ := hrel
    by_cases hlt : i < n
    · have hltI : (i : Int) < (n : Int) := by omega
      have hcat : bs (List.replicate i 48) ++ ({ data := #[48] } : ByteArray) = bs (List.replicate (i + 1) 48) := by
        rw [List.replicate_succ', ← bs_append]; rfl
      have hsz : (bs (List.replicate i 48)).size = i := by rw [bs_size, List.length_replicate]
      obtain ⟨X, hX⟩ : ∃ X, bs (List.replicate i 48) = X := ⟨_, rfl⟩
      have HY : ∀ Y, bs (List.replicate (i + 1) 48) = Y → X ++ ({ data := #[48] } : ByteArray) = Y := by rintro Y rfl; rw [← hX]; exact hcat
      have hcat2 := HY _ rfl
      rw [hX] at hsz ⊢
      have hbig : ¬ (9223372036854775807 < X.size + 1) := by omega
      clear hcat HY hX
      go_wp2
      go_round
      case rel => exact ⟨i + 1, by omega, by go_num, by simp [hcat2]⟩
      case measure => simp [intOf]; omega
    · obtain rfl : i = n := by omega
      go_wp2
      go_ret
      exact ⟨rfl, rfl⟩
end Go.Proofs.YtiadjcilfljdaaaGreatDoor
end

section
namespace Go.Proofs.YtiadjcilfljdaaaGreatDoor
set_option linter.unusedVariables false
set_option linter.unusedSimpArgs false
open Go.RowKit Verge

theorem and_31 (z : Int) (h1 : -9223372036854775808 ≤ z) (h2 : z ≤ 9223372036854775807) : ∃ n : Nat, bits .and .i64 z 31 = (n : Int) ∧ n ≤ 31 := by
  have e : ∃ m : Nat, Go.bits .and .i64 z 31 = IntKind.i64.wrap (((m &&& 31 : Nat) : Nat) : Int) := by
    refine ⟨?_, ?_⟩
    rotate_left
    · unfold Go.bits; rfl
  obtain ⟨m, hm⟩ := e
  refine ⟨m &&& 31, ?_, Nat.and_le_right⟩
  have : m &&& 31 ≤ 31 := Nat.and_le_right
  rw [hm]
  simp [IntKind.wrap, IntKind.bits, IntKind.signed]
  omega
theorem ten_up (M z : Nat) (K : Int) : M * 10 ^ K.toNat * 10 ^ (-(K - z)).toNat = M * 10 ^ z * 10 ^ (K - z).toNat * 10 ^ (-K).toNat := by
  rw [Nat.mul_assoc, Nat.mul_assoc, Nat.mul_assoc, ← Nat.pow_add, ← Nat.pow_add, ← Nat.pow_add, show K.toNat + (-(K - (z : Int))).toNat = z + ((K - (z : Int)).toNat + (-K).toNat) by omega]
/-- All that the law asks of a spelling. -/
def Alike (d : Int) (f l : List UInt8) : Prop := readS d l = readS d f ∧ (readS d f).2.1 = 0 ∧ (readS d f).2.2 = 0 ∧ cmpS f l = (0, 0, 0) ∧ l.length ≤ 4096 ∧ f.length ≤ 4096
theorem alike_of (d : Int) {l l' : List UInt8} {neg : Bool} {P Q P' Q' : Nat} (h : scn l = .ok (neg, P, Q, 0)) (h' : scn l' = .ok (neg, P', Q', 0)) (hQ : 0 < Q) (hQ' : 0 < Q') (e : P * Q' = P' * Q) : Alike d l l' := by
  obtain ⟨a1, a2, a3, a4⟩ := same_num d h h' hQ hQ' e
  exact ⟨a1, a2, a3, a4, scn_len h', scn_len h⟩
section
variable {A T : List UInt8} (hA : ∀ c ∈ A, isD c = true) (hT : ∀ c ∈ T, isD c = true) (a1 : 1 ≤ A.length) (a2 : A.length ≤ 300) (t2 : T.length ≤ 300) {k : Int} (k1 : -9000 ≤ k) (k2 : k ≤ 9000) {z : Nat} (hz : z ≤ 31) {p q : List UInt8} {neg : Bool} (hp : SgOk p neg) (hq : SgOk q neg) (d : Int)
include hA hT a1 a2 t2 k1 k2 hz hp hq
theorem spt_law : ∀ l ∈ [q ++ List.replicate z 48 ++ A ++ [46] ++ T ++ List.replicate z 48 ++ [69] ++ Lib.itoa k, p ++ A ++ T ++ [101] ++ Lib.itoa (k - T.length), p ++ [46] ++ A ++ T ++ [101] ++ Lib.itoa (k + A.length), p ++ A ++ T ++ List.replicate z 48 ++ [46, 101] ++ Lib.itoa (k - T.length - z)],
    Alike d (p ++ A ++ [46] ++ T ++ [101] ++ Lib.itoa k) l := by
  have hA0 : A ≠ [] := by rintro rfl; simp at a1
  have hZ := noughts_dig z
  have hAT : ∀ c ∈ A ++ T, isD c = true := fun c hc => by
    rcases List.mem_append.1 hc with hc | hc
    · exact hA c hc
    · exact hT c hc
  have h10 : ∀ j : Nat, 0 < 10 ^ j := fun j => Nat.pow_pos (by omega)
  have f := scn_dec hp (B := some T) (c := 101) (E := k) hA hT (by simpa [ob] using fun h => absurd h hA0) (.inl rfl) (by simp [ob]; omega) (by omega) (by omega) rfl
  have ef : p ++ A ++ [46] ++ T ++ [101] ++ Lib.itoa k = p ++ (A ++ ptx (some T) ++ 101 :: Lib.itoa k) := by simp [ptx]
  rw [ef]
  intro l hl
  simp only [List.mem_cons, List.not_mem_nil, or_false] at hl
  rcases hl with rfl | rfl | rfl | rfl
  · have g := scn_dec hq (A := List.replicate z 48 ++ A) (B := some (T ++ List.replicate z 48)) (c := 69) (E := k) (fun c hc => by
        rcases List.mem_append.1 hc with hc | hc
        · exact hZ c hc
        · exact hA c hc) (fun c hc => by
        rcases List.mem_append.1 hc with hc | hc
        · exact hT c hc
        · exact hZ c hc) (by simp [hA0]) (.inr rfl) (by simp [ob]; omega) (by omega) (by omega) rfl
    have eg : q ++ List.replicate z 48 ++ A ++ [46] ++ T ++ List.replicate z 48 ++ [69] ++ Lib.itoa k = q ++ (List.replicate z 48 ++ A ++ ptx (some (T ++ List.replicate z 48)) ++ 69 :: Lib.itoa k) := by simp [ptx]
    rw [eg]
    refine alike_of d f g (h10 _) (h10 _) ?_
    have en : numB 10 (List.replicate z 48 ++ A ++ ob (some (T ++ List.replicate z 48))) = numB 10 (A ++ ob (some T)) * 10 ^ z := by
      show numB 10 (List.replicate z 48 ++ A ++ (T ++ List.replicate z 48)) = numB 10 (A ++ T) * 10 ^ z
      rw [List.append_assoc, ← List.append_assoc A T, numB_append, numB_noughts, Nat.zero_mul, Nat.zero_add, numB_append, numB_noughts, List.length_replicate, Nat.add_zero]
    have ek : k - (((ob (some (T ++ List.replicate z 48))).length : Nat) : Int) = k - (((ob (some T)).length : Nat) : Int) - (z : Int) := by
      simp [ob]; omega
    rw [en, ek]
    exact ten_up _ z _
  · have g := scn_dec hp (A := A ++ T) (B := none) (c := 101) (E := k - T.length) hAT (fun c hc => by simp [ob] at hc) (by simp [hA0]) (.inl rfl) (by simp [ob]; omega) (by omega) (by omega) rfl
    have eg : p ++ A ++ T ++ [101] ++ Lib.itoa (k - T.length) = p ++ (A ++ T ++ ptx none ++ 101 :: Lib.itoa (k - T.length)) := by simp [ptx]
    rw [eg]
    refine alike_of d f g (h10 _) (h10 _) ?_
    have ek : k - (T.length : Int) - (((ob none).length : Nat) : Int) = k - (((ob (some T)).length : Nat) : Int) := by simp [ob]
    have en : numB 10 (A ++ T ++ ob none) = numB 10 (A ++ ob (some T)) := by simp [ob]
    rw [en, ek]
  · have g := scn_dec hp (A := []) (B := some (A ++ T)) (c := 101) (E := k + A.length) (fun c hc => by simp at hc) hAT (by simp [ob, hA0]) (.inl rfl) (by simp [ob]; omega) (by omega) (by omega) rfl
    have eg : p ++ [46] ++ A ++ T ++ [101] ++ Lib.itoa (k + A.length) = p ++ ([] ++ ptx (some (A ++ T)) ++ 101 :: Lib.itoa (k + A.length)) := by simp [ptx]
    rw [eg]
    refine alike_of d f g (h10 _) (h10 _) ?_
    have ek : k + (A.length : Int) - (((ob (some (A ++ T))).length : Nat) : Int) = k - (((ob (some T)).length : Nat) : Int) := by simp [ob]; omega
    have en : numB 10 ([] ++ ob (some (A ++ T))) = numB 10 (A ++ ob (some T)) := by simp [ob]
    rw [en, ek]
  · have g := scn_dec hp (A := A ++ T ++ List.replicate z 48) (B := some []) (c := 101) (E := k - T.length - z) (fun c hc => by
        rcases List.mem_append.1 hc with hc | hc
        · exact hAT c hc
        · exact hZ c hc) (fun c hc => by simp [ob] at hc) (by simp [hA0]) (.inl rfl) (by simp [ob]; omega) (by omega) (by omega) rfl
    have eg : p ++ A ++ T ++ List.replicate z 48 ++ [46, 101] ++ Lib.itoa (k - T.length - z) = p ++ (A ++ T ++ List.replicate z 48 ++ ptx (some []) ++ 101 :: Lib.itoa (k - T.length - z)) := by simp [ptx]
    rw [eg]
    refine alike_of d f g (h10 _) (h10 _) ?_
    have en : numB 10 (A ++ T ++ List.replicate z 48 ++ ob (some [])) = numB 10 (A ++ ob (some T)) * 10 ^ z := by
      show numB 10 (A ++ T ++ List.replicate z 48 ++ []) = numB 10 (A ++ T) * 10 ^ z
      rw [List.append_nil, numB_append, numB_noughts, List.length_replicate, Nat.add_zero]
    have ek : k - (T.length : Int) - (z : Int) - (((ob (some [])).length : Nat) : Int) = k - (((ob (some T)).length : Nat) : Int) - (z : Int) := by simp [ob]
    rw [en, ek]
    exact ten_up _ z _
end
theorem spt_law0 {A T : List UInt8} (hA : ∀ c ∈ A, isD c = true) (hT : ∀ c ∈ T, isD c = true) (a1 : 1 ≤ A.length) (a2 : A.length ≤ 300) (t2 : T.length ≤ 300) {z : Nat} (hz : z ≤ 31) {p q : List UInt8} {neg : Bool} (hp : SgOk p neg) (hq : SgOk q neg) (d : Int) :
    ∀ l ∈ [p ++ A ++ T ++ [47, 49] ++ List.replicate T.length 48, q ++ List.replicate z 48 ++ A ++ T ++ [47] ++ List.replicate z 48 ++ [49] ++ List.replicate T.length 48],
    Alike d (p ++ A ++ [46] ++ T ++ [101] ++ Lib.itoa 0) l := by
  have hA0 : A ≠ [] := by rintro rfl; simp at a1
  have hZ := noughts_dig z
  have hAT : ∀ c ∈ A ++ T, isD c = true := fun c hc => by
    rcases List.mem_append.1 hc with hc | hc
    · exact hA c hc
    · exact hT c hc
  have h10 : ∀ j : Nat, 0 < 10 ^ j := fun j => Nat.pow_pos (by omega)
  have f := scn_dec hp (B := some T) (c := 101) (E := 0) hA hT (by simpa [ob] using fun h => absurd h hA0) (.inl rfl) (by simp [ob]; omega) (by omega) (by omega) rfl
  have ef : p ++ A ++ [46] ++ T ++ [101] ++ Lib.itoa 0 = p ++ (A ++ ptx (some T) ++ 101 :: Lib.itoa 0) := by simp [ptx]
  rw [ef]
  have e1 : numB 10 ([49] ++ List.replicate T.length 48) = 10 ^ T.length := by
    rw [numB_append, numB_noughts, List.length_replicate, show numB 10 [49] = 1 from rfl, Nat.one_mul, Nat.add_zero]
  have et : (0 : Int) - (((ob (some T)).length : Nat) : Int) = -(T.length : Int) := by simp [ob]
  rw [et] at f
  have n1 : (-(T.length : Int)).toNat = 0 := by omega
  have n2 : (- -(T.length : Int)).toNat = T.length := by omega
  rw [n1, n2, Nat.pow_zero, Nat.mul_one] at f
  intro l hl
  simp only [List.mem_cons, List.not_mem_nil, or_false] at hl
  rcases hl with rfl | rfl
  · have g := scn_rat hp (A := A ++ T) (D := [49] ++ List.replicate T.length 48) hAT (fun c hc => by
        rcases List.mem_append.1 hc with hc | hc
        · rw [List.mem_singleton] at hc; subst hc; decide
        · exact noughts_dig _ c hc) (by simp [hA0]) (by simp) (by simp; omega) (by rw [e1]; have := h10 T.length; omega)
    have eg : p ++ A ++ T ++ [47, 49] ++ List.replicate T.length 48 = p ++ (A ++ T ++ 47 :: ([49] ++ List.replicate T.length 48)) := by simp
    rw [eg]
    rw [e1] at g
    exact alike_of d f g (h10 _) (h10 _) rfl
  · have g := scn_rat hq (A := List.replicate z 48 ++ (A ++ T)) (D := List.replicate z 48 ++ ([49] ++ List.replicate T.length 48)) (fun c hc => by
        rcases List.mem_append.1 hc with hc | hc
        · exact hZ c hc
        · exact hAT c hc) (fun c hc => by
        rcases List.mem_append.1 hc with hc | hc
        · exact hZ c hc
        · rcases List.mem_append.1 hc with hc | hc
          · rw [List.mem_singleton] at hc; subst hc; decide
          · exact noughts_dig _ c hc) (by simp [hA0]) (by simp) (by simp; omega) (by rw [numB_append, numB_noughts, Nat.zero_mul, Nat.zero_add, e1]; have := h10 T.length; omega)
    have eg : q ++ List.replicate z 48 ++ A ++ T ++ [47] ++ List.replicate z 48 ++ [49] ++ List.replicate T.length 48 = q ++ (List.replicate z 48 ++ (A ++ T) ++ 47 :: (List.replicate z 48 ++ ([49] ++ List.replicate T.length 48))) := by simp
    rw [eg]
    rw [numB_append _ (List.replicate z 48) ([49] ++ List.replicate T.length 48), numB_noughts, Nat.zero_mul, Nat.zero_add, e1, numB_append _ (List.replicate z 48), numB_noughts, Nat.zero_mul, Nat.zero_add] at g
    exact alike_of d f g (h10 _) (h10 _) rfl
end Go.Proofs.YtiadjcilfljdaaaGreatDoor
end
