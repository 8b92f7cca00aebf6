/- One form for contracts: a call answers a value of which something holds, and touches nothing that stood. Vergeref2's naturals in that form. -/
import Derived.Test.YtcomkgmonhidhaaGreatDoorG12
import Derived.Test.YtcomkgmonhidhaaGreatDoorG13
section
namespace Go.Proofs.YtcomkgmonhidhaaGreatDoor
set_option linter.unusedVariables false
set_option linter.unusedSimpArgs false
open Go.RowKit Verge

def Ans (w : World) (φ : Value → World → Prop) (e : Ending) (w' : World) : Prop := ∃ v, e = .returned v ∧ φ v w' ∧ Below w.heap.size w w'
/-- A list of words. -/
def IsL (xs : List Nat) (v : Value) (w : World) : Prop := ∃ A c, v = .slice A xs.length c ∧ Rd w A xs
def IsN (n : Nat) (v : Value) (w : World) : Prop := IsL (dig n) v w
/-- A ratio: its sign, and the lists of its numbers. -/
def IsR (s : Bool) (xs ys : List Nat) (v : Value) (w : World) : Prop := ∃ a b, v = .agg #[.bool s, a, b] ∧ IsL xs a w ∧ IsL ys b w
def IsQ (s : Bool) (n d : Nat) (v : Value) (w : World) : Prop := IsR s (dig n) (dig d) v w
def Is2 (φ ψ : Value → World → Prop) (v : Value) (w : World) : Prop := ∃ a b, v = .tuple #[a, b] ∧ φ a w ∧ ψ b w

theorem IsL.mono (xs : List Nat) : Mono (IsL xs) := fun _ _ _ hb ⟨A, c, e, h⟩ => ⟨A, c, e, h.below hb⟩
theorem IsN.mono (n : Nat) : Mono (IsN n) := IsL.mono _
theorem IsR.mono (s : Bool) (xs ys : List Nat) : Mono (IsR s xs ys) := fun _ _ _ hb ⟨a, b, e, h, k⟩ => ⟨a, b, e, IsL.mono xs _ _ _ hb h, IsL.mono ys _ _ _ hb k⟩
theorem IsQ.mono (s : Bool) (n d : Nat) : Mono (IsQ s n d) := IsR.mono _ _ _
theorem Is2.mono {φ ψ : Value → World → Prop} (h : Mono φ) (k : Mono ψ) : Mono (Is2 φ ψ) := fun _ _ _ hb ⟨a, b, e, p, q⟩ => ⟨a, b, e, h _ _ _ hb p, k _ _ _ hb q⟩
theorem ans_quiet {P : Program} {f : FuncId} {args : Array Value} {w : World} {u : Value} (h : Calls P f args w fun e w' => e = .returned u ∧ w = w') : Calls P f args w (Ans w (IsV u)) :=
  h.mono fun e w' ⟨he, hw⟩ => ⟨u, he, rfl, hw ▸ Below.refl _ _⟩
theorem ans_drew {P : Program} {f : FuncId} {args : Array Value} {w : World} {u : Value} (h : Calls P f args w fun e w' => e = .returned u ∧ ∃ k, w.drewN k = w') : Calls P f args w (Ans w (IsV u)) :=
  h.mono fun e w' ⟨he, k, hw⟩ => ⟨u, he, rfl, hw ▸ below_drewN (Below.refl _ _) k⟩
theorem ans_below {P : Program} {f : FuncId} {args : Array Value} {w : World} {u : Value} (h : Calls P f args w fun e w' => e = .returned u ∧ Below w.heap.size w w') : Calls P f args w (Ans w (IsV u)) :=
  h.mono fun e w' ⟨he, hw⟩ => ⟨u, he, rfl, hw⟩
theorem ans_doc {P : Program} {f : FuncId} {args : Array Value} {w : World} {n : Nat} (h : Calls P f args w (Doc w n)) : Calls P f args w (Ans w (IsN n)) :=
  h.mono fun e w' ⟨A, c, he, hR, _, _, hb⟩ => ⟨_, he, ⟨A, c, rfl, hR⟩, hb⟩
theorem ans_rat {P : Program} {f : FuncId} {args : Array Value} {w : World} {s : Bool} {n d : Nat} (h : Calls P f args w (RatP w s n d)) : Calls P f args w (Ans w (IsQ s n d)) :=
  h.mono fun e w' ⟨A, c, B, k, he, hR, hS, hb⟩ => ⟨_, he, ⟨_, _, rfl, ⟨A, c, rfl, hR⟩, ⟨B, k, rfl, hS⟩⟩, hb⟩

theorem IsL.words {xs : List Nat} {v : Value} {w : World} (h : IsL xs v w) : W32 xs := by
  obtain ⟨A, c, _, hR⟩ := h
  exact hR.1

section
variable {w : World} {v u : Value} {xs ys : List Nat}
theorem norm_is (hv : IsL xs v w) (hb : xs.length ≤ 35184372088800) : Calls Tryz.prog 73 #[v] w (Ans w (IsN (val xs))) := by
  obtain ⟨A, c, rfl, h⟩ := hv
  exact ans_doc (rnorm_any A _ c xs w h rfl hb)
theorem small_is (n : Nat) (h : n < 18446744073709551616) : Calls Tryz.prog 94 #[.int .u64 (n : Int)] w (Ans w (IsN n)) := ans_doc (rsmall_any n w h)
theorem cmp_is (hv : IsL xs v w) (hu : IsL ys u w) (h1 : xs.length ≤ 140737488355328) (h2 : ys.length ≤ 140737488355328) : Calls Tryz.prog 79 #[v, u] w (Ans w (IsV (.int .i64 (cmp (val xs) (val ys))))) := by
  obtain ⟨A, c, rfl, h⟩ := hv
  obtain ⟨B, d, rfl, k⟩ := hu
  exact ans_drew (rcmp_any A _ c xs B _ d ys w h rfl k rfl h1 h2)
theorem plus_is (hv : IsL xs v w) (hu : IsL ys u w) (h1 : xs.length ≤ 35184372088700) (h2 : ys.length ≤ 35184372088700) : Calls Tryz.prog 82 #[v, u] w (Ans w (IsN (val xs + val ys))) := by
  obtain ⟨A, c, rfl, h⟩ := hv
  obtain ⟨B, d, rfl, k⟩ := hu
  exact ans_doc (rplus_any A _ c xs B _ d ys w h rfl k rfl h1 h2)
theorem times_is (hv : IsL xs v w) (hu : IsL ys u w) (h1 : xs.length + ys.length ≤ 35184372088800) : Calls Tryz.prog 97 #[v, u] w (Ans w (IsN (val xs * val ys))) := by
  obtain ⟨A, c, rfl, h⟩ := hv
  obtain ⟨B, d, rfl, k⟩ := hu
  have := wl_le xs
  have := wl_le ys
  exact ans_doc (rtimes_any A _ c xs B _ d ys w h rfl k rfl (by omega) (by omega) (by omega))
theorem frac_is (s : Bool) (e : Int) (hv : IsL xs v w) (hu : IsL ys u w) (h1 : xs.length + e.toNat / 32 + 4 ≤ 35184372088800) (h2 : ys.length + (-e).toNat / 32 + 4 ≤ 35184372088800) :
    Calls Tryz.prog 93 #[.bool s, v, u, .int .i64 e] w (Ans w (IsQ (s && decide (val xs ≠ 0)) (fracN (val xs) (val ys) e) (fracD (val xs) (val ys) e))) := by
  obtain ⟨A, c, rfl, h⟩ := hv
  obtain ⟨B, d, rfl, k⟩ := hu
  exact ans_rat (rfrac_any s A _ c xs B _ d ys e w h rfl k rfl h1 h2)
theorem bits_is (b : Nat) (h : b < 18446744073709551616) : Calls Tryz.prog 71 #[.int .u64 (b : Int)] w (Ans w (IsQ (decide (9223372036854775808 < b)) (fbN b) (fbD b))) := ans_rat (rbits_any b h w)
end
end Go.Proofs.YtcomkgmonhidhaaGreatDoor
end

section
namespace Go.Proofs.YtcomkgmonhidhaaGreatDoor
set_option linter.unusedVariables false
set_option linter.unusedSimpArgs false
open Go.RowKit Verge

/-- A ratio as it is handed over. -/
abbrev ratV (s : Bool) (A : Option Addr) (n c : Nat) (B : Option Addr) (m d : Nat) : Value := .agg #[.bool s, .slice A n c, .slice B m d]
def rsgn (s : Bool) (n : Nat) : Int := if n = 0 then 0 else if s then -1 else 1

section
variable (s : Bool) (A : Option Addr) (n c : Nat) (X : List Nat) (B : Option Addr) (m d : Nat) (Y : List Nat) (w : World) (h : Rd w A X) (hn : X.length = n) (hnb : n ≤ 35184372088800)
include h hn hnb

theorem rsign_any : Calls Tryz.prog 39 #[ratV s A n c B m d] w fun e w' => e = .returned (.int .i64 (rsgn s (val X))) ∧ Below w.heap.size w w' := by
  have H1 := Lib.hid (fun W (hW : Rd W A X) => rnorm_any A n c X W hW hn hnb)
  have HB := Lib.hid (rnew w (.cells #[.bool s, .slice A n c, .slice B m d] 70))
  have HX := Lib.hid h
  have HC := Lib.hid (Box3.new w (.bool s) (.slice A n c) (.slice B m d))
  obtain ⟨x, hx⟩ : ∃ x, val X = x := ⟨_, rfl⟩
  simp only [hx] at H1 ⊢
  clear h hn hnb hx
  unfold rsgn
  by_cases h0 : x = 0
  · have hl : (dig x).length = 0 := by rw [h0, dig_zero]; rfl
    rw [if_pos h0]
    have H0 := Lib.hid h0
    clear h0
    go_enter Tryz.func39, Tryz.ntmps39
    go_wp2_with fail
    refine (H1.out _ (HX.out.below HB.out)).mono ?_
    rintro en w1 ⟨A1, c1, rfl, hR1, hl1, hm1, hb⟩
    have HW := Lib.hid (raft HB.out hb)
    obtain ⟨b0, b1, b2⟩ := (HC.out.later hb).cells
    clear hR1 hb
    rw [hl]
    go_wp2
    go_ret
    exact ⟨rfl, HW.out⟩
  · have hl : ¬ ((dig x).length : Int) = 0 := by have := dig_length_pos h0; omega
    rw [if_neg h0]
    clear h0
    cases s
    · go_enter Tryz.func39, Tryz.ntmps39
      go_wp2_with fail
      refine (H1.out _ (HX.out.below HB.out)).mono ?_
      rintro en w1 ⟨A1, c1, rfl, hR1, hl1, hm1, hb⟩
      have HW := Lib.hid (raft HB.out hb)
      obtain ⟨b0, b1, b2⟩ := (HC.out.later hb).cells
      clear hR1 hb
      go_wp2
      go_ret
      exact ⟨rfl, HW.out⟩
    · go_enter Tryz.func39, Tryz.ntmps39
      go_wp2_with fail
      refine (H1.out _ (HX.out.below HB.out)).mono ?_
      rintro en w1 ⟨A1, c1, rfl, hR1, hl1, hm1, hb⟩
      have HW := Lib.hid (raft HB.out hb)
      obtain ⟨b0, b1, b2⟩ := (HC.out.later hb).cells
      clear hR1 hb
      go_wp2
      go_ret
      exact ⟨rfl, HW.out⟩
end

theorem size_alloc1 (w : World) (o : Obj) : (w.alloc o).heap.size = w.heap.size + 1 := by simp
/-- RCmp's answer. -/
def rcmp (s : Bool) (x y : Nat) (t : Bool) (u v : Nat) : Int :=
  if rsgn s x < rsgn t u then -1 else if rsgn t u < rsgn s x then 1 else if x = 0 then 0 else if s then -cmp (x * v) (u * y) else cmp (x * v) (u * y)

set_option maxRecDepth 20000 in
set_option maxHeartbeats 8000000 in
theorem rrcmp_any (s : Bool) (A : Option Addr) (n c : Nat) (X : List Nat) (B : Option Addr) (m d : Nat) (Y : List Nat) (t : Bool) (A' : Option Addr) (n' c' : Nat) (X' : List Nat) (B' : Option Addr) (m' d' : Nat) (Y' : List Nat) (w : World)
    (h : Rd w A X) (hn : X.length = n) (k : Rd w B Y) (hm : Y.length = m) (h' : Rd w A' X') (hn' : X'.length = n') (k' : Rd w B' Y') (hm' : Y'.length = m')
    (h1 : n + m' ≤ 35184372088800) (h2 : n' + m ≤ 35184372088800) :
    Calls Tryz.prog 96 #[ratV s A n c B m d, ratV t A' n' c' B' m' d'] w fun e w' => e = .returned (.int .i64 (rcmp s (val X) (val Y) t (val X') (val Y'))) ∧ Below w.heap.size w w' := by
  have wx : wl X ≤ n := hn ▸ wl_le X
  have wy : wl Y ≤ m := hm ▸ wl_le Y
  have wx' : wl X' ≤ n' := hn' ▸ wl_le X'
  have wy' : wl Y' ≤ m' := hm' ▸ wl_le Y'
  have S1 := Lib.hid (fun W (hW : Rd W A X) => rsign_any s A n c X B m d W hW hn (by omega))
  have S2 := Lib.hid (fun W (hW : Rd W A' X') => rsign_any t A' n' c' X' B' m' d' W hW hn' (by omega))
  have T1 := Lib.hid (fun W (hW : Rd W A X) (hW' : Rd W B' Y') => rtimes_any A n c X B' m' d' Y' W hW hn hW' hm' (by omega) (by omega) (by omega))
  have T2 := Lib.hid (fun W (hW : Rd W A' X') (hW' : Rd W B Y) => rtimes_any A' n' c' X' B m d Y W hW hn' hW' hm (by omega) (by omega) (by omega))
  have D1 : (dig (val X * val Y')).length ≤ n + m' := Nat.le_trans (dig_mul_length _ _) (by rw [← wl_eq h.1, ← wl_eq k'.1]; omega)
  have D2 : (dig (val X' * val Y)).length ≤ n' + m := Nat.le_trans (dig_mul_length _ _) (by rw [← wl_eq h'.1, ← wl_eq k.1]; omega)
  have HX := Lib.hid h
  have HY := Lib.hid k
  have HX' := Lib.hid h'
  have HY' := Lib.hid k'
  have HB := Lib.hid (raft (rnew w (.cells #[.bool s, .slice A n c, .slice B m d] 70)) (rnew _ (.cells #[.bool t, .slice A' n' c', .slice B' m' d'] 70)))
  have HC := Lib.hid ((Box3.new w (.bool s) (.slice A n c) (.slice B m d)).later (rnew _ (.cells #[.bool t, .slice A' n' c', .slice B' m' d'] 70)))
  have HC' := Lib.hid (Box3.new (w.alloc (.cells #[.bool s, .slice A n c, .slice B m d] 70)) (.bool t) (.slice A' n' c') (.slice B' m' d'))
  rw [size_alloc1] at HC'
  obtain ⟨x, hx⟩ : ∃ x, val X = x := ⟨_, rfl⟩
  obtain ⟨y, hy⟩ : ∃ y, val Y = y := ⟨_, rfl⟩
  obtain ⟨u, hu⟩ : ∃ u, val X' = u := ⟨_, rfl⟩
  obtain ⟨v, hv⟩ : ∃ v, val Y' = v := ⟨_, rfl⟩
  simp only [hx, hy, hu, hv] at S1 S2 T1 T2 D1 D2 ⊢
  clear h k h' k' hn hm hn' hm' hx hy hu hv wx wy wx' wy'
  obtain ⟨p, hp⟩ : ∃ p, rsgn s x = p := ⟨_, rfl⟩
  obtain ⟨q, hq⟩ : ∃ q, rsgn t u = q := ⟨_, rfl⟩
  have hx0 : x = 0 ↔ p = 0 := by rw [← hp]; unfold rsgn; split <;> (try split) <;> simp_all
  have hpb : -1 ≤ p ∧ p ≤ 1 := by rw [← hp]; unfold rsgn; split <;> (try split) <;> omega
  have hqb : -1 ≤ q ∧ q ≤ 1 := by rw [← hq]; unfold rsgn; split <;> (try split) <;> omega
  unfold rcmp
  rw [hp, hq]
  rw [hp] at S1
  rw [hq] at S2
  clear hp hq
  simp only [hx0]
  obtain ⟨hp1, hp2⟩ := hpb
  obtain ⟨hq1, hq2⟩ := hqb
  obtain ⟨P, hP⟩ : ∃ P : Ending → World → Prop, P = fun e w' => e = .returned (.int .i64 (if p < q then -1 else if q < p then 1 else if p = 0 then 0 else if s then -cmp (x * v) (u * y) else cmp (x * v) (u * y))) ∧ Below w.heap.size w w' := ⟨_, rfl⟩
  rw [← hP]
  have HP := Lib.hid hP
  clear hP hx0
  go_enter Tryz.func96, Tryz.ntmps96
  go_wp2_with fail
  refine (S1.out _ (HX.out.below HB.out)).mono ?_
  rintro en w1 ⟨rfl, hb⟩
  have HC := Lib.hid (HC.out.later hb)
  have HC' := Lib.hid (HC'.out.later hb)
  have HB := Lib.hid (raft HB.out hb)
  obtain ⟨b0, b1, b2⟩ := HC'.out.cells
  clear hb
  go_wp2_with fail
  refine (S2.out _ (HX'.out.below HB.out)).mono ?_
  rintro en w2 ⟨rfl, hb⟩
  have HC := Lib.hid (HC.out.later hb)
  have HC' := Lib.hid (HC'.out.later hb)
  have HB := Lib.hid (raft HB.out hb)
  clear hb b0 b1 b2
  obtain ⟨b0, b1, b2⟩ := HC'.out.cells
  obtain ⟨a0, a1, a2⟩ := HC.out.cells
  by_cases hlt : p < q
  · go_wp2
    rw [HP.out, if_pos hlt]
    exact ⟨rfl, HB.out⟩
  · by_cases hgt : q < p
    · go_wp2
      rw [HP.out, if_neg (show ¬ p < q by omega), if_pos hgt]
      exact ⟨rfl, HB.out⟩
    · obtain rfl : p = q := by omega
      have X2 := Lib.hid (HX.out.below HB.out)
      have Y2 := Lib.hid (HY.out.below HB.out)
      have X2' := Lib.hid (HX'.out.below HB.out)
      have Y2' := Lib.hid (HY'.out.below HB.out)
      go_upto_region 7 with fail
      refine region_at 12 (Pick [IsV (.pointer (some ⟨w.heap.size, 1, none⟩)), IsV (.slice A n c), IsV (.pointer (some ⟨w.heap.size + 1, 2, none⟩)), IsV (.slice B' m' d'), IsN (x * v), IsV (.pointer (some ⟨w.heap.size + 1, 1, none⟩)), IsV (.slice A' n' c'), IsV (.pointer (some ⟨w.heap.size, 2, none⟩)), IsV (.slice B m d), IsN (u * y), IsV (.int .i64 (cmp (x * v) (u * y))), IsV (.int .i64 (cmp (x * v) (u * y)))]) (by kernel_rfl) (by kernel_rfl) (by kernel_rfl) (mono_pick ⟨IsV.mono _, IsV.mono _, IsV.mono _, IsV.mono _, IsN.mono _, IsV.mono _, IsV.mono _, IsV.mono _, IsV.mono _, IsN.mono _, IsV.mono _, IsV.mono _, trivial⟩) ⟨?_, ?_, ?_, ?_, ?_, ?_, ?_, ?_, ?_, ?_, ?_, ?_, trivial⟩ ?_
      · intro a W hsz hb hS
        have h2 : a.tmps.getD 2 undef = .pointer (some ⟨w.heap.size, 0, none⟩) := hS.1
        clear hS hsz
        refine will_of rfl ?_
        intro K hK
        go_simp
        exact hK _ _ ⟨Below.refl _ _, rfl⟩
      · intro a W hsz hb hS
        have h18 : a.tmps.getD 18 undef = .pointer (some ⟨w.heap.size, 1, none⟩) := hS.1
        clear hS hsz
        refine will_of rfl ?_
        obtain ⟨k0, k1, k2⟩ := (HC.out.later hb).cells
        obtain ⟨l0, l1, l2⟩ := (HC'.out.later hb).cells
        intro K hK
        go_simp
        exact hK _ _ ⟨Below.refl _ _, rfl⟩
      · intro a W hsz hb hS
        have h3 : a.tmps.getD 3 undef = .pointer (some ⟨w.heap.size + 1, 0, none⟩) := hS.1
        clear hS hsz
        refine will_of rfl ?_
        intro K hK
        go_simp
        exact hK _ _ ⟨Below.refl _ _, rfl⟩
      · intro a W hsz hb hS
        have h20 : a.tmps.getD 20 undef = .pointer (some ⟨w.heap.size + 1, 2, none⟩) := hS.1
        clear hS hsz
        refine will_of rfl ?_
        obtain ⟨k0, k1, k2⟩ := (HC.out.later hb).cells
        obtain ⟨l0, l1, l2⟩ := (HC'.out.later hb).cells
        intro K hK
        go_simp
        exact hK _ _ ⟨Below.refl _ _, rfl⟩
      · intro a W hsz hb hS
        have h19 : a.tmps.getD 19 undef = .slice A n c := hS.1
        have h21 : a.tmps.getD 21 undef = .slice B' m' d' := hS.2.1
        clear hS hsz
        refine will_of rfl ?_
        obtain ⟨k0, k1, k2⟩ := (HC.out.later hb).cells
        obtain ⟨l0, l1, l2⟩ := (HC'.out.later hb).cells
        intro K hK
        go_simp
        refine (ans_doc (T1.out _ (X2.out.below hb) (Y2'.out.below hb))).mono ?_
        rintro e W' ⟨vv, rfl, hv, hb'⟩
        exact hK _ _ ⟨hb', hv⟩
      · intro a W hsz hb hS
        have h3 : a.tmps.getD 3 undef = .pointer (some ⟨w.heap.size + 1, 0, none⟩) := hS.1
        clear hS hsz
        refine will_of rfl ?_
        intro K hK
        go_simp
        exact hK _ _ ⟨Below.refl _ _, rfl⟩
      · intro a W hsz hb hS
        have h23 : a.tmps.getD 23 undef = .pointer (some ⟨w.heap.size + 1, 1, none⟩) := hS.1
        clear hS hsz
        refine will_of rfl ?_
        obtain ⟨k0, k1, k2⟩ := (HC.out.later hb).cells
        obtain ⟨l0, l1, l2⟩ := (HC'.out.later hb).cells
        intro K hK
        go_simp
        exact hK _ _ ⟨Below.refl _ _, rfl⟩
      · intro a W hsz hb hS
        have h2 : a.tmps.getD 2 undef = .pointer (some ⟨w.heap.size, 0, none⟩) := hS.1
        clear hS hsz
        refine will_of rfl ?_
        intro K hK
        go_simp
        exact hK _ _ ⟨Below.refl _ _, rfl⟩
      · intro a W hsz hb hS
        have h25 : a.tmps.getD 25 undef = .pointer (some ⟨w.heap.size, 2, none⟩) := hS.1
        clear hS hsz
        refine will_of rfl ?_
        obtain ⟨k0, k1, k2⟩ := (HC.out.later hb).cells
        obtain ⟨l0, l1, l2⟩ := (HC'.out.later hb).cells
        intro K hK
        go_simp
        exact hK _ _ ⟨Below.refl _ _, rfl⟩
      · intro a W hsz hb hS
        have h24 : a.tmps.getD 24 undef = .slice A' n' c' := hS.1
        have h26 : a.tmps.getD 26 undef = .slice B m d := hS.2.1
        clear hS hsz
        refine will_of rfl ?_
        obtain ⟨k0, k1, k2⟩ := (HC.out.later hb).cells
        obtain ⟨l0, l1, l2⟩ := (HC'.out.later hb).cells
        intro K hK
        go_simp
        refine (ans_doc (T2.out _ (X2'.out.below hb) (Y2.out.below hb))).mono ?_
        rintro e W' ⟨vv, rfl, hv, hb'⟩
        exact hK _ _ ⟨hb', hv⟩
      · intro a W hsz hb hS
        have q22 : IsN (x * v) (a.tmps.getD 22 undef) W := hS.1
        have q27 : IsN (u * y) (a.tmps.getD 27 undef) W := hS.2.1
        clear hS hsz
        obtain ⟨v22, h22⟩ : ∃ v, a.tmps.getD 22 undef = v := ⟨_, rfl⟩
        rw [h22] at q22
        obtain ⟨v27, h27⟩ : ∃ v, a.tmps.getD 27 undef = v := ⟨_, rfl⟩
        rw [h27] at q27
        refine will_of rfl ?_
        obtain ⟨k0, k1, k2⟩ := (HC.out.later hb).cells
        obtain ⟨l0, l1, l2⟩ := (HC'.out.later hb).cells
        intro K hK
        go_simp
        have hq := cmp_is q22 q27 (by omega) (by omega)
        rw [val_dig, val_dig] at hq
        (with_reducible refine hq.mono ?_)
        rintro e W' ⟨_, rfl, rfl, hb'⟩
        exact hK _ _ ⟨hb', rfl⟩
      · intro a W hsz hb hS
        have h28 : a.tmps.getD 28 undef = .int .i64 (cmp (x * v) (u * y)) := hS.1
        clear hS hsz
        refine will_of rfl ?_
        intro K hK
        go_simp
        exact hK _ _ ⟨Below.refl _ _, rfl⟩
      intro f W hb hH
      have e0 : f 0 = .pointer (some ⟨w.heap.size, 1, none⟩) := hH.1
      have e1 : f 1 = .slice A n c := hH.2.1
      have e2 : f 2 = .pointer (some ⟨w.heap.size + 1, 2, none⟩) := hH.2.2.1
      have e3 : f 3 = .slice B' m' d' := hH.2.2.2.1
      obtain ⟨x4, y4⟩ : ∃ x, f 4 = x := ⟨_, rfl⟩
      have q4 : IsN (x * v) (f 4) W := hH.2.2.2.2.1
      rw [y4] at q4
      have e5 : f 5 = .pointer (some ⟨w.heap.size + 1, 1, none⟩) := hH.2.2.2.2.2.1
      have e6 : f 6 = .slice A' n' c' := hH.2.2.2.2.2.2.1
      have e7 : f 7 = .pointer (some ⟨w.heap.size, 2, none⟩) := hH.2.2.2.2.2.2.2.1
      have e8 : f 8 = .slice B m d := hH.2.2.2.2.2.2.2.2.1
      obtain ⟨x9, y9⟩ : ∃ x, f 9 = x := ⟨_, rfl⟩
      have q9 : IsN (u * y) (f 9) W := hH.2.2.2.2.2.2.2.2.2.1
      rw [y9] at q9
      have e10 : f 10 = .int .i64 (cmp (x * v) (u * y)) := hH.2.2.2.2.2.2.2.2.2.2.1
      have e11 : f 11 = .int .i64 (cmp (x * v) (u * y)) := hH.2.2.2.2.2.2.2.2.2.2.2.1
      simp only [List.take_succ_cons, List.take_zero, List.drop_succ_cons, List.drop_zero, putFrom, Act.put, List.setIfInBounds_toArray, List.set_cons_zero, List.set_cons_succ, Nat.reduceAdd, e0, e1, e2, e3, y4, e5, e6, e7, e8, y9, e10, e11]
      clear e0 e1 e2 e3 y4 e5 e6 e7 e8 y9 e10 e11 hH f
      clear q4 q9
      have HC := Lib.hid (HC.out.later hb)
      have HB := Lib.hid (raft HB.out hb)
      clear b0 b1 b2 a0 a1 a2 hb
      obtain ⟨a0, a1, a2⟩ := HC.out.cells
      rw [if_neg (show ¬ p < p by omega), if_neg (show ¬ p < p by omega)] at HP
      obtain ⟨r, hr⟩ : ∃ r, cmp (x * v) (u * y) = r := ⟨_, rfl⟩
      have hrb : -1 ≤ r ∧ r ≤ 1 := by rw [← hr]; unfold cmp; split <;> (try split) <;> omega
      obtain ⟨hr1, hr2⟩ := hrb
      rw [hr] at HP ⊢
      by_cases hp0 : p = 0
      · rw [if_pos hp0] at HP
        rcases (show s = true ∨ s = false by cases s <;> simp) with hs | hs
        · rw [hs] at a0
          go_wp2
          rw [HP.out]
          exact ⟨rfl, HB.out⟩
        · rw [hs] at a0
          go_wp2
          rw [HP.out]
          exact ⟨rfl, HB.out⟩
      · rw [if_neg hp0] at HP
        rcases (show s = true ∨ s = false by cases s <;> simp) with hs | hs
        · rw [hs] at a0
          rw [if_pos hs] at HP
          go_wp2
          rw [HP.out]
          exact ⟨rfl, HB.out⟩
        · rw [hs] at a0
          rw [if_neg (by rw [hs]; simp)] at HP
          go_wp2
          rw [HP.out]
          exact ⟨rfl, HB.out⟩
end Go.Proofs.YtcomkgmonhidhaaGreatDoor
end
