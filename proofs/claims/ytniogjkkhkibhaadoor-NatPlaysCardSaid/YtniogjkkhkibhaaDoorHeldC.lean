/- vergelaw2.want: what the document answers. -/
import Derived.Test.YtniogjkkhkibhaaDoorHeldA
import Derived.Test.YtniogjkkhkibhaaDoorRefI
namespace Go.Proofs.YtniogjkkhkibhaaDoor
set_option linter.unusedVariables false
set_option linter.unusedSimpArgs false
open Go.RowKit Verge

theorem setb (w : World) (r i : Nat) (u : Value) (b : Nat) (h : b ≠ r) : (w.setCell ⟨r, i, none⟩ u).heap[b]? = w.heap[b]? := Below.heap_setCell w ⟨r, i, none⟩ u b h

theorem Rd.but {w w' : World} {r : Nat} {A : Option Addr} {xs : List Nat} (h : Rd w A xs) (hr : ∀ i z, w.cell? ⟨r, i, none⟩ ≠ some (.int .u32 z)) (hk : ∀ b, b ≠ r → w'.heap[b]? = w.heap[b]?) : Rd w' A xs := by
  refine ⟨h.1, fun hn => ?_⟩
  obtain ⟨b, o, rfl, hc⟩ := h.2 hn
  refine ⟨b, o, rfl, fun k x hx => ?_⟩
  have hb : b ≠ r := by
    rintro rfl
    exact hr _ _ (hc k x hx)
  have e := World.cell?_of_block (w := w) (w' := w') (a := ⟨b, o + k, none⟩) (hk b hb)
  rw [e]
  exact hc k x hx

theorem rd6 {w : World} {r : Nat} {A : Option Addr} {xs : List Nat} (h : Rd w A xs) (hr : ∀ i z, w.cell? ⟨r, i, none⟩ ≠ some (.int .u32 z)) (u0 u1 u2 u3 u4 u5 : Value) :
    Rd ((((((w.setCell ⟨r, 0, none⟩ u0).setCell ⟨r, 1, none⟩ u1).setCell ⟨r, 2, none⟩ u2).setCell ⟨r, 3, none⟩ u3).setCell ⟨r, 4, none⟩ u4).setCell ⟨r, 5, none⟩ u5) A xs :=
  h.but hr fun b hb => (setb _ r 5 u5 b hb).trans ((setb _ r 4 u4 b hb).trans ((setb _ r 3 u3 b hb).trans ((setb _ r 2 u2 b hb).trans ((setb _ r 1 u1 b hb).trans (setb _ r 0 u0 b hb)))))

theorem res_not (w : World) (i : Nat) (z : Int) : (w.alloc (.cells #[.slice none 0 0, .slice none 0 0, .int .u64 0, .int .i64 0, .bool false, .int .i64 0] 50)).cell? ⟨w.heap.size, i, none⟩ ≠ some (.int .u32 z) := by
  rw [cell_of_row _ w.heap.size i _ _ (0, 0) (heap_alloc_new w _)]
  intro e
  rcases i with _ | _ | _ | _ | _ | _ | i <;> simp at e

def WantPost (w : World) (a : Ans) : Ending → World → Prop := fun en w' =>
  ∃ AL cL AM cM, en = .returned (.agg #[.slice AL a.l.length cL, .slice AM a.m.length cM, .int .u64 (a.wv : Nat), .int .i64 a.nv, .bool a.bv, .int .i64 a.ev]) ∧ Rd w' AL a.l ∧ Rd w' AM a.m ∧ Below w.heap.size w w'

theorem rword_n (A : Option Addr) (n c : Nat) (xs : List Nat) (w : World) (h : Rd w A xs) (hn : xs.length = n) (hm : n ≤ 140737488355328) :
    Calls Tryd.prog 55 #[.slice A n c] w fun e w' => e = .returned (.tuple #[.int .u64 ((nword (val xs)).1 : Nat), .bool (nword (val xs)).2]) ∧ w = w' := by
  have := rword_any A n c xs w h hn hm
  unfold nword
  by_cases hv : val xs < 18446744073709551616
  · rw [if_pos hv] at this ⊢; exact this
  · rw [if_neg hv] at this ⊢; exact this

theorem docRoot_n (A : Option Addr) (n c : Nat) (xs : List Nat) (w : World) (h : Rd w A xs) (hn : xs.length = n) (hm : n ≤ 35184372088600) :
    Calls Tryd.prog 60 #[.slice A n c] w (DocS w (nroot (val xs)).1 (nroot (val xs)).2.1 (nroot (val xs)).2.2) := by
  refine (docRoot A n c xs w h hn hm).mono ?_
  rintro en w' ⟨A1, r, c1, b, er, rfl, hro, h1, h2, h3, hb⟩
  rw [nroot_of hro]
  exact ⟨A1, c1, rfl, h1, h2, h3, hb⟩

section
variable (A : Option Addr) (n c : Nat) (X : List Nat) (A' : Option Addr) (n' c' : Nat) (Y : List Nat) (v : Nat) (e : Int) (w : World) (h : Rd w A X) (hn : X.length = n) (hm : n ≤ 35184372088600)
    (h' : Rd w A' Y) (hn' : Y.length = n') (hm' : n' ≤ 35184372088600) (hv : v < 18446744073709551616) (he0 : -9223372036854775808 ≤ e) (he1 : e ≤ 9223372036854775807)
include h hn hm h' hn' hm' hv he0 he1
set_option linter.unusedSectionVars false

set_option maxHeartbeats 1000000 in
theorem wanted_6 : Calls Tryd.prog 62 #[.int .i64 6, .slice A n c, .slice A' n' c', .int .i64 e] w (DocE w (nadd (val X) (val Y)).1 (nadd (val X) (val Y)).2) := by
  have hN := fun W hW hW' => docAdd A n c X A' n' c' Y W hW hn hm hW' hn' hm'
  obtain ⟨x, hx⟩ : ∃ x, val X = x := ⟨_, rfl⟩
  obtain ⟨y, hy⟩ : ∃ y, val Y = y := ⟨_, rfl⟩
  rw [hx, hy] at hN ⊢
  unfold DocE at hN
  have HN := Lib.hid hN
  clear hN hx hy hn hn'
  go_enter Tryd.func62, Tryd.ntmps62
  go_wp2_with (go_at_call 76; refine (HN.out _ h h').mono ?_; rintro en w1 ⟨A1, c1, rfl, d1, d2, d3, hb⟩)
  go_ret2
  exact ⟨A1, c1, rfl, d1, d2, d3, hb⟩

set_option maxHeartbeats 1000000 in
theorem wanted_7 : Calls Tryd.prog 62 #[.int .i64 7, .slice A n c, .slice A' n' c', .int .i64 e] w (DocE w (nsub (val X) (val Y)).1 (nsub (val X) (val Y)).2) := by
  have hN := fun W hW hW' => docSub A n c X A' n' c' Y W hW hn hm hW' hn' hm'
  obtain ⟨x, hx⟩ : ∃ x, val X = x := ⟨_, rfl⟩
  obtain ⟨y, hy⟩ : ∃ y, val Y = y := ⟨_, rfl⟩
  rw [hx, hy] at hN ⊢
  unfold DocE at hN
  have HN := Lib.hid hN
  clear hN hx hy hn hn'
  go_enter Tryd.func62, Tryd.ntmps62
  go_wp2_with (go_at_call 77; refine (HN.out _ h h').mono ?_; rintro en w1 ⟨A1, c1, rfl, d1, d2, d3, hb⟩)
  go_ret2
  exact ⟨A1, c1, rfl, d1, d2, d3, hb⟩

set_option maxHeartbeats 1000000 in
theorem wanted_8 : Calls Tryd.prog 62 #[.int .i64 8, .slice A n c, .slice A' n' c', .int .i64 e] w (DocE w (nmul (val X) (val Y)).1 (nmul (val X) (val Y)).2) := by
  have hN := fun W hW hW' => docMul A n c X A' n' c' Y W hW hn hm hW' hn' hm'
  obtain ⟨x, hx⟩ : ∃ x, val X = x := ⟨_, rfl⟩
  obtain ⟨y, hy⟩ : ∃ y, val Y = y := ⟨_, rfl⟩
  rw [hx, hy] at hN ⊢
  unfold DocE at hN
  have HN := Lib.hid hN
  clear hN hx hy hn hn'
  go_enter Tryd.func62, Tryd.ntmps62
  go_wp2_with (go_at_call 78; refine (HN.out _ h h').mono ?_; rintro en w1 ⟨A1, c1, rfl, d1, d2, d3, hb⟩)
  go_ret2
  exact ⟨A1, c1, rfl, d1, d2, d3, hb⟩

set_option maxHeartbeats 1000000 in
theorem wanted_11 : Calls Tryd.prog 62 #[.int .i64 11, .slice A n c, .slice A' n' c', .int .i64 e] w (DocE w (npow (val X) e).1 (npow (val X) e).2) := by
  have hN := fun W hW => docPow A n c X W hW hn hm e he0 he1
  obtain ⟨x, hx⟩ : ∃ x, val X = x := ⟨_, rfl⟩
  obtain ⟨y, hy⟩ : ∃ y, val Y = y := ⟨_, rfl⟩
  rw [hx] at hN ⊢
  unfold DocE at hN
  have HN := Lib.hid hN
  clear hN hx hy hn hn'
  go_enter Tryd.func62, Tryd.ntmps62
  go_wp2_with (go_at_call 79; refine (HN.out _ h).mono ?_; rintro en w1 ⟨A1, c1, rfl, d1, d2, d3, hb⟩)
  go_ret2
  exact ⟨A1, c1, rfl, d1, d2, d3, hb⟩

set_option maxHeartbeats 1000000 in
theorem wanted_12 : Calls Tryd.prog 62 #[.int .i64 12, .slice A n c, .slice A' n' c', .int .i64 e] w (DocE w (nshl (val X) e).1 (nshl (val X) e).2) := by
  have hN := fun W hW => docShl A n c X W hW hn hm e he0 he1
  obtain ⟨x, hx⟩ : ∃ x, val X = x := ⟨_, rfl⟩
  obtain ⟨y, hy⟩ : ∃ y, val Y = y := ⟨_, rfl⟩
  rw [hx] at hN ⊢
  unfold DocE at hN
  have HN := Lib.hid hN
  clear hN hx hy hn hn'
  go_enter Tryd.func62, Tryd.ntmps62
  go_wp2_with (go_at_call 80; refine (HN.out _ h).mono ?_; rintro en w1 ⟨A1, c1, rfl, d1, d2, d3, hb⟩)
  go_ret2
  exact ⟨A1, c1, rfl, d1, d2, d3, hb⟩

set_option maxHeartbeats 2000000 in
theorem want_0 : Calls Tryd.prog 30 #[.int .i64 0, .slice A n c, .slice A' n' c', .int .u64 (v : Int), .int .i64 e] w (WantPost w (ansOf 0 (val X) (val Y) v e)) := by
  have hN := fun W hW => rnorm_any A n c X W hW hn (by omega)
  unfold Doc at hN
  obtain ⟨x, hx⟩ : ∃ x, val X = x := ⟨_, rfl⟩
  obtain ⟨y, hy⟩ : ∃ y, val Y = y := ⟨_, rfl⟩
  simp only [hx, hy] at hN ⊢
  have HN := Lib.hid hN
  have HR := Lib.hid (fun o => (h.below (below_new' w o) : Rd (w.alloc o) A X))
  have HR' := Lib.hid (fun o => (h'.below (below_new' w o) : Rd (w.alloc o) A' Y))
  have H0 := Lib.hid (fun o => (below_new' w o))
  clear hN hx hy hn hn' h h'
  go_enter Tryd.func30, Tryd.ntmps30
  go_wp2_with fail
  refine (HN.out _ (HR.out _)).mono ?_
  rintro en w1 ⟨A1, c1, rfl, d1, d2, d3, hb⟩
  have hc1 := bcell hb
  have hf1 := bfro hb
  have hz := hb.size
  have hbb := (H0.out _).trans (hb.mono (by simp))
  have hnr : ∀ i z, w1.cell? ⟨w.heap.size, i, none⟩ ≠ some (.int .u32 z) := fun i z => by rw [bcell hb w.heap.size i (by simp)]; exact res_not w i z
  have HNR := Lib.hid hnr
  clear hnr
  simp at hz
  go_wp2
  refine bodyPost_ret (v := .agg #[.slice A1 (dig x).length c1, .slice none 0 0, .int .u64 0, .int .i64 0, .bool false, .int .i64 0]) (by simp [results, Tryd.results30, go_sem, hc1, hz]) rfl ?_
  exact ⟨A1, c1, none, 0, rfl, rd6 d1 HNR.out _ _ _ _ _ _, Rd.nil, below6 hbb (Nat.le_refl _) _ _ _ _ _ _⟩

set_option maxHeartbeats 2000000 in
theorem want_1 : Calls Tryd.prog 30 #[.int .i64 1, .slice A n c, .slice A' n' c', .int .u64 (v : Int), .int .i64 e] w (WantPost w (ansOf 1 (val X) (val Y) v e)) := by
  have hN := fun W => rsmall_any v W hv
  unfold Doc at hN
  obtain ⟨x, hx⟩ : ∃ x, val X = x := ⟨_, rfl⟩
  obtain ⟨y, hy⟩ : ∃ y, val Y = y := ⟨_, rfl⟩
  rw [hx, hy]
  have HN := Lib.hid hN
  have HR := Lib.hid (fun o => (h.below (below_new' w o) : Rd (w.alloc o) A X))
  have HR' := Lib.hid (fun o => (h'.below (below_new' w o) : Rd (w.alloc o) A' Y))
  have H0 := Lib.hid (fun o => (below_new' w o))
  clear hN hx hy hn hn' h h'
  go_enter Tryd.func30, Tryd.ntmps30
  go_wp2_with fail
  refine (HN.out _).mono ?_
  rintro en w1 ⟨A1, c1, rfl, d1, d2, d3, hb⟩
  have hc1 := bcell hb
  have hf1 := bfro hb
  have hz := hb.size
  have hbb := (H0.out _).trans (hb.mono (by simp))
  have hnr : ∀ i z, w1.cell? ⟨w.heap.size, i, none⟩ ≠ some (.int .u32 z) := fun i z => by rw [bcell hb w.heap.size i (by simp)]; exact res_not w i z
  have HNR := Lib.hid hnr
  clear hnr
  simp at hz
  go_wp2
  refine bodyPost_ret (v := .agg #[.slice A1 (dig v).length c1, .slice none 0 0, .int .u64 0, .int .i64 0, .bool false, .int .i64 0]) (by simp [results, Tryd.results30, go_sem, hc1, hz]) rfl ?_
  exact ⟨A1, c1, none, 0, rfl, rd6 d1 HNR.out _ _ _ _ _ _, Rd.nil, below6 hbb (Nat.le_refl _) _ _ _ _ _ _⟩

set_option maxHeartbeats 2000000 in
theorem want_2 : Calls Tryd.prog 30 #[.int .i64 2, .slice A n c, .slice A' n' c', .int .u64 (v : Int), .int .i64 e] w (WantPost w (ansOf 2 (val X) (val Y) v e)) := by
  have hN := fun W hW => rword_n A n c X W hW hn (by omega)
  obtain ⟨x, hx⟩ : ∃ x, val X = x := ⟨_, rfl⟩
  obtain ⟨y, hy⟩ : ∃ y, val Y = y := ⟨_, rfl⟩
  simp only [hx, hy] at hN ⊢
  obtain ⟨q, hq⟩ : ∃ q, nword x = q := ⟨_, rfl⟩
  have hA : ansOf 2 x y v e = ⟨[], [], q.1, 0, q.2, 0⟩ := by rw [← hq]; rfl
  rw [hA]
  simp only [hq] at hN
  obtain ⟨q1, q2⟩ := q
  clear hA hq
  have HN := Lib.hid hN
  have HR := Lib.hid (fun o => (h.below (below_new' w o) : Rd (w.alloc o) A X))
  have HR' := Lib.hid (fun o => (h'.below (below_new' w o) : Rd (w.alloc o) A' Y))
  have H0 := Lib.hid (fun o => (below_new' w o))
  clear hN hx hy hn hn' h h'
  go_enter Tryd.func30, Tryd.ntmps30
  go_wp2_with fail
  refine (HN.out _ (HR.out _)).mono ?_
  rintro en w1 ⟨rfl, rfl⟩
  go_wp2
  refine bodyPost_ret (v := .agg #[.slice none 0 0, .slice none 0 0, .int .u64 (q1 : Nat), .int .i64 0, .bool q2, .int .i64 0]) (by simp [results, Tryd.results30, go_sem]) rfl ?_
  exact ⟨none, 0, none, 0, rfl, Rd.nil, Rd.nil, H0.out _⟩

set_option maxHeartbeats 2000000 in
theorem want_3 : Calls Tryd.prog 30 #[.int .i64 3, .slice A n c, .slice A' n' c', .int .u64 (v : Int), .int .i64 e] w (WantPost w (ansOf 3 (val X) (val Y) v e)) := by
  have hN := fun W hW hW' => rcmp_any A n c X A' n' c' Y W hW hn hW' hn' (by omega) (by omega)
  obtain ⟨x, hx⟩ : ∃ x, val X = x := ⟨_, rfl⟩
  obtain ⟨y, hy⟩ : ∃ y, val Y = y := ⟨_, rfl⟩
  simp only [hx, hy] at hN ⊢
  obtain ⟨q, hq⟩ : ∃ q, cmp x y = q := ⟨_, rfl⟩
  have hA : ansOf 3 x y v e = ⟨[], [], 0, q, false, 0⟩ := by rw [← hq]; rfl
  rw [hA]
  simp only [hq] at hN
  clear hA hq
  have HN := Lib.hid hN
  have HR := Lib.hid (fun o => (h.below (below_new' w o) : Rd (w.alloc o) A X))
  have HR' := Lib.hid (fun o => (h'.below (below_new' w o) : Rd (w.alloc o) A' Y))
  have H0 := Lib.hid (fun o => (below_new' w o))
  clear hN hx hy hn hn' h h'
  go_enter Tryd.func30, Tryd.ntmps30
  go_wp2_with fail
  refine (HN.out _ (HR.out _) (HR'.out _)).mono ?_
  rintro en w1 ⟨rfl, d, rfl⟩
  go_wp2
  refine bodyPost_ret (v := .agg #[.slice none 0 0, .slice none 0 0, .int .u64 0, .int .i64 q, .bool false, .int .i64 0]) (by simp [results, Tryd.results30, go_sem]) rfl ?_
  exact ⟨none, 0, none, 0, rfl, Rd.nil, Rd.nil, below6 (below_drewN (H0.out _) d) (Nat.le_refl _) _ _ _ _ _ _⟩

set_option maxHeartbeats 2000000 in
theorem want_4 : Calls Tryd.prog 30 #[.int .i64 4, .slice A n c, .slice A' n' c', .int .u64 (v : Int), .int .i64 e] w (WantPost w (ansOf 4 (val X) (val Y) v e)) := by
  have hN := fun W hW => rlen_any A n c X W hW hn (by omega)
  obtain ⟨x, hx⟩ : ∃ x, val X = x := ⟨_, rfl⟩
  obtain ⟨y, hy⟩ : ∃ y, val Y = y := ⟨_, rfl⟩
  simp only [hx, hy] at hN ⊢
  obtain ⟨q, hq⟩ : ∃ q, blen x = q := ⟨_, rfl⟩
  have hA : ansOf 4 x y v e = ⟨[], [], 0, (q : Int), false, 0⟩ := by rw [← hq]; rfl
  rw [hA]
  simp only [hq] at hN
  clear hA hq
  have HN := Lib.hid hN
  have HR := Lib.hid (fun o => (h.below (below_new' w o) : Rd (w.alloc o) A X))
  have HR' := Lib.hid (fun o => (h'.below (below_new' w o) : Rd (w.alloc o) A' Y))
  have H0 := Lib.hid (fun o => (below_new' w o))
  clear hN hx hy hn hn' h h'
  go_enter Tryd.func30, Tryd.ntmps30
  go_wp2_with fail
  refine (HN.out _ (HR.out _)).mono ?_
  rintro en w1 ⟨rfl, rfl⟩
  go_wp2
  refine bodyPost_ret (v := .agg #[.slice none 0 0, .slice none 0 0, .int .u64 0, .int .i64 (q : Nat), .bool false, .int .i64 0]) (by simp [results, Tryd.results30, go_sem]) rfl ?_
  exact ⟨none, 0, none, 0, rfl, Rd.nil, Rd.nil, H0.out _⟩

set_option maxHeartbeats 2000000 in
theorem want_5 : Calls Tryd.prog 30 #[.int .i64 5, .slice A n c, .slice A' n' c', .int .u64 (v : Int), .int .i64 e] w (WantPost w (ansOf 5 (val X) (val Y) v e)) := by
  have hN := fun W hW => rzeros_any A n c X W hW hn (by omega) (by omega)
  obtain ⟨x, hx⟩ : ∃ x, val X = x := ⟨_, rfl⟩
  obtain ⟨y, hy⟩ : ∃ y, val Y = y := ⟨_, rfl⟩
  simp only [hx, hy] at hN ⊢
  obtain ⟨q, hq⟩ : ∃ q, ntz x = q := ⟨_, rfl⟩
  have hA : ansOf 5 x y v e = ⟨[], [], 0, (q : Int), false, 0⟩ := by rw [← hq]; rfl
  rw [hA]
  simp only [hq] at hN
  clear hA hq
  have HN := Lib.hid hN
  have HR := Lib.hid (fun o => (h.below (below_new' w o) : Rd (w.alloc o) A X))
  have HR' := Lib.hid (fun o => (h'.below (below_new' w o) : Rd (w.alloc o) A' Y))
  have H0 := Lib.hid (fun o => (below_new' w o))
  clear hN hx hy hn hn' h h'
  go_enter Tryd.func30, Tryd.ntmps30
  go_wp2_with fail
  refine (HN.out _ (HR.out _)).mono ?_
  rintro en w1 ⟨rfl, rfl⟩
  go_wp2
  refine bodyPost_ret (v := .agg #[.slice none 0 0, .slice none 0 0, .int .u64 0, .int .i64 (q : Nat), .bool false, .int .i64 0]) (by simp [results, Tryd.results30, go_sem]) rfl ?_
  exact ⟨none, 0, none, 0, rfl, Rd.nil, Rd.nil, H0.out _⟩

set_option maxHeartbeats 2000000 in
theorem want_6 : Calls Tryd.prog 30 #[.int .i64 6, .slice A n c, .slice A' n' c', .int .u64 (v : Int), .int .i64 e] w (WantPost w (ansOf 6 (val X) (val Y) v e)) := by
  have hN := fun W hW hW' => wanted_6 A n c X A' n' c' Y v e W hW hn hm hW' hn' hm' hv he0 he1
  unfold DocE at hN
  obtain ⟨x, hx⟩ : ∃ x, val X = x := ⟨_, rfl⟩
  obtain ⟨y, hy⟩ : ∃ y, val Y = y := ⟨_, rfl⟩
  simp only [hx, hy] at hN ⊢
  have HN := Lib.hid hN
  have HR := Lib.hid (fun o => (h.below (below_new' w o) : Rd (w.alloc o) A X))
  have HR' := Lib.hid (fun o => (h'.below (below_new' w o) : Rd (w.alloc o) A' Y))
  have H0 := Lib.hid (fun o => (below_new' w o))
  clear hN hx hy hn hn' h h'
  go_enter Tryd.func30, Tryd.ntmps30
  go_wp2_with fail
  refine (HN.out _ (HR.out _) (HR'.out _)).mono ?_
  rintro en w1 ⟨A1, c1, rfl, d1, d2, d3, hb⟩
  have hc1 := bcell hb
  have hf1 := bfro hb
  have hz := hb.size
  have hbb := (H0.out _).trans (hb.mono (by simp))
  have hnr : ∀ i z, w1.cell? ⟨w.heap.size, i, none⟩ ≠ some (.int .u32 z) := fun i z => by rw [bcell hb w.heap.size i (by simp)]; exact res_not w i z
  have HNR := Lib.hid hnr
  clear hnr
  simp at hz
  go_wp2
  refine bodyPost_ret (v := .agg #[.slice A1 ((nadd x y).1).length c1, .slice none 0 0, .int .u64 0, .int .i64 0, .bool false, .int .i64 (nadd x y).2]) (by simp [results, Tryd.results30, go_sem, hc1, hz]) rfl ?_
  exact ⟨A1, c1, none, 0, rfl, rd6 d1 HNR.out _ _ _ _ _ _, Rd.nil, below6 hbb (Nat.le_refl _) _ _ _ _ _ _⟩

set_option maxHeartbeats 2000000 in
theorem want_7 : Calls Tryd.prog 30 #[.int .i64 7, .slice A n c, .slice A' n' c', .int .u64 (v : Int), .int .i64 e] w (WantPost w (ansOf 7 (val X) (val Y) v e)) := by
  have hN := fun W hW hW' => wanted_7 A n c X A' n' c' Y v e W hW hn hm hW' hn' hm' hv he0 he1
  unfold DocE at hN
  obtain ⟨x, hx⟩ : ∃ x, val X = x := ⟨_, rfl⟩
  obtain ⟨y, hy⟩ : ∃ y, val Y = y := ⟨_, rfl⟩
  simp only [hx, hy] at hN ⊢
  have HN := Lib.hid hN
  have HR := Lib.hid (fun o => (h.below (below_new' w o) : Rd (w.alloc o) A X))
  have HR' := Lib.hid (fun o => (h'.below (below_new' w o) : Rd (w.alloc o) A' Y))
  have H0 := Lib.hid (fun o => (below_new' w o))
  clear hN hx hy hn hn' h h'
  go_enter Tryd.func30, Tryd.ntmps30
  go_wp2_with fail
  refine (HN.out _ (HR.out _) (HR'.out _)).mono ?_
  rintro en w1 ⟨A1, c1, rfl, d1, d2, d3, hb⟩
  have hc1 := bcell hb
  have hf1 := bfro hb
  have hz := hb.size
  have hbb := (H0.out _).trans (hb.mono (by simp))
  have hnr : ∀ i z, w1.cell? ⟨w.heap.size, i, none⟩ ≠ some (.int .u32 z) := fun i z => by rw [bcell hb w.heap.size i (by simp)]; exact res_not w i z
  have HNR := Lib.hid hnr
  clear hnr
  simp at hz
  go_wp2
  refine bodyPost_ret (v := .agg #[.slice A1 ((nsub x y).1).length c1, .slice none 0 0, .int .u64 0, .int .i64 0, .bool false, .int .i64 (nsub x y).2]) (by simp [results, Tryd.results30, go_sem, hc1, hz]) rfl ?_
  exact ⟨A1, c1, none, 0, rfl, rd6 d1 HNR.out _ _ _ _ _ _, Rd.nil, below6 hbb (Nat.le_refl _) _ _ _ _ _ _⟩

set_option maxHeartbeats 2000000 in
theorem want_8 : Calls Tryd.prog 30 #[.int .i64 8, .slice A n c, .slice A' n' c', .int .u64 (v : Int), .int .i64 e] w (WantPost w (ansOf 8 (val X) (val Y) v e)) := by
  have hN := fun W hW hW' => wanted_8 A n c X A' n' c' Y v e W hW hn hm hW' hn' hm' hv he0 he1
  unfold DocE at hN
  obtain ⟨x, hx⟩ : ∃ x, val X = x := ⟨_, rfl⟩
  obtain ⟨y, hy⟩ : ∃ y, val Y = y := ⟨_, rfl⟩
  simp only [hx, hy] at hN ⊢
  have HN := Lib.hid hN
  have HR := Lib.hid (fun o => (h.below (below_new' w o) : Rd (w.alloc o) A X))
  have HR' := Lib.hid (fun o => (h'.below (below_new' w o) : Rd (w.alloc o) A' Y))
  have H0 := Lib.hid (fun o => (below_new' w o))
  clear hN hx hy hn hn' h h'
  go_enter Tryd.func30, Tryd.ntmps30
  go_wp2_with fail
  refine (HN.out _ (HR.out _) (HR'.out _)).mono ?_
  rintro en w1 ⟨A1, c1, rfl, d1, d2, d3, hb⟩
  have hc1 := bcell hb
  have hf1 := bfro hb
  have hz := hb.size
  have hbb := (H0.out _).trans (hb.mono (by simp))
  have hnr : ∀ i z, w1.cell? ⟨w.heap.size, i, none⟩ ≠ some (.int .u32 z) := fun i z => by rw [bcell hb w.heap.size i (by simp)]; exact res_not w i z
  have HNR := Lib.hid hnr
  clear hnr
  simp at hz
  go_wp2
  refine bodyPost_ret (v := .agg #[.slice A1 ((nmul x y).1).length c1, .slice none 0 0, .int .u64 0, .int .i64 0, .bool false, .int .i64 (nmul x y).2]) (by simp [results, Tryd.results30, go_sem, hc1, hz]) rfl ?_
  exact ⟨A1, c1, none, 0, rfl, rd6 d1 HNR.out _ _ _ _ _ _, Rd.nil, below6 hbb (Nat.le_refl _) _ _ _ _ _ _⟩

set_option maxHeartbeats 2000000 in
theorem want_11 : Calls Tryd.prog 30 #[.int .i64 11, .slice A n c, .slice A' n' c', .int .u64 (v : Int), .int .i64 e] w (WantPost w (ansOf 11 (val X) (val Y) v e)) := by
  have hN := fun W hW hW' => wanted_11 A n c X A' n' c' Y v e W hW hn hm hW' hn' hm' hv he0 he1
  unfold DocE at hN
  obtain ⟨x, hx⟩ : ∃ x, val X = x := ⟨_, rfl⟩
  obtain ⟨y, hy⟩ : ∃ y, val Y = y := ⟨_, rfl⟩
  simp only [hx, hy] at hN ⊢
  have HN := Lib.hid hN
  have HR := Lib.hid (fun o => (h.below (below_new' w o) : Rd (w.alloc o) A X))
  have HR' := Lib.hid (fun o => (h'.below (below_new' w o) : Rd (w.alloc o) A' Y))
  have H0 := Lib.hid (fun o => (below_new' w o))
  clear hN hx hy hn hn' h h'
  go_enter Tryd.func30, Tryd.ntmps30
  go_wp2_with fail
  refine (HN.out _ (HR.out _) (HR'.out _)).mono ?_
  rintro en w1 ⟨A1, c1, rfl, d1, d2, d3, hb⟩
  have hc1 := bcell hb
  have hf1 := bfro hb
  have hz := hb.size
  have hbb := (H0.out _).trans (hb.mono (by simp))
  have hnr : ∀ i z, w1.cell? ⟨w.heap.size, i, none⟩ ≠ some (.int .u32 z) := fun i z => by rw [bcell hb w.heap.size i (by simp)]; exact res_not w i z
  have HNR := Lib.hid hnr
  clear hnr
  simp at hz
  go_wp2
  refine bodyPost_ret (v := .agg #[.slice A1 ((npow x e).1).length c1, .slice none 0 0, .int .u64 0, .int .i64 0, .bool false, .int .i64 (npow x e).2]) (by simp [results, Tryd.results30, go_sem, hc1, hz]) rfl ?_
  exact ⟨A1, c1, none, 0, rfl, rd6 d1 HNR.out _ _ _ _ _ _, Rd.nil, below6 hbb (Nat.le_refl _) _ _ _ _ _ _⟩

set_option maxHeartbeats 2000000 in
theorem want_12 : Calls Tryd.prog 30 #[.int .i64 12, .slice A n c, .slice A' n' c', .int .u64 (v : Int), .int .i64 e] w (WantPost w (ansOf 12 (val X) (val Y) v e)) := by
  have hN := fun W hW hW' => wanted_12 A n c X A' n' c' Y v e W hW hn hm hW' hn' hm' hv he0 he1
  unfold DocE at hN
  obtain ⟨x, hx⟩ : ∃ x, val X = x := ⟨_, rfl⟩
  obtain ⟨y, hy⟩ : ∃ y, val Y = y := ⟨_, rfl⟩
  simp only [hx, hy] at hN ⊢
  have HN := Lib.hid hN
  have HR := Lib.hid (fun o => (h.below (below_new' w o) : Rd (w.alloc o) A X))
  have HR' := Lib.hid (fun o => (h'.below (below_new' w o) : Rd (w.alloc o) A' Y))
  have H0 := Lib.hid (fun o => (below_new' w o))
  clear hN hx hy hn hn' h h'
  go_enter Tryd.func30, Tryd.ntmps30
  go_wp2_with fail
  refine (HN.out _ (HR.out _) (HR'.out _)).mono ?_
  rintro en w1 ⟨A1, c1, rfl, d1, d2, d3, hb⟩
  have hc1 := bcell hb
  have hf1 := bfro hb
  have hz := hb.size
  have hbb := (H0.out _).trans (hb.mono (by simp))
  have hnr : ∀ i z, w1.cell? ⟨w.heap.size, i, none⟩ ≠ some (.int .u32 z) := fun i z => by rw [bcell hb w.heap.size i (by simp)]; exact res_not w i z
  have HNR := Lib.hid hnr
  clear hnr
  simp at hz
  go_wp2
  refine bodyPost_ret (v := .agg #[.slice A1 ((nshl x e).1).length c1, .slice none 0 0, .int .u64 0, .int .i64 0, .bool false, .int .i64 (nshl x e).2]) (by simp [results, Tryd.results30, go_sem, hc1, hz]) rfl ?_
  exact ⟨A1, c1, none, 0, rfl, rd6 d1 HNR.out _ _ _ _ _ _, Rd.nil, below6 hbb (Nat.le_refl _) _ _ _ _ _ _⟩

set_option maxHeartbeats 2000000 in
theorem want_9 : Calls Tryd.prog 30 #[.int .i64 9, .slice A n c, .slice A' n' c', .int .u64 (v : Int), .int .i64 e] w (WantPost w (ansOf 9 (val X) (val Y) v e)) := by
  have hN := fun W hW hW' => docQuo A n c X A' n' c' Y W hW hn hm hW' hn' hm'
  unfold DocQ at hN
  obtain ⟨x, hx⟩ : ∃ x, val X = x := ⟨_, rfl⟩
  obtain ⟨y, hy⟩ : ∃ y, val Y = y := ⟨_, rfl⟩
  simp only [hx, hy] at hN ⊢
  have HN := Lib.hid hN
  have HR := Lib.hid (fun o => (h.below (below_new' w o) : Rd (w.alloc o) A X))
  have HR' := Lib.hid (fun o => (h'.below (below_new' w o) : Rd (w.alloc o) A' Y))
  have H0 := Lib.hid (fun o => (below_new' w o))
  clear hN hx hy hn hn' h h'
  go_enter Tryd.func30, Tryd.ntmps30
  go_wp2_with fail
  refine (HN.out _ (HR.out _) (HR'.out _)).mono ?_
  rintro en w1 ⟨A1, c1, A2, c2, rfl, d1, -, -, d2, -, -, hb⟩
  have hc1 := bcell hb
  have hf1 := bfro hb
  have hz := hb.size
  have hbb := (H0.out _).trans (hb.mono (by simp))
  have hnr : ∀ i z, w1.cell? ⟨w.heap.size, i, none⟩ ≠ some (.int .u32 z) := fun i z => by rw [bcell hb w.heap.size i (by simp)]; exact res_not w i z
  have HNR := Lib.hid hnr
  clear hnr
  simp at hz
  go_wp2
  refine bodyPost_ret (v := .agg #[.slice A1 ((nquo x y).1).length c1, .slice A2 ((nquo x y).2.1).length c2, .int .u64 0, .int .i64 0, .bool false, .int .i64 (nquo x y).2.2]) (by simp [results, Tryd.results30, go_sem, hc1, hz]) rfl ?_
  exact ⟨A1, c1, A2, c2, rfl, rd6 d1 HNR.out _ _ _ _ _ _, rd6 d2 HNR.out _ _ _ _ _ _, below6 hbb (Nat.le_refl _) _ _ _ _ _ _⟩

set_option maxHeartbeats 2000000 in
theorem want_10 : Calls Tryd.prog 30 #[.int .i64 10, .slice A n c, .slice A' n' c', .int .u64 (v : Int), .int .i64 e] w (WantPost w (ansOf 10 (val X) (val Y) v e)) := by
  have hN := fun W hW => docRoot_n A n c X W hW hn hm
  unfold DocS at hN
  obtain ⟨x, hx⟩ : ∃ x, val X = x := ⟨_, rfl⟩
  obtain ⟨y, hy⟩ : ∃ y, val Y = y := ⟨_, rfl⟩
  simp only [hx, hy] at hN ⊢
  have HN := Lib.hid hN
  have HR := Lib.hid (fun o => (h.below (below_new' w o) : Rd (w.alloc o) A X))
  have HR' := Lib.hid (fun o => (h'.below (below_new' w o) : Rd (w.alloc o) A' Y))
  have H0 := Lib.hid (fun o => (below_new' w o))
  clear hN hx hy hn hn' h h'
  go_enter Tryd.func30, Tryd.ntmps30
  go_wp2_with fail
  refine (HN.out _ (HR.out _)).mono ?_
  rintro en w1 ⟨A1, c1, rfl, d1, d2, d3, hb⟩
  have hc1 := bcell hb
  have hf1 := bfro hb
  have hz := hb.size
  have hbb := (H0.out _).trans (hb.mono (by simp))
  have hnr : ∀ i z, w1.cell? ⟨w.heap.size, i, none⟩ ≠ some (.int .u32 z) := fun i z => by rw [bcell hb w.heap.size i (by simp)]; exact res_not w i z
  have HNR := Lib.hid hnr
  clear hnr
  simp at hz
  go_wp2
  refine bodyPost_ret (v := .agg #[.slice A1 ((nroot x).1).length c1, .slice none 0 0, .int .u64 0, .int .i64 0, .bool (nroot x).2.1, .int .i64 (nroot x).2.2]) (by simp [results, Tryd.results30, go_sem, hc1, hz]) rfl ?_
  exact ⟨A1, c1, none, 0, rfl, rd6 d1 HNR.out _ _ _ _ _ _, Rd.nil, below6 hbb (Nat.le_refl _) _ _ _ _ _ _⟩

set_option maxHeartbeats 2000000 in
theorem want_13 : Calls Tryd.prog 30 #[.int .i64 13, .slice A n c, .slice A' n' c', .int .u64 (v : Int), .int .i64 e] w (WantPost w (ansOf 13 (val X) (val Y) v e)) := by
  have hN := fun W hW => docShr A n c X W hW hn hm e he0 he1
  unfold DocS at hN
  obtain ⟨x, hx⟩ : ∃ x, val X = x := ⟨_, rfl⟩
  obtain ⟨y, hy⟩ : ∃ y, val Y = y := ⟨_, rfl⟩
  simp only [hx, hy] at hN ⊢
  have HN := Lib.hid hN
  have HR := Lib.hid (fun o => (h.below (below_new' w o) : Rd (w.alloc o) A X))
  have HR' := Lib.hid (fun o => (h'.below (below_new' w o) : Rd (w.alloc o) A' Y))
  have H0 := Lib.hid (fun o => (below_new' w o))
  clear hN hx hy hn hn' h h'
  go_enter Tryd.func30, Tryd.ntmps30
  go_wp2_with fail
  refine (HN.out _ (HR.out _)).mono ?_
  rintro en w1 ⟨A1, c1, rfl, d1, d2, d3, hb⟩
  have hc1 := bcell hb
  have hf1 := bfro hb
  have hz := hb.size
  have hbb := (H0.out _).trans (hb.mono (by simp))
  have hnr : ∀ i z, w1.cell? ⟨w.heap.size, i, none⟩ ≠ some (.int .u32 z) := fun i z => by rw [bcell hb w.heap.size i (by simp)]; exact res_not w i z
  have HNR := Lib.hid hnr
  clear hnr
  simp at hz
  go_wp2
  refine bodyPost_ret (v := .agg #[.slice A1 ((nshr x e).1).length c1, .slice none 0 0, .int .u64 0, .int .i64 0, .bool (nshr x e).2.1, .int .i64 (nshr x e).2.2]) (by simp [results, Tryd.results30, go_sem, hc1, hz]) rfl ?_
  exact ⟨A1, c1, none, 0, rfl, rd6 d1 HNR.out _ _ _ _ _ _, Rd.nil, below6 hbb (Nat.le_refl _) _ _ _ _ _ _⟩

end
end Go.Proofs.YtniogjkkhkibhaaDoor
