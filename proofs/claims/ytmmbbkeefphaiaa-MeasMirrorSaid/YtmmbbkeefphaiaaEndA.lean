/- vergeref6's bounds: Bound, Cmp. -/
import Derived.Test.YtmmbbkeefphaiaaRatC
import Derived.Test.YtmmbbkeefphaiaaMagA
namespace Go.Proofs.Ytmmbbkeefphaiaa
set_option linter.unusedVariables false
set_option linter.unusedSimpArgs false
open Go.RowKit Verge

/-- A bound's box. -/
def Box4 (w : World) (r : Nat) (a b c d : Value) : Prop := w.heap[r]? = some (.cells #[a, b, c, d] 68)
section
variable {w w' : World} {r : Nat} {a b c d : Value}
theorem Box4.new (w : World) (a b c d : Value) : Box4 (w.alloc (.cells #[a, b, c, d] 68)) w.heap.size a b c d := by
  show (w.heap.push _)[w.heap.size]? = _
  simp
theorem Box4.lt (h : Box4 w r a b c d) : r < w.heap.size := by
  by_cases hr : r < w.heap.size
  · exact hr
  · unfold Box4 at h; rw [Array.getElem?_eq_none (by omega)] at h; cases h
theorem Box4.later (h : Box4 w r a b c d) (hb : Below w.heap.size w w') : Box4 w' r a b c d := (hb.block r h.lt).trans h
theorem Box4.cells (h : Box4 w r a b c d) : w.cell? ⟨r, 0, none⟩ = some a ∧ w.cell? ⟨r, 1, none⟩ = some b ∧ w.cell? ⟨r, 2, none⟩ = some c ∧ w.cell? ⟨r, 3, none⟩ = some d ∧
    w.frozen? ⟨r, 0, none⟩ = false ∧ w.frozen? ⟨r, 1, none⟩ = false ∧ w.frozen? ⟨r, 2, none⟩ = false ∧ w.frozen? ⟨r, 3, none⟩ = false := by
  unfold Box4 at h
  refine ⟨?_, ?_, ?_, ?_, ?_, ?_, ?_, ?_⟩ <;> simp [World.cell?, World.frozen?, h]
end
theorem Box4.no {w : World} {r : Nat} {i : Int} {s : Bool} {A : Option Addr} {n c : Nat} {B : Option Addr} {m d : Nat} (h : Box4 w r (.int .i64 i) (.bool s) (.slice A n c) (.slice B m d)) : ∀ j z, w.cell? ⟨r, j, none⟩ ≠ some (.int .u32 z) := by
  intro j z e
  unfold Box4 at h
  simp only [World.cell?, h] at e
  rcases j with _ | _ | _ | _ | j <;> simp at e
def put4 (w : World) (r : Nat) (a b c d : Value) : World := (((w.setCell ⟨r, 0, none⟩ a).setCell ⟨r, 1, none⟩ b).setCell ⟨r, 2, none⟩ c).setCell ⟨r, 3, none⟩ d
theorem Rd.put4 {w : World} {r : Nat} {A : Option Addr} {xs : List Nat} (h : Rd w A xs) (hB : ∀ j z, w.cell? ⟨r, j, none⟩ ≠ some (.int .u32 z)) (a b c d : Value) : Rd (put4 w r a b c d) A xs :=
  h.apart hB fun k hk => (setb' _ r 3 d k hk).trans ((setb' _ r 2 c k hk).trans ((setb' _ r 1 b k hk).trans (setb' _ r 0 a k hk)))
theorem put4_below {B : Nat} {w0 w : World} {r : Nat} (h : Below B w0 w) (hr : B ≤ r) (a b c d : Value) : Below B w0 (put4 w r a b c d) := (((h.setCell hr a).setCell hr b).setCell hr c).setCell hr d

/-- What a call that answers a bound gives. -/
def EndP (w : World) (i : Int) (s : Bool) (N D : Nat) (e : Ending) (w' : World) : Prop :=
  ∃ A1 c1 A2 c2, e = .returned (.agg #[.int .i64 i, .bool s, .slice A1 (dig N).length c1, .slice A2 (dig D).length c2]) ∧ Rd w' A1 (dig N) ∧ Rd w' A2 (dig D) ∧ Below w.heap.size w w'

/-- The parts of a pattern's bound. -/
def bI (x : Nat) : Int := if x = 9218868437227405312 then 1 else if x = 18442240474082181120 then -1 else 0
def bS (x : Nat) : Bool := if x = 9218868437227405312 then false else if x = 18442240474082181120 then false else decide (9223372036854775808 < x)
def bN (x : Nat) : Nat := if x = 9218868437227405312 then 0 else if x = 18442240474082181120 then 0 else fbN x
def bD (x : Nat) : Nat := if x = 9218868437227405312 then 1 else if x = 18442240474082181120 then 1 else fbD x

set_option maxRecDepth 20000 in
set_option maxHeartbeats 2000000 in
theorem bound_any (x : Nat) (hx : x < 18446744073709551616) (hp : fplain x = x) (w : World) : Calls Try.prog 94 #[.int .u64 (x : Int)] w (EndP w (bI x) (bS x) (bN x) (bD x)) := by
  have HB0 := Lib.hid (rnew w (.cells #[.int .i64 0, .bool false, .slice none 0 0, .slice none 0 0] 68))
  have HC := Lib.hid (Box4.new w (.int .i64 0) (.bool false) (.slice none 0 0) (.slice none 0 0))
  have HI := Lib.hid (fun W => rint_any 0 (by omega) W)
  have HP := Lib.hid (fun W => plain3_any x hx W)
  have HF := Lib.hid (fun W => rbits_any x hx W)
  rw [hp] at HP
  unfold bI bS bN bD
  by_cases h1 : x = 9218868437227405312
  · rw [if_pos h1, if_pos h1, if_pos h1, if_pos h1]
    have hI : (x : Int) = 9218868437227405312 := by omega
    clear HP HF hp hx h1
    go_enter Try.func94, Try.ntmps94
    go_wp2_with fail
    refine (HI.out _).mono ?_
    rintro en w1 ⟨A1, c1, A2, c2, rfl, hR1, hR2, hb⟩
    have HC := Lib.hid (HC.out.later hb)
    have HW := Lib.hid (raft HB0.out hb)
    have HR1 := Lib.hid hR1
    have HR2 := Lib.hid hR2
    clear hR1 hR2 hb
    obtain ⟨b0, b1, b2, b3, f0, f1, f2, f3⟩ := HC.out.cells
    go_wp2
    refine bodyPost_ret (v := .agg #[.int .i64 1, .bool false, .slice A1 (dig 0).length c1, .slice A2 (dig 1).length c2]) (by simp [results, Try.results94, go_sem, b0, b1, b2, b3]) rfl ?_
    exact ⟨_, _, _, _, rfl, HR1.out.put4 HC.out.no _ _ _ _, HR2.out.put4 HC.out.no _ _ _ _, put4_below HW.out (Nat.le_refl _) _ _ _ _⟩
  · rw [if_neg h1, if_neg h1, if_neg h1, if_neg h1]
    have hI : ¬ (x : Int) = 9218868437227405312 := by omega
    by_cases h2 : x = 18442240474082181120
    · rw [if_pos h2, if_pos h2, if_pos h2, if_pos h2]
      have hI2 : (x : Int) = 18442240474082181120 := by omega
      have hXX := Lib.hid (And.intro hI hI2)
      clear HP HF hp hx h1 h2 hI
      have hI : ((x : Int) == 9218868437227405312) = false := by rw [hI2]; decide
      go_enter Try.func94, Try.ntmps94
      go_wp2_with fail
      refine (HI.out _).mono ?_
      rintro en w1 ⟨A1, c1, A2, c2, rfl, hR1, hR2, hb⟩
      have HC := Lib.hid (HC.out.later hb)
      have HW := Lib.hid (raft HB0.out hb)
      have HR1 := Lib.hid hR1
      have HR2 := Lib.hid hR2
      clear hR1 hR2 hb
      obtain ⟨b0, b1, b2, b3, f0, f1, f2, f3⟩ := HC.out.cells
      go_wp2
      refine bodyPost_ret (v := .agg #[.int .i64 (-1), .bool false, .slice A1 (dig 0).length c1, .slice A2 (dig 1).length c2]) (by simp [results, Try.results94, go_sem, b0, b1, b2, b3]) rfl ?_
      exact ⟨_, _, _, _, rfl, HR1.out.put4 HC.out.no _ _ _ _, HR2.out.put4 HC.out.no _ _ _ _, put4_below HW.out (Nat.le_refl _) _ _ _ _⟩
    · rw [if_neg h2, if_neg h2, if_neg h2, if_neg h2]
      have hI2 : ¬ (x : Int) = 18442240474082181120 := by omega
      clear hp hx h1 h2
      obtain ⟨sg, hs⟩ : ∃ sg, decide (9223372036854775808 < x) = sg := ⟨_, rfl⟩
      rw [hs] at HF ⊢
      clear hs
      go_enter Try.func94, Try.ntmps94
      go_wp2_with fail
      refine (HP.out _).mono ?_
      rintro en w1 ⟨rfl, rfl⟩
      go_wp2_with fail
      refine (HF.out _).mono ?_
      rintro en w1 ⟨A1, c1, A2, c2, rfl, hR1, hR2, hb⟩
      have HC := Lib.hid (HC.out.later hb)
      have HW := Lib.hid (raft HB0.out hb)
      have HR1 := Lib.hid hR1
      have HR2 := Lib.hid hR2
      clear hR1 hR2 hb
      obtain ⟨b0, b1, b2, b3, f0, f1, f2, f3⟩ := HC.out.cells
      go_wp2
      refine bodyPost_ret (v := .agg #[.int .i64 0, .bool sg, .slice A1 (dig (fbN x)).length c1, .slice A2 (dig (fbD x)).length c2]) (by simp [results, Try.results94, go_sem, b0, b1, b2, b3]) rfl ?_
      exact ⟨_, _, _, _, rfl, HR1.out.put4 HC.out.no _ _ _ _, HR2.out.put4 HC.out.no _ _ _ _, put4_below HW.out (Nat.le_refl _) _ _ _ _⟩

/-- Cmp's answer on two bounds. -/
def ecmp (i : Int) (s : Bool) (x y : Nat) (j : Int) (t : Bool) (u v : Nat) : Int := if i = j then (if i = 0 then rcmp s x y t u v else 0) else if i < j then -1 else 1

set_option maxRecDepth 20000 in
set_option maxHeartbeats 4000000 in
theorem ecmp_any (i j : Int) (s : Bool) (A : Option Addr) (n c : Nat) (X : List Nat) (B : Option Addr) (m d : Nat) (Y : List Nat) (t : Bool) (A' : Option Addr) (n' c' : Nat) (X' : List Nat) (B' : Option Addr) (m' d' : Nat) (Y' : List Nat) (w : World)
    (h : Rd w A X) (hn : X.length = n) (k : Rd w B Y) (hm : Y.length = m) (h' : Rd w A' X') (hn' : X'.length = n') (k' : Rd w B' Y') (hm' : Y'.length = m')
    (h1 : n + m' ≤ 35184372088800) (h2 : n' + m ≤ 35184372088800) :
    Calls Try.prog 63 #[.agg #[.int .i64 i, .bool s, .slice A n c, .slice B m d], .agg #[.int .i64 j, .bool t, .slice A' n' c', .slice B' m' d']] w fun e w' => e = .returned (.int .i64 (ecmp i s (val X) (val Y) j t (val X') (val Y'))) ∧ Below w.heap.size w w' := by
  have HR := Lib.hid (fun W (a1 : Rd W A X) (a2 : Rd W B Y) (a3 : Rd W A' X') (a4 : Rd W B' Y') => rrcmp_any s A n c X B m d Y t A' n' c' X' B' m' d' Y' W a1 hn a2 hm a3 hn' a4 hm' h1 h2)
  have HX := Lib.hid (And.intro (And.intro h k) (And.intro h' k'))
  have HB := Lib.hid (raft (rnew w (.cells #[.int .i64 i, .bool s, .slice A n c, .slice B m d] 68)) (rnew _ (.cells #[.int .i64 j, .bool t, .slice A' n' c', .slice B' m' d'] 68)))
  obtain ⟨r, hr⟩ : ∃ r, rcmp s (val X) (val Y) t (val X') (val Y') = r := ⟨_, rfl⟩
  unfold ecmp
  simp only [hr] at HR ⊢
  clear hr h hn k hm h' hn' k' hm' h1 h2
  by_cases e1 : i = j
  · rw [if_pos e1]
    by_cases e2 : i = 0
    · rw [if_pos e2]
      subst e1
      have hbeq : (i != 0) = false := by rw [e2]; rfl
      clear e2
      go_enter Try.func63, Try.ntmps63
      go_wp2_with fail
      refine (HR.out _ (HX.out.1.1.below HB.out) (HX.out.1.2.below HB.out) (HX.out.2.1.below HB.out) (HX.out.2.2.below HB.out)).mono ?_
      rintro en w1 ⟨rfl, hb⟩
      have HB := Lib.hid (raft HB.out hb)
      clear hb
      go_wp2
      go_ret
      exact ⟨rfl, HB.out⟩
    · rw [if_neg e2]
      subst e1
      go_enter Try.func63, Try.ntmps63
      go_wp2
      go_ret
      exact ⟨rfl, HB.out⟩
  · rw [if_neg e1]
    by_cases e2 : i < j
    · rw [if_pos e2]
      go_enter Try.func63, Try.ntmps63
      go_wp2
      go_ret
      exact ⟨rfl, HB.out⟩
    · rw [if_neg e2]
      go_enter Try.func63, Try.ntmps63
      go_wp2
      go_ret
      exact ⟨rfl, HB.out⟩
end Go.Proofs.Ytmmbbkeefphaiaa
