/- vergelaw2.alike, and lists of lists. -/
import Derived.Test.YtniogjkkhkibhaaDoorHeldC
namespace Go.Proofs.YtniogjkkhkibhaaDoor
set_option linter.unusedVariables false
set_option linter.unusedSimpArgs false
open Go.RowKit Verge

set_option maxHeartbeats 1000000 in
/-- alike: two records that read alike. -/
theorem alike_any (A A2 B B2 : Option Addr) (c c2 d d2 : Nat) (l m : List Nat) (wv nv : Int) (bv : Bool) (ev : Int) (w : World) (h1 : Rd w A l) (h2 : Rd w A2 m) (h3 : Rd w B l) (h4 : Rd w B2 m) (hl : l.length ≤ 140737488355328) (hm : m.length ≤ 140737488355328) :
    Calls Tryd.prog 31 #[.agg #[.slice A l.length c, .slice A2 m.length c2, .int .u64 wv, .int .i64 nv, .bool bv, .int .i64 ev], .agg #[.slice B l.length d, .slice B2 m.length d2, .int .u64 wv, .int .i64 nv, .bool bv, .int .i64 ev]] w
      fun en w' => en = .returned (.bool true) ∧ Below w.heap.size w w' := by
  have hb := fun o o' => ((below_new' w o).alloc (by simp) o' : Below w.heap.size w ((w.alloc o).alloc o'))
  have hs1 := fun W (hW : Below w.heap.size w W) => same_any A l.length c l B l.length d l W (h1.below hW) rfl hl (h3.below hW) rfl hl
  have hs2 := fun W (hW : Below w.heap.size w W) => same_any A2 m.length c2 m B2 m.length d2 m W (h2.below hW) rfl hm (h4.below hW) rfl hm
  obtain ⟨n, hn⟩ : ∃ n, l.length = n := ⟨_, rfl⟩
  obtain ⟨k, hk⟩ : ∃ k, m.length = k := ⟨_, rfl⟩
  simp only [hn, hk] at hs1 hs2 ⊢
  have HB := Lib.hid hb
  have HS1 := Lib.hid hs1
  have HS2 := Lib.hid hs2
  clear hb hs1 hs2 hn hk h1 h2 h3 h4 hl hm
  have tk1 : True := trivial
  have tk2 : True := trivial
  go_enter Tryd.func31, Tryd.ntmps31
  go_wp2_with (first
    | (go_at_call 18; have _t := tk1; clear tk1 _t; refine (HS1.out _ (HB.out _ _)).mono ?_; rintro en w1 ⟨rfl, q1, rfl⟩)
    | (go_at_call 18; have _t := tk2; clear tk2 _t; refine (HS2.out _ (below_drewN (HB.out _ _) q1)).mono ?_; rintro en w2 ⟨rfl, q2, rfl⟩))
  go_ret
  exact ⟨by simp, by first | exact below_drewN (below_drewN (HB.out _ _) q1) q2 | exact below_drewN (HB.out _ _) _⟩
end Go.Proofs.YtniogjkkhkibhaaDoor
