/- Contracts of vergeref2's ratios: RSign, RNeg, RCmp. -/
import Derived.Test.YtenoemjfoadgpaaDoorAns
namespace Go.Proofs.YtenoemjfoadgpaaDoor
set_option linter.unusedVariables false
set_option linter.unusedSimpArgs false
open Go.RowKit Verge

/-- A ratio as it is handed over. -/
abbrev ratV (s : Bool) (A : Option Addr) (n c : Nat) (B : Option Addr) (m d : Nat) : Value := .agg #[.bool s, .slice A n c, .slice B m d]
def rsgn (s : Bool) (n : Nat) : Int := if n = 0 then 0 else if s then -1 else 1

section
variable (s : Bool) (A : Option Addr) (n c : Nat) (X : List Nat) (B : Option Addr) (m d : Nat) (Y : List Nat) (w : World) (h : Rd w A X) (hn : X.length = n) (hnb : n ≤ 35184372088800)
include h hn hnb

theorem rsign_any : Calls Tryd.prog 34 #[ratV s A n c B m d] w fun e w' => e = .returned (.int .i64 (rsgn s (val X))) ∧ Below w.heap.size w w' := by
  have H1 := Lib.hid (fun W (hW : Rd W A X) => rnorm_any A n c X W hW hn hnb)
  have HB := Lib.hid (rnew w (.cells #[.bool s, .slice A n c, .slice B m d] 63))
  have HX := Lib.hid h
  have HC := Lib.hid (Box3.new w (.bool s) (.slice A n c) (.slice B m d))
  obtain ⟨x, hx⟩ : ∃ x, val X = x := ⟨_, rfl⟩
  simp only [hx] at H1 ⊢
  clear h hn hnb hx
  unfold rsgn
  by_cases h0 : x = 0
  · have hl : (dig x).length = 0 := by rw [h0, dig_zero]; rfl
    rw [if_pos h0]
    have H0 := Lib.hid h0
    clear h0
    go_enter Tryd.func34, Tryd.ntmps34
    go_wp2_with fail
    refine (H1.out _ (HX.out.below HB.out)).mono ?_
    rintro en w1 ⟨A1, c1, rfl, hR1, hl1, hm1, hb⟩
    have HW := Lib.hid (raft HB.out hb)
    obtain ⟨b0, b1, b2⟩ := (HC.out.later hb).cells
    clear hR1 hb
    rw [hl]
    go_wp2
    go_ret
    exact ⟨rfl, HW.out⟩
  · have hl : ¬ ((dig x).length : Int) = 0 := by have := dig_length_pos h0; omega
    rw [if_neg h0]
    clear h0
    cases s
    · go_enter Tryd.func34, Tryd.ntmps34
      go_wp2_with fail
      refine (H1.out _ (HX.out.below HB.out)).mono ?_
      rintro en w1 ⟨A1, c1, rfl, hR1, hl1, hm1, hb⟩
      have HW := Lib.hid (raft HB.out hb)
      obtain ⟨b0, b1, b2⟩ := (HC.out.later hb).cells
      clear hR1 hb
      go_wp2
      go_ret
      exact ⟨rfl, HW.out⟩
    · go_enter Tryd.func34, Tryd.ntmps34
      go_wp2_with fail
      refine (H1.out _ (HX.out.below HB.out)).mono ?_
      rintro en w1 ⟨A1, c1, rfl, hR1, hl1, hm1, hb⟩
      have HW := Lib.hid (raft HB.out hb)
      obtain ⟨b0, b1, b2⟩ := (HC.out.later hb).cells
      clear hR1 hb
      go_wp2
      go_ret
      exact ⟨rfl, HW.out⟩
end

theorem size_alloc1 (w : World) (o : Obj) : (w.alloc o).heap.size = w.heap.size + 1 := by simp
/-- RCmp's answer. -/
def rcmp (s : Bool) (x y : Nat) (t : Bool) (u v : Nat) : Int :=
  if rsgn s x < rsgn t u then -1 else if rsgn t u < rsgn s x then 1 else if x = 0 then 0 else if s then -cmp (x * v) (u * y) else cmp (x * v) (u * y)

end Go.Proofs.YtenoemjfoadgpaaDoor
