/- The document's own naturals (vergeref2): lists that are grown word by word; words, Long, Norm, Small. -/
import Derived.Test.YtiadjcilfljdaaaGreatDoorG02
import Derived.Test.YtiadjcilfljdaaaGreatDoorG05
import Derived.Test.YtiadjcilfljdaaaGreatDoorG01
import Derived.Test.YtiadjcilfljdaaaGreatDoorG06
import Derived.Deep.RegionWith
section
namespace Go.Proofs.YtiadjcilfljdaaaGreatDoor
set_option linter.unusedVariables false
set_option linter.unusedSimpArgs false
open Go.RowKit Verge

theorem take_succ_of' (X : List Nat) {i x : Nat} (hi : i < X.length) (hx : X.getD i 0 = x) : X.take (i + 1) = X.take i ++ [x] := by
  rw [List.take_add_one, get_of_lt X hi, hx]; rfl

/-- A list that the call itself has grown. -/
def Grow (w : World) (B : Nat) (v : Value) (xs : List Nat) : Prop := W32 xs ∧ w.ownsRow B 73 1 v xs.length (u32s xs)

theorem Grow.nil (w : World) (B : Nat) : Grow w B (.slice none 0 0) [] := ⟨W32.nil, World.ownsRow_nil w B _ 1⟩
theorem Grow.rd {w : World} {B : Nat} {v : Value} {xs : List Nat} (h : Grow w B v xs) : ∃ A c, v = .slice A xs.length c ∧ Rd w A xs ∧ xs.length ≤ c ∧ c ≤ maxLen := by
  obtain ⟨h32, hl, hv⟩ := h
  rcases hv with ⟨rfl, hn⟩ | ⟨g, cap, cur, rfl, _, hg, hc, hcap, hsz, ht⟩
  · rw [hn]
    exact ⟨none, 0, rfl, by rw [List.eq_nil_of_length_eq_zero hn]; exact Rd.nil, Nat.le_refl _, by decide⟩
  · refine ⟨_, cap, rfl, ⟨h32, fun hne => ⟨g, 0, rfl, fun k x hx => ?_⟩⟩, hc, hcap⟩
    rw [Nat.zero_add, cell_of_row w g k _ _ (0, 0) hg]
    have : (cur.toList.take (xs.length * 1))[k]? = some (Value.int .u32 (x : Int)) := by rw [ht, u32s_get, hx]; rfl
    rw [List.getElem?_take] at this
    split at this
    · simpa using this
    · cases this
theorem Grow.lt {w : World} {B : Nat} {v : Value} {xs : List Nat} (h : Grow w B v xs) : ∀ k, v.ownBlock = some k → B ≤ k := fun k hk => (h.2.lt k hk).1
theorem Grow.alloc {w : World} {B : Nat} {v : Value} {xs : List Nat} (h : Grow w B v xs) (o : Obj) : Grow (w.alloc o) B v xs := ⟨h.1, h.2.alloc o⟩

/-- append(l, x): a word is laid behind a list of the call's own. -/
theorem wpList_push {w : World} {ops : Array Oper} {rest : List Oper} {o : Oper} {a : Act} {Q : Exit → Act → World → Prop} (hgd : o.guard = none) (s x : Operand)
    (ho : o.op = .call { callee := .builtin .append, args := #[s, x], argTypes := #[50, 50] })
    (B : Nat) (v : Value) (xs : List Nat) (hs : a.eval s = v) (W : World) (zI : Int) (z : Nat) (hw : w = W.alloc (.cells #[.int .u32 zI] 73)) (hz : (z : Int) = zI) (hz32 : z < 4294967296) (hown : Grow W B v xs)
    (hx : a.eval x = .slice (some ⟨W.heap.size, 0, none⟩) 1 1) (hb : xs.length + 1 ≤ 35184372088832) (hB : B ≤ W.heap.size) (A : World) (hA : Below B A W)
    (h : ∀ v' w', Grow w' B v' (xs ++ [z]) → Below B A w' → wpList Tryz.prog ops Q rest (a.put o.dst v') w') : wpList Tryz.prog ops Q (o :: rest) a w := by
  subst hw hz
  obtain ⟨i0, hi, hz0, hz1, hz2⟩ := info_parts Tryz.info73
  refine wpList_append_own _ hgd s x 50 ho B 73 i0 (.int .u32 0) 1 4 Tryz.underlying50 hi hz0 hz1 hz2 rfl (by decide) v xs.length (u32s xs) hs (hown.alloc _).2
    ⟨W.heap.size, 0, none⟩ 1 1 [.int .u32 (z : Int)] hx rfl ?_ (by intro u hu; simp at hu; subst hu; rfl) (by unfold maxLen; omega) (by omega) (by simp; omega) ?_
  · intro j u hu
    rcases j with _ | j
    · simp at hu; subst hu
      rw [Addr.add, if_pos rfl]
      simp [World.cell?_alloc_new]
    · simp at hu
  · intro v' w' h1 h2 _
    refine h v' w' ⟨hown.1.append (W32.cons hz32 W32.nil), ?_⟩ ?_
    · rw [List.length_append]
      have e : u32s (xs ++ [z]) = u32s xs ++ [.int .u32 (z : Int)] := by simp [u32s]
      rw [e]; exact h1
    · exact (hA.alloc hB _).grown h2 (by simp; omega) (fun k hk => hown.lt k hk)

/-- What a call of the document's answers: a list of x's own words, in new memory. -/
def Doc (w : World) (x : Nat) (e : Ending) (w' : World) : Prop := ∃ A c, e = .returned (.slice A (dig x).length c) ∧ Rd w' A (dig x) ∧ (dig x).length ≤ c ∧ c ≤ maxLen ∧ Below w.heap.size w w'

set_option maxHeartbeats 1000000 in
/-- Norm: the words without noughts at the top, in a new list. -/
theorem rnorm_any (A : Option Addr) (n c : Nat) (X : List Nat) (w : World) (h : Rd w A X) (hn : X.length = n) (hm : n ≤ 35184372088800) :
    Calls Tryz.prog 85 #[.slice A n c] w (Doc w (val X)) := by
  have hD := dig_val h.1
  have hR := Lib.hid (fun W (hb : Below w.heap.size w W) => h.below hb)
  have hle := wl_le X
  have H1 := Lib.hid (And.intro hn (And.intro h hD))
  clear h hn hD
  go_enter Tryz.func85, Tryz.ntmps85
  go_wp2
  go_loop [3] (fun v => ∃ k : Nat, k ≤ n ∧ v = .int .i64 k ∧ Hid (∀ j x : Nat, k ≤ j → X[j]? = some x → x = 0)) (fun v => (intOf v).toNat)
  case atStart => exact ⟨n, Nat.le_refl _, rfl, fun j x hj hx => by rw [List.getElem?_eq_none (by have := H1.out.1; omega)] at hx; cases hx⟩
  case round =>
    obtain ⟨k, hk, rfl, hz⟩ := hrel
    by_cases hcont : ∃ j, k = j + 1 ∧ X[j]? = some 0
    · obtain ⟨j, rfl, hx⟩ := hcont
      obtain ⟨b, o, rfl, hc⟩ := (H1.out.2.1).2 (by rintro rfl; simp at hx)
      have hcell := hc j 0 hx
      have HX := Lib.hid hx; clear hx hc
      go_wp2
      go_round
      case rel => exact ⟨j, by omega, by go_num, fun i y hi hy => by
        rcases Nat.eq_or_lt_of_le hi with h | h
        · subst h; rw [HX.out] at hy; simpa using hy.symm
        · exact hz.out i y h hy⟩
      case measure => simp [intOf]
    · have hkw : wl X = k := wl_of X k (by have := H1.out.1; omega) (fun i x hi hx => hz.out i x hi hx) (fun j x hj hx hx0 => hcont ⟨j, hj, by rw [hx, hx0]⟩)
      have HK := Lib.hid hkw; clear hkw hz
      rcases Nat.eq_zero_or_pos k with hk0 | hk0
      · subst hk0
        clear hcont
        go_wp2
        go_loopw [4, 5] (fun v iv wr => v = .slice none 0 0 ∧ iv = .int .i64 0 ∧ wr = w) (fun _ _ _ => 0)
        case atStart => exact ⟨rfl, rfl, rfl⟩
        case round =>
          obtain ⟨rfl, rfl, rfl⟩ := hrel
          go_wp2
          go_ret
          have hd : dig (val X) = [] := by
            rw [H1.out.2.2, norm, HK.out]; rfl
          rw [Doc, hd]
          exact ⟨none, 0, rfl, Rd.nil, Nat.le_refl _, by decide, Below.refl _ _⟩
      · obtain ⟨b, o, rfl, hc⟩ := (H1.out.2.1).cells (by have := H1.out.1; omega)
        obtain ⟨j, rfl⟩ : ∃ j, k = j + 1 := ⟨k - 1, by omega⟩
        have hcell := hc j (by have := H1.out.1; omega)
        have hne : ((X.getD j 0 : Nat) : Int) ≠ 0 := by
          intro e
          exact hcont ⟨j, rfl, by rw [get_of_lt X (by have := H1.out.1; omega)]; congr 1; omega⟩
        obtain ⟨y, hy⟩ : ∃ y, X.getD j 0 = y := ⟨_, rfl⟩
        rw [hy] at hcell hne
        have hyb : ((y : Int) == 0) = false := by rw [beq_eq_false_iff_ne]; exact hne
        clear hcont hne hy hc
        go_wp2
        clear hyb hcell
        go_loopw [4, 5] (fun v iv wr => ∃ i : Nat, i ≤ j + 1 ∧ iv = .int .i64 i ∧ Grow wr w.heap.size v (X.take i) ∧ Below w.heap.size w wr) (fun _ iv _ => j + 1 - (intOf iv).toNat)
        case atStart => exact ⟨0, by omega, rfl, by rw [List.take_zero]; exact Grow.nil _ _, Below.refl _ _⟩
        case round =>
          obtain ⟨i, hi, rfl, hG, hb⟩ := hrel
          by_cases hij : i < j + 1
          · obtain ⟨b2, o2, he, hcx⟩ := (hR.out _ hb).cell (k := i) (by have := H1.out.1; omega)
            simp only [Option.some.injEq, Addr.mk.injEq, and_true] at he
            obtain ⟨rfl, rfl⟩ := he
            have hx32 := (hR.out _ hb).1.getD i
            obtain ⟨x, hgx⟩ : ∃ x, X.getD i 0 = x := ⟨_, rfl⟩
            rw [hgx] at hcx hx32
            have HGX := Lib.hid hgx; clear hgx
            have hsz := hb.size
            have hlen : (X.take i).length + 1 ≤ 35184372088832 := by rw [List.length_take]; omega
            have hin : (i : Int) < (n : Int) := by omega
            go_wp2_with (refine wpList_push rfl _ _ rfl w.heap.size _ (X.take i) rfl wr _ x rfl rfl hx32 hG rfl hlen hsz w hb ?_; intro v' w1 hG1 hb1)
            go_roundw
            case rel => exact ⟨i + 1, by omega, by go_num, by rw [take_succ_of' X (by have := H1.out.1; omega) HGX.out]; exact hG1, hb1⟩
            case measure => simp [intOf]; omega
          · obtain rfl : i = j + 1 := by omega
            go_wp2
            go_ret
            have hd : dig (val X) = X.take (j + 1) := by rw [H1.out.2.2, norm, HK.out]
            obtain ⟨A1, c1, rfl, hR1, hc1, hm1⟩ := hG.rd
            rw [Doc, hd]
            exact ⟨A1, c1, rfl, hR1, hc1, hm1, hb⟩
end Go.Proofs.YtiadjcilfljdaaaGreatDoor
end

section
namespace Go.Proofs.YtiadjcilfljdaaaGreatDoor
set_option linter.unusedVariables false
set_option linter.unusedSimpArgs false
open Go.RowKit Verge

theorem rsmall_any (v : Nat) (w : World) (h : v < 18446744073709551616) : Calls Tryz.prog 54 #[.int .u64 (v : Int)] w (Doc w v) := by
  have hm := mask64 v h
  have hm' : Go.bits .and .u64 (v : Int) 4294967295 = (v : Int) % 4294967296 := by rw [hm]; omega
  have hW : W32 [v % 4294967296, v / 4294967296] := W32.cons (by omega) (W32.cons (by omega) W32.nil)
  have hB := Blk.new w #[.int .u32 ((v : Int) % 4294967296), .int .u32 ((v : Int) / 4294967296)] [v % 4294967296, v / 4294967296] hW rfl
  have hv : val [v % 4294967296, v / 4294967296] = v := by simp; omega
  have HN := rnorm_any _ 2 2 _ _ hB.rd rfl (by omega)
  rw [hv] at HN
  have HNN := Lib.hid HN
  clear hm hW hB hv HN
  go_enter Tryz.func54, Tryz.ntmps54
  go_wp2_with (go_at_call 85; refine HNN.out.mono ?_; rintro e w' ⟨A1, c1, rfl, h1, h2, h3, h4⟩)
  go_ret
  exact ⟨A1, c1, rfl, h1, h2, h3, (Below.refl _ w).alloc (Nat.le_refl _) _ |>.trans (h4.mono (by simp))⟩

section
variable (A : Option Addr) (n c : Nat) (X : List Nat) (w : World) (h : Rd w A X) (hn : X.length = n) (hm : n ≤ 140737488355328)
include h hn hm

end
end Go.Proofs.YtiadjcilfljdaaaGreatDoor
end

section
namespace Go.Proofs.YtiadjcilfljdaaaGreatDoor
set_option linter.unusedVariables false
set_option linter.unusedSimpArgs false
open Go.RowKit Verge

section
variable (A : Option Addr) (n c : Nat) (X : List Nat) (A' : Option Addr) (n' c' : Nat) (Y : List Nat) (w : World) (h : Rd w A X) (hn : X.length = n) (h' : Rd w A' Y) (hn' : Y.length = n')
include h hn h' hn'

end
end Go.Proofs.YtiadjcilfljdaaaGreatDoor

/- The document's own naturals: Times. -/
namespace Go.Proofs.YtiadjcilfljdaaaGreatDoor
set_option linter.unusedVariables false
set_option linter.unusedSimpArgs false
open Go.RowKit Verge

end Go.Proofs.YtiadjcilfljdaaaGreatDoor
end

section
namespace Go.Proofs.YtiadjcilfljdaaaGreatDoor
set_option linter.unusedVariables false
set_option linter.unusedSimpArgs false
open Go.RowKit Verge

/-- What Right answers. -/
def RightPost (w : World) (v e : Nat) : Ending → World → Prop := fun en w' =>
  ∃ A c, en = .returned (.tuple #[.slice A (dig (v / 2 ^ e)).length c, .bool (decide (v % 2 ^ e ≠ 0))]) ∧ Rd w' A (dig (v / 2 ^ e)) ∧ (dig (v / 2 ^ e)).length ≤ c ∧ c ≤ maxLen ∧ Below w.heap.size w w'

end Go.Proofs.YtiadjcilfljdaaaGreatDoor

/- The document's own naturals: sub, guess. -/
namespace Go.Proofs.YtiadjcilfljdaaaGreatDoor
set_option linter.unusedVariables false
set_option linter.unusedSimpArgs false
open Go.RowKit Verge

theorem rgrown_refl (w : World) (row : Option Nat) : w.grownBy w row := ⟨rfl, rfl, rfl, Nat.le_refl _, fun _ _ _ => rfl⟩
theorem rgrown_set {w w' : World} {g : Nat} (h : w.grownBy w' (some g)) (i : Nat) (u : Value) : w.grownBy (w'.setCell ⟨g, i, none⟩ u) (some g) :=
  ⟨h.os, h.tape, h.output, by simpa using h.size, fun k hk hne => by
    rw [← h.block k hk hne]
    exact Below.heap_setCell w' ⟨g, i, none⟩ u k (fun e => hne (by rw [e]))⟩

end Go.Proofs.YtiadjcilfljdaaaGreatDoor
end

section
namespace Go.Proofs.YtiadjcilfljdaaaGreatDoor
set_option linter.unusedVariables false
set_option linter.unusedSimpArgs false
open Go.RowKit Verge

/-- What By answers: the quotient and the rest. -/
def ByPost (w : World) (q r : Nat) : Ending → World → Prop := fun en w' =>
  ∃ A c A' c', en = .returned (.tuple #[.slice A (dig q).length c, .slice A' (dig r).length c']) ∧ Rd w' A (dig q) ∧ (dig q).length ≤ c ∧ c ≤ maxLen ∧ Rd w' A' (dig r) ∧ (dig r).length ≤ c' ∧ c' ≤ maxLen ∧ Below w.heap.size w w'

section
variable (A : Option Addr) (n c : Nat) (X : List Nat) (A' : Option Addr) (n' c' : Nat) (Y : List Nat) (w : World) (h : Rd w A X) (hn : X.length = n) (h' : Rd w A' Y) (hn' : Y.length = n') (hm : n ≤ 35184372088700) (hm' : n' ≤ 35184372088700)
include h hn h' hn' hm hm'

end
end Go.Proofs.YtiadjcilfljdaaaGreatDoor
end

section
namespace Verge
set_option linter.unusedVariables false
set_option linter.unusedSimpArgs false

/-- The exponent that is left when the powers of 2 are taken out. -/
def fracE (n d : Nat) (e : Int) : Int := e + ntz n - ntz d
def fracN (n d : Nat) (e : Int) : Nat := if n = 0 then 0 else (n / 2 ^ ntz n) * 2 ^ (fracE n d e).toNat
def fracD (n d : Nat) (e : Int) : Nat := if n = 0 then 1 else (d / 2 ^ ntz d) * 2 ^ (-(fracE n d e)).toNat

theorem dig_div_length (n k : Nat) : (dig (n / 2 ^ k)).length + k / 32 ≤ (dig n).length ∨ n / 2 ^ k = 0 := by
  by_cases h0 : n / 2 ^ k = 0
  · exact .inr h0
  · left
    have hp := dig_le_pow h0
    have hl := dig_length_pos h0
    have h1 : 4294967296 ^ ((dig (n / 2 ^ k)).length - 1) * 2 ^ k ≤ n := Nat.le_trans (Nat.mul_le_mul_right _ hp) (Nat.div_mul_le_self _ _)
    have h2 : (4294967296 : Nat) ^ ((dig (n / 2 ^ k)).length - 1 + k / 32) ≤ n := by
      refine Nat.le_trans ?_ h1
      rw [Nat.pow_add]
      refine Nat.mul_le_mul_left _ ?_
      rw [show (4294967296 : Nat) = 2 ^ 32 from rfl, ← Nat.pow_mul]
      exact Nat.pow_le_pow_right (by omega) (by omega)
    have h3 : ¬ (dig n).length ≤ (dig (n / 2 ^ k)).length - 1 + k / 32 := fun h => by
      have := dig_length_le.1 h
      omega
    omega
theorem ntz_words_le (n : Nat) : ntz n / 32 ≤ (dig n).length := by
  by_cases h : n = 0
  · subst h; rw [ntz_zero]; omega
  · obtain ⟨m, hm⟩ := ntz_spec n h
    have h1 : n / 2 ^ ntz n ≠ 0 := by
      have h2 := Nat.two_pow_pos (ntz n)
      have : n / 2 ^ ntz n = 2 * m + 1 := Nat.div_eq_of_eq_mul_right h2 hm
      omega
    rcases dig_div_length n (ntz n) with h2 | h2
    · omega
    · exact absurd h2 h1

/-- The ratio of n and d, times 2 to the e, is that of what Frac makes of them. -/
theorem frac_val (n d : Nat) (e : Int) (hd : d ≠ 0) (k : Nat) (hk : 0 ≤ (k : Int) + e) : fracN n d e * d * 2 ^ k = n * fracD n d e * 2 ^ ((k : Int) + e).toNat := by
  unfold fracN fracD
  by_cases hn : n = 0
  · simp [hn]
  · rw [if_neg hn, if_neg hn]
    obtain ⟨m, hm⟩ := ntz_spec n hn
    obtain ⟨l, hl⟩ := ntz_spec d hd
    have e1 : n / 2 ^ ntz n = 2 * m + 1 := Nat.div_eq_of_eq_mul_right (Nat.two_pow_pos _) hm
    have e2 : d / 2 ^ ntz d = 2 * l + 1 := Nat.div_eq_of_eq_mul_right (Nat.two_pow_pos _) hl
    rw [e1, e2]
    unfold fracE
    obtain ⟨a, ha⟩ : ∃ a, ntz n = a := ⟨_, rfl⟩
    obtain ⟨b, hb⟩ : ∃ b, ntz d = b := ⟨_, rfl⟩
    rw [ha] at hm ⊢
    rw [hb] at hl ⊢
    rw [hm, hl]
    obtain ⟨u, hu⟩ : ∃ u, (e + a - b).toNat = u := ⟨_, rfl⟩
    obtain ⟨v, hv⟩ : ∃ v, (-(e + a - b)).toNat = v := ⟨_, rfl⟩
    obtain ⟨t, ht⟩ : ∃ t, ((k : Int) + e).toNat = t := ⟨_, rfl⟩
    rw [hu, hv, ht]
    have hs : u + b + k = a + v + t := by omega
    have h1 : (2 * m + 1) * 2 ^ u * (2 ^ b * (2 * l + 1)) * 2 ^ k = (2 * m + 1) * (2 * l + 1) * 2 ^ (u + b + k) := by rw [Nat.pow_add, Nat.pow_add]; grind
    have h2 : 2 ^ a * (2 * m + 1) * ((2 * l + 1) * 2 ^ v) * 2 ^ t = (2 * m + 1) * (2 * l + 1) * 2 ^ (a + v + t) := by rw [Nat.pow_add, Nat.pow_add]; grind
    rw [h1, h2, hs]
theorem fracD_pos (n d : Nat) (e : Int) (hd : d ≠ 0) : 0 < fracD n d e := by
  unfold fracD
  split
  · omega
  · obtain ⟨l, hl⟩ := ntz_spec d hd
    have e2 : d / 2 ^ ntz d = 2 * l + 1 := Nat.div_eq_of_eq_mul_right (Nat.two_pow_pos _) hl
    rw [e2]
    exact Nat.mul_pos (by omega) (Nat.two_pow_pos _)
theorem fracN_zero (n d : Nat) (e : Int) : fracN n d e = 0 ↔ n = 0 := by
  unfold fracN
  split
  · rename_i h; simp [h]
  · rename_i h
    obtain ⟨m, hm⟩ := ntz_spec n h
    have e1 : n / 2 ^ ntz n = 2 * m + 1 := Nat.div_eq_of_eq_mul_right (Nat.two_pow_pos _) hm
    rw [e1]
    have := Nat.mul_pos (show 0 < 2 * m + 1 by omega) (Nat.two_pow_pos (fracE n d e).toNat)
    omega
theorem fracN_wl {n d : Nat} {e : Int} (he : 0 < fracE n d e) : (fracE n d e).toNat / 32 + (dig (n / 2 ^ ntz n)).length + 1 ≤ e.toNat / 32 + (dig n).length + 3 := by
  have h1 : (fracE n d e).toNat ≤ e.toNat + ntz n := by unfold fracE at he ⊢; omega
  rcases dig_div_length n (ntz n) with h | h
  · omega
  · rw [h, dig_zero]
    have := ntz_words_le n
    simp only [List.length_nil]
    omega
theorem fracD_wl {n d : Nat} {e : Int} (he : fracE n d e < 0) : (-(fracE n d e)).toNat / 32 + (dig (d / 2 ^ ntz d)).length + 1 ≤ (-e).toNat / 32 + (dig d).length + 3 := by
  have h1 : (-(fracE n d e)).toNat ≤ (-e).toNat + ntz d := by unfold fracE at he ⊢; omega
  rcases dig_div_length d (ntz d) with h | h
  · omega
  · rw [h, dig_zero]
    have := ntz_words_le d
    simp only [List.length_nil]
    omega
end Verge

/- Contracts of vergeref2's ratios: Frac. -/
namespace Go.Proofs.YtiadjcilfljdaaaGreatDoor
set_option linter.unusedVariables false
set_option linter.unusedSimpArgs false
open Go.RowKit Verge

theorem rnew (W : World) (o : Obj) : Below W.heap.size W (W.alloc o) := (Below.refl _ W).alloc (Nat.le_refl _) o
theorem raft {a b c : World} (h1 : Below a.heap.size a b) (h2 : Below b.heap.size b c) : Below a.heap.size a c := h1.trans (h2.mono h1.size)
theorem rfroz {B : Nat} {W w1 : World} (hb : Below B W w1) : ∀ b o, b < B → w1.frozen? ⟨b, o, none⟩ = W.frozen? ⟨b, o, none⟩ := fun b o h => hb.frozen (p := ⟨b, o, none⟩) h
theorem setb' (w : World) (r i : Nat) (u : Value) (b : Nat) (h : b ≠ r) : (w.setCell ⟨r, i, none⟩ u).heap[b]? = w.heap[b]? := Below.heap_setCell w ⟨r, i, none⟩ u b h

theorem Rd.apart {w w' : World} {r : Nat} {A : Option Addr} {xs : List Nat} (h : Rd w A xs) (hr : ∀ i z, w.cell? ⟨r, i, none⟩ ≠ some (.int .u32 z)) (hk : ∀ b, b ≠ r → w'.heap[b]? = w.heap[b]?) : Rd w' A xs := by
  refine ⟨h.1, fun hn => ?_⟩
  obtain ⟨b, o, rfl, hc⟩ := h.2 hn
  refine ⟨b, o, rfl, fun k x hx => ?_⟩
  have hb : b ≠ r := by
    rintro rfl
    exact hr _ _ (hc k x hx)
  have e := World.cell?_of_block (w := w) (w' := w') (a := ⟨b, o + k, none⟩) (hk b hb)
  rw [e]
  exact hc k x hx

/-- A ratio laid into its box. -/
def put3 (w : World) (r : Nat) (a b c : Value) : World := ((w.setCell ⟨r, 0, none⟩ a).setCell ⟨r, 1, none⟩ b).setCell ⟨r, 2, none⟩ c
theorem put3_below {B : Nat} {w0 w : World} {r : Nat} (h : Below B w0 w) (hr : B ≤ r) (a b c : Value) : Below B w0 (put3 w r a b c) := ((h.setCell hr a).setCell hr b).setCell hr c

/-- What a call that answers a ratio gives: its sign, and the lists of its two numbers. -/
def RatP (w : World) (s : Bool) (N D : Nat) (e : Ending) (w' : World) : Prop :=
  ∃ A1 c1 A2 c2, e = .returned (.agg #[.bool s, .slice A1 (dig N).length c1, .slice A2 (dig D).length c2]) ∧ Rd w' A1 (dig N) ∧ Rd w' A2 (dig D) ∧ Below w.heap.size w w'

theorem val_dig' (n : Nat) : val (dig n) = n := val_dig n
theorem dig_one : dig 1 = [1] := by rw [dig]; simp [dig_zero]

end Go.Proofs.YtiadjcilfljdaaaGreatDoor
end

section
namespace Go.Proofs.YtiadjcilfljdaaaGreatDoor
set_option linter.unusedVariables false
set_option linter.unusedSimpArgs false
open Go.RowKit Verge

section
variable {w w' : World} {r : Nat} {a b c : Value}
end

theorem frac_one (v : Nat) : fracN v 1 0 = v ∧ fracD v 1 0 = 1 := by
  have h1 : ntz 1 = 0 := ntz_of 1 0 0 (by simp)
  unfold fracN fracD fracE
  by_cases h : v = 0
  · simp [h]
  · obtain ⟨m, hm⟩ := ntz_spec v h
    have e1 : v / 2 ^ ntz v = 2 * m + 1 := Nat.div_eq_of_eq_mul_right (Nat.two_pow_pos _) hm
    rw [if_neg h, if_neg h, h1, e1]
    have h2 : ((0 : Int) + (ntz v : Nat) - (0 : Nat)).toNat = ntz v := by omega
    have h3 : (-((0 : Int) + (ntz v : Nat) - (0 : Nat))).toNat = 0 := by omega
    rw [h2, h3]
    refine ⟨?_, by simp⟩
    rw [Nat.mul_comm]; exact hm.symm

theorem val_one : val [1] = 1 := by simp [val]

/-- FromBits: the fraction and the exponent. -/
def fbF (b : Nat) : Nat := if b % 9223372036854775808 < 4503599627370496 then b % 4503599627370496 else 4503599627370496 + b % 4503599627370496
def fbE (b : Nat) : Nat := b % 9223372036854775808 / 4503599627370496 - 1
def fbN (b : Nat) : Nat := fracN (fbF b) 1 ((fbE b : Int) - 1074)
def fbD (b : Nat) : Nat := fracD (fbF b) 1 ((fbE b : Int) - 1074)
theorem fb_val (b K : Nat) (hK : K = 1074) : fbN b * 2 ^ K = FV (b % 9223372036854775808) * fbD b := by
  have h := frac_val (fbF b) 1 ((fbE b : Int) - 1074) (by omega) K (by omega)
  have e : ((K : Int) + ((fbE b : Int) - 1074)).toNat = fbE b := by omega
  rw [e, Nat.mul_one] at h
  unfold fbN fbD
  rw [h]
  have : FV (b % 9223372036854775808) = fbF b * 2 ^ fbE b := by
    unfold FV fbF fbE
    have hm : b % 9223372036854775808 % 4503599627370496 = b % 4503599627370496 := by omega
    by_cases hl : b % 9223372036854775808 < 4503599627370496
    · rw [if_pos hl, if_pos hl, Nat.div_eq_of_lt hl]; simp; omega
    · rw [if_neg hl, if_neg hl, hm]
  rw [this]; grind
theorem fbD_pos (b : Nat) : 0 < fbD b := fracD_pos _ _ _ (by omega)
theorem fbN_zero (b : Nat) : fbN b = 0 ↔ b % 9223372036854775808 = 0 := by
  obtain ⟨K, hK⟩ : ∃ K : Nat, K = 1074 := ⟨_, rfl⟩
  have h := fb_val b K hK
  have hd := fbD_pos b
  have hp := Nat.two_pow_pos K
  constructor
  · intro h0
    rw [h0, Nat.zero_mul] at h
    have h1 : FV (b % 9223372036854775808) = 0 := by
      rcases Nat.mul_eq_zero.1 h.symm with h2 | h2
      · exact h2
      · omega
    exact FV_inj (h1.trans FV_zero.symm)
  · intro h0
    rw [h0, FV_zero, Nat.zero_mul] at h
    rcases Nat.mul_eq_zero.1 h with h2 | h2
    · exact h2
    · omega
theorem fbF_lt (b : Nat) : fbF b < 9007199254740992 := by unfold fbF; split <;> omega

end Go.Proofs.YtiadjcilfljdaaaGreatDoor
end
