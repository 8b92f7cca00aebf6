/- vergelaw2.apart: lists that lie apart. -/
import Derived.Test.YtniogjkkhkibhaaDoorHeldE
import Derived.BigQuiet
namespace Go.Proofs.YtniogjkkhkibhaaDoor
set_option linter.unusedVariables false
set_option linter.unusedSimpArgs false
open Go.RowKit Verge

set_option maxHeartbeats 1000000 in
theorem full_q (A : Option Addr) (n c m : Nat) (mI k : Int) (w : World) (h : Rd w A (List.replicate n m)) (hmI : (m : Int) = mI) (hk : (n : Int) = k) (hm : n ≤ 140737488355328) :
    Calls Tryd.prog 68 #[.slice A n c, .int .u32 mI, .int .i64 k] w fun e w' => e = .returned (.bool true) ∧ w = w' := by
  subst hk hmI
  have HH := Lib.hid h
  clear h
  go_enter Tryd.func68, Tryd.ntmps68
  go_wp2
  go_loop [7] (fun iv => ∃ i : Nat, i ≤ n ∧ iv = .int .i64 i) (fun iv => n - (intOf iv).toNat)
  case atStart => exact ⟨0, by omega, rfl⟩
  case round =>
    obtain ⟨i, hi, rfl⟩ := hrel
    by_cases hin : i < n
    · obtain ⟨b, o, rfl, hcx⟩ := HH.out.cell (k := i) (by simpa using hin)
      have e : (List.replicate n m).getD i 0 = m := by rw [List.getD_eq_getElem?_getD, List.getElem?_replicate, if_pos hin]; rfl
      rw [e] at hcx
      clear e
      go_wp2
      go_round
      case rel => exact ⟨i + 1, by omega, by go_num⟩
      case measure => simp [intOf]; omega
    · obtain rfl : i = n := by omega
      go_wp2
      go_ret
      exact ⟨rfl, rfl⟩

theorem w48 (m : Nat) (hm : m < 4294967296) : W32 (List.replicate 48 m) := fun y hy => by
  rw [List.mem_replicate] at hy; omega

theorem lit_rd (W : World) (cs : Array Value) (xs : List Nat) (hx : W32 xs) (e : cs.toList = u32s xs) : Rd (W.alloc (.cells cs 23)) (some ⟨W.heap.size, 0, none⟩) xs := (Blk.new W cs xs hx e).rd
theorem Rd.alloc {w : World} {A : Option Addr} {xs : List Nat} (h : Rd w A xs) (o : Obj) : Rd (w.alloc o) A xs := h.below ((Below.refl _ _).alloc (Nat.le_refl _) _)
theorem Grow.mono {w : World} {B B' : Nat} {v : Value} {xs : List Nat} (h : Grow w B v xs) (hB : B' ≤ B) : Grow w B' v xs := ⟨h.1, h.2.1, h.2.2.imp id fun ⟨g, cap, cur, h1, h2, h3⟩ => ⟨g, cap, cur, h1, Nat.le_trans hB h2, h3⟩⟩
theorem Grow.one {w : World} {B : Nat} {v : Value} {xs : List Nat} (h : Grow w B v xs) : v.oneCell' = true := by
  obtain ⟨A, c, e, _⟩ := h.rd
  rw [e]; rfl
theorem Grow.to {w : World} {B : Nat} {v : Value} {xs ys : List Nat} (h : Grow w B v xs) (e : xs = ys) : Grow w B v ys := e ▸ h
theorem alloc_below {w w1 : World} {o : Obj} (hb : Below (w.alloc o).heap.size (w.alloc o) w1) : Below w.heap.size w w1 := ((Below.refl _ _).alloc (Nat.le_refl _) o).trans (hb.mono (by simp))
theorem rep_one (n m : Nat) : List.replicate n m ++ [m] = List.replicate (n + 1) m := by rw [List.replicate_succ']
theorem rep_48 (n m : Nat) : List.replicate n m ++ List.replicate 48 m = List.replicate (n + 48) m := by rw [List.replicate_append_replicate]
theorem Mid.row {w w' : World} {As : Nat → Option Addr} {gs ns : Nat → Nat} {i q : Nat} {sv qv : Value} {ss qs : Nat → Value} (h : Mid w As gs ns i q sv qv ss qs w') {k n : Nat} {A : Option Addr} (hk : k < 10) (hn : ns k = n ∧ As k = A) : Rd w' A (List.replicate n (1000 + k)) := by
  have := (h.pre.own k hk).rd
  rw [← hn.1, ← hn.2]
  exact this
theorem Mid.at {w w' : World} {gl : Nat} {As : Nat → Option Addr} {gs ns : Nat → Nat} {i q : Nat} {sv qv : Value} {ss qs : Nat → Value} (h : Mid w As gs ns i q sv qv ss qs w') (L : Laid w gl As gs ns) {k n : Nat} {A : Option Addr} (hk : k < 10) (hn : ns k = n ∧ As k = A) : w'.cell? ⟨gl, k, none⟩ = some (.slice A n n) := by
  rw [← hn.1, ← hn.2]
  exact h.pre.cell L hk

set_option maxRecDepth 20000 in
set_option maxHeartbeats 4000000 in
theorem apart_any (gl : Nat) (As : Nat → Option Addr) (gs ns : Nat → Nat) (xs : Nat → List Nat) (w : World) (L : Laid w gl As gs ns) (hO : ∀ k, k < 10 → Own w (gs k) (As k) (xs k)) (hl : ∀ k, k < 10 → (xs k).length = ns k) :
    Calls Tryd.prog 49 #[.slice (some ⟨gl, 0, none⟩) 10 10] w fun e w' => e = .returned (.bool true) ∧ But (Turned gs ns) w w' := by
  have HL := Lib.hid L
  have HP : Hid (Pre w As gs ns xs w) := Lib.hid ⟨hO, hl, But.refl _ _⟩
  clear L hO hl
  go_enter Tryd.func49, Tryd.ntmps49
  go_wp2
  go_loopw [3, 4] (fun iv _ wr => ∃ (i : Nat) (zs : Nat → List Nat), i ≤ 10 ∧ iv = .int .i64 i ∧ Hid (Pre w As gs ns zs wr ∧ ∀ k, k < i → zs k = marks ns k)) (fun iv _ _ => 10 - (intOf iv).toNat)
  case atStart => exact ⟨0, xs, by omega, rfl, ⟨HP.out, fun k hk => by omega⟩⟩
  case round =>
    obtain ⟨i, zs, hi, rfl, hI⟩ := hrel
    by_cases hiN : i < 10
    · have hcl := hI.out.1.cell HL.out hiN
      have hm := HL.out.most i hiN
      obtain ⟨n, hn⟩ : ∃ n, ns i = n := ⟨_, rfl⟩
      rw [hn] at hcl hm
      have hN := Lib.hid hn
      clear hn
      go_wp2
      clear hcl
      obtain ⟨wo, rfl⟩ : ∃ wo : World, wo = wr := ⟨_, rfl⟩
      go_loopw [4] (fun jv wr => ∃ (j : Nat) (zs : Nat → List Nat), j ≤ n ∧ jv = .int .i64 j ∧ Hid (Pre w As gs ns zs wr ∧ (∀ k, k < i → zs k = marks ns k) ∧ (zs i).take j = List.replicate j (1000 + i))) (fun jv _ => n - (intOf jv).toNat)
      case atStart => exact ⟨0, zs, by omega, rfl, ⟨hI.out.1, hI.out.2, by simp⟩⟩
      case round =>
        clear hI
        obtain ⟨j, zs, hj, rfl, hJ⟩ := hrel
        have hcl := hJ.out.1.cell HL.out hiN
        rw [hN.out] at hcl
        by_cases hjn : j < n
        · have hlz : j < (zs i).length := by rw [hJ.out.1.len i hiN, hN.out]; exact hjn
          obtain ⟨hA, hc3, hf3⟩ := (hJ.out.1.own i hiN).cell hlz
          rw [hA] at hcl
          have HZ := Lib.hid hlz
          clear hA hlz
          go_wp2
          go_roundw
          case rel =>
            refine ⟨j + 1, _, by omega, by go_num, hJ.out.1.set HL.out hiN (by rw [hN.out]; exact hjn) (v := 1000 + i) (by omega) (by omega), fun k hk => ?_, ?_⟩
            · simp only [if_neg (show ¬ k = i by omega)]; exact hJ.out.2.1 k hk
            · simp only [if_pos]; exact fill_step hJ.out.2.2 HZ.out
          case measure => simp [intOf]; omega
        · obtain rfl : j = n := by omega
          go_wp2
          go_roundw
          case rel =>
            refine ⟨i + 1, zs, by omega, by go_num, hJ.out.1, fun k hk => ?_⟩
            by_cases e : k = i
            · subst e
              have := fill_end hJ.out.2.2 (by rw [hJ.out.1.len k hiN, hN.out])
              unfold marks
              rw [hN.out]
              exact this
            · exact hJ.out.2.1 k (by omega)
          case measure => simp [intOf]; omega
    · obtain rfl : i = 10 := by omega
      have HM : Hid (Mid w As gs ns 0 0 (.slice none 0 0) (.slice none 0 0) (fun _ => .bool false) (fun _ => .bool false) wr) := Lib.hid (Mid.zero hI.out.1 hI.out.2 _ _)
      clear hI
      go_wp2
      obtain ⟨wo, rfl⟩ : ∃ wo : World, wo = wr := ⟨_, rfl⟩
      go_loopw [5, 6, 7, 8, 9, 10, 11] (fun sv qv iv _ _ _ _ wr => ∃ (i : Nat) (ss qs : Nat → Value), i ≤ 10 ∧ iv = .int .i64 i ∧ Hid (Mid w As gs ns i i sv qv ss qs wr)) (fun _ _ iv _ _ _ _ _ => 10 - (intOf iv).toNat)
      case atStart => exact ⟨0, _, _, by omega, rfl, HM⟩
      case round =>
        clear HM
        obtain ⟨i, ss, qs, hi, rfl, hI⟩ := hrel
        by_cases hiN : i < 10
        · have hcl := hI.out.pre.cell HL.out hiN
          have hm := HL.out.most i hiN
          have hR0 := (hI.out.pre.own i hiN).rd
          have hsz := hI.out.pre.but.size
          obtain ⟨n, hn⟩ : ∃ n, ns i = n := ⟨_, rfl⟩
          obtain ⟨A, hA⟩ : ∃ A, As i = A := ⟨_, rfl⟩
          have em : marks ns i = List.replicate n (1000 + i) := by unfold marks; rw [hn]
          rw [hn] at hcl hm
          rw [hA] at hcl hR0
          rw [em] at hR0
          have hN := Lib.hid (And.intro hn hA)
          have HR := Lib.hid hR0
          clear hn hA em hR0
          have hi10 : decide ((i : Int) < 10) = true := decide_eq_true (by omega)
          go_wp2
          obtain ⟨wo, rfl⟩ : ∃ wo : World, wo = wr := ⟨_, rfl⟩
          go_loopw [9, 10] (fun gv jv wr => ∃ (j : Nat), j ≤ 16 ∧ jv = .int .i64 j ∧ Hid (Mid w As gs ns i i u5 u6 ss qs wr ∧ (j = 0 → gv = .slice A n n) ∧ (0 < j → Grow wr w.heap.size gv (List.replicate (n + j) (1000 + i))))) (fun _ jv _ => 16 - (intOf jv).toNat)
          case atStart => exact ⟨0, by omega, rfl, ⟨hI.out, fun _ => rfl, fun h => by omega⟩⟩
          case round =>
            clear hI hcl hsz HR
            obtain ⟨j, hj, hjv, hJ⟩ := hrel
            have hsz := hJ.out.1.pre.but.size
            have hmI : ((1000 + i : Nat) : Int) = 1000 + (i : Int) := by omega
            by_cases hj16 : j < 16
            · rcases j with _ | j0
              · obtain rfl : u10 = .int .i64 0 := hjv
                obtain rfl : u9 = .slice A n n := hJ.out.2.1 rfl
                have hRw := hJ.out.1.row hiN hN.out
                go_wp2_with (refine wpList_first rfl _ _ rfl A n (List.replicate n (1000 + i)) rfl (hRw.alloc _) (by simp) wr.heap.size 1 1 [1000 + i] rfl rfl (by omega) (lit_rd wr _ _ (W32.cons (by omega) W32.nil) (by simp [u32s])) (by omega) ?_; intro v' w1 hG1 hb1; have hb1 := alloc_below hb1; have hM1 := Lib.hid (hJ.out.1.below HL.out hb1); have hG1 := Lib.hid ((hG1.mono (B' := w.heap.size) (by simp; omega)).to (rep_one n (1000 + i))); clear hJ hRw hb1)
                go_roundw
                case rel => exact ⟨1, by omega, by go_num, hM1.out, fun h => by omega, fun _ => hG1.out⟩
                case measure => simp [intOf]
              · obtain rfl := hjv
                have hG := hJ.out.2.2 (by omega)
                have hlen : (List.replicate (n + (j0 + 1)) (1000 + i)).length + 1 ≤ 35184372088832 := by simp; omega
                go_wp2_with (refine wpList_pushG rfl _ _ rfl w.heap.size _ (List.replicate (n + (j0 + 1)) (1000 + i)) rfl wr _ (1000 + i) rfl hmI (by omega) hG rfl hlen hsz ?_; intro v' w1 hG1 hg1; have hM1 := Lib.hid (hJ.out.1.list HL.out hG (by omega) (by omega) (by omega) hg1); have hG1 := Lib.hid (hG1.to (rep_one (n + (j0 + 1)) (1000 + i))); clear hJ hG hg1)
                go_roundw
                case rel => exact ⟨j0 + 2, by omega, by go_num, hM1.out, fun h => by omega, fun _ => hG1.out⟩
                case measure => simp [intOf]; omega
            · obtain rfl : j = 16 := by omega
              obtain rfl := hjv
              have hG := hJ.out.2.2 (by omega)
              have hS := hJ.out.1.slow
              have hGo := hG.one
              obtain ⟨A9, c9, e9, -⟩ := hG.rd
              rw [List.length_replicate] at e9
              subst e9
              have hcl := hJ.out.1.at HL.out hiN hN.out
              go_wp2_with (first
                | (refine wpList_pushS rfl _ _ rfl w.heap.size u5 i ((List.range i).map ss) rfl wr _ rfl hGo hS rfl (by omega) hsz ?_; intro sv' w1 hS1 hg1; have hM1 := Lib.hid (hJ.out.1.pushS HL.out (hG.to (by rw [hN.out.1])) hS1 hg1); have hcl1 := hM1.out.at HL.out hiN hN.out; have hR1 := hM1.out.row hiN hN.out; have hsz1 := hM1.out.pre.but.size; clear hJ hG hS hGo hcl hsz hS1 hg1)
                | (refine wpList_first rfl _ _ rfl A n (List.replicate n (1000 + i)) rfl (hR1.alloc _) (by simp) w1.heap.size 48 48 (List.replicate 48 (1000 + i)) rfl (by simp) (by omega) (lit_rd w1 _ _ (w48 _ (by omega)) (by unfold u32s; rw [List.map_replicate, hmI]; rfl)) (by omega) ?_; intro hv w2 hG2 hb2; have hb2 := alloc_below hb2; have hM2 := Lib.hid (hM1.out.below HL.out hb2); have hG2 := (hG2.mono (B' := w.heap.size) (by simp; omega)).to (rep_48 n (1000 + i)); have hQ2 := hM2.out.quick; have hGo := hG2.one; obtain ⟨A8, c8, e8, -⟩ := hG2.rd; rw [List.length_replicate] at e8; subst e8; have hsz2 := hM2.out.pre.but.size; clear hM1 hcl1 hR1 hsz1 hb2)
                | (refine wpList_pushS rfl _ _ rfl w.heap.size u6 i ((List.range i).map qs) rfl w2 _ rfl hGo hQ2 rfl (by omega) hsz2 ?_; intro qv' w3 hS3 hg3; have hM3 := Lib.hid (hM2.out.pushQ HL.out (hG2.to (by rw [hN.out.1])) hS3 hg3); clear hM2 hG2 hQ2 hGo hsz2 hS3 hg3))
              go_roundw
              case rel => exact ⟨i + 1, _, _, by omega, by go_num, hM3.out⟩
              case measure => simp [intOf]; omega
        · obtain rfl : i = 10 := by omega
          obtain ⟨g, c, g', c', rfl, rfl, hr⟩ := hI.out.reads HL.out
          have HB := Lib.hid hI.out.pre.but
          have HR := Lib.hid hr
          clear hr hI
          go_wp2
          obtain ⟨wo, rfl⟩ : ∃ wo : World, wo = wr := ⟨_, rfl⟩
          go_loopw [12, 13] (fun iv _ wr => ∃ (i d : Nat), i ≤ 10 ∧ iv = .int .i64 i ∧ wr = wo.drewN d) (fun iv _ _ => 10 - (intOf iv).toNat)
          case atStart => exact ⟨0, 0, by omega, rfl, rfl⟩
          case round =>
            obtain ⟨i, d, hi, rfl, rfl⟩ := hrel
            by_cases hiN : i < 10
            · obtain ⟨A2, c2, A3, c3, k1, r1, k2, r2, k3, r3⟩ := HR.out i hiN
              have hm := HL.out.most i hiN
              obtain ⟨n, hn⟩ : ∃ n, ns i = n := ⟨_, rfl⟩
              obtain ⟨A, hA⟩ : ∃ A, As i = A := ⟨_, rfl⟩
              rw [hn] at hm k1 k2 k3 r1 r2 r3
              rw [hA] at k1 r1
              have F1 := Lib.hid (fun d m k hm hk => full_q A n n (1000 + i) m k (wo.drewN d) (r1.drewN d) hm hk (by omega))
              have F2 := Lib.hid (fun d m k hm hk => full_q A2 (n + 16) c2 (1000 + i) m k (wo.drewN d) (r2.drewN d) hm hk (by omega))
              have F3 := Lib.hid (fun d m k hm hk => full_q A3 (n + 48) c3 (1000 + i) m k (wo.drewN d) (r3.drewN d) hm hk (by omega))
              clear r1 r2 r3 hn hA
              go_wp2
              go_quiet ((first
                | (go_at_call 68; with_reducible exact quiet_add_left (F1.out _ _ _ (by omega) (by omega)))
                | (go_at_call 68; with_reducible exact quiet_add_left (F2.out _ _ _ (by omega) (by omega)))
                | (go_at_call 68; with_reducible exact quiet_add_left (F3.out _ _ _ (by omega) (by omega)))))
              go_wp2
              go_roundw
              case rel => exact ⟨i + 1, _, by omega, by go_num, rfl⟩
              case measure => simp [intOf]; omega
            · obtain rfl : i = 10 := by omega
              go_wp2
              go_ret
              exact ⟨rfl, HB.out.below (below_drewN (Below.refl _ _) d)⟩
end Go.Proofs.YtniogjkkhkibhaaDoor
