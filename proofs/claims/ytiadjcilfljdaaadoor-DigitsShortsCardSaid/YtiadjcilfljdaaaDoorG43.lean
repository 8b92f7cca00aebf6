/- Layer 5, the program: Short's margins in a box; begin. -/
import Derived.Test.YtiadjcilfljdaaaDoorG42
import Derived.Test.YtiadjcilfljdaaaDoorG36
namespace Go.Proofs.YtiadjcilfljdaaaDoor
set_option linter.unusedVariables false
set_option linter.unusedSimpArgs false
open Go.RowKit Verge

/-- A natural's list, its length named. -/
def Tn (n : Nat) (A : Option Addr) (l : Nat) (w : World) : Prop := (dig n).length = l ∧ ∃ g, Own w g A (dig n)
theorem isO_form {n : Nat} {v : Value} {w : World} (h : IsO n v w) : ∃ A l, v = .slice A l l ∧ Tn n A l w := by
  obtain ⟨A, g, rfl, hR⟩ := h
  exact ⟨A, _, rfl, rfl, g, hR⟩
theorem Tn.isO {n : Nat} {A : Option Addr} {l : Nat} {w : World} (h : Tn n A l w) : IsO n (.slice A l l) w := by
  obtain ⟨rfl, g, hR⟩ := h
  exact ⟨A, g, rfl, hR⟩
theorem Tn.isT {n : Nat} {A : Option Addr} {l : Nat} {w : World} (h : Tn n A l w) : IsT n (.slice A l l) w := h.isO.isT
theorem Tn.later {n : Nat} {A : Option Addr} {l : Nat} {w w' : World} (h : Tn n A l w) (hb : Below w.heap.size w w') : Tn n A l w' := ⟨h.1, h.2.imp fun g hO => hO.later hb⟩
/-- A list stays where its block stays: blocks of words are not touched. -/
theorem Tn.kept {n : Nat} {A : Option Addr} {l : Nat} {w w' : World} (h : Tn n A l w) (hk : ∀ (g : Nat) (cs : Array Value), w.heap[g]? = some (Obj.cells cs 53 (0, 0)) → w'.heap[g]? = w.heap[g]?) : Tn n A l w' := by
  obtain ⟨h1, g, hO⟩ := h
  refine ⟨h1, g, hO.1, fun hne => ?_⟩
  obtain ⟨e, cs, hcs, ht⟩ := hO.2 hne
  exact ⟨e, cs, by rw [hk g cs hcs]; exact hcs, ht⟩
theorem tn_new (W : World) (k : Nat) (h0 : 0 < k) (h1 : k < 4294967296) : Tn k (some ⟨W.heap.size, 0, none⟩) 1 (W.alloc (.cells #[.int .u32 (k : Int)] 53)) := by
  have hd : dig k = [k] := by rw [dig_pos (by omega)]; rw [Nat.div_eq_of_lt h1, dig_zero, Nat.mod_eq_of_lt h1]
  have := (Blk.new W #[.int .u32 (k : Int)] [k] (W32.cons h1 W32.nil) (by simp [u32s])).own 1 (by simp)
  exact ⟨by rw [hd]; rfl, W.heap.size, by rw [hd]; exact this⟩
/-- A box of margins. -/
structure Mg5 (w wr : World) (g : Nat) (Ar : Option Addr) (lr : Nat) (As : Option Addr) (ls : Nat) (Am : Option Addr) (lm : Nat) (Al : Option Addr) (ll : Nat) (r s m l : Nat) (ev : Bool) : Prop where
  bl : Below w.heap.size w wr
  blk : wr.heap[g]? = some (.cells #[.slice Ar lr lr, .slice As ls ls, .slice Am lm lm, .slice Al ll ll, .bool ev] 59 (0, 0))
  hg : w.heap.size ≤ g
  hr : Tn r Ar lr wr
  hs : Tn s As ls wr
  hm : Tn m Am lm wr
  hl : Tn l Al ll wr
theorem blkc_lt {w : World} {r : Nat} {o : Obj} (h : w.heap[r]? = some o) : r < w.heap.size := by
  by_cases hr : r < w.heap.size
  · exact hr
  · rw [Array.getElem?_eq_none (by omega)] at h; cases h
theorem blkc5 {w : World} {r : Nat} {a b c d e : Value} {t : TypeId} (h : w.heap[r]? = some (.cells #[a, b, c, d, e] t (0, 0))) :
    w.cell? ⟨r, 0, none⟩ = some a ∧ w.cell? ⟨r, 1, none⟩ = some b ∧ w.cell? ⟨r, 2, none⟩ = some c ∧ w.cell? ⟨r, 3, none⟩ = some d ∧ w.cell? ⟨r, 4, none⟩ = some e ∧
    w.frozen? ⟨r, 0, none⟩ = false ∧ w.frozen? ⟨r, 1, none⟩ = false ∧ w.frozen? ⟨r, 2, none⟩ = false ∧ w.frozen? ⟨r, 3, none⟩ = false ∧ w.frozen? ⟨r, 4, none⟩ = false := by
  simp [World.cell?, World.frozen?, h]
theorem blkc_set {w : World} {r : Nat} {a b c d e u : Value} {t : TypeId} (h : w.heap[r]? = some (.cells #[a, b, c, d, e] t (0, 0))) :
    (w.setCell ⟨r, 0, none⟩ u).heap[r]? = some (.cells #[u, b, c, d, e] t (0, 0)) ∧ (w.setCell ⟨r, 1, none⟩ u).heap[r]? = some (.cells #[a, u, c, d, e] t (0, 0)) ∧
    (w.setCell ⟨r, 2, none⟩ u).heap[r]? = some (.cells #[a, b, u, d, e] t (0, 0)) ∧ (w.setCell ⟨r, 3, none⟩ u).heap[r]? = some (.cells #[a, b, c, u, e] t (0, 0)) := by
  simp [World.setCell, Array.getElem?_modify, h]
section
variable {w wr w' : World} {g : Nat} {Ar As Am Al A' : Option Addr} {lr ls lm ll l' r s m l k : Nat} {ev : Bool}
theorem Tn.apart {n : Nat} {A : Option Addr} {ln i : Nat} {u : Value} (h : Tn n A ln wr) (hM : Mg5 w wr g Ar lr As ls Am lm Al ll r s m l ev) : Tn n A ln (wr.setCell ⟨g, i, none⟩ u) := by
  refine h.kept fun g' cs hcs => Below.heap_setCell wr ⟨g, i, none⟩ u g' (fun (e : g' = g) => ?_)
  subst e
  have hb := hM.blk
  rw [hcs] at hb
  simp at hb
theorem Mg5.later (h : Mg5 w wr g Ar lr As ls Am lm Al ll r s m l ev) (hb : Below wr.heap.size wr w') : Mg5 w w' g Ar lr As ls Am lm Al ll r s m l ev :=
  ⟨raft h.bl hb, (hb.block g (blkc_lt h.blk)).trans h.blk, h.hg, h.hr.later hb, h.hs.later hb, h.hm.later hb, h.hl.later hb⟩
theorem Mg5.setr (h : Mg5 w wr g Ar lr As ls Am lm Al ll r s m l ev) (ht : Tn k A' l' wr) : Mg5 w (wr.setCell ⟨g, 0, none⟩ (.slice A' l' l')) g A' l' As ls Am lm Al ll k s m l ev :=
  ⟨h.bl.setCell h.hg _, (blkc_set h.blk).1, h.hg, ht.apart h, h.hs.apart h, h.hm.apart h, h.hl.apart h⟩
theorem Mg5.sets (h : Mg5 w wr g Ar lr As ls Am lm Al ll r s m l ev) (ht : Tn k A' l' wr) : Mg5 w (wr.setCell ⟨g, 1, none⟩ (.slice A' l' l')) g Ar lr A' l' Am lm Al ll r k m l ev :=
  ⟨h.bl.setCell h.hg _, (blkc_set h.blk).2.1, h.hg, h.hr.apart h, ht.apart h, h.hm.apart h, h.hl.apart h⟩
theorem Mg5.setm (h : Mg5 w wr g Ar lr As ls Am lm Al ll r s m l ev) (ht : Tn k A' l' wr) : Mg5 w (wr.setCell ⟨g, 2, none⟩ (.slice A' l' l')) g Ar lr As ls A' l' Al ll r s k l ev :=
  ⟨h.bl.setCell h.hg _, (blkc_set h.blk).2.2.1, h.hg, h.hr.apart h, h.hs.apart h, ht.apart h, h.hl.apart h⟩
theorem Mg5.setl (h : Mg5 w wr g Ar lr As ls Am lm Al ll r s m l ev) (ht : Tn k A' l' wr) : Mg5 w (wr.setCell ⟨g, 3, none⟩ (.slice A' l' l')) g Ar lr As ls Am lm A' l' r s m k ev :=
  ⟨h.bl.setCell h.hg _, (blkc_set h.blk).2.2.2, h.hg, h.hr.apart h, h.hs.apart h, h.hm.apart h, ht.apart h⟩
theorem Mg5.mg (h : Mg5 w wr g Ar lr As ls Am lm Al ll r s m l ev) : IsMg r s m l ev (.agg #[.slice Ar lr lr, .slice As ls ls, .slice Am lm lm, .slice Al ll ll, .bool ev]) wr :=
  ⟨_, _, _, _, rfl, h.hr.isT, h.hs.isT, h.hm.isT, h.hl.isT⟩
theorem Mg5.new {W : World} (hb : Below w.heap.size w W) (hr : Tn r Ar lr W) (hs : Tn s As ls W) (hm : Tn m Am lm W) (hl : Tn l Al ll W) :
    Mg5 w (W.alloc (.cells #[.slice Ar lr lr, .slice As ls ls, .slice Am lm lm, .slice Al ll ll, .bool ev] 59)) W.heap.size Ar lr As ls Am lm Al ll r s m l ev :=
  ⟨raft hb (rnew W _), heap_alloc_new W _, hb.size, hr.later (rnew W _), hs.later (rnew W _), hm.later (rnew W _), hl.later (rnew W _)⟩
end
theorem tn_five {W : World} {r k l : Nat} {A : Option Addr} (h : Tn k A l W) (hz : W.heap[r]? = some (.cells #[.slice none 0 0, .slice none 0 0, .slice none 0 0, .slice none 0 0, .bool false] 59 (0, 0))) (u0 u1 u2 u3 u4 : Value) :
    Tn k A l (((((W.setCell ⟨r, 0, none⟩ u0).setCell ⟨r, 1, none⟩ u1).setCell ⟨r, 2, none⟩ u2).setCell ⟨r, 3, none⟩ u3).setCell ⟨r, 4, none⟩ u4) := by
  refine h.kept fun g' cs hcs => ?_
  have hb : g' ≠ r := by
    rintro rfl
    rw [hcs] at hz
    simp at hz
  have hs := fun (W : World) (i : Nat) (u : Value) => Below.heap_setCell W ⟨r, i, none⟩ u g' hb
  rw [hs, hs, hs, hs, hs]
/-- The margins that a number begins with. -/
def mgE (b : Nat) : Bool := decide (fbF b = 4503599627370496 ∧ 0 < fbE b)
def mgR (b : Nat) : Nat := (if mgE b = true then 4 else 2) * fbF b * 2 ^ ((fbE b : Int) - 1074).toNat
def mgS (b : Nat) : Nat := (if mgE b = true then 4 else 2) * 2 ^ (-((fbE b : Int) - 1074)).toNat
def mgM (b : Nat) : Nat := (if mgE b = true then 2 else 1) * 2 ^ ((fbE b : Int) - 1074).toNat
def mgL (b : Nat) : Nat := 2 ^ ((fbE b : Int) - 1074).toNat
def mgV (b : Nat) : Bool := decide (fbF b % 2 = 0)
theorem and_1L (x : Nat) (hx : x < 18446744073709551616) : bits .and .u64 (x : Int) 1 = ((x % 2 : Nat) : Int) := by
  have : bits .and .u64 (x : Int) 1 = ((x &&& 1 : Nat) : Int) := Go.u64_and_nat x 1 hx (by omega)
  rw [this, Nat.and_one_is_mod]
set_option maxRecDepth 40000 in
set_option maxHeartbeats 16000000 in
theorem begin_any (b : Nat) (hb : b < 18446744073709551616) (w : World) : Calls Tryd.prog 36 #[.float .f64 b] w (Ans w (IsMo (mgR b) (mgS b) (mgM b) (mgL b) (mgV b))) := by
  have HP := Lib.hid (fun W => part_any b hb W)
  have hF := fbF_lt b
  have hFb := fbF_blen b
  have hE : fbE b ≤ 2047 := by unfold fbE; omega
  have ha := and_1L (fbF b) (by omega)
  have hev : ((fbF b : Int) % 2 == 0) = mgV b := by
    unfold mgV
    rw [Bool.eq_iff_iff]; simp; omega
  obtain ⟨ev, hev2⟩ : ∃ ev, mgV b = ev := ⟨_, rfl⟩
  rw [hev2] at hev ⊢
  have HS2 := Lib.hid (fun W => nsmall_o (w := W) (2 * fbF b) (by omega))
  have HS4 := Lib.hid (fun W => nsmall_o (w := W) (4 * fbF b) (by omega))
  have HSh := Lib.hid (fun W n v (hv : IsT n v W) (hn : blen n ≤ 100) (e : Nat) (he : e ≤ 2000) => nshl_o (w := W) e hv (by omega))
  obtain ⟨R, hR⟩ : ∃ R, mgR b = R := ⟨_, rfl⟩
  obtain ⟨S, hS⟩ : ∃ S, mgS b = S := ⟨_, rfl⟩
  obtain ⟨M, hM⟩ : ∃ M, mgM b = M := ⟨_, rfl⟩
  obtain ⟨L, hL⟩ : ∃ L, mgL b = L := ⟨_, rfl⟩
  rw [hR, hS, hM, hL]
  unfold mgR at hR
  unfold mgS at hS
  unfold mgM at hM
  unfold mgL at hL
  obtain ⟨X, hX⟩ : ∃ X, (fbE b : Int) - 1074 = X := ⟨_, rfl⟩
  rw [hX] at HP hR hS hM hL
  have hedge : mgE b = true ↔ fbF b = 4503599627370496 ∧ -1074 < X := by
    unfold mgE; rw [decide_eq_true_eq]; omega
  have hbF : ((fbF b : Int) == 4503599627370496) = decide (fbF b = 4503599627370496) := by rw [Bool.eq_iff_iff]; simp; omega
  have HQ2 : blen (2 * fbF b) ≤ 100 := by
    have := blen_mul_le (show blen 2 ≤ 2 from (blen_lt _ _).2 (by decide)) hFb; omega
  have HQ4 : blen (4 * fbF b) ≤ 100 := by
    have := blen_mul_le (show blen 4 ≤ 3 from (blen_lt _ _).2 (by decide)) hFb; omega
  have q1 : blen 1 ≤ 100 := (blen_lt _ _).2 (Nat.one_lt_two_pow (by omega))
  have q2 : blen 2 ≤ 100 := Nat.le_trans ((blen_lt 2 2).2 (by decide)) (by omega)
  have q4 : blen 4 ≤ 100 := Nat.le_trans ((blen_lt 4 3).2 (by decide)) (by omega)
  generalize mgE b = ed at *
  generalize fbF b = F at *
  have HRES := Lib.hid (And.intro hR (And.intro hS (And.intro hM hL)))
  have HBL := Lib.hid (And.intro HQ2 (And.intro HQ4 (And.intro q1 (And.intro q2 q4))))
  have HED := Lib.hid hedge
  have hX1 : -1074 ≤ X := by omega
  have hX2 : X ≤ 1000 := by omega
  clear hFb hE hev2 hR hS hM hL hX HQ2 HQ4 q1 q2 q4 hedge
  by_cases hF52 : F = 4503599627370496
  · rw [decide_eq_true hF52] at hbF
    by_cases hXX : -1074 < X
    · have hed : ed = true := HED.out.2 ⟨hF52, hXX⟩
      subst hed
      have HF52 := Lib.hid hF52
      clear hF52
      by_cases hpos : 0 < X
      · obtain ⟨x, rfl⟩ := Int.eq_ofNat_of_zero_le (show 0 ≤ X by omega)
        go_enter Tryd.func36, Tryd.ntmps36
        go_wp2_with fail
        refine (HP.out _).mono ?_
        rintro e w1 ⟨rfl, rfl⟩
        go_wp2_with fail
        refine (HS2.out _).mono ?_
        rintro e w2 ⟨v0, rfl, hv, hb2⟩
        obtain ⟨A0, l0, rfl, hT0⟩ := isO_form hv
        have hres : w2.heap[w.heap.size]? = some (.cells #[.slice none 0 0, .slice none 0 0, .slice none 0 0, .slice none 0 0, .bool false] 59 (0, 0)) := (hb2.block _ (by simp)).trans (heap_alloc_new w _)
        have hbw : Below w.heap.size w w2 := raft (rnew w _) hb2
        have b1 := rnew w2 (.cells #[.int .u32 2] 53)
        have b2 := rnew (w2.alloc (.cells #[.int .u32 2] 53)) (.cells #[.int .u32 1] 53)
        have b3 := rnew ((w2.alloc (.cells #[.int .u32 2] 53)).alloc (.cells #[.int .u32 1] 53)) (.cells #[.int .u32 1] 53)
        have hM : Mg5 w ((((w2.alloc (.cells #[.int .u32 2] 53)).alloc (.cells #[.int .u32 1] 53)).alloc (.cells #[.int .u32 1] 53)).alloc (.cells #[.slice A0 l0 l0, .slice (some ⟨w2.heap.size, 0, none⟩) 1 1, .slice (some ⟨w2.heap.size + 1, 0, none⟩) 1 1, .slice (some ⟨w2.heap.size + 1 + 1, 0, none⟩) 1 1, .bool ev] 59)) (w2.heap.size + 1 + 1 + 1) A0 l0 (some ⟨w2.heap.size, 0, none⟩) 1 (some ⟨w2.heap.size + 1, 0, none⟩) 1 (some ⟨w2.heap.size + 1 + 1, 0, none⟩) 1 (2 * F) 2 1 1 ev := by
          have h := Mg5.new (ev := ev) (raft hbw (raft b1 (raft b2 b3))) (hT0.later (raft b1 (raft b2 b3))) ((tn_new w2 2 (by omega) (by omega)).later (raft b2 b3)) ((tn_new (w2.alloc (.cells #[.int .u32 2] 53)) 1 (by omega) (by omega)).later b3) (tn_new ((w2.alloc (.cells #[.int .u32 2] 53)).alloc (.cells #[.int .u32 1] 53)) 1 (by omega) (by omega))
          simpa only [World.size_alloc] using h
        have HM := Lib.hid hM
        have hz := blkc_lt hres
        have HR0 : Hid (∀ W : World, Below w2.heap.size w2 W → W.heap[w.heap.size]? = some (.cells #[.slice none 0 0, .slice none 0 0, .slice none 0 0, .slice none 0 0, .bool false] 59 (0, 0))) := Lib.hid (fun W hW => (hW.block _ hz).trans hres)
        have HBB := Lib.hid (raft b1 (raft b2 (raft b3 (rnew (((w2.alloc (.cells #[.int .u32 2] 53)).alloc (.cells #[.int .u32 1] 53)).alloc (.cells #[.int .u32 1] 53)) (.cells #[.slice A0 l0 l0, .slice (some ⟨w2.heap.size, 0, none⟩) 1 1, .slice (some ⟨w2.heap.size + 1, 0, none⟩) 1 1, .slice (some ⟨w2.heap.size + 1 + 1, 0, none⟩) 1 1, .bool ev] 59)))))
        have hgz : w.heap.size < w2.heap.size + 1 + 1 + 1 := by omega
        clear hv hb2 hT0 hM b1 b2 b3 hres hbw
        go_wp2_with fail
        refine (HS4.out _).mono ?_
        rintro en w6 ⟨v4, rfl, hv4, hb6⟩
        obtain ⟨A4, l4, rfl, hT4⟩ := isO_form hv4
        generalize hg : w2.heap.size + 1 + 1 + 1 = g at *
        have hMM := HM.out.later hb6
        have c1 := rnew w6 (.cells #[.int .u32 4] 53)
        have c2 := rnew (w6.alloc (.cells #[.int .u32 4] 53)) (.cells #[.int .u32 2] 53)
        have hM1 := hMM.later (raft c1 c2)
        have hQ1 := HR0.out _ (raft HBB.out (raft hb6 (raft c1 c2)))
        have h4 := (tn_new w6 4 (by omega) (by omega)).later c2
        have h2 := tn_new (w6.alloc (.cells #[.int .u32 4] 53)) 2 (by omega) (by omega)
        rw [World.size_alloc] at h2
        obtain ⟨k0, k1, k2, k3, k4, f0, f1, f2, f3, f4⟩ := blkc5 hMM.blk
        have hzg := blkc_lt hMM.blk
        have HM1 := Lib.hid (((hM1.setr (hT4.later (raft c1 c2))).sets (h4.apart hM1)).setm ((h2.apart hM1).apart (hM1.setr (hT4.later (raft c1 c2)))))
        have hne := fun (W : World) (i : Nat) (u : Value) => Below.heap_setCell W ⟨g, i, none⟩ u w.heap.size (show w.heap.size ≠ g by omega)
        have HQ1 : Hid ((((((w6.alloc (.cells #[.int .u32 4] 53)).alloc (.cells #[.int .u32 2] 53)).setCell ⟨g, 0, none⟩ (.slice A4 l4 l4)).setCell ⟨g, 1, none⟩ (.slice (some ⟨w6.heap.size, 0, none⟩) 1 1)).setCell ⟨g, 2, none⟩ (.slice (some ⟨w6.heap.size + 1, 0, none⟩) 1 1)).heap[w.heap.size]? = some (.cells #[.slice none 0 0, .slice none 0 0, .slice none 0 0, .slice none 0 0, .bool false] 59 (0, 0))) := Lib.hid (by rw [hne, hne, hne]; exact hQ1)
        have eW : ((((w6.alloc (.cells #[.int .u32 4] 53)).alloc (.cells #[.int .u32 2] 53)).setCell ⟨g, 0, none⟩ (.slice A4 l4 l4)).setCell ⟨g, 1, none⟩ (.slice (some ⟨w6.heap.size, 0, none⟩) 1 1)).setCell ⟨g, 2, none⟩ (.slice (some ⟨w6.heap.size + 1, 0, none⟩) 1 1) = ((((w6.setCell ⟨g, 0, none⟩ (.slice A4 l4 l4)).setCell ⟨g, 1, none⟩ (.slice (some ⟨w6.heap.size, 0, none⟩) 1 1)).setCell ⟨g, 2, none⟩ (.slice (some ⟨w6.heap.size + 1, 0, none⟩) 1 1)).alloc (.cells #[.int .u32 4] 53)).alloc (.cells #[.int .u32 2] 53) := by
          simp [World.setCell_alloc_past, hzg, show g < w6.heap.size + 1 by omega]
        rw [eW] at HM1 HQ1
        clear hv4 hb6 hT4 hMM c1 c2 hM1 hQ1 h4 h2 hne HM HR0 HBB eW
        go_upto_if 36 with fail
        generalize ((((w6.setCell ⟨g, 0, none⟩ (.slice A4 l4 l4)).setCell ⟨g, 1, none⟩ (.slice (some ⟨w6.heap.size, 0, none⟩) 1 1)).setCell ⟨g, 2, none⟩ (.slice (some ⟨w6.heap.size + 1, 0, none⟩) 1 1)).alloc (.cells #[.int .u32 4] 53)).alloc (.cells #[.int .u32 2] 53) = wm at *
        have HM := HM1
        have HQ := HQ1
        clear k0 k1 k2 k3 k4 f0 f1 f2 f3 f4 hzg
        obtain ⟨k0, k1, k2, k3, k4, f0, f1, f2, f3, f4⟩ := blkc5 HM.out.blk
        have hzg := blkc_lt HM.out.blk
        go_wp2_with fail
        refine (HSh.out _ _ _ HM.out.hr.isT HBL.out.2.1 x (by omega)).mono ?_
        rintro en wn ⟨vt, rfl, ⟨va, ve, rfl, hva, rfl⟩, hbn⟩
        obtain ⟨An, ln, rfl, hTn⟩ := isO_form hva
        have HM := Lib.hid (HM.out.later hbn)
        have HTn := Lib.hid hTn
        have HQ := Lib.hid ((hbn.block _ (blkc_lt HQ.out)).trans HQ.out)
        clear hva hTn hbn k0 k1 k2 k3 k4 f0 f1 f2 f3 f4 hzg
        obtain ⟨k0, k1, k2, k3, k4, f0, f1, f2, f3, f4⟩ := blkc5 HM.out.blk
        have hzg := blkc_lt HM.out.blk
        have HM := Lib.hid (HM.out.setr HTn.out)
        have HQ := Lib.hid ((Below.heap_setCell wn ⟨g, 0, none⟩ (.slice An ln ln) w.heap.size (show w.heap.size ≠ g by omega)).trans HQ.out)
        clear HTn
        go_upto_region 7 with fail
        generalize wn.setCell ⟨g, 0, none⟩ (.slice An ln ln) = wm at *
        clear k0 k1 k2 k3 k4 f0 f1 f2 f3 f4 hzg
        obtain ⟨k0, k1, k2, k3, k4, f0, f1, f2, f3, f4⟩ := blkc5 HM.out.blk
        have hzg := blkc_lt HM.out.blk
        go_wp2_with fail
        refine (HSh.out _ _ _ HM.out.hm.isT HBL.out.2.2.2.1 x (by omega)).mono ?_
        rintro en wn ⟨vt, rfl, ⟨va, ve, rfl, hva, rfl⟩, hbn⟩
        obtain ⟨An, ln, rfl, hTn⟩ := isO_form hva
        have HM := Lib.hid (HM.out.later hbn)
        have HTn := Lib.hid hTn
        have HQ := Lib.hid ((hbn.block _ (blkc_lt HQ.out)).trans HQ.out)
        clear hva hTn hbn k0 k1 k2 k3 k4 f0 f1 f2 f3 f4 hzg
        obtain ⟨k0, k1, k2, k3, k4, f0, f1, f2, f3, f4⟩ := blkc5 HM.out.blk
        have hzg := blkc_lt HM.out.blk
        have HM := Lib.hid (HM.out.setm HTn.out)
        have HQ := Lib.hid ((Below.heap_setCell wn ⟨g, 2, none⟩ (.slice An ln ln) w.heap.size (show w.heap.size ≠ g by omega)).trans HQ.out)
        clear HTn
        go_upto_region 8 with fail
        generalize wn.setCell ⟨g, 2, none⟩ (.slice An ln ln) = wm at *
        clear k0 k1 k2 k3 k4 f0 f1 f2 f3 f4 hzg
        obtain ⟨k0, k1, k2, k3, k4, f0, f1, f2, f3, f4⟩ := blkc5 HM.out.blk
        have hzg := blkc_lt HM.out.blk
        go_wp2_with fail
        refine (HSh.out _ _ _ HM.out.hl.isT HBL.out.2.2.1 x (by omega)).mono ?_
        rintro en wn ⟨vt, rfl, ⟨va, ve, rfl, hva, rfl⟩, hbn⟩
        obtain ⟨An, ln, rfl, hTn⟩ := isO_form hva
        have HM := Lib.hid (HM.out.later hbn)
        have HTn := Lib.hid hTn
        have HQ := Lib.hid ((hbn.block _ (blkc_lt HQ.out)).trans HQ.out)
        clear hva hTn hbn k0 k1 k2 k3 k4 f0 f1 f2 f3 f4 hzg
        obtain ⟨k0, k1, k2, k3, k4, f0, f1, f2, f3, f4⟩ := blkc5 HM.out.blk
        have hzg := blkc_lt HM.out.blk
        have HM := Lib.hid (HM.out.setl HTn.out)
        have HQ := Lib.hid ((Below.heap_setCell wn ⟨g, 3, none⟩ (.slice An ln ln) w.heap.size (show w.heap.size ≠ g by omega)).trans HQ.out)
        clear HTn
        go_upto_region 10 with fail
        generalize wn.setCell ⟨g, 3, none⟩ (.slice An ln ln) = wm at *
        clear k0 k1 k2 k3 k4 f0 f1 f2 f3 f4 hzg
        obtain ⟨k0, k1, k2, k3, k4, f0, f1, f2, f3, f4⟩ := blkc5 HM.out.blk
        have hzg := blkc_lt HM.out.blk
        obtain ⟨r0, r1, r2, r3, r4, g0, g1, g2, g3, g4⟩ := blkc5 HQ.out
        go_wp2
        refine bodyPost_ret (v := _) (by simp [results, Tryd.results36, go_sem, r0, r1, r2, r3, r4]; rfl) rfl ?_
        have hb := HM.out.bl
        have hRES := HRES.out
        have z0 : (-(x : Int)).toNat = 0 := by omega
        have z1 : ((x : Nat) : Int).toNat = x := by omega
        have e1 : 4 * F * 2 ^ x = R := by rw [← hRES.1]; simp [z0, z1]
        have e2 : 4 = S := by rw [← hRES.2.1]; simp [z0, z1]
        have e3 : 2 * 2 ^ x = M := by rw [← hRES.2.2.1]; simp [z0, z1]
        have e4 : 1 * 2 ^ x = L := by rw [← hRES.2.2.2]; simp [z0, z1]
        have h1 := HM.out.hr
        have h2 := HM.out.hs
        have h3 := HM.out.hm
        have h4 := HM.out.hl
        subst e1 e2 e3 e4
        refine ⟨_, rfl, ?_, ((((hb.setCell (by simp) _).setCell (by simp) _).setCell (by simp) _).setCell (by simp) _).setCell (by simp) _⟩
        exact ⟨_, _, _, _, rfl, (tn_five h1 HQ.out _ _ _ _ _).isO, (tn_five h2 HQ.out _ _ _ _ _).isO, (tn_five h3 HQ.out _ _ _ _ _).isO, (tn_five h4 HQ.out _ _ _ _ _).isO⟩
      · obtain ⟨y, hy⟩ := Int.eq_ofNat_of_zero_le (show 0 ≤ -X by omega)
        have hneg : -X = (y : Int) := hy
        go_enter Tryd.func36, Tryd.ntmps36
        go_wp2_with fail
        refine (HP.out _).mono ?_
        rintro e w1 ⟨rfl, rfl⟩
        go_wp2_with fail
        refine (HS2.out _).mono ?_
        rintro e w2 ⟨v0, rfl, hv, hb2⟩
        obtain ⟨A0, l0, rfl, hT0⟩ := isO_form hv
        have hres : w2.heap[w.heap.size]? = some (.cells #[.slice none 0 0, .slice none 0 0, .slice none 0 0, .slice none 0 0, .bool false] 59 (0, 0)) := (hb2.block _ (by simp)).trans (heap_alloc_new w _)
        have hbw : Below w.heap.size w w2 := raft (rnew w _) hb2
        have b1 := rnew w2 (.cells #[.int .u32 2] 53)
        have b2 := rnew (w2.alloc (.cells #[.int .u32 2] 53)) (.cells #[.int .u32 1] 53)
        have b3 := rnew ((w2.alloc (.cells #[.int .u32 2] 53)).alloc (.cells #[.int .u32 1] 53)) (.cells #[.int .u32 1] 53)
        have hM : Mg5 w ((((w2.alloc (.cells #[.int .u32 2] 53)).alloc (.cells #[.int .u32 1] 53)).alloc (.cells #[.int .u32 1] 53)).alloc (.cells #[.slice A0 l0 l0, .slice (some ⟨w2.heap.size, 0, none⟩) 1 1, .slice (some ⟨w2.heap.size + 1, 0, none⟩) 1 1, .slice (some ⟨w2.heap.size + 1 + 1, 0, none⟩) 1 1, .bool ev] 59)) (w2.heap.size + 1 + 1 + 1) A0 l0 (some ⟨w2.heap.size, 0, none⟩) 1 (some ⟨w2.heap.size + 1, 0, none⟩) 1 (some ⟨w2.heap.size + 1 + 1, 0, none⟩) 1 (2 * F) 2 1 1 ev := by
          have h := Mg5.new (ev := ev) (raft hbw (raft b1 (raft b2 b3))) (hT0.later (raft b1 (raft b2 b3))) ((tn_new w2 2 (by omega) (by omega)).later (raft b2 b3)) ((tn_new (w2.alloc (.cells #[.int .u32 2] 53)) 1 (by omega) (by omega)).later b3) (tn_new ((w2.alloc (.cells #[.int .u32 2] 53)).alloc (.cells #[.int .u32 1] 53)) 1 (by omega) (by omega))
          simpa only [World.size_alloc] using h
        have HM := Lib.hid hM
        have hz := blkc_lt hres
        have HR0 : Hid (∀ W : World, Below w2.heap.size w2 W → W.heap[w.heap.size]? = some (.cells #[.slice none 0 0, .slice none 0 0, .slice none 0 0, .slice none 0 0, .bool false] 59 (0, 0))) := Lib.hid (fun W hW => (hW.block _ hz).trans hres)
        have HBB := Lib.hid (raft b1 (raft b2 (raft b3 (rnew (((w2.alloc (.cells #[.int .u32 2] 53)).alloc (.cells #[.int .u32 1] 53)).alloc (.cells #[.int .u32 1] 53)) (.cells #[.slice A0 l0 l0, .slice (some ⟨w2.heap.size, 0, none⟩) 1 1, .slice (some ⟨w2.heap.size + 1, 0, none⟩) 1 1, .slice (some ⟨w2.heap.size + 1 + 1, 0, none⟩) 1 1, .bool ev] 59)))))
        have hgz : w.heap.size < w2.heap.size + 1 + 1 + 1 := by omega
        clear hv hb2 hT0 hM b1 b2 b3 hres hbw
        go_wp2_with fail
        refine (HS4.out _).mono ?_
        rintro en w6 ⟨v4, rfl, hv4, hb6⟩
        obtain ⟨A4, l4, rfl, hT4⟩ := isO_form hv4
        generalize hg : w2.heap.size + 1 + 1 + 1 = g at *
        have hMM := HM.out.later hb6
        have c1 := rnew w6 (.cells #[.int .u32 4] 53)
        have c2 := rnew (w6.alloc (.cells #[.int .u32 4] 53)) (.cells #[.int .u32 2] 53)
        have hM1 := hMM.later (raft c1 c2)
        have hQ1 := HR0.out _ (raft HBB.out (raft hb6 (raft c1 c2)))
        have h4 := (tn_new w6 4 (by omega) (by omega)).later c2
        have h2 := tn_new (w6.alloc (.cells #[.int .u32 4] 53)) 2 (by omega) (by omega)
        rw [World.size_alloc] at h2
        obtain ⟨k0, k1, k2, k3, k4, f0, f1, f2, f3, f4⟩ := blkc5 hMM.blk
        have hzg := blkc_lt hMM.blk
        have HM1 := Lib.hid (((hM1.setr (hT4.later (raft c1 c2))).sets (h4.apart hM1)).setm ((h2.apart hM1).apart (hM1.setr (hT4.later (raft c1 c2)))))
        have hne := fun (W : World) (i : Nat) (u : Value) => Below.heap_setCell W ⟨g, i, none⟩ u w.heap.size (show w.heap.size ≠ g by omega)
        have HQ1 : Hid ((((((w6.alloc (.cells #[.int .u32 4] 53)).alloc (.cells #[.int .u32 2] 53)).setCell ⟨g, 0, none⟩ (.slice A4 l4 l4)).setCell ⟨g, 1, none⟩ (.slice (some ⟨w6.heap.size, 0, none⟩) 1 1)).setCell ⟨g, 2, none⟩ (.slice (some ⟨w6.heap.size + 1, 0, none⟩) 1 1)).heap[w.heap.size]? = some (.cells #[.slice none 0 0, .slice none 0 0, .slice none 0 0, .slice none 0 0, .bool false] 59 (0, 0))) := Lib.hid (by rw [hne, hne, hne]; exact hQ1)
        have eW : ((((w6.alloc (.cells #[.int .u32 4] 53)).alloc (.cells #[.int .u32 2] 53)).setCell ⟨g, 0, none⟩ (.slice A4 l4 l4)).setCell ⟨g, 1, none⟩ (.slice (some ⟨w6.heap.size, 0, none⟩) 1 1)).setCell ⟨g, 2, none⟩ (.slice (some ⟨w6.heap.size + 1, 0, none⟩) 1 1) = ((((w6.setCell ⟨g, 0, none⟩ (.slice A4 l4 l4)).setCell ⟨g, 1, none⟩ (.slice (some ⟨w6.heap.size, 0, none⟩) 1 1)).setCell ⟨g, 2, none⟩ (.slice (some ⟨w6.heap.size + 1, 0, none⟩) 1 1)).alloc (.cells #[.int .u32 4] 53)).alloc (.cells #[.int .u32 2] 53) := by
          simp [World.setCell_alloc_past, hzg, show g < w6.heap.size + 1 by omega]
        rw [eW] at HM1 HQ1
        clear hv4 hb6 hT4 hMM c1 c2 hM1 hQ1 h4 h2 hne HM HR0 HBB eW
        go_upto_if 36 with fail
        generalize ((((w6.setCell ⟨g, 0, none⟩ (.slice A4 l4 l4)).setCell ⟨g, 1, none⟩ (.slice (some ⟨w6.heap.size, 0, none⟩) 1 1)).setCell ⟨g, 2, none⟩ (.slice (some ⟨w6.heap.size + 1, 0, none⟩) 1 1)).alloc (.cells #[.int .u32 4] 53)).alloc (.cells #[.int .u32 2] 53) = wm at *
        have HM := HM1
        have HQ := HQ1
        clear k0 k1 k2 k3 k4 f0 f1 f2 f3 f4 hzg
        obtain ⟨k0, k1, k2, k3, k4, f0, f1, f2, f3, f4⟩ := blkc5 HM.out.blk
        have hzg := blkc_lt HM.out.blk
        go_wp2_with fail
        refine (HSh.out _ _ _ HM.out.hs.isT HBL.out.2.2.2.2 y (by omega)).mono ?_
        rintro en wn ⟨vt, rfl, ⟨va, ve, rfl, hva, rfl⟩, hbn⟩
        obtain ⟨An, ln, rfl, hTn⟩ := isO_form hva
        have HM := Lib.hid (HM.out.later hbn)
        have HTn := Lib.hid hTn
        have HQ := Lib.hid ((hbn.block _ (blkc_lt HQ.out)).trans HQ.out)
        clear hva hTn hbn k0 k1 k2 k3 k4 f0 f1 f2 f3 f4 hzg
        obtain ⟨k0, k1, k2, k3, k4, f0, f1, f2, f3, f4⟩ := blkc5 HM.out.blk
        have hzg := blkc_lt HM.out.blk
        have HM := Lib.hid (HM.out.sets HTn.out)
        have HQ := Lib.hid ((Below.heap_setCell wn ⟨g, 1, none⟩ (.slice An ln ln) w.heap.size (show w.heap.size ≠ g by omega)).trans HQ.out)
        clear HTn
        go_upto_region 10 with fail
        generalize wn.setCell ⟨g, 1, none⟩ (.slice An ln ln) = wm at *
        clear k0 k1 k2 k3 k4 f0 f1 f2 f3 f4 hzg
        obtain ⟨k0, k1, k2, k3, k4, f0, f1, f2, f3, f4⟩ := blkc5 HM.out.blk
        have hzg := blkc_lt HM.out.blk
        obtain ⟨r0, r1, r2, r3, r4, g0, g1, g2, g3, g4⟩ := blkc5 HQ.out
        go_wp2
        refine bodyPost_ret (v := _) (by simp [results, Tryd.results36, go_sem, r0, r1, r2, r3, r4]; rfl) rfl ?_
        have hb := HM.out.bl
        have hRES := HRES.out
        have z0 : X.toNat = 0 := by omega
        have z1 : (-X).toNat = y := by omega
        have e1 : 4 * F = R := by rw [← hRES.1]; simp [z0, z1]
        have e2 : 4 * 2 ^ y = S := by rw [← hRES.2.1]; simp [z0, z1]
        have e3 : 2 = M := by rw [← hRES.2.2.1]; simp [z0, z1]
        have e4 : 1 = L := by rw [← hRES.2.2.2]; simp [z0, z1]
        have h1 := HM.out.hr
        have h2 := HM.out.hs
        have h3 := HM.out.hm
        have h4 := HM.out.hl
        subst e1 e2 e3 e4
        refine ⟨_, rfl, ?_, ((((hb.setCell (by simp) _).setCell (by simp) _).setCell (by simp) _).setCell (by simp) _).setCell (by simp) _⟩
        exact ⟨_, _, _, _, rfl, (tn_five h1 HQ.out _ _ _ _ _).isO, (tn_five h2 HQ.out _ _ _ _ _).isO, (tn_five h3 HQ.out _ _ _ _ _).isO, (tn_five h4 HQ.out _ _ _ _ _).isO⟩
    · have hed : ed = false := by cases ed; rfl; exact absurd (HED.out.1 rfl).2 hXX
      subst hed
      obtain ⟨y, hy⟩ := Int.eq_ofNat_of_zero_le (show 0 ≤ -X by omega)
      have hpos : ¬ 0 < X := by omega
      have HF52 := Lib.hid hF52
      clear hF52
      go_enter Tryd.func36, Tryd.ntmps36
      go_wp2_with fail
      refine (HP.out _).mono ?_
      rintro e w1 ⟨rfl, rfl⟩
      go_wp2_with fail
      refine (HS2.out _).mono ?_
      rintro e w2 ⟨v0, rfl, hv, hb2⟩
      obtain ⟨A0, l0, rfl, hT0⟩ := isO_form hv
      have hres : w2.heap[w.heap.size]? = some (.cells #[.slice none 0 0, .slice none 0 0, .slice none 0 0, .slice none 0 0, .bool false] 59 (0, 0)) := (hb2.block _ (by simp)).trans (heap_alloc_new w _)
      have hbw : Below w.heap.size w w2 := raft (rnew w _) hb2
      have b1 := rnew w2 (.cells #[.int .u32 2] 53)
      have b2 := rnew (w2.alloc (.cells #[.int .u32 2] 53)) (.cells #[.int .u32 1] 53)
      have b3 := rnew ((w2.alloc (.cells #[.int .u32 2] 53)).alloc (.cells #[.int .u32 1] 53)) (.cells #[.int .u32 1] 53)
      have hM : Mg5 w ((((w2.alloc (.cells #[.int .u32 2] 53)).alloc (.cells #[.int .u32 1] 53)).alloc (.cells #[.int .u32 1] 53)).alloc (.cells #[.slice A0 l0 l0, .slice (some ⟨w2.heap.size, 0, none⟩) 1 1, .slice (some ⟨w2.heap.size + 1, 0, none⟩) 1 1, .slice (some ⟨w2.heap.size + 1 + 1, 0, none⟩) 1 1, .bool ev] 59)) (w2.heap.size + 1 + 1 + 1) A0 l0 (some ⟨w2.heap.size, 0, none⟩) 1 (some ⟨w2.heap.size + 1, 0, none⟩) 1 (some ⟨w2.heap.size + 1 + 1, 0, none⟩) 1 (2 * F) 2 1 1 ev := by
        have h := Mg5.new (ev := ev) (raft hbw (raft b1 (raft b2 b3))) (hT0.later (raft b1 (raft b2 b3))) ((tn_new w2 2 (by omega) (by omega)).later (raft b2 b3)) ((tn_new (w2.alloc (.cells #[.int .u32 2] 53)) 1 (by omega) (by omega)).later b3) (tn_new ((w2.alloc (.cells #[.int .u32 2] 53)).alloc (.cells #[.int .u32 1] 53)) 1 (by omega) (by omega))
        simpa only [World.size_alloc] using h
      have HM := Lib.hid hM
      have hz := blkc_lt hres
      have HR0 : Hid (∀ W : World, Below w2.heap.size w2 W → W.heap[w.heap.size]? = some (.cells #[.slice none 0 0, .slice none 0 0, .slice none 0 0, .slice none 0 0, .bool false] 59 (0, 0))) := Lib.hid (fun W hW => (hW.block _ hz).trans hres)
      have HBB := Lib.hid (raft b1 (raft b2 (raft b3 (rnew (((w2.alloc (.cells #[.int .u32 2] 53)).alloc (.cells #[.int .u32 1] 53)).alloc (.cells #[.int .u32 1] 53)) (.cells #[.slice A0 l0 l0, .slice (some ⟨w2.heap.size, 0, none⟩) 1 1, .slice (some ⟨w2.heap.size + 1, 0, none⟩) 1 1, .slice (some ⟨w2.heap.size + 1 + 1, 0, none⟩) 1 1, .bool ev] 59)))))
      have hgz : w.heap.size < w2.heap.size + 1 + 1 + 1 := by omega
      clear hv hb2 hT0 hM b1 b2 b3 hres hbw
      go_upto_if 36 with fail
      have HQ := Lib.hid (HR0.out _ HBB.out)
      clear HR0 HBB
      generalize (((w2.alloc (.cells #[.int .u32 2] 53)).alloc (.cells #[.int .u32 1] 53)).alloc (.cells #[.int .u32 1] 53)).alloc (.cells #[.slice A0 l0 l0, .slice (some ⟨w2.heap.size, 0, none⟩) 1 1, .slice (some ⟨w2.heap.size + 1, 0, none⟩) 1 1, .slice (some ⟨w2.heap.size + 1 + 1, 0, none⟩) 1 1, .bool ev] 59) = wm at *
      generalize hg : w2.heap.size + 1 + 1 + 1 = g at *
      obtain ⟨k0, k1, k2, k3, k4, f0, f1, f2, f3, f4⟩ := blkc5 HM.out.blk
      have hzg := blkc_lt HM.out.blk
      go_wp2_with fail
      refine (HSh.out _ _ _ HM.out.hs.isT HBL.out.2.2.2.1 y (by omega)).mono ?_
      rintro en wn ⟨vt, rfl, ⟨va, ve, rfl, hva, rfl⟩, hbn⟩
      obtain ⟨An, ln, rfl, hTn⟩ := isO_form hva
      have HM := Lib.hid (HM.out.later hbn)
      have HTn := Lib.hid hTn
      have HQ := Lib.hid ((hbn.block _ (blkc_lt HQ.out)).trans HQ.out)
      clear hva hTn hbn k0 k1 k2 k3 k4 f0 f1 f2 f3 f4 hzg
      obtain ⟨k0, k1, k2, k3, k4, f0, f1, f2, f3, f4⟩ := blkc5 HM.out.blk
      have hzg := blkc_lt HM.out.blk
      have HM := Lib.hid (HM.out.sets HTn.out)
      have HQ := Lib.hid ((Below.heap_setCell wn ⟨g, 1, none⟩ (.slice An ln ln) w.heap.size (show w.heap.size ≠ g by omega)).trans HQ.out)
      clear HTn
      go_upto_region 10 with fail
      generalize wn.setCell ⟨g, 1, none⟩ (.slice An ln ln) = wm at *
      clear k0 k1 k2 k3 k4 f0 f1 f2 f3 f4 hzg
      obtain ⟨k0, k1, k2, k3, k4, f0, f1, f2, f3, f4⟩ := blkc5 HM.out.blk
      have hzg := blkc_lt HM.out.blk
      obtain ⟨r0, r1, r2, r3, r4, g0, g1, g2, g3, g4⟩ := blkc5 HQ.out
      go_wp2
      refine bodyPost_ret (v := _) (by simp [results, Tryd.results36, go_sem, r0, r1, r2, r3, r4]; rfl) rfl ?_
      have hb := HM.out.bl
      have hRES := HRES.out
      have z0 : X.toNat = 0 := by omega
      have z1 : (-X).toNat = y := by omega
      have e1 : 2 * F = R := by rw [← hRES.1]; simp [z0, z1]
      have e2 : 2 * 2 ^ y = S := by rw [← hRES.2.1]; simp [z0, z1]
      have e3 : 1 = M := by rw [← hRES.2.2.1]; simp [z0, z1]
      have e4 : 1 = L := by rw [← hRES.2.2.2]; simp [z0, z1]
      have h1 := HM.out.hr
      have h2 := HM.out.hs
      have h3 := HM.out.hm
      have h4 := HM.out.hl
      subst e1 e2 e3 e4
      refine ⟨_, rfl, ?_, ((((hb.setCell (by simp) _).setCell (by simp) _).setCell (by simp) _).setCell (by simp) _).setCell (by simp) _⟩
      exact ⟨_, _, _, _, rfl, (tn_five h1 HQ.out _ _ _ _ _).isO, (tn_five h2 HQ.out _ _ _ _ _).isO, (tn_five h3 HQ.out _ _ _ _ _).isO, (tn_five h4 HQ.out _ _ _ _ _).isO⟩
  · rw [decide_eq_false hF52] at hbF
    have hed : ed = false := by cases ed; rfl; exact absurd (HED.out.1 rfl).1 hF52
    subst hed
    clear hF52
    by_cases hpos : 0 < X
    · obtain ⟨x, rfl⟩ := Int.eq_ofNat_of_zero_le (show 0 ≤ X by omega)
      go_enter Tryd.func36, Tryd.ntmps36
      go_wp2_with fail
      refine (HP.out _).mono ?_
      rintro e w1 ⟨rfl, rfl⟩
      go_wp2_with fail
      refine (HS2.out _).mono ?_
      rintro e w2 ⟨v0, rfl, hv, hb2⟩
      obtain ⟨A0, l0, rfl, hT0⟩ := isO_form hv
      have hres : w2.heap[w.heap.size]? = some (.cells #[.slice none 0 0, .slice none 0 0, .slice none 0 0, .slice none 0 0, .bool false] 59 (0, 0)) := (hb2.block _ (by simp)).trans (heap_alloc_new w _)
      have hbw : Below w.heap.size w w2 := raft (rnew w _) hb2
      have b1 := rnew w2 (.cells #[.int .u32 2] 53)
      have b2 := rnew (w2.alloc (.cells #[.int .u32 2] 53)) (.cells #[.int .u32 1] 53)
      have b3 := rnew ((w2.alloc (.cells #[.int .u32 2] 53)).alloc (.cells #[.int .u32 1] 53)) (.cells #[.int .u32 1] 53)
      have hM : Mg5 w ((((w2.alloc (.cells #[.int .u32 2] 53)).alloc (.cells #[.int .u32 1] 53)).alloc (.cells #[.int .u32 1] 53)).alloc (.cells #[.slice A0 l0 l0, .slice (some ⟨w2.heap.size, 0, none⟩) 1 1, .slice (some ⟨w2.heap.size + 1, 0, none⟩) 1 1, .slice (some ⟨w2.heap.size + 1 + 1, 0, none⟩) 1 1, .bool ev] 59)) (w2.heap.size + 1 + 1 + 1) A0 l0 (some ⟨w2.heap.size, 0, none⟩) 1 (some ⟨w2.heap.size + 1, 0, none⟩) 1 (some ⟨w2.heap.size + 1 + 1, 0, none⟩) 1 (2 * F) 2 1 1 ev := by
        have h := Mg5.new (ev := ev) (raft hbw (raft b1 (raft b2 b3))) (hT0.later (raft b1 (raft b2 b3))) ((tn_new w2 2 (by omega) (by omega)).later (raft b2 b3)) ((tn_new (w2.alloc (.cells #[.int .u32 2] 53)) 1 (by omega) (by omega)).later b3) (tn_new ((w2.alloc (.cells #[.int .u32 2] 53)).alloc (.cells #[.int .u32 1] 53)) 1 (by omega) (by omega))
        simpa only [World.size_alloc] using h
      have HM := Lib.hid hM
      have hz := blkc_lt hres
      have HR0 : Hid (∀ W : World, Below w2.heap.size w2 W → W.heap[w.heap.size]? = some (.cells #[.slice none 0 0, .slice none 0 0, .slice none 0 0, .slice none 0 0, .bool false] 59 (0, 0))) := Lib.hid (fun W hW => (hW.block _ hz).trans hres)
      have HBB := Lib.hid (raft b1 (raft b2 (raft b3 (rnew (((w2.alloc (.cells #[.int .u32 2] 53)).alloc (.cells #[.int .u32 1] 53)).alloc (.cells #[.int .u32 1] 53)) (.cells #[.slice A0 l0 l0, .slice (some ⟨w2.heap.size, 0, none⟩) 1 1, .slice (some ⟨w2.heap.size + 1, 0, none⟩) 1 1, .slice (some ⟨w2.heap.size + 1 + 1, 0, none⟩) 1 1, .bool ev] 59)))))
      have hgz : w.heap.size < w2.heap.size + 1 + 1 + 1 := by omega
      clear hv hb2 hT0 hM b1 b2 b3 hres hbw
      go_upto_if 36 with fail
      have HQ := Lib.hid (HR0.out _ HBB.out)
      clear HR0 HBB
      generalize (((w2.alloc (.cells #[.int .u32 2] 53)).alloc (.cells #[.int .u32 1] 53)).alloc (.cells #[.int .u32 1] 53)).alloc (.cells #[.slice A0 l0 l0, .slice (some ⟨w2.heap.size, 0, none⟩) 1 1, .slice (some ⟨w2.heap.size + 1, 0, none⟩) 1 1, .slice (some ⟨w2.heap.size + 1 + 1, 0, none⟩) 1 1, .bool ev] 59) = wm at *
      generalize hg : w2.heap.size + 1 + 1 + 1 = g at *
      obtain ⟨k0, k1, k2, k3, k4, f0, f1, f2, f3, f4⟩ := blkc5 HM.out.blk
      have hzg := blkc_lt HM.out.blk
      go_wp2_with fail
      refine (HSh.out _ _ _ HM.out.hr.isT HBL.out.1 x (by omega)).mono ?_
      rintro en wn ⟨vt, rfl, ⟨va, ve, rfl, hva, rfl⟩, hbn⟩
      obtain ⟨An, ln, rfl, hTn⟩ := isO_form hva
      have HM := Lib.hid (HM.out.later hbn)
      have HTn := Lib.hid hTn
      have HQ := Lib.hid ((hbn.block _ (blkc_lt HQ.out)).trans HQ.out)
      clear hva hTn hbn k0 k1 k2 k3 k4 f0 f1 f2 f3 f4 hzg
      obtain ⟨k0, k1, k2, k3, k4, f0, f1, f2, f3, f4⟩ := blkc5 HM.out.blk
      have hzg := blkc_lt HM.out.blk
      have HM := Lib.hid (HM.out.setr HTn.out)
      have HQ := Lib.hid ((Below.heap_setCell wn ⟨g, 0, none⟩ (.slice An ln ln) w.heap.size (show w.heap.size ≠ g by omega)).trans HQ.out)
      clear HTn
      go_upto_region 7 with fail
      generalize wn.setCell ⟨g, 0, none⟩ (.slice An ln ln) = wm at *
      clear k0 k1 k2 k3 k4 f0 f1 f2 f3 f4 hzg
      obtain ⟨k0, k1, k2, k3, k4, f0, f1, f2, f3, f4⟩ := blkc5 HM.out.blk
      have hzg := blkc_lt HM.out.blk
      go_wp2_with fail
      refine (HSh.out _ _ _ HM.out.hm.isT HBL.out.2.2.1 x (by omega)).mono ?_
      rintro en wn ⟨vt, rfl, ⟨va, ve, rfl, hva, rfl⟩, hbn⟩
      obtain ⟨An, ln, rfl, hTn⟩ := isO_form hva
      have HM := Lib.hid (HM.out.later hbn)
      have HTn := Lib.hid hTn
      have HQ := Lib.hid ((hbn.block _ (blkc_lt HQ.out)).trans HQ.out)
      clear hva hTn hbn k0 k1 k2 k3 k4 f0 f1 f2 f3 f4 hzg
      obtain ⟨k0, k1, k2, k3, k4, f0, f1, f2, f3, f4⟩ := blkc5 HM.out.blk
      have hzg := blkc_lt HM.out.blk
      have HM := Lib.hid (HM.out.setm HTn.out)
      have HQ := Lib.hid ((Below.heap_setCell wn ⟨g, 2, none⟩ (.slice An ln ln) w.heap.size (show w.heap.size ≠ g by omega)).trans HQ.out)
      clear HTn
      go_upto_region 8 with fail
      generalize wn.setCell ⟨g, 2, none⟩ (.slice An ln ln) = wm at *
      clear k0 k1 k2 k3 k4 f0 f1 f2 f3 f4 hzg
      obtain ⟨k0, k1, k2, k3, k4, f0, f1, f2, f3, f4⟩ := blkc5 HM.out.blk
      have hzg := blkc_lt HM.out.blk
      go_wp2_with fail
      refine (HSh.out _ _ _ HM.out.hl.isT HBL.out.2.2.1 x (by omega)).mono ?_
      rintro en wn ⟨vt, rfl, ⟨va, ve, rfl, hva, rfl⟩, hbn⟩
      obtain ⟨An, ln, rfl, hTn⟩ := isO_form hva
      have HM := Lib.hid (HM.out.later hbn)
      have HTn := Lib.hid hTn
      have HQ := Lib.hid ((hbn.block _ (blkc_lt HQ.out)).trans HQ.out)
      clear hva hTn hbn k0 k1 k2 k3 k4 f0 f1 f2 f3 f4 hzg
      obtain ⟨k0, k1, k2, k3, k4, f0, f1, f2, f3, f4⟩ := blkc5 HM.out.blk
      have hzg := blkc_lt HM.out.blk
      have HM := Lib.hid (HM.out.setl HTn.out)
      have HQ := Lib.hid ((Below.heap_setCell wn ⟨g, 3, none⟩ (.slice An ln ln) w.heap.size (show w.heap.size ≠ g by omega)).trans HQ.out)
      clear HTn
      go_upto_region 10 with fail
      generalize wn.setCell ⟨g, 3, none⟩ (.slice An ln ln) = wm at *
      clear k0 k1 k2 k3 k4 f0 f1 f2 f3 f4 hzg
      obtain ⟨k0, k1, k2, k3, k4, f0, f1, f2, f3, f4⟩ := blkc5 HM.out.blk
      have hzg := blkc_lt HM.out.blk
      obtain ⟨r0, r1, r2, r3, r4, g0, g1, g2, g3, g4⟩ := blkc5 HQ.out
      go_wp2
      refine bodyPost_ret (v := _) (by simp [results, Tryd.results36, go_sem, r0, r1, r2, r3, r4]; rfl) rfl ?_
      have hb := HM.out.bl
      have hRES := HRES.out
      have z0 : (-(x : Int)).toNat = 0 := by omega
      have z1 : ((x : Nat) : Int).toNat = x := by omega
      have e1 : 2 * F * 2 ^ x = R := by rw [← hRES.1]; simp [z0, z1]
      have e2 : 2 = S := by rw [← hRES.2.1]; simp [z0, z1]
      have e3 : 1 * 2 ^ x = M := by rw [← hRES.2.2.1]; simp [z0, z1]
      have e4 : 1 * 2 ^ x = L := by rw [← hRES.2.2.2]; simp [z0, z1]
      have h1 := HM.out.hr
      have h2 := HM.out.hs
      have h3 := HM.out.hm
      have h4 := HM.out.hl
      subst e1 e2 e3 e4
      refine ⟨_, rfl, ?_, ((((hb.setCell (by simp) _).setCell (by simp) _).setCell (by simp) _).setCell (by simp) _).setCell (by simp) _⟩
      exact ⟨_, _, _, _, rfl, (tn_five h1 HQ.out _ _ _ _ _).isO, (tn_five h2 HQ.out _ _ _ _ _).isO, (tn_five h3 HQ.out _ _ _ _ _).isO, (tn_five h4 HQ.out _ _ _ _ _).isO⟩
    · obtain ⟨y, hy⟩ := Int.eq_ofNat_of_zero_le (show 0 ≤ -X by omega)
      go_enter Tryd.func36, Tryd.ntmps36
      go_wp2_with fail
      refine (HP.out _).mono ?_
      rintro e w1 ⟨rfl, rfl⟩
      go_wp2_with fail
      refine (HS2.out _).mono ?_
      rintro e w2 ⟨v0, rfl, hv, hb2⟩
      obtain ⟨A0, l0, rfl, hT0⟩ := isO_form hv
      have hres : w2.heap[w.heap.size]? = some (.cells #[.slice none 0 0, .slice none 0 0, .slice none 0 0, .slice none 0 0, .bool false] 59 (0, 0)) := (hb2.block _ (by simp)).trans (heap_alloc_new w _)
      have hbw : Below w.heap.size w w2 := raft (rnew w _) hb2
      have b1 := rnew w2 (.cells #[.int .u32 2] 53)
      have b2 := rnew (w2.alloc (.cells #[.int .u32 2] 53)) (.cells #[.int .u32 1] 53)
      have b3 := rnew ((w2.alloc (.cells #[.int .u32 2] 53)).alloc (.cells #[.int .u32 1] 53)) (.cells #[.int .u32 1] 53)
      have hM : Mg5 w ((((w2.alloc (.cells #[.int .u32 2] 53)).alloc (.cells #[.int .u32 1] 53)).alloc (.cells #[.int .u32 1] 53)).alloc (.cells #[.slice A0 l0 l0, .slice (some ⟨w2.heap.size, 0, none⟩) 1 1, .slice (some ⟨w2.heap.size + 1, 0, none⟩) 1 1, .slice (some ⟨w2.heap.size + 1 + 1, 0, none⟩) 1 1, .bool ev] 59)) (w2.heap.size + 1 + 1 + 1) A0 l0 (some ⟨w2.heap.size, 0, none⟩) 1 (some ⟨w2.heap.size + 1, 0, none⟩) 1 (some ⟨w2.heap.size + 1 + 1, 0, none⟩) 1 (2 * F) 2 1 1 ev := by
        have h := Mg5.new (ev := ev) (raft hbw (raft b1 (raft b2 b3))) (hT0.later (raft b1 (raft b2 b3))) ((tn_new w2 2 (by omega) (by omega)).later (raft b2 b3)) ((tn_new (w2.alloc (.cells #[.int .u32 2] 53)) 1 (by omega) (by omega)).later b3) (tn_new ((w2.alloc (.cells #[.int .u32 2] 53)).alloc (.cells #[.int .u32 1] 53)) 1 (by omega) (by omega))
        simpa only [World.size_alloc] using h
      have HM := Lib.hid hM
      have hz := blkc_lt hres
      have HR0 : Hid (∀ W : World, Below w2.heap.size w2 W → W.heap[w.heap.size]? = some (.cells #[.slice none 0 0, .slice none 0 0, .slice none 0 0, .slice none 0 0, .bool false] 59 (0, 0))) := Lib.hid (fun W hW => (hW.block _ hz).trans hres)
      have HBB := Lib.hid (raft b1 (raft b2 (raft b3 (rnew (((w2.alloc (.cells #[.int .u32 2] 53)).alloc (.cells #[.int .u32 1] 53)).alloc (.cells #[.int .u32 1] 53)) (.cells #[.slice A0 l0 l0, .slice (some ⟨w2.heap.size, 0, none⟩) 1 1, .slice (some ⟨w2.heap.size + 1, 0, none⟩) 1 1, .slice (some ⟨w2.heap.size + 1 + 1, 0, none⟩) 1 1, .bool ev] 59)))))
      have hgz : w.heap.size < w2.heap.size + 1 + 1 + 1 := by omega
      clear hv hb2 hT0 hM b1 b2 b3 hres hbw
      go_upto_if 36 with fail
      have HQ := Lib.hid (HR0.out _ HBB.out)
      clear HR0 HBB
      generalize (((w2.alloc (.cells #[.int .u32 2] 53)).alloc (.cells #[.int .u32 1] 53)).alloc (.cells #[.int .u32 1] 53)).alloc (.cells #[.slice A0 l0 l0, .slice (some ⟨w2.heap.size, 0, none⟩) 1 1, .slice (some ⟨w2.heap.size + 1, 0, none⟩) 1 1, .slice (some ⟨w2.heap.size + 1 + 1, 0, none⟩) 1 1, .bool ev] 59) = wm at *
      generalize hg : w2.heap.size + 1 + 1 + 1 = g at *
      obtain ⟨k0, k1, k2, k3, k4, f0, f1, f2, f3, f4⟩ := blkc5 HM.out.blk
      have hzg := blkc_lt HM.out.blk
      go_wp2_with fail
      refine (HSh.out _ _ _ HM.out.hs.isT HBL.out.2.2.2.1 y (by omega)).mono ?_
      rintro en wn ⟨vt, rfl, ⟨va, ve, rfl, hva, rfl⟩, hbn⟩
      obtain ⟨An, ln, rfl, hTn⟩ := isO_form hva
      have HM := Lib.hid (HM.out.later hbn)
      have HTn := Lib.hid hTn
      have HQ := Lib.hid ((hbn.block _ (blkc_lt HQ.out)).trans HQ.out)
      clear hva hTn hbn k0 k1 k2 k3 k4 f0 f1 f2 f3 f4 hzg
      obtain ⟨k0, k1, k2, k3, k4, f0, f1, f2, f3, f4⟩ := blkc5 HM.out.blk
      have hzg := blkc_lt HM.out.blk
      have HM := Lib.hid (HM.out.sets HTn.out)
      have HQ := Lib.hid ((Below.heap_setCell wn ⟨g, 1, none⟩ (.slice An ln ln) w.heap.size (show w.heap.size ≠ g by omega)).trans HQ.out)
      clear HTn
      go_upto_region 10 with fail
      generalize wn.setCell ⟨g, 1, none⟩ (.slice An ln ln) = wm at *
      clear k0 k1 k2 k3 k4 f0 f1 f2 f3 f4 hzg
      obtain ⟨k0, k1, k2, k3, k4, f0, f1, f2, f3, f4⟩ := blkc5 HM.out.blk
      have hzg := blkc_lt HM.out.blk
      obtain ⟨r0, r1, r2, r3, r4, g0, g1, g2, g3, g4⟩ := blkc5 HQ.out
      go_wp2
      refine bodyPost_ret (v := _) (by simp [results, Tryd.results36, go_sem, r0, r1, r2, r3, r4]; rfl) rfl ?_
      have hb := HM.out.bl
      have hRES := HRES.out
      have z0 : X.toNat = 0 := by omega
      have z1 : (-X).toNat = y := by omega
      have e1 : 2 * F = R := by rw [← hRES.1]; simp [z0, z1]
      have e2 : 2 * 2 ^ y = S := by rw [← hRES.2.1]; simp [z0, z1]
      have e3 : 1 = M := by rw [← hRES.2.2.1]; simp [z0, z1]
      have e4 : 1 = L := by rw [← hRES.2.2.2]; simp [z0, z1]
      have h1 := HM.out.hr
      have h2 := HM.out.hs
      have h3 := HM.out.hm
      have h4 := HM.out.hl
      subst e1 e2 e3 e4
      refine ⟨_, rfl, ?_, ((((hb.setCell (by simp) _).setCell (by simp) _).setCell (by simp) _).setCell (by simp) _).setCell (by simp) _⟩
      exact ⟨_, _, _, _, rfl, (tn_five h1 HQ.out _ _ _ _ _).isO, (tn_five h2 HQ.out _ _ _ _ _).isO, (tn_five h3 HQ.out _ _ _ _ _).isO, (tn_five h4 HQ.out _ _ _ _ _).isO⟩
end Go.Proofs.YtiadjcilfljdaaaDoor
