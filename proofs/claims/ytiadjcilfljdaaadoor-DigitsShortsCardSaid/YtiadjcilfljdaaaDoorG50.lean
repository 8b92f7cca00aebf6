/- Layer 5, the program: Short of a number that is not 0: the walk. -/
import Derived.Test.YtiadjcilfljdaaaDoorG44
import Derived.Test.YtiadjcilfljdaaaDoorG19
namespace Go.Proofs.YtiadjcilfljdaaaDoor
set_option linter.unusedVariables false
set_option linter.unusedSimpArgs false
open Go.RowKit Verge

theorem blkc_set4 {w : World} {r : Nat} {a b c d e u : Value} {t : TypeId} (h : w.heap[r]? = some (.cells #[a, b, c, d, e] t (0, 0))) : (w.setCell ⟨r, 4, none⟩ u).heap[r]? = some (.cells #[a, b, c, d, u] t (0, 0)) := by
  simp [World.setCell, Array.getElem?_modify, h]
theorem Mg5.setall {w wr : World} {g : Nat} {Ar As Am Al Br Bs Bm Bl : Option Addr} {lr ls lm ll nr ns nm nl r s m l r' s' m' l' : Nat} {ev : Bool} (h : Mg5 w wr g Ar lr As ls Am lm Al ll r s m l ev) (h1 : Tn r' Br nr wr) (h2 : Tn s' Bs ns wr) (h3 : Tn m' Bm nm wr) (h4 : Tn l' Bl nl wr) :
    Mg5 w (((((wr.setCell ⟨g, 0, none⟩ (.slice Br nr nr)).setCell ⟨g, 1, none⟩ (.slice Bs ns ns)).setCell ⟨g, 2, none⟩ (.slice Bm nm nm)).setCell ⟨g, 3, none⟩ (.slice Bl nl nl)).setCell ⟨g, 4, none⟩ (.bool ev)) g Br nr Bs ns Bm nm Bl nl r' s' m' l' ev := by
  have a1 := h.setr h1
  have a2 := a1.sets (h2.apart h)
  have a3 := a2.setm ((h3.apart h).apart a1)
  have a4 := a3.setl (((h4.apart h).apart a1).apart a2)
  refine ⟨a4.bl.setCell a4.hg _, ?_, a4.hg, a4.hr.apart a4, a4.hs.apart a4, a4.hm.apart a4, a4.hl.apart a4⟩
  exact blkc_set4 a4.blk
/-- Ten times the number over ten times the scale. -/
theorem hi_scale {R S M k : Nat} {ev : Bool} : hiB (R * 10 ^ 0 * 10) (S * 10 ^ (k + 1)) (M * 10 ^ 0 * 10) ev = hiB R (S * 10 ^ k) M ev := by
  unfold hiB
  rw [Nat.pow_zero, Nat.mul_one, Nat.mul_one, Nat.pow_succ, ← Nat.mul_assoc]
  refine decide_eq_decide.2 ?_
  generalize S * 10 ^ k = s
  constructor
  · rintro (h | ⟨h, e⟩)
    · left; omega
    · right; exact ⟨by omega, e⟩
  · rintro (h | ⟨h, e⟩)
    · left; omega
    · right; exact ⟨by omega, e⟩
theorem GrowB.set1 {w wr : World} {g : Nat} {Ar As Am Al : Option Addr} {lr ls lm ll r s m l B i : Nat} {ev : Bool} {v u : Value} {xs : List UInt8} (h : GrowB wr B v xs) (hM : Mg5 w wr g Ar lr As ls Am lm Al ll r s m l ev) : GrowB (wr.setCell ⟨g, i, none⟩ u) B v xs := by
  refine World.ownsRow.kept (row := some g) h ⟨rfl, rfl, rfl, by simp [World.setCell], fun k hk hne => Below.heap_setCell wr ⟨g, i, none⟩ u k (fun e => hne (by rw [e]))⟩ ?_
  rcases h.2 with ⟨rfl, _⟩ | ⟨g', cap, cur, rfl, _, h2, _⟩
  · exact .inl rfl
  · right
    simp only [Value.ownBlock, ne_eq, Option.some.injEq]
    rintro rfl
    have := hM.blk
    rw [h2] at this
    simp at this
theorem GrowB.set5 {w wr : World} {g : Nat} {Ar As Am Al : Option Addr} {lr ls lm ll r s m l r' m' B : Nat} {ev : Bool} {v u0 u2 u3 : Value} {xs : List UInt8} {A1 A2 : Option Addr} {n1 n2 : Nat} (h : GrowB wr B v xs)
    (hM : Mg5 w wr g Ar lr As ls Am lm Al ll r s m l ev ∧ Mg5 w (wr.setCell ⟨g, 0, none⟩ u0) g A1 n1 As ls Am lm Al ll r' s m l ev ∧ Mg5 w ((wr.setCell ⟨g, 0, none⟩ u0).setCell ⟨g, 2, none⟩ u2) g A1 n1 As ls A2 n2 Al ll r' s m' l ev) :
    GrowB (((wr.setCell ⟨g, 0, none⟩ u0).setCell ⟨g, 2, none⟩ u2).setCell ⟨g, 3, none⟩ u3) B v xs := ((h.set1 hM.1).set1 hM.2.1).set1 hM.2.2
theorem byte_of {v : Nat} (hv : v ≤ 9) : (((UInt8.ofNat (48 + v)).toNat : Nat) : Int) = 48 + (v : Int) := by
  rw [UInt8.toNat_ofNat']; omega
theorem txt_push {n P v : Nat} (h : n = P * 10 + v) (hv : v ≤ 9) (h0 : 1 ≤ n) : txt P ++ [UInt8.ofNat (48 + v)] = txt n := by
  rw [txt_step (n := n) h0, show n / 10 = P by omega, show n % 10 = v by omega]
/-- append(l, x) of a byte, and what it touches. -/
theorem wpList_pushC {w : World} {ops : Array Oper} {rest : List Oper} {o : Oper} {a : Act} {Q : Exit → Act → World → Prop} (hgd : o.guard = none) (s x : Operand)
    (ho : o.op = .call { callee := .builtin .append, args := #[s, x], argTypes := #[63, 63] })
    (B : Nat) (v : Value) (xs : List UInt8) (hs : a.eval s = v) (W : World) (zI : Int) (z : UInt8) (hw : w = W.alloc (.cells #[.int .u8 zI] 5)) (hz : (z.toNat : Int) = zI) (hown : GrowB W B v xs)
    (hx : a.eval x = .slice (some ⟨W.heap.size, 0, none⟩) 1 1) (hb : xs.length + 1 ≤ 35184372088832) (hB : B ≤ W.heap.size)
    (h : ∀ v' w', GrowB w' B v' (xs ++ [z]) → (W.alloc (.cells #[.int .u8 zI] 5)).grownBy w' v.ownBlock → wpList Tryd.prog ops Q rest (a.put o.dst v') w') : wpList Tryd.prog ops Q (o :: rest) a w := by
  subst hw hz
  obtain ⟨i0, hi, hz0, hz1, hz2⟩ := info_parts Tryd.info5
  refine wpList_append_own _ hgd s x 63 ho B 5 i0 (.int .u8 0) 1 1 Tryd.underlying63 hi hz0 hz1 hz2 rfl (by decide) v xs.length (b8s xs) hs (GrowB.alloc hown _)
    ⟨W.heap.size, 0, none⟩ 1 1 [.int .u8 (z.toNat : Int)] hx rfl ?_ (by intro u hu; simp at hu; subst hu; rfl) (by unfold maxLen; omega) (by omega) (by simp; omega) ?_
  · intro j u hu
    rcases j with _ | j
    · simp at hu; subst hu
      rw [Addr.add, if_pos rfl]
      simp [World.cell?_alloc_new]
    · simp at hu
  · intro v' w' h1 h2 _
    refine h v' w' ?_ h2
    show World.ownsRow _ _ _ _ _ _ _
    rw [List.length_append]
    have e : b8s (xs ++ [z]) = b8s xs ++ [.int .u8 (z.toNat : Int)] := by simp [b8s]
    rw [e]; exact h1
theorem Mg5.push {w W w' : World} {g : Nat} {Ar As Am Al : Option Addr} {lr ls lm ll r s m l : Nat} {ev : Bool} {v : Value} {xs : List UInt8} {o : Obj} (h : Mg5 w W g Ar lr As ls Am lm Al ll r s m l ev) (hG : GrowB W w.heap.size v xs) (hg : (W.alloc o).grownBy w' v.ownBlock) : Mg5 w w' g Ar lr As ls Am lm Al ll r s m l ev := by
  have h' := h.later (rnew W o)
  have hG' := GrowB.alloc hG o
  have hne : ∀ {i : Nat} {arr : Array Value} {T : TypeId}, (W.alloc o).heap[i]? = some (.cells arr T (0, 0)) → T ≠ 5 → some i ≠ v.ownBlock := by
    intro i arr T hi hT e
    rcases hG'.2 with ⟨rfl, _⟩ | ⟨g', cap, cur, rfl, _, h2, _⟩
    · simp [Value.ownBlock] at e
    · simp only [Value.ownBlock, Option.some.injEq] at e
      subst e
      rw [h2] at hi
      simp at hi
      exact hT hi.2.symm
  have hk : ∀ (i : Nat) (cs : Array Value), (W.alloc o).heap[i]? = some (Obj.cells cs 53 (0, 0)) → w'.heap[i]? = (W.alloc o).heap[i]? := fun i cs hi => hg.block i (blkc_lt hi) (hne hi (by decide))
  refine ⟨h'.bl.grown hg h'.bl.size (fun k hk => GrowB.lt hG' k hk), ?_, h'.hg, h'.hr.kept hk, h'.hs.kept hk, h'.hm.kept hk, h'.hl.kept hk⟩
  exact (hg.block g (blkc_lt h'.blk) (hne h'.blk (by decide))).trans h'.blk
theorem grow_empty (w : World) (B : Nat) (hB : B ≤ w.heap.size) : GrowB (w.alloc (.cells #[] 5)) B (.slice (some ⟨w.heap.size, 0, none⟩) 0 0) (txt 0) := by
  show World.ownsRow _ _ _ _ _ _ _
  exact ⟨rfl, .inr ⟨w.heap.size, 0, #[], rfl, hB, heap_alloc_new w _, Nat.le_refl _, Nat.zero_le _, rfl, rfl⟩⟩
theorem blen10 {n m : Nat} (h : blen n ≤ m) : blen (n * 10) ≤ m + 4 := by
  have := blen_mul_le h (show blen 10 ≤ 4 from (blen_lt _ _).2 (by decide))
  omega
theorem blenp {n m : Nat} (h : blen n ≤ m) (j : Nat) : blen (n * 10 ^ j) ≤ m + (4 * j + 1) := blen_mul_le h (blen_ten j)
theorem blen_mono {a c m : Nat} (h : a ≤ c) (hc : blen c ≤ m) : blen a ≤ m := (blen_lt _ _).2 (Nat.lt_of_le_of_lt h ((blen_lt _ _).1 hc))
set_option maxRecDepth 40000 in
set_option maxHeartbeats 32000000 in
theorem short_num (b : Nat) (hb : b < 18446744073709551616) (hw : fwrong b = false) (hF : fbF b ≠ 0) (w : World) (hP : Pow10 w) :
    Calls Tryd.prog 11 #[.float .f64 b] w fun e w' => ∃ (k : Int) (i : Nat), ShtOk b k i ∧ e = .returned (.tuple #[.string (bs (ftext (decide (9223372036854775808 ≤ b)) (txt (sF b k i)) (k - i))), .int .i64 0]) ∧ Below w.heap.size w w' := by
  have H1 := Lib.hid (fun W => wrong_any b hb W)
  rw [hw] at H1
  have H2 := Lib.hid (fun W => begin_any b hb W)
  have hb0 : ¬ (b = 0 ∨ b = 9223372036854775808) := by
    rintro (h | h) <;> (subst h; exact hF (by decide))
  have hz : (FloatKind.f64.format.order b 0 == some .eq) = false := (f_isz hb).trans (decide_eq_false hb0)
  obtain ⟨s, hs⟩ : ∃ s, decide (9223372036854775808 ≤ b) = s := ⟨_, rfl⟩
  have hlt : (FloatKind.f64.format.order b 0 == some .lt) = s := by
    refine (f_lt hb (by omega)).trans ?_
    rw [← hs]
    refine decide_eq_decide.2 ?_
    have e : FK 0 = 0 := rfl
    rw [e]
    have := fnan_w hw
    constructor
    · rintro ⟨_, _, h⟩; unfold FK at h; split at h <;> omega
    · intro h; refine ⟨this, by decide, ?_⟩; unfold FK; rw [if_neg (by omega)]; omega
  rw [hs]
  obtain ⟨hpos, hbl⟩ := mg_bounds b hF
  have HPOS := Lib.hid hpos
  have HBL := Lib.hid hbl
  have HPP := Lib.hid hP
  have HTm : Hid (∀ W n v, IsT n v W → blen n ≤ 80000 → Calls Tryd.prog 38 #[v, .int .u64 10] W (Ans W (IsO (n * 10)))) := Lib.hid (fun W n v h hb => times_o 10 h (by omega) (by omega))
  have HT2 : Hid (∀ W n v, IsT n v W → blen n ≤ 80000 → Calls Tryd.prog 38 #[v, .int .u64 2] W (Ans W (IsO (n * 2)))) := Lib.hid (fun W n v h hb => times_o 2 h (by omega) (by omega))
  obtain ⟨ev, hev⟩ : ∃ ev, mgV b = ev := ⟨_, rfl⟩
  rw [hev] at H2
  have HEV := Lib.hid hev
  have hFb := hF
  have HFB := Lib.hid hFb
  clear hFb hs hb0 hw hF hP hpos hbl hev
  go_enter Tryd.func11, Tryd.ntmps11
  go_wp2_with fail
  refine (H1.out _).mono ?_
  rintro e w1 ⟨rfl, rfl⟩
  go_wp2_with fail
  refine (H2.out _).mono ?_
  rintro e w1 ⟨v1, rfl, ⟨vr, vs, vm, vl, rfl, h1, h2, h3, h4⟩, hb1⟩
  obtain ⟨Ar, lr, rfl, t1⟩ := isO_form h1
  obtain ⟨As, ls, rfl, t2⟩ := isO_form h2
  obtain ⟨Am, lm, rfl, t3⟩ := isO_form h3
  obtain ⟨Al, ll, rfl, t4⟩ := isO_form h4
  have hM := Mg5.new (ev := ev) hb1 t1 t2 t3 t4
  have HM := Lib.hid hM
  clear hM h1 h2 h3 h4 t1 t2 t3 t4 hb1 H1 H2 hz
  go_wp2
  generalize w1.alloc (.cells #[.slice Ar lr lr, .slice As ls ls, .slice Am lm lm, .slice Al ll ll, .bool ev] 59) = W0 at *
  generalize w1.heap.size = g at *
  go_loopg [5] 400 (fun gk kv wr => ∃ (k ls : Nat) (As : Option Addr), kv = .int .i64 (k : Int) ∧ gk + k = 400 ∧ Hid (Mg5 w wr g Ar lr As ls Am lm Al ll (mgR b) (mgS b * 10 ^ k) (mgM b) (mgL b) ev ∧ (k = 0 ∨ hiB (mgR b) (mgS b * 10 ^ (k - 1)) (mgM b) ev = true)))
  case atStart => exact ⟨0, ls, As, rfl, rfl, by simpa using HM.out, .inl rfl⟩
  case round =>
  clear HM
  obtain ⟨k, ls, As, rfl, hgk, hI⟩ := hrel
  obtain ⟨gq, hgq⟩ : ∃ n, gk = n := ⟨_, rfl⟩
  simp only [hgq] at *
  have HM := Lib.hid hI.out.1
  have HK := Lib.hid hI.out.2
  obtain ⟨k0, k1, k2, k3, k4, f0, f1, f2, f3, f4⟩ := blkc5 HM.out.blk
  have hzg := blkc_lt HM.out.blk
  have HH := Lib.hid (high_any HM.out.mg (Nat.le_trans (blen_add HBL.out.1 HBL.out.2.2.1) (by omega)) (Nat.le_trans (blenp HBL.out.2.1 k) (by omega)))
  obtain ⟨hh, hhe⟩ : ∃ h, hiB (mgR b) (mgS b * 10 ^ k) (mgM b) ev = h := ⟨_, rfl⟩
  rw [hhe] at HH
  have HHE := Lib.hid hhe
  clear hI hhe hgq
  go_wp2_with fail
  refine (HH.out).mono ?_
  rintro en w2 ⟨vt, rfl, rfl, hb2⟩
  have HM := Lib.hid (HM.out.later hb2)
  clear hb2 HH k0 k1 k2 k3 k4 f0 f1 f2 f3 f4 hzg
  obtain ⟨k0, k1, k2, k3, k4, f0, f1, f2, f3, f4⟩ := blkc5 HM.out.blk
  have hzg := blkc_lt HM.out.blk
  cases hh
  rotate_left
  · have hk4 := hi_up HHE.out HPOS.out.2.1 HBL.out.1 HBL.out.2.2.1
    go_wp2_with fail
    refine (HTm.out _ _ _ HM.out.hs.isT (Nat.le_trans (blenp HBL.out.2.1 k) (by omega))).mono ?_
    rintro en w3 ⟨v3, rfl, h3, hb3⟩
    obtain ⟨A3, l3, rfl, t3⟩ := isO_form h3
    have HM := Lib.hid (HM.out.later hb3)
    rw [show mgS b * 10 ^ k * 10 = mgS b * 10 ^ (k + 1) by rw [Nat.pow_succ, Nat.mul_assoc]] at t3
    have HM3 := Lib.hid (HM.out.sets t3)
    clear h3 t3 hb3 k0 k1 k2 k3 k4 f0 f1 f2 f3 f4 hzg
    obtain ⟨k0, k1, k2, k3, k4, f0, f1, f2, f3, f4⟩ := blkc5 HM.out.blk
    have hzg := blkc_lt HM.out.blk
    go_wp2
    go_roundg (gq - 1)
    case measure => omega
    case rel => exact ⟨k + 1, l3, A3, by go_num, by omega, HM3.out, .inr HHE.out⟩
  have hkb : k ≤ 400 := by omega
  clear hgk k0 k1 k2 k3 k4 f0 f1 f2 f3 f4 hzg
  go_wp2
  go_loopg [5, 6, 7, 8, 9] 400 (fun gk kv _ _ _ _ wr => ∃ (j lr lm ll : Nat) (Ar Am Al : Option Addr), kv = .int .i64 ((k : Int) - (j : Int)) ∧ gk + j = 400 ∧ Hid (Mg5 w wr g Ar lr As ls Am lm Al ll (mgR b * 10 ^ j) (mgS b * 10 ^ k) (mgM b * 10 ^ j) (mgL b * 10 ^ j) ev ∧ (j = 0 ∨ k = 0) ∧ hiB (mgR b * 10 ^ j) (mgS b * 10 ^ k) (mgM b * 10 ^ j) ev = false))
  case atStart => exact ⟨0, lr, lm, ll, Ar, Am, Al, by congr 1 <;> omega, rfl, by simpa using HM.out, .inl rfl, by simpa using HHE.out⟩
  case round =>
  clear HM HHE
  obtain ⟨j, lr, lm, ll, Ar, Am, Al, rfl, hgk, hI⟩ := hrel
  obtain ⟨gq, hgq⟩ : ∃ n, gk = n := ⟨_, rfl⟩
  simp only [hgq] at *
  have HM := Lib.hid hI.out.1
  have HJ := Lib.hid hI.out.2
  have hjb : j ≤ 400 := by omega
  have HBj := Lib.hid (And.intro (blenp HBL.out.1 j) (And.intro (blenp HBL.out.2.1 k) (And.intro (blenp HBL.out.2.2.1 j) (blenp HBL.out.2.2.2 j))))
  clear hI hgq
  go_upto_region 10 with fail
  refine region_at 12 (Pick [IsV (.pointer (some ⟨g, 0, none⟩)), IsV (.slice Ar lr lr), IsO (mgR b * 10 ^ j * 10), IsV (.pointer (some ⟨g, 2, none⟩)), IsV (.slice Am lm lm), IsO (mgM b * 10 ^ j * 10), IsV (.pointer (some ⟨g, 3, none⟩)), IsV (.slice Al ll ll), IsO (mgL b * 10 ^ j * 10), IsO (mgR b * 10 ^ j * 10), IsO (mgM b * 10 ^ j * 10), IsO (mgL b * 10 ^ j * 10)]) (by kernel_rfl) (by kernel_rfl) (by kernel_rfl) (mono_pick ⟨IsV.mono _, IsV.mono _, IsO.mono _, IsV.mono _, IsV.mono _, IsO.mono _, IsV.mono _, IsV.mono _, IsO.mono _, IsO.mono _, IsO.mono _, IsO.mono _, trivial⟩) ⟨?_, ?_, ?_, ?_, ?_, ?_, ?_, ?_, ?_, ?_, ?_, ?_, trivial⟩ ?_
  · intro a W hsz hb hS
    have h4 : a.tmps.getD 4 undef = .pointer (some ⟨g, 0, none⟩) := hS.1
    clear hS hsz
    refine will_of rfl ?_
    intro K hK
    go_simp
    exact hK _ _ ⟨Below.refl _ _, rfl⟩
  · intro a W hsz hb hS
    have h33 : a.tmps.getD 33 undef = .pointer (some ⟨g, 0, none⟩) := hS.1
    clear hS hsz
    refine will_of rfl ?_
    have HW := HM.out.later hb
    obtain ⟨k0, k1, k2, k3, k4, f0, f1, f2, f3, f4⟩ := blkc5 HW.blk
    intro K hK
    go_simp
    exact hK _ _ ⟨Below.refl _ _, rfl⟩
  · intro a W hsz hb hS
    have h34 : a.tmps.getD 34 undef = .slice Ar lr lr := hS.1
    clear hS hsz
    refine will_of rfl ?_
    have HW := HM.out.later hb
    obtain ⟨k0, k1, k2, k3, k4, f0, f1, f2, f3, f4⟩ := blkc5 HW.blk
    intro K hK
    go_simp
    refine (HTm.out W (mgR b * 10 ^ j) _ HW.hr.isT (by have := HBj.out; omega)).mono ?_
    rintro e W' ⟨v, rfl, hv, hb'⟩
    exact hK _ _ ⟨hb', hv⟩
  · intro a W hsz hb hS
    have h4 : a.tmps.getD 4 undef = .pointer (some ⟨g, 0, none⟩) := hS.1
    clear hS hsz
    refine will_of rfl ?_
    intro K hK
    go_simp
    exact hK _ _ ⟨Below.refl _ _, rfl⟩
  · intro a W hsz hb hS
    have h36 : a.tmps.getD 36 undef = .pointer (some ⟨g, 2, none⟩) := hS.1
    clear hS hsz
    refine will_of rfl ?_
    have HW := HM.out.later hb
    obtain ⟨k0, k1, k2, k3, k4, f0, f1, f2, f3, f4⟩ := blkc5 HW.blk
    intro K hK
    go_simp
    exact hK _ _ ⟨Below.refl _ _, rfl⟩
  · intro a W hsz hb hS
    have h37 : a.tmps.getD 37 undef = .slice Am lm lm := hS.1
    clear hS hsz
    refine will_of rfl ?_
    have HW := HM.out.later hb
    obtain ⟨k0, k1, k2, k3, k4, f0, f1, f2, f3, f4⟩ := blkc5 HW.blk
    intro K hK
    go_simp
    refine (HTm.out W (mgM b * 10 ^ j) _ HW.hm.isT (by have := HBj.out; omega)).mono ?_
    rintro e W' ⟨v, rfl, hv, hb'⟩
    exact hK _ _ ⟨hb', hv⟩
  · intro a W hsz hb hS
    have h4 : a.tmps.getD 4 undef = .pointer (some ⟨g, 0, none⟩) := hS.1
    clear hS hsz
    refine will_of rfl ?_
    intro K hK
    go_simp
    exact hK _ _ ⟨Below.refl _ _, rfl⟩
  · intro a W hsz hb hS
    have h39 : a.tmps.getD 39 undef = .pointer (some ⟨g, 3, none⟩) := hS.1
    clear hS hsz
    refine will_of rfl ?_
    have HW := HM.out.later hb
    obtain ⟨k0, k1, k2, k3, k4, f0, f1, f2, f3, f4⟩ := blkc5 HW.blk
    intro K hK
    go_simp
    exact hK _ _ ⟨Below.refl _ _, rfl⟩
  · intro a W hsz hb hS
    have h40 : a.tmps.getD 40 undef = .slice Al ll ll := hS.1
    clear hS hsz
    refine will_of rfl ?_
    have HW := HM.out.later hb
    obtain ⟨k0, k1, k2, k3, k4, f0, f1, f2, f3, f4⟩ := blkc5 HW.blk
    intro K hK
    go_simp
    refine (HTm.out W (mgL b * 10 ^ j) _ HW.hl.isT (by have := HBj.out; omega)).mono ?_
    rintro e W' ⟨v, rfl, hv, hb'⟩
    exact hK _ _ ⟨hb', hv⟩
  · intro a W hsz hb hS
    have q35 : IsO (mgR b * 10 ^ j * 10) (a.tmps.getD 35 undef) W := hS.1
    clear hS hsz
    obtain ⟨v35, h35⟩ : ∃ v, a.tmps.getD 35 undef = v := ⟨_, rfl⟩
    rw [h35] at q35
    refine will_of rfl ?_
    intro K hK
    go_simp
    exact hK _ _ ⟨Below.refl _ _, q35⟩
  · intro a W hsz hb hS
    have q38 : IsO (mgM b * 10 ^ j * 10) (a.tmps.getD 38 undef) W := hS.1
    clear hS hsz
    obtain ⟨v38, h38⟩ : ∃ v, a.tmps.getD 38 undef = v := ⟨_, rfl⟩
    rw [h38] at q38
    refine will_of rfl ?_
    intro K hK
    go_simp
    exact hK _ _ ⟨Below.refl _ _, q38⟩
  · intro a W hsz hb hS
    have q41 : IsO (mgL b * 10 ^ j * 10) (a.tmps.getD 41 undef) W := hS.1
    clear hS hsz
    obtain ⟨v41, h41⟩ : ∃ v, a.tmps.getD 41 undef = v := ⟨_, rfl⟩
    rw [h41] at q41
    refine will_of rfl ?_
    intro K hK
    go_simp
    exact hK _ _ ⟨Below.refl _ _, q41⟩
  intro f W hb hH
  have e0 : f 0 = .pointer (some ⟨g, 0, none⟩) := hH.1
  have e1 : f 1 = .slice Ar lr lr := hH.2.1
  obtain ⟨x2, y2⟩ : ∃ x, f 2 = x := ⟨_, rfl⟩
  have q2 : IsO (mgR b * 10 ^ j * 10) (f 2) W := hH.2.2.1
  rw [y2] at q2
  have e3 : f 3 = .pointer (some ⟨g, 2, none⟩) := hH.2.2.2.1
  have e4 : f 4 = .slice Am lm lm := hH.2.2.2.2.1
  obtain ⟨x5, y5⟩ : ∃ x, f 5 = x := ⟨_, rfl⟩
  have q5 : IsO (mgM b * 10 ^ j * 10) (f 5) W := hH.2.2.2.2.2.1
  rw [y5] at q5
  have e6 : f 6 = .pointer (some ⟨g, 3, none⟩) := hH.2.2.2.2.2.2.1
  have e7 : f 7 = .slice Al ll ll := hH.2.2.2.2.2.2.2.1
  obtain ⟨x8, y8⟩ : ∃ x, f 8 = x := ⟨_, rfl⟩
  have q8 : IsO (mgL b * 10 ^ j * 10) (f 8) W := hH.2.2.2.2.2.2.2.2.1
  rw [y8] at q8
  obtain ⟨x9, y9⟩ : ∃ x, f 9 = x := ⟨_, rfl⟩
  have q9 : IsO (mgR b * 10 ^ j * 10) (f 9) W := hH.2.2.2.2.2.2.2.2.2.1
  rw [y9] at q9
  obtain ⟨x10, y10⟩ : ∃ x, f 10 = x := ⟨_, rfl⟩
  have q10 : IsO (mgM b * 10 ^ j * 10) (f 10) W := hH.2.2.2.2.2.2.2.2.2.2.1
  rw [y10] at q10
  obtain ⟨x11, y11⟩ : ∃ x, f 11 = x := ⟨_, rfl⟩
  have q11 : IsO (mgL b * 10 ^ j * 10) (f 11) W := hH.2.2.2.2.2.2.2.2.2.2.2.1
  rw [y11] at q11
  simp only [List.take_succ_cons, List.take_zero, List.drop_succ_cons, List.drop_zero, putFrom, Act.put, List.setIfInBounds_toArray, List.set_cons_zero, List.set_cons_succ, Nat.reduceAdd, e0, e1, y2, e3, e4, y5, e6, e7, y8, y9, y10, y11]
  clear e0 e1 y2 e3 e4 y5 e6 e7 y8 y9 y10 y11 hH f
  obtain ⟨B1, n1, rfl, t1⟩ := isO_form q9
  obtain ⟨B2, n2, rfl, t2⟩ := isO_form q10
  obtain ⟨B3, n3, rfl, t3⟩ := isO_form q11
  have HM := Lib.hid (HM.out.later hb)
  have HN := Lib.hid (Mg5.new (ev := ev) HM.out.bl t1 HM.out.hs t2 t3)
  obtain ⟨k0, k1, k2, k3, k4, f0, f1, f2, f3, f4⟩ := blkc5 HM.out.blk
  have hzg := blkc_lt HM.out.blk
  have HMa := Lib.hid (HM.out.later (rnew W (.cells #[.slice B1 n1 n1, .slice As ls ls, .slice B2 n2 n2, .slice B3 n3 n3, .bool ev] 59)))
  have HH2 := Lib.hid (high_any HN.out.mg (Nat.le_trans (blen_add (blen10 (Nat.le_trans HBj.out.1 (show _ ≤ 8000 by omega))) (blen10 (Nat.le_trans HBj.out.2.2.1 (show _ ≤ 8000 by omega)))) (by omega)) (by have := HBj.out; omega))
  obtain ⟨hh, hhe⟩ : ∃ h, hiB (mgR b * 10 ^ j * 10) (mgS b * 10 ^ k) (mgM b * 10 ^ j * 10) ev = h := ⟨_, rfl⟩
  rw [hhe] at HH2
  have HHE := Lib.hid hhe
  clear t1 t2 t3 hb q2 q5 q8 q9 q10 q11 HM hhe
  go_wp2_with fail
  refine (HH2.out).mono ?_
  rintro en w5 ⟨vt, rfl, rfl, hb5⟩
  have HM := Lib.hid (HMa.out.later hb5)
  have HN2 := Lib.hid (HN.out.later hb5)
  clear hb5 HH2 HMa HN k0 k1 k2 k3 k4 f0 f1 f2 f3 f4 hzg
  obtain ⟨k0, k1, k2, k3, k4, f0, f1, f2, f3, f4⟩ := blkc5 HM.out.blk
  obtain ⟨d0, d1, d2, d3, d4, _, _, _, _, _⟩ := blkc5 HN2.out.blk
  have hzg := blkc_lt HM.out.blk
  cases hh
  · have hj4 : j < 336 := by
      rcases HJ.out.1 with h | h
      · omega
      · have := HHE.out
        subst h
        rw [Nat.pow_zero, Nat.mul_one] at this
        exact hi_dn this HPOS.out.1 HBL.out.2.1
    have HM4 := Lib.hid (HM.out.setall HN2.out.hr HN2.out.hs HN2.out.hm HN2.out.hl)
    go_wp2
    go_roundg (gq - 1)
    case measure => omega
    case rel =>
      refine ⟨j + 1, n1, n2, n3, B1, B2, B3, by congr 1; omega, by omega, ?_, ?_, ?_⟩
      · have := HM4.out
        simp only [Nat.mul_assoc, ← Nat.pow_succ] at this
        exact this
      · rcases HJ.out.1 with h | h
        · subst h
          have h1 := HHE.out
          rcases HK.out with h2 | h2
          · exact .inr h2
          · exfalso
            obtain ⟨k', rfl⟩ : ∃ k', k = k' + 1 := ⟨k - 1, by
              rcases k with _ | k
              · exact absurd h2 (by rw [show (0 - 1 : Nat) = 0 from rfl]; have := HJ.out.2; simp only [Nat.pow_zero, Nat.mul_one] at this ⊢; rw [this]; simp)
              · omega⟩
            rw [Nat.add_sub_cancel] at h2
            rw [hi_scale] at h1
            rw [h1] at h2
            cases h2
        · exact .inr h
      · have := HHE.out
        simp only [Nat.mul_assoc, ← Nat.pow_succ] at this
        exact this
  have htop := HJ.out.2
  have hlow := HHE.out
  obtain ⟨kz, hK⟩ : ∃ kz : Int, (k : Int) - (j : Int) = kz := ⟨_, rfl⟩
  have hKj : (-kz).toNat = j := by have := HJ.out.1; omega
  have hKk : kz.toNat = k := by have := HJ.out.1; omega
  have e1 : mgR b * 10 ^ j = sR b kz := by unfold sR; rw [hKj]
  have e2 : mgS b * 10 ^ k = sS b kz := by unfold sS; rw [hKk]
  have e3 : mgM b * 10 ^ j = sM b kz := by unfold sM; rw [hKj]
  have e4 : mgL b * 10 ^ j = sL b kz := by unfold sL; rw [hKj]
  rw [hK]
  have hM := HM.out
  rw [e1, e2, e3] at htop hlow
  rw [e1, e2, e3, e4] at hM
  have hBj := HBj.out
  rw [e1, e2, e3, e4] at hBj
  have hkz1 : -400 ≤ kz := by omega
  have hkz2 : kz ≤ 400 := by omega
  have HM := Lib.hid hM
  have HTL := Lib.hid (And.intro htop hlow)
  have hBk : blen (sR b kz) ≤ 2701 ∧ blen (sS b kz) ≤ 2701 ∧ blen (sM b kz) ≤ 2701 ∧ blen (sL b kz) ≤ 2701 := by omega
  have HBK := Lib.hid hBk
  clear HJ HHE hK hKj hKk e1 e2 e3 e4 hM hBj hgk hjb hkb htop hlow hBk HN2 HBj HK d0 d1 d2 d3 d4 k0 k1 k2 k3 k4 f0 f1 f2 f3 f4 hzg
  go_wp2
  have HSH := Lib.hid (sht_start (b := b) (k := kz) (by rw [HEV.out]; exact HTL.out.1) HPOS.out)
  go_loopg [5, 10, 11, 12, 13, 14, 15, 16, 17, 18] 800 (fun gk kv ov _ _ _ _ _ _ _ _ wr => ∃ (i lr lm ll : Nat) (Ar Am Al : Option Addr), kv = .int .i64 (kz - (i : Int)) ∧ gk + i = 800 ∧ Hid (Mg5 w wr g Ar lr As ls Am lm Al ll (sQ b kz i) (sS b kz) (sM b kz * 10 ^ i) (sL b kz * 10 ^ i) ev ∧ GrowB wr w.heap.size ov (txt (sP b kz i)) ∧ (i = 0 ∨ 1 ≤ sP b kz i) ∧ ∀ j, 1 ≤ j → j ≤ i → sHi b kz j = false ∧ sLo b kz j = false))
  case atStart =>
    refine ⟨0, lr, lm, ll, Ar, Am, Al, by congr 1 <;> omega, rfl, ?_, ?_, .inl rfl, fun j h1 h2 => by omega⟩
    · rw [HSH.out.2.2.1, Nat.pow_zero, Nat.mul_one, Nat.mul_one]; exact HM.out.later (rnew _ _)
    · rw [HSH.out.2.1]
      exact grow_empty w5 w.heap.size HM.out.bl.size
  case round =>
    clear HM
    obtain ⟨i, lr, lm, ll, Ar, Am, Al, rfl, hgk, hI⟩ := hrel
    obtain ⟨gq, hgq⟩ : ∃ n, gk = n := ⟨_, rfl⟩
    simp only [hgq] at *
    obtain ⟨hI1, hI2, hI3, hI4⟩ := hI.out
    have HM := Lib.hid hI1
    have HG := Lib.hid hI2
    have HI := Lib.hid (And.intro hI3 hI4)
    have hib : i ≤ 800 := by omega
    have HBi : Hid (blen (sQ b kz i) ≤ 2701 ∧ blen (sM b kz * 10 ^ i) ≤ 6000 ∧ blen (sL b kz * 10 ^ i) ≤ 6000 ∧ blen (sP b kz i) ≤ 6000) := Lib.hid ⟨blen_mono (Nat.le_of_lt (Nat.mod_lt _ HSH.out.2.2.2.2.1)) HBK.out.2.1, Nat.le_trans (blenp HBK.out.2.2.1 i) (by omega), Nat.le_trans (blenp HBK.out.2.2.2 i) (by omega), blen_mono (Nat.div_le_self _ _) (Nat.le_trans (blenp HBK.out.1 i) (by omega))⟩
    clear hI hI1 hI2 hI3 hI4 hgq
    go_upto_region 15 with fail
  
    refine region_tail 10 (Pick [IsV (.pointer (some ⟨g, 0, none⟩)), IsV (.slice Ar lr lr), IsO (sQ b kz i * 10), IsV (.pointer (some ⟨g, 2, none⟩)), IsV (.slice Am lm lm), IsO (sM b kz * 10 ^ i * 10), IsV (.pointer (some ⟨g, 3, none⟩)), IsV (.slice Al ll ll), IsO (sL b kz * 10 ^ i * 10), IsV (.pointer (some ⟨g, 0, none⟩))]) (by kernel_rfl) (by kernel_rfl) (by kernel_rfl) (mono_pick ⟨IsV.mono _, IsV.mono _, IsO.mono _, IsV.mono _, IsV.mono _, IsO.mono _, IsV.mono _, IsV.mono _, IsO.mono _, IsV.mono _, trivial⟩) ⟨?_, ?_, ?_, ?_, ?_, ?_, ?_, ?_, ?_, ?_, trivial⟩ ?_
    · intro a W hsz hb hS
      have h4 : a.tmps.getD 4 undef = .pointer (some ⟨g, 0, none⟩) := hS.1
      clear hS hsz
      refine will_of rfl ?_
      intro K hK
      go_simp
      exact hK _ _ ⟨Below.refl _ _, rfl⟩
    · intro a W hsz hb hS
      have h56 : a.tmps.getD 56 undef = .pointer (some ⟨g, 0, none⟩) := hS.1
      clear hS hsz
      refine will_of rfl ?_
      have HW := HM.out.later hb
      obtain ⟨k0, k1, k2, k3, k4, f0, f1, f2, f3, f4⟩ := blkc5 HW.blk
      intro K hK
      go_simp
      exact hK _ _ ⟨Below.refl _ _, rfl⟩
    · intro a W hsz hb hS
      have h57 : a.tmps.getD 57 undef = .slice Ar lr lr := hS.1
      clear hS hsz
      refine will_of rfl ?_
      have HW := HM.out.later hb
      obtain ⟨k0, k1, k2, k3, k4, f0, f1, f2, f3, f4⟩ := blkc5 HW.blk
      intro K hK
      go_simp
      refine (HTm.out W (sQ b kz i) _ HW.hr.isT (by have := HBi.out; omega)).mono ?_
      rintro e W' ⟨v, rfl, hv, hb'⟩
      exact hK _ _ ⟨hb', hv⟩
    · intro a W hsz hb hS
      have h4 : a.tmps.getD 4 undef = .pointer (some ⟨g, 0, none⟩) := hS.1
      clear hS hsz
      refine will_of rfl ?_
      intro K hK
      go_simp
      exact hK _ _ ⟨Below.refl _ _, rfl⟩
    · intro a W hsz hb hS
      have h59 : a.tmps.getD 59 undef = .pointer (some ⟨g, 2, none⟩) := hS.1
      clear hS hsz
      refine will_of rfl ?_
      have HW := HM.out.later hb
      obtain ⟨k0, k1, k2, k3, k4, f0, f1, f2, f3, f4⟩ := blkc5 HW.blk
      intro K hK
      go_simp
      exact hK _ _ ⟨Below.refl _ _, rfl⟩
    · intro a W hsz hb hS
      have h60 : a.tmps.getD 60 undef = .slice Am lm lm := hS.1
      clear hS hsz
      refine will_of rfl ?_
      have HW := HM.out.later hb
      obtain ⟨k0, k1, k2, k3, k4, f0, f1, f2, f3, f4⟩ := blkc5 HW.blk
      intro K hK
      go_simp
      refine (HTm.out W (sM b kz * 10 ^ i) _ HW.hm.isT (by have := HBi.out; omega)).mono ?_
      rintro e W' ⟨v, rfl, hv, hb'⟩
      exact hK _ _ ⟨hb', hv⟩
    · intro a W hsz hb hS
      have h4 : a.tmps.getD 4 undef = .pointer (some ⟨g, 0, none⟩) := hS.1
      clear hS hsz
      refine will_of rfl ?_
      intro K hK
      go_simp
      exact hK _ _ ⟨Below.refl _ _, rfl⟩
    · intro a W hsz hb hS
      have h62 : a.tmps.getD 62 undef = .pointer (some ⟨g, 3, none⟩) := hS.1
      clear hS hsz
      refine will_of rfl ?_
      have HW := HM.out.later hb
      obtain ⟨k0, k1, k2, k3, k4, f0, f1, f2, f3, f4⟩ := blkc5 HW.blk
      intro K hK
      go_simp
      exact hK _ _ ⟨Below.refl _ _, rfl⟩
    · intro a W hsz hb hS
      have h63 : a.tmps.getD 63 undef = .slice Al ll ll := hS.1
      clear hS hsz
      refine will_of rfl ?_
      have HW := HM.out.later hb
      obtain ⟨k0, k1, k2, k3, k4, f0, f1, f2, f3, f4⟩ := blkc5 HW.blk
      intro K hK
      go_simp
      refine (HTm.out W (sL b kz * 10 ^ i) _ HW.hl.isT (by have := HBi.out; omega)).mono ?_
      rintro e W' ⟨v, rfl, hv, hb'⟩
      exact hK _ _ ⟨hb', hv⟩
    · intro a W hsz hb hS
      have h4 : a.tmps.getD 4 undef = .pointer (some ⟨g, 0, none⟩) := hS.1
      clear hS hsz
      refine will_of rfl ?_
      intro K hK
      go_simp
      exact hK _ _ ⟨Below.refl _ _, rfl⟩
    intro f W hb hH
    have e0 : f 0 = .pointer (some ⟨g, 0, none⟩) := hH.1
    have e1 : f 1 = .slice Ar lr lr := hH.2.1
    obtain ⟨x2, y2⟩ : ∃ x, f 2 = x := ⟨_, rfl⟩
    have q2 : IsO (sQ b kz i * 10) (f 2) W := hH.2.2.1
    rw [y2] at q2
    have e3 : f 3 = .pointer (some ⟨g, 2, none⟩) := hH.2.2.2.1
    have e4 : f 4 = .slice Am lm lm := hH.2.2.2.2.1
    obtain ⟨x5, y5⟩ : ∃ x, f 5 = x := ⟨_, rfl⟩
    have q5 : IsO (sM b kz * 10 ^ i * 10) (f 5) W := hH.2.2.2.2.2.1
    rw [y5] at q5
    have e6 : f 6 = .pointer (some ⟨g, 3, none⟩) := hH.2.2.2.2.2.2.1
    have e7 : f 7 = .slice Al ll ll := hH.2.2.2.2.2.2.2.1
    obtain ⟨x8, y8⟩ : ∃ x, f 8 = x := ⟨_, rfl⟩
    have q8 : IsO (sL b kz * 10 ^ i * 10) (f 8) W := hH.2.2.2.2.2.2.2.2.1
    rw [y8] at q8
    have e9 : f 9 = .pointer (some ⟨g, 0, none⟩) := hH.2.2.2.2.2.2.2.2.2.1
    simp only [List.take_succ_cons, List.take_zero, List.drop_succ_cons, List.drop_zero, putFrom, Act.put, List.setIfInBounds_toArray, List.set_cons_zero, List.set_cons_succ, Nat.reduceAdd, e0, e1, y2, e3, e4, y5, e6, e7, y8, e9]
    clear e0 e1 y2 e3 e4 y5 e6 e7 y8 e9 hH f
    obtain ⟨C1, m1, rfl, t1⟩ := isO_form q2
    obtain ⟨C2, m2, rfl, t2⟩ := isO_form q5
    obtain ⟨C3, m3, rfl, t3⟩ := isO_form q8
    have HMo := Lib.hid (HM.out.later hb)
    have HG := Lib.hid (GrowB.later HG.out hb)
    have b1 := HMo.out.setr t1
    have b2 := b1.setm (t2.apart HMo.out)
    have HM := Lib.hid (b2.setl ((t3.apart HMo.out).apart b1))
    have HMb := Lib.hid (And.intro HMo.out (And.intro b1 b2))
    obtain ⟨k0, k1, k2, k3, k4, f0, f1, f2, f3, f4⟩ := blkc5 HMo.out.blk
    have hzg := blkc_lt HMo.out.blk
    clear t1 t2 t3 hb q2 q5 q8 b1 b2
    have HQ := Lib.hid (nquo_o HM.out.hr.isT HM.out.hs.isT (Nat.le_trans (blen10 HBi.out.1) (by omega)) (by have := HBK.out; omega) (by have := HSH.out.2.2.2.2.1; omega))
    obtain ⟨q, hq⟩ : ∃ q, sQ b kz i * 10 / sS b kz = q := ⟨_, rfl⟩
    have hst := sP_step b kz i HSH.out.2.2.2.2.1
    have hq9 := sDigit (b := b) (k := kz) (i := i) HSH.out.2.2.2.2.1 (Nat.mod_lt _ HSH.out.2.2.2.2.1)
    rw [hq] at HQ hst hq9
    rw [← hst.2] at HQ
    have HST := Lib.hid (And.intro hst.1 hq)
    have HQ1 : Hid (blen (sQ b kz (i + 1)) ≤ 2701) := Lib.hid (blen_mono (Nat.le_of_lt (Nat.mod_lt _ HSH.out.2.2.2.2.1)) HBK.out.2.1)
    clear hst hq HMo
    go_wp2_with fail
    refine (HQ.out).mono ?_
    rintro en w6 ⟨vt, rfl, ⟨vq, vr, ve, rfl, hvq, hvr, rfl⟩, hb6⟩
    have HM := Lib.hid (HM.out.later hb6)
    have HGS := Lib.hid (((GrowB.set5 HG.out HMb.out).later hb6))
    have HVQ := Lib.hid hvq
    have HWd := Lib.hid (nword_is hvq (by omega))
    obtain ⟨D1, p1, rfl, t1⟩ := isO_form hvr
    have HT1 := Lib.hid t1
    clear hvq hvr t1 hb6 HQ HG HMb k0 k1 k2 k3 k4 f0 f1 f2 f3 f4 hzg
    go_wp2_with fail
    refine (HWd.out).mono ?_
    rintro en w7 ⟨vt, rfl, rfl, hb7⟩
    have HMo := Lib.hid (HM.out.later hb7)
    have HM := Lib.hid (HMo.out.setr (HT1.out.later hb7))
    have HG := Lib.hid ((HGS.out.later hb7).set1 (i := 0) (u := .slice D1 p1 p1) HMo.out)
    obtain ⟨k0, k1, k2, k3, k4, f0, f1, f2, f3, f4⟩ := blkc5 HMo.out.blk
    have hzg := blkc_lt HMo.out.blk
    clear hb7 HWd HGS HT1 HVQ HMo
    go_upto_region 20 with fail
    generalize w7.setCell ⟨g, 0, none⟩ (.slice D1 p1 p1) = wa at *
    clear k0 k1 k2 k3 k4 f0 f1 f2 f3 f4 hzg
    have hsM : sM b kz * 10 ^ i * 10 = sM b kz * 10 ^ (i + 1) := by rw [Nat.pow_succ, Nat.mul_assoc]
    have hsL : sL b kz * 10 ^ i * 10 = sL b kz * 10 ^ (i + 1) := by rw [Nat.pow_succ, Nat.mul_assoc]
    rw [hsM, hsL] at HM
    have hbM : blen (sM b kz * 10 ^ (i + 1)) ≤ 6004 := by rw [← hsM]; exact blen10 HBi.out.2.1
    have hbL : blen (sL b kz * 10 ^ (i + 1)) ≤ 6004 := by rw [← hsL]; exact blen10 HBi.out.2.2.1
    obtain ⟨lo, hlo⟩ : ∃ lo, sLo b kz (i + 1) = lo := ⟨_, rfl⟩
    obtain ⟨hi, hhi⟩ : ∃ hi, sHi b kz (i + 1) = hi := ⟨_, rfl⟩
    have hlo2 : loB (sQ b kz (i + 1)) (sL b kz * 10 ^ (i + 1)) ev = lo := by rw [← HEV.out]; exact hlo
    have hhi2 : hiB (sQ b kz (i + 1)) (sS b kz) (sM b kz * 10 ^ (i + 1)) ev = hi := by rw [← HEV.out]; exact hhi
    have HLo := Lib.hid (fun W v (h : IsMg (sQ b kz (i + 1)) (sS b kz) (sM b kz * 10 ^ (i + 1)) (sL b kz * 10 ^ (i + 1)) ev v W) => low_any h (by have := HQ1.out; omega) (by omega))
    have HHi := Lib.hid (fun W v (h : IsMg (sQ b kz (i + 1)) (sS b kz) (sM b kz * 10 ^ (i + 1)) (sL b kz * 10 ^ (i + 1)) ev v W) => high_any h (Nat.le_trans (blen_add (Nat.le_trans HQ1.out (show _ ≤ 6004 by omega)) hbM) (by omega)) (by have := HBK.out; omega))
    rw [hlo2] at HLo
    rw [hhi2] at HHi
    have HLH := Lib.hid (And.intro hlo hhi)
    clear hlo hhi hlo2 hhi2 hsM hsL hbM hbL
    
    refine region_at 6 (Pick [IsV (.agg #[.slice D1 p1 p1, .slice As ls ls, .slice C2 m2 m2, .slice C3 m3 m3, .bool ev]), IsV (.bool lo), IsV (.agg #[.slice D1 p1 p1, .slice As ls ls, .slice C2 m2 m2, .slice C3 m3 m3, .bool ev]), IsV (.bool hi), IsV (.bool lo), IsV (.bool hi)]) (by kernel_rfl) (by kernel_rfl) (by kernel_rfl) (mono_pick ⟨IsV.mono _, IsV.mono _, IsV.mono _, IsV.mono _, IsV.mono _, IsV.mono _, trivial⟩) ⟨?_, ?_, ?_, ?_, ?_, ?_, trivial⟩ ?_
    · intro a W hsz hb hS
      have h4 : a.tmps.getD 4 undef = .pointer (some ⟨g, 0, none⟩) := hS.1
      clear hS hsz
      refine will_of rfl ?_
      have HW := HM.out.later hb
      obtain ⟨k0, k1, k2, k3, k4, f0, f1, f2, f3, f4⟩ := blkc5 HW.blk
      intro K hK
      go_simp
      exact hK _ _ ⟨Below.refl _ _, rfl⟩
    · intro a W hsz hb hS
      have h86 : a.tmps.getD 86 undef = .agg #[.slice D1 p1 p1, .slice As ls ls, .slice C2 m2 m2, .slice C3 m3 m3, .bool ev] := hS.1
      clear hS hsz
      refine will_of rfl ?_
      have HW := HM.out.later hb
      obtain ⟨k0, k1, k2, k3, k4, f0, f1, f2, f3, f4⟩ := blkc5 HW.blk
      intro K hK
      go_simp
      refine (HLo.out W _ HW.mg).mono ?_
      rintro e W' ⟨v, rfl, hv, hb'⟩
      exact hK _ _ ⟨hb', hv⟩
    · intro a W hsz hb hS
      have h4 : a.tmps.getD 4 undef = .pointer (some ⟨g, 0, none⟩) := hS.1
      clear hS hsz
      refine will_of rfl ?_
      have HW := HM.out.later hb
      obtain ⟨k0, k1, k2, k3, k4, f0, f1, f2, f3, f4⟩ := blkc5 HW.blk
      intro K hK
      go_simp
      exact hK _ _ ⟨Below.refl _ _, rfl⟩
    · intro a W hsz hb hS
      have h88 : a.tmps.getD 88 undef = .agg #[.slice D1 p1 p1, .slice As ls ls, .slice C2 m2 m2, .slice C3 m3 m3, .bool ev] := hS.1
      clear hS hsz
      refine will_of rfl ?_
      have HW := HM.out.later hb
      obtain ⟨k0, k1, k2, k3, k4, f0, f1, f2, f3, f4⟩ := blkc5 HW.blk
      intro K hK
      go_simp
      refine (HHi.out W _ HW.mg).mono ?_
      rintro e W' ⟨v, rfl, hv, hb'⟩
      exact hK _ _ ⟨hb', hv⟩
    · intro a W hsz hb hS
      have h87 : a.tmps.getD 87 undef = .bool lo := hS.1
      clear hS hsz
      refine will_of rfl ?_
      intro K hK
      go_simp
      exact hK _ _ ⟨Below.refl _ _, rfl⟩
    · intro a W hsz hb hS
      have h89 : a.tmps.getD 89 undef = .bool hi := hS.1
      clear hS hsz
      refine will_of rfl ?_
      intro K hK
      go_simp
      exact hK _ _ ⟨Below.refl _ _, rfl⟩
    intro f W hb hH
    have e0 : f 0 = .agg #[.slice D1 p1 p1, .slice As ls ls, .slice C2 m2 m2, .slice C3 m3 m3, .bool ev] := hH.1
    have e1 : f 1 = .bool lo := hH.2.1
    have e2 : f 2 = .agg #[.slice D1 p1 p1, .slice As ls ls, .slice C2 m2 m2, .slice C3 m3 m3, .bool ev] := hH.2.2.1
    have e3 : f 3 = .bool hi := hH.2.2.2.1
    have e4 : f 4 = .bool lo := hH.2.2.2.2.1
    have e5 : f 5 = .bool hi := hH.2.2.2.2.2.1
    simp only [List.take_succ_cons, List.take_zero, List.drop_succ_cons, List.drop_zero, putFrom, Act.put, List.setIfInBounds_toArray, List.set_cons_zero, List.set_cons_succ, Nat.reduceAdd, e0, e1, e2, e3, e4, e5]
    clear e0 e1 e2 e3 e4 e5 hH f
    have HM := Lib.hid (HM.out.later hb)
    have HG := Lib.hid (GrowB.later HG.out hb)
    clear hb HLo HHi
    have hlastF := sF_last (b := b) (k := kz) (i := i) HSH.out.2.2.2.2.1 (by
      rcases Nat.eq_zero_or_pos i with h | h
      · rw [h]; exact HSH.out.2.2.2.1
      · exact (HI.out.2 i h (Nat.le_refl _)).1)
    rw [HST.out.2] at hlastF
    have hFp := sF_pos (b := b) (k := kz) (i := i) HFB.out (by rw [HEV.out]; exact HTL.out.2) HSH.out.2.2.2.2.1 HI.out.1
    have hup : sUp b kz (i + 1) = (hi && (!lo || decide (sS b kz < sQ b kz (i + 1) * 2 ∨ sQ b kz (i + 1) * 2 = sS b kz ∧ sP b kz (i + 1) % 2 = 1))) := by
      unfold sUp; rw [HLH.out.1, HLH.out.2]
    have hpar : sP b kz (i + 1) % 2 = q % 2 := by have := HST.out.1; omega
    rw [hpar] at hup
    have HUP := Lib.hid (And.intro hlastF (And.intro hFp hup))
    have HTR := Lib.hid (And.intro hkz1 hkz2)
    have hsz := HM.out.bl.size
    have hlP : (txt (sP b kz i)).length ≤ 6000 := Nat.le_trans (txt_len _) HBi.out.2.2.2
    have hlen1 : (txt (sP b kz i)).length + 1 ≤ 35184372088832 := by omega
    clear hlastF hFp hup hpar hlP
    
    cases lo <;> cases hi
    · have HTX : Hid (txt (sP b kz i) ++ [UInt8.ofNat (48 + q)] = txt (sP b kz (i + 1)) ∧ 1 ≤ sP b kz (i + 1)) := Lib.hid (by
        have h1 := HST.out.1
        have h0 : 1 ≤ sP b kz (i + 1) := by
          rcases HI.out.1 with h | h
          · subst h
            refine Nat.pos_of_ne_zero fun h0 => ?_
            have := sht_first (b := b) (k := kz) (by rw [HEV.out]; exact HTL.out.2) h0
            rw [HLH.out.2] at this; cases this
          · omega
        exact ⟨txt_push h1 hq9 h0, h0⟩)
      have hi7 : i + 1 < 736 := lo_end (L := sL b kz) (S := mgS b) (r := sQ b kz (i + 1)) (k := kz.toNat) HLH.out.1 (Nat.mod_lt _ HSH.out.2.2.2.2.1) HSH.out.2.2.2.2.2 HBL.out.2.1 (by omega)
      have HZB := Lib.hid (byte_of (v := q) hq9)
      go_wp2_with (refine wpList_pushC rfl _ _ rfl w.heap.size _ (txt (sP b kz i)) rfl W _ (UInt8.ofNat (48 + q)) rfl HZB.out HG.out rfl hlen1 hsz ?_; intro v' w8 hG1 hg1; have HG8 := Lib.hid hG1; have HM8 := Lib.hid (HM.out.push HG.out hg1); clear hG1 hg1)
      go_roundg (gq - 1)
      case measure => omega
      case rel =>
        refine ⟨i + 1, p1, m2, m3, D1, C2, C3, by congr 1; omega, by omega, HM8.out, ?_, .inr HTX.out.2, fun j h1 h2 => ?_⟩
        · rw [← HTX.out.1]; exact HG8.out
        · rcases Nat.lt_or_ge j (i + 1) with h | h
          · exact HI.out.2 j h1 (by omega)
          · obtain rfl : j = i + 1 := by omega
            exact ⟨HLH.out.2, HLH.out.1⟩
    · obtain ⟨cc, hcc⟩ : ∃ cc, cmp (sQ b kz (i + 1) * 2) (sS b kz) = cc := ⟨_, rfl⟩
      have HCm := Lib.hid (fun W v u (h : IsT (sQ b kz (i + 1) * 2) v W) (h' : IsT (sS b kz) u W) => ncmp_is h h' (Nat.le_trans (blen_mul_le HQ1.out (show blen 2 ≤ 2 from (blen_lt _ _).2 (by decide))) (by omega)) (by have := HBK.out; omega))
      rw [hcc] at HCm
      have HCC := Lib.hid hcc
      clear hcc
      go_upto_region 23 with fail
      refine region_at 7 (Pick [IsV (.pointer (some ⟨g, 0, none⟩)), IsV (.slice D1 p1 p1), IsO (sQ b kz (i + 1) * 2), IsV (.pointer (some ⟨g, 1, none⟩)), IsV (.slice As ls ls), IsV (.int .i64 cc), IsV (.int .i64 cc)]) (by kernel_rfl) (by kernel_rfl) (by kernel_rfl) (mono_pick ⟨IsV.mono _, IsV.mono _, IsO.mono _, IsV.mono _, IsV.mono _, IsV.mono _, IsV.mono _, trivial⟩) ⟨?_, ?_, ?_, ?_, ?_, ?_, ?_, trivial⟩ ?_
      · intro a W hsz hb hS
        have h4 : a.tmps.getD 4 undef = .pointer (some ⟨g, 0, none⟩) := hS.1
        clear hS hsz
        refine will_of rfl ?_
        intro K hK
        go_simp
        exact hK _ _ ⟨Below.refl _ _, rfl⟩
      · intro a W hsz hb hS
        have h102 : a.tmps.getD 102 undef = .pointer (some ⟨g, 0, none⟩) := hS.1
        clear hS hsz
        refine will_of rfl ?_
        have HW := HM.out.later hb
        obtain ⟨k0, k1, k2, k3, k4, f0, f1, f2, f3, f4⟩ := blkc5 HW.blk
        intro K hK
        go_simp
        exact hK _ _ ⟨Below.refl _ _, rfl⟩
      · intro a W hsz hb hS
        have h103 : a.tmps.getD 103 undef = .slice D1 p1 p1 := hS.1
        clear hS hsz
        refine will_of rfl ?_
        have HW := HM.out.later hb
        obtain ⟨k0, k1, k2, k3, k4, f0, f1, f2, f3, f4⟩ := blkc5 HW.blk
        intro K hK
        go_simp
        refine (HT2.out W _ _ HW.hr.isT (by have := HQ1.out; omega)).mono ?_
        rintro e W' ⟨v, rfl, hv, hb'⟩
        exact hK _ _ ⟨hb', hv⟩
      · intro a W hsz hb hS
        have h4 : a.tmps.getD 4 undef = .pointer (some ⟨g, 0, none⟩) := hS.1
        clear hS hsz
        refine will_of rfl ?_
        intro K hK
        go_simp
        exact hK _ _ ⟨Below.refl _ _, rfl⟩
      · intro a W hsz hb hS
        have h105 : a.tmps.getD 105 undef = .pointer (some ⟨g, 1, none⟩) := hS.1
        clear hS hsz
        refine will_of rfl ?_
        have HW := HM.out.later hb
        obtain ⟨k0, k1, k2, k3, k4, f0, f1, f2, f3, f4⟩ := blkc5 HW.blk
        intro K hK
        go_simp
        exact hK _ _ ⟨Below.refl _ _, rfl⟩
      · intro a W hsz hb hS
        have q104 : IsO (sQ b kz (i + 1) * 2) (a.tmps.getD 104 undef) W := hS.1
        have h106 : a.tmps.getD 106 undef = .slice As ls ls := hS.2.1
        clear hS hsz
        obtain ⟨v104, h104⟩ : ∃ v, a.tmps.getD 104 undef = v := ⟨_, rfl⟩
        rw [h104] at q104
        refine will_of rfl ?_
        have HW := HM.out.later hb
        obtain ⟨k0, k1, k2, k3, k4, f0, f1, f2, f3, f4⟩ := blkc5 HW.blk
        intro K hK
        go_simp
        refine (HCm.out W _ _ q104.isT HW.hs.isT).mono ?_
        rintro e W' ⟨v, rfl, hv, hb'⟩
        exact hK _ _ ⟨hb', hv⟩
      · intro a W hsz hb hS
        have h107 : a.tmps.getD 107 undef = .int .i64 cc := hS.1
        clear hS hsz
        refine will_of rfl ?_
        intro K hK
        go_simp
        exact hK _ _ ⟨Below.refl _ _, rfl⟩
      intro f W hb hH
      have e0 : f 0 = .pointer (some ⟨g, 0, none⟩) := hH.1
      have e1 : f 1 = .slice D1 p1 p1 := hH.2.1
      obtain ⟨x2, y2⟩ : ∃ x, f 2 = x := ⟨_, rfl⟩
      have q2 : IsO (sQ b kz (i + 1) * 2) (f 2) W := hH.2.2.1
      rw [y2] at q2
      have e3 : f 3 = .pointer (some ⟨g, 1, none⟩) := hH.2.2.2.1
      have e4 : f 4 = .slice As ls ls := hH.2.2.2.2.1
      have e5 : f 5 = .int .i64 cc := hH.2.2.2.2.2.1
      have e6 : f 6 = .int .i64 cc := hH.2.2.2.2.2.2.1
      simp only [List.take_succ_cons, List.take_zero, List.drop_succ_cons, List.drop_zero, putFrom, Act.put, List.setIfInBounds_toArray, List.set_cons_zero, List.set_cons_succ, Nat.reduceAdd, e0, e1, y2, e3, e4, e5, e6]
      clear e0 e1 y2 e3 e4 e5 e6 hH f
      have HM := Lib.hid (HM.out.later hb)
      have HG := Lib.hid (GrowB.later HG.out hb)
      have hsz := HM.out.bl.size
      clear hb q2 HCm
      have hup := HUP.out.2.2
      simp only [Bool.not_true, Bool.not_false, Bool.true_or, Bool.false_or, Bool.and_true, Bool.true_and, Bool.false_and] at hup
      have HV : Hid ((q + 1) ≤ 9 ∧ sF b kz (i + 1) = sP b kz i * 10 + (q + 1) ∧ 1 ≤ sF b kz (i + 1)) := Lib.hid (by
        obtain ⟨v, h1, h2, h3⟩ := HUP.out.1
        rw [hup, if_pos rfl] at h3
        rw [h3] at h1 h2
        exact ⟨h1, h2, HUP.out.2.1⟩)
      clear hup
      have HTX : Hid (txt (sP b kz i) ++ [UInt8.ofNat (48 + (q + 1))] = txt (sF b kz (i + 1))) := Lib.hid (txt_push HV.out.2.1 HV.out.1 HV.out.2.2)
      have hv9 : (q + 1) ≤ 9 := HV.out.1
      have HZB := Lib.hid (byte_of (v := (q + 1)) hv9)
      have hFl : 1 ≤ (txt (sF b kz (i + 1))).length := txt_some HV.out.2.2
      have hFl2 : (txt (sF b kz (i + 1))).length ≤ 6001 := by
        rw [← HTX.out, List.length_append]
        have := Nat.le_trans (txt_len (sP b kz i)) HBi.out.2.2.2
        simp; omega
      have HFm := Lib.hid (fun W (hW : Pow10 W) => formp_any s (txt (sF b kz (i + 1))) (kz - (i : Int) - 1) hFl (by omega) (by omega) (by omega) W hW)
      obtain ⟨FL, hFL⟩ : ∃ FL, (txt (sF b kz (i + 1))).length = FL := ⟨_, rfl⟩
      rw [hFL] at hFl hFl2
      have HFL := Lib.hid hFL
      obtain ⟨tt, htt⟩ : ∃ tt, bs (ftext s (txt (sF b kz (i + 1))) (kz - (i : Int) - 1)) = tt := ⟨_, rfl⟩
      rw [htt] at HFm
      rw [show kz - (i : Int) - 1 = kz - ((i + 1 : Nat) : Int) by omega] at htt
      have HTT := Lib.hid htt
      have hi8 : i < 736 := by
        rcases Nat.eq_zero_or_pos i with h | h
        · omega
        · exact lo_end (L := sL b kz) (S := mgS b) (r := sQ b kz i) (k := kz.toNat) (HI.out.2 i h (Nat.le_refl _)).2 (Nat.mod_lt _ HSH.out.2.2.2.2.1) HSH.out.2.2.2.2.2 HBL.out.2.1 (by omega)
      have HOK : Hid (ShtOk b kz (i + 1)) := Lib.hid ⟨HTR.out.1, HTR.out.2, by omega, by omega, by rw [HEV.out]; exact HTL.out.1, by rw [HEV.out]; exact HTL.out.2, fun j h1 h2 => HI.out.2 j h1 (by omega), by rw [HLH.out.1, HLH.out.2]; simp⟩
      clear hFL htt
      go_wp2_with (refine wpList_pushC rfl _ _ rfl w.heap.size _ (txt (sP b kz i)) rfl W _ (UInt8.ofNat (48 + (q + 1))) rfl (by have := HZB.out; push_cast at this ⊢; omega) HG.out rfl hlen1 hsz ?_; intro v' w8 hG1 hg1; rw [HTX.out] at hG1; have HM8 := Lib.hid (HM.out.push HG.out hg1); obtain ⟨g8, cap8, rfl, _, _, _, _⟩ := hG1.form (by rw [HFL.out]; exact hFl); have hcv := convN w8 g8 0 (txt (sF b kz (i + 1))).length cap8 (txt (sF b kz (i + 1))) rfl (fun k c hc => by rw [Nat.zero_add]; exact (hG1.at rfl hc).1); rw [HFL.out] at hcv ⊢; have hcv2 := hcv; clear hcv hG1 hg1)
      refine (HFm.out _ (HPP.out.below HM8.out.bl)).mono ?_
      rintro en w9 ⟨rfl, hb9⟩
      have HB9 := Lib.hid (raft HM8.out.bl hb9)
      clear hb9 hcv2
      go_wp2
      go_ret2
      exact ⟨kz, i + 1, HOK.out, by rw [HTT.out]; rfl, HB9.out⟩
    · obtain ⟨cc, hcc⟩ : ∃ cc, cmp (sQ b kz (i + 1) * 2) (sS b kz) = cc := ⟨_, rfl⟩
      have HCm := Lib.hid (fun W v u (h : IsT (sQ b kz (i + 1) * 2) v W) (h' : IsT (sS b kz) u W) => ncmp_is h h' (Nat.le_trans (blen_mul_le HQ1.out (show blen 2 ≤ 2 from (blen_lt _ _).2 (by decide))) (by omega)) (by have := HBK.out; omega))
      rw [hcc] at HCm
      have HCC := Lib.hid hcc
      clear hcc
      go_upto_region 23 with fail
      refine region_at 7 (Pick [IsV (.pointer (some ⟨g, 0, none⟩)), IsV (.slice D1 p1 p1), IsO (sQ b kz (i + 1) * 2), IsV (.pointer (some ⟨g, 1, none⟩)), IsV (.slice As ls ls), IsV (.int .i64 cc), IsV (.int .i64 cc)]) (by kernel_rfl) (by kernel_rfl) (by kernel_rfl) (mono_pick ⟨IsV.mono _, IsV.mono _, IsO.mono _, IsV.mono _, IsV.mono _, IsV.mono _, IsV.mono _, trivial⟩) ⟨?_, ?_, ?_, ?_, ?_, ?_, ?_, trivial⟩ ?_
      · intro a W hsz hb hS
        have h4 : a.tmps.getD 4 undef = .pointer (some ⟨g, 0, none⟩) := hS.1
        clear hS hsz
        refine will_of rfl ?_
        intro K hK
        go_simp
        exact hK _ _ ⟨Below.refl _ _, rfl⟩
      · intro a W hsz hb hS
        have h102 : a.tmps.getD 102 undef = .pointer (some ⟨g, 0, none⟩) := hS.1
        clear hS hsz
        refine will_of rfl ?_
        have HW := HM.out.later hb
        obtain ⟨k0, k1, k2, k3, k4, f0, f1, f2, f3, f4⟩ := blkc5 HW.blk
        intro K hK
        go_simp
        exact hK _ _ ⟨Below.refl _ _, rfl⟩
      · intro a W hsz hb hS
        have h103 : a.tmps.getD 103 undef = .slice D1 p1 p1 := hS.1
        clear hS hsz
        refine will_of rfl ?_
        have HW := HM.out.later hb
        obtain ⟨k0, k1, k2, k3, k4, f0, f1, f2, f3, f4⟩ := blkc5 HW.blk
        intro K hK
        go_simp
        refine (HT2.out W _ _ HW.hr.isT (by have := HQ1.out; omega)).mono ?_
        rintro e W' ⟨v, rfl, hv, hb'⟩
        exact hK _ _ ⟨hb', hv⟩
      · intro a W hsz hb hS
        have h4 : a.tmps.getD 4 undef = .pointer (some ⟨g, 0, none⟩) := hS.1
        clear hS hsz
        refine will_of rfl ?_
        intro K hK
        go_simp
        exact hK _ _ ⟨Below.refl _ _, rfl⟩
      · intro a W hsz hb hS
        have h105 : a.tmps.getD 105 undef = .pointer (some ⟨g, 1, none⟩) := hS.1
        clear hS hsz
        refine will_of rfl ?_
        have HW := HM.out.later hb
        obtain ⟨k0, k1, k2, k3, k4, f0, f1, f2, f3, f4⟩ := blkc5 HW.blk
        intro K hK
        go_simp
        exact hK _ _ ⟨Below.refl _ _, rfl⟩
      · intro a W hsz hb hS
        have q104 : IsO (sQ b kz (i + 1) * 2) (a.tmps.getD 104 undef) W := hS.1
        have h106 : a.tmps.getD 106 undef = .slice As ls ls := hS.2.1
        clear hS hsz
        obtain ⟨v104, h104⟩ : ∃ v, a.tmps.getD 104 undef = v := ⟨_, rfl⟩
        rw [h104] at q104
        refine will_of rfl ?_
        have HW := HM.out.later hb
        obtain ⟨k0, k1, k2, k3, k4, f0, f1, f2, f3, f4⟩ := blkc5 HW.blk
        intro K hK
        go_simp
        refine (HCm.out W _ _ q104.isT HW.hs.isT).mono ?_
        rintro e W' ⟨v, rfl, hv, hb'⟩
        exact hK _ _ ⟨hb', hv⟩
      · intro a W hsz hb hS
        have h107 : a.tmps.getD 107 undef = .int .i64 cc := hS.1
        clear hS hsz
        refine will_of rfl ?_
        intro K hK
        go_simp
        exact hK _ _ ⟨Below.refl _ _, rfl⟩
      intro f W hb hH
      have e0 : f 0 = .pointer (some ⟨g, 0, none⟩) := hH.1
      have e1 : f 1 = .slice D1 p1 p1 := hH.2.1
      obtain ⟨x2, y2⟩ : ∃ x, f 2 = x := ⟨_, rfl⟩
      have q2 : IsO (sQ b kz (i + 1) * 2) (f 2) W := hH.2.2.1
      rw [y2] at q2
      have e3 : f 3 = .pointer (some ⟨g, 1, none⟩) := hH.2.2.2.1
      have e4 : f 4 = .slice As ls ls := hH.2.2.2.2.1
      have e5 : f 5 = .int .i64 cc := hH.2.2.2.2.2.1
      have e6 : f 6 = .int .i64 cc := hH.2.2.2.2.2.2.1
      simp only [List.take_succ_cons, List.take_zero, List.drop_succ_cons, List.drop_zero, putFrom, Act.put, List.setIfInBounds_toArray, List.set_cons_zero, List.set_cons_succ, Nat.reduceAdd, e0, e1, y2, e3, e4, e5, e6]
      clear e0 e1 y2 e3 e4 e5 e6 hH f
      have HM := Lib.hid (HM.out.later hb)
      have HG := Lib.hid (GrowB.later HG.out hb)
      have hsz := HM.out.bl.size
      clear hb q2 HCm
      have hup := HUP.out.2.2
      simp only [Bool.not_true, Bool.not_false, Bool.true_or, Bool.false_or, Bool.and_true, Bool.true_and, Bool.false_and] at hup
      have HV : Hid (q ≤ 9 ∧ sF b kz (i + 1) = sP b kz i * 10 + q ∧ 1 ≤ sF b kz (i + 1)) := Lib.hid (by
        obtain ⟨v, h1, h2, h3⟩ := HUP.out.1
        rw [hup, if_neg (by simp)] at h3
        rw [h3] at h1 h2
        exact ⟨h1, h2, HUP.out.2.1⟩)
      clear hup
      have HTX : Hid (txt (sP b kz i) ++ [UInt8.ofNat (48 + q)] = txt (sF b kz (i + 1))) := Lib.hid (txt_push HV.out.2.1 HV.out.1 HV.out.2.2)
      have hv9 : q ≤ 9 := HV.out.1
      have HZB := Lib.hid (byte_of (v := q) hv9)
      have hFl : 1 ≤ (txt (sF b kz (i + 1))).length := txt_some HV.out.2.2
      have hFl2 : (txt (sF b kz (i + 1))).length ≤ 6001 := by
        rw [← HTX.out, List.length_append]
        have := Nat.le_trans (txt_len (sP b kz i)) HBi.out.2.2.2
        simp; omega
      have HFm := Lib.hid (fun W (hW : Pow10 W) => formp_any s (txt (sF b kz (i + 1))) (kz - (i : Int) - 1) hFl (by omega) (by omega) (by omega) W hW)
      obtain ⟨FL, hFL⟩ : ∃ FL, (txt (sF b kz (i + 1))).length = FL := ⟨_, rfl⟩
      rw [hFL] at hFl hFl2
      have HFL := Lib.hid hFL
      obtain ⟨tt, htt⟩ : ∃ tt, bs (ftext s (txt (sF b kz (i + 1))) (kz - (i : Int) - 1)) = tt := ⟨_, rfl⟩
      rw [htt] at HFm
      rw [show kz - (i : Int) - 1 = kz - ((i + 1 : Nat) : Int) by omega] at htt
      have HTT := Lib.hid htt
      have hi8 : i < 736 := by
        rcases Nat.eq_zero_or_pos i with h | h
        · omega
        · exact lo_end (L := sL b kz) (S := mgS b) (r := sQ b kz i) (k := kz.toNat) (HI.out.2 i h (Nat.le_refl _)).2 (Nat.mod_lt _ HSH.out.2.2.2.2.1) HSH.out.2.2.2.2.2 HBL.out.2.1 (by omega)
      have HOK : Hid (ShtOk b kz (i + 1)) := Lib.hid ⟨HTR.out.1, HTR.out.2, by omega, by omega, by rw [HEV.out]; exact HTL.out.1, by rw [HEV.out]; exact HTL.out.2, fun j h1 h2 => HI.out.2 j h1 (by omega), by rw [HLH.out.1, HLH.out.2]; simp⟩
      clear hFL htt
      go_wp2_with (refine wpList_pushC rfl _ _ rfl w.heap.size _ (txt (sP b kz i)) rfl W _ (UInt8.ofNat (48 + q)) rfl (by have := HZB.out; push_cast at this ⊢; omega) HG.out rfl hlen1 hsz ?_; intro v' w8 hG1 hg1; rw [HTX.out] at hG1; have HM8 := Lib.hid (HM.out.push HG.out hg1); obtain ⟨g8, cap8, rfl, _, _, _, _⟩ := hG1.form (by rw [HFL.out]; exact hFl); have hcv := convN w8 g8 0 (txt (sF b kz (i + 1))).length cap8 (txt (sF b kz (i + 1))) rfl (fun k c hc => by rw [Nat.zero_add]; exact (hG1.at rfl hc).1); rw [HFL.out] at hcv ⊢; have hcv2 := hcv; clear hcv hG1 hg1)
      refine (HFm.out _ (HPP.out.below HM8.out.bl)).mono ?_
      rintro en w9 ⟨rfl, hb9⟩
      have HB9 := Lib.hid (raft HM8.out.bl hb9)
      clear hb9 hcv2
      go_wp2
      go_ret2
      exact ⟨kz, i + 1, HOK.out, by rw [HTT.out]; rfl, HB9.out⟩
    · obtain ⟨cc, hcc⟩ : ∃ cc, cmp (sQ b kz (i + 1) * 2) (sS b kz) = cc := ⟨_, rfl⟩
      have HCm := Lib.hid (fun W v u (h : IsT (sQ b kz (i + 1) * 2) v W) (h' : IsT (sS b kz) u W) => ncmp_is h h' (Nat.le_trans (blen_mul_le HQ1.out (show blen 2 ≤ 2 from (blen_lt _ _).2 (by decide))) (by omega)) (by have := HBK.out; omega))
      rw [hcc] at HCm
      have HCC := Lib.hid hcc
      clear hcc
      go_upto_region 23 with fail
      refine region_at 7 (Pick [IsV (.pointer (some ⟨g, 0, none⟩)), IsV (.slice D1 p1 p1), IsO (sQ b kz (i + 1) * 2), IsV (.pointer (some ⟨g, 1, none⟩)), IsV (.slice As ls ls), IsV (.int .i64 cc), IsV (.int .i64 cc)]) (by kernel_rfl) (by kernel_rfl) (by kernel_rfl) (mono_pick ⟨IsV.mono _, IsV.mono _, IsO.mono _, IsV.mono _, IsV.mono _, IsV.mono _, IsV.mono _, trivial⟩) ⟨?_, ?_, ?_, ?_, ?_, ?_, ?_, trivial⟩ ?_
      · intro a W hsz hb hS
        have h4 : a.tmps.getD 4 undef = .pointer (some ⟨g, 0, none⟩) := hS.1
        clear hS hsz
        refine will_of rfl ?_
        intro K hK
        go_simp
        exact hK _ _ ⟨Below.refl _ _, rfl⟩
      · intro a W hsz hb hS
        have h102 : a.tmps.getD 102 undef = .pointer (some ⟨g, 0, none⟩) := hS.1
        clear hS hsz
        refine will_of rfl ?_
        have HW := HM.out.later hb
        obtain ⟨k0, k1, k2, k3, k4, f0, f1, f2, f3, f4⟩ := blkc5 HW.blk
        intro K hK
        go_simp
        exact hK _ _ ⟨Below.refl _ _, rfl⟩
      · intro a W hsz hb hS
        have h103 : a.tmps.getD 103 undef = .slice D1 p1 p1 := hS.1
        clear hS hsz
        refine will_of rfl ?_
        have HW := HM.out.later hb
        obtain ⟨k0, k1, k2, k3, k4, f0, f1, f2, f3, f4⟩ := blkc5 HW.blk
        intro K hK
        go_simp
        refine (HT2.out W _ _ HW.hr.isT (by have := HQ1.out; omega)).mono ?_
        rintro e W' ⟨v, rfl, hv, hb'⟩
        exact hK _ _ ⟨hb', hv⟩
      · intro a W hsz hb hS
        have h4 : a.tmps.getD 4 undef = .pointer (some ⟨g, 0, none⟩) := hS.1
        clear hS hsz
        refine will_of rfl ?_
        intro K hK
        go_simp
        exact hK _ _ ⟨Below.refl _ _, rfl⟩
      · intro a W hsz hb hS
        have h105 : a.tmps.getD 105 undef = .pointer (some ⟨g, 1, none⟩) := hS.1
        clear hS hsz
        refine will_of rfl ?_
        have HW := HM.out.later hb
        obtain ⟨k0, k1, k2, k3, k4, f0, f1, f2, f3, f4⟩ := blkc5 HW.blk
        intro K hK
        go_simp
        exact hK _ _ ⟨Below.refl _ _, rfl⟩
      · intro a W hsz hb hS
        have q104 : IsO (sQ b kz (i + 1) * 2) (a.tmps.getD 104 undef) W := hS.1
        have h106 : a.tmps.getD 106 undef = .slice As ls ls := hS.2.1
        clear hS hsz
        obtain ⟨v104, h104⟩ : ∃ v, a.tmps.getD 104 undef = v := ⟨_, rfl⟩
        rw [h104] at q104
        refine will_of rfl ?_
        have HW := HM.out.later hb
        obtain ⟨k0, k1, k2, k3, k4, f0, f1, f2, f3, f4⟩ := blkc5 HW.blk
        intro K hK
        go_simp
        refine (HCm.out W _ _ q104.isT HW.hs.isT).mono ?_
        rintro e W' ⟨v, rfl, hv, hb'⟩
        exact hK _ _ ⟨hb', hv⟩
      · intro a W hsz hb hS
        have h107 : a.tmps.getD 107 undef = .int .i64 cc := hS.1
        clear hS hsz
        refine will_of rfl ?_
        intro K hK
        go_simp
        exact hK _ _ ⟨Below.refl _ _, rfl⟩
      intro f W hb hH
      have e0 : f 0 = .pointer (some ⟨g, 0, none⟩) := hH.1
      have e1 : f 1 = .slice D1 p1 p1 := hH.2.1
      obtain ⟨x2, y2⟩ : ∃ x, f 2 = x := ⟨_, rfl⟩
      have q2 : IsO (sQ b kz (i + 1) * 2) (f 2) W := hH.2.2.1
      rw [y2] at q2
      have e3 : f 3 = .pointer (some ⟨g, 1, none⟩) := hH.2.2.2.1
      have e4 : f 4 = .slice As ls ls := hH.2.2.2.2.1
      have e5 : f 5 = .int .i64 cc := hH.2.2.2.2.2.1
      have e6 : f 6 = .int .i64 cc := hH.2.2.2.2.2.2.1
      simp only [List.take_succ_cons, List.take_zero, List.drop_succ_cons, List.drop_zero, putFrom, Act.put, List.setIfInBounds_toArray, List.set_cons_zero, List.set_cons_succ, Nat.reduceAdd, e0, e1, y2, e3, e4, e5, e6]
      clear e0 e1 y2 e3 e4 e5 e6 hH f
      have HM := Lib.hid (HM.out.later hb)
      have HG := Lib.hid (GrowB.later HG.out hb)
      have hsz := HM.out.bl.size
      clear hb q2 HCm
      have hup := HUP.out.2.2
      simp only [Bool.not_true, Bool.not_false, Bool.true_or, Bool.false_or, Bool.and_true, Bool.true_and, Bool.false_and] at hup
      have hand := and_1L q (by omega)
      rcases Nat.lt_trichotomy (sQ b kz (i + 1) * 2) (sS b kz) with hcmp | hcmp | hcmp
      · rw [decide_eq_false (by omega)] at hup
        have HV : Hid (q ≤ 9 ∧ sF b kz (i + 1) = sP b kz i * 10 + q ∧ 1 ≤ sF b kz (i + 1)) := Lib.hid (by
          obtain ⟨v, h1, h2, h3⟩ := HUP.out.1
          rw [hup, if_neg (by simp)] at h3
          rw [h3] at h1 h2
          exact ⟨h1, h2, HUP.out.2.1⟩)
        obtain rfl : cc = -1 := by rw [← HCC.out]; unfold cmp; rw [if_pos hcmp]
        clear hup hcmp
        have HTX : Hid (txt (sP b kz i) ++ [UInt8.ofNat (48 + q)] = txt (sF b kz (i + 1))) := Lib.hid (txt_push HV.out.2.1 HV.out.1 HV.out.2.2)
        have hv9 : q ≤ 9 := HV.out.1
        have HZB := Lib.hid (byte_of (v := q) hv9)
        have hFl : 1 ≤ (txt (sF b kz (i + 1))).length := txt_some HV.out.2.2
        have hFl2 : (txt (sF b kz (i + 1))).length ≤ 6001 := by
          rw [← HTX.out, List.length_append]
          have := Nat.le_trans (txt_len (sP b kz i)) HBi.out.2.2.2
          simp; omega
        have HFm := Lib.hid (fun W (hW : Pow10 W) => formp_any s (txt (sF b kz (i + 1))) (kz - (i : Int) - 1) hFl (by omega) (by omega) (by omega) W hW)
        obtain ⟨FL, hFL⟩ : ∃ FL, (txt (sF b kz (i + 1))).length = FL := ⟨_, rfl⟩
        rw [hFL] at hFl hFl2
        have HFL := Lib.hid hFL
        obtain ⟨tt, htt⟩ : ∃ tt, bs (ftext s (txt (sF b kz (i + 1))) (kz - (i : Int) - 1)) = tt := ⟨_, rfl⟩
        rw [htt] at HFm
        rw [show kz - (i : Int) - 1 = kz - ((i + 1 : Nat) : Int) by omega] at htt
        have HTT := Lib.hid htt
        have hi8 : i < 736 := by
          rcases Nat.eq_zero_or_pos i with h | h
          · omega
          · exact lo_end (L := sL b kz) (S := mgS b) (r := sQ b kz i) (k := kz.toNat) (HI.out.2 i h (Nat.le_refl _)).2 (Nat.mod_lt _ HSH.out.2.2.2.2.1) HSH.out.2.2.2.2.2 HBL.out.2.1 (by omega)
        have HOK : Hid (ShtOk b kz (i + 1)) := Lib.hid ⟨HTR.out.1, HTR.out.2, by omega, by omega, by rw [HEV.out]; exact HTL.out.1, by rw [HEV.out]; exact HTL.out.2, fun j h1 h2 => HI.out.2 j h1 (by omega), by rw [HLH.out.1, HLH.out.2]; simp⟩
        clear hFL htt
        go_wp2_with (refine wpList_pushC rfl _ _ rfl w.heap.size _ (txt (sP b kz i)) rfl W _ (UInt8.ofNat (48 + q)) rfl (by have := HZB.out; push_cast at this ⊢; omega) HG.out rfl hlen1 hsz ?_; intro v' w8 hG1 hg1; rw [HTX.out] at hG1; have HM8 := Lib.hid (HM.out.push HG.out hg1); obtain ⟨g8, cap8, rfl, _, _, _, _⟩ := hG1.form (by rw [HFL.out]; exact hFl); have hcv := convN w8 g8 0 (txt (sF b kz (i + 1))).length cap8 (txt (sF b kz (i + 1))) rfl (fun k c hc => by rw [Nat.zero_add]; exact (hG1.at rfl hc).1); rw [HFL.out] at hcv ⊢; have hcv2 := hcv; clear hcv hG1 hg1)
        refine (HFm.out _ (HPP.out.below HM8.out.bl)).mono ?_
        rintro en w9 ⟨rfl, hb9⟩
        have HB9 := Lib.hid (raft HM8.out.bl hb9)
        clear hb9 hcv2
        go_wp2
        go_ret2
        exact ⟨kz, i + 1, HOK.out, by rw [HTT.out]; rfl, HB9.out⟩
      · by_cases hodd : q % 2 = 1
        · rw [decide_eq_true (.inr ⟨hcmp, hodd⟩)] at hup
          have HV : Hid ((q + 1) ≤ 9 ∧ sF b kz (i + 1) = sP b kz i * 10 + (q + 1) ∧ 1 ≤ sF b kz (i + 1)) := Lib.hid (by
            obtain ⟨v, h1, h2, h3⟩ := HUP.out.1
            rw [hup, if_pos rfl] at h3
            rw [h3] at h1 h2
            exact ⟨h1, h2, HUP.out.2.1⟩)
          obtain rfl : cc = 0 := by rw [← HCC.out]; unfold cmp; rw [if_neg (by omega), if_neg (by omega)]
          have hpq : ((q : Int) % 2 == 1) = true := by simp only [beq_iff_eq]; omega
          clear hup hcmp hodd
          have HTX : Hid (txt (sP b kz i) ++ [UInt8.ofNat (48 + (q + 1))] = txt (sF b kz (i + 1))) := Lib.hid (txt_push HV.out.2.1 HV.out.1 HV.out.2.2)
          have hv9 : (q + 1) ≤ 9 := HV.out.1
          have HZB := Lib.hid (byte_of (v := (q + 1)) hv9)
          have hFl : 1 ≤ (txt (sF b kz (i + 1))).length := txt_some HV.out.2.2
          have hFl2 : (txt (sF b kz (i + 1))).length ≤ 6001 := by
            rw [← HTX.out, List.length_append]
            have := Nat.le_trans (txt_len (sP b kz i)) HBi.out.2.2.2
            simp; omega
          have HFm := Lib.hid (fun W (hW : Pow10 W) => formp_any s (txt (sF b kz (i + 1))) (kz - (i : Int) - 1) hFl (by omega) (by omega) (by omega) W hW)
          obtain ⟨FL, hFL⟩ : ∃ FL, (txt (sF b kz (i + 1))).length = FL := ⟨_, rfl⟩
          rw [hFL] at hFl hFl2
          have HFL := Lib.hid hFL
          obtain ⟨tt, htt⟩ : ∃ tt, bs (ftext s (txt (sF b kz (i + 1))) (kz - (i : Int) - 1)) = tt := ⟨_, rfl⟩
          rw [htt] at HFm
          rw [show kz - (i : Int) - 1 = kz - ((i + 1 : Nat) : Int) by omega] at htt
          have HTT := Lib.hid htt
          have hi8 : i < 736 := by
            rcases Nat.eq_zero_or_pos i with h | h
            · omega
            · exact lo_end (L := sL b kz) (S := mgS b) (r := sQ b kz i) (k := kz.toNat) (HI.out.2 i h (Nat.le_refl _)).2 (Nat.mod_lt _ HSH.out.2.2.2.2.1) HSH.out.2.2.2.2.2 HBL.out.2.1 (by omega)
          have HOK : Hid (ShtOk b kz (i + 1)) := Lib.hid ⟨HTR.out.1, HTR.out.2, by omega, by omega, by rw [HEV.out]; exact HTL.out.1, by rw [HEV.out]; exact HTL.out.2, fun j h1 h2 => HI.out.2 j h1 (by omega), by rw [HLH.out.1, HLH.out.2]; simp⟩
          clear hFL htt
          go_wp2_with (refine wpList_pushC rfl _ _ rfl w.heap.size _ (txt (sP b kz i)) rfl W _ (UInt8.ofNat (48 + (q + 1))) rfl (by have := HZB.out; push_cast at this ⊢; omega) HG.out rfl hlen1 hsz ?_; intro v' w8 hG1 hg1; rw [HTX.out] at hG1; have HM8 := Lib.hid (HM.out.push HG.out hg1); obtain ⟨g8, cap8, rfl, _, _, _, _⟩ := hG1.form (by rw [HFL.out]; exact hFl); have hcv := convN w8 g8 0 (txt (sF b kz (i + 1))).length cap8 (txt (sF b kz (i + 1))) rfl (fun k c hc => by rw [Nat.zero_add]; exact (hG1.at rfl hc).1); rw [HFL.out] at hcv ⊢; have hcv2 := hcv; clear hcv hG1 hg1)
          refine (HFm.out _ (HPP.out.below HM8.out.bl)).mono ?_
          rintro en w9 ⟨rfl, hb9⟩
          have HB9 := Lib.hid (raft HM8.out.bl hb9)
          clear hb9 hcv2
          go_wp2
          go_ret2
          exact ⟨kz, i + 1, HOK.out, by rw [HTT.out]; rfl, HB9.out⟩
        · rw [decide_eq_false (by omega)] at hup
          have HV : Hid (q ≤ 9 ∧ sF b kz (i + 1) = sP b kz i * 10 + q ∧ 1 ≤ sF b kz (i + 1)) := Lib.hid (by
            obtain ⟨v, h1, h2, h3⟩ := HUP.out.1
            rw [hup, if_neg (by simp)] at h3
            rw [h3] at h1 h2
            exact ⟨h1, h2, HUP.out.2.1⟩)
          obtain rfl : cc = 0 := by rw [← HCC.out]; unfold cmp; rw [if_neg (by omega), if_neg (by omega)]
          have hpq : ((q : Int) % 2 == 1) = false := by simp only [beq_eq_false_iff_ne, ne_eq]; omega
          clear hup hcmp hodd
          have HTX : Hid (txt (sP b kz i) ++ [UInt8.ofNat (48 + q)] = txt (sF b kz (i + 1))) := Lib.hid (txt_push HV.out.2.1 HV.out.1 HV.out.2.2)
          have hv9 : q ≤ 9 := HV.out.1
          have HZB := Lib.hid (byte_of (v := q) hv9)
          have hFl : 1 ≤ (txt (sF b kz (i + 1))).length := txt_some HV.out.2.2
          have hFl2 : (txt (sF b kz (i + 1))).length ≤ 6001 := by
            rw [← HTX.out, List.length_append]
            have := Nat.le_trans (txt_len (sP b kz i)) HBi.out.2.2.2
            simp; omega
          have HFm := Lib.hid (fun W (hW : Pow10 W) => formp_any s (txt (sF b kz (i + 1))) (kz - (i : Int) - 1) hFl (by omega) (by omega) (by omega) W hW)
          obtain ⟨FL, hFL⟩ : ∃ FL, (txt (sF b kz (i + 1))).length = FL := ⟨_, rfl⟩
          rw [hFL] at hFl hFl2
          have HFL := Lib.hid hFL
          obtain ⟨tt, htt⟩ : ∃ tt, bs (ftext s (txt (sF b kz (i + 1))) (kz - (i : Int) - 1)) = tt := ⟨_, rfl⟩
          rw [htt] at HFm
          rw [show kz - (i : Int) - 1 = kz - ((i + 1 : Nat) : Int) by omega] at htt
          have HTT := Lib.hid htt
          have hi8 : i < 736 := by
            rcases Nat.eq_zero_or_pos i with h | h
            · omega
            · exact lo_end (L := sL b kz) (S := mgS b) (r := sQ b kz i) (k := kz.toNat) (HI.out.2 i h (Nat.le_refl _)).2 (Nat.mod_lt _ HSH.out.2.2.2.2.1) HSH.out.2.2.2.2.2 HBL.out.2.1 (by omega)
          have HOK : Hid (ShtOk b kz (i + 1)) := Lib.hid ⟨HTR.out.1, HTR.out.2, by omega, by omega, by rw [HEV.out]; exact HTL.out.1, by rw [HEV.out]; exact HTL.out.2, fun j h1 h2 => HI.out.2 j h1 (by omega), by rw [HLH.out.1, HLH.out.2]; simp⟩
          clear hFL htt
          go_wp2_with (refine wpList_pushC rfl _ _ rfl w.heap.size _ (txt (sP b kz i)) rfl W _ (UInt8.ofNat (48 + q)) rfl (by have := HZB.out; push_cast at this ⊢; omega) HG.out rfl hlen1 hsz ?_; intro v' w8 hG1 hg1; rw [HTX.out] at hG1; have HM8 := Lib.hid (HM.out.push HG.out hg1); obtain ⟨g8, cap8, rfl, _, _, _, _⟩ := hG1.form (by rw [HFL.out]; exact hFl); have hcv := convN w8 g8 0 (txt (sF b kz (i + 1))).length cap8 (txt (sF b kz (i + 1))) rfl (fun k c hc => by rw [Nat.zero_add]; exact (hG1.at rfl hc).1); rw [HFL.out] at hcv ⊢; have hcv2 := hcv; clear hcv hG1 hg1)
          refine (HFm.out _ (HPP.out.below HM8.out.bl)).mono ?_
          rintro en w9 ⟨rfl, hb9⟩
          have HB9 := Lib.hid (raft HM8.out.bl hb9)
          clear hb9 hcv2
          go_wp2
          go_ret2
          exact ⟨kz, i + 1, HOK.out, by rw [HTT.out]; rfl, HB9.out⟩
      · rw [decide_eq_true (.inl hcmp)] at hup
        have HV : Hid ((q + 1) ≤ 9 ∧ sF b kz (i + 1) = sP b kz i * 10 + (q + 1) ∧ 1 ≤ sF b kz (i + 1)) := Lib.hid (by
          obtain ⟨v, h1, h2, h3⟩ := HUP.out.1
          rw [hup, if_pos rfl] at h3
          rw [h3] at h1 h2
          exact ⟨h1, h2, HUP.out.2.1⟩)
        obtain rfl : cc = 1 := by rw [← HCC.out]; unfold cmp; rw [if_neg (by omega), if_pos hcmp]
        clear hup hcmp
        have HTX : Hid (txt (sP b kz i) ++ [UInt8.ofNat (48 + (q + 1))] = txt (sF b kz (i + 1))) := Lib.hid (txt_push HV.out.2.1 HV.out.1 HV.out.2.2)
        have hv9 : (q + 1) ≤ 9 := HV.out.1
        have HZB := Lib.hid (byte_of (v := (q + 1)) hv9)
        have hFl : 1 ≤ (txt (sF b kz (i + 1))).length := txt_some HV.out.2.2
        have hFl2 : (txt (sF b kz (i + 1))).length ≤ 6001 := by
          rw [← HTX.out, List.length_append]
          have := Nat.le_trans (txt_len (sP b kz i)) HBi.out.2.2.2
          simp; omega
        have HFm := Lib.hid (fun W (hW : Pow10 W) => formp_any s (txt (sF b kz (i + 1))) (kz - (i : Int) - 1) hFl (by omega) (by omega) (by omega) W hW)
        obtain ⟨FL, hFL⟩ : ∃ FL, (txt (sF b kz (i + 1))).length = FL := ⟨_, rfl⟩
        rw [hFL] at hFl hFl2
        have HFL := Lib.hid hFL
        obtain ⟨tt, htt⟩ : ∃ tt, bs (ftext s (txt (sF b kz (i + 1))) (kz - (i : Int) - 1)) = tt := ⟨_, rfl⟩
        rw [htt] at HFm
        rw [show kz - (i : Int) - 1 = kz - ((i + 1 : Nat) : Int) by omega] at htt
        have HTT := Lib.hid htt
        have hi8 : i < 736 := by
          rcases Nat.eq_zero_or_pos i with h | h
          · omega
          · exact lo_end (L := sL b kz) (S := mgS b) (r := sQ b kz i) (k := kz.toNat) (HI.out.2 i h (Nat.le_refl _)).2 (Nat.mod_lt _ HSH.out.2.2.2.2.1) HSH.out.2.2.2.2.2 HBL.out.2.1 (by omega)
        have HOK : Hid (ShtOk b kz (i + 1)) := Lib.hid ⟨HTR.out.1, HTR.out.2, by omega, by omega, by rw [HEV.out]; exact HTL.out.1, by rw [HEV.out]; exact HTL.out.2, fun j h1 h2 => HI.out.2 j h1 (by omega), by rw [HLH.out.1, HLH.out.2]; simp⟩
        clear hFL htt
        go_wp2_with (refine wpList_pushC rfl _ _ rfl w.heap.size _ (txt (sP b kz i)) rfl W _ (UInt8.ofNat (48 + (q + 1))) rfl (by have := HZB.out; push_cast at this ⊢; omega) HG.out rfl hlen1 hsz ?_; intro v' w8 hG1 hg1; rw [HTX.out] at hG1; have HM8 := Lib.hid (HM.out.push HG.out hg1); obtain ⟨g8, cap8, rfl, _, _, _, _⟩ := hG1.form (by rw [HFL.out]; exact hFl); have hcv := convN w8 g8 0 (txt (sF b kz (i + 1))).length cap8 (txt (sF b kz (i + 1))) rfl (fun k c hc => by rw [Nat.zero_add]; exact (hG1.at rfl hc).1); rw [HFL.out] at hcv ⊢; have hcv2 := hcv; clear hcv hG1 hg1)
        refine (HFm.out _ (HPP.out.below HM8.out.bl)).mono ?_
        rintro en w9 ⟨rfl, hb9⟩
        have HB9 := Lib.hid (raft HM8.out.bl hb9)
        clear hb9 hcv2
        go_wp2
        go_ret2
        exact ⟨kz, i + 1, HOK.out, by rw [HTT.out]; rfl, HB9.out⟩
end Go.Proofs.YtiadjcilfljdaaaDoor
