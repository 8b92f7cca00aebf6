/- vergelaw2.held, by the contracts of what it calls. -/
import Derived.Test.YtniogjkkhkibhaaDoorHeldG
import Derived.Deep.RegionWith
namespace Go.Proofs.YtniogjkkhkibhaaDoor
set_option linter.unusedVariables false
set_option linter.unusedSimpArgs false
open Go.RowKit Verge

/-- What one call of 'ask' and one of 'want' answer over two lists. -/
structure Knows (kI : Int) (v : Nat) (e : Int) (X Y : List Nat) (a : Ans) : Prop where
  ask : ∀ (A : Option Addr) (n c : Nat) (A' : Option Addr) (n' c' : Nat) (w : World), Rd w A X → X.length = n → n ≤ c → c ≤ 35184372088600 → Rd w A' Y → Y.length = n' → n' ≤ c' → c' ≤ 35184372088600 → Tab w →
    Calls Tryd.prog 29 #[.int .i64 kI, .slice A n c, .slice A' n' c', .int .u64 (v : Int), .int .i64 e] w (AskPost w a)
  want : ∀ (A : Option Addr) (n c : Nat) (A' : Option Addr) (n' c' : Nat) (w : World), Rd w A X → X.length = n → n ≤ 35184372088600 → Rd w A' Y → Y.length = n' → n' ≤ 35184372088600 →
    Calls Tryd.prog 30 #[.int .i64 kI, .slice A n c, .slice A' n' c', .int .u64 (v : Int), .int .i64 e] w (WantPost w a)
  sl : a.l.length ≤ 35184372088000
  sm : a.m.length ≤ 35184372088000

/-- A record of an answer in a block of its own. -/
def Rec (w : World) (r : Nat) (A1 : Option Addr) (c1 : Nat) (A2 : Option Addr) (c2 : Nat) (a : Ans) : Prop :=
  w.heap[r]? = some (.cells #[.slice A1 a.l.length c1, .slice A2 a.m.length c2, .int .u64 (a.wv : Nat), .int .i64 a.nv, .bool a.bv, .int .i64 a.ev] 50 (0, 0))
section
variable {w w' : World} {r : Nat} {A1 A2 : Option Addr} {c1 c2 : Nat} {a : Ans}
theorem Rec.lt (h : Rec w r A1 c1 A2 c2 a) : r < w.heap.size := by
  by_cases hr : r < w.heap.size
  · exact hr
  · unfold Rec at h; rw [Array.getElem?_eq_none (by omega)] at h; cases h
theorem Rec.later (h : Rec w r A1 c1 A2 c2 a) (hb : Below w.heap.size w w') : Rec w' r A1 c1 A2 c2 a := (hb.block r h.lt).trans h
theorem Rec.grown {row : Option Nat} (h : Rec w r A1 c1 A2 c2 a) (hb : w.grownBy w' row) (hg : some r ≠ row) : Rec w' r A1 c1 A2 c2 a := (hb.block r h.lt hg).trans h
theorem Rec.cell (h : Rec w r A1 c1 A2 c2 a) (i : Nat) : w.cell? ⟨r, i, none⟩ = #[Value.slice A1 a.l.length c1, .slice A2 a.m.length c2, .int .u64 (a.wv : Nat), .int .i64 a.nv, .bool a.bv, .int .i64 a.ev][i]? := by
  unfold Rec at h
  simp [World.cell?, h]
theorem Rec.cells (h : Rec w r A1 c1 A2 c2 a) : w.cell? ⟨r, 0, none⟩ = some (.slice A1 a.l.length c1) ∧ w.cell? ⟨r, 1, none⟩ = some (.slice A2 a.m.length c2) ∧ w.cell? ⟨r, 2, none⟩ = some (.int .u64 (a.wv : Nat)) ∧
    w.cell? ⟨r, 3, none⟩ = some (.int .i64 a.nv) ∧ w.cell? ⟨r, 4, none⟩ = some (.bool a.bv) ∧ w.cell? ⟨r, 5, none⟩ = some (.int .i64 a.ev) := ⟨h.cell 0, h.cell 1, h.cell 2, h.cell 3, h.cell 4, h.cell 5⟩
theorem Rec.new (w : World) (A1 : Option Addr) (c1 : Nat) (A2 : Option Addr) (c2 : Nat) (a : Ans) : Rec (w.alloc (.cells #[.slice A1 a.l.length c1, .slice A2 a.m.length c2, .int .u64 (a.wv : Nat), .int .i64 a.nv, .bool a.bv, .int .i64 a.ev] 50)) w.heap.size A1 c1 A2 c2 a := by
  show (w.heap.push _)[w.heap.size]? = _
  simp
end

theorem aft {a b c : World} (h1 : Below a.heap.size a b) (h2 : Below b.heap.size b c) : Below a.heap.size a c := h1.trans (h2.mono h1.size)
theorem aft_grown {a b c : World} {g : Nat} (h1 : Below a.heap.size a b) (h2 : b.grownBy c (some g)) (hg : a.heap.size ≤ g) : Below a.heap.size a c :=
  ⟨h2.os.trans h1.os, h2.tape.trans h1.tape, h2.output.trans h1.output, Nat.le_trans h1.size h2.size, fun k hk => (h2.block k (Nat.lt_of_lt_of_le hk h1.size) (by simp; omega)).trans (h1.block k hk)⟩

abbrev recO (A1 : Option Addr) (c1 : Nat) (A2 : Option Addr) (c2 : Nat) (a : Ans) : Obj := .cells #[.slice A1 a.l.length c1, .slice A2 a.m.length c2, .int .u64 (a.wv : Nat), .int .i64 a.nv, .bool a.bv, .int .i64 a.ev] 50
theorem size_alloc (w : World) (o : Obj) : (w.alloc o).heap.size = w.heap.size + 1 := by simp
/-- An answer of 'want' in its record's block. -/
structure Wnt (w : World) (r : Nat) (A1 : Option Addr) (c1 : Nat) (A2 : Option Addr) (c2 : Nat) (a : Ans) : Prop where
  rc : Rec w r A1 c1 A2 c2 a
  l : Rd w A1 a.l
  m : Rd w A2 a.m
section
variable {w w' : World} {r : Nat} {A1 A2 : Option Addr} {c1 c2 : Nat} {a : Ans}
theorem Wnt.later (h : Wnt w r A1 c1 A2 c2 a) (hb : Below w.heap.size w w') : Wnt w' r A1 c1 A2 c2 a := ⟨h.rc.later hb, h.l.below hb, h.m.below hb⟩
theorem Wnt.new (h1 : Rd w A1 a.l) (h2 : Rd w A2 a.m) : Wnt (w.alloc (recO A1 c1 A2 c2 a)) w.heap.size A1 c1 A2 c2 a :=
  ⟨Rec.new w A1 c1 A2 c2 a, h1.alloc _, h2.alloc _⟩
end

/-- The three lists that 'held' keeps, and the table. -/
structure Base (w : World) (gu gw gt : Nat) (X Y T : List Nat) : Prop where
  bu : Blk w gu X
  bw : Blk w gw Y
  bt : Blk w gt T
  tab : Tab w
theorem Base.later {w w' : World} {gu gw gt : Nat} {X Y T : List Nat} (h : Base w gu gw gt X Y T) (hb : Below w.heap.size w w') : Base w' gu gw gt X Y T := ⟨h.bu.later hb, h.bw.later hb, h.bt.later hb, h.tab.below hb⟩

/-- An answer of 'ask' in its record's block r: its lists lie in blocks from lo on, below r, each in its own. -/
structure Got (w : World) (lo r gL gM : Nat) (AL AM : Option Addr) (a : Ans) : Prop where
  rc : Rec w r AL a.l.length AM a.m.length a
  ol : Own w gL AL a.l
  om : Own w gM AM a.m
  l1 : lo ≤ gL
  l2 : gL ≤ r
  l3 : a.l ≠ [] → gL < r
  m1 : lo ≤ gM
  m2 : gM ≤ r
  m3 : a.m ≠ [] → gM < r
  ne : a.l ≠ [] → a.m ≠ [] → gL ≠ gM

theorem Own.grown {w w' : World} {g : Nat} {A : Option Addr} {xs : List Nat} {row : Option Nat} (h : Own w g A xs) (hb : w.grownBy w' row) (hg : xs ≠ [] → some g ≠ row) : Own w' g A xs := by
  by_cases hn : xs = []
  · subst hn; exact Own.nil _ _ _
  · exact h.block (hb.block g (h.lt hn) (hg hn))

section
variable {w w' : World} {lo r gL gM : Nat} {AL AM : Option Addr} {a : Ans}
theorem Got.low {lo' : Nat} (h : Got w lo r gL gM AL AM a) (hl : lo' ≤ lo) : Got w lo' r gL gM AL AM a := ⟨h.rc, h.ol, h.om, Nat.le_trans hl h.l1, h.l2, h.l3, Nat.le_trans hl h.m1, h.m2, h.m3, h.ne⟩
theorem Got.later (h : Got w lo r gL gM AL AM a) (hb : Below w.heap.size w w') : Got w' lo r gL gM AL AM a :=
  ⟨h.rc.later hb, h.ol.later hb, h.om.later hb, h.l1, h.l2, h.l3, h.m1, h.m2, h.m3, h.ne⟩
theorem Got.grown {g : Nat} (h : Got w lo r gL gM AL AM a) (hb : w.grownBy w' (some g)) (hg : g < lo) : Got w' lo r gL gM AL AM a :=
  ⟨h.rc.grown hb (by have := h.l1; have := h.l2; simp; omega), h.ol.grown hb (fun _ => by have := h.l1; simp; omega), h.om.grown hb (fun _ => by have := h.m1; simp; omega), h.l1, h.l2, h.l3, h.m1, h.m2, h.m3, h.ne⟩
theorem got_of {en : Ending} (h : AskPost w a en w') : ∃ gL gM AL AM, en = .returned (.agg #[.slice AL a.l.length a.l.length, .slice AM a.m.length a.m.length, .int .u64 (a.wv : Nat), .int .i64 a.nv, .bool a.bv, .int .i64 a.ev]) ∧
    (∀ o : Obj, o = .cells #[.slice AL a.l.length a.l.length, .slice AM a.m.length a.m.length, .int .u64 (a.wv : Nat), .int .i64 a.nv, .bool a.bv, .int .i64 a.ev] 50 → Got (w'.alloc o) w.heap.size w'.heap.size gL gM AL AM a) ∧ Below w.heap.size w w' := by
  obtain ⟨gL, gM, AL, AM, h1, h2, h3, he, hl, hm, hb⟩ := h
  have hz := hb.size
  have key : ∀ (g : Nat) (A : Option Addr) (l : List Nat), w.heap.size ≤ g → Own w' g A l → ∃ g', w.heap.size ≤ g' ∧ g' ≤ w'.heap.size ∧ (l ≠ [] → g' < w'.heap.size ∧ g' = g) ∧ Own w' g' A l := by
    intro g A l hg hO
    by_cases hn : l = []
    · subst hn
      exact ⟨w.heap.size, Nat.le_refl _, hz, fun hh => absurd rfl hh, Own.nil _ _ _⟩
    · exact ⟨g, hg, Nat.le_of_lt (hO.lt hn), fun _ => ⟨hO.lt hn, rfl⟩, hO⟩
  obtain ⟨g1, a1, a2, a3, a4⟩ := key gL AL a.l h1 hl
  obtain ⟨g2, b1, b2, b3, b4⟩ := key gM AM a.m h2 hm
  refine ⟨g1, g2, AL, AM, he, ?_, hb⟩
  rintro o rfl
  exact ⟨Rec.new w' AL a.l.length AM a.m.length a, a4.later (below_new' _ _), b4.later (below_new' _ _), a1, a2, fun hh => (a3 hh).1, b1, b2, fun hh => (b3 hh).1, fun x y => by rw [(a3 x).2, (b3 y).2]; exact h3⟩
end

/-- What stands behind the first ten statements: nothing below v has turned, x and y hold their lists and the guards. -/
structure St (v w : World) (gx gy : Nat) (cur Y : List Nat) : Prop where
  old : Below v.heap.size v w
  bx : Blk w gx (cur ++ guards)
  by' : Blk w gy (Y ++ guards)
  vx : v.heap.size ≤ gx
  xy : gx < gy
theorem St.later {v w w' : World} {gx gy : Nat} {cur Y : List Nat} (h : St v w gx gy cur Y) (hb : Below w.heap.size w w') : St v w' gx gy cur Y := ⟨aft h.old hb, h.bx.later hb, h.by'.later hb, h.vx, h.xy⟩
theorem St.placed {v w w' : World} {gx gy : Nat} {cur Y new : List Nat} (h : St v w gx gy cur Y) (hB : Blk w' gx (new ++ guards)) (hb : w.grownBy w' (some gx)) : St v w' gx gy new Y :=
  ⟨aft_grown h.old hb h.vx, hB, h.by'.grown hb (by have := h.xy; simp; omega), h.vx, h.xy⟩
theorem St.rx {v w : World} {gx gy : Nat} {cur Y : List Nat} (h : St v w gx gy cur Y) : Rd w (some ⟨gx, 0, none⟩) cur := by
  have := h.bx.rd.take cur.length
  rwa [List.take_left] at this
theorem St.ry {v w : World} {gx gy : Nat} {cur Y : List Nat} (h : St v w gx gy cur Y) : Rd w (some ⟨gy, 0, none⟩) Y := by
  have := h.by'.rd.take Y.length
  rwa [List.take_left] at this


theorem alike_g {kI : Int} {v : Nat} {e : Int} {L M : List Nat} {a : Ans} (K : Knows kI v e L M a) {w : World} {lo r gL gM : Nat} {AL AM : Option Addr} (h : Got w lo r gL gM AL AM a) {r1 : Nat} {A1 : Option Addr} {c1 : Nat} {A2 : Option Addr} {c2 : Nat} (h1 : Wnt w r1 A1 c1 A2 c2 a) :
    Calls Tryd.prog 31 #[.agg #[.slice AL a.l.length a.l.length, .slice AM a.m.length a.m.length, .int .u64 (a.wv : Nat), .int .i64 a.nv, .bool a.bv, .int .i64 a.ev], .agg #[.slice A1 a.l.length c1, .slice A2 a.m.length c2, .int .u64 (a.wv : Nat), .int .i64 a.nv, .bool a.bv, .int .i64 a.ev]] w
      fun en w' => en = .returned (.bool true) ∧ Below w.heap.size w w' :=
  alike_any AL AM A1 A2 a.l.length a.m.length c1 c2 a.l a.m (a.wv : Nat) a.nv a.bv a.ev w h.ol.rd h.om.rd h1.l h1.m (Nat.le_trans K.sl (by omega)) (Nat.le_trans K.sm (by omega))

def fn10 {α : Type} (a0 a1 a2 a3 a4 a5 a6 a7 a8 a9 : α) (k : Nat) : α :=
  match k with | 0 => a0 | 1 => a1 | 2 => a2 | 3 => a3 | 4 => a4 | 5 => a5 | 6 => a6 | 7 => a7 | 8 => a8 | _ => a9
theorem all10 {P : Nat → Prop} (h0 : P 0) (h1 : P 1) (h2 : P 2) (h3 : P 3) (h4 : P 4) (h5 : P 5) (h6 : P 6) (h7 : P 7) (h8 : P 8) (h9 : P 9) : ∀ k, k < 10 → P k := by
  intro k hk
  match k, hk with
  | 0, _ => exact h0
  | 1, _ => exact h1
  | 2, _ => exact h2
  | 3, _ => exact h3
  | 4, _ => exact h4
  | 5, _ => exact h5
  | 6, _ => exact h6
  | 7, _ => exact h7
  | 8, _ => exact h8
  | 9, _ => exact h9

/-- Where ten lists lie: each in an interval, the two of one record apart. -/
theorem apart10 (gs ns : Nat → Nat) (lo hi : Nat → Nat) (hin : ∀ k, k < 10 → 0 < ns k → lo (k % 5) ≤ gs k ∧ gs k < hi (k % 5)) (hlh : ∀ i k, i < k → k < 5 → hi i ≤ lo k) (hne : ∀ k, k < 5 → 0 < ns k → 0 < ns (k + 5) → gs k ≠ gs (k + 5)) :
    ∀ i k, i < 10 → k < 10 → i ≠ k → 0 < ns i → 0 < ns k → gs i ≠ gs k := by
  intro i k hi' hk hik h1 h2
  have a := hin i hi' h1
  have b := hin k hk h2
  rcases Nat.lt_trichotomy (i % 5) (k % 5) with h | h | h
  · have := hlh _ _ h (Nat.mod_lt _ (by omega)); omega
  · rcases Nat.lt_or_ge i k with hlt | hge
    · obtain rfl : k = i + 5 := by omega
      exact hne i (by omega) h1 h2
    · obtain rfl : i = k + 5 := by omega
      exact fun e => hne k (by omega) h2 h1 e.symm
  · have := hlh _ _ h (Nat.mod_lt _ (by omega)); omega

theorem len_pos {l : List Nat} (h : 0 < l.length) : l ≠ [] := by rintro rfl; simp at h
theorem Got.li {w : World} {lo r gL gM : Nat} {AL AM : Option Addr} {a : Ans} (h : Got w lo r gL gM AL AM a) : 0 < a.l.length → lo ≤ gL ∧ gL < r := fun hh => ⟨h.l1, h.l3 (len_pos hh)⟩
theorem Got.mi {w : World} {lo r gL gM : Nat} {AL AM : Option Addr} {a : Ans} (h : Got w lo r gL gM AL AM a) : 0 < a.m.length → lo ≤ gM ∧ gM < r := fun hh => ⟨h.m1, h.m3 (len_pos hh)⟩
theorem Got.nei {w : World} {lo r gL gM : Nat} {AL AM : Option Addr} {a : Ans} (h : Got w lo r gL gM AL AM a) : 0 < a.l.length → 0 < a.m.length → gL ≠ gM := fun h1 h2 => h.ne (len_pos h1) (len_pos h2)
theorem Got.rlt {w : World} {lo r gL gM : Nat} {AL AM : Option Addr} {a : Ans} (h : Got w lo r gL gM AL AM a) : r < w.heap.size := h.rc.lt

set_option maxHeartbeats 1000000 in
/-- Five answers' lists in one new row of ten. -/
theorem laid_of {W : World} {la ra lb rb lc rc' ld rd le re : Nat} {ga gb gc gd ge ha hb hc hd he : Nat} {Aa Ab Ac Ad Ae Ba Bb Bc Bd Be : Option Addr} {a b c d e : Ans}
    (pa : Got W la ra ga ha Aa Ba a) (pb : Got W lb rb gb hb Ab Bb b) (pc : Got W lc rc' gc hc Ac Bc c) (pd : Got W ld rd gd hd Ad Bd d) (pe : Got W le re ge he Ae Be e)
    (i1 : ra ≤ lb) (i2 : rb ≤ lc) (i3 : rc' ≤ ld) (i4 : rd ≤ le)
    (ml : a.l.length ≤ 35184372088000 ∧ b.l.length ≤ 35184372088000 ∧ c.l.length ≤ 35184372088000 ∧ d.l.length ≤ 35184372088000 ∧ e.l.length ≤ 35184372088000)
    (mm : a.m.length ≤ 35184372088000 ∧ b.m.length ≤ 35184372088000 ∧ c.m.length ≤ 35184372088000 ∧ d.m.length ≤ 35184372088000 ∧ e.m.length ≤ 35184372088000) :
    Laid (W.alloc (.cells #[.slice Aa a.l.length a.l.length, .slice Ab b.l.length b.l.length, .slice Ac c.l.length c.l.length, .slice Ad d.l.length d.l.length, .slice Ae e.l.length e.l.length,
      .slice Ba a.m.length a.m.length, .slice Bb b.m.length b.m.length, .slice Bc c.m.length c.m.length, .slice Bd d.m.length d.m.length, .slice Be e.m.length e.m.length] 22)) W.heap.size
      (fn10 Aa Ab Ac Ad Ae Ba Bb Bc Bd Be) (fn10 ga gb gc gd ge ha hb hc hd he) (fn10 a.l.length b.l.length c.l.length d.l.length e.l.length a.m.length b.m.length c.m.length d.m.length e.m.length) := by
  have z1 := pa.rlt
  have z2 := pb.rlt
  have z3 := pc.rlt
  have z4 := pd.rlt
  have z5 := pe.rlt
  have l1 := pa.l2; have l2 := pb.l2; have l3 := pc.l2; have l4 := pd.l2; have l5 := pe.l2
  have m1 := pa.m2; have m2 := pb.m2; have m3 := pc.m2; have m4 := pd.m2; have m5 := pe.m2
  have k1 := pa.l1; have k2 := pb.l1; have k3 := pc.l1; have k4 := pd.l1; have k5 := pe.l1
  obtain ⟨u1, u2, u3, u4, u5⟩ := ml
  obtain ⟨v1, v2, v3, v4, v5⟩ := mm
  refine ⟨?_, ?_, ?_, ?_, ?_⟩
  · refine all10 ?_ ?_ ?_ ?_ ?_ ?_ ?_ ?_ ?_ ?_ <;> simp [fn10, World.cell?_alloc_new]
  · refine all10 ?_ ?_ ?_ ?_ ?_ ?_ ?_ ?_ ?_ ?_ <;> simp only [fn10] <;> omega
  · refine apart10 _ _ (fun k => match k with | 0 => la | 1 => lb | 2 => lc | 3 => ld | _ => le) (fun k => match k with | 0 => ra | 1 => rb | 2 => rc' | 3 => rd | _ => re) ?_ ?_ ?_
    · exact all10 pa.li pb.li pc.li pd.li pe.li pa.mi pb.mi pc.mi pd.mi pe.mi
    · intro i k hik hk
      match k, hk with
      | 1, _ => obtain rfl : i = 0 := by omega
                exact i1
      | 2, _ => match i, hik with
                | 0, _ => show ra ≤ lc; omega
                | 1, _ => exact i2
      | 3, _ => match i, hik with
                | 0, _ => show ra ≤ ld; omega
                | 1, _ => show rb ≤ ld; omega
                | 2, _ => exact i3
      | 4, _ => match i, hik with
                | 0, _ => show ra ≤ le; omega
                | 1, _ => show rb ≤ le; omega
                | 2, _ => show rc' ≤ le; omega
                | 3, _ => exact i4
    · intro k hk
      match k, hk with
      | 0, _ => exact pa.nei
      | 1, _ => exact pb.nei
      | 2, _ => exact pc.nei
      | 3, _ => exact pd.nei
      | 4, _ => exact pe.nei
  · exact all10 u1 u2 u3 u4 u5 v1 v2 v3 v4 v5
  · refine all10 ?_ ?_ ?_ ?_ ?_ ?_ ?_ ?_ ?_ ?_ <;> simp [fn10] <;> omega

end Go.Proofs.YtniogjkkhkibhaaDoor
