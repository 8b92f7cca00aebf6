/- vergelaw2.held: the walk. -/
import Derived.Test.YtniogjkkhkibhaaDoorHeldH
import Derived.Deep.RegionWith
namespace Go.Proofs.YtniogjkkhkibhaaDoor
set_option linter.unusedVariables false
set_option linter.unusedSimpArgs false
open Go.RowKit Verge

set_option maxRecDepth 20000 in
set_option maxHeartbeats 8000000 in
theorem held_any (kI : Int) (v : Nat) (e : Int) (A : Option Addr) (n c : Nat) (X : List Nat) (A' : Option Addr) (n' c' : Nat) (Y : List Nat) (w : World) (h : Rd w A X) (hn : X.length = n) (hm : n ≤ 35184372087900)
    (h' : Rd w A' Y) (hn' : Y.length = n') (hm' : n' ≤ 35184372087900) (hT : Tab w) (K : ∀ L M : List Nat, W32 L → W32 M → L.length ≤ 35184372087900 → M.length ≤ 35184372087900 → ∃ a, Knows kI v e L M a) :
    Calls Tryd.prog 26 #[.int .i64 kI, .slice A n c, .slice A' n' c', .int .u64 (v : Int), .int .i64 e] w fun en w' => en = .returned (.bool true) ∧ Below w.heap.size w w' := by
  obtain ⟨one, K1⟩ := K X Y h.1 h'.1 (by omega) (by omega)
  obtain ⟨zed, K3⟩ := K X X h.1 h.1 (by omega) (by omega)
  have HX := Lib.hid h
  have HY := Lib.hid h'
  have HN := Lib.hid hn
  have HN' := Lib.hid hn'
  have HT := Lib.hid hT
  have HK := Lib.hid K
  have HK1 := Lib.hid K1
  have HK3 := Lib.hid K3
  clear h h' hn hn' hT K K1 K3
  go_enter Tryd.func26, Tryd.ntmps26
  go_wp2_with fail
  refine (copied_any A n c X _ HX.out HN.out (by omega)).mono ?_
  rintro en w1 ⟨rfl, hU, hb⟩
  have HU := Lib.hid hU
  have HB := Lib.hid hb
  clear hU hb
  go_wp2_with fail
  refine (copied_any A' n' c' Y _ (HY.out.below HB.out) HN'.out (by omega)).mono ?_
  rintro en w2 ⟨rfl, hW, hb⟩
  have HW := Lib.hid hW
  have HU := Lib.hid (HU.out.later hb)
  have HB := Lib.hid (aft HB.out hb)
  clear hW hb
  go_wp2_with fail
  refine (other_any _ n n X _ HU.out.rd HN.out (by omega)).mono ?_
  rintro en w3 ⟨rfl, T, hTb, hTn, hb⟩
  obtain ⟨two, K2⟩ := HK.out T Y hTb.1 HY.out.1 (by rw [hTn]; exact hm) (by rw [HN'.out]; exact hm')
  have HK2 := Lib.hid K2
  have HTn := Lib.hid hTn
  have HS : Hid (Base w3 w.heap.size w1.heap.size w2.heap.size X Y T) := Lib.hid ⟨HU.out.later hb, HW.out.later hb, hTb, HT.out.below (aft HB.out hb)⟩
  have HB := Lib.hid (aft HB.out hb)
  clear hTb hTn hb K2 HU HW
  go_wp2_with fail
  refine (copied_any _ n n X _ HS.out.bu.rd HN.out (by omega)).mono ?_
  rintro en w4 ⟨rfl, hC, hb⟩
  have HC := Lib.hid hC
  have HS := Lib.hid (HS.out.later hb)
  have HB := Lib.hid (aft HB.out hb)
  clear hC hb
  go_wp2_with fail
  refine (copied_any _ n' n' Y _ HS.out.bw.rd HN'.out (by omega)).mono ?_
  rintro en w5 ⟨rfl, hD, hb⟩
  have HC := Lib.hid (HC.out.later hb)
  have HD := Lib.hid hD
  have HS := Lib.hid (HS.out.later hb)
  have HB := Lib.hid (aft HB.out hb)
  clear hD hb
  go_wp2_with fail
  refine (HK1.out.want _ n n _ n' n' _ HC.out.rd HN.out (by omega) HD.out.rd HN'.out (by omega)).mono ?_
  rintro en w6 ⟨A1, c1, A1', c1', rfl, hR, hR', hb⟩
  have HO := Lib.hid (Wnt.new (c1 := c1) (c2 := c1') hR hR')
  have HS := Lib.hid (HS.out.later (aft hb (below_new' w6 (recO A1 c1 A1' c1' one))))
  have HB := Lib.hid (aft HB.out (aft hb (below_new' w6 (recO A1 c1 A1' c1' one))))
  clear hR hR' hb HC HD
  go_wp2_with fail
  refine (copied_any _ n n T _ HS.out.bt.rd HTn.out (by omega)).mono ?_
  rintro en w7 ⟨rfl, hC, hb⟩
  have hC : Blk w7 (w6.heap.size + 1) T := by simpa using hC
  have HC := Lib.hid hC
  have HO := Lib.hid (HO.out.later hb)
  have HS := Lib.hid (HS.out.later hb)
  have HB := Lib.hid (aft HB.out hb)
  clear hC hb
  go_wp2_with fail
  refine (copied_any _ n' n' Y _ HS.out.bw.rd HN'.out (by omega)).mono ?_
  rintro en w8 ⟨rfl, hD, hb⟩
  have HC := Lib.hid (HC.out.later hb)
  have HD := Lib.hid hD
  have HO := Lib.hid (HO.out.later hb)
  have HS := Lib.hid (HS.out.later hb)
  have HB := Lib.hid (aft HB.out hb)
  clear hD hb
  go_wp2_with fail
  refine (HK2.out.want _ n n _ n' n' _ HC.out.rd HTn.out (by omega) HD.out.rd HN'.out (by omega)).mono ?_
  rintro en w9 ⟨A2, c2, A2', c2', rfl, hR, hR', hb⟩
  have HO2 := Lib.hid (Wnt.new (c1 := c2) (c2 := c2') hR hR')
  have HO := Lib.hid (HO.out.later (aft hb (below_new' w9 (recO A2 c2 A2' c2' two))))
  have HS := Lib.hid (HS.out.later (aft hb (below_new' w9 (recO A2 c2 A2' c2' two))))
  have HB := Lib.hid (aft HB.out (aft hb (below_new' w9 (recO A2 c2 A2' c2' two))))
  clear hR hR' hb HC HD
  go_wp2_with fail
  refine (roomy_any _ n n X _ HS.out.bu.rd HN.out (by omega)).mono ?_
  rintro en w10 ⟨rfl, hC, hb⟩
  have hC : Blk w10 (w9.heap.size + 1) (X ++ guards) := by simpa using hC
  have hz9 := hC.lt
  have HC := Lib.hid hC
  have HA := Lib.hid hb
  clear hC hb
  go_wp2_with fail
  refine (roomy_any _ n' n' Y _ (HS.out.bw.later HA.out).rd HN'.out (by omega)).mono ?_
  rintro en w11 ⟨rfl, hD, hb⟩
  have hzA := hD.lt
  have HE : Hid (St _ w11 (w9.heap.size + 1) w10.heap.size X Y) := Lib.hid ⟨aft HA.out hb, HC.out.later hb, hD, by simp, by omega⟩
  clear hD hb HA HC
  go_wp2_with fail
  refine (HK1.out.ask _ n (n + 80) _ n' (n' + 80) _ (HE.out.rx) HN.out (by omega) (by omega) (HE.out.ry) HN'.out (by omega) (by omega) (HS.out.tab.below HE.out.old)).mono ?_
  intro en w12 hp
  obtain ⟨gp, gp', Ap, Ap', rfl, hg, hb⟩ := got_of hp
  have HP := Lib.hid (hg _ rfl)
  have hzB := hb.size
  have HE := Lib.hid (HE.out.later (aft hb (below_new' w12 (recO Ap one.l.length Ap' one.m.length one))))
  clear hp hg hb
  go_wp2_with fail
  refine (HK1.out.ask _ n (n + 80) _ n' (n' + 80) _ (HE.out.rx) HN.out (by omega) (by omega) (HE.out.ry) HN'.out (by omega) (by omega) (HS.out.tab.below HE.out.old)).mono ?_
  intro en w13 hp
  obtain ⟨gq, gq', Aq, Aq', rfl, hg, hb⟩ := got_of hp
  have HQ1 := Lib.hid ((hg _ rfl).low (Nat.le_of_eq (size_alloc w12 (recO Ap one.l.length Ap' one.m.length one)).symm))
  have hz13 : w12.heap.size + 1 ≤ w13.heap.size := by rw [← size_alloc w12 (recO Ap one.l.length Ap' one.m.length one)]; exact hb.size
  have HP := Lib.hid (HP.out.later (aft hb (below_new' w13 (recO Aq one.l.length Aq' one.m.length one))))
  have HE := Lib.hid (HE.out.later (aft hb (below_new' w13 (recO Aq one.l.length Aq' one.m.length one))))
  obtain ⟨p0, p1, p2, p3, p4, p5⟩ := HP.out.rc.cells
  obtain ⟨o0, o1, o2, o3, o4, o5⟩ := (HO.out.later HE.out.old).rc.cells
  clear hp hg hb
  go_wp2_with fail
  refine (alike_g HK1.out HP.out (HO.out.later HE.out.old)).mono ?_
  rintro en w14 ⟨rfl, hb⟩
  have HP := Lib.hid (HP.out.later hb)
  have HQ1 := Lib.hid (HQ1.out.later hb)
  have HE := Lib.hid (HE.out.later hb)
  clear p0 p1 p2 p3 p4 p5 o0 o1 o2 o3 o4 o5
  obtain ⟨q0, q1, q2, q3, q4, q5⟩ := HQ1.out.rc.cells
  obtain ⟨o0, o1, o2, o3, o4, o5⟩ := (HO.out.later HE.out.old).rc.cells
  clear hb
  go_wp2_with fail
  refine (alike_g HK1.out HQ1.out (HO.out.later HE.out.old)).mono ?_
  rintro en w15 ⟨rfl, hb⟩
  have HP := Lib.hid (HP.out.later hb)
  have HQ1 := Lib.hid (HQ1.out.later hb)
  have HE := Lib.hid (HE.out.later hb)
  clear q0 q1 q2 q3 q4 q5 o0 o1 o2 o3 o4 o5 hb
  go_wp2_with fail
  refine (left_any _ n n X _ _ (HS.out.later HE.out.old).bu.rd HN.out (by omega) HE.out.bx.rd).mono ?_
  rintro en w16 ⟨rfl, hb⟩
  have HP := Lib.hid (HP.out.later hb)
  have HQ1 := Lib.hid (HQ1.out.later hb)
  have HE := Lib.hid (HE.out.later hb)
  clear hb
  go_wp2_with fail
  refine (left_any _ n' n' Y _ _ (HS.out.later HE.out.old).bw.rd HN'.out (by omega) HE.out.by'.rd).mono ?_
  rintro en w17 ⟨rfl, hb⟩
  have HP := Lib.hid (HP.out.later hb)
  have HQ1 := Lib.hid (HQ1.out.later hb)
  have HE := Lib.hid (HE.out.later hb)
  clear hb
  go_wp2_with fail
  refine (place_any (w9.heap.size + 1) n (n + 80) X guards _ n T _ HE.out.bx HN.out (fun w' hg => (HS.out.later (aft_grown HE.out.old hg HE.out.vx)).bt.rd) HTn.out (by omega)).mono ?_
  rintro en w18 ⟨rfl, hB, hg⟩
  have HP := Lib.hid (HP.out.grown hg (by omega))
  have HQ1 := Lib.hid (HQ1.out.grown hg (by omega))
  have HE := Lib.hid (HE.out.placed hB hg)
  clear hB hg
  have o19 := HQ1.out.rlt
  go_wp2_with fail
  refine (HK2.out.ask _ n (n + 80) _ n' (n' + 80) _ (HE.out.rx) HTn.out (by omega) (by omega) (HE.out.ry) HN'.out (by omega) (by omega) (HS.out.tab.below HE.out.old)).mono ?_
  intro en w19 hp
  obtain ⟨gr, gr', Ar, Ar', rfl, hg, hb⟩ := got_of hp
  have HR1 := Lib.hid (hg _ rfl)
  have hz19 := hb.size
  have hb := aft hb (below_new' w19 (recO Ar two.l.length Ar' two.m.length two))
  have HP := Lib.hid (HP.out.later hb)
  have HQ1 := Lib.hid (HQ1.out.later hb)
  have HE := Lib.hid (HE.out.later hb)
  clear hp hg hb
  obtain ⟨r0, r1, r2, r3, r4, r5⟩ := HR1.out.rc.cells
  obtain ⟨o0, o1, o2, o3, o4, o5⟩ := (HO2.out.later HE.out.old).rc.cells
  go_wp2_with fail
  refine (alike_g HK2.out HR1.out (HO2.out.later HE.out.old)).mono ?_
  rintro en w20 ⟨rfl, hb⟩
  have HP := Lib.hid (HP.out.later hb)
  have HQ1 := Lib.hid (HQ1.out.later hb)
  have HR1 := Lib.hid (HR1.out.later hb)
  have HE := Lib.hid (HE.out.later hb)
  clear r0 r1 r2 r3 r4 r5 o0 o1 o2 o3 o4 o5 hb
  go_wp2_with fail
  refine (left_any _ n n T _ _ (HS.out.later HE.out.old).bt.rd HTn.out (by omega) HE.out.bx.rd).mono ?_
  rintro en w21 ⟨rfl, hb⟩
  have HP := Lib.hid (HP.out.later hb)
  have HQ1 := Lib.hid (HQ1.out.later hb)
  have HR1 := Lib.hid (HR1.out.later hb)
  have HE := Lib.hid (HE.out.later hb)
  clear hb
  go_wp2_with fail
  refine (left_any _ n' n' Y _ _ (HS.out.later HE.out.old).bw.rd HN'.out (by omega) HE.out.by'.rd).mono ?_
  rintro en w22 ⟨rfl, hb⟩
  have HP := Lib.hid (HP.out.later hb)
  have HQ1 := Lib.hid (HQ1.out.later hb)
  have HR1 := Lib.hid (HR1.out.later hb)
  have HE := Lib.hid (HE.out.later hb)
  clear hb
  go_wp2_with fail
  refine (place_any (w9.heap.size + 1) n (n + 80) T guards _ n X _ HE.out.bx HTn.out (fun w' hg => (HS.out.later (aft_grown HE.out.old hg HE.out.vx)).bu.rd) HN.out (by omega)).mono ?_
  rintro en w23 ⟨rfl, hB, hg⟩
  have HP := Lib.hid (HP.out.grown hg (by omega))
  have HQ1 := Lib.hid (HQ1.out.grown hg (by omega))
  have HR1 := Lib.hid (HR1.out.grown hg (by omega))
  have HE := Lib.hid (HE.out.placed hB hg)
  clear hB hg
  have o24 := HR1.out.rlt
  go_wp2_with fail
  refine (HK1.out.ask _ n (n + 80) _ n' (n' + 80) _ (HE.out.rx) HN.out (by omega) (by omega) (HE.out.ry) HN'.out (by omega) (by omega) (HS.out.tab.below HE.out.old)).mono ?_
  intro en w24 hp
  obtain ⟨gs, gs', As, As', rfl, hg, hb⟩ := got_of hp
  have HS1 := Lib.hid (hg _ rfl)
  have hz24 := hb.size
  have hb := aft hb (below_new' w24 (recO As one.l.length As' one.m.length one))
  have HP := Lib.hid (HP.out.later hb)
  have HQ1 := Lib.hid (HQ1.out.later hb)
  have HR1 := Lib.hid (HR1.out.later hb)
  have HE := Lib.hid (HE.out.later hb)
  clear hp hg hb
  obtain ⟨s0, s1, s2, s3, s4, s5⟩ := HS1.out.rc.cells
  obtain ⟨o0, o1, o2, o3, o4, o5⟩ := (HO.out.later HE.out.old).rc.cells
  go_wp2_with fail
  refine (alike_g HK1.out HS1.out (HO.out.later HE.out.old)).mono ?_
  rintro en w25 ⟨rfl, hb⟩
  have HP := Lib.hid (HP.out.later hb)
  have HQ1 := Lib.hid (HQ1.out.later hb)
  have HR1 := Lib.hid (HR1.out.later hb)
  have HS1 := Lib.hid (HS1.out.later hb)
  have HE := Lib.hid (HE.out.later hb)
  clear s0 s1 s2 s3 s4 s5 o0 o1 o2 o3 o4 o5
  obtain ⟨p0, p1, p2, p3, p4, p5⟩ := HP.out.rc.cells
  obtain ⟨o0, o1, o2, o3, o4, o5⟩ := (HO.out.later HE.out.old).rc.cells
  clear hb
  go_wp2_with fail
  refine (alike_g HK1.out HP.out (HO.out.later HE.out.old)).mono ?_
  rintro en w26 ⟨rfl, hb⟩
  have HP := Lib.hid (HP.out.later hb)
  have HQ1 := Lib.hid (HQ1.out.later hb)
  have HR1 := Lib.hid (HR1.out.later hb)
  have HS1 := Lib.hid (HS1.out.later hb)
  have HE := Lib.hid (HE.out.later hb)
  clear p0 p1 p2 p3 p4 p5 o0 o1 o2 o3 o4 o5
  obtain ⟨q0, q1, q2, q3, q4, q5⟩ := HQ1.out.rc.cells
  obtain ⟨o0, o1, o2, o3, o4, o5⟩ := (HO.out.later HE.out.old).rc.cells
  clear hb
  go_wp2_with fail
  refine (alike_g HK1.out HQ1.out (HO.out.later HE.out.old)).mono ?_
  rintro en w27 ⟨rfl, hb⟩
  have HP := Lib.hid (HP.out.later hb)
  have HQ1 := Lib.hid (HQ1.out.later hb)
  have HR1 := Lib.hid (HR1.out.later hb)
  have HS1 := Lib.hid (HS1.out.later hb)
  have HE := Lib.hid (HE.out.later hb)
  clear q0 q1 q2 q3 q4 q5 o0 o1 o2 o3 o4 o5
  obtain ⟨r0, r1, r2, r3, r4, r5⟩ := HR1.out.rc.cells
  obtain ⟨o0, o1, o2, o3, o4, o5⟩ := (HO2.out.later HE.out.old).rc.cells
  clear hb
  go_wp2_with fail
  refine (alike_g HK2.out HR1.out (HO2.out.later HE.out.old)).mono ?_
  rintro en w28 ⟨rfl, hb⟩
  have HP := Lib.hid (HP.out.later hb)
  have HQ1 := Lib.hid (HQ1.out.later hb)
  have HR1 := Lib.hid (HR1.out.later hb)
  have HS1 := Lib.hid (HS1.out.later hb)
  have HE := Lib.hid (HE.out.later hb)
  clear r0 r1 r2 r3 r4 r5 o0 o1 o2 o3 o4 o5 hb
  have o29 := HS1.out.rlt
  go_wp2_with fail
  refine (HK3.out.ask _ n (n + 80) _ n (n + 80) _ (HE.out.rx) HN.out (by omega) (by omega) (HE.out.rx) HN.out (by omega) (by omega) (HS.out.tab.below HE.out.old)).mono ?_
  intro en w29 hp
  obtain ⟨gz, gz', Az, Az', rfl, hg, hb⟩ := got_of hp
  have HZ1 := Lib.hid (hg _ rfl)
  have hz29 := hb.size
  have hb := aft hb (below_new' w29 (recO Az zed.l.length Az' zed.m.length zed))
  have HP := Lib.hid (HP.out.later hb)
  have HQ1 := Lib.hid (HQ1.out.later hb)
  have HR1 := Lib.hid (HR1.out.later hb)
  have HS1 := Lib.hid (HS1.out.later hb)
  have HE := Lib.hid (HE.out.later hb)
  clear hp hg hb
  have HBu := Lib.hid (HS.out.later HE.out.old).bu
  go_upto_region 21 with fail
  go_cut [169] from 153 to 201 (fun s wx => s = .bool false ∧ Below (w29.alloc (recO Az zed.l.length Az' zed.m.length zed)).heap.size (w29.alloc (recO Az zed.l.length Az' zed.m.length zed)) wx)
  case first =>
    have HZ := Lib.hid HZ1.out
    have HV := Lib.hid HE.out.by'
    have HVx := Lib.hid HE.out.bx
    obtain ⟨z0, z1, z2, z3, z4, z5⟩ := HZ1.out.rc.cells
    go_region_with (first
      | (go_at_call 27; refine (copied_any _ n n X _ (by exact (by exact HU30.out.rd)) HN.out (by omega)).mono ?_; rintro en w31 ⟨rfl, hD, hb⟩; have HC31 := Lib.hid (HC30.out.later hb); have HD31 := Lib.hid hD; have HB31 := Lib.hid (aft HB30.out hb); obtain ⟨z0, z1, z2, z3, z4, z5⟩ := (HZ.out.later HB31.out).rc.cells; clear HU30 HC30 HB30 hD hb)
      | (go_at_call 27; refine (copied_any _ n n X _ (by exact (by exact HBu.out.rd)) HN.out (by omega)).mono ?_; rintro en w30 ⟨rfl, hC, hb⟩; have hC : Blk w30 (w29.heap.size + 1) X := (by simpa using hC); have HC30 := Lib.hid hC; have HB30 : Hid (Below (w29.alloc (recO Az zed.l.length Az' zed.m.length zed)).heap.size (w29.alloc (recO Az zed.l.length Az' zed.m.length zed)) w30) := Lib.hid ⟨hb.os, hb.tape, hb.output, hb.size, hb.block⟩; have HU30 := Lib.hid (HBu.out.later HB30.out); obtain ⟨z0, z1, z2, z3, z4, z5⟩ := (HZ.out.later HB30.out).rc.cells; clear hC hb)
      | (go_at_call 30; refine (HK3.out.want _ n n _ n n _ (by exact (by exact HC31.out.rd)) HN.out (by omega) (by exact (by exact HD31.out.rd)) HN.out (by omega)).mono ?_; rintro en w32 ⟨A4, c4, A4', c4', rfl, hR, hR', hb⟩; have HR4 := Lib.hid (And.intro hR hR'); have HB32 := Lib.hid (aft HB31.out hb); obtain ⟨z0, z1, z2, z3, z4, z5⟩ := (HZ.out.later HB32.out).rc.cells; clear hR hR' hb HC31 HD31 HB31)
      | (go_at_call 31; refine (alike_any Az Az' A4 A4' zed.l.length zed.m.length c4 c4' zed.l zed.m (zed.wv : Nat) zed.nv zed.bv zed.ev _ (by exact (by exact (HZ.out.later HB32.out).ol.rd)) (by exact (by exact (HZ.out.later HB32.out).om.rd)) (by exact (by exact HR4.out.1)) (by exact (by exact HR4.out.2)) (Nat.le_trans HK3.out.sl (by omega)) (Nat.le_trans HK3.out.sm (by omega))).mono ?_; rintro en w33 ⟨rfl, hb⟩; have HB33 := Lib.hid (aft HB32.out ⟨hb.os, hb.tape, hb.output, hb.size, hb.block⟩); clear hb HR4 HB32)
      | (go_at_call 47; refine (left_any _ n n X _ _ (by exact (by exact (HBu.out.later HB33.out).rd)) HN.out (by omega) (by exact (HVx.out.later HB33.out).rd)).mono ?_; rintro en w34 ⟨rfl, hb⟩; have HB34 := Lib.hid (aft HB33.out ⟨hb.os, hb.tape, hb.output, hb.size, hb.block⟩); clear hb))
    all_goals
      go_wp2
      go_meet
      exact ⟨rfl, HB34.out⟩
  case rest =>
    obtain ⟨rfl, hb⟩ := hcut
    have HP := Lib.hid (HP.out.later hb)
    have HQ1 := Lib.hid (HQ1.out.later hb)
    have HR1 := Lib.hid (HR1.out.later hb)
    have HS1 := Lib.hid (HS1.out.later hb)
    have HZ1 := Lib.hid (HZ1.out.later hb)
    have HE := Lib.hid (HE.out.later hb)
    clear hb
    obtain ⟨p0, p1, p2, p3, p4, p5⟩ := HP.out.rc.cells
    obtain ⟨q0, q1, q2, q3, q4, q5⟩ := HQ1.out.rc.cells
    obtain ⟨r0, r1, r2, r3, r4, r5⟩ := HR1.out.rc.cells
    obtain ⟨s0, s1, s2, s3, s4, s5⟩ := HS1.out.rc.cells
    obtain ⟨z0, z1, z2, z3, z4, z5⟩ := HZ1.out.rc.cells
    have HL := Lib.hid (laid_of HP.out HQ1.out HR1.out HS1.out HZ1.out (by omega) (by omega) (by omega) (by omega) ⟨HK1.out.sl, HK1.out.sl, HK2.out.sl, HK1.out.sl, HK3.out.sl⟩ ⟨HK1.out.sm, HK1.out.sm, HK2.out.sm, HK1.out.sm, HK3.out.sm⟩)
    have HG := Lib.hid (all10 (P := fun k => w11.heap.size ≤ fn10 gp gq gr gs gz gp' gq' gr' gs' gz' k) HP.out.l1 (by have := HQ1.out.l1; simp only [fn10]; omega) (by have := HR1.out.l1; simp only [fn10]; omega) (by have := HS1.out.l1; simp only [fn10]; omega) (by have := HZ1.out.l1; simp only [fn10]; omega)
      HP.out.m1 (by have := HQ1.out.m1; simp only [fn10]; omega) (by have := HR1.out.m1; simp only [fn10]; omega) (by have := HS1.out.m1; simp only [fn10]; omega) (by have := HZ1.out.m1; simp only [fn10]; omega))
    have hv9 : (w9.alloc (recO A2 c2 A2' c2' two)).heap.size = w9.heap.size + 1 := size_alloc _ _
    have hlu : w.heap.size < w11.heap.size := by have := HS.out.bu.lt; omega
    have hlw : w1.heap.size < w11.heap.size := by have := HS.out.bw.lt; omega
    have hwl : w11.heap.size ≤ wc.heap.size := by have := HP.out.rlt; omega
    clear hv9
    go_wp2_with fail
    refine (apart_any wc.heap.size _ _ _ (fn10 one.l one.l two.l one.l zed.l one.m one.m two.m one.m zed.m) _ HL.out
      (all10 (HP.out.ol.later (below_new' _ _)) (HQ1.out.ol.later (below_new' _ _)) (HR1.out.ol.later (below_new' _ _)) (HS1.out.ol.later (below_new' _ _)) (HZ1.out.ol.later (below_new' _ _))
        (HP.out.om.later (below_new' _ _)) (HQ1.out.om.later (below_new' _ _)) (HR1.out.om.later (below_new' _ _)) (HS1.out.om.later (below_new' _ _)) (HZ1.out.om.later (below_new' _ _)))
      (all10 rfl rfl rfl rfl rfl rfl rfl rfl rfl rfl)).mono ?_
    rintro en w35 ⟨rfl, hbut⟩
    have hlow := Lib.hid (hbut.toBelow (B := w11.heap.size) (by rw [size_alloc]; omega) (by rintro k hk ⟨i, hi, hp, ee⟩; have := HG.out i hi; omega))
    have HUe := Lib.hid (((HS.out.later HE.out.old).bu.later (below_new' wc _)).below hlow.out hlu)
    have HWe := Lib.hid (((HS.out.later HE.out.old).bw.later (below_new' wc _)).below hlow.out hlw)
    have HXe := Lib.hid ((HE.out.bx.later (below_new' wc _)).below hlow.out (by omega))
    have HYe := Lib.hid ((HE.out.by'.later (below_new' wc _)).below hlow.out hzA)
    have HBe : Hid (Below w.heap.size w w35) := Lib.hid ((aft HB.out (aft HE.out.old (below_new' wc _))).trans (hlow.out.mono (by omega)))
    clear hbut hlow
    go_wp2_with fail
    refine (left_any _ n n X _ _ HUe.out.rd HN.out (by omega) HXe.out.rd).mono ?_
    rintro en w36 ⟨rfl, hb⟩
    have HWe := Lib.hid (HWe.out.later hb)
    have HYe := Lib.hid (HYe.out.later hb)
    have HBe := Lib.hid (aft HBe.out hb)
    clear hb
    go_wp2_with fail
    refine (left_any _ n' n' Y _ _ HWe.out.rd HN'.out (by omega) HYe.out.rd).mono ?_
    rintro en w37 ⟨rfl, hb⟩
    have HBe := Lib.hid (aft HBe.out hb)
    clear hb
    go_wp2
    go_ret
    exact ⟨rfl, HBe.out⟩
end Go.Proofs.YtniogjkkhkibhaaDoor
