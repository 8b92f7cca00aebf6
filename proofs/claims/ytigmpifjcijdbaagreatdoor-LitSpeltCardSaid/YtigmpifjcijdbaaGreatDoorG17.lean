/- Contracts of nat: Quo. -/
import Derived.Test.YtigmpifjcijdbaaGreatDoorG16
import Derived.Test.YtigmpifjcijdbaaGreatDoorG06
namespace Go.Proofs.YtigmpifjcijdbaaGreatDoor
set_option linter.unusedVariables false
set_option linter.unusedSimpArgs false
open Go.RowKit Verge
def QuoPost (w:World) (q r:List Nat) (er:Int) (e:Ending) (w':World):Prop:=
 ∃g1 g2 A1 A2,w.heap.size≤g1∧w.heap.size≤g2∧g1≠g2∧e=.returned (.tuple #[.slice A1 q.length q.length,.slice A2 r.length r.length,.int .i64 er]) ∧
  Own w' g1 A1 q∧Own w' g2 A2 r∧Below w.heap.size w w'
section
variable (A:Option Addr) (n c:Nat) (xs:List Nat) (A':Option Addr) (n' c':Nat) (ys:List Nat) (w:World)
  (h:Rd w A xs) (hn:xs.length=n) (hc:n≤c) (hm:n≤70368744177663) (h':Rd w A' ys) (hn':ys.length=n') (hc':n'≤c') (hm':n'≤70368744177663)
include h hn hc hm h' hn' hc' hm'
set_option maxHeartbeats 1000000 in
theorem quo_zero (h0:wl ys=0):Calls Tryz.prog 73 #[.slice A n c,.slice A' n' c'] w (QuoPost w [] [] 1):=by
 have hA:∀(k:Nat),Rd (w.drewN k) A xs:=fun k=>h
 have hA':∀(k:Nat),Rd (w.drewN k) A' ys:=fun k=>h'
 have hle:=wl_le xs
 have hle':=wl_le ys
 have cut1:=fun W=>run_cut_h W A n c (wl xs) (by omega)
 have cut2:=fun W=>run_cut_h W A' n' c' (wl ys) (by omega)
 have WX:=fun W hW=>words_any A n c xs W hW hn (by omega)
 have WY:=fun W hW=>words_any A' n' c' ys W hW hn' (by omega)
 rw [h0] at WY cut2
 have HX:=Lib.hid WX
 have HY:=Lib.hid WY
 clear WX WY hn hn' hle hle' h0
 go_enter Tryz.func73,Tryz.ntmps73
 go_wp2
 go_quiet ((first
  | (go_at_call 105;with_reducible exact quiet_left (HX.out _ (hA _)))
  | (go_at_call 105;with_reducible exact quiet_left (HY.out _ (hA' _)))))
 go_wp2
 go_ret3
 exact ⟨w.heap.size,w.heap.size+1,none,none,by omega,by omega,by omega,rfl,Own.nil _ _ _,Own.nil _ _ _,below_drewN (Below.refl _ w) _⟩
set_option maxHeartbeats 1000000 in
theorem quo_long (h0:wl ys≠0) (hlong:(long (val xs)||long (val ys))=true):Calls Tryz.prog 73 #[.slice A n c,.slice A' n' c'] w (QuoPost w [] [] 2):=by
 have hA:∀(k:Nat),Rd (w.drewN k) A xs:=fun k=>h
 have hA':∀(k:Nat),Rd (w.drewN k) A' ys:=fun k=>h'
 have hle:=wl_le xs
 have hle':=wl_le ys
 have cut1:=fun W=>run_cut_h W A n c (wl xs) (by omega)
 have cut2:=fun W=>run_cut_h W A' n' c' (wl ys) (by omega)
 have HX:=Lib.hid (fun W hW=>words_any A n c xs W hW hn (by omega))
 have HY:=Lib.hid (fun W hW=>words_any A' n' c' ys W hW hn' (by omega))
 have hb0:((wl ys:Int)==0)=false:=by simp;omega
 have hL:=long2_any (w.heap.size) A (wl xs) c (xs.take (wl xs)) A' (wl ys) c' (ys.take (wl ys))
 have HT:=Lib.hid (fun (o:Obj) (k:Nat)=>And.intro (Rd.drewN (h.keep (fun b o' hb=>World.cell?_alloc_lt w o _ hb)) k:Rd ((w.alloc o).drewN k) A xs) (Rd.drewN (h'.keep (fun b o' hb=>World.cell?_alloc_lt w o _ hb)) k:Rd ((w.alloc o).drewN k) A' ys))
 have HV:=Lib.hid (And.intro (show (xs.take (wl xs)).length=wl xs from length_norm xs) (And.intro (show val (xs.take (wl xs))=val xs from val_norm xs) (And.intro (show (ys.take (wl ys)).length=wl ys from length_norm ys) (show val (ys.take (wl ys))=val ys from val_norm ys))))
 rw [←HV.out.2.1,←HV.out.2.2.2] at hlong
 have HL:=Lib.hid hL
 have hN:wl xs≤70368744177663:=by omega
 have hM:wl ys≤70368744177663:=by omega
 clear hn hn' hle hle' h0 hL
 go_enter Tryz.func73,Tryz.ntmps73
 go_wp2
 go_quiet ((first
  | (go_at_call 105;with_reducible exact quiet_left (HX.out _ (hA _)))
  | (go_at_call 105;with_reducible exact quiet_left (HY.out _ (hA' _)))))
 go_wp2_with (go_at_call 106;refine (HL.out _ ((HT.out _ _).1.take _) HV.out.1 (by omega) ((HT.out _ _).2.take _) HV.out.2.2.1 (by omega) (by simp [World.cell?_alloc_new]) (by simp [World.cell?_alloc_new])).mono ?_;rintro e w' ⟨rfl,rfl⟩)
 go_ret3
 exact ⟨w.heap.size,w.heap.size+1,none,none,by omega,by omega,by omega,rfl,Own.nil _ _ _,Own.nil _ _ _,below_drewN ((Below.refl _ w).alloc (Nat.le_refl _) _) _⟩
set_option maxHeartbeats 1000000 in
theorem quo_less (h0:wl ys≠0) (hlong:(long (val xs)||long (val ys))=false) (hlt:val xs<val ys):Calls Tryz.prog 73 #[.slice A n c,.slice A' n' c'] w (QuoPost w [] (dig (val xs)) 0):=by
 have hA:∀(k:Nat),Rd (w.drewN k) A xs:=fun k=>h
 have hA':∀(k:Nat),Rd (w.drewN k) A' ys:=fun k=>h'
 have hle:=wl_le xs
 have hle':=wl_le ys
 have cut1:=fun W=>run_cut_h W A n c (wl xs) (by omega)
 have cut2:=fun W=>run_cut_h W A' n' c' (wl ys) (by omega)
 have HX:=Lib.hid (fun W hW=>words_any A n c xs W hW hn (by omega))
 have HY:=Lib.hid (fun W hW=>words_any A' n' c' ys W hW hn' (by omega))
 have hb0:((wl ys:Int)==0)=false:=by simp;omega
 have hL:=long2_any (w.heap.size) A (wl xs) c (xs.take (wl xs)) A' (wl ys) c' (ys.take (wl ys))
 have HT:=Lib.hid (fun (o:Obj) (k:Nat)=>And.intro (Rd.drewN (h.keep (fun b o' hb=>World.cell?_alloc_lt w o _ hb)) k:Rd ((w.alloc o).drewN k) A xs) (Rd.drewN (h'.keep (fun b o' hb=>World.cell?_alloc_lt w o _ hb)) k:Rd ((w.alloc o).drewN k) A' ys))
 have HV:=Lib.hid (And.intro (show (xs.take (wl xs)).length=wl xs from length_norm xs) (And.intro (show val (xs.take (wl xs))=val xs from val_norm xs) (And.intro (show (ys.take (wl ys)).length=wl ys from length_norm ys) (show val (ys.take (wl ys))=val ys from val_norm ys))))
 rw [←HV.out.2.1,←HV.out.2.2.2] at hlong hlt
 rw [←HV.out.2.1]
 have hcm:=cmp_lt hlt
 have hC:=fun W hW hW'=>cmp_any A (wl xs) c (xs.take (wl xs)) A' (wl ys) c' (ys.take (wl ys)) W hW HV.out.1 (by omega) hW' HV.out.2.2.1 (by omega)
 rw [hcm] at hC
 have hN1:=fun W hW=>norm_any A (wl xs) c (xs.take (wl xs)) W hW HV.out.1 (by omega)
 have HL:=Lib.hid hL
 have HC:=Lib.hid hC
 have HN1:=Lib.hid hN1
 have HB:=Lib.hid (fun (o:Obj) (k:Nat)=>(below_drewN ((Below.refl _ w).alloc (Nat.le_refl _) o) k:Below w.heap.size w ((w.alloc o).drewN k)))
 have hN:wl xs≤70368744177663:=by omega
 have hM:wl ys≤70368744177663:=by omega
 clear hn hn' hle hle' h0 hL hC hN1 hcm hlt
 go_enter Tryz.func73,Tryz.ntmps73
 go_wp2
 go_quiet ((first
  | (go_at_call 105;with_reducible exact quiet_left (HX.out _ (hA _)))
  | (go_at_call 105;with_reducible exact quiet_left (HY.out _ (hA' _)))))
 go_wp2_with (first
  | (go_at_call 106;refine (HL.out _ ((HT.out _ _).1.take _) HV.out.1 (by omega) ((HT.out _ _).2.take _) HV.out.2.2.1 (by omega) (by simp [World.cell?_alloc_new]) (by simp [World.cell?_alloc_new])).mono ?_;rintro e w' ⟨rfl,rfl⟩)
  | (go_at_call 107;refine (HC.out _ ((HT.out _ _).1.take _) ((HT.out _ _).2.take _)).mono ?_;rintro e w' ⟨rfl,kd,rfl⟩)
  | (go_at_call 108;refine (HN1.out _ ((HT.out _ _).1.take _)).mono ?_;rintro e w2 ⟨g,A2,hg,rfl,ho,-,-,hb⟩))
 go_ret3
 have hg':w.heap.size+1≤g:=by simpa using hg
 exact ⟨w.heap.size,g,none,A2,by omega,by omega,by omega,rfl,Own.nil _ _ _,ho,(HB.out _ _).trans (hb.mono (by simp))⟩
set_option maxHeartbeats 1000000 in
theorem quo_one (h0:wl ys=1) (hlong:(long (val xs)||long (val ys))=false) (hlt:¬val xs<val ys):Calls Tryz.prog 73 #[.slice A n c,.slice A' n' c'] w (QuoPost w (dig (val xs / val ys)) (dig (val xs%val ys)) 0):=by
 have hA:∀(k:Nat),Rd (w.drewN k) A xs:=fun k=>h
 have hA':∀(k:Nat),Rd (w.drewN k) A' ys:=fun k=>h'
 have hle:=wl_le xs
 have hle':=wl_le ys
 have cut1:=fun W=>run_cut_h W A n c (wl xs) (by omega)
 have hL:=long2_any (w.heap.size) A (wl xs) c (xs.take (wl xs)) A' (wl ys) c' (ys.take (wl ys))
 have HT:=Lib.hid (fun (o:Obj) (k:Nat)=>And.intro (Rd.drewN (h.keep (fun b o' hb=>World.cell?_alloc_lt w o _ hb)) k:Rd ((w.alloc o).drewN k) A xs) (Rd.drewN (h'.keep (fun b o' hb=>World.cell?_alloc_lt w o _ hb)) k:Rd ((w.alloc o).drewN k) A' ys))
 have HV:=Lib.hid (And.intro (show (xs.take (wl xs)).length=wl xs from length_norm xs) (And.intro (show val (xs.take (wl xs))=val xs from val_norm xs) (And.intro (show (ys.take (wl ys)).length=wl ys from length_norm ys) (show val (ys.take (wl ys))=val ys from val_norm ys))))
 rw [←HV.out.2.1,←HV.out.2.2.2] at hlong hlt
 have hC:=fun W hW hW'=>cmp_any A (wl xs) c (xs.take (wl xs)) A' (wl ys) c' (ys.take (wl ys)) W hW HV.out.1 (by omega) hW' HV.out.2.2.1 (by omega)
 obtain ⟨cv,hcv⟩:∃cv,cmp (val (xs.take (wl xs))) (val (ys.take (wl ys)))=cv:=⟨_,rfl⟩
 have hcv0:0≤cv:=by rw [←hcv];unfold cmp;rw [if_neg hlt];split <;> decide
 have hcv1:cv≤1:=by rw [←hcv];unfold cmp;rw [if_neg hlt];split <;> decide
 rw [hcv] at hC
 obtain ⟨y,hgy⟩:∃y,ys.getD 0 0=y:=⟨_,rfl⟩
 have hvy:val ys=y:=by rw [←HV.out.2.2.2,h0,val_take_succ,hgy];simp
 have hy32:y<4294967296:=by rw [←hgy];exact h'.1.getD 0
 have hy0:0<y:=by
  have:=pos_of_wl (xs:=ys) (by omega)
  omega
 obtain ⟨b,o,rfl,hcy⟩:=h'.cells (by omega)
 have hcy0:=hcy 0 (by omega)
 rw [hgy] at hcy0
 have hO:=fun W hW=>one_any A (wl xs) c (xs.take (wl xs)) y W hW HV.out.1 (by omega) hy0 hy32
 rw [HV.out.2.1] at hO
 have hcw:∀(o':Obj),(w.alloc o').cell? ⟨b,o,none⟩=some (.int .u32 (y:Int)):=fun o'=>(World.cell?_alloc_lt _ _ _ (lt_of_cell hcy0)).trans hcy0
 rw [hvy]
 rw [h0] at hL hlong HV hC
 have cut2:∀W,(Instr.slice 23 (.slice (some ⟨b,o,none⟩) n' c') none (some (.int .i64 (1:Int))) none).run Tryz.prog W=.ok (.slice (some ⟨b,o,none⟩) 1 c') W:=fun W=>run_cut_h W _ n' c' 1 (by omega)
 have WY:∀W,Rd W (some ⟨b,o,none⟩) ys→Calls Tryz.prog 105 #[.slice (some ⟨b,o,none⟩) n' c'] W fun e w'=>e=.returned (.int .i64 (1:Int))∧W=w':=fun W hW=>by
  have:=words_any (some ⟨b,o,none⟩) n' c' ys W hW hn' (by omega)
  rw [h0] at this
  exact this
 have HX:=Lib.hid (fun W hW=>words_any A n c xs W hW hn (by omega))
 have HY:=Lib.hid WY
 have HL:=Lib.hid hL
 have HC:=Lib.hid hC
 have HO:=Lib.hid hO
 have HB:=Lib.hid (fun (o:Obj) (k:Nat)=>(below_drewN ((Below.refl _ w).alloc (Nat.le_refl _) o) k:Below w.heap.size w ((w.alloc o).drewN k)))
 have hN:wl xs≤70368744177663:=by omega
 clear hn hn' hle hle' h0 hL hC hO hcv hlt hgy hvy hcy WY hcy0
 go_enter Tryz.func73,Tryz.ntmps73
 go_wp2
 go_quiet ((first
  | (go_at_call 105;with_reducible exact quiet_left (HX.out _ (hA _)))
  | (go_at_call 105;with_reducible exact quiet_left (HY.out _ (hA' _)))))
 go_wp2_with (first
  | (go_at_call 106;refine (HL.out _ ((HT.out _ _).1.take _) HV.out.1 (by omega) ((HT.out _ _).2.take _) HV.out.2.2.1 (by omega) (by simp [World.cell?_alloc_new]) (by simp [World.cell?_alloc_new])).mono ?_;rintro e w' ⟨rfl,rfl⟩)
  | (go_at_call 107;refine (HC.out _ ((HT.out _ _).1.take _) ((HT.out _ _).2.take _)).mono ?_;rintro e w' ⟨rfl,kd,rfl⟩)
  | (go_at_call 109;refine (HO.out _ ((HT.out _ _).1.take _)).mono ?_;rintro e w2 ⟨A1,A2,g2,rfl,ho1,hg,ho2,hb⟩))
 go_ret3
 have hg':w.heap.size+1<g2:=by simpa using hg
 have ho1':Own w2 (w.heap.size+1) A1 (dig (val xs / y)):=by simpa using ho1
 exact ⟨w.heap.size+1,g2,A1,A2,by omega,by omega,by omega,rfl,ho1',ho2,(HB.out _ _).trans (hb.mono (by simp))⟩
end
end Go.Proofs.YtigmpifjcijdbaaGreatDoor
namespace Go.Proofs.YtigmpifjcijdbaaGreatDoor
set_option linter.unusedVariables false
set_option linter.unusedSimpArgs false
open Go.RowKit Verge
theorem lz32_any (x:Int) (hx0:0≤x) (hx:x<4294967296) (w:World) :
  Calls Tryz.prog 110 #[.int .u32 x] w fun e w'=>e=.returned (.int .i64 (32 - (blen x.toNat:Nat)))∧w=w':=by
 have hb:blen x.toNat≤32:=(blen_lt _ _).2 (by omega)
 go_enter Tryz.func110,Tryz.ntmps110
 go_wp2_with (go_at_call 119;refine (len32_any x hx0 hx _).mono ?_;rintro e w' ⟨rfl,rfl⟩)
 go_ret
 exact ⟨rfl,rfl⟩
set_option maxRecDepth 100000 in
set_option maxHeartbeats 2000000 in
theorem quo_main (A:Option Addr) (n c:Nat) (xs:List Nat) (A':Option Addr) (n' c':Nat) (ys:List Nat) (w:World) (K m:Nat)
  (h:Rd w A xs) (hn:xs.length=n) (hc:n≤c) (hm:n≤70368744177663) (h':Rd w A' ys) (hn':ys.length=n') (hc':n'≤c') (hm':n'≤70368744177663)
  (hN:wl xs=K+(m+2)) (hM:wl ys=m+2) (hlong:(long (val xs)||long (val ys))=false) (hlt:¬val xs<val ys) :
  Calls Tryz.prog 73 #[.slice A n c,.slice A' n' c'] w (QuoPost w (dig (val xs / val ys)) (dig (val xs%val ys)) 0):=by
 have hA:∀(k:Nat),Rd (w.drewN k) A xs:=fun k=>h
 have hA':∀(k:Nat),Rd (w.drewN k) A' ys:=fun k=>h'
 have hle:=wl_le xs
 have hle':=wl_le ys
 have hKm:K+(m+2)≤16384:=by
  have:=hlong;rw [Bool.or_eq_false_iff,long_false,long_false,←wl_eq h.1,←wl_eq h'.1] at this;omega
 have cut1:=fun W=>run_cut_h W A n c (wl xs) (by omega)
 have cut2:=fun W=>run_cut_h W A' n' c' (wl ys) (by omega)
 have WX:=fun W hW=>words_any A n c xs W hW hn (by omega)
 have WY:=fun W hW=>words_any A' n' c' ys W hW hn' (by omega)
 have hL:=long2_any (w.heap.size) A (wl xs) c (xs.take (wl xs)) A' (wl ys) c' (ys.take (wl ys))
 have HT:=Lib.hid (fun (o:Obj) (k:Nat)=>And.intro (Rd.drewN (h.keep (fun b o' hb=>World.cell?_alloc_lt w o _ hb)) k:Rd ((w.alloc o).drewN k) A xs) (Rd.drewN (h'.keep (fun b o' hb=>World.cell?_alloc_lt w o _ hb)) k:Rd ((w.alloc o).drewN k) A' ys))
 have hV1:=(show (xs.take (wl xs)).length=wl xs from length_norm xs)
 have hV2:=(show val (xs.take (wl xs))=val xs from val_norm xs)
 have hV3:=(show (ys.take (wl ys)).length=wl ys from length_norm ys)
 have hV4:=(show val (ys.take (wl ys))=val ys from val_norm ys)
 have hC:=fun W hW hW'=>cmp_any A (wl xs) c (xs.take (wl xs)) A' (wl ys) c' (ys.take (wl ys)) W hW hV1 (by omega) hW' hV3 (by omega)
 obtain ⟨cv,hcv⟩:∃cv,cmp (val (xs.take (wl xs))) (val (ys.take (wl ys)))=cv:=⟨_,rfl⟩
 have hcv0:0≤cv:=by rw [←hcv,hV2,hV4];unfold cmp;rw [if_neg hlt];split <;> decide
 have hcv1:cv≤1:=by rw [←hcv,hV2,hV4];unfold cmp;rw [if_neg hlt];split <;> decide
 rw [hcv] at hC
 rw [←hV2,←hV4] at hlong
 obtain ⟨t,hgt⟩:∃t,ys.getD (m+1) 0=t:=⟨_,rfl⟩
 have ht32:t<4294967296:=by rw [←hgt];exact h'.1.getD _
 have ht0:t≠0:=by
  obtain ⟨x,hx,h0⟩:=wl_top ys (m+1) (by omega)
  rw [getD_of ys hx] at hgt
  omega
 have hbt:blen t≤32∧0<blen t:=⟨(blen_lt _ _).2 (by omega),blen_pos ht0⟩
 obtain ⟨s,hs⟩:∃s,blen t+s=32:=⟨32 - blen t,by omega⟩
 have hs32:s<32:=by omega
 have hsI:(32:Int) - (blen t:Int)=(s:Int):=by omega
 obtain ⟨b,o,rfl,hcy⟩:=h'.cells (by omega)
 have hcy0:=hcy (m+1) (by omega)
 rw [hgt] at hcy0
 have hcw:∀(o':Obj),(w.alloc o').cell? ⟨b,o+(m+1),none⟩=some (.int .u32 (t:Int)):=fun o'=>(World.cell?_alloc_lt _ _ _ (lt_of_cell hcy0)).trans hcy0
 have hLZ:=fun W=>lz32_any (t:Int) (by omega) (by omega) W
 simp only [Int.toNat_natCast] at hLZ
 rw [hsI] at hLZ
 have hSX:=fun W hW=>shift_any A (wl xs) c (xs.take (wl xs)) s W hW hV1 (by omega) hs32
 have hSY:=fun W hW=>shift_any (some ⟨b,o,none⟩) (wl ys) c' (ys.take (wl ys)) s W hW hV3 (by omega) hs32
 rw [hV2] at hSX
 rw [hV4] at hSY
 have hb1:(((m:Int)+2)==0)=false:=by simp;omega
 have hb2:(((m:Int)+2)==1)=false:=by simp;omega
 simp only [hN,hM] at hL hC hV1 hV2 hV3 hV4 cut1 cut2 WX WY hSX hSY hlong
 have HX:=Lib.hid WX
 have HY:=Lib.hid WY
 have HL:=Lib.hid hL
 have HC:=Lib.hid hC
 have HLZ:=Lib.hid hLZ
 have HSX:=Lib.hid hSX
 have HSY:=Lib.hid hSY
 have HV:=Lib.hid (And.intro hV1 (And.intro hV2 (And.intro hV3 hV4)))
 have HB:=Lib.hid (fun (o:Obj) (k:Nat)=>(below_drewN ((Below.refl _ w).alloc (Nat.le_refl _) o) k:Below w.heap.size w ((w.alloc o).drewN k)))
 have HF:=Lib.hid (And.intro h.1 (And.intro h'.1 (And.intro hN (And.intro hM (And.intro hgt hs)))))
 have hwn:K+(m+2)≤n∧m+2≤n':=by omega
 clear WX WY hL hC hLZ hSX hSY hV1 hV2 hV3 hV4 hcv hlt hn hn' hle hle' hN hM hgt hcy hcy0 hs h h' hsI
 go_enter Tryz.func73,Tryz.ntmps73
 go_wp2
 go_quiet ((first
  | (go_at_call 105;with_reducible exact quiet_left (HX.out _ (hA _)))
  | (go_at_call 105;with_reducible exact quiet_left (HY.out _ (hA' _)))))
 clear cut1 cut2
 go_wp2_with (first
  | (go_at_call 106;refine (HL.out _ ((HT.out _ _).1.take _) HV.out.1 (by omega) ((HT.out _ _).2.take _) HV.out.2.2.1 (by omega) (by simp [World.cell?_alloc_new]) (by simp [World.cell?_alloc_new])).mono ?_;rintro e w' ⟨rfl,rfl⟩)
  | (go_at_call 107;refine (HC.out _ ((HT.out _ _).1.take _) ((HT.out _ _).2.take _)).mono ?_;rintro e w' ⟨rfl,kd,rfl⟩)
  | (go_at_call 110;refine (HLZ.out _).mono ?_;rintro e w' ⟨rfl,rfl⟩))
 go_cut [8,9] from 56 to 64 (fun s8 s9 wx=>∃(gv:Nat) (U L2:List Nat),s8=.slice (some ⟨w.heap.size+1,0,none⟩) (K+(m+2)+1) (K+(m+2)+1)∧s9=.slice (some ⟨gv,0,none⟩) (m+2) (m+2+1)∧w.heap.size+1<gv ∧
  Blk wx (w.heap.size+1) U∧Blk wx gv L2∧Hid (U.length=K+(m+2)+1∧val U=val xs*2^s∧L2.length=m+2+1∧val L2=val ys*2^s)∧Below w.heap.size w wx)
 case first =>
  have cutv:∀(W:World) (g:Nat),(Instr.slice 23 (.slice (some ⟨g,0,none⟩) (m+2+1) (m+2+1)) none (some (.int .i64 ((m:Int)+2))) none).run Tryz.prog W=.ok (.slice (some ⟨g,0,none⟩) (m+2) (m+2+1)) W:=fun W g=>by
   have:=run_cut_h W (some ⟨g,0,none⟩) (m+2+1) (m+2+1) (m+2) (by omega)
   exact this
  go_region_with (first
   | (go_at_call 111;with_reducible refine (HSX.out _ ((HT.out _ _).1.take _)).mono ?_;rintro e w2 ⟨rfl,U,hU,hUl,hUv,hb2⟩;have hU2:Blk w2 (w.heap.size+1) U:=(by simpa using hU);have hbw2:Below w.heap.size w w2:=(HB.out _ _).trans (hb2.mono (by simp));have hsz:w.heap.size+1<w2.heap.size:=hU2.lt;have HY2:=Lib.hid (((HT.out _ _).2.take (m+2)).below hb2);have HU:=Lib.hid (And.intro hU2 (And.intro hUl hUv));clear hU hU2 hUl hUv hb2)
   | (go_at_call 111;with_reducible refine (HSY.out _ HY2.out).mono ?_;rintro e w3 ⟨rfl,L2,hL2,hLl,hLv,hb3⟩;have HL3:=Lib.hid (And.intro hL2 (And.intro hLl hLv));clear hL2 hLl hLv))
  go_wp2
  go_meet
  case rel=>exact ⟨_,U,L2,rfl,rfl,hsz,HU.out.1.later hb3,HL3.out.1,⟨HU.out.2.1,HU.out.2.2,HL3.out.2.1,HL3.out.2.2⟩,hbw2.trans (hb3.mono (by omega))⟩
 case rest =>
  obtain ⟨gv,U0,L2,rfl,rfl,hgv,hU0,hL2,hUL,hbw⟩:=hcut
  have hmk:∀W:World,(Instr.makeSlice 23 (.int .i64 ((K:Int)+1)) (.int .i64 ((K:Int)+1))).run Tryz.prog W=.ok (.slice (some ⟨W.heap.size,0,none⟩) (K+1) (K+1)) (W.alloc (.cells (u32s (List.replicate (K+1) 0)).toArray 52)):=
   fun W=>run_make_u32 (K+1) (by omega) W
  obtain ⟨V,hVe⟩:∃V,L2.take (m+2)=V:=⟨_,rfl⟩
  have hts:=top_shift HF.out.2.1 (k:=m+1) HF.out.2.2.2.1 (by rw [HF.out.2.2.2.2.1];exact HF.out.2.2.2.2.2) hL2.1 hUL.out.2.2.1 hUL.out.2.2.2
  have hV32:W32 V:=by rw [←hVe];exact hL2.1.take _
  have hVl:V.length=m+2:=by rw [←hVe,List.length_take,hUL.out.2.2.1];omega
  rw [show m+1+1=m+2 from rfl,hVe] at hts
  have hb0:0<val ys:=by
   have:=pos_of_wl (xs:=ys) (by rw [HF.out.2.2.2.1];omega)
   omega
  have HVf:=Lib.hid (And.intro hV32 (And.intro hVl (And.intro hts.1 (And.intro hts.2 (And.intro hVe hb0)))))
  have hgvlt:=hL2.lt
  have hU0lt:=hU0.lt
  have HL2:=Lib.hid hL2
  have HU0:=Lib.hid hU0
  clear hV32 hVl hts hVe hb0 hL2 hU0 HT HB HSX HSY HLZ HC HL HX HY
  go_wp2
  go_loopw [10,11,74] (fun _ _ iv wr=>∃(i:Nat) (U Q:List Nat),i≤K+1∧iv=.int .i64 i∧Blk wr (w.heap.size+1) U∧Blk wr wc.heap.size Q∧Blk wr gv L2 ∧
   Hid (U.length=K+(m+2)+1∧Q.length=K+1∧QInv (val xs*2^s) U Q V (K+1 - i))∧Below w.heap.size w wr) (fun _ _ iv _=>K+1 - (intOf iv).toNat)
  case atStart =>
   refine ⟨0,U0,List.replicate (K+1) 0,by omega,rfl,HU0.out.alloc _,Blk.made wc (K+1),HL2.out.alloc _,⟨hUL.out.1,by simp,?_⟩,hbw.alloc hbw.size _⟩
   exact quo_start HF.out.1 hs32 HF.out.2.2.1 HU0.out.1 hUL.out.1 hUL.out.2.1 HVf.out.1 HVf.out.2.1 HVf.out.2.2.2.1 (by simp)
  case round =>
   clear HU0 HL2
   obtain ⟨i,U,Q,hi,rfl,hU,hQ,hL2,hI,hb⟩:=hrel
   by_cases hin:i<K+1
   ·obtain ⟨j,rfl⟩:∃j,K=j+i:=⟨K - i,by omega⟩
    have hI2:QInv (val xs*2^s) U Q V (j+1):=by
     have:=hI.out.2.2
     rwa [show j+i+1 - i=j+1 by omega] at this
    have hT:=trial_of (j:=j) (K:=j+i) hU.1 HVf.out.1 HVf.out.2.1 HVf.out.2.2.2.1 hI.out.1 (by omega) hI2.2
    have hPl:(U.take j).length=j:=by rw [List.length_take,hI.out.1];omega
    have hBU:Blk wr (w.heap.size+1) (U.take j++U.drop j):=by rw [List.take_append_drop];exact hU
    have hVr:∀w',wr.grownBy w' (some (w.heap.size+1))→Rd w' (some ⟨gv,0,none⟩) V:=fun w' hG=>by
     have:=(hL2.grown hG (by intro e;injection e;omega)).rd.take (m+2)
     rwa [HVf.out.2.2.2.2.1] at this
    have HD:=Lib.hid (digit_any (w.heap.size+1) j (j+i+(m+2)+1 - j) (U.take j) (U.drop j) (some ⟨gv,0,none⟩) m (m+2+1) V _ _ _ _ _ wr hBU hPl hVr hT (by omega))
    have hqb:val (U.drop j) / val V<4294967296:=by
     exact Nat.div_lt_of_lt_mul hT.lt
    obtain ⟨qd,hqd⟩:∃qd,val (U.drop j) / val V=qd:=⟨_,rfl⟩
    rw [hqd] at HD hqb
    have hcut:∀W:World,(Instr.slice 23 (.slice (some ⟨w.heap.size+1,0,none⟩) (j+i+(m+2)+1) (j+i+(m+2)+1)) (some (.int .i64 (j:Int))) (some (.int .i64 ((j:Int)+((m:Int)+2)+1))) none).run Tryz.prog W=.ok (.slice (some ⟨w.heap.size+1,j,none⟩) (m+3) (j+i+(m+2)+1 - j)) W:=fun W=>by
     have:=run_cut_row (w.heap.size+1) (j+i+(m+2)+1) (j+i+(m+2)+1) j (j+(m+2)+1) (by omega) (by omega) (by omega) W
     rw [show j+(m+2)+1 - j=m+3 by omega] at this
     exact this
    have HQ:=Lib.hid (And.intro hI2 (And.intro hPl hqd))
    have hQU:wc.heap.size≠w.heap.size+1:=by omega
    clear hI2 hT hPl hBU hVr hqd
    go_wp2_with fail
    refine HD.out.mono ?_
    rintro e w4 ⟨rfl,D',hG,hBD,hDl,hDv⟩
    have hQ4:=hQ.grown hG (by intro e;injection e;omega)
    have hL4:=hL2.grown hG (by intro e;injection e;omega)
    have hb4:Below w.heap.size w w4:=hb.grown hG hb.size (by intro k hk;injection hk;omega)
    have hcl:=hQ4.cell (i:=j) (by rw [hI.out.2.1];omega)
    have hfz:=hQ4.frozen j
    have HR:=Lib.hid (And.intro hBD (And.intro hDl hDv))
    clear hBD hDl hDv hcut hG
    go_wp2
    go_roundw
    case rel =>
     obtain ⟨q1,q2,q3⟩:=HQ.out
     obtain ⟨r1,r2,r3⟩:=HR.out
     have hjQ:j<Q.length:=by rw [hI.out.2.1];omega
     have hst:=quo_step hjQ (by rw [hI.out.1];omega) q1 q3.symm r3 (by rw [HVf.out.2.2.1];exact Nat.mul_pos HVf.out.2.2.2.2.2 (Nat.pow_pos (by omega)))
     have hlen:(U.take j++D').length=j+i+(m+2)+1:=by rw [List.length_append,q2,r2,List.length_drop,hI.out.1];omega
     have hjj:j+i+1 - (i+1)=j:=by omega
     have hQl:(Q.set j qd).length=j+i+1:=by rw [List.length_set];exact hI.out.2.1
     have hst2:QInv (val xs*2^s) (U.take j++D') (Q.set j qd) V (j+i+1 - (i+1)):=by rw [hjj];exact hst
     repeat apply Exists.intro
     exact ⟨⟨i+1,U.take j++D',Q.set j qd,by omega,by go_num,r1.far (by simp;omega) _,hQ4.setI j (by omega) (by omega) (by omega),hL4.far (by simp;omega) _,⟨hlen,hQl,hst2⟩,hb4.setCell hbw.size _⟩,rfl⟩
    case measure=>simp [intOf];omega
   ·obtain rfl:i=K+1:=by omega
    have hI2:QInv (val xs*2^s) U Q V 0:=by
     have:=hI.out.2.2
     rwa [Nat.sub_self] at this
    obtain ⟨e1,e2,e3⟩:=quo_end HVf.out.2.2.2.2.2 HVf.out.2.2.1 hI2
    have hUt:=rest_take (m:=m) hU.1 HVf.out.1 HVf.out.2.1 (by rw [hI.out.1];omega) e3
    have hz:=wl_le (U.take (m+2))
    have hTl:(U.take (m+2)).length=m+2:=by rw [List.length_take,hI.out.1];omega
    have hUz:U.take (wl (U.take (m+2)))=norm (U.take (m+2)):=by rw [norm,List.take_take,Nat.min_eq_left (by omega)]
    have hcT:=fun c hc=>cut_any (some ⟨w.heap.size+1,0,none⟩) (m+2) c (U.take (m+2)) wr (hU.rd.take _) hTl hc
    have hcQ:=cut_any (some ⟨wc.heap.size,0,none⟩) (K+1) (K+1) Q wr hQ.rd hI.out.2.1 (Nat.le_refl _) (by omega)
    have hbk:=back_any (w.heap.size+1) (wl (U.take (m+2))) (wl (U.take (m+2))) U s wr hU (by rw [hI.out.1];omega) (Nat.le_refl _) (by omega) hs32
    rw [hUz,val_norm,hUt,e2] at hbk
    rw [wl_eq hQ.1,e1] at hcQ
    have hoQ:=hQ.own (wl Q) (wl_le Q)
    rw [show Q.take (wl Q)=dig (val Q) from (dig_val hQ.1).symm,e1] at hoQ
    have hcutu:∀W:World,(Instr.slice 23 (.slice (some ⟨w.heap.size+1,0,none⟩) (K+(m+2)+1) (K+(m+2)+1)) none (some (.int .i64 ((m:Int)+2))) none).run Tryz.prog W=.ok (.slice (some ⟨w.heap.size+1,0,none⟩) (m+2) (K+(m+2)+1)) W:=fun W=>by
     have:=run_cut_h W (some ⟨w.heap.size+1,0,none⟩) (K+(m+2)+1) (K+(m+2)+1) (m+2) (by omega)
     exact this
    have HcT:=Lib.hid (hcT (K+(m+2)+1) (by omega) (by omega))
    have HcQ:=Lib.hid hcQ
    have Hbk:=Lib.hid hbk
    have HoQ:=Lib.hid hoQ
    clear hI2 e1 e2 e3 hUt hTl hUz hcT hcQ hbk hoQ hz
    go_wp2_with fail
    refine HcT.out.mono ?_
    rintro e w' ⟨rfl,rfl⟩
    go_wp2_with fail
    refine HcQ.out.mono ?_
    rintro e w' ⟨rfl,rfl⟩
    go_wp2_with fail
    refine Hbk.out.mono ?_
    rintro e w5 ⟨A5,rfl,ho5,hG5⟩
    have hb5:Below w.heap.size w w5:=hb.grown hG5 hb.size (by intro k hk;injection hk;omega)
    have ho6:=HoQ.out.block (w':=w5) (hG5.block _ hQ.lt (by intro e;injection e;omega))
    have H5:=Lib.hid (And.intro ho5 (And.intro ho6 hb5))
    clear ho5 ho6 hb5 hG5
    go_wp2
    go_ret3
    exact ⟨wc.heap.size,w.heap.size+1,_,A5,hbw.size,by omega,by omega,rfl,H5.out.2.1,H5.out.1,H5.out.2.2⟩
theorem quo_any (A:Option Addr) (n c:Nat) (xs:List Nat) (A':Option Addr) (n' c':Nat) (ys:List Nat) (w:World)
  (h:Rd w A xs) (hn:xs.length=n) (hc:n≤c) (hm:n≤70368744177663) (h':Rd w A' ys) (hn':ys.length=n') (hc':n'≤c') (hm':n'≤70368744177663) :
  Calls Tryz.prog 73 #[.slice A n c,.slice A' n' c'] w (QuoPost w (nquo (val xs) (val ys)).1 (nquo (val xs) (val ys)).2.1 (nquo (val xs) (val ys)).2.2):=by
 rcases Nat.eq_zero_or_pos (wl ys) with h0 | h0
 ·rw [(val_eq_zero_iff ys).2 h0,nquo_zero]
  exact quo_zero A n c xs A' n' c' ys w h hn hc hm h' hn' hc' hm' h0
 ·have hb:=pos_of_wl h0
  by_cases hlong:(long (val xs)||long (val ys))=true
  ·rw [nquo_long hb hlong]
   exact quo_long A n c xs A' n' c' ys w h hn hc hm h' hn' hc' hm' (by omega) hlong
  ·have hlong':(long (val xs)||long (val ys))=false:=by simpa using hlong
   rw [nquo_ok hb hlong']
   by_cases hlt:val xs<val ys
   ·rw [Nat.div_eq_of_lt hlt,Nat.mod_eq_of_lt hlt,dig_zero]
    exact quo_less A n c xs A' n' c' ys w h hn hc hm h' hn' hc' hm' (by omega) hlong' hlt
   ·have hmono:wl ys≤wl xs:=by
     rw [wl_eq h.1,wl_eq h'.1];exact dig_length_mono (by omega)
    by_cases h1:wl ys=1
    ·exact quo_one A n c xs A' n' c' ys w h hn hc hm h' hn' hc' hm' h1 hlong' hlt
    ·exact quo_main A n c xs A' n' c' ys w (wl xs - wl ys) (wl ys - 2) h hn hc hm h' hn' hc' hm' (by omega) (by omega) hlong' hlt
end Go.Proofs.YtigmpifjcijdbaaGreatDoor
