/- Contracts of nat: mul, Mul. -/
import Derived.Test.YtigmpifjcijdbaaGreatDoorG11
import Derived.Deep.RegionWith
import Derived.Test.YtigmpifjcijdbaaGreatDoorG01
import Derived.Test.YtigmpifjcijdbaaGreatDoorG06
import Derived.Deep.CutBlock
section
namespace Go.Proofs.YtigmpifjcijdbaaGreatDoor
set_option linter.unusedVariables false
set_option linter.unusedSimpArgs false
open Go.RowKit Verge
theorem run_cut_row (g N c l h:Nat) (hl:l≤h) (hh:h≤c) (hc:l<c) (W:World):(Instr.slice 23 (.slice (some ⟨g,0,none⟩) N c) (some (.int .i64 (l:Int))) (some (.int .i64 (h:Int))) none).run Tryz.prog W=.ok (.slice (some ⟨g,l,none⟩) (h - l) (c - l)) W:=by
 rw [run_cut_lh W _ N c l h hl hh,cutA,if_neg (by omega)]
 simp [add_none]
set_option maxHeartbeats 1000000 in
theorem mulrow_any (A:Option Addr) (n c:Nat) (X:List Nat) (A':Option Addr) (m c':Nat) (Y:List Nat) (w:World)
  (h:Rd w A X) (hn:X.length=n) (hm:n+m≤70368744177663) (h':Rd w A' Y) (hn':Y.length=m) :
  Calls Tryz.prog 120 #[.slice A n c,.slice A' m c'] w fun e w'=>e=.returned (.slice (some ⟨w.heap.size,0,none⟩) (n+m) (n+m)) ∧
   ∃L,Blk w' w.heap.size L∧L.length=n+m∧val L=val X*val Y∧Below w.heap.size w w':=by
 have hmk:∀W:World,(Instr.makeSlice 23 (.int .i64 ((n:Int)+(m:Int))) (.int .i64 ((n:Int)+(m:Int)))).run Tryz.prog W=.ok (.slice (some ⟨W.heap.size,0,none⟩) (n+m) (n+m)) (W.alloc (.cells (u32s (List.replicate (n+m) 0)).toArray 52)):=
  fun W=>run_make_u32 (n+m) (by omega) W
 have hR1:=Lib.hid (fun W (hb:Below w.heap.size w W)=>h.below hb)
 have hR2:=Lib.hid (fun W (hb:Below w.heap.size w W)=>h'.below hb)
 have HN:=Lib.hid (And.intro hn hn')
 clear h h' hn hn'
 go_enter Tryz.func120,Tryz.ntmps120
 go_wp2
 go_loopw [6,7,8,9,10,11,20,37] (fun _ _ _ _ _ _ jv _ wr=>∃(j:Nat) (L:List Nat),j≤m∧jv=.int .i64 j∧Blk wr w.heap.size L ∧
  Hid (L.length=n+m∧val L=val X*val (Y.take j)∧∀p,j+n≤p→L.getD p 0=0)∧Below w.heap.size w wr) (fun _ _ _ _ _ _ jv _ _=>m - (intOf jv).toNat)
 case atStart=>exact ⟨0,List.replicate (n+m) 0,by omega,rfl,Blk.made w (n+m),⟨by simp,by rw [val_zeros];simp,fun p _=>getD_zeros _ _⟩,(Below.refl _ w).alloc (Nat.le_refl _) _⟩
 case round =>
  obtain ⟨j,L,hj,rfl,hL,hI,hb⟩:=hrel
  by_cases hjm:j<m
  ·obtain ⟨b,o,rfl,hcy⟩:=(hR2.out _ hb).cell (k:=j) (by rw [HN.out.2];exact hjm)
   have hy32:=(hR2.out _ hb).1.getD j
   obtain ⟨y,hgy⟩:∃y,Y.getD j 0=y:=⟨_,rfl⟩
   rw [hgy] at hcy hy32
   have HGY:=Lib.hid hgy;clear hgy
   by_cases hy0:y=0
   ·subst hy0
    go_wp2
    go_roundw
    case rel =>
     obtain ⟨h1,h2,h3⟩:=hI.out
     exact ⟨j+1,L,by omega,by go_num,hL,⟨h1,by rw [val_take_succ,HGY.out];simpa using h2,fun p hp=>h3 p (by omega)⟩,hb⟩
    case measure=>simp [intOf];omega
   ·have hyb:((y:Int)==0)=false:=by simpa using hy0
    have hcut:∀W:World,(Instr.slice 23 (.slice (some ⟨w.heap.size,0,none⟩) (n+m) (n+m)) (some (.int .i64 (j:Int))) (some (.int .i64 ((j:Int)+(n:Int)+1))) none).run Tryz.prog W=.ok (.slice (some ⟨w.heap.size,j,none⟩) (n+1) (n+m - j)) W:=fun W=>by
     have:=run_cut_row w.heap.size (n+m) (n+m) j (j+n+1) (by omega) (by omega) (by omega) W
     rw [show j+n+1 - j=n+1 by omega] at this
     exact this
    go_wp2
    obtain ⟨wo,rfl⟩:∃wo:World,wo=wr:=⟨_,rfl⟩
    obtain ⟨V0,hV0⟩:∃V0,val L=V0:=⟨_,rfl⟩
    have HV0:=Lib.hid hV0;clear hV0
    go_loopw [8,10,11,37] (fun cv _ _ iv wr=>∃(i cc:Nat) (L':List Nat),i≤n∧iv=.int .i64 i∧cv=.int .u64 cc∧cc<4294967296∧Blk wr w.heap.size L' ∧
     Hid (L'.length=n+m∧val L'+cc*4294967296^(j+i)=V0+y*val (X.take i)*4294967296^j∧∀p,j+n≤p→L'.getD p 0=0)∧Below w.heap.size w wr) (fun _ _ _ iv _=>n - (intOf iv).toNat)
    case atStart=>exact ⟨0,0,L,by omega,rfl,rfl,by omega,hL,⟨hI.out.1,by simp [HV0.out],hI.out.2.2⟩,hb⟩
    case round =>
     clear hb hL hcy
     obtain ⟨i,cc,L',hi,rfl,rfl,hcc,hL',hI',hb⟩:=hrel
     have hlen:=hI'.out.1
     have hcl:=hL'.cell (i:=j+i) (by omega)
     have hfz:=hL'.frozen (j+i)
     have hu32:=hL'.1.getD (j+i)
     obtain ⟨u,hgu⟩:∃u,L'.getD (j+i) 0=u:=⟨_,rfl⟩
     rw [hgu] at hcl hu32
     have HGU:=Lib.hid hgu;clear hgu
     clear hlen
     by_cases hin:i<n
     ·obtain ⟨b2,o2,rfl,hcx⟩:=(hR1.out _ hb).cell (k:=i) (by rw [HN.out.1];exact hin)
      have hx32:=(hR1.out _ hb).1.getD i
      obtain ⟨x,hgx⟩:∃x,X.getD i 0=x:=⟨_,rfl⟩
      rw [hgx] at hcx hx32
      have HGX:=Lib.hid hgx;clear hgx
      have hmul:x*y≤4294967295*4294967295:=Nat.mul_le_mul (by omega) (by omega)
      obtain ⟨q,hq⟩:∃q,x*y=q:=⟨_,rfl⟩
      have hqI:(x:Int)*(y:Int)=(q:Int):=by rw [←hq];simp
      rw [hq] at hmul
      have HQ:=Lib.hid hq;clear hq
      go_wp2
      go_roundw
      case rel =>
       obtain ⟨h1,h2,h3⟩:=hI'.out
       have hst:=mul_inner L' X j i cc u ((cc+q+u)%4294967296) ((cc+q+u) / 4294967296) V0 x y (by omega) HGU.out HGX.out h2 (by rw [HQ.out];omega)
       exact ⟨i+1,(cc+q+u) / 4294967296,L'.set (j+i) ((cc+q+u)%4294967296),by omega,by go_num,by congr 1;omega,by omega,hL'.setI (j+i) (by omega) (by omega) (by omega),
        ⟨by rw [List.length_set];exact h1,hst,fun p hp=>by rw [Verge.getD_set_ne _ _ _ _ (by omega)];exact h3 p hp⟩,hb.setCell (Nat.le_refl _) _⟩
      case measure=>simp [intOf];omega
     ·obtain rfl:i=n:=by omega
      go_wp2
      go_roundw
      case rel =>
       obtain ⟨h1,h2,h3⟩:=hI'.out
       have hst:=mul_outer L' X Y j i cc V0 y (by omega) (h3 _ (Nat.le_refl _)) HN.out.1 HGY.out (by rw [←HV0.out];exact hI.out.2.1) h2
       exact ⟨j+1,L'.set (j+i) cc,by omega,by go_num,hL'.setI (j+i) (by omega) (by omega) (by omega),
        ⟨by rw [List.length_set];exact h1,hst,fun p hp=>by rw [Verge.getD_set_ne _ _ _ _ (by omega)];exact h3 p (by omega)⟩,hb.setCell (Nat.le_refl _) _⟩
      case measure=>simp [intOf];omega
  ·obtain rfl:j=m:=by omega
   go_wp2
   go_ret
   obtain ⟨h1,h2,h3⟩:=hI.out
   exact ⟨rfl,L,hL,h1,by rw [h2,List.take_of_length_le (by have:=HN.out.2;omega)],hb⟩
theorem Rd.drew' {w:World} {A:Option Addr} {xs:List Nat} (h:Rd w A xs):Rd w.drew A xs:=h
set_option maxHeartbeats 1000000 in
theorem mul_any (A:Option Addr) (n c:Nat) (xs:List Nat) (A':Option Addr) (n' c':Nat) (ys:List Nat) (w:World)
  (h:Rd w A xs) (hn:xs.length=n) (hc:n≤c) (hm:n≤70368744177664) (h':Rd w A' ys) (hn':ys.length=n') (hc':n'≤c') (hm':n'≤70368744177664) :
  Calls Tryz.prog 80 #[.slice A n c,.slice A' n' c'] w fun e w'=>∃g A1,w.heap.size≤g ∧
   e=.returned (.tuple #[.slice A1 (nmul (val xs) (val ys)).1.length (nmul (val xs) (val ys)).1.length,.int .i64 (nmul (val xs) (val ys)).2]) ∧
   Own w' g A1 (nmul (val xs) (val ys)).1∧Below w.heap.size w w':=by
 have hA:∀(o:Obj),Rd (w.alloc o) A xs:=fun o=>h.keep (fun b o hb=>World.cell?_alloc_lt w _ _ hb)
 have hA':∀(o:Obj),Rd (w.alloc o) A' ys:=fun o=>h'.keep (fun b o hb=>World.cell?_alloc_lt w _ _ hb)
 have hB1:∀(o:Obj),Below w.heap.size w (w.alloc o):=fun o=>(Below.refl _ w).alloc (Nat.le_refl _) o
 by_cases hlong:(long (val xs)||long (val ys))=true
 ·have hr:nmul (val xs) (val ys)=([],2):=by simp only [nmul,hlong,Bool.true_or,if_true]
  rw [hr];clear hr
  go_enter Tryz.func80,Tryz.ntmps80
  go_wp2_with (go_at_call 106;refine (long2_any _ A n c xs A' n' c' ys _ (hA _) hn (by omega) (hA' _) hn' (by omega) (by simp [World.cell?_alloc_new]) (by simp [World.cell?_alloc_new])).mono ?_;rintro e w' ⟨rfl,rfl⟩)
  go_ret2
  exact ⟨w.heap.size,none,by omega,rfl,Own.nil _ _ _,hB1 _⟩
 ·have hlong':(long (val xs)||long (val ys))=false:=by simpa using hlong
  clear hlong
  have hlx:wl xs≤16384:=by
   have:=hlong';rw [Bool.or_eq_false_iff,long_false,long_false,←wl_eq h.1,←wl_eq h'.1] at this;exact this.1
  have hly:wl ys≤16384:=by
   have:=hlong';rw [Bool.or_eq_false_iff,long_false,long_false,←wl_eq h.1,←wl_eq h'.1] at this;exact this.2
  have HX:=Lib.hid (fun W hW=>words_any A n c xs W hW hn (by omega))
  have HY:=Lib.hid (fun W hW=>words_any A' n' c' ys W hW hn' (by omega))
  have HXL:=Lib.hid (fun W hW=>len_any A n c xs W hW hn (by omega))
  have HYL:=Lib.hid (fun W hW=>len_any A' n' c' ys W hW hn' (by omega))
  have HH:=Lib.hid (And.intro hn hn')
  have hbx:blen (val xs)≤524288:=by
   exact blen_le_words (by rw [←wl_eq h.1];exact hlx)
  have hby:blen (val ys)≤524288:=by
   exact blen_le_words (by rw [←wl_eq h'.1];exact hly)
  by_cases hbl:524289<blen (val xs)+blen (val ys)
  ·have hr:nmul (val xs) (val ys)=([],2):=by simp [nmul,hlong',hbl]
   rw [hr];clear hr hn hn'
   go_enter Tryz.func80,Tryz.ntmps80
   go_wp2_with (first
    | (go_at_call 106;refine (long2_any _ A n c xs A' n' c' ys _ (hA _) HH.out.1 (by omega) (hA' _) HH.out.2 (by omega) (by simp [World.cell?_alloc_new]) (by simp [World.cell?_alloc_new])).mono ?_;rintro e w' ⟨rfl,rfl⟩)
    | (go_at_call 78;with_reducible refine (HXL.out _ (hA _)).mono ?_;rintro e w' ⟨rfl,rfl⟩)
    | (go_at_call 78;with_reducible refine (HYL.out _ (hA' _)).mono ?_;rintro e w' ⟨rfl,rfl⟩))
   go_ret2
   exact ⟨w.heap.size,none,by omega,rfl,Own.nil _ _ _,hB1 _⟩
  ·have hr:nmul (val xs) (val ys)=fit (val xs*val ys):=by simp [nmul,hlong',hbl]
   rw [hr];clear hr
   have hwn:wl xs≤n∧wl ys≤n':=by have:=wl_le xs;have:=wl_le ys;omega
   have cut1:=fun W=>run_cut_h W A n c (wl xs) (by omega)
   have cut2:=fun W=>run_cut_h W A' n' c' (wl ys) (by omega)
   have HV:=Lib.hid (And.intro (show (xs.take (wl xs)).length=wl xs from length_norm xs) (And.intro (show val (xs.take (wl xs))=val xs from val_norm xs) (And.intro (show (ys.take (wl ys)).length=wl ys from length_norm ys) (show val (ys.take (wl ys))=val ys from val_norm ys))))
   have HAd:=Lib.hid (fun (o:Obj)=>Rd.drew' (hA o))
   have HAd':=Lib.hid (fun (o:Obj)=>Rd.drew' (hA' o))
   have HBd:=Lib.hid (fun (o:Obj)=>(hB1 o).drew)
   clear hn hn'
   go_enter Tryz.func80,Tryz.ntmps80
   go_wp2_with (first
    | (go_at_call 106;refine (long2_any _ A n c xs A' n' c' ys _ (hA _) HH.out.1 (by omega) (hA' _) HH.out.2 (by omega) (by simp [World.cell?_alloc_new]) (by simp [World.cell?_alloc_new])).mono ?_;rintro e w' ⟨rfl,rfl⟩)
    | (go_at_call 78;with_reducible refine (HXL.out _ (hA _)).mono ?_;rintro e w' ⟨rfl,rfl⟩)
    | (go_at_call 78;with_reducible refine (HYL.out _ (hA' _)).mono ?_;rintro e w' ⟨rfl,rfl⟩))
   have HM:=Lib.hid (fun W (hW:Rd W A xs) (hW':Rd W A' ys)=>mulrow_any A (wl xs) c (xs.take (wl xs)) A' (wl ys) c' (ys.take (wl ys)) W (hW.take _) HV.out.1 (by omega) (hW'.take _) HV.out.2.2.1)
   go_region_with (first
    | (go_at_call 105;with_reducible refine (HX.out _ (HAd.out _)).mono ?_;rintro e w' ⟨rfl,rfl⟩)
    | (go_at_call 105;with_reducible refine (HY.out _ (HAd'.out _)).mono ?_;rintro e w' ⟨rfl,rfl⟩)
    | (go_at_call 120;refine (HM.out _ (HAd.out _) (HAd'.out _)).mono ?_;rintro e w2 ⟨rfl,L,hL,hlen,hv,hb⟩;have hL2:Blk w2 (w.heap.size+1) L:=(by simpa using hL);have hb2:Below w.heap.size w w2:=(HBd.out _).trans (hb.mono (by simp));have HL:=Lib.hid (And.intro hL2 (And.intro hlen hv));clear hL hL2 hlen hv hb)
    | (go_at_call 118;refine (fit_any (w.heap.size+1) _ _ L _ HL.out.1 HL.out.2.1 (Nat.le_refl _) (by omega)).mono ?_;rintro e w' ⟨A1,rfl,ho,rfl⟩))
   all_goals
    have hvl:val L=val xs*val ys:=by rw [HL.out.2.2,HV.out.2.1,HV.out.2.2.2]
    rw [hvl] at ho ⊢
    have HO:=Lib.hid ho
    clear hvl ho
    go_wp2
    go_ret2
    exact ⟨_,A1,by omega,rfl,HO.out,hb2⟩
end Go.Proofs.YtigmpifjcijdbaaGreatDoor
end

section
namespace Go.Proofs.YtigmpifjcijdbaaGreatDoor
set_option linter.unusedVariables false
set_option linter.unusedSimpArgs false
open Go.RowKit Verge
set_option maxHeartbeats 1000000 in
theorem one_any (A:Option Addr) (n c:Nat) (X:List Nat) (y:Nat) (w:World) (h:Rd w A X) (hn:X.length=n) (hm:n≤70368744177663) (hy0:0<y) (hy:y<4294967296) :
  Calls Tryz.prog 109 #[.slice A n c,.int .u64 (y:Int)] w fun e w'=>∃A1 A2 g2,
   e=.returned (.tuple #[.slice A1 (dig (val X / y)).length (dig (val X / y)).length,.slice A2 (dig (val X%y)).length (dig (val X%y)).length,.int .i64 0]) ∧
   Own w' w.heap.size A1 (dig (val X / y))∧w.heap.size<g2∧Own w' g2 A2 (dig (val X%y))∧Below w.heap.size w w':=by
 have hmk:∀W:World,(Instr.makeSlice 23 (.int .i64 (n:Int)) (.int .i64 (n:Int))).run Tryz.prog W=.ok (.slice (some ⟨W.heap.size,0,none⟩) n n) (W.alloc (.cells (u32s (List.replicate n 0)).toArray 52)):=
  fun W=>run_make_u32 n (by omega) W
 have hR1:=Lib.hid (fun W (hb:Below w.heap.size w W)=>h.below hb)
 have HN:=Lib.hid hn
 clear h hn
 go_enter Tryz.func109,Tryz.ntmps109
 go_wp2
 go_loopw [7,8,9,15] (fun rv _ _ iv wr=>∃(i r:Nat) (Q:List Nat),i≤n∧iv=.int .i64 i∧rv=.int .u64 r∧r<y∧Blk wr w.heap.size Q ∧
  Hid (Q.length=n∧val (X.drop (n - i))=y*val (Q.drop (n - i))+r)∧Below w.heap.size w wr) (fun _ _ _ iv _=>n - (intOf iv).toNat)
 case atStart=>exact ⟨0,0,List.replicate n 0,by omega,rfl,rfl,hy0,Blk.made w n,⟨by simp,by
  rw [Nat.sub_zero,List.drop_of_length_le (by rw [HN.out];omega),List.drop_of_length_le (by simp)];simp⟩,(Below.refl _ w).alloc (Nat.le_refl _) _⟩
 case round =>
  obtain ⟨i,r,Q,hi,rfl,rfl,hr,hQ,hI,hb⟩:=hrel
  by_cases hin:i<n
  ·obtain ⟨j,rfl⟩:∃j,n=j+1+i:=⟨n - 1 - i,by omega⟩
   obtain ⟨b2,o2,rfl,hcx⟩:=(hR1.out _ hb).cell (k:=j) (by rw [HN.out];omega)
   have hx32:=(hR1.out _ hb).1.getD j
   obtain ⟨x,hgx⟩:∃x,X.getD j 0=x:=⟨_,rfl⟩
   rw [hgx] at hcx hx32
   have HGX:=Lib.hid hgx;clear hgx
   have hlen:=hI.out.1
   have hcl:=hQ.cell (i:=j) (by omega)
   have hfz:=hQ.frozen j
   clear hlen
   obtain ⟨t,ht⟩:∃t,x+4294967296*r=t:=⟨_,rfl⟩
   have hor:bits .or .u64 ((r:Int)*4294967296) (x:Int)=(t:Int):=by rw [or_hi' x r hx32 (by omega),ht]
   have htb:t<18446744073709551616:=by omega
   have htq:t / y<4294967296:=by
    rw [Nat.div_lt_iff_lt_mul hy0]
    have:4294967296*(r+1)≤4294967296*y:=Nat.mul_le_mul_left _ hr
    omega
   obtain ⟨q,hq⟩:∃q,t / y=q:=⟨_,rfl⟩
   obtain ⟨r',hr'⟩:∃r',t%y=r':=⟨_,rfl⟩
   have hqI:(t:Int) / (y:Int)=(q:Int):=by rw [←hq];simp
   have hrI:(t:Int)%(y:Int)=(r':Int):=by rw [←hr'];simp
   have hr'y:r'<y:=by rw [←hr'];exact Nat.mod_lt _ hy0
   rw [hq] at htq
   have HT:=Lib.hid (And.intro ht (show t=y*q+r' by rw [←hq,←hr'];exact (Nat.div_add_mod t y).symm))
   clear ht hq hr'
   go_wp2
   have HRI:=Lib.hid hrI
   clear hor hqI hrI
   go_roundw
   case rel =>
    obtain ⟨h1,h2⟩:=hI.out
    obtain ⟨t1,t2⟩:=HT.out
    rw [show j+1+i - i=j+1 by omega] at h2
    have hst:=one_step Q X j x r t q r' y (by omega) HGX.out h2 t1.symm t2
    exact ⟨i+1,r',Q.set j q,by omega,by go_num,by rw [HRI.out],hr'y,hQ.set j htq,⟨by rw [List.length_set];exact h1,by rw [show j+1+i - (i+1)=j by omega];exact hst⟩,hb.setCell (Nat.le_refl _) _⟩
   case measure=>simp [intOf];omega
  ·obtain rfl:i=n:=by omega
   obtain ⟨h1,h2⟩:=hI.out
   rw [Nat.sub_self,List.drop_zero,List.drop_zero] at h2
   have hq:val X / y=val Q:=by
    rw [h2,Nat.mul_add_div hy0,Nat.div_eq_of_lt hr,Nat.add_zero]
   have hr2:val X%y=r:=by
    rw [h2,Nat.mul_add_mod,Nat.mod_eq_of_lt hr]
   have HQR:=Lib.hid (And.intro hq hr2)
   have hwl:wl Q=(dig (val Q)).length:=wl_eq hQ.1
   have ho:=hQ.own (wl Q) (wl_le Q)
   have hd:Q.take (wl Q)=dig (val Q):=(dig_val hQ.1).symm
   rw [hd] at ho
   have HQ:=Lib.hid (And.intro hQ.rd (And.intro h1 (And.intro hwl ho)))
   have hlt:=hQ.lt
   clear hq hr2 hwl ho hd h1 h2
   go_wp2_with fail
   refine (cut_any _ i i Q _ HQ.out.1 HQ.out.2.1 (Nat.le_refl _) (by omega)).mono ?_
   rintro e w' ⟨rfl,rfl⟩
   rw [HQ.out.2.2.1]
   go_wp2_with fail
   refine (small_any (r:Int) wr (by omega) (by omega)).mono ?_
   rintro e w' ⟨g2,A2,hg,rfl,ho2,hb2⟩
   rw [Int.toNat_natCast] at ho2 ⊢
   have HO:=Lib.hid (And.intro ho2 (HQ.out.2.2.2.later hb2))
   clear ho2
   go_wp2
   go_ret3
   rw [HQR.out.1,HQR.out.2]
   exact ⟨_,A2,g2,rfl,HO.out.2,by omega,HO.out.1,hb.trans (hb2.mono (by omega))⟩
end Go.Proofs.YtigmpifjcijdbaaGreatDoor
end

section
namespace Go.Proofs.YtigmpifjcijdbaaGreatDoor
set_option linter.unusedVariables false
set_option linter.unusedSimpArgs false
open Go.RowKit Verge
theorem Blk.cellAt {w:World} {g:Nat} {P D:List Nat} (h:Blk w g (P++D)) {o:Nat} (ho:P.length=o) {i:Nat} (hi:i<D.length):w.cell? ⟨g,o+i,none⟩=some (.int .u32 ((D.getD i 0:Nat):Int)):=by
 subst ho
 rw [h.cell (by rw [List.length_append];omega),getD_append_left']
theorem Blk.setAt {w:World} {g:Nat} {P D:List Nat} (h:Blk w g (P++D)) {o:Nat} (ho:P.length=o) (i:Nat) {v:Int} (h0:0≤v) (hv:v<4294967296) {u:Nat} (hu:v.toNat=u) :
  Blk (w.setCell ⟨g,o+i,none⟩ (.int .u32 v)) g (P++D.set i u):=by
 subst ho
 have:=h.setI (P.length+i) h0 hv hu
 rwa [set_append_left'] at this
set_option maxRecDepth 100000 in
set_option maxHeartbeats 2000000 in
theorem digit_any (g o cu:Nat) (P D:List Nat) (AV:Option Addr) (m cv:Nat) (V:List Nat) (un u1 u2 v1 v2:Nat) (w:World)
  (hB:Blk w g (P++D)) (ho:P.length=o) (hV:∀w',w.grownBy w' (some g)→Rd w' AV V) (hT:Trial D V m un u1 u2 v1 v2) (hm:o+m≤70368744177663) :
  Calls Tryz.prog 112 #[.slice (some ⟨g,o,none⟩) (m+3) cu,.slice AV (m+2) cv] w fun e w'=>e=.returned (.int .u32 ((val D / val V:Nat):Int)) ∧
   ∃D',w.grownBy w' (some g)∧Blk w' g (P++D')∧D'.length=D.length∧val D'=val D%val V:=by
 obtain ⟨b,oV,rfl,-⟩:=(hV w (grownBy_refl w _)).cell (k:=0) (by rw [hT.vl];omega)
 have hVc:∀w',w.grownBy w' (some g)→∀i,i<m+2→w'.cell? ⟨b,oV+i,none⟩=some (.int .u32 ((V.getD i 0:Nat):Int)):=fun w' hG i hi=>by
  obtain ⟨b',o',e,hc⟩:=(hV w' hG).cell (k:=i) (by rw [hT.vl];omega)
  simp only [Option.some.injEq,Addr.mk.injEq,and_true] at e
  obtain ⟨rfl,rfl⟩:=e
  exact hc
 have hcv1:=hVc w (grownBy_refl w _) (m+1) (by omega)
 have hcv2:=hVc w (grownBy_refl w _) m (by omega)
 have hcu0:=hB.cellAt ho (i:=m+2) (by have:=hT.dl;omega)
 have hcu1:=hB.cellAt ho (i:=m+1) (by have:=hT.dl;omega)
 have hcu2:=hB.cellAt ho (i:=m) (by have:=hT.dl;omega)
 rw [hT.gv1] at hcv1
 rw [hT.gv2] at hcv2
 rw [hT.gun] at hcu0
 rw [hT.gu1] at hcu1
 rw [hT.gu2] at hcu2
 have hunle:=hT.un_le
 have hun:=hT.un32
 have hu1:=hT.u132
 have hu2:=hT.u232
 have hv1:=hT.v132
 have hv2:=hT.v232
 have htop:=hT.top
 obtain ⟨top,ht⟩:∃top,u1+4294967296*un=top:=⟨_,rfl⟩
 have htb:top<18446744073709551616:=by omega
 have hor:bits .or .u64 ((un:Int)*4294967296) (u1:Int)=(top:Int):=by rw [or_hi' u1 un hu1 hun,ht]
 have hw1:IntKind.u64.wrap ((un:Int)*4294967296)=(un:Int)*4294967296:=by rw [IntKind.wrap_u64];omega
 have hi1:IntKind.i64.wrap ((m:Int)+2 - 1)=(m:Int)+1:=by rw [IntKind.wrap_i64];omega
 have hi2:IntKind.i64.wrap ((m:Int)+2 - 2)=(m:Int):=by rw [IntKind.wrap_i64];omega
 have hst:=hT.start top ht
 have hx0:=hT.xle top _ _ ht hst
 have hr0:top%v1<v1:=Nat.mod_lt _ (by omega)
 obtain ⟨x0,hqx⟩:∃x0,top / v1=x0:=⟨_,rfl⟩
 obtain ⟨r0,hqr⟩:∃r0,top%v1=r0:=⟨_,rfl⟩
 rw [hqx,hqr] at hst
 rw [hqx] at hx0
 rw [hqr] at hr0
 have hqI:IntKind.u64.wrap ((top:Int) / (v1:Int))=(x0:Int):=by rw [←Int.natCast_ediv,hqx,IntKind.wrap_u64];omega
 have hrI:(top:Int)%(v1:Int)=(r0:Int):=by rw [←hqr];simp
 have HST:=Lib.hid hst
 have HRI:=Lib.hid hrI
 have HT:=Lib.hid hT
 have HTop:=Lib.hid ht
 clear hqx hqr hst
 have HB:=Lib.hid hB
 have HV:=Lib.hid hVc
 have HO:=Lib.hid ho
 clear hT ht hB hV hVc ho
 go_enter Tryz.func112,Tryz.ntmps112
 go_wp2
 go_quiet (fail)
 clear hor hw1
 go_wp2
 go_quiet (fail)
 clear hqI hrI hcu0 hcu1
 go_upto_block 0 with (fail)
 go_cut [7,8] (fun xv _ wx=>∃x d:Nat,xv=.int .u64 x∧x<4294967296∧Hid (x*val V<val D+val V∧val D<(x+1)*val V)∧wx=w.drewN d)
 case first =>
  go_wp2
  go_loopw [7,8] (fun xv rv wr=>∃x r d:Nat,xv=.int .u64 x∧rv=.int .u64 r∧x≤4294967297∧Hid (r<8589934592∧Tries D V top v1 x r)∧wr=w.drewN d) (fun _ rv _=>4 - ((intOf rv) / 2147483648).toNat)
  case atStart=>exact ⟨x0,r0,_,rfl,by rw [HRI.out],hx0,⟨by omega,HST.out⟩,by rw [World.drewN_drewN]⟩
  case round =>
   clear HST
   obtain ⟨x,r,d,rfl,rfl,hxb,hTr,rfl⟩:=hrel
   by_cases hstop:4294967296≤r∨x<4294967296∧x*v2≤r*4294967296+u2
   ·obtain ⟨hxB,hxs⟩:=HT.out.stop top x r HTop.out hTr.out.2 hstop
    have HX:=Lib.hid (And.intro hxs hTr.out.2.2)
    clear hxs
    have hcases:4294967296≤r∨r<4294967296∧x*v2≤r*4294967296+u2:=by
     rcases Nat.lt_or_ge r 4294967296 with h | h
     ·rcases hstop with h' | h'
      ·exact absurd h' (by omega)
      ·exact .inr ⟨h,h'.2⟩
     ·exact .inl h
    clear hstop
    rcases hcases with hr | ⟨hr2,hle⟩
    case' inl =>
     have hb1:((r:Int) / 4294967296==0)=false:=by simp;omega
     have hrb:=hTr.out.1
     go_wp2
     go_quiet (fail)
     go_wp2
    case' inr =>
     have hb1:((r:Int) / 4294967296==0)=true:=by simp;omega
     have hb2:((x:Int) / 4294967296 != 0)=false:=by simp;omega
     have hp1:x*v2≤4294967295*4294967295:=Nat.mul_le_mul (by omega) (by omega)
     obtain ⟨p,hp⟩:∃p,x*v2=p:=⟨_,rfl⟩
     obtain ⟨q,hq⟩:∃q,u2+4294967296*r=q:=⟨_,rfl⟩
     rw [hp] at hp1 hle
     have hqp:¬q<p:=by omega
     have hqpI:decide ((q:Int)<(p:Int))=false:=by simp;omega
     have hwp:IntKind.u64.wrap ((x:Int)*(v2:Int))=(p:Int):=by rw [←Int.natCast_mul,hp,IntKind.wrap_u64];omega
     have hwr:IntKind.u64.wrap ((r:Int)*4294967296)=(r:Int)*4294967296:=by rw [IntKind.wrap_u64];omega
     have hor2:bits .or .u64 ((r:Int)*4294967296) (u2:Int)=(q:Int):=by rw [or_hi' u2 r hu2 hr2,hq]
     clear hp hq hle
     go_wp2
     go_quiet (fail)
     clear hwp hwr hor2 hb2 hqp hqpI hp1
     go_wp2
    all_goals go_meet
    all_goals exact ⟨x,d+_,rfl,hxB,HX.out,by first | rfl | rw [World.drewN_drewN]⟩
   ·have hr:r<4294967296:=by omega
    have hb1:((r:Int) / 4294967296==0)=true:=by simp;omega
    by_cases hx:4294967296≤x
    ·obtain ⟨hx1,hTr2⟩:=HT.out.down top x r HTop.out hTr.out.2 (.inl hx)
     have HTr2:=Lib.hid hTr2
     have hb2:((x:Int) / 4294967296 != 0)=true:=by simp;omega
     clear hTr2 hstop
     go_wp2
     go_quiet (fail)
     go_wp2
     go_roundw
     case rel=>exact ⟨x - 1,r+v1,_,by congr 1;omega,by go_num,by omega,⟨by omega,HTr2.out⟩,by first | rfl | rw [World.drewN_drewN]⟩
     case measure=>simp [intOf];omega
    ·have hgt:r*4294967296+u2<x*v2:=by
      rcases Nat.lt_or_ge (r*4294967296+u2) (x*v2) with h | h
      ·exact h
      ·exact absurd (.inr ⟨by omega,h⟩) hstop
     obtain ⟨hx1,hTr2⟩:=HT.out.down top x r HTop.out hTr.out.2 (.inr hgt)
     have HTr2:=Lib.hid hTr2
     have hb2:((x:Int) / 4294967296 != 0)=false:=by simp;omega
     have hp1:x*v2≤4294967295*4294967295:=Nat.mul_le_mul (by omega) (by omega)
     obtain ⟨p,hp⟩:∃p,x*v2=p:=⟨_,rfl⟩
     obtain ⟨q,hq⟩:∃q,u2+4294967296*r=q:=⟨_,rfl⟩
     rw [hp] at hp1 hgt
     have hqp:q<p:=by omega
     have hqpI:(q:Int)<(p:Int):=by omega
     have hwp:IntKind.u64.wrap ((x:Int)*(v2:Int))=(p:Int):=by rw [←Int.natCast_mul,hp,IntKind.wrap_u64];omega
     have hwr:IntKind.u64.wrap ((r:Int)*4294967296)=(r:Int)*4294967296:=by rw [IntKind.wrap_u64];omega
     have hor2:bits .or .u64 ((r:Int)*4294967296) (u2:Int)=(q:Int):=by rw [or_hi' u2 r hu2 hr,hq]
     clear hTr2 hstop hp hq hgt
     go_wp2
     go_quiet (fail)
     clear hwp hwr hor2
     go_wp2
     go_roundw
     case rel=>exact ⟨x - 1,r+v1,_,by congr 1;omega,by go_num,by omega,⟨by omega,HTr2.out⟩,by first | rfl | rw [World.drewN_drewN]⟩
     case measure=>simp [intOf];omega
 case rest =>
  clear HST HRI
  obtain ⟨x,d,rfl,hxB,HX,rfl⟩:=hcut
  go_wp2
  clear hi1 hi2 hcv1 hcv2 hcu2
  go_loopw [9,10,11,12,87] (fun bv cv' _ _ iv wr=>∃(i c b':Nat) (D':List Nat),i≤m+2∧iv=.int .i64 i∧bv=.int .u32 b'∧cv'=.int .u64 c∧c<4294967296∧b'≤1∧Blk wr g (P++D') ∧
   Hid (D'.length=D.length∧D'.drop i=D.drop i∧val (D'.take i)+x*val (V.take i)=val (D.take i)+(c+b')*PW i)∧w.grownBy wr (some g)) (fun _ _ _ _ iv _=>m+2 - (intOf iv).toNat)
  case atStart=>exact ⟨0,0,0,D,by omega,rfl,rfl,rfl,by omega,by omega,HB.out,⟨rfl,rfl,by simp [PW_zero]⟩,⟨rfl,rfl,rfl,Nat.le_refl _,fun _ _ _=>rfl⟩⟩
  case round =>
   obtain ⟨i,c,b',D',hi,rfl,rfl,rfl,hc,hb',hD,hI,hG⟩:=hrel
   have hDl:m+3≤D'.length:=by rw [hI.out.1];exact HT.out.dl
   by_cases hin:i<m+2
   ·have hcx:=HV.out _ hG i hin
    have hy32:=HT.out.v32.getD i
    obtain ⟨y,hgy⟩:∃y,V.getD i 0=y:=⟨_,rfl⟩
    rw [hgy] at hcx hy32
    have hcl:=hD.cellAt HO.out (i:=i) (by omega)
    have hx32:D'.getD i 0<4294967296:=by
     have:=hD.1.getD (P.length+i)
     rwa [getD_append_left'] at this
    have hfz:=hD.frozen (o+i)
    obtain ⟨u,hgu⟩:∃u,D'.getD i 0=u:=⟨_,rfl⟩
    rw [hgu] at hcl hx32
    have hm1:x*y≤4294967295*4294967295:=Nat.mul_le_mul (by omega) (by omega)
    obtain ⟨q2,hq2⟩:∃q2,x*y=q2:=⟨_,rfl⟩
    rw [hq2] at hm1
    have hqm:(x:Int)*(y:Int)=(q2:Int):=by rw [←Int.natCast_mul,hq2]
    have HS:=Lib.hid (And.intro hgy (And.intro hgu hq2))
    clear hgy hgu hq2 hDl
    go_wp2_with (go_at_call 128;refine (sub32_any _ _ _ (by omega) (by omega) (by omega) (by omega) (by omega) (by omega) _).mono ?_;rintro e w' ⟨rfl,rfl⟩)
    clear hqm
    go_roundw
    case rel =>
     obtain ⟨h1,h2,h3⟩:=hI.out
     obtain ⟨s1,s2,s3⟩:=HS.out
     obtain ⟨lo,hlo⟩:∃lo,(c+q2)%4294967296=lo:=⟨_,rfl⟩
     obtain ⟨hi',hhi⟩:∃hi',(c+q2) / 4294967296=hi':=⟨_,rfl⟩
     obtain ⟨s',hs'⟩:∃s':Nat,((u:Int) - lo - b')%4294967296=s':=⟨(((u:Int) - lo - b')%4294967296).toNat,by omega⟩
     obtain ⟨bb,hbb⟩:∃bb:Nat,((lo:Int)+b' - u+4294967295) / 4294967296=bb:=⟨(((lo:Int)+b' - u+4294967295) / 4294967296).toNat,by omega⟩
     obtain ⟨t1,t2⟩:=take_step D D' V i x y u c b' s' hi' bb lo (by have:=HT.out.dl;omega) h1 h2 s2 s1 h3 (by rw [s3];omega) (sub_word u lo b' s' bb hs' hbb)
     have hloI:((c:Int)+q2)%4294967296=(lo:Int):=by omega
     rw [hloI]
     exact ⟨i+1,hi',bb,D'.set i s',by omega,by go_num,by rw [hbb],by congr 1;omega,by omega,by omega,hD.setAt HO.out i (by omega) (by omega) (by omega),
      ⟨by rw [List.length_set];exact h1,t2,t1⟩,grownBy_set hG _ _⟩
    case measure=>simp [intOf];omega
   ·obtain rfl:i=m+2:=by omega
    have hcl:=hD.cellAt HO.out (i:=m+2) (by omega)
    have hfz:=hD.frozen (o+(m+2))
    have ht32:D'.getD (m+2) 0<4294967296:=by
     have:=hD.1.getD (P.length+(m+2))
     rwa [getD_append_left'] at this
    obtain ⟨t,hgt⟩:∃t,D'.getD (m+2) 0=t:=⟨_,rfl⟩
    rw [hgt] at hcl ht32
    have HGT:=Lib.hid hgt
    clear hgt
    have hxl:(x:Int)<4294967296:=by omega
    by_cases hbb:t<c+b'
    ·have hq0:(((c:Int)+b' - t+4294967295) / 4294967296==0)=false:=by simp;omega
     obtain ⟨s',hs'⟩:∃s':Nat,((t:Int) - c - b')%4294967296=s':=⟨(((t:Int) - c - b')%4294967296).toNat,by omega⟩
     have hs32:s'<4294967296:=by omega
     obtain ⟨E,hE⟩:∃E,D'.set (m+2) s'=E:=⟨_,rfl⟩
     obtain ⟨Q,hQ⟩:∃Q,PW (m+2)=Q:=⟨_,rfl⟩
     have hEl:E.length=D.length:=by rw [←hE,List.length_set];exact hI.out.1
     have hEf:val (E.take (m+3))+x*val V=val D+Q*4294967296∧E.drop (m+3)=D.drop (m+3):=by
      obtain ⟨h1,h2,h3⟩:=hI.out
      have hl:=HT.out.dl
      obtain ⟨t1,t2⟩:=take_last (s:=s') (b':=1) (Q:=Q) hQ HT.out.vl (by omega) h1 h2 HGT.out h3 (by omega)
      exact take_over HT.out hE t1 t2
     have hE32:W32 E:=by
      rw [←hE]
      refine W32.set ?_ _ hs32
      intro z hz
      exact hD.1 z (List.mem_append_right P hz)
     have hx0:0<x:=over_pos hQ hE32 (by have:=HT.out.dl;omega) hEf.1
     have HE:=Lib.hid (And.intro hEl (And.intro hEf hE32))
     have hBE:∀wx,wx=wr.setCell ⟨g,o+(m+2),none⟩ (.int .u32 (((t:Int) - c - b')%4294967296))→Blk wx g (P++E):=fun wx e=>by
      rw [e,←hE];exact hD.setAt HO.out (m+2) (by omega) (by omega) (by omega)
     have HBE:=Lib.hid hBE
     have HQ:=Lib.hid hQ
     have HsI:=Lib.hid hs'
     clear hEl hEf hE32 hBE hQ hs' hE hbb hDl
     go_wp2_with (go_at_call 128;refine (sub32_any _ _ _ (by omega) (by omega) (by omega) (by omega) (by omega) (by omega) _).mono ?_;rintro e w' ⟨rfl,rfl⟩)
     obtain ⟨wo,rfl⟩:∃wo:World,wo=wr:=⟨_,rfl⟩
     go_loopw [13,14,15,135] (fun ov _ _ jv wr=>∃(j cc:Nat) (F:List Nat),j≤m+2∧jv=.int .i64 j∧ov=.int .u32 cc∧cc≤1∧Blk wr g (P++F) ∧
      Hid (F.length=E.length∧F.drop j=E.drop j∧val (F.take j)+cc*PW j=val (E.take j)+val (V.take j))∧w.grownBy wr (some g)) (fun _ _ _ jv _=>m+2 - (intOf jv).toNat)
     case atStart=>exact ⟨0,0,E,by omega,rfl,rfl,by omega,HBE.out _ rfl,⟨rfl,rfl,by simp [PW_zero]⟩,grownBy_set hG _ _⟩
     case round =>
      clear hcl hfz hD hq0
      obtain ⟨j,cc,F,hj,rfl,rfl,hcc,hF,hI3,hG3⟩:=hrel
      have hFl:m+3≤F.length:=by rw [hI3.out.1,HE.out.1];exact HT.out.dl
      have hcl:=hF.cellAt HO.out (i:=j) (by omega)
      have hfz:=hF.frozen (o+j)
      have hx32:F.getD j 0<4294967296:=by
       have:=hF.1.getD (P.length+j)
       rwa [getD_append_left'] at this
      obtain ⟨u,hgu⟩:∃u,F.getD j 0=u:=⟨_,rfl⟩
      rw [hgu] at hcl hx32
      have HGU:=Lib.hid hgu
      clear hgu hFl
      by_cases hjn:j<m+2
      ·have hcx:=HV.out _ hG3 j hjn
       have hy32:=HT.out.v32.getD j
       obtain ⟨y,hgy⟩:∃y,V.getD j 0=y:=⟨_,rfl⟩
       rw [hgy] at hcx hy32
       have HGY:=Lib.hid hgy
       clear hgy hin hi hc hb' hxl hs32 ht32
       go_wp2_with (go_at_call 117;refine (add32_any _ _ _ (by omega) (by omega) (by omega) (by omega) (by omega) (by omega) _).mono ?_;rintro e w' ⟨rfl,rfl⟩)
       go_roundw
       case rel =>
        obtain ⟨h1,h2,h3⟩:=hI3.out
        obtain ⟨t1,t2⟩:=give_step E F V j y u cc ((u+y+cc)%4294967296) ((u+y+cc) / 4294967296) (by have:=HT.out.dl;have:=HE.out.1;omega) h2 HGU.out HGY.out h3 (by omega)
        exact ⟨j+1,(u+y+cc) / 4294967296,F.set j ((u+y+cc)%4294967296),by omega,by go_num,by go_num,by omega,hF.setAt HO.out j (by omega) (by omega) (by omega),
         ⟨by rw [List.length_set];exact h1,t2,t1⟩,grownBy_set hG3 _ _⟩
       case measure=>simp [intOf];omega
      ·obtain rfl:j=m+2:=by omega
       go_wp2
       go_ret
       obtain ⟨h1,h2,h3⟩:=hI3.out
       have hF32:W32 F:=fun z hz=>hF.1 z (List.mem_append_right P hz)
       obtain ⟨f1,f2,f3⟩:=trial_over HT.out HX.out.2 HX.out.1 HQ.out HE.out.2.1.2 HE.out.1 HE.out.2.2 hF32 HE.out.2.1.1 h2 h1 h3 hcc
       rw [HGU.out] at f1
       exact ⟨ret_int (by rw [←f3];omega),F.set (m+2) ((u+cc)%4294967296),grownBy_set hG3 _ _,hF.setAt HO.out (m+2) (by omega) (by omega) (by omega),by rw [List.length_set,h1,HE.out.1],f1⟩
    ·have hq0:(((c:Int)+b' - t+4294967295) / 4294967296==0)=true:=by simp;omega
     have hq1:((c:Int)+b' - t+4294967295) / 4294967296=0:=by omega
     clear hDl hbb
     go_wp2_with (go_at_call 128;refine (sub32_any _ _ _ (by omega) (by omega) (by omega) (by omega) (by omega) (by omega) _).mono ?_;rintro e w' ⟨rfl,rfl⟩)
     go_ret
     obtain ⟨h1,h2,h3⟩:=hI.out
     obtain ⟨s',hs'⟩:∃s':Nat,((t:Int) - c - b')%4294967296=s':=⟨(((t:Int) - c - b')%4294967296).toNat,by omega⟩
     obtain ⟨f1,f2⟩:=fit_end (s:=s') HT.out HX.out.2 h1 h2 HGT.out h3 (by omega)
     exact ⟨ret_int (by rw [←f2]),D'.set (m+2) s',grownBy_set hG _ _,hD.setAt HO.out (m+2) (by omega) (by omega) (by omega),by rw [List.length_set];exact h1,f1⟩
end Go.Proofs.YtigmpifjcijdbaaGreatDoor
end
