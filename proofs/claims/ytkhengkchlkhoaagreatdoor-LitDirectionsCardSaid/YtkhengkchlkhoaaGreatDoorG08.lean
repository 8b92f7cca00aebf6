/- The document's own naturals: Cmp, Plus, Minus. -/
import Derived.Test.YtkhengkchlkhoaaGreatDoorG07
namespace Go.Proofs.YtkhengkchlkhoaaGreatDoor
set_option linter.unusedVariables false
set_option linter.unusedSimpArgs false
open Go.RowKit Verge
section
variable (A:Option Addr) (n c:Nat) (X:List Nat) (A':Option Addr) (n' c':Nat) (Y:List Nat) (w:World) (h:Rd w A X) (hn:X.length=n) (h':Rd w A' Y) (hn':Y.length=n')
include h hn h' hn'
set_option maxHeartbeats 1000000 in
theorem rcmp_any (hm:n≤140737488355328) (hm':n'≤140737488355328):Calls Tryz.prog 23 #[.slice A n c,.slice A' n' c'] w fun e w'=>e=.returned (.int .i64 (cmp (val X) (val Y)))∧∃k,w.drewN k=w':=by
 have hle:=wl_le X
 have hle':=wl_le Y
 rcases Nat.lt_trichotomy (wl X) (wl Y) with hlt | heq | hgt
 ·rw [cmp_lt (val_lt_of_wl h.1 h'.1 hlt)]
  have HN:=Lib.hid (And.intro hn hn');clear hn hn'
  go_enter Tryz.func23,Tryz.ntmps23
  go_wp2_with fail
  refine (rwords_any A n c X _ h HN.out.1 hm).mono ?_
  rintro e w' ⟨rfl,rfl⟩
  go_wp2_with fail
  refine (rwords_any A' n' c' Y _ h' HN.out.2 hm').mono ?_
  rintro e w' ⟨rfl,rfl⟩
  go_wp2
  go_ret
  exact ⟨rfl,0,rfl⟩
 ·have W1:=fun W hW=>rwords_any A n c X W hW hn hm
  have W2:=fun W hW=>rwords_any A' n' c' Y W hW hn' hm'
  have hlx:=length_norm X
  have hly:=length_norm Y
  rw [←heq] at hly hle' W2
  have hcx:∀k,k<wl X→∃b o,A=some ⟨b,o,none⟩∧w.cell? ⟨b,o+k,none⟩=some (.int .u32 (((norm X).getD k 0:Nat):Int)):=fun k hk=>by
   rw [norm_getD X k hk];exact h.cell (by omega)
  have hcy:∀k,k<wl X→∃b o,A'=some ⟨b,o,none⟩∧w.cell? ⟨b,o+k,none⟩=some (.int .u32 (((norm Y).getD k 0:Nat):Int)):=fun k hk=>by
   rw [norm_getD Y k (by omega)];exact h'.cell (by omega)
  have hmn:wl X≤n:=by omega
  have hmn':wl X≤n':=by omega
  have hx32:=w32_norm h.1
  have hy32:=w32_norm h'.1
  have hvx:=val_norm X
  have hvy:=val_norm Y
  rw [←hvx,←hvy]
  clear hvx hvy
  generalize norm X=XX at *
  generalize norm Y=YY at *
  generalize wl X=m at *
  have HX:=Lib.hid (And.intro hx32 (And.intro hlx (And.intro hy32 hly)))
  have HCX:=Lib.hid hcx
  have HCY:=Lib.hid hcy
  have HW1:=Lib.hid W1
  have HW2:=Lib.hid W2
  clear hx32 hlx hy32 hly hcx hcy W1 W2 heq hle hle' hn hn'
  go_enter Tryz.func23,Tryz.ntmps23
  go_wp2_with fail
  refine (HW1.out _ h).mono ?_
  rintro e w' ⟨rfl,rfl⟩
  go_wp2_with fail
  refine (HW2.out _ h').mono ?_
  rintro e w' ⟨rfl,rfl⟩
  go_wp2
  go_loopw [7] (fun iv wr=>∃k:Nat,k≤m∧iv=.int .i64 ((k:Int) - 1)∧Hid (XX.drop k=YY.drop k)∧∃d,wr=w.drewN d) (fun iv _=>(intOf iv+1).toNat)
  case atStart=>exact ⟨m,Nat.le_refl _,rfl,by
   obtain ⟨_,h1,_,h2⟩:=HX.out
   show XX.drop m=YY.drop m
   rw [List.drop_of_length_le (by omega),List.drop_of_length_le (by omega)],0,rfl⟩
  case round =>
   obtain ⟨k,hk,hiv,hd,d,rfl⟩:=hrel
   rcases k with _ | j
   ·obtain rfl:u7=.int .i64 (-1):=by rw [hiv];rfl
    clear hiv
    go_wp2
    go_ret
    have he:XX=YY:=by simpa using hd.out
    exact ⟨ret_int (by rw [he,cmp_eq]),_,rfl⟩
   ·obtain rfl:u7=.int .i64 (j:Int):=by rw [hiv];congr 1;omega
    clear hiv
    obtain ⟨b,o,rfl,hc⟩:=HCX.out j (by omega)
    obtain ⟨b',o',rfl,hc'⟩:=HCY.out j (by omega)
    have hbx:=(HX.out).1.getD j
    have hby:=(HX.out).2.2.1.getD j
    generalize hgx:XX.getD j 0=x at *
    generalize hgy:YY.getD j 0=y at *
    have HGX:=Lib.hid (And.intro hgx hgy);clear hgx hgy
    have hj1:(j:Int)<(n:Int):=by omega
    have hj2:(j:Int)<(n':Int):=by omega
    have hj0:(0:Int)≤(j:Int):=by omega
    rcases Nat.lt_trichotomy x y with hlt | rfl | hgt
    ·have hb:decide ((x:Int)<(y:Int))=true:=decide_eq_true (by omega)
     go_wp2
     go_quiet (fail)
     go_wp2
     go_ret
     obtain ⟨h1,h2,h3,h4⟩:=HX.out
     exact ⟨ret_int (cmp_lt (val_lt_of_top h1 h3 j (by omega) (by omega) hd.out (by rw [HGX.out.1,HGX.out.2];exact hlt))).symm,by first | exact ⟨_,rfl⟩ | exact ⟨_,(World.drewN_drewN ..).symm⟩ | exact ⟨_,(by rw [World.drewN_drewN,World.drewN_drewN])⟩⟩
    ·go_wp2
     go_quiet (fail)
     go_wp2
     go_quiet (fail)
     go_wp2
     go_roundw
     case rel=>exact ⟨j,by omega,rfl,by
      obtain ⟨h1,h2,h3,h4⟩:=HX.out
      exact drop_ext j (by omega) hd.out (by rw [HGX.out.1,HGX.out.2]),_,rfl⟩
     case measure=>simp [intOf]
    ·have hb:decide ((x:Int)<(y:Int))=false:=decide_eq_false (by omega)
     have hb2:decide ((y:Int)<(x:Int))=true:=decide_eq_true (by omega)
     go_wp2
     go_quiet (fail)
     go_wp2
     go_quiet (fail)
     go_wp2
     go_ret
     obtain ⟨h1,h2,h3,h4⟩:=HX.out
     exact ⟨ret_int (cmp_gt (val_lt_of_top h3 h1 j (by omega) (by omega) hd.out.symm (by rw [HGX.out.1,HGX.out.2];exact hgt))).symm,by first | exact ⟨_,rfl⟩ | exact ⟨_,(World.drewN_drewN ..).symm⟩ | exact ⟨_,(by rw [World.drewN_drewN,World.drewN_drewN])⟩⟩
 ·rw [cmp_gt (val_lt_of_wl h'.1 h.1 hgt)]
  have HN:=Lib.hid (And.intro hn hn');clear hn hn'
  go_enter Tryz.func23,Tryz.ntmps23
  go_wp2_with fail
  refine (rwords_any A n c X _ h HN.out.1 hm).mono ?_
  rintro e w' ⟨rfl,rfl⟩
  go_wp2_with fail
  refine (rwords_any A' n' c' Y _ h' HN.out.2 hm').mono ?_
  rintro e w' ⟨rfl,rfl⟩
  go_wp2
  go_ret
  exact ⟨rfl,0,rfl⟩
end
end Go.Proofs.YtkhengkchlkhoaaGreatDoor
namespace Go.Proofs.YtkhengkchlkhoaaGreatDoor
set_option linter.unusedVariables false
set_option linter.unusedSimpArgs false
open Go.RowKit Verge
set_option maxHeartbeats 2000000 in
theorem rtimes_any (A:Option Addr) (n0 c:Nat) (X0:List Nat) (A':Option Addr) (m0 c':Nat) (Y0:List Nat) (w:World)
  (h0:Rd w A X0) (hn0:X0.length=n0) (h0':Rd w A' Y0) (hn0':Y0.length=m0) (hb1:n0≤140737488355328) (hb2:m0≤140737488355328) (hm0:wl X0+wl Y0≤35184372088800) :
  Calls Tryz.prog 20 #[.slice A n0 c,.slice A' m0 c'] w (Doc w (val X0*val Y0)):=by
 have hle:=wl_le X0
 have hle':=wl_le Y0
 have W1:=Lib.hid (fun W hW=>rwords_any A n0 c X0 W hW hn0 (by omega))
 have W2:=Lib.hid (fun W hW=>rwords_any A' m0 c' Y0 W hW hn0' (by omega))
 have h:Rd w A (norm X0):=h0.take (wl X0)
 have h':Rd w A' (norm Y0):=h0'.take (wl Y0)
 have hn:=length_norm X0
 have hn':=length_norm Y0
 rw [←val_norm X0,←val_norm Y0]
 have hlim:(wl X0:Int)≤(n0:Int):=by omega
 have hlim':(wl Y0:Int)≤(m0:Int):=by omega
 have hm:wl X0+wl Y0≤35184372088800:=hm0
 clear hm0
 generalize norm X0=X at *
 generalize norm Y0=Y at *
 generalize wl X0=n at *
 generalize wl Y0=m at *
 have hmk:∀W:World,(Instr.makeSlice 23 (.int .i64 ((n:Int)+(m:Int))) (.int .i64 ((n:Int)+(m:Int)))).run Tryz.prog W=.ok (.slice (some ⟨W.heap.size,0,none⟩) (n+m) (n+m)) (W.alloc (.cells (u32s (List.replicate (n+m) 0)).toArray 50)):=
  fun W=>run_make_u32 (n+m) (by omega) W
 have hR1:=Lib.hid (fun W (hb:Below w.heap.size w W)=>h.below hb)
 have hR2:=Lib.hid (fun W (hb:Below w.heap.size w W)=>h'.below hb)
 have HN:=Lib.hid (And.intro hn hn')
 have H0:=Lib.hid (And.intro h0 h0')
 clear h h' hn hn' h0 h0' hn0 hn0' hle hle'
 go_enter Tryz.func20,Tryz.ntmps20
 go_wp2_with fail
 refine (W1.out _ H0.out.1).mono ?_
 rintro e w' ⟨rfl,rfl⟩
 go_wp2_with fail
 refine (W2.out _ H0.out.2).mono ?_
 rintro e w' ⟨rfl,rfl⟩
 go_wp2
 clear hmk
 go_loopw [8,9,10,11] (fun jv _ _ _ wr=>∃(j:Nat) (L:List Nat),j≤m∧jv=.int .i64 j∧Blk wr w.heap.size L ∧
  Hid (L.length=n+m∧val L=val X*val (Y.take j)∧∀p,j+n≤p→L.getD p 0=0)∧Below w.heap.size w wr) (fun jv _ _ _ _=>m - (intOf jv).toNat)
 case atStart=>exact ⟨0,List.replicate (n+m) 0,by omega,rfl,Blk.made w (n+m),⟨by simp,by rw [val_zeros];simp,fun p _=>getD_zeros _ _⟩,(Below.refl _ w).alloc (Nat.le_refl _) _⟩
 case round =>
  obtain ⟨j,L,hj,rfl,hL,hI,hb⟩:=hrel
  by_cases hjm:j<m
  ·obtain ⟨b,o,rfl,hcy⟩:=(hR2.out _ hb).cell (k:=j) (by rw [HN.out.2];exact hjm)
   have hjm0:(j:Int)<(m0:Int):=by omega
   have hy32:=(hR2.out _ hb).1.getD j
   obtain ⟨y,hgy⟩:∃y,Y.getD j 0=y:=⟨_,rfl⟩
   rw [hgy] at hcy hy32
   have HGY:=Lib.hid hgy;clear hgy
   by_cases hy0:y=0
   ·subst hy0
    go_wp2
    go_roundw
    case rel =>
     obtain ⟨h1,h2,h3⟩:=hI.out
     exact ⟨j+1,L,by omega,by go_num,hL,⟨h1,by rw [val_take_succ,HGY.out];simpa using h2,fun p hp=>h3 p (by omega)⟩,hb⟩
    case measure=>simp [intOf];omega
   ·have hyb:((y:Int)==0)=false:=by simpa using hy0
    go_wp2
    obtain ⟨wo,rfl⟩:∃wo:World,wo=wr:=⟨_,rfl⟩
    obtain ⟨V0,hV0⟩:∃V0,val L=V0:=⟨_,rfl⟩
    have HV0:=Lib.hid hV0;clear hV0
    go_loopw [10,11] (fun cv iv wr=>∃(i cc:Nat) (L':List Nat),i≤n∧iv=.int .i64 i∧cv=.int .u64 cc∧cc<4294967296∧Blk wr w.heap.size L' ∧
     Hid (L'.length=n+m∧val L'+cc*4294967296^(j+i)=V0+y*val (X.take i)*4294967296^j∧∀p,j+n≤p→L'.getD p 0=0)∧Below w.heap.size w wr) (fun _ iv _=>n - (intOf iv).toNat)
    case atStart=>exact ⟨0,0,L,by omega,rfl,rfl,by omega,hL,⟨hI.out.1,by simp [HV0.out],hI.out.2.2⟩,hb⟩
    case round =>
     clear hb hL hcy
     obtain ⟨i,cc,L',hi,rfl,rfl,hcc,hL',hI',hb⟩:=hrel
     have hlen:=hI'.out.1
     have hcl:=hL'.cell (i:=i+j) (by omega)
     have hfz:=hL'.frozen (i+j)
     have hu32:=hL'.1.getD (i+j)
     obtain ⟨u,hgu⟩:∃u,L'.getD (i+j) 0=u:=⟨_,rfl⟩
     rw [hgu] at hcl hu32
     have HGU:=Lib.hid hgu;clear hgu
     clear hlen
     by_cases hin:i<n
     ·obtain ⟨b2,o2,rfl,hcx⟩:=(hR1.out _ hb).cell (k:=i) (by rw [HN.out.1];exact hin)
      have hin0:(i:Int)<(n0:Int):=by omega
      have hx32:=(hR1.out _ hb).1.getD i
      obtain ⟨x,hgx⟩:∃x,X.getD i 0=x:=⟨_,rfl⟩
      rw [hgx] at hcx hx32
      have HGX:=Lib.hid hgx;clear hgx
      have hmul:x*y≤4294967295*4294967295:=Nat.mul_le_mul (by omega) (by omega)
      obtain ⟨q,hq⟩:∃q,x*y=q:=⟨_,rfl⟩
      have hqI:(x:Int)*(y:Int)=(q:Int):=by rw [←hq];simp
      rw [hq] at hmul
      have HQ:=Lib.hid hq;clear hq
      obtain ⟨s,hs⟩:∃s,cc+u+q=s:=⟨_,rfl⟩
      have hsb:s<18446744073709551616:=by omega
      have hmk:=mask64 s hsb
      have hmk':Go.bits .and .u64 (s:Int) 4294967295=(s:Int)%4294967296:=by rw [hmk];omega
      clear hmk
      have e1:IntKind.i64.wrap ((i:Int)+(j:Int))=(i:Int)+(j:Int):=by rw [IntKind.wrap_i64];omega
      have e2:IntKind.u64.wrap ((cc:Int)+(u:Int))=(cc:Int)+(u:Int):=by rw [IntKind.wrap_u64];omega
      have e3:IntKind.u64.wrap ((x:Int)*(y:Int))=(q:Int):=by rw [hqI,IntKind.wrap_u64];omega
      have e4:IntKind.u64.wrap ((cc:Int)+(u:Int)+(q:Int))=(s:Int):=by rw [IntKind.wrap_u64];omega
      have e5:((i:Int)+(j:Int)).toNat=i+j:=by omega
      have e6:(0:Int)≤(i:Int)+(j:Int):=by omega
      have e7:(i:Int)+(j:Int)<((n+m:Nat):Int):=by omega
      have e8:(i:Int)+(j:Int)<(n:Int)+(m:Int):=by omega
      have HS:=Lib.hid hs;clear hs
      go_wp2
      go_quiet (fail)
      clear e1 e2 e3 e4 e5 e6 e7 e8
      go_wp2
      go_roundw
      case rel =>
       obtain ⟨h1,h2,h3⟩:=hI'.out
       have hst:=mul_inner L' X j i cc u (s%4294967296) (s / 4294967296) V0 x y (by omega) (by rw [Nat.add_comm];exact HGU.out) HGX.out h2 (by rw [HQ.out];have:=HS.out;omega)
       refine ⟨i+1,s / 4294967296,L'.set (i+j) (s%4294967296),by omega,by go_num,by congr 1 <;> omega,by omega,(hL'.setI (i+j) (by omega) (by omega) (by omega)).drewN _,
        ⟨by rw [List.length_set];exact h1,?_,fun p hp=>by rw [Verge.getD_set_ne _ _ _ _ (by omega)];exact h3 p hp⟩,below_drewN (hb.setCell (Nat.le_refl _) _) _⟩
       rw [Nat.add_comm i j];exact hst
      case measure=>simp [intOf];omega
     ·obtain rfl:i=n:=by omega
      rw [Nat.add_comm i j] at hcl hfz
      go_wp2
      go_roundw
      case rel =>
       obtain ⟨h1,h2,h3⟩:=hI'.out
       have hst:=mul_outer L' X Y j i cc V0 y (by omega) (h3 _ (Nat.le_refl _)) HN.out.1 HGY.out (by rw [←HV0.out];exact hI.out.2.1) h2
       exact ⟨j+1,L'.set (j+i) cc,by omega,by go_num,hL'.setI (j+i) (by omega) (by omega) (by omega),
        ⟨by rw [List.length_set];exact h1,hst,fun p hp=>by rw [Verge.getD_set_ne _ _ _ _ (by omega)];exact h3 p (by omega)⟩,hb.setCell (Nat.le_refl _) _⟩
      case measure=>simp [intOf];omega
  ·obtain rfl:j=m:=by omega
   have hv:val L=val X*val Y:=by
    rw [hI.out.2.1,List.take_of_length_le (by have:=HN.out.2;omega)]
   have hNr:=rnorm_any _ (n+j) (n+j) L wr hL.rd hI.out.1 (by omega)
   rw [hv] at hNr
   have HNr:=Lib.hid hNr
   clear hv hNr
   go_wp2_with (go_at_call 31;refine HNr.out.mono ?_;rintro e w' ⟨A2,c2,rfl,h1,h2,h3,h4⟩)
   go_ret
   exact ⟨A2,c2,rfl,h1,h2,h3,hb.trans (h4.mono hb.size)⟩
end Go.Proofs.YtkhengkchlkhoaaGreatDoor
