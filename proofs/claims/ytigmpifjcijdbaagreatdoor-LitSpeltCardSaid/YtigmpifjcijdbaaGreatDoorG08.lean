/- The document's own naturals: Cmp, Plus, Minus. -/
import Derived.Test.YtigmpifjcijdbaaGreatDoorG07
import Derived.Test.YtigmpifjcijdbaaGreatDoorG06
section
namespace Go.Proofs.YtigmpifjcijdbaaGreatDoor
set_option linter.unusedVariables false
set_option linter.unusedSimpArgs false
open Go.RowKit Verge
section
variable (A:Option Addr) (n c:Nat) (X:List Nat) (A':Option Addr) (n' c':Nat) (Y:List Nat) (w:World) (h:Rd w A X) (hn:X.length=n) (h':Rd w A' Y) (hn':Y.length=n')
include h hn h' hn'
set_option maxHeartbeats 1000000 in
theorem rcmp_any (hm:n≤140737488355328) (hm':n'≤140737488355328):Calls Tryz.prog 23 #[.slice A n c,.slice A' n' c'] w fun e w'=>e=.returned (.int .i64 (cmp (val X) (val Y)))∧∃k,w.drewN k=w':=by
 have hle:=wl_le X
 have hle':=wl_le Y
 rcases Nat.lt_trichotomy (wl X) (wl Y) with hlt | heq | hgt
 ·rw [cmp_lt (val_lt_of_wl h.1 h'.1 hlt)]
  have HN:=Lib.hid (And.intro hn hn');clear hn hn'
  go_enter Tryz.func23,Tryz.ntmps23
  go_wp2_with fail
  refine (rwords_any A n c X _ h HN.out.1 hm).mono ?_
  rintro e w' ⟨rfl,rfl⟩
  go_wp2_with fail
  refine (rwords_any A' n' c' Y _ h' HN.out.2 hm').mono ?_
  rintro e w' ⟨rfl,rfl⟩
  go_wp2
  go_ret
  exact ⟨rfl,0,rfl⟩
 ·have W1:=fun W hW=>rwords_any A n c X W hW hn hm
  have W2:=fun W hW=>rwords_any A' n' c' Y W hW hn' hm'
  have hlx:=length_norm X
  have hly:=length_norm Y
  rw [←heq] at hly hle' W2
  have hcx:∀k,k<wl X→∃b o,A=some ⟨b,o,none⟩∧w.cell? ⟨b,o+k,none⟩=some (.int .u32 (((norm X).getD k 0:Nat):Int)):=fun k hk=>by
   rw [norm_getD X k hk];exact h.cell (by omega)
  have hcy:∀k,k<wl X→∃b o,A'=some ⟨b,o,none⟩∧w.cell? ⟨b,o+k,none⟩=some (.int .u32 (((norm Y).getD k 0:Nat):Int)):=fun k hk=>by
   rw [norm_getD Y k (by omega)];exact h'.cell (by omega)
  have hmn:wl X≤n:=by omega
  have hmn':wl X≤n':=by omega
  have hx32:=w32_norm h.1
  have hy32:=w32_norm h'.1
  have hvx:=val_norm X
  have hvy:=val_norm Y
  rw [←hvx,←hvy]
  clear hvx hvy
  generalize norm X=XX at *
  generalize norm Y=YY at *
  generalize wl X=m at *
  have HX:=Lib.hid (And.intro hx32 (And.intro hlx (And.intro hy32 hly)))
  have HCX:=Lib.hid hcx
  have HCY:=Lib.hid hcy
  have HW1:=Lib.hid W1
  have HW2:=Lib.hid W2
  clear hx32 hlx hy32 hly hcx hcy W1 W2 heq hle hle' hn hn'
  go_enter Tryz.func23,Tryz.ntmps23
  go_wp2_with fail
  refine (HW1.out _ h).mono ?_
  rintro e w' ⟨rfl,rfl⟩
  go_wp2_with fail
  refine (HW2.out _ h').mono ?_
  rintro e w' ⟨rfl,rfl⟩
  go_wp2
  go_loopw [7] (fun iv wr=>∃k:Nat,k≤m∧iv=.int .i64 ((k:Int) - 1)∧Hid (XX.drop k=YY.drop k)∧∃d,wr=w.drewN d) (fun iv _=>(intOf iv+1).toNat)
  case atStart=>exact ⟨m,Nat.le_refl _,rfl,by
   obtain ⟨_,h1,_,h2⟩:=HX.out
   show XX.drop m=YY.drop m
   rw [List.drop_of_length_le (by omega),List.drop_of_length_le (by omega)],0,rfl⟩
  case round =>
   obtain ⟨k,hk,hiv,hd,d,rfl⟩:=hrel
   rcases k with _ | j
   ·obtain rfl:u7=.int .i64 (-1):=by rw [hiv];rfl
    clear hiv
    go_wp2
    go_ret
    have he:XX=YY:=by simpa using hd.out
    exact ⟨ret_int (by rw [he,cmp_eq]),_,rfl⟩
   ·obtain rfl:u7=.int .i64 (j:Int):=by rw [hiv];congr 1;omega
    clear hiv
    obtain ⟨b,o,rfl,hc⟩:=HCX.out j (by omega)
    obtain ⟨b',o',rfl,hc'⟩:=HCY.out j (by omega)
    have hbx:=(HX.out).1.getD j
    have hby:=(HX.out).2.2.1.getD j
    generalize hgx:XX.getD j 0=x at *
    generalize hgy:YY.getD j 0=y at *
    have HGX:=Lib.hid (And.intro hgx hgy);clear hgx hgy
    have hj1:(j:Int)<(n:Int):=by omega
    have hj2:(j:Int)<(n':Int):=by omega
    have hj0:(0:Int)≤(j:Int):=by omega
    rcases Nat.lt_trichotomy x y with hlt | rfl | hgt
    ·have hb:decide ((x:Int)<(y:Int))=true:=decide_eq_true (by omega)
     go_wp2
     go_quiet (fail)
     go_wp2
     go_ret
     obtain ⟨h1,h2,h3,h4⟩:=HX.out
     exact ⟨ret_int (cmp_lt (val_lt_of_top h1 h3 j (by omega) (by omega) hd.out (by rw [HGX.out.1,HGX.out.2];exact hlt))).symm,by first | exact ⟨_,rfl⟩ | exact ⟨_,(World.drewN_drewN ..).symm⟩ | exact ⟨_,(by rw [World.drewN_drewN,World.drewN_drewN])⟩⟩
    ·go_wp2
     go_quiet (fail)
     go_wp2
     go_quiet (fail)
     go_wp2
     go_roundw
     case rel=>exact ⟨j,by omega,rfl,by
      obtain ⟨h1,h2,h3,h4⟩:=HX.out
      exact drop_ext j (by omega) hd.out (by rw [HGX.out.1,HGX.out.2]),_,rfl⟩
     case measure=>simp [intOf]
    ·have hb:decide ((x:Int)<(y:Int))=false:=decide_eq_false (by omega)
     have hb2:decide ((y:Int)<(x:Int))=true:=decide_eq_true (by omega)
     go_wp2
     go_quiet (fail)
     go_wp2
     go_quiet (fail)
     go_wp2
     go_ret
     obtain ⟨h1,h2,h3,h4⟩:=HX.out
     exact ⟨ret_int (cmp_gt (val_lt_of_top h3 h1 j (by omega) (by omega) hd.out.symm (by rw [HGX.out.1,HGX.out.2];exact hgt))).symm,by first | exact ⟨_,rfl⟩ | exact ⟨_,(World.drewN_drewN ..).symm⟩ | exact ⟨_,(by rw [World.drewN_drewN,World.drewN_drewN])⟩⟩
 ·rw [cmp_gt (val_lt_of_wl h'.1 h.1 hgt)]
  have HN:=Lib.hid (And.intro hn hn');clear hn hn'
  go_enter Tryz.func23,Tryz.ntmps23
  go_wp2_with fail
  refine (rwords_any A n c X _ h HN.out.1 hm).mono ?_
  rintro e w' ⟨rfl,rfl⟩
  go_wp2_with fail
  refine (rwords_any A' n' c' Y _ h' HN.out.2 hm').mono ?_
  rintro e w' ⟨rfl,rfl⟩
  go_wp2
  go_ret
  exact ⟨rfl,0,rfl⟩
end
end Go.Proofs.YtigmpifjcijdbaaGreatDoor
namespace Go.Proofs.YtigmpifjcijdbaaGreatDoor
set_option linter.unusedVariables false
set_option linter.unusedSimpArgs false
open Go.RowKit Verge
set_option maxHeartbeats 2000000 in
theorem rtimes_any (A:Option Addr) (n0 c:Nat) (X0:List Nat) (A':Option Addr) (m0 c':Nat) (Y0:List Nat) (w:World)
  (h0:Rd w A X0) (hn0:X0.length=n0) (h0':Rd w A' Y0) (hn0':Y0.length=m0) (hb1:n0≤140737488355328) (hb2:m0≤140737488355328) (hm0:wl X0+wl Y0≤35184372088800) :
  Calls Tryz.prog 21 #[.slice A n0 c,.slice A' m0 c'] w (Doc w (val X0*val Y0)):=by
 have hle:=wl_le X0
 have hle':=wl_le Y0
 have W1:=Lib.hid (fun W hW=>rwords_any A n0 c X0 W hW hn0 (by omega))
 have W2:=Lib.hid (fun W hW=>rwords_any A' m0 c' Y0 W hW hn0' (by omega))
 have h:Rd w A (norm X0):=h0.take (wl X0)
 have h':Rd w A' (norm Y0):=h0'.take (wl Y0)
 have hn:=length_norm X0
 have hn':=length_norm Y0
 rw [←val_norm X0,←val_norm Y0]
 have hlim:(wl X0:Int)≤(n0:Int):=by omega
 have hlim':(wl Y0:Int)≤(m0:Int):=by omega
 have hm:wl X0+wl Y0≤35184372088800:=hm0
 clear hm0
 generalize norm X0=X at *
 generalize norm Y0=Y at *
 generalize wl X0=n at *
 generalize wl Y0=m at *
 have hmk:∀W:World,(Instr.makeSlice 23 (.int .i64 ((n:Int)+(m:Int))) (.int .i64 ((n:Int)+(m:Int)))).run Tryz.prog W=.ok (.slice (some ⟨W.heap.size,0,none⟩) (n+m) (n+m)) (W.alloc (.cells (u32s (List.replicate (n+m) 0)).toArray 52)):=
  fun W=>run_make_u32 (n+m) (by omega) W
 have hR1:=Lib.hid (fun W (hb:Below w.heap.size w W)=>h.below hb)
 have hR2:=Lib.hid (fun W (hb:Below w.heap.size w W)=>h'.below hb)
 have HN:=Lib.hid (And.intro hn hn')
 have H0:=Lib.hid (And.intro h0 h0')
 clear h h' hn hn' h0 h0' hn0 hn0' hle hle'
 go_enter Tryz.func21,Tryz.ntmps21
 go_wp2_with fail
 refine (W1.out _ H0.out.1).mono ?_
 rintro e w' ⟨rfl,rfl⟩
 go_wp2_with fail
 refine (W2.out _ H0.out.2).mono ?_
 rintro e w' ⟨rfl,rfl⟩
 go_wp2
 clear hmk
 go_loopw [8,9,10,11] (fun jv _ _ _ wr=>∃(j:Nat) (L:List Nat),j≤m∧jv=.int .i64 j∧Blk wr w.heap.size L ∧
  Hid (L.length=n+m∧val L=val X*val (Y.take j)∧∀p,j+n≤p→L.getD p 0=0)∧Below w.heap.size w wr) (fun jv _ _ _ _=>m - (intOf jv).toNat)
 case atStart=>exact ⟨0,List.replicate (n+m) 0,by omega,rfl,Blk.made w (n+m),⟨by simp,by rw [val_zeros];simp,fun p _=>getD_zeros _ _⟩,(Below.refl _ w).alloc (Nat.le_refl _) _⟩
 case round =>
  obtain ⟨j,L,hj,rfl,hL,hI,hb⟩:=hrel
  by_cases hjm:j<m
  ·obtain ⟨b,o,rfl,hcy⟩:=(hR2.out _ hb).cell (k:=j) (by rw [HN.out.2];exact hjm)
   have hjm0:(j:Int)<(m0:Int):=by omega
   have hy32:=(hR2.out _ hb).1.getD j
   obtain ⟨y,hgy⟩:∃y,Y.getD j 0=y:=⟨_,rfl⟩
   rw [hgy] at hcy hy32
   have HGY:=Lib.hid hgy;clear hgy
   by_cases hy0:y=0
   ·subst hy0
    go_wp2
    go_roundw
    case rel =>
     obtain ⟨h1,h2,h3⟩:=hI.out
     exact ⟨j+1,L,by omega,by go_num,hL,⟨h1,by rw [val_take_succ,HGY.out];simpa using h2,fun p hp=>h3 p (by omega)⟩,hb⟩
    case measure=>simp [intOf];omega
   ·have hyb:((y:Int)==0)=false:=by simpa using hy0
    go_wp2
    obtain ⟨wo,rfl⟩:∃wo:World,wo=wr:=⟨_,rfl⟩
    obtain ⟨V0,hV0⟩:∃V0,val L=V0:=⟨_,rfl⟩
    have HV0:=Lib.hid hV0;clear hV0
    go_loopw [10,11] (fun cv iv wr=>∃(i cc:Nat) (L':List Nat),i≤n∧iv=.int .i64 i∧cv=.int .u64 cc∧cc<4294967296∧Blk wr w.heap.size L' ∧
     Hid (L'.length=n+m∧val L'+cc*4294967296^(j+i)=V0+y*val (X.take i)*4294967296^j∧∀p,j+n≤p→L'.getD p 0=0)∧Below w.heap.size w wr) (fun _ iv _=>n - (intOf iv).toNat)
    case atStart=>exact ⟨0,0,L,by omega,rfl,rfl,by omega,hL,⟨hI.out.1,by simp [HV0.out],hI.out.2.2⟩,hb⟩
    case round =>
     clear hb hL hcy
     obtain ⟨i,cc,L',hi,rfl,rfl,hcc,hL',hI',hb⟩:=hrel
     have hlen:=hI'.out.1
     have hcl:=hL'.cell (i:=i+j) (by omega)
     have hfz:=hL'.frozen (i+j)
     have hu32:=hL'.1.getD (i+j)
     obtain ⟨u,hgu⟩:∃u,L'.getD (i+j) 0=u:=⟨_,rfl⟩
     rw [hgu] at hcl hu32
     have HGU:=Lib.hid hgu;clear hgu
     clear hlen
     by_cases hin:i<n
     ·obtain ⟨b2,o2,rfl,hcx⟩:=(hR1.out _ hb).cell (k:=i) (by rw [HN.out.1];exact hin)
      have hin0:(i:Int)<(n0:Int):=by omega
      have hx32:=(hR1.out _ hb).1.getD i
      obtain ⟨x,hgx⟩:∃x,X.getD i 0=x:=⟨_,rfl⟩
      rw [hgx] at hcx hx32
      have HGX:=Lib.hid hgx;clear hgx
      have hmul:x*y≤4294967295*4294967295:=Nat.mul_le_mul (by omega) (by omega)
      obtain ⟨q,hq⟩:∃q,x*y=q:=⟨_,rfl⟩
      have hqI:(x:Int)*(y:Int)=(q:Int):=by rw [←hq];simp
      rw [hq] at hmul
      have HQ:=Lib.hid hq;clear hq
      obtain ⟨s,hs⟩:∃s,cc+u+q=s:=⟨_,rfl⟩
      have hsb:s<18446744073709551616:=by omega
      have hmk:=mask64 s hsb
      have hmk':Go.bits .and .u64 (s:Int) 4294967295=(s:Int)%4294967296:=by rw [hmk];omega
      clear hmk
      have e1:IntKind.i64.wrap ((i:Int)+(j:Int))=(i:Int)+(j:Int):=by rw [IntKind.wrap_i64];omega
      have e2:IntKind.u64.wrap ((cc:Int)+(u:Int))=(cc:Int)+(u:Int):=by rw [IntKind.wrap_u64];omega
      have e3:IntKind.u64.wrap ((x:Int)*(y:Int))=(q:Int):=by rw [hqI,IntKind.wrap_u64];omega
      have e4:IntKind.u64.wrap ((cc:Int)+(u:Int)+(q:Int))=(s:Int):=by rw [IntKind.wrap_u64];omega
      have e5:((i:Int)+(j:Int)).toNat=i+j:=by omega
      have e6:(0:Int)≤(i:Int)+(j:Int):=by omega
      have e7:(i:Int)+(j:Int)<((n+m:Nat):Int):=by omega
      have e8:(i:Int)+(j:Int)<(n:Int)+(m:Int):=by omega
      have HS:=Lib.hid hs;clear hs
      go_wp2
      go_quiet (fail)
      clear e1 e2 e3 e4 e5 e6 e7 e8
      go_wp2
      go_roundw
      case rel =>
       obtain ⟨h1,h2,h3⟩:=hI'.out
       have hst:=mul_inner L' X j i cc u (s%4294967296) (s / 4294967296) V0 x y (by omega) (by rw [Nat.add_comm];exact HGU.out) HGX.out h2 (by rw [HQ.out];have:=HS.out;omega)
       refine ⟨i+1,s / 4294967296,L'.set (i+j) (s%4294967296),by omega,by go_num,by congr 1 <;> omega,by omega,(hL'.setI (i+j) (by omega) (by omega) (by omega)).drewN _,
        ⟨by rw [List.length_set];exact h1,?_,fun p hp=>by rw [Verge.getD_set_ne _ _ _ _ (by omega)];exact h3 p hp⟩,below_drewN (hb.setCell (Nat.le_refl _) _) _⟩
       rw [Nat.add_comm i j];exact hst
      case measure=>simp [intOf];omega
     ·obtain rfl:i=n:=by omega
      rw [Nat.add_comm i j] at hcl hfz
      go_wp2
      go_roundw
      case rel =>
       obtain ⟨h1,h2,h3⟩:=hI'.out
       have hst:=mul_outer L' X Y j i cc V0 y (by omega) (h3 _ (Nat.le_refl _)) HN.out.1 HGY.out (by rw [←HV0.out];exact hI.out.2.1) h2
       exact ⟨j+1,L'.set (j+i) cc,by omega,by go_num,hL'.setI (j+i) (by omega) (by omega) (by omega),
        ⟨by rw [List.length_set];exact h1,hst,fun p hp=>by rw [Verge.getD_set_ne _ _ _ _ (by omega)];exact h3 p (by omega)⟩,hb.setCell (Nat.le_refl _) _⟩
      case measure=>simp [intOf];omega
  ·obtain rfl:j=m:=by omega
   have hv:val L=val X*val Y:=by
    rw [hI.out.2.1,List.take_of_length_le (by have:=HN.out.2;omega)]
   have hNr:=rnorm_any _ (n+j) (n+j) L wr hL.rd hI.out.1 (by omega)
   rw [hv] at hNr
   have HNr:=Lib.hid hNr
   clear hv hNr
   go_wp2_with (go_at_call 34;refine HNr.out.mono ?_;rintro e w' ⟨A2,c2,rfl,h1,h2,h3,h4⟩)
   go_ret
   exact ⟨A2,c2,rfl,h1,h2,h3,hb.trans (h4.mono hb.size)⟩
end Go.Proofs.YtigmpifjcijdbaaGreatDoor
end

section
namespace Go.Proofs.YtigmpifjcijdbaaGreatDoor
set_option linter.unusedVariables false
set_option linter.unusedSimpArgs false
open Go.RowKit Verge
set_option maxHeartbeats 2000000 in
theorem rleft_any (A:Option Addr) (n0 c:Nat) (X0:List Nat) (e:Nat) (eI:Int) (w:World) (heI:(e:Int)=eI) (h0:Rd w A X0) (hn0:X0.length=n0) (hb0:n0≤140737488355328) (hm0:e / 32+wl X0+1≤35184372088800) :
  Calls Tryz.prog 37 #[.slice A n0 c,.int .i64 eI] w (Doc w (val X0*2^e)):=by
 subst heI
 have hle:=wl_le X0
 have W1:=Lib.hid (fun W hW=>rwords_any A n0 c X0 W hW hn0 (by omega))
 have H0:=Lib.hid h0
 have h:Rd w A (norm X0):=h0.take (wl X0)
 have hn:=length_norm X0
 have hlim:wl X0≤n0:=by omega
 rw [←val_norm X0]
 by_cases hz:wl X0=0
 ·have hX:norm X0=[]:=List.eq_nil_of_length_eq_zero (by omega)
  have hd:dig (val (norm X0)*2^e)=[]:=by rw [hX];simp [dig_zero]
  have hbz:((wl X0:Int)==0)=true:=by simp [hz]
  have hD:Doc w (val (norm X0)*2^e) (.returned (.slice none 0 0)) w:=by
   rw [Doc,hd];exact ⟨none,0,rfl,Rd.nil,Nat.le_refl _,by decide,Below.refl _ _⟩
  have HD:=Lib.hid hD
  clear hX hd hz h hn h0 hn0 hD
  go_enter Tryz.func37,Tryz.ntmps37
  go_wp2_with (go_at_call 41;refine (W1.out _ H0.out).mono ?_;rintro e w' ⟨rfl,rfl⟩)
  go_ret
  exact HD.out
 ·have hbz:((wl X0:Int)==0)=false:=by rw [beq_eq_false_iff_ne];omega
  generalize norm X0=X at *
  generalize wl X0=m at *
  obtain ⟨q,hq⟩:∃q,e / 32=q:=⟨_,rfl⟩
  obtain ⟨s,hs⟩:∃s,e%32=s:=⟨_,rfl⟩
  have hqI:(e:Int) / 32=(q:Int):=by omega
  have hsI:(e:Int)%32=(s:Int):=by omega
  have hs32:s<32:=by omega
  have hpe:2^e=2^s*4294967296^q:=by rw [pow_shift,hq,hs,Nat.mul_comm]
  rw [hpe,←Nat.mul_assoc]
  have hmk:∀W:World,(Instr.makeSlice 23 (.int .i64 ((q:Int)+(m:Int)+1)) (.int .i64 ((q:Int)+(m:Int)+1))).run Tryz.prog W=.ok (.slice (some ⟨W.heap.size,0,none⟩) (q+m+1) (q+m+1)) (W.alloc (.cells (u32s (List.replicate (q+m+1) 0)).toArray 52)):=
   fun W=>run_make_u32 (q+m+1) (by omega) W
  have hR1:=Lib.hid (fun W (hb:Below w.heap.size w W)=>h.below hb)
  have HN:=Lib.hid hn
  have hqb:q+m+1≤35184372088800:=by omega
  have h2s:2^s≤2147483648:=by
   have:=Nat.pow_le_pow_right (n:=2) (by omega) (show s≤31 by omega)
   simpa using this
  have h2s0:0<2^s:=Nat.pow_pos (by omega)
  clear h hn h0 hn0 hle hq hs hpe hz
  go_enter Tryz.func37,Tryz.ntmps37
  go_wp2_with (go_at_call 41;refine (W1.out _ H0.out).mono ?_;rintro e w' ⟨rfl,rfl⟩)
  clear hmk
  go_loopw [8,9] (fun iv _ wr=>∃(i cc:Nat) (L:List Nat),i≤m∧iv=.int .i64 i∧cc<2147483648∧Blk wr w.heap.size L ∧
   Hid (L.length=q+m+1∧L.getD (q+i) 0=cc∧cc<2^s∧val L=val (X.take i)*2^s*4294967296^q∧∀p,q+i<p→L.getD p 0=0)∧Below w.heap.size w wr) (fun iv _ _=>m - (intOf iv).toNat)
  case atStart=>exact ⟨0,0,List.replicate (q+m+1) 0,by omega,rfl,by omega,Blk.made w _,⟨by simp,getD_zeros _ _,h2s0,by rw [val_zeros];simp,fun p _=>getD_zeros _ _⟩,(Below.refl _ w).alloc (Nat.le_refl _) _⟩
  case round =>
   obtain ⟨i,cc,L,hi,rfl,hcc,hL,hI,hb⟩:=hrel
   by_cases him:i<m
   ·obtain ⟨b,o,rfl,hcx⟩:=(hR1.out _ hb).cell (k:=i) (by rw [HN.out];exact him)
    have him0:(i:Int)<(n0:Int):=by omega
    have hx32:=(hR1.out _ hb).1.getD i
    obtain ⟨x,hgx⟩:∃x,X.getD i 0=x:=⟨_,rfl⟩
    rw [hgx] at hcx hx32
    have hcl:=hL.cell (i:=q+i) (by have:=hI.out.1;omega)
    rw [hI.out.2.1] at hcl
    have hfz:=hL.frozen (q+i)
    have hcl2:=hL.cell (i:=q+i+1) (by have:=hI.out.1;omega)
    rw [hI.out.2.2.2.2 (q+i+1) (by omega)] at hcl2
    have hfz2:=hL.frozen (q+i+1)
    obtain ⟨v,hv⟩:∃v,x*2^s=v:=⟨_,rfl⟩
    have hvb:v≤4294967295*2147483648:=by rw [←hv];exact Nat.mul_le_mul (by omega) h2s
    have hlo:=low_mod x s (by omega)
    have hhi:=high_lt x s hx32
    rw [hv] at hlo hhi
    have hw1:IntKind.u64.wrap ((x:Int)*2^s)=(v:Int):=by
     rw [show ((x:Int)*2^s)=((x*2^s:Nat):Int) by simp,hv,IntKind.wrap_u64];omega
    have hmk:=mask64 v (by omega)
    have hmk':Go.bits .and .u64 (v:Int) 4294967295=(v:Int)%4294967296:=by rw [hmk];omega
    have hor:=or_u32 cc (v%4294967296) s hI.out.2.2.1 hlo (by omega) (by omega)
    have hor':Go.bits .or .u32 (cc:Int) ((v:Int)%4294967296)=(cc:Int)+(v:Int)%4294967296:=by
     rw [show ((v:Int)%4294967296)=((v%4294967296:Nat):Int) by omega,hor];omega
    have hsum:cc+v%4294967296<4294967296:=by
     have h3:=hI.out.2.2.1
     have h4:4294967296=2^s*2^(32 - s):=two32 s (by omega)
     obtain ⟨k,hk⟩:=Nat.dvd_of_mod_eq_zero hlo
     have h5:v%4294967296<2^s*2^(32 - s):=by rw [←h4];exact Nat.mod_lt _ (by omega)
     rw [hk] at h5 ⊢
     have h6:k<2^(32 - s):=Nat.lt_of_mul_lt_mul_left h5
     have h7:=Nat.mul_le_mul_left (2^s) (show k+1≤2^(32 - s) from h6)
     rw [←h4,Nat.mul_add,Nat.mul_one] at h7
     omega
    have HV:=Lib.hid (And.intro hgx (And.intro hv (And.intro hhi hsum)))
    clear hmk hor hgx hv hlo hhi hsum
    go_wp2
    go_roundw
    case rel =>
     obtain ⟨h1,h2,h3,h4,h5⟩:=hI.out
     obtain ⟨g1,g2,g3,g4⟩:=HV.out
     exact ⟨i+1,v / 4294967296,(L.set (q+i) (cc+v%4294967296)).set (q+i+1) (v / 4294967296),by omega,by go_num,by omega,
      (hL.setI (q+i) (by omega) (by omega) (by omega)).setI (q+i+1) (by omega) (by omega) (by omega),
      ⟨by rw [List.length_set,List.length_set];exact h1,by rw [←Nat.add_assoc];exact getD_set_self _ _ _ (by rw [List.length_set];omega),g3,
       left_step L X q i s cc v x (by omega) g1 h2 (h5 _ (by omega)) g2 h4,fun p hp=>by rw [Verge.getD_set_ne _ _ _ _ (by omega),Verge.getD_set_ne _ _ _ _ (by omega)];exact h5 p (by omega)⟩,
      (hb.setCell (Nat.le_refl _) _).setCell (Nat.le_refl _) _⟩
    case measure=>simp [intOf];omega
   ·obtain rfl:i=m:=by omega
    have hNr:=rnorm_any _ (q+i+1) (q+i+1) L wr hL.rd hI.out.1 hqb
    have hv:=hI.out.2.2.2.1
    rw [List.take_of_length_le (by have:=HN.out;omega)] at hv
    rw [hv] at hNr
    have HNr:=Lib.hid hNr
    clear hv hNr
    go_wp2_with (go_at_call 34;refine HNr.out.mono ?_;rintro e w' ⟨A2,c2,rfl,h1,h2,h3,h4⟩)
    go_ret
    exact ⟨A2,c2,rfl,h1,h2,h3,hb.trans (h4.mono hb.size)⟩
def RightPost (w:World) (v e:Nat):Ending→World→Prop:=fun en w' =>
 ∃A c,en=.returned (.tuple #[.slice A (dig (v / 2^e)).length c,.bool (decide (v%2^e≠0))])∧Rd w' A (dig (v / 2^e))∧(dig (v / 2^e)).length≤c∧c≤maxLen∧Below w.heap.size w w'
set_option maxHeartbeats 2000000 in
theorem rright_none (A:Option Addr) (n0 c:Nat) (X0:List Nat) (e:Nat) (eI:Int) (w:World) (heI:(e:Int)=eI) (heb:e≤9223372036854775807) (h0:Rd w A X0) (hn0:X0.length=n0) (hm0:n0≤35184372088800) (hq:wl X0≤e / 32) :
  Calls Tryz.prog 36 #[.slice A n0 c,.int .i64 eI] w (RightPost w (val X0) e):=by
 subst heI
 have W1:=Lib.hid (fun W hW=>rwords_any A n0 c X0 W hW hn0 (by omega))
 have H0:=Lib.hid h0
 obtain ⟨h1,h2⟩:=down_all h0.1 e hq
 unfold RightPost
 rw [h1,h2,dig_zero]
 by_cases hz:wl X0=0
 ·have hv:=(val_eq_zero_iff X0).2 hz
  rw [hv]
  have hbz:((wl X0:Int)==0)=true:=by simp [hz]
  clear h1 h2 hv hz hq
  go_enter Tryz.func36,Tryz.ntmps36
  go_wp2_with (go_at_call 41;refine (W1.out _ H0.out).mono ?_;rintro e w' ⟨rfl,rfl⟩)
  go_ret2
  exact ⟨none,0,rfl,Rd.nil,Nat.le_refl _,by decide,Below.refl _ _⟩
 ·have hv:val X0≠0:=fun e'=>hz ((val_eq_zero_iff X0).1 e')
  rw [decide_eq_true hv]
  have hbz:((wl X0:Int)==0)=false:=by rw [beq_eq_false_iff_ne];omega
  obtain ⟨q,hqq⟩:∃q,e / 32=q:=⟨_,rfl⟩
  have hqI:(e:Int) / 32=(q:Int):=by omega
  have hge:(wl X0:Int)≤(q:Int):=by omega
  clear h1 h2 hv hz hq hqq
  go_enter Tryz.func36,Tryz.ntmps36
  go_wp2_with (go_at_call 41;refine (W1.out _ H0.out).mono ?_;rintro e w' ⟨rfl,rfl⟩)
  go_ret2
  exact ⟨none,0,rfl,Rd.nil,Nat.le_refl _,by decide,Below.refl _ _⟩
set_option maxHeartbeats 4000000 in
theorem rright_some (A:Option Addr) (n0 c:Nat) (X0:List Nat) (e:Nat) (eI:Int) (w:World) (heI:(e:Int)=eI) (heb:e≤9223372036854775807) (h0:Rd w A X0) (hn0:X0.length=n0) (hm0:n0≤35184372088800) (hq:e / 32<wl X0) :
  Calls Tryz.prog 36 #[.slice A n0 c,.int .i64 eI] w (RightPost w (val X0) e):=by
 subst heI
 have W1:=Lib.hid (fun W hW=>rwords_any A n0 c X0 W hW hn0 (by omega))
 have H0:=Lib.hid h0
 have hle:=wl_le X0
 have h:Rd w A (norm X0):=h0.take (wl X0)
 have hn:=length_norm X0
 have hlim:wl X0≤n0:=by omega
 have hbz:((wl X0:Int)==0)=false:=by rw [beq_eq_false_iff_ne];omega
 rw [←val_norm X0]
 generalize norm X0=X at *
 generalize wl X0=m at *
 have hdiv:=down_div h.1 e
 obtain ⟨q,hqq⟩:∃q,e / 32=q:=⟨_,rfl⟩
 obtain ⟨s,hss⟩:∃s,e%32=s:=⟨_,rfl⟩
 have hqI:(e:Int) / 32=(q:Int):=by omega
 have hsI:(e:Int)%32=(s:Int):=by omega
 have hs32:s<32:=by omega
 obtain ⟨b,o,rfl,hc⟩:=h.cells (by omega)
 have hcq:=hc q (by omega)
 have hx32:=h.1.getD q
 obtain ⟨x,hgx⟩:∃x,X.getD q 0=x:=⟨_,rfl⟩
 have hlost:=down_lost h.1 e x (by omega) (by rw [hqq];exact hgx)
 rw [hqq,hss] at hlost hdiv
 rw [hgx] at hcq hx32
 have hlw:=lost_word x s hx32 hs32
 have hqm:q<m:=by omega
 have hqn:(q:Int)<(n0:Int):=by omega
 obtain ⟨z1,hz1⟩:∃z1,x*2^(31 - s)%4294967296=z1:=⟨_,rfl⟩
 obtain ⟨z,hz⟩:∃z,z1*2%4294967296=z:=⟨_,rfl⟩
 have hz1I:(x:Int)*2^(31 - s)%4294967296=(z1:Int):=by
  rw [←hz1,show ((x:Int)*2^(31 - s))=((x*2^(31 - s):Nat):Int) by simp];omega
 have hzI:(z1:Int)*2%4294967296=(z:Int):=by omega
 rw [hz1,hz] at hlw
 have hcase:(z=0∧¬x%2^s≠0)∨(((z:Int) != 0)=true∧decide (0<s)=true∧x%2^s≠0):=by
  by_cases h0:z=0
  ·exact .inl ⟨h0,fun h1=>(hlw.2 h1) h0⟩
  ·have h1:=hlw.1 h0
   have h2:s≠0:=by rintro rfl;simp [Nat.mod_one] at h1
   exact .inr ⟨by simp;omega,decide_eq_true (by omega),h1⟩
 clear hlw hz hz1
 obtain ⟨N,hN⟩:∃N,val X=N:=⟨_,rfl⟩
 have hTl:(X.drop q).length=m - q:=by rw [List.length_drop,hn]
 have hTg:∀k,(X.drop q).getD k 0=X.getD (q+k) 0:=fun k=>getD_drop X q k
 have hT32:=h.1.drop q
 have hend:=right_end (X.drop q) hT32 s
 rw [hTl] at hend
 replace hend:=hend.trans hdiv.symm
 have hgeX:=fun k (hk:m≤k)=>getD_ge X (k:=k) (by rw [hn];exact hk)
 rw [hN] at hend hlost
 rw [hN]
 have HT:=Lib.hid (And.intro hT32 (And.intro hTg (And.intro hend (And.intro hlost hgeX))))
 clear hdiv hTl hTg hT32 hend hlost hN hgeX hgx
 have hC:=Lib.hid hc
 have HX:=Lib.hid h.1
 have HN:=Lib.hid hn
 clear hc h h0 hn hn0 hqq hss hq hle
 go_enter Tryz.func36,Tryz.ntmps36
 rcases hcase with ⟨rfl,hx0⟩ | ⟨hzb,hs0,hx0⟩
 all_goals
  have HX0:=Lib.hid hx0
  clear hx0
  go_wp2_with (go_at_call 41;refine (W1.out _ H0.out).mono ?_;rintro e w' ⟨rfl,rfl⟩)
  clear hz1I hzI
  try clear hzb
  try clear hs0
  clear hcq
  go_loop [8,9] (fun lv iv=>∃(i:Nat) (lb:Bool),i≤q∧iv=.int .i64 i∧lv=.bool lb∧Hid (lb=true↔x%2^s≠0∨val (X.take i)≠0)) (fun _ iv=>q - (intOf iv).toNat)
  case atStart=>exact ⟨0,_,by omega,rfl,rfl,show _↔_ by have:=HX0.out;simp at this ⊢;exact this⟩
  case round =>
   obtain ⟨i,lb,hi,rfl,rfl,hlb⟩:=hrel
   by_cases hiq:i<q
   ·cases lb with
    | true =>
     go_wp2
     go_round
     case rel=>exact ⟨i+1,true,by omega,by go_num,rfl,show _↔_ by
      simp only [true_iff]
      rcases hlb.out.1 rfl with h1 | h1
      ·exact .inl h1
      ·exact .inr (by have:=val_take_mono X (show i≤i+1 by omega);omega)⟩
     case measure=>simp [intOf];omega
    | false =>
     have hcy:=hC.out i (by have:=HN.out;omega)
     obtain ⟨y,hgy⟩:∃y,X.getD i 0=y:=⟨_,rfl⟩
     rw [hgy] at hcy
     have hst:=lost_step X i y hgy
     have hin:(i:Int)<(n0:Int):=by omega
     have HS:=Lib.hid hst
     clear hst hgy
     by_cases hy:y=0
     ·subst hy
      go_wp2
      go_round
      case rel=>exact ⟨i+1,false,by omega,by go_num,rfl,show _↔_ by
       rw [HS.out]
       have:=hlb.out
       simp at this ⊢
       exact this⟩
      case measure=>simp [intOf];omega
     ·have hyb:((y:Int) != 0)=true:=by simp;omega
      go_wp2
      go_round
      case rel=>exact ⟨i+1,true,by omega,by go_num,rfl,show _↔_ by
       rw [HS.out]
       simp only [true_iff]
       exact .inr (.inr hy)⟩
      case measure=>simp [intOf];omega
   ·obtain rfl:i=q:=by omega
    have hlb2:lb=decide (N%2^e≠0):=by
     rw [Bool.eq_iff_iff,decide_eq_true_iff,HT.out.2.2.2.1];exact hlb.out
    have HLB:=Lib.hid hlb2
    clear hlb hlb2
    go_wp2
    go_loopw [10,11,12] (fun v jv _ wr=>∃(j k:Nat) (L:List Nat),j≤m∧j≤i+k∧i+k≤j∧jv=.int .i64 j∧Grow wr w.heap.size v L ∧
     Hid (L.length=k∧val L=val (X.drop i) / 2^s%4294967296^k)∧Below w.heap.size w wr) (fun _ jv _ _=>m - (intOf jv).toNat)
    case atStart=>exact ⟨i,0,[],by omega,by omega,by omega,rfl,Grow.nil _ _,⟨rfl,by simp [Nat.mod_one]⟩,Below.refl _ _⟩
    case round =>
     obtain ⟨j,k,L,hj,hk1,hk2,rfl,hG,hI,hb⟩:=hrel
     by_cases hjm:j<m
     ·have hsz:=hb.size
      have hlen:L.length+1≤35184372088832:=by rw [hI.out.1];omega
      have hcy:=(bcell hb) b (o+j) (lt_of_cell (hC.out j (by have:=HN.out;omega)))
      rw [hC.out j (by have:=HN.out;omega)] at hcy
      have hy32:=HX.out.getD j
      obtain ⟨y,hgy⟩:∃y,X.getD j 0=y:=⟨_,rfl⟩
      rw [hgy] at hcy hy32
      have hjn:(j:Int)<(n0:Int):=by omega
      have hjk:i+k=j:=by omega
      by_cases hj1:j+1<m
      ·have hcu:=(bcell hb) b (o+(j+1)) (lt_of_cell (hC.out (j+1) (by have:=HN.out;omega)))
       rw [hC.out (j+1) (by have:=HN.out;omega)] at hcu
       have hu32:=HX.out.getD (j+1)
       obtain ⟨u,hgu⟩:∃u,X.getD (j+1) 0=u:=⟨_,rfl⟩
       rw [hgu] at hcu hu32
       obtain ⟨V,hV⟩:∃V,y+4294967296*u=V:=⟨_,rfl⟩
       have hor:bits .or .u64 (y:Int) ((u:Int)*4294967296)=(V:Int):=by rw [or_hi y u hy32 hu32,hV]
       obtain ⟨Z,hZ⟩:∃Z,V / 2^s=Z:=⟨_,rfl⟩
       have hZI:(V:Int) / 2^s=(Z:Int):=by rw [←hZ];simp
       have hZb:Z<18446744073709551616:=by rw [←hZ];exact Nat.lt_of_le_of_lt (Nat.div_le_self _ _) (by omega)
       have hmk:=mask64 Z hZb
       have hmk':Go.bits .and .u64 (Z:Int) 4294967295=(Z:Int)%4294967296:=by rw [hmk];omega
       have hst:=right_step L (X.drop i) HT.out.1 k s (Z%4294967296) (by omega) hI.out.1 (by rw [HT.out.2.1,HT.out.2.1,←Nat.add_assoc,hjk,hgy,hgu,hV,hZ]) hI.out.2
       have HS:=Lib.hid hst
       have hj1n:(j:Int)+1<(n0:Int):=by omega
       clear hmk hst hZ hgy hgu hV hjk
       go_wp2_with (refine wpList_push rfl _ _ rfl w.heap.size _ L rfl wr _ (Z%4294967296) rfl (by omega) (by omega) hG rfl hlen hsz w hb ?_;intro v' w1 hG1 hb1)
       go_roundw
       case rel=>exact ⟨j+1,k+1,_,by omega,by omega,by omega,by go_num,hG1,HS.out,hb1⟩
       case measure=>simp [intOf];omega
      ·obtain ⟨Z,hZ⟩:∃Z,y / 2^s=Z:=⟨_,rfl⟩
       have hZI:(y:Int) / 2^s=(Z:Int):=by rw [←hZ];simp
       have hZb:Z<18446744073709551616:=by rw [←hZ];exact Nat.lt_of_le_of_lt (Nat.div_le_self _ _) (by omega)
       have hmk:=mask64 Z hZb
       have hmk':Go.bits .and .u64 (Z:Int) 4294967295=(Z:Int)%4294967296:=by rw [hmk];omega
       have hst:=right_step L (X.drop i) HT.out.1 k s (Z%4294967296) (by omega) hI.out.1 (by rw [HT.out.2.1,HT.out.2.1,←Nat.add_assoc,hjk,hgy,HT.out.2.2.2.2 (j+1) (by omega),Nat.mul_zero,Nat.add_zero,hZ]) hI.out.2
       have HS:=Lib.hid hst
       clear hmk hst hZ hgy hjk
       go_wp2_with (refine wpList_push rfl _ _ rfl w.heap.size _ L rfl wr _ (Z%4294967296) rfl (by omega) (by omega) hG rfl hlen hsz w hb ?_;intro v' w1 hG1 hb1)
       go_roundw
       case rel=>exact ⟨j+1,k+1,_,by omega,by omega,by omega,by go_num,hG1,HS.out,hb1⟩
       case measure=>simp [intOf];omega
     ·have hkm:k=m - i:=by omega
      have hv:val L=N / 2^e:=by rw [hI.out.2,hkm,HT.out.2.2.1]
      have HV:=Lib.hid hv
      have hLl:L.length≤35184372088800:=by rw [hI.out.1];omega
      clear hv hkm
      go_wp2_with (go_at_call 34;obtain ⟨A1,c1,he,hR,-,-⟩:=hG.rd;subst he;refine (rnorm_any _ _ _ _ _ hR rfl hLl).mono ?_;rintro e w' ⟨A2,c2,rfl,h1,h2,h3,h4⟩)
      go_ret2
      have hv:=HV.out
      rw [hv] at h1 h2
      exact ⟨A2,c2,by rw [hv,HLB.out];rfl,h1,h2,h3,hb.trans (h4.mono hb.size)⟩
theorem rright_any (A:Option Addr) (n0 c:Nat) (X0:List Nat) (e:Nat) (eI:Int) (w:World) (heI:(e:Int)=eI) (heb:e≤9223372036854775807) (h0:Rd w A X0) (hn0:X0.length=n0) (hm0:n0≤35184372088800) :
  Calls Tryz.prog 36 #[.slice A n0 c,.int .i64 eI] w (RightPost w (val X0) e):=by
 rcases Nat.lt_or_ge (e / 32) (wl X0) with hq | hq
 ·exact rright_some A n0 c X0 e eI w heI heb h0 hn0 hm0 hq
 ·exact rright_none A n0 c X0 e eI w heI heb h0 hn0 hm0 hq
end Go.Proofs.YtigmpifjcijdbaaGreatDoor
namespace Go.Proofs.YtigmpifjcijdbaaGreatDoor
set_option linter.unusedVariables false
set_option linter.unusedSimpArgs false
open Go.RowKit Verge
end Go.Proofs.YtigmpifjcijdbaaGreatDoor
end

section
namespace Go.Proofs.YtigmpifjcijdbaaGreatDoor
set_option linter.unusedVariables false
set_option linter.unusedSimpArgs false
open Go.RowKit Verge
section
variable (A:Option Addr) (n c:Nat) (X:List Nat) (A':Option Addr) (n' c':Nat) (Y:List Nat) (w:World) (h:Rd w A X) (hn:X.length=n) (h':Rd w A' Y) (hn':Y.length=n') (hm:n≤35184372088700) (hm':n'≤35184372088700)
include h hn h' hn' hm hm'
end
end Go.Proofs.YtigmpifjcijdbaaGreatDoor
end
