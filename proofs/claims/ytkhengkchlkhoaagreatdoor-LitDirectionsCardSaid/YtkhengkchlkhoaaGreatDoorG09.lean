/- The document's own naturals: Left, Right. -/
import Derived.Test.YtkhengkchlkhoaaGreatDoorG08
import Derived.Test.YtkhengkchlkhoaaGreatDoorG06
namespace Go.Proofs.YtkhengkchlkhoaaGreatDoor
set_option linter.unusedVariables false
set_option linter.unusedSimpArgs false
open Go.RowKit Verge
set_option maxHeartbeats 2000000 in
theorem rleft_any (A:Option Addr) (n0 c:Nat) (X0:List Nat) (e:Nat) (eI:Int) (w:World) (heI:(e:Int)=eI) (h0:Rd w A X0) (hn0:X0.length=n0) (hb0:n0≤140737488355328) (hm0:e / 32+wl X0+1≤35184372088800) :
  Calls Tryz.prog 34 #[.slice A n0 c,.int .i64 eI] w (Doc w (val X0*2^e)):=by
 subst heI
 have hle:=wl_le X0
 have W1:=Lib.hid (fun W hW=>rwords_any A n0 c X0 W hW hn0 (by omega))
 have H0:=Lib.hid h0
 have h:Rd w A (norm X0):=h0.take (wl X0)
 have hn:=length_norm X0
 have hlim:wl X0≤n0:=by omega
 rw [←val_norm X0]
 by_cases hz:wl X0=0
 ·have hX:norm X0=[]:=List.eq_nil_of_length_eq_zero (by omega)
  have hd:dig (val (norm X0)*2^e)=[]:=by rw [hX];simp [dig_zero]
  have hbz:((wl X0:Int)==0)=true:=by simp [hz]
  have hD:Doc w (val (norm X0)*2^e) (.returned (.slice none 0 0)) w:=by
   rw [Doc,hd];exact ⟨none,0,rfl,Rd.nil,Nat.le_refl _,by decide,Below.refl _ _⟩
  have HD:=Lib.hid hD
  clear hX hd hz h hn h0 hn0 hD
  go_enter Tryz.func34,Tryz.ntmps34
  go_wp2_with (go_at_call 38;refine (W1.out _ H0.out).mono ?_;rintro e w' ⟨rfl,rfl⟩)
  go_ret
  exact HD.out
 ·have hbz:((wl X0:Int)==0)=false:=by rw [beq_eq_false_iff_ne];omega
  generalize norm X0=X at *
  generalize wl X0=m at *
  obtain ⟨q,hq⟩:∃q,e / 32=q:=⟨_,rfl⟩
  obtain ⟨s,hs⟩:∃s,e%32=s:=⟨_,rfl⟩
  have hqI:(e:Int) / 32=(q:Int):=by omega
  have hsI:(e:Int)%32=(s:Int):=by omega
  have hs32:s<32:=by omega
  have hpe:2^e=2^s*4294967296^q:=by rw [pow_shift,hq,hs,Nat.mul_comm]
  rw [hpe,←Nat.mul_assoc]
  have hmk:∀W:World,(Instr.makeSlice 23 (.int .i64 ((q:Int)+(m:Int)+1)) (.int .i64 ((q:Int)+(m:Int)+1))).run Tryz.prog W=.ok (.slice (some ⟨W.heap.size,0,none⟩) (q+m+1) (q+m+1)) (W.alloc (.cells (u32s (List.replicate (q+m+1) 0)).toArray 50)):=
   fun W=>run_make_u32 (q+m+1) (by omega) W
  have hR1:=Lib.hid (fun W (hb:Below w.heap.size w W)=>h.below hb)
  have HN:=Lib.hid hn
  have hqb:q+m+1≤35184372088800:=by omega
  have h2s:2^s≤2147483648:=by
   have:=Nat.pow_le_pow_right (n:=2) (by omega) (show s≤31 by omega)
   simpa using this
  have h2s0:0<2^s:=Nat.pow_pos (by omega)
  clear h hn h0 hn0 hle hq hs hpe hz
  go_enter Tryz.func34,Tryz.ntmps34
  go_wp2_with (go_at_call 38;refine (W1.out _ H0.out).mono ?_;rintro e w' ⟨rfl,rfl⟩)
  clear hmk
  go_loopw [8,9] (fun iv _ wr=>∃(i cc:Nat) (L:List Nat),i≤m∧iv=.int .i64 i∧cc<2147483648∧Blk wr w.heap.size L ∧
   Hid (L.length=q+m+1∧L.getD (q+i) 0=cc∧cc<2^s∧val L=val (X.take i)*2^s*4294967296^q∧∀p,q+i<p→L.getD p 0=0)∧Below w.heap.size w wr) (fun iv _ _=>m - (intOf iv).toNat)
  case atStart=>exact ⟨0,0,List.replicate (q+m+1) 0,by omega,rfl,by omega,Blk.made w _,⟨by simp,getD_zeros _ _,h2s0,by rw [val_zeros];simp,fun p _=>getD_zeros _ _⟩,(Below.refl _ w).alloc (Nat.le_refl _) _⟩
  case round =>
   obtain ⟨i,cc,L,hi,rfl,hcc,hL,hI,hb⟩:=hrel
   by_cases him:i<m
   ·obtain ⟨b,o,rfl,hcx⟩:=(hR1.out _ hb).cell (k:=i) (by rw [HN.out];exact him)
    have him0:(i:Int)<(n0:Int):=by omega
    have hx32:=(hR1.out _ hb).1.getD i
    obtain ⟨x,hgx⟩:∃x,X.getD i 0=x:=⟨_,rfl⟩
    rw [hgx] at hcx hx32
    have hcl:=hL.cell (i:=q+i) (by have:=hI.out.1;omega)
    rw [hI.out.2.1] at hcl
    have hfz:=hL.frozen (q+i)
    have hcl2:=hL.cell (i:=q+i+1) (by have:=hI.out.1;omega)
    rw [hI.out.2.2.2.2 (q+i+1) (by omega)] at hcl2
    have hfz2:=hL.frozen (q+i+1)
    obtain ⟨v,hv⟩:∃v,x*2^s=v:=⟨_,rfl⟩
    have hvb:v≤4294967295*2147483648:=by rw [←hv];exact Nat.mul_le_mul (by omega) h2s
    have hlo:=low_mod x s (by omega)
    have hhi:=high_lt x s hx32
    rw [hv] at hlo hhi
    have hw1:IntKind.u64.wrap ((x:Int)*2^s)=(v:Int):=by
     rw [show ((x:Int)*2^s)=((x*2^s:Nat):Int) by simp,hv,IntKind.wrap_u64];omega
    have hmk:=mask64 v (by omega)
    have hmk':Go.bits .and .u64 (v:Int) 4294967295=(v:Int)%4294967296:=by rw [hmk];omega
    have hor:=or_u32 cc (v%4294967296) s hI.out.2.2.1 hlo (by omega) (by omega)
    have hor':Go.bits .or .u32 (cc:Int) ((v:Int)%4294967296)=(cc:Int)+(v:Int)%4294967296:=by
     rw [show ((v:Int)%4294967296)=((v%4294967296:Nat):Int) by omega,hor];omega
    have hsum:cc+v%4294967296<4294967296:=by
     have h3:=hI.out.2.2.1
     have h4:4294967296=2^s*2^(32 - s):=two32 s (by omega)
     obtain ⟨k,hk⟩:=Nat.dvd_of_mod_eq_zero hlo
     have h5:v%4294967296<2^s*2^(32 - s):=by rw [←h4];exact Nat.mod_lt _ (by omega)
     rw [hk] at h5 ⊢
     have h6:k<2^(32 - s):=Nat.lt_of_mul_lt_mul_left h5
     have h7:=Nat.mul_le_mul_left (2^s) (show k+1≤2^(32 - s) from h6)
     rw [←h4,Nat.mul_add,Nat.mul_one] at h7
     omega
    have HV:=Lib.hid (And.intro hgx (And.intro hv (And.intro hhi hsum)))
    clear hmk hor hgx hv hlo hhi hsum
    go_wp2
    go_roundw
    case rel =>
     obtain ⟨h1,h2,h3,h4,h5⟩:=hI.out
     obtain ⟨g1,g2,g3,g4⟩:=HV.out
     exact ⟨i+1,v / 4294967296,(L.set (q+i) (cc+v%4294967296)).set (q+i+1) (v / 4294967296),by omega,by go_num,by omega,
      (hL.setI (q+i) (by omega) (by omega) (by omega)).setI (q+i+1) (by omega) (by omega) (by omega),
      ⟨by rw [List.length_set,List.length_set];exact h1,by rw [←Nat.add_assoc];exact getD_set_self _ _ _ (by rw [List.length_set];omega),g3,
       left_step L X q i s cc v x (by omega) g1 h2 (h5 _ (by omega)) g2 h4,fun p hp=>by rw [Verge.getD_set_ne _ _ _ _ (by omega),Verge.getD_set_ne _ _ _ _ (by omega)];exact h5 p (by omega)⟩,
      (hb.setCell (Nat.le_refl _) _).setCell (Nat.le_refl _) _⟩
    case measure=>simp [intOf];omega
   ·obtain rfl:i=m:=by omega
    have hNr:=rnorm_any _ (q+i+1) (q+i+1) L wr hL.rd hI.out.1 hqb
    have hv:=hI.out.2.2.2.1
    rw [List.take_of_length_le (by have:=HN.out;omega)] at hv
    rw [hv] at hNr
    have HNr:=Lib.hid hNr
    clear hv hNr
    go_wp2_with (go_at_call 31;refine HNr.out.mono ?_;rintro e w' ⟨A2,c2,rfl,h1,h2,h3,h4⟩)
    go_ret
    exact ⟨A2,c2,rfl,h1,h2,h3,hb.trans (h4.mono hb.size)⟩
def RightPost (w:World) (v e:Nat):Ending→World→Prop:=fun en w' =>
 ∃A c,en=.returned (.tuple #[.slice A (dig (v / 2^e)).length c,.bool (decide (v%2^e≠0))])∧Rd w' A (dig (v / 2^e))∧(dig (v / 2^e)).length≤c∧c≤maxLen∧Below w.heap.size w w'
set_option maxHeartbeats 2000000 in
theorem rright_none (A:Option Addr) (n0 c:Nat) (X0:List Nat) (e:Nat) (eI:Int) (w:World) (heI:(e:Int)=eI) (heb:e≤9223372036854775807) (h0:Rd w A X0) (hn0:X0.length=n0) (hm0:n0≤35184372088800) (hq:wl X0≤e / 32) :
  Calls Tryz.prog 33 #[.slice A n0 c,.int .i64 eI] w (RightPost w (val X0) e):=by
 subst heI
 have W1:=Lib.hid (fun W hW=>rwords_any A n0 c X0 W hW hn0 (by omega))
 have H0:=Lib.hid h0
 obtain ⟨h1,h2⟩:=down_all h0.1 e hq
 unfold RightPost
 rw [h1,h2,dig_zero]
 by_cases hz:wl X0=0
 ·have hv:=(val_eq_zero_iff X0).2 hz
  rw [hv]
  have hbz:((wl X0:Int)==0)=true:=by simp [hz]
  clear h1 h2 hv hz hq
  go_enter Tryz.func33,Tryz.ntmps33
  go_wp2_with (go_at_call 38;refine (W1.out _ H0.out).mono ?_;rintro e w' ⟨rfl,rfl⟩)
  go_ret2
  exact ⟨none,0,rfl,Rd.nil,Nat.le_refl _,by decide,Below.refl _ _⟩
 ·have hv:val X0≠0:=fun e'=>hz ((val_eq_zero_iff X0).1 e')
  rw [decide_eq_true hv]
  have hbz:((wl X0:Int)==0)=false:=by rw [beq_eq_false_iff_ne];omega
  obtain ⟨q,hqq⟩:∃q,e / 32=q:=⟨_,rfl⟩
  have hqI:(e:Int) / 32=(q:Int):=by omega
  have hge:(wl X0:Int)≤(q:Int):=by omega
  clear h1 h2 hv hz hq hqq
  go_enter Tryz.func33,Tryz.ntmps33
  go_wp2_with (go_at_call 38;refine (W1.out _ H0.out).mono ?_;rintro e w' ⟨rfl,rfl⟩)
  go_ret2
  exact ⟨none,0,rfl,Rd.nil,Nat.le_refl _,by decide,Below.refl _ _⟩
set_option maxHeartbeats 4000000 in
theorem rright_some (A:Option Addr) (n0 c:Nat) (X0:List Nat) (e:Nat) (eI:Int) (w:World) (heI:(e:Int)=eI) (heb:e≤9223372036854775807) (h0:Rd w A X0) (hn0:X0.length=n0) (hm0:n0≤35184372088800) (hq:e / 32<wl X0) :
  Calls Tryz.prog 33 #[.slice A n0 c,.int .i64 eI] w (RightPost w (val X0) e):=by
 subst heI
 have W1:=Lib.hid (fun W hW=>rwords_any A n0 c X0 W hW hn0 (by omega))
 have H0:=Lib.hid h0
 have hle:=wl_le X0
 have h:Rd w A (norm X0):=h0.take (wl X0)
 have hn:=length_norm X0
 have hlim:wl X0≤n0:=by omega
 have hbz:((wl X0:Int)==0)=false:=by rw [beq_eq_false_iff_ne];omega
 rw [←val_norm X0]
 generalize norm X0=X at *
 generalize wl X0=m at *
 have hdiv:=down_div h.1 e
 obtain ⟨q,hqq⟩:∃q,e / 32=q:=⟨_,rfl⟩
 obtain ⟨s,hss⟩:∃s,e%32=s:=⟨_,rfl⟩
 have hqI:(e:Int) / 32=(q:Int):=by omega
 have hsI:(e:Int)%32=(s:Int):=by omega
 have hs32:s<32:=by omega
 obtain ⟨b,o,rfl,hc⟩:=h.cells (by omega)
 have hcq:=hc q (by omega)
 have hx32:=h.1.getD q
 obtain ⟨x,hgx⟩:∃x,X.getD q 0=x:=⟨_,rfl⟩
 have hlost:=down_lost h.1 e x (by omega) (by rw [hqq];exact hgx)
 rw [hqq,hss] at hlost hdiv
 rw [hgx] at hcq hx32
 have hlw:=lost_word x s hx32 hs32
 have hqm:q<m:=by omega
 have hqn:(q:Int)<(n0:Int):=by omega
 obtain ⟨z1,hz1⟩:∃z1,x*2^(31 - s)%4294967296=z1:=⟨_,rfl⟩
 obtain ⟨z,hz⟩:∃z,z1*2%4294967296=z:=⟨_,rfl⟩
 have hz1I:(x:Int)*2^(31 - s)%4294967296=(z1:Int):=by
  rw [←hz1,show ((x:Int)*2^(31 - s))=((x*2^(31 - s):Nat):Int) by simp];omega
 have hzI:(z1:Int)*2%4294967296=(z:Int):=by omega
 rw [hz1,hz] at hlw
 have hcase:(z=0∧¬x%2^s≠0)∨(((z:Int) != 0)=true∧decide (0<s)=true∧x%2^s≠0):=by
  by_cases h0:z=0
  ·exact .inl ⟨h0,fun h1=>(hlw.2 h1) h0⟩
  ·have h1:=hlw.1 h0
   have h2:s≠0:=by rintro rfl;simp [Nat.mod_one] at h1
   exact .inr ⟨by simp;omega,decide_eq_true (by omega),h1⟩
 clear hlw hz hz1
 obtain ⟨N,hN⟩:∃N,val X=N:=⟨_,rfl⟩
 have hTl:(X.drop q).length=m - q:=by rw [List.length_drop,hn]
 have hTg:∀k,(X.drop q).getD k 0=X.getD (q+k) 0:=fun k=>getD_drop X q k
 have hT32:=h.1.drop q
 have hend:=right_end (X.drop q) hT32 s
 rw [hTl] at hend
 replace hend:=hend.trans hdiv.symm
 have hgeX:=fun k (hk:m≤k)=>getD_ge X (k:=k) (by rw [hn];exact hk)
 rw [hN] at hend hlost
 rw [hN]
 have HT:=Lib.hid (And.intro hT32 (And.intro hTg (And.intro hend (And.intro hlost hgeX))))
 clear hdiv hTl hTg hT32 hend hlost hN hgeX hgx
 have hC:=Lib.hid hc
 have HX:=Lib.hid h.1
 have HN:=Lib.hid hn
 clear hc h h0 hn hn0 hqq hss hq hle
 go_enter Tryz.func33,Tryz.ntmps33
 rcases hcase with ⟨rfl,hx0⟩ | ⟨hzb,hs0,hx0⟩
 all_goals
  have HX0:=Lib.hid hx0
  clear hx0
  go_wp2_with (go_at_call 38;refine (W1.out _ H0.out).mono ?_;rintro e w' ⟨rfl,rfl⟩)
  clear hz1I hzI
  try clear hzb
  try clear hs0
  clear hcq
  go_loop [8,9] (fun lv iv=>∃(i:Nat) (lb:Bool),i≤q∧iv=.int .i64 i∧lv=.bool lb∧Hid (lb=true↔x%2^s≠0∨val (X.take i)≠0)) (fun _ iv=>q - (intOf iv).toNat)
  case atStart=>exact ⟨0,_,by omega,rfl,rfl,show _↔_ by have:=HX0.out;simp at this ⊢;exact this⟩
  case round =>
   obtain ⟨i,lb,hi,rfl,rfl,hlb⟩:=hrel
   by_cases hiq:i<q
   ·cases lb with
    | true =>
     go_wp2
     go_round
     case rel=>exact ⟨i+1,true,by omega,by go_num,rfl,show _↔_ by
      simp only [true_iff]
      rcases hlb.out.1 rfl with h1 | h1
      ·exact .inl h1
      ·exact .inr (by have:=val_take_mono X (show i≤i+1 by omega);omega)⟩
     case measure=>simp [intOf];omega
    | false =>
     have hcy:=hC.out i (by have:=HN.out;omega)
     obtain ⟨y,hgy⟩:∃y,X.getD i 0=y:=⟨_,rfl⟩
     rw [hgy] at hcy
     have hst:=lost_step X i y hgy
     have hin:(i:Int)<(n0:Int):=by omega
     have HS:=Lib.hid hst
     clear hst hgy
     by_cases hy:y=0
     ·subst hy
      go_wp2
      go_round
      case rel=>exact ⟨i+1,false,by omega,by go_num,rfl,show _↔_ by
       rw [HS.out]
       have:=hlb.out
       simp at this ⊢
       exact this⟩
      case measure=>simp [intOf];omega
     ·have hyb:((y:Int) != 0)=true:=by simp;omega
      go_wp2
      go_round
      case rel=>exact ⟨i+1,true,by omega,by go_num,rfl,show _↔_ by
       rw [HS.out]
       simp only [true_iff]
       exact .inr (.inr hy)⟩
      case measure=>simp [intOf];omega
   ·obtain rfl:i=q:=by omega
    have hlb2:lb=decide (N%2^e≠0):=by
     rw [Bool.eq_iff_iff,decide_eq_true_iff,HT.out.2.2.2.1];exact hlb.out
    have HLB:=Lib.hid hlb2
    clear hlb hlb2
    go_wp2
    go_loopw [10,11,12] (fun v jv _ wr=>∃(j k:Nat) (L:List Nat),j≤m∧j≤i+k∧i+k≤j∧jv=.int .i64 j∧Grow wr w.heap.size v L ∧
     Hid (L.length=k∧val L=val (X.drop i) / 2^s%4294967296^k)∧Below w.heap.size w wr) (fun _ jv _ _=>m - (intOf jv).toNat)
    case atStart=>exact ⟨i,0,[],by omega,by omega,by omega,rfl,Grow.nil _ _,⟨rfl,by simp [Nat.mod_one]⟩,Below.refl _ _⟩
    case round =>
     obtain ⟨j,k,L,hj,hk1,hk2,rfl,hG,hI,hb⟩:=hrel
     by_cases hjm:j<m
     ·have hsz:=hb.size
      have hlen:L.length+1≤35184372088832:=by rw [hI.out.1];omega
      have hcy:=(bcell hb) b (o+j) (lt_of_cell (hC.out j (by have:=HN.out;omega)))
      rw [hC.out j (by have:=HN.out;omega)] at hcy
      have hy32:=HX.out.getD j
      obtain ⟨y,hgy⟩:∃y,X.getD j 0=y:=⟨_,rfl⟩
      rw [hgy] at hcy hy32
      have hjn:(j:Int)<(n0:Int):=by omega
      have hjk:i+k=j:=by omega
      by_cases hj1:j+1<m
      ·have hcu:=(bcell hb) b (o+(j+1)) (lt_of_cell (hC.out (j+1) (by have:=HN.out;omega)))
       rw [hC.out (j+1) (by have:=HN.out;omega)] at hcu
       have hu32:=HX.out.getD (j+1)
       obtain ⟨u,hgu⟩:∃u,X.getD (j+1) 0=u:=⟨_,rfl⟩
       rw [hgu] at hcu hu32
       obtain ⟨V,hV⟩:∃V,y+4294967296*u=V:=⟨_,rfl⟩
       have hor:bits .or .u64 (y:Int) ((u:Int)*4294967296)=(V:Int):=by rw [or_hi y u hy32 hu32,hV]
       obtain ⟨Z,hZ⟩:∃Z,V / 2^s=Z:=⟨_,rfl⟩
       have hZI:(V:Int) / 2^s=(Z:Int):=by rw [←hZ];simp
       have hZb:Z<18446744073709551616:=by rw [←hZ];exact Nat.lt_of_le_of_lt (Nat.div_le_self _ _) (by omega)
       have hmk:=mask64 Z hZb
       have hmk':Go.bits .and .u64 (Z:Int) 4294967295=(Z:Int)%4294967296:=by rw [hmk];omega
       have hst:=right_step L (X.drop i) HT.out.1 k s (Z%4294967296) (by omega) hI.out.1 (by rw [HT.out.2.1,HT.out.2.1,←Nat.add_assoc,hjk,hgy,hgu,hV,hZ]) hI.out.2
       have HS:=Lib.hid hst
       have hj1n:(j:Int)+1<(n0:Int):=by omega
       clear hmk hst hZ hgy hgu hV hjk
       go_wp2_with (refine wpList_push rfl _ _ rfl w.heap.size _ L rfl wr _ (Z%4294967296) rfl (by omega) (by omega) hG rfl hlen hsz w hb ?_;intro v' w1 hG1 hb1)
       go_roundw
       case rel=>exact ⟨j+1,k+1,_,by omega,by omega,by omega,by go_num,hG1,HS.out,hb1⟩
       case measure=>simp [intOf];omega
      ·obtain ⟨Z,hZ⟩:∃Z,y / 2^s=Z:=⟨_,rfl⟩
       have hZI:(y:Int) / 2^s=(Z:Int):=by rw [←hZ];simp
       have hZb:Z<18446744073709551616:=by rw [←hZ];exact Nat.lt_of_le_of_lt (Nat.div_le_self _ _) (by omega)
       have hmk:=mask64 Z hZb
       have hmk':Go.bits .and .u64 (Z:Int) 4294967295=(Z:Int)%4294967296:=by rw [hmk];omega
       have hst:=right_step L (X.drop i) HT.out.1 k s (Z%4294967296) (by omega) hI.out.1 (by rw [HT.out.2.1,HT.out.2.1,←Nat.add_assoc,hjk,hgy,HT.out.2.2.2.2 (j+1) (by omega),Nat.mul_zero,Nat.add_zero,hZ]) hI.out.2
       have HS:=Lib.hid hst
       clear hmk hst hZ hgy hjk
       go_wp2_with (refine wpList_push rfl _ _ rfl w.heap.size _ L rfl wr _ (Z%4294967296) rfl (by omega) (by omega) hG rfl hlen hsz w hb ?_;intro v' w1 hG1 hb1)
       go_roundw
       case rel=>exact ⟨j+1,k+1,_,by omega,by omega,by omega,by go_num,hG1,HS.out,hb1⟩
       case measure=>simp [intOf];omega
     ·have hkm:k=m - i:=by omega
      have hv:val L=N / 2^e:=by rw [hI.out.2,hkm,HT.out.2.2.1]
      have HV:=Lib.hid hv
      have hLl:L.length≤35184372088800:=by rw [hI.out.1];omega
      clear hv hkm
      go_wp2_with (go_at_call 31;obtain ⟨A1,c1,he,hR,-,-⟩:=hG.rd;subst he;refine (rnorm_any _ _ _ _ _ hR rfl hLl).mono ?_;rintro e w' ⟨A2,c2,rfl,h1,h2,h3,h4⟩)
      go_ret2
      have hv:=HV.out
      rw [hv] at h1 h2
      exact ⟨A2,c2,by rw [hv,HLB.out];rfl,h1,h2,h3,hb.trans (h4.mono hb.size)⟩
theorem rright_any (A:Option Addr) (n0 c:Nat) (X0:List Nat) (e:Nat) (eI:Int) (w:World) (heI:(e:Int)=eI) (heb:e≤9223372036854775807) (h0:Rd w A X0) (hn0:X0.length=n0) (hm0:n0≤35184372088800) :
  Calls Tryz.prog 33 #[.slice A n0 c,.int .i64 eI] w (RightPost w (val X0) e):=by
 rcases Nat.lt_or_ge (e / 32) (wl X0) with hq | hq
 ·exact rright_some A n0 c X0 e eI w heI heb h0 hn0 hm0 hq
 ·exact rright_none A n0 c X0 e eI w heI heb h0 hn0 hm0 hq
end Go.Proofs.YtkhengkchlkhoaaGreatDoor
namespace Go.Proofs.YtkhengkchlkhoaaGreatDoor
set_option linter.unusedVariables false
set_option linter.unusedSimpArgs false
open Go.RowKit Verge
theorem rgrown_refl (w:World) (row:Option Nat):w.grownBy w row:=⟨rfl,rfl,rfl,Nat.le_refl _,fun _ _ _=>rfl⟩
theorem rgrown_set {w w':World} {g:Nat} (h:w.grownBy w' (some g)) (i:Nat) (u:Value):w.grownBy (w'.setCell ⟨g,i,none⟩ u) (some g):=
 ⟨h.os,h.tape,h.output,by simpa using h.size,fun k hk hne=>by
  rw [←h.block k hk hne]
  exact Below.heap_setCell w' ⟨g,i,none⟩ u k (fun e=>hne (by rw [e]))⟩
set_option maxHeartbeats 2000000 in
theorem rsub_any (g nr cr:Nat) (R:List Nat) (B:Option Addr) (nb cb:Nat) (Y:List Nat) (x:Nat) (w:World)
  (hR:Blk w g R) (hl:R.length=nr) (hY:∀w',w.grownBy w' (some g)→Rd w' B Y) (hn:Y.length=nb) (hle:nb≤nr) (hx:x<4294967296) (hv:x*val Y≤val R) (hm:nr≤35184372088800) :
  Calls Tryz.prog 82 #[.slice (some ⟨g,0,none⟩) nr cr,.slice B nb cb,.int .u64 (x:Int)] w fun e w'=>e=.returned (.tuple #[]) ∧
   ∃R',w.grownBy w' (some g)∧Blk w' g R'∧R'.length=nr∧val R'+x*val Y=val R:=by
 have HY:=Lib.hid hY
 have HR:=Lib.hid (And.intro hR (And.intro hl (And.intro hn hv)))
 have hY32:=(hY w (rgrown_refl _ _)).1
 have HW:=Lib.hid hY32
 clear hR hl hY hn hv hY32
 go_enter Tryz.func82,Tryz.ntmps82
 go_wp2
 go_loopw [6,7,8,9,10] (fun cv bv iv _ _ wr=>∃(i cc bb:Nat) (R':List Nat),i≤nr∧iv=.int .i64 i∧cv=.int .u64 cc∧bv=.int .u64 bb∧cc<4294967296∧bb≤1∧Blk wr g R' ∧
  Hid (R'.length=R.length∧val (R'.take i)+x*val (Y.take i)=val (R.take i)+(bb+cc)*4294967296^i∧R'.drop i=R.drop i)∧w.grownBy wr (some g)) (fun _ _ iv _ _ _=>nr - (intOf iv).toNat)
 case atStart=>exact ⟨0,0,0,R,by omega,rfl,rfl,rfl,by omega,by omega,HR.out.1,⟨rfl,by simp,rfl⟩,rgrown_refl _ _⟩
 case round =>
  obtain ⟨i,cc,bb,R',hi,rfl,rfl,rfl,hcc,hbb,hR',hI,hG⟩:=hrel
  by_cases hin:i<nr
  ·have hcl:=hR'.cell (i:=i) (by have:=hI.out.1;have:=HR.out.2.1;omega)
   have hfz:=hR'.frozen i
   have hu32:=hR'.1.getD i
   have hy32:=HW.out.getD i
   have hstep:=fun s t' (hs:s+x*Y.getD i 0+(bb+cc)=R'.getD i 0+4294967296*t') =>
    rsub_step R R' Y i x (bb+cc) s t' (by have:=hI.out.1;have:=HR.out.2.1;omega) hI.out.1 hI.out.2.2 hI.out.2.1 hs
   have hc2:=fun (hin:i<nb)=>(HY.out _ hG).cell (k:=i) (by rw [HR.out.2.2.1];exact hin)
   have hz2:=fun (hin:nb≤i)=>getD_ge Y (k:=i) (by rw [HR.out.2.2.1];exact hin)
   obtain ⟨u,hgu⟩:∃u,R'.getD i 0=u:=⟨_,rfl⟩
   obtain ⟨y,hgy⟩:∃y,Y.getD i 0=y:=⟨_,rfl⟩
   rw [hgu] at hcl hu32 hstep
   rw [hgy] at hy32 hstep hc2 hz2
   have hmul:y*x≤4294967295*4294967295:=Nat.mul_le_mul (by omega) (by omega)
   obtain ⟨q,hq⟩:∃q,y*x=q:=⟨_,rfl⟩
   have hqI:(y:Int)*(x:Int)=(q:Int):=by rw [←hq];simp
   rw [Nat.mul_comm x y,hq] at hstep
   rw [hq] at hmul
   have hq0:y=0→q=0:=fun e=>by rw [←hq,e,Nat.zero_mul]
   obtain ⟨p,hp⟩:∃p,cc+q=p:=⟨_,rfl⟩
   have hmk:=mask64 p (by omega)
   have hmk':Go.bits .and .u64 (p:Int) 4294967295=(p:Int)%4294967296:=by rw [hmk];omega
   have hpI:(cc:Int)+(q:Int)=(p:Int):=by omega
   have hpb:p<18446744073709551616:=by omega
   have HS:=Lib.hid (And.intro hstep hp)
   have hc2:=Lib.hid hc2
   have hz2:=Lib.hid hz2
   have HQ0:=Lib.hid hq0
   clear hgu hgy hstep hmk hq hp hq0
   by_cases hin':i<nb
   ·obtain ⟨b',o',rfl,hcy⟩:=hc2.out hin'
    by_cases hxy:u<p%4294967296+bb
    ·have hs:=HS.out.1 (u+4294967296 - (p%4294967296+bb)) (p / 4294967296+1) (by have:=HS.out.2;omega)
     have HST:=Lib.hid hs
     clear hs
     go_wp2
     go_roundw
     case rel =>
      obtain ⟨h1,h2⟩:=HST.out
      exact ⟨i+1,p / 4294967296,1,R'.set i (u+4294967296 - (p%4294967296+bb)),by omega,by go_num,by congr 1 <;> omega,rfl,by omega,by omega,hR'.setI i (by omega) (by omega) (by omega),
       ⟨by rw [List.length_set];exact hI.out.1,by rw [Nat.add_comm 1];exact h1,h2⟩,rgrown_set hG _ _⟩
     case measure=>simp [intOf];omega
    ·have hs:=HS.out.1 (u - (p%4294967296+bb)) (p / 4294967296+0) (by have:=HS.out.2;omega)
     have HST:=Lib.hid hs
     clear hs
     go_wp2
     go_roundw
     case rel =>
      obtain ⟨h1,h2⟩:=HST.out
      exact ⟨i+1,p / 4294967296,0,R'.set i (u - (p%4294967296+bb)),by omega,by go_num,by congr 1 <;> omega,rfl,by omega,by omega,hR'.setI i (by omega) (by omega) (by omega),
       ⟨by rw [List.length_set];exact hI.out.1,by rw [Nat.add_comm 0];exact h1,h2⟩,rgrown_set hG _ _⟩
     case measure=>simp [intOf];omega
   ·obtain rfl:y=0:=hz2.out (by omega)
    have hq00:=HQ0.out rfl
    have hpc:p=cc:=by have:=HS.out.2;omega
    subst hpc
    by_cases hxy:u<p%4294967296+bb
    ·have hs:=HS.out.1 (u+4294967296 - (p%4294967296+bb)) (p / 4294967296+1) (by have:=HS.out.2;omega)
     have HST:=Lib.hid hs
     clear hs
     go_wp2
     go_roundw
     case rel =>
      obtain ⟨h1,h2⟩:=HST.out
      exact ⟨i+1,p / 4294967296,1,R'.set i (u+4294967296 - (p%4294967296+bb)),by omega,by go_num,by congr 1 <;> omega,rfl,by omega,by omega,hR'.setI i (by omega) (by omega) (by omega),
       ⟨by rw [List.length_set];exact hI.out.1,by rw [Nat.add_comm 1];exact h1,h2⟩,rgrown_set hG _ _⟩
     case measure=>simp [intOf];omega
    ·have hs:=HS.out.1 (u - (p%4294967296+bb)) (p / 4294967296+0) (by have:=HS.out.2;omega)
     have HST:=Lib.hid hs
     clear hs
     go_wp2
     go_roundw
     case rel =>
      obtain ⟨h1,h2⟩:=HST.out
      exact ⟨i+1,p / 4294967296,0,R'.set i (u - (p%4294967296+bb)),by omega,by go_num,by congr 1 <;> omega,rfl,by omega,by omega,hR'.setI i (by omega) (by omega) (by omega),
       ⟨by rw [List.length_set];exact hI.out.1,by rw [Nat.add_comm 0];exact h1,h2⟩,rgrown_set hG _ _⟩
     case measure=>simp [intOf];omega
  ·obtain rfl:i=nr:=by omega
   go_wp2
   go_end0
   obtain ⟨h1,h2,h3⟩:=hI.out
   obtain ⟨k1,k2,k3,k4⟩:=HR.out
   exact ⟨rfl,R',hG,hR',by omega,rsub_end R R' Y i x (bb+cc) hR'.1 (by omega) k2 (by omega) k4 h2⟩
set_option maxHeartbeats 1000000 in
theorem rguess_any (A:Option Addr) (c:Nat) (R:List Nat) (B:Option Addr) (n cb:Nat) (V:List Nat) (w:World) (hR:Rd w A R) (hl:R.length=n+2) (hV:Rd w B V) (hn:V.length=n+1)
  (hle:val V≤val R) (hm:n≤35184372088800) :
  Calls Tryz.prog 81 #[.slice A (n+2) c,.slice B (n+1) cb] w fun e w'=>∃G:Nat,e=.returned (.int .u64 (G:Int))∧1≤G∧G*val V≤val R∧∃d,w.drewN d=w':=by
 obtain ⟨b,o,rfl,hcR⟩:=hR.cells (by omega)
 obtain ⟨b',o',rfl,hcV⟩:=hV.cells (by omega)
 have h1:=hcR (n+1) (by omega)
 have h2:=hcR n (by omega)
 have h3:=hcV n (by omega)
 have x1:=hR.1.getD (n+1)
 have x2:=hR.1.getD n
 have x3:=hV.1.getD n
 have hg:=fun r1 r0 v0=>guess_le hR.1 hV.1 n hn hl r1 r0 v0
 obtain ⟨r1,hr1⟩:∃r1,R.getD (n+1) 0=r1:=⟨_,rfl⟩
 obtain ⟨r0,hr0⟩:∃r0,R.getD n 0=r0:=⟨_,rfl⟩
 obtain ⟨v0,hv0⟩:∃v0,V.getD n 0=v0:=⟨_,rfl⟩
 have hG:=hg r1 r0 v0 hr1 hr0 hv0
 rw [hr1] at h1 x1
 rw [hr0] at h2 x2
 rw [hv0] at h3 x3
 obtain ⟨T,hT⟩:∃T,r0+4294967296*r1=T:=⟨_,rfl⟩
 have hor:=or_hi' r0 r1 x2 x1
 rw [hT] at hor hG
 have e1:IntKind.i64.wrap ((n:Int)+1 - 1)=(n:Int):=by rw [IntKind.wrap_i64];omega
 have e2:((n:Int)+1).toNat=n+1:=by omega
 have e3:(0:Int)≤(n:Int)+1:=by omega
 have e4:(n:Int)+1<(n:Int)+2:=by omega
 have e5:IntKind.u64.wrap ((r1:Int)*4294967296)=(r1:Int)*4294967296:=by rw [IntKind.wrap_u64];omega
 have e6:IntKind.u64.wrap ((v0:Int)+1)=(v0:Int)+1:=by rw [IntKind.wrap_u64];omega
 have e7:(n:Int)<(n:Int)+2:=by omega
 have e8:(n:Int)<(n:Int)+1:=by omega
 obtain ⟨q,hq⟩:∃q,T / (v0+1)=q:=⟨_,rfl⟩
 have hqI:(T:Int) / ((v0:Int)+1)=(q:Int):=by rw [←hq];simp
 have hqb:q<18446744073709551616:=by rw [←hq];exact Nat.lt_of_le_of_lt (Nat.div_le_self _ _) (by omega)
 have e9:IntKind.u64.wrap (q:Int)=(q:Int):=by rw [IntKind.wrap_u64];omega
 rw [hq] at hG
 have HG:=Lib.hid (And.intro hG hle)
 clear hg hG hr1 hr0 hv0 hT hq hcR hcV hR hV hl hn hle
 go_enter Tryz.func81,Tryz.ntmps81
 go_wp2
 go_quiet (fail)
 clear e1 e2 e3 e4 e5 e6 e7 e8 e9 hor hqI
 by_cases hq0:q=0
 ·subst hq0
  go_wp2
  go_ret
  exact ⟨1,rfl,Nat.le_refl _,by rw [Nat.one_mul];exact HG.out.2,_,rfl⟩
 ·have hqb:((q:Int)==0)=false:=by rw [beq_eq_false_iff_ne];omega
  go_wp2
  go_ret
  exact ⟨q,rfl,by omega,HG.out.1,_,rfl⟩
end Go.Proofs.YtkhengkchlkhoaaGreatDoor
