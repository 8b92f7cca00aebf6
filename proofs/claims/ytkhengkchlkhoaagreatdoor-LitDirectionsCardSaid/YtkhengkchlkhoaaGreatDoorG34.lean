/- Vergeref3: made, infinite, greatest: a pattern out of its parts. -/
import Derived.Test.YtkhengkchlkhoaaGreatDoorG24
import Derived.Test.YtkhengkchlkhoaaGreatDoorG23
import Derived.Test.YtkhengkchlkhoaaGreatDoorG10
import Derived.Test.YtkhengkchlkhoaaGreatDoorG22
namespace Go.Proofs.YtkhengkchlkhoaaGreatDoor
set_option linter.unusedVariables false
set_option linter.unusedSimpArgs false
open Go.RowKit Verge
theorem or_top (x:Nat) (hx:x<9223372036854775808):Go.bits .or .u64 (x:Int) 9223372036854775808=((x+9223372036854775808:Nat):Int):=by
 have:=or_u64 x 9223372036854775808 63 hx (by decide) (by omega)
 exact this
theorem and_low (x:Nat) (hx:x<18446744073709551616):Go.bits .and .u64 (x:Int) 1=((x%2:Nat):Int):=by
 have e:Go.bits .and .u64 (x:Int) ((1:Nat):Int)=((x &&& 1:Nat):Int):=Go.u64_and_nat x 1 hx (by omega)
 rw [Nat.and_one_is_mod] at e
 exact e
theorem fpat_pos {s:Bool} {g:Nat} (h:0<g):fpat s g=if s then g+9223372036854775808 else g:=by unfold fpat;rw [if_neg (by omega)];split <;> omega
theorem inf_any (s:Bool) (w:World):Calls Tryz.prog 50 #[.bool s] w fun e w'=>e=.returned (.int .u64 (fpat s 9218868437227405312:Nat))∧w=w':=by
 cases s
 ·go_enter Tryz.func50,Tryz.ntmps50
  go_wp2
  go_ret
  exact ⟨rfl,rfl⟩
 ·go_enter Tryz.func50,Tryz.ntmps50
  go_wp2
  go_ret
  exact ⟨rfl,rfl⟩
section
set_option maxRecDepth 20000
set_option maxHeartbeats 2000000
theorem made_zero (s:Bool) (eI:Int) (w:World):Calls Tryz.prog 54 #[.bool s,.int .u64 0,.int .i64 eI] w fun e w'=>e=.returned (.int .u64 0)∧w=w':=by
 go_enter Tryz.func54,Tryz.ntmps54
 go_wp2
 go_ret
 exact ⟨rfl,rfl⟩
theorem made_low  (s:Bool) (g:Nat) (h0:0<g) (h1:g<4503599627370496) (w:World):Calls Tryz.prog 54 #[.bool s,.int .u64 (g:Int),.int .i64 (-1074)] w fun e w'=>e=.returned (.int .u64 (fpat s g:Nat))∧w=w':=by
 have ha:=and_low g (by omega)
 have hb:((g%2:Nat):Int)=0∨((g%2:Nat):Int)=1:=by omega
 have hor:=or_top g (by omega)
 rw [fpat_pos h0]
 have hz:((g:Int)==0)=false:=by simp;omega
 have d1:decide ((9007199254740992:Int)≤(g:Int))=false:=by simp;omega
 have d2:decide ((g:Int)<4503599627370496)=true:=by simp;omega
 have d3:decide ((4503599627370496:Int)≤(g:Int))=false:=by simp;omega
 clear h0 h1
 rcases hb with hb | hb <;> rw [hb] at ha <;> cases s <;> (
  go_enter Tryz.func54,Tryz.ntmps54
  (generalize (9007199254740992:Int)=C at d1 ⊢)
  (generalize hD:(4503599627370496:Int)=D at d2 d3 ⊢)
  go_wp2
  go_loop [1,2] (fun v e=>v=.int .u64 (g:Int)∧e=.int .i64 (-1074)) (fun _ _=>0)
  case atStart=>exact ⟨rfl,rfl⟩
  case round =>
   obtain ⟨rfl,rfl⟩:=hrel
   go_wp2
   go_loop [1,2] (fun v e=>v=.int .u64 (g:Int)∧e=.int .i64 (-1074)) (fun _ _=>0)
   case atStart=>exact ⟨rfl,rfl⟩
   case round =>
    obtain ⟨rfl,rfl⟩:=hrel
    go_wp2
    go_ret
    exact ⟨rfl,rfl⟩)
theorem made_mid (k:Nat) (eI:Int) (hk:k≤2045) (he:eI=(k:Int) - 1074) (s:Bool) (g:Nat) (h1:4503599627370496≤g) (h2:g<9007199254740992) (w:World):Calls Tryz.prog 54 #[.bool s,.int .u64 (g:Int),.int .i64 eI] w fun e w'=>e=.returned (.int .u64 (fpat s (k*4503599627370496+g):Nat))∧w=w':=by
 have ha:=and_low g (by omega)
 have hb:((g%2:Nat):Int)=0∨((g%2:Nat):Int)=1:=by omega
 obtain ⟨R,hR⟩:∃R,k*4503599627370496+g=R:=⟨_,rfl⟩
 rw [hR,fpat_pos (by omega)]
 have hor:=or_top R (by omega)
 have e1:∀D:Int,4503599627370496=D→IntKind.u64.wrap (IntKind.u64.wrap ((g:Int) - D)+IntKind.u64.wrap (IntKind.u64.wrap (wrap64 (eI+1075))*4503599627370496))=(R:Int):=by
  rintro D rfl
  simp only [IntKind.wrap_u64,wrap64]
  omega
 have hz:((g:Int)==0)=false:=by simp;omega
 have d1:decide ((9007199254740992:Int)≤(g:Int))=false:=by simp;omega
 have d2:decide ((g:Int)<4503599627370496)=false:=by simp;omega
 have d3:decide ((4503599627370496:Int)≤(g:Int))=true:=by simp;omega
 have c3 : -1074≤eI:=by omega
 have HK:=Lib.hid hk
 have HE:=Lib.hid he
 clear hk he h1 h2
 rcases hb with hb | hb <;> rw [hb] at ha <;> cases s <;> (
  go_enter Tryz.func54,Tryz.ntmps54
  (generalize (9007199254740992:Int)=C at d1 ⊢)
  (generalize hD:(4503599627370496:Int)=D at d2 d3 ⊢)
  have e1:=e1 D hD
  clear hD
  go_wp2
  go_loop [1,2] (fun v e=>v=.int .u64 (g:Int)∧e=.int .i64 eI) (fun _ _=>0)
  case atStart=>exact ⟨rfl,rfl⟩
  case round =>
   obtain ⟨rfl,rfl⟩:=hrel
   go_wp2
   go_loop [1,2] (fun v e=>v=.int .u64 (g:Int)∧e=.int .i64 eI) (fun _ _=>0)
   case atStart=>exact ⟨rfl,rfl⟩
   case round =>
    obtain ⟨rfl,rfl⟩:=hrel
    go_wp2
    go_ret
    exact ⟨rfl,rfl⟩)
theorem made_top (k:Nat) (eI:Int) (hk:k≤2045) (he:eI=(k:Int) - 1074) (s:Bool) (w:World):Calls Tryz.prog 54 #[.bool s,.int .u64 9007199254740992,.int .i64 eI] w fun e w'=>e=.returned (.int .u64 (fpat s (k*4503599627370496+9007199254740992):Nat))∧w=w':=by
 obtain ⟨R,hR⟩:∃R,k*4503599627370496+9007199254740992=R:=⟨_,rfl⟩
 rw [hR,fpat_pos (by omega)]
 have hor:=or_top R (by omega)
 obtain ⟨fI,hf⟩:∃fI,eI+1=fI:=⟨_,rfl⟩
 have hw:wrap64 fI=fI:=by simp only [wrap64];omega
 have e1:IntKind.u64.wrap (IntKind.u64.wrap (IntKind.u64.wrap (wrap64 (fI+1075))*4503599627370496))=(R:Int):=by
  simp only [IntKind.wrap_u64,wrap64]
  omega
 have c3 : -1074≤eI:=by omega
 have c4 : -1074≤fI:=by omega
 have c5:decide (eI < -1074)=false:=by simp;omega
 have c6:decide (fI < -1074)=false:=by simp;omega
 have HK:=Lib.hid hk
 have HE:=Lib.hid he
 have HR:=Lib.hid hR
 clear hk he hR
 cases s <;> (
  go_enter Tryz.func54,Tryz.ntmps54
  go_wp2
  go_loop [1,2] (fun v e=>(v=.int .u64 9007199254740992∧e=.int .i64 eI)∨(v=.int .u64 4503599627370496∧e=.int .i64 fI)) (fun v _=>(intOf v).toNat)
  case atStart=>exact .inl ⟨rfl,rfl⟩
  case round =>
   rcases hrel with ⟨rfl,rfl⟩ | ⟨rfl,rfl⟩
   ·go_wp2
    go_round
    case rel=>exact .inr ⟨rfl,by rw [hw]⟩
    case measure=>simp [intOf]
   ·have ha:Go.bits .and .u64 4503599627370496 1=0:=by decide
    go_wp2
    go_loop [1,2] (fun v e=>v=.int .u64 4503599627370496∧e=.int .i64 fI) (fun _ _=>0)
    case atStart=>exact ⟨rfl,rfl⟩
    case round =>
     obtain ⟨rfl,rfl⟩:=hrel
     go_wp2
     go_ret
     exact ⟨rfl,rfl⟩)
theorem made_any (k g:Nat) (eI:Int) (hk:k≤2045) (he:eI=(k:Int) - 1074) (hg:g≤9007199254740992) (h0:g<4503599627370496→k=0) (s:Bool) (w:World):Calls Tryz.prog 54 #[.bool s,.int .u64 (g:Int),.int .i64 eI] w fun e w'=>e=.returned (.int .u64 (fpat s (k*4503599627370496+g):Nat))∧w=w':=by
 by_cases hz:g=0
 ·subst hz
  rw [show k*4503599627370496+0=0 by rw [h0 (by omega)]]
  exact made_zero s eI w
 by_cases hl:g<4503599627370496
 ·obtain rfl:=h0 hl
  obtain rfl:eI = -1074:=by omega
  rw [Nat.zero_mul,Nat.zero_add]
  exact made_low s g (by omega) hl w
 by_cases hm:g<9007199254740992
 ·exact made_mid k eI hk he s g (by omega) hm w
 ·obtain rfl:g=9007199254740992:=by omega
  exact made_top k eI hk he s w
theorem great_any (s:Bool) (w:World):Calls Tryz.prog 51 #[.bool s,.int .i64 53,.int .i64 1023] w fun e w'=>e=.returned (.int .u64 (fpat s 9218868437227405311:Nat))∧w=w':=by
 have h:=Lib.hid (fun W=>made_any 2045 9007199254740991 971 (by omega) (by omega) (by omega) (by omega) s W)
 go_enter Tryz.func51,Tryz.ntmps51
 go_wp2_with fail
 refine (h.out _).mono ?_
 rintro e w1 ⟨rfl,rfl⟩
 go_wp2
 go_ret
 exact ⟨rfl,rfl⟩
end
end Go.Proofs.YtkhengkchlkhoaaGreatDoor
namespace Go.Proofs.YtkhengkchlkhoaaGreatDoor
set_option linter.unusedVariables false
set_option linter.unusedSimpArgs false
open Go.RowKit Verge
section
variable {w:World} {v u:Value} {xs ys:List Nat}
theorem len_is (hv:IsL xs v w) (hb:xs.length≤35184372088700):Calls Tryz.prog 49 #[v] w fun e w'=>e=.returned (.int .i64 (blen (val xs):Nat))∧w=w':=by
 obtain ⟨A,c,rfl,h⟩:=hv
 exact rlen_any A _ c xs w h rfl (by omega)
theorem left_is (e:Nat) (eI:Int) (he:(e:Int)=eI) (hv:IsL xs v w) (hb:xs.length+e / 32+1≤35184372088800):Calls Tryz.prog 34 #[v,.int .i64 eI] w (Ans w (IsN (val xs*2^e))):=by
 obtain ⟨A,c,rfl,h⟩:=hv
 have:=wl_le xs
 exact ans_doc (rleft_any A _ c xs e eI w he h rfl (by omega) (by omega))
theorem by_is (hv:IsL xs v w) (hu:IsL ys u w) (h1:xs.length≤35184372088700) (h2:ys.length≤35184372088700) (hy:0<val ys):Calls Tryz.prog 52 #[v,u] w (Ans w (Is2 (IsN (val xs / val ys)) (IsN (val xs%val ys)))):=by
 obtain ⟨A,c,rfl,h⟩:=hv
 obtain ⟨B,d,rfl,k⟩:=hu
 refine (rby_any A _ c xs B _ d ys w h rfl k rfl h1 h2 hy).mono ?_
 rintro e w' ⟨A1,c1,A2,c2,he,r1,_,_,r2,_,_,hb⟩
 exact ⟨_,he,⟨_,_,rfl,⟨A1,c1,rfl,r1⟩,⟨A2,c2,rfl,r2⟩⟩,hb⟩
theorem word_is {n:Nat} (hv:IsN n v w) (hn:n<18446744073709551616):Calls Tryz.prog 53 #[v] w fun e w'=>e=.returned (.tuple #[.int .u64 (n:Int),.bool true])∧w=w':=by
 obtain ⟨A,c,rfl,h⟩:=hv
 have:=rword_any A _ c (dig n) w h rfl (by have:=dig_length_mono (Nat.le_of_lt hn);have e:(dig 18446744073709551616).length≤3:=dig_length_le.2 (by decide);omega)
 rw [val_dig,if_pos hn,decide_eq_true hn] at this
 exact this
end
theorem blen_dig (n:Nat):blen n≤32*(dig n).length:=by
 rw [blen_lt]
 have:=(dig_length_le (n:=n) (k:=(dig n).length)).1 (Nat.le_refl _)
 rwa [show (4294967296:Nat)=2^32 by rfl,←Nat.pow_mul] at this
theorem dig_left_length (n e:Nat):(dig (n*2^e)).length≤(dig n).length+e / 32+1:=by
 have h1:=dig_mul_length n (2^e)
 have h2:(dig (2^e)).length≤e / 32+1:=dig_length_le.2 (by
  rw [show (4294967296:Nat)=2^32 by rfl,←Nat.pow_mul]
  exact Nat.pow_lt_pow_right (by omega) (by omega))
 omega
section
variable (d:Int) (s:Bool) (X Y:List Nat) (va vb:Value) (K:Nat) (w:World)
set_option maxRecDepth 20000 in
set_option maxHeartbeats 16000000 in
theorem rounded_pos (ha:IsL X va w) (hb:IsL Y vb w) (h1:X.length≤8796093022000) (h2:Y.length≤8796093022000) (hx:0<val X) (hy:0<val Y) (hK:K=1074) :
    Calls Tryz.prog 28 #[.int .i64 d,.agg #[.bool s,va,vb],.int .i64 53,.int .i64 1023] w (Ans w (IsV (.int .u64 (fpat s (rng d s (val X*2^K) (val Y)):Nat)))):=by
  have HB:=Lib.hid (rnew w (.cells #[.bool s,va,vb] 25))
  have HC:=Lib.hid (Box3.new w (.bool s) va vb)
  have HX:=Lib.hid (IsL.mono _ _ _ _ HB.out ha)
  have HY:=Lib.hid (IsL.mono _ _ _ _ HB.out hb)
  have RO:=Lib.hid (fun h=>rng_over hx hy hK d s h)
  have RI:=Lib.hid (fun h x y=>rng_in hx hy hK d s h x y)
  have e1:=wl_eq ha.words
  have e2:=wl_eq hb.words
  have:=wl_le X
  have:=wl_le Y
  have hbn:blen (val X)≤281474976704000:=Nat.le_trans (blen_dig _) (by omega)
  have hbm:blen (val Y)≤281474976704000:=Nat.le_trans (blen_dig _) (by omega)
  have hbx:=blen_pos (show val X≠0 by omega)
  have hby:=blen_pos (show val Y≠0 by omega)
  have HWX:=Lib.hid (show (dig (val X)).length≤8796093022000 by omega)
  have HWY:=Lib.hid (show (dig (val Y)).length≤8796093022000 by omega)
  have HL:=Lib.hid (And.intro h1 (And.intro h2 (And.intro hx hy)))
  have hF:rF (val X) (val Y)=if rFc (val X) (val Y) then (blen (val X):Int) - blen (val Y) - 1 else (blen (val X):Int) - blen (val Y):=rfl
  have hC:=Lib.hid (show rFc (val X) (val Y)↔(0≤(blen (val X):Int) - blen (val Y)∧val X<val Y*2^((blen (val X):Int) - blen (val Y)).toNat)∨((blen (val X):Int) - blen (val Y)<0∧val X*2^(-((blen (val X):Int) - blen (val Y))).toNat<val Y) from Iff.rfl)
  obtain ⟨R,hR⟩:∃R,rng d s (val X*2^K) (val Y)=R:=⟨_,rfl⟩
  rw [hR] at RO RI ⊢
  obtain ⟨k,hk⟩:∃k,rK (val X) (val Y)=k:=⟨_,rfl⟩
  have hk':=hk
  unfold rK at hk'
  obtain ⟨f,hf⟩:∃f,rF (val X) (val Y)=f:=⟨_,rfl⟩
  rw [hk,hf] at RI
  rw [hf] at RO hk' hF
  have LX:=Lib.hid (fun W h=>len_is (w:=W) (v:=va) (xs:=X) h (by omega))
  have LY:=Lib.hid (fun W h=>len_is (w:=W) (v:=vb) (xs:=Y) h (by omega))
  generalize blen (val X)=bn at *
  generalize blen (val Y)=bm at *
  obtain ⟨F,hFF⟩:∃F,(bn:Int) - bm=F:=⟨_,rfl⟩
  rw [hFF] at hF hC
  obtain ⟨c,hc⟩:∃c,decide (rFc (val X) (val Y))=c:=⟨_,rfl⟩
  have hfc:f=if c then F - 1 else F:=by rw [hF,←hc];simp
  have hcc:c=true↔(0≤F∧val X<val Y*2^F.toNat)∨(F<0∧val X*2^(-F).toNat<val Y):=by rw [←hc,decide_eq_true_iff];exact hC.out
  have hFb : -281474976704000≤F∧F≤281474976704000:=by omega
  have hfb : -281474976704002≤f∧f≤281474976704000:=by rw [hfc];cases c <;> simp <;> omega
  have hw:wrap64 ((bn:Int) - bm)=F:=by rw [hFF];simp only [wrap64];omega
  have HF:=Lib.hid hfc
  have HCC:=Lib.hid hcc
  have HK:=Lib.hid hk'
  have HFB:=Lib.hid (And.intro hFb hfb)
  obtain ⟨aw,haw⟩:∃aw,decide (d=1∧s=false∨d = -1∧s=true)=aw:=⟨_,rfl⟩
  obtain ⟨ne,hne⟩:∃ne,decide (d≠1∧d ≠ -1)=ne:=⟨_,rfl⟩
  have hex:aw=true→ne=false:=by
    rw [←haw,←hne]
    intro h
    have h:=of_decide_eq_true h
    exact decide_eq_false (by rcases h with ⟨h,_⟩ | ⟨h,_⟩ <;> rw [h] <;> simp)
  have HAW:=Lib.hid (And.intro haw (And.intro hne hex))
  clear ha hb h1 h2 hx hy hK hR hk hk' hf hF hC hc hfc hcc hFb hfb haw hne hex hbn hbm hbx hby e1 e2 hFF
  obtain ⟨sg,hsg⟩:∃sg:Int,rsgn s (val X)=sg:=⟨_,rfl⟩
  have hsg0:(sg==0)=false:=by
    rw [←hsg];have:=HL.out.2.2.1;unfold rsgn;rw [if_neg (by omega)];cases s <;> rfl
  have hsg1:decide (sg<0)=s:=by
    rw [←hsg];have:=HL.out.2.2.1;unfold rsgn;rw [if_neg (by omega)];cases s <;> rfl
  have hsg2:decide (0<sg) = !s:=by
    rw [←hsg];have:=HL.out.2.2.1;unfold rsgn;rw [if_neg (by omega)];cases s <;> rfl
  have HS:=Lib.hid (fun W h=>rsgn_is (w:=W) (va:=.agg #[.bool s,va,vb]) (s:=s) (X:=X) (Y:=Y) h (by have:=HL.out;omega))
  rw [hsg] at HS
  clear hsg
  obtain ⟨k0,k1,k2⟩:=HC.out.cells
  go_enter Tryz.func28,Tryz.ntmps28
  go_wp2_with fail
  refine (HS.out _ ⟨va,vb,rfl,HX.out,HY.out⟩).mono ?_
  rintro en w1 ⟨_,rfl,rfl,hb⟩
  have HB:=Lib.hid (raft HB.out hb)
  have HC:=Lib.hid (HC.out.later hb)
  have HX:=Lib.hid (IsL.mono _ _ _ _ hb HX.out)
  have HY:=Lib.hid (IsL.mono _ _ _ _ hb HY.out)
  clear hb k0 k1 k2
  obtain ⟨k0,k1,k2⟩:=HC.out.cells
  clear HS
  go_upto_region 4 with fail
  go_cut [10] from 25 to 38 (fun v10 wx=>v10=.bool aw∧wx=w1)
  case first =>
    clear HX HY HB HC RO RI LX LY HL HF HCC HK HFB k0 k1 k2
    rcases (show d=1∨d = -1∨(d≠1∧d ≠ -1) by omega) with hd | hd | ⟨hd,hd'⟩
    · subst hd
      have haw:aw = !s:=by rw [←HAW.out.1];cases s <;> simp
      cases s <;> (
        go_wp2
        go_meet
        case rel=>exact ⟨by rw [haw];rfl,rfl⟩)
    · subst hd
      have haw:aw=s:=by rw [←HAW.out.1];cases s <;> simp
      go_wp2
      go_meet
      case rel=>exact ⟨by rw [haw],rfl⟩
    · have haw:aw=false:=by rw [←HAW.out.1];simp [hd,hd']
      have hd1:(d==1)=false:=by simpa using hd
      have hd2:(d == -1)=false:=by simpa using hd'
      go_wp2
      go_meet
      case rel=>exact ⟨by rw [haw],rfl⟩
  case rest =>
    obtain ⟨rfl,rfl⟩:=hcut
    go_upto_region 5 with fail
    go_cut [11] from 39 to 44 (fun v11 wx=>v11=.bool ne∧wx=wc)
    case first =>
      clear HX HY HB HC RO RI LX LY HL HF HCC HK HFB k0 k1 k2
      rcases (show d=1∨d = -1∨(d≠1∧d ≠ -1) by omega) with hd | hd | ⟨hd,hd'⟩
      · subst hd
        have haw:ne=false:=by rw [←HAW.out.2.1];simp
        go_wp2
        go_meet
        case rel=>exact ⟨by rw [haw],rfl⟩
      · subst hd
        have haw:ne=false:=by rw [←HAW.out.2.1];simp
        go_wp2
        go_meet
        case rel=>exact ⟨by rw [haw],rfl⟩
      · have haw:ne=true:=by rw [←HAW.out.2.1];simp [hd,hd']
        have hd1:(d==1)=false:=by simpa using hd
        have hd2:(d == -1)=false:=by simpa using hd'
        go_wp2
        go_meet
        case rel=>exact ⟨by rw [haw];simp [bne,hd1,hd2],rfl⟩
    case rest =>
      obtain ⟨rfl,rfl⟩:=hcut
      go_wp2_with fail
      refine (LX.out _ HX.out).mono ?_
      rintro en w2 ⟨rfl,rfl⟩
      go_wp2_with fail
      refine (LY.out _ HY.out).mono ?_
      rintro en w2 ⟨rfl,rfl⟩
      clear LX LY
      go_upto_region 9 with fail
      rw [hw]
      clear hw
      go_cut [76] from 54 to 75 (fun v wx=>v=.bool c∧Below wc.heap.size wc wx)
      case first =>
        clear RO RI HK HAW
        rcases Int.lt_or_le F 0 with hF0 | hF0
        · have g1:decide ((0:Int)≤F)=false:=by simp;omega
          have g2:decide (F<0)=true:=by simp;omega
          obtain ⟨t,ht⟩:∃t:Nat,(t:Int) = -F:=⟨(-F).toNat,by omega⟩
          have g3:wrap64 (-F) = -F:=by have:=HFB.out;simp only [wrap64];omega
          have ht':(-F).toNat=t:=by omega
          have hcc:=HCC.out
          rw [ht'] at hcc
          have hq:decide (cmp (val X*2^t) (val Y)<0)=c:=by
            have:cmp (val X*2^t) (val Y)<0↔val X*2^t<val Y:=by unfold cmp;split <;> (try split) <;> omega
            cases c with
            | true=>simp;rw [this];rcases hcc.1 rfl with ⟨h,h'⟩ | ⟨h,h'⟩ <;> omega
            | false =>
              simp;rcases Int.lt_or_le (cmp (val X*2^t) (val Y)) 0 with h | h
              · have:=hcc.2 (.inr ⟨hF0,this.1 h⟩);cases this
              · exact h
          have HLf:=Lib.hid (fun W h=>left_is (w:=W) (v:=va) (xs:=X) t (-F) ht h (by have:=HL.out;have:=HFB.out;omega))
          have HCm:=Lib.hid (fun W v v' h h'=>cmp_is (w:=W) (v:=v) (u:=v') (xs:=dig (val X*2^t)) (ys:=Y) h h' (by have:=dig_left_length (val X) t;have:=HL.out;have:=HFB.out;have:=HWX.out;have:=HWY.out;omega) (by have:=dig_left_length (val X) t;have:=HL.out;have:=HFB.out;have:=HWX.out;have:=HWY.out;omega))
          rw [val_dig] at HCm
          obtain ⟨q,hqq⟩:∃q,cmp (val X*2^t) (val Y)=q:=⟨_,rfl⟩
          rw [hqq] at hq HCm
          clear hqq hcc HCC ht ht' HFB HL
          go_wp2_with fail
          refine (HLf.out _ HX.out).mono ?_
          rintro en w2 ⟨vl,rfl,hv,hb⟩
          have hb0:=Lib.hid hb
          have HV:=Lib.hid hv
          have HX:=Lib.hid (IsL.mono _ _ _ _ hb HX.out)
          have HY:=Lib.hid (IsL.mono _ _ _ _ hb HY.out)
          clear hb hv
          go_wp2_with fail
          refine (HCm.out _ _ _ HV.out HY.out).mono ?_
          rintro en w3 ⟨_,rfl,rfl,hb⟩
          have hb0:=Lib.hid (raft hb0.out hb)
          clear hb
          (
          go_wp2
          go_meet
          case rel=>exact ⟨rfl,hb0.out⟩)
        · have g1:decide ((0:Int)≤F)=true:=by simp;omega
          have g2:decide (F<0)=false:=by simp;omega
          obtain ⟨t,ht⟩:∃t:Nat,(t:Int)=F:=⟨(F).toNat,by omega⟩
          have g3:wrap64 (-F) = -F:=by have:=HFB.out;simp only [wrap64];omega
          have ht':(F).toNat=t:=by omega
          have hcc:=HCC.out
          rw [ht'] at hcc
          have hq:decide (cmp (val X) (val Y*2^t)<0)=c:=by
            have:cmp (val X) (val Y*2^t)<0↔val X<val Y*2^t:=by unfold cmp;split <;> (try split) <;> omega
            cases c with
            | true=>simp;rw [this];rcases hcc.1 rfl with ⟨h,h'⟩ | ⟨h,h'⟩ <;> omega
            | false =>
              simp;rcases Int.lt_or_le (cmp (val X) (val Y*2^t)) 0 with h | h
              · have:=hcc.2 (.inl ⟨hF0,this.1 h⟩);cases this
              · exact h
          have HLf:=Lib.hid (fun W h=>left_is (w:=W) (v:=vb) (xs:=Y) t (F) ht h (by have:=HL.out;have:=HFB.out;omega))
          have HCm:=Lib.hid (fun W v v' h h'=>cmp_is (w:=W) (v:=v) (u:=v') (xs:=X) (ys:=dig (val Y*2^t)) h h' (by have:=dig_left_length (val Y) t;have:=HL.out;have:=HFB.out;have:=HWX.out;have:=HWY.out;omega) (by have:=dig_left_length (val Y) t;have:=HL.out;have:=HFB.out;have:=HWX.out;have:=HWY.out;omega))
          rw [val_dig] at HCm
          obtain ⟨q,hqq⟩:∃q,cmp (val X) (val Y*2^t)=q:=⟨_,rfl⟩
          rw [hqq] at hq HCm
          clear hqq hcc HCC ht ht' HFB HL
          go_wp2_with fail
          refine (HLf.out _ HY.out).mono ?_
          rintro en w2 ⟨vl,rfl,hv,hb⟩
          have hb0:=Lib.hid hb
          have HV:=Lib.hid hv
          have HX:=Lib.hid (IsL.mono _ _ _ _ hb HX.out)
          have HY:=Lib.hid (IsL.mono _ _ _ _ hb HY.out)
          clear hb hv
          go_wp2_with fail
          refine (HCm.out _ _ _ HX.out HV.out).mono ?_
          rintro en w3 ⟨_,rfl,rfl,hb⟩
          have hb0:=Lib.hid (raft hb0.out hb)
          clear hb
          cases c <;> (
          go_wp2
          go_meet
          case rel=>exact ⟨rfl,hb0.out⟩)
      case rest =>
        obtain ⟨rfl,hb⟩:=hcut
        have HB:=Lib.hid (raft HB.out hb)
        have HC:=Lib.hid (HC.out.later hb)
        have HX:=Lib.hid (IsL.mono _ _ _ _ hb HX.out)
        have HY:=Lib.hid (IsL.mono _ _ _ _ hb HY.out)
        clear hb k0 k1 k2 HCC
        go_upto_if 76 with fail
        go_cut [14] from 77 to 78 (fun v wx=>v=.int .i64 f∧wx=wc)
        case first =>
          have hf:=HF.out
          have hfb:=HFB.out
          cases c with
          | true =>
            have hw1:wrap64 (F - 1)=f:=by simp only [wrap64];simp only [if_true] at hf;omega
            clear hf hfb
            go_wp2
            go_meet
            case rel=>exact ⟨rfl,rfl⟩
          | false =>
            have hw1:F=f:=by rw [hf];simp
            clear hf hfb
            go_wp2
            go_meet
            case rel=>exact ⟨by rw [hw1],rfl⟩
        case rest =>
          obtain ⟨rfl,rfl⟩:=hcut
          have hfb:=HFB.out
          by_cases hov:1023<f
          · have hr:=RO.out hov
            have g1:decide (1023<f)=true:=by simp;omega
            have haw:=HAW.out
            clear RO RI HX HY HL HF HK HFB HWX HWY hfb
            have hcond:aw=true∨ne=true→R=9218868437227405312:=by
              rintro (h | h)
              · rw [h] at haw;rw [hr,if_pos (.inl (of_decide_eq_true haw.1))]
              · rw [h] at haw;rw [hr,if_pos (.inr (of_decide_eq_true haw.2.1))]
            have hcond2:aw=false→ne=false→R=9218868437227405311:=by
              intro h1 h2;rw [h1,h2] at haw
              rw [hr,if_neg]
              rintro (h | h)
              · exact absurd h (of_decide_eq_false haw.1)
              · exact absurd h (of_decide_eq_false haw.2.1)
            clear hr haw HAW hov
            cases aw with
            | true =>
              obtain rfl:=hcond (.inl rfl)
              clear hcond hcond2
              go_wp2_with fail
              refine (inf_any s _).mono ?_
              rintro en w5 ⟨rfl,rfl⟩
              go_wp2
              go_ret
              exact ⟨_,rfl,rfl,HB.out⟩
            | false =>
              cases ne with
              | true =>
                obtain rfl:=hcond (.inr rfl)
                clear hcond hcond2
                go_wp2_with fail
                refine (inf_any s _).mono ?_
                rintro en w5 ⟨rfl,rfl⟩
                go_wp2
                go_ret
                exact ⟨_,rfl,rfl,HB.out⟩
              | false =>
                obtain rfl:=hcond2 rfl rfl
                clear hcond hcond2
                go_wp2_with fail
                refine (great_any s _).mono ?_
                rintro en w5 ⟨rfl,rfl⟩
                go_wp2
                go_ret
                exact ⟨_,rfl,rfl,HB.out⟩
          · have g1:decide (1023<f)=false:=by simp;omega
            obtain ⟨e0,he0⟩:∃e0,f - 52=e0:=⟨_,rfl⟩
            obtain ⟨e,he⟩:∃e:Int,(k:Int) - 1074=e:=⟨_,rfl⟩
            have hk:=HK.out
            have hwe:wrap64 (wrap64 (f - 53)+1)=e0:=by simp only [wrap64];omega
            obtain ⟨lo,hlo⟩:∃lo,decide (e0 < -1074)=lo:=⟨_,rfl⟩
            have hle:e=if lo then -1074 else e0:=by
              cases lo with
              | true=>have:=of_decide_eq_true hlo;simp;omega
              | false=>have:=of_decide_eq_false hlo;simp;omega
            have HLE:=Lib.hid hle
            have heb : -1074≤e∧e≤971:=by omega
            have HEB:=Lib.hid (And.intro heb (And.intro he hov))
            clear hle hk heb he hov hfb RO he0
            go_upto_if 103 with fail
            (try rw [hwe])
            go_cut [15] from 104 to 107 (fun v wx=>v=.int .i64 e∧wx=wc)
            case first =>
              have hle:=HLE.out
              clear RI HX HY HL HF HK HFB HWX HWY HAW HLE HEB
              cases lo with
              | true =>
                simp only [if_true] at hle
                subst hle
                go_wp2
                go_meet
                case rel=>exact ⟨rfl,rfl⟩
              | false =>
                simp only [Bool.false_eq_true,if_false] at hle
                subst hle
                go_wp2
                go_meet
                case rel=>exact ⟨rfl,rfl⟩
            case rest =>
              obtain ⟨rfl,rfl⟩:=hcut
              clear hwe hlo g1
              obtain ⟨hi,hhi⟩:∃hi,decide ((0:Int)≤e)=hi:=⟨_,rfl⟩
              obtain ⟨x,hx⟩:∃x,(-e).toNat=x:=⟨_,rfl⟩
              obtain ⟨y,hy⟩:∃y,e.toNat=y:=⟨_,rfl⟩
              have hxy:(k:Int) - 1074=(y:Int) - x∧(x=0∨y=0):=by have:=HEB.out;omega
              have RI:=Lib.hid (RI.out (by have:=HEB.out;omega) x y hxy.1 hxy.2 _ _ _ rfl rfl rfl)
              go_upto_if 109 with fail
              go_cut [12,13] from 110 to 116 (fun v12 v13 wx=>∃XS YS,IsL XS v12 wx∧IsL YS v13 wx∧Hid (val XS=val X*2^x∧val YS=val Y*2^y∧XS.length≤8796093022100∧YS.length≤8796093022100)∧Below wc.heap.size wc wx)
              case first =>
                have hb:=HEB.out.1
                have hl:=HL.out
                have hl1:=HWX.out
                have hl2:=HWY.out
                clear RI HF HK HFB HAW HLE HEB HWX HWY HL
                cases hi with
                | true =>
                  have he:=of_decide_eq_true hhi
                  have hLf:=Lib.hid (fun W h=>left_is (w:=W) (v:=vb) (xs:=Y) y e (by omega) h (by omega))
                  have hx0:x=0:=by omega
                  have hdl:=dig_left_length (val Y) y
                  have HD:=Lib.hid (show (dig (val Y*2^y)).length≤8796093022100 by omega)
                  have HL:=Lib.hid (show X.length≤8796093022100 by omega)
                  clear hb hl hl1 hl2 he hx hy hxy hdl
                  go_wp2_with fail
                  refine (hLf.out _ HY.out).mono ?_
                  rintro en w5 ⟨vl,rfl,hv,hb⟩
                  have HV:=Lib.hid hv
                  have HX:=Lib.hid (IsL.mono _ _ _ _ hb HX.out)
                  have HW:=Lib.hid hb
                  clear hb hv
                  go_wp2
                  go_meet
                  case rel=>exact ⟨_,_,HX.out,HV.out,Lib.hid ⟨by rw [hx0,Nat.pow_zero,Nat.mul_one],val_dig _,HL.out,HD.out⟩,HW.out⟩
                | false =>
                  have he:=of_decide_eq_false hhi
                  have hwn:wrap64 (-e) = -e:=by simp only [wrap64];omega
                  have hLf:=Lib.hid (fun W h=>left_is (w:=W) (v:=va) (xs:=X) x (-e) (by omega) h (by omega))
                  have hx0:y=0:=by omega
                  have hdl:=dig_left_length (val X) x
                  have HD:=Lib.hid (show (dig (val X*2^x)).length≤8796093022100 by omega)
                  have HL:=Lib.hid (show Y.length≤8796093022100 by omega)
                  clear hb hl hl1 hl2 he hx hy hxy hdl
                  go_wp2_with fail
                  refine (hLf.out _ HX.out).mono ?_
                  rintro en w5 ⟨vl,rfl,hv,hb⟩
                  have HV:=Lib.hid hv
                  have HY:=Lib.hid (IsL.mono _ _ _ _ hb HY.out)
                  have HW:=Lib.hid hb
                  clear hb hv
                  go_wp2
                  go_meet
                  case rel=>exact ⟨_,_,HV.out,HY.out,Lib.hid ⟨val_dig _,by rw [hx0,Nat.pow_zero,Nat.mul_one],HD.out,HL.out⟩,HW.out⟩
              case rest =>
                obtain ⟨XS,YS,hXS,hYS,hh,hb⟩:=hcut
                have HB:=Lib.hid (raft HB.out hb)
                have HXS:=Lib.hid hXS
                have HYS:=Lib.hid hYS
                have hM0:0<val Y*2^y:=Nat.mul_pos HL.out.2.2.2 (Nat.two_pow_pos _)
                have HBy:=Lib.hid (fun W v v' h h'=>by_is (w:=W) (v:=v) (u:=v') (xs:=XS) (ys:=YS) h h' (by have:=hh.out;omega) (by have:=hh.out;omega) (by rw [hh.out.2.1];exact hM0))
                rw [hh.out.1,hh.out.2.1] at HBy
                have HMv:val YS=val Y*2^y:=hh.out.2.1
                have HRl:=Lib.hid (show (dig (val X*2^x%(val Y*2^y))).length≤8796093022100 by
                  have h1:=wl_eq hYS.words
                  rw [HMv] at h1
                  have h2:=wl_le YS
                  have h3:=dig_length_mono (Nat.le_of_lt (Nat.mod_lt (val X*2^x) hM0))
                  have:=hh.out
                  omega)
                obtain ⟨g,hg⟩:∃g,val X*2^x / (val Y*2^y)=g:=⟨_,rfl⟩
                obtain ⟨r,hr⟩:∃r,val X*2^x%(val Y*2^y)=r:=⟨_,rfl⟩
                obtain ⟨m,hm⟩:∃m,val Y*2^y=m:=⟨_,rfl⟩
                rw [hg,hr] at HBy
                rw [hr] at HRl
                rw [hg,hr,hm] at RI
                rw [hm] at HMv
                obtain ⟨rp,hrp⟩:∃rp,decide (r≠0)=rp:=⟨_,rfl⟩
                obtain ⟨lr,hlr⟩:∃lr,(dig r).length=lr:=⟨_,rfl⟩
                have hlp:decide ((0:Int)<(lr:Int))=rp:=by
                  rw [←hlr,←hrp]
                  refine decide_eq_decide.2 ?_
                  have:(dig r).length=0↔r=0:=by
                    constructor
                    · intro h
                      have:=(dig_length_le (n:=r) (k:=0)).1 (by omega)
                      omega
                    · intro h;rw [h,dig_zero];rfl
                  omega
                obtain ⟨q,hq⟩:∃q,cmp (r*2^1) m=q:=⟨_,rfl⟩
                obtain ⟨p1,hp1⟩:∃p,decide (0<q)=p:=⟨_,rfl⟩
                obtain ⟨p2,hp2⟩:∃p,(q==0)=p:=⟨_,rfl⟩
                obtain ⟨od,hod⟩:∃p,((g:Int)%2==1)=p:=⟨_,rfl⟩
                obtain ⟨b,hbd⟩:∃b,((aw&&rp)||(ne&&(p1||(p2&&od))))=b:=⟨_,rfl⟩
                have hbc:((d=1∧s=false∨d = -1∧s=true)∧r≠0∨(d≠1∧d ≠ -1)∧(m<2*r∨m=2*r∧g%2=1))↔b=true:=by
                  have c1:p1=true↔m<2*r:=by rw [←hp1,←hq];simp only [decide_eq_true_iff];unfold cmp;split <;> (try split) <;> omega
                  have c2:p2=true↔m=2*r:=by rw [←hp2,←hq];simp only [beq_iff_eq];unfold cmp;split <;> (try split) <;> omega
                  have c3:od=true↔g%2=1:=by rw [←hod];simp only [beq_iff_eq];omega
                  have c4:rp=true↔r≠0:=by rw [←hrp];simp
                  have c5:aw=true↔(d=1∧s=false∨d = -1∧s=true):=by rw [←HAW.out.1];simp only [decide_eq_true_iff]
                  have c6:ne=true↔(d≠1∧d ≠ -1):=by rw [←HAW.out.2.1];simp only [decide_eq_true_iff]
                  rw [←c1,←c2,←c3,←c4,←c5,←c6,←hbd]
                  simp
                simp only [hbc] at RI
                have hri:=RI.out
                have hgb:(g:Int)+1<18446744073709551616:=by omega
                have HG:=Lib.hid (show g<18446744073709551616 by omega)
                have HBD:=Lib.hid (And.intro hbd HAW.out.2.2)
                have HCm:=Lib.hid (fun W v v' h h'=>cmp_is (w:=W) (v:=v) (u:=v') (xs:=dig (r*2^1)) (ys:=YS) h h' (by have:=dig_left_length r 1;have:=HRl.out;omega) (by have:=hh.out;omega))
                rw [val_dig,HMv,hq] at HCm
                have HL1:=Lib.hid (fun W v h=>left_is (w:=W) (v:=v) (xs:=dig r) 1 1 (by rfl) h (by have:=HRl.out;omega))
                rw [val_dig] at HL1
                have HW:=Lib.hid (fun W v (h:IsN g v W)=>word_is (w:=W) h HG.out)
                obtain ⟨gb,hgbd⟩:∃gb,g+(if b=true then 1 else 0)=gb:=⟨_,rfl⟩
                rw [hgbd] at hri
                have HRI:=Lib.hid (And.intro hri hgbd)
                have hgw:IntKind.u64.wrap ((g:Int)+1)=(g:Int)+1:=by rw [IntKind.wrap_u64];omega
                have HGW:=Lib.hid hgw
                have HPP:=Lib.hid (And.intro hp1 (And.intro hp2 (And.intro hod (And.intro hlp hlr))))
                clear hri hlp hgw hgb hbc RI HAW hbd hrp hq hlr hM0 hh HMv hg hr hm hXS hYS hb hod hp1 hp2 hgbd
                go_wp2_with fail
                refine (HBy.out _ _ _ HXS.out HYS.out).mono ?_
                rintro en w5 ⟨_,rfl,⟨vq,vr,rfl,hQ,hR⟩,hb⟩
                have HB:=Lib.hid (raft HB.out hb)
                have HYS:=Lib.hid (IsL.mono _ _ _ _ hb HYS.out)
                have HQ:=Lib.hid hQ
                have HR:=Lib.hid hR
                clear hQ hR hb HBy
                go_wp2_with fail
                refine (HW.out _ _ HQ.out).mono ?_
                rintro en w6 ⟨rfl,rfl⟩
                go_wp2_with fail
                refine (HL1.out _ _ HR.out).mono ?_
                rintro en w6 ⟨vl,rfl,hv,hb⟩
                have HB:=Lib.hid (raft HB.out hb)
                have HYS:=Lib.hid (IsL.mono _ _ _ _ hb HYS.out)
                have HV:=Lib.hid hv
                clear hv hb
                go_wp2_with fail
                refine (HCm.out _ _ _ HV.out HYS.out).mono ?_
                rintro en w7 ⟨_,rfl,rfl,hb⟩
                have HB:=Lib.hid (raft HB.out hb)
                clear hb
                obtain ⟨Ar,cr,hvr,_⟩:=HR.out
                rw [HPP.out.2.2.2.2] at hvr
                subst hvr
                obtain ⟨hp1,hp2,hod,hlp,_⟩:=HPP.out
                clear HPP
                clear HCm HL1 HW HV HYS HXS HRl HR HQ
                go_upto_region 24 with fail
                go_cut [153] from 132 to 152 (fun v wx=>v=.bool b∧wx=w7)
                case first =>
                  have hbd:=HBD.out.1
                  have hex:=HBD.out.2
                  clear HB HRI HGW HBD HF HK HFB HWX HWY HEB HLE HL HG
                  cases aw with
                  | true =>
                    have hne:=hex rfl
                    subst hne
                    have hbd:b=rp:=by rw [←hbd];simp
                    cases rp with
                    | true =>
                      have hl0:0<lr:=by have:=of_decide_eq_true hlp;omega
                      have hl1:¬lr=0:=by omega
                      go_wp2
                      go_meet
                      case rel=>exact ⟨by rw [hbd],rfl⟩
                    | false =>
                      obtain rfl:lr=0:=by simpa using hlp
                      go_wp2
                      go_meet
                      case rel=>exact ⟨by rw [hbd],rfl⟩
                  | false =>
                    cases ne with
                    | false =>
                      have hbd:b=false:=by rw [←hbd];simp
                      go_wp2
                      go_meet
                      case rel=>exact ⟨by rw [hbd],rfl⟩
                    | true =>
                      have hbd:b=(p1||(p2&&od)):=by rw [←hbd];simp
                      cases p1 with
                      | true =>
                        go_wp2
                        go_meet
                        case rel=>exact ⟨by rw [hbd];rfl,rfl⟩
                      | false =>
                        cases p2 <;> cases od <;> (
                          go_wp2
                          go_meet
                          case rel=>exact ⟨by rw [hbd];rfl,rfl⟩)
                case rest =>
                  obtain ⟨rfl,rfl⟩:=hcut
                  clear hlp hp1 hp2 hod
                  go_upto_if 153 with fail
                  go_cut [18] from 154 to 155 (fun v wx=>v=.int .u64 (gb:Int)∧wx=wc)
                  case first =>
                    have hgw:=HGW.out
                    have hgb:=HRI.out.2
                    clear HB HRI HGW HBD HF HK HFB HWX HWY HEB HLE HL HG
                    cases b with
                    | true =>
                      have e:((gb:Nat):Int)=(g:Int)+1:=by simp only [if_true] at hgb;omega
                      clear hgb
                      go_wp2
                      go_meet
                      case rel=>exact ⟨by rw [e],rfl⟩
                    | false =>
                      have e:g=gb:=by simpa using hgb
                      clear hgb
                      go_wp2
                      go_meet
                      case rel=>exact ⟨by rw [e],rfl⟩
                  case rest =>
                    obtain ⟨rfl,rfl⟩:=hcut
                    obtain ⟨⟨hk1,hg1,hg2,hRe⟩,hgb⟩:=HRI.out
                    have hgb2:gb≤9007199254740992:=by rw [←hgb];split <;> omega
                    have hgb3 : gb < 4503599627370496 → k = 0 := fun h => hg2 (by have : g ≤ gb := by rw [← hgb]; omega
                                                                                  omega)
                    have hek:=HEB.out.2.1
                    have HMa:=Lib.hid (fun W=>made_any k gb e hk1 (by omega) hgb2 hgb3 s W)
                    rw [←hRe] at HMa
                    have HIn:Hid (gb=9007199254740992→1023<e+53→R=9218868437227405312):=Lib.hid (fun h1 h2=>by omega)
                    obtain ⟨tp,htp⟩:∃tp,((gb:Int)==9007199254740992)=tp:=⟨_,rfl⟩
                    obtain ⟨ov,hov⟩:∃ov,decide (1023<e+53)=ov:=⟨_,rfl⟩
                    have hwe:wrap64 (e+53)=e+53:=by have:=HEB.out.1;simp only [wrap64];omega
                    have HT:=Lib.hid (And.intro htp hov)
                    clear hk1 hg1 hg2 hRe hgb hgb2 hgb3 hek HRI HGW HBD HF HK HFB HWX HWY HLE HL HG HEB
                    cases tp with
                    | true =>
                      cases ov with
                      | true =>
                        obtain rfl:=HIn.out (by have:=HT.out.1;simp at this;omega) (of_decide_eq_true HT.out.2)
                        clear HIn HMa HT
                        go_wp2_with fail
                        refine (inf_any s _).mono ?_
                        rintro en w9 ⟨rfl,rfl⟩
                        go_wp2
                        go_ret
                        exact ⟨_,rfl,rfl,HB.out⟩
                      | false =>
                        clear HIn HT
                        go_wp2_with fail
                        refine (HMa.out _).mono ?_
                        rintro en w9 ⟨rfl,rfl⟩
                        go_wp2
                        go_ret
                        exact ⟨_,rfl,rfl,HB.out⟩
                    | false =>
                      clear HIn HT
                      go_wp2_with fail
                      refine (HMa.out _).mono ?_
                      rintro en w9 ⟨rfl,rfl⟩
                      go_wp2
                      go_ret
                      exact ⟨_,rfl,rfl,HB.out⟩
set_option maxRecDepth 20000 in
set_option maxHeartbeats 4000000 in
theorem rounded_zero (ha:IsL X va w) (hb:IsL Y vb w) (h1:X.length≤8796093022000) (hx:val X=0) :
  Calls Tryz.prog 28 #[.int .i64 d,.agg #[.bool s,va,vb],.int .i64 53,.int .i64 1023] w (Ans w (IsV (.int .u64 0))):=by
 have HB:=Lib.hid (rnew w (.cells #[.bool s,va,vb] 25))
 have HC:=Lib.hid (Box3.new w (.bool s) va vb)
 have HX:=Lib.hid (IsL.mono _ _ _ _ HB.out ha)
 have HY:=Lib.hid (IsL.mono _ _ _ _ HB.out hb)
 have HS:=Lib.hid (fun W h=>rsgn_is (w:=W) (va:=.agg #[.bool s,va,vb]) (s:=s) (X:=X) (Y:=Y) h (by omega))
 rw [hx] at HS
 have e:rsgn s 0=0:=by unfold rsgn;simp
 rw [e] at HS
 clear ha hb h1 hx e
 obtain ⟨k0,k1,k2⟩:=HC.out.cells
 go_enter Tryz.func28,Tryz.ntmps28
 go_wp2_with fail
 refine (HS.out _ ⟨va,vb,rfl,HX.out,HY.out⟩).mono ?_
 rintro en w1 ⟨_,rfl,rfl,hb⟩
 have HB:=Lib.hid (raft HB.out hb)
 clear hb
 go_wp2
 go_ret
 exact ⟨_,rfl,rfl,HB.out⟩
end
theorem rngA_cut (N D j:Nat) (hj:0<j):rngA (N*j) (D*j)=rngA N D:=by
 unfold rngA
 rw [Nat.mul_div_mul_right _ _ hj]
 have:FV (fl (N / D))*(D*j)=N*j↔FV (fl (N / D))*D=N:=by
  rw [←Nat.mul_assoc]
  exact ⟨fun h=>Nat.eq_of_mul_eq_mul_right hj h,fun h=>by rw [h]⟩
 simp only [this]
theorem rng_cut (d:Int) (s:Bool) (N D j:Nat) (hj:0<j):rng d s (N*j) (D*j)=rng d s N D:=by
 unfold rng
 rw [rngA_cut N D j hj,rngN_cut N D j hj,Nat.mul_div_mul_right _ _ hj]
def rat3 (d p:Int) (q:Nat) (K:Nat):Nat:=fpat (decide (p<0)) (rng d (decide (p<0)) (p.natAbs*2^K) q)
set_option maxRecDepth 20000 in
set_option maxHeartbeats 1000000 in
theorem bits3_is {p d:Int} {q k K:Nat} {va:Value} {w:World} (ha:IsRV p q k va w) (hk:k≤8796093022000) (hK:K=1074) :
  Calls Tryz.prog 11 #[.int .i64 d,va] w (Ans w (IsV (.int .u64 (rat3 d p q K:Nat)))):=by
 obtain ⟨s,X,Y,⟨a,b,rfl,hX,hY⟩,hq,hy,hs,l1,l2⟩:=ha
 have HB:=Lib.hid (rnew w (.cells #[.bool s,a,b] 25))
 have HC:=Lib.hid (Box3.new w (.bool s) a b)
 have HX:=Lib.hid (IsL.mono _ _ _ _ HB.out hX)
 have HY:=Lib.hid (IsL.mono _ _ _ _ HB.out hY)
 have H:∀W,IsL X a W→IsL Y b W→Calls Tryz.prog 28 #[.int .i64 d,.agg #[.bool s,a,b],.int .i64 53,.int .i64 1023] W (Ans W (IsV (.int .u64 (rat3 d p q K:Nat)))):=by
  intro W hX hY
  by_cases h0:val X=0
  ·have hp:p=0:=by
    rw [h0] at hs
    have h1:sv s 0=0:=by unfold sv;cases s <;> rfl
    rw [h1,Int.zero_mul] at hs
    rcases Int.mul_eq_zero.1 hs.symm with h | h <;> omega
   have e:rat3 d p q K=0:=by
    unfold rat3
    rw [hp,Int.natAbs_zero,Nat.zero_mul,rng_zero];rfl
   rw [e]
   exact rounded_zero d s X Y a b W hX hY (by omega) h0
  ·have e:fpat s (rng d s (val X*2^K) (val Y))=rat3 d p q K:=by
    have hpos:(0:Int)<(val X:Int)*q:=Int.mul_pos (by omega) (by omega)
    have hyv:(0:Int)<val Y:=by omega
    have hsp:decide (p<0)=s:=by
     cases s with
     | true =>
      unfold sv at hs
      simp only [if_true,Int.neg_mul] at hs
      have:p*val Y<0:=by omega
      exact decide_eq_true ((sgn_mul (a:=p) hy).2.1.1 this)
     | false =>
      unfold sv at hs
      simp only [Bool.false_eq_true,if_false] at hs
      have:0<p*val Y:=by omega
      have:=(sgn_mul (a:=p) hy).1.1 this
      exact decide_eq_false (by omega)
    have hab:val X*q=p.natAbs*val Y:=by
     have:=congrArg Int.natAbs hs
     rw [Int.natAbs_mul,Int.natAbs_mul,Int.natAbs_natCast,Int.natAbs_natCast] at this
     have h2:(sv s (val X)).natAbs=val X:=by unfold sv;cases s <;> simp
     rwa [h2] at this
    unfold rat3
    rw [hsp,←rng_cut d s (val X*2^K) (val Y) q hq,←rng_cut d s (p.natAbs*2^K) q (val Y) hy]
    have e1:val X*2^K*q=p.natAbs*2^K*val Y:=by
     rw [Nat.mul_right_comm,hab,Nat.mul_right_comm]
    rw [e1,Nat.mul_comm (val Y) q]
   rw [←e]
   exact rounded_pos d s X Y a b K W hX hY (by omega) (by omega) (by omega) hy hK
 have HH:=Lib.hid H
 clear H hX hY hq hy hs l1 l2 hk
 obtain ⟨r,hr⟩:∃r,rat3 d p q K=r:=⟨_,rfl⟩
 rw [hr] at HH ⊢
 clear hr hK
 obtain ⟨k0,k1,k2⟩:=HC.out.cells
 go_enter Tryz.func11,Tryz.ntmps11
 go_wp2_with fail
 refine (HH.out _ HX.out HY.out).mono ?_
 rintro en w1 ⟨_,rfl,rfl,hb⟩
 have HB:=Lib.hid (raft HB.out hb)
 clear hb
 go_wp2
 go_ret
 exact ⟨_,rfl,rfl,HB.out⟩
end Go.Proofs.YtkhengkchlkhoaaGreatDoor
