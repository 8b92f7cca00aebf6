/- Layer 12: the law's blanks and loud. -/
import Derived.Test.YtigmpifjcijdbaaGreatDoorG50
import Derived.Test.YtigmpifjcijdbaaGreatDoorG45
import Derived.Test.YtigmpifjcijdbaaGreatDoorG13
import Derived.Test.YtigmpifjcijdbaaGreatDoorG49
import Derived.Test.YtigmpifjcijdbaaGreatDoorG34
section
namespace Go.Proofs.YtigmpifjcijdbaaGreatDoor
set_option linter.unusedVariables false
set_option linter.unusedSimpArgs false
open Go.RowKit Verge Verge.Lit
theorem and_lowS (k:Nat) (n:Int):bits .and .i64 n ((2^k - 1:Nat):Int)=(((n%(2^64:Nat)).toNat%2^k:Nat):Int)∨63<k:=by
 by_cases hk:63<k
 ·exact .inr hk
 ·left
  have h2:2^k≤2^63:=Nat.pow_le_pow_right (by omega) (by omega)
  have hp:=Nat.two_pow_pos k
  have h15:(BitVec.ofInt 64 ((2^k - 1:Nat):Int)).toNat=2^k - 1:=by
   rw [BitVec.toNat_ofInt]
   omega
  have key:(BitVec.ofInt 64 n &&& BitVec.ofInt 64 ((2^k - 1:Nat):Int)).toNat=(n%((2^64:Nat):Int)).toNat%2^k:=by
   rw [BitVec.toNat_and,h15,BitVec.toNat_ofInt,Nat.and_two_pow_sub_one_eq_mod]
  show IntKind.i64.wrap ((BitVec.ofInt 64 n &&& BitVec.ofInt 64 ((2^k - 1:Nat):Int)).toNat:Nat)=_
  rw [key]
  have:=Nat.mod_lt ((n%((2^64:Nat):Int)).toNat) hp
  rw [IntKind.wrap_i64]
  omega
theorem and15 (n:Int):∃m:Nat,m≤15∧bits .and .i64 n 15=(m:Int):=by
 refine ⟨(n%(2^64:Nat)).toNat%2^4,by omega,?_⟩
 rcases and_lowS 4 n with h | h
 ·exact h
 ·omega
theorem and3 (i:Nat) (hi:i≤1000000):bits .and .i64 (i:Int) 3=((i%4:Nat):Int):=by
 rcases and_lowS 2 (i:Int) with h | h
 ·have e:((i:Int)%(2^64:Nat)).toNat%2^2=i%4:=by omega
  rw [e] at h
  exact h
 ·omega
set_option maxHeartbeats 2000000 in
theorem blanks12_any (n:Nat) (hn:n≤1000) (w:World):Calls Tryz.prog 7 #[.int .i64 (n:Int)] w fun e w'=>e=.returned (.string (bs (blT n)))∧Below w.heap.size w w':=by
 go_enter Tryz.func7,Tryz.ntmps7
 go_wp2
 go_loop [3,4] (fun sv iv=>∃i:Nat,i≤n∧iv=.int .i64 (i:Int)∧sv=.string (bs (blT i))) (fun _ iv=>n - (intOf iv).toNat)
 case atStart=>exact ⟨0,by omega,rfl,rfl⟩
 case round =>
  obtain ⟨i,hi,rfl,rfl⟩:=hrel
  by_cases hlt:i<n
  ·have hltI:(i:Int)<(n:Int):=by omega
   have hb3:=and3 i (by omega)
   have hcat:bs (blT i)++bs [blC i]=bs (blT (i+1)):=bs_append _ _
   have hsz:(bs (blT i)).size=i:=by rw [bs_size,blT_len]
   obtain ⟨X,hX⟩:∃X,bs (blT i)=X:=⟨_,rfl⟩
   obtain ⟨Y,hY⟩:∃Y,bs (blT (i+1))=Y:=⟨_,rfl⟩
   rw [hX,hY] at hcat
   rw [hX] at hsz ⊢
   have HY:=Lib.hid hY
   clear hX hY
   have h4:i%4=0∨i%4=1∨i%4=2∨i%4=3:=by omega
   unfold blC at hcat
   rcases h4 with h4 | h4 | h4 | h4 <;> rw [h4] at hb3 hcat
   all_goals
    clear h4
    simp only [show ((0:Nat)=1)=False by simp,show ((1:Nat)=0)=False by simp,show ((2:Nat)=0)=False by simp,show ((2:Nat)=1)=False by simp,show ((3:Nat)=0)=False by simp,show ((3:Nat)=1)=False by simp,show ((3:Nat)=2)=False by simp,if_true,if_false] at hcat
    go_wp2
    go_round
    case rel=>exact ⟨i+1,by omega,by go_num,by rw [HY.out];first | rfl | (rw [←hcat];rfl) | (simp;rw [←hcat];rfl)⟩
    case measure=>simp [intOf];omega
  ·obtain rfl:i=n:=by omega
   go_wp2
   go_ret
   exact ⟨rfl,Below.refl _ _⟩
theorem conv_frozen (W:World) (d:List UInt8):∃cap W2,(convert 9 58 (.string (bs d))).run Tryz.prog W=.ok (.slice (some ⟨W.heap.size,0,none⟩) d.length cap) W2∧Below W.heap.size W W2 ∧
  ∀j c,d[j]?=some c→W2.cell? ⟨W.heap.size,j,none⟩=some (.int .u8 (c.toNat:Int))∧W2.frozen? ⟨W.heap.size,j,none⟩=false:=by
 refine ⟨_,_,(bs_size d)▸Lib.run_convert_string_bytes (P:=Tryz.prog) W 9 58 5 (bs d) Tryz.underlying9 Tryz.underlying58 Tryz.underlying5,?_,?_⟩
 ·refine ⟨rfl,rfl,rfl,?_,fun j hj=>Lib.bytesWorld_at_old _ _ _ j hj⟩
  rw [Lib.bytesWorld_size];omega
 ·intro j c hc
  have hj:j<d.length:=by
   rw [List.getElem?_eq_some_iff] at hc;exact hc.1
  constructor
  ·rw [Lib.bytesWorld_cell _ _ _ _ (by rw [bs_size];exact hj),bs_list]
   simp [List.getD,hc]
  ·have:=Lib.bytesWorld_at_new W 5 (bs d)
   have hcell:=Lib.bytesWorld_cell W 5 (bs d) j (by rw [bs_size];exact hj)
   have hlt:j<(Lib.bytesCells W 5 (bs d)).size:=by
    refine Classical.byContradiction fun hn => ?_
    simp [World.cell?,this,Array.getElem?_eq_none (Nat.not_lt.1 hn)] at hcell
   simp [World.frozen?,this]
   omega
def LoB (W:World) (g:Nat) (s:List UInt8) (i:Nat):Prop:=∀j c,s[j]?=some c→W.cell? ⟨g,j,none⟩=some (.int .u8 ((if j<i then upc c else c).toNat:Int))∧W.frozen? ⟨g,j,none⟩=false
theorem LoB.step {W:World} {g i:Nat} {s:List UInt8} {c:UInt8} (h:LoB W g s i) (hc:s[i]?=some c) (v:Value) (hv:v=.int .u8 ((upc c).toNat:Int)):LoB (W.setCell ⟨g,i,none⟩ v) g s (i+1):=by
 intro j d hd
 obtain ⟨h1,h2⟩:=h j d hd
 by_cases e:j=i
 ·subst e
  rw [hc] at hd
  injection hd with hd
  subst hd
  refine ⟨?_,by rw [World.frozen?_setCell];exact h2⟩
  rw [World.cell?_setCell_same (h:=h1),hv,if_pos (by omega)]
 ·refine ⟨?_,by rw [World.frozen?_setCell];exact h2⟩
  rw [World.cell?_setCell_other (h:=by simp <;> omega),h1]
  by_cases hj:j<i
  ·rw [if_pos hj,if_pos (by omega)]
  ·rw [if_neg hj,if_neg (by omega)]
theorem LoB.same {W:World} {g i:Nat} {s:List UInt8} {c:UInt8} (h:LoB W g s i) (hc:s[i]?=some c) (hu:upc c=c):LoB W g s (i+1):=by
 intro j d hd
 obtain ⟨h1,h2⟩:=h j d hd
 refine ⟨?_,h2⟩
 rw [h1]
 by_cases e:j=i
 ·subst e
  rw [hc] at hd
  injection hd with hd
  subst hd
  rw [if_neg (by omega),if_pos (by omega),hu]
 ·by_cases hj:j<i
  ·rw [if_pos hj,if_pos (by omega)]
  ·rw [if_neg hj,if_neg (by omega)]
set_option maxRecDepth 100000 in
set_option maxHeartbeats 4000000 in
theorem loud12_any (s:List UInt8) (hl:s.length≤100000) (w:World):Calls Tryz.prog 8 #[.string (bs s)] w fun e w'=>e=.returned (.string (bs (s.map upc)))∧Below w.heap.size w w':=by
 obtain ⟨cap,W2,hcv,hcb,hcc⟩:=conv_frozen w s
 have hst:LoB W2 w.heap.size s 0:=fun j c hc=>by
  rw [if_neg (by omega)];exact hcc j c hc
 have HST:=Lib.hid (And.intro hst hcb)
 obtain ⟨n,hn⟩:∃n,s.length=n:=⟨_,rfl⟩
 rw [hn] at hcv hl
 have HN:=Lib.hid hn
 obtain ⟨S,hS⟩:∃S,bs s=S:=⟨_,rfl⟩
 rw [hS] at hcv ⊢
 obtain ⟨g,hg⟩:∃g,w.heap.size=g:=⟨_,rfl⟩
 rw [hg] at hcv
 have HG:=Lib.hid hg
 clear hcb hcc hn hS hg hst
 go_enter Tryz.func8,Tryz.ntmps8
 go_wp2
 go_loopw [4] (fun iv wr=>∃i:Nat,i≤n∧iv=.int .i64 (i:Int)∧Hid (LoB wr g s i∧Below w.heap.size w wr)) (fun iv _=>n - (intOf iv).toNat)
 case atStart=>exact ⟨0,by omega,rfl,Lib.hid ⟨by rw [←HG.out];exact HST.out.1,HST.out.2⟩⟩
 case round =>
  obtain ⟨i,hi,rfl,hI⟩:=hrel
  by_cases hlt:i<n
  ·have hltI:(i:Int)<(n:Int):=by omega
   obtain ⟨c,hc⟩:∃c,s[i]?=some c:=⟨_,List.getElem?_eq_getElem (by rw [HN.out];exact hlt)⟩
   obtain ⟨hcell,hfr⟩:=hI.out.1 i c hc
   rw [if_neg (by omega)] at hcell
   obtain ⟨z,hz⟩:∃z,c.toNat=z:=⟨_,rfl⟩
   have hz256:z<256:=by rw [←hz];exact c.toNat_lt
   rw [hz] at hcell
   have HC:=Lib.hid (And.intro hc hz)
   clear hc hz hcv
   by_cases h97:97≤z
   ·have h97I:(97:Int)≤(z:Int):=by omega
    by_cases h122:z≤122
    ·have h122I:(z:Int)≤122:=by omega
     have hw8:IntKind.u8.wrap ((z:Int) - 32)=((z - 32:Nat):Int):=by rw [IntKind.wrap_u8];omega
     have HK:=Lib.hid (And.intro h97 h122)
     clear h97 h122 hz256
     go_wp2
     go_roundw
     case rel =>
      refine ⟨i+1,by omega,by go_num,Lib.hid ⟨hI.out.1.step HC.out.1 _ ?_,below_set hI.out.2 _ _ _ (by rw [HG.out];exact Nat.le_refl _)⟩⟩
      rw [upc_n,HC.out.2,if_pos HK.out]
      try simp [hw8]
     case measure=>simp [intOf];omega
    ·have h122I:¬(z:Int)≤122:=by omega
     have HK:=Lib.hid h122
     clear h97 h122 hz256
     go_wp2
     go_roundw
     case rel =>
      refine ⟨i+1,by omega,by go_num,Lib.hid ⟨hI.out.1.same HC.out.1 ?_,hI.out.2⟩⟩
      unfold upc
      rw [if_neg (by rw [HC.out.2];exact fun h=>HK.out h.2)]
     case measure=>simp [intOf];omega
   ·have h97I:¬(97:Int)≤(z:Int):=by omega
    have HK:=Lib.hid h97
    clear h97 hz256
    go_wp2
    go_roundw
    case rel =>
     refine ⟨i+1,by omega,by go_num,Lib.hid ⟨hI.out.1.same HC.out.1 ?_,hI.out.2⟩⟩
     unfold upc
     rw [if_neg (by rw [HC.out.2];exact fun h=>HK.out h.1)]
    case measure=>simp [intOf];omega
  ·obtain rfl:i=n:=by omega
   have hcvb:=convN wr g 0 i cap (s.map upc) (by rw [List.length_map];exact HN.out) (fun j c hc=>by
    rw [List.getElem?_map] at hc
    cases hs:s[j]? with
    | none=>rw [hs] at hc;cases hc
    | some d =>
     rw [hs] at hc
     have hc:upc d=c:=Option.some.inj hc
     obtain ⟨h1,_⟩:=hI.out.1 j d hs
     have hj:j<i:=by
      rw [←HN.out]
      exact (List.getElem?_eq_some_iff.1 hs).1
     rw [Nat.zero_add,h1,if_pos hj,hc])
   clear hcv
   go_wp2
   go_ret
   exact ⟨rfl,hI.out.2⟩
end Go.Proofs.YtigmpifjcijdbaaGreatDoor
end

section
namespace Go.Proofs.YtigmpifjcijdbaaGreatDoor
set_option linter.unusedVariables false
set_option linter.unusedSimpArgs false
open Go.RowKit Verge Verge.Lit
def numT (s:List UInt8):List UInt8:=
 match scn s with
 | .ok _=>if 1500<s.length then [49] else s
 | .error _=>[49]
theorem scn_49:∃x,scn [49]=.ok x:=by
 have hd:(match scn [49] with | .ok _=>true | .error _=>false)=true:=by decide +kernel
 cases h:scn [49] with
 | ok x=>exact ⟨x,rfl⟩
 | error e=>rw [h] at hd;cases hd
theorem numT_ok (s:List UInt8):(∃x,scn (numT s)=.ok x)∧(numT s).length≤1500:=by
 unfold numT
 cases h:scn s with
 | error pc=>exact ⟨scn_49,by simp⟩
 | ok x =>
  dsimp only
  by_cases hl:1500<s.length
  ·rw [if_pos hl];exact ⟨scn_49,by simp⟩
  ·rw [if_neg hl];exact ⟨⟨x,h⟩,by omega⟩
set_option maxRecDepth 100000 in
set_option maxHeartbeats 1000000 in
theorem numeral12_any (s:List UInt8) (hs:s.length≤140737488355328) (w:World):Calls Tryz.prog 4 #[.string (bs s)] w fun e w'=>e=.returned (.string (bs (numT s)))∧Below w.heap.size w w':=by
 have hV:=fun W=>val5_any s hs W
 have hz:=bs_size s
 unfold numT
 cases hx:scn s with
 | error pc =>
  obtain ⟨p,c⟩:=pc
  rw [hx] at hV
  have hc:=scn_code hx
  have hcn:(c != 0)=true:=by rcases hc with rfl | rfl | rfl <;> rfl
  have HV:=Lib.hid hV
  generalize bs s=S at *
  clear hV hx hc
  go_enter Tryz.func4,Tryz.ntmps4
  go_wp2_with fail
  refine (HV.out _).mono ?_
  rintro e w1 ⟨v1,rfl,rfl,hb1⟩
  have HB:=Lib.hid (raft hb1 (rnew w1 (rtO false (.slice none 0 0) (.slice none 0 0))))
  clear hb1
  go_wp2
  go_ret
  exact ⟨rfl,HB.out⟩
 | ok x =>
  obtain ⟨n,N,D,K⟩:=x
  rw [hx] at hV
  dsimp only
  obtain ⟨L,hL⟩:∃L,s.length=L:=⟨_,rfl⟩
  rw [hL] at hz hs
  have HV:=Lib.hid hV
  obtain ⟨S,hS⟩:∃S,bs s=S:=⟨_,rfl⟩
  rw [hS] at HV hz
  have HS:=Lib.hid hS
  rw [hL,hS]
  clear hV hx hL
  have hcase:∀P:Prop,[Decidable P]→P→True:=fun _ _ _=>trivial
  by_cases hl:1500<L
  ·rw [if_pos hl]
   have hlI:(1500:Int)<(L:Int):=by omega
   clear hS
   go_enter Tryz.func4,Tryz.ntmps4
   go_wp2_with fail
   refine (HV.out _).mono ?_
   rintro e w1 ⟨v1,rfl,⟨x1,rfl,hx1⟩,hb1⟩
   obtain ⟨s1,X1,n1,k1,Y1,m1,z1,rfl⟩:=hx1.agg
   have HB:=Lib.hid (raft hb1 (rnew w1 (rtO s1 (.slice X1 n1 k1) (.slice Y1 m1 z1))))
   clear hb1 hx1
   go_wp2
   go_ret
   exact ⟨rfl,HB.out⟩
  ·rw [if_neg hl,hS]
   have hlI:¬(1500:Int)<(L:Int):=by omega
   clear hS
   go_enter Tryz.func4,Tryz.ntmps4
   go_wp2_with fail
   refine (HV.out _).mono ?_
   rintro e w1 ⟨v1,rfl,⟨x1,rfl,hx1⟩,hb1⟩
   obtain ⟨s1,X1,n1,k1,Y1,m1,z1,rfl⟩:=hx1.agg
   have HB:=Lib.hid (raft hb1 (rnew w1 (rtO s1 (.slice X1 n1 k1) (.slice Y1 m1 z1))))
   clear hb1 hx1
   go_wp2
   go_ret
   exact ⟨rfl,HB.out⟩
structure DrM (W0:World) (B1 B2:Nat) (s1:Bool) (V1 D1:Value) (s2:Bool) (V2 D2:Value) (p1:Int) (q1:Nat) (p2:Int) (q2:Nat) (W:World):Prop where
 below:Below W0.heap.size W0 W
 h1:W.heap[B1]?=some (rtO s1 V1 D1)
 h2:W.heap[B2]?=some (rtO s2 V2 D2)
 r1:IsRV p1 q1 10000 (.agg #[.bool s1,V1,D1]) W
 r2:IsRV p2 q2 10000 (.agg #[.bool s2,V2,D2]) W
theorem DrM.later {W0:World} {B1 B2:Nat} {s1:Bool} {V1 D1:Value} {s2:Bool} {V2 D2:Value} {p1:Int} {q1:Nat} {p2:Int} {q2:Nat} {W W':World} (h:DrM W0 B1 B2 s1 V1 D1 s2 V2 D2 p1 q1 p2 q2 W) (hb:Below W.heap.size W W'):DrM W0 B1 B2 s1 V1 D1 s2 V2 D2 p1 q1 p2 q2 W':=
 ⟨raft h.below hb,(hb.block _ (Array.getElem?_eq_some_iff.1 h.h1).1).trans h.h1,(hb.block _ (Array.getElem?_eq_some_iff.1 h.h2).1).trans h.h2,IsRV.mono _ _ _ _ _ _ hb h.r1,IsRV.mono _ _ _ _ _ _ hb h.r2⟩
end Go.Proofs.YtigmpifjcijdbaaGreatDoor
end
