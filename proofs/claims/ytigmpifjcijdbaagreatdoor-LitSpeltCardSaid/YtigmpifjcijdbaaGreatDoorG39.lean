/- Layer 12, the program: the reader over a literal: an upper bound. -/
import Derived.Test.YtigmpifjcijdbaaGreatDoorG38
import Derived.Test.YtigmpifjcijdbaaGreatDoorG33
import Derived.Test.YtigmpifjcijdbaaGreatDoorG23
import Derived.WalkLawsBesides
import Derived.Laws.StructEq
section
namespace Go.Proofs.YtigmpifjcijdbaaGreatDoor
set_option linter.unusedVariables false
set_option linter.unusedSimpArgs false
open Go.RowKit Verge Verge.Lit
def obt:Option (List UInt8×Nat)→List UInt8
 | none=>[]
 | some x=>x.1
def lateU (len:Nat) (lo:List UInt8) (hi:Option (List UInt8×Nat)) (x:Int×Int):Int×Int:=
 match hi with
 | none=>x
 | some (s,k)=>if lo≠[]∧(cmpS lo s).2.2=0∧0<(cmpS lo s).1 then kp (lateN (len - k) s x) ((len - k:Nat):Int) 120 else lateN (len - k) s x
theorem numL_le {r s u:List UInt8} (h:numL r=.ok (s,u)):s++u=r:=by
 unfold numL at h
 split at h
 ·cases h
 ·injection h with h
  injection h with h1 h2
  rw [←h1,←h2];exact List.takeWhile_append_dropWhile
set_option maxRecDepth 100000 in
set_option maxHeartbeats 4000000 in
theorem upper_any (w:World) (b:Nat) (l r:List UInt8) (d:Bool) (x:Int×Int) (lo:List UInt8) (h:LR w b l r d x) (hl:l.length≤4096) (hlo:lo.length≤4096):Calls Tryz.prog 85 #[.pointer (some ⟨b,0,none⟩),.string (bs lo)] w
  (LAns w b l (uppL r) fun y e w'=>e=.returned (.tuple #[.string (bs (obt y.1)),.bool (y.1.isSome && !lo.isEmpty)])∧LR w' b l y.2 d (lateU l.length lo y.1 x)):=by
 have HWA:=Lib.hid (want_any w b l r d x 44 h (by omega) (by omega))
 have HB:=Lib.hid (fun W s z h=>blanks_any W b l s d z h (by omega))
 have HP0:=Lib.hid (fun W s h=>peek_any W b l s d x 0 h (by omega) (by omega))
 have HP1:=Lib.hid (fun W s h=>peek_any W b l s d x 1 h (by omega) (by omega))
 have HIS:=Lib.hid (fun W s h=>lis_any W b l s d x 43 h (by omega) (by omega))
 have HIN:=Lib.hid (fun W s h=>infinity_any W b l s d x h (by omega))
 have HNU:=Lib.hid (fun W s h=>lnumeral_any W b l s d x h hl)
 have HKP:=Lib.hid (fun W s z p c h=>keep_any W b l s d z p c h)
 have hem:=empty_bs lo
 have HCM:=Lib.hid (fun s (hs:s.length≤4096) W=>cmpA_any lo s (by omega) (by omega) W)
 obtain ⟨y,hy⟩:∃y,uppL r=y:=⟨_,rfl⟩
 obtain ⟨BL,hBL⟩:∃BL,bs lo=BL:=⟨_,rfl⟩
 rw [hBL] at HCM hem
 rw [hy,hBL]
 unfold uppL at hy
 have hle:l.length≤4096:=hl
 obtain ⟨le,hle2⟩:∃e,lo.isEmpty=e:=⟨_,rfl⟩
 rw [hle2] at hem
 rw [hle2]
 have HLE:=Lib.hid (And.intro hle2 hBL)
 have HL:=Lib.hid hl
 have HY:=Lib.hid hy
 clear h hy hBL hle2 hl
 go_enter Tryz.func85,Tryz.ntmps85
 go_wp2_with fail
 refine (HWA.out).mono ?_
 intro e w1 h1
 have hy:=HY.out
 cases hw:wantL 44 r with
 | error k =>
  rw [hw] at h1 hy
  obtain ⟨rfl,g1⟩:=h1
  subst hy
  exact ⟨rfl,rfl,g1⟩
 | ok r1 =>
  rw [hw,bind_ok] at hy
  rw [hw] at h1
  obtain ⟨⟨rfl,h1⟩,g1⟩:=h1
  have H1:=Lib.hid (And.intro h1 g1)
  clear h1 g1 hw HWA HY
  go_wp2_with fail
  refine (HB.out _ _ _ H1.out.1).mono ?_
  rintro e w2 ⟨rfl,h2,g2⟩
  have H2:=Lib.hid (And.intro h2 (grownBy_trans H1.out.2 g2))
  clear h2 g2 H1
  obtain ⟨r2,hr2⟩:∃r2,r1.dropWhile blk=r2:=⟨_,rfl⟩
  rw [hr2] at H2 hy
  have HY:=Lib.hid hy
  clear hr2 hy
  go_wp2_with fail
  refine (HP0.out _ _ H2.out.1).mono ?_
  rintro e w3 ⟨rfl,m,rfl⟩
  rw [show r2.drop 0=r2 from rfl]
  have hy:=HY.out
  unfold uppB at hy
  obtain ⟨v,hv⟩:∃v,pk r2=v:=⟨_,rfl⟩
  rw [hv] at hy ⊢
  have H2m:LR (w2.drewN m) b l r2 d x:=H2.out.1.drewN m
  have HG2:=Lib.hid (grownBy_drewN H2.out.2 m)
  have HV:=Lib.hid hv
  have H3:=Lib.hid H2m
  clear H2m hv HY
  by_cases h93:v=93
  ·rw [if_pos h93] at hy
   subst h93
   subst hy
   go_wp2
   go_ret2
   exact ⟨⟨rfl,H3.out⟩,HG2.out⟩
  ·rw [if_neg h93] at hy
   have h93I:¬(v:Int)=93:=by omega
   have h93b:((v:Int)==93)=false:=by simpa using h93I
   have h93n:(v==93)=false:=by simpa using h93
   obtain ⟨v1,hv1⟩:∃v1,pk (r2.drop 1)=v1:=⟨_,rfl⟩
   rw [hv1] at hy
   have HV1:=Lib.hid hv1
   have HY:=Lib.hid hy
   clear hv1 hy h93
   go_upto_region 6 with fail
   go_cut [30] from 20 to 30 (fun s wx=>s=.bool (decide (v=105∨v=43∧v1=105))∧Hid (∃k,wx=w2.drewN (m+k)))
   case first =>
    by_cases h105:v=105
    ·subst h105
     go_wp2
     go_meet
     exact ⟨by simp,0,rfl⟩
    ·have n1:¬(v:Int)=105:=by omega
     have n2:((v:Int)==105)=false:=by simpa using n1
     have n3:(v==105)=false:=by simpa using h105
     by_cases h43:v=43
     ·subst h43
      go_wp2_with fail
      refine (HP1.out _ _ H3.out).mono ?_
      rintro e w4 ⟨rfl,m2,rfl⟩
      rw [HV1.out]
      by_cases h5:v1=105
      ·subst h5
       go_wp2
       go_meet
       exact ⟨by simp,m2,rfl⟩
      ·have k1:¬(v1:Int)=105:=by omega
       have k2:((v1:Int)==105)=false:=by simpa using k1
       have k3:(v1==105)=false:=by simpa using h5
       go_wp2
       go_meet
       exact ⟨by simp [h5],m2,rfl⟩
     ·have k1:¬(v:Int)=43:=by omega
      have k2:((v:Int)==43)=false:=by simpa using k1
      have k3:(v==43)=false:=by simpa using h43
      go_wp2
      go_meet
      exact ⟨by simp [h105,h43],0,rfl⟩
   case rest =>
    obtain ⟨rfl,hC⟩:=hcut
    obtain ⟨m2,rfl⟩:=hC.out
    have H4:=Lib.hid (show LR (w2.drewN (m+m2)) b l r2 d x from H2.out.1)
    have HG4:=Lib.hid (grownBy_drewN H2.out.2 (m+m2))
    have hy:=HY.out
    clear hC H3 HG2 HY HP0 HP1
    by_cases hinf:v=105∨v=43∧v1=105
    ·rw [if_pos hinf] at hy
     have hd:decide (v=105∨v=43∧v1=105)=true:=decide_eq_true hinf
     rw [hd]
     have HY:=Lib.hid hy
     clear hy hd hinf
     go_wp2_with fail
     refine (HIS.out _ _ H4.out).mono ?_
     rintro e w5 ⟨rfl,h5,g5⟩
     have H5:=Lib.hid (And.intro h5 (grownBy_trans HG4.out g5))
     clear h5 g5 H4
     go_wp2_with fail
     refine (HIN.out _ _ H5.out.1).mono ?_
     intro e w6 h6
     have hy:=HY.out
     cases hi:infL (isL 43 r2).2 with
     | error k =>
      rw [hi] at h6 hy
      obtain ⟨rfl,g6⟩:=h6
      subst hy
      exact ⟨rfl,rfl,grownBy_trans H5.out.2 g6⟩
     | ok r3 =>
      rw [hi,bind_ok] at hy
      rw [hi] at h6
      obtain ⟨⟨rfl,h6⟩,g6⟩:=h6
      have H6:=Lib.hid (And.intro h6 (grownBy_trans H5.out.2 g6))
      subst hy
      clear h6 g6 hi H5 HY
      go_wp2_with fail
      refine (HB.out _ _ _ H6.out.1).mono ?_
      rintro e w7 ⟨rfl,h7,g7⟩
      have H7:=Lib.hid (And.intro h7 (grownBy_trans H6.out.2 g7))
      clear h7 g7 H6
      go_wp2
      go_ret2
      exact ⟨⟨rfl,H7.out.1⟩,H7.out.2⟩
    ·rw [if_neg hinf] at hy
     have hd:decide (v=105∨v=43∧v1=105)=false:=decide_eq_false hinf
     rw [hd]
     have HY:=Lib.hid hy
     obtain ⟨q,hq⟩:∃q,l.length - r2.length=q:=⟨_,rfl⟩
     obtain ⟨c0,c1,f0,f1⟩:=H4.out.cells rfl hq
     have HQ:=Lib.hid hq
     clear hy hd hinf hq
     go_wp2_with fail
     refine (HNU.out _ _ H4.out).mono ?_
     intro e w5 h5
     have hy:=HY.out
     cases hn:numL r2 with
     | error k =>
      rw [hn] at h5 hy
      obtain ⟨rfl,g5⟩:=h5
      subst hy
      exact ⟨rfl,rfl,grownBy_trans HG4.out g5⟩
     | ok su =>
      obtain ⟨s,u⟩:=su
      rw [hn,bind_ok] at hy
      rw [hn] at h5
      obtain ⟨⟨rfl,h5⟩,g5⟩:=h5
      have hsl:=congrArg List.length (numL_le hn)
      have hrl:=H4.out.1
      rw [List.length_append] at hsl
      have hs4:s.length≤4096:=by omega
      have H5:=Lib.hid (And.intro h5 (grownBy_trans HG4.out g5))
      rw [HQ.out] at H5
      subst hy
      have hcm:=HCM.out s hs4
      obtain ⟨o,ho⟩:∃o,(cmpS lo s).1=o:=⟨_,rfl⟩
      obtain ⟨p,hp⟩:∃p,(cmpS lo s).2.1=p:=⟨_,rfl⟩
      obtain ⟨c,hc⟩:∃c,(cmpS lo s).2.2=c:=⟨_,rfl⟩
      have hcm:∀W,Calls Tryz.prog 121 #[.string BL,.string (bs s)] W (Ans W (IsV (.tuple #[.int .i64 (cmpS lo s).1,.int .i64 (cmpS lo s).2.1,.int .i64 (cmpS lo s).2.2]))):=hcm
      rw [ho,hp,hc] at hcm
      have HCMP:=Lib.hid hcm
      have HO:=Lib.hid (And.intro ho hc)
      obtain ⟨BS,hBS⟩:∃BS,bs s=BS:=⟨_,rfl⟩
      rw [hBS] at HCMP ⊢
      have HBS:=Lib.hid hBS
      clear h5 g5 hn hsl hrl hs4 hcm ho hp hc hBS HY HCM
      dsimp only
      go_wp2_with fail
      refine (HB.out _ _ _ H5.out.1).mono ?_
      rintro e w6 ⟨rfl,h6,g6⟩
      have H6:=Lib.hid (And.intro h6 (grownBy_trans H5.out.2 g6))
      clear h6 g6 H5
      have hlast:∀y:Int×Int,lateU l.length lo (some (s,r2.length)) x=(if lo≠[]∧c=0∧0<o then kp (lateN q s x) (q:Int) 120 else lateN q s x):=by
       intro _
       unfold lateU
       dsimp only
       rw [HO.out.1,HO.out.2,HQ.out]
      have HLAST:=Lib.hid (hlast (0,0))
      clear hlast
      cases le with
      | true =>
       go_wp2
       go_ret2
       have hlo:lo=[]:=by simpa using HLE.out.1
       have:=HLAST.out
       rw [if_neg (fun e=>e.1 hlo)] at this
       refine ⟨⟨?_,?_⟩,H6.out.2⟩
       ·rw [←HBS.out];rfl
       ·show LR w6 b l _ d (lateU l.length lo (some (s,r2.length)) x)
        rw [this];exact H6.out.1
      | false =>
       have hlo:lo≠[]:=by
        intro e
        have:=HLE.out.1
        rw [e] at this;cases this
       have HLO:=Lib.hid hlo
       clear hlo
       go_wp2_with fail
       refine (HCMP.out _).mono ?_
       rintro e w7 ⟨v7,rfl,rfl,hb7⟩
       have H7:=Lib.hid (And.intro (H6.out.1.later hb7) (grownBy_trans H6.out.2 (grownBy_below hb7)))
       clear hb7 H6
       have hfin:∀(z:Int×Int) (W:World),lateU l.length lo (some (s,r2.length)) x=z→LR W b l (u.dropWhile blk) d z→w.grownBy W (some b)→LAns w b l (.ok (some (s,r2.length),u.dropWhile blk)) (fun (y:Option (List UInt8×Nat)×List UInt8) e w'=>e=.returned (.tuple #[.string (bs (obt y.1)),.bool (y.1.isSome && !false)])∧LR w' b l y.2 d (lateU l.length lo y.1 x)) (.returned (.tuple #[.string BS,.bool true])) W:=by
        intro z W hz h1 h2
        refine ⟨⟨?_,?_⟩,h2⟩
        ·rw [←HBS.out];rfl
        ·show LR W b l _ d (lateU l.length lo (some (s,r2.length)) x)
         rw [hz];exact h1
       have HFIN:=Lib.hid hfin
       clear hfin
       by_cases hc0:c=0
       ·subst hc0
        by_cases ho0:0<o
        ·have hla:=HLAST.out
         rw [if_pos ⟨HLO.out,rfl,ho0⟩] at hla
         have HLA:=Lib.hid hla
         clear hla
         go_wp2_with fail
         refine (HKP.out _ _ _ _ _ H7.out.1).mono ?_
         rintro e w8 ⟨rfl,h8,g8⟩
         have H8:=Lib.hid (And.intro h8 (grownBy_trans H7.out.2 g8))
         clear h8 g8 H7
         go_wp2
         go_ret2
         exact HFIN.out _ _ HLA.out H8.out.1 H8.out.2
        ·have hla:=HLAST.out
         rw [if_neg (fun e=>ho0 e.2.2)] at hla
         have HLA:=Lib.hid hla
         clear hla
         go_wp2
         go_ret2
         exact HFIN.out _ _ HLA.out H7.out.1 H7.out.2
       ·have hla:=HLAST.out
        rw [if_neg (fun e=>hc0 e.2.1)] at hla
        have HLA:=Lib.hid hla
        have hcb:(c==0)=false:=by simpa using hc0
        clear hla
        go_wp2
        go_ret2
        exact HFIN.out _ _ HLA.out H7.out.1 H7.out.2
end Go.Proofs.YtigmpifjcijdbaaGreatDoor
end

section
namespace Go.Proofs.YtigmpifjcijdbaaGreatDoor
set_option linter.unusedVariables false
set_option linter.unusedSimpArgs false
open Go.RowKit Verge
theorem entire_any (w:World):Calls Tryz.prog 48 #[] w fun e w'=>e=.returned (.agg #[.float .f64 18442240474082181120,.float .f64 9218868437227405312])∧Below w.heap.size w w':=by
 have HB:=Lib.hid (fun o=>bnew w o)
 have hsf:=store_f
 have I1:=Lib.hid (fun W=>infp_any W)
 have I2:=Lib.hid (fun W=>infm_any W)
 go_enter Tryz.func48,Tryz.ntmps48
 go_wp2_with fail
 refine (I2.out _).mono ?_
 rintro en w1 ⟨rfl,rfl⟩
 go_wp2_with fail
 refine (I1.out _).mono ?_
 rintro en w1 ⟨rfl,rfl⟩
 obtain ⟨c0,c1,f0,f1,hz⟩:=box1 (w:=w) (a:=.float .f64 0) (b:=.float .f64 0) (t:=34) (Below.refl _ _)
 go_wp2
 refine bodyPost_ret (v:=.agg #[.float .f64 18442240474082181120,.float .f64 9218868437227405312]) (by simp [results,Tryz.results48,go_sem]) rfl ?_
 exact ⟨rfl,HB.out _⟩
theorem eqF_float {P:Program} (w:World) (d:Nat) (t:TypeId) (k k':FloatKind) (a b:Nat) (h:P.underlying t=some (.float k')):(Op.equalIn (d+1) t (.float k a) (.float k b)).run P w=.ok (k.format.order a b==some .eq) w:=by
 simp [Op.equalIn,run_underlying h]
 rfl
theorem fields_I:(Tryz.prog.fieldsOf 41).toList.map (fun f=>(f.name,f.type,f.offset))=[("Lo",39,0),("Hi",39,1)]:=by kernel_rfl
theorem fields_F:(Tryz.prog.fieldsOf 34).toList.map (fun f=>(f.name,f.type,f.offset))=[("Lo",32,0),("Hi",32,1)]:=by kernel_rfl
theorem part_u (W:World) (a b:Value):(part 39 #[a,b] 0).run Tryz.prog W=.ok a W∧(part 39 #[a,b] 1).run Tryz.prog W=.ok b W:=⟨by kernel_rfl,by kernel_rfl⟩
theorem part_f (W:World) (a b:Value):(part 32 #[a,b] 0).run Tryz.prog W=.ok a W∧(part 32 #[a,b] 1).run Tryz.prog W=.ok b W:=⟨by kernel_rfl,by kernel_rfl⟩
theorem two_fields {P:Program} {fs:List Field} {n0 n1:String} {t:TypeId} (h:fs.map (fun f=>(f.name,f.type,f.offset))=[(n0,t,0),(n1,t,1)]) (h0:n0 ≠ "_") (h1:n1 ≠ "_") (d:Nat) (xs ys:Array Value) (a b c e:Value) (w:World) (p q:Bool)
  (ha:∀W,(part t xs 0).run P W=.ok a W) (hb:∀W,(part t xs 1).run P W=.ok b W) (hc:∀W,(part t ys 0).run P W=.ok c W) (he:∀W,(part t ys 1).run P W=.ok e W)
  (hp:∀W,(Op.equalIn d t a c).run P W=.ok p W) (hq:∀W,(Op.equalIn d t b e).run P W=.ok q W) :
  (Op.eqFields d xs ys fs).run P w=.ok (p&&q) w:=by
 obtain ⟨f,g,rfl⟩:∃f g,fs=[f,g]:=by
  rcases fs with _ | ⟨f,_ | ⟨g,_ | ⟨x,y⟩⟩⟩
  ·simp at h
  ·simp at h
  ·exact ⟨f,g,rfl⟩
  ·simp at h
 simp only [List.map_cons,List.map_nil,List.cons.injEq,Prod.mk.injEq,and_true] at h
 obtain ⟨⟨rfl,rfl,e0⟩,⟨rfl,e1,e2⟩⟩:=h
 simp only [Op.eqFields,h0,h1,if_true,ne_eq,not_false_eq_true,Sem.run_bind,e0,e1,e2,ha,hb,hc,he,hp,hq,Result.andThen_ok,Sem.run_ite,Sem.run_pure]
 cases p <;> cases q <;> simp
theorem eqlF (a b c d:Nat) (w:World):(binOp BinOp.eql 34 (.agg #[.float .f64 a,.float .f64 b]) (.agg #[.float .f64 c,.float .f64 d])).run Tryz.prog w=.ok (.bool ((FloatKind.f64.format.order a c==some .eq)&&(FloatKind.f64.format.order b d==some .eq))) w:=by
 rw [run_eql_struct,run_equalIn_struct _ _ _ _ _ (by kernel_rfl) (by kernel_rfl)]
 rw [two_fields fields_F (by decide) (by decide) _ _ _ _ _ _ _ _ _ _ (fun W=>(part_f W _ _).1) (fun W=>(part_f W _ _).2) (fun W=>(part_f W _ _).1) (fun W=>(part_f W _ _).2) (fun W=>eqF_float W _ _ _ _ _ _ Tryz.underlying32) (fun W=>eqF_float W _ _ _ _ _ _ Tryz.underlying32)]
 rfl
theorem eqlI (a b c d:Int) (w:World):(binOp BinOp.eql 41 (.agg #[.int .u64 a,.int .u64 b]) (.agg #[.int .u64 c,.int .u64 d])).run Tryz.prog w=.ok (.bool ((a==c)&&(b==d))) w:=by
 rw [run_eql_struct,run_equalIn_struct _ _ _ _ _ (by kernel_rfl) (by kernel_rfl)]
 rw [two_fields fields_I (by decide) (by decide) _ _ _ _ _ _ _ _ _ _ (fun W=>(part_u W _ _).1) (fun W=>(part_u W _ _).2) (fun W=>(part_u W _ _).1) (fun W=>(part_u W _ _).2) (fun W=>run_equalIn_int W _ _ _ _ _ _ Tryz.underlying39) (fun W=>run_equalIn_int W _ _ _ _ _ _ Tryz.underlying39)]
 rfl
end Go.Proofs.YtigmpifjcijdbaaGreatDoor
end
