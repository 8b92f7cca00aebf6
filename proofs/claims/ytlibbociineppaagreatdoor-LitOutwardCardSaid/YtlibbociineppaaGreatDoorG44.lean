/- Layer 12, plain: what literals in brackets are read as: numerals, blanks, infinite and missing bounds. -/
import Derived.Test.YtlibbociineppaaGreatDoorG43
namespace Go.Proofs.YtlibbociineppaaGreatDoor
set_option linter.unusedVariables false
set_option linter.unusedSimpArgs false
open Go.RowKit Verge Verge.Lit
def AllB (b:List UInt8):Prop:=∀c∈b,blk c=true
theorem drop_bl:∀{b:List UInt8} (_:AllB b) (t:List UInt8),(b++t).dropWhile blk=t.dropWhile blk
 | [],_,t=>rfl
 | c::b,h,t=>by
  rw [List.cons_append,List.dropWhile_cons_of_pos (h c List.mem_cons_self)]
  exact drop_bl (fun e he=>h e (List.mem_cons_of_mem _ he)) t
theorem pk_cons (c:UInt8) (s:List UInt8):pk (c::s)=lo c:=rfl
theorem bl_ndl {c:UInt8} (h:blk c=true):ndl c=false:=by unfold ndl;rw [h];rfl
theorem numL_bl {s:List UInt8} {x:Bool×Pc} (h:cut s=.ok x) {b:List UInt8} (hb:AllB b) (d:UInt8) (hd:ndl d=false) (u:List UInt8):numL (s++(b++d::u))=.ok (s,b++d::u):=by
 cases b with
 | nil=>exact numL_of h d hd u
 | cons c b=>exact numL_of h c (bl_ndl (hb c List.mem_cons_self)) (b++d::u)
theorem num_at {s:List UInt8} {x:Bool×Pc} (h:cut s=.ok x) (u:List UInt8) :
  pk (s++u)≠93∧pk (s++u)≠101∧pk (s++u)≠110∧pk (s++u)≠44∧pk (s++u)≠105∧¬(pk (s++u)=45∧pk ((s++u).drop 1)=105)∧¬(pk (s++u)=43∧pk ((s++u).drop 1)=105)∧(s++u).dropWhile blk=s++u:=by
 obtain ⟨c,r,hpc,hc,hcs⟩:=num_head h
 have HCS:=Lib.hid hcs
 clear hcs
 have hpk:pk (s++u)=c.toNat:=by
  rw [hpc,List.cons_append]
  exact lo_low (by omega)
 have hcb:blk c=false:=by simp [blk];omega
 have key:(c.toNat=43∨c.toNat=45)→pk ((s++u).drop 1)≠105:=by
  intro hs h2
  obtain ⟨e',u',hr,he'⟩:=HCS.out hs
  rw [hpc,hr,List.cons_append,List.cons_append,List.drop_one,List.tail_cons] at h2
  have h2:lo e'=105:=h2
  rw [lo_low (by omega)] at h2
  omega
 have K:=Lib.hid key
 clear key
 rw [hpk]
 refine ⟨by omega,by omega,by omega,by omega,by omega,fun e=>K.out (.inr e.1) e.2,fun e=>K.out (.inl e.1) e.2,?_⟩
 rw [hpc,List.cons_append,List.dropWhile_cons_of_neg (by simp [hcb])]
theorem upp_num {q:List UInt8} {y:Bool×Pc} (hq:cut q=.ok y) {b3 b:List UInt8} (h3:AllB b3) (hb:AllB b):uppL (44::(b3++(q++(b++[93]))))=.ok (some (q,q.length+b.length+1),[93]):=by
 obtain ⟨n1,n2,n3,n4,n5,n6,n7,n8⟩:=num_at hq (b++[93])
 unfold uppL
 rw [show wantL 44 (44::(b3++(q++(b++[93]))))=.ok (b3++(q++(b++[93]))) from rfl,bind_ok,drop_bl h3,n8]
 unfold uppB
 rw [if_neg n1,if_neg (by rintro (h | h);exact n5 h;exact n7 h),numL_bl hq hb 93 (by decide),bind_ok]
 dsimp only
 rw [drop_bl hb,show ([93]:List UInt8).dropWhile blk=[93] by decide]
 simp [Nat.add_assoc]
theorem pk_bl {b:List UInt8} (hb:AllB b) {d:UInt8} (u:List UInt8) (hd:lo d≠105):pk (b++d::u)≠105:=by
 cases b with
 | nil=>exact hd
 | cons c b =>
  have hc:=hb c List.mem_cons_self
  show lo c≠105
  simp only [blk,decide_eq_true_eq] at hc
  rw [lo_low (by omega)]
  omega
def InfW (w:List UInt8):Prop:=w=[105,110,102]∨w=[73,78,70,73,78,73,84,89]∨w=[73,110,102,105,110,105,116,121]
theorem inf_word {w:List UInt8} (hw:InfW w) {t:List UInt8} (ht:pk t≠105):infL (w++t)=.ok t∧pk (w++t)=105∧(w++t).dropWhile blk=w++t:=by
 rcases hw with rfl | rfl | rfl
 ·refine ⟨?_,rfl,rfl⟩
  show (if pk t=105 then spl [105,110,105,116,121] t else .ok t)=_
  rw [if_neg ht]
 ·exact ⟨rfl,rfl,rfl⟩
 ·exact ⟨rfl,rfl,rfl⟩
theorem upp_inf {w:List UInt8} (hw:InfW w) (plus:Bool) {b3 b:List UInt8} (h3:AllB b3) (hb:AllB b):uppL (44::(b3++((if plus=true then [43] else [])++(w++(b++[93])))))=.ok (none,[93]):=by
 obtain ⟨i1,i2,i3⟩:=inf_word hw (pk_bl hb [] (d:=93) (by decide))
 unfold uppL
 rw [show wantL 44 (44::(b3++((if plus=true then [43] else [])++(w++(b++[93])))))=.ok (b3++((if plus=true then [43] else [])++(w++(b++[93])))) from rfl,bind_ok,drop_bl h3]
 cases plus
 ·rw [if_neg (by simp),List.nil_append,i3]
  unfold uppB
  have hne:(isL 43 (w++(b++[93]))).2=w++(b++[93]):=by
   rcases hw with rfl | rfl | rfl <;> rfl
  rw [if_neg (by rw [i2];omega),if_pos (.inl i2),hne,i1,bind_ok,drop_bl hb,show ([93]:List UInt8).dropWhile blk=[93] by decide]
 ·rw [if_pos rfl,List.cons_append,List.nil_append,show ((43:UInt8)::(w++(b++[93]))).dropWhile blk=43::(w++(b++[93])) from List.dropWhile_cons_of_neg (by decide)]
  unfold uppB
  rw [if_neg (show ¬pk (43::(w++(b++[93])))=93 by rw [pk_cons];decide),if_pos (.inr ⟨rfl,i2⟩),show (isL 43 (43::(w++(b++[93])))).2=w++(b++[93]) from rfl,i1,bind_ok,drop_bl hb,show ([93]:List UInt8).dropWhile blk=[93] by decide]
theorem bra_num {p:List UInt8} {x:Bool×Pc} (hp:cut p=.ok x) {b1 b2:List UInt8} (h1:AllB b1) (h2:AllB b2) {u:List UInt8} {o:Option (List UInt8×Nat)} (hu:uppL (44::u)=.ok (o,[93])) :
  braL false (b1++(p++(b2++44::u)))=.ok (.two (some (p,p.length+b2.length+u.length+1)) o,[]):=by
 obtain ⟨n1,n2,n3,n4,n5,n6,n7,n8⟩:=num_at hp (b2++44::u)
 unfold braL
 rw [drop_bl h1,n8]
 unfold braL1
 rw [if_neg n1,if_neg n2,if_neg (by simp),if_neg n4,if_neg n6,numL_bl hp h2 44 (by decide),bind_ok]
 dsimp only
 rw [drop_bl h2,show ((44:UInt8)::u).dropWhile blk=44::u from List.dropWhile_cons_of_neg (by decide),if_pos (show pk (44::u)=44 from rfl),hu,bind_ok]
 unfold cloL
 rw [show wantL 93 [93]=.ok [] from rfl,bind_ok]
 simp only [List.length_append,List.length_cons]
 rw [show p.length+(b2.length+(u.length+1))=p.length+b2.length+u.length+1 by omega]
theorem bra_inf {w:List UInt8} (hw:InfW w) {b1 b2:List UInt8} (h1:AllB b1) (h2:AllB b2) {u:List UInt8} {o:Option (List UInt8×Nat)} (hu:uppL (44::u)=.ok (o,[93])) :
  braL false (b1++45::(w++(b2++44::u)))=.ok (.two none o,[]):=by
 obtain ⟨i1,i2,i3⟩:=inf_word hw (pk_bl h2 u (d:=44) (by decide))
 unfold braL
 rw [drop_bl h1,show ((45:UInt8)::(w++(b2++44::u))).dropWhile blk=45::(w++(b2++44::u)) from List.dropWhile_cons_of_neg (by decide)]
 unfold braL1
 rw [if_neg (show ¬pk (45::(w++(b2++44::u)))=93 by rw [pk_cons];decide),if_neg (show ¬pk (45::(w++(b2++44::u)))=101 by rw [pk_cons];decide),if_neg (by simp),if_neg (show ¬pk (45::(w++(b2++44::u)))=44 by rw [pk_cons];decide),if_pos ⟨rfl,i2⟩,
  show ((45:UInt8)::(w++(b2++44::u))).drop 1=w++(b2++44::u) from rfl,i1,bind_ok,drop_bl h2,show ((44:UInt8)::u).dropWhile blk=44::u from List.dropWhile_cons_of_neg (by decide),if_pos (show pk (44::u)=44 from rfl),hu,bind_ok]
 unfold cloL
 rw [show wantL 93 [93]=.ok [] from rfl,bind_ok]
theorem litRd_bra {r:List UInt8} {y:Br} (h:braL false r=.ok (y,[])) (hl:r.length≤4095) (hlate:lateB (r.length+1) y (0,0)=(0,0)):litRd (91::r)=((brLo y,brHi y),0,0):=by
 unfold litRd litA
 rw [if_neg (by simp;omega)]
 unfold litR
 have hf:firstL false (91::r)=.ok (.br y,[]):=by
  unfold firstL
  rw [show isL 91 (91::r)=(true,r) from rfl,if_pos rfl,h]
  rfl
 rw [hf]
 dsimp only
 rw [if_neg (by simp),show lateF (91::r:List UInt8).length (.br y) (0,0)=lateB (r.length+1) y (0,0) from rfl,hlate,if_neg (by simp)]
 rfl
theorem late_no {n:Nat} {p:List UInt8} {x:Bool×Nat×Nat×Int} (hp:scn p=.ok x):lateN n p (0,0)=(0,0):=by
 obtain ⟨xp,hcp,hnp⟩:=scn_cuts hp
 unfold lateN;rw [hnp]
theorem scn_ne {p:List UInt8} {x:Bool×Nat×Nat×Int} (hp:scn p=.ok x):p≠[]:=by
 obtain ⟨xp,hcp,hnp⟩:=scn_cuts hp
 rintro rfl
 cases hcp
theorem rd_two {p q:List UInt8} {x y:Bool×Nat×Nat×Int} (hp:scn p=.ok x) (hq:scn q=.ok y) (ho:ordS x y≤0) {b1 b2 b3 b4:List UInt8} (h1:AllB b1) (h2:AllB b2) (h3:AllB b3) (h4:AllB b4) (hl:b1.length+p.length+b2.length+b3.length+q.length+b4.length≤4000) :
  litRd (91::(b1++(p++(b2++44::(b3++(q++(b4++[93])))))))=(((readS (-1) p).1,(readS 1 q).1),0,0):=by
 obtain ⟨xp,hcp,hnp⟩:=scn_cuts hp
 obtain ⟨xq,hcq,hnq⟩:=scn_cuts hq
 have hcmp:cmpS p q=(ordS x y,0,0):=by
  unfold cmpS;rw [hp,hq]
 rw [litRd_bra (bra_num hcp h1 h2 (upp_num hcq h3 h4)) (by simp;omega) ?_]
 ·show ((brLo _,brHi _),_,_)=_
  unfold brLo brHi
  rw [if_neg (show brLoT (.two (some (p,_)) (some (q,_)))≠[] from scn_ne hp),if_neg (show brHiT (.two (some (p,_)) (some (q,_)))≠[] from scn_ne hq)]
  rfl
 ·show lateU _ p (some (q,_)) (lateN _ p (0,0))=_
  rw [late_no hp]
  unfold lateU
  dsimp only
  rw [late_no hq,hcmp,if_neg (fun e=>by have:=e.2.2;dsimp only at this;omega)]
theorem rd_low {p:List UInt8} {x:Bool×Nat×Nat×Int} (hp:scn p=.ok x) {b1 b2 u:List UInt8} (h1:AllB b1) (h2:AllB b2) (hu:uppL (44::u)=.ok (none,[93])) (hl:b1.length+p.length+b2.length+u.length≤4000) :
  litRd (91::(b1++(p++(b2++44::u))))=(((readS (-1) p).1,9218868437227405312),0,0):=by
 obtain ⟨xp,hcp,hnp⟩:=scn_cuts hp
 rw [litRd_bra (bra_num hcp h1 h2 hu) (by simp;omega) ?_]
 ·show ((brLo _,brHi _),_,_)=_
  unfold brLo brHi
  rw [if_neg (show brLoT (.two (some (p,_)) none)≠[] from scn_ne hp)]
  rfl
 ·show lateU 0 p none (lateN _ p (0,0))=_
  rw [late_no hp]
  rfl
theorem rd_upp {q:List UInt8} {y:Bool×Nat×Nat×Int} (hq:scn q=.ok y) {r:List UInt8} {k:Nat} (hr:braL false r=.ok (.two none (some (q,k)),[])) (hl:r.length≤4000) :
  litRd (91::r)=((18442240474082181120,(readS 1 q).1),0,0):=by
 rw [litRd_bra hr (by omega) ?_]
 ·show ((brLo _,brHi _),_,_)=_
  unfold brLo brHi
  rw [if_neg (show brHiT (.two none (some (q,k)))≠[] from scn_ne hq)]
  rfl
 ·show lateU _ [] (some (q,k)) (0,0)=_
  unfold lateU
  dsimp only
  rw [late_no hq,if_neg (by simp)]
end Go.Proofs.YtlibbociineppaaGreatDoor
