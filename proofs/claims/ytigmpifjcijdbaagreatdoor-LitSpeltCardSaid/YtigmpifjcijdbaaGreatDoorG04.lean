/- Layer 5: numerals: the document's table of states and the pieces of a text agree; what pieces say. -/
namespace Verge
def isD (c:UInt8):Bool:=decide (48≤c.toNat∧c.toNat≤57)
def isX (c:UInt8):Bool:=isD c||decide (97≤c.toNat∧c.toNat≤102)||decide (65≤c.toNat∧c.toNat≤70)
def dvl (c:UInt8):Nat:=if c.toNat≤57 then c.toNat - 48 else if 97≤c.toNat then c.toNat - 87 else c.toNat - 55
def isS (c:UInt8):Bool:=decide (c.toNat=43∨c.toNat=45)
def numB (b:Nat) (l:List UInt8):Nat:=l.foldl (fun a c=>a*b+dvl c) 0
def nxH (s:Nat) (c:UInt8):Nat:=
 if s=11∨s=12 then (if isX c then 12 else if c.toNat=46 then (if s=11 then 13 else 14) else if s=12∧(c.toNat=112∨c.toNat=80) then 15 else 18)
 else if s=13 then (if isX c then 14 else 18)
 else if s=14 then (if isX c then 14 else if c.toNat=112∨c.toNat=80 then 15 else 18)
 else if s=15∨s=16∨s=17 then (if s=15∧isS c then 16 else if isD c then 17 else 18)
 else 18
def nx (s:Nat) (c:UInt8):Nat:=
 if s=0∨s=1 then (if s=0∧isS c then 1 else if c.toNat=48 then 2 else if isD c then 3 else if c.toNat=46 then 4 else 18)
 else if s=2∨s=3 then (if s=2∧(c.toNat=120∨c.toNat=88) then 11 else if isD c then 3 else if c.toNat=46 then 5 else if c.toNat=101∨c.toNat=69 then 6 else if c.toNat=47 then 9 else 18)
 else if s=4 then (if isD c then 5 else 18)
 else if s=5 then (if isD c then 5 else if c.toNat=101∨c.toNat=69 then 6 else 18)
 else if s=6∨s=7∨s=8 then (if s=6∧isS c then 7 else if isD c then 8 else 18)
 else if s=9∨s=10 then (if isD c then 10 else 18)
 else nxH s c
def endS (s:Nat):Bool:=decide (s=2∨s=3∨s=5∨s=8∨s=10∨s=17)
def run:Nat→List UInt8→Nat×List UInt8
 | s,[]=>(s,[])
 | s,c::r=>if nx s c=18 then (s,c::r) else run (nx s c) r
inductive Pc where
 | hx (a:List UInt8) (b:Option (List UInt8)) (e:List UInt8)
 | fr (a d:List UInt8)
 | dc (a:List UInt8) (b:Option (List UInt8)) (e:Option (List UInt8))
def sg:List UInt8→Bool×List UInt8
 | []=>(false,[])
 | c::r=>if c.toNat=45 then (true,r) else if c.toNat=43 then (false,r) else (false,c::r)
def ptd (p:UInt8→Bool) (l:List UInt8):Except Nat (List UInt8×Option (List UInt8)×List UInt8):=
 match l.dropWhile p with
 | []=>if l.takeWhile p=[] then .error 0 else .ok (l.takeWhile p,none,[])
 | c::r=>if c.toNat=46 then (if l.takeWhile p=[]∧r.takeWhile p=[] then .error (r.dropWhile p).length else .ok (l.takeWhile p,some (r.takeWhile p),r.dropWhile p))
   else if l.takeWhile p=[] then .error (c::r).length else .ok (l.takeWhile p,none,c::r)
def xpo (l:List UInt8):Except Nat (List UInt8):=
 if (sg l).2.takeWhile isD=[]∨(sg l).2.dropWhile isD≠[] then .error ((sg l).2.dropWhile isD).length else .ok l
def cutH (l:List UInt8):Except Nat Pc:=
 match ptd isX l with
 | .error k=>.error k
 | .ok (_,_,[])=>.error 0
 | .ok (a,b,c::r)=>if c.toNat=112∨c.toNat=80 then (match xpo r with | .error k=>.error k | .ok e=>.ok (.hx a b e)) else .error (c::r).length
def cutD (l:List UInt8):Except Nat Pc:=
 match ptd isD l with
 | .error k=>.error k
 | .ok (a,b,[])=>.ok (.dc a b none)
 | .ok (a,b,c::r) =>
  if b=none∧c.toNat=47 then (if r.takeWhile isD=[]∨r.dropWhile isD≠[] then .error (r.dropWhile isD).length else .ok (.fr a r))
  else if c.toNat=101∨c.toNat=69 then (match xpo r with | .error k=>.error k | .ok e=>.ok (.dc a b (some e)))
  else .error (c::r).length
def hexy:List UInt8→Option (List UInt8)
 | c::x::r=>if c.toNat=48∧(x.toNat=120∨x.toNat=88) then some r else none
 | _=>none
def cut (l:List UInt8):Except Nat (Bool×Pc):=
 match hexy (sg l).2 with
 | some r=>(cutH r).map fun p=>((sg l).1,p)
 | none=>(cutD (sg l).2).map fun p=>((sg l).1,p)
def frm (x:Nat×List UInt8):Except Nat Nat:=if x.2=[]∧endS x.1=true then .ok x.1 else .error x.2.length
def Pc.st:Pc→Nat→Prop
 | .hx _ _ _,s=>s=17
 | .fr _ _,s=>s=10
 | .dc _ _ (some _),s=>s=8
 | .dc _ (some _) none,s=>s=5
 | .dc _ none none,s=>s=2∨s=3
def agree (x:Except Nat Nat) (y:Except Nat Pc):Prop:=
 match x,y with
 | .ok s,.ok p=>p.st s
 | .error j,.error k=>j=k
 | _,_=>False
theorem run_while (s:Nat) (p:UInt8→Bool) (h:∀c,p c=true→nx s c=s) (hs:s≠18):∀l,run s l=run s (l.dropWhile p)
 | []=>rfl
 | c::r=>by
  by_cases hp:p c=true
  ·rw [List.dropWhile_cons_of_pos hp,run,h c hp,if_neg hs,run_while s p h hs r]
  ·rw [List.dropWhile_cons_of_neg hp]
theorem run_nil (s:Nat):run s []=(s,[]):=rfl
theorem run_stop {s:Nat} {c:UInt8} {r:List UInt8} (h:nx s c=18):run s (c::r)=(s,c::r):=by rw [run,if_pos h]
theorem run_go {s t:Nat} {c:UInt8} {r:List UInt8} (h:nx s c=t) (ht:t≠18):run s (c::r)=run t r:=by rw [run,h,if_neg ht]
theorem drop_head {p:UInt8→Bool} {l r:List UInt8} {c:UInt8} (h:l.dropWhile p=c::r):p c=false:=by
 induction l with
 | nil=>simp at h
 | cons x xs ih =>
  by_cases hp:p x=true
  ·rw [List.dropWhile_cons_of_pos hp] at h;exact ih h
  ·rw [List.dropWhile_cons_of_neg hp] at h;injection h with h1 h2;subst h1;simpa using hp
theorem takeWhile_cons' {p:UInt8→Bool} {c:UInt8} {r:List UInt8} (h:p c=true):(c::r).takeWhile p=c::r.takeWhile p:=by rw [List.takeWhile_cons_of_pos h]
theorem isD_iff {c:UInt8}:isD c=true↔48≤c.toNat∧c.toNat≤57:=by simp [isD]
theorem isD_no {c:UInt8}:isD c=false↔¬(48≤c.toNat∧c.toNat≤57):=by simp [isD]
theorem isX_iff {c:UInt8}:isX c=true↔(48≤c.toNat∧c.toNat≤57)∨(97≤c.toNat∧c.toNat≤102)∨(65≤c.toNat∧c.toNat≤70):=by simp [isX,isD,or_assoc]
theorem isX_no {c:UInt8}:isX c=false↔¬((48≤c.toNat∧c.toNat≤57)∨(97≤c.toNat∧c.toNat≤102)∨(65≤c.toNat∧c.toNat≤70)):=by
 rw [←isX_iff];simp
theorem isS_iff {c:UInt8}:isS c=true↔c.toNat=43∨c.toNat=45:=by simp [isS]
theorem isS_D {c:UInt8} (h:isD c=true):isS c=false:=by
 have:=isD_iff.1 h
 by_cases hs:isS c=true
 ·have:=isS_iff.1 hs;omega
 ·simpa using hs
theorem sg_no {c:UInt8} {r:List UInt8} (h:¬(c.toNat=43∨c.toNat=45)):sg (c::r)=(false,c::r):=by
 show (if c.toNat=45 then (true,r) else if c.toNat=43 then (false,r) else (false,c::r))=_
 rw [if_neg (fun e=>h (.inr e)),if_neg (fun e=>h (.inl e))]
theorem sg_yes {c:UInt8} {r:List UInt8} (h:c.toNat=43∨c.toNat=45):sg (c::r)=(decide (c.toNat=45),r):=by
 show (if c.toNat=45 then (true,r) else if c.toNat=43 then (false,r) else (false,c::r))=_
 by_cases h5:c.toNat=45
 ·rw [if_pos h5,decide_eq_true h5]
 ·rw [if_neg h5,if_pos (by omega),decide_eq_false h5]
theorem drop_idem (p:UInt8→Bool):∀l:List UInt8,(l.dropWhile p).dropWhile p=l.dropWhile p
 | []=>rfl
 | c::r=>by
  by_cases hp:p c=true
  ·rw [List.dropWhile_cons_of_pos hp];exact drop_idem p r
  ·rw [List.dropWhile_cons_of_neg hp,List.dropWhile_cons_of_neg hp]
theorem run_digits (s t:Nat) (p:UInt8→Bool) (h0:∀c,p c=true→nx s c=t) (h:∀c,p c=true→nx t c=t) (ht:t≠18) (l:List UInt8) (hl:l.takeWhile p≠[]):run s l=run t (l.dropWhile p):=by
 cases l with
 | nil=>simp at hl
 | cons c r =>
  by_cases hp:p c=true
  ·rw [run_go (h0 c hp) ht,run_while t p h ht,List.dropWhile_cons_of_pos hp]
  ·rw [List.takeWhile_cons_of_neg hp] at hl;exact absurd rfl hl
theorem xpo_frm (s0 s1 s2:Nat) (hs:∀c,isS c=true→nx s0 c=s1) (hd0:∀c,isD c=true→nx s0 c=s2) (hd1:∀c,isD c=true→nx s1 c=s2) (hd2:∀c,isD c=true→nx s2 c=s2)
  (hn0:∀c,isS c=false→isD c=false→nx s0 c=18) (hn1:∀c,isD c=false→nx s1 c=18) (hn2:∀c,isD c=false→nx s2 c=18) (e0:endS s0=false) (e1:endS s1=false) (e2:endS s2=true)
  (h1:s1≠18) (h2:s2≠18) (l:List UInt8) :
  frm (run s0 l)=(match xpo l with | .error k=>.error k | .ok _=>.ok s2):=by
 have key:∀(s:Nat) (r:List UInt8),(s=s0∧(∀c t,r=c::t→isS c=false)∨s=s1)→frm (run s r)=if r.takeWhile isD=[]∨r.dropWhile isD≠[] then .error (r.dropWhile isD).length else .ok s2:=by
  intro s r hsr
  cases r with
  | nil =>
   have:endS s=false:=by rcases hsr with ⟨rfl,_⟩ | rfl <;> assumption
   simp [run_nil,frm,this]
  | cons c t =>
   by_cases hd:isD c=true
   ·have hn:nx s c=s2:=by rcases hsr with ⟨rfl,_⟩ | rfl;exact hd0 c hd;exact hd1 c hd
    rw [run_go hn h2,run_while s2 isD hd2 h2,takeWhile_cons' hd,List.dropWhile_cons_of_pos hd]
    cases hx:t.dropWhile isD with
    | nil=>simp [run_nil,frm,e2]
    | cons d u =>
     have:=drop_head hx
     rw [run_stop (hn2 d this)]
     simp [frm]
   ·have hd':isD c=false:=by simpa using hd
    have hn:nx s c=18:=by
     rcases hsr with ⟨rfl,h⟩ | rfl
     ·exact hn0 c (h c t rfl) hd'
     ·exact hn1 c hd'
    rw [run_stop hn,List.takeWhile_cons_of_neg (by simp [hd']),List.dropWhile_cons_of_neg (by simp [hd'])]
    simp [frm]
 unfold xpo
 have hfin:∀(r:List UInt8),(match (if r.takeWhile isD=[]∨r.dropWhile isD≠[] then Except.error (r.dropWhile isD).length else Except.ok l:Except Nat (List UInt8)) with | .error k=>Except.error k | .ok _=>Except.ok s2)=if r.takeWhile isD=[]∨r.dropWhile isD≠[] then Except.error (r.dropWhile isD).length else Except.ok s2:=by
  intro r
  by_cases h:r.takeWhile isD=[]∨r.dropWhile isD≠[]
  ·rw [if_pos h,if_pos h]
  ·rw [if_neg h,if_neg h]
 rw [hfin]
 cases l with
 | nil=>exact key s0 [] (.inl ⟨rfl,fun c t h=>by simp at h⟩)
 | cons c r =>
  by_cases hc:isS c=true
  ·have:(sg (c::r)).2=r:=by
    rcases isS_iff.1 hc with h | h
    ·simp [sg,h]
    ·simp [sg,h]
   rw [this,run_go (hs c hc) h1]
   exact key s1 r (.inr rfl)
  ·have hno:¬(c.toNat=43∨c.toNat=45):=fun h=>hc (isS_iff.2 h)
   have:(sg (c::r)).2=c::r:=by rw [sg_no hno]
   rw [this]
   exact key s0 (c::r) (.inl ⟨rfl,fun d t h=>by injection h with h1 h2;subst h1;simpa using hc⟩)
theorem xpoD (l:List UInt8):frm (run 6 l)=(match xpo l with | .error k=>.error k | .ok _=>.ok 8):=by
 refine xpo_frm 6 7 8 ?_ ?_ ?_ ?_ ?_ ?_ ?_ rfl rfl rfl (by decide) (by decide) l <;> intros <;> simp_all [nx,isS_D]
theorem xpoH (l:List UInt8):frm (run 15 l)=(match xpo l with | .error k=>.error k | .ok _=>.ok 17):=by
 refine xpo_frm 15 16 17 ?_ ?_ ?_ ?_ ?_ ?_ ?_ rfl rfl rfl (by decide) (by decide) l <;> intros <;> simp_all [nx,nxH,isS_D]
theorem cutH_agree (l:List UInt8):agree (frm (run 11 l)) (cutH l):=by
 have tail14:∀r:List UInt8,frm (run 14 r)=(match r.dropWhile isX with
   | []=>.error 0
   | c::t=>if c.toNat=112∨c.toNat=80 then (match xpo t with | .error k=>.error k | .ok _=>.ok 17) else .error (c::t).length):=by
  intro r
  rw [run_while 14 isX (by intro c h;simp [nx,nxH,h]) (by decide)]
  cases hr:r.dropWhile isX with
  | nil=>simp [run_nil,frm,endS]
  | cons c t =>
   have hx:=drop_head hr
   by_cases hp:c.toNat=112∨c.toNat=80
   ·rw [run_go (show nx 14 c=15 by simp [nx,nxH,hx,hp]) (by decide),xpoH]
    simp [hp]
   ·rw [run_stop (show nx 14 c=18 by simp [nx,nxH,hx,hp])]
    simp [hp,frm]
 unfold cutH ptd
 by_cases ha:l.takeWhile isX=[]
 ·cases l with
  | nil=>simp [run_nil,frm,endS,agree]
  | cons c r =>
   have hc:isX c=false:=by
    by_cases h:isX c=true
    ·rw [takeWhile_cons' h] at ha;simp at ha
    ·simpa using h
   rw [List.dropWhile_cons_of_neg (by simp [hc]),ha]
   by_cases hp:c.toNat=46
   ·rw [run_go (show nx 11 c=13 by simp [nx,nxH,hc,hp]) (by decide)]
    simp only [hp,if_true,true_and]
    by_cases hb:r.takeWhile isX=[]
    ·rw [if_pos hb]
     cases r with
     | nil=>simp [run_nil,frm,endS,agree]
     | cons d u =>
      have hd:isX d=false:=by
       by_cases h:isX d=true
       ·rw [takeWhile_cons' h] at hb;simp at hb
       ·simpa using h
      rw [run_stop (show nx 13 d=18 by simp [nx,nxH,hd]),List.dropWhile_cons_of_neg (by simp [hd])]
      simp [frm,agree]
    ·rw [if_neg hb,run_digits 13 14 isX (by intro c h;simp [nx,nxH,h]) (by intro c h;simp [nx,nxH,h]) (by decide) r hb]
     rw [tail14,drop_idem]
     cases hr:r.dropWhile isX with
     | nil=>simp [agree]
     | cons d u =>
      simp only
      by_cases hq:d.toNat=112∨d.toNat=80
      ·simp only [hq,if_true]
       cases xpo u <;> simp [agree,Pc.st]
      ·simp [hq,agree]
   ·rw [run_stop (show nx 11 c=18 by simp [nx,nxH,hc,hp])]
    simp [hp,frm,agree]
 ·rw [run_digits 11 12 isX (by intro c h;simp [nx,nxH,h]) (by intro c h;simp [nx,nxH,h]) (by decide) l ha]
  simp only [ha,false_and,if_false]
  cases hl:l.dropWhile isX with
  | nil=>simp [run_nil,frm,endS,agree]
  | cons c r =>
   have hc:=drop_head hl
   by_cases hp:c.toNat=46
   ·rw [run_go (show nx 12 c=14 by simp [nx,nxH,hc,hp]) (by decide),tail14]
    simp only [hp,if_true]
    cases hr:r.dropWhile isX with
    | nil=>simp [agree]
    | cons d u =>
     simp only
     by_cases hq:d.toNat=112∨d.toNat=80
     ·simp only [hq,if_true]
      cases xpo u <;> simp [agree,Pc.st]
     ·simp [hq,agree]
   ·simp only [hp,if_false]
    by_cases hq:c.toNat=112∨c.toNat=80
    ·rw [run_go (show nx 12 c=15 by simp [nx,nxH,hc,hp,hq]) (by decide),xpoH]
     simp only [hq,if_true]
     cases xpo r <;> simp [agree,Pc.st]
    ·rw [run_stop (show nx 12 c=18 by simp [nx,nxH,hc,hp,hq])]
     simp [hq,frm,agree]
theorem tail5 (r : List UInt8) : frm (run 5 r) = (match r.dropWhile isD with
      | []=>.ok 5
      | c::t=>if c.toNat=101∨c.toNat=69 then (match xpo t with | .error k=>.error k | .ok _=>.ok 8) else .error (c::t).length):=by
  rw [run_while 5 isD (by intro c h;simp [nx,h]) (by decide)]
  cases hr:r.dropWhile isD with
  | nil=>simp [run_nil,frm,endS]
  | cons c t =>
    have hx:=drop_head hr
    by_cases hp:c.toNat=101∨c.toNat=69
    · rw [run_go (show nx 5 c=6 by simp [nx,hx,hp]) (by decide),xpoD]
      simp [hp]
    · rw [run_stop (show nx 5 c=18 by simp [nx,hx,hp])]
      simp [hp,frm]
theorem tail9 (r:List UInt8):frm (run 9 r)=if r.takeWhile isD=[]∨r.dropWhile isD≠[] then .error (r.dropWhile isD).length else .ok 10:=by
 by_cases h:r.takeWhile isD=[]
 ·rw [if_pos (.inl h)]
  cases r with
  | nil=>simp [run_nil,frm,endS]
  | cons d u =>
   have hd:isD d=false:=by
    by_cases h':isD d=true
    ·rw [takeWhile_cons' h'] at h;simp at h
    ·simpa using h'
   rw [run_stop (show nx 9 d=18 by simp [nx,hd]),List.dropWhile_cons_of_neg (by simp [hd])]
   simp [frm]
 ·rw [run_digits 9 10 isD (by intro c h;simp [nx,h]) (by intro c h;simp [nx,h]) (by decide) r h]
  cases hr:r.dropWhile isD with
  | nil=>simp [run_nil,frm,endS,h]
  | cons c t =>
   have hx:=drop_head hr
   rw [run_stop (show nx 10 c=18 by simp [nx,hx])]
   simp [frm]
def restD (r:List UInt8):Except Nat Nat:=
 match r with
 | []=>.ok 3
 | c::t=>if c.toNat=46 then frm (run 5 t) else if c.toNat=101∨c.toNat=69 then frm (run 6 t) else if c.toNat=47 then frm (run 9 t) else .error (c::t).length
theorem tail3 (r:List UInt8):frm (run 3 r)=restD (r.dropWhile isD):=by
 rw [run_while 3 isD (by intro c h;simp [nx,h]) (by decide)]
 cases hr:r.dropWhile isD with
 | nil=>simp [run_nil,frm,endS,restD]
 | cons c t =>
  have hx:=drop_head hr
  unfold restD
  by_cases h1:c.toNat=46
  ·rw [run_go (show nx 3 c=5 by simp [nx,hx,h1]) (by decide)];simp [h1]
  ·by_cases h2:c.toNat=101∨c.toNat=69
   ·rw [run_go (show nx 3 c=6 by simp [nx,hx,h1,h2]) (by decide)];simp [h1,h2]
   ·by_cases h3:c.toNat=47
    ·rw [run_go (show nx 3 c=9 by simp [nx,hx,h3]) (by decide)];simp [h3]
    ·rw [run_stop (show nx 3 c=18 by simp [nx,hx,h1,h2,h3])];simp [h1,h2,h3,frm]
theorem ok3 {x y:Except Nat Nat} {p:Except Nat Pc} (h:agree x p) (hxy:y=x∨x=.ok 3∧y=.ok 2) (hp:∀q,p=.ok q→q.st 3→q.st 2):agree y p:=by
 rcases hxy with rfl | ⟨rfl,rfl⟩
 ·exact h
 ·cases p with
  | error k=>exact h.elim
  | ok q=>exact hp q rfl h
theorem tail2 (r:List UInt8) (hx:∀c t,r=c::t→¬(c.toNat=120∨c.toNat=88)):frm (run 2 r)=restD (r.dropWhile isD)∨restD (r.dropWhile isD)=.ok 3∧frm (run 2 r)=.ok 2:=by
 cases r with
 | nil=>right;simp [run_nil,frm,endS,restD]
 | cons c t =>
  left
  have h0:=hx c t rfl
  by_cases hd:isD c=true
  ·rw [run_go (show nx 2 c=3 by simp [nx,hd,h0]) (by decide),tail3,List.dropWhile_cons_of_pos hd]
  ·have hd':isD c=false:=by simpa using hd
   rw [List.dropWhile_cons_of_neg (by simp [hd'])]
   unfold restD
   by_cases h1:c.toNat=46
   ·rw [run_go (show nx 2 c=5 by simp [nx,hd',h1]) (by decide)];simp [h1]
   ·by_cases h2:c.toNat=101∨c.toNat=69
    ·rw [run_go (show nx 2 c=6 by simp [nx,hd',h0,h1,h2]) (by decide)];simp [h1,h2]
    ·by_cases h3:c.toNat=47
     ·rw [run_go (show nx 2 c=9 by simp [nx,hd',h3]) (by decide)];simp [h3]
     ·rw [run_stop (show nx 2 c=18 by simp [nx,hd',h0,h1,h2,h3])];simp [h1,h2,h3,frm]
theorem pt_agree (r : List UInt8) (a : List UInt8) : agree (frm (run 5 r)) (match (r.dropWhile isD : List UInt8) with
      | []=>.ok (.dc a (some (r.takeWhile isD)) none)
      | c::t=>if c.toNat=101∨c.toNat=69 then (match xpo t with | .error k=>.error k | .ok e=>.ok (.dc a (some (r.takeWhile isD)) (some e))) else .error (c::t).length):=by
  rw [tail5]
  cases hr:r.dropWhile isD with
  | nil=>simp [agree,Pc.st]
  | cons c t =>
    simp only
    by_cases h:c.toNat=101∨c.toNat=69
    · simp only [h,if_true]
      cases xpo t <;> simp [agree,Pc.st]
    · simp [h,agree]
theorem rest_agree (l:List UInt8) (hl:l.takeWhile isD≠[]):agree (restD (l.dropWhile isD)) (cutD l)∧∀q,cutD l=.ok q→q.st 3→q.st 2:=by
 constructor
 ·unfold cutD ptd restD
  cases hr:l.dropWhile isD with
  | nil=>simp [hl,agree,Pc.st]
  | cons c r =>
   have hc:=drop_head hr
   by_cases h1:c.toNat=46
   ·simp only [h1,if_true,hl,false_and,if_false]
    have:=pt_agree r (l.takeWhile isD)
    cases hq:r.dropWhile isD with
    | nil=>rw [hq] at this;simpa using this
    | cons d u=>rw [hq] at this;simpa using this
   ·by_cases h2:c.toNat=101∨c.toNat=69
    ·have h3:¬c.toNat=47:=by omega
     simp only [h1,h2,h3,hl,if_false,if_true,and_false]
     rw [xpoD]
     cases xpo r <;> simp [agree,Pc.st]
    ·by_cases h3:c.toNat=47
     ·dsimp only
      rw [if_neg h1,if_neg h1,if_neg h2,if_pos h3,if_neg hl,tail9]
      dsimp only
      rw [if_pos (show (none:Option (List UInt8))=none∧c.toNat=47 from ⟨rfl,h3⟩)]
      by_cases h4:r.takeWhile isD=[]∨r.dropWhile isD≠[]
      ·rw [if_pos h4,if_pos h4];simp [agree]
      ·rw [if_neg h4,if_neg h4];simp [agree,Pc.st]
     ·simp [h1,h2,h3,hl,agree]
 ·intro q hq h
  cases q with
  | hx a b e=>simp [Pc.st] at h
  | fr a d=>simp [Pc.st] at h
  | dc a b e =>
   cases e with
   | some e=>simp [Pc.st] at h
   | none =>
    cases b with
    | some b=>simp [Pc.st] at h
    | none=>simp [Pc.st]
theorem cutD_agree (s:Nat) (hs:s=0∨s=1) (l:List UInt8) (hh:hexy l=none) (h0:s=0→∀c r,l=c::r→isS c=false):agree (frm (run s l)) (cutD l):=by
 have es:endS s=false:=by rcases hs with rfl | rfl <;> rfl
 cases l with
 | nil=>simp [run_nil,frm,es,cutD,ptd,agree]
 | cons c r =>
  have hsg:¬(s=0∧isS c=true):=fun ⟨h1,h2⟩=>by rw [h0 h1 c r rfl] at h2;cases h2
  by_cases hd:isD c=true
  ·have hl:(c::r).takeWhile isD≠[]:=by rw [takeWhile_cons' hd];simp
   obtain ⟨ha,hb⟩:=rest_agree (c::r) hl
   rw [List.dropWhile_cons_of_pos hd] at ha
   by_cases hz:c.toNat=48
   ·have hn:nx s c=2:=by unfold nx;rw [if_pos hs,if_neg hsg,if_pos hz]
    rw [run_go hn (by decide)]
    have hx:∀d t,r=d::t→¬(d.toNat=120∨d.toNat=88):=by
     rintro d t rfl hh'
     simp [hexy,hz,hh'] at hh
    refine ok3 ha ?_ hb
    rcases tail2 r hx with h | h
    ·exact .inl h
    ·exact .inr h
   ·have hn:nx s c=3:=by unfold nx;rw [if_pos hs,if_neg hsg,if_neg hz,if_pos hd]
    rw [run_go hn (by decide),tail3]
    exact ha
  ·have hd':isD c=false:=by simpa using hd
   have hz:¬c.toNat=48:=fun h=>hd (isD_iff.2 (by omega))
   have hdr:(c::r).dropWhile isD=c::r:=List.dropWhile_cons_of_neg (by simp [hd'])
   have htk:(c::r).takeWhile isD=[]:=List.takeWhile_cons_of_neg (by simp [hd'])
   unfold cutD ptd
   rw [hdr,htk]
   by_cases hp:c.toNat=46
   ·have hn:nx s c=4:=by unfold nx;rw [if_pos hs,if_neg hsg,if_neg hz,if_neg (by simp [hd']),if_pos hp]
    rw [run_go hn (by decide)]
    simp only [hp,if_true,true_and]
    by_cases hb:r.takeWhile isD=[]
    ·rw [if_pos hb]
     cases r with
     | nil=>simp [run_nil,frm,endS,agree]
     | cons d u =>
      have hd2:isD d=false:=by
       by_cases h:isD d=true
       ·rw [takeWhile_cons' h] at hb;simp at hb
       ·simpa using h
      rw [run_stop (show nx 4 d=18 by simp [nx,hd2]),List.dropWhile_cons_of_neg (by simp [hd2])]
      simp [frm,agree]
    ·rw [if_neg hb,run_digits 4 5 isD (by intro c h;simp [nx,h]) (by intro c h;simp [nx,h]) (by decide) r hb]
     have:=pt_agree (r.dropWhile isD) []
     rw [drop_idem] at this
     cases hq:r.dropWhile isD with
     | nil=>simp [run_nil,frm,endS,agree,Pc.st]
     | cons d u =>
      have ht:(r.dropWhile isD).takeWhile isD=[]:=by rw [hq];exact List.takeWhile_cons_of_neg (by simp [drop_head hq])
      simp only [hq] at this ⊢
      by_cases h:d.toNat=101∨d.toNat=69
      ·simp only [h,if_true,reduceCtorEq,false_and,if_false] at this ⊢
       cases hx:xpo u <;> simp [hx] at this ⊢ <;> revert this <;> cases frm (run 5 (d::u)) <;> simp [agree,Pc.st]
      ·simpa [h] using this
   ·have hn:nx s c=18:=by unfold nx;rw [if_pos hs,if_neg hsg,if_neg hz,if_neg (by simp [hd']),if_neg hp]
    rw [run_stop hn]
    simp [hp,frm,agree]
theorem cut_agree (l:List UInt8):agree (frm (run 0 l)) ((cut l).map Prod.snd):=by
 have key:∀(s:Nat) (r:List UInt8),s=0∨s=1→(s=0→∀c t,r=c::t→isS c=false)→agree (frm (run s r)) (match hexy r with | some t=>cutH t | none=>cutD r):=by
  intro s r hs h0
  cases hh:hexy r with
  | none=>exact cutD_agree s hs r hh h0
  | some t =>
   match r,hh with
   | c::x::u,hh =>
    have hh':(if c.toNat=48∧(x.toNat=120∨x.toNat=88) then some u else none)=some t:=hh
    by_cases hc:c.toNat=48∧(x.toNat=120∨x.toNat=88)
    ·rw [if_pos hc] at hh'
     injection hh' with hh'
     subst hh'
     have hsg:¬(s=0∧isS c=true):=fun ⟨h1,h2⟩=>by rw [h0 h1 c _ rfl] at h2;cases h2
     have hn:nx s c=2:=by unfold nx;rw [if_pos hs,if_neg hsg,if_pos hc.1]
     rw [run_go hn (by decide),run_go (show nx 2 x=11 by simp [nx,hc.2]) (by decide)]
     exact cutH_agree u
    ·rw [if_neg hc] at hh';cases hh'
 have hfin:(cut l).map Prod.snd=(match hexy (sg l).2 with | some t=>cutH t | none=>cutD (sg l).2):=by
  unfold cut
  cases hexy (sg l).2 with
  | none=>cases cutD (sg l).2 <;> rfl
  | some r=>cases h:cutH r <;> simp [h,Except.map]
 rw [hfin]
 cases l with
 | nil=>exact key 0 [] (.inl rfl) (fun _ c t h=>by simp at h)
 | cons c r =>
  by_cases hc:isS c=true
  ·have:(sg (c::r)).2=r:=by
    rcases isS_iff.1 hc with h | h
    ·simp [sg,h]
    ·simp [sg,h]
   rw [this,run_go (show nx 0 c=1 by simp [nx,hc]) (by decide)]
   exact key 1 r (.inr rfl) (fun h=>by simp at h)
  ·have hno:¬(c.toNat=43∨c.toNat=45):=fun h=>hc (isS_iff.2 h)
   have:(sg (c::r)).2=c::r:=by rw [sg_no hno]
   rw [this]
   exact key 0 (c::r) (.inl rfl) (fun _ d t h=>by injection h with h1 h2;subst h1;simpa using hc)
theorem numB_append (b:Nat) (s t:List UInt8):numB b (s++t)=numB b s*b^t.length+numB b t:=by
 unfold numB
 rw [List.foldl_append]
 generalize s.foldl (fun a c=>a*b+dvl c) 0=x
 have key:∀(l:List UInt8) (x:Nat),l.foldl (fun a c=>a*b+dvl c) x=x*b^l.length+l.foldl (fun a c=>a*b+dvl c) 0:=by
  intro l
  induction l with
  | nil=>intro x;simp
  | cons c r ih =>
   intro x
   rw [List.foldl_cons,ih,List.foldl_cons,ih (0*b+dvl c),List.length_cons,Nat.pow_succ,Nat.zero_mul,Nat.zero_add,Nat.add_mul,Nat.mul_assoc,Nat.mul_comm b,Nat.add_assoc]
 exact key t x
theorem numB_snoc (b:Nat) (s:List UInt8) (c:UInt8):numB b (s++[c])=numB b s*b+dvl c:=by
 rw [numB_append];simp [numB]
theorem numB_cons (b:Nat) (s:List UInt8) (c:UInt8):numB b (c::s)=dvl c*b^s.length+numB b s:=by
 have:=numB_append b [c] s
 simpa [numB] using this
theorem numB_lt (b:Nat):∀(s:List UInt8),(∀c∈s,dvl c<b)→numB b s<b^s.length:=by
 intro s
 induction s with
 | nil=>intro _;simp [numB]
 | cons c r ih =>
  intro h
  rw [numB_cons,List.length_cons,Nat.pow_succ]
  have h1:=ih (fun d hd=>h d (List.mem_cons_of_mem _ hd))
  have h2:=h c List.mem_cons_self
  have:dvl c*b^r.length+b^r.length≤b^r.length*b:=by
   rw [←Nat.succ_mul,Nat.mul_comm];exact Nat.mul_le_mul_left _ h2
  omega
theorem numB_mono (b:Nat) (hb:0<b) (s t:List UInt8):numB b s≤numB b (s++t):=by
 rw [numB_append]
 have:=Nat.le_mul_of_pos_right (numB b s) (Nat.pow_pos (n:=t.length) hb)
 omega
theorem dvl_D {c:UInt8} (h:isD c=true):dvl c=c.toNat - 48∧dvl c<10:=by
 have:=isD_iff.1 h
 unfold dvl;rw [if_pos this.2];omega
theorem dvl_X {c:UInt8} (h:isX c=true):dvl c<16:=by
 have:=isX_iff.1 h
 unfold dvl;split
 ·omega
 ·split <;> omega
theorem isX_D {c:UInt8} (h:isD c=true):isX c=true:=by unfold isX;simp [h]
def pt:Option (List UInt8)→List UInt8
 | none=>[]
 | some b=>46::b
def ob (b:Option (List UInt8)):List UInt8:=b.getD []
theorem take_all {p:UInt8→Bool} {l:List UInt8}:∀c∈l.takeWhile p,p c=true:=by
 induction l with
 | nil=>simp
 | cons x xs ih =>
  by_cases hp:p x=true
  ·rw [List.takeWhile_cons_of_pos hp];intro c hc
   rcases List.mem_cons.1 hc with rfl | hc
   ·exact hp
   ·exact ih c hc
  ·rw [List.takeWhile_cons_of_neg hp];simp
theorem u8_46 {c:UInt8} (h:c.toNat=46):c=46:=by
 apply UInt8.toNat_inj.1;rw [h];rfl
theorem ptd_ok {p:UInt8→Bool} {l a:List UInt8} {b:Option (List UInt8)} {r:List UInt8} (h:ptd p l=.ok (a,b,r)) :
  l=a++pt b++r∧(∀c∈a,p c=true)∧(∀c∈ob b,p c=true)∧a++ob b≠[]∧(b=none→∀c t,r=c::t→p c=false∧c.toNat≠46)∧(∀c t,r=c::t→p c=false):=by
 have hl:=List.takeWhile_append_dropWhile (p:=p) (l:=l)
 unfold ptd at h
 cases hd:l.dropWhile p with
 | nil =>
  rw [hd] at h hl
  dsimp only at h
  split at h
  ·cases h
  ·rename_i hne
   injection h with h;injection h with h1 h2;injection h2 with h2 h3;subst h1;subst h2;subst h3
   exact ⟨by simpa [pt] using hl.symm,take_all,by simp [ob],by simpa [ob] using hne,fun _ c t h=>by simp at h,fun c t h=>by simp at h⟩
 | cons c r0 =>
  have hc:=drop_head hd
  rw [hd] at h hl
  dsimp only at h
  split at h
  ·rename_i h46
   split at h
   ·cases h
   ·rename_i hne
    injection h with h;injection h with h1 h2;injection h2 with h2 h3;subst h1;subst h2;subst h3
    refine ⟨?_,take_all,take_all,?_,fun h=>by simp at h,fun c t h=>drop_head h⟩
    ·conv=>lhs;rw [←hl]
     conv=>lhs;rw [←List.takeWhile_append_dropWhile (p:=p) (l:=r0)]
     have:=u8_46 h46
     subst this
     simp [pt]
    ·intro e
     rw [List.append_eq_nil_iff] at e
     exact hne e
  ·rename_i h46
   split at h
   ·cases h
   ·rename_i hne
    injection h with h;injection h with h1 h2;injection h2 with h2 h3;subst h1;subst h2;subst h3
    refine ⟨by simpa [pt] using hl.symm,take_all,by simp [ob],by simpa [ob] using hne,fun _ d t e => ?_,fun d t e => ?_⟩
    ·injection e with e1 e2;subst e1;exact ⟨hc,h46⟩
    ·injection e with e1 e2;subst e1;exact hc
theorem xpo_ok {l e:List UInt8} (h:xpo l=.ok e):e=l∧(sg l).2≠[]∧∀c∈(sg l).2,isD c=true:=by
 unfold xpo at h
 split at h
 ·cases h
 ·rename_i hne
  injection h with h
  subst h
  have hl:=List.takeWhile_append_dropWhile (p:=isD) (l:=(sg l).2)
  have hd:(sg l).2.dropWhile isD=[]:=Classical.byContradiction fun e=>hne (.inr e)
  rw [hd,List.append_nil] at hl
  refine ⟨rfl,fun e=>hne (.inl ?_),fun c hc => ?_⟩
  ·rw [hl];exact e
  ·rw [←hl] at hc;exact take_all c hc
theorem sg_text (l:List UInt8):(∃c:UInt8,(c.toNat=43∨c.toNat=45)∧l=c::(sg l).2∧(sg l).1=decide (c.toNat=45))∨(sg l=(false,l)∧∀c t,l=c::t→¬(c.toNat=43∨c.toNat=45)):=by
 cases l with
 | nil=>exact .inr ⟨rfl,fun c t h=>by simp at h⟩
 | cons c r =>
  by_cases h:c.toNat=43∨c.toNat=45
  ·exact .inl ⟨c,h,by rw [sg_yes h],by rw [sg_yes h]⟩
  ·exact .inr ⟨sg_no h,fun d t e=>by injection e with e1 e2;subst e1;exact h⟩
def Pc.ok:Pc→List UInt8→Prop
 | .hx a b e,t=>∃z x p:UInt8,z.toNat=48∧(x.toNat=120∨x.toNat=88)∧(p.toNat=112∨p.toNat=80)∧t=z::x::(a++pt b++p::e)∧(∀c∈a,isX c=true)∧(∀c∈ob b,isX c=true)∧a++ob b≠[]∧(sg e).2≠[]∧∀c∈(sg e).2,isD c=true
 | .fr a d,t=>∃s:UInt8,s.toNat=47∧t=a++s::d∧(∀c∈a,isD c=true)∧a≠[]∧d≠[]∧∀c∈d,isD c=true
 | .dc a b none,t=>t=a++pt b∧(∀c∈a,isD c=true)∧(∀c∈ob b,isD c=true)∧a++ob b≠[]
 | .dc a b (some e),t=>∃p:UInt8,(p.toNat=101∨p.toNat=69)∧t=a++pt b++p::e∧(∀c∈a,isD c=true)∧(∀c∈ob b,isD c=true)∧a++ob b≠[]∧(sg e).2≠[]∧∀c∈(sg e).2,isD c=true
theorem cutH_ok {z x:UInt8} {l:List UInt8} {p:Pc} (hz:z.toNat=48) (hx:x.toNat=120∨x.toNat=88) (h:cutH l=.ok p):p.ok (z::x::l)∧∃a b e,p=.hx a b e:=by
 unfold cutH at h
 split at h
 ·cases h
 ·cases h
 ·rename_i a b c r hp
  split at h
  ·rename_i hc
   split at h
   ·cases h
   ·rename_i e he
    injection h with h
    subst h
    obtain ⟨h1,h2,h3,h4,_⟩:=ptd_ok hp
    obtain ⟨rfl,h6,h7⟩:=xpo_ok he
    exact ⟨⟨z,x,c,hz,hx,hc,by rw [h1],h2,h3,h4,h6,h7⟩,a,b,_,rfl⟩
  ·cases h
theorem cutD_ok {l:List UInt8} {p:Pc} (h:cutD l=.ok p):p.ok l∧∀a b e,p ≠ .hx a b e:=by
 unfold cutD at h
 split at h
 ·cases h
 ·rename_i a b hp
  injection h with h
  subst h
  obtain ⟨h1,h2,h3,h4,_⟩:=ptd_ok hp
  exact ⟨⟨by simpa using h1,h2,h3,h4⟩,fun a b e=>by simp⟩
 ·rename_i a b c r hp
  obtain ⟨h1,h2,h3,h4,_⟩:=ptd_ok hp
  split at h
  ·rename_i hc
   split at h
   ·cases h
   ·rename_i hne
    injection h with h
    subst h
    have hl:=List.takeWhile_append_dropWhile (p:=isD) (l:=r)
    have hd:r.dropWhile isD=[]:=Classical.byContradiction fun e=>hne (.inr e)
    rw [hd,List.append_nil] at hl
    obtain ⟨rfl,hc⟩:=hc
    refine ⟨⟨c,hc,by simpa [pt] using h1,h2,by simpa [ob] using h4,fun e=>hne (.inl (by rw [hl];exact e)),fun d hd => ?_⟩,fun a b e=>by simp⟩
    rw [←hl] at hd;exact take_all d hd
  ·split at h
   ·rename_i hc
    split at h
    ·cases h
    ·rename_i e he
     injection h with h
     subst h
     obtain ⟨rfl,h6,h7⟩:=xpo_ok he
     exact ⟨⟨c,hc,h1,h2,h3,h4,h6,h7⟩,fun a b e=>by simp⟩
   ·cases h
theorem cut_ok {l:List UInt8} {n:Bool} {p:Pc} (h:cut l=.ok (n,p)):n=(sg l).1∧p.ok (sg l).2:=by
 unfold cut at h
 cases hh:hexy (sg l).2 with
 | none =>
  rw [hh] at h
  cases hc:cutD (sg l).2 with
  | error k=>rw [hc] at h;cases h
  | ok q =>
   rw [hc] at h
   injection h with h;injection h with h1 h2
   subst h2
   exact ⟨h1.symm,(cutD_ok hc).1⟩
 | some t =>
  rw [hh] at h
  cases hc:cutH t with
  | error k=>simp only [hc] at h;cases h
  | ok q =>
   simp only [hc] at h
   injection h with h;injection h with h1 h2
   subst h2
   refine ⟨h1.symm,?_⟩
   match hl:(sg l).2,hh with
   | c::x::u,hh =>
    have hh':(if c.toNat=48∧(x.toNat=120∨x.toNat=88) then some u else none)=some t:=hh
    by_cases hcx:c.toNat=48∧(x.toNat=120∨x.toNat=88)
    ·rw [if_pos hcx] at hh'
     injection hh' with hh'
     subst hh'
     exact (cutH_ok hcx.1 hcx.2 hc).1
    ·rw [if_neg hcx] at hh';cases hh'
def xvl (e:List UInt8):Int:=if (sg e).1 then -(numB 10 (sg e).2:Int) else numB 10 (sg e).2
def Pc.late:Pc→Option (Nat×Int)
 | .hx _ _ e=>if 9999<numB 10 (sg e).2 then some ((sg e).2.length,51) else none
 | .fr _ d=>if numB 10 d=0 then some (d.length,50) else none
 | .dc _ _ (some e)=>if 9999<numB 10 (sg e).2 then some ((sg e).2.length,51) else none
 | .dc _ _ none=>none
def Pc.ten (b:Option (List UInt8)) (e:Option (List UInt8)):Int:=(match e with | none=>0 | some e=>xvl e) - ((ob b).length:Int)
def Pc.num:Pc→Nat
 | .hx a b _=>numB 16 (a++ob b)
 | .fr a _=>numB 10 a
 | .dc a b e=>numB 10 (a++ob b)*10^(Pc.ten b e).toNat
def Pc.den:Pc→Nat
 | .hx _ _ _=>1
 | .fr _ d=>numB 10 d
 | .dc _ b e=>10^(-Pc.ten b e).toNat
def Pc.two:Pc→Int
 | .hx _ b e=>xvl e - 4*((ob b).length:Int)
 | _=>0
def scn (l:List UInt8):Except (Nat×Int) (Bool×Nat×Nat×Int):=
 if 4096<l.length then .error (4096,2)
 else match cut l with
  | .error k=>.error (l.length - k,50)
  | .ok (n,p)=>match p.late with
   | some (k,c)=>.error (l.length - k,c)
   | none=>.ok (n,p.num,p.den,p.two)
end Verge
