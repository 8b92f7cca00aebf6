/- Layer 12: literals, plain: the pieces of a literal, as the program reads them; the document's table of states. -/
import Derived.Test.YtigmpifjcijdbaaGreatDoorG04
import Derived.Test.YtigmpifjcijdbaaGreatDoorG19
section
namespace Verge.Lit
def lo (c:UInt8):Nat:=if 65≤c.toNat∧c.toNat≤90 then c.toNat+32 else c.toNat
def blk (c:UInt8):Bool:=decide (c.toNat=32∨c.toNat=9∨c.toNat=10∨c.toNat=13)
def ndl (c:UInt8):Bool:=!(blk c)&&decide (c.toNat≠44∧c.toNat≠93)
def pk:List UInt8→Nat
 | []=>0
 | c::_=>lo c
def isL (k:Nat):List UInt8→Bool×List UInt8
 | []=>(false,[])
 | c::s=>if lo c=k then (true,s) else (false,c::s)
def wantL (k:Nat) (r:List UInt8):Except Nat (List UInt8):=if (isL k r).1=true then .ok (isL k r).2 else .error r.length
def spl:List Nat→List UInt8→Except Nat (List UInt8)
 | [],r=>.ok r
 | _::_,[]=>.error 0
 | x::w,c::s=>if lo c=x then spl w s else .error (s.length+1)
def infL (r:List UInt8):Except Nat (List UInt8):=(spl [105,110,102] r).bind fun s=>if pk s=105 then spl [105,110,105,116,121] s else .ok s
def eeL (r:List UInt8):Except Nat (Bool×List UInt8):=(spl [101] r).bind fun s =>
 if pk s=109 then (spl [109,112,116,121] s).bind fun t=>.ok (true,t) else (spl [110,116,105,114,101] s).bind fun t=>.ok (false,t)
def decL (r:List UInt8):Except Nat (Nat×List UInt8):=
 if pk r=99 then (spl [99,111,109] r).bind fun t=>.ok (1,t)
 else if pk r=100 then (spl [100] r).bind fun s=>if pk s=97 then (spl [97,99] s).bind fun t=>.ok (2,t) else (spl [101,102] s).bind fun t=>.ok (3,t)
 else (spl [116,114,118] r).bind fun t=>.ok (4,t)
def numL (r:List UInt8):Except Nat (List UInt8×List UInt8):=
 match cut (r.takeWhile ndl) with
 | .error k=>.error (k+(r.dropWhile ndl).length)
 | .ok _=>.ok (r.takeWhile ndl,r.dropWhile ndl)
def uppB (r:List UInt8):Except Nat (Option (List UInt8×Nat)×List UInt8):=
 if pk r=93 then .ok (none,r)
 else if pk r=105∨pk r=43∧pk (r.drop 1)=105 then (infL (isL 43 r).2).bind fun r3=>.ok (none,r3.dropWhile blk)
 else (numL r).bind fun x=>.ok (some (x.1,r.length),x.2.dropWhile blk)
def uppL (r:List UInt8):Except Nat (Option (List UInt8×Nat)×List UInt8):=(wantL 44 r).bind fun r1=>uppB (r1.dropWhile blk)
inductive Br where
 | emp | ent | nai
 | one (s:List UInt8) (k:Nat)
 | two (a b:Option (List UInt8×Nat))
def cloL (b:Br) (r:List UInt8):Except Nat (Br×List UInt8):=(wantL 93 r).bind fun s=>.ok (b,s)
def braL1 (dec:Bool) (r:List UInt8):Except Nat (Br×List UInt8):=
 if pk r=93 then cloL .emp r
 else if pk r=101 then (eeL r).bind fun x=>cloL (if x.1 then .emp else .ent) (x.2.dropWhile blk)
 else if pk r=110∧dec=true then (spl [110,97,105] r).bind fun s=>cloL .nai (s.dropWhile blk)
 else if pk r=44 then (uppL r).bind fun x=>cloL (.two none x.1) x.2
 else if pk r=45∧pk (r.drop 1)=105 then (infL (r.drop 1)).bind fun s =>
  if pk (s.dropWhile blk)=44 then (uppL (s.dropWhile blk)).bind fun x=>cloL (.two none x.1) x.2 else .error (s.dropWhile blk).length
 else (numL r).bind fun x =>
  if pk (x.2.dropWhile blk)=44 then (uppL (x.2.dropWhile blk)).bind fun y=>cloL (.two (some (x.1,r.length)) y.1) y.2
  else cloL (.one x.1 r.length) (x.2.dropWhile blk)
def braL (dec:Bool) (r:List UInt8):Except Nat (Br×List UInt8):=braL1 dec (r.dropWhile blk)
structure Un where
 neg:Bool
 a:List UInt8
 b:List UInt8
 rad:List UInt8
 endless:Bool
 way:Nat
 exp:Option (Bool×List UInt8×Nat)
def expL (r:List UInt8):Except Nat ((Bool×List UInt8×Nat)×List UInt8):=
 if (sg r).2.takeWhile isD=[] then .error (sg r).2.length else .ok (((sg r).1,(sg r).2.takeWhile isD,(sg r).2.length),(sg r).2.dropWhile isD)
def optE (r:List UInt8):Except Nat (Option (Bool×List UInt8×Nat)×List UInt8):=
 if pk r=101 then (expL (r.drop 1)).bind fun x=>.ok (some x.1,x.2) else .ok (none,r)
def wayL (r:List UInt8):Nat×List UInt8:=if pk r=117 then (1,r.drop 1) else if pk r=100 then (2,r.drop 1) else (0,r)
def radL (r:List UInt8):(List UInt8×Bool)×List UInt8:=
 if r.takeWhile isD=[]∧pk r=63 then (([],true),r.drop 1) else ((r.takeWhile isD,false),r.dropWhile isD)
def ptL (r:List UInt8):List UInt8×List UInt8:=if pk r=46 then ((r.drop 1).takeWhile isD,(r.drop 1).dropWhile isD) else ([],r)
def qryL (neg:Bool) (a b r:List UInt8):Except Nat (Un×List UInt8):=(wantL 63 r).bind fun r4 =>
 (optE (wayL (radL r4).2).2).bind fun x=>.ok (⟨neg,a,b,(radL r4).1.1,(radL r4).1.2,(wayL (radL r4).2).1,x.1⟩,x.2)
def uncL (r:List UInt8):Except Nat (Un×List UInt8):=
 if (sg r).2.takeWhile isD++(ptL ((sg r).2.dropWhile isD)).1=[] then .error (ptL ((sg r).2.dropWhile isD)).2.length
 else qryL (sg r).1 ((sg r).2.takeWhile isD) (ptL ((sg r).2.dropWhile isD)).1 (ptL ((sg r).2.dropWhile isD)).2
inductive Lf where
 | br (b:Br)
 | un (u:Un)
def firstL (dec:Bool) (r:List UInt8):Except Nat (Lf×List UInt8):=
 if (isL 91 r).1=true then (braL dec (isL 91 r).2).bind fun x=>.ok (.br x.1,x.2) else (uncL r).bind fun x=>.ok (.un x.1,x.2)
def Lf.nai:Lf→Bool
 | .br .nai=>true
 | _=>false
def undL (dec:Bool) (r:List UInt8):Except Nat (Nat×List UInt8):=if dec=true∧pk r=95 then decL (r.drop 1) else .ok (0,r)
def endL (r:List UInt8):Except Nat Unit:=if r=[] then .ok () else .error r.length
structure DS where
 pl:Nat
 num:Nat
 word:List UInt8
def smc (c:UInt8):UInt8:=if 65≤c.toNat∧c.toNat≤90 then c+32 else c
def dd:DS:=⟨24,0,[]⟩
def wEmp:List UInt8:=[101,109,112,116,121]
def wEnt:List UInt8:=[101,110,116,105,114,101]
def wNai:List UInt8:=[110,97,105]
def wInf:List UInt8:=[105,110,102]
def wIny:List UInt8:=[105,110,102,105,110,105,116,121]
def wCom:List UInt8:=[99,111,109]
def wDac:List UInt8:=[100,97,99]
def wDef:List UInt8:=[100,101,102]
def wTrv:List UInt8:=[116,114,118]
def wds (dec:Bool):List (List UInt8):=if dec=true then [wEmp,wEnt,wNai] else [wEmp,wEnt]
def wDecs:List (List UInt8):=[wCom,wDac,wDef,wTrv]
def spe (s:DS) (c:UInt8) (ws:List (List UInt8)):DS:=if (ws.any fun w=>(s.word++[smc c]).isPrefixOf w)=true then ⟨s.pl,0,s.word++[smc c]⟩ else dd
def clsd (s:DS):DS:=if s.word=wNai then ⟨15,0,wNai⟩ else ⟨13,0,[]⟩
def fst12 (c:UInt8) (up:Bool):DS:=
 if lo c=105∧up=true then ⟨11,0,[105]⟩ else if nx 0 c=18 then dd else if up=true then ⟨9,nx 0 c,[c]⟩ else ⟨2,nx 0 c,[c]⟩
def tail12 (s:DS) (c:UInt8) (dec:Bool):DS:=
 if s.pl=17∧isD c=true∨s.pl=18∧isD c=true then ⟨18,0,[]⟩
 else if s.pl=17∧c.toNat=63 then ⟨19,0,[]⟩
 else if s.pl≤19∧(lo c=117∨lo c=100) then ⟨20,0,[]⟩
 else if s.pl≤20∧lo c=101 then ⟨21,0,[]⟩
 else if s.pl=21∧(c.toNat=43∨c.toNat=45) then ⟨22,0,[]⟩
 else if 21≤s.pl∧isD c=true then ⟨23,0,[]⟩
 else if s.pl≠21∧s.pl≠22∧dec=true∧c.toNat=95 then ⟨14,0,[]⟩
 else dd
def lowE (s:DS) (c:UInt8):DS:=if blk c=true then s else if c.toNat=93 then ⟨13,0,[]⟩ else if c.toNat=44 then ⟨8,0,[]⟩ else dd
def highE (s:DS) (c:UInt8):DS:=if blk c=true then s else if c.toNat=93 then ⟨13,0,[]⟩ else dd
def lowP (dec:Bool) (s:DS) (c:UInt8):DS:=
 if s.pl=4 then (if s.word∈wds dec∧c.toNat=93 then clsd s else if s.word∈wds dec∧blk c=true then ⟨5,0,s.word⟩ else spe s c (wds dec))
 else if s.pl=5 then (if blk c=true then s else if c.toNat=93 then clsd s else dd)
 else if s.pl=2 then (if s.word=[45]∧lo c=105 then ⟨6,0,[105]⟩ else if nx s.num c≠18 then ⟨2,nx s.num c,[]⟩ else if endS s.num=true then lowE ⟨3,0,[]⟩ c else dd)
 else if s.pl=3 then lowE s c
 else if (s.pl=7∨s.word=wInf∨s.word=wIny)∧blk c=true then ⟨7,0,[]⟩
 else if (s.pl=7∨s.word=wInf∨s.word=wIny)∧c.toNat=44 then ⟨8,0,[]⟩
 else if s.pl=6 then spe s c [wIny] else dd
def uppP (s:DS) (c:UInt8):DS:=
 if s.pl=8 then (if blk c=true then s else if c.toNat=93 then ⟨13,0,[]⟩ else fst12 c true)
 else if s.pl=9 then (if s.word=[43]∧lo c=105 then ⟨11,0,[105]⟩ else if nx s.num c≠18 then ⟨9,nx s.num c,[]⟩ else if endS s.num=true then highE ⟨10,0,[]⟩ c else dd)
 else if s.pl=10 then highE s c
 else if (s.pl=12∨s.word=wInf∨s.word=wIny)∧blk c=true then ⟨12,0,[]⟩
 else if (s.pl=12∨s.word=wInf∨s.word=wIny)∧c.toNat=93 then ⟨13,0,[]⟩
 else if s.pl=11 then spe s c [wIny] else dd
def nx12 (dec:Bool) (s:DS) (c:UInt8):DS:=
 if 2≤s.pl∧s.pl≤7 then lowP dec s c
 else if 8≤s.pl∧s.pl≤12 then uppP s c
 else if s.pl=0 then (if c.toNat=91 then ⟨1,0,[]⟩ else if nx 0 c≠18 then ⟨16,nx 0 c,[]⟩ else dd)
 else if s.pl=1 then (if blk c=true then s else if c.toNat=93 then ⟨13,0,[]⟩ else if c.toNat=44 then ⟨8,0,[]⟩
  else if lo c=101∨lo c=110∧dec=true then ⟨4,0,[smc c]⟩ else fst12 c false)
 else if s.pl=13 then (if dec=true∧c.toNat=95 then ⟨14,0,[]⟩ else dd)
 else if s.pl=14 then (if (spe s c wDecs).pl=14∧(spe s c wDecs).word.length=3 then ⟨15,0,(spe s c wDecs).word⟩ else spe s c wDecs)
 else if s.pl=16 then (if c.toNat=63∧(s.num=2∨s.num=3∨s.num=5) then ⟨17,0,[]⟩ else if (isD c=true∨c.toNat=46)∧nx s.num c≠18 then ⟨16,nx s.num c,[]⟩ else dd)
 else if 17≤s.pl∧s.pl≤23 then tail12 s c dec
 else dd
def cmpl (s:DS):Bool:=decide (s.pl=13∨s.pl=15∨17≤s.pl∧s.pl≤20∨s.pl=23)
def F (dec:Bool):DS→List UInt8→Except Nat Unit
 | s,[]=>if cmpl s=true then .ok () else .error 0
 | s,c::r=>if (nx12 dec s c).pl=24 then .error (r.length+1) else F dec (nx12 dec s c) r
end Verge.Lit
end

section
namespace Go.Proofs.YtigmpifjcijdbaaGreatDoor
set_option linter.unusedVariables false
set_option linter.unusedSimpArgs false
open Go.RowKit Verge Verge.Lit
theorem ret_u8 {a:Int} {b:Nat} (h:a=b):Ending.returned (.int .u8 a)=.returned (.int .u8 (b:Int)):=by rw [h]
theorem lsmall_any (c:UInt8) (w:World):Calls Tryz.prog 81 #[.int .u8 (c.toNat:Int)] w fun e w'=>e=.returned (.int .u8 (lo c:Int))∧w=w':=by
 have hc:=c.toNat_lt
 have hcl:((65≤c.toNat∧c.toNat≤90)∧lo c=c.toNat+32)∨(¬(65≤c.toNat∧c.toNat≤90)∧lo c=c.toNat):=by
  unfold lo
  by_cases h:65≤c.toNat∧c.toNat≤90
  ·rw [if_pos h];exact .inl ⟨h,rfl⟩
  ·rw [if_neg h];exact .inr ⟨h,rfl⟩
 generalize lo c=v at hcl ⊢
 generalize c.toNat=n at hcl hc ⊢
 have HC:=Lib.hid hcl
 clear hcl
 go_enter Tryz.func81,Tryz.ntmps81
 go_wp2
 all_goals
  go_ret
  refine ⟨ret_u8 ?_,rfl⟩
  have h':=HC.out
  first
  | omega
  | (go_num;omega)
  | (simp [IntKind.wrap,IntKind.bits] <;> omega)
abbrev lrO (S:ByteArray) (q:Nat) (d:Bool) (x y:Int):Obj:=.cells #[.string S,.int .i64 (q:Int),.bool d,.int .i64 x,.int .i64 y] 82
def LR (w:World) (b:Nat) (l r:List UInt8) (d:Bool) (x:Int×Int):Prop:=r.length≤l.length∧l.drop (l.length - r.length)=r∧w.heap[b]?=some (lrO (bs l) (l.length - r.length) d x.1 x.2)
theorem LR.lt {w:World} {b:Nat} {l r:List UInt8} {d:Bool} {x:Int×Int} (h:LR w b l r d x):b<w.heap.size:=(Array.getElem?_eq_some_iff.1 h.2.2).1
theorem LR.cells {w:World} {b q:Nat} {l r:List UInt8} {d:Bool} {x:Int×Int} {S:ByteArray} (h:LR w b l r d x) (hS:bs l=S) (hq:l.length - r.length=q) :
  w.cell? ⟨b,0,none⟩=some (.string S)∧w.cell? ⟨b,1,none⟩=some (.int .i64 (q:Int))∧w.frozen? ⟨b,0,none⟩=false∧w.frozen? ⟨b,1,none⟩=false:=by
 subst hS;subst hq
 have h:=h.2.2
 refine ⟨?_,?_,?_,?_⟩ <;> simp [World.cell?,World.frozen?,h]
theorem LR.more {w:World} {b:Nat} {l r:List UInt8} {d:Bool} {x:Int×Int} (h:LR w b l r d x) :
  w.cell? ⟨b,2,none⟩=some (.bool d)∧w.cell? ⟨b,3,none⟩=some (.int .i64 x.1)∧w.cell? ⟨b,4,none⟩=some (.int .i64 x.2)∧w.frozen? ⟨b,2,none⟩=false∧w.frozen? ⟨b,3,none⟩=false∧w.frozen? ⟨b,4,none⟩=false:=by
 have h:=h.2.2
 refine ⟨?_,?_,?_,?_,?_,?_⟩ <;> simp [World.cell?,World.frozen?,h]
theorem LR.later {w w':World} {b:Nat} {l r:List UInt8} {d:Bool} {x:Int×Int} (h:LR w b l r d x) (hb:Below w.heap.size w w'):LR w' b l r d x:=⟨h.1,h.2.1,(hb.block b h.lt).trans h.2.2⟩
theorem LR.drewN {w:World} {b:Nat} {l r:List UInt8} {d:Bool} {x:Int×Int} (h:LR w b l r d x) (n:Nat):LR (w.drewN n) b l r d x:=h
theorem LR.go {w:World} {b:Nat} {l r:List UInt8} {d:Bool} {x:Int×Int} (h:LR w b l r d x) (s:List UInt8) (h1:s.length≤l.length) (h2:l.drop (l.length - s.length)=s) {k:Int} (hk:k=((l.length - s.length:Nat):Int)) :
  LR (w.setCell ⟨b,1,none⟩ (.int .i64 k)) b l s d x:=by
 refine ⟨h1,h2,?_⟩
 have h:=h.2.2
 subst hk
 simp [World.setCell,Array.getElem?_modify,h]
theorem LR.drop {w:World} {b:Nat} {l r:List UInt8} {d:Bool} {x:Int×Int} (h:LR w b l r d x) (i:Nat) (hi:i≤r.length) {k:Int} (hk:k=((l.length - r.length+i:Nat):Int)) :
  LR (w.setCell ⟨b,1,none⟩ (.int .i64 k)) b l (r.drop i) d x:=by
 obtain ⟨h1,h2⟩:=rest_drop h.1 h.2.1 i hi
 refine h.go _ h1 h2 ?_
 rw [hk,List.length_drop]
 have:=h.1
 omega
theorem LR.late {w:World} {b:Nat} {l r:List UInt8} {d:Bool} {x:Int×Int} (h:LR w b l r d x) (p e:Int) :
  LR ((w.setCell ⟨b,3,none⟩ (.int .i64 p)).setCell ⟨b,4,none⟩ (.int .i64 e)) b l r d (p,e):=by
 refine ⟨h.1,h.2.1,?_⟩
 have h:=h.2.2
 simp [World.setCell,Array.getElem?_modify,h]
theorem LR.far {w:World} {b:Nat} {l r:List UInt8} {d:Bool} {x:Int×Int} (h:LR w b l r d x) {P:Nat} (hP:b≠P) (i:Nat) (v:Value):LR (w.setCell ⟨P,i,none⟩ v) b l r d x:=⟨h.1,h.2.1,(set_other w P i b v hP).trans h.2.2⟩
abbrev lflt (p c:Int):List PanicEntry:=[{ v:=.iface 79 (.agg #[.int .i64 p,.int .i64 c]),recovered:=false }]
abbrev LFails (l:List UInt8) (k:Nat) (e:Ending):Prop:=e=.panicked (lflt ((l.length - k:Nat):Int) 120)
theorem lfail_any (w:World) (b:Nat) (l r:List UInt8) (d:Bool) (x:Int×Int) (h:LR w b l r d x):Calls Tryz.prog 59 #[.pointer (some ⟨b,0,none⟩)] w fun e w'=>LFails l r.length e∧w=w':=by
 obtain ⟨c0,c1,f0,f1⟩:=h.cells rfl rfl
 clear h
 go_enter Tryz.func59,Tryz.ntmps59
 go_wp2
 exact ⟨rfl,⟨rfl,rfl⟩⟩
def kp (x:Int×Int) (p e:Int):Int×Int:=if x.2=0 then (p,e) else x
theorem keep_any (w:World) (b:Nat) (l r:List UInt8) (d:Bool) (x:Int×Int) (p c:Int) (h:LR w b l r d x):Calls Tryz.prog 60 #[.pointer (some ⟨b,0,none⟩),.int .i64 p,.int .i64 c] w fun e w' =>
  e=.returned (.tuple #[])∧LR w' b l r d (kp x p c)∧w.grownBy w' (some b):=by
 obtain ⟨c2,c3,c4,f2,f3,f4⟩:=h.more
 have HR:=Lib.hid h
 clear h
 unfold kp
 by_cases h0:x.2=0
 ·rw [if_pos h0]
  rw [h0] at c4
  have H0:=Lib.hid h0
  clear h0
  go_enter Tryz.func60,Tryz.ntmps60
  go_wp2
  go_end0
  exact ⟨rfl,HR.out.late p c,grownBy_set (grownBy_set (grownBy_refl _ _) _ _) _ _⟩
 ·rw [if_neg h0]
  generalize x.2=y at *
  go_enter Tryz.func60,Tryz.ntmps60
  go_wp2
  go_end0
  exact ⟨rfl,HR.out,grownBy_refl _ _⟩
theorem drop_pk {r:List UInt8} {k:Nat} {c:UInt8} (h:r[k]?=some c):pk (r.drop k)=lo c:=by
 rw [List.getElem?_eq_some_iff] at h
 obtain ⟨hk,rfl⟩:=h
 rw [List.drop_eq_getElem_cons hk];rfl
theorem drop_pk0 {r:List UInt8} {k:Nat} (h:r.length≤k):pk (r.drop k)=0:=by
 rw [List.drop_eq_nil_of_le h];rfl
set_option maxHeartbeats 1000000 in
theorem peek_any (w:World) (b:Nat) (l r:List UInt8) (d:Bool) (x:Int×Int) (k:Nat) (h:LR w b l r d x) (hl:l.length≤100000) (hk:k≤10):Calls Tryz.prog 83 #[.pointer (some ⟨b,0,none⟩),.int .i64 (k:Int)] w fun e w' =>
  e=.returned (.int .u8 (pk (r.drop k):Int))∧∃n,w'=w.drewN n:=by
 have h1:=h.1
 have h2:=h.2.1
 obtain ⟨S,hS⟩:∃S,bs l=S:=⟨_,rfl⟩
 obtain ⟨q,hq⟩:∃q,l.length - r.length=q:=⟨_,rfl⟩
 obtain ⟨c0,c1,f0,f1⟩:=h.cells hS hq
 have hs:S.size=l.length:=by rw [←hS];exact bs_size _
 have HSA:=Lib.hid (fun i c h=>(hS▸bs_at l i c h:∀hi:i<S.size,S[i]'hi=c))
 have HV:=Lib.hid (fun c W=>lsmall_any c W)
 obtain ⟨j,hj⟩:∃j,q+k=j:=⟨_,rfl⟩
 have hw1:IntKind.i64.wrap ((q:Int)+(k:Int))=(j:Int):=by rw [IntWalk.i64_in _ (by omega)];omega
 obtain ⟨L,hL⟩:∃L,l.length=L:=⟨_,rfl⟩
 rw [hL] at hs
 clear h hS
 by_cases hlt:k<r.length
 ·obtain ⟨c,hc⟩:∃c,r[k]?=some c:=⟨_,List.getElem?_eq_getElem hlt⟩
  have hcl:=rest_at h1 h2 c hc
  rw [hq,hj] at hcl
  have hcS:=HSA.out j c hcl
  rw [drop_pk hc]
  have hlS:j<L:=by omega
  have hlI:(j:Int)<(L:Int):=by omega
  have hld:decide ((j:Int)<(L:Int))=true:=by simpa using hlI
  have HX:=Lib.hid (And.intro hc (And.intro hcl (And.intro hL (And.intro hq hj))))
  clear hc hcl h1 h2 hq hlt hl hL hj
  go_enter Tryz.func83,Tryz.ntmps83
  go_upto_region 1 with fail
  go_quiet (fail)
  go_wp2
  go_upto_region 2 with fail
  go_quiet ((go_at_call 81;with_reducible (first | exact quiet_left (HV.out _ _) | exact quiet_add_left (HV.out _ _))))
  go_wp2
  go_ret
  exact ⟨rfl,_,World.drewN_drewN _ _ _⟩
 ·rw [drop_pk0 (by omega)]
  have hlI:¬(j:Int)<(L:Int):=by omega
  have hld:decide ((j:Int)<(L:Int))=false:=by simpa using hlI
  clear h1 h2 hq hlt hl hL hj
  go_enter Tryz.func83,Tryz.ntmps83
  go_upto_region 1 with fail
  go_quiet (fail)
  go_wp2
  go_ret
  exact ⟨rfl,_,rfl⟩
set_option maxHeartbeats 1000000 in
theorem lis_any (w:World) (b:Nat) (l r:List UInt8) (d:Bool) (x:Int×Int) (k:Nat) (h:LR w b l r d x) (hl:l.length≤100000) (hk:k≤255):Calls Tryz.prog 55 #[.pointer (some ⟨b,0,none⟩),.int .u8 (k:Int)] w fun e w' =>
  e=.returned (.bool (isL k r).1)∧LR w' b l (isL k r).2 d x∧w.grownBy w' (some b):=by
 have h1:=h.1
 have h2:=h.2.1
 obtain ⟨S,hS⟩:∃S,bs l=S:=⟨_,rfl⟩
 obtain ⟨q,hq⟩:∃q,l.length - r.length=q:=⟨_,rfl⟩
 obtain ⟨c0,c1,f0,f1⟩:=h.cells hS hq
 have hs:S.size=l.length:=by rw [←hS];exact bs_size _
 have HSA:=Lib.hid (fun i c h=>(hS▸bs_at l i c h:∀hi:i<S.size,S[i]'hi=c))
 have HV:=Lib.hid (fun c W=>lsmall_any c W)
 have HR:=Lib.hid h
 clear h hS
 cases r with
 | nil =>
  obtain ⟨L,hL⟩:∃L,l.length=L:=⟨_,rfl⟩
  rw [hL] at hs
  have hlI:¬(q:Int)<(L:Int):=by simp at hq;omega
  have hld:decide ((q:Int)<(L:Int))=false:=by simpa using hlI
  clear h1 h2 hq hl hL
  go_enter Tryz.func55,Tryz.ntmps55
  go_upto_region 1 with fail
  go_quiet (fail)
  go_wp2
  go_ret
  exact ⟨rfl,HR.out.drewN _,grownBy_drewN (grownBy_refl _ _) _⟩
 | cons c s =>
  have hcl:=rest_at h1 h2 (i:=0) c rfl
  rw [hq,Nat.add_zero] at hcl
  have hcS:=HSA.out q c hcl
  have hsl:s.length+1≤l.length:=h1
  obtain ⟨L,hL⟩:∃L,l.length=L:=⟨_,rfl⟩
  rw [hL] at hs
  have hlS:q<L:=by rw [List.length_cons] at hq;omega
  have hlI:(q:Int)<(L:Int):=by omega
  have hld:decide ((q:Int)<(L:Int))=true:=by simpa using hlI
  have hql:q≤100000:=by omega
  have HQ:=Lib.hid hq
  have HC:=Lib.hid hcl
  clear hcl h1 h2 hq hl hsl hL
  by_cases he:lo c=k
  ·have e:isL k (c::s)=(true,s):=if_pos he
   rw [e]
   have heI:(lo c:Int)=(k:Int):=by omega
   have heb:((lo c:Int)==(k:Int))=true:=by simpa using heI
   clear e he
   go_enter Tryz.func55,Tryz.ntmps55
   go_upto_region 1 with fail
   go_quiet ((go_at_call 81;with_reducible exact quiet_left (HV.out _ _)))
   go_wp2
   go_ret
   refine ⟨rfl,?_,?_⟩
   ·exact LR.drop (r:=c::s) (HR.out.drewN _) 1 (by simp) (by rw [HQ.out];go_num)
   ·exact grownBy_set (grownBy_drewN (grownBy_refl w _) _) _ _
  ·have e:isL k (c::s)=(false,c::s):=if_neg he
   rw [e]
   have heI:¬(lo c:Int)=(k:Int):=by omega
   have heb:((lo c:Int)==(k:Int))=false:=by simpa using heI
   clear e he
   go_enter Tryz.func55,Tryz.ntmps55
   go_upto_region 1 with fail
   go_quiet ((go_at_call 81;with_reducible exact quiet_left (HV.out _ _)))
   go_wp2
   go_ret
   exact ⟨rfl,HR.out.drewN _,grownBy_drewN (grownBy_refl _ _) _⟩
def LAns {α:Type} (w:World) (b:Nat) (l:List UInt8) (y:Except Nat α) (good:α→Ending→World→Prop) (e:Ending) (w':World):Prop:=
 match y with
 | .error k=>LFails l k e∧w.grownBy w' (some b)
 | .ok a=>good a e w'∧w.grownBy w' (some b)
theorem want_any (w:World) (b:Nat) (l r:List UInt8) (d:Bool) (x:Int×Int) (k:Nat) (h:LR w b l r d x) (hl:l.length≤100000) (hk:k≤255):Calls Tryz.prog 84 #[.pointer (some ⟨b,0,none⟩),.int .u8 (k:Int)] w
  (LAns w b l (wantL k r) fun s e w'=>e=.returned (.tuple #[])∧LR w' b l s d x):=by
 have HI:=Lib.hid (lis_any w b l r d x k h hl hk)
 have HF:=Lib.hid (fun W s h=>lfail_any W b l s d x h)
 clear h
 unfold wantL
 by_cases hi:(isL k r).1=true
 ·rw [if_pos hi]
  rw [hi] at HI
  generalize isL k r=y at *
  go_enter Tryz.func84,Tryz.ntmps84
  go_wp2_with (first | (go_at_call 55;refine (HI.out).mono ?_;rintro e w1 ⟨rfl,h1⟩;have H1:=Lib.hid h1;clear h1))
  go_end0
  exact ⟨⟨rfl,H1.out.1⟩,H1.out.2⟩
 ·rw [if_neg hi]
  have hi':isL k r=(false,r):=by
   cases r with
   | nil=>rfl
   | cons c s =>
    by_cases he:lo c=k
    ·exact absurd (congrArg Prod.fst (show isL k (c::s)=(true,s) from if_pos he)) hi
    ·exact if_neg he
  rw [hi'] at HI
  clear hi hi'
  go_enter Tryz.func84,Tryz.ntmps84
  go_wp2_with (first
   | (go_at_call 55;refine (HI.out).mono ?_;rintro e w1 ⟨rfl,h1⟩;have H1:=Lib.hid h1;clear h1)
   | (go_at_call 59;refine (HF.out _ _ H1.out.1).mono ?_;rintro e w2 ⟨rfl,rfl⟩))
  exact ⟨rfl,rfl,H1.out.2⟩
end Go.Proofs.YtigmpifjcijdbaaGreatDoor
end
