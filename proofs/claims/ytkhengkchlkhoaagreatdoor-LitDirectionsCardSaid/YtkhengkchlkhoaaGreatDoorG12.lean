/- Worlds that grew by rows: what NatD and NatFS share. -/
import Derived.Test.YtkhengkchlkhoaaGreatDoorG11
import Derived.Test.YtkhengkchlkhoaaGreatDoorG01
section
namespace Go.Proofs.YtkhengkchlkhoaaGreatDoor
set_option linter.unusedVariables false
set_option linter.unusedSimpArgs false
open Go.RowKit Verge
theorem grownBy_refl (w:World) (row:Option Nat):w.grownBy w row:=⟨rfl,rfl,rfl,Nat.le_refl _,fun _ _ _=>rfl⟩
theorem grownBy_trans {a b c:World} {row:Option Nat} (h:a.grownBy b row) (k:b.grownBy c row):a.grownBy c row:=
 ⟨k.os.trans h.os,k.tape.trans h.tape,k.output.trans h.output,Nat.le_trans h.size k.size,fun i hi hne=>(k.block i (Nat.lt_of_lt_of_le hi h.size) hne).trans (h.block i hi hne)⟩
theorem grownBy_set {a w:World} {g:Nat} (h:a.grownBy w (some g)) (i:Nat) (u:Value):a.grownBy (w.setCell ⟨g,i,none⟩ u) (some g):=
 grownBy_trans h ⟨rfl,rfl,rfl,by simp [World.setCell],fun k hk hne=>Below.heap_setCell w _ u k (by rintro rfl;exact hne rfl)⟩
theorem grownBy_drewN {a w:World} {row:Option Nat} (h:a.grownBy w row) (n:Nat):a.grownBy (w.drewN n) row:=⟨h.os,h.tape,h.output,h.size,h.block⟩
theorem grownBy_alloc {a w:World} {row:Option Nat} (h:a.grownBy w row) (o:Obj):a.grownBy (w.alloc o) row:=grownBy_trans h (World.grownBy_alloc w o row)
theorem grownBy_below {a w:World} {row:Option Nat} (h:Below a.heap.size a w):a.grownBy w row:=⟨h.os,h.tape,h.output,h.size,fun i hi _=>h.block i hi⟩
end Go.Proofs.YtkhengkchlkhoaaGreatDoor
namespace Go.Proofs.YtkhengkchlkhoaaGreatDoor
set_option linter.unusedVariables false
set_option linter.unusedSimpArgs false
open Go.RowKit Verge
set_option maxHeartbeats 1000000 in
theorem shift_any (A:Option Addr) (n c:Nat) (X:List Nat) (s:Nat) (w:World) (h:Rd w A X) (hn:X.length=n) (hm:n≤70368744177663) (hs:s<32) :
  Calls Tryz.prog 112 #[.slice A n c,.int .i64 (s:Int)] w fun e w'=>e=.returned (.slice (some ⟨w.heap.size,0,none⟩) (n+1) (n+1)) ∧
   ∃L,Blk w' w.heap.size L∧L.length=n+1∧val L=val X*2^s∧Below w.heap.size w w':=by
 have hmk:∀W:World,(Instr.makeSlice 23 (.int .i64 ((n:Int)+1)) (.int .i64 ((n:Int)+1))).run Tryz.prog W=.ok (.slice (some ⟨W.heap.size,0,none⟩) (n+1) (n+1)) (W.alloc (.cells (u32s (List.replicate (n+1) 0)).toArray 50)):=
  fun W=>run_make_u32 (n+1) (by omega) W
 have hR1:=Lib.hid (fun W (hb:Below w.heap.size w W)=>h.below hb)
 have HN:=Lib.hid hn
 clear h hn
 have h2s:2^s≤2147483648:=by
  have:=Nat.pow_le_pow_right (n:=2) (by omega) (show s≤31 by omega)
  simpa using this
 go_enter Tryz.func112,Tryz.ntmps112
 go_wp2
 go_loopw [6,7,8,15] (fun cv _ _ iv wr=>∃(i cc:Nat) (L:List Nat),i≤n∧iv=.int .i64 i∧cv=.int .u64 cc∧cc<2147483648∧Blk wr w.heap.size L ∧
  Hid (cc<2^s∧L.length=n+1∧val (L.take i)+cc*4294967296^i=val (X.take i)*2^s)∧Below w.heap.size w wr) (fun _ _ _ iv _=>n - (intOf iv).toNat)
 case atStart=>exact ⟨0,0,List.replicate (n+1) 0,by omega,rfl,rfl,by omega,Blk.made w (n+1),⟨Nat.pow_pos (by omega),by simp,by simp⟩,(Below.refl _ w).alloc (Nat.le_refl _) _⟩
 case round =>
  obtain ⟨i,cc,L,hi,rfl,rfl,hcc,hL,hI,hb⟩:=hrel
  have hlen:=hI.out.2.1
  have hcl:=hL.cell (i:=i) (by omega)
  have hfz:=hL.frozen i
  clear hlen
  by_cases hin:i<n
  ·obtain ⟨b2,o2,rfl,hcx⟩:=(hR1.out _ hb).cell (k:=i) (by rw [HN.out];exact hin)
   have hx32:=(hR1.out _ hb).1.getD i
   obtain ⟨x,hgx⟩:∃x,X.getD i 0=x:=⟨_,rfl⟩
   rw [hgx] at hcx hx32
   have HGX:=Lib.hid hgx;clear hgx
   obtain ⟨q,hq⟩:∃q,x*2^s=q:=⟨_,rfl⟩
   have hqb:q≤4294967295*2147483648:=by rw [←hq];exact Nat.mul_le_mul (by omega) h2s
   have hw1:IntKind.u64.wrap ((x:Int)*2^s)=(q:Int):=by
    rw [show ((x:Int)*2^s)=((x*2^s:Nat):Int) by simp,hq,IntKind.wrap_u64];omega
   have hw2:bits .or .u64 (cc:Int) (q:Int)=((cc:Int)+(q:Int)):=by
    rw [or_u64 cc q s hI.out.1 (by rw [←hq];exact Nat.mul_mod_left _ _) (by omega)];simp
   have HQ:=Lib.hid hq;clear hq
   go_wp2
   clear hw1 hw2
   go_roundw
   case rel =>
    obtain ⟨h1,h2,h3⟩:=hI.out
    have hq2:=HQ.out
    have hq3:q+2^s≤4294967296*2^s:=by
     rw [←hq2,←Nat.succ_mul];exact Nat.mul_le_mul_right _ (by omega)
    exact ⟨i+1,(cc+q) / 4294967296,L.set i ((cc+q)%4294967296),by omega,by go_num,by congr 1,by omega,hL.setI i (by omega) (by omega) (by omega),
     ⟨by rw [Nat.div_lt_iff_lt_mul (by omega)];omega,by rw [List.length_set];exact h2,shift_step L X i cc x s _ _ (by omega) HGX.out h3 (by rw [hq2];omega)⟩,hb.setCell (Nat.le_refl _) _⟩
   case measure=>simp [intOf];omega
  ·obtain rfl:i=n:=by omega
   go_wp2
   go_ret
   obtain ⟨h1,h2,h3⟩:=hI.out
   have hv:val (L.set i cc)=val X*2^s:=by
    rw [←List.take_of_length_le (l:=L.set i cc) (i:=i+1) (by rw [List.length_set];omega),val_take_set L i cc (by omega),Nat.mul_comm (_^_),h3,
     List.take_of_length_le (by rw [HN.out];omega)]
   exact ⟨rfl,L.set i cc,hL.setI i (by omega) (by omega) (by omega),by rw [List.length_set];exact h2,hv,hb.setCell (Nat.le_refl _) _⟩
set_option maxHeartbeats 1000000 in
theorem back_any (g nl cl:Nat) (L:List Nat) (s:Nat) (w:World) (hL:Blk w g L) (hl:nl≤L.length) (hc:nl≤cl) (hm:cl≤70368744177663) (hs:s<32) :
  Calls Tryz.prog 115 #[.slice (some ⟨g,0,none⟩) nl cl,.int .i64 (s:Int)] w fun e w'=>∃A,e=.returned (.slice A (dig (val (L.take nl) / 2^s)).length (dig (val (L.take nl) / 2^s)).length) ∧
   Own w' g A (dig (val (L.take nl) / 2^s))∧w.grownBy w' (some g):=by
 obtain ⟨T,hT⟩:∃T,L.take nl=T:=⟨_,rfl⟩
 have hT32:W32 T:=by rw [←hT];exact hL.1.take nl
 have hTl:T.length=nl:=by rw [←hT,List.length_take];omega
 have hTg:∀k,k<nl→L.getD k 0=T.getD k 0:=fun k hk=>by rw [←hT,getD_take _ _ _ hk]
 have hTz:T.getD nl 0=0:=getD_ge T (by omega)
 rw [hT]
 obtain ⟨N,hN⟩:∃N,val T=N:=⟨_,rfl⟩
 have HT:=Lib.hid (And.intro hT32 (And.intro hTl (And.intro hTg (And.intro hTz hN))))
 rw [hN]
 have HL:=Lib.hid hL
 have h2s:0<2^s:=Nat.pow_pos (by omega)
 clear hT hT32 hTl hTg hTz hN hL
 go_enter Tryz.func115,Tryz.ntmps115
 go_wp2
 go_loopw [5,6,9] (fun _ _ iv wr=>∃(i:Nat) (L':List Nat),i≤nl∧iv=.int .i64 i∧Blk wr g L' ∧
  Hid (L'.length=L.length∧val (L'.take i)=N / 2^s%4294967296^i∧L'.drop i=L.drop i)∧w.grownBy wr (some g)) (fun _ _ iv _=>nl - (intOf iv).toNat)
 case atStart=>exact ⟨0,L,by omega,rfl,HL.out,⟨rfl,by simp [Nat.mod_one],rfl⟩,grownBy_refl _ _⟩
 case round =>
  obtain ⟨i,L',hi,rfl,hL',hI,hG⟩:=hrel
  have hlen:=hI.out.1
  by_cases hin:i<nl
  ·have hcl:=hL'.cell (i:=i) (by omega)
   have hfz:=hL'.frozen i
   have hx32:=hL'.1.getD i
   obtain ⟨x,hgx⟩:∃x,L'.getD i 0=x:=⟨_,rfl⟩
   rw [hgx] at hcl hx32
   have hxT:T.getD i 0=x:=by
    rw [←HT.out.2.2.1 i hin,←hgx]
    have h1:=getD_drop L' i 0
    have h2:=getD_drop L i 0
    rw [Nat.add_zero] at h1 h2
    rw [←h1,←h2,hI.out.2.2]
   have HGX:=Lib.hid (And.intro hgx hxT);clear hgx hxT
   by_cases hin1:i+1<nl
   ·have hcl2:=hL'.cell (i:=i+1) (by omega)
    have hy32:=hL'.1.getD (i+1)
    obtain ⟨y,hgy⟩:∃y,L'.getD (i+1) 0=y:=⟨_,rfl⟩
    rw [hgy] at hcl2 hy32
    have hyT:T.getD (i+1) 0=y:=by
     rw [←HT.out.2.2.1 (i+1) hin1,←hgy]
     have h1:=getD_drop L' i 1
     have h2:=getD_drop L i 1
     rw [←h1,←h2,hI.out.2.2]
    have HGY:=Lib.hid (And.intro hgy hyT);clear hgy hyT hlen
    go_wp2
    go_roundw
    case rel =>
     obtain ⟨h1,h2,h3⟩:=hI.out
     have e:bits .or .u64 (x:Int) ((y:Int)*4294967296) / 2^s%4294967296=(((x+4294967296*y) / 2^s%4294967296:Nat):Int):=by rw [or_hi x y hx32 hy32];simp
     rw [e]
     have hst:=back_step L' T HT.out.1 i s ((x+4294967296*y) / 2^s%4294967296) (by omega) (by omega) (by rw [HGX.out.2,HGY.out.2]) (by rw [HT.out.2.2.2.2];exact h2)
     exact ⟨i+1,L'.set i ((x+4294967296*y) / 2^s%4294967296),by omega,by go_num,hL'.set i (Nat.mod_lt _ (by omega)),
      ⟨by rw [List.length_set];exact h1,by rw [←HT.out.2.2.2.2];exact hst,by
       rw [drop_set_gt L' i (i+1) _ (by omega)]
       have:=congrArg (List.drop 1) h3
       rwa [List.drop_drop,List.drop_drop] at this⟩,grownBy_set hG _ _⟩
    case measure=>simp [intOf];omega
   ·obtain rfl:nl=i+1:=by omega
    clear hlen
    go_wp2
    go_roundw
    case rel =>
     obtain ⟨h1,h2,h3⟩:=hI.out
     have e:(x:Int) / 2^s%4294967296=((x / 2^s%4294967296:Nat):Int):=by simp
     rw [e]
     have hst:=back_step L' T HT.out.1 i s (x / 2^s%4294967296) (by omega) (by omega) (by rw [HGX.out.2,HT.out.2.2.2.1];simp) (by rw [HT.out.2.2.2.2];exact h2)
     exact ⟨i+1,L'.set i (x / 2^s%4294967296),by omega,by go_num,hL'.set i (Nat.mod_lt _ (by omega)),
      ⟨by rw [List.length_set];exact h1,by rw [←HT.out.2.2.2.2];exact hst,by
       rw [drop_set_gt L' i (i+1) _ (by omega)]
       have:=congrArg (List.drop 1) h3
       rwa [List.drop_drop,List.drop_drop] at this⟩,grownBy_set hG _ _⟩
    case measure=>simp [intOf]
  ·obtain rfl:i=nl:=by omega
   have hv:val (L'.take i)=N / 2^s:=by
    rw [hI.out.2.1]
    apply Nat.mod_eq_of_lt
    have h1:=val_lt HT.out.1
    rw [HT.out.2.1,HT.out.2.2.2.2] at h1
    exact Nat.lt_of_le_of_lt (Nat.div_le_self _ _) h1
   have hR:=hL'.rd.take i
   have hlt:(L'.take i).length=i:=by rw [List.length_take];omega
   have hw:=wl_le (L'.take i)
   have ho:=hL'.own (wl (L'.take i)) (by omega)
   have hd:L'.take (wl (L'.take i))=dig (N / 2^s):=by
    rw [←hv,dig_val (hL'.1.take i),norm,List.take_take,Nat.min_eq_left (by omega)]
   have hwl:wl (L'.take i)=(dig (N / 2^s)).length:=by rw [wl_eq (hL'.1.take i),hv]
   rw [hd] at ho
   have HR:=Lib.hid (And.intro hR (And.intro hlt (And.intro hwl ho)))
   clear hR hlt hwl ho hd hw hlen hv
   go_wp2_with fail
   refine (cut_any _ i cl (L'.take i) _ HR.out.1 HR.out.2.1 hc (by omega)).mono ?_
   rintro e w' ⟨rfl,rfl⟩
   rw [HR.out.2.2.1]
   go_wp2
   go_ret
   exact ⟨_,rfl,HR.out.2.2.2,hG⟩
end Go.Proofs.YtkhengkchlkhoaaGreatDoor
end

section
namespace Go.Proofs.YtkhengkchlkhoaaGreatDoor
set_option linter.unusedVariables false
set_option linter.unusedSimpArgs false
open Go.RowKit Verge
def vl (c:UInt8):Nat:=if isX c then dvl c else 99
theorem ret_u32 {a:Int} {b:Nat} (h:a=b):Ending.returned (.int .u32 a)=.returned (.int .u32 (b:Int)):=by rw [h]
theorem value_any (c:UInt8) (w:World):Calls Tryz.prog 156 #[.int .u8 (c.toNat:Int)] w fun e w'=>e=.returned (.int .u32 (vl c:Int))∧w=w':=by
 have hc:=c.toNat_lt
 have hcl:(48≤c.toNat∧c.toNat≤57∧vl c=c.toNat - 48)∨(97≤c.toNat∧c.toNat≤102∧vl c=c.toNat - 87)∨(65≤c.toNat∧c.toNat≤70∧vl c=c.toNat - 55)∨(¬((48≤c.toNat∧c.toNat≤57)∨(97≤c.toNat∧c.toNat≤102)∨(65≤c.toNat∧c.toNat≤70))∧vl c=99):=by
  unfold vl
  by_cases h:isX c=true
  ·rw [if_pos h]
   have h':=isX_iff.1 h
   unfold dvl
   rcases h' with h' | h' | h'
   ·left;rw [if_pos (by omega)];omega
   ·right;left;rw [if_neg (by omega),if_pos (by omega)];omega
   ·right;right;left;rw [if_neg (by omega),if_neg (by omega)];omega
  ·have h':isX c=false:=by simpa using h
   right;right;right
   rw [h']
   exact ⟨isX_no.1 h',rfl⟩
 generalize vl c=v at hcl ⊢
 generalize c.toNat=n at hcl hc ⊢
 have HC:=Lib.hid hcl
 clear hcl
 go_enter Tryz.func156,Tryz.ntmps156
 go_wp2
 all_goals
  go_ret
  refine ⟨ret_u32 ?_,rfl⟩
  have h':=HC.out
  first
  | omega
  | (go_num;omega)
  | (simp [IntKind.wrap,IntKind.bits] <;> omega)
abbrev rdO (l:List UInt8) (q:Nat):Obj:=.cells #[.string (bs l),.int .i64 (q:Int)] 155
def Rdr (w:World) (b:Nat) (l r:List UInt8):Prop:=r.length≤l.length∧l.drop (l.length - r.length)=r∧w.heap[b]?=some (rdO l (l.length - r.length))
theorem Rdr.lt {w:World} {b:Nat} {l r:List UInt8} (h:Rdr w b l r):b<w.heap.size:=(Array.getElem?_eq_some_iff.1 h.2.2).1
theorem Rdr.cells {w:World} {b:Nat} {l r:List UInt8} (h:Rdr w b l r):w.cell? ⟨b,0,none⟩=some (.string (bs l))∧w.cell? ⟨b,1,none⟩=some (.int .i64 ((l.length - r.length:Nat):Int))∧w.frozen? ⟨b,0,none⟩=false∧w.frozen? ⟨b,1,none⟩=false:=by
 have h:=h.2.2
 refine ⟨?_,?_,?_,?_⟩ <;> simp [World.cell?,World.frozen?,h]
theorem Rdr.later {w w':World} {b:Nat} {l r:List UInt8} (h:Rdr w b l r) (hb:Below w.heap.size w w'):Rdr w' b l r:=⟨h.1,h.2.1,(hb.block b h.lt).trans h.2.2⟩
theorem Rdr.drewN {w:World} {b:Nat} {l r:List UInt8} (h:Rdr w b l r) (n:Nat):Rdr (w.drewN n) b l r:=h
theorem Rdr.set {w:World} {b:Nat} {l r:List UInt8} (h:Rdr w b l r) (s:List UInt8) (h1:s.length≤l.length) (h2:l.drop (l.length - s.length)=s) {k:Int} (hk:k=((l.length - s.length:Nat):Int)) :
  Rdr (w.setCell ⟨b,1,none⟩ (.int .i64 k)) b l s:=by
 refine ⟨h1,h2,?_⟩
 have h:=h.2.2
 subst hk
 simp [World.setCell,Array.getElem?_modify,h]
theorem rest_at {l r:List UInt8} (h1:r.length≤l.length) (h2:l.drop (l.length - r.length)=r) {i:Nat} (c:UInt8) (hc:r[i]?=some c):l[l.length - r.length+i]?=some c:=by
 rw [←List.getElem?_drop,h2,hc]
theorem rest_drop {l r:List UInt8} (h1:r.length≤l.length) (h2:l.drop (l.length - r.length)=r) (k:Nat) (hk:k≤r.length):(r.drop k).length≤l.length∧l.drop (l.length - (r.drop k).length)=r.drop k:=by
 refine ⟨by rw [List.length_drop];omega,?_⟩
 have:l.length - (r.drop k).length=(l.length - r.length)+k:=by rw [List.length_drop];omega
 rw [this,←List.drop_drop,h2]
def isR (m r:List UInt8):Bool×List UInt8:=match r with | []=>(false,[]) | c::s=>if c∈m then (true,s) else (false,c::s)
theorem fail_any (w:World) (b:Nat) (l r:List UInt8) (h:Rdr w b l r):Calls Tryz.prog 142 #[.pointer (some ⟨b,0,none⟩)] w fun e w' =>
  e=.panicked [{ v:=.iface 152 (.agg #[.int .i64 ((l.length - r.length:Nat):Int),.int .i64 50]),recovered:=false }]∧w=w':=by
 obtain ⟨c0,c1,f0,f1⟩:=h.cells
 clear h
 go_enter Tryz.func142,Tryz.ntmps142
 go_wp2
 exact ⟨rfl,⟨rfl,rfl⟩⟩
set_option maxHeartbeats 1000000 in
theorem is_any (w:World) (b:Nat) (l r m:List UInt8) (h:Rdr w b l r) (hl:l.length≤100000) (hm:m.length≤100):Calls Tryz.prog 140 #[.pointer (some ⟨b,0,none⟩),.string (bs m)] w fun e w' =>
  e=.returned (.bool (isR m r).1)∧Rdr w' b l (isR m r).2∧w.grownBy w' (some b):=by
 obtain ⟨c0,c1,f0,f1⟩:=h.cells
 have HR:=Lib.hid h
 obtain ⟨S,hS⟩:∃S,bs l=S:=⟨_,rfl⟩
 obtain ⟨M,hM⟩:∃M,bs m=M:=⟨_,rfl⟩
 have hs:S.size=l.length:=by rw [←hS];exact bs_size _
 have hms:M.size=m.length:=by rw [←hM];exact bs_size _
 have HSA:=Lib.hid (fun i c h=>(hS▸bs_at l i c h:∀hi:i<S.size,S[i]'hi=c))
 have HMA:=Lib.hid (fun i c h=>(hM▸bs_at m i c h:∀hi:i<M.size,M[i]'hi=c))
 rw [hM]
 rw [hS] at c0
 have h1:=h.1
 have h2:=h.2.1
 clear h hS hM
 cases r with
 | nil =>
  obtain ⟨L,hL⟩:∃L,l.length=L:=⟨_,rfl⟩
  rw [show (l.length - ([]:List UInt8).length:Nat)=L by simp [hL]] at c1
  rw [hL] at hs hl
  have HL:=Lib.hid hL
  have HH:=Lib.hid (And.intro h1 h2)
  clear hL h1 h2
  go_enter Tryz.func140,Tryz.ntmps140
  go_upto_region 1 with fail
  go_quiet (fail)
  go_wp2
  go_ret
  exact ⟨rfl,HR.out.drewN _,grownBy_drewN (grownBy_refl _ _) _⟩
 | cons c s =>
  have hc:=rest_at h1 h2 (i:=0) c rfl
  rw [Nat.add_zero] at hc
  have h3:=rest_drop h1 h2 1 (by simp)
  rw [List.drop_one,List.tail_cons] at h3
  have hq1:(l.length - s.length)=(l.length - (c::s).length)+1:=by
   have:s.length+1≤l.length:=h1
   rw [List.length_cons];omega
  have hqL:l.length - (c::s).length<l.length:=by
   have:s.length+1≤l.length:=h1
   rw [List.length_cons];omega
  generalize l.length - (c::s).length=q at *
  have hcS:=HSA.out q c hc
  have HC:=Lib.hid (And.intro hc (And.intro h3 hq1))
  obtain ⟨L,hL⟩:∃L,l.length=L:=⟨_,rfl⟩
  obtain ⟨K,hK⟩:∃K,m.length=K:=⟨_,rfl⟩
  rw [hL] at hs hl hqL
  rw [hK] at hms hm
  have HL:=Lib.hid hL
  have HK:=Lib.hid hK
  have hqI:(q:Int)<(L:Int):=by omega
  clear hL hK hc h3 hq1 h1 h2
  go_enter Tryz.func140,Tryz.ntmps140
  go_upto_region 1 with fail
  go_quiet (fail)
  go_wp2
  go_loopw [18] (fun iv wr=>∃i n:Nat,i≤K∧iv=.int .i64 (i:Int)∧wr=w.drewN n∧Hid (∀k<i,∀d,m[k]?=some d→c≠d)) (fun iv _=>K - (intOf iv).toNat)
  case atStart=>exact ⟨0,_,by omega,rfl,rfl,fun k hk=>by omega⟩
  case round =>
   obtain ⟨i,n,hi,rfl,rfl,hI⟩:=hrel
   by_cases hlt:i<K
   ·have hltI:(i:Int)<(K:Int):=by omega
    obtain ⟨d,hd⟩:∃d,m[i]?=some d:=⟨_,List.getElem?_eq_getElem (by rw [HK.out];exact hlt)⟩
    have hdM:=HMA.out i d hd
    have HD:=Lib.hid hd
    clear hd
    by_cases he:c=d
    ·subst he
     go_upto_region 5 with fail
     go_quiet (fail)
     go_wp2
     go_ret
     have e:isR m (c::s)=(true,s):=if_pos (List.mem_of_getElem? HD.out)
     rw [e]
     refine ⟨rfl,?_,?_⟩
     ·repeat refine Rdr.drewN ?_ _
      refine Rdr.set (r:=c::s) HR.out s HC.out.2.1.1 HC.out.2.1.2 ?_
      have:=HC.out.2.2
      go_num
     ·repeat refine grownBy_drewN ?_ _
      exact grownBy_set (grownBy_drewN (grownBy_refl w _) _) _ _
    ·have hne:¬((c.toNat:Int)=(d.toNat:Int)):=fun e=>he (UInt8.toNat_inj.1 (by omega))
     have HE:=Lib.hid he
     clear he
     go_upto_region 5 with fail
     go_quiet (fail)
     go_wp2
     go_roundw
     case rel =>
      refine ⟨i+1,_,by omega,by go_num,rfl,fun k hk e h => ?_⟩
      by_cases e1:k=i
      ·subst e1
       rw [HD.out] at h
       injection h with h
       rw [←h];exact HE.out
      ·exact hI.out k (by omega) e h
     case measure=>simp [intOf];omega
   ·go_wp2
    go_ret
    have e:isR m (c::s)=(false,c::s):=if_neg (fun hm=>by
     obtain ⟨p,hp,he⟩:=List.getElem_of_mem hm
     have:=HK.out
     exact hI.out p (by omega) c (by rw [List.getElem?_eq_getElem hp,he]) rfl)
    rw [e]
    exact ⟨rfl,HR.out.drewN _,grownBy_drewN (grownBy_refl _ _) _⟩
end Go.Proofs.YtkhengkchlkhoaaGreatDoor
end

section
namespace Go.Proofs.YtkhengkchlkhoaaGreatDoor
set_option linter.unusedVariables false
set_option linter.unusedSimpArgs false
open Go.RowKit Verge
theorem take_at {p:UInt8→Bool}:∀{r:List UInt8} {i:Nat} {c:UInt8},(∀k<i,∀d,r[k]?=some d→p d=true)→r[i]?=some c→p c=false→r.takeWhile p=r.take i∧r.dropWhile p=r.drop i
 | [],i,c,_,h,_=>by simp at h
 | x::xs,0,c,_,h,hp=>by
  have hx:x=c:=by simpa using h
  subst hx
  exact ⟨by rw [List.takeWhile_cons_of_neg (by simp [hp])];rfl,by rw [List.dropWhile_cons_of_neg (by simp [hp])];rfl⟩
 | x::xs,i+1,c,h,hc,hp=>by
  have hx:p x=true:=h 0 (by omega) x rfl
  have ih:=take_at (r:=xs) (i:=i) (c:=c) (fun k hk d hd=>h (k+1) (by omega) d hd) hc hp
  exact ⟨by rw [List.takeWhile_cons_of_pos hx,List.take_succ_cons,ih.1],by rw [List.dropWhile_cons_of_pos hx,List.drop_succ_cons,ih.2]⟩
theorem take_end {p:UInt8→Bool} {r:List UInt8} (h:∀k<r.length,∀d,r[k]?=some d→p d=true):r.takeWhile p=r∧r.dropWhile p=[]:=by
 have:∀d∈r,p d=true:=fun d hd=>by
  obtain ⟨k,hk,e⟩:=List.getElem_of_mem hd
  exact h k hk d (by rw [List.getElem?_eq_getElem hk,e])
 clear h
 induction r with
 | nil=>exact ⟨rfl,rfl⟩
 | cons x xs ih =>
  have hx:=this x List.mem_cons_self
  have:=ih fun d hd=>this d (List.mem_cons_of_mem _ hd)
  exact ⟨by rw [List.takeWhile_cons_of_pos hx,this.1],by rw [List.dropWhile_cons_of_pos hx,this.2]⟩
def pB (B:Nat) (c:UInt8):Bool:=decide (vl c<B)
theorem pB10:pB 10=isD:=by
 funext c
 unfold pB vl
 by_cases h:isX c=true
 ·rw [if_pos h,Bool.eq_iff_iff,decide_eq_true_iff,isD_iff]
  have:=isX_iff.1 h
  unfold dvl
  rcases this with h' | h' | h'
  ·rw [if_pos (by omega)];omega
  ·rw [if_neg (by omega),if_pos (by omega)];omega
  ·rw [if_neg (by omega),if_neg (by omega)];omega
 ·have h':isX c=false:=by simpa using h
  rw [h']
  have hd:isD c=false:=by
   by_cases hd:isD c=true
   ·exact absurd (isX_D hd) h
   ·simpa using hd
  rw [hd];rfl
theorem pB16:pB 16=isX:=by
 funext c
 unfold pB vl
 by_cases h:isX c=true
 ·rw [if_pos h,h]
  have:=isX_iff.1 h
  unfold dvl
  rcases this with h' | h' | h'
  ·rw [if_pos (by omega)];simp;omega
  ·rw [if_neg (by omega),if_pos (by omega)];simp;omega
  ·rw [if_neg (by omega),if_neg (by omega)];simp;omega
 ·have h':isX c=false:=by simpa using h
  rw [h'];rfl
theorem Rdr.cellsAt {w:World} {b q:Nat} {l r:List UInt8} {S:ByteArray} (h:Rdr w b l r) (hS:bs l=S) (hq:l.length - r.length=q):w.cell? ⟨b,0,none⟩=some (.string S)∧w.cell? ⟨b,1,none⟩=some (.int .i64 (q:Int))∧w.frozen? ⟨b,0,none⟩=false∧w.frozen? ⟨b,1,none⟩=false:=by
 subst hS;subst hq;exact h.cells
set_option maxHeartbeats 2000000 in
theorem digits_any (w:World) (b:Nat) (l r:List UInt8) (B:Nat) (h:Rdr w b l r) (hl:l.length≤100000):Calls Tryz.prog 155 #[.pointer (some ⟨b,0,none⟩),.int .u32 (B:Int)] w fun e w' =>
  e=.returned (.string (bs (r.takeWhile (pB B))))∧Rdr w' b l (r.dropWhile (pB B))∧w.grownBy w' (some b):=by
 obtain ⟨c0,c1,f0,f1⟩:=h.cells
 have HR:=Lib.hid h
 have HV:=Lib.hid (fun c W=>value_any c W)
 obtain ⟨S,hS⟩:∃S,bs l=S:=⟨_,rfl⟩
 have hs:S.size=l.length:=by rw [←hS];exact bs_size _
 have HSA:=Lib.hid (fun i c h=>(hS▸bs_at l i c h:∀hi:i<S.size,S[i]'hi=c))
 have HSS:=Lib.hid hS
 rw [hS] at c0
 have h1:=h.1
 have h2:=h.2.1
 clear h hS
 obtain ⟨L,hL⟩:∃L,l.length=L:=⟨_,rfl⟩
 obtain ⟨q,hq⟩:∃q,l.length - r.length=q:=⟨_,rfl⟩
 obtain ⟨n,hn⟩:∃n,r.length=n:=⟨_,rfl⟩
 rw [hq] at c1
 have hqn:q+n=L:=by omega
 have HH:=Lib.hid (And.intro h1 (And.intro h2 (And.intro hq hn)))
 rw [hL] at hs hl
 have HL:=Lib.hid hL
 have HQ:=Lib.hid hqn
 have hqL:q≤L:=by omega
 clear hL hq hn h1 h2 hqn
 go_enter Tryz.func155,Tryz.ntmps155
 go_wp2
 go_loopw [20] (fun _ wr=>∃i p:Nat,i≤n∧p≤L∧wr.cell? ⟨b,0,none⟩=some (.string S)∧wr.cell? ⟨b,1,none⟩=some (.int .i64 (p:Int))∧wr.frozen? ⟨b,0,none⟩=false∧wr.frozen? ⟨b,1,none⟩=false ∧
   Hid (p=q+i∧Rdr wr b l (r.drop i)∧w.grownBy wr (some b)∧∀k<i,∀d,r[k]?=some d→pB B d=true)) (fun _ wr=>L - (intOf ((wr.cell? ⟨b,1,none⟩).getD undef)).toNat)
 case atStart=>exact ⟨0,q,by omega,hqL,c0,c1,f0,f1,rfl,by simpa using HR.out,grownBy_refl _ _,fun k hk=>by omega⟩
 case round =>
  obtain ⟨i,p,hi,hp,d0,d1,g0,g1,hI⟩:=hrel
  by_cases hlt:i<n
  ·obtain ⟨c,hc⟩:∃c,r[i]?=some c:=⟨_,List.getElem?_eq_getElem (by rw [HH.out.2.2.2];exact hlt)⟩
   have hcl:=rest_at HH.out.1 HH.out.2.1 c hc
   rw [HH.out.2.2.1,←hI.out.1] at hcl
   have hcS:=HSA.out p c hcl
   have hpL:p<L:=by have:=hI.out.1;have:=HQ.out;omega
   have hpI:(p:Int)<(L:Int):=by omega
   have hpd:decide ((p:Int)<(L:Int))=true:=by simpa using hpI
   have HC:=Lib.hid hc
   clear hc hcl
   by_cases hv:vl c<B
   ·have hvd:decide (((vl c:Nat):Int)<(B:Int))=true:=by simpa using hv
    have HV2:=Lib.hid hv
    clear hv
    go_upto_region 2 with fail
    go_quiet ((go_at_call 156;with_reducible exact quiet_left (HV.out _ _)))
    go_wp2
    go_roundw
    case rel =>
     have hR:Rdr ((wr.drewN nq).setCell ⟨b,1,none⟩ (.int .i64 ((p:Int)+1))) b l (r.drop (i+1)):=by
      have h3:=rest_drop HH.out.1 HH.out.2.1 (i+1) (by have:=HH.out.2.2.2;omega)
      refine Rdr.set (r:=r.drop i) (hI.out.2.1.drewN _) _ h3.1 h3.2 ?_
      have:=hI.out.1
      obtain ⟨e1,_,e3,e4⟩:=HH.out
      rw [List.length_drop]
      omega
     obtain ⟨k0,k1,k2,k3⟩:=hR.cellsAt (q:=p+1) HSS.out (by
      have:=hI.out.1
      obtain ⟨e1,_,e3,e4⟩:=HH.out
      rw [List.length_drop]
      omega)
     refine ⟨i+1,p+1,by omega,by omega,k0,k1,k2,k3,by have:=hI.out.1;omega,hR,grownBy_set (grownBy_drewN hI.out.2.2.1 _) _ _,fun k hk d hd => ?_⟩
     by_cases e:k=i
     ·subst e
      rw [HC.out] at hd
      injection hd with hd
      subst hd
      exact decide_eq_true HV2.out
     ·exact hI.out.2.2.2 k (by omega) d hd
    case measure =>
     rw [d1,show ((((wr.drewN nq).setCell ⟨b,1,none⟩ (.int .i64 ((p:Int)+1))).cell? ⟨b,1,none⟩))=some (.int .i64 ((p:Int)+1)) from by
      have hR:Rdr ((wr.drewN nq).setCell ⟨b,1,none⟩ (.int .i64 ((p:Int)+1))) b l (r.drop (i+1)):=by
       have h3:=rest_drop HH.out.1 HH.out.2.1 (i+1) (by have:=HH.out.2.2.2;omega)
       refine Rdr.set (r:=r.drop i) (hI.out.2.1.drewN _) _ h3.1 h3.2 ?_
       have:=hI.out.1
       obtain ⟨e1,_,e3,e4⟩:=HH.out
       rw [List.length_drop]
       omega
      exact (hR.cellsAt (q:=p+1) HSS.out (by
       have:=hI.out.1
       obtain ⟨e1,_,e3,e4⟩:=HH.out
       rw [List.length_drop]
       omega)).2.1]
     show L - (p+1:Int).toNat<L - (p:Int).toNat
     omega
   ·have hvd:decide (((vl c:Nat):Int)<(B:Int))=false:=by simpa using hv
    have HV2:=Lib.hid hv
    clear hv
    go_upto_region 2 with fail
    go_quiet ((go_at_call 156;with_reducible exact quiet_left (HV.out _ _)))
    go_wp2
    have hqp:q≤p:=by have:=hI.out.1;omega
    have hqpI:(q:Int)≤(p:Int):=by omega
    go_upto_region 4 with fail
    go_quiet (fail)
    go_wp2
    go_ret
    obtain ⟨t1,t2⟩:=take_at hI.out.2.2.2 HC.out (decide_eq_false HV2.out)
    rw [t1,t2]
    refine ⟨?_,?_,?_⟩
    ·have hp':=hI.out.1
     rw [←HSS.out,bs_sub,←HH.out.2.2.1,HH.out.2.1,HH.out.2.2.1,show p - q=i by omega]
     rfl
    ·exact (hI.out.2.1.drewN _).drewN _
    ·exact grownBy_drewN (grownBy_drewN hI.out.2.2.1 _) _
  ·have hpl:p=L:=by have:=hI.out.1;have:=HQ.out;omega
   have hin:i=n:=by omega
   have hqp:q≤L:=by have:=HQ.out;omega
   have hqpI:(q:Int)≤(L:Int):=by omega
   subst hin
   subst hpl
   go_upto_region 2 with fail
   go_quiet ((go_at_call 156;with_reducible exact quiet_left (HV.out _ _)))
   go_wp2
   go_upto_region 4 with fail
   go_quiet (fail)
   go_wp2
   go_ret
   obtain ⟨t1,t2⟩:=take_end (p:=pB B) (r:=r) (fun k hk d hd=>hI.out.2.2.2 k (by rw [←HH.out.2.2.2];exact hk) d hd)
   rw [t1,t2]
   have hR:=hI.out.2.1
   rw [List.drop_eq_nil_of_le (by have:=HH.out.2.2.2;omega)] at hR
   refine ⟨?_,?_,?_⟩
   ·have hp':=hI.out.1
    rw [←HSS.out,bs_sub,←HH.out.2.2.1,HH.out.2.1,HH.out.2.2.1,List.take_of_length_le (by have:=HH.out.2.2.2;omega)]
    rfl
   ·exact (hR.drewN _).drewN _
   ·exact grownBy_drewN (grownBy_drewN hI.out.2.2.1 _) _
def Fails (l r:List UInt8) (e:Ending):Prop:=e=.panicked [{ v:=.iface 152 (.agg #[.int .i64 ((l.length - r.length:Nat):Int),.int .i64 50]),recovered:=false }]
theorem bs_nil:bs []={ data:=#[] }:=rfl
theorem bs_ne {a:List UInt8} (h:a≠[]):(bs a).toList.isEmpty=false:=by
 rw [ByteArray.toList_eq,bs_list]
 cases a with
 | nil=>exact absurd rfl h
 | cons=>rfl
theorem some_ok (w:World) (b:Nat) (l r:List UInt8) (B:Nat) (h:Rdr w b l r) (hl:l.length≤100000) (hne:r.takeWhile (pB B)≠[]):Calls Tryz.prog 145 #[.pointer (some ⟨b,0,none⟩),.int .u32 (B:Int)] w fun e w' =>
  e=.returned (.string (bs (r.takeWhile (pB B))))∧Rdr w' b l (r.dropWhile (pB B))∧w.grownBy w' (some b):=by
 have HD:=Lib.hid (digits_any w b l r B h hl)
 have hz:=bs_ne hne
 generalize bs (r.takeWhile (pB B))=t at *
 clear h hne
 go_enter Tryz.func145,Tryz.ntmps145
 go_wp2_with (go_at_call 155;refine (HD.out).mono ?_;rintro e w1 ⟨rfl,h1⟩;have H1:=Lib.hid h1;clear h1)
 go_ret
 exact ⟨rfl,H1.out⟩
theorem some_no (w:World) (b:Nat) (l r:List UInt8) (B:Nat) (h:Rdr w b l r) (hl:l.length≤100000) (he:r.takeWhile (pB B)=[]):Calls Tryz.prog 145 #[.pointer (some ⟨b,0,none⟩),.int .u32 (B:Int)] w fun e w' =>
  Fails l (r.dropWhile (pB B)) e∧w.grownBy w' (some b):=by
 have h0:=digits_any w b l r B h hl
 rw [he,bs_nil] at h0
 have HD:=Lib.hid h0
 have HF:=Lib.hid (fun W h=>fail_any W b l (r.dropWhile (pB B)) h)
 clear h he h0
 go_enter Tryz.func145,Tryz.ntmps145
 go_wp2_with (first | (go_at_call 155;refine (HD.out).mono ?_;rintro e w1 ⟨rfl,h1⟩;have H1:=Lib.hid h1;clear h1) | (go_at_call 142;refine (HF.out _ H1.out.1).mono ?_;rintro e w2 ⟨rfl,rfl⟩))
 exact ⟨rfl,⟨rfl,H1.out.2⟩⟩
end Go.Proofs.YtkhengkchlkhoaaGreatDoor
end
