/- Contracts of nat: long, Norm, Small, Word, Cmp, Len. -/
import Derived.Test.YtigmpifjcijdbaaGreatDoorG07
import Derived.Test.YtigmpifjcijdbaaGreatDoorG01
section
namespace Go.Proofs.YtigmpifjcijdbaaGreatDoor
set_option linter.unusedVariables false
set_option linter.unusedSimpArgs false
open Go.RowKit Verge
theorem long2_any (g:Nat) (A:Option Addr) (n c:Nat) (xs:List Nat) (A':Option Addr) (n' c':Nat) (ys:List Nat) (w:World)
  (h:Rd w A xs) (hn:xs.length=n) (hm:n≤140737488355328) (h':Rd w A' ys) (hn':ys.length=n') (hm':n'≤140737488355328)
  (h0:w.cell? ⟨g,0,none⟩=some (.slice A n c)) (h1:w.cell? ⟨g,1,none⟩=some (.slice A' n' c')) :
  Calls Tryz.prog 106 #[.slice (some ⟨g,0,none⟩) 2 2] w fun e w'=>e=.returned (.bool (long (val xs)||long (val ys)))∧w=w':=by
 have ex:long (val xs)=decide (16384<wl xs):=by rw [long,←wl_eq h.1]
 have ey:long (val ys)=decide (16384<wl ys):=by rw [long,←wl_eq h'.1]
 rw [ex,ey]
 clear ex ey
 have H1:=Lib.hid hn;clear hn
 have H2:=Lib.hid hn';clear hn'
 by_cases hx:16384<wl xs
 ·have hp:(decide (16384<wl xs)||decide (16384<wl ys))=true:=by simp [hx]
  rw [hp];clear hp
  go_enter Tryz.func106,Tryz.ntmps106
  go_wp2
  go_loop [4,7] (fun _ i=>i=.int .i64 0) (fun _ _=>0)
  case atStart=>rfl
  case round =>
   obtain rfl:=hrel
   go_wp2_with (go_at_call 105;refine (words_any A n c xs _ h H1.out hm).mono ?_;rintro e w' ⟨rfl,rfl⟩)
   go_ret
   exact ⟨rfl,rfl⟩
 ·by_cases hy:16384<wl ys
  ·have hp:(decide (16384<wl xs)||decide (16384<wl ys))=true:=by simp [hy]
   rw [hp];clear hp
   go_enter Tryz.func106,Tryz.ntmps106
   go_wp2
   go_loop [4,7] (fun _ i=>∃k:Nat,k≤1∧i=.int .i64 k) (fun _ i=>2 - (intOf i).toNat)
   case atStart=>exact ⟨0,by omega,rfl⟩
   case round =>
    obtain ⟨k,hk,rfl⟩:=hrel
    obtain rfl | rfl:k=0∨k=1:=by omega
    ·go_wp2_with (go_at_call 105;refine (words_any A n c xs _ h H1.out hm).mono ?_;rintro e w' ⟨rfl,rfl⟩)
     go_round
     case rel=>exact ⟨1,by omega,rfl⟩
     case measure=>simp [intOf]
    ·go_wp2_with (go_at_call 105;refine (words_any A' n' c' ys _ h' H2.out hm').mono ?_;rintro e w' ⟨rfl,rfl⟩)
     go_ret
     exact ⟨rfl,rfl⟩
  ·have hp:(decide (16384<wl xs)||decide (16384<wl ys))=false:=by simp [hx,hy]
   rw [hp];clear hp
   go_enter Tryz.func106,Tryz.ntmps106
   go_wp2
   go_loop [4,7] (fun _ i=>∃k:Nat,k≤2∧i=.int .i64 k) (fun _ i=>2 - (intOf i).toNat)
   case atStart=>exact ⟨0,by omega,rfl⟩
   case round =>
    obtain ⟨k,hk,rfl⟩:=hrel
    obtain rfl | rfl | rfl:k=0∨k=1∨k=2:=by omega
    ·go_wp2_with (go_at_call 105;refine (words_any A n c xs _ h H1.out hm).mono ?_;rintro e w' ⟨rfl,rfl⟩)
     go_round
     case rel=>exact ⟨1,by omega,rfl⟩
     case measure=>simp [intOf]
    ·go_wp2_with (go_at_call 105;refine (words_any A' n' c' ys _ h' H2.out hm').mono ?_;rintro e w' ⟨rfl,rfl⟩)
     go_round
     case rel=>exact ⟨2,by omega,rfl⟩
     case measure=>simp [intOf]
    ·go_wp2
     go_ret
     exact ⟨rfl,rfl⟩
theorem long1_any (g:Nat) (A:Option Addr) (n c:Nat) (xs:List Nat) (w:World)
  (h:Rd w A xs) (hn:xs.length=n) (hm:n≤140737488355328)
  (h0:w.cell? ⟨g,0,none⟩=some (.slice A n c)) :
  Calls Tryz.prog 106 #[.slice (some ⟨g,0,none⟩) 1 1] w fun e w'=>e=.returned (.bool (long (val xs)))∧w=w':=by
 have ex:long (val xs)=decide (16384<wl xs):=by rw [long,←wl_eq h.1]
 rw [ex]
 clear ex
 have H1:=Lib.hid hn;clear hn
 by_cases hx:16384<wl xs
 ·have hp:decide (16384<wl xs)=true:=by simp [hx]
  rw [hp];clear hp
  go_enter Tryz.func106,Tryz.ntmps106
  go_wp2
  go_loop [4,7] (fun _ i=>i=.int .i64 0) (fun _ _=>0)
  case atStart=>rfl
  case round =>
   obtain rfl:=hrel
   go_wp2_with (go_at_call 105;refine (words_any A n c xs _ h H1.out hm).mono ?_;rintro e w' ⟨rfl,rfl⟩)
   go_ret
   exact ⟨rfl,rfl⟩
 ·have hp:decide (16384<wl xs)=false:=by simp [hx]
  rw [hp];clear hp
  go_enter Tryz.func106,Tryz.ntmps106
  go_wp2
  go_loop [4,7] (fun _ i=>∃k:Nat,k≤1∧i=.int .i64 k) (fun _ i=>2 - (intOf i).toNat)
  case atStart=>exact ⟨0,by omega,rfl⟩
  case round =>
   obtain ⟨k,hk,rfl⟩:=hrel
   obtain rfl | rfl:k=0∨k=1:=by omega
   ·go_wp2_with (go_at_call 105;refine (words_any A n c xs _ h H1.out hm).mono ?_;rintro e w' ⟨rfl,rfl⟩)
    go_round
    case rel=>exact ⟨1,by omega,rfl⟩
    case measure=>simp [intOf]
   ·go_wp2
    go_ret
    exact ⟨rfl,rfl⟩
theorem len_any (A:Option Addr) (n c:Nat) (xs:List Nat) (w:World) (h:Rd w A xs) (hn:xs.length=n) (hm:n≤140737488355328) :
  Calls Tryz.prog 78 #[.slice A n c] w fun e w'=>e=.returned (.int .i64 (blen (val xs):Nat))∧w=w':=by
 have H1:=Lib.hid hn
 have hle:=wl_le xs
 rcases Nat.eq_zero_or_pos (wl xs) with h0 | h0
 ·have hv:=(val_eq_zero_iff xs).2 h0
  rw [hv]
  have hb:((wl xs:Int)==0)=true:=by simp [h0]
  clear hn h0 hv
  go_enter Tryz.func78,Tryz.ntmps78
  go_wp2_with (go_at_call 105;refine (words_any A n c xs _ h H1.out hm).mono ?_;rintro e w' ⟨rfl,rfl⟩)
  go_ret
  exact ⟨rfl,rfl⟩
 ·obtain ⟨k,hk⟩:∃k,wl xs=k+1:=⟨wl xs - 1,by omega⟩
  have hbl:=blen_words h.1 k hk
  have hkn:k<n:=by omega
  have hk':k<xs.length:=by omega
  obtain ⟨b,o,rfl,hc⟩:=h.cell hk'
  have hx:=h.1.getD k
  have hb32:=(blen_lt (xs.getD k 0) 32).2 (by omega)
  have W:=fun W' hW=>words_any (some ⟨b,o,none⟩) n c xs W' hW H1.out hm
  rw [hk] at W
  have HW:=Lib.hid W;clear W
  have HB:=Lib.hid hbl;clear hbl hn hk hle h0
  have HH:=Lib.hid h;clear h
  generalize xs.getD k 0=x at *
  go_enter Tryz.func78,Tryz.ntmps78
  go_wp2_with (first
   | (go_at_call 105;refine (HW.out _ HH.out).mono ?_;rintro e w' ⟨rfl,rfl⟩)
   | (go_at_call 119;refine (len32_any _ (by omega) (by omega) _).mono ?_;rintro e w' ⟨rfl,rfl⟩))
  go_ret
  exact ⟨ret_int (by rw [HB.out];simp),rfl⟩
theorem norm_any (A:Option Addr) (n c:Nat) (xs:List Nat) (w:World) (h:Rd w A xs) (hn:xs.length=n) (hm:n≤70368744177664) :
  Calls Tryz.prog 108 #[.slice A n c] w fun e w'=>∃g A',w.heap.size≤g∧e=.returned (.slice A' (dig (val xs)).length (dig (val xs)).length)∧Own w' g A' (dig (val xs))∧Blk w' g (dig (val xs))∧A'=some ⟨g,0,none⟩∧Below w.heap.size w w':=by
 have hle:=wl_le xs
 rw [dig_val h.1,length_norm]
 have hmk:=run_make_u32 (wl xs) (by omega)
 have HN:=Lib.hid hn;clear hn
 go_enter Tryz.func108,Tryz.ntmps108
 go_wp2_with (first
  | (go_at_call 105;refine (words_any A n c xs _ h HN.out (by omega)).mono ?_;rintro e w' ⟨rfl,rfl⟩)
  | (refine wpList_copy_u32 rfl (.tmp 7) (.tmp 8) rfl _ (wl xs) (wl xs) n c A xs (List.replicate (wl xs) 0) rfl rfl (Blk.made _ _) (by simp) (h.keep (fun b o hb=>World.cell?_alloc_lt _ _ _ hb)) HN.out (by have:=HN.out;omega) ?_;intro w1 hB hG))
 go_ret
 have hb:Below w.heap.size w w1:=((Below.refl _ w).alloc (Nat.le_refl _) _).grown hG (by simp) (by intro k hk;simp at hk;omega)
 have hB':Blk w1 w.heap.size (norm xs):=hB
 have ho:=hB'.own (norm xs).length (Nat.le_refl _)
 rw [List.take_length] at ho
 exact ⟨_,_,Nat.le_refl _,rfl,ho,hB',rfl,hb⟩
theorem small_any (v:Int) (w:World) (h0:0≤v) (h1:v<18446744073709551616) :
  Calls Tryz.prog 99 #[.int .u64 v] w fun e w'=>∃g A',w.heap.size≤g∧e=.returned (.slice A' (dig v.toNat).length (dig v.toNat).length)∧Own w' g A' (dig v.toNat)∧Below w.heap.size w w':=by
 obtain ⟨n,rfl⟩:=Int.eq_ofNat_of_zero_le h0
 rw [Int.toNat_natCast]
 have hW:W32 [n%4294967296,n / 4294967296]:=W32.cons (by omega) (W32.cons (by omega) W32.nil)
 have hB:∀W:World,Blk (W.alloc (.cells #[.int .u32 ((n:Int)%4294967296),.int .u32 ((n:Int) / 4294967296)] 52)) W.heap.size [n%4294967296,n / 4294967296]:=
  fun W=>Blk.new W _ _ hW rfl
 have hv:val [n%4294967296,n / 4294967296]=n:=by simp;omega
 have hd:=dig_val hW
 rw [hv] at hd
 rw [hd,length_norm]
 have HB:=Lib.hid hB;clear hB
 clear hd hv
 go_enter Tryz.func99,Tryz.ntmps99
 go_wp2_with (go_at_call 113;refine (cut_any _ 2 2 [n%4294967296,n / 4294967296] _ (HB.out _).rd rfl (by omega) (by omega)).mono ?_;rintro e w' ⟨rfl,rfl⟩)
 go_ret
 exact ⟨_,_,Nat.le_refl _,rfl,(HB.out w).own _ (wl_le _),(Below.refl _ w).alloc (Nat.le_refl _) _⟩
theorem cmp_any (A:Option Addr) (n c:Nat) (xs:List Nat) (A':Option Addr) (n' c':Nat) (ys:List Nat) (w:World)
  (h:Rd w A xs) (hn:xs.length=n) (hm:n≤140737488355328) (h':Rd w A' ys) (hn':ys.length=n') (hm':n'≤140737488355328) :
  Calls Tryz.prog 107 #[.slice A n c,.slice A' n' c'] w fun e w'=>e=.returned (.int .i64 (cmp (val xs) (val ys)))∧∃k,w.drewN k=w':=by
 have hle:=wl_le xs
 have hle':=wl_le ys
 rcases Nat.lt_trichotomy (wl xs) (wl ys) with hlt | heq | hgt
 ·rw [cmp_lt (val_lt_of_wl h.1 h'.1 hlt)]
  have hb:((wl xs:Int) != (wl ys:Int))=true:=by simp;omega
  have HN:=Lib.hid hn;clear hn
  have HN':=Lib.hid hn';clear hn'
  go_enter Tryz.func107,Tryz.ntmps107
  go_wp2_with fail
  refine (words_any A n c xs _ h HN.out hm).mono ?_
  rintro e w' ⟨rfl,rfl⟩
  go_wp2_with fail
  refine (words_any A' n' c' ys _ h' HN'.out hm').mono ?_
  rintro e w' ⟨rfl,rfl⟩
  go_wp2
  go_ret
  exact ⟨rfl,0,rfl⟩
 ·have hx32:=w32_norm h.1
  have hy32:=w32_norm h'.1
  have hlx:=length_norm xs
  have hly:=length_norm ys
  have hvx:=val_norm xs
  have hvy:=val_norm ys
  have hgx:=norm_getD xs
  have hgy:=norm_getD ys
  have W1:=fun W hW=>words_any A n c xs W hW hn hm
  have W2:=fun W hW=>words_any A' n' c' ys W hW hn' hm'
  rw [←heq] at hly hle' hgy W2
  have hcx:∀k,k<wl xs→∃b o,A=some ⟨b,o,none⟩∧w.cell? ⟨b,o+k,none⟩=some (.int .u32 (((norm xs).getD k 0:Nat):Int)):=fun k hk=>by
   rw [hgx k hk];exact h.cell (by omega)
  have hcy:∀k,k<wl xs→∃b o,A'=some ⟨b,o,none⟩∧w.cell? ⟨b,o+k,none⟩=some (.int .u32 (((norm ys).getD k 0:Nat):Int)):=fun k hk=>by
   rw [hgy k hk];exact h'.cell (by omega)
  rw [←hvx,←hvy]
  have hle2:wl xs≤140737488355328:=by omega
  have hmn:wl xs≤n:=by omega
  have hmn':wl xs≤n':=by omega
  generalize norm xs=X at *
  generalize norm ys=Y at *
  generalize wl xs=m at *
  have HX:=Lib.hid (And.intro hx32 (And.intro hlx (And.intro hy32 hly)))
  have HCX:=Lib.hid hcx
  have HCY:=Lib.hid hcy
  have HW1:=Lib.hid W1
  have HW2:=Lib.hid W2
  clear hx32 hlx hy32 hly hcx hcy hgx hgy hvx hvy W1 W2 heq hle hle' hn hn'
  go_enter Tryz.func107,Tryz.ntmps107
  go_wp2_with fail
  refine (HW1.out _ h).mono ?_
  rintro e w' ⟨rfl,rfl⟩
  go_wp2_with fail
  refine (HW2.out _ h').mono ?_
  rintro e w' ⟨rfl,rfl⟩
  go_wp2
  go_loopw [7,8,9,21] (fun _ _ _ i wr=>∃k:Nat,k≤m∧i=.int .i64 k∧Hid (X.drop (m - k)=Y.drop (m - k))∧∃d,wr=w.drewN d) (fun _ _ _ i _=>m - (intOf i).toNat)
  case atStart=>exact ⟨0,by omega,rfl,by
   obtain ⟨_,h1,_,h2⟩:=HX.out
   show X.drop (m - 0)=Y.drop (m - 0)
   rw [List.drop_of_length_le (by omega),List.drop_of_length_le (by omega)],0,rfl⟩
  case round =>
   obtain ⟨k,hk,rfl,hd,d,rfl⟩:=hrel
   by_cases hkm:k<m
   ·obtain ⟨j,rfl⟩:∃j,m=j+1+k:=⟨m - 1 - k,by omega⟩
    obtain ⟨b,o,rfl,hc⟩:=HCX.out j (by omega)
    obtain ⟨b',o',rfl,hc'⟩:=HCY.out j (by omega)
    have hbx:=(HX.out).1.getD j
    have hby:=(HX.out).2.2.1.getD j
    have hd':Hid (X.drop (j+1)=Y.drop (j+1)):=by
     have:=hd.out
     rw [show j+1+k - k=j+1 by omega] at this
     exact this
    clear hd
    generalize hgx:X.getD j 0=x at *
    generalize hgy:Y.getD j 0=y at *
    have HGX:=Lib.hid hgx;clear hgx
    have HGY:=Lib.hid hgy;clear hgy
    have hi1:IntKind.i64.wrap ((j:Int)+1+k - 1)=(j:Int)+k:=by rw [IntKind.wrap_i64];omega
    have hi2:IntKind.i64.wrap ((j:Int)+k - k)=(j:Int):=by rw [IntKind.wrap_i64];omega
    have hi3:IntKind.i64.wrap (j:Int)=(j:Int):=by rw [IntKind.wrap_i64];omega
    have hj1:(j:Int)<(n:Int):=by omega
    have hj2:(j:Int)<(n':Int):=by omega
    rcases Nat.lt_trichotomy x y with hlt | rfl | hgt
    ·have hb:((x:Int) != (y:Int))=true:=by simp;omega
     go_wp2
     go_quiet (fail)
     go_wp2
     go_ret
     obtain ⟨h1,h2,h3,h4⟩:=HX.out
     exact ⟨ret_int (cmp_lt (val_lt_of_top h1 h3 j (by omega) (by omega) hd'.out (by rw [HGX.out,HGY.out];exact hlt))).symm,_,rfl⟩
    ·go_wp2
     go_quiet (fail)
     go_wp2
     go_roundw
     case rel=>exact ⟨k+1,by omega,by go_num,by
      obtain ⟨h1,h2,h3,h4⟩:=HX.out
      show X.drop (j+1+k - (k+1))=Y.drop (j+1+k - (k+1))
      rw [show j+1+k - (k+1)=j by omega]
      exact drop_ext j (by omega) hd'.out (by rw [HGX.out,HGY.out]),_,rfl⟩
     case measure=>simp [intOf];omega
    ·have hb:((x:Int) != (y:Int))=true:=by simp;omega
     go_wp2
     go_quiet (fail)
     go_wp2
     go_ret
     obtain ⟨h1,h2,h3,h4⟩:=HX.out
     exact ⟨ret_int (cmp_gt (val_lt_of_top h3 h1 j (by omega) (by omega) hd'.out.symm (by rw [HGX.out,HGY.out];exact hgt))).symm,_,rfl⟩
   ·obtain rfl:k=m:=by omega
    go_wp2
    go_ret
    have he:X=Y:=by
     have:=hd.out
     rw [Nat.sub_self] at this
     simpa using this
    exact ⟨ret_int (by rw [he,cmp_eq]),_,rfl⟩
 ·rw [cmp_gt (val_lt_of_wl h'.1 h.1 hgt)]
  have hb:((wl xs:Int) != (wl ys:Int))=true:=by simp;omega
  have HN:=Lib.hid hn;clear hn
  have HN':=Lib.hid hn';clear hn'
  go_enter Tryz.func107,Tryz.ntmps107
  go_wp2_with fail
  refine (words_any A n c xs _ h HN.out hm).mono ?_
  rintro e w' ⟨rfl,rfl⟩
  go_wp2_with fail
  refine (words_any A' n' c' ys _ h' HN'.out hm').mono ?_
  rintro e w' ⟨rfl,rfl⟩
  go_wp2
  go_ret
  exact ⟨rfl,0,rfl⟩
end Go.Proofs.YtigmpifjcijdbaaGreatDoor
namespace Go.Proofs.YtigmpifjcijdbaaGreatDoor
set_option linter.unusedVariables false
set_option linter.unusedSimpArgs false
open Go.RowKit Verge
set_option maxHeartbeats 1000000 in
theorem add_any (A:Option Addr) (n c:Nat) (xs:List Nat) (A':Option Addr) (n' c':Nat) (ys:List Nat) (w:World)
  (h:Rd w A xs) (hn:xs.length=n) (hc:n≤c) (hm:n≤140737488355328) (h':Rd w A' ys) (hn':ys.length=n') (hc':n'≤c') (hm':n'≤140737488355328) :
  Calls Tryz.prog 77 #[.slice A n c,.slice A' n' c'] w fun e w'=>∃g A1,w.heap.size≤g ∧
   e=.returned (.tuple #[.slice A1 (nadd (val xs) (val ys)).1.length (nadd (val xs) (val ys)).1.length,.int .i64 (nadd (val xs) (val ys)).2]) ∧
   Own w' g A1 (nadd (val xs) (val ys)).1∧Below w.heap.size w w':=by
 have hA:∀o:Obj,Rd (w.alloc o) A xs:=fun o=>h.keep (fun b o hb=>World.cell?_alloc_lt _ _ _ hb)
 have hA':∀o:Obj,Rd (w.alloc o) A' ys:=fun o=>h'.keep (fun b o hb=>World.cell?_alloc_lt _ _ _ hb)
 have hAd:∀(o:Obj) (k:Nat),Rd ((w.alloc o).drewN k) A xs:=fun o k=>hA o
 have hAd':∀(o:Obj) (k:Nat),Rd ((w.alloc o).drewN k) A' ys:=fun o k=>hA' o
 have hB1:∀o:Obj,Below w.heap.size w (w.alloc o):=fun o=>(Below.refl _ w).alloc (Nat.le_refl _) o
 by_cases hlong:(long (val xs)||long (val ys))=true
 ·rw [nadd_long hlong]
  go_enter Tryz.func77,Tryz.ntmps77
  go_wp2_with (go_at_call 106;refine (long2_any _ A n c xs A' n' c' ys _ (hA _) hn hm (hA' _) hn' hm' (by simp [World.cell?_alloc_new]) (by simp [World.cell?_alloc_new])).mono ?_;rintro e w' ⟨rfl,rfl⟩)
  go_ret2
  exact ⟨0+w.heap.size,none,by omega,rfl,Own.nil _ _ _,hB1 _⟩
 ·have hlong':(long (val xs)||long (val ys))=false:=by simpa using hlong
  clear hlong
  rw [nadd_fit hlong']
  have hlx:wl xs≤16384:=by
   have:=hlong';rw [Bool.or_eq_false_iff,long_false,long_false,←wl_eq h.1,←wl_eq h'.1] at this;exact this.1
  have hly:wl ys≤16384:=by
   have:=hlong';rw [Bool.or_eq_false_iff,long_false,long_false,←wl_eq h.1,←wl_eq h'.1] at this;exact this.2
  have hle:=wl_le xs
  have hle':=wl_le ys
  have cut1:=fun W=>run_cut_h W A n c (wl xs) (by omega)
  have cut2:=fun W=>run_cut_h W A' n' c' (wl ys) (by omega)
  have WX:=fun W hW=>words_any A n c xs W hW hn hm
  have WY:=fun W hW=>words_any A' n' c' ys W hW hn' hm'
  have HX:=Lib.hid WX
  have HY:=Lib.hid WY
  have hx:=h.take (wl xs)
  have hy:=h'.take (wl ys)
  have hlx':(xs.take (wl xs)).length=wl xs:=length_norm xs
  have hly':(ys.take (wl ys)).length=wl ys:=length_norm ys
  have hvx:val (xs.take (wl xs))=val xs:=val_norm xs
  have hvy:val (ys.take (wl ys))=val ys:=val_norm ys
  have HV:=Lib.hid (And.intro hlx' (And.intro hly' (And.intro hvx hvy)))
  have HH:=Lib.hid (And.intro hn hn')
  have HL:=Lib.hid hlong'
  have HQ:wl xs≤n∧wl ys≤n':=by omega
  clear WX WY hlx' hly' hvx hvy hn hn' hle hle'
  go_enter Tryz.func77,Tryz.ntmps77
  go_wp2_with (go_at_call 106;refine (long2_any _ A n c xs A' n' c' ys _ (hA _) HH.out.1 hm (hA' _) HH.out.2 hm' (by simp [World.cell?_alloc_new]) (by simp [World.cell?_alloc_new])).mono ?_;rintro e w' ⟨rfl,rfl⟩)
  go_quiet ((first
   | (go_at_call 105;with_reducible exact quiet_left (HX.out _ (hAd _ _)))
   | (go_at_call 105;with_reducible exact quiet_left (HY.out _ (hAd' _ _)))))
  go_upto_if 26 with (fail)
  go_cut [0,1] from 27 to 28 (fun s0 s1 wr=>∃(P Q:Option Addr) (nP cP nQ cQ:Nat) (X Y:List Nat),s0=.slice P nP cP∧s1=.slice Q nQ cQ∧Rd w P X∧Rd w Q Y ∧
   nQ≤nP∧nP≤16384∧Hid (X.length=nP∧Y.length=nQ∧val X+val Y=val xs+val ys)∧∃o k,wr=(w.alloc o).drewN k)
  case first =>
   go_wp2
   all_goals go_meet
   case rel =>
    have hlt:wl xs<wl ys:=by assumption
    obtain ⟨v1,v2,v3,v4⟩:=HV.out
    exact ⟨A',A,_,_,_,_,_,_,rfl,rfl,hy,hx,by omega,by omega,⟨v2,v1,by rw [v3,v4,Nat.add_comm]⟩,_,_,rfl⟩
   case rel =>
    obtain ⟨v1,v2,v3,v4⟩:=HV.out
    exact ⟨A,A',_,_,_,_,_,_,rfl,rfl,hx,hy,by omega,by omega,⟨v1,v2,by rw [v3,v4]⟩,_,_,rfl⟩
  case rest =>
   obtain ⟨P,Q,nP,cP,nQ,cQ,X,Y,rfl,rfl,hP,hQ,h1,h2,hXY,o,kd,rfl⟩:=hcut
   have hmk:∀W:World,(Instr.makeSlice 23 (.int .i64 ((nP:Int)+1)) (.int .i64 ((nP:Int)+1))).run Tryz.prog W=.ok (.slice (some ⟨W.heap.size,0,none⟩) (nP+1) (nP+1)) (W.alloc (.cells (u32s (List.replicate (nP+1) 0)).toArray 52)):=
    fun W=>run_make_u32 (nP+1) (by omega) W
   have hB2:Below w.heap.size w (w.alloc o):=hB1 o
   have HP:=Lib.hid hP
   have HQ2:=Lib.hid hQ
   clear hP hQ h h' hA hA' hAd hAd' hB1 cut1 cut2 HX HY hx hy HV hlx hly HQ hm hm' hc hc' HL hlong'
   go_wp2
   go_loopw [7,8,9,35] (fun cv _ _ i wr=>∃(k cc:Nat) (L:List Nat),k≤nP∧i=.int .i64 k∧cv=.int .u32 cc∧cc≤1∧Blk wr (w.heap.size+1) L ∧
    Hid (L.length=nP+1∧val (L.take k)+cc*4294967296^k=val (X.take k)+val (Y.take k))∧Below w.heap.size w wr) (fun _ _ _ i _=>nP - (intOf i).toNat)
   case atStart=>exact ⟨0,0,List.replicate (nP+1) 0,by omega,rfl,rfl,by omega,by
    have:=Blk.made ((w.alloc o).drewN kd) (nP+1)
    simpa using this,⟨by simp,by simp⟩,(below_drewN hB2 kd).alloc (by simp) _⟩
   case round =>
    obtain ⟨k,cc,L,hk,rfl,rfl,hcc,hL,hI,hb⟩:=hrel
    have hlen:=hI.out.1
    by_cases hkn:k<nP
    ·have hXl:k<X.length:=by rw [hXY.out.1];exact hkn
     obtain ⟨b,o',rfl,hcx⟩:=(HP.out.below hb).cell hXl
     have hx32:=HP.out.1.getD k
     have hcl:=hL.cell (i:=k) (by omega)
     have hfz:=hL.frozen k
     clear hlen hXl
     by_cases hkq:k<nQ
     ·have hYl:k<Y.length:=by rw [hXY.out.2.1];exact hkq
      obtain ⟨b2,o2,rfl,hcy⟩:=(HQ2.out.below hb).cell hYl
      have hy32:=HQ2.out.1.getD k
      clear hYl
      obtain ⟨x,hgx⟩:∃x,X.getD k 0=x:=⟨_,rfl⟩
      obtain ⟨y,hgy⟩:∃y,Y.getD k 0=y:=⟨_,rfl⟩
      rw [hgx] at hcx hx32
      rw [hgy] at hcy hy32
      have HGX:=Lib.hid hgx;clear hgx
      have HGY:=Lib.hid hgy;clear hgy
      go_wp2_with (go_at_call 117;refine (add32_any _ _ _ (by omega) (by omega) (by omega) (by omega) (by omega) (by omega) _).mono ?_;rintro e w' ⟨rfl,rfl⟩)
      go_roundw
      case rel =>
       obtain ⟨hlen,hv⟩:=hI.out
       exact ⟨k+1,(x+y+cc) / 4294967296,L.set k ((x+y+cc)%4294967296),by omega,by go_num,by go_num,by omega,hL.setI k (by omega) (by omega) (by omega),
        ⟨by rw [List.length_set];exact hlen,add_step L X Y k cc _ _ (by omega) hv (by rw [HGX.out,HGY.out];omega)⟩,hb.setCell (by simp) _⟩
      case measure=>simp [intOf];omega
     ·have hgy:Y.getD k 0=0:=getD_ge Y (by rw [hXY.out.2.1];omega)
      obtain ⟨x,hgx⟩:∃x,X.getD k 0=x:=⟨_,rfl⟩
      rw [hgx] at hcx hx32
      have HGX:=Lib.hid hgx;clear hgx
      have HGY:=Lib.hid hgy;clear hgy
      go_wp2_with (go_at_call 117;refine (add32_any _ _ _ (by omega) (by omega) (by omega) (by omega) (by omega) (by omega) _).mono ?_;rintro e w' ⟨rfl,rfl⟩)
      go_roundw
      case rel =>
       obtain ⟨hlen,hv⟩:=hI.out
       exact ⟨k+1,(x+cc) / 4294967296,L.set k ((x+cc)%4294967296),by omega,by go_num,by go_num,by omega,hL.setI k (by omega) (by omega) (by omega),
        ⟨by rw [List.length_set];exact hlen,add_step L X Y k cc _ _ (by omega) hv (by rw [HGX.out,HGY.out];omega)⟩,hb.setCell (by simp) _⟩
      case measure=>simp [intOf];omega
    ·obtain rfl:k=nP:=by omega
     have hcl:=hL.cell (i:=k) (by omega)
     have hfz:=hL.frozen k
     clear hlen
     have hcc0:(cc:Int)<4294967296:=by omega
     go_wp2_with fail
     refine (fit_any (w.heap.size+1) (k+1) (k+1) (L.set k cc) _ (hL.set k (by omega)) (by rw [List.length_set];exact hI.out.1) (Nat.le_refl _) (by omega)).mono ?_
     rintro e w' ⟨A1,rfl,ho,rfl⟩
     have hv:val (L.set k cc)=val xs+val ys:=by
      obtain ⟨hlen,hv⟩:=hI.out
      obtain ⟨h1,h2,h3⟩:=hXY.out
      rw [←h3,←List.take_of_length_le (l:=L.set k cc) (i:=k+1) (by rw [List.length_set];omega),val_take_set L k cc (by omega),Nat.mul_comm,hv,
       List.take_of_length_le (by omega),List.take_of_length_le (by omega)]
     rw [hv] at ho ⊢
     have HO:=Lib.hid ho
     clear hv ho
     go_wp2
     go_ret2
     exact ⟨_,A1,by omega,rfl,HO.out,hb.setCell (by simp) _⟩
end Go.Proofs.YtigmpifjcijdbaaGreatDoor
end

section
namespace Go.Proofs.YtigmpifjcijdbaaGreatDoor
set_option linter.unusedVariables false
set_option linter.unusedSimpArgs false
open Go.RowKit Verge
theorem grownBy_refl (w:World) (row:Option Nat):w.grownBy w row:=⟨rfl,rfl,rfl,Nat.le_refl _,fun _ _ _=>rfl⟩
theorem grownBy_trans {a b c:World} {row:Option Nat} (h:a.grownBy b row) (k:b.grownBy c row):a.grownBy c row:=
 ⟨k.os.trans h.os,k.tape.trans h.tape,k.output.trans h.output,Nat.le_trans h.size k.size,fun i hi hne=>(k.block i (Nat.lt_of_lt_of_le hi h.size) hne).trans (h.block i hi hne)⟩
theorem grownBy_set {a w:World} {g:Nat} (h:a.grownBy w (some g)) (i:Nat) (u:Value):a.grownBy (w.setCell ⟨g,i,none⟩ u) (some g):=
 grownBy_trans h ⟨rfl,rfl,rfl,by simp [World.setCell],fun k hk hne=>Below.heap_setCell w _ u k (by rintro rfl;exact hne rfl)⟩
theorem grownBy_drewN {a w:World} {row:Option Nat} (h:a.grownBy w row) (n:Nat):a.grownBy (w.drewN n) row:=⟨h.os,h.tape,h.output,h.size,h.block⟩
theorem grownBy_alloc {a w:World} {row:Option Nat} (h:a.grownBy w row) (o:Obj):a.grownBy (w.alloc o) row:=grownBy_trans h (World.grownBy_alloc w o row)
theorem grownBy_below {a w:World} {row:Option Nat} (h:Below a.heap.size a w):a.grownBy w row:=⟨h.os,h.tape,h.output,h.size,fun i hi _=>h.block i hi⟩
end Go.Proofs.YtigmpifjcijdbaaGreatDoor
namespace Go.Proofs.YtigmpifjcijdbaaGreatDoor
set_option linter.unusedVariables false
set_option linter.unusedSimpArgs false
open Go.RowKit Verge
set_option maxHeartbeats 1000000 in
theorem shift_any (A:Option Addr) (n c:Nat) (X:List Nat) (s:Nat) (w:World) (h:Rd w A X) (hn:X.length=n) (hm:n≤70368744177663) (hs:s<32) :
  Calls Tryz.prog 111 #[.slice A n c,.int .i64 (s:Int)] w fun e w'=>e=.returned (.slice (some ⟨w.heap.size,0,none⟩) (n+1) (n+1)) ∧
   ∃L,Blk w' w.heap.size L∧L.length=n+1∧val L=val X*2^s∧Below w.heap.size w w':=by
 have hmk:∀W:World,(Instr.makeSlice 23 (.int .i64 ((n:Int)+1)) (.int .i64 ((n:Int)+1))).run Tryz.prog W=.ok (.slice (some ⟨W.heap.size,0,none⟩) (n+1) (n+1)) (W.alloc (.cells (u32s (List.replicate (n+1) 0)).toArray 52)):=
  fun W=>run_make_u32 (n+1) (by omega) W
 have hR1:=Lib.hid (fun W (hb:Below w.heap.size w W)=>h.below hb)
 have HN:=Lib.hid hn
 clear h hn
 have h2s:2^s≤2147483648:=by
  have:=Nat.pow_le_pow_right (n:=2) (by omega) (show s≤31 by omega)
  simpa using this
 go_enter Tryz.func111,Tryz.ntmps111
 go_wp2
 go_loopw [6,7,8,15] (fun cv _ _ iv wr=>∃(i cc:Nat) (L:List Nat),i≤n∧iv=.int .i64 i∧cv=.int .u64 cc∧cc<2147483648∧Blk wr w.heap.size L ∧
  Hid (cc<2^s∧L.length=n+1∧val (L.take i)+cc*4294967296^i=val (X.take i)*2^s)∧Below w.heap.size w wr) (fun _ _ _ iv _=>n - (intOf iv).toNat)
 case atStart=>exact ⟨0,0,List.replicate (n+1) 0,by omega,rfl,rfl,by omega,Blk.made w (n+1),⟨Nat.pow_pos (by omega),by simp,by simp⟩,(Below.refl _ w).alloc (Nat.le_refl _) _⟩
 case round =>
  obtain ⟨i,cc,L,hi,rfl,rfl,hcc,hL,hI,hb⟩:=hrel
  have hlen:=hI.out.2.1
  have hcl:=hL.cell (i:=i) (by omega)
  have hfz:=hL.frozen i
  clear hlen
  by_cases hin:i<n
  ·obtain ⟨b2,o2,rfl,hcx⟩:=(hR1.out _ hb).cell (k:=i) (by rw [HN.out];exact hin)
   have hx32:=(hR1.out _ hb).1.getD i
   obtain ⟨x,hgx⟩:∃x,X.getD i 0=x:=⟨_,rfl⟩
   rw [hgx] at hcx hx32
   have HGX:=Lib.hid hgx;clear hgx
   obtain ⟨q,hq⟩:∃q,x*2^s=q:=⟨_,rfl⟩
   have hqb:q≤4294967295*2147483648:=by rw [←hq];exact Nat.mul_le_mul (by omega) h2s
   have hw1:IntKind.u64.wrap ((x:Int)*2^s)=(q:Int):=by
    rw [show ((x:Int)*2^s)=((x*2^s:Nat):Int) by simp,hq,IntKind.wrap_u64];omega
   have hw2:bits .or .u64 (cc:Int) (q:Int)=((cc:Int)+(q:Int)):=by
    rw [or_u64 cc q s hI.out.1 (by rw [←hq];exact Nat.mul_mod_left _ _) (by omega)];simp
   have HQ:=Lib.hid hq;clear hq
   go_wp2
   clear hw1 hw2
   go_roundw
   case rel =>
    obtain ⟨h1,h2,h3⟩:=hI.out
    have hq2:=HQ.out
    have hq3:q+2^s≤4294967296*2^s:=by
     rw [←hq2,←Nat.succ_mul];exact Nat.mul_le_mul_right _ (by omega)
    exact ⟨i+1,(cc+q) / 4294967296,L.set i ((cc+q)%4294967296),by omega,by go_num,by congr 1,by omega,hL.setI i (by omega) (by omega) (by omega),
     ⟨by rw [Nat.div_lt_iff_lt_mul (by omega)];omega,by rw [List.length_set];exact h2,shift_step L X i cc x s _ _ (by omega) HGX.out h3 (by rw [hq2];omega)⟩,hb.setCell (Nat.le_refl _) _⟩
   case measure=>simp [intOf];omega
  ·obtain rfl:i=n:=by omega
   go_wp2
   go_ret
   obtain ⟨h1,h2,h3⟩:=hI.out
   have hv:val (L.set i cc)=val X*2^s:=by
    rw [←List.take_of_length_le (l:=L.set i cc) (i:=i+1) (by rw [List.length_set];omega),val_take_set L i cc (by omega),Nat.mul_comm (_^_),h3,
     List.take_of_length_le (by rw [HN.out];omega)]
   exact ⟨rfl,L.set i cc,hL.setI i (by omega) (by omega) (by omega),by rw [List.length_set];exact h2,hv,hb.setCell (Nat.le_refl _) _⟩
set_option maxHeartbeats 1000000 in
theorem back_any (g nl cl:Nat) (L:List Nat) (s:Nat) (w:World) (hL:Blk w g L) (hl:nl≤L.length) (hc:nl≤cl) (hm:cl≤70368744177663) (hs:s<32) :
  Calls Tryz.prog 114 #[.slice (some ⟨g,0,none⟩) nl cl,.int .i64 (s:Int)] w fun e w'=>∃A,e=.returned (.slice A (dig (val (L.take nl) / 2^s)).length (dig (val (L.take nl) / 2^s)).length) ∧
   Own w' g A (dig (val (L.take nl) / 2^s))∧w.grownBy w' (some g):=by
 obtain ⟨T,hT⟩:∃T,L.take nl=T:=⟨_,rfl⟩
 have hT32:W32 T:=by rw [←hT];exact hL.1.take nl
 have hTl:T.length=nl:=by rw [←hT,List.length_take];omega
 have hTg:∀k,k<nl→L.getD k 0=T.getD k 0:=fun k hk=>by rw [←hT,getD_take _ _ _ hk]
 have hTz:T.getD nl 0=0:=getD_ge T (by omega)
 rw [hT]
 obtain ⟨N,hN⟩:∃N,val T=N:=⟨_,rfl⟩
 have HT:=Lib.hid (And.intro hT32 (And.intro hTl (And.intro hTg (And.intro hTz hN))))
 rw [hN]
 have HL:=Lib.hid hL
 have h2s:0<2^s:=Nat.pow_pos (by omega)
 clear hT hT32 hTl hTg hTz hN hL
 go_enter Tryz.func114,Tryz.ntmps114
 go_wp2
 go_loopw [5,6,9] (fun _ _ iv wr=>∃(i:Nat) (L':List Nat),i≤nl∧iv=.int .i64 i∧Blk wr g L' ∧
  Hid (L'.length=L.length∧val (L'.take i)=N / 2^s%4294967296^i∧L'.drop i=L.drop i)∧w.grownBy wr (some g)) (fun _ _ iv _=>nl - (intOf iv).toNat)
 case atStart=>exact ⟨0,L,by omega,rfl,HL.out,⟨rfl,by simp [Nat.mod_one],rfl⟩,grownBy_refl _ _⟩
 case round =>
  obtain ⟨i,L',hi,rfl,hL',hI,hG⟩:=hrel
  have hlen:=hI.out.1
  by_cases hin:i<nl
  ·have hcl:=hL'.cell (i:=i) (by omega)
   have hfz:=hL'.frozen i
   have hx32:=hL'.1.getD i
   obtain ⟨x,hgx⟩:∃x,L'.getD i 0=x:=⟨_,rfl⟩
   rw [hgx] at hcl hx32
   have hxT:T.getD i 0=x:=by
    rw [←HT.out.2.2.1 i hin,←hgx]
    have h1:=getD_drop L' i 0
    have h2:=getD_drop L i 0
    rw [Nat.add_zero] at h1 h2
    rw [←h1,←h2,hI.out.2.2]
   have HGX:=Lib.hid (And.intro hgx hxT);clear hgx hxT
   by_cases hin1:i+1<nl
   ·have hcl2:=hL'.cell (i:=i+1) (by omega)
    have hy32:=hL'.1.getD (i+1)
    obtain ⟨y,hgy⟩:∃y,L'.getD (i+1) 0=y:=⟨_,rfl⟩
    rw [hgy] at hcl2 hy32
    have hyT:T.getD (i+1) 0=y:=by
     rw [←HT.out.2.2.1 (i+1) hin1,←hgy]
     have h1:=getD_drop L' i 1
     have h2:=getD_drop L i 1
     rw [←h1,←h2,hI.out.2.2]
    have HGY:=Lib.hid (And.intro hgy hyT);clear hgy hyT hlen
    go_wp2
    go_roundw
    case rel =>
     obtain ⟨h1,h2,h3⟩:=hI.out
     have e:bits .or .u64 (x:Int) ((y:Int)*4294967296) / 2^s%4294967296=(((x+4294967296*y) / 2^s%4294967296:Nat):Int):=by rw [or_hi x y hx32 hy32];simp
     rw [e]
     have hst:=back_step L' T HT.out.1 i s ((x+4294967296*y) / 2^s%4294967296) (by omega) (by omega) (by rw [HGX.out.2,HGY.out.2]) (by rw [HT.out.2.2.2.2];exact h2)
     exact ⟨i+1,L'.set i ((x+4294967296*y) / 2^s%4294967296),by omega,by go_num,hL'.set i (Nat.mod_lt _ (by omega)),
      ⟨by rw [List.length_set];exact h1,by rw [←HT.out.2.2.2.2];exact hst,by
       rw [drop_set_gt L' i (i+1) _ (by omega)]
       have:=congrArg (List.drop 1) h3
       rwa [List.drop_drop,List.drop_drop] at this⟩,grownBy_set hG _ _⟩
    case measure=>simp [intOf];omega
   ·obtain rfl:nl=i+1:=by omega
    clear hlen
    go_wp2
    go_roundw
    case rel =>
     obtain ⟨h1,h2,h3⟩:=hI.out
     have e:(x:Int) / 2^s%4294967296=((x / 2^s%4294967296:Nat):Int):=by simp
     rw [e]
     have hst:=back_step L' T HT.out.1 i s (x / 2^s%4294967296) (by omega) (by omega) (by rw [HGX.out.2,HT.out.2.2.2.1];simp) (by rw [HT.out.2.2.2.2];exact h2)
     exact ⟨i+1,L'.set i (x / 2^s%4294967296),by omega,by go_num,hL'.set i (Nat.mod_lt _ (by omega)),
      ⟨by rw [List.length_set];exact h1,by rw [←HT.out.2.2.2.2];exact hst,by
       rw [drop_set_gt L' i (i+1) _ (by omega)]
       have:=congrArg (List.drop 1) h3
       rwa [List.drop_drop,List.drop_drop] at this⟩,grownBy_set hG _ _⟩
    case measure=>simp [intOf]
  ·obtain rfl:i=nl:=by omega
   have hv:val (L'.take i)=N / 2^s:=by
    rw [hI.out.2.1]
    apply Nat.mod_eq_of_lt
    have h1:=val_lt HT.out.1
    rw [HT.out.2.1,HT.out.2.2.2.2] at h1
    exact Nat.lt_of_le_of_lt (Nat.div_le_self _ _) h1
   have hR:=hL'.rd.take i
   have hlt:(L'.take i).length=i:=by rw [List.length_take];omega
   have hw:=wl_le (L'.take i)
   have ho:=hL'.own (wl (L'.take i)) (by omega)
   have hd:L'.take (wl (L'.take i))=dig (N / 2^s):=by
    rw [←hv,dig_val (hL'.1.take i),norm,List.take_take,Nat.min_eq_left (by omega)]
   have hwl:wl (L'.take i)=(dig (N / 2^s)).length:=by rw [wl_eq (hL'.1.take i),hv]
   rw [hd] at ho
   have HR:=Lib.hid (And.intro hR (And.intro hlt (And.intro hwl ho)))
   clear hR hlt hwl ho hd hw hlen hv
   go_wp2_with fail
   refine (cut_any _ i cl (L'.take i) _ HR.out.1 HR.out.2.1 hc (by omega)).mono ?_
   rintro e w' ⟨rfl,rfl⟩
   rw [HR.out.2.2.1]
   go_wp2
   go_ret
   exact ⟨_,rfl,HR.out.2.2.2,hG⟩
end Go.Proofs.YtigmpifjcijdbaaGreatDoor
end
