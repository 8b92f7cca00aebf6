/- Layer 5: the document's letters: digit, hex, value, the table of states, find, behind, exponent. -/
import Derived.Test.YtigmpifjcijdbaaGreatDoorG03
import Derived.Test.YtigmpifjcijdbaaGreatDoorG04
import Derived.Laws.DeepStrings4
section
namespace Go.Proofs.YtigmpifjcijdbaaGreatDoor
set_option linter.unusedVariables false
set_option linter.unusedSimpArgs false
open Go.RowKit Verge
theorem ret_bool {a b:Bool} (h:a=b):Ending.returned (.bool a)=.returned (.bool b):=by rw [h]
theorem digit5_any (c:UInt8) (w:World):Calls Tryz.prog 32 #[.int .u8 (c.toNat:Int)] w fun e w'=>e=.returned (.bool (isD c))∧w=w':=by
 go_enter Tryz.func32,Tryz.ntmps32
 go_wp2
 all_goals
  go_ret
  refine ⟨ret_bool ?_,rfl⟩
  unfold isD
  rw [Bool.eq_iff_iff];simp <;> omega
theorem hex5_any (c:UInt8) (w:World):Calls Tryz.prog 38 #[.int .u8 (c.toNat:Int)] w fun e w'=>e=.returned (.bool (isX c))∧w=w':=by
 have H:=Lib.hid (fun W=>digit5_any c W)
 by_cases hd:isD c=true
 ·rw [hd] at H
  have hx:isX c=true:=isX_D hd
  go_enter Tryz.func38,Tryz.ntmps38
  go_wp2_with (go_at_call 32;refine (H.out _).mono ?_;rintro e w1 ⟨rfl,rfl⟩)
  go_ret
  exact ⟨ret_bool hx.symm,rfl⟩
 ·have hd':isD c=false:=by simpa using hd
  rw [hd'] at H
  have hx:isX c=(decide (97≤c.toNat∧c.toNat≤102)||decide (65≤c.toNat∧c.toNat≤70)):=by unfold isX;rw [hd'];simp
  have HX:=Lib.hid hx
  clear hx hd hd'
  go_enter Tryz.func38,Tryz.ntmps38
  go_wp2_with (go_at_call 32;refine (H.out _).mono ?_;rintro e w1 ⟨rfl,rfl⟩)
  all_goals
   go_ret
   refine ⟨ret_bool ?_,rfl⟩
   rw [HX.out,Bool.eq_iff_iff];simp <;> omega
theorem ret_st {x:Int} {b:Nat} (h:b=x.toNat) (h0:0≤x):Ending.returned (.int .i64 x)=.returned (.int .i64 (b:Int)):=by rw [h,Int.toNat_of_nonneg h0]
set_option maxHeartbeats 4000000 in
theorem nextH_any (s:Nat) (hs:s≤18) (c:UInt8) (w:World):Calls Tryz.prog 33 #[.int .i64 (s:Int),.int .u8 (c.toNat:Int)] w fun e w'=>e=.returned (.int .i64 (nxH s c:Nat))∧w=w':=by
 have HD:=Lib.hid (fun W=>digit5_any c W)
 have HX:=Lib.hid (fun W=>hex5_any c W)
 have hcl:(isD c=true∧isX c=true)∨(isD c=false∧isX c=true)∨(isD c=false∧isX c=false):=by
  cases h1:isD c
  ·cases h2:isX c
   ·exact .inr (.inr ⟨rfl,rfl⟩)
   ·exact .inr (.inl ⟨rfl,rfl⟩)
  ·exact .inl ⟨rfl,isX_D h1⟩
 have hst:s≤10∨s=11∨s=12∨s=13∨s=14∨s=15∨s=16∨s=17∨s=18:=by omega
 rcases hcl with ⟨hd,hx⟩ | ⟨hd,hx⟩ | ⟨hd,hx⟩
 all_goals
  rw [hd] at HD
  rw [hx] at HX
  have HC:=Lib.hid (And.intro hd hx)
  clear hd hx
  rcases hst with h | rfl | rfl | rfl | rfl | rfl | rfl | rfl | rfl
  ·have hI:(s:Int)≤10:=by omega
   have HI:=Lib.hid h
   clear h hs
   go_enter Tryz.func33,Tryz.ntmps33
   go_wp2
   go_ret
   refine ⟨?_,rfl⟩
   have:=HI.out
   unfold nxH
   rw [if_neg (by omega),if_neg (by omega),if_neg (by omega),if_neg (by omega)]
   rfl
  all_goals
   clear hs
   go_enter Tryz.func33,Tryz.ntmps33
   go_wp2_with (first | (go_at_call 32;refine (HD.out _).mono ?_;rintro e w1 ⟨rfl,rfl⟩) | (go_at_call 38;refine (HX.out _).mono ?_;rintro e w1 ⟨rfl,rfl⟩))
   all_goals
    go_ret
    refine ⟨ret_st ?_ (by decide),rfl⟩
    obtain ⟨hd,hx⟩:=HC.out
    have hd0:=isD_iff (c:=c)
    have hx0:=isX_iff (c:=c)
    rw [hd] at hd0
    rw [hx] at hx0
    simp [nxH,hd,hx,isS]
    repeat' split
    all_goals (try simp only [Int.toNat_ofNat] at *)
    all_goals (try simp)
    all_goals (try simp only [beq_iff_eq,beq_eq_false_iff_ne,ne_eq] at *)
    all_goals (try first | omega | (intros;omega) | (constructor <;> omega))
end Go.Proofs.YtigmpifjcijdbaaGreatDoor
end

section
namespace Go.Proofs.YtigmpifjcijdbaaGreatDoor
set_option linter.unusedVariables false
set_option linter.unusedSimpArgs false
open Go.RowKit Verge
theorem nextH_low (k z:Int) (h0:0≤k) (h1:k≤10) (z0:0≤z) (z1:z≤255) (w:World):Calls Tryz.prog 33 #[.int .i64 k,.int .u8 z] w fun e w'=>e=.returned (.int .i64 18)∧w=w':=by
 obtain ⟨s,rfl⟩:=Int.eq_ofNat_of_zero_le h0
 obtain ⟨n,rfl⟩:=Int.eq_ofNat_of_zero_le z0
 have hn:(UInt8.ofNat n).toNat=n:=by simp;omega
 have:=nextH_any s (by omega) (UInt8.ofNat n) w
 rw [hn] at this
 refine this.mono ?_
 rintro e w1 ⟨rfl,rfl⟩
 refine ⟨?_,rfl⟩
 unfold nxH
 rw [if_neg (by omega),if_neg (by omega),if_neg (by omega),if_neg (by omega)]
 rfl
theorem digit_lit (n:Nat) (hn:n≤255) (b:Bool) (hb:decide (48≤n∧n≤57)=b) (w:World):Calls Tryz.prog 32 #[.int .u8 (n:Int)] w fun e w'=>e=.returned (.bool b)∧w=w':=by
 have h:(UInt8.ofNat n).toNat=n:=by simp;omega
 have:=digit5_any (UInt8.ofNat n) w
 rw [h] at this
 unfold isD at this
 rw [h,hb] at this
 exact this
set_option maxRecDepth 100000 in
set_option maxHeartbeats 8000000 in
theorem next5_lit (s n:Nat) (hs:s=0∨s=1∨s=2∨s=3∨s=4∨s=5∨s=6∨s=7∨s=8∨s=9∨s=10) (hn:n=43∨n=45∨n=48∨n=46∨n=120∨n=88∨n=101∨n=69∨n=47) (w:World) :
    Calls Tryz.prog 13 #[.int .i64 (s:Int),.int .u8 (n:Int)] w fun e w'=>e=.returned (.int .i64 (nx s (UInt8.ofNat n):Nat))∧w=w':=by
  have HD:=Lib.hid (fun W=>digit_lit n (by omega) _ rfl W)
  rcases hs with rfl | rfl | rfl | rfl | rfl | rfl | rfl | rfl | rfl | rfl | rfl <;>
  rcases hn with rfl | rfl | rfl | rfl | rfl | rfl | rfl | rfl | rfl <;>
  (go_enter Tryz.func13,Tryz.ntmps13
   go_wp2_with (first | (go_at_call 32;refine (HD.out _).mono ?_;rintro e w1 ⟨rfl,rfl⟩) | (go_at_call 33;(with_reducible refine (nextH_low _ _ (by decide) (by decide) (by decide) (by decide) _).mono ?_);rintro e w1 ⟨rfl,rfl⟩))
   go_ret
   exact ⟨rfl,rfl⟩)
set_option maxRecDepth 100000 in
set_option maxHeartbeats 8000000 in
theorem next5_other (s:Nat) (hs:s=0∨s=1∨s=2∨s=3∨s=4∨s=5∨s=6∨s=7∨s=8∨s=9∨s=10) (c:UInt8) (hn:¬(c.toNat=43∨c.toNat=45∨c.toNat=48∨c.toNat=46∨c.toNat=120∨c.toNat=88∨c.toNat=101∨c.toNat=69∨c.toNat=47)) (w:World) :
    Calls Tryz.prog 13 #[.int .i64 (s:Int),.int .u8 (c.toNat:Int)] w fun e w'=>e=.returned (.int .i64 (nx s c:Nat))∧w=w':=by
  have HD:=Lib.hid (fun W=>digit5_any c W)
  have hcb:(c.toNat:Int)≤255:=by have:=c.toNat_lt;omega
  have n1:¬c.toNat=43:=by omega
  have n2:¬c.toNat=45:=by omega
  have n3:¬c.toNat=48:=by omega
  have n4:¬c.toNat=46:=by omega
  have n5:¬c.toNat=120:=by omega
  have n6:¬c.toNat=88:=by omega
  have n7:¬c.toNat=101:=by omega
  have n8:¬c.toNat=69:=by omega
  have n9:¬c.toNat=47:=by omega
  have hnx:nx s c=if s=0∨s=1∨s=2∨s=3 then (if isD c then 3 else 18) else if s=4∨s=5 then (if isD c then 5 else 18) else if s=6∨s=7∨s=8 then (if isD c then 8 else 18) else (if isD c then 10 else 18):=by
    have hS:isS c=false:=by unfold isS;simp [n1,n2]
    rcases hs with rfl | rfl | rfl | rfl | rfl | rfl | rfl | rfl | rfl | rfl | rfl <;> simp [nx,hS,n3,n4,n5,n6,n7,n8,n9]
  rw [hnx]
  have e1:((c.toNat:Int)==43)=false:=by simpa using (by omega:¬(c.toNat:Int)=43)
  have e2:((c.toNat:Int)==45)=false:=by simpa using (by omega:¬(c.toNat:Int)=45)
  have e3:((c.toNat:Int)==48)=false:=by simpa using (by omega:¬(c.toNat:Int)=48)
  have e4:((c.toNat:Int)==46)=false:=by simpa using (by omega:¬(c.toNat:Int)=46)
  have e5:((c.toNat:Int)==120)=false:=by simpa using (by omega:¬(c.toNat:Int)=120)
  have e6:((c.toNat:Int)==88)=false:=by simpa using (by omega:¬(c.toNat:Int)=88)
  have e7:((c.toNat:Int)==101)=false:=by simpa using (by omega:¬(c.toNat:Int)=101)
  have e8:((c.toNat:Int)==69)=false:=by simpa using (by omega:¬(c.toNat:Int)=69)
  have e9:((c.toNat:Int)==47)=false:=by simpa using (by omega:¬(c.toNat:Int)=47)
  clear hn n1 n2 n3 n4 n5 n6 n7 n8 n9 hnx
  cases hd:isD c <;> rw [hd] at HD <;> clear hd <;>
  rcases hs with rfl | rfl | rfl | rfl | rfl | rfl | rfl | rfl | rfl | rfl | rfl <;>
  (go_enter Tryz.func13,Tryz.ntmps13
   go_wp2_with (first | (go_at_call 32;refine (HD.out _).mono ?_;rintro e w1 ⟨rfl,rfl⟩) | (go_at_call 33;(with_reducible refine (nextH_low _ _ (by decide) (by decide) (by omega) (by omega) _).mono ?_);rintro e w1 ⟨rfl,rfl⟩))
   go_ret
   exact ⟨rfl,rfl⟩)
set_option maxRecDepth 100000 in
set_option maxHeartbeats 8000000 in
theorem next5_any (s:Nat) (hs:s≤18) (c:UInt8) (w:World):Calls Tryz.prog 13 #[.int .i64 (s:Int),.int .u8 (c.toNat:Int)] w fun e w'=>e=.returned (.int .i64 (nx s c:Nat))∧w=w':=by
  by_cases h:11≤s
  · have hnx:nx s c=nxH s c:=by
      unfold nx
      rw [if_neg (by omega),if_neg (by omega),if_neg (by omega),if_neg (by omega),if_neg (by omega),if_neg (by omega)]
    rw [hnx]
    have HN:=Lib.hid (fun W=>nextH_any s hs c W)
    have hst:s=11∨s=12∨s=13∨s=14∨s=15∨s=16∨s=17∨s=18:=by omega
    clear h hs hnx
    generalize nxH s c=r at *
    by_cases hn:c.toNat=43∨c.toNat=45
    · rcases hn with hn | hn <;> rw [hn] at HN ⊢ <;> clear hn <;>
      rcases hst with rfl | rfl | rfl | rfl | rfl | rfl | rfl | rfl <;>
      (go_enter Tryz.func13,Tryz.ntmps13
       go_wp2_with (go_at_call 33;refine (HN.out _).mono ?_;rintro e w1 ⟨rfl,rfl⟩)
       go_ret
       exact ⟨rfl,rfl⟩)
    · have e1:((c.toNat:Int)==43)=false:=by simpa using (by omega:¬(c.toNat:Int)=43)
      have e2:((c.toNat:Int)==45)=false:=by simpa using (by omega:¬(c.toNat:Int)=45)
      clear hn
      rcases hst with rfl | rfl | rfl | rfl | rfl | rfl | rfl | rfl <;>
      (go_enter Tryz.func13,Tryz.ntmps13
       go_wp2_with (go_at_call 33;refine (HN.out _).mono ?_;rintro e w1 ⟨rfl,rfl⟩)
       go_ret
       exact ⟨rfl,rfl⟩)
  · by_cases hn:c.toNat=43∨c.toNat=45∨c.toNat=48∨c.toNat=46∨c.toNat=120∨c.toNat=88∨c.toNat=101∨c.toNat=69∨c.toNat=47
    · have:=next5_lit s c.toNat (by omega) hn w
      rwa [UInt8.ofNat_toNat] at this
    · exact next5_other s (by omega) c hn w
theorem ends5_any (s:Nat) (w:World):Calls Tryz.prog 14 #[.int .i64 (s:Int)] w fun e w'=>e=.returned (.bool (endS s))∧w=w':=by
 go_enter Tryz.func14,Tryz.ntmps14
 go_wp2
 all_goals
  go_ret
  refine ⟨ret_bool ?_,rfl⟩
  unfold endS
  rw [Bool.eq_iff_iff]
  try simp only [beq_iff_eq,beq_eq_false_iff_ne,ne_eq] at *
  simp
  try omega
end Go.Proofs.YtigmpifjcijdbaaGreatDoor
end
