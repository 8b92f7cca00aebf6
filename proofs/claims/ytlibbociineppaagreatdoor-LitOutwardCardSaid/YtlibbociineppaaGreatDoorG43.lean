/- Layer 12, plain: what a literal of two numerals in brackets is read as. -/
import Derived.Test.YtlibbociineppaaGreatDoorG34
namespace Go.Proofs.YtlibbociineppaaGreatDoor
set_option linter.unusedVariables false
set_option linter.unusedSimpArgs false
open Go.RowKit Verge Verge.Lit
theorem run_ndl:∀(s:List UInt8) (n t:Nat),frm (run n s)=.ok t→∀c∈s,ndl c=true
 | [],n,t,h,c,hc=>by simp at hc
 | a::s,n,t,h,c,hc=>by
  rw [run] at h
  by_cases hn:nx n a=18
  ·rw [if_pos hn] at h
   unfold frm at h
   rw [if_neg (by simp)] at h
   cases h
  ·rw [if_neg hn] at h
   rcases List.mem_cons.1 hc with rfl | hc
   ·by_cases e:ndl c=true
    ·exact e
    ·exact absurd (nx_delim (by simpa using e) n) hn
   ·exact run_ndl s _ t h c hc
theorem cut_frm {s:List UInt8} {x:Bool×Pc} (h:cut s=.ok x):∃t,frm (run 0 s)=.ok t:=by
 cases hf:frm (run 0 s) with
 | ok t=>exact ⟨t,rfl⟩
 | error k=>rw [(frm_agree s).1 hf] at h;cases h
theorem nx0_head {c:UInt8} (h:nx 0 c≠18):c.toNat=43∨c.toNat=45∨c.toNat=46∨(48≤c.toNat∧c.toNat≤57):=by
 unfold nx at h
 rw [if_pos (.inl rfl)] at h
 by_cases hs:isS c=true
 ·have:=isS_iff.1 hs;omega
 ·by_cases hd:isD c=true
  ·have:=isD_iff.1 hd;omega
  ·rw [if_neg (fun e=>hs e.2)] at h
   by_cases h48:c.toNat=48
   ·omega
   ·rw [if_neg h48,if_neg hd] at h
    by_cases h46:c.toNat=46
    ·omega
    ·rw [if_neg h46] at h;exact absurd rfl h
theorem num_head {s:List UInt8} {x:Bool×Pc} (h:cut s=.ok x):∃c r,s=c::r∧(c.toNat=43∨c.toNat=45∨c.toNat=46∨(48≤c.toNat∧c.toNat≤57))∧((c.toNat=43∨c.toNat=45)→∃e u,r=e::u∧(e.toNat=46∨(48≤e.toNat∧e.toNat≤57))):=by
 obtain ⟨t,ht⟩:=cut_frm h
 cases s with
 | nil=>cases h
 | cons c r =>
  have hn:nx 0 c≠18:=by
   intro e
   rw [run_stop e] at ht
   unfold frm at ht
   rw [if_neg (by simp)] at ht
   cases ht
  refine ⟨c,r,rfl,nx0_head hn,fun hs => ?_⟩
  have h1:nx 0 c=1:=by
   unfold nx
   rw [if_pos (.inl rfl),if_pos ⟨rfl,isS_iff.2 hs⟩]
  rw [run_go h1 (by decide)] at ht
  cases r with
  | nil=>unfold frm run at ht;rw [if_neg (by simp [endS])] at ht;cases ht
  | cons e u =>
   refine ⟨e,u,rfl,?_⟩
   have hn1:nx 1 e≠18:=by
    intro h18
    rw [run_stop h18] at ht
    unfold frm at ht
    rw [if_neg (by simp)] at ht
    cases ht
   unfold nx at hn1
   rw [if_pos (.inr rfl),if_neg (by simp)] at hn1
   by_cases hd:isD e=true
   ·exact .inr (isD_iff.1 hd)
   ·by_cases h48:e.toNat=48
    ·omega
    ·rw [if_neg h48,if_neg hd] at hn1
     by_cases h46:e.toNat=46
     ·exact .inl h46
     ·rw [if_neg h46] at hn1;exact absurd rfl hn1
theorem scn_cuts {s:List UInt8} {x:Bool×Nat×Nat×Int} (h:scn s=.ok x):∃y,cut s=.ok y∧nlt s=none:=by
 unfold scn at h
 split at h
 ·cases h
 ·split at h
  ·cases h
  ·rename_i n p hc
   split at h
   ·cases h
   ·rename_i hl
    exact ⟨_,hc,nlt_none hc hl⟩
theorem take_ndl {s:List UInt8} (h:∀c∈s,ndl c=true) (d:UInt8) (hd:ndl d=false) (u:List UInt8):(s++d::u).takeWhile ndl=s∧(s++d::u).dropWhile ndl=d::u:=by
 induction s with
 | nil=>exact ⟨List.takeWhile_cons_of_neg (by simp [hd]),List.dropWhile_cons_of_neg (by simp [hd])⟩
 | cons c s ih =>
  have hc:=h c List.mem_cons_self
  have:=ih fun e he=>h e (List.mem_cons_of_mem _ he)
  rw [List.cons_append,List.takeWhile_cons_of_pos hc,List.dropWhile_cons_of_pos hc,this.1,this.2]
  exact ⟨rfl,rfl⟩
theorem numL_of {s:List UInt8} {x:Bool×Pc} (h:cut s=.ok x) (d:UInt8) (hd:ndl d=false) (u:List UInt8):numL (s++d::u)=.ok (s,d::u):=by
 obtain ⟨t,ht⟩:=cut_frm h
 obtain ⟨e1,e2⟩:=take_ndl (run_ndl s 0 t ht) d hd u
 unfold numL
 rw [e1,e2,h]
theorem lo_low {c:UInt8} (h:c.toNat≤64):lo c=c.toNat:=by unfold lo;rw [if_neg (by omega)]
end Go.Proofs.YtlibbociineppaaGreatDoor
