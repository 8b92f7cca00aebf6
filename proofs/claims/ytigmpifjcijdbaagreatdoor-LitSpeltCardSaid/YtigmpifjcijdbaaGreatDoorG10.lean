/- Layer 5: the document's find, behind, exponent, value. -/
import Derived.Test.YtigmpifjcijdbaaGreatDoorG05
import Derived.Test.YtigmpifjcijdbaaGreatDoorG09
namespace Go.Proofs.YtigmpifjcijdbaaGreatDoor
set_option linter.unusedVariables false
set_option linter.unusedSimpArgs false
open Go.RowKit Verge
theorem bs_at (l:List UInt8) (i:Nat) (c:UInt8) (h:l[i]?=some c):∀hi:i<(bs l).size,(bs l)[i]'hi=c:=by
 intro hi
 obtain ⟨h1,h2⟩:=List.getElem?_eq_some_iff.1 h
 show (bs l).data[i]=c
 rw [←h2]
 simp [bs]
theorem bs_sub (d:List UInt8) (i j:Nat):(bs d).extract i j=bs ((d.drop i).take (j - i)):=by
 apply ByteArray.ext
 simp [bs,ByteArray.data_extract,List.extract_toArray,List.extract_eq_take_drop]
def fndN (m l:List UInt8):Nat:=(l.takeWhile fun c => !m.contains c).length
def fnd (m l:List UInt8):Int:=if fndN m l<l.length then fndN m l else -1
theorem fndN_found {m l:List UInt8} {i:Nat} {c:UInt8} (h:∀k<i,∀d,l[k]?=some d→d∉m) (hc:l[i]?=some c) (hm:c∈m):fnd m l=i:=by
 have key:∀(l:List UInt8) (i:Nat),(∀k<i,∀d,l[k]?=some d→d∉m)→l[i]?=some c→fndN m l=i:=by
  intro l
  induction l with
  | nil=>intro i _ h;simp at h
  | cons x xs ih =>
   intro i h hc
   unfold fndN
   cases i with
   | zero =>
    simp at hc;subst hc
    rw [List.takeWhile_cons_of_neg (by simpa using hm)];rfl
   | succ i =>
    have hx:x∉m:=h 0 (by omega) x (by simp)
    rw [List.takeWhile_cons_of_pos (by simpa using hx),List.length_cons]
    have:=ih i (fun k hk d hd=>h (k+1) (by omega) d (by simpa using hd)) (by simpa using hc)
    unfold fndN at this
    rw [this]
 have hi:=(List.getElem?_eq_some_iff.1 hc).1
 unfold fnd
 rw [key l i h hc,if_pos hi]
theorem fnd_none {m l:List UInt8} (h:∀k<l.length,∀d,l[k]?=some d→d∉m):fnd m l = -1:=by
 have:l.takeWhile (fun c => !m.contains c)=l:=by
  have key:∀(q:UInt8→Bool) (l:List UInt8),(∀c∈l,q c=true)→l.takeWhile q=l:=by
   intro q l
   induction l with
   | nil=>intro _;rfl
   | cons x xs ih =>
    intro h
    rw [List.takeWhile_cons_of_pos (h x List.mem_cons_self),ih (fun c hc=>h c (List.mem_cons_of_mem _ hc))]
  apply key
  intro c hc
  obtain ⟨k,hk,he⟩:=List.getElem_of_mem hc
  have:=h k hk c (by rw [List.getElem?_eq_getElem hk,he])
  simpa using this
 unfold fnd fndN
 rw [this,if_neg (by omega)]
set_option maxHeartbeats 1000000 in
theorem find5_any (l m:List UInt8) (hl:l.length≤100000) (hm:m.length≤100) (w:World):Calls Tryz.prog 15 #[.string (bs l),.string (bs m)] w fun e w'=>e=.returned (.int .i64 (fnd m l))∧Below w.heap.size w w':=by
 obtain ⟨S,hS⟩:∃S,bs l=S:=⟨_,rfl⟩
 obtain ⟨M,hM⟩:∃M,bs m=M:=⟨_,rfl⟩
 have hs:S.size=l.length:=by rw [←hS];exact bs_size _
 have hms:M.size=m.length:=by rw [←hM];exact bs_size _
 have HSA:=Lib.hid (fun i c h=>(hS▸bs_at l i c h:∀hi:i<S.size,S[i]'hi=c))
 have HMA:=Lib.hid (fun i c h=>(hM▸bs_at m i c h:∀hi:i<M.size,M[i]'hi=c))
 rw [hS,hM]
 obtain ⟨L,hL⟩:∃L,l.length=L:=⟨_,rfl⟩
 obtain ⟨K,hK⟩:∃K,m.length=K:=⟨_,rfl⟩
 rw [hL] at hs hl
 rw [hK] at hms hm
 have HL:=Lib.hid hL
 have HK:=Lib.hid hK
 clear hS hM hL hK
 go_enter Tryz.func15,Tryz.ntmps15
 go_wp2
 go_loopw [5] (fun iv wr=>∃i:Nat,i≤L∧iv=.int .i64 (i:Int)∧Hid ((∀k<i,∀d,l[k]?=some d→d∉m)∧Below w.heap.size w wr)) (fun iv _=>L - (intOf iv).toNat)
 case atStart=>exact ⟨0,by omega,rfl,fun k hk=>by omega,Below.refl _ _⟩
 case round =>
  obtain ⟨i,hi,rfl,hI⟩:=hrel
  obtain ⟨wo,rfl⟩:∃wo:World,wo=wr:=⟨_,rfl⟩
  by_cases hlt:i<L
  ·have hltI:(i:Int)<(L:Int):=by omega
   obtain ⟨c,hc⟩:∃c,l[i]?=some c:=⟨_,List.getElem?_eq_getElem (by rw [HL.out];exact hlt)⟩
   have hcS:=HSA.out i c hc
   have HC:=Lib.hid hc
   clear hc
   go_wp2
   go_loopw [6] (fun jv wr=>∃j:Nat,j≤K∧jv=.int .i64 (j:Int)∧Hid ((∀k<j,∀d,m[k]?=some d→c≠d)∧Below w.heap.size w wr)) (fun jv _=>K - (intOf jv).toNat)
   case atStart=>exact ⟨0,by omega,rfl,fun k hk=>by omega,hI.out.2⟩
   case round =>
    obtain ⟨j,hj,rfl,hJ⟩:=hrel
    by_cases hjt:j<K
    ·have hjtI:(j:Int)<(K:Int):=by omega
     obtain ⟨d,hd⟩:∃d,m[j]?=some d:=⟨_,List.getElem?_eq_getElem (by rw [HK.out];exact hjt)⟩
     have hdM:=HMA.out j d hd
     have HD:=Lib.hid hd
     clear hd
     by_cases he:c=d
     ·subst he
      go_upto_region 7 with fail
      go_quiet (fail)
      go_wp2
      go_ret
      refine ⟨?_,below_drewN hJ.out.2 _⟩
      rw [fndN_found hI.out.1 HC.out (List.mem_of_getElem? HD.out)]
      rfl
     ·have hne:¬((c.toNat:Int)=(d.toNat:Int)):=fun e=>he (UInt8.toNat_inj.1 (by omega))
      have HE:=Lib.hid he
      clear he
      go_upto_region 7 with fail
      go_quiet (fail)
      go_wp2
      go_roundw
      case rel =>
       refine ⟨j+1,by omega,by go_num,fun k hk e h => ?_,below_drewN hJ.out.2 _⟩
       by_cases e1:k=j
       ·subst e1
        rw [HD.out] at h
        injection h with h
        rw [←h];exact HE.out
       ·exact hJ.out.1 k (by omega) e h
      case measure=>simp [intOf];omega
    ·go_wp2
     go_roundw
     case rel =>
      refine ⟨i+1,by omega,by go_num,fun k hk e h => ?_,hJ.out.2⟩
      by_cases e1:k=i
      ·subst e1
       rw [HC.out] at h
       injection h with h
       subst h
       intro hm
       obtain ⟨q,hq,he⟩:=List.getElem_of_mem hm
       have:=HK.out
       exact hJ.out.1 q (by omega) c (by rw [List.getElem?_eq_getElem hq,he]) rfl
      ·exact hI.out.1 k (by omega) e h
     case measure=>simp [intOf];omega
  ·go_wp2
   go_ret
   refine ⟨?_,hI.out.2⟩
   rw [fnd_none (fun k hk=>hI.out.1 k (by have:=HL.out;omega))]
   rfl
end Go.Proofs.YtigmpifjcijdbaaGreatDoor
