/- Layer 5: plain words on decimal and hexadecimal digits, and on texts. -/
import Derived.Test.YtigmpifjcijdbaaGreatDoorG02
import Derived.Lib.ItoaNum
namespace Go.Proofs.YtigmpifjcijdbaaGreatDoor
set_option linter.unusedVariables false
set_option linter.unusedSimpArgs false
open Go.RowKit Verge
def bs (l:List UInt8):ByteArray:=⟨l.toArray⟩
theorem bs_append (a b:List UInt8):bs a++bs b=bs (a++b):=by
 apply ByteArray.ext
 simp [bs]
theorem bs_size (a:List UInt8):(bs a).size=a.length:=by simp [bs,ByteArray.size]
theorem bs_list (a:List UInt8):(bs a).data.toList=a:=by simp [bs]
def txt (n:Nat):List UInt8:=if n=0 then [] else Lib.decDigits n
theorem txt_zero:txt 0=[]:=rfl
theorem txt_step {n:Nat} (h:0<n):txt n=txt (n / 10)++[UInt8.ofNat (48+n%10)]:=by
 unfold txt
 rw [if_neg (by omega)]
 rw [Lib.decDigits]
 by_cases h1:n<10
 ·rw [dif_pos h1,if_pos (by omega),Nat.mod_eq_of_lt h1];rfl
 ·rw [dif_neg h1,if_neg (by omega)]
def chunk (q r j:Nat):Nat:=q*10^j+r
theorem chunk_step {q r j:Nat} (hr:r<10^(j+1)):chunk q r (j+1) / 10=chunk q (r / 10) j∧chunk q r (j+1)%10=r%10∧r / 10<10^j:=by
 unfold chunk
 rw [Nat.pow_succ] at *
 refine ⟨?_,?_,?_⟩
 ·rw [show q*(10^j*10)+r=r+10*(q*10^j) by rw [←Nat.mul_assoc,Nat.mul_comm 10];omega,Nat.add_mul_div_left _ _ (by omega)];omega
 ·rw [show q*(10^j*10)+r=r+10*(q*10^j) by rw [←Nat.mul_assoc,Nat.mul_comm 10];omega,Nat.add_mul_mod_self_left]
 ·omega
theorem chunk_pos {q r j:Nat}:0<chunk q r j↔0<q∨0<r:=by
 unfold chunk
 have h:0<10^j:=Nat.pow_pos (by omega)
 constructor
 ·intro h'
  rcases Nat.eq_zero_or_pos q with e | e
  ·right;rw [e] at h';omega
  ·exact .inl e
 ·rintro (h' | h')
  ·have:=Nat.mul_pos h' h;omega
  ·omega
theorem chunk_end (q:Nat):chunk q 0 0=q:=by unfold chunk;omega
theorem chunk_all (N:Nat):chunk (N / 1000000000) (N%1000000000) 9=N:=by
 unfold chunk
 rw [show (10:Nat)^9=1000000000 from rfl]
 omega
end Go.Proofs.YtigmpifjcijdbaaGreatDoor
