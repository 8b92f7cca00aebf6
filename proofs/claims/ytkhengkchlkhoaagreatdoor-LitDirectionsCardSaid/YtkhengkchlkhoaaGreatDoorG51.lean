/- The listed tables, read off the row's condition: of a seat that lists deBruijn32tab, deBruijn64tab, uint64pow10. -/
import Derived.Test.YtkhengkchlkhoaaGreatDoorG50
import Derived.Test.YtkhengkchlkhoaaGreatDoorG43
import Derived.Test.YtkhengkchlkhoaaGreatDoorTie
import Derived.LaidMore
import Derived.Handed
import Derived.MakeChecks
import Derived.LaidHandle
import Derived.LaidLaws
import Derived.Stop.Joined
import Derived.Stop.LaidErr
import Derived.Lib.LaidTab
namespace Go.Proofs.YtkhengkchlkhoaaGreatDoor
set_option linter.unusedVariables false
set_option linter.unusedSimpArgs false
open Go.ChangeShapes Go.WideShapes Go.ChangeAt Go.RowKit Verge
theorem gTab64:Tryz.prog.globalNamed "math/bits.deBruijn64tab" = some 3:=by kernel_rfl
theorem tTab64:(Tryz.prog.globals[3]?).map (·.type)=some 184:=by kernel_rfl
theorem gTab10:Tryz.prog.globalNamed "internal/strconv.uint64pow10" = some 1:=by kernel_rfl
theorem tTab10:(Tryz.prog.globals[1]?).map (·.type)=some 180:=by kernel_rfl
def tab64:List Int:=[0,1,56,2,57,49,28,3,61,58,42,50,38,29,17,4,62,47,59,36,45,43,51,22,53,39,33,30,24,18,12,5,63,55,48,27,60,41,37,16,46,35,44,21,52,32,23,11,54,26,40,15,34,20,31,10,25,14,19,9,13,8,7,6]
abbrev laids:List (String×DataW Unit):=[("math/bits.deBruijn32tab",Rows.laid_math_bits_deBruijn32tab),("math/bits.deBruijn64tab",Rows.laid_math_bits_deBruijn64tab),("internal/strconv.uint64pow10",Rows.laid_internal_strconv_uint64pow10)]
theorem door_met (os:Os) (args:Array Value):laidMetH Tryz.prog laids ((World.doorLaid Tryz.prog 400 os).forCall (fun _ _=>0) ⟨#[],args,[]⟩).memory:=
 laidMetH_of_parts3 (fuel:=8) (laidMet_of_run' 8 (by kernel_rfl) (by kernel_rfl)) (by kernel_rfl) (by kernel_rfl)
theorem tab_of {W:World} (h:laidMetH Tryz.prog laids W):Tab16 W∧Pow10 W:=by
 rw [MakeChecks.laidMetH_plain _ _ _ (by kernel_rfl)] at h
 have h1:=h.tail
 have h2:=h1.tail
 have e1:(Rows.laid_math_bits_deBruijn64tab:DataW Unit)=Lib.tabData .u8 tab64:=rfl
 have e2:(Rows.laid_internal_strconv_uint64pow10:DataW Unit)=Lib.tabData .u64 Lib.pow10Tab:=rfl
 rw [e1] at h1
 rw [e2] at h2
 refine ⟨?_,?_⟩
 ·have:=(Lib.tabIs_of_head gTab64 tTab64 Tryz.underlying184 Tryz.underlying5 (by kernel_rfl) (by kernel_rfl) h1).cell gTab64 15 (by decide)
  exact this
 ·exact Lib.tabIs_of_head gTab10 tTab10 Tryz.underlying180 Tryz.underlying37 (by kernel_rfl) (by kernel_rfl) h2
end Go.Proofs.YtkhengkchlkhoaaGreatDoor
