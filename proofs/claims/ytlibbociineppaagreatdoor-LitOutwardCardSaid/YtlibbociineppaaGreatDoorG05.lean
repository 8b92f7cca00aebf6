/- Layer 5: the document's letters: digit, hex, value, the table of states, find, behind, exponent. -/
import Derived.Test.YtlibbociineppaaGreatDoorG03
import Derived.Test.YtlibbociineppaaGreatDoorG04
import Derived.Laws.DeepStrings4
section
namespace Go.Proofs.YtlibbociineppaaGreatDoor
set_option linter.unusedVariables false
set_option linter.unusedSimpArgs false
open Go.RowKit Verge
end Go.Proofs.YtlibbociineppaaGreatDoor
end

section
namespace Go.Proofs.YtlibbociineppaaGreatDoor
set_option linter.unusedVariables false
set_option linter.unusedSimpArgs false
open Go.RowKit Verge
end Go.Proofs.YtlibbociineppaaGreatDoor
end
