/- What the small functions of package weftref3 answer: clone, two, four, put2, total, fold, Sum.
   Conditions: bytes are 0 to 255; lists are no longer than memory lets. -/
import Derived.Test.YtphbdmafchjjeaaDoorSIp4B
import Derived.Test.YtphbdmafchjjeaaDoorSBuf
namespace Go.Proofs.YtphbdmafchjjeaaDoorS
open Go Go.RowKit Go.Proofs Go.Proofs.YtphbdmafchjjeaaDoorX
set_option maxRecDepth 100000
set_option linter.unusedVariables false
set_option linter.unusedSimpArgs false

/-- A slice with these bytes is answered, in memory of its own. -/
def RetBy (w : World) (l : List Int) (e : Ending) (w' : World) : Prop := Bel w w' ∧ ∃ A c, e = .returned (.slice A l.length c) ∧ By w' A l.length l ∧ l.length ≤ c ∧ Fre w A
end Go.Proofs.YtphbdmafchjjeaaDoorS
