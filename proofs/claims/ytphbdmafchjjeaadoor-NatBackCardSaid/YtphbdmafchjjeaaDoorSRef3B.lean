/- What behind, Area, Piece and Refused of package weftref3 answer.
   Conditions: bytes are 0 to 255; lists are no longer than memory lets. -/
import Derived.Test.YtphbdmafchjjeaaDoorSRef3
import Derived.Test.YtphbdmafchjjeaaDoorSPk
namespace Go.Proofs.YtphbdmafchjjeaaDoorS
open Go Go.RowKit Go.Proofs Go.Proofs.YtphbdmafchjjeaaDoorX
set_option maxRecDepth 100000
set_option linter.unusedVariables false
set_option linter.unusedSimpArgs false

theorem area_nil' : area [] = true := by simp [area]
end Go.Proofs.YtphbdmafchjjeaaDoorS
