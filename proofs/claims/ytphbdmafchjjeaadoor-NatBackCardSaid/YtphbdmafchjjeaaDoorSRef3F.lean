/- What header (whole), Build and front of package weftref3 answer.
   Conditions: bytes are 0 to 255; lists are no longer than memory lets. -/
import Derived.Test.YtphbdmafchjjeaaDoorSRef3C
namespace Go.Proofs.YtphbdmafchjjeaaDoorS
open Go Go.RowKit Go.Proofs Go.Proofs.YtphbdmafchjjeaaDoorX
set_option maxRecDepth 100000
set_option linter.unusedVariables false
set_option linter.unusedSimpArgs false

/-! ### Build -/
/-! ### front, read, Peek -/
/-- A packet that was read, or why it was refused. -/
def RetRd (w : World) (whole : Bool) (b : List Int) (e : Ending) (w' : World) : Prop := Bel w w' ∧ if bad whole b = 0 then ∃ A1 c1 A2 c2, e = .returned (.tuple #[.agg (hb b A1 (hlen b - 20) c1 ++ [Value.slice A2 (there b - hlen b) c2]).toArray, .int .i64 0]) ∧
      By w' A1 (hlen b - 20) ((b.take (hlen b)).drop 20) ∧ By w' A2 (there b - hlen b) ((b.take (there b)).drop (hlen b)) ∧ hlen b - 20 ≤ c1 ∧ there b - hlen b ≤ c2 ∧ Fre w A1 ∧ Fre w A2
      else e = .returned (.tuple #[.agg (pb pz none 0 0 none 0 0).toArray, .int .i64 (bad whole b)])
end Go.Proofs.YtphbdmafchjjeaaDoorS
