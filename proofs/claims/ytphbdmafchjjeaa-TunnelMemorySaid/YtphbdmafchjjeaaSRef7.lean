/- What the small functions, BuildUDP and ParseUDP of package weftref7 answer.
   Conditions: bytes are 0 to 255; lists are no longer than memory lets. -/
import Derived.Test.YtphbdmafchjjeaaSTun
import Derived.Test.YtphbdmafchjjeaaSRef3
namespace Go.Proofs.YtphbdmafchjjeaaS
open Go Go.RowKit Go.Proofs Go.Proofs.YtphbdmafchjjeaaX
set_option maxRecDepth 100000
set_option linter.unusedVariables false
set_option linter.unusedSimpArgs false

/-! ### datagrams -/
def RetDg7 (w : World) (src dst : Int) (b : List Int) (e : Ending) (w' : World) : Prop := Bel w w' ∧ if uBad src dst b = 0 then ∃ A c, e = .returned (.tuple #[.agg (dv (wd b 0) (wd b 2) A ((wd b 4).toNat - 8) c).toArray, .int .i64 0]) ∧ By w' A ((wd b 4).toNat - 8) (uBody b) ∧ (wd b 4).toNat - 8 ≤ c
  else e = .returned (.tuple #[.agg (dv 0 0 none 0 0).toArray, .int .i64 (uBad src dst b)])
theorem RetDg7.no {w w' : World} {src dst : Int} {b : List Int} {k : Int} (h : uBad src dst b = k) (hk : k ≠ 0) (hb : Bel w w') : RetDg7 w src dst b (.returned (.tuple #[.agg (dv 0 0 none 0 0).toArray, .int .i64 k])) w' := by
  refine ⟨hb, ?_⟩
  rw [if_neg (by rw [h]; exact hk), h]
def RetBU7 (w : World) (src dst sp dp : Int) (body : List Int) (on : Bool) (e : Ending) (w' : World) : Prop := (body.length > 65527 → e = .returned (.tuple #[.slice none 0 0, .int .i64 2]) ∧ Bel w w') ∧
  (¬ body.length > 65527 → ∃ A c, e = .returned (.tuple #[.slice A (uBytes src dst sp dp body on).length c, .int .i64 0]) ∧ Buf w w' [] A (uBytes src dst sp dp body on).length c (uBytes src dst sp dp body on))
end Go.Proofs.YtphbdmafchjjeaaS
