/- Package weftlaw7: TunnelOpens.
   Conditions: the arguments are as a row's arguments are. -/
import Derived.Test.YtphbdmafchjjeaaSTLawF
import Derived.Test.YtphbdmafchjjeaaSTunO
import Derived.Test.YtphbdmafchjjeaaSFY
namespace Go.Proofs.YtphbdmafchjjeaaS
open Go Go.RowKit Go.Proofs Go.Proofs.YtphbdmafchjjeaaX
set_option maxRecDepth 100000
set_option linter.unusedVariables false
set_option linter.unusedSectionVars false
set_option linter.unusedSimpArgs false

/-- The slice A[:n] holds lists of bytes, with room behind each. -/
def RawsC (w : World) (A : Option Addr) (n : Nat) : Prop := 0 < n → ∃ a, A = some a ∧ ∀ i, i < n → ∃ (b : List Int) (B : Option Addr) (m d : Nat), At w (a.add (i * 1)) [.slice B m d] ∧ By w B m b ∧ Bytes b ∧ m ≤ 1000000000000 ∧ m ≤ d
theorem eqV_ou (a b c d e f : Int) : eqV [.int .u32 a, .int .u32 b, .int .u16 c, .int .u16 d, .int .u8 e, .int .i64 f] [.int .u32 a, .int .u32 b, .int .u16 c, .int .u16 d, .int .u8 e, .int .i64 f] = true := by simp [eqV]
theorem ifNO {a b c d e f : Int} {X Y : Prop} (h : Y) : if (!(eqV [.int .u32 a, .int .u32 b, .int .u16 c, .int .u16 d, .int .u8 e, .int .i64 f] [.int .u32 a, .int .u32 b, .int .u16 c, .int .u16 d, .int .u8 e, .int .i64 f])) = true then X else Y := by
  rw [eqV_ou, if_neg (by decide)]
  exact h
end Go.Proofs.YtphbdmafchjjeaaS
