/- Package weftlaw7: TunnelSeals.
   Conditions: the arguments are as a row's arguments are. -/
import Derived.Test.YtphbdmafchjjeaaSTLawF
import Derived.Test.YtphbdmafchjjeaaSTunS
import Derived.Test.YtphbdmafchjjeaaSFY
namespace Go.Proofs.YtphbdmafchjjeaaS
open Go Go.RowKit Go.Proofs Go.Proofs.YtphbdmafchjjeaaX
set_option maxRecDepth 100000
set_option linter.unusedVariables false
set_option linter.unusedSectionVars false
set_option linter.unusedSimpArgs false

theorem sOut_len {o : Ot} {f : Fr} : (sOut o f).length ≤ 200000 := by
  unfold sOut
  split
  · rename_i h
    have h1 := sErr_zero h
    have h2 := ferr_len h1.2.2
    have h3 := sBody_len o f
    rw [Pk.bytes_len]
    show 20 + 0 + (sBody o f).length ≤ _
    omega
  · exact Nat.zero_le _
end Go.Proofs.YtphbdmafchjjeaaS
