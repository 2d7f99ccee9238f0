/- How four bytes are read as an argument of this seat's rows.
   Conditions: none; every statement is proved here. -/
import Derived.Test.YtleelkkddjldnaaSRowO
import Derived.Test.YtleelkkddjldnaaSTLawV
namespace Go.Proofs.YtleelkkddjldnaaS
open Go Go.RowKit Go.Proofs Go.Proofs.YtleelkkddjldnaaX Go.Proofs.Ytleelkkddjldnaa
set_option maxRecDepth 100000
set_option linter.unusedVariables false
set_option linter.unusedSectionVars false
set_option linter.unusedSimpArgs false
theorem okWide_array {P : Program} {t e : TypeId} {n : Nat} {W : World} {r : Reach} {b : Nat} {v : Value} (ht : P.underlying t = some (.array n e)) (h : Value.okWide P W r b t v) : ∃ cs, v = .agg cs := by
  simp only [Value.okWide, ht] at h
  cases v <;> simp_all
section
variable {H : Type}
theorem opn_arr4 : Opn (H := H) Try.prog 61 (KArr 4) := opn_arr Try.underlying61 (by kernel_rfl) (by kernel_rfl) (by kernel_rfl)
theorem arr4_ofB {w : World} {cs : List Value} {d : DataW H} (h : KArr 4 w cs d) (hb : Rows.uptoBulk d ≤ 1048576) : ∃ (z : List Int), cs = bv z ∧ z.length = 4 ∧ Bytes z := h
end
end Go.Proofs.YtleelkkddjldnaaS
