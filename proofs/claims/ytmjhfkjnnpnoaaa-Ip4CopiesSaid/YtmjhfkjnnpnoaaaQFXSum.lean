/- What ip4.Sum, ip4.Adjust and the lists' helpers of the printed program answer, in plain arithmetic.
   Conditions: bytes are 0 to 255, and the lists are short enough that no sum passes 64 bits. -/
import Derived.Test.YtmjhfkjnnpnoaaaQFXMath
import Derived.Test.YtmjhfkjnnpnoaaaQFXOpen
import Derived.Test.YtmjhfkjnnpnoaaaQFXAx0
import Derived.Test.YtmjhfkjnnpnoaaaQFXAx7
namespace Go.Proofs.YtmjhfkjnnpnoaaaX
open Go.RowKit Go.Proofs.Ytmjhfkjnnpnoaaa.XA Go.Proofs.YtmjhfkjnnpnoaaaW.PrintWords Go.Proofs.YtmjhfkjnnpnoaaaW.PrintLast Go.Proofs.YtmjhfkjnnpnoaaaW.PrintMore
set_option linter.unusedVariables false
set_option linter.unusedSimpArgs false

theorem w64 {i : Int} (h0 : -9223372036854775808 ≤ i) (h1 : i ≤ 9223372036854775807) : wrap64 i = i := by unfold wrap64; omega
theorem wf8 {x : Int} (h : (Lit.int .u8 x).wf = true) : 0 ≤ x ∧ x ≤ 255 := by
  simp [Lit.wf, IntKind.min, IntKind.max, IntKind.signed, IntKind.bits] at h
  omega
theorem rd_nat (l : List Int) (i : Nat) : rd l (i : Int) = l.getD i 0 := rfl
theorem rd_lt (l : List Int) (i : Nat) (h : i < l.length) : rd l (i : Int) = l[i] := by simp [rd, List.getD_eq_getElem?_getD, h]
theorem Bytes.rd {l : List Int} (h : Bytes l) (i : Int) : 0 ≤ rd l i ∧ rd l i ≤ 255 := h.getD i.toNat
/-! ### folded -/
/-! ### Sum -/
/-! ### join, clone -/
end Go.Proofs.YtmjhfkjnnpnoaaaX
