/- What measure, read, apart, Parse, Peek and Age of the printed program answer, as plain functions of the bytes.
   Conditions: bytes are 0 to 255, the list short enough for 64 bits. -/
import Derived.Test.YtmjhfkjnnpnoaaaQFXBuild
import Derived.Test.YtmjhfkjnnpnoaaaQFXAx8
import Derived.Test.YtmjhfkjnnpnoaaaQFXAx0
import Derived.Test.YtmjhfkjnnpnoaaaQFXAx12
namespace Go.Proofs.YtmjhfkjnnpnoaaaX
open Go.RowKit Go.Proofs.Ytmjhfkjnnpnoaaa.XA Go.Proofs.YtmjhfkjnnpnoaaaW.PrintWords Go.Proofs.YtmjhfkjnnpnoaaaW.PrintLast Go.Proofs.YtmjhfkjnnpnoaaaW.PrintMore
set_option linter.unusedVariables false
set_option linter.unusedSimpArgs false

/-- The header's length as its first byte tells it. -/
def hlen (b : List Int) : Nat := (b.getD 0 0 % 16 * 4).toNat
end Go.Proofs.YtmjhfkjnnpnoaaaX
