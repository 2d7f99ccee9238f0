/- What functions of the program come to, told by a program of this session out of the translation; the kernel computes each statement out of the code.
   Conditions: none. -/
import Derived.Test.YtphbdmafchjjeaaDoorSBase
namespace Go.Proofs.YtphbdmafchjjeaaDoorS
open Go Go.Proofs
set_option maxRecDepth 100000
set_option linter.unusedVariables false
/-! ### bits_TrailingZeros64: function 43 -/
def bits_TrailingZeros64.ords : Nat → Od
  | _ => .nil
def bits_TrailingZeros64.joins (p : List Nat) : Bool := false
def bits_TrailingZeros64.s (i0 : Int) (w : World) (R : Ending → World → Prop) : Prop :=
((if (i0 == 0) = true then
(R (.returned (.int .i64 64)) w)
else
(Let (IntKind.u64.wrap (0 - i0)) fun x1 : Int =>
 Let (Go.bits .and .u64 i0 x1) fun x2 : Int =>
 Let (IntKind.u64.wrap (x2 * 285870213051353865)) fun x3 : Int =>
 Let (Int.fdiv x3 288230376151711744) fun x4 : Int =>
(0 ≤ (x4 : Int) ∧ (x4 : Int) < 64) ∧
(∃ x5 : Int, w.cell? ((⟨0, 0, none⟩ : Addr).add (mulS x4.toNat 1)) = some (.int .u8 x5) ∧
(Let (IntKind.i64.wrap x5) fun x6 : Int =>
 R (.returned (.int .i64 x6)) w)))))
theorem bits_TrailingZeros64.s_eq (i0 : Int) (w : World) (R : Ending → World → Prop) : seg Tryd.prog entE bits_TrailingZeros64.ords bits_TrailingZeros64.joins Tryd.f43 [] [] [] ([.int .u64 i0] ++ List.replicate (Tryd.f43.ntmps - ([.int .u64 i0] : List Value).length) undef) w R = bits_TrailingZeros64.s i0 w R := by kernel_rfl
theorem bits_TrailingZeros64.run {i0 : Int} {w : World} {R : Ending → World → Prop} (h : bits_TrailingZeros64.s i0 w R) : Calls Tryd.prog 43 #[.int .u64 i0] w R :=
  calls_seg ents mixed Tryd.func43 rfl (by rw [bits_TrailingZeros64.s_eq]; exact h)
end Go.Proofs.YtphbdmafchjjeaaDoorS
