/- What functions of the program come to, told by a program of this session out of the translation; the kernel computes each statement out of the code.
   Conditions: none. -/
import Derived.Test.YtphbdmafchjjeaaSBase
namespace Go.Proofs.YtphbdmafchjjeaaS
open Go Go.Proofs
set_option maxRecDepth 100000
set_option linter.unusedVariables false
/-! ### weftlaw7_same: function 13 -/
def weftlaw7_same.ords : Nat → Od
  | 6 => (.tk 0 (.tk 1 (.tk 2 (.tk 3 (.tk 4 (.tk 5 (.tk 6 (.tk 7 (.tk 8 .nil)))))))))
  | _ => .nil
def weftlaw7_same.joins (p : List Nat) : Bool := false
def weftlaw7_same.l1 (n : Nat) (Y0 : Option Addr) (yn0 : Nat) (yc0 : Nat) (Y1 : Option Addr) (yn1 : Nat) (yc1 : Nat) (y5 : Int) (d2 d3 d4 d6 d7 d8 d9 d10 d11 d12 d13 d14 d15 d16 d17 d18 d19 d20 d21 d22 d23 d24 d25 : Value) (w : World) (R : Ending → World → Prop) : Prop :=
  lseg Try.prog entE weftlaw7_same.ords weftlaw7_same.joins Try.f13 [1, 1, 0, 1, 0] [0, 1, 0, 1, 1] [] n [.slice Y0 yn0 yc0, .slice Y1 yn1 yc1, d2, d3, d4, .int .i64 y5, d6, d7, d8, d9, d10, d11, d12, d13, d14, d15, d16, d17, d18, d19, d20, d21, d22, d23, d24, d25] w R
abbrev weftlaw7_same.L1 (n : Nat) (Y0 : Option Addr) (yn0 : Nat) (yc0 : Nat) (Y1 : Option Addr) (yn1 : Nat) (yc1 : Nat) (y5 : Int) (w : World) (R : Ending → World → Prop) : Prop := ∀ d2 d3 d4 d6 d7 d8 d9 d10 d11 d12 d13 d14 d15 d16 d17 d18 d19 d20 d21 d22 d23 d24 d25 : Value, weftlaw7_same.l1 n Y0 yn0 yc0 Y1 yn1 yc1 y5 d2 d3 d4 d6 d7 d8 d9 d10 d11 d12 d13 d14 d15 d16 d17 d18 d19 d20 d21 d22 d23 d24 d25 w R
theorem weftlaw7_same.l1_eq (n : Nat) (Y0 : Option Addr) (yn0 : Nat) (yc0 : Nat) (Y1 : Option Addr) (yn1 : Nat) (yc1 : Nat) (y5 : Int) (d2 d3 d4 d6 d7 d8 d9 d10 d11 d12 d13 d14 d15 d16 d17 d18 d19 d20 d21 d22 d23 d24 d25 : Value) (w : World) (R : Ending → World → Prop) : weftlaw7_same.l1 (n + 1) Y0 yn0 yc0 Y1 yn1 yc1 y5 d2 d3 d4 d6 d7 d8 d9 d10 d11 d12 d13 d14 d15 d16 d17 d18 d19 d20 d21 d22 d23 d24 d25 w R =
((if decide (y5 < (yn0 : Int)) = true then
(∃ S1 : World → Prop, S1 w.drew ∧
(Let (w.drew) fun w2 : World =>
 ∃ a3 : Addr, Y0 = some a3 ∧ (0 ≤ y5 ∧ y5 < (yn0 : Int)) ∧
(∃ x4 : Int, (∀ w', S1 w' → w'.cell? (a3.add y5.toNat) = some (.int .u8 x4)) ∧
(∃ a5 : Addr, Y1 = some a5 ∧ (0 ≤ y5 ∧ y5 < (yn1 : Int)) ∧
(∃ x6 : Int, (∀ w', S1 w' → w'.cell? (a5.add y5.toNat) = some (.int .u8 x6)) ∧
((if (x4 != x6) = true then
(R (.returned (.bool false)) w2)
else
(Let (IntKind.i64.wrap (y5 + 1)) fun x7 : Int =>
 weftlaw7_same.l1 n Y0 yn0 yc0 Y1 yn1 yc1 x7 d2 d3 d4 d6 d7 d8 d9 d10 (.int .i64 y5) (.slice Y0 yn0 yc0) (.int .i64 (yn0 : Int)) (.bool (decide (y5 < (yn0 : Int)))) (.int .i64 y5) (.int .i64 x7) (.slice Y0 yn0 yc0) (.int .i64 y5) (.pointer (some (a3.add y5.toNat))) (.int .u8 x4) (.slice Y1 yn1 yc1) (.int .i64 y5) (.pointer (some (a5.add y5.toNat))) (.int .u8 x6) (.bool (x4 != x6)) w2 R))))))))
else
(R (.returned (.bool true)) w))) := by kernel_rfl
def weftlaw7_same.s (I0 : Option Addr) (in0 : Nat) (ic0 : Nat) (I1 : Option Addr) (in1 : Nat) (ic1 : Nat) (w : World) (R : Ending → World → Prop) : Prop :=
((if ((in0 : Int) != (in1 : Int)) = true then
(R (.returned (.bool false)) w)
else
(∃ n1 : Nat, weftlaw7_same.l1 n1 I0 in0 ic0 I1 in1 ic1 0 undef undef (.bool false) (.slice I0 in0 ic0) (.int .i64 (in0 : Int)) (.slice I1 in1 ic1) (.int .i64 (in1 : Int)) (.bool ((in0 : Int) != (in1 : Int))) undef undef undef undef undef undef undef undef undef undef undef undef undef undef undef w R)))
theorem weftlaw7_same.s_eq (I0 : Option Addr) (in0 : Nat) (ic0 : Nat) (I1 : Option Addr) (in1 : Nat) (ic1 : Nat) (w : World) (R : Ending → World → Prop) : seg Try.prog entE weftlaw7_same.ords weftlaw7_same.joins Try.f13 [] [] [] ([.slice I0 in0 ic0, .slice I1 in1 ic1] ++ List.replicate (Try.f13.ntmps - ([.slice I0 in0 ic0, .slice I1 in1 ic1] : List Value).length) undef) w R = weftlaw7_same.s I0 in0 ic0 I1 in1 ic1 w R := by kernel_rfl
theorem weftlaw7_same.run {I0 : Option Addr} {in0 : Nat} {ic0 : Nat} {I1 : Option Addr} {in1 : Nat} {ic1 : Nat} {w : World} {R : Ending → World → Prop} (h : weftlaw7_same.s I0 in0 ic0 I1 in1 ic1 w R) : Calls Try.prog 13 #[.slice I0 in0 ic0, .slice I1 in1 ic1] w R :=
  calls_seg ents mixed Try.func13 rfl (by rw [weftlaw7_same.s_eq]; exact h)
/-! ### weftlaw7_begun: function 4 -/
def weftlaw7_begun.ords : Nat → Od
  | _ => .nil
def weftlaw7_begun.joins (p : List Nat) : Bool := false
def weftlaw7_begun.s (w : World) (R : Ending → World → Prop) : Prop :=
(Calls Try.prog 11 #[.int .u32 0, .int .u32 0, .agg #[.int .u16 1, .int .u16 2, .slice none 0 0], .bool true] w (fun (e2 : Ending) (w1 : World) =>
 ∃ (A3 : Option Addr) (n3_ c3_ : Nat), ∃ x4 : Int, e2 = .returned (.tuple #[.slice A3 n3_ c3_, .int .i64 x4]) ∧
((if (x4 == 0) = true then
((if ((n3_ : Int) == 8) = true then
(∃ a5 : Addr, A3 = some a5 ∧ (0 ≤ (1 : Int) ∧ (1 : Int) < (n3_ : Int)) ∧
(∃ x6 : Int, w1.cell? (a5.add 1) = some (.int .u8 x6) ∧
((if (x6 == 1) = true then
(∃ a7 : Addr, A3 = some a7 ∧ (0 ≤ (3 : Int) ∧ (3 : Int) < (n3_ : Int)) ∧
(∃ x8 : Int, w1.cell? (a7.add 3) = some (.int .u8 x8) ∧
((if (x8 == 2) = true then
(∃ a9 : Addr, A3 = some a9 ∧ (0 ≤ (5 : Int) ∧ (5 : Int) < (n3_ : Int)) ∧
(∃ x10 : Int, w1.cell? (a9.add 5) = some (.int .u8 x10) ∧
((if (x10 == 8) = true then
(∃ a11 : Addr, A3 = some a11 ∧ (0 ≤ (6 : Int) ∧ (6 : Int) < (n3_ : Int)) ∧
(∃ x12 : Int, w1.cell? (a11.add 6) = some (.int .u8 x12) ∧
((if (x12 == 255) = true then
(∃ a13 : Addr, A3 = some a13 ∧ (0 ≤ (7 : Int) ∧ (7 : Int) < (n3_ : Int)) ∧
(∃ x14 : Int, w1.cell? (a13.add 7) = some (.int .u8 x14) ∧
(R (.returned (.bool (x14 == 219))) w1)))
else
(R (.returned (.bool false)) w1)))))
else
(R (.returned (.bool false)) w1)))))
else
(R (.returned (.bool false)) w1)))))
else
(R (.returned (.bool false)) w1)))))
else
(R (.returned (.bool false)) w1)))
else
(R (.returned (.bool false)) w1)))))
theorem weftlaw7_begun.s_eq (w : World) (R : Ending → World → Prop) : seg Try.prog entE weftlaw7_begun.ords weftlaw7_begun.joins Try.f4 [] [] [] ([] ++ List.replicate (Try.f4.ntmps - ([] : List Value).length) undef) w R = weftlaw7_begun.s  w R := by kernel_rfl
theorem weftlaw7_begun.run {w : World} {R : Ending → World → Prop} (h : weftlaw7_begun.s  w R) : Calls Try.prog 4 #[] w R :=
  calls_seg ents mixed Try.func4 rfl (by rw [weftlaw7_begun.s_eq]; exact h)
end Go.Proofs.YtphbdmafchjjeaaS
