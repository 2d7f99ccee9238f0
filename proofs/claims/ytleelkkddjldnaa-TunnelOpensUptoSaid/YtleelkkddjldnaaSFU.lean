/- What functions of the program come to, told by a program of this session out of the translation; the kernel computes each statement out of the code.
   Conditions: none. -/
import Derived.Test.YtleelkkddjldnaaSBase
namespace Go.Proofs.YtleelkkddjldnaaS
open Go Go.Proofs
set_option maxRecDepth 100000
set_option linter.unusedVariables false
/-! ### weftref7_number: function 55 -/
def weftref7_number.ords : Nat → Od
  | _ => .nil
def weftref7_number.joins (p : List Nat) : Bool := false
def weftref7_number.l1 (n : Nat) (Y0 : Option Addr) (yn0 : Nat) (yc0 : Nat) (y1 : Int) (y2 : Int) (y7 : Int) (y8 : Int) (d3 d4 d5 d6 d9 d10 d11 d12 d13 d14 d15 d16 d17 d18 d19 d20 d21 d22 d23 d24 : Value) (w : World) (R : Ending → World → Prop) : Prop :=
  lseg Try.prog entE weftref7_number.ords weftref7_number.joins Try.f55 [1, 1, 0, 1, 0] [0, 1, 0, 1, 1] [] n [.slice Y0 yn0 yc0, .int .i64 y1, .int .i64 y2, d3, d4, d5, d6, .int .i64 y7, .int .i64 y8, d9, d10, d11, d12, d13, d14, d15, d16, d17, d18, d19, d20, d21, d22, d23, d24] w R
abbrev weftref7_number.L1 (n : Nat) (Y0 : Option Addr) (yn0 : Nat) (yc0 : Nat) (y1 : Int) (y2 : Int) (y7 : Int) (y8 : Int) (w : World) (R : Ending → World → Prop) : Prop := ∀ d3 d4 d5 d6 d9 d10 d11 d12 d13 d14 d15 d16 d17 d18 d19 d20 d21 d22 d23 d24 : Value, weftref7_number.l1 n Y0 yn0 yc0 y1 y2 y7 y8 d3 d4 d5 d6 d9 d10 d11 d12 d13 d14 d15 d16 d17 d18 d19 d20 d21 d22 d23 d24 w R
theorem weftref7_number.l1_eq (n : Nat) (Y0 : Option Addr) (yn0 : Nat) (yc0 : Nat) (y1 : Int) (y2 : Int) (y7 : Int) (y8 : Int) (d3 d4 d5 d6 d9 d10 d11 d12 d13 d14 d15 d16 d17 d18 d19 d20 d21 d22 d23 d24 : Value) (w : World) (R : Ending → World → Prop) : weftref7_number.l1 (n + 1) Y0 yn0 yc0 y1 y2 y7 y8 d3 d4 d5 d6 d9 d10 d11 d12 d13 d14 d15 d16 d17 d18 d19 d20 d21 d22 d23 d24 w R =
((if decide (y8 < y2) = true then
(Let (IntKind.i64.wrap (y7 * 256)) fun x1 : Int =>
 Let (IntKind.i64.wrap (y1 + y8)) fun x2 : Int =>
 ∃ a3 : Addr, Y0 = some a3 ∧ (0 ≤ x2 ∧ x2 < (yn0 : Int)) ∧
(∃ x4 : Int, w.cell? (a3.add x2.toNat) = some (.int .u8 x4) ∧
(Let (IntKind.i64.wrap x4) fun x5 : Int =>
 Let (IntKind.i64.wrap (x1 + x5)) fun x6 : Int =>
 Let (IntKind.i64.wrap (y8 + 1)) fun x7 : Int =>
 weftref7_number.l1 n Y0 yn0 yc0 y1 y2 x6 x7 d3 d4 d5 d6 (.int .i64 y8) (.int .i64 y2) (.bool (decide (y8 < y2))) (.int .i64 y8) (.int .i64 x7) (.int .i64 y7) (.int .i64 x1) (.slice Y0 yn0 yc0) (.int .i64 y1) (.int .i64 y8) (.int .i64 x2) (.pointer (some (a3.add x2.toNat))) (.int .u8 x4) (.int .i64 x5) (.int .i64 x6) d24 w R)))
else
(R (.returned (.int .i64 y7)) w))) := by kernel_rfl
def weftref7_number.s (I0 : Option Addr) (in0 : Nat) (ic0 : Nat) (i1 : Int) (i2 : Int) (w : World) (R : Ending → World → Prop) : Prop :=
(∃ n1 : Nat, weftref7_number.l1 n1 I0 in0 ic0 i1 i2 0 0 undef undef undef (.int .i64 0) undef undef undef undef undef undef undef undef undef undef undef undef undef undef undef undef w R)
theorem weftref7_number.s_eq (I0 : Option Addr) (in0 : Nat) (ic0 : Nat) (i1 : Int) (i2 : Int) (w : World) (R : Ending → World → Prop) : seg Try.prog entE weftref7_number.ords weftref7_number.joins Try.f55 [] [] [] ([.slice I0 in0 ic0, .int .i64 i1, .int .i64 i2] ++ List.replicate (Try.f55.ntmps - ([.slice I0 in0 ic0, .int .i64 i1, .int .i64 i2] : List Value).length) undef) w R = weftref7_number.s I0 in0 ic0 i1 i2 w R := by kernel_rfl
theorem weftref7_number.run {I0 : Option Addr} {in0 : Nat} {ic0 : Nat} {i1 : Int} {i2 : Int} {w : World} {R : Ending → World → Prop} (h : weftref7_number.s I0 in0 ic0 i1 i2 w R) : Calls Try.prog 55 #[.slice I0 in0 ic0, .int .i64 i1, .int .i64 i2] w R :=
  calls_seg ents mixed Try.func55 rfl (by rw [weftref7_number.s_eq]; exact h)
/-! ### weftref7_laid: function 47 -/
def weftref7_laid.ords : Nat → Od
  | _ => .nil
def weftref7_laid.joins (p : List Nat) : Bool := false
def weftref7_laid.l1 (n : Nat) (Y0 : Option Addr) (yn0 : Nat) (yc0 : Nat) (y1 : Int) (y7 : Int) (d2 d3 d4 d5 d6 d8 d9 d10 d11 d12 d13 d14 d15 d16 d17 d18 d19 d20 d21 d22 d23 d24 d25 d26 d27 d28 d29 d30 : Value) (w : World) (R : Ending → World → Prop) : Prop :=
  lseg Try.prog entE weftref7_laid.ords weftref7_laid.joins Try.f47 [1, 0, 1, 0] [0, 1, 0, 1] [] n [.slice Y0 yn0 yc0, .int .i64 y1, d2, d3, d4, d5, d6, .int .i64 y7, d8, d9, d10, d11, d12, d13, d14, d15, d16, d17, d18, d19, d20, d21, d22, d23, d24, d25, d26, d27, d28, d29, d30] w R
def weftref7_laid.l2 (m0 : Nat) (n : Nat) (Y0 : Option Addr) (yn0 : Nat) (yc0 : Nat) (y1 : Int) (y7 : Int) (y8 : Int) (y9 : Int) (d2 d3 d4 d5 d6 d10 d11 d12 d13 d14 d15 d16 d17 d18 d19 d20 d21 d22 d23 d24 d25 d26 d27 d28 d29 d30 : Value) (w : World) (R : Ending → World → Prop) : Prop :=
  lseg Try.prog entE weftref7_laid.ords weftref7_laid.joins Try.f47 [1, 0, 1, 0, 0, 1, 0, 0, 1, 0, 1, 0] [0, 1, 0, 1, 0, 0, 1, 0, 0, 1, 0, 1] [m0] n [.slice Y0 yn0 yc0, .int .i64 y1, d2, d3, d4, d5, d6, .int .i64 y7, .int .i64 y8, .int .i64 y9, d10, d11, d12, d13, d14, d15, d16, d17, d18, d19, d20, d21, d22, d23, d24, d25, d26, d27, d28, d29, d30] w R
abbrev weftref7_laid.L1 (n : Nat) (Y0 : Option Addr) (yn0 : Nat) (yc0 : Nat) (y1 : Int) (y7 : Int) (w : World) (R : Ending → World → Prop) : Prop := ∀ d2 d3 d4 d5 d6 d8 d9 d10 d11 d12 d13 d14 d15 d16 d17 d18 d19 d20 d21 d22 d23 d24 d25 d26 d27 d28 d29 d30 : Value, weftref7_laid.l1 n Y0 yn0 yc0 y1 y7 d2 d3 d4 d5 d6 d8 d9 d10 d11 d12 d13 d14 d15 d16 d17 d18 d19 d20 d21 d22 d23 d24 d25 d26 d27 d28 d29 d30 w R
abbrev weftref7_laid.L2 (m0 : Nat) (n : Nat) (Y0 : Option Addr) (yn0 : Nat) (yc0 : Nat) (y1 : Int) (y7 : Int) (y8 : Int) (y9 : Int) (w : World) (R : Ending → World → Prop) : Prop := ∀ d2 d3 d4 d5 d6 d10 d11 d12 d13 d14 d15 d16 d17 d18 d19 d20 d21 d22 d23 d24 d25 d26 d27 d28 d29 d30 : Value, weftref7_laid.l2 m0 n Y0 yn0 yc0 y1 y7 y8 y9 d2 d3 d4 d5 d6 d10 d11 d12 d13 d14 d15 d16 d17 d18 d19 d20 d21 d22 d23 d24 d25 d26 d27 d28 d29 d30 w R
theorem weftref7_laid.l1_eq (n : Nat) (Y0 : Option Addr) (yn0 : Nat) (yc0 : Nat) (y1 : Int) (y7 : Int) (d2 d3 d4 d5 d6 d8 d9 d10 d11 d12 d13 d14 d15 d16 d17 d18 d19 d20 d21 d22 d23 d24 d25 d26 d27 d28 d29 d30 : Value) (w : World) (R : Ending → World → Prop) : weftref7_laid.l1 (n + 1) Y0 yn0 yc0 y1 y7 d2 d3 d4 d5 d6 d8 d9 d10 d11 d12 d13 d14 d15 d16 d17 d18 d19 d20 d21 d22 d23 d24 d25 d26 d27 d28 d29 d30 w R =
((if decide (y7 ≥ 0) = true then
(∃ n1 : Nat, weftref7_laid.l2 n n1 Y0 yn0 yc0 y1 y7 y1 0 d2 d3 d4 d5 d6 d10 d11 (.int .i64 y7) (.bool (decide (y7 ≥ 0))) d14 d15 (.int .i64 y1) d17 d18 d19 d20 d21 d22 d23 d24 d25 d26 d27 d28 d29 d30 w R)
else
(R (.returned (.slice Y0 yn0 yc0)) w))) := by kernel_rfl
theorem weftref7_laid.l2_eq (m0 : Nat) (n : Nat) (Y0 : Option Addr) (yn0 : Nat) (yc0 : Nat) (y1 : Int) (y7 : Int) (y8 : Int) (y9 : Int) (d2 d3 d4 d5 d6 d10 d11 d12 d13 d14 d15 d16 d17 d18 d19 d20 d21 d22 d23 d24 d25 d26 d27 d28 d29 d30 : Value) (w : World) (R : Ending → World → Prop) : weftref7_laid.l2 m0 (n + 1) Y0 yn0 yc0 y1 y7 y8 y9 d2 d3 d4 d5 d6 d10 d11 d12 d13 d14 d15 d16 d17 d18 d19 d20 d21 d22 d23 d24 d25 d26 d27 d28 d29 d30 w R =
((if decide (y9 < y7) = true then
(Let (IntKind.i64.wrap (Int.tdiv y8 256)) fun x1 : Int =>
 Let (IntKind.i64.wrap (y9 + 1)) fun x2 : Int =>
 weftref7_laid.l2 m0 n Y0 yn0 yc0 y1 y7 x1 x2 d2 d3 d4 d5 d6 d10 d11 d12 d13 d14 d15 d16 (.int .i64 y9) (.int .i64 y7) (.bool (decide (y9 < y7))) (.int .i64 y9) (.int .i64 x2) (.int .i64 y8) (.int .i64 x1) d24 d25 d26 d27 d28 d29 d30 w R)
else
(Let (Int.tmod y8 256) fun x3 : Int =>
 Let (IntKind.u8.wrap x3) fun x4 : Int =>
 Let (w.heap.size) fun g5 : Nat =>
 Let (w.alloc (.cells #[.int .u8 x4] 5)) fun w6 : World =>
 AppE w6 1 1 5 [.int .u8 0] Y0 yn0 yc0 (some ⟨g5, 0, none⟩) 1 (fun (A7 : Option Addr) (c8 : Nat) (w9 : World) =>
 Let (IntKind.i64.wrap (y7 - 1)) fun x10 : Int =>
 weftref7_laid.l1 m0 A7 (yn0 + 1) c8 y1 x10 d2 d3 d4 d5 d6 (.int .i64 y8) (.int .i64 y9) d10 d11 d12 d13 (.int .i64 y7) (.int .i64 x10) d16 (.int .i64 y9) (.int .i64 y7) (.bool (decide (y9 < y7))) d20 d21 d22 d23 (.slice Y0 yn0 yc0) (.int .i64 y8) (.int .i64 x3) (.int .u8 x4) (.slice (some ⟨g5, 0, none⟩) 1 1) (.slice A7 (yn0 + 1) c8) d30 w9 R)))) := by kernel_rfl
def weftref7_laid.s (I0 : Option Addr) (in0 : Nat) (ic0 : Nat) (i1 : Int) (i2 : Int) (w : World) (R : Ending → World → Prop) : Prop :=
(Let (IntKind.i64.wrap (i2 - 1)) fun x1 : Int =>
 ∃ n2 : Nat, weftref7_laid.l1 n2 I0 in0 ic0 i1 x1 (.int .i64 i2) undef undef undef (.slice none 0 0) undef undef (.int .i64 i2) (.int .i64 x1) undef undef undef undef undef undef undef undef undef undef undef undef undef undef undef undef undef undef undef w R)
theorem weftref7_laid.s_eq (I0 : Option Addr) (in0 : Nat) (ic0 : Nat) (i1 : Int) (i2 : Int) (w : World) (R : Ending → World → Prop) : seg Try.prog entE weftref7_laid.ords weftref7_laid.joins Try.f47 [] [] [] ([.slice I0 in0 ic0, .int .i64 i1, .int .i64 i2] ++ List.replicate (Try.f47.ntmps - ([.slice I0 in0 ic0, .int .i64 i1, .int .i64 i2] : List Value).length) undef) w R = weftref7_laid.s I0 in0 ic0 i1 i2 w R := by kernel_rfl
theorem weftref7_laid.run {I0 : Option Addr} {in0 : Nat} {ic0 : Nat} {i1 : Int} {i2 : Int} {w : World} {R : Ending → World → Prop} (h : weftref7_laid.s I0 in0 ic0 i1 i2 w R) : Calls Try.prog 47 #[.slice I0 in0 ic0, .int .i64 i1, .int .i64 i2] w R :=
  calls_seg ents mixed Try.func47 rfl (by rw [weftref7_laid.s_eq]; exact h)
/-! ### weftref7_joined: function 48 -/
def weftref7_joined.ords : Nat → Od
  | _ => .nil
def weftref7_joined.joins (p : List Nat) : Bool := false
def weftref7_joined.l1 (n : Nat) (Y0 : Option Addr) (yn0 : Nat) (yc0 : Nat) (Y1 : Option Addr) (yn1 : Nat) (yc1 : Nat) (y3 : Int) (y9 : Int) (d2 d4 d5 d6 d7 d8 d10 d11 d12 d13 d14 d15 d16 d17 d18 d19 d20 d21 d22 d23 : Value) (w : World) (R : Ending → World → Prop) : Prop :=
  lseg Try.prog entE weftref7_joined.ords weftref7_joined.joins Try.f48 [1, 0, 1, 0] [0, 1, 0, 1] [] n [.slice Y0 yn0 yc0, .slice Y1 yn1 yc1, d2, .int .i64 y3, d4, d5, d6, d7, d8, .int .i64 y9, d10, d11, d12, d13, d14, d15, d16, d17, d18, d19, d20, d21, d22, d23] w R
abbrev weftref7_joined.L1 (n : Nat) (Y0 : Option Addr) (yn0 : Nat) (yc0 : Nat) (Y1 : Option Addr) (yn1 : Nat) (yc1 : Nat) (y3 : Int) (y9 : Int) (w : World) (R : Ending → World → Prop) : Prop := ∀ d2 d4 d5 d6 d7 d8 d10 d11 d12 d13 d14 d15 d16 d17 d18 d19 d20 d21 d22 d23 : Value, weftref7_joined.l1 n Y0 yn0 yc0 Y1 yn1 yc1 y3 y9 d2 d4 d5 d6 d7 d8 d10 d11 d12 d13 d14 d15 d16 d17 d18 d19 d20 d21 d22 d23 w R
theorem weftref7_joined.l1_eq (n : Nat) (Y0 : Option Addr) (yn0 : Nat) (yc0 : Nat) (Y1 : Option Addr) (yn1 : Nat) (yc1 : Nat) (y3 : Int) (y9 : Int) (d2 d4 d5 d6 d7 d8 d10 d11 d12 d13 d14 d15 d16 d17 d18 d19 d20 d21 d22 d23 : Value) (w : World) (R : Ending → World → Prop) : weftref7_joined.l1 (n + 1) Y0 yn0 yc0 Y1 yn1 yc1 y3 y9 d2 d4 d5 d6 d7 d8 d10 d11 d12 d13 d14 d15 d16 d17 d18 d19 d20 d21 d22 d23 w R =
((if decide (y9 < y3) = true then
(∃ a1 : Addr, Y1 = some a1 ∧ (0 ≤ y9 ∧ y9 < (yn1 : Int)) ∧
(∃ x2 : Int, w.cell? (a1.add y9.toNat) = some (.int .u8 x2) ∧
(Let (w.heap.size) fun g3 : Nat =>
 Let (w.alloc (.cells #[.int .u8 x2] 5)) fun w4 : World =>
 AppE w4 1 1 5 [.int .u8 0] Y0 yn0 yc0 (some ⟨g3, 0, none⟩) 1 (fun (A5 : Option Addr) (c6 : Nat) (w7 : World) =>
 Let (IntKind.i64.wrap (y9 + 1)) fun x8 : Int =>
 weftref7_joined.l1 n A5 (yn0 + 1) c6 Y1 yn1 yc1 y3 x8 d2 d4 d5 d6 d7 d8 d10 (.int .i64 y9) (.int .i64 y3) (.bool (decide (y9 < y3))) (.int .i64 y9) (.int .i64 x8) (.slice Y0 yn0 yc0) (.slice Y1 yn1 yc1) (.int .i64 y9) (.pointer (some (a1.add y9.toNat))) (.int .u8 x2) (.slice (some ⟨g3, 0, none⟩) 1 1) (.slice A5 (yn0 + 1) c6) d23 w7 R))))
else
(R (.returned (.slice Y0 yn0 yc0)) w))) := by kernel_rfl
def weftref7_joined.s (I0 : Option Addr) (in0 : Nat) (ic0 : Nat) (I1 : Option Addr) (in1 : Nat) (ic1 : Nat) (i2 : Int) (i3 : Int) (w : World) (R : Ending → World → Prop) : Prop :=
(∃ n1 : Nat, weftref7_joined.l1 n1 I0 in0 ic0 I1 in1 ic1 i3 i2 (.int .i64 i2) undef undef undef undef (.slice none 0 0) (.int .i64 i2) undef undef undef undef undef undef undef undef undef undef undef undef undef w R)
theorem weftref7_joined.s_eq (I0 : Option Addr) (in0 : Nat) (ic0 : Nat) (I1 : Option Addr) (in1 : Nat) (ic1 : Nat) (i2 : Int) (i3 : Int) (w : World) (R : Ending → World → Prop) : seg Try.prog entE weftref7_joined.ords weftref7_joined.joins Try.f48 [] [] [] ([.slice I0 in0 ic0, .slice I1 in1 ic1, .int .i64 i2, .int .i64 i3] ++ List.replicate (Try.f48.ntmps - ([.slice I0 in0 ic0, .slice I1 in1 ic1, .int .i64 i2, .int .i64 i3] : List Value).length) undef) w R = weftref7_joined.s I0 in0 ic0 I1 in1 ic1 i2 i3 w R := by kernel_rfl
theorem weftref7_joined.run {I0 : Option Addr} {in0 : Nat} {ic0 : Nat} {I1 : Option Addr} {in1 : Nat} {ic1 : Nat} {i2 : Int} {i3 : Int} {w : World} {R : Ending → World → Prop} (h : weftref7_joined.s I0 in0 ic0 I1 in1 ic1 i2 i3 w R) : Calls Try.prog 48 #[.slice I0 in0 ic0, .slice I1 in1 ic1, .int .i64 i2, .int .i64 i3] w R :=
  calls_seg ents mixed Try.func48 rfl (by rw [weftref7_joined.s_eq]; exact h)
/-! ### weftref7_typed: function 64 -/
def weftref7_typed.ords : Nat → Od
  | _ => .nil
def weftref7_typed.joins (p : List Nat) : Bool := false
def weftref7_typed.s (i0 : Int) (w : World) (R : Ending → World → Prop) : Prop :=
((if decide (i0 < 1536) = true then
(R (.returned (.int .i64 70)) w)
else
((if (i0 == 33024) = true then
(R (.returned (.int .i64 71)) w)
else
((if (i0 == 34984) = true then
(R (.returned (.int .i64 71)) w)
else
(R (.returned (.int .i64 0)) w)))))))
theorem weftref7_typed.s_eq (i0 : Int) (w : World) (R : Ending → World → Prop) : seg Try.prog entE weftref7_typed.ords weftref7_typed.joins Try.f64 [] [] [] ([.int .i64 i0] ++ List.replicate (Try.f64.ntmps - ([.int .i64 i0] : List Value).length) undef) w R = weftref7_typed.s i0 w R := by kernel_rfl
theorem weftref7_typed.run {i0 : Int} {w : World} {R : Ending → World → Prop} (h : weftref7_typed.s i0 w R) : Calls Try.prog 64 #[.int .i64 i0] w R :=
  calls_seg ents mixed Try.func64 rfl (by rw [weftref7_typed.s_eq]; exact h)
/-! ### weftref7_ParseFrame: function 43 -/
def weftref7_ParseFrame.ords : Nat → Od
  | _ => .nil
def weftref7_ParseFrame.joins (p : List Nat) : Bool := false
def weftref7_ParseFrame.l1 (n : Nat) (Y0 : Option Addr) (yn0 : Nat) (yc0 : Nat) (yg2 : Nat) (yg6 : Nat) (y7 : Int) (d1 d3 d4 d5 d8 d9 d10 d11 d12 d13 d14 d15 d16 d17 d18 d19 d20 d21 d22 d23 d24 d25 d26 d27 d28 d29 d30 d31 d32 d33 d34 d35 d36 d37 d38 d39 d40 d41 d42 d43 d44 d45 d46 d47 d48 d49 d50 : Value) (w : World) (R : Ending → World → Prop) : Prop :=
  lseg Try.prog entE weftref7_ParseFrame.ords weftref7_ParseFrame.joins Try.f43 [1, 1, 1, 1, 1, 1, 1, 0, 1, 0] [0, 1, 0, 1, 1, 1, 1, 1, 1, 1] [] n [.slice Y0 yn0 yc0, d1, .pointer (some ⟨yg2, 0, none⟩), d3, d4, d5, .pointer (some ⟨yg6, 0, none⟩), .int .i64 y7, d8, d9, d10, d11, d12, d13, d14, d15, d16, d17, d18, d19, d20, d21, d22, d23, d24, d25, d26, d27, d28, d29, d30, d31, d32, d33, d34, d35, d36, d37, d38, d39, d40, d41, d42, d43, d44, d45, d46, d47, d48, d49, d50] w R
abbrev weftref7_ParseFrame.L1 (n : Nat) (Y0 : Option Addr) (yn0 : Nat) (yc0 : Nat) (yg2 : Nat) (yg6 : Nat) (y7 : Int) (w : World) (R : Ending → World → Prop) : Prop := ∀ d1 d3 d4 d5 d8 d9 d10 d11 d12 d13 d14 d15 d16 d17 d18 d19 d20 d21 d22 d23 d24 d25 d26 d27 d28 d29 d30 d31 d32 d33 d34 d35 d36 d37 d38 d39 d40 d41 d42 d43 d44 d45 d46 d47 d48 d49 d50 : Value, weftref7_ParseFrame.l1 n Y0 yn0 yc0 yg2 yg6 y7 d1 d3 d4 d5 d8 d9 d10 d11 d12 d13 d14 d15 d16 d17 d18 d19 d20 d21 d22 d23 d24 d25 d26 d27 d28 d29 d30 d31 d32 d33 d34 d35 d36 d37 d38 d39 d40 d41 d42 d43 d44 d45 d46 d47 d48 d49 d50 w R
theorem weftref7_ParseFrame.l1_eq (n : Nat) (Y0 : Option Addr) (yn0 : Nat) (yc0 : Nat) (yg2 : Nat) (yg6 : Nat) (y7 : Int) (d1 d3 d4 d5 d8 d9 d10 d11 d12 d13 d14 d15 d16 d17 d18 d19 d20 d21 d22 d23 d24 d25 d26 d27 d28 d29 d30 d31 d32 d33 d34 d35 d36 d37 d38 d39 d40 d41 d42 d43 d44 d45 d46 d47 d48 d49 d50 : Value) (w : World) (R : Ending → World → Prop) : weftref7_ParseFrame.l1 (n + 1) Y0 yn0 yc0 yg2 yg6 y7 d1 d3 d4 d5 d8 d9 d10 d11 d12 d13 d14 d15 d16 d17 d18 d19 d20 d21 d22 d23 d24 d25 d26 d27 d28 d29 d30 d31 d32 d33 d34 d35 d36 d37 d38 d39 d40 d41 d42 d43 d44 d45 d46 d47 d48 d49 d50 w R =
((if decide (y7 < 6) = true then
(∃ a1 : Addr, Y0 = some a1 ∧ (0 ≤ y7 ∧ y7 < (yn0 : Int)) ∧
(∃ x2 : Int, w.cell? (a1.add y7.toNat) = some (.int .u8 x2) ∧
((0 ≤ (y7 : Int) ∧ (y7 : Int) < 6) ∧
(MayC w ((⟨yg6, 0, none⟩ : Addr).add y7.toNat) ∧
(Let (w.setCell ((⟨yg6, 0, none⟩ : Addr).add y7.toNat) (.int .u8 x2)) fun w3 : World =>
 Let (IntKind.i64.wrap (6 + y7)) fun x4 : Int =>
 ∃ a5 : Addr, Y0 = some a5 ∧ (0 ≤ x4 ∧ x4 < (yn0 : Int)) ∧
(∃ x6 : Int, w3.cell? (a5.add x4.toNat) = some (.int .u8 x6) ∧
((0 ≤ (y7 : Int) ∧ (y7 : Int) < 6) ∧
(MayC w3 ((⟨yg6, 6, none⟩ : Addr).add y7.toNat) ∧
(Let (w3.setCell ((⟨yg6, 6, none⟩ : Addr).add y7.toNat) (.int .u8 x6)) fun w7 : World =>
 Let (IntKind.i64.wrap (y7 + 1)) fun x8 : Int =>
 weftref7_ParseFrame.l1 n Y0 yn0 yc0 yg2 yg6 x8 d1 d3 d4 d5 d8 d9 d10 d11 d12 d13 d14 d15 d16 d17 d18 d19 d20 d21 d22 d23 d24 d25 d26 d27 d28 d29 d30 (.int .i64 y7) (.bool (decide (y7 < 6))) (.int .i64 y7) (.int .i64 x8) (.int .i64 y7) (.slice Y0 yn0 yc0) (.int .i64 y7) (.pointer (some (a1.add y7.toNat))) (.int .u8 x2) (.pointer (some ⟨yg6, 0, none⟩)) (.pointer (some ((⟨yg6, 0, none⟩ : Addr).add y7.toNat))) (.int .i64 y7) (.slice Y0 yn0 yc0) (.int .i64 y7) (.int .i64 x4) (.pointer (some (a5.add x4.toNat))) (.int .u8 x6) (.pointer (some ⟨yg6, 6, none⟩)) (.pointer (some ((⟨yg6, 6, none⟩ : Addr).add y7.toNat))) d50 w7 R)))))))))
else
(∃ x9 : Int, ∃ x10 : Int, ∃ x11 : Int, ∃ x12 : Int, ∃ x13 : Int, ∃ x14 : Int, ∃ x15 : Int, ∃ x16 : Int, ∃ x17 : Int, ∃ x18 : Int, ∃ x19 : Int, ∃ x20 : Int, ∃ x21 : Int, ∃ (A22 : Option Addr) (n22_ c22_ : Nat), (14 = 14 ∧ At w ⟨yg6, 0, none⟩ [.int .u8 x9, .int .u8 x10, .int .u8 x11, .int .u8 x12, .int .u8 x13, .int .u8 x14, .int .u8 x15, .int .u8 x16, .int .u8 x17, .int .u8 x18, .int .u8 x19, .int .u8 x20, .int .u16 x21, .slice A22 n22_ c22_]) ∧
(May w ⟨yg2, 0, none⟩ 14 ∧
(Let (putCells w ⟨yg2, 0, none⟩ [.int .u8 x9, .int .u8 x10, .int .u8 x11, .int .u8 x12, .int .u8 x13, .int .u8 x14, .int .u8 x15, .int .u8 x16, .int .u8 x17, .int .u8 x18, .int .u8 x19, .int .u8 x20, .int .u16 x21, .slice A22 n22_ c22_] 0) fun w23 : World =>
 ∃ x24 : Int, ∃ x25 : Int, ∃ x26 : Int, ∃ x27 : Int, ∃ x28 : Int, ∃ x29 : Int, ∃ x30 : Int, ∃ x31 : Int, ∃ x32 : Int, ∃ x33 : Int, ∃ x34 : Int, ∃ x35 : Int, ∃ x36 : Int, ∃ (A37 : Option Addr) (n37_ c37_ : Nat), (14 = 14 ∧ At w23 ⟨yg2, 0, none⟩ [.int .u8 x24, .int .u8 x25, .int .u8 x26, .int .u8 x27, .int .u8 x28, .int .u8 x29, .int .u8 x30, .int .u8 x31, .int .u8 x32, .int .u8 x33, .int .u8 x34, .int .u8 x35, .int .u16 x36, .slice A37 n37_ c37_]) ∧
(R (.returned (.tuple #[.agg #[.int .u8 x24, .int .u8 x25, .int .u8 x26, .int .u8 x27, .int .u8 x28, .int .u8 x29, .int .u8 x30, .int .u8 x31, .int .u8 x32, .int .u8 x33, .int .u8 x34, .int .u8 x35, .int .u16 x36, .slice A37 n37_ c37_], .int .i64 0])) w23)))))) := by kernel_rfl
def weftref7_ParseFrame.s (I0 : Option Addr) (in0 : Nat) (ic0 : Nat) (w : World) (R : Ending → World → Prop) : Prop :=
(Let (w.heap.size) fun g1 : Nat =>
 Let (w.alloc (.cells #[.int .u8 0, .int .u8 0, .int .u8 0, .int .u8 0, .int .u8 0, .int .u8 0, .int .u8 0, .int .u8 0, .int .u8 0, .int .u8 0, .int .u8 0, .int .u8 0, .int .u16 0, .slice none 0 0] 46)) fun w2 : World =>
(if decide ((in0 : Int) > 65499) = true then
(May w2 ⟨g1, 0, none⟩ 14 ∧
(Let (putCells w2 ⟨g1, 0, none⟩ [.int .u8 0, .int .u8 0, .int .u8 0, .int .u8 0, .int .u8 0, .int .u8 0, .int .u8 0, .int .u8 0, .int .u8 0, .int .u8 0, .int .u8 0, .int .u8 0, .int .u16 0, .slice none 0 0] 0) fun w3 : World =>
 ∃ x4 : Int, ∃ x5 : Int, ∃ x6 : Int, ∃ x7 : Int, ∃ x8 : Int, ∃ x9 : Int, ∃ x10 : Int, ∃ x11 : Int, ∃ x12 : Int, ∃ x13 : Int, ∃ x14 : Int, ∃ x15 : Int, ∃ x16 : Int, ∃ (A17 : Option Addr) (n17_ c17_ : Nat), (14 = 14 ∧ At w3 ⟨g1, 0, none⟩ [.int .u8 x4, .int .u8 x5, .int .u8 x6, .int .u8 x7, .int .u8 x8, .int .u8 x9, .int .u8 x10, .int .u8 x11, .int .u8 x12, .int .u8 x13, .int .u8 x14, .int .u8 x15, .int .u16 x16, .slice A17 n17_ c17_]) ∧
(R (.returned (.tuple #[.agg #[.int .u8 x4, .int .u8 x5, .int .u8 x6, .int .u8 x7, .int .u8 x8, .int .u8 x9, .int .u8 x10, .int .u8 x11, .int .u8 x12, .int .u8 x13, .int .u8 x14, .int .u8 x15, .int .u16 x16, .slice A17 n17_ c17_], .int .i64 2])) w3)))
else
((if decide ((in0 : Int) < 14) = true then
(May w2 ⟨g1, 0, none⟩ 14 ∧
(Let (putCells w2 ⟨g1, 0, none⟩ [.int .u8 0, .int .u8 0, .int .u8 0, .int .u8 0, .int .u8 0, .int .u8 0, .int .u8 0, .int .u8 0, .int .u8 0, .int .u8 0, .int .u8 0, .int .u8 0, .int .u16 0, .slice none 0 0] 0) fun w18 : World =>
 ∃ x19 : Int, ∃ x20 : Int, ∃ x21 : Int, ∃ x22 : Int, ∃ x23 : Int, ∃ x24 : Int, ∃ x25 : Int, ∃ x26 : Int, ∃ x27 : Int, ∃ x28 : Int, ∃ x29 : Int, ∃ x30 : Int, ∃ x31 : Int, ∃ (A32 : Option Addr) (n32_ c32_ : Nat), (14 = 14 ∧ At w18 ⟨g1, 0, none⟩ [.int .u8 x19, .int .u8 x20, .int .u8 x21, .int .u8 x22, .int .u8 x23, .int .u8 x24, .int .u8 x25, .int .u8 x26, .int .u8 x27, .int .u8 x28, .int .u8 x29, .int .u8 x30, .int .u16 x31, .slice A32 n32_ c32_]) ∧
(R (.returned (.tuple #[.agg #[.int .u8 x19, .int .u8 x20, .int .u8 x21, .int .u8 x22, .int .u8 x23, .int .u8 x24, .int .u8 x25, .int .u8 x26, .int .u8 x27, .int .u8 x28, .int .u8 x29, .int .u8 x30, .int .u16 x31, .slice A32 n32_ c32_], .int .i64 70])) w18)))
else
(Calls Try.prog 55 #[.slice I0 in0 ic0, .int .i64 12, .int .i64 2] w2 (fun (e34 : Ending) (w33 : World) =>
 ∃ x35 : Int, e34 = .returned (.int .i64 x35) ∧
(Calls Try.prog 64 #[.int .i64 x35] w33 (fun (e37 : Ending) (w36 : World) =>
 ∃ x38 : Int, e37 = .returned (.int .i64 x38) ∧
((if (x38 != 0) = true then
(May w36 ⟨g1, 0, none⟩ 14 ∧
(Let (putCells w36 ⟨g1, 0, none⟩ [.int .u8 0, .int .u8 0, .int .u8 0, .int .u8 0, .int .u8 0, .int .u8 0, .int .u8 0, .int .u8 0, .int .u8 0, .int .u8 0, .int .u8 0, .int .u8 0, .int .u16 0, .slice none 0 0] 0) fun w39 : World =>
 ∃ x40 : Int, ∃ x41 : Int, ∃ x42 : Int, ∃ x43 : Int, ∃ x44 : Int, ∃ x45 : Int, ∃ x46 : Int, ∃ x47 : Int, ∃ x48 : Int, ∃ x49 : Int, ∃ x50 : Int, ∃ x51 : Int, ∃ x52 : Int, ∃ (A53 : Option Addr) (n53_ c53_ : Nat), (14 = 14 ∧ At w39 ⟨g1, 0, none⟩ [.int .u8 x40, .int .u8 x41, .int .u8 x42, .int .u8 x43, .int .u8 x44, .int .u8 x45, .int .u8 x46, .int .u8 x47, .int .u8 x48, .int .u8 x49, .int .u8 x50, .int .u8 x51, .int .u16 x52, .slice A53 n53_ c53_]) ∧
(R (.returned (.tuple #[.agg #[.int .u8 x40, .int .u8 x41, .int .u8 x42, .int .u8 x43, .int .u8 x44, .int .u8 x45, .int .u8 x46, .int .u8 x47, .int .u8 x48, .int .u8 x49, .int .u8 x50, .int .u8 x51, .int .u16 x52, .slice A53 n53_ c53_], .int .i64 x38])) w39)))
else
(Let (IntKind.u16.wrap x35) fun x54 : Int =>
 Calls Try.prog 48 #[.slice none 0 0, .slice I0 in0 ic0, .int .i64 14, .int .i64 (in0 : Int)] w36 (fun (e56 : Ending) (w55 : World) =>
 ∃ (A57 : Option Addr) (n57_ c57_ : Nat), e56 = .returned (.slice A57 n57_ c57_) ∧
(Let (w55.heap.size) fun g58 : Nat =>
 Let (w55.alloc (.cells #[.int .u8 0, .int .u8 0, .int .u8 0, .int .u8 0, .int .u8 0, .int .u8 0, .int .u8 0, .int .u8 0, .int .u8 0, .int .u8 0, .int .u8 0, .int .u8 0, .int .u16 0, .slice none 0 0] 46)) fun w59 : World =>
 May w59 ⟨g58, 0, none⟩ 14 ∧
(Let (putCells w59 ⟨g58, 0, none⟩ [.int .u8 0, .int .u8 0, .int .u8 0, .int .u8 0, .int .u8 0, .int .u8 0, .int .u8 0, .int .u8 0, .int .u8 0, .int .u8 0, .int .u8 0, .int .u8 0, .int .u16 x54, .slice A57 n57_ c57_] 0) fun w60 : World =>
 ∃ n61 : Nat, weftref7_ParseFrame.l1 n61 I0 in0 ic0 g1 g58 0 undef (.int .i64 0) (.int .i64 x35) (.int .i64 x38) (.slice I0 in0 ic0) (.int .i64 (in0 : Int)) (.bool (decide ((in0 : Int) > 65499))) undef (.slice I0 in0 ic0) (.int .i64 (in0 : Int)) (.bool (decide ((in0 : Int) < 14))) undef (.slice I0 in0 ic0) (.int .i64 x35) (.int .i64 x35) (.int .i64 x38) (.int .i64 x38) (.bool (x38 != 0)) undef undef (.int .i64 x35) (.int .u16 x54) (.slice I0 in0 ic0) (.slice I0 in0 ic0) (.int .i64 (in0 : Int)) (.slice A57 n57_ c57_) (.agg #[.int .u8 0, .int .u8 0, .int .u8 0, .int .u8 0, .int .u8 0, .int .u8 0, .int .u8 0, .int .u8 0, .int .u8 0, .int .u8 0, .int .u8 0, .int .u8 0, .int .u16 x54, .slice A57 n57_ c57_]) undef undef undef undef undef undef undef undef undef undef undef undef undef undef undef undef undef undef undef undef w60 R))))))))))))))
theorem weftref7_ParseFrame.s_eq (I0 : Option Addr) (in0 : Nat) (ic0 : Nat) (w : World) (R : Ending → World → Prop) : seg Try.prog entE weftref7_ParseFrame.ords weftref7_ParseFrame.joins Try.f43 [] [] [] ([.slice I0 in0 ic0] ++ List.replicate (Try.f43.ntmps - ([.slice I0 in0 ic0] : List Value).length) undef) w R = weftref7_ParseFrame.s I0 in0 ic0 w R := by kernel_rfl
theorem weftref7_ParseFrame.run {I0 : Option Addr} {in0 : Nat} {ic0 : Nat} {w : World} {R : Ending → World → Prop} (h : weftref7_ParseFrame.s I0 in0 ic0 w R) : Calls Try.prog 43 #[.slice I0 in0 ic0] w R :=
  calls_seg ents mixed Try.func43 rfl (by rw [weftref7_ParseFrame.s_eq]; exact h)
/-! ### weftref7_BuildFrame: function 44 -/
def weftref7_BuildFrame.ords : Nat → Od
  | _ => .nil
def weftref7_BuildFrame.joins (p : List Nat) : Bool := false
def weftref7_BuildFrame.l1 (n : Nat) (yg1 : Nat) (Y5 : Option Addr) (yn5 : Nat) (yc5 : Nat) (y6 : Int) (d0 d2 d3 d4 d7 d8 d9 d10 d11 d12 d13 d14 d15 d16 d17 d18 d19 d20 d21 d22 d23 d24 d25 d26 d27 d28 d29 d30 d31 d32 d33 d34 d35 d36 d37 d38 d39 d40 d41 d42 d43 d44 d45 d46 d47 d48 d49 d50 d51 d52 d53 : Value) (w : World) (R : Ending → World → Prop) : Prop :=
  lseg Try.prog entE weftref7_BuildFrame.ords weftref7_BuildFrame.joins Try.f44 [1, 1, 1, 1, 1, 0, 1, 0] [0, 1, 0, 1, 1, 1, 1, 1] [] n [d0, .pointer (some ⟨yg1, 0, none⟩), d2, d3, d4, .slice Y5 yn5 yc5, .int .i64 y6, d7, d8, d9, d10, d11, d12, d13, d14, d15, d16, d17, d18, d19, d20, d21, d22, d23, d24, d25, d26, d27, d28, d29, d30, d31, d32, d33, d34, d35, d36, d37, d38, d39, d40, d41, d42, d43, d44, d45, d46, d47, d48, d49, d50, d51, d52, d53] w R
def weftref7_BuildFrame.l2 (n : Nat) (yg1 : Nat) (Y5 : Option Addr) (yn5 : Nat) (yc5 : Nat) (y7 : Int) (d0 d2 d3 d4 d6 d8 d9 d10 d11 d12 d13 d14 d15 d16 d17 d18 d19 d20 d21 d22 d23 d24 d25 d26 d27 d28 d29 d30 d31 d32 d33 d34 d35 d36 d37 d38 d39 d40 d41 d42 d43 d44 d45 d46 d47 d48 d49 d50 d51 d52 d53 : Value) (w : World) (R : Ending → World → Prop) : Prop :=
  lseg Try.prog entE weftref7_BuildFrame.ords weftref7_BuildFrame.joins Try.f44 [1, 1, 1, 1, 1, 1, 0, 1, 0] [0, 1, 0, 1, 1, 1, 1, 1, 1] [] n [d0, .pointer (some ⟨yg1, 0, none⟩), d2, d3, d4, .slice Y5 yn5 yc5, d6, .int .i64 y7, d8, d9, d10, d11, d12, d13, d14, d15, d16, d17, d18, d19, d20, d21, d22, d23, d24, d25, d26, d27, d28, d29, d30, d31, d32, d33, d34, d35, d36, d37, d38, d39, d40, d41, d42, d43, d44, d45, d46, d47, d48, d49, d50, d51, d52, d53] w R
abbrev weftref7_BuildFrame.L1 (n : Nat) (yg1 : Nat) (Y5 : Option Addr) (yn5 : Nat) (yc5 : Nat) (y6 : Int) (w : World) (R : Ending → World → Prop) : Prop := ∀ d0 d2 d3 d4 d7 d8 d9 d10 d11 d12 d13 d14 d15 d16 d17 d18 d19 d20 d21 d22 d23 d24 d25 d26 d27 d28 d29 d30 d31 d32 d33 d34 d35 d36 d37 d38 d39 d40 d41 d42 d43 d44 d45 d46 d47 d48 d49 d50 d51 d52 d53 : Value, weftref7_BuildFrame.l1 n yg1 Y5 yn5 yc5 y6 d0 d2 d3 d4 d7 d8 d9 d10 d11 d12 d13 d14 d15 d16 d17 d18 d19 d20 d21 d22 d23 d24 d25 d26 d27 d28 d29 d30 d31 d32 d33 d34 d35 d36 d37 d38 d39 d40 d41 d42 d43 d44 d45 d46 d47 d48 d49 d50 d51 d52 d53 w R
abbrev weftref7_BuildFrame.L2 (n : Nat) (yg1 : Nat) (Y5 : Option Addr) (yn5 : Nat) (yc5 : Nat) (y7 : Int) (w : World) (R : Ending → World → Prop) : Prop := ∀ d0 d2 d3 d4 d6 d8 d9 d10 d11 d12 d13 d14 d15 d16 d17 d18 d19 d20 d21 d22 d23 d24 d25 d26 d27 d28 d29 d30 d31 d32 d33 d34 d35 d36 d37 d38 d39 d40 d41 d42 d43 d44 d45 d46 d47 d48 d49 d50 d51 d52 d53 : Value, weftref7_BuildFrame.l2 n yg1 Y5 yn5 yc5 y7 d0 d2 d3 d4 d6 d8 d9 d10 d11 d12 d13 d14 d15 d16 d17 d18 d19 d20 d21 d22 d23 d24 d25 d26 d27 d28 d29 d30 d31 d32 d33 d34 d35 d36 d37 d38 d39 d40 d41 d42 d43 d44 d45 d46 d47 d48 d49 d50 d51 d52 d53 w R
theorem weftref7_BuildFrame.l1_eq (n : Nat) (yg1 : Nat) (Y5 : Option Addr) (yn5 : Nat) (yc5 : Nat) (y6 : Int) (d0 d2 d3 d4 d7 d8 d9 d10 d11 d12 d13 d14 d15 d16 d17 d18 d19 d20 d21 d22 d23 d24 d25 d26 d27 d28 d29 d30 d31 d32 d33 d34 d35 d36 d37 d38 d39 d40 d41 d42 d43 d44 d45 d46 d47 d48 d49 d50 d51 d52 d53 : Value) (w : World) (R : Ending → World → Prop) : weftref7_BuildFrame.l1 (n + 1) yg1 Y5 yn5 yc5 y6 d0 d2 d3 d4 d7 d8 d9 d10 d11 d12 d13 d14 d15 d16 d17 d18 d19 d20 d21 d22 d23 d24 d25 d26 d27 d28 d29 d30 d31 d32 d33 d34 d35 d36 d37 d38 d39 d40 d41 d42 d43 d44 d45 d46 d47 d48 d49 d50 d51 d52 d53 w R =
((if decide (y6 < 6) = true then
((0 ≤ (y6 : Int) ∧ (y6 : Int) < 6) ∧
(∃ x1 : Int, w.cell? ((⟨yg1, 0, none⟩ : Addr).add y6.toNat) = some (.int .u8 x1) ∧
(Let (w.heap.size) fun g2 : Nat =>
 Let (w.alloc (.cells #[.int .u8 x1] 5)) fun w3 : World =>
 AppE w3 1 1 5 [.int .u8 0] Y5 yn5 yc5 (some ⟨g2, 0, none⟩) 1 (fun (A4 : Option Addr) (c5 : Nat) (w6 : World) =>
 Let (IntKind.i64.wrap (y6 + 1)) fun x7 : Int =>
 weftref7_BuildFrame.l1 n yg1 A4 (yn5 + 1) c5 x7 d0 d2 d3 d4 d7 d8 d9 d10 d11 d12 d13 d14 d15 d16 d17 d18 (.int .i64 y6) (.bool (decide (y6 < 6))) (.int .i64 y6) (.int .i64 x7) (.slice Y5 yn5 yc5) (.int .i64 y6) (.pointer (some ⟨yg1, 0, none⟩)) (.pointer (some ((⟨yg1, 0, none⟩ : Addr).add y6.toNat))) (.int .u8 x1) (.slice (some ⟨g2, 0, none⟩) 1 1) (.slice A4 (yn5 + 1) c5) d30 d31 d32 d33 d34 d35 d36 d37 d38 d39 d40 d41 d42 d43 d44 d45 d46 d47 d48 d49 d50 d51 d52 d53 w6 R))))
else
(∃ n8 : Nat, weftref7_BuildFrame.l2 n8 yg1 Y5 yn5 yc5 0 d0 d2 d3 d4 (.int .i64 y6) d8 d9 d10 d11 d12 d13 d14 d15 d16 d17 d18 (.int .i64 y6) (.bool (decide (y6 < 6))) d21 d22 d23 d24 d25 d26 d27 d28 d29 d30 d31 d32 d33 d34 d35 d36 d37 d38 d39 d40 d41 d42 d43 d44 d45 d46 d47 d48 d49 d50 d51 d52 d53 w R))) := by kernel_rfl
theorem weftref7_BuildFrame.l2_eq (n : Nat) (yg1 : Nat) (Y5 : Option Addr) (yn5 : Nat) (yc5 : Nat) (y7 : Int) (d0 d2 d3 d4 d6 d8 d9 d10 d11 d12 d13 d14 d15 d16 d17 d18 d19 d20 d21 d22 d23 d24 d25 d26 d27 d28 d29 d30 d31 d32 d33 d34 d35 d36 d37 d38 d39 d40 d41 d42 d43 d44 d45 d46 d47 d48 d49 d50 d51 d52 d53 : Value) (w : World) (R : Ending → World → Prop) : weftref7_BuildFrame.l2 (n + 1) yg1 Y5 yn5 yc5 y7 d0 d2 d3 d4 d6 d8 d9 d10 d11 d12 d13 d14 d15 d16 d17 d18 d19 d20 d21 d22 d23 d24 d25 d26 d27 d28 d29 d30 d31 d32 d33 d34 d35 d36 d37 d38 d39 d40 d41 d42 d43 d44 d45 d46 d47 d48 d49 d50 d51 d52 d53 w R =
((if decide (y7 < 6) = true then
((0 ≤ (y7 : Int) ∧ (y7 : Int) < 6) ∧
(∃ x1 : Int, w.cell? ((⟨yg1, 6, none⟩ : Addr).add y7.toNat) = some (.int .u8 x1) ∧
(Let (w.heap.size) fun g2 : Nat =>
 Let (w.alloc (.cells #[.int .u8 x1] 5)) fun w3 : World =>
 AppE w3 1 1 5 [.int .u8 0] Y5 yn5 yc5 (some ⟨g2, 0, none⟩) 1 (fun (A4 : Option Addr) (c5 : Nat) (w6 : World) =>
 Let (IntKind.i64.wrap (y7 + 1)) fun x7 : Int =>
 weftref7_BuildFrame.l2 n yg1 A4 (yn5 + 1) c5 x7 d0 d2 d3 d4 d6 d8 d9 d10 d11 d12 d13 d14 d15 d16 d17 d18 d19 d20 d21 d22 d23 d24 d25 d26 d27 d28 d29 (.int .i64 y7) (.bool (decide (y7 < 6))) (.int .i64 y7) (.int .i64 x7) (.slice Y5 yn5 yc5) (.int .i64 y7) (.pointer (some ⟨yg1, 6, none⟩)) (.pointer (some ((⟨yg1, 6, none⟩ : Addr).add y7.toNat))) (.int .u8 x1) (.slice (some ⟨g2, 0, none⟩) 1 1) (.slice A4 (yn5 + 1) c5) d41 d42 d43 d44 d45 d46 d47 d48 d49 d50 d51 d52 d53 w6 R))))
else
(∃ x8 : Int, w.cell? ⟨yg1, 12, none⟩ = some (.int .u16 x8) ∧
(Let (IntKind.i64.wrap x8) fun x9 : Int =>
 Calls Try.prog 47 #[.slice Y5 yn5 yc5, .int .i64 x9, .int .i64 2] w (fun (e11 : Ending) (w10 : World) =>
 ∃ (A12 : Option Addr) (n12_ c12_ : Nat), e11 = .returned (.slice A12 n12_ c12_) ∧
(∃ (A13 : Option Addr) (n13_ c13_ : Nat), w10.cell? ⟨yg1, 13, none⟩ = some (.slice A13 n13_ c13_) ∧
(∃ (A14 : Option Addr) (n14_ c14_ : Nat), w10.cell? ⟨yg1, 13, none⟩ = some (.slice A14 n14_ c14_) ∧
(Calls Try.prog 48 #[.slice A12 n12_ c12_, .slice A13 n13_ c13_, .int .i64 0, .int .i64 (n14_ : Int)] w10 (fun (e16 : Ending) (w15 : World) =>
 ∃ (A17 : Option Addr) (n17_ c17_ : Nat), e16 = .returned (.slice A17 n17_ c17_) ∧
(R (.returned (.tuple #[.slice A17 n17_ c17_, .int .i64 0])) w15)))))))))) := by kernel_rfl
def weftref7_BuildFrame.s (i0_0 : Int) (i0_1 : Int) (i0_2 : Int) (i0_3 : Int) (i0_4 : Int) (i0_5 : Int) (i0_6 : Int) (i0_7 : Int) (i0_8 : Int) (i0_9 : Int) (i0_10 : Int) (i0_11 : Int) (i0_12 : Int) (I0_13 : Option Addr) (in0_13 : Nat) (ic0_13 : Nat) (w : World) (R : Ending → World → Prop) : Prop :=
(Let (w.heap.size) fun g1 : Nat =>
 Let (w.alloc (.cells #[.int .u8 i0_0, .int .u8 i0_1, .int .u8 i0_2, .int .u8 i0_3, .int .u8 i0_4, .int .u8 i0_5, .int .u8 i0_6, .int .u8 i0_7, .int .u8 i0_8, .int .u8 i0_9, .int .u8 i0_10, .int .u8 i0_11, .int .u16 i0_12, .slice I0_13 in0_13 ic0_13] 46)) fun w2 : World =>
 ∃ (A3 : Option Addr) (n3_ c3_ : Nat), w2.cell? ⟨g1, 13, none⟩ = some (.slice A3 n3_ c3_) ∧
((if decide ((n3_ : Int) > 65485) = true then
(R (.returned (.tuple #[.slice none 0 0, .int .i64 2])) w2)
else
(∃ x4 : Int, w2.cell? ⟨g1, 12, none⟩ = some (.int .u16 x4) ∧
(Let (IntKind.i64.wrap x4) fun x5 : Int =>
 Calls Try.prog 64 #[.int .i64 x5] w2 (fun (e7 : Ending) (w6 : World) =>
 ∃ x8 : Int, e7 = .returned (.int .i64 x8) ∧
((if (x8 != 0) = true then
(R (.returned (.tuple #[.slice none 0 0, .int .i64 x8])) w6)
else
(∃ n9 : Nat, weftref7_BuildFrame.l1 n9 g1 none 0 0 0 (.agg #[.int .u8 i0_0, .int .u8 i0_1, .int .u8 i0_2, .int .u8 i0_3, .int .u8 i0_4, .int .u8 i0_5, .int .u8 i0_6, .int .u8 i0_7, .int .u8 i0_8, .int .u8 i0_9, .int .u8 i0_10, .int .u8 i0_11, .int .u16 i0_12, .slice I0_13 in0_13 ic0_13]) (.slice none 0 0) (.int .i64 0) (.int .i64 x8) undef (.pointer (some ⟨g1, 13, none⟩)) (.slice A3 n3_ c3_) (.int .i64 (n3_ : Int)) (.bool (decide ((n3_ : Int) > 65485))) (.pointer (some ⟨g1, 12, none⟩)) (.int .u16 x4) (.int .i64 x5) (.int .i64 x8) (.int .i64 x8) (.bool (x8 != 0)) undef undef undef undef undef undef undef undef undef undef undef undef undef undef undef undef undef undef undef undef undef undef undef undef undef undef undef undef undef undef undef undef undef undef undef undef w6 R)))))))))
theorem weftref7_BuildFrame.s_eq (i0_0 : Int) (i0_1 : Int) (i0_2 : Int) (i0_3 : Int) (i0_4 : Int) (i0_5 : Int) (i0_6 : Int) (i0_7 : Int) (i0_8 : Int) (i0_9 : Int) (i0_10 : Int) (i0_11 : Int) (i0_12 : Int) (I0_13 : Option Addr) (in0_13 : Nat) (ic0_13 : Nat) (w : World) (R : Ending → World → Prop) : seg Try.prog entE weftref7_BuildFrame.ords weftref7_BuildFrame.joins Try.f44 [] [] [] ([.agg #[.int .u8 i0_0, .int .u8 i0_1, .int .u8 i0_2, .int .u8 i0_3, .int .u8 i0_4, .int .u8 i0_5, .int .u8 i0_6, .int .u8 i0_7, .int .u8 i0_8, .int .u8 i0_9, .int .u8 i0_10, .int .u8 i0_11, .int .u16 i0_12, .slice I0_13 in0_13 ic0_13]] ++ List.replicate (Try.f44.ntmps - ([.agg #[.int .u8 i0_0, .int .u8 i0_1, .int .u8 i0_2, .int .u8 i0_3, .int .u8 i0_4, .int .u8 i0_5, .int .u8 i0_6, .int .u8 i0_7, .int .u8 i0_8, .int .u8 i0_9, .int .u8 i0_10, .int .u8 i0_11, .int .u16 i0_12, .slice I0_13 in0_13 ic0_13]] : List Value).length) undef) w R = weftref7_BuildFrame.s i0_0 i0_1 i0_2 i0_3 i0_4 i0_5 i0_6 i0_7 i0_8 i0_9 i0_10 i0_11 i0_12 I0_13 in0_13 ic0_13 w R := by kernel_rfl
theorem weftref7_BuildFrame.run {i0_0 : Int} {i0_1 : Int} {i0_2 : Int} {i0_3 : Int} {i0_4 : Int} {i0_5 : Int} {i0_6 : Int} {i0_7 : Int} {i0_8 : Int} {i0_9 : Int} {i0_10 : Int} {i0_11 : Int} {i0_12 : Int} {I0_13 : Option Addr} {in0_13 : Nat} {ic0_13 : Nat} {w : World} {R : Ending → World → Prop} (h : weftref7_BuildFrame.s i0_0 i0_1 i0_2 i0_3 i0_4 i0_5 i0_6 i0_7 i0_8 i0_9 i0_10 i0_11 i0_12 I0_13 in0_13 ic0_13 w R) : Calls Try.prog 44 #[.agg #[.int .u8 i0_0, .int .u8 i0_1, .int .u8 i0_2, .int .u8 i0_3, .int .u8 i0_4, .int .u8 i0_5, .int .u8 i0_6, .int .u8 i0_7, .int .u8 i0_8, .int .u8 i0_9, .int .u8 i0_10, .int .u8 i0_11, .int .u16 i0_12, .slice I0_13 in0_13 ic0_13]] w R :=
  calls_seg ents mixed Try.func44 rfl (by rw [weftref7_BuildFrame.s_eq]; exact h)
/-! ### weftref7_covered: function 61 -/
def weftref7_covered.ords : Nat → Od
  | _ => .nil
def weftref7_covered.joins (p : List Nat) : Bool := false
def weftref7_covered.s (i0 : Int) (i1 : Int) (I2 : Option Addr) (in2 : Nat) (ic2 : Nat) (i3 : Int) (w : World) (R : Ending → World → Prop) : Prop :=
(Let (IntKind.i64.wrap i0) fun x1 : Int =>
 Calls Try.prog 47 #[.slice none 0 0, .int .i64 x1, .int .i64 4] w (fun (e3 : Ending) (w2 : World) =>
 ∃ (A4 : Option Addr) (n4_ c4_ : Nat), e3 = .returned (.slice A4 n4_ c4_) ∧
(Let (IntKind.i64.wrap i1) fun x5 : Int =>
 Calls Try.prog 47 #[.slice A4 n4_ c4_, .int .i64 x5, .int .i64 4] w2 (fun (e7 : Ending) (w6 : World) =>
 ∃ (A8 : Option Addr) (n8_ c8_ : Nat), e7 = .returned (.slice A8 n8_ c8_) ∧
(Let (w6.heap.size) fun g9 : Nat =>
 Let (w6.alloc (.cells #[.int .u8 0, .int .u8 17] 5)) fun w10 : World =>
 AppE w10 1 1 5 [.int .u8 0] A8 n8_ c8_ (some ⟨g9, 0, none⟩) 2 (fun (A11 : Option Addr) (c12 : Nat) (w13 : World) =>
 Calls Try.prog 47 #[.slice A11 (n8_ + 2) c12, .int .i64 i3, .int .i64 2] w13 (fun (e15 : Ending) (w14 : World) =>
 ∃ (A16 : Option Addr) (n16_ c16_ : Nat), e15 = .returned (.slice A16 n16_ c16_) ∧
(Calls Try.prog 48 #[.slice A16 n16_ c16_, .slice I2 in2 ic2, .int .i64 0, .int .i64 i3] w14 (fun (e18 : Ending) (w17 : World) =>
 ∃ (A19 : Option Addr) (n19_ c19_ : Nat), e18 = .returned (.slice A19 n19_ c19_) ∧
(R (.returned (.slice A19 n19_ c19_)) w17))))))))))
theorem weftref7_covered.s_eq (i0 : Int) (i1 : Int) (I2 : Option Addr) (in2 : Nat) (ic2 : Nat) (i3 : Int) (w : World) (R : Ending → World → Prop) : seg Try.prog entE weftref7_covered.ords weftref7_covered.joins Try.f61 [] [] [] ([.int .u32 i0, .int .u32 i1, .slice I2 in2 ic2, .int .i64 i3] ++ List.replicate (Try.f61.ntmps - ([.int .u32 i0, .int .u32 i1, .slice I2 in2 ic2, .int .i64 i3] : List Value).length) undef) w R = weftref7_covered.s i0 i1 I2 in2 ic2 i3 w R := by kernel_rfl
theorem weftref7_covered.run {i0 : Int} {i1 : Int} {I2 : Option Addr} {in2 : Nat} {ic2 : Nat} {i3 : Int} {w : World} {R : Ending → World → Prop} (h : weftref7_covered.s i0 i1 I2 in2 ic2 i3 w R) : Calls Try.prog 61 #[.int .u32 i0, .int .u32 i1, .slice I2 in2 ic2, .int .i64 i3] w R :=
  calls_seg ents mixed Try.func61 rfl (by rw [weftref7_covered.s_eq]; exact h)
/-! ### weftref7_ParseUDP: function 37 -/
def weftref7_ParseUDP.ords : Nat → Od
  | _ => .nil
def weftref7_ParseUDP.joins (p : List Nat) : Bool := p == [1, 1, 1, 1, 1] || p == [1, 1, 1, 1, 1, 1, 1]
def weftref7_ParseUDP.j1 (y0 : Int) (y1 : Int) (Y2 : Option Addr) (yn2 : Nat) (yc2 : Nat) (yg6 : Nat) (y8 : Int) (d3 d4 d5 d7 d9 d10 d11 d12 d13 d14 d15 d16 d17 d18 d19 d20 d21 d22 d23 d24 d25 d26 d27 d28 d29 d30 d31 d32 d33 d34 d35 d36 d37 d38 d39 d40 d41 d42 d43 d44 d45 d46 d47 d48 d49 d50 d51 d52 d53 d54 d55 d56 d57 d58 d59 : Value) (w : World) (R : Ending → World → Prop) : Prop :=
  seg Try.prog entE weftref7_ParseUDP.ords weftref7_ParseUDP.joins Try.f37 [1, 1, 1, 1, 1] [1, 1, 1, 1, 1] [] [.int .u32 y0, .int .u32 y1, .slice Y2 yn2 yc2, d3, d4, d5, .pointer (some ⟨yg6, 0, none⟩), d7, .int .i64 y8, d9, d10, d11, d12, d13, d14, d15, d16, d17, d18, d19, d20, d21, d22, d23, d24, d25, d26, d27, d28, d29, d30, d31, d32, d33, d34, d35, d36, d37, d38, d39, d40, d41, d42, d43, d44, d45, d46, d47, d48, d49, d50, d51, d52, d53, d54, d55, d56, d57, d58, d59] w R
def weftref7_ParseUDP.j2 (Y2 : Option Addr) (yn2 : Nat) (yc2 : Nat) (yg6 : Nat) (y8 : Int) (d0 d1 d3 d4 d5 d7 d9 d10 d11 d12 d13 d14 d15 d16 d17 d18 d19 d20 d21 d22 d23 d24 d25 d26 d27 d28 d29 d30 d31 d32 d33 d34 d35 d36 d37 d38 d39 d40 d41 d42 d43 d44 d45 d46 d47 d48 d49 d50 d51 d52 d53 d54 d55 d56 d57 d58 d59 : Value) (w : World) (R : Ending → World → Prop) : Prop :=
  seg Try.prog entE weftref7_ParseUDP.ords weftref7_ParseUDP.joins Try.f37 [1, 1, 1, 1, 1, 1, 1] [1, 1, 1, 1, 1, 1, 1] [] [d0, d1, .slice Y2 yn2 yc2, d3, d4, d5, .pointer (some ⟨yg6, 0, none⟩), d7, .int .i64 y8, d9, d10, d11, d12, d13, d14, d15, d16, d17, d18, d19, d20, d21, d22, d23, d24, d25, d26, d27, d28, d29, d30, d31, d32, d33, d34, d35, d36, d37, d38, d39, d40, d41, d42, d43, d44, d45, d46, d47, d48, d49, d50, d51, d52, d53, d54, d55, d56, d57, d58, d59] w R
abbrev weftref7_ParseUDP.J1 (y0 : Int) (y1 : Int) (Y2 : Option Addr) (yn2 : Nat) (yc2 : Nat) (yg6 : Nat) (y8 : Int) (w : World) (R : Ending → World → Prop) : Prop := ∀ d3 d4 d5 d7 d9 d10 d11 d12 d13 d14 d15 d16 d17 d18 d19 d20 d21 d22 d23 d24 d25 d26 d27 d28 d29 d30 d31 d32 d33 d34 d35 d36 d37 d38 d39 d40 d41 d42 d43 d44 d45 d46 d47 d48 d49 d50 d51 d52 d53 d54 d55 d56 d57 d58 d59 : Value, weftref7_ParseUDP.j1 y0 y1 Y2 yn2 yc2 yg6 y8 d3 d4 d5 d7 d9 d10 d11 d12 d13 d14 d15 d16 d17 d18 d19 d20 d21 d22 d23 d24 d25 d26 d27 d28 d29 d30 d31 d32 d33 d34 d35 d36 d37 d38 d39 d40 d41 d42 d43 d44 d45 d46 d47 d48 d49 d50 d51 d52 d53 d54 d55 d56 d57 d58 d59 w R
abbrev weftref7_ParseUDP.J2 (Y2 : Option Addr) (yn2 : Nat) (yc2 : Nat) (yg6 : Nat) (y8 : Int) (w : World) (R : Ending → World → Prop) : Prop := ∀ d0 d1 d3 d4 d5 d7 d9 d10 d11 d12 d13 d14 d15 d16 d17 d18 d19 d20 d21 d22 d23 d24 d25 d26 d27 d28 d29 d30 d31 d32 d33 d34 d35 d36 d37 d38 d39 d40 d41 d42 d43 d44 d45 d46 d47 d48 d49 d50 d51 d52 d53 d54 d55 d56 d57 d58 d59 : Value, weftref7_ParseUDP.j2 Y2 yn2 yc2 yg6 y8 d0 d1 d3 d4 d5 d7 d9 d10 d11 d12 d13 d14 d15 d16 d17 d18 d19 d20 d21 d22 d23 d24 d25 d26 d27 d28 d29 d30 d31 d32 d33 d34 d35 d36 d37 d38 d39 d40 d41 d42 d43 d44 d45 d46 d47 d48 d49 d50 d51 d52 d53 d54 d55 d56 d57 d58 d59 w R
theorem weftref7_ParseUDP.j1_eq (y0 : Int) (y1 : Int) (Y2 : Option Addr) (yn2 : Nat) (yc2 : Nat) (yg6 : Nat) (y8 : Int) (d3 d4 d5 d7 d9 d10 d11 d12 d13 d14 d15 d16 d17 d18 d19 d20 d21 d22 d23 d24 d25 d26 d27 d28 d29 d30 d31 d32 d33 d34 d35 d36 d37 d38 d39 d40 d41 d42 d43 d44 d45 d46 d47 d48 d49 d50 d51 d52 d53 d54 d55 d56 d57 d58 d59 : Value) (w : World) (R : Ending → World → Prop) : weftref7_ParseUDP.j1 y0 y1 Y2 yn2 yc2 yg6 y8 d3 d4 d5 d7 d9 d10 d11 d12 d13 d14 d15 d16 d17 d18 d19 d20 d21 d22 d23 d24 d25 d26 d27 d28 d29 d30 d31 d32 d33 d34 d35 d36 d37 d38 d39 d40 d41 d42 d43 d44 d45 d46 d47 d48 d49 d50 d51 d52 d53 d54 d55 d56 d57 d58 d59 w R =
(Calls Try.prog 55 #[.slice Y2 yn2 yc2, .int .i64 6, .int .i64 2] w (fun (e2 : Ending) (w1 : World) =>
 ∃ x3 : Int, e2 = .returned (.int .i64 x3) ∧
((if (x3 != 0) = true then
(Calls Try.prog 61 #[.int .u32 y0, .int .u32 y1, .slice Y2 yn2 yc2, .int .i64 y8] w1 (fun (e5 : Ending) (w4 : World) =>
 ∃ (A6 : Option Addr) (n6_ c6_ : Nat), e5 = .returned (.slice A6 n6_ c6_) ∧
(Let (w4.heap.size) fun g7 : Nat =>
 Let (w4.alloc (.cells #[.slice A6 n6_ c6_] 28)) fun w8 : World =>
 Calls Try.prog 62 #[.slice (some ⟨g7, 0, none⟩) 1 1] w8 (fun (e10 : Ending) (w9 : World) =>
 ∃ x11 : Int, e10 = .returned (.int .u16 x11) ∧
((if (x11 != 0) = true then
(May w9 ⟨yg6, 0, none⟩ 3 ∧
(Let (putCells w9 ⟨yg6, 0, none⟩ [.int .u16 0, .int .u16 0, .slice none 0 0] 0) fun w12 : World =>
 ∃ x13 : Int, ∃ x14 : Int, ∃ (A15 : Option Addr) (n15_ c15_ : Nat), (3 = 3 ∧ At w12 ⟨yg6, 0, none⟩ [.int .u16 x13, .int .u16 x14, .slice A15 n15_ c15_]) ∧
(R (.returned (.tuple #[.agg #[.int .u16 x13, .int .u16 x14, .slice A15 n15_ c15_], .int .i64 73])) w12)))
else
(Leaf (weftref7_ParseUDP.j2 Y2 yn2 yc2 yg6 y8 (.int .u32 y0) (.int .u32 y1) d3 d4 d5 d7 (.int .i64 x3) (.slice A6 n6_ c6_) (.int .u16 x11) d12 d13 d14 d15 d16 d17 d18 d19 d20 d21 d22 d23 d24 d25 d26 d27 d28 d29 d30 d31 d32 (.slice Y2 yn2 yc2) (.int .i64 x3) (.int .i64 x3) (.bool (x3 != 0)) (.int .u32 y0) (.int .u32 y1) (.slice Y2 yn2 yc2) (.int .i64 y8) (.slice A6 n6_ c6_) (.slice A6 n6_ c6_) (.slice (some ⟨g7, 0, none⟩) 1 1) (.int .u16 x11) (.int .u16 x11) (.bool (x11 != 0)) d47 d48 d49 d50 d51 d52 d53 d54 d55 d56 d57 d58 d59 w9 R))))))))
else
(Leaf (weftref7_ParseUDP.j2 Y2 yn2 yc2 yg6 y8 (.int .u32 y0) (.int .u32 y1) d3 d4 d5 d7 (.int .i64 x3) d10 d11 d12 d13 d14 d15 d16 d17 d18 d19 d20 d21 d22 d23 d24 d25 d26 d27 d28 d29 d30 d31 d32 (.slice Y2 yn2 yc2) (.int .i64 x3) (.int .i64 x3) (.bool (x3 != 0)) d37 d38 d39 d40 d41 d42 d43 d44 d45 d46 d47 d48 d49 d50 d51 d52 d53 d54 d55 d56 d57 d58 d59 w1 R)))))) := by kernel_rfl
theorem weftref7_ParseUDP.j2_eq (Y2 : Option Addr) (yn2 : Nat) (yc2 : Nat) (yg6 : Nat) (y8 : Int) (d0 d1 d3 d4 d5 d7 d9 d10 d11 d12 d13 d14 d15 d16 d17 d18 d19 d20 d21 d22 d23 d24 d25 d26 d27 d28 d29 d30 d31 d32 d33 d34 d35 d36 d37 d38 d39 d40 d41 d42 d43 d44 d45 d46 d47 d48 d49 d50 d51 d52 d53 d54 d55 d56 d57 d58 d59 : Value) (w : World) (R : Ending → World → Prop) : weftref7_ParseUDP.j2 Y2 yn2 yc2 yg6 y8 d0 d1 d3 d4 d5 d7 d9 d10 d11 d12 d13 d14 d15 d16 d17 d18 d19 d20 d21 d22 d23 d24 d25 d26 d27 d28 d29 d30 d31 d32 d33 d34 d35 d36 d37 d38 d39 d40 d41 d42 d43 d44 d45 d46 d47 d48 d49 d50 d51 d52 d53 d54 d55 d56 d57 d58 d59 w R =
(Calls Try.prog 55 #[.slice Y2 yn2 yc2, .int .i64 0, .int .i64 2] w (fun (e2 : Ending) (w1 : World) =>
 ∃ x3 : Int, e2 = .returned (.int .i64 x3) ∧
(Calls Try.prog 55 #[.slice Y2 yn2 yc2, .int .i64 2, .int .i64 2] w1 (fun (e5 : Ending) (w4 : World) =>
 ∃ x6 : Int, e5 = .returned (.int .i64 x6) ∧
(Let (IntKind.u16.wrap x3) fun x7 : Int =>
 Let (IntKind.u16.wrap x6) fun x8 : Int =>
 Calls Try.prog 48 #[.slice none 0 0, .slice Y2 yn2 yc2, .int .i64 8, .int .i64 y8] w4 (fun (e10 : Ending) (w9 : World) =>
 ∃ (A11 : Option Addr) (n11_ c11_ : Nat), e10 = .returned (.slice A11 n11_ c11_) ∧
(May w9 ⟨yg6, 0, none⟩ 3 ∧
(Let (putCells w9 ⟨yg6, 0, none⟩ [.int .u16 x7, .int .u16 x8, .slice A11 n11_ c11_] 0) fun w12 : World =>
 ∃ x13 : Int, ∃ x14 : Int, ∃ (A15 : Option Addr) (n15_ c15_ : Nat), (3 = 3 ∧ At w12 ⟨yg6, 0, none⟩ [.int .u16 x13, .int .u16 x14, .slice A15 n15_ c15_]) ∧
(R (.returned (.tuple #[.agg #[.int .u16 x13, .int .u16 x14, .slice A15 n15_ c15_], .int .i64 0])) w12))))))))) := by kernel_rfl
def weftref7_ParseUDP.s (i0 : Int) (i1 : Int) (I2 : Option Addr) (in2 : Nat) (ic2 : Nat) (w : World) (R : Ending → World → Prop) : Prop :=
(Let (w.heap.size) fun g1 : Nat =>
 Let (w.alloc (.cells #[.int .u16 0, .int .u16 0, .slice none 0 0] 30)) fun w2 : World =>
(if decide ((in2 : Int) > 65535) = true then
(May w2 ⟨g1, 0, none⟩ 3 ∧
(Let (putCells w2 ⟨g1, 0, none⟩ [.int .u16 0, .int .u16 0, .slice none 0 0] 0) fun w3 : World =>
 ∃ x4 : Int, ∃ x5 : Int, ∃ (A6 : Option Addr) (n6_ c6_ : Nat), (3 = 3 ∧ At w3 ⟨g1, 0, none⟩ [.int .u16 x4, .int .u16 x5, .slice A6 n6_ c6_]) ∧
(R (.returned (.tuple #[.agg #[.int .u16 x4, .int .u16 x5, .slice A6 n6_ c6_], .int .i64 2])) w3)))
else
((if decide ((in2 : Int) < 8) = true then
(May w2 ⟨g1, 0, none⟩ 3 ∧
(Let (putCells w2 ⟨g1, 0, none⟩ [.int .u16 0, .int .u16 0, .slice none 0 0] 0) fun w7 : World =>
 ∃ x8 : Int, ∃ x9 : Int, ∃ (A10 : Option Addr) (n10_ c10_ : Nat), (3 = 3 ∧ At w7 ⟨g1, 0, none⟩ [.int .u16 x8, .int .u16 x9, .slice A10 n10_ c10_]) ∧
(R (.returned (.tuple #[.agg #[.int .u16 x8, .int .u16 x9, .slice A10 n10_ c10_], .int .i64 72])) w7)))
else
(Calls Try.prog 55 #[.slice I2 in2 ic2, .int .i64 4, .int .i64 2] w2 (fun (e12 : Ending) (w11 : World) =>
 ∃ x13 : Int, e12 = .returned (.int .i64 x13) ∧
((if decide (x13 < 8) = true then
(May w11 ⟨g1, 0, none⟩ 3 ∧
(Let (putCells w11 ⟨g1, 0, none⟩ [.int .u16 0, .int .u16 0, .slice none 0 0] 0) fun w14 : World =>
 ∃ x15 : Int, ∃ x16 : Int, ∃ (A17 : Option Addr) (n17_ c17_ : Nat), (3 = 3 ∧ At w14 ⟨g1, 0, none⟩ [.int .u16 x15, .int .u16 x16, .slice A17 n17_ c17_]) ∧
(R (.returned (.tuple #[.agg #[.int .u16 x15, .int .u16 x16, .slice A17 n17_ c17_], .int .i64 72])) w14)))
else
((if decide (x13 > (in2 : Int)) = true then
(May w11 ⟨g1, 0, none⟩ 3 ∧
(Let (putCells w11 ⟨g1, 0, none⟩ [.int .u16 0, .int .u16 0, .slice none 0 0] 0) fun w18 : World =>
 ∃ x19 : Int, ∃ x20 : Int, ∃ (A21 : Option Addr) (n21_ c21_ : Nat), (3 = 3 ∧ At w18 ⟨g1, 0, none⟩ [.int .u16 x19, .int .u16 x20, .slice A21 n21_ c21_]) ∧
(R (.returned (.tuple #[.agg #[.int .u16 x19, .int .u16 x20, .slice A21 n21_ c21_], .int .i64 72])) w18)))
else
(Leaf (weftref7_ParseUDP.j1 i0 i1 I2 in2 ic2 g1 x13 undef undef undef (.int .i64 0) undef undef undef undef undef (.slice I2 in2 ic2) (.int .i64 (in2 : Int)) (.bool (decide ((in2 : Int) > 65535))) undef (.slice I2 in2 ic2) (.int .i64 (in2 : Int)) (.bool (decide ((in2 : Int) < 8))) undef (.slice I2 in2 ic2) (.int .i64 x13) (.int .i64 x13) (.bool (decide (x13 < 8))) (.bool false) (.int .i64 x13) (.slice I2 in2 ic2) (.int .i64 (in2 : Int)) (.bool (decide (x13 > (in2 : Int)))) (.bool (decide (x13 > (in2 : Int)))) undef undef undef undef undef undef undef undef undef undef undef undef undef undef undef undef undef undef undef undef undef undef undef undef undef undef undef undef w11 R))))))))))))
theorem weftref7_ParseUDP.s_eq (i0 : Int) (i1 : Int) (I2 : Option Addr) (in2 : Nat) (ic2 : Nat) (w : World) (R : Ending → World → Prop) : seg Try.prog entE weftref7_ParseUDP.ords weftref7_ParseUDP.joins Try.f37 [] [] [] ([.int .u32 i0, .int .u32 i1, .slice I2 in2 ic2] ++ List.replicate (Try.f37.ntmps - ([.int .u32 i0, .int .u32 i1, .slice I2 in2 ic2] : List Value).length) undef) w R = weftref7_ParseUDP.s i0 i1 I2 in2 ic2 w R := by kernel_rfl
theorem weftref7_ParseUDP.run {i0 : Int} {i1 : Int} {I2 : Option Addr} {in2 : Nat} {ic2 : Nat} {w : World} {R : Ending → World → Prop} (h : weftref7_ParseUDP.s i0 i1 I2 in2 ic2 w R) : Calls Try.prog 37 #[.int .u32 i0, .int .u32 i1, .slice I2 in2 ic2] w R :=
  calls_seg ents mixed Try.func37 rfl (by rw [weftref7_ParseUDP.s_eq]; exact h)
/-! ### weftref7_BuildUDP: function 36 -/
def weftref7_BuildUDP.ords : Nat → Od
  | _ => .nil
def weftref7_BuildUDP.joins (p : List Nat) : Bool := p == [1, 1, 1, 0, 1, 0, 1, 1, 1, 1, 1, 1, 1, 1, 1]
def weftref7_BuildUDP.j1 (Y11 : Option Addr) (yn11 : Nat) (yc11 : Nat) (y13 : Int) (d0 d1 d2 d3 d4 d5 d6 d7 d8 d9 d10 d12 d14 d15 d16 d17 d18 d19 d20 d21 d22 d23 d24 d25 d26 d27 d28 d29 d30 d31 d32 d33 d34 d35 d36 d37 d38 d39 d40 d41 d42 d43 d44 d45 d46 d47 d48 d49 d50 d51 d52 d53 d54 d55 d56 d57 d58 d59 d60 d61 d62 d63 d64 d65 d66 : Value) (w : World) (R : Ending → World → Prop) : Prop :=
  seg Try.prog entE weftref7_BuildUDP.ords weftref7_BuildUDP.joins Try.f36 [1, 1, 1, 1, 1, 1, 1, 1, 1, 0, 1, 0, 1, 1, 1] [1, 1, 1, 0, 1, 0, 1, 1, 1, 1, 1, 1, 1, 1, 1] [] [d0, d1, d2, d3, d4, d5, d6, d7, d8, d9, d10, .slice Y11 yn11 yc11, d12, .int .i64 y13, d14, d15, d16, d17, d18, d19, d20, d21, d22, d23, d24, d25, d26, d27, d28, d29, d30, d31, d32, d33, d34, d35, d36, d37, d38, d39, d40, d41, d42, d43, d44, d45, d46, d47, d48, d49, d50, d51, d52, d53, d54, d55, d56, d57, d58, d59, d60, d61, d62, d63, d64, d65, d66] w R
abbrev weftref7_BuildUDP.J1 (Y11 : Option Addr) (yn11 : Nat) (yc11 : Nat) (y13 : Int) (w : World) (R : Ending → World → Prop) : Prop := ∀ d0 d1 d2 d3 d4 d5 d6 d7 d8 d9 d10 d12 d14 d15 d16 d17 d18 d19 d20 d21 d22 d23 d24 d25 d26 d27 d28 d29 d30 d31 d32 d33 d34 d35 d36 d37 d38 d39 d40 d41 d42 d43 d44 d45 d46 d47 d48 d49 d50 d51 d52 d53 d54 d55 d56 d57 d58 d59 d60 d61 d62 d63 d64 d65 d66 : Value, weftref7_BuildUDP.j1 Y11 yn11 yc11 y13 d0 d1 d2 d3 d4 d5 d6 d7 d8 d9 d10 d12 d14 d15 d16 d17 d18 d19 d20 d21 d22 d23 d24 d25 d26 d27 d28 d29 d30 d31 d32 d33 d34 d35 d36 d37 d38 d39 d40 d41 d42 d43 d44 d45 d46 d47 d48 d49 d50 d51 d52 d53 d54 d55 d56 d57 d58 d59 d60 d61 d62 d63 d64 d65 d66 w R
theorem weftref7_BuildUDP.j1_eq (Y11 : Option Addr) (yn11 : Nat) (yc11 : Nat) (y13 : Int) (d0 d1 d2 d3 d4 d5 d6 d7 d8 d9 d10 d12 d14 d15 d16 d17 d18 d19 d20 d21 d22 d23 d24 d25 d26 d27 d28 d29 d30 d31 d32 d33 d34 d35 d36 d37 d38 d39 d40 d41 d42 d43 d44 d45 d46 d47 d48 d49 d50 d51 d52 d53 d54 d55 d56 d57 d58 d59 d60 d61 d62 d63 d64 d65 d66 : Value) (w : World) (R : Ending → World → Prop) : weftref7_BuildUDP.j1 Y11 yn11 yc11 y13 d0 d1 d2 d3 d4 d5 d6 d7 d8 d9 d10 d12 d14 d15 d16 d17 d18 d19 d20 d21 d22 d23 d24 d25 d26 d27 d28 d29 d30 d31 d32 d33 d34 d35 d36 d37 d38 d39 d40 d41 d42 d43 d44 d45 d46 d47 d48 d49 d50 d51 d52 d53 d54 d55 d56 d57 d58 d59 d60 d61 d62 d63 d64 d65 d66 w R =
(Let (IntKind.i64.wrap (Int.tdiv y13 256)) fun x1 : Int =>
 Let (IntKind.u8.wrap x1) fun x2 : Int =>
 ∃ a3 : Addr, Y11 = some a3 ∧ (0 ≤ (6 : Int) ∧ (6 : Int) < (yn11 : Int)) ∧
(MayC w (a3.add 6) ∧
(Let (w.setCell (a3.add 6) (.int .u8 x2)) fun w4 : World =>
 Let (Int.tmod y13 256) fun x5 : Int =>
 Let (IntKind.u8.wrap x5) fun x6 : Int =>
 ∃ a7 : Addr, Y11 = some a7 ∧ (0 ≤ (7 : Int) ∧ (7 : Int) < (yn11 : Int)) ∧
(MayC w4 (a7.add 7) ∧
(Let (w4.setCell (a7.add 7) (.int .u8 x6)) fun w8 : World =>
 R (.returned (.tuple #[.slice Y11 yn11 yc11, .int .i64 0])) w8))))) := by kernel_rfl
def weftref7_BuildUDP.s (i0 : Int) (i1 : Int) (i2_0 : Int) (i2_1 : Int) (I2_2 : Option Addr) (in2_2 : Nat) (ic2_2 : Nat) (i3 : Bool) (w : World) (R : Ending → World → Prop) : Prop :=
(Let (w.heap.size) fun g1 : Nat =>
 Let (w.alloc (.cells #[.int .u16 i2_0, .int .u16 i2_1, .slice I2_2 in2_2 ic2_2] 30)) fun w2 : World =>
 ∃ (A3 : Option Addr) (n3_ c3_ : Nat), w2.cell? ⟨g1, 2, none⟩ = some (.slice A3 n3_ c3_) ∧
((if decide ((n3_ : Int) > 65527) = true then
(R (.returned (.tuple #[.slice none 0 0, .int .i64 2])) w2)
else
(∃ (A4 : Option Addr) (n4_ c4_ : Nat), w2.cell? ⟨g1, 2, none⟩ = some (.slice A4 n4_ c4_) ∧
(Let (IntKind.i64.wrap (8 + (n4_ : Int))) fun x5 : Int =>
 ∃ x6 : Int, w2.cell? ⟨g1, 0, none⟩ = some (.int .u16 x6) ∧
(Let (IntKind.i64.wrap x6) fun x7 : Int =>
 Calls Try.prog 47 #[.slice none 0 0, .int .i64 x7, .int .i64 2] w2 (fun (e9 : Ending) (w8 : World) =>
 ∃ (A10 : Option Addr) (n10_ c10_ : Nat), e9 = .returned (.slice A10 n10_ c10_) ∧
(∃ x11 : Int, w8.cell? ⟨g1, 1, none⟩ = some (.int .u16 x11) ∧
(Let (IntKind.i64.wrap x11) fun x12 : Int =>
 Calls Try.prog 47 #[.slice A10 n10_ c10_, .int .i64 x12, .int .i64 2] w8 (fun (e14 : Ending) (w13 : World) =>
 ∃ (A15 : Option Addr) (n15_ c15_ : Nat), e14 = .returned (.slice A15 n15_ c15_) ∧
(Calls Try.prog 47 #[.slice A15 n15_ c15_, .int .i64 x5, .int .i64 2] w13 (fun (e17 : Ending) (w16 : World) =>
 ∃ (A18 : Option Addr) (n18_ c18_ : Nat), e17 = .returned (.slice A18 n18_ c18_) ∧
(Calls Try.prog 47 #[.slice A18 n18_ c18_, .int .i64 0, .int .i64 2] w16 (fun (e20 : Ending) (w19 : World) =>
 ∃ (A21 : Option Addr) (n21_ c21_ : Nat), e20 = .returned (.slice A21 n21_ c21_) ∧
(∃ (A22 : Option Addr) (n22_ c22_ : Nat), w19.cell? ⟨g1, 2, none⟩ = some (.slice A22 n22_ c22_) ∧
(∃ (A23 : Option Addr) (n23_ c23_ : Nat), w19.cell? ⟨g1, 2, none⟩ = some (.slice A23 n23_ c23_) ∧
(Calls Try.prog 48 #[.slice A21 n21_ c21_, .slice A22 n22_ c22_, .int .i64 0, .int .i64 (n23_ : Int)] w19 (fun (e25 : Ending) (w24 : World) =>
 ∃ (A26 : Option Addr) (n26_ c26_ : Nat), e25 = .returned (.slice A26 n26_ c26_) ∧
((if i3 = true then
(Calls Try.prog 61 #[.int .u32 i0, .int .u32 i1, .slice A26 n26_ c26_, .int .i64 x5] w24 (fun (e28 : Ending) (w27 : World) =>
 ∃ (A29 : Option Addr) (n29_ c29_ : Nat), e28 = .returned (.slice A29 n29_ c29_) ∧
(Let (w27.heap.size) fun g30 : Nat =>
 Let (w27.alloc (.cells #[.slice A29 n29_ c29_] 28)) fun w31 : World =>
 Calls Try.prog 62 #[.slice (some ⟨g30, 0, none⟩) 1 1] w31 (fun (e33 : Ending) (w32 : World) =>
 ∃ x34 : Int, e33 = .returned (.int .u16 x34) ∧
(Let (IntKind.i64.wrap x34) fun x35 : Int =>
(if (x35 == 0) = true then
(Leaf (weftref7_BuildUDP.j1 A26 n26_ c26_ 65535 (.int .u32 i0) (.int .u32 i1) (.agg #[.int .u16 i2_0, .int .u16 i2_1, .slice I2_2 in2_2 ic2_2]) (.bool i3) undef undef (.pointer (some ⟨g1, 0, none⟩)) undef (.slice none 0 0) (.int .i64 0) (.int .i64 x5) (.slice A29 n29_ c29_) (.pointer (some ⟨g1, 2, none⟩)) (.slice A3 n3_ c3_) (.int .i64 (n3_ : Int)) (.bool (decide ((n3_ : Int) > 65527))) (.pointer (some ⟨g1, 2, none⟩)) (.slice A4 n4_ c4_) (.int .i64 (n4_ : Int)) (.int .i64 x5) (.slice none 0 0) (.pointer (some ⟨g1, 0, none⟩)) (.int .u16 x6) (.int .i64 x7) (.slice A10 n10_ c10_) (.slice A10 n10_ c10_) (.pointer (some ⟨g1, 1, none⟩)) (.int .u16 x11) (.int .i64 x12) (.slice A15 n15_ c15_) (.slice A15 n15_ c15_) (.int .i64 x5) (.slice A18 n18_ c18_) (.slice A18 n18_ c18_) (.slice A21 n21_ c21_) (.slice A21 n21_ c21_) (.pointer (some ⟨g1, 2, none⟩)) (.slice A22 n22_ c22_) (.pointer (some ⟨g1, 2, none⟩)) (.slice A23 n23_ c23_) (.int .i64 (n23_ : Int)) (.slice A26 n26_ c26_) (.bool i3) (.int .u32 i0) (.int .u32 i1) (.slice A26 n26_ c26_) (.int .i64 x5) (.slice A29 n29_ c29_) (.slice A29 n29_ c29_) (.slice (some ⟨g30, 0, none⟩) 1 1) (.int .u16 x34) (.int .i64 x35) (.int .i64 x35) (.bool (x35 == 0)) undef undef undef undef undef undef undef undef undef undef undef w32 R))
else
(Leaf (weftref7_BuildUDP.j1 A26 n26_ c26_ x35 (.int .u32 i0) (.int .u32 i1) (.agg #[.int .u16 i2_0, .int .u16 i2_1, .slice I2_2 in2_2 ic2_2]) (.bool i3) undef undef (.pointer (some ⟨g1, 0, none⟩)) undef (.slice none 0 0) (.int .i64 0) (.int .i64 x5) (.slice A29 n29_ c29_) (.pointer (some ⟨g1, 2, none⟩)) (.slice A3 n3_ c3_) (.int .i64 (n3_ : Int)) (.bool (decide ((n3_ : Int) > 65527))) (.pointer (some ⟨g1, 2, none⟩)) (.slice A4 n4_ c4_) (.int .i64 (n4_ : Int)) (.int .i64 x5) (.slice none 0 0) (.pointer (some ⟨g1, 0, none⟩)) (.int .u16 x6) (.int .i64 x7) (.slice A10 n10_ c10_) (.slice A10 n10_ c10_) (.pointer (some ⟨g1, 1, none⟩)) (.int .u16 x11) (.int .i64 x12) (.slice A15 n15_ c15_) (.slice A15 n15_ c15_) (.int .i64 x5) (.slice A18 n18_ c18_) (.slice A18 n18_ c18_) (.slice A21 n21_ c21_) (.slice A21 n21_ c21_) (.pointer (some ⟨g1, 2, none⟩)) (.slice A22 n22_ c22_) (.pointer (some ⟨g1, 2, none⟩)) (.slice A23 n23_ c23_) (.int .i64 (n23_ : Int)) (.slice A26 n26_ c26_) (.bool i3) (.int .u32 i0) (.int .u32 i1) (.slice A26 n26_ c26_) (.int .i64 x5) (.slice A29 n29_ c29_) (.slice A29 n29_ c29_) (.slice (some ⟨g30, 0, none⟩) 1 1) (.int .u16 x34) (.int .i64 x35) (.int .i64 x35) (.bool (x35 == 0)) undef undef undef undef undef undef undef undef undef undef undef w32 R))))))))
else
(R (.returned (.tuple #[.slice A26 n26_ c26_, .int .i64 0])) w24)))))))))))))))))))))
theorem weftref7_BuildUDP.s_eq (i0 : Int) (i1 : Int) (i2_0 : Int) (i2_1 : Int) (I2_2 : Option Addr) (in2_2 : Nat) (ic2_2 : Nat) (i3 : Bool) (w : World) (R : Ending → World → Prop) : seg Try.prog entE weftref7_BuildUDP.ords weftref7_BuildUDP.joins Try.f36 [] [] [] ([.int .u32 i0, .int .u32 i1, .agg #[.int .u16 i2_0, .int .u16 i2_1, .slice I2_2 in2_2 ic2_2], .bool i3] ++ List.replicate (Try.f36.ntmps - ([.int .u32 i0, .int .u32 i1, .agg #[.int .u16 i2_0, .int .u16 i2_1, .slice I2_2 in2_2 ic2_2], .bool i3] : List Value).length) undef) w R = weftref7_BuildUDP.s i0 i1 i2_0 i2_1 I2_2 in2_2 ic2_2 i3 w R := by kernel_rfl
theorem weftref7_BuildUDP.run {i0 : Int} {i1 : Int} {i2_0 : Int} {i2_1 : Int} {I2_2 : Option Addr} {in2_2 : Nat} {ic2_2 : Nat} {i3 : Bool} {w : World} {R : Ending → World → Prop} (h : weftref7_BuildUDP.s i0 i1 i2_0 i2_1 I2_2 in2_2 ic2_2 i3 w R) : Calls Try.prog 36 #[.int .u32 i0, .int .u32 i1, .agg #[.int .u16 i2_0, .int .u16 i2_1, .slice I2_2 in2_2 ic2_2], .bool i3] w R :=
  calls_seg ents mixed Try.func36 rfl (by rw [weftref7_BuildUDP.s_eq]; exact h)
/-! ### weftref7_key: function 51 -/
def weftref7_key.ords : Nat → Od
  | _ => .nil
def weftref7_key.joins (p : List Nat) : Bool := p == [1, 1, 1]
def weftref7_key.j1 (yg1 : Nat) (Y3 : Option Addr) (yn3 : Nat) (yc3 : Nat) (d0 d2 d4 d5 d6 d7 d8 d9 d10 d11 d12 d13 d14 d15 d16 d17 d18 d19 d20 d21 d22 d23 d24 d25 d26 d27 d28 d29 d30 d31 d32 d33 d34 d35 d36 d37 d38 d39 d40 d41 d42 d43 d44 d45 d46 d47 d48 d49 d50 d51 d52 d53 d54 d55 d56 d57 d58 d59 d60 : Value) (w : World) (R : Ending → World → Prop) : Prop :=
  seg Try.prog entE weftref7_key.ords weftref7_key.joins Try.f51 [1, 1, 1] [1, 1, 1] [] [d0, .pointer (some ⟨yg1, 0, none⟩), d2, .slice Y3 yn3 yc3, d4, d5, d6, d7, d8, d9, d10, d11, d12, d13, d14, d15, d16, d17, d18, d19, d20, d21, d22, d23, d24, d25, d26, d27, d28, d29, d30, d31, d32, d33, d34, d35, d36, d37, d38, d39, d40, d41, d42, d43, d44, d45, d46, d47, d48, d49, d50, d51, d52, d53, d54, d55, d56, d57, d58, d59, d60] w R
def weftref7_key.l1 (n : Nat) (yg1 : Nat) (Y3 : Option Addr) (yn3 : Nat) (yc3 : Nat) (y6 : Int) (d0 d2 d4 d5 d7 d8 d9 d10 d11 d12 d13 d14 d15 d16 d17 d18 d19 d20 d21 d22 d23 d24 d25 d26 d27 d28 d29 d30 d31 d32 d33 d34 d35 d36 d37 d38 d39 d40 d41 d42 d43 d44 d45 d46 d47 d48 d49 d50 d51 d52 d53 d54 d55 d56 d57 d58 d59 d60 : Value) (w : World) (R : Ending → World → Prop) : Prop :=
  lseg Try.prog entE weftref7_key.ords weftref7_key.joins Try.f51 [1, 1, 1, 0, 1, 0] [0, 1, 0, 1, 1, 1] [] n [d0, .pointer (some ⟨yg1, 0, none⟩), d2, .slice Y3 yn3 yc3, d4, d5, .int .i64 y6, d7, d8, d9, d10, d11, d12, d13, d14, d15, d16, d17, d18, d19, d20, d21, d22, d23, d24, d25, d26, d27, d28, d29, d30, d31, d32, d33, d34, d35, d36, d37, d38, d39, d40, d41, d42, d43, d44, d45, d46, d47, d48, d49, d50, d51, d52, d53, d54, d55, d56, d57, d58, d59, d60] w R
def weftref7_key.l2 (n : Nat) (yg1 : Nat) (Y3 : Option Addr) (yn3 : Nat) (yc3 : Nat) (y7 : Int) (d0 d2 d4 d5 d6 d8 d9 d10 d11 d12 d13 d14 d15 d16 d17 d18 d19 d20 d21 d22 d23 d24 d25 d26 d27 d28 d29 d30 d31 d32 d33 d34 d35 d36 d37 d38 d39 d40 d41 d42 d43 d44 d45 d46 d47 d48 d49 d50 d51 d52 d53 d54 d55 d56 d57 d58 d59 d60 : Value) (w : World) (R : Ending → World → Prop) : Prop :=
  lseg Try.prog entE weftref7_key.ords weftref7_key.joins Try.f51 [1, 1, 1, 1, 0, 1, 0] [0, 1, 0, 1, 1, 1, 1] [] n [d0, .pointer (some ⟨yg1, 0, none⟩), d2, .slice Y3 yn3 yc3, d4, d5, d6, .int .i64 y7, d8, d9, d10, d11, d12, d13, d14, d15, d16, d17, d18, d19, d20, d21, d22, d23, d24, d25, d26, d27, d28, d29, d30, d31, d32, d33, d34, d35, d36, d37, d38, d39, d40, d41, d42, d43, d44, d45, d46, d47, d48, d49, d50, d51, d52, d53, d54, d55, d56, d57, d58, d59, d60] w R
abbrev weftref7_key.J1 (yg1 : Nat) (Y3 : Option Addr) (yn3 : Nat) (yc3 : Nat) (w : World) (R : Ending → World → Prop) : Prop := ∀ d0 d2 d4 d5 d6 d7 d8 d9 d10 d11 d12 d13 d14 d15 d16 d17 d18 d19 d20 d21 d22 d23 d24 d25 d26 d27 d28 d29 d30 d31 d32 d33 d34 d35 d36 d37 d38 d39 d40 d41 d42 d43 d44 d45 d46 d47 d48 d49 d50 d51 d52 d53 d54 d55 d56 d57 d58 d59 d60 : Value, weftref7_key.j1 yg1 Y3 yn3 yc3 d0 d2 d4 d5 d6 d7 d8 d9 d10 d11 d12 d13 d14 d15 d16 d17 d18 d19 d20 d21 d22 d23 d24 d25 d26 d27 d28 d29 d30 d31 d32 d33 d34 d35 d36 d37 d38 d39 d40 d41 d42 d43 d44 d45 d46 d47 d48 d49 d50 d51 d52 d53 d54 d55 d56 d57 d58 d59 d60 w R
abbrev weftref7_key.L1 (n : Nat) (yg1 : Nat) (Y3 : Option Addr) (yn3 : Nat) (yc3 : Nat) (y6 : Int) (w : World) (R : Ending → World → Prop) : Prop := ∀ d0 d2 d4 d5 d7 d8 d9 d10 d11 d12 d13 d14 d15 d16 d17 d18 d19 d20 d21 d22 d23 d24 d25 d26 d27 d28 d29 d30 d31 d32 d33 d34 d35 d36 d37 d38 d39 d40 d41 d42 d43 d44 d45 d46 d47 d48 d49 d50 d51 d52 d53 d54 d55 d56 d57 d58 d59 d60 : Value, weftref7_key.l1 n yg1 Y3 yn3 yc3 y6 d0 d2 d4 d5 d7 d8 d9 d10 d11 d12 d13 d14 d15 d16 d17 d18 d19 d20 d21 d22 d23 d24 d25 d26 d27 d28 d29 d30 d31 d32 d33 d34 d35 d36 d37 d38 d39 d40 d41 d42 d43 d44 d45 d46 d47 d48 d49 d50 d51 d52 d53 d54 d55 d56 d57 d58 d59 d60 w R
abbrev weftref7_key.L2 (n : Nat) (yg1 : Nat) (Y3 : Option Addr) (yn3 : Nat) (yc3 : Nat) (y7 : Int) (w : World) (R : Ending → World → Prop) : Prop := ∀ d0 d2 d4 d5 d6 d8 d9 d10 d11 d12 d13 d14 d15 d16 d17 d18 d19 d20 d21 d22 d23 d24 d25 d26 d27 d28 d29 d30 d31 d32 d33 d34 d35 d36 d37 d38 d39 d40 d41 d42 d43 d44 d45 d46 d47 d48 d49 d50 d51 d52 d53 d54 d55 d56 d57 d58 d59 d60 : Value, weftref7_key.l2 n yg1 Y3 yn3 yc3 y7 d0 d2 d4 d5 d6 d8 d9 d10 d11 d12 d13 d14 d15 d16 d17 d18 d19 d20 d21 d22 d23 d24 d25 d26 d27 d28 d29 d30 d31 d32 d33 d34 d35 d36 d37 d38 d39 d40 d41 d42 d43 d44 d45 d46 d47 d48 d49 d50 d51 d52 d53 d54 d55 d56 d57 d58 d59 d60 w R
theorem weftref7_key.j1_eq (yg1 : Nat) (Y3 : Option Addr) (yn3 : Nat) (yc3 : Nat) (d0 d2 d4 d5 d6 d7 d8 d9 d10 d11 d12 d13 d14 d15 d16 d17 d18 d19 d20 d21 d22 d23 d24 d25 d26 d27 d28 d29 d30 d31 d32 d33 d34 d35 d36 d37 d38 d39 d40 d41 d42 d43 d44 d45 d46 d47 d48 d49 d50 d51 d52 d53 d54 d55 d56 d57 d58 d59 d60 : Value) (w : World) (R : Ending → World → Prop) : weftref7_key.j1 yg1 Y3 yn3 yc3 d0 d2 d4 d5 d6 d7 d8 d9 d10 d11 d12 d13 d14 d15 d16 d17 d18 d19 d20 d21 d22 d23 d24 d25 d26 d27 d28 d29 d30 d31 d32 d33 d34 d35 d36 d37 d38 d39 d40 d41 d42 d43 d44 d45 d46 d47 d48 d49 d50 d51 d52 d53 d54 d55 d56 d57 d58 d59 d60 w R =
(∃ n1 : Nat, weftref7_key.l1 n1 yg1 Y3 yn3 yc3 0 d0 d2 d4 d5 d7 d8 d9 d10 d11 d12 d13 d14 d15 d16 d17 d18 d19 d20 d21 d22 d23 d24 d25 d26 d27 d28 d29 d30 d31 d32 d33 d34 d35 d36 d37 d38 d39 d40 d41 d42 d43 d44 d45 d46 d47 d48 d49 d50 d51 d52 d53 d54 d55 d56 d57 d58 d59 d60 w R) := by kernel_rfl
theorem weftref7_key.l1_eq (n : Nat) (yg1 : Nat) (Y3 : Option Addr) (yn3 : Nat) (yc3 : Nat) (y6 : Int) (d0 d2 d4 d5 d7 d8 d9 d10 d11 d12 d13 d14 d15 d16 d17 d18 d19 d20 d21 d22 d23 d24 d25 d26 d27 d28 d29 d30 d31 d32 d33 d34 d35 d36 d37 d38 d39 d40 d41 d42 d43 d44 d45 d46 d47 d48 d49 d50 d51 d52 d53 d54 d55 d56 d57 d58 d59 d60 : Value) (w : World) (R : Ending → World → Prop) : weftref7_key.l1 (n + 1) yg1 Y3 yn3 yc3 y6 d0 d2 d4 d5 d7 d8 d9 d10 d11 d12 d13 d14 d15 d16 d17 d18 d19 d20 d21 d22 d23 d24 d25 d26 d27 d28 d29 d30 d31 d32 d33 d34 d35 d36 d37 d38 d39 d40 d41 d42 d43 d44 d45 d46 d47 d48 d49 d50 d51 d52 d53 d54 d55 d56 d57 d58 d59 d60 w R =
((if decide (y6 < 6) = true then
((0 ≤ (y6 : Int) ∧ (y6 : Int) < 6) ∧
(∃ x1 : Int, w.cell? ((⟨yg1, 6, none⟩ : Addr).add y6.toNat) = some (.int .u8 x1) ∧
(Let (w.heap.size) fun g2 : Nat =>
 Let (w.alloc (.cells #[.int .u8 x1] 5)) fun w3 : World =>
 AppE w3 1 1 5 [.int .u8 0] Y3 yn3 yc3 (some ⟨g2, 0, none⟩) 1 (fun (A4 : Option Addr) (c5 : Nat) (w6 : World) =>
 Let (IntKind.i64.wrap (y6 + 1)) fun x7 : Int =>
 weftref7_key.l1 n yg1 A4 (yn3 + 1) c5 x7 d0 d2 d4 d5 d7 d8 d9 d10 d11 d12 d13 d14 d15 d16 d17 d18 d19 d20 d21 d22 d23 d24 d25 d26 d27 d28 d29 d30 d31 d32 d33 d34 d35 d36 d37 (.int .i64 y6) (.bool (decide (y6 < 6))) (.int .i64 y6) (.int .i64 x7) (.slice Y3 yn3 yc3) (.int .i64 y6) (.pointer (some ⟨yg1, 6, none⟩)) (.pointer (some ((⟨yg1, 6, none⟩ : Addr).add y6.toNat))) (.int .u8 x1) (.slice (some ⟨g2, 0, none⟩) 1 1) (.slice A4 (yn3 + 1) c5) d49 d50 d51 d52 d53 d54 d55 d56 d57 d58 d59 d60 w6 R))))
else
(∃ n8 : Nat, weftref7_key.l2 n8 yg1 Y3 yn3 yc3 0 d0 d2 d4 d5 (.int .i64 y6) d8 d9 d10 d11 d12 d13 d14 d15 d16 d17 d18 d19 d20 d21 d22 d23 d24 d25 d26 d27 d28 d29 d30 d31 d32 d33 d34 d35 d36 d37 (.int .i64 y6) (.bool (decide (y6 < 6))) d40 d41 d42 d43 d44 d45 d46 d47 d48 d49 d50 d51 d52 d53 d54 d55 d56 d57 d58 d59 d60 w R))) := by kernel_rfl
theorem weftref7_key.l2_eq (n : Nat) (yg1 : Nat) (Y3 : Option Addr) (yn3 : Nat) (yc3 : Nat) (y7 : Int) (d0 d2 d4 d5 d6 d8 d9 d10 d11 d12 d13 d14 d15 d16 d17 d18 d19 d20 d21 d22 d23 d24 d25 d26 d27 d28 d29 d30 d31 d32 d33 d34 d35 d36 d37 d38 d39 d40 d41 d42 d43 d44 d45 d46 d47 d48 d49 d50 d51 d52 d53 d54 d55 d56 d57 d58 d59 d60 : Value) (w : World) (R : Ending → World → Prop) : weftref7_key.l2 (n + 1) yg1 Y3 yn3 yc3 y7 d0 d2 d4 d5 d6 d8 d9 d10 d11 d12 d13 d14 d15 d16 d17 d18 d19 d20 d21 d22 d23 d24 d25 d26 d27 d28 d29 d30 d31 d32 d33 d34 d35 d36 d37 d38 d39 d40 d41 d42 d43 d44 d45 d46 d47 d48 d49 d50 d51 d52 d53 d54 d55 d56 d57 d58 d59 d60 w R =
((if decide (y7 < 6) = true then
((0 ≤ (y7 : Int) ∧ (y7 : Int) < 6) ∧
(∃ x1 : Int, w.cell? ((⟨yg1, 0, none⟩ : Addr).add y7.toNat) = some (.int .u8 x1) ∧
(Let (w.heap.size) fun g2 : Nat =>
 Let (w.alloc (.cells #[.int .u8 x1] 5)) fun w3 : World =>
 AppE w3 1 1 5 [.int .u8 0] Y3 yn3 yc3 (some ⟨g2, 0, none⟩) 1 (fun (A4 : Option Addr) (c5 : Nat) (w6 : World) =>
 Let (IntKind.i64.wrap (y7 + 1)) fun x7 : Int =>
 weftref7_key.l2 n yg1 A4 (yn3 + 1) c5 x7 d0 d2 d4 d5 d6 d8 d9 d10 d11 d12 d13 d14 d15 d16 d17 d18 d19 d20 d21 d22 d23 d24 d25 d26 d27 d28 d29 d30 d31 d32 d33 d34 d35 d36 d37 d38 d39 d40 d41 d42 d43 d44 d45 d46 d47 d48 (.int .i64 y7) (.bool (decide (y7 < 6))) (.int .i64 y7) (.int .i64 x7) (.slice Y3 yn3 yc3) (.int .i64 y7) (.pointer (some ⟨yg1, 0, none⟩)) (.pointer (some ((⟨yg1, 0, none⟩ : Addr).add y7.toNat))) (.int .u8 x1) (.slice (some ⟨g2, 0, none⟩) 1 1) (.slice A4 (yn3 + 1) c5) d60 w6 R))))
else
(R (.returned (.slice Y3 yn3 yc3)) w))) := by kernel_rfl
def weftref7_key.s (i0_0 : Int) (i0_1 : Int) (i0_2 : Int) (i0_3 : Int) (i0_4 : Int) (i0_5 : Int) (i0_6 : Int) (i0_7 : Int) (i0_8 : Int) (i0_9 : Int) (i0_10 : Int) (i0_11 : Int) (i0_12 : Int) (I0_13 : Option Addr) (in0_13 : Nat) (ic0_13 : Nat) (w : World) (R : Ending → World → Prop) : Prop :=
(Let (w.heap.size) fun g1 : Nat =>
 Let (w.alloc (.cells #[.int .u8 i0_0, .int .u8 i0_1, .int .u8 i0_2, .int .u8 i0_3, .int .u8 i0_4, .int .u8 i0_5, .int .u8 i0_6, .int .u8 i0_7, .int .u8 i0_8, .int .u8 i0_9, .int .u8 i0_10, .int .u8 i0_11, .int .u16 i0_12, .slice I0_13 in0_13 ic0_13] 46)) fun w2 : World =>
 ∃ x3 : Int, w2.cell? ⟨g1, 12, none⟩ = some (.int .u16 x3) ∧
((if (x3 == 2048) = true then
(∃ (A4 : Option Addr) (n4_ c4_ : Nat), w2.cell? ⟨g1, 13, none⟩ = some (.slice A4 n4_ c4_) ∧
(Calls Try.prog 54 #[.slice A4 n4_ c4_] w2 (fun (e6 : Ending) (w5 : World) =>
 ∃ x7 : Int, ∃ x8 : Int, ∃ b9 : Bool, ∃ b10 : Bool, ∃ x11 : Int, ∃ x12 : Int, ∃ x13 : Int, ∃ x14 : Int, ∃ x15 : Int, ∃ (A16 : Option Addr) (n16_ c16_ : Nat), ∃ (A17 : Option Addr) (n17_ c17_ : Nat), ∃ x18 : Int, e6 = .returned (.tuple #[.agg #[.int .u8 x7, .int .u16 x8, .bool b9, .bool b10, .int .i64 x11, .int .u8 x12, .int .u8 x13, .int .u32 x14, .int .u32 x15, .slice A16 n16_ c16_, .slice A17 n17_ c17_], .int .i64 x18]) ∧
(Let (w5.heap.size) fun g19 : Nat =>
 Let (w5.alloc (.cells #[.int .u8 0, .int .u16 0, .bool false, .bool false, .int .i64 0, .int .u8 0, .int .u8 0, .int .u32 0, .int .u32 0, .slice none 0 0, .slice none 0 0] 88)) fun w20 : World =>
 May w20 ⟨g19, 0, none⟩ 11 ∧
(Let (putCells w20 ⟨g19, 0, none⟩ [.int .u8 x7, .int .u16 x8, .bool b9, .bool b10, .int .i64 x11, .int .u8 x12, .int .u8 x13, .int .u32 x14, .int .u32 x15, .slice A16 n16_ c16_, .slice A17 n17_ c17_] 0) fun w21 : World =>
(if (x18 == 0) = true then
(∃ x22 : Int, w21.cell? ⟨g19, 7, none⟩ = some (.int .u32 x22) ∧
(Let (IntKind.i64.wrap x22) fun x23 : Int =>
 Calls Try.prog 47 #[.slice none 0 0, .int .i64 x23, .int .i64 4] w21 (fun (e25 : Ending) (w24 : World) =>
 ∃ (A26 : Option Addr) (n26_ c26_ : Nat), e25 = .returned (.slice A26 n26_ c26_) ∧
(∃ x27 : Int, w24.cell? ⟨g19, 8, none⟩ = some (.int .u32 x27) ∧
(Let (IntKind.i64.wrap x27) fun x28 : Int =>
 Calls Try.prog 47 #[.slice A26 n26_ c26_, .int .i64 x28, .int .i64 4] w24 (fun (e30 : Ending) (w29 : World) =>
 ∃ (A31 : Option Addr) (n31_ c31_ : Nat), e30 = .returned (.slice A31 n31_ c31_) ∧
(∃ x32 : Int, w29.cell? ⟨g19, 6, none⟩ = some (.int .u8 x32) ∧
(Let (w29.heap.size) fun g33 : Nat =>
 Let (w29.alloc (.cells #[.int .u8 x32] 5)) fun w34 : World =>
 AppE w34 1 1 5 [.int .u8 0] A31 n31_ c31_ (some ⟨g33, 0, none⟩) 1 (fun (A35 : Option Addr) (c36 : Nat) (w37 : World) =>
 R (.returned (.slice A35 (n31_ + 1) c36)) w37)))))))))
else
(Leaf (weftref7_key.j1 g1 none 0 0 (.agg #[.int .u8 i0_0, .int .u8 i0_1, .int .u8 i0_2, .int .u8 i0_3, .int .u8 i0_4, .int .u8 i0_5, .int .u8 i0_6, .int .u8 i0_7, .int .u8 i0_8, .int .u8 i0_9, .int .u8 i0_10, .int .u8 i0_11, .int .u16 i0_12, .slice I0_13 in0_13 ic0_13]) (.slice none 0 0) (.pointer (some ⟨g19, 0, none⟩)) (.int .i64 x18) undef undef (.pointer (some ⟨g1, 12, none⟩)) (.int .u16 x3) (.bool (x3 == 2048)) (.tuple #[.agg #[.int .u8 x7, .int .u16 x8, .bool b9, .bool b10, .int .i64 x11, .int .u8 x12, .int .u8 x13, .int .u32 x14, .int .u32 x15, .slice A16 n16_ c16_, .slice A17 n17_ c17_], .int .i64 x18]) (.pointer (some ⟨g1, 13, none⟩)) (.slice A4 n4_ c4_) (.tuple #[.agg #[.int .u8 x7, .int .u16 x8, .bool b9, .bool b10, .int .i64 x11, .int .u8 x12, .int .u8 x13, .int .u32 x14, .int .u32 x15, .slice A16 n16_ c16_, .slice A17 n17_ c17_], .int .i64 x18]) (.agg #[.int .u8 x7, .int .u16 x8, .bool b9, .bool b10, .int .i64 x11, .int .u8 x12, .int .u8 x13, .int .u32 x14, .int .u32 x15, .slice A16 n16_ c16_, .slice A17 n17_ c17_]) (.int .i64 x18) (.int .i64 x18) (.bool (x18 == 0)) undef undef undef undef undef undef undef undef undef undef undef undef undef undef undef undef undef undef undef undef undef undef undef undef undef undef undef undef undef undef undef undef undef undef undef undef undef undef undef undef undef undef w21 R))))))))
else
(Leaf (weftref7_key.j1 g1 none 0 0 (.agg #[.int .u8 i0_0, .int .u8 i0_1, .int .u8 i0_2, .int .u8 i0_3, .int .u8 i0_4, .int .u8 i0_5, .int .u8 i0_6, .int .u8 i0_7, .int .u8 i0_8, .int .u8 i0_9, .int .u8 i0_10, .int .u8 i0_11, .int .u16 i0_12, .slice I0_13 in0_13 ic0_13]) (.slice none 0 0) undef undef undef undef (.pointer (some ⟨g1, 12, none⟩)) (.int .u16 x3) (.bool (x3 == 2048)) undef undef undef undef undef undef undef undef undef undef undef undef undef undef undef undef undef undef undef undef undef undef undef undef undef undef undef undef undef undef undef undef undef undef undef undef undef undef undef undef undef undef undef undef undef undef undef undef undef undef w2 R)))))
theorem weftref7_key.s_eq (i0_0 : Int) (i0_1 : Int) (i0_2 : Int) (i0_3 : Int) (i0_4 : Int) (i0_5 : Int) (i0_6 : Int) (i0_7 : Int) (i0_8 : Int) (i0_9 : Int) (i0_10 : Int) (i0_11 : Int) (i0_12 : Int) (I0_13 : Option Addr) (in0_13 : Nat) (ic0_13 : Nat) (w : World) (R : Ending → World → Prop) : seg Try.prog entE weftref7_key.ords weftref7_key.joins Try.f51 [] [] [] ([.agg #[.int .u8 i0_0, .int .u8 i0_1, .int .u8 i0_2, .int .u8 i0_3, .int .u8 i0_4, .int .u8 i0_5, .int .u8 i0_6, .int .u8 i0_7, .int .u8 i0_8, .int .u8 i0_9, .int .u8 i0_10, .int .u8 i0_11, .int .u16 i0_12, .slice I0_13 in0_13 ic0_13]] ++ List.replicate (Try.f51.ntmps - ([.agg #[.int .u8 i0_0, .int .u8 i0_1, .int .u8 i0_2, .int .u8 i0_3, .int .u8 i0_4, .int .u8 i0_5, .int .u8 i0_6, .int .u8 i0_7, .int .u8 i0_8, .int .u8 i0_9, .int .u8 i0_10, .int .u8 i0_11, .int .u16 i0_12, .slice I0_13 in0_13 ic0_13]] : List Value).length) undef) w R = weftref7_key.s i0_0 i0_1 i0_2 i0_3 i0_4 i0_5 i0_6 i0_7 i0_8 i0_9 i0_10 i0_11 i0_12 I0_13 in0_13 ic0_13 w R := by kernel_rfl
theorem weftref7_key.run {i0_0 : Int} {i0_1 : Int} {i0_2 : Int} {i0_3 : Int} {i0_4 : Int} {i0_5 : Int} {i0_6 : Int} {i0_7 : Int} {i0_8 : Int} {i0_9 : Int} {i0_10 : Int} {i0_11 : Int} {i0_12 : Int} {I0_13 : Option Addr} {in0_13 : Nat} {ic0_13 : Nat} {w : World} {R : Ending → World → Prop} (h : weftref7_key.s i0_0 i0_1 i0_2 i0_3 i0_4 i0_5 i0_6 i0_7 i0_8 i0_9 i0_10 i0_11 i0_12 I0_13 in0_13 ic0_13 w R) : Calls Try.prog 51 #[.agg #[.int .u8 i0_0, .int .u8 i0_1, .int .u8 i0_2, .int .u8 i0_3, .int .u8 i0_4, .int .u8 i0_5, .int .u8 i0_6, .int .u8 i0_7, .int .u8 i0_8, .int .u8 i0_9, .int .u8 i0_10, .int .u8 i0_11, .int .u16 i0_12, .slice I0_13 in0_13 ic0_13]] w R :=
  calls_seg ents mixed Try.func51 rfl (by rw [weftref7_key.s_eq]; exact h)
/-! ### weftref7_Flow: function 24 -/
def weftref7_Flow.ords : Nat → Od
  | _ => .nil
def weftref7_Flow.joins (p : List Nat) : Bool := false
def weftref7_Flow.l1 (n : Nat) (Y3 : Option Addr) (yn3 : Nat) (yc3 : Nat) (y4 : Int) (y5 : Int) (y6 : Int) (d0 d1 d2 d7 d8 d9 d10 d11 d12 d13 d14 d15 d16 d17 d18 d19 d20 d21 d22 d23 d24 d25 d26 d27 d28 d29 d30 d31 d32 d33 d34 d35 d36 d37 : Value) (w : World) (R : Ending → World → Prop) : Prop :=
  lseg Try.prog entE weftref7_Flow.ords weftref7_Flow.joins Try.f24 [1, 1, 1, 1, 0, 1, 0] [0, 1, 0, 1, 1, 1, 1] [] n [d0, d1, d2, .slice Y3 yn3 yc3, .int .i64 y4, .int .i64 y5, .int .i64 y6, d7, d8, d9, d10, d11, d12, d13, d14, d15, d16, d17, d18, d19, d20, d21, d22, d23, d24, d25, d26, d27, d28, d29, d30, d31, d32, d33, d34, d35, d36, d37] w R
abbrev weftref7_Flow.L1 (n : Nat) (Y3 : Option Addr) (yn3 : Nat) (yc3 : Nat) (y4 : Int) (y5 : Int) (y6 : Int) (w : World) (R : Ending → World → Prop) : Prop := ∀ d0 d1 d2 d7 d8 d9 d10 d11 d12 d13 d14 d15 d16 d17 d18 d19 d20 d21 d22 d23 d24 d25 d26 d27 d28 d29 d30 d31 d32 d33 d34 d35 d36 d37 : Value, weftref7_Flow.l1 n Y3 yn3 yc3 y4 y5 y6 d0 d1 d2 d7 d8 d9 d10 d11 d12 d13 d14 d15 d16 d17 d18 d19 d20 d21 d22 d23 d24 d25 d26 d27 d28 d29 d30 d31 d32 d33 d34 d35 d36 d37 w R
theorem weftref7_Flow.l1_eq (n : Nat) (Y3 : Option Addr) (yn3 : Nat) (yc3 : Nat) (y4 : Int) (y5 : Int) (y6 : Int) (d0 d1 d2 d7 d8 d9 d10 d11 d12 d13 d14 d15 d16 d17 d18 d19 d20 d21 d22 d23 d24 d25 d26 d27 d28 d29 d30 d31 d32 d33 d34 d35 d36 d37 : Value) (w : World) (R : Ending → World → Prop) : weftref7_Flow.l1 (n + 1) Y3 yn3 yc3 y4 y5 y6 d0 d1 d2 d7 d8 d9 d10 d11 d12 d13 d14 d15 d16 d17 d18 d19 d20 d21 d22 d23 d24 d25 d26 d27 d28 d29 d30 d31 d32 d33 d34 d35 d36 d37 w R =
((if decide (y6 ≥ 0) = true then
(∃ a1 : Addr, Y3 = some a1 ∧ (0 ≤ y6 ∧ y6 < (yn3 : Int)) ∧
(∃ x2 : Int, w.cell? (a1.add y6.toNat) = some (.int .u8 x2) ∧
(Let (IntKind.i64.wrap x2) fun x3 : Int =>
 Let (IntKind.i64.wrap (x3 + 1)) fun x4 : Int =>
 Let (IntKind.i64.wrap (x4 * y5)) fun x5 : Int =>
 Let (IntKind.i64.wrap (y4 + x5)) fun x6 : Int =>
 Let (Int.tmod x6 65521) fun x7 : Int =>
 Let (IntKind.i64.wrap (y5 * 251)) fun x8 : Int =>
 Let (Int.tmod x8 65521) fun x9 : Int =>
 Let (IntKind.i64.wrap (y6 - 1)) fun x10 : Int =>
 weftref7_Flow.l1 n Y3 yn3 yc3 x7 x9 x10 d0 d1 d2 d7 d8 d9 d10 d11 (.int .i64 y6) (.bool (decide (y6 ≥ 0))) (.int .i64 y6) (.int .i64 x10) (.int .i64 y4) (.slice Y3 yn3 yc3) (.int .i64 y6) (.pointer (some (a1.add y6.toNat))) (.int .u8 x2) (.int .i64 x3) (.int .i64 x4) (.int .i64 y5) (.int .i64 x5) (.int .i64 x6) (.int .i64 x7) (.int .i64 y5) (.int .i64 x8) (.int .i64 x9) d30 d31 d32 d33 d34 d35 d36 d37 w R)))
else
(Let (IntKind.i64.wrap (y4 + y5)) fun x11 : Int =>
 Let (Int.tmod x11 65521) fun x12 : Int =>
 Let (Int.tmod x12 16384) fun x13 : Int =>
 Let (IntKind.i64.wrap (49152 + x13)) fun x14 : Int =>
 Let (IntKind.u16.wrap x14) fun x15 : Int =>
 R (.returned (.int .u16 x15)) w))) := by kernel_rfl
def weftref7_Flow.s (i0_0 : Int) (i0_1 : Int) (i0_2 : Int) (i0_3 : Int) (i0_4 : Int) (i0_5 : Int) (i0_6 : Int) (i0_7 : Int) (i0_8 : Int) (i0_9 : Int) (i0_10 : Int) (i0_11 : Int) (i0_12 : Int) (I0_13 : Option Addr) (in0_13 : Nat) (ic0_13 : Nat) (w : World) (R : Ending → World → Prop) : Prop :=
(Let (w.heap.size) fun g1 : Nat =>
 Let (w.alloc (.cells #[.int .u8 i0_0, .int .u8 i0_1, .int .u8 i0_2, .int .u8 i0_3, .int .u8 i0_4, .int .u8 i0_5, .int .u8 i0_6, .int .u8 i0_7, .int .u8 i0_8, .int .u8 i0_9, .int .u8 i0_10, .int .u8 i0_11, .int .u16 i0_12, .slice I0_13 in0_13 ic0_13] 46)) fun w2 : World =>
 ∃ x3 : Int, ∃ x4 : Int, ∃ x5 : Int, ∃ x6 : Int, ∃ x7 : Int, ∃ x8 : Int, ∃ x9 : Int, ∃ x10 : Int, ∃ x11 : Int, ∃ x12 : Int, ∃ x13 : Int, ∃ x14 : Int, ∃ x15 : Int, ∃ (A16 : Option Addr) (n16_ c16_ : Nat), (14 = 14 ∧ At w2 ⟨g1, 0, none⟩ [.int .u8 x3, .int .u8 x4, .int .u8 x5, .int .u8 x6, .int .u8 x7, .int .u8 x8, .int .u8 x9, .int .u8 x10, .int .u8 x11, .int .u8 x12, .int .u8 x13, .int .u8 x14, .int .u16 x15, .slice A16 n16_ c16_]) ∧
(Calls Try.prog 51 #[.agg #[.int .u8 x3, .int .u8 x4, .int .u8 x5, .int .u8 x6, .int .u8 x7, .int .u8 x8, .int .u8 x9, .int .u8 x10, .int .u8 x11, .int .u8 x12, .int .u8 x13, .int .u8 x14, .int .u16 x15, .slice A16 n16_ c16_]] w2 (fun (e18 : Ending) (w17 : World) =>
 ∃ (A19 : Option Addr) (n19_ c19_ : Nat), e18 = .returned (.slice A19 n19_ c19_) ∧
(Let (IntKind.i64.wrap ((n19_ : Int) - 1)) fun x20 : Int =>
 ∃ n21 : Nat, weftref7_Flow.l1 n21 A19 n19_ c19_ 0 1 x20 (.agg #[.int .u8 i0_0, .int .u8 i0_1, .int .u8 i0_2, .int .u8 i0_3, .int .u8 i0_4, .int .u8 i0_5, .int .u8 i0_6, .int .u8 i0_7, .int .u8 i0_8, .int .u8 i0_9, .int .u8 i0_10, .int .u8 i0_11, .int .u16 i0_12, .slice I0_13 in0_13 ic0_13]) (.pointer (some ⟨g1, 0, none⟩)) (.int .u16 0) (.agg #[.int .u8 x3, .int .u8 x4, .int .u8 x5, .int .u8 x6, .int .u8 x7, .int .u8 x8, .int .u8 x9, .int .u8 x10, .int .u8 x11, .int .u8 x12, .int .u8 x13, .int .u8 x14, .int .u16 x15, .slice A16 n16_ c16_]) (.slice A19 n19_ c19_) (.slice A19 n19_ c19_) (.int .i64 (n19_ : Int)) (.int .i64 x20) undef undef undef undef undef undef undef undef undef undef undef undef undef undef undef undef undef undef undef undef undef undef undef undef undef undef w17 R))))
theorem weftref7_Flow.s_eq (i0_0 : Int) (i0_1 : Int) (i0_2 : Int) (i0_3 : Int) (i0_4 : Int) (i0_5 : Int) (i0_6 : Int) (i0_7 : Int) (i0_8 : Int) (i0_9 : Int) (i0_10 : Int) (i0_11 : Int) (i0_12 : Int) (I0_13 : Option Addr) (in0_13 : Nat) (ic0_13 : Nat) (w : World) (R : Ending → World → Prop) : seg Try.prog entE weftref7_Flow.ords weftref7_Flow.joins Try.f24 [] [] [] ([.agg #[.int .u8 i0_0, .int .u8 i0_1, .int .u8 i0_2, .int .u8 i0_3, .int .u8 i0_4, .int .u8 i0_5, .int .u8 i0_6, .int .u8 i0_7, .int .u8 i0_8, .int .u8 i0_9, .int .u8 i0_10, .int .u8 i0_11, .int .u16 i0_12, .slice I0_13 in0_13 ic0_13]] ++ List.replicate (Try.f24.ntmps - ([.agg #[.int .u8 i0_0, .int .u8 i0_1, .int .u8 i0_2, .int .u8 i0_3, .int .u8 i0_4, .int .u8 i0_5, .int .u8 i0_6, .int .u8 i0_7, .int .u8 i0_8, .int .u8 i0_9, .int .u8 i0_10, .int .u8 i0_11, .int .u16 i0_12, .slice I0_13 in0_13 ic0_13]] : List Value).length) undef) w R = weftref7_Flow.s i0_0 i0_1 i0_2 i0_3 i0_4 i0_5 i0_6 i0_7 i0_8 i0_9 i0_10 i0_11 i0_12 I0_13 in0_13 ic0_13 w R := by kernel_rfl
theorem weftref7_Flow.run {i0_0 : Int} {i0_1 : Int} {i0_2 : Int} {i0_3 : Int} {i0_4 : Int} {i0_5 : Int} {i0_6 : Int} {i0_7 : Int} {i0_8 : Int} {i0_9 : Int} {i0_10 : Int} {i0_11 : Int} {i0_12 : Int} {I0_13 : Option Addr} {in0_13 : Nat} {ic0_13 : Nat} {w : World} {R : Ending → World → Prop} (h : weftref7_Flow.s i0_0 i0_1 i0_2 i0_3 i0_4 i0_5 i0_6 i0_7 i0_8 i0_9 i0_10 i0_11 i0_12 I0_13 in0_13 ic0_13 w R) : Calls Try.prog 24 #[.agg #[.int .u8 i0_0, .int .u8 i0_1, .int .u8 i0_2, .int .u8 i0_3, .int .u8 i0_4, .int .u8 i0_5, .int .u8 i0_6, .int .u8 i0_7, .int .u8 i0_8, .int .u8 i0_9, .int .u8 i0_10, .int .u8 i0_11, .int .u16 i0_12, .slice I0_13 in0_13 ic0_13]] w R :=
  calls_seg ents mixed Try.func24 rfl (by rw [weftref7_Flow.s_eq]; exact h)
/-! ### weftref7_Seal: function 21 -/
def weftref7_Seal.ords : Nat → Od
  | _ => .nil
def weftref7_Seal.joins (p : List Nat) : Bool := p == [1, 1]
def weftref7_Seal.j1 (yg2 : Nat) (yg3 : Nat) (d0 d1 d4 d5 d6 d7 d8 d9 d10 d11 d12 d13 d14 d15 d16 d17 d18 d19 d20 d21 d22 d23 d24 d25 d26 d27 d28 d29 d30 d31 d32 d33 d34 d35 d36 d37 d38 d39 d40 d41 d42 d43 d44 d45 d46 d47 d48 d49 d50 d51 d52 d53 d54 d55 d56 d57 d58 d59 d60 d61 d62 d63 d64 d65 d66 d67 : Value) (w : World) (R : Ending → World → Prop) : Prop :=
  seg Try.prog entE weftref7_Seal.ords weftref7_Seal.joins Try.f21 [1, 1] [1, 1] [] [d0, d1, .pointer (some ⟨yg2, 0, none⟩), .pointer (some ⟨yg3, 0, none⟩), d4, d5, d6, d7, d8, d9, d10, d11, d12, d13, d14, d15, d16, d17, d18, d19, d20, d21, d22, d23, d24, d25, d26, d27, d28, d29, d30, d31, d32, d33, d34, d35, d36, d37, d38, d39, d40, d41, d42, d43, d44, d45, d46, d47, d48, d49, d50, d51, d52, d53, d54, d55, d56, d57, d58, d59, d60, d61, d62, d63, d64, d65, d66, d67] w R
abbrev weftref7_Seal.J1 (yg2 : Nat) (yg3 : Nat) (w : World) (R : Ending → World → Prop) : Prop := ∀ d0 d1 d4 d5 d6 d7 d8 d9 d10 d11 d12 d13 d14 d15 d16 d17 d18 d19 d20 d21 d22 d23 d24 d25 d26 d27 d28 d29 d30 d31 d32 d33 d34 d35 d36 d37 d38 d39 d40 d41 d42 d43 d44 d45 d46 d47 d48 d49 d50 d51 d52 d53 d54 d55 d56 d57 d58 d59 d60 d61 d62 d63 d64 d65 d66 d67 : Value, weftref7_Seal.j1 yg2 yg3 d0 d1 d4 d5 d6 d7 d8 d9 d10 d11 d12 d13 d14 d15 d16 d17 d18 d19 d20 d21 d22 d23 d24 d25 d26 d27 d28 d29 d30 d31 d32 d33 d34 d35 d36 d37 d38 d39 d40 d41 d42 d43 d44 d45 d46 d47 d48 d49 d50 d51 d52 d53 d54 d55 d56 d57 d58 d59 d60 d61 d62 d63 d64 d65 d66 d67 w R
theorem weftref7_Seal.j1_eq (yg2 : Nat) (yg3 : Nat) (d0 d1 d4 d5 d6 d7 d8 d9 d10 d11 d12 d13 d14 d15 d16 d17 d18 d19 d20 d21 d22 d23 d24 d25 d26 d27 d28 d29 d30 d31 d32 d33 d34 d35 d36 d37 d38 d39 d40 d41 d42 d43 d44 d45 d46 d47 d48 d49 d50 d51 d52 d53 d54 d55 d56 d57 d58 d59 d60 d61 d62 d63 d64 d65 d66 d67 : Value) (w : World) (R : Ending → World → Prop) : weftref7_Seal.j1 yg2 yg3 d0 d1 d4 d5 d6 d7 d8 d9 d10 d11 d12 d13 d14 d15 d16 d17 d18 d19 d20 d21 d22 d23 d24 d25 d26 d27 d28 d29 d30 d31 d32 d33 d34 d35 d36 d37 d38 d39 d40 d41 d42 d43 d44 d45 d46 d47 d48 d49 d50 d51 d52 d53 d54 d55 d56 d57 d58 d59 d60 d61 d62 d63 d64 d65 d66 d67 w R =
(∃ x1 : Int, ∃ x2 : Int, ∃ x3 : Int, ∃ x4 : Int, ∃ x5 : Int, ∃ x6 : Int, ∃ x7 : Int, ∃ x8 : Int, ∃ x9 : Int, ∃ x10 : Int, ∃ x11 : Int, ∃ x12 : Int, ∃ x13 : Int, ∃ (A14 : Option Addr) (n14_ c14_ : Nat), (14 = 14 ∧ At w ⟨yg3, 0, none⟩ [.int .u8 x1, .int .u8 x2, .int .u8 x3, .int .u8 x4, .int .u8 x5, .int .u8 x6, .int .u8 x7, .int .u8 x8, .int .u8 x9, .int .u8 x10, .int .u8 x11, .int .u8 x12, .int .u16 x13, .slice A14 n14_ c14_]) ∧
(Calls Try.prog 44 #[.agg #[.int .u8 x1, .int .u8 x2, .int .u8 x3, .int .u8 x4, .int .u8 x5, .int .u8 x6, .int .u8 x7, .int .u8 x8, .int .u8 x9, .int .u8 x10, .int .u8 x11, .int .u8 x12, .int .u16 x13, .slice A14 n14_ c14_]] w (fun (e16 : Ending) (w15 : World) =>
 ∃ (A17 : Option Addr) (n17_ c17_ : Nat), ∃ x18 : Int, e16 = .returned (.tuple #[.slice A17 n17_ c17_, .int .i64 x18]) ∧
((if (x18 != 0) = true then
(R (.returned (.tuple #[.slice none 0 0, .int .i64 x18])) w15)
else
(Let (w15.heap.size) fun g19 : Nat =>
 Let (w15.alloc (.cells #[.int .u8 8, .int .u8 0, .int .u8 0, .int .u8 0] 5)) fun w20 : World =>
 AppE w20 1 1 5 [.int .u8 0] none 0 0 (some ⟨g19, 0, none⟩) 4 (fun (A21 : Option Addr) (c22 : Nat) (w23 : World) =>
 ∃ x24 : Int, w23.cell? ⟨yg2, 5, none⟩ = some (.int .i64 x24) ∧
(Let (IntKind.i64.wrap (x24 * 256)) fun x25 : Int =>
 Calls Try.prog 47 #[.slice A21 4 c22, .int .i64 x25, .int .i64 4] w23 (fun (e27 : Ending) (w26 : World) =>
 ∃ (A28 : Option Addr) (n28_ c28_ : Nat), e27 = .returned (.slice A28 n28_ c28_) ∧
(Calls Try.prog 48 #[.slice A28 n28_ c28_, .slice A17 n17_ c17_, .int .i64 0, .int .i64 (n17_ : Int)] w26 (fun (e30 : Ending) (w29 : World) =>
 ∃ (A31 : Option Addr) (n31_ c31_ : Nat), e30 = .returned (.slice A31 n31_ c31_) ∧
(∃ x32 : Int, w29.cell? ⟨yg2, 0, none⟩ = some (.int .u32 x32) ∧
(∃ x33 : Int, w29.cell? ⟨yg2, 1, none⟩ = some (.int .u32 x33) ∧
(∃ x34 : Int, w29.cell? ⟨yg2, 2, none⟩ = some (.int .u16 x34) ∧
(∃ x35 : Int, w29.cell? ⟨yg2, 3, none⟩ = some (.int .u16 x35) ∧
(Calls Try.prog 36 #[.int .u32 x32, .int .u32 x33, .agg #[.int .u16 x34, .int .u16 x35, .slice A31 n31_ c31_], .bool false] w29 (fun (e37 : Ending) (w36 : World) =>
 ∃ (A38 : Option Addr) (n38_ c38_ : Nat), ∃ x39 : Int, e37 = .returned (.tuple #[.slice A38 n38_ c38_, .int .i64 x39]) ∧
((if (x39 != 0) = true then
(R (.returned (.tuple #[.slice none 0 0, .int .i64 x39])) w36)
else
(∃ x40 : Int, w36.cell? ⟨yg2, 4, none⟩ = some (.int .u8 x40) ∧
(∃ x41 : Int, w36.cell? ⟨yg2, 0, none⟩ = some (.int .u32 x41) ∧
(∃ x42 : Int, w36.cell? ⟨yg2, 1, none⟩ = some (.int .u32 x42) ∧
(Calls Try.prog 49 #[.agg #[.int .u8 0, .int .u16 0, .bool true, .bool false, .int .i64 0, .int .u8 x40, .int .u8 17, .int .u32 x41, .int .u32 x42, .slice none 0 0, .slice A38 n38_ c38_]] w36 (fun (e44 : Ending) (w43 : World) =>
 ∃ (A45 : Option Addr) (n45_ c45_ : Nat), ∃ x46 : Int, e44 = .returned (.tuple #[.slice A45 n45_ c45_, .int .i64 x46]) ∧
(R (.returned (.tuple #[.slice A45 n45_ c45_, .int .i64 x46])) w43))))))))))))))))))))))))) := by kernel_rfl
def weftref7_Seal.s (i0_0 : Int) (i0_1 : Int) (i0_2 : Int) (i0_3 : Int) (i0_4 : Int) (i0_5 : Int) (i1_0 : Int) (i1_1 : Int) (i1_2 : Int) (i1_3 : Int) (i1_4 : Int) (i1_5 : Int) (i1_6 : Int) (i1_7 : Int) (i1_8 : Int) (i1_9 : Int) (i1_10 : Int) (i1_11 : Int) (i1_12 : Int) (I1_13 : Option Addr) (in1_13 : Nat) (ic1_13 : Nat) (w : World) (R : Ending → World → Prop) : Prop :=
(Let (w.heap.size) fun g1 : Nat =>
 Let (w.alloc (.cells #[.int .u32 i0_0, .int .u32 i0_1, .int .u16 i0_2, .int .u16 i0_3, .int .u8 i0_4, .int .i64 i0_5] 50)) fun w2 : World =>
 Let (w2.heap.size) fun g3 : Nat =>
 Let (w2.alloc (.cells #[.int .u8 i1_0, .int .u8 i1_1, .int .u8 i1_2, .int .u8 i1_3, .int .u8 i1_4, .int .u8 i1_5, .int .u8 i1_6, .int .u8 i1_7, .int .u8 i1_8, .int .u8 i1_9, .int .u8 i1_10, .int .u8 i1_11, .int .u16 i1_12, .slice I1_13 in1_13 ic1_13] 46)) fun w4 : World =>
 ∃ x5 : Int, w4.cell? ⟨g1, 5, none⟩ = some (.int .i64 x5) ∧
((if decide (x5 < 0) = true then
(R (.returned (.tuple #[.slice none 0 0, .int .i64 78])) w4)
else
(∃ x6 : Int, w4.cell? ⟨g1, 5, none⟩ = some (.int .i64 x6) ∧
((if decide (x6 > 16777215) = true then
(R (.returned (.tuple #[.slice none 0 0, .int .i64 78])) w4)
else
(Leaf (weftref7_Seal.j1 g1 g3 (.agg #[.int .u32 i0_0, .int .u32 i0_1, .int .u16 i0_2, .int .u16 i0_3, .int .u8 i0_4, .int .i64 i0_5]) (.agg #[.int .u8 i1_0, .int .u8 i1_1, .int .u8 i1_2, .int .u8 i1_3, .int .u8 i1_4, .int .u8 i1_5, .int .u8 i1_6, .int .u8 i1_7, .int .u8 i1_8, .int .u8 i1_9, .int .u8 i1_10, .int .u8 i1_11, .int .u16 i1_12, .slice I1_13 in1_13 ic1_13]) (.slice none 0 0) (.int .i64 0) undef undef undef undef (.pointer (some ⟨g1, 5, none⟩)) (.int .i64 x5) (.bool (decide (x5 < 0))) (.bool false) (.pointer (some ⟨g1, 5, none⟩)) (.int .i64 x6) (.bool (decide (x6 > 16777215))) (.bool (decide (x6 > 16777215))) undef undef undef undef undef undef undef undef undef undef undef undef undef undef undef undef undef undef undef undef undef undef undef undef undef undef undef undef undef undef undef undef undef undef undef undef undef undef undef undef undef undef undef undef undef undef undef undef undef undef w4 R))))))))
theorem weftref7_Seal.s_eq (i0_0 : Int) (i0_1 : Int) (i0_2 : Int) (i0_3 : Int) (i0_4 : Int) (i0_5 : Int) (i1_0 : Int) (i1_1 : Int) (i1_2 : Int) (i1_3 : Int) (i1_4 : Int) (i1_5 : Int) (i1_6 : Int) (i1_7 : Int) (i1_8 : Int) (i1_9 : Int) (i1_10 : Int) (i1_11 : Int) (i1_12 : Int) (I1_13 : Option Addr) (in1_13 : Nat) (ic1_13 : Nat) (w : World) (R : Ending → World → Prop) : seg Try.prog entE weftref7_Seal.ords weftref7_Seal.joins Try.f21 [] [] [] ([.agg #[.int .u32 i0_0, .int .u32 i0_1, .int .u16 i0_2, .int .u16 i0_3, .int .u8 i0_4, .int .i64 i0_5], .agg #[.int .u8 i1_0, .int .u8 i1_1, .int .u8 i1_2, .int .u8 i1_3, .int .u8 i1_4, .int .u8 i1_5, .int .u8 i1_6, .int .u8 i1_7, .int .u8 i1_8, .int .u8 i1_9, .int .u8 i1_10, .int .u8 i1_11, .int .u16 i1_12, .slice I1_13 in1_13 ic1_13]] ++ List.replicate (Try.f21.ntmps - ([.agg #[.int .u32 i0_0, .int .u32 i0_1, .int .u16 i0_2, .int .u16 i0_3, .int .u8 i0_4, .int .i64 i0_5], .agg #[.int .u8 i1_0, .int .u8 i1_1, .int .u8 i1_2, .int .u8 i1_3, .int .u8 i1_4, .int .u8 i1_5, .int .u8 i1_6, .int .u8 i1_7, .int .u8 i1_8, .int .u8 i1_9, .int .u8 i1_10, .int .u8 i1_11, .int .u16 i1_12, .slice I1_13 in1_13 ic1_13]] : List Value).length) undef) w R = weftref7_Seal.s i0_0 i0_1 i0_2 i0_3 i0_4 i0_5 i1_0 i1_1 i1_2 i1_3 i1_4 i1_5 i1_6 i1_7 i1_8 i1_9 i1_10 i1_11 i1_12 I1_13 in1_13 ic1_13 w R := by kernel_rfl
theorem weftref7_Seal.run {i0_0 : Int} {i0_1 : Int} {i0_2 : Int} {i0_3 : Int} {i0_4 : Int} {i0_5 : Int} {i1_0 : Int} {i1_1 : Int} {i1_2 : Int} {i1_3 : Int} {i1_4 : Int} {i1_5 : Int} {i1_6 : Int} {i1_7 : Int} {i1_8 : Int} {i1_9 : Int} {i1_10 : Int} {i1_11 : Int} {i1_12 : Int} {I1_13 : Option Addr} {in1_13 : Nat} {ic1_13 : Nat} {w : World} {R : Ending → World → Prop} (h : weftref7_Seal.s i0_0 i0_1 i0_2 i0_3 i0_4 i0_5 i1_0 i1_1 i1_2 i1_3 i1_4 i1_5 i1_6 i1_7 i1_8 i1_9 i1_10 i1_11 i1_12 I1_13 in1_13 ic1_13 w R) : Calls Try.prog 21 #[.agg #[.int .u32 i0_0, .int .u32 i0_1, .int .u16 i0_2, .int .u16 i0_3, .int .u8 i0_4, .int .i64 i0_5], .agg #[.int .u8 i1_0, .int .u8 i1_1, .int .u8 i1_2, .int .u8 i1_3, .int .u8 i1_4, .int .u8 i1_5, .int .u8 i1_6, .int .u8 i1_7, .int .u8 i1_8, .int .u8 i1_9, .int .u8 i1_10, .int .u8 i1_11, .int .u16 i1_12, .slice I1_13 in1_13 ic1_13]] w R :=
  calls_seg ents mixed Try.func21 rfl (by rw [weftref7_Seal.s_eq]; exact h)
/-! ### weftref7_Open: function 26 -/
def weftref7_Open.ords : Nat → Od
  | 19 => (.tk 0 (.tk 1 (.tk 2 (.tk 3 (.tk 4 (.tk 5 (.tk 6 (.tk 7 (.tk 8 (.tk 9 (.tk 10 (.tk 11 (.tk 12 (.tk 13 (.tk 14 (.tk 15 (.on 16 (.on 17 (.tk 18 .nil)))))))))))))))))))
  | _ => .nil
def weftref7_Open.joins (p : List Nat) : Bool := p == [1, 0, 1, 1, 1] || p == [1, 1, 1, 1]
def weftref7_Open.j1 (yg2 : Nat) (yg3 : Nat) (yg5 : Nat) (y28 : Bool) (d0 d1 d4 d6 d7 d8 d9 d10 d11 d12 d13 d14 d15 d16 d17 d18 d19 d20 d21 d22 d23 d24 d25 d26 d27 d29 d30 d31 d32 d33 d34 d35 d36 d37 d38 d39 d40 d41 d42 d43 d44 d45 d46 d47 d48 d49 d50 d51 d52 d53 d54 d55 d56 d57 d58 d59 d60 d61 d62 d63 d64 d65 d66 d67 d68 d69 d70 d71 d72 d73 d74 d75 d76 d77 d78 d79 d80 d81 d82 d83 d84 d85 d86 d87 d88 d89 d90 d91 d92 d93 d94 d95 d96 d97 d98 d99 : Value) (w : World) (R : Ending → World → Prop) : Prop :=
  seg Try.prog entE weftref7_Open.ords weftref7_Open.joins Try.f26 [1, 1, 1, 0, 1] [1, 0, 1, 1, 1] [] [d0, d1, .pointer (some ⟨yg2, 0, none⟩), .pointer (some ⟨yg3, 0, none⟩), d4, .pointer (some ⟨yg5, 0, none⟩), d6, d7, d8, d9, d10, d11, d12, d13, d14, d15, d16, d17, d18, d19, d20, d21, d22, d23, d24, d25, d26, d27, .bool y28, d29, d30, d31, d32, d33, d34, d35, d36, d37, d38, d39, d40, d41, d42, d43, d44, d45, d46, d47, d48, d49, d50, d51, d52, d53, d54, d55, d56, d57, d58, d59, d60, d61, d62, d63, d64, d65, d66, d67, d68, d69, d70, d71, d72, d73, d74, d75, d76, d77, d78, d79, d80, d81, d82, d83, d84, d85, d86, d87, d88, d89, d90, d91, d92, d93, d94, d95, d96, d97, d98, d99] w R
def weftref7_Open.j2 (yg2 : Nat) (yg3 : Nat) (yg5 : Nat) (d0 d1 d4 d6 d7 d8 d9 d10 d11 d12 d13 d14 d15 d16 d17 d18 d19 d20 d21 d22 d23 d24 d25 d26 d27 d28 d29 d30 d31 d32 d33 d34 d35 d36 d37 d38 d39 d40 d41 d42 d43 d44 d45 d46 d47 d48 d49 d50 d51 d52 d53 d54 d55 d56 d57 d58 d59 d60 d61 d62 d63 d64 d65 d66 d67 d68 d69 d70 d71 d72 d73 d74 d75 d76 d77 d78 d79 d80 d81 d82 d83 d84 d85 d86 d87 d88 d89 d90 d91 d92 d93 d94 d95 d96 d97 d98 d99 : Value) (w : World) (R : Ending → World → Prop) : Prop :=
  seg Try.prog entE weftref7_Open.ords weftref7_Open.joins Try.f26 [1, 1, 1, 1] [1, 1, 1, 1] [] [d0, d1, .pointer (some ⟨yg2, 0, none⟩), .pointer (some ⟨yg3, 0, none⟩), d4, .pointer (some ⟨yg5, 0, none⟩), d6, d7, d8, d9, d10, d11, d12, d13, d14, d15, d16, d17, d18, d19, d20, d21, d22, d23, d24, d25, d26, d27, d28, d29, d30, d31, d32, d33, d34, d35, d36, d37, d38, d39, d40, d41, d42, d43, d44, d45, d46, d47, d48, d49, d50, d51, d52, d53, d54, d55, d56, d57, d58, d59, d60, d61, d62, d63, d64, d65, d66, d67, d68, d69, d70, d71, d72, d73, d74, d75, d76, d77, d78, d79, d80, d81, d82, d83, d84, d85, d86, d87, d88, d89, d90, d91, d92, d93, d94, d95, d96, d97, d98, d99] w R
abbrev weftref7_Open.J1 (yg2 : Nat) (yg3 : Nat) (yg5 : Nat) (y28 : Bool) (w : World) (R : Ending → World → Prop) : Prop := ∀ d0 d1 d4 d6 d7 d8 d9 d10 d11 d12 d13 d14 d15 d16 d17 d18 d19 d20 d21 d22 d23 d24 d25 d26 d27 d29 d30 d31 d32 d33 d34 d35 d36 d37 d38 d39 d40 d41 d42 d43 d44 d45 d46 d47 d48 d49 d50 d51 d52 d53 d54 d55 d56 d57 d58 d59 d60 d61 d62 d63 d64 d65 d66 d67 d68 d69 d70 d71 d72 d73 d74 d75 d76 d77 d78 d79 d80 d81 d82 d83 d84 d85 d86 d87 d88 d89 d90 d91 d92 d93 d94 d95 d96 d97 d98 d99 : Value, weftref7_Open.j1 yg2 yg3 yg5 y28 d0 d1 d4 d6 d7 d8 d9 d10 d11 d12 d13 d14 d15 d16 d17 d18 d19 d20 d21 d22 d23 d24 d25 d26 d27 d29 d30 d31 d32 d33 d34 d35 d36 d37 d38 d39 d40 d41 d42 d43 d44 d45 d46 d47 d48 d49 d50 d51 d52 d53 d54 d55 d56 d57 d58 d59 d60 d61 d62 d63 d64 d65 d66 d67 d68 d69 d70 d71 d72 d73 d74 d75 d76 d77 d78 d79 d80 d81 d82 d83 d84 d85 d86 d87 d88 d89 d90 d91 d92 d93 d94 d95 d96 d97 d98 d99 w R
abbrev weftref7_Open.J2 (yg2 : Nat) (yg3 : Nat) (yg5 : Nat) (w : World) (R : Ending → World → Prop) : Prop := ∀ d0 d1 d4 d6 d7 d8 d9 d10 d11 d12 d13 d14 d15 d16 d17 d18 d19 d20 d21 d22 d23 d24 d25 d26 d27 d28 d29 d30 d31 d32 d33 d34 d35 d36 d37 d38 d39 d40 d41 d42 d43 d44 d45 d46 d47 d48 d49 d50 d51 d52 d53 d54 d55 d56 d57 d58 d59 d60 d61 d62 d63 d64 d65 d66 d67 d68 d69 d70 d71 d72 d73 d74 d75 d76 d77 d78 d79 d80 d81 d82 d83 d84 d85 d86 d87 d88 d89 d90 d91 d92 d93 d94 d95 d96 d97 d98 d99 : Value, weftref7_Open.j2 yg2 yg3 yg5 d0 d1 d4 d6 d7 d8 d9 d10 d11 d12 d13 d14 d15 d16 d17 d18 d19 d20 d21 d22 d23 d24 d25 d26 d27 d28 d29 d30 d31 d32 d33 d34 d35 d36 d37 d38 d39 d40 d41 d42 d43 d44 d45 d46 d47 d48 d49 d50 d51 d52 d53 d54 d55 d56 d57 d58 d59 d60 d61 d62 d63 d64 d65 d66 d67 d68 d69 d70 d71 d72 d73 d74 d75 d76 d77 d78 d79 d80 d81 d82 d83 d84 d85 d86 d87 d88 d89 d90 d91 d92 d93 d94 d95 d96 d97 d98 d99 w R
theorem weftref7_Open.j1_eq (yg2 : Nat) (yg3 : Nat) (yg5 : Nat) (y28 : Bool) (d0 d1 d4 d6 d7 d8 d9 d10 d11 d12 d13 d14 d15 d16 d17 d18 d19 d20 d21 d22 d23 d24 d25 d26 d27 d29 d30 d31 d32 d33 d34 d35 d36 d37 d38 d39 d40 d41 d42 d43 d44 d45 d46 d47 d48 d49 d50 d51 d52 d53 d54 d55 d56 d57 d58 d59 d60 d61 d62 d63 d64 d65 d66 d67 d68 d69 d70 d71 d72 d73 d74 d75 d76 d77 d78 d79 d80 d81 d82 d83 d84 d85 d86 d87 d88 d89 d90 d91 d92 d93 d94 d95 d96 d97 d98 d99 : Value) (w : World) (R : Ending → World → Prop) : weftref7_Open.j1 yg2 yg3 yg5 y28 d0 d1 d4 d6 d7 d8 d9 d10 d11 d12 d13 d14 d15 d16 d17 d18 d19 d20 d21 d22 d23 d24 d25 d26 d27 d29 d30 d31 d32 d33 d34 d35 d36 d37 d38 d39 d40 d41 d42 d43 d44 d45 d46 d47 d48 d49 d50 d51 d52 d53 d54 d55 d56 d57 d58 d59 d60 d61 d62 d63 d64 d65 d66 d67 d68 d69 d70 d71 d72 d73 d74 d75 d76 d77 d78 d79 d80 d81 d82 d83 d84 d85 d86 d87 d88 d89 d90 d91 d92 d93 d94 d95 d96 d97 d98 d99 w R =
((if y28 = true then
(May w ⟨yg2, 0, none⟩ 6 ∧
(Let (putCells w ⟨yg2, 0, none⟩ [.int .u32 0, .int .u32 0, .int .u16 0, .int .u16 0, .int .u8 0, .int .i64 0] 0) fun w1 : World =>
 May w1 ⟨yg3, 0, none⟩ 14 ∧
(Let (putCells w1 ⟨yg3, 0, none⟩ [.int .u8 0, .int .u8 0, .int .u8 0, .int .u8 0, .int .u8 0, .int .u8 0, .int .u8 0, .int .u8 0, .int .u8 0, .int .u8 0, .int .u8 0, .int .u8 0, .int .u16 0, .slice none 0 0] 0) fun w2 : World =>
 ∃ x3 : Int, ∃ x4 : Int, ∃ x5 : Int, ∃ x6 : Int, ∃ x7 : Int, ∃ x8 : Int, (6 = 6 ∧ At w2 ⟨yg2, 0, none⟩ [.int .u32 x3, .int .u32 x4, .int .u16 x5, .int .u16 x6, .int .u8 x7, .int .i64 x8]) ∧
(∃ x9 : Int, ∃ x10 : Int, ∃ x11 : Int, ∃ x12 : Int, ∃ x13 : Int, ∃ x14 : Int, ∃ x15 : Int, ∃ x16 : Int, ∃ x17 : Int, ∃ x18 : Int, ∃ x19 : Int, ∃ x20 : Int, ∃ x21 : Int, ∃ (A22 : Option Addr) (n22_ c22_ : Nat), (14 = 14 ∧ At w2 ⟨yg3, 0, none⟩ [.int .u8 x9, .int .u8 x10, .int .u8 x11, .int .u8 x12, .int .u8 x13, .int .u8 x14, .int .u8 x15, .int .u8 x16, .int .u8 x17, .int .u8 x18, .int .u8 x19, .int .u8 x20, .int .u16 x21, .slice A22 n22_ c22_]) ∧
(R (.returned (.tuple #[.agg #[.int .u32 x3, .int .u32 x4, .int .u16 x5, .int .u16 x6, .int .u8 x7, .int .i64 x8], .agg #[.int .u8 x9, .int .u8 x10, .int .u8 x11, .int .u8 x12, .int .u8 x13, .int .u8 x14, .int .u8 x15, .int .u8 x16, .int .u8 x17, .int .u8 x18, .int .u8 x19, .int .u8 x20, .int .u16 x21, .slice A22 n22_ c22_], .int .i64 75])) w2)))))
else
(Leaf (weftref7_Open.j2 yg2 yg3 yg5 d0 d1 d4 d6 d7 d8 d9 d10 d11 d12 d13 d14 d15 d16 d17 d18 d19 d20 d21 d22 d23 d24 d25 d26 d27 (.bool y28) d29 d30 d31 d32 d33 d34 d35 d36 d37 d38 d39 d40 d41 d42 d43 d44 d45 d46 d47 d48 d49 d50 d51 d52 d53 d54 d55 d56 d57 d58 d59 d60 d61 d62 d63 d64 d65 d66 d67 d68 d69 d70 d71 d72 d73 d74 d75 d76 d77 d78 d79 d80 d81 d82 d83 d84 d85 d86 d87 d88 d89 d90 d91 d92 d93 d94 d95 d96 d97 d98 d99 w R)))) := by kernel_rfl
theorem weftref7_Open.j2_eq (yg2 : Nat) (yg3 : Nat) (yg5 : Nat) (d0 d1 d4 d6 d7 d8 d9 d10 d11 d12 d13 d14 d15 d16 d17 d18 d19 d20 d21 d22 d23 d24 d25 d26 d27 d28 d29 d30 d31 d32 d33 d34 d35 d36 d37 d38 d39 d40 d41 d42 d43 d44 d45 d46 d47 d48 d49 d50 d51 d52 d53 d54 d55 d56 d57 d58 d59 d60 d61 d62 d63 d64 d65 d66 d67 d68 d69 d70 d71 d72 d73 d74 d75 d76 d77 d78 d79 d80 d81 d82 d83 d84 d85 d86 d87 d88 d89 d90 d91 d92 d93 d94 d95 d96 d97 d98 d99 : Value) (w : World) (R : Ending → World → Prop) : weftref7_Open.j2 yg2 yg3 yg5 d0 d1 d4 d6 d7 d8 d9 d10 d11 d12 d13 d14 d15 d16 d17 d18 d19 d20 d21 d22 d23 d24 d25 d26 d27 d28 d29 d30 d31 d32 d33 d34 d35 d36 d37 d38 d39 d40 d41 d42 d43 d44 d45 d46 d47 d48 d49 d50 d51 d52 d53 d54 d55 d56 d57 d58 d59 d60 d61 d62 d63 d64 d65 d66 d67 d68 d69 d70 d71 d72 d73 d74 d75 d76 d77 d78 d79 d80 d81 d82 d83 d84 d85 d86 d87 d88 d89 d90 d91 d92 d93 d94 d95 d96 d97 d98 d99 w R =
(∃ x1 : Int, w.cell? ⟨yg5, 6, none⟩ = some (.int .u8 x1) ∧
((if (x1 != 17) = true then
(May w ⟨yg2, 0, none⟩ 6 ∧
(Let (putCells w ⟨yg2, 0, none⟩ [.int .u32 0, .int .u32 0, .int .u16 0, .int .u16 0, .int .u8 0, .int .i64 0] 0) fun w2 : World =>
 May w2 ⟨yg3, 0, none⟩ 14 ∧
(Let (putCells w2 ⟨yg3, 0, none⟩ [.int .u8 0, .int .u8 0, .int .u8 0, .int .u8 0, .int .u8 0, .int .u8 0, .int .u8 0, .int .u8 0, .int .u8 0, .int .u8 0, .int .u8 0, .int .u8 0, .int .u16 0, .slice none 0 0] 0) fun w3 : World =>
 ∃ x4 : Int, ∃ x5 : Int, ∃ x6 : Int, ∃ x7 : Int, ∃ x8 : Int, ∃ x9 : Int, (6 = 6 ∧ At w3 ⟨yg2, 0, none⟩ [.int .u32 x4, .int .u32 x5, .int .u16 x6, .int .u16 x7, .int .u8 x8, .int .i64 x9]) ∧
(∃ x10 : Int, ∃ x11 : Int, ∃ x12 : Int, ∃ x13 : Int, ∃ x14 : Int, ∃ x15 : Int, ∃ x16 : Int, ∃ x17 : Int, ∃ x18 : Int, ∃ x19 : Int, ∃ x20 : Int, ∃ x21 : Int, ∃ x22 : Int, ∃ (A23 : Option Addr) (n23_ c23_ : Nat), (14 = 14 ∧ At w3 ⟨yg3, 0, none⟩ [.int .u8 x10, .int .u8 x11, .int .u8 x12, .int .u8 x13, .int .u8 x14, .int .u8 x15, .int .u8 x16, .int .u8 x17, .int .u8 x18, .int .u8 x19, .int .u8 x20, .int .u8 x21, .int .u16 x22, .slice A23 n23_ c23_]) ∧
(R (.returned (.tuple #[.agg #[.int .u32 x4, .int .u32 x5, .int .u16 x6, .int .u16 x7, .int .u8 x8, .int .i64 x9], .agg #[.int .u8 x10, .int .u8 x11, .int .u8 x12, .int .u8 x13, .int .u8 x14, .int .u8 x15, .int .u8 x16, .int .u8 x17, .int .u8 x18, .int .u8 x19, .int .u8 x20, .int .u8 x21, .int .u16 x22, .slice A23 n23_ c23_], .int .i64 74])) w3)))))
else
(∃ x24 : Int, w.cell? ⟨yg5, 7, none⟩ = some (.int .u32 x24) ∧
(∃ x25 : Int, w.cell? ⟨yg5, 8, none⟩ = some (.int .u32 x25) ∧
(∃ (A26 : Option Addr) (n26_ c26_ : Nat), w.cell? ⟨yg5, 10, none⟩ = some (.slice A26 n26_ c26_) ∧
(Calls Try.prog 37 #[.int .u32 x24, .int .u32 x25, .slice A26 n26_ c26_] w (fun (e28 : Ending) (w27 : World) =>
 ∃ x29 : Int, ∃ x30 : Int, ∃ (A31 : Option Addr) (n31_ c31_ : Nat), ∃ x32 : Int, e28 = .returned (.tuple #[.agg #[.int .u16 x29, .int .u16 x30, .slice A31 n31_ c31_], .int .i64 x32]) ∧
(Let (w27.heap.size) fun g33 : Nat =>
 Let (w27.alloc (.cells #[.int .u16 0, .int .u16 0, .slice none 0 0] 30)) fun w34 : World =>
 May w34 ⟨g33, 0, none⟩ 3 ∧
(Let (putCells w34 ⟨g33, 0, none⟩ [.int .u16 x29, .int .u16 x30, .slice A31 n31_ c31_] 0) fun w35 : World =>
(if (x32 != 0) = true then
(May w35 ⟨yg2, 0, none⟩ 6 ∧
(Let (putCells w35 ⟨yg2, 0, none⟩ [.int .u32 0, .int .u32 0, .int .u16 0, .int .u16 0, .int .u8 0, .int .i64 0] 0) fun w36 : World =>
 May w36 ⟨yg3, 0, none⟩ 14 ∧
(Let (putCells w36 ⟨yg3, 0, none⟩ [.int .u8 0, .int .u8 0, .int .u8 0, .int .u8 0, .int .u8 0, .int .u8 0, .int .u8 0, .int .u8 0, .int .u8 0, .int .u8 0, .int .u8 0, .int .u8 0, .int .u16 0, .slice none 0 0] 0) fun w37 : World =>
 ∃ x38 : Int, ∃ x39 : Int, ∃ x40 : Int, ∃ x41 : Int, ∃ x42 : Int, ∃ x43 : Int, (6 = 6 ∧ At w37 ⟨yg2, 0, none⟩ [.int .u32 x38, .int .u32 x39, .int .u16 x40, .int .u16 x41, .int .u8 x42, .int .i64 x43]) ∧
(∃ x44 : Int, ∃ x45 : Int, ∃ x46 : Int, ∃ x47 : Int, ∃ x48 : Int, ∃ x49 : Int, ∃ x50 : Int, ∃ x51 : Int, ∃ x52 : Int, ∃ x53 : Int, ∃ x54 : Int, ∃ x55 : Int, ∃ x56 : Int, ∃ (A57 : Option Addr) (n57_ c57_ : Nat), (14 = 14 ∧ At w37 ⟨yg3, 0, none⟩ [.int .u8 x44, .int .u8 x45, .int .u8 x46, .int .u8 x47, .int .u8 x48, .int .u8 x49, .int .u8 x50, .int .u8 x51, .int .u8 x52, .int .u8 x53, .int .u8 x54, .int .u8 x55, .int .u16 x56, .slice A57 n57_ c57_]) ∧
(R (.returned (.tuple #[.agg #[.int .u32 x38, .int .u32 x39, .int .u16 x40, .int .u16 x41, .int .u8 x42, .int .i64 x43], .agg #[.int .u8 x44, .int .u8 x45, .int .u8 x46, .int .u8 x47, .int .u8 x48, .int .u8 x49, .int .u8 x50, .int .u8 x51, .int .u8 x52, .int .u8 x53, .int .u8 x54, .int .u8 x55, .int .u16 x56, .slice A57 n57_ c57_], .int .i64 x32])) w37)))))
else
(∃ (A58 : Option Addr) (n58_ c58_ : Nat), w35.cell? ⟨g33, 2, none⟩ = some (.slice A58 n58_ c58_) ∧
((if decide ((n58_ : Int) < 8) = true then
(May w35 ⟨yg2, 0, none⟩ 6 ∧
(Let (putCells w35 ⟨yg2, 0, none⟩ [.int .u32 0, .int .u32 0, .int .u16 0, .int .u16 0, .int .u8 0, .int .i64 0] 0) fun w59 : World =>
 May w59 ⟨yg3, 0, none⟩ 14 ∧
(Let (putCells w59 ⟨yg3, 0, none⟩ [.int .u8 0, .int .u8 0, .int .u8 0, .int .u8 0, .int .u8 0, .int .u8 0, .int .u8 0, .int .u8 0, .int .u8 0, .int .u8 0, .int .u8 0, .int .u8 0, .int .u16 0, .slice none 0 0] 0) fun w60 : World =>
 ∃ x61 : Int, ∃ x62 : Int, ∃ x63 : Int, ∃ x64 : Int, ∃ x65 : Int, ∃ x66 : Int, (6 = 6 ∧ At w60 ⟨yg2, 0, none⟩ [.int .u32 x61, .int .u32 x62, .int .u16 x63, .int .u16 x64, .int .u8 x65, .int .i64 x66]) ∧
(∃ x67 : Int, ∃ x68 : Int, ∃ x69 : Int, ∃ x70 : Int, ∃ x71 : Int, ∃ x72 : Int, ∃ x73 : Int, ∃ x74 : Int, ∃ x75 : Int, ∃ x76 : Int, ∃ x77 : Int, ∃ x78 : Int, ∃ x79 : Int, ∃ (A80 : Option Addr) (n80_ c80_ : Nat), (14 = 14 ∧ At w60 ⟨yg3, 0, none⟩ [.int .u8 x67, .int .u8 x68, .int .u8 x69, .int .u8 x70, .int .u8 x71, .int .u8 x72, .int .u8 x73, .int .u8 x74, .int .u8 x75, .int .u8 x76, .int .u8 x77, .int .u8 x78, .int .u16 x79, .slice A80 n80_ c80_]) ∧
(R (.returned (.tuple #[.agg #[.int .u32 x61, .int .u32 x62, .int .u16 x63, .int .u16 x64, .int .u8 x65, .int .i64 x66], .agg #[.int .u8 x67, .int .u8 x68, .int .u8 x69, .int .u8 x70, .int .u8 x71, .int .u8 x72, .int .u8 x73, .int .u8 x74, .int .u8 x75, .int .u8 x76, .int .u8 x77, .int .u8 x78, .int .u16 x79, .slice A80 n80_ c80_], .int .i64 76])) w60)))))
else
(∃ (A81 : Option Addr) (n81_ c81_ : Nat), w35.cell? ⟨g33, 2, none⟩ = some (.slice A81 n81_ c81_) ∧
(∃ a82 : Addr, A81 = some a82 ∧ (0 ≤ (0 : Int) ∧ (0 : Int) < (n81_ : Int)) ∧
(∃ x83 : Int, w35.cell? a82 = some (.int .u8 x83) ∧
(Let (IntKind.u8.wrap (Int.tdiv x83 8)) fun x84 : Int =>
 Let (Int.tmod x84 2) fun x85 : Int =>
(if (x85 != 1) = true then
(May w35 ⟨yg2, 0, none⟩ 6 ∧
(Let (putCells w35 ⟨yg2, 0, none⟩ [.int .u32 0, .int .u32 0, .int .u16 0, .int .u16 0, .int .u8 0, .int .i64 0] 0) fun w86 : World =>
 May w86 ⟨yg3, 0, none⟩ 14 ∧
(Let (putCells w86 ⟨yg3, 0, none⟩ [.int .u8 0, .int .u8 0, .int .u8 0, .int .u8 0, .int .u8 0, .int .u8 0, .int .u8 0, .int .u8 0, .int .u8 0, .int .u8 0, .int .u8 0, .int .u8 0, .int .u16 0, .slice none 0 0] 0) fun w87 : World =>
 ∃ x88 : Int, ∃ x89 : Int, ∃ x90 : Int, ∃ x91 : Int, ∃ x92 : Int, ∃ x93 : Int, (6 = 6 ∧ At w87 ⟨yg2, 0, none⟩ [.int .u32 x88, .int .u32 x89, .int .u16 x90, .int .u16 x91, .int .u8 x92, .int .i64 x93]) ∧
(∃ x94 : Int, ∃ x95 : Int, ∃ x96 : Int, ∃ x97 : Int, ∃ x98 : Int, ∃ x99 : Int, ∃ x100 : Int, ∃ x101 : Int, ∃ x102 : Int, ∃ x103 : Int, ∃ x104 : Int, ∃ x105 : Int, ∃ x106 : Int, ∃ (A107 : Option Addr) (n107_ c107_ : Nat), (14 = 14 ∧ At w87 ⟨yg3, 0, none⟩ [.int .u8 x94, .int .u8 x95, .int .u8 x96, .int .u8 x97, .int .u8 x98, .int .u8 x99, .int .u8 x100, .int .u8 x101, .int .u8 x102, .int .u8 x103, .int .u8 x104, .int .u8 x105, .int .u16 x106, .slice A107 n107_ c107_]) ∧
(R (.returned (.tuple #[.agg #[.int .u32 x88, .int .u32 x89, .int .u16 x90, .int .u16 x91, .int .u8 x92, .int .i64 x93], .agg #[.int .u8 x94, .int .u8 x95, .int .u8 x96, .int .u8 x97, .int .u8 x98, .int .u8 x99, .int .u8 x100, .int .u8 x101, .int .u8 x102, .int .u8 x103, .int .u8 x104, .int .u8 x105, .int .u16 x106, .slice A107 n107_ c107_], .int .i64 77])) w87)))))
else
(∃ (A108 : Option Addr) (n108_ c108_ : Nat), w35.cell? ⟨g33, 2, none⟩ = some (.slice A108 n108_ c108_) ∧
((0 ≤ (8 : Int) ∧ (8 : Int) ≤ (n108_ : Int)) ∧
(Calls Try.prog 43 #[.slice (cutA A108 8 c108_ 1) (n108_ - 8) (c108_ - 8)] w35 (fun (e110 : Ending) (w109 : World) =>
 ∃ x111 : Int, ∃ x112 : Int, ∃ x113 : Int, ∃ x114 : Int, ∃ x115 : Int, ∃ x116 : Int, ∃ x117 : Int, ∃ x118 : Int, ∃ x119 : Int, ∃ x120 : Int, ∃ x121 : Int, ∃ x122 : Int, ∃ x123 : Int, ∃ (A124 : Option Addr) (n124_ c124_ : Nat), ∃ x125 : Int, e110 = .returned (.tuple #[.agg #[.int .u8 x111, .int .u8 x112, .int .u8 x113, .int .u8 x114, .int .u8 x115, .int .u8 x116, .int .u8 x117, .int .u8 x118, .int .u8 x119, .int .u8 x120, .int .u8 x121, .int .u8 x122, .int .u16 x123, .slice A124 n124_ c124_], .int .i64 x125]) ∧
(Let (w109.heap.size) fun g126 : Nat =>
 Let (w109.alloc (.cells #[.int .u8 0, .int .u8 0, .int .u8 0, .int .u8 0, .int .u8 0, .int .u8 0, .int .u8 0, .int .u8 0, .int .u8 0, .int .u8 0, .int .u8 0, .int .u8 0, .int .u16 0, .slice none 0 0] 46)) fun w127 : World =>
 May w127 ⟨g126, 0, none⟩ 14 ∧
(Let (putCells w127 ⟨g126, 0, none⟩ [.int .u8 x111, .int .u8 x112, .int .u8 x113, .int .u8 x114, .int .u8 x115, .int .u8 x116, .int .u8 x117, .int .u8 x118, .int .u8 x119, .int .u8 x120, .int .u8 x121, .int .u8 x122, .int .u16 x123, .slice A124 n124_ c124_] 0) fun w128 : World =>
(if (x125 != 0) = true then
(May w128 ⟨yg2, 0, none⟩ 6 ∧
(Let (putCells w128 ⟨yg2, 0, none⟩ [.int .u32 0, .int .u32 0, .int .u16 0, .int .u16 0, .int .u8 0, .int .i64 0] 0) fun w129 : World =>
 May w129 ⟨yg3, 0, none⟩ 14 ∧
(Let (putCells w129 ⟨yg3, 0, none⟩ [.int .u8 0, .int .u8 0, .int .u8 0, .int .u8 0, .int .u8 0, .int .u8 0, .int .u8 0, .int .u8 0, .int .u8 0, .int .u8 0, .int .u8 0, .int .u8 0, .int .u16 0, .slice none 0 0] 0) fun w130 : World =>
 ∃ x131 : Int, ∃ x132 : Int, ∃ x133 : Int, ∃ x134 : Int, ∃ x135 : Int, ∃ x136 : Int, (6 = 6 ∧ At w130 ⟨yg2, 0, none⟩ [.int .u32 x131, .int .u32 x132, .int .u16 x133, .int .u16 x134, .int .u8 x135, .int .i64 x136]) ∧
(∃ x137 : Int, ∃ x138 : Int, ∃ x139 : Int, ∃ x140 : Int, ∃ x141 : Int, ∃ x142 : Int, ∃ x143 : Int, ∃ x144 : Int, ∃ x145 : Int, ∃ x146 : Int, ∃ x147 : Int, ∃ x148 : Int, ∃ x149 : Int, ∃ (A150 : Option Addr) (n150_ c150_ : Nat), (14 = 14 ∧ At w130 ⟨yg3, 0, none⟩ [.int .u8 x137, .int .u8 x138, .int .u8 x139, .int .u8 x140, .int .u8 x141, .int .u8 x142, .int .u8 x143, .int .u8 x144, .int .u8 x145, .int .u8 x146, .int .u8 x147, .int .u8 x148, .int .u16 x149, .slice A150 n150_ c150_]) ∧
(R (.returned (.tuple #[.agg #[.int .u32 x131, .int .u32 x132, .int .u16 x133, .int .u16 x134, .int .u8 x135, .int .i64 x136], .agg #[.int .u8 x137, .int .u8 x138, .int .u8 x139, .int .u8 x140, .int .u8 x141, .int .u8 x142, .int .u8 x143, .int .u8 x144, .int .u8 x145, .int .u8 x146, .int .u8 x147, .int .u8 x148, .int .u16 x149, .slice A150 n150_ c150_], .int .i64 x125])) w130)))))
else
(∃ (A151 : Option Addr) (n151_ c151_ : Nat), w128.cell? ⟨g33, 2, none⟩ = some (.slice A151 n151_ c151_) ∧
(Calls Try.prog 55 #[.slice A151 n151_ c151_, .int .i64 4, .int .i64 3] w128 (fun (e153 : Ending) (w152 : World) =>
 ∃ x154 : Int, e153 = .returned (.int .i64 x154) ∧
(∃ S155 : World → Prop, S155 w152.drew ∧
(Let (w152.drew) fun w156 : World =>
 ∃ x157 : Int, (∀ w', S155 w' → w'.cell? ⟨yg5, 7, none⟩ = some (.int .u32 x157)) ∧
(∃ x158 : Int, (∀ w', S155 w' → w'.cell? ⟨yg5, 8, none⟩ = some (.int .u32 x158)) ∧
(∃ x159 : Int, (∀ w', S155 w' → w'.cell? ⟨g33, 0, none⟩ = some (.int .u16 x159)) ∧
(∃ x160 : Int, (∀ w', S155 w' → w'.cell? ⟨g33, 1, none⟩ = some (.int .u16 x160)) ∧
(∃ x161 : Int, (∀ w', S155 w' → w'.cell? ⟨yg5, 5, none⟩ = some (.int .u8 x161)) ∧
(∃ x162 : Int, ∃ x163 : Int, ∃ x164 : Int, ∃ x165 : Int, ∃ x166 : Int, ∃ x167 : Int, ∃ x168 : Int, ∃ x169 : Int, ∃ x170 : Int, ∃ x171 : Int, ∃ x172 : Int, ∃ x173 : Int, ∃ x174 : Int, ∃ (A175 : Option Addr) (n175_ c175_ : Nat), (14 = 14 ∧ (∀ w', S155 w' → At w' ⟨g126, 0, none⟩ [.int .u8 x162, .int .u8 x163, .int .u8 x164, .int .u8 x165, .int .u8 x166, .int .u8 x167, .int .u8 x168, .int .u8 x169, .int .u8 x170, .int .u8 x171, .int .u8 x172, .int .u8 x173, .int .u16 x174, .slice A175 n175_ c175_])) ∧
(May w156 ⟨yg2, 0, none⟩ 6 ∧
(Let (putCells w156 ⟨yg2, 0, none⟩ [.int .u32 x157, .int .u32 x158, .int .u16 x159, .int .u16 x160, .int .u8 x161, .int .i64 x154] 0) fun w176 : World =>
 S155 w176 ∧
(May w176 ⟨yg3, 0, none⟩ 14 ∧
(Let (putCells w176 ⟨yg3, 0, none⟩ [.int .u8 x162, .int .u8 x163, .int .u8 x164, .int .u8 x165, .int .u8 x166, .int .u8 x167, .int .u8 x168, .int .u8 x169, .int .u8 x170, .int .u8 x171, .int .u8 x172, .int .u8 x173, .int .u16 x174, .slice A175 n175_ c175_] 0) fun w177 : World =>
 S155 w177 ∧
(∃ x178 : Int, ∃ x179 : Int, ∃ x180 : Int, ∃ x181 : Int, ∃ x182 : Int, ∃ x183 : Int, (6 = 6 ∧ At w177 ⟨yg2, 0, none⟩ [.int .u32 x178, .int .u32 x179, .int .u16 x180, .int .u16 x181, .int .u8 x182, .int .i64 x183]) ∧
(∃ x184 : Int, ∃ x185 : Int, ∃ x186 : Int, ∃ x187 : Int, ∃ x188 : Int, ∃ x189 : Int, ∃ x190 : Int, ∃ x191 : Int, ∃ x192 : Int, ∃ x193 : Int, ∃ x194 : Int, ∃ x195 : Int, ∃ x196 : Int, ∃ (A197 : Option Addr) (n197_ c197_ : Nat), (14 = 14 ∧ At w177 ⟨yg3, 0, none⟩ [.int .u8 x184, .int .u8 x185, .int .u8 x186, .int .u8 x187, .int .u8 x188, .int .u8 x189, .int .u8 x190, .int .u8 x191, .int .u8 x192, .int .u8 x193, .int .u8 x194, .int .u8 x195, .int .u16 x196, .slice A197 n197_ c197_]) ∧
(R (.returned (.tuple #[.agg #[.int .u32 x178, .int .u32 x179, .int .u16 x180, .int .u16 x181, .int .u8 x182, .int .i64 x183], .agg #[.int .u8 x184, .int .u8 x185, .int .u8 x186, .int .u8 x187, .int .u8 x188, .int .u8 x189, .int .u8 x190, .int .u8 x191, .int .u8 x192, .int .u8 x193, .int .u8 x194, .int .u8 x195, .int .u16 x196, .slice A197 n197_ c197_], .int .i64 0])) w177))))))))))))))))))))))))))))))))))))))))))) := by kernel_rfl
def weftref7_Open.s (I0 : Option Addr) (in0 : Nat) (ic0 : Nat) (w : World) (R : Ending → World → Prop) : Prop :=
(Let (w.heap.size) fun g1 : Nat =>
 Let (w.alloc (.cells #[.int .u32 0, .int .u32 0, .int .u16 0, .int .u16 0, .int .u8 0, .int .i64 0] 50)) fun w2 : World =>
 Let (w2.heap.size) fun g3 : Nat =>
 Let (w2.alloc (.cells #[.int .u8 0, .int .u8 0, .int .u8 0, .int .u8 0, .int .u8 0, .int .u8 0, .int .u8 0, .int .u8 0, .int .u8 0, .int .u8 0, .int .u8 0, .int .u8 0, .int .u16 0, .slice none 0 0] 46)) fun w4 : World =>
 Calls Try.prog 54 #[.slice I0 in0 ic0] w4 (fun (e6 : Ending) (w5 : World) =>
 ∃ x7 : Int, ∃ x8 : Int, ∃ b9 : Bool, ∃ b10 : Bool, ∃ x11 : Int, ∃ x12 : Int, ∃ x13 : Int, ∃ x14 : Int, ∃ x15 : Int, ∃ (A16 : Option Addr) (n16_ c16_ : Nat), ∃ (A17 : Option Addr) (n17_ c17_ : Nat), ∃ x18 : Int, e6 = .returned (.tuple #[.agg #[.int .u8 x7, .int .u16 x8, .bool b9, .bool b10, .int .i64 x11, .int .u8 x12, .int .u8 x13, .int .u32 x14, .int .u32 x15, .slice A16 n16_ c16_, .slice A17 n17_ c17_], .int .i64 x18]) ∧
(Let (w5.heap.size) fun g19 : Nat =>
 Let (w5.alloc (.cells #[.int .u8 0, .int .u16 0, .bool false, .bool false, .int .i64 0, .int .u8 0, .int .u8 0, .int .u32 0, .int .u32 0, .slice none 0 0, .slice none 0 0] 88)) fun w20 : World =>
 May w20 ⟨g19, 0, none⟩ 11 ∧
(Let (putCells w20 ⟨g19, 0, none⟩ [.int .u8 x7, .int .u16 x8, .bool b9, .bool b10, .int .i64 x11, .int .u8 x12, .int .u8 x13, .int .u32 x14, .int .u32 x15, .slice A16 n16_ c16_, .slice A17 n17_ c17_] 0) fun w21 : World =>
(if (x18 != 0) = true then
(May w21 ⟨g1, 0, none⟩ 6 ∧
(Let (putCells w21 ⟨g1, 0, none⟩ [.int .u32 0, .int .u32 0, .int .u16 0, .int .u16 0, .int .u8 0, .int .i64 0] 0) fun w22 : World =>
 May w22 ⟨g3, 0, none⟩ 14 ∧
(Let (putCells w22 ⟨g3, 0, none⟩ [.int .u8 0, .int .u8 0, .int .u8 0, .int .u8 0, .int .u8 0, .int .u8 0, .int .u8 0, .int .u8 0, .int .u8 0, .int .u8 0, .int .u8 0, .int .u8 0, .int .u16 0, .slice none 0 0] 0) fun w23 : World =>
 ∃ x24 : Int, ∃ x25 : Int, ∃ x26 : Int, ∃ x27 : Int, ∃ x28 : Int, ∃ x29 : Int, (6 = 6 ∧ At w23 ⟨g1, 0, none⟩ [.int .u32 x24, .int .u32 x25, .int .u16 x26, .int .u16 x27, .int .u8 x28, .int .i64 x29]) ∧
(∃ x30 : Int, ∃ x31 : Int, ∃ x32 : Int, ∃ x33 : Int, ∃ x34 : Int, ∃ x35 : Int, ∃ x36 : Int, ∃ x37 : Int, ∃ x38 : Int, ∃ x39 : Int, ∃ x40 : Int, ∃ x41 : Int, ∃ x42 : Int, ∃ (A43 : Option Addr) (n43_ c43_ : Nat), (14 = 14 ∧ At w23 ⟨g3, 0, none⟩ [.int .u8 x30, .int .u8 x31, .int .u8 x32, .int .u8 x33, .int .u8 x34, .int .u8 x35, .int .u8 x36, .int .u8 x37, .int .u8 x38, .int .u8 x39, .int .u8 x40, .int .u8 x41, .int .u16 x42, .slice A43 n43_ c43_]) ∧
(R (.returned (.tuple #[.agg #[.int .u32 x24, .int .u32 x25, .int .u16 x26, .int .u16 x27, .int .u8 x28, .int .i64 x29], .agg #[.int .u8 x30, .int .u8 x31, .int .u8 x32, .int .u8 x33, .int .u8 x34, .int .u8 x35, .int .u8 x36, .int .u8 x37, .int .u8 x38, .int .u8 x39, .int .u8 x40, .int .u8 x41, .int .u16 x42, .slice A43 n43_ c43_], .int .i64 x18])) w23)))))
else
(∃ b44 : Bool, w21.cell? ⟨g19, 3, none⟩ = some (.bool b44) ∧
((if b44 = true then
(Leaf (weftref7_Open.j1 g1 g3 g19 true (.slice I0 in0 ic0) undef (.int .i64 0) (.int .i64 x18) undef undef undef (.tuple #[.agg #[.int .u8 x7, .int .u16 x8, .bool b9, .bool b10, .int .i64 x11, .int .u8 x12, .int .u8 x13, .int .u32 x14, .int .u32 x15, .slice A16 n16_ c16_, .slice A17 n17_ c17_], .int .i64 x18]) (.slice I0 in0 ic0) (.tuple #[.agg #[.int .u8 x7, .int .u16 x8, .bool b9, .bool b10, .int .i64 x11, .int .u8 x12, .int .u8 x13, .int .u32 x14, .int .u32 x15, .slice A16 n16_ c16_, .slice A17 n17_ c17_], .int .i64 x18]) (.agg #[.int .u8 x7, .int .u16 x8, .bool b9, .bool b10, .int .i64 x11, .int .u8 x12, .int .u8 x13, .int .u32 x14, .int .u32 x15, .slice A16 n16_ c16_, .slice A17 n17_ c17_]) (.int .i64 x18) (.int .i64 x18) (.bool (x18 != 0)) undef undef undef (.pointer (some ⟨g19, 0, none⟩)) (.pointer (some ⟨g19, 3, none⟩)) (.bool b44) (.bool true) undef undef undef undef undef undef undef undef undef undef undef undef undef undef undef undef undef undef undef undef undef undef undef undef undef undef undef undef undef undef undef undef undef undef undef undef undef undef undef undef undef undef undef undef undef undef undef undef undef undef undef undef undef undef undef undef undef undef undef undef undef undef undef undef undef undef undef undef undef undef undef undef undef undef undef w21 R))
else
(∃ x45 : Int, w21.cell? ⟨g19, 4, none⟩ = some (.int .i64 x45) ∧
(Leaf (weftref7_Open.j1 g1 g3 g19 (x45 != 0) (.slice I0 in0 ic0) undef (.int .i64 0) (.int .i64 x18) undef undef undef (.tuple #[.agg #[.int .u8 x7, .int .u16 x8, .bool b9, .bool b10, .int .i64 x11, .int .u8 x12, .int .u8 x13, .int .u32 x14, .int .u32 x15, .slice A16 n16_ c16_, .slice A17 n17_ c17_], .int .i64 x18]) (.slice I0 in0 ic0) (.tuple #[.agg #[.int .u8 x7, .int .u16 x8, .bool b9, .bool b10, .int .i64 x11, .int .u8 x12, .int .u8 x13, .int .u32 x14, .int .u32 x15, .slice A16 n16_ c16_, .slice A17 n17_ c17_], .int .i64 x18]) (.agg #[.int .u8 x7, .int .u16 x8, .bool b9, .bool b10, .int .i64 x11, .int .u8 x12, .int .u8 x13, .int .u32 x14, .int .u32 x15, .slice A16 n16_ c16_, .slice A17 n17_ c17_]) (.int .i64 x18) (.int .i64 x18) (.bool (x18 != 0)) undef undef undef (.pointer (some ⟨g19, 0, none⟩)) (.pointer (some ⟨g19, 3, none⟩)) (.bool b44) (.bool false) (.pointer (some ⟨g19, 0, none⟩)) (.pointer (some ⟨g19, 4, none⟩)) (.int .i64 x45) (.bool (x45 != 0)) undef undef undef undef undef undef undef undef undef undef undef undef undef undef undef undef undef undef undef undef undef undef undef undef undef undef undef undef undef undef undef undef undef undef undef undef undef undef undef undef undef undef undef undef undef undef undef undef undef undef undef undef undef undef undef undef undef undef undef undef undef undef undef undef undef undef undef undef undef undef undef w21 R)))))))))))
theorem weftref7_Open.s_eq (I0 : Option Addr) (in0 : Nat) (ic0 : Nat) (w : World) (R : Ending → World → Prop) : seg Try.prog entE weftref7_Open.ords weftref7_Open.joins Try.f26 [] [] [] ([.slice I0 in0 ic0] ++ List.replicate (Try.f26.ntmps - ([.slice I0 in0 ic0] : List Value).length) undef) w R = weftref7_Open.s I0 in0 ic0 w R := by kernel_rfl
theorem weftref7_Open.run {I0 : Option Addr} {in0 : Nat} {ic0 : Nat} {w : World} {R : Ending → World → Prop} (h : weftref7_Open.s I0 in0 ic0 w R) : Calls Try.prog 26 #[.slice I0 in0 ic0] w R :=
  calls_seg ents mixed Try.func26 rfl (by rw [weftref7_Open.s_eq]; exact h)
end Go.Proofs.YtleelkkddjldnaaS
