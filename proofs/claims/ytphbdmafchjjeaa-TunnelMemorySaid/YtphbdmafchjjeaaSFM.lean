/- What functions of the program come to, told by a program of this session out of the translation; the kernel computes each statement out of the code.
   Conditions: none. -/
import Derived.Test.YtphbdmafchjjeaaSBase
namespace Go.Proofs.YtphbdmafchjjeaaS
open Go Go.Proofs
set_option maxRecDepth 100000
set_option linter.unusedVariables false
/-! ### weftlaw7_fill: function 14 -/
def weftlaw7_fill.ords : Nat → Od
  | _ => .nil
def weftlaw7_fill.joins (p : List Nat) : Bool := false
def weftlaw7_fill.l1 (n : Nat) (Y0 : Option Addr) (yn0 : Nat) (yc0 : Nat) (y1 : Int) (y4 : Int) (d2 d3 d5 d6 d7 d8 d9 d10 d11 d12 d13 d14 : Value) (w : World) (R : Ending → World → Prop) : Prop :=
  lseg Try.prog entE weftlaw7_fill.ords weftlaw7_fill.joins Try.f14 [1, 0] [0, 1] [] n [.slice Y0 yn0 yc0, .int .u8 y1, d2, d3, .int .i64 y4, d5, d6, d7, d8, d9, d10, d11, d12, d13, d14] w R
abbrev weftlaw7_fill.L1 (n : Nat) (Y0 : Option Addr) (yn0 : Nat) (yc0 : Nat) (y1 : Int) (y4 : Int) (w : World) (R : Ending → World → Prop) : Prop := ∀ d2 d3 d5 d6 d7 d8 d9 d10 d11 d12 d13 d14 : Value, weftlaw7_fill.l1 n Y0 yn0 yc0 y1 y4 d2 d3 d5 d6 d7 d8 d9 d10 d11 d12 d13 d14 w R
theorem weftlaw7_fill.l1_eq (n : Nat) (Y0 : Option Addr) (yn0 : Nat) (yc0 : Nat) (y1 : Int) (y4 : Int) (d2 d3 d5 d6 d7 d8 d9 d10 d11 d12 d13 d14 : Value) (w : World) (R : Ending → World → Prop) : weftlaw7_fill.l1 (n + 1) Y0 yn0 yc0 y1 y4 d2 d3 d5 d6 d7 d8 d9 d10 d11 d12 d13 d14 w R =
((if decide (y4 < (yn0 : Int)) = true then
(∃ a1 : Addr, Y0 = some a1 ∧ (0 ≤ y4 ∧ y4 < (yn0 : Int)) ∧
(MayC w (a1.add y4.toNat) ∧
(Let (w.setCell (a1.add y4.toNat) (.int .u8 y1)) fun w2 : World =>
 Let (IntKind.i64.wrap (y4 + 1)) fun x3 : Int =>
 weftlaw7_fill.l1 n Y0 yn0 yc0 y1 x3 d2 d3 (.int .i64 y4) (.slice Y0 yn0 yc0) (.int .i64 (yn0 : Int)) (.bool (decide (y4 < (yn0 : Int)))) (.int .i64 y4) (.int .i64 x3) (.slice Y0 yn0 yc0) (.int .i64 y4) (.int .u8 y1) (.pointer (some (a1.add y4.toNat))) w2 R)))
else
(R (.returned (.tuple #[])) w))) := by kernel_rfl
def weftlaw7_fill.s (I0 : Option Addr) (in0 : Nat) (ic0 : Nat) (i1 : Int) (w : World) (R : Ending → World → Prop) : Prop :=
(∃ n1 : Nat, weftlaw7_fill.l1 n1 I0 in0 ic0 i1 0 undef undef undef undef undef undef undef undef undef undef undef undef w R)
theorem weftlaw7_fill.s_eq (I0 : Option Addr) (in0 : Nat) (ic0 : Nat) (i1 : Int) (w : World) (R : Ending → World → Prop) : seg Try.prog entE weftlaw7_fill.ords weftlaw7_fill.joins Try.f14 [] [] [] ([.slice I0 in0 ic0, .int .u8 i1] ++ List.replicate (Try.f14.ntmps - ([.slice I0 in0 ic0, .int .u8 i1] : List Value).length) undef) w R = weftlaw7_fill.s I0 in0 ic0 i1 w R := by kernel_rfl
theorem weftlaw7_fill.run {I0 : Option Addr} {in0 : Nat} {ic0 : Nat} {i1 : Int} {w : World} {R : Ending → World → Prop} (h : weftlaw7_fill.s I0 in0 ic0 i1 w R) : Calls Try.prog 14 #[.slice I0 in0 ic0, .int .u8 i1] w R :=
  calls_seg ents mixed Try.func14 rfl (by rw [weftlaw7_fill.s_eq]; exact h)
/-! ### weftlaw7_full: function 16 -/
def weftlaw7_full.ords : Nat → Od
  | _ => .nil
def weftlaw7_full.joins (p : List Nat) : Bool := false
def weftlaw7_full.l1 (n : Nat) (Y0 : Option Addr) (yn0 : Nat) (yc0 : Nat) (y1 : Int) (y5 : Int) (d2 d3 d4 d6 d7 d8 d9 d10 d11 d12 d13 d14 d15 d16 d17 : Value) (w : World) (R : Ending → World → Prop) : Prop :=
  lseg Try.prog entE weftlaw7_full.ords weftlaw7_full.joins Try.f16 [1, 0, 1, 0] [0, 1, 0, 1] [] n [.slice Y0 yn0 yc0, .int .u8 y1, d2, d3, d4, .int .i64 y5, d6, d7, d8, d9, d10, d11, d12, d13, d14, d15, d16, d17] w R
abbrev weftlaw7_full.L1 (n : Nat) (Y0 : Option Addr) (yn0 : Nat) (yc0 : Nat) (y1 : Int) (y5 : Int) (w : World) (R : Ending → World → Prop) : Prop := ∀ d2 d3 d4 d6 d7 d8 d9 d10 d11 d12 d13 d14 d15 d16 d17 : Value, weftlaw7_full.l1 n Y0 yn0 yc0 y1 y5 d2 d3 d4 d6 d7 d8 d9 d10 d11 d12 d13 d14 d15 d16 d17 w R
theorem weftlaw7_full.l1_eq (n : Nat) (Y0 : Option Addr) (yn0 : Nat) (yc0 : Nat) (y1 : Int) (y5 : Int) (d2 d3 d4 d6 d7 d8 d9 d10 d11 d12 d13 d14 d15 d16 d17 : Value) (w : World) (R : Ending → World → Prop) : weftlaw7_full.l1 (n + 1) Y0 yn0 yc0 y1 y5 d2 d3 d4 d6 d7 d8 d9 d10 d11 d12 d13 d14 d15 d16 d17 w R =
((if decide (y5 < (yn0 : Int)) = true then
(∃ a1 : Addr, Y0 = some a1 ∧ (0 ≤ y5 ∧ y5 < (yn0 : Int)) ∧
(∃ x2 : Int, w.cell? (a1.add y5.toNat) = some (.int .u8 x2) ∧
((if (x2 != y1) = true then
(R (.returned (.bool false)) w)
else
(Let (IntKind.i64.wrap (y5 + 1)) fun x3 : Int =>
 weftlaw7_full.l1 n Y0 yn0 yc0 y1 x3 d2 d3 d4 (.int .i64 y5) (.slice Y0 yn0 yc0) (.int .i64 (yn0 : Int)) (.bool (decide (y5 < (yn0 : Int)))) (.int .i64 y5) (.int .i64 x3) (.slice Y0 yn0 yc0) (.int .i64 y5) (.pointer (some (a1.add y5.toNat))) (.int .u8 x2) (.int .u8 y1) (.bool (x2 != y1)) w R)))))
else
(R (.returned (.bool true)) w))) := by kernel_rfl
def weftlaw7_full.s (I0 : Option Addr) (in0 : Nat) (ic0 : Nat) (i1 : Int) (w : World) (R : Ending → World → Prop) : Prop :=
(∃ n1 : Nat, weftlaw7_full.l1 n1 I0 in0 ic0 i1 0 undef undef (.bool false) undef undef undef undef undef undef undef undef undef undef undef undef w R)
theorem weftlaw7_full.s_eq (I0 : Option Addr) (in0 : Nat) (ic0 : Nat) (i1 : Int) (w : World) (R : Ending → World → Prop) : seg Try.prog entE weftlaw7_full.ords weftlaw7_full.joins Try.f16 [] [] [] ([.slice I0 in0 ic0, .int .u8 i1] ++ List.replicate (Try.f16.ntmps - ([.slice I0 in0 ic0, .int .u8 i1] : List Value).length) undef) w R = weftlaw7_full.s I0 in0 ic0 i1 w R := by kernel_rfl
theorem weftlaw7_full.run {I0 : Option Addr} {in0 : Nat} {ic0 : Nat} {i1 : Int} {w : World} {R : Ending → World → Prop} (h : weftlaw7_full.s I0 in0 ic0 i1 w R) : Calls Try.prog 16 #[.slice I0 in0 ic0, .int .u8 i1] w R :=
  calls_seg ents mixed Try.func16 rfl (by rw [weftlaw7_full.s_eq]; exact h)
/-! ### weftlaw7_longer: function 15 -/
def weftlaw7_longer.ords : Nat → Od
  | _ => .nil
def weftlaw7_longer.joins (p : List Nat) : Bool := false
def weftlaw7_longer.l1 (n : Nat) (Y0 : Option Addr) (yn0 : Nat) (yc0 : Nat) (y1 : Int) (y2 : Int) (y7 : Int) (d3 d4 d5 d6 d8 d9 d10 d11 d12 d13 d14 d15 d16 d17 : Value) (w : World) (R : Ending → World → Prop) : Prop :=
  lseg Try.prog entE weftlaw7_longer.ords weftlaw7_longer.joins Try.f15 [1, 0, 1, 0] [0, 1, 0, 1] [] n [.slice Y0 yn0 yc0, .int .u8 y1, .int .i64 y2, d3, d4, d5, d6, .int .i64 y7, d8, d9, d10, d11, d12, d13, d14, d15, d16, d17] w R
abbrev weftlaw7_longer.L1 (n : Nat) (Y0 : Option Addr) (yn0 : Nat) (yc0 : Nat) (y1 : Int) (y2 : Int) (y7 : Int) (w : World) (R : Ending → World → Prop) : Prop := ∀ d3 d4 d5 d6 d8 d9 d10 d11 d12 d13 d14 d15 d16 d17 : Value, weftlaw7_longer.l1 n Y0 yn0 yc0 y1 y2 y7 d3 d4 d5 d6 d8 d9 d10 d11 d12 d13 d14 d15 d16 d17 w R
theorem weftlaw7_longer.l1_eq (n : Nat) (Y0 : Option Addr) (yn0 : Nat) (yc0 : Nat) (y1 : Int) (y2 : Int) (y7 : Int) (d3 d4 d5 d6 d8 d9 d10 d11 d12 d13 d14 d15 d16 d17 : Value) (w : World) (R : Ending → World → Prop) : weftlaw7_longer.l1 (n + 1) Y0 yn0 yc0 y1 y2 y7 d3 d4 d5 d6 d8 d9 d10 d11 d12 d13 d14 d15 d16 d17 w R =
((if decide (y7 < y2) = true then
(Let (w.heap.size) fun g1 : Nat =>
 Let (w.alloc (.cells #[.int .u8 y1] 5)) fun w2 : World =>
 AppE w2 1 1 5 [.int .u8 0] Y0 yn0 yc0 (some ⟨g1, 0, none⟩) 1 (fun (A3 : Option Addr) (c4 : Nat) (w5 : World) =>
 Let (IntKind.i64.wrap (y7 + 1)) fun x6 : Int =>
 weftlaw7_longer.l1 n A3 (yn0 + 1) c4 y1 y2 x6 d3 d4 d5 d6 (.int .i64 y7) (.int .i64 y2) (.bool (decide (y7 < y2))) (.int .i64 y7) (.int .i64 x6) (.slice Y0 yn0 yc0) (.int .u8 y1) (.slice (some ⟨g1, 0, none⟩) 1 1) (.slice A3 (yn0 + 1) c4) d17 w5 R))
else
(R (.returned (.slice Y0 yn0 yc0)) w))) := by kernel_rfl
def weftlaw7_longer.s (I0 : Option Addr) (in0 : Nat) (ic0 : Nat) (i1 : Int) (i2 : Int) (w : World) (R : Ending → World → Prop) : Prop :=
(∃ n1 : Nat, weftlaw7_longer.l1 n1 I0 in0 ic0 i1 i2 0 undef undef undef (.slice none 0 0) undef undef undef undef undef undef undef undef undef undef w R)
theorem weftlaw7_longer.s_eq (I0 : Option Addr) (in0 : Nat) (ic0 : Nat) (i1 : Int) (i2 : Int) (w : World) (R : Ending → World → Prop) : seg Try.prog entE weftlaw7_longer.ords weftlaw7_longer.joins Try.f15 [] [] [] ([.slice I0 in0 ic0, .int .u8 i1, .int .i64 i2] ++ List.replicate (Try.f15.ntmps - ([.slice I0 in0 ic0, .int .u8 i1, .int .i64 i2] : List Value).length) undef) w R = weftlaw7_longer.s I0 in0 ic0 i1 i2 w R := by kernel_rfl
theorem weftlaw7_longer.run {I0 : Option Addr} {in0 : Nat} {ic0 : Nat} {i1 : Int} {i2 : Int} {w : World} {R : Ending → World → Prop} (h : weftlaw7_longer.s I0 in0 ic0 i1 i2 w R) : Calls Try.prog 15 #[.slice I0 in0 ic0, .int .u8 i1, .int .i64 i2] w R :=
  calls_seg ents mixed Try.func15 rfl (by rw [weftlaw7_longer.s_eq]; exact h)
/-! ### weftlaw7_pat: function 17 -/
def weftlaw7_pat.ords : Nat → Od
  | _ => .nil
def weftlaw7_pat.joins (p : List Nat) : Bool := false
def weftlaw7_pat.s (i0 : Int) (i1 : Int) (w : World) (R : Ending → World → Prop) : Prop :=
(Let (IntKind.i64.wrap (1 + i0)) fun x1 : Int =>
 Let (Int.tmod i1 3) fun x2 : Int =>
 Let (IntKind.i64.wrap (8 * x2)) fun x3 : Int =>
 0 ≤ x3 ∧
(Let (Int.fdiv x1 ((2 : Int) ^ (min x3.toNat 64))) fun x4 : Int =>
 Let (IntKind.u8.wrap x4) fun x5 : Int =>
 R (.returned (.int .u8 x5)) w))
theorem weftlaw7_pat.s_eq (i0 : Int) (i1 : Int) (w : World) (R : Ending → World → Prop) : seg Try.prog entE weftlaw7_pat.ords weftlaw7_pat.joins Try.f17 [] [] [] ([.int .i64 i0, .int .i64 i1] ++ List.replicate (Try.f17.ntmps - ([.int .i64 i0, .int .i64 i1] : List Value).length) undef) w R = weftlaw7_pat.s i0 i1 w R := by kernel_rfl
theorem weftlaw7_pat.run {i0 : Int} {i1 : Int} {w : World} {R : Ending → World → Prop} (h : weftlaw7_pat.s i0 i1 w R) : Calls Try.prog 17 #[.int .i64 i0, .int .i64 i1] w R :=
  calls_seg ents mixed Try.func17 rfl (by rw [weftlaw7_pat.s_eq]; exact h)
end Go.Proofs.YtphbdmafchjjeaaS
