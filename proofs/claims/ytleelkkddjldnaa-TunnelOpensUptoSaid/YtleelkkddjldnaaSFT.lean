/- What functions of the program come to, told by a program of this session out of the translation; the kernel computes each statement out of the code.
   Conditions: none. -/
import Derived.Test.YtleelkkddjldnaaSBase
namespace Go.Proofs.YtleelkkddjldnaaS
open Go Go.Proofs
set_option maxRecDepth 100000
set_option linter.unusedVariables false
/-! ### tunnel_load_uint16: function 41 -/
def tunnel_load_uint16.ords : Nat → Od
  | _ => .nil
def tunnel_load_uint16.joins (p : List Nat) : Bool := false
def tunnel_load_uint16.l1 (n : Nat) (y3 : Int) (Y6 : Option Addr) (yn6 : Nat) (yc6 : Nat) (y7 : Int) (y8 : Int) (d0 d1 d2 d4 d5 d9 d10 d11 d12 d13 d14 d15 d16 d17 d18 : Value) (w : World) (R : Ending → World → Prop) : Prop :=
  lseg Try.prog entE tunnel_load_uint16.ords tunnel_load_uint16.joins Try.f41 [1, 1, 0, 1, 0] [0, 1, 0, 1, 1] [] n [d0, d1, d2, .int .u16 y3, d4, d5, .slice Y6 yn6 yc6, .int .i64 y7, .int .i64 y8, d9, d10, d11, d12, d13, d14, d15, d16, d17, d18] w R
abbrev tunnel_load_uint16.L1 (n : Nat) (y3 : Int) (Y6 : Option Addr) (yn6 : Nat) (yc6 : Nat) (y7 : Int) (y8 : Int) (w : World) (R : Ending → World → Prop) : Prop := ∀ d0 d1 d2 d4 d5 d9 d10 d11 d12 d13 d14 d15 d16 d17 d18 : Value, tunnel_load_uint16.l1 n y3 Y6 yn6 yc6 y7 y8 d0 d1 d2 d4 d5 d9 d10 d11 d12 d13 d14 d15 d16 d17 d18 w R
theorem tunnel_load_uint16.l1_eq (n : Nat) (y3 : Int) (Y6 : Option Addr) (yn6 : Nat) (yc6 : Nat) (y7 : Int) (y8 : Int) (d0 d1 d2 d4 d5 d9 d10 d11 d12 d13 d14 d15 d16 d17 d18 : Value) (w : World) (R : Ending → World → Prop) : tunnel_load_uint16.l1 (n + 1) y3 Y6 yn6 yc6 y7 y8 d0 d1 d2 d4 d5 d9 d10 d11 d12 d13 d14 d15 d16 d17 d18 w R =
((if decide (y8 < y7) = true then
(∃ a1 : Addr, Y6 = some a1 ∧ (0 ≤ y8 ∧ y8 < (yn6 : Int)) ∧
(∃ x2 : Int, w.cell? (a1.add y8.toNat) = some (.int .u8 x2) ∧
(Let (IntKind.u16.wrap (y3 * 256)) fun x3 : Int =>
 Let (IntKind.u16.wrap x2) fun x4 : Int =>
 Let (Go.bits .or .u16 x3 x4) fun x5 : Int =>
 Let (IntKind.i64.wrap (y8 + 1)) fun x6 : Int =>
 tunnel_load_uint16.l1 n x5 Y6 yn6 yc6 y7 x6 d0 d1 d2 d4 (.int .u8 x2) (.bool (decide (y8 < y7))) (.pointer (some (a1.add y8.toNat))) (.int .u8 x2) (.int .u16 y3) (.int .u16 x3) (.int .u8 x2) (.int .u16 x4) (.int .u16 x5) (.int .i64 x6) d18 w R)))
else
(R (.returned (.int .u16 y3)) w))) := by kernel_rfl
def tunnel_load_uint16.s (I0 : Option Addr) (in0 : Nat) (ic0 : Nat) (w : World) (R : Ending → World → Prop) : Prop :=
(∃ n1 : Nat, tunnel_load_uint16.l1 n1 0 I0 in0 ic0 (in0 : Int) 0 (.slice I0 in0 ic0) undef (.int .u16 0) undef undef undef undef undef undef undef undef undef undef undef undef w R)
theorem tunnel_load_uint16.s_eq (I0 : Option Addr) (in0 : Nat) (ic0 : Nat) (w : World) (R : Ending → World → Prop) : seg Try.prog entE tunnel_load_uint16.ords tunnel_load_uint16.joins Try.f41 [] [] [] ([.slice I0 in0 ic0] ++ List.replicate (Try.f41.ntmps - ([.slice I0 in0 ic0] : List Value).length) undef) w R = tunnel_load_uint16.s I0 in0 ic0 w R := by kernel_rfl
theorem tunnel_load_uint16.run {I0 : Option Addr} {in0 : Nat} {ic0 : Nat} {w : World} {R : Ending → World → Prop} (h : tunnel_load_uint16.s I0 in0 ic0 w R) : Calls Try.prog 41 #[.slice I0 in0 ic0] w R :=
  calls_seg ents mixed Try.func41 rfl (by rw [tunnel_load_uint16.s_eq]; exact h)
/-! ### tunnel_load_uint32: function 53 -/
def tunnel_load_uint32.ords : Nat → Od
  | _ => .nil
def tunnel_load_uint32.joins (p : List Nat) : Bool := false
def tunnel_load_uint32.l1 (n : Nat) (y3 : Int) (Y6 : Option Addr) (yn6 : Nat) (yc6 : Nat) (y7 : Int) (y8 : Int) (d0 d1 d2 d4 d5 d9 d10 d11 d12 d13 d14 d15 d16 d17 d18 : Value) (w : World) (R : Ending → World → Prop) : Prop :=
  lseg Try.prog entE tunnel_load_uint32.ords tunnel_load_uint32.joins Try.f53 [1, 1, 0, 1, 0] [0, 1, 0, 1, 1] [] n [d0, d1, d2, .int .u32 y3, d4, d5, .slice Y6 yn6 yc6, .int .i64 y7, .int .i64 y8, d9, d10, d11, d12, d13, d14, d15, d16, d17, d18] w R
abbrev tunnel_load_uint32.L1 (n : Nat) (y3 : Int) (Y6 : Option Addr) (yn6 : Nat) (yc6 : Nat) (y7 : Int) (y8 : Int) (w : World) (R : Ending → World → Prop) : Prop := ∀ d0 d1 d2 d4 d5 d9 d10 d11 d12 d13 d14 d15 d16 d17 d18 : Value, tunnel_load_uint32.l1 n y3 Y6 yn6 yc6 y7 y8 d0 d1 d2 d4 d5 d9 d10 d11 d12 d13 d14 d15 d16 d17 d18 w R
theorem tunnel_load_uint32.l1_eq (n : Nat) (y3 : Int) (Y6 : Option Addr) (yn6 : Nat) (yc6 : Nat) (y7 : Int) (y8 : Int) (d0 d1 d2 d4 d5 d9 d10 d11 d12 d13 d14 d15 d16 d17 d18 : Value) (w : World) (R : Ending → World → Prop) : tunnel_load_uint32.l1 (n + 1) y3 Y6 yn6 yc6 y7 y8 d0 d1 d2 d4 d5 d9 d10 d11 d12 d13 d14 d15 d16 d17 d18 w R =
((if decide (y8 < y7) = true then
(∃ a1 : Addr, Y6 = some a1 ∧ (0 ≤ y8 ∧ y8 < (yn6 : Int)) ∧
(∃ x2 : Int, w.cell? (a1.add y8.toNat) = some (.int .u8 x2) ∧
(Let (IntKind.u32.wrap (y3 * 256)) fun x3 : Int =>
 Let (IntKind.u32.wrap x2) fun x4 : Int =>
 Let (Go.bits .or .u32 x3 x4) fun x5 : Int =>
 Let (IntKind.i64.wrap (y8 + 1)) fun x6 : Int =>
 tunnel_load_uint32.l1 n x5 Y6 yn6 yc6 y7 x6 d0 d1 d2 d4 (.int .u8 x2) (.bool (decide (y8 < y7))) (.pointer (some (a1.add y8.toNat))) (.int .u8 x2) (.int .u32 y3) (.int .u32 x3) (.int .u8 x2) (.int .u32 x4) (.int .u32 x5) (.int .i64 x6) d18 w R)))
else
(R (.returned (.int .u32 y3)) w))) := by kernel_rfl
def tunnel_load_uint32.s (I0 : Option Addr) (in0 : Nat) (ic0 : Nat) (w : World) (R : Ending → World → Prop) : Prop :=
(∃ n1 : Nat, tunnel_load_uint32.l1 n1 0 I0 in0 ic0 (in0 : Int) 0 (.slice I0 in0 ic0) undef (.int .u32 0) undef undef undef undef undef undef undef undef undef undef undef undef w R)
theorem tunnel_load_uint32.s_eq (I0 : Option Addr) (in0 : Nat) (ic0 : Nat) (w : World) (R : Ending → World → Prop) : seg Try.prog entE tunnel_load_uint32.ords tunnel_load_uint32.joins Try.f53 [] [] [] ([.slice I0 in0 ic0] ++ List.replicate (Try.f53.ntmps - ([.slice I0 in0 ic0] : List Value).length) undef) w R = tunnel_load_uint32.s I0 in0 ic0 w R := by kernel_rfl
theorem tunnel_load_uint32.run {I0 : Option Addr} {in0 : Nat} {ic0 : Nat} {w : World} {R : Ending → World → Prop} (h : tunnel_load_uint32.s I0 in0 ic0 w R) : Calls Try.prog 53 #[.slice I0 in0 ic0] w R :=
  calls_seg ents mixed Try.func53 rfl (by rw [tunnel_load_uint32.s_eq]; exact h)
/-! ### tunnel_store_uint16: function 38 -/
def tunnel_store_uint16.ords : Nat → Od
  | _ => .nil
def tunnel_store_uint16.joins (p : List Nat) : Bool := false
def tunnel_store_uint16.l1 (n : Nat) (Y0 : Option Addr) (yn0 : Nat) (yc0 : Nat) (y1 : Int) (y6 : Int) (y7 : Int) (d2 d3 d4 d5 d8 d9 d10 d11 d12 d13 d14 d15 d16 d17 d18 d19 d20 d21 : Value) (w : World) (R : Ending → World → Prop) : Prop :=
  lseg Try.prog entE tunnel_store_uint16.ords tunnel_store_uint16.joins Try.f38 [1, 0] [0, 1] [] n [.slice Y0 yn0 yc0, .int .u16 y1, d2, d3, d4, d5, .int .i64 y6, .int .i64 y7, d8, d9, d10, d11, d12, d13, d14, d15, d16, d17, d18, d19, d20, d21] w R
abbrev tunnel_store_uint16.L1 (n : Nat) (Y0 : Option Addr) (yn0 : Nat) (yc0 : Nat) (y1 : Int) (y6 : Int) (y7 : Int) (w : World) (R : Ending → World → Prop) : Prop := ∀ d2 d3 d4 d5 d8 d9 d10 d11 d12 d13 d14 d15 d16 d17 d18 d19 d20 d21 : Value, tunnel_store_uint16.l1 n Y0 yn0 yc0 y1 y6 y7 d2 d3 d4 d5 d8 d9 d10 d11 d12 d13 d14 d15 d16 d17 d18 d19 d20 d21 w R
theorem tunnel_store_uint16.l1_eq (n : Nat) (Y0 : Option Addr) (yn0 : Nat) (yc0 : Nat) (y1 : Int) (y6 : Int) (y7 : Int) (d2 d3 d4 d5 d8 d9 d10 d11 d12 d13 d14 d15 d16 d17 d18 d19 d20 d21 : Value) (w : World) (R : Ending → World → Prop) : tunnel_store_uint16.l1 (n + 1) Y0 yn0 yc0 y1 y6 y7 d2 d3 d4 d5 d8 d9 d10 d11 d12 d13 d14 d15 d16 d17 d18 d19 d20 d21 w R =
((if decide (y7 < y6) = true then
(Let (IntKind.i64.wrap ((yn0 : Int) - 1)) fun x1 : Int =>
 Let (IntKind.i64.wrap (x1 - y7)) fun x2 : Int =>
 Let (IntKind.u8.wrap y1) fun x3 : Int =>
 ∃ a4 : Addr, Y0 = some a4 ∧ (0 ≤ x2 ∧ x2 < (yn0 : Int)) ∧
(MayC w (a4.add x2.toNat) ∧
(Let (w.setCell (a4.add x2.toNat) (.int .u8 x3)) fun w5 : World =>
 Let (Int.fdiv y1 256) fun x6 : Int =>
 Let (IntKind.i64.wrap (y7 + 1)) fun x7 : Int =>
 tunnel_store_uint16.l1 n Y0 yn0 yc0 x6 y6 x7 d2 d3 (.int .i64 y7) d5 (.bool (decide (y7 < y6))) (.int .i64 y7) (.slice Y0 yn0 yc0) (.slice Y0 yn0 yc0) (.int .i64 (yn0 : Int)) (.int .i64 x1) (.int .i64 y7) (.int .i64 x2) (.int .u16 y1) (.int .u8 x3) (.pointer (some (a4.add x2.toNat))) (.int .u16 y1) (.int .u16 x6) (.int .i64 x7) w5 R)))
else
(R (.returned (.tuple #[])) w))) := by kernel_rfl
def tunnel_store_uint16.s (I0 : Option Addr) (in0 : Nat) (ic0 : Nat) (i1 : Int) (w : World) (R : Ending → World → Prop) : Prop :=
(∃ n1 : Nat, tunnel_store_uint16.l1 n1 I0 in0 ic0 i1 (in0 : Int) 0 undef undef undef (.slice I0 in0 ic0) undef undef undef undef undef undef undef undef undef undef undef undef undef undef w R)
theorem tunnel_store_uint16.s_eq (I0 : Option Addr) (in0 : Nat) (ic0 : Nat) (i1 : Int) (w : World) (R : Ending → World → Prop) : seg Try.prog entE tunnel_store_uint16.ords tunnel_store_uint16.joins Try.f38 [] [] [] ([.slice I0 in0 ic0, .int .u16 i1] ++ List.replicate (Try.f38.ntmps - ([.slice I0 in0 ic0, .int .u16 i1] : List Value).length) undef) w R = tunnel_store_uint16.s I0 in0 ic0 i1 w R := by kernel_rfl
theorem tunnel_store_uint16.run {I0 : Option Addr} {in0 : Nat} {ic0 : Nat} {i1 : Int} {w : World} {R : Ending → World → Prop} (h : tunnel_store_uint16.s I0 in0 ic0 i1 w R) : Calls Try.prog 38 #[.slice I0 in0 ic0, .int .u16 i1] w R :=
  calls_seg ents mixed Try.func38 rfl (by rw [tunnel_store_uint16.s_eq]; exact h)
/-! ### tunnel_store_uint32: function 45 -/
def tunnel_store_uint32.ords : Nat → Od
  | _ => .nil
def tunnel_store_uint32.joins (p : List Nat) : Bool := false
def tunnel_store_uint32.l1 (n : Nat) (Y0 : Option Addr) (yn0 : Nat) (yc0 : Nat) (y1 : Int) (y6 : Int) (y7 : Int) (d2 d3 d4 d5 d8 d9 d10 d11 d12 d13 d14 d15 d16 d17 d18 d19 d20 d21 : Value) (w : World) (R : Ending → World → Prop) : Prop :=
  lseg Try.prog entE tunnel_store_uint32.ords tunnel_store_uint32.joins Try.f45 [1, 0] [0, 1] [] n [.slice Y0 yn0 yc0, .int .u32 y1, d2, d3, d4, d5, .int .i64 y6, .int .i64 y7, d8, d9, d10, d11, d12, d13, d14, d15, d16, d17, d18, d19, d20, d21] w R
abbrev tunnel_store_uint32.L1 (n : Nat) (Y0 : Option Addr) (yn0 : Nat) (yc0 : Nat) (y1 : Int) (y6 : Int) (y7 : Int) (w : World) (R : Ending → World → Prop) : Prop := ∀ d2 d3 d4 d5 d8 d9 d10 d11 d12 d13 d14 d15 d16 d17 d18 d19 d20 d21 : Value, tunnel_store_uint32.l1 n Y0 yn0 yc0 y1 y6 y7 d2 d3 d4 d5 d8 d9 d10 d11 d12 d13 d14 d15 d16 d17 d18 d19 d20 d21 w R
theorem tunnel_store_uint32.l1_eq (n : Nat) (Y0 : Option Addr) (yn0 : Nat) (yc0 : Nat) (y1 : Int) (y6 : Int) (y7 : Int) (d2 d3 d4 d5 d8 d9 d10 d11 d12 d13 d14 d15 d16 d17 d18 d19 d20 d21 : Value) (w : World) (R : Ending → World → Prop) : tunnel_store_uint32.l1 (n + 1) Y0 yn0 yc0 y1 y6 y7 d2 d3 d4 d5 d8 d9 d10 d11 d12 d13 d14 d15 d16 d17 d18 d19 d20 d21 w R =
((if decide (y7 < y6) = true then
(Let (IntKind.i64.wrap ((yn0 : Int) - 1)) fun x1 : Int =>
 Let (IntKind.i64.wrap (x1 - y7)) fun x2 : Int =>
 Let (IntKind.u8.wrap y1) fun x3 : Int =>
 ∃ a4 : Addr, Y0 = some a4 ∧ (0 ≤ x2 ∧ x2 < (yn0 : Int)) ∧
(MayC w (a4.add x2.toNat) ∧
(Let (w.setCell (a4.add x2.toNat) (.int .u8 x3)) fun w5 : World =>
 Let (Int.fdiv y1 256) fun x6 : Int =>
 Let (IntKind.i64.wrap (y7 + 1)) fun x7 : Int =>
 tunnel_store_uint32.l1 n Y0 yn0 yc0 x6 y6 x7 d2 d3 (.int .i64 y7) d5 (.bool (decide (y7 < y6))) (.int .i64 y7) (.slice Y0 yn0 yc0) (.slice Y0 yn0 yc0) (.int .i64 (yn0 : Int)) (.int .i64 x1) (.int .i64 y7) (.int .i64 x2) (.int .u32 y1) (.int .u8 x3) (.pointer (some (a4.add x2.toNat))) (.int .u32 y1) (.int .u32 x6) (.int .i64 x7) w5 R)))
else
(R (.returned (.tuple #[])) w))) := by kernel_rfl
def tunnel_store_uint32.s (I0 : Option Addr) (in0 : Nat) (ic0 : Nat) (i1 : Int) (w : World) (R : Ending → World → Prop) : Prop :=
(∃ n1 : Nat, tunnel_store_uint32.l1 n1 I0 in0 ic0 i1 (in0 : Int) 0 undef undef undef (.slice I0 in0 ic0) undef undef undef undef undef undef undef undef undef undef undef undef undef undef w R)
theorem tunnel_store_uint32.s_eq (I0 : Option Addr) (in0 : Nat) (ic0 : Nat) (i1 : Int) (w : World) (R : Ending → World → Prop) : seg Try.prog entE tunnel_store_uint32.ords tunnel_store_uint32.joins Try.f45 [] [] [] ([.slice I0 in0 ic0, .int .u32 i1] ++ List.replicate (Try.f45.ntmps - ([.slice I0 in0 ic0, .int .u32 i1] : List Value).length) undef) w R = tunnel_store_uint32.s I0 in0 ic0 i1 w R := by kernel_rfl
theorem tunnel_store_uint32.run {I0 : Option Addr} {in0 : Nat} {ic0 : Nat} {i1 : Int} {w : World} {R : Ending → World → Prop} (h : tunnel_store_uint32.s I0 in0 ic0 i1 w R) : Calls Try.prog 45 #[.slice I0 in0 ic0, .int .u32 i1] w R :=
  calls_seg ents mixed Try.func45 rfl (by rw [tunnel_store_uint32.s_eq]; exact h)
/-! ### tunnel_typeFault: function 57 -/
def tunnel_typeFault.ords : Nat → Od
  | _ => .nil
def tunnel_typeFault.joins (p : List Nat) : Bool := false
def tunnel_typeFault.s (i0 : Int) (w : World) (R : Ending → World → Prop) : Prop :=
((if decide (i0 < 1536) = true then
(R (.returned (.int .i64 70)) w)
else
((if (i0 == 33024) = true then
(R (.returned (.int .i64 71)) w)
else
((if (i0 == 34984) = true then
(R (.returned (.int .i64 71)) w)
else
(R (.returned (.int .i64 0)) w)))))))
theorem tunnel_typeFault.s_eq (i0 : Int) (w : World) (R : Ending → World → Prop) : seg Try.prog entE tunnel_typeFault.ords tunnel_typeFault.joins Try.f57 [] [] [] ([.int .u16 i0] ++ List.replicate (Try.f57.ntmps - ([.int .u16 i0] : List Value).length) undef) w R = tunnel_typeFault.s i0 w R := by kernel_rfl
theorem tunnel_typeFault.run {i0 : Int} {w : World} {R : Ending → World → Prop} (h : tunnel_typeFault.s i0 w R) : Calls Try.prog 57 #[.int .u16 i0] w R :=
  calls_seg ents mixed Try.func57 rfl (by rw [tunnel_typeFault.s_eq]; exact h)
/-! ### tunnel_clone: function 42 -/
def tunnel_clone.ords : Nat → Od
  | _ => .nil
def tunnel_clone.joins (p : List Nat) : Bool := false
def tunnel_clone.s (I0 : Option Addr) (in0 : Nat) (ic0 : Nat) (w : World) (R : Ending → World → Prop) : Prop :=
((0 ≤ (in0 : Int) ∧ (in0 : Int) ≤ (in0 : Int) ∧ (in0 : Int) ≤ 9223372036854775807 ∧ (1 : Int) * (in0 : Int) ≤ 281474976710656) ∧
(Let (w.heap.size) fun g1 : Nat =>
 Let (w.alloc (.cells (List.replicate in0 (.int .u8 0)).toArray 5)) fun w2 : World =>
 CopyE w2 (some ⟨g1, 0, none⟩) in0 I0 in0 (fun w3 : World =>
 R (.returned (.slice (some ⟨g1, 0, none⟩) in0 in0)) w3)))
theorem tunnel_clone.s_eq (I0 : Option Addr) (in0 : Nat) (ic0 : Nat) (w : World) (R : Ending → World → Prop) : seg Try.prog entE tunnel_clone.ords tunnel_clone.joins Try.f42 [] [] [] ([.slice I0 in0 ic0] ++ List.replicate (Try.f42.ntmps - ([.slice I0 in0 ic0] : List Value).length) undef) w R = tunnel_clone.s I0 in0 ic0 w R := by kernel_rfl
theorem tunnel_clone.run {I0 : Option Addr} {in0 : Nat} {ic0 : Nat} {w : World} {R : Ending → World → Prop} (h : tunnel_clone.s I0 in0 ic0 w R) : Calls Try.prog 42 #[.slice I0 in0 ic0] w R :=
  calls_seg ents mixed Try.func42 rfl (by rw [tunnel_clone.s_eq]; exact h)
/-! ### tunnel_ParseFrame: function 31 -/
def tunnel_ParseFrame.ords : Nat → Od
  | 9 => (.tk 0 (.tk 1 (.tk 2 (.tk 3 (.on 4 .nil)))))
  | 10 => (.tk 0 (.tk 1 (.tk 2 (.tk 3 (.on 4 .nil)))))
  | _ => .nil
def tunnel_ParseFrame.joins (p : List Nat) : Bool := false
def tunnel_ParseFrame.s (I0 : Option Addr) (in0 : Nat) (ic0 : Nat) (w : World) (R : Ending → World → Prop) : Prop :=
(Let (w.heap.size) fun g1 : Nat =>
 Let (w.alloc (.cells #[.int .u8 0, .int .u8 0, .int .u8 0, .int .u8 0, .int .u8 0, .int .u8 0, .int .u8 0, .int .u8 0, .int .u8 0, .int .u8 0, .int .u8 0, .int .u8 0, .int .u16 0, .slice none 0 0] 46)) fun w2 : World =>
(if decide ((in0 : Int) > 65499) = true then
(May w2 ⟨g1, 0, none⟩ 14 ∧
(Let (putCells w2 ⟨g1, 0, none⟩ [.int .u8 0, .int .u8 0, .int .u8 0, .int .u8 0, .int .u8 0, .int .u8 0, .int .u8 0, .int .u8 0, .int .u8 0, .int .u8 0, .int .u8 0, .int .u8 0, .int .u16 0, .slice none 0 0] 0) fun w3 : World =>
 ∃ x4 : Int, ∃ x5 : Int, ∃ x6 : Int, ∃ x7 : Int, ∃ x8 : Int, ∃ x9 : Int, ∃ x10 : Int, ∃ x11 : Int, ∃ x12 : Int, ∃ x13 : Int, ∃ x14 : Int, ∃ x15 : Int, ∃ x16 : Int, ∃ (A17 : Option Addr) (n17_ c17_ : Nat), (14 = 14 ∧ At w3 ⟨g1, 0, none⟩ [.int .u8 x4, .int .u8 x5, .int .u8 x6, .int .u8 x7, .int .u8 x8, .int .u8 x9, .int .u8 x10, .int .u8 x11, .int .u8 x12, .int .u8 x13, .int .u8 x14, .int .u8 x15, .int .u16 x16, .slice A17 n17_ c17_]) ∧
(R (.returned (.tuple #[.agg #[.int .u8 x4, .int .u8 x5, .int .u8 x6, .int .u8 x7, .int .u8 x8, .int .u8 x9, .int .u8 x10, .int .u8 x11, .int .u8 x12, .int .u8 x13, .int .u8 x14, .int .u8 x15, .int .u16 x16, .slice A17 n17_ c17_], .int .i64 2])) w3)))
else
((if decide ((in0 : Int) < 14) = true then
(May w2 ⟨g1, 0, none⟩ 14 ∧
(Let (putCells w2 ⟨g1, 0, none⟩ [.int .u8 0, .int .u8 0, .int .u8 0, .int .u8 0, .int .u8 0, .int .u8 0, .int .u8 0, .int .u8 0, .int .u8 0, .int .u8 0, .int .u8 0, .int .u8 0, .int .u16 0, .slice none 0 0] 0) fun w18 : World =>
 ∃ x19 : Int, ∃ x20 : Int, ∃ x21 : Int, ∃ x22 : Int, ∃ x23 : Int, ∃ x24 : Int, ∃ x25 : Int, ∃ x26 : Int, ∃ x27 : Int, ∃ x28 : Int, ∃ x29 : Int, ∃ x30 : Int, ∃ x31 : Int, ∃ (A32 : Option Addr) (n32_ c32_ : Nat), (14 = 14 ∧ At w18 ⟨g1, 0, none⟩ [.int .u8 x19, .int .u8 x20, .int .u8 x21, .int .u8 x22, .int .u8 x23, .int .u8 x24, .int .u8 x25, .int .u8 x26, .int .u8 x27, .int .u8 x28, .int .u8 x29, .int .u8 x30, .int .u16 x31, .slice A32 n32_ c32_]) ∧
(R (.returned (.tuple #[.agg #[.int .u8 x19, .int .u8 x20, .int .u8 x21, .int .u8 x22, .int .u8 x23, .int .u8 x24, .int .u8 x25, .int .u8 x26, .int .u8 x27, .int .u8 x28, .int .u8 x29, .int .u8 x30, .int .u16 x31, .slice A32 n32_ c32_], .int .i64 70])) w18)))
else
((0 ≤ (14 : Int) ∧ (14 : Int) ≤ (ic0 : Int)) ∧
(0 ≤ (12 : Int) ∧ (12 : Int) ≤ 14) ∧
(Calls Try.prog 41 #[.slice (cutA I0 12 ic0 1) 2 (ic0 - 12)] w2 (fun (e34 : Ending) (w33 : World) =>
 ∃ x35 : Int, e34 = .returned (.int .u16 x35) ∧
(Let (w33.heap.size) fun g36 : Nat =>
 Let (w33.alloc (.cells #[.int .u8 0, .int .u8 0, .int .u8 0, .int .u8 0, .int .u8 0, .int .u8 0, .int .u8 0, .int .u8 0, .int .u8 0, .int .u8 0, .int .u8 0, .int .u8 0, .int .u16 0, .slice none 0 0] 46)) fun w37 : World =>
 May w37 ⟨g36, 0, none⟩ 14 ∧
(Let (putCells w37 ⟨g36, 0, none⟩ [.int .u8 0, .int .u8 0, .int .u8 0, .int .u8 0, .int .u8 0, .int .u8 0, .int .u8 0, .int .u8 0, .int .u8 0, .int .u8 0, .int .u8 0, .int .u8 0, .int .u16 x35, .slice none 0 0] 0) fun w38 : World =>
 ∃ x39 : Int, w38.cell? ⟨g36, 12, none⟩ = some (.int .u16 x39) ∧
(Calls Try.prog 57 #[.int .u16 x39] w38 (fun (e41 : Ending) (w40 : World) =>
 ∃ x42 : Int, e41 = .returned (.int .i64 x42) ∧
((if (x42 != 0) = true then
(May w40 ⟨g1, 0, none⟩ 14 ∧
(Let (putCells w40 ⟨g1, 0, none⟩ [.int .u8 0, .int .u8 0, .int .u8 0, .int .u8 0, .int .u8 0, .int .u8 0, .int .u8 0, .int .u8 0, .int .u8 0, .int .u8 0, .int .u8 0, .int .u8 0, .int .u16 0, .slice none 0 0] 0) fun w43 : World =>
 ∃ x44 : Int, ∃ x45 : Int, ∃ x46 : Int, ∃ x47 : Int, ∃ x48 : Int, ∃ x49 : Int, ∃ x50 : Int, ∃ x51 : Int, ∃ x52 : Int, ∃ x53 : Int, ∃ x54 : Int, ∃ x55 : Int, ∃ x56 : Int, ∃ (A57 : Option Addr) (n57_ c57_ : Nat), (14 = 14 ∧ At w43 ⟨g1, 0, none⟩ [.int .u8 x44, .int .u8 x45, .int .u8 x46, .int .u8 x47, .int .u8 x48, .int .u8 x49, .int .u8 x50, .int .u8 x51, .int .u8 x52, .int .u8 x53, .int .u8 x54, .int .u8 x55, .int .u16 x56, .slice A57 n57_ c57_]) ∧
(R (.returned (.tuple #[.agg #[.int .u8 x44, .int .u8 x45, .int .u8 x46, .int .u8 x47, .int .u8 x48, .int .u8 x49, .int .u8 x50, .int .u8 x51, .int .u8 x52, .int .u8 x53, .int .u8 x54, .int .u8 x55, .int .u16 x56, .slice A57 n57_ c57_], .int .i64 x42])) w43)))
else
(∃ S58 : World → Prop, S58 w40.drew ∧
(Let (w40.drew) fun w59 : World =>
((0 ≤ (6 : Int) ∧ (6 : Int) ≤ (ic0 : Int)) ∧
(CopyE w59 (some ⟨g36, 0, none⟩) 6 I0 6 (fun w60 : World =>
 S58 w60 ∧
(∃ S61 : World → Prop, S61 w60.drew ∧
(Let (w60.drew) fun w62 : World =>
((0 ≤ (12 : Int) ∧ (12 : Int) ≤ (ic0 : Int)) ∧
(0 ≤ (6 : Int) ∧ (6 : Int) ≤ 12) ∧
(CopyE w62 (some ⟨g36, 6, none⟩) 6 (cutA I0 6 ic0 1) 6 (fun w63 : World =>
 S61 w63 ∧
((0 ≤ (14 : Int) ∧ (14 : Int) ≤ (in0 : Int)) ∧
(Calls Try.prog 42 #[.slice (cutA I0 14 ic0 1) (in0 - 14) (ic0 - 14)] w63 (fun (e65 : Ending) (w64 : World) =>
 ∃ (A66 : Option Addr) (n66_ c66_ : Nat), e65 = .returned (.slice A66 n66_ c66_) ∧
(MayC w64 ⟨g36, 13, none⟩ ∧
(Let (w64.setCell ⟨g36, 13, none⟩ (.slice A66 n66_ c66_)) fun w67 : World =>
 ∃ x68 : Int, ∃ x69 : Int, ∃ x70 : Int, ∃ x71 : Int, ∃ x72 : Int, ∃ x73 : Int, ∃ x74 : Int, ∃ x75 : Int, ∃ x76 : Int, ∃ x77 : Int, ∃ x78 : Int, ∃ x79 : Int, ∃ x80 : Int, ∃ (A81 : Option Addr) (n81_ c81_ : Nat), (14 = 14 ∧ At w67 ⟨g36, 0, none⟩ [.int .u8 x68, .int .u8 x69, .int .u8 x70, .int .u8 x71, .int .u8 x72, .int .u8 x73, .int .u8 x74, .int .u8 x75, .int .u8 x76, .int .u8 x77, .int .u8 x78, .int .u8 x79, .int .u16 x80, .slice A81 n81_ c81_]) ∧
(May w67 ⟨g1, 0, none⟩ 14 ∧
(Let (putCells w67 ⟨g1, 0, none⟩ [.int .u8 x68, .int .u8 x69, .int .u8 x70, .int .u8 x71, .int .u8 x72, .int .u8 x73, .int .u8 x74, .int .u8 x75, .int .u8 x76, .int .u8 x77, .int .u8 x78, .int .u8 x79, .int .u16 x80, .slice A81 n81_ c81_] 0) fun w82 : World =>
 ∃ x83 : Int, ∃ x84 : Int, ∃ x85 : Int, ∃ x86 : Int, ∃ x87 : Int, ∃ x88 : Int, ∃ x89 : Int, ∃ x90 : Int, ∃ x91 : Int, ∃ x92 : Int, ∃ x93 : Int, ∃ x94 : Int, ∃ x95 : Int, ∃ (A96 : Option Addr) (n96_ c96_ : Nat), (14 = 14 ∧ At w82 ⟨g1, 0, none⟩ [.int .u8 x83, .int .u8 x84, .int .u8 x85, .int .u8 x86, .int .u8 x87, .int .u8 x88, .int .u8 x89, .int .u8 x90, .int .u8 x91, .int .u8 x92, .int .u8 x93, .int .u8 x94, .int .u16 x95, .slice A96 n96_ c96_]) ∧
(R (.returned (.tuple #[.agg #[.int .u8 x83, .int .u8 x84, .int .u8 x85, .int .u8 x86, .int .u8 x87, .int .u8 x88, .int .u8 x89, .int .u8 x90, .int .u8 x91, .int .u8 x92, .int .u8 x93, .int .u8 x94, .int .u16 x95, .slice A96 n96_ c96_], .int .i64 0])) w82)))))))))))))))))))))))))))))))
theorem tunnel_ParseFrame.s_eq (I0 : Option Addr) (in0 : Nat) (ic0 : Nat) (w : World) (R : Ending → World → Prop) : seg Try.prog entE tunnel_ParseFrame.ords tunnel_ParseFrame.joins Try.f31 [] [] [] ([.slice I0 in0 ic0] ++ List.replicate (Try.f31.ntmps - ([.slice I0 in0 ic0] : List Value).length) undef) w R = tunnel_ParseFrame.s I0 in0 ic0 w R := by kernel_rfl
theorem tunnel_ParseFrame.run {I0 : Option Addr} {in0 : Nat} {ic0 : Nat} {w : World} {R : Ending → World → Prop} (h : tunnel_ParseFrame.s I0 in0 ic0 w R) : Calls Try.prog 31 #[.slice I0 in0 ic0] w R :=
  calls_seg ents mixed Try.func31 rfl (by rw [tunnel_ParseFrame.s_eq]; exact h)
/-! ### tunnel_BuildFrame: function 30 -/
def tunnel_BuildFrame.ords : Nat → Od
  | 8 => (.tk 0 (.tk 1 (.tk 2 (.tk 3 (.on 4 .nil)))))
  | 9 => (.tk 0 (.tk 1 (.tk 2 (.tk 3 (.on 4 .nil)))))
  | 10 => (.tk 0 (.tk 1 (.tk 2 (.tk 3 (.on 4 .nil)))))
  | _ => .nil
def tunnel_BuildFrame.joins (p : List Nat) : Bool := false
def tunnel_BuildFrame.s (i0_0 : Int) (i0_1 : Int) (i0_2 : Int) (i0_3 : Int) (i0_4 : Int) (i0_5 : Int) (i0_6 : Int) (i0_7 : Int) (i0_8 : Int) (i0_9 : Int) (i0_10 : Int) (i0_11 : Int) (i0_12 : Int) (I0_13 : Option Addr) (in0_13 : Nat) (ic0_13 : Nat) (w : World) (R : Ending → World → Prop) : Prop :=
(Let (w.heap.size) fun g1 : Nat =>
 Let (w.alloc (.cells #[.int .u8 i0_0, .int .u8 i0_1, .int .u8 i0_2, .int .u8 i0_3, .int .u8 i0_4, .int .u8 i0_5, .int .u8 i0_6, .int .u8 i0_7, .int .u8 i0_8, .int .u8 i0_9, .int .u8 i0_10, .int .u8 i0_11, .int .u16 i0_12, .slice I0_13 in0_13 ic0_13] 46)) fun w2 : World =>
 ∃ (A3 : Option Addr) (n3_ c3_ : Nat), w2.cell? ⟨g1, 13, none⟩ = some (.slice A3 n3_ c3_) ∧
((if decide ((n3_ : Int) > 65485) = true then
(R (.returned (.tuple #[.slice none 0 0, .int .i64 2])) w2)
else
(∃ x4 : Int, w2.cell? ⟨g1, 12, none⟩ = some (.int .u16 x4) ∧
(Calls Try.prog 57 #[.int .u16 x4] w2 (fun (e6 : Ending) (w5 : World) =>
 ∃ x7 : Int, e6 = .returned (.int .i64 x7) ∧
((if (x7 != 0) = true then
(R (.returned (.tuple #[.slice none 0 0, .int .i64 x7])) w5)
else
(∃ (A8 : Option Addr) (n8_ c8_ : Nat), w5.cell? ⟨g1, 13, none⟩ = some (.slice A8 n8_ c8_) ∧
(Let (IntKind.i64.wrap (14 + (n8_ : Int))) fun x9 : Int =>
(0 ≤ x9 ∧ x9 ≤ x9 ∧ x9 ≤ 9223372036854775807 ∧ (1 : Int) * x9 ≤ 281474976710656) ∧
(Let (w5.heap.size) fun g10 : Nat =>
 Let (w5.alloc (.cells (List.replicate x9.toNat (.int .u8 0)).toArray 5)) fun w11 : World =>
(CopyE w11 (some ⟨g10, 0, none⟩) x9.toNat (some ⟨g1, 0, none⟩) 6 (fun w12 : World =>
 ∃ S13 : World → Prop, S13 w12.drew ∧
(Let (w12.drew) fun w14 : World =>
(0 ≤ (6 : Int) ∧ (6 : Int) ≤ (x9.toNat : Int)) ∧
((CopyE w14 (cutA (some ⟨g10, 0, none⟩) 6 x9.toNat 1) (x9.toNat - 6) (some ⟨g1, 6, none⟩) 6 (fun w15 : World =>
 S13 w15 ∧
(∃ S16 : World → Prop, S16 w15.drew ∧
(Let (w15.drew) fun w17 : World =>
(0 ≤ (14 : Int) ∧ (14 : Int) ≤ (x9.toNat : Int)) ∧
(0 ≤ (12 : Int) ∧ (12 : Int) ≤ 14) ∧
(∃ x18 : Int, (∀ w', S16 w' → w'.cell? ⟨g1, 12, none⟩ = some (.int .u16 x18)) ∧
(Calls Try.prog 38 #[.slice (cutA (some ⟨g10, 0, none⟩) 12 x9.toNat 1) 2 (x9.toNat - 12), .int .u16 x18] w17 (fun (e20 : Ending) (w19 : World) =>
 e20 = .returned (.tuple #[]) ∧
(S16 w19 ∧
(∃ S21 : World → Prop, S21 w19.drew ∧
(Let (w19.drew) fun w22 : World =>
(0 ≤ (14 : Int) ∧ (14 : Int) ≤ (x9.toNat : Int)) ∧
(∃ (A23 : Option Addr) (n23_ c23_ : Nat), (∀ w', S21 w' → w'.cell? ⟨g1, 13, none⟩ = some (.slice A23 n23_ c23_)) ∧
(CopyE w22 (cutA (some ⟨g10, 0, none⟩) 14 x9.toNat 1) (x9.toNat - 14) A23 n23_ (fun w24 : World =>
 S21 w24 ∧
(R (.returned (.tuple #[.slice (some ⟨g10, 0, none⟩) x9.toNat x9.toNat, .int .i64 0])) w24)))))))))))))))))))))))))))))
theorem tunnel_BuildFrame.s_eq (i0_0 : Int) (i0_1 : Int) (i0_2 : Int) (i0_3 : Int) (i0_4 : Int) (i0_5 : Int) (i0_6 : Int) (i0_7 : Int) (i0_8 : Int) (i0_9 : Int) (i0_10 : Int) (i0_11 : Int) (i0_12 : Int) (I0_13 : Option Addr) (in0_13 : Nat) (ic0_13 : Nat) (w : World) (R : Ending → World → Prop) : seg Try.prog entE tunnel_BuildFrame.ords tunnel_BuildFrame.joins Try.f30 [] [] [] ([.agg #[.int .u8 i0_0, .int .u8 i0_1, .int .u8 i0_2, .int .u8 i0_3, .int .u8 i0_4, .int .u8 i0_5, .int .u8 i0_6, .int .u8 i0_7, .int .u8 i0_8, .int .u8 i0_9, .int .u8 i0_10, .int .u8 i0_11, .int .u16 i0_12, .slice I0_13 in0_13 ic0_13]] ++ List.replicate (Try.f30.ntmps - ([.agg #[.int .u8 i0_0, .int .u8 i0_1, .int .u8 i0_2, .int .u8 i0_3, .int .u8 i0_4, .int .u8 i0_5, .int .u8 i0_6, .int .u8 i0_7, .int .u8 i0_8, .int .u8 i0_9, .int .u8 i0_10, .int .u8 i0_11, .int .u16 i0_12, .slice I0_13 in0_13 ic0_13]] : List Value).length) undef) w R = tunnel_BuildFrame.s i0_0 i0_1 i0_2 i0_3 i0_4 i0_5 i0_6 i0_7 i0_8 i0_9 i0_10 i0_11 i0_12 I0_13 in0_13 ic0_13 w R := by kernel_rfl
theorem tunnel_BuildFrame.run {i0_0 : Int} {i0_1 : Int} {i0_2 : Int} {i0_3 : Int} {i0_4 : Int} {i0_5 : Int} {i0_6 : Int} {i0_7 : Int} {i0_8 : Int} {i0_9 : Int} {i0_10 : Int} {i0_11 : Int} {i0_12 : Int} {I0_13 : Option Addr} {in0_13 : Nat} {ic0_13 : Nat} {w : World} {R : Ending → World → Prop} (h : tunnel_BuildFrame.s i0_0 i0_1 i0_2 i0_3 i0_4 i0_5 i0_6 i0_7 i0_8 i0_9 i0_10 i0_11 i0_12 I0_13 in0_13 ic0_13 w R) : Calls Try.prog 30 #[.agg #[.int .u8 i0_0, .int .u8 i0_1, .int .u8 i0_2, .int .u8 i0_3, .int .u8 i0_4, .int .u8 i0_5, .int .u8 i0_6, .int .u8 i0_7, .int .u8 i0_8, .int .u8 i0_9, .int .u8 i0_10, .int .u8 i0_11, .int .u16 i0_12, .slice I0_13 in0_13 ic0_13]] w R :=
  calls_seg ents mixed Try.func30 rfl (by rw [tunnel_BuildFrame.s_eq]; exact h)
/-! ### tunnel_pseudo: function 40 -/
def tunnel_pseudo.ords : Nat → Od
  | _ => .nil
def tunnel_pseudo.joins (p : List Nat) : Bool := false
def tunnel_pseudo.s (i0 : Int) (i1 : Int) (i2 : Int) (w : World) (R : Ending → World → Prop) : Prop :=
((0 ≤ (12 : Int) ∧ (12 : Int) ≤ (12 : Int) ∧ (12 : Int) ≤ 9223372036854775807 ∧ (1 : Int) * (12 : Int) ≤ 281474976710656) ∧
(Let (w.heap.size) fun g1 : Nat =>
 Let (w.alloc (.cells (List.replicate 12 (.int .u8 0)).toArray 5)) fun w2 : World =>
(0 ≤ (4 : Int) ∧ (4 : Int) ≤ 12) ∧
(0 ≤ (0 : Int) ∧ (0 : Int) ≤ 4) ∧
(Calls Try.prog 45 #[.slice (cutA (some ⟨g1, 0, none⟩) 0 12 1) 4 12, .int .u32 i0] w2 (fun (e4 : Ending) (w3 : World) =>
 e4 = .returned (.tuple #[]) ∧
((0 ≤ (8 : Int) ∧ (8 : Int) ≤ 12) ∧
(0 ≤ (4 : Int) ∧ (4 : Int) ≤ 8) ∧
(Calls Try.prog 45 #[.slice (cutA (some ⟨g1, 0, none⟩) 4 12 1) 4 8, .int .u32 i1] w3 (fun (e6 : Ending) (w5 : World) =>
 e6 = .returned (.tuple #[]) ∧
(∃ a7 : Addr, some ⟨g1, 0, none⟩ = some a7 ∧ (0 ≤ (9 : Int) ∧ (9 : Int) < 12) ∧
(MayC w5 (a7.add 9) ∧
(Let (w5.setCell (a7.add 9) (.int .u8 17)) fun w8 : World =>
(0 ≤ (12 : Int) ∧ (12 : Int) ≤ 12) ∧
(0 ≤ (10 : Int) ∧ (10 : Int) ≤ 12) ∧
(Let (IntKind.u16.wrap i2) fun x9 : Int =>
 Calls Try.prog 38 #[.slice (cutA (some ⟨g1, 0, none⟩) 10 12 1) 2 2, .int .u16 x9] w8 (fun (e11 : Ending) (w10 : World) =>
 e11 = .returned (.tuple #[]) ∧
(R (.returned (.slice (some ⟨g1, 0, none⟩) 12 12)) w10)))))))))))))
theorem tunnel_pseudo.s_eq (i0 : Int) (i1 : Int) (i2 : Int) (w : World) (R : Ending → World → Prop) : seg Try.prog entE tunnel_pseudo.ords tunnel_pseudo.joins Try.f40 [] [] [] ([.int .u32 i0, .int .u32 i1, .int .i64 i2] ++ List.replicate (Try.f40.ntmps - ([.int .u32 i0, .int .u32 i1, .int .i64 i2] : List Value).length) undef) w R = tunnel_pseudo.s i0 i1 i2 w R := by kernel_rfl
theorem tunnel_pseudo.run {i0 : Int} {i1 : Int} {i2 : Int} {w : World} {R : Ending → World → Prop} (h : tunnel_pseudo.s i0 i1 i2 w R) : Calls Try.prog 40 #[.int .u32 i0, .int .u32 i1, .int .i64 i2] w R :=
  calls_seg ents mixed Try.func40 rfl (by rw [tunnel_pseudo.s_eq]; exact h)
/-! ### tunnel_ParseUDP: function 16 -/
def tunnel_ParseUDP.ords : Nat → Od
  | 11 => (.tk 0 (.tk 1 (.tk 3 (.tk 4 (.tk 6 (.tk 7 (.on 2 (.on 5 (.on 8 (.tk 9 (.on 10 (.tk 11 .nil))))))))))))
  | _ => .nil
def tunnel_ParseUDP.joins (p : List Nat) : Bool := p == [1, 1, 1, 1, 1] || p == [1, 1, 1, 1, 1, 1, 1]
def tunnel_ParseUDP.j1 (y0 : Int) (y1 : Int) (Y2 : Option Addr) (yn2 : Nat) (yc2 : Nat) (yg6 : Nat) (y8 : Int) (d3 d4 d5 d7 d9 d10 d11 d12 d13 d14 d15 d16 d17 d18 d19 d20 d21 d22 d23 d24 d25 d26 d27 d28 d29 d30 d31 d32 d33 d34 d35 d36 d37 d38 d39 d40 d41 d42 d43 d44 d45 d46 d47 d48 d49 d50 d51 d52 d53 d54 d55 d56 d57 : Value) (w : World) (R : Ending → World → Prop) : Prop :=
  seg Try.prog entE tunnel_ParseUDP.ords tunnel_ParseUDP.joins Try.f16 [1, 1, 1, 1, 1] [1, 1, 1, 1, 1] [] [.int .u32 y0, .int .u32 y1, .slice Y2 yn2 yc2, d3, d4, d5, .pointer (some ⟨yg6, 0, none⟩), d7, .int .i64 y8, d9, d10, d11, d12, d13, d14, d15, d16, d17, d18, d19, d20, d21, d22, d23, d24, d25, d26, d27, d28, d29, d30, d31, d32, d33, d34, d35, d36, d37, d38, d39, d40, d41, d42, d43, d44, d45, d46, d47, d48, d49, d50, d51, d52, d53, d54, d55, d56, d57] w R
def tunnel_ParseUDP.j2 (Y2 : Option Addr) (yn2 : Nat) (yc2 : Nat) (yg6 : Nat) (d0 d1 d3 d4 d5 d7 d8 d9 d10 d11 d12 d13 d14 d15 d16 d17 d18 d19 d20 d21 d22 d23 d24 d25 d26 d27 d28 d29 d30 d31 d32 d33 d34 d35 d36 d37 d38 d39 d40 d41 d42 d43 d44 d45 d46 d47 d48 d49 d50 d51 d52 d53 d54 d55 d56 d57 : Value) (w : World) (R : Ending → World → Prop) : Prop :=
  seg Try.prog entE tunnel_ParseUDP.ords tunnel_ParseUDP.joins Try.f16 [1, 1, 1, 1, 1, 1, 1] [1, 1, 1, 1, 1, 1, 1] [] [d0, d1, .slice Y2 yn2 yc2, d3, d4, d5, .pointer (some ⟨yg6, 0, none⟩), d7, d8, d9, d10, d11, d12, d13, d14, d15, d16, d17, d18, d19, d20, d21, d22, d23, d24, d25, d26, d27, d28, d29, d30, d31, d32, d33, d34, d35, d36, d37, d38, d39, d40, d41, d42, d43, d44, d45, d46, d47, d48, d49, d50, d51, d52, d53, d54, d55, d56, d57] w R
abbrev tunnel_ParseUDP.J1 (y0 : Int) (y1 : Int) (Y2 : Option Addr) (yn2 : Nat) (yc2 : Nat) (yg6 : Nat) (y8 : Int) (w : World) (R : Ending → World → Prop) : Prop := ∀ d3 d4 d5 d7 d9 d10 d11 d12 d13 d14 d15 d16 d17 d18 d19 d20 d21 d22 d23 d24 d25 d26 d27 d28 d29 d30 d31 d32 d33 d34 d35 d36 d37 d38 d39 d40 d41 d42 d43 d44 d45 d46 d47 d48 d49 d50 d51 d52 d53 d54 d55 d56 d57 : Value, tunnel_ParseUDP.j1 y0 y1 Y2 yn2 yc2 yg6 y8 d3 d4 d5 d7 d9 d10 d11 d12 d13 d14 d15 d16 d17 d18 d19 d20 d21 d22 d23 d24 d25 d26 d27 d28 d29 d30 d31 d32 d33 d34 d35 d36 d37 d38 d39 d40 d41 d42 d43 d44 d45 d46 d47 d48 d49 d50 d51 d52 d53 d54 d55 d56 d57 w R
abbrev tunnel_ParseUDP.J2 (Y2 : Option Addr) (yn2 : Nat) (yc2 : Nat) (yg6 : Nat) (w : World) (R : Ending → World → Prop) : Prop := ∀ d0 d1 d3 d4 d5 d7 d8 d9 d10 d11 d12 d13 d14 d15 d16 d17 d18 d19 d20 d21 d22 d23 d24 d25 d26 d27 d28 d29 d30 d31 d32 d33 d34 d35 d36 d37 d38 d39 d40 d41 d42 d43 d44 d45 d46 d47 d48 d49 d50 d51 d52 d53 d54 d55 d56 d57 : Value, tunnel_ParseUDP.j2 Y2 yn2 yc2 yg6 d0 d1 d3 d4 d5 d7 d8 d9 d10 d11 d12 d13 d14 d15 d16 d17 d18 d19 d20 d21 d22 d23 d24 d25 d26 d27 d28 d29 d30 d31 d32 d33 d34 d35 d36 d37 d38 d39 d40 d41 d42 d43 d44 d45 d46 d47 d48 d49 d50 d51 d52 d53 d54 d55 d56 d57 w R
theorem tunnel_ParseUDP.j1_eq (y0 : Int) (y1 : Int) (Y2 : Option Addr) (yn2 : Nat) (yc2 : Nat) (yg6 : Nat) (y8 : Int) (d3 d4 d5 d7 d9 d10 d11 d12 d13 d14 d15 d16 d17 d18 d19 d20 d21 d22 d23 d24 d25 d26 d27 d28 d29 d30 d31 d32 d33 d34 d35 d36 d37 d38 d39 d40 d41 d42 d43 d44 d45 d46 d47 d48 d49 d50 d51 d52 d53 d54 d55 d56 d57 : Value) (w : World) (R : Ending → World → Prop) : tunnel_ParseUDP.j1 y0 y1 Y2 yn2 yc2 yg6 y8 d3 d4 d5 d7 d9 d10 d11 d12 d13 d14 d15 d16 d17 d18 d19 d20 d21 d22 d23 d24 d25 d26 d27 d28 d29 d30 d31 d32 d33 d34 d35 d36 d37 d38 d39 d40 d41 d42 d43 d44 d45 d46 d47 d48 d49 d50 d51 d52 d53 d54 d55 d56 d57 w R =
((0 ≤ y8 ∧ y8 ≤ (yc2 : Int)) ∧
((0 ≤ (8 : Int) ∧ (8 : Int) ≤ (yc2 : Int)) ∧
(0 ≤ (6 : Int) ∧ (6 : Int) ≤ 8) ∧
(Calls Try.prog 41 #[.slice (cutA Y2 6 yc2 1) 2 (yc2 - 6)] w (fun (e2 : Ending) (w1 : World) =>
 ∃ x3 : Int, e2 = .returned (.int .u16 x3) ∧
((if (x3 != 0) = true then
(Calls Try.prog 40 #[.int .u32 y0, .int .u32 y1, .int .i64 y8] w1 (fun (e5 : Ending) (w4 : World) =>
 ∃ (A6 : Option Addr) (n6_ c6_ : Nat), e5 = .returned (.slice A6 n6_ c6_) ∧
(Let (w4.heap.size) fun g7 : Nat =>
 Let (w4.alloc (.cells #[.slice A6 n6_ c6_, .slice Y2 y8.toNat yc2] 28)) fun w8 : World =>
 Calls Try.prog 39 #[.slice (some ⟨g7, 0, none⟩) 2 2] w8 (fun (e10 : Ending) (w9 : World) =>
 ∃ x11 : Int, e10 = .returned (.int .u16 x11) ∧
((if (x11 != 0) = true then
(May w9 ⟨yg6, 0, none⟩ 3 ∧
(Let (putCells w9 ⟨yg6, 0, none⟩ [.int .u16 0, .int .u16 0, .slice none 0 0] 0) fun w12 : World =>
 ∃ x13 : Int, ∃ x14 : Int, ∃ (A15 : Option Addr) (n15_ c15_ : Nat), (3 = 3 ∧ At w12 ⟨yg6, 0, none⟩ [.int .u16 x13, .int .u16 x14, .slice A15 n15_ c15_]) ∧
(R (.returned (.tuple #[.agg #[.int .u16 x13, .int .u16 x14, .slice A15 n15_ c15_], .int .i64 73])) w12)))
else
(Leaf (tunnel_ParseUDP.j2 Y2 y8.toNat yc2 yg6 (.int .u32 y0) (.int .u32 y1) d3 d4 d5 d7 (.int .i64 y8) d9 d10 d11 d12 d13 d14 d15 d16 d17 d18 d19 d20 d21 d22 d23 d24 d25 d26 d27 d28 d29 (.slice Y2 yn2 yc2) (.int .i64 y8) (.slice Y2 y8.toNat yc2) (.slice Y2 y8.toNat yc2) (.slice (cutA Y2 6 yc2 1) 2 (yc2 - 6)) (.int .u16 x3) (.bool (x3 != 0)) (.bool true) (.int .u32 y0) (.int .u32 y1) (.int .i64 y8) (.slice A6 n6_ c6_) (.slice Y2 y8.toNat yc2) (.slice (some ⟨g7, 0, none⟩) 2 2) (.int .u16 x11) (.bool (x11 != 0)) (.bool (x11 != 0)) d47 d48 d49 d50 d51 d52 d53 d54 d55 d56 d57 w9 R))))))))
else
(Leaf (tunnel_ParseUDP.j2 Y2 y8.toNat yc2 yg6 (.int .u32 y0) (.int .u32 y1) d3 d4 d5 d7 (.int .i64 y8) d9 d10 d11 d12 d13 d14 d15 d16 d17 d18 d19 d20 d21 d22 d23 d24 d25 d26 d27 d28 d29 (.slice Y2 yn2 yc2) (.int .i64 y8) (.slice Y2 y8.toNat yc2) (.slice Y2 y8.toNat yc2) (.slice (cutA Y2 6 yc2 1) 2 (yc2 - 6)) (.int .u16 x3) (.bool (x3 != 0)) (.bool false) undef undef undef undef undef undef undef undef (.bool false) d47 d48 d49 d50 d51 d52 d53 d54 d55 d56 d57 w1 R)))))))) := by kernel_rfl
theorem tunnel_ParseUDP.j2_eq (Y2 : Option Addr) (yn2 : Nat) (yc2 : Nat) (yg6 : Nat) (d0 d1 d3 d4 d5 d7 d8 d9 d10 d11 d12 d13 d14 d15 d16 d17 d18 d19 d20 d21 d22 d23 d24 d25 d26 d27 d28 d29 d30 d31 d32 d33 d34 d35 d36 d37 d38 d39 d40 d41 d42 d43 d44 d45 d46 d47 d48 d49 d50 d51 d52 d53 d54 d55 d56 d57 : Value) (w : World) (R : Ending → World → Prop) : tunnel_ParseUDP.j2 Y2 yn2 yc2 yg6 d0 d1 d3 d4 d5 d7 d8 d9 d10 d11 d12 d13 d14 d15 d16 d17 d18 d19 d20 d21 d22 d23 d24 d25 d26 d27 d28 d29 d30 d31 d32 d33 d34 d35 d36 d37 d38 d39 d40 d41 d42 d43 d44 d45 d46 d47 d48 d49 d50 d51 d52 d53 d54 d55 d56 d57 w R =
(∃ S1 : World → Prop, S1 w.drew ∧
(Let (w.drew) fun w2 : World =>
(0 ≤ (2 : Int) ∧ (2 : Int) ≤ (yc2 : Int)) ∧
(0 ≤ (0 : Int) ∧ (0 : Int) ≤ 2) ∧
((0 ≤ (4 : Int) ∧ (4 : Int) ≤ (yc2 : Int)) ∧
(0 ≤ (2 : Int) ∧ (2 : Int) ≤ 4) ∧
((0 ≤ (8 : Int) ∧ (8 : Int) ≤ (yn2 : Int)) ∧
(Calls Try.prog 41 #[.slice (cutA Y2 0 yc2 1) 2 (yc2 - 0)] w2 (fun (e4 : Ending) (w3 : World) =>
 ∃ x5 : Int, e4 = .returned (.int .u16 x5) ∧
(S1 w3 ∧
(Calls Try.prog 41 #[.slice (cutA Y2 2 yc2 1) 2 (yc2 - 2)] w3 (fun (e7 : Ending) (w6 : World) =>
 ∃ x8 : Int, e7 = .returned (.int .u16 x8) ∧
(S1 w6 ∧
(Calls Try.prog 42 #[.slice (cutA Y2 8 yc2 1) (yn2 - 8) (yc2 - 8)] w6 (fun (e10 : Ending) (w9 : World) =>
 ∃ (A11 : Option Addr) (n11_ c11_ : Nat), e10 = .returned (.slice A11 n11_ c11_) ∧
(S1 w9 ∧
(May w9 ⟨yg6, 0, none⟩ 3 ∧
(Let (putCells w9 ⟨yg6, 0, none⟩ [.int .u16 x5, .int .u16 x8, .slice A11 n11_ c11_] 0) fun w12 : World =>
 S1 w12 ∧
(∃ x13 : Int, ∃ x14 : Int, ∃ (A15 : Option Addr) (n15_ c15_ : Nat), (3 = 3 ∧ At w12 ⟨yg6, 0, none⟩ [.int .u16 x13, .int .u16 x14, .slice A15 n15_ c15_]) ∧
(R (.returned (.tuple #[.agg #[.int .u16 x13, .int .u16 x14, .slice A15 n15_ c15_], .int .i64 0])) w12))))))))))))))))) := by kernel_rfl
def tunnel_ParseUDP.s (i0 : Int) (i1 : Int) (I2 : Option Addr) (in2 : Nat) (ic2 : Nat) (w : World) (R : Ending → World → Prop) : Prop :=
(Let (w.heap.size) fun g1 : Nat =>
 Let (w.alloc (.cells #[.int .u16 0, .int .u16 0, .slice none 0 0] 30)) fun w2 : World =>
(if decide ((in2 : Int) > 65535) = true then
(May w2 ⟨g1, 0, none⟩ 3 ∧
(Let (putCells w2 ⟨g1, 0, none⟩ [.int .u16 0, .int .u16 0, .slice none 0 0] 0) fun w3 : World =>
 ∃ x4 : Int, ∃ x5 : Int, ∃ (A6 : Option Addr) (n6_ c6_ : Nat), (3 = 3 ∧ At w3 ⟨g1, 0, none⟩ [.int .u16 x4, .int .u16 x5, .slice A6 n6_ c6_]) ∧
(R (.returned (.tuple #[.agg #[.int .u16 x4, .int .u16 x5, .slice A6 n6_ c6_], .int .i64 2])) w3)))
else
((if decide ((in2 : Int) < 8) = true then
(May w2 ⟨g1, 0, none⟩ 3 ∧
(Let (putCells w2 ⟨g1, 0, none⟩ [.int .u16 0, .int .u16 0, .slice none 0 0] 0) fun w7 : World =>
 ∃ x8 : Int, ∃ x9 : Int, ∃ (A10 : Option Addr) (n10_ c10_ : Nat), (3 = 3 ∧ At w7 ⟨g1, 0, none⟩ [.int .u16 x8, .int .u16 x9, .slice A10 n10_ c10_]) ∧
(R (.returned (.tuple #[.agg #[.int .u16 x8, .int .u16 x9, .slice A10 n10_ c10_], .int .i64 72])) w7)))
else
((0 ≤ (6 : Int) ∧ (6 : Int) ≤ (ic2 : Int)) ∧
(0 ≤ (4 : Int) ∧ (4 : Int) ≤ 6) ∧
(Calls Try.prog 41 #[.slice (cutA I2 4 ic2 1) 2 (ic2 - 4)] w2 (fun (e12 : Ending) (w11 : World) =>
 ∃ x13 : Int, e12 = .returned (.int .u16 x13) ∧
(Let (IntKind.i64.wrap x13) fun x14 : Int =>
(if decide (x14 < 8) = true then
(May w11 ⟨g1, 0, none⟩ 3 ∧
(Let (putCells w11 ⟨g1, 0, none⟩ [.int .u16 0, .int .u16 0, .slice none 0 0] 0) fun w15 : World =>
 ∃ x16 : Int, ∃ x17 : Int, ∃ (A18 : Option Addr) (n18_ c18_ : Nat), (3 = 3 ∧ At w15 ⟨g1, 0, none⟩ [.int .u16 x16, .int .u16 x17, .slice A18 n18_ c18_]) ∧
(R (.returned (.tuple #[.agg #[.int .u16 x16, .int .u16 x17, .slice A18 n18_ c18_], .int .i64 72])) w15)))
else
((if decide (x14 > (in2 : Int)) = true then
(May w11 ⟨g1, 0, none⟩ 3 ∧
(Let (putCells w11 ⟨g1, 0, none⟩ [.int .u16 0, .int .u16 0, .slice none 0 0] 0) fun w19 : World =>
 ∃ x20 : Int, ∃ x21 : Int, ∃ (A22 : Option Addr) (n22_ c22_ : Nat), (3 = 3 ∧ At w19 ⟨g1, 0, none⟩ [.int .u16 x20, .int .u16 x21, .slice A22 n22_ c22_]) ∧
(R (.returned (.tuple #[.agg #[.int .u16 x20, .int .u16 x21, .slice A22 n22_ c22_], .int .i64 72])) w19)))
else
(Leaf (tunnel_ParseUDP.j1 i0 i1 I2 in2 ic2 g1 x14 undef undef undef (.int .i64 0) (.slice I2 in2 ic2) (.int .i64 (in2 : Int)) (.bool (decide ((in2 : Int) > 65535))) undef (.slice I2 in2 ic2) (.int .i64 (in2 : Int)) (.bool (decide ((in2 : Int) < 8))) undef (.slice I2 in2 ic2) (.slice (cutA I2 4 ic2 1) 2 (ic2 - 4)) (.int .u16 x13) (.int .i64 x14) (.int .i64 x14) (.bool (decide (x14 < 8))) (.bool false) (.int .i64 x14) (.slice I2 in2 ic2) (.int .i64 (in2 : Int)) (.bool (decide (x14 > (in2 : Int)))) (.bool (decide (x14 > (in2 : Int)))) undef undef undef undef undef undef undef undef undef undef undef undef undef undef undef undef undef undef undef undef undef undef undef undef undef undef undef undef undef w11 R)))))))))))))
theorem tunnel_ParseUDP.s_eq (i0 : Int) (i1 : Int) (I2 : Option Addr) (in2 : Nat) (ic2 : Nat) (w : World) (R : Ending → World → Prop) : seg Try.prog entE tunnel_ParseUDP.ords tunnel_ParseUDP.joins Try.f16 [] [] [] ([.int .u32 i0, .int .u32 i1, .slice I2 in2 ic2] ++ List.replicate (Try.f16.ntmps - ([.int .u32 i0, .int .u32 i1, .slice I2 in2 ic2] : List Value).length) undef) w R = tunnel_ParseUDP.s i0 i1 I2 in2 ic2 w R := by kernel_rfl
theorem tunnel_ParseUDP.run {i0 : Int} {i1 : Int} {I2 : Option Addr} {in2 : Nat} {ic2 : Nat} {w : World} {R : Ending → World → Prop} (h : tunnel_ParseUDP.s i0 i1 I2 in2 ic2 w R) : Calls Try.prog 16 #[.int .u32 i0, .int .u32 i1, .slice I2 in2 ic2] w R :=
  calls_seg ents mixed Try.func16 rfl (by rw [tunnel_ParseUDP.s_eq]; exact h)
/-! ### tunnel_BuildUDP: function 15 -/
def tunnel_BuildUDP.ords : Nat → Od
  | 4 => (.tk 0 (.tk 1 (.tk 2 (.tk 3 (.on 4 .nil)))))
  | 5 => (.tk 0 (.tk 1 (.tk 2 (.tk 3 (.on 4 .nil)))))
  | 7 => (.tk 0 (.tk 1 (.tk 2 (.tk 3 (.on 4 .nil)))))
  | _ => .nil
def tunnel_BuildUDP.joins (p : List Nat) : Bool := p == [1, 1, 0, 1, 0, 1, 1, 1, 1, 1, 1, 1]
def tunnel_BuildUDP.j1 (Y10 : Option Addr) (yn10 : Nat) (yc10 : Nat) (y11 : Int) (d0 d1 d2 d3 d4 d5 d6 d7 d8 d9 d12 d13 d14 d15 d16 d17 d18 d19 d20 d21 d22 d23 d24 d25 d26 d27 d28 d29 d30 d31 d32 d33 d34 d35 d36 d37 d38 d39 d40 d41 d42 d43 d44 d45 d46 d47 d48 d49 d50 d51 d52 d53 d54 d55 d56 d57 : Value) (w : World) (R : Ending → World → Prop) : Prop :=
  seg Try.prog entE tunnel_BuildUDP.ords tunnel_BuildUDP.joins Try.f15 [1, 1, 1, 1, 1, 1, 1, 0, 1, 0, 1, 1] [1, 1, 0, 1, 0, 1, 1, 1, 1, 1, 1, 1] [] [d0, d1, d2, d3, d4, d5, d6, d7, d8, d9, .slice Y10 yn10 yc10, .int .u16 y11, d12, d13, d14, d15, d16, d17, d18, d19, d20, d21, d22, d23, d24, d25, d26, d27, d28, d29, d30, d31, d32, d33, d34, d35, d36, d37, d38, d39, d40, d41, d42, d43, d44, d45, d46, d47, d48, d49, d50, d51, d52, d53, d54, d55, d56, d57] w R
abbrev tunnel_BuildUDP.J1 (Y10 : Option Addr) (yn10 : Nat) (yc10 : Nat) (y11 : Int) (w : World) (R : Ending → World → Prop) : Prop := ∀ d0 d1 d2 d3 d4 d5 d6 d7 d8 d9 d12 d13 d14 d15 d16 d17 d18 d19 d20 d21 d22 d23 d24 d25 d26 d27 d28 d29 d30 d31 d32 d33 d34 d35 d36 d37 d38 d39 d40 d41 d42 d43 d44 d45 d46 d47 d48 d49 d50 d51 d52 d53 d54 d55 d56 d57 : Value, tunnel_BuildUDP.j1 Y10 yn10 yc10 y11 d0 d1 d2 d3 d4 d5 d6 d7 d8 d9 d12 d13 d14 d15 d16 d17 d18 d19 d20 d21 d22 d23 d24 d25 d26 d27 d28 d29 d30 d31 d32 d33 d34 d35 d36 d37 d38 d39 d40 d41 d42 d43 d44 d45 d46 d47 d48 d49 d50 d51 d52 d53 d54 d55 d56 d57 w R
theorem tunnel_BuildUDP.j1_eq (Y10 : Option Addr) (yn10 : Nat) (yc10 : Nat) (y11 : Int) (d0 d1 d2 d3 d4 d5 d6 d7 d8 d9 d12 d13 d14 d15 d16 d17 d18 d19 d20 d21 d22 d23 d24 d25 d26 d27 d28 d29 d30 d31 d32 d33 d34 d35 d36 d37 d38 d39 d40 d41 d42 d43 d44 d45 d46 d47 d48 d49 d50 d51 d52 d53 d54 d55 d56 d57 : Value) (w : World) (R : Ending → World → Prop) : tunnel_BuildUDP.j1 Y10 yn10 yc10 y11 d0 d1 d2 d3 d4 d5 d6 d7 d8 d9 d12 d13 d14 d15 d16 d17 d18 d19 d20 d21 d22 d23 d24 d25 d26 d27 d28 d29 d30 d31 d32 d33 d34 d35 d36 d37 d38 d39 d40 d41 d42 d43 d44 d45 d46 d47 d48 d49 d50 d51 d52 d53 d54 d55 d56 d57 w R =
((0 ≤ (8 : Int) ∧ (8 : Int) ≤ (yc10 : Int)) ∧
(0 ≤ (6 : Int) ∧ (6 : Int) ≤ 8) ∧
(Calls Try.prog 38 #[.slice (cutA Y10 6 yc10 1) 2 (yc10 - 6), .int .u16 y11] w (fun (e2 : Ending) (w1 : World) =>
 e2 = .returned (.tuple #[]) ∧
(R (.returned (.tuple #[.slice Y10 yn10 yc10, .int .i64 0])) w1)))) := by kernel_rfl
def tunnel_BuildUDP.s (i0 : Int) (i1 : Int) (i2_0 : Int) (i2_1 : Int) (I2_2 : Option Addr) (in2_2 : Nat) (ic2_2 : Nat) (i3 : Bool) (w : World) (R : Ending → World → Prop) : Prop :=
(Let (w.heap.size) fun g1 : Nat =>
 Let (w.alloc (.cells #[.int .u16 i2_0, .int .u16 i2_1, .slice I2_2 in2_2 ic2_2] 30)) fun w2 : World =>
 ∃ (A3 : Option Addr) (n3_ c3_ : Nat), w2.cell? ⟨g1, 2, none⟩ = some (.slice A3 n3_ c3_) ∧
((if decide ((n3_ : Int) > 65527) = true then
(R (.returned (.tuple #[.slice none 0 0, .int .i64 2])) w2)
else
(∃ (A4 : Option Addr) (n4_ c4_ : Nat), w2.cell? ⟨g1, 2, none⟩ = some (.slice A4 n4_ c4_) ∧
(Let (IntKind.i64.wrap (8 + (n4_ : Int))) fun x5 : Int =>
(0 ≤ x5 ∧ x5 ≤ x5 ∧ x5 ≤ 9223372036854775807 ∧ (1 : Int) * x5 ≤ 281474976710656) ∧
(Let (w2.heap.size) fun g6 : Nat =>
 Let (w2.alloc (.cells (List.replicate x5.toNat (.int .u8 0)).toArray 5)) fun w7 : World =>
 ∃ S8 : World → Prop, S8 w7.drew ∧
(Let (w7.drew) fun w9 : World =>
(0 ≤ (2 : Int) ∧ (2 : Int) ≤ (x5.toNat : Int)) ∧
(0 ≤ (0 : Int) ∧ (0 : Int) ≤ 2) ∧
(∃ x10 : Int, (∀ w', S8 w' → w'.cell? ⟨g1, 0, none⟩ = some (.int .u16 x10)) ∧
(Calls Try.prog 38 #[.slice (cutA (some ⟨g6, 0, none⟩) 0 x5.toNat 1) 2 (x5.toNat - 0), .int .u16 x10] w9 (fun (e12 : Ending) (w11 : World) =>
 e12 = .returned (.tuple #[]) ∧
(S8 w11 ∧
(∃ S13 : World → Prop, S13 w11.drew ∧
(Let (w11.drew) fun w14 : World =>
(0 ≤ (4 : Int) ∧ (4 : Int) ≤ (x5.toNat : Int)) ∧
(0 ≤ (2 : Int) ∧ (2 : Int) ≤ 4) ∧
(∃ x15 : Int, (∀ w', S13 w' → w'.cell? ⟨g1, 1, none⟩ = some (.int .u16 x15)) ∧
(Calls Try.prog 38 #[.slice (cutA (some ⟨g6, 0, none⟩) 2 x5.toNat 1) 2 (x5.toNat - 2), .int .u16 x15] w14 (fun (e17 : Ending) (w16 : World) =>
 e17 = .returned (.tuple #[]) ∧
(S13 w16 ∧
((0 ≤ (6 : Int) ∧ (6 : Int) ≤ (x5.toNat : Int)) ∧
(0 ≤ (4 : Int) ∧ (4 : Int) ≤ 6) ∧
(Let (IntKind.u16.wrap (x5.toNat : Int)) fun x18 : Int =>
 Calls Try.prog 38 #[.slice (cutA (some ⟨g6, 0, none⟩) 4 x5.toNat 1) 2 (x5.toNat - 4), .int .u16 x18] w16 (fun (e20 : Ending) (w19 : World) =>
 e20 = .returned (.tuple #[]) ∧
(∃ S21 : World → Prop, S21 w19.drew ∧
(Let (w19.drew) fun w22 : World =>
(0 ≤ (8 : Int) ∧ (8 : Int) ≤ (x5.toNat : Int)) ∧
(∃ (A23 : Option Addr) (n23_ c23_ : Nat), (∀ w', S21 w' → w'.cell? ⟨g1, 2, none⟩ = some (.slice A23 n23_ c23_)) ∧
(CopyE w22 (cutA (some ⟨g6, 0, none⟩) 8 x5.toNat 1) (x5.toNat - 8) A23 n23_ (fun w24 : World =>
 S21 w24 ∧
((if i3 = true then
(Calls Try.prog 40 #[.int .u32 i0, .int .u32 i1, .int .i64 (x5.toNat : Int)] w24 (fun (e26 : Ending) (w25 : World) =>
 ∃ (A27 : Option Addr) (n27_ c27_ : Nat), e26 = .returned (.slice A27 n27_ c27_) ∧
(Let (w25.heap.size) fun g28 : Nat =>
 Let (w25.alloc (.cells #[.slice A27 n27_ c27_, .slice (some ⟨g6, 0, none⟩) x5.toNat x5.toNat] 28)) fun w29 : World =>
 Calls Try.prog 39 #[.slice (some ⟨g28, 0, none⟩) 2 2] w29 (fun (e31 : Ending) (w30 : World) =>
 ∃ x32 : Int, e31 = .returned (.int .u16 x32) ∧
((if (x32 == 0) = true then
(Leaf (tunnel_BuildUDP.j1 (some ⟨g6, 0, none⟩) x5.toNat x5.toNat 65535 (.int .u32 i0) (.int .u32 i1) (.agg #[.int .u16 i2_0, .int .u16 i2_1, .slice I2_2 in2_2 ic2_2]) (.bool i3) undef undef (.pointer (some ⟨g1, 0, none⟩)) undef (.slice none 0 0) (.int .i64 0) (.pointer (some ⟨g1, 2, none⟩)) (.slice A3 n3_ c3_) (.int .i64 (n3_ : Int)) (.bool (decide ((n3_ : Int) > 65527))) (.pointer (some ⟨g1, 2, none⟩)) (.slice A4 n4_ c4_) (.int .i64 (n4_ : Int)) (.int .i64 x5) (.slice (some ⟨g6, 0, none⟩) x5.toNat x5.toNat) (.slice (some ⟨g6, 0, none⟩) x5.toNat x5.toNat) (.slice (cutA (some ⟨g6, 0, none⟩) 0 x5.toNat 1) 2 (x5.toNat - 0)) (.pointer (some ⟨g1, 0, none⟩)) (.int .u16 x10) (.tuple #[]) (.slice (some ⟨g6, 0, none⟩) x5.toNat x5.toNat) (.slice (cutA (some ⟨g6, 0, none⟩) 2 x5.toNat 1) 2 (x5.toNat - 2)) (.pointer (some ⟨g1, 1, none⟩)) (.int .u16 x15) (.tuple #[]) (.slice (some ⟨g6, 0, none⟩) x5.toNat x5.toNat) (.slice (cutA (some ⟨g6, 0, none⟩) 4 x5.toNat 1) 2 (x5.toNat - 4)) (.slice (some ⟨g6, 0, none⟩) x5.toNat x5.toNat) (.int .i64 (x5.toNat : Int)) (.int .u16 x18) (.tuple #[]) (.slice (some ⟨g6, 0, none⟩) x5.toNat x5.toNat) (.slice (cutA (some ⟨g6, 0, none⟩) 8 x5.toNat 1) (x5.toNat - 8) (x5.toNat - 8)) (.pointer (some ⟨g1, 2, none⟩)) (.slice A23 n23_ c23_) (.int .i64 ((min n23_ (x5.toNat - 8) : Nat) : Int)) (.bool i3) (.int .u32 i0) (.int .u32 i1) (.slice (some ⟨g6, 0, none⟩) x5.toNat x5.toNat) (.int .i64 (x5.toNat : Int)) (.slice A27 n27_ c27_) (.slice (some ⟨g6, 0, none⟩) x5.toNat x5.toNat) (.slice (some ⟨g28, 0, none⟩) 2 2) (.int .u16 x32) (.int .u16 x32) (.bool (x32 == 0)) undef undef undef undef undef w30 R))
else
(Leaf (tunnel_BuildUDP.j1 (some ⟨g6, 0, none⟩) x5.toNat x5.toNat x32 (.int .u32 i0) (.int .u32 i1) (.agg #[.int .u16 i2_0, .int .u16 i2_1, .slice I2_2 in2_2 ic2_2]) (.bool i3) undef undef (.pointer (some ⟨g1, 0, none⟩)) undef (.slice none 0 0) (.int .i64 0) (.pointer (some ⟨g1, 2, none⟩)) (.slice A3 n3_ c3_) (.int .i64 (n3_ : Int)) (.bool (decide ((n3_ : Int) > 65527))) (.pointer (some ⟨g1, 2, none⟩)) (.slice A4 n4_ c4_) (.int .i64 (n4_ : Int)) (.int .i64 x5) (.slice (some ⟨g6, 0, none⟩) x5.toNat x5.toNat) (.slice (some ⟨g6, 0, none⟩) x5.toNat x5.toNat) (.slice (cutA (some ⟨g6, 0, none⟩) 0 x5.toNat 1) 2 (x5.toNat - 0)) (.pointer (some ⟨g1, 0, none⟩)) (.int .u16 x10) (.tuple #[]) (.slice (some ⟨g6, 0, none⟩) x5.toNat x5.toNat) (.slice (cutA (some ⟨g6, 0, none⟩) 2 x5.toNat 1) 2 (x5.toNat - 2)) (.pointer (some ⟨g1, 1, none⟩)) (.int .u16 x15) (.tuple #[]) (.slice (some ⟨g6, 0, none⟩) x5.toNat x5.toNat) (.slice (cutA (some ⟨g6, 0, none⟩) 4 x5.toNat 1) 2 (x5.toNat - 4)) (.slice (some ⟨g6, 0, none⟩) x5.toNat x5.toNat) (.int .i64 (x5.toNat : Int)) (.int .u16 x18) (.tuple #[]) (.slice (some ⟨g6, 0, none⟩) x5.toNat x5.toNat) (.slice (cutA (some ⟨g6, 0, none⟩) 8 x5.toNat 1) (x5.toNat - 8) (x5.toNat - 8)) (.pointer (some ⟨g1, 2, none⟩)) (.slice A23 n23_ c23_) (.int .i64 ((min n23_ (x5.toNat - 8) : Nat) : Int)) (.bool i3) (.int .u32 i0) (.int .u32 i1) (.slice (some ⟨g6, 0, none⟩) x5.toNat x5.toNat) (.int .i64 (x5.toNat : Int)) (.slice A27 n27_ c27_) (.slice (some ⟨g6, 0, none⟩) x5.toNat x5.toNat) (.slice (some ⟨g28, 0, none⟩) 2 2) (.int .u16 x32) (.int .u16 x32) (.bool (x32 == 0)) undef undef undef undef undef w30 R))))))))
else
(R (.returned (.tuple #[.slice (some ⟨g6, 0, none⟩) x5.toNat x5.toNat, .int .i64 0])) w24))))))))))))))))))))))))))))
theorem tunnel_BuildUDP.s_eq (i0 : Int) (i1 : Int) (i2_0 : Int) (i2_1 : Int) (I2_2 : Option Addr) (in2_2 : Nat) (ic2_2 : Nat) (i3 : Bool) (w : World) (R : Ending → World → Prop) : seg Try.prog entE tunnel_BuildUDP.ords tunnel_BuildUDP.joins Try.f15 [] [] [] ([.int .u32 i0, .int .u32 i1, .agg #[.int .u16 i2_0, .int .u16 i2_1, .slice I2_2 in2_2 ic2_2], .bool i3] ++ List.replicate (Try.f15.ntmps - ([.int .u32 i0, .int .u32 i1, .agg #[.int .u16 i2_0, .int .u16 i2_1, .slice I2_2 in2_2 ic2_2], .bool i3] : List Value).length) undef) w R = tunnel_BuildUDP.s i0 i1 i2_0 i2_1 I2_2 in2_2 ic2_2 i3 w R := by kernel_rfl
theorem tunnel_BuildUDP.run {i0 : Int} {i1 : Int} {i2_0 : Int} {i2_1 : Int} {I2_2 : Option Addr} {in2_2 : Nat} {ic2_2 : Nat} {i3 : Bool} {w : World} {R : Ending → World → Prop} (h : tunnel_BuildUDP.s i0 i1 i2_0 i2_1 I2_2 in2_2 ic2_2 i3 w R) : Calls Try.prog 15 #[.int .u32 i0, .int .u32 i1, .agg #[.int .u16 i2_0, .int .u16 i2_1, .slice I2_2 in2_2 ic2_2], .bool i3] w R :=
  calls_seg ents mixed Try.func15 rfl (by rw [tunnel_BuildUDP.s_eq]; exact h)
/-! ### tunnel_key: function 50 -/
def tunnel_key.ords : Nat → Od
  | 5 => (.tk 0 (.tk 1 (.tk 2 (.tk 3 (.tk 4 (.on 5 .nil))))))
  | 6 => (.tk 0 (.tk 1 (.tk 2 (.tk 3 (.tk 4 (.on 5 .nil))))))
  | 9 => (.tk 0 (.tk 1 (.tk 3 (.tk 4 (.on 2 (.on 5 (.tk 6 .nil)))))))
  | _ => .nil
def tunnel_key.joins (p : List Nat) : Bool := p == [1, 1]
def tunnel_key.j1 (yg1 : Nat) (d0 d2 d3 d4 d5 d6 d7 d8 d9 d10 d11 d12 d13 d14 d15 d16 d17 d18 d19 d20 d21 d22 d23 d24 d25 d26 d27 d28 d29 d30 d31 d32 d33 d34 d35 d36 d37 d38 d39 d40 d41 : Value) (w : World) (R : Ending → World → Prop) : Prop :=
  seg Try.prog entE tunnel_key.ords tunnel_key.joins Try.f50 [1, 1] [1, 1] [] [d0, .pointer (some ⟨yg1, 0, none⟩), d2, d3, d4, d5, d6, d7, d8, d9, d10, d11, d12, d13, d14, d15, d16, d17, d18, d19, d20, d21, d22, d23, d24, d25, d26, d27, d28, d29, d30, d31, d32, d33, d34, d35, d36, d37, d38, d39, d40, d41] w R
abbrev tunnel_key.J1 (yg1 : Nat) (w : World) (R : Ending → World → Prop) : Prop := ∀ d0 d2 d3 d4 d5 d6 d7 d8 d9 d10 d11 d12 d13 d14 d15 d16 d17 d18 d19 d20 d21 d22 d23 d24 d25 d26 d27 d28 d29 d30 d31 d32 d33 d34 d35 d36 d37 d38 d39 d40 d41 : Value, tunnel_key.j1 yg1 d0 d2 d3 d4 d5 d6 d7 d8 d9 d10 d11 d12 d13 d14 d15 d16 d17 d18 d19 d20 d21 d22 d23 d24 d25 d26 d27 d28 d29 d30 d31 d32 d33 d34 d35 d36 d37 d38 d39 d40 d41 w R
theorem tunnel_key.j1_eq (yg1 : Nat) (d0 d2 d3 d4 d5 d6 d7 d8 d9 d10 d11 d12 d13 d14 d15 d16 d17 d18 d19 d20 d21 d22 d23 d24 d25 d26 d27 d28 d29 d30 d31 d32 d33 d34 d35 d36 d37 d38 d39 d40 d41 : Value) (w : World) (R : Ending → World → Prop) : tunnel_key.j1 yg1 d0 d2 d3 d4 d5 d6 d7 d8 d9 d10 d11 d12 d13 d14 d15 d16 d17 d18 d19 d20 d21 d22 d23 d24 d25 d26 d27 d28 d29 d30 d31 d32 d33 d34 d35 d36 d37 d38 d39 d40 d41 w R =
(∃ S1 : World → Prop, S1 w.drew ∧
(Let (w.drew) fun w2 : World =>
((Calls Try.prog 42 #[.slice (some ⟨yg1, 6, none⟩) 6 6] w2 (fun (e4 : Ending) (w3 : World) =>
 ∃ (A5 : Option Addr) (n5_ c5_ : Nat), e4 = .returned (.slice A5 n5_ c5_) ∧
(S1 w3 ∧
(AppE w3 1 1 5 [.int .u8 0] A5 n5_ c5_ (some ⟨yg1, 0, none⟩) 6 (fun (A6 : Option Addr) (c7 : Nat) (w8 : World) =>
 S1 w8 ∧
(R (.returned (.slice A6 (n5_ + 6) c7)) w8))))))))) := by kernel_rfl
def tunnel_key.s (i0_0 : Int) (i0_1 : Int) (i0_2 : Int) (i0_3 : Int) (i0_4 : Int) (i0_5 : Int) (i0_6 : Int) (i0_7 : Int) (i0_8 : Int) (i0_9 : Int) (i0_10 : Int) (i0_11 : Int) (i0_12 : Int) (I0_13 : Option Addr) (in0_13 : Nat) (ic0_13 : Nat) (w : World) (R : Ending → World → Prop) : Prop :=
(Let (w.heap.size) fun g1 : Nat =>
 Let (w.alloc (.cells #[.int .u8 i0_0, .int .u8 i0_1, .int .u8 i0_2, .int .u8 i0_3, .int .u8 i0_4, .int .u8 i0_5, .int .u8 i0_6, .int .u8 i0_7, .int .u8 i0_8, .int .u8 i0_9, .int .u8 i0_10, .int .u8 i0_11, .int .u16 i0_12, .slice I0_13 in0_13 ic0_13] 46)) fun w2 : World =>
 ∃ x3 : Int, w2.cell? ⟨g1, 12, none⟩ = some (.int .u16 x3) ∧
((if (x3 == 2048) = true then
(∃ (A4 : Option Addr) (n4_ c4_ : Nat), w2.cell? ⟨g1, 13, none⟩ = some (.slice A4 n4_ c4_) ∧
(Calls Try.prog 52 #[.slice A4 n4_ c4_] w2 (fun (e6 : Ending) (w5 : World) =>
 ∃ x7 : Int, ∃ x8 : Int, ∃ b9 : Bool, ∃ b10 : Bool, ∃ x11 : Int, ∃ x12 : Int, ∃ x13 : Int, ∃ x14 : Int, ∃ x15 : Int, ∃ (A16 : Option Addr) (n16_ c16_ : Nat), ∃ (A17 : Option Addr) (n17_ c17_ : Nat), ∃ x18 : Int, e6 = .returned (.tuple #[.agg #[.int .u8 x7, .int .u16 x8, .bool b9, .bool b10, .int .i64 x11, .int .u8 x12, .int .u8 x13, .int .u32 x14, .int .u32 x15, .slice A16 n16_ c16_, .slice A17 n17_ c17_], .int .i64 x18]) ∧
(Let (w5.heap.size) fun g19 : Nat =>
 Let (w5.alloc (.cells #[.int .u8 0, .int .u16 0, .bool false, .bool false, .int .i64 0, .int .u8 0, .int .u8 0, .int .u32 0, .int .u32 0, .slice none 0 0, .slice none 0 0] 88)) fun w20 : World =>
 May w20 ⟨g19, 0, none⟩ 11 ∧
(Let (putCells w20 ⟨g19, 0, none⟩ [.int .u8 x7, .int .u16 x8, .bool b9, .bool b10, .int .i64 x11, .int .u8 x12, .int .u8 x13, .int .u32 x14, .int .u32 x15, .slice A16 n16_ c16_, .slice A17 n17_ c17_] 0) fun w21 : World =>
(if (x18 == 0) = true then
((0 ≤ (9 : Int) ∧ (9 : Int) ≤ (9 : Int) ∧ (9 : Int) ≤ 9223372036854775807 ∧ (1 : Int) * (9 : Int) ≤ 281474976710656) ∧
(Let (w21.heap.size) fun g22 : Nat =>
 Let (w21.alloc (.cells (List.replicate 9 (.int .u8 0)).toArray 5)) fun w23 : World =>
 ∃ S24 : World → Prop, S24 w23.drew ∧
(Let (w23.drew) fun w25 : World =>
(0 ≤ (4 : Int) ∧ (4 : Int) ≤ 9) ∧
(0 ≤ (0 : Int) ∧ (0 : Int) ≤ 4) ∧
(∃ x26 : Int, (∀ w', S24 w' → w'.cell? ⟨g19, 7, none⟩ = some (.int .u32 x26)) ∧
(Calls Try.prog 45 #[.slice (cutA (some ⟨g22, 0, none⟩) 0 9 1) 4 9, .int .u32 x26] w25 (fun (e28 : Ending) (w27 : World) =>
 e28 = .returned (.tuple #[]) ∧
(S24 w27 ∧
(∃ S29 : World → Prop, S29 w27.drew ∧
(Let (w27.drew) fun w30 : World =>
(0 ≤ (8 : Int) ∧ (8 : Int) ≤ 9) ∧
(0 ≤ (4 : Int) ∧ (4 : Int) ≤ 8) ∧
(∃ x31 : Int, (∀ w', S29 w' → w'.cell? ⟨g19, 8, none⟩ = some (.int .u32 x31)) ∧
(Calls Try.prog 45 #[.slice (cutA (some ⟨g22, 0, none⟩) 4 9 1) 4 5, .int .u32 x31] w30 (fun (e33 : Ending) (w32 : World) =>
 e33 = .returned (.tuple #[]) ∧
(S29 w32 ∧
(∃ x34 : Int, w32.cell? ⟨g19, 6, none⟩ = some (.int .u8 x34) ∧
(∃ a35 : Addr, some ⟨g22, 0, none⟩ = some a35 ∧ (0 ≤ (8 : Int) ∧ (8 : Int) < 9) ∧
(MayC w32 (a35.add 8) ∧
(Let (w32.setCell (a35.add 8) (.int .u8 x34)) fun w36 : World =>
 R (.returned (.slice (some ⟨g22, 0, none⟩) 9 9)) w36)))))))))))))))))
else
(Leaf (tunnel_key.j1 g1 (.agg #[.int .u8 i0_0, .int .u8 i0_1, .int .u8 i0_2, .int .u8 i0_3, .int .u8 i0_4, .int .u8 i0_5, .int .u8 i0_6, .int .u8 i0_7, .int .u8 i0_8, .int .u8 i0_9, .int .u8 i0_10, .int .u8 i0_11, .int .u16 i0_12, .slice I0_13 in0_13 ic0_13]) (.slice none 0 0) (.pointer (some ⟨g19, 0, none⟩)) (.int .i64 x18) undef (.pointer (some ⟨g1, 12, none⟩)) (.int .u16 x3) (.bool (x3 == 2048)) (.tuple #[.agg #[.int .u8 x7, .int .u16 x8, .bool b9, .bool b10, .int .i64 x11, .int .u8 x12, .int .u8 x13, .int .u32 x14, .int .u32 x15, .slice A16 n16_ c16_, .slice A17 n17_ c17_], .int .i64 x18]) (.pointer (some ⟨g1, 13, none⟩)) (.slice A4 n4_ c4_) (.tuple #[.agg #[.int .u8 x7, .int .u16 x8, .bool b9, .bool b10, .int .i64 x11, .int .u8 x12, .int .u8 x13, .int .u32 x14, .int .u32 x15, .slice A16 n16_ c16_, .slice A17 n17_ c17_], .int .i64 x18]) (.agg #[.int .u8 x7, .int .u16 x8, .bool b9, .bool b10, .int .i64 x11, .int .u8 x12, .int .u8 x13, .int .u32 x14, .int .u32 x15, .slice A16 n16_ c16_, .slice A17 n17_ c17_]) (.int .i64 x18) (.int .i64 x18) (.bool (x18 == 0)) undef undef undef undef undef undef undef undef undef undef undef undef undef undef undef undef undef undef undef undef undef undef undef undef undef w21 R))))))))
else
(Leaf (tunnel_key.j1 g1 (.agg #[.int .u8 i0_0, .int .u8 i0_1, .int .u8 i0_2, .int .u8 i0_3, .int .u8 i0_4, .int .u8 i0_5, .int .u8 i0_6, .int .u8 i0_7, .int .u8 i0_8, .int .u8 i0_9, .int .u8 i0_10, .int .u8 i0_11, .int .u16 i0_12, .slice I0_13 in0_13 ic0_13]) (.slice none 0 0) undef undef undef (.pointer (some ⟨g1, 12, none⟩)) (.int .u16 x3) (.bool (x3 == 2048)) undef undef undef undef undef undef undef undef undef undef undef undef undef undef undef undef undef undef undef undef undef undef undef undef undef undef undef undef undef undef undef undef undef w2 R)))))
theorem tunnel_key.s_eq (i0_0 : Int) (i0_1 : Int) (i0_2 : Int) (i0_3 : Int) (i0_4 : Int) (i0_5 : Int) (i0_6 : Int) (i0_7 : Int) (i0_8 : Int) (i0_9 : Int) (i0_10 : Int) (i0_11 : Int) (i0_12 : Int) (I0_13 : Option Addr) (in0_13 : Nat) (ic0_13 : Nat) (w : World) (R : Ending → World → Prop) : seg Try.prog entE tunnel_key.ords tunnel_key.joins Try.f50 [] [] [] ([.agg #[.int .u8 i0_0, .int .u8 i0_1, .int .u8 i0_2, .int .u8 i0_3, .int .u8 i0_4, .int .u8 i0_5, .int .u8 i0_6, .int .u8 i0_7, .int .u8 i0_8, .int .u8 i0_9, .int .u8 i0_10, .int .u8 i0_11, .int .u16 i0_12, .slice I0_13 in0_13 ic0_13]] ++ List.replicate (Try.f50.ntmps - ([.agg #[.int .u8 i0_0, .int .u8 i0_1, .int .u8 i0_2, .int .u8 i0_3, .int .u8 i0_4, .int .u8 i0_5, .int .u8 i0_6, .int .u8 i0_7, .int .u8 i0_8, .int .u8 i0_9, .int .u8 i0_10, .int .u8 i0_11, .int .u16 i0_12, .slice I0_13 in0_13 ic0_13]] : List Value).length) undef) w R = tunnel_key.s i0_0 i0_1 i0_2 i0_3 i0_4 i0_5 i0_6 i0_7 i0_8 i0_9 i0_10 i0_11 i0_12 I0_13 in0_13 ic0_13 w R := by kernel_rfl
theorem tunnel_key.run {i0_0 : Int} {i0_1 : Int} {i0_2 : Int} {i0_3 : Int} {i0_4 : Int} {i0_5 : Int} {i0_6 : Int} {i0_7 : Int} {i0_8 : Int} {i0_9 : Int} {i0_10 : Int} {i0_11 : Int} {i0_12 : Int} {I0_13 : Option Addr} {in0_13 : Nat} {ic0_13 : Nat} {w : World} {R : Ending → World → Prop} (h : tunnel_key.s i0_0 i0_1 i0_2 i0_3 i0_4 i0_5 i0_6 i0_7 i0_8 i0_9 i0_10 i0_11 i0_12 I0_13 in0_13 ic0_13 w R) : Calls Try.prog 50 #[.agg #[.int .u8 i0_0, .int .u8 i0_1, .int .u8 i0_2, .int .u8 i0_3, .int .u8 i0_4, .int .u8 i0_5, .int .u8 i0_6, .int .u8 i0_7, .int .u8 i0_8, .int .u8 i0_9, .int .u8 i0_10, .int .u8 i0_11, .int .u16 i0_12, .slice I0_13 in0_13 ic0_13]] w R :=
  calls_seg ents mixed Try.func50 rfl (by rw [tunnel_key.s_eq]; exact h)
/-! ### tunnel_Flow: function 23 -/
def tunnel_Flow.ords : Nat → Od
  | _ => .nil
def tunnel_Flow.joins (p : List Nat) : Bool := false
def tunnel_Flow.l1 (n : Nat) (y3 : Int) (Y7 : Option Addr) (yn7 : Nat) (yc7 : Nat) (y8 : Int) (y9 : Int) (d0 d1 d2 d4 d5 d6 d10 d11 d12 d13 d14 d15 d16 d17 d18 d19 d20 d21 d22 d23 d24 : Value) (w : World) (R : Ending → World → Prop) : Prop :=
  lseg Try.prog entE tunnel_Flow.ords tunnel_Flow.joins Try.f23 [1, 1, 0, 1, 0] [0, 1, 0, 1, 1] [] n [d0, d1, d2, .int .i64 y3, d4, d5, d6, .slice Y7 yn7 yc7, .int .i64 y8, .int .i64 y9, d10, d11, d12, d13, d14, d15, d16, d17, d18, d19, d20, d21, d22, d23, d24] w R
abbrev tunnel_Flow.L1 (n : Nat) (y3 : Int) (Y7 : Option Addr) (yn7 : Nat) (yc7 : Nat) (y8 : Int) (y9 : Int) (w : World) (R : Ending → World → Prop) : Prop := ∀ d0 d1 d2 d4 d5 d6 d10 d11 d12 d13 d14 d15 d16 d17 d18 d19 d20 d21 d22 d23 d24 : Value, tunnel_Flow.l1 n y3 Y7 yn7 yc7 y8 y9 d0 d1 d2 d4 d5 d6 d10 d11 d12 d13 d14 d15 d16 d17 d18 d19 d20 d21 d22 d23 d24 w R
theorem tunnel_Flow.l1_eq (n : Nat) (y3 : Int) (Y7 : Option Addr) (yn7 : Nat) (yc7 : Nat) (y8 : Int) (y9 : Int) (d0 d1 d2 d4 d5 d6 d10 d11 d12 d13 d14 d15 d16 d17 d18 d19 d20 d21 d22 d23 d24 : Value) (w : World) (R : Ending → World → Prop) : tunnel_Flow.l1 (n + 1) y3 Y7 yn7 yc7 y8 y9 d0 d1 d2 d4 d5 d6 d10 d11 d12 d13 d14 d15 d16 d17 d18 d19 d20 d21 d22 d23 d24 w R =
((if decide (y9 < y8) = true then
(∃ a1 : Addr, Y7 = some a1 ∧ (0 ≤ y9 ∧ y9 < (yn7 : Int)) ∧
(∃ x2 : Int, w.cell? (a1.add y9.toNat) = some (.int .u8 x2) ∧
(Let (IntKind.i64.wrap (y3 * 251)) fun x3 : Int =>
 Let (IntKind.i64.wrap x2) fun x4 : Int =>
 Let (IntKind.i64.wrap (x3 + x4)) fun x5 : Int =>
 Let (IntKind.i64.wrap (x5 + 1)) fun x6 : Int =>
 Let (Int.tmod x6 65521) fun x7 : Int =>
 Let (IntKind.i64.wrap (y9 + 1)) fun x8 : Int =>
 tunnel_Flow.l1 n x7 Y7 yn7 yc7 y8 x8 d0 d1 d2 d4 (.int .u8 x2) d6 (.bool (decide (y9 < y8))) (.pointer (some (a1.add y9.toNat))) (.int .u8 x2) (.int .i64 y3) (.int .i64 x3) (.int .u8 x2) (.int .i64 x4) (.int .i64 x5) (.int .i64 x6) (.int .i64 x7) (.int .i64 x8) d21 d22 d23 d24 w R)))
else
(Let (Int.tmod y3 16384) fun x9 : Int =>
 Let (IntKind.i64.wrap (49152 + x9)) fun x10 : Int =>
 Let (IntKind.u16.wrap x10) fun x11 : Int =>
 R (.returned (.int .u16 x11)) w))) := by kernel_rfl
def tunnel_Flow.s (i0_0 : Int) (i0_1 : Int) (i0_2 : Int) (i0_3 : Int) (i0_4 : Int) (i0_5 : Int) (i0_6 : Int) (i0_7 : Int) (i0_8 : Int) (i0_9 : Int) (i0_10 : Int) (i0_11 : Int) (i0_12 : Int) (I0_13 : Option Addr) (in0_13 : Nat) (ic0_13 : Nat) (w : World) (R : Ending → World → Prop) : Prop :=
(Let (w.heap.size) fun g1 : Nat =>
 Let (w.alloc (.cells #[.int .u8 i0_0, .int .u8 i0_1, .int .u8 i0_2, .int .u8 i0_3, .int .u8 i0_4, .int .u8 i0_5, .int .u8 i0_6, .int .u8 i0_7, .int .u8 i0_8, .int .u8 i0_9, .int .u8 i0_10, .int .u8 i0_11, .int .u16 i0_12, .slice I0_13 in0_13 ic0_13] 46)) fun w2 : World =>
 ∃ x3 : Int, ∃ x4 : Int, ∃ x5 : Int, ∃ x6 : Int, ∃ x7 : Int, ∃ x8 : Int, ∃ x9 : Int, ∃ x10 : Int, ∃ x11 : Int, ∃ x12 : Int, ∃ x13 : Int, ∃ x14 : Int, ∃ x15 : Int, ∃ (A16 : Option Addr) (n16_ c16_ : Nat), (14 = 14 ∧ At w2 ⟨g1, 0, none⟩ [.int .u8 x3, .int .u8 x4, .int .u8 x5, .int .u8 x6, .int .u8 x7, .int .u8 x8, .int .u8 x9, .int .u8 x10, .int .u8 x11, .int .u8 x12, .int .u8 x13, .int .u8 x14, .int .u16 x15, .slice A16 n16_ c16_]) ∧
(Calls Try.prog 50 #[.agg #[.int .u8 x3, .int .u8 x4, .int .u8 x5, .int .u8 x6, .int .u8 x7, .int .u8 x8, .int .u8 x9, .int .u8 x10, .int .u8 x11, .int .u8 x12, .int .u8 x13, .int .u8 x14, .int .u16 x15, .slice A16 n16_ c16_]] w2 (fun (e18 : Ending) (w17 : World) =>
 ∃ (A19 : Option Addr) (n19_ c19_ : Nat), e18 = .returned (.slice A19 n19_ c19_) ∧
(∃ n20 : Nat, tunnel_Flow.l1 n20 1 A19 n19_ c19_ (n19_ : Int) 0 (.agg #[.int .u8 i0_0, .int .u8 i0_1, .int .u8 i0_2, .int .u8 i0_3, .int .u8 i0_4, .int .u8 i0_5, .int .u8 i0_6, .int .u8 i0_7, .int .u8 i0_8, .int .u8 i0_9, .int .u8 i0_10, .int .u8 i0_11, .int .u16 i0_12, .slice I0_13 in0_13 ic0_13]) (.pointer (some ⟨g1, 0, none⟩)) (.int .u16 0) undef undef (.agg #[.int .u8 x3, .int .u8 x4, .int .u8 x5, .int .u8 x6, .int .u8 x7, .int .u8 x8, .int .u8 x9, .int .u8 x10, .int .u8 x11, .int .u8 x12, .int .u8 x13, .int .u8 x14, .int .u16 x15, .slice A16 n16_ c16_]) undef undef undef undef undef undef undef undef undef undef undef undef undef undef undef w17 R))))
theorem tunnel_Flow.s_eq (i0_0 : Int) (i0_1 : Int) (i0_2 : Int) (i0_3 : Int) (i0_4 : Int) (i0_5 : Int) (i0_6 : Int) (i0_7 : Int) (i0_8 : Int) (i0_9 : Int) (i0_10 : Int) (i0_11 : Int) (i0_12 : Int) (I0_13 : Option Addr) (in0_13 : Nat) (ic0_13 : Nat) (w : World) (R : Ending → World → Prop) : seg Try.prog entE tunnel_Flow.ords tunnel_Flow.joins Try.f23 [] [] [] ([.agg #[.int .u8 i0_0, .int .u8 i0_1, .int .u8 i0_2, .int .u8 i0_3, .int .u8 i0_4, .int .u8 i0_5, .int .u8 i0_6, .int .u8 i0_7, .int .u8 i0_8, .int .u8 i0_9, .int .u8 i0_10, .int .u8 i0_11, .int .u16 i0_12, .slice I0_13 in0_13 ic0_13]] ++ List.replicate (Try.f23.ntmps - ([.agg #[.int .u8 i0_0, .int .u8 i0_1, .int .u8 i0_2, .int .u8 i0_3, .int .u8 i0_4, .int .u8 i0_5, .int .u8 i0_6, .int .u8 i0_7, .int .u8 i0_8, .int .u8 i0_9, .int .u8 i0_10, .int .u8 i0_11, .int .u16 i0_12, .slice I0_13 in0_13 ic0_13]] : List Value).length) undef) w R = tunnel_Flow.s i0_0 i0_1 i0_2 i0_3 i0_4 i0_5 i0_6 i0_7 i0_8 i0_9 i0_10 i0_11 i0_12 I0_13 in0_13 ic0_13 w R := by kernel_rfl
theorem tunnel_Flow.run {i0_0 : Int} {i0_1 : Int} {i0_2 : Int} {i0_3 : Int} {i0_4 : Int} {i0_5 : Int} {i0_6 : Int} {i0_7 : Int} {i0_8 : Int} {i0_9 : Int} {i0_10 : Int} {i0_11 : Int} {i0_12 : Int} {I0_13 : Option Addr} {in0_13 : Nat} {ic0_13 : Nat} {w : World} {R : Ending → World → Prop} (h : tunnel_Flow.s i0_0 i0_1 i0_2 i0_3 i0_4 i0_5 i0_6 i0_7 i0_8 i0_9 i0_10 i0_11 i0_12 I0_13 in0_13 ic0_13 w R) : Calls Try.prog 23 #[.agg #[.int .u8 i0_0, .int .u8 i0_1, .int .u8 i0_2, .int .u8 i0_3, .int .u8 i0_4, .int .u8 i0_5, .int .u8 i0_6, .int .u8 i0_7, .int .u8 i0_8, .int .u8 i0_9, .int .u8 i0_10, .int .u8 i0_11, .int .u16 i0_12, .slice I0_13 in0_13 ic0_13]] w R :=
  calls_seg ents mixed Try.func23 rfl (by rw [tunnel_Flow.s_eq]; exact h)
/-! ### tunnel_Seal: function 20 -/
def tunnel_Seal.ords : Nat → Od
  | 8 => (.tk 0 (.tk 1 (.tk 2 (.tk 3 (.tk 4 (.tk 5 (.on 6 .nil)))))))
  | 9 => (.tk 0 (.tk 1 (.tk 2 (.tk 3 (.tk 4 (.tk 5 (.tk 6 (.tk 7 (.tk 8 (.tk 9 (.on 10 (.tk 11 (.on 12 (.tk 13 (.tk 14 (.tk 15 (.tk 16 (.tk 17 .nil))))))))))))))))))
  | _ => .nil
def tunnel_Seal.joins (p : List Nat) : Bool := p == [1, 1]
def tunnel_Seal.j1 (yg2 : Nat) (yg3 : Nat) (d0 d1 d4 d5 d6 d7 d8 d9 d10 d11 d12 d13 d14 d15 d16 d17 d18 d19 d20 d21 d22 d23 d24 d25 d26 d27 d28 d29 d30 d31 d32 d33 d34 d35 d36 d37 d38 d39 d40 d41 d42 d43 d44 d45 d46 d47 d48 d49 d50 d51 d52 d53 d54 d55 d56 d57 d58 d59 d60 d61 d62 d63 d64 d65 d66 d67 d68 d69 : Value) (w : World) (R : Ending → World → Prop) : Prop :=
  seg Try.prog entE tunnel_Seal.ords tunnel_Seal.joins Try.f20 [1, 1] [1, 1] [] [d0, d1, .pointer (some ⟨yg2, 0, none⟩), .pointer (some ⟨yg3, 0, none⟩), d4, d5, d6, d7, d8, d9, d10, d11, d12, d13, d14, d15, d16, d17, d18, d19, d20, d21, d22, d23, d24, d25, d26, d27, d28, d29, d30, d31, d32, d33, d34, d35, d36, d37, d38, d39, d40, d41, d42, d43, d44, d45, d46, d47, d48, d49, d50, d51, d52, d53, d54, d55, d56, d57, d58, d59, d60, d61, d62, d63, d64, d65, d66, d67, d68, d69] w R
abbrev tunnel_Seal.J1 (yg2 : Nat) (yg3 : Nat) (w : World) (R : Ending → World → Prop) : Prop := ∀ d0 d1 d4 d5 d6 d7 d8 d9 d10 d11 d12 d13 d14 d15 d16 d17 d18 d19 d20 d21 d22 d23 d24 d25 d26 d27 d28 d29 d30 d31 d32 d33 d34 d35 d36 d37 d38 d39 d40 d41 d42 d43 d44 d45 d46 d47 d48 d49 d50 d51 d52 d53 d54 d55 d56 d57 d58 d59 d60 d61 d62 d63 d64 d65 d66 d67 d68 d69 : Value, tunnel_Seal.j1 yg2 yg3 d0 d1 d4 d5 d6 d7 d8 d9 d10 d11 d12 d13 d14 d15 d16 d17 d18 d19 d20 d21 d22 d23 d24 d25 d26 d27 d28 d29 d30 d31 d32 d33 d34 d35 d36 d37 d38 d39 d40 d41 d42 d43 d44 d45 d46 d47 d48 d49 d50 d51 d52 d53 d54 d55 d56 d57 d58 d59 d60 d61 d62 d63 d64 d65 d66 d67 d68 d69 w R
theorem tunnel_Seal.j1_eq (yg2 : Nat) (yg3 : Nat) (d0 d1 d4 d5 d6 d7 d8 d9 d10 d11 d12 d13 d14 d15 d16 d17 d18 d19 d20 d21 d22 d23 d24 d25 d26 d27 d28 d29 d30 d31 d32 d33 d34 d35 d36 d37 d38 d39 d40 d41 d42 d43 d44 d45 d46 d47 d48 d49 d50 d51 d52 d53 d54 d55 d56 d57 d58 d59 d60 d61 d62 d63 d64 d65 d66 d67 d68 d69 : Value) (w : World) (R : Ending → World → Prop) : tunnel_Seal.j1 yg2 yg3 d0 d1 d4 d5 d6 d7 d8 d9 d10 d11 d12 d13 d14 d15 d16 d17 d18 d19 d20 d21 d22 d23 d24 d25 d26 d27 d28 d29 d30 d31 d32 d33 d34 d35 d36 d37 d38 d39 d40 d41 d42 d43 d44 d45 d46 d47 d48 d49 d50 d51 d52 d53 d54 d55 d56 d57 d58 d59 d60 d61 d62 d63 d64 d65 d66 d67 d68 d69 w R =
(∃ x1 : Int, ∃ x2 : Int, ∃ x3 : Int, ∃ x4 : Int, ∃ x5 : Int, ∃ x6 : Int, ∃ x7 : Int, ∃ x8 : Int, ∃ x9 : Int, ∃ x10 : Int, ∃ x11 : Int, ∃ x12 : Int, ∃ x13 : Int, ∃ (A14 : Option Addr) (n14_ c14_ : Nat), (14 = 14 ∧ At w ⟨yg3, 0, none⟩ [.int .u8 x1, .int .u8 x2, .int .u8 x3, .int .u8 x4, .int .u8 x5, .int .u8 x6, .int .u8 x7, .int .u8 x8, .int .u8 x9, .int .u8 x10, .int .u8 x11, .int .u8 x12, .int .u16 x13, .slice A14 n14_ c14_]) ∧
(Calls Try.prog 30 #[.agg #[.int .u8 x1, .int .u8 x2, .int .u8 x3, .int .u8 x4, .int .u8 x5, .int .u8 x6, .int .u8 x7, .int .u8 x8, .int .u8 x9, .int .u8 x10, .int .u8 x11, .int .u8 x12, .int .u16 x13, .slice A14 n14_ c14_]] w (fun (e16 : Ending) (w15 : World) =>
 ∃ (A17 : Option Addr) (n17_ c17_ : Nat), ∃ x18 : Int, e16 = .returned (.tuple #[.slice A17 n17_ c17_, .int .i64 x18]) ∧
((if (x18 != 0) = true then
(R (.returned (.tuple #[.slice none 0 0, .int .i64 x18])) w15)
else
(Let (IntKind.i64.wrap (8 + (n17_ : Int))) fun x19 : Int =>
(0 ≤ (8 : Int) ∧ (8 : Int) ≤ x19 ∧ x19 ≤ 9223372036854775807 ∧ (1 : Int) * x19 ≤ 281474976710656) ∧
(Let (w15.heap.size) fun g20 : Nat =>
 Let (w15.alloc (.cells (List.replicate x19.toNat (.int .u8 0)).toArray 5)) fun w21 : World =>
 ∃ a22 : Addr, some ⟨g20, 0, none⟩ = some a22 ∧ (0 ≤ (0 : Int) ∧ (0 : Int) < 8) ∧
(MayC w21 a22 ∧
(Let (w21.setCell a22 (.int .u8 8)) fun w23 : World =>
 ∃ S24 : World → Prop, S24 w23.drew ∧
(Let (w23.drew) fun w25 : World =>
(0 ≤ (8 : Int) ∧ (8 : Int) ≤ (x19.toNat : Int)) ∧
(0 ≤ (4 : Int) ∧ (4 : Int) ≤ 8) ∧
(∃ x26 : Int, (∀ w', S24 w' → w'.cell? ⟨yg2, 5, none⟩ = some (.int .i64 x26)) ∧
(Let (IntKind.u32.wrap x26) fun x27 : Int =>
 Let (IntKind.u32.wrap (x27 * 256)) fun x28 : Int =>
 Calls Try.prog 45 #[.slice (cutA (some ⟨g20, 0, none⟩) 4 x19.toNat 1) 4 (x19.toNat - 4), .int .u32 x28] w25 (fun (e30 : Ending) (w29 : World) =>
 e30 = .returned (.tuple #[]) ∧
(S24 w29 ∧
(∃ S31 : World → Prop, S31 w29.drew ∧
(Let (w29.drew) fun w32 : World =>
 ∃ x33 : Int, (∀ w', S31 w' → w'.cell? ⟨yg2, 0, none⟩ = some (.int .u32 x33)) ∧
(∃ x34 : Int, (∀ w', S31 w' → w'.cell? ⟨yg2, 1, none⟩ = some (.int .u32 x34)) ∧
(∃ x35 : Int, (∀ w', S31 w' → w'.cell? ⟨yg2, 2, none⟩ = some (.int .u16 x35)) ∧
(∃ x36 : Int, (∀ w', S31 w' → w'.cell? ⟨yg2, 3, none⟩ = some (.int .u16 x36)) ∧
(AppE w32 1 1 5 [.int .u8 0] (some ⟨g20, 0, none⟩) 8 x19.toNat A17 n17_ (fun (A37 : Option Addr) (c38 : Nat) (w39 : World) =>
 S31 w39 ∧
(Calls Try.prog 15 #[.int .u32 x33, .int .u32 x34, .agg #[.int .u16 x35, .int .u16 x36, .slice A37 (8 + n17_) c38], .bool false] w39 (fun (e41 : Ending) (w40 : World) =>
 ∃ (A42 : Option Addr) (n42_ c42_ : Nat), ∃ x43 : Int, e41 = .returned (.tuple #[.slice A42 n42_ c42_, .int .i64 x43]) ∧
(S31 w40 ∧
((if (x43 != 0) = true then
(R (.returned (.tuple #[.slice none 0 0, .int .i64 x43])) w40)
else
(∃ x44 : Int, w40.cell? ⟨yg2, 4, none⟩ = some (.int .u8 x44) ∧
(∃ x45 : Int, w40.cell? ⟨yg2, 0, none⟩ = some (.int .u32 x45) ∧
(∃ x46 : Int, w40.cell? ⟨yg2, 1, none⟩ = some (.int .u32 x46) ∧
(Calls Try.prog 46 #[.agg #[.int .u8 0, .int .u16 0, .bool true, .bool false, .int .i64 0, .int .u8 x44, .int .u8 17, .int .u32 x45, .int .u32 x46, .slice none 0 0, .slice A42 n42_ c42_]] w40 (fun (e48 : Ending) (w47 : World) =>
 ∃ (A49 : Option Addr) (n49_ c49_ : Nat), ∃ x50 : Int, e48 = .returned (.tuple #[.slice A49 n49_ c49_, .int .i64 x50]) ∧
(R (.returned (.tuple #[.slice A49 n49_ c49_, .int .i64 x50])) w47)))))))))))))))))))))))))))))))) := by kernel_rfl
def tunnel_Seal.s (i0_0 : Int) (i0_1 : Int) (i0_2 : Int) (i0_3 : Int) (i0_4 : Int) (i0_5 : Int) (i1_0 : Int) (i1_1 : Int) (i1_2 : Int) (i1_3 : Int) (i1_4 : Int) (i1_5 : Int) (i1_6 : Int) (i1_7 : Int) (i1_8 : Int) (i1_9 : Int) (i1_10 : Int) (i1_11 : Int) (i1_12 : Int) (I1_13 : Option Addr) (in1_13 : Nat) (ic1_13 : Nat) (w : World) (R : Ending → World → Prop) : Prop :=
(Let (w.heap.size) fun g1 : Nat =>
 Let (w.alloc (.cells #[.int .u32 i0_0, .int .u32 i0_1, .int .u16 i0_2, .int .u16 i0_3, .int .u8 i0_4, .int .i64 i0_5] 50)) fun w2 : World =>
 Let (w2.heap.size) fun g3 : Nat =>
 Let (w2.alloc (.cells #[.int .u8 i1_0, .int .u8 i1_1, .int .u8 i1_2, .int .u8 i1_3, .int .u8 i1_4, .int .u8 i1_5, .int .u8 i1_6, .int .u8 i1_7, .int .u8 i1_8, .int .u8 i1_9, .int .u8 i1_10, .int .u8 i1_11, .int .u16 i1_12, .slice I1_13 in1_13 ic1_13] 46)) fun w4 : World =>
 ∃ x5 : Int, w4.cell? ⟨g1, 5, none⟩ = some (.int .i64 x5) ∧
((if decide (x5 < 0) = true then
(R (.returned (.tuple #[.slice none 0 0, .int .i64 78])) w4)
else
(∃ x6 : Int, w4.cell? ⟨g1, 5, none⟩ = some (.int .i64 x6) ∧
((if decide (x6 > 16777215) = true then
(R (.returned (.tuple #[.slice none 0 0, .int .i64 78])) w4)
else
(Leaf (tunnel_Seal.j1 g1 g3 (.agg #[.int .u32 i0_0, .int .u32 i0_1, .int .u16 i0_2, .int .u16 i0_3, .int .u8 i0_4, .int .i64 i0_5]) (.agg #[.int .u8 i1_0, .int .u8 i1_1, .int .u8 i1_2, .int .u8 i1_3, .int .u8 i1_4, .int .u8 i1_5, .int .u8 i1_6, .int .u8 i1_7, .int .u8 i1_8, .int .u8 i1_9, .int .u8 i1_10, .int .u8 i1_11, .int .u16 i1_12, .slice I1_13 in1_13 ic1_13]) (.slice none 0 0) (.int .i64 0) undef undef undef undef (.pointer (some ⟨g1, 5, none⟩)) (.int .i64 x5) (.bool (decide (x5 < 0))) (.bool false) (.pointer (some ⟨g1, 5, none⟩)) (.int .i64 x6) (.bool (decide (x6 > 16777215))) (.bool (decide (x6 > 16777215))) undef undef undef undef undef undef undef undef undef undef undef undef undef undef undef undef undef undef undef undef undef undef undef undef undef undef undef undef undef undef undef undef undef undef undef undef undef undef undef undef undef undef undef undef undef undef undef undef undef undef undef undef w4 R))))))))
theorem tunnel_Seal.s_eq (i0_0 : Int) (i0_1 : Int) (i0_2 : Int) (i0_3 : Int) (i0_4 : Int) (i0_5 : Int) (i1_0 : Int) (i1_1 : Int) (i1_2 : Int) (i1_3 : Int) (i1_4 : Int) (i1_5 : Int) (i1_6 : Int) (i1_7 : Int) (i1_8 : Int) (i1_9 : Int) (i1_10 : Int) (i1_11 : Int) (i1_12 : Int) (I1_13 : Option Addr) (in1_13 : Nat) (ic1_13 : Nat) (w : World) (R : Ending → World → Prop) : seg Try.prog entE tunnel_Seal.ords tunnel_Seal.joins Try.f20 [] [] [] ([.agg #[.int .u32 i0_0, .int .u32 i0_1, .int .u16 i0_2, .int .u16 i0_3, .int .u8 i0_4, .int .i64 i0_5], .agg #[.int .u8 i1_0, .int .u8 i1_1, .int .u8 i1_2, .int .u8 i1_3, .int .u8 i1_4, .int .u8 i1_5, .int .u8 i1_6, .int .u8 i1_7, .int .u8 i1_8, .int .u8 i1_9, .int .u8 i1_10, .int .u8 i1_11, .int .u16 i1_12, .slice I1_13 in1_13 ic1_13]] ++ List.replicate (Try.f20.ntmps - ([.agg #[.int .u32 i0_0, .int .u32 i0_1, .int .u16 i0_2, .int .u16 i0_3, .int .u8 i0_4, .int .i64 i0_5], .agg #[.int .u8 i1_0, .int .u8 i1_1, .int .u8 i1_2, .int .u8 i1_3, .int .u8 i1_4, .int .u8 i1_5, .int .u8 i1_6, .int .u8 i1_7, .int .u8 i1_8, .int .u8 i1_9, .int .u8 i1_10, .int .u8 i1_11, .int .u16 i1_12, .slice I1_13 in1_13 ic1_13]] : List Value).length) undef) w R = tunnel_Seal.s i0_0 i0_1 i0_2 i0_3 i0_4 i0_5 i1_0 i1_1 i1_2 i1_3 i1_4 i1_5 i1_6 i1_7 i1_8 i1_9 i1_10 i1_11 i1_12 I1_13 in1_13 ic1_13 w R := by kernel_rfl
theorem tunnel_Seal.run {i0_0 : Int} {i0_1 : Int} {i0_2 : Int} {i0_3 : Int} {i0_4 : Int} {i0_5 : Int} {i1_0 : Int} {i1_1 : Int} {i1_2 : Int} {i1_3 : Int} {i1_4 : Int} {i1_5 : Int} {i1_6 : Int} {i1_7 : Int} {i1_8 : Int} {i1_9 : Int} {i1_10 : Int} {i1_11 : Int} {i1_12 : Int} {I1_13 : Option Addr} {in1_13 : Nat} {ic1_13 : Nat} {w : World} {R : Ending → World → Prop} (h : tunnel_Seal.s i0_0 i0_1 i0_2 i0_3 i0_4 i0_5 i1_0 i1_1 i1_2 i1_3 i1_4 i1_5 i1_6 i1_7 i1_8 i1_9 i1_10 i1_11 i1_12 I1_13 in1_13 ic1_13 w R) : Calls Try.prog 20 #[.agg #[.int .u32 i0_0, .int .u32 i0_1, .int .u16 i0_2, .int .u16 i0_3, .int .u8 i0_4, .int .i64 i0_5], .agg #[.int .u8 i1_0, .int .u8 i1_1, .int .u8 i1_2, .int .u8 i1_3, .int .u8 i1_4, .int .u8 i1_5, .int .u8 i1_6, .int .u8 i1_7, .int .u8 i1_8, .int .u8 i1_9, .int .u8 i1_10, .int .u8 i1_11, .int .u16 i1_12, .slice I1_13 in1_13 ic1_13]] w R :=
  calls_seg ents mixed Try.func20 rfl (by rw [tunnel_Seal.s_eq]; exact h)
/-! ### tunnel_Open: function 25 -/
def tunnel_Open.ords : Nat → Od
  | 19 => (.tk 0 (.tk 1 (.tk 2 (.tk 3 (.tk 4 (.tk 5 (.tk 6 (.tk 7 (.tk 8 (.tk 9 (.tk 10 (.tk 11 (.tk 12 (.tk 17 (.on 13 (.tk 14 (.tk 15 (.tk 16 (.on 18 (.on 19 (.tk 20 .nil)))))))))))))))))))))
  | _ => .nil
def tunnel_Open.joins (p : List Nat) : Bool := p == [1, 1, 1, 0, 0, 1, 1, 1] || p == [1, 1, 1, 1]
def tunnel_Open.j1 (yg2 : Nat) (yg3 : Nat) (yg5 : Nat) (yg7 : Nat) (y23 : Bool) (d0 d1 d4 d6 d8 d9 d10 d11 d12 d13 d14 d15 d16 d17 d18 d19 d20 d21 d22 d24 d25 d26 d27 d28 d29 d30 d31 d32 d33 d34 d35 d36 d37 d38 d39 d40 d41 d42 d43 d44 d45 d46 d47 d48 d49 d50 d51 d52 d53 d54 d55 d56 d57 d58 d59 d60 d61 d62 d63 d64 d65 d66 d67 d68 d69 d70 d71 d72 d73 d74 d75 d76 d77 d78 d79 d80 d81 d82 d83 d84 d85 d86 d87 d88 d89 d90 d91 d92 d93 d94 d95 d96 d97 d98 d99 d100 : Value) (w : World) (R : Ending → World → Prop) : Prop :=
  seg Try.prog entE tunnel_Open.ords tunnel_Open.joins Try.f25 [1, 1, 1, 0, 0, 1, 1, 1] [1, 1, 1, 0, 0, 1, 1, 1] [] [d0, d1, .pointer (some ⟨yg2, 0, none⟩), .pointer (some ⟨yg3, 0, none⟩), d4, .pointer (some ⟨yg5, 0, none⟩), d6, .pointer (some ⟨yg7, 0, none⟩), d8, d9, d10, d11, d12, d13, d14, d15, d16, d17, d18, d19, d20, d21, d22, .bool y23, d24, d25, d26, d27, d28, d29, d30, d31, d32, d33, d34, d35, d36, d37, d38, d39, d40, d41, d42, d43, d44, d45, d46, d47, d48, d49, d50, d51, d52, d53, d54, d55, d56, d57, d58, d59, d60, d61, d62, d63, d64, d65, d66, d67, d68, d69, d70, d71, d72, d73, d74, d75, d76, d77, d78, d79, d80, d81, d82, d83, d84, d85, d86, d87, d88, d89, d90, d91, d92, d93, d94, d95, d96, d97, d98, d99, d100] w R
def tunnel_Open.j2 (yg2 : Nat) (yg3 : Nat) (yg5 : Nat) (yg7 : Nat) (d0 d1 d4 d6 d8 d9 d10 d11 d12 d13 d14 d15 d16 d17 d18 d19 d20 d21 d22 d23 d24 d25 d26 d27 d28 d29 d30 d31 d32 d33 d34 d35 d36 d37 d38 d39 d40 d41 d42 d43 d44 d45 d46 d47 d48 d49 d50 d51 d52 d53 d54 d55 d56 d57 d58 d59 d60 d61 d62 d63 d64 d65 d66 d67 d68 d69 d70 d71 d72 d73 d74 d75 d76 d77 d78 d79 d80 d81 d82 d83 d84 d85 d86 d87 d88 d89 d90 d91 d92 d93 d94 d95 d96 d97 d98 d99 d100 : Value) (w : World) (R : Ending → World → Prop) : Prop :=
  seg Try.prog entE tunnel_Open.ords tunnel_Open.joins Try.f25 [1, 1, 1, 1] [1, 1, 1, 1] [] [d0, d1, .pointer (some ⟨yg2, 0, none⟩), .pointer (some ⟨yg3, 0, none⟩), d4, .pointer (some ⟨yg5, 0, none⟩), d6, .pointer (some ⟨yg7, 0, none⟩), d8, d9, d10, d11, d12, d13, d14, d15, d16, d17, d18, d19, d20, d21, d22, d23, d24, d25, d26, d27, d28, d29, d30, d31, d32, d33, d34, d35, d36, d37, d38, d39, d40, d41, d42, d43, d44, d45, d46, d47, d48, d49, d50, d51, d52, d53, d54, d55, d56, d57, d58, d59, d60, d61, d62, d63, d64, d65, d66, d67, d68, d69, d70, d71, d72, d73, d74, d75, d76, d77, d78, d79, d80, d81, d82, d83, d84, d85, d86, d87, d88, d89, d90, d91, d92, d93, d94, d95, d96, d97, d98, d99, d100] w R
abbrev tunnel_Open.J1 (yg2 : Nat) (yg3 : Nat) (yg5 : Nat) (yg7 : Nat) (y23 : Bool) (w : World) (R : Ending → World → Prop) : Prop := ∀ d0 d1 d4 d6 d8 d9 d10 d11 d12 d13 d14 d15 d16 d17 d18 d19 d20 d21 d22 d24 d25 d26 d27 d28 d29 d30 d31 d32 d33 d34 d35 d36 d37 d38 d39 d40 d41 d42 d43 d44 d45 d46 d47 d48 d49 d50 d51 d52 d53 d54 d55 d56 d57 d58 d59 d60 d61 d62 d63 d64 d65 d66 d67 d68 d69 d70 d71 d72 d73 d74 d75 d76 d77 d78 d79 d80 d81 d82 d83 d84 d85 d86 d87 d88 d89 d90 d91 d92 d93 d94 d95 d96 d97 d98 d99 d100 : Value, tunnel_Open.j1 yg2 yg3 yg5 yg7 y23 d0 d1 d4 d6 d8 d9 d10 d11 d12 d13 d14 d15 d16 d17 d18 d19 d20 d21 d22 d24 d25 d26 d27 d28 d29 d30 d31 d32 d33 d34 d35 d36 d37 d38 d39 d40 d41 d42 d43 d44 d45 d46 d47 d48 d49 d50 d51 d52 d53 d54 d55 d56 d57 d58 d59 d60 d61 d62 d63 d64 d65 d66 d67 d68 d69 d70 d71 d72 d73 d74 d75 d76 d77 d78 d79 d80 d81 d82 d83 d84 d85 d86 d87 d88 d89 d90 d91 d92 d93 d94 d95 d96 d97 d98 d99 d100 w R
abbrev tunnel_Open.J2 (yg2 : Nat) (yg3 : Nat) (yg5 : Nat) (yg7 : Nat) (w : World) (R : Ending → World → Prop) : Prop := ∀ d0 d1 d4 d6 d8 d9 d10 d11 d12 d13 d14 d15 d16 d17 d18 d19 d20 d21 d22 d23 d24 d25 d26 d27 d28 d29 d30 d31 d32 d33 d34 d35 d36 d37 d38 d39 d40 d41 d42 d43 d44 d45 d46 d47 d48 d49 d50 d51 d52 d53 d54 d55 d56 d57 d58 d59 d60 d61 d62 d63 d64 d65 d66 d67 d68 d69 d70 d71 d72 d73 d74 d75 d76 d77 d78 d79 d80 d81 d82 d83 d84 d85 d86 d87 d88 d89 d90 d91 d92 d93 d94 d95 d96 d97 d98 d99 d100 : Value, tunnel_Open.j2 yg2 yg3 yg5 yg7 d0 d1 d4 d6 d8 d9 d10 d11 d12 d13 d14 d15 d16 d17 d18 d19 d20 d21 d22 d23 d24 d25 d26 d27 d28 d29 d30 d31 d32 d33 d34 d35 d36 d37 d38 d39 d40 d41 d42 d43 d44 d45 d46 d47 d48 d49 d50 d51 d52 d53 d54 d55 d56 d57 d58 d59 d60 d61 d62 d63 d64 d65 d66 d67 d68 d69 d70 d71 d72 d73 d74 d75 d76 d77 d78 d79 d80 d81 d82 d83 d84 d85 d86 d87 d88 d89 d90 d91 d92 d93 d94 d95 d96 d97 d98 d99 d100 w R
theorem tunnel_Open.j1_eq (yg2 : Nat) (yg3 : Nat) (yg5 : Nat) (yg7 : Nat) (y23 : Bool) (d0 d1 d4 d6 d8 d9 d10 d11 d12 d13 d14 d15 d16 d17 d18 d19 d20 d21 d22 d24 d25 d26 d27 d28 d29 d30 d31 d32 d33 d34 d35 d36 d37 d38 d39 d40 d41 d42 d43 d44 d45 d46 d47 d48 d49 d50 d51 d52 d53 d54 d55 d56 d57 d58 d59 d60 d61 d62 d63 d64 d65 d66 d67 d68 d69 d70 d71 d72 d73 d74 d75 d76 d77 d78 d79 d80 d81 d82 d83 d84 d85 d86 d87 d88 d89 d90 d91 d92 d93 d94 d95 d96 d97 d98 d99 d100 : Value) (w : World) (R : Ending → World → Prop) : tunnel_Open.j1 yg2 yg3 yg5 yg7 y23 d0 d1 d4 d6 d8 d9 d10 d11 d12 d13 d14 d15 d16 d17 d18 d19 d20 d21 d22 d24 d25 d26 d27 d28 d29 d30 d31 d32 d33 d34 d35 d36 d37 d38 d39 d40 d41 d42 d43 d44 d45 d46 d47 d48 d49 d50 d51 d52 d53 d54 d55 d56 d57 d58 d59 d60 d61 d62 d63 d64 d65 d66 d67 d68 d69 d70 d71 d72 d73 d74 d75 d76 d77 d78 d79 d80 d81 d82 d83 d84 d85 d86 d87 d88 d89 d90 d91 d92 d93 d94 d95 d96 d97 d98 d99 d100 w R =
((if y23 = true then
(May w ⟨yg2, 0, none⟩ 6 ∧
(Let (putCells w ⟨yg2, 0, none⟩ [.int .u32 0, .int .u32 0, .int .u16 0, .int .u16 0, .int .u8 0, .int .i64 0] 0) fun w1 : World =>
 May w1 ⟨yg3, 0, none⟩ 14 ∧
(Let (putCells w1 ⟨yg3, 0, none⟩ [.int .u8 0, .int .u8 0, .int .u8 0, .int .u8 0, .int .u8 0, .int .u8 0, .int .u8 0, .int .u8 0, .int .u8 0, .int .u8 0, .int .u8 0, .int .u8 0, .int .u16 0, .slice none 0 0] 0) fun w2 : World =>
 ∃ x3 : Int, ∃ x4 : Int, ∃ x5 : Int, ∃ x6 : Int, ∃ x7 : Int, ∃ x8 : Int, (6 = 6 ∧ At w2 ⟨yg2, 0, none⟩ [.int .u32 x3, .int .u32 x4, .int .u16 x5, .int .u16 x6, .int .u8 x7, .int .i64 x8]) ∧
(∃ x9 : Int, ∃ x10 : Int, ∃ x11 : Int, ∃ x12 : Int, ∃ x13 : Int, ∃ x14 : Int, ∃ x15 : Int, ∃ x16 : Int, ∃ x17 : Int, ∃ x18 : Int, ∃ x19 : Int, ∃ x20 : Int, ∃ x21 : Int, ∃ (A22 : Option Addr) (n22_ c22_ : Nat), (14 = 14 ∧ At w2 ⟨yg3, 0, none⟩ [.int .u8 x9, .int .u8 x10, .int .u8 x11, .int .u8 x12, .int .u8 x13, .int .u8 x14, .int .u8 x15, .int .u8 x16, .int .u8 x17, .int .u8 x18, .int .u8 x19, .int .u8 x20, .int .u16 x21, .slice A22 n22_ c22_]) ∧
(R (.returned (.tuple #[.agg #[.int .u32 x3, .int .u32 x4, .int .u16 x5, .int .u16 x6, .int .u8 x7, .int .i64 x8], .agg #[.int .u8 x9, .int .u8 x10, .int .u8 x11, .int .u8 x12, .int .u8 x13, .int .u8 x14, .int .u8 x15, .int .u8 x16, .int .u8 x17, .int .u8 x18, .int .u8 x19, .int .u8 x20, .int .u16 x21, .slice A22 n22_ c22_], .int .i64 75])) w2)))))
else
(∃ x23 : Int, w.cell? ⟨yg7, 6, none⟩ = some (.int .u8 x23) ∧
((if (x23 != 17) = true then
(May w ⟨yg2, 0, none⟩ 6 ∧
(Let (putCells w ⟨yg2, 0, none⟩ [.int .u32 0, .int .u32 0, .int .u16 0, .int .u16 0, .int .u8 0, .int .i64 0] 0) fun w24 : World =>
 May w24 ⟨yg3, 0, none⟩ 14 ∧
(Let (putCells w24 ⟨yg3, 0, none⟩ [.int .u8 0, .int .u8 0, .int .u8 0, .int .u8 0, .int .u8 0, .int .u8 0, .int .u8 0, .int .u8 0, .int .u8 0, .int .u8 0, .int .u8 0, .int .u8 0, .int .u16 0, .slice none 0 0] 0) fun w25 : World =>
 ∃ x26 : Int, ∃ x27 : Int, ∃ x28 : Int, ∃ x29 : Int, ∃ x30 : Int, ∃ x31 : Int, (6 = 6 ∧ At w25 ⟨yg2, 0, none⟩ [.int .u32 x26, .int .u32 x27, .int .u16 x28, .int .u16 x29, .int .u8 x30, .int .i64 x31]) ∧
(∃ x32 : Int, ∃ x33 : Int, ∃ x34 : Int, ∃ x35 : Int, ∃ x36 : Int, ∃ x37 : Int, ∃ x38 : Int, ∃ x39 : Int, ∃ x40 : Int, ∃ x41 : Int, ∃ x42 : Int, ∃ x43 : Int, ∃ x44 : Int, ∃ (A45 : Option Addr) (n45_ c45_ : Nat), (14 = 14 ∧ At w25 ⟨yg3, 0, none⟩ [.int .u8 x32, .int .u8 x33, .int .u8 x34, .int .u8 x35, .int .u8 x36, .int .u8 x37, .int .u8 x38, .int .u8 x39, .int .u8 x40, .int .u8 x41, .int .u8 x42, .int .u8 x43, .int .u16 x44, .slice A45 n45_ c45_]) ∧
(R (.returned (.tuple #[.agg #[.int .u32 x26, .int .u32 x27, .int .u16 x28, .int .u16 x29, .int .u8 x30, .int .i64 x31], .agg #[.int .u8 x32, .int .u8 x33, .int .u8 x34, .int .u8 x35, .int .u8 x36, .int .u8 x37, .int .u8 x38, .int .u8 x39, .int .u8 x40, .int .u8 x41, .int .u8 x42, .int .u8 x43, .int .u16 x44, .slice A45 n45_ c45_], .int .i64 74])) w25)))))
else
(Leaf (tunnel_Open.j2 yg2 yg3 yg5 yg7 d0 d1 d4 d6 d8 d9 d10 d11 d12 d13 d14 d15 d16 d17 d18 d19 d20 d21 d22 (.bool y23) d24 d25 d26 d27 d28 d29 d30 d31 d32 (.bool (x23 != 17)) (.pointer (some ⟨yg7, 6, none⟩)) (.int .u8 x23) (.bool (x23 != 17)) d37 d38 d39 d40 d41 d42 d43 d44 d45 d46 d47 d48 d49 d50 d51 d52 d53 d54 d55 d56 d57 d58 d59 d60 d61 d62 d63 d64 d65 d66 d67 d68 d69 d70 d71 d72 d73 d74 d75 d76 d77 d78 d79 d80 d81 d82 d83 d84 d85 d86 d87 d88 d89 d90 d91 d92 d93 d94 d95 d96 d97 d98 d99 d100 w R))))))) := by kernel_rfl
theorem tunnel_Open.j2_eq (yg2 : Nat) (yg3 : Nat) (yg5 : Nat) (yg7 : Nat) (d0 d1 d4 d6 d8 d9 d10 d11 d12 d13 d14 d15 d16 d17 d18 d19 d20 d21 d22 d23 d24 d25 d26 d27 d28 d29 d30 d31 d32 d33 d34 d35 d36 d37 d38 d39 d40 d41 d42 d43 d44 d45 d46 d47 d48 d49 d50 d51 d52 d53 d54 d55 d56 d57 d58 d59 d60 d61 d62 d63 d64 d65 d66 d67 d68 d69 d70 d71 d72 d73 d74 d75 d76 d77 d78 d79 d80 d81 d82 d83 d84 d85 d86 d87 d88 d89 d90 d91 d92 d93 d94 d95 d96 d97 d98 d99 d100 : Value) (w : World) (R : Ending → World → Prop) : tunnel_Open.j2 yg2 yg3 yg5 yg7 d0 d1 d4 d6 d8 d9 d10 d11 d12 d13 d14 d15 d16 d17 d18 d19 d20 d21 d22 d23 d24 d25 d26 d27 d28 d29 d30 d31 d32 d33 d34 d35 d36 d37 d38 d39 d40 d41 d42 d43 d44 d45 d46 d47 d48 d49 d50 d51 d52 d53 d54 d55 d56 d57 d58 d59 d60 d61 d62 d63 d64 d65 d66 d67 d68 d69 d70 d71 d72 d73 d74 d75 d76 d77 d78 d79 d80 d81 d82 d83 d84 d85 d86 d87 d88 d89 d90 d91 d92 d93 d94 d95 d96 d97 d98 d99 d100 w R =
(∃ x1 : Int, w.cell? ⟨yg7, 7, none⟩ = some (.int .u32 x1) ∧
(∃ x2 : Int, w.cell? ⟨yg7, 8, none⟩ = some (.int .u32 x2) ∧
(∃ (A3 : Option Addr) (n3_ c3_ : Nat), w.cell? ⟨yg5, 10, none⟩ = some (.slice A3 n3_ c3_) ∧
(Calls Try.prog 16 #[.int .u32 x1, .int .u32 x2, .slice A3 n3_ c3_] w (fun (e5 : Ending) (w4 : World) =>
 ∃ x6 : Int, ∃ x7 : Int, ∃ (A8 : Option Addr) (n8_ c8_ : Nat), ∃ x9 : Int, e5 = .returned (.tuple #[.agg #[.int .u16 x6, .int .u16 x7, .slice A8 n8_ c8_], .int .i64 x9]) ∧
(Let (w4.heap.size) fun g10 : Nat =>
 Let (w4.alloc (.cells #[.int .u16 0, .int .u16 0, .slice none 0 0] 30)) fun w11 : World =>
 May w11 ⟨g10, 0, none⟩ 3 ∧
(Let (putCells w11 ⟨g10, 0, none⟩ [.int .u16 x6, .int .u16 x7, .slice A8 n8_ c8_] 0) fun w12 : World =>
(if (x9 != 0) = true then
(May w12 ⟨yg2, 0, none⟩ 6 ∧
(Let (putCells w12 ⟨yg2, 0, none⟩ [.int .u32 0, .int .u32 0, .int .u16 0, .int .u16 0, .int .u8 0, .int .i64 0] 0) fun w13 : World =>
 May w13 ⟨yg3, 0, none⟩ 14 ∧
(Let (putCells w13 ⟨yg3, 0, none⟩ [.int .u8 0, .int .u8 0, .int .u8 0, .int .u8 0, .int .u8 0, .int .u8 0, .int .u8 0, .int .u8 0, .int .u8 0, .int .u8 0, .int .u8 0, .int .u8 0, .int .u16 0, .slice none 0 0] 0) fun w14 : World =>
 ∃ x15 : Int, ∃ x16 : Int, ∃ x17 : Int, ∃ x18 : Int, ∃ x19 : Int, ∃ x20 : Int, (6 = 6 ∧ At w14 ⟨yg2, 0, none⟩ [.int .u32 x15, .int .u32 x16, .int .u16 x17, .int .u16 x18, .int .u8 x19, .int .i64 x20]) ∧
(∃ x21 : Int, ∃ x22 : Int, ∃ x23 : Int, ∃ x24 : Int, ∃ x25 : Int, ∃ x26 : Int, ∃ x27 : Int, ∃ x28 : Int, ∃ x29 : Int, ∃ x30 : Int, ∃ x31 : Int, ∃ x32 : Int, ∃ x33 : Int, ∃ (A34 : Option Addr) (n34_ c34_ : Nat), (14 = 14 ∧ At w14 ⟨yg3, 0, none⟩ [.int .u8 x21, .int .u8 x22, .int .u8 x23, .int .u8 x24, .int .u8 x25, .int .u8 x26, .int .u8 x27, .int .u8 x28, .int .u8 x29, .int .u8 x30, .int .u8 x31, .int .u8 x32, .int .u16 x33, .slice A34 n34_ c34_]) ∧
(R (.returned (.tuple #[.agg #[.int .u32 x15, .int .u32 x16, .int .u16 x17, .int .u16 x18, .int .u8 x19, .int .i64 x20], .agg #[.int .u8 x21, .int .u8 x22, .int .u8 x23, .int .u8 x24, .int .u8 x25, .int .u8 x26, .int .u8 x27, .int .u8 x28, .int .u8 x29, .int .u8 x30, .int .u8 x31, .int .u8 x32, .int .u16 x33, .slice A34 n34_ c34_], .int .i64 x9])) w14)))))
else
(∃ (A35 : Option Addr) (n35_ c35_ : Nat), w12.cell? ⟨g10, 2, none⟩ = some (.slice A35 n35_ c35_) ∧
((if decide ((n35_ : Int) < 8) = true then
(May w12 ⟨yg2, 0, none⟩ 6 ∧
(Let (putCells w12 ⟨yg2, 0, none⟩ [.int .u32 0, .int .u32 0, .int .u16 0, .int .u16 0, .int .u8 0, .int .i64 0] 0) fun w36 : World =>
 May w36 ⟨yg3, 0, none⟩ 14 ∧
(Let (putCells w36 ⟨yg3, 0, none⟩ [.int .u8 0, .int .u8 0, .int .u8 0, .int .u8 0, .int .u8 0, .int .u8 0, .int .u8 0, .int .u8 0, .int .u8 0, .int .u8 0, .int .u8 0, .int .u8 0, .int .u16 0, .slice none 0 0] 0) fun w37 : World =>
 ∃ x38 : Int, ∃ x39 : Int, ∃ x40 : Int, ∃ x41 : Int, ∃ x42 : Int, ∃ x43 : Int, (6 = 6 ∧ At w37 ⟨yg2, 0, none⟩ [.int .u32 x38, .int .u32 x39, .int .u16 x40, .int .u16 x41, .int .u8 x42, .int .i64 x43]) ∧
(∃ x44 : Int, ∃ x45 : Int, ∃ x46 : Int, ∃ x47 : Int, ∃ x48 : Int, ∃ x49 : Int, ∃ x50 : Int, ∃ x51 : Int, ∃ x52 : Int, ∃ x53 : Int, ∃ x54 : Int, ∃ x55 : Int, ∃ x56 : Int, ∃ (A57 : Option Addr) (n57_ c57_ : Nat), (14 = 14 ∧ At w37 ⟨yg3, 0, none⟩ [.int .u8 x44, .int .u8 x45, .int .u8 x46, .int .u8 x47, .int .u8 x48, .int .u8 x49, .int .u8 x50, .int .u8 x51, .int .u8 x52, .int .u8 x53, .int .u8 x54, .int .u8 x55, .int .u16 x56, .slice A57 n57_ c57_]) ∧
(R (.returned (.tuple #[.agg #[.int .u32 x38, .int .u32 x39, .int .u16 x40, .int .u16 x41, .int .u8 x42, .int .i64 x43], .agg #[.int .u8 x44, .int .u8 x45, .int .u8 x46, .int .u8 x47, .int .u8 x48, .int .u8 x49, .int .u8 x50, .int .u8 x51, .int .u8 x52, .int .u8 x53, .int .u8 x54, .int .u8 x55, .int .u16 x56, .slice A57 n57_ c57_], .int .i64 76])) w37)))))
else
(∃ (A58 : Option Addr) (n58_ c58_ : Nat), w12.cell? ⟨g10, 2, none⟩ = some (.slice A58 n58_ c58_) ∧
(∃ a59 : Addr, A58 = some a59 ∧ (0 ≤ (0 : Int) ∧ (0 : Int) < (n58_ : Int)) ∧
(∃ x60 : Int, w12.cell? a59 = some (.int .u8 x60) ∧
(Let (Go.bits .and .u8 x60 8) fun x61 : Int =>
(if (x61 == 0) = true then
(May w12 ⟨yg2, 0, none⟩ 6 ∧
(Let (putCells w12 ⟨yg2, 0, none⟩ [.int .u32 0, .int .u32 0, .int .u16 0, .int .u16 0, .int .u8 0, .int .i64 0] 0) fun w62 : World =>
 May w62 ⟨yg3, 0, none⟩ 14 ∧
(Let (putCells w62 ⟨yg3, 0, none⟩ [.int .u8 0, .int .u8 0, .int .u8 0, .int .u8 0, .int .u8 0, .int .u8 0, .int .u8 0, .int .u8 0, .int .u8 0, .int .u8 0, .int .u8 0, .int .u8 0, .int .u16 0, .slice none 0 0] 0) fun w63 : World =>
 ∃ x64 : Int, ∃ x65 : Int, ∃ x66 : Int, ∃ x67 : Int, ∃ x68 : Int, ∃ x69 : Int, (6 = 6 ∧ At w63 ⟨yg2, 0, none⟩ [.int .u32 x64, .int .u32 x65, .int .u16 x66, .int .u16 x67, .int .u8 x68, .int .i64 x69]) ∧
(∃ x70 : Int, ∃ x71 : Int, ∃ x72 : Int, ∃ x73 : Int, ∃ x74 : Int, ∃ x75 : Int, ∃ x76 : Int, ∃ x77 : Int, ∃ x78 : Int, ∃ x79 : Int, ∃ x80 : Int, ∃ x81 : Int, ∃ x82 : Int, ∃ (A83 : Option Addr) (n83_ c83_ : Nat), (14 = 14 ∧ At w63 ⟨yg3, 0, none⟩ [.int .u8 x70, .int .u8 x71, .int .u8 x72, .int .u8 x73, .int .u8 x74, .int .u8 x75, .int .u8 x76, .int .u8 x77, .int .u8 x78, .int .u8 x79, .int .u8 x80, .int .u8 x81, .int .u16 x82, .slice A83 n83_ c83_]) ∧
(R (.returned (.tuple #[.agg #[.int .u32 x64, .int .u32 x65, .int .u16 x66, .int .u16 x67, .int .u8 x68, .int .i64 x69], .agg #[.int .u8 x70, .int .u8 x71, .int .u8 x72, .int .u8 x73, .int .u8 x74, .int .u8 x75, .int .u8 x76, .int .u8 x77, .int .u8 x78, .int .u8 x79, .int .u8 x80, .int .u8 x81, .int .u16 x82, .slice A83 n83_ c83_], .int .i64 77])) w63)))))
else
(∃ (A84 : Option Addr) (n84_ c84_ : Nat), w12.cell? ⟨g10, 2, none⟩ = some (.slice A84 n84_ c84_) ∧
((0 ≤ (8 : Int) ∧ (8 : Int) ≤ (n84_ : Int)) ∧
(Calls Try.prog 31 #[.slice (cutA A84 8 c84_ 1) (n84_ - 8) (c84_ - 8)] w12 (fun (e86 : Ending) (w85 : World) =>
 ∃ x87 : Int, ∃ x88 : Int, ∃ x89 : Int, ∃ x90 : Int, ∃ x91 : Int, ∃ x92 : Int, ∃ x93 : Int, ∃ x94 : Int, ∃ x95 : Int, ∃ x96 : Int, ∃ x97 : Int, ∃ x98 : Int, ∃ x99 : Int, ∃ (A100 : Option Addr) (n100_ c100_ : Nat), ∃ x101 : Int, e86 = .returned (.tuple #[.agg #[.int .u8 x87, .int .u8 x88, .int .u8 x89, .int .u8 x90, .int .u8 x91, .int .u8 x92, .int .u8 x93, .int .u8 x94, .int .u8 x95, .int .u8 x96, .int .u8 x97, .int .u8 x98, .int .u16 x99, .slice A100 n100_ c100_], .int .i64 x101]) ∧
(Let (w85.heap.size) fun g102 : Nat =>
 Let (w85.alloc (.cells #[.int .u8 0, .int .u8 0, .int .u8 0, .int .u8 0, .int .u8 0, .int .u8 0, .int .u8 0, .int .u8 0, .int .u8 0, .int .u8 0, .int .u8 0, .int .u8 0, .int .u16 0, .slice none 0 0] 46)) fun w103 : World =>
 May w103 ⟨g102, 0, none⟩ 14 ∧
(Let (putCells w103 ⟨g102, 0, none⟩ [.int .u8 x87, .int .u8 x88, .int .u8 x89, .int .u8 x90, .int .u8 x91, .int .u8 x92, .int .u8 x93, .int .u8 x94, .int .u8 x95, .int .u8 x96, .int .u8 x97, .int .u8 x98, .int .u16 x99, .slice A100 n100_ c100_] 0) fun w104 : World =>
(if (x101 != 0) = true then
(May w104 ⟨yg2, 0, none⟩ 6 ∧
(Let (putCells w104 ⟨yg2, 0, none⟩ [.int .u32 0, .int .u32 0, .int .u16 0, .int .u16 0, .int .u8 0, .int .i64 0] 0) fun w105 : World =>
 May w105 ⟨yg3, 0, none⟩ 14 ∧
(Let (putCells w105 ⟨yg3, 0, none⟩ [.int .u8 0, .int .u8 0, .int .u8 0, .int .u8 0, .int .u8 0, .int .u8 0, .int .u8 0, .int .u8 0, .int .u8 0, .int .u8 0, .int .u8 0, .int .u8 0, .int .u16 0, .slice none 0 0] 0) fun w106 : World =>
 ∃ x107 : Int, ∃ x108 : Int, ∃ x109 : Int, ∃ x110 : Int, ∃ x111 : Int, ∃ x112 : Int, (6 = 6 ∧ At w106 ⟨yg2, 0, none⟩ [.int .u32 x107, .int .u32 x108, .int .u16 x109, .int .u16 x110, .int .u8 x111, .int .i64 x112]) ∧
(∃ x113 : Int, ∃ x114 : Int, ∃ x115 : Int, ∃ x116 : Int, ∃ x117 : Int, ∃ x118 : Int, ∃ x119 : Int, ∃ x120 : Int, ∃ x121 : Int, ∃ x122 : Int, ∃ x123 : Int, ∃ x124 : Int, ∃ x125 : Int, ∃ (A126 : Option Addr) (n126_ c126_ : Nat), (14 = 14 ∧ At w106 ⟨yg3, 0, none⟩ [.int .u8 x113, .int .u8 x114, .int .u8 x115, .int .u8 x116, .int .u8 x117, .int .u8 x118, .int .u8 x119, .int .u8 x120, .int .u8 x121, .int .u8 x122, .int .u8 x123, .int .u8 x124, .int .u16 x125, .slice A126 n126_ c126_]) ∧
(R (.returned (.tuple #[.agg #[.int .u32 x107, .int .u32 x108, .int .u16 x109, .int .u16 x110, .int .u8 x111, .int .i64 x112], .agg #[.int .u8 x113, .int .u8 x114, .int .u8 x115, .int .u8 x116, .int .u8 x117, .int .u8 x118, .int .u8 x119, .int .u8 x120, .int .u8 x121, .int .u8 x122, .int .u8 x123, .int .u8 x124, .int .u16 x125, .slice A126 n126_ c126_], .int .i64 x101])) w106)))))
else
(∃ S127 : World → Prop, S127 w104.drew ∧
(Let (w104.drew) fun w128 : World =>
 ∃ x129 : Int, (∀ w', S127 w' → w'.cell? ⟨yg7, 7, none⟩ = some (.int .u32 x129)) ∧
(∃ x130 : Int, (∀ w', S127 w' → w'.cell? ⟨yg7, 8, none⟩ = some (.int .u32 x130)) ∧
(∃ x131 : Int, (∀ w', S127 w' → w'.cell? ⟨g10, 0, none⟩ = some (.int .u16 x131)) ∧
(∃ x132 : Int, (∀ w', S127 w' → w'.cell? ⟨g10, 1, none⟩ = some (.int .u16 x132)) ∧
(∃ x133 : Int, (∀ w', S127 w' → w'.cell? ⟨yg7, 5, none⟩ = some (.int .u8 x133)) ∧
(∃ (A134 : Option Addr) (n134_ c134_ : Nat), (∀ w', S127 w' → w'.cell? ⟨g10, 2, none⟩ = some (.slice A134 n134_ c134_)) ∧
((0 ≤ (8 : Int) ∧ (8 : Int) ≤ (c134_ : Int)) ∧
(0 ≤ (4 : Int) ∧ (4 : Int) ≤ 8) ∧
(∃ x135 : Int, ∃ x136 : Int, ∃ x137 : Int, ∃ x138 : Int, ∃ x139 : Int, ∃ x140 : Int, ∃ x141 : Int, ∃ x142 : Int, ∃ x143 : Int, ∃ x144 : Int, ∃ x145 : Int, ∃ x146 : Int, ∃ x147 : Int, ∃ (A148 : Option Addr) (n148_ c148_ : Nat), (14 = 14 ∧ (∀ w', S127 w' → At w' ⟨g102, 0, none⟩ [.int .u8 x135, .int .u8 x136, .int .u8 x137, .int .u8 x138, .int .u8 x139, .int .u8 x140, .int .u8 x141, .int .u8 x142, .int .u8 x143, .int .u8 x144, .int .u8 x145, .int .u8 x146, .int .u16 x147, .slice A148 n148_ c148_])) ∧
(Calls Try.prog 53 #[.slice (cutA A134 4 c134_ 1) 4 (c134_ - 4)] w128 (fun (e150 : Ending) (w149 : World) =>
 ∃ x151 : Int, e150 = .returned (.int .u32 x151) ∧
(S127 w149 ∧
(Let (Int.fdiv x151 256) fun x152 : Int =>
 Let (IntKind.i64.wrap x152) fun x153 : Int =>
 May w149 ⟨yg2, 0, none⟩ 6 ∧
(Let (putCells w149 ⟨yg2, 0, none⟩ [.int .u32 x129, .int .u32 x130, .int .u16 x131, .int .u16 x132, .int .u8 x133, .int .i64 x153] 0) fun w154 : World =>
 S127 w154 ∧
(May w154 ⟨yg3, 0, none⟩ 14 ∧
(Let (putCells w154 ⟨yg3, 0, none⟩ [.int .u8 x135, .int .u8 x136, .int .u8 x137, .int .u8 x138, .int .u8 x139, .int .u8 x140, .int .u8 x141, .int .u8 x142, .int .u8 x143, .int .u8 x144, .int .u8 x145, .int .u8 x146, .int .u16 x147, .slice A148 n148_ c148_] 0) fun w155 : World =>
 S127 w155 ∧
(∃ x156 : Int, ∃ x157 : Int, ∃ x158 : Int, ∃ x159 : Int, ∃ x160 : Int, ∃ x161 : Int, (6 = 6 ∧ At w155 ⟨yg2, 0, none⟩ [.int .u32 x156, .int .u32 x157, .int .u16 x158, .int .u16 x159, .int .u8 x160, .int .i64 x161]) ∧
(∃ x162 : Int, ∃ x163 : Int, ∃ x164 : Int, ∃ x165 : Int, ∃ x166 : Int, ∃ x167 : Int, ∃ x168 : Int, ∃ x169 : Int, ∃ x170 : Int, ∃ x171 : Int, ∃ x172 : Int, ∃ x173 : Int, ∃ x174 : Int, ∃ (A175 : Option Addr) (n175_ c175_ : Nat), (14 = 14 ∧ At w155 ⟨yg3, 0, none⟩ [.int .u8 x162, .int .u8 x163, .int .u8 x164, .int .u8 x165, .int .u8 x166, .int .u8 x167, .int .u8 x168, .int .u8 x169, .int .u8 x170, .int .u8 x171, .int .u8 x172, .int .u8 x173, .int .u16 x174, .slice A175 n175_ c175_]) ∧
(R (.returned (.tuple #[.agg #[.int .u32 x156, .int .u32 x157, .int .u16 x158, .int .u16 x159, .int .u8 x160, .int .i64 x161], .agg #[.int .u8 x162, .int .u8 x163, .int .u8 x164, .int .u8 x165, .int .u8 x166, .int .u8 x167, .int .u8 x168, .int .u8 x169, .int .u8 x170, .int .u8 x171, .int .u8 x172, .int .u8 x173, .int .u16 x174, .slice A175 n175_ c175_], .int .i64 0])) w155)))))))))))))))))))))))))))))))))))))))))) := by kernel_rfl
def tunnel_Open.s (I0 : Option Addr) (in0 : Nat) (ic0 : Nat) (w : World) (R : Ending → World → Prop) : Prop :=
(Let (w.heap.size) fun g1 : Nat =>
 Let (w.alloc (.cells #[.int .u32 0, .int .u32 0, .int .u16 0, .int .u16 0, .int .u8 0, .int .i64 0] 50)) fun w2 : World =>
 Let (w2.heap.size) fun g3 : Nat =>
 Let (w2.alloc (.cells #[.int .u8 0, .int .u8 0, .int .u8 0, .int .u8 0, .int .u8 0, .int .u8 0, .int .u8 0, .int .u8 0, .int .u8 0, .int .u8 0, .int .u8 0, .int .u8 0, .int .u16 0, .slice none 0 0] 46)) fun w4 : World =>
 Calls Try.prog 52 #[.slice I0 in0 ic0] w4 (fun (e6 : Ending) (w5 : World) =>
 ∃ x7 : Int, ∃ x8 : Int, ∃ b9 : Bool, ∃ b10 : Bool, ∃ x11 : Int, ∃ x12 : Int, ∃ x13 : Int, ∃ x14 : Int, ∃ x15 : Int, ∃ (A16 : Option Addr) (n16_ c16_ : Nat), ∃ (A17 : Option Addr) (n17_ c17_ : Nat), ∃ x18 : Int, e6 = .returned (.tuple #[.agg #[.int .u8 x7, .int .u16 x8, .bool b9, .bool b10, .int .i64 x11, .int .u8 x12, .int .u8 x13, .int .u32 x14, .int .u32 x15, .slice A16 n16_ c16_, .slice A17 n17_ c17_], .int .i64 x18]) ∧
(Let (w5.heap.size) fun g19 : Nat =>
 Let (w5.alloc (.cells #[.int .u8 0, .int .u16 0, .bool false, .bool false, .int .i64 0, .int .u8 0, .int .u8 0, .int .u32 0, .int .u32 0, .slice none 0 0, .slice none 0 0] 88)) fun w20 : World =>
 May w20 ⟨g19, 0, none⟩ 11 ∧
(Let (putCells w20 ⟨g19, 0, none⟩ [.int .u8 x7, .int .u16 x8, .bool b9, .bool b10, .int .i64 x11, .int .u8 x12, .int .u8 x13, .int .u32 x14, .int .u32 x15, .slice A16 n16_ c16_, .slice A17 n17_ c17_] 0) fun w21 : World =>
 ∃ x22 : Int, ∃ x23 : Int, ∃ b24 : Bool, ∃ b25 : Bool, ∃ x26 : Int, ∃ x27 : Int, ∃ x28 : Int, ∃ x29 : Int, ∃ x30 : Int, ∃ (A31 : Option Addr) (n31_ c31_ : Nat), (10 = 10 ∧ At w21 ⟨g19, 0, none⟩ [.int .u8 x22, .int .u16 x23, .bool b24, .bool b25, .int .i64 x26, .int .u8 x27, .int .u8 x28, .int .u32 x29, .int .u32 x30, .slice A31 n31_ c31_]) ∧
(Let (w21.heap.size) fun g32 : Nat =>
 Let (w21.alloc (.cells #[.int .u8 0, .int .u16 0, .bool false, .bool false, .int .i64 0, .int .u8 0, .int .u8 0, .int .u32 0, .int .u32 0, .slice none 0 0] 86)) fun w33 : World =>
 May w33 ⟨g32, 0, none⟩ 10 ∧
(Let (putCells w33 ⟨g32, 0, none⟩ [.int .u8 x22, .int .u16 x23, .bool b24, .bool b25, .int .i64 x26, .int .u8 x27, .int .u8 x28, .int .u32 x29, .int .u32 x30, .slice A31 n31_ c31_] 0) fun w34 : World =>
(if (x18 != 0) = true then
(May w34 ⟨g1, 0, none⟩ 6 ∧
(Let (putCells w34 ⟨g1, 0, none⟩ [.int .u32 0, .int .u32 0, .int .u16 0, .int .u16 0, .int .u8 0, .int .i64 0] 0) fun w35 : World =>
 May w35 ⟨g3, 0, none⟩ 14 ∧
(Let (putCells w35 ⟨g3, 0, none⟩ [.int .u8 0, .int .u8 0, .int .u8 0, .int .u8 0, .int .u8 0, .int .u8 0, .int .u8 0, .int .u8 0, .int .u8 0, .int .u8 0, .int .u8 0, .int .u8 0, .int .u16 0, .slice none 0 0] 0) fun w36 : World =>
 ∃ x37 : Int, ∃ x38 : Int, ∃ x39 : Int, ∃ x40 : Int, ∃ x41 : Int, ∃ x42 : Int, (6 = 6 ∧ At w36 ⟨g1, 0, none⟩ [.int .u32 x37, .int .u32 x38, .int .u16 x39, .int .u16 x40, .int .u8 x41, .int .i64 x42]) ∧
(∃ x43 : Int, ∃ x44 : Int, ∃ x45 : Int, ∃ x46 : Int, ∃ x47 : Int, ∃ x48 : Int, ∃ x49 : Int, ∃ x50 : Int, ∃ x51 : Int, ∃ x52 : Int, ∃ x53 : Int, ∃ x54 : Int, ∃ x55 : Int, ∃ (A56 : Option Addr) (n56_ c56_ : Nat), (14 = 14 ∧ At w36 ⟨g3, 0, none⟩ [.int .u8 x43, .int .u8 x44, .int .u8 x45, .int .u8 x46, .int .u8 x47, .int .u8 x48, .int .u8 x49, .int .u8 x50, .int .u8 x51, .int .u8 x52, .int .u8 x53, .int .u8 x54, .int .u16 x55, .slice A56 n56_ c56_]) ∧
(R (.returned (.tuple #[.agg #[.int .u32 x37, .int .u32 x38, .int .u16 x39, .int .u16 x40, .int .u8 x41, .int .i64 x42], .agg #[.int .u8 x43, .int .u8 x44, .int .u8 x45, .int .u8 x46, .int .u8 x47, .int .u8 x48, .int .u8 x49, .int .u8 x50, .int .u8 x51, .int .u8 x52, .int .u8 x53, .int .u8 x54, .int .u16 x55, .slice A56 n56_ c56_], .int .i64 x18])) w36)))))
else
(∃ b57 : Bool, w34.cell? ⟨g32, 3, none⟩ = some (.bool b57) ∧
((if b57 = true then
(Leaf (tunnel_Open.j1 g1 g3 g19 g32 true (.slice I0 in0 ic0) undef (.int .i64 0) (.int .i64 x18) undef undef (.tuple #[.agg #[.int .u8 x7, .int .u16 x8, .bool b9, .bool b10, .int .i64 x11, .int .u8 x12, .int .u8 x13, .int .u32 x14, .int .u32 x15, .slice A16 n16_ c16_, .slice A17 n17_ c17_], .int .i64 x18]) (.slice I0 in0 ic0) (.tuple #[.agg #[.int .u8 x7, .int .u16 x8, .bool b9, .bool b10, .int .i64 x11, .int .u8 x12, .int .u8 x13, .int .u32 x14, .int .u32 x15, .slice A16 n16_ c16_, .slice A17 n17_ c17_], .int .i64 x18]) (.agg #[.int .u8 x7, .int .u16 x8, .bool b9, .bool b10, .int .i64 x11, .int .u8 x12, .int .u8 x13, .int .u32 x14, .int .u32 x15, .slice A16 n16_ c16_, .slice A17 n17_ c17_]) (.int .i64 x18) (.pointer (some ⟨g19, 0, none⟩)) (.agg #[.int .u8 x22, .int .u16 x23, .bool b24, .bool b25, .int .i64 x26, .int .u8 x27, .int .u8 x28, .int .u32 x29, .int .u32 x30, .slice A31 n31_ c31_]) (.bool (x18 != 0)) (.int .i64 x18) (.bool (x18 != 0)) undef undef undef (.pointer (some ⟨g32, 3, none⟩)) (.bool b57) (.bool true) undef undef undef (.bool true) undef undef undef undef undef undef undef undef undef undef undef undef undef undef undef undef undef undef undef undef undef undef undef undef undef undef undef undef undef undef undef undef undef undef undef undef undef undef undef undef undef undef undef undef undef undef undef undef undef undef undef undef undef undef undef undef undef undef undef undef undef undef undef undef undef undef undef undef undef undef w34 R))
else
(∃ x58 : Int, w34.cell? ⟨g32, 4, none⟩ = some (.int .i64 x58) ∧
(Leaf (tunnel_Open.j1 g1 g3 g19 g32 (x58 != 0) (.slice I0 in0 ic0) undef (.int .i64 0) (.int .i64 x18) undef undef (.tuple #[.agg #[.int .u8 x7, .int .u16 x8, .bool b9, .bool b10, .int .i64 x11, .int .u8 x12, .int .u8 x13, .int .u32 x14, .int .u32 x15, .slice A16 n16_ c16_, .slice A17 n17_ c17_], .int .i64 x18]) (.slice I0 in0 ic0) (.tuple #[.agg #[.int .u8 x7, .int .u16 x8, .bool b9, .bool b10, .int .i64 x11, .int .u8 x12, .int .u8 x13, .int .u32 x14, .int .u32 x15, .slice A16 n16_ c16_, .slice A17 n17_ c17_], .int .i64 x18]) (.agg #[.int .u8 x7, .int .u16 x8, .bool b9, .bool b10, .int .i64 x11, .int .u8 x12, .int .u8 x13, .int .u32 x14, .int .u32 x15, .slice A16 n16_ c16_, .slice A17 n17_ c17_]) (.int .i64 x18) (.pointer (some ⟨g19, 0, none⟩)) (.agg #[.int .u8 x22, .int .u16 x23, .bool b24, .bool b25, .int .i64 x26, .int .u8 x27, .int .u8 x28, .int .u32 x29, .int .u32 x30, .slice A31 n31_ c31_]) (.bool (x18 != 0)) (.int .i64 x18) (.bool (x18 != 0)) undef undef undef (.pointer (some ⟨g32, 3, none⟩)) (.bool b57) (.bool false) (.pointer (some ⟨g32, 4, none⟩)) (.int .i64 x58) (.bool (x58 != 0)) (.bool (x58 != 0)) undef undef undef undef undef undef undef undef undef undef undef undef undef undef undef undef undef undef undef undef undef undef undef undef undef undef undef undef undef undef undef undef undef undef undef undef undef undef undef undef undef undef undef undef undef undef undef undef undef undef undef undef undef undef undef undef undef undef undef undef undef undef undef undef undef undef undef undef undef undef w34 R)))))))))))))
theorem tunnel_Open.s_eq (I0 : Option Addr) (in0 : Nat) (ic0 : Nat) (w : World) (R : Ending → World → Prop) : seg Try.prog entE tunnel_Open.ords tunnel_Open.joins Try.f25 [] [] [] ([.slice I0 in0 ic0] ++ List.replicate (Try.f25.ntmps - ([.slice I0 in0 ic0] : List Value).length) undef) w R = tunnel_Open.s I0 in0 ic0 w R := by kernel_rfl
theorem tunnel_Open.run {I0 : Option Addr} {in0 : Nat} {ic0 : Nat} {w : World} {R : Ending → World → Prop} (h : tunnel_Open.s I0 in0 ic0 w R) : Calls Try.prog 25 #[.slice I0 in0 ic0] w R :=
  calls_seg ents mixed Try.func25 rfl (by rw [tunnel_Open.s_eq]; exact h)
end Go.Proofs.YtleelkkddjldnaaS
