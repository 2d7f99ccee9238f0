/- What functions of the program come to, told by a program of this session out of the translation; the kernel computes each statement out of the code.
   Conditions: none. -/
import Derived.Test.YtphbdmafchjjeaaDoorHSBase
namespace Go.Proofs.YtphbdmafchjjeaaDoorS
open Go Go.Proofs
set_option maxRecDepth 100000
set_option linter.unusedVariables false
/-! ### tunnel_load_uint16: function 73 -/
def tunnel_load_uint16.ords : Nat → Od
  | _ => .nil
def tunnel_load_uint16.joins (p : List Nat) : Bool := false
def tunnel_load_uint16.l1 (n : Nat) (y3 : Int) (Y6 : Option Addr) (yn6 : Nat) (yc6 : Nat) (y7 : Int) (y8 : Int) (d0 d1 d2 d4 d5 d9 d10 d11 d12 d13 d14 d15 d16 d17 d18 : Value) (w : World) (R : Ending → World → Prop) : Prop :=
  lseg Tryd.prog entE tunnel_load_uint16.ords tunnel_load_uint16.joins Tryd.f73 [1, 1, 0, 1, 0] [0, 1, 0, 1, 1] [] n [d0, d1, d2, .int .u16 y3, d4, d5, .slice Y6 yn6 yc6, .int .i64 y7, .int .i64 y8, d9, d10, d11, d12, d13, d14, d15, d16, d17, d18] w R
abbrev tunnel_load_uint16.L1 (n : Nat) (y3 : Int) (Y6 : Option Addr) (yn6 : Nat) (yc6 : Nat) (y7 : Int) (y8 : Int) (w : World) (R : Ending → World → Prop) : Prop := ∀ d0 d1 d2 d4 d5 d9 d10 d11 d12 d13 d14 d15 d16 d17 d18 : Value, tunnel_load_uint16.l1 n y3 Y6 yn6 yc6 y7 y8 d0 d1 d2 d4 d5 d9 d10 d11 d12 d13 d14 d15 d16 d17 d18 w R
theorem tunnel_load_uint16.l1_eq (n : Nat) (y3 : Int) (Y6 : Option Addr) (yn6 : Nat) (yc6 : Nat) (y7 : Int) (y8 : Int) (d0 d1 d2 d4 d5 d9 d10 d11 d12 d13 d14 d15 d16 d17 d18 : Value) (w : World) (R : Ending → World → Prop) : tunnel_load_uint16.l1 (n + 1) y3 Y6 yn6 yc6 y7 y8 d0 d1 d2 d4 d5 d9 d10 d11 d12 d13 d14 d15 d16 d17 d18 w R =
((if decide (y8 < y7) = true then
(∃ a1 : Addr, Y6 = some a1 ∧ (0 ≤ y8 ∧ y8 < (yn6 : Int)) ∧
(∃ x2 : Int, w.cell? (a1.add y8.toNat) = some (.int .u8 x2) ∧
(Let (IntKind.u16.wrap (y3 * 256)) fun x3 : Int =>
 Let (IntKind.u16.wrap x2) fun x4 : Int =>
 Let (Go.bits .or .u16 x3 x4) fun x5 : Int =>
 Let (IntKind.i64.wrap (y8 + 1)) fun x6 : Int =>
 tunnel_load_uint16.l1 n x5 Y6 yn6 yc6 y7 x6 d0 d1 d2 d4 (.int .u8 x2) (.bool (decide (y8 < y7))) (.pointer (some (a1.add y8.toNat))) (.int .u8 x2) (.int .u16 y3) (.int .u16 x3) (.int .u8 x2) (.int .u16 x4) (.int .u16 x5) (.int .i64 x6) d18 w R)))
else
(R (.returned (.int .u16 y3)) w))) := by kernel_rfl
def tunnel_load_uint16.s (I0 : Option Addr) (in0 : Nat) (ic0 : Nat) (w : World) (R : Ending → World → Prop) : Prop :=
(∃ n1 : Nat, tunnel_load_uint16.l1 n1 0 I0 in0 ic0 (in0 : Int) 0 (.slice I0 in0 ic0) undef (.int .u16 0) undef undef undef undef undef undef undef undef undef undef undef undef w R)
theorem tunnel_load_uint16.s_eq (I0 : Option Addr) (in0 : Nat) (ic0 : Nat) (w : World) (R : Ending → World → Prop) : seg Tryd.prog entE tunnel_load_uint16.ords tunnel_load_uint16.joins Tryd.f73 [] [] [] ([.slice I0 in0 ic0] ++ List.replicate (Tryd.f73.ntmps - ([.slice I0 in0 ic0] : List Value).length) undef) w R = tunnel_load_uint16.s I0 in0 ic0 w R := by kernel_rfl
theorem tunnel_load_uint16.run {I0 : Option Addr} {in0 : Nat} {ic0 : Nat} {w : World} {R : Ending → World → Prop} (h : tunnel_load_uint16.s I0 in0 ic0 w R) : Calls Tryd.prog 73 #[.slice I0 in0 ic0] w R :=
  calls_seg ents mixed Tryd.func73 rfl (by rw [tunnel_load_uint16.s_eq]; exact h)
/-! ### tunnel_store_uint32: function 80 -/
def tunnel_store_uint32.ords : Nat → Od
  | _ => .nil
def tunnel_store_uint32.joins (p : List Nat) : Bool := false
def tunnel_store_uint32.l1 (n : Nat) (Y0 : Option Addr) (yn0 : Nat) (yc0 : Nat) (y1 : Int) (y6 : Int) (y7 : Int) (d2 d3 d4 d5 d8 d9 d10 d11 d12 d13 d14 d15 d16 d17 d18 d19 d20 d21 : Value) (w : World) (R : Ending → World → Prop) : Prop :=
  lseg Tryd.prog entE tunnel_store_uint32.ords tunnel_store_uint32.joins Tryd.f80 [1, 0] [0, 1] [] n [.slice Y0 yn0 yc0, .int .u32 y1, d2, d3, d4, d5, .int .i64 y6, .int .i64 y7, d8, d9, d10, d11, d12, d13, d14, d15, d16, d17, d18, d19, d20, d21] w R
abbrev tunnel_store_uint32.L1 (n : Nat) (Y0 : Option Addr) (yn0 : Nat) (yc0 : Nat) (y1 : Int) (y6 : Int) (y7 : Int) (w : World) (R : Ending → World → Prop) : Prop := ∀ d2 d3 d4 d5 d8 d9 d10 d11 d12 d13 d14 d15 d16 d17 d18 d19 d20 d21 : Value, tunnel_store_uint32.l1 n Y0 yn0 yc0 y1 y6 y7 d2 d3 d4 d5 d8 d9 d10 d11 d12 d13 d14 d15 d16 d17 d18 d19 d20 d21 w R
theorem tunnel_store_uint32.l1_eq (n : Nat) (Y0 : Option Addr) (yn0 : Nat) (yc0 : Nat) (y1 : Int) (y6 : Int) (y7 : Int) (d2 d3 d4 d5 d8 d9 d10 d11 d12 d13 d14 d15 d16 d17 d18 d19 d20 d21 : Value) (w : World) (R : Ending → World → Prop) : tunnel_store_uint32.l1 (n + 1) Y0 yn0 yc0 y1 y6 y7 d2 d3 d4 d5 d8 d9 d10 d11 d12 d13 d14 d15 d16 d17 d18 d19 d20 d21 w R =
((if decide (y7 < y6) = true then
(Let (IntKind.i64.wrap ((yn0 : Int) - 1)) fun x1 : Int =>
 Let (IntKind.i64.wrap (x1 - y7)) fun x2 : Int =>
 Let (IntKind.u8.wrap y1) fun x3 : Int =>
 ∃ a4 : Addr, Y0 = some a4 ∧ (0 ≤ x2 ∧ x2 < (yn0 : Int)) ∧
(MayC w (a4.add x2.toNat) ∧
(Let (w.setCell (a4.add x2.toNat) (.int .u8 x3)) fun w5 : World =>
 Let (Int.fdiv y1 256) fun x6 : Int =>
 Let (IntKind.i64.wrap (y7 + 1)) fun x7 : Int =>
 tunnel_store_uint32.l1 n Y0 yn0 yc0 x6 y6 x7 d2 d3 (.int .i64 y7) d5 (.bool (decide (y7 < y6))) (.int .i64 y7) (.slice Y0 yn0 yc0) (.slice Y0 yn0 yc0) (.int .i64 (yn0 : Int)) (.int .i64 x1) (.int .i64 y7) (.int .i64 x2) (.int .u32 y1) (.int .u8 x3) (.pointer (some (a4.add x2.toNat))) (.int .u32 y1) (.int .u32 x6) (.int .i64 x7) w5 R)))
else
(R (.returned (.tuple #[])) w))) := by kernel_rfl
def tunnel_store_uint32.s (I0 : Option Addr) (in0 : Nat) (ic0 : Nat) (i1 : Int) (w : World) (R : Ending → World → Prop) : Prop :=
(∃ n1 : Nat, tunnel_store_uint32.l1 n1 I0 in0 ic0 i1 (in0 : Int) 0 undef undef undef (.slice I0 in0 ic0) undef undef undef undef undef undef undef undef undef undef undef undef undef undef w R)
theorem tunnel_store_uint32.s_eq (I0 : Option Addr) (in0 : Nat) (ic0 : Nat) (i1 : Int) (w : World) (R : Ending → World → Prop) : seg Tryd.prog entE tunnel_store_uint32.ords tunnel_store_uint32.joins Tryd.f80 [] [] [] ([.slice I0 in0 ic0, .int .u32 i1] ++ List.replicate (Tryd.f80.ntmps - ([.slice I0 in0 ic0, .int .u32 i1] : List Value).length) undef) w R = tunnel_store_uint32.s I0 in0 ic0 i1 w R := by kernel_rfl
theorem tunnel_store_uint32.run {I0 : Option Addr} {in0 : Nat} {ic0 : Nat} {i1 : Int} {w : World} {R : Ending → World → Prop} (h : tunnel_store_uint32.s I0 in0 ic0 i1 w R) : Calls Tryd.prog 80 #[.slice I0 in0 ic0, .int .u32 i1] w R :=
  calls_seg ents mixed Tryd.func80 rfl (by rw [tunnel_store_uint32.s_eq]; exact h)
/-! ### tunnel_store_uint16: function 81 -/
def tunnel_store_uint16.ords : Nat → Od
  | _ => .nil
def tunnel_store_uint16.joins (p : List Nat) : Bool := false
def tunnel_store_uint16.l1 (n : Nat) (Y0 : Option Addr) (yn0 : Nat) (yc0 : Nat) (y1 : Int) (y6 : Int) (y7 : Int) (d2 d3 d4 d5 d8 d9 d10 d11 d12 d13 d14 d15 d16 d17 d18 d19 d20 d21 : Value) (w : World) (R : Ending → World → Prop) : Prop :=
  lseg Tryd.prog entE tunnel_store_uint16.ords tunnel_store_uint16.joins Tryd.f81 [1, 0] [0, 1] [] n [.slice Y0 yn0 yc0, .int .u16 y1, d2, d3, d4, d5, .int .i64 y6, .int .i64 y7, d8, d9, d10, d11, d12, d13, d14, d15, d16, d17, d18, d19, d20, d21] w R
abbrev tunnel_store_uint16.L1 (n : Nat) (Y0 : Option Addr) (yn0 : Nat) (yc0 : Nat) (y1 : Int) (y6 : Int) (y7 : Int) (w : World) (R : Ending → World → Prop) : Prop := ∀ d2 d3 d4 d5 d8 d9 d10 d11 d12 d13 d14 d15 d16 d17 d18 d19 d20 d21 : Value, tunnel_store_uint16.l1 n Y0 yn0 yc0 y1 y6 y7 d2 d3 d4 d5 d8 d9 d10 d11 d12 d13 d14 d15 d16 d17 d18 d19 d20 d21 w R
theorem tunnel_store_uint16.l1_eq (n : Nat) (Y0 : Option Addr) (yn0 : Nat) (yc0 : Nat) (y1 : Int) (y6 : Int) (y7 : Int) (d2 d3 d4 d5 d8 d9 d10 d11 d12 d13 d14 d15 d16 d17 d18 d19 d20 d21 : Value) (w : World) (R : Ending → World → Prop) : tunnel_store_uint16.l1 (n + 1) Y0 yn0 yc0 y1 y6 y7 d2 d3 d4 d5 d8 d9 d10 d11 d12 d13 d14 d15 d16 d17 d18 d19 d20 d21 w R =
((if decide (y7 < y6) = true then
(Let (IntKind.i64.wrap ((yn0 : Int) - 1)) fun x1 : Int =>
 Let (IntKind.i64.wrap (x1 - y7)) fun x2 : Int =>
 Let (IntKind.u8.wrap y1) fun x3 : Int =>
 ∃ a4 : Addr, Y0 = some a4 ∧ (0 ≤ x2 ∧ x2 < (yn0 : Int)) ∧
(MayC w (a4.add x2.toNat) ∧
(Let (w.setCell (a4.add x2.toNat) (.int .u8 x3)) fun w5 : World =>
 Let (Int.fdiv y1 256) fun x6 : Int =>
 Let (IntKind.i64.wrap (y7 + 1)) fun x7 : Int =>
 tunnel_store_uint16.l1 n Y0 yn0 yc0 x6 y6 x7 d2 d3 (.int .i64 y7) d5 (.bool (decide (y7 < y6))) (.int .i64 y7) (.slice Y0 yn0 yc0) (.slice Y0 yn0 yc0) (.int .i64 (yn0 : Int)) (.int .i64 x1) (.int .i64 y7) (.int .i64 x2) (.int .u16 y1) (.int .u8 x3) (.pointer (some (a4.add x2.toNat))) (.int .u16 y1) (.int .u16 x6) (.int .i64 x7) w5 R)))
else
(R (.returned (.tuple #[])) w))) := by kernel_rfl
def tunnel_store_uint16.s (I0 : Option Addr) (in0 : Nat) (ic0 : Nat) (i1 : Int) (w : World) (R : Ending → World → Prop) : Prop :=
(∃ n1 : Nat, tunnel_store_uint16.l1 n1 I0 in0 ic0 i1 (in0 : Int) 0 undef undef undef (.slice I0 in0 ic0) undef undef undef undef undef undef undef undef undef undef undef undef undef undef w R)
theorem tunnel_store_uint16.s_eq (I0 : Option Addr) (in0 : Nat) (ic0 : Nat) (i1 : Int) (w : World) (R : Ending → World → Prop) : seg Tryd.prog entE tunnel_store_uint16.ords tunnel_store_uint16.joins Tryd.f81 [] [] [] ([.slice I0 in0 ic0, .int .u16 i1] ++ List.replicate (Tryd.f81.ntmps - ([.slice I0 in0 ic0, .int .u16 i1] : List Value).length) undef) w R = tunnel_store_uint16.s I0 in0 ic0 i1 w R := by kernel_rfl
theorem tunnel_store_uint16.run {I0 : Option Addr} {in0 : Nat} {ic0 : Nat} {i1 : Int} {w : World} {R : Ending → World → Prop} (h : tunnel_store_uint16.s I0 in0 ic0 i1 w R) : Calls Tryd.prog 81 #[.slice I0 in0 ic0, .int .u16 i1] w R :=
  calls_seg ents mixed Tryd.func81 rfl (by rw [tunnel_store_uint16.s_eq]; exact h)
/-! ### tunnel_clone: function 75 -/
def tunnel_clone.ords : Nat → Od
  | _ => .nil
def tunnel_clone.joins (p : List Nat) : Bool := false
def tunnel_clone.s (I0 : Option Addr) (in0 : Nat) (ic0 : Nat) (w : World) (R : Ending → World → Prop) : Prop :=
((0 ≤ (in0 : Int) ∧ (in0 : Int) ≤ (in0 : Int) ∧ (in0 : Int) ≤ 9223372036854775807 ∧ (1 : Int) * (in0 : Int) ≤ 281474976710656) ∧
(Let (w.heap.size) fun g1 : Nat =>
 Let (w.alloc (.cells (List.replicate in0 (.int .u8 0)).toArray 5)) fun w2 : World =>
 CopyE w2 (some ⟨g1, 0, none⟩) in0 I0 in0 (fun w3 : World =>
 R (.returned (.slice (some ⟨g1, 0, none⟩) in0 in0)) w3)))
theorem tunnel_clone.s_eq (I0 : Option Addr) (in0 : Nat) (ic0 : Nat) (w : World) (R : Ending → World → Prop) : seg Tryd.prog entE tunnel_clone.ords tunnel_clone.joins Tryd.f75 [] [] [] ([.slice I0 in0 ic0] ++ List.replicate (Tryd.f75.ntmps - ([.slice I0 in0 ic0] : List Value).length) undef) w R = tunnel_clone.s I0 in0 ic0 w R := by kernel_rfl
theorem tunnel_clone.run {I0 : Option Addr} {in0 : Nat} {ic0 : Nat} {w : World} {R : Ending → World → Prop} (h : tunnel_clone.s I0 in0 ic0 w R) : Calls Tryd.prog 75 #[.slice I0 in0 ic0] w R :=
  calls_seg ents mixed Tryd.func75 rfl (by rw [tunnel_clone.s_eq]; exact h)
/-! ### tunnel_pseudo: function 74 -/
def tunnel_pseudo.ords : Nat → Od
  | _ => .nil
def tunnel_pseudo.joins (p : List Nat) : Bool := false
def tunnel_pseudo.s (i0 : Int) (i1 : Int) (i2 : Int) (w : World) (R : Ending → World → Prop) : Prop :=
((0 ≤ (12 : Int) ∧ (12 : Int) ≤ (12 : Int) ∧ (12 : Int) ≤ 9223372036854775807 ∧ (1 : Int) * (12 : Int) ≤ 281474976710656) ∧
(Let (w.heap.size) fun g1 : Nat =>
 Let (w.alloc (.cells (List.replicate 12 (.int .u8 0)).toArray 5)) fun w2 : World =>
(0 ≤ (4 : Int) ∧ (4 : Int) ≤ 12) ∧
(0 ≤ (0 : Int) ∧ (0 : Int) ≤ 4) ∧
(Calls Tryd.prog 80 #[.slice (cutA (some ⟨g1, 0, none⟩) 0 12 1) 4 12, .int .u32 i0] w2 (fun (e4 : Ending) (w3 : World) =>
 e4 = .returned (.tuple #[]) ∧
((0 ≤ (8 : Int) ∧ (8 : Int) ≤ 12) ∧
(0 ≤ (4 : Int) ∧ (4 : Int) ≤ 8) ∧
(Calls Tryd.prog 80 #[.slice (cutA (some ⟨g1, 0, none⟩) 4 12 1) 4 8, .int .u32 i1] w3 (fun (e6 : Ending) (w5 : World) =>
 e6 = .returned (.tuple #[]) ∧
(∃ a7 : Addr, some ⟨g1, 0, none⟩ = some a7 ∧ (0 ≤ (9 : Int) ∧ (9 : Int) < 12) ∧
(MayC w5 (a7.add 9) ∧
(Let (w5.setCell (a7.add 9) (.int .u8 17)) fun w8 : World =>
(0 ≤ (12 : Int) ∧ (12 : Int) ≤ 12) ∧
(0 ≤ (10 : Int) ∧ (10 : Int) ≤ 12) ∧
(Let (IntKind.u16.wrap i2) fun x9 : Int =>
 Calls Tryd.prog 81 #[.slice (cutA (some ⟨g1, 0, none⟩) 10 12 1) 2 2, .int .u16 x9] w8 (fun (e11 : Ending) (w10 : World) =>
 e11 = .returned (.tuple #[]) ∧
(R (.returned (.slice (some ⟨g1, 0, none⟩) 12 12)) w10)))))))))))))
theorem tunnel_pseudo.s_eq (i0 : Int) (i1 : Int) (i2 : Int) (w : World) (R : Ending → World → Prop) : seg Tryd.prog entE tunnel_pseudo.ords tunnel_pseudo.joins Tryd.f74 [] [] [] ([.int .u32 i0, .int .u32 i1, .int .i64 i2] ++ List.replicate (Tryd.f74.ntmps - ([.int .u32 i0, .int .u32 i1, .int .i64 i2] : List Value).length) undef) w R = tunnel_pseudo.s i0 i1 i2 w R := by kernel_rfl
theorem tunnel_pseudo.run {i0 : Int} {i1 : Int} {i2 : Int} {w : World} {R : Ending → World → Prop} (h : tunnel_pseudo.s i0 i1 i2 w R) : Calls Tryd.prog 74 #[.int .u32 i0, .int .u32 i1, .int .i64 i2] w R :=
  calls_seg ents mixed Tryd.func74 rfl (by rw [tunnel_pseudo.s_eq]; exact h)
/-! ### tunnel_ParseUDP: function 52 -/
def tunnel_ParseUDP.ords : Nat → Od
  | 11 => (.tk 0 (.tk 1 (.tk 3 (.tk 4 (.tk 6 (.tk 7 (.on 2 (.on 5 (.on 8 (.tk 9 (.on 10 (.tk 11 .nil))))))))))))
  | _ => .nil
def tunnel_ParseUDP.joins (p : List Nat) : Bool := p == [1, 1, 1, 1, 1] || p == [1, 1, 1, 1, 1, 1, 1]
def tunnel_ParseUDP.j1 (y0 : Int) (y1 : Int) (Y2 : Option Addr) (yn2 : Nat) (yc2 : Nat) (yg6 : Nat) (y8 : Int) (d3 d4 d5 d7 d9 d10 d11 d12 d13 d14 d15 d16 d17 d18 d19 d20 d21 d22 d23 d24 d25 d26 d27 d28 d29 d30 d31 d32 d33 d34 d35 d36 d37 d38 d39 d40 d41 d42 d43 d44 d45 d46 d47 d48 d49 d50 d51 d52 d53 d54 d55 d56 d57 : Value) (w : World) (R : Ending → World → Prop) : Prop :=
  seg Tryd.prog entE tunnel_ParseUDP.ords tunnel_ParseUDP.joins Tryd.f52 [1, 1, 1, 1, 1] [1, 1, 1, 1, 1] [] [.int .u32 y0, .int .u32 y1, .slice Y2 yn2 yc2, d3, d4, d5, .pointer (some ⟨yg6, 0, none⟩), d7, .int .i64 y8, d9, d10, d11, d12, d13, d14, d15, d16, d17, d18, d19, d20, d21, d22, d23, d24, d25, d26, d27, d28, d29, d30, d31, d32, d33, d34, d35, d36, d37, d38, d39, d40, d41, d42, d43, d44, d45, d46, d47, d48, d49, d50, d51, d52, d53, d54, d55, d56, d57] w R
def tunnel_ParseUDP.j2 (Y2 : Option Addr) (yn2 : Nat) (yc2 : Nat) (yg6 : Nat) (d0 d1 d3 d4 d5 d7 d8 d9 d10 d11 d12 d13 d14 d15 d16 d17 d18 d19 d20 d21 d22 d23 d24 d25 d26 d27 d28 d29 d30 d31 d32 d33 d34 d35 d36 d37 d38 d39 d40 d41 d42 d43 d44 d45 d46 d47 d48 d49 d50 d51 d52 d53 d54 d55 d56 d57 : Value) (w : World) (R : Ending → World → Prop) : Prop :=
  seg Tryd.prog entE tunnel_ParseUDP.ords tunnel_ParseUDP.joins Tryd.f52 [1, 1, 1, 1, 1, 1, 1] [1, 1, 1, 1, 1, 1, 1] [] [d0, d1, .slice Y2 yn2 yc2, d3, d4, d5, .pointer (some ⟨yg6, 0, none⟩), d7, d8, d9, d10, d11, d12, d13, d14, d15, d16, d17, d18, d19, d20, d21, d22, d23, d24, d25, d26, d27, d28, d29, d30, d31, d32, d33, d34, d35, d36, d37, d38, d39, d40, d41, d42, d43, d44, d45, d46, d47, d48, d49, d50, d51, d52, d53, d54, d55, d56, d57] w R
abbrev tunnel_ParseUDP.J1 (y0 : Int) (y1 : Int) (Y2 : Option Addr) (yn2 : Nat) (yc2 : Nat) (yg6 : Nat) (y8 : Int) (w : World) (R : Ending → World → Prop) : Prop := ∀ d3 d4 d5 d7 d9 d10 d11 d12 d13 d14 d15 d16 d17 d18 d19 d20 d21 d22 d23 d24 d25 d26 d27 d28 d29 d30 d31 d32 d33 d34 d35 d36 d37 d38 d39 d40 d41 d42 d43 d44 d45 d46 d47 d48 d49 d50 d51 d52 d53 d54 d55 d56 d57 : Value, tunnel_ParseUDP.j1 y0 y1 Y2 yn2 yc2 yg6 y8 d3 d4 d5 d7 d9 d10 d11 d12 d13 d14 d15 d16 d17 d18 d19 d20 d21 d22 d23 d24 d25 d26 d27 d28 d29 d30 d31 d32 d33 d34 d35 d36 d37 d38 d39 d40 d41 d42 d43 d44 d45 d46 d47 d48 d49 d50 d51 d52 d53 d54 d55 d56 d57 w R
abbrev tunnel_ParseUDP.J2 (Y2 : Option Addr) (yn2 : Nat) (yc2 : Nat) (yg6 : Nat) (w : World) (R : Ending → World → Prop) : Prop := ∀ d0 d1 d3 d4 d5 d7 d8 d9 d10 d11 d12 d13 d14 d15 d16 d17 d18 d19 d20 d21 d22 d23 d24 d25 d26 d27 d28 d29 d30 d31 d32 d33 d34 d35 d36 d37 d38 d39 d40 d41 d42 d43 d44 d45 d46 d47 d48 d49 d50 d51 d52 d53 d54 d55 d56 d57 : Value, tunnel_ParseUDP.j2 Y2 yn2 yc2 yg6 d0 d1 d3 d4 d5 d7 d8 d9 d10 d11 d12 d13 d14 d15 d16 d17 d18 d19 d20 d21 d22 d23 d24 d25 d26 d27 d28 d29 d30 d31 d32 d33 d34 d35 d36 d37 d38 d39 d40 d41 d42 d43 d44 d45 d46 d47 d48 d49 d50 d51 d52 d53 d54 d55 d56 d57 w R
theorem tunnel_ParseUDP.j1_eq (y0 : Int) (y1 : Int) (Y2 : Option Addr) (yn2 : Nat) (yc2 : Nat) (yg6 : Nat) (y8 : Int) (d3 d4 d5 d7 d9 d10 d11 d12 d13 d14 d15 d16 d17 d18 d19 d20 d21 d22 d23 d24 d25 d26 d27 d28 d29 d30 d31 d32 d33 d34 d35 d36 d37 d38 d39 d40 d41 d42 d43 d44 d45 d46 d47 d48 d49 d50 d51 d52 d53 d54 d55 d56 d57 : Value) (w : World) (R : Ending → World → Prop) : tunnel_ParseUDP.j1 y0 y1 Y2 yn2 yc2 yg6 y8 d3 d4 d5 d7 d9 d10 d11 d12 d13 d14 d15 d16 d17 d18 d19 d20 d21 d22 d23 d24 d25 d26 d27 d28 d29 d30 d31 d32 d33 d34 d35 d36 d37 d38 d39 d40 d41 d42 d43 d44 d45 d46 d47 d48 d49 d50 d51 d52 d53 d54 d55 d56 d57 w R =
((0 ≤ y8 ∧ y8 ≤ (yc2 : Int)) ∧
((0 ≤ (8 : Int) ∧ (8 : Int) ≤ (yc2 : Int)) ∧
(0 ≤ (6 : Int) ∧ (6 : Int) ≤ 8) ∧
(Calls Tryd.prog 73 #[.slice (cutA Y2 6 yc2 1) 2 (yc2 - 6)] w (fun (e2 : Ending) (w1 : World) =>
 ∃ x3 : Int, e2 = .returned (.int .u16 x3) ∧
((if (x3 != 0) = true then
(Calls Tryd.prog 74 #[.int .u32 y0, .int .u32 y1, .int .i64 y8] w1 (fun (e5 : Ending) (w4 : World) =>
 ∃ (A6 : Option Addr) (n6_ c6_ : Nat), e5 = .returned (.slice A6 n6_ c6_) ∧
(Let (w4.heap.size) fun g7 : Nat =>
 Let (w4.alloc (.cells #[.slice A6 n6_ c6_, .slice Y2 y8.toNat yc2] 41)) fun w8 : World =>
 Calls Tryd.prog 50 #[.slice (some ⟨g7, 0, none⟩) 2 2] w8 (fun (e10 : Ending) (w9 : World) =>
 ∃ x11 : Int, e10 = .returned (.int .u16 x11) ∧
((if (x11 != 0) = true then
(May w9 ⟨yg6, 0, none⟩ 3 ∧
(Let (putCells w9 ⟨yg6, 0, none⟩ [.int .u16 0, .int .u16 0, .slice none 0 0] 0) fun w12 : World =>
 ∃ x13 : Int, ∃ x14 : Int, ∃ (A15 : Option Addr) (n15_ c15_ : Nat), (3 = 3 ∧ At w12 ⟨yg6, 0, none⟩ [.int .u16 x13, .int .u16 x14, .slice A15 n15_ c15_]) ∧
(R (.returned (.tuple #[.agg #[.int .u16 x13, .int .u16 x14, .slice A15 n15_ c15_], .int .i64 73])) w12)))
else
(Leaf (tunnel_ParseUDP.j2 Y2 y8.toNat yc2 yg6 (.int .u32 y0) (.int .u32 y1) d3 d4 d5 d7 (.int .i64 y8) d9 d10 d11 d12 d13 d14 d15 d16 d17 d18 d19 d20 d21 d22 d23 d24 d25 d26 d27 d28 d29 (.slice Y2 yn2 yc2) (.int .i64 y8) (.slice Y2 y8.toNat yc2) (.slice Y2 y8.toNat yc2) (.slice (cutA Y2 6 yc2 1) 2 (yc2 - 6)) (.int .u16 x3) (.bool (x3 != 0)) (.bool true) (.int .u32 y0) (.int .u32 y1) (.int .i64 y8) (.slice A6 n6_ c6_) (.slice Y2 y8.toNat yc2) (.slice (some ⟨g7, 0, none⟩) 2 2) (.int .u16 x11) (.bool (x11 != 0)) (.bool (x11 != 0)) d47 d48 d49 d50 d51 d52 d53 d54 d55 d56 d57 w9 R))))))))
else
(Leaf (tunnel_ParseUDP.j2 Y2 y8.toNat yc2 yg6 (.int .u32 y0) (.int .u32 y1) d3 d4 d5 d7 (.int .i64 y8) d9 d10 d11 d12 d13 d14 d15 d16 d17 d18 d19 d20 d21 d22 d23 d24 d25 d26 d27 d28 d29 (.slice Y2 yn2 yc2) (.int .i64 y8) (.slice Y2 y8.toNat yc2) (.slice Y2 y8.toNat yc2) (.slice (cutA Y2 6 yc2 1) 2 (yc2 - 6)) (.int .u16 x3) (.bool (x3 != 0)) (.bool false) undef undef undef undef undef undef undef undef (.bool false) d47 d48 d49 d50 d51 d52 d53 d54 d55 d56 d57 w1 R)))))))) := by kernel_rfl
theorem tunnel_ParseUDP.j2_eq (Y2 : Option Addr) (yn2 : Nat) (yc2 : Nat) (yg6 : Nat) (d0 d1 d3 d4 d5 d7 d8 d9 d10 d11 d12 d13 d14 d15 d16 d17 d18 d19 d20 d21 d22 d23 d24 d25 d26 d27 d28 d29 d30 d31 d32 d33 d34 d35 d36 d37 d38 d39 d40 d41 d42 d43 d44 d45 d46 d47 d48 d49 d50 d51 d52 d53 d54 d55 d56 d57 : Value) (w : World) (R : Ending → World → Prop) : tunnel_ParseUDP.j2 Y2 yn2 yc2 yg6 d0 d1 d3 d4 d5 d7 d8 d9 d10 d11 d12 d13 d14 d15 d16 d17 d18 d19 d20 d21 d22 d23 d24 d25 d26 d27 d28 d29 d30 d31 d32 d33 d34 d35 d36 d37 d38 d39 d40 d41 d42 d43 d44 d45 d46 d47 d48 d49 d50 d51 d52 d53 d54 d55 d56 d57 w R =
(∃ S1 : World → Prop, S1 w.drew ∧
(Let (w.drew) fun w2 : World =>
(0 ≤ (2 : Int) ∧ (2 : Int) ≤ (yc2 : Int)) ∧
(0 ≤ (0 : Int) ∧ (0 : Int) ≤ 2) ∧
((0 ≤ (4 : Int) ∧ (4 : Int) ≤ (yc2 : Int)) ∧
(0 ≤ (2 : Int) ∧ (2 : Int) ≤ 4) ∧
((0 ≤ (8 : Int) ∧ (8 : Int) ≤ (yn2 : Int)) ∧
(Calls Tryd.prog 73 #[.slice (cutA Y2 0 yc2 1) 2 (yc2 - 0)] w2 (fun (e4 : Ending) (w3 : World) =>
 ∃ x5 : Int, e4 = .returned (.int .u16 x5) ∧
(S1 w3 ∧
(Calls Tryd.prog 73 #[.slice (cutA Y2 2 yc2 1) 2 (yc2 - 2)] w3 (fun (e7 : Ending) (w6 : World) =>
 ∃ x8 : Int, e7 = .returned (.int .u16 x8) ∧
(S1 w6 ∧
(Calls Tryd.prog 75 #[.slice (cutA Y2 8 yc2 1) (yn2 - 8) (yc2 - 8)] w6 (fun (e10 : Ending) (w9 : World) =>
 ∃ (A11 : Option Addr) (n11_ c11_ : Nat), e10 = .returned (.slice A11 n11_ c11_) ∧
(S1 w9 ∧
(May w9 ⟨yg6, 0, none⟩ 3 ∧
(Let (putCells w9 ⟨yg6, 0, none⟩ [.int .u16 x5, .int .u16 x8, .slice A11 n11_ c11_] 0) fun w12 : World =>
 S1 w12 ∧
(∃ x13 : Int, ∃ x14 : Int, ∃ (A15 : Option Addr) (n15_ c15_ : Nat), (3 = 3 ∧ At w12 ⟨yg6, 0, none⟩ [.int .u16 x13, .int .u16 x14, .slice A15 n15_ c15_]) ∧
(R (.returned (.tuple #[.agg #[.int .u16 x13, .int .u16 x14, .slice A15 n15_ c15_], .int .i64 0])) w12))))))))))))))))) := by kernel_rfl
def tunnel_ParseUDP.s (i0 : Int) (i1 : Int) (I2 : Option Addr) (in2 : Nat) (ic2 : Nat) (w : World) (R : Ending → World → Prop) : Prop :=
(Let (w.heap.size) fun g1 : Nat =>
 Let (w.alloc (.cells #[.int .u16 0, .int .u16 0, .slice none 0 0] 111)) fun w2 : World =>
(if decide ((in2 : Int) > 65535) = true then
(May w2 ⟨g1, 0, none⟩ 3 ∧
(Let (putCells w2 ⟨g1, 0, none⟩ [.int .u16 0, .int .u16 0, .slice none 0 0] 0) fun w3 : World =>
 ∃ x4 : Int, ∃ x5 : Int, ∃ (A6 : Option Addr) (n6_ c6_ : Nat), (3 = 3 ∧ At w3 ⟨g1, 0, none⟩ [.int .u16 x4, .int .u16 x5, .slice A6 n6_ c6_]) ∧
(R (.returned (.tuple #[.agg #[.int .u16 x4, .int .u16 x5, .slice A6 n6_ c6_], .int .i64 2])) w3)))
else
((if decide ((in2 : Int) < 8) = true then
(May w2 ⟨g1, 0, none⟩ 3 ∧
(Let (putCells w2 ⟨g1, 0, none⟩ [.int .u16 0, .int .u16 0, .slice none 0 0] 0) fun w7 : World =>
 ∃ x8 : Int, ∃ x9 : Int, ∃ (A10 : Option Addr) (n10_ c10_ : Nat), (3 = 3 ∧ At w7 ⟨g1, 0, none⟩ [.int .u16 x8, .int .u16 x9, .slice A10 n10_ c10_]) ∧
(R (.returned (.tuple #[.agg #[.int .u16 x8, .int .u16 x9, .slice A10 n10_ c10_], .int .i64 72])) w7)))
else
((0 ≤ (6 : Int) ∧ (6 : Int) ≤ (ic2 : Int)) ∧
(0 ≤ (4 : Int) ∧ (4 : Int) ≤ 6) ∧
(Calls Tryd.prog 73 #[.slice (cutA I2 4 ic2 1) 2 (ic2 - 4)] w2 (fun (e12 : Ending) (w11 : World) =>
 ∃ x13 : Int, e12 = .returned (.int .u16 x13) ∧
(Let (IntKind.i64.wrap x13) fun x14 : Int =>
(if decide (x14 < 8) = true then
(May w11 ⟨g1, 0, none⟩ 3 ∧
(Let (putCells w11 ⟨g1, 0, none⟩ [.int .u16 0, .int .u16 0, .slice none 0 0] 0) fun w15 : World =>
 ∃ x16 : Int, ∃ x17 : Int, ∃ (A18 : Option Addr) (n18_ c18_ : Nat), (3 = 3 ∧ At w15 ⟨g1, 0, none⟩ [.int .u16 x16, .int .u16 x17, .slice A18 n18_ c18_]) ∧
(R (.returned (.tuple #[.agg #[.int .u16 x16, .int .u16 x17, .slice A18 n18_ c18_], .int .i64 72])) w15)))
else
((if decide (x14 > (in2 : Int)) = true then
(May w11 ⟨g1, 0, none⟩ 3 ∧
(Let (putCells w11 ⟨g1, 0, none⟩ [.int .u16 0, .int .u16 0, .slice none 0 0] 0) fun w19 : World =>
 ∃ x20 : Int, ∃ x21 : Int, ∃ (A22 : Option Addr) (n22_ c22_ : Nat), (3 = 3 ∧ At w19 ⟨g1, 0, none⟩ [.int .u16 x20, .int .u16 x21, .slice A22 n22_ c22_]) ∧
(R (.returned (.tuple #[.agg #[.int .u16 x20, .int .u16 x21, .slice A22 n22_ c22_], .int .i64 72])) w19)))
else
(Leaf (tunnel_ParseUDP.j1 i0 i1 I2 in2 ic2 g1 x14 undef undef undef (.int .i64 0) (.slice I2 in2 ic2) (.int .i64 (in2 : Int)) (.bool (decide ((in2 : Int) > 65535))) undef (.slice I2 in2 ic2) (.int .i64 (in2 : Int)) (.bool (decide ((in2 : Int) < 8))) undef (.slice I2 in2 ic2) (.slice (cutA I2 4 ic2 1) 2 (ic2 - 4)) (.int .u16 x13) (.int .i64 x14) (.int .i64 x14) (.bool (decide (x14 < 8))) (.bool false) (.int .i64 x14) (.slice I2 in2 ic2) (.int .i64 (in2 : Int)) (.bool (decide (x14 > (in2 : Int)))) (.bool (decide (x14 > (in2 : Int)))) undef undef undef undef undef undef undef undef undef undef undef undef undef undef undef undef undef undef undef undef undef undef undef undef undef undef undef undef undef w11 R)))))))))))))
theorem tunnel_ParseUDP.s_eq (i0 : Int) (i1 : Int) (I2 : Option Addr) (in2 : Nat) (ic2 : Nat) (w : World) (R : Ending → World → Prop) : seg Tryd.prog entE tunnel_ParseUDP.ords tunnel_ParseUDP.joins Tryd.f52 [] [] [] ([.int .u32 i0, .int .u32 i1, .slice I2 in2 ic2] ++ List.replicate (Tryd.f52.ntmps - ([.int .u32 i0, .int .u32 i1, .slice I2 in2 ic2] : List Value).length) undef) w R = tunnel_ParseUDP.s i0 i1 I2 in2 ic2 w R := by kernel_rfl
theorem tunnel_ParseUDP.run {i0 : Int} {i1 : Int} {I2 : Option Addr} {in2 : Nat} {ic2 : Nat} {w : World} {R : Ending → World → Prop} (h : tunnel_ParseUDP.s i0 i1 I2 in2 ic2 w R) : Calls Tryd.prog 52 #[.int .u32 i0, .int .u32 i1, .slice I2 in2 ic2] w R :=
  calls_seg ents mixed Tryd.func52 rfl (by rw [tunnel_ParseUDP.s_eq]; exact h)
end Go.Proofs.YtphbdmafchjjeaaDoorS
