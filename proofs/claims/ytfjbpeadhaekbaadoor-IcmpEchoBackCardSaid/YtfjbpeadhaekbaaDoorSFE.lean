/- What functions of the program come to, told by a program of this session out of the translation; the kernel computes each statement out of the code.
   Conditions: none. -/
import Derived.Test.YtfjbpeadhaekbaaDoorSBase
namespace Go.Proofs.YtfjbpeadhaekbaaDoorS
open Go Go.Proofs
set_option maxRecDepth 100000
set_option linter.unusedVariables false
/-! ### weftlaw6_same: function 42 -/
def weftlaw6_same.ords : Nat → List (Nat × Bool)
  | 6 => [(0, true), (1, true), (2, true), (3, true), (4, true), (5, true), (6, true), (7, true), (8, true)]
  | _ => []
def weftlaw6_same.joins (p : List Nat) : Bool := false
def weftlaw6_same.l1 (n : Nat) (Y0 : Option Addr) (yn0 : Nat) (yc0 : Nat) (Y1 : Option Addr) (yn1 : Nat) (yc1 : Nat) (y5 : Int) (d2 d3 d4 d6 d7 d8 d9 d10 d11 d12 d13 d14 d15 d16 d17 d18 d19 d20 d21 d22 d23 d24 d25 : Value) (w : World) (R : Ending → World → Prop) : Prop :=
  lseg Tryd.prog entE weftlaw6_same.ords weftlaw6_same.joins Tryd.f42 [1, 1, 0, 1, 0] [0, 1, 0, 1, 1] [] n [.slice Y0 yn0 yc0, .slice Y1 yn1 yc1, d2, d3, d4, .int .i64 y5, d6, d7, d8, d9, d10, d11, d12, d13, d14, d15, d16, d17, d18, d19, d20, d21, d22, d23, d24, d25] w R
abbrev weftlaw6_same.L1 (n : Nat) (Y0 : Option Addr) (yn0 : Nat) (yc0 : Nat) (Y1 : Option Addr) (yn1 : Nat) (yc1 : Nat) (y5 : Int) (w : World) (R : Ending → World → Prop) : Prop := ∀ d2 d3 d4 d6 d7 d8 d9 d10 d11 d12 d13 d14 d15 d16 d17 d18 d19 d20 d21 d22 d23 d24 d25 : Value, weftlaw6_same.l1 n Y0 yn0 yc0 Y1 yn1 yc1 y5 d2 d3 d4 d6 d7 d8 d9 d10 d11 d12 d13 d14 d15 d16 d17 d18 d19 d20 d21 d22 d23 d24 d25 w R
theorem weftlaw6_same.l1_eq (n : Nat) (Y0 : Option Addr) (yn0 : Nat) (yc0 : Nat) (Y1 : Option Addr) (yn1 : Nat) (yc1 : Nat) (y5 : Int) (d2 d3 d4 d6 d7 d8 d9 d10 d11 d12 d13 d14 d15 d16 d17 d18 d19 d20 d21 d22 d23 d24 d25 : Value) (w : World) (R : Ending → World → Prop) : weftlaw6_same.l1 (n + 1) Y0 yn0 yc0 Y1 yn1 yc1 y5 d2 d3 d4 d6 d7 d8 d9 d10 d11 d12 d13 d14 d15 d16 d17 d18 d19 d20 d21 d22 d23 d24 d25 w R =
((if decide (y5 < (yn0 : Int)) = true then
(∃ S1 : World → Prop, S1 w.drew ∧
(Let (w.drew) fun w2 : World =>
 ∃ a3 : Addr, Y0 = some a3 ∧ (0 ≤ y5 ∧ y5 < (yn0 : Int)) ∧
(∃ x4 : Int, (∀ w', S1 w' → w'.cell? (a3.add y5.toNat) = some (.int .u8 x4)) ∧
(∃ a5 : Addr, Y1 = some a5 ∧ (0 ≤ y5 ∧ y5 < (yn1 : Int)) ∧
(∃ x6 : Int, (∀ w', S1 w' → w'.cell? (a5.add y5.toNat) = some (.int .u8 x6)) ∧
((if (x4 != x6) = true then
(R (.returned (.bool false)) w2)
else
(Let (IntKind.i64.wrap (y5 + 1)) fun x7 : Int =>
 weftlaw6_same.l1 n Y0 yn0 yc0 Y1 yn1 yc1 x7 d2 d3 d4 d6 d7 d8 d9 d10 (.int .i64 y5) (.slice Y0 yn0 yc0) (.int .i64 (yn0 : Int)) (.bool (decide (y5 < (yn0 : Int)))) (.int .i64 y5) (.int .i64 x7) (.slice Y0 yn0 yc0) (.int .i64 y5) (.pointer (some (a3.add y5.toNat))) (.int .u8 x4) (.slice Y1 yn1 yc1) (.int .i64 y5) (.pointer (some (a5.add y5.toNat))) (.int .u8 x6) (.bool (x4 != x6)) w2 R))))))))
else
(R (.returned (.bool true)) w))) := by kernel_rfl
def weftlaw6_same.s (I0 : Option Addr) (in0 : Nat) (ic0 : Nat) (I1 : Option Addr) (in1 : Nat) (ic1 : Nat) (w : World) (R : Ending → World → Prop) : Prop :=
((if ((in0 : Int) != (in1 : Int)) = true then
(R (.returned (.bool false)) w)
else
(∃ n1 : Nat, weftlaw6_same.l1 n1 I0 in0 ic0 I1 in1 ic1 0 undef undef (.bool false) (.slice I0 in0 ic0) (.int .i64 (in0 : Int)) (.slice I1 in1 ic1) (.int .i64 (in1 : Int)) (.bool ((in0 : Int) != (in1 : Int))) undef undef undef undef undef undef undef undef undef undef undef undef undef undef undef w R)))
theorem weftlaw6_same.s_eq (I0 : Option Addr) (in0 : Nat) (ic0 : Nat) (I1 : Option Addr) (in1 : Nat) (ic1 : Nat) (w : World) (R : Ending → World → Prop) : seg Tryd.prog entE weftlaw6_same.ords weftlaw6_same.joins Tryd.f42 [] [] [] ([.slice I0 in0 ic0, .slice I1 in1 ic1] ++ List.replicate (Tryd.f42.ntmps - ([.slice I0 in0 ic0, .slice I1 in1 ic1] : List Value).length) undef) w R = weftlaw6_same.s I0 in0 ic0 I1 in1 ic1 w R := by kernel_rfl
theorem weftlaw6_same.run {I0 : Option Addr} {in0 : Nat} {ic0 : Nat} {I1 : Option Addr} {in1 : Nat} {ic1 : Nat} {w : World} {R : Ending → World → Prop} (h : weftlaw6_same.s I0 in0 ic0 I1 in1 ic1 w R) : Calls Tryd.prog 42 #[.slice I0 in0 ic0, .slice I1 in1 ic1] w R :=
  calls_seg ents mixed Tryd.func42 rfl (by rw [weftlaw6_same.s_eq]; exact h)
/-! ### weftlaw6_controls: function 56 -/
def weftlaw6_controls.ords : Nat → List (Nat × Bool)
  | _ => []
def weftlaw6_controls.joins (p : List Nat) : Bool := false
def weftlaw6_controls.s (i0_0 : Int) (i0_1 : Int) (i0_2 : Int) (I0_3 : Option Addr) (in0_3 : Nat) (ic0_3 : Nat) (i1_0 : Int) (i1_1 : Int) (i1_2 : Int) (I1_3 : Option Addr) (in1_3 : Nat) (ic1_3 : Nat) (w : World) (R : Ending → World → Prop) : Prop :=
(Let (w.heap.size) fun g1 : Nat =>
 Let (w.alloc (.cells #[.int .u8 i0_0, .int .u8 i0_1, .int .u32 i0_2, .slice I0_3 in0_3 ic0_3] 40)) fun w2 : World =>
 Let (w2.heap.size) fun g3 : Nat =>
 Let (w2.alloc (.cells #[.int .u8 i1_0, .int .u8 i1_1, .int .u32 i1_2, .slice I1_3 in1_3 ic1_3] 40)) fun w4 : World =>
 ∃ x5 : Int, w4.cell? ⟨g1, 0, none⟩ = some (.int .u8 x5) ∧
(∃ x6 : Int, w4.cell? ⟨g3, 0, none⟩ = some (.int .u8 x6) ∧
((if (x5 == x6) = true then
(∃ x7 : Int, w4.cell? ⟨g1, 1, none⟩ = some (.int .u8 x7) ∧
(∃ x8 : Int, w4.cell? ⟨g3, 1, none⟩ = some (.int .u8 x8) ∧
((if (x7 == x8) = true then
(∃ x9 : Int, w4.cell? ⟨g1, 2, none⟩ = some (.int .u32 x9) ∧
(∃ x10 : Int, w4.cell? ⟨g3, 2, none⟩ = some (.int .u32 x10) ∧
((if (x9 == x10) = true then
(∃ (A11 : Option Addr) (n11_ c11_ : Nat), w4.cell? ⟨g1, 3, none⟩ = some (.slice A11 n11_ c11_) ∧
(∃ (A12 : Option Addr) (n12_ c12_ : Nat), w4.cell? ⟨g3, 3, none⟩ = some (.slice A12 n12_ c12_) ∧
(Calls Tryd.prog 42 #[.slice A11 n11_ c11_, .slice A12 n12_ c12_] w4 (fun (e14 : Ending) (w13 : World) =>
 ∃ b15 : Bool, e14 = .returned (.bool b15) ∧
(R (.returned (.bool b15)) w13)))))
else
(R (.returned (.bool false)) w4)))))
else
(R (.returned (.bool false)) w4)))))
else
(R (.returned (.bool false)) w4)))))
theorem weftlaw6_controls.s_eq (i0_0 : Int) (i0_1 : Int) (i0_2 : Int) (I0_3 : Option Addr) (in0_3 : Nat) (ic0_3 : Nat) (i1_0 : Int) (i1_1 : Int) (i1_2 : Int) (I1_3 : Option Addr) (in1_3 : Nat) (ic1_3 : Nat) (w : World) (R : Ending → World → Prop) : seg Tryd.prog entE weftlaw6_controls.ords weftlaw6_controls.joins Tryd.f56 [] [] [] ([.agg #[.int .u8 i0_0, .int .u8 i0_1, .int .u32 i0_2, .slice I0_3 in0_3 ic0_3], .agg #[.int .u8 i1_0, .int .u8 i1_1, .int .u32 i1_2, .slice I1_3 in1_3 ic1_3]] ++ List.replicate (Tryd.f56.ntmps - ([.agg #[.int .u8 i0_0, .int .u8 i0_1, .int .u32 i0_2, .slice I0_3 in0_3 ic0_3], .agg #[.int .u8 i1_0, .int .u8 i1_1, .int .u32 i1_2, .slice I1_3 in1_3 ic1_3]] : List Value).length) undef) w R = weftlaw6_controls.s i0_0 i0_1 i0_2 I0_3 in0_3 ic0_3 i1_0 i1_1 i1_2 I1_3 in1_3 ic1_3 w R := by kernel_rfl
theorem weftlaw6_controls.run {i0_0 : Int} {i0_1 : Int} {i0_2 : Int} {I0_3 : Option Addr} {in0_3 : Nat} {ic0_3 : Nat} {i1_0 : Int} {i1_1 : Int} {i1_2 : Int} {I1_3 : Option Addr} {in1_3 : Nat} {ic1_3 : Nat} {w : World} {R : Ending → World → Prop} (h : weftlaw6_controls.s i0_0 i0_1 i0_2 I0_3 in0_3 ic0_3 i1_0 i1_1 i1_2 I1_3 in1_3 ic1_3 w R) : Calls Tryd.prog 56 #[.agg #[.int .u8 i0_0, .int .u8 i0_1, .int .u32 i0_2, .slice I0_3 in0_3 ic0_3], .agg #[.int .u8 i1_0, .int .u8 i1_1, .int .u32 i1_2, .slice I1_3 in1_3 ic1_3]] w R :=
  calls_seg ents mixed Tryd.func56 rfl (by rw [weftlaw6_controls.s_eq]; exact h)
/-! ### weftlaw6_packets: function 32 -/
def weftlaw6_packets.ords : Nat → List (Nat × Bool)
  | _ => []
def weftlaw6_packets.joins (p : List Nat) : Bool := false
def weftlaw6_packets.s (i0_0 : Int) (i0_1 : Int) (i0_2 : Bool) (i0_3 : Bool) (i0_4 : Int) (i0_5 : Int) (i0_6 : Int) (i0_7 : Int) (i0_8 : Int) (I0_9 : Option Addr) (in0_9 : Nat) (ic0_9 : Nat) (I0_10 : Option Addr) (in0_10 : Nat) (ic0_10 : Nat) (i1_0 : Int) (i1_1 : Int) (i1_2 : Bool) (i1_3 : Bool) (i1_4 : Int) (i1_5 : Int) (i1_6 : Int) (i1_7 : Int) (i1_8 : Int) (I1_9 : Option Addr) (in1_9 : Nat) (ic1_9 : Nat) (I1_10 : Option Addr) (in1_10 : Nat) (ic1_10 : Nat) (w : World) (R : Ending → World → Prop) : Prop :=
(Let (w.heap.size) fun g1 : Nat =>
 Let (w.alloc (.cells #[.int .u8 i0_0, .int .u16 i0_1, .bool i0_2, .bool i0_3, .int .i64 i0_4, .int .u8 i0_5, .int .u8 i0_6, .int .u32 i0_7, .int .u32 i0_8, .slice I0_9 in0_9 ic0_9, .slice I0_10 in0_10 ic0_10] 29)) fun w2 : World =>
 Let (w2.heap.size) fun g3 : Nat =>
 Let (w2.alloc (.cells #[.int .u8 i1_0, .int .u16 i1_1, .bool i1_2, .bool i1_3, .int .i64 i1_4, .int .u8 i1_5, .int .u8 i1_6, .int .u32 i1_7, .int .u32 i1_8, .slice I1_9 in1_9 ic1_9, .slice I1_10 in1_10 ic1_10] 29)) fun w4 : World =>
 ∃ x5 : Int, ∃ x6 : Int, ∃ b7 : Bool, ∃ b8 : Bool, ∃ x9 : Int, ∃ x10 : Int, ∃ x11 : Int, ∃ x12 : Int, ∃ x13 : Int, ∃ (A14 : Option Addr) (n14_ c14_ : Nat), (10 = 10 ∧ At w4 ⟨g1, 0, none⟩ [.int .u8 x5, .int .u16 x6, .bool b7, .bool b8, .int .i64 x9, .int .u8 x10, .int .u8 x11, .int .u32 x12, .int .u32 x13, .slice A14 n14_ c14_]) ∧
(∃ x15 : Int, ∃ x16 : Int, ∃ b17 : Bool, ∃ b18 : Bool, ∃ x19 : Int, ∃ x20 : Int, ∃ x21 : Int, ∃ x22 : Int, ∃ x23 : Int, ∃ (A24 : Option Addr) (n24_ c24_ : Nat), (10 = 10 ∧ At w4 ⟨g3, 0, none⟩ [.int .u8 x15, .int .u16 x16, .bool b17, .bool b18, .int .i64 x19, .int .u8 x20, .int .u8 x21, .int .u32 x22, .int .u32 x23, .slice A24 n24_ c24_]) ∧
(Calls Tryd.prog 41 #[.agg #[.int .u8 x5, .int .u16 x6, .bool b7, .bool b8, .int .i64 x9, .int .u8 x10, .int .u8 x11, .int .u32 x12, .int .u32 x13, .slice A14 n14_ c14_], .agg #[.int .u8 x15, .int .u16 x16, .bool b17, .bool b18, .int .i64 x19, .int .u8 x20, .int .u8 x21, .int .u32 x22, .int .u32 x23, .slice A24 n24_ c24_]] w4 (fun (e26 : Ending) (w25 : World) =>
 ∃ b27 : Bool, e26 = .returned (.bool b27) ∧
((if b27 = true then
(∃ (A28 : Option Addr) (n28_ c28_ : Nat), w25.cell? ⟨g1, 10, none⟩ = some (.slice A28 n28_ c28_) ∧
(∃ (A29 : Option Addr) (n29_ c29_ : Nat), w25.cell? ⟨g3, 10, none⟩ = some (.slice A29 n29_ c29_) ∧
(Calls Tryd.prog 42 #[.slice A28 n28_ c28_, .slice A29 n29_ c29_] w25 (fun (e31 : Ending) (w30 : World) =>
 ∃ b32 : Bool, e31 = .returned (.bool b32) ∧
(R (.returned (.bool b32)) w30)))))
else
(R (.returned (.bool false)) w25)))))))
theorem weftlaw6_packets.s_eq (i0_0 : Int) (i0_1 : Int) (i0_2 : Bool) (i0_3 : Bool) (i0_4 : Int) (i0_5 : Int) (i0_6 : Int) (i0_7 : Int) (i0_8 : Int) (I0_9 : Option Addr) (in0_9 : Nat) (ic0_9 : Nat) (I0_10 : Option Addr) (in0_10 : Nat) (ic0_10 : Nat) (i1_0 : Int) (i1_1 : Int) (i1_2 : Bool) (i1_3 : Bool) (i1_4 : Int) (i1_5 : Int) (i1_6 : Int) (i1_7 : Int) (i1_8 : Int) (I1_9 : Option Addr) (in1_9 : Nat) (ic1_9 : Nat) (I1_10 : Option Addr) (in1_10 : Nat) (ic1_10 : Nat) (w : World) (R : Ending → World → Prop) : seg Tryd.prog entE weftlaw6_packets.ords weftlaw6_packets.joins Tryd.f32 [] [] [] ([.agg #[.int .u8 i0_0, .int .u16 i0_1, .bool i0_2, .bool i0_3, .int .i64 i0_4, .int .u8 i0_5, .int .u8 i0_6, .int .u32 i0_7, .int .u32 i0_8, .slice I0_9 in0_9 ic0_9, .slice I0_10 in0_10 ic0_10], .agg #[.int .u8 i1_0, .int .u16 i1_1, .bool i1_2, .bool i1_3, .int .i64 i1_4, .int .u8 i1_5, .int .u8 i1_6, .int .u32 i1_7, .int .u32 i1_8, .slice I1_9 in1_9 ic1_9, .slice I1_10 in1_10 ic1_10]] ++ List.replicate (Tryd.f32.ntmps - ([.agg #[.int .u8 i0_0, .int .u16 i0_1, .bool i0_2, .bool i0_3, .int .i64 i0_4, .int .u8 i0_5, .int .u8 i0_6, .int .u32 i0_7, .int .u32 i0_8, .slice I0_9 in0_9 ic0_9, .slice I0_10 in0_10 ic0_10], .agg #[.int .u8 i1_0, .int .u16 i1_1, .bool i1_2, .bool i1_3, .int .i64 i1_4, .int .u8 i1_5, .int .u8 i1_6, .int .u32 i1_7, .int .u32 i1_8, .slice I1_9 in1_9 ic1_9, .slice I1_10 in1_10 ic1_10]] : List Value).length) undef) w R = weftlaw6_packets.s i0_0 i0_1 i0_2 i0_3 i0_4 i0_5 i0_6 i0_7 i0_8 I0_9 in0_9 ic0_9 I0_10 in0_10 ic0_10 i1_0 i1_1 i1_2 i1_3 i1_4 i1_5 i1_6 i1_7 i1_8 I1_9 in1_9 ic1_9 I1_10 in1_10 ic1_10 w R := by kernel_rfl
theorem weftlaw6_packets.run {i0_0 : Int} {i0_1 : Int} {i0_2 : Bool} {i0_3 : Bool} {i0_4 : Int} {i0_5 : Int} {i0_6 : Int} {i0_7 : Int} {i0_8 : Int} {I0_9 : Option Addr} {in0_9 : Nat} {ic0_9 : Nat} {I0_10 : Option Addr} {in0_10 : Nat} {ic0_10 : Nat} {i1_0 : Int} {i1_1 : Int} {i1_2 : Bool} {i1_3 : Bool} {i1_4 : Int} {i1_5 : Int} {i1_6 : Int} {i1_7 : Int} {i1_8 : Int} {I1_9 : Option Addr} {in1_9 : Nat} {ic1_9 : Nat} {I1_10 : Option Addr} {in1_10 : Nat} {ic1_10 : Nat} {w : World} {R : Ending → World → Prop} (h : weftlaw6_packets.s i0_0 i0_1 i0_2 i0_3 i0_4 i0_5 i0_6 i0_7 i0_8 I0_9 in0_9 ic0_9 I0_10 in0_10 ic0_10 i1_0 i1_1 i1_2 i1_3 i1_4 i1_5 i1_6 i1_7 i1_8 I1_9 in1_9 ic1_9 I1_10 in1_10 ic1_10 w R) : Calls Tryd.prog 32 #[.agg #[.int .u8 i0_0, .int .u16 i0_1, .bool i0_2, .bool i0_3, .int .i64 i0_4, .int .u8 i0_5, .int .u8 i0_6, .int .u32 i0_7, .int .u32 i0_8, .slice I0_9 in0_9 ic0_9, .slice I0_10 in0_10 ic0_10], .agg #[.int .u8 i1_0, .int .u16 i1_1, .bool i1_2, .bool i1_3, .int .i64 i1_4, .int .u8 i1_5, .int .u8 i1_6, .int .u32 i1_7, .int .u32 i1_8, .slice I1_9 in1_9 ic1_9, .slice I1_10 in1_10 ic1_10]] w R :=
  calls_seg ents mixed Tryd.func32 rfl (by rw [weftlaw6_packets.s_eq]; exact h)
/-! ### weftlaw6_heads: function 41 -/
def weftlaw6_heads.ords : Nat → List (Nat × Bool)
  | _ => []
def weftlaw6_heads.joins (p : List Nat) : Bool := p == [1, 1]
def weftlaw6_heads.j1 (yg2 : Nat) (yg3 : Nat) (d0 d1 d4 d5 d6 d7 d8 d9 d10 d11 d12 d13 d14 d15 d16 d17 d18 d19 d20 d21 d22 d23 d24 d25 d26 d27 d28 d29 d30 d31 d32 d33 d34 d35 d36 d37 d38 d39 d40 d41 d42 d43 d44 d45 d46 d47 d48 d49 d50 d51 d52 d53 d54 d55 d56 d57 d58 d59 d60 d61 d62 d63 d64 d65 d66 d67 d68 d69 d70 : Value) (w : World) (R : Ending → World → Prop) : Prop :=
  seg Tryd.prog entE weftlaw6_heads.ords weftlaw6_heads.joins Tryd.f41 [1, 1] [1, 1] [] [d0, d1, .pointer (some ⟨yg2, 0, none⟩), .pointer (some ⟨yg3, 0, none⟩), d4, d5, d6, d7, d8, d9, d10, d11, d12, d13, d14, d15, d16, d17, d18, d19, d20, d21, d22, d23, d24, d25, d26, d27, d28, d29, d30, d31, d32, d33, d34, d35, d36, d37, d38, d39, d40, d41, d42, d43, d44, d45, d46, d47, d48, d49, d50, d51, d52, d53, d54, d55, d56, d57, d58, d59, d60, d61, d62, d63, d64, d65, d66, d67, d68, d69, d70] w R
abbrev weftlaw6_heads.J1 (yg2 : Nat) (yg3 : Nat) (w : World) (R : Ending → World → Prop) : Prop := ∀ d0 d1 d4 d5 d6 d7 d8 d9 d10 d11 d12 d13 d14 d15 d16 d17 d18 d19 d20 d21 d22 d23 d24 d25 d26 d27 d28 d29 d30 d31 d32 d33 d34 d35 d36 d37 d38 d39 d40 d41 d42 d43 d44 d45 d46 d47 d48 d49 d50 d51 d52 d53 d54 d55 d56 d57 d58 d59 d60 d61 d62 d63 d64 d65 d66 d67 d68 d69 d70 : Value, weftlaw6_heads.j1 yg2 yg3 d0 d1 d4 d5 d6 d7 d8 d9 d10 d11 d12 d13 d14 d15 d16 d17 d18 d19 d20 d21 d22 d23 d24 d25 d26 d27 d28 d29 d30 d31 d32 d33 d34 d35 d36 d37 d38 d39 d40 d41 d42 d43 d44 d45 d46 d47 d48 d49 d50 d51 d52 d53 d54 d55 d56 d57 d58 d59 d60 d61 d62 d63 d64 d65 d66 d67 d68 d69 d70 w R
theorem weftlaw6_heads.j1_eq (yg2 : Nat) (yg3 : Nat) (d0 d1 d4 d5 d6 d7 d8 d9 d10 d11 d12 d13 d14 d15 d16 d17 d18 d19 d20 d21 d22 d23 d24 d25 d26 d27 d28 d29 d30 d31 d32 d33 d34 d35 d36 d37 d38 d39 d40 d41 d42 d43 d44 d45 d46 d47 d48 d49 d50 d51 d52 d53 d54 d55 d56 d57 d58 d59 d60 d61 d62 d63 d64 d65 d66 d67 d68 d69 d70 : Value) (w : World) (R : Ending → World → Prop) : weftlaw6_heads.j1 yg2 yg3 d0 d1 d4 d5 d6 d7 d8 d9 d10 d11 d12 d13 d14 d15 d16 d17 d18 d19 d20 d21 d22 d23 d24 d25 d26 d27 d28 d29 d30 d31 d32 d33 d34 d35 d36 d37 d38 d39 d40 d41 d42 d43 d44 d45 d46 d47 d48 d49 d50 d51 d52 d53 d54 d55 d56 d57 d58 d59 d60 d61 d62 d63 d64 d65 d66 d67 d68 d69 d70 w R =
(∃ x1 : Int, w.cell? ⟨yg2, 5, none⟩ = some (.int .u8 x1) ∧
(∃ x2 : Int, w.cell? ⟨yg3, 5, none⟩ = some (.int .u8 x2) ∧
((if (x1 == x2) = true then
(∃ x3 : Int, w.cell? ⟨yg2, 6, none⟩ = some (.int .u8 x3) ∧
(∃ x4 : Int, w.cell? ⟨yg3, 6, none⟩ = some (.int .u8 x4) ∧
((if (x3 == x4) = true then
(∃ x5 : Int, w.cell? ⟨yg2, 7, none⟩ = some (.int .u32 x5) ∧
(∃ x6 : Int, w.cell? ⟨yg3, 7, none⟩ = some (.int .u32 x6) ∧
((if (x5 == x6) = true then
(∃ x7 : Int, w.cell? ⟨yg2, 8, none⟩ = some (.int .u32 x7) ∧
(∃ x8 : Int, w.cell? ⟨yg3, 8, none⟩ = some (.int .u32 x8) ∧
((if (x7 == x8) = true then
(∃ (A9 : Option Addr) (n9_ c9_ : Nat), w.cell? ⟨yg2, 9, none⟩ = some (.slice A9 n9_ c9_) ∧
(∃ (A10 : Option Addr) (n10_ c10_ : Nat), w.cell? ⟨yg3, 9, none⟩ = some (.slice A10 n10_ c10_) ∧
(Calls Tryd.prog 42 #[.slice A9 n9_ c9_, .slice A10 n10_ c10_] w (fun (e12 : Ending) (w11 : World) =>
 ∃ b13 : Bool, e12 = .returned (.bool b13) ∧
(R (.returned (.bool b13)) w11)))))
else
(R (.returned (.bool false)) w)))))
else
(R (.returned (.bool false)) w)))))
else
(R (.returned (.bool false)) w)))))
else
(R (.returned (.bool false)) w))))) := by kernel_rfl
def weftlaw6_heads.s (i0_0 : Int) (i0_1 : Int) (i0_2 : Bool) (i0_3 : Bool) (i0_4 : Int) (i0_5 : Int) (i0_6 : Int) (i0_7 : Int) (i0_8 : Int) (I0_9 : Option Addr) (in0_9 : Nat) (ic0_9 : Nat) (i1_0 : Int) (i1_1 : Int) (i1_2 : Bool) (i1_3 : Bool) (i1_4 : Int) (i1_5 : Int) (i1_6 : Int) (i1_7 : Int) (i1_8 : Int) (I1_9 : Option Addr) (in1_9 : Nat) (ic1_9 : Nat) (w : World) (R : Ending → World → Prop) : Prop :=
(Let (w.heap.size) fun g1 : Nat =>
 Let (w.alloc (.cells #[.int .u8 i0_0, .int .u16 i0_1, .bool i0_2, .bool i0_3, .int .i64 i0_4, .int .u8 i0_5, .int .u8 i0_6, .int .u32 i0_7, .int .u32 i0_8, .slice I0_9 in0_9 ic0_9] 27)) fun w2 : World =>
 Let (w2.heap.size) fun g3 : Nat =>
 Let (w2.alloc (.cells #[.int .u8 i1_0, .int .u16 i1_1, .bool i1_2, .bool i1_3, .int .i64 i1_4, .int .u8 i1_5, .int .u8 i1_6, .int .u32 i1_7, .int .u32 i1_8, .slice I1_9 in1_9 ic1_9] 27)) fun w4 : World =>
 ∃ x5 : Int, w4.cell? ⟨g1, 0, none⟩ = some (.int .u8 x5) ∧
(∃ x6 : Int, w4.cell? ⟨g3, 0, none⟩ = some (.int .u8 x6) ∧
((if (x5 != x6) = true then
(R (.returned (.bool false)) w4)
else
(∃ x7 : Int, w4.cell? ⟨g1, 1, none⟩ = some (.int .u16 x7) ∧
(∃ x8 : Int, w4.cell? ⟨g3, 1, none⟩ = some (.int .u16 x8) ∧
((if (x7 != x8) = true then
(R (.returned (.bool false)) w4)
else
(∃ b9 : Bool, w4.cell? ⟨g1, 2, none⟩ = some (.bool b9) ∧
(∃ b10 : Bool, w4.cell? ⟨g3, 2, none⟩ = some (.bool b10) ∧
((if (!(b9 == b10)) = true then
(R (.returned (.bool false)) w4)
else
(∃ b11 : Bool, w4.cell? ⟨g1, 3, none⟩ = some (.bool b11) ∧
(∃ b12 : Bool, w4.cell? ⟨g3, 3, none⟩ = some (.bool b12) ∧
((if (!(b11 == b12)) = true then
(R (.returned (.bool false)) w4)
else
(∃ x13 : Int, w4.cell? ⟨g1, 4, none⟩ = some (.int .i64 x13) ∧
(∃ x14 : Int, w4.cell? ⟨g3, 4, none⟩ = some (.int .i64 x14) ∧
((if (x13 != x14) = true then
(R (.returned (.bool false)) w4)
else
(Leaf (weftlaw6_heads.j1 g1 g3 (.agg #[.int .u8 i0_0, .int .u16 i0_1, .bool i0_2, .bool i0_3, .int .i64 i0_4, .int .u8 i0_5, .int .u8 i0_6, .int .u32 i0_7, .int .u32 i0_8, .slice I0_9 in0_9 ic0_9]) (.agg #[.int .u8 i1_0, .int .u16 i1_1, .bool i1_2, .bool i1_3, .int .i64 i1_4, .int .u8 i1_5, .int .u8 i1_6, .int .u32 i1_7, .int .u32 i1_8, .slice I1_9 in1_9 ic1_9]) (.bool false) (.pointer (some ⟨g1, 0, none⟩)) (.int .u8 x5) (.pointer (some ⟨g3, 0, none⟩)) (.int .u8 x6) (.bool (x5 != x6)) (.bool false) (.pointer (some ⟨g1, 1, none⟩)) (.int .u16 x7) (.pointer (some ⟨g3, 1, none⟩)) (.int .u16 x8) (.bool (x7 != x8)) (.bool (x7 != x8)) (.bool false) (.pointer (some ⟨g1, 2, none⟩)) (.bool b9) (.pointer (some ⟨g3, 2, none⟩)) (.bool b10) (.bool (!(b9 == b10))) (.bool (!(b9 == b10))) (.bool false) (.pointer (some ⟨g1, 3, none⟩)) (.bool b11) (.pointer (some ⟨g3, 3, none⟩)) (.bool b12) (.bool (!(b11 == b12))) (.bool (!(b11 == b12))) (.bool false) (.pointer (some ⟨g1, 4, none⟩)) (.int .i64 x13) (.pointer (some ⟨g3, 4, none⟩)) (.int .i64 x14) (.bool (x13 != x14)) (.bool (x13 != x14)) undef undef undef undef undef undef undef undef undef undef undef undef undef undef undef undef undef undef undef undef undef undef undef undef undef undef undef undef undef undef undef undef undef w4 R))))))))))))))))))))))
theorem weftlaw6_heads.s_eq (i0_0 : Int) (i0_1 : Int) (i0_2 : Bool) (i0_3 : Bool) (i0_4 : Int) (i0_5 : Int) (i0_6 : Int) (i0_7 : Int) (i0_8 : Int) (I0_9 : Option Addr) (in0_9 : Nat) (ic0_9 : Nat) (i1_0 : Int) (i1_1 : Int) (i1_2 : Bool) (i1_3 : Bool) (i1_4 : Int) (i1_5 : Int) (i1_6 : Int) (i1_7 : Int) (i1_8 : Int) (I1_9 : Option Addr) (in1_9 : Nat) (ic1_9 : Nat) (w : World) (R : Ending → World → Prop) : seg Tryd.prog entE weftlaw6_heads.ords weftlaw6_heads.joins Tryd.f41 [] [] [] ([.agg #[.int .u8 i0_0, .int .u16 i0_1, .bool i0_2, .bool i0_3, .int .i64 i0_4, .int .u8 i0_5, .int .u8 i0_6, .int .u32 i0_7, .int .u32 i0_8, .slice I0_9 in0_9 ic0_9], .agg #[.int .u8 i1_0, .int .u16 i1_1, .bool i1_2, .bool i1_3, .int .i64 i1_4, .int .u8 i1_5, .int .u8 i1_6, .int .u32 i1_7, .int .u32 i1_8, .slice I1_9 in1_9 ic1_9]] ++ List.replicate (Tryd.f41.ntmps - ([.agg #[.int .u8 i0_0, .int .u16 i0_1, .bool i0_2, .bool i0_3, .int .i64 i0_4, .int .u8 i0_5, .int .u8 i0_6, .int .u32 i0_7, .int .u32 i0_8, .slice I0_9 in0_9 ic0_9], .agg #[.int .u8 i1_0, .int .u16 i1_1, .bool i1_2, .bool i1_3, .int .i64 i1_4, .int .u8 i1_5, .int .u8 i1_6, .int .u32 i1_7, .int .u32 i1_8, .slice I1_9 in1_9 ic1_9]] : List Value).length) undef) w R = weftlaw6_heads.s i0_0 i0_1 i0_2 i0_3 i0_4 i0_5 i0_6 i0_7 i0_8 I0_9 in0_9 ic0_9 i1_0 i1_1 i1_2 i1_3 i1_4 i1_5 i1_6 i1_7 i1_8 I1_9 in1_9 ic1_9 w R := by kernel_rfl
theorem weftlaw6_heads.run {i0_0 : Int} {i0_1 : Int} {i0_2 : Bool} {i0_3 : Bool} {i0_4 : Int} {i0_5 : Int} {i0_6 : Int} {i0_7 : Int} {i0_8 : Int} {I0_9 : Option Addr} {in0_9 : Nat} {ic0_9 : Nat} {i1_0 : Int} {i1_1 : Int} {i1_2 : Bool} {i1_3 : Bool} {i1_4 : Int} {i1_5 : Int} {i1_6 : Int} {i1_7 : Int} {i1_8 : Int} {I1_9 : Option Addr} {in1_9 : Nat} {ic1_9 : Nat} {w : World} {R : Ending → World → Prop} (h : weftlaw6_heads.s i0_0 i0_1 i0_2 i0_3 i0_4 i0_5 i0_6 i0_7 i0_8 I0_9 in0_9 ic0_9 i1_0 i1_1 i1_2 i1_3 i1_4 i1_5 i1_6 i1_7 i1_8 I1_9 in1_9 ic1_9 w R) : Calls Tryd.prog 41 #[.agg #[.int .u8 i0_0, .int .u16 i0_1, .bool i0_2, .bool i0_3, .int .i64 i0_4, .int .u8 i0_5, .int .u8 i0_6, .int .u32 i0_7, .int .u32 i0_8, .slice I0_9 in0_9 ic0_9], .agg #[.int .u8 i1_0, .int .u16 i1_1, .bool i1_2, .bool i1_3, .int .i64 i1_4, .int .u8 i1_5, .int .u8 i1_6, .int .u32 i1_7, .int .u32 i1_8, .slice I1_9 in1_9 ic1_9]] w R :=
  calls_seg ents mixed Tryd.func41 rfl (by rw [weftlaw6_heads.s_eq]; exact h)
/-! ### weftlaw6_plain: function 33 -/
def weftlaw6_plain.ords : Nat → List (Nat × Bool)
  | _ => []
def weftlaw6_plain.joins (p : List Nat) : Bool := false
def weftlaw6_plain.s (i0 : Int) (w : World) (R : Ending → World → Prop) : Prop :=
((if decide (i0 ≥ 16777216) = true then
((if decide (i0 < 2130706432) = true then
(R (.returned (.bool (decide (i0 < 3758096384)))) w)
else
((if decide (i0 ≥ 2147483648) = true then
(R (.returned (.bool (decide (i0 < 3758096384)))) w)
else
(R (.returned (.bool false)) w)))))
else
(R (.returned (.bool false)) w)))
theorem weftlaw6_plain.s_eq (i0 : Int) (w : World) (R : Ending → World → Prop) : seg Tryd.prog entE weftlaw6_plain.ords weftlaw6_plain.joins Tryd.f33 [] [] [] ([.int .u32 i0] ++ List.replicate (Tryd.f33.ntmps - ([.int .u32 i0] : List Value).length) undef) w R = weftlaw6_plain.s i0 w R := by kernel_rfl
theorem weftlaw6_plain.run {i0 : Int} {w : World} {R : Ending → World → Prop} (h : weftlaw6_plain.s i0 w R) : Calls Tryd.prog 33 #[.int .u32 i0] w R :=
  calls_seg ents mixed Tryd.func33 rfl (by rw [weftlaw6_plain.s_eq]; exact h)
/-! ### weftlaw6_fault: function 34 -/
def weftlaw6_fault.ords : Nat → List (Nat × Bool)
  | _ => []
def weftlaw6_fault.joins (p : List Nat) : Bool := false
def weftlaw6_fault.s (i0 : Int) (w : World) (R : Ending → World → Prop) : Prop :=
((if (i0 == 3) = true then
(R (.returned (.bool true)) w)
else
((if (i0 == 4) = true then
(R (.returned (.bool true)) w)
else
((if (i0 == 5) = true then
(R (.returned (.bool true)) w)
else
((if (i0 == 11) = true then
(R (.returned (.bool true)) w)
else
(R (.returned (.bool (i0 == 12))) w)))))))))
theorem weftlaw6_fault.s_eq (i0 : Int) (w : World) (R : Ending → World → Prop) : seg Tryd.prog entE weftlaw6_fault.ords weftlaw6_fault.joins Tryd.f34 [] [] [] ([.int .u8 i0] ++ List.replicate (Tryd.f34.ntmps - ([.int .u8 i0] : List Value).length) undef) w R = weftlaw6_fault.s i0 w R := by kernel_rfl
theorem weftlaw6_fault.run {i0 : Int} {w : World} {R : Ending → World → Prop} (h : weftlaw6_fault.s i0 w R) : Calls Tryd.prog 34 #[.int .u8 i0] w R :=
  calls_seg ents mixed Tryd.func34 rfl (by rw [weftlaw6_fault.s_eq]; exact h)
/-! ### weftlaw6_small: function 16 -/
def weftlaw6_small.ords : Nat → List (Nat × Bool)
  | _ => []
def weftlaw6_small.joins (p : List Nat) : Bool := false
def weftlaw6_small.s (w : World) (R : Ending → World → Prop) : Prop :=
(Let (w.heap.size) fun g1 : Nat =>
 Let (w.alloc (.cells #[.int .u8 0, .int .u16 0, .bool false, .bool false, .int .i64 0, .int .u8 0, .int .u8 0, .int .u32 0, .int .u32 0, .slice none 0 0, .slice none 0 0] 29)) fun w2 : World =>
 Let (w2.heap.size) fun g3 : Nat =>
 Let (w2.alloc (.cells #[.int .u8 131, .int .u8 3, .int .u8 4, .int .u8 0] 5)) fun w4 : World =>
 Let (w4.heap.size) fun g5 : Nat =>
 Let (w4.alloc (.cells #[.int .u8 1, .int .u8 2, .int .u8 3, .int .u8 4, .int .u8 5, .int .u8 6, .int .u8 7, .int .u8 8, .int .u8 9, .int .u8 10] 5)) fun w6 : World =>
 May w6 ⟨g1, 0, none⟩ 11 ∧
(Let (putCells w6 ⟨g1, 0, none⟩ [.int .u8 0, .int .u16 7, .bool false, .bool false, .int .i64 0, .int .u8 1, .int .u8 17, .int .u32 167838211, .int .u32 167904004, .slice (some ⟨g3, 0, none⟩) 4 4, .slice (some ⟨g5, 0, none⟩) 10 10] 0) fun w7 : World =>
 ∃ x8 : Int, ∃ x9 : Int, ∃ b10 : Bool, ∃ b11 : Bool, ∃ x12 : Int, ∃ x13 : Int, ∃ x14 : Int, ∃ x15 : Int, ∃ x16 : Int, ∃ (A17 : Option Addr) (n17_ c17_ : Nat), ∃ (A18 : Option Addr) (n18_ c18_ : Nat), (11 = 11 ∧ At w7 ⟨g1, 0, none⟩ [.int .u8 x8, .int .u16 x9, .bool b10, .bool b11, .int .i64 x12, .int .u8 x13, .int .u8 x14, .int .u32 x15, .int .u32 x16, .slice A17 n17_ c17_, .slice A18 n18_ c18_]) ∧
(R (.returned (.agg #[.int .u8 x8, .int .u16 x9, .bool b10, .bool b11, .int .i64 x12, .int .u8 x13, .int .u8 x14, .int .u32 x15, .int .u32 x16, .slice A17 n17_ c17_, .slice A18 n18_ c18_])) w7)))
theorem weftlaw6_small.s_eq (w : World) (R : Ending → World → Prop) : seg Tryd.prog entE weftlaw6_small.ords weftlaw6_small.joins Tryd.f16 [] [] [] ([] ++ List.replicate (Tryd.f16.ntmps - ([] : List Value).length) undef) w R = weftlaw6_small.s  w R := by kernel_rfl
theorem weftlaw6_small.run {w : World} {R : Ending → World → Prop} (h : weftlaw6_small.s  w R) : Calls Tryd.prog 16 #[] w R :=
  calls_seg ents mixed Tryd.func16 rfl (by rw [weftlaw6_small.s_eq]; exact h)
end Go.Proofs.YtfjbpeadhaekbaaDoorS
