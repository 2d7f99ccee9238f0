/- What functions of the program come to, told by a program of this session out of the translation; the kernel computes each statement out of the code.
   Conditions: none. -/
import Derived.Test.YtchdcdmdbjkihaaSBase
namespace Go.Proofs.YtchdcdmdbjkihaaS
open Go Go.Proofs
set_option maxRecDepth 100000
set_option linter.unusedVariables false
/-! ### weftlaw3_same: function 39 -/
def weftlaw3_same.ords : Nat → Od
  | 6 => (.tk 0 (.tk 1 (.tk 2 (.tk 3 (.tk 4 (.tk 5 (.tk 6 (.tk 7 (.tk 8 .nil)))))))))
  | _ => .nil
def weftlaw3_same.joins (p : List Nat) : Bool := false
def weftlaw3_same.l1 (n : Nat) (Y0 : Option Addr) (yn0 : Nat) (yc0 : Nat) (Y1 : Option Addr) (yn1 : Nat) (yc1 : Nat) (y5 : Int) (d2 d3 d4 d6 d7 d8 d9 d10 d11 d12 d13 d14 d15 d16 d17 d18 d19 d20 d21 d22 d23 d24 d25 : Value) (w : World) (R : Ending → World → Prop) : Prop :=
  lseg Try.prog entE weftlaw3_same.ords weftlaw3_same.joins Try.f39 [1, 1, 0, 1, 0] [0, 1, 0, 1, 1] [] n [.slice Y0 yn0 yc0, .slice Y1 yn1 yc1, d2, d3, d4, .int .i64 y5, d6, d7, d8, d9, d10, d11, d12, d13, d14, d15, d16, d17, d18, d19, d20, d21, d22, d23, d24, d25] w R
abbrev weftlaw3_same.L1 (n : Nat) (Y0 : Option Addr) (yn0 : Nat) (yc0 : Nat) (Y1 : Option Addr) (yn1 : Nat) (yc1 : Nat) (y5 : Int) (w : World) (R : Ending → World → Prop) : Prop := ∀ d2 d3 d4 d6 d7 d8 d9 d10 d11 d12 d13 d14 d15 d16 d17 d18 d19 d20 d21 d22 d23 d24 d25 : Value, weftlaw3_same.l1 n Y0 yn0 yc0 Y1 yn1 yc1 y5 d2 d3 d4 d6 d7 d8 d9 d10 d11 d12 d13 d14 d15 d16 d17 d18 d19 d20 d21 d22 d23 d24 d25 w R
theorem weftlaw3_same.l1_eq (n : Nat) (Y0 : Option Addr) (yn0 : Nat) (yc0 : Nat) (Y1 : Option Addr) (yn1 : Nat) (yc1 : Nat) (y5 : Int) (d2 d3 d4 d6 d7 d8 d9 d10 d11 d12 d13 d14 d15 d16 d17 d18 d19 d20 d21 d22 d23 d24 d25 : Value) (w : World) (R : Ending → World → Prop) : weftlaw3_same.l1 (n + 1) Y0 yn0 yc0 Y1 yn1 yc1 y5 d2 d3 d4 d6 d7 d8 d9 d10 d11 d12 d13 d14 d15 d16 d17 d18 d19 d20 d21 d22 d23 d24 d25 w R =
((if decide (y5 < (yn0 : Int)) = true then
(∃ S1 : World → Prop, S1 w.drew ∧
(Let (w.drew) fun w2 : World =>
∃ a3 : Addr, Y0 = some a3 ∧ (0 ≤ y5 ∧ y5 < (yn0 : Int)) ∧
(∃ x4 : Int, (∀ w', S1 w' → w'.cell? (a3.add y5.toNat) = some (.int .u8 x4)) ∧
(∃ a5 : Addr, Y1 = some a5 ∧ (0 ≤ y5 ∧ y5 < (yn1 : Int)) ∧
(∃ x6 : Int, (∀ w', S1 w' → w'.cell? (a5.add y5.toNat) = some (.int .u8 x6)) ∧
((if (x4 != x6) = true then
(R (.returned (.bool false)) w2)
else
(Let (IntKind.i64.wrap (y5 + 1)) fun x7 : Int =>
weftlaw3_same.l1 n Y0 yn0 yc0 Y1 yn1 yc1 x7 d2 d3 d4 d6 d7 d8 d9 d10 (.int .i64 y5) (.slice Y0 yn0 yc0) (.int .i64 (yn0 : Int)) (.bool (decide (y5 < (yn0 : Int)))) (.int .i64 y5) (.int .i64 x7) (.slice Y0 yn0 yc0) (.int .i64 y5) (.pointer (some (a3.add y5.toNat))) (.int .u8 x4) (.slice Y1 yn1 yc1) (.int .i64 y5) (.pointer (some (a5.add y5.toNat))) (.int .u8 x6) (.bool (x4 != x6)) w2 R))))))))
else
(R (.returned (.bool true)) w))) := by kernel_rfl
def weftlaw3_same.s (I0 : Option Addr) (in0 : Nat) (ic0 : Nat) (I1 : Option Addr) (in1 : Nat) (ic1 : Nat) (w : World) (R : Ending → World → Prop) : Prop :=
((if ((in0 : Int) != (in1 : Int)) = true then
(R (.returned (.bool false)) w)
else
(∃ n1 : Nat, weftlaw3_same.l1 n1 I0 in0 ic0 I1 in1 ic1 0 undef undef (.bool false) (.slice I0 in0 ic0) (.int .i64 (in0 : Int)) (.slice I1 in1 ic1) (.int .i64 (in1 : Int)) (.bool ((in0 : Int) != (in1 : Int))) undef undef undef undef undef undef undef undef undef undef undef undef undef undef undef w R)))
theorem weftlaw3_same.s_eq (I0 : Option Addr) (in0 : Nat) (ic0 : Nat) (I1 : Option Addr) (in1 : Nat) (ic1 : Nat) (w : World) (R : Ending → World → Prop) : seg Try.prog entE weftlaw3_same.ords weftlaw3_same.joins Try.f39 [] [] [] ([.slice I0 in0 ic0, .slice I1 in1 ic1] ++ List.replicate (Try.f39.ntmps - ([.slice I0 in0 ic0, .slice I1 in1 ic1] : List Value).length) undef) w R = weftlaw3_same.s I0 in0 ic0 I1 in1 ic1 w R := by kernel_rfl
theorem weftlaw3_same.run {I0 : Option Addr} {in0 : Nat} {ic0 : Nat} {I1 : Option Addr} {in1 : Nat} {ic1 : Nat} {w : World} {R : Ending → World → Prop} (h : weftlaw3_same.s I0 in0 ic0 I1 in1 ic1 w R) : Calls Try.prog 39 #[.slice I0 in0 ic0, .slice I1 in1 ic1] w R :=
  calls_seg ents mixed Try.func39 rfl (by rw [weftlaw3_same.s_eq]; exact h)
/-! ### weftlaw3_heads: function 49 -/
def weftlaw3_heads.ords : Nat → Od
  | _ => .nil
def weftlaw3_heads.joins (p : List Nat) : Bool := p == [1, 1]
def weftlaw3_heads.j1 (yg2 : Nat) (yg3 : Nat) (d0 d1 d4 d5 d6 d7 d8 d9 d10 d11 d12 d13 d14 d15 d16 d17 d18 d19 d20 d21 d22 d23 d24 d25 d26 d27 d28 d29 d30 d31 d32 d33 d34 d35 d36 d37 d38 d39 d40 d41 d42 d43 d44 d45 d46 d47 d48 d49 d50 d51 d52 d53 d54 d55 d56 d57 d58 d59 d60 d61 d62 d63 d64 d65 d66 d67 d68 d69 d70 : Value) (w : World) (R : Ending → World → Prop) : Prop :=
  seg Try.prog entE weftlaw3_heads.ords weftlaw3_heads.joins Try.f49 [1, 1] [1, 1] [] [d0, d1, .pointer (some ⟨yg2, 0, none⟩), .pointer (some ⟨yg3, 0, none⟩), d4, d5, d6, d7, d8, d9, d10, d11, d12, d13, d14, d15, d16, d17, d18, d19, d20, d21, d22, d23, d24, d25, d26, d27, d28, d29, d30, d31, d32, d33, d34, d35, d36, d37, d38, d39, d40, d41, d42, d43, d44, d45, d46, d47, d48, d49, d50, d51, d52, d53, d54, d55, d56, d57, d58, d59, d60, d61, d62, d63, d64, d65, d66, d67, d68, d69, d70] w R
abbrev weftlaw3_heads.J1 (yg2 : Nat) (yg3 : Nat) (w : World) (R : Ending → World → Prop) : Prop := ∀ d0 d1 d4 d5 d6 d7 d8 d9 d10 d11 d12 d13 d14 d15 d16 d17 d18 d19 d20 d21 d22 d23 d24 d25 d26 d27 d28 d29 d30 d31 d32 d33 d34 d35 d36 d37 d38 d39 d40 d41 d42 d43 d44 d45 d46 d47 d48 d49 d50 d51 d52 d53 d54 d55 d56 d57 d58 d59 d60 d61 d62 d63 d64 d65 d66 d67 d68 d69 d70 : Value, weftlaw3_heads.j1 yg2 yg3 d0 d1 d4 d5 d6 d7 d8 d9 d10 d11 d12 d13 d14 d15 d16 d17 d18 d19 d20 d21 d22 d23 d24 d25 d26 d27 d28 d29 d30 d31 d32 d33 d34 d35 d36 d37 d38 d39 d40 d41 d42 d43 d44 d45 d46 d47 d48 d49 d50 d51 d52 d53 d54 d55 d56 d57 d58 d59 d60 d61 d62 d63 d64 d65 d66 d67 d68 d69 d70 w R
theorem weftlaw3_heads.j1_eq (yg2 : Nat) (yg3 : Nat) (d0 d1 d4 d5 d6 d7 d8 d9 d10 d11 d12 d13 d14 d15 d16 d17 d18 d19 d20 d21 d22 d23 d24 d25 d26 d27 d28 d29 d30 d31 d32 d33 d34 d35 d36 d37 d38 d39 d40 d41 d42 d43 d44 d45 d46 d47 d48 d49 d50 d51 d52 d53 d54 d55 d56 d57 d58 d59 d60 d61 d62 d63 d64 d65 d66 d67 d68 d69 d70 : Value) (w : World) (R : Ending → World → Prop) : weftlaw3_heads.j1 yg2 yg3 d0 d1 d4 d5 d6 d7 d8 d9 d10 d11 d12 d13 d14 d15 d16 d17 d18 d19 d20 d21 d22 d23 d24 d25 d26 d27 d28 d29 d30 d31 d32 d33 d34 d35 d36 d37 d38 d39 d40 d41 d42 d43 d44 d45 d46 d47 d48 d49 d50 d51 d52 d53 d54 d55 d56 d57 d58 d59 d60 d61 d62 d63 d64 d65 d66 d67 d68 d69 d70 w R =
(∃ x1 : Int, w.cell? ⟨yg2, 5, none⟩ = some (.int .u8 x1) ∧
(∃ x2 : Int, w.cell? ⟨yg3, 5, none⟩ = some (.int .u8 x2) ∧
((if (x1 == x2) = true then
(∃ x3 : Int, w.cell? ⟨yg2, 6, none⟩ = some (.int .u8 x3) ∧
(∃ x4 : Int, w.cell? ⟨yg3, 6, none⟩ = some (.int .u8 x4) ∧
((if (x3 == x4) = true then
(∃ x5 : Int, w.cell? ⟨yg2, 7, none⟩ = some (.int .u32 x5) ∧
(∃ x6 : Int, w.cell? ⟨yg3, 7, none⟩ = some (.int .u32 x6) ∧
((if (x5 == x6) = true then
(∃ x7 : Int, w.cell? ⟨yg2, 8, none⟩ = some (.int .u32 x7) ∧
(∃ x8 : Int, w.cell? ⟨yg3, 8, none⟩ = some (.int .u32 x8) ∧
((if (x7 == x8) = true then
(∃ (A9 : Option Addr) (n9_ c9_ : Nat), w.cell? ⟨yg2, 9, none⟩ = some (.slice A9 n9_ c9_) ∧
(∃ (A10 : Option Addr) (n10_ c10_ : Nat), w.cell? ⟨yg3, 9, none⟩ = some (.slice A10 n10_ c10_) ∧
(Calls Try.prog 39 #[.slice A9 n9_ c9_, .slice A10 n10_ c10_] w (fun (e12 : Ending) (w11 : World) =>
∃ b13 : Bool, e12 = .returned (.bool b13) ∧
(R (.returned (.bool b13)) w11)))))
else
(R (.returned (.bool false)) w)))))
else
(R (.returned (.bool false)) w)))))
else
(R (.returned (.bool false)) w)))))
else
(R (.returned (.bool false)) w))))) := by kernel_rfl
def weftlaw3_heads.s (i0_0 : Int) (i0_1 : Int) (i0_2 : Bool) (i0_3 : Bool) (i0_4 : Int) (i0_5 : Int) (i0_6 : Int) (i0_7 : Int) (i0_8 : Int) (I0_9 : Option Addr) (in0_9 : Nat) (ic0_9 : Nat) (i1_0 : Int) (i1_1 : Int) (i1_2 : Bool) (i1_3 : Bool) (i1_4 : Int) (i1_5 : Int) (i1_6 : Int) (i1_7 : Int) (i1_8 : Int) (I1_9 : Option Addr) (in1_9 : Nat) (ic1_9 : Nat) (w : World) (R : Ending → World → Prop) : Prop :=
(Let (w.heap.size) fun g1 : Nat =>
Let (w.alloc (.cells #[.int .u8 i0_0, .int .u16 i0_1, .bool i0_2, .bool i0_3, .int .i64 i0_4, .int .u8 i0_5, .int .u8 i0_6, .int .u32 i0_7, .int .u32 i0_8, .slice I0_9 in0_9 ic0_9] 35)) fun w2 : World =>
Let (w2.heap.size) fun g3 : Nat =>
Let (w2.alloc (.cells #[.int .u8 i1_0, .int .u16 i1_1, .bool i1_2, .bool i1_3, .int .i64 i1_4, .int .u8 i1_5, .int .u8 i1_6, .int .u32 i1_7, .int .u32 i1_8, .slice I1_9 in1_9 ic1_9] 35)) fun w4 : World =>
∃ x5 : Int, w4.cell? ⟨g1, 0, none⟩ = some (.int .u8 x5) ∧
(∃ x6 : Int, w4.cell? ⟨g3, 0, none⟩ = some (.int .u8 x6) ∧
((if (x5 != x6) = true then
(R (.returned (.bool false)) w4)
else
(∃ x7 : Int, w4.cell? ⟨g1, 1, none⟩ = some (.int .u16 x7) ∧
(∃ x8 : Int, w4.cell? ⟨g3, 1, none⟩ = some (.int .u16 x8) ∧
((if (x7 != x8) = true then
(R (.returned (.bool false)) w4)
else
(∃ b9 : Bool, w4.cell? ⟨g1, 2, none⟩ = some (.bool b9) ∧
(∃ b10 : Bool, w4.cell? ⟨g3, 2, none⟩ = some (.bool b10) ∧
((if (!(b9 == b10)) = true then
(R (.returned (.bool false)) w4)
else
(∃ b11 : Bool, w4.cell? ⟨g1, 3, none⟩ = some (.bool b11) ∧
(∃ b12 : Bool, w4.cell? ⟨g3, 3, none⟩ = some (.bool b12) ∧
((if (!(b11 == b12)) = true then
(R (.returned (.bool false)) w4)
else
(∃ x13 : Int, w4.cell? ⟨g1, 4, none⟩ = some (.int .i64 x13) ∧
(∃ x14 : Int, w4.cell? ⟨g3, 4, none⟩ = some (.int .i64 x14) ∧
((if (x13 != x14) = true then
(R (.returned (.bool false)) w4)
else
(Leaf (weftlaw3_heads.j1 g1 g3 (.agg #[.int .u8 i0_0, .int .u16 i0_1, .bool i0_2, .bool i0_3, .int .i64 i0_4, .int .u8 i0_5, .int .u8 i0_6, .int .u32 i0_7, .int .u32 i0_8, .slice I0_9 in0_9 ic0_9]) (.agg #[.int .u8 i1_0, .int .u16 i1_1, .bool i1_2, .bool i1_3, .int .i64 i1_4, .int .u8 i1_5, .int .u8 i1_6, .int .u32 i1_7, .int .u32 i1_8, .slice I1_9 in1_9 ic1_9]) (.bool false) (.pointer (some ⟨g1, 0, none⟩)) (.int .u8 x5) (.pointer (some ⟨g3, 0, none⟩)) (.int .u8 x6) (.bool (x5 != x6)) (.bool false) (.pointer (some ⟨g1, 1, none⟩)) (.int .u16 x7) (.pointer (some ⟨g3, 1, none⟩)) (.int .u16 x8) (.bool (x7 != x8)) (.bool (x7 != x8)) (.bool false) (.pointer (some ⟨g1, 2, none⟩)) (.bool b9) (.pointer (some ⟨g3, 2, none⟩)) (.bool b10) (.bool (!(b9 == b10))) (.bool (!(b9 == b10))) (.bool false) (.pointer (some ⟨g1, 3, none⟩)) (.bool b11) (.pointer (some ⟨g3, 3, none⟩)) (.bool b12) (.bool (!(b11 == b12))) (.bool (!(b11 == b12))) (.bool false) (.pointer (some ⟨g1, 4, none⟩)) (.int .i64 x13) (.pointer (some ⟨g3, 4, none⟩)) (.int .i64 x14) (.bool (x13 != x14)) (.bool (x13 != x14)) undef undef undef undef undef undef undef undef undef undef undef undef undef undef undef undef undef undef undef undef undef undef undef undef undef undef undef undef undef undef undef undef undef w4 R))))))))))))))))))))))
theorem weftlaw3_heads.s_eq (i0_0 : Int) (i0_1 : Int) (i0_2 : Bool) (i0_3 : Bool) (i0_4 : Int) (i0_5 : Int) (i0_6 : Int) (i0_7 : Int) (i0_8 : Int) (I0_9 : Option Addr) (in0_9 : Nat) (ic0_9 : Nat) (i1_0 : Int) (i1_1 : Int) (i1_2 : Bool) (i1_3 : Bool) (i1_4 : Int) (i1_5 : Int) (i1_6 : Int) (i1_7 : Int) (i1_8 : Int) (I1_9 : Option Addr) (in1_9 : Nat) (ic1_9 : Nat) (w : World) (R : Ending → World → Prop) : seg Try.prog entE weftlaw3_heads.ords weftlaw3_heads.joins Try.f49 [] [] [] ([.agg #[.int .u8 i0_0, .int .u16 i0_1, .bool i0_2, .bool i0_3, .int .i64 i0_4, .int .u8 i0_5, .int .u8 i0_6, .int .u32 i0_7, .int .u32 i0_8, .slice I0_9 in0_9 ic0_9], .agg #[.int .u8 i1_0, .int .u16 i1_1, .bool i1_2, .bool i1_3, .int .i64 i1_4, .int .u8 i1_5, .int .u8 i1_6, .int .u32 i1_7, .int .u32 i1_8, .slice I1_9 in1_9 ic1_9]] ++ List.replicate (Try.f49.ntmps - ([.agg #[.int .u8 i0_0, .int .u16 i0_1, .bool i0_2, .bool i0_3, .int .i64 i0_4, .int .u8 i0_5, .int .u8 i0_6, .int .u32 i0_7, .int .u32 i0_8, .slice I0_9 in0_9 ic0_9], .agg #[.int .u8 i1_0, .int .u16 i1_1, .bool i1_2, .bool i1_3, .int .i64 i1_4, .int .u8 i1_5, .int .u8 i1_6, .int .u32 i1_7, .int .u32 i1_8, .slice I1_9 in1_9 ic1_9]] : List Value).length) undef) w R = weftlaw3_heads.s i0_0 i0_1 i0_2 i0_3 i0_4 i0_5 i0_6 i0_7 i0_8 I0_9 in0_9 ic0_9 i1_0 i1_1 i1_2 i1_3 i1_4 i1_5 i1_6 i1_7 i1_8 I1_9 in1_9 ic1_9 w R := by kernel_rfl
theorem weftlaw3_heads.run {i0_0 : Int} {i0_1 : Int} {i0_2 : Bool} {i0_3 : Bool} {i0_4 : Int} {i0_5 : Int} {i0_6 : Int} {i0_7 : Int} {i0_8 : Int} {I0_9 : Option Addr} {in0_9 : Nat} {ic0_9 : Nat} {i1_0 : Int} {i1_1 : Int} {i1_2 : Bool} {i1_3 : Bool} {i1_4 : Int} {i1_5 : Int} {i1_6 : Int} {i1_7 : Int} {i1_8 : Int} {I1_9 : Option Addr} {in1_9 : Nat} {ic1_9 : Nat} {w : World} {R : Ending → World → Prop} (h : weftlaw3_heads.s i0_0 i0_1 i0_2 i0_3 i0_4 i0_5 i0_6 i0_7 i0_8 I0_9 in0_9 ic0_9 i1_0 i1_1 i1_2 i1_3 i1_4 i1_5 i1_6 i1_7 i1_8 I1_9 in1_9 ic1_9 w R) : Calls Try.prog 49 #[.agg #[.int .u8 i0_0, .int .u16 i0_1, .bool i0_2, .bool i0_3, .int .i64 i0_4, .int .u8 i0_5, .int .u8 i0_6, .int .u32 i0_7, .int .u32 i0_8, .slice I0_9 in0_9 ic0_9], .agg #[.int .u8 i1_0, .int .u16 i1_1, .bool i1_2, .bool i1_3, .int .i64 i1_4, .int .u8 i1_5, .int .u8 i1_6, .int .u32 i1_7, .int .u32 i1_8, .slice I1_9 in1_9 ic1_9]] w R :=
  calls_seg ents mixed Try.func49 rfl (by rw [weftlaw3_heads.s_eq]; exact h)
/-! ### weftlaw3_packets: function 45 -/
def weftlaw3_packets.ords : Nat → Od
  | _ => .nil
def weftlaw3_packets.joins (p : List Nat) : Bool := false
def weftlaw3_packets.s (i0_0 : Int) (i0_1 : Int) (i0_2 : Bool) (i0_3 : Bool) (i0_4 : Int) (i0_5 : Int) (i0_6 : Int) (i0_7 : Int) (i0_8 : Int) (I0_9 : Option Addr) (in0_9 : Nat) (ic0_9 : Nat) (I0_10 : Option Addr) (in0_10 : Nat) (ic0_10 : Nat) (i1_0 : Int) (i1_1 : Int) (i1_2 : Bool) (i1_3 : Bool) (i1_4 : Int) (i1_5 : Int) (i1_6 : Int) (i1_7 : Int) (i1_8 : Int) (I1_9 : Option Addr) (in1_9 : Nat) (ic1_9 : Nat) (I1_10 : Option Addr) (in1_10 : Nat) (ic1_10 : Nat) (w : World) (R : Ending → World → Prop) : Prop :=
(Let (w.heap.size) fun g1 : Nat =>
Let (w.alloc (.cells #[.int .u8 i0_0, .int .u16 i0_1, .bool i0_2, .bool i0_3, .int .i64 i0_4, .int .u8 i0_5, .int .u8 i0_6, .int .u32 i0_7, .int .u32 i0_8, .slice I0_9 in0_9 ic0_9, .slice I0_10 in0_10 ic0_10] 37)) fun w2 : World =>
Let (w2.heap.size) fun g3 : Nat =>
Let (w2.alloc (.cells #[.int .u8 i1_0, .int .u16 i1_1, .bool i1_2, .bool i1_3, .int .i64 i1_4, .int .u8 i1_5, .int .u8 i1_6, .int .u32 i1_7, .int .u32 i1_8, .slice I1_9 in1_9 ic1_9, .slice I1_10 in1_10 ic1_10] 37)) fun w4 : World =>
∃ x5 : Int, ∃ x6 : Int, ∃ b7 : Bool, ∃ b8 : Bool, ∃ x9 : Int, ∃ x10 : Int, ∃ x11 : Int, ∃ x12 : Int, ∃ x13 : Int, ∃ (A14 : Option Addr) (n14_ c14_ : Nat), (10 = 10 ∧ At w4 ⟨g1, 0, none⟩ [.int .u8 x5, .int .u16 x6, .bool b7, .bool b8, .int .i64 x9, .int .u8 x10, .int .u8 x11, .int .u32 x12, .int .u32 x13, .slice A14 n14_ c14_]) ∧
(∃ x15 : Int, ∃ x16 : Int, ∃ b17 : Bool, ∃ b18 : Bool, ∃ x19 : Int, ∃ x20 : Int, ∃ x21 : Int, ∃ x22 : Int, ∃ x23 : Int, ∃ (A24 : Option Addr) (n24_ c24_ : Nat), (10 = 10 ∧ At w4 ⟨g3, 0, none⟩ [.int .u8 x15, .int .u16 x16, .bool b17, .bool b18, .int .i64 x19, .int .u8 x20, .int .u8 x21, .int .u32 x22, .int .u32 x23, .slice A24 n24_ c24_]) ∧
(Calls Try.prog 49 #[.agg #[.int .u8 x5, .int .u16 x6, .bool b7, .bool b8, .int .i64 x9, .int .u8 x10, .int .u8 x11, .int .u32 x12, .int .u32 x13, .slice A14 n14_ c14_], .agg #[.int .u8 x15, .int .u16 x16, .bool b17, .bool b18, .int .i64 x19, .int .u8 x20, .int .u8 x21, .int .u32 x22, .int .u32 x23, .slice A24 n24_ c24_]] w4 (fun (e26 : Ending) (w25 : World) =>
∃ b27 : Bool, e26 = .returned (.bool b27) ∧
((if b27 = true then
(∃ (A28 : Option Addr) (n28_ c28_ : Nat), w25.cell? ⟨g1, 10, none⟩ = some (.slice A28 n28_ c28_) ∧
(∃ (A29 : Option Addr) (n29_ c29_ : Nat), w25.cell? ⟨g3, 10, none⟩ = some (.slice A29 n29_ c29_) ∧
(Calls Try.prog 39 #[.slice A28 n28_ c28_, .slice A29 n29_ c29_] w25 (fun (e31 : Ending) (w30 : World) =>
∃ b32 : Bool, e31 = .returned (.bool b32) ∧
(R (.returned (.bool b32)) w30)))))
else
(R (.returned (.bool false)) w25)))))))
theorem weftlaw3_packets.s_eq (i0_0 : Int) (i0_1 : Int) (i0_2 : Bool) (i0_3 : Bool) (i0_4 : Int) (i0_5 : Int) (i0_6 : Int) (i0_7 : Int) (i0_8 : Int) (I0_9 : Option Addr) (in0_9 : Nat) (ic0_9 : Nat) (I0_10 : Option Addr) (in0_10 : Nat) (ic0_10 : Nat) (i1_0 : Int) (i1_1 : Int) (i1_2 : Bool) (i1_3 : Bool) (i1_4 : Int) (i1_5 : Int) (i1_6 : Int) (i1_7 : Int) (i1_8 : Int) (I1_9 : Option Addr) (in1_9 : Nat) (ic1_9 : Nat) (I1_10 : Option Addr) (in1_10 : Nat) (ic1_10 : Nat) (w : World) (R : Ending → World → Prop) : seg Try.prog entE weftlaw3_packets.ords weftlaw3_packets.joins Try.f45 [] [] [] ([.agg #[.int .u8 i0_0, .int .u16 i0_1, .bool i0_2, .bool i0_3, .int .i64 i0_4, .int .u8 i0_5, .int .u8 i0_6, .int .u32 i0_7, .int .u32 i0_8, .slice I0_9 in0_9 ic0_9, .slice I0_10 in0_10 ic0_10], .agg #[.int .u8 i1_0, .int .u16 i1_1, .bool i1_2, .bool i1_3, .int .i64 i1_4, .int .u8 i1_5, .int .u8 i1_6, .int .u32 i1_7, .int .u32 i1_8, .slice I1_9 in1_9 ic1_9, .slice I1_10 in1_10 ic1_10]] ++ List.replicate (Try.f45.ntmps - ([.agg #[.int .u8 i0_0, .int .u16 i0_1, .bool i0_2, .bool i0_3, .int .i64 i0_4, .int .u8 i0_5, .int .u8 i0_6, .int .u32 i0_7, .int .u32 i0_8, .slice I0_9 in0_9 ic0_9, .slice I0_10 in0_10 ic0_10], .agg #[.int .u8 i1_0, .int .u16 i1_1, .bool i1_2, .bool i1_3, .int .i64 i1_4, .int .u8 i1_5, .int .u8 i1_6, .int .u32 i1_7, .int .u32 i1_8, .slice I1_9 in1_9 ic1_9, .slice I1_10 in1_10 ic1_10]] : List Value).length) undef) w R = weftlaw3_packets.s i0_0 i0_1 i0_2 i0_3 i0_4 i0_5 i0_6 i0_7 i0_8 I0_9 in0_9 ic0_9 I0_10 in0_10 ic0_10 i1_0 i1_1 i1_2 i1_3 i1_4 i1_5 i1_6 i1_7 i1_8 I1_9 in1_9 ic1_9 I1_10 in1_10 ic1_10 w R := by kernel_rfl
theorem weftlaw3_packets.run {i0_0 : Int} {i0_1 : Int} {i0_2 : Bool} {i0_3 : Bool} {i0_4 : Int} {i0_5 : Int} {i0_6 : Int} {i0_7 : Int} {i0_8 : Int} {I0_9 : Option Addr} {in0_9 : Nat} {ic0_9 : Nat} {I0_10 : Option Addr} {in0_10 : Nat} {ic0_10 : Nat} {i1_0 : Int} {i1_1 : Int} {i1_2 : Bool} {i1_3 : Bool} {i1_4 : Int} {i1_5 : Int} {i1_6 : Int} {i1_7 : Int} {i1_8 : Int} {I1_9 : Option Addr} {in1_9 : Nat} {ic1_9 : Nat} {I1_10 : Option Addr} {in1_10 : Nat} {ic1_10 : Nat} {w : World} {R : Ending → World → Prop} (h : weftlaw3_packets.s i0_0 i0_1 i0_2 i0_3 i0_4 i0_5 i0_6 i0_7 i0_8 I0_9 in0_9 ic0_9 I0_10 in0_10 ic0_10 i1_0 i1_1 i1_2 i1_3 i1_4 i1_5 i1_6 i1_7 i1_8 I1_9 in1_9 ic1_9 I1_10 in1_10 ic1_10 w R) : Calls Try.prog 45 #[.agg #[.int .u8 i0_0, .int .u16 i0_1, .bool i0_2, .bool i0_3, .int .i64 i0_4, .int .u8 i0_5, .int .u8 i0_6, .int .u32 i0_7, .int .u32 i0_8, .slice I0_9 in0_9 ic0_9, .slice I0_10 in0_10 ic0_10], .agg #[.int .u8 i1_0, .int .u16 i1_1, .bool i1_2, .bool i1_3, .int .i64 i1_4, .int .u8 i1_5, .int .u8 i1_6, .int .u32 i1_7, .int .u32 i1_8, .slice I1_9 in1_9 ic1_9, .slice I1_10 in1_10 ic1_10]] w R :=
  calls_seg ents mixed Try.func45 rfl (by rw [weftlaw3_packets.s_eq]; exact h)
/-! ### weftlaw3_join: function 54 -/
def weftlaw3_join.ords : Nat → Od
  | _ => .nil
def weftlaw3_join.joins (p : List Nat) : Bool := false
def weftlaw3_join.l1 (n : Nat) (Y0 : Option Addr) (yn0 : Nat) (yc0 : Nat) (Y3 : Option Addr) (yn3 : Nat) (yc3 : Nat) (y4 : Int) (d1 d2 d5 d6 d7 d8 d9 d10 d11 d12 d13 d14 d15 d16 d17 d18 d19 d20 d21 d22 d23 d24 d25 d26 d27 d28 d29 d30 d31 : Value) (w : World) (R : Ending → World → Prop) : Prop :=
  lseg Try.prog entE weftlaw3_join.ords weftlaw3_join.joins Try.f54 [1, 1, 0, 1, 0] [0, 1, 0, 1, 1] [] n [.slice Y0 yn0 yc0, d1, d2, .slice Y3 yn3 yc3, .int .i64 y4, d5, d6, d7, d8, d9, d10, d11, d12, d13, d14, d15, d16, d17, d18, d19, d20, d21, d22, d23, d24, d25, d26, d27, d28, d29, d30, d31] w R
def weftlaw3_join.l2 (m0 : Nat) (n : Nat) (Y0 : Option Addr) (yn0 : Nat) (yc0 : Nat) (Y3 : Option Addr) (yn3 : Nat) (yc3 : Nat) (y4 : Int) (y5 : Int) (d1 d2 d6 d7 d8 d9 d10 d11 d12 d13 d14 d15 d16 d17 d18 d19 d20 d21 d22 d23 d24 d25 d26 d27 d28 d29 d30 d31 : Value) (w : World) (R : Ending → World → Prop) : Prop :=
  lseg Try.prog entE weftlaw3_join.ords weftlaw3_join.joins Try.f54 [1, 1, 0, 1, 0, 0, 1, 0, 0, 1, 0] [0, 1, 0, 0, 1, 0, 0, 1, 0, 1, 1] [m0] n [.slice Y0 yn0 yc0, d1, d2, .slice Y3 yn3 yc3, .int .i64 y4, .int .i64 y5, d6, d7, d8, d9, d10, d11, d12, d13, d14, d15, d16, d17, d18, d19, d20, d21, d22, d23, d24, d25, d26, d27, d28, d29, d30, d31] w R
abbrev weftlaw3_join.L1 (n : Nat) (Y0 : Option Addr) (yn0 : Nat) (yc0 : Nat) (Y3 : Option Addr) (yn3 : Nat) (yc3 : Nat) (y4 : Int) (w : World) (R : Ending → World → Prop) : Prop := ∀ d1 d2 d5 d6 d7 d8 d9 d10 d11 d12 d13 d14 d15 d16 d17 d18 d19 d20 d21 d22 d23 d24 d25 d26 d27 d28 d29 d30 d31 : Value, weftlaw3_join.l1 n Y0 yn0 yc0 Y3 yn3 yc3 y4 d1 d2 d5 d6 d7 d8 d9 d10 d11 d12 d13 d14 d15 d16 d17 d18 d19 d20 d21 d22 d23 d24 d25 d26 d27 d28 d29 d30 d31 w R
abbrev weftlaw3_join.L2 (m0 : Nat) (n : Nat) (Y0 : Option Addr) (yn0 : Nat) (yc0 : Nat) (Y3 : Option Addr) (yn3 : Nat) (yc3 : Nat) (y4 : Int) (y5 : Int) (w : World) (R : Ending → World → Prop) : Prop := ∀ d1 d2 d6 d7 d8 d9 d10 d11 d12 d13 d14 d15 d16 d17 d18 d19 d20 d21 d22 d23 d24 d25 d26 d27 d28 d29 d30 d31 : Value, weftlaw3_join.l2 m0 n Y0 yn0 yc0 Y3 yn3 yc3 y4 y5 d1 d2 d6 d7 d8 d9 d10 d11 d12 d13 d14 d15 d16 d17 d18 d19 d20 d21 d22 d23 d24 d25 d26 d27 d28 d29 d30 d31 w R
theorem weftlaw3_join.l1_eq (n : Nat) (Y0 : Option Addr) (yn0 : Nat) (yc0 : Nat) (Y3 : Option Addr) (yn3 : Nat) (yc3 : Nat) (y4 : Int) (d1 d2 d5 d6 d7 d8 d9 d10 d11 d12 d13 d14 d15 d16 d17 d18 d19 d20 d21 d22 d23 d24 d25 d26 d27 d28 d29 d30 d31 : Value) (w : World) (R : Ending → World → Prop) : weftlaw3_join.l1 (n + 1) Y0 yn0 yc0 Y3 yn3 yc3 y4 d1 d2 d5 d6 d7 d8 d9 d10 d11 d12 d13 d14 d15 d16 d17 d18 d19 d20 d21 d22 d23 d24 d25 d26 d27 d28 d29 d30 d31 w R =
((if decide (y4 < (yn0 : Int)) = true then
(∃ n1 : Nat, weftlaw3_join.l2 n n1 Y0 yn0 yc0 Y3 yn3 yc3 y4 0 d1 d2 (.int .i64 y4) (.slice Y0 yn0 yc0) (.int .i64 (yn0 : Int)) (.bool (decide (y4 < (yn0 : Int)))) d10 d11 d12 d13 d14 d15 d16 d17 d18 d19 d20 d21 d22 d23 d24 d25 d26 d27 d28 d29 d30 d31 w R)
else
(R (.returned (.slice Y3 yn3 yc3)) w))) := by kernel_rfl
theorem weftlaw3_join.l2_eq (m0 : Nat) (n : Nat) (Y0 : Option Addr) (yn0 : Nat) (yc0 : Nat) (Y3 : Option Addr) (yn3 : Nat) (yc3 : Nat) (y4 : Int) (y5 : Int) (d1 d2 d6 d7 d8 d9 d10 d11 d12 d13 d14 d15 d16 d17 d18 d19 d20 d21 d22 d23 d24 d25 d26 d27 d28 d29 d30 d31 : Value) (w : World) (R : Ending → World → Prop) : weftlaw3_join.l2 m0 (n + 1) Y0 yn0 yc0 Y3 yn3 yc3 y4 y5 d1 d2 d6 d7 d8 d9 d10 d11 d12 d13 d14 d15 d16 d17 d18 d19 d20 d21 d22 d23 d24 d25 d26 d27 d28 d29 d30 d31 w R =
(∃ a1 : Addr, Y0 = some a1 ∧ (0 ≤ y4 ∧ y4 < (yn0 : Int)) ∧
(∃ (A2 : Option Addr) (n2_ c2_ : Nat), w.cell? (a1.add y4.toNat) = some (.slice A2 n2_ c2_) ∧
((if decide (y5 < (n2_ : Int)) = true then
(∃ a3 : Addr, Y0 = some a3 ∧ (0 ≤ y4 ∧ y4 < (yn0 : Int)) ∧
(∃ (A4 : Option Addr) (n4_ c4_ : Nat), w.cell? (a3.add y4.toNat) = some (.slice A4 n4_ c4_) ∧
(∃ a5 : Addr, A4 = some a5 ∧ (0 ≤ y5 ∧ y5 < (n4_ : Int)) ∧
(∃ x6 : Int, w.cell? (a5.add y5.toNat) = some (.int .u8 x6) ∧
(Let (w.heap.size) fun g7 : Nat =>
Let (w.alloc (.cells #[.int .u8 x6] 5)) fun w8 : World =>
AppE w8 1 1 5 [.int .u8 0] Y3 yn3 yc3 (some ⟨g7, 0, none⟩) 1 (fun (A9 : Option Addr) (c10 : Nat) (w11 : World) =>
Let (IntKind.i64.wrap (y5 + 1)) fun x12 : Int =>
weftlaw3_join.l2 m0 n Y0 yn0 yc0 A9 (yn3 + 1) c10 y4 x12 d1 d2 d6 d7 d8 d9 d10 d11 (.int .i64 y5) (.slice Y0 yn0 yc0) (.int .i64 y4) (.pointer (some (a1.add y4.toNat))) (.slice A2 n2_ c2_) (.int .i64 (n2_ : Int)) (.bool (decide (y5 < (n2_ : Int)))) (.int .i64 y5) (.int .i64 x12) (.slice Y3 yn3 yc3) (.slice Y0 yn0 yc0) (.int .i64 y4) (.pointer (some (a3.add y4.toNat))) (.slice A4 n4_ c4_) (.int .i64 y5) (.pointer (some (a5.add y5.toNat))) (.int .u8 x6) (.slice (some ⟨g7, 0, none⟩) 1 1) (.slice A9 (yn3 + 1) c10) d31 w11 R))))))
else
(Let (IntKind.i64.wrap (y4 + 1)) fun x13 : Int =>
weftlaw3_join.l1 m0 Y0 yn0 yc0 Y3 yn3 yc3 x13 d1 d2 (.int .i64 y5) d6 d7 d8 d9 (.int .i64 y4) (.int .i64 x13) (.int .i64 y5) (.slice Y0 yn0 yc0) (.int .i64 y4) (.pointer (some (a1.add y4.toNat))) (.slice A2 n2_ c2_) (.int .i64 (n2_ : Int)) (.bool (decide (y5 < (n2_ : Int)))) d19 d20 d21 d22 d23 d24 d25 d26 d27 d28 d29 d30 d31 w R))))) := by kernel_rfl
def weftlaw3_join.s (I0 : Option Addr) (in0 : Nat) (ic0 : Nat) (w : World) (R : Ending → World → Prop) : Prop :=
(∃ n1 : Nat, weftlaw3_join.l1 n1 I0 in0 ic0 none 0 0 0 undef (.slice none 0 0) undef undef undef undef undef undef undef undef undef undef undef undef undef undef undef undef undef undef undef undef undef undef undef undef undef undef undef w R)
theorem weftlaw3_join.s_eq (I0 : Option Addr) (in0 : Nat) (ic0 : Nat) (w : World) (R : Ending → World → Prop) : seg Try.prog entE weftlaw3_join.ords weftlaw3_join.joins Try.f54 [] [] [] ([.slice I0 in0 ic0] ++ List.replicate (Try.f54.ntmps - ([.slice I0 in0 ic0] : List Value).length) undef) w R = weftlaw3_join.s I0 in0 ic0 w R := by kernel_rfl
theorem weftlaw3_join.run {I0 : Option Addr} {in0 : Nat} {ic0 : Nat} {w : World} {R : Ending → World → Prop} (h : weftlaw3_join.s I0 in0 ic0 w R) : Calls Try.prog 54 #[.slice I0 in0 ic0] w R :=
  calls_seg ents mixed Try.func54 rfl (by rw [weftlaw3_join.s_eq]; exact h)
/-! ### weftlaw3_numbers: function 66 -/
def weftlaw3_numbers.ords : Nat → Od
  | _ => .nil
def weftlaw3_numbers.joins (p : List Nat) : Bool := false
def weftlaw3_numbers.s (i0_0 : Int) (I0_1 : Option Addr) (in0_1 : Nat) (ic0_1 : Nat) (I0_2 : Option Addr) (in0_2 : Nat) (ic0_2 : Nat) (i0_3 : Int) (i0_4 : Int) (i0_5 : Int) (i0_6 : Int) (i0_7 : Int) (i0_8 : Bool) (i0_9 : Bool) (i0_10 : Int) (i0_11 : Int) (i0_12 : Int) (i0_13 : Int) (i0_14 : Int) (I0_15 : Option Addr) (in0_15 : Nat) (ic0_15 : Nat) (I0_16 : Option Addr) (in0_16 : Nat) (ic0_16 : Nat) (w : World) (R : Ending → World → Prop) : Prop :=
(Let (w.heap.size) fun g1 : Nat =>
Let (w.alloc (.cells #[.int .i64 i0_0, .slice I0_1 in0_1 ic0_1, .slice I0_2 in0_2 ic0_2, .int .u16 i0_3, .int .u16 i0_4, .int .u16 i0_5, .int .u8 i0_6, .int .u16 i0_7, .bool i0_8, .bool i0_9, .int .i64 i0_10, .int .u8 i0_11, .int .u8 i0_12, .int .u32 i0_13, .int .u32 i0_14, .slice I0_15 in0_15 ic0_15, .slice I0_16 in0_16 ic0_16] 39)) fun w2 : World =>
∃ x3 : Int, w2.cell? ⟨g1, 0, none⟩ = some (.int .i64 x3) ∧
((if (x3 == 1) = true then
(∃ (A4 : Option Addr) (n4_ c4_ : Nat), w2.cell? ⟨g1, 2, none⟩ = some (.slice A4 n4_ c4_) ∧
(Calls Try.prog 37 #[.slice A4 n4_ c4_] w2 (fun (e6 : Ending) (w5 : World) =>
∃ x7 : Int, e6 = .returned (.int .u16 x7) ∧
(∃ (A8 : Option Addr) (n8_ c8_ : Nat), w5.cell? ⟨g1, 2, none⟩ = some (.slice A8 n8_ c8_) ∧
(Calls Try.prog 54 #[.slice A8 n8_ c8_] w5 (fun (e10 : Ending) (w9 : World) =>
∃ (A11 : Option Addr) (n11_ c11_ : Nat), e10 = .returned (.slice A11 n11_ c11_) ∧
(Let (w9.heap.size) fun g12 : Nat =>
Let (w9.alloc (.cells #[.slice A11 n11_ c11_] 30)) fun w13 : World =>
Calls Try.prog 38 #[.slice (some ⟨g12, 0, none⟩) 1 1] w13 (fun (e15 : Ending) (w14 : World) =>
∃ x16 : Int, e15 = .returned (.int .u16 x16) ∧
(R (.returned (.bool (x7 == x16))) w14)))))))))
else
(∃ x17 : Int, w2.cell? ⟨g1, 3, none⟩ = some (.int .u16 x17) ∧
(∃ x18 : Int, w2.cell? ⟨g1, 4, none⟩ = some (.int .u16 x18) ∧
(∃ x19 : Int, w2.cell? ⟨g1, 5, none⟩ = some (.int .u16 x19) ∧
(Calls Try.prog 56 #[.int .u16 x17, .int .u16 x18, .int .u16 x19] w2 (fun (e21 : Ending) (w20 : World) =>
∃ x22 : Int, e21 = .returned (.int .u16 x22) ∧
(∃ x23 : Int, w20.cell? ⟨g1, 3, none⟩ = some (.int .u16 x23) ∧
(∃ x24 : Int, w20.cell? ⟨g1, 4, none⟩ = some (.int .u16 x24) ∧
(∃ x25 : Int, w20.cell? ⟨g1, 5, none⟩ = some (.int .u16 x25) ∧
(Calls Try.prog 57 #[.int .u16 x23, .int .u16 x24, .int .u16 x25] w20 (fun (e27 : Ending) (w26 : World) =>
∃ x28 : Int, e27 = .returned (.int .u16 x28) ∧
(R (.returned (.bool (x22 == x28))) w26))))))))))))))
theorem weftlaw3_numbers.s_eq (i0_0 : Int) (I0_1 : Option Addr) (in0_1 : Nat) (ic0_1 : Nat) (I0_2 : Option Addr) (in0_2 : Nat) (ic0_2 : Nat) (i0_3 : Int) (i0_4 : Int) (i0_5 : Int) (i0_6 : Int) (i0_7 : Int) (i0_8 : Bool) (i0_9 : Bool) (i0_10 : Int) (i0_11 : Int) (i0_12 : Int) (i0_13 : Int) (i0_14 : Int) (I0_15 : Option Addr) (in0_15 : Nat) (ic0_15 : Nat) (I0_16 : Option Addr) (in0_16 : Nat) (ic0_16 : Nat) (w : World) (R : Ending → World → Prop) : seg Try.prog entE weftlaw3_numbers.ords weftlaw3_numbers.joins Try.f66 [] [] [] ([.agg #[.int .i64 i0_0, .slice I0_1 in0_1 ic0_1, .slice I0_2 in0_2 ic0_2, .int .u16 i0_3, .int .u16 i0_4, .int .u16 i0_5, .int .u8 i0_6, .int .u16 i0_7, .bool i0_8, .bool i0_9, .int .i64 i0_10, .int .u8 i0_11, .int .u8 i0_12, .int .u32 i0_13, .int .u32 i0_14, .slice I0_15 in0_15 ic0_15, .slice I0_16 in0_16 ic0_16]] ++ List.replicate (Try.f66.ntmps - ([.agg #[.int .i64 i0_0, .slice I0_1 in0_1 ic0_1, .slice I0_2 in0_2 ic0_2, .int .u16 i0_3, .int .u16 i0_4, .int .u16 i0_5, .int .u8 i0_6, .int .u16 i0_7, .bool i0_8, .bool i0_9, .int .i64 i0_10, .int .u8 i0_11, .int .u8 i0_12, .int .u32 i0_13, .int .u32 i0_14, .slice I0_15 in0_15 ic0_15, .slice I0_16 in0_16 ic0_16]] : List Value).length) undef) w R = weftlaw3_numbers.s i0_0 I0_1 in0_1 ic0_1 I0_2 in0_2 ic0_2 i0_3 i0_4 i0_5 i0_6 i0_7 i0_8 i0_9 i0_10 i0_11 i0_12 i0_13 i0_14 I0_15 in0_15 ic0_15 I0_16 in0_16 ic0_16 w R := by kernel_rfl
theorem weftlaw3_numbers.run {i0_0 : Int} {I0_1 : Option Addr} {in0_1 : Nat} {ic0_1 : Nat} {I0_2 : Option Addr} {in0_2 : Nat} {ic0_2 : Nat} {i0_3 : Int} {i0_4 : Int} {i0_5 : Int} {i0_6 : Int} {i0_7 : Int} {i0_8 : Bool} {i0_9 : Bool} {i0_10 : Int} {i0_11 : Int} {i0_12 : Int} {i0_13 : Int} {i0_14 : Int} {I0_15 : Option Addr} {in0_15 : Nat} {ic0_15 : Nat} {I0_16 : Option Addr} {in0_16 : Nat} {ic0_16 : Nat} {w : World} {R : Ending → World → Prop} (h : weftlaw3_numbers.s i0_0 I0_1 in0_1 ic0_1 I0_2 in0_2 ic0_2 i0_3 i0_4 i0_5 i0_6 i0_7 i0_8 i0_9 i0_10 i0_11 i0_12 i0_13 i0_14 I0_15 in0_15 ic0_15 I0_16 in0_16 ic0_16 w R) : Calls Try.prog 66 #[.agg #[.int .i64 i0_0, .slice I0_1 in0_1 ic0_1, .slice I0_2 in0_2 ic0_2, .int .u16 i0_3, .int .u16 i0_4, .int .u16 i0_5, .int .u8 i0_6, .int .u16 i0_7, .bool i0_8, .bool i0_9, .int .i64 i0_10, .int .u8 i0_11, .int .u8 i0_12, .int .u32 i0_13, .int .u32 i0_14, .slice I0_15 in0_15 ic0_15, .slice I0_16 in0_16 ic0_16]] w R :=
  calls_seg ents mixed Try.func66 rfl (by rw [weftlaw3_numbers.s_eq]; exact h)
/-! ### weftlaw3_plays: function 33 -/
def weftlaw3_plays.ords : Nat → Od
  | _ => .nil
def weftlaw3_plays.joins (p : List Nat) : Bool := p == [1, 0, 1, 0, 1]
def weftlaw3_plays.j1 (yg1 : Nat) (y26 : Int) (y27 : Bool) (d0 d2 d3 d4 d5 d6 d7 d8 d9 d10 d11 d12 d13 d14 d15 d16 d17 d18 d19 d20 d21 d22 d23 d24 d25 d28 d29 d30 d31 d32 d33 d34 d35 d36 d37 d38 d39 d40 d41 d42 d43 d44 d45 d46 d47 d48 d49 d50 d51 d52 d53 d54 d55 d56 d57 d58 d59 d60 d61 d62 d63 d64 d65 d66 d67 d68 d69 d70 d71 d72 d73 d74 d75 d76 d77 d78 d79 d80 d81 d82 d83 d84 d85 d86 d87 d88 d89 d90 d91 d92 d93 d94 d95 d96 d97 d98 d99 d100 d101 d102 d103 d104 d105 d106 d107 d108 d109 d110 d111 d112 d113 d114 d115 d116 d117 d118 d119 d120 d121 d122 d123 d124 d125 d126 d127 d128 d129 d130 d131 d132 d133 d134 d135 d136 d137 d138 d139 d140 d141 d142 d143 d144 d145 d146 d147 d148 : Value) (w : World) (R : Ending → World → Prop) : Prop :=
  seg Try.prog entE weftlaw3_plays.ords weftlaw3_plays.joins Try.f33 [1, 0, 1, 0, 1] [1, 0, 1, 0, 1] [] [d0, .pointer (some ⟨yg1, 0, none⟩), d2, d3, d4, d5, d6, d7, d8, d9, d10, d11, d12, d13, d14, d15, d16, d17, d18, d19, d20, d21, d22, d23, d24, d25, .int .i64 y26, .bool y27, d28, d29, d30, d31, d32, d33, d34, d35, d36, d37, d38, d39, d40, d41, d42, d43, d44, d45, d46, d47, d48, d49, d50, d51, d52, d53, d54, d55, d56, d57, d58, d59, d60, d61, d62, d63, d64, d65, d66, d67, d68, d69, d70, d71, d72, d73, d74, d75, d76, d77, d78, d79, d80, d81, d82, d83, d84, d85, d86, d87, d88, d89, d90, d91, d92, d93, d94, d95, d96, d97, d98, d99, d100, d101, d102, d103, d104, d105, d106, d107, d108, d109, d110, d111, d112, d113, d114, d115, d116, d117, d118, d119, d120, d121, d122, d123, d124, d125, d126, d127, d128, d129, d130, d131, d132, d133, d134, d135, d136, d137, d138, d139, d140, d141, d142, d143, d144, d145, d146, d147, d148] w R
abbrev weftlaw3_plays.J1 (yg1 : Nat) (y26 : Int) (y27 : Bool) (w : World) (R : Ending → World → Prop) : Prop := ∀ d0 d2 d3 d4 d5 d6 d7 d8 d9 d10 d11 d12 d13 d14 d15 d16 d17 d18 d19 d20 d21 d22 d23 d24 d25 d28 d29 d30 d31 d32 d33 d34 d35 d36 d37 d38 d39 d40 d41 d42 d43 d44 d45 d46 d47 d48 d49 d50 d51 d52 d53 d54 d55 d56 d57 d58 d59 d60 d61 d62 d63 d64 d65 d66 d67 d68 d69 d70 d71 d72 d73 d74 d75 d76 d77 d78 d79 d80 d81 d82 d83 d84 d85 d86 d87 d88 d89 d90 d91 d92 d93 d94 d95 d96 d97 d98 d99 d100 d101 d102 d103 d104 d105 d106 d107 d108 d109 d110 d111 d112 d113 d114 d115 d116 d117 d118 d119 d120 d121 d122 d123 d124 d125 d126 d127 d128 d129 d130 d131 d132 d133 d134 d135 d136 d137 d138 d139 d140 d141 d142 d143 d144 d145 d146 d147 d148 : Value, weftlaw3_plays.j1 yg1 y26 y27 d0 d2 d3 d4 d5 d6 d7 d8 d9 d10 d11 d12 d13 d14 d15 d16 d17 d18 d19 d20 d21 d22 d23 d24 d25 d28 d29 d30 d31 d32 d33 d34 d35 d36 d37 d38 d39 d40 d41 d42 d43 d44 d45 d46 d47 d48 d49 d50 d51 d52 d53 d54 d55 d56 d57 d58 d59 d60 d61 d62 d63 d64 d65 d66 d67 d68 d69 d70 d71 d72 d73 d74 d75 d76 d77 d78 d79 d80 d81 d82 d83 d84 d85 d86 d87 d88 d89 d90 d91 d92 d93 d94 d95 d96 d97 d98 d99 d100 d101 d102 d103 d104 d105 d106 d107 d108 d109 d110 d111 d112 d113 d114 d115 d116 d117 d118 d119 d120 d121 d122 d123 d124 d125 d126 d127 d128 d129 d130 d131 d132 d133 d134 d135 d136 d137 d138 d139 d140 d141 d142 d143 d144 d145 d146 d147 d148 w R
theorem weftlaw3_plays.j1_eq (yg1 : Nat) (y26 : Int) (y27 : Bool) (d0 d2 d3 d4 d5 d6 d7 d8 d9 d10 d11 d12 d13 d14 d15 d16 d17 d18 d19 d20 d21 d22 d23 d24 d25 d28 d29 d30 d31 d32 d33 d34 d35 d36 d37 d38 d39 d40 d41 d42 d43 d44 d45 d46 d47 d48 d49 d50 d51 d52 d53 d54 d55 d56 d57 d58 d59 d60 d61 d62 d63 d64 d65 d66 d67 d68 d69 d70 d71 d72 d73 d74 d75 d76 d77 d78 d79 d80 d81 d82 d83 d84 d85 d86 d87 d88 d89 d90 d91 d92 d93 d94 d95 d96 d97 d98 d99 d100 d101 d102 d103 d104 d105 d106 d107 d108 d109 d110 d111 d112 d113 d114 d115 d116 d117 d118 d119 d120 d121 d122 d123 d124 d125 d126 d127 d128 d129 d130 d131 d132 d133 d134 d135 d136 d137 d138 d139 d140 d141 d142 d143 d144 d145 d146 d147 d148 : Value) (w : World) (R : Ending → World → Prop) : weftlaw3_plays.j1 yg1 y26 y27 d0 d2 d3 d4 d5 d6 d7 d8 d9 d10 d11 d12 d13 d14 d15 d16 d17 d18 d19 d20 d21 d22 d23 d24 d25 d28 d29 d30 d31 d32 d33 d34 d35 d36 d37 d38 d39 d40 d41 d42 d43 d44 d45 d46 d47 d48 d49 d50 d51 d52 d53 d54 d55 d56 d57 d58 d59 d60 d61 d62 d63 d64 d65 d66 d67 d68 d69 d70 d71 d72 d73 d74 d75 d76 d77 d78 d79 d80 d81 d82 d83 d84 d85 d86 d87 d88 d89 d90 d91 d92 d93 d94 d95 d96 d97 d98 d99 d100 d101 d102 d103 d104 d105 d106 d107 d108 d109 d110 d111 d112 d113 d114 d115 d116 d117 d118 d119 d120 d121 d122 d123 d124 d125 d126 d127 d128 d129 d130 d131 d132 d133 d134 d135 d136 d137 d138 d139 d140 d141 d142 d143 d144 d145 d146 d147 d148 w R =
((if y27 = true then
(∃ x1 : Int, ∃ (A2 : Option Addr) (n2_ c2_ : Nat), ∃ (A3 : Option Addr) (n3_ c3_ : Nat), ∃ x4 : Int, ∃ x5 : Int, ∃ x6 : Int, ∃ x7 : Int, ∃ x8 : Int, ∃ b9 : Bool, ∃ b10 : Bool, ∃ x11 : Int, ∃ x12 : Int, ∃ x13 : Int, ∃ x14 : Int, ∃ x15 : Int, ∃ (A16 : Option Addr) (n16_ c16_ : Nat), ∃ (A17 : Option Addr) (n17_ c17_ : Nat), (17 = 17 ∧ At w ⟨yg1, 0, none⟩ [.int .i64 x1, .slice A2 n2_ c2_, .slice A3 n3_ c3_, .int .u16 x4, .int .u16 x5, .int .u16 x6, .int .u8 x7, .int .u16 x8, .bool b9, .bool b10, .int .i64 x11, .int .u8 x12, .int .u8 x13, .int .u32 x14, .int .u32 x15, .slice A16 n16_ c16_, .slice A17 n17_ c17_]) ∧
(Calls Try.prog 66 #[.agg #[.int .i64 x1, .slice A2 n2_ c2_, .slice A3 n3_ c3_, .int .u16 x4, .int .u16 x5, .int .u16 x6, .int .u8 x7, .int .u16 x8, .bool b9, .bool b10, .int .i64 x11, .int .u8 x12, .int .u8 x13, .int .u32 x14, .int .u32 x15, .slice A16 n16_ c16_, .slice A17 n17_ c17_]] w (fun (e19 : Ending) (w18 : World) =>
∃ b20 : Bool, e19 = .returned (.bool b20) ∧
(R (.returned (.bool b20)) w18))))
else
((if (y26 == 3) = true then
(∃ (A21 : Option Addr) (n21_ c21_ : Nat), w.cell? ⟨yg1, 1, none⟩ = some (.slice A21 n21_ c21_) ∧
(Calls Try.prog 43 #[.slice A21 n21_ c21_] w (fun (e23 : Ending) (w22 : World) =>
∃ x24 : Int, ∃ x25 : Int, ∃ b26 : Bool, ∃ b27 : Bool, ∃ x28 : Int, ∃ x29 : Int, ∃ x30 : Int, ∃ x31 : Int, ∃ x32 : Int, ∃ (A33 : Option Addr) (n33_ c33_ : Nat), ∃ (A34 : Option Addr) (n34_ c34_ : Nat), ∃ x35 : Int, e23 = .returned (.tuple #[.agg #[.int .u8 x24, .int .u16 x25, .bool b26, .bool b27, .int .i64 x28, .int .u8 x29, .int .u8 x30, .int .u32 x31, .int .u32 x32, .slice A33 n33_ c33_, .slice A34 n34_ c34_], .int .i64 x35]) ∧
(Let (w22.heap.size) fun g36 : Nat =>
Let (w22.alloc (.cells #[.int .u8 0, .int .u16 0, .bool false, .bool false, .int .i64 0, .int .u8 0, .int .u8 0, .int .u32 0, .int .u32 0, .slice none 0 0, .slice none 0 0] 37)) fun w37 : World =>
May w37 ⟨g36, 0, none⟩ 11 ∧
(Let (putCells w37 ⟨g36, 0, none⟩ [.int .u8 x24, .int .u16 x25, .bool b26, .bool b27, .int .i64 x28, .int .u8 x29, .int .u8 x30, .int .u32 x31, .int .u32 x32, .slice A33 n33_ c33_, .slice A34 n34_ c34_] 0) fun w38 : World =>
∃ (A39 : Option Addr) (n39_ c39_ : Nat), w38.cell? ⟨yg1, 1, none⟩ = some (.slice A39 n39_ c39_) ∧
(Calls Try.prog 44 #[.slice A39 n39_ c39_] w38 (fun (e41 : Ending) (w40 : World) =>
∃ x42 : Int, ∃ x43 : Int, ∃ b44 : Bool, ∃ b45 : Bool, ∃ x46 : Int, ∃ x47 : Int, ∃ x48 : Int, ∃ x49 : Int, ∃ x50 : Int, ∃ (A51 : Option Addr) (n51_ c51_ : Nat), ∃ (A52 : Option Addr) (n52_ c52_ : Nat), ∃ x53 : Int, e41 = .returned (.tuple #[.agg #[.int .u8 x42, .int .u16 x43, .bool b44, .bool b45, .int .i64 x46, .int .u8 x47, .int .u8 x48, .int .u32 x49, .int .u32 x50, .slice A51 n51_ c51_, .slice A52 n52_ c52_], .int .i64 x53]) ∧
(Let (w40.heap.size) fun g54 : Nat =>
Let (w40.alloc (.cells #[.int .u8 0, .int .u16 0, .bool false, .bool false, .int .i64 0, .int .u8 0, .int .u8 0, .int .u32 0, .int .u32 0, .slice none 0 0, .slice none 0 0] 37)) fun w55 : World =>
May w55 ⟨g54, 0, none⟩ 11 ∧
(Let (putCells w55 ⟨g54, 0, none⟩ [.int .u8 x42, .int .u16 x43, .bool b44, .bool b45, .int .i64 x46, .int .u8 x47, .int .u8 x48, .int .u32 x49, .int .u32 x50, .slice A51 n51_ c51_, .slice A52 n52_ c52_] 0) fun w56 : World =>
(if (x35 == x53) = true then
(∃ x57 : Int, ∃ x58 : Int, ∃ b59 : Bool, ∃ b60 : Bool, ∃ x61 : Int, ∃ x62 : Int, ∃ x63 : Int, ∃ x64 : Int, ∃ x65 : Int, ∃ (A66 : Option Addr) (n66_ c66_ : Nat), ∃ (A67 : Option Addr) (n67_ c67_ : Nat), (11 = 11 ∧ At w56 ⟨g36, 0, none⟩ [.int .u8 x57, .int .u16 x58, .bool b59, .bool b60, .int .i64 x61, .int .u8 x62, .int .u8 x63, .int .u32 x64, .int .u32 x65, .slice A66 n66_ c66_, .slice A67 n67_ c67_]) ∧
(∃ x68 : Int, ∃ x69 : Int, ∃ b70 : Bool, ∃ b71 : Bool, ∃ x72 : Int, ∃ x73 : Int, ∃ x74 : Int, ∃ x75 : Int, ∃ x76 : Int, ∃ (A77 : Option Addr) (n77_ c77_ : Nat), ∃ (A78 : Option Addr) (n78_ c78_ : Nat), (11 = 11 ∧ At w56 ⟨g54, 0, none⟩ [.int .u8 x68, .int .u16 x69, .bool b70, .bool b71, .int .i64 x72, .int .u8 x73, .int .u8 x74, .int .u32 x75, .int .u32 x76, .slice A77 n77_ c77_, .slice A78 n78_ c78_]) ∧
(Calls Try.prog 45 #[.agg #[.int .u8 x57, .int .u16 x58, .bool b59, .bool b60, .int .i64 x61, .int .u8 x62, .int .u8 x63, .int .u32 x64, .int .u32 x65, .slice A66 n66_ c66_, .slice A67 n67_ c67_], .agg #[.int .u8 x68, .int .u16 x69, .bool b70, .bool b71, .int .i64 x72, .int .u8 x73, .int .u8 x74, .int .u32 x75, .int .u32 x76, .slice A77 n77_ c77_, .slice A78 n78_ c78_]] w56 (fun (e80 : Ending) (w79 : World) =>
∃ b81 : Bool, e80 = .returned (.bool b81) ∧
(R (.returned (.bool b81)) w79)))))
else
(R (.returned (.bool false)) w56)))))))))))
else
((if (y26 == 4) = true then
(∃ (A82 : Option Addr) (n82_ c82_ : Nat), w.cell? ⟨yg1, 1, none⟩ = some (.slice A82 n82_ c82_) ∧
(Calls Try.prog 47 #[.slice A82 n82_ c82_] w (fun (e84 : Ending) (w83 : World) =>
∃ x85 : Int, ∃ x86 : Int, ∃ b87 : Bool, ∃ b88 : Bool, ∃ x89 : Int, ∃ x90 : Int, ∃ x91 : Int, ∃ x92 : Int, ∃ x93 : Int, ∃ (A94 : Option Addr) (n94_ c94_ : Nat), ∃ (A95 : Option Addr) (n95_ c95_ : Nat), ∃ x96 : Int, e84 = .returned (.tuple #[.agg #[.int .u8 x85, .int .u16 x86, .bool b87, .bool b88, .int .i64 x89, .int .u8 x90, .int .u8 x91, .int .u32 x92, .int .u32 x93, .slice A94 n94_ c94_], .slice A95 n95_ c95_, .int .i64 x96]) ∧
(Let (w83.heap.size) fun g97 : Nat =>
Let (w83.alloc (.cells #[.int .u8 0, .int .u16 0, .bool false, .bool false, .int .i64 0, .int .u8 0, .int .u8 0, .int .u32 0, .int .u32 0, .slice none 0 0] 35)) fun w98 : World =>
May w98 ⟨g97, 0, none⟩ 10 ∧
(Let (putCells w98 ⟨g97, 0, none⟩ [.int .u8 x85, .int .u16 x86, .bool b87, .bool b88, .int .i64 x89, .int .u8 x90, .int .u8 x91, .int .u32 x92, .int .u32 x93, .slice A94 n94_ c94_] 0) fun w99 : World =>
∃ (A100 : Option Addr) (n100_ c100_ : Nat), w99.cell? ⟨yg1, 1, none⟩ = some (.slice A100 n100_ c100_) ∧
(Calls Try.prog 48 #[.slice A100 n100_ c100_] w99 (fun (e102 : Ending) (w101 : World) =>
∃ x103 : Int, ∃ x104 : Int, ∃ b105 : Bool, ∃ b106 : Bool, ∃ x107 : Int, ∃ x108 : Int, ∃ x109 : Int, ∃ x110 : Int, ∃ x111 : Int, ∃ (A112 : Option Addr) (n112_ c112_ : Nat), ∃ (A113 : Option Addr) (n113_ c113_ : Nat), ∃ x114 : Int, e102 = .returned (.tuple #[.agg #[.int .u8 x103, .int .u16 x104, .bool b105, .bool b106, .int .i64 x107, .int .u8 x108, .int .u8 x109, .int .u32 x110, .int .u32 x111, .slice A112 n112_ c112_], .slice A113 n113_ c113_, .int .i64 x114]) ∧
(Let (w101.heap.size) fun g115 : Nat =>
Let (w101.alloc (.cells #[.int .u8 0, .int .u16 0, .bool false, .bool false, .int .i64 0, .int .u8 0, .int .u8 0, .int .u32 0, .int .u32 0, .slice none 0 0] 35)) fun w116 : World =>
May w116 ⟨g115, 0, none⟩ 10 ∧
(Let (putCells w116 ⟨g115, 0, none⟩ [.int .u8 x103, .int .u16 x104, .bool b105, .bool b106, .int .i64 x107, .int .u8 x108, .int .u8 x109, .int .u32 x110, .int .u32 x111, .slice A112 n112_ c112_] 0) fun w117 : World =>
(if (x96 == x114) = true then
(∃ x118 : Int, ∃ x119 : Int, ∃ b120 : Bool, ∃ b121 : Bool, ∃ x122 : Int, ∃ x123 : Int, ∃ x124 : Int, ∃ x125 : Int, ∃ x126 : Int, ∃ (A127 : Option Addr) (n127_ c127_ : Nat), (10 = 10 ∧ At w117 ⟨g97, 0, none⟩ [.int .u8 x118, .int .u16 x119, .bool b120, .bool b121, .int .i64 x122, .int .u8 x123, .int .u8 x124, .int .u32 x125, .int .u32 x126, .slice A127 n127_ c127_]) ∧
(∃ x128 : Int, ∃ x129 : Int, ∃ b130 : Bool, ∃ b131 : Bool, ∃ x132 : Int, ∃ x133 : Int, ∃ x134 : Int, ∃ x135 : Int, ∃ x136 : Int, ∃ (A137 : Option Addr) (n137_ c137_ : Nat), (10 = 10 ∧ At w117 ⟨g115, 0, none⟩ [.int .u8 x128, .int .u16 x129, .bool b130, .bool b131, .int .i64 x132, .int .u8 x133, .int .u8 x134, .int .u32 x135, .int .u32 x136, .slice A137 n137_ c137_]) ∧
(Calls Try.prog 49 #[.agg #[.int .u8 x118, .int .u16 x119, .bool b120, .bool b121, .int .i64 x122, .int .u8 x123, .int .u8 x124, .int .u32 x125, .int .u32 x126, .slice A127 n127_ c127_], .agg #[.int .u8 x128, .int .u16 x129, .bool b130, .bool b131, .int .i64 x132, .int .u8 x133, .int .u8 x134, .int .u32 x135, .int .u32 x136, .slice A137 n137_ c137_]] w117 (fun (e139 : Ending) (w138 : World) =>
∃ b140 : Bool, e139 = .returned (.bool b140) ∧
((if b140 = true then
(Calls Try.prog 39 #[.slice A95 n95_ c95_, .slice A113 n113_ c113_] w138 (fun (e142 : Ending) (w141 : World) =>
∃ b143 : Bool, e142 = .returned (.bool b143) ∧
(R (.returned (.bool b143)) w141)))
else
(R (.returned (.bool false)) w138)))))))
else
(R (.returned (.bool false)) w117)))))))))))
else
((if (y26 == 5) = true then
(∃ x144 : Int, ∃ x145 : Int, ∃ b146 : Bool, ∃ b147 : Bool, ∃ x148 : Int, ∃ x149 : Int, ∃ x150 : Int, ∃ x151 : Int, ∃ x152 : Int, ∃ (A153 : Option Addr) (n153_ c153_ : Nat), ∃ (A154 : Option Addr) (n154_ c154_ : Nat), (11 = 11 ∧ At w ⟨yg1, 6, none⟩ [.int .u8 x144, .int .u16 x145, .bool b146, .bool b147, .int .i64 x148, .int .u8 x149, .int .u8 x150, .int .u32 x151, .int .u32 x152, .slice A153 n153_ c153_, .slice A154 n154_ c154_]) ∧
(Calls Try.prog 36 #[.agg #[.int .u8 x144, .int .u16 x145, .bool b146, .bool b147, .int .i64 x148, .int .u8 x149, .int .u8 x150, .int .u32 x151, .int .u32 x152, .slice A153 n153_ c153_, .slice A154 n154_ c154_]] w (fun (e156 : Ending) (w155 : World) =>
∃ (A157 : Option Addr) (n157_ c157_ : Nat), ∃ x158 : Int, e156 = .returned (.tuple #[.slice A157 n157_ c157_, .int .i64 x158]) ∧
(∃ x159 : Int, ∃ x160 : Int, ∃ b161 : Bool, ∃ b162 : Bool, ∃ x163 : Int, ∃ x164 : Int, ∃ x165 : Int, ∃ x166 : Int, ∃ x167 : Int, ∃ (A168 : Option Addr) (n168_ c168_ : Nat), ∃ (A169 : Option Addr) (n169_ c169_ : Nat), (11 = 11 ∧ At w155 ⟨yg1, 6, none⟩ [.int .u8 x159, .int .u16 x160, .bool b161, .bool b162, .int .i64 x163, .int .u8 x164, .int .u8 x165, .int .u32 x166, .int .u32 x167, .slice A168 n168_ c168_, .slice A169 n169_ c169_]) ∧
(Calls Try.prog 34 #[.agg #[.int .u8 x159, .int .u16 x160, .bool b161, .bool b162, .int .i64 x163, .int .u8 x164, .int .u8 x165, .int .u32 x166, .int .u32 x167, .slice A168 n168_ c168_, .slice A169 n169_ c169_]] w155 (fun (e171 : Ending) (w170 : World) =>
∃ (A172 : Option Addr) (n172_ c172_ : Nat), ∃ x173 : Int, e171 = .returned (.tuple #[.slice A172 n172_ c172_, .int .i64 x173]) ∧
((if (x158 == x173) = true then
(Calls Try.prog 39 #[.slice A157 n157_ c157_, .slice A172 n172_ c172_] w170 (fun (e175 : Ending) (w174 : World) =>
∃ b176 : Bool, e175 = .returned (.bool b176) ∧
(R (.returned (.bool b176)) w174)))
else
(R (.returned (.bool false)) w170)))))))))
else
((if (y26 == 6) = true then
(∃ (A177 : Option Addr) (n177_ c177_ : Nat), w.cell? ⟨yg1, 1, none⟩ = some (.slice A177 n177_ c177_) ∧
(Calls Try.prog 50 #[.slice A177 n177_ c177_] w (fun (e179 : Ending) (w178 : World) =>
∃ (A180 : Option Addr) (n180_ c180_ : Nat), ∃ x181 : Int, e179 = .returned (.tuple #[.slice A180 n180_ c180_, .int .i64 x181]) ∧
(∃ (A182 : Option Addr) (n182_ c182_ : Nat), w178.cell? ⟨yg1, 1, none⟩ = some (.slice A182 n182_ c182_) ∧
(Calls Try.prog 51 #[.slice A182 n182_ c182_] w178 (fun (e184 : Ending) (w183 : World) =>
∃ (A185 : Option Addr) (n185_ c185_ : Nat), ∃ x186 : Int, e184 = .returned (.tuple #[.slice A185 n185_ c185_, .int .i64 x186]) ∧
((if (x181 == x186) = true then
(Calls Try.prog 39 #[.slice A180 n180_ c180_, .slice A185 n185_ c185_] w183 (fun (e188 : Ending) (w187 : World) =>
∃ b189 : Bool, e188 = .returned (.bool b189) ∧
(R (.returned (.bool b189)) w187)))
else
(R (.returned (.bool false)) w183)))))))))
else
((if (y26 == 7) = true then
(∃ (A190 : Option Addr) (n190_ c190_ : Nat), w.cell? ⟨yg1, 1, none⟩ = some (.slice A190 n190_ c190_) ∧
(Calls Try.prog 52 #[.slice A190 n190_ c190_] w (fun (e192 : Ending) (w191 : World) =>
∃ (A193 : Option Addr) (n193_ c193_ : Nat), ∃ x194 : Int, e192 = .returned (.tuple #[.slice A193 n193_ c193_, .int .i64 x194]) ∧
(∃ (A195 : Option Addr) (n195_ c195_ : Nat), w191.cell? ⟨yg1, 1, none⟩ = some (.slice A195 n195_ c195_) ∧
(Calls Try.prog 53 #[.slice A195 n195_ c195_] w191 (fun (e197 : Ending) (w196 : World) =>
∃ (A198 : Option Addr) (n198_ c198_ : Nat), ∃ x199 : Int, e197 = .returned (.tuple #[.slice A198 n198_ c198_, .int .i64 x199]) ∧
((if (x194 == x199) = true then
(Calls Try.prog 39 #[.slice A193 n193_ c193_, .slice A198 n198_ c198_] w196 (fun (e201 : Ending) (w200 : World) =>
∃ b202 : Bool, e201 = .returned (.bool b202) ∧
(R (.returned (.bool b202)) w200)))
else
(R (.returned (.bool false)) w196)))))))))
else
(R (.returned (.bool true)) w))))))))))))) := by kernel_rfl
def weftlaw3_plays.s (i0_0 : Int) (I0_1 : Option Addr) (in0_1 : Nat) (ic0_1 : Nat) (I0_2 : Option Addr) (in0_2 : Nat) (ic0_2 : Nat) (i0_3 : Int) (i0_4 : Int) (i0_5 : Int) (i0_6 : Int) (i0_7 : Int) (i0_8 : Bool) (i0_9 : Bool) (i0_10 : Int) (i0_11 : Int) (i0_12 : Int) (i0_13 : Int) (i0_14 : Int) (I0_15 : Option Addr) (in0_15 : Nat) (ic0_15 : Nat) (I0_16 : Option Addr) (in0_16 : Nat) (ic0_16 : Nat) (w : World) (R : Ending → World → Prop) : Prop :=
(Let (w.heap.size) fun g1 : Nat =>
Let (w.alloc (.cells #[.int .i64 i0_0, .slice I0_1 in0_1 ic0_1, .slice I0_2 in0_2 ic0_2, .int .u16 i0_3, .int .u16 i0_4, .int .u16 i0_5, .int .u8 i0_6, .int .u16 i0_7, .bool i0_8, .bool i0_9, .int .i64 i0_10, .int .u8 i0_11, .int .u8 i0_12, .int .u32 i0_13, .int .u32 i0_14, .slice I0_15 in0_15 ic0_15, .slice I0_16 in0_16 ic0_16] 39)) fun w2 : World =>
∃ x3 : Int, w2.cell? ⟨g1, 0, none⟩ = some (.int .i64 x3) ∧
((if (x3 == 1) = true then
(Leaf (weftlaw3_plays.j1 g1 x3 (x3 == 1) (.agg #[.int .i64 i0_0, .slice I0_1 in0_1 ic0_1, .slice I0_2 in0_2 ic0_2, .int .u16 i0_3, .int .u16 i0_4, .int .u16 i0_5, .int .u8 i0_6, .int .u16 i0_7, .bool i0_8, .bool i0_9, .int .i64 i0_10, .int .u8 i0_11, .int .u8 i0_12, .int .u32 i0_13, .int .u32 i0_14, .slice I0_15 in0_15 ic0_15, .slice I0_16 in0_16 ic0_16]) (.bool false) undef undef undef undef undef undef undef undef undef undef undef undef undef undef undef undef undef undef undef undef undef undef (.pointer (some ⟨g1, 0, none⟩)) (.bool (x3 == 1)) undef undef undef undef undef undef undef undef undef undef undef undef undef undef undef undef undef undef undef undef undef undef undef undef undef undef undef undef undef undef undef undef undef undef undef undef undef undef undef undef undef undef undef undef undef undef undef undef undef undef undef undef undef undef undef undef undef undef undef undef undef undef undef undef undef undef undef undef undef undef undef undef undef undef undef undef undef undef undef undef undef undef undef undef undef undef undef undef undef undef undef undef undef undef undef undef undef undef undef undef undef undef undef undef undef undef undef undef undef undef undef undef undef undef undef undef undef undef undef undef w2 R))
else
(Leaf (weftlaw3_plays.j1 g1 x3 (x3 == 2) (.agg #[.int .i64 i0_0, .slice I0_1 in0_1 ic0_1, .slice I0_2 in0_2 ic0_2, .int .u16 i0_3, .int .u16 i0_4, .int .u16 i0_5, .int .u8 i0_6, .int .u16 i0_7, .bool i0_8, .bool i0_9, .int .i64 i0_10, .int .u8 i0_11, .int .u8 i0_12, .int .u32 i0_13, .int .u32 i0_14, .slice I0_15 in0_15 ic0_15, .slice I0_16 in0_16 ic0_16]) (.bool false) undef undef undef undef undef undef undef undef undef undef undef undef undef undef undef undef undef undef undef undef undef undef (.pointer (some ⟨g1, 0, none⟩)) (.bool (x3 == 1)) (.bool (x3 == 2)) undef undef undef undef undef undef undef undef undef undef undef undef undef undef undef undef undef undef undef undef undef undef undef undef undef undef undef undef undef undef undef undef undef undef undef undef undef undef undef undef undef undef undef undef undef undef undef undef undef undef undef undef undef undef undef undef undef undef undef undef undef undef undef undef undef undef undef undef undef undef undef undef undef undef undef undef undef undef undef undef undef undef undef undef undef undef undef undef undef undef undef undef undef undef undef undef undef undef undef undef undef undef undef undef undef undef undef undef undef undef undef undef undef undef undef undef undef undef undef w2 R)))))
theorem weftlaw3_plays.s_eq (i0_0 : Int) (I0_1 : Option Addr) (in0_1 : Nat) (ic0_1 : Nat) (I0_2 : Option Addr) (in0_2 : Nat) (ic0_2 : Nat) (i0_3 : Int) (i0_4 : Int) (i0_5 : Int) (i0_6 : Int) (i0_7 : Int) (i0_8 : Bool) (i0_9 : Bool) (i0_10 : Int) (i0_11 : Int) (i0_12 : Int) (i0_13 : Int) (i0_14 : Int) (I0_15 : Option Addr) (in0_15 : Nat) (ic0_15 : Nat) (I0_16 : Option Addr) (in0_16 : Nat) (ic0_16 : Nat) (w : World) (R : Ending → World → Prop) : seg Try.prog entE weftlaw3_plays.ords weftlaw3_plays.joins Try.f33 [] [] [] ([.agg #[.int .i64 i0_0, .slice I0_1 in0_1 ic0_1, .slice I0_2 in0_2 ic0_2, .int .u16 i0_3, .int .u16 i0_4, .int .u16 i0_5, .int .u8 i0_6, .int .u16 i0_7, .bool i0_8, .bool i0_9, .int .i64 i0_10, .int .u8 i0_11, .int .u8 i0_12, .int .u32 i0_13, .int .u32 i0_14, .slice I0_15 in0_15 ic0_15, .slice I0_16 in0_16 ic0_16]] ++ List.replicate (Try.f33.ntmps - ([.agg #[.int .i64 i0_0, .slice I0_1 in0_1 ic0_1, .slice I0_2 in0_2 ic0_2, .int .u16 i0_3, .int .u16 i0_4, .int .u16 i0_5, .int .u8 i0_6, .int .u16 i0_7, .bool i0_8, .bool i0_9, .int .i64 i0_10, .int .u8 i0_11, .int .u8 i0_12, .int .u32 i0_13, .int .u32 i0_14, .slice I0_15 in0_15 ic0_15, .slice I0_16 in0_16 ic0_16]] : List Value).length) undef) w R = weftlaw3_plays.s i0_0 I0_1 in0_1 ic0_1 I0_2 in0_2 ic0_2 i0_3 i0_4 i0_5 i0_6 i0_7 i0_8 i0_9 i0_10 i0_11 i0_12 i0_13 i0_14 I0_15 in0_15 ic0_15 I0_16 in0_16 ic0_16 w R := by kernel_rfl
theorem weftlaw3_plays.run {i0_0 : Int} {I0_1 : Option Addr} {in0_1 : Nat} {ic0_1 : Nat} {I0_2 : Option Addr} {in0_2 : Nat} {ic0_2 : Nat} {i0_3 : Int} {i0_4 : Int} {i0_5 : Int} {i0_6 : Int} {i0_7 : Int} {i0_8 : Bool} {i0_9 : Bool} {i0_10 : Int} {i0_11 : Int} {i0_12 : Int} {i0_13 : Int} {i0_14 : Int} {I0_15 : Option Addr} {in0_15 : Nat} {ic0_15 : Nat} {I0_16 : Option Addr} {in0_16 : Nat} {ic0_16 : Nat} {w : World} {R : Ending → World → Prop} (h : weftlaw3_plays.s i0_0 I0_1 in0_1 ic0_1 I0_2 in0_2 ic0_2 i0_3 i0_4 i0_5 i0_6 i0_7 i0_8 i0_9 i0_10 i0_11 i0_12 i0_13 i0_14 I0_15 in0_15 ic0_15 I0_16 in0_16 ic0_16 w R) : Calls Try.prog 33 #[.agg #[.int .i64 i0_0, .slice I0_1 in0_1 ic0_1, .slice I0_2 in0_2 ic0_2, .int .u16 i0_3, .int .u16 i0_4, .int .u16 i0_5, .int .u8 i0_6, .int .u16 i0_7, .bool i0_8, .bool i0_9, .int .i64 i0_10, .int .u8 i0_11, .int .u8 i0_12, .int .u32 i0_13, .int .u32 i0_14, .slice I0_15 in0_15 ic0_15, .slice I0_16 in0_16 ic0_16]] w R :=
  calls_seg ents mixed Try.func33 rfl (by rw [weftlaw3_plays.s_eq]; exact h)
/-! ### weftlaw3_head: function 8 -/
def weftlaw3_head.ords : Nat → Od
  | _ => .nil
def weftlaw3_head.joins (p : List Nat) : Bool := false
def weftlaw3_head.s (i0 : Int) (w : World) (R : Ending → World → Prop) : Prop :=
(Let (w.heap.size) fun g1 : Nat =>
Let (w.alloc (.cells #[.int .u8 1, .int .u8 2, .int .u8 3] 5)) fun w2 : World =>
Let (w2.heap.size) fun g3 : Nat =>
Let (w2.alloc (.cells #[.int .u8 0, .int .u16 0, .bool false, .bool false, .int .i64 0, .int .u8 0, .int .u8 0, .int .u32 0, .int .u32 0, .slice none 0 0, .slice none 0 0] 37)) fun w4 : World =>
May w4 ⟨g3, 0, none⟩ 11 ∧
(Let (putCells w4 ⟨g3, 0, none⟩ [.int .u8 0, .int .u16 7216, .bool true, .bool false, .int .i64 0, .int .u8 64, .int .u8 6, .int .u32 167838211, .int .u32 167904004, .slice none 0 0, .slice (some ⟨g1, 0, none⟩) 3 3] 0) fun w5 : World =>
∃ x6 : Int, ∃ x7 : Int, ∃ b8 : Bool, ∃ b9 : Bool, ∃ x10 : Int, ∃ x11 : Int, ∃ x12 : Int, ∃ x13 : Int, ∃ x14 : Int, ∃ (A15 : Option Addr) (n15_ c15_ : Nat), ∃ (A16 : Option Addr) (n16_ c16_ : Nat), (11 = 11 ∧ At w5 ⟨g3, 0, none⟩ [.int .u8 x6, .int .u16 x7, .bool b8, .bool b9, .int .i64 x10, .int .u8 x11, .int .u8 x12, .int .u32 x13, .int .u32 x14, .slice A15 n15_ c15_, .slice A16 n16_ c16_]) ∧
(Calls Try.prog 34 #[.agg #[.int .u8 x6, .int .u16 x7, .bool b8, .bool b9, .int .i64 x10, .int .u8 x11, .int .u8 x12, .int .u32 x13, .int .u32 x14, .slice A15 n15_ c15_, .slice A16 n16_ c16_]] w5 (fun (e18 : Ending) (w17 : World) =>
∃ (A19 : Option Addr) (n19_ c19_ : Nat), ∃ x20 : Int, e18 = .returned (.tuple #[.slice A19 n19_ c19_, .int .i64 x20]) ∧
((if (i0 == 1) = true then
(Let (w17.heap.size) fun g21 : Nat =>
Let (w17.alloc (.cells #[.int .u8 1] 5)) fun w22 : World =>
Let (w22.heap.size) fun g23 : Nat =>
Let (w22.alloc (.cells #[.int .u8 2, .int .u8 3] 5)) fun w24 : World =>
Let (w24.heap.size) fun g25 : Nat =>
Let (w24.alloc (.cells #[.slice (some ⟨g21, 0, none⟩) 1 1, .slice (some ⟨g23, 0, none⟩) 2 2] 30)) fun w26 : World =>
Calls Try.prog 33 #[.agg #[.int .i64 1, .slice none 0 0, .slice (some ⟨g25, 0, none⟩) 2 2, .int .u16 0, .int .u16 0, .int .u16 0, .int .u8 0, .int .u16 0, .bool false, .bool false, .int .i64 0, .int .u8 0, .int .u8 0, .int .u32 0, .int .u32 0, .slice none 0 0, .slice none 0 0]] w26 (fun (e28 : Ending) (w27 : World) =>
∃ b29 : Bool, e28 = .returned (.bool b29) ∧
(R (.returned (.bool b29)) w27)))
else
((if (i0 == 2) = true then
(Calls Try.prog 33 #[.agg #[.int .i64 2, .slice none 0 0, .slice none 0 0, .int .u16 4660, .int .u16 16390, .int .u16 16134, .int .u8 0, .int .u16 0, .bool false, .bool false, .int .i64 0, .int .u8 0, .int .u8 0, .int .u32 0, .int .u32 0, .slice none 0 0, .slice none 0 0]] w17 (fun (e31 : Ending) (w30 : World) =>
∃ b32 : Bool, e31 = .returned (.bool b32) ∧
(R (.returned (.bool b32)) w30)))
else
((if (i0 == 5) = true then
(∃ x33 : Int, ∃ x34 : Int, ∃ b35 : Bool, ∃ b36 : Bool, ∃ x37 : Int, ∃ x38 : Int, ∃ x39 : Int, ∃ x40 : Int, ∃ x41 : Int, ∃ (A42 : Option Addr) (n42_ c42_ : Nat), ∃ (A43 : Option Addr) (n43_ c43_ : Nat), (11 = 11 ∧ At w17 ⟨g3, 0, none⟩ [.int .u8 x33, .int .u16 x34, .bool b35, .bool b36, .int .i64 x37, .int .u8 x38, .int .u8 x39, .int .u32 x40, .int .u32 x41, .slice A42 n42_ c42_, .slice A43 n43_ c43_]) ∧
(Calls Try.prog 33 #[.agg #[.int .i64 5, .slice none 0 0, .slice none 0 0, .int .u16 0, .int .u16 0, .int .u16 0, .int .u8 x33, .int .u16 x34, .bool b35, .bool b36, .int .i64 x37, .int .u8 x38, .int .u8 x39, .int .u32 x40, .int .u32 x41, .slice A42 n42_ c42_, .slice A43 n43_ c43_]] w17 (fun (e45 : Ending) (w44 : World) =>
∃ b46 : Bool, e45 = .returned (.bool b46) ∧
(R (.returned (.bool b46)) w44))))
else
((if (i0 == 7) = true then
(Let (w17.heap.size) fun g47 : Nat =>
Let (w17.alloc (.cells #[.int .u8 131, .int .u8 3, .int .u8 4, .int .u8 1] 5)) fun w48 : World =>
Calls Try.prog 33 #[.agg #[.int .i64 7, .slice (some ⟨g47, 0, none⟩) 4 4, .slice none 0 0, .int .u16 0, .int .u16 0, .int .u16 0, .int .u8 0, .int .u16 0, .bool false, .bool false, .int .i64 0, .int .u8 0, .int .u8 0, .int .u32 0, .int .u32 0, .slice none 0 0, .slice none 0 0]] w48 (fun (e50 : Ending) (w49 : World) =>
∃ b51 : Bool, e50 = .returned (.bool b51) ∧
(R (.returned (.bool b51)) w49)))
else
(Calls Try.prog 33 #[.agg #[.int .i64 i0, .slice A19 n19_ c19_, .slice none 0 0, .int .u16 0, .int .u16 0, .int .u16 0, .int .u8 0, .int .u16 0, .bool false, .bool false, .int .i64 0, .int .u8 0, .int .u8 0, .int .u32 0, .int .u32 0, .slice none 0 0, .slice none 0 0]] w17 (fun (e53 : Ending) (w52 : World) =>
∃ b54 : Bool, e53 = .returned (.bool b54) ∧
(R (.returned (.bool b54)) w52)))))))))))))))
theorem weftlaw3_head.s_eq (i0 : Int) (w : World) (R : Ending → World → Prop) : seg Try.prog entE weftlaw3_head.ords weftlaw3_head.joins Try.f8 [] [] [] ([.int .i64 i0] ++ List.replicate (Try.f8.ntmps - ([.int .i64 i0] : List Value).length) undef) w R = weftlaw3_head.s i0 w R := by kernel_rfl
theorem weftlaw3_head.run {i0 : Int} {w : World} {R : Ending → World → Prop} (h : weftlaw3_head.s i0 w R) : Calls Try.prog 8 #[.int .i64 i0] w R :=
  calls_seg ents mixed Try.func8 rfl (by rw [weftlaw3_head.s_eq]; exact h)
/-! ### weftlaw3_upTo: function 7 -/
def weftlaw3_upTo.ords : Nat → Od
  | _ => .nil
def weftlaw3_upTo.joins (p : List Nat) : Bool := false
def weftlaw3_upTo.l1 (n : Nat) (Y0 : Option Addr) (yn0 : Nat) (yc0 : Nat) (y1 : Int) (y2 : Int) (y7 : Int) (d3 d4 d5 d6 d8 d9 d10 d11 d12 d13 d14 d15 d16 d17 d18 d19 d20 d21 d22 d23 d24 d25 d26 d27 d28 d29 d30 d31 d32 d33 d34 d35 d36 d37 d38 d39 d40 d41 d42 d43 : Value) (w : World) (R : Ending → World → Prop) : Prop :=
  lseg Try.prog entE weftlaw3_upTo.ords weftlaw3_upTo.joins Try.f7 [1, 0, 1, 0] [0, 1, 0, 1] [] n [.slice Y0 yn0 yc0, .int .i64 y1, .int .i64 y2, d3, d4, d5, d6, .int .i64 y7, d8, d9, d10, d11, d12, d13, d14, d15, d16, d17, d18, d19, d20, d21, d22, d23, d24, d25, d26, d27, d28, d29, d30, d31, d32, d33, d34, d35, d36, d37, d38, d39, d40, d41, d42, d43] w R
def weftlaw3_upTo.l2 (n : Nat) (Y0 : Option Addr) (yn0 : Nat) (yc0 : Nat) (y1 : Int) (y2 : Int) (y8 : Int) (d3 d4 d5 d6 d7 d9 d10 d11 d12 d13 d14 d15 d16 d17 d18 d19 d20 d21 d22 d23 d24 d25 d26 d27 d28 d29 d30 d31 d32 d33 d34 d35 d36 d37 d38 d39 d40 d41 d42 d43 : Value) (w : World) (R : Ending → World → Prop) : Prop :=
  lseg Try.prog entE weftlaw3_upTo.ords weftlaw3_upTo.joins Try.f7 [1, 1, 0, 1, 0] [0, 1, 0, 1, 1] [] n [.slice Y0 yn0 yc0, .int .i64 y1, .int .i64 y2, d3, d4, d5, d6, d7, .int .i64 y8, d9, d10, d11, d12, d13, d14, d15, d16, d17, d18, d19, d20, d21, d22, d23, d24, d25, d26, d27, d28, d29, d30, d31, d32, d33, d34, d35, d36, d37, d38, d39, d40, d41, d42, d43] w R
abbrev weftlaw3_upTo.L1 (n : Nat) (Y0 : Option Addr) (yn0 : Nat) (yc0 : Nat) (y1 : Int) (y2 : Int) (y7 : Int) (w : World) (R : Ending → World → Prop) : Prop := ∀ d3 d4 d5 d6 d8 d9 d10 d11 d12 d13 d14 d15 d16 d17 d18 d19 d20 d21 d22 d23 d24 d25 d26 d27 d28 d29 d30 d31 d32 d33 d34 d35 d36 d37 d38 d39 d40 d41 d42 d43 : Value, weftlaw3_upTo.l1 n Y0 yn0 yc0 y1 y2 y7 d3 d4 d5 d6 d8 d9 d10 d11 d12 d13 d14 d15 d16 d17 d18 d19 d20 d21 d22 d23 d24 d25 d26 d27 d28 d29 d30 d31 d32 d33 d34 d35 d36 d37 d38 d39 d40 d41 d42 d43 w R
abbrev weftlaw3_upTo.L2 (n : Nat) (Y0 : Option Addr) (yn0 : Nat) (yc0 : Nat) (y1 : Int) (y2 : Int) (y8 : Int) (w : World) (R : Ending → World → Prop) : Prop := ∀ d3 d4 d5 d6 d7 d9 d10 d11 d12 d13 d14 d15 d16 d17 d18 d19 d20 d21 d22 d23 d24 d25 d26 d27 d28 d29 d30 d31 d32 d33 d34 d35 d36 d37 d38 d39 d40 d41 d42 d43 : Value, weftlaw3_upTo.l2 n Y0 yn0 yc0 y1 y2 y8 d3 d4 d5 d6 d7 d9 d10 d11 d12 d13 d14 d15 d16 d17 d18 d19 d20 d21 d22 d23 d24 d25 d26 d27 d28 d29 d30 d31 d32 d33 d34 d35 d36 d37 d38 d39 d40 d41 d42 d43 w R
theorem weftlaw3_upTo.l1_eq (n : Nat) (Y0 : Option Addr) (yn0 : Nat) (yc0 : Nat) (y1 : Int) (y2 : Int) (y7 : Int) (d3 d4 d5 d6 d8 d9 d10 d11 d12 d13 d14 d15 d16 d17 d18 d19 d20 d21 d22 d23 d24 d25 d26 d27 d28 d29 d30 d31 d32 d33 d34 d35 d36 d37 d38 d39 d40 d41 d42 d43 : Value) (w : World) (R : Ending → World → Prop) : weftlaw3_upTo.l1 (n + 1) Y0 yn0 yc0 y1 y2 y7 d3 d4 d5 d6 d8 d9 d10 d11 d12 d13 d14 d15 d16 d17 d18 d19 d20 d21 d22 d23 d24 d25 d26 d27 d28 d29 d30 d31 d32 d33 d34 d35 d36 d37 d38 d39 d40 d41 d42 d43 w R =
((if decide (y7 ≤ y2) = true then
(Calls Try.prog 8 #[.int .i64 y7] w (fun (e2 : Ending) (w1 : World) =>
∃ b3 : Bool, e2 = .returned (.bool b3) ∧
((if (!b3) = true then
(R (.returned (.bool false)) w1)
else
(Let (IntKind.i64.wrap (y7 + 1)) fun x4 : Int =>
weftlaw3_upTo.l1 n Y0 yn0 yc0 y1 y2 x4 d3 d4 d5 d6 d8 d9 d10 (.int .i64 y7) (.int .i64 y2) (.bool (decide (y7 ≤ y2))) (.int .i64 y7) (.int .i64 x4) (.int .i64 y7) (.bool b3) (.bool (!b3)) d19 d20 d21 d22 d23 d24 d25 d26 d27 d28 d29 d30 d31 d32 d33 d34 d35 d36 d37 d38 d39 d40 d41 d42 d43 w1 R)))))
else
(∃ n5 : Nat, weftlaw3_upTo.l2 n5 Y0 yn0 yc0 y1 y2 0 d3 d4 d5 d6 (.int .i64 y7) d9 d10 (.int .i64 y7) (.int .i64 y2) (.bool (decide (y7 ≤ y2))) d14 d15 d16 d17 d18 d19 d20 d21 d22 d23 d24 d25 d26 d27 d28 d29 d30 d31 d32 d33 d34 d35 d36 d37 d38 d39 d40 d41 d42 d43 w R))) := by kernel_rfl
theorem weftlaw3_upTo.l2_eq (n : Nat) (Y0 : Option Addr) (yn0 : Nat) (yc0 : Nat) (y1 : Int) (y2 : Int) (y8 : Int) (d3 d4 d5 d6 d7 d9 d10 d11 d12 d13 d14 d15 d16 d17 d18 d19 d20 d21 d22 d23 d24 d25 d26 d27 d28 d29 d30 d31 d32 d33 d34 d35 d36 d37 d38 d39 d40 d41 d42 d43 : Value) (w : World) (R : Ending → World → Prop) : weftlaw3_upTo.l2 (n + 1) Y0 yn0 yc0 y1 y2 y8 d3 d4 d5 d6 d7 d9 d10 d11 d12 d13 d14 d15 d16 d17 d18 d19 d20 d21 d22 d23 d24 d25 d26 d27 d28 d29 d30 d31 d32 d33 d34 d35 d36 d37 d38 d39 d40 d41 d42 d43 w R =
((if decide (y8 < (yn0 : Int)) = true then
(∃ a1 : Addr, Y0 = some a1 ∧ (0 ≤ y8 ∧ y8 < (yn0 : Int)) ∧
(∃ x2 : Int, ∃ (A3 : Option Addr) (n3_ c3_ : Nat), ∃ (A4 : Option Addr) (n4_ c4_ : Nat), ∃ x5 : Int, ∃ x6 : Int, ∃ x7 : Int, ∃ x8 : Int, ∃ x9 : Int, ∃ b10 : Bool, ∃ b11 : Bool, ∃ x12 : Int, ∃ x13 : Int, ∃ x14 : Int, ∃ x15 : Int, ∃ x16 : Int, ∃ (A17 : Option Addr) (n17_ c17_ : Nat), ∃ (A18 : Option Addr) (n18_ c18_ : Nat), (17 = 17 ∧ At w (a1.add (y8.toNat * 17)) [.int .i64 x2, .slice A3 n3_ c3_, .slice A4 n4_ c4_, .int .u16 x5, .int .u16 x6, .int .u16 x7, .int .u8 x8, .int .u16 x9, .bool b10, .bool b11, .int .i64 x12, .int .u8 x13, .int .u8 x14, .int .u32 x15, .int .u32 x16, .slice A17 n17_ c17_, .slice A18 n18_ c18_]) ∧
(Let (w.heap.size) fun g19 : Nat =>
Let (w.alloc (.cells #[.int .i64 0, .slice none 0 0, .slice none 0 0, .int .u16 0, .int .u16 0, .int .u16 0, .int .u8 0, .int .u16 0, .bool false, .bool false, .int .i64 0, .int .u8 0, .int .u8 0, .int .u32 0, .int .u32 0, .slice none 0 0, .slice none 0 0] 39)) fun w20 : World =>
May w20 ⟨g19, 0, none⟩ 17 ∧
(Let (putCells w20 ⟨g19, 0, none⟩ [.int .i64 x2, .slice A3 n3_ c3_, .slice A4 n4_ c4_, .int .u16 x5, .int .u16 x6, .int .u16 x7, .int .u8 x8, .int .u16 x9, .bool b10, .bool b11, .int .i64 x12, .int .u8 x13, .int .u8 x14, .int .u32 x15, .int .u32 x16, .slice A17 n17_ c17_, .slice A18 n18_ c18_] 0) fun w21 : World =>
∃ x22 : Int, w21.cell? ⟨g19, 0, none⟩ = some (.int .i64 x22) ∧
((if decide (x22 ≥ y1) = true then
(∃ x23 : Int, w21.cell? ⟨g19, 0, none⟩ = some (.int .i64 x23) ∧
((if decide (x23 ≤ y2) = true then
(∃ x24 : Int, ∃ (A25 : Option Addr) (n25_ c25_ : Nat), ∃ (A26 : Option Addr) (n26_ c26_ : Nat), ∃ x27 : Int, ∃ x28 : Int, ∃ x29 : Int, ∃ x30 : Int, ∃ x31 : Int, ∃ b32 : Bool, ∃ b33 : Bool, ∃ x34 : Int, ∃ x35 : Int, ∃ x36 : Int, ∃ x37 : Int, ∃ x38 : Int, ∃ (A39 : Option Addr) (n39_ c39_ : Nat), ∃ (A40 : Option Addr) (n40_ c40_ : Nat), (17 = 17 ∧ At w21 ⟨g19, 0, none⟩ [.int .i64 x24, .slice A25 n25_ c25_, .slice A26 n26_ c26_, .int .u16 x27, .int .u16 x28, .int .u16 x29, .int .u8 x30, .int .u16 x31, .bool b32, .bool b33, .int .i64 x34, .int .u8 x35, .int .u8 x36, .int .u32 x37, .int .u32 x38, .slice A39 n39_ c39_, .slice A40 n40_ c40_]) ∧
(Calls Try.prog 33 #[.agg #[.int .i64 x24, .slice A25 n25_ c25_, .slice A26 n26_ c26_, .int .u16 x27, .int .u16 x28, .int .u16 x29, .int .u8 x30, .int .u16 x31, .bool b32, .bool b33, .int .i64 x34, .int .u8 x35, .int .u8 x36, .int .u32 x37, .int .u32 x38, .slice A39 n39_ c39_, .slice A40 n40_ c40_]] w21 (fun (e42 : Ending) (w41 : World) =>
∃ b43 : Bool, e42 = .returned (.bool b43) ∧
((if (!b43) = true then
(R (.returned (.bool false)) w41)
else
(Let (IntKind.i64.wrap (y8 + 1)) fun x44 : Int =>
weftlaw3_upTo.l2 n Y0 yn0 yc0 y1 y2 x44 d3 d4 d5 d6 d7 (.pointer (some ⟨g19, 0, none⟩)) d10 d11 d12 d13 d14 d15 d16 d17 d18 (.int .i64 y8) (.slice Y0 yn0 yc0) (.int .i64 (yn0 : Int)) (.bool (decide (y8 < (yn0 : Int)))) (.int .i64 y8) (.int .i64 x44) (.slice Y0 yn0 yc0) (.int .i64 y8) (.pointer (some (a1.add (y8.toNat * 17)))) (.agg #[.int .i64 x2, .slice A3 n3_ c3_, .slice A4 n4_ c4_, .int .u16 x5, .int .u16 x6, .int .u16 x7, .int .u8 x8, .int .u16 x9, .bool b10, .bool b11, .int .i64 x12, .int .u8 x13, .int .u8 x14, .int .u32 x15, .int .u32 x16, .slice A17 n17_ c17_, .slice A18 n18_ c18_]) (.pointer (some ⟨g19, 0, none⟩)) (.int .i64 x22) (.int .i64 y1) (.bool (decide (x22 ≥ y1))) (.bool true) (.pointer (some ⟨g19, 0, none⟩)) (.int .i64 x23) (.int .i64 y2) (.bool (decide (x23 ≤ y2))) (.bool (decide (x23 ≤ y2))) (.bool true) (.agg #[.int .i64 x24, .slice A25 n25_ c25_, .slice A26 n26_ c26_, .int .u16 x27, .int .u16 x28, .int .u16 x29, .int .u8 x30, .int .u16 x31, .bool b32, .bool b33, .int .i64 x34, .int .u8 x35, .int .u8 x36, .int .u32 x37, .int .u32 x38, .slice A39 n39_ c39_, .slice A40 n40_ c40_]) (.bool b43) (.bool (!b43)) (.bool (!b43)) w41 R))))))
else
(Let (IntKind.i64.wrap (y8 + 1)) fun x45 : Int =>
weftlaw3_upTo.l2 n Y0 yn0 yc0 y1 y2 x45 d3 d4 d5 d6 d7 (.pointer (some ⟨g19, 0, none⟩)) d10 d11 d12 d13 d14 d15 d16 d17 d18 (.int .i64 y8) (.slice Y0 yn0 yc0) (.int .i64 (yn0 : Int)) (.bool (decide (y8 < (yn0 : Int)))) (.int .i64 y8) (.int .i64 x45) (.slice Y0 yn0 yc0) (.int .i64 y8) (.pointer (some (a1.add (y8.toNat * 17)))) (.agg #[.int .i64 x2, .slice A3 n3_ c3_, .slice A4 n4_ c4_, .int .u16 x5, .int .u16 x6, .int .u16 x7, .int .u8 x8, .int .u16 x9, .bool b10, .bool b11, .int .i64 x12, .int .u8 x13, .int .u8 x14, .int .u32 x15, .int .u32 x16, .slice A17 n17_ c17_, .slice A18 n18_ c18_]) (.pointer (some ⟨g19, 0, none⟩)) (.int .i64 x22) (.int .i64 y1) (.bool (decide (x22 ≥ y1))) (.bool true) (.pointer (some ⟨g19, 0, none⟩)) (.int .i64 x23) (.int .i64 y2) (.bool (decide (x23 ≤ y2))) (.bool (decide (x23 ≤ y2))) (.bool false) undef undef undef (.bool false) w21 R))))
else
(Let (IntKind.i64.wrap (y8 + 1)) fun x46 : Int =>
weftlaw3_upTo.l2 n Y0 yn0 yc0 y1 y2 x46 d3 d4 d5 d6 d7 (.pointer (some ⟨g19, 0, none⟩)) d10 d11 d12 d13 d14 d15 d16 d17 d18 (.int .i64 y8) (.slice Y0 yn0 yc0) (.int .i64 (yn0 : Int)) (.bool (decide (y8 < (yn0 : Int)))) (.int .i64 y8) (.int .i64 x46) (.slice Y0 yn0 yc0) (.int .i64 y8) (.pointer (some (a1.add (y8.toNat * 17)))) (.agg #[.int .i64 x2, .slice A3 n3_ c3_, .slice A4 n4_ c4_, .int .u16 x5, .int .u16 x6, .int .u16 x7, .int .u8 x8, .int .u16 x9, .bool b10, .bool b11, .int .i64 x12, .int .u8 x13, .int .u8 x14, .int .u32 x15, .int .u32 x16, .slice A17 n17_ c17_, .slice A18 n18_ c18_]) (.pointer (some ⟨g19, 0, none⟩)) (.int .i64 x22) (.int .i64 y1) (.bool (decide (x22 ≥ y1))) (.bool false) undef undef undef undef (.bool false) (.bool false) undef undef undef (.bool false) w21 R)))))))
else
(R (.returned (.bool true)) w))) := by kernel_rfl
def weftlaw3_upTo.s (I0 : Option Addr) (in0 : Nat) (ic0 : Nat) (i1 : Int) (i2 : Int) (w : World) (R : Ending → World → Prop) : Prop :=
(∃ n1 : Nat, weftlaw3_upTo.l1 n1 I0 in0 ic0 i1 i2 i1 undef undef undef (.bool false) undef undef (.int .i64 i1) undef undef undef undef undef undef undef undef undef undef undef undef undef undef undef undef undef undef undef undef undef undef undef undef undef undef undef undef undef undef undef undef undef w R)
theorem weftlaw3_upTo.s_eq (I0 : Option Addr) (in0 : Nat) (ic0 : Nat) (i1 : Int) (i2 : Int) (w : World) (R : Ending → World → Prop) : seg Try.prog entE weftlaw3_upTo.ords weftlaw3_upTo.joins Try.f7 [] [] [] ([.slice I0 in0 ic0, .int .i64 i1, .int .i64 i2] ++ List.replicate (Try.f7.ntmps - ([.slice I0 in0 ic0, .int .i64 i1, .int .i64 i2] : List Value).length) undef) w R = weftlaw3_upTo.s I0 in0 ic0 i1 i2 w R := by kernel_rfl
theorem weftlaw3_upTo.run {I0 : Option Addr} {in0 : Nat} {ic0 : Nat} {i1 : Int} {i2 : Int} {w : World} {R : Ending → World → Prop} (h : weftlaw3_upTo.s I0 in0 ic0 i1 i2 w R) : Calls Try.prog 7 #[.slice I0 in0 ic0, .int .i64 i1, .int .i64 i2] w R :=
  calls_seg ents mixed Try.func7 rfl (by rw [weftlaw3_upTo.s_eq]; exact h)
/-! ### weftlaw3_Ip4All: function 3 -/
def weftlaw3_Ip4All.ords : Nat → Od
  | _ => .nil
def weftlaw3_Ip4All.joins (p : List Nat) : Bool := false
def weftlaw3_Ip4All.s (I0 : Option Addr) (in0 : Nat) (ic0 : Nat) (w : World) (R : Ending → World → Prop) : Prop :=
(Calls Try.prog 7 #[.slice I0 in0 ic0, .int .i64 1, .int .i64 7] w (fun (e2 : Ending) (w1 : World) =>
∃ b3 : Bool, e2 = .returned (.bool b3) ∧
(R (.returned (.bool b3)) w1)))
theorem weftlaw3_Ip4All.s_eq (I0 : Option Addr) (in0 : Nat) (ic0 : Nat) (w : World) (R : Ending → World → Prop) : seg Try.prog entE weftlaw3_Ip4All.ords weftlaw3_Ip4All.joins Try.f3 [] [] [] ([.slice I0 in0 ic0] ++ List.replicate (Try.f3.ntmps - ([.slice I0 in0 ic0] : List Value).length) undef) w R = weftlaw3_Ip4All.s I0 in0 ic0 w R := by kernel_rfl
theorem weftlaw3_Ip4All.run {I0 : Option Addr} {in0 : Nat} {ic0 : Nat} {w : World} {R : Ending → World → Prop} (h : weftlaw3_Ip4All.s I0 in0 ic0 w R) : Calls Try.prog 3 #[.slice I0 in0 ic0] w R :=
  calls_seg ents mixed Try.func3 rfl (by rw [weftlaw3_Ip4All.s_eq]; exact h)
end Go.Proofs.YtchdcdmdbjkihaaS
