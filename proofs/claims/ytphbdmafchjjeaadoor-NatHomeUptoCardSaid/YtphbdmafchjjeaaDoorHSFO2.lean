/- What functions of the program come to, told by a program of this session out of the translation; the kernel computes each statement out of the code.
   Conditions: none. -/
import Derived.Test.YtphbdmafchjjeaaDoorHSBase
namespace Go.Proofs.YtphbdmafchjjeaaDoorS
open Go Go.Proofs
set_option maxRecDepth 100000
set_option linter.unusedVariables false
/-! ### nat_quoted: function 58 -/
def nat_quoted.ords : Nat → Od
  | _ => .nil
def nat_quoted.joins (p : List Nat) : Bool := p == [1, 1] || p == [1, 0, 0, 1, 1, 1] || p == [1, 1, 1, 1] || p == [1, 1, 1, 0, 0, 1, 1, 1]
def nat_quoted.j1 (Y1 : Option Addr) (yn1 : Nat) (yc1 : Nat) (yg2 : Nat) (yg4 : Nat) (d0 d3 d5 d6 d7 d8 d9 d10 d11 d12 d13 d14 d15 d16 d17 d18 d19 d20 d21 d22 d23 d24 d25 d26 d27 d28 d29 d30 d31 d32 d33 d34 d35 d36 d37 d38 d39 d40 d41 d42 d43 d44 d45 d46 d47 d48 d49 d50 d51 d52 d53 d54 d55 d56 d57 d58 d59 d60 d61 d62 d63 d64 d65 d66 d67 : Value) (w : World) (R : Ending → World → Prop) : Prop :=
  seg Tryd.prog entE nat_quoted.ords nat_quoted.joins Tryd.f58 [1, 1] [1, 1] [] [d0, .slice Y1 yn1 yc1, .pointer (some ⟨yg2, 0, none⟩), d3, .pointer (some ⟨yg4, 0, none⟩), d5, d6, d7, d8, d9, d10, d11, d12, d13, d14, d15, d16, d17, d18, d19, d20, d21, d22, d23, d24, d25, d26, d27, d28, d29, d30, d31, d32, d33, d34, d35, d36, d37, d38, d39, d40, d41, d42, d43, d44, d45, d46, d47, d48, d49, d50, d51, d52, d53, d54, d55, d56, d57, d58, d59, d60, d61, d62, d63, d64, d65, d66, d67] w R
def nat_quoted.j2 (Y1 : Option Addr) (yn1 : Nat) (yc1 : Nat) (yg2 : Nat) (yg4 : Nat) (yg6 : Nat) (y24 : Bool) (d0 d3 d5 d7 d8 d9 d10 d11 d12 d13 d14 d15 d16 d17 d18 d19 d20 d21 d22 d23 d25 d26 d27 d28 d29 d30 d31 d32 d33 d34 d35 d36 d37 d38 d39 d40 d41 d42 d43 d44 d45 d46 d47 d48 d49 d50 d51 d52 d53 d54 d55 d56 d57 d58 d59 d60 d61 d62 d63 d64 d65 d66 d67 : Value) (w : World) (R : Ending → World → Prop) : Prop :=
  seg Tryd.prog entE nat_quoted.ords nat_quoted.joins Tryd.f58 [1, 1, 1, 0, 0, 1] [1, 0, 0, 1, 1, 1] [] [d0, .slice Y1 yn1 yc1, .pointer (some ⟨yg2, 0, none⟩), d3, .pointer (some ⟨yg4, 0, none⟩), d5, .pointer (some ⟨yg6, 0, none⟩), d7, d8, d9, d10, d11, d12, d13, d14, d15, d16, d17, d18, d19, d20, d21, d22, d23, .bool y24, d25, d26, d27, d28, d29, d30, d31, d32, d33, d34, d35, d36, d37, d38, d39, d40, d41, d42, d43, d44, d45, d46, d47, d48, d49, d50, d51, d52, d53, d54, d55, d56, d57, d58, d59, d60, d61, d62, d63, d64, d65, d66, d67] w R
def nat_quoted.j3 (yg4 : Nat) (yg6 : Nat) (d0 d1 d2 d3 d5 d7 d8 d9 d10 d11 d12 d13 d14 d15 d16 d17 d18 d19 d20 d21 d22 d23 d24 d25 d26 d27 d28 d29 d30 d31 d32 d33 d34 d35 d36 d37 d38 d39 d40 d41 d42 d43 d44 d45 d46 d47 d48 d49 d50 d51 d52 d53 d54 d55 d56 d57 d58 d59 d60 d61 d62 d63 d64 d65 d66 d67 : Value) (w : World) (R : Ending → World → Prop) : Prop :=
  seg Tryd.prog entE nat_quoted.ords nat_quoted.joins Tryd.f58 [1, 1, 1, 1] [1, 1, 1, 1] [] [d0, d1, d2, d3, .pointer (some ⟨yg4, 0, none⟩), d5, .pointer (some ⟨yg6, 0, none⟩), d7, d8, d9, d10, d11, d12, d13, d14, d15, d16, d17, d18, d19, d20, d21, d22, d23, d24, d25, d26, d27, d28, d29, d30, d31, d32, d33, d34, d35, d36, d37, d38, d39, d40, d41, d42, d43, d44, d45, d46, d47, d48, d49, d50, d51, d52, d53, d54, d55, d56, d57, d58, d59, d60, d61, d62, d63, d64, d65, d66, d67] w R
def nat_quoted.j4 (Y1 : Option Addr) (yn1 : Nat) (yc1 : Nat) (yg4 : Nat) (yg6 : Nat) (y39 : Bool) (d0 d2 d3 d5 d7 d8 d9 d10 d11 d12 d13 d14 d15 d16 d17 d18 d19 d20 d21 d22 d23 d24 d25 d26 d27 d28 d29 d30 d31 d32 d33 d34 d35 d36 d37 d38 d40 d41 d42 d43 d44 d45 d46 d47 d48 d49 d50 d51 d52 d53 d54 d55 d56 d57 d58 d59 d60 d61 d62 d63 d64 d65 d66 d67 : Value) (w : World) (R : Ending → World → Prop) : Prop :=
  seg Tryd.prog entE nat_quoted.ords nat_quoted.joins Tryd.f58 [1, 1, 1, 0, 0, 1, 1, 1] [1, 1, 1, 0, 0, 1, 1, 1] [] [d0, .slice Y1 yn1 yc1, d2, d3, .pointer (some ⟨yg4, 0, none⟩), d5, .pointer (some ⟨yg6, 0, none⟩), d7, d8, d9, d10, d11, d12, d13, d14, d15, d16, d17, d18, d19, d20, d21, d22, d23, d24, d25, d26, d27, d28, d29, d30, d31, d32, d33, d34, d35, d36, d37, d38, .bool y39, d40, d41, d42, d43, d44, d45, d46, d47, d48, d49, d50, d51, d52, d53, d54, d55, d56, d57, d58, d59, d60, d61, d62, d63, d64, d65, d66, d67] w R
abbrev nat_quoted.J1 (Y1 : Option Addr) (yn1 : Nat) (yc1 : Nat) (yg2 : Nat) (yg4 : Nat) (w : World) (R : Ending → World → Prop) : Prop := ∀ d0 d3 d5 d6 d7 d8 d9 d10 d11 d12 d13 d14 d15 d16 d17 d18 d19 d20 d21 d22 d23 d24 d25 d26 d27 d28 d29 d30 d31 d32 d33 d34 d35 d36 d37 d38 d39 d40 d41 d42 d43 d44 d45 d46 d47 d48 d49 d50 d51 d52 d53 d54 d55 d56 d57 d58 d59 d60 d61 d62 d63 d64 d65 d66 d67 : Value, nat_quoted.j1 Y1 yn1 yc1 yg2 yg4 d0 d3 d5 d6 d7 d8 d9 d10 d11 d12 d13 d14 d15 d16 d17 d18 d19 d20 d21 d22 d23 d24 d25 d26 d27 d28 d29 d30 d31 d32 d33 d34 d35 d36 d37 d38 d39 d40 d41 d42 d43 d44 d45 d46 d47 d48 d49 d50 d51 d52 d53 d54 d55 d56 d57 d58 d59 d60 d61 d62 d63 d64 d65 d66 d67 w R
abbrev nat_quoted.J2 (Y1 : Option Addr) (yn1 : Nat) (yc1 : Nat) (yg2 : Nat) (yg4 : Nat) (yg6 : Nat) (y24 : Bool) (w : World) (R : Ending → World → Prop) : Prop := ∀ d0 d3 d5 d7 d8 d9 d10 d11 d12 d13 d14 d15 d16 d17 d18 d19 d20 d21 d22 d23 d25 d26 d27 d28 d29 d30 d31 d32 d33 d34 d35 d36 d37 d38 d39 d40 d41 d42 d43 d44 d45 d46 d47 d48 d49 d50 d51 d52 d53 d54 d55 d56 d57 d58 d59 d60 d61 d62 d63 d64 d65 d66 d67 : Value, nat_quoted.j2 Y1 yn1 yc1 yg2 yg4 yg6 y24 d0 d3 d5 d7 d8 d9 d10 d11 d12 d13 d14 d15 d16 d17 d18 d19 d20 d21 d22 d23 d25 d26 d27 d28 d29 d30 d31 d32 d33 d34 d35 d36 d37 d38 d39 d40 d41 d42 d43 d44 d45 d46 d47 d48 d49 d50 d51 d52 d53 d54 d55 d56 d57 d58 d59 d60 d61 d62 d63 d64 d65 d66 d67 w R
abbrev nat_quoted.J3 (yg4 : Nat) (yg6 : Nat) (w : World) (R : Ending → World → Prop) : Prop := ∀ d0 d1 d2 d3 d5 d7 d8 d9 d10 d11 d12 d13 d14 d15 d16 d17 d18 d19 d20 d21 d22 d23 d24 d25 d26 d27 d28 d29 d30 d31 d32 d33 d34 d35 d36 d37 d38 d39 d40 d41 d42 d43 d44 d45 d46 d47 d48 d49 d50 d51 d52 d53 d54 d55 d56 d57 d58 d59 d60 d61 d62 d63 d64 d65 d66 d67 : Value, nat_quoted.j3 yg4 yg6 d0 d1 d2 d3 d5 d7 d8 d9 d10 d11 d12 d13 d14 d15 d16 d17 d18 d19 d20 d21 d22 d23 d24 d25 d26 d27 d28 d29 d30 d31 d32 d33 d34 d35 d36 d37 d38 d39 d40 d41 d42 d43 d44 d45 d46 d47 d48 d49 d50 d51 d52 d53 d54 d55 d56 d57 d58 d59 d60 d61 d62 d63 d64 d65 d66 d67 w R
abbrev nat_quoted.J4 (Y1 : Option Addr) (yn1 : Nat) (yc1 : Nat) (yg4 : Nat) (yg6 : Nat) (y39 : Bool) (w : World) (R : Ending → World → Prop) : Prop := ∀ d0 d2 d3 d5 d7 d8 d9 d10 d11 d12 d13 d14 d15 d16 d17 d18 d19 d20 d21 d22 d23 d24 d25 d26 d27 d28 d29 d30 d31 d32 d33 d34 d35 d36 d37 d38 d40 d41 d42 d43 d44 d45 d46 d47 d48 d49 d50 d51 d52 d53 d54 d55 d56 d57 d58 d59 d60 d61 d62 d63 d64 d65 d66 d67 : Value, nat_quoted.j4 Y1 yn1 yc1 yg4 yg6 y39 d0 d2 d3 d5 d7 d8 d9 d10 d11 d12 d13 d14 d15 d16 d17 d18 d19 d20 d21 d22 d23 d24 d25 d26 d27 d28 d29 d30 d31 d32 d33 d34 d35 d36 d37 d38 d40 d41 d42 d43 d44 d45 d46 d47 d48 d49 d50 d51 d52 d53 d54 d55 d56 d57 d58 d59 d60 d61 d62 d63 d64 d65 d66 d67 w R
theorem nat_quoted.j1_eq (Y1 : Option Addr) (yn1 : Nat) (yc1 : Nat) (yg2 : Nat) (yg4 : Nat) (d0 d3 d5 d6 d7 d8 d9 d10 d11 d12 d13 d14 d15 d16 d17 d18 d19 d20 d21 d22 d23 d24 d25 d26 d27 d28 d29 d30 d31 d32 d33 d34 d35 d36 d37 d38 d39 d40 d41 d42 d43 d44 d45 d46 d47 d48 d49 d50 d51 d52 d53 d54 d55 d56 d57 d58 d59 d60 d61 d62 d63 d64 d65 d66 d67 : Value) (w : World) (R : Ending → World → Prop) : nat_quoted.j1 Y1 yn1 yc1 yg2 yg4 d0 d3 d5 d6 d7 d8 d9 d10 d11 d12 d13 d14 d15 d16 d17 d18 d19 d20 d21 d22 d23 d24 d25 d26 d27 d28 d29 d30 d31 d32 d33 d34 d35 d36 d37 d38 d39 d40 d41 d42 d43 d44 d45 d46 d47 d48 d49 d50 d51 d52 d53 d54 d55 d56 d57 d58 d59 d60 d61 d62 d63 d64 d65 d66 d67 w R =
(∃ x1 : Int, w.cell? ⟨yg2, 7, none⟩ = some (.int .u32 x1) ∧
(∃ x2 : Int, w.cell? ⟨yg2, 8, none⟩ = some (.int .u32 x2) ∧
(∃ x3 : Int, w.cell? ⟨yg2, 6, none⟩ = some (.int .u8 x3) ∧
(Let (w.heap.size) fun g4 : Nat =>
 Let (w.alloc (.cells #[.int .u32 0, .int .u32 0, .int .u8 0, .int .u16 0, .int .u16 0] 32)) fun w5 : World =>
 May w5 ⟨g4, 0, none⟩ 5 ∧
(Let (putCells w5 ⟨g4, 0, none⟩ [.int .u32 x1, .int .u32 x2, .int .u8 x3, .int .u16 0, .int .u16 0] 0) fun w6 : World =>
 ∃ x7 : Int, w6.cell? ⟨yg2, 6, none⟩ = some (.int .u8 x7) ∧
((if (x7 == 6) = true then
(Leaf (nat_quoted.j2 Y1 yn1 yc1 yg2 yg4 g4 true d0 d3 d5 d7 d8 d9 d10 d11 d12 d13 d14 d15 (.pointer (some ⟨yg2, 7, none⟩)) (.int .u32 x1) (.pointer (some ⟨yg2, 8, none⟩)) (.int .u32 x2) (.pointer (some ⟨yg2, 6, none⟩)) (.int .u8 x3) (.agg #[.int .u32 x1, .int .u32 x2, .int .u8 x3, .int .u16 0, .int .u16 0]) d23 (.pointer (some ⟨yg2, 6, none⟩)) (.int .u8 x7) (.bool (x7 == 6)) (.bool true) undef undef undef (.bool true) d33 d34 d35 d36 d37 d38 d39 d40 d41 d42 d43 d44 d45 d46 d47 d48 d49 d50 d51 d52 d53 d54 d55 d56 d57 d58 d59 d60 d61 d62 d63 d64 d65 d66 d67 w6 R))
else
(∃ x8 : Int, w6.cell? ⟨yg2, 6, none⟩ = some (.int .u8 x8) ∧
(Leaf (nat_quoted.j2 Y1 yn1 yc1 yg2 yg4 g4 (x8 == 17) d0 d3 d5 d7 d8 d9 d10 d11 d12 d13 d14 d15 (.pointer (some ⟨yg2, 7, none⟩)) (.int .u32 x1) (.pointer (some ⟨yg2, 8, none⟩)) (.int .u32 x2) (.pointer (some ⟨yg2, 6, none⟩)) (.int .u8 x3) (.agg #[.int .u32 x1, .int .u32 x2, .int .u8 x3, .int .u16 0, .int .u16 0]) d23 (.pointer (some ⟨yg2, 6, none⟩)) (.int .u8 x7) (.bool (x7 == 6)) (.bool false) (.pointer (some ⟨yg2, 6, none⟩)) (.int .u8 x8) (.bool (x8 == 17)) (.bool (x8 == 17)) d33 d34 d35 d36 d37 d38 d39 d40 d41 d42 d43 d44 d45 d46 d47 d48 d49 d50 d51 d52 d53 d54 d55 d56 d57 d58 d59 d60 d61 d62 d63 d64 d65 d66 d67 w6 R)))))))))) := by kernel_rfl
theorem nat_quoted.j2_eq (Y1 : Option Addr) (yn1 : Nat) (yc1 : Nat) (yg2 : Nat) (yg4 : Nat) (yg6 : Nat) (y24 : Bool) (d0 d3 d5 d7 d8 d9 d10 d11 d12 d13 d14 d15 d16 d17 d18 d19 d20 d21 d22 d23 d25 d26 d27 d28 d29 d30 d31 d32 d33 d34 d35 d36 d37 d38 d39 d40 d41 d42 d43 d44 d45 d46 d47 d48 d49 d50 d51 d52 d53 d54 d55 d56 d57 d58 d59 d60 d61 d62 d63 d64 d65 d66 d67 : Value) (w : World) (R : Ending → World → Prop) : nat_quoted.j2 Y1 yn1 yc1 yg2 yg4 yg6 y24 d0 d3 d5 d7 d8 d9 d10 d11 d12 d13 d14 d15 d16 d17 d18 d19 d20 d21 d22 d23 d25 d26 d27 d28 d29 d30 d31 d32 d33 d34 d35 d36 d37 d38 d39 d40 d41 d42 d43 d44 d45 d46 d47 d48 d49 d50 d51 d52 d53 d54 d55 d56 d57 d58 d59 d60 d61 d62 d63 d64 d65 d66 d67 w R =
((if y24 = true then
(Calls Tryd.prog 68 #[.slice Y1 yn1 yc1, .int .i64 0] w (fun (e2 : Ending) (w1 : World) =>
 ∃ x3 : Int, e2 = .returned (.int .u16 x3) ∧
(Calls Tryd.prog 68 #[.slice Y1 yn1 yc1, .int .i64 2] w1 (fun (e5 : Ending) (w4 : World) =>
 ∃ x6 : Int, e5 = .returned (.int .u16 x6) ∧
(MayC w4 ⟨yg6, 3, none⟩ ∧
(Let (w4.setCell ⟨yg6, 3, none⟩ (.int .u16 x3)) fun w7 : World =>
 MayC w7 ⟨yg6, 4, none⟩ ∧
(Let (w7.setCell ⟨yg6, 4, none⟩ (.int .u16 x6)) fun w8 : World =>
 Leaf (nat_quoted.j3 yg4 yg6 d0 (.slice Y1 yn1 yc1) (.pointer (some ⟨yg2, 0, none⟩)) d3 d5 d7 d8 d9 d10 d11 d12 d13 d14 d15 d16 d17 d18 d19 d20 d21 d22 d23 (.bool y24) d25 d26 d27 d28 d29 d30 d31 d32 (.slice Y1 yn1 yc1) (.int .u16 x3) (.slice Y1 yn1 yc1) (.int .u16 x6) (.pointer (some ⟨yg6, 3, none⟩)) (.pointer (some ⟨yg6, 4, none⟩)) d39 d40 d41 d42 d43 d44 d45 d46 d47 d48 d49 d50 d51 d52 d53 d54 d55 d56 d57 d58 d59 d60 d61 d62 d63 d64 d65 d66 d67 w8 R))))))))
else
(∃ x9 : Int, w.cell? ⟨yg2, 6, none⟩ = some (.int .u8 x9) ∧
((if (x9 == 1) = true then
(∃ a10 : Addr, Y1 = some a10 ∧ (0 ≤ (0 : Int) ∧ (0 : Int) < (yn1 : Int)) ∧
(∃ x11 : Int, w.cell? a10 = some (.int .u8 x11) ∧
((if (x11 == 8) = true then
(∃ a12 : Addr, Y1 = some a12 ∧ (0 ≤ (1 : Int) ∧ (1 : Int) < (yn1 : Int)) ∧
(∃ x13 : Int, w.cell? (a12.add 1) = some (.int .u8 x13) ∧
(Leaf (nat_quoted.j4 Y1 yn1 yc1 yg4 yg6 (x13 == 0) d0 (.pointer (some ⟨yg2, 0, none⟩)) d3 d5 d7 d8 d9 d10 d11 d12 d13 d14 d15 d16 d17 d18 d19 d20 d21 d22 d23 (.bool y24) d25 d26 d27 d28 d29 d30 d31 d32 d33 d34 d35 d36 d37 d38 (.pointer (some ⟨yg2, 6, none⟩)) (.int .u8 x9) (.bool (x9 == 1)) (.bool true) (.slice Y1 yn1 yc1) (.pointer (some a10)) (.int .u8 x11) (.bool (x11 == 8)) (.bool true) undef undef undef undef (.bool true) (.bool true) (.bool true) (.slice Y1 yn1 yc1) (.pointer (some (a12.add 1))) (.int .u8 x13) (.bool (x13 == 0)) (.bool (x13 == 0)) d61 d62 d63 d64 d65 d66 d67 w R))))
else
(∃ a14 : Addr, Y1 = some a14 ∧ (0 ≤ (0 : Int) ∧ (0 : Int) < (yn1 : Int)) ∧
(∃ x15 : Int, w.cell? a14 = some (.int .u8 x15) ∧
((if (x15 == 0) = true then
(∃ a16 : Addr, Y1 = some a16 ∧ (0 ≤ (1 : Int) ∧ (1 : Int) < (yn1 : Int)) ∧
(∃ x17 : Int, w.cell? (a16.add 1) = some (.int .u8 x17) ∧
(Leaf (nat_quoted.j4 Y1 yn1 yc1 yg4 yg6 (x17 == 0) d0 (.pointer (some ⟨yg2, 0, none⟩)) d3 d5 d7 d8 d9 d10 d11 d12 d13 d14 d15 d16 d17 d18 d19 d20 d21 d22 d23 (.bool y24) d25 d26 d27 d28 d29 d30 d31 d32 d33 d34 d35 d36 d37 d38 (.pointer (some ⟨yg2, 6, none⟩)) (.int .u8 x9) (.bool (x9 == 1)) (.bool true) (.slice Y1 yn1 yc1) (.pointer (some a10)) (.int .u8 x11) (.bool (x11 == 8)) (.bool false) (.slice Y1 yn1 yc1) (.pointer (some a14)) (.int .u8 x15) (.bool (x15 == 0)) (.bool (x15 == 0)) (.bool (x15 == 0)) (.bool true) (.slice Y1 yn1 yc1) (.pointer (some (a16.add 1))) (.int .u8 x17) (.bool (x17 == 0)) (.bool (x17 == 0)) d61 d62 d63 d64 d65 d66 d67 w R))))
else
(Leaf (nat_quoted.j4 Y1 yn1 yc1 yg4 yg6 false d0 (.pointer (some ⟨yg2, 0, none⟩)) d3 d5 d7 d8 d9 d10 d11 d12 d13 d14 d15 d16 d17 d18 d19 d20 d21 d22 d23 (.bool y24) d25 d26 d27 d28 d29 d30 d31 d32 d33 d34 d35 d36 d37 d38 (.pointer (some ⟨yg2, 6, none⟩)) (.int .u8 x9) (.bool (x9 == 1)) (.bool true) (.slice Y1 yn1 yc1) (.pointer (some a10)) (.int .u8 x11) (.bool (x11 == 8)) (.bool false) (.slice Y1 yn1 yc1) (.pointer (some a14)) (.int .u8 x15) (.bool (x15 == 0)) (.bool (x15 == 0)) (.bool (x15 == 0)) (.bool false) undef undef undef undef (.bool false) d61 d62 d63 d64 d65 d66 d67 w R))))))))))
else
(Leaf (nat_quoted.j4 Y1 yn1 yc1 yg4 yg6 false d0 (.pointer (some ⟨yg2, 0, none⟩)) d3 d5 d7 d8 d9 d10 d11 d12 d13 d14 d15 d16 d17 d18 d19 d20 d21 d22 d23 (.bool y24) d25 d26 d27 d28 d29 d30 d31 d32 d33 d34 d35 d36 d37 d38 (.pointer (some ⟨yg2, 6, none⟩)) (.int .u8 x9) (.bool (x9 == 1)) (.bool false) undef undef undef undef undef undef undef undef undef undef (.bool false) (.bool false) undef undef undef undef (.bool false) d61 d62 d63 d64 d65 d66 d67 w R))))))) := by kernel_rfl
theorem nat_quoted.j3_eq (yg4 : Nat) (yg6 : Nat) (d0 d1 d2 d3 d5 d7 d8 d9 d10 d11 d12 d13 d14 d15 d16 d17 d18 d19 d20 d21 d22 d23 d24 d25 d26 d27 d28 d29 d30 d31 d32 d33 d34 d35 d36 d37 d38 d39 d40 d41 d42 d43 d44 d45 d46 d47 d48 d49 d50 d51 d52 d53 d54 d55 d56 d57 d58 d59 d60 d61 d62 d63 d64 d65 d66 d67 : Value) (w : World) (R : Ending → World → Prop) : nat_quoted.j3 yg4 yg6 d0 d1 d2 d3 d5 d7 d8 d9 d10 d11 d12 d13 d14 d15 d16 d17 d18 d19 d20 d21 d22 d23 d24 d25 d26 d27 d28 d29 d30 d31 d32 d33 d34 d35 d36 d37 d38 d39 d40 d41 d42 d43 d44 d45 d46 d47 d48 d49 d50 d51 d52 d53 d54 d55 d56 d57 d58 d59 d60 d61 d62 d63 d64 d65 d66 d67 w R =
(∃ x1 : Int, ∃ x2 : Int, ∃ x3 : Int, ∃ x4 : Int, ∃ x5 : Int, (5 = 5 ∧ At w ⟨yg6, 0, none⟩ [.int .u32 x1, .int .u32 x2, .int .u8 x3, .int .u16 x4, .int .u16 x5]) ∧
(May w ⟨yg4, 0, none⟩ 5 ∧
(Let (putCells w ⟨yg4, 0, none⟩ [.int .u32 x1, .int .u32 x2, .int .u8 x3, .int .u16 x4, .int .u16 x5] 0) fun w6 : World =>
 ∃ x7 : Int, ∃ x8 : Int, ∃ x9 : Int, ∃ x10 : Int, ∃ x11 : Int, (5 = 5 ∧ At w6 ⟨yg4, 0, none⟩ [.int .u32 x7, .int .u32 x8, .int .u8 x9, .int .u16 x10, .int .u16 x11]) ∧
(R (.returned (.tuple #[.agg #[.int .u32 x7, .int .u32 x8, .int .u8 x9, .int .u16 x10, .int .u16 x11], .bool true])) w6)))) := by kernel_rfl
theorem nat_quoted.j4_eq (Y1 : Option Addr) (yn1 : Nat) (yc1 : Nat) (yg4 : Nat) (yg6 : Nat) (y39 : Bool) (d0 d2 d3 d5 d7 d8 d9 d10 d11 d12 d13 d14 d15 d16 d17 d18 d19 d20 d21 d22 d23 d24 d25 d26 d27 d28 d29 d30 d31 d32 d33 d34 d35 d36 d37 d38 d40 d41 d42 d43 d44 d45 d46 d47 d48 d49 d50 d51 d52 d53 d54 d55 d56 d57 d58 d59 d60 d61 d62 d63 d64 d65 d66 d67 : Value) (w : World) (R : Ending → World → Prop) : nat_quoted.j4 Y1 yn1 yc1 yg4 yg6 y39 d0 d2 d3 d5 d7 d8 d9 d10 d11 d12 d13 d14 d15 d16 d17 d18 d19 d20 d21 d22 d23 d24 d25 d26 d27 d28 d29 d30 d31 d32 d33 d34 d35 d36 d37 d38 d40 d41 d42 d43 d44 d45 d46 d47 d48 d49 d50 d51 d52 d53 d54 d55 d56 d57 d58 d59 d60 d61 d62 d63 d64 d65 d66 d67 w R =
((if y39 = true then
(Calls Tryd.prog 68 #[.slice Y1 yn1 yc1, .int .i64 4] w (fun (e2 : Ending) (w1 : World) =>
 ∃ x3 : Int, e2 = .returned (.int .u16 x3) ∧
(MayC w1 ⟨yg6, 3, none⟩ ∧
(Let (w1.setCell ⟨yg6, 3, none⟩ (.int .u16 x3)) fun w4 : World =>
 ∃ x5 : Int, w4.cell? ⟨yg6, 3, none⟩ = some (.int .u16 x5) ∧
(MayC w4 ⟨yg6, 4, none⟩ ∧
(Let (w4.setCell ⟨yg6, 4, none⟩ (.int .u16 x5)) fun w6 : World =>
 Leaf (nat_quoted.j3 yg4 yg6 d0 (.slice Y1 yn1 yc1) d2 d3 d5 d7 d8 d9 d10 d11 d12 d13 d14 d15 d16 d17 d18 d19 d20 d21 d22 d23 d24 d25 d26 d27 d28 d29 d30 d31 d32 d33 d34 d35 d36 d37 d38 (.bool y39) d40 d41 d42 d43 d44 d45 d46 d47 d48 d49 d50 d51 d52 d53 d54 d55 d56 d57 d58 d59 d60 (.slice Y1 yn1 yc1) (.int .u16 x3) (.pointer (some ⟨yg6, 3, none⟩)) (.pointer (some ⟨yg6, 3, none⟩)) (.int .u16 x5) (.pointer (some ⟨yg6, 4, none⟩)) d67 w6 R)))))))
else
(May w ⟨yg4, 0, none⟩ 5 ∧
(Let (putCells w ⟨yg4, 0, none⟩ [.int .u32 0, .int .u32 0, .int .u8 0, .int .u16 0, .int .u16 0] 0) fun w7 : World =>
 ∃ x8 : Int, ∃ x9 : Int, ∃ x10 : Int, ∃ x11 : Int, ∃ x12 : Int, (5 = 5 ∧ At w7 ⟨yg4, 0, none⟩ [.int .u32 x8, .int .u32 x9, .int .u8 x10, .int .u16 x11, .int .u16 x12]) ∧
(R (.returned (.tuple #[.agg #[.int .u32 x8, .int .u32 x9, .int .u8 x10, .int .u16 x11, .int .u16 x12], .bool false])) w7))))) := by kernel_rfl
def nat_quoted.s (i0_0 : Int) (i0_1 : Int) (i0_2 : Bool) (i0_3 : Bool) (i0_4 : Int) (i0_5 : Int) (i0_6 : Int) (i0_7 : Int) (i0_8 : Int) (I0_9 : Option Addr) (in0_9 : Nat) (ic0_9 : Nat) (I1 : Option Addr) (in1 : Nat) (ic1 : Nat) (w : World) (R : Ending → World → Prop) : Prop :=
(Let (w.heap.size) fun g1 : Nat =>
 Let (w.alloc (.cells #[.int .u8 i0_0, .int .u16 i0_1, .bool i0_2, .bool i0_3, .int .i64 i0_4, .int .u8 i0_5, .int .u8 i0_6, .int .u32 i0_7, .int .u32 i0_8, .slice I0_9 in0_9 ic0_9] 43)) fun w2 : World =>
 Let (w2.heap.size) fun g3 : Nat =>
 Let (w2.alloc (.cells #[.int .u32 0, .int .u32 0, .int .u8 0, .int .u16 0, .int .u16 0] 32)) fun w4 : World =>
 ∃ x5 : Int, w4.cell? ⟨g1, 4, none⟩ = some (.int .i64 x5) ∧
((if (x5 != 0) = true then
(May w4 ⟨g3, 0, none⟩ 5 ∧
(Let (putCells w4 ⟨g3, 0, none⟩ [.int .u32 0, .int .u32 0, .int .u8 0, .int .u16 0, .int .u16 0] 0) fun w6 : World =>
 ∃ x7 : Int, ∃ x8 : Int, ∃ x9 : Int, ∃ x10 : Int, ∃ x11 : Int, (5 = 5 ∧ At w6 ⟨g3, 0, none⟩ [.int .u32 x7, .int .u32 x8, .int .u8 x9, .int .u16 x10, .int .u16 x11]) ∧
(R (.returned (.tuple #[.agg #[.int .u32 x7, .int .u32 x8, .int .u8 x9, .int .u16 x10, .int .u16 x11], .bool false])) w6)))
else
((if decide ((in1 : Int) < 8) = true then
(May w4 ⟨g3, 0, none⟩ 5 ∧
(Let (putCells w4 ⟨g3, 0, none⟩ [.int .u32 0, .int .u32 0, .int .u8 0, .int .u16 0, .int .u16 0] 0) fun w12 : World =>
 ∃ x13 : Int, ∃ x14 : Int, ∃ x15 : Int, ∃ x16 : Int, ∃ x17 : Int, (5 = 5 ∧ At w12 ⟨g3, 0, none⟩ [.int .u32 x13, .int .u32 x14, .int .u8 x15, .int .u16 x16, .int .u16 x17]) ∧
(R (.returned (.tuple #[.agg #[.int .u32 x13, .int .u32 x14, .int .u8 x15, .int .u16 x16, .int .u16 x17], .bool false])) w12)))
else
(Leaf (nat_quoted.j1 I1 in1 ic1 g1 g3 (.agg #[.int .u8 i0_0, .int .u16 i0_1, .bool i0_2, .bool i0_3, .int .i64 i0_4, .int .u8 i0_5, .int .u8 i0_6, .int .u32 i0_7, .int .u32 i0_8, .slice I0_9 in0_9 ic0_9]) undef (.bool false) undef (.pointer (some ⟨g1, 4, none⟩)) (.int .i64 x5) (.bool (x5 != 0)) (.bool false) (.slice I1 in1 ic1) (.int .i64 (in1 : Int)) (.bool (decide ((in1 : Int) < 8))) (.bool (decide ((in1 : Int) < 8))) undef undef undef undef undef undef undef undef undef undef undef undef undef undef undef undef undef undef undef undef undef undef undef undef undef undef undef undef undef undef undef undef undef undef undef undef undef undef undef undef undef undef undef undef undef undef undef undef undef undef undef undef undef w4 R)))))))
theorem nat_quoted.s_eq (i0_0 : Int) (i0_1 : Int) (i0_2 : Bool) (i0_3 : Bool) (i0_4 : Int) (i0_5 : Int) (i0_6 : Int) (i0_7 : Int) (i0_8 : Int) (I0_9 : Option Addr) (in0_9 : Nat) (ic0_9 : Nat) (I1 : Option Addr) (in1 : Nat) (ic1 : Nat) (w : World) (R : Ending → World → Prop) : seg Tryd.prog entE nat_quoted.ords nat_quoted.joins Tryd.f58 [] [] [] ([.agg #[.int .u8 i0_0, .int .u16 i0_1, .bool i0_2, .bool i0_3, .int .i64 i0_4, .int .u8 i0_5, .int .u8 i0_6, .int .u32 i0_7, .int .u32 i0_8, .slice I0_9 in0_9 ic0_9], .slice I1 in1 ic1] ++ List.replicate (Tryd.f58.ntmps - ([.agg #[.int .u8 i0_0, .int .u16 i0_1, .bool i0_2, .bool i0_3, .int .i64 i0_4, .int .u8 i0_5, .int .u8 i0_6, .int .u32 i0_7, .int .u32 i0_8, .slice I0_9 in0_9 ic0_9], .slice I1 in1 ic1] : List Value).length) undef) w R = nat_quoted.s i0_0 i0_1 i0_2 i0_3 i0_4 i0_5 i0_6 i0_7 i0_8 I0_9 in0_9 ic0_9 I1 in1 ic1 w R := by kernel_rfl
theorem nat_quoted.run {i0_0 : Int} {i0_1 : Int} {i0_2 : Bool} {i0_3 : Bool} {i0_4 : Int} {i0_5 : Int} {i0_6 : Int} {i0_7 : Int} {i0_8 : Int} {I0_9 : Option Addr} {in0_9 : Nat} {ic0_9 : Nat} {I1 : Option Addr} {in1 : Nat} {ic1 : Nat} {w : World} {R : Ending → World → Prop} (h : nat_quoted.s i0_0 i0_1 i0_2 i0_3 i0_4 i0_5 i0_6 i0_7 i0_8 I0_9 in0_9 ic0_9 I1 in1 ic1 w R) : Calls Tryd.prog 58 #[.agg #[.int .u8 i0_0, .int .u16 i0_1, .bool i0_2, .bool i0_3, .int .i64 i0_4, .int .u8 i0_5, .int .u8 i0_6, .int .u32 i0_7, .int .u32 i0_8, .slice I0_9 in0_9 ic0_9], .slice I1 in1 ic1] w R :=
  calls_seg ents mixed Tryd.func58 rfl (by rw [nat_quoted.s_eq]; exact h)
/-! ### nat_may: function 59 -/
def nat_may.ords : Nat → Od
  | _ => .nil
def nat_may.joins (p : List Nat) : Bool := false
def nat_may.s (i0 : Int) (w : World) (R : Ending → World → Prop) : Prop :=
((if (i0 == 3) = true then
(R (.returned (.bool true)) w)
else
((if (i0 == 11) = true then
(R (.returned (.bool true)) w)
else
(R (.returned (.bool (i0 == 12))) w)))))
theorem nat_may.s_eq (i0 : Int) (w : World) (R : Ending → World → Prop) : seg Tryd.prog entE nat_may.ords nat_may.joins Tryd.f59 [] [] [] ([.int .u8 i0] ++ List.replicate (Tryd.f59.ntmps - ([.int .u8 i0] : List Value).length) undef) w R = nat_may.s i0 w R := by kernel_rfl
theorem nat_may.run {i0 : Int} {w : World} {R : Ending → World → Prop} (h : nat_may.s i0 w R) : Calls Tryd.prog 59 #[.int .u8 i0] w R :=
  calls_seg ents mixed Tryd.func59 rfl (by rw [nat_may.s_eq]; exact h)
/-! ### nat_TurnFault: function 35 -/
def nat_TurnFault.ords : Nat → Od
  | 14 => (.tk 0 (.tk 1 (.tk 2 (.tk 3 (.tk 4 (.tk 5 (.on 6 (.on 7 (.on 8 .nil)))))))))
  | 15 => (.tk 0 (.tk 1 (.tk 2 (.tk 3 (.tk 4 (.tk 5 (.tk 6 (.tk 7 (.tk 8 (.tk 9 (.tk 10 (.on 11 .nil))))))))))))
  | _ => .nil
def nat_TurnFault.joins (p : List Nat) : Bool := p == [1, 1, 1, 1, 1, 1, 1]
def nat_TurnFault.j1 (y1 : Int) (y2 : Int) (yg4 : Nat) (yg7 : Nat) (yg8 : Nat) (yg10 : Nat) (Y11 : Option Addr) (yn11 : Nat) (yc11 : Nat) (yg13 : Nat) (yg14 : Nat) (d0 d3 d5 d6 d9 d12 d15 d16 d17 d18 d19 d20 d21 d22 d23 d24 d25 d26 d27 d28 d29 d30 d31 d32 d33 d34 d35 d36 d37 d38 d39 d40 d41 d42 d43 d44 d45 d46 d47 d48 d49 d50 d51 d52 d53 d54 d55 d56 d57 d58 d59 d60 d61 d62 d63 d64 d65 d66 d67 d68 d69 d70 d71 d72 d73 d74 d75 d76 d77 d78 d79 d80 d81 d82 d83 d84 d85 d86 d87 d88 d89 d90 d91 d92 d93 d94 d95 d96 d97 d98 d99 d100 d101 d102 d103 d104 d105 d106 d107 d108 d109 d110 d111 d112 d113 d114 d115 d116 d117 d118 d119 d120 d121 d122 d123 d124 d125 d126 d127 d128 d129 d130 d131 d132 d133 d134 : Value) (w : World) (R : Ending → World → Prop) : Prop :=
  seg Tryd.prog entE nat_TurnFault.ords nat_TurnFault.joins Tryd.f35 [1, 1, 1, 1, 1, 1, 1] [1, 1, 1, 1, 1, 1, 1] [] [d0, .int .u32 y1, .int .u32 y2, d3, .pointer (some ⟨yg4, 0, none⟩), d5, d6, .pointer (some ⟨yg7, 0, none⟩), .pointer (some ⟨yg8, 0, none⟩), d9, .pointer (some ⟨yg10, 0, none⟩), .slice Y11 yn11 yc11, d12, .pointer (some ⟨yg13, 0, none⟩), .pointer (some ⟨yg14, 0, none⟩), d15, d16, d17, d18, d19, d20, d21, d22, d23, d24, d25, d26, d27, d28, d29, d30, d31, d32, d33, d34, d35, d36, d37, d38, d39, d40, d41, d42, d43, d44, d45, d46, d47, d48, d49, d50, d51, d52, d53, d54, d55, d56, d57, d58, d59, d60, d61, d62, d63, d64, d65, d66, d67, d68, d69, d70, d71, d72, d73, d74, d75, d76, d77, d78, d79, d80, d81, d82, d83, d84, d85, d86, d87, d88, d89, d90, d91, d92, d93, d94, d95, d96, d97, d98, d99, d100, d101, d102, d103, d104, d105, d106, d107, d108, d109, d110, d111, d112, d113, d114, d115, d116, d117, d118, d119, d120, d121, d122, d123, d124, d125, d126, d127, d128, d129, d130, d131, d132, d133, d134] w R
abbrev nat_TurnFault.J1 (y1 : Int) (y2 : Int) (yg4 : Nat) (yg7 : Nat) (yg8 : Nat) (yg10 : Nat) (Y11 : Option Addr) (yn11 : Nat) (yc11 : Nat) (yg13 : Nat) (yg14 : Nat) (w : World) (R : Ending → World → Prop) : Prop := ∀ d0 d3 d5 d6 d9 d12 d15 d16 d17 d18 d19 d20 d21 d22 d23 d24 d25 d26 d27 d28 d29 d30 d31 d32 d33 d34 d35 d36 d37 d38 d39 d40 d41 d42 d43 d44 d45 d46 d47 d48 d49 d50 d51 d52 d53 d54 d55 d56 d57 d58 d59 d60 d61 d62 d63 d64 d65 d66 d67 d68 d69 d70 d71 d72 d73 d74 d75 d76 d77 d78 d79 d80 d81 d82 d83 d84 d85 d86 d87 d88 d89 d90 d91 d92 d93 d94 d95 d96 d97 d98 d99 d100 d101 d102 d103 d104 d105 d106 d107 d108 d109 d110 d111 d112 d113 d114 d115 d116 d117 d118 d119 d120 d121 d122 d123 d124 d125 d126 d127 d128 d129 d130 d131 d132 d133 d134 : Value, nat_TurnFault.j1 y1 y2 yg4 yg7 yg8 yg10 Y11 yn11 yc11 yg13 yg14 d0 d3 d5 d6 d9 d12 d15 d16 d17 d18 d19 d20 d21 d22 d23 d24 d25 d26 d27 d28 d29 d30 d31 d32 d33 d34 d35 d36 d37 d38 d39 d40 d41 d42 d43 d44 d45 d46 d47 d48 d49 d50 d51 d52 d53 d54 d55 d56 d57 d58 d59 d60 d61 d62 d63 d64 d65 d66 d67 d68 d69 d70 d71 d72 d73 d74 d75 d76 d77 d78 d79 d80 d81 d82 d83 d84 d85 d86 d87 d88 d89 d90 d91 d92 d93 d94 d95 d96 d97 d98 d99 d100 d101 d102 d103 d104 d105 d106 d107 d108 d109 d110 d111 d112 d113 d114 d115 d116 d117 d118 d119 d120 d121 d122 d123 d124 d125 d126 d127 d128 d129 d130 d131 d132 d133 d134 w R
theorem nat_TurnFault.j1_eq (y1 : Int) (y2 : Int) (yg4 : Nat) (yg7 : Nat) (yg8 : Nat) (yg10 : Nat) (Y11 : Option Addr) (yn11 : Nat) (yc11 : Nat) (yg13 : Nat) (yg14 : Nat) (d0 d3 d5 d6 d9 d12 d15 d16 d17 d18 d19 d20 d21 d22 d23 d24 d25 d26 d27 d28 d29 d30 d31 d32 d33 d34 d35 d36 d37 d38 d39 d40 d41 d42 d43 d44 d45 d46 d47 d48 d49 d50 d51 d52 d53 d54 d55 d56 d57 d58 d59 d60 d61 d62 d63 d64 d65 d66 d67 d68 d69 d70 d71 d72 d73 d74 d75 d76 d77 d78 d79 d80 d81 d82 d83 d84 d85 d86 d87 d88 d89 d90 d91 d92 d93 d94 d95 d96 d97 d98 d99 d100 d101 d102 d103 d104 d105 d106 d107 d108 d109 d110 d111 d112 d113 d114 d115 d116 d117 d118 d119 d120 d121 d122 d123 d124 d125 d126 d127 d128 d129 d130 d131 d132 d133 d134 : Value) (w : World) (R : Ending → World → Prop) : nat_TurnFault.j1 y1 y2 yg4 yg7 yg8 yg10 Y11 yn11 yc11 yg13 yg14 d0 d3 d5 d6 d9 d12 d15 d16 d17 d18 d19 d20 d21 d22 d23 d24 d25 d26 d27 d28 d29 d30 d31 d32 d33 d34 d35 d36 d37 d38 d39 d40 d41 d42 d43 d44 d45 d46 d47 d48 d49 d50 d51 d52 d53 d54 d55 d56 d57 d58 d59 d60 d61 d62 d63 d64 d65 d66 d67 d68 d69 d70 d71 d72 d73 d74 d75 d76 d77 d78 d79 d80 d81 d82 d83 d84 d85 d86 d87 d88 d89 d90 d91 d92 d93 d94 d95 d96 d97 d98 d99 d100 d101 d102 d103 d104 d105 d106 d107 d108 d109 d110 d111 d112 d113 d114 d115 d116 d117 d118 d119 d120 d121 d122 d123 d124 d125 d126 d127 d128 d129 d130 d131 d132 d133 d134 w R =
(∃ (A1 : Option Addr) (n1_ c1_ : Nat), w.cell? ⟨yg13, 3, none⟩ = some (.slice A1 n1_ c1_) ∧
(∃ (A2 : Option Addr) (n2_ c2_ : Nat), w.cell? ⟨yg10, 9, none⟩ = some (.slice A2 n2_ c2_) ∧
(Let (IntKind.i64.wrap (20 + (n2_ : Int))) fun x3 : Int =>
 ∃ x4 : Int, w.cell? ⟨yg7, 0, none⟩ = some (.int .u32 x4) ∧
(Calls Tryd.prog 60 #[.slice A1 n1_ c1_, .int .i64 12, .int .u32 x4] w (fun (e6 : Ending) (w5 : World) =>
 e6 = .returned (.tuple #[]) ∧
(∃ x7 : Int, w5.cell? ⟨yg7, 1, none⟩ = some (.int .u32 x7) ∧
(Calls Tryd.prog 60 #[.slice A1 n1_ c1_, .int .i64 16, .int .u32 x7] w5 (fun (e9 : Ending) (w8 : World) =>
 e9 = .returned (.tuple #[]) ∧
(∃ S10 : World → Prop, S10 w8.drew ∧
(Let (w8.drew) fun w11 : World =>
(0 ≤ (10 : Int) ∧ (10 : Int) ≤ (c1_ : Int)) ∧
((0 ≤ x3 ∧ x3 ≤ (c1_ : Int)) ∧
(0 ≤ (12 : Int) ∧ (12 : Int) ≤ (x3.toNat : Int)) ∧
(Let (w11.heap.size) fun g12 : Nat =>
 Let (w11.alloc (.cells #[.slice A1 10 c1_, .slice (cutA A1 12 c1_ 1) (x3.toNat - 12) (c1_ - 12)] 41)) fun w13 : World =>
 S10 w13 ∧
(Calls Tryd.prog 50 #[.slice (some ⟨g12, 0, none⟩) 2 2] w13 (fun (e15 : Ending) (w14 : World) =>
 ∃ x16 : Int, e15 = .returned (.int .u16 x16) ∧
(S10 w14 ∧
(Calls Tryd.prog 61 #[.slice A1 n1_ c1_, .int .i64 10, .int .u16 x16] w14 (fun (e18 : Ending) (w17 : World) =>
 e18 = .returned (.tuple #[]) ∧
(S10 w17 ∧
(∃ S19 : World → Prop, S19 w17.drew ∧
(Let (w17.drew) fun w20 : World =>
 Let (IntKind.i64.wrap (x3 + (yn11 : Int))) fun x21 : Int =>
(0 ≤ x21 ∧ x21 ≤ (c1_ : Int)) ∧
(0 ≤ x3 ∧ x3 ≤ (x21.toNat : Int)) ∧
(∃ x22 : Int, (∀ w', S19 w' → w'.cell? ⟨yg14, 2, none⟩ = some (.int .u8 x22)) ∧
(∃ x23 : Int, ∃ x24 : Int, ∃ x25 : Int, ∃ x26 : Int, ∃ x27 : Int, (5 = 5 ∧ (∀ w', S19 w' → At w' ⟨yg14, 0, none⟩ [.int .u32 x23, .int .u32 x24, .int .u8 x25, .int .u16 x26, .int .u16 x27])) ∧
(∃ x28 : Int, ∃ x29 : Int, ∃ x30 : Int, ∃ x31 : Int, ∃ x32 : Int, (5 = 5 ∧ (∀ w', S19 w' → At w' ⟨yg7, 0, none⟩ [.int .u32 x28, .int .u32 x29, .int .u8 x30, .int .u16 x31, .int .u16 x32])) ∧
(Calls Tryd.prog 39 #[.slice (cutA A1 x3.toNat c1_ 1) (x21.toNat - x3.toNat) (c1_ - x3.toNat), .int .u8 x22, .agg #[.int .u32 x23, .int .u32 x24, .int .u8 x25, .int .u16 x26, .int .u16 x27], .agg #[.int .u32 x28, .int .u32 x29, .int .u8 x30, .int .u16 x31, .int .u16 x32], .bool false] w20 (fun (e34 : Ending) (w33 : World) =>
 e34 = .returned (.tuple #[]) ∧
(S19 w33 ∧
(∃ x35 : Int, ∃ x36 : Int, ∃ x37 : Int, ∃ (A38 : Option Addr) (n38_ c38_ : Nat), (4 = 4 ∧ At w33 ⟨yg13, 0, none⟩ [.int .u8 x35, .int .u8 x36, .int .u32 x37, .slice A38 n38_ c38_]) ∧
(Calls Tryd.prog 62 #[.agg #[.int .u8 x35, .int .u8 x36, .int .u32 x37, .slice A38 n38_ c38_]] w33 (fun (e40 : Ending) (w39 : World) =>
 ∃ (A41 : Option Addr) (n41_ c41_ : Nat), ∃ x42 : Int, e40 = .returned (.tuple #[.slice A41 n41_ c41_, .int .i64 x42]) ∧
((if (x42 != 0) = true then
(May w39 ⟨yg8, 0, none⟩ 11 ∧
(Let (putCells w39 ⟨yg8, 0, none⟩ [.int .u8 0, .int .u16 0, .bool false, .bool false, .int .i64 0, .int .u8 0, .int .u8 0, .int .u32 0, .int .u32 0, .slice none 0 0, .slice none 0 0] 0) fun w43 : World =>
 ∃ x44 : Int, ∃ x45 : Int, ∃ b46 : Bool, ∃ b47 : Bool, ∃ x48 : Int, ∃ x49 : Int, ∃ x50 : Int, ∃ x51 : Int, ∃ x52 : Int, ∃ (A53 : Option Addr) (n53_ c53_ : Nat), ∃ (A54 : Option Addr) (n54_ c54_ : Nat), (11 = 11 ∧ At w43 ⟨yg8, 0, none⟩ [.int .u8 x44, .int .u16 x45, .bool b46, .bool b47, .int .i64 x48, .int .u8 x49, .int .u8 x50, .int .u32 x51, .int .u32 x52, .slice A53 n53_ c53_, .slice A54 n54_ c54_]) ∧
(R (.returned (.tuple #[.agg #[.int .u8 x44, .int .u16 x45, .bool b46, .bool b47, .int .i64 x48, .int .u8 x49, .int .u8 x50, .int .u32 x51, .int .u32 x52, .slice A53 n53_ c53_, .slice A54 n54_ c54_], .int .i64 x42])) w43)))
else
(∃ x55 : Int, ∃ x56 : Int, ∃ b57 : Bool, ∃ b58 : Bool, ∃ x59 : Int, ∃ x60 : Int, ∃ x61 : Int, ∃ x62 : Int, ∃ x63 : Int, ∃ (A64 : Option Addr) (n64_ c64_ : Nat), (10 = 10 ∧ At w39 ⟨yg4, 0, none⟩ [.int .u8 x55, .int .u16 x56, .bool b57, .bool b58, .int .i64 x59, .int .u8 x60, .int .u8 x61, .int .u32 x62, .int .u32 x63, .slice A64 n64_ c64_]) ∧
(Let (w39.heap.size) fun g65 : Nat =>
 Let (w39.alloc (.cells #[.int .u8 0, .int .u16 0, .bool false, .bool false, .int .i64 0, .int .u8 0, .int .u8 0, .int .u32 0, .int .u32 0, .slice none 0 0, .slice none 0 0] 45)) fun w66 : World =>
 May w66 ⟨g65, 0, none⟩ 11 ∧
(Let (putCells w66 ⟨g65, 0, none⟩ [.int .u8 x55, .int .u16 x56, .bool b57, .bool b58, .int .i64 x59, .int .u8 x60, .int .u8 x61, .int .u32 x62, .int .u32 x63, .slice A64 n64_ c64_, .slice A41 n41_ c41_] 0) fun w67 : World =>
 ∃ (A68 : Option Addr) (n68_ c68_ : Nat), w67.cell? ⟨yg4, 9, none⟩ = some (.slice A68 n68_ c68_) ∧
(Calls Tryd.prog 38 #[.slice A68 n68_ c68_] w67 (fun (e70 : Ending) (w69 : World) =>
 ∃ (A71 : Option Addr) (n71_ c71_ : Nat), e70 = .returned (.slice A71 n71_ c71_) ∧
(MayC w69 ⟨g65, 9, none⟩ ∧
(Let (w69.setCell ⟨g65, 9, none⟩ (.slice A71 n71_ c71_)) fun w72 : World =>
 MayC w72 ⟨g65, 7, none⟩ ∧
(Let (w72.setCell ⟨g65, 7, none⟩ (.int .u32 y1)) fun w73 : World =>
 MayC w73 ⟨g65, 8, none⟩ ∧
(Let (w73.setCell ⟨g65, 8, none⟩ (.int .u32 y2)) fun w74 : World =>
 ∃ x75 : Int, ∃ x76 : Int, ∃ b77 : Bool, ∃ b78 : Bool, ∃ x79 : Int, ∃ x80 : Int, ∃ x81 : Int, ∃ x82 : Int, ∃ x83 : Int, ∃ (A84 : Option Addr) (n84_ c84_ : Nat), ∃ (A85 : Option Addr) (n85_ c85_ : Nat), (11 = 11 ∧ At w74 ⟨g65, 0, none⟩ [.int .u8 x75, .int .u16 x76, .bool b77, .bool b78, .int .i64 x79, .int .u8 x80, .int .u8 x81, .int .u32 x82, .int .u32 x83, .slice A84 n84_ c84_, .slice A85 n85_ c85_]) ∧
(May w74 ⟨yg8, 0, none⟩ 11 ∧
(Let (putCells w74 ⟨yg8, 0, none⟩ [.int .u8 x75, .int .u16 x76, .bool b77, .bool b78, .int .i64 x79, .int .u8 x80, .int .u8 x81, .int .u32 x82, .int .u32 x83, .slice A84 n84_ c84_, .slice A85 n85_ c85_] 0) fun w86 : World =>
 ∃ x87 : Int, ∃ x88 : Int, ∃ b89 : Bool, ∃ b90 : Bool, ∃ x91 : Int, ∃ x92 : Int, ∃ x93 : Int, ∃ x94 : Int, ∃ x95 : Int, ∃ (A96 : Option Addr) (n96_ c96_ : Nat), ∃ (A97 : Option Addr) (n97_ c97_ : Nat), (11 = 11 ∧ At w86 ⟨yg8, 0, none⟩ [.int .u8 x87, .int .u16 x88, .bool b89, .bool b90, .int .i64 x91, .int .u8 x92, .int .u8 x93, .int .u32 x94, .int .u32 x95, .slice A96 n96_ c96_, .slice A97 n97_ c97_]) ∧
(R (.returned (.tuple #[.agg #[.int .u8 x87, .int .u16 x88, .bool b89, .bool b90, .int .i64 x91, .int .u8 x92, .int .u8 x93, .int .u32 x94, .int .u32 x95, .slice A96 n96_ c96_, .slice A97 n97_ c97_], .int .i64 0])) w86))))))))))))))))))))))))))))))))))))))))))) := by kernel_rfl
def nat_TurnFault.s (i0_0 : Int) (i0_1 : Int) (i0_2 : Bool) (i0_3 : Bool) (i0_4 : Int) (i0_5 : Int) (i0_6 : Int) (i0_7 : Int) (i0_8 : Int) (I0_9 : Option Addr) (in0_9 : Nat) (ic0_9 : Nat) (I0_10 : Option Addr) (in0_10 : Nat) (ic0_10 : Nat) (i1 : Int) (i2 : Int) (i3_0 : Int) (i3_1 : Int) (i3_2 : Int) (i3_3 : Int) (i3_4 : Int) (w : World) (R : Ending → World → Prop) : Prop :=
(Let (w.heap.size) fun g1 : Nat =>
 Let (w.alloc (.cells #[.int .u8 i0_0, .int .u16 i0_1, .bool i0_2, .bool i0_3, .int .i64 i0_4, .int .u8 i0_5, .int .u8 i0_6, .int .u32 i0_7, .int .u32 i0_8, .slice I0_9 in0_9 ic0_9, .slice I0_10 in0_10 ic0_10] 45)) fun w2 : World =>
 Let (w2.heap.size) fun g3 : Nat =>
 Let (w2.alloc (.cells #[.int .u32 i3_0, .int .u32 i3_1, .int .u8 i3_2, .int .u16 i3_3, .int .u16 i3_4] 32)) fun w4 : World =>
 Let (w4.heap.size) fun g5 : Nat =>
 Let (w4.alloc (.cells #[.int .u8 0, .int .u16 0, .bool false, .bool false, .int .i64 0, .int .u8 0, .int .u8 0, .int .u32 0, .int .u32 0, .slice none 0 0, .slice none 0 0] 45)) fun w6 : World =>
 ∃ x7 : Int, ∃ x8 : Int, ∃ b9 : Bool, ∃ b10 : Bool, ∃ x11 : Int, ∃ x12 : Int, ∃ x13 : Int, ∃ x14 : Int, ∃ x15 : Int, ∃ (A16 : Option Addr) (n16_ c16_ : Nat), ∃ (A17 : Option Addr) (n17_ c17_ : Nat), (11 = 11 ∧ At w6 ⟨g1, 0, none⟩ [.int .u8 x7, .int .u16 x8, .bool b9, .bool b10, .int .i64 x11, .int .u8 x12, .int .u8 x13, .int .u32 x14, .int .u32 x15, .slice A16 n16_ c16_, .slice A17 n17_ c17_]) ∧
(Calls Tryd.prog 36 #[.agg #[.int .u8 x7, .int .u16 x8, .bool b9, .bool b10, .int .i64 x11, .int .u8 x12, .int .u8 x13, .int .u32 x14, .int .u32 x15, .slice A16 n16_ c16_, .slice A17 n17_ c17_]] w6 (fun (e19 : Ending) (w18 : World) =>
 ∃ x20 : Int, ∃ x21 : Int, ∃ b22 : Bool, ∃ b23 : Bool, ∃ x24 : Int, ∃ x25 : Int, ∃ x26 : Int, ∃ x27 : Int, ∃ x28 : Int, ∃ (A29 : Option Addr) (n29_ c29_ : Nat), ∃ (A30 : Option Addr) (n30_ c30_ : Nat), ∃ x31 : Int, e19 = .returned (.tuple #[.agg #[.int .u8 x20, .int .u16 x21, .bool b22, .bool b23, .int .i64 x24, .int .u8 x25, .int .u8 x26, .int .u32 x27, .int .u32 x28, .slice A29 n29_ c29_], .slice A30 n30_ c30_, .int .i64 x31]) ∧
(Let (w18.heap.size) fun g32 : Nat =>
 Let (w18.alloc (.cells #[.int .u8 0, .int .u16 0, .bool false, .bool false, .int .i64 0, .int .u8 0, .int .u8 0, .int .u32 0, .int .u32 0, .slice none 0 0] 43)) fun w33 : World =>
 May w33 ⟨g32, 0, none⟩ 10 ∧
(Let (putCells w33 ⟨g32, 0, none⟩ [.int .u8 x20, .int .u16 x21, .bool b22, .bool b23, .int .i64 x24, .int .u8 x25, .int .u8 x26, .int .u32 x27, .int .u32 x28, .slice A29 n29_ c29_] 0) fun w34 : World =>
(if (x31 != 0) = true then
(May w34 ⟨g5, 0, none⟩ 11 ∧
(Let (putCells w34 ⟨g5, 0, none⟩ [.int .u8 0, .int .u16 0, .bool false, .bool false, .int .i64 0, .int .u8 0, .int .u8 0, .int .u32 0, .int .u32 0, .slice none 0 0, .slice none 0 0] 0) fun w35 : World =>
 ∃ x36 : Int, ∃ x37 : Int, ∃ b38 : Bool, ∃ b39 : Bool, ∃ x40 : Int, ∃ x41 : Int, ∃ x42 : Int, ∃ x43 : Int, ∃ x44 : Int, ∃ (A45 : Option Addr) (n45_ c45_ : Nat), ∃ (A46 : Option Addr) (n46_ c46_ : Nat), (11 = 11 ∧ At w35 ⟨g5, 0, none⟩ [.int .u8 x36, .int .u16 x37, .bool b38, .bool b39, .int .i64 x40, .int .u8 x41, .int .u8 x42, .int .u32 x43, .int .u32 x44, .slice A45 n45_ c45_, .slice A46 n46_ c46_]) ∧
(R (.returned (.tuple #[.agg #[.int .u8 x36, .int .u16 x37, .bool b38, .bool b39, .int .i64 x40, .int .u8 x41, .int .u8 x42, .int .u32 x43, .int .u32 x44, .slice A45 n45_ c45_, .slice A46 n46_ c46_], .int .i64 x31])) w35)))
else
(∃ (A47 : Option Addr) (n47_ c47_ : Nat), w34.cell? ⟨g1, 10, none⟩ = some (.slice A47 n47_ c47_) ∧
(Calls Tryd.prog 53 #[.slice A47 n47_ c47_] w34 (fun (e49 : Ending) (w48 : World) =>
 ∃ x50 : Int, ∃ x51 : Int, ∃ x52 : Int, ∃ (A53 : Option Addr) (n53_ c53_ : Nat), ∃ x54 : Int, e49 = .returned (.tuple #[.agg #[.int .u8 x50, .int .u8 x51, .int .u32 x52, .slice A53 n53_ c53_], .int .i64 x54]) ∧
(Let (w48.heap.size) fun g55 : Nat =>
 Let (w48.alloc (.cells #[.int .u8 0, .int .u8 0, .int .u32 0, .slice none 0 0] 115)) fun w56 : World =>
 May w56 ⟨g55, 0, none⟩ 4 ∧
(Let (putCells w56 ⟨g55, 0, none⟩ [.int .u8 x50, .int .u8 x51, .int .u32 x52, .slice A53 n53_ c53_] 0) fun w57 : World =>
(if (x54 != 0) = true then
(May w57 ⟨g5, 0, none⟩ 11 ∧
(Let (putCells w57 ⟨g5, 0, none⟩ [.int .u8 0, .int .u16 0, .bool false, .bool false, .int .i64 0, .int .u8 0, .int .u8 0, .int .u32 0, .int .u32 0, .slice none 0 0, .slice none 0 0] 0) fun w58 : World =>
 ∃ x59 : Int, ∃ x60 : Int, ∃ b61 : Bool, ∃ b62 : Bool, ∃ x63 : Int, ∃ x64 : Int, ∃ x65 : Int, ∃ x66 : Int, ∃ x67 : Int, ∃ (A68 : Option Addr) (n68_ c68_ : Nat), ∃ (A69 : Option Addr) (n69_ c69_ : Nat), (11 = 11 ∧ At w58 ⟨g5, 0, none⟩ [.int .u8 x59, .int .u16 x60, .bool b61, .bool b62, .int .i64 x63, .int .u8 x64, .int .u8 x65, .int .u32 x66, .int .u32 x67, .slice A68 n68_ c68_, .slice A69 n69_ c69_]) ∧
(R (.returned (.tuple #[.agg #[.int .u8 x59, .int .u16 x60, .bool b61, .bool b62, .int .i64 x63, .int .u8 x64, .int .u8 x65, .int .u32 x66, .int .u32 x67, .slice A68 n68_ c68_, .slice A69 n69_ c69_], .int .i64 x54])) w58)))
else
(∃ x70 : Int, ∃ x71 : Int, ∃ b72 : Bool, ∃ b73 : Bool, ∃ x74 : Int, ∃ x75 : Int, ∃ x76 : Int, ∃ x77 : Int, ∃ x78 : Int, ∃ (A79 : Option Addr) (n79_ c79_ : Nat), (10 = 10 ∧ At w57 ⟨g32, 0, none⟩ [.int .u8 x70, .int .u16 x71, .bool b72, .bool b73, .int .i64 x74, .int .u8 x75, .int .u8 x76, .int .u32 x77, .int .u32 x78, .slice A79 n79_ c79_]) ∧
(Calls Tryd.prog 58 #[.agg #[.int .u8 x70, .int .u16 x71, .bool b72, .bool b73, .int .i64 x74, .int .u8 x75, .int .u8 x76, .int .u32 x77, .int .u32 x78, .slice A79 n79_ c79_], .slice A30 n30_ c30_] w57 (fun (e81 : Ending) (w80 : World) =>
 ∃ x82 : Int, ∃ x83 : Int, ∃ x84 : Int, ∃ x85 : Int, ∃ x86 : Int, ∃ b87 : Bool, e81 = .returned (.tuple #[.agg #[.int .u32 x82, .int .u32 x83, .int .u8 x84, .int .u16 x85, .int .u16 x86], .bool b87]) ∧
(Let (w80.heap.size) fun g88 : Nat =>
 Let (w80.alloc (.cells #[.int .u32 0, .int .u32 0, .int .u8 0, .int .u16 0, .int .u16 0] 32)) fun w89 : World =>
 May w89 ⟨g88, 0, none⟩ 5 ∧
(Let (putCells w89 ⟨g88, 0, none⟩ [.int .u32 x82, .int .u32 x83, .int .u8 x84, .int .u16 x85, .int .u16 x86] 0) fun w90 : World =>
 ∃ x91 : Int, w90.cell? ⟨g55, 0, none⟩ = some (.int .u8 x91) ∧
(Calls Tryd.prog 59 #[.int .u8 x91] w90 (fun (e93 : Ending) (w92 : World) =>
 ∃ b94 : Bool, e93 = .returned (.bool b94) ∧
((if (!b94) = true then
(May w92 ⟨g5, 0, none⟩ 11 ∧
(Let (putCells w92 ⟨g5, 0, none⟩ [.int .u8 0, .int .u16 0, .bool false, .bool false, .int .i64 0, .int .u8 0, .int .u8 0, .int .u32 0, .int .u32 0, .slice none 0 0, .slice none 0 0] 0) fun w95 : World =>
 ∃ x96 : Int, ∃ x97 : Int, ∃ b98 : Bool, ∃ b99 : Bool, ∃ x100 : Int, ∃ x101 : Int, ∃ x102 : Int, ∃ x103 : Int, ∃ x104 : Int, ∃ (A105 : Option Addr) (n105_ c105_ : Nat), ∃ (A106 : Option Addr) (n106_ c106_ : Nat), (11 = 11 ∧ At w95 ⟨g5, 0, none⟩ [.int .u8 x96, .int .u16 x97, .bool b98, .bool b99, .int .i64 x100, .int .u8 x101, .int .u8 x102, .int .u32 x103, .int .u32 x104, .slice A105 n105_ c105_, .slice A106 n106_ c106_]) ∧
(R (.returned (.tuple #[.agg #[.int .u8 x96, .int .u16 x97, .bool b98, .bool b99, .int .i64 x100, .int .u8 x101, .int .u8 x102, .int .u32 x103, .int .u32 x104, .slice A105 n105_ c105_, .slice A106 n106_ c106_], .int .i64 230])) w95)))
else
((if (!b87) = true then
(May w92 ⟨g5, 0, none⟩ 11 ∧
(Let (putCells w92 ⟨g5, 0, none⟩ [.int .u8 0, .int .u16 0, .bool false, .bool false, .int .i64 0, .int .u8 0, .int .u8 0, .int .u32 0, .int .u32 0, .slice none 0 0, .slice none 0 0] 0) fun w107 : World =>
 ∃ x108 : Int, ∃ x109 : Int, ∃ b110 : Bool, ∃ b111 : Bool, ∃ x112 : Int, ∃ x113 : Int, ∃ x114 : Int, ∃ x115 : Int, ∃ x116 : Int, ∃ (A117 : Option Addr) (n117_ c117_ : Nat), ∃ (A118 : Option Addr) (n118_ c118_ : Nat), (11 = 11 ∧ At w107 ⟨g5, 0, none⟩ [.int .u8 x108, .int .u16 x109, .bool b110, .bool b111, .int .i64 x112, .int .u8 x113, .int .u8 x114, .int .u32 x115, .int .u32 x116, .slice A117 n117_ c117_, .slice A118 n118_ c118_]) ∧
(R (.returned (.tuple #[.agg #[.int .u8 x108, .int .u16 x109, .bool b110, .bool b111, .int .i64 x112, .int .u8 x113, .int .u8 x114, .int .u32 x115, .int .u32 x116, .slice A117 n117_ c117_, .slice A118 n118_ c118_], .int .i64 230])) w107)))
else
(∃ x119 : Int, w92.cell? ⟨g3, 2, none⟩ = some (.int .u8 x119) ∧
(∃ x120 : Int, w92.cell? ⟨g88, 2, none⟩ = some (.int .u8 x120) ∧
((if (x119 != x120) = true then
(May w92 ⟨g5, 0, none⟩ 11 ∧
(Let (putCells w92 ⟨g5, 0, none⟩ [.int .u8 0, .int .u16 0, .bool false, .bool false, .int .i64 0, .int .u8 0, .int .u8 0, .int .u32 0, .int .u32 0, .slice none 0 0, .slice none 0 0] 0) fun w121 : World =>
 ∃ x122 : Int, ∃ x123 : Int, ∃ b124 : Bool, ∃ b125 : Bool, ∃ x126 : Int, ∃ x127 : Int, ∃ x128 : Int, ∃ x129 : Int, ∃ x130 : Int, ∃ (A131 : Option Addr) (n131_ c131_ : Nat), ∃ (A132 : Option Addr) (n132_ c132_ : Nat), (11 = 11 ∧ At w121 ⟨g5, 0, none⟩ [.int .u8 x122, .int .u16 x123, .bool b124, .bool b125, .int .i64 x126, .int .u8 x127, .int .u8 x128, .int .u32 x129, .int .u32 x130, .slice A131 n131_ c131_, .slice A132 n132_ c132_]) ∧
(R (.returned (.tuple #[.agg #[.int .u8 x122, .int .u16 x123, .bool b124, .bool b125, .int .i64 x126, .int .u8 x127, .int .u8 x128, .int .u32 x129, .int .u32 x130, .slice A131 n131_ c131_, .slice A132 n132_ c132_], .int .i64 230])) w121)))
else
(∃ x133 : Int, w92.cell? ⟨g88, 2, none⟩ = some (.int .u8 x133) ∧
((if (x133 == 1) = true then
(∃ x134 : Int, w92.cell? ⟨g3, 3, none⟩ = some (.int .u16 x134) ∧
(∃ x135 : Int, w92.cell? ⟨g3, 4, none⟩ = some (.int .u16 x135) ∧
((if (x134 != x135) = true then
(May w92 ⟨g5, 0, none⟩ 11 ∧
(Let (putCells w92 ⟨g5, 0, none⟩ [.int .u8 0, .int .u16 0, .bool false, .bool false, .int .i64 0, .int .u8 0, .int .u8 0, .int .u32 0, .int .u32 0, .slice none 0 0, .slice none 0 0] 0) fun w136 : World =>
 ∃ x137 : Int, ∃ x138 : Int, ∃ b139 : Bool, ∃ b140 : Bool, ∃ x141 : Int, ∃ x142 : Int, ∃ x143 : Int, ∃ x144 : Int, ∃ x145 : Int, ∃ (A146 : Option Addr) (n146_ c146_ : Nat), ∃ (A147 : Option Addr) (n147_ c147_ : Nat), (11 = 11 ∧ At w136 ⟨g5, 0, none⟩ [.int .u8 x137, .int .u16 x138, .bool b139, .bool b140, .int .i64 x141, .int .u8 x142, .int .u8 x143, .int .u32 x144, .int .u32 x145, .slice A146 n146_ c146_, .slice A147 n147_ c147_]) ∧
(R (.returned (.tuple #[.agg #[.int .u8 x137, .int .u16 x138, .bool b139, .bool b140, .int .i64 x141, .int .u8 x142, .int .u8 x143, .int .u32 x144, .int .u32 x145, .slice A146 n146_ c146_, .slice A147 n147_ c147_], .int .i64 230])) w136)))
else
(Leaf (nat_TurnFault.j1 i1 i2 g1 g3 g5 g32 A30 n30_ c30_ g55 g88 (.agg #[.int .u8 i0_0, .int .u16 i0_1, .bool i0_2, .bool i0_3, .int .i64 i0_4, .int .u8 i0_5, .int .u8 i0_6, .int .u32 i0_7, .int .u32 i0_8, .slice I0_9 in0_9 ic0_9, .slice I0_10 in0_10 ic0_10]) (.agg #[.int .u32 i3_0, .int .u32 i3_1, .int .u8 i3_2, .int .u16 i3_3, .int .u16 i3_4]) undef undef (.int .i64 0) (.int .i64 x54) (.bool b87) undef undef undef undef (.tuple #[.agg #[.int .u8 x20, .int .u16 x21, .bool b22, .bool b23, .int .i64 x24, .int .u8 x25, .int .u8 x26, .int .u32 x27, .int .u32 x28, .slice A29 n29_ c29_], .slice A30 n30_ c30_, .int .i64 x31]) (.agg #[.int .u8 x7, .int .u16 x8, .bool b9, .bool b10, .int .i64 x11, .int .u8 x12, .int .u8 x13, .int .u32 x14, .int .u32 x15, .slice A16 n16_ c16_, .slice A17 n17_ c17_]) (.tuple #[.agg #[.int .u8 x20, .int .u16 x21, .bool b22, .bool b23, .int .i64 x24, .int .u8 x25, .int .u8 x26, .int .u32 x27, .int .u32 x28, .slice A29 n29_ c29_], .slice A30 n30_ c30_, .int .i64 x31]) (.agg #[.int .u8 x20, .int .u16 x21, .bool b22, .bool b23, .int .i64 x24, .int .u8 x25, .int .u8 x26, .int .u32 x27, .int .u32 x28, .slice A29 n29_ c29_]) (.slice A30 n30_ c30_) (.int .i64 x31) (.int .i64 x31) (.bool (x31 != 0)) undef undef (.tuple #[.agg #[.int .u8 x50, .int .u8 x51, .int .u32 x52, .slice A53 n53_ c53_], .int .i64 x54]) (.pointer (some ⟨g1, 10, none⟩)) (.slice A47 n47_ c47_) (.tuple #[.agg #[.int .u8 x50, .int .u8 x51, .int .u32 x52, .slice A53 n53_ c53_], .int .i64 x54]) (.agg #[.int .u8 x50, .int .u8 x51, .int .u32 x52, .slice A53 n53_ c53_]) (.int .i64 x54) (.int .i64 x54) (.bool (x54 != 0)) undef undef (.tuple #[.agg #[.int .u32 x82, .int .u32 x83, .int .u8 x84, .int .u16 x85, .int .u16 x86], .bool b87]) (.agg #[.int .u8 x70, .int .u16 x71, .bool b72, .bool b73, .int .i64 x74, .int .u8 x75, .int .u8 x76, .int .u32 x77, .int .u32 x78, .slice A79 n79_ c79_]) (.slice A30 n30_ c30_) (.tuple #[.agg #[.int .u32 x82, .int .u32 x83, .int .u8 x84, .int .u16 x85, .int .u16 x86], .bool b87]) (.agg #[.int .u32 x82, .int .u32 x83, .int .u8 x84, .int .u16 x85, .int .u16 x86]) (.bool b87) (.pointer (some ⟨g55, 0, none⟩)) (.int .u8 x91) (.bool b94) (.bool (!b94)) (.bool false) (.bool b87) (.bool (!b87)) (.bool (!b87)) (.bool false) (.pointer (some ⟨g3, 2, none⟩)) (.int .u8 x119) (.pointer (some ⟨g88, 2, none⟩)) (.int .u8 x120) (.bool (x119 != x120)) (.bool (x119 != x120)) (.bool false) (.pointer (some ⟨g88, 2, none⟩)) (.int .u8 x133) (.bool (x133 == 1)) (.bool true) (.pointer (some ⟨g3, 3, none⟩)) (.int .u16 x134) (.pointer (some ⟨g3, 4, none⟩)) (.int .u16 x135) (.bool (x134 != x135)) (.bool (x134 != x135)) (.bool (x134 != x135)) undef undef undef undef undef undef undef undef undef undef undef undef undef undef undef undef undef undef undef undef undef undef undef undef undef undef undef undef undef undef undef undef undef undef undef undef undef undef undef undef undef undef undef undef undef undef undef undef undef undef undef undef undef undef undef undef undef undef undef undef undef undef w92 R))))))
else
(Leaf (nat_TurnFault.j1 i1 i2 g1 g3 g5 g32 A30 n30_ c30_ g55 g88 (.agg #[.int .u8 i0_0, .int .u16 i0_1, .bool i0_2, .bool i0_3, .int .i64 i0_4, .int .u8 i0_5, .int .u8 i0_6, .int .u32 i0_7, .int .u32 i0_8, .slice I0_9 in0_9 ic0_9, .slice I0_10 in0_10 ic0_10]) (.agg #[.int .u32 i3_0, .int .u32 i3_1, .int .u8 i3_2, .int .u16 i3_3, .int .u16 i3_4]) undef undef (.int .i64 0) (.int .i64 x54) (.bool b87) undef undef undef undef (.tuple #[.agg #[.int .u8 x20, .int .u16 x21, .bool b22, .bool b23, .int .i64 x24, .int .u8 x25, .int .u8 x26, .int .u32 x27, .int .u32 x28, .slice A29 n29_ c29_], .slice A30 n30_ c30_, .int .i64 x31]) (.agg #[.int .u8 x7, .int .u16 x8, .bool b9, .bool b10, .int .i64 x11, .int .u8 x12, .int .u8 x13, .int .u32 x14, .int .u32 x15, .slice A16 n16_ c16_, .slice A17 n17_ c17_]) (.tuple #[.agg #[.int .u8 x20, .int .u16 x21, .bool b22, .bool b23, .int .i64 x24, .int .u8 x25, .int .u8 x26, .int .u32 x27, .int .u32 x28, .slice A29 n29_ c29_], .slice A30 n30_ c30_, .int .i64 x31]) (.agg #[.int .u8 x20, .int .u16 x21, .bool b22, .bool b23, .int .i64 x24, .int .u8 x25, .int .u8 x26, .int .u32 x27, .int .u32 x28, .slice A29 n29_ c29_]) (.slice A30 n30_ c30_) (.int .i64 x31) (.int .i64 x31) (.bool (x31 != 0)) undef undef (.tuple #[.agg #[.int .u8 x50, .int .u8 x51, .int .u32 x52, .slice A53 n53_ c53_], .int .i64 x54]) (.pointer (some ⟨g1, 10, none⟩)) (.slice A47 n47_ c47_) (.tuple #[.agg #[.int .u8 x50, .int .u8 x51, .int .u32 x52, .slice A53 n53_ c53_], .int .i64 x54]) (.agg #[.int .u8 x50, .int .u8 x51, .int .u32 x52, .slice A53 n53_ c53_]) (.int .i64 x54) (.int .i64 x54) (.bool (x54 != 0)) undef undef (.tuple #[.agg #[.int .u32 x82, .int .u32 x83, .int .u8 x84, .int .u16 x85, .int .u16 x86], .bool b87]) (.agg #[.int .u8 x70, .int .u16 x71, .bool b72, .bool b73, .int .i64 x74, .int .u8 x75, .int .u8 x76, .int .u32 x77, .int .u32 x78, .slice A79 n79_ c79_]) (.slice A30 n30_ c30_) (.tuple #[.agg #[.int .u32 x82, .int .u32 x83, .int .u8 x84, .int .u16 x85, .int .u16 x86], .bool b87]) (.agg #[.int .u32 x82, .int .u32 x83, .int .u8 x84, .int .u16 x85, .int .u16 x86]) (.bool b87) (.pointer (some ⟨g55, 0, none⟩)) (.int .u8 x91) (.bool b94) (.bool (!b94)) (.bool false) (.bool b87) (.bool (!b87)) (.bool (!b87)) (.bool false) (.pointer (some ⟨g3, 2, none⟩)) (.int .u8 x119) (.pointer (some ⟨g88, 2, none⟩)) (.int .u8 x120) (.bool (x119 != x120)) (.bool (x119 != x120)) (.bool false) (.pointer (some ⟨g88, 2, none⟩)) (.int .u8 x133) (.bool (x133 == 1)) (.bool false) undef undef undef undef undef (.bool false) (.bool false) undef undef undef undef undef undef undef undef undef undef undef undef undef undef undef undef undef undef undef undef undef undef undef undef undef undef undef undef undef undef undef undef undef undef undef undef undef undef undef undef undef undef undef undef undef undef undef undef undef undef undef undef undef undef undef undef undef undef undef undef undef undef w92 R))))))))))))))))))))))))))))))))
theorem nat_TurnFault.s_eq (i0_0 : Int) (i0_1 : Int) (i0_2 : Bool) (i0_3 : Bool) (i0_4 : Int) (i0_5 : Int) (i0_6 : Int) (i0_7 : Int) (i0_8 : Int) (I0_9 : Option Addr) (in0_9 : Nat) (ic0_9 : Nat) (I0_10 : Option Addr) (in0_10 : Nat) (ic0_10 : Nat) (i1 : Int) (i2 : Int) (i3_0 : Int) (i3_1 : Int) (i3_2 : Int) (i3_3 : Int) (i3_4 : Int) (w : World) (R : Ending → World → Prop) : seg Tryd.prog entE nat_TurnFault.ords nat_TurnFault.joins Tryd.f35 [] [] [] ([.agg #[.int .u8 i0_0, .int .u16 i0_1, .bool i0_2, .bool i0_3, .int .i64 i0_4, .int .u8 i0_5, .int .u8 i0_6, .int .u32 i0_7, .int .u32 i0_8, .slice I0_9 in0_9 ic0_9, .slice I0_10 in0_10 ic0_10], .int .u32 i1, .int .u32 i2, .agg #[.int .u32 i3_0, .int .u32 i3_1, .int .u8 i3_2, .int .u16 i3_3, .int .u16 i3_4]] ++ List.replicate (Tryd.f35.ntmps - ([.agg #[.int .u8 i0_0, .int .u16 i0_1, .bool i0_2, .bool i0_3, .int .i64 i0_4, .int .u8 i0_5, .int .u8 i0_6, .int .u32 i0_7, .int .u32 i0_8, .slice I0_9 in0_9 ic0_9, .slice I0_10 in0_10 ic0_10], .int .u32 i1, .int .u32 i2, .agg #[.int .u32 i3_0, .int .u32 i3_1, .int .u8 i3_2, .int .u16 i3_3, .int .u16 i3_4]] : List Value).length) undef) w R = nat_TurnFault.s i0_0 i0_1 i0_2 i0_3 i0_4 i0_5 i0_6 i0_7 i0_8 I0_9 in0_9 ic0_9 I0_10 in0_10 ic0_10 i1 i2 i3_0 i3_1 i3_2 i3_3 i3_4 w R := by kernel_rfl
theorem nat_TurnFault.run {i0_0 : Int} {i0_1 : Int} {i0_2 : Bool} {i0_3 : Bool} {i0_4 : Int} {i0_5 : Int} {i0_6 : Int} {i0_7 : Int} {i0_8 : Int} {I0_9 : Option Addr} {in0_9 : Nat} {ic0_9 : Nat} {I0_10 : Option Addr} {in0_10 : Nat} {ic0_10 : Nat} {i1 : Int} {i2 : Int} {i3_0 : Int} {i3_1 : Int} {i3_2 : Int} {i3_3 : Int} {i3_4 : Int} {w : World} {R : Ending → World → Prop} (h : nat_TurnFault.s i0_0 i0_1 i0_2 i0_3 i0_4 i0_5 i0_6 i0_7 i0_8 I0_9 in0_9 ic0_9 I0_10 in0_10 ic0_10 i1 i2 i3_0 i3_1 i3_2 i3_3 i3_4 w R) : Calls Tryd.prog 35 #[.agg #[.int .u8 i0_0, .int .u16 i0_1, .bool i0_2, .bool i0_3, .int .i64 i0_4, .int .u8 i0_5, .int .u8 i0_6, .int .u32 i0_7, .int .u32 i0_8, .slice I0_9 in0_9 ic0_9, .slice I0_10 in0_10 ic0_10], .int .u32 i1, .int .u32 i2, .agg #[.int .u32 i3_0, .int .u32 i3_1, .int .u8 i3_2, .int .u16 i3_3, .int .u16 i3_4]] w R :=
  calls_seg ents mixed Tryd.func35 rfl (by rw [nat_TurnFault.s_eq]; exact h)
end Go.Proofs.YtphbdmafchjjeaaDoorS
