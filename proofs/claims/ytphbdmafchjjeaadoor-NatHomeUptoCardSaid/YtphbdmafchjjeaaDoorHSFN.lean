/- What functions of the program come to, told by a program of this session out of the translation; the kernel computes each statement out of the code.
   Conditions: none. -/
import Derived.Test.YtphbdmafchjjeaaDoorHSBase
namespace Go.Proofs.YtphbdmafchjjeaaDoorS
open Go Go.Proofs
set_option maxRecDepth 100000
set_option linter.unusedVariables false
/-! ### flow_read: function 44 -/
def flow_read.ords : Nat → Od
  | 15 => (.tk 0 (.tk 2 (.tk 4 (.tk 5 (.tk 6 (.on 1 (.on 3 (.tk 7 (.tk 8 (.tk 9 (.tk 10 .nil)))))))))))
  | 18 => (.tk 0 (.tk 1 (.tk 2 (.tk 3 (.tk 4 (.on 5 (.tk 6 (.tk 7 (.tk 8 (.tk 9 .nil))))))))))
  | _ => .nil
def flow_read.joins (p : List Nat) : Bool := p == [1, 1, 1, 0, 0, 1, 1, 1] || p == [1, 1, 1, 1] || p == [1, 0, 1, 1, 1, 1, 1, 0, 1, 0, 1, 1, 1, 1]
def flow_read.j1 (yg1 : Nat) (Y6 : Option Addr) (yn6 : Nat) (yc6 : Nat) (y22 : Bool) (d0 d2 d3 d4 d5 d7 d8 d9 d10 d11 d12 d13 d14 d15 d16 d17 d18 d19 d20 d21 d23 d24 d25 d26 d27 d28 d29 d30 d31 d32 d33 d34 d35 d36 d37 d38 d39 d40 d41 d42 d43 d44 d45 d46 d47 d48 d49 d50 d51 d52 d53 d54 d55 d56 d57 d58 d59 d60 d61 d62 d63 d64 d65 d66 d67 d68 d69 d70 d71 d72 d73 d74 d75 d76 d77 d78 d79 d80 d81 d82 d83 d84 d85 d86 d87 d88 d89 d90 d91 d92 d93 d94 d95 : Value) (w : World) (R : Ending → World → Prop) : Prop :=
  seg Tryd.prog entE flow_read.ords flow_read.joins Tryd.f44 [1, 1, 1, 0, 0, 1, 1, 1] [1, 1, 1, 0, 0, 1, 1, 1] [] [d0, .pointer (some ⟨yg1, 0, none⟩), d2, d3, d4, d5, .slice Y6 yn6 yc6, d7, d8, d9, d10, d11, d12, d13, d14, d15, d16, d17, d18, d19, d20, d21, .bool y22, d23, d24, d25, d26, d27, d28, d29, d30, d31, d32, d33, d34, d35, d36, d37, d38, d39, d40, d41, d42, d43, d44, d45, d46, d47, d48, d49, d50, d51, d52, d53, d54, d55, d56, d57, d58, d59, d60, d61, d62, d63, d64, d65, d66, d67, d68, d69, d70, d71, d72, d73, d74, d75, d76, d77, d78, d79, d80, d81, d82, d83, d84, d85, d86, d87, d88, d89, d90, d91, d92, d93, d94, d95] w R
def flow_read.j2 (yg1 : Nat) (Y6 : Option Addr) (yn6 : Nat) (yc6 : Nat) (d0 d2 d3 d4 d5 d7 d8 d9 d10 d11 d12 d13 d14 d15 d16 d17 d18 d19 d20 d21 d22 d23 d24 d25 d26 d27 d28 d29 d30 d31 d32 d33 d34 d35 d36 d37 d38 d39 d40 d41 d42 d43 d44 d45 d46 d47 d48 d49 d50 d51 d52 d53 d54 d55 d56 d57 d58 d59 d60 d61 d62 d63 d64 d65 d66 d67 d68 d69 d70 d71 d72 d73 d74 d75 d76 d77 d78 d79 d80 d81 d82 d83 d84 d85 d86 d87 d88 d89 d90 d91 d92 d93 d94 d95 : Value) (w : World) (R : Ending → World → Prop) : Prop :=
  seg Tryd.prog entE flow_read.ords flow_read.joins Tryd.f44 [1, 1, 1, 1] [1, 1, 1, 1] [] [d0, .pointer (some ⟨yg1, 0, none⟩), d2, d3, d4, d5, .slice Y6 yn6 yc6, d7, d8, d9, d10, d11, d12, d13, d14, d15, d16, d17, d18, d19, d20, d21, d22, d23, d24, d25, d26, d27, d28, d29, d30, d31, d32, d33, d34, d35, d36, d37, d38, d39, d40, d41, d42, d43, d44, d45, d46, d47, d48, d49, d50, d51, d52, d53, d54, d55, d56, d57, d58, d59, d60, d61, d62, d63, d64, d65, d66, d67, d68, d69, d70, d71, d72, d73, d74, d75, d76, d77, d78, d79, d80, d81, d82, d83, d84, d85, d86, d87, d88, d89, d90, d91, d92, d93, d94, d95] w R
def flow_read.j3 (Y6 : Option Addr) (yn6 : Nat) (yc6 : Nat) (y87 : Bool) (d0 d1 d2 d3 d4 d5 d7 d8 d9 d10 d11 d12 d13 d14 d15 d16 d17 d18 d19 d20 d21 d22 d23 d24 d25 d26 d27 d28 d29 d30 d31 d32 d33 d34 d35 d36 d37 d38 d39 d40 d41 d42 d43 d44 d45 d46 d47 d48 d49 d50 d51 d52 d53 d54 d55 d56 d57 d58 d59 d60 d61 d62 d63 d64 d65 d66 d67 d68 d69 d70 d71 d72 d73 d74 d75 d76 d77 d78 d79 d80 d81 d82 d83 d84 d85 d86 d88 d89 d90 d91 d92 d93 d94 d95 : Value) (w : World) (R : Ending → World → Prop) : Prop :=
  seg Tryd.prog entE flow_read.ords flow_read.joins Tryd.f44 [1, 1, 1, 1, 0, 1, 0, 1, 1, 1, 1, 1, 0, 1] [1, 0, 1, 1, 1, 1, 1, 0, 1, 0, 1, 1, 1, 1] [] [d0, d1, d2, d3, d4, d5, .slice Y6 yn6 yc6, d7, d8, d9, d10, d11, d12, d13, d14, d15, d16, d17, d18, d19, d20, d21, d22, d23, d24, d25, d26, d27, d28, d29, d30, d31, d32, d33, d34, d35, d36, d37, d38, d39, d40, d41, d42, d43, d44, d45, d46, d47, d48, d49, d50, d51, d52, d53, d54, d55, d56, d57, d58, d59, d60, d61, d62, d63, d64, d65, d66, d67, d68, d69, d70, d71, d72, d73, d74, d75, d76, d77, d78, d79, d80, d81, d82, d83, d84, d85, d86, .bool y87, d88, d89, d90, d91, d92, d93, d94, d95] w R
abbrev flow_read.J1 (yg1 : Nat) (Y6 : Option Addr) (yn6 : Nat) (yc6 : Nat) (y22 : Bool) (w : World) (R : Ending → World → Prop) : Prop := ∀ d0 d2 d3 d4 d5 d7 d8 d9 d10 d11 d12 d13 d14 d15 d16 d17 d18 d19 d20 d21 d23 d24 d25 d26 d27 d28 d29 d30 d31 d32 d33 d34 d35 d36 d37 d38 d39 d40 d41 d42 d43 d44 d45 d46 d47 d48 d49 d50 d51 d52 d53 d54 d55 d56 d57 d58 d59 d60 d61 d62 d63 d64 d65 d66 d67 d68 d69 d70 d71 d72 d73 d74 d75 d76 d77 d78 d79 d80 d81 d82 d83 d84 d85 d86 d87 d88 d89 d90 d91 d92 d93 d94 d95 : Value, flow_read.j1 yg1 Y6 yn6 yc6 y22 d0 d2 d3 d4 d5 d7 d8 d9 d10 d11 d12 d13 d14 d15 d16 d17 d18 d19 d20 d21 d23 d24 d25 d26 d27 d28 d29 d30 d31 d32 d33 d34 d35 d36 d37 d38 d39 d40 d41 d42 d43 d44 d45 d46 d47 d48 d49 d50 d51 d52 d53 d54 d55 d56 d57 d58 d59 d60 d61 d62 d63 d64 d65 d66 d67 d68 d69 d70 d71 d72 d73 d74 d75 d76 d77 d78 d79 d80 d81 d82 d83 d84 d85 d86 d87 d88 d89 d90 d91 d92 d93 d94 d95 w R
abbrev flow_read.J2 (yg1 : Nat) (Y6 : Option Addr) (yn6 : Nat) (yc6 : Nat) (w : World) (R : Ending → World → Prop) : Prop := ∀ d0 d2 d3 d4 d5 d7 d8 d9 d10 d11 d12 d13 d14 d15 d16 d17 d18 d19 d20 d21 d22 d23 d24 d25 d26 d27 d28 d29 d30 d31 d32 d33 d34 d35 d36 d37 d38 d39 d40 d41 d42 d43 d44 d45 d46 d47 d48 d49 d50 d51 d52 d53 d54 d55 d56 d57 d58 d59 d60 d61 d62 d63 d64 d65 d66 d67 d68 d69 d70 d71 d72 d73 d74 d75 d76 d77 d78 d79 d80 d81 d82 d83 d84 d85 d86 d87 d88 d89 d90 d91 d92 d93 d94 d95 : Value, flow_read.j2 yg1 Y6 yn6 yc6 d0 d2 d3 d4 d5 d7 d8 d9 d10 d11 d12 d13 d14 d15 d16 d17 d18 d19 d20 d21 d22 d23 d24 d25 d26 d27 d28 d29 d30 d31 d32 d33 d34 d35 d36 d37 d38 d39 d40 d41 d42 d43 d44 d45 d46 d47 d48 d49 d50 d51 d52 d53 d54 d55 d56 d57 d58 d59 d60 d61 d62 d63 d64 d65 d66 d67 d68 d69 d70 d71 d72 d73 d74 d75 d76 d77 d78 d79 d80 d81 d82 d83 d84 d85 d86 d87 d88 d89 d90 d91 d92 d93 d94 d95 w R
abbrev flow_read.J3 (Y6 : Option Addr) (yn6 : Nat) (yc6 : Nat) (y87 : Bool) (w : World) (R : Ending → World → Prop) : Prop := ∀ d0 d1 d2 d3 d4 d5 d7 d8 d9 d10 d11 d12 d13 d14 d15 d16 d17 d18 d19 d20 d21 d22 d23 d24 d25 d26 d27 d28 d29 d30 d31 d32 d33 d34 d35 d36 d37 d38 d39 d40 d41 d42 d43 d44 d45 d46 d47 d48 d49 d50 d51 d52 d53 d54 d55 d56 d57 d58 d59 d60 d61 d62 d63 d64 d65 d66 d67 d68 d69 d70 d71 d72 d73 d74 d75 d76 d77 d78 d79 d80 d81 d82 d83 d84 d85 d86 d88 d89 d90 d91 d92 d93 d94 d95 : Value, flow_read.j3 Y6 yn6 yc6 y87 d0 d1 d2 d3 d4 d5 d7 d8 d9 d10 d11 d12 d13 d14 d15 d16 d17 d18 d19 d20 d21 d22 d23 d24 d25 d26 d27 d28 d29 d30 d31 d32 d33 d34 d35 d36 d37 d38 d39 d40 d41 d42 d43 d44 d45 d46 d47 d48 d49 d50 d51 d52 d53 d54 d55 d56 d57 d58 d59 d60 d61 d62 d63 d64 d65 d66 d67 d68 d69 d70 d71 d72 d73 d74 d75 d76 d77 d78 d79 d80 d81 d82 d83 d84 d85 d86 d88 d89 d90 d91 d92 d93 d94 d95 w R
theorem flow_read.j1_eq (yg1 : Nat) (Y6 : Option Addr) (yn6 : Nat) (yc6 : Nat) (y22 : Bool) (d0 d2 d3 d4 d5 d7 d8 d9 d10 d11 d12 d13 d14 d15 d16 d17 d18 d19 d20 d21 d23 d24 d25 d26 d27 d28 d29 d30 d31 d32 d33 d34 d35 d36 d37 d38 d39 d40 d41 d42 d43 d44 d45 d46 d47 d48 d49 d50 d51 d52 d53 d54 d55 d56 d57 d58 d59 d60 d61 d62 d63 d64 d65 d66 d67 d68 d69 d70 d71 d72 d73 d74 d75 d76 d77 d78 d79 d80 d81 d82 d83 d84 d85 d86 d87 d88 d89 d90 d91 d92 d93 d94 d95 : Value) (w : World) (R : Ending → World → Prop) : flow_read.j1 yg1 Y6 yn6 yc6 y22 d0 d2 d3 d4 d5 d7 d8 d9 d10 d11 d12 d13 d14 d15 d16 d17 d18 d19 d20 d21 d23 d24 d25 d26 d27 d28 d29 d30 d31 d32 d33 d34 d35 d36 d37 d38 d39 d40 d41 d42 d43 d44 d45 d46 d47 d48 d49 d50 d51 d52 d53 d54 d55 d56 d57 d58 d59 d60 d61 d62 d63 d64 d65 d66 d67 d68 d69 d70 d71 d72 d73 d74 d75 d76 d77 d78 d79 d80 d81 d82 d83 d84 d85 d86 d87 d88 d89 d90 d91 d92 d93 d94 d95 w R =
((if y22 = true then
(R (.returned (.tuple #[.nilIface, .int .i64 30])) w)
else
(∃ x1 : Int, w.cell? ⟨yg1, 6, none⟩ = some (.int .u8 x1) ∧
((if (x1 == 6) = true then
((if decide ((yn6 : Int) < 20) = true then
(R (.returned (.tuple #[.nilIface, .int .i64 30])) w)
else
(Leaf (flow_read.j2 yg1 Y6 yn6 yc6 d0 d2 d3 d4 d5 d7 d8 d9 d10 d11 d12 d13 d14 d15 d16 d17 d18 d19 d20 d21 (.bool y22) d23 d24 d25 d26 d27 d28 d29 d30 d31 d32 d33 d34 d35 d36 d37 (.bool (decide ((yn6 : Int) < 20))) (.pointer (some ⟨yg1, 0, none⟩)) (.pointer (some ⟨yg1, 6, none⟩)) (.int .u8 x1) (.bool (x1 == 6)) (.bool true) (.slice Y6 yn6 yc6) (.int .i64 (yn6 : Int)) (.bool (decide ((yn6 : Int) < 20))) (.bool (decide ((yn6 : Int) < 20))) d48 d49 d50 d51 d52 d53 d54 d55 d56 d57 d58 d59 d60 d61 d62 d63 d64 d65 d66 d67 d68 d69 d70 d71 d72 d73 d74 d75 d76 d77 d78 d79 d80 d81 d82 d83 d84 d85 d86 d87 d88 d89 d90 d91 d92 d93 d94 d95 w R))))
else
(Leaf (flow_read.j2 yg1 Y6 yn6 yc6 d0 d2 d3 d4 d5 d7 d8 d9 d10 d11 d12 d13 d14 d15 d16 d17 d18 d19 d20 d21 (.bool y22) d23 d24 d25 d26 d27 d28 d29 d30 d31 d32 d33 d34 d35 d36 d37 (.bool false) (.pointer (some ⟨yg1, 0, none⟩)) (.pointer (some ⟨yg1, 6, none⟩)) (.int .u8 x1) (.bool (x1 == 6)) (.bool false) undef undef undef (.bool false) d48 d49 d50 d51 d52 d53 d54 d55 d56 d57 d58 d59 d60 d61 d62 d63 d64 d65 d66 d67 d68 d69 d70 d71 d72 d73 d74 d75 d76 d77 d78 d79 d80 d81 d82 d83 d84 d85 d86 d87 d88 d89 d90 d91 d92 d93 d94 d95 w R))))))) := by kernel_rfl
theorem flow_read.j2_eq (yg1 : Nat) (Y6 : Option Addr) (yn6 : Nat) (yc6 : Nat) (d0 d2 d3 d4 d5 d7 d8 d9 d10 d11 d12 d13 d14 d15 d16 d17 d18 d19 d20 d21 d22 d23 d24 d25 d26 d27 d28 d29 d30 d31 d32 d33 d34 d35 d36 d37 d38 d39 d40 d41 d42 d43 d44 d45 d46 d47 d48 d49 d50 d51 d52 d53 d54 d55 d56 d57 d58 d59 d60 d61 d62 d63 d64 d65 d66 d67 d68 d69 d70 d71 d72 d73 d74 d75 d76 d77 d78 d79 d80 d81 d82 d83 d84 d85 d86 d87 d88 d89 d90 d91 d92 d93 d94 d95 : Value) (w : World) (R : Ending → World → Prop) : flow_read.j2 yg1 Y6 yn6 yc6 d0 d2 d3 d4 d5 d7 d8 d9 d10 d11 d12 d13 d14 d15 d16 d17 d18 d19 d20 d21 d22 d23 d24 d25 d26 d27 d28 d29 d30 d31 d32 d33 d34 d35 d36 d37 d38 d39 d40 d41 d42 d43 d44 d45 d46 d47 d48 d49 d50 d51 d52 d53 d54 d55 d56 d57 d58 d59 d60 d61 d62 d63 d64 d65 d66 d67 d68 d69 d70 d71 d72 d73 d74 d75 d76 d77 d78 d79 d80 d81 d82 d83 d84 d85 d86 d87 d88 d89 d90 d91 d92 d93 d94 d95 w R =
(∃ x1 : Int, w.cell? ⟨yg1, 6, none⟩ = some (.int .u8 x1) ∧
((if (x1 == 17) = true then
(Calls Tryd.prog 71 #[.slice Y6 yn6 yc6, .int .i64 0] w (fun (e3 : Ending) (w2 : World) =>
 ∃ x4 : Int, e3 = .returned (.int .u16 x4) ∧
(Calls Tryd.prog 71 #[.slice Y6 yn6 yc6, .int .i64 2] w2 (fun (e6 : Ending) (w5 : World) =>
 ∃ x7 : Int, e6 = .returned (.int .u16 x7) ∧
(R (.returned (.tuple #[.iface 137 (.agg #[.int .u16 x4, .int .u16 x7]), .int .i64 0])) w5)))))
else
((if (x1 == 6) = true then
(∃ S8 : World → Prop, S8 w.drew ∧
(Let (w.drew) fun w9 : World =>
 ∃ a10 : Addr, Y6 = some a10 ∧ (0 ≤ (13 : Int) ∧ (13 : Int) < (yn6 : Int)) ∧
(∃ x11 : Int, (∀ w', S8 w' → w'.cell? (a10.add 13) = some (.int .u8 x11)) ∧
(Calls Tryd.prog 71 #[.slice Y6 yn6 yc6, .int .i64 0] w9 (fun (e13 : Ending) (w12 : World) =>
 ∃ x14 : Int, e13 = .returned (.int .u16 x14) ∧
(S8 w12 ∧
(Calls Tryd.prog 71 #[.slice Y6 yn6 yc6, .int .i64 2] w12 (fun (e16 : Ending) (w15 : World) =>
 ∃ x17 : Int, e16 = .returned (.int .u16 x17) ∧
(S8 w15 ∧
(R (.returned (.tuple #[.iface 139 (.agg #[.int .u16 x14, .int .u16 x17, .int .u8 x11]), .int .i64 0])) w15))))))))))
else
((if (x1 == 1) = true then
(∃ a18 : Addr, Y6 = some a18 ∧ (0 ≤ (0 : Int) ∧ (0 : Int) < (yn6 : Int)) ∧
(∃ x19 : Int, w.cell? a18 = some (.int .u8 x19) ∧
((if (x19 == 8) = true then
(∃ a20 : Addr, Y6 = some a20 ∧ (0 ≤ (1 : Int) ∧ (1 : Int) < (yn6 : Int)) ∧
(∃ x21 : Int, w.cell? (a20.add 1) = some (.int .u8 x21) ∧
(Leaf (flow_read.j3 Y6 yn6 yc6 (x21 == 0) d0 (.pointer (some ⟨yg1, 0, none⟩)) d2 d3 d4 d5 d7 d8 d9 d10 d11 d12 d13 d14 d15 d16 d17 d18 d19 d20 d21 d22 d23 d24 d25 d26 d27 d28 d29 d30 d31 d32 d33 d34 d35 d36 d37 d38 d39 d40 d41 d42 d43 d44 d45 d46 d47 (.pointer (some ⟨yg1, 0, none⟩)) (.pointer (some ⟨yg1, 6, none⟩)) (.int .u8 x1) (.bool (x1 == 17)) (.bool (x1 == 17)) d53 d54 d55 d56 d57 d58 (.bool (x1 == 6)) (.bool (x1 == 6)) d61 d62 d63 d64 d65 d66 d67 d68 d69 (.bool (x1 == 1)) (.bool (x1 == 1)) (.slice Y6 yn6 yc6) (.pointer (some a18)) (.int .u8 x19) (.bool (x19 == 8)) (.bool true) undef undef undef undef (.bool true) (.bool true) (.slice Y6 yn6 yc6) (.pointer (some (a20.add 1))) (.int .u8 x21) (.bool (x21 == 0)) d88 d89 d90 d91 d92 d93 d94 d95 w R))))
else
(∃ a22 : Addr, Y6 = some a22 ∧ (0 ≤ (0 : Int) ∧ (0 : Int) < (yn6 : Int)) ∧
(∃ x23 : Int, w.cell? a22 = some (.int .u8 x23) ∧
((if (x23 == 0) = true then
(∃ a24 : Addr, Y6 = some a24 ∧ (0 ≤ (1 : Int) ∧ (1 : Int) < (yn6 : Int)) ∧
(∃ x25 : Int, w.cell? (a24.add 1) = some (.int .u8 x25) ∧
(Leaf (flow_read.j3 Y6 yn6 yc6 (x25 == 0) d0 (.pointer (some ⟨yg1, 0, none⟩)) d2 d3 d4 d5 d7 d8 d9 d10 d11 d12 d13 d14 d15 d16 d17 d18 d19 d20 d21 d22 d23 d24 d25 d26 d27 d28 d29 d30 d31 d32 d33 d34 d35 d36 d37 d38 d39 d40 d41 d42 d43 d44 d45 d46 d47 (.pointer (some ⟨yg1, 0, none⟩)) (.pointer (some ⟨yg1, 6, none⟩)) (.int .u8 x1) (.bool (x1 == 17)) (.bool (x1 == 17)) d53 d54 d55 d56 d57 d58 (.bool (x1 == 6)) (.bool (x1 == 6)) d61 d62 d63 d64 d65 d66 d67 d68 d69 (.bool (x1 == 1)) (.bool (x1 == 1)) (.slice Y6 yn6 yc6) (.pointer (some a18)) (.int .u8 x19) (.bool (x19 == 8)) (.bool false) (.slice Y6 yn6 yc6) (.pointer (some a22)) (.int .u8 x23) (.bool (x23 == 0)) (.bool (x23 == 0)) (.bool true) (.slice Y6 yn6 yc6) (.pointer (some (a24.add 1))) (.int .u8 x25) (.bool (x25 == 0)) d88 d89 d90 d91 d92 d93 d94 d95 w R))))
else
(Leaf (flow_read.j3 Y6 yn6 yc6 false d0 (.pointer (some ⟨yg1, 0, none⟩)) d2 d3 d4 d5 d7 d8 d9 d10 d11 d12 d13 d14 d15 d16 d17 d18 d19 d20 d21 d22 d23 d24 d25 d26 d27 d28 d29 d30 d31 d32 d33 d34 d35 d36 d37 d38 d39 d40 d41 d42 d43 d44 d45 d46 d47 (.pointer (some ⟨yg1, 0, none⟩)) (.pointer (some ⟨yg1, 6, none⟩)) (.int .u8 x1) (.bool (x1 == 17)) (.bool (x1 == 17)) d53 d54 d55 d56 d57 d58 (.bool (x1 == 6)) (.bool (x1 == 6)) d61 d62 d63 d64 d65 d66 d67 d68 d69 (.bool (x1 == 1)) (.bool (x1 == 1)) (.slice Y6 yn6 yc6) (.pointer (some a18)) (.int .u8 x19) (.bool (x19 == 8)) (.bool false) (.slice Y6 yn6 yc6) (.pointer (some a22)) (.int .u8 x23) (.bool (x23 == 0)) (.bool (x23 == 0)) (.bool false) undef undef undef undef d88 d89 d90 d91 d92 d93 d94 d95 w R))))))))))
else
(R (.returned (.tuple #[.nilIface, .int .i64 210])) w)))))))) := by kernel_rfl
theorem flow_read.j3_eq (Y6 : Option Addr) (yn6 : Nat) (yc6 : Nat) (y87 : Bool) (d0 d1 d2 d3 d4 d5 d7 d8 d9 d10 d11 d12 d13 d14 d15 d16 d17 d18 d19 d20 d21 d22 d23 d24 d25 d26 d27 d28 d29 d30 d31 d32 d33 d34 d35 d36 d37 d38 d39 d40 d41 d42 d43 d44 d45 d46 d47 d48 d49 d50 d51 d52 d53 d54 d55 d56 d57 d58 d59 d60 d61 d62 d63 d64 d65 d66 d67 d68 d69 d70 d71 d72 d73 d74 d75 d76 d77 d78 d79 d80 d81 d82 d83 d84 d85 d86 d88 d89 d90 d91 d92 d93 d94 d95 : Value) (w : World) (R : Ending → World → Prop) : flow_read.j3 Y6 yn6 yc6 y87 d0 d1 d2 d3 d4 d5 d7 d8 d9 d10 d11 d12 d13 d14 d15 d16 d17 d18 d19 d20 d21 d22 d23 d24 d25 d26 d27 d28 d29 d30 d31 d32 d33 d34 d35 d36 d37 d38 d39 d40 d41 d42 d43 d44 d45 d46 d47 d48 d49 d50 d51 d52 d53 d54 d55 d56 d57 d58 d59 d60 d61 d62 d63 d64 d65 d66 d67 d68 d69 d70 d71 d72 d73 d74 d75 d76 d77 d78 d79 d80 d81 d82 d83 d84 d85 d86 d88 d89 d90 d91 d92 d93 d94 d95 w R =
((if y87 = true then
(∃ S1 : World → Prop, S1 w.drew ∧
(Let (w.drew) fun w2 : World =>
 ∃ a3 : Addr, Y6 = some a3 ∧ (0 ≤ (0 : Int) ∧ (0 : Int) < (yn6 : Int)) ∧
(∃ x4 : Int, (∀ w', S1 w' → w'.cell? a3 = some (.int .u8 x4)) ∧
(Calls Tryd.prog 71 #[.slice Y6 yn6 yc6, .int .i64 4] w2 (fun (e6 : Ending) (w5 : World) =>
 ∃ x7 : Int, e6 = .returned (.int .u16 x7) ∧
(S1 w5 ∧
(R (.returned (.tuple #[.iface 141 (.agg #[.bool (x4 == 8), .int .u16 x7]), .int .i64 0])) w5)))))))
else
(R (.returned (.tuple #[.nilIface, .int .i64 210])) w))) := by kernel_rfl
def flow_read.s (i0_0 : Int) (i0_1 : Int) (i0_2 : Bool) (i0_3 : Bool) (i0_4 : Int) (i0_5 : Int) (i0_6 : Int) (i0_7 : Int) (i0_8 : Int) (I0_9 : Option Addr) (in0_9 : Nat) (ic0_9 : Nat) (I0_10 : Option Addr) (in0_10 : Nat) (ic0_10 : Nat) (w : World) (R : Ending → World → Prop) : Prop :=
(Let (w.heap.size) fun g1 : Nat =>
 Let (w.alloc (.cells #[.int .u8 i0_0, .int .u16 i0_1, .bool i0_2, .bool i0_3, .int .i64 i0_4, .int .u8 i0_5, .int .u8 i0_6, .int .u32 i0_7, .int .u32 i0_8, .slice I0_9 in0_9 ic0_9, .slice I0_10 in0_10 ic0_10] 45)) fun w2 : World =>
 ∃ x3 : Int, ∃ x4 : Int, ∃ b5 : Bool, ∃ b6 : Bool, ∃ x7 : Int, ∃ x8 : Int, ∃ x9 : Int, ∃ x10 : Int, ∃ x11 : Int, ∃ (A12 : Option Addr) (n12_ c12_ : Nat), ∃ (A13 : Option Addr) (n13_ c13_ : Nat), (11 = 11 ∧ At w2 ⟨g1, 0, none⟩ [.int .u8 x3, .int .u16 x4, .bool b5, .bool b6, .int .i64 x7, .int .u8 x8, .int .u8 x9, .int .u32 x10, .int .u32 x11, .slice A12 n12_ c12_, .slice A13 n13_ c13_]) ∧
(Calls Tryd.prog 29 #[.agg #[.int .u8 x3, .int .u16 x4, .bool b5, .bool b6, .int .i64 x7, .int .u8 x8, .int .u8 x9, .int .u32 x10, .int .u32 x11, .slice A12 n12_ c12_, .slice A13 n13_ c13_]] w2 (fun (e15 : Ending) (w14 : World) =>
 ∃ (A16 : Option Addr) (n16_ c16_ : Nat), ∃ x17 : Int, e15 = .returned (.tuple #[.slice A16 n16_ c16_, .int .i64 x17]) ∧
((if (x17 != 0) = true then
(R (.returned (.tuple #[.nilIface, .int .i64 x17])) w14)
else
(∃ (A18 : Option Addr) (n18_ c18_ : Nat), w14.cell? ⟨g1, 10, none⟩ = some (.slice A18 n18_ c18_) ∧
(∃ x19 : Int, w14.cell? ⟨g1, 4, none⟩ = some (.int .i64 x19) ∧
((if decide (x19 > 0) = true then
(R (.returned (.tuple #[.nilIface, .int .i64 75])) w14)
else
(∃ x20 : Int, w14.cell? ⟨g1, 6, none⟩ = some (.int .u8 x20) ∧
((if (x20 == 1) = true then
(Leaf (flow_read.j1 g1 A18 n18_ c18_ (decide ((n18_ : Int) < 8)) (.agg #[.int .u8 i0_0, .int .u16 i0_1, .bool i0_2, .bool i0_3, .int .i64 i0_4, .int .u8 i0_5, .int .u8 i0_6, .int .u32 i0_7, .int .u32 i0_8, .slice I0_9 in0_9 ic0_9, .slice I0_10 in0_10 ic0_10]) .nilIface (.int .i64 0) (.slice A16 n16_ c16_) (.int .i64 x17) (.tuple #[.slice A16 n16_ c16_, .int .i64 x17]) (.agg #[.int .u8 x3, .int .u16 x4, .bool b5, .bool b6, .int .i64 x7, .int .u8 x8, .int .u8 x9, .int .u32 x10, .int .u32 x11, .slice A12 n12_ c12_, .slice A13 n13_ c13_]) (.tuple #[.slice A16 n16_ c16_, .int .i64 x17]) (.slice A16 n16_ c16_) (.int .i64 x17) (.int .i64 x17) (.bool (x17 != 0)) undef (.pointer (some ⟨g1, 10, none⟩)) (.slice A18 n18_ c18_) (.bool (decide (x19 > 0))) (.pointer (some ⟨g1, 0, none⟩)) (.pointer (some ⟨g1, 4, none⟩)) (.int .i64 x19) (.bool (decide (x19 > 0))) (.pointer (some ⟨g1, 0, none⟩)) (.pointer (some ⟨g1, 6, none⟩)) (.int .u8 x20) (.bool (x20 == 1)) (.bool true) undef undef undef undef (.bool true) (.bool true) (.slice A18 n18_ c18_) (.int .i64 (n18_ : Int)) (.bool (decide ((n18_ : Int) < 8))) (.bool (decide ((n18_ : Int) < 8))) undef undef undef undef undef undef undef undef undef undef undef undef undef undef undef undef undef undef undef undef undef undef undef undef undef undef undef undef undef undef undef undef undef undef undef undef undef undef undef undef undef undef undef undef undef undef undef undef undef undef undef undef undef undef undef undef undef undef w14 R))
else
(∃ x21 : Int, w14.cell? ⟨g1, 6, none⟩ = some (.int .u8 x21) ∧
((if (x21 == 17) = true then
(Leaf (flow_read.j1 g1 A18 n18_ c18_ (decide ((n18_ : Int) < 8)) (.agg #[.int .u8 i0_0, .int .u16 i0_1, .bool i0_2, .bool i0_3, .int .i64 i0_4, .int .u8 i0_5, .int .u8 i0_6, .int .u32 i0_7, .int .u32 i0_8, .slice I0_9 in0_9 ic0_9, .slice I0_10 in0_10 ic0_10]) .nilIface (.int .i64 0) (.slice A16 n16_ c16_) (.int .i64 x17) (.tuple #[.slice A16 n16_ c16_, .int .i64 x17]) (.agg #[.int .u8 x3, .int .u16 x4, .bool b5, .bool b6, .int .i64 x7, .int .u8 x8, .int .u8 x9, .int .u32 x10, .int .u32 x11, .slice A12 n12_ c12_, .slice A13 n13_ c13_]) (.tuple #[.slice A16 n16_ c16_, .int .i64 x17]) (.slice A16 n16_ c16_) (.int .i64 x17) (.int .i64 x17) (.bool (x17 != 0)) undef (.pointer (some ⟨g1, 10, none⟩)) (.slice A18 n18_ c18_) (.bool (decide (x19 > 0))) (.pointer (some ⟨g1, 0, none⟩)) (.pointer (some ⟨g1, 4, none⟩)) (.int .i64 x19) (.bool (decide (x19 > 0))) (.pointer (some ⟨g1, 0, none⟩)) (.pointer (some ⟨g1, 6, none⟩)) (.int .u8 x20) (.bool (x20 == 1)) (.bool false) (.pointer (some ⟨g1, 0, none⟩)) (.pointer (some ⟨g1, 6, none⟩)) (.int .u8 x21) (.bool (x21 == 17)) (.bool (x21 == 17)) (.bool true) (.slice A18 n18_ c18_) (.int .i64 (n18_ : Int)) (.bool (decide ((n18_ : Int) < 8))) (.bool (decide ((n18_ : Int) < 8))) undef undef undef undef undef undef undef undef undef undef undef undef undef undef undef undef undef undef undef undef undef undef undef undef undef undef undef undef undef undef undef undef undef undef undef undef undef undef undef undef undef undef undef undef undef undef undef undef undef undef undef undef undef undef undef undef undef undef w14 R))
else
(Leaf (flow_read.j1 g1 A18 n18_ c18_ false (.agg #[.int .u8 i0_0, .int .u16 i0_1, .bool i0_2, .bool i0_3, .int .i64 i0_4, .int .u8 i0_5, .int .u8 i0_6, .int .u32 i0_7, .int .u32 i0_8, .slice I0_9 in0_9 ic0_9, .slice I0_10 in0_10 ic0_10]) .nilIface (.int .i64 0) (.slice A16 n16_ c16_) (.int .i64 x17) (.tuple #[.slice A16 n16_ c16_, .int .i64 x17]) (.agg #[.int .u8 x3, .int .u16 x4, .bool b5, .bool b6, .int .i64 x7, .int .u8 x8, .int .u8 x9, .int .u32 x10, .int .u32 x11, .slice A12 n12_ c12_, .slice A13 n13_ c13_]) (.tuple #[.slice A16 n16_ c16_, .int .i64 x17]) (.slice A16 n16_ c16_) (.int .i64 x17) (.int .i64 x17) (.bool (x17 != 0)) undef (.pointer (some ⟨g1, 10, none⟩)) (.slice A18 n18_ c18_) (.bool (decide (x19 > 0))) (.pointer (some ⟨g1, 0, none⟩)) (.pointer (some ⟨g1, 4, none⟩)) (.int .i64 x19) (.bool (decide (x19 > 0))) (.pointer (some ⟨g1, 0, none⟩)) (.pointer (some ⟨g1, 6, none⟩)) (.int .u8 x20) (.bool (x20 == 1)) (.bool false) (.pointer (some ⟨g1, 0, none⟩)) (.pointer (some ⟨g1, 6, none⟩)) (.int .u8 x21) (.bool (x21 == 17)) (.bool (x21 == 17)) (.bool false) undef undef undef (.bool false) undef undef undef undef undef undef undef undef undef undef undef undef undef undef undef undef undef undef undef undef undef undef undef undef undef undef undef undef undef undef undef undef undef undef undef undef undef undef undef undef undef undef undef undef undef undef undef undef undef undef undef undef undef undef undef undef undef undef w14 R)))))))))))))))))
theorem flow_read.s_eq (i0_0 : Int) (i0_1 : Int) (i0_2 : Bool) (i0_3 : Bool) (i0_4 : Int) (i0_5 : Int) (i0_6 : Int) (i0_7 : Int) (i0_8 : Int) (I0_9 : Option Addr) (in0_9 : Nat) (ic0_9 : Nat) (I0_10 : Option Addr) (in0_10 : Nat) (ic0_10 : Nat) (w : World) (R : Ending → World → Prop) : seg Tryd.prog entE flow_read.ords flow_read.joins Tryd.f44 [] [] [] ([.agg #[.int .u8 i0_0, .int .u16 i0_1, .bool i0_2, .bool i0_3, .int .i64 i0_4, .int .u8 i0_5, .int .u8 i0_6, .int .u32 i0_7, .int .u32 i0_8, .slice I0_9 in0_9 ic0_9, .slice I0_10 in0_10 ic0_10]] ++ List.replicate (Tryd.f44.ntmps - ([.agg #[.int .u8 i0_0, .int .u16 i0_1, .bool i0_2, .bool i0_3, .int .i64 i0_4, .int .u8 i0_5, .int .u8 i0_6, .int .u32 i0_7, .int .u32 i0_8, .slice I0_9 in0_9 ic0_9, .slice I0_10 in0_10 ic0_10]] : List Value).length) undef) w R = flow_read.s i0_0 i0_1 i0_2 i0_3 i0_4 i0_5 i0_6 i0_7 i0_8 I0_9 in0_9 ic0_9 I0_10 in0_10 ic0_10 w R := by kernel_rfl
theorem flow_read.run {i0_0 : Int} {i0_1 : Int} {i0_2 : Bool} {i0_3 : Bool} {i0_4 : Int} {i0_5 : Int} {i0_6 : Int} {i0_7 : Int} {i0_8 : Int} {I0_9 : Option Addr} {in0_9 : Nat} {ic0_9 : Nat} {I0_10 : Option Addr} {in0_10 : Nat} {ic0_10 : Nat} {w : World} {R : Ending → World → Prop} (h : flow_read.s i0_0 i0_1 i0_2 i0_3 i0_4 i0_5 i0_6 i0_7 i0_8 I0_9 in0_9 ic0_9 I0_10 in0_10 ic0_10 w R) : Calls Tryd.prog 44 #[.agg #[.int .u8 i0_0, .int .u16 i0_1, .bool i0_2, .bool i0_3, .int .i64 i0_4, .int .u8 i0_5, .int .u8 i0_6, .int .u32 i0_7, .int .u32 i0_8, .slice I0_9 in0_9 ic0_9, .slice I0_10 in0_10 ic0_10]] w R :=
  calls_seg ents mixed Tryd.func44 rfl (by rw [flow_read.s_eq]; exact h)
/-! ### flow_tuple_datagram: function 45 -/
def flow_tuple_datagram.ords : Nat → Od
  | _ => .nil
def flow_tuple_datagram.joins (p : List Nat) : Bool := false
def flow_tuple_datagram.s (i0_0 : Int) (i0_1 : Int) (i0_2 : Bool) (i0_3 : Bool) (i0_4 : Int) (i0_5 : Int) (i0_6 : Int) (i0_7 : Int) (i0_8 : Int) (I0_9 : Option Addr) (in0_9 : Nat) (ic0_9 : Nat) (i1_0 : Int) (i1_1 : Int) (w : World) (R : Ending → World → Prop) : Prop :=
(Let (w.heap.size) fun g1 : Nat =>
 Let (w.alloc (.cells #[.int .u8 i0_0, .int .u16 i0_1, .bool i0_2, .bool i0_3, .int .i64 i0_4, .int .u8 i0_5, .int .u8 i0_6, .int .u32 i0_7, .int .u32 i0_8, .slice I0_9 in0_9 ic0_9] 43)) fun w2 : World =>
 Let (w2.heap.size) fun g3 : Nat =>
 Let (w2.alloc (.cells #[.int .u32 0, .int .u32 0, .int .u8 0, .int .u16 0, .int .u16 0] 32)) fun w4 : World =>
 Calls Tryd.prog 104 #[.agg #[.int .u16 i1_0, .int .u16 i1_1]] w4 (fun (e6 : Ending) (w5 : World) =>
 ∃ x7 : Int, ∃ x8 : Int, e6 = .returned (.tuple #[.int .u16 x7, .int .u16 x8]) ∧
(∃ x9 : Int, w5.cell? ⟨g1, 7, none⟩ = some (.int .u32 x9) ∧
(∃ x10 : Int, w5.cell? ⟨g1, 8, none⟩ = some (.int .u32 x10) ∧
(∃ x11 : Int, w5.cell? ⟨g1, 6, none⟩ = some (.int .u8 x11) ∧
(May w5 ⟨g3, 0, none⟩ 5 ∧
(Let (putCells w5 ⟨g3, 0, none⟩ [.int .u32 x9, .int .u32 x10, .int .u8 x11, .int .u16 x7, .int .u16 x8] 0) fun w12 : World =>
 ∃ x13 : Int, ∃ x14 : Int, ∃ x15 : Int, ∃ x16 : Int, ∃ x17 : Int, (5 = 5 ∧ At w12 ⟨g3, 0, none⟩ [.int .u32 x13, .int .u32 x14, .int .u8 x15, .int .u16 x16, .int .u16 x17]) ∧
(R (.returned (.agg #[.int .u32 x13, .int .u32 x14, .int .u8 x15, .int .u16 x16, .int .u16 x17])) w12))))))))
theorem flow_tuple_datagram.s_eq (i0_0 : Int) (i0_1 : Int) (i0_2 : Bool) (i0_3 : Bool) (i0_4 : Int) (i0_5 : Int) (i0_6 : Int) (i0_7 : Int) (i0_8 : Int) (I0_9 : Option Addr) (in0_9 : Nat) (ic0_9 : Nat) (i1_0 : Int) (i1_1 : Int) (w : World) (R : Ending → World → Prop) : seg Tryd.prog entE flow_tuple_datagram.ords flow_tuple_datagram.joins Tryd.f45 [] [] [] ([.agg #[.int .u8 i0_0, .int .u16 i0_1, .bool i0_2, .bool i0_3, .int .i64 i0_4, .int .u8 i0_5, .int .u8 i0_6, .int .u32 i0_7, .int .u32 i0_8, .slice I0_9 in0_9 ic0_9], .iface 137 (.agg #[.int .u16 i1_0, .int .u16 i1_1])] ++ List.replicate (Tryd.f45.ntmps - ([.agg #[.int .u8 i0_0, .int .u16 i0_1, .bool i0_2, .bool i0_3, .int .i64 i0_4, .int .u8 i0_5, .int .u8 i0_6, .int .u32 i0_7, .int .u32 i0_8, .slice I0_9 in0_9 ic0_9], .iface 137 (.agg #[.int .u16 i1_0, .int .u16 i1_1])] : List Value).length) undef) w R = flow_tuple_datagram.s i0_0 i0_1 i0_2 i0_3 i0_4 i0_5 i0_6 i0_7 i0_8 I0_9 in0_9 ic0_9 i1_0 i1_1 w R := by kernel_rfl
theorem flow_tuple_datagram.run {i0_0 : Int} {i0_1 : Int} {i0_2 : Bool} {i0_3 : Bool} {i0_4 : Int} {i0_5 : Int} {i0_6 : Int} {i0_7 : Int} {i0_8 : Int} {I0_9 : Option Addr} {in0_9 : Nat} {ic0_9 : Nat} {i1_0 : Int} {i1_1 : Int} {w : World} {R : Ending → World → Prop} (h : flow_tuple_datagram.s i0_0 i0_1 i0_2 i0_3 i0_4 i0_5 i0_6 i0_7 i0_8 I0_9 in0_9 ic0_9 i1_0 i1_1 w R) : Calls Tryd.prog 45 #[.agg #[.int .u8 i0_0, .int .u16 i0_1, .bool i0_2, .bool i0_3, .int .i64 i0_4, .int .u8 i0_5, .int .u8 i0_6, .int .u32 i0_7, .int .u32 i0_8, .slice I0_9 in0_9 ic0_9], .iface 137 (.agg #[.int .u16 i1_0, .int .u16 i1_1])] w R :=
  calls_seg ents mixed Tryd.func45 rfl (by rw [flow_tuple_datagram.s_eq]; exact h)
/-! ### flow_tuple_segment: function 45 -/
def flow_tuple_segment.ords : Nat → Od
  | _ => .nil
def flow_tuple_segment.joins (p : List Nat) : Bool := false
def flow_tuple_segment.s (i0_0 : Int) (i0_1 : Int) (i0_2 : Bool) (i0_3 : Bool) (i0_4 : Int) (i0_5 : Int) (i0_6 : Int) (i0_7 : Int) (i0_8 : Int) (I0_9 : Option Addr) (in0_9 : Nat) (ic0_9 : Nat) (i1_0 : Int) (i1_1 : Int) (i1_2 : Int) (w : World) (R : Ending → World → Prop) : Prop :=
(Let (w.heap.size) fun g1 : Nat =>
 Let (w.alloc (.cells #[.int .u8 i0_0, .int .u16 i0_1, .bool i0_2, .bool i0_3, .int .i64 i0_4, .int .u8 i0_5, .int .u8 i0_6, .int .u32 i0_7, .int .u32 i0_8, .slice I0_9 in0_9 ic0_9] 43)) fun w2 : World =>
 Let (w2.heap.size) fun g3 : Nat =>
 Let (w2.alloc (.cells #[.int .u32 0, .int .u32 0, .int .u8 0, .int .u16 0, .int .u16 0] 32)) fun w4 : World =>
 Calls Tryd.prog 106 #[.agg #[.int .u16 i1_0, .int .u16 i1_1, .int .u8 i1_2]] w4 (fun (e6 : Ending) (w5 : World) =>
 ∃ x7 : Int, ∃ x8 : Int, e6 = .returned (.tuple #[.int .u16 x7, .int .u16 x8]) ∧
(∃ x9 : Int, w5.cell? ⟨g1, 7, none⟩ = some (.int .u32 x9) ∧
(∃ x10 : Int, w5.cell? ⟨g1, 8, none⟩ = some (.int .u32 x10) ∧
(∃ x11 : Int, w5.cell? ⟨g1, 6, none⟩ = some (.int .u8 x11) ∧
(May w5 ⟨g3, 0, none⟩ 5 ∧
(Let (putCells w5 ⟨g3, 0, none⟩ [.int .u32 x9, .int .u32 x10, .int .u8 x11, .int .u16 x7, .int .u16 x8] 0) fun w12 : World =>
 ∃ x13 : Int, ∃ x14 : Int, ∃ x15 : Int, ∃ x16 : Int, ∃ x17 : Int, (5 = 5 ∧ At w12 ⟨g3, 0, none⟩ [.int .u32 x13, .int .u32 x14, .int .u8 x15, .int .u16 x16, .int .u16 x17]) ∧
(R (.returned (.agg #[.int .u32 x13, .int .u32 x14, .int .u8 x15, .int .u16 x16, .int .u16 x17])) w12))))))))
theorem flow_tuple_segment.s_eq (i0_0 : Int) (i0_1 : Int) (i0_2 : Bool) (i0_3 : Bool) (i0_4 : Int) (i0_5 : Int) (i0_6 : Int) (i0_7 : Int) (i0_8 : Int) (I0_9 : Option Addr) (in0_9 : Nat) (ic0_9 : Nat) (i1_0 : Int) (i1_1 : Int) (i1_2 : Int) (w : World) (R : Ending → World → Prop) : seg Tryd.prog entE flow_tuple_segment.ords flow_tuple_segment.joins Tryd.f45 [] [] [] ([.agg #[.int .u8 i0_0, .int .u16 i0_1, .bool i0_2, .bool i0_3, .int .i64 i0_4, .int .u8 i0_5, .int .u8 i0_6, .int .u32 i0_7, .int .u32 i0_8, .slice I0_9 in0_9 ic0_9], .iface 139 (.agg #[.int .u16 i1_0, .int .u16 i1_1, .int .u8 i1_2])] ++ List.replicate (Tryd.f45.ntmps - ([.agg #[.int .u8 i0_0, .int .u16 i0_1, .bool i0_2, .bool i0_3, .int .i64 i0_4, .int .u8 i0_5, .int .u8 i0_6, .int .u32 i0_7, .int .u32 i0_8, .slice I0_9 in0_9 ic0_9], .iface 139 (.agg #[.int .u16 i1_0, .int .u16 i1_1, .int .u8 i1_2])] : List Value).length) undef) w R = flow_tuple_segment.s i0_0 i0_1 i0_2 i0_3 i0_4 i0_5 i0_6 i0_7 i0_8 I0_9 in0_9 ic0_9 i1_0 i1_1 i1_2 w R := by kernel_rfl
theorem flow_tuple_segment.run {i0_0 : Int} {i0_1 : Int} {i0_2 : Bool} {i0_3 : Bool} {i0_4 : Int} {i0_5 : Int} {i0_6 : Int} {i0_7 : Int} {i0_8 : Int} {I0_9 : Option Addr} {in0_9 : Nat} {ic0_9 : Nat} {i1_0 : Int} {i1_1 : Int} {i1_2 : Int} {w : World} {R : Ending → World → Prop} (h : flow_tuple_segment.s i0_0 i0_1 i0_2 i0_3 i0_4 i0_5 i0_6 i0_7 i0_8 I0_9 in0_9 ic0_9 i1_0 i1_1 i1_2 w R) : Calls Tryd.prog 45 #[.agg #[.int .u8 i0_0, .int .u16 i0_1, .bool i0_2, .bool i0_3, .int .i64 i0_4, .int .u8 i0_5, .int .u8 i0_6, .int .u32 i0_7, .int .u32 i0_8, .slice I0_9 in0_9 ic0_9], .iface 139 (.agg #[.int .u16 i1_0, .int .u16 i1_1, .int .u8 i1_2])] w R :=
  calls_seg ents mixed Tryd.func45 rfl (by rw [flow_tuple_segment.s_eq]; exact h)
/-! ### flow_tuple_echo: function 45 -/
def flow_tuple_echo.ords : Nat → Od
  | _ => .nil
def flow_tuple_echo.joins (p : List Nat) : Bool := false
def flow_tuple_echo.s (i0_0 : Int) (i0_1 : Int) (i0_2 : Bool) (i0_3 : Bool) (i0_4 : Int) (i0_5 : Int) (i0_6 : Int) (i0_7 : Int) (i0_8 : Int) (I0_9 : Option Addr) (in0_9 : Nat) (ic0_9 : Nat) (i1_0 : Bool) (i1_1 : Int) (w : World) (R : Ending → World → Prop) : Prop :=
(Let (w.heap.size) fun g1 : Nat =>
 Let (w.alloc (.cells #[.int .u8 i0_0, .int .u16 i0_1, .bool i0_2, .bool i0_3, .int .i64 i0_4, .int .u8 i0_5, .int .u8 i0_6, .int .u32 i0_7, .int .u32 i0_8, .slice I0_9 in0_9 ic0_9] 43)) fun w2 : World =>
 Let (w2.heap.size) fun g3 : Nat =>
 Let (w2.alloc (.cells #[.int .u32 0, .int .u32 0, .int .u8 0, .int .u16 0, .int .u16 0] 32)) fun w4 : World =>
 Calls Tryd.prog 107 #[.agg #[.bool i1_0, .int .u16 i1_1]] w4 (fun (e6 : Ending) (w5 : World) =>
 ∃ x7 : Int, ∃ x8 : Int, e6 = .returned (.tuple #[.int .u16 x7, .int .u16 x8]) ∧
(∃ x9 : Int, w5.cell? ⟨g1, 7, none⟩ = some (.int .u32 x9) ∧
(∃ x10 : Int, w5.cell? ⟨g1, 8, none⟩ = some (.int .u32 x10) ∧
(∃ x11 : Int, w5.cell? ⟨g1, 6, none⟩ = some (.int .u8 x11) ∧
(May w5 ⟨g3, 0, none⟩ 5 ∧
(Let (putCells w5 ⟨g3, 0, none⟩ [.int .u32 x9, .int .u32 x10, .int .u8 x11, .int .u16 x7, .int .u16 x8] 0) fun w12 : World =>
 ∃ x13 : Int, ∃ x14 : Int, ∃ x15 : Int, ∃ x16 : Int, ∃ x17 : Int, (5 = 5 ∧ At w12 ⟨g3, 0, none⟩ [.int .u32 x13, .int .u32 x14, .int .u8 x15, .int .u16 x16, .int .u16 x17]) ∧
(R (.returned (.agg #[.int .u32 x13, .int .u32 x14, .int .u8 x15, .int .u16 x16, .int .u16 x17])) w12))))))))
theorem flow_tuple_echo.s_eq (i0_0 : Int) (i0_1 : Int) (i0_2 : Bool) (i0_3 : Bool) (i0_4 : Int) (i0_5 : Int) (i0_6 : Int) (i0_7 : Int) (i0_8 : Int) (I0_9 : Option Addr) (in0_9 : Nat) (ic0_9 : Nat) (i1_0 : Bool) (i1_1 : Int) (w : World) (R : Ending → World → Prop) : seg Tryd.prog entE flow_tuple_echo.ords flow_tuple_echo.joins Tryd.f45 [] [] [] ([.agg #[.int .u8 i0_0, .int .u16 i0_1, .bool i0_2, .bool i0_3, .int .i64 i0_4, .int .u8 i0_5, .int .u8 i0_6, .int .u32 i0_7, .int .u32 i0_8, .slice I0_9 in0_9 ic0_9], .iface 141 (.agg #[.bool i1_0, .int .u16 i1_1])] ++ List.replicate (Tryd.f45.ntmps - ([.agg #[.int .u8 i0_0, .int .u16 i0_1, .bool i0_2, .bool i0_3, .int .i64 i0_4, .int .u8 i0_5, .int .u8 i0_6, .int .u32 i0_7, .int .u32 i0_8, .slice I0_9 in0_9 ic0_9], .iface 141 (.agg #[.bool i1_0, .int .u16 i1_1])] : List Value).length) undef) w R = flow_tuple_echo.s i0_0 i0_1 i0_2 i0_3 i0_4 i0_5 i0_6 i0_7 i0_8 I0_9 in0_9 ic0_9 i1_0 i1_1 w R := by kernel_rfl
theorem flow_tuple_echo.run {i0_0 : Int} {i0_1 : Int} {i0_2 : Bool} {i0_3 : Bool} {i0_4 : Int} {i0_5 : Int} {i0_6 : Int} {i0_7 : Int} {i0_8 : Int} {I0_9 : Option Addr} {in0_9 : Nat} {ic0_9 : Nat} {i1_0 : Bool} {i1_1 : Int} {w : World} {R : Ending → World → Prop} (h : flow_tuple_echo.s i0_0 i0_1 i0_2 i0_3 i0_4 i0_5 i0_6 i0_7 i0_8 I0_9 in0_9 ic0_9 i1_0 i1_1 w R) : Calls Tryd.prog 45 #[.agg #[.int .u8 i0_0, .int .u16 i0_1, .bool i0_2, .bool i0_3, .int .i64 i0_4, .int .u8 i0_5, .int .u8 i0_6, .int .u32 i0_7, .int .u32 i0_8, .slice I0_9 in0_9 ic0_9], .iface 141 (.agg #[.bool i1_0, .int .u16 i1_1])] w R :=
  calls_seg ents mixed Tryd.func45 rfl (by rw [flow_tuple_echo.s_eq]; exact h)
/-! ### flow_datagram_ports: function 104 -/
def flow_datagram_ports.ords : Nat → Od
  | 1 => (.tk 0 (.tk 1 (.tk 2 (.tk 3 (.tk 4 (.tk 5 .nil))))))
  | _ => .nil
def flow_datagram_ports.joins (p : List Nat) : Bool := false
def flow_datagram_ports.s (i0_0 : Int) (i0_1 : Int) (w : World) (R : Ending → World → Prop) : Prop :=
(Let (w.heap.size) fun g1 : Nat =>
 Let (w.alloc (.cells #[.int .u16 i0_0, .int .u16 i0_1] 137)) fun w2 : World =>
 ∃ S3 : World → Prop, S3 w2.drew ∧
(Let (w2.drew) fun w4 : World =>
 ∃ x5 : Int, (∀ w', S3 w' → w'.cell? ⟨g1, 0, none⟩ = some (.int .u16 x5)) ∧
(∃ x6 : Int, (∀ w', S3 w' → w'.cell? ⟨g1, 1, none⟩ = some (.int .u16 x6)) ∧
(R (.returned (.tuple #[.int .u16 x5, .int .u16 x6])) w4))))
theorem flow_datagram_ports.s_eq (i0_0 : Int) (i0_1 : Int) (w : World) (R : Ending → World → Prop) : seg Tryd.prog entE flow_datagram_ports.ords flow_datagram_ports.joins Tryd.f104 [] [] [] ([.agg #[.int .u16 i0_0, .int .u16 i0_1]] ++ List.replicate (Tryd.f104.ntmps - ([.agg #[.int .u16 i0_0, .int .u16 i0_1]] : List Value).length) undef) w R = flow_datagram_ports.s i0_0 i0_1 w R := by kernel_rfl
theorem flow_datagram_ports.run {i0_0 : Int} {i0_1 : Int} {w : World} {R : Ending → World → Prop} (h : flow_datagram_ports.s i0_0 i0_1 w R) : Calls Tryd.prog 104 #[.agg #[.int .u16 i0_0, .int .u16 i0_1]] w R :=
  calls_seg ents mixed Tryd.func104 rfl (by rw [flow_datagram_ports.s_eq]; exact h)
/-! ### flow_segment_ports: function 106 -/
def flow_segment_ports.ords : Nat → Od
  | 1 => (.tk 0 (.tk 1 (.tk 2 (.tk 3 (.tk 4 (.tk 5 .nil))))))
  | _ => .nil
def flow_segment_ports.joins (p : List Nat) : Bool := false
def flow_segment_ports.s (i0_0 : Int) (i0_1 : Int) (i0_2 : Int) (w : World) (R : Ending → World → Prop) : Prop :=
(Let (w.heap.size) fun g1 : Nat =>
 Let (w.alloc (.cells #[.int .u16 i0_0, .int .u16 i0_1, .int .u8 i0_2] 139)) fun w2 : World =>
 ∃ S3 : World → Prop, S3 w2.drew ∧
(Let (w2.drew) fun w4 : World =>
 ∃ x5 : Int, (∀ w', S3 w' → w'.cell? ⟨g1, 0, none⟩ = some (.int .u16 x5)) ∧
(∃ x6 : Int, (∀ w', S3 w' → w'.cell? ⟨g1, 1, none⟩ = some (.int .u16 x6)) ∧
(R (.returned (.tuple #[.int .u16 x5, .int .u16 x6])) w4))))
theorem flow_segment_ports.s_eq (i0_0 : Int) (i0_1 : Int) (i0_2 : Int) (w : World) (R : Ending → World → Prop) : seg Tryd.prog entE flow_segment_ports.ords flow_segment_ports.joins Tryd.f106 [] [] [] ([.agg #[.int .u16 i0_0, .int .u16 i0_1, .int .u8 i0_2]] ++ List.replicate (Tryd.f106.ntmps - ([.agg #[.int .u16 i0_0, .int .u16 i0_1, .int .u8 i0_2]] : List Value).length) undef) w R = flow_segment_ports.s i0_0 i0_1 i0_2 w R := by kernel_rfl
theorem flow_segment_ports.run {i0_0 : Int} {i0_1 : Int} {i0_2 : Int} {w : World} {R : Ending → World → Prop} (h : flow_segment_ports.s i0_0 i0_1 i0_2 w R) : Calls Tryd.prog 106 #[.agg #[.int .u16 i0_0, .int .u16 i0_1, .int .u8 i0_2]] w R :=
  calls_seg ents mixed Tryd.func106 rfl (by rw [flow_segment_ports.s_eq]; exact h)
/-! ### flow_echo_ports: function 107 -/
def flow_echo_ports.ords : Nat → Od
  | 1 => (.tk 0 (.tk 1 (.tk 2 (.tk 3 (.tk 4 (.tk 5 .nil))))))
  | _ => .nil
def flow_echo_ports.joins (p : List Nat) : Bool := false
def flow_echo_ports.s (i0_0 : Bool) (i0_1 : Int) (w : World) (R : Ending → World → Prop) : Prop :=
(Let (w.heap.size) fun g1 : Nat =>
 Let (w.alloc (.cells #[.bool i0_0, .int .u16 i0_1] 141)) fun w2 : World =>
 ∃ S3 : World → Prop, S3 w2.drew ∧
(Let (w2.drew) fun w4 : World =>
 ∃ x5 : Int, (∀ w', S3 w' → w'.cell? ⟨g1, 1, none⟩ = some (.int .u16 x5)) ∧
(∃ x6 : Int, (∀ w', S3 w' → w'.cell? ⟨g1, 1, none⟩ = some (.int .u16 x6)) ∧
(R (.returned (.tuple #[.int .u16 x5, .int .u16 x6])) w4))))
theorem flow_echo_ports.s_eq (i0_0 : Bool) (i0_1 : Int) (w : World) (R : Ending → World → Prop) : seg Tryd.prog entE flow_echo_ports.ords flow_echo_ports.joins Tryd.f107 [] [] [] ([.agg #[.bool i0_0, .int .u16 i0_1]] ++ List.replicate (Tryd.f107.ntmps - ([.agg #[.bool i0_0, .int .u16 i0_1]] : List Value).length) undef) w R = flow_echo_ports.s i0_0 i0_1 w R := by kernel_rfl
theorem flow_echo_ports.run {i0_0 : Bool} {i0_1 : Int} {w : World} {R : Ending → World → Prop} (h : flow_echo_ports.s i0_0 i0_1 w R) : Calls Tryd.prog 107 #[.agg #[.bool i0_0, .int .u16 i0_1]] w R :=
  calls_seg ents mixed Tryd.func107 rfl (by rw [flow_echo_ports.s_eq]; exact h)
/-! ### flow_Of: function 28 -/
def flow_Of.ords : Nat → Od
  | _ => .nil
def flow_Of.joins (p : List Nat) : Bool := false
def flow_Of.s (i0_0 : Int) (i0_1 : Int) (i0_2 : Bool) (i0_3 : Bool) (i0_4 : Int) (i0_5 : Int) (i0_6 : Int) (i0_7 : Int) (i0_8 : Int) (I0_9 : Option Addr) (in0_9 : Nat) (ic0_9 : Nat) (I0_10 : Option Addr) (in0_10 : Nat) (ic0_10 : Nat) (w : World) (R : Ending → World → Prop) : Prop :=
(Let (w.heap.size) fun g1 : Nat =>
 Let (w.alloc (.cells #[.int .u8 i0_0, .int .u16 i0_1, .bool i0_2, .bool i0_3, .int .i64 i0_4, .int .u8 i0_5, .int .u8 i0_6, .int .u32 i0_7, .int .u32 i0_8, .slice I0_9 in0_9 ic0_9, .slice I0_10 in0_10 ic0_10] 45)) fun w2 : World =>
 Let (w2.heap.size) fun g3 : Nat =>
 Let (w2.alloc (.cells #[.int .u32 0, .int .u32 0, .int .u8 0, .int .u16 0, .int .u16 0] 32)) fun w4 : World =>
 ∃ x5 : Int, ∃ x6 : Int, ∃ b7 : Bool, ∃ b8 : Bool, ∃ x9 : Int, ∃ x10 : Int, ∃ x11 : Int, ∃ x12 : Int, ∃ x13 : Int, ∃ (A14 : Option Addr) (n14_ c14_ : Nat), ∃ (A15 : Option Addr) (n15_ c15_ : Nat), (11 = 11 ∧ At w4 ⟨g1, 0, none⟩ [.int .u8 x5, .int .u16 x6, .bool b7, .bool b8, .int .i64 x9, .int .u8 x10, .int .u8 x11, .int .u32 x12, .int .u32 x13, .slice A14 n14_ c14_, .slice A15 n15_ c15_]) ∧
(Calls Tryd.prog 44 #[.agg #[.int .u8 x5, .int .u16 x6, .bool b7, .bool b8, .int .i64 x9, .int .u8 x10, .int .u8 x11, .int .u32 x12, .int .u32 x13, .slice A14 n14_ c14_, .slice A15 n15_ c15_]] w4 (fun (e17 : Ending) (w16 : World) =>
 ∃ v18 : Value, ∃ x19 : Int, e17 = .returned (.tuple #[v18, .int .i64 x19]) ∧
((if (x19 != 0) = true then
(May w16 ⟨g3, 0, none⟩ 5 ∧
(Let (putCells w16 ⟨g3, 0, none⟩ [.int .u32 0, .int .u32 0, .int .u8 0, .int .u16 0, .int .u16 0] 0) fun w20 : World =>
 ∃ x21 : Int, ∃ x22 : Int, ∃ x23 : Int, ∃ x24 : Int, ∃ x25 : Int, (5 = 5 ∧ At w20 ⟨g3, 0, none⟩ [.int .u32 x21, .int .u32 x22, .int .u8 x23, .int .u16 x24, .int .u16 x25]) ∧
(R (.returned (.tuple #[.agg #[.int .u32 x21, .int .u32 x22, .int .u8 x23, .int .u16 x24, .int .u16 x25], .int .i64 x19])) w20)))
else
(∃ x26 : Int, ∃ x27 : Int, ∃ b28 : Bool, ∃ b29 : Bool, ∃ x30 : Int, ∃ x31 : Int, ∃ x32 : Int, ∃ x33 : Int, ∃ x34 : Int, ∃ (A35 : Option Addr) (n35_ c35_ : Nat), (10 = 10 ∧ At w16 ⟨g1, 0, none⟩ [.int .u8 x26, .int .u16 x27, .bool b28, .bool b29, .int .i64 x30, .int .u8 x31, .int .u8 x32, .int .u32 x33, .int .u32 x34, .slice A35 n35_ c35_]) ∧
(Calls Tryd.prog 45 #[.agg #[.int .u8 x26, .int .u16 x27, .bool b28, .bool b29, .int .i64 x30, .int .u8 x31, .int .u8 x32, .int .u32 x33, .int .u32 x34, .slice A35 n35_ c35_], v18] w16 (fun (e37 : Ending) (w36 : World) =>
 ∃ x38 : Int, ∃ x39 : Int, ∃ x40 : Int, ∃ x41 : Int, ∃ x42 : Int, e37 = .returned (.agg #[.int .u32 x38, .int .u32 x39, .int .u8 x40, .int .u16 x41, .int .u16 x42]) ∧
(May w36 ⟨g3, 0, none⟩ 5 ∧
(Let (putCells w36 ⟨g3, 0, none⟩ [.int .u32 x38, .int .u32 x39, .int .u8 x40, .int .u16 x41, .int .u16 x42] 0) fun w43 : World =>
 ∃ x44 : Int, ∃ x45 : Int, ∃ x46 : Int, ∃ x47 : Int, ∃ x48 : Int, (5 = 5 ∧ At w43 ⟨g3, 0, none⟩ [.int .u32 x44, .int .u32 x45, .int .u8 x46, .int .u16 x47, .int .u16 x48]) ∧
(R (.returned (.tuple #[.agg #[.int .u32 x44, .int .u32 x45, .int .u8 x46, .int .u16 x47, .int .u16 x48], .int .i64 0])) w43)))))))))))
theorem flow_Of.s_eq (i0_0 : Int) (i0_1 : Int) (i0_2 : Bool) (i0_3 : Bool) (i0_4 : Int) (i0_5 : Int) (i0_6 : Int) (i0_7 : Int) (i0_8 : Int) (I0_9 : Option Addr) (in0_9 : Nat) (ic0_9 : Nat) (I0_10 : Option Addr) (in0_10 : Nat) (ic0_10 : Nat) (w : World) (R : Ending → World → Prop) : seg Tryd.prog entE flow_Of.ords flow_Of.joins Tryd.f28 [] [] [] ([.agg #[.int .u8 i0_0, .int .u16 i0_1, .bool i0_2, .bool i0_3, .int .i64 i0_4, .int .u8 i0_5, .int .u8 i0_6, .int .u32 i0_7, .int .u32 i0_8, .slice I0_9 in0_9 ic0_9, .slice I0_10 in0_10 ic0_10]] ++ List.replicate (Tryd.f28.ntmps - ([.agg #[.int .u8 i0_0, .int .u16 i0_1, .bool i0_2, .bool i0_3, .int .i64 i0_4, .int .u8 i0_5, .int .u8 i0_6, .int .u32 i0_7, .int .u32 i0_8, .slice I0_9 in0_9 ic0_9, .slice I0_10 in0_10 ic0_10]] : List Value).length) undef) w R = flow_Of.s i0_0 i0_1 i0_2 i0_3 i0_4 i0_5 i0_6 i0_7 i0_8 I0_9 in0_9 ic0_9 I0_10 in0_10 ic0_10 w R := by kernel_rfl
theorem flow_Of.run {i0_0 : Int} {i0_1 : Int} {i0_2 : Bool} {i0_3 : Bool} {i0_4 : Int} {i0_5 : Int} {i0_6 : Int} {i0_7 : Int} {i0_8 : Int} {I0_9 : Option Addr} {in0_9 : Nat} {ic0_9 : Nat} {I0_10 : Option Addr} {in0_10 : Nat} {ic0_10 : Nat} {w : World} {R : Ending → World → Prop} (h : flow_Of.s i0_0 i0_1 i0_2 i0_3 i0_4 i0_5 i0_6 i0_7 i0_8 I0_9 in0_9 ic0_9 I0_10 in0_10 ic0_10 w R) : Calls Tryd.prog 28 #[.agg #[.int .u8 i0_0, .int .u16 i0_1, .bool i0_2, .bool i0_3, .int .i64 i0_4, .int .u8 i0_5, .int .u8 i0_6, .int .u32 i0_7, .int .u32 i0_8, .slice I0_9 in0_9 ic0_9, .slice I0_10 in0_10 ic0_10]] w R :=
  calls_seg ents mixed Tryd.func28 rfl (by rw [flow_Of.s_eq]; exact h)
/-! ### flow_two: function 71 -/
def flow_two.ords : Nat → Od
  | 1 => (.tk 0 (.tk 1 (.tk 2 (.tk 3 (.tk 4 (.tk 5 (.tk 6 (.tk 7 (.tk 8 (.tk 9 (.tk 10 (.tk 11 (.tk 12 (.tk 13 .nil))))))))))))))
  | _ => .nil
def flow_two.joins (p : List Nat) : Bool := false
def flow_two.s (I0 : Option Addr) (in0 : Nat) (ic0 : Nat) (i1 : Int) (w : World) (R : Ending → World → Prop) : Prop :=
(∃ S1 : World → Prop, S1 w.drew ∧
(Let (w.drew) fun w2 : World =>
 ∃ a3 : Addr, I0 = some a3 ∧ (0 ≤ i1 ∧ i1 < (in0 : Int)) ∧
(∃ x4 : Int, (∀ w', S1 w' → w'.cell? (a3.add i1.toNat) = some (.int .u8 x4)) ∧
(Let (IntKind.u16.wrap x4) fun x5 : Int =>
 Let (IntKind.u16.wrap (x5 * 256)) fun x6 : Int =>
 Let (IntKind.i64.wrap (i1 + 1)) fun x7 : Int =>
 ∃ a8 : Addr, I0 = some a8 ∧ (0 ≤ x7 ∧ x7 < (in0 : Int)) ∧
(∃ x9 : Int, (∀ w', S1 w' → w'.cell? (a8.add x7.toNat) = some (.int .u8 x9)) ∧
(Let (IntKind.u16.wrap x9) fun x10 : Int =>
 Let (Go.bits .or .u16 x6 x10) fun x11 : Int =>
 R (.returned (.int .u16 x11)) w2))))))
theorem flow_two.s_eq (I0 : Option Addr) (in0 : Nat) (ic0 : Nat) (i1 : Int) (w : World) (R : Ending → World → Prop) : seg Tryd.prog entE flow_two.ords flow_two.joins Tryd.f71 [] [] [] ([.slice I0 in0 ic0, .int .i64 i1] ++ List.replicate (Tryd.f71.ntmps - ([.slice I0 in0 ic0, .int .i64 i1] : List Value).length) undef) w R = flow_two.s I0 in0 ic0 i1 w R := by kernel_rfl
theorem flow_two.run {I0 : Option Addr} {in0 : Nat} {ic0 : Nat} {i1 : Int} {w : World} {R : Ending → World → Prop} (h : flow_two.s I0 in0 ic0 i1 w R) : Calls Tryd.prog 71 #[.slice I0 in0 ic0, .int .i64 i1] w R :=
  calls_seg ents mixed Tryd.func71 rfl (by rw [flow_two.s_eq]; exact h)
/-! ### nat_New: function 10 -/
def nat_New.ords : Nat → Od
  | _ => .nil
def nat_New.joins (p : List Nat) : Bool := p == [1, 1]
def nat_New.j1 (y0 : Int) (y1 : Int) (d2 d3 d4 d5 d6 d7 d8 d9 d10 d11 d12 d13 d14 d15 d16 d17 d18 d19 : Value) (w : World) (R : Ending → World → Prop) : Prop :=
  seg Tryd.prog entE nat_New.ords nat_New.joins Tryd.f10 [1, 1] [1, 1] [] [.int .u16 y0, .int .u16 y1, d2, d3, d4, d5, d6, d7, d8, d9, d10, d11, d12, d13, d14, d15, d16, d17, d18, d19] w R
abbrev nat_New.J1 (y0 : Int) (y1 : Int) (w : World) (R : Ending → World → Prop) : Prop := ∀ d2 d3 d4 d5 d6 d7 d8 d9 d10 d11 d12 d13 d14 d15 d16 d17 d18 d19 : Value, nat_New.j1 y0 y1 d2 d3 d4 d5 d6 d7 d8 d9 d10 d11 d12 d13 d14 d15 d16 d17 d18 d19 w R
theorem nat_New.j1_eq (y0 : Int) (y1 : Int) (d2 d3 d4 d5 d6 d7 d8 d9 d10 d11 d12 d13 d14 d15 d16 d17 d18 d19 : Value) (w : World) (R : Ending → World → Prop) : nat_New.j1 y0 y1 d2 d3 d4 d5 d6 d7 d8 d9 d10 d11 d12 d13 d14 d15 d16 d17 d18 d19 w R =
(Let (IntKind.i64.wrap y0) fun x1 : Int =>
 Let (IntKind.i64.wrap y1) fun x2 : Int =>
 Let (w.heap.size) fun g3 : Nat =>
 Let (w.alloc (.map #[] 0)) fun w4 : World =>
 Let (w4.heap.size) fun g5 : Nat =>
 Let (w4.alloc (.cells #[.int .i64 x1, .int .i64 x2, .map (some g3)] 73)) fun w6 : World =>
 R (.returned (.tuple #[.pointer (some ⟨g5, 0, none⟩), .int .i64 0])) w6) := by kernel_rfl
def nat_New.s (i0 : Int) (i1 : Int) (w : World) (R : Ending → World → Prop) : Prop :=
((if (i0 == 0) = true then
(R (.returned (.tuple #[.pointer none, .int .i64 1])) w)
else
((if decide (i0 > i1) = true then
(R (.returned (.tuple #[.pointer none, .int .i64 1])) w)
else
(Leaf (nat_New.j1 i0 i1 undef undef (.pointer none) (.int .i64 0) (.int .u16 i0) (.bool (i0 == 0)) (.bool false) (.int .u16 i0) (.int .u16 i1) (.bool (decide (i0 > i1))) (.bool (decide (i0 > i1))) undef undef undef undef undef undef undef w R))))))
theorem nat_New.s_eq (i0 : Int) (i1 : Int) (w : World) (R : Ending → World → Prop) : seg Tryd.prog entE nat_New.ords nat_New.joins Tryd.f10 [] [] [] ([.int .u16 i0, .int .u16 i1] ++ List.replicate (Tryd.f10.ntmps - ([.int .u16 i0, .int .u16 i1] : List Value).length) undef) w R = nat_New.s i0 i1 w R := by kernel_rfl
theorem nat_New.run {i0 : Int} {i1 : Int} {w : World} {R : Ending → World → Prop} (h : nat_New.s i0 i1 w R) : Calls Tryd.prog 10 #[.int .u16 i0, .int .u16 i1] w R :=
  calls_seg ents mixed Tryd.func10 rfl (by rw [nat_New.s_eq]; exact h)
/-! ### nat_Ports_Taken: function 15 -/
def nat_Ports_Taken.ords : Nat → Od
  | _ => .nil
def nat_Ports_Taken.joins (p : List Nat) : Bool := false
def nat_Ports_Taken.s (i0 : Option Addr) (i1 : Int) (w : World) (R : Ending → World → Prop) : Prop :=
(∃ a1 : Addr, i0 = some a1 ∧
(∃ r2 : Option Nat, w.cell? (a1.add 2) = some (.map r2) ∧
(∃ (es4 : Array MapEntry) (c5 : Nat) (q6 : Option (Nat × Value)), MapAt w r2 es4 c5 ∧ Instr.findNow (.int .u8) (.int .u8 i1) es4.toList 0 = some q6 ∧
(∃ p3 : Option Addr, (q6.map Prod.snd).getD (.pointer none) = .pointer p3 ∧
((if (!p3.isNone) = true then
(∃ a7 : Addr, p3 = some a7 ∧
(∃ x8 : Int, w.cell? (a7.add 1024) = some (.int .i64 x8) ∧
(R (.returned (.int .i64 x8)) w)))
else
(R (.returned (.int .i64 0)) w)))))))
theorem nat_Ports_Taken.s_eq (i0 : Option Addr) (i1 : Int) (w : World) (R : Ending → World → Prop) : seg Tryd.prog entE nat_Ports_Taken.ords nat_Ports_Taken.joins Tryd.f15 [] [] [] ([.pointer i0, .int .u8 i1] ++ List.replicate (Tryd.f15.ntmps - ([.pointer i0, .int .u8 i1] : List Value).length) undef) w R = nat_Ports_Taken.s i0 i1 w R := by kernel_rfl
theorem nat_Ports_Taken.run {i0 : Option Addr} {i1 : Int} {w : World} {R : Ending → World → Prop} (h : nat_Ports_Taken.s i0 i1 w R) : Calls Tryd.prog 15 #[.pointer i0, .int .u8 i1] w R :=
  calls_seg ents mixed Tryd.func15 rfl (by rw [nat_Ports_Taken.s_eq]; exact h)
/-! ### nat_bitmap_free: function 26 -/
def nat_bitmap_free.ords : Nat → Od
  | _ => .nil
def nat_bitmap_free.joins (p : List Nat) : Bool := false
def nat_bitmap_free.l1 (n : Nat) (y0 : Option Addr) (y2 : Int) (y7 : Int) (d1 d3 d4 d5 d6 d8 d9 d10 d11 d12 d13 d14 d15 d16 d17 d18 d19 d20 d21 d22 d23 d24 d25 d26 d27 d28 d29 d30 d31 d32 d33 d34 d35 d36 : Value) (w : World) (R : Ending → World → Prop) : Prop :=
  lseg Tryd.prog entE nat_bitmap_free.ords nat_bitmap_free.joins Tryd.f26 [1, 0, 1, 0] [0, 1, 0, 1] [] n [.pointer y0, d1, .int .i64 y2, d3, d4, d5, d6, .int .i64 y7, d8, d9, d10, d11, d12, d13, d14, d15, d16, d17, d18, d19, d20, d21, d22, d23, d24, d25, d26, d27, d28, d29, d30, d31, d32, d33, d34, d35, d36] w R
abbrev nat_bitmap_free.L1 (n : Nat) (y0 : Option Addr) (y2 : Int) (y7 : Int) (w : World) (R : Ending → World → Prop) : Prop := ∀ d1 d3 d4 d5 d6 d8 d9 d10 d11 d12 d13 d14 d15 d16 d17 d18 d19 d20 d21 d22 d23 d24 d25 d26 d27 d28 d29 d30 d31 d32 d33 d34 d35 d36 : Value, nat_bitmap_free.l1 n y0 y2 y7 d1 d3 d4 d5 d6 d8 d9 d10 d11 d12 d13 d14 d15 d16 d17 d18 d19 d20 d21 d22 d23 d24 d25 d26 d27 d28 d29 d30 d31 d32 d33 d34 d35 d36 w R
theorem nat_bitmap_free.l1_eq (n : Nat) (y0 : Option Addr) (y2 : Int) (y7 : Int) (d1 d3 d4 d5 d6 d8 d9 d10 d11 d12 d13 d14 d15 d16 d17 d18 d19 d20 d21 d22 d23 d24 d25 d26 d27 d28 d29 d30 d31 d32 d33 d34 d35 d36 : Value) (w : World) (R : Ending → World → Prop) : nat_bitmap_free.l1 (n + 1) y0 y2 y7 d1 d3 d4 d5 d6 d8 d9 d10 d11 d12 d13 d14 d15 d16 d17 d18 d19 d20 d21 d22 d23 d24 d25 d26 d27 d28 d29 d30 d31 d32 d33 d34 d35 d36 w R =
((if decide (y7 ≤ y2) = true then
(Let (IntKind.i64.wrap (Int.tdiv y7 64)) fun x1 : Int =>
 ∃ a2 : Addr, y0 = some a2 ∧
((0 ≤ (x1 : Int) ∧ (x1 : Int) < 1024) ∧
(∃ x3 : Int, w.cell? (a2.add x1.toNat) = some (.int .u64 x3) ∧
(Let (Go.bits .xor .u64 18446744073709551615 x3) fun x4 : Int =>
 Let (Int.tmod y7 64) fun x5 : Int =>
 0 ≤ x5 ∧
(Let (Int.fdiv x4 ((2 : Int) ^ (min x5.toNat 64))) fun x6 : Int =>
(if (x6 == 0) = true then
(Let (IntKind.i64.wrap (Int.tdiv y7 64)) fun x7 : Int =>
 Let (IntKind.i64.wrap (x7 + 1)) fun x8 : Int =>
 Let (IntKind.i64.wrap (x8 * 64)) fun x9 : Int =>
 nat_bitmap_free.l1 n y0 y2 x9 d1 d3 d4 d5 d6 (.int .u64 x6) d9 (.int .i64 y7) (.int .i64 y2) (.bool (decide (y7 ≤ y2))) (.pointer y0) (.int .i64 y7) (.int .i64 x1) (.pointer (some a2)) (.pointer (some (a2.add x1.toNat))) (.int .u64 x3) (.int .u64 x4) (.int .i64 y7) (.int .i64 x5) (.int .u64 x6) (.int .u64 x6) (.bool (x6 == 0)) (.int .i64 y7) (.int .i64 x7) (.int .i64 x8) (.int .i64 x9) d29 d30 d31 d32 d33 d34 d35 d36 w R)
else
(Calls Tryd.prog 43 #[.int .u64 x6] w (fun (e11 : Ending) (w10 : World) =>
 ∃ x12 : Int, e11 = .returned (.int .i64 x12) ∧
(Let (IntKind.i64.wrap (y7 + x12)) fun x13 : Int =>
(if decide (x13 > y2) = true then
(R (.returned (.int .i64 (-1))) w10)
else
(R (.returned (.int .i64 x13)) w10)))))))))))
else
(R (.returned (.int .i64 (-1))) w))) := by kernel_rfl
def nat_bitmap_free.s (i0 : Option Addr) (i1 : Int) (i2 : Int) (w : World) (R : Ending → World → Prop) : Prop :=
(∃ n1 : Nat, nat_bitmap_free.l1 n1 i0 i2 i1 (.int .i64 i1) undef undef undef (.int .i64 0) undef (.int .i64 i1) undef undef undef undef undef undef undef undef undef undef undef undef undef undef undef undef undef undef undef undef undef undef undef undef undef undef undef w R)
theorem nat_bitmap_free.s_eq (i0 : Option Addr) (i1 : Int) (i2 : Int) (w : World) (R : Ending → World → Prop) : seg Tryd.prog entE nat_bitmap_free.ords nat_bitmap_free.joins Tryd.f26 [] [] [] ([.pointer i0, .int .i64 i1, .int .i64 i2] ++ List.replicate (Tryd.f26.ntmps - ([.pointer i0, .int .i64 i1, .int .i64 i2] : List Value).length) undef) w R = nat_bitmap_free.s i0 i1 i2 w R := by kernel_rfl
theorem nat_bitmap_free.run {i0 : Option Addr} {i1 : Int} {i2 : Int} {w : World} {R : Ending → World → Prop} (h : nat_bitmap_free.s i0 i1 i2 w R) : Calls Tryd.prog 26 #[.pointer i0, .int .i64 i1, .int .i64 i2] w R :=
  calls_seg ents mixed Tryd.func26 rfl (by rw [nat_bitmap_free.s_eq]; exact h)
/-! ### nat_bitmap_has: function 27 -/
def nat_bitmap_has.ords : Nat → Od
  | _ => .nil
def nat_bitmap_has.joins (p : List Nat) : Bool := false
def nat_bitmap_has.s (i0 : Option Addr) (i1 : Int) (w : World) (R : Ending → World → Prop) : Prop :=
(Let (IntKind.i64.wrap (Int.tdiv i1 64)) fun x1 : Int =>
 ∃ a2 : Addr, i0 = some a2 ∧
((0 ≤ (x1 : Int) ∧ (x1 : Int) < 1024) ∧
(∃ x3 : Int, w.cell? (a2.add x1.toNat) = some (.int .u64 x3) ∧
(Let (Int.tmod i1 64) fun x4 : Int =>
 0 ≤ x4 ∧
(Let (Int.fdiv x3 ((2 : Int) ^ (min x4.toNat 64))) fun x5 : Int =>
 Let (Go.bits .and .u64 x5 1) fun x6 : Int =>
 R (.returned (.bool (x6 == 1))) w)))))
theorem nat_bitmap_has.s_eq (i0 : Option Addr) (i1 : Int) (w : World) (R : Ending → World → Prop) : seg Tryd.prog entE nat_bitmap_has.ords nat_bitmap_has.joins Tryd.f27 [] [] [] ([.pointer i0, .int .i64 i1] ++ List.replicate (Tryd.f27.ntmps - ([.pointer i0, .int .i64 i1] : List Value).length) undef) w R = nat_bitmap_has.s i0 i1 w R := by kernel_rfl
theorem nat_bitmap_has.run {i0 : Option Addr} {i1 : Int} {w : World} {R : Ending → World → Prop} (h : nat_bitmap_has.s i0 i1 w R) : Calls Tryd.prog 27 #[.pointer i0, .int .i64 i1] w R :=
  calls_seg ents mixed Tryd.func27 rfl (by rw [nat_bitmap_has.s_eq]; exact h)
/-! ### nat_Pick: function 22 -/
def nat_Pick.ords : Nat → Od
  | 5 => (.tk 0 (.tk 1 (.tk 2 (.tk 3 (.on 4 (.tk 5 (.tk 6 .nil)))))))
  | _ => .nil
def nat_Pick.joins (p : List Nat) : Bool := false
def nat_Pick.l1 (n : Nat) (yg2 : Nat) (y6 : Int) (y7 : Int) (Y23 : Option Addr) (yn23 : Nat) (yc23 : Nat) (y24 : Int) (y25 : Int) (d0 d1 d3 d4 d5 d8 d9 d10 d11 d12 d13 d14 d15 d16 d17 d18 d19 d20 d21 d22 d26 d27 d28 d29 d30 d31 d32 d33 d34 d35 d36 d37 d38 d39 d40 : Value) (w : World) (R : Ending → World → Prop) : Prop :=
  lseg Tryd.prog entE nat_Pick.ords nat_Pick.joins Tryd.f22 [1, 1, 1, 1, 0, 1, 0] [0, 1, 0, 1, 1, 1, 1] [] n [d0, d1, .pointer (some ⟨yg2, 0, none⟩), d3, d4, d5, .int .i64 y6, .int .u64 y7, d8, d9, d10, d11, d12, d13, d14, d15, d16, d17, d18, d19, d20, d21, d22, .slice Y23 yn23 yc23, .int .i64 y24, .int .i64 y25, d26, d27, d28, d29, d30, d31, d32, d33, d34, d35, d36, d37, d38, d39, d40] w R
abbrev nat_Pick.L1 (n : Nat) (yg2 : Nat) (y6 : Int) (y7 : Int) (Y23 : Option Addr) (yn23 : Nat) (yc23 : Nat) (y24 : Int) (y25 : Int) (w : World) (R : Ending → World → Prop) : Prop := ∀ d0 d1 d3 d4 d5 d8 d9 d10 d11 d12 d13 d14 d15 d16 d17 d18 d19 d20 d21 d22 d26 d27 d28 d29 d30 d31 d32 d33 d34 d35 d36 d37 d38 d39 d40 : Value, nat_Pick.l1 n yg2 y6 y7 Y23 yn23 yc23 y24 y25 d0 d1 d3 d4 d5 d8 d9 d10 d11 d12 d13 d14 d15 d16 d17 d18 d19 d20 d21 d22 d26 d27 d28 d29 d30 d31 d32 d33 d34 d35 d36 d37 d38 d39 d40 w R
theorem nat_Pick.l1_eq (n : Nat) (yg2 : Nat) (y6 : Int) (y7 : Int) (Y23 : Option Addr) (yn23 : Nat) (yc23 : Nat) (y24 : Int) (y25 : Int) (d0 d1 d3 d4 d5 d8 d9 d10 d11 d12 d13 d14 d15 d16 d17 d18 d19 d20 d21 d22 d26 d27 d28 d29 d30 d31 d32 d33 d34 d35 d36 d37 d38 d39 d40 : Value) (w : World) (R : Ending → World → Prop) : nat_Pick.l1 (n + 1) yg2 y6 y7 Y23 yn23 yc23 y24 y25 d0 d1 d3 d4 d5 d8 d9 d10 d11 d12 d13 d14 d15 d16 d17 d18 d19 d20 d21 d22 d26 d27 d28 d29 d30 d31 d32 d33 d34 d35 d36 d37 d38 d39 d40 w R =
((if decide (y25 < y24) = true then
(∃ a1 : Addr, Y23 = some a1 ∧ (0 ≤ y25 ∧ y25 < (yn23 : Int)) ∧
(∃ x2 : Int, ∃ x3 : Int, (2 = 2 ∧ At w (a1.add (y25.toNat * 2)) [.int .u32 x2, .int .u16 x3]) ∧
(Let (w.heap.size) fun g4 : Nat =>
 Let (w.alloc (.cells #[.int .u32 0, .int .u16 0] 28)) fun w5 : World =>
 May w5 ⟨g4, 0, none⟩ 2 ∧
(Let (putCells w5 ⟨g4, 0, none⟩ [.int .u32 x2, .int .u16 x3] 0) fun w6 : World =>
 ∃ x7 : Int, ∃ x8 : Int, ∃ x9 : Int, ∃ x10 : Int, ∃ x11 : Int, (5 = 5 ∧ At w6 ⟨yg2, 0, none⟩ [.int .u32 x7, .int .u32 x8, .int .u8 x9, .int .u16 x10, .int .u16 x11]) ∧
(∃ x12 : Int, ∃ x13 : Int, (2 = 2 ∧ At w6 ⟨g4, 0, none⟩ [.int .u32 x12, .int .u16 x13]) ∧
(Calls Tryd.prog 40 #[.agg #[.int .u32 x7, .int .u32 x8, .int .u8 x9, .int .u16 x10, .int .u16 x11], .agg #[.int .u32 x12, .int .u16 x13]] w6 (fun (e15 : Ending) (w14 : World) =>
 ∃ x16 : Int, e15 = .returned (.int .u64 x16) ∧
((if decide (x16 > y7) = true then
(Let (IntKind.i64.wrap (y25 + 1)) fun x17 : Int =>
 Let (IntKind.i64.wrap (y25 + 1)) fun x18 : Int =>
 nat_Pick.l1 n yg2 x17 x16 Y23 yn23 yc23 y24 x18 d0 d1 d3 d4 d5 (.int .i64 y25) (.pointer (some ⟨g4, 0, none⟩)) (.int .u64 x16) d11 d12 d13 d14 d15 d16 d17 d18 d19 d20 d21 d22 (.bool (decide (y25 < y24))) (.int .i64 y25) (.pointer (some (a1.add (y25.toNat * 2)))) (.agg #[.int .u32 x2, .int .u16 x3]) (.agg #[.int .u32 x7, .int .u32 x8, .int .u8 x9, .int .u16 x10, .int .u16 x11]) (.agg #[.int .u32 x12, .int .u16 x13]) (.int .u64 x16) (.int .u64 x16) (.int .u64 y7) (.bool (decide (x16 > y7))) (.int .i64 y25) (.int .i64 x17) (.int .u64 x16) (.int .i64 x18) d40 w14 R)
else
(Let (IntKind.i64.wrap (y25 + 1)) fun x19 : Int =>
 nat_Pick.l1 n yg2 y6 y7 Y23 yn23 yc23 y24 x19 d0 d1 d3 d4 d5 (.int .i64 y25) (.pointer (some ⟨g4, 0, none⟩)) (.int .u64 x16) d11 d12 d13 d14 d15 d16 d17 d18 d19 d20 d21 d22 (.bool (decide (y25 < y24))) (.int .i64 y25) (.pointer (some (a1.add (y25.toNat * 2)))) (.agg #[.int .u32 x2, .int .u16 x3]) (.agg #[.int .u32 x7, .int .u32 x8, .int .u8 x9, .int .u16 x10, .int .u16 x11]) (.agg #[.int .u32 x12, .int .u16 x13]) (.int .u64 x16) (.int .u64 x16) (.int .u64 y7) (.bool (decide (x16 > y7))) d36 d37 d38 (.int .i64 x19) d40 w14 R))))))))))
else
(R (.returned (.tuple #[.int .i64 y6, .int .i64 0])) w))) := by kernel_rfl
def nat_Pick.s (i0_0 : Int) (i0_1 : Int) (i0_2 : Int) (i0_3 : Int) (i0_4 : Int) (I1 : Option Addr) (in1 : Nat) (ic1 : Nat) (w : World) (R : Ending → World → Prop) : Prop :=
(Let (w.heap.size) fun g1 : Nat =>
 Let (w.alloc (.cells #[.int .u32 i0_0, .int .u32 i0_1, .int .u8 i0_2, .int .u16 i0_3, .int .u16 i0_4] 32)) fun w2 : World =>
(if decide ((in1 : Int) > 256) = true then
(R (.returned (.tuple #[.int .i64 0, .int .i64 2])) w2)
else
((if ((in1 : Int) == 0) = true then
(R (.returned (.tuple #[.int .i64 0, .int .i64 232])) w2)
else
(∃ S3 : World → Prop, S3 w2.drew ∧
(Let (w2.drew) fun w4 : World =>
 ∃ x5 : Int, ∃ x6 : Int, ∃ x7 : Int, ∃ x8 : Int, ∃ x9 : Int, (5 = 5 ∧ (∀ w', S3 w' → At w' ⟨g1, 0, none⟩ [.int .u32 x5, .int .u32 x6, .int .u8 x7, .int .u16 x8, .int .u16 x9])) ∧
(∃ a10 : Addr, I1 = some a10 ∧ (0 ≤ (0 : Int) ∧ (0 : Int) < (in1 : Int)) ∧
(∃ x11 : Int, ∃ x12 : Int, (2 = 2 ∧ (∀ w', S3 w' → At w' a10 [.int .u32 x11, .int .u16 x12])) ∧
(Calls Tryd.prog 40 #[.agg #[.int .u32 x5, .int .u32 x6, .int .u8 x7, .int .u16 x8, .int .u16 x9], .agg #[.int .u32 x11, .int .u16 x12]] w4 (fun (e14 : Ending) (w13 : World) =>
 ∃ x15 : Int, e14 = .returned (.int .u64 x15) ∧
(S3 w13 ∧
((0 ≤ (1 : Int) ∧ (1 : Int) ≤ (in1 : Int)) ∧
(∃ n16 : Nat, nat_Pick.l1 n16 g1 0 x15 (cutA I1 1 ic1 2) (in1 - 1) (ic1 - 1) (((in1 - 1) : Nat) : Int) 0 (.agg #[.int .u32 i0_0, .int .u32 i0_1, .int .u8 i0_2, .int .u16 i0_3, .int .u16 i0_4]) (.slice I1 in1 ic1) undef (.int .i64 0) (.int .i64 0) undef undef undef (.slice I1 in1 ic1) (.int .i64 (in1 : Int)) (.bool (decide ((in1 : Int) > 256))) (.slice I1 in1 ic1) (.int .i64 (in1 : Int)) (.bool ((in1 : Int) == 0)) (.agg #[.int .u32 x5, .int .u32 x6, .int .u8 x7, .int .u16 x8, .int .u16 x9]) (.slice I1 in1 ic1) (.pointer (some a10)) (.agg #[.int .u32 x11, .int .u16 x12]) (.int .u64 x15) (.slice I1 in1 ic1) undef undef undef undef undef undef undef undef undef undef undef undef undef undef undef w13 R)))))))))))))
theorem nat_Pick.s_eq (i0_0 : Int) (i0_1 : Int) (i0_2 : Int) (i0_3 : Int) (i0_4 : Int) (I1 : Option Addr) (in1 : Nat) (ic1 : Nat) (w : World) (R : Ending → World → Prop) : seg Tryd.prog entE nat_Pick.ords nat_Pick.joins Tryd.f22 [] [] [] ([.agg #[.int .u32 i0_0, .int .u32 i0_1, .int .u8 i0_2, .int .u16 i0_3, .int .u16 i0_4], .slice I1 in1 ic1] ++ List.replicate (Tryd.f22.ntmps - ([.agg #[.int .u32 i0_0, .int .u32 i0_1, .int .u8 i0_2, .int .u16 i0_3, .int .u16 i0_4], .slice I1 in1 ic1] : List Value).length) undef) w R = nat_Pick.s i0_0 i0_1 i0_2 i0_3 i0_4 I1 in1 ic1 w R := by kernel_rfl
theorem nat_Pick.run {i0_0 : Int} {i0_1 : Int} {i0_2 : Int} {i0_3 : Int} {i0_4 : Int} {I1 : Option Addr} {in1 : Nat} {ic1 : Nat} {w : World} {R : Ending → World → Prop} (h : nat_Pick.s i0_0 i0_1 i0_2 i0_3 i0_4 I1 in1 ic1 w R) : Calls Tryd.prog 22 #[.agg #[.int .u32 i0_0, .int .u32 i0_1, .int .u8 i0_2, .int .u16 i0_3, .int .u16 i0_4], .slice I1 in1 ic1] w R :=
  calls_seg ents mixed Tryd.func22 rfl (by rw [nat_Pick.s_eq]; exact h)
/-! ### nat_weight: function 40 -/
def nat_weight.ords : Nat → Od
  | _ => .nil
def nat_weight.joins (p : List Nat) : Bool := false
def nat_weight.s (i0_0 : Int) (i0_1 : Int) (i0_2 : Int) (i0_3 : Int) (i0_4 : Int) (i1_0 : Int) (i1_1 : Int) (w : World) (R : Ending → World → Prop) : Prop :=
(Let (w.heap.size) fun g1 : Nat =>
 Let (w.alloc (.cells #[.int .u32 i0_0, .int .u32 i0_1, .int .u8 i0_2, .int .u16 i0_3, .int .u16 i0_4] 32)) fun w2 : World =>
 Let (w2.heap.size) fun g3 : Nat =>
 Let (w2.alloc (.cells #[.int .u32 i1_0, .int .u16 i1_1] 28)) fun w4 : World =>
 ∃ x5 : Int, w4.cell? ⟨g1, 0, none⟩ = some (.int .u32 x5) ∧
(Calls Tryd.prog 70 #[.int .u64 14695981039346656037, .int .u32 x5, .int .i64 4] w4 (fun (e7 : Ending) (w6 : World) =>
 ∃ x8 : Int, e7 = .returned (.int .u64 x8) ∧
(∃ x9 : Int, w6.cell? ⟨g1, 1, none⟩ = some (.int .u32 x9) ∧
(Calls Tryd.prog 70 #[.int .u64 x8, .int .u32 x9, .int .i64 4] w6 (fun (e11 : Ending) (w10 : World) =>
 ∃ x12 : Int, e11 = .returned (.int .u64 x12) ∧
(∃ x13 : Int, w10.cell? ⟨g1, 2, none⟩ = some (.int .u8 x13) ∧
(Let (IntKind.u32.wrap x13) fun x14 : Int =>
 Calls Tryd.prog 70 #[.int .u64 x12, .int .u32 x14, .int .i64 1] w10 (fun (e16 : Ending) (w15 : World) =>
 ∃ x17 : Int, e16 = .returned (.int .u64 x17) ∧
(∃ x18 : Int, w15.cell? ⟨g1, 3, none⟩ = some (.int .u16 x18) ∧
(Let (IntKind.u32.wrap x18) fun x19 : Int =>
 Calls Tryd.prog 70 #[.int .u64 x17, .int .u32 x19, .int .i64 2] w15 (fun (e21 : Ending) (w20 : World) =>
 ∃ x22 : Int, e21 = .returned (.int .u64 x22) ∧
(∃ x23 : Int, w20.cell? ⟨g1, 4, none⟩ = some (.int .u16 x23) ∧
(Let (IntKind.u32.wrap x23) fun x24 : Int =>
 Calls Tryd.prog 70 #[.int .u64 x22, .int .u32 x24, .int .i64 2] w20 (fun (e26 : Ending) (w25 : World) =>
 ∃ x27 : Int, e26 = .returned (.int .u64 x27) ∧
(∃ x28 : Int, w25.cell? ⟨g3, 0, none⟩ = some (.int .u32 x28) ∧
(Calls Tryd.prog 70 #[.int .u64 x27, .int .u32 x28, .int .i64 4] w25 (fun (e30 : Ending) (w29 : World) =>
 ∃ x31 : Int, e30 = .returned (.int .u64 x31) ∧
(∃ x32 : Int, w29.cell? ⟨g3, 1, none⟩ = some (.int .u16 x32) ∧
(Let (IntKind.u32.wrap x32) fun x33 : Int =>
 Calls Tryd.prog 70 #[.int .u64 x31, .int .u32 x33, .int .i64 2] w29 (fun (e35 : Ending) (w34 : World) =>
 ∃ x36 : Int, e35 = .returned (.int .u64 x36) ∧
(Let (Int.fdiv x36 4294967296) fun x37 : Int =>
 Let (Go.bits .xor .u64 x36 x37) fun x38 : Int =>
 Let (IntKind.u64.wrap (x38 * 11400714819323198485)) fun x39 : Int =>
 Let (Int.fdiv x39 536870912) fun x40 : Int =>
 Let (Go.bits .xor .u64 x39 x40) fun x41 : Int =>
 R (.returned (.int .u64 x41)) w34))))))))))))))))))))))
theorem nat_weight.s_eq (i0_0 : Int) (i0_1 : Int) (i0_2 : Int) (i0_3 : Int) (i0_4 : Int) (i1_0 : Int) (i1_1 : Int) (w : World) (R : Ending → World → Prop) : seg Tryd.prog entE nat_weight.ords nat_weight.joins Tryd.f40 [] [] [] ([.agg #[.int .u32 i0_0, .int .u32 i0_1, .int .u8 i0_2, .int .u16 i0_3, .int .u16 i0_4], .agg #[.int .u32 i1_0, .int .u16 i1_1]] ++ List.replicate (Tryd.f40.ntmps - ([.agg #[.int .u32 i0_0, .int .u32 i0_1, .int .u8 i0_2, .int .u16 i0_3, .int .u16 i0_4], .agg #[.int .u32 i1_0, .int .u16 i1_1]] : List Value).length) undef) w R = nat_weight.s i0_0 i0_1 i0_2 i0_3 i0_4 i1_0 i1_1 w R := by kernel_rfl
theorem nat_weight.run {i0_0 : Int} {i0_1 : Int} {i0_2 : Int} {i0_3 : Int} {i0_4 : Int} {i1_0 : Int} {i1_1 : Int} {w : World} {R : Ending → World → Prop} (h : nat_weight.s i0_0 i0_1 i0_2 i0_3 i0_4 i1_0 i1_1 w R) : Calls Tryd.prog 40 #[.agg #[.int .u32 i0_0, .int .u32 i0_1, .int .u8 i0_2, .int .u16 i0_3, .int .u16 i0_4], .agg #[.int .u32 i1_0, .int .u16 i1_1]] w R :=
  calls_seg ents mixed Tryd.func40 rfl (by rw [nat_weight.s_eq]; exact h)
/-! ### nat_mixed: function 70 -/
def nat_mixed.ords : Nat → Od
  | _ => .nil
def nat_mixed.joins (p : List Nat) : Bool := false
def nat_mixed.l1 (n : Nat) (y0 : Int) (y1 : Int) (y7 : Int) (d2 d3 d4 d5 d6 d8 d9 d10 d11 d12 d13 d14 d15 d16 d17 d18 d19 d20 d21 d22 d23 : Value) (w : World) (R : Ending → World → Prop) : Prop :=
  lseg Tryd.prog entE nat_mixed.ords nat_mixed.joins Tryd.f70 [1, 0, 1, 0] [0, 1, 0, 1] [] n [.int .u64 y0, .int .u32 y1, d2, d3, d4, d5, d6, .int .i64 y7, d8, d9, d10, d11, d12, d13, d14, d15, d16, d17, d18, d19, d20, d21, d22, d23] w R
abbrev nat_mixed.L1 (n : Nat) (y0 : Int) (y1 : Int) (y7 : Int) (w : World) (R : Ending → World → Prop) : Prop := ∀ d2 d3 d4 d5 d6 d8 d9 d10 d11 d12 d13 d14 d15 d16 d17 d18 d19 d20 d21 d22 d23 : Value, nat_mixed.l1 n y0 y1 y7 d2 d3 d4 d5 d6 d8 d9 d10 d11 d12 d13 d14 d15 d16 d17 d18 d19 d20 d21 d22 d23 w R
theorem nat_mixed.l1_eq (n : Nat) (y0 : Int) (y1 : Int) (y7 : Int) (d2 d3 d4 d5 d6 d8 d9 d10 d11 d12 d13 d14 d15 d16 d17 d18 d19 d20 d21 d22 d23 : Value) (w : World) (R : Ending → World → Prop) : nat_mixed.l1 (n + 1) y0 y1 y7 d2 d3 d4 d5 d6 d8 d9 d10 d11 d12 d13 d14 d15 d16 d17 d18 d19 d20 d21 d22 d23 w R =
((if decide (y7 ≥ 0) = true then
(Let (IntKind.i64.wrap (8 * y7)) fun x1 : Int =>
 0 ≤ x1 ∧
(Let (Int.fdiv y1 ((2 : Int) ^ (min x1.toNat 32))) fun x2 : Int =>
 Let (Go.bits .and .u32 x2 255) fun x3 : Int =>
 Let (IntKind.u64.wrap x3) fun x4 : Int =>
 Let (Go.bits .xor .u64 y0 x4) fun x5 : Int =>
 Let (IntKind.u64.wrap (x5 * 1099511628211)) fun x6 : Int =>
 Let (IntKind.i64.wrap (y7 - 1)) fun x7 : Int =>
 nat_mixed.l1 n x6 y1 x7 d2 d3 d4 d5 d6 d8 d9 (.int .i64 y7) (.bool (decide (y7 ≥ 0))) (.int .i64 y7) (.int .i64 x7) (.int .u64 y0) (.int .u32 y1) (.int .i64 y7) (.int .i64 x1) (.int .u32 x2) (.int .u32 x3) (.int .u64 x4) (.int .u64 x5) (.int .u64 x6) d23 w R))
else
(R (.returned (.int .u64 y0)) w))) := by kernel_rfl
def nat_mixed.s (i0 : Int) (i1 : Int) (i2 : Int) (w : World) (R : Ending → World → Prop) : Prop :=
(Let (IntKind.i64.wrap (i2 - 1)) fun x1 : Int =>
 ∃ n2 : Nat, nat_mixed.l1 n2 i0 i1 x1 (.int .i64 i2) undef undef undef (.int .u64 0) (.int .i64 i2) (.int .i64 x1) undef undef undef undef undef undef undef undef undef undef undef undef undef undef w R)
theorem nat_mixed.s_eq (i0 : Int) (i1 : Int) (i2 : Int) (w : World) (R : Ending → World → Prop) : seg Tryd.prog entE nat_mixed.ords nat_mixed.joins Tryd.f70 [] [] [] ([.int .u64 i0, .int .u32 i1, .int .i64 i2] ++ List.replicate (Tryd.f70.ntmps - ([.int .u64 i0, .int .u32 i1, .int .i64 i2] : List Value).length) undef) w R = nat_mixed.s i0 i1 i2 w R := by kernel_rfl
theorem nat_mixed.run {i0 : Int} {i1 : Int} {i2 : Int} {w : World} {R : Ending → World → Prop} (h : nat_mixed.s i0 i1 i2 w R) : Calls Tryd.prog 70 #[.int .u64 i0, .int .u32 i1, .int .i64 i2] w R :=
  calls_seg ents mixed Tryd.func70 rfl (by rw [nat_mixed.s_eq]; exact h)
end Go.Proofs.YtphbdmafchjjeaaDoorS
