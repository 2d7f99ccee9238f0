/- What functions of the program come to, told by a program of this session out of the translation; the kernel computes each statement out of the code.
   Conditions: none. -/
import Derived.Test.YtphbdmafchjjeaaDoorHSBase
namespace Go.Proofs.YtphbdmafchjjeaaDoorS
open Go Go.Proofs
set_option maxRecDepth 100000
set_option linter.unusedVariables false
/-! ### weftlaw23_same: function 21 -/
def weftlaw23_same.ords : Nat → Od
  | 6 => (.tk 0 (.tk 1 (.tk 2 (.tk 3 (.tk 4 (.tk 5 (.tk 6 (.tk 7 (.tk 8 .nil)))))))))
  | _ => .nil
def weftlaw23_same.joins (p : List Nat) : Bool := false
def weftlaw23_same.l1 (n : Nat) (Y0 : Option Addr) (yn0 : Nat) (yc0 : Nat) (Y1 : Option Addr) (yn1 : Nat) (yc1 : Nat) (y5 : Int) (d2 d3 d4 d6 d7 d8 d9 d10 d11 d12 d13 d14 d15 d16 d17 d18 d19 d20 d21 d22 d23 d24 d25 : Value) (w : World) (R : Ending → World → Prop) : Prop :=
  lseg Tryd.prog entE weftlaw23_same.ords weftlaw23_same.joins Tryd.f21 [1, 1, 0, 1, 0] [0, 1, 0, 1, 1] [] n [.slice Y0 yn0 yc0, .slice Y1 yn1 yc1, d2, d3, d4, .int .i64 y5, d6, d7, d8, d9, d10, d11, d12, d13, d14, d15, d16, d17, d18, d19, d20, d21, d22, d23, d24, d25] w R
abbrev weftlaw23_same.L1 (n : Nat) (Y0 : Option Addr) (yn0 : Nat) (yc0 : Nat) (Y1 : Option Addr) (yn1 : Nat) (yc1 : Nat) (y5 : Int) (w : World) (R : Ending → World → Prop) : Prop := ∀ d2 d3 d4 d6 d7 d8 d9 d10 d11 d12 d13 d14 d15 d16 d17 d18 d19 d20 d21 d22 d23 d24 d25 : Value, weftlaw23_same.l1 n Y0 yn0 yc0 Y1 yn1 yc1 y5 d2 d3 d4 d6 d7 d8 d9 d10 d11 d12 d13 d14 d15 d16 d17 d18 d19 d20 d21 d22 d23 d24 d25 w R
theorem weftlaw23_same.l1_eq (n : Nat) (Y0 : Option Addr) (yn0 : Nat) (yc0 : Nat) (Y1 : Option Addr) (yn1 : Nat) (yc1 : Nat) (y5 : Int) (d2 d3 d4 d6 d7 d8 d9 d10 d11 d12 d13 d14 d15 d16 d17 d18 d19 d20 d21 d22 d23 d24 d25 : Value) (w : World) (R : Ending → World → Prop) : weftlaw23_same.l1 (n + 1) Y0 yn0 yc0 Y1 yn1 yc1 y5 d2 d3 d4 d6 d7 d8 d9 d10 d11 d12 d13 d14 d15 d16 d17 d18 d19 d20 d21 d22 d23 d24 d25 w R =
((if decide (y5 < (yn0 : Int)) = true then
(∃ S1 : World → Prop, S1 w.drew ∧
(Let (w.drew) fun w2 : World =>
 ∃ a3 : Addr, Y0 = some a3 ∧ (0 ≤ y5 ∧ y5 < (yn0 : Int)) ∧
(∃ x4 : Int, (∀ w', S1 w' → w'.cell? (a3.add y5.toNat) = some (.int .u8 x4)) ∧
(∃ a5 : Addr, Y1 = some a5 ∧ (0 ≤ y5 ∧ y5 < (yn1 : Int)) ∧
(∃ x6 : Int, (∀ w', S1 w' → w'.cell? (a5.add y5.toNat) = some (.int .u8 x6)) ∧
((if (x4 != x6) = true then
(R (.returned (.bool false)) w2)
else
(Let (IntKind.i64.wrap (y5 + 1)) fun x7 : Int =>
 weftlaw23_same.l1 n Y0 yn0 yc0 Y1 yn1 yc1 x7 d2 d3 d4 d6 d7 d8 d9 d10 (.int .i64 y5) (.slice Y0 yn0 yc0) (.int .i64 (yn0 : Int)) (.bool (decide (y5 < (yn0 : Int)))) (.int .i64 y5) (.int .i64 x7) (.slice Y0 yn0 yc0) (.int .i64 y5) (.pointer (some (a3.add y5.toNat))) (.int .u8 x4) (.slice Y1 yn1 yc1) (.int .i64 y5) (.pointer (some (a5.add y5.toNat))) (.int .u8 x6) (.bool (x4 != x6)) w2 R))))))))
else
(R (.returned (.bool true)) w))) := by kernel_rfl
def weftlaw23_same.s (I0 : Option Addr) (in0 : Nat) (ic0 : Nat) (I1 : Option Addr) (in1 : Nat) (ic1 : Nat) (w : World) (R : Ending → World → Prop) : Prop :=
((if ((in0 : Int) != (in1 : Int)) = true then
(R (.returned (.bool false)) w)
else
(∃ n1 : Nat, weftlaw23_same.l1 n1 I0 in0 ic0 I1 in1 ic1 0 undef undef (.bool false) (.slice I0 in0 ic0) (.int .i64 (in0 : Int)) (.slice I1 in1 ic1) (.int .i64 (in1 : Int)) (.bool ((in0 : Int) != (in1 : Int))) undef undef undef undef undef undef undef undef undef undef undef undef undef undef undef w R)))
theorem weftlaw23_same.s_eq (I0 : Option Addr) (in0 : Nat) (ic0 : Nat) (I1 : Option Addr) (in1 : Nat) (ic1 : Nat) (w : World) (R : Ending → World → Prop) : seg Tryd.prog entE weftlaw23_same.ords weftlaw23_same.joins Tryd.f21 [] [] [] ([.slice I0 in0 ic0, .slice I1 in1 ic1] ++ List.replicate (Tryd.f21.ntmps - ([.slice I0 in0 ic0, .slice I1 in1 ic1] : List Value).length) undef) w R = weftlaw23_same.s I0 in0 ic0 I1 in1 ic1 w R := by kernel_rfl
theorem weftlaw23_same.run {I0 : Option Addr} {in0 : Nat} {ic0 : Nat} {I1 : Option Addr} {in1 : Nat} {ic1 : Nat} {w : World} {R : Ending → World → Prop} (h : weftlaw23_same.s I0 in0 ic0 I1 in1 ic1 w R) : Calls Tryd.prog 21 #[.slice I0 in0 ic0, .slice I1 in1 ic1] w R :=
  calls_seg ents mixed Tryd.func21 rfl (by rw [weftlaw23_same.s_eq]; exact h)
/-! ### weftlaw23_datagram: function 17 -/
def weftlaw23_datagram.ords : Nat → Od
  | _ => .nil
def weftlaw23_datagram.joins (p : List Nat) : Bool := false
def weftlaw23_datagram.s (w : World) (R : Ending → World → Prop) : Prop :=
(Let (w.heap.size) fun g1 : Nat =>
 Let (w.alloc (.cells #[.int .u8 0, .int .u16 0, .bool false, .bool false, .int .i64 0, .int .u8 0, .int .u8 0, .int .u32 0, .int .u32 0, .slice none 0 0, .slice none 0 0] 45)) fun w2 : World =>
 Let (w2.heap.size) fun g3 : Nat =>
 Let (w2.alloc (.cells #[.int .u8 15, .int .u8 160, .int .u8 0, .int .u8 80, .int .u8 0, .int .u8 10, .int .u8 114, .int .u8 25, .int .u8 104, .int .u8 105] 5)) fun w4 : World =>
 May w4 ⟨g1, 0, none⟩ 11 ∧
(Let (putCells w4 ⟨g1, 0, none⟩ [.int .u8 0, .int .u16 3, .bool false, .bool false, .int .i64 0, .int .u8 64, .int .u8 17, .int .u32 168100098, .int .u32 174063617, .slice none 0 0, .slice (some ⟨g3, 0, none⟩) 10 10] 0) fun w5 : World =>
 ∃ x6 : Int, ∃ x7 : Int, ∃ b8 : Bool, ∃ b9 : Bool, ∃ x10 : Int, ∃ x11 : Int, ∃ x12 : Int, ∃ x13 : Int, ∃ x14 : Int, ∃ (A15 : Option Addr) (n15_ c15_ : Nat), ∃ (A16 : Option Addr) (n16_ c16_ : Nat), (11 = 11 ∧ At w5 ⟨g1, 0, none⟩ [.int .u8 x6, .int .u16 x7, .bool b8, .bool b9, .int .i64 x10, .int .u8 x11, .int .u8 x12, .int .u32 x13, .int .u32 x14, .slice A15 n15_ c15_, .slice A16 n16_ c16_]) ∧
(R (.returned (.agg #[.int .u8 x6, .int .u16 x7, .bool b8, .bool b9, .int .i64 x10, .int .u8 x11, .int .u8 x12, .int .u32 x13, .int .u32 x14, .slice A15 n15_ c15_, .slice A16 n16_ c16_])) w5)))
theorem weftlaw23_datagram.s_eq (w : World) (R : Ending → World → Prop) : seg Tryd.prog entE weftlaw23_datagram.ords weftlaw23_datagram.joins Tryd.f17 [] [] [] ([] ++ List.replicate (Tryd.f17.ntmps - ([] : List Value).length) undef) w R = weftlaw23_datagram.s  w R := by kernel_rfl
theorem weftlaw23_datagram.run {w : World} {R : Ending → World → Prop} (h : weftlaw23_datagram.s  w R) : Calls Tryd.prog 17 #[] w R :=
  calls_seg ents mixed Tryd.func17 rfl (by rw [weftlaw23_datagram.s_eq]; exact h)
/-! ### weftlaw23_service: function 18 -/
def weftlaw23_service.ords : Nat → Od
  | _ => .nil
def weftlaw23_service.joins (p : List Nat) : Bool := false
def weftlaw23_service.s (w : World) (R : Ending → World → Prop) : Prop :=
(Let (w.heap.size) fun g1 : Nat =>
 Let (w.alloc (.cells #[.int .u32 0, .int .u32 0, .int .u8 0, .int .u16 0, .int .u16 0] 32)) fun w2 : World =>
 May w2 ⟨g1, 0, none⟩ 5 ∧
(Let (putCells w2 ⟨g1, 0, none⟩ [.int .u32 168100098, .int .u32 168100354, .int .u8 17, .int .u16 4000, .int .u16 8080] 0) fun w3 : World =>
 ∃ x4 : Int, ∃ x5 : Int, ∃ x6 : Int, ∃ x7 : Int, ∃ x8 : Int, (5 = 5 ∧ At w3 ⟨g1, 0, none⟩ [.int .u32 x4, .int .u32 x5, .int .u8 x6, .int .u16 x7, .int .u16 x8]) ∧
(R (.returned (.agg #[.int .u32 x4, .int .u32 x5, .int .u8 x6, .int .u16 x7, .int .u16 x8])) w3)))
theorem weftlaw23_service.s_eq (w : World) (R : Ending → World → Prop) : seg Tryd.prog entE weftlaw23_service.ords weftlaw23_service.joins Tryd.f18 [] [] [] ([] ++ List.replicate (Tryd.f18.ntmps - ([] : List Value).length) undef) w R = weftlaw23_service.s  w R := by kernel_rfl
theorem weftlaw23_service.run {w : World} {R : Ending → World → Prop} (h : weftlaw23_service.s  w R) : Calls Tryd.prog 18 #[] w R :=
  calls_seg ents mixed Tryd.func18 rfl (by rw [weftlaw23_service.s_eq]; exact h)
/-! ### weftlaw23_first: function 7 -/
def weftlaw23_first.ords : Nat → Od
  | _ => .nil
def weftlaw23_first.joins (p : List Nat) : Bool := p == [1, 1, 1] || p == [1, 1, 1, 1, 1, 1, 1]
def weftlaw23_first.j1 (d0 d1 d2 d3 d4 d5 d6 d7 d8 d9 d10 d11 d12 d13 d14 d15 d16 d17 d18 d19 d20 d21 d22 d23 d24 d25 d26 d27 d28 d29 d30 d31 d32 d33 d34 d35 d36 d37 d38 d39 d40 d41 d42 d43 d44 d45 d46 d47 d48 d49 d50 d51 d52 d53 d54 d55 d56 d57 d58 d59 d60 d61 d62 d63 d64 d65 d66 d67 d68 d69 d70 d71 d72 d73 d74 d75 d76 d77 d78 d79 d80 d81 d82 d83 d84 d85 d86 d87 d88 d89 d90 d91 d92 d93 d94 d95 d96 d97 d98 d99 d100 d101 d102 d103 d104 d105 : Value) (w : World) (R : Ending → World → Prop) : Prop :=
  seg Tryd.prog entE weftlaw23_first.ords weftlaw23_first.joins Tryd.f7 [1, 1, 1] [1, 1, 1] [] [d0, d1, d2, d3, d4, d5, d6, d7, d8, d9, d10, d11, d12, d13, d14, d15, d16, d17, d18, d19, d20, d21, d22, d23, d24, d25, d26, d27, d28, d29, d30, d31, d32, d33, d34, d35, d36, d37, d38, d39, d40, d41, d42, d43, d44, d45, d46, d47, d48, d49, d50, d51, d52, d53, d54, d55, d56, d57, d58, d59, d60, d61, d62, d63, d64, d65, d66, d67, d68, d69, d70, d71, d72, d73, d74, d75, d76, d77, d78, d79, d80, d81, d82, d83, d84, d85, d86, d87, d88, d89, d90, d91, d92, d93, d94, d95, d96, d97, d98, d99, d100, d101, d102, d103, d104, d105] w R
def weftlaw23_first.j2 (y6 : Option Addr) (d0 d1 d2 d3 d4 d5 d7 d8 d9 d10 d11 d12 d13 d14 d15 d16 d17 d18 d19 d20 d21 d22 d23 d24 d25 d26 d27 d28 d29 d30 d31 d32 d33 d34 d35 d36 d37 d38 d39 d40 d41 d42 d43 d44 d45 d46 d47 d48 d49 d50 d51 d52 d53 d54 d55 d56 d57 d58 d59 d60 d61 d62 d63 d64 d65 d66 d67 d68 d69 d70 d71 d72 d73 d74 d75 d76 d77 d78 d79 d80 d81 d82 d83 d84 d85 d86 d87 d88 d89 d90 d91 d92 d93 d94 d95 d96 d97 d98 d99 d100 d101 d102 d103 d104 d105 : Value) (w : World) (R : Ending → World → Prop) : Prop :=
  seg Tryd.prog entE weftlaw23_first.ords weftlaw23_first.joins Tryd.f7 [1, 1, 1, 1, 1, 1, 1] [1, 1, 1, 1, 1, 1, 1] [] [d0, d1, d2, d3, d4, d5, .pointer y6, d7, d8, d9, d10, d11, d12, d13, d14, d15, d16, d17, d18, d19, d20, d21, d22, d23, d24, d25, d26, d27, d28, d29, d30, d31, d32, d33, d34, d35, d36, d37, d38, d39, d40, d41, d42, d43, d44, d45, d46, d47, d48, d49, d50, d51, d52, d53, d54, d55, d56, d57, d58, d59, d60, d61, d62, d63, d64, d65, d66, d67, d68, d69, d70, d71, d72, d73, d74, d75, d76, d77, d78, d79, d80, d81, d82, d83, d84, d85, d86, d87, d88, d89, d90, d91, d92, d93, d94, d95, d96, d97, d98, d99, d100, d101, d102, d103, d104, d105] w R
abbrev weftlaw23_first.J1 (w : World) (R : Ending → World → Prop) : Prop := ∀ d0 d1 d2 d3 d4 d5 d6 d7 d8 d9 d10 d11 d12 d13 d14 d15 d16 d17 d18 d19 d20 d21 d22 d23 d24 d25 d26 d27 d28 d29 d30 d31 d32 d33 d34 d35 d36 d37 d38 d39 d40 d41 d42 d43 d44 d45 d46 d47 d48 d49 d50 d51 d52 d53 d54 d55 d56 d57 d58 d59 d60 d61 d62 d63 d64 d65 d66 d67 d68 d69 d70 d71 d72 d73 d74 d75 d76 d77 d78 d79 d80 d81 d82 d83 d84 d85 d86 d87 d88 d89 d90 d91 d92 d93 d94 d95 d96 d97 d98 d99 d100 d101 d102 d103 d104 d105 : Value, weftlaw23_first.j1 d0 d1 d2 d3 d4 d5 d6 d7 d8 d9 d10 d11 d12 d13 d14 d15 d16 d17 d18 d19 d20 d21 d22 d23 d24 d25 d26 d27 d28 d29 d30 d31 d32 d33 d34 d35 d36 d37 d38 d39 d40 d41 d42 d43 d44 d45 d46 d47 d48 d49 d50 d51 d52 d53 d54 d55 d56 d57 d58 d59 d60 d61 d62 d63 d64 d65 d66 d67 d68 d69 d70 d71 d72 d73 d74 d75 d76 d77 d78 d79 d80 d81 d82 d83 d84 d85 d86 d87 d88 d89 d90 d91 d92 d93 d94 d95 d96 d97 d98 d99 d100 d101 d102 d103 d104 d105 w R
abbrev weftlaw23_first.J2 (y6 : Option Addr) (w : World) (R : Ending → World → Prop) : Prop := ∀ d0 d1 d2 d3 d4 d5 d7 d8 d9 d10 d11 d12 d13 d14 d15 d16 d17 d18 d19 d20 d21 d22 d23 d24 d25 d26 d27 d28 d29 d30 d31 d32 d33 d34 d35 d36 d37 d38 d39 d40 d41 d42 d43 d44 d45 d46 d47 d48 d49 d50 d51 d52 d53 d54 d55 d56 d57 d58 d59 d60 d61 d62 d63 d64 d65 d66 d67 d68 d69 d70 d71 d72 d73 d74 d75 d76 d77 d78 d79 d80 d81 d82 d83 d84 d85 d86 d87 d88 d89 d90 d91 d92 d93 d94 d95 d96 d97 d98 d99 d100 d101 d102 d103 d104 d105 : Value, weftlaw23_first.j2 y6 d0 d1 d2 d3 d4 d5 d7 d8 d9 d10 d11 d12 d13 d14 d15 d16 d17 d18 d19 d20 d21 d22 d23 d24 d25 d26 d27 d28 d29 d30 d31 d32 d33 d34 d35 d36 d37 d38 d39 d40 d41 d42 d43 d44 d45 d46 d47 d48 d49 d50 d51 d52 d53 d54 d55 d56 d57 d58 d59 d60 d61 d62 d63 d64 d65 d66 d67 d68 d69 d70 d71 d72 d73 d74 d75 d76 d77 d78 d79 d80 d81 d82 d83 d84 d85 d86 d87 d88 d89 d90 d91 d92 d93 d94 d95 d96 d97 d98 d99 d100 d101 d102 d103 d104 d105 w R
theorem weftlaw23_first.j1_eq (d0 d1 d2 d3 d4 d5 d6 d7 d8 d9 d10 d11 d12 d13 d14 d15 d16 d17 d18 d19 d20 d21 d22 d23 d24 d25 d26 d27 d28 d29 d30 d31 d32 d33 d34 d35 d36 d37 d38 d39 d40 d41 d42 d43 d44 d45 d46 d47 d48 d49 d50 d51 d52 d53 d54 d55 d56 d57 d58 d59 d60 d61 d62 d63 d64 d65 d66 d67 d68 d69 d70 d71 d72 d73 d74 d75 d76 d77 d78 d79 d80 d81 d82 d83 d84 d85 d86 d87 d88 d89 d90 d91 d92 d93 d94 d95 d96 d97 d98 d99 d100 d101 d102 d103 d104 d105 : Value) (w : World) (R : Ending → World → Prop) : weftlaw23_first.j1 d0 d1 d2 d3 d4 d5 d6 d7 d8 d9 d10 d11 d12 d13 d14 d15 d16 d17 d18 d19 d20 d21 d22 d23 d24 d25 d26 d27 d28 d29 d30 d31 d32 d33 d34 d35 d36 d37 d38 d39 d40 d41 d42 d43 d44 d45 d46 d47 d48 d49 d50 d51 d52 d53 d54 d55 d56 d57 d58 d59 d60 d61 d62 d63 d64 d65 d66 d67 d68 d69 d70 d71 d72 d73 d74 d75 d76 d77 d78 d79 d80 d81 d82 d83 d84 d85 d86 d87 d88 d89 d90 d91 d92 d93 d94 d95 d96 d97 d98 d99 d100 d101 d102 d103 d104 d105 w R =
(Let (w.heap.size) fun g1 : Nat =>
 Let (w.alloc (.cells #[.int .u32 168100354, .int .u16 8080, .int .u32 168100355, .int .u16 8080, .int .u32 168100610, .int .u16 8080] 28)) fun w2 : World =>
 Calls Tryd.prog 22 #[.agg #[.int .u32 168100098, .int .u32 174063617, .int .u8 17, .int .u16 4000, .int .u16 80], .slice (some ⟨g1, 0, none⟩) 3 3] w2 (fun (e4 : Ending) (w3 : World) =>
 ∃ x5 : Int, ∃ x6 : Int, e4 = .returned (.tuple #[.int .i64 x5, .int .i64 x6]) ∧
(Calls Tryd.prog 10 #[.int .u16 5, .int .u16 6] w3 (fun (e8 : Ending) (w7 : World) =>
 ∃ p9 : Option Addr, ∃ x10 : Int, e8 = .returned (.tuple #[.pointer p9, .int .i64 x10]) ∧
((if (x6 != 0) = true then
(R (.returned (.bool false)) w7)
else
((if (x5 != 2) = true then
(R (.returned (.bool false)) w7)
else
((if p9.isNone = true then
(R (.returned (.bool false)) w7)
else
((if (x10 != 0) = true then
(R (.returned (.bool false)) w7)
else
(Leaf (weftlaw23_first.j2 p9 d0 d1 d2 (.slice (some ⟨g1, 0, none⟩) 3 3) (.int .i64 x5) (.int .i64 x6) (.int .i64 x10) d8 d9 d10 d11 d12 d13 d14 d15 d16 d17 d18 d19 d20 d21 d22 d23 d24 d25 d26 d27 d28 d29 d30 d31 d32 d33 d34 (.agg #[.int .u32 168100354, .int .u16 8080]) (.agg #[.int .u32 168100355, .int .u16 8080]) (.agg #[.int .u32 168100610, .int .u16 8080]) (.slice (some ⟨g1, 0, none⟩) 3 3) (.tuple #[.int .i64 x5, .int .i64 x6]) (.agg #[.int .u32 168100098, .int .u32 174063617, .int .u8 17, .int .u16 4000, .int .u16 80]) (.slice (some ⟨g1, 0, none⟩) 3 3) (.tuple #[.int .i64 x5, .int .i64 x6]) (.int .i64 x5) (.int .i64 x6) (.tuple #[.pointer p9, .int .i64 x10]) (.tuple #[.pointer p9, .int .i64 x10]) (.pointer p9) (.int .i64 x10) (.int .i64 x6) (.bool (x6 != 0)) (.bool false) (.int .i64 x5) (.bool (x5 != 2)) (.bool (x5 != 2)) (.bool false) (.pointer p9) (.bool p9.isNone) (.bool p9.isNone) (.bool false) (.int .i64 x10) (.bool (x10 != 0)) (.bool (x10 != 0)) d63 d64 d65 d66 d67 d68 d69 d70 d71 d72 d73 d74 d75 d76 d77 d78 d79 d80 d81 d82 d83 d84 d85 d86 d87 d88 d89 d90 d91 d92 d93 d94 d95 d96 d97 d98 d99 d100 d101 d102 d103 d104 d105 w7 R)))))))))))))) := by kernel_rfl
theorem weftlaw23_first.j2_eq (y6 : Option Addr) (d0 d1 d2 d3 d4 d5 d7 d8 d9 d10 d11 d12 d13 d14 d15 d16 d17 d18 d19 d20 d21 d22 d23 d24 d25 d26 d27 d28 d29 d30 d31 d32 d33 d34 d35 d36 d37 d38 d39 d40 d41 d42 d43 d44 d45 d46 d47 d48 d49 d50 d51 d52 d53 d54 d55 d56 d57 d58 d59 d60 d61 d62 d63 d64 d65 d66 d67 d68 d69 d70 d71 d72 d73 d74 d75 d76 d77 d78 d79 d80 d81 d82 d83 d84 d85 d86 d87 d88 d89 d90 d91 d92 d93 d94 d95 d96 d97 d98 d99 d100 d101 d102 d103 d104 d105 : Value) (w : World) (R : Ending → World → Prop) : weftlaw23_first.j2 y6 d0 d1 d2 d3 d4 d5 d7 d8 d9 d10 d11 d12 d13 d14 d15 d16 d17 d18 d19 d20 d21 d22 d23 d24 d25 d26 d27 d28 d29 d30 d31 d32 d33 d34 d35 d36 d37 d38 d39 d40 d41 d42 d43 d44 d45 d46 d47 d48 d49 d50 d51 d52 d53 d54 d55 d56 d57 d58 d59 d60 d61 d62 d63 d64 d65 d66 d67 d68 d69 d70 d71 d72 d73 d74 d75 d76 d77 d78 d79 d80 d81 d82 d83 d84 d85 d86 d87 d88 d89 d90 d91 d92 d93 d94 d95 d96 d97 d98 d99 d100 d101 d102 d103 d104 d105 w R =
(Calls Tryd.prog 11 #[.pointer y6, .int .u8 17, .int .u16 6] w (fun (e2 : Ending) (w1 : World) =>
 ∃ x3 : Int, ∃ x4 : Int, e2 = .returned (.tuple #[.int .u16 x3, .int .i64 x4]) ∧
(Calls Tryd.prog 11 #[.pointer y6, .int .u8 17, .int .u16 6] w1 (fun (e6 : Ending) (w5 : World) =>
 ∃ x7 : Int, ∃ x8 : Int, e6 = .returned (.tuple #[.int .u16 x7, .int .i64 x8]) ∧
(Calls Tryd.prog 11 #[.pointer y6, .int .u8 17, .int .u16 6] w5 (fun (e10 : Ending) (w9 : World) =>
 ∃ x11 : Int, ∃ x12 : Int, e10 = .returned (.tuple #[.int .u16 x11, .int .i64 x12]) ∧
((if (x3 == 6) = true then
((if (x4 == 0) = true then
((if (x7 == 5) = true then
((if (x8 == 0) = true then
((if (x12 == 231) = true then
(Calls Tryd.prog 15 #[.pointer y6, .int .u8 17] w9 (fun (e14 : Ending) (w13 : World) =>
 ∃ x15 : Int, e14 = .returned (.int .i64 x15) ∧
((if (x15 == 2) = true then
(Calls Tryd.prog 15 #[.pointer y6, .int .u8 6] w13 (fun (e17 : Ending) (w16 : World) =>
 ∃ x18 : Int, e17 = .returned (.int .i64 x18) ∧
(R (.returned (.bool (x18 == 0))) w16)))
else
(R (.returned (.bool false)) w13)))))
else
(R (.returned (.bool false)) w9)))
else
(R (.returned (.bool false)) w9)))
else
(R (.returned (.bool false)) w9)))
else
(R (.returned (.bool false)) w9)))
else
(R (.returned (.bool false)) w9))))))))) := by kernel_rfl
def weftlaw23_first.s (w : World) (R : Ending → World → Prop) : Prop :=
(Calls Tryd.prog 17 #[] w (fun (e2 : Ending) (w1 : World) =>
 ∃ x3 : Int, ∃ x4 : Int, ∃ b5 : Bool, ∃ b6 : Bool, ∃ x7 : Int, ∃ x8 : Int, ∃ x9 : Int, ∃ x10 : Int, ∃ x11 : Int, ∃ (A12 : Option Addr) (n12_ c12_ : Nat), ∃ (A13 : Option Addr) (n13_ c13_ : Nat), e2 = .returned (.agg #[.int .u8 x3, .int .u16 x4, .bool b5, .bool b6, .int .i64 x7, .int .u8 x8, .int .u8 x9, .int .u32 x10, .int .u32 x11, .slice A12 n12_ c12_, .slice A13 n13_ c13_]) ∧
(Calls Tryd.prog 18 #[] w1 (fun (e15 : Ending) (w14 : World) =>
 ∃ x16 : Int, ∃ x17 : Int, ∃ x18 : Int, ∃ x19 : Int, ∃ x20 : Int, e15 = .returned (.agg #[.int .u32 x16, .int .u32 x17, .int .u8 x18, .int .u16 x19, .int .u16 x20]) ∧
(Calls Tryd.prog 20 #[.agg #[.int .u8 x3, .int .u16 x4, .bool b5, .bool b6, .int .i64 x7, .int .u8 x8, .int .u8 x9, .int .u32 x10, .int .u32 x11, .slice A12 n12_ c12_, .slice A13 n13_ c13_], .agg #[.int .u32 x16, .int .u32 x17, .int .u8 x18, .int .u16 x19, .int .u16 x20]] w14 (fun (e22 : Ending) (w21 : World) =>
 ∃ x23 : Int, ∃ x24 : Int, ∃ b25 : Bool, ∃ b26 : Bool, ∃ x27 : Int, ∃ x28 : Int, ∃ x29 : Int, ∃ x30 : Int, ∃ x31 : Int, ∃ (A32 : Option Addr) (n32_ c32_ : Nat), ∃ (A33 : Option Addr) (n33_ c33_ : Nat), ∃ x34 : Int, e22 = .returned (.tuple #[.agg #[.int .u8 x23, .int .u16 x24, .bool b25, .bool b26, .int .i64 x27, .int .u8 x28, .int .u8 x29, .int .u32 x30, .int .u32 x31, .slice A32 n32_ c32_, .slice A33 n33_ c33_], .int .i64 x34]) ∧
(Let (w21.heap.size) fun g35 : Nat =>
 Let (w21.alloc (.cells #[.int .u8 0, .int .u16 0, .bool false, .bool false, .int .i64 0, .int .u8 0, .int .u8 0, .int .u32 0, .int .u32 0, .slice none 0 0, .slice none 0 0] 45)) fun w36 : World =>
 May w36 ⟨g35, 0, none⟩ 11 ∧
(Let (putCells w36 ⟨g35, 0, none⟩ [.int .u8 x23, .int .u16 x24, .bool b25, .bool b26, .int .i64 x27, .int .u8 x28, .int .u8 x29, .int .u32 x30, .int .u32 x31, .slice A32 n32_ c32_, .slice A33 n33_ c33_] 0) fun w37 : World =>
(if (x34 != 0) = true then
(R (.returned (.bool false)) w37)
else
(∃ x38 : Int, w37.cell? ⟨g35, 8, none⟩ = some (.int .u32 x38) ∧
((if (x38 != 168100354) = true then
(R (.returned (.bool false)) w37)
else
(∃ (A39 : Option Addr) (n39_ c39_ : Nat), w37.cell? ⟨g35, 10, none⟩ = some (.slice A39 n39_ c39_) ∧
(Let (w37.heap.size) fun g40 : Nat =>
 Let (w37.alloc (.cells #[.int .u8 15, .int .u8 160, .int .u8 31, .int .u8 144, .int .u8 0, .int .u8 10, .int .u8 81, .int .u8 51, .int .u8 104, .int .u8 105] 5)) fun w41 : World =>
 Calls Tryd.prog 21 #[.slice A39 n39_ c39_, .slice (some ⟨g40, 0, none⟩) 10 10] w41 (fun (e43 : Ending) (w42 : World) =>
 ∃ b44 : Bool, e43 = .returned (.bool b44) ∧
((if (!b44) = true then
(R (.returned (.bool false)) w42)
else
(Leaf (weftlaw23_first.j1 (.bool false) (.pointer (some ⟨g35, 0, none⟩)) (.int .i64 x34) undef undef undef undef undef undef undef undef undef undef undef (.tuple #[.agg #[.int .u8 x23, .int .u16 x24, .bool b25, .bool b26, .int .i64 x27, .int .u8 x28, .int .u8 x29, .int .u32 x30, .int .u32 x31, .slice A32 n32_ c32_, .slice A33 n33_ c33_], .int .i64 x34]) (.agg #[.int .u8 x3, .int .u16 x4, .bool b5, .bool b6, .int .i64 x7, .int .u8 x8, .int .u8 x9, .int .u32 x10, .int .u32 x11, .slice A12 n12_ c12_, .slice A13 n13_ c13_]) (.agg #[.int .u32 x16, .int .u32 x17, .int .u8 x18, .int .u16 x19, .int .u16 x20]) (.tuple #[.agg #[.int .u8 x23, .int .u16 x24, .bool b25, .bool b26, .int .i64 x27, .int .u8 x28, .int .u8 x29, .int .u32 x30, .int .u32 x31, .slice A32 n32_ c32_, .slice A33 n33_ c33_], .int .i64 x34]) (.agg #[.int .u8 x23, .int .u16 x24, .bool b25, .bool b26, .int .i64 x27, .int .u8 x28, .int .u8 x29, .int .u32 x30, .int .u32 x31, .slice A32 n32_ c32_, .slice A33 n33_ c33_]) (.int .i64 x34) (.int .i64 x34) (.bool (x34 != 0)) (.bool false) (.pointer (some ⟨g35, 0, none⟩)) (.pointer (some ⟨g35, 8, none⟩)) (.int .u32 x38) (.bool (x38 != 168100354)) (.bool (x38 != 168100354)) (.bool false) (.pointer (some ⟨g35, 10, none⟩)) (.slice A39 n39_ c39_) (.slice (some ⟨g40, 0, none⟩) 10 10) (.bool b44) (.bool (!b44)) (.bool (!b44)) undef undef undef undef undef undef undef undef undef undef undef undef undef undef undef undef undef undef undef undef undef undef undef undef undef undef undef undef undef undef undef undef undef undef undef undef undef undef undef undef undef undef undef undef undef undef undef undef undef undef undef undef undef undef undef undef undef undef undef undef undef undef undef undef undef undef undef undef undef undef undef w42 R)))))))))))))))))))
theorem weftlaw23_first.s_eq (w : World) (R : Ending → World → Prop) : seg Tryd.prog entE weftlaw23_first.ords weftlaw23_first.joins Tryd.f7 [] [] [] ([] ++ List.replicate (Tryd.f7.ntmps - ([] : List Value).length) undef) w R = weftlaw23_first.s  w R := by kernel_rfl
theorem weftlaw23_first.run {w : World} {R : Ending → World → Prop} (h : weftlaw23_first.s  w R) : Calls Tryd.prog 7 #[] w R :=
  calls_seg ents mixed Tryd.func7 rfl (by rw [weftlaw23_first.s_eq]; exact h)
end Go.Proofs.YtphbdmafchjjeaaDoorS
