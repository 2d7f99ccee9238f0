/- What functions of the program come to, told by a program of this session out of the translation; the kernel computes each statement out of the code.
   Conditions: none. -/
import Derived.Test.YtleelkkddjldnaaSBase
namespace Go.Proofs.YtleelkkddjldnaaS
open Go Go.Proofs
set_option maxRecDepth 100000
set_option linter.unusedVariables false
/-! ### weftlaw7_same: function 17 -/
def weftlaw7_same.ords : Nat → Od
  | 6 => (.tk 0 (.tk 1 (.tk 2 (.tk 3 (.tk 4 (.tk 5 (.tk 6 (.tk 7 (.tk 8 .nil)))))))))
  | _ => .nil
def weftlaw7_same.joins (p : List Nat) : Bool := false
def weftlaw7_same.l1 (n : Nat) (Y0 : Option Addr) (yn0 : Nat) (yc0 : Nat) (Y1 : Option Addr) (yn1 : Nat) (yc1 : Nat) (y5 : Int) (d2 d3 d4 d6 d7 d8 d9 d10 d11 d12 d13 d14 d15 d16 d17 d18 d19 d20 d21 d22 d23 d24 d25 : Value) (w : World) (R : Ending → World → Prop) : Prop :=
  lseg Try.prog entE weftlaw7_same.ords weftlaw7_same.joins Try.f17 [1, 1, 0, 1, 0] [0, 1, 0, 1, 1] [] n [.slice Y0 yn0 yc0, .slice Y1 yn1 yc1, d2, d3, d4, .int .i64 y5, d6, d7, d8, d9, d10, d11, d12, d13, d14, d15, d16, d17, d18, d19, d20, d21, d22, d23, d24, d25] w R
abbrev weftlaw7_same.L1 (n : Nat) (Y0 : Option Addr) (yn0 : Nat) (yc0 : Nat) (Y1 : Option Addr) (yn1 : Nat) (yc1 : Nat) (y5 : Int) (w : World) (R : Ending → World → Prop) : Prop := ∀ d2 d3 d4 d6 d7 d8 d9 d10 d11 d12 d13 d14 d15 d16 d17 d18 d19 d20 d21 d22 d23 d24 d25 : Value, weftlaw7_same.l1 n Y0 yn0 yc0 Y1 yn1 yc1 y5 d2 d3 d4 d6 d7 d8 d9 d10 d11 d12 d13 d14 d15 d16 d17 d18 d19 d20 d21 d22 d23 d24 d25 w R
theorem weftlaw7_same.l1_eq (n : Nat) (Y0 : Option Addr) (yn0 : Nat) (yc0 : Nat) (Y1 : Option Addr) (yn1 : Nat) (yc1 : Nat) (y5 : Int) (d2 d3 d4 d6 d7 d8 d9 d10 d11 d12 d13 d14 d15 d16 d17 d18 d19 d20 d21 d22 d23 d24 d25 : Value) (w : World) (R : Ending → World → Prop) : weftlaw7_same.l1 (n + 1) Y0 yn0 yc0 Y1 yn1 yc1 y5 d2 d3 d4 d6 d7 d8 d9 d10 d11 d12 d13 d14 d15 d16 d17 d18 d19 d20 d21 d22 d23 d24 d25 w R =
((if decide (y5 < (yn0 : Int)) = true then
(∃ S1 : World → Prop, S1 w.drew ∧
(Let (w.drew) fun w2 : World =>
 ∃ a3 : Addr, Y0 = some a3 ∧ (0 ≤ y5 ∧ y5 < (yn0 : Int)) ∧
(∃ x4 : Int, (∀ w', S1 w' → w'.cell? (a3.add y5.toNat) = some (.int .u8 x4)) ∧
(∃ a5 : Addr, Y1 = some a5 ∧ (0 ≤ y5 ∧ y5 < (yn1 : Int)) ∧
(∃ x6 : Int, (∀ w', S1 w' → w'.cell? (a5.add y5.toNat) = some (.int .u8 x6)) ∧
((if (x4 != x6) = true then
(R (.returned (.bool false)) w2)
else
(Let (IntKind.i64.wrap (y5 + 1)) fun x7 : Int =>
 weftlaw7_same.l1 n Y0 yn0 yc0 Y1 yn1 yc1 x7 d2 d3 d4 d6 d7 d8 d9 d10 (.int .i64 y5) (.slice Y0 yn0 yc0) (.int .i64 (yn0 : Int)) (.bool (decide (y5 < (yn0 : Int)))) (.int .i64 y5) (.int .i64 x7) (.slice Y0 yn0 yc0) (.int .i64 y5) (.pointer (some (a3.add y5.toNat))) (.int .u8 x4) (.slice Y1 yn1 yc1) (.int .i64 y5) (.pointer (some (a5.add y5.toNat))) (.int .u8 x6) (.bool (x4 != x6)) w2 R))))))))
else
(R (.returned (.bool true)) w))) := by kernel_rfl
def weftlaw7_same.s (I0 : Option Addr) (in0 : Nat) (ic0 : Nat) (I1 : Option Addr) (in1 : Nat) (ic1 : Nat) (w : World) (R : Ending → World → Prop) : Prop :=
((if ((in0 : Int) != (in1 : Int)) = true then
(R (.returned (.bool false)) w)
else
(∃ n1 : Nat, weftlaw7_same.l1 n1 I0 in0 ic0 I1 in1 ic1 0 undef undef (.bool false) (.slice I0 in0 ic0) (.int .i64 (in0 : Int)) (.slice I1 in1 ic1) (.int .i64 (in1 : Int)) (.bool ((in0 : Int) != (in1 : Int))) undef undef undef undef undef undef undef undef undef undef undef undef undef undef undef w R)))
theorem weftlaw7_same.s_eq (I0 : Option Addr) (in0 : Nat) (ic0 : Nat) (I1 : Option Addr) (in1 : Nat) (ic1 : Nat) (w : World) (R : Ending → World → Prop) : seg Try.prog entE weftlaw7_same.ords weftlaw7_same.joins Try.f17 [] [] [] ([.slice I0 in0 ic0, .slice I1 in1 ic1] ++ List.replicate (Try.f17.ntmps - ([.slice I0 in0 ic0, .slice I1 in1 ic1] : List Value).length) undef) w R = weftlaw7_same.s I0 in0 ic0 I1 in1 ic1 w R := by kernel_rfl
theorem weftlaw7_same.run {I0 : Option Addr} {in0 : Nat} {ic0 : Nat} {I1 : Option Addr} {in1 : Nat} {ic1 : Nat} {w : World} {R : Ending → World → Prop} (h : weftlaw7_same.s I0 in0 ic0 I1 in1 ic1 w R) : Calls Try.prog 17 #[.slice I0 in0 ic0, .slice I1 in1 ic1] w R :=
  calls_seg ents mixed Try.func17 rfl (by rw [weftlaw7_same.s_eq]; exact h)
/-! ### weftlaw7_roomy: function 19 -/
def weftlaw7_roomy.ords : Nat → Od
  | _ => .nil
def weftlaw7_roomy.joins (p : List Nat) : Bool := false
def weftlaw7_roomy.l1 (n : Nat) (Y3 : Option Addr) (yn3 : Nat) (yc3 : Nat) (y4 : Int) (d0 d1 d2 d5 d6 d7 d8 d9 d10 d11 d12 d13 d14 d15 d16 d17 : Value) (w : World) (R : Ending → World → Prop) : Prop :=
  lseg Try.prog entE weftlaw7_roomy.ords weftlaw7_roomy.joins Try.f19 [1, 1, 0, 1, 0] [0, 1, 0, 1, 1] [] n [d0, d1, d2, .slice Y3 yn3 yc3, .int .i64 y4, d5, d6, d7, d8, d9, d10, d11, d12, d13, d14, d15, d16, d17] w R
abbrev weftlaw7_roomy.L1 (n : Nat) (Y3 : Option Addr) (yn3 : Nat) (yc3 : Nat) (y4 : Int) (w : World) (R : Ending → World → Prop) : Prop := ∀ d0 d1 d2 d5 d6 d7 d8 d9 d10 d11 d12 d13 d14 d15 d16 d17 : Value, weftlaw7_roomy.l1 n Y3 yn3 yc3 y4 d0 d1 d2 d5 d6 d7 d8 d9 d10 d11 d12 d13 d14 d15 d16 d17 w R
theorem weftlaw7_roomy.l1_eq (n : Nat) (Y3 : Option Addr) (yn3 : Nat) (yc3 : Nat) (y4 : Int) (d0 d1 d2 d5 d6 d7 d8 d9 d10 d11 d12 d13 d14 d15 d16 d17 : Value) (w : World) (R : Ending → World → Prop) : weftlaw7_roomy.l1 (n + 1) Y3 yn3 yc3 y4 d0 d1 d2 d5 d6 d7 d8 d9 d10 d11 d12 d13 d14 d15 d16 d17 w R =
((if decide (y4 < 70) = true then
(Let (IntKind.i64.wrap (181 + y4)) fun x1 : Int =>
 Let (IntKind.u8.wrap x1) fun x2 : Int =>
 Let (w.heap.size) fun g3 : Nat =>
 Let (w.alloc (.cells #[.int .u8 x2] 5)) fun w4 : World =>
 AppE w4 1 1 5 [.int .u8 0] Y3 yn3 yc3 (some ⟨g3, 0, none⟩) 1 (fun (A5 : Option Addr) (c6 : Nat) (w7 : World) =>
 Let (IntKind.i64.wrap (y4 + 1)) fun x8 : Int =>
 weftlaw7_roomy.l1 n A5 (yn3 + 1) c6 x8 d0 d1 d2 d5 d6 (.int .i64 y4) (.bool (decide (y4 < 70))) (.int .i64 y4) (.int .i64 x8) (.slice Y3 yn3 yc3) (.int .i64 y4) (.int .i64 x1) (.int .u8 x2) (.slice (some ⟨g3, 0, none⟩) 1 1) (.slice A5 (yn3 + 1) c6) d17 w7 R))
else
(R (.returned (.slice Y3 yn3 yc3)) w))) := by kernel_rfl
def weftlaw7_roomy.s (I0 : Option Addr) (in0 : Nat) (ic0 : Nat) (w : World) (R : Ending → World → Prop) : Prop :=
(AppE w 1 1 5 [.int .u8 0] none 0 0 I0 in0 (fun (A1 : Option Addr) (c2 : Nat) (w3 : World) =>
 ∃ n4 : Nat, weftlaw7_roomy.l1 n4 A1 (0 + in0) c2 0 (.slice I0 in0 ic0) undef (.slice none 0 0) (.slice I0 in0 ic0) (.slice A1 (0 + in0) c2) undef undef undef undef undef undef undef undef undef undef undef w3 R))
theorem weftlaw7_roomy.s_eq (I0 : Option Addr) (in0 : Nat) (ic0 : Nat) (w : World) (R : Ending → World → Prop) : seg Try.prog entE weftlaw7_roomy.ords weftlaw7_roomy.joins Try.f19 [] [] [] ([.slice I0 in0 ic0] ++ List.replicate (Try.f19.ntmps - ([.slice I0 in0 ic0] : List Value).length) undef) w R = weftlaw7_roomy.s I0 in0 ic0 w R := by kernel_rfl
theorem weftlaw7_roomy.run {I0 : Option Addr} {in0 : Nat} {ic0 : Nat} {w : World} {R : Ending → World → Prop} (h : weftlaw7_roomy.s I0 in0 ic0 w R) : Calls Try.prog 19 #[.slice I0 in0 ic0] w R :=
  calls_seg ents mixed Try.func19 rfl (by rw [weftlaw7_roomy.s_eq]; exact h)
/-! ### weftlaw7_kept: function 22 -/
def weftlaw7_kept.ords : Nat → Od
  | _ => .nil
def weftlaw7_kept.joins (p : List Nat) : Bool := false
def weftlaw7_kept.s (I0 : Option Addr) (in0 : Nat) (ic0 : Nat) (I1 : Option Addr) (in1 : Nat) (ic1 : Nat) (w : World) (R : Ending → World → Prop) : Prop :=
(Calls Try.prog 19 #[.slice I1 in1 ic1] w (fun (e2 : Ending) (w1 : World) =>
 ∃ (A3 : Option Addr) (n3_ c3_ : Nat), e2 = .returned (.slice A3 n3_ c3_) ∧
(Calls Try.prog 17 #[.slice I0 in0 ic0, .slice A3 n3_ c3_] w1 (fun (e5 : Ending) (w4 : World) =>
 ∃ b6 : Bool, e5 = .returned (.bool b6) ∧
(R (.returned (.bool b6)) w4)))))
theorem weftlaw7_kept.s_eq (I0 : Option Addr) (in0 : Nat) (ic0 : Nat) (I1 : Option Addr) (in1 : Nat) (ic1 : Nat) (w : World) (R : Ending → World → Prop) : seg Try.prog entE weftlaw7_kept.ords weftlaw7_kept.joins Try.f22 [] [] [] ([.slice I0 in0 ic0, .slice I1 in1 ic1] ++ List.replicate (Try.f22.ntmps - ([.slice I0 in0 ic0, .slice I1 in1 ic1] : List Value).length) undef) w R = weftlaw7_kept.s I0 in0 ic0 I1 in1 ic1 w R := by kernel_rfl
theorem weftlaw7_kept.run {I0 : Option Addr} {in0 : Nat} {ic0 : Nat} {I1 : Option Addr} {in1 : Nat} {ic1 : Nat} {w : World} {R : Ending → World → Prop} (h : weftlaw7_kept.s I0 in0 ic0 I1 in1 ic1 w R) : Calls Try.prog 22 #[.slice I0 in0 ic0, .slice I1 in1 ic1] w R :=
  calls_seg ents mixed Try.func22 rfl (by rw [weftlaw7_kept.s_eq]; exact h)
/-! ### weftlaw7_begun: function 13 -/
def weftlaw7_begun.ords : Nat → Od
  | _ => .nil
def weftlaw7_begun.joins (p : List Nat) : Bool := false
def weftlaw7_begun.s (w : World) (R : Ending → World → Prop) : Prop :=
(Calls Try.prog 15 #[.int .u32 0, .int .u32 0, .agg #[.int .u16 1, .int .u16 2, .slice none 0 0], .bool true] w (fun (e2 : Ending) (w1 : World) =>
 ∃ (A3 : Option Addr) (n3_ c3_ : Nat), ∃ x4 : Int, e2 = .returned (.tuple #[.slice A3 n3_ c3_, .int .i64 x4]) ∧
((if (x4 == 0) = true then
((if ((n3_ : Int) == 8) = true then
(∃ a5 : Addr, A3 = some a5 ∧ (0 ≤ (1 : Int) ∧ (1 : Int) < (n3_ : Int)) ∧
(∃ x6 : Int, w1.cell? (a5.add 1) = some (.int .u8 x6) ∧
((if (x6 == 1) = true then
(∃ a7 : Addr, A3 = some a7 ∧ (0 ≤ (3 : Int) ∧ (3 : Int) < (n3_ : Int)) ∧
(∃ x8 : Int, w1.cell? (a7.add 3) = some (.int .u8 x8) ∧
((if (x8 == 2) = true then
(∃ a9 : Addr, A3 = some a9 ∧ (0 ≤ (5 : Int) ∧ (5 : Int) < (n3_ : Int)) ∧
(∃ x10 : Int, w1.cell? (a9.add 5) = some (.int .u8 x10) ∧
((if (x10 == 8) = true then
(∃ a11 : Addr, A3 = some a11 ∧ (0 ≤ (6 : Int) ∧ (6 : Int) < (n3_ : Int)) ∧
(∃ x12 : Int, w1.cell? (a11.add 6) = some (.int .u8 x12) ∧
((if (x12 == 255) = true then
(∃ a13 : Addr, A3 = some a13 ∧ (0 ≤ (7 : Int) ∧ (7 : Int) < (n3_ : Int)) ∧
(∃ x14 : Int, w1.cell? (a13.add 7) = some (.int .u8 x14) ∧
(R (.returned (.bool (x14 == 219))) w1)))
else
(R (.returned (.bool false)) w1)))))
else
(R (.returned (.bool false)) w1)))))
else
(R (.returned (.bool false)) w1)))))
else
(R (.returned (.bool false)) w1)))))
else
(R (.returned (.bool false)) w1)))
else
(R (.returned (.bool false)) w1)))))
theorem weftlaw7_begun.s_eq (w : World) (R : Ending → World → Prop) : seg Try.prog entE weftlaw7_begun.ords weftlaw7_begun.joins Try.f13 [] [] [] ([] ++ List.replicate (Try.f13.ntmps - ([] : List Value).length) undef) w R = weftlaw7_begun.s  w R := by kernel_rfl
theorem weftlaw7_begun.run {w : World} {R : Ending → World → Prop} (h : weftlaw7_begun.s  w R) : Calls Try.prog 13 #[] w R :=
  calls_seg ents mixed Try.func13 rfl (by rw [weftlaw7_begun.s_eq]; exact h)
/-! ### weftlaw7_datagrams: function 14 -/
def weftlaw7_datagrams.ords : Nat → Od
  | 9 => (.tk 0 (.tk 1 (.tk 2 (.tk 3 (.tk 4 (.tk 5 (.tk 6 (.tk 7 (.tk 8 (.tk 9 (.tk 10 (.two 11 15 (.tk 12 (.tk 13 (.tk 14 (.on 15 (.on 16 (.tk 17 .nil)))))) (.on 11 (.tk 12 (.tk 13 (.tk 14 (.on 16 (.tk 17 .nil))))))))))))))))))
  | _ => .nil
def weftlaw7_datagrams.joins (p : List Nat) : Bool := p == [1, 1, 1, 1, 1, 1, 1] || p == [1, 1, 1, 1, 1, 1, 1, 1, 1]
def weftlaw7_datagrams.j1 (yg1 : Nat) (d0 d2 d3 d4 d5 d6 d7 d8 d9 d10 d11 d12 d13 d14 d15 d16 d17 d18 d19 d20 d21 d22 d23 d24 d25 d26 d27 d28 d29 d30 d31 d32 d33 d34 d35 d36 d37 d38 d39 d40 d41 d42 d43 d44 d45 d46 d47 d48 d49 d50 d51 d52 d53 d54 d55 d56 d57 d58 d59 d60 d61 d62 d63 d64 d65 d66 d67 d68 d69 d70 d71 d72 d73 d74 d75 d76 d77 d78 d79 d80 d81 d82 d83 d84 d85 d86 d87 d88 d89 d90 d91 d92 d93 d94 d95 d96 d97 d98 d99 d100 d101 d102 d103 d104 d105 d106 d107 d108 d109 d110 d111 d112 d113 d114 d115 d116 d117 d118 d119 d120 d121 d122 d123 : Value) (w : World) (R : Ending → World → Prop) : Prop :=
  seg Try.prog entE weftlaw7_datagrams.ords weftlaw7_datagrams.joins Try.f14 [1, 1, 1, 1, 1, 1, 1] [1, 1, 1, 1, 1, 1, 1] [] [d0, .pointer (some ⟨yg1, 0, none⟩), d2, d3, d4, d5, d6, d7, d8, d9, d10, d11, d12, d13, d14, d15, d16, d17, d18, d19, d20, d21, d22, d23, d24, d25, d26, d27, d28, d29, d30, d31, d32, d33, d34, d35, d36, d37, d38, d39, d40, d41, d42, d43, d44, d45, d46, d47, d48, d49, d50, d51, d52, d53, d54, d55, d56, d57, d58, d59, d60, d61, d62, d63, d64, d65, d66, d67, d68, d69, d70, d71, d72, d73, d74, d75, d76, d77, d78, d79, d80, d81, d82, d83, d84, d85, d86, d87, d88, d89, d90, d91, d92, d93, d94, d95, d96, d97, d98, d99, d100, d101, d102, d103, d104, d105, d106, d107, d108, d109, d110, d111, d112, d113, d114, d115, d116, d117, d118, d119, d120, d121, d122, d123] w R
def weftlaw7_datagrams.j2 (yg1 : Nat) (Y3 : Option Addr) (yn3 : Nat) (yc3 : Nat) (y6 : Int) (yg9 : Nat) (d0 d2 d4 d5 d7 d8 d10 d11 d12 d13 d14 d15 d16 d17 d18 d19 d20 d21 d22 d23 d24 d25 d26 d27 d28 d29 d30 d31 d32 d33 d34 d35 d36 d37 d38 d39 d40 d41 d42 d43 d44 d45 d46 d47 d48 d49 d50 d51 d52 d53 d54 d55 d56 d57 d58 d59 d60 d61 d62 d63 d64 d65 d66 d67 d68 d69 d70 d71 d72 d73 d74 d75 d76 d77 d78 d79 d80 d81 d82 d83 d84 d85 d86 d87 d88 d89 d90 d91 d92 d93 d94 d95 d96 d97 d98 d99 d100 d101 d102 d103 d104 d105 d106 d107 d108 d109 d110 d111 d112 d113 d114 d115 d116 d117 d118 d119 d120 d121 d122 d123 : Value) (w : World) (R : Ending → World → Prop) : Prop :=
  seg Try.prog entE weftlaw7_datagrams.ords weftlaw7_datagrams.joins Try.f14 [1, 1, 1, 1, 1, 1, 1, 1, 1] [1, 1, 1, 1, 1, 1, 1, 1, 1] [] [d0, .pointer (some ⟨yg1, 0, none⟩), d2, .slice Y3 yn3 yc3, d4, d5, .int .i64 y6, d7, d8, .pointer (some ⟨yg9, 0, none⟩), d10, d11, d12, d13, d14, d15, d16, d17, d18, d19, d20, d21, d22, d23, d24, d25, d26, d27, d28, d29, d30, d31, d32, d33, d34, d35, d36, d37, d38, d39, d40, d41, d42, d43, d44, d45, d46, d47, d48, d49, d50, d51, d52, d53, d54, d55, d56, d57, d58, d59, d60, d61, d62, d63, d64, d65, d66, d67, d68, d69, d70, d71, d72, d73, d74, d75, d76, d77, d78, d79, d80, d81, d82, d83, d84, d85, d86, d87, d88, d89, d90, d91, d92, d93, d94, d95, d96, d97, d98, d99, d100, d101, d102, d103, d104, d105, d106, d107, d108, d109, d110, d111, d112, d113, d114, d115, d116, d117, d118, d119, d120, d121, d122, d123] w R
abbrev weftlaw7_datagrams.J1 (yg1 : Nat) (w : World) (R : Ending → World → Prop) : Prop := ∀ d0 d2 d3 d4 d5 d6 d7 d8 d9 d10 d11 d12 d13 d14 d15 d16 d17 d18 d19 d20 d21 d22 d23 d24 d25 d26 d27 d28 d29 d30 d31 d32 d33 d34 d35 d36 d37 d38 d39 d40 d41 d42 d43 d44 d45 d46 d47 d48 d49 d50 d51 d52 d53 d54 d55 d56 d57 d58 d59 d60 d61 d62 d63 d64 d65 d66 d67 d68 d69 d70 d71 d72 d73 d74 d75 d76 d77 d78 d79 d80 d81 d82 d83 d84 d85 d86 d87 d88 d89 d90 d91 d92 d93 d94 d95 d96 d97 d98 d99 d100 d101 d102 d103 d104 d105 d106 d107 d108 d109 d110 d111 d112 d113 d114 d115 d116 d117 d118 d119 d120 d121 d122 d123 : Value, weftlaw7_datagrams.j1 yg1 d0 d2 d3 d4 d5 d6 d7 d8 d9 d10 d11 d12 d13 d14 d15 d16 d17 d18 d19 d20 d21 d22 d23 d24 d25 d26 d27 d28 d29 d30 d31 d32 d33 d34 d35 d36 d37 d38 d39 d40 d41 d42 d43 d44 d45 d46 d47 d48 d49 d50 d51 d52 d53 d54 d55 d56 d57 d58 d59 d60 d61 d62 d63 d64 d65 d66 d67 d68 d69 d70 d71 d72 d73 d74 d75 d76 d77 d78 d79 d80 d81 d82 d83 d84 d85 d86 d87 d88 d89 d90 d91 d92 d93 d94 d95 d96 d97 d98 d99 d100 d101 d102 d103 d104 d105 d106 d107 d108 d109 d110 d111 d112 d113 d114 d115 d116 d117 d118 d119 d120 d121 d122 d123 w R
abbrev weftlaw7_datagrams.J2 (yg1 : Nat) (Y3 : Option Addr) (yn3 : Nat) (yc3 : Nat) (y6 : Int) (yg9 : Nat) (w : World) (R : Ending → World → Prop) : Prop := ∀ d0 d2 d4 d5 d7 d8 d10 d11 d12 d13 d14 d15 d16 d17 d18 d19 d20 d21 d22 d23 d24 d25 d26 d27 d28 d29 d30 d31 d32 d33 d34 d35 d36 d37 d38 d39 d40 d41 d42 d43 d44 d45 d46 d47 d48 d49 d50 d51 d52 d53 d54 d55 d56 d57 d58 d59 d60 d61 d62 d63 d64 d65 d66 d67 d68 d69 d70 d71 d72 d73 d74 d75 d76 d77 d78 d79 d80 d81 d82 d83 d84 d85 d86 d87 d88 d89 d90 d91 d92 d93 d94 d95 d96 d97 d98 d99 d100 d101 d102 d103 d104 d105 d106 d107 d108 d109 d110 d111 d112 d113 d114 d115 d116 d117 d118 d119 d120 d121 d122 d123 : Value, weftlaw7_datagrams.j2 yg1 Y3 yn3 yc3 y6 yg9 d0 d2 d4 d5 d7 d8 d10 d11 d12 d13 d14 d15 d16 d17 d18 d19 d20 d21 d22 d23 d24 d25 d26 d27 d28 d29 d30 d31 d32 d33 d34 d35 d36 d37 d38 d39 d40 d41 d42 d43 d44 d45 d46 d47 d48 d49 d50 d51 d52 d53 d54 d55 d56 d57 d58 d59 d60 d61 d62 d63 d64 d65 d66 d67 d68 d69 d70 d71 d72 d73 d74 d75 d76 d77 d78 d79 d80 d81 d82 d83 d84 d85 d86 d87 d88 d89 d90 d91 d92 d93 d94 d95 d96 d97 d98 d99 d100 d101 d102 d103 d104 d105 d106 d107 d108 d109 d110 d111 d112 d113 d114 d115 d116 d117 d118 d119 d120 d121 d122 d123 w R
theorem weftlaw7_datagrams.j1_eq (yg1 : Nat) (d0 d2 d3 d4 d5 d6 d7 d8 d9 d10 d11 d12 d13 d14 d15 d16 d17 d18 d19 d20 d21 d22 d23 d24 d25 d26 d27 d28 d29 d30 d31 d32 d33 d34 d35 d36 d37 d38 d39 d40 d41 d42 d43 d44 d45 d46 d47 d48 d49 d50 d51 d52 d53 d54 d55 d56 d57 d58 d59 d60 d61 d62 d63 d64 d65 d66 d67 d68 d69 d70 d71 d72 d73 d74 d75 d76 d77 d78 d79 d80 d81 d82 d83 d84 d85 d86 d87 d88 d89 d90 d91 d92 d93 d94 d95 d96 d97 d98 d99 d100 d101 d102 d103 d104 d105 d106 d107 d108 d109 d110 d111 d112 d113 d114 d115 d116 d117 d118 d119 d120 d121 d122 d123 : Value) (w : World) (R : Ending → World → Prop) : weftlaw7_datagrams.j1 yg1 d0 d2 d3 d4 d5 d6 d7 d8 d9 d10 d11 d12 d13 d14 d15 d16 d17 d18 d19 d20 d21 d22 d23 d24 d25 d26 d27 d28 d29 d30 d31 d32 d33 d34 d35 d36 d37 d38 d39 d40 d41 d42 d43 d44 d45 d46 d47 d48 d49 d50 d51 d52 d53 d54 d55 d56 d57 d58 d59 d60 d61 d62 d63 d64 d65 d66 d67 d68 d69 d70 d71 d72 d73 d74 d75 d76 d77 d78 d79 d80 d81 d82 d83 d84 d85 d86 d87 d88 d89 d90 d91 d92 d93 d94 d95 d96 d97 d98 d99 d100 d101 d102 d103 d104 d105 d106 d107 d108 d109 d110 d111 d112 d113 d114 d115 d116 d117 d118 d119 d120 d121 d122 d123 w R =
(∃ (A1 : Option Addr) (n1_ c1_ : Nat), w.cell? ⟨yg1, 6, none⟩ = some (.slice A1 n1_ c1_) ∧
(Calls Try.prog 19 #[.slice A1 n1_ c1_] w (fun (e3 : Ending) (w2 : World) =>
 ∃ (A4 : Option Addr) (n4_ c4_ : Nat), e3 = .returned (.slice A4 n4_ c4_) ∧
(∃ S5 : World → Prop, S5 w2.drew ∧
(Let (w2.drew) fun w6 : World =>
 ∃ x7 : Int, (∀ w', S5 w' → w'.cell? ⟨yg1, 0, none⟩ = some (.int .u32 x7)) ∧
(∃ x8 : Int, (∀ w', S5 w' → w'.cell? ⟨yg1, 1, none⟩ = some (.int .u32 x8)) ∧
(∃ (A9 : Option Addr) (n9_ c9_ : Nat), (∀ w', S5 w' → w'.cell? ⟨yg1, 6, none⟩ = some (.slice A9 n9_ c9_)) ∧
((0 ≤ (n4_ : Int) ∧ (n4_ : Int) ≤ (c4_ : Int)) ∧
(0 ≤ (n9_ : Int) ∧ (n9_ : Int) ≤ (n4_ : Int)) ∧
((Calls Try.prog 16 #[.int .u32 x7, .int .u32 x8, .slice A4 n9_ n4_] w6 (fun (e11 : Ending) (w10 : World) =>
 ∃ x12 : Int, ∃ x13 : Int, ∃ (A14 : Option Addr) (n14_ c14_ : Nat), ∃ x15 : Int, e11 = .returned (.tuple #[.agg #[.int .u16 x12, .int .u16 x13, .slice A14 n14_ c14_], .int .i64 x15]) ∧
(S5 w10 ∧
(Let (w10.heap.size) fun g16 : Nat =>
 Let (w10.alloc (.cells #[.int .u16 0, .int .u16 0, .slice none 0 0] 30)) fun w17 : World =>
 S5 w17 ∧
(May w17 ⟨g16, 0, none⟩ 3 ∧
(Let (putCells w17 ⟨g16, 0, none⟩ [.int .u16 x12, .int .u16 x13, .slice A14 n14_ c14_] 0) fun w18 : World =>
 S5 w18 ∧
(Leaf (weftlaw7_datagrams.j2 yg1 A4 n4_ c4_ x15 g16 d0 d2 d4 d5 d7 d8 d10 d11 d12 d13 d14 d15 d16 d17 d18 d19 d20 d21 d22 d23 d24 d25 d26 d27 d28 d29 d30 d31 d32 d33 d34 d35 d36 d37 d38 d39 d40 d41 d42 d43 d44 d45 d46 d47 d48 d49 d50 d51 d52 d53 d54 d55 d56 d57 d58 d59 d60 d61 d62 d63 d64 d65 (.pointer (some ⟨yg1, 6, none⟩)) (.slice A1 n1_ c1_) (.slice A4 n4_ c4_) (.tuple #[.agg #[.int .u16 x12, .int .u16 x13, .slice A14 n14_ c14_], .int .i64 x15]) (.pointer (some ⟨yg1, 0, none⟩)) (.int .u32 x7) (.pointer (some ⟨yg1, 1, none⟩)) (.int .u32 x8) (.slice A4 n4_ c4_) (.pointer (some ⟨yg1, 6, none⟩)) (.slice A9 n9_ c9_) (.int .i64 (n9_ : Int)) (.slice A4 n4_ c4_) (.int .i64 (n4_ : Int)) (.slice A4 n9_ n4_) (.tuple #[.agg #[.int .u16 x12, .int .u16 x13, .slice A14 n14_ c14_], .int .i64 x15]) (.agg #[.int .u16 x12, .int .u16 x13, .slice A14 n14_ c14_]) (.int .i64 x15) d84 d85 d86 d87 d88 d89 d90 d91 d92 d93 d94 d95 d96 d97 d98 d99 d100 d101 d102 d103 d104 d105 d106 d107 d108 d109 d110 d111 d112 d113 d114 d115 d116 d117 d118 d119 d120 d121 d122 d123 w18 R)))))))) ∧
(Let (w6.heap.size) fun g19 : Nat =>
 Let (w6.alloc (.cells #[.int .u16 0, .int .u16 0, .slice none 0 0] 30)) fun w20 : World =>
 S5 w20 ∧
(Calls Try.prog 16 #[.int .u32 x7, .int .u32 x8, .slice A4 n9_ n4_] w20 (fun (e22 : Ending) (w21 : World) =>
 ∃ x23 : Int, ∃ x24 : Int, ∃ (A25 : Option Addr) (n25_ c25_ : Nat), ∃ x26 : Int, e22 = .returned (.tuple #[.agg #[.int .u16 x23, .int .u16 x24, .slice A25 n25_ c25_], .int .i64 x26]) ∧
(S5 w21 ∧
(May w21 ⟨g19, 0, none⟩ 3 ∧
(Let (putCells w21 ⟨g19, 0, none⟩ [.int .u16 x23, .int .u16 x24, .slice A25 n25_ c25_] 0) fun w27 : World =>
 S5 w27 ∧
(Leaf (weftlaw7_datagrams.j2 yg1 A4 n4_ c4_ x26 g19 d0 d2 d4 d5 d7 d8 d10 d11 d12 d13 d14 d15 d16 d17 d18 d19 d20 d21 d22 d23 d24 d25 d26 d27 d28 d29 d30 d31 d32 d33 d34 d35 d36 d37 d38 d39 d40 d41 d42 d43 d44 d45 d46 d47 d48 d49 d50 d51 d52 d53 d54 d55 d56 d57 d58 d59 d60 d61 d62 d63 d64 d65 (.pointer (some ⟨yg1, 6, none⟩)) (.slice A1 n1_ c1_) (.slice A4 n4_ c4_) (.tuple #[.agg #[.int .u16 x23, .int .u16 x24, .slice A25 n25_ c25_], .int .i64 x26]) (.pointer (some ⟨yg1, 0, none⟩)) (.int .u32 x7) (.pointer (some ⟨yg1, 1, none⟩)) (.int .u32 x8) (.slice A4 n4_ c4_) (.pointer (some ⟨yg1, 6, none⟩)) (.slice A9 n9_ c9_) (.int .i64 (n9_ : Int)) (.slice A4 n4_ c4_) (.int .i64 (n4_ : Int)) (.slice A4 n9_ n4_) (.tuple #[.agg #[.int .u16 x23, .int .u16 x24, .slice A25 n25_ c25_], .int .i64 x26]) (.agg #[.int .u16 x23, .int .u16 x24, .slice A25 n25_ c25_]) (.int .i64 x26) d84 d85 d86 d87 d88 d89 d90 d91 d92 d93 d94 d95 d96 d97 d98 d99 d100 d101 d102 d103 d104 d105 d106 d107 d108 d109 d110 d111 d112 d113 d114 d115 d116 d117 d118 d119 d120 d121 d122 d123 w27 R))))))))))))))))) := by kernel_rfl
theorem weftlaw7_datagrams.j2_eq (yg1 : Nat) (Y3 : Option Addr) (yn3 : Nat) (yc3 : Nat) (y6 : Int) (yg9 : Nat) (d0 d2 d4 d5 d7 d8 d10 d11 d12 d13 d14 d15 d16 d17 d18 d19 d20 d21 d22 d23 d24 d25 d26 d27 d28 d29 d30 d31 d32 d33 d34 d35 d36 d37 d38 d39 d40 d41 d42 d43 d44 d45 d46 d47 d48 d49 d50 d51 d52 d53 d54 d55 d56 d57 d58 d59 d60 d61 d62 d63 d64 d65 d66 d67 d68 d69 d70 d71 d72 d73 d74 d75 d76 d77 d78 d79 d80 d81 d82 d83 d84 d85 d86 d87 d88 d89 d90 d91 d92 d93 d94 d95 d96 d97 d98 d99 d100 d101 d102 d103 d104 d105 d106 d107 d108 d109 d110 d111 d112 d113 d114 d115 d116 d117 d118 d119 d120 d121 d122 d123 : Value) (w : World) (R : Ending → World → Prop) : weftlaw7_datagrams.j2 yg1 Y3 yn3 yc3 y6 yg9 d0 d2 d4 d5 d7 d8 d10 d11 d12 d13 d14 d15 d16 d17 d18 d19 d20 d21 d22 d23 d24 d25 d26 d27 d28 d29 d30 d31 d32 d33 d34 d35 d36 d37 d38 d39 d40 d41 d42 d43 d44 d45 d46 d47 d48 d49 d50 d51 d52 d53 d54 d55 d56 d57 d58 d59 d60 d61 d62 d63 d64 d65 d66 d67 d68 d69 d70 d71 d72 d73 d74 d75 d76 d77 d78 d79 d80 d81 d82 d83 d84 d85 d86 d87 d88 d89 d90 d91 d92 d93 d94 d95 d96 d97 d98 d99 d100 d101 d102 d103 d104 d105 d106 d107 d108 d109 d110 d111 d112 d113 d114 d115 d116 d117 d118 d119 d120 d121 d122 d123 w R =
(∃ x1 : Int, w.cell? ⟨yg1, 0, none⟩ = some (.int .u32 x1) ∧
(∃ x2 : Int, w.cell? ⟨yg1, 1, none⟩ = some (.int .u32 x2) ∧
(∃ (A3 : Option Addr) (n3_ c3_ : Nat), w.cell? ⟨yg1, 6, none⟩ = some (.slice A3 n3_ c3_) ∧
(Calls Try.prog 37 #[.int .u32 x1, .int .u32 x2, .slice A3 n3_ c3_] w (fun (e5 : Ending) (w4 : World) =>
 ∃ x6 : Int, ∃ x7 : Int, ∃ (A8 : Option Addr) (n8_ c8_ : Nat), ∃ x9 : Int, e5 = .returned (.tuple #[.agg #[.int .u16 x6, .int .u16 x7, .slice A8 n8_ c8_], .int .i64 x9]) ∧
(Let (w4.heap.size) fun g10 : Nat =>
 Let (w4.alloc (.cells #[.int .u16 0, .int .u16 0, .slice none 0 0] 30)) fun w11 : World =>
 May w11 ⟨g10, 0, none⟩ 3 ∧
(Let (putCells w11 ⟨g10, 0, none⟩ [.int .u16 x6, .int .u16 x7, .slice A8 n8_ c8_] 0) fun w12 : World =>
(if (y6 == x9) = true then
(∃ x13 : Int, w12.cell? ⟨yg9, 0, none⟩ = some (.int .u16 x13) ∧
(∃ x14 : Int, w12.cell? ⟨g10, 0, none⟩ = some (.int .u16 x14) ∧
((if (x13 == x14) = true then
(∃ x15 : Int, w12.cell? ⟨yg9, 1, none⟩ = some (.int .u16 x15) ∧
(∃ x16 : Int, w12.cell? ⟨g10, 1, none⟩ = some (.int .u16 x16) ∧
((if (x15 == x16) = true then
(∃ (A17 : Option Addr) (n17_ c17_ : Nat), w12.cell? ⟨yg9, 2, none⟩ = some (.slice A17 n17_ c17_) ∧
(∃ (A18 : Option Addr) (n18_ c18_ : Nat), w12.cell? ⟨g10, 2, none⟩ = some (.slice A18 n18_ c18_) ∧
(Calls Try.prog 17 #[.slice A17 n17_ c17_, .slice A18 n18_ c18_] w12 (fun (e20 : Ending) (w19 : World) =>
 ∃ b21 : Bool, e20 = .returned (.bool b21) ∧
((if b21 = true then
(∃ (A22 : Option Addr) (n22_ c22_ : Nat), w19.cell? ⟨yg1, 6, none⟩ = some (.slice A22 n22_ c22_) ∧
(Calls Try.prog 22 #[.slice Y3 yn3 yc3, .slice A22 n22_ c22_] w19 (fun (e24 : Ending) (w23 : World) =>
 ∃ b25 : Bool, e24 = .returned (.bool b25) ∧
(R (.returned (.bool b25)) w23))))
else
(R (.returned (.bool false)) w19)))))))
else
(R (.returned (.bool false)) w12)))))
else
(R (.returned (.bool false)) w12)))))
else
(R (.returned (.bool false)) w12))))))))) := by kernel_rfl
def weftlaw7_datagrams.s (i0_0 : Int) (i0_1 : Int) (i0_2 : Int) (i0_3 : Int) (I0_4 : Option Addr) (in0_4 : Nat) (ic0_4 : Nat) (i0_5 : Bool) (I0_6 : Option Addr) (in0_6 : Nat) (ic0_6 : Nat) (w : World) (R : Ending → World → Prop) : Prop :=
(Let (w.heap.size) fun g1 : Nat =>
 Let (w.alloc (.cells #[.int .u32 i0_0, .int .u32 i0_1, .int .u16 i0_2, .int .u16 i0_3, .slice I0_4 in0_4 ic0_4, .bool i0_5, .slice I0_6 in0_6 ic0_6] 32)) fun w2 : World =>
 ∃ (A3 : Option Addr) (n3_ c3_ : Nat), w2.cell? ⟨g1, 4, none⟩ = some (.slice A3 n3_ c3_) ∧
(Calls Try.prog 19 #[.slice A3 n3_ c3_] w2 (fun (e5 : Ending) (w4 : World) =>
 ∃ (A6 : Option Addr) (n6_ c6_ : Nat), e5 = .returned (.slice A6 n6_ c6_) ∧
(∃ x7 : Int, ∃ x8 : Int, ∃ (A9 : Option Addr) (n9_ c9_ : Nat), (3 = 3 ∧ At w4 ⟨g1, 2, none⟩ [.int .u16 x7, .int .u16 x8, .slice A9 n9_ c9_]) ∧
(Let (w4.heap.size) fun g10 : Nat =>
 Let (w4.alloc (.cells #[.int .u16 0, .int .u16 0, .slice none 0 0] 30)) fun w11 : World =>
 May w11 ⟨g10, 0, none⟩ 3 ∧
(Let (putCells w11 ⟨g10, 0, none⟩ [.int .u16 x7, .int .u16 x8, .slice A9 n9_ c9_] 0) fun w12 : World =>
 ∃ (A13 : Option Addr) (n13_ c13_ : Nat), w12.cell? ⟨g1, 4, none⟩ = some (.slice A13 n13_ c13_) ∧
((0 ≤ (n6_ : Int) ∧ (n6_ : Int) ≤ (c6_ : Int)) ∧
(0 ≤ (n13_ : Int) ∧ (n13_ : Int) ≤ (n6_ : Int)) ∧
(MayC w12 ⟨g10, 2, none⟩ ∧
(Let (w12.setCell ⟨g10, 2, none⟩ (.slice A6 n13_ n6_)) fun w14 : World =>
 ∃ x15 : Int, w14.cell? ⟨g1, 0, none⟩ = some (.int .u32 x15) ∧
(∃ x16 : Int, w14.cell? ⟨g1, 1, none⟩ = some (.int .u32 x16) ∧
(∃ x17 : Int, ∃ x18 : Int, ∃ (A19 : Option Addr) (n19_ c19_ : Nat), (3 = 3 ∧ At w14 ⟨g10, 0, none⟩ [.int .u16 x17, .int .u16 x18, .slice A19 n19_ c19_]) ∧
(∃ b20 : Bool, w14.cell? ⟨g1, 5, none⟩ = some (.bool b20) ∧
(Calls Try.prog 15 #[.int .u32 x15, .int .u32 x16, .agg #[.int .u16 x17, .int .u16 x18, .slice A19 n19_ c19_], .bool b20] w14 (fun (e22 : Ending) (w21 : World) =>
 ∃ (A23 : Option Addr) (n23_ c23_ : Nat), ∃ x24 : Int, e22 = .returned (.tuple #[.slice A23 n23_ c23_, .int .i64 x24]) ∧
(∃ x25 : Int, w21.cell? ⟨g1, 0, none⟩ = some (.int .u32 x25) ∧
(∃ x26 : Int, w21.cell? ⟨g1, 1, none⟩ = some (.int .u32 x26) ∧
(∃ x27 : Int, ∃ x28 : Int, ∃ (A29 : Option Addr) (n29_ c29_ : Nat), (3 = 3 ∧ At w21 ⟨g1, 2, none⟩ [.int .u16 x27, .int .u16 x28, .slice A29 n29_ c29_]) ∧
(∃ b30 : Bool, w21.cell? ⟨g1, 5, none⟩ = some (.bool b30) ∧
(Calls Try.prog 36 #[.int .u32 x25, .int .u32 x26, .agg #[.int .u16 x27, .int .u16 x28, .slice A29 n29_ c29_], .bool b30] w21 (fun (e32 : Ending) (w31 : World) =>
 ∃ (A33 : Option Addr) (n33_ c33_ : Nat), ∃ x34 : Int, e32 = .returned (.tuple #[.slice A33 n33_ c33_, .int .i64 x34]) ∧
((if (x24 != x34) = true then
(R (.returned (.bool false)) w31)
else
(Calls Try.prog 17 #[.slice A23 n23_ c23_, .slice A33 n33_ c33_] w31 (fun (e36 : Ending) (w35 : World) =>
 ∃ b37 : Bool, e36 = .returned (.bool b37) ∧
((if (!b37) = true then
(R (.returned (.bool false)) w35)
else
(∃ (A38 : Option Addr) (n38_ c38_ : Nat), w35.cell? ⟨g1, 4, none⟩ = some (.slice A38 n38_ c38_) ∧
(Calls Try.prog 22 #[.slice A6 n6_ c6_, .slice A38 n38_ c38_] w35 (fun (e40 : Ending) (w39 : World) =>
 ∃ b41 : Bool, e40 = .returned (.bool b41) ∧
((if (!b41) = true then
(R (.returned (.bool false)) w39)
else
(Leaf (weftlaw7_datagrams.j1 g1 (.agg #[.int .u32 i0_0, .int .u32 i0_1, .int .u16 i0_2, .int .u16 i0_3, .slice I0_4 in0_4 ic0_4, .bool i0_5, .slice I0_6 in0_6 ic0_6]) (.bool false) (.slice A6 n6_ c6_) (.pointer (some ⟨g10, 0, none⟩)) (.slice A23 n23_ c23_) (.int .i64 x24) (.slice A33 n33_ c33_) (.int .i64 x34) undef undef (.pointer (some ⟨g1, 2, none⟩)) (.pointer (some ⟨g1, 4, none⟩)) (.slice A3 n3_ c3_) (.slice A6 n6_ c6_) (.pointer (some ⟨g1, 2, none⟩)) (.agg #[.int .u16 x7, .int .u16 x8, .slice A9 n9_ c9_]) (.slice A6 n6_ c6_) (.pointer (some ⟨g1, 2, none⟩)) (.pointer (some ⟨g1, 4, none⟩)) (.slice A13 n13_ c13_) (.int .i64 (n13_ : Int)) (.slice A6 n6_ c6_) (.int .i64 (n6_ : Int)) (.slice A6 n13_ n6_) (.pointer (some ⟨g10, 2, none⟩)) (.tuple #[.slice A23 n23_ c23_, .int .i64 x24]) (.pointer (some ⟨g1, 0, none⟩)) (.int .u32 x15) (.pointer (some ⟨g1, 1, none⟩)) (.int .u32 x16) (.agg #[.int .u16 x17, .int .u16 x18, .slice A19 n19_ c19_]) (.pointer (some ⟨g1, 5, none⟩)) (.bool b20) (.tuple #[.slice A23 n23_ c23_, .int .i64 x24]) (.slice A23 n23_ c23_) (.int .i64 x24) (.tuple #[.slice A33 n33_ c33_, .int .i64 x34]) (.pointer (some ⟨g1, 0, none⟩)) (.int .u32 x25) (.pointer (some ⟨g1, 1, none⟩)) (.int .u32 x26) (.pointer (some ⟨g1, 2, none⟩)) (.agg #[.int .u16 x27, .int .u16 x28, .slice A29 n29_ c29_]) (.pointer (some ⟨g1, 5, none⟩)) (.bool b30) (.tuple #[.slice A33 n33_ c33_, .int .i64 x34]) (.slice A33 n33_ c33_) (.int .i64 x34) (.int .i64 x24) (.int .i64 x34) (.bool (x24 != x34)) (.bool false) (.slice A23 n23_ c23_) (.slice A33 n33_ c33_) (.bool b37) (.bool (!b37)) (.bool (!b37)) (.bool false) (.slice A6 n6_ c6_) (.pointer (some ⟨g1, 2, none⟩)) (.pointer (some ⟨g1, 4, none⟩)) (.slice A38 n38_ c38_) (.bool b41) (.bool (!b41)) (.bool (!b41)) undef undef undef undef undef undef undef undef undef undef undef undef undef undef undef undef undef undef undef undef undef undef undef undef undef undef undef undef undef undef undef undef undef undef undef undef undef undef undef undef undef undef undef undef undef undef undef undef undef undef undef undef undef undef undef undef undef undef w39 R)))))))))))))))))))))))))))))))))
theorem weftlaw7_datagrams.s_eq (i0_0 : Int) (i0_1 : Int) (i0_2 : Int) (i0_3 : Int) (I0_4 : Option Addr) (in0_4 : Nat) (ic0_4 : Nat) (i0_5 : Bool) (I0_6 : Option Addr) (in0_6 : Nat) (ic0_6 : Nat) (w : World) (R : Ending → World → Prop) : seg Try.prog entE weftlaw7_datagrams.ords weftlaw7_datagrams.joins Try.f14 [] [] [] ([.agg #[.int .u32 i0_0, .int .u32 i0_1, .int .u16 i0_2, .int .u16 i0_3, .slice I0_4 in0_4 ic0_4, .bool i0_5, .slice I0_6 in0_6 ic0_6]] ++ List.replicate (Try.f14.ntmps - ([.agg #[.int .u32 i0_0, .int .u32 i0_1, .int .u16 i0_2, .int .u16 i0_3, .slice I0_4 in0_4 ic0_4, .bool i0_5, .slice I0_6 in0_6 ic0_6]] : List Value).length) undef) w R = weftlaw7_datagrams.s i0_0 i0_1 i0_2 i0_3 I0_4 in0_4 ic0_4 i0_5 I0_6 in0_6 ic0_6 w R := by kernel_rfl
theorem weftlaw7_datagrams.run {i0_0 : Int} {i0_1 : Int} {i0_2 : Int} {i0_3 : Int} {I0_4 : Option Addr} {in0_4 : Nat} {ic0_4 : Nat} {i0_5 : Bool} {I0_6 : Option Addr} {in0_6 : Nat} {ic0_6 : Nat} {w : World} {R : Ending → World → Prop} (h : weftlaw7_datagrams.s i0_0 i0_1 i0_2 i0_3 I0_4 in0_4 ic0_4 i0_5 I0_6 in0_6 ic0_6 w R) : Calls Try.prog 14 #[.agg #[.int .u32 i0_0, .int .u32 i0_1, .int .u16 i0_2, .int .u16 i0_3, .slice I0_4 in0_4 ic0_4, .bool i0_5, .slice I0_6 in0_6 ic0_6]] w R :=
  calls_seg ents mixed Try.func14 rfl (by rw [weftlaw7_datagrams.s_eq]; exact h)
/-! ### weftlaw7_TunnelDatagrams: function 3 -/
def weftlaw7_TunnelDatagrams.ords : Nat → Od
  | _ => .nil
def weftlaw7_TunnelDatagrams.joins (p : List Nat) : Bool := false
def weftlaw7_TunnelDatagrams.l1 (n : Nat) (Y0 : Option Addr) (yn0 : Nat) (yc0 : Nat) (y4 : Int) (d1 d2 d3 d5 d6 d7 d8 d9 d10 d11 d12 d13 d14 d15 d16 d17 d18 d19 d20 : Value) (w : World) (R : Ending → World → Prop) : Prop :=
  lseg Try.prog entE weftlaw7_TunnelDatagrams.ords weftlaw7_TunnelDatagrams.joins Try.f3 [1, 1, 1, 0, 1, 0] [0, 1, 0, 1, 1, 1] [] n [.slice Y0 yn0 yc0, d1, d2, d3, .int .i64 y4, d5, d6, d7, d8, d9, d10, d11, d12, d13, d14, d15, d16, d17, d18, d19, d20] w R
abbrev weftlaw7_TunnelDatagrams.L1 (n : Nat) (Y0 : Option Addr) (yn0 : Nat) (yc0 : Nat) (y4 : Int) (w : World) (R : Ending → World → Prop) : Prop := ∀ d1 d2 d3 d5 d6 d7 d8 d9 d10 d11 d12 d13 d14 d15 d16 d17 d18 d19 d20 : Value, weftlaw7_TunnelDatagrams.l1 n Y0 yn0 yc0 y4 d1 d2 d3 d5 d6 d7 d8 d9 d10 d11 d12 d13 d14 d15 d16 d17 d18 d19 d20 w R
theorem weftlaw7_TunnelDatagrams.l1_eq (n : Nat) (Y0 : Option Addr) (yn0 : Nat) (yc0 : Nat) (y4 : Int) (d1 d2 d3 d5 d6 d7 d8 d9 d10 d11 d12 d13 d14 d15 d16 d17 d18 d19 d20 : Value) (w : World) (R : Ending → World → Prop) : weftlaw7_TunnelDatagrams.l1 (n + 1) Y0 yn0 yc0 y4 d1 d2 d3 d5 d6 d7 d8 d9 d10 d11 d12 d13 d14 d15 d16 d17 d18 d19 d20 w R =
((if decide (y4 < (yn0 : Int)) = true then
(∃ a1 : Addr, Y0 = some a1 ∧ (0 ≤ y4 ∧ y4 < (yn0 : Int)) ∧
(∃ x2 : Int, ∃ x3 : Int, ∃ x4 : Int, ∃ x5 : Int, ∃ (A6 : Option Addr) (n6_ c6_ : Nat), ∃ b7 : Bool, ∃ (A8 : Option Addr) (n8_ c8_ : Nat), (7 = 7 ∧ At w (a1.add (y4.toNat * 7)) [.int .u32 x2, .int .u32 x3, .int .u16 x4, .int .u16 x5, .slice A6 n6_ c6_, .bool b7, .slice A8 n8_ c8_]) ∧
(Calls Try.prog 14 #[.agg #[.int .u32 x2, .int .u32 x3, .int .u16 x4, .int .u16 x5, .slice A6 n6_ c6_, .bool b7, .slice A8 n8_ c8_]] w (fun (e10 : Ending) (w9 : World) =>
 ∃ b11 : Bool, e10 = .returned (.bool b11) ∧
((if (!b11) = true then
(R (.returned (.bool false)) w9)
else
(Let (IntKind.i64.wrap (y4 + 1)) fun x12 : Int =>
 weftlaw7_TunnelDatagrams.l1 n Y0 yn0 yc0 x12 d1 d2 (.bool b11) d5 d6 d7 (.int .i64 y4) (.slice Y0 yn0 yc0) (.int .i64 (yn0 : Int)) (.bool (decide (y4 < (yn0 : Int)))) (.int .i64 y4) (.int .i64 x12) (.slice Y0 yn0 yc0) (.int .i64 y4) (.pointer (some (a1.add (y4.toNat * 7)))) (.agg #[.int .u32 x2, .int .u32 x3, .int .u16 x4, .int .u16 x5, .slice A6 n6_ c6_, .bool b7, .slice A8 n8_ c8_]) (.bool b11) (.bool b11) (.bool (!b11)) w9 R)))))))
else
(R (.returned (.bool true)) w))) := by kernel_rfl
def weftlaw7_TunnelDatagrams.s (I0 : Option Addr) (in0 : Nat) (ic0 : Nat) (w : World) (R : Ending → World → Prop) : Prop :=
(Calls Try.prog 13 #[] w (fun (e2 : Ending) (w1 : World) =>
 ∃ b3 : Bool, e2 = .returned (.bool b3) ∧
((if (!b3) = true then
(R (.returned (.bool false)) w1)
else
(∃ n4 : Nat, weftlaw7_TunnelDatagrams.l1 n4 I0 in0 ic0 0 undef (.bool false) (.bool b3) (.bool b3) (.bool b3) (.bool (!b3)) undef undef undef undef undef undef undef undef undef undef undef undef undef w1 R)))))
theorem weftlaw7_TunnelDatagrams.s_eq (I0 : Option Addr) (in0 : Nat) (ic0 : Nat) (w : World) (R : Ending → World → Prop) : seg Try.prog entE weftlaw7_TunnelDatagrams.ords weftlaw7_TunnelDatagrams.joins Try.f3 [] [] [] ([.slice I0 in0 ic0] ++ List.replicate (Try.f3.ntmps - ([.slice I0 in0 ic0] : List Value).length) undef) w R = weftlaw7_TunnelDatagrams.s I0 in0 ic0 w R := by kernel_rfl
theorem weftlaw7_TunnelDatagrams.run {I0 : Option Addr} {in0 : Nat} {ic0 : Nat} {w : World} {R : Ending → World → Prop} (h : weftlaw7_TunnelDatagrams.s I0 in0 ic0 w R) : Calls Try.prog 3 #[.slice I0 in0 ic0] w R :=
  calls_seg ents mixed Try.func3 rfl (by rw [weftlaw7_TunnelDatagrams.s_eq]; exact h)
end Go.Proofs.YtleelkkddjldnaaS
