/- What functions of the program come to, told by a program of this session out of the translation; the kernel computes each statement out of the code.
   Conditions: none. -/
import Derived.Test.YtfjbpeadhaekbaaDoorSBase
namespace Go.Proofs.YtfjbpeadhaekbaaDoorS
open Go Go.Proofs
set_option maxRecDepth 100000
set_option linter.unusedVariables false
/-! ### weftref6_faulty: function 76 -/
def weftref6_faulty.ords : Nat → List (Nat × Bool)
  | _ => []
def weftref6_faulty.joins (p : List Nat) : Bool := false
def weftref6_faulty.s (i0 : Int) (w : World) (R : Ending → World → Prop) : Prop :=
((if (i0 == 3) = true then
(R (.returned (.bool true)) w)
else
((if (i0 == 4) = true then
(R (.returned (.bool true)) w)
else
((if (i0 == 5) = true then
(R (.returned (.bool true)) w)
else
((if (i0 == 11) = true then
(R (.returned (.bool true)) w)
else
(R (.returned (.bool (i0 == 12))) w)))))))))
theorem weftref6_faulty.s_eq (i0 : Int) (w : World) (R : Ending → World → Prop) : seg Tryd.prog entE weftref6_faulty.ords weftref6_faulty.joins Tryd.f76 [] [] [] ([.int .u8 i0] ++ List.replicate (Tryd.f76.ntmps - ([.int .u8 i0] : List Value).length) undef) w R = weftref6_faulty.s i0 w R := by kernel_rfl
theorem weftref6_faulty.run {i0 : Int} {w : World} {R : Ending → World → Prop} (h : weftref6_faulty.s i0 w R) : Calls Tryd.prog 76 #[.int .u8 i0] w R :=
  calls_seg ents mixed Tryd.func76 rfl (by rw [weftref6_faulty.s_eq]; exact h)
/-! ### weftref6_Plain: function 67 -/
def weftref6_Plain.ords : Nat → List (Nat × Bool)
  | _ => []
def weftref6_Plain.joins (p : List Nat) : Bool := false
def weftref6_Plain.s (i0 : Int) (w : World) (R : Ending → World → Prop) : Prop :=
(Let (IntKind.i64.wrap i0) fun x1 : Int =>
 Let (IntKind.i64.wrap (Int.tdiv x1 16777216)) fun x2 : Int =>
(if (x2 != 0) = true then
((if (x2 != 127) = true then
(R (.returned (.bool (decide (x2 < 224)))) w)
else
(R (.returned (.bool false)) w)))
else
(R (.returned (.bool false)) w)))
theorem weftref6_Plain.s_eq (i0 : Int) (w : World) (R : Ending → World → Prop) : seg Tryd.prog entE weftref6_Plain.ords weftref6_Plain.joins Tryd.f67 [] [] [] ([.int .u32 i0] ++ List.replicate (Tryd.f67.ntmps - ([.int .u32 i0] : List Value).length) undef) w R = weftref6_Plain.s i0 w R := by kernel_rfl
theorem weftref6_Plain.run {i0 : Int} {w : World} {R : Ending → World → Prop} (h : weftref6_Plain.s i0 w R) : Calls Tryd.prog 67 #[.int .u32 i0] w R :=
  calls_seg ents mixed Tryd.func67 rfl (by rw [weftref6_Plain.s_eq]; exact h)
/-! ### weftref6_clone: function 73 -/
def weftref6_clone.ords : Nat → List (Nat × Bool)
  | _ => []
def weftref6_clone.joins (p : List Nat) : Bool := false
def weftref6_clone.l1 (n : Nat) (Y0 : Option Addr) (yn0 : Nat) (yc0 : Nat) (Y3 : Option Addr) (yn3 : Nat) (yc3 : Nat) (y4 : Int) (d1 d2 d5 d6 d7 d8 d9 d10 d11 d12 d13 d14 d15 d16 d17 d18 : Value) (w : World) (R : Ending → World → Prop) : Prop :=
  lseg Tryd.prog entE weftref6_clone.ords weftref6_clone.joins Tryd.f73 [1, 1, 0, 1, 0] [0, 1, 0, 1, 1] [] n [.slice Y0 yn0 yc0, d1, d2, .slice Y3 yn3 yc3, .int .i64 y4, d5, d6, d7, d8, d9, d10, d11, d12, d13, d14, d15, d16, d17, d18] w R
abbrev weftref6_clone.L1 (n : Nat) (Y0 : Option Addr) (yn0 : Nat) (yc0 : Nat) (Y3 : Option Addr) (yn3 : Nat) (yc3 : Nat) (y4 : Int) (w : World) (R : Ending → World → Prop) : Prop := ∀ d1 d2 d5 d6 d7 d8 d9 d10 d11 d12 d13 d14 d15 d16 d17 d18 : Value, weftref6_clone.l1 n Y0 yn0 yc0 Y3 yn3 yc3 y4 d1 d2 d5 d6 d7 d8 d9 d10 d11 d12 d13 d14 d15 d16 d17 d18 w R
theorem weftref6_clone.l1_eq (n : Nat) (Y0 : Option Addr) (yn0 : Nat) (yc0 : Nat) (Y3 : Option Addr) (yn3 : Nat) (yc3 : Nat) (y4 : Int) (d1 d2 d5 d6 d7 d8 d9 d10 d11 d12 d13 d14 d15 d16 d17 d18 : Value) (w : World) (R : Ending → World → Prop) : weftref6_clone.l1 (n + 1) Y0 yn0 yc0 Y3 yn3 yc3 y4 d1 d2 d5 d6 d7 d8 d9 d10 d11 d12 d13 d14 d15 d16 d17 d18 w R =
((if decide (y4 < (yn0 : Int)) = true then
(∃ a1 : Addr, Y0 = some a1 ∧ (0 ≤ y4 ∧ y4 < (yn0 : Int)) ∧
(∃ x2 : Int, w.cell? (a1.add y4.toNat) = some (.int .u8 x2) ∧
(Let (w.heap.size) fun g3 : Nat =>
 Let (w.alloc (.cells #[.int .u8 x2] 5)) fun w4 : World =>
 AppE w4 1 1 5 [.int .u8 0] Y3 yn3 yc3 (some ⟨g3, 0, none⟩) 1 (fun (A5 : Option Addr) (c6 : Nat) (w7 : World) =>
 Let (IntKind.i64.wrap (y4 + 1)) fun x8 : Int =>
 weftref6_clone.l1 n Y0 yn0 yc0 A5 (yn3 + 1) c6 x8 d1 d2 (.int .i64 y4) (.slice Y0 yn0 yc0) (.int .i64 (yn0 : Int)) (.bool (decide (y4 < (yn0 : Int)))) (.int .i64 y4) (.int .i64 x8) (.slice Y3 yn3 yc3) (.slice Y0 yn0 yc0) (.int .i64 y4) (.pointer (some (a1.add y4.toNat))) (.int .u8 x2) (.slice (some ⟨g3, 0, none⟩) 1 1) (.slice A5 (yn3 + 1) c6) d18 w7 R))))
else
(R (.returned (.slice Y3 yn3 yc3)) w))) := by kernel_rfl
def weftref6_clone.s (I0 : Option Addr) (in0 : Nat) (ic0 : Nat) (w : World) (R : Ending → World → Prop) : Prop :=
(∃ n1 : Nat, weftref6_clone.l1 n1 I0 in0 ic0 none 0 0 0 undef (.slice none 0 0) undef undef undef undef undef undef undef undef undef undef undef undef undef undef w R)
theorem weftref6_clone.s_eq (I0 : Option Addr) (in0 : Nat) (ic0 : Nat) (w : World) (R : Ending → World → Prop) : seg Tryd.prog entE weftref6_clone.ords weftref6_clone.joins Tryd.f73 [] [] [] ([.slice I0 in0 ic0] ++ List.replicate (Tryd.f73.ntmps - ([.slice I0 in0 ic0] : List Value).length) undef) w R = weftref6_clone.s I0 in0 ic0 w R := by kernel_rfl
theorem weftref6_clone.run {I0 : Option Addr} {in0 : Nat} {ic0 : Nat} {w : World} {R : Ending → World → Prop} (h : weftref6_clone.s I0 in0 ic0 w R) : Calls Tryd.prog 73 #[.slice I0 in0 ic0] w R :=
  calls_seg ents mixed Tryd.func73 rfl (by rw [weftref6_clone.s_eq]; exact h)
/-! ### weftref6_raw: function 74 -/
def weftref6_raw.ords : Nat → List (Nat × Bool)
  | _ => []
def weftref6_raw.joins (p : List Nat) : Bool := false
def weftref6_raw.l1 (n : Nat) (yg2 : Nat) (Y6 : Option Addr) (yn6 : Nat) (yc6 : Nat) (y7 : Int) (d0 d1 d3 d4 d5 d8 d9 d10 d11 d12 d13 d14 d15 d16 d17 d18 d19 d20 d21 d22 d23 d24 d25 d26 d27 d28 d29 d30 d31 d32 d33 d34 d35 d36 d37 d38 d39 d40 d41 d42 d43 d44 d45 d46 d47 d48 d49 d50 d51 : Value) (w : World) (R : Ending → World → Prop) : Prop :=
  lseg Tryd.prog entE weftref6_raw.ords weftref6_raw.joins Tryd.f74 [1, 1, 1, 0, 1, 0] [0, 1, 0, 1, 1, 1] [] n [d0, d1, .pointer (some ⟨yg2, 0, none⟩), d3, d4, d5, .slice Y6 yn6 yc6, .int .i64 y7, d8, d9, d10, d11, d12, d13, d14, d15, d16, d17, d18, d19, d20, d21, d22, d23, d24, d25, d26, d27, d28, d29, d30, d31, d32, d33, d34, d35, d36, d37, d38, d39, d40, d41, d42, d43, d44, d45, d46, d47, d48, d49, d50, d51] w R
abbrev weftref6_raw.L1 (n : Nat) (yg2 : Nat) (Y6 : Option Addr) (yn6 : Nat) (yc6 : Nat) (y7 : Int) (w : World) (R : Ending → World → Prop) : Prop := ∀ d0 d1 d3 d4 d5 d8 d9 d10 d11 d12 d13 d14 d15 d16 d17 d18 d19 d20 d21 d22 d23 d24 d25 d26 d27 d28 d29 d30 d31 d32 d33 d34 d35 d36 d37 d38 d39 d40 d41 d42 d43 d44 d45 d46 d47 d48 d49 d50 d51 : Value, weftref6_raw.l1 n yg2 Y6 yn6 yc6 y7 d0 d1 d3 d4 d5 d8 d9 d10 d11 d12 d13 d14 d15 d16 d17 d18 d19 d20 d21 d22 d23 d24 d25 d26 d27 d28 d29 d30 d31 d32 d33 d34 d35 d36 d37 d38 d39 d40 d41 d42 d43 d44 d45 d46 d47 d48 d49 d50 d51 w R
theorem weftref6_raw.l1_eq (n : Nat) (yg2 : Nat) (Y6 : Option Addr) (yn6 : Nat) (yc6 : Nat) (y7 : Int) (d0 d1 d3 d4 d5 d8 d9 d10 d11 d12 d13 d14 d15 d16 d17 d18 d19 d20 d21 d22 d23 d24 d25 d26 d27 d28 d29 d30 d31 d32 d33 d34 d35 d36 d37 d38 d39 d40 d41 d42 d43 d44 d45 d46 d47 d48 d49 d50 d51 : Value) (w : World) (R : Ending → World → Prop) : weftref6_raw.l1 (n + 1) yg2 Y6 yn6 yc6 y7 d0 d1 d3 d4 d5 d8 d9 d10 d11 d12 d13 d14 d15 d16 d17 d18 d19 d20 d21 d22 d23 d24 d25 d26 d27 d28 d29 d30 d31 d32 d33 d34 d35 d36 d37 d38 d39 d40 d41 d42 d43 d44 d45 d46 d47 d48 d49 d50 d51 w R =
(∃ (A1 : Option Addr) (n1_ c1_ : Nat), w.cell? ⟨yg2, 3, none⟩ = some (.slice A1 n1_ c1_) ∧
((if decide (y7 < (n1_ : Int)) = true then
(∃ (A2 : Option Addr) (n2_ c2_ : Nat), w.cell? ⟨yg2, 3, none⟩ = some (.slice A2 n2_ c2_) ∧
(∃ a3 : Addr, A2 = some a3 ∧ (0 ≤ y7 ∧ y7 < (n2_ : Int)) ∧
(∃ x4 : Int, w.cell? (a3.add y7.toNat) = some (.int .u8 x4) ∧
(Let (w.heap.size) fun g5 : Nat =>
 Let (w.alloc (.cells #[.int .u8 x4] 5)) fun w6 : World =>
 AppE w6 1 1 5 [.int .u8 0] Y6 yn6 yc6 (some ⟨g5, 0, none⟩) 1 (fun (A7 : Option Addr) (c8 : Nat) (w9 : World) =>
 Let (IntKind.i64.wrap (y7 + 1)) fun x10 : Int =>
 weftref6_raw.l1 n yg2 A7 (yn6 + 1) c8 x10 d0 d1 d3 d4 d5 d8 d9 d10 d11 d12 d13 d14 d15 d16 d17 d18 d19 d20 d21 d22 d23 d24 d25 d26 d27 d28 d29 d30 d31 d32 d33 d34 d35 (.int .i64 y7) (.pointer (some ⟨yg2, 3, none⟩)) (.slice A1 n1_ c1_) (.int .i64 (n1_ : Int)) (.bool (decide (y7 < (n1_ : Int)))) (.int .i64 y7) (.int .i64 x10) (.slice Y6 yn6 yc6) (.pointer (some ⟨yg2, 3, none⟩)) (.slice A2 n2_ c2_) (.int .i64 y7) (.pointer (some (a3.add y7.toNat))) (.int .u8 x4) (.slice (some ⟨g5, 0, none⟩) 1 1) (.slice A7 (yn6 + 1) c8) d51 w9 R)))))
else
(R (.returned (.slice Y6 yn6 yc6)) w)))) := by kernel_rfl
def weftref6_raw.s (i0_0 : Int) (i0_1 : Int) (i0_2 : Int) (I0_3 : Option Addr) (in0_3 : Nat) (ic0_3 : Nat) (i1 : Int) (w : World) (R : Ending → World → Prop) : Prop :=
(Let (w.heap.size) fun g1 : Nat =>
 Let (w.alloc (.cells #[.int .u8 i0_0, .int .u8 i0_1, .int .u32 i0_2, .slice I0_3 in0_3 ic0_3] 40)) fun w2 : World =>
 ∃ x3 : Int, w2.cell? ⟨g1, 2, none⟩ = some (.int .u32 x3) ∧
(Let (IntKind.i64.wrap x3) fun x4 : Int =>
 ∃ x5 : Int, w2.cell? ⟨g1, 0, none⟩ = some (.int .u8 x5) ∧
(∃ x6 : Int, w2.cell? ⟨g1, 1, none⟩ = some (.int .u8 x6) ∧
(Let (IntKind.u16.wrap (Int.tdiv i1 256)) fun x7 : Int =>
 Let (IntKind.u8.wrap x7) fun x8 : Int =>
 Let (Int.tmod i1 256) fun x9 : Int =>
 Let (IntKind.u8.wrap x9) fun x10 : Int =>
 Let (IntKind.i64.wrap (Int.tdiv x4 16777216)) fun x11 : Int =>
 Let (IntKind.u8.wrap x11) fun x12 : Int =>
 Let (IntKind.i64.wrap (Int.tdiv x4 65536)) fun x13 : Int =>
 Let (Int.tmod x13 256) fun x14 : Int =>
 Let (IntKind.u8.wrap x14) fun x15 : Int =>
 Let (IntKind.i64.wrap (Int.tdiv x4 256)) fun x16 : Int =>
 Let (Int.tmod x16 256) fun x17 : Int =>
 Let (IntKind.u8.wrap x17) fun x18 : Int =>
 Let (Int.tmod x4 256) fun x19 : Int =>
 Let (IntKind.u8.wrap x19) fun x20 : Int =>
 Let (w2.heap.size) fun g21 : Nat =>
 Let (w2.alloc (.cells #[.int .u8 x5, .int .u8 x6, .int .u8 x8, .int .u8 x10, .int .u8 x12, .int .u8 x15, .int .u8 x18, .int .u8 x20] 5)) fun w22 : World =>
 ∃ n23 : Nat, weftref6_raw.l1 n23 g1 (some ⟨g21, 0, none⟩) 8 8 0 (.agg #[.int .u8 i0_0, .int .u8 i0_1, .int .u32 i0_2, .slice I0_3 in0_3 ic0_3]) (.int .u16 i1) undef (.slice none 0 0) (.int .i64 x4) (.pointer (some ⟨g1, 2, none⟩)) (.int .u32 x3) (.int .i64 x4) (.pointer (some ⟨g1, 0, none⟩)) (.int .u8 x5) (.pointer (some ⟨g1, 1, none⟩)) (.int .u8 x6) (.int .u16 i1) (.int .u16 x7) (.int .u8 x8) (.int .u16 i1) (.int .u16 x9) (.int .u8 x10) (.int .i64 x4) (.int .i64 x11) (.int .u8 x12) (.int .i64 x4) (.int .i64 x13) (.int .i64 x14) (.int .u8 x15) (.int .i64 x4) (.int .i64 x16) (.int .i64 x17) (.int .u8 x18) (.int .i64 x4) (.int .i64 x19) (.int .u8 x20) (.slice (some ⟨g21, 0, none⟩) 8 8) undef undef undef undef undef undef undef undef undef undef undef undef undef undef undef undef w22 R))))
theorem weftref6_raw.s_eq (i0_0 : Int) (i0_1 : Int) (i0_2 : Int) (I0_3 : Option Addr) (in0_3 : Nat) (ic0_3 : Nat) (i1 : Int) (w : World) (R : Ending → World → Prop) : seg Tryd.prog entE weftref6_raw.ords weftref6_raw.joins Tryd.f74 [] [] [] ([.agg #[.int .u8 i0_0, .int .u8 i0_1, .int .u32 i0_2, .slice I0_3 in0_3 ic0_3], .int .u16 i1] ++ List.replicate (Tryd.f74.ntmps - ([.agg #[.int .u8 i0_0, .int .u8 i0_1, .int .u32 i0_2, .slice I0_3 in0_3 ic0_3], .int .u16 i1] : List Value).length) undef) w R = weftref6_raw.s i0_0 i0_1 i0_2 I0_3 in0_3 ic0_3 i1 w R := by kernel_rfl
theorem weftref6_raw.run {i0_0 : Int} {i0_1 : Int} {i0_2 : Int} {I0_3 : Option Addr} {in0_3 : Nat} {ic0_3 : Nat} {i1 : Int} {w : World} {R : Ending → World → Prop} (h : weftref6_raw.s i0_0 i0_1 i0_2 I0_3 in0_3 ic0_3 i1 w R) : Calls Tryd.prog 74 #[.agg #[.int .u8 i0_0, .int .u8 i0_1, .int .u32 i0_2, .slice I0_3 in0_3 ic0_3], .int .u16 i1] w R :=
  calls_seg ents mixed Tryd.func74 rfl (by rw [weftref6_raw.s_eq]; exact h)
/-! ### weftref6_may: function 66 -/
def weftref6_may.ords : Nat → List (Nat × Bool)
  | _ => []
def weftref6_may.joins (p : List Nat) : Bool := p == [1, 0, 0, 1] || p == [1, 1, 1, 0, 0, 1] || p == [1, 1, 1, 1, 1, 0, 0, 1] || p == [1, 1, 1, 1, 1, 1, 1, 0, 0, 1]
def weftref6_may.j1 (y0 : Int) (y1 : Int) (y2 : Int) (y7 : Bool) (d3 d4 d5 d6 d8 d9 d10 d11 d12 d13 d14 d15 d16 d17 d18 d19 d20 d21 d22 d23 d24 d25 d26 d27 d28 d29 d30 d31 d32 d33 d34 d35 d36 d37 d38 d39 d40 d41 d42 d43 d44 d45 d46 d47 d48 d49 d50 d51 d52 d53 d54 d55 d56 d57 d58 d59 : Value) (w : World) (R : Ending → World → Prop) : Prop :=
  seg Tryd.prog entE weftref6_may.ords weftref6_may.joins Tryd.f66 [1, 0, 0, 1] [1, 0, 0, 1] [] [.int .u8 y0, .int .u8 y1, .int .i64 y2, d3, d4, d5, d6, .bool y7, d8, d9, d10, d11, d12, d13, d14, d15, d16, d17, d18, d19, d20, d21, d22, d23, d24, d25, d26, d27, d28, d29, d30, d31, d32, d33, d34, d35, d36, d37, d38, d39, d40, d41, d42, d43, d44, d45, d46, d47, d48, d49, d50, d51, d52, d53, d54, d55, d56, d57, d58, d59] w R
def weftref6_may.j2 (y0 : Int) (y1 : Int) (y2 : Int) (y20 : Bool) (d3 d4 d5 d6 d7 d8 d9 d10 d11 d12 d13 d14 d15 d16 d17 d18 d19 d21 d22 d23 d24 d25 d26 d27 d28 d29 d30 d31 d32 d33 d34 d35 d36 d37 d38 d39 d40 d41 d42 d43 d44 d45 d46 d47 d48 d49 d50 d51 d52 d53 d54 d55 d56 d57 d58 d59 : Value) (w : World) (R : Ending → World → Prop) : Prop :=
  seg Tryd.prog entE weftref6_may.ords weftref6_may.joins Tryd.f66 [1, 0, 0, 1, 1, 1] [1, 1, 1, 0, 0, 1] [] [.int .u8 y0, .int .u8 y1, .int .i64 y2, d3, d4, d5, d6, d7, d8, d9, d10, d11, d12, d13, d14, d15, d16, d17, d18, d19, .bool y20, d21, d22, d23, d24, d25, d26, d27, d28, d29, d30, d31, d32, d33, d34, d35, d36, d37, d38, d39, d40, d41, d42, d43, d44, d45, d46, d47, d48, d49, d50, d51, d52, d53, d54, d55, d56, d57, d58, d59] w R
def weftref6_may.j3 (y0 : Int) (y1 : Int) (y2 : Int) (y29 : Bool) (d3 d4 d5 d6 d7 d8 d9 d10 d11 d12 d13 d14 d15 d16 d17 d18 d19 d20 d21 d22 d23 d24 d25 d26 d27 d28 d30 d31 d32 d33 d34 d35 d36 d37 d38 d39 d40 d41 d42 d43 d44 d45 d46 d47 d48 d49 d50 d51 d52 d53 d54 d55 d56 d57 d58 d59 : Value) (w : World) (R : Ending → World → Prop) : Prop :=
  seg Tryd.prog entE weftref6_may.ords weftref6_may.joins Tryd.f66 [1, 0, 0, 1, 1, 1, 1, 1] [1, 1, 1, 1, 1, 0, 0, 1] [] [.int .u8 y0, .int .u8 y1, .int .i64 y2, d3, d4, d5, d6, d7, d8, d9, d10, d11, d12, d13, d14, d15, d16, d17, d18, d19, d20, d21, d22, d23, d24, d25, d26, d27, d28, .bool y29, d30, d31, d32, d33, d34, d35, d36, d37, d38, d39, d40, d41, d42, d43, d44, d45, d46, d47, d48, d49, d50, d51, d52, d53, d54, d55, d56, d57, d58, d59] w R
def weftref6_may.j4 (y0 : Int) (y1 : Int) (y2 : Int) (y38 : Bool) (d3 d4 d5 d6 d7 d8 d9 d10 d11 d12 d13 d14 d15 d16 d17 d18 d19 d20 d21 d22 d23 d24 d25 d26 d27 d28 d29 d30 d31 d32 d33 d34 d35 d36 d37 d39 d40 d41 d42 d43 d44 d45 d46 d47 d48 d49 d50 d51 d52 d53 d54 d55 d56 d57 d58 d59 : Value) (w : World) (R : Ending → World → Prop) : Prop :=
  seg Tryd.prog entE weftref6_may.ords weftref6_may.joins Tryd.f66 [1, 0, 0, 1, 1, 1, 1, 1, 1, 1] [1, 1, 1, 1, 1, 1, 1, 0, 0, 1] [] [.int .u8 y0, .int .u8 y1, .int .i64 y2, d3, d4, d5, d6, d7, d8, d9, d10, d11, d12, d13, d14, d15, d16, d17, d18, d19, d20, d21, d22, d23, d24, d25, d26, d27, d28, d29, d30, d31, d32, d33, d34, d35, d36, d37, .bool y38, d39, d40, d41, d42, d43, d44, d45, d46, d47, d48, d49, d50, d51, d52, d53, d54, d55, d56, d57, d58, d59] w R
abbrev weftref6_may.J1 (y0 : Int) (y1 : Int) (y2 : Int) (y7 : Bool) (w : World) (R : Ending → World → Prop) : Prop := ∀ d3 d4 d5 d6 d8 d9 d10 d11 d12 d13 d14 d15 d16 d17 d18 d19 d20 d21 d22 d23 d24 d25 d26 d27 d28 d29 d30 d31 d32 d33 d34 d35 d36 d37 d38 d39 d40 d41 d42 d43 d44 d45 d46 d47 d48 d49 d50 d51 d52 d53 d54 d55 d56 d57 d58 d59 : Value, weftref6_may.j1 y0 y1 y2 y7 d3 d4 d5 d6 d8 d9 d10 d11 d12 d13 d14 d15 d16 d17 d18 d19 d20 d21 d22 d23 d24 d25 d26 d27 d28 d29 d30 d31 d32 d33 d34 d35 d36 d37 d38 d39 d40 d41 d42 d43 d44 d45 d46 d47 d48 d49 d50 d51 d52 d53 d54 d55 d56 d57 d58 d59 w R
abbrev weftref6_may.J2 (y0 : Int) (y1 : Int) (y2 : Int) (y20 : Bool) (w : World) (R : Ending → World → Prop) : Prop := ∀ d3 d4 d5 d6 d7 d8 d9 d10 d11 d12 d13 d14 d15 d16 d17 d18 d19 d21 d22 d23 d24 d25 d26 d27 d28 d29 d30 d31 d32 d33 d34 d35 d36 d37 d38 d39 d40 d41 d42 d43 d44 d45 d46 d47 d48 d49 d50 d51 d52 d53 d54 d55 d56 d57 d58 d59 : Value, weftref6_may.j2 y0 y1 y2 y20 d3 d4 d5 d6 d7 d8 d9 d10 d11 d12 d13 d14 d15 d16 d17 d18 d19 d21 d22 d23 d24 d25 d26 d27 d28 d29 d30 d31 d32 d33 d34 d35 d36 d37 d38 d39 d40 d41 d42 d43 d44 d45 d46 d47 d48 d49 d50 d51 d52 d53 d54 d55 d56 d57 d58 d59 w R
abbrev weftref6_may.J3 (y0 : Int) (y1 : Int) (y2 : Int) (y29 : Bool) (w : World) (R : Ending → World → Prop) : Prop := ∀ d3 d4 d5 d6 d7 d8 d9 d10 d11 d12 d13 d14 d15 d16 d17 d18 d19 d20 d21 d22 d23 d24 d25 d26 d27 d28 d30 d31 d32 d33 d34 d35 d36 d37 d38 d39 d40 d41 d42 d43 d44 d45 d46 d47 d48 d49 d50 d51 d52 d53 d54 d55 d56 d57 d58 d59 : Value, weftref6_may.j3 y0 y1 y2 y29 d3 d4 d5 d6 d7 d8 d9 d10 d11 d12 d13 d14 d15 d16 d17 d18 d19 d20 d21 d22 d23 d24 d25 d26 d27 d28 d30 d31 d32 d33 d34 d35 d36 d37 d38 d39 d40 d41 d42 d43 d44 d45 d46 d47 d48 d49 d50 d51 d52 d53 d54 d55 d56 d57 d58 d59 w R
abbrev weftref6_may.J4 (y0 : Int) (y1 : Int) (y2 : Int) (y38 : Bool) (w : World) (R : Ending → World → Prop) : Prop := ∀ d3 d4 d5 d6 d7 d8 d9 d10 d11 d12 d13 d14 d15 d16 d17 d18 d19 d20 d21 d22 d23 d24 d25 d26 d27 d28 d29 d30 d31 d32 d33 d34 d35 d36 d37 d39 d40 d41 d42 d43 d44 d45 d46 d47 d48 d49 d50 d51 d52 d53 d54 d55 d56 d57 d58 d59 : Value, weftref6_may.j4 y0 y1 y2 y38 d3 d4 d5 d6 d7 d8 d9 d10 d11 d12 d13 d14 d15 d16 d17 d18 d19 d20 d21 d22 d23 d24 d25 d26 d27 d28 d29 d30 d31 d32 d33 d34 d35 d36 d37 d39 d40 d41 d42 d43 d44 d45 d46 d47 d48 d49 d50 d51 d52 d53 d54 d55 d56 d57 d58 d59 w R
theorem weftref6_may.j1_eq (y0 : Int) (y1 : Int) (y2 : Int) (y7 : Bool) (d3 d4 d5 d6 d8 d9 d10 d11 d12 d13 d14 d15 d16 d17 d18 d19 d20 d21 d22 d23 d24 d25 d26 d27 d28 d29 d30 d31 d32 d33 d34 d35 d36 d37 d38 d39 d40 d41 d42 d43 d44 d45 d46 d47 d48 d49 d50 d51 d52 d53 d54 d55 d56 d57 d58 d59 : Value) (w : World) (R : Ending → World → Prop) : weftref6_may.j1 y0 y1 y2 y7 d3 d4 d5 d6 d8 d9 d10 d11 d12 d13 d14 d15 d16 d17 d18 d19 d20 d21 d22 d23 d24 d25 d26 d27 d28 d29 d30 d31 d32 d33 d34 d35 d36 d37 d38 d39 d40 d41 d42 d43 d44 d45 d46 d47 d48 d49 d50 d51 d52 d53 d54 d55 d56 d57 d58 d59 w R =
((if y7 = true then
((if decide (y2 ≥ 0) = true then
(R (.returned (.bool (decide (y2 ≤ 65535)))) w)
else
(R (.returned (.bool false)) w)))
else
((if (y0 == 3) = true then
(Leaf (weftref6_may.j2 y0 y1 y2 (decide (y1 ≤ 15)) d3 d4 d5 d6 (.bool y7) d8 d9 d10 d11 d12 d13 d14 d15 d16 d17 d18 d19 (.int .u8 y0) (.bool (y0 == 3)) (.bool true) (.int .u8 y1) (.bool (decide (y1 ≤ 15))) (.bool (decide (y1 ≤ 15))) d27 d28 d29 d30 d31 d32 d33 d34 d35 d36 d37 d38 d39 d40 d41 d42 d43 d44 d45 d46 d47 d48 d49 d50 d51 d52 d53 d54 d55 d56 d57 d58 d59 w R))
else
(Leaf (weftref6_may.j2 y0 y1 y2 false d3 d4 d5 d6 (.bool y7) d8 d9 d10 d11 d12 d13 d14 d15 d16 d17 d18 d19 (.int .u8 y0) (.bool (y0 == 3)) (.bool false) undef undef (.bool false) d27 d28 d29 d30 d31 d32 d33 d34 d35 d36 d37 d38 d39 d40 d41 d42 d43 d44 d45 d46 d47 d48 d49 d50 d51 d52 d53 d54 d55 d56 d57 d58 d59 w R)))))) := by kernel_rfl
theorem weftref6_may.j2_eq (y0 : Int) (y1 : Int) (y2 : Int) (y20 : Bool) (d3 d4 d5 d6 d7 d8 d9 d10 d11 d12 d13 d14 d15 d16 d17 d18 d19 d21 d22 d23 d24 d25 d26 d27 d28 d29 d30 d31 d32 d33 d34 d35 d36 d37 d38 d39 d40 d41 d42 d43 d44 d45 d46 d47 d48 d49 d50 d51 d52 d53 d54 d55 d56 d57 d58 d59 : Value) (w : World) (R : Ending → World → Prop) : weftref6_may.j2 y0 y1 y2 y20 d3 d4 d5 d6 d7 d8 d9 d10 d11 d12 d13 d14 d15 d16 d17 d18 d19 d21 d22 d23 d24 d25 d26 d27 d28 d29 d30 d31 d32 d33 d34 d35 d36 d37 d38 d39 d40 d41 d42 d43 d44 d45 d46 d47 d48 d49 d50 d51 d52 d53 d54 d55 d56 d57 d58 d59 w R =
((if y20 = true then
(R (.returned (.bool (y2 == 0))) w)
else
((if (y0 == 11) = true then
(Leaf (weftref6_may.j3 y0 y1 y2 (decide (y1 ≤ 1)) d3 d4 d5 d6 d7 d8 d9 d10 d11 d12 d13 d14 d15 d16 d17 d18 d19 (.bool y20) d21 d22 d23 d24 d25 d26 d27 d28 (.int .u8 y0) (.bool (y0 == 11)) (.bool true) (.int .u8 y1) (.bool (decide (y1 ≤ 1))) (.bool (decide (y1 ≤ 1))) d36 d37 d38 d39 d40 d41 d42 d43 d44 d45 d46 d47 d48 d49 d50 d51 d52 d53 d54 d55 d56 d57 d58 d59 w R))
else
(Leaf (weftref6_may.j3 y0 y1 y2 false d3 d4 d5 d6 d7 d8 d9 d10 d11 d12 d13 d14 d15 d16 d17 d18 d19 (.bool y20) d21 d22 d23 d24 d25 d26 d27 d28 (.int .u8 y0) (.bool (y0 == 11)) (.bool false) undef undef (.bool false) d36 d37 d38 d39 d40 d41 d42 d43 d44 d45 d46 d47 d48 d49 d50 d51 d52 d53 d54 d55 d56 d57 d58 d59 w R)))))) := by kernel_rfl
theorem weftref6_may.j3_eq (y0 : Int) (y1 : Int) (y2 : Int) (y29 : Bool) (d3 d4 d5 d6 d7 d8 d9 d10 d11 d12 d13 d14 d15 d16 d17 d18 d19 d20 d21 d22 d23 d24 d25 d26 d27 d28 d30 d31 d32 d33 d34 d35 d36 d37 d38 d39 d40 d41 d42 d43 d44 d45 d46 d47 d48 d49 d50 d51 d52 d53 d54 d55 d56 d57 d58 d59 : Value) (w : World) (R : Ending → World → Prop) : weftref6_may.j3 y0 y1 y2 y29 d3 d4 d5 d6 d7 d8 d9 d10 d11 d12 d13 d14 d15 d16 d17 d18 d19 d20 d21 d22 d23 d24 d25 d26 d27 d28 d30 d31 d32 d33 d34 d35 d36 d37 d38 d39 d40 d41 d42 d43 d44 d45 d46 d47 d48 d49 d50 d51 d52 d53 d54 d55 d56 d57 d58 d59 w R =
((if y29 = true then
(R (.returned (.bool (y2 == 0))) w)
else
((if (y0 == 12) = true then
(Leaf (weftref6_may.j4 y0 y1 y2 (y1 == 0) d3 d4 d5 d6 d7 d8 d9 d10 d11 d12 d13 d14 d15 d16 d17 d18 d19 d20 d21 d22 d23 d24 d25 d26 d27 d28 (.bool y29) d30 d31 d32 d33 d34 d35 d36 d37 (.int .u8 y0) (.bool (y0 == 12)) (.bool true) (.int .u8 y1) (.bool (y1 == 0)) (.bool (y1 == 0)) d45 d46 d47 d48 d49 d50 d51 d52 d53 d54 d55 d56 d57 d58 d59 w R))
else
(Leaf (weftref6_may.j4 y0 y1 y2 false d3 d4 d5 d6 d7 d8 d9 d10 d11 d12 d13 d14 d15 d16 d17 d18 d19 d20 d21 d22 d23 d24 d25 d26 d27 d28 (.bool y29) d30 d31 d32 d33 d34 d35 d36 d37 (.int .u8 y0) (.bool (y0 == 12)) (.bool false) undef undef (.bool false) d45 d46 d47 d48 d49 d50 d51 d52 d53 d54 d55 d56 d57 d58 d59 w R)))))) := by kernel_rfl
theorem weftref6_may.j4_eq (y0 : Int) (y1 : Int) (y2 : Int) (y38 : Bool) (d3 d4 d5 d6 d7 d8 d9 d10 d11 d12 d13 d14 d15 d16 d17 d18 d19 d20 d21 d22 d23 d24 d25 d26 d27 d28 d29 d30 d31 d32 d33 d34 d35 d36 d37 d39 d40 d41 d42 d43 d44 d45 d46 d47 d48 d49 d50 d51 d52 d53 d54 d55 d56 d57 d58 d59 : Value) (w : World) (R : Ending → World → Prop) : weftref6_may.j4 y0 y1 y2 y38 d3 d4 d5 d6 d7 d8 d9 d10 d11 d12 d13 d14 d15 d16 d17 d18 d19 d20 d21 d22 d23 d24 d25 d26 d27 d28 d29 d30 d31 d32 d33 d34 d35 d36 d37 d39 d40 d41 d42 d43 d44 d45 d46 d47 d48 d49 d50 d51 d52 d53 d54 d55 d56 d57 d58 d59 w R =
((if y38 = true then
((if decide (y2 ≥ 0) = true then
(R (.returned (.bool (decide (y2 ≤ 255)))) w)
else
(R (.returned (.bool false)) w)))
else
((if (y0 == 12) = true then
((if decide (y1 ≤ 2) = true then
(R (.returned (.bool (y2 == 0))) w)
else
(R (.returned (.bool false)) w)))
else
(R (.returned (.bool false)) w))))) := by kernel_rfl
def weftref6_may.s (i0 : Int) (i1 : Int) (i2 : Int) (w : World) (R : Ending → World → Prop) : Prop :=
((if (i0 == 3) = true then
(Leaf (weftref6_may.j1 i0 i1 i2 (i1 == 4) undef undef undef (.bool false) (.int .u8 i0) (.bool (i0 == 3)) (.bool true) (.int .u8 i1) (.bool (i1 == 4)) (.bool (i1 == 4)) undef undef undef undef undef undef undef undef undef undef undef undef undef undef undef undef undef undef undef undef undef undef undef undef undef undef undef undef undef undef undef undef undef undef undef undef undef undef undef undef undef undef undef undef undef undef w R))
else
(Leaf (weftref6_may.j1 i0 i1 i2 false undef undef undef (.bool false) (.int .u8 i0) (.bool (i0 == 3)) (.bool false) undef undef (.bool false) undef undef undef undef undef undef undef undef undef undef undef undef undef undef undef undef undef undef undef undef undef undef undef undef undef undef undef undef undef undef undef undef undef undef undef undef undef undef undef undef undef undef undef undef undef undef w R))))
theorem weftref6_may.s_eq (i0 : Int) (i1 : Int) (i2 : Int) (w : World) (R : Ending → World → Prop) : seg Tryd.prog entE weftref6_may.ords weftref6_may.joins Tryd.f66 [] [] [] ([.int .u8 i0, .int .u8 i1, .int .i64 i2] ++ List.replicate (Tryd.f66.ntmps - ([.int .u8 i0, .int .u8 i1, .int .i64 i2] : List Value).length) undef) w R = weftref6_may.s i0 i1 i2 w R := by kernel_rfl
theorem weftref6_may.run {i0 : Int} {i1 : Int} {i2 : Int} {w : World} {R : Ending → World → Prop} (h : weftref6_may.s i0 i1 i2 w R) : Calls Tryd.prog 66 #[.int .u8 i0, .int .u8 i1, .int .i64 i2] w R :=
  calls_seg ents mixed Tryd.func66 rfl (by rw [weftref6_may.s_eq]; exact h)
/-! ### weftref6_quiet: function 69 -/
def weftref6_quiet.ords : Nat → List (Nat × Bool)
  | _ => []
def weftref6_quiet.joins (p : List Nat) : Bool := p == [1, 1]
def weftref6_quiet.j1 (yg1 : Nat) (d0 d2 d3 d4 d5 d6 d7 d8 d9 d10 d11 d12 d13 d14 d15 d16 d17 d18 d19 d20 d21 d22 d23 d24 d25 d26 d27 d28 d29 d30 d31 d32 d33 d34 d35 : Value) (w : World) (R : Ending → World → Prop) : Prop :=
  seg Tryd.prog entE weftref6_quiet.ords weftref6_quiet.joins Tryd.f69 [1, 1] [1, 1] [] [d0, .pointer (some ⟨yg1, 0, none⟩), d2, d3, d4, d5, d6, d7, d8, d9, d10, d11, d12, d13, d14, d15, d16, d17, d18, d19, d20, d21, d22, d23, d24, d25, d26, d27, d28, d29, d30, d31, d32, d33, d34, d35] w R
abbrev weftref6_quiet.J1 (yg1 : Nat) (w : World) (R : Ending → World → Prop) : Prop := ∀ d0 d2 d3 d4 d5 d6 d7 d8 d9 d10 d11 d12 d13 d14 d15 d16 d17 d18 d19 d20 d21 d22 d23 d24 d25 d26 d27 d28 d29 d30 d31 d32 d33 d34 d35 : Value, weftref6_quiet.j1 yg1 d0 d2 d3 d4 d5 d6 d7 d8 d9 d10 d11 d12 d13 d14 d15 d16 d17 d18 d19 d20 d21 d22 d23 d24 d25 d26 d27 d28 d29 d30 d31 d32 d33 d34 d35 w R
theorem weftref6_quiet.j1_eq (yg1 : Nat) (d0 d2 d3 d4 d5 d6 d7 d8 d9 d10 d11 d12 d13 d14 d15 d16 d17 d18 d19 d20 d21 d22 d23 d24 d25 d26 d27 d28 d29 d30 d31 d32 d33 d34 d35 : Value) (w : World) (R : Ending → World → Prop) : weftref6_quiet.j1 yg1 d0 d2 d3 d4 d5 d6 d7 d8 d9 d10 d11 d12 d13 d14 d15 d16 d17 d18 d19 d20 d21 d22 d23 d24 d25 d26 d27 d28 d29 d30 d31 d32 d33 d34 d35 w R =
(∃ x1 : Int, w.cell? ⟨yg1, 6, none⟩ = some (.int .u8 x1) ∧
((if (x1 != 1) = true then
(R (.returned (.bool false)) w)
else
(∃ (A2 : Option Addr) (n2_ c2_ : Nat), w.cell? ⟨yg1, 10, none⟩ = some (.slice A2 n2_ c2_) ∧
((if ((n2_ : Int) == 0) = true then
(R (.returned (.bool true)) w)
else
(∃ (A3 : Option Addr) (n3_ c3_ : Nat), w.cell? ⟨yg1, 10, none⟩ = some (.slice A3 n3_ c3_) ∧
(∃ a4 : Addr, A3 = some a4 ∧ (0 ≤ (0 : Int) ∧ (0 : Int) < (n3_ : Int)) ∧
(∃ x5 : Int, w.cell? a4 = some (.int .u8 x5) ∧
(Calls Tryd.prog 76 #[.int .u8 x5] w (fun (e7 : Ending) (w6 : World) =>
 ∃ b8 : Bool, e7 = .returned (.bool b8) ∧
(R (.returned (.bool b8)) w6)))))))))))) := by kernel_rfl
def weftref6_quiet.s (i0_0 : Int) (i0_1 : Int) (i0_2 : Bool) (i0_3 : Bool) (i0_4 : Int) (i0_5 : Int) (i0_6 : Int) (i0_7 : Int) (i0_8 : Int) (I0_9 : Option Addr) (in0_9 : Nat) (ic0_9 : Nat) (I0_10 : Option Addr) (in0_10 : Nat) (ic0_10 : Nat) (w : World) (R : Ending → World → Prop) : Prop :=
(Let (w.heap.size) fun g1 : Nat =>
 Let (w.alloc (.cells #[.int .u8 i0_0, .int .u16 i0_1, .bool i0_2, .bool i0_3, .int .i64 i0_4, .int .u8 i0_5, .int .u8 i0_6, .int .u32 i0_7, .int .u32 i0_8, .slice I0_9 in0_9 ic0_9, .slice I0_10 in0_10 ic0_10] 29)) fun w2 : World =>
 ∃ x3 : Int, w2.cell? ⟨g1, 4, none⟩ = some (.int .i64 x3) ∧
((if decide (x3 > 0) = true then
(R (.returned (.bool true)) w2)
else
(∃ x4 : Int, w2.cell? ⟨g1, 7, none⟩ = some (.int .u32 x4) ∧
(Calls Tryd.prog 67 #[.int .u32 x4] w2 (fun (e6 : Ending) (w5 : World) =>
 ∃ b7 : Bool, e6 = .returned (.bool b7) ∧
((if (!b7) = true then
(R (.returned (.bool true)) w5)
else
(∃ x8 : Int, w5.cell? ⟨g1, 8, none⟩ = some (.int .u32 x8) ∧
(Calls Tryd.prog 67 #[.int .u32 x8] w5 (fun (e10 : Ending) (w9 : World) =>
 ∃ b11 : Bool, e10 = .returned (.bool b11) ∧
((if (!b11) = true then
(R (.returned (.bool true)) w9)
else
(Leaf (weftref6_quiet.j1 g1 (.agg #[.int .u8 i0_0, .int .u16 i0_1, .bool i0_2, .bool i0_3, .int .i64 i0_4, .int .u8 i0_5, .int .u8 i0_6, .int .u32 i0_7, .int .u32 i0_8, .slice I0_9 in0_9 ic0_9, .slice I0_10 in0_10 ic0_10]) (.bool false) (.pointer (some ⟨g1, 0, none⟩)) (.pointer (some ⟨g1, 4, none⟩)) (.int .i64 x3) (.bool (decide (x3 > 0))) (.bool false) (.pointer (some ⟨g1, 0, none⟩)) (.pointer (some ⟨g1, 7, none⟩)) (.int .u32 x4) (.bool b7) (.bool (!b7)) (.bool (!b7)) (.bool false) (.pointer (some ⟨g1, 0, none⟩)) (.pointer (some ⟨g1, 8, none⟩)) (.int .u32 x8) (.bool b11) (.bool (!b11)) (.bool (!b11)) undef undef undef undef undef undef undef undef undef undef undef undef undef undef undef w9 R)))))))))))))))
theorem weftref6_quiet.s_eq (i0_0 : Int) (i0_1 : Int) (i0_2 : Bool) (i0_3 : Bool) (i0_4 : Int) (i0_5 : Int) (i0_6 : Int) (i0_7 : Int) (i0_8 : Int) (I0_9 : Option Addr) (in0_9 : Nat) (ic0_9 : Nat) (I0_10 : Option Addr) (in0_10 : Nat) (ic0_10 : Nat) (w : World) (R : Ending → World → Prop) : seg Tryd.prog entE weftref6_quiet.ords weftref6_quiet.joins Tryd.f69 [] [] [] ([.agg #[.int .u8 i0_0, .int .u16 i0_1, .bool i0_2, .bool i0_3, .int .i64 i0_4, .int .u8 i0_5, .int .u8 i0_6, .int .u32 i0_7, .int .u32 i0_8, .slice I0_9 in0_9 ic0_9, .slice I0_10 in0_10 ic0_10]] ++ List.replicate (Tryd.f69.ntmps - ([.agg #[.int .u8 i0_0, .int .u16 i0_1, .bool i0_2, .bool i0_3, .int .i64 i0_4, .int .u8 i0_5, .int .u8 i0_6, .int .u32 i0_7, .int .u32 i0_8, .slice I0_9 in0_9 ic0_9, .slice I0_10 in0_10 ic0_10]] : List Value).length) undef) w R = weftref6_quiet.s i0_0 i0_1 i0_2 i0_3 i0_4 i0_5 i0_6 i0_7 i0_8 I0_9 in0_9 ic0_9 I0_10 in0_10 ic0_10 w R := by kernel_rfl
theorem weftref6_quiet.run {i0_0 : Int} {i0_1 : Int} {i0_2 : Bool} {i0_3 : Bool} {i0_4 : Int} {i0_5 : Int} {i0_6 : Int} {i0_7 : Int} {i0_8 : Int} {I0_9 : Option Addr} {in0_9 : Nat} {ic0_9 : Nat} {I0_10 : Option Addr} {in0_10 : Nat} {ic0_10 : Nat} {w : World} {R : Ending → World → Prop} (h : weftref6_quiet.s i0_0 i0_1 i0_2 i0_3 i0_4 i0_5 i0_6 i0_7 i0_8 I0_9 in0_9 ic0_9 I0_10 in0_10 ic0_10 w R) : Calls Tryd.prog 69 #[.agg #[.int .u8 i0_0, .int .u16 i0_1, .bool i0_2, .bool i0_3, .int .i64 i0_4, .int .u8 i0_5, .int .u8 i0_6, .int .u32 i0_7, .int .u32 i0_8, .slice I0_9 in0_9 ic0_9, .slice I0_10 in0_10 ic0_10]] w R :=
  calls_seg ents mixed Tryd.func69 rfl (by rw [weftref6_quiet.s_eq]; exact h)
/-! ### weftref6_Build: function 53 -/
def weftref6_Build.ords : Nat → List (Nat × Bool)
  | _ => []
def weftref6_Build.joins (p : List Nat) : Bool := false
def weftref6_Build.s (i0_0 : Int) (i0_1 : Int) (i0_2 : Int) (I0_3 : Option Addr) (in0_3 : Nat) (ic0_3 : Nat) (w : World) (R : Ending → World → Prop) : Prop :=
(Let (w.heap.size) fun g1 : Nat =>
 Let (w.alloc (.cells #[.int .u8 i0_0, .int .u8 i0_1, .int .u32 i0_2, .slice I0_3 in0_3 ic0_3] 40)) fun w2 : World =>
 ∃ (A3 : Option Addr) (n3_ c3_ : Nat), w2.cell? ⟨g1, 3, none⟩ = some (.slice A3 n3_ c3_) ∧
((if decide ((n3_ : Int) > 65507) = true then
(R (.returned (.tuple #[.slice none 0 0, .int .i64 37])) w2)
else
(∃ x4 : Int, ∃ x5 : Int, ∃ x6 : Int, ∃ (A7 : Option Addr) (n7_ c7_ : Nat), (4 = 4 ∧ At w2 ⟨g1, 0, none⟩ [.int .u8 x4, .int .u8 x5, .int .u32 x6, .slice A7 n7_ c7_]) ∧
(Calls Tryd.prog 74 #[.agg #[.int .u8 x4, .int .u8 x5, .int .u32 x6, .slice A7 n7_ c7_], .int .u16 0] w2 (fun (e9 : Ending) (w8 : World) =>
 ∃ (A10 : Option Addr) (n10_ c10_ : Nat), e9 = .returned (.slice A10 n10_ c10_) ∧
(Let (w8.heap.size) fun g11 : Nat =>
 Let (w8.alloc (.cells #[.slice A10 n10_ c10_] 25)) fun w12 : World =>
 Calls Tryd.prog 72 #[.slice (some ⟨g11, 0, none⟩) 1 1] w12 (fun (e14 : Ending) (w13 : World) =>
 ∃ x15 : Int, e14 = .returned (.int .u16 x15) ∧
(∃ x16 : Int, ∃ x17 : Int, ∃ x18 : Int, ∃ (A19 : Option Addr) (n19_ c19_ : Nat), (4 = 4 ∧ At w13 ⟨g1, 0, none⟩ [.int .u8 x16, .int .u8 x17, .int .u32 x18, .slice A19 n19_ c19_]) ∧
(Calls Tryd.prog 74 #[.agg #[.int .u8 x16, .int .u8 x17, .int .u32 x18, .slice A19 n19_ c19_], .int .u16 x15] w13 (fun (e21 : Ending) (w20 : World) =>
 ∃ (A22 : Option Addr) (n22_ c22_ : Nat), e21 = .returned (.slice A22 n22_ c22_) ∧
(R (.returned (.tuple #[.slice A22 n22_ c22_, .int .i64 0])) w20))))))))))))
theorem weftref6_Build.s_eq (i0_0 : Int) (i0_1 : Int) (i0_2 : Int) (I0_3 : Option Addr) (in0_3 : Nat) (ic0_3 : Nat) (w : World) (R : Ending → World → Prop) : seg Tryd.prog entE weftref6_Build.ords weftref6_Build.joins Tryd.f53 [] [] [] ([.agg #[.int .u8 i0_0, .int .u8 i0_1, .int .u32 i0_2, .slice I0_3 in0_3 ic0_3]] ++ List.replicate (Tryd.f53.ntmps - ([.agg #[.int .u8 i0_0, .int .u8 i0_1, .int .u32 i0_2, .slice I0_3 in0_3 ic0_3]] : List Value).length) undef) w R = weftref6_Build.s i0_0 i0_1 i0_2 I0_3 in0_3 ic0_3 w R := by kernel_rfl
theorem weftref6_Build.run {i0_0 : Int} {i0_1 : Int} {i0_2 : Int} {I0_3 : Option Addr} {in0_3 : Nat} {ic0_3 : Nat} {w : World} {R : Ending → World → Prop} (h : weftref6_Build.s i0_0 i0_1 i0_2 I0_3 in0_3 ic0_3 w R) : Calls Tryd.prog 53 #[.agg #[.int .u8 i0_0, .int .u8 i0_1, .int .u32 i0_2, .slice I0_3 in0_3 ic0_3]] w R :=
  calls_seg ents mixed Tryd.func53 rfl (by rw [weftref6_Build.s_eq]; exact h)
/-! ### weftref6_Parse: function 52 -/
def weftref6_Parse.ords : Nat → List (Nat × Bool)
  | 13 => [(0, true), (1, true), (2, true), (3, true), (4, true), (5, true), (6, true), (7, true), (8, true), (9, true), (10, false), (11, true), (12, false), (13, true)]
  | _ => []
def weftref6_Parse.joins (p : List Nat) : Bool := false
def weftref6_Parse.l1 (n : Nat) (Y0 : Option Addr) (yn0 : Nat) (yc0 : Nat) (yg2 : Nat) (y5 : Int) (y6 : Int) (d1 d3 d4 d7 d8 d9 d10 d11 d12 d13 d14 d15 d16 d17 d18 d19 d20 d21 d22 d23 d24 d25 d26 d27 d28 d29 d30 d31 d32 d33 d34 d35 d36 d37 d38 d39 d40 d41 d42 d43 : Value) (w : World) (R : Ending → World → Prop) : Prop :=
  lseg Tryd.prog entE weftref6_Parse.ords weftref6_Parse.joins Tryd.f52 [1, 1, 1, 1, 1, 1, 0, 1, 0] [0, 1, 0, 1, 1, 1, 1, 1, 1] [] n [.slice Y0 yn0 yc0, d1, .pointer (some ⟨yg2, 0, none⟩), d3, d4, .int .i64 y5, .int .i64 y6, d7, d8, d9, d10, d11, d12, d13, d14, d15, d16, d17, d18, d19, d20, d21, d22, d23, d24, d25, d26, d27, d28, d29, d30, d31, d32, d33, d34, d35, d36, d37, d38, d39, d40, d41, d42, d43] w R
abbrev weftref6_Parse.L1 (n : Nat) (Y0 : Option Addr) (yn0 : Nat) (yc0 : Nat) (yg2 : Nat) (y5 : Int) (y6 : Int) (w : World) (R : Ending → World → Prop) : Prop := ∀ d1 d3 d4 d7 d8 d9 d10 d11 d12 d13 d14 d15 d16 d17 d18 d19 d20 d21 d22 d23 d24 d25 d26 d27 d28 d29 d30 d31 d32 d33 d34 d35 d36 d37 d38 d39 d40 d41 d42 d43 : Value, weftref6_Parse.l1 n Y0 yn0 yc0 yg2 y5 y6 d1 d3 d4 d7 d8 d9 d10 d11 d12 d13 d14 d15 d16 d17 d18 d19 d20 d21 d22 d23 d24 d25 d26 d27 d28 d29 d30 d31 d32 d33 d34 d35 d36 d37 d38 d39 d40 d41 d42 d43 w R
theorem weftref6_Parse.l1_eq (n : Nat) (Y0 : Option Addr) (yn0 : Nat) (yc0 : Nat) (yg2 : Nat) (y5 : Int) (y6 : Int) (d1 d3 d4 d7 d8 d9 d10 d11 d12 d13 d14 d15 d16 d17 d18 d19 d20 d21 d22 d23 d24 d25 d26 d27 d28 d29 d30 d31 d32 d33 d34 d35 d36 d37 d38 d39 d40 d41 d42 d43 : Value) (w : World) (R : Ending → World → Prop) : weftref6_Parse.l1 (n + 1) Y0 yn0 yc0 yg2 y5 y6 d1 d3 d4 d7 d8 d9 d10 d11 d12 d13 d14 d15 d16 d17 d18 d19 d20 d21 d22 d23 d24 d25 d26 d27 d28 d29 d30 d31 d32 d33 d34 d35 d36 d37 d38 d39 d40 d41 d42 d43 w R =
((if decide (y6 < 8) = true then
(Let (IntKind.i64.wrap (256 * y5)) fun x1 : Int =>
 ∃ a2 : Addr, Y0 = some a2 ∧ (0 ≤ y6 ∧ y6 < (yn0 : Int)) ∧
(∃ x3 : Int, w.cell? (a2.add y6.toNat) = some (.int .u8 x3) ∧
(Let (IntKind.i64.wrap x3) fun x4 : Int =>
 Let (IntKind.i64.wrap (x1 + x4)) fun x5 : Int =>
 Let (IntKind.i64.wrap (y6 + 1)) fun x6 : Int =>
 weftref6_Parse.l1 n Y0 yn0 yc0 yg2 x5 x6 d1 d3 d4 d7 d8 d9 d10 d11 d12 d13 d14 d15 d16 d17 d18 d19 (.int .i64 y6) (.bool (decide (y6 < 8))) (.int .i64 y6) (.int .i64 x6) (.int .i64 y5) (.int .i64 x1) (.slice Y0 yn0 yc0) (.int .i64 y6) (.pointer (some (a2.add y6.toNat))) (.int .u8 x3) (.int .i64 x4) (.int .i64 x5) d32 d33 d34 d35 d36 d37 d38 d39 d40 d41 d42 d43 w R)))
else
(∃ S7 : World → Prop, S7 w.drew ∧
(Let (w.drew) fun w8 : World =>
 ∃ a9 : Addr, Y0 = some a9 ∧ (0 ≤ (0 : Int) ∧ (0 : Int) < (yn0 : Int)) ∧
(∃ x10 : Int, (∀ w', S7 w' → w'.cell? a9 = some (.int .u8 x10)) ∧
(∃ a11 : Addr, Y0 = some a11 ∧ (0 ≤ (1 : Int) ∧ (1 : Int) < (yn0 : Int)) ∧
(∃ x12 : Int, (∀ w', S7 w' → w'.cell? (a11.add 1) = some (.int .u8 x12)) ∧
(Let (IntKind.u32.wrap y5) fun x13 : Int =>
(0 ≤ (8 : Int) ∧ (8 : Int) ≤ (yn0 : Int)) ∧
(Calls Tryd.prog 73 #[.slice (cutA Y0 8 yc0 1) (yn0 - 8) (yc0 - 8)] w8 (fun (e15 : Ending) (w14 : World) =>
 ∃ (A16 : Option Addr) (n16_ c16_ : Nat), e15 = .returned (.slice A16 n16_ c16_) ∧
(S7 w14 ∧
(May w14 ⟨yg2, 0, none⟩ 4 ∧
(Let (putCells w14 ⟨yg2, 0, none⟩ [.int .u8 x10, .int .u8 x12, .int .u32 x13, .slice A16 n16_ c16_] 0) fun w17 : World =>
 S7 w17 ∧
(∃ x18 : Int, ∃ x19 : Int, ∃ x20 : Int, ∃ (A21 : Option Addr) (n21_ c21_ : Nat), (4 = 4 ∧ At w17 ⟨yg2, 0, none⟩ [.int .u8 x18, .int .u8 x19, .int .u32 x20, .slice A21 n21_ c21_]) ∧
(R (.returned (.tuple #[.agg #[.int .u8 x18, .int .u8 x19, .int .u32 x20, .slice A21 n21_ c21_], .int .i64 0])) w17))))))))))))))) := by kernel_rfl
def weftref6_Parse.s (I0 : Option Addr) (in0 : Nat) (ic0 : Nat) (w : World) (R : Ending → World → Prop) : Prop :=
(Let (w.heap.size) fun g1 : Nat =>
 Let (w.alloc (.cells #[.int .u8 0, .int .u8 0, .int .u32 0, .slice none 0 0] 40)) fun w2 : World =>
 Let (w2.heap.size) fun g3 : Nat =>
 Let (w2.alloc (.cells #[.int .u8 0, .int .u8 0, .int .u32 0, .slice none 0 0] 40)) fun w4 : World =>
(if decide ((in0 : Int) < 8) = true then
(∃ x5 : Int, ∃ x6 : Int, ∃ x7 : Int, ∃ (A8 : Option Addr) (n8_ c8_ : Nat), (4 = 4 ∧ At w4 ⟨g3, 0, none⟩ [.int .u8 x5, .int .u8 x6, .int .u32 x7, .slice A8 n8_ c8_]) ∧
(May w4 ⟨g1, 0, none⟩ 4 ∧
(Let (putCells w4 ⟨g1, 0, none⟩ [.int .u8 x5, .int .u8 x6, .int .u32 x7, .slice A8 n8_ c8_] 0) fun w9 : World =>
 ∃ x10 : Int, ∃ x11 : Int, ∃ x12 : Int, ∃ (A13 : Option Addr) (n13_ c13_ : Nat), (4 = 4 ∧ At w9 ⟨g1, 0, none⟩ [.int .u8 x10, .int .u8 x11, .int .u32 x12, .slice A13 n13_ c13_]) ∧
(R (.returned (.tuple #[.agg #[.int .u8 x10, .int .u8 x11, .int .u32 x12, .slice A13 n13_ c13_], .int .i64 30])) w9))))
else
((if decide ((in0 : Int) > 65515) = true then
(∃ x14 : Int, ∃ x15 : Int, ∃ x16 : Int, ∃ (A17 : Option Addr) (n17_ c17_ : Nat), (4 = 4 ∧ At w4 ⟨g3, 0, none⟩ [.int .u8 x14, .int .u8 x15, .int .u32 x16, .slice A17 n17_ c17_]) ∧
(May w4 ⟨g1, 0, none⟩ 4 ∧
(Let (putCells w4 ⟨g1, 0, none⟩ [.int .u8 x14, .int .u8 x15, .int .u32 x16, .slice A17 n17_ c17_] 0) fun w18 : World =>
 ∃ x19 : Int, ∃ x20 : Int, ∃ x21 : Int, ∃ (A22 : Option Addr) (n22_ c22_ : Nat), (4 = 4 ∧ At w18 ⟨g1, 0, none⟩ [.int .u8 x19, .int .u8 x20, .int .u32 x21, .slice A22 n22_ c22_]) ∧
(R (.returned (.tuple #[.agg #[.int .u8 x19, .int .u8 x20, .int .u32 x21, .slice A22 n22_ c22_], .int .i64 37])) w18))))
else
(Let (w4.heap.size) fun g23 : Nat =>
 Let (w4.alloc (.cells #[.slice I0 in0 ic0] 25)) fun w24 : World =>
 Calls Tryd.prog 72 #[.slice (some ⟨g23, 0, none⟩) 1 1] w24 (fun (e26 : Ending) (w25 : World) =>
 ∃ x27 : Int, e26 = .returned (.int .u16 x27) ∧
((if (x27 != 0) = true then
(∃ x28 : Int, ∃ x29 : Int, ∃ x30 : Int, ∃ (A31 : Option Addr) (n31_ c31_ : Nat), (4 = 4 ∧ At w25 ⟨g3, 0, none⟩ [.int .u8 x28, .int .u8 x29, .int .u32 x30, .slice A31 n31_ c31_]) ∧
(May w25 ⟨g1, 0, none⟩ 4 ∧
(Let (putCells w25 ⟨g1, 0, none⟩ [.int .u8 x28, .int .u8 x29, .int .u32 x30, .slice A31 n31_ c31_] 0) fun w32 : World =>
 ∃ x33 : Int, ∃ x34 : Int, ∃ x35 : Int, ∃ (A36 : Option Addr) (n36_ c36_ : Nat), (4 = 4 ∧ At w32 ⟨g1, 0, none⟩ [.int .u8 x33, .int .u8 x34, .int .u32 x35, .slice A36 n36_ c36_]) ∧
(R (.returned (.tuple #[.agg #[.int .u8 x33, .int .u8 x34, .int .u32 x35, .slice A36 n36_ c36_], .int .i64 33])) w32))))
else
(∃ n37 : Nat, weftref6_Parse.l1 n37 I0 in0 ic0 g1 0 4 undef (.int .i64 0) (.pointer (some ⟨g3, 0, none⟩)) (.slice I0 in0 ic0) (.int .i64 (in0 : Int)) (.bool (decide ((in0 : Int) < 8))) undef (.slice I0 in0 ic0) (.int .i64 (in0 : Int)) (.bool (decide ((in0 : Int) > 65515))) undef (.slice I0 in0 ic0) (.slice (some ⟨g23, 0, none⟩) 1 1) (.int .u16 x27) (.bool (x27 != 0)) undef undef undef undef undef undef undef undef undef undef undef undef undef undef undef undef undef undef undef undef undef undef undef undef undef w25 R)))))))))
theorem weftref6_Parse.s_eq (I0 : Option Addr) (in0 : Nat) (ic0 : Nat) (w : World) (R : Ending → World → Prop) : seg Tryd.prog entE weftref6_Parse.ords weftref6_Parse.joins Tryd.f52 [] [] [] ([.slice I0 in0 ic0] ++ List.replicate (Tryd.f52.ntmps - ([.slice I0 in0 ic0] : List Value).length) undef) w R = weftref6_Parse.s I0 in0 ic0 w R := by kernel_rfl
theorem weftref6_Parse.run {I0 : Option Addr} {in0 : Nat} {ic0 : Nat} {w : World} {R : Ending → World → Prop} (h : weftref6_Parse.s I0 in0 ic0 w R) : Calls Tryd.prog 52 #[.slice I0 in0 ic0] w R :=
  calls_seg ents mixed Tryd.func52 rfl (by rw [weftref6_Parse.s_eq]; exact h)
/-! ### weftref6_packet: function 70 -/
def weftref6_packet.ords : Nat → List (Nat × Bool)
  | _ => []
def weftref6_packet.joins (p : List Nat) : Bool := false
def weftref6_packet.s (i0 : Int) (i1 : Int) (i2 : Int) (i3_0 : Int) (i3_1 : Int) (i3_2 : Int) (I3_3 : Option Addr) (in3_3 : Nat) (ic3_3 : Nat) (w : World) (R : Ending → World → Prop) : Prop :=
(Let (w.heap.size) fun g1 : Nat =>
 Let (w.alloc (.cells #[.int .u8 i3_0, .int .u8 i3_1, .int .u32 i3_2, .slice I3_3 in3_3 ic3_3] 40)) fun w2 : World =>
 Let (w2.heap.size) fun g3 : Nat =>
 Let (w2.alloc (.cells #[.int .u8 0, .int .u16 0, .bool false, .bool false, .int .i64 0, .int .u8 0, .int .u8 0, .int .u32 0, .int .u32 0, .slice none 0 0, .slice none 0 0] 29)) fun w4 : World =>
 Let (w4.heap.size) fun g5 : Nat =>
 Let (w4.alloc (.cells #[.int .u8 0, .int .u16 0, .bool false, .bool false, .int .i64 0, .int .u8 0, .int .u8 0, .int .u32 0, .int .u32 0, .slice none 0 0, .slice none 0 0] 29)) fun w6 : World =>
 ∃ x7 : Int, ∃ x8 : Int, ∃ x9 : Int, ∃ (A10 : Option Addr) (n10_ c10_ : Nat), (4 = 4 ∧ At w6 ⟨g1, 0, none⟩ [.int .u8 x7, .int .u8 x8, .int .u32 x9, .slice A10 n10_ c10_]) ∧
(Calls Tryd.prog 53 #[.agg #[.int .u8 x7, .int .u8 x8, .int .u32 x9, .slice A10 n10_ c10_]] w6 (fun (e12 : Ending) (w11 : World) =>
 ∃ (A13 : Option Addr) (n13_ c13_ : Nat), ∃ x14 : Int, e12 = .returned (.tuple #[.slice A13 n13_ c13_, .int .i64 x14]) ∧
((if (x14 != 0) = true then
(∃ x15 : Int, ∃ x16 : Int, ∃ b17 : Bool, ∃ b18 : Bool, ∃ x19 : Int, ∃ x20 : Int, ∃ x21 : Int, ∃ x22 : Int, ∃ x23 : Int, ∃ (A24 : Option Addr) (n24_ c24_ : Nat), ∃ (A25 : Option Addr) (n25_ c25_ : Nat), (11 = 11 ∧ At w11 ⟨g5, 0, none⟩ [.int .u8 x15, .int .u16 x16, .bool b17, .bool b18, .int .i64 x19, .int .u8 x20, .int .u8 x21, .int .u32 x22, .int .u32 x23, .slice A24 n24_ c24_, .slice A25 n25_ c25_]) ∧
(May w11 ⟨g3, 0, none⟩ 11 ∧
(Let (putCells w11 ⟨g3, 0, none⟩ [.int .u8 x15, .int .u16 x16, .bool b17, .bool b18, .int .i64 x19, .int .u8 x20, .int .u8 x21, .int .u32 x22, .int .u32 x23, .slice A24 n24_ c24_, .slice A25 n25_ c25_] 0) fun w26 : World =>
 ∃ x27 : Int, ∃ x28 : Int, ∃ b29 : Bool, ∃ b30 : Bool, ∃ x31 : Int, ∃ x32 : Int, ∃ x33 : Int, ∃ x34 : Int, ∃ x35 : Int, ∃ (A36 : Option Addr) (n36_ c36_ : Nat), ∃ (A37 : Option Addr) (n37_ c37_ : Nat), (11 = 11 ∧ At w26 ⟨g3, 0, none⟩ [.int .u8 x27, .int .u16 x28, .bool b29, .bool b30, .int .i64 x31, .int .u8 x32, .int .u8 x33, .int .u32 x34, .int .u32 x35, .slice A36 n36_ c36_, .slice A37 n37_ c37_]) ∧
(R (.returned (.tuple #[.agg #[.int .u8 x27, .int .u16 x28, .bool b29, .bool b30, .int .i64 x31, .int .u8 x32, .int .u8 x33, .int .u32 x34, .int .u32 x35, .slice A36 n36_ c36_, .slice A37 n37_ c37_], .int .i64 x14])) w26))))
else
(May w11 ⟨g3, 0, none⟩ 11 ∧
(Let (putCells w11 ⟨g3, 0, none⟩ [.int .u8 i0, .int .u16 0, .bool false, .bool false, .int .i64 0, .int .u8 64, .int .u8 1, .int .u32 i1, .int .u32 i2, .slice none 0 0, .slice A13 n13_ c13_] 0) fun w38 : World =>
 ∃ x39 : Int, ∃ x40 : Int, ∃ b41 : Bool, ∃ b42 : Bool, ∃ x43 : Int, ∃ x44 : Int, ∃ x45 : Int, ∃ x46 : Int, ∃ x47 : Int, ∃ (A48 : Option Addr) (n48_ c48_ : Nat), ∃ (A49 : Option Addr) (n49_ c49_ : Nat), (11 = 11 ∧ At w38 ⟨g3, 0, none⟩ [.int .u8 x39, .int .u16 x40, .bool b41, .bool b42, .int .i64 x43, .int .u8 x44, .int .u8 x45, .int .u32 x46, .int .u32 x47, .slice A48 n48_ c48_, .slice A49 n49_ c49_]) ∧
(R (.returned (.tuple #[.agg #[.int .u8 x39, .int .u16 x40, .bool b41, .bool b42, .int .i64 x43, .int .u8 x44, .int .u8 x45, .int .u32 x46, .int .u32 x47, .slice A48 n48_ c48_, .slice A49 n49_ c49_], .int .i64 0])) w38))))))))
theorem weftref6_packet.s_eq (i0 : Int) (i1 : Int) (i2 : Int) (i3_0 : Int) (i3_1 : Int) (i3_2 : Int) (I3_3 : Option Addr) (in3_3 : Nat) (ic3_3 : Nat) (w : World) (R : Ending → World → Prop) : seg Tryd.prog entE weftref6_packet.ords weftref6_packet.joins Tryd.f70 [] [] [] ([.int .u8 i0, .int .u32 i1, .int .u32 i2, .agg #[.int .u8 i3_0, .int .u8 i3_1, .int .u32 i3_2, .slice I3_3 in3_3 ic3_3]] ++ List.replicate (Tryd.f70.ntmps - ([.int .u8 i0, .int .u32 i1, .int .u32 i2, .agg #[.int .u8 i3_0, .int .u8 i3_1, .int .u32 i3_2, .slice I3_3 in3_3 ic3_3]] : List Value).length) undef) w R = weftref6_packet.s i0 i1 i2 i3_0 i3_1 i3_2 I3_3 in3_3 ic3_3 w R := by kernel_rfl
theorem weftref6_packet.run {i0 : Int} {i1 : Int} {i2 : Int} {i3_0 : Int} {i3_1 : Int} {i3_2 : Int} {I3_3 : Option Addr} {in3_3 : Nat} {ic3_3 : Nat} {w : World} {R : Ending → World → Prop} (h : weftref6_packet.s i0 i1 i2 i3_0 i3_1 i3_2 I3_3 in3_3 ic3_3 w R) : Calls Tryd.prog 70 #[.int .u8 i0, .int .u32 i1, .int .u32 i2, .agg #[.int .u8 i3_0, .int .u8 i3_1, .int .u32 i3_2, .slice I3_3 in3_3 ic3_3]] w R :=
  calls_seg ents mixed Tryd.func70 rfl (by rw [weftref6_packet.s_eq]; exact h)
/-! ### weftref6_message: function 75 -/
def weftref6_message.ords : Nat → List (Nat × Bool)
  | _ => []
def weftref6_message.joins (p : List Nat) : Bool := p == [1, 0, 1, 1, 1, 1] || p == [1, 1, 1, 1, 1]
def weftref6_message.j1 (yg1 : Nat) (yg2 : Nat) (yg4 : Nat) (y30 : Bool) (d0 d3 d5 d6 d7 d8 d9 d10 d11 d12 d13 d14 d15 d16 d17 d18 d19 d20 d21 d22 d23 d24 d25 d26 d27 d28 d29 d31 d32 d33 d34 d35 d36 : Value) (w : World) (R : Ending → World → Prop) : Prop :=
  seg Tryd.prog entE weftref6_message.ords weftref6_message.joins Tryd.f75 [1, 1, 1, 1, 0, 1] [1, 0, 1, 1, 1, 1] [] [d0, .pointer (some ⟨yg1, 0, none⟩), .pointer (some ⟨yg2, 0, none⟩), d3, .pointer (some ⟨yg4, 0, none⟩), d5, d6, d7, d8, d9, d10, d11, d12, d13, d14, d15, d16, d17, d18, d19, d20, d21, d22, d23, d24, d25, d26, d27, d28, d29, .bool y30, d31, d32, d33, d34, d35, d36] w R
def weftref6_message.j2 (yg1 : Nat) (yg2 : Nat) (d0 d3 d4 d5 d6 d7 d8 d9 d10 d11 d12 d13 d14 d15 d16 d17 d18 d19 d20 d21 d22 d23 d24 d25 d26 d27 d28 d29 d30 d31 d32 d33 d34 d35 d36 : Value) (w : World) (R : Ending → World → Prop) : Prop :=
  seg Tryd.prog entE weftref6_message.ords weftref6_message.joins Tryd.f75 [1, 1, 1, 1, 1] [1, 1, 1, 1, 1] [] [d0, .pointer (some ⟨yg1, 0, none⟩), .pointer (some ⟨yg2, 0, none⟩), d3, d4, d5, d6, d7, d8, d9, d10, d11, d12, d13, d14, d15, d16, d17, d18, d19, d20, d21, d22, d23, d24, d25, d26, d27, d28, d29, d30, d31, d32, d33, d34, d35, d36] w R
abbrev weftref6_message.J1 (yg1 : Nat) (yg2 : Nat) (yg4 : Nat) (y30 : Bool) (w : World) (R : Ending → World → Prop) : Prop := ∀ d0 d3 d5 d6 d7 d8 d9 d10 d11 d12 d13 d14 d15 d16 d17 d18 d19 d20 d21 d22 d23 d24 d25 d26 d27 d28 d29 d31 d32 d33 d34 d35 d36 : Value, weftref6_message.j1 yg1 yg2 yg4 y30 d0 d3 d5 d6 d7 d8 d9 d10 d11 d12 d13 d14 d15 d16 d17 d18 d19 d20 d21 d22 d23 d24 d25 d26 d27 d28 d29 d31 d32 d33 d34 d35 d36 w R
abbrev weftref6_message.J2 (yg1 : Nat) (yg2 : Nat) (w : World) (R : Ending → World → Prop) : Prop := ∀ d0 d3 d4 d5 d6 d7 d8 d9 d10 d11 d12 d13 d14 d15 d16 d17 d18 d19 d20 d21 d22 d23 d24 d25 d26 d27 d28 d29 d30 d31 d32 d33 d34 d35 d36 : Value, weftref6_message.j2 yg1 yg2 d0 d3 d4 d5 d6 d7 d8 d9 d10 d11 d12 d13 d14 d15 d16 d17 d18 d19 d20 d21 d22 d23 d24 d25 d26 d27 d28 d29 d30 d31 d32 d33 d34 d35 d36 w R
theorem weftref6_message.j1_eq (yg1 : Nat) (yg2 : Nat) (yg4 : Nat) (y30 : Bool) (d0 d3 d5 d6 d7 d8 d9 d10 d11 d12 d13 d14 d15 d16 d17 d18 d19 d20 d21 d22 d23 d24 d25 d26 d27 d28 d29 d31 d32 d33 d34 d35 d36 : Value) (w : World) (R : Ending → World → Prop) : weftref6_message.j1 yg1 yg2 yg4 y30 d0 d3 d5 d6 d7 d8 d9 d10 d11 d12 d13 d14 d15 d16 d17 d18 d19 d20 d21 d22 d23 d24 d25 d26 d27 d28 d29 d31 d32 d33 d34 d35 d36 w R =
((if y30 = true then
(∃ x1 : Int, ∃ x2 : Int, ∃ x3 : Int, ∃ (A4 : Option Addr) (n4_ c4_ : Nat), (4 = 4 ∧ At w ⟨yg4, 0, none⟩ [.int .u8 x1, .int .u8 x2, .int .u32 x3, .slice A4 n4_ c4_]) ∧
(May w ⟨yg2, 0, none⟩ 4 ∧
(Let (putCells w ⟨yg2, 0, none⟩ [.int .u8 x1, .int .u8 x2, .int .u32 x3, .slice A4 n4_ c4_] 0) fun w5 : World =>
 ∃ x6 : Int, ∃ x7 : Int, ∃ x8 : Int, ∃ (A9 : Option Addr) (n9_ c9_ : Nat), (4 = 4 ∧ At w5 ⟨yg2, 0, none⟩ [.int .u8 x6, .int .u8 x7, .int .u32 x8, .slice A9 n9_ c9_]) ∧
(R (.returned (.tuple #[.agg #[.int .u8 x6, .int .u8 x7, .int .u32 x8, .slice A9 n9_ c9_], .int .i64 60])) w5))))
else
(Leaf (weftref6_message.j2 yg1 yg2 d0 d3 (.pointer (some ⟨yg4, 0, none⟩)) d5 d6 d7 d8 d9 d10 d11 d12 d13 d14 d15 d16 d17 d18 d19 d20 d21 d22 d23 d24 d25 d26 d27 d28 d29 (.bool y30) d31 d32 d33 d34 d35 d36 w R)))) := by kernel_rfl
theorem weftref6_message.j2_eq (yg1 : Nat) (yg2 : Nat) (d0 d3 d4 d5 d6 d7 d8 d9 d10 d11 d12 d13 d14 d15 d16 d17 d18 d19 d20 d21 d22 d23 d24 d25 d26 d27 d28 d29 d30 d31 d32 d33 d34 d35 d36 : Value) (w : World) (R : Ending → World → Prop) : weftref6_message.j2 yg1 yg2 d0 d3 d4 d5 d6 d7 d8 d9 d10 d11 d12 d13 d14 d15 d16 d17 d18 d19 d20 d21 d22 d23 d24 d25 d26 d27 d28 d29 d30 d31 d32 d33 d34 d35 d36 w R =
(∃ (A1 : Option Addr) (n1_ c1_ : Nat), w.cell? ⟨yg1, 10, none⟩ = some (.slice A1 n1_ c1_) ∧
(Calls Tryd.prog 52 #[.slice A1 n1_ c1_] w (fun (e3 : Ending) (w2 : World) =>
 ∃ x4 : Int, ∃ x5 : Int, ∃ x6 : Int, ∃ (A7 : Option Addr) (n7_ c7_ : Nat), ∃ x8 : Int, e3 = .returned (.tuple #[.agg #[.int .u8 x4, .int .u8 x5, .int .u32 x6, .slice A7 n7_ c7_], .int .i64 x8]) ∧
(May w2 ⟨yg2, 0, none⟩ 4 ∧
(Let (putCells w2 ⟨yg2, 0, none⟩ [.int .u8 x4, .int .u8 x5, .int .u32 x6, .slice A7 n7_ c7_] 0) fun w9 : World =>
 ∃ x10 : Int, ∃ x11 : Int, ∃ x12 : Int, ∃ (A13 : Option Addr) (n13_ c13_ : Nat), (4 = 4 ∧ At w9 ⟨yg2, 0, none⟩ [.int .u8 x10, .int .u8 x11, .int .u32 x12, .slice A13 n13_ c13_]) ∧
(R (.returned (.tuple #[.agg #[.int .u8 x10, .int .u8 x11, .int .u32 x12, .slice A13 n13_ c13_], .int .i64 x8])) w9)))))) := by kernel_rfl
def weftref6_message.s (i0_0 : Int) (i0_1 : Int) (i0_2 : Bool) (i0_3 : Bool) (i0_4 : Int) (i0_5 : Int) (i0_6 : Int) (i0_7 : Int) (i0_8 : Int) (I0_9 : Option Addr) (in0_9 : Nat) (ic0_9 : Nat) (I0_10 : Option Addr) (in0_10 : Nat) (ic0_10 : Nat) (w : World) (R : Ending → World → Prop) : Prop :=
(Let (w.heap.size) fun g1 : Nat =>
 Let (w.alloc (.cells #[.int .u8 i0_0, .int .u16 i0_1, .bool i0_2, .bool i0_3, .int .i64 i0_4, .int .u8 i0_5, .int .u8 i0_6, .int .u32 i0_7, .int .u32 i0_8, .slice I0_9 in0_9 ic0_9, .slice I0_10 in0_10 ic0_10] 29)) fun w2 : World =>
 Let (w2.heap.size) fun g3 : Nat =>
 Let (w2.alloc (.cells #[.int .u8 0, .int .u8 0, .int .u32 0, .slice none 0 0] 40)) fun w4 : World =>
 Let (w4.heap.size) fun g5 : Nat =>
 Let (w4.alloc (.cells #[.int .u8 0, .int .u8 0, .int .u32 0, .slice none 0 0] 40)) fun w6 : World =>
 ∃ x7 : Int, ∃ x8 : Int, ∃ b9 : Bool, ∃ b10 : Bool, ∃ x11 : Int, ∃ x12 : Int, ∃ x13 : Int, ∃ x14 : Int, ∃ x15 : Int, ∃ (A16 : Option Addr) (n16_ c16_ : Nat), ∃ (A17 : Option Addr) (n17_ c17_ : Nat), (11 = 11 ∧ At w6 ⟨g1, 0, none⟩ [.int .u8 x7, .int .u16 x8, .bool b9, .bool b10, .int .i64 x11, .int .u8 x12, .int .u8 x13, .int .u32 x14, .int .u32 x15, .slice A16 n16_ c16_, .slice A17 n17_ c17_]) ∧
(Calls Tryd.prog 68 #[.agg #[.int .u8 x7, .int .u16 x8, .bool b9, .bool b10, .int .i64 x11, .int .u8 x12, .int .u8 x13, .int .u32 x14, .int .u32 x15, .slice A16 n16_ c16_, .slice A17 n17_ c17_]] w6 (fun (e19 : Ending) (w18 : World) =>
 ∃ (A20 : Option Addr) (n20_ c20_ : Nat), ∃ x21 : Int, e19 = .returned (.tuple #[.slice A20 n20_ c20_, .int .i64 x21]) ∧
((if (x21 != 0) = true then
(∃ x22 : Int, ∃ x23 : Int, ∃ x24 : Int, ∃ (A25 : Option Addr) (n25_ c25_ : Nat), (4 = 4 ∧ At w18 ⟨g5, 0, none⟩ [.int .u8 x22, .int .u8 x23, .int .u32 x24, .slice A25 n25_ c25_]) ∧
(May w18 ⟨g3, 0, none⟩ 4 ∧
(Let (putCells w18 ⟨g3, 0, none⟩ [.int .u8 x22, .int .u8 x23, .int .u32 x24, .slice A25 n25_ c25_] 0) fun w26 : World =>
 ∃ x27 : Int, ∃ x28 : Int, ∃ x29 : Int, ∃ (A30 : Option Addr) (n30_ c30_ : Nat), (4 = 4 ∧ At w26 ⟨g3, 0, none⟩ [.int .u8 x27, .int .u8 x28, .int .u32 x29, .slice A30 n30_ c30_]) ∧
(R (.returned (.tuple #[.agg #[.int .u8 x27, .int .u8 x28, .int .u32 x29, .slice A30 n30_ c30_], .int .i64 x21])) w26))))
else
(∃ x31 : Int, w18.cell? ⟨g1, 6, none⟩ = some (.int .u8 x31) ∧
((if (x31 != 1) = true then
(Leaf (weftref6_message.j1 g1 g3 g5 true (.agg #[.int .u8 i0_0, .int .u16 i0_1, .bool i0_2, .bool i0_3, .int .i64 i0_4, .int .u8 i0_5, .int .u8 i0_6, .int .u32 i0_7, .int .u32 i0_8, .slice I0_9 in0_9 ic0_9, .slice I0_10 in0_10 ic0_10]) (.int .i64 0) (.slice A20 n20_ c20_) (.int .i64 x21) (.tuple #[.slice A20 n20_ c20_, .int .i64 x21]) (.agg #[.int .u8 x7, .int .u16 x8, .bool b9, .bool b10, .int .i64 x11, .int .u8 x12, .int .u8 x13, .int .u32 x14, .int .u32 x15, .slice A16 n16_ c16_, .slice A17 n17_ c17_]) (.tuple #[.slice A20 n20_ c20_, .int .i64 x21]) (.slice A20 n20_ c20_) (.int .i64 x21) (.int .i64 x21) (.bool (x21 != 0)) undef undef (.pointer (some ⟨g1, 0, none⟩)) (.pointer (some ⟨g1, 6, none⟩)) (.int .u8 x31) (.bool (x31 != 1)) (.bool true) undef undef undef undef (.bool true) (.bool true) undef undef undef undef undef undef undef undef undef w18 R))
else
(∃ x32 : Int, w18.cell? ⟨g1, 4, none⟩ = some (.int .i64 x32) ∧
((if decide (x32 > 0) = true then
(Leaf (weftref6_message.j1 g1 g3 g5 true (.agg #[.int .u8 i0_0, .int .u16 i0_1, .bool i0_2, .bool i0_3, .int .i64 i0_4, .int .u8 i0_5, .int .u8 i0_6, .int .u32 i0_7, .int .u32 i0_8, .slice I0_9 in0_9 ic0_9, .slice I0_10 in0_10 ic0_10]) (.int .i64 0) (.slice A20 n20_ c20_) (.int .i64 x21) (.tuple #[.slice A20 n20_ c20_, .int .i64 x21]) (.agg #[.int .u8 x7, .int .u16 x8, .bool b9, .bool b10, .int .i64 x11, .int .u8 x12, .int .u8 x13, .int .u32 x14, .int .u32 x15, .slice A16 n16_ c16_, .slice A17 n17_ c17_]) (.tuple #[.slice A20 n20_ c20_, .int .i64 x21]) (.slice A20 n20_ c20_) (.int .i64 x21) (.int .i64 x21) (.bool (x21 != 0)) undef undef (.pointer (some ⟨g1, 0, none⟩)) (.pointer (some ⟨g1, 6, none⟩)) (.int .u8 x31) (.bool (x31 != 1)) (.bool false) (.pointer (some ⟨g1, 0, none⟩)) (.pointer (some ⟨g1, 4, none⟩)) (.int .i64 x32) (.bool (decide (x32 > 0))) (.bool (decide (x32 > 0))) (.bool true) undef undef undef undef undef undef undef undef undef w18 R))
else
(∃ b33 : Bool, w18.cell? ⟨g1, 3, none⟩ = some (.bool b33) ∧
(Leaf (weftref6_message.j1 g1 g3 g5 b33 (.agg #[.int .u8 i0_0, .int .u16 i0_1, .bool i0_2, .bool i0_3, .int .i64 i0_4, .int .u8 i0_5, .int .u8 i0_6, .int .u32 i0_7, .int .u32 i0_8, .slice I0_9 in0_9 ic0_9, .slice I0_10 in0_10 ic0_10]) (.int .i64 0) (.slice A20 n20_ c20_) (.int .i64 x21) (.tuple #[.slice A20 n20_ c20_, .int .i64 x21]) (.agg #[.int .u8 x7, .int .u16 x8, .bool b9, .bool b10, .int .i64 x11, .int .u8 x12, .int .u8 x13, .int .u32 x14, .int .u32 x15, .slice A16 n16_ c16_, .slice A17 n17_ c17_]) (.tuple #[.slice A20 n20_ c20_, .int .i64 x21]) (.slice A20 n20_ c20_) (.int .i64 x21) (.int .i64 x21) (.bool (x21 != 0)) undef undef (.pointer (some ⟨g1, 0, none⟩)) (.pointer (some ⟨g1, 6, none⟩)) (.int .u8 x31) (.bool (x31 != 1)) (.bool false) (.pointer (some ⟨g1, 0, none⟩)) (.pointer (some ⟨g1, 4, none⟩)) (.int .i64 x32) (.bool (decide (x32 > 0))) (.bool (decide (x32 > 0))) (.bool false) (.pointer (some ⟨g1, 0, none⟩)) (.pointer (some ⟨g1, 3, none⟩)) (.bool b33) undef undef undef undef undef undef w18 R))))))))))))))
theorem weftref6_message.s_eq (i0_0 : Int) (i0_1 : Int) (i0_2 : Bool) (i0_3 : Bool) (i0_4 : Int) (i0_5 : Int) (i0_6 : Int) (i0_7 : Int) (i0_8 : Int) (I0_9 : Option Addr) (in0_9 : Nat) (ic0_9 : Nat) (I0_10 : Option Addr) (in0_10 : Nat) (ic0_10 : Nat) (w : World) (R : Ending → World → Prop) : seg Tryd.prog entE weftref6_message.ords weftref6_message.joins Tryd.f75 [] [] [] ([.agg #[.int .u8 i0_0, .int .u16 i0_1, .bool i0_2, .bool i0_3, .int .i64 i0_4, .int .u8 i0_5, .int .u8 i0_6, .int .u32 i0_7, .int .u32 i0_8, .slice I0_9 in0_9 ic0_9, .slice I0_10 in0_10 ic0_10]] ++ List.replicate (Tryd.f75.ntmps - ([.agg #[.int .u8 i0_0, .int .u16 i0_1, .bool i0_2, .bool i0_3, .int .i64 i0_4, .int .u8 i0_5, .int .u8 i0_6, .int .u32 i0_7, .int .u32 i0_8, .slice I0_9 in0_9 ic0_9, .slice I0_10 in0_10 ic0_10]] : List Value).length) undef) w R = weftref6_message.s i0_0 i0_1 i0_2 i0_3 i0_4 i0_5 i0_6 i0_7 i0_8 I0_9 in0_9 ic0_9 I0_10 in0_10 ic0_10 w R := by kernel_rfl
theorem weftref6_message.run {i0_0 : Int} {i0_1 : Int} {i0_2 : Bool} {i0_3 : Bool} {i0_4 : Int} {i0_5 : Int} {i0_6 : Int} {i0_7 : Int} {i0_8 : Int} {I0_9 : Option Addr} {in0_9 : Nat} {ic0_9 : Nat} {I0_10 : Option Addr} {in0_10 : Nat} {ic0_10 : Nat} {w : World} {R : Ending → World → Prop} (h : weftref6_message.s i0_0 i0_1 i0_2 i0_3 i0_4 i0_5 i0_6 i0_7 i0_8 I0_9 in0_9 ic0_9 I0_10 in0_10 ic0_10 w R) : Calls Tryd.prog 75 #[.agg #[.int .u8 i0_0, .int .u16 i0_1, .bool i0_2, .bool i0_3, .int .i64 i0_4, .int .u8 i0_5, .int .u8 i0_6, .int .u32 i0_7, .int .u32 i0_8, .slice I0_9 in0_9 ic0_9, .slice I0_10 in0_10 ic0_10]] w R :=
  calls_seg ents mixed Tryd.func75 rfl (by rw [weftref6_message.s_eq]; exact h)
/-! ### weftref6_Fault: function 47 -/
def weftref6_Fault.ords : Nat → List (Nat × Bool)
  | 15 => [(0, true), (1, true), (2, true), (3, true), (4, true), (5, true), (6, true), (7, true), (8, true), (9, true), (10, true), (11, true), (12, false), (13, true), (14, true), (15, false), (16, true)]
  | _ => []
def weftref6_Fault.joins (p : List Nat) : Bool := p == [1, 0, 1, 1] || p == [1, 1, 1] || p == [1, 1, 1, 1, 1, 1, 1, 1] || p == [1, 1, 1, 1, 1, 1, 1, 1, 1, 1]
def weftref6_Fault.j1 (y1 : Int) (y2 : Int) (y3 : Int) (y4 : Int) (yg5 : Nat) (yg10 : Nat) (yg12 : Nat) (y26 : Bool) (d0 d6 d7 d8 d9 d11 d13 d14 d15 d16 d17 d18 d19 d20 d21 d22 d23 d24 d25 d27 d28 d29 d30 d31 d32 d33 d34 d35 d36 d37 d38 d39 d40 d41 d42 d43 d44 d45 d46 d47 d48 d49 d50 d51 d52 d53 d54 d55 d56 d57 d58 d59 d60 d61 d62 d63 d64 d65 d66 d67 d68 d69 d70 d71 : Value) (w : World) (R : Ending → World → Prop) : Prop :=
  seg Tryd.prog entE weftref6_Fault.ords weftref6_Fault.joins Tryd.f47 [1, 1, 0, 1] [1, 0, 1, 1] [] [d0, .int .u8 y1, .int .u8 y2, .int .i64 y3, .int .u32 y4, .pointer (some ⟨yg5, 0, none⟩), d6, d7, d8, d9, .pointer (some ⟨yg10, 0, none⟩), d11, .pointer (some ⟨yg12, 0, none⟩), d13, d14, d15, d16, d17, d18, d19, d20, d21, d22, d23, d24, d25, .bool y26, d27, d28, d29, d30, d31, d32, d33, d34, d35, d36, d37, d38, d39, d40, d41, d42, d43, d44, d45, d46, d47, d48, d49, d50, d51, d52, d53, d54, d55, d56, d57, d58, d59, d60, d61, d62, d63, d64, d65, d66, d67, d68, d69, d70, d71] w R
def weftref6_Fault.j2 (y1 : Int) (y2 : Int) (y3 : Int) (y4 : Int) (yg5 : Nat) (yg10 : Nat) (yg12 : Nat) (d0 d6 d7 d8 d9 d11 d13 d14 d15 d16 d17 d18 d19 d20 d21 d22 d23 d24 d25 d26 d27 d28 d29 d30 d31 d32 d33 d34 d35 d36 d37 d38 d39 d40 d41 d42 d43 d44 d45 d46 d47 d48 d49 d50 d51 d52 d53 d54 d55 d56 d57 d58 d59 d60 d61 d62 d63 d64 d65 d66 d67 d68 d69 d70 d71 : Value) (w : World) (R : Ending → World → Prop) : Prop :=
  seg Tryd.prog entE weftref6_Fault.ords weftref6_Fault.joins Tryd.f47 [1, 1, 1] [1, 1, 1] [] [d0, .int .u8 y1, .int .u8 y2, .int .i64 y3, .int .u32 y4, .pointer (some ⟨yg5, 0, none⟩), d6, d7, d8, d9, .pointer (some ⟨yg10, 0, none⟩), d11, .pointer (some ⟨yg12, 0, none⟩), d13, d14, d15, d16, d17, d18, d19, d20, d21, d22, d23, d24, d25, d26, d27, d28, d29, d30, d31, d32, d33, d34, d35, d36, d37, d38, d39, d40, d41, d42, d43, d44, d45, d46, d47, d48, d49, d50, d51, d52, d53, d54, d55, d56, d57, d58, d59, d60, d61, d62, d63, d64, d65, d66, d67, d68, d69, d70, d71] w R
def weftref6_Fault.j3 (y1 : Int) (y2 : Int) (y3 : Int) (y4 : Int) (yg5 : Nat) (yg10 : Nat) (Y13 : Option Addr) (yn13 : Nat) (yc13 : Nat) (y15 : Int) (d0 d6 d7 d8 d9 d11 d12 d14 d16 d17 d18 d19 d20 d21 d22 d23 d24 d25 d26 d27 d28 d29 d30 d31 d32 d33 d34 d35 d36 d37 d38 d39 d40 d41 d42 d43 d44 d45 d46 d47 d48 d49 d50 d51 d52 d53 d54 d55 d56 d57 d58 d59 d60 d61 d62 d63 d64 d65 d66 d67 d68 d69 d70 d71 : Value) (w : World) (R : Ending → World → Prop) : Prop :=
  seg Tryd.prog entE weftref6_Fault.ords weftref6_Fault.joins Tryd.f47 [1, 1, 1, 1, 1, 1, 1, 1] [1, 1, 1, 1, 1, 1, 1, 1] [] [d0, .int .u8 y1, .int .u8 y2, .int .i64 y3, .int .u32 y4, .pointer (some ⟨yg5, 0, none⟩), d6, d7, d8, d9, .pointer (some ⟨yg10, 0, none⟩), d11, d12, .slice Y13 yn13 yc13, d14, .int .i64 y15, d16, d17, d18, d19, d20, d21, d22, d23, d24, d25, d26, d27, d28, d29, d30, d31, d32, d33, d34, d35, d36, d37, d38, d39, d40, d41, d42, d43, d44, d45, d46, d47, d48, d49, d50, d51, d52, d53, d54, d55, d56, d57, d58, d59, d60, d61, d62, d63, d64, d65, d66, d67, d68, d69, d70, d71] w R
def weftref6_Fault.j4 (y1 : Int) (y2 : Int) (y4 : Int) (yg5 : Nat) (yg10 : Nat) (Y13 : Option Addr) (yn13 : Nat) (yc13 : Nat) (y15 : Int) (y16 : Int) (d0 d3 d6 d7 d8 d9 d11 d12 d14 d17 d18 d19 d20 d21 d22 d23 d24 d25 d26 d27 d28 d29 d30 d31 d32 d33 d34 d35 d36 d37 d38 d39 d40 d41 d42 d43 d44 d45 d46 d47 d48 d49 d50 d51 d52 d53 d54 d55 d56 d57 d58 d59 d60 d61 d62 d63 d64 d65 d66 d67 d68 d69 d70 d71 : Value) (w : World) (R : Ending → World → Prop) : Prop :=
  seg Tryd.prog entE weftref6_Fault.ords weftref6_Fault.joins Tryd.f47 [1, 1, 1, 1, 1, 1, 1, 1, 1, 1] [1, 1, 1, 1, 1, 1, 1, 1, 1, 1] [] [d0, .int .u8 y1, .int .u8 y2, d3, .int .u32 y4, .pointer (some ⟨yg5, 0, none⟩), d6, d7, d8, d9, .pointer (some ⟨yg10, 0, none⟩), d11, d12, .slice Y13 yn13 yc13, d14, .int .i64 y15, .int .i64 y16, d17, d18, d19, d20, d21, d22, d23, d24, d25, d26, d27, d28, d29, d30, d31, d32, d33, d34, d35, d36, d37, d38, d39, d40, d41, d42, d43, d44, d45, d46, d47, d48, d49, d50, d51, d52, d53, d54, d55, d56, d57, d58, d59, d60, d61, d62, d63, d64, d65, d66, d67, d68, d69, d70, d71] w R
abbrev weftref6_Fault.J1 (y1 : Int) (y2 : Int) (y3 : Int) (y4 : Int) (yg5 : Nat) (yg10 : Nat) (yg12 : Nat) (y26 : Bool) (w : World) (R : Ending → World → Prop) : Prop := ∀ d0 d6 d7 d8 d9 d11 d13 d14 d15 d16 d17 d18 d19 d20 d21 d22 d23 d24 d25 d27 d28 d29 d30 d31 d32 d33 d34 d35 d36 d37 d38 d39 d40 d41 d42 d43 d44 d45 d46 d47 d48 d49 d50 d51 d52 d53 d54 d55 d56 d57 d58 d59 d60 d61 d62 d63 d64 d65 d66 d67 d68 d69 d70 d71 : Value, weftref6_Fault.j1 y1 y2 y3 y4 yg5 yg10 yg12 y26 d0 d6 d7 d8 d9 d11 d13 d14 d15 d16 d17 d18 d19 d20 d21 d22 d23 d24 d25 d27 d28 d29 d30 d31 d32 d33 d34 d35 d36 d37 d38 d39 d40 d41 d42 d43 d44 d45 d46 d47 d48 d49 d50 d51 d52 d53 d54 d55 d56 d57 d58 d59 d60 d61 d62 d63 d64 d65 d66 d67 d68 d69 d70 d71 w R
abbrev weftref6_Fault.J2 (y1 : Int) (y2 : Int) (y3 : Int) (y4 : Int) (yg5 : Nat) (yg10 : Nat) (yg12 : Nat) (w : World) (R : Ending → World → Prop) : Prop := ∀ d0 d6 d7 d8 d9 d11 d13 d14 d15 d16 d17 d18 d19 d20 d21 d22 d23 d24 d25 d26 d27 d28 d29 d30 d31 d32 d33 d34 d35 d36 d37 d38 d39 d40 d41 d42 d43 d44 d45 d46 d47 d48 d49 d50 d51 d52 d53 d54 d55 d56 d57 d58 d59 d60 d61 d62 d63 d64 d65 d66 d67 d68 d69 d70 d71 : Value, weftref6_Fault.j2 y1 y2 y3 y4 yg5 yg10 yg12 d0 d6 d7 d8 d9 d11 d13 d14 d15 d16 d17 d18 d19 d20 d21 d22 d23 d24 d25 d26 d27 d28 d29 d30 d31 d32 d33 d34 d35 d36 d37 d38 d39 d40 d41 d42 d43 d44 d45 d46 d47 d48 d49 d50 d51 d52 d53 d54 d55 d56 d57 d58 d59 d60 d61 d62 d63 d64 d65 d66 d67 d68 d69 d70 d71 w R
abbrev weftref6_Fault.J3 (y1 : Int) (y2 : Int) (y3 : Int) (y4 : Int) (yg5 : Nat) (yg10 : Nat) (Y13 : Option Addr) (yn13 : Nat) (yc13 : Nat) (y15 : Int) (w : World) (R : Ending → World → Prop) : Prop := ∀ d0 d6 d7 d8 d9 d11 d12 d14 d16 d17 d18 d19 d20 d21 d22 d23 d24 d25 d26 d27 d28 d29 d30 d31 d32 d33 d34 d35 d36 d37 d38 d39 d40 d41 d42 d43 d44 d45 d46 d47 d48 d49 d50 d51 d52 d53 d54 d55 d56 d57 d58 d59 d60 d61 d62 d63 d64 d65 d66 d67 d68 d69 d70 d71 : Value, weftref6_Fault.j3 y1 y2 y3 y4 yg5 yg10 Y13 yn13 yc13 y15 d0 d6 d7 d8 d9 d11 d12 d14 d16 d17 d18 d19 d20 d21 d22 d23 d24 d25 d26 d27 d28 d29 d30 d31 d32 d33 d34 d35 d36 d37 d38 d39 d40 d41 d42 d43 d44 d45 d46 d47 d48 d49 d50 d51 d52 d53 d54 d55 d56 d57 d58 d59 d60 d61 d62 d63 d64 d65 d66 d67 d68 d69 d70 d71 w R
abbrev weftref6_Fault.J4 (y1 : Int) (y2 : Int) (y4 : Int) (yg5 : Nat) (yg10 : Nat) (Y13 : Option Addr) (yn13 : Nat) (yc13 : Nat) (y15 : Int) (y16 : Int) (w : World) (R : Ending → World → Prop) : Prop := ∀ d0 d3 d6 d7 d8 d9 d11 d12 d14 d17 d18 d19 d20 d21 d22 d23 d24 d25 d26 d27 d28 d29 d30 d31 d32 d33 d34 d35 d36 d37 d38 d39 d40 d41 d42 d43 d44 d45 d46 d47 d48 d49 d50 d51 d52 d53 d54 d55 d56 d57 d58 d59 d60 d61 d62 d63 d64 d65 d66 d67 d68 d69 d70 d71 : Value, weftref6_Fault.j4 y1 y2 y4 yg5 yg10 Y13 yn13 yc13 y15 y16 d0 d3 d6 d7 d8 d9 d11 d12 d14 d17 d18 d19 d20 d21 d22 d23 d24 d25 d26 d27 d28 d29 d30 d31 d32 d33 d34 d35 d36 d37 d38 d39 d40 d41 d42 d43 d44 d45 d46 d47 d48 d49 d50 d51 d52 d53 d54 d55 d56 d57 d58 d59 d60 d61 d62 d63 d64 d65 d66 d67 d68 d69 d70 d71 w R
theorem weftref6_Fault.j1_eq (y1 : Int) (y2 : Int) (y3 : Int) (y4 : Int) (yg5 : Nat) (yg10 : Nat) (yg12 : Nat) (y26 : Bool) (d0 d6 d7 d8 d9 d11 d13 d14 d15 d16 d17 d18 d19 d20 d21 d22 d23 d24 d25 d27 d28 d29 d30 d31 d32 d33 d34 d35 d36 d37 d38 d39 d40 d41 d42 d43 d44 d45 d46 d47 d48 d49 d50 d51 d52 d53 d54 d55 d56 d57 d58 d59 d60 d61 d62 d63 d64 d65 d66 d67 d68 d69 d70 d71 : Value) (w : World) (R : Ending → World → Prop) : weftref6_Fault.j1 y1 y2 y3 y4 yg5 yg10 yg12 y26 d0 d6 d7 d8 d9 d11 d13 d14 d15 d16 d17 d18 d19 d20 d21 d22 d23 d24 d25 d27 d28 d29 d30 d31 d32 d33 d34 d35 d36 d37 d38 d39 d40 d41 d42 d43 d44 d45 d46 d47 d48 d49 d50 d51 d52 d53 d54 d55 d56 d57 d58 d59 d60 d61 d62 d63 d64 d65 d66 d67 d68 d69 d70 d71 w R =
((if y26 = true then
(∃ x1 : Int, ∃ x2 : Int, ∃ b3 : Bool, ∃ b4 : Bool, ∃ x5 : Int, ∃ x6 : Int, ∃ x7 : Int, ∃ x8 : Int, ∃ x9 : Int, ∃ (A10 : Option Addr) (n10_ c10_ : Nat), ∃ (A11 : Option Addr) (n11_ c11_ : Nat), (11 = 11 ∧ At w ⟨yg12, 0, none⟩ [.int .u8 x1, .int .u16 x2, .bool b3, .bool b4, .int .i64 x5, .int .u8 x6, .int .u8 x7, .int .u32 x8, .int .u32 x9, .slice A10 n10_ c10_, .slice A11 n11_ c11_]) ∧
(May w ⟨yg10, 0, none⟩ 11 ∧
(Let (putCells w ⟨yg10, 0, none⟩ [.int .u8 x1, .int .u16 x2, .bool b3, .bool b4, .int .i64 x5, .int .u8 x6, .int .u8 x7, .int .u32 x8, .int .u32 x9, .slice A10 n10_ c10_, .slice A11 n11_ c11_] 0) fun w12 : World =>
 ∃ x13 : Int, ∃ x14 : Int, ∃ b15 : Bool, ∃ b16 : Bool, ∃ x17 : Int, ∃ x18 : Int, ∃ x19 : Int, ∃ x20 : Int, ∃ x21 : Int, ∃ (A22 : Option Addr) (n22_ c22_ : Nat), ∃ (A23 : Option Addr) (n23_ c23_ : Nat), (11 = 11 ∧ At w12 ⟨yg10, 0, none⟩ [.int .u8 x13, .int .u16 x14, .bool b15, .bool b16, .int .i64 x17, .int .u8 x18, .int .u8 x19, .int .u32 x20, .int .u32 x21, .slice A22 n22_ c22_, .slice A23 n23_ c23_]) ∧
(R (.returned (.tuple #[.agg #[.int .u8 x13, .int .u16 x14, .bool b15, .bool b16, .int .i64 x17, .int .u8 x18, .int .u8 x19, .int .u32 x20, .int .u32 x21, .slice A22 n22_ c22_, .slice A23 n23_ c23_], .int .i64 1])) w12))))
else
(Leaf (weftref6_Fault.j2 y1 y2 y3 y4 yg5 yg10 yg12 d0 d6 d7 d8 d9 d11 d13 d14 d15 d16 d17 d18 d19 d20 d21 d22 d23 d24 d25 (.bool y26) d27 d28 d29 d30 d31 d32 d33 d34 d35 d36 d37 d38 d39 d40 d41 d42 d43 d44 d45 d46 d47 d48 d49 d50 d51 d52 d53 d54 d55 d56 d57 d58 d59 d60 d61 d62 d63 d64 d65 d66 d67 d68 d69 d70 d71 w R)))) := by kernel_rfl
theorem weftref6_Fault.j2_eq (y1 : Int) (y2 : Int) (y3 : Int) (y4 : Int) (yg5 : Nat) (yg10 : Nat) (yg12 : Nat) (d0 d6 d7 d8 d9 d11 d13 d14 d15 d16 d17 d18 d19 d20 d21 d22 d23 d24 d25 d26 d27 d28 d29 d30 d31 d32 d33 d34 d35 d36 d37 d38 d39 d40 d41 d42 d43 d44 d45 d46 d47 d48 d49 d50 d51 d52 d53 d54 d55 d56 d57 d58 d59 d60 d61 d62 d63 d64 d65 d66 d67 d68 d69 d70 d71 : Value) (w : World) (R : Ending → World → Prop) : weftref6_Fault.j2 y1 y2 y3 y4 yg5 yg10 yg12 d0 d6 d7 d8 d9 d11 d13 d14 d15 d16 d17 d18 d19 d20 d21 d22 d23 d24 d25 d26 d27 d28 d29 d30 d31 d32 d33 d34 d35 d36 d37 d38 d39 d40 d41 d42 d43 d44 d45 d46 d47 d48 d49 d50 d51 d52 d53 d54 d55 d56 d57 d58 d59 d60 d61 d62 d63 d64 d65 d66 d67 d68 d69 d70 d71 w R =
(∃ x1 : Int, ∃ x2 : Int, ∃ b3 : Bool, ∃ b4 : Bool, ∃ x5 : Int, ∃ x6 : Int, ∃ x7 : Int, ∃ x8 : Int, ∃ x9 : Int, ∃ (A10 : Option Addr) (n10_ c10_ : Nat), ∃ (A11 : Option Addr) (n11_ c11_ : Nat), (11 = 11 ∧ At w ⟨yg5, 0, none⟩ [.int .u8 x1, .int .u16 x2, .bool b3, .bool b4, .int .i64 x5, .int .u8 x6, .int .u8 x7, .int .u32 x8, .int .u32 x9, .slice A10 n10_ c10_, .slice A11 n11_ c11_]) ∧
(Calls Tryd.prog 68 #[.agg #[.int .u8 x1, .int .u16 x2, .bool b3, .bool b4, .int .i64 x5, .int .u8 x6, .int .u8 x7, .int .u32 x8, .int .u32 x9, .slice A10 n10_ c10_, .slice A11 n11_ c11_]] w (fun (e13 : Ending) (w12 : World) =>
 ∃ (A14 : Option Addr) (n14_ c14_ : Nat), ∃ x15 : Int, e13 = .returned (.tuple #[.slice A14 n14_ c14_, .int .i64 x15]) ∧
((if (x15 != 0) = true then
(∃ x16 : Int, ∃ x17 : Int, ∃ b18 : Bool, ∃ b19 : Bool, ∃ x20 : Int, ∃ x21 : Int, ∃ x22 : Int, ∃ x23 : Int, ∃ x24 : Int, ∃ (A25 : Option Addr) (n25_ c25_ : Nat), ∃ (A26 : Option Addr) (n26_ c26_ : Nat), (11 = 11 ∧ At w12 ⟨yg12, 0, none⟩ [.int .u8 x16, .int .u16 x17, .bool b18, .bool b19, .int .i64 x20, .int .u8 x21, .int .u8 x22, .int .u32 x23, .int .u32 x24, .slice A25 n25_ c25_, .slice A26 n26_ c26_]) ∧
(May w12 ⟨yg10, 0, none⟩ 11 ∧
(Let (putCells w12 ⟨yg10, 0, none⟩ [.int .u8 x16, .int .u16 x17, .bool b18, .bool b19, .int .i64 x20, .int .u8 x21, .int .u8 x22, .int .u32 x23, .int .u32 x24, .slice A25 n25_ c25_, .slice A26 n26_ c26_] 0) fun w27 : World =>
 ∃ x28 : Int, ∃ x29 : Int, ∃ b30 : Bool, ∃ b31 : Bool, ∃ x32 : Int, ∃ x33 : Int, ∃ x34 : Int, ∃ x35 : Int, ∃ x36 : Int, ∃ (A37 : Option Addr) (n37_ c37_ : Nat), ∃ (A38 : Option Addr) (n38_ c38_ : Nat), (11 = 11 ∧ At w27 ⟨yg10, 0, none⟩ [.int .u8 x28, .int .u16 x29, .bool b30, .bool b31, .int .i64 x32, .int .u8 x33, .int .u8 x34, .int .u32 x35, .int .u32 x36, .slice A37 n37_ c37_, .slice A38 n38_ c38_]) ∧
(R (.returned (.tuple #[.agg #[.int .u8 x28, .int .u16 x29, .bool b30, .bool b31, .int .i64 x32, .int .u8 x33, .int .u8 x34, .int .u32 x35, .int .u32 x36, .slice A37 n37_ c37_, .slice A38 n38_ c38_], .int .i64 x15])) w27))))
else
(∃ x39 : Int, ∃ x40 : Int, ∃ b41 : Bool, ∃ b42 : Bool, ∃ x43 : Int, ∃ x44 : Int, ∃ x45 : Int, ∃ x46 : Int, ∃ x47 : Int, ∃ (A48 : Option Addr) (n48_ c48_ : Nat), ∃ (A49 : Option Addr) (n49_ c49_ : Nat), (11 = 11 ∧ At w12 ⟨yg5, 0, none⟩ [.int .u8 x39, .int .u16 x40, .bool b41, .bool b42, .int .i64 x43, .int .u8 x44, .int .u8 x45, .int .u32 x46, .int .u32 x47, .slice A48 n48_ c48_, .slice A49 n49_ c49_]) ∧
(Calls Tryd.prog 69 #[.agg #[.int .u8 x39, .int .u16 x40, .bool b41, .bool b42, .int .i64 x43, .int .u8 x44, .int .u8 x45, .int .u32 x46, .int .u32 x47, .slice A48 n48_ c48_, .slice A49 n49_ c49_]] w12 (fun (e51 : Ending) (w50 : World) =>
 ∃ b52 : Bool, e51 = .returned (.bool b52) ∧
((if b52 = true then
(∃ x53 : Int, ∃ x54 : Int, ∃ b55 : Bool, ∃ b56 : Bool, ∃ x57 : Int, ∃ x58 : Int, ∃ x59 : Int, ∃ x60 : Int, ∃ x61 : Int, ∃ (A62 : Option Addr) (n62_ c62_ : Nat), ∃ (A63 : Option Addr) (n63_ c63_ : Nat), (11 = 11 ∧ At w50 ⟨yg12, 0, none⟩ [.int .u8 x53, .int .u16 x54, .bool b55, .bool b56, .int .i64 x57, .int .u8 x58, .int .u8 x59, .int .u32 x60, .int .u32 x61, .slice A62 n62_ c62_, .slice A63 n63_ c63_]) ∧
(May w50 ⟨yg10, 0, none⟩ 11 ∧
(Let (putCells w50 ⟨yg10, 0, none⟩ [.int .u8 x53, .int .u16 x54, .bool b55, .bool b56, .int .i64 x57, .int .u8 x58, .int .u8 x59, .int .u32 x60, .int .u32 x61, .slice A62 n62_ c62_, .slice A63 n63_ c63_] 0) fun w64 : World =>
 ∃ x65 : Int, ∃ x66 : Int, ∃ b67 : Bool, ∃ b68 : Bool, ∃ x69 : Int, ∃ x70 : Int, ∃ x71 : Int, ∃ x72 : Int, ∃ x73 : Int, ∃ (A74 : Option Addr) (n74_ c74_ : Nat), ∃ (A75 : Option Addr) (n75_ c75_ : Nat), (11 = 11 ∧ At w64 ⟨yg10, 0, none⟩ [.int .u8 x65, .int .u16 x66, .bool b67, .bool b68, .int .i64 x69, .int .u8 x70, .int .u8 x71, .int .u32 x72, .int .u32 x73, .slice A74 n74_ c74_, .slice A75 n75_ c75_]) ∧
(R (.returned (.tuple #[.agg #[.int .u8 x65, .int .u16 x66, .bool b67, .bool b68, .int .i64 x69, .int .u8 x70, .int .u8 x71, .int .u32 x72, .int .u32 x73, .slice A74 n74_ c74_, .slice A75 n75_ c75_], .int .i64 61])) w64))))
else
(∃ (A76 : Option Addr) (n76_ c76_ : Nat), w50.cell? ⟨yg5, 9, none⟩ = some (.slice A76 n76_ c76_) ∧
(Let (IntKind.i64.wrap (20 + (n76_ : Int))) fun x77 : Int =>
 Let (IntKind.i64.wrap (x77 + 8)) fun x78 : Int =>
(if decide (x78 > (n14_ : Int)) = true then
(Leaf (weftref6_Fault.j3 y1 y2 y3 y4 yg5 yg10 A14 n14_ c14_ (n14_ : Int) d0 d6 d7 d8 d9 d11 (.pointer (some ⟨yg12, 0, none⟩)) (.int .i64 x15) d16 d17 d18 d19 d20 d21 d22 d23 d24 d25 d26 d27 (.tuple #[.slice A14 n14_ c14_, .int .i64 x15]) (.agg #[.int .u8 x1, .int .u16 x2, .bool b3, .bool b4, .int .i64 x5, .int .u8 x6, .int .u8 x7, .int .u32 x8, .int .u32 x9, .slice A10 n10_ c10_, .slice A11 n11_ c11_]) (.tuple #[.slice A14 n14_ c14_, .int .i64 x15]) (.slice A14 n14_ c14_) (.int .i64 x15) (.int .i64 x15) (.bool (x15 != 0)) d35 d36 (.agg #[.int .u8 x39, .int .u16 x40, .bool b41, .bool b42, .int .i64 x43, .int .u8 x44, .int .u8 x45, .int .u32 x46, .int .u32 x47, .slice A48 n48_ c48_, .slice A49 n49_ c49_]) (.bool b52) d39 (.pointer (some ⟨yg5, 0, none⟩)) (.pointer (some ⟨yg5, 9, none⟩)) (.slice A76 n76_ c76_) (.int .i64 (n76_ : Int)) (.int .i64 x77) (.int .i64 x78) (.int .i64 x78) (.slice A14 n14_ c14_) (.int .i64 (n14_ : Int)) (.bool (decide (x78 > (n14_ : Int)))) (.slice A14 n14_ c14_) (.int .i64 (n14_ : Int)) d52 d53 d54 d55 d56 d57 d58 d59 d60 d61 d62 d63 d64 d65 d66 d67 d68 d69 d70 d71 w50 R))
else
(Leaf (weftref6_Fault.j3 y1 y2 y3 y4 yg5 yg10 A14 n14_ c14_ x78 d0 d6 d7 d8 d9 d11 (.pointer (some ⟨yg12, 0, none⟩)) (.int .i64 x15) d16 d17 d18 d19 d20 d21 d22 d23 d24 d25 d26 d27 (.tuple #[.slice A14 n14_ c14_, .int .i64 x15]) (.agg #[.int .u8 x1, .int .u16 x2, .bool b3, .bool b4, .int .i64 x5, .int .u8 x6, .int .u8 x7, .int .u32 x8, .int .u32 x9, .slice A10 n10_ c10_, .slice A11 n11_ c11_]) (.tuple #[.slice A14 n14_ c14_, .int .i64 x15]) (.slice A14 n14_ c14_) (.int .i64 x15) (.int .i64 x15) (.bool (x15 != 0)) d35 d36 (.agg #[.int .u8 x39, .int .u16 x40, .bool b41, .bool b42, .int .i64 x43, .int .u8 x44, .int .u8 x45, .int .u32 x46, .int .u32 x47, .slice A48 n48_ c48_, .slice A49 n49_ c49_]) (.bool b52) d39 (.pointer (some ⟨yg5, 0, none⟩)) (.pointer (some ⟨yg5, 9, none⟩)) (.slice A76 n76_ c76_) (.int .i64 (n76_ : Int)) (.int .i64 x77) (.int .i64 x78) (.int .i64 x78) (.slice A14 n14_ c14_) (.int .i64 (n14_ : Int)) (.bool (decide (x78 > (n14_ : Int)))) d50 d51 d52 d53 d54 d55 d56 d57 d58 d59 d60 d61 d62 d63 d64 d65 d66 d67 d68 d69 d70 d71 w50 R))))))))))))))) := by kernel_rfl
theorem weftref6_Fault.j3_eq (y1 : Int) (y2 : Int) (y3 : Int) (y4 : Int) (yg5 : Nat) (yg10 : Nat) (Y13 : Option Addr) (yn13 : Nat) (yc13 : Nat) (y15 : Int) (d0 d6 d7 d8 d9 d11 d12 d14 d16 d17 d18 d19 d20 d21 d22 d23 d24 d25 d26 d27 d28 d29 d30 d31 d32 d33 d34 d35 d36 d37 d38 d39 d40 d41 d42 d43 d44 d45 d46 d47 d48 d49 d50 d51 d52 d53 d54 d55 d56 d57 d58 d59 d60 d61 d62 d63 d64 d65 d66 d67 d68 d69 d70 d71 : Value) (w : World) (R : Ending → World → Prop) : weftref6_Fault.j3 y1 y2 y3 y4 yg5 yg10 Y13 yn13 yc13 y15 d0 d6 d7 d8 d9 d11 d12 d14 d16 d17 d18 d19 d20 d21 d22 d23 d24 d25 d26 d27 d28 d29 d30 d31 d32 d33 d34 d35 d36 d37 d38 d39 d40 d41 d42 d43 d44 d45 d46 d47 d48 d49 d50 d51 d52 d53 d54 d55 d56 d57 d58 d59 d60 d61 d62 d63 d64 d65 d66 d67 d68 d69 d70 d71 w R =
((if (y1 == 12) = true then
(Let (IntKind.i64.wrap (y3 * 16777216)) fun x1 : Int =>
 Leaf (weftref6_Fault.j4 y1 y2 y4 yg5 yg10 Y13 yn13 yc13 y15 x1 d0 (.int .i64 y3) d6 d7 d8 d9 d11 d12 d14 d17 d18 d19 d20 d21 d22 d23 d24 d25 d26 d27 d28 d29 d30 d31 d32 d33 d34 d35 d36 d37 d38 d39 d40 d41 d42 d43 d44 d45 d46 d47 d48 d49 d50 d51 (.int .i64 y3) (.int .u8 y1) (.bool (y1 == 12)) (.int .i64 y3) (.int .i64 x1) d57 d58 d59 d60 d61 d62 d63 d64 d65 d66 d67 d68 d69 d70 d71 w R))
else
(Leaf (weftref6_Fault.j4 y1 y2 y4 yg5 yg10 Y13 yn13 yc13 y15 y3 d0 (.int .i64 y3) d6 d7 d8 d9 d11 d12 d14 d17 d18 d19 d20 d21 d22 d23 d24 d25 d26 d27 d28 d29 d30 d31 d32 d33 d34 d35 d36 d37 d38 d39 d40 d41 d42 d43 d44 d45 d46 d47 d48 d49 d50 d51 (.int .i64 y3) (.int .u8 y1) (.bool (y1 == 12)) d55 d56 d57 d58 d59 d60 d61 d62 d63 d64 d65 d66 d67 d68 d69 d70 d71 w R)))) := by kernel_rfl
theorem weftref6_Fault.j4_eq (y1 : Int) (y2 : Int) (y4 : Int) (yg5 : Nat) (yg10 : Nat) (Y13 : Option Addr) (yn13 : Nat) (yc13 : Nat) (y15 : Int) (y16 : Int) (d0 d3 d6 d7 d8 d9 d11 d12 d14 d17 d18 d19 d20 d21 d22 d23 d24 d25 d26 d27 d28 d29 d30 d31 d32 d33 d34 d35 d36 d37 d38 d39 d40 d41 d42 d43 d44 d45 d46 d47 d48 d49 d50 d51 d52 d53 d54 d55 d56 d57 d58 d59 d60 d61 d62 d63 d64 d65 d66 d67 d68 d69 d70 d71 : Value) (w : World) (R : Ending → World → Prop) : weftref6_Fault.j4 y1 y2 y4 yg5 yg10 Y13 yn13 yc13 y15 y16 d0 d3 d6 d7 d8 d9 d11 d12 d14 d17 d18 d19 d20 d21 d22 d23 d24 d25 d26 d27 d28 d29 d30 d31 d32 d33 d34 d35 d36 d37 d38 d39 d40 d41 d42 d43 d44 d45 d46 d47 d48 d49 d50 d51 d52 d53 d54 d55 d56 d57 d58 d59 d60 d61 d62 d63 d64 d65 d66 d67 d68 d69 d70 d71 w R =
(∃ S1 : World → Prop, S1 w.drew ∧
(Let (w.drew) fun w2 : World =>
 ∃ x3 : Int, (∀ w', S1 w' → w'.cell? ⟨yg5, 7, none⟩ = some (.int .u32 x3)) ∧
(Let (IntKind.u32.wrap y16) fun x4 : Int =>
(0 ≤ y15 ∧ y15 ≤ (yc13 : Int)) ∧
(Calls Tryd.prog 70 #[.int .u8 0, .int .u32 y4, .int .u32 x3, .agg #[.int .u8 y1, .int .u8 y2, .int .u32 x4, .slice Y13 y15.toNat yc13]] w2 (fun (e6 : Ending) (w5 : World) =>
 ∃ x7 : Int, ∃ x8 : Int, ∃ b9 : Bool, ∃ b10 : Bool, ∃ x11 : Int, ∃ x12 : Int, ∃ x13 : Int, ∃ x14 : Int, ∃ x15 : Int, ∃ (A16 : Option Addr) (n16_ c16_ : Nat), ∃ (A17 : Option Addr) (n17_ c17_ : Nat), ∃ x18 : Int, e6 = .returned (.tuple #[.agg #[.int .u8 x7, .int .u16 x8, .bool b9, .bool b10, .int .i64 x11, .int .u8 x12, .int .u8 x13, .int .u32 x14, .int .u32 x15, .slice A16 n16_ c16_, .slice A17 n17_ c17_], .int .i64 x18]) ∧
(S1 w5 ∧
(May w5 ⟨yg10, 0, none⟩ 11 ∧
(Let (putCells w5 ⟨yg10, 0, none⟩ [.int .u8 x7, .int .u16 x8, .bool b9, .bool b10, .int .i64 x11, .int .u8 x12, .int .u8 x13, .int .u32 x14, .int .u32 x15, .slice A16 n16_ c16_, .slice A17 n17_ c17_] 0) fun w19 : World =>
 S1 w19 ∧
(∃ x20 : Int, ∃ x21 : Int, ∃ b22 : Bool, ∃ b23 : Bool, ∃ x24 : Int, ∃ x25 : Int, ∃ x26 : Int, ∃ x27 : Int, ∃ x28 : Int, ∃ (A29 : Option Addr) (n29_ c29_ : Nat), ∃ (A30 : Option Addr) (n30_ c30_ : Nat), (11 = 11 ∧ At w19 ⟨yg10, 0, none⟩ [.int .u8 x20, .int .u16 x21, .bool b22, .bool b23, .int .i64 x24, .int .u8 x25, .int .u8 x26, .int .u32 x27, .int .u32 x28, .slice A29 n29_ c29_, .slice A30 n30_ c30_]) ∧
(R (.returned (.tuple #[.agg #[.int .u8 x20, .int .u16 x21, .bool b22, .bool b23, .int .i64 x24, .int .u8 x25, .int .u8 x26, .int .u32 x27, .int .u32 x28, .slice A29 n29_ c29_, .slice A30 n30_ c30_], .int .i64 x18])) w19)))))))))) := by kernel_rfl
def weftref6_Fault.s (i0_0 : Int) (i0_1 : Int) (i0_2 : Bool) (i0_3 : Bool) (i0_4 : Int) (i0_5 : Int) (i0_6 : Int) (i0_7 : Int) (i0_8 : Int) (I0_9 : Option Addr) (in0_9 : Nat) (ic0_9 : Nat) (I0_10 : Option Addr) (in0_10 : Nat) (ic0_10 : Nat) (i1 : Int) (i2 : Int) (i3 : Int) (i4 : Int) (w : World) (R : Ending → World → Prop) : Prop :=
(Let (w.heap.size) fun g1 : Nat =>
 Let (w.alloc (.cells #[.int .u8 i0_0, .int .u16 i0_1, .bool i0_2, .bool i0_3, .int .i64 i0_4, .int .u8 i0_5, .int .u8 i0_6, .int .u32 i0_7, .int .u32 i0_8, .slice I0_9 in0_9 ic0_9, .slice I0_10 in0_10 ic0_10] 29)) fun w2 : World =>
 Let (w2.heap.size) fun g3 : Nat =>
 Let (w2.alloc (.cells #[.int .u8 0, .int .u16 0, .bool false, .bool false, .int .i64 0, .int .u8 0, .int .u8 0, .int .u32 0, .int .u32 0, .slice none 0 0, .slice none 0 0] 29)) fun w4 : World =>
 Let (w4.heap.size) fun g5 : Nat =>
 Let (w4.alloc (.cells #[.int .u8 0, .int .u16 0, .bool false, .bool false, .int .i64 0, .int .u8 0, .int .u8 0, .int .u32 0, .int .u32 0, .slice none 0 0, .slice none 0 0] 29)) fun w6 : World =>
 Calls Tryd.prog 66 #[.int .u8 i1, .int .u8 i2, .int .i64 i3] w6 (fun (e8 : Ending) (w7 : World) =>
 ∃ b9 : Bool, e8 = .returned (.bool b9) ∧
((if (!b9) = true then
(Leaf (weftref6_Fault.j1 i1 i2 i3 i4 g1 g3 g5 true (.agg #[.int .u8 i0_0, .int .u16 i0_1, .bool i0_2, .bool i0_3, .int .i64 i0_4, .int .u8 i0_5, .int .u8 i0_6, .int .u32 i0_7, .int .u32 i0_8, .slice I0_9 in0_9 ic0_9, .slice I0_10 in0_10 ic0_10]) undef undef undef undef (.int .i64 0) undef undef undef undef (.int .u8 i1) (.int .u8 i2) (.int .i64 i3) (.bool b9) (.bool (!b9)) (.bool true) undef undef undef undef undef undef undef undef undef undef undef undef undef undef undef undef undef undef undef undef undef undef undef undef undef undef undef undef undef undef undef undef undef undef undef undef undef undef undef undef undef undef undef undef undef undef undef undef w7 R))
else
(Calls Tryd.prog 67 #[.int .u32 i4] w7 (fun (e11 : Ending) (w10 : World) =>
 ∃ b12 : Bool, e11 = .returned (.bool b12) ∧
(Leaf (weftref6_Fault.j1 i1 i2 i3 i4 g1 g3 g5 (!b12) (.agg #[.int .u8 i0_0, .int .u16 i0_1, .bool i0_2, .bool i0_3, .int .i64 i0_4, .int .u8 i0_5, .int .u8 i0_6, .int .u32 i0_7, .int .u32 i0_8, .slice I0_9 in0_9 ic0_9, .slice I0_10 in0_10 ic0_10]) undef undef undef undef (.int .i64 0) undef undef undef undef (.int .u8 i1) (.int .u8 i2) (.int .i64 i3) (.bool b9) (.bool (!b9)) (.bool false) (.int .u32 i4) (.bool b12) (.bool (!b12)) undef undef undef undef undef undef undef undef undef undef undef undef undef undef undef undef undef undef undef undef undef undef undef undef undef undef undef undef undef undef undef undef undef undef undef undef undef undef undef undef undef undef undef undef undef w10 R))))))))
theorem weftref6_Fault.s_eq (i0_0 : Int) (i0_1 : Int) (i0_2 : Bool) (i0_3 : Bool) (i0_4 : Int) (i0_5 : Int) (i0_6 : Int) (i0_7 : Int) (i0_8 : Int) (I0_9 : Option Addr) (in0_9 : Nat) (ic0_9 : Nat) (I0_10 : Option Addr) (in0_10 : Nat) (ic0_10 : Nat) (i1 : Int) (i2 : Int) (i3 : Int) (i4 : Int) (w : World) (R : Ending → World → Prop) : seg Tryd.prog entE weftref6_Fault.ords weftref6_Fault.joins Tryd.f47 [] [] [] ([.agg #[.int .u8 i0_0, .int .u16 i0_1, .bool i0_2, .bool i0_3, .int .i64 i0_4, .int .u8 i0_5, .int .u8 i0_6, .int .u32 i0_7, .int .u32 i0_8, .slice I0_9 in0_9 ic0_9, .slice I0_10 in0_10 ic0_10], .int .u8 i1, .int .u8 i2, .int .i64 i3, .int .u32 i4] ++ List.replicate (Tryd.f47.ntmps - ([.agg #[.int .u8 i0_0, .int .u16 i0_1, .bool i0_2, .bool i0_3, .int .i64 i0_4, .int .u8 i0_5, .int .u8 i0_6, .int .u32 i0_7, .int .u32 i0_8, .slice I0_9 in0_9 ic0_9, .slice I0_10 in0_10 ic0_10], .int .u8 i1, .int .u8 i2, .int .i64 i3, .int .u32 i4] : List Value).length) undef) w R = weftref6_Fault.s i0_0 i0_1 i0_2 i0_3 i0_4 i0_5 i0_6 i0_7 i0_8 I0_9 in0_9 ic0_9 I0_10 in0_10 ic0_10 i1 i2 i3 i4 w R := by kernel_rfl
theorem weftref6_Fault.run {i0_0 : Int} {i0_1 : Int} {i0_2 : Bool} {i0_3 : Bool} {i0_4 : Int} {i0_5 : Int} {i0_6 : Int} {i0_7 : Int} {i0_8 : Int} {I0_9 : Option Addr} {in0_9 : Nat} {ic0_9 : Nat} {I0_10 : Option Addr} {in0_10 : Nat} {ic0_10 : Nat} {i1 : Int} {i2 : Int} {i3 : Int} {i4 : Int} {w : World} {R : Ending → World → Prop} (h : weftref6_Fault.s i0_0 i0_1 i0_2 i0_3 i0_4 i0_5 i0_6 i0_7 i0_8 I0_9 in0_9 ic0_9 I0_10 in0_10 ic0_10 i1 i2 i3 i4 w R) : Calls Tryd.prog 47 #[.agg #[.int .u8 i0_0, .int .u16 i0_1, .bool i0_2, .bool i0_3, .int .i64 i0_4, .int .u8 i0_5, .int .u8 i0_6, .int .u32 i0_7, .int .u32 i0_8, .slice I0_9 in0_9 ic0_9, .slice I0_10 in0_10 ic0_10], .int .u8 i1, .int .u8 i2, .int .i64 i3, .int .u32 i4] w R :=
  calls_seg ents mixed Tryd.func47 rfl (by rw [weftref6_Fault.s_eq]; exact h)
/-! ### weftref6_Echo: function 54 -/
def weftref6_Echo.ords : Nat → List (Nat × Bool)
  | _ => []
def weftref6_Echo.joins (p : List Nat) : Bool := p == [1, 0, 1, 1, 1, 1] || p == [1, 1, 1, 1, 1] || p == [1, 0, 1, 1, 1, 1, 1] || p == [1, 1, 1, 1, 1, 1]
def weftref6_Echo.j1 (yg1 : Nat) (yg2 : Nat) (yg4 : Nat) (yg5 : Nat) (y23 : Bool) (d0 d3 d6 d7 d8 d9 d10 d11 d12 d13 d14 d15 d16 d17 d18 d19 d20 d21 d22 d24 d25 d26 d27 d28 d29 d30 d31 d32 d33 d34 d35 d36 d37 d38 d39 d40 d41 d42 d43 d44 d45 d46 d47 d48 d49 d50 d51 : Value) (w : World) (R : Ending → World → Prop) : Prop :=
  seg Tryd.prog entE weftref6_Echo.ords weftref6_Echo.joins Tryd.f54 [1, 1, 1, 1, 0, 1] [1, 0, 1, 1, 1, 1] [] [d0, .pointer (some ⟨yg1, 0, none⟩), .pointer (some ⟨yg2, 0, none⟩), d3, .pointer (some ⟨yg4, 0, none⟩), .pointer (some ⟨yg5, 0, none⟩), d6, d7, d8, d9, d10, d11, d12, d13, d14, d15, d16, d17, d18, d19, d20, d21, d22, .bool y23, d24, d25, d26, d27, d28, d29, d30, d31, d32, d33, d34, d35, d36, d37, d38, d39, d40, d41, d42, d43, d44, d45, d46, d47, d48, d49, d50, d51] w R
def weftref6_Echo.j2 (yg1 : Nat) (yg2 : Nat) (yg4 : Nat) (yg5 : Nat) (d0 d3 d6 d7 d8 d9 d10 d11 d12 d13 d14 d15 d16 d17 d18 d19 d20 d21 d22 d23 d24 d25 d26 d27 d28 d29 d30 d31 d32 d33 d34 d35 d36 d37 d38 d39 d40 d41 d42 d43 d44 d45 d46 d47 d48 d49 d50 d51 : Value) (w : World) (R : Ending → World → Prop) : Prop :=
  seg Tryd.prog entE weftref6_Echo.ords weftref6_Echo.joins Tryd.f54 [1, 1, 1, 1, 1] [1, 1, 1, 1, 1] [] [d0, .pointer (some ⟨yg1, 0, none⟩), .pointer (some ⟨yg2, 0, none⟩), d3, .pointer (some ⟨yg4, 0, none⟩), .pointer (some ⟨yg5, 0, none⟩), d6, d7, d8, d9, d10, d11, d12, d13, d14, d15, d16, d17, d18, d19, d20, d21, d22, d23, d24, d25, d26, d27, d28, d29, d30, d31, d32, d33, d34, d35, d36, d37, d38, d39, d40, d41, d42, d43, d44, d45, d46, d47, d48, d49, d50, d51] w R
def weftref6_Echo.j3 (yg1 : Nat) (yg2 : Nat) (yg4 : Nat) (yg5 : Nat) (y36 : Bool) (d0 d3 d6 d7 d8 d9 d10 d11 d12 d13 d14 d15 d16 d17 d18 d19 d20 d21 d22 d23 d24 d25 d26 d27 d28 d29 d30 d31 d32 d33 d34 d35 d37 d38 d39 d40 d41 d42 d43 d44 d45 d46 d47 d48 d49 d50 d51 : Value) (w : World) (R : Ending → World → Prop) : Prop :=
  seg Tryd.prog entE weftref6_Echo.ords weftref6_Echo.joins Tryd.f54 [1, 1, 1, 1, 1, 0, 1] [1, 0, 1, 1, 1, 1, 1] [] [d0, .pointer (some ⟨yg1, 0, none⟩), .pointer (some ⟨yg2, 0, none⟩), d3, .pointer (some ⟨yg4, 0, none⟩), .pointer (some ⟨yg5, 0, none⟩), d6, d7, d8, d9, d10, d11, d12, d13, d14, d15, d16, d17, d18, d19, d20, d21, d22, d23, d24, d25, d26, d27, d28, d29, d30, d31, d32, d33, d34, d35, .bool y36, d37, d38, d39, d40, d41, d42, d43, d44, d45, d46, d47, d48, d49, d50, d51] w R
def weftref6_Echo.j4 (yg1 : Nat) (yg2 : Nat) (yg5 : Nat) (d0 d3 d4 d6 d7 d8 d9 d10 d11 d12 d13 d14 d15 d16 d17 d18 d19 d20 d21 d22 d23 d24 d25 d26 d27 d28 d29 d30 d31 d32 d33 d34 d35 d36 d37 d38 d39 d40 d41 d42 d43 d44 d45 d46 d47 d48 d49 d50 d51 : Value) (w : World) (R : Ending → World → Prop) : Prop :=
  seg Tryd.prog entE weftref6_Echo.ords weftref6_Echo.joins Tryd.f54 [1, 1, 1, 1, 1, 1] [1, 1, 1, 1, 1, 1] [] [d0, .pointer (some ⟨yg1, 0, none⟩), .pointer (some ⟨yg2, 0, none⟩), d3, d4, .pointer (some ⟨yg5, 0, none⟩), d6, d7, d8, d9, d10, d11, d12, d13, d14, d15, d16, d17, d18, d19, d20, d21, d22, d23, d24, d25, d26, d27, d28, d29, d30, d31, d32, d33, d34, d35, d36, d37, d38, d39, d40, d41, d42, d43, d44, d45, d46, d47, d48, d49, d50, d51] w R
abbrev weftref6_Echo.J1 (yg1 : Nat) (yg2 : Nat) (yg4 : Nat) (yg5 : Nat) (y23 : Bool) (w : World) (R : Ending → World → Prop) : Prop := ∀ d0 d3 d6 d7 d8 d9 d10 d11 d12 d13 d14 d15 d16 d17 d18 d19 d20 d21 d22 d24 d25 d26 d27 d28 d29 d30 d31 d32 d33 d34 d35 d36 d37 d38 d39 d40 d41 d42 d43 d44 d45 d46 d47 d48 d49 d50 d51 : Value, weftref6_Echo.j1 yg1 yg2 yg4 yg5 y23 d0 d3 d6 d7 d8 d9 d10 d11 d12 d13 d14 d15 d16 d17 d18 d19 d20 d21 d22 d24 d25 d26 d27 d28 d29 d30 d31 d32 d33 d34 d35 d36 d37 d38 d39 d40 d41 d42 d43 d44 d45 d46 d47 d48 d49 d50 d51 w R
abbrev weftref6_Echo.J2 (yg1 : Nat) (yg2 : Nat) (yg4 : Nat) (yg5 : Nat) (w : World) (R : Ending → World → Prop) : Prop := ∀ d0 d3 d6 d7 d8 d9 d10 d11 d12 d13 d14 d15 d16 d17 d18 d19 d20 d21 d22 d23 d24 d25 d26 d27 d28 d29 d30 d31 d32 d33 d34 d35 d36 d37 d38 d39 d40 d41 d42 d43 d44 d45 d46 d47 d48 d49 d50 d51 : Value, weftref6_Echo.j2 yg1 yg2 yg4 yg5 d0 d3 d6 d7 d8 d9 d10 d11 d12 d13 d14 d15 d16 d17 d18 d19 d20 d21 d22 d23 d24 d25 d26 d27 d28 d29 d30 d31 d32 d33 d34 d35 d36 d37 d38 d39 d40 d41 d42 d43 d44 d45 d46 d47 d48 d49 d50 d51 w R
abbrev weftref6_Echo.J3 (yg1 : Nat) (yg2 : Nat) (yg4 : Nat) (yg5 : Nat) (y36 : Bool) (w : World) (R : Ending → World → Prop) : Prop := ∀ d0 d3 d6 d7 d8 d9 d10 d11 d12 d13 d14 d15 d16 d17 d18 d19 d20 d21 d22 d23 d24 d25 d26 d27 d28 d29 d30 d31 d32 d33 d34 d35 d37 d38 d39 d40 d41 d42 d43 d44 d45 d46 d47 d48 d49 d50 d51 : Value, weftref6_Echo.j3 yg1 yg2 yg4 yg5 y36 d0 d3 d6 d7 d8 d9 d10 d11 d12 d13 d14 d15 d16 d17 d18 d19 d20 d21 d22 d23 d24 d25 d26 d27 d28 d29 d30 d31 d32 d33 d34 d35 d37 d38 d39 d40 d41 d42 d43 d44 d45 d46 d47 d48 d49 d50 d51 w R
abbrev weftref6_Echo.J4 (yg1 : Nat) (yg2 : Nat) (yg5 : Nat) (w : World) (R : Ending → World → Prop) : Prop := ∀ d0 d3 d4 d6 d7 d8 d9 d10 d11 d12 d13 d14 d15 d16 d17 d18 d19 d20 d21 d22 d23 d24 d25 d26 d27 d28 d29 d30 d31 d32 d33 d34 d35 d36 d37 d38 d39 d40 d41 d42 d43 d44 d45 d46 d47 d48 d49 d50 d51 : Value, weftref6_Echo.j4 yg1 yg2 yg5 d0 d3 d4 d6 d7 d8 d9 d10 d11 d12 d13 d14 d15 d16 d17 d18 d19 d20 d21 d22 d23 d24 d25 d26 d27 d28 d29 d30 d31 d32 d33 d34 d35 d36 d37 d38 d39 d40 d41 d42 d43 d44 d45 d46 d47 d48 d49 d50 d51 w R
theorem weftref6_Echo.j1_eq (yg1 : Nat) (yg2 : Nat) (yg4 : Nat) (yg5 : Nat) (y23 : Bool) (d0 d3 d6 d7 d8 d9 d10 d11 d12 d13 d14 d15 d16 d17 d18 d19 d20 d21 d22 d24 d25 d26 d27 d28 d29 d30 d31 d32 d33 d34 d35 d36 d37 d38 d39 d40 d41 d42 d43 d44 d45 d46 d47 d48 d49 d50 d51 : Value) (w : World) (R : Ending → World → Prop) : weftref6_Echo.j1 yg1 yg2 yg4 yg5 y23 d0 d3 d6 d7 d8 d9 d10 d11 d12 d13 d14 d15 d16 d17 d18 d19 d20 d21 d22 d24 d25 d26 d27 d28 d29 d30 d31 d32 d33 d34 d35 d36 d37 d38 d39 d40 d41 d42 d43 d44 d45 d46 d47 d48 d49 d50 d51 w R =
((if y23 = true then
(∃ x1 : Int, ∃ x2 : Int, ∃ b3 : Bool, ∃ b4 : Bool, ∃ x5 : Int, ∃ x6 : Int, ∃ x7 : Int, ∃ x8 : Int, ∃ x9 : Int, ∃ (A10 : Option Addr) (n10_ c10_ : Nat), ∃ (A11 : Option Addr) (n11_ c11_ : Nat), (11 = 11 ∧ At w ⟨yg4, 0, none⟩ [.int .u8 x1, .int .u16 x2, .bool b3, .bool b4, .int .i64 x5, .int .u8 x6, .int .u8 x7, .int .u32 x8, .int .u32 x9, .slice A10 n10_ c10_, .slice A11 n11_ c11_]) ∧
(May w ⟨yg2, 0, none⟩ 11 ∧
(Let (putCells w ⟨yg2, 0, none⟩ [.int .u8 x1, .int .u16 x2, .bool b3, .bool b4, .int .i64 x5, .int .u8 x6, .int .u8 x7, .int .u32 x8, .int .u32 x9, .slice A10 n10_ c10_, .slice A11 n11_ c11_] 0) fun w12 : World =>
 ∃ x13 : Int, ∃ x14 : Int, ∃ b15 : Bool, ∃ b16 : Bool, ∃ x17 : Int, ∃ x18 : Int, ∃ x19 : Int, ∃ x20 : Int, ∃ x21 : Int, ∃ (A22 : Option Addr) (n22_ c22_ : Nat), ∃ (A23 : Option Addr) (n23_ c23_ : Nat), (11 = 11 ∧ At w12 ⟨yg2, 0, none⟩ [.int .u8 x13, .int .u16 x14, .bool b15, .bool b16, .int .i64 x17, .int .u8 x18, .int .u8 x19, .int .u32 x20, .int .u32 x21, .slice A22 n22_ c22_, .slice A23 n23_ c23_]) ∧
(R (.returned (.tuple #[.agg #[.int .u8 x13, .int .u16 x14, .bool b15, .bool b16, .int .i64 x17, .int .u8 x18, .int .u8 x19, .int .u32 x20, .int .u32 x21, .slice A22 n22_ c22_, .slice A23 n23_ c23_], .int .i64 62])) w12))))
else
(Leaf (weftref6_Echo.j2 yg1 yg2 yg4 yg5 d0 d3 d6 d7 d8 d9 d10 d11 d12 d13 d14 d15 d16 d17 d18 d19 d20 d21 d22 (.bool y23) d24 d25 d26 d27 d28 d29 d30 d31 d32 d33 d34 d35 d36 d37 d38 d39 d40 d41 d42 d43 d44 d45 d46 d47 d48 d49 d50 d51 w R)))) := by kernel_rfl
theorem weftref6_Echo.j2_eq (yg1 : Nat) (yg2 : Nat) (yg4 : Nat) (yg5 : Nat) (d0 d3 d6 d7 d8 d9 d10 d11 d12 d13 d14 d15 d16 d17 d18 d19 d20 d21 d22 d23 d24 d25 d26 d27 d28 d29 d30 d31 d32 d33 d34 d35 d36 d37 d38 d39 d40 d41 d42 d43 d44 d45 d46 d47 d48 d49 d50 d51 : Value) (w : World) (R : Ending → World → Prop) : weftref6_Echo.j2 yg1 yg2 yg4 yg5 d0 d3 d6 d7 d8 d9 d10 d11 d12 d13 d14 d15 d16 d17 d18 d19 d20 d21 d22 d23 d24 d25 d26 d27 d28 d29 d30 d31 d32 d33 d34 d35 d36 d37 d38 d39 d40 d41 d42 d43 d44 d45 d46 d47 d48 d49 d50 d51 w R =
(∃ x1 : Int, w.cell? ⟨yg1, 7, none⟩ = some (.int .u32 x1) ∧
(Calls Tryd.prog 67 #[.int .u32 x1] w (fun (e3 : Ending) (w2 : World) =>
 ∃ b4 : Bool, e3 = .returned (.bool b4) ∧
((if (!b4) = true then
(Leaf (weftref6_Echo.j3 yg1 yg2 yg4 yg5 true d0 d3 d6 d7 d8 d9 d10 d11 d12 d13 d14 d15 d16 d17 d18 d19 d20 d21 d22 d23 d24 (.pointer (some ⟨yg1, 0, none⟩)) (.pointer (some ⟨yg1, 7, none⟩)) (.int .u32 x1) (.bool b4) (.bool (!b4)) (.bool true) undef undef undef undef undef d37 d38 d39 d40 d41 d42 d43 d44 d45 d46 d47 d48 d49 d50 d51 w2 R))
else
(∃ x5 : Int, w2.cell? ⟨yg1, 8, none⟩ = some (.int .u32 x5) ∧
(Calls Tryd.prog 67 #[.int .u32 x5] w2 (fun (e7 : Ending) (w6 : World) =>
 ∃ b8 : Bool, e7 = .returned (.bool b8) ∧
(Leaf (weftref6_Echo.j3 yg1 yg2 yg4 yg5 (!b8) d0 d3 d6 d7 d8 d9 d10 d11 d12 d13 d14 d15 d16 d17 d18 d19 d20 d21 d22 d23 d24 (.pointer (some ⟨yg1, 0, none⟩)) (.pointer (some ⟨yg1, 7, none⟩)) (.int .u32 x1) (.bool b4) (.bool (!b4)) (.bool false) (.pointer (some ⟨yg1, 0, none⟩)) (.pointer (some ⟨yg1, 8, none⟩)) (.int .u32 x5) (.bool b8) (.bool (!b8)) d37 d38 d39 d40 d41 d42 d43 d44 d45 d46 d47 d48 d49 d50 d51 w6 R)))))))))) := by kernel_rfl
theorem weftref6_Echo.j3_eq (yg1 : Nat) (yg2 : Nat) (yg4 : Nat) (yg5 : Nat) (y36 : Bool) (d0 d3 d6 d7 d8 d9 d10 d11 d12 d13 d14 d15 d16 d17 d18 d19 d20 d21 d22 d23 d24 d25 d26 d27 d28 d29 d30 d31 d32 d33 d34 d35 d37 d38 d39 d40 d41 d42 d43 d44 d45 d46 d47 d48 d49 d50 d51 : Value) (w : World) (R : Ending → World → Prop) : weftref6_Echo.j3 yg1 yg2 yg4 yg5 y36 d0 d3 d6 d7 d8 d9 d10 d11 d12 d13 d14 d15 d16 d17 d18 d19 d20 d21 d22 d23 d24 d25 d26 d27 d28 d29 d30 d31 d32 d33 d34 d35 d37 d38 d39 d40 d41 d42 d43 d44 d45 d46 d47 d48 d49 d50 d51 w R =
((if y36 = true then
(∃ x1 : Int, ∃ x2 : Int, ∃ b3 : Bool, ∃ b4 : Bool, ∃ x5 : Int, ∃ x6 : Int, ∃ x7 : Int, ∃ x8 : Int, ∃ x9 : Int, ∃ (A10 : Option Addr) (n10_ c10_ : Nat), ∃ (A11 : Option Addr) (n11_ c11_ : Nat), (11 = 11 ∧ At w ⟨yg4, 0, none⟩ [.int .u8 x1, .int .u16 x2, .bool b3, .bool b4, .int .i64 x5, .int .u8 x6, .int .u8 x7, .int .u32 x8, .int .u32 x9, .slice A10 n10_ c10_, .slice A11 n11_ c11_]) ∧
(May w ⟨yg2, 0, none⟩ 11 ∧
(Let (putCells w ⟨yg2, 0, none⟩ [.int .u8 x1, .int .u16 x2, .bool b3, .bool b4, .int .i64 x5, .int .u8 x6, .int .u8 x7, .int .u32 x8, .int .u32 x9, .slice A10 n10_ c10_, .slice A11 n11_ c11_] 0) fun w12 : World =>
 ∃ x13 : Int, ∃ x14 : Int, ∃ b15 : Bool, ∃ b16 : Bool, ∃ x17 : Int, ∃ x18 : Int, ∃ x19 : Int, ∃ x20 : Int, ∃ x21 : Int, ∃ (A22 : Option Addr) (n22_ c22_ : Nat), ∃ (A23 : Option Addr) (n23_ c23_ : Nat), (11 = 11 ∧ At w12 ⟨yg2, 0, none⟩ [.int .u8 x13, .int .u16 x14, .bool b15, .bool b16, .int .i64 x17, .int .u8 x18, .int .u8 x19, .int .u32 x20, .int .u32 x21, .slice A22 n22_ c22_, .slice A23 n23_ c23_]) ∧
(R (.returned (.tuple #[.agg #[.int .u8 x13, .int .u16 x14, .bool b15, .bool b16, .int .i64 x17, .int .u8 x18, .int .u8 x19, .int .u32 x20, .int .u32 x21, .slice A22 n22_ c22_, .slice A23 n23_ c23_], .int .i64 61])) w12))))
else
(Leaf (weftref6_Echo.j4 yg1 yg2 yg5 d0 d3 (.pointer (some ⟨yg4, 0, none⟩)) d6 d7 d8 d9 d10 d11 d12 d13 d14 d15 d16 d17 d18 d19 d20 d21 d22 d23 d24 d25 d26 d27 d28 d29 d30 d31 d32 d33 d34 d35 (.bool y36) d37 d38 d39 d40 d41 d42 d43 d44 d45 d46 d47 d48 d49 d50 d51 w R)))) := by kernel_rfl
theorem weftref6_Echo.j4_eq (yg1 : Nat) (yg2 : Nat) (yg5 : Nat) (d0 d3 d4 d6 d7 d8 d9 d10 d11 d12 d13 d14 d15 d16 d17 d18 d19 d20 d21 d22 d23 d24 d25 d26 d27 d28 d29 d30 d31 d32 d33 d34 d35 d36 d37 d38 d39 d40 d41 d42 d43 d44 d45 d46 d47 d48 d49 d50 d51 : Value) (w : World) (R : Ending → World → Prop) : weftref6_Echo.j4 yg1 yg2 yg5 d0 d3 d4 d6 d7 d8 d9 d10 d11 d12 d13 d14 d15 d16 d17 d18 d19 d20 d21 d22 d23 d24 d25 d26 d27 d28 d29 d30 d31 d32 d33 d34 d35 d36 d37 d38 d39 d40 d41 d42 d43 d44 d45 d46 d47 d48 d49 d50 d51 w R =
(MayC w ⟨yg5, 0, none⟩ ∧
(Let (w.setCell ⟨yg5, 0, none⟩ (.int .u8 0)) fun w1 : World =>
 ∃ x2 : Int, w1.cell? ⟨yg1, 0, none⟩ = some (.int .u8 x2) ∧
(∃ x3 : Int, w1.cell? ⟨yg1, 8, none⟩ = some (.int .u32 x3) ∧
(∃ x4 : Int, w1.cell? ⟨yg1, 7, none⟩ = some (.int .u32 x4) ∧
(∃ x5 : Int, ∃ x6 : Int, ∃ x7 : Int, ∃ (A8 : Option Addr) (n8_ c8_ : Nat), (4 = 4 ∧ At w1 ⟨yg5, 0, none⟩ [.int .u8 x5, .int .u8 x6, .int .u32 x7, .slice A8 n8_ c8_]) ∧
(Calls Tryd.prog 70 #[.int .u8 x2, .int .u32 x3, .int .u32 x4, .agg #[.int .u8 x5, .int .u8 x6, .int .u32 x7, .slice A8 n8_ c8_]] w1 (fun (e10 : Ending) (w9 : World) =>
 ∃ x11 : Int, ∃ x12 : Int, ∃ b13 : Bool, ∃ b14 : Bool, ∃ x15 : Int, ∃ x16 : Int, ∃ x17 : Int, ∃ x18 : Int, ∃ x19 : Int, ∃ (A20 : Option Addr) (n20_ c20_ : Nat), ∃ (A21 : Option Addr) (n21_ c21_ : Nat), ∃ x22 : Int, e10 = .returned (.tuple #[.agg #[.int .u8 x11, .int .u16 x12, .bool b13, .bool b14, .int .i64 x15, .int .u8 x16, .int .u8 x17, .int .u32 x18, .int .u32 x19, .slice A20 n20_ c20_, .slice A21 n21_ c21_], .int .i64 x22]) ∧
(May w9 ⟨yg2, 0, none⟩ 11 ∧
(Let (putCells w9 ⟨yg2, 0, none⟩ [.int .u8 x11, .int .u16 x12, .bool b13, .bool b14, .int .i64 x15, .int .u8 x16, .int .u8 x17, .int .u32 x18, .int .u32 x19, .slice A20 n20_ c20_, .slice A21 n21_ c21_] 0) fun w23 : World =>
 ∃ x24 : Int, ∃ x25 : Int, ∃ b26 : Bool, ∃ b27 : Bool, ∃ x28 : Int, ∃ x29 : Int, ∃ x30 : Int, ∃ x31 : Int, ∃ x32 : Int, ∃ (A33 : Option Addr) (n33_ c33_ : Nat), ∃ (A34 : Option Addr) (n34_ c34_ : Nat), (11 = 11 ∧ At w23 ⟨yg2, 0, none⟩ [.int .u8 x24, .int .u16 x25, .bool b26, .bool b27, .int .i64 x28, .int .u8 x29, .int .u8 x30, .int .u32 x31, .int .u32 x32, .slice A33 n33_ c33_, .slice A34 n34_ c34_]) ∧
(R (.returned (.tuple #[.agg #[.int .u8 x24, .int .u16 x25, .bool b26, .bool b27, .int .i64 x28, .int .u8 x29, .int .u8 x30, .int .u32 x31, .int .u32 x32, .slice A33 n33_ c33_, .slice A34 n34_ c34_], .int .i64 x22])) w23)))))))))) := by kernel_rfl
def weftref6_Echo.s (i0_0 : Int) (i0_1 : Int) (i0_2 : Bool) (i0_3 : Bool) (i0_4 : Int) (i0_5 : Int) (i0_6 : Int) (i0_7 : Int) (i0_8 : Int) (I0_9 : Option Addr) (in0_9 : Nat) (ic0_9 : Nat) (I0_10 : Option Addr) (in0_10 : Nat) (ic0_10 : Nat) (w : World) (R : Ending → World → Prop) : Prop :=
(Let (w.heap.size) fun g1 : Nat =>
 Let (w.alloc (.cells #[.int .u8 i0_0, .int .u16 i0_1, .bool i0_2, .bool i0_3, .int .i64 i0_4, .int .u8 i0_5, .int .u8 i0_6, .int .u32 i0_7, .int .u32 i0_8, .slice I0_9 in0_9 ic0_9, .slice I0_10 in0_10 ic0_10] 29)) fun w2 : World =>
 Let (w2.heap.size) fun g3 : Nat =>
 Let (w2.alloc (.cells #[.int .u8 0, .int .u16 0, .bool false, .bool false, .int .i64 0, .int .u8 0, .int .u8 0, .int .u32 0, .int .u32 0, .slice none 0 0, .slice none 0 0] 29)) fun w4 : World =>
 Let (w4.heap.size) fun g5 : Nat =>
 Let (w4.alloc (.cells #[.int .u8 0, .int .u16 0, .bool false, .bool false, .int .i64 0, .int .u8 0, .int .u8 0, .int .u32 0, .int .u32 0, .slice none 0 0, .slice none 0 0] 29)) fun w6 : World =>
 ∃ x7 : Int, ∃ x8 : Int, ∃ b9 : Bool, ∃ b10 : Bool, ∃ x11 : Int, ∃ x12 : Int, ∃ x13 : Int, ∃ x14 : Int, ∃ x15 : Int, ∃ (A16 : Option Addr) (n16_ c16_ : Nat), ∃ (A17 : Option Addr) (n17_ c17_ : Nat), (11 = 11 ∧ At w6 ⟨g1, 0, none⟩ [.int .u8 x7, .int .u16 x8, .bool b9, .bool b10, .int .i64 x11, .int .u8 x12, .int .u8 x13, .int .u32 x14, .int .u32 x15, .slice A16 n16_ c16_, .slice A17 n17_ c17_]) ∧
(Calls Tryd.prog 75 #[.agg #[.int .u8 x7, .int .u16 x8, .bool b9, .bool b10, .int .i64 x11, .int .u8 x12, .int .u8 x13, .int .u32 x14, .int .u32 x15, .slice A16 n16_ c16_, .slice A17 n17_ c17_]] w6 (fun (e19 : Ending) (w18 : World) =>
 ∃ x20 : Int, ∃ x21 : Int, ∃ x22 : Int, ∃ (A23 : Option Addr) (n23_ c23_ : Nat), ∃ x24 : Int, e19 = .returned (.tuple #[.agg #[.int .u8 x20, .int .u8 x21, .int .u32 x22, .slice A23 n23_ c23_], .int .i64 x24]) ∧
(Let (w18.heap.size) fun g25 : Nat =>
 Let (w18.alloc (.cells #[.int .u8 0, .int .u8 0, .int .u32 0, .slice none 0 0] 40)) fun w26 : World =>
 May w26 ⟨g25, 0, none⟩ 4 ∧
(Let (putCells w26 ⟨g25, 0, none⟩ [.int .u8 x20, .int .u8 x21, .int .u32 x22, .slice A23 n23_ c23_] 0) fun w27 : World =>
(if (x24 != 0) = true then
(∃ x28 : Int, ∃ x29 : Int, ∃ b30 : Bool, ∃ b31 : Bool, ∃ x32 : Int, ∃ x33 : Int, ∃ x34 : Int, ∃ x35 : Int, ∃ x36 : Int, ∃ (A37 : Option Addr) (n37_ c37_ : Nat), ∃ (A38 : Option Addr) (n38_ c38_ : Nat), (11 = 11 ∧ At w27 ⟨g5, 0, none⟩ [.int .u8 x28, .int .u16 x29, .bool b30, .bool b31, .int .i64 x32, .int .u8 x33, .int .u8 x34, .int .u32 x35, .int .u32 x36, .slice A37 n37_ c37_, .slice A38 n38_ c38_]) ∧
(May w27 ⟨g3, 0, none⟩ 11 ∧
(Let (putCells w27 ⟨g3, 0, none⟩ [.int .u8 x28, .int .u16 x29, .bool b30, .bool b31, .int .i64 x32, .int .u8 x33, .int .u8 x34, .int .u32 x35, .int .u32 x36, .slice A37 n37_ c37_, .slice A38 n38_ c38_] 0) fun w39 : World =>
 ∃ x40 : Int, ∃ x41 : Int, ∃ b42 : Bool, ∃ b43 : Bool, ∃ x44 : Int, ∃ x45 : Int, ∃ x46 : Int, ∃ x47 : Int, ∃ x48 : Int, ∃ (A49 : Option Addr) (n49_ c49_ : Nat), ∃ (A50 : Option Addr) (n50_ c50_ : Nat), (11 = 11 ∧ At w39 ⟨g3, 0, none⟩ [.int .u8 x40, .int .u16 x41, .bool b42, .bool b43, .int .i64 x44, .int .u8 x45, .int .u8 x46, .int .u32 x47, .int .u32 x48, .slice A49 n49_ c49_, .slice A50 n50_ c50_]) ∧
(R (.returned (.tuple #[.agg #[.int .u8 x40, .int .u16 x41, .bool b42, .bool b43, .int .i64 x44, .int .u8 x45, .int .u8 x46, .int .u32 x47, .int .u32 x48, .slice A49 n49_ c49_, .slice A50 n50_ c50_], .int .i64 x24])) w39))))
else
(∃ x51 : Int, w27.cell? ⟨g25, 0, none⟩ = some (.int .u8 x51) ∧
((if (x51 != 8) = true then
(Leaf (weftref6_Echo.j1 g1 g3 g5 g25 true (.agg #[.int .u8 i0_0, .int .u16 i0_1, .bool i0_2, .bool i0_3, .int .i64 i0_4, .int .u8 i0_5, .int .u8 i0_6, .int .u32 i0_7, .int .u32 i0_8, .slice I0_9 in0_9 ic0_9, .slice I0_10 in0_10 ic0_10]) (.int .i64 0) (.int .i64 x24) (.tuple #[.agg #[.int .u8 x20, .int .u8 x21, .int .u32 x22, .slice A23 n23_ c23_], .int .i64 x24]) (.agg #[.int .u8 x7, .int .u16 x8, .bool b9, .bool b10, .int .i64 x11, .int .u8 x12, .int .u8 x13, .int .u32 x14, .int .u32 x15, .slice A16 n16_ c16_, .slice A17 n17_ c17_]) (.tuple #[.agg #[.int .u8 x20, .int .u8 x21, .int .u32 x22, .slice A23 n23_ c23_], .int .i64 x24]) (.agg #[.int .u8 x20, .int .u8 x21, .int .u32 x22, .slice A23 n23_ c23_]) (.int .i64 x24) (.int .i64 x24) (.bool (x24 != 0)) undef undef (.pointer (some ⟨g25, 0, none⟩)) (.int .u8 x51) (.bool (x51 != 8)) (.bool true) undef undef undef undef undef undef undef undef undef undef undef undef undef undef undef undef undef undef undef undef undef undef undef undef undef undef undef undef undef undef undef w27 R))
else
(∃ x52 : Int, w27.cell? ⟨g25, 1, none⟩ = some (.int .u8 x52) ∧
(Leaf (weftref6_Echo.j1 g1 g3 g5 g25 (x52 != 0) (.agg #[.int .u8 i0_0, .int .u16 i0_1, .bool i0_2, .bool i0_3, .int .i64 i0_4, .int .u8 i0_5, .int .u8 i0_6, .int .u32 i0_7, .int .u32 i0_8, .slice I0_9 in0_9 ic0_9, .slice I0_10 in0_10 ic0_10]) (.int .i64 0) (.int .i64 x24) (.tuple #[.agg #[.int .u8 x20, .int .u8 x21, .int .u32 x22, .slice A23 n23_ c23_], .int .i64 x24]) (.agg #[.int .u8 x7, .int .u16 x8, .bool b9, .bool b10, .int .i64 x11, .int .u8 x12, .int .u8 x13, .int .u32 x14, .int .u32 x15, .slice A16 n16_ c16_, .slice A17 n17_ c17_]) (.tuple #[.agg #[.int .u8 x20, .int .u8 x21, .int .u32 x22, .slice A23 n23_ c23_], .int .i64 x24]) (.agg #[.int .u8 x20, .int .u8 x21, .int .u32 x22, .slice A23 n23_ c23_]) (.int .i64 x24) (.int .i64 x24) (.bool (x24 != 0)) undef undef (.pointer (some ⟨g25, 0, none⟩)) (.int .u8 x51) (.bool (x51 != 8)) (.bool false) (.pointer (some ⟨g25, 1, none⟩)) (.int .u8 x52) (.bool (x52 != 0)) undef undef undef undef undef undef undef undef undef undef undef undef undef undef undef undef undef undef undef undef undef undef undef undef undef undef undef undef w27 R))))))))))))
theorem weftref6_Echo.s_eq (i0_0 : Int) (i0_1 : Int) (i0_2 : Bool) (i0_3 : Bool) (i0_4 : Int) (i0_5 : Int) (i0_6 : Int) (i0_7 : Int) (i0_8 : Int) (I0_9 : Option Addr) (in0_9 : Nat) (ic0_9 : Nat) (I0_10 : Option Addr) (in0_10 : Nat) (ic0_10 : Nat) (w : World) (R : Ending → World → Prop) : seg Tryd.prog entE weftref6_Echo.ords weftref6_Echo.joins Tryd.f54 [] [] [] ([.agg #[.int .u8 i0_0, .int .u16 i0_1, .bool i0_2, .bool i0_3, .int .i64 i0_4, .int .u8 i0_5, .int .u8 i0_6, .int .u32 i0_7, .int .u32 i0_8, .slice I0_9 in0_9 ic0_9, .slice I0_10 in0_10 ic0_10]] ++ List.replicate (Tryd.f54.ntmps - ([.agg #[.int .u8 i0_0, .int .u16 i0_1, .bool i0_2, .bool i0_3, .int .i64 i0_4, .int .u8 i0_5, .int .u8 i0_6, .int .u32 i0_7, .int .u32 i0_8, .slice I0_9 in0_9 ic0_9, .slice I0_10 in0_10 ic0_10]] : List Value).length) undef) w R = weftref6_Echo.s i0_0 i0_1 i0_2 i0_3 i0_4 i0_5 i0_6 i0_7 i0_8 I0_9 in0_9 ic0_9 I0_10 in0_10 ic0_10 w R := by kernel_rfl
theorem weftref6_Echo.run {i0_0 : Int} {i0_1 : Int} {i0_2 : Bool} {i0_3 : Bool} {i0_4 : Int} {i0_5 : Int} {i0_6 : Int} {i0_7 : Int} {i0_8 : Int} {I0_9 : Option Addr} {in0_9 : Nat} {ic0_9 : Nat} {I0_10 : Option Addr} {in0_10 : Nat} {ic0_10 : Nat} {w : World} {R : Ending → World → Prop} (h : weftref6_Echo.s i0_0 i0_1 i0_2 i0_3 i0_4 i0_5 i0_6 i0_7 i0_8 I0_9 in0_9 ic0_9 I0_10 in0_10 ic0_10 w R) : Calls Tryd.prog 54 #[.agg #[.int .u8 i0_0, .int .u16 i0_1, .bool i0_2, .bool i0_3, .int .i64 i0_4, .int .u8 i0_5, .int .u8 i0_6, .int .u32 i0_7, .int .u32 i0_8, .slice I0_9 in0_9 ic0_9, .slice I0_10 in0_10 ic0_10]] w R :=
  calls_seg ents mixed Tryd.func54 rfl (by rw [weftref6_Echo.s_eq]; exact h)
/-! ### weftref6_About: function 55 -/
def weftref6_About.ords : Nat → List (Nat × Bool)
  | _ => []
def weftref6_About.joins (p : List Nat) : Bool := false
def weftref6_About.s (i0_0 : Int) (i0_1 : Int) (i0_2 : Bool) (i0_3 : Bool) (i0_4 : Int) (i0_5 : Int) (i0_6 : Int) (i0_7 : Int) (i0_8 : Int) (I0_9 : Option Addr) (in0_9 : Nat) (ic0_9 : Nat) (I0_10 : Option Addr) (in0_10 : Nat) (ic0_10 : Nat) (w : World) (R : Ending → World → Prop) : Prop :=
(Let (w.heap.size) fun g1 : Nat =>
 Let (w.alloc (.cells #[.int .u8 i0_0, .int .u16 i0_1, .bool i0_2, .bool i0_3, .int .i64 i0_4, .int .u8 i0_5, .int .u8 i0_6, .int .u32 i0_7, .int .u32 i0_8, .slice I0_9 in0_9 ic0_9, .slice I0_10 in0_10 ic0_10] 29)) fun w2 : World =>
 Let (w2.heap.size) fun g3 : Nat =>
 Let (w2.alloc (.cells #[.int .u8 0, .int .u16 0, .bool false, .bool false, .int .i64 0, .int .u8 0, .int .u8 0, .int .u32 0, .int .u32 0, .slice none 0 0] 27)) fun w4 : World =>
 Let (w4.heap.size) fun g5 : Nat =>
 Let (w4.alloc (.cells #[.int .u8 0, .int .u16 0, .bool false, .bool false, .int .i64 0, .int .u8 0, .int .u8 0, .int .u32 0, .int .u32 0, .slice none 0 0] 27)) fun w6 : World =>
 ∃ x7 : Int, ∃ x8 : Int, ∃ b9 : Bool, ∃ b10 : Bool, ∃ x11 : Int, ∃ x12 : Int, ∃ x13 : Int, ∃ x14 : Int, ∃ x15 : Int, ∃ (A16 : Option Addr) (n16_ c16_ : Nat), ∃ (A17 : Option Addr) (n17_ c17_ : Nat), (11 = 11 ∧ At w6 ⟨g1, 0, none⟩ [.int .u8 x7, .int .u16 x8, .bool b9, .bool b10, .int .i64 x11, .int .u8 x12, .int .u8 x13, .int .u32 x14, .int .u32 x15, .slice A16 n16_ c16_, .slice A17 n17_ c17_]) ∧
(Calls Tryd.prog 75 #[.agg #[.int .u8 x7, .int .u16 x8, .bool b9, .bool b10, .int .i64 x11, .int .u8 x12, .int .u8 x13, .int .u32 x14, .int .u32 x15, .slice A16 n16_ c16_, .slice A17 n17_ c17_]] w6 (fun (e19 : Ending) (w18 : World) =>
 ∃ x20 : Int, ∃ x21 : Int, ∃ x22 : Int, ∃ (A23 : Option Addr) (n23_ c23_ : Nat), ∃ x24 : Int, e19 = .returned (.tuple #[.agg #[.int .u8 x20, .int .u8 x21, .int .u32 x22, .slice A23 n23_ c23_], .int .i64 x24]) ∧
(Let (w18.heap.size) fun g25 : Nat =>
 Let (w18.alloc (.cells #[.int .u8 0, .int .u8 0, .int .u32 0, .slice none 0 0] 40)) fun w26 : World =>
 May w26 ⟨g25, 0, none⟩ 4 ∧
(Let (putCells w26 ⟨g25, 0, none⟩ [.int .u8 x20, .int .u8 x21, .int .u32 x22, .slice A23 n23_ c23_] 0) fun w27 : World =>
(if (x24 != 0) = true then
(∃ x28 : Int, ∃ x29 : Int, ∃ b30 : Bool, ∃ b31 : Bool, ∃ x32 : Int, ∃ x33 : Int, ∃ x34 : Int, ∃ x35 : Int, ∃ x36 : Int, ∃ (A37 : Option Addr) (n37_ c37_ : Nat), (10 = 10 ∧ At w27 ⟨g5, 0, none⟩ [.int .u8 x28, .int .u16 x29, .bool b30, .bool b31, .int .i64 x32, .int .u8 x33, .int .u8 x34, .int .u32 x35, .int .u32 x36, .slice A37 n37_ c37_]) ∧
(May w27 ⟨g3, 0, none⟩ 10 ∧
(Let (putCells w27 ⟨g3, 0, none⟩ [.int .u8 x28, .int .u16 x29, .bool b30, .bool b31, .int .i64 x32, .int .u8 x33, .int .u8 x34, .int .u32 x35, .int .u32 x36, .slice A37 n37_ c37_] 0) fun w38 : World =>
 ∃ x39 : Int, ∃ x40 : Int, ∃ b41 : Bool, ∃ b42 : Bool, ∃ x43 : Int, ∃ x44 : Int, ∃ x45 : Int, ∃ x46 : Int, ∃ x47 : Int, ∃ (A48 : Option Addr) (n48_ c48_ : Nat), (10 = 10 ∧ At w38 ⟨g3, 0, none⟩ [.int .u8 x39, .int .u16 x40, .bool b41, .bool b42, .int .i64 x43, .int .u8 x44, .int .u8 x45, .int .u32 x46, .int .u32 x47, .slice A48 n48_ c48_]) ∧
(R (.returned (.tuple #[.agg #[.int .u8 x39, .int .u16 x40, .bool b41, .bool b42, .int .i64 x43, .int .u8 x44, .int .u8 x45, .int .u32 x46, .int .u32 x47, .slice A48 n48_ c48_], .slice none 0 0, .int .i64 x24])) w38))))
else
(∃ x49 : Int, w27.cell? ⟨g25, 0, none⟩ = some (.int .u8 x49) ∧
(Calls Tryd.prog 76 #[.int .u8 x49] w27 (fun (e51 : Ending) (w50 : World) =>
 ∃ b52 : Bool, e51 = .returned (.bool b52) ∧
((if (!b52) = true then
(∃ x53 : Int, ∃ x54 : Int, ∃ b55 : Bool, ∃ b56 : Bool, ∃ x57 : Int, ∃ x58 : Int, ∃ x59 : Int, ∃ x60 : Int, ∃ x61 : Int, ∃ (A62 : Option Addr) (n62_ c62_ : Nat), (10 = 10 ∧ At w50 ⟨g5, 0, none⟩ [.int .u8 x53, .int .u16 x54, .bool b55, .bool b56, .int .i64 x57, .int .u8 x58, .int .u8 x59, .int .u32 x60, .int .u32 x61, .slice A62 n62_ c62_]) ∧
(May w50 ⟨g3, 0, none⟩ 10 ∧
(Let (putCells w50 ⟨g3, 0, none⟩ [.int .u8 x53, .int .u16 x54, .bool b55, .bool b56, .int .i64 x57, .int .u8 x58, .int .u8 x59, .int .u32 x60, .int .u32 x61, .slice A62 n62_ c62_] 0) fun w63 : World =>
 ∃ x64 : Int, ∃ x65 : Int, ∃ b66 : Bool, ∃ b67 : Bool, ∃ x68 : Int, ∃ x69 : Int, ∃ x70 : Int, ∃ x71 : Int, ∃ x72 : Int, ∃ (A73 : Option Addr) (n73_ c73_ : Nat), (10 = 10 ∧ At w63 ⟨g3, 0, none⟩ [.int .u8 x64, .int .u16 x65, .bool b66, .bool b67, .int .i64 x68, .int .u8 x69, .int .u8 x70, .int .u32 x71, .int .u32 x72, .slice A73 n73_ c73_]) ∧
(R (.returned (.tuple #[.agg #[.int .u8 x64, .int .u16 x65, .bool b66, .bool b67, .int .i64 x68, .int .u8 x69, .int .u8 x70, .int .u32 x71, .int .u32 x72, .slice A73 n73_ c73_], .slice none 0 0, .int .i64 62])) w63))))
else
(∃ (A74 : Option Addr) (n74_ c74_ : Nat), w50.cell? ⟨g25, 3, none⟩ = some (.slice A74 n74_ c74_) ∧
(Calls Tryd.prog 77 #[.slice A74 n74_ c74_] w50 (fun (e76 : Ending) (w75 : World) =>
 ∃ x77 : Int, ∃ x78 : Int, ∃ b79 : Bool, ∃ b80 : Bool, ∃ x81 : Int, ∃ x82 : Int, ∃ x83 : Int, ∃ x84 : Int, ∃ x85 : Int, ∃ (A86 : Option Addr) (n86_ c86_ : Nat), ∃ (A87 : Option Addr) (n87_ c87_ : Nat), ∃ x88 : Int, e76 = .returned (.tuple #[.agg #[.int .u8 x77, .int .u16 x78, .bool b79, .bool b80, .int .i64 x81, .int .u8 x82, .int .u8 x83, .int .u32 x84, .int .u32 x85, .slice A86 n86_ c86_], .slice A87 n87_ c87_, .int .i64 x88]) ∧
(May w75 ⟨g3, 0, none⟩ 10 ∧
(Let (putCells w75 ⟨g3, 0, none⟩ [.int .u8 x77, .int .u16 x78, .bool b79, .bool b80, .int .i64 x81, .int .u8 x82, .int .u8 x83, .int .u32 x84, .int .u32 x85, .slice A86 n86_ c86_] 0) fun w89 : World =>
 ∃ x90 : Int, ∃ x91 : Int, ∃ b92 : Bool, ∃ b93 : Bool, ∃ x94 : Int, ∃ x95 : Int, ∃ x96 : Int, ∃ x97 : Int, ∃ x98 : Int, ∃ (A99 : Option Addr) (n99_ c99_ : Nat), (10 = 10 ∧ At w89 ⟨g3, 0, none⟩ [.int .u8 x90, .int .u16 x91, .bool b92, .bool b93, .int .i64 x94, .int .u8 x95, .int .u8 x96, .int .u32 x97, .int .u32 x98, .slice A99 n99_ c99_]) ∧
(R (.returned (.tuple #[.agg #[.int .u8 x90, .int .u16 x91, .bool b92, .bool b93, .int .i64 x94, .int .u8 x95, .int .u8 x96, .int .u32 x97, .int .u32 x98, .slice A99 n99_ c99_], .slice A87 n87_ c87_, .int .i64 x88])) w89)))))))))))))))))
theorem weftref6_About.s_eq (i0_0 : Int) (i0_1 : Int) (i0_2 : Bool) (i0_3 : Bool) (i0_4 : Int) (i0_5 : Int) (i0_6 : Int) (i0_7 : Int) (i0_8 : Int) (I0_9 : Option Addr) (in0_9 : Nat) (ic0_9 : Nat) (I0_10 : Option Addr) (in0_10 : Nat) (ic0_10 : Nat) (w : World) (R : Ending → World → Prop) : seg Tryd.prog entE weftref6_About.ords weftref6_About.joins Tryd.f55 [] [] [] ([.agg #[.int .u8 i0_0, .int .u16 i0_1, .bool i0_2, .bool i0_3, .int .i64 i0_4, .int .u8 i0_5, .int .u8 i0_6, .int .u32 i0_7, .int .u32 i0_8, .slice I0_9 in0_9 ic0_9, .slice I0_10 in0_10 ic0_10]] ++ List.replicate (Tryd.f55.ntmps - ([.agg #[.int .u8 i0_0, .int .u16 i0_1, .bool i0_2, .bool i0_3, .int .i64 i0_4, .int .u8 i0_5, .int .u8 i0_6, .int .u32 i0_7, .int .u32 i0_8, .slice I0_9 in0_9 ic0_9, .slice I0_10 in0_10 ic0_10]] : List Value).length) undef) w R = weftref6_About.s i0_0 i0_1 i0_2 i0_3 i0_4 i0_5 i0_6 i0_7 i0_8 I0_9 in0_9 ic0_9 I0_10 in0_10 ic0_10 w R := by kernel_rfl
theorem weftref6_About.run {i0_0 : Int} {i0_1 : Int} {i0_2 : Bool} {i0_3 : Bool} {i0_4 : Int} {i0_5 : Int} {i0_6 : Int} {i0_7 : Int} {i0_8 : Int} {I0_9 : Option Addr} {in0_9 : Nat} {ic0_9 : Nat} {I0_10 : Option Addr} {in0_10 : Nat} {ic0_10 : Nat} {w : World} {R : Ending → World → Prop} (h : weftref6_About.s i0_0 i0_1 i0_2 i0_3 i0_4 i0_5 i0_6 i0_7 i0_8 I0_9 in0_9 ic0_9 I0_10 in0_10 ic0_10 w R) : Calls Tryd.prog 55 #[.agg #[.int .u8 i0_0, .int .u16 i0_1, .bool i0_2, .bool i0_3, .int .i64 i0_4, .int .u8 i0_5, .int .u8 i0_6, .int .u32 i0_7, .int .u32 i0_8, .slice I0_9 in0_9 ic0_9, .slice I0_10 in0_10 ic0_10]] w R :=
  calls_seg ents mixed Tryd.func55 rfl (by rw [weftref6_About.s_eq]; exact h)
end Go.Proofs.YtfjbpeadhaekbaaDoorS
