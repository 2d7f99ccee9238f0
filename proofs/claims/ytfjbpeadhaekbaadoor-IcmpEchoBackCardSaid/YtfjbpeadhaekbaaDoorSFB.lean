/- What functions of the program come to, told by a program of this session out of the translation; the kernel computes each statement out of the code.
   Conditions: none. -/
import Derived.Test.YtfjbpeadhaekbaaDoorSBase
namespace Go.Proofs.YtfjbpeadhaekbaaDoorS
open Go Go.Proofs
set_option maxRecDepth 100000
set_option linter.unusedVariables false
/-! ### addr_Class: function 62 -/
def addr_Class.ords : Nat → List (Nat × Bool)
  | _ => []
def addr_Class.joins (p : List Nat) : Bool := false
def addr_Class.l1 (n : Nat) (y0 : Int) (Y5 : Option Addr) (yn5 : Nat) (yc5 : Nat) (y6 : Int) (y7 : Int) (d1 d2 d3 d4 d8 d9 d10 d11 d12 d13 d14 d15 d16 d17 : Value) (w : World) (R : Ending → World → Prop) : Prop :=
  lseg Tryd.prog entE addr_Class.ords addr_Class.joins Tryd.f62 [1, 0, 1, 0] [0, 1, 0, 1] [] n [.int .u32 y0, d1, d2, d3, d4, .slice Y5 yn5 yc5, .int .i64 y6, .int .i64 y7, d8, d9, d10, d11, d12, d13, d14, d15, d16, d17] w R
abbrev addr_Class.L1 (n : Nat) (y0 : Int) (Y5 : Option Addr) (yn5 : Nat) (yc5 : Nat) (y6 : Int) (y7 : Int) (w : World) (R : Ending → World → Prop) : Prop := ∀ d1 d2 d3 d4 d8 d9 d10 d11 d12 d13 d14 d15 d16 d17 : Value, addr_Class.l1 n y0 Y5 yn5 yc5 y6 y7 d1 d2 d3 d4 d8 d9 d10 d11 d12 d13 d14 d15 d16 d17 w R
theorem addr_Class.l1_eq (n : Nat) (y0 : Int) (Y5 : Option Addr) (yn5 : Nat) (yc5 : Nat) (y6 : Int) (y7 : Int) (d1 d2 d3 d4 d8 d9 d10 d11 d12 d13 d14 d15 d16 d17 : Value) (w : World) (R : Ending → World → Prop) : addr_Class.l1 (n + 1) y0 Y5 yn5 yc5 y6 y7 d1 d2 d3 d4 d8 d9 d10 d11 d12 d13 d14 d15 d16 d17 w R =
((if decide (y7 < y6) = true then
(∃ a1 : Addr, Y5 = some a1 ∧ (0 ≤ y7 ∧ y7 < (yn5 : Int)) ∧
(∃ x2 : Int, ∃ x3 : Int, ∃ x4 : Int, (3 = 3 ∧ At w (a1.add (y7.toNat * 3)) [.int .u32 x2, .int .i64 x3, .int .i64 x4]) ∧
(Let (w.heap.size) fun g5 : Nat =>
 Let (w.alloc (.cells #[.int .u32 0, .int .i64 0, .int .i64 0] 99)) fun w6 : World =>
 May w6 ⟨g5, 0, none⟩ 3 ∧
(Let (putCells w6 ⟨g5, 0, none⟩ [.int .u32 x2, .int .i64 x3, .int .i64 x4] 0) fun w7 : World =>
 ∃ x8 : Int, ∃ x9 : Int, (2 = 2 ∧ At w7 ⟨g5, 0, none⟩ [.int .u32 x8, .int .i64 x9]) ∧
(Calls Tryd.prog 79 #[.agg #[.int .u32 x8, .int .i64 x9], .int .u32 y0] w7 (fun (e11 : Ending) (w10 : World) =>
 ∃ b12 : Bool, e11 = .returned (.bool b12) ∧
((if b12 = true then
(∃ x13 : Int, w10.cell? ⟨g5, 2, none⟩ = some (.int .i64 x13) ∧
(R (.returned (.int .i64 x13)) w10))
else
(Let (IntKind.i64.wrap (y7 + 1)) fun x14 : Int =>
 addr_Class.l1 n y0 Y5 yn5 yc5 y6 x14 d1 d2 d3 (.pointer (some ⟨g5, 0, none⟩)) (.bool (decide (y7 < y6))) (.pointer (some (a1.add (y7.toNat * 3)))) (.agg #[.int .u32 x2, .int .i64 x3, .int .i64 x4]) (.pointer (some ⟨g5, 0, none⟩)) (.agg #[.int .u32 x8, .int .i64 x9]) (.int .u32 y0) (.bool b12) d15 d16 (.int .i64 x14) w10 R)))))))))
else
(R (.returned (.int .i64 0)) w))) := by kernel_rfl
def addr_Class.s (i0 : Int) (w : World) (R : Ending → World → Prop) : Prop :=
(∃ (A1 : Option Addr) (n1_ c1_ : Nat), w.cell? ⟨1, 0, none⟩ = some (.slice A1 n1_ c1_) ∧
(∃ n2 : Nat, addr_Class.l1 n2 i0 A1 n1_ c1_ (n1_ : Int) 0 undef (.int .i64 0) undef undef undef undef undef undef undef undef undef undef undef undef w R))
theorem addr_Class.s_eq (i0 : Int) (w : World) (R : Ending → World → Prop) : seg Tryd.prog entE addr_Class.ords addr_Class.joins Tryd.f62 [] [] [] ([.int .u32 i0] ++ List.replicate (Tryd.f62.ntmps - ([.int .u32 i0] : List Value).length) undef) w R = addr_Class.s i0 w R := by kernel_rfl
theorem addr_Class.run {i0 : Int} {w : World} {R : Ending → World → Prop} (h : addr_Class.s i0 w R) : Calls Tryd.prog 62 #[.int .u32 i0] w R :=
  calls_seg ents mixed Tryd.func62 rfl (by rw [addr_Class.s_eq]; exact h)
/-! ### addr_Contains: function 79 -/
def addr_Contains.ords : Nat → List (Nat × Bool)
  | 1 => [(0, true), (1, false), (2, true), (3, true), (4, true), (5, true), (8, true), (9, true), (6, false), (7, true), (10, true), (11, true), (12, true)]
  | _ => []
def addr_Contains.joins (p : List Nat) : Bool := false
def addr_Contains.s (i0_0 : Int) (i0_1 : Int) (i1 : Int) (w : World) (R : Ending → World → Prop) : Prop :=
(Let (w.heap.size) fun g1 : Nat =>
 Let (w.alloc (.cells #[.int .u32 i0_0, .int .i64 i0_1] 97)) fun w2 : World =>
 ∃ S3 : World → Prop, S3 w2.drew ∧
(Let (w2.drew) fun w4 : World =>
 ∃ x5 : Int, ∃ x6 : Int, (2 = 2 ∧ (∀ w', S3 w' → At w' ⟨g1, 0, none⟩ [.int .u32 x5, .int .i64 x6])) ∧
(Calls Tryd.prog 87 #[.agg #[.int .u32 x5, .int .i64 x6]] w4 (fun (e8 : Ending) (w7 : World) =>
 ∃ b9 : Bool, e8 = .returned (.bool b9) ∧
(S3 w7 ∧
((if b9 = true then
(∃ x10 : Int, (∀ w', S3 w' → w'.cell? ⟨g1, 1, none⟩ = some (.int .i64 x10)) ∧
(∃ x11 : Int, (∀ w', S3 w' → w'.cell? ⟨g1, 0, none⟩ = some (.int .u32 x11)) ∧
(Calls Tryd.prog 88 #[.int .i64 x10] w7 (fun (e13 : Ending) (w12 : World) =>
 ∃ x14 : Int, e13 = .returned (.int .u32 x14) ∧
(S3 w12 ∧
(Let (Go.bits .and .u32 i1 x14) fun x15 : Int =>
 R (.returned (.bool (x15 == x11))) w12))))))
else
(R (.returned (.bool false)) w7))))))))
theorem addr_Contains.s_eq (i0_0 : Int) (i0_1 : Int) (i1 : Int) (w : World) (R : Ending → World → Prop) : seg Tryd.prog entE addr_Contains.ords addr_Contains.joins Tryd.f79 [] [] [] ([.agg #[.int .u32 i0_0, .int .i64 i0_1], .int .u32 i1] ++ List.replicate (Tryd.f79.ntmps - ([.agg #[.int .u32 i0_0, .int .i64 i0_1], .int .u32 i1] : List Value).length) undef) w R = addr_Contains.s i0_0 i0_1 i1 w R := by kernel_rfl
theorem addr_Contains.run {i0_0 : Int} {i0_1 : Int} {i1 : Int} {w : World} {R : Ending → World → Prop} (h : addr_Contains.s i0_0 i0_1 i1 w R) : Calls Tryd.prog 79 #[.agg #[.int .u32 i0_0, .int .i64 i0_1], .int .u32 i1] w R :=
  calls_seg ents mixed Tryd.func79 rfl (by rw [addr_Contains.s_eq]; exact h)
/-! ### addr_Valid: function 87 -/
def addr_Valid.ords : Nat → List (Nat × Bool)
  | _ => []
def addr_Valid.joins (p : List Nat) : Bool := false
def addr_Valid.s (i0_0 : Int) (i0_1 : Int) (w : World) (R : Ending → World → Prop) : Prop :=
(Let (w.heap.size) fun g1 : Nat =>
 Let (w.alloc (.cells #[.int .u32 i0_0, .int .i64 i0_1] 97)) fun w2 : World =>
 ∃ x3 : Int, ∃ x4 : Int, (2 = 2 ∧ At w2 ⟨g1, 0, none⟩ [.int .u32 x3, .int .i64 x4]) ∧
(Calls Tryd.prog 99 #[.agg #[.int .u32 x3, .int .i64 x4]] w2 (fun (e6 : Ending) (w5 : World) =>
 ∃ x7 : Int, e6 = .returned (.int .i64 x7) ∧
(R (.returned (.bool (x7 == 0))) w5))))
theorem addr_Valid.s_eq (i0_0 : Int) (i0_1 : Int) (w : World) (R : Ending → World → Prop) : seg Tryd.prog entE addr_Valid.ords addr_Valid.joins Tryd.f87 [] [] [] ([.agg #[.int .u32 i0_0, .int .i64 i0_1]] ++ List.replicate (Tryd.f87.ntmps - ([.agg #[.int .u32 i0_0, .int .i64 i0_1]] : List Value).length) undef) w R = addr_Valid.s i0_0 i0_1 w R := by kernel_rfl
theorem addr_Valid.run {i0_0 : Int} {i0_1 : Int} {w : World} {R : Ending → World → Prop} (h : addr_Valid.s i0_0 i0_1 w R) : Calls Tryd.prog 87 #[.agg #[.int .u32 i0_0, .int .i64 i0_1]] w R :=
  calls_seg ents mixed Tryd.func87 rfl (by rw [addr_Valid.s_eq]; exact h)
/-! ### addr_mask: function 88 -/
def addr_mask.ords : Nat → List (Nat × Bool)
  | _ => []
def addr_mask.joins (p : List Nat) : Bool := false
def addr_mask.s (i0 : Int) (w : World) (R : Ending → World → Prop) : Prop :=
((if (i0 == 0) = true then
(R (.returned (.int .u32 0)) w)
else
(Let (IntKind.i64.wrap (32 - i0)) fun x1 : Int =>
 0 ≤ x1 ∧
(Let (IntKind.u32.wrap (4294967295 * (2 : Int) ^ (min x1.toNat 32))) fun x2 : Int =>
 R (.returned (.int .u32 x2)) w))))
theorem addr_mask.s_eq (i0 : Int) (w : World) (R : Ending → World → Prop) : seg Tryd.prog entE addr_mask.ords addr_mask.joins Tryd.f88 [] [] [] ([.int .i64 i0] ++ List.replicate (Tryd.f88.ntmps - ([.int .i64 i0] : List Value).length) undef) w R = addr_mask.s i0 w R := by kernel_rfl
theorem addr_mask.run {i0 : Int} {w : World} {R : Ending → World → Prop} (h : addr_mask.s i0 w R) : Calls Tryd.prog 88 #[.int .i64 i0] w R :=
  calls_seg ents mixed Tryd.func88 rfl (by rw [addr_mask.s_eq]; exact h)
/-! ### addr_fault: function 99 -/
def addr_fault.ords : Nat → List (Nat × Bool)
  | 3 => [(0, true), (1, true), (2, true), (3, true), (4, false), (5, true), (6, true), (7, true)]
  | _ => []
def addr_fault.joins (p : List Nat) : Bool := p == [1, 0, 0, 1]
def addr_fault.j1 (yg1 : Nat) (y3 : Bool) (d0 d2 d4 d5 d6 d7 d8 d9 d10 d11 d12 d13 d14 d15 d16 d17 d18 d19 : Value) (w : World) (R : Ending → World → Prop) : Prop :=
  seg Tryd.prog entE addr_fault.ords addr_fault.joins Tryd.f99 [1, 0, 0, 1] [1, 0, 0, 1] [] [d0, .pointer (some ⟨yg1, 0, none⟩), d2, .bool y3, d4, d5, d6, d7, d8, d9, d10, d11, d12, d13, d14, d15, d16, d17, d18, d19] w R
abbrev addr_fault.J1 (yg1 : Nat) (y3 : Bool) (w : World) (R : Ending → World → Prop) : Prop := ∀ d0 d2 d4 d5 d6 d7 d8 d9 d10 d11 d12 d13 d14 d15 d16 d17 d18 d19 : Value, addr_fault.j1 yg1 y3 d0 d2 d4 d5 d6 d7 d8 d9 d10 d11 d12 d13 d14 d15 d16 d17 d18 d19 w R
theorem addr_fault.j1_eq (yg1 : Nat) (y3 : Bool) (d0 d2 d4 d5 d6 d7 d8 d9 d10 d11 d12 d13 d14 d15 d16 d17 d18 d19 : Value) (w : World) (R : Ending → World → Prop) : addr_fault.j1 yg1 y3 d0 d2 d4 d5 d6 d7 d8 d9 d10 d11 d12 d13 d14 d15 d16 d17 d18 d19 w R =
((if y3 = true then
(R (.returned (.int .i64 11)) w)
else
(∃ S1 : World → Prop, S1 w.drew ∧
(Let (w.drew) fun w2 : World =>
 ∃ x3 : Int, (∀ w', S1 w' → w'.cell? ⟨yg1, 0, none⟩ = some (.int .u32 x3)) ∧
(∃ x4 : Int, (∀ w', S1 w' → w'.cell? ⟨yg1, 1, none⟩ = some (.int .i64 x4)) ∧
(Calls Tryd.prog 88 #[.int .i64 x4] w2 (fun (e6 : Ending) (w5 : World) =>
 ∃ x7 : Int, e6 = .returned (.int .u32 x7) ∧
(S1 w5 ∧
(Let (Go.bits .andNot .u32 x3 x7) fun x8 : Int =>
(if (x8 != 0) = true then
(R (.returned (.int .i64 12)) w5)
else
(R (.returned (.int .i64 0)) w5))))))))))) := by kernel_rfl
def addr_fault.s (i0_0 : Int) (i0_1 : Int) (w : World) (R : Ending → World → Prop) : Prop :=
(Let (w.heap.size) fun g1 : Nat =>
 Let (w.alloc (.cells #[.int .u32 i0_0, .int .i64 i0_1] 97)) fun w2 : World =>
 ∃ x3 : Int, w2.cell? ⟨g1, 1, none⟩ = some (.int .i64 x3) ∧
((if decide (x3 < 0) = true then
(Leaf (addr_fault.j1 g1 true (.agg #[.int .u32 i0_0, .int .i64 i0_1]) (.int .i64 0) (.pointer (some ⟨g1, 1, none⟩)) (.int .i64 x3) (.bool (decide (x3 < 0))) (.bool true) undef undef undef (.bool true) undef undef undef undef undef undef undef undef w2 R))
else
(∃ x4 : Int, w2.cell? ⟨g1, 1, none⟩ = some (.int .i64 x4) ∧
(Leaf (addr_fault.j1 g1 (decide (x4 > 32)) (.agg #[.int .u32 i0_0, .int .i64 i0_1]) (.int .i64 0) (.pointer (some ⟨g1, 1, none⟩)) (.int .i64 x3) (.bool (decide (x3 < 0))) (.bool false) (.pointer (some ⟨g1, 1, none⟩)) (.int .i64 x4) (.bool (decide (x4 > 32))) (.bool (decide (x4 > 32))) undef undef undef undef undef undef undef undef w2 R))))))
theorem addr_fault.s_eq (i0_0 : Int) (i0_1 : Int) (w : World) (R : Ending → World → Prop) : seg Tryd.prog entE addr_fault.ords addr_fault.joins Tryd.f99 [] [] [] ([.agg #[.int .u32 i0_0, .int .i64 i0_1]] ++ List.replicate (Tryd.f99.ntmps - ([.agg #[.int .u32 i0_0, .int .i64 i0_1]] : List Value).length) undef) w R = addr_fault.s i0_0 i0_1 w R := by kernel_rfl
theorem addr_fault.run {i0_0 : Int} {i0_1 : Int} {w : World} {R : Ending → World → Prop} (h : addr_fault.s i0_0 i0_1 w R) : Calls Tryd.prog 99 #[.agg #[.int .u32 i0_0, .int .i64 i0_1]] w R :=
  calls_seg ents mixed Tryd.func99 rfl (by rw [addr_fault.s_eq]; exact h)
/-! ### icmp_isFault: function 63 -/
def icmp_isFault.ords : Nat → List (Nat × Bool)
  | _ => []
def icmp_isFault.joins (p : List Nat) : Bool := false
def icmp_isFault.s (i0 : Int) (w : World) (R : Ending → World → Prop) : Prop :=
(Let (IntKind.i64.wrap i0) fun x1 : Int =>
(if decide (x1 < 13) = true then
((0 ≤ (i0 : Int) ∧ (i0 : Int) < 13) ∧
(∃ b2 : Bool, w.cell? ((⟨2, 0, none⟩ : Addr).add i0.toNat) = some (.bool b2) ∧
(R (.returned (.bool b2)) w)))
else
(R (.returned (.bool false)) w)))
theorem icmp_isFault.s_eq (i0 : Int) (w : World) (R : Ending → World → Prop) : seg Tryd.prog entE icmp_isFault.ords icmp_isFault.joins Tryd.f63 [] [] [] ([.int .u8 i0] ++ List.replicate (Tryd.f63.ntmps - ([.int .u8 i0] : List Value).length) undef) w R = icmp_isFault.s i0 w R := by kernel_rfl
theorem icmp_isFault.run {i0 : Int} {w : World} {R : Ending → World → Prop} (h : icmp_isFault.s i0 w R) : Calls Tryd.prog 63 #[.int .u8 i0] w R :=
  calls_seg ents mixed Tryd.func63 rfl (by rw [icmp_isFault.s_eq]; exact h)
/-! ### icmp_mayBe: function 35 -/
def icmp_mayBe.ords : Nat → List (Nat × Bool)
  | _ => []
def icmp_mayBe.joins (p : List Nat) : Bool := p == [1, 1] || p == [1, 0, 0, 1, 1, 1]
def icmp_mayBe.j1 (y0 : Int) (y1 : Int) (y2 : Int) (d3 d4 d5 d6 d7 d8 d9 d10 d11 d12 d13 d14 d15 d16 d17 d18 d19 d20 d21 d22 d23 d24 d25 d26 d27 d28 d29 d30 d31 d32 d33 d34 d35 d36 d37 d38 : Value) (w : World) (R : Ending → World → Prop) : Prop :=
  seg Tryd.prog entE icmp_mayBe.ords icmp_mayBe.joins Tryd.f35 [1, 1] [1, 1] [] [.int .u8 y0, .int .u8 y1, .int .i64 y2, d3, d4, d5, d6, d7, d8, d9, d10, d11, d12, d13, d14, d15, d16, d17, d18, d19, d20, d21, d22, d23, d24, d25, d26, d27, d28, d29, d30, d31, d32, d33, d34, d35, d36, d37, d38] w R
def icmp_mayBe.j2 (y0 : Int) (y1 : Int) (y2 : Int) (y7 : Int) (y18 : Bool) (d3 d4 d5 d6 d8 d9 d10 d11 d12 d13 d14 d15 d16 d17 d19 d20 d21 d22 d23 d24 d25 d26 d27 d28 d29 d30 d31 d32 d33 d34 d35 d36 d37 d38 : Value) (w : World) (R : Ending → World → Prop) : Prop :=
  seg Tryd.prog entE icmp_mayBe.ords icmp_mayBe.joins Tryd.f35 [1, 1, 1, 0, 0, 1] [1, 0, 0, 1, 1, 1] [] [.int .u8 y0, .int .u8 y1, .int .i64 y2, d3, d4, d5, d6, .int .i64 y7, d8, d9, d10, d11, d12, d13, d14, d15, d16, d17, .bool y18, d19, d20, d21, d22, d23, d24, d25, d26, d27, d28, d29, d30, d31, d32, d33, d34, d35, d36, d37, d38] w R
abbrev icmp_mayBe.J1 (y0 : Int) (y1 : Int) (y2 : Int) (w : World) (R : Ending → World → Prop) : Prop := ∀ d3 d4 d5 d6 d7 d8 d9 d10 d11 d12 d13 d14 d15 d16 d17 d18 d19 d20 d21 d22 d23 d24 d25 d26 d27 d28 d29 d30 d31 d32 d33 d34 d35 d36 d37 d38 : Value, icmp_mayBe.j1 y0 y1 y2 d3 d4 d5 d6 d7 d8 d9 d10 d11 d12 d13 d14 d15 d16 d17 d18 d19 d20 d21 d22 d23 d24 d25 d26 d27 d28 d29 d30 d31 d32 d33 d34 d35 d36 d37 d38 w R
abbrev icmp_mayBe.J2 (y0 : Int) (y1 : Int) (y2 : Int) (y7 : Int) (y18 : Bool) (w : World) (R : Ending → World → Prop) : Prop := ∀ d3 d4 d5 d6 d8 d9 d10 d11 d12 d13 d14 d15 d16 d17 d19 d20 d21 d22 d23 d24 d25 d26 d27 d28 d29 d30 d31 d32 d33 d34 d35 d36 d37 d38 : Value, icmp_mayBe.j2 y0 y1 y2 y7 y18 d3 d4 d5 d6 d8 d9 d10 d11 d12 d13 d14 d15 d16 d17 d19 d20 d21 d22 d23 d24 d25 d26 d27 d28 d29 d30 d31 d32 d33 d34 d35 d36 d37 d38 w R
theorem icmp_mayBe.j1_eq (y0 : Int) (y1 : Int) (y2 : Int) (d3 d4 d5 d6 d7 d8 d9 d10 d11 d12 d13 d14 d15 d16 d17 d18 d19 d20 d21 d22 d23 d24 d25 d26 d27 d28 d29 d30 d31 d32 d33 d34 d35 d36 d37 d38 : Value) (w : World) (R : Ending → World → Prop) : icmp_mayBe.j1 y0 y1 y2 d3 d4 d5 d6 d7 d8 d9 d10 d11 d12 d13 d14 d15 d16 d17 d18 d19 d20 d21 d22 d23 d24 d25 d26 d27 d28 d29 d30 d31 d32 d33 d34 d35 d36 d37 d38 w R =
((if (y0 == 3) = true then
(Leaf (icmp_mayBe.j2 y0 y1 y2 0 (y1 == 4) d3 d4 d5 d6 d8 d9 d10 d11 d12 d13 d14 d15 d16 d17 (.int .u8 y0) (.bool (y0 == 3)) (.bool true) (.int .u8 y1) (.bool (y1 == 4)) (.bool (y1 == 4)) d25 d26 d27 d28 d29 d30 d31 d32 d33 d34 d35 d36 d37 d38 w R))
else
(Leaf (icmp_mayBe.j2 y0 y1 y2 0 false d3 d4 d5 d6 d8 d9 d10 d11 d12 d13 d14 d15 d16 d17 (.int .u8 y0) (.bool (y0 == 3)) (.bool false) undef undef (.bool false) d25 d26 d27 d28 d29 d30 d31 d32 d33 d34 d35 d36 d37 d38 w R)))) := by kernel_rfl
theorem icmp_mayBe.j2_eq (y0 : Int) (y1 : Int) (y2 : Int) (y7 : Int) (y18 : Bool) (d3 d4 d5 d6 d8 d9 d10 d11 d12 d13 d14 d15 d16 d17 d19 d20 d21 d22 d23 d24 d25 d26 d27 d28 d29 d30 d31 d32 d33 d34 d35 d36 d37 d38 : Value) (w : World) (R : Ending → World → Prop) : icmp_mayBe.j2 y0 y1 y2 y7 y18 d3 d4 d5 d6 d8 d9 d10 d11 d12 d13 d14 d15 d16 d17 d19 d20 d21 d22 d23 d24 d25 d26 d27 d28 d29 d30 d31 d32 d33 d34 d35 d36 d37 d38 w R =
((if y18 = true then
((if decide (y2 ≥ 0) = true then
(R (.returned (.bool (decide (y2 ≤ 65535)))) w)
else
(R (.returned (.bool false)) w)))
else
((if (y0 == 12) = true then
((if (y1 == 0) = true then
((if decide (y2 ≥ 0) = true then
(R (.returned (.bool (decide (y2 ≤ 255)))) w)
else
(R (.returned (.bool false)) w)))
else
((if decide (y2 ≥ 0) = true then
(R (.returned (.bool (decide (y2 ≤ y7)))) w)
else
(R (.returned (.bool false)) w)))))
else
((if decide (y2 ≥ 0) = true then
(R (.returned (.bool (decide (y2 ≤ y7)))) w)
else
(R (.returned (.bool false)) w))))))) := by kernel_rfl
def icmp_mayBe.s (i0 : Int) (i1 : Int) (i2 : Int) (w : World) (R : Ending → World → Prop) : Prop :=
(Let (IntKind.i64.wrap i0) fun x1 : Int =>
(if decide (x1 ≥ 13) = true then
(R (.returned (.bool false)) w)
else
((0 ≤ (i0 : Int) ∧ (i0 : Int) < 13) ∧
(∃ x2 : Int, w.cell? ((⟨0, 0, none⟩ : Addr).add i0.toNat) = some (.int .u8 x2) ∧
((if decide (i1 ≥ x2) = true then
(R (.returned (.bool false)) w)
else
(Leaf (icmp_mayBe.j1 i0 i1 i2 undef undef undef (.bool false) undef (.int .u8 i0) (.int .i64 x1) (.bool (decide (x1 ≥ 13))) (.bool false) (.int .u8 i1) (.int .u8 i0) (.pointer (some ((⟨0, 0, none⟩ : Addr).add i0.toNat))) (.int .u8 x2) (.bool (decide (i1 ≥ x2))) (.bool (decide (i1 ≥ x2))) undef undef undef undef undef undef undef undef undef undef undef undef undef undef undef undef undef undef undef undef undef w R))))))))
theorem icmp_mayBe.s_eq (i0 : Int) (i1 : Int) (i2 : Int) (w : World) (R : Ending → World → Prop) : seg Tryd.prog entE icmp_mayBe.ords icmp_mayBe.joins Tryd.f35 [] [] [] ([.int .u8 i0, .int .u8 i1, .int .i64 i2] ++ List.replicate (Tryd.f35.ntmps - ([.int .u8 i0, .int .u8 i1, .int .i64 i2] : List Value).length) undef) w R = icmp_mayBe.s i0 i1 i2 w R := by kernel_rfl
theorem icmp_mayBe.run {i0 : Int} {i1 : Int} {i2 : Int} {w : World} {R : Ending → World → Prop} (h : icmp_mayBe.s i0 i1 i2 w R) : Calls Tryd.prog 35 #[.int .u8 i0, .int .u8 i1, .int .i64 i2] w R :=
  calls_seg ents mixed Tryd.func35 rfl (by rw [icmp_mayBe.s_eq]; exact h)
/-! ### icmp_plain: function 36 -/
def icmp_plain.ords : Nat → List (Nat × Bool)
  | _ => []
def icmp_plain.joins (p : List Nat) : Bool := false
def icmp_plain.s (i0 : Int) (w : World) (R : Ending → World → Prop) : Prop :=
(Calls Tryd.prog 62 #[.int .u32 i0] w (fun (e2 : Ending) (w1 : World) =>
 ∃ x3 : Int, e2 = .returned (.int .i64 x3) ∧
(R (.returned (.bool (x3 == 0))) w1)))
theorem icmp_plain.s_eq (i0 : Int) (w : World) (R : Ending → World → Prop) : seg Tryd.prog entE icmp_plain.ords icmp_plain.joins Tryd.f36 [] [] [] ([.int .u32 i0] ++ List.replicate (Tryd.f36.ntmps - ([.int .u32 i0] : List Value).length) undef) w R = icmp_plain.s i0 w R := by kernel_rfl
theorem icmp_plain.run {i0 : Int} {w : World} {R : Ending → World → Prop} (h : icmp_plain.s i0 w R) : Calls Tryd.prog 36 #[.int .u32 i0] w R :=
  calls_seg ents mixed Tryd.func36 rfl (by rw [icmp_plain.s_eq]; exact h)
/-! ### icmp_quiet: function 37 -/
def icmp_quiet.ords : Nat → List (Nat × Bool)
  | _ => []
def icmp_quiet.joins (p : List Nat) : Bool := p == [1, 1]
def icmp_quiet.j1 (yg1 : Nat) (d0 d2 d3 d4 d5 d6 d7 d8 d9 d10 d11 d12 d13 d14 d15 d16 d17 d18 d19 d20 d21 d22 d23 d24 d25 d26 d27 d28 d29 d30 d31 d32 d33 d34 d35 d36 d37 : Value) (w : World) (R : Ending → World → Prop) : Prop :=
  seg Tryd.prog entE icmp_quiet.ords icmp_quiet.joins Tryd.f37 [1, 1] [1, 1] [] [d0, .pointer (some ⟨yg1, 0, none⟩), d2, d3, d4, d5, d6, d7, d8, d9, d10, d11, d12, d13, d14, d15, d16, d17, d18, d19, d20, d21, d22, d23, d24, d25, d26, d27, d28, d29, d30, d31, d32, d33, d34, d35, d36, d37] w R
abbrev icmp_quiet.J1 (yg1 : Nat) (w : World) (R : Ending → World → Prop) : Prop := ∀ d0 d2 d3 d4 d5 d6 d7 d8 d9 d10 d11 d12 d13 d14 d15 d16 d17 d18 d19 d20 d21 d22 d23 d24 d25 d26 d27 d28 d29 d30 d31 d32 d33 d34 d35 d36 d37 : Value, icmp_quiet.j1 yg1 d0 d2 d3 d4 d5 d6 d7 d8 d9 d10 d11 d12 d13 d14 d15 d16 d17 d18 d19 d20 d21 d22 d23 d24 d25 d26 d27 d28 d29 d30 d31 d32 d33 d34 d35 d36 d37 w R
theorem icmp_quiet.j1_eq (yg1 : Nat) (d0 d2 d3 d4 d5 d6 d7 d8 d9 d10 d11 d12 d13 d14 d15 d16 d17 d18 d19 d20 d21 d22 d23 d24 d25 d26 d27 d28 d29 d30 d31 d32 d33 d34 d35 d36 d37 : Value) (w : World) (R : Ending → World → Prop) : icmp_quiet.j1 yg1 d0 d2 d3 d4 d5 d6 d7 d8 d9 d10 d11 d12 d13 d14 d15 d16 d17 d18 d19 d20 d21 d22 d23 d24 d25 d26 d27 d28 d29 d30 d31 d32 d33 d34 d35 d36 d37 w R =
(∃ x1 : Int, w.cell? ⟨yg1, 6, none⟩ = some (.int .u8 x1) ∧
((if (x1 == 1) = true then
(∃ (A2 : Option Addr) (n2_ c2_ : Nat), w.cell? ⟨yg1, 10, none⟩ = some (.slice A2 n2_ c2_) ∧
((if ((n2_ : Int) == 0) = true then
(R (.returned (.bool true)) w)
else
(∃ (A3 : Option Addr) (n3_ c3_ : Nat), w.cell? ⟨yg1, 10, none⟩ = some (.slice A3 n3_ c3_) ∧
(∃ a4 : Addr, A3 = some a4 ∧ (0 ≤ (0 : Int) ∧ (0 : Int) < (n3_ : Int)) ∧
(∃ x5 : Int, w.cell? a4 = some (.int .u8 x5) ∧
(Calls Tryd.prog 63 #[.int .u8 x5] w (fun (e7 : Ending) (w6 : World) =>
 ∃ b8 : Bool, e7 = .returned (.bool b8) ∧
(R (.returned (.bool b8)) w6)))))))))
else
(R (.returned (.bool false)) w)))) := by kernel_rfl
def icmp_quiet.s (i0_0 : Int) (i0_1 : Int) (i0_2 : Bool) (i0_3 : Bool) (i0_4 : Int) (i0_5 : Int) (i0_6 : Int) (i0_7 : Int) (i0_8 : Int) (I0_9 : Option Addr) (in0_9 : Nat) (ic0_9 : Nat) (I0_10 : Option Addr) (in0_10 : Nat) (ic0_10 : Nat) (w : World) (R : Ending → World → Prop) : Prop :=
(Let (w.heap.size) fun g1 : Nat =>
 Let (w.alloc (.cells #[.int .u8 i0_0, .int .u16 i0_1, .bool i0_2, .bool i0_3, .int .i64 i0_4, .int .u8 i0_5, .int .u8 i0_6, .int .u32 i0_7, .int .u32 i0_8, .slice I0_9 in0_9 ic0_9, .slice I0_10 in0_10 ic0_10] 29)) fun w2 : World =>
 ∃ x3 : Int, w2.cell? ⟨g1, 4, none⟩ = some (.int .i64 x3) ∧
((if decide (x3 > 0) = true then
(R (.returned (.bool true)) w2)
else
(∃ x4 : Int, w2.cell? ⟨g1, 7, none⟩ = some (.int .u32 x4) ∧
(Calls Tryd.prog 36 #[.int .u32 x4] w2 (fun (e6 : Ending) (w5 : World) =>
 ∃ b7 : Bool, e6 = .returned (.bool b7) ∧
((if (!b7) = true then
(R (.returned (.bool true)) w5)
else
(∃ x8 : Int, w5.cell? ⟨g1, 8, none⟩ = some (.int .u32 x8) ∧
(Calls Tryd.prog 36 #[.int .u32 x8] w5 (fun (e10 : Ending) (w9 : World) =>
 ∃ b11 : Bool, e10 = .returned (.bool b11) ∧
((if (!b11) = true then
(R (.returned (.bool true)) w9)
else
(Leaf (icmp_quiet.j1 g1 (.agg #[.int .u8 i0_0, .int .u16 i0_1, .bool i0_2, .bool i0_3, .int .i64 i0_4, .int .u8 i0_5, .int .u8 i0_6, .int .u32 i0_7, .int .u32 i0_8, .slice I0_9 in0_9 ic0_9, .slice I0_10 in0_10 ic0_10]) (.bool false) (.pointer (some ⟨g1, 0, none⟩)) (.pointer (some ⟨g1, 4, none⟩)) (.int .i64 x3) (.bool (decide (x3 > 0))) (.bool false) (.pointer (some ⟨g1, 0, none⟩)) (.pointer (some ⟨g1, 7, none⟩)) (.int .u32 x4) (.bool b7) (.bool (!b7)) (.bool (!b7)) (.bool false) (.pointer (some ⟨g1, 0, none⟩)) (.pointer (some ⟨g1, 8, none⟩)) (.int .u32 x8) (.bool b11) (.bool (!b11)) (.bool (!b11)) undef undef undef undef undef undef undef undef undef undef undef undef undef undef undef undef undef w9 R)))))))))))))))
theorem icmp_quiet.s_eq (i0_0 : Int) (i0_1 : Int) (i0_2 : Bool) (i0_3 : Bool) (i0_4 : Int) (i0_5 : Int) (i0_6 : Int) (i0_7 : Int) (i0_8 : Int) (I0_9 : Option Addr) (in0_9 : Nat) (ic0_9 : Nat) (I0_10 : Option Addr) (in0_10 : Nat) (ic0_10 : Nat) (w : World) (R : Ending → World → Prop) : seg Tryd.prog entE icmp_quiet.ords icmp_quiet.joins Tryd.f37 [] [] [] ([.agg #[.int .u8 i0_0, .int .u16 i0_1, .bool i0_2, .bool i0_3, .int .i64 i0_4, .int .u8 i0_5, .int .u8 i0_6, .int .u32 i0_7, .int .u32 i0_8, .slice I0_9 in0_9 ic0_9, .slice I0_10 in0_10 ic0_10]] ++ List.replicate (Tryd.f37.ntmps - ([.agg #[.int .u8 i0_0, .int .u16 i0_1, .bool i0_2, .bool i0_3, .int .i64 i0_4, .int .u8 i0_5, .int .u8 i0_6, .int .u32 i0_7, .int .u32 i0_8, .slice I0_9 in0_9 ic0_9, .slice I0_10 in0_10 ic0_10]] : List Value).length) undef) w R = icmp_quiet.s i0_0 i0_1 i0_2 i0_3 i0_4 i0_5 i0_6 i0_7 i0_8 I0_9 in0_9 ic0_9 I0_10 in0_10 ic0_10 w R := by kernel_rfl
theorem icmp_quiet.run {i0_0 : Int} {i0_1 : Int} {i0_2 : Bool} {i0_3 : Bool} {i0_4 : Int} {i0_5 : Int} {i0_6 : Int} {i0_7 : Int} {i0_8 : Int} {I0_9 : Option Addr} {in0_9 : Nat} {ic0_9 : Nat} {I0_10 : Option Addr} {in0_10 : Nat} {ic0_10 : Nat} {w : World} {R : Ending → World → Prop} (h : icmp_quiet.s i0_0 i0_1 i0_2 i0_3 i0_4 i0_5 i0_6 i0_7 i0_8 I0_9 in0_9 ic0_9 I0_10 in0_10 ic0_10 w R) : Calls Tryd.prog 37 #[.agg #[.int .u8 i0_0, .int .u16 i0_1, .bool i0_2, .bool i0_3, .int .i64 i0_4, .int .u8 i0_5, .int .u8 i0_6, .int .u32 i0_7, .int .u32 i0_8, .slice I0_9 in0_9 ic0_9, .slice I0_10 in0_10 ic0_10]] w R :=
  calls_seg ents mixed Tryd.func37 rfl (by rw [icmp_quiet.s_eq]; exact h)
/-! ### icmp_Build: function 45 -/
def icmp_Build.ords : Nat → List (Nat × Bool)
  | _ => []
def icmp_Build.joins (p : List Nat) : Bool := false
def icmp_Build.s (i0_0 : Int) (i0_1 : Int) (i0_2 : Int) (I0_3 : Option Addr) (in0_3 : Nat) (ic0_3 : Nat) (w : World) (R : Ending → World → Prop) : Prop :=
(Let (w.heap.size) fun g1 : Nat =>
 Let (w.alloc (.cells #[.int .u8 i0_0, .int .u8 i0_1, .int .u32 i0_2, .slice I0_3 in0_3 ic0_3] 40)) fun w2 : World =>
 ∃ (A3 : Option Addr) (n3_ c3_ : Nat), w2.cell? ⟨g1, 3, none⟩ = some (.slice A3 n3_ c3_) ∧
((if decide ((n3_ : Int) > 65507) = true then
(R (.returned (.tuple #[.slice none 0 0, .int .i64 37])) w2)
else
(∃ x4 : Int, w2.cell? ⟨g1, 0, none⟩ = some (.int .u8 x4) ∧
(∃ x5 : Int, w2.cell? ⟨g1, 1, none⟩ = some (.int .u8 x5) ∧
(∃ x6 : Int, w2.cell? ⟨g1, 2, none⟩ = some (.int .u32 x6) ∧
(Let (Int.fdiv x6 16777216) fun x7 : Int =>
 Let (IntKind.u8.wrap x7) fun x8 : Int =>
 ∃ x9 : Int, w2.cell? ⟨g1, 2, none⟩ = some (.int .u32 x9) ∧
(Let (Int.fdiv x9 65536) fun x10 : Int =>
 Let (IntKind.u8.wrap x10) fun x11 : Int =>
 ∃ x12 : Int, w2.cell? ⟨g1, 2, none⟩ = some (.int .u32 x12) ∧
(Let (Int.fdiv x12 256) fun x13 : Int =>
 Let (IntKind.u8.wrap x13) fun x14 : Int =>
 ∃ x15 : Int, w2.cell? ⟨g1, 2, none⟩ = some (.int .u32 x15) ∧
(Let (IntKind.u8.wrap x15) fun x16 : Int =>
 Let (w2.heap.size) fun g17 : Nat =>
 Let (w2.alloc (.cells #[.int .u8 x4, .int .u8 x5, .int .u8 0, .int .u8 0, .int .u8 x8, .int .u8 x11, .int .u8 x14, .int .u8 x16] 5)) fun w18 : World =>
 ∃ (A19 : Option Addr) (n19_ c19_ : Nat), w18.cell? ⟨g1, 3, none⟩ = some (.slice A19 n19_ c19_) ∧
(AppE w18 1 1 5 [.int .u8 0] (some ⟨g17, 0, none⟩) 8 8 A19 n19_ (fun (A20 : Option Addr) (c21 : Nat) (w22 : World) =>
 Let (w22.heap.size) fun g23 : Nat =>
 Let (w22.alloc (.cells #[.slice A20 (8 + n19_) c21] 25)) fun w24 : World =>
 Calls Tryd.prog 61 #[.slice (some ⟨g23, 0, none⟩) 1 1] w24 (fun (e26 : Ending) (w25 : World) =>
 ∃ x27 : Int, e26 = .returned (.int .u16 x27) ∧
(Let (Int.fdiv x27 256) fun x28 : Int =>
 Let (IntKind.u8.wrap x28) fun x29 : Int =>
 Let (IntKind.u8.wrap x27) fun x30 : Int =>
 ∃ a31 : Addr, A20 = some a31 ∧ (0 ≤ (2 : Int) ∧ (2 : Int) < (((8 + n19_) : Nat) : Int)) ∧
(MayC w25 (a31.add 2) ∧
(Let (w25.setCell (a31.add 2) (.int .u8 x29)) fun w32 : World =>
 ∃ a33 : Addr, A20 = some a33 ∧ (0 ≤ (3 : Int) ∧ (3 : Int) < (((8 + n19_) : Nat) : Int)) ∧
(MayC w32 (a33.add 3) ∧
(Let (w32.setCell (a33.add 3) (.int .u8 x30)) fun w34 : World =>
 R (.returned (.tuple #[.slice A20 (8 + n19_) c21, .int .i64 0])) w34))))))))))))))))))
theorem icmp_Build.s_eq (i0_0 : Int) (i0_1 : Int) (i0_2 : Int) (I0_3 : Option Addr) (in0_3 : Nat) (ic0_3 : Nat) (w : World) (R : Ending → World → Prop) : seg Tryd.prog entE icmp_Build.ords icmp_Build.joins Tryd.f45 [] [] [] ([.agg #[.int .u8 i0_0, .int .u8 i0_1, .int .u32 i0_2, .slice I0_3 in0_3 ic0_3]] ++ List.replicate (Tryd.f45.ntmps - ([.agg #[.int .u8 i0_0, .int .u8 i0_1, .int .u32 i0_2, .slice I0_3 in0_3 ic0_3]] : List Value).length) undef) w R = icmp_Build.s i0_0 i0_1 i0_2 I0_3 in0_3 ic0_3 w R := by kernel_rfl
theorem icmp_Build.run {i0_0 : Int} {i0_1 : Int} {i0_2 : Int} {I0_3 : Option Addr} {in0_3 : Nat} {ic0_3 : Nat} {w : World} {R : Ending → World → Prop} (h : icmp_Build.s i0_0 i0_1 i0_2 I0_3 in0_3 ic0_3 w R) : Calls Tryd.prog 45 #[.agg #[.int .u8 i0_0, .int .u8 i0_1, .int .u32 i0_2, .slice I0_3 in0_3 ic0_3]] w R :=
  calls_seg ents mixed Tryd.func45 rfl (by rw [icmp_Build.s_eq]; exact h)
/-! ### icmp_Parse: function 43 -/
def icmp_Parse.ords : Nat → List (Nat × Bool)
  | 7 => [(0, true), (1, true), (2, true), (3, true), (4, true), (5, true), (6, true), (7, true), (8, true), (9, true), (10, true), (11, true), (12, true), (13, true), (14, true), (15, true), (16, true), (17, true), (18, true), (19, true), (20, true), (21, true), (22, true)]
  | 8 => [(0, true), (1, true), (2, true), (3, true), (4, true), (5, true), (6, true), (7, true), (8, true), (9, false), (10, true), (11, false), (12, true)]
  | _ => []
def icmp_Parse.joins (p : List Nat) : Bool := false
def icmp_Parse.s (I0 : Option Addr) (in0 : Nat) (ic0 : Nat) (w : World) (R : Ending → World → Prop) : Prop :=
(Let (w.heap.size) fun g1 : Nat =>
 Let (w.alloc (.cells #[.int .u8 0, .int .u8 0, .int .u32 0, .slice none 0 0] 40)) fun w2 : World =>
(if decide ((in0 : Int) < 8) = true then
(May w2 ⟨g1, 0, none⟩ 4 ∧
(Let (putCells w2 ⟨g1, 0, none⟩ [.int .u8 0, .int .u8 0, .int .u32 0, .slice none 0 0] 0) fun w3 : World =>
 ∃ x4 : Int, ∃ x5 : Int, ∃ x6 : Int, ∃ (A7 : Option Addr) (n7_ c7_ : Nat), (4 = 4 ∧ At w3 ⟨g1, 0, none⟩ [.int .u8 x4, .int .u8 x5, .int .u32 x6, .slice A7 n7_ c7_]) ∧
(R (.returned (.tuple #[.agg #[.int .u8 x4, .int .u8 x5, .int .u32 x6, .slice A7 n7_ c7_], .int .i64 30])) w3)))
else
((if decide ((in0 : Int) > 65515) = true then
(May w2 ⟨g1, 0, none⟩ 4 ∧
(Let (putCells w2 ⟨g1, 0, none⟩ [.int .u8 0, .int .u8 0, .int .u32 0, .slice none 0 0] 0) fun w8 : World =>
 ∃ x9 : Int, ∃ x10 : Int, ∃ x11 : Int, ∃ (A12 : Option Addr) (n12_ c12_ : Nat), (4 = 4 ∧ At w8 ⟨g1, 0, none⟩ [.int .u8 x9, .int .u8 x10, .int .u32 x11, .slice A12 n12_ c12_]) ∧
(R (.returned (.tuple #[.agg #[.int .u8 x9, .int .u8 x10, .int .u32 x11, .slice A12 n12_ c12_], .int .i64 37])) w8)))
else
(Let (w2.heap.size) fun g13 : Nat =>
 Let (w2.alloc (.cells #[.slice I0 in0 ic0] 25)) fun w14 : World =>
 Calls Tryd.prog 61 #[.slice (some ⟨g13, 0, none⟩) 1 1] w14 (fun (e16 : Ending) (w15 : World) =>
 ∃ x17 : Int, e16 = .returned (.int .u16 x17) ∧
((if (x17 != 0) = true then
(May w15 ⟨g1, 0, none⟩ 4 ∧
(Let (putCells w15 ⟨g1, 0, none⟩ [.int .u8 0, .int .u8 0, .int .u32 0, .slice none 0 0] 0) fun w18 : World =>
 ∃ x19 : Int, ∃ x20 : Int, ∃ x21 : Int, ∃ (A22 : Option Addr) (n22_ c22_ : Nat), (4 = 4 ∧ At w18 ⟨g1, 0, none⟩ [.int .u8 x19, .int .u8 x20, .int .u32 x21, .slice A22 n22_ c22_]) ∧
(R (.returned (.tuple #[.agg #[.int .u8 x19, .int .u8 x20, .int .u32 x21, .slice A22 n22_ c22_], .int .i64 33])) w18)))
else
(∃ S23 : World → Prop, S23 w15.drew ∧
(Let (w15.drew) fun w24 : World =>
 ∃ a25 : Addr, I0 = some a25 ∧ (0 ≤ (4 : Int) ∧ (4 : Int) < (in0 : Int)) ∧
(∃ x26 : Int, (∀ w', S23 w' → w'.cell? (a25.add 4) = some (.int .u8 x26)) ∧
(Let (IntKind.u32.wrap x26) fun x27 : Int =>
 Let (IntKind.u32.wrap (x27 * 16777216)) fun x28 : Int =>
 ∃ a29 : Addr, I0 = some a29 ∧ (0 ≤ (5 : Int) ∧ (5 : Int) < (in0 : Int)) ∧
(∃ x30 : Int, (∀ w', S23 w' → w'.cell? (a29.add 5) = some (.int .u8 x30)) ∧
(Let (IntKind.u32.wrap x30) fun x31 : Int =>
 Let (IntKind.u32.wrap (x31 * 65536)) fun x32 : Int =>
 Let (Go.bits .or .u32 x28 x32) fun x33 : Int =>
 ∃ a34 : Addr, I0 = some a34 ∧ (0 ≤ (6 : Int) ∧ (6 : Int) < (in0 : Int)) ∧
(∃ x35 : Int, (∀ w', S23 w' → w'.cell? (a34.add 6) = some (.int .u8 x35)) ∧
(Let (IntKind.u32.wrap x35) fun x36 : Int =>
 Let (IntKind.u32.wrap (x36 * 256)) fun x37 : Int =>
 Let (Go.bits .or .u32 x33 x37) fun x38 : Int =>
 ∃ a39 : Addr, I0 = some a39 ∧ (0 ≤ (7 : Int) ∧ (7 : Int) < (in0 : Int)) ∧
(∃ x40 : Int, (∀ w', S23 w' → w'.cell? (a39.add 7) = some (.int .u8 x40)) ∧
(Let (IntKind.u32.wrap x40) fun x41 : Int =>
 Let (Go.bits .or .u32 x38 x41) fun x42 : Int =>
 ∃ S43 : World → Prop, S43 w24.drew ∧
(Let (w24.drew) fun w44 : World =>
 ∃ a45 : Addr, I0 = some a45 ∧ (0 ≤ (0 : Int) ∧ (0 : Int) < (in0 : Int)) ∧
(∃ x46 : Int, (∀ w', S43 w' → w'.cell? a45 = some (.int .u8 x46)) ∧
(∃ a47 : Addr, I0 = some a47 ∧ (0 ≤ (1 : Int) ∧ (1 : Int) < (in0 : Int)) ∧
(∃ x48 : Int, (∀ w', S43 w' → w'.cell? (a47.add 1) = some (.int .u8 x48)) ∧
((0 ≤ (8 : Int) ∧ (8 : Int) ≤ (in0 : Int)) ∧
(AppE w44 1 1 5 [.int .u8 0] none 0 0 (cutA I0 8 ic0 1) (in0 - 8) (fun (A49 : Option Addr) (c50 : Nat) (w51 : World) =>
 S43 w51 ∧
(May w51 ⟨g1, 0, none⟩ 4 ∧
(Let (putCells w51 ⟨g1, 0, none⟩ [.int .u8 x46, .int .u8 x48, .int .u32 x42, .slice A49 (0 + (in0 - 8)) c50] 0) fun w52 : World =>
 S43 w52 ∧
(∃ x53 : Int, ∃ x54 : Int, ∃ x55 : Int, ∃ (A56 : Option Addr) (n56_ c56_ : Nat), (4 = 4 ∧ At w52 ⟨g1, 0, none⟩ [.int .u8 x53, .int .u8 x54, .int .u32 x55, .slice A56 n56_ c56_]) ∧
(R (.returned (.tuple #[.agg #[.int .u8 x53, .int .u8 x54, .int .u32 x55, .slice A56 n56_ c56_], .int .i64 0])) w52)))))))))))))))))))))))))))))
theorem icmp_Parse.s_eq (I0 : Option Addr) (in0 : Nat) (ic0 : Nat) (w : World) (R : Ending → World → Prop) : seg Tryd.prog entE icmp_Parse.ords icmp_Parse.joins Tryd.f43 [] [] [] ([.slice I0 in0 ic0] ++ List.replicate (Tryd.f43.ntmps - ([.slice I0 in0 ic0] : List Value).length) undef) w R = icmp_Parse.s I0 in0 ic0 w R := by kernel_rfl
theorem icmp_Parse.run {I0 : Option Addr} {in0 : Nat} {ic0 : Nat} {w : World} {R : Ending → World → Prop} (h : icmp_Parse.s I0 in0 ic0 w R) : Calls Tryd.prog 43 #[.slice I0 in0 ic0] w R :=
  calls_seg ents mixed Tryd.func43 rfl (by rw [icmp_Parse.s_eq]; exact h)
/-! ### icmp_made: function 38 -/
def icmp_made.ords : Nat → List (Nat × Bool)
  | _ => []
def icmp_made.joins (p : List Nat) : Bool := false
def icmp_made.s (i0 : Int) (i1 : Int) (i2 : Int) (i3_0 : Int) (i3_1 : Int) (i3_2 : Int) (I3_3 : Option Addr) (in3_3 : Nat) (ic3_3 : Nat) (w : World) (R : Ending → World → Prop) : Prop :=
(Let (w.heap.size) fun g1 : Nat =>
 Let (w.alloc (.cells #[.int .u8 i3_0, .int .u8 i3_1, .int .u32 i3_2, .slice I3_3 in3_3 ic3_3] 40)) fun w2 : World =>
 Let (w2.heap.size) fun g3 : Nat =>
 Let (w2.alloc (.cells #[.int .u8 0, .int .u16 0, .bool false, .bool false, .int .i64 0, .int .u8 0, .int .u8 0, .int .u32 0, .int .u32 0, .slice none 0 0, .slice none 0 0] 29)) fun w4 : World =>
 ∃ x5 : Int, ∃ x6 : Int, ∃ x7 : Int, ∃ (A8 : Option Addr) (n8_ c8_ : Nat), (4 = 4 ∧ At w4 ⟨g1, 0, none⟩ [.int .u8 x5, .int .u8 x6, .int .u32 x7, .slice A8 n8_ c8_]) ∧
(Calls Tryd.prog 45 #[.agg #[.int .u8 x5, .int .u8 x6, .int .u32 x7, .slice A8 n8_ c8_]] w4 (fun (e10 : Ending) (w9 : World) =>
 ∃ (A11 : Option Addr) (n11_ c11_ : Nat), ∃ x12 : Int, e10 = .returned (.tuple #[.slice A11 n11_ c11_, .int .i64 x12]) ∧
((if (x12 != 0) = true then
(May w9 ⟨g3, 0, none⟩ 11 ∧
(Let (putCells w9 ⟨g3, 0, none⟩ [.int .u8 0, .int .u16 0, .bool false, .bool false, .int .i64 0, .int .u8 0, .int .u8 0, .int .u32 0, .int .u32 0, .slice none 0 0, .slice none 0 0] 0) fun w13 : World =>
 ∃ x14 : Int, ∃ x15 : Int, ∃ b16 : Bool, ∃ b17 : Bool, ∃ x18 : Int, ∃ x19 : Int, ∃ x20 : Int, ∃ x21 : Int, ∃ x22 : Int, ∃ (A23 : Option Addr) (n23_ c23_ : Nat), ∃ (A24 : Option Addr) (n24_ c24_ : Nat), (11 = 11 ∧ At w13 ⟨g3, 0, none⟩ [.int .u8 x14, .int .u16 x15, .bool b16, .bool b17, .int .i64 x18, .int .u8 x19, .int .u8 x20, .int .u32 x21, .int .u32 x22, .slice A23 n23_ c23_, .slice A24 n24_ c24_]) ∧
(R (.returned (.tuple #[.agg #[.int .u8 x14, .int .u16 x15, .bool b16, .bool b17, .int .i64 x18, .int .u8 x19, .int .u8 x20, .int .u32 x21, .int .u32 x22, .slice A23 n23_ c23_, .slice A24 n24_ c24_], .int .i64 x12])) w13)))
else
(May w9 ⟨g3, 0, none⟩ 11 ∧
(Let (putCells w9 ⟨g3, 0, none⟩ [.int .u8 i0, .int .u16 0, .bool false, .bool false, .int .i64 0, .int .u8 64, .int .u8 1, .int .u32 i1, .int .u32 i2, .slice none 0 0, .slice A11 n11_ c11_] 0) fun w25 : World =>
 ∃ x26 : Int, ∃ x27 : Int, ∃ b28 : Bool, ∃ b29 : Bool, ∃ x30 : Int, ∃ x31 : Int, ∃ x32 : Int, ∃ x33 : Int, ∃ x34 : Int, ∃ (A35 : Option Addr) (n35_ c35_ : Nat), ∃ (A36 : Option Addr) (n36_ c36_ : Nat), (11 = 11 ∧ At w25 ⟨g3, 0, none⟩ [.int .u8 x26, .int .u16 x27, .bool b28, .bool b29, .int .i64 x30, .int .u8 x31, .int .u8 x32, .int .u32 x33, .int .u32 x34, .slice A35 n35_ c35_, .slice A36 n36_ c36_]) ∧
(R (.returned (.tuple #[.agg #[.int .u8 x26, .int .u16 x27, .bool b28, .bool b29, .int .i64 x30, .int .u8 x31, .int .u8 x32, .int .u32 x33, .int .u32 x34, .slice A35 n35_ c35_, .slice A36 n36_ c36_], .int .i64 0])) w25))))))))
theorem icmp_made.s_eq (i0 : Int) (i1 : Int) (i2 : Int) (i3_0 : Int) (i3_1 : Int) (i3_2 : Int) (I3_3 : Option Addr) (in3_3 : Nat) (ic3_3 : Nat) (w : World) (R : Ending → World → Prop) : seg Tryd.prog entE icmp_made.ords icmp_made.joins Tryd.f38 [] [] [] ([.int .u8 i0, .int .u32 i1, .int .u32 i2, .agg #[.int .u8 i3_0, .int .u8 i3_1, .int .u32 i3_2, .slice I3_3 in3_3 ic3_3]] ++ List.replicate (Tryd.f38.ntmps - ([.int .u8 i0, .int .u32 i1, .int .u32 i2, .agg #[.int .u8 i3_0, .int .u8 i3_1, .int .u32 i3_2, .slice I3_3 in3_3 ic3_3]] : List Value).length) undef) w R = icmp_made.s i0 i1 i2 i3_0 i3_1 i3_2 I3_3 in3_3 ic3_3 w R := by kernel_rfl
theorem icmp_made.run {i0 : Int} {i1 : Int} {i2 : Int} {i3_0 : Int} {i3_1 : Int} {i3_2 : Int} {I3_3 : Option Addr} {in3_3 : Nat} {ic3_3 : Nat} {w : World} {R : Ending → World → Prop} (h : icmp_made.s i0 i1 i2 i3_0 i3_1 i3_2 I3_3 in3_3 ic3_3 w R) : Calls Tryd.prog 38 #[.int .u8 i0, .int .u32 i1, .int .u32 i2, .agg #[.int .u8 i3_0, .int .u8 i3_1, .int .u32 i3_2, .slice I3_3 in3_3 ic3_3]] w R :=
  calls_seg ents mixed Tryd.func38 rfl (by rw [icmp_made.s_eq]; exact h)
/-! ### icmp_Echo: function 39 -/
def icmp_Echo.ords : Nat → List (Nat × Bool)
  | _ => []
def icmp_Echo.joins (p : List Nat) : Bool := p == [1, 1, 1, 0, 0, 1, 1] || p == [1, 1, 1]
def icmp_Echo.j1 (yg1 : Nat) (yg2 : Nat) (yg4 : Nat) (y16 : Bool) (d0 d3 d5 d6 d7 d8 d9 d10 d11 d12 d13 d14 d15 d17 d18 d19 d20 d21 d22 d23 d24 d25 d26 d27 d28 d29 d30 d31 d32 d33 d34 d35 d36 d37 d38 d39 d40 d41 d42 d43 d44 d45 d46 d47 d48 d49 d50 d51 d52 d53 d54 d55 d56 : Value) (w : World) (R : Ending → World → Prop) : Prop :=
  seg Tryd.prog entE icmp_Echo.ords icmp_Echo.joins Tryd.f39 [1, 1, 0, 0, 1, 1, 1] [1, 1, 1, 0, 0, 1, 1] [] [d0, .pointer (some ⟨yg1, 0, none⟩), .pointer (some ⟨yg2, 0, none⟩), d3, .pointer (some ⟨yg4, 0, none⟩), d5, d6, d7, d8, d9, d10, d11, d12, d13, d14, d15, .bool y16, d17, d18, d19, d20, d21, d22, d23, d24, d25, d26, d27, d28, d29, d30, d31, d32, d33, d34, d35, d36, d37, d38, d39, d40, d41, d42, d43, d44, d45, d46, d47, d48, d49, d50, d51, d52, d53, d54, d55, d56] w R
def icmp_Echo.j2 (yg1 : Nat) (yg2 : Nat) (yg4 : Nat) (d0 d3 d5 d6 d7 d8 d9 d10 d11 d12 d13 d14 d15 d16 d17 d18 d19 d20 d21 d22 d23 d24 d25 d26 d27 d28 d29 d30 d31 d32 d33 d34 d35 d36 d37 d38 d39 d40 d41 d42 d43 d44 d45 d46 d47 d48 d49 d50 d51 d52 d53 d54 d55 d56 : Value) (w : World) (R : Ending → World → Prop) : Prop :=
  seg Tryd.prog entE icmp_Echo.ords icmp_Echo.joins Tryd.f39 [1, 1, 1] [1, 1, 1] [] [d0, .pointer (some ⟨yg1, 0, none⟩), .pointer (some ⟨yg2, 0, none⟩), d3, .pointer (some ⟨yg4, 0, none⟩), d5, d6, d7, d8, d9, d10, d11, d12, d13, d14, d15, d16, d17, d18, d19, d20, d21, d22, d23, d24, d25, d26, d27, d28, d29, d30, d31, d32, d33, d34, d35, d36, d37, d38, d39, d40, d41, d42, d43, d44, d45, d46, d47, d48, d49, d50, d51, d52, d53, d54, d55, d56] w R
abbrev icmp_Echo.J1 (yg1 : Nat) (yg2 : Nat) (yg4 : Nat) (y16 : Bool) (w : World) (R : Ending → World → Prop) : Prop := ∀ d0 d3 d5 d6 d7 d8 d9 d10 d11 d12 d13 d14 d15 d17 d18 d19 d20 d21 d22 d23 d24 d25 d26 d27 d28 d29 d30 d31 d32 d33 d34 d35 d36 d37 d38 d39 d40 d41 d42 d43 d44 d45 d46 d47 d48 d49 d50 d51 d52 d53 d54 d55 d56 : Value, icmp_Echo.j1 yg1 yg2 yg4 y16 d0 d3 d5 d6 d7 d8 d9 d10 d11 d12 d13 d14 d15 d17 d18 d19 d20 d21 d22 d23 d24 d25 d26 d27 d28 d29 d30 d31 d32 d33 d34 d35 d36 d37 d38 d39 d40 d41 d42 d43 d44 d45 d46 d47 d48 d49 d50 d51 d52 d53 d54 d55 d56 w R
abbrev icmp_Echo.J2 (yg1 : Nat) (yg2 : Nat) (yg4 : Nat) (w : World) (R : Ending → World → Prop) : Prop := ∀ d0 d3 d5 d6 d7 d8 d9 d10 d11 d12 d13 d14 d15 d16 d17 d18 d19 d20 d21 d22 d23 d24 d25 d26 d27 d28 d29 d30 d31 d32 d33 d34 d35 d36 d37 d38 d39 d40 d41 d42 d43 d44 d45 d46 d47 d48 d49 d50 d51 d52 d53 d54 d55 d56 : Value, icmp_Echo.j2 yg1 yg2 yg4 d0 d3 d5 d6 d7 d8 d9 d10 d11 d12 d13 d14 d15 d16 d17 d18 d19 d20 d21 d22 d23 d24 d25 d26 d27 d28 d29 d30 d31 d32 d33 d34 d35 d36 d37 d38 d39 d40 d41 d42 d43 d44 d45 d46 d47 d48 d49 d50 d51 d52 d53 d54 d55 d56 w R
theorem icmp_Echo.j1_eq (yg1 : Nat) (yg2 : Nat) (yg4 : Nat) (y16 : Bool) (d0 d3 d5 d6 d7 d8 d9 d10 d11 d12 d13 d14 d15 d17 d18 d19 d20 d21 d22 d23 d24 d25 d26 d27 d28 d29 d30 d31 d32 d33 d34 d35 d36 d37 d38 d39 d40 d41 d42 d43 d44 d45 d46 d47 d48 d49 d50 d51 d52 d53 d54 d55 d56 : Value) (w : World) (R : Ending → World → Prop) : icmp_Echo.j1 yg1 yg2 yg4 y16 d0 d3 d5 d6 d7 d8 d9 d10 d11 d12 d13 d14 d15 d17 d18 d19 d20 d21 d22 d23 d24 d25 d26 d27 d28 d29 d30 d31 d32 d33 d34 d35 d36 d37 d38 d39 d40 d41 d42 d43 d44 d45 d46 d47 d48 d49 d50 d51 d52 d53 d54 d55 d56 w R =
((if y16 = true then
(May w ⟨yg2, 0, none⟩ 11 ∧
(Let (putCells w ⟨yg2, 0, none⟩ [.int .u8 0, .int .u16 0, .bool false, .bool false, .int .i64 0, .int .u8 0, .int .u8 0, .int .u32 0, .int .u32 0, .slice none 0 0, .slice none 0 0] 0) fun w1 : World =>
 ∃ x2 : Int, ∃ x3 : Int, ∃ b4 : Bool, ∃ b5 : Bool, ∃ x6 : Int, ∃ x7 : Int, ∃ x8 : Int, ∃ x9 : Int, ∃ x10 : Int, ∃ (A11 : Option Addr) (n11_ c11_ : Nat), ∃ (A12 : Option Addr) (n12_ c12_ : Nat), (11 = 11 ∧ At w1 ⟨yg2, 0, none⟩ [.int .u8 x2, .int .u16 x3, .bool b4, .bool b5, .int .i64 x6, .int .u8 x7, .int .u8 x8, .int .u32 x9, .int .u32 x10, .slice A11 n11_ c11_, .slice A12 n12_ c12_]) ∧
(R (.returned (.tuple #[.agg #[.int .u8 x2, .int .u16 x3, .bool b4, .bool b5, .int .i64 x6, .int .u8 x7, .int .u8 x8, .int .u32 x9, .int .u32 x10, .slice A11 n11_ c11_, .slice A12 n12_ c12_], .int .i64 62])) w1)))
else
(∃ x13 : Int, w.cell? ⟨yg1, 7, none⟩ = some (.int .u32 x13) ∧
(Calls Tryd.prog 36 #[.int .u32 x13] w (fun (e15 : Ending) (w14 : World) =>
 ∃ b16 : Bool, e15 = .returned (.bool b16) ∧
((if (!b16) = true then
(May w14 ⟨yg2, 0, none⟩ 11 ∧
(Let (putCells w14 ⟨yg2, 0, none⟩ [.int .u8 0, .int .u16 0, .bool false, .bool false, .int .i64 0, .int .u8 0, .int .u8 0, .int .u32 0, .int .u32 0, .slice none 0 0, .slice none 0 0] 0) fun w17 : World =>
 ∃ x18 : Int, ∃ x19 : Int, ∃ b20 : Bool, ∃ b21 : Bool, ∃ x22 : Int, ∃ x23 : Int, ∃ x24 : Int, ∃ x25 : Int, ∃ x26 : Int, ∃ (A27 : Option Addr) (n27_ c27_ : Nat), ∃ (A28 : Option Addr) (n28_ c28_ : Nat), (11 = 11 ∧ At w17 ⟨yg2, 0, none⟩ [.int .u8 x18, .int .u16 x19, .bool b20, .bool b21, .int .i64 x22, .int .u8 x23, .int .u8 x24, .int .u32 x25, .int .u32 x26, .slice A27 n27_ c27_, .slice A28 n28_ c28_]) ∧
(R (.returned (.tuple #[.agg #[.int .u8 x18, .int .u16 x19, .bool b20, .bool b21, .int .i64 x22, .int .u8 x23, .int .u8 x24, .int .u32 x25, .int .u32 x26, .slice A27 n27_ c27_, .slice A28 n28_ c28_], .int .i64 61])) w17)))
else
(∃ x29 : Int, w14.cell? ⟨yg1, 8, none⟩ = some (.int .u32 x29) ∧
(Calls Tryd.prog 36 #[.int .u32 x29] w14 (fun (e31 : Ending) (w30 : World) =>
 ∃ b32 : Bool, e31 = .returned (.bool b32) ∧
((if (!b32) = true then
(May w30 ⟨yg2, 0, none⟩ 11 ∧
(Let (putCells w30 ⟨yg2, 0, none⟩ [.int .u8 0, .int .u16 0, .bool false, .bool false, .int .i64 0, .int .u8 0, .int .u8 0, .int .u32 0, .int .u32 0, .slice none 0 0, .slice none 0 0] 0) fun w33 : World =>
 ∃ x34 : Int, ∃ x35 : Int, ∃ b36 : Bool, ∃ b37 : Bool, ∃ x38 : Int, ∃ x39 : Int, ∃ x40 : Int, ∃ x41 : Int, ∃ x42 : Int, ∃ (A43 : Option Addr) (n43_ c43_ : Nat), ∃ (A44 : Option Addr) (n44_ c44_ : Nat), (11 = 11 ∧ At w33 ⟨yg2, 0, none⟩ [.int .u8 x34, .int .u16 x35, .bool b36, .bool b37, .int .i64 x38, .int .u8 x39, .int .u8 x40, .int .u32 x41, .int .u32 x42, .slice A43 n43_ c43_, .slice A44 n44_ c44_]) ∧
(R (.returned (.tuple #[.agg #[.int .u8 x34, .int .u16 x35, .bool b36, .bool b37, .int .i64 x38, .int .u8 x39, .int .u8 x40, .int .u32 x41, .int .u32 x42, .slice A43 n43_ c43_, .slice A44 n44_ c44_], .int .i64 61])) w33)))
else
(Leaf (icmp_Echo.j2 yg1 yg2 yg4 d0 d3 d5 d6 d7 d8 d9 d10 d11 d12 d13 d14 d15 (.bool y16) d17 d18 d19 d20 d21 d22 d23 d24 d25 (.bool (!b32)) (.pointer (some ⟨yg1, 0, none⟩)) (.pointer (some ⟨yg1, 7, none⟩)) (.int .u32 x13) (.bool b16) (.bool (!b16)) (.bool false) (.pointer (some ⟨yg1, 0, none⟩)) (.pointer (some ⟨yg1, 8, none⟩)) (.int .u32 x29) (.bool b32) (.bool (!b32)) (.bool (!b32)) d39 d40 d41 d42 d43 d44 d45 d46 d47 d48 d49 d50 d51 d52 d53 d54 d55 d56 w30 R)))))))))))))) := by kernel_rfl
theorem icmp_Echo.j2_eq (yg1 : Nat) (yg2 : Nat) (yg4 : Nat) (d0 d3 d5 d6 d7 d8 d9 d10 d11 d12 d13 d14 d15 d16 d17 d18 d19 d20 d21 d22 d23 d24 d25 d26 d27 d28 d29 d30 d31 d32 d33 d34 d35 d36 d37 d38 d39 d40 d41 d42 d43 d44 d45 d46 d47 d48 d49 d50 d51 d52 d53 d54 d55 d56 : Value) (w : World) (R : Ending → World → Prop) : icmp_Echo.j2 yg1 yg2 yg4 d0 d3 d5 d6 d7 d8 d9 d10 d11 d12 d13 d14 d15 d16 d17 d18 d19 d20 d21 d22 d23 d24 d25 d26 d27 d28 d29 d30 d31 d32 d33 d34 d35 d36 d37 d38 d39 d40 d41 d42 d43 d44 d45 d46 d47 d48 d49 d50 d51 d52 d53 d54 d55 d56 w R =
(∃ x1 : Int, w.cell? ⟨yg1, 0, none⟩ = some (.int .u8 x1) ∧
(∃ x2 : Int, w.cell? ⟨yg1, 8, none⟩ = some (.int .u32 x2) ∧
(∃ x3 : Int, w.cell? ⟨yg1, 7, none⟩ = some (.int .u32 x3) ∧
(∃ x4 : Int, w.cell? ⟨yg4, 2, none⟩ = some (.int .u32 x4) ∧
(∃ (A5 : Option Addr) (n5_ c5_ : Nat), w.cell? ⟨yg4, 3, none⟩ = some (.slice A5 n5_ c5_) ∧
(Calls Tryd.prog 38 #[.int .u8 x1, .int .u32 x2, .int .u32 x3, .agg #[.int .u8 0, .int .u8 0, .int .u32 x4, .slice A5 n5_ c5_]] w (fun (e7 : Ending) (w6 : World) =>
 ∃ x8 : Int, ∃ x9 : Int, ∃ b10 : Bool, ∃ b11 : Bool, ∃ x12 : Int, ∃ x13 : Int, ∃ x14 : Int, ∃ x15 : Int, ∃ x16 : Int, ∃ (A17 : Option Addr) (n17_ c17_ : Nat), ∃ (A18 : Option Addr) (n18_ c18_ : Nat), ∃ x19 : Int, e7 = .returned (.tuple #[.agg #[.int .u8 x8, .int .u16 x9, .bool b10, .bool b11, .int .i64 x12, .int .u8 x13, .int .u8 x14, .int .u32 x15, .int .u32 x16, .slice A17 n17_ c17_, .slice A18 n18_ c18_], .int .i64 x19]) ∧
(May w6 ⟨yg2, 0, none⟩ 11 ∧
(Let (putCells w6 ⟨yg2, 0, none⟩ [.int .u8 x8, .int .u16 x9, .bool b10, .bool b11, .int .i64 x12, .int .u8 x13, .int .u8 x14, .int .u32 x15, .int .u32 x16, .slice A17 n17_ c17_, .slice A18 n18_ c18_] 0) fun w20 : World =>
 ∃ x21 : Int, ∃ x22 : Int, ∃ b23 : Bool, ∃ b24 : Bool, ∃ x25 : Int, ∃ x26 : Int, ∃ x27 : Int, ∃ x28 : Int, ∃ x29 : Int, ∃ (A30 : Option Addr) (n30_ c30_ : Nat), ∃ (A31 : Option Addr) (n31_ c31_ : Nat), (11 = 11 ∧ At w20 ⟨yg2, 0, none⟩ [.int .u8 x21, .int .u16 x22, .bool b23, .bool b24, .int .i64 x25, .int .u8 x26, .int .u8 x27, .int .u32 x28, .int .u32 x29, .slice A30 n30_ c30_, .slice A31 n31_ c31_]) ∧
(R (.returned (.tuple #[.agg #[.int .u8 x21, .int .u16 x22, .bool b23, .bool b24, .int .i64 x25, .int .u8 x26, .int .u8 x27, .int .u32 x28, .int .u32 x29, .slice A30 n30_ c30_, .slice A31 n31_ c31_], .int .i64 x19])) w20)))))))))) := by kernel_rfl
def icmp_Echo.s (i0_0 : Int) (i0_1 : Int) (i0_2 : Bool) (i0_3 : Bool) (i0_4 : Int) (i0_5 : Int) (i0_6 : Int) (i0_7 : Int) (i0_8 : Int) (I0_9 : Option Addr) (in0_9 : Nat) (ic0_9 : Nat) (I0_10 : Option Addr) (in0_10 : Nat) (ic0_10 : Nat) (w : World) (R : Ending → World → Prop) : Prop :=
(Let (w.heap.size) fun g1 : Nat =>
 Let (w.alloc (.cells #[.int .u8 i0_0, .int .u16 i0_1, .bool i0_2, .bool i0_3, .int .i64 i0_4, .int .u8 i0_5, .int .u8 i0_6, .int .u32 i0_7, .int .u32 i0_8, .slice I0_9 in0_9 ic0_9, .slice I0_10 in0_10 ic0_10] 29)) fun w2 : World =>
 Let (w2.heap.size) fun g3 : Nat =>
 Let (w2.alloc (.cells #[.int .u8 0, .int .u16 0, .bool false, .bool false, .int .i64 0, .int .u8 0, .int .u8 0, .int .u32 0, .int .u32 0, .slice none 0 0, .slice none 0 0] 29)) fun w4 : World =>
 ∃ x5 : Int, ∃ x6 : Int, ∃ b7 : Bool, ∃ b8 : Bool, ∃ x9 : Int, ∃ x10 : Int, ∃ x11 : Int, ∃ x12 : Int, ∃ x13 : Int, ∃ (A14 : Option Addr) (n14_ c14_ : Nat), ∃ (A15 : Option Addr) (n15_ c15_ : Nat), (11 = 11 ∧ At w4 ⟨g1, 0, none⟩ [.int .u8 x5, .int .u16 x6, .bool b7, .bool b8, .int .i64 x9, .int .u8 x10, .int .u8 x11, .int .u32 x12, .int .u32 x13, .slice A14 n14_ c14_, .slice A15 n15_ c15_]) ∧
(Calls Tryd.prog 64 #[.agg #[.int .u8 x5, .int .u16 x6, .bool b7, .bool b8, .int .i64 x9, .int .u8 x10, .int .u8 x11, .int .u32 x12, .int .u32 x13, .slice A14 n14_ c14_, .slice A15 n15_ c15_]] w4 (fun (e17 : Ending) (w16 : World) =>
 ∃ x18 : Int, ∃ x19 : Int, ∃ x20 : Int, ∃ (A21 : Option Addr) (n21_ c21_ : Nat), ∃ x22 : Int, e17 = .returned (.tuple #[.agg #[.int .u8 x18, .int .u8 x19, .int .u32 x20, .slice A21 n21_ c21_], .int .i64 x22]) ∧
(Let (w16.heap.size) fun g23 : Nat =>
 Let (w16.alloc (.cells #[.int .u8 0, .int .u8 0, .int .u32 0, .slice none 0 0] 40)) fun w24 : World =>
 May w24 ⟨g23, 0, none⟩ 4 ∧
(Let (putCells w24 ⟨g23, 0, none⟩ [.int .u8 x18, .int .u8 x19, .int .u32 x20, .slice A21 n21_ c21_] 0) fun w25 : World =>
(if (x22 != 0) = true then
(May w25 ⟨g3, 0, none⟩ 11 ∧
(Let (putCells w25 ⟨g3, 0, none⟩ [.int .u8 0, .int .u16 0, .bool false, .bool false, .int .i64 0, .int .u8 0, .int .u8 0, .int .u32 0, .int .u32 0, .slice none 0 0, .slice none 0 0] 0) fun w26 : World =>
 ∃ x27 : Int, ∃ x28 : Int, ∃ b29 : Bool, ∃ b30 : Bool, ∃ x31 : Int, ∃ x32 : Int, ∃ x33 : Int, ∃ x34 : Int, ∃ x35 : Int, ∃ (A36 : Option Addr) (n36_ c36_ : Nat), ∃ (A37 : Option Addr) (n37_ c37_ : Nat), (11 = 11 ∧ At w26 ⟨g3, 0, none⟩ [.int .u8 x27, .int .u16 x28, .bool b29, .bool b30, .int .i64 x31, .int .u8 x32, .int .u8 x33, .int .u32 x34, .int .u32 x35, .slice A36 n36_ c36_, .slice A37 n37_ c37_]) ∧
(R (.returned (.tuple #[.agg #[.int .u8 x27, .int .u16 x28, .bool b29, .bool b30, .int .i64 x31, .int .u8 x32, .int .u8 x33, .int .u32 x34, .int .u32 x35, .slice A36 n36_ c36_, .slice A37 n37_ c37_], .int .i64 x22])) w26)))
else
(∃ x38 : Int, w25.cell? ⟨g23, 0, none⟩ = some (.int .u8 x38) ∧
((if (x38 != 8) = true then
(Leaf (icmp_Echo.j1 g1 g3 g23 true (.agg #[.int .u8 i0_0, .int .u16 i0_1, .bool i0_2, .bool i0_3, .int .i64 i0_4, .int .u8 i0_5, .int .u8 i0_6, .int .u32 i0_7, .int .u32 i0_8, .slice I0_9 in0_9 ic0_9, .slice I0_10 in0_10 ic0_10]) (.int .i64 0) (.int .i64 x22) (.tuple #[.agg #[.int .u8 x18, .int .u8 x19, .int .u32 x20, .slice A21 n21_ c21_], .int .i64 x22]) (.agg #[.int .u8 x5, .int .u16 x6, .bool b7, .bool b8, .int .i64 x9, .int .u8 x10, .int .u8 x11, .int .u32 x12, .int .u32 x13, .slice A14 n14_ c14_, .slice A15 n15_ c15_]) (.tuple #[.agg #[.int .u8 x18, .int .u8 x19, .int .u32 x20, .slice A21 n21_ c21_], .int .i64 x22]) (.agg #[.int .u8 x18, .int .u8 x19, .int .u32 x20, .slice A21 n21_ c21_]) (.int .i64 x22) (.bool (x22 != 0)) (.int .i64 x22) (.bool (x22 != 0)) undef undef (.pointer (some ⟨g23, 0, none⟩)) (.int .u8 x38) (.bool (x38 != 8)) (.bool true) undef undef undef (.bool true) undef undef undef undef undef undef undef undef undef undef undef undef undef undef undef undef undef undef undef undef undef undef undef undef undef undef undef undef undef undef undef undef w25 R))
else
(∃ x39 : Int, w25.cell? ⟨g23, 1, none⟩ = some (.int .u8 x39) ∧
(Leaf (icmp_Echo.j1 g1 g3 g23 (x39 != 0) (.agg #[.int .u8 i0_0, .int .u16 i0_1, .bool i0_2, .bool i0_3, .int .i64 i0_4, .int .u8 i0_5, .int .u8 i0_6, .int .u32 i0_7, .int .u32 i0_8, .slice I0_9 in0_9 ic0_9, .slice I0_10 in0_10 ic0_10]) (.int .i64 0) (.int .i64 x22) (.tuple #[.agg #[.int .u8 x18, .int .u8 x19, .int .u32 x20, .slice A21 n21_ c21_], .int .i64 x22]) (.agg #[.int .u8 x5, .int .u16 x6, .bool b7, .bool b8, .int .i64 x9, .int .u8 x10, .int .u8 x11, .int .u32 x12, .int .u32 x13, .slice A14 n14_ c14_, .slice A15 n15_ c15_]) (.tuple #[.agg #[.int .u8 x18, .int .u8 x19, .int .u32 x20, .slice A21 n21_ c21_], .int .i64 x22]) (.agg #[.int .u8 x18, .int .u8 x19, .int .u32 x20, .slice A21 n21_ c21_]) (.int .i64 x22) (.bool (x22 != 0)) (.int .i64 x22) (.bool (x22 != 0)) undef undef (.pointer (some ⟨g23, 0, none⟩)) (.int .u8 x38) (.bool (x38 != 8)) (.bool false) (.pointer (some ⟨g23, 1, none⟩)) (.int .u8 x39) (.bool (x39 != 0)) (.bool (x39 != 0)) undef undef undef undef undef undef undef undef undef undef undef undef undef undef undef undef undef undef undef undef undef undef undef undef undef undef undef undef undef undef undef undef w25 R))))))))))))
theorem icmp_Echo.s_eq (i0_0 : Int) (i0_1 : Int) (i0_2 : Bool) (i0_3 : Bool) (i0_4 : Int) (i0_5 : Int) (i0_6 : Int) (i0_7 : Int) (i0_8 : Int) (I0_9 : Option Addr) (in0_9 : Nat) (ic0_9 : Nat) (I0_10 : Option Addr) (in0_10 : Nat) (ic0_10 : Nat) (w : World) (R : Ending → World → Prop) : seg Tryd.prog entE icmp_Echo.ords icmp_Echo.joins Tryd.f39 [] [] [] ([.agg #[.int .u8 i0_0, .int .u16 i0_1, .bool i0_2, .bool i0_3, .int .i64 i0_4, .int .u8 i0_5, .int .u8 i0_6, .int .u32 i0_7, .int .u32 i0_8, .slice I0_9 in0_9 ic0_9, .slice I0_10 in0_10 ic0_10]] ++ List.replicate (Tryd.f39.ntmps - ([.agg #[.int .u8 i0_0, .int .u16 i0_1, .bool i0_2, .bool i0_3, .int .i64 i0_4, .int .u8 i0_5, .int .u8 i0_6, .int .u32 i0_7, .int .u32 i0_8, .slice I0_9 in0_9 ic0_9, .slice I0_10 in0_10 ic0_10]] : List Value).length) undef) w R = icmp_Echo.s i0_0 i0_1 i0_2 i0_3 i0_4 i0_5 i0_6 i0_7 i0_8 I0_9 in0_9 ic0_9 I0_10 in0_10 ic0_10 w R := by kernel_rfl
theorem icmp_Echo.run {i0_0 : Int} {i0_1 : Int} {i0_2 : Bool} {i0_3 : Bool} {i0_4 : Int} {i0_5 : Int} {i0_6 : Int} {i0_7 : Int} {i0_8 : Int} {I0_9 : Option Addr} {in0_9 : Nat} {ic0_9 : Nat} {I0_10 : Option Addr} {in0_10 : Nat} {ic0_10 : Nat} {w : World} {R : Ending → World → Prop} (h : icmp_Echo.s i0_0 i0_1 i0_2 i0_3 i0_4 i0_5 i0_6 i0_7 i0_8 I0_9 in0_9 ic0_9 I0_10 in0_10 ic0_10 w R) : Calls Tryd.prog 39 #[.agg #[.int .u8 i0_0, .int .u16 i0_1, .bool i0_2, .bool i0_3, .int .i64 i0_4, .int .u8 i0_5, .int .u8 i0_6, .int .u32 i0_7, .int .u32 i0_8, .slice I0_9 in0_9 ic0_9, .slice I0_10 in0_10 ic0_10]] w R :=
  calls_seg ents mixed Tryd.func39 rfl (by rw [icmp_Echo.s_eq]; exact h)
/-! ### icmp_message: function 64 -/
def icmp_message.ords : Nat → List (Nat × Bool)
  | _ => []
def icmp_message.joins (p : List Nat) : Bool := p == [1, 1, 1]
def icmp_message.j1 (yg1 : Nat) (yg2 : Nat) (d0 d3 d4 d5 d6 d7 d8 d9 d10 d11 d12 d13 d14 d15 d16 d17 d18 d19 d20 d21 d22 d23 d24 d25 d26 d27 d28 d29 d30 d31 d32 d33 d34 d35 : Value) (w : World) (R : Ending → World → Prop) : Prop :=
  seg Tryd.prog entE icmp_message.ords icmp_message.joins Tryd.f64 [1, 1, 1] [1, 1, 1] [] [d0, .pointer (some ⟨yg1, 0, none⟩), .pointer (some ⟨yg2, 0, none⟩), d3, d4, d5, d6, d7, d8, d9, d10, d11, d12, d13, d14, d15, d16, d17, d18, d19, d20, d21, d22, d23, d24, d25, d26, d27, d28, d29, d30, d31, d32, d33, d34, d35] w R
abbrev icmp_message.J1 (yg1 : Nat) (yg2 : Nat) (w : World) (R : Ending → World → Prop) : Prop := ∀ d0 d3 d4 d5 d6 d7 d8 d9 d10 d11 d12 d13 d14 d15 d16 d17 d18 d19 d20 d21 d22 d23 d24 d25 d26 d27 d28 d29 d30 d31 d32 d33 d34 d35 : Value, icmp_message.j1 yg1 yg2 d0 d3 d4 d5 d6 d7 d8 d9 d10 d11 d12 d13 d14 d15 d16 d17 d18 d19 d20 d21 d22 d23 d24 d25 d26 d27 d28 d29 d30 d31 d32 d33 d34 d35 w R
theorem icmp_message.j1_eq (yg1 : Nat) (yg2 : Nat) (d0 d3 d4 d5 d6 d7 d8 d9 d10 d11 d12 d13 d14 d15 d16 d17 d18 d19 d20 d21 d22 d23 d24 d25 d26 d27 d28 d29 d30 d31 d32 d33 d34 d35 : Value) (w : World) (R : Ending → World → Prop) : icmp_message.j1 yg1 yg2 d0 d3 d4 d5 d6 d7 d8 d9 d10 d11 d12 d13 d14 d15 d16 d17 d18 d19 d20 d21 d22 d23 d24 d25 d26 d27 d28 d29 d30 d31 d32 d33 d34 d35 w R =
(∃ (A1 : Option Addr) (n1_ c1_ : Nat), w.cell? ⟨yg1, 10, none⟩ = some (.slice A1 n1_ c1_) ∧
(Calls Tryd.prog 43 #[.slice A1 n1_ c1_] w (fun (e3 : Ending) (w2 : World) =>
 ∃ x4 : Int, ∃ x5 : Int, ∃ x6 : Int, ∃ (A7 : Option Addr) (n7_ c7_ : Nat), ∃ x8 : Int, e3 = .returned (.tuple #[.agg #[.int .u8 x4, .int .u8 x5, .int .u32 x6, .slice A7 n7_ c7_], .int .i64 x8]) ∧
(May w2 ⟨yg2, 0, none⟩ 4 ∧
(Let (putCells w2 ⟨yg2, 0, none⟩ [.int .u8 x4, .int .u8 x5, .int .u32 x6, .slice A7 n7_ c7_] 0) fun w9 : World =>
 ∃ x10 : Int, ∃ x11 : Int, ∃ x12 : Int, ∃ (A13 : Option Addr) (n13_ c13_ : Nat), (4 = 4 ∧ At w9 ⟨yg2, 0, none⟩ [.int .u8 x10, .int .u8 x11, .int .u32 x12, .slice A13 n13_ c13_]) ∧
(R (.returned (.tuple #[.agg #[.int .u8 x10, .int .u8 x11, .int .u32 x12, .slice A13 n13_ c13_], .int .i64 x8])) w9)))))) := by kernel_rfl
def icmp_message.s (i0_0 : Int) (i0_1 : Int) (i0_2 : Bool) (i0_3 : Bool) (i0_4 : Int) (i0_5 : Int) (i0_6 : Int) (i0_7 : Int) (i0_8 : Int) (I0_9 : Option Addr) (in0_9 : Nat) (ic0_9 : Nat) (I0_10 : Option Addr) (in0_10 : Nat) (ic0_10 : Nat) (w : World) (R : Ending → World → Prop) : Prop :=
(Let (w.heap.size) fun g1 : Nat =>
 Let (w.alloc (.cells #[.int .u8 i0_0, .int .u16 i0_1, .bool i0_2, .bool i0_3, .int .i64 i0_4, .int .u8 i0_5, .int .u8 i0_6, .int .u32 i0_7, .int .u32 i0_8, .slice I0_9 in0_9 ic0_9, .slice I0_10 in0_10 ic0_10] 29)) fun w2 : World =>
 Let (w2.heap.size) fun g3 : Nat =>
 Let (w2.alloc (.cells #[.int .u8 0, .int .u8 0, .int .u32 0, .slice none 0 0] 40)) fun w4 : World =>
 ∃ x5 : Int, ∃ x6 : Int, ∃ b7 : Bool, ∃ b8 : Bool, ∃ x9 : Int, ∃ x10 : Int, ∃ x11 : Int, ∃ x12 : Int, ∃ x13 : Int, ∃ (A14 : Option Addr) (n14_ c14_ : Nat), ∃ (A15 : Option Addr) (n15_ c15_ : Nat), (11 = 11 ∧ At w4 ⟨g1, 0, none⟩ [.int .u8 x5, .int .u16 x6, .bool b7, .bool b8, .int .i64 x9, .int .u8 x10, .int .u8 x11, .int .u32 x12, .int .u32 x13, .slice A14 n14_ c14_, .slice A15 n15_ c15_]) ∧
(Calls Tryd.prog 31 #[.agg #[.int .u8 x5, .int .u16 x6, .bool b7, .bool b8, .int .i64 x9, .int .u8 x10, .int .u8 x11, .int .u32 x12, .int .u32 x13, .slice A14 n14_ c14_, .slice A15 n15_ c15_]] w4 (fun (e17 : Ending) (w16 : World) =>
 ∃ (A18 : Option Addr) (n18_ c18_ : Nat), ∃ x19 : Int, e17 = .returned (.tuple #[.slice A18 n18_ c18_, .int .i64 x19]) ∧
((if (x19 != 0) = true then
(May w16 ⟨g3, 0, none⟩ 4 ∧
(Let (putCells w16 ⟨g3, 0, none⟩ [.int .u8 0, .int .u8 0, .int .u32 0, .slice none 0 0] 0) fun w20 : World =>
 ∃ x21 : Int, ∃ x22 : Int, ∃ x23 : Int, ∃ (A24 : Option Addr) (n24_ c24_ : Nat), (4 = 4 ∧ At w20 ⟨g3, 0, none⟩ [.int .u8 x21, .int .u8 x22, .int .u32 x23, .slice A24 n24_ c24_]) ∧
(R (.returned (.tuple #[.agg #[.int .u8 x21, .int .u8 x22, .int .u32 x23, .slice A24 n24_ c24_], .int .i64 x19])) w20)))
else
(∃ x25 : Int, w16.cell? ⟨g1, 6, none⟩ = some (.int .u8 x25) ∧
((if (x25 != 1) = true then
(May w16 ⟨g3, 0, none⟩ 4 ∧
(Let (putCells w16 ⟨g3, 0, none⟩ [.int .u8 0, .int .u8 0, .int .u32 0, .slice none 0 0] 0) fun w26 : World =>
 ∃ x27 : Int, ∃ x28 : Int, ∃ x29 : Int, ∃ (A30 : Option Addr) (n30_ c30_ : Nat), (4 = 4 ∧ At w26 ⟨g3, 0, none⟩ [.int .u8 x27, .int .u8 x28, .int .u32 x29, .slice A30 n30_ c30_]) ∧
(R (.returned (.tuple #[.agg #[.int .u8 x27, .int .u8 x28, .int .u32 x29, .slice A30 n30_ c30_], .int .i64 60])) w26)))
else
(∃ x31 : Int, w16.cell? ⟨g1, 4, none⟩ = some (.int .i64 x31) ∧
((if decide (x31 > 0) = true then
(May w16 ⟨g3, 0, none⟩ 4 ∧
(Let (putCells w16 ⟨g3, 0, none⟩ [.int .u8 0, .int .u8 0, .int .u32 0, .slice none 0 0] 0) fun w32 : World =>
 ∃ x33 : Int, ∃ x34 : Int, ∃ x35 : Int, ∃ (A36 : Option Addr) (n36_ c36_ : Nat), (4 = 4 ∧ At w32 ⟨g3, 0, none⟩ [.int .u8 x33, .int .u8 x34, .int .u32 x35, .slice A36 n36_ c36_]) ∧
(R (.returned (.tuple #[.agg #[.int .u8 x33, .int .u8 x34, .int .u32 x35, .slice A36 n36_ c36_], .int .i64 60])) w32)))
else
(∃ b37 : Bool, w16.cell? ⟨g1, 3, none⟩ = some (.bool b37) ∧
((if b37 = true then
(May w16 ⟨g3, 0, none⟩ 4 ∧
(Let (putCells w16 ⟨g3, 0, none⟩ [.int .u8 0, .int .u8 0, .int .u32 0, .slice none 0 0] 0) fun w38 : World =>
 ∃ x39 : Int, ∃ x40 : Int, ∃ x41 : Int, ∃ (A42 : Option Addr) (n42_ c42_ : Nat), (4 = 4 ∧ At w38 ⟨g3, 0, none⟩ [.int .u8 x39, .int .u8 x40, .int .u32 x41, .slice A42 n42_ c42_]) ∧
(R (.returned (.tuple #[.agg #[.int .u8 x39, .int .u8 x40, .int .u32 x41, .slice A42 n42_ c42_], .int .i64 60])) w38)))
else
(Leaf (icmp_message.j1 g1 g3 (.agg #[.int .u8 i0_0, .int .u16 i0_1, .bool i0_2, .bool i0_3, .int .i64 i0_4, .int .u8 i0_5, .int .u8 i0_6, .int .u32 i0_7, .int .u32 i0_8, .slice I0_9 in0_9 ic0_9, .slice I0_10 in0_10 ic0_10]) (.int .i64 0) (.slice A18 n18_ c18_) (.int .i64 x19) (.tuple #[.slice A18 n18_ c18_, .int .i64 x19]) (.agg #[.int .u8 x5, .int .u16 x6, .bool b7, .bool b8, .int .i64 x9, .int .u8 x10, .int .u8 x11, .int .u32 x12, .int .u32 x13, .slice A14 n14_ c14_, .slice A15 n15_ c15_]) (.tuple #[.slice A18 n18_ c18_, .int .i64 x19]) (.slice A18 n18_ c18_) (.int .i64 x19) (.int .i64 x19) (.bool (x19 != 0)) undef undef (.pointer (some ⟨g1, 0, none⟩)) (.pointer (some ⟨g1, 6, none⟩)) (.int .u8 x25) (.bool (x25 != 1)) (.bool false) (.pointer (some ⟨g1, 0, none⟩)) (.pointer (some ⟨g1, 4, none⟩)) (.int .i64 x31) (.bool (decide (x31 > 0))) (.bool (decide (x31 > 0))) (.bool false) (.pointer (some ⟨g1, 0, none⟩)) (.pointer (some ⟨g1, 3, none⟩)) (.bool b37) (.bool b37) undef undef undef undef undef undef w16 R))))))))))))))))
theorem icmp_message.s_eq (i0_0 : Int) (i0_1 : Int) (i0_2 : Bool) (i0_3 : Bool) (i0_4 : Int) (i0_5 : Int) (i0_6 : Int) (i0_7 : Int) (i0_8 : Int) (I0_9 : Option Addr) (in0_9 : Nat) (ic0_9 : Nat) (I0_10 : Option Addr) (in0_10 : Nat) (ic0_10 : Nat) (w : World) (R : Ending → World → Prop) : seg Tryd.prog entE icmp_message.ords icmp_message.joins Tryd.f64 [] [] [] ([.agg #[.int .u8 i0_0, .int .u16 i0_1, .bool i0_2, .bool i0_3, .int .i64 i0_4, .int .u8 i0_5, .int .u8 i0_6, .int .u32 i0_7, .int .u32 i0_8, .slice I0_9 in0_9 ic0_9, .slice I0_10 in0_10 ic0_10]] ++ List.replicate (Tryd.f64.ntmps - ([.agg #[.int .u8 i0_0, .int .u16 i0_1, .bool i0_2, .bool i0_3, .int .i64 i0_4, .int .u8 i0_5, .int .u8 i0_6, .int .u32 i0_7, .int .u32 i0_8, .slice I0_9 in0_9 ic0_9, .slice I0_10 in0_10 ic0_10]] : List Value).length) undef) w R = icmp_message.s i0_0 i0_1 i0_2 i0_3 i0_4 i0_5 i0_6 i0_7 i0_8 I0_9 in0_9 ic0_9 I0_10 in0_10 ic0_10 w R := by kernel_rfl
theorem icmp_message.run {i0_0 : Int} {i0_1 : Int} {i0_2 : Bool} {i0_3 : Bool} {i0_4 : Int} {i0_5 : Int} {i0_6 : Int} {i0_7 : Int} {i0_8 : Int} {I0_9 : Option Addr} {in0_9 : Nat} {ic0_9 : Nat} {I0_10 : Option Addr} {in0_10 : Nat} {ic0_10 : Nat} {w : World} {R : Ending → World → Prop} (h : icmp_message.s i0_0 i0_1 i0_2 i0_3 i0_4 i0_5 i0_6 i0_7 i0_8 I0_9 in0_9 ic0_9 I0_10 in0_10 ic0_10 w R) : Calls Tryd.prog 64 #[.agg #[.int .u8 i0_0, .int .u16 i0_1, .bool i0_2, .bool i0_3, .int .i64 i0_4, .int .u8 i0_5, .int .u8 i0_6, .int .u32 i0_7, .int .u32 i0_8, .slice I0_9 in0_9 ic0_9, .slice I0_10 in0_10 ic0_10]] w R :=
  calls_seg ents mixed Tryd.func64 rfl (by rw [icmp_message.s_eq]; exact h)
/-! ### icmp_About: function 40 -/
def icmp_About.ords : Nat → List (Nat × Bool)
  | _ => []
def icmp_About.joins (p : List Nat) : Bool := false
def icmp_About.s (i0_0 : Int) (i0_1 : Int) (i0_2 : Bool) (i0_3 : Bool) (i0_4 : Int) (i0_5 : Int) (i0_6 : Int) (i0_7 : Int) (i0_8 : Int) (I0_9 : Option Addr) (in0_9 : Nat) (ic0_9 : Nat) (I0_10 : Option Addr) (in0_10 : Nat) (ic0_10 : Nat) (w : World) (R : Ending → World → Prop) : Prop :=
(Let (w.heap.size) fun g1 : Nat =>
 Let (w.alloc (.cells #[.int .u8 i0_0, .int .u16 i0_1, .bool i0_2, .bool i0_3, .int .i64 i0_4, .int .u8 i0_5, .int .u8 i0_6, .int .u32 i0_7, .int .u32 i0_8, .slice I0_9 in0_9 ic0_9, .slice I0_10 in0_10 ic0_10] 29)) fun w2 : World =>
 Let (w2.heap.size) fun g3 : Nat =>
 Let (w2.alloc (.cells #[.int .u8 0, .int .u16 0, .bool false, .bool false, .int .i64 0, .int .u8 0, .int .u8 0, .int .u32 0, .int .u32 0, .slice none 0 0] 27)) fun w4 : World =>
 ∃ x5 : Int, ∃ x6 : Int, ∃ b7 : Bool, ∃ b8 : Bool, ∃ x9 : Int, ∃ x10 : Int, ∃ x11 : Int, ∃ x12 : Int, ∃ x13 : Int, ∃ (A14 : Option Addr) (n14_ c14_ : Nat), ∃ (A15 : Option Addr) (n15_ c15_ : Nat), (11 = 11 ∧ At w4 ⟨g1, 0, none⟩ [.int .u8 x5, .int .u16 x6, .bool b7, .bool b8, .int .i64 x9, .int .u8 x10, .int .u8 x11, .int .u32 x12, .int .u32 x13, .slice A14 n14_ c14_, .slice A15 n15_ c15_]) ∧
(Calls Tryd.prog 64 #[.agg #[.int .u8 x5, .int .u16 x6, .bool b7, .bool b8, .int .i64 x9, .int .u8 x10, .int .u8 x11, .int .u32 x12, .int .u32 x13, .slice A14 n14_ c14_, .slice A15 n15_ c15_]] w4 (fun (e17 : Ending) (w16 : World) =>
 ∃ x18 : Int, ∃ x19 : Int, ∃ x20 : Int, ∃ (A21 : Option Addr) (n21_ c21_ : Nat), ∃ x22 : Int, e17 = .returned (.tuple #[.agg #[.int .u8 x18, .int .u8 x19, .int .u32 x20, .slice A21 n21_ c21_], .int .i64 x22]) ∧
(Let (w16.heap.size) fun g23 : Nat =>
 Let (w16.alloc (.cells #[.int .u8 0, .int .u8 0, .int .u32 0, .slice none 0 0] 40)) fun w24 : World =>
 May w24 ⟨g23, 0, none⟩ 4 ∧
(Let (putCells w24 ⟨g23, 0, none⟩ [.int .u8 x18, .int .u8 x19, .int .u32 x20, .slice A21 n21_ c21_] 0) fun w25 : World =>
(if (x22 != 0) = true then
(May w25 ⟨g3, 0, none⟩ 10 ∧
(Let (putCells w25 ⟨g3, 0, none⟩ [.int .u8 0, .int .u16 0, .bool false, .bool false, .int .i64 0, .int .u8 0, .int .u8 0, .int .u32 0, .int .u32 0, .slice none 0 0] 0) fun w26 : World =>
 ∃ x27 : Int, ∃ x28 : Int, ∃ b29 : Bool, ∃ b30 : Bool, ∃ x31 : Int, ∃ x32 : Int, ∃ x33 : Int, ∃ x34 : Int, ∃ x35 : Int, ∃ (A36 : Option Addr) (n36_ c36_ : Nat), (10 = 10 ∧ At w26 ⟨g3, 0, none⟩ [.int .u8 x27, .int .u16 x28, .bool b29, .bool b30, .int .i64 x31, .int .u8 x32, .int .u8 x33, .int .u32 x34, .int .u32 x35, .slice A36 n36_ c36_]) ∧
(R (.returned (.tuple #[.agg #[.int .u8 x27, .int .u16 x28, .bool b29, .bool b30, .int .i64 x31, .int .u8 x32, .int .u8 x33, .int .u32 x34, .int .u32 x35, .slice A36 n36_ c36_], .slice none 0 0, .int .i64 x22])) w26)))
else
(∃ x37 : Int, w25.cell? ⟨g23, 0, none⟩ = some (.int .u8 x37) ∧
(Calls Tryd.prog 63 #[.int .u8 x37] w25 (fun (e39 : Ending) (w38 : World) =>
 ∃ b40 : Bool, e39 = .returned (.bool b40) ∧
((if (!b40) = true then
(May w38 ⟨g3, 0, none⟩ 10 ∧
(Let (putCells w38 ⟨g3, 0, none⟩ [.int .u8 0, .int .u16 0, .bool false, .bool false, .int .i64 0, .int .u8 0, .int .u8 0, .int .u32 0, .int .u32 0, .slice none 0 0] 0) fun w41 : World =>
 ∃ x42 : Int, ∃ x43 : Int, ∃ b44 : Bool, ∃ b45 : Bool, ∃ x46 : Int, ∃ x47 : Int, ∃ x48 : Int, ∃ x49 : Int, ∃ x50 : Int, ∃ (A51 : Option Addr) (n51_ c51_ : Nat), (10 = 10 ∧ At w41 ⟨g3, 0, none⟩ [.int .u8 x42, .int .u16 x43, .bool b44, .bool b45, .int .i64 x46, .int .u8 x47, .int .u8 x48, .int .u32 x49, .int .u32 x50, .slice A51 n51_ c51_]) ∧
(R (.returned (.tuple #[.agg #[.int .u8 x42, .int .u16 x43, .bool b44, .bool b45, .int .i64 x46, .int .u8 x47, .int .u8 x48, .int .u32 x49, .int .u32 x50, .slice A51 n51_ c51_], .slice none 0 0, .int .i64 62])) w41)))
else
(∃ (A52 : Option Addr) (n52_ c52_ : Nat), w38.cell? ⟨g23, 3, none⟩ = some (.slice A52 n52_ c52_) ∧
(Calls Tryd.prog 65 #[.slice A52 n52_ c52_] w38 (fun (e54 : Ending) (w53 : World) =>
 ∃ x55 : Int, ∃ x56 : Int, ∃ b57 : Bool, ∃ b58 : Bool, ∃ x59 : Int, ∃ x60 : Int, ∃ x61 : Int, ∃ x62 : Int, ∃ x63 : Int, ∃ (A64 : Option Addr) (n64_ c64_ : Nat), ∃ (A65 : Option Addr) (n65_ c65_ : Nat), ∃ x66 : Int, e54 = .returned (.tuple #[.agg #[.int .u8 x55, .int .u16 x56, .bool b57, .bool b58, .int .i64 x59, .int .u8 x60, .int .u8 x61, .int .u32 x62, .int .u32 x63, .slice A64 n64_ c64_], .slice A65 n65_ c65_, .int .i64 x66]) ∧
(May w53 ⟨g3, 0, none⟩ 10 ∧
(Let (putCells w53 ⟨g3, 0, none⟩ [.int .u8 x55, .int .u16 x56, .bool b57, .bool b58, .int .i64 x59, .int .u8 x60, .int .u8 x61, .int .u32 x62, .int .u32 x63, .slice A64 n64_ c64_] 0) fun w67 : World =>
 ∃ x68 : Int, ∃ x69 : Int, ∃ b70 : Bool, ∃ b71 : Bool, ∃ x72 : Int, ∃ x73 : Int, ∃ x74 : Int, ∃ x75 : Int, ∃ x76 : Int, ∃ (A77 : Option Addr) (n77_ c77_ : Nat), (10 = 10 ∧ At w67 ⟨g3, 0, none⟩ [.int .u8 x68, .int .u16 x69, .bool b70, .bool b71, .int .i64 x72, .int .u8 x73, .int .u8 x74, .int .u32 x75, .int .u32 x76, .slice A77 n77_ c77_]) ∧
(R (.returned (.tuple #[.agg #[.int .u8 x68, .int .u16 x69, .bool b70, .bool b71, .int .i64 x72, .int .u8 x73, .int .u8 x74, .int .u32 x75, .int .u32 x76, .slice A77 n77_ c77_], .slice A65 n65_ c65_, .int .i64 x66])) w67)))))))))))))))))
theorem icmp_About.s_eq (i0_0 : Int) (i0_1 : Int) (i0_2 : Bool) (i0_3 : Bool) (i0_4 : Int) (i0_5 : Int) (i0_6 : Int) (i0_7 : Int) (i0_8 : Int) (I0_9 : Option Addr) (in0_9 : Nat) (ic0_9 : Nat) (I0_10 : Option Addr) (in0_10 : Nat) (ic0_10 : Nat) (w : World) (R : Ending → World → Prop) : seg Tryd.prog entE icmp_About.ords icmp_About.joins Tryd.f40 [] [] [] ([.agg #[.int .u8 i0_0, .int .u16 i0_1, .bool i0_2, .bool i0_3, .int .i64 i0_4, .int .u8 i0_5, .int .u8 i0_6, .int .u32 i0_7, .int .u32 i0_8, .slice I0_9 in0_9 ic0_9, .slice I0_10 in0_10 ic0_10]] ++ List.replicate (Tryd.f40.ntmps - ([.agg #[.int .u8 i0_0, .int .u16 i0_1, .bool i0_2, .bool i0_3, .int .i64 i0_4, .int .u8 i0_5, .int .u8 i0_6, .int .u32 i0_7, .int .u32 i0_8, .slice I0_9 in0_9 ic0_9, .slice I0_10 in0_10 ic0_10]] : List Value).length) undef) w R = icmp_About.s i0_0 i0_1 i0_2 i0_3 i0_4 i0_5 i0_6 i0_7 i0_8 I0_9 in0_9 ic0_9 I0_10 in0_10 ic0_10 w R := by kernel_rfl
theorem icmp_About.run {i0_0 : Int} {i0_1 : Int} {i0_2 : Bool} {i0_3 : Bool} {i0_4 : Int} {i0_5 : Int} {i0_6 : Int} {i0_7 : Int} {i0_8 : Int} {I0_9 : Option Addr} {in0_9 : Nat} {ic0_9 : Nat} {I0_10 : Option Addr} {in0_10 : Nat} {ic0_10 : Nat} {w : World} {R : Ending → World → Prop} (h : icmp_About.s i0_0 i0_1 i0_2 i0_3 i0_4 i0_5 i0_6 i0_7 i0_8 I0_9 in0_9 ic0_9 I0_10 in0_10 ic0_10 w R) : Calls Tryd.prog 40 #[.agg #[.int .u8 i0_0, .int .u16 i0_1, .bool i0_2, .bool i0_3, .int .i64 i0_4, .int .u8 i0_5, .int .u8 i0_6, .int .u32 i0_7, .int .u32 i0_8, .slice I0_9 in0_9 ic0_9, .slice I0_10 in0_10 ic0_10]] w R :=
  calls_seg ents mixed Tryd.func40 rfl (by rw [icmp_About.s_eq]; exact h)
/-! ### icmp_Fault: function 17 -/
def icmp_Fault.ords : Nat → List (Nat × Bool)
  | _ => []
def icmp_Fault.joins (p : List Nat) : Bool := p == [1, 1] || p == [1, 1, 1, 1, 1, 1, 1]
def icmp_Fault.j1 (y1 : Int) (y2 : Int) (y3 : Int) (y4 : Int) (yg5 : Nat) (yg10 : Nat) (d0 d6 d7 d8 d9 d11 d12 d13 d14 d15 d16 d17 d18 d19 d20 d21 d22 d23 d24 d25 d26 d27 d28 d29 d30 d31 d32 d33 d34 d35 d36 d37 d38 d39 d40 d41 d42 d43 d44 d45 d46 d47 d48 d49 d50 d51 d52 d53 d54 d55 d56 d57 d58 d59 d60 d61 d62 d63 d64 d65 d66 d67 d68 d69 : Value) (w : World) (R : Ending → World → Prop) : Prop :=
  seg Tryd.prog entE icmp_Fault.ords icmp_Fault.joins Tryd.f17 [1, 1] [1, 1] [] [d0, .int .u8 y1, .int .u8 y2, .int .i64 y3, .int .u32 y4, .pointer (some ⟨yg5, 0, none⟩), d6, d7, d8, d9, .pointer (some ⟨yg10, 0, none⟩), d11, d12, d13, d14, d15, d16, d17, d18, d19, d20, d21, d22, d23, d24, d25, d26, d27, d28, d29, d30, d31, d32, d33, d34, d35, d36, d37, d38, d39, d40, d41, d42, d43, d44, d45, d46, d47, d48, d49, d50, d51, d52, d53, d54, d55, d56, d57, d58, d59, d60, d61, d62, d63, d64, d65, d66, d67, d68, d69] w R
def icmp_Fault.j2 (y1 : Int) (y2 : Int) (y4 : Int) (yg5 : Nat) (yg10 : Nat) (Y12 : Option Addr) (yn12 : Nat) (yc12 : Nat) (y14 : Int) (d0 d3 d6 d7 d8 d9 d11 d13 d15 d16 d17 d18 d19 d20 d21 d22 d23 d24 d25 d26 d27 d28 d29 d30 d31 d32 d33 d34 d35 d36 d37 d38 d39 d40 d41 d42 d43 d44 d45 d46 d47 d48 d49 d50 d51 d52 d53 d54 d55 d56 d57 d58 d59 d60 d61 d62 d63 d64 d65 d66 d67 d68 d69 : Value) (w : World) (R : Ending → World → Prop) : Prop :=
  seg Tryd.prog entE icmp_Fault.ords icmp_Fault.joins Tryd.f17 [1, 1, 1, 1, 1, 1, 1] [1, 1, 1, 1, 1, 1, 1] [] [d0, .int .u8 y1, .int .u8 y2, d3, .int .u32 y4, .pointer (some ⟨yg5, 0, none⟩), d6, d7, d8, d9, .pointer (some ⟨yg10, 0, none⟩), d11, .slice Y12 yn12 yc12, d13, .int .u32 y14, d15, d16, d17, d18, d19, d20, d21, d22, d23, d24, d25, d26, d27, d28, d29, d30, d31, d32, d33, d34, d35, d36, d37, d38, d39, d40, d41, d42, d43, d44, d45, d46, d47, d48, d49, d50, d51, d52, d53, d54, d55, d56, d57, d58, d59, d60, d61, d62, d63, d64, d65, d66, d67, d68, d69] w R
abbrev icmp_Fault.J1 (y1 : Int) (y2 : Int) (y3 : Int) (y4 : Int) (yg5 : Nat) (yg10 : Nat) (w : World) (R : Ending → World → Prop) : Prop := ∀ d0 d6 d7 d8 d9 d11 d12 d13 d14 d15 d16 d17 d18 d19 d20 d21 d22 d23 d24 d25 d26 d27 d28 d29 d30 d31 d32 d33 d34 d35 d36 d37 d38 d39 d40 d41 d42 d43 d44 d45 d46 d47 d48 d49 d50 d51 d52 d53 d54 d55 d56 d57 d58 d59 d60 d61 d62 d63 d64 d65 d66 d67 d68 d69 : Value, icmp_Fault.j1 y1 y2 y3 y4 yg5 yg10 d0 d6 d7 d8 d9 d11 d12 d13 d14 d15 d16 d17 d18 d19 d20 d21 d22 d23 d24 d25 d26 d27 d28 d29 d30 d31 d32 d33 d34 d35 d36 d37 d38 d39 d40 d41 d42 d43 d44 d45 d46 d47 d48 d49 d50 d51 d52 d53 d54 d55 d56 d57 d58 d59 d60 d61 d62 d63 d64 d65 d66 d67 d68 d69 w R
abbrev icmp_Fault.J2 (y1 : Int) (y2 : Int) (y4 : Int) (yg5 : Nat) (yg10 : Nat) (Y12 : Option Addr) (yn12 : Nat) (yc12 : Nat) (y14 : Int) (w : World) (R : Ending → World → Prop) : Prop := ∀ d0 d3 d6 d7 d8 d9 d11 d13 d15 d16 d17 d18 d19 d20 d21 d22 d23 d24 d25 d26 d27 d28 d29 d30 d31 d32 d33 d34 d35 d36 d37 d38 d39 d40 d41 d42 d43 d44 d45 d46 d47 d48 d49 d50 d51 d52 d53 d54 d55 d56 d57 d58 d59 d60 d61 d62 d63 d64 d65 d66 d67 d68 d69 : Value, icmp_Fault.j2 y1 y2 y4 yg5 yg10 Y12 yn12 yc12 y14 d0 d3 d6 d7 d8 d9 d11 d13 d15 d16 d17 d18 d19 d20 d21 d22 d23 d24 d25 d26 d27 d28 d29 d30 d31 d32 d33 d34 d35 d36 d37 d38 d39 d40 d41 d42 d43 d44 d45 d46 d47 d48 d49 d50 d51 d52 d53 d54 d55 d56 d57 d58 d59 d60 d61 d62 d63 d64 d65 d66 d67 d68 d69 w R
theorem icmp_Fault.j1_eq (y1 : Int) (y2 : Int) (y3 : Int) (y4 : Int) (yg5 : Nat) (yg10 : Nat) (d0 d6 d7 d8 d9 d11 d12 d13 d14 d15 d16 d17 d18 d19 d20 d21 d22 d23 d24 d25 d26 d27 d28 d29 d30 d31 d32 d33 d34 d35 d36 d37 d38 d39 d40 d41 d42 d43 d44 d45 d46 d47 d48 d49 d50 d51 d52 d53 d54 d55 d56 d57 d58 d59 d60 d61 d62 d63 d64 d65 d66 d67 d68 d69 : Value) (w : World) (R : Ending → World → Prop) : icmp_Fault.j1 y1 y2 y3 y4 yg5 yg10 d0 d6 d7 d8 d9 d11 d12 d13 d14 d15 d16 d17 d18 d19 d20 d21 d22 d23 d24 d25 d26 d27 d28 d29 d30 d31 d32 d33 d34 d35 d36 d37 d38 d39 d40 d41 d42 d43 d44 d45 d46 d47 d48 d49 d50 d51 d52 d53 d54 d55 d56 d57 d58 d59 d60 d61 d62 d63 d64 d65 d66 d67 d68 d69 w R =
(∃ x1 : Int, ∃ x2 : Int, ∃ b3 : Bool, ∃ b4 : Bool, ∃ x5 : Int, ∃ x6 : Int, ∃ x7 : Int, ∃ x8 : Int, ∃ x9 : Int, ∃ (A10 : Option Addr) (n10_ c10_ : Nat), ∃ (A11 : Option Addr) (n11_ c11_ : Nat), (11 = 11 ∧ At w ⟨yg5, 0, none⟩ [.int .u8 x1, .int .u16 x2, .bool b3, .bool b4, .int .i64 x5, .int .u8 x6, .int .u8 x7, .int .u32 x8, .int .u32 x9, .slice A10 n10_ c10_, .slice A11 n11_ c11_]) ∧
(Calls Tryd.prog 31 #[.agg #[.int .u8 x1, .int .u16 x2, .bool b3, .bool b4, .int .i64 x5, .int .u8 x6, .int .u8 x7, .int .u32 x8, .int .u32 x9, .slice A10 n10_ c10_, .slice A11 n11_ c11_]] w (fun (e13 : Ending) (w12 : World) =>
 ∃ (A14 : Option Addr) (n14_ c14_ : Nat), ∃ x15 : Int, e13 = .returned (.tuple #[.slice A14 n14_ c14_, .int .i64 x15]) ∧
((if (x15 != 0) = true then
(May w12 ⟨yg10, 0, none⟩ 11 ∧
(Let (putCells w12 ⟨yg10, 0, none⟩ [.int .u8 0, .int .u16 0, .bool false, .bool false, .int .i64 0, .int .u8 0, .int .u8 0, .int .u32 0, .int .u32 0, .slice none 0 0, .slice none 0 0] 0) fun w16 : World =>
 ∃ x17 : Int, ∃ x18 : Int, ∃ b19 : Bool, ∃ b20 : Bool, ∃ x21 : Int, ∃ x22 : Int, ∃ x23 : Int, ∃ x24 : Int, ∃ x25 : Int, ∃ (A26 : Option Addr) (n26_ c26_ : Nat), ∃ (A27 : Option Addr) (n27_ c27_ : Nat), (11 = 11 ∧ At w16 ⟨yg10, 0, none⟩ [.int .u8 x17, .int .u16 x18, .bool b19, .bool b20, .int .i64 x21, .int .u8 x22, .int .u8 x23, .int .u32 x24, .int .u32 x25, .slice A26 n26_ c26_, .slice A27 n27_ c27_]) ∧
(R (.returned (.tuple #[.agg #[.int .u8 x17, .int .u16 x18, .bool b19, .bool b20, .int .i64 x21, .int .u8 x22, .int .u8 x23, .int .u32 x24, .int .u32 x25, .slice A26 n26_ c26_, .slice A27 n27_ c27_], .int .i64 x15])) w16)))
else
(∃ x28 : Int, ∃ x29 : Int, ∃ b30 : Bool, ∃ b31 : Bool, ∃ x32 : Int, ∃ x33 : Int, ∃ x34 : Int, ∃ x35 : Int, ∃ x36 : Int, ∃ (A37 : Option Addr) (n37_ c37_ : Nat), ∃ (A38 : Option Addr) (n38_ c38_ : Nat), (11 = 11 ∧ At w12 ⟨yg5, 0, none⟩ [.int .u8 x28, .int .u16 x29, .bool b30, .bool b31, .int .i64 x32, .int .u8 x33, .int .u8 x34, .int .u32 x35, .int .u32 x36, .slice A37 n37_ c37_, .slice A38 n38_ c38_]) ∧
(Calls Tryd.prog 37 #[.agg #[.int .u8 x28, .int .u16 x29, .bool b30, .bool b31, .int .i64 x32, .int .u8 x33, .int .u8 x34, .int .u32 x35, .int .u32 x36, .slice A37 n37_ c37_, .slice A38 n38_ c38_]] w12 (fun (e40 : Ending) (w39 : World) =>
 ∃ b41 : Bool, e40 = .returned (.bool b41) ∧
((if b41 = true then
(May w39 ⟨yg10, 0, none⟩ 11 ∧
(Let (putCells w39 ⟨yg10, 0, none⟩ [.int .u8 0, .int .u16 0, .bool false, .bool false, .int .i64 0, .int .u8 0, .int .u8 0, .int .u32 0, .int .u32 0, .slice none 0 0, .slice none 0 0] 0) fun w42 : World =>
 ∃ x43 : Int, ∃ x44 : Int, ∃ b45 : Bool, ∃ b46 : Bool, ∃ x47 : Int, ∃ x48 : Int, ∃ x49 : Int, ∃ x50 : Int, ∃ x51 : Int, ∃ (A52 : Option Addr) (n52_ c52_ : Nat), ∃ (A53 : Option Addr) (n53_ c53_ : Nat), (11 = 11 ∧ At w42 ⟨yg10, 0, none⟩ [.int .u8 x43, .int .u16 x44, .bool b45, .bool b46, .int .i64 x47, .int .u8 x48, .int .u8 x49, .int .u32 x50, .int .u32 x51, .slice A52 n52_ c52_, .slice A53 n53_ c53_]) ∧
(R (.returned (.tuple #[.agg #[.int .u8 x43, .int .u16 x44, .bool b45, .bool b46, .int .i64 x47, .int .u8 x48, .int .u8 x49, .int .u32 x50, .int .u32 x51, .slice A52 n52_ c52_, .slice A53 n53_ c53_], .int .i64 61])) w42)))
else
(Let (IntKind.u32.wrap y3) fun x54 : Int =>
(if (y1 == 12) = true then
(Let (IntKind.u32.wrap (x54 * 16777216)) fun x55 : Int =>
 Leaf (icmp_Fault.j2 y1 y2 y4 yg5 yg10 A14 n14_ c14_ x55 d0 (.int .i64 y3) d6 d7 d8 d9 d11 (.int .i64 x15) d15 d16 d17 d18 d19 d20 d21 d22 d23 d24 d25 d26 (.tuple #[.slice A14 n14_ c14_, .int .i64 x15]) (.agg #[.int .u8 x1, .int .u16 x2, .bool b3, .bool b4, .int .i64 x5, .int .u8 x6, .int .u8 x7, .int .u32 x8, .int .u32 x9, .slice A10 n10_ c10_, .slice A11 n11_ c11_]) (.tuple #[.slice A14 n14_ c14_, .int .i64 x15]) (.slice A14 n14_ c14_) (.int .i64 x15) (.int .i64 x15) (.bool (x15 != 0)) d34 d35 (.agg #[.int .u8 x28, .int .u16 x29, .bool b30, .bool b31, .int .i64 x32, .int .u8 x33, .int .u8 x34, .int .u32 x35, .int .u32 x36, .slice A37 n37_ c37_, .slice A38 n38_ c38_]) (.bool b41) d38 (.int .i64 y3) (.int .u32 x54) (.int .u8 y1) (.bool (y1 == 12)) (.int .u32 x54) (.int .u32 x55) d45 d46 d47 d48 d49 d50 d51 d52 d53 d54 d55 d56 d57 d58 d59 d60 d61 d62 d63 d64 d65 d66 d67 d68 d69 w39 R))
else
(Leaf (icmp_Fault.j2 y1 y2 y4 yg5 yg10 A14 n14_ c14_ x54 d0 (.int .i64 y3) d6 d7 d8 d9 d11 (.int .i64 x15) d15 d16 d17 d18 d19 d20 d21 d22 d23 d24 d25 d26 (.tuple #[.slice A14 n14_ c14_, .int .i64 x15]) (.agg #[.int .u8 x1, .int .u16 x2, .bool b3, .bool b4, .int .i64 x5, .int .u8 x6, .int .u8 x7, .int .u32 x8, .int .u32 x9, .slice A10 n10_ c10_, .slice A11 n11_ c11_]) (.tuple #[.slice A14 n14_ c14_, .int .i64 x15]) (.slice A14 n14_ c14_) (.int .i64 x15) (.int .i64 x15) (.bool (x15 != 0)) d34 d35 (.agg #[.int .u8 x28, .int .u16 x29, .bool b30, .bool b31, .int .i64 x32, .int .u8 x33, .int .u8 x34, .int .u32 x35, .int .u32 x36, .slice A37 n37_ c37_, .slice A38 n38_ c38_]) (.bool b41) d38 (.int .i64 y3) (.int .u32 x54) (.int .u8 y1) (.bool (y1 == 12)) d43 d44 d45 d46 d47 d48 d49 d50 d51 d52 d53 d54 d55 d56 d57 d58 d59 d60 d61 d62 d63 d64 d65 d66 d67 d68 d69 w39 R)))))))))))))) := by kernel_rfl
theorem icmp_Fault.j2_eq (y1 : Int) (y2 : Int) (y4 : Int) (yg5 : Nat) (yg10 : Nat) (Y12 : Option Addr) (yn12 : Nat) (yc12 : Nat) (y14 : Int) (d0 d3 d6 d7 d8 d9 d11 d13 d15 d16 d17 d18 d19 d20 d21 d22 d23 d24 d25 d26 d27 d28 d29 d30 d31 d32 d33 d34 d35 d36 d37 d38 d39 d40 d41 d42 d43 d44 d45 d46 d47 d48 d49 d50 d51 d52 d53 d54 d55 d56 d57 d58 d59 d60 d61 d62 d63 d64 d65 d66 d67 d68 d69 : Value) (w : World) (R : Ending → World → Prop) : icmp_Fault.j2 y1 y2 y4 yg5 yg10 Y12 yn12 yc12 y14 d0 d3 d6 d7 d8 d9 d11 d13 d15 d16 d17 d18 d19 d20 d21 d22 d23 d24 d25 d26 d27 d28 d29 d30 d31 d32 d33 d34 d35 d36 d37 d38 d39 d40 d41 d42 d43 d44 d45 d46 d47 d48 d49 d50 d51 d52 d53 d54 d55 d56 d57 d58 d59 d60 d61 d62 d63 d64 d65 d66 d67 d68 d69 w R =
(∃ (A1 : Option Addr) (n1_ c1_ : Nat), w.cell? ⟨yg5, 10, none⟩ = some (.slice A1 n1_ c1_) ∧
(Let (IntKind.i64.wrap ((yn12 : Int) - (n1_ : Int))) fun x2 : Int =>
 ∃ (A3 : Option Addr) (n3_ c3_ : Nat), w.cell? ⟨yg5, 10, none⟩ = some (.slice A3 n3_ c3_) ∧
(Let ((if 8 < (n3_ : Int) then 8 else (n3_ : Int))) fun x4 : Int =>
 Let (IntKind.i64.wrap (x2 + x4)) fun x5 : Int =>
(0 ≤ x5 ∧ x5 ≤ (yc12 : Int)) ∧
(∃ x6 : Int, w.cell? ⟨yg5, 7, none⟩ = some (.int .u32 x6) ∧
(Calls Tryd.prog 38 #[.int .u8 0, .int .u32 y4, .int .u32 x6, .agg #[.int .u8 y1, .int .u8 y2, .int .u32 y14, .slice Y12 x5.toNat yc12]] w (fun (e8 : Ending) (w7 : World) =>
 ∃ x9 : Int, ∃ x10 : Int, ∃ b11 : Bool, ∃ b12 : Bool, ∃ x13 : Int, ∃ x14 : Int, ∃ x15 : Int, ∃ x16 : Int, ∃ x17 : Int, ∃ (A18 : Option Addr) (n18_ c18_ : Nat), ∃ (A19 : Option Addr) (n19_ c19_ : Nat), ∃ x20 : Int, e8 = .returned (.tuple #[.agg #[.int .u8 x9, .int .u16 x10, .bool b11, .bool b12, .int .i64 x13, .int .u8 x14, .int .u8 x15, .int .u32 x16, .int .u32 x17, .slice A18 n18_ c18_, .slice A19 n19_ c19_], .int .i64 x20]) ∧
(May w7 ⟨yg10, 0, none⟩ 11 ∧
(Let (putCells w7 ⟨yg10, 0, none⟩ [.int .u8 x9, .int .u16 x10, .bool b11, .bool b12, .int .i64 x13, .int .u8 x14, .int .u8 x15, .int .u32 x16, .int .u32 x17, .slice A18 n18_ c18_, .slice A19 n19_ c19_] 0) fun w21 : World =>
 ∃ x22 : Int, ∃ x23 : Int, ∃ b24 : Bool, ∃ b25 : Bool, ∃ x26 : Int, ∃ x27 : Int, ∃ x28 : Int, ∃ x29 : Int, ∃ x30 : Int, ∃ (A31 : Option Addr) (n31_ c31_ : Nat), ∃ (A32 : Option Addr) (n32_ c32_ : Nat), (11 = 11 ∧ At w21 ⟨yg10, 0, none⟩ [.int .u8 x22, .int .u16 x23, .bool b24, .bool b25, .int .i64 x26, .int .u8 x27, .int .u8 x28, .int .u32 x29, .int .u32 x30, .slice A31 n31_ c31_, .slice A32 n32_ c32_]) ∧
(R (.returned (.tuple #[.agg #[.int .u8 x22, .int .u16 x23, .bool b24, .bool b25, .int .i64 x26, .int .u8 x27, .int .u8 x28, .int .u32 x29, .int .u32 x30, .slice A31 n31_ c31_, .slice A32 n32_ c32_], .int .i64 x20])) w21))))))))) := by kernel_rfl
def icmp_Fault.s (i0_0 : Int) (i0_1 : Int) (i0_2 : Bool) (i0_3 : Bool) (i0_4 : Int) (i0_5 : Int) (i0_6 : Int) (i0_7 : Int) (i0_8 : Int) (I0_9 : Option Addr) (in0_9 : Nat) (ic0_9 : Nat) (I0_10 : Option Addr) (in0_10 : Nat) (ic0_10 : Nat) (i1 : Int) (i2 : Int) (i3 : Int) (i4 : Int) (w : World) (R : Ending → World → Prop) : Prop :=
(Let (w.heap.size) fun g1 : Nat =>
 Let (w.alloc (.cells #[.int .u8 i0_0, .int .u16 i0_1, .bool i0_2, .bool i0_3, .int .i64 i0_4, .int .u8 i0_5, .int .u8 i0_6, .int .u32 i0_7, .int .u32 i0_8, .slice I0_9 in0_9 ic0_9, .slice I0_10 in0_10 ic0_10] 29)) fun w2 : World =>
 Let (w2.heap.size) fun g3 : Nat =>
 Let (w2.alloc (.cells #[.int .u8 0, .int .u16 0, .bool false, .bool false, .int .i64 0, .int .u8 0, .int .u8 0, .int .u32 0, .int .u32 0, .slice none 0 0, .slice none 0 0] 29)) fun w4 : World =>
 Calls Tryd.prog 35 #[.int .u8 i1, .int .u8 i2, .int .i64 i3] w4 (fun (e6 : Ending) (w5 : World) =>
 ∃ b7 : Bool, e6 = .returned (.bool b7) ∧
((if (!b7) = true then
(May w5 ⟨g3, 0, none⟩ 11 ∧
(Let (putCells w5 ⟨g3, 0, none⟩ [.int .u8 0, .int .u16 0, .bool false, .bool false, .int .i64 0, .int .u8 0, .int .u8 0, .int .u32 0, .int .u32 0, .slice none 0 0, .slice none 0 0] 0) fun w8 : World =>
 ∃ x9 : Int, ∃ x10 : Int, ∃ b11 : Bool, ∃ b12 : Bool, ∃ x13 : Int, ∃ x14 : Int, ∃ x15 : Int, ∃ x16 : Int, ∃ x17 : Int, ∃ (A18 : Option Addr) (n18_ c18_ : Nat), ∃ (A19 : Option Addr) (n19_ c19_ : Nat), (11 = 11 ∧ At w8 ⟨g3, 0, none⟩ [.int .u8 x9, .int .u16 x10, .bool b11, .bool b12, .int .i64 x13, .int .u8 x14, .int .u8 x15, .int .u32 x16, .int .u32 x17, .slice A18 n18_ c18_, .slice A19 n19_ c19_]) ∧
(R (.returned (.tuple #[.agg #[.int .u8 x9, .int .u16 x10, .bool b11, .bool b12, .int .i64 x13, .int .u8 x14, .int .u8 x15, .int .u32 x16, .int .u32 x17, .slice A18 n18_ c18_, .slice A19 n19_ c19_], .int .i64 1])) w8)))
else
(Calls Tryd.prog 36 #[.int .u32 i4] w5 (fun (e21 : Ending) (w20 : World) =>
 ∃ b22 : Bool, e21 = .returned (.bool b22) ∧
((if (!b22) = true then
(May w20 ⟨g3, 0, none⟩ 11 ∧
(Let (putCells w20 ⟨g3, 0, none⟩ [.int .u8 0, .int .u16 0, .bool false, .bool false, .int .i64 0, .int .u8 0, .int .u8 0, .int .u32 0, .int .u32 0, .slice none 0 0, .slice none 0 0] 0) fun w23 : World =>
 ∃ x24 : Int, ∃ x25 : Int, ∃ b26 : Bool, ∃ b27 : Bool, ∃ x28 : Int, ∃ x29 : Int, ∃ x30 : Int, ∃ x31 : Int, ∃ x32 : Int, ∃ (A33 : Option Addr) (n33_ c33_ : Nat), ∃ (A34 : Option Addr) (n34_ c34_ : Nat), (11 = 11 ∧ At w23 ⟨g3, 0, none⟩ [.int .u8 x24, .int .u16 x25, .bool b26, .bool b27, .int .i64 x28, .int .u8 x29, .int .u8 x30, .int .u32 x31, .int .u32 x32, .slice A33 n33_ c33_, .slice A34 n34_ c34_]) ∧
(R (.returned (.tuple #[.agg #[.int .u8 x24, .int .u16 x25, .bool b26, .bool b27, .int .i64 x28, .int .u8 x29, .int .u8 x30, .int .u32 x31, .int .u32 x32, .slice A33 n33_ c33_, .slice A34 n34_ c34_], .int .i64 1])) w23)))
else
(Leaf (icmp_Fault.j1 i1 i2 i3 i4 g1 g3 (.agg #[.int .u8 i0_0, .int .u16 i0_1, .bool i0_2, .bool i0_3, .int .i64 i0_4, .int .u8 i0_5, .int .u8 i0_6, .int .u32 i0_7, .int .u32 i0_8, .slice I0_9 in0_9 ic0_9, .slice I0_10 in0_10 ic0_10]) undef undef undef undef (.int .i64 0) undef undef undef undef (.int .u8 i1) (.int .u8 i2) (.int .i64 i3) (.bool b7) (.bool (!b7)) (.bool false) (.int .u32 i4) (.bool b22) (.bool (!b22)) (.bool (!b22)) undef undef undef undef undef undef undef undef undef undef undef undef undef undef undef undef undef undef undef undef undef undef undef undef undef undef undef undef undef undef undef undef undef undef undef undef undef undef undef undef undef undef undef undef w20 R))))))))))
theorem icmp_Fault.s_eq (i0_0 : Int) (i0_1 : Int) (i0_2 : Bool) (i0_3 : Bool) (i0_4 : Int) (i0_5 : Int) (i0_6 : Int) (i0_7 : Int) (i0_8 : Int) (I0_9 : Option Addr) (in0_9 : Nat) (ic0_9 : Nat) (I0_10 : Option Addr) (in0_10 : Nat) (ic0_10 : Nat) (i1 : Int) (i2 : Int) (i3 : Int) (i4 : Int) (w : World) (R : Ending → World → Prop) : seg Tryd.prog entE icmp_Fault.ords icmp_Fault.joins Tryd.f17 [] [] [] ([.agg #[.int .u8 i0_0, .int .u16 i0_1, .bool i0_2, .bool i0_3, .int .i64 i0_4, .int .u8 i0_5, .int .u8 i0_6, .int .u32 i0_7, .int .u32 i0_8, .slice I0_9 in0_9 ic0_9, .slice I0_10 in0_10 ic0_10], .int .u8 i1, .int .u8 i2, .int .i64 i3, .int .u32 i4] ++ List.replicate (Tryd.f17.ntmps - ([.agg #[.int .u8 i0_0, .int .u16 i0_1, .bool i0_2, .bool i0_3, .int .i64 i0_4, .int .u8 i0_5, .int .u8 i0_6, .int .u32 i0_7, .int .u32 i0_8, .slice I0_9 in0_9 ic0_9, .slice I0_10 in0_10 ic0_10], .int .u8 i1, .int .u8 i2, .int .i64 i3, .int .u32 i4] : List Value).length) undef) w R = icmp_Fault.s i0_0 i0_1 i0_2 i0_3 i0_4 i0_5 i0_6 i0_7 i0_8 I0_9 in0_9 ic0_9 I0_10 in0_10 ic0_10 i1 i2 i3 i4 w R := by kernel_rfl
theorem icmp_Fault.run {i0_0 : Int} {i0_1 : Int} {i0_2 : Bool} {i0_3 : Bool} {i0_4 : Int} {i0_5 : Int} {i0_6 : Int} {i0_7 : Int} {i0_8 : Int} {I0_9 : Option Addr} {in0_9 : Nat} {ic0_9 : Nat} {I0_10 : Option Addr} {in0_10 : Nat} {ic0_10 : Nat} {i1 : Int} {i2 : Int} {i3 : Int} {i4 : Int} {w : World} {R : Ending → World → Prop} (h : icmp_Fault.s i0_0 i0_1 i0_2 i0_3 i0_4 i0_5 i0_6 i0_7 i0_8 I0_9 in0_9 ic0_9 I0_10 in0_10 ic0_10 i1 i2 i3 i4 w R) : Calls Tryd.prog 17 #[.agg #[.int .u8 i0_0, .int .u16 i0_1, .bool i0_2, .bool i0_3, .int .i64 i0_4, .int .u8 i0_5, .int .u8 i0_6, .int .u32 i0_7, .int .u32 i0_8, .slice I0_9 in0_9 ic0_9, .slice I0_10 in0_10 ic0_10], .int .u8 i1, .int .u8 i2, .int .i64 i3, .int .u32 i4] w R :=
  calls_seg ents mixed Tryd.func17 rfl (by rw [icmp_Fault.s_eq]; exact h)
end Go.Proofs.YtfjbpeadhaekbaaDoorS
