/- What functions of the program come to, told by a program of this session out of the translation; the kernel computes each statement out of the code.
   Conditions: none. -/
import Derived.Test.YtphbdmafchjjeaaSBase
namespace Go.Proofs.YtphbdmafchjjeaaS
open Go Go.Proofs
set_option maxRecDepth 100000
set_option linter.unusedVariables false
/-! ### weftlaw7_sealable: function 5 -/
def weftlaw7_sealable.ords : Nat → Od
  | _ => .nil
def weftlaw7_sealable.joins (p : List Nat) : Bool := p == [1, 1]
def weftlaw7_sealable.j1 (yg2 : Nat) (yg3 : Nat) (y5 : Bool) (d0 d1 d4 d6 d7 d8 d9 d10 d11 d12 d13 d14 d15 d16 d17 d18 d19 d20 d21 d22 d23 d24 d25 d26 d27 d28 d29 d30 d31 d32 d33 d34 d35 : Value) (w : World) (R : Ending → World → Prop) : Prop :=
  seg Try.prog entE weftlaw7_sealable.ords weftlaw7_sealable.joins Try.f5 [1, 1] [1, 1] [] [d0, d1, .pointer (some ⟨yg2, 0, none⟩), .pointer (some ⟨yg3, 0, none⟩), d4, .bool y5, d6, d7, d8, d9, d10, d11, d12, d13, d14, d15, d16, d17, d18, d19, d20, d21, d22, d23, d24, d25, d26, d27, d28, d29, d30, d31, d32, d33, d34, d35] w R
abbrev weftlaw7_sealable.J1 (yg2 : Nat) (yg3 : Nat) (y5 : Bool) (w : World) (R : Ending → World → Prop) : Prop := ∀ d0 d1 d4 d6 d7 d8 d9 d10 d11 d12 d13 d14 d15 d16 d17 d18 d19 d20 d21 d22 d23 d24 d25 d26 d27 d28 d29 d30 d31 d32 d33 d34 d35 : Value, weftlaw7_sealable.j1 yg2 yg3 y5 d0 d1 d4 d6 d7 d8 d9 d10 d11 d12 d13 d14 d15 d16 d17 d18 d19 d20 d21 d22 d23 d24 d25 d26 d27 d28 d29 d30 d31 d32 d33 d34 d35 w R
theorem weftlaw7_sealable.j1_eq (yg2 : Nat) (yg3 : Nat) (y5 : Bool) (d0 d1 d4 d6 d7 d8 d9 d10 d11 d12 d13 d14 d15 d16 d17 d18 d19 d20 d21 d22 d23 d24 d25 d26 d27 d28 d29 d30 d31 d32 d33 d34 d35 : Value) (w : World) (R : Ending → World → Prop) : weftlaw7_sealable.j1 yg2 yg3 y5 d0 d1 d4 d6 d7 d8 d9 d10 d11 d12 d13 d14 d15 d16 d17 d18 d19 d20 d21 d22 d23 d24 d25 d26 d27 d28 d29 d30 d31 d32 d33 d34 d35 w R =
(∃ x1 : Int, w.cell? ⟨yg2, 5, none⟩ = some (.int .i64 x1) ∧
((if decide (x1 ≥ 0) = true then
(∃ x2 : Int, w.cell? ⟨yg2, 5, none⟩ = some (.int .i64 x2) ∧
((if decide (x2 ≤ 16777215) = true then
(∃ (A3 : Option Addr) (n3_ c3_ : Nat), w.cell? ⟨yg3, 13, none⟩ = some (.slice A3 n3_ c3_) ∧
((if decide ((n3_ : Int) ≤ 65485) = true then
(R (.returned (.bool y5)) w)
else
(R (.returned (.bool false)) w))))
else
(R (.returned (.bool false)) w))))
else
(R (.returned (.bool false)) w)))) := by kernel_rfl
def weftlaw7_sealable.s (i0_0 : Int) (i0_1 : Int) (i0_2 : Int) (i0_3 : Int) (i0_4 : Int) (i0_5 : Int) (i1_0 : Int) (i1_1 : Int) (i1_2 : Int) (i1_3 : Int) (i1_4 : Int) (i1_5 : Int) (i1_6 : Int) (i1_7 : Int) (i1_8 : Int) (i1_9 : Int) (i1_10 : Int) (i1_11 : Int) (i1_12 : Int) (I1_13 : Option Addr) (in1_13 : Nat) (ic1_13 : Nat) (w : World) (R : Ending → World → Prop) : Prop :=
(Let (w.heap.size) fun g1 : Nat =>
 Let (w.alloc (.cells #[.int .u32 i0_0, .int .u32 i0_1, .int .u16 i0_2, .int .u16 i0_3, .int .u8 i0_4, .int .i64 i0_5] 26)) fun w2 : World =>
 Let (w2.heap.size) fun g3 : Nat =>
 Let (w2.alloc (.cells #[.int .u8 i1_0, .int .u8 i1_1, .int .u8 i1_2, .int .u8 i1_3, .int .u8 i1_4, .int .u8 i1_5, .int .u8 i1_6, .int .u8 i1_7, .int .u8 i1_8, .int .u8 i1_9, .int .u8 i1_10, .int .u8 i1_11, .int .u16 i1_12, .slice I1_13 in1_13 ic1_13] 31)) fun w4 : World =>
 ∃ x5 : Int, w4.cell? ⟨g3, 12, none⟩ = some (.int .u16 x5) ∧
((if decide (x5 ≥ 1536) = true then
(∃ x6 : Int, w4.cell? ⟨g3, 12, none⟩ = some (.int .u16 x6) ∧
((if (x6 != 33024) = true then
(∃ x7 : Int, w4.cell? ⟨g3, 12, none⟩ = some (.int .u16 x7) ∧
(Leaf (weftlaw7_sealable.j1 g1 g3 (x7 != 34984) (.agg #[.int .u32 i0_0, .int .u32 i0_1, .int .u16 i0_2, .int .u16 i0_3, .int .u8 i0_4, .int .i64 i0_5]) (.agg #[.int .u8 i1_0, .int .u8 i1_1, .int .u8 i1_2, .int .u8 i1_3, .int .u8 i1_4, .int .u8 i1_5, .int .u8 i1_6, .int .u8 i1_7, .int .u8 i1_8, .int .u8 i1_9, .int .u8 i1_10, .int .u8 i1_11, .int .u16 i1_12, .slice I1_13 in1_13 ic1_13]) (.bool false) (.pointer (some ⟨g3, 12, none⟩)) (.int .u16 x5) (.bool (decide (x5 ≥ 1536))) (.bool true) (.pointer (some ⟨g3, 12, none⟩)) (.int .u16 x6) (.bool (x6 != 33024)) (.bool (x6 != 33024)) (.bool true) (.pointer (some ⟨g3, 12, none⟩)) (.int .u16 x7) (.bool (x7 != 34984)) (.bool (x7 != 34984)) undef undef undef undef undef undef undef undef undef undef undef undef undef undef undef undef undef w4 R)))
else
(Leaf (weftlaw7_sealable.j1 g1 g3 false (.agg #[.int .u32 i0_0, .int .u32 i0_1, .int .u16 i0_2, .int .u16 i0_3, .int .u8 i0_4, .int .i64 i0_5]) (.agg #[.int .u8 i1_0, .int .u8 i1_1, .int .u8 i1_2, .int .u8 i1_3, .int .u8 i1_4, .int .u8 i1_5, .int .u8 i1_6, .int .u8 i1_7, .int .u8 i1_8, .int .u8 i1_9, .int .u8 i1_10, .int .u8 i1_11, .int .u16 i1_12, .slice I1_13 in1_13 ic1_13]) (.bool false) (.pointer (some ⟨g3, 12, none⟩)) (.int .u16 x5) (.bool (decide (x5 ≥ 1536))) (.bool true) (.pointer (some ⟨g3, 12, none⟩)) (.int .u16 x6) (.bool (x6 != 33024)) (.bool (x6 != 33024)) (.bool false) undef undef undef (.bool false) undef undef undef undef undef undef undef undef undef undef undef undef undef undef undef undef undef w4 R)))))
else
(Leaf (weftlaw7_sealable.j1 g1 g3 false (.agg #[.int .u32 i0_0, .int .u32 i0_1, .int .u16 i0_2, .int .u16 i0_3, .int .u8 i0_4, .int .i64 i0_5]) (.agg #[.int .u8 i1_0, .int .u8 i1_1, .int .u8 i1_2, .int .u8 i1_3, .int .u8 i1_4, .int .u8 i1_5, .int .u8 i1_6, .int .u8 i1_7, .int .u8 i1_8, .int .u8 i1_9, .int .u8 i1_10, .int .u8 i1_11, .int .u16 i1_12, .slice I1_13 in1_13 ic1_13]) (.bool false) (.pointer (some ⟨g3, 12, none⟩)) (.int .u16 x5) (.bool (decide (x5 ≥ 1536))) (.bool false) undef undef undef (.bool false) (.bool false) undef undef undef (.bool false) undef undef undef undef undef undef undef undef undef undef undef undef undef undef undef undef undef w4 R)))))
theorem weftlaw7_sealable.s_eq (i0_0 : Int) (i0_1 : Int) (i0_2 : Int) (i0_3 : Int) (i0_4 : Int) (i0_5 : Int) (i1_0 : Int) (i1_1 : Int) (i1_2 : Int) (i1_3 : Int) (i1_4 : Int) (i1_5 : Int) (i1_6 : Int) (i1_7 : Int) (i1_8 : Int) (i1_9 : Int) (i1_10 : Int) (i1_11 : Int) (i1_12 : Int) (I1_13 : Option Addr) (in1_13 : Nat) (ic1_13 : Nat) (w : World) (R : Ending → World → Prop) : seg Try.prog entE weftlaw7_sealable.ords weftlaw7_sealable.joins Try.f5 [] [] [] ([.agg #[.int .u32 i0_0, .int .u32 i0_1, .int .u16 i0_2, .int .u16 i0_3, .int .u8 i0_4, .int .i64 i0_5], .agg #[.int .u8 i1_0, .int .u8 i1_1, .int .u8 i1_2, .int .u8 i1_3, .int .u8 i1_4, .int .u8 i1_5, .int .u8 i1_6, .int .u8 i1_7, .int .u8 i1_8, .int .u8 i1_9, .int .u8 i1_10, .int .u8 i1_11, .int .u16 i1_12, .slice I1_13 in1_13 ic1_13]] ++ List.replicate (Try.f5.ntmps - ([.agg #[.int .u32 i0_0, .int .u32 i0_1, .int .u16 i0_2, .int .u16 i0_3, .int .u8 i0_4, .int .i64 i0_5], .agg #[.int .u8 i1_0, .int .u8 i1_1, .int .u8 i1_2, .int .u8 i1_3, .int .u8 i1_4, .int .u8 i1_5, .int .u8 i1_6, .int .u8 i1_7, .int .u8 i1_8, .int .u8 i1_9, .int .u8 i1_10, .int .u8 i1_11, .int .u16 i1_12, .slice I1_13 in1_13 ic1_13]] : List Value).length) undef) w R = weftlaw7_sealable.s i0_0 i0_1 i0_2 i0_3 i0_4 i0_5 i1_0 i1_1 i1_2 i1_3 i1_4 i1_5 i1_6 i1_7 i1_8 i1_9 i1_10 i1_11 i1_12 I1_13 in1_13 ic1_13 w R := by kernel_rfl
theorem weftlaw7_sealable.run {i0_0 : Int} {i0_1 : Int} {i0_2 : Int} {i0_3 : Int} {i0_4 : Int} {i0_5 : Int} {i1_0 : Int} {i1_1 : Int} {i1_2 : Int} {i1_3 : Int} {i1_4 : Int} {i1_5 : Int} {i1_6 : Int} {i1_7 : Int} {i1_8 : Int} {i1_9 : Int} {i1_10 : Int} {i1_11 : Int} {i1_12 : Int} {I1_13 : Option Addr} {in1_13 : Nat} {ic1_13 : Nat} {w : World} {R : Ending → World → Prop} (h : weftlaw7_sealable.s i0_0 i0_1 i0_2 i0_3 i0_4 i0_5 i1_0 i1_1 i1_2 i1_3 i1_4 i1_5 i1_6 i1_7 i1_8 i1_9 i1_10 i1_11 i1_12 I1_13 in1_13 ic1_13 w R) : Calls Try.prog 5 #[.agg #[.int .u32 i0_0, .int .u32 i0_1, .int .u16 i0_2, .int .u16 i0_3, .int .u8 i0_4, .int .i64 i0_5], .agg #[.int .u8 i1_0, .int .u8 i1_1, .int .u8 i1_2, .int .u8 i1_3, .int .u8 i1_4, .int .u8 i1_5, .int .u8 i1_6, .int .u8 i1_7, .int .u8 i1_8, .int .u8 i1_9, .int .u8 i1_10, .int .u8 i1_11, .int .u16 i1_12, .slice I1_13 in1_13 ic1_13]] w R :=
  calls_seg ents mixed Try.func5 rfl (by rw [weftlaw7_sealable.s_eq]; exact h)
end Go.Proofs.YtphbdmafchjjeaaS
