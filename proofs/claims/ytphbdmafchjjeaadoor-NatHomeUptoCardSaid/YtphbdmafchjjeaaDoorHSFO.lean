/- What functions of the program come to, told by a program of this session out of the translation; the kernel computes each statement out of the code.
   Conditions: none. -/
import Derived.Test.YtphbdmafchjjeaaDoorHSBase
namespace Go.Proofs.YtphbdmafchjjeaaDoorS
open Go Go.Proofs
set_option maxRecDepth 100000
set_option linter.unusedVariables false
/-! ### nat_word: function 68 -/
def nat_word.ords : Nat → Od
  | 1 => (.tk 0 (.tk 1 (.tk 2 (.tk 3 (.tk 4 (.tk 5 (.tk 6 (.tk 7 (.tk 8 (.tk 9 (.tk 10 (.tk 11 (.tk 12 (.tk 13 .nil))))))))))))))
  | _ => .nil
def nat_word.joins (p : List Nat) : Bool := false
def nat_word.s (I0 : Option Addr) (in0 : Nat) (ic0 : Nat) (i1 : Int) (w : World) (R : Ending → World → Prop) : Prop :=
(∃ S1 : World → Prop, S1 w.drew ∧
(Let (w.drew) fun w2 : World =>
 ∃ a3 : Addr, I0 = some a3 ∧ (0 ≤ i1 ∧ i1 < (in0 : Int)) ∧
(∃ x4 : Int, (∀ w', S1 w' → w'.cell? (a3.add i1.toNat) = some (.int .u8 x4)) ∧
(Let (IntKind.u16.wrap x4) fun x5 : Int =>
 Let (IntKind.u16.wrap (x5 * 256)) fun x6 : Int =>
 Let (IntKind.i64.wrap (i1 + 1)) fun x7 : Int =>
 ∃ a8 : Addr, I0 = some a8 ∧ (0 ≤ x7 ∧ x7 < (in0 : Int)) ∧
(∃ x9 : Int, (∀ w', S1 w' → w'.cell? (a8.add x7.toNat) = some (.int .u8 x9)) ∧
(Let (IntKind.u16.wrap x9) fun x10 : Int =>
 Let (Go.bits .or .u16 x6 x10) fun x11 : Int =>
 R (.returned (.int .u16 x11)) w2))))))
theorem nat_word.s_eq (I0 : Option Addr) (in0 : Nat) (ic0 : Nat) (i1 : Int) (w : World) (R : Ending → World → Prop) : seg Tryd.prog entE nat_word.ords nat_word.joins Tryd.f68 [] [] [] ([.slice I0 in0 ic0, .int .i64 i1] ++ List.replicate (Tryd.f68.ntmps - ([.slice I0 in0 ic0, .int .i64 i1] : List Value).length) undef) w R = nat_word.s I0 in0 ic0 i1 w R := by kernel_rfl
theorem nat_word.run {I0 : Option Addr} {in0 : Nat} {ic0 : Nat} {i1 : Int} {w : World} {R : Ending → World → Prop} (h : nat_word.s I0 in0 ic0 i1 w R) : Calls Tryd.prog 68 #[.slice I0 in0 ic0, .int .i64 i1] w R :=
  calls_seg ents mixed Tryd.func68 rfl (by rw [nat_word.s_eq]; exact h)
/-! ### nat_putWord: function 61 -/
def nat_putWord.ords : Nat → Od
  | _ => .nil
def nat_putWord.joins (p : List Nat) : Bool := false
def nat_putWord.s (I0 : Option Addr) (in0 : Nat) (ic0 : Nat) (i1 : Int) (i2 : Int) (w : World) (R : Ending → World → Prop) : Prop :=
(Let (IntKind.i64.wrap (i1 + 1)) fun x1 : Int =>
 Let (Int.fdiv i2 256) fun x2 : Int =>
 Let (IntKind.u8.wrap x2) fun x3 : Int =>
 Let (IntKind.u8.wrap i2) fun x4 : Int =>
 ∃ a5 : Addr, I0 = some a5 ∧ (0 ≤ i1 ∧ i1 < (in0 : Int)) ∧
(MayC w (a5.add i1.toNat) ∧
(Let (w.setCell (a5.add i1.toNat) (.int .u8 x3)) fun w6 : World =>
 ∃ a7 : Addr, I0 = some a7 ∧ (0 ≤ x1 ∧ x1 < (in0 : Int)) ∧
(MayC w6 (a7.add x1.toNat) ∧
(Let (w6.setCell (a7.add x1.toNat) (.int .u8 x4)) fun w8 : World =>
 R (.returned (.tuple #[])) w8)))))
theorem nat_putWord.s_eq (I0 : Option Addr) (in0 : Nat) (ic0 : Nat) (i1 : Int) (i2 : Int) (w : World) (R : Ending → World → Prop) : seg Tryd.prog entE nat_putWord.ords nat_putWord.joins Tryd.f61 [] [] [] ([.slice I0 in0 ic0, .int .i64 i1, .int .u16 i2] ++ List.replicate (Tryd.f61.ntmps - ([.slice I0 in0 ic0, .int .i64 i1, .int .u16 i2] : List Value).length) undef) w R = nat_putWord.s I0 in0 ic0 i1 i2 w R := by kernel_rfl
theorem nat_putWord.run {I0 : Option Addr} {in0 : Nat} {ic0 : Nat} {i1 : Int} {i2 : Int} {w : World} {R : Ending → World → Prop} (h : nat_putWord.s I0 in0 ic0 i1 i2 w R) : Calls Tryd.prog 61 #[.slice I0 in0 ic0, .int .i64 i1, .int .u16 i2] w R :=
  calls_seg ents mixed Tryd.func61 rfl (by rw [nat_putWord.s_eq]; exact h)
/-! ### nat_putAddr: function 60 -/
def nat_putAddr.ords : Nat → Od
  | _ => .nil
def nat_putAddr.joins (p : List Nat) : Bool := false
def nat_putAddr.s (I0 : Option Addr) (in0 : Nat) (ic0 : Nat) (i1 : Int) (i2 : Int) (w : World) (R : Ending → World → Prop) : Prop :=
(Let (Int.fdiv i2 65536) fun x1 : Int =>
 Let (IntKind.u16.wrap x1) fun x2 : Int =>
 Calls Tryd.prog 61 #[.slice I0 in0 ic0, .int .i64 i1, .int .u16 x2] w (fun (e4 : Ending) (w3 : World) =>
 e4 = .returned (.tuple #[]) ∧
(Let (IntKind.i64.wrap (i1 + 2)) fun x5 : Int =>
 Let (IntKind.u16.wrap i2) fun x6 : Int =>
 Calls Tryd.prog 61 #[.slice I0 in0 ic0, .int .i64 x5, .int .u16 x6] w3 (fun (e8 : Ending) (w7 : World) =>
 e8 = .returned (.tuple #[]) ∧
(R (.returned (.tuple #[])) w7)))))
theorem nat_putAddr.s_eq (I0 : Option Addr) (in0 : Nat) (ic0 : Nat) (i1 : Int) (i2 : Int) (w : World) (R : Ending → World → Prop) : seg Tryd.prog entE nat_putAddr.ords nat_putAddr.joins Tryd.f60 [] [] [] ([.slice I0 in0 ic0, .int .i64 i1, .int .u32 i2] ++ List.replicate (Tryd.f60.ntmps - ([.slice I0 in0 ic0, .int .i64 i1, .int .u32 i2] : List Value).length) undef) w R = nat_putAddr.s I0 in0 ic0 i1 i2 w R := by kernel_rfl
theorem nat_putAddr.run {I0 : Option Addr} {in0 : Nat} {ic0 : Nat} {i1 : Int} {i2 : Int} {w : World} {R : Ending → World → Prop} (h : nat_putAddr.s I0 in0 ic0 i1 i2 w R) : Calls Tryd.prog 60 #[.slice I0 in0 ic0, .int .i64 i1, .int .u32 i2] w R :=
  calls_seg ents mixed Tryd.func60 rfl (by rw [nat_putAddr.s_eq]; exact h)
/-! ### nat_words: function 66 -/
def nat_words.ords : Nat → Od
  | _ => .nil
def nat_words.joins (p : List Nat) : Bool := false
def nat_words.s (i0_0 : Int) (i0_1 : Int) (i0_2 : Int) (i0_3 : Int) (i0_4 : Int) (w : World) (R : Ending → World → Prop) : Prop :=
(Let (w.heap.size) fun g1 : Nat =>
 Let (w.alloc (.cells #[.int .u32 i0_0, .int .u32 i0_1, .int .u8 i0_2, .int .u16 i0_3, .int .u16 i0_4] 32)) fun w2 : World =>
 Let (w2.heap.size) fun g3 : Nat =>
 Let (w2.alloc (.cells #[.int .u16 0, .int .u16 0, .int .u16 0, .int .u16 0, .int .u16 0, .int .u16 0] 129)) fun w4 : World =>
 ∃ x5 : Int, w4.cell? ⟨g1, 0, none⟩ = some (.int .u32 x5) ∧
(Let (Int.fdiv x5 65536) fun x6 : Int =>
 Let (IntKind.u16.wrap x6) fun x7 : Int =>
 ∃ x8 : Int, w4.cell? ⟨g1, 0, none⟩ = some (.int .u32 x8) ∧
(Let (IntKind.u16.wrap x8) fun x9 : Int =>
 ∃ x10 : Int, w4.cell? ⟨g1, 1, none⟩ = some (.int .u32 x10) ∧
(Let (Int.fdiv x10 65536) fun x11 : Int =>
 Let (IntKind.u16.wrap x11) fun x12 : Int =>
 ∃ x13 : Int, w4.cell? ⟨g1, 1, none⟩ = some (.int .u32 x13) ∧
(Let (IntKind.u16.wrap x13) fun x14 : Int =>
 ∃ x15 : Int, w4.cell? ⟨g1, 3, none⟩ = some (.int .u16 x15) ∧
(∃ x16 : Int, w4.cell? ⟨g1, 4, none⟩ = some (.int .u16 x16) ∧
(May w4 ⟨g3, 0, none⟩ 6 ∧
(Let (putCells w4 ⟨g3, 0, none⟩ [.int .u16 x7, .int .u16 x9, .int .u16 x12, .int .u16 x14, .int .u16 x15, .int .u16 x16] 0) fun w17 : World =>
 ∃ x18 : Int, ∃ x19 : Int, ∃ x20 : Int, ∃ x21 : Int, ∃ x22 : Int, ∃ x23 : Int, (6 = 6 ∧ At w17 ⟨g3, 0, none⟩ [.int .u16 x18, .int .u16 x19, .int .u16 x20, .int .u16 x21, .int .u16 x22, .int .u16 x23]) ∧
(R (.returned (.agg #[.int .u16 x18, .int .u16 x19, .int .u16 x20, .int .u16 x21, .int .u16 x22, .int .u16 x23])) w17)))))))))
theorem nat_words.s_eq (i0_0 : Int) (i0_1 : Int) (i0_2 : Int) (i0_3 : Int) (i0_4 : Int) (w : World) (R : Ending → World → Prop) : seg Tryd.prog entE nat_words.ords nat_words.joins Tryd.f66 [] [] [] ([.agg #[.int .u32 i0_0, .int .u32 i0_1, .int .u8 i0_2, .int .u16 i0_3, .int .u16 i0_4]] ++ List.replicate (Tryd.f66.ntmps - ([.agg #[.int .u32 i0_0, .int .u32 i0_1, .int .u8 i0_2, .int .u16 i0_3, .int .u16 i0_4]] : List Value).length) undef) w R = nat_words.s i0_0 i0_1 i0_2 i0_3 i0_4 w R := by kernel_rfl
theorem nat_words.run {i0_0 : Int} {i0_1 : Int} {i0_2 : Int} {i0_3 : Int} {i0_4 : Int} {w : World} {R : Ending → World → Prop} (h : nat_words.s i0_0 i0_1 i0_2 i0_3 i0_4 w R) : Calls Tryd.prog 66 #[.agg #[.int .u32 i0_0, .int .u32 i0_1, .int .u8 i0_2, .int .u16 i0_3, .int .u16 i0_4]] w R :=
  calls_seg ents mixed Tryd.func66 rfl (by rw [nat_words.s_eq]; exact h)
/-! ### nat_over: function 67 -/
def nat_over.ords : Nat → Od
  | 4 => (.tk 0 (.tk 1 (.tk 2 (.tk 3 (.tk 4 (.tk 5 (.tk 6 (.tk 7 (.tk 8 .nil)))))))))
  | 5 => (.tk 0 (.tk 1 (.tk 2 (.tk 3 (.tk 4 (.tk 5 (.tk 6 (.tk 7 (.tk 8 (.on 9 (.tk 10 .nil)))))))))))
  | _ => .nil
def nat_over.joins (p : List Nat) : Bool := false
def nat_over.l1 (n : Nat) (y0 : Int) (Y1 : Option Addr) (yn1 : Nat) (yc1 : Nat) (Y2 : Option Addr) (yn2 : Nat) (yc2 : Nat) (y9 : Int) (y10 : Int) (d3 d4 d5 d6 d7 d8 d11 d12 d13 d14 d15 d16 d17 d18 d19 d20 d21 d22 d23 d24 d25 d26 d27 d28 d29 d30 d31 d32 d33 : Value) (w : World) (R : Ending → World → Prop) : Prop :=
  lseg Tryd.prog entE nat_over.ords nat_over.joins Tryd.f67 [1, 0, 1, 0] [0, 1, 0, 1] [] n [.int .u16 y0, .slice Y1 yn1 yc1, .slice Y2 yn2 yc2, d3, d4, d5, d6, d7, d8, .int .i64 y9, .int .i64 y10, d11, d12, d13, d14, d15, d16, d17, d18, d19, d20, d21, d22, d23, d24, d25, d26, d27, d28, d29, d30, d31, d32, d33] w R
abbrev nat_over.L1 (n : Nat) (y0 : Int) (Y1 : Option Addr) (yn1 : Nat) (yc1 : Nat) (Y2 : Option Addr) (yn2 : Nat) (yc2 : Nat) (y9 : Int) (y10 : Int) (w : World) (R : Ending → World → Prop) : Prop := ∀ d3 d4 d5 d6 d7 d8 d11 d12 d13 d14 d15 d16 d17 d18 d19 d20 d21 d22 d23 d24 d25 d26 d27 d28 d29 d30 d31 d32 d33 : Value, nat_over.l1 n y0 Y1 yn1 yc1 Y2 yn2 yc2 y9 y10 d3 d4 d5 d6 d7 d8 d11 d12 d13 d14 d15 d16 d17 d18 d19 d20 d21 d22 d23 d24 d25 d26 d27 d28 d29 d30 d31 d32 d33 w R
theorem nat_over.l1_eq (n : Nat) (y0 : Int) (Y1 : Option Addr) (yn1 : Nat) (yc1 : Nat) (Y2 : Option Addr) (yn2 : Nat) (yc2 : Nat) (y9 : Int) (y10 : Int) (d3 d4 d5 d6 d7 d8 d11 d12 d13 d14 d15 d16 d17 d18 d19 d20 d21 d22 d23 d24 d25 d26 d27 d28 d29 d30 d31 d32 d33 : Value) (w : World) (R : Ending → World → Prop) : nat_over.l1 (n + 1) y0 Y1 yn1 yc1 Y2 yn2 yc2 y9 y10 d3 d4 d5 d6 d7 d8 d11 d12 d13 d14 d15 d16 d17 d18 d19 d20 d21 d22 d23 d24 d25 d26 d27 d28 d29 d30 d31 d32 d33 w R =
((if decide (y10 < y9) = true then
(∃ S1 : World → Prop, S1 w.drew ∧
(Let (w.drew) fun w2 : World =>
 ∃ a3 : Addr, Y1 = some a3 ∧ (0 ≤ y10 ∧ y10 < (yn1 : Int)) ∧
(∃ x4 : Int, (∀ w', S1 w' → w'.cell? (a3.add y10.toNat) = some (.int .u16 x4)) ∧
(∃ a5 : Addr, Y2 = some a5 ∧ (0 ≤ y10 ∧ y10 < (yn2 : Int)) ∧
(∃ x6 : Int, (∀ w', S1 w' → w'.cell? (a5.add y10.toNat) = some (.int .u16 x6)) ∧
((if (x4 != x6) = true then
(∃ S7 : World → Prop, S7 w2.drew ∧
(Let (w2.drew) fun w8 : World =>
 ∃ a9 : Addr, Y1 = some a9 ∧ (0 ≤ y10 ∧ y10 < (yn1 : Int)) ∧
(∃ x10 : Int, (∀ w', S7 w' → w'.cell? (a9.add y10.toNat) = some (.int .u16 x10)) ∧
(∃ a11 : Addr, Y2 = some a11 ∧ (0 ≤ y10 ∧ y10 < (yn2 : Int)) ∧
(∃ x12 : Int, (∀ w', S7 w' → w'.cell? (a11.add y10.toNat) = some (.int .u16 x12)) ∧
(Calls Tryd.prog 79 #[.int .u16 y0, .int .u16 x10, .int .u16 x12] w8 (fun (e14 : Ending) (w13 : World) =>
 ∃ x15 : Int, e14 = .returned (.int .u16 x15) ∧
(S7 w13 ∧
(Let (IntKind.i64.wrap (y10 + 1)) fun x16 : Int =>
 nat_over.l1 n x15 Y1 yn1 yc1 Y2 yn2 yc2 y9 x16 d3 d4 d5 d6 (.int .i64 y10) d8 (.bool (decide (y10 < y9))) (.int .i64 y10) (.slice Y1 yn1 yc1) (.int .i64 y10) (.pointer (some (a3.add y10.toNat))) (.int .u16 x4) (.slice Y2 yn2 yc2) (.int .i64 y10) (.pointer (some (a5.add y10.toNat))) (.int .u16 x6) (.bool (x4 != x6)) (.int .u16 y0) (.slice Y1 yn1 yc1) (.int .i64 y10) (.pointer (some (a9.add y10.toNat))) (.int .u16 x10) (.slice Y2 yn2 yc2) (.int .i64 y10) (.pointer (some (a11.add y10.toNat))) (.int .u16 x12) (.int .u16 x15) (.int .i64 x16) d33 w13 R)))))))))
else
(Let (IntKind.i64.wrap (y10 + 1)) fun x17 : Int =>
 nat_over.l1 n y0 Y1 yn1 yc1 Y2 yn2 yc2 y9 x17 d3 d4 d5 d6 (.int .i64 y10) d8 (.bool (decide (y10 < y9))) (.int .i64 y10) (.slice Y1 yn1 yc1) (.int .i64 y10) (.pointer (some (a3.add y10.toNat))) (.int .u16 x4) (.slice Y2 yn2 yc2) (.int .i64 y10) (.pointer (some (a5.add y10.toNat))) (.int .u16 x6) (.bool (x4 != x6)) d22 d23 d24 d25 d26 d27 d28 d29 d30 d31 (.int .i64 x17) d33 w2 R))))))))
else
(R (.returned (.int .u16 y0)) w))) := by kernel_rfl
def nat_over.s (i0 : Int) (I1 : Option Addr) (in1 : Nat) (ic1 : Nat) (I2 : Option Addr) (in2 : Nat) (ic2 : Nat) (w : World) (R : Ending → World → Prop) : Prop :=
(∃ n1 : Nat, nat_over.l1 n1 i0 I1 in1 ic1 I2 in2 ic2 (in1 : Int) 0 undef undef undef (.int .u16 0) undef (.slice I1 in1 ic1) undef undef undef undef undef undef undef undef undef undef undef undef undef undef undef undef undef undef undef undef undef undef undef w R)
theorem nat_over.s_eq (i0 : Int) (I1 : Option Addr) (in1 : Nat) (ic1 : Nat) (I2 : Option Addr) (in2 : Nat) (ic2 : Nat) (w : World) (R : Ending → World → Prop) : seg Tryd.prog entE nat_over.ords nat_over.joins Tryd.f67 [] [] [] ([.int .u16 i0, .slice I1 in1 ic1, .slice I2 in2 ic2] ++ List.replicate (Tryd.f67.ntmps - ([.int .u16 i0, .slice I1 in1 ic1, .slice I2 in2 ic2] : List Value).length) undef) w R = nat_over.s i0 I1 in1 ic1 I2 in2 ic2 w R := by kernel_rfl
theorem nat_over.run {i0 : Int} {I1 : Option Addr} {in1 : Nat} {ic1 : Nat} {I2 : Option Addr} {in2 : Nat} {ic2 : Nat} {w : World} {R : Ending → World → Prop} (h : nat_over.s i0 I1 in1 ic1 I2 in2 ic2 w R) : Calls Tryd.prog 67 #[.int .u16 i0, .slice I1 in1 ic1, .slice I2 in2 ic2] w R :=
  calls_seg ents mixed Tryd.func67 rfl (by rw [nat_over.s_eq]; exact h)
/-! ### nat_carried: function 39 -/
def nat_carried.ords : Nat → Od
  | 1 => (.tk 0 (.tk 2 (.tri 1 4 5 (.tri 3 4 5 (.two 4 5 (.on 5 (.on 6 (.on 7 .nil))) (.on 4 (.on 6 (.on 7 .nil)))) (.two 3 5 (.on 5 (.on 6 (.on 7 .nil))) (.on 3 (.on 6 (.on 7 .nil)))) (.two 3 4 (.on 4 (.on 6 (.on 7 .nil))) (.on 3 (.on 6 (.on 7 .nil))))) (.two 1 5 (.two 3 5 (.on 5 (.on 6 (.on 7 .nil))) (.on 3 (.on 6 (.on 7 .nil)))) (.on 1 (.on 3 (.on 6 (.on 7 .nil))))) (.two 1 4 (.two 3 4 (.on 4 (.on 6 (.on 7 .nil))) (.on 3 (.on 6 (.on 7 .nil)))) (.on 1 (.on 3 (.on 6 (.on 7 .nil))))))))
  | 4 => (.tk 0 (.tk 2 (.tk 3 (.on 1 (.on 4 (.tk 5 .nil))))))
  | 13 => (.tk 0 (.tk 1 (.tk 2 (.on 3 (.tk 4 .nil)))))
  | 18 => (.tk 0 (.tk 1 (.tk 3 (.tk 4 (.on 2 (.on 5 (.on 6 .nil)))))))
  | _ => .nil
def nat_carried.joins (p : List Nat) : Bool := p == [1, 1] || p == [1, 1, 1, 0, 1, 0, 1, 1] || p == [1, 1, 0, 1, 1, 0, 1, 0, 1, 1, 1, 1, 1]
def nat_carried.j1 (Y0 : Option Addr) (yn0 : Nat) (yc0 : Nat) (y1 : Int) (y4 : Bool) (yg8 : Nat) (yg10 : Nat) (yg11 : Nat) (d2 d3 d5 d6 d7 d9 d12 d13 d14 d15 d16 d17 d18 d19 d20 d21 d22 d23 d24 d25 d26 d27 d28 d29 d30 d31 d32 d33 d34 d35 d36 d37 d38 d39 d40 d41 d42 d43 d44 d45 d46 d47 d48 d49 d50 d51 d52 d53 d54 d55 d56 d57 d58 d59 d60 d61 d62 d63 d64 d65 d66 d67 d68 d69 d70 d71 d72 d73 d74 d75 d76 d77 d78 d79 d80 d81 d82 d83 : Value) (w : World) (R : Ending → World → Prop) : Prop :=
  seg Tryd.prog entE nat_carried.ords nat_carried.joins Tryd.f39 [1, 1] [1, 1] [] [.slice Y0 yn0 yc0, .int .u8 y1, d2, d3, .bool y4, d5, d6, d7, .pointer (some ⟨yg8, 0, none⟩), d9, .pointer (some ⟨yg10, 0, none⟩), .pointer (some ⟨yg11, 0, none⟩), d12, d13, d14, d15, d16, d17, d18, d19, d20, d21, d22, d23, d24, d25, d26, d27, d28, d29, d30, d31, d32, d33, d34, d35, d36, d37, d38, d39, d40, d41, d42, d43, d44, d45, d46, d47, d48, d49, d50, d51, d52, d53, d54, d55, d56, d57, d58, d59, d60, d61, d62, d63, d64, d65, d66, d67, d68, d69, d70, d71, d72, d73, d74, d75, d76, d77, d78, d79, d80, d81, d82, d83] w R
def nat_carried.j2 (Y0 : Option Addr) (yn0 : Nat) (yc0 : Nat) (y12 : Int) (d1 d2 d3 d4 d5 d6 d7 d8 d9 d10 d11 d13 d14 d15 d16 d17 d18 d19 d20 d21 d22 d23 d24 d25 d26 d27 d28 d29 d30 d31 d32 d33 d34 d35 d36 d37 d38 d39 d40 d41 d42 d43 d44 d45 d46 d47 d48 d49 d50 d51 d52 d53 d54 d55 d56 d57 d58 d59 d60 d61 d62 d63 d64 d65 d66 d67 d68 d69 d70 d71 d72 d73 d74 d75 d76 d77 d78 d79 d80 d81 d82 d83 : Value) (w : World) (R : Ending → World → Prop) : Prop :=
  seg Tryd.prog entE nat_carried.ords nat_carried.joins Tryd.f39 [1, 1, 0, 1, 0, 1, 1, 1] [1, 1, 1, 0, 1, 0, 1, 1] [] [.slice Y0 yn0 yc0, d1, d2, d3, d4, d5, d6, d7, d8, d9, d10, d11, .int .u16 y12, d13, d14, d15, d16, d17, d18, d19, d20, d21, d22, d23, d24, d25, d26, d27, d28, d29, d30, d31, d32, d33, d34, d35, d36, d37, d38, d39, d40, d41, d42, d43, d44, d45, d46, d47, d48, d49, d50, d51, d52, d53, d54, d55, d56, d57, d58, d59, d60, d61, d62, d63, d64, d65, d66, d67, d68, d69, d70, d71, d72, d73, d74, d75, d76, d77, d78, d79, d80, d81, d82, d83] w R
def nat_carried.j3 (Y0 : Option Addr) (yn0 : Nat) (yc0 : Nat) (y14 : Int) (d1 d2 d3 d4 d5 d6 d7 d8 d9 d10 d11 d12 d13 d15 d16 d17 d18 d19 d20 d21 d22 d23 d24 d25 d26 d27 d28 d29 d30 d31 d32 d33 d34 d35 d36 d37 d38 d39 d40 d41 d42 d43 d44 d45 d46 d47 d48 d49 d50 d51 d52 d53 d54 d55 d56 d57 d58 d59 d60 d61 d62 d63 d64 d65 d66 d67 d68 d69 d70 d71 d72 d73 d74 d75 d76 d77 d78 d79 d80 d81 d82 d83 : Value) (w : World) (R : Ending → World → Prop) : Prop :=
  seg Tryd.prog entE nat_carried.ords nat_carried.joins Tryd.f39 [1, 1, 1, 1, 1, 0, 1, 0, 1, 1, 0, 1, 1] [1, 1, 0, 1, 1, 0, 1, 0, 1, 1, 1, 1, 1] [] [.slice Y0 yn0 yc0, d1, d2, d3, d4, d5, d6, d7, d8, d9, d10, d11, d12, d13, .int .u16 y14, d15, d16, d17, d18, d19, d20, d21, d22, d23, d24, d25, d26, d27, d28, d29, d30, d31, d32, d33, d34, d35, d36, d37, d38, d39, d40, d41, d42, d43, d44, d45, d46, d47, d48, d49, d50, d51, d52, d53, d54, d55, d56, d57, d58, d59, d60, d61, d62, d63, d64, d65, d66, d67, d68, d69, d70, d71, d72, d73, d74, d75, d76, d77, d78, d79, d80, d81, d82, d83] w R
abbrev nat_carried.J1 (Y0 : Option Addr) (yn0 : Nat) (yc0 : Nat) (y1 : Int) (y4 : Bool) (yg8 : Nat) (yg10 : Nat) (yg11 : Nat) (w : World) (R : Ending → World → Prop) : Prop := ∀ d2 d3 d5 d6 d7 d9 d12 d13 d14 d15 d16 d17 d18 d19 d20 d21 d22 d23 d24 d25 d26 d27 d28 d29 d30 d31 d32 d33 d34 d35 d36 d37 d38 d39 d40 d41 d42 d43 d44 d45 d46 d47 d48 d49 d50 d51 d52 d53 d54 d55 d56 d57 d58 d59 d60 d61 d62 d63 d64 d65 d66 d67 d68 d69 d70 d71 d72 d73 d74 d75 d76 d77 d78 d79 d80 d81 d82 d83 : Value, nat_carried.j1 Y0 yn0 yc0 y1 y4 yg8 yg10 yg11 d2 d3 d5 d6 d7 d9 d12 d13 d14 d15 d16 d17 d18 d19 d20 d21 d22 d23 d24 d25 d26 d27 d28 d29 d30 d31 d32 d33 d34 d35 d36 d37 d38 d39 d40 d41 d42 d43 d44 d45 d46 d47 d48 d49 d50 d51 d52 d53 d54 d55 d56 d57 d58 d59 d60 d61 d62 d63 d64 d65 d66 d67 d68 d69 d70 d71 d72 d73 d74 d75 d76 d77 d78 d79 d80 d81 d82 d83 w R
abbrev nat_carried.J2 (Y0 : Option Addr) (yn0 : Nat) (yc0 : Nat) (y12 : Int) (w : World) (R : Ending → World → Prop) : Prop := ∀ d1 d2 d3 d4 d5 d6 d7 d8 d9 d10 d11 d13 d14 d15 d16 d17 d18 d19 d20 d21 d22 d23 d24 d25 d26 d27 d28 d29 d30 d31 d32 d33 d34 d35 d36 d37 d38 d39 d40 d41 d42 d43 d44 d45 d46 d47 d48 d49 d50 d51 d52 d53 d54 d55 d56 d57 d58 d59 d60 d61 d62 d63 d64 d65 d66 d67 d68 d69 d70 d71 d72 d73 d74 d75 d76 d77 d78 d79 d80 d81 d82 d83 : Value, nat_carried.j2 Y0 yn0 yc0 y12 d1 d2 d3 d4 d5 d6 d7 d8 d9 d10 d11 d13 d14 d15 d16 d17 d18 d19 d20 d21 d22 d23 d24 d25 d26 d27 d28 d29 d30 d31 d32 d33 d34 d35 d36 d37 d38 d39 d40 d41 d42 d43 d44 d45 d46 d47 d48 d49 d50 d51 d52 d53 d54 d55 d56 d57 d58 d59 d60 d61 d62 d63 d64 d65 d66 d67 d68 d69 d70 d71 d72 d73 d74 d75 d76 d77 d78 d79 d80 d81 d82 d83 w R
abbrev nat_carried.J3 (Y0 : Option Addr) (yn0 : Nat) (yc0 : Nat) (y14 : Int) (w : World) (R : Ending → World → Prop) : Prop := ∀ d1 d2 d3 d4 d5 d6 d7 d8 d9 d10 d11 d12 d13 d15 d16 d17 d18 d19 d20 d21 d22 d23 d24 d25 d26 d27 d28 d29 d30 d31 d32 d33 d34 d35 d36 d37 d38 d39 d40 d41 d42 d43 d44 d45 d46 d47 d48 d49 d50 d51 d52 d53 d54 d55 d56 d57 d58 d59 d60 d61 d62 d63 d64 d65 d66 d67 d68 d69 d70 d71 d72 d73 d74 d75 d76 d77 d78 d79 d80 d81 d82 d83 : Value, nat_carried.j3 Y0 yn0 yc0 y14 d1 d2 d3 d4 d5 d6 d7 d8 d9 d10 d11 d12 d13 d15 d16 d17 d18 d19 d20 d21 d22 d23 d24 d25 d26 d27 d28 d29 d30 d31 d32 d33 d34 d35 d36 d37 d38 d39 d40 d41 d42 d43 d44 d45 d46 d47 d48 d49 d50 d51 d52 d53 d54 d55 d56 d57 d58 d59 d60 d61 d62 d63 d64 d65 d66 d67 d68 d69 d70 d71 d72 d73 d74 d75 d76 d77 d78 d79 d80 d81 d82 d83 w R
theorem nat_carried.j1_eq (Y0 : Option Addr) (yn0 : Nat) (yc0 : Nat) (y1 : Int) (y4 : Bool) (yg8 : Nat) (yg10 : Nat) (yg11 : Nat) (d2 d3 d5 d6 d7 d9 d12 d13 d14 d15 d16 d17 d18 d19 d20 d21 d22 d23 d24 d25 d26 d27 d28 d29 d30 d31 d32 d33 d34 d35 d36 d37 d38 d39 d40 d41 d42 d43 d44 d45 d46 d47 d48 d49 d50 d51 d52 d53 d54 d55 d56 d57 d58 d59 d60 d61 d62 d63 d64 d65 d66 d67 d68 d69 d70 d71 d72 d73 d74 d75 d76 d77 d78 d79 d80 d81 d82 d83 : Value) (w : World) (R : Ending → World → Prop) : nat_carried.j1 Y0 yn0 yc0 y1 y4 yg8 yg10 yg11 d2 d3 d5 d6 d7 d9 d12 d13 d14 d15 d16 d17 d18 d19 d20 d21 d22 d23 d24 d25 d26 d27 d28 d29 d30 d31 d32 d33 d34 d35 d36 d37 d38 d39 d40 d41 d42 d43 d44 d45 d46 d47 d48 d49 d50 d51 d52 d53 d54 d55 d56 d57 d58 d59 d60 d61 d62 d63 d64 d65 d66 d67 d68 d69 d70 d71 d72 d73 d74 d75 d76 d77 d78 d79 d80 d81 d82 d83 w R =
((if (y1 == 1) = true then
(∃ x1 : Int, w.cell? ⟨yg8, 3, none⟩ = some (.int .u16 x1) ∧
(Calls Tryd.prog 61 #[.slice Y0 yn0 yc0, .int .i64 4, .int .u16 x1] w (fun (e3 : Ending) (w2 : World) =>
 e3 = .returned (.tuple #[]) ∧
(∃ S4 : World → Prop, S4 w2.drew ∧
(Let (w2.drew) fun w5 : World =>
(0 ≤ (5 : Int) ∧ (5 : Int) ≤ 6) ∧
(0 ≤ (4 : Int) ∧ (4 : Int) ≤ 5) ∧
((0 ≤ (5 : Int) ∧ (5 : Int) ≤ 6) ∧
(0 ≤ (4 : Int) ∧ (4 : Int) ≤ 5) ∧
(Calls Tryd.prog 68 #[.slice Y0 yn0 yc0, .int .i64 2] w5 (fun (e7 : Ending) (w6 : World) =>
 ∃ x8 : Int, e7 = .returned (.int .u16 x8) ∧
(S4 w6 ∧
(Calls Tryd.prog 67 #[.int .u16 x8, .slice (cutA (some ⟨yg10, 0, none⟩) 4 6 1) 1 2, .slice (cutA (some ⟨yg11, 0, none⟩) 4 6 1) 1 2] w6 (fun (e10 : Ending) (w9 : World) =>
 ∃ x11 : Int, e10 = .returned (.int .u16 x11) ∧
(S4 w9 ∧
((if y4 = true then
((0 ≤ (4 : Int) ∧ (4 : Int) < 6) ∧
(∃ x12 : Int, w9.cell? ⟨yg10, 4, none⟩ = some (.int .u16 x12) ∧
((0 ≤ (4 : Int) ∧ (4 : Int) < 6) ∧
(∃ x13 : Int, w9.cell? ⟨yg11, 4, none⟩ = some (.int .u16 x13) ∧
((if (x12 != x13) = true then
((if (x11 == 0) = true then
(Calls Tryd.prog 69 #[.slice Y0 yn0 yc0, .int .i64 2] w9 (fun (e15 : Ending) (w14 : World) =>
 ∃ b16 : Bool, e15 = .returned (.bool b16) ∧
((if b16 = true then
(Leaf (nat_carried.j2 Y0 yn0 yc0 65535 (.int .u8 y1) d2 d3 (.bool y4) d5 d6 d7 (.pointer (some ⟨yg8, 0, none⟩)) d9 (.pointer (some ⟨yg10, 0, none⟩)) (.pointer (some ⟨yg11, 0, none⟩)) d13 d14 d15 d16 d17 d18 (.int .u8 y1) (.bool (y1 == 1)) (.slice Y0 yn0 yc0) (.pointer (some ⟨yg8, 3, none⟩)) (.int .u16 x1) (.tuple #[]) (.slice Y0 yn0 yc0) (.int .u16 x8) (.slice (cutA (some ⟨yg10, 0, none⟩) 4 6 1) 1 2) (.slice (cutA (some ⟨yg11, 0, none⟩) 4 6 1) 1 2) (.int .u16 x11) (.bool y4) (.bool true) (.pointer (some ⟨yg10, 4, none⟩)) (.int .u16 x12) (.pointer (some ⟨yg11, 4, none⟩)) (.int .u16 x13) (.bool (x12 != x13)) (.bool (x12 != x13)) (.bool true) (.int .u16 x11) (.bool (x11 == 0)) (.bool (x11 == 0)) (.bool true) (.slice Y0 yn0 yc0) (.bool b16) (.bool b16) d46 d47 d48 d49 d50 d51 d52 d53 d54 d55 d56 d57 d58 d59 d60 d61 d62 d63 d64 d65 d66 d67 d68 d69 d70 d71 d72 d73 d74 d75 d76 d77 d78 d79 d80 d81 d82 d83 w14 R))
else
(Leaf (nat_carried.j2 Y0 yn0 yc0 x11 (.int .u8 y1) d2 d3 (.bool y4) d5 d6 d7 (.pointer (some ⟨yg8, 0, none⟩)) d9 (.pointer (some ⟨yg10, 0, none⟩)) (.pointer (some ⟨yg11, 0, none⟩)) d13 d14 d15 d16 d17 d18 (.int .u8 y1) (.bool (y1 == 1)) (.slice Y0 yn0 yc0) (.pointer (some ⟨yg8, 3, none⟩)) (.int .u16 x1) (.tuple #[]) (.slice Y0 yn0 yc0) (.int .u16 x8) (.slice (cutA (some ⟨yg10, 0, none⟩) 4 6 1) 1 2) (.slice (cutA (some ⟨yg11, 0, none⟩) 4 6 1) 1 2) (.int .u16 x11) (.bool y4) (.bool true) (.pointer (some ⟨yg10, 4, none⟩)) (.int .u16 x12) (.pointer (some ⟨yg11, 4, none⟩)) (.int .u16 x13) (.bool (x12 != x13)) (.bool (x12 != x13)) (.bool true) (.int .u16 x11) (.bool (x11 == 0)) (.bool (x11 == 0)) (.bool true) (.slice Y0 yn0 yc0) (.bool b16) (.bool b16) d46 d47 d48 d49 d50 d51 d52 d53 d54 d55 d56 d57 d58 d59 d60 d61 d62 d63 d64 d65 d66 d67 d68 d69 d70 d71 d72 d73 d74 d75 d76 d77 d78 d79 d80 d81 d82 d83 w14 R))))))
else
(Leaf (nat_carried.j2 Y0 yn0 yc0 x11 (.int .u8 y1) d2 d3 (.bool y4) d5 d6 d7 (.pointer (some ⟨yg8, 0, none⟩)) d9 (.pointer (some ⟨yg10, 0, none⟩)) (.pointer (some ⟨yg11, 0, none⟩)) d13 d14 d15 d16 d17 d18 (.int .u8 y1) (.bool (y1 == 1)) (.slice Y0 yn0 yc0) (.pointer (some ⟨yg8, 3, none⟩)) (.int .u16 x1) (.tuple #[]) (.slice Y0 yn0 yc0) (.int .u16 x8) (.slice (cutA (some ⟨yg10, 0, none⟩) 4 6 1) 1 2) (.slice (cutA (some ⟨yg11, 0, none⟩) 4 6 1) 1 2) (.int .u16 x11) (.bool y4) (.bool true) (.pointer (some ⟨yg10, 4, none⟩)) (.int .u16 x12) (.pointer (some ⟨yg11, 4, none⟩)) (.int .u16 x13) (.bool (x12 != x13)) (.bool (x12 != x13)) (.bool true) (.int .u16 x11) (.bool (x11 == 0)) (.bool (x11 == 0)) (.bool false) undef undef (.bool false) d46 d47 d48 d49 d50 d51 d52 d53 d54 d55 d56 d57 d58 d59 d60 d61 d62 d63 d64 d65 d66 d67 d68 d69 d70 d71 d72 d73 d74 d75 d76 d77 d78 d79 d80 d81 d82 d83 w9 R))))
else
(Leaf (nat_carried.j2 Y0 yn0 yc0 x11 (.int .u8 y1) d2 d3 (.bool y4) d5 d6 d7 (.pointer (some ⟨yg8, 0, none⟩)) d9 (.pointer (some ⟨yg10, 0, none⟩)) (.pointer (some ⟨yg11, 0, none⟩)) d13 d14 d15 d16 d17 d18 (.int .u8 y1) (.bool (y1 == 1)) (.slice Y0 yn0 yc0) (.pointer (some ⟨yg8, 3, none⟩)) (.int .u16 x1) (.tuple #[]) (.slice Y0 yn0 yc0) (.int .u16 x8) (.slice (cutA (some ⟨yg10, 0, none⟩) 4 6 1) 1 2) (.slice (cutA (some ⟨yg11, 0, none⟩) 4 6 1) 1 2) (.int .u16 x11) (.bool y4) (.bool true) (.pointer (some ⟨yg10, 4, none⟩)) (.int .u16 x12) (.pointer (some ⟨yg11, 4, none⟩)) (.int .u16 x13) (.bool (x12 != x13)) (.bool (x12 != x13)) (.bool false) undef undef (.bool false) (.bool false) undef undef (.bool false) d46 d47 d48 d49 d50 d51 d52 d53 d54 d55 d56 d57 d58 d59 d60 d61 d62 d63 d64 d65 d66 d67 d68 d69 d70 d71 d72 d73 d74 d75 d76 d77 d78 d79 d80 d81 d82 d83 w9 R))))))))
else
(Leaf (nat_carried.j2 Y0 yn0 yc0 x11 (.int .u8 y1) d2 d3 (.bool y4) d5 d6 d7 (.pointer (some ⟨yg8, 0, none⟩)) d9 (.pointer (some ⟨yg10, 0, none⟩)) (.pointer (some ⟨yg11, 0, none⟩)) d13 d14 d15 d16 d17 d18 (.int .u8 y1) (.bool (y1 == 1)) (.slice Y0 yn0 yc0) (.pointer (some ⟨yg8, 3, none⟩)) (.int .u16 x1) (.tuple #[]) (.slice Y0 yn0 yc0) (.int .u16 x8) (.slice (cutA (some ⟨yg10, 0, none⟩) 4 6 1) 1 2) (.slice (cutA (some ⟨yg11, 0, none⟩) 4 6 1) 1 2) (.int .u16 x11) (.bool y4) (.bool false) undef undef undef undef undef (.bool false) (.bool false) undef undef (.bool false) (.bool false) undef undef (.bool false) d46 d47 d48 d49 d50 d51 d52 d53 d54 d55 d56 d57 d58 d59 d60 d61 d62 d63 d64 d65 d66 d67 d68 d69 d70 d71 d72 d73 d74 d75 d76 d77 d78 d79 d80 d81 d82 d83 w9 R))))))))))))))))
else
(∃ x17 : Int, w.cell? ⟨yg8, 3, none⟩ = some (.int .u16 x17) ∧
(Calls Tryd.prog 61 #[.slice Y0 yn0 yc0, .int .i64 0, .int .u16 x17] w (fun (e19 : Ending) (w18 : World) =>
 e19 = .returned (.tuple #[]) ∧
(∃ x20 : Int, w18.cell? ⟨yg8, 4, none⟩ = some (.int .u16 x20) ∧
(Calls Tryd.prog 61 #[.slice Y0 yn0 yc0, .int .i64 2, .int .u16 x20] w18 (fun (e22 : Ending) (w21 : World) =>
 e22 = .returned (.tuple #[]) ∧
((if (y1 == 17) = true then
(Calls Tryd.prog 68 #[.slice Y0 yn0 yc0, .int .i64 6] w21 (fun (e24 : Ending) (w23 : World) =>
 ∃ x25 : Int, e24 = .returned (.int .u16 x25) ∧
((if (x25 != 0) = true then
(∃ S26 : World → Prop, S26 w23.drew ∧
(Let (w23.drew) fun w27 : World =>
((Calls Tryd.prog 67 #[.int .u16 x25, .slice (some ⟨yg10, 0, none⟩) 6 6, .slice (some ⟨yg11, 0, none⟩) 6 6] w27 (fun (e29 : Ending) (w28 : World) =>
 ∃ x30 : Int, e29 = .returned (.int .u16 x30) ∧
(S26 w28 ∧
((if (x30 == 0) = true then
(Leaf (nat_carried.j3 Y0 yn0 yc0 65535 (.int .u8 y1) d2 d3 (.bool y4) d5 d6 d7 (.pointer (some ⟨yg8, 0, none⟩)) d9 (.pointer (some ⟨yg10, 0, none⟩)) (.pointer (some ⟨yg11, 0, none⟩)) d12 (.int .u16 x25) d15 d16 d17 d18 (.int .u8 y1) (.bool (y1 == 1)) d21 d22 d23 d24 d25 d26 d27 d28 d29 d30 d31 d32 d33 d34 d35 d36 d37 d38 d39 d40 d41 d42 d43 d44 d45 d46 d47 d48 (.slice Y0 yn0 yc0) (.pointer (some ⟨yg8, 3, none⟩)) (.int .u16 x17) (.tuple #[]) (.slice Y0 yn0 yc0) (.pointer (some ⟨yg8, 4, none⟩)) (.int .u16 x20) (.tuple #[]) (.bool (y1 == 17)) (.int .u8 y1) (.bool (y1 == 17)) (.slice Y0 yn0 yc0) (.int .u16 x25) (.int .u16 x25) (.bool (x25 != 0)) (.int .u16 x25) (.slice (some ⟨yg10, 0, none⟩) 6 6) (.slice (some ⟨yg11, 0, none⟩) 6 6) (.int .u16 x30) (.int .u16 x30) (.bool (x30 == 0)) d70 d71 d72 d73 d74 d75 d76 d77 d78 d79 d80 d81 d82 d83 w28 R))
else
(Leaf (nat_carried.j3 Y0 yn0 yc0 x30 (.int .u8 y1) d2 d3 (.bool y4) d5 d6 d7 (.pointer (some ⟨yg8, 0, none⟩)) d9 (.pointer (some ⟨yg10, 0, none⟩)) (.pointer (some ⟨yg11, 0, none⟩)) d12 (.int .u16 x25) d15 d16 d17 d18 (.int .u8 y1) (.bool (y1 == 1)) d21 d22 d23 d24 d25 d26 d27 d28 d29 d30 d31 d32 d33 d34 d35 d36 d37 d38 d39 d40 d41 d42 d43 d44 d45 d46 d47 d48 (.slice Y0 yn0 yc0) (.pointer (some ⟨yg8, 3, none⟩)) (.int .u16 x17) (.tuple #[]) (.slice Y0 yn0 yc0) (.pointer (some ⟨yg8, 4, none⟩)) (.int .u16 x20) (.tuple #[]) (.bool (y1 == 17)) (.int .u8 y1) (.bool (y1 == 17)) (.slice Y0 yn0 yc0) (.int .u16 x25) (.int .u16 x25) (.bool (x25 != 0)) (.int .u16 x25) (.slice (some ⟨yg10, 0, none⟩) 6 6) (.slice (some ⟨yg11, 0, none⟩) 6 6) (.int .u16 x30) (.int .u16 x30) (.bool (x30 == 0)) d70 d71 d72 d73 d74 d75 d76 d77 d78 d79 d80 d81 d82 d83 w28 R))))))))))
else
(R (.returned (.tuple #[])) w23)))))
else
((if decide ((yn0 : Int) ≥ 18) = true then
(∃ S31 : World → Prop, S31 w21.drew ∧
(Let (w21.drew) fun w32 : World =>
((Calls Tryd.prog 68 #[.slice Y0 yn0 yc0, .int .i64 16] w32 (fun (e34 : Ending) (w33 : World) =>
 ∃ x35 : Int, e34 = .returned (.int .u16 x35) ∧
(S31 w33 ∧
(Calls Tryd.prog 67 #[.int .u16 x35, .slice (some ⟨yg10, 0, none⟩) 6 6, .slice (some ⟨yg11, 0, none⟩) 6 6] w33 (fun (e37 : Ending) (w36 : World) =>
 ∃ x38 : Int, e37 = .returned (.int .u16 x38) ∧
(S31 w36 ∧
(Calls Tryd.prog 61 #[.slice Y0 yn0 yc0, .int .i64 16, .int .u16 x38] w36 (fun (e40 : Ending) (w39 : World) =>
 e40 = .returned (.tuple #[]) ∧
(S31 w39 ∧
(R (.returned (.tuple #[])) w39)))))))))))))
else
(R (.returned (.tuple #[])) w21))))))))))))) := by kernel_rfl
theorem nat_carried.j2_eq (Y0 : Option Addr) (yn0 : Nat) (yc0 : Nat) (y12 : Int) (d1 d2 d3 d4 d5 d6 d7 d8 d9 d10 d11 d13 d14 d15 d16 d17 d18 d19 d20 d21 d22 d23 d24 d25 d26 d27 d28 d29 d30 d31 d32 d33 d34 d35 d36 d37 d38 d39 d40 d41 d42 d43 d44 d45 d46 d47 d48 d49 d50 d51 d52 d53 d54 d55 d56 d57 d58 d59 d60 d61 d62 d63 d64 d65 d66 d67 d68 d69 d70 d71 d72 d73 d74 d75 d76 d77 d78 d79 d80 d81 d82 d83 : Value) (w : World) (R : Ending → World → Prop) : nat_carried.j2 Y0 yn0 yc0 y12 d1 d2 d3 d4 d5 d6 d7 d8 d9 d10 d11 d13 d14 d15 d16 d17 d18 d19 d20 d21 d22 d23 d24 d25 d26 d27 d28 d29 d30 d31 d32 d33 d34 d35 d36 d37 d38 d39 d40 d41 d42 d43 d44 d45 d46 d47 d48 d49 d50 d51 d52 d53 d54 d55 d56 d57 d58 d59 d60 d61 d62 d63 d64 d65 d66 d67 d68 d69 d70 d71 d72 d73 d74 d75 d76 d77 d78 d79 d80 d81 d82 d83 w R =
(Calls Tryd.prog 61 #[.slice Y0 yn0 yc0, .int .i64 2, .int .u16 y12] w (fun (e2 : Ending) (w1 : World) =>
 e2 = .returned (.tuple #[]) ∧
(R (.returned (.tuple #[])) w1))) := by kernel_rfl
theorem nat_carried.j3_eq (Y0 : Option Addr) (yn0 : Nat) (yc0 : Nat) (y14 : Int) (d1 d2 d3 d4 d5 d6 d7 d8 d9 d10 d11 d12 d13 d15 d16 d17 d18 d19 d20 d21 d22 d23 d24 d25 d26 d27 d28 d29 d30 d31 d32 d33 d34 d35 d36 d37 d38 d39 d40 d41 d42 d43 d44 d45 d46 d47 d48 d49 d50 d51 d52 d53 d54 d55 d56 d57 d58 d59 d60 d61 d62 d63 d64 d65 d66 d67 d68 d69 d70 d71 d72 d73 d74 d75 d76 d77 d78 d79 d80 d81 d82 d83 : Value) (w : World) (R : Ending → World → Prop) : nat_carried.j3 Y0 yn0 yc0 y14 d1 d2 d3 d4 d5 d6 d7 d8 d9 d10 d11 d12 d13 d15 d16 d17 d18 d19 d20 d21 d22 d23 d24 d25 d26 d27 d28 d29 d30 d31 d32 d33 d34 d35 d36 d37 d38 d39 d40 d41 d42 d43 d44 d45 d46 d47 d48 d49 d50 d51 d52 d53 d54 d55 d56 d57 d58 d59 d60 d61 d62 d63 d64 d65 d66 d67 d68 d69 d70 d71 d72 d73 d74 d75 d76 d77 d78 d79 d80 d81 d82 d83 w R =
(Calls Tryd.prog 61 #[.slice Y0 yn0 yc0, .int .i64 6, .int .u16 y14] w (fun (e2 : Ending) (w1 : World) =>
 e2 = .returned (.tuple #[]) ∧
(R (.returned (.tuple #[])) w1))) := by kernel_rfl
def nat_carried.s (I0 : Option Addr) (in0 : Nat) (ic0 : Nat) (i1 : Int) (i2_0 : Int) (i2_1 : Int) (i2_2 : Int) (i2_3 : Int) (i2_4 : Int) (i3_0 : Int) (i3_1 : Int) (i3_2 : Int) (i3_3 : Int) (i3_4 : Int) (i4 : Bool) (w : World) (R : Ending → World → Prop) : Prop :=
(Let (w.heap.size) fun g1 : Nat =>
 Let (w.alloc (.cells #[.int .u32 i2_0, .int .u32 i2_1, .int .u8 i2_2, .int .u16 i2_3, .int .u16 i2_4] 32)) fun w2 : World =>
 Let (w2.heap.size) fun g3 : Nat =>
 Let (w2.alloc (.cells #[.int .u32 i3_0, .int .u32 i3_1, .int .u8 i3_2, .int .u16 i3_3, .int .u16 i3_4] 32)) fun w4 : World =>
 ∃ S5 : World → Prop, S5 w4.drew ∧
(Let (w4.drew) fun w6 : World =>
 ∃ x7 : Int, ∃ x8 : Int, ∃ x9 : Int, ∃ x10 : Int, ∃ x11 : Int, (5 = 5 ∧ (∀ w', S5 w' → At w' ⟨g1, 0, none⟩ [.int .u32 x7, .int .u32 x8, .int .u8 x9, .int .u16 x10, .int .u16 x11])) ∧
(∃ x12 : Int, ∃ x13 : Int, ∃ x14 : Int, ∃ x15 : Int, ∃ x16 : Int, (5 = 5 ∧ (∀ w', S5 w' → At w' ⟨g3, 0, none⟩ [.int .u32 x12, .int .u32 x13, .int .u8 x14, .int .u16 x15, .int .u16 x16])) ∧
((Calls Tryd.prog 66 #[.agg #[.int .u32 x7, .int .u32 x8, .int .u8 x9, .int .u16 x10, .int .u16 x11]] w6 (fun (e18 : Ending) (w17 : World) =>
 ∃ x19 : Int, ∃ x20 : Int, ∃ x21 : Int, ∃ x22 : Int, ∃ x23 : Int, ∃ x24 : Int, e18 = .returned (.agg #[.int .u16 x19, .int .u16 x20, .int .u16 x21, .int .u16 x22, .int .u16 x23, .int .u16 x24]) ∧
(S5 w17 ∧
((Calls Tryd.prog 66 #[.agg #[.int .u32 x12, .int .u32 x13, .int .u8 x14, .int .u16 x15, .int .u16 x16]] w17 (fun (e26 : Ending) (w25 : World) =>
 ∃ x27 : Int, ∃ x28 : Int, ∃ x29 : Int, ∃ x30 : Int, ∃ x31 : Int, ∃ x32 : Int, e26 = .returned (.agg #[.int .u16 x27, .int .u16 x28, .int .u16 x29, .int .u16 x30, .int .u16 x31, .int .u16 x32]) ∧
(S5 w25 ∧
((Let (w25.heap.size) fun g33 : Nat =>
 Let (w25.alloc (.cells #[.int .u16 0, .int .u16 0, .int .u16 0, .int .u16 0, .int .u16 0, .int .u16 0] 129)) fun w34 : World =>
 S5 w34 ∧
(Let (w34.heap.size) fun g35 : Nat =>
 Let (w34.alloc (.cells #[.int .u16 0, .int .u16 0, .int .u16 0, .int .u16 0, .int .u16 0, .int .u16 0] 129)) fun w36 : World =>
 S5 w36 ∧
(May w36 ⟨g33, 0, none⟩ 6 ∧
(Let (putCells w36 ⟨g33, 0, none⟩ [.int .u16 x19, .int .u16 x20, .int .u16 x21, .int .u16 x22, .int .u16 x23, .int .u16 x24] 0) fun w37 : World =>
 S5 w37 ∧
(May w37 ⟨g35, 0, none⟩ 6 ∧
(Let (putCells w37 ⟨g35, 0, none⟩ [.int .u16 x27, .int .u16 x28, .int .u16 x29, .int .u16 x30, .int .u16 x31, .int .u16 x32] 0) fun w38 : World =>
 S5 w38 ∧
(Leaf (nat_carried.j1 I0 in0 ic0 i1 i4 g3 g33 g35 (.agg #[.int .u32 i2_0, .int .u32 i2_1, .int .u8 i2_2, .int .u16 i2_3, .int .u16 i2_4]) (.agg #[.int .u32 i3_0, .int .u32 i3_1, .int .u8 i3_2, .int .u16 i3_3, .int .u16 i3_4]) undef undef (.pointer (some ⟨g1, 0, none⟩)) undef undef undef undef (.agg #[.int .u32 x7, .int .u32 x8, .int .u8 x9, .int .u16 x10, .int .u16 x11]) (.agg #[.int .u16 x19, .int .u16 x20, .int .u16 x21, .int .u16 x22, .int .u16 x23, .int .u16 x24]) (.agg #[.int .u32 x12, .int .u32 x13, .int .u8 x14, .int .u16 x15, .int .u16 x16]) (.agg #[.int .u16 x27, .int .u16 x28, .int .u16 x29, .int .u16 x30, .int .u16 x31, .int .u16 x32]) undef undef undef undef undef undef undef undef undef undef undef undef undef undef undef undef undef undef undef undef undef undef undef undef undef undef undef undef undef undef undef undef undef undef undef undef undef undef undef undef undef undef undef undef undef undef undef undef undef undef undef undef undef undef undef undef undef undef undef undef undef undef undef undef undef w38 R)))))))) ∧
(Let (w25.heap.size) fun g39 : Nat =>
 Let (w25.alloc (.cells #[.int .u16 0, .int .u16 0, .int .u16 0, .int .u16 0, .int .u16 0, .int .u16 0] 129)) fun w40 : World =>
 S5 w40 ∧
(Let (w40.heap.size) fun g41 : Nat =>
 Let (w40.alloc (.cells #[.int .u16 0, .int .u16 0, .int .u16 0, .int .u16 0, .int .u16 0, .int .u16 0] 129)) fun w42 : World =>
 S5 w42 ∧
(May w42 ⟨g41, 0, none⟩ 6 ∧
(Let (putCells w42 ⟨g41, 0, none⟩ [.int .u16 x19, .int .u16 x20, .int .u16 x21, .int .u16 x22, .int .u16 x23, .int .u16 x24] 0) fun w43 : World =>
 S5 w43 ∧
(May w43 ⟨g39, 0, none⟩ 6 ∧
(Let (putCells w43 ⟨g39, 0, none⟩ [.int .u16 x27, .int .u16 x28, .int .u16 x29, .int .u16 x30, .int .u16 x31, .int .u16 x32] 0) fun w44 : World =>
 S5 w44 ∧
(Leaf (nat_carried.j1 I0 in0 ic0 i1 i4 g3 g41 g39 (.agg #[.int .u32 i2_0, .int .u32 i2_1, .int .u8 i2_2, .int .u16 i2_3, .int .u16 i2_4]) (.agg #[.int .u32 i3_0, .int .u32 i3_1, .int .u8 i3_2, .int .u16 i3_3, .int .u16 i3_4]) undef undef (.pointer (some ⟨g1, 0, none⟩)) undef undef undef undef (.agg #[.int .u32 x7, .int .u32 x8, .int .u8 x9, .int .u16 x10, .int .u16 x11]) (.agg #[.int .u16 x19, .int .u16 x20, .int .u16 x21, .int .u16 x22, .int .u16 x23, .int .u16 x24]) (.agg #[.int .u32 x12, .int .u32 x13, .int .u8 x14, .int .u16 x15, .int .u16 x16]) (.agg #[.int .u16 x27, .int .u16 x28, .int .u16 x29, .int .u16 x30, .int .u16 x31, .int .u16 x32]) undef undef undef undef undef undef undef undef undef undef undef undef undef undef undef undef undef undef undef undef undef undef undef undef undef undef undef undef undef undef undef undef undef undef undef undef undef undef undef undef undef undef undef undef undef undef undef undef undef undef undef undef undef undef undef undef undef undef undef undef undef undef undef undef undef w44 R)))))))))))) ∧
(Let (w17.heap.size) fun g45 : Nat =>
 Let (w17.alloc (.cells #[.int .u16 0, .int .u16 0, .int .u16 0, .int .u16 0, .int .u16 0, .int .u16 0] 129)) fun w46 : World =>
 S5 w46 ∧
((Calls Tryd.prog 66 #[.agg #[.int .u32 x12, .int .u32 x13, .int .u8 x14, .int .u16 x15, .int .u16 x16]] w46 (fun (e48 : Ending) (w47 : World) =>
 ∃ x49 : Int, ∃ x50 : Int, ∃ x51 : Int, ∃ x52 : Int, ∃ x53 : Int, ∃ x54 : Int, e48 = .returned (.agg #[.int .u16 x49, .int .u16 x50, .int .u16 x51, .int .u16 x52, .int .u16 x53, .int .u16 x54]) ∧
(S5 w47 ∧
(Let (w47.heap.size) fun g55 : Nat =>
 Let (w47.alloc (.cells #[.int .u16 0, .int .u16 0, .int .u16 0, .int .u16 0, .int .u16 0, .int .u16 0] 129)) fun w56 : World =>
 S5 w56 ∧
(May w56 ⟨g45, 0, none⟩ 6 ∧
(Let (putCells w56 ⟨g45, 0, none⟩ [.int .u16 x19, .int .u16 x20, .int .u16 x21, .int .u16 x22, .int .u16 x23, .int .u16 x24] 0) fun w57 : World =>
 S5 w57 ∧
(May w57 ⟨g55, 0, none⟩ 6 ∧
(Let (putCells w57 ⟨g55, 0, none⟩ [.int .u16 x49, .int .u16 x50, .int .u16 x51, .int .u16 x52, .int .u16 x53, .int .u16 x54] 0) fun w58 : World =>
 S5 w58 ∧
(Leaf (nat_carried.j1 I0 in0 ic0 i1 i4 g3 g45 g55 (.agg #[.int .u32 i2_0, .int .u32 i2_1, .int .u8 i2_2, .int .u16 i2_3, .int .u16 i2_4]) (.agg #[.int .u32 i3_0, .int .u32 i3_1, .int .u8 i3_2, .int .u16 i3_3, .int .u16 i3_4]) undef undef (.pointer (some ⟨g1, 0, none⟩)) undef undef undef undef (.agg #[.int .u32 x7, .int .u32 x8, .int .u8 x9, .int .u16 x10, .int .u16 x11]) (.agg #[.int .u16 x19, .int .u16 x20, .int .u16 x21, .int .u16 x22, .int .u16 x23, .int .u16 x24]) (.agg #[.int .u32 x12, .int .u32 x13, .int .u8 x14, .int .u16 x15, .int .u16 x16]) (.agg #[.int .u16 x49, .int .u16 x50, .int .u16 x51, .int .u16 x52, .int .u16 x53, .int .u16 x54]) undef undef undef undef undef undef undef undef undef undef undef undef undef undef undef undef undef undef undef undef undef undef undef undef undef undef undef undef undef undef undef undef undef undef undef undef undef undef undef undef undef undef undef undef undef undef undef undef undef undef undef undef undef undef undef undef undef undef undef undef undef undef undef undef undef w58 R)))))))))) ∧
(Let (w46.heap.size) fun g59 : Nat =>
 Let (w46.alloc (.cells #[.int .u16 0, .int .u16 0, .int .u16 0, .int .u16 0, .int .u16 0, .int .u16 0] 129)) fun w60 : World =>
 S5 w60 ∧
(Calls Tryd.prog 66 #[.agg #[.int .u32 x12, .int .u32 x13, .int .u8 x14, .int .u16 x15, .int .u16 x16]] w60 (fun (e62 : Ending) (w61 : World) =>
 ∃ x63 : Int, ∃ x64 : Int, ∃ x65 : Int, ∃ x66 : Int, ∃ x67 : Int, ∃ x68 : Int, e62 = .returned (.agg #[.int .u16 x63, .int .u16 x64, .int .u16 x65, .int .u16 x66, .int .u16 x67, .int .u16 x68]) ∧
(S5 w61 ∧
(May w61 ⟨g45, 0, none⟩ 6 ∧
(Let (putCells w61 ⟨g45, 0, none⟩ [.int .u16 x19, .int .u16 x20, .int .u16 x21, .int .u16 x22, .int .u16 x23, .int .u16 x24] 0) fun w69 : World =>
 S5 w69 ∧
(May w69 ⟨g59, 0, none⟩ 6 ∧
(Let (putCells w69 ⟨g59, 0, none⟩ [.int .u16 x63, .int .u16 x64, .int .u16 x65, .int .u16 x66, .int .u16 x67, .int .u16 x68] 0) fun w70 : World =>
 S5 w70 ∧
(Leaf (nat_carried.j1 I0 in0 ic0 i1 i4 g3 g45 g59 (.agg #[.int .u32 i2_0, .int .u32 i2_1, .int .u8 i2_2, .int .u16 i2_3, .int .u16 i2_4]) (.agg #[.int .u32 i3_0, .int .u32 i3_1, .int .u8 i3_2, .int .u16 i3_3, .int .u16 i3_4]) undef undef (.pointer (some ⟨g1, 0, none⟩)) undef undef undef undef (.agg #[.int .u32 x7, .int .u32 x8, .int .u8 x9, .int .u16 x10, .int .u16 x11]) (.agg #[.int .u16 x19, .int .u16 x20, .int .u16 x21, .int .u16 x22, .int .u16 x23, .int .u16 x24]) (.agg #[.int .u32 x12, .int .u32 x13, .int .u8 x14, .int .u16 x15, .int .u16 x16]) (.agg #[.int .u16 x63, .int .u16 x64, .int .u16 x65, .int .u16 x66, .int .u16 x67, .int .u16 x68]) undef undef undef undef undef undef undef undef undef undef undef undef undef undef undef undef undef undef undef undef undef undef undef undef undef undef undef undef undef undef undef undef undef undef undef undef undef undef undef undef undef undef undef undef undef undef undef undef undef undef undef undef undef undef undef undef undef undef undef undef undef undef undef undef undef w70 R)))))))))))) ∧
(Let (w17.heap.size) fun g71 : Nat =>
 Let (w17.alloc (.cells #[.int .u16 0, .int .u16 0, .int .u16 0, .int .u16 0, .int .u16 0, .int .u16 0] 129)) fun w72 : World =>
 S5 w72 ∧
((Calls Tryd.prog 66 #[.agg #[.int .u32 x12, .int .u32 x13, .int .u8 x14, .int .u16 x15, .int .u16 x16]] w72 (fun (e74 : Ending) (w73 : World) =>
 ∃ x75 : Int, ∃ x76 : Int, ∃ x77 : Int, ∃ x78 : Int, ∃ x79 : Int, ∃ x80 : Int, e74 = .returned (.agg #[.int .u16 x75, .int .u16 x76, .int .u16 x77, .int .u16 x78, .int .u16 x79, .int .u16 x80]) ∧
(S5 w73 ∧
(Let (w73.heap.size) fun g81 : Nat =>
 Let (w73.alloc (.cells #[.int .u16 0, .int .u16 0, .int .u16 0, .int .u16 0, .int .u16 0, .int .u16 0] 129)) fun w82 : World =>
 S5 w82 ∧
(May w82 ⟨g81, 0, none⟩ 6 ∧
(Let (putCells w82 ⟨g81, 0, none⟩ [.int .u16 x19, .int .u16 x20, .int .u16 x21, .int .u16 x22, .int .u16 x23, .int .u16 x24] 0) fun w83 : World =>
 S5 w83 ∧
(May w83 ⟨g71, 0, none⟩ 6 ∧
(Let (putCells w83 ⟨g71, 0, none⟩ [.int .u16 x75, .int .u16 x76, .int .u16 x77, .int .u16 x78, .int .u16 x79, .int .u16 x80] 0) fun w84 : World =>
 S5 w84 ∧
(Leaf (nat_carried.j1 I0 in0 ic0 i1 i4 g3 g81 g71 (.agg #[.int .u32 i2_0, .int .u32 i2_1, .int .u8 i2_2, .int .u16 i2_3, .int .u16 i2_4]) (.agg #[.int .u32 i3_0, .int .u32 i3_1, .int .u8 i3_2, .int .u16 i3_3, .int .u16 i3_4]) undef undef (.pointer (some ⟨g1, 0, none⟩)) undef undef undef undef (.agg #[.int .u32 x7, .int .u32 x8, .int .u8 x9, .int .u16 x10, .int .u16 x11]) (.agg #[.int .u16 x19, .int .u16 x20, .int .u16 x21, .int .u16 x22, .int .u16 x23, .int .u16 x24]) (.agg #[.int .u32 x12, .int .u32 x13, .int .u8 x14, .int .u16 x15, .int .u16 x16]) (.agg #[.int .u16 x75, .int .u16 x76, .int .u16 x77, .int .u16 x78, .int .u16 x79, .int .u16 x80]) undef undef undef undef undef undef undef undef undef undef undef undef undef undef undef undef undef undef undef undef undef undef undef undef undef undef undef undef undef undef undef undef undef undef undef undef undef undef undef undef undef undef undef undef undef undef undef undef undef undef undef undef undef undef undef undef undef undef undef undef undef undef undef undef undef w84 R)))))))))) ∧
(Let (w72.heap.size) fun g85 : Nat =>
 Let (w72.alloc (.cells #[.int .u16 0, .int .u16 0, .int .u16 0, .int .u16 0, .int .u16 0, .int .u16 0] 129)) fun w86 : World =>
 S5 w86 ∧
(Calls Tryd.prog 66 #[.agg #[.int .u32 x12, .int .u32 x13, .int .u8 x14, .int .u16 x15, .int .u16 x16]] w86 (fun (e88 : Ending) (w87 : World) =>
 ∃ x89 : Int, ∃ x90 : Int, ∃ x91 : Int, ∃ x92 : Int, ∃ x93 : Int, ∃ x94 : Int, e88 = .returned (.agg #[.int .u16 x89, .int .u16 x90, .int .u16 x91, .int .u16 x92, .int .u16 x93, .int .u16 x94]) ∧
(S5 w87 ∧
(May w87 ⟨g85, 0, none⟩ 6 ∧
(Let (putCells w87 ⟨g85, 0, none⟩ [.int .u16 x19, .int .u16 x20, .int .u16 x21, .int .u16 x22, .int .u16 x23, .int .u16 x24] 0) fun w95 : World =>
 S5 w95 ∧
(May w95 ⟨g71, 0, none⟩ 6 ∧
(Let (putCells w95 ⟨g71, 0, none⟩ [.int .u16 x89, .int .u16 x90, .int .u16 x91, .int .u16 x92, .int .u16 x93, .int .u16 x94] 0) fun w96 : World =>
 S5 w96 ∧
(Leaf (nat_carried.j1 I0 in0 ic0 i1 i4 g3 g85 g71 (.agg #[.int .u32 i2_0, .int .u32 i2_1, .int .u8 i2_2, .int .u16 i2_3, .int .u16 i2_4]) (.agg #[.int .u32 i3_0, .int .u32 i3_1, .int .u8 i3_2, .int .u16 i3_3, .int .u16 i3_4]) undef undef (.pointer (some ⟨g1, 0, none⟩)) undef undef undef undef (.agg #[.int .u32 x7, .int .u32 x8, .int .u8 x9, .int .u16 x10, .int .u16 x11]) (.agg #[.int .u16 x19, .int .u16 x20, .int .u16 x21, .int .u16 x22, .int .u16 x23, .int .u16 x24]) (.agg #[.int .u32 x12, .int .u32 x13, .int .u8 x14, .int .u16 x15, .int .u16 x16]) (.agg #[.int .u16 x89, .int .u16 x90, .int .u16 x91, .int .u16 x92, .int .u16 x93, .int .u16 x94]) undef undef undef undef undef undef undef undef undef undef undef undef undef undef undef undef undef undef undef undef undef undef undef undef undef undef undef undef undef undef undef undef undef undef undef undef undef undef undef undef undef undef undef undef undef undef undef undef undef undef undef undef undef undef undef undef undef undef undef undef undef undef undef undef undef w96 R)))))))))))))))) ∧
(Let (w6.heap.size) fun g97 : Nat =>
 Let (w6.alloc (.cells #[.int .u16 0, .int .u16 0, .int .u16 0, .int .u16 0, .int .u16 0, .int .u16 0] 129)) fun w98 : World =>
 S5 w98 ∧
((Calls Tryd.prog 66 #[.agg #[.int .u32 x7, .int .u32 x8, .int .u8 x9, .int .u16 x10, .int .u16 x11]] w98 (fun (e100 : Ending) (w99 : World) =>
 ∃ x101 : Int, ∃ x102 : Int, ∃ x103 : Int, ∃ x104 : Int, ∃ x105 : Int, ∃ x106 : Int, e100 = .returned (.agg #[.int .u16 x101, .int .u16 x102, .int .u16 x103, .int .u16 x104, .int .u16 x105, .int .u16 x106]) ∧
(S5 w99 ∧
((Calls Tryd.prog 66 #[.agg #[.int .u32 x12, .int .u32 x13, .int .u8 x14, .int .u16 x15, .int .u16 x16]] w99 (fun (e108 : Ending) (w107 : World) =>
 ∃ x109 : Int, ∃ x110 : Int, ∃ x111 : Int, ∃ x112 : Int, ∃ x113 : Int, ∃ x114 : Int, e108 = .returned (.agg #[.int .u16 x109, .int .u16 x110, .int .u16 x111, .int .u16 x112, .int .u16 x113, .int .u16 x114]) ∧
(S5 w107 ∧
(Let (w107.heap.size) fun g115 : Nat =>
 Let (w107.alloc (.cells #[.int .u16 0, .int .u16 0, .int .u16 0, .int .u16 0, .int .u16 0, .int .u16 0] 129)) fun w116 : World =>
 S5 w116 ∧
(May w116 ⟨g97, 0, none⟩ 6 ∧
(Let (putCells w116 ⟨g97, 0, none⟩ [.int .u16 x101, .int .u16 x102, .int .u16 x103, .int .u16 x104, .int .u16 x105, .int .u16 x106] 0) fun w117 : World =>
 S5 w117 ∧
(May w117 ⟨g115, 0, none⟩ 6 ∧
(Let (putCells w117 ⟨g115, 0, none⟩ [.int .u16 x109, .int .u16 x110, .int .u16 x111, .int .u16 x112, .int .u16 x113, .int .u16 x114] 0) fun w118 : World =>
 S5 w118 ∧
(Leaf (nat_carried.j1 I0 in0 ic0 i1 i4 g3 g97 g115 (.agg #[.int .u32 i2_0, .int .u32 i2_1, .int .u8 i2_2, .int .u16 i2_3, .int .u16 i2_4]) (.agg #[.int .u32 i3_0, .int .u32 i3_1, .int .u8 i3_2, .int .u16 i3_3, .int .u16 i3_4]) undef undef (.pointer (some ⟨g1, 0, none⟩)) undef undef undef undef (.agg #[.int .u32 x7, .int .u32 x8, .int .u8 x9, .int .u16 x10, .int .u16 x11]) (.agg #[.int .u16 x101, .int .u16 x102, .int .u16 x103, .int .u16 x104, .int .u16 x105, .int .u16 x106]) (.agg #[.int .u32 x12, .int .u32 x13, .int .u8 x14, .int .u16 x15, .int .u16 x16]) (.agg #[.int .u16 x109, .int .u16 x110, .int .u16 x111, .int .u16 x112, .int .u16 x113, .int .u16 x114]) undef undef undef undef undef undef undef undef undef undef undef undef undef undef undef undef undef undef undef undef undef undef undef undef undef undef undef undef undef undef undef undef undef undef undef undef undef undef undef undef undef undef undef undef undef undef undef undef undef undef undef undef undef undef undef undef undef undef undef undef undef undef undef undef undef w118 R)))))))))) ∧
(Let (w99.heap.size) fun g119 : Nat =>
 Let (w99.alloc (.cells #[.int .u16 0, .int .u16 0, .int .u16 0, .int .u16 0, .int .u16 0, .int .u16 0] 129)) fun w120 : World =>
 S5 w120 ∧
(Calls Tryd.prog 66 #[.agg #[.int .u32 x12, .int .u32 x13, .int .u8 x14, .int .u16 x15, .int .u16 x16]] w120 (fun (e122 : Ending) (w121 : World) =>
 ∃ x123 : Int, ∃ x124 : Int, ∃ x125 : Int, ∃ x126 : Int, ∃ x127 : Int, ∃ x128 : Int, e122 = .returned (.agg #[.int .u16 x123, .int .u16 x124, .int .u16 x125, .int .u16 x126, .int .u16 x127, .int .u16 x128]) ∧
(S5 w121 ∧
(May w121 ⟨g97, 0, none⟩ 6 ∧
(Let (putCells w121 ⟨g97, 0, none⟩ [.int .u16 x101, .int .u16 x102, .int .u16 x103, .int .u16 x104, .int .u16 x105, .int .u16 x106] 0) fun w129 : World =>
 S5 w129 ∧
(May w129 ⟨g119, 0, none⟩ 6 ∧
(Let (putCells w129 ⟨g119, 0, none⟩ [.int .u16 x123, .int .u16 x124, .int .u16 x125, .int .u16 x126, .int .u16 x127, .int .u16 x128] 0) fun w130 : World =>
 S5 w130 ∧
(Leaf (nat_carried.j1 I0 in0 ic0 i1 i4 g3 g97 g119 (.agg #[.int .u32 i2_0, .int .u32 i2_1, .int .u8 i2_2, .int .u16 i2_3, .int .u16 i2_4]) (.agg #[.int .u32 i3_0, .int .u32 i3_1, .int .u8 i3_2, .int .u16 i3_3, .int .u16 i3_4]) undef undef (.pointer (some ⟨g1, 0, none⟩)) undef undef undef undef (.agg #[.int .u32 x7, .int .u32 x8, .int .u8 x9, .int .u16 x10, .int .u16 x11]) (.agg #[.int .u16 x101, .int .u16 x102, .int .u16 x103, .int .u16 x104, .int .u16 x105, .int .u16 x106]) (.agg #[.int .u32 x12, .int .u32 x13, .int .u8 x14, .int .u16 x15, .int .u16 x16]) (.agg #[.int .u16 x123, .int .u16 x124, .int .u16 x125, .int .u16 x126, .int .u16 x127, .int .u16 x128]) undef undef undef undef undef undef undef undef undef undef undef undef undef undef undef undef undef undef undef undef undef undef undef undef undef undef undef undef undef undef undef undef undef undef undef undef undef undef undef undef undef undef undef undef undef undef undef undef undef undef undef undef undef undef undef undef undef undef undef undef undef undef undef undef undef w130 R)))))))))))))) ∧
(Let (w98.heap.size) fun g131 : Nat =>
 Let (w98.alloc (.cells #[.int .u16 0, .int .u16 0, .int .u16 0, .int .u16 0, .int .u16 0, .int .u16 0] 129)) fun w132 : World =>
 S5 w132 ∧
(Calls Tryd.prog 66 #[.agg #[.int .u32 x7, .int .u32 x8, .int .u8 x9, .int .u16 x10, .int .u16 x11]] w132 (fun (e134 : Ending) (w133 : World) =>
 ∃ x135 : Int, ∃ x136 : Int, ∃ x137 : Int, ∃ x138 : Int, ∃ x139 : Int, ∃ x140 : Int, e134 = .returned (.agg #[.int .u16 x135, .int .u16 x136, .int .u16 x137, .int .u16 x138, .int .u16 x139, .int .u16 x140]) ∧
(S5 w133 ∧
(Calls Tryd.prog 66 #[.agg #[.int .u32 x12, .int .u32 x13, .int .u8 x14, .int .u16 x15, .int .u16 x16]] w133 (fun (e142 : Ending) (w141 : World) =>
 ∃ x143 : Int, ∃ x144 : Int, ∃ x145 : Int, ∃ x146 : Int, ∃ x147 : Int, ∃ x148 : Int, e142 = .returned (.agg #[.int .u16 x143, .int .u16 x144, .int .u16 x145, .int .u16 x146, .int .u16 x147, .int .u16 x148]) ∧
(S5 w141 ∧
(May w141 ⟨g97, 0, none⟩ 6 ∧
(Let (putCells w141 ⟨g97, 0, none⟩ [.int .u16 x135, .int .u16 x136, .int .u16 x137, .int .u16 x138, .int .u16 x139, .int .u16 x140] 0) fun w149 : World =>
 S5 w149 ∧
(May w149 ⟨g131, 0, none⟩ 6 ∧
(Let (putCells w149 ⟨g131, 0, none⟩ [.int .u16 x143, .int .u16 x144, .int .u16 x145, .int .u16 x146, .int .u16 x147, .int .u16 x148] 0) fun w150 : World =>
 S5 w150 ∧
(Leaf (nat_carried.j1 I0 in0 ic0 i1 i4 g3 g97 g131 (.agg #[.int .u32 i2_0, .int .u32 i2_1, .int .u8 i2_2, .int .u16 i2_3, .int .u16 i2_4]) (.agg #[.int .u32 i3_0, .int .u32 i3_1, .int .u8 i3_2, .int .u16 i3_3, .int .u16 i3_4]) undef undef (.pointer (some ⟨g1, 0, none⟩)) undef undef undef undef (.agg #[.int .u32 x7, .int .u32 x8, .int .u8 x9, .int .u16 x10, .int .u16 x11]) (.agg #[.int .u16 x135, .int .u16 x136, .int .u16 x137, .int .u16 x138, .int .u16 x139, .int .u16 x140]) (.agg #[.int .u32 x12, .int .u32 x13, .int .u8 x14, .int .u16 x15, .int .u16 x16]) (.agg #[.int .u16 x143, .int .u16 x144, .int .u16 x145, .int .u16 x146, .int .u16 x147, .int .u16 x148]) undef undef undef undef undef undef undef undef undef undef undef undef undef undef undef undef undef undef undef undef undef undef undef undef undef undef undef undef undef undef undef undef undef undef undef undef undef undef undef undef undef undef undef undef undef undef undef undef undef undef undef undef undef undef undef undef undef undef undef undef undef undef undef undef undef w150 R))))))))))))))) ∧
(Let (w6.heap.size) fun g151 : Nat =>
 Let (w6.alloc (.cells #[.int .u16 0, .int .u16 0, .int .u16 0, .int .u16 0, .int .u16 0, .int .u16 0] 129)) fun w152 : World =>
 S5 w152 ∧
((Calls Tryd.prog 66 #[.agg #[.int .u32 x7, .int .u32 x8, .int .u8 x9, .int .u16 x10, .int .u16 x11]] w152 (fun (e154 : Ending) (w153 : World) =>
 ∃ x155 : Int, ∃ x156 : Int, ∃ x157 : Int, ∃ x158 : Int, ∃ x159 : Int, ∃ x160 : Int, e154 = .returned (.agg #[.int .u16 x155, .int .u16 x156, .int .u16 x157, .int .u16 x158, .int .u16 x159, .int .u16 x160]) ∧
(S5 w153 ∧
((Calls Tryd.prog 66 #[.agg #[.int .u32 x12, .int .u32 x13, .int .u8 x14, .int .u16 x15, .int .u16 x16]] w153 (fun (e162 : Ending) (w161 : World) =>
 ∃ x163 : Int, ∃ x164 : Int, ∃ x165 : Int, ∃ x166 : Int, ∃ x167 : Int, ∃ x168 : Int, e162 = .returned (.agg #[.int .u16 x163, .int .u16 x164, .int .u16 x165, .int .u16 x166, .int .u16 x167, .int .u16 x168]) ∧
(S5 w161 ∧
(Let (w161.heap.size) fun g169 : Nat =>
 Let (w161.alloc (.cells #[.int .u16 0, .int .u16 0, .int .u16 0, .int .u16 0, .int .u16 0, .int .u16 0] 129)) fun w170 : World =>
 S5 w170 ∧
(May w170 ⟨g169, 0, none⟩ 6 ∧
(Let (putCells w170 ⟨g169, 0, none⟩ [.int .u16 x155, .int .u16 x156, .int .u16 x157, .int .u16 x158, .int .u16 x159, .int .u16 x160] 0) fun w171 : World =>
 S5 w171 ∧
(May w171 ⟨g151, 0, none⟩ 6 ∧
(Let (putCells w171 ⟨g151, 0, none⟩ [.int .u16 x163, .int .u16 x164, .int .u16 x165, .int .u16 x166, .int .u16 x167, .int .u16 x168] 0) fun w172 : World =>
 S5 w172 ∧
(Leaf (nat_carried.j1 I0 in0 ic0 i1 i4 g3 g169 g151 (.agg #[.int .u32 i2_0, .int .u32 i2_1, .int .u8 i2_2, .int .u16 i2_3, .int .u16 i2_4]) (.agg #[.int .u32 i3_0, .int .u32 i3_1, .int .u8 i3_2, .int .u16 i3_3, .int .u16 i3_4]) undef undef (.pointer (some ⟨g1, 0, none⟩)) undef undef undef undef (.agg #[.int .u32 x7, .int .u32 x8, .int .u8 x9, .int .u16 x10, .int .u16 x11]) (.agg #[.int .u16 x155, .int .u16 x156, .int .u16 x157, .int .u16 x158, .int .u16 x159, .int .u16 x160]) (.agg #[.int .u32 x12, .int .u32 x13, .int .u8 x14, .int .u16 x15, .int .u16 x16]) (.agg #[.int .u16 x163, .int .u16 x164, .int .u16 x165, .int .u16 x166, .int .u16 x167, .int .u16 x168]) undef undef undef undef undef undef undef undef undef undef undef undef undef undef undef undef undef undef undef undef undef undef undef undef undef undef undef undef undef undef undef undef undef undef undef undef undef undef undef undef undef undef undef undef undef undef undef undef undef undef undef undef undef undef undef undef undef undef undef undef undef undef undef undef undef w172 R)))))))))) ∧
(Let (w153.heap.size) fun g173 : Nat =>
 Let (w153.alloc (.cells #[.int .u16 0, .int .u16 0, .int .u16 0, .int .u16 0, .int .u16 0, .int .u16 0] 129)) fun w174 : World =>
 S5 w174 ∧
(Calls Tryd.prog 66 #[.agg #[.int .u32 x12, .int .u32 x13, .int .u8 x14, .int .u16 x15, .int .u16 x16]] w174 (fun (e176 : Ending) (w175 : World) =>
 ∃ x177 : Int, ∃ x178 : Int, ∃ x179 : Int, ∃ x180 : Int, ∃ x181 : Int, ∃ x182 : Int, e176 = .returned (.agg #[.int .u16 x177, .int .u16 x178, .int .u16 x179, .int .u16 x180, .int .u16 x181, .int .u16 x182]) ∧
(S5 w175 ∧
(May w175 ⟨g173, 0, none⟩ 6 ∧
(Let (putCells w175 ⟨g173, 0, none⟩ [.int .u16 x155, .int .u16 x156, .int .u16 x157, .int .u16 x158, .int .u16 x159, .int .u16 x160] 0) fun w183 : World =>
 S5 w183 ∧
(May w183 ⟨g151, 0, none⟩ 6 ∧
(Let (putCells w183 ⟨g151, 0, none⟩ [.int .u16 x177, .int .u16 x178, .int .u16 x179, .int .u16 x180, .int .u16 x181, .int .u16 x182] 0) fun w184 : World =>
 S5 w184 ∧
(Leaf (nat_carried.j1 I0 in0 ic0 i1 i4 g3 g173 g151 (.agg #[.int .u32 i2_0, .int .u32 i2_1, .int .u8 i2_2, .int .u16 i2_3, .int .u16 i2_4]) (.agg #[.int .u32 i3_0, .int .u32 i3_1, .int .u8 i3_2, .int .u16 i3_3, .int .u16 i3_4]) undef undef (.pointer (some ⟨g1, 0, none⟩)) undef undef undef undef (.agg #[.int .u32 x7, .int .u32 x8, .int .u8 x9, .int .u16 x10, .int .u16 x11]) (.agg #[.int .u16 x155, .int .u16 x156, .int .u16 x157, .int .u16 x158, .int .u16 x159, .int .u16 x160]) (.agg #[.int .u32 x12, .int .u32 x13, .int .u8 x14, .int .u16 x15, .int .u16 x16]) (.agg #[.int .u16 x177, .int .u16 x178, .int .u16 x179, .int .u16 x180, .int .u16 x181, .int .u16 x182]) undef undef undef undef undef undef undef undef undef undef undef undef undef undef undef undef undef undef undef undef undef undef undef undef undef undef undef undef undef undef undef undef undef undef undef undef undef undef undef undef undef undef undef undef undef undef undef undef undef undef undef undef undef undef undef undef undef undef undef undef undef undef undef undef undef w184 R)))))))))))))) ∧
(Let (w152.heap.size) fun g185 : Nat =>
 Let (w152.alloc (.cells #[.int .u16 0, .int .u16 0, .int .u16 0, .int .u16 0, .int .u16 0, .int .u16 0] 129)) fun w186 : World =>
 S5 w186 ∧
(Calls Tryd.prog 66 #[.agg #[.int .u32 x7, .int .u32 x8, .int .u8 x9, .int .u16 x10, .int .u16 x11]] w186 (fun (e188 : Ending) (w187 : World) =>
 ∃ x189 : Int, ∃ x190 : Int, ∃ x191 : Int, ∃ x192 : Int, ∃ x193 : Int, ∃ x194 : Int, e188 = .returned (.agg #[.int .u16 x189, .int .u16 x190, .int .u16 x191, .int .u16 x192, .int .u16 x193, .int .u16 x194]) ∧
(S5 w187 ∧
(Calls Tryd.prog 66 #[.agg #[.int .u32 x12, .int .u32 x13, .int .u8 x14, .int .u16 x15, .int .u16 x16]] w187 (fun (e196 : Ending) (w195 : World) =>
 ∃ x197 : Int, ∃ x198 : Int, ∃ x199 : Int, ∃ x200 : Int, ∃ x201 : Int, ∃ x202 : Int, e196 = .returned (.agg #[.int .u16 x197, .int .u16 x198, .int .u16 x199, .int .u16 x200, .int .u16 x201, .int .u16 x202]) ∧
(S5 w195 ∧
(May w195 ⟨g185, 0, none⟩ 6 ∧
(Let (putCells w195 ⟨g185, 0, none⟩ [.int .u16 x189, .int .u16 x190, .int .u16 x191, .int .u16 x192, .int .u16 x193, .int .u16 x194] 0) fun w203 : World =>
 S5 w203 ∧
(May w203 ⟨g151, 0, none⟩ 6 ∧
(Let (putCells w203 ⟨g151, 0, none⟩ [.int .u16 x197, .int .u16 x198, .int .u16 x199, .int .u16 x200, .int .u16 x201, .int .u16 x202] 0) fun w204 : World =>
 S5 w204 ∧
(Leaf (nat_carried.j1 I0 in0 ic0 i1 i4 g3 g185 g151 (.agg #[.int .u32 i2_0, .int .u32 i2_1, .int .u8 i2_2, .int .u16 i2_3, .int .u16 i2_4]) (.agg #[.int .u32 i3_0, .int .u32 i3_1, .int .u8 i3_2, .int .u16 i3_3, .int .u16 i3_4]) undef undef (.pointer (some ⟨g1, 0, none⟩)) undef undef undef undef (.agg #[.int .u32 x7, .int .u32 x8, .int .u8 x9, .int .u16 x10, .int .u16 x11]) (.agg #[.int .u16 x189, .int .u16 x190, .int .u16 x191, .int .u16 x192, .int .u16 x193, .int .u16 x194]) (.agg #[.int .u32 x12, .int .u32 x13, .int .u8 x14, .int .u16 x15, .int .u16 x16]) (.agg #[.int .u16 x197, .int .u16 x198, .int .u16 x199, .int .u16 x200, .int .u16 x201, .int .u16 x202]) undef undef undef undef undef undef undef undef undef undef undef undef undef undef undef undef undef undef undef undef undef undef undef undef undef undef undef undef undef undef undef undef undef undef undef undef undef undef undef undef undef undef undef undef undef undef undef undef undef undef undef undef undef undef undef undef undef undef undef undef undef undef undef undef undef w204 R)))))))))))))))))))
theorem nat_carried.s_eq (I0 : Option Addr) (in0 : Nat) (ic0 : Nat) (i1 : Int) (i2_0 : Int) (i2_1 : Int) (i2_2 : Int) (i2_3 : Int) (i2_4 : Int) (i3_0 : Int) (i3_1 : Int) (i3_2 : Int) (i3_3 : Int) (i3_4 : Int) (i4 : Bool) (w : World) (R : Ending → World → Prop) : seg Tryd.prog entE nat_carried.ords nat_carried.joins Tryd.f39 [] [] [] ([.slice I0 in0 ic0, .int .u8 i1, .agg #[.int .u32 i2_0, .int .u32 i2_1, .int .u8 i2_2, .int .u16 i2_3, .int .u16 i2_4], .agg #[.int .u32 i3_0, .int .u32 i3_1, .int .u8 i3_2, .int .u16 i3_3, .int .u16 i3_4], .bool i4] ++ List.replicate (Tryd.f39.ntmps - ([.slice I0 in0 ic0, .int .u8 i1, .agg #[.int .u32 i2_0, .int .u32 i2_1, .int .u8 i2_2, .int .u16 i2_3, .int .u16 i2_4], .agg #[.int .u32 i3_0, .int .u32 i3_1, .int .u8 i3_2, .int .u16 i3_3, .int .u16 i3_4], .bool i4] : List Value).length) undef) w R = nat_carried.s I0 in0 ic0 i1 i2_0 i2_1 i2_2 i2_3 i2_4 i3_0 i3_1 i3_2 i3_3 i3_4 i4 w R := by kernel_rfl
theorem nat_carried.run {I0 : Option Addr} {in0 : Nat} {ic0 : Nat} {i1 : Int} {i2_0 : Int} {i2_1 : Int} {i2_2 : Int} {i2_3 : Int} {i2_4 : Int} {i3_0 : Int} {i3_1 : Int} {i3_2 : Int} {i3_3 : Int} {i3_4 : Int} {i4 : Bool} {w : World} {R : Ending → World → Prop} (h : nat_carried.s I0 in0 ic0 i1 i2_0 i2_1 i2_2 i2_3 i2_4 i3_0 i3_1 i3_2 i3_3 i3_4 i4 w R) : Calls Tryd.prog 39 #[.slice I0 in0 ic0, .int .u8 i1, .agg #[.int .u32 i2_0, .int .u32 i2_1, .int .u8 i2_2, .int .u16 i2_3, .int .u16 i2_4], .agg #[.int .u32 i3_0, .int .u32 i3_1, .int .u8 i3_2, .int .u16 i3_3, .int .u16 i3_4], .bool i4] w R :=
  calls_seg ents mixed Tryd.func39 rfl (by rw [nat_carried.s_eq]; exact h)
/-! ### nat_empty: function 69 -/
def nat_empty.ords : Nat → Od
  | _ => .nil
def nat_empty.joins (p : List Nat) : Bool := false
def nat_empty.l1 (n : Nat) (y1 : Int) (Y7 : Option Addr) (yn7 : Nat) (yc7 : Nat) (y8 : Int) (y9 : Int) (d0 d2 d3 d4 d5 d6 d10 d11 d12 d13 d14 d15 d16 d17 d18 d19 d20 d21 d22 d23 d24 d25 d26 d27 : Value) (w : World) (R : Ending → World → Prop) : Prop :=
  lseg Tryd.prog entE nat_empty.ords nat_empty.joins Tryd.f69 [1, 0, 1, 0] [0, 1, 0, 1] [] n [d0, .int .i64 y1, d2, d3, d4, d5, d6, .slice Y7 yn7 yc7, .int .i64 y8, .int .i64 y9, d10, d11, d12, d13, d14, d15, d16, d17, d18, d19, d20, d21, d22, d23, d24, d25, d26, d27] w R
abbrev nat_empty.L1 (n : Nat) (y1 : Int) (Y7 : Option Addr) (yn7 : Nat) (yc7 : Nat) (y8 : Int) (y9 : Int) (w : World) (R : Ending → World → Prop) : Prop := ∀ d0 d2 d3 d4 d5 d6 d10 d11 d12 d13 d14 d15 d16 d17 d18 d19 d20 d21 d22 d23 d24 d25 d26 d27 : Value, nat_empty.l1 n y1 Y7 yn7 yc7 y8 y9 d0 d2 d3 d4 d5 d6 d10 d11 d12 d13 d14 d15 d16 d17 d18 d19 d20 d21 d22 d23 d24 d25 d26 d27 w R
theorem nat_empty.l1_eq (n : Nat) (y1 : Int) (Y7 : Option Addr) (yn7 : Nat) (yc7 : Nat) (y8 : Int) (y9 : Int) (d0 d2 d3 d4 d5 d6 d10 d11 d12 d13 d14 d15 d16 d17 d18 d19 d20 d21 d22 d23 d24 d25 d26 d27 : Value) (w : World) (R : Ending → World → Prop) : nat_empty.l1 (n + 1) y1 Y7 yn7 yc7 y8 y9 d0 d2 d3 d4 d5 d6 d10 d11 d12 d13 d14 d15 d16 d17 d18 d19 d20 d21 d22 d23 d24 d25 d26 d27 w R =
((if decide (y9 < y8) = true then
(∃ a1 : Addr, Y7 = some a1 ∧ (0 ≤ y9 ∧ y9 < (yn7 : Int)) ∧
(∃ x2 : Int, w.cell? (a1.add y9.toNat) = some (.int .u8 x2) ∧
((if (x2 != 0) = true then
((if (y9 != y1) = true then
(Let (IntKind.i64.wrap (y1 + 1)) fun x3 : Int =>
(if (y9 != x3) = true then
(R (.returned (.bool false)) w)
else
(Let (IntKind.i64.wrap (y9 + 1)) fun x4 : Int =>
 nat_empty.l1 n y1 Y7 yn7 yc7 y8 x4 d0 d2 d3 d4 (.int .i64 y9) (.int .u8 x2) (.bool (decide (y9 < y8))) (.int .i64 y9) (.pointer (some (a1.add y9.toNat))) (.int .u8 x2) (.int .u8 x2) (.bool (x2 != 0)) (.bool true) (.int .i64 y9) (.int .i64 y1) (.bool (y9 != y1)) (.bool (y9 != y1)) (.bool true) (.int .i64 y9) (.int .i64 y1) (.int .i64 x3) (.bool (y9 != x3)) (.bool (y9 != x3)) (.int .i64 x4) w R)))
else
(Let (IntKind.i64.wrap (y9 + 1)) fun x5 : Int =>
 nat_empty.l1 n y1 Y7 yn7 yc7 y8 x5 d0 d2 d3 d4 (.int .i64 y9) (.int .u8 x2) (.bool (decide (y9 < y8))) (.int .i64 y9) (.pointer (some (a1.add y9.toNat))) (.int .u8 x2) (.int .u8 x2) (.bool (x2 != 0)) (.bool true) (.int .i64 y9) (.int .i64 y1) (.bool (y9 != y1)) (.bool (y9 != y1)) (.bool false) undef undef undef undef (.bool false) (.int .i64 x5) w R)))
else
(Let (IntKind.i64.wrap (y9 + 1)) fun x6 : Int =>
 nat_empty.l1 n y1 Y7 yn7 yc7 y8 x6 d0 d2 d3 d4 (.int .i64 y9) (.int .u8 x2) (.bool (decide (y9 < y8))) (.int .i64 y9) (.pointer (some (a1.add y9.toNat))) (.int .u8 x2) (.int .u8 x2) (.bool (x2 != 0)) (.bool false) undef undef undef (.bool false) (.bool false) undef undef undef undef (.bool false) (.int .i64 x6) w R)))))
else
(R (.returned (.bool true)) w))) := by kernel_rfl
def nat_empty.s (I0 : Option Addr) (in0 : Nat) (ic0 : Nat) (i1 : Int) (w : World) (R : Ending → World → Prop) : Prop :=
(∃ n1 : Nat, nat_empty.l1 n1 i1 I0 in0 ic0 (in0 : Int) 0 (.slice I0 in0 ic0) undef undef (.bool false) undef undef undef undef undef undef undef undef undef undef undef undef undef undef undef undef undef undef undef undef w R)
theorem nat_empty.s_eq (I0 : Option Addr) (in0 : Nat) (ic0 : Nat) (i1 : Int) (w : World) (R : Ending → World → Prop) : seg Tryd.prog entE nat_empty.ords nat_empty.joins Tryd.f69 [] [] [] ([.slice I0 in0 ic0, .int .i64 i1] ++ List.replicate (Tryd.f69.ntmps - ([.slice I0 in0 ic0, .int .i64 i1] : List Value).length) undef) w R = nat_empty.s I0 in0 ic0 i1 w R := by kernel_rfl
theorem nat_empty.run {I0 : Option Addr} {in0 : Nat} {ic0 : Nat} {i1 : Int} {w : World} {R : Ending → World → Prop} (h : nat_empty.s I0 in0 ic0 i1 w R) : Calls Tryd.prog 69 #[.slice I0 in0 ic0, .int .i64 i1] w R :=
  calls_seg ents mixed Tryd.func69 rfl (by rw [nat_empty.s_eq]; exact h)
/-! ### nat_cloned: function 38 -/
def nat_cloned.ords : Nat → Od
  | _ => .nil
def nat_cloned.joins (p : List Nat) : Bool := false
def nat_cloned.s (I0 : Option Addr) (in0 : Nat) (ic0 : Nat) (w : World) (R : Ending → World → Prop) : Prop :=
(AppE w 1 1 5 [.int .u8 0] none 0 0 I0 in0 (fun (A1 : Option Addr) (c2 : Nat) (w3 : World) =>
 R (.returned (.slice A1 (0 + in0) c2)) w3))
theorem nat_cloned.s_eq (I0 : Option Addr) (in0 : Nat) (ic0 : Nat) (w : World) (R : Ending → World → Prop) : seg Tryd.prog entE nat_cloned.ords nat_cloned.joins Tryd.f38 [] [] [] ([.slice I0 in0 ic0] ++ List.replicate (Tryd.f38.ntmps - ([.slice I0 in0 ic0] : List Value).length) undef) w R = nat_cloned.s I0 in0 ic0 w R := by kernel_rfl
theorem nat_cloned.run {I0 : Option Addr} {in0 : Nat} {ic0 : Nat} {w : World} {R : Ending → World → Prop} (h : nat_cloned.s I0 in0 ic0 w R) : Calls Tryd.prog 38 #[.slice I0 in0 ic0] w R :=
  calls_seg ents mixed Tryd.func38 rfl (by rw [nat_cloned.s_eq]; exact h)
/-! ### nat_Turn: function 20 -/
def nat_Turn.ords : Nat → Od
  | 7 => (.tk 0 (.tk 1 (.tk 2 (.tk 3 (.two 4 6 (.tk 5 (.on 6 (.on 7 .nil))) (.on 4 (.tk 5 (.on 7 .nil))))))))
  | 9 => (.tk 0 (.tk 1 (.tk 2 (.tk 3 (.tk 4 (.tk 5 (.on 6 (.tk 7 (.tk 8 (.on 9 .nil))))))))))
  | _ => .nil
def nat_Turn.joins (p : List Nat) : Bool := p == [1, 1, 1, 1] || p == [1, 1, 1, 1, 1] || p == [1, 1, 1, 1, 1, 1, 1, 1]
def nat_Turn.j1 (yg2 : Nat) (yg3 : Nat) (yg4 : Nat) (yg8 : Nat) (d0 d1 d5 d6 d7 d9 d10 d11 d12 d13 d14 d15 d16 d17 d18 d19 d20 d21 d22 d23 d24 d25 d26 d27 d28 d29 d30 d31 d32 d33 d34 d35 d36 d37 d38 d39 d40 d41 d42 d43 d44 d45 d46 d47 d48 d49 d50 d51 d52 d53 d54 d55 d56 d57 d58 d59 d60 d61 d62 d63 d64 d65 d66 d67 d68 d69 d70 d71 d72 d73 d74 d75 d76 d77 d78 : Value) (w : World) (R : Ending → World → Prop) : Prop :=
  seg Tryd.prog entE nat_Turn.ords nat_Turn.joins Tryd.f20 [1, 1, 1, 1] [1, 1, 1, 1] [] [d0, d1, .pointer (some ⟨yg2, 0, none⟩), .pointer (some ⟨yg3, 0, none⟩), .pointer (some ⟨yg4, 0, none⟩), d5, d6, d7, .pointer (some ⟨yg8, 0, none⟩), d9, d10, d11, d12, d13, d14, d15, d16, d17, d18, d19, d20, d21, d22, d23, d24, d25, d26, d27, d28, d29, d30, d31, d32, d33, d34, d35, d36, d37, d38, d39, d40, d41, d42, d43, d44, d45, d46, d47, d48, d49, d50, d51, d52, d53, d54, d55, d56, d57, d58, d59, d60, d61, d62, d63, d64, d65, d66, d67, d68, d69, d70, d71, d72, d73, d74, d75, d76, d77, d78] w R
def nat_Turn.j2 (yg2 : Nat) (yg3 : Nat) (yg4 : Nat) (yg8 : Nat) (yg10 : Nat) (d0 d1 d5 d6 d7 d9 d11 d12 d13 d14 d15 d16 d17 d18 d19 d20 d21 d22 d23 d24 d25 d26 d27 d28 d29 d30 d31 d32 d33 d34 d35 d36 d37 d38 d39 d40 d41 d42 d43 d44 d45 d46 d47 d48 d49 d50 d51 d52 d53 d54 d55 d56 d57 d58 d59 d60 d61 d62 d63 d64 d65 d66 d67 d68 d69 d70 d71 d72 d73 d74 d75 d76 d77 d78 : Value) (w : World) (R : Ending → World → Prop) : Prop :=
  seg Tryd.prog entE nat_Turn.ords nat_Turn.joins Tryd.f20 [1, 1, 1, 1, 1] [1, 1, 1, 1, 1] [] [d0, d1, .pointer (some ⟨yg2, 0, none⟩), .pointer (some ⟨yg3, 0, none⟩), .pointer (some ⟨yg4, 0, none⟩), d5, d6, d7, .pointer (some ⟨yg8, 0, none⟩), d9, .pointer (some ⟨yg10, 0, none⟩), d11, d12, d13, d14, d15, d16, d17, d18, d19, d20, d21, d22, d23, d24, d25, d26, d27, d28, d29, d30, d31, d32, d33, d34, d35, d36, d37, d38, d39, d40, d41, d42, d43, d44, d45, d46, d47, d48, d49, d50, d51, d52, d53, d54, d55, d56, d57, d58, d59, d60, d61, d62, d63, d64, d65, d66, d67, d68, d69, d70, d71, d72, d73, d74, d75, d76, d77, d78] w R
def nat_Turn.j3 (yg4 : Nat) (yg10 : Nat) (d0 d1 d2 d3 d5 d6 d7 d8 d9 d11 d12 d13 d14 d15 d16 d17 d18 d19 d20 d21 d22 d23 d24 d25 d26 d27 d28 d29 d30 d31 d32 d33 d34 d35 d36 d37 d38 d39 d40 d41 d42 d43 d44 d45 d46 d47 d48 d49 d50 d51 d52 d53 d54 d55 d56 d57 d58 d59 d60 d61 d62 d63 d64 d65 d66 d67 d68 d69 d70 d71 d72 d73 d74 d75 d76 d77 d78 : Value) (w : World) (R : Ending → World → Prop) : Prop :=
  seg Tryd.prog entE nat_Turn.ords nat_Turn.joins Tryd.f20 [1, 1, 1, 1, 1, 1, 1, 1] [1, 1, 1, 1, 1, 1, 1, 1] [] [d0, d1, d2, d3, .pointer (some ⟨yg4, 0, none⟩), d5, d6, d7, d8, d9, .pointer (some ⟨yg10, 0, none⟩), d11, d12, d13, d14, d15, d16, d17, d18, d19, d20, d21, d22, d23, d24, d25, d26, d27, d28, d29, d30, d31, d32, d33, d34, d35, d36, d37, d38, d39, d40, d41, d42, d43, d44, d45, d46, d47, d48, d49, d50, d51, d52, d53, d54, d55, d56, d57, d58, d59, d60, d61, d62, d63, d64, d65, d66, d67, d68, d69, d70, d71, d72, d73, d74, d75, d76, d77, d78] w R
abbrev nat_Turn.J1 (yg2 : Nat) (yg3 : Nat) (yg4 : Nat) (yg8 : Nat) (w : World) (R : Ending → World → Prop) : Prop := ∀ d0 d1 d5 d6 d7 d9 d10 d11 d12 d13 d14 d15 d16 d17 d18 d19 d20 d21 d22 d23 d24 d25 d26 d27 d28 d29 d30 d31 d32 d33 d34 d35 d36 d37 d38 d39 d40 d41 d42 d43 d44 d45 d46 d47 d48 d49 d50 d51 d52 d53 d54 d55 d56 d57 d58 d59 d60 d61 d62 d63 d64 d65 d66 d67 d68 d69 d70 d71 d72 d73 d74 d75 d76 d77 d78 : Value, nat_Turn.j1 yg2 yg3 yg4 yg8 d0 d1 d5 d6 d7 d9 d10 d11 d12 d13 d14 d15 d16 d17 d18 d19 d20 d21 d22 d23 d24 d25 d26 d27 d28 d29 d30 d31 d32 d33 d34 d35 d36 d37 d38 d39 d40 d41 d42 d43 d44 d45 d46 d47 d48 d49 d50 d51 d52 d53 d54 d55 d56 d57 d58 d59 d60 d61 d62 d63 d64 d65 d66 d67 d68 d69 d70 d71 d72 d73 d74 d75 d76 d77 d78 w R
abbrev nat_Turn.J2 (yg2 : Nat) (yg3 : Nat) (yg4 : Nat) (yg8 : Nat) (yg10 : Nat) (w : World) (R : Ending → World → Prop) : Prop := ∀ d0 d1 d5 d6 d7 d9 d11 d12 d13 d14 d15 d16 d17 d18 d19 d20 d21 d22 d23 d24 d25 d26 d27 d28 d29 d30 d31 d32 d33 d34 d35 d36 d37 d38 d39 d40 d41 d42 d43 d44 d45 d46 d47 d48 d49 d50 d51 d52 d53 d54 d55 d56 d57 d58 d59 d60 d61 d62 d63 d64 d65 d66 d67 d68 d69 d70 d71 d72 d73 d74 d75 d76 d77 d78 : Value, nat_Turn.j2 yg2 yg3 yg4 yg8 yg10 d0 d1 d5 d6 d7 d9 d11 d12 d13 d14 d15 d16 d17 d18 d19 d20 d21 d22 d23 d24 d25 d26 d27 d28 d29 d30 d31 d32 d33 d34 d35 d36 d37 d38 d39 d40 d41 d42 d43 d44 d45 d46 d47 d48 d49 d50 d51 d52 d53 d54 d55 d56 d57 d58 d59 d60 d61 d62 d63 d64 d65 d66 d67 d68 d69 d70 d71 d72 d73 d74 d75 d76 d77 d78 w R
abbrev nat_Turn.J3 (yg4 : Nat) (yg10 : Nat) (w : World) (R : Ending → World → Prop) : Prop := ∀ d0 d1 d2 d3 d5 d6 d7 d8 d9 d11 d12 d13 d14 d15 d16 d17 d18 d19 d20 d21 d22 d23 d24 d25 d26 d27 d28 d29 d30 d31 d32 d33 d34 d35 d36 d37 d38 d39 d40 d41 d42 d43 d44 d45 d46 d47 d48 d49 d50 d51 d52 d53 d54 d55 d56 d57 d58 d59 d60 d61 d62 d63 d64 d65 d66 d67 d68 d69 d70 d71 d72 d73 d74 d75 d76 d77 d78 : Value, nat_Turn.j3 yg4 yg10 d0 d1 d2 d3 d5 d6 d7 d8 d9 d11 d12 d13 d14 d15 d16 d17 d18 d19 d20 d21 d22 d23 d24 d25 d26 d27 d28 d29 d30 d31 d32 d33 d34 d35 d36 d37 d38 d39 d40 d41 d42 d43 d44 d45 d46 d47 d48 d49 d50 d51 d52 d53 d54 d55 d56 d57 d58 d59 d60 d61 d62 d63 d64 d65 d66 d67 d68 d69 d70 d71 d72 d73 d74 d75 d76 d77 d78 w R
theorem nat_Turn.j1_eq (yg2 : Nat) (yg3 : Nat) (yg4 : Nat) (yg8 : Nat) (d0 d1 d5 d6 d7 d9 d10 d11 d12 d13 d14 d15 d16 d17 d18 d19 d20 d21 d22 d23 d24 d25 d26 d27 d28 d29 d30 d31 d32 d33 d34 d35 d36 d37 d38 d39 d40 d41 d42 d43 d44 d45 d46 d47 d48 d49 d50 d51 d52 d53 d54 d55 d56 d57 d58 d59 d60 d61 d62 d63 d64 d65 d66 d67 d68 d69 d70 d71 d72 d73 d74 d75 d76 d77 d78 : Value) (w : World) (R : Ending → World → Prop) : nat_Turn.j1 yg2 yg3 yg4 yg8 d0 d1 d5 d6 d7 d9 d10 d11 d12 d13 d14 d15 d16 d17 d18 d19 d20 d21 d22 d23 d24 d25 d26 d27 d28 d29 d30 d31 d32 d33 d34 d35 d36 d37 d38 d39 d40 d41 d42 d43 d44 d45 d46 d47 d48 d49 d50 d51 d52 d53 d54 d55 d56 d57 d58 d59 d60 d61 d62 d63 d64 d65 d66 d67 d68 d69 d70 d71 d72 d73 d74 d75 d76 d77 d78 w R =
(∃ S1 : World → Prop, S1 w.drew ∧
(Let (w.drew) fun w2 : World =>
 ∃ x3 : Int, ∃ x4 : Int, ∃ b5 : Bool, ∃ b6 : Bool, ∃ x7 : Int, ∃ x8 : Int, ∃ x9 : Int, ∃ x10 : Int, ∃ x11 : Int, ∃ (A12 : Option Addr) (n12_ c12_ : Nat), (10 = 10 ∧ (∀ w', S1 w' → At w' ⟨yg2, 0, none⟩ [.int .u8 x3, .int .u16 x4, .bool b5, .bool b6, .int .i64 x7, .int .u8 x8, .int .u8 x9, .int .u32 x10, .int .u32 x11, .slice A12 n12_ c12_])) ∧
(∃ (A13 : Option Addr) (n13_ c13_ : Nat), (∀ w', S1 w' → w'.cell? ⟨yg2, 10, none⟩ = some (.slice A13 n13_ c13_)) ∧
((Calls Tryd.prog 38 #[.slice A13 n13_ c13_] w2 (fun (e15 : Ending) (w14 : World) =>
 ∃ (A16 : Option Addr) (n16_ c16_ : Nat), e15 = .returned (.slice A16 n16_ c16_) ∧
(S1 w14 ∧
(Let (w14.heap.size) fun g17 : Nat =>
 Let (w14.alloc (.cells #[.int .u8 0, .int .u16 0, .bool false, .bool false, .int .i64 0, .int .u8 0, .int .u8 0, .int .u32 0, .int .u32 0, .slice none 0 0, .slice none 0 0] 45)) fun w18 : World =>
 S1 w18 ∧
(May w18 ⟨g17, 0, none⟩ 11 ∧
(Let (putCells w18 ⟨g17, 0, none⟩ [.int .u8 x3, .int .u16 x4, .bool b5, .bool b6, .int .i64 x7, .int .u8 x8, .int .u8 x9, .int .u32 x10, .int .u32 x11, .slice A12 n12_ c12_, .slice A16 n16_ c16_] 0) fun w19 : World =>
 S1 w19 ∧
(Leaf (nat_Turn.j2 yg2 yg3 yg4 yg8 g17 d0 d1 d5 d6 d7 d9 d11 d12 d13 d14 d15 d16 d17 d18 d19 d20 d21 d22 d23 d24 d25 d26 d27 d28 d29 d30 d31 d32 d33 d34 d35 d36 d37 d38 d39 d40 d41 d42 d43 d44 d45 d46 d47 (.pointer (some ⟨yg2, 0, none⟩)) (.agg #[.int .u8 x3, .int .u16 x4, .bool b5, .bool b6, .int .i64 x7, .int .u8 x8, .int .u8 x9, .int .u32 x10, .int .u32 x11, .slice A12 n12_ c12_]) (.pointer (some ⟨yg2, 10, none⟩)) (.slice A13 n13_ c13_) (.slice A16 n16_ c16_) (.agg #[.int .u8 x3, .int .u16 x4, .bool b5, .bool b6, .int .i64 x7, .int .u8 x8, .int .u8 x9, .int .u32 x10, .int .u32 x11, .slice A12 n12_ c12_, .slice A16 n16_ c16_]) d54 d55 d56 d57 d58 d59 d60 d61 d62 d63 d64 d65 d66 d67 d68 d69 d70 d71 d72 d73 d74 d75 d76 d77 d78 w19 R)))))))) ∧
(Let (w2.heap.size) fun g20 : Nat =>
 Let (w2.alloc (.cells #[.int .u8 0, .int .u16 0, .bool false, .bool false, .int .i64 0, .int .u8 0, .int .u8 0, .int .u32 0, .int .u32 0, .slice none 0 0, .slice none 0 0] 45)) fun w21 : World =>
 S1 w21 ∧
(Calls Tryd.prog 38 #[.slice A13 n13_ c13_] w21 (fun (e23 : Ending) (w22 : World) =>
 ∃ (A24 : Option Addr) (n24_ c24_ : Nat), e23 = .returned (.slice A24 n24_ c24_) ∧
(S1 w22 ∧
(May w22 ⟨g20, 0, none⟩ 11 ∧
(Let (putCells w22 ⟨g20, 0, none⟩ [.int .u8 x3, .int .u16 x4, .bool b5, .bool b6, .int .i64 x7, .int .u8 x8, .int .u8 x9, .int .u32 x10, .int .u32 x11, .slice A12 n12_ c12_, .slice A24 n24_ c24_] 0) fun w25 : World =>
 S1 w25 ∧
(Leaf (nat_Turn.j2 yg2 yg3 yg4 yg8 g20 d0 d1 d5 d6 d7 d9 d11 d12 d13 d14 d15 d16 d17 d18 d19 d20 d21 d22 d23 d24 d25 d26 d27 d28 d29 d30 d31 d32 d33 d34 d35 d36 d37 d38 d39 d40 d41 d42 d43 d44 d45 d46 d47 (.pointer (some ⟨yg2, 0, none⟩)) (.agg #[.int .u8 x3, .int .u16 x4, .bool b5, .bool b6, .int .i64 x7, .int .u8 x8, .int .u8 x9, .int .u32 x10, .int .u32 x11, .slice A12 n12_ c12_]) (.pointer (some ⟨yg2, 10, none⟩)) (.slice A13 n13_ c13_) (.slice A24 n24_ c24_) (.agg #[.int .u8 x3, .int .u16 x4, .bool b5, .bool b6, .int .i64 x7, .int .u8 x8, .int .u8 x9, .int .u32 x10, .int .u32 x11, .slice A12 n12_ c12_, .slice A24 n24_ c24_]) d54 d55 d56 d57 d58 d59 d60 d61 d62 d63 d64 d65 d66 d67 d68 d69 d70 d71 d72 d73 d74 d75 d76 d77 d78 w25 R)))))))))))) := by kernel_rfl
theorem nat_Turn.j2_eq (yg2 : Nat) (yg3 : Nat) (yg4 : Nat) (yg8 : Nat) (yg10 : Nat) (d0 d1 d5 d6 d7 d9 d11 d12 d13 d14 d15 d16 d17 d18 d19 d20 d21 d22 d23 d24 d25 d26 d27 d28 d29 d30 d31 d32 d33 d34 d35 d36 d37 d38 d39 d40 d41 d42 d43 d44 d45 d46 d47 d48 d49 d50 d51 d52 d53 d54 d55 d56 d57 d58 d59 d60 d61 d62 d63 d64 d65 d66 d67 d68 d69 d70 d71 d72 d73 d74 d75 d76 d77 d78 : Value) (w : World) (R : Ending → World → Prop) : nat_Turn.j2 yg2 yg3 yg4 yg8 yg10 d0 d1 d5 d6 d7 d9 d11 d12 d13 d14 d15 d16 d17 d18 d19 d20 d21 d22 d23 d24 d25 d26 d27 d28 d29 d30 d31 d32 d33 d34 d35 d36 d37 d38 d39 d40 d41 d42 d43 d44 d45 d46 d47 d48 d49 d50 d51 d52 d53 d54 d55 d56 d57 d58 d59 d60 d61 d62 d63 d64 d65 d66 d67 d68 d69 d70 d71 d72 d73 d74 d75 d76 d77 d78 w R =
(∃ (A1 : Option Addr) (n1_ c1_ : Nat), w.cell? ⟨yg2, 9, none⟩ = some (.slice A1 n1_ c1_) ∧
(Calls Tryd.prog 38 #[.slice A1 n1_ c1_] w (fun (e3 : Ending) (w2 : World) =>
 ∃ (A4 : Option Addr) (n4_ c4_ : Nat), e3 = .returned (.slice A4 n4_ c4_) ∧
(MayC w2 ⟨yg10, 9, none⟩ ∧
(Let (w2.setCell ⟨yg10, 9, none⟩ (.slice A4 n4_ c4_)) fun w5 : World =>
 ∃ S6 : World → Prop, S6 w5.drew ∧
(Let (w5.drew) fun w7 : World =>
 ∃ x8 : Int, (∀ w', S6 w' → w'.cell? ⟨yg3, 0, none⟩ = some (.int .u32 x8)) ∧
(∃ x9 : Int, (∀ w', S6 w' → w'.cell? ⟨yg3, 1, none⟩ = some (.int .u32 x9)) ∧
(MayC w7 ⟨yg10, 7, none⟩ ∧
(Let (w7.setCell ⟨yg10, 7, none⟩ (.int .u32 x8)) fun w10 : World =>
 S6 w10 ∧
(MayC w10 ⟨yg10, 8, none⟩ ∧
(Let (w10.setCell ⟨yg10, 8, none⟩ (.int .u32 x9)) fun w11 : World =>
 S6 w11 ∧
(∃ x12 : Int, ∃ x13 : Int, ∃ x14 : Int, ∃ x15 : Int, ∃ x16 : Int, (5 = 5 ∧ At w11 ⟨yg8, 0, none⟩ [.int .u32 x12, .int .u32 x13, .int .u8 x14, .int .u16 x15, .int .u16 x16]) ∧
(∃ x17 : Int, ∃ x18 : Int, ∃ x19 : Int, ∃ x20 : Int, ∃ x21 : Int, (5 = 5 ∧ At w11 ⟨yg3, 0, none⟩ [.int .u32 x17, .int .u32 x18, .int .u8 x19, .int .u16 x20, .int .u16 x21]) ∧
((if (!(eqV [.int .u32 x12, .int .u32 x13, .int .u8 x14, .int .u16 x15, .int .u16 x16] [.int .u32 x17, .int .u32 x18, .int .u8 x19, .int .u16 x20, .int .u16 x21])) = true then
(∃ (A22 : Option Addr) (n22_ c22_ : Nat), w11.cell? ⟨yg10, 10, none⟩ = some (.slice A22 n22_ c22_) ∧
(∃ x23 : Int, w11.cell? ⟨yg3, 2, none⟩ = some (.int .u8 x23) ∧
(∃ x24 : Int, ∃ x25 : Int, ∃ x26 : Int, ∃ x27 : Int, ∃ x28 : Int, (5 = 5 ∧ At w11 ⟨yg8, 0, none⟩ [.int .u32 x24, .int .u32 x25, .int .u8 x26, .int .u16 x27, .int .u16 x28]) ∧
(∃ x29 : Int, ∃ x30 : Int, ∃ x31 : Int, ∃ x32 : Int, ∃ x33 : Int, (5 = 5 ∧ At w11 ⟨yg3, 0, none⟩ [.int .u32 x29, .int .u32 x30, .int .u8 x31, .int .u16 x32, .int .u16 x33]) ∧
(Calls Tryd.prog 39 #[.slice A22 n22_ c22_, .int .u8 x23, .agg #[.int .u32 x24, .int .u32 x25, .int .u8 x26, .int .u16 x27, .int .u16 x28], .agg #[.int .u32 x29, .int .u32 x30, .int .u8 x31, .int .u16 x32, .int .u16 x33], .bool true] w11 (fun (e35 : Ending) (w34 : World) =>
 e35 = .returned (.tuple #[]) ∧
(Leaf (nat_Turn.j3 yg4 yg10 d0 d1 (.pointer (some ⟨yg2, 0, none⟩)) (.pointer (some ⟨yg3, 0, none⟩)) d5 d6 d7 (.pointer (some ⟨yg8, 0, none⟩)) d9 d11 d12 d13 d14 d15 d16 d17 d18 d19 d20 d21 d22 d23 d24 d25 d26 d27 d28 d29 d30 d31 d32 d33 d34 d35 d36 d37 d38 d39 d40 d41 d42 d43 d44 d45 d46 d47 d48 d49 d50 d51 d52 d53 (.pointer (some ⟨yg2, 0, none⟩)) (.pointer (some ⟨yg2, 9, none⟩)) (.slice A1 n1_ c1_) (.slice A4 n4_ c4_) (.pointer (some ⟨yg10, 0, none⟩)) (.pointer (some ⟨yg10, 9, none⟩)) (.pointer (some ⟨yg3, 0, none⟩)) (.int .u32 x8) (.pointer (some ⟨yg3, 1, none⟩)) (.int .u32 x9) (.pointer (some ⟨yg10, 0, none⟩)) (.pointer (some ⟨yg10, 7, none⟩)) (.pointer (some ⟨yg10, 0, none⟩)) (.pointer (some ⟨yg10, 8, none⟩)) (.agg #[.int .u32 x12, .int .u32 x13, .int .u8 x14, .int .u16 x15, .int .u16 x16]) (.agg #[.int .u32 x17, .int .u32 x18, .int .u8 x19, .int .u16 x20, .int .u16 x21]) (.bool (!(eqV [.int .u32 x12, .int .u32 x13, .int .u8 x14, .int .u16 x15, .int .u16 x16] [.int .u32 x17, .int .u32 x18, .int .u8 x19, .int .u16 x20, .int .u16 x21]))) (.pointer (some ⟨yg10, 10, none⟩)) (.slice A22 n22_ c22_) (.pointer (some ⟨yg3, 2, none⟩)) (.int .u8 x23) (.agg #[.int .u32 x24, .int .u32 x25, .int .u8 x26, .int .u16 x27, .int .u16 x28]) (.agg #[.int .u32 x29, .int .u32 x30, .int .u8 x31, .int .u16 x32, .int .u16 x33]) (.tuple #[]) d78 w34 R))))))))
else
(Leaf (nat_Turn.j3 yg4 yg10 d0 d1 (.pointer (some ⟨yg2, 0, none⟩)) (.pointer (some ⟨yg3, 0, none⟩)) d5 d6 d7 (.pointer (some ⟨yg8, 0, none⟩)) d9 d11 d12 d13 d14 d15 d16 d17 d18 d19 d20 d21 d22 d23 d24 d25 d26 d27 d28 d29 d30 d31 d32 d33 d34 d35 d36 d37 d38 d39 d40 d41 d42 d43 d44 d45 d46 d47 d48 d49 d50 d51 d52 d53 (.pointer (some ⟨yg2, 0, none⟩)) (.pointer (some ⟨yg2, 9, none⟩)) (.slice A1 n1_ c1_) (.slice A4 n4_ c4_) (.pointer (some ⟨yg10, 0, none⟩)) (.pointer (some ⟨yg10, 9, none⟩)) (.pointer (some ⟨yg3, 0, none⟩)) (.int .u32 x8) (.pointer (some ⟨yg3, 1, none⟩)) (.int .u32 x9) (.pointer (some ⟨yg10, 0, none⟩)) (.pointer (some ⟨yg10, 7, none⟩)) (.pointer (some ⟨yg10, 0, none⟩)) (.pointer (some ⟨yg10, 8, none⟩)) (.agg #[.int .u32 x12, .int .u32 x13, .int .u8 x14, .int .u16 x15, .int .u16 x16]) (.agg #[.int .u32 x17, .int .u32 x18, .int .u8 x19, .int .u16 x20, .int .u16 x21]) (.bool (!(eqV [.int .u32 x12, .int .u32 x13, .int .u8 x14, .int .u16 x15, .int .u16 x16] [.int .u32 x17, .int .u32 x18, .int .u8 x19, .int .u16 x20, .int .u16 x21]))) d71 d72 d73 d74 d75 d76 d77 d78 w11 R))))))))))))))))) := by kernel_rfl
theorem nat_Turn.j3_eq (yg4 : Nat) (yg10 : Nat) (d0 d1 d2 d3 d5 d6 d7 d8 d9 d11 d12 d13 d14 d15 d16 d17 d18 d19 d20 d21 d22 d23 d24 d25 d26 d27 d28 d29 d30 d31 d32 d33 d34 d35 d36 d37 d38 d39 d40 d41 d42 d43 d44 d45 d46 d47 d48 d49 d50 d51 d52 d53 d54 d55 d56 d57 d58 d59 d60 d61 d62 d63 d64 d65 d66 d67 d68 d69 d70 d71 d72 d73 d74 d75 d76 d77 d78 : Value) (w : World) (R : Ending → World → Prop) : nat_Turn.j3 yg4 yg10 d0 d1 d2 d3 d5 d6 d7 d8 d9 d11 d12 d13 d14 d15 d16 d17 d18 d19 d20 d21 d22 d23 d24 d25 d26 d27 d28 d29 d30 d31 d32 d33 d34 d35 d36 d37 d38 d39 d40 d41 d42 d43 d44 d45 d46 d47 d48 d49 d50 d51 d52 d53 d54 d55 d56 d57 d58 d59 d60 d61 d62 d63 d64 d65 d66 d67 d68 d69 d70 d71 d72 d73 d74 d75 d76 d77 d78 w R =
(∃ x1 : Int, ∃ x2 : Int, ∃ b3 : Bool, ∃ b4 : Bool, ∃ x5 : Int, ∃ x6 : Int, ∃ x7 : Int, ∃ x8 : Int, ∃ x9 : Int, ∃ (A10 : Option Addr) (n10_ c10_ : Nat), ∃ (A11 : Option Addr) (n11_ c11_ : Nat), (11 = 11 ∧ At w ⟨yg10, 0, none⟩ [.int .u8 x1, .int .u16 x2, .bool b3, .bool b4, .int .i64 x5, .int .u8 x6, .int .u8 x7, .int .u32 x8, .int .u32 x9, .slice A10 n10_ c10_, .slice A11 n11_ c11_]) ∧
(May w ⟨yg4, 0, none⟩ 11 ∧
(Let (putCells w ⟨yg4, 0, none⟩ [.int .u8 x1, .int .u16 x2, .bool b3, .bool b4, .int .i64 x5, .int .u8 x6, .int .u8 x7, .int .u32 x8, .int .u32 x9, .slice A10 n10_ c10_, .slice A11 n11_ c11_] 0) fun w12 : World =>
 ∃ x13 : Int, ∃ x14 : Int, ∃ b15 : Bool, ∃ b16 : Bool, ∃ x17 : Int, ∃ x18 : Int, ∃ x19 : Int, ∃ x20 : Int, ∃ x21 : Int, ∃ (A22 : Option Addr) (n22_ c22_ : Nat), ∃ (A23 : Option Addr) (n23_ c23_ : Nat), (11 = 11 ∧ At w12 ⟨yg4, 0, none⟩ [.int .u8 x13, .int .u16 x14, .bool b15, .bool b16, .int .i64 x17, .int .u8 x18, .int .u8 x19, .int .u32 x20, .int .u32 x21, .slice A22 n22_ c22_, .slice A23 n23_ c23_]) ∧
(R (.returned (.tuple #[.agg #[.int .u8 x13, .int .u16 x14, .bool b15, .bool b16, .int .i64 x17, .int .u8 x18, .int .u8 x19, .int .u32 x20, .int .u32 x21, .slice A22 n22_ c22_, .slice A23 n23_ c23_], .int .i64 0])) w12)))) := by kernel_rfl
def nat_Turn.s (i0_0 : Int) (i0_1 : Int) (i0_2 : Bool) (i0_3 : Bool) (i0_4 : Int) (i0_5 : Int) (i0_6 : Int) (i0_7 : Int) (i0_8 : Int) (I0_9 : Option Addr) (in0_9 : Nat) (ic0_9 : Nat) (I0_10 : Option Addr) (in0_10 : Nat) (ic0_10 : Nat) (i1_0 : Int) (i1_1 : Int) (i1_2 : Int) (i1_3 : Int) (i1_4 : Int) (w : World) (R : Ending → World → Prop) : Prop :=
(Let (w.heap.size) fun g1 : Nat =>
 Let (w.alloc (.cells #[.int .u8 i0_0, .int .u16 i0_1, .bool i0_2, .bool i0_3, .int .i64 i0_4, .int .u8 i0_5, .int .u8 i0_6, .int .u32 i0_7, .int .u32 i0_8, .slice I0_9 in0_9 ic0_9, .slice I0_10 in0_10 ic0_10] 45)) fun w2 : World =>
 Let (w2.heap.size) fun g3 : Nat =>
 Let (w2.alloc (.cells #[.int .u32 i1_0, .int .u32 i1_1, .int .u8 i1_2, .int .u16 i1_3, .int .u16 i1_4] 32)) fun w4 : World =>
 Let (w4.heap.size) fun g5 : Nat =>
 Let (w4.alloc (.cells #[.int .u8 0, .int .u16 0, .bool false, .bool false, .int .i64 0, .int .u8 0, .int .u8 0, .int .u32 0, .int .u32 0, .slice none 0 0, .slice none 0 0] 45)) fun w6 : World =>
 ∃ x7 : Int, ∃ x8 : Int, ∃ b9 : Bool, ∃ b10 : Bool, ∃ x11 : Int, ∃ x12 : Int, ∃ x13 : Int, ∃ x14 : Int, ∃ x15 : Int, ∃ (A16 : Option Addr) (n16_ c16_ : Nat), ∃ (A17 : Option Addr) (n17_ c17_ : Nat), (11 = 11 ∧ At w6 ⟨g1, 0, none⟩ [.int .u8 x7, .int .u16 x8, .bool b9, .bool b10, .int .i64 x11, .int .u8 x12, .int .u8 x13, .int .u32 x14, .int .u32 x15, .slice A16 n16_ c16_, .slice A17 n17_ c17_]) ∧
(Calls Tryd.prog 29 #[.agg #[.int .u8 x7, .int .u16 x8, .bool b9, .bool b10, .int .i64 x11, .int .u8 x12, .int .u8 x13, .int .u32 x14, .int .u32 x15, .slice A16 n16_ c16_, .slice A17 n17_ c17_]] w6 (fun (e19 : Ending) (w18 : World) =>
 ∃ (A20 : Option Addr) (n20_ c20_ : Nat), ∃ x21 : Int, e19 = .returned (.tuple #[.slice A20 n20_ c20_, .int .i64 x21]) ∧
((if (x21 != 0) = true then
(May w18 ⟨g5, 0, none⟩ 11 ∧
(Let (putCells w18 ⟨g5, 0, none⟩ [.int .u8 0, .int .u16 0, .bool false, .bool false, .int .i64 0, .int .u8 0, .int .u8 0, .int .u32 0, .int .u32 0, .slice none 0 0, .slice none 0 0] 0) fun w22 : World =>
 ∃ x23 : Int, ∃ x24 : Int, ∃ b25 : Bool, ∃ b26 : Bool, ∃ x27 : Int, ∃ x28 : Int, ∃ x29 : Int, ∃ x30 : Int, ∃ x31 : Int, ∃ (A32 : Option Addr) (n32_ c32_ : Nat), ∃ (A33 : Option Addr) (n33_ c33_ : Nat), (11 = 11 ∧ At w22 ⟨g5, 0, none⟩ [.int .u8 x23, .int .u16 x24, .bool b25, .bool b26, .int .i64 x27, .int .u8 x28, .int .u8 x29, .int .u32 x30, .int .u32 x31, .slice A32 n32_ c32_, .slice A33 n33_ c33_]) ∧
(R (.returned (.tuple #[.agg #[.int .u8 x23, .int .u16 x24, .bool b25, .bool b26, .int .i64 x27, .int .u8 x28, .int .u8 x29, .int .u32 x30, .int .u32 x31, .slice A32 n32_ c32_, .slice A33 n33_ c33_], .int .i64 x21])) w22)))
else
(∃ x34 : Int, ∃ x35 : Int, ∃ b36 : Bool, ∃ b37 : Bool, ∃ x38 : Int, ∃ x39 : Int, ∃ x40 : Int, ∃ x41 : Int, ∃ x42 : Int, ∃ (A43 : Option Addr) (n43_ c43_ : Nat), ∃ (A44 : Option Addr) (n44_ c44_ : Nat), (11 = 11 ∧ At w18 ⟨g1, 0, none⟩ [.int .u8 x34, .int .u16 x35, .bool b36, .bool b37, .int .i64 x38, .int .u8 x39, .int .u8 x40, .int .u32 x41, .int .u32 x42, .slice A43 n43_ c43_, .slice A44 n44_ c44_]) ∧
(Calls Tryd.prog 28 #[.agg #[.int .u8 x34, .int .u16 x35, .bool b36, .bool b37, .int .i64 x38, .int .u8 x39, .int .u8 x40, .int .u32 x41, .int .u32 x42, .slice A43 n43_ c43_, .slice A44 n44_ c44_]] w18 (fun (e46 : Ending) (w45 : World) =>
 ∃ x47 : Int, ∃ x48 : Int, ∃ x49 : Int, ∃ x50 : Int, ∃ x51 : Int, ∃ x52 : Int, e46 = .returned (.tuple #[.agg #[.int .u32 x47, .int .u32 x48, .int .u8 x49, .int .u16 x50, .int .u16 x51], .int .i64 x52]) ∧
(Let (w45.heap.size) fun g53 : Nat =>
 Let (w45.alloc (.cells #[.int .u32 0, .int .u32 0, .int .u8 0, .int .u16 0, .int .u16 0] 32)) fun w54 : World =>
 May w54 ⟨g53, 0, none⟩ 5 ∧
(Let (putCells w54 ⟨g53, 0, none⟩ [.int .u32 x47, .int .u32 x48, .int .u8 x49, .int .u16 x50, .int .u16 x51] 0) fun w55 : World =>
(if (x52 != 0) = true then
(May w55 ⟨g5, 0, none⟩ 11 ∧
(Let (putCells w55 ⟨g5, 0, none⟩ [.int .u8 0, .int .u16 0, .bool false, .bool false, .int .i64 0, .int .u8 0, .int .u8 0, .int .u32 0, .int .u32 0, .slice none 0 0, .slice none 0 0] 0) fun w56 : World =>
 ∃ x57 : Int, ∃ x58 : Int, ∃ b59 : Bool, ∃ b60 : Bool, ∃ x61 : Int, ∃ x62 : Int, ∃ x63 : Int, ∃ x64 : Int, ∃ x65 : Int, ∃ (A66 : Option Addr) (n66_ c66_ : Nat), ∃ (A67 : Option Addr) (n67_ c67_ : Nat), (11 = 11 ∧ At w56 ⟨g5, 0, none⟩ [.int .u8 x57, .int .u16 x58, .bool b59, .bool b60, .int .i64 x61, .int .u8 x62, .int .u8 x63, .int .u32 x64, .int .u32 x65, .slice A66 n66_ c66_, .slice A67 n67_ c67_]) ∧
(R (.returned (.tuple #[.agg #[.int .u8 x57, .int .u16 x58, .bool b59, .bool b60, .int .i64 x61, .int .u8 x62, .int .u8 x63, .int .u32 x64, .int .u32 x65, .slice A66 n66_ c66_, .slice A67 n67_ c67_], .int .i64 230])) w56)))
else
(∃ x68 : Int, w55.cell? ⟨g3, 2, none⟩ = some (.int .u8 x68) ∧
(∃ x69 : Int, w55.cell? ⟨g1, 6, none⟩ = some (.int .u8 x69) ∧
((if (x68 != x69) = true then
(May w55 ⟨g5, 0, none⟩ 11 ∧
(Let (putCells w55 ⟨g5, 0, none⟩ [.int .u8 0, .int .u16 0, .bool false, .bool false, .int .i64 0, .int .u8 0, .int .u8 0, .int .u32 0, .int .u32 0, .slice none 0 0, .slice none 0 0] 0) fun w70 : World =>
 ∃ x71 : Int, ∃ x72 : Int, ∃ b73 : Bool, ∃ b74 : Bool, ∃ x75 : Int, ∃ x76 : Int, ∃ x77 : Int, ∃ x78 : Int, ∃ x79 : Int, ∃ (A80 : Option Addr) (n80_ c80_ : Nat), ∃ (A81 : Option Addr) (n81_ c81_ : Nat), (11 = 11 ∧ At w70 ⟨g5, 0, none⟩ [.int .u8 x71, .int .u16 x72, .bool b73, .bool b74, .int .i64 x75, .int .u8 x76, .int .u8 x77, .int .u32 x78, .int .u32 x79, .slice A80 n80_ c80_, .slice A81 n81_ c81_]) ∧
(R (.returned (.tuple #[.agg #[.int .u8 x71, .int .u16 x72, .bool b73, .bool b74, .int .i64 x75, .int .u8 x76, .int .u8 x77, .int .u32 x78, .int .u32 x79, .slice A80 n80_ c80_, .slice A81 n81_ c81_], .int .i64 230])) w70)))
else
(∃ x82 : Int, w55.cell? ⟨g3, 2, none⟩ = some (.int .u8 x82) ∧
((if (x82 == 1) = true then
(∃ x83 : Int, w55.cell? ⟨g3, 3, none⟩ = some (.int .u16 x83) ∧
(∃ x84 : Int, w55.cell? ⟨g3, 4, none⟩ = some (.int .u16 x84) ∧
((if (x83 != x84) = true then
(May w55 ⟨g5, 0, none⟩ 11 ∧
(Let (putCells w55 ⟨g5, 0, none⟩ [.int .u8 0, .int .u16 0, .bool false, .bool false, .int .i64 0, .int .u8 0, .int .u8 0, .int .u32 0, .int .u32 0, .slice none 0 0, .slice none 0 0] 0) fun w85 : World =>
 ∃ x86 : Int, ∃ x87 : Int, ∃ b88 : Bool, ∃ b89 : Bool, ∃ x90 : Int, ∃ x91 : Int, ∃ x92 : Int, ∃ x93 : Int, ∃ x94 : Int, ∃ (A95 : Option Addr) (n95_ c95_ : Nat), ∃ (A96 : Option Addr) (n96_ c96_ : Nat), (11 = 11 ∧ At w85 ⟨g5, 0, none⟩ [.int .u8 x86, .int .u16 x87, .bool b88, .bool b89, .int .i64 x90, .int .u8 x91, .int .u8 x92, .int .u32 x93, .int .u32 x94, .slice A95 n95_ c95_, .slice A96 n96_ c96_]) ∧
(R (.returned (.tuple #[.agg #[.int .u8 x86, .int .u16 x87, .bool b88, .bool b89, .int .i64 x90, .int .u8 x91, .int .u8 x92, .int .u32 x93, .int .u32 x94, .slice A95 n95_ c95_, .slice A96 n96_ c96_], .int .i64 230])) w85)))
else
(Leaf (nat_Turn.j1 g1 g3 g5 g53 (.agg #[.int .u8 i0_0, .int .u16 i0_1, .bool i0_2, .bool i0_3, .int .i64 i0_4, .int .u8 i0_5, .int .u8 i0_6, .int .u32 i0_7, .int .u32 i0_8, .slice I0_9 in0_9 ic0_9, .slice I0_10 in0_10 ic0_10]) (.agg #[.int .u32 i1_0, .int .u32 i1_1, .int .u8 i1_2, .int .u16 i1_3, .int .u16 i1_4]) (.int .i64 0) (.slice A20 n20_ c20_) (.int .i64 x21) (.int .i64 x52) undef (.tuple #[.slice A20 n20_ c20_, .int .i64 x21]) (.agg #[.int .u8 x7, .int .u16 x8, .bool b9, .bool b10, .int .i64 x11, .int .u8 x12, .int .u8 x13, .int .u32 x14, .int .u32 x15, .slice A16 n16_ c16_, .slice A17 n17_ c17_]) (.tuple #[.slice A20 n20_ c20_, .int .i64 x21]) (.slice A20 n20_ c20_) (.int .i64 x21) (.int .i64 x21) (.bool (x21 != 0)) undef undef (.tuple #[.agg #[.int .u32 x47, .int .u32 x48, .int .u8 x49, .int .u16 x50, .int .u16 x51], .int .i64 x52]) (.agg #[.int .u8 x34, .int .u16 x35, .bool b36, .bool b37, .int .i64 x38, .int .u8 x39, .int .u8 x40, .int .u32 x41, .int .u32 x42, .slice A43 n43_ c43_, .slice A44 n44_ c44_]) (.tuple #[.agg #[.int .u32 x47, .int .u32 x48, .int .u8 x49, .int .u16 x50, .int .u16 x51], .int .i64 x52]) (.agg #[.int .u32 x47, .int .u32 x48, .int .u8 x49, .int .u16 x50, .int .u16 x51]) (.int .i64 x52) (.int .i64 x52) (.bool (x52 != 0)) (.bool false) (.pointer (some ⟨g3, 2, none⟩)) (.int .u8 x68) (.pointer (some ⟨g1, 0, none⟩)) (.pointer (some ⟨g1, 6, none⟩)) (.int .u8 x69) (.bool (x68 != x69)) (.bool (x68 != x69)) (.bool false) (.pointer (some ⟨g3, 2, none⟩)) (.int .u8 x82) (.bool (x82 == 1)) (.bool true) (.pointer (some ⟨g3, 3, none⟩)) (.int .u16 x83) (.pointer (some ⟨g3, 4, none⟩)) (.int .u16 x84) (.bool (x83 != x84)) (.bool (x83 != x84)) (.bool (x83 != x84)) undef undef undef undef undef undef undef undef undef undef undef undef undef undef undef undef undef undef undef undef undef undef undef undef undef undef undef undef undef undef undef undef w55 R))))))
else
(Leaf (nat_Turn.j1 g1 g3 g5 g53 (.agg #[.int .u8 i0_0, .int .u16 i0_1, .bool i0_2, .bool i0_3, .int .i64 i0_4, .int .u8 i0_5, .int .u8 i0_6, .int .u32 i0_7, .int .u32 i0_8, .slice I0_9 in0_9 ic0_9, .slice I0_10 in0_10 ic0_10]) (.agg #[.int .u32 i1_0, .int .u32 i1_1, .int .u8 i1_2, .int .u16 i1_3, .int .u16 i1_4]) (.int .i64 0) (.slice A20 n20_ c20_) (.int .i64 x21) (.int .i64 x52) undef (.tuple #[.slice A20 n20_ c20_, .int .i64 x21]) (.agg #[.int .u8 x7, .int .u16 x8, .bool b9, .bool b10, .int .i64 x11, .int .u8 x12, .int .u8 x13, .int .u32 x14, .int .u32 x15, .slice A16 n16_ c16_, .slice A17 n17_ c17_]) (.tuple #[.slice A20 n20_ c20_, .int .i64 x21]) (.slice A20 n20_ c20_) (.int .i64 x21) (.int .i64 x21) (.bool (x21 != 0)) undef undef (.tuple #[.agg #[.int .u32 x47, .int .u32 x48, .int .u8 x49, .int .u16 x50, .int .u16 x51], .int .i64 x52]) (.agg #[.int .u8 x34, .int .u16 x35, .bool b36, .bool b37, .int .i64 x38, .int .u8 x39, .int .u8 x40, .int .u32 x41, .int .u32 x42, .slice A43 n43_ c43_, .slice A44 n44_ c44_]) (.tuple #[.agg #[.int .u32 x47, .int .u32 x48, .int .u8 x49, .int .u16 x50, .int .u16 x51], .int .i64 x52]) (.agg #[.int .u32 x47, .int .u32 x48, .int .u8 x49, .int .u16 x50, .int .u16 x51]) (.int .i64 x52) (.int .i64 x52) (.bool (x52 != 0)) (.bool false) (.pointer (some ⟨g3, 2, none⟩)) (.int .u8 x68) (.pointer (some ⟨g1, 0, none⟩)) (.pointer (some ⟨g1, 6, none⟩)) (.int .u8 x69) (.bool (x68 != x69)) (.bool (x68 != x69)) (.bool false) (.pointer (some ⟨g3, 2, none⟩)) (.int .u8 x82) (.bool (x82 == 1)) (.bool false) undef undef undef undef undef (.bool false) (.bool false) undef undef undef undef undef undef undef undef undef undef undef undef undef undef undef undef undef undef undef undef undef undef undef undef undef undef undef undef undef undef undef undef w55 R))))))))))))))))))))
theorem nat_Turn.s_eq (i0_0 : Int) (i0_1 : Int) (i0_2 : Bool) (i0_3 : Bool) (i0_4 : Int) (i0_5 : Int) (i0_6 : Int) (i0_7 : Int) (i0_8 : Int) (I0_9 : Option Addr) (in0_9 : Nat) (ic0_9 : Nat) (I0_10 : Option Addr) (in0_10 : Nat) (ic0_10 : Nat) (i1_0 : Int) (i1_1 : Int) (i1_2 : Int) (i1_3 : Int) (i1_4 : Int) (w : World) (R : Ending → World → Prop) : seg Tryd.prog entE nat_Turn.ords nat_Turn.joins Tryd.f20 [] [] [] ([.agg #[.int .u8 i0_0, .int .u16 i0_1, .bool i0_2, .bool i0_3, .int .i64 i0_4, .int .u8 i0_5, .int .u8 i0_6, .int .u32 i0_7, .int .u32 i0_8, .slice I0_9 in0_9 ic0_9, .slice I0_10 in0_10 ic0_10], .agg #[.int .u32 i1_0, .int .u32 i1_1, .int .u8 i1_2, .int .u16 i1_3, .int .u16 i1_4]] ++ List.replicate (Tryd.f20.ntmps - ([.agg #[.int .u8 i0_0, .int .u16 i0_1, .bool i0_2, .bool i0_3, .int .i64 i0_4, .int .u8 i0_5, .int .u8 i0_6, .int .u32 i0_7, .int .u32 i0_8, .slice I0_9 in0_9 ic0_9, .slice I0_10 in0_10 ic0_10], .agg #[.int .u32 i1_0, .int .u32 i1_1, .int .u8 i1_2, .int .u16 i1_3, .int .u16 i1_4]] : List Value).length) undef) w R = nat_Turn.s i0_0 i0_1 i0_2 i0_3 i0_4 i0_5 i0_6 i0_7 i0_8 I0_9 in0_9 ic0_9 I0_10 in0_10 ic0_10 i1_0 i1_1 i1_2 i1_3 i1_4 w R := by kernel_rfl
theorem nat_Turn.run {i0_0 : Int} {i0_1 : Int} {i0_2 : Bool} {i0_3 : Bool} {i0_4 : Int} {i0_5 : Int} {i0_6 : Int} {i0_7 : Int} {i0_8 : Int} {I0_9 : Option Addr} {in0_9 : Nat} {ic0_9 : Nat} {I0_10 : Option Addr} {in0_10 : Nat} {ic0_10 : Nat} {i1_0 : Int} {i1_1 : Int} {i1_2 : Int} {i1_3 : Int} {i1_4 : Int} {w : World} {R : Ending → World → Prop} (h : nat_Turn.s i0_0 i0_1 i0_2 i0_3 i0_4 i0_5 i0_6 i0_7 i0_8 I0_9 in0_9 ic0_9 I0_10 in0_10 ic0_10 i1_0 i1_1 i1_2 i1_3 i1_4 w R) : Calls Tryd.prog 20 #[.agg #[.int .u8 i0_0, .int .u16 i0_1, .bool i0_2, .bool i0_3, .int .i64 i0_4, .int .u8 i0_5, .int .u8 i0_6, .int .u32 i0_7, .int .u32 i0_8, .slice I0_9 in0_9 ic0_9, .slice I0_10 in0_10 ic0_10], .agg #[.int .u32 i1_0, .int .u32 i1_1, .int .u8 i1_2, .int .u16 i1_3, .int .u16 i1_4]] w R :=
  calls_seg ents mixed Tryd.func20 rfl (by rw [nat_Turn.s_eq]; exact h)
end Go.Proofs.YtphbdmafchjjeaaDoorS
