/- What functions of the program come to, told by a program of this session out of the translation; the kernel computes each statement out of the code.
   Conditions: none. -/
import Derived.Test.YtleelkkddjldnaaSBase
namespace Go.Proofs.YtleelkkddjldnaaS
open Go Go.Proofs
set_option maxRecDepth 100000
set_option linter.unusedVariables false
/-! ### ip4_word: function 80 -/
def ip4_word.ords : Nat → Od
  | 1 => (.tk 0 (.tk 1 (.tk 2 (.tk 3 (.tk 4 (.tk 5 (.tk 6 (.tk 7 (.tk 8 (.tk 9 (.tk 10 (.tk 11 (.tk 12 (.tk 13 .nil))))))))))))))
  | _ => .nil
def ip4_word.joins (p : List Nat) : Bool := false
def ip4_word.s (I0 : Option Addr) (in0 : Nat) (ic0 : Nat) (i1 : Int) (w : World) (R : Ending → World → Prop) : Prop :=
(∃ S1 : World → Prop, S1 w.drew ∧
(Let (w.drew) fun w2 : World =>
 ∃ a3 : Addr, I0 = some a3 ∧ (0 ≤ i1 ∧ i1 < (in0 : Int)) ∧
(∃ x4 : Int, (∀ w', S1 w' → w'.cell? (a3.add i1.toNat) = some (.int .u8 x4)) ∧
(Let (IntKind.u16.wrap x4) fun x5 : Int =>
 Let (IntKind.u16.wrap (x5 * 256)) fun x6 : Int =>
 Let (IntKind.i64.wrap (i1 + 1)) fun x7 : Int =>
 ∃ a8 : Addr, I0 = some a8 ∧ (0 ≤ x7 ∧ x7 < (in0 : Int)) ∧
(∃ x9 : Int, (∀ w', S1 w' → w'.cell? (a8.add x7.toNat) = some (.int .u8 x9)) ∧
(Let (IntKind.u16.wrap x9) fun x10 : Int =>
 Let (Go.bits .or .u16 x6 x10) fun x11 : Int =>
 R (.returned (.int .u16 x11)) w2))))))
theorem ip4_word.s_eq (I0 : Option Addr) (in0 : Nat) (ic0 : Nat) (i1 : Int) (w : World) (R : Ending → World → Prop) : seg Try.prog entE ip4_word.ords ip4_word.joins Try.f80 [] [] [] ([.slice I0 in0 ic0, .int .i64 i1] ++ List.replicate (Try.f80.ntmps - ([.slice I0 in0 ic0, .int .i64 i1] : List Value).length) undef) w R = ip4_word.s I0 in0 ic0 i1 w R := by kernel_rfl
theorem ip4_word.run {I0 : Option Addr} {in0 : Nat} {ic0 : Nat} {i1 : Int} {w : World} {R : Ending → World → Prop} (h : ip4_word.s I0 in0 ic0 i1 w R) : Calls Try.prog 80 #[.slice I0 in0 ic0, .int .i64 i1] w R :=
  calls_seg ents mixed Try.func80 rfl (by rw [ip4_word.s_eq]; exact h)
/-! ### ip4_long: function 81 -/
def ip4_long.ords : Nat → Od
  | _ => .nil
def ip4_long.joins (p : List Nat) : Bool := false
def ip4_long.s (I0 : Option Addr) (in0 : Nat) (ic0 : Nat) (i1 : Int) (w : World) (R : Ending → World → Prop) : Prop :=
(Calls Try.prog 80 #[.slice I0 in0 ic0, .int .i64 i1] w (fun (e2 : Ending) (w1 : World) =>
 ∃ x3 : Int, e2 = .returned (.int .u16 x3) ∧
(Let (IntKind.u32.wrap x3) fun x4 : Int =>
 Let (IntKind.u32.wrap (x4 * 65536)) fun x5 : Int =>
 Let (IntKind.i64.wrap (i1 + 2)) fun x6 : Int =>
 Calls Try.prog 80 #[.slice I0 in0 ic0, .int .i64 x6] w1 (fun (e8 : Ending) (w7 : World) =>
 ∃ x9 : Int, e8 = .returned (.int .u16 x9) ∧
(Let (IntKind.u32.wrap x9) fun x10 : Int =>
 Let (Go.bits .or .u32 x5 x10) fun x11 : Int =>
 R (.returned (.int .u32 x11)) w7)))))
theorem ip4_long.s_eq (I0 : Option Addr) (in0 : Nat) (ic0 : Nat) (i1 : Int) (w : World) (R : Ending → World → Prop) : seg Try.prog entE ip4_long.ords ip4_long.joins Try.f81 [] [] [] ([.slice I0 in0 ic0, .int .i64 i1] ++ List.replicate (Try.f81.ntmps - ([.slice I0 in0 ic0, .int .i64 i1] : List Value).length) undef) w R = ip4_long.s I0 in0 ic0 i1 w R := by kernel_rfl
theorem ip4_long.run {I0 : Option Addr} {in0 : Nat} {ic0 : Nat} {i1 : Int} {w : World} {R : Ending → World → Prop} (h : ip4_long.s I0 in0 ic0 i1 w R) : Calls Try.prog 81 #[.slice I0 in0 ic0, .int .i64 i1] w R :=
  calls_seg ents mixed Try.func81 rfl (by rw [ip4_long.s_eq]; exact h)
/-! ### ip4_putWord: function 67 -/
def ip4_putWord.ords : Nat → Od
  | _ => .nil
def ip4_putWord.joins (p : List Nat) : Bool := false
def ip4_putWord.s (I0 : Option Addr) (in0 : Nat) (ic0 : Nat) (i1 : Int) (i2 : Int) (w : World) (R : Ending → World → Prop) : Prop :=
(Let (IntKind.i64.wrap (i1 + 1)) fun x1 : Int =>
 Let (Int.fdiv i2 256) fun x2 : Int =>
 Let (IntKind.u8.wrap x2) fun x3 : Int =>
 Let (IntKind.u8.wrap i2) fun x4 : Int =>
 ∃ a5 : Addr, I0 = some a5 ∧ (0 ≤ i1 ∧ i1 < (in0 : Int)) ∧
(MayC w (a5.add i1.toNat) ∧
(Let (w.setCell (a5.add i1.toNat) (.int .u8 x3)) fun w6 : World =>
 ∃ a7 : Addr, I0 = some a7 ∧ (0 ≤ x1 ∧ x1 < (in0 : Int)) ∧
(MayC w6 (a7.add x1.toNat) ∧
(Let (w6.setCell (a7.add x1.toNat) (.int .u8 x4)) fun w8 : World =>
 R (.returned (.tuple #[])) w8)))))
theorem ip4_putWord.s_eq (I0 : Option Addr) (in0 : Nat) (ic0 : Nat) (i1 : Int) (i2 : Int) (w : World) (R : Ending → World → Prop) : seg Try.prog entE ip4_putWord.ords ip4_putWord.joins Try.f67 [] [] [] ([.slice I0 in0 ic0, .int .i64 i1, .int .u16 i2] ++ List.replicate (Try.f67.ntmps - ([.slice I0 in0 ic0, .int .i64 i1, .int .u16 i2] : List Value).length) undef) w R = ip4_putWord.s I0 in0 ic0 i1 i2 w R := by kernel_rfl
theorem ip4_putWord.run {I0 : Option Addr} {in0 : Nat} {ic0 : Nat} {i1 : Int} {i2 : Int} {w : World} {R : Ending → World → Prop} (h : ip4_putWord.s I0 in0 ic0 i1 i2 w R) : Calls Try.prog 67 #[.slice I0 in0 ic0, .int .i64 i1, .int .u16 i2] w R :=
  calls_seg ents mixed Try.func67 rfl (by rw [ip4_putWord.s_eq]; exact h)
/-! ### ip4_putLong: function 68 -/
def ip4_putLong.ords : Nat → Od
  | _ => .nil
def ip4_putLong.joins (p : List Nat) : Bool := false
def ip4_putLong.s (I0 : Option Addr) (in0 : Nat) (ic0 : Nat) (i1 : Int) (i2 : Int) (w : World) (R : Ending → World → Prop) : Prop :=
(Let (Int.fdiv i2 65536) fun x1 : Int =>
 Let (IntKind.u16.wrap x1) fun x2 : Int =>
 Calls Try.prog 67 #[.slice I0 in0 ic0, .int .i64 i1, .int .u16 x2] w (fun (e4 : Ending) (w3 : World) =>
 e4 = .returned (.tuple #[]) ∧
(Let (IntKind.i64.wrap (i1 + 2)) fun x5 : Int =>
 Let (IntKind.u16.wrap i2) fun x6 : Int =>
 Calls Try.prog 67 #[.slice I0 in0 ic0, .int .i64 x5, .int .u16 x6] w3 (fun (e8 : Ending) (w7 : World) =>
 e8 = .returned (.tuple #[]) ∧
(R (.returned (.tuple #[])) w7)))))
theorem ip4_putLong.s_eq (I0 : Option Addr) (in0 : Nat) (ic0 : Nat) (i1 : Int) (i2 : Int) (w : World) (R : Ending → World → Prop) : seg Try.prog entE ip4_putLong.ords ip4_putLong.joins Try.f68 [] [] [] ([.slice I0 in0 ic0, .int .i64 i1, .int .u32 i2] ++ List.replicate (Try.f68.ntmps - ([.slice I0 in0 ic0, .int .i64 i1, .int .u32 i2] : List Value).length) undef) w R = ip4_putLong.s I0 in0 ic0 i1 i2 w R := by kernel_rfl
theorem ip4_putLong.run {I0 : Option Addr} {in0 : Nat} {ic0 : Nat} {i1 : Int} {i2 : Int} {w : World} {R : Ending → World → Prop} (h : ip4_putLong.s I0 in0 ic0 i1 i2 w R) : Calls Try.prog 68 #[.slice I0 in0 ic0, .int .i64 i1, .int .u32 i2] w R :=
  calls_seg ents mixed Try.func68 rfl (by rw [ip4_putLong.s_eq]; exact h)
/-! ### ip4_folded: function 63 -/
def ip4_folded.ords : Nat → Od
  | _ => .nil
def ip4_folded.joins (p : List Nat) : Bool := false
def ip4_folded.l1 (n : Nat) (y0 : Int) (d1 d2 d3 d4 d5 d6 d7 d8 d9 d10 d11 : Value) (w : World) (R : Ending → World → Prop) : Prop :=
  lseg Try.prog entE ip4_folded.ords ip4_folded.joins Try.f63 [1, 0, 0] [0, 0, 1] [] n [.int .u64 y0, d1, d2, d3, d4, d5, d6, d7, d8, d9, d10, d11] w R
abbrev ip4_folded.L1 (n : Nat) (y0 : Int) (w : World) (R : Ending → World → Prop) : Prop := ∀ d1 d2 d3 d4 d5 d6 d7 d8 d9 d10 d11 : Value, ip4_folded.l1 n y0 d1 d2 d3 d4 d5 d6 d7 d8 d9 d10 d11 w R
theorem ip4_folded.l1_eq (n : Nat) (y0 : Int) (d1 d2 d3 d4 d5 d6 d7 d8 d9 d10 d11 : Value) (w : World) (R : Ending → World → Prop) : ip4_folded.l1 (n + 1) y0 d1 d2 d3 d4 d5 d6 d7 d8 d9 d10 d11 w R =
((if decide (y0 > 65535) = true then
(Let (Int.fdiv y0 65536) fun x1 : Int =>
 Let (Go.bits .and .u64 y0 65535) fun x2 : Int =>
 Let (IntKind.u64.wrap (x1 + x2)) fun x3 : Int =>
 ip4_folded.l1 n x3 d1 d2 (.int .u64 y0) (.bool (decide (y0 > 65535))) (.int .u64 y0) (.int .u64 x1) (.int .u64 y0) (.int .u64 x2) (.int .u64 x3) d10 d11 w R)
else
(Let (IntKind.u16.wrap y0) fun x4 : Int =>
 R (.returned (.int .u16 x4)) w))) := by kernel_rfl
def ip4_folded.s (i0 : Int) (w : World) (R : Ending → World → Prop) : Prop :=
(∃ n1 : Nat, ip4_folded.l1 n1 i0 undef (.int .u16 0) undef undef undef undef undef undef undef undef undef w R)
theorem ip4_folded.s_eq (i0 : Int) (w : World) (R : Ending → World → Prop) : seg Try.prog entE ip4_folded.ords ip4_folded.joins Try.f63 [] [] [] ([.int .u64 i0] ++ List.replicate (Try.f63.ntmps - ([.int .u64 i0] : List Value).length) undef) w R = ip4_folded.s i0 w R := by kernel_rfl
theorem ip4_folded.run {i0 : Int} {w : World} {R : Ending → World → Prop} (h : ip4_folded.s i0 w R) : Calls Try.prog 63 #[.int .u64 i0] w R :=
  calls_seg ents mixed Try.func63 rfl (by rw [ip4_folded.s_eq]; exact h)
/-! ### ip4_Sum: function 39 -/
def ip4_Sum.ords : Nat → Od
  | _ => .nil
def ip4_Sum.joins (p : List Nat) : Bool := false
def ip4_Sum.l1 (n : Nat) (y3 : Int) (y4 : Bool) (Y9 : Option Addr) (yn9 : Nat) (yc9 : Nat) (y10 : Int) (y11 : Int) (d0 d1 d2 d5 d6 d7 d8 d12 d13 d14 d15 d16 d17 d18 d19 d20 d21 d22 d23 d24 d25 d26 d27 d28 d29 d30 d31 d32 d33 d34 d35 d36 d37 : Value) (w : World) (R : Ending → World → Prop) : Prop :=
  lseg Try.prog entE ip4_Sum.ords ip4_Sum.joins Try.f39 [1, 1, 1, 0, 1, 0] [0, 1, 0, 1, 1, 1] [] n [d0, d1, d2, .int .u64 y3, .bool y4, d5, d6, d7, d8, .slice Y9 yn9 yc9, .int .i64 y10, .int .i64 y11, d12, d13, d14, d15, d16, d17, d18, d19, d20, d21, d22, d23, d24, d25, d26, d27, d28, d29, d30, d31, d32, d33, d34, d35, d36, d37] w R
def ip4_Sum.l2 (m0 : Nat) (n : Nat) (y3 : Int) (y4 : Bool) (Y9 : Option Addr) (yn9 : Nat) (yc9 : Nat) (y10 : Int) (y11 : Int) (Y15 : Option Addr) (yn15 : Nat) (yc15 : Nat) (y16 : Int) (y17 : Int) (d0 d1 d2 d5 d6 d7 d8 d12 d13 d14 d18 d19 d20 d21 d22 d23 d24 d25 d26 d27 d28 d29 d30 d31 d32 d33 d34 d35 d36 d37 : Value) (w : World) (R : Ending → World → Prop) : Prop :=
  lseg Try.prog entE ip4_Sum.ords ip4_Sum.joins Try.f39 [1, 1, 1, 0, 1, 0, 0, 1, 1, 0, 0, 1, 1, 0] [0, 1, 1, 0, 0, 1, 1, 0, 0, 1, 0, 1, 1, 1] [m0] n [d0, d1, d2, .int .u64 y3, .bool y4, d5, d6, d7, d8, .slice Y9 yn9 yc9, .int .i64 y10, .int .i64 y11, d12, d13, d14, .slice Y15 yn15 yc15, .int .i64 y16, .int .i64 y17, d18, d19, d20, d21, d22, d23, d24, d25, d26, d27, d28, d29, d30, d31, d32, d33, d34, d35, d36, d37] w R
abbrev ip4_Sum.L1 (n : Nat) (y3 : Int) (y4 : Bool) (Y9 : Option Addr) (yn9 : Nat) (yc9 : Nat) (y10 : Int) (y11 : Int) (w : World) (R : Ending → World → Prop) : Prop := ∀ d0 d1 d2 d5 d6 d7 d8 d12 d13 d14 d15 d16 d17 d18 d19 d20 d21 d22 d23 d24 d25 d26 d27 d28 d29 d30 d31 d32 d33 d34 d35 d36 d37 : Value, ip4_Sum.l1 n y3 y4 Y9 yn9 yc9 y10 y11 d0 d1 d2 d5 d6 d7 d8 d12 d13 d14 d15 d16 d17 d18 d19 d20 d21 d22 d23 d24 d25 d26 d27 d28 d29 d30 d31 d32 d33 d34 d35 d36 d37 w R
abbrev ip4_Sum.L2 (m0 : Nat) (n : Nat) (y3 : Int) (y4 : Bool) (Y9 : Option Addr) (yn9 : Nat) (yc9 : Nat) (y10 : Int) (y11 : Int) (Y15 : Option Addr) (yn15 : Nat) (yc15 : Nat) (y16 : Int) (y17 : Int) (w : World) (R : Ending → World → Prop) : Prop := ∀ d0 d1 d2 d5 d6 d7 d8 d12 d13 d14 d18 d19 d20 d21 d22 d23 d24 d25 d26 d27 d28 d29 d30 d31 d32 d33 d34 d35 d36 d37 : Value, ip4_Sum.l2 m0 n y3 y4 Y9 yn9 yc9 y10 y11 Y15 yn15 yc15 y16 y17 d0 d1 d2 d5 d6 d7 d8 d12 d13 d14 d18 d19 d20 d21 d22 d23 d24 d25 d26 d27 d28 d29 d30 d31 d32 d33 d34 d35 d36 d37 w R
theorem ip4_Sum.l1_eq (n : Nat) (y3 : Int) (y4 : Bool) (Y9 : Option Addr) (yn9 : Nat) (yc9 : Nat) (y10 : Int) (y11 : Int) (d0 d1 d2 d5 d6 d7 d8 d12 d13 d14 d15 d16 d17 d18 d19 d20 d21 d22 d23 d24 d25 d26 d27 d28 d29 d30 d31 d32 d33 d34 d35 d36 d37 : Value) (w : World) (R : Ending → World → Prop) : ip4_Sum.l1 (n + 1) y3 y4 Y9 yn9 yc9 y10 y11 d0 d1 d2 d5 d6 d7 d8 d12 d13 d14 d15 d16 d17 d18 d19 d20 d21 d22 d23 d24 d25 d26 d27 d28 d29 d30 d31 d32 d33 d34 d35 d36 d37 w R =
((if decide (y11 < y10) = true then
(∃ a1 : Addr, Y9 = some a1 ∧ (0 ≤ y11 ∧ y11 < (yn9 : Int)) ∧
(∃ (A2 : Option Addr) (n2_ c2_ : Nat), w.cell? (a1.add y11.toNat) = some (.slice A2 n2_ c2_) ∧
(∃ n3 : Nat, ip4_Sum.l2 n n3 y3 y4 Y9 yn9 yc9 y10 y11 A2 n2_ c2_ (n2_ : Int) 0 d0 d1 d2 d5 (.slice A2 n2_ c2_) d7 d8 (.bool (decide (y11 < y10))) (.pointer (some (a1.add y11.toNat))) (.slice A2 n2_ c2_) d18 d19 d20 d21 d22 d23 d24 d25 d26 d27 d28 d29 d30 d31 d32 d33 d34 d35 d36 d37 w R)))
else
(Calls Try.prog 63 #[.int .u64 y3] w (fun (e5 : Ending) (w4 : World) =>
 ∃ x6 : Int, e5 = .returned (.int .u16 x6) ∧
(Let (Go.bits .xor .u16 65535 x6) fun x7 : Int =>
 R (.returned (.int .u16 x7)) w4))))) := by kernel_rfl
theorem ip4_Sum.l2_eq (m0 : Nat) (n : Nat) (y3 : Int) (y4 : Bool) (Y9 : Option Addr) (yn9 : Nat) (yc9 : Nat) (y10 : Int) (y11 : Int) (Y15 : Option Addr) (yn15 : Nat) (yc15 : Nat) (y16 : Int) (y17 : Int) (d0 d1 d2 d5 d6 d7 d8 d12 d13 d14 d18 d19 d20 d21 d22 d23 d24 d25 d26 d27 d28 d29 d30 d31 d32 d33 d34 d35 d36 d37 : Value) (w : World) (R : Ending → World → Prop) : ip4_Sum.l2 m0 (n + 1) y3 y4 Y9 yn9 yc9 y10 y11 Y15 yn15 yc15 y16 y17 d0 d1 d2 d5 d6 d7 d8 d12 d13 d14 d18 d19 d20 d21 d22 d23 d24 d25 d26 d27 d28 d29 d30 d31 d32 d33 d34 d35 d36 d37 w R =
((if decide (y17 < y16) = true then
(∃ a1 : Addr, Y15 = some a1 ∧ (0 ≤ y17 ∧ y17 < (yn15 : Int)) ∧
(∃ x2 : Int, w.cell? (a1.add y17.toNat) = some (.int .u8 x2) ∧
((if y4 = true then
(Let (IntKind.u64.wrap x2) fun x3 : Int =>
 Let (IntKind.u64.wrap (x3 * 256)) fun x4 : Int =>
 Let (IntKind.u64.wrap (y3 + x4)) fun x5 : Int =>
 Let (IntKind.i64.wrap (y17 + 1)) fun x6 : Int =>
 ip4_Sum.l2 m0 n x5 (!y4) Y9 yn9 yc9 y10 y11 Y15 yn15 yc15 y16 x6 d0 d1 d2 d5 d6 d7 (.int .u8 x2) d12 d13 d14 (.bool (decide (y17 < y16))) (.pointer (some (a1.add y17.toNat))) (.int .u8 x2) (.bool y4) (.int .u64 y3) (.int .u8 x2) (.int .u64 x3) (.int .u64 x4) (.int .u64 x5) d27 d28 d29 d30 (.bool y4) (.bool (!y4)) (.int .i64 x6) d34 d35 d36 d37 w R)
else
(Let (IntKind.u64.wrap x2) fun x7 : Int =>
 Let (IntKind.u64.wrap (y3 + x7)) fun x8 : Int =>
 Let (IntKind.i64.wrap (y17 + 1)) fun x9 : Int =>
 ip4_Sum.l2 m0 n x8 (!y4) Y9 yn9 yc9 y10 y11 Y15 yn15 yc15 y16 x9 d0 d1 d2 d5 d6 d7 (.int .u8 x2) d12 d13 d14 (.bool (decide (y17 < y16))) (.pointer (some (a1.add y17.toNat))) (.int .u8 x2) (.bool y4) d22 d23 d24 d25 d26 (.int .u64 y3) (.int .u8 x2) (.int .u64 x7) (.int .u64 x8) (.bool y4) (.bool (!y4)) (.int .i64 x9) d34 d35 d36 d37 w R)))))
else
(Let (IntKind.i64.wrap (y11 + 1)) fun x10 : Int =>
 ip4_Sum.l1 m0 y3 y4 Y9 yn9 yc9 y10 x10 d0 d1 d2 d5 d6 d7 d8 d12 d13 d14 (.slice Y15 yn15 yc15) (.int .i64 y16) (.int .i64 y17) (.bool (decide (y17 < y16))) d19 d20 d21 d22 d23 d24 d25 d26 d27 d28 d29 d30 d31 d32 d33 (.int .i64 x10) d35 d36 d37 w R))) := by kernel_rfl
def ip4_Sum.s (I0 : Option Addr) (in0 : Nat) (ic0 : Nat) (w : World) (R : Ending → World → Prop) : Prop :=
(∃ n1 : Nat, ip4_Sum.l1 n1 0 true I0 in0 ic0 (in0 : Int) 0 (.slice I0 in0 ic0) undef (.int .u16 0) undef undef undef undef undef undef undef undef undef undef undef undef undef undef undef undef undef undef undef undef undef undef undef undef undef undef undef undef undef undef w R)
theorem ip4_Sum.s_eq (I0 : Option Addr) (in0 : Nat) (ic0 : Nat) (w : World) (R : Ending → World → Prop) : seg Try.prog entE ip4_Sum.ords ip4_Sum.joins Try.f39 [] [] [] ([.slice I0 in0 ic0] ++ List.replicate (Try.f39.ntmps - ([.slice I0 in0 ic0] : List Value).length) undef) w R = ip4_Sum.s I0 in0 ic0 w R := by kernel_rfl
theorem ip4_Sum.run {I0 : Option Addr} {in0 : Nat} {ic0 : Nat} {w : World} {R : Ending → World → Prop} (h : ip4_Sum.s I0 in0 ic0 w R) : Calls Try.prog 39 #[.slice I0 in0 ic0] w R :=
  calls_seg ents mixed Try.func39 rfl (by rw [ip4_Sum.s_eq]; exact h)
/-! ### ip4_orderly: function 66 -/
def ip4_orderly.ords : Nat → Od
  | _ => .nil
def ip4_orderly.joins (p : List Nat) : Bool := p == [1, 1]
def ip4_orderly.j1 (y1 : Int) (y2 : Bool) (d0 d3 d4 d5 d6 d7 d8 d9 d10 d11 d12 d13 d14 d15 d16 d17 d18 d19 d20 d21 d22 d23 d24 d25 d26 d27 d28 d29 d30 d31 d32 d33 d34 : Value) (w : World) (R : Ending → World → Prop) : Prop :=
  seg Try.prog entE ip4_orderly.ords ip4_orderly.joins Try.f66 [1, 1] [1, 1] [] [d0, .int .i64 y1, .bool y2, d3, d4, d5, d6, d7, d8, d9, d10, d11, d12, d13, d14, d15, d16, d17, d18, d19, d20, d21, d22, d23, d24, d25, d26, d27, d28, d29, d30, d31, d32, d33, d34] w R
abbrev ip4_orderly.J1 (y1 : Int) (y2 : Bool) (w : World) (R : Ending → World → Prop) : Prop := ∀ d0 d3 d4 d5 d6 d7 d8 d9 d10 d11 d12 d13 d14 d15 d16 d17 d18 d19 d20 d21 d22 d23 d24 d25 d26 d27 d28 d29 d30 d31 d32 d33 d34 : Value, ip4_orderly.j1 y1 y2 d0 d3 d4 d5 d6 d7 d8 d9 d10 d11 d12 d13 d14 d15 d16 d17 d18 d19 d20 d21 d22 d23 d24 d25 d26 d27 d28 d29 d30 d31 d32 d33 d34 w R
theorem ip4_orderly.j1_eq (y1 : Int) (y2 : Bool) (d0 d3 d4 d5 d6 d7 d8 d9 d10 d11 d12 d13 d14 d15 d16 d17 d18 d19 d20 d21 d22 d23 d24 d25 d26 d27 d28 d29 d30 d31 d32 d33 d34 : Value) (w : World) (R : Ending → World → Prop) : ip4_orderly.j1 y1 y2 d0 d3 d4 d5 d6 d7 d8 d9 d10 d11 d12 d13 d14 d15 d16 d17 d18 d19 d20 d21 d22 d23 d24 d25 d26 d27 d28 d29 d30 d31 d32 d33 d34 w R =
((if (!y2) = true then
(R (.returned (.bool true)) w)
else
((if decide (y1 > 0) = true then
(Let (Int.tmod y1 8) fun x1 : Int =>
 R (.returned (.bool (x1 == 0))) w)
else
(R (.returned (.bool false)) w))))) := by kernel_rfl
def ip4_orderly.s (i0 : Int) (i1 : Int) (i2 : Bool) (w : World) (R : Ending → World → Prop) : Prop :=
((if decide (i0 < 0) = true then
(R (.returned (.bool false)) w)
else
((if decide (i0 > 65528) = true then
(R (.returned (.bool false)) w)
else
(Let (Int.tmod i0 8) fun x1 : Int =>
(if (x1 != 0) = true then
(R (.returned (.bool false)) w)
else
(Let (IntKind.i64.wrap (i0 + i1)) fun x2 : Int =>
(if decide (x2 > 65535) = true then
(R (.returned (.bool false)) w)
else
(Leaf (ip4_orderly.j1 i1 i2 (.int .i64 i0) undef undef undef (.bool false) (.int .i64 i0) (.bool (decide (i0 < 0))) (.bool false) (.int .i64 i0) (.bool (decide (i0 > 65528))) (.bool (decide (i0 > 65528))) (.bool false) (.int .i64 i0) (.int .i64 x1) (.bool (x1 != 0)) (.bool (x1 != 0)) (.bool false) (.int .i64 i0) (.int .i64 i1) (.int .i64 x2) (.bool (decide (x2 > 65535))) (.bool (decide (x2 > 65535))) undef undef undef undef undef undef undef undef undef undef undef w R))))))))))
theorem ip4_orderly.s_eq (i0 : Int) (i1 : Int) (i2 : Bool) (w : World) (R : Ending → World → Prop) : seg Try.prog entE ip4_orderly.ords ip4_orderly.joins Try.f66 [] [] [] ([.int .i64 i0, .int .i64 i1, .bool i2] ++ List.replicate (Try.f66.ntmps - ([.int .i64 i0, .int .i64 i1, .bool i2] : List Value).length) undef) w R = ip4_orderly.s i0 i1 i2 w R := by kernel_rfl
theorem ip4_orderly.run {i0 : Int} {i1 : Int} {i2 : Bool} {w : World} {R : Ending → World → Prop} (h : ip4_orderly.s i0 i1 i2 w R) : Calls Try.prog 66 #[.int .i64 i0, .int .i64 i1, .bool i2] w R :=
  calls_seg ents mixed Try.func66 rfl (by rw [ip4_orderly.s_eq]; exact h)
/-! ### ip4_measure: function 79 -/
def ip4_measure.ords : Nat → Od
  | _ => .nil
def ip4_measure.joins (p : List Nat) : Bool := false
def ip4_measure.s (I0 : Option Addr) (in0 : Nat) (ic0 : Nat) (i1 : Bool) (w : World) (R : Ending → World → Prop) : Prop :=
((if decide ((in0 : Int) < 20) = true then
(R (.returned (.tuple #[.int .i64 0, .int .i64 0, .int .i64 30])) w)
else
(∃ a1 : Addr, I0 = some a1 ∧ (0 ≤ (0 : Int) ∧ (0 : Int) < (in0 : Int)) ∧
(∃ x2 : Int, w.cell? a1 = some (.int .u8 x2) ∧
(Let (Int.fdiv x2 16) fun x3 : Int =>
(if (x3 != 4) = true then
(R (.returned (.tuple #[.int .i64 0, .int .i64 0, .int .i64 31])) w)
else
(∃ a4 : Addr, I0 = some a4 ∧ (0 ≤ (0 : Int) ∧ (0 : Int) < (in0 : Int)) ∧
(∃ x5 : Int, w.cell? a4 = some (.int .u8 x5) ∧
(Let (Go.bits .and .u8 x5 15) fun x6 : Int =>
 Let (IntKind.i64.wrap x6) fun x7 : Int =>
 Let (IntKind.i64.wrap (x7 * 4)) fun x8 : Int =>
(if decide (x8 < 20) = true then
(R (.returned (.tuple #[.int .i64 0, .int .i64 0, .int .i64 32])) w)
else
((if decide ((in0 : Int) < x8) = true then
(R (.returned (.tuple #[.int .i64 0, .int .i64 0, .int .i64 30])) w)
else
(Calls Try.prog 80 #[.slice I0 in0 ic0, .int .i64 2] w (fun (e10 : Ending) (w9 : World) =>
 ∃ x11 : Int, e10 = .returned (.int .u16 x11) ∧
(Let (IntKind.i64.wrap x11) fun x12 : Int =>
(if decide (x12 < x8) = true then
(R (.returned (.tuple #[.int .i64 0, .int .i64 0, .int .i64 32])) w9)
else
((if i1 = true then
((if decide ((in0 : Int) < x12) = true then
(R (.returned (.tuple #[.int .i64 0, .int .i64 0, .int .i64 30])) w9)
else
(R (.returned (.tuple #[.int .i64 x8, .int .i64 x12, .int .i64 0])) w9)))
else
(R (.returned (.tuple #[.int .i64 x8, .int .i64 x12, .int .i64 0])) w9)))))))))))))))))))
theorem ip4_measure.s_eq (I0 : Option Addr) (in0 : Nat) (ic0 : Nat) (i1 : Bool) (w : World) (R : Ending → World → Prop) : seg Try.prog entE ip4_measure.ords ip4_measure.joins Try.f79 [] [] [] ([.slice I0 in0 ic0, .bool i1] ++ List.replicate (Try.f79.ntmps - ([.slice I0 in0 ic0, .bool i1] : List Value).length) undef) w R = ip4_measure.s I0 in0 ic0 i1 w R := by kernel_rfl
theorem ip4_measure.run {I0 : Option Addr} {in0 : Nat} {ic0 : Nat} {i1 : Bool} {w : World} {R : Ending → World → Prop} (h : ip4_measure.s I0 in0 ic0 i1 w R) : Calls Try.prog 79 #[.slice I0 in0 ic0, .bool i1] w R :=
  calls_seg ents mixed Try.func79 rfl (by rw [ip4_measure.s_eq]; exact h)
/-! ### ip4_optionsOK: function 65 -/
def ip4_optionsOK.ords : Nat → Od
  | _ => .nil
def ip4_optionsOK.joins (p : List Nat) : Bool := p == [1, 1] || p == [1, 1, 1, 1, 1, 0, 1, 0, 1, 0, 0, 1, 0, 1, 1]
def ip4_optionsOK.j1 (Y0 : Option Addr) (yn0 : Nat) (yc0 : Nat) (d1 d2 d3 d4 d5 d6 d7 d8 d9 d10 d11 d12 d13 d14 d15 d16 d17 d18 d19 d20 d21 d22 d23 d24 d25 d26 d27 d28 d29 d30 d31 d32 d33 d34 d35 d36 d37 d38 d39 d40 d41 d42 d43 d44 d45 d46 d47 d48 d49 d50 d51 d52 d53 d54 d55 d56 d57 d58 d59 d60 d61 d62 d63 d64 d65 d66 d67 d68 d69 d70 d71 d72 d73 : Value) (w : World) (R : Ending → World → Prop) : Prop :=
  seg Try.prog entE ip4_optionsOK.ords ip4_optionsOK.joins Try.f65 [1, 1] [1, 1] [] [.slice Y0 yn0 yc0, d1, d2, d3, d4, d5, d6, d7, d8, d9, d10, d11, d12, d13, d14, d15, d16, d17, d18, d19, d20, d21, d22, d23, d24, d25, d26, d27, d28, d29, d30, d31, d32, d33, d34, d35, d36, d37, d38, d39, d40, d41, d42, d43, d44, d45, d46, d47, d48, d49, d50, d51, d52, d53, d54, d55, d56, d57, d58, d59, d60, d61, d62, d63, d64, d65, d66, d67, d68, d69, d70, d71, d72, d73] w R
def ip4_optionsOK.l1 (n : Nat) (Y0 : Option Addr) (yn0 : Nat) (yc0 : Nat) (y3 : Int) (d1 d2 d4 d5 d6 d7 d8 d9 d10 d11 d12 d13 d14 d15 d16 d17 d18 d19 d20 d21 d22 d23 d24 d25 d26 d27 d28 d29 d30 d31 d32 d33 d34 d35 d36 d37 d38 d39 d40 d41 d42 d43 d44 d45 d46 d47 d48 d49 d50 d51 d52 d53 d54 d55 d56 d57 d58 d59 d60 d61 d62 d63 d64 d65 d66 d67 d68 d69 d70 d71 d72 d73 : Value) (w : World) (R : Ending → World → Prop) : Prop :=
  lseg Try.prog entE ip4_optionsOK.ords ip4_optionsOK.joins Try.f65 [1, 1, 0, 1, 0] [0, 1, 0, 1, 1] [] n [.slice Y0 yn0 yc0, d1, d2, .int .i64 y3, d4, d5, d6, d7, d8, d9, d10, d11, d12, d13, d14, d15, d16, d17, d18, d19, d20, d21, d22, d23, d24, d25, d26, d27, d28, d29, d30, d31, d32, d33, d34, d35, d36, d37, d38, d39, d40, d41, d42, d43, d44, d45, d46, d47, d48, d49, d50, d51, d52, d53, d54, d55, d56, d57, d58, d59, d60, d61, d62, d63, d64, d65, d66, d67, d68, d69, d70, d71, d72, d73] w R
def ip4_optionsOK.l2 (m0 : Nat) (n : Nat) (Y61 : Option Addr) (yn61 : Nat) (yc61 : Nat) (y62 : Int) (y63 : Int) (d0 d1 d2 d3 d4 d5 d6 d7 d8 d9 d10 d11 d12 d13 d14 d15 d16 d17 d18 d19 d20 d21 d22 d23 d24 d25 d26 d27 d28 d29 d30 d31 d32 d33 d34 d35 d36 d37 d38 d39 d40 d41 d42 d43 d44 d45 d46 d47 d48 d49 d50 d51 d52 d53 d54 d55 d56 d57 d58 d59 d60 d64 d65 d66 d67 d68 d69 d70 d71 d72 d73 : Value) (w : World) (R : Ending → World → Prop) : Prop :=
  lseg Try.prog entE ip4_optionsOK.ords ip4_optionsOK.joins Try.f65 [1, 1, 0, 1, 0, 0, 1, 0, 1, 0, 1, 0, 0, 1, 0] [0, 1, 0, 0, 1, 0, 1, 0, 1, 0, 0, 1, 0, 1, 1] [m0] n [d0, d1, d2, d3, d4, d5, d6, d7, d8, d9, d10, d11, d12, d13, d14, d15, d16, d17, d18, d19, d20, d21, d22, d23, d24, d25, d26, d27, d28, d29, d30, d31, d32, d33, d34, d35, d36, d37, d38, d39, d40, d41, d42, d43, d44, d45, d46, d47, d48, d49, d50, d51, d52, d53, d54, d55, d56, d57, d58, d59, d60, .slice Y61 yn61 yc61, .int .i64 y62, .int .i64 y63, d64, d65, d66, d67, d68, d69, d70, d71, d72, d73] w R
def ip4_optionsOK.j2 (m0 : Nat) (Y0 : Option Addr) (yn0 : Nat) (yc0 : Nat) (y3 : Int) (d1 d2 d4 d5 d6 d7 d8 d9 d10 d11 d12 d13 d14 d15 d16 d17 d18 d19 d20 d21 d22 d23 d24 d25 d26 d27 d28 d29 d30 d31 d32 d33 d34 d35 d36 d37 d38 d39 d40 d41 d42 d43 d44 d45 d46 d47 d48 d49 d50 d51 d52 d53 d54 d55 d56 d57 d58 d59 d60 d61 d62 d63 d64 d65 d66 d67 d68 d69 d70 d71 d72 d73 : Value) (w : World) (R : Ending → World → Prop) : Prop :=
  seg Try.prog entE ip4_optionsOK.ords ip4_optionsOK.joins Try.f65 [1, 1, 0, 1, 0, 0, 1, 0, 1, 0, 1, 1, 1, 1, 1] [1, 1, 1, 1, 1, 0, 1, 0, 1, 0, 0, 1, 0, 1, 1] [m0] [.slice Y0 yn0 yc0, d1, d2, .int .i64 y3, d4, d5, d6, d7, d8, d9, d10, d11, d12, d13, d14, d15, d16, d17, d18, d19, d20, d21, d22, d23, d24, d25, d26, d27, d28, d29, d30, d31, d32, d33, d34, d35, d36, d37, d38, d39, d40, d41, d42, d43, d44, d45, d46, d47, d48, d49, d50, d51, d52, d53, d54, d55, d56, d57, d58, d59, d60, d61, d62, d63, d64, d65, d66, d67, d68, d69, d70, d71, d72, d73] w R
abbrev ip4_optionsOK.J1 (Y0 : Option Addr) (yn0 : Nat) (yc0 : Nat) (w : World) (R : Ending → World → Prop) : Prop := ∀ d1 d2 d3 d4 d5 d6 d7 d8 d9 d10 d11 d12 d13 d14 d15 d16 d17 d18 d19 d20 d21 d22 d23 d24 d25 d26 d27 d28 d29 d30 d31 d32 d33 d34 d35 d36 d37 d38 d39 d40 d41 d42 d43 d44 d45 d46 d47 d48 d49 d50 d51 d52 d53 d54 d55 d56 d57 d58 d59 d60 d61 d62 d63 d64 d65 d66 d67 d68 d69 d70 d71 d72 d73 : Value, ip4_optionsOK.j1 Y0 yn0 yc0 d1 d2 d3 d4 d5 d6 d7 d8 d9 d10 d11 d12 d13 d14 d15 d16 d17 d18 d19 d20 d21 d22 d23 d24 d25 d26 d27 d28 d29 d30 d31 d32 d33 d34 d35 d36 d37 d38 d39 d40 d41 d42 d43 d44 d45 d46 d47 d48 d49 d50 d51 d52 d53 d54 d55 d56 d57 d58 d59 d60 d61 d62 d63 d64 d65 d66 d67 d68 d69 d70 d71 d72 d73 w R
abbrev ip4_optionsOK.L1 (n : Nat) (Y0 : Option Addr) (yn0 : Nat) (yc0 : Nat) (y3 : Int) (w : World) (R : Ending → World → Prop) : Prop := ∀ d1 d2 d4 d5 d6 d7 d8 d9 d10 d11 d12 d13 d14 d15 d16 d17 d18 d19 d20 d21 d22 d23 d24 d25 d26 d27 d28 d29 d30 d31 d32 d33 d34 d35 d36 d37 d38 d39 d40 d41 d42 d43 d44 d45 d46 d47 d48 d49 d50 d51 d52 d53 d54 d55 d56 d57 d58 d59 d60 d61 d62 d63 d64 d65 d66 d67 d68 d69 d70 d71 d72 d73 : Value, ip4_optionsOK.l1 n Y0 yn0 yc0 y3 d1 d2 d4 d5 d6 d7 d8 d9 d10 d11 d12 d13 d14 d15 d16 d17 d18 d19 d20 d21 d22 d23 d24 d25 d26 d27 d28 d29 d30 d31 d32 d33 d34 d35 d36 d37 d38 d39 d40 d41 d42 d43 d44 d45 d46 d47 d48 d49 d50 d51 d52 d53 d54 d55 d56 d57 d58 d59 d60 d61 d62 d63 d64 d65 d66 d67 d68 d69 d70 d71 d72 d73 w R
abbrev ip4_optionsOK.L2 (m0 : Nat) (n : Nat) (Y61 : Option Addr) (yn61 : Nat) (yc61 : Nat) (y62 : Int) (y63 : Int) (w : World) (R : Ending → World → Prop) : Prop := ∀ d0 d1 d2 d3 d4 d5 d6 d7 d8 d9 d10 d11 d12 d13 d14 d15 d16 d17 d18 d19 d20 d21 d22 d23 d24 d25 d26 d27 d28 d29 d30 d31 d32 d33 d34 d35 d36 d37 d38 d39 d40 d41 d42 d43 d44 d45 d46 d47 d48 d49 d50 d51 d52 d53 d54 d55 d56 d57 d58 d59 d60 d64 d65 d66 d67 d68 d69 d70 d71 d72 d73 : Value, ip4_optionsOK.l2 m0 n Y61 yn61 yc61 y62 y63 d0 d1 d2 d3 d4 d5 d6 d7 d8 d9 d10 d11 d12 d13 d14 d15 d16 d17 d18 d19 d20 d21 d22 d23 d24 d25 d26 d27 d28 d29 d30 d31 d32 d33 d34 d35 d36 d37 d38 d39 d40 d41 d42 d43 d44 d45 d46 d47 d48 d49 d50 d51 d52 d53 d54 d55 d56 d57 d58 d59 d60 d64 d65 d66 d67 d68 d69 d70 d71 d72 d73 w R
abbrev ip4_optionsOK.J2 (m0 : Nat) (Y0 : Option Addr) (yn0 : Nat) (yc0 : Nat) (y3 : Int) (w : World) (R : Ending → World → Prop) : Prop := ∀ d1 d2 d4 d5 d6 d7 d8 d9 d10 d11 d12 d13 d14 d15 d16 d17 d18 d19 d20 d21 d22 d23 d24 d25 d26 d27 d28 d29 d30 d31 d32 d33 d34 d35 d36 d37 d38 d39 d40 d41 d42 d43 d44 d45 d46 d47 d48 d49 d50 d51 d52 d53 d54 d55 d56 d57 d58 d59 d60 d61 d62 d63 d64 d65 d66 d67 d68 d69 d70 d71 d72 d73 : Value, ip4_optionsOK.j2 m0 Y0 yn0 yc0 y3 d1 d2 d4 d5 d6 d7 d8 d9 d10 d11 d12 d13 d14 d15 d16 d17 d18 d19 d20 d21 d22 d23 d24 d25 d26 d27 d28 d29 d30 d31 d32 d33 d34 d35 d36 d37 d38 d39 d40 d41 d42 d43 d44 d45 d46 d47 d48 d49 d50 d51 d52 d53 d54 d55 d56 d57 d58 d59 d60 d61 d62 d63 d64 d65 d66 d67 d68 d69 d70 d71 d72 d73 w R
theorem ip4_optionsOK.j1_eq (Y0 : Option Addr) (yn0 : Nat) (yc0 : Nat) (d1 d2 d3 d4 d5 d6 d7 d8 d9 d10 d11 d12 d13 d14 d15 d16 d17 d18 d19 d20 d21 d22 d23 d24 d25 d26 d27 d28 d29 d30 d31 d32 d33 d34 d35 d36 d37 d38 d39 d40 d41 d42 d43 d44 d45 d46 d47 d48 d49 d50 d51 d52 d53 d54 d55 d56 d57 d58 d59 d60 d61 d62 d63 d64 d65 d66 d67 d68 d69 d70 d71 d72 d73 : Value) (w : World) (R : Ending → World → Prop) : ip4_optionsOK.j1 Y0 yn0 yc0 d1 d2 d3 d4 d5 d6 d7 d8 d9 d10 d11 d12 d13 d14 d15 d16 d17 d18 d19 d20 d21 d22 d23 d24 d25 d26 d27 d28 d29 d30 d31 d32 d33 d34 d35 d36 d37 d38 d39 d40 d41 d42 d43 d44 d45 d46 d47 d48 d49 d50 d51 d52 d53 d54 d55 d56 d57 d58 d59 d60 d61 d62 d63 d64 d65 d66 d67 d68 d69 d70 d71 d72 d73 w R =
(∃ n1 : Nat, ip4_optionsOK.l1 n1 Y0 yn0 yc0 0 d1 d2 d4 d5 d6 d7 d8 d9 d10 d11 d12 d13 d14 d15 d16 d17 d18 d19 d20 d21 d22 d23 d24 d25 d26 d27 d28 d29 d30 d31 d32 d33 d34 d35 d36 d37 d38 d39 d40 d41 d42 d43 d44 d45 d46 d47 d48 d49 d50 d51 d52 d53 d54 d55 d56 d57 d58 d59 d60 d61 d62 d63 d64 d65 d66 d67 d68 d69 d70 d71 d72 d73 w R) := by kernel_rfl
theorem ip4_optionsOK.l1_eq (n : Nat) (Y0 : Option Addr) (yn0 : Nat) (yc0 : Nat) (y3 : Int) (d1 d2 d4 d5 d6 d7 d8 d9 d10 d11 d12 d13 d14 d15 d16 d17 d18 d19 d20 d21 d22 d23 d24 d25 d26 d27 d28 d29 d30 d31 d32 d33 d34 d35 d36 d37 d38 d39 d40 d41 d42 d43 d44 d45 d46 d47 d48 d49 d50 d51 d52 d53 d54 d55 d56 d57 d58 d59 d60 d61 d62 d63 d64 d65 d66 d67 d68 d69 d70 d71 d72 d73 : Value) (w : World) (R : Ending → World → Prop) : ip4_optionsOK.l1 (n + 1) Y0 yn0 yc0 y3 d1 d2 d4 d5 d6 d7 d8 d9 d10 d11 d12 d13 d14 d15 d16 d17 d18 d19 d20 d21 d22 d23 d24 d25 d26 d27 d28 d29 d30 d31 d32 d33 d34 d35 d36 d37 d38 d39 d40 d41 d42 d43 d44 d45 d46 d47 d48 d49 d50 d51 d52 d53 d54 d55 d56 d57 d58 d59 d60 d61 d62 d63 d64 d65 d66 d67 d68 d69 d70 d71 d72 d73 w R =
((if decide (y3 < (yn0 : Int)) = true then
(∃ a1 : Addr, Y0 = some a1 ∧ (0 ≤ y3 ∧ y3 < (yn0 : Int)) ∧
(∃ x2 : Int, w.cell? (a1.add y3.toNat) = some (.int .u8 x2) ∧
((if (x2 == 0) = true then
((0 ≤ y3 ∧ y3 ≤ (yn0 : Int)) ∧
(∃ n3 : Nat, ip4_optionsOK.l2 n n3 (cutA Y0 y3.toNat yc0 1) (yn0 - y3.toNat) (yc0 - y3.toNat) (((yn0 - y3.toNat) : Nat) : Int) 0 (.slice Y0 yn0 yc0) d1 d2 (.int .i64 y3) d4 d5 d6 d7 d8 d9 d10 d11 d12 d13 d14 (.int .i64 y3) (.slice Y0 yn0 yc0) (.int .i64 (yn0 : Int)) (.bool (decide (y3 < (yn0 : Int)))) (.slice Y0 yn0 yc0) (.int .i64 y3) (.pointer (some (a1.add y3.toNat))) (.int .u8 x2) d23 d24 d25 d26 d27 d28 d29 d30 d31 d32 d33 d34 d35 d36 d37 d38 d39 d40 d41 d42 d43 d44 d45 d46 d47 d48 d49 d50 d51 d52 d53 d54 d55 d56 (.bool (x2 == 0)) (.bool (x2 == 0)) (.slice Y0 yn0 yc0) (.int .i64 y3) d64 d65 d66 d67 d68 d69 d70 d71 d72 d73 w R))
else
((if (x2 == 1) = true then
(Let (IntKind.i64.wrap (y3 + 1)) fun x4 : Int =>
 ip4_optionsOK.l1 n Y0 yn0 yc0 x4 d1 d2 d4 d5 d6 d7 d8 d9 d10 d11 d12 d13 d14 (.int .i64 y3) (.slice Y0 yn0 yc0) (.int .i64 (yn0 : Int)) (.bool (decide (y3 < (yn0 : Int)))) (.slice Y0 yn0 yc0) (.int .i64 y3) (.pointer (some (a1.add y3.toNat))) (.int .u8 x2) d23 d24 d25 d26 d27 d28 d29 d30 d31 d32 d33 d34 d35 d36 d37 d38 d39 d40 d41 d42 d43 d44 d45 d46 d47 d48 d49 d50 d51 d52 d53 d54 d55 d56 (.bool (x2 == 0)) (.bool (x2 == 0)) d59 d60 d61 d62 d63 d64 d65 d66 d67 d68 d69 (.bool (x2 == 1)) (.bool (x2 == 1)) (.int .i64 y3) (.int .i64 x4) w R)
else
(Let (IntKind.i64.wrap (y3 + 1)) fun x5 : Int =>
(if decide (x5 ≥ (yn0 : Int)) = true then
(R (.returned (.bool false)) w)
else
(Let (IntKind.i64.wrap (y3 + 1)) fun x6 : Int =>
 ∃ a7 : Addr, Y0 = some a7 ∧ (0 ≤ x6 ∧ x6 < (yn0 : Int)) ∧
(∃ x8 : Int, w.cell? (a7.add x6.toNat) = some (.int .u8 x8) ∧
((if decide (x8 < 2) = true then
(R (.returned (.bool false)) w)
else
(Let (IntKind.i64.wrap (y3 + 1)) fun x9 : Int =>
 ∃ a10 : Addr, Y0 = some a10 ∧ (0 ≤ x9 ∧ x9 < (yn0 : Int)) ∧
(∃ x11 : Int, w.cell? (a10.add x9.toNat) = some (.int .u8 x11) ∧
(Let (IntKind.i64.wrap x11) fun x12 : Int =>
 Let (IntKind.i64.wrap (y3 + x12)) fun x13 : Int =>
(if decide (x13 > (yn0 : Int)) = true then
(R (.returned (.bool false)) w)
else
(Leaf (ip4_optionsOK.j2 n Y0 yn0 yc0 y3 d1 d2 d4 d5 d6 d7 d8 d9 d10 d11 d12 d13 d14 (.int .i64 y3) (.slice Y0 yn0 yc0) (.int .i64 (yn0 : Int)) (.bool (decide (y3 < (yn0 : Int)))) (.slice Y0 yn0 yc0) (.int .i64 y3) (.pointer (some (a1.add y3.toNat))) (.int .u8 x2) (.int .i64 y3) (.int .i64 x5) (.slice Y0 yn0 yc0) (.int .i64 (yn0 : Int)) (.bool (decide (x5 ≥ (yn0 : Int)))) (.bool false) (.slice Y0 yn0 yc0) (.int .i64 y3) (.int .i64 x6) (.pointer (some (a7.add x6.toNat))) (.int .u8 x8) (.bool (decide (x8 < 2))) (.bool (decide (x8 < 2))) (.bool false) (.int .i64 y3) (.slice Y0 yn0 yc0) (.int .i64 y3) (.int .i64 x9) (.pointer (some (a10.add x9.toNat))) (.int .u8 x11) (.int .i64 x12) (.int .i64 x13) (.slice Y0 yn0 yc0) (.int .i64 (yn0 : Int)) (.bool (decide (x13 > (yn0 : Int)))) (.bool (decide (x13 > (yn0 : Int)))) d49 d50 d51 d52 d53 d54 d55 d56 (.bool (x2 == 0)) (.bool (x2 == 0)) d59 d60 d61 d62 d63 d64 d65 d66 d67 d68 d69 (.bool (x2 == 1)) (.bool (x2 == 1)) d72 d73 w R))))))))))))))))))
else
(R (.returned (.bool true)) w))) := by kernel_rfl
theorem ip4_optionsOK.l2_eq (m0 : Nat) (n : Nat) (Y61 : Option Addr) (yn61 : Nat) (yc61 : Nat) (y62 : Int) (y63 : Int) (d0 d1 d2 d3 d4 d5 d6 d7 d8 d9 d10 d11 d12 d13 d14 d15 d16 d17 d18 d19 d20 d21 d22 d23 d24 d25 d26 d27 d28 d29 d30 d31 d32 d33 d34 d35 d36 d37 d38 d39 d40 d41 d42 d43 d44 d45 d46 d47 d48 d49 d50 d51 d52 d53 d54 d55 d56 d57 d58 d59 d60 d64 d65 d66 d67 d68 d69 d70 d71 d72 d73 : Value) (w : World) (R : Ending → World → Prop) : ip4_optionsOK.l2 m0 (n + 1) Y61 yn61 yc61 y62 y63 d0 d1 d2 d3 d4 d5 d6 d7 d8 d9 d10 d11 d12 d13 d14 d15 d16 d17 d18 d19 d20 d21 d22 d23 d24 d25 d26 d27 d28 d29 d30 d31 d32 d33 d34 d35 d36 d37 d38 d39 d40 d41 d42 d43 d44 d45 d46 d47 d48 d49 d50 d51 d52 d53 d54 d55 d56 d57 d58 d59 d60 d64 d65 d66 d67 d68 d69 d70 d71 d72 d73 w R =
((if decide (y63 < y62) = true then
(∃ a1 : Addr, Y61 = some a1 ∧ (0 ≤ y63 ∧ y63 < (yn61 : Int)) ∧
(∃ x2 : Int, w.cell? (a1.add y63.toNat) = some (.int .u8 x2) ∧
((if (x2 != 0) = true then
(R (.returned (.bool false)) w)
else
(Let (IntKind.i64.wrap (y63 + 1)) fun x3 : Int =>
 ip4_optionsOK.l2 m0 n Y61 yn61 yc61 y62 x3 d0 d1 d2 d3 d4 (.int .u8 x2) d6 d7 d8 d9 d10 d11 d12 d13 d14 d15 d16 d17 d18 d19 d20 d21 d22 d23 d24 d25 d26 d27 d28 d29 d30 d31 d32 d33 d34 d35 d36 d37 d38 d39 d40 d41 d42 d43 d44 d45 d46 d47 d48 d49 d50 d51 d52 d53 d54 d55 d56 d57 d58 d59 d60 (.bool (decide (y63 < y62))) (.pointer (some (a1.add y63.toNat))) (.int .u8 x2) (.int .u8 x2) (.bool (x2 != 0)) (.int .i64 x3) d70 d71 d72 d73 w R)))))
else
(R (.returned (.bool true)) w))) := by kernel_rfl
theorem ip4_optionsOK.j2_eq (m0 : Nat) (Y0 : Option Addr) (yn0 : Nat) (yc0 : Nat) (y3 : Int) (d1 d2 d4 d5 d6 d7 d8 d9 d10 d11 d12 d13 d14 d15 d16 d17 d18 d19 d20 d21 d22 d23 d24 d25 d26 d27 d28 d29 d30 d31 d32 d33 d34 d35 d36 d37 d38 d39 d40 d41 d42 d43 d44 d45 d46 d47 d48 d49 d50 d51 d52 d53 d54 d55 d56 d57 d58 d59 d60 d61 d62 d63 d64 d65 d66 d67 d68 d69 d70 d71 d72 d73 : Value) (w : World) (R : Ending → World → Prop) : ip4_optionsOK.j2 m0 Y0 yn0 yc0 y3 d1 d2 d4 d5 d6 d7 d8 d9 d10 d11 d12 d13 d14 d15 d16 d17 d18 d19 d20 d21 d22 d23 d24 d25 d26 d27 d28 d29 d30 d31 d32 d33 d34 d35 d36 d37 d38 d39 d40 d41 d42 d43 d44 d45 d46 d47 d48 d49 d50 d51 d52 d53 d54 d55 d56 d57 d58 d59 d60 d61 d62 d63 d64 d65 d66 d67 d68 d69 d70 d71 d72 d73 w R =
(Let (IntKind.i64.wrap (y3 + 1)) fun x1 : Int =>
 ∃ a2 : Addr, Y0 = some a2 ∧ (0 ≤ x1 ∧ x1 < (yn0 : Int)) ∧
(∃ x3 : Int, w.cell? (a2.add x1.toNat) = some (.int .u8 x3) ∧
(Let (IntKind.i64.wrap x3) fun x4 : Int =>
 Let (IntKind.i64.wrap (y3 + x4)) fun x5 : Int =>
 ip4_optionsOK.l1 m0 Y0 yn0 yc0 x5 d1 d2 d4 d5 d6 d7 d8 d9 d10 d11 d12 d13 d14 d15 d16 d17 d18 d19 d20 d21 d22 d23 d24 d25 d26 d27 d28 d29 d30 d31 d32 d33 d34 d35 d36 d37 d38 d39 d40 d41 d42 d43 d44 d45 d46 d47 d48 (.int .i64 y3) (.slice Y0 yn0 yc0) (.int .i64 y3) (.int .i64 x1) (.pointer (some (a2.add x1.toNat))) (.int .u8 x3) (.int .i64 x4) (.int .i64 x5) d57 d58 d59 d60 d61 d62 d63 d64 d65 d66 d67 d68 d69 d70 d71 d72 d73 w R))) := by kernel_rfl
def ip4_optionsOK.s (I0 : Option Addr) (in0 : Nat) (ic0 : Nat) (w : World) (R : Ending → World → Prop) : Prop :=
((if decide ((in0 : Int) > 40) = true then
(R (.returned (.bool false)) w)
else
(Let (Int.tmod (in0 : Int) 4) fun x1 : Int =>
(if (x1 != 0) = true then
(R (.returned (.bool false)) w)
else
(Leaf (ip4_optionsOK.j1 I0 in0 ic0 undef (.bool false) undef undef undef (.slice I0 in0 ic0) (.int .i64 (in0 : Int)) (.bool (decide ((in0 : Int) > 40))) (.bool false) (.slice I0 in0 ic0) (.int .i64 (in0 : Int)) (.int .i64 x1) (.bool (x1 != 0)) (.bool (x1 != 0)) undef undef undef undef undef undef undef undef undef undef undef undef undef undef undef undef undef undef undef undef undef undef undef undef undef undef undef undef undef undef undef undef undef undef undef undef undef undef undef undef undef undef undef undef undef undef undef undef undef undef undef undef undef undef undef undef undef undef undef w R))))))
theorem ip4_optionsOK.s_eq (I0 : Option Addr) (in0 : Nat) (ic0 : Nat) (w : World) (R : Ending → World → Prop) : seg Try.prog entE ip4_optionsOK.ords ip4_optionsOK.joins Try.f65 [] [] [] ([.slice I0 in0 ic0] ++ List.replicate (Try.f65.ntmps - ([.slice I0 in0 ic0] : List Value).length) undef) w R = ip4_optionsOK.s I0 in0 ic0 w R := by kernel_rfl
theorem ip4_optionsOK.run {I0 : Option Addr} {in0 : Nat} {ic0 : Nat} {w : World} {R : Ending → World → Prop} (h : ip4_optionsOK.s I0 in0 ic0 w R) : Calls Try.prog 65 #[.slice I0 in0 ic0] w R :=
  calls_seg ents mixed Try.func65 rfl (by rw [ip4_optionsOK.s_eq]; exact h)
/-! ### ip4_apart: function 72 -/
def ip4_apart.ords : Nat → Od
  | 6 => (.tk 0 (.tk 1 (.tk 2 (.tk 3 (.tk 4 (.tk 5 (.tk 6 (.tk 7 (.tk 8 (.tk 9 (.tk 10 (.tk 11 (.tk 12 (.tk 13 (.tk 14 (.tk 15 .nil))))))))))))))))
  | _ => .nil
def ip4_apart.joins (p : List Nat) : Bool := false
def ip4_apart.s (I0 : Option Addr) (in0 : Nat) (ic0 : Nat) (I1 : Option Addr) (in1 : Nat) (ic1 : Nat) (w : World) (R : Ending → World → Prop) : Prop :=
((if ((in0 : Int) == 0) = true then
(AppE w 1 1 5 [.int .u8 0] none 0 0 I1 in1 (fun (A1 : Option Addr) (c2 : Nat) (w3 : World) =>
 R (.returned (.tuple #[.slice none 0 0, .slice A1 (0 + in1) c2])) w3))
else
(Let (IntKind.i64.wrap ((in0 : Int) + (in1 : Int))) fun x4 : Int =>
(0 ≤ x4 ∧ x4 ≤ x4 ∧ x4 ≤ 9223372036854775807 ∧ (1 : Int) * x4 ≤ 281474976710656) ∧
(Let (w.heap.size) fun g5 : Nat =>
 Let (w.alloc (.cells (List.replicate x4.toNat (.int .u8 0)).toArray 5)) fun w6 : World =>
 CopyE w6 (some ⟨g5, 0, none⟩) x4.toNat I0 in0 (fun w7 : World =>
(0 ≤ (in0 : Int) ∧ (in0 : Int) ≤ (x4.toNat : Int)) ∧
(CopyE w7 (cutA (some ⟨g5, 0, none⟩) in0 x4.toNat 1) (x4.toNat - in0) I1 in1 (fun w8 : World =>
 ∃ S9 : World → Prop, S9 w8.drew ∧
(Let (w8.drew) fun w10 : World =>
(0 ≤ (in0 : Int) ∧ (in0 : Int) ≤ (x4.toNat : Int)) ∧
(0 ≤ (in0 : Int) ∧ (in0 : Int) ≤ (in0 : Int)) ∧
((0 ≤ (x4.toNat : Int) ∧ (x4.toNat : Int) ≤ (x4.toNat : Int)) ∧
(0 ≤ (x4.toNat : Int) ∧ (x4.toNat : Int) ≤ (x4.toNat : Int)) ∧
(0 ≤ (in0 : Int) ∧ (in0 : Int) ≤ (x4.toNat : Int)) ∧
(R (.returned (.tuple #[.slice (some ⟨g5, 0, none⟩) in0 in0, .slice (cutA (some ⟨g5, 0, none⟩) in0 x4.toNat 1) (x4.toNat - in0) (x4.toNat - in0)])) w10))))))))))
theorem ip4_apart.s_eq (I0 : Option Addr) (in0 : Nat) (ic0 : Nat) (I1 : Option Addr) (in1 : Nat) (ic1 : Nat) (w : World) (R : Ending → World → Prop) : seg Try.prog entE ip4_apart.ords ip4_apart.joins Try.f72 [] [] [] ([.slice I0 in0 ic0, .slice I1 in1 ic1] ++ List.replicate (Try.f72.ntmps - ([.slice I0 in0 ic0, .slice I1 in1 ic1] : List Value).length) undef) w R = ip4_apart.s I0 in0 ic0 I1 in1 ic1 w R := by kernel_rfl
theorem ip4_apart.run {I0 : Option Addr} {in0 : Nat} {ic0 : Nat} {I1 : Option Addr} {in1 : Nat} {ic1 : Nat} {w : World} {R : Ending → World → Prop} (h : ip4_apart.s I0 in0 ic0 I1 in1 ic1 w R) : Calls Try.prog 72 #[.slice I0 in0 ic0, .slice I1 in1 ic1] w R :=
  calls_seg ents mixed Try.func72 rfl (by rw [ip4_apart.s_eq]; exact h)
/-! ### ip4_read: function 71 -/
def ip4_read.ords : Nat → Od
  | 14 => (.tk 0 (.tk 1 (.tk 2 (.tk 3 (.tk 5 (.tk 6 (.tk 7 (.tk 8 (.tk 9 (.tk 10 (.tk 11 (.tk 12 (.tk 13 (.tk 14 (.tk 15 (.tk 16 (.tk 18 (.on 4 (.on 17 (.on 19 (.tk 20 (.on 21 .nil))))))))))))))))))))))
  | _ => .nil
def ip4_read.joins (p : List Nat) : Bool := false
def ip4_read.s (I0 : Option Addr) (in0 : Nat) (ic0 : Nat) (i1 : Bool) (w : World) (R : Ending → World → Prop) : Prop :=
(Let (w.heap.size) fun g1 : Nat =>
 Let (w.alloc (.cells #[.int .u8 0, .int .u16 0, .bool false, .bool false, .int .i64 0, .int .u8 0, .int .u8 0, .int .u32 0, .int .u32 0, .slice none 0 0] 86)) fun w2 : World =>
 Calls Try.prog 79 #[.slice I0 in0 ic0, .bool i1] w2 (fun (e4 : Ending) (w3 : World) =>
 ∃ x5 : Int, ∃ x6 : Int, ∃ x7 : Int, e4 = .returned (.tuple #[.int .i64 x5, .int .i64 x6, .int .i64 x7]) ∧
((if (x7 != 0) = true then
(∃ x8 : Int, ∃ x9 : Int, ∃ b10 : Bool, ∃ b11 : Bool, ∃ x12 : Int, ∃ x13 : Int, ∃ x14 : Int, ∃ x15 : Int, ∃ x16 : Int, ∃ (A17 : Option Addr) (n17_ c17_ : Nat), (10 = 10 ∧ At w3 ⟨g1, 0, none⟩ [.int .u8 x8, .int .u16 x9, .bool b10, .bool b11, .int .i64 x12, .int .u8 x13, .int .u8 x14, .int .u32 x15, .int .u32 x16, .slice A17 n17_ c17_]) ∧
(May w3 ⟨g1, 0, none⟩ 10 ∧
(Let (putCells w3 ⟨g1, 0, none⟩ [.int .u8 x8, .int .u16 x9, .bool b10, .bool b11, .int .i64 x12, .int .u8 x13, .int .u8 x14, .int .u32 x15, .int .u32 x16, .slice A17 n17_ c17_] 0) fun w18 : World =>
 ∃ x19 : Int, ∃ x20 : Int, ∃ b21 : Bool, ∃ b22 : Bool, ∃ x23 : Int, ∃ x24 : Int, ∃ x25 : Int, ∃ x26 : Int, ∃ x27 : Int, ∃ (A28 : Option Addr) (n28_ c28_ : Nat), (10 = 10 ∧ At w18 ⟨g1, 0, none⟩ [.int .u8 x19, .int .u16 x20, .bool b21, .bool b22, .int .i64 x23, .int .u8 x24, .int .u8 x25, .int .u32 x26, .int .u32 x27, .slice A28 n28_ c28_]) ∧
(R (.returned (.tuple #[.agg #[.int .u8 x19, .int .u16 x20, .bool b21, .bool b22, .int .i64 x23, .int .u8 x24, .int .u8 x25, .int .u32 x26, .int .u32 x27, .slice A28 n28_ c28_], .int .i64 0, .int .i64 0, .int .i64 x7])) w18))))
else
((0 ≤ x5 ∧ x5 ≤ (ic0 : Int)) ∧
(Let (w3.heap.size) fun g29 : Nat =>
 Let (w3.alloc (.cells #[.slice I0 x5.toNat ic0] 28)) fun w30 : World =>
 Calls Try.prog 39 #[.slice (some ⟨g29, 0, none⟩) 1 1] w30 (fun (e32 : Ending) (w31 : World) =>
 ∃ x33 : Int, e32 = .returned (.int .u16 x33) ∧
((if (x33 != 0) = true then
(∃ x34 : Int, ∃ x35 : Int, ∃ b36 : Bool, ∃ b37 : Bool, ∃ x38 : Int, ∃ x39 : Int, ∃ x40 : Int, ∃ x41 : Int, ∃ x42 : Int, ∃ (A43 : Option Addr) (n43_ c43_ : Nat), (10 = 10 ∧ At w31 ⟨g1, 0, none⟩ [.int .u8 x34, .int .u16 x35, .bool b36, .bool b37, .int .i64 x38, .int .u8 x39, .int .u8 x40, .int .u32 x41, .int .u32 x42, .slice A43 n43_ c43_]) ∧
(May w31 ⟨g1, 0, none⟩ 10 ∧
(Let (putCells w31 ⟨g1, 0, none⟩ [.int .u8 x34, .int .u16 x35, .bool b36, .bool b37, .int .i64 x38, .int .u8 x39, .int .u8 x40, .int .u32 x41, .int .u32 x42, .slice A43 n43_ c43_] 0) fun w44 : World =>
 ∃ x45 : Int, ∃ x46 : Int, ∃ b47 : Bool, ∃ b48 : Bool, ∃ x49 : Int, ∃ x50 : Int, ∃ x51 : Int, ∃ x52 : Int, ∃ x53 : Int, ∃ (A54 : Option Addr) (n54_ c54_ : Nat), (10 = 10 ∧ At w44 ⟨g1, 0, none⟩ [.int .u8 x45, .int .u16 x46, .bool b47, .bool b48, .int .i64 x49, .int .u8 x50, .int .u8 x51, .int .u32 x52, .int .u32 x53, .slice A54 n54_ c54_]) ∧
(R (.returned (.tuple #[.agg #[.int .u8 x45, .int .u16 x46, .bool b47, .bool b48, .int .i64 x49, .int .u8 x50, .int .u8 x51, .int .u32 x52, .int .u32 x53, .slice A54 n54_ c54_], .int .i64 0, .int .i64 0, .int .i64 33])) w44))))
else
(Calls Try.prog 80 #[.slice I0 in0 ic0, .int .i64 6] w31 (fun (e56 : Ending) (w55 : World) =>
 ∃ x57 : Int, e56 = .returned (.int .u16 x57) ∧
(Let (Go.bits .and .u16 x57 32768) fun x58 : Int =>
(if (x58 != 0) = true then
(∃ x59 : Int, ∃ x60 : Int, ∃ b61 : Bool, ∃ b62 : Bool, ∃ x63 : Int, ∃ x64 : Int, ∃ x65 : Int, ∃ x66 : Int, ∃ x67 : Int, ∃ (A68 : Option Addr) (n68_ c68_ : Nat), (10 = 10 ∧ At w55 ⟨g1, 0, none⟩ [.int .u8 x59, .int .u16 x60, .bool b61, .bool b62, .int .i64 x63, .int .u8 x64, .int .u8 x65, .int .u32 x66, .int .u32 x67, .slice A68 n68_ c68_]) ∧
(May w55 ⟨g1, 0, none⟩ 10 ∧
(Let (putCells w55 ⟨g1, 0, none⟩ [.int .u8 x59, .int .u16 x60, .bool b61, .bool b62, .int .i64 x63, .int .u8 x64, .int .u8 x65, .int .u32 x66, .int .u32 x67, .slice A68 n68_ c68_] 0) fun w69 : World =>
 ∃ x70 : Int, ∃ x71 : Int, ∃ b72 : Bool, ∃ b73 : Bool, ∃ x74 : Int, ∃ x75 : Int, ∃ x76 : Int, ∃ x77 : Int, ∃ x78 : Int, ∃ (A79 : Option Addr) (n79_ c79_ : Nat), (10 = 10 ∧ At w69 ⟨g1, 0, none⟩ [.int .u8 x70, .int .u16 x71, .bool b72, .bool b73, .int .i64 x74, .int .u8 x75, .int .u8 x76, .int .u32 x77, .int .u32 x78, .slice A79 n79_ c79_]) ∧
(R (.returned (.tuple #[.agg #[.int .u8 x70, .int .u16 x71, .bool b72, .bool b73, .int .i64 x74, .int .u8 x75, .int .u8 x76, .int .u32 x77, .int .u32 x78, .slice A79 n79_ c79_], .int .i64 0, .int .i64 0, .int .i64 32])) w69))))
else
((0 ≤ x5 ∧ x5 ≤ (ic0 : Int)) ∧
(0 ≤ (20 : Int) ∧ (20 : Int) ≤ (x5.toNat : Int)) ∧
(Calls Try.prog 65 #[.slice (cutA I0 20 ic0 1) (x5.toNat - 20) (ic0 - 20)] w55 (fun (e81 : Ending) (w80 : World) =>
 ∃ b82 : Bool, e81 = .returned (.bool b82) ∧
((if (!b82) = true then
(∃ x83 : Int, ∃ x84 : Int, ∃ b85 : Bool, ∃ b86 : Bool, ∃ x87 : Int, ∃ x88 : Int, ∃ x89 : Int, ∃ x90 : Int, ∃ x91 : Int, ∃ (A92 : Option Addr) (n92_ c92_ : Nat), (10 = 10 ∧ At w80 ⟨g1, 0, none⟩ [.int .u8 x83, .int .u16 x84, .bool b85, .bool b86, .int .i64 x87, .int .u8 x88, .int .u8 x89, .int .u32 x90, .int .u32 x91, .slice A92 n92_ c92_]) ∧
(May w80 ⟨g1, 0, none⟩ 10 ∧
(Let (putCells w80 ⟨g1, 0, none⟩ [.int .u8 x83, .int .u16 x84, .bool b85, .bool b86, .int .i64 x87, .int .u8 x88, .int .u8 x89, .int .u32 x90, .int .u32 x91, .slice A92 n92_ c92_] 0) fun w93 : World =>
 ∃ x94 : Int, ∃ x95 : Int, ∃ b96 : Bool, ∃ b97 : Bool, ∃ x98 : Int, ∃ x99 : Int, ∃ x100 : Int, ∃ x101 : Int, ∃ x102 : Int, ∃ (A103 : Option Addr) (n103_ c103_ : Nat), (10 = 10 ∧ At w93 ⟨g1, 0, none⟩ [.int .u8 x94, .int .u16 x95, .bool b96, .bool b97, .int .i64 x98, .int .u8 x99, .int .u8 x100, .int .u32 x101, .int .u32 x102, .slice A103 n103_ c103_]) ∧
(R (.returned (.tuple #[.agg #[.int .u8 x94, .int .u16 x95, .bool b96, .bool b97, .int .i64 x98, .int .u8 x99, .int .u8 x100, .int .u32 x101, .int .u32 x102, .slice A103 n103_ c103_], .int .i64 0, .int .i64 0, .int .i64 34])) w93))))
else
(Let (Go.bits .and .u16 x57 8191) fun x104 : Int =>
 Let (IntKind.i64.wrap x104) fun x105 : Int =>
 Let (IntKind.i64.wrap (x105 * 8)) fun x106 : Int =>
 Let (Go.bits .and .u16 x57 8192) fun x107 : Int =>
 Let (IntKind.i64.wrap (x6 - x5)) fun x108 : Int =>
 Calls Try.prog 66 #[.int .i64 x106, .int .i64 x108, .bool (x107 != 0)] w80 (fun (e110 : Ending) (w109 : World) =>
 ∃ b111 : Bool, e110 = .returned (.bool b111) ∧
((if (!b111) = true then
(∃ x112 : Int, ∃ x113 : Int, ∃ b114 : Bool, ∃ b115 : Bool, ∃ x116 : Int, ∃ x117 : Int, ∃ x118 : Int, ∃ x119 : Int, ∃ x120 : Int, ∃ (A121 : Option Addr) (n121_ c121_ : Nat), (10 = 10 ∧ At w109 ⟨g1, 0, none⟩ [.int .u8 x112, .int .u16 x113, .bool b114, .bool b115, .int .i64 x116, .int .u8 x117, .int .u8 x118, .int .u32 x119, .int .u32 x120, .slice A121 n121_ c121_]) ∧
(May w109 ⟨g1, 0, none⟩ 10 ∧
(Let (putCells w109 ⟨g1, 0, none⟩ [.int .u8 x112, .int .u16 x113, .bool b114, .bool b115, .int .i64 x116, .int .u8 x117, .int .u8 x118, .int .u32 x119, .int .u32 x120, .slice A121 n121_ c121_] 0) fun w122 : World =>
 ∃ x123 : Int, ∃ x124 : Int, ∃ b125 : Bool, ∃ b126 : Bool, ∃ x127 : Int, ∃ x128 : Int, ∃ x129 : Int, ∃ x130 : Int, ∃ x131 : Int, ∃ (A132 : Option Addr) (n132_ c132_ : Nat), (10 = 10 ∧ At w122 ⟨g1, 0, none⟩ [.int .u8 x123, .int .u16 x124, .bool b125, .bool b126, .int .i64 x127, .int .u8 x128, .int .u8 x129, .int .u32 x130, .int .u32 x131, .slice A132 n132_ c132_]) ∧
(R (.returned (.tuple #[.agg #[.int .u8 x123, .int .u16 x124, .bool b125, .bool b126, .int .i64 x127, .int .u8 x128, .int .u8 x129, .int .u32 x130, .int .u32 x131, .slice A132 n132_ c132_], .int .i64 0, .int .i64 0, .int .i64 36])) w122))))
else
(∃ S133 : World → Prop, S133 w109.drew ∧
(Let (w109.drew) fun w134 : World =>
 ∃ a135 : Addr, I0 = some a135 ∧ (0 ≤ (1 : Int) ∧ (1 : Int) < (in0 : Int)) ∧
(∃ x136 : Int, (∀ w', S133 w' → w'.cell? (a135.add 1) = some (.int .u8 x136)) ∧
(Let (Go.bits .and .u16 x57 16384) fun x137 : Int =>
 ∃ a138 : Addr, I0 = some a138 ∧ (0 ≤ (8 : Int) ∧ (8 : Int) < (in0 : Int)) ∧
(∃ x139 : Int, (∀ w', S133 w' → w'.cell? (a138.add 8) = some (.int .u8 x139)) ∧
(∃ a140 : Addr, I0 = some a140 ∧ (0 ≤ (9 : Int) ∧ (9 : Int) < (in0 : Int)) ∧
(∃ x141 : Int, (∀ w', S133 w' → w'.cell? (a140.add 9) = some (.int .u8 x141)) ∧
(Calls Try.prog 80 #[.slice I0 in0 ic0, .int .i64 4] w134 (fun (e143 : Ending) (w142 : World) =>
 ∃ x144 : Int, e143 = .returned (.int .u16 x144) ∧
(S133 w142 ∧
(Calls Try.prog 81 #[.slice I0 in0 ic0, .int .i64 12] w142 (fun (e146 : Ending) (w145 : World) =>
 ∃ x147 : Int, e146 = .returned (.int .u32 x147) ∧
(S133 w145 ∧
(Calls Try.prog 81 #[.slice I0 in0 ic0, .int .i64 16] w145 (fun (e149 : Ending) (w148 : World) =>
 ∃ x150 : Int, e149 = .returned (.int .u32 x150) ∧
(S133 w148 ∧
(May w148 ⟨g1, 0, none⟩ 10 ∧
(Let (putCells w148 ⟨g1, 0, none⟩ [.int .u8 x136, .int .u16 x144, .bool (x137 != 0), .bool (x107 != 0), .int .i64 x106, .int .u8 x139, .int .u8 x141, .int .u32 x147, .int .u32 x150, .slice none 0 0] 0) fun w151 : World =>
 S133 w151 ∧
(∃ x152 : Int, ∃ x153 : Int, ∃ b154 : Bool, ∃ b155 : Bool, ∃ x156 : Int, ∃ x157 : Int, ∃ x158 : Int, ∃ x159 : Int, ∃ x160 : Int, ∃ (A161 : Option Addr) (n161_ c161_ : Nat), (10 = 10 ∧ At w151 ⟨g1, 0, none⟩ [.int .u8 x152, .int .u16 x153, .bool b154, .bool b155, .int .i64 x156, .int .u8 x157, .int .u8 x158, .int .u32 x159, .int .u32 x160, .slice A161 n161_ c161_]) ∧
(May w151 ⟨g1, 0, none⟩ 10 ∧
(Let (putCells w151 ⟨g1, 0, none⟩ [.int .u8 x152, .int .u16 x153, .bool b154, .bool b155, .int .i64 x156, .int .u8 x157, .int .u8 x158, .int .u32 x159, .int .u32 x160, .slice A161 n161_ c161_] 0) fun w162 : World =>
 ∃ x163 : Int, ∃ x164 : Int, ∃ b165 : Bool, ∃ b166 : Bool, ∃ x167 : Int, ∃ x168 : Int, ∃ x169 : Int, ∃ x170 : Int, ∃ x171 : Int, ∃ (A172 : Option Addr) (n172_ c172_ : Nat), (10 = 10 ∧ At w162 ⟨g1, 0, none⟩ [.int .u8 x163, .int .u16 x164, .bool b165, .bool b166, .int .i64 x167, .int .u8 x168, .int .u8 x169, .int .u32 x170, .int .u32 x171, .slice A172 n172_ c172_]) ∧
(R (.returned (.tuple #[.agg #[.int .u8 x163, .int .u16 x164, .bool b165, .bool b166, .int .i64 x167, .int .u8 x168, .int .u8 x169, .int .u32 x170, .int .u32 x171, .slice A172 n172_ c172_], .int .i64 x5, .int .i64 x6, .int .i64 0])) w162))))))))))))))))))))))))))))))))))))))))))))
theorem ip4_read.s_eq (I0 : Option Addr) (in0 : Nat) (ic0 : Nat) (i1 : Bool) (w : World) (R : Ending → World → Prop) : seg Try.prog entE ip4_read.ords ip4_read.joins Try.f71 [] [] [] ([.slice I0 in0 ic0, .bool i1] ++ List.replicate (Try.f71.ntmps - ([.slice I0 in0 ic0, .bool i1] : List Value).length) undef) w R = ip4_read.s I0 in0 ic0 i1 w R := by kernel_rfl
theorem ip4_read.run {I0 : Option Addr} {in0 : Nat} {ic0 : Nat} {i1 : Bool} {w : World} {R : Ending → World → Prop} (h : ip4_read.s I0 in0 ic0 i1 w R) : Calls Try.prog 71 #[.slice I0 in0 ic0, .bool i1] w R :=
  calls_seg ents mixed Try.func71 rfl (by rw [ip4_read.s_eq]; exact h)
/-! ### ip4_Build: function 46 -/
def ip4_Build.ords : Nat → Od
  | 10 => (.tk 0 (.tk 1 (.tk 2 (.tk 3 (.tk 4 (.tk 5 (.tk 6 (.tk 7 (.tk 8 (.on 9 (.tk 10 (.on 11 .nil))))))))))))
  | 19 => (.tk 0 (.tk 1 (.tk 2 (.tk 3 (.tk 4 (.tk 5 (.tk 6 (.on 7 (.tk 8 (.on 9 .nil))))))))))
  | 22 => (.tk 0 (.tk 1 (.tk 2 (.tk 3 (.on 4 .nil)))))
  | 23 => (.tk 0 (.tk 1 (.tk 2 (.tk 3 (.tk 4 (.on 5 .nil))))))
  | 24 => (.tk 0 (.tk 1 (.tk 2 (.tk 3 (.tk 4 (.tk 5 (.on 6 (.on 7 (.on 8 .nil)))))))))
  | _ => .nil
def ip4_Build.joins (p : List Nat) : Bool := p == [1, 1, 1, 1, 1, 1, 1, 1, 1, 1, 1] || p == [1, 1, 1, 1, 1, 1, 1, 1, 1, 1, 1, 1]
def ip4_Build.j1 (yg1 : Nat) (yg4 : Nat) (y5 : Int) (Y6 : Option Addr) (yn6 : Nat) (yc6 : Nat) (y7 : Int) (d0 d2 d3 d8 d9 d10 d11 d12 d13 d14 d15 d16 d17 d18 d19 d20 d21 d22 d23 d24 d25 d26 d27 d28 d29 d30 d31 d32 d33 d34 d35 d36 d37 d38 d39 d40 d41 d42 d43 d44 d45 d46 d47 d48 d49 d50 d51 d52 d53 d54 d55 d56 d57 d58 d59 d60 d61 d62 d63 d64 d65 d66 d67 d68 d69 d70 d71 d72 d73 d74 d75 d76 d77 d78 d79 d80 d81 d82 d83 d84 d85 d86 d87 d88 d89 d90 d91 d92 d93 d94 d95 d96 d97 d98 d99 d100 d101 d102 d103 d104 d105 d106 d107 d108 d109 d110 d111 : Value) (w : World) (R : Ending → World → Prop) : Prop :=
  seg Try.prog entE ip4_Build.ords ip4_Build.joins Try.f46 [1, 1, 1, 1, 1, 1, 1, 1, 1, 1, 1] [1, 1, 1, 1, 1, 1, 1, 1, 1, 1, 1] [] [d0, .pointer (some ⟨yg1, 0, none⟩), d2, d3, .pointer (some ⟨yg4, 0, none⟩), .int .i64 y5, .slice Y6 yn6 yc6, .int .u16 y7, d8, d9, d10, d11, d12, d13, d14, d15, d16, d17, d18, d19, d20, d21, d22, d23, d24, d25, d26, d27, d28, d29, d30, d31, d32, d33, d34, d35, d36, d37, d38, d39, d40, d41, d42, d43, d44, d45, d46, d47, d48, d49, d50, d51, d52, d53, d54, d55, d56, d57, d58, d59, d60, d61, d62, d63, d64, d65, d66, d67, d68, d69, d70, d71, d72, d73, d74, d75, d76, d77, d78, d79, d80, d81, d82, d83, d84, d85, d86, d87, d88, d89, d90, d91, d92, d93, d94, d95, d96, d97, d98, d99, d100, d101, d102, d103, d104, d105, d106, d107, d108, d109, d110, d111] w R
def ip4_Build.j2 (yg1 : Nat) (yg4 : Nat) (y5 : Int) (Y6 : Option Addr) (yn6 : Nat) (yc6 : Nat) (y7 : Int) (d0 d2 d3 d8 d9 d10 d11 d12 d13 d14 d15 d16 d17 d18 d19 d20 d21 d22 d23 d24 d25 d26 d27 d28 d29 d30 d31 d32 d33 d34 d35 d36 d37 d38 d39 d40 d41 d42 d43 d44 d45 d46 d47 d48 d49 d50 d51 d52 d53 d54 d55 d56 d57 d58 d59 d60 d61 d62 d63 d64 d65 d66 d67 d68 d69 d70 d71 d72 d73 d74 d75 d76 d77 d78 d79 d80 d81 d82 d83 d84 d85 d86 d87 d88 d89 d90 d91 d92 d93 d94 d95 d96 d97 d98 d99 d100 d101 d102 d103 d104 d105 d106 d107 d108 d109 d110 d111 : Value) (w : World) (R : Ending → World → Prop) : Prop :=
  seg Try.prog entE ip4_Build.ords ip4_Build.joins Try.f46 [1, 1, 1, 1, 1, 1, 1, 1, 1, 1, 1, 1] [1, 1, 1, 1, 1, 1, 1, 1, 1, 1, 1, 1] [] [d0, .pointer (some ⟨yg1, 0, none⟩), d2, d3, .pointer (some ⟨yg4, 0, none⟩), .int .i64 y5, .slice Y6 yn6 yc6, .int .u16 y7, d8, d9, d10, d11, d12, d13, d14, d15, d16, d17, d18, d19, d20, d21, d22, d23, d24, d25, d26, d27, d28, d29, d30, d31, d32, d33, d34, d35, d36, d37, d38, d39, d40, d41, d42, d43, d44, d45, d46, d47, d48, d49, d50, d51, d52, d53, d54, d55, d56, d57, d58, d59, d60, d61, d62, d63, d64, d65, d66, d67, d68, d69, d70, d71, d72, d73, d74, d75, d76, d77, d78, d79, d80, d81, d82, d83, d84, d85, d86, d87, d88, d89, d90, d91, d92, d93, d94, d95, d96, d97, d98, d99, d100, d101, d102, d103, d104, d105, d106, d107, d108, d109, d110, d111] w R
abbrev ip4_Build.J1 (yg1 : Nat) (yg4 : Nat) (y5 : Int) (Y6 : Option Addr) (yn6 : Nat) (yc6 : Nat) (y7 : Int) (w : World) (R : Ending → World → Prop) : Prop := ∀ d0 d2 d3 d8 d9 d10 d11 d12 d13 d14 d15 d16 d17 d18 d19 d20 d21 d22 d23 d24 d25 d26 d27 d28 d29 d30 d31 d32 d33 d34 d35 d36 d37 d38 d39 d40 d41 d42 d43 d44 d45 d46 d47 d48 d49 d50 d51 d52 d53 d54 d55 d56 d57 d58 d59 d60 d61 d62 d63 d64 d65 d66 d67 d68 d69 d70 d71 d72 d73 d74 d75 d76 d77 d78 d79 d80 d81 d82 d83 d84 d85 d86 d87 d88 d89 d90 d91 d92 d93 d94 d95 d96 d97 d98 d99 d100 d101 d102 d103 d104 d105 d106 d107 d108 d109 d110 d111 : Value, ip4_Build.j1 yg1 yg4 y5 Y6 yn6 yc6 y7 d0 d2 d3 d8 d9 d10 d11 d12 d13 d14 d15 d16 d17 d18 d19 d20 d21 d22 d23 d24 d25 d26 d27 d28 d29 d30 d31 d32 d33 d34 d35 d36 d37 d38 d39 d40 d41 d42 d43 d44 d45 d46 d47 d48 d49 d50 d51 d52 d53 d54 d55 d56 d57 d58 d59 d60 d61 d62 d63 d64 d65 d66 d67 d68 d69 d70 d71 d72 d73 d74 d75 d76 d77 d78 d79 d80 d81 d82 d83 d84 d85 d86 d87 d88 d89 d90 d91 d92 d93 d94 d95 d96 d97 d98 d99 d100 d101 d102 d103 d104 d105 d106 d107 d108 d109 d110 d111 w R
abbrev ip4_Build.J2 (yg1 : Nat) (yg4 : Nat) (y5 : Int) (Y6 : Option Addr) (yn6 : Nat) (yc6 : Nat) (y7 : Int) (w : World) (R : Ending → World → Prop) : Prop := ∀ d0 d2 d3 d8 d9 d10 d11 d12 d13 d14 d15 d16 d17 d18 d19 d20 d21 d22 d23 d24 d25 d26 d27 d28 d29 d30 d31 d32 d33 d34 d35 d36 d37 d38 d39 d40 d41 d42 d43 d44 d45 d46 d47 d48 d49 d50 d51 d52 d53 d54 d55 d56 d57 d58 d59 d60 d61 d62 d63 d64 d65 d66 d67 d68 d69 d70 d71 d72 d73 d74 d75 d76 d77 d78 d79 d80 d81 d82 d83 d84 d85 d86 d87 d88 d89 d90 d91 d92 d93 d94 d95 d96 d97 d98 d99 d100 d101 d102 d103 d104 d105 d106 d107 d108 d109 d110 d111 : Value, ip4_Build.j2 yg1 yg4 y5 Y6 yn6 yc6 y7 d0 d2 d3 d8 d9 d10 d11 d12 d13 d14 d15 d16 d17 d18 d19 d20 d21 d22 d23 d24 d25 d26 d27 d28 d29 d30 d31 d32 d33 d34 d35 d36 d37 d38 d39 d40 d41 d42 d43 d44 d45 d46 d47 d48 d49 d50 d51 d52 d53 d54 d55 d56 d57 d58 d59 d60 d61 d62 d63 d64 d65 d66 d67 d68 d69 d70 d71 d72 d73 d74 d75 d76 d77 d78 d79 d80 d81 d82 d83 d84 d85 d86 d87 d88 d89 d90 d91 d92 d93 d94 d95 d96 d97 d98 d99 d100 d101 d102 d103 d104 d105 d106 d107 d108 d109 d110 d111 w R
theorem ip4_Build.j1_eq (yg1 : Nat) (yg4 : Nat) (y5 : Int) (Y6 : Option Addr) (yn6 : Nat) (yc6 : Nat) (y7 : Int) (d0 d2 d3 d8 d9 d10 d11 d12 d13 d14 d15 d16 d17 d18 d19 d20 d21 d22 d23 d24 d25 d26 d27 d28 d29 d30 d31 d32 d33 d34 d35 d36 d37 d38 d39 d40 d41 d42 d43 d44 d45 d46 d47 d48 d49 d50 d51 d52 d53 d54 d55 d56 d57 d58 d59 d60 d61 d62 d63 d64 d65 d66 d67 d68 d69 d70 d71 d72 d73 d74 d75 d76 d77 d78 d79 d80 d81 d82 d83 d84 d85 d86 d87 d88 d89 d90 d91 d92 d93 d94 d95 d96 d97 d98 d99 d100 d101 d102 d103 d104 d105 d106 d107 d108 d109 d110 d111 : Value) (w : World) (R : Ending → World → Prop) : ip4_Build.j1 yg1 yg4 y5 Y6 yn6 yc6 y7 d0 d2 d3 d8 d9 d10 d11 d12 d13 d14 d15 d16 d17 d18 d19 d20 d21 d22 d23 d24 d25 d26 d27 d28 d29 d30 d31 d32 d33 d34 d35 d36 d37 d38 d39 d40 d41 d42 d43 d44 d45 d46 d47 d48 d49 d50 d51 d52 d53 d54 d55 d56 d57 d58 d59 d60 d61 d62 d63 d64 d65 d66 d67 d68 d69 d70 d71 d72 d73 d74 d75 d76 d77 d78 d79 d80 d81 d82 d83 d84 d85 d86 d87 d88 d89 d90 d91 d92 d93 d94 d95 d96 d97 d98 d99 d100 d101 d102 d103 d104 d105 d106 d107 d108 d109 d110 d111 w R =
(∃ b1 : Bool, w.cell? ⟨yg4, 3, none⟩ = some (.bool b1) ∧
((if b1 = true then
(Let (Go.bits .or .u16 y7 8192) fun x2 : Int =>
 Leaf (ip4_Build.j2 yg1 yg4 y5 Y6 yn6 yc6 x2 d0 d2 d3 d8 d9 d10 d11 d12 d13 d14 d15 d16 d17 d18 d19 d20 d21 d22 d23 d24 d25 d26 d27 d28 d29 d30 d31 d32 d33 d34 d35 d36 d37 d38 d39 d40 d41 d42 d43 d44 d45 d46 d47 d48 d49 d50 d51 d52 d53 d54 d55 d56 d57 d58 d59 d60 d61 d62 d63 d64 d65 d66 d67 (.pointer (some ⟨yg4, 3, none⟩)) (.bool b1) (.int .u16 y7) (.int .u16 x2) d72 d73 d74 d75 d76 d77 d78 d79 d80 d81 d82 d83 d84 d85 d86 d87 d88 d89 d90 d91 d92 d93 d94 d95 d96 d97 d98 d99 d100 d101 d102 d103 d104 d105 d106 d107 d108 d109 d110 d111 w R))
else
(Leaf (ip4_Build.j2 yg1 yg4 y5 Y6 yn6 yc6 y7 d0 d2 d3 d8 d9 d10 d11 d12 d13 d14 d15 d16 d17 d18 d19 d20 d21 d22 d23 d24 d25 d26 d27 d28 d29 d30 d31 d32 d33 d34 d35 d36 d37 d38 d39 d40 d41 d42 d43 d44 d45 d46 d47 d48 d49 d50 d51 d52 d53 d54 d55 d56 d57 d58 d59 d60 d61 d62 d63 d64 d65 d66 d67 (.pointer (some ⟨yg4, 3, none⟩)) (.bool b1) d70 d71 d72 d73 d74 d75 d76 d77 d78 d79 d80 d81 d82 d83 d84 d85 d86 d87 d88 d89 d90 d91 d92 d93 d94 d95 d96 d97 d98 d99 d100 d101 d102 d103 d104 d105 d106 d107 d108 d109 d110 d111 w R))))) := by kernel_rfl
theorem ip4_Build.j2_eq (yg1 : Nat) (yg4 : Nat) (y5 : Int) (Y6 : Option Addr) (yn6 : Nat) (yc6 : Nat) (y7 : Int) (d0 d2 d3 d8 d9 d10 d11 d12 d13 d14 d15 d16 d17 d18 d19 d20 d21 d22 d23 d24 d25 d26 d27 d28 d29 d30 d31 d32 d33 d34 d35 d36 d37 d38 d39 d40 d41 d42 d43 d44 d45 d46 d47 d48 d49 d50 d51 d52 d53 d54 d55 d56 d57 d58 d59 d60 d61 d62 d63 d64 d65 d66 d67 d68 d69 d70 d71 d72 d73 d74 d75 d76 d77 d78 d79 d80 d81 d82 d83 d84 d85 d86 d87 d88 d89 d90 d91 d92 d93 d94 d95 d96 d97 d98 d99 d100 d101 d102 d103 d104 d105 d106 d107 d108 d109 d110 d111 : Value) (w : World) (R : Ending → World → Prop) : ip4_Build.j2 yg1 yg4 y5 Y6 yn6 yc6 y7 d0 d2 d3 d8 d9 d10 d11 d12 d13 d14 d15 d16 d17 d18 d19 d20 d21 d22 d23 d24 d25 d26 d27 d28 d29 d30 d31 d32 d33 d34 d35 d36 d37 d38 d39 d40 d41 d42 d43 d44 d45 d46 d47 d48 d49 d50 d51 d52 d53 d54 d55 d56 d57 d58 d59 d60 d61 d62 d63 d64 d65 d66 d67 d68 d69 d70 d71 d72 d73 d74 d75 d76 d77 d78 d79 d80 d81 d82 d83 d84 d85 d86 d87 d88 d89 d90 d91 d92 d93 d94 d95 d96 d97 d98 d99 d100 d101 d102 d103 d104 d105 d106 d107 d108 d109 d110 d111 w R =
(Calls Try.prog 67 #[.slice Y6 yn6 yc6, .int .i64 6, .int .u16 y7] w (fun (e2 : Ending) (w1 : World) =>
 e2 = .returned (.tuple #[]) ∧
(∃ S3 : World → Prop, S3 w1.drew ∧
(Let (w1.drew) fun w4 : World =>
 ∃ x5 : Int, (∀ w', S3 w' → w'.cell? ⟨yg4, 5, none⟩ = some (.int .u8 x5)) ∧
(∃ x6 : Int, (∀ w', S3 w' → w'.cell? ⟨yg4, 6, none⟩ = some (.int .u8 x6)) ∧
(∃ a7 : Addr, Y6 = some a7 ∧ (0 ≤ (8 : Int) ∧ (8 : Int) < (yn6 : Int)) ∧
(MayC w4 (a7.add 8) ∧
(Let (w4.setCell (a7.add 8) (.int .u8 x5)) fun w8 : World =>
 S3 w8 ∧
(∃ a9 : Addr, Y6 = some a9 ∧ (0 ≤ (9 : Int) ∧ (9 : Int) < (yn6 : Int)) ∧
(MayC w8 (a9.add 9) ∧
(Let (w8.setCell (a9.add 9) (.int .u8 x6)) fun w10 : World =>
 S3 w10 ∧
(∃ x11 : Int, w10.cell? ⟨yg4, 7, none⟩ = some (.int .u32 x11) ∧
(Calls Try.prog 68 #[.slice Y6 yn6 yc6, .int .i64 12, .int .u32 x11] w10 (fun (e13 : Ending) (w12 : World) =>
 e13 = .returned (.tuple #[]) ∧
(∃ x14 : Int, w12.cell? ⟨yg4, 8, none⟩ = some (.int .u32 x14) ∧
(Calls Try.prog 68 #[.slice Y6 yn6 yc6, .int .i64 16, .int .u32 x14] w12 (fun (e16 : Ending) (w15 : World) =>
 e16 = .returned (.tuple #[]) ∧
(∃ S17 : World → Prop, S17 w15.drew ∧
(Let (w15.drew) fun w18 : World =>
(0 ≤ (20 : Int) ∧ (20 : Int) ≤ (yn6 : Int)) ∧
(∃ (A19 : Option Addr) (n19_ c19_ : Nat), (∀ w', S17 w' → w'.cell? ⟨yg4, 9, none⟩ = some (.slice A19 n19_ c19_)) ∧
(CopyE w18 (cutA Y6 20 yc6 1) (yn6 - 20) A19 n19_ (fun w20 : World =>
 S17 w20 ∧
(∃ S21 : World → Prop, S21 w20.drew ∧
(Let (w20.drew) fun w22 : World =>
(0 ≤ y5 ∧ y5 ≤ (yn6 : Int)) ∧
(∃ (A23 : Option Addr) (n23_ c23_ : Nat), (∀ w', S21 w' → w'.cell? ⟨yg1, 10, none⟩ = some (.slice A23 n23_ c23_)) ∧
(CopyE w22 (cutA Y6 y5.toNat yc6 1) (yn6 - y5.toNat) A23 n23_ (fun w24 : World =>
 S21 w24 ∧
(∃ S25 : World → Prop, S25 w24.drew ∧
(Let (w24.drew) fun w26 : World =>
(0 ≤ (10 : Int) ∧ (10 : Int) ≤ (yc6 : Int)) ∧
((0 ≤ y5 ∧ y5 ≤ (yc6 : Int)) ∧
(0 ≤ (12 : Int) ∧ (12 : Int) ≤ (y5.toNat : Int)) ∧
(Let (w26.heap.size) fun g27 : Nat =>
 Let (w26.alloc (.cells #[.slice Y6 10 yc6, .slice (cutA Y6 12 yc6 1) (y5.toNat - 12) (yc6 - 12)] 28)) fun w28 : World =>
 S25 w28 ∧
(Calls Try.prog 39 #[.slice (some ⟨g27, 0, none⟩) 2 2] w28 (fun (e30 : Ending) (w29 : World) =>
 ∃ x31 : Int, e30 = .returned (.int .u16 x31) ∧
(S25 w29 ∧
(Calls Try.prog 67 #[.slice Y6 yn6 yc6, .int .i64 10, .int .u16 x31] w29 (fun (e33 : Ending) (w32 : World) =>
 e33 = .returned (.tuple #[]) ∧
(S25 w32 ∧
(R (.returned (.tuple #[.slice Y6 yn6 yc6, .int .i64 0])) w32)))))))))))))))))))))))))))))))))))))) := by kernel_rfl
def ip4_Build.s (i0_0 : Int) (i0_1 : Int) (i0_2 : Bool) (i0_3 : Bool) (i0_4 : Int) (i0_5 : Int) (i0_6 : Int) (i0_7 : Int) (i0_8 : Int) (I0_9 : Option Addr) (in0_9 : Nat) (ic0_9 : Nat) (I0_10 : Option Addr) (in0_10 : Nat) (ic0_10 : Nat) (w : World) (R : Ending → World → Prop) : Prop :=
(Let (w.heap.size) fun g1 : Nat =>
 Let (w.alloc (.cells #[.int .u8 i0_0, .int .u16 i0_1, .bool i0_2, .bool i0_3, .int .i64 i0_4, .int .u8 i0_5, .int .u8 i0_6, .int .u32 i0_7, .int .u32 i0_8, .slice I0_9 in0_9 ic0_9, .slice I0_10 in0_10 ic0_10] 88)) fun w2 : World =>
 ∃ x3 : Int, ∃ x4 : Int, ∃ b5 : Bool, ∃ b6 : Bool, ∃ x7 : Int, ∃ x8 : Int, ∃ x9 : Int, ∃ x10 : Int, ∃ x11 : Int, ∃ (A12 : Option Addr) (n12_ c12_ : Nat), (10 = 10 ∧ At w2 ⟨g1, 0, none⟩ [.int .u8 x3, .int .u16 x4, .bool b5, .bool b6, .int .i64 x7, .int .u8 x8, .int .u8 x9, .int .u32 x10, .int .u32 x11, .slice A12 n12_ c12_]) ∧
(Let (w2.heap.size) fun g13 : Nat =>
 Let (w2.alloc (.cells #[.int .u8 0, .int .u16 0, .bool false, .bool false, .int .i64 0, .int .u8 0, .int .u8 0, .int .u32 0, .int .u32 0, .slice none 0 0] 86)) fun w14 : World =>
 May w14 ⟨g13, 0, none⟩ 10 ∧
(Let (putCells w14 ⟨g13, 0, none⟩ [.int .u8 x3, .int .u16 x4, .bool b5, .bool b6, .int .i64 x7, .int .u8 x8, .int .u8 x9, .int .u32 x10, .int .u32 x11, .slice A12 n12_ c12_] 0) fun w15 : World =>
 ∃ (A16 : Option Addr) (n16_ c16_ : Nat), w15.cell? ⟨g13, 9, none⟩ = some (.slice A16 n16_ c16_) ∧
(Calls Try.prog 65 #[.slice A16 n16_ c16_] w15 (fun (e18 : Ending) (w17 : World) =>
 ∃ b19 : Bool, e18 = .returned (.bool b19) ∧
((if (!b19) = true then
(R (.returned (.tuple #[.slice none 0 0, .int .i64 34])) w17)
else
(∃ x20 : Int, w17.cell? ⟨g13, 4, none⟩ = some (.int .i64 x20) ∧
(∃ (A21 : Option Addr) (n21_ c21_ : Nat), w17.cell? ⟨g1, 10, none⟩ = some (.slice A21 n21_ c21_) ∧
(∃ b22 : Bool, w17.cell? ⟨g13, 3, none⟩ = some (.bool b22) ∧
(Calls Try.prog 66 #[.int .i64 x20, .int .i64 (n21_ : Int), .bool b22] w17 (fun (e24 : Ending) (w23 : World) =>
 ∃ b25 : Bool, e24 = .returned (.bool b25) ∧
((if (!b25) = true then
(R (.returned (.tuple #[.slice none 0 0, .int .i64 36])) w23)
else
(∃ (A26 : Option Addr) (n26_ c26_ : Nat), w23.cell? ⟨g13, 9, none⟩ = some (.slice A26 n26_ c26_) ∧
(Let (IntKind.i64.wrap (20 + (n26_ : Int))) fun x27 : Int =>
 ∃ (A28 : Option Addr) (n28_ c28_ : Nat), w23.cell? ⟨g1, 10, none⟩ = some (.slice A28 n28_ c28_) ∧
(Let (IntKind.i64.wrap (x27 + (n28_ : Int))) fun x29 : Int =>
(if decide (x29 > 65535) = true then
(R (.returned (.tuple #[.slice none 0 0, .int .i64 37])) w23)
else
(∃ (A30 : Option Addr) (n30_ c30_ : Nat), w23.cell? ⟨g1, 10, none⟩ = some (.slice A30 n30_ c30_) ∧
(Let (IntKind.i64.wrap (x27 + (n30_ : Int))) fun x31 : Int =>
(0 ≤ x31 ∧ x31 ≤ x31 ∧ x31 ≤ 9223372036854775807 ∧ (1 : Int) * x31 ≤ 281474976710656) ∧
(Let (w23.heap.size) fun g32 : Nat =>
 Let (w23.alloc (.cells (List.replicate x31.toNat (.int .u8 0)).toArray 5)) fun w33 : World =>
 ∃ S34 : World → Prop, S34 w33.drew ∧
(Let (w33.drew) fun w35 : World =>
 Let (IntKind.i64.wrap (Int.tdiv x27 4)) fun x36 : Int =>
 Let (Go.bits .or .i64 64 x36) fun x37 : Int =>
 Let (IntKind.u8.wrap x37) fun x38 : Int =>
 ∃ x39 : Int, (∀ w', S34 w' → w'.cell? ⟨g13, 0, none⟩ = some (.int .u8 x39)) ∧
(∃ a40 : Addr, some ⟨g32, 0, none⟩ = some a40 ∧ (0 ≤ (0 : Int) ∧ (0 : Int) < (x31.toNat : Int)) ∧
(MayC w35 a40 ∧
(Let (w35.setCell a40 (.int .u8 x38)) fun w41 : World =>
 S34 w41 ∧
(∃ a42 : Addr, some ⟨g32, 0, none⟩ = some a42 ∧ (0 ≤ (1 : Int) ∧ (1 : Int) < (x31.toNat : Int)) ∧
(MayC w41 (a42.add 1) ∧
(Let (w41.setCell (a42.add 1) (.int .u8 x39)) fun w43 : World =>
 S34 w43 ∧
(Let (IntKind.u16.wrap (x31.toNat : Int)) fun x44 : Int =>
 Calls Try.prog 67 #[.slice (some ⟨g32, 0, none⟩) x31.toNat x31.toNat, .int .i64 2, .int .u16 x44] w43 (fun (e46 : Ending) (w45 : World) =>
 e46 = .returned (.tuple #[]) ∧
(∃ x47 : Int, w45.cell? ⟨g13, 1, none⟩ = some (.int .u16 x47) ∧
(Calls Try.prog 67 #[.slice (some ⟨g32, 0, none⟩) x31.toNat x31.toNat, .int .i64 4, .int .u16 x47] w45 (fun (e49 : Ending) (w48 : World) =>
 e49 = .returned (.tuple #[]) ∧
(∃ x50 : Int, w48.cell? ⟨g13, 4, none⟩ = some (.int .i64 x50) ∧
(Let (IntKind.i64.wrap (Int.tdiv x50 8)) fun x51 : Int =>
 Let (IntKind.u16.wrap x51) fun x52 : Int =>
 ∃ b53 : Bool, w48.cell? ⟨g13, 2, none⟩ = some (.bool b53) ∧
((if b53 = true then
(Let (Go.bits .or .u16 x52 16384) fun x54 : Int =>
 Leaf (ip4_Build.j1 g1 g13 x27 (some ⟨g32, 0, none⟩) x31.toNat x31.toNat x54 (.agg #[.int .u8 i0_0, .int .u16 i0_1, .bool i0_2, .bool i0_3, .int .i64 i0_4, .int .u8 i0_5, .int .u8 i0_6, .int .u32 i0_7, .int .u32 i0_8, .slice I0_9 in0_9 ic0_9, .slice I0_10 in0_10 ic0_10]) (.slice none 0 0) (.int .i64 0) (.pointer (some ⟨g1, 0, none⟩)) (.agg #[.int .u8 x3, .int .u16 x4, .bool b5, .bool b6, .int .i64 x7, .int .u8 x8, .int .u8 x9, .int .u32 x10, .int .u32 x11, .slice A12 n12_ c12_]) (.bool (!b19)) (.pointer (some ⟨g13, 9, none⟩)) (.slice A16 n16_ c16_) (.bool b19) (.bool (!b19)) (.bool (!b25)) (.pointer (some ⟨g13, 4, none⟩)) (.int .i64 x20) (.pointer (some ⟨g1, 10, none⟩)) (.slice A21 n21_ c21_) (.int .i64 (n21_ : Int)) (.pointer (some ⟨g13, 3, none⟩)) (.bool b22) (.bool b25) (.bool (!b25)) (.pointer (some ⟨g13, 9, none⟩)) (.slice A26 n26_ c26_) (.int .i64 (n26_ : Int)) (.int .i64 x27) (.int .i64 x27) (.pointer (some ⟨g1, 10, none⟩)) (.slice A28 n28_ c28_) (.int .i64 (n28_ : Int)) (.int .i64 x29) (.bool (decide (x29 > 65535))) (.int .i64 x27) (.pointer (some ⟨g1, 10, none⟩)) (.slice A30 n30_ c30_) (.int .i64 (n30_ : Int)) (.int .i64 x31) (.slice (some ⟨g32, 0, none⟩) x31.toNat x31.toNat) (.slice (some ⟨g32, 0, none⟩) x31.toNat x31.toNat) (.slice (some ⟨g32, 0, none⟩) x31.toNat x31.toNat) (.int .i64 x27) (.int .i64 x36) (.int .i64 x37) (.int .u8 x38) (.pointer (some ⟨g13, 0, none⟩)) (.int .u8 x39) (.pointer (some a40)) (.pointer (some (a42.add 1))) (.slice (some ⟨g32, 0, none⟩) x31.toNat x31.toNat) (.slice (some ⟨g32, 0, none⟩) x31.toNat x31.toNat) (.int .i64 (x31.toNat : Int)) (.int .u16 x44) (.tuple #[]) (.slice (some ⟨g32, 0, none⟩) x31.toNat x31.toNat) (.pointer (some ⟨g13, 1, none⟩)) (.int .u16 x47) (.tuple #[]) (.pointer (some ⟨g13, 4, none⟩)) (.int .i64 x50) (.int .i64 x51) (.int .u16 x52) (.pointer (some ⟨g13, 2, none⟩)) (.bool b53) (.int .u16 x52) (.int .u16 x54) undef undef undef undef undef undef undef undef undef undef undef undef undef undef undef undef undef undef undef undef undef undef undef undef undef undef undef undef undef undef undef undef undef undef undef undef undef undef undef undef undef undef undef undef w48 R))
else
(Leaf (ip4_Build.j1 g1 g13 x27 (some ⟨g32, 0, none⟩) x31.toNat x31.toNat x52 (.agg #[.int .u8 i0_0, .int .u16 i0_1, .bool i0_2, .bool i0_3, .int .i64 i0_4, .int .u8 i0_5, .int .u8 i0_6, .int .u32 i0_7, .int .u32 i0_8, .slice I0_9 in0_9 ic0_9, .slice I0_10 in0_10 ic0_10]) (.slice none 0 0) (.int .i64 0) (.pointer (some ⟨g1, 0, none⟩)) (.agg #[.int .u8 x3, .int .u16 x4, .bool b5, .bool b6, .int .i64 x7, .int .u8 x8, .int .u8 x9, .int .u32 x10, .int .u32 x11, .slice A12 n12_ c12_]) (.bool (!b19)) (.pointer (some ⟨g13, 9, none⟩)) (.slice A16 n16_ c16_) (.bool b19) (.bool (!b19)) (.bool (!b25)) (.pointer (some ⟨g13, 4, none⟩)) (.int .i64 x20) (.pointer (some ⟨g1, 10, none⟩)) (.slice A21 n21_ c21_) (.int .i64 (n21_ : Int)) (.pointer (some ⟨g13, 3, none⟩)) (.bool b22) (.bool b25) (.bool (!b25)) (.pointer (some ⟨g13, 9, none⟩)) (.slice A26 n26_ c26_) (.int .i64 (n26_ : Int)) (.int .i64 x27) (.int .i64 x27) (.pointer (some ⟨g1, 10, none⟩)) (.slice A28 n28_ c28_) (.int .i64 (n28_ : Int)) (.int .i64 x29) (.bool (decide (x29 > 65535))) (.int .i64 x27) (.pointer (some ⟨g1, 10, none⟩)) (.slice A30 n30_ c30_) (.int .i64 (n30_ : Int)) (.int .i64 x31) (.slice (some ⟨g32, 0, none⟩) x31.toNat x31.toNat) (.slice (some ⟨g32, 0, none⟩) x31.toNat x31.toNat) (.slice (some ⟨g32, 0, none⟩) x31.toNat x31.toNat) (.int .i64 x27) (.int .i64 x36) (.int .i64 x37) (.int .u8 x38) (.pointer (some ⟨g13, 0, none⟩)) (.int .u8 x39) (.pointer (some a40)) (.pointer (some (a42.add 1))) (.slice (some ⟨g32, 0, none⟩) x31.toNat x31.toNat) (.slice (some ⟨g32, 0, none⟩) x31.toNat x31.toNat) (.int .i64 (x31.toNat : Int)) (.int .u16 x44) (.tuple #[]) (.slice (some ⟨g32, 0, none⟩) x31.toNat x31.toNat) (.pointer (some ⟨g13, 1, none⟩)) (.int .u16 x47) (.tuple #[]) (.pointer (some ⟨g13, 4, none⟩)) (.int .i64 x50) (.int .i64 x51) (.int .u16 x52) (.pointer (some ⟨g13, 2, none⟩)) (.bool b53) undef undef undef undef undef undef undef undef undef undef undef undef undef undef undef undef undef undef undef undef undef undef undef undef undef undef undef undef undef undef undef undef undef undef undef undef undef undef undef undef undef undef undef undef undef undef w48 R)))))))))))))))))))))))))))))))))))))))
theorem ip4_Build.s_eq (i0_0 : Int) (i0_1 : Int) (i0_2 : Bool) (i0_3 : Bool) (i0_4 : Int) (i0_5 : Int) (i0_6 : Int) (i0_7 : Int) (i0_8 : Int) (I0_9 : Option Addr) (in0_9 : Nat) (ic0_9 : Nat) (I0_10 : Option Addr) (in0_10 : Nat) (ic0_10 : Nat) (w : World) (R : Ending → World → Prop) : seg Try.prog entE ip4_Build.ords ip4_Build.joins Try.f46 [] [] [] ([.agg #[.int .u8 i0_0, .int .u16 i0_1, .bool i0_2, .bool i0_3, .int .i64 i0_4, .int .u8 i0_5, .int .u8 i0_6, .int .u32 i0_7, .int .u32 i0_8, .slice I0_9 in0_9 ic0_9, .slice I0_10 in0_10 ic0_10]] ++ List.replicate (Try.f46.ntmps - ([.agg #[.int .u8 i0_0, .int .u16 i0_1, .bool i0_2, .bool i0_3, .int .i64 i0_4, .int .u8 i0_5, .int .u8 i0_6, .int .u32 i0_7, .int .u32 i0_8, .slice I0_9 in0_9 ic0_9, .slice I0_10 in0_10 ic0_10]] : List Value).length) undef) w R = ip4_Build.s i0_0 i0_1 i0_2 i0_3 i0_4 i0_5 i0_6 i0_7 i0_8 I0_9 in0_9 ic0_9 I0_10 in0_10 ic0_10 w R := by kernel_rfl
theorem ip4_Build.run {i0_0 : Int} {i0_1 : Int} {i0_2 : Bool} {i0_3 : Bool} {i0_4 : Int} {i0_5 : Int} {i0_6 : Int} {i0_7 : Int} {i0_8 : Int} {I0_9 : Option Addr} {in0_9 : Nat} {ic0_9 : Nat} {I0_10 : Option Addr} {in0_10 : Nat} {ic0_10 : Nat} {w : World} {R : Ending → World → Prop} (h : ip4_Build.s i0_0 i0_1 i0_2 i0_3 i0_4 i0_5 i0_6 i0_7 i0_8 I0_9 in0_9 ic0_9 I0_10 in0_10 ic0_10 w R) : Calls Try.prog 46 #[.agg #[.int .u8 i0_0, .int .u16 i0_1, .bool i0_2, .bool i0_3, .int .i64 i0_4, .int .u8 i0_5, .int .u8 i0_6, .int .u32 i0_7, .int .u32 i0_8, .slice I0_9 in0_9 ic0_9, .slice I0_10 in0_10 ic0_10]] w R :=
  calls_seg ents mixed Try.func46 rfl (by rw [ip4_Build.s_eq]; exact h)
/-! ### ip4_Parse: function 52 -/
def ip4_Parse.ords : Nat → Od
  | 5 => (.tk 0 (.tk 1 (.tk 2 (.tk 3 (.tk 4 (.tk 5 (.tk 6 (.on 7 (.tk 8 (.tk 9 (.tk 10 (.tk 11 (.tk 12 (.on 13 (.tk 14 (.on 15 .nil))))))))))))))))
  | _ => .nil
def ip4_Parse.joins (p : List Nat) : Bool := false
def ip4_Parse.s (I0 : Option Addr) (in0 : Nat) (ic0 : Nat) (w : World) (R : Ending → World → Prop) : Prop :=
(Let (w.heap.size) fun g1 : Nat =>
 Let (w.alloc (.cells #[.int .u8 0, .int .u16 0, .bool false, .bool false, .int .i64 0, .int .u8 0, .int .u8 0, .int .u32 0, .int .u32 0, .slice none 0 0, .slice none 0 0] 88)) fun w2 : World =>
 Calls Try.prog 71 #[.slice I0 in0 ic0, .bool true] w2 (fun (e4 : Ending) (w3 : World) =>
 ∃ x5 : Int, ∃ x6 : Int, ∃ b7 : Bool, ∃ b8 : Bool, ∃ x9 : Int, ∃ x10 : Int, ∃ x11 : Int, ∃ x12 : Int, ∃ x13 : Int, ∃ (A14 : Option Addr) (n14_ c14_ : Nat), ∃ x15 : Int, ∃ x16 : Int, ∃ x17 : Int, e4 = .returned (.tuple #[.agg #[.int .u8 x5, .int .u16 x6, .bool b7, .bool b8, .int .i64 x9, .int .u8 x10, .int .u8 x11, .int .u32 x12, .int .u32 x13, .slice A14 n14_ c14_], .int .i64 x15, .int .i64 x16, .int .i64 x17]) ∧
(Let (w3.heap.size) fun g18 : Nat =>
 Let (w3.alloc (.cells #[.int .u8 0, .int .u16 0, .bool false, .bool false, .int .i64 0, .int .u8 0, .int .u8 0, .int .u32 0, .int .u32 0, .slice none 0 0] 86)) fun w19 : World =>
 May w19 ⟨g18, 0, none⟩ 10 ∧
(Let (putCells w19 ⟨g18, 0, none⟩ [.int .u8 x5, .int .u16 x6, .bool b7, .bool b8, .int .i64 x9, .int .u8 x10, .int .u8 x11, .int .u32 x12, .int .u32 x13, .slice A14 n14_ c14_] 0) fun w20 : World =>
(if (x17 != 0) = true then
(May w20 ⟨g1, 0, none⟩ 11 ∧
(Let (putCells w20 ⟨g1, 0, none⟩ [.int .u8 0, .int .u16 0, .bool false, .bool false, .int .i64 0, .int .u8 0, .int .u8 0, .int .u32 0, .int .u32 0, .slice none 0 0, .slice none 0 0] 0) fun w21 : World =>
 ∃ x22 : Int, ∃ x23 : Int, ∃ b24 : Bool, ∃ b25 : Bool, ∃ x26 : Int, ∃ x27 : Int, ∃ x28 : Int, ∃ x29 : Int, ∃ x30 : Int, ∃ (A31 : Option Addr) (n31_ c31_ : Nat), ∃ (A32 : Option Addr) (n32_ c32_ : Nat), (11 = 11 ∧ At w21 ⟨g1, 0, none⟩ [.int .u8 x22, .int .u16 x23, .bool b24, .bool b25, .int .i64 x26, .int .u8 x27, .int .u8 x28, .int .u32 x29, .int .u32 x30, .slice A31 n31_ c31_, .slice A32 n32_ c32_]) ∧
(R (.returned (.tuple #[.agg #[.int .u8 x22, .int .u16 x23, .bool b24, .bool b25, .int .i64 x26, .int .u8 x27, .int .u8 x28, .int .u32 x29, .int .u32 x30, .slice A31 n31_ c31_, .slice A32 n32_ c32_], .int .i64 x17])) w21)))
else
(∃ x33 : Int, ∃ x34 : Int, ∃ b35 : Bool, ∃ b36 : Bool, ∃ x37 : Int, ∃ x38 : Int, ∃ x39 : Int, ∃ x40 : Int, ∃ x41 : Int, ∃ (A42 : Option Addr) (n42_ c42_ : Nat), (10 = 10 ∧ At w20 ⟨g18, 0, none⟩ [.int .u8 x33, .int .u16 x34, .bool b35, .bool b36, .int .i64 x37, .int .u8 x38, .int .u8 x39, .int .u32 x40, .int .u32 x41, .slice A42 n42_ c42_]) ∧
(Let (w20.heap.size) fun g43 : Nat =>
 Let (w20.alloc (.cells #[.int .u8 0, .int .u16 0, .bool false, .bool false, .int .i64 0, .int .u8 0, .int .u8 0, .int .u32 0, .int .u32 0, .slice none 0 0, .slice none 0 0] 88)) fun w44 : World =>
 May w44 ⟨g43, 0, none⟩ 11 ∧
(Let (putCells w44 ⟨g43, 0, none⟩ [.int .u8 x33, .int .u16 x34, .bool b35, .bool b36, .int .i64 x37, .int .u8 x38, .int .u8 x39, .int .u32 x40, .int .u32 x41, .slice A42 n42_ c42_, .slice none 0 0] 0) fun w45 : World =>
 ∃ S46 : World → Prop, S46 w45.drew ∧
(Let (w45.drew) fun w47 : World =>
(0 ≤ x15 ∧ x15 ≤ (ic0 : Int)) ∧
(0 ≤ (20 : Int) ∧ (20 : Int) ≤ (x15.toNat : Int)) ∧
((0 ≤ x16 ∧ x16 ≤ (ic0 : Int)) ∧
(0 ≤ x15 ∧ x15 ≤ (x16.toNat : Int)) ∧
(Calls Try.prog 72 #[.slice (cutA I0 20 ic0 1) (x15.toNat - 20) (ic0 - 20), .slice (cutA I0 x15.toNat ic0 1) (x16.toNat - x15.toNat) (ic0 - x15.toNat)] w47 (fun (e49 : Ending) (w48 : World) =>
 ∃ (A50 : Option Addr) (n50_ c50_ : Nat), ∃ (A51 : Option Addr) (n51_ c51_ : Nat), e49 = .returned (.tuple #[.slice A50 n50_ c50_, .slice A51 n51_ c51_]) ∧
(S46 w48 ∧
(MayC w48 ⟨g43, 9, none⟩ ∧
(Let (w48.setCell ⟨g43, 9, none⟩ (.slice A50 n50_ c50_)) fun w52 : World =>
 S46 w52 ∧
(MayC w52 ⟨g43, 10, none⟩ ∧
(Let (w52.setCell ⟨g43, 10, none⟩ (.slice A51 n51_ c51_)) fun w53 : World =>
 S46 w53 ∧
(∃ x54 : Int, ∃ x55 : Int, ∃ b56 : Bool, ∃ b57 : Bool, ∃ x58 : Int, ∃ x59 : Int, ∃ x60 : Int, ∃ x61 : Int, ∃ x62 : Int, ∃ (A63 : Option Addr) (n63_ c63_ : Nat), ∃ (A64 : Option Addr) (n64_ c64_ : Nat), (11 = 11 ∧ At w53 ⟨g43, 0, none⟩ [.int .u8 x54, .int .u16 x55, .bool b56, .bool b57, .int .i64 x58, .int .u8 x59, .int .u8 x60, .int .u32 x61, .int .u32 x62, .slice A63 n63_ c63_, .slice A64 n64_ c64_]) ∧
(May w53 ⟨g1, 0, none⟩ 11 ∧
(Let (putCells w53 ⟨g1, 0, none⟩ [.int .u8 x54, .int .u16 x55, .bool b56, .bool b57, .int .i64 x58, .int .u8 x59, .int .u8 x60, .int .u32 x61, .int .u32 x62, .slice A63 n63_ c63_, .slice A64 n64_ c64_] 0) fun w65 : World =>
 ∃ x66 : Int, ∃ x67 : Int, ∃ b68 : Bool, ∃ b69 : Bool, ∃ x70 : Int, ∃ x71 : Int, ∃ x72 : Int, ∃ x73 : Int, ∃ x74 : Int, ∃ (A75 : Option Addr) (n75_ c75_ : Nat), ∃ (A76 : Option Addr) (n76_ c76_ : Nat), (11 = 11 ∧ At w65 ⟨g1, 0, none⟩ [.int .u8 x66, .int .u16 x67, .bool b68, .bool b69, .int .i64 x70, .int .u8 x71, .int .u8 x72, .int .u32 x73, .int .u32 x74, .slice A75 n75_ c75_, .slice A76 n76_ c76_]) ∧
(R (.returned (.tuple #[.agg #[.int .u8 x66, .int .u16 x67, .bool b68, .bool b69, .int .i64 x70, .int .u8 x71, .int .u8 x72, .int .u32 x73, .int .u32 x74, .slice A75 n75_ c75_, .slice A76 n76_ c76_], .int .i64 0])) w65)))))))))))))))))))))
theorem ip4_Parse.s_eq (I0 : Option Addr) (in0 : Nat) (ic0 : Nat) (w : World) (R : Ending → World → Prop) : seg Try.prog entE ip4_Parse.ords ip4_Parse.joins Try.f52 [] [] [] ([.slice I0 in0 ic0] ++ List.replicate (Try.f52.ntmps - ([.slice I0 in0 ic0] : List Value).length) undef) w R = ip4_Parse.s I0 in0 ic0 w R := by kernel_rfl
theorem ip4_Parse.run {I0 : Option Addr} {in0 : Nat} {ic0 : Nat} {w : World} {R : Ending → World → Prop} (h : ip4_Parse.s I0 in0 ic0 w R) : Calls Try.prog 52 #[.slice I0 in0 ic0] w R :=
  calls_seg ents mixed Try.func52 rfl (by rw [ip4_Parse.s_eq]; exact h)
end Go.Proofs.YtleelkkddjldnaaS
