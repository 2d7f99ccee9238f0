/- What functions of the program come to, told by a program of this session out of the translation; the kernel computes each statement out of the code.
   Conditions: none. -/
import Derived.Test.YtleelkkddjldnaaSBase
namespace Go.Proofs.YtleelkkddjldnaaS
open Go Go.Proofs
set_option maxRecDepth 100000
set_option linter.unusedVariables false
/-! ### weftref3_clone: function 85 -/
def weftref3_clone.ords : Nat → Od
  | _ => .nil
def weftref3_clone.joins (p : List Nat) : Bool := false
def weftref3_clone.l1 (n : Nat) (Y0 : Option Addr) (yn0 : Nat) (yc0 : Nat) (Y3 : Option Addr) (yn3 : Nat) (yc3 : Nat) (y4 : Int) (d1 d2 d5 d6 d7 d8 d9 d10 d11 d12 d13 d14 d15 d16 d17 d18 : Value) (w : World) (R : Ending → World → Prop) : Prop :=
  lseg Try.prog entE weftref3_clone.ords weftref3_clone.joins Try.f85 [1, 1, 0, 1, 0] [0, 1, 0, 1, 1] [] n [.slice Y0 yn0 yc0, d1, d2, .slice Y3 yn3 yc3, .int .i64 y4, d5, d6, d7, d8, d9, d10, d11, d12, d13, d14, d15, d16, d17, d18] w R
abbrev weftref3_clone.L1 (n : Nat) (Y0 : Option Addr) (yn0 : Nat) (yc0 : Nat) (Y3 : Option Addr) (yn3 : Nat) (yc3 : Nat) (y4 : Int) (w : World) (R : Ending → World → Prop) : Prop := ∀ d1 d2 d5 d6 d7 d8 d9 d10 d11 d12 d13 d14 d15 d16 d17 d18 : Value, weftref3_clone.l1 n Y0 yn0 yc0 Y3 yn3 yc3 y4 d1 d2 d5 d6 d7 d8 d9 d10 d11 d12 d13 d14 d15 d16 d17 d18 w R
theorem weftref3_clone.l1_eq (n : Nat) (Y0 : Option Addr) (yn0 : Nat) (yc0 : Nat) (Y3 : Option Addr) (yn3 : Nat) (yc3 : Nat) (y4 : Int) (d1 d2 d5 d6 d7 d8 d9 d10 d11 d12 d13 d14 d15 d16 d17 d18 : Value) (w : World) (R : Ending → World → Prop) : weftref3_clone.l1 (n + 1) Y0 yn0 yc0 Y3 yn3 yc3 y4 d1 d2 d5 d6 d7 d8 d9 d10 d11 d12 d13 d14 d15 d16 d17 d18 w R =
((if decide (y4 < (yn0 : Int)) = true then
(∃ a1 : Addr, Y0 = some a1 ∧ (0 ≤ y4 ∧ y4 < (yn0 : Int)) ∧
(∃ x2 : Int, w.cell? (a1.add y4.toNat) = some (.int .u8 x2) ∧
(Let (w.heap.size) fun g3 : Nat =>
 Let (w.alloc (.cells #[.int .u8 x2] 5)) fun w4 : World =>
 AppE w4 1 1 5 [.int .u8 0] Y3 yn3 yc3 (some ⟨g3, 0, none⟩) 1 (fun (A5 : Option Addr) (c6 : Nat) (w7 : World) =>
 Let (IntKind.i64.wrap (y4 + 1)) fun x8 : Int =>
 weftref3_clone.l1 n Y0 yn0 yc0 A5 (yn3 + 1) c6 x8 d1 d2 (.int .i64 y4) (.slice Y0 yn0 yc0) (.int .i64 (yn0 : Int)) (.bool (decide (y4 < (yn0 : Int)))) (.int .i64 y4) (.int .i64 x8) (.slice Y3 yn3 yc3) (.slice Y0 yn0 yc0) (.int .i64 y4) (.pointer (some (a1.add y4.toNat))) (.int .u8 x2) (.slice (some ⟨g3, 0, none⟩) 1 1) (.slice A5 (yn3 + 1) c6) d18 w7 R))))
else
(R (.returned (.slice Y3 yn3 yc3)) w))) := by kernel_rfl
def weftref3_clone.s (I0 : Option Addr) (in0 : Nat) (ic0 : Nat) (w : World) (R : Ending → World → Prop) : Prop :=
(∃ n1 : Nat, weftref3_clone.l1 n1 I0 in0 ic0 none 0 0 0 undef (.slice none 0 0) undef undef undef undef undef undef undef undef undef undef undef undef undef undef w R)
theorem weftref3_clone.s_eq (I0 : Option Addr) (in0 : Nat) (ic0 : Nat) (w : World) (R : Ending → World → Prop) : seg Try.prog entE weftref3_clone.ords weftref3_clone.joins Try.f85 [] [] [] ([.slice I0 in0 ic0] ++ List.replicate (Try.f85.ntmps - ([.slice I0 in0 ic0] : List Value).length) undef) w R = weftref3_clone.s I0 in0 ic0 w R := by kernel_rfl
theorem weftref3_clone.run {I0 : Option Addr} {in0 : Nat} {ic0 : Nat} {w : World} {R : Ending → World → Prop} (h : weftref3_clone.s I0 in0 ic0 w R) : Calls Try.prog 85 #[.slice I0 in0 ic0] w R :=
  calls_seg ents mixed Try.func85 rfl (by rw [weftref3_clone.s_eq]; exact h)
/-! ### weftref3_two: function 83 -/
def weftref3_two.ords : Nat → Od
  | 1 => (.tk 0 (.tk 1 (.tk 2 (.tk 3 (.tk 4 (.tk 5 (.tk 6 (.tk 7 (.tk 8 (.tk 9 (.tk 10 (.tk 11 (.tk 12 (.tk 13 .nil))))))))))))))
  | _ => .nil
def weftref3_two.joins (p : List Nat) : Bool := false
def weftref3_two.s (I0 : Option Addr) (in0 : Nat) (ic0 : Nat) (i1 : Int) (w : World) (R : Ending → World → Prop) : Prop :=
(∃ S1 : World → Prop, S1 w.drew ∧
(Let (w.drew) fun w2 : World =>
 ∃ a3 : Addr, I0 = some a3 ∧ (0 ≤ i1 ∧ i1 < (in0 : Int)) ∧
(∃ x4 : Int, (∀ w', S1 w' → w'.cell? (a3.add i1.toNat) = some (.int .u8 x4)) ∧
(Let (IntKind.i64.wrap x4) fun x5 : Int =>
 Let (IntKind.i64.wrap (256 * x5)) fun x6 : Int =>
 Let (IntKind.i64.wrap (i1 + 1)) fun x7 : Int =>
 ∃ a8 : Addr, I0 = some a8 ∧ (0 ≤ x7 ∧ x7 < (in0 : Int)) ∧
(∃ x9 : Int, (∀ w', S1 w' → w'.cell? (a8.add x7.toNat) = some (.int .u8 x9)) ∧
(Let (IntKind.i64.wrap x9) fun x10 : Int =>
 Let (IntKind.i64.wrap (x6 + x10)) fun x11 : Int =>
 R (.returned (.int .i64 x11)) w2))))))
theorem weftref3_two.s_eq (I0 : Option Addr) (in0 : Nat) (ic0 : Nat) (i1 : Int) (w : World) (R : Ending → World → Prop) : seg Try.prog entE weftref3_two.ords weftref3_two.joins Try.f83 [] [] [] ([.slice I0 in0 ic0, .int .i64 i1] ++ List.replicate (Try.f83.ntmps - ([.slice I0 in0 ic0, .int .i64 i1] : List Value).length) undef) w R = weftref3_two.s I0 in0 ic0 i1 w R := by kernel_rfl
theorem weftref3_two.run {I0 : Option Addr} {in0 : Nat} {ic0 : Nat} {i1 : Int} {w : World} {R : Ending → World → Prop} (h : weftref3_two.s I0 in0 ic0 i1 w R) : Calls Try.prog 83 #[.slice I0 in0 ic0, .int .i64 i1] w R :=
  calls_seg ents mixed Try.func83 rfl (by rw [weftref3_two.s_eq]; exact h)
/-! ### weftref3_four: function 84 -/
def weftref3_four.ords : Nat → Od
  | _ => .nil
def weftref3_four.joins (p : List Nat) : Bool := false
def weftref3_four.s (I0 : Option Addr) (in0 : Nat) (ic0 : Nat) (i1 : Int) (w : World) (R : Ending → World → Prop) : Prop :=
(Calls Try.prog 83 #[.slice I0 in0 ic0, .int .i64 i1] w (fun (e2 : Ending) (w1 : World) =>
 ∃ x3 : Int, e2 = .returned (.int .i64 x3) ∧
(Let (IntKind.i64.wrap (65536 * x3)) fun x4 : Int =>
 Let (IntKind.i64.wrap (i1 + 2)) fun x5 : Int =>
 Calls Try.prog 83 #[.slice I0 in0 ic0, .int .i64 x5] w1 (fun (e7 : Ending) (w6 : World) =>
 ∃ x8 : Int, e7 = .returned (.int .i64 x8) ∧
(Let (IntKind.i64.wrap (x4 + x8)) fun x9 : Int =>
 R (.returned (.int .i64 x9)) w6)))))
theorem weftref3_four.s_eq (I0 : Option Addr) (in0 : Nat) (ic0 : Nat) (i1 : Int) (w : World) (R : Ending → World → Prop) : seg Try.prog entE weftref3_four.ords weftref3_four.joins Try.f84 [] [] [] ([.slice I0 in0 ic0, .int .i64 i1] ++ List.replicate (Try.f84.ntmps - ([.slice I0 in0 ic0, .int .i64 i1] : List Value).length) undef) w R = weftref3_four.s I0 in0 ic0 i1 w R := by kernel_rfl
theorem weftref3_four.run {I0 : Option Addr} {in0 : Nat} {ic0 : Nat} {i1 : Int} {w : World} {R : Ending → World → Prop} (h : weftref3_four.s I0 in0 ic0 i1 w R) : Calls Try.prog 84 #[.slice I0 in0 ic0, .int .i64 i1] w R :=
  calls_seg ents mixed Try.func84 rfl (by rw [weftref3_four.s_eq]; exact h)
/-! ### weftref3_put2: function 78 -/
def weftref3_put2.ords : Nat → Od
  | _ => .nil
def weftref3_put2.joins (p : List Nat) : Bool := false
def weftref3_put2.s (I0 : Option Addr) (in0 : Nat) (ic0 : Nat) (i1 : Int) (w : World) (R : Ending → World → Prop) : Prop :=
(Let (IntKind.i64.wrap (Int.tdiv i1 256)) fun x1 : Int =>
 Let (IntKind.u8.wrap x1) fun x2 : Int =>
 Let (Int.tmod i1 256) fun x3 : Int =>
 Let (IntKind.u8.wrap x3) fun x4 : Int =>
 Let (w.heap.size) fun g5 : Nat =>
 Let (w.alloc (.cells #[.int .u8 x2, .int .u8 x4] 5)) fun w6 : World =>
 AppE w6 1 1 5 [.int .u8 0] I0 in0 ic0 (some ⟨g5, 0, none⟩) 2 (fun (A7 : Option Addr) (c8 : Nat) (w9 : World) =>
 R (.returned (.slice A7 (in0 + 2) c8)) w9))
theorem weftref3_put2.s_eq (I0 : Option Addr) (in0 : Nat) (ic0 : Nat) (i1 : Int) (w : World) (R : Ending → World → Prop) : seg Try.prog entE weftref3_put2.ords weftref3_put2.joins Try.f78 [] [] [] ([.slice I0 in0 ic0, .int .i64 i1] ++ List.replicate (Try.f78.ntmps - ([.slice I0 in0 ic0, .int .i64 i1] : List Value).length) undef) w R = weftref3_put2.s I0 in0 ic0 i1 w R := by kernel_rfl
theorem weftref3_put2.run {I0 : Option Addr} {in0 : Nat} {ic0 : Nat} {i1 : Int} {w : World} {R : Ending → World → Prop} (h : weftref3_put2.s I0 in0 ic0 i1 w R) : Calls Try.prog 78 #[.slice I0 in0 ic0, .int .i64 i1] w R :=
  calls_seg ents mixed Try.func78 rfl (by rw [weftref3_put2.s_eq]; exact h)
/-! ### weftref3_total: function 74 -/
def weftref3_total.ords : Nat → Od
  | _ => .nil
def weftref3_total.joins (p : List Nat) : Bool := false
def weftref3_total.l1 (n : Nat) (Y0 : Option Addr) (yn0 : Nat) (yc0 : Nat) (y3 : Int) (y4 : Int) (d1 d2 d5 d6 d7 d8 d9 d10 d11 d12 d13 d14 d15 d16 d17 d18 d19 d20 d21 d22 d23 d24 d25 d26 d27 d28 d29 : Value) (w : World) (R : Ending → World → Prop) : Prop :=
  lseg Try.prog entE weftref3_total.ords weftref3_total.joins Try.f74 [1, 1, 0, 1, 0] [0, 1, 0, 1, 1] [] n [.slice Y0 yn0 yc0, d1, d2, .int .i64 y3, .int .i64 y4, d5, d6, d7, d8, d9, d10, d11, d12, d13, d14, d15, d16, d17, d18, d19, d20, d21, d22, d23, d24, d25, d26, d27, d28, d29] w R
abbrev weftref3_total.L1 (n : Nat) (Y0 : Option Addr) (yn0 : Nat) (yc0 : Nat) (y3 : Int) (y4 : Int) (w : World) (R : Ending → World → Prop) : Prop := ∀ d1 d2 d5 d6 d7 d8 d9 d10 d11 d12 d13 d14 d15 d16 d17 d18 d19 d20 d21 d22 d23 d24 d25 d26 d27 d28 d29 : Value, weftref3_total.l1 n Y0 yn0 yc0 y3 y4 d1 d2 d5 d6 d7 d8 d9 d10 d11 d12 d13 d14 d15 d16 d17 d18 d19 d20 d21 d22 d23 d24 d25 d26 d27 d28 d29 w R
theorem weftref3_total.l1_eq (n : Nat) (Y0 : Option Addr) (yn0 : Nat) (yc0 : Nat) (y3 : Int) (y4 : Int) (d1 d2 d5 d6 d7 d8 d9 d10 d11 d12 d13 d14 d15 d16 d17 d18 d19 d20 d21 d22 d23 d24 d25 d26 d27 d28 d29 : Value) (w : World) (R : Ending → World → Prop) : weftref3_total.l1 (n + 1) Y0 yn0 yc0 y3 y4 d1 d2 d5 d6 d7 d8 d9 d10 d11 d12 d13 d14 d15 d16 d17 d18 d19 d20 d21 d22 d23 d24 d25 d26 d27 d28 d29 w R =
((if decide (y4 < (yn0 : Int)) = true then
(Let (Int.tmod y4 2) fun x1 : Int =>
(if (x1 == 0) = true then
(∃ a2 : Addr, Y0 = some a2 ∧ (0 ≤ y4 ∧ y4 < (yn0 : Int)) ∧
(∃ x3 : Int, w.cell? (a2.add y4.toNat) = some (.int .u8 x3) ∧
(Let (IntKind.i64.wrap x3) fun x4 : Int =>
 Let (IntKind.i64.wrap (256 * x4)) fun x5 : Int =>
 Let (IntKind.i64.wrap (y3 + x5)) fun x6 : Int =>
 Let (IntKind.i64.wrap (y4 + 1)) fun x7 : Int =>
 weftref3_total.l1 n Y0 yn0 yc0 x6 x7 d1 d2 (.int .i64 y4) (.slice Y0 yn0 yc0) (.int .i64 (yn0 : Int)) (.bool (decide (y4 < (yn0 : Int)))) (.int .i64 y4) (.int .i64 x7) (.int .i64 y4) (.int .i64 x1) (.bool (x1 == 0)) (.int .i64 y3) (.slice Y0 yn0 yc0) (.int .i64 y4) (.pointer (some (a2.add y4.toNat))) (.int .u8 x3) (.int .i64 x4) (.int .i64 x5) (.int .i64 x6) d22 d23 d24 d25 d26 d27 d28 d29 w R)))
else
(∃ a8 : Addr, Y0 = some a8 ∧ (0 ≤ y4 ∧ y4 < (yn0 : Int)) ∧
(∃ x9 : Int, w.cell? (a8.add y4.toNat) = some (.int .u8 x9) ∧
(Let (IntKind.i64.wrap x9) fun x10 : Int =>
 Let (IntKind.i64.wrap (y3 + x10)) fun x11 : Int =>
 Let (IntKind.i64.wrap (y4 + 1)) fun x12 : Int =>
 weftref3_total.l1 n Y0 yn0 yc0 x11 x12 d1 d2 (.int .i64 y4) (.slice Y0 yn0 yc0) (.int .i64 (yn0 : Int)) (.bool (decide (y4 < (yn0 : Int)))) (.int .i64 y4) (.int .i64 x12) (.int .i64 y4) (.int .i64 x1) (.bool (x1 == 0)) d14 d15 d16 d17 d18 d19 d20 d21 (.int .i64 y3) (.slice Y0 yn0 yc0) (.int .i64 y4) (.pointer (some (a8.add y4.toNat))) (.int .u8 x9) (.int .i64 x10) (.int .i64 x11) d29 w R)))))
else
(R (.returned (.int .i64 y3)) w))) := by kernel_rfl
def weftref3_total.s (I0 : Option Addr) (in0 : Nat) (ic0 : Nat) (w : World) (R : Ending → World → Prop) : Prop :=
(∃ n1 : Nat, weftref3_total.l1 n1 I0 in0 ic0 0 0 undef (.int .i64 0) undef undef undef undef undef undef undef undef undef undef undef undef undef undef undef undef undef undef undef undef undef undef undef undef undef w R)
theorem weftref3_total.s_eq (I0 : Option Addr) (in0 : Nat) (ic0 : Nat) (w : World) (R : Ending → World → Prop) : seg Try.prog entE weftref3_total.ords weftref3_total.joins Try.f74 [] [] [] ([.slice I0 in0 ic0] ++ List.replicate (Try.f74.ntmps - ([.slice I0 in0 ic0] : List Value).length) undef) w R = weftref3_total.s I0 in0 ic0 w R := by kernel_rfl
theorem weftref3_total.run {I0 : Option Addr} {in0 : Nat} {ic0 : Nat} {w : World} {R : Ending → World → Prop} (h : weftref3_total.s I0 in0 ic0 w R) : Calls Try.prog 74 #[.slice I0 in0 ic0] w R :=
  calls_seg ents mixed Try.func74 rfl (by rw [weftref3_total.s_eq]; exact h)
/-! ### weftref3_fold: function 75 -/
def weftref3_fold.ords : Nat → Od
  | _ => .nil
def weftref3_fold.joins (p : List Nat) : Bool := false
def weftref3_fold.s (i0 : Int) (w : World) (R : Ending → World → Prop) : Prop :=
((if (i0 == 0) = true then
(R (.returned (.int .i64 0)) w)
else
(Let (IntKind.i64.wrap (i0 - 1)) fun x1 : Int =>
 Let (Int.tmod x1 65535) fun x2 : Int =>
 Let (IntKind.i64.wrap (1 + x2)) fun x3 : Int =>
 R (.returned (.int .i64 x3)) w)))
theorem weftref3_fold.s_eq (i0 : Int) (w : World) (R : Ending → World → Prop) : seg Try.prog entE weftref3_fold.ords weftref3_fold.joins Try.f75 [] [] [] ([.int .i64 i0] ++ List.replicate (Try.f75.ntmps - ([.int .i64 i0] : List Value).length) undef) w R = weftref3_fold.s i0 w R := by kernel_rfl
theorem weftref3_fold.run {i0 : Int} {w : World} {R : Ending → World → Prop} (h : weftref3_fold.s i0 w R) : Calls Try.prog 75 #[.int .i64 i0] w R :=
  calls_seg ents mixed Try.func75 rfl (by rw [weftref3_fold.s_eq]; exact h)
/-! ### weftref3_Sum: function 62 -/
def weftref3_Sum.ords : Nat → Od
  | _ => .nil
def weftref3_Sum.joins (p : List Nat) : Bool := false
def weftref3_Sum.l1 (n : Nat) (Y0 : Option Addr) (yn0 : Nat) (yc0 : Nat) (Y3 : Option Addr) (yn3 : Nat) (yc3 : Nat) (y4 : Int) (d1 d2 d5 d6 d7 d8 d9 d10 d11 d12 d13 d14 d15 d16 d17 d18 d19 d20 d21 d22 d23 : Value) (w : World) (R : Ending → World → Prop) : Prop :=
  lseg Try.prog entE weftref3_Sum.ords weftref3_Sum.joins Try.f62 [1, 1, 0, 1, 0] [0, 1, 0, 1, 1] [] n [.slice Y0 yn0 yc0, d1, d2, .slice Y3 yn3 yc3, .int .i64 y4, d5, d6, d7, d8, d9, d10, d11, d12, d13, d14, d15, d16, d17, d18, d19, d20, d21, d22, d23] w R
abbrev weftref3_Sum.L1 (n : Nat) (Y0 : Option Addr) (yn0 : Nat) (yc0 : Nat) (Y3 : Option Addr) (yn3 : Nat) (yc3 : Nat) (y4 : Int) (w : World) (R : Ending → World → Prop) : Prop := ∀ d1 d2 d5 d6 d7 d8 d9 d10 d11 d12 d13 d14 d15 d16 d17 d18 d19 d20 d21 d22 d23 : Value, weftref3_Sum.l1 n Y0 yn0 yc0 Y3 yn3 yc3 y4 d1 d2 d5 d6 d7 d8 d9 d10 d11 d12 d13 d14 d15 d16 d17 d18 d19 d20 d21 d22 d23 w R
theorem weftref3_Sum.l1_eq (n : Nat) (Y0 : Option Addr) (yn0 : Nat) (yc0 : Nat) (Y3 : Option Addr) (yn3 : Nat) (yc3 : Nat) (y4 : Int) (d1 d2 d5 d6 d7 d8 d9 d10 d11 d12 d13 d14 d15 d16 d17 d18 d19 d20 d21 d22 d23 : Value) (w : World) (R : Ending → World → Prop) : weftref3_Sum.l1 (n + 1) Y0 yn0 yc0 Y3 yn3 yc3 y4 d1 d2 d5 d6 d7 d8 d9 d10 d11 d12 d13 d14 d15 d16 d17 d18 d19 d20 d21 d22 d23 w R =
((if decide (y4 < (yn0 : Int)) = true then
(∃ a1 : Addr, Y0 = some a1 ∧ (0 ≤ y4 ∧ y4 < (yn0 : Int)) ∧
(∃ (A2 : Option Addr) (n2_ c2_ : Nat), w.cell? (a1.add y4.toNat) = some (.slice A2 n2_ c2_) ∧
(AppE w 1 1 5 [.int .u8 0] Y3 yn3 yc3 A2 n2_ (fun (A3 : Option Addr) (c4 : Nat) (w5 : World) =>
 Let (IntKind.i64.wrap (y4 + 1)) fun x6 : Int =>
 weftref3_Sum.l1 n Y0 yn0 yc0 A3 (yn3 + n2_) c4 x6 d1 d2 d5 (.int .i64 y4) (.slice Y0 yn0 yc0) (.int .i64 (yn0 : Int)) (.bool (decide (y4 < (yn0 : Int)))) (.int .i64 y4) (.int .i64 x6) (.slice Y3 yn3 yc3) (.slice Y0 yn0 yc0) (.int .i64 y4) (.pointer (some (a1.add y4.toNat))) (.slice A2 n2_ c2_) (.slice A3 (yn3 + n2_) c4) d18 d19 d20 d21 d22 d23 w5 R))))
else
(Calls Try.prog 74 #[.slice Y3 yn3 yc3] w (fun (e8 : Ending) (w7 : World) =>
 ∃ x9 : Int, e8 = .returned (.int .i64 x9) ∧
(Calls Try.prog 75 #[.int .i64 x9] w7 (fun (e11 : Ending) (w10 : World) =>
 ∃ x12 : Int, e11 = .returned (.int .i64 x12) ∧
(Let (IntKind.i64.wrap (65535 - x12)) fun x13 : Int =>
 Let (IntKind.u16.wrap x13) fun x14 : Int =>
 R (.returned (.int .u16 x14)) w10))))))) := by kernel_rfl
def weftref3_Sum.s (I0 : Option Addr) (in0 : Nat) (ic0 : Nat) (w : World) (R : Ending → World → Prop) : Prop :=
(∃ n1 : Nat, weftref3_Sum.l1 n1 I0 in0 ic0 none 0 0 0 undef (.int .u16 0) undef undef undef undef undef undef undef undef undef undef undef undef undef undef undef undef undef undef undef w R)
theorem weftref3_Sum.s_eq (I0 : Option Addr) (in0 : Nat) (ic0 : Nat) (w : World) (R : Ending → World → Prop) : seg Try.prog entE weftref3_Sum.ords weftref3_Sum.joins Try.f62 [] [] [] ([.slice I0 in0 ic0] ++ List.replicate (Try.f62.ntmps - ([.slice I0 in0 ic0] : List Value).length) undef) w R = weftref3_Sum.s I0 in0 ic0 w R := by kernel_rfl
theorem weftref3_Sum.run {I0 : Option Addr} {in0 : Nat} {ic0 : Nat} {w : World} {R : Ending → World → Prop} (h : weftref3_Sum.s I0 in0 ic0 w R) : Calls Try.prog 62 #[.slice I0 in0 ic0] w R :=
  calls_seg ents mixed Try.func62 rfl (by rw [weftref3_Sum.s_eq]; exact h)
/-! ### weftref3_Area: function 76 -/
def weftref3_Area.ords : Nat → Od
  | _ => .nil
def weftref3_Area.joins (p : List Nat) : Bool := p == [1, 1] || p == [1, 0, 0, 0, 1, 1, 1]
def weftref3_Area.j1 (Y0 : Option Addr) (yn0 : Nat) (yc0 : Nat) (d1 d2 d3 d4 d5 d6 d7 d8 d9 d10 d11 d12 d13 d14 d15 d16 d17 d18 d19 d20 d21 d22 d23 d24 d25 : Value) (w : World) (R : Ending → World → Prop) : Prop :=
  seg Try.prog entE weftref3_Area.ords weftref3_Area.joins Try.f76 [1, 1] [1, 1] [] [.slice Y0 yn0 yc0, d1, d2, d3, d4, d5, d6, d7, d8, d9, d10, d11, d12, d13, d14, d15, d16, d17, d18, d19, d20, d21, d22, d23, d24, d25] w R
def weftref3_Area.l1 (n : Nat) (Y0 : Option Addr) (yn0 : Nat) (yc0 : Nat) (y3 : Int) (d1 d2 d4 d5 d6 d7 d8 d9 d10 d11 d12 d13 d14 d15 d16 d17 d18 d19 d20 d21 d22 d23 d24 d25 : Value) (w : World) (R : Ending → World → Prop) : Prop :=
  lseg Try.prog entE weftref3_Area.ords weftref3_Area.joins Try.f76 [1, 1, 1, 0, 0] [0, 0, 1, 1, 1] [] n [.slice Y0 yn0 yc0, d1, d2, .int .i64 y3, d4, d5, d6, d7, d8, d9, d10, d11, d12, d13, d14, d15, d16, d17, d18, d19, d20, d21, d22, d23, d24, d25] w R
def weftref3_Area.j2 (m0 : Nat) (Y0 : Option Addr) (yn0 : Nat) (yc0 : Nat) (y3 : Int) (d1 d2 d4 d5 d6 d7 d8 d9 d10 d11 d12 d13 d14 d15 d16 d17 d18 d19 d20 d21 d22 d23 d24 d25 : Value) (w : World) (R : Ending → World → Prop) : Prop :=
  seg Try.prog entE weftref3_Area.ords weftref3_Area.joins Try.f76 [1, 1, 1, 0, 0, 0, 1] [1, 0, 0, 0, 1, 1, 1] [m0] [.slice Y0 yn0 yc0, d1, d2, .int .i64 y3, d4, d5, d6, d7, d8, d9, d10, d11, d12, d13, d14, d15, d16, d17, d18, d19, d20, d21, d22, d23, d24, d25] w R
abbrev weftref3_Area.J1 (Y0 : Option Addr) (yn0 : Nat) (yc0 : Nat) (w : World) (R : Ending → World → Prop) : Prop := ∀ d1 d2 d3 d4 d5 d6 d7 d8 d9 d10 d11 d12 d13 d14 d15 d16 d17 d18 d19 d20 d21 d22 d23 d24 d25 : Value, weftref3_Area.j1 Y0 yn0 yc0 d1 d2 d3 d4 d5 d6 d7 d8 d9 d10 d11 d12 d13 d14 d15 d16 d17 d18 d19 d20 d21 d22 d23 d24 d25 w R
abbrev weftref3_Area.L1 (n : Nat) (Y0 : Option Addr) (yn0 : Nat) (yc0 : Nat) (y3 : Int) (w : World) (R : Ending → World → Prop) : Prop := ∀ d1 d2 d4 d5 d6 d7 d8 d9 d10 d11 d12 d13 d14 d15 d16 d17 d18 d19 d20 d21 d22 d23 d24 d25 : Value, weftref3_Area.l1 n Y0 yn0 yc0 y3 d1 d2 d4 d5 d6 d7 d8 d9 d10 d11 d12 d13 d14 d15 d16 d17 d18 d19 d20 d21 d22 d23 d24 d25 w R
abbrev weftref3_Area.J2 (m0 : Nat) (Y0 : Option Addr) (yn0 : Nat) (yc0 : Nat) (y3 : Int) (w : World) (R : Ending → World → Prop) : Prop := ∀ d1 d2 d4 d5 d6 d7 d8 d9 d10 d11 d12 d13 d14 d15 d16 d17 d18 d19 d20 d21 d22 d23 d24 d25 : Value, weftref3_Area.j2 m0 Y0 yn0 yc0 y3 d1 d2 d4 d5 d6 d7 d8 d9 d10 d11 d12 d13 d14 d15 d16 d17 d18 d19 d20 d21 d22 d23 d24 d25 w R
theorem weftref3_Area.j1_eq (Y0 : Option Addr) (yn0 : Nat) (yc0 : Nat) (d1 d2 d3 d4 d5 d6 d7 d8 d9 d10 d11 d12 d13 d14 d15 d16 d17 d18 d19 d20 d21 d22 d23 d24 d25 : Value) (w : World) (R : Ending → World → Prop) : weftref3_Area.j1 Y0 yn0 yc0 d1 d2 d3 d4 d5 d6 d7 d8 d9 d10 d11 d12 d13 d14 d15 d16 d17 d18 d19 d20 d21 d22 d23 d24 d25 w R =
(∃ n1 : Nat, weftref3_Area.l1 n1 Y0 yn0 yc0 0 d1 d2 d4 d5 d6 d7 d8 d9 d10 d11 d12 d13 d14 d15 d16 d17 d18 d19 d20 d21 d22 d23 d24 d25 w R) := by kernel_rfl
theorem weftref3_Area.l1_eq (n : Nat) (Y0 : Option Addr) (yn0 : Nat) (yc0 : Nat) (y3 : Int) (d1 d2 d4 d5 d6 d7 d8 d9 d10 d11 d12 d13 d14 d15 d16 d17 d18 d19 d20 d21 d22 d23 d24 d25 : Value) (w : World) (R : Ending → World → Prop) : weftref3_Area.l1 (n + 1) Y0 yn0 yc0 y3 d1 d2 d4 d5 d6 d7 d8 d9 d10 d11 d12 d13 d14 d15 d16 d17 d18 d19 d20 d21 d22 d23 d24 d25 w R =
((if decide (y3 ≥ 0) = true then
((if decide (y3 < (yn0 : Int)) = true then
(Leaf (weftref3_Area.j2 n Y0 yn0 yc0 y3 d1 d2 d4 d5 d6 d7 d8 d9 d10 d11 d12 (.int .i64 y3) (.bool (decide (y3 ≥ 0))) (.bool true) (.int .i64 y3) (.slice Y0 yn0 yc0) (.int .i64 (yn0 : Int)) (.bool (decide (y3 < (yn0 : Int)))) (.bool (decide (y3 < (yn0 : Int)))) d21 d22 d23 d24 d25 w R))
else
(R (.returned (.bool (decide (y3 ≥ 0)))) w)))
else
(R (.returned (.bool (decide (y3 ≥ 0)))) w))) := by kernel_rfl
theorem weftref3_Area.j2_eq (m0 : Nat) (Y0 : Option Addr) (yn0 : Nat) (yc0 : Nat) (y3 : Int) (d1 d2 d4 d5 d6 d7 d8 d9 d10 d11 d12 d13 d14 d15 d16 d17 d18 d19 d20 d21 d22 d23 d24 d25 : Value) (w : World) (R : Ending → World → Prop) : weftref3_Area.j2 m0 Y0 yn0 yc0 y3 d1 d2 d4 d5 d6 d7 d8 d9 d10 d11 d12 d13 d14 d15 d16 d17 d18 d19 d20 d21 d22 d23 d24 d25 w R =
(Calls Try.prog 86 #[.slice Y0 yn0 yc0, .int .i64 y3] w (fun (e2 : Ending) (w1 : World) =>
 ∃ x3 : Int, e2 = .returned (.int .i64 x3) ∧
(weftref3_Area.l1 m0 Y0 yn0 yc0 x3 d1 d2 d4 d5 d6 d7 d8 d9 d10 d11 d12 d13 d14 d15 d16 d17 d18 d19 d20 (.slice Y0 yn0 yc0) (.int .i64 y3) (.int .i64 x3) d24 d25 w1 R))) := by kernel_rfl
def weftref3_Area.s (I0 : Option Addr) (in0 : Nat) (ic0 : Nat) (w : World) (R : Ending → World → Prop) : Prop :=
((if decide ((in0 : Int) > 40) = true then
(R (.returned (.bool false)) w)
else
(Let (Int.tmod (in0 : Int) 4) fun x1 : Int =>
(if (x1 != 0) = true then
(R (.returned (.bool false)) w)
else
(Leaf (weftref3_Area.j1 I0 in0 ic0 undef (.bool false) undef (.slice I0 in0 ic0) (.int .i64 (in0 : Int)) (.bool (decide ((in0 : Int) > 40))) (.bool false) (.slice I0 in0 ic0) (.int .i64 (in0 : Int)) (.int .i64 x1) (.bool (x1 != 0)) (.bool (x1 != 0)) undef undef undef undef undef undef undef undef undef undef undef undef undef w R))))))
theorem weftref3_Area.s_eq (I0 : Option Addr) (in0 : Nat) (ic0 : Nat) (w : World) (R : Ending → World → Prop) : seg Try.prog entE weftref3_Area.ords weftref3_Area.joins Try.f76 [] [] [] ([.slice I0 in0 ic0] ++ List.replicate (Try.f76.ntmps - ([.slice I0 in0 ic0] : List Value).length) undef) w R = weftref3_Area.s I0 in0 ic0 w R := by kernel_rfl
theorem weftref3_Area.run {I0 : Option Addr} {in0 : Nat} {ic0 : Nat} {w : World} {R : Ending → World → Prop} (h : weftref3_Area.s I0 in0 ic0 w R) : Calls Try.prog 76 #[.slice I0 in0 ic0] w R :=
  calls_seg ents mixed Try.func76 rfl (by rw [weftref3_Area.s_eq]; exact h)
/-! ### weftref3_Piece: function 77 -/
def weftref3_Piece.ords : Nat → Od
  | _ => .nil
def weftref3_Piece.joins (p : List Nat) : Bool := p == [1, 1]
def weftref3_Piece.j1 (y1 : Int) (y2 : Bool) (d0 d3 d4 d5 d6 d7 d8 d9 d10 d11 d12 d13 d14 d15 d16 d17 d18 d19 d20 d21 d22 d23 d24 d25 d26 d27 d28 d29 d30 d31 d32 d33 d34 : Value) (w : World) (R : Ending → World → Prop) : Prop :=
  seg Try.prog entE weftref3_Piece.ords weftref3_Piece.joins Try.f77 [1, 1] [1, 1] [] [d0, .int .i64 y1, .bool y2, d3, d4, d5, d6, d7, d8, d9, d10, d11, d12, d13, d14, d15, d16, d17, d18, d19, d20, d21, d22, d23, d24, d25, d26, d27, d28, d29, d30, d31, d32, d33, d34] w R
abbrev weftref3_Piece.J1 (y1 : Int) (y2 : Bool) (w : World) (R : Ending → World → Prop) : Prop := ∀ d0 d3 d4 d5 d6 d7 d8 d9 d10 d11 d12 d13 d14 d15 d16 d17 d18 d19 d20 d21 d22 d23 d24 d25 d26 d27 d28 d29 d30 d31 d32 d33 d34 : Value, weftref3_Piece.j1 y1 y2 d0 d3 d4 d5 d6 d7 d8 d9 d10 d11 d12 d13 d14 d15 d16 d17 d18 d19 d20 d21 d22 d23 d24 d25 d26 d27 d28 d29 d30 d31 d32 d33 d34 w R
theorem weftref3_Piece.j1_eq (y1 : Int) (y2 : Bool) (d0 d3 d4 d5 d6 d7 d8 d9 d10 d11 d12 d13 d14 d15 d16 d17 d18 d19 d20 d21 d22 d23 d24 d25 d26 d27 d28 d29 d30 d31 d32 d33 d34 : Value) (w : World) (R : Ending → World → Prop) : weftref3_Piece.j1 y1 y2 d0 d3 d4 d5 d6 d7 d8 d9 d10 d11 d12 d13 d14 d15 d16 d17 d18 d19 d20 d21 d22 d23 d24 d25 d26 d27 d28 d29 d30 d31 d32 d33 d34 w R =
((if (!y2) = true then
(R (.returned (.bool true)) w)
else
((if decide (y1 > 0) = true then
(Let (Int.tmod y1 8) fun x1 : Int =>
 R (.returned (.bool (x1 == 0))) w)
else
(R (.returned (.bool false)) w))))) := by kernel_rfl
def weftref3_Piece.s (i0 : Int) (i1 : Int) (i2 : Bool) (w : World) (R : Ending → World → Prop) : Prop :=
((if decide (i0 < 0) = true then
(R (.returned (.bool false)) w)
else
((if decide (i0 > 65528) = true then
(R (.returned (.bool false)) w)
else
(Let (Int.tmod i0 8) fun x1 : Int =>
(if (x1 != 0) = true then
(R (.returned (.bool false)) w)
else
(Let (IntKind.i64.wrap (i0 + i1)) fun x2 : Int =>
(if decide (x2 > 65535) = true then
(R (.returned (.bool false)) w)
else
(Leaf (weftref3_Piece.j1 i1 i2 (.int .i64 i0) undef undef undef (.bool false) (.int .i64 i0) (.bool (decide (i0 < 0))) (.bool false) (.int .i64 i0) (.bool (decide (i0 > 65528))) (.bool (decide (i0 > 65528))) (.bool false) (.int .i64 i0) (.int .i64 x1) (.bool (x1 != 0)) (.bool (x1 != 0)) (.bool false) (.int .i64 i0) (.int .i64 i1) (.int .i64 x2) (.bool (decide (x2 > 65535))) (.bool (decide (x2 > 65535))) undef undef undef undef undef undef undef undef undef undef undef w R))))))))))
theorem weftref3_Piece.s_eq (i0 : Int) (i1 : Int) (i2 : Bool) (w : World) (R : Ending → World → Prop) : seg Try.prog entE weftref3_Piece.ords weftref3_Piece.joins Try.f77 [] [] [] ([.int .i64 i0, .int .i64 i1, .bool i2] ++ List.replicate (Try.f77.ntmps - ([.int .i64 i0, .int .i64 i1, .bool i2] : List Value).length) undef) w R = weftref3_Piece.s i0 i1 i2 w R := by kernel_rfl
theorem weftref3_Piece.run {i0 : Int} {i1 : Int} {i2 : Bool} {w : World} {R : Ending → World → Prop} (h : weftref3_Piece.s i0 i1 i2 w R) : Calls Try.prog 77 #[.int .i64 i0, .int .i64 i1, .bool i2] w R :=
  calls_seg ents mixed Try.func77 rfl (by rw [weftref3_Piece.s_eq]; exact h)
/-! ### weftref3_Refused: function 69 -/
def weftref3_Refused.ords : Nat → Od
  | _ => .nil
def weftref3_Refused.joins (p : List Nat) : Bool := false
def weftref3_Refused.s (i0_0 : Int) (i0_1 : Int) (i0_2 : Bool) (i0_3 : Bool) (i0_4 : Int) (i0_5 : Int) (i0_6 : Int) (i0_7 : Int) (i0_8 : Int) (I0_9 : Option Addr) (in0_9 : Nat) (ic0_9 : Nat) (I0_10 : Option Addr) (in0_10 : Nat) (ic0_10 : Nat) (w : World) (R : Ending → World → Prop) : Prop :=
(Let (w.heap.size) fun g1 : Nat =>
 Let (w.alloc (.cells #[.int .u8 i0_0, .int .u16 i0_1, .bool i0_2, .bool i0_3, .int .i64 i0_4, .int .u8 i0_5, .int .u8 i0_6, .int .u32 i0_7, .int .u32 i0_8, .slice I0_9 in0_9 ic0_9, .slice I0_10 in0_10 ic0_10] 88)) fun w2 : World =>
 ∃ (A3 : Option Addr) (n3_ c3_ : Nat), w2.cell? ⟨g1, 9, none⟩ = some (.slice A3 n3_ c3_) ∧
(Calls Try.prog 76 #[.slice A3 n3_ c3_] w2 (fun (e5 : Ending) (w4 : World) =>
 ∃ b6 : Bool, e5 = .returned (.bool b6) ∧
((if (!b6) = true then
(R (.returned (.int .i64 34)) w4)
else
(∃ x7 : Int, w4.cell? ⟨g1, 4, none⟩ = some (.int .i64 x7) ∧
(∃ (A8 : Option Addr) (n8_ c8_ : Nat), w4.cell? ⟨g1, 10, none⟩ = some (.slice A8 n8_ c8_) ∧
(∃ b9 : Bool, w4.cell? ⟨g1, 3, none⟩ = some (.bool b9) ∧
(Calls Try.prog 77 #[.int .i64 x7, .int .i64 (n8_ : Int), .bool b9] w4 (fun (e11 : Ending) (w10 : World) =>
 ∃ b12 : Bool, e11 = .returned (.bool b12) ∧
((if (!b12) = true then
(R (.returned (.int .i64 36)) w10)
else
(∃ (A13 : Option Addr) (n13_ c13_ : Nat), w10.cell? ⟨g1, 9, none⟩ = some (.slice A13 n13_ c13_) ∧
(Let (IntKind.i64.wrap (20 + (n13_ : Int))) fun x14 : Int =>
 ∃ (A15 : Option Addr) (n15_ c15_ : Nat), w10.cell? ⟨g1, 10, none⟩ = some (.slice A15 n15_ c15_) ∧
(Let (IntKind.i64.wrap (x14 + (n15_ : Int))) fun x16 : Int =>
(if decide (x16 > 65535) = true then
(R (.returned (.int .i64 37)) w10)
else
(R (.returned (.int .i64 0)) w10)))))))))))))))))
theorem weftref3_Refused.s_eq (i0_0 : Int) (i0_1 : Int) (i0_2 : Bool) (i0_3 : Bool) (i0_4 : Int) (i0_5 : Int) (i0_6 : Int) (i0_7 : Int) (i0_8 : Int) (I0_9 : Option Addr) (in0_9 : Nat) (ic0_9 : Nat) (I0_10 : Option Addr) (in0_10 : Nat) (ic0_10 : Nat) (w : World) (R : Ending → World → Prop) : seg Try.prog entE weftref3_Refused.ords weftref3_Refused.joins Try.f69 [] [] [] ([.agg #[.int .u8 i0_0, .int .u16 i0_1, .bool i0_2, .bool i0_3, .int .i64 i0_4, .int .u8 i0_5, .int .u8 i0_6, .int .u32 i0_7, .int .u32 i0_8, .slice I0_9 in0_9 ic0_9, .slice I0_10 in0_10 ic0_10]] ++ List.replicate (Try.f69.ntmps - ([.agg #[.int .u8 i0_0, .int .u16 i0_1, .bool i0_2, .bool i0_3, .int .i64 i0_4, .int .u8 i0_5, .int .u8 i0_6, .int .u32 i0_7, .int .u32 i0_8, .slice I0_9 in0_9 ic0_9, .slice I0_10 in0_10 ic0_10]] : List Value).length) undef) w R = weftref3_Refused.s i0_0 i0_1 i0_2 i0_3 i0_4 i0_5 i0_6 i0_7 i0_8 I0_9 in0_9 ic0_9 I0_10 in0_10 ic0_10 w R := by kernel_rfl
theorem weftref3_Refused.run {i0_0 : Int} {i0_1 : Int} {i0_2 : Bool} {i0_3 : Bool} {i0_4 : Int} {i0_5 : Int} {i0_6 : Int} {i0_7 : Int} {i0_8 : Int} {I0_9 : Option Addr} {in0_9 : Nat} {ic0_9 : Nat} {I0_10 : Option Addr} {in0_10 : Nat} {ic0_10 : Nat} {w : World} {R : Ending → World → Prop} (h : weftref3_Refused.s i0_0 i0_1 i0_2 i0_3 i0_4 i0_5 i0_6 i0_7 i0_8 I0_9 in0_9 ic0_9 I0_10 in0_10 ic0_10 w R) : Calls Try.prog 69 #[.agg #[.int .u8 i0_0, .int .u16 i0_1, .bool i0_2, .bool i0_3, .int .i64 i0_4, .int .u8 i0_5, .int .u8 i0_6, .int .u32 i0_7, .int .u32 i0_8, .slice I0_9 in0_9 ic0_9, .slice I0_10 in0_10 ic0_10]] w R :=
  calls_seg ents mixed Try.func69 rfl (by rw [weftref3_Refused.s_eq]; exact h)
/-! ### weftref3_header: function 70 -/
def weftref3_header.ords : Nat → Od
  | _ => .nil
def weftref3_header.joins (p : List Nat) : Bool := p == [1, 1, 1, 1, 1, 1, 1] || p == [1, 1, 1, 1, 1, 1, 1, 1]
def weftref3_header.j1 (y2 : Int) (yg3 : Nat) (Y7 : Option Addr) (yn7 : Nat) (yc7 : Nat) (y8 : Int) (d0 d1 d4 d5 d6 d9 d10 d11 d12 d13 d14 d15 d16 d17 d18 d19 d20 d21 d22 d23 d24 d25 d26 d27 d28 d29 d30 d31 d32 d33 d34 d35 d36 d37 d38 d39 d40 d41 d42 d43 d44 d45 d46 d47 d48 d49 d50 d51 d52 d53 d54 d55 d56 d57 d58 d59 d60 d61 d62 d63 d64 d65 d66 d67 d68 d69 d70 d71 d72 d73 d74 d75 d76 d77 d78 d79 d80 d81 d82 d83 d84 d85 d86 d87 d88 d89 d90 d91 d92 d93 : Value) (w : World) (R : Ending → World → Prop) : Prop :=
  seg Try.prog entE weftref3_header.ords weftref3_header.joins Try.f70 [1, 1, 1, 1, 1, 1, 1] [1, 1, 1, 1, 1, 1, 1] [] [d0, d1, .int .u16 y2, .pointer (some ⟨yg3, 0, none⟩), d4, d5, d6, .slice Y7 yn7 yc7, .int .i64 y8, d9, d10, d11, d12, d13, d14, d15, d16, d17, d18, d19, d20, d21, d22, d23, d24, d25, d26, d27, d28, d29, d30, d31, d32, d33, d34, d35, d36, d37, d38, d39, d40, d41, d42, d43, d44, d45, d46, d47, d48, d49, d50, d51, d52, d53, d54, d55, d56, d57, d58, d59, d60, d61, d62, d63, d64, d65, d66, d67, d68, d69, d70, d71, d72, d73, d74, d75, d76, d77, d78, d79, d80, d81, d82, d83, d84, d85, d86, d87, d88, d89, d90, d91, d92, d93] w R
def weftref3_header.j2 (y2 : Int) (yg3 : Nat) (Y7 : Option Addr) (yn7 : Nat) (yc7 : Nat) (y8 : Int) (d0 d1 d4 d5 d6 d9 d10 d11 d12 d13 d14 d15 d16 d17 d18 d19 d20 d21 d22 d23 d24 d25 d26 d27 d28 d29 d30 d31 d32 d33 d34 d35 d36 d37 d38 d39 d40 d41 d42 d43 d44 d45 d46 d47 d48 d49 d50 d51 d52 d53 d54 d55 d56 d57 d58 d59 d60 d61 d62 d63 d64 d65 d66 d67 d68 d69 d70 d71 d72 d73 d74 d75 d76 d77 d78 d79 d80 d81 d82 d83 d84 d85 d86 d87 d88 d89 d90 d91 d92 d93 : Value) (w : World) (R : Ending → World → Prop) : Prop :=
  seg Try.prog entE weftref3_header.ords weftref3_header.joins Try.f70 [1, 1, 1, 1, 1, 1, 1, 1] [1, 1, 1, 1, 1, 1, 1, 1] [] [d0, d1, .int .u16 y2, .pointer (some ⟨yg3, 0, none⟩), d4, d5, d6, .slice Y7 yn7 yc7, .int .i64 y8, d9, d10, d11, d12, d13, d14, d15, d16, d17, d18, d19, d20, d21, d22, d23, d24, d25, d26, d27, d28, d29, d30, d31, d32, d33, d34, d35, d36, d37, d38, d39, d40, d41, d42, d43, d44, d45, d46, d47, d48, d49, d50, d51, d52, d53, d54, d55, d56, d57, d58, d59, d60, d61, d62, d63, d64, d65, d66, d67, d68, d69, d70, d71, d72, d73, d74, d75, d76, d77, d78, d79, d80, d81, d82, d83, d84, d85, d86, d87, d88, d89, d90, d91, d92, d93] w R
def weftref3_header.l1 (n : Nat) (yg3 : Nat) (Y7 : Option Addr) (yn7 : Nat) (yc7 : Nat) (y9 : Int) (d0 d1 d2 d4 d5 d6 d8 d10 d11 d12 d13 d14 d15 d16 d17 d18 d19 d20 d21 d22 d23 d24 d25 d26 d27 d28 d29 d30 d31 d32 d33 d34 d35 d36 d37 d38 d39 d40 d41 d42 d43 d44 d45 d46 d47 d48 d49 d50 d51 d52 d53 d54 d55 d56 d57 d58 d59 d60 d61 d62 d63 d64 d65 d66 d67 d68 d69 d70 d71 d72 d73 d74 d75 d76 d77 d78 d79 d80 d81 d82 d83 d84 d85 d86 d87 d88 d89 d90 d91 d92 d93 : Value) (w : World) (R : Ending → World → Prop) : Prop :=
  lseg Try.prog entE weftref3_header.ords weftref3_header.joins Try.f70 [1, 1, 1, 1, 1, 1, 1, 1, 1, 1, 1, 1, 1, 1, 1, 0, 1, 0] [0, 1, 0, 1, 1, 1, 1, 1, 1, 1, 1, 1, 1, 1, 1, 1, 1, 1] [] n [d0, d1, d2, .pointer (some ⟨yg3, 0, none⟩), d4, d5, d6, .slice Y7 yn7 yc7, d8, .int .i64 y9, d10, d11, d12, d13, d14, d15, d16, d17, d18, d19, d20, d21, d22, d23, d24, d25, d26, d27, d28, d29, d30, d31, d32, d33, d34, d35, d36, d37, d38, d39, d40, d41, d42, d43, d44, d45, d46, d47, d48, d49, d50, d51, d52, d53, d54, d55, d56, d57, d58, d59, d60, d61, d62, d63, d64, d65, d66, d67, d68, d69, d70, d71, d72, d73, d74, d75, d76, d77, d78, d79, d80, d81, d82, d83, d84, d85, d86, d87, d88, d89, d90, d91, d92, d93] w R
abbrev weftref3_header.J1 (y2 : Int) (yg3 : Nat) (Y7 : Option Addr) (yn7 : Nat) (yc7 : Nat) (y8 : Int) (w : World) (R : Ending → World → Prop) : Prop := ∀ d0 d1 d4 d5 d6 d9 d10 d11 d12 d13 d14 d15 d16 d17 d18 d19 d20 d21 d22 d23 d24 d25 d26 d27 d28 d29 d30 d31 d32 d33 d34 d35 d36 d37 d38 d39 d40 d41 d42 d43 d44 d45 d46 d47 d48 d49 d50 d51 d52 d53 d54 d55 d56 d57 d58 d59 d60 d61 d62 d63 d64 d65 d66 d67 d68 d69 d70 d71 d72 d73 d74 d75 d76 d77 d78 d79 d80 d81 d82 d83 d84 d85 d86 d87 d88 d89 d90 d91 d92 d93 : Value, weftref3_header.j1 y2 yg3 Y7 yn7 yc7 y8 d0 d1 d4 d5 d6 d9 d10 d11 d12 d13 d14 d15 d16 d17 d18 d19 d20 d21 d22 d23 d24 d25 d26 d27 d28 d29 d30 d31 d32 d33 d34 d35 d36 d37 d38 d39 d40 d41 d42 d43 d44 d45 d46 d47 d48 d49 d50 d51 d52 d53 d54 d55 d56 d57 d58 d59 d60 d61 d62 d63 d64 d65 d66 d67 d68 d69 d70 d71 d72 d73 d74 d75 d76 d77 d78 d79 d80 d81 d82 d83 d84 d85 d86 d87 d88 d89 d90 d91 d92 d93 w R
abbrev weftref3_header.J2 (y2 : Int) (yg3 : Nat) (Y7 : Option Addr) (yn7 : Nat) (yc7 : Nat) (y8 : Int) (w : World) (R : Ending → World → Prop) : Prop := ∀ d0 d1 d4 d5 d6 d9 d10 d11 d12 d13 d14 d15 d16 d17 d18 d19 d20 d21 d22 d23 d24 d25 d26 d27 d28 d29 d30 d31 d32 d33 d34 d35 d36 d37 d38 d39 d40 d41 d42 d43 d44 d45 d46 d47 d48 d49 d50 d51 d52 d53 d54 d55 d56 d57 d58 d59 d60 d61 d62 d63 d64 d65 d66 d67 d68 d69 d70 d71 d72 d73 d74 d75 d76 d77 d78 d79 d80 d81 d82 d83 d84 d85 d86 d87 d88 d89 d90 d91 d92 d93 : Value, weftref3_header.j2 y2 yg3 Y7 yn7 yc7 y8 d0 d1 d4 d5 d6 d9 d10 d11 d12 d13 d14 d15 d16 d17 d18 d19 d20 d21 d22 d23 d24 d25 d26 d27 d28 d29 d30 d31 d32 d33 d34 d35 d36 d37 d38 d39 d40 d41 d42 d43 d44 d45 d46 d47 d48 d49 d50 d51 d52 d53 d54 d55 d56 d57 d58 d59 d60 d61 d62 d63 d64 d65 d66 d67 d68 d69 d70 d71 d72 d73 d74 d75 d76 d77 d78 d79 d80 d81 d82 d83 d84 d85 d86 d87 d88 d89 d90 d91 d92 d93 w R
abbrev weftref3_header.L1 (n : Nat) (yg3 : Nat) (Y7 : Option Addr) (yn7 : Nat) (yc7 : Nat) (y9 : Int) (w : World) (R : Ending → World → Prop) : Prop := ∀ d0 d1 d2 d4 d5 d6 d8 d10 d11 d12 d13 d14 d15 d16 d17 d18 d19 d20 d21 d22 d23 d24 d25 d26 d27 d28 d29 d30 d31 d32 d33 d34 d35 d36 d37 d38 d39 d40 d41 d42 d43 d44 d45 d46 d47 d48 d49 d50 d51 d52 d53 d54 d55 d56 d57 d58 d59 d60 d61 d62 d63 d64 d65 d66 d67 d68 d69 d70 d71 d72 d73 d74 d75 d76 d77 d78 d79 d80 d81 d82 d83 d84 d85 d86 d87 d88 d89 d90 d91 d92 d93 : Value, weftref3_header.l1 n yg3 Y7 yn7 yc7 y9 d0 d1 d2 d4 d5 d6 d8 d10 d11 d12 d13 d14 d15 d16 d17 d18 d19 d20 d21 d22 d23 d24 d25 d26 d27 d28 d29 d30 d31 d32 d33 d34 d35 d36 d37 d38 d39 d40 d41 d42 d43 d44 d45 d46 d47 d48 d49 d50 d51 d52 d53 d54 d55 d56 d57 d58 d59 d60 d61 d62 d63 d64 d65 d66 d67 d68 d69 d70 d71 d72 d73 d74 d75 d76 d77 d78 d79 d80 d81 d82 d83 d84 d85 d86 d87 d88 d89 d90 d91 d92 d93 w R
theorem weftref3_header.j1_eq (y2 : Int) (yg3 : Nat) (Y7 : Option Addr) (yn7 : Nat) (yc7 : Nat) (y8 : Int) (d0 d1 d4 d5 d6 d9 d10 d11 d12 d13 d14 d15 d16 d17 d18 d19 d20 d21 d22 d23 d24 d25 d26 d27 d28 d29 d30 d31 d32 d33 d34 d35 d36 d37 d38 d39 d40 d41 d42 d43 d44 d45 d46 d47 d48 d49 d50 d51 d52 d53 d54 d55 d56 d57 d58 d59 d60 d61 d62 d63 d64 d65 d66 d67 d68 d69 d70 d71 d72 d73 d74 d75 d76 d77 d78 d79 d80 d81 d82 d83 d84 d85 d86 d87 d88 d89 d90 d91 d92 d93 : Value) (w : World) (R : Ending → World → Prop) : weftref3_header.j1 y2 yg3 Y7 yn7 yc7 y8 d0 d1 d4 d5 d6 d9 d10 d11 d12 d13 d14 d15 d16 d17 d18 d19 d20 d21 d22 d23 d24 d25 d26 d27 d28 d29 d30 d31 d32 d33 d34 d35 d36 d37 d38 d39 d40 d41 d42 d43 d44 d45 d46 d47 d48 d49 d50 d51 d52 d53 d54 d55 d56 d57 d58 d59 d60 d61 d62 d63 d64 d65 d66 d67 d68 d69 d70 d71 d72 d73 d74 d75 d76 d77 d78 d79 d80 d81 d82 d83 d84 d85 d86 d87 d88 d89 d90 d91 d92 d93 w R =
(∃ b1 : Bool, w.cell? ⟨yg3, 3, none⟩ = some (.bool b1) ∧
((if b1 = true then
(Let (IntKind.i64.wrap (y8 + 8192)) fun x2 : Int =>
 Leaf (weftref3_header.j2 y2 yg3 Y7 yn7 yc7 x2 d0 d1 d4 d5 d6 d9 d10 d11 d12 d13 d14 d15 d16 d17 d18 d19 d20 d21 d22 d23 d24 d25 d26 d27 d28 d29 d30 d31 d32 d33 d34 d35 (.pointer (some ⟨yg3, 3, none⟩)) (.bool b1) (.int .i64 y8) (.int .i64 x2) d40 d41 d42 d43 d44 d45 d46 d47 d48 d49 d50 d51 d52 d53 d54 d55 d56 d57 d58 d59 d60 d61 d62 d63 d64 d65 d66 d67 d68 d69 d70 d71 d72 d73 d74 d75 d76 d77 d78 d79 d80 d81 d82 d83 d84 d85 d86 d87 d88 d89 d90 d91 d92 d93 w R))
else
(Leaf (weftref3_header.j2 y2 yg3 Y7 yn7 yc7 y8 d0 d1 d4 d5 d6 d9 d10 d11 d12 d13 d14 d15 d16 d17 d18 d19 d20 d21 d22 d23 d24 d25 d26 d27 d28 d29 d30 d31 d32 d33 d34 d35 (.pointer (some ⟨yg3, 3, none⟩)) (.bool b1) d38 d39 d40 d41 d42 d43 d44 d45 d46 d47 d48 d49 d50 d51 d52 d53 d54 d55 d56 d57 d58 d59 d60 d61 d62 d63 d64 d65 d66 d67 d68 d69 d70 d71 d72 d73 d74 d75 d76 d77 d78 d79 d80 d81 d82 d83 d84 d85 d86 d87 d88 d89 d90 d91 d92 d93 w R))))) := by kernel_rfl
theorem weftref3_header.j2_eq (y2 : Int) (yg3 : Nat) (Y7 : Option Addr) (yn7 : Nat) (yc7 : Nat) (y8 : Int) (d0 d1 d4 d5 d6 d9 d10 d11 d12 d13 d14 d15 d16 d17 d18 d19 d20 d21 d22 d23 d24 d25 d26 d27 d28 d29 d30 d31 d32 d33 d34 d35 d36 d37 d38 d39 d40 d41 d42 d43 d44 d45 d46 d47 d48 d49 d50 d51 d52 d53 d54 d55 d56 d57 d58 d59 d60 d61 d62 d63 d64 d65 d66 d67 d68 d69 d70 d71 d72 d73 d74 d75 d76 d77 d78 d79 d80 d81 d82 d83 d84 d85 d86 d87 d88 d89 d90 d91 d92 d93 : Value) (w : World) (R : Ending → World → Prop) : weftref3_header.j2 y2 yg3 Y7 yn7 yc7 y8 d0 d1 d4 d5 d6 d9 d10 d11 d12 d13 d14 d15 d16 d17 d18 d19 d20 d21 d22 d23 d24 d25 d26 d27 d28 d29 d30 d31 d32 d33 d34 d35 d36 d37 d38 d39 d40 d41 d42 d43 d44 d45 d46 d47 d48 d49 d50 d51 d52 d53 d54 d55 d56 d57 d58 d59 d60 d61 d62 d63 d64 d65 d66 d67 d68 d69 d70 d71 d72 d73 d74 d75 d76 d77 d78 d79 d80 d81 d82 d83 d84 d85 d86 d87 d88 d89 d90 d91 d92 d93 w R =
(Calls Try.prog 78 #[.slice Y7 yn7 yc7, .int .i64 y8] w (fun (e2 : Ending) (w1 : World) =>
 ∃ (A3 : Option Addr) (n3_ c3_ : Nat), e2 = .returned (.slice A3 n3_ c3_) ∧
(∃ x4 : Int, w1.cell? ⟨yg3, 5, none⟩ = some (.int .u8 x4) ∧
(∃ x5 : Int, w1.cell? ⟨yg3, 6, none⟩ = some (.int .u8 x5) ∧
(Let (w1.heap.size) fun g6 : Nat =>
 Let (w1.alloc (.cells #[.int .u8 x4, .int .u8 x5] 5)) fun w7 : World =>
 AppE w7 1 1 5 [.int .u8 0] A3 n3_ c3_ (some ⟨g6, 0, none⟩) 2 (fun (A8 : Option Addr) (c9 : Nat) (w10 : World) =>
 Let (IntKind.i64.wrap y2) fun x11 : Int =>
 Calls Try.prog 78 #[.slice A8 (n3_ + 2) c9, .int .i64 x11] w10 (fun (e13 : Ending) (w12 : World) =>
 ∃ (A14 : Option Addr) (n14_ c14_ : Nat), e13 = .returned (.slice A14 n14_ c14_) ∧
(∃ x15 : Int, w12.cell? ⟨yg3, 7, none⟩ = some (.int .u32 x15) ∧
(Let (IntKind.i64.wrap x15) fun x16 : Int =>
 Let (IntKind.i64.wrap (Int.tdiv x16 65536)) fun x17 : Int =>
 Calls Try.prog 78 #[.slice A14 n14_ c14_, .int .i64 x17] w12 (fun (e19 : Ending) (w18 : World) =>
 ∃ (A20 : Option Addr) (n20_ c20_ : Nat), e19 = .returned (.slice A20 n20_ c20_) ∧
(∃ x21 : Int, w18.cell? ⟨yg3, 7, none⟩ = some (.int .u32 x21) ∧
(Let (IntKind.i64.wrap x21) fun x22 : Int =>
 Let (Int.tmod x22 65536) fun x23 : Int =>
 Calls Try.prog 78 #[.slice A20 n20_ c20_, .int .i64 x23] w18 (fun (e25 : Ending) (w24 : World) =>
 ∃ (A26 : Option Addr) (n26_ c26_ : Nat), e25 = .returned (.slice A26 n26_ c26_) ∧
(∃ x27 : Int, w24.cell? ⟨yg3, 8, none⟩ = some (.int .u32 x27) ∧
(Let (IntKind.i64.wrap x27) fun x28 : Int =>
 Let (IntKind.i64.wrap (Int.tdiv x28 65536)) fun x29 : Int =>
 Calls Try.prog 78 #[.slice A26 n26_ c26_, .int .i64 x29] w24 (fun (e31 : Ending) (w30 : World) =>
 ∃ (A32 : Option Addr) (n32_ c32_ : Nat), e31 = .returned (.slice A32 n32_ c32_) ∧
(∃ x33 : Int, w30.cell? ⟨yg3, 8, none⟩ = some (.int .u32 x33) ∧
(Let (IntKind.i64.wrap x33) fun x34 : Int =>
 Let (Int.tmod x34 65536) fun x35 : Int =>
 Calls Try.prog 78 #[.slice A32 n32_ c32_, .int .i64 x35] w30 (fun (e37 : Ending) (w36 : World) =>
 ∃ (A38 : Option Addr) (n38_ c38_ : Nat), e37 = .returned (.slice A38 n38_ c38_) ∧
(∃ n39 : Nat, weftref3_header.l1 n39 yg3 A38 n38_ c38_ 0 d0 d1 (.int .u16 y2) d4 d5 d6 (.int .i64 y8) d10 d11 d12 d13 d14 d15 d16 d17 d18 d19 d20 d21 d22 d23 d24 d25 d26 d27 d28 d29 d30 d31 d32 d33 d34 d35 d36 d37 d38 d39 (.slice Y7 yn7 yc7) (.int .i64 y8) (.slice A3 n3_ c3_) (.slice A3 n3_ c3_) (.pointer (some ⟨yg3, 5, none⟩)) (.int .u8 x4) (.pointer (some ⟨yg3, 6, none⟩)) (.int .u8 x5) (.slice (some ⟨g6, 0, none⟩) 2 2) (.slice A8 (n3_ + 2) c9) (.slice A8 (n3_ + 2) c9) (.int .u16 y2) (.int .i64 x11) (.slice A14 n14_ c14_) (.slice A14 n14_ c14_) (.pointer (some ⟨yg3, 7, none⟩)) (.int .u32 x15) (.int .i64 x16) (.int .i64 x17) (.slice A20 n20_ c20_) (.slice A20 n20_ c20_) (.pointer (some ⟨yg3, 7, none⟩)) (.int .u32 x21) (.int .i64 x22) (.int .i64 x23) (.slice A26 n26_ c26_) (.slice A26 n26_ c26_) (.pointer (some ⟨yg3, 8, none⟩)) (.int .u32 x27) (.int .i64 x28) (.int .i64 x29) (.slice A32 n32_ c32_) (.slice A32 n32_ c32_) (.pointer (some ⟨yg3, 8, none⟩)) (.int .u32 x33) (.int .i64 x34) (.int .i64 x35) (.slice A38 n38_ c38_) d78 d79 d80 d81 d82 d83 d84 d85 d86 d87 d88 d89 d90 d91 d92 d93 w36 R)))))))))))))))))))) := by kernel_rfl
theorem weftref3_header.l1_eq (n : Nat) (yg3 : Nat) (Y7 : Option Addr) (yn7 : Nat) (yc7 : Nat) (y9 : Int) (d0 d1 d2 d4 d5 d6 d8 d10 d11 d12 d13 d14 d15 d16 d17 d18 d19 d20 d21 d22 d23 d24 d25 d26 d27 d28 d29 d30 d31 d32 d33 d34 d35 d36 d37 d38 d39 d40 d41 d42 d43 d44 d45 d46 d47 d48 d49 d50 d51 d52 d53 d54 d55 d56 d57 d58 d59 d60 d61 d62 d63 d64 d65 d66 d67 d68 d69 d70 d71 d72 d73 d74 d75 d76 d77 d78 d79 d80 d81 d82 d83 d84 d85 d86 d87 d88 d89 d90 d91 d92 d93 : Value) (w : World) (R : Ending → World → Prop) : weftref3_header.l1 (n + 1) yg3 Y7 yn7 yc7 y9 d0 d1 d2 d4 d5 d6 d8 d10 d11 d12 d13 d14 d15 d16 d17 d18 d19 d20 d21 d22 d23 d24 d25 d26 d27 d28 d29 d30 d31 d32 d33 d34 d35 d36 d37 d38 d39 d40 d41 d42 d43 d44 d45 d46 d47 d48 d49 d50 d51 d52 d53 d54 d55 d56 d57 d58 d59 d60 d61 d62 d63 d64 d65 d66 d67 d68 d69 d70 d71 d72 d73 d74 d75 d76 d77 d78 d79 d80 d81 d82 d83 d84 d85 d86 d87 d88 d89 d90 d91 d92 d93 w R =
(∃ (A1 : Option Addr) (n1_ c1_ : Nat), w.cell? ⟨yg3, 9, none⟩ = some (.slice A1 n1_ c1_) ∧
((if decide (y9 < (n1_ : Int)) = true then
(∃ (A2 : Option Addr) (n2_ c2_ : Nat), w.cell? ⟨yg3, 9, none⟩ = some (.slice A2 n2_ c2_) ∧
(∃ a3 : Addr, A2 = some a3 ∧ (0 ≤ y9 ∧ y9 < (n2_ : Int)) ∧
(∃ x4 : Int, w.cell? (a3.add y9.toNat) = some (.int .u8 x4) ∧
(Let (w.heap.size) fun g5 : Nat =>
 Let (w.alloc (.cells #[.int .u8 x4] 5)) fun w6 : World =>
 AppE w6 1 1 5 [.int .u8 0] Y7 yn7 yc7 (some ⟨g5, 0, none⟩) 1 (fun (A7 : Option Addr) (c8 : Nat) (w9 : World) =>
 Let (IntKind.i64.wrap (y9 + 1)) fun x10 : Int =>
 weftref3_header.l1 n yg3 A7 (yn7 + 1) c8 x10 d0 d1 d2 d4 d5 d6 d8 d10 d11 d12 d13 d14 d15 d16 d17 d18 d19 d20 d21 d22 d23 d24 d25 d26 d27 d28 d29 d30 d31 d32 d33 d34 d35 d36 d37 d38 d39 d40 d41 d42 d43 d44 d45 d46 d47 d48 d49 d50 d51 d52 d53 d54 d55 d56 d57 d58 d59 d60 d61 d62 d63 d64 d65 d66 d67 d68 d69 d70 d71 d72 d73 d74 d75 d76 d77 (.int .i64 y9) (.pointer (some ⟨yg3, 9, none⟩)) (.slice A1 n1_ c1_) (.int .i64 (n1_ : Int)) (.bool (decide (y9 < (n1_ : Int)))) (.int .i64 y9) (.int .i64 x10) (.slice Y7 yn7 yc7) (.pointer (some ⟨yg3, 9, none⟩)) (.slice A2 n2_ c2_) (.int .i64 y9) (.pointer (some (a3.add y9.toNat))) (.int .u8 x4) (.slice (some ⟨g5, 0, none⟩) 1 1) (.slice A7 (yn7 + 1) c8) d93 w9 R)))))
else
(R (.returned (.slice Y7 yn7 yc7)) w)))) := by kernel_rfl
def weftref3_header.s (i0_0 : Int) (i0_1 : Int) (i0_2 : Bool) (i0_3 : Bool) (i0_4 : Int) (i0_5 : Int) (i0_6 : Int) (i0_7 : Int) (i0_8 : Int) (I0_9 : Option Addr) (in0_9 : Nat) (ic0_9 : Nat) (i1 : Int) (i2 : Int) (w : World) (R : Ending → World → Prop) : Prop :=
(Let (w.heap.size) fun g1 : Nat =>
 Let (w.alloc (.cells #[.int .u8 i0_0, .int .u16 i0_1, .bool i0_2, .bool i0_3, .int .i64 i0_4, .int .u8 i0_5, .int .u8 i0_6, .int .u32 i0_7, .int .u32 i0_8, .slice I0_9 in0_9 ic0_9] 86)) fun w2 : World =>
 ∃ (A3 : Option Addr) (n3_ c3_ : Nat), w2.cell? ⟨g1, 9, none⟩ = some (.slice A3 n3_ c3_) ∧
(Let (IntKind.i64.wrap (Int.tdiv (n3_ : Int) 4)) fun x4 : Int =>
 Let (IntKind.i64.wrap (69 + x4)) fun x5 : Int =>
 Let (IntKind.u8.wrap x5) fun x6 : Int =>
 ∃ x7 : Int, w2.cell? ⟨g1, 0, none⟩ = some (.int .u8 x7) ∧
(Let (w2.heap.size) fun g8 : Nat =>
 Let (w2.alloc (.cells #[.int .u8 x6, .int .u8 x7] 5)) fun w9 : World =>
 AppE w9 1 1 5 [.int .u8 0] none 0 0 (some ⟨g8, 0, none⟩) 2 (fun (A10 : Option Addr) (c11 : Nat) (w12 : World) =>
 Calls Try.prog 78 #[.slice A10 2 c11, .int .i64 i1] w12 (fun (e14 : Ending) (w13 : World) =>
 ∃ (A15 : Option Addr) (n15_ c15_ : Nat), e14 = .returned (.slice A15 n15_ c15_) ∧
(∃ x16 : Int, w13.cell? ⟨g1, 1, none⟩ = some (.int .u16 x16) ∧
(Let (IntKind.i64.wrap x16) fun x17 : Int =>
 Calls Try.prog 78 #[.slice A15 n15_ c15_, .int .i64 x17] w13 (fun (e19 : Ending) (w18 : World) =>
 ∃ (A20 : Option Addr) (n20_ c20_ : Nat), e19 = .returned (.slice A20 n20_ c20_) ∧
(∃ x21 : Int, w18.cell? ⟨g1, 4, none⟩ = some (.int .i64 x21) ∧
(Let (IntKind.i64.wrap (Int.tdiv x21 8)) fun x22 : Int =>
 ∃ b23 : Bool, w18.cell? ⟨g1, 2, none⟩ = some (.bool b23) ∧
((if b23 = true then
(Let (IntKind.i64.wrap (x22 + 16384)) fun x24 : Int =>
 Leaf (weftref3_header.j1 i2 g1 A20 n20_ c20_ x24 (.agg #[.int .u8 i0_0, .int .u16 i0_1, .bool i0_2, .bool i0_3, .int .i64 i0_4, .int .u8 i0_5, .int .u8 i0_6, .int .u32 i0_7, .int .u32 i0_8, .slice I0_9 in0_9 ic0_9]) (.int .i64 i1) undef undef (.slice none 0 0) undef (.slice none 0 0) (.pointer (some ⟨g1, 9, none⟩)) (.slice A3 n3_ c3_) (.int .i64 (n3_ : Int)) (.int .i64 x4) (.int .i64 x5) (.int .u8 x6) (.pointer (some ⟨g1, 0, none⟩)) (.int .u8 x7) (.slice (some ⟨g8, 0, none⟩) 2 2) (.slice A10 2 c11) (.slice A10 2 c11) (.int .i64 i1) (.slice A15 n15_ c15_) (.slice A15 n15_ c15_) (.pointer (some ⟨g1, 1, none⟩)) (.int .u16 x16) (.int .i64 x17) (.slice A20 n20_ c20_) (.pointer (some ⟨g1, 4, none⟩)) (.int .i64 x21) (.int .i64 x22) (.pointer (some ⟨g1, 2, none⟩)) (.bool b23) (.int .i64 x22) (.int .i64 x24) undef undef undef undef undef undef undef undef undef undef undef undef undef undef undef undef undef undef undef undef undef undef undef undef undef undef undef undef undef undef undef undef undef undef undef undef undef undef undef undef undef undef undef undef undef undef undef undef undef undef undef undef undef undef undef undef undef undef w18 R))
else
(Leaf (weftref3_header.j1 i2 g1 A20 n20_ c20_ x22 (.agg #[.int .u8 i0_0, .int .u16 i0_1, .bool i0_2, .bool i0_3, .int .i64 i0_4, .int .u8 i0_5, .int .u8 i0_6, .int .u32 i0_7, .int .u32 i0_8, .slice I0_9 in0_9 ic0_9]) (.int .i64 i1) undef undef (.slice none 0 0) undef (.slice none 0 0) (.pointer (some ⟨g1, 9, none⟩)) (.slice A3 n3_ c3_) (.int .i64 (n3_ : Int)) (.int .i64 x4) (.int .i64 x5) (.int .u8 x6) (.pointer (some ⟨g1, 0, none⟩)) (.int .u8 x7) (.slice (some ⟨g8, 0, none⟩) 2 2) (.slice A10 2 c11) (.slice A10 2 c11) (.int .i64 i1) (.slice A15 n15_ c15_) (.slice A15 n15_ c15_) (.pointer (some ⟨g1, 1, none⟩)) (.int .u16 x16) (.int .i64 x17) (.slice A20 n20_ c20_) (.pointer (some ⟨g1, 4, none⟩)) (.int .i64 x21) (.int .i64 x22) (.pointer (some ⟨g1, 2, none⟩)) (.bool b23) undef undef undef undef undef undef undef undef undef undef undef undef undef undef undef undef undef undef undef undef undef undef undef undef undef undef undef undef undef undef undef undef undef undef undef undef undef undef undef undef undef undef undef undef undef undef undef undef undef undef undef undef undef undef undef undef undef undef undef undef w18 R))))))))))))))
theorem weftref3_header.s_eq (i0_0 : Int) (i0_1 : Int) (i0_2 : Bool) (i0_3 : Bool) (i0_4 : Int) (i0_5 : Int) (i0_6 : Int) (i0_7 : Int) (i0_8 : Int) (I0_9 : Option Addr) (in0_9 : Nat) (ic0_9 : Nat) (i1 : Int) (i2 : Int) (w : World) (R : Ending → World → Prop) : seg Try.prog entE weftref3_header.ords weftref3_header.joins Try.f70 [] [] [] ([.agg #[.int .u8 i0_0, .int .u16 i0_1, .bool i0_2, .bool i0_3, .int .i64 i0_4, .int .u8 i0_5, .int .u8 i0_6, .int .u32 i0_7, .int .u32 i0_8, .slice I0_9 in0_9 ic0_9], .int .i64 i1, .int .u16 i2] ++ List.replicate (Try.f70.ntmps - ([.agg #[.int .u8 i0_0, .int .u16 i0_1, .bool i0_2, .bool i0_3, .int .i64 i0_4, .int .u8 i0_5, .int .u8 i0_6, .int .u32 i0_7, .int .u32 i0_8, .slice I0_9 in0_9 ic0_9], .int .i64 i1, .int .u16 i2] : List Value).length) undef) w R = weftref3_header.s i0_0 i0_1 i0_2 i0_3 i0_4 i0_5 i0_6 i0_7 i0_8 I0_9 in0_9 ic0_9 i1 i2 w R := by kernel_rfl
theorem weftref3_header.run {i0_0 : Int} {i0_1 : Int} {i0_2 : Bool} {i0_3 : Bool} {i0_4 : Int} {i0_5 : Int} {i0_6 : Int} {i0_7 : Int} {i0_8 : Int} {I0_9 : Option Addr} {in0_9 : Nat} {ic0_9 : Nat} {i1 : Int} {i2 : Int} {w : World} {R : Ending → World → Prop} (h : weftref3_header.s i0_0 i0_1 i0_2 i0_3 i0_4 i0_5 i0_6 i0_7 i0_8 I0_9 in0_9 ic0_9 i1 i2 w R) : Calls Try.prog 70 #[.agg #[.int .u8 i0_0, .int .u16 i0_1, .bool i0_2, .bool i0_3, .int .i64 i0_4, .int .u8 i0_5, .int .u8 i0_6, .int .u32 i0_7, .int .u32 i0_8, .slice I0_9 in0_9 ic0_9], .int .i64 i1, .int .u16 i2] w R :=
  calls_seg ents mixed Try.func70 rfl (by rw [weftref3_header.s_eq]; exact h)
/-! ### weftref3_front: function 82 -/
def weftref3_front.ords : Nat → Od
  | _ => .nil
def weftref3_front.joins (p : List Nat) : Bool := false
def weftref3_front.s (I0 : Option Addr) (in0 : Nat) (ic0 : Nat) (i1 : Bool) (w : World) (R : Ending → World → Prop) : Prop :=
((if decide ((in0 : Int) < 20) = true then
(R (.returned (.tuple #[.int .i64 0, .int .i64 0, .int .i64 30])) w)
else
(∃ a1 : Addr, I0 = some a1 ∧ (0 ≤ (0 : Int) ∧ (0 : Int) < (in0 : Int)) ∧
(∃ x2 : Int, w.cell? a1 = some (.int .u8 x2) ∧
(Let (IntKind.u8.wrap (Int.tdiv x2 16)) fun x3 : Int =>
(if (x3 != 4) = true then
(R (.returned (.tuple #[.int .i64 0, .int .i64 0, .int .i64 31])) w)
else
(∃ a4 : Addr, I0 = some a4 ∧ (0 ≤ (0 : Int) ∧ (0 : Int) < (in0 : Int)) ∧
(∃ x5 : Int, w.cell? a4 = some (.int .u8 x5) ∧
(Let (Int.tmod x5 16) fun x6 : Int =>
 Let (IntKind.i64.wrap x6) fun x7 : Int =>
 Let (IntKind.i64.wrap (4 * x7)) fun x8 : Int =>
(if decide (x8 < 20) = true then
(R (.returned (.tuple #[.int .i64 0, .int .i64 0, .int .i64 32])) w)
else
((if decide ((in0 : Int) < x8) = true then
(R (.returned (.tuple #[.int .i64 0, .int .i64 0, .int .i64 30])) w)
else
(Calls Try.prog 83 #[.slice I0 in0 ic0, .int .i64 2] w (fun (e10 : Ending) (w9 : World) =>
 ∃ x11 : Int, e10 = .returned (.int .i64 x11) ∧
((if decide (x11 < x8) = true then
(R (.returned (.tuple #[.int .i64 0, .int .i64 0, .int .i64 32])) w9)
else
((if i1 = true then
((if decide ((in0 : Int) < x11) = true then
(R (.returned (.tuple #[.int .i64 0, .int .i64 0, .int .i64 30])) w9)
else
(R (.returned (.tuple #[.int .i64 x8, .int .i64 x11, .int .i64 0])) w9)))
else
(R (.returned (.tuple #[.int .i64 x8, .int .i64 x11, .int .i64 0])) w9)))))))))))))))))))
theorem weftref3_front.s_eq (I0 : Option Addr) (in0 : Nat) (ic0 : Nat) (i1 : Bool) (w : World) (R : Ending → World → Prop) : seg Try.prog entE weftref3_front.ords weftref3_front.joins Try.f82 [] [] [] ([.slice I0 in0 ic0, .bool i1] ++ List.replicate (Try.f82.ntmps - ([.slice I0 in0 ic0, .bool i1] : List Value).length) undef) w R = weftref3_front.s I0 in0 ic0 i1 w R := by kernel_rfl
theorem weftref3_front.run {I0 : Option Addr} {in0 : Nat} {ic0 : Nat} {i1 : Bool} {w : World} {R : Ending → World → Prop} (h : weftref3_front.s I0 in0 ic0 i1 w R) : Calls Try.prog 82 #[.slice I0 in0 ic0, .bool i1] w R :=
  calls_seg ents mixed Try.func82 rfl (by rw [weftref3_front.s_eq]; exact h)
/-! ### weftref3_behind: function 86 -/
def weftref3_behind.ords : Nat → Od
  | _ => .nil
def weftref3_behind.joins (p : List Nat) : Bool := p == [1, 1, 1, 1]
def weftref3_behind.l1 (n : Nat) (Y0 : Option Addr) (yn0 : Nat) (yc0 : Nat) (y5 : Int) (d1 d2 d3 d4 d6 d7 d8 d9 d10 d11 d12 d13 d14 d15 d16 d17 d18 d19 d20 d21 d22 d23 d24 d25 d26 d27 d28 d29 d30 d31 d32 d33 d34 d35 d36 d37 d38 d39 d40 d41 d42 d43 d44 d45 d46 d47 d48 d49 d50 d51 d52 d53 d54 d55 d56 d57 d58 d59 d60 d61 d62 d63 d64 d65 : Value) (w : World) (R : Ending → World → Prop) : Prop :=
  lseg Try.prog entE weftref3_behind.ords weftref3_behind.joins Try.f86 [1, 1, 0, 1, 0, 0, 1, 0] [0, 1, 0, 0, 1, 0, 1, 1] [] n [.slice Y0 yn0 yc0, d1, d2, d3, d4, .int .i64 y5, d6, d7, d8, d9, d10, d11, d12, d13, d14, d15, d16, d17, d18, d19, d20, d21, d22, d23, d24, d25, d26, d27, d28, d29, d30, d31, d32, d33, d34, d35, d36, d37, d38, d39, d40, d41, d42, d43, d44, d45, d46, d47, d48, d49, d50, d51, d52, d53, d54, d55, d56, d57, d58, d59, d60, d61, d62, d63, d64, d65] w R
def weftref3_behind.j1 (Y0 : Option Addr) (yn0 : Nat) (yc0 : Nat) (y1 : Int) (d2 d3 d4 d5 d6 d7 d8 d9 d10 d11 d12 d13 d14 d15 d16 d17 d18 d19 d20 d21 d22 d23 d24 d25 d26 d27 d28 d29 d30 d31 d32 d33 d34 d35 d36 d37 d38 d39 d40 d41 d42 d43 d44 d45 d46 d47 d48 d49 d50 d51 d52 d53 d54 d55 d56 d57 d58 d59 d60 d61 d62 d63 d64 d65 : Value) (w : World) (R : Ending → World → Prop) : Prop :=
  seg Try.prog entE weftref3_behind.ords weftref3_behind.joins Try.f86 [1, 1, 1, 1] [1, 1, 1, 1] [] [.slice Y0 yn0 yc0, .int .i64 y1, d2, d3, d4, d5, d6, d7, d8, d9, d10, d11, d12, d13, d14, d15, d16, d17, d18, d19, d20, d21, d22, d23, d24, d25, d26, d27, d28, d29, d30, d31, d32, d33, d34, d35, d36, d37, d38, d39, d40, d41, d42, d43, d44, d45, d46, d47, d48, d49, d50, d51, d52, d53, d54, d55, d56, d57, d58, d59, d60, d61, d62, d63, d64, d65] w R
abbrev weftref3_behind.L1 (n : Nat) (Y0 : Option Addr) (yn0 : Nat) (yc0 : Nat) (y5 : Int) (w : World) (R : Ending → World → Prop) : Prop := ∀ d1 d2 d3 d4 d6 d7 d8 d9 d10 d11 d12 d13 d14 d15 d16 d17 d18 d19 d20 d21 d22 d23 d24 d25 d26 d27 d28 d29 d30 d31 d32 d33 d34 d35 d36 d37 d38 d39 d40 d41 d42 d43 d44 d45 d46 d47 d48 d49 d50 d51 d52 d53 d54 d55 d56 d57 d58 d59 d60 d61 d62 d63 d64 d65 : Value, weftref3_behind.l1 n Y0 yn0 yc0 y5 d1 d2 d3 d4 d6 d7 d8 d9 d10 d11 d12 d13 d14 d15 d16 d17 d18 d19 d20 d21 d22 d23 d24 d25 d26 d27 d28 d29 d30 d31 d32 d33 d34 d35 d36 d37 d38 d39 d40 d41 d42 d43 d44 d45 d46 d47 d48 d49 d50 d51 d52 d53 d54 d55 d56 d57 d58 d59 d60 d61 d62 d63 d64 d65 w R
abbrev weftref3_behind.J1 (Y0 : Option Addr) (yn0 : Nat) (yc0 : Nat) (y1 : Int) (w : World) (R : Ending → World → Prop) : Prop := ∀ d2 d3 d4 d5 d6 d7 d8 d9 d10 d11 d12 d13 d14 d15 d16 d17 d18 d19 d20 d21 d22 d23 d24 d25 d26 d27 d28 d29 d30 d31 d32 d33 d34 d35 d36 d37 d38 d39 d40 d41 d42 d43 d44 d45 d46 d47 d48 d49 d50 d51 d52 d53 d54 d55 d56 d57 d58 d59 d60 d61 d62 d63 d64 d65 : Value, weftref3_behind.j1 Y0 yn0 yc0 y1 d2 d3 d4 d5 d6 d7 d8 d9 d10 d11 d12 d13 d14 d15 d16 d17 d18 d19 d20 d21 d22 d23 d24 d25 d26 d27 d28 d29 d30 d31 d32 d33 d34 d35 d36 d37 d38 d39 d40 d41 d42 d43 d44 d45 d46 d47 d48 d49 d50 d51 d52 d53 d54 d55 d56 d57 d58 d59 d60 d61 d62 d63 d64 d65 w R
theorem weftref3_behind.l1_eq (n : Nat) (Y0 : Option Addr) (yn0 : Nat) (yc0 : Nat) (y5 : Int) (d1 d2 d3 d4 d6 d7 d8 d9 d10 d11 d12 d13 d14 d15 d16 d17 d18 d19 d20 d21 d22 d23 d24 d25 d26 d27 d28 d29 d30 d31 d32 d33 d34 d35 d36 d37 d38 d39 d40 d41 d42 d43 d44 d45 d46 d47 d48 d49 d50 d51 d52 d53 d54 d55 d56 d57 d58 d59 d60 d61 d62 d63 d64 d65 : Value) (w : World) (R : Ending → World → Prop) : weftref3_behind.l1 (n + 1) Y0 yn0 yc0 y5 d1 d2 d3 d4 d6 d7 d8 d9 d10 d11 d12 d13 d14 d15 d16 d17 d18 d19 d20 d21 d22 d23 d24 d25 d26 d27 d28 d29 d30 d31 d32 d33 d34 d35 d36 d37 d38 d39 d40 d41 d42 d43 d44 d45 d46 d47 d48 d49 d50 d51 d52 d53 d54 d55 d56 d57 d58 d59 d60 d61 d62 d63 d64 d65 w R =
((if decide (y5 < (yn0 : Int)) = true then
(∃ a1 : Addr, Y0 = some a1 ∧ (0 ≤ y5 ∧ y5 < (yn0 : Int)) ∧
(∃ x2 : Int, w.cell? (a1.add y5.toNat) = some (.int .u8 x2) ∧
((if (x2 != 0) = true then
(R (.returned (.int .i64 (-1))) w)
else
(Let (IntKind.i64.wrap (y5 + 1)) fun x3 : Int =>
 weftref3_behind.l1 n Y0 yn0 yc0 x3 d1 d2 d3 d4 d6 d7 d8 d9 d10 d11 d12 d13 d14 d15 d16 d17 d18 (.int .i64 y5) (.slice Y0 yn0 yc0) (.int .i64 (yn0 : Int)) (.bool (decide (y5 < (yn0 : Int)))) (.int .i64 y5) (.int .i64 x3) (.slice Y0 yn0 yc0) (.int .i64 y5) (.pointer (some (a1.add y5.toNat))) (.int .u8 x2) (.bool (x2 != 0)) d30 d31 d32 d33 d34 d35 d36 d37 d38 d39 d40 d41 d42 d43 d44 d45 d46 d47 d48 d49 d50 d51 d52 d53 d54 d55 d56 d57 d58 d59 d60 d61 d62 d63 d64 d65 w R)))))
else
(R (.returned (.int .i64 (yn0 : Int))) w))) := by kernel_rfl
theorem weftref3_behind.j1_eq (Y0 : Option Addr) (yn0 : Nat) (yc0 : Nat) (y1 : Int) (d2 d3 d4 d5 d6 d7 d8 d9 d10 d11 d12 d13 d14 d15 d16 d17 d18 d19 d20 d21 d22 d23 d24 d25 d26 d27 d28 d29 d30 d31 d32 d33 d34 d35 d36 d37 d38 d39 d40 d41 d42 d43 d44 d45 d46 d47 d48 d49 d50 d51 d52 d53 d54 d55 d56 d57 d58 d59 d60 d61 d62 d63 d64 d65 : Value) (w : World) (R : Ending → World → Prop) : weftref3_behind.j1 Y0 yn0 yc0 y1 d2 d3 d4 d5 d6 d7 d8 d9 d10 d11 d12 d13 d14 d15 d16 d17 d18 d19 d20 d21 d22 d23 d24 d25 d26 d27 d28 d29 d30 d31 d32 d33 d34 d35 d36 d37 d38 d39 d40 d41 d42 d43 d44 d45 d46 d47 d48 d49 d50 d51 d52 d53 d54 d55 d56 d57 d58 d59 d60 d61 d62 d63 d64 d65 w R =
(Let (IntKind.i64.wrap (y1 + 1)) fun x1 : Int =>
 ∃ a2 : Addr, Y0 = some a2 ∧ (0 ≤ x1 ∧ x1 < (yn0 : Int)) ∧
(∃ x3 : Int, w.cell? (a2.add x1.toNat) = some (.int .u8 x3) ∧
(Let (IntKind.i64.wrap x3) fun x4 : Int =>
 Let (IntKind.i64.wrap (y1 + x4)) fun x5 : Int =>
 R (.returned (.int .i64 x5)) w))) := by kernel_rfl
def weftref3_behind.s (I0 : Option Addr) (in0 : Nat) (ic0 : Nat) (i1 : Int) (w : World) (R : Ending → World → Prop) : Prop :=
(∃ a1 : Addr, I0 = some a1 ∧ (0 ≤ i1 ∧ i1 < (in0 : Int)) ∧
(∃ x2 : Int, w.cell? (a1.add i1.toNat) = some (.int .u8 x2) ∧
((if (x2 == 1) = true then
(Let (IntKind.i64.wrap (i1 + 1)) fun x3 : Int =>
 R (.returned (.int .i64 x3)) w)
else
(∃ a4 : Addr, I0 = some a4 ∧ (0 ≤ i1 ∧ i1 < (in0 : Int)) ∧
(∃ x5 : Int, w.cell? (a4.add i1.toNat) = some (.int .u8 x5) ∧
((if (x5 == 0) = true then
(∃ n6 : Nat, weftref3_behind.l1 n6 I0 in0 ic0 i1 (.int .i64 i1) undef undef (.int .i64 0) (.slice I0 in0 ic0) (.int .i64 i1) (.pointer (some (a1.add i1.toNat))) (.int .u8 x2) (.bool (x2 == 1)) undef undef (.slice I0 in0 ic0) (.int .i64 i1) (.pointer (some (a4.add i1.toNat))) (.int .u8 x5) (.bool (x5 == 0)) (.int .i64 i1) undef undef undef undef undef undef undef undef undef undef undef undef undef undef undef undef undef undef undef undef undef undef undef undef undef undef undef undef undef undef undef undef undef undef undef undef undef undef undef undef undef undef undef undef undef undef undef w R)
else
(Let (IntKind.i64.wrap (i1 + 1)) fun x7 : Int =>
(if decide (x7 ≥ (in0 : Int)) = true then
(R (.returned (.int .i64 (-1))) w)
else
(Let (IntKind.i64.wrap (i1 + 1)) fun x8 : Int =>
 ∃ a9 : Addr, I0 = some a9 ∧ (0 ≤ x8 ∧ x8 < (in0 : Int)) ∧
(∃ x10 : Int, w.cell? (a9.add x8.toNat) = some (.int .u8 x10) ∧
((if decide (x10 < 2) = true then
(R (.returned (.int .i64 (-1))) w)
else
(Let (IntKind.i64.wrap (i1 + 1)) fun x11 : Int =>
 ∃ a12 : Addr, I0 = some a12 ∧ (0 ≤ x11 ∧ x11 < (in0 : Int)) ∧
(∃ x13 : Int, w.cell? (a12.add x11.toNat) = some (.int .u8 x13) ∧
(Let (IntKind.i64.wrap x13) fun x14 : Int =>
 Let (IntKind.i64.wrap (i1 + x14)) fun x15 : Int =>
(if decide (x15 > (in0 : Int)) = true then
(R (.returned (.int .i64 (-1))) w)
else
(Leaf (weftref3_behind.j1 I0 in0 ic0 i1 undef undef (.int .i64 0) undef (.slice I0 in0 ic0) (.int .i64 i1) (.pointer (some (a1.add i1.toNat))) (.int .u8 x2) (.bool (x2 == 1)) undef undef (.slice I0 in0 ic0) (.int .i64 i1) (.pointer (some (a4.add i1.toNat))) (.int .u8 x5) (.bool (x5 == 0)) undef undef undef undef undef undef undef undef undef undef undef undef undef undef (.int .i64 i1) (.int .i64 x7) (.slice I0 in0 ic0) (.int .i64 (in0 : Int)) (.bool (decide (x7 ≥ (in0 : Int)))) (.bool false) (.slice I0 in0 ic0) (.int .i64 i1) (.int .i64 x8) (.pointer (some (a9.add x8.toNat))) (.int .u8 x10) (.bool (decide (x10 < 2))) (.bool (decide (x10 < 2))) (.bool false) (.int .i64 i1) (.slice I0 in0 ic0) (.int .i64 i1) (.int .i64 x11) (.pointer (some (a12.add x11.toNat))) (.int .u8 x13) (.int .i64 x14) (.int .i64 x15) (.slice I0 in0 ic0) (.int .i64 (in0 : Int)) (.bool (decide (x15 > (in0 : Int)))) (.bool (decide (x15 > (in0 : Int)))) undef undef undef undef undef undef undef undef w R))))))))))))))))))))
theorem weftref3_behind.s_eq (I0 : Option Addr) (in0 : Nat) (ic0 : Nat) (i1 : Int) (w : World) (R : Ending → World → Prop) : seg Try.prog entE weftref3_behind.ords weftref3_behind.joins Try.f86 [] [] [] ([.slice I0 in0 ic0, .int .i64 i1] ++ List.replicate (Try.f86.ntmps - ([.slice I0 in0 ic0, .int .i64 i1] : List Value).length) undef) w R = weftref3_behind.s I0 in0 ic0 i1 w R := by kernel_rfl
theorem weftref3_behind.run {I0 : Option Addr} {in0 : Nat} {ic0 : Nat} {i1 : Int} {w : World} {R : Ending → World → Prop} (h : weftref3_behind.s I0 in0 ic0 i1 w R) : Calls Try.prog 86 #[.slice I0 in0 ic0, .int .i64 i1] w R :=
  calls_seg ents mixed Try.func86 rfl (by rw [weftref3_behind.s_eq]; exact h)
/-! ### weftref3_read: function 73 -/
def weftref3_read.ords : Nat → Od
  | 18 => (.tk 0 (.tk 1 (.tk 2 (.tk 3 (.tk 6 (.tk 7 (.tk 8 (.tk 9 (.tk 10 (.tk 11 (.tk 12 (.tk 13 (.tk 14 (.tk 15 (.tk 16 (.tk 17 (.tk 18 (.tk 19 (.tk 22 (.tk 25 (.tk 26 (.tk 27 (.on 4 (.tk 5 (.on 20 (.tk 21 (.on 23 (.tk 24 (.on 28 (.tk 29 (.tk 30 (.on 31 .nil))))))))))))))))))))))))))))))))
  | _ => .nil
def weftref3_read.joins (p : List Nat) : Bool := p == [1, 1, 1, 1, 1, 1, 1, 1, 1, 1, 1]
def weftref3_read.j1 (Y0 : Option Addr) (yn0 : Nat) (yc0 : Nat) (yg4 : Nat) (y7 : Int) (y8 : Int) (y10 : Int) (y11 : Int) (d1 d2 d3 d5 d6 d9 d12 d13 d14 d15 d16 d17 d18 d19 d20 d21 d22 d23 d24 d25 d26 d27 d28 d29 d30 d31 d32 d33 d34 d35 d36 d37 d38 d39 d40 d41 d42 d43 d44 d45 d46 d47 d48 d49 d50 d51 d52 d53 d54 d55 d56 d57 d58 d59 d60 d61 d62 d63 d64 d65 d66 d67 d68 d69 d70 d71 d72 d73 d74 d75 d76 d77 d78 d79 d80 d81 d82 d83 d84 d85 d86 d87 d88 d89 d90 d91 d92 d93 d94 d95 d96 d97 d98 d99 d100 d101 d102 : Value) (w : World) (R : Ending → World → Prop) : Prop :=
  seg Try.prog entE weftref3_read.ords weftref3_read.joins Try.f73 [1, 1, 1, 1, 1, 1, 1, 1, 1, 1, 1] [1, 1, 1, 1, 1, 1, 1, 1, 1, 1, 1] [] [.slice Y0 yn0 yc0, d1, d2, d3, .pointer (some ⟨yg4, 0, none⟩), d5, d6, .int .i64 y7, .int .i64 y8, d9, .int .i64 y10, .int .i64 y11, d12, d13, d14, d15, d16, d17, d18, d19, d20, d21, d22, d23, d24, d25, d26, d27, d28, d29, d30, d31, d32, d33, d34, d35, d36, d37, d38, d39, d40, d41, d42, d43, d44, d45, d46, d47, d48, d49, d50, d51, d52, d53, d54, d55, d56, d57, d58, d59, d60, d61, d62, d63, d64, d65, d66, d67, d68, d69, d70, d71, d72, d73, d74, d75, d76, d77, d78, d79, d80, d81, d82, d83, d84, d85, d86, d87, d88, d89, d90, d91, d92, d93, d94, d95, d96, d97, d98, d99, d100, d101, d102] w R
abbrev weftref3_read.J1 (Y0 : Option Addr) (yn0 : Nat) (yc0 : Nat) (yg4 : Nat) (y7 : Int) (y8 : Int) (y10 : Int) (y11 : Int) (w : World) (R : Ending → World → Prop) : Prop := ∀ d1 d2 d3 d5 d6 d9 d12 d13 d14 d15 d16 d17 d18 d19 d20 d21 d22 d23 d24 d25 d26 d27 d28 d29 d30 d31 d32 d33 d34 d35 d36 d37 d38 d39 d40 d41 d42 d43 d44 d45 d46 d47 d48 d49 d50 d51 d52 d53 d54 d55 d56 d57 d58 d59 d60 d61 d62 d63 d64 d65 d66 d67 d68 d69 d70 d71 d72 d73 d74 d75 d76 d77 d78 d79 d80 d81 d82 d83 d84 d85 d86 d87 d88 d89 d90 d91 d92 d93 d94 d95 d96 d97 d98 d99 d100 d101 d102 : Value, weftref3_read.j1 Y0 yn0 yc0 yg4 y7 y8 y10 y11 d1 d2 d3 d5 d6 d9 d12 d13 d14 d15 d16 d17 d18 d19 d20 d21 d22 d23 d24 d25 d26 d27 d28 d29 d30 d31 d32 d33 d34 d35 d36 d37 d38 d39 d40 d41 d42 d43 d44 d45 d46 d47 d48 d49 d50 d51 d52 d53 d54 d55 d56 d57 d58 d59 d60 d61 d62 d63 d64 d65 d66 d67 d68 d69 d70 d71 d72 d73 d74 d75 d76 d77 d78 d79 d80 d81 d82 d83 d84 d85 d86 d87 d88 d89 d90 d91 d92 d93 d94 d95 d96 d97 d98 d99 d100 d101 d102 w R
theorem weftref3_read.j1_eq (Y0 : Option Addr) (yn0 : Nat) (yc0 : Nat) (yg4 : Nat) (y7 : Int) (y8 : Int) (y10 : Int) (y11 : Int) (d1 d2 d3 d5 d6 d9 d12 d13 d14 d15 d16 d17 d18 d19 d20 d21 d22 d23 d24 d25 d26 d27 d28 d29 d30 d31 d32 d33 d34 d35 d36 d37 d38 d39 d40 d41 d42 d43 d44 d45 d46 d47 d48 d49 d50 d51 d52 d53 d54 d55 d56 d57 d58 d59 d60 d61 d62 d63 d64 d65 d66 d67 d68 d69 d70 d71 d72 d73 d74 d75 d76 d77 d78 d79 d80 d81 d82 d83 d84 d85 d86 d87 d88 d89 d90 d91 d92 d93 d94 d95 d96 d97 d98 d99 d100 d101 d102 : Value) (w : World) (R : Ending → World → Prop) : weftref3_read.j1 Y0 yn0 yc0 yg4 y7 y8 y10 y11 d1 d2 d3 d5 d6 d9 d12 d13 d14 d15 d16 d17 d18 d19 d20 d21 d22 d23 d24 d25 d26 d27 d28 d29 d30 d31 d32 d33 d34 d35 d36 d37 d38 d39 d40 d41 d42 d43 d44 d45 d46 d47 d48 d49 d50 d51 d52 d53 d54 d55 d56 d57 d58 d59 d60 d61 d62 d63 d64 d65 d66 d67 d68 d69 d70 d71 d72 d73 d74 d75 d76 d77 d78 d79 d80 d81 d82 d83 d84 d85 d86 d87 d88 d89 d90 d91 d92 d93 d94 d95 d96 d97 d98 d99 d100 d101 d102 w R =
(Let (w.heap.size) fun g1 : Nat =>
 Let (w.alloc (.cells #[.int .u8 0, .int .u16 0, .bool false, .bool false, .int .i64 0, .int .u8 0, .int .u8 0, .int .u32 0, .int .u32 0, .slice none 0 0, .slice none 0 0] 88)) fun w2 : World =>
 ∃ S3 : World → Prop, S3 w2.drew ∧
(Let (w2.drew) fun w4 : World =>
 ∃ a5 : Addr, Y0 = some a5 ∧ (0 ≤ (1 : Int) ∧ (1 : Int) < (yn0 : Int)) ∧
(∃ x6 : Int, (∀ w', S3 w' → w'.cell? (a5.add 1) = some (.int .u8 x6)) ∧
(Let (IntKind.i64.wrap (Int.tdiv y10 2)) fun x7 : Int =>
 Let (Int.tmod y10 2) fun x8 : Int =>
 ∃ a9 : Addr, Y0 = some a9 ∧ (0 ≤ (8 : Int) ∧ (8 : Int) < (yn0 : Int)) ∧
(∃ x10 : Int, (∀ w', S3 w' → w'.cell? (a9.add 8) = some (.int .u8 x10)) ∧
(∃ a11 : Addr, Y0 = some a11 ∧ (0 ≤ (9 : Int) ∧ (9 : Int) < (yn0 : Int)) ∧
(∃ x12 : Int, (∀ w', S3 w' → w'.cell? (a11.add 9) = some (.int .u8 x12)) ∧
((0 ≤ y7 ∧ y7 ≤ (yc0 : Int)) ∧
(0 ≤ (20 : Int) ∧ (20 : Int) ≤ (y7.toNat : Int)) ∧
(Calls Try.prog 83 #[.slice Y0 yn0 yc0, .int .i64 4] w4 (fun (e14 : Ending) (w13 : World) =>
 ∃ x15 : Int, e14 = .returned (.int .i64 x15) ∧
(S3 w13 ∧
(Let (IntKind.u16.wrap x15) fun x16 : Int =>
 Calls Try.prog 84 #[.slice Y0 yn0 yc0, .int .i64 12] w13 (fun (e18 : Ending) (w17 : World) =>
 ∃ x19 : Int, e18 = .returned (.int .i64 x19) ∧
(S3 w17 ∧
(Let (IntKind.u32.wrap x19) fun x20 : Int =>
 Calls Try.prog 84 #[.slice Y0 yn0 yc0, .int .i64 16] w17 (fun (e22 : Ending) (w21 : World) =>
 ∃ x23 : Int, e22 = .returned (.int .i64 x23) ∧
(S3 w21 ∧
(Let (IntKind.u32.wrap x23) fun x24 : Int =>
 Calls Try.prog 85 #[.slice (cutA Y0 20 yc0 1) (y7.toNat - 20) (yc0 - 20)] w21 (fun (e26 : Ending) (w25 : World) =>
 ∃ (A27 : Option Addr) (n27_ c27_ : Nat), e26 = .returned (.slice A27 n27_ c27_) ∧
(S3 w25 ∧
(May w25 ⟨g1, 0, none⟩ 10 ∧
(Let (putCells w25 ⟨g1, 0, none⟩ [.int .u8 x6, .int .u16 x16, .bool (x7 == 1), .bool (x8 == 1), .int .i64 y11, .int .u8 x10, .int .u8 x12, .int .u32 x20, .int .u32 x24, .slice A27 n27_ c27_] 0) fun w28 : World =>
 S3 w28 ∧
((0 ≤ y8 ∧ y8 ≤ (yc0 : Int)) ∧
(0 ≤ y7 ∧ y7 ≤ (y8.toNat : Int)) ∧
(Calls Try.prog 85 #[.slice (cutA Y0 y7.toNat yc0 1) (y8.toNat - y7.toNat) (yc0 - y7.toNat)] w28 (fun (e30 : Ending) (w29 : World) =>
 ∃ (A31 : Option Addr) (n31_ c31_ : Nat), e30 = .returned (.slice A31 n31_ c31_) ∧
(MayC w29 ⟨g1, 10, none⟩ ∧
(Let (w29.setCell ⟨g1, 10, none⟩ (.slice A31 n31_ c31_)) fun w32 : World =>
 ∃ x33 : Int, ∃ x34 : Int, ∃ b35 : Bool, ∃ b36 : Bool, ∃ x37 : Int, ∃ x38 : Int, ∃ x39 : Int, ∃ x40 : Int, ∃ x41 : Int, ∃ (A42 : Option Addr) (n42_ c42_ : Nat), ∃ (A43 : Option Addr) (n43_ c43_ : Nat), (11 = 11 ∧ At w32 ⟨g1, 0, none⟩ [.int .u8 x33, .int .u16 x34, .bool b35, .bool b36, .int .i64 x37, .int .u8 x38, .int .u8 x39, .int .u32 x40, .int .u32 x41, .slice A42 n42_ c42_, .slice A43 n43_ c43_]) ∧
(May w32 ⟨yg4, 0, none⟩ 11 ∧
(Let (putCells w32 ⟨yg4, 0, none⟩ [.int .u8 x33, .int .u16 x34, .bool b35, .bool b36, .int .i64 x37, .int .u8 x38, .int .u8 x39, .int .u32 x40, .int .u32 x41, .slice A42 n42_ c42_, .slice A43 n43_ c43_] 0) fun w44 : World =>
 ∃ x45 : Int, ∃ x46 : Int, ∃ b47 : Bool, ∃ b48 : Bool, ∃ x49 : Int, ∃ x50 : Int, ∃ x51 : Int, ∃ x52 : Int, ∃ x53 : Int, ∃ (A54 : Option Addr) (n54_ c54_ : Nat), ∃ (A55 : Option Addr) (n55_ c55_ : Nat), (11 = 11 ∧ At w44 ⟨yg4, 0, none⟩ [.int .u8 x45, .int .u16 x46, .bool b47, .bool b48, .int .i64 x49, .int .u8 x50, .int .u8 x51, .int .u32 x52, .int .u32 x53, .slice A54 n54_ c54_, .slice A55 n55_ c55_]) ∧
(R (.returned (.tuple #[.agg #[.int .u8 x45, .int .u16 x46, .bool b47, .bool b48, .int .i64 x49, .int .u8 x50, .int .u8 x51, .int .u32 x52, .int .u32 x53, .slice A54 n54_ c54_, .slice A55 n55_ c55_], .int .i64 0])) w44)))))))))))))))))))))))))))))) := by kernel_rfl
def weftref3_read.s (I0 : Option Addr) (in0 : Nat) (ic0 : Nat) (i1 : Bool) (w : World) (R : Ending → World → Prop) : Prop :=
(Let (w.heap.size) fun g1 : Nat =>
 Let (w.alloc (.cells #[.int .u8 0, .int .u16 0, .bool false, .bool false, .int .i64 0, .int .u8 0, .int .u8 0, .int .u32 0, .int .u32 0, .slice none 0 0, .slice none 0 0] 88)) fun w2 : World =>
 Let (w2.heap.size) fun g3 : Nat =>
 Let (w2.alloc (.cells #[.int .u8 0, .int .u16 0, .bool false, .bool false, .int .i64 0, .int .u8 0, .int .u8 0, .int .u32 0, .int .u32 0, .slice none 0 0, .slice none 0 0] 88)) fun w4 : World =>
 Calls Try.prog 82 #[.slice I0 in0 ic0, .bool i1] w4 (fun (e6 : Ending) (w5 : World) =>
 ∃ x7 : Int, ∃ x8 : Int, ∃ x9 : Int, e6 = .returned (.tuple #[.int .i64 x7, .int .i64 x8, .int .i64 x9]) ∧
((if (x9 != 0) = true then
(∃ x10 : Int, ∃ x11 : Int, ∃ b12 : Bool, ∃ b13 : Bool, ∃ x14 : Int, ∃ x15 : Int, ∃ x16 : Int, ∃ x17 : Int, ∃ x18 : Int, ∃ (A19 : Option Addr) (n19_ c19_ : Nat), ∃ (A20 : Option Addr) (n20_ c20_ : Nat), (11 = 11 ∧ At w5 ⟨g3, 0, none⟩ [.int .u8 x10, .int .u16 x11, .bool b12, .bool b13, .int .i64 x14, .int .u8 x15, .int .u8 x16, .int .u32 x17, .int .u32 x18, .slice A19 n19_ c19_, .slice A20 n20_ c20_]) ∧
(May w5 ⟨g1, 0, none⟩ 11 ∧
(Let (putCells w5 ⟨g1, 0, none⟩ [.int .u8 x10, .int .u16 x11, .bool b12, .bool b13, .int .i64 x14, .int .u8 x15, .int .u8 x16, .int .u32 x17, .int .u32 x18, .slice A19 n19_ c19_, .slice A20 n20_ c20_] 0) fun w21 : World =>
 ∃ x22 : Int, ∃ x23 : Int, ∃ b24 : Bool, ∃ b25 : Bool, ∃ x26 : Int, ∃ x27 : Int, ∃ x28 : Int, ∃ x29 : Int, ∃ x30 : Int, ∃ (A31 : Option Addr) (n31_ c31_ : Nat), ∃ (A32 : Option Addr) (n32_ c32_ : Nat), (11 = 11 ∧ At w21 ⟨g1, 0, none⟩ [.int .u8 x22, .int .u16 x23, .bool b24, .bool b25, .int .i64 x26, .int .u8 x27, .int .u8 x28, .int .u32 x29, .int .u32 x30, .slice A31 n31_ c31_, .slice A32 n32_ c32_]) ∧
(R (.returned (.tuple #[.agg #[.int .u8 x22, .int .u16 x23, .bool b24, .bool b25, .int .i64 x26, .int .u8 x27, .int .u8 x28, .int .u32 x29, .int .u32 x30, .slice A31 n31_ c31_, .slice A32 n32_ c32_], .int .i64 x9])) w21))))
else
((0 ≤ x7 ∧ x7 ≤ (ic0 : Int)) ∧
(Let (w5.heap.size) fun g33 : Nat =>
 Let (w5.alloc (.cells #[.slice I0 x7.toNat ic0] 28)) fun w34 : World =>
 Calls Try.prog 62 #[.slice (some ⟨g33, 0, none⟩) 1 1] w34 (fun (e36 : Ending) (w35 : World) =>
 ∃ x37 : Int, e36 = .returned (.int .u16 x37) ∧
((if (x37 != 0) = true then
(∃ x38 : Int, ∃ x39 : Int, ∃ b40 : Bool, ∃ b41 : Bool, ∃ x42 : Int, ∃ x43 : Int, ∃ x44 : Int, ∃ x45 : Int, ∃ x46 : Int, ∃ (A47 : Option Addr) (n47_ c47_ : Nat), ∃ (A48 : Option Addr) (n48_ c48_ : Nat), (11 = 11 ∧ At w35 ⟨g3, 0, none⟩ [.int .u8 x38, .int .u16 x39, .bool b40, .bool b41, .int .i64 x42, .int .u8 x43, .int .u8 x44, .int .u32 x45, .int .u32 x46, .slice A47 n47_ c47_, .slice A48 n48_ c48_]) ∧
(May w35 ⟨g1, 0, none⟩ 11 ∧
(Let (putCells w35 ⟨g1, 0, none⟩ [.int .u8 x38, .int .u16 x39, .bool b40, .bool b41, .int .i64 x42, .int .u8 x43, .int .u8 x44, .int .u32 x45, .int .u32 x46, .slice A47 n47_ c47_, .slice A48 n48_ c48_] 0) fun w49 : World =>
 ∃ x50 : Int, ∃ x51 : Int, ∃ b52 : Bool, ∃ b53 : Bool, ∃ x54 : Int, ∃ x55 : Int, ∃ x56 : Int, ∃ x57 : Int, ∃ x58 : Int, ∃ (A59 : Option Addr) (n59_ c59_ : Nat), ∃ (A60 : Option Addr) (n60_ c60_ : Nat), (11 = 11 ∧ At w49 ⟨g1, 0, none⟩ [.int .u8 x50, .int .u16 x51, .bool b52, .bool b53, .int .i64 x54, .int .u8 x55, .int .u8 x56, .int .u32 x57, .int .u32 x58, .slice A59 n59_ c59_, .slice A60 n60_ c60_]) ∧
(R (.returned (.tuple #[.agg #[.int .u8 x50, .int .u16 x51, .bool b52, .bool b53, .int .i64 x54, .int .u8 x55, .int .u8 x56, .int .u32 x57, .int .u32 x58, .slice A59 n59_ c59_, .slice A60 n60_ c60_], .int .i64 33])) w49))))
else
(∃ a61 : Addr, I0 = some a61 ∧ (0 ≤ (6 : Int) ∧ (6 : Int) < (in0 : Int)) ∧
(∃ x62 : Int, w35.cell? (a61.add 6) = some (.int .u8 x62) ∧
(Let (IntKind.i64.wrap x62) fun x63 : Int =>
 Let (IntKind.i64.wrap (Int.tdiv x63 32)) fun x64 : Int =>
(if decide (x64 ≥ 4) = true then
(∃ x65 : Int, ∃ x66 : Int, ∃ b67 : Bool, ∃ b68 : Bool, ∃ x69 : Int, ∃ x70 : Int, ∃ x71 : Int, ∃ x72 : Int, ∃ x73 : Int, ∃ (A74 : Option Addr) (n74_ c74_ : Nat), ∃ (A75 : Option Addr) (n75_ c75_ : Nat), (11 = 11 ∧ At w35 ⟨g3, 0, none⟩ [.int .u8 x65, .int .u16 x66, .bool b67, .bool b68, .int .i64 x69, .int .u8 x70, .int .u8 x71, .int .u32 x72, .int .u32 x73, .slice A74 n74_ c74_, .slice A75 n75_ c75_]) ∧
(May w35 ⟨g1, 0, none⟩ 11 ∧
(Let (putCells w35 ⟨g1, 0, none⟩ [.int .u8 x65, .int .u16 x66, .bool b67, .bool b68, .int .i64 x69, .int .u8 x70, .int .u8 x71, .int .u32 x72, .int .u32 x73, .slice A74 n74_ c74_, .slice A75 n75_ c75_] 0) fun w76 : World =>
 ∃ x77 : Int, ∃ x78 : Int, ∃ b79 : Bool, ∃ b80 : Bool, ∃ x81 : Int, ∃ x82 : Int, ∃ x83 : Int, ∃ x84 : Int, ∃ x85 : Int, ∃ (A86 : Option Addr) (n86_ c86_ : Nat), ∃ (A87 : Option Addr) (n87_ c87_ : Nat), (11 = 11 ∧ At w76 ⟨g1, 0, none⟩ [.int .u8 x77, .int .u16 x78, .bool b79, .bool b80, .int .i64 x81, .int .u8 x82, .int .u8 x83, .int .u32 x84, .int .u32 x85, .slice A86 n86_ c86_, .slice A87 n87_ c87_]) ∧
(R (.returned (.tuple #[.agg #[.int .u8 x77, .int .u16 x78, .bool b79, .bool b80, .int .i64 x81, .int .u8 x82, .int .u8 x83, .int .u32 x84, .int .u32 x85, .slice A86 n86_ c86_, .slice A87 n87_ c87_], .int .i64 32])) w76))))
else
((0 ≤ x7 ∧ x7 ≤ (ic0 : Int)) ∧
(0 ≤ (20 : Int) ∧ (20 : Int) ≤ (x7.toNat : Int)) ∧
(Calls Try.prog 76 #[.slice (cutA I0 20 ic0 1) (x7.toNat - 20) (ic0 - 20)] w35 (fun (e89 : Ending) (w88 : World) =>
 ∃ b90 : Bool, e89 = .returned (.bool b90) ∧
((if (!b90) = true then
(∃ x91 : Int, ∃ x92 : Int, ∃ b93 : Bool, ∃ b94 : Bool, ∃ x95 : Int, ∃ x96 : Int, ∃ x97 : Int, ∃ x98 : Int, ∃ x99 : Int, ∃ (A100 : Option Addr) (n100_ c100_ : Nat), ∃ (A101 : Option Addr) (n101_ c101_ : Nat), (11 = 11 ∧ At w88 ⟨g3, 0, none⟩ [.int .u8 x91, .int .u16 x92, .bool b93, .bool b94, .int .i64 x95, .int .u8 x96, .int .u8 x97, .int .u32 x98, .int .u32 x99, .slice A100 n100_ c100_, .slice A101 n101_ c101_]) ∧
(May w88 ⟨g1, 0, none⟩ 11 ∧
(Let (putCells w88 ⟨g1, 0, none⟩ [.int .u8 x91, .int .u16 x92, .bool b93, .bool b94, .int .i64 x95, .int .u8 x96, .int .u8 x97, .int .u32 x98, .int .u32 x99, .slice A100 n100_ c100_, .slice A101 n101_ c101_] 0) fun w102 : World =>
 ∃ x103 : Int, ∃ x104 : Int, ∃ b105 : Bool, ∃ b106 : Bool, ∃ x107 : Int, ∃ x108 : Int, ∃ x109 : Int, ∃ x110 : Int, ∃ x111 : Int, ∃ (A112 : Option Addr) (n112_ c112_ : Nat), ∃ (A113 : Option Addr) (n113_ c113_ : Nat), (11 = 11 ∧ At w102 ⟨g1, 0, none⟩ [.int .u8 x103, .int .u16 x104, .bool b105, .bool b106, .int .i64 x107, .int .u8 x108, .int .u8 x109, .int .u32 x110, .int .u32 x111, .slice A112 n112_ c112_, .slice A113 n113_ c113_]) ∧
(R (.returned (.tuple #[.agg #[.int .u8 x103, .int .u16 x104, .bool b105, .bool b106, .int .i64 x107, .int .u8 x108, .int .u8 x109, .int .u32 x110, .int .u32 x111, .slice A112 n112_ c112_, .slice A113 n113_ c113_], .int .i64 34])) w102))))
else
(Calls Try.prog 83 #[.slice I0 in0 ic0, .int .i64 6] w88 (fun (e115 : Ending) (w114 : World) =>
 ∃ x116 : Int, e115 = .returned (.int .i64 x116) ∧
(Let (Int.tmod x116 8192) fun x117 : Int =>
 Let (IntKind.i64.wrap (8 * x117)) fun x118 : Int =>
 Let (IntKind.i64.wrap (x8 - x7)) fun x119 : Int =>
 Let (Int.tmod x64 2) fun x120 : Int =>
 Calls Try.prog 77 #[.int .i64 x118, .int .i64 x119, .bool (x120 == 1)] w114 (fun (e122 : Ending) (w121 : World) =>
 ∃ b123 : Bool, e122 = .returned (.bool b123) ∧
((if (!b123) = true then
(∃ x124 : Int, ∃ x125 : Int, ∃ b126 : Bool, ∃ b127 : Bool, ∃ x128 : Int, ∃ x129 : Int, ∃ x130 : Int, ∃ x131 : Int, ∃ x132 : Int, ∃ (A133 : Option Addr) (n133_ c133_ : Nat), ∃ (A134 : Option Addr) (n134_ c134_ : Nat), (11 = 11 ∧ At w121 ⟨g3, 0, none⟩ [.int .u8 x124, .int .u16 x125, .bool b126, .bool b127, .int .i64 x128, .int .u8 x129, .int .u8 x130, .int .u32 x131, .int .u32 x132, .slice A133 n133_ c133_, .slice A134 n134_ c134_]) ∧
(May w121 ⟨g1, 0, none⟩ 11 ∧
(Let (putCells w121 ⟨g1, 0, none⟩ [.int .u8 x124, .int .u16 x125, .bool b126, .bool b127, .int .i64 x128, .int .u8 x129, .int .u8 x130, .int .u32 x131, .int .u32 x132, .slice A133 n133_ c133_, .slice A134 n134_ c134_] 0) fun w135 : World =>
 ∃ x136 : Int, ∃ x137 : Int, ∃ b138 : Bool, ∃ b139 : Bool, ∃ x140 : Int, ∃ x141 : Int, ∃ x142 : Int, ∃ x143 : Int, ∃ x144 : Int, ∃ (A145 : Option Addr) (n145_ c145_ : Nat), ∃ (A146 : Option Addr) (n146_ c146_ : Nat), (11 = 11 ∧ At w135 ⟨g1, 0, none⟩ [.int .u8 x136, .int .u16 x137, .bool b138, .bool b139, .int .i64 x140, .int .u8 x141, .int .u8 x142, .int .u32 x143, .int .u32 x144, .slice A145 n145_ c145_, .slice A146 n146_ c146_]) ∧
(R (.returned (.tuple #[.agg #[.int .u8 x136, .int .u16 x137, .bool b138, .bool b139, .int .i64 x140, .int .u8 x141, .int .u8 x142, .int .u32 x143, .int .u32 x144, .slice A145 n145_ c145_, .slice A146 n146_ c146_], .int .i64 36])) w135))))
else
((if decide (x8 > (in0 : Int)) = true then
(Leaf (weftref3_read.j1 I0 in0 ic0 g1 x7 (in0 : Int) x64 x118 (.bool i1) undef undef (.int .i64 0) (.pointer (some ⟨g3, 0, none⟩)) (.int .i64 x9) undef (.tuple #[.int .i64 x7, .int .i64 x8, .int .i64 x9]) (.slice I0 in0 ic0) (.bool i1) (.tuple #[.int .i64 x7, .int .i64 x8, .int .i64 x9]) (.int .i64 x7) (.int .i64 x8) (.int .i64 x9) (.int .i64 x9) (.bool (x9 != 0)) undef undef (.slice I0 in0 ic0) (.int .i64 x7) (.slice I0 x7.toNat ic0) (.slice (some ⟨g33, 0, none⟩) 1 1) (.int .u16 x37) (.bool (x37 != 0)) undef (.slice I0 in0 ic0) (.pointer (some (a61.add 6))) (.int .u8 x62) (.int .i64 x63) (.int .i64 x64) (.int .i64 x64) (.bool (decide (x64 ≥ 4))) undef (.slice I0 in0 ic0) (.int .i64 x7) (.slice (cutA I0 20 ic0 1) (x7.toNat - 20) (ic0 - 20)) (.bool b90) (.bool (!b90)) undef (.slice I0 in0 ic0) (.int .i64 x116) (.int .i64 x117) (.int .i64 x118) (.int .i64 x118) (.int .i64 x8) (.int .i64 x7) (.int .i64 x119) (.int .i64 x64) (.int .i64 x120) (.bool (x120 == 1)) (.bool b123) (.bool (!b123)) undef (.int .i64 x8) (.slice I0 in0 ic0) (.int .i64 (in0 : Int)) (.bool (decide (x8 > (in0 : Int)))) (.slice I0 in0 ic0) (.int .i64 (in0 : Int)) undef undef undef undef undef undef undef undef undef undef undef undef undef undef undef undef undef undef undef undef undef undef undef undef undef undef undef undef undef undef undef undef undef undef undef undef undef undef w121 R))
else
(Leaf (weftref3_read.j1 I0 in0 ic0 g1 x7 x8 x64 x118 (.bool i1) undef undef (.int .i64 0) (.pointer (some ⟨g3, 0, none⟩)) (.int .i64 x9) undef (.tuple #[.int .i64 x7, .int .i64 x8, .int .i64 x9]) (.slice I0 in0 ic0) (.bool i1) (.tuple #[.int .i64 x7, .int .i64 x8, .int .i64 x9]) (.int .i64 x7) (.int .i64 x8) (.int .i64 x9) (.int .i64 x9) (.bool (x9 != 0)) undef undef (.slice I0 in0 ic0) (.int .i64 x7) (.slice I0 x7.toNat ic0) (.slice (some ⟨g33, 0, none⟩) 1 1) (.int .u16 x37) (.bool (x37 != 0)) undef (.slice I0 in0 ic0) (.pointer (some (a61.add 6))) (.int .u8 x62) (.int .i64 x63) (.int .i64 x64) (.int .i64 x64) (.bool (decide (x64 ≥ 4))) undef (.slice I0 in0 ic0) (.int .i64 x7) (.slice (cutA I0 20 ic0 1) (x7.toNat - 20) (ic0 - 20)) (.bool b90) (.bool (!b90)) undef (.slice I0 in0 ic0) (.int .i64 x116) (.int .i64 x117) (.int .i64 x118) (.int .i64 x118) (.int .i64 x8) (.int .i64 x7) (.int .i64 x119) (.int .i64 x64) (.int .i64 x120) (.bool (x120 == 1)) (.bool b123) (.bool (!b123)) undef (.int .i64 x8) (.slice I0 in0 ic0) (.int .i64 (in0 : Int)) (.bool (decide (x8 > (in0 : Int)))) undef undef undef undef undef undef undef undef undef undef undef undef undef undef undef undef undef undef undef undef undef undef undef undef undef undef undef undef undef undef undef undef undef undef undef undef undef undef undef undef w121 R))))))))))))))))))))))))))))
theorem weftref3_read.s_eq (I0 : Option Addr) (in0 : Nat) (ic0 : Nat) (i1 : Bool) (w : World) (R : Ending → World → Prop) : seg Try.prog entE weftref3_read.ords weftref3_read.joins Try.f73 [] [] [] ([.slice I0 in0 ic0, .bool i1] ++ List.replicate (Try.f73.ntmps - ([.slice I0 in0 ic0, .bool i1] : List Value).length) undef) w R = weftref3_read.s I0 in0 ic0 i1 w R := by kernel_rfl
theorem weftref3_read.run {I0 : Option Addr} {in0 : Nat} {ic0 : Nat} {i1 : Bool} {w : World} {R : Ending → World → Prop} (h : weftref3_read.s I0 in0 ic0 i1 w R) : Calls Try.prog 73 #[.slice I0 in0 ic0, .bool i1] w R :=
  calls_seg ents mixed Try.func73 rfl (by rw [weftref3_read.s_eq]; exact h)
/-! ### weftref3_Build: function 49 -/
def weftref3_Build.ords : Nat → Od
  | _ => .nil
def weftref3_Build.joins (p : List Nat) : Bool := false
def weftref3_Build.l1 (n : Nat) (yg1 : Nat) (Y8 : Option Addr) (yn8 : Nat) (yc8 : Nat) (y9 : Int) (d0 d2 d3 d4 d5 d6 d7 d10 d11 d12 d13 d14 d15 d16 d17 d18 d19 d20 d21 d22 d23 d24 d25 d26 d27 d28 d29 d30 d31 d32 d33 d34 d35 d36 d37 d38 d39 d40 d41 d42 d43 d44 d45 d46 d47 d48 d49 d50 d51 : Value) (w : World) (R : Ending → World → Prop) : Prop :=
  lseg Try.prog entE weftref3_Build.ords weftref3_Build.joins Try.f49 [1, 1, 1, 1, 1, 1, 1, 0, 1, 0] [0, 1, 0, 1, 1, 1, 1, 1, 1, 1] [] n [d0, .pointer (some ⟨yg1, 0, none⟩), d2, d3, d4, d5, d6, d7, .slice Y8 yn8 yc8, .int .i64 y9, d10, d11, d12, d13, d14, d15, d16, d17, d18, d19, d20, d21, d22, d23, d24, d25, d26, d27, d28, d29, d30, d31, d32, d33, d34, d35, d36, d37, d38, d39, d40, d41, d42, d43, d44, d45, d46, d47, d48, d49, d50, d51] w R
abbrev weftref3_Build.L1 (n : Nat) (yg1 : Nat) (Y8 : Option Addr) (yn8 : Nat) (yc8 : Nat) (y9 : Int) (w : World) (R : Ending → World → Prop) : Prop := ∀ d0 d2 d3 d4 d5 d6 d7 d10 d11 d12 d13 d14 d15 d16 d17 d18 d19 d20 d21 d22 d23 d24 d25 d26 d27 d28 d29 d30 d31 d32 d33 d34 d35 d36 d37 d38 d39 d40 d41 d42 d43 d44 d45 d46 d47 d48 d49 d50 d51 : Value, weftref3_Build.l1 n yg1 Y8 yn8 yc8 y9 d0 d2 d3 d4 d5 d6 d7 d10 d11 d12 d13 d14 d15 d16 d17 d18 d19 d20 d21 d22 d23 d24 d25 d26 d27 d28 d29 d30 d31 d32 d33 d34 d35 d36 d37 d38 d39 d40 d41 d42 d43 d44 d45 d46 d47 d48 d49 d50 d51 w R
theorem weftref3_Build.l1_eq (n : Nat) (yg1 : Nat) (Y8 : Option Addr) (yn8 : Nat) (yc8 : Nat) (y9 : Int) (d0 d2 d3 d4 d5 d6 d7 d10 d11 d12 d13 d14 d15 d16 d17 d18 d19 d20 d21 d22 d23 d24 d25 d26 d27 d28 d29 d30 d31 d32 d33 d34 d35 d36 d37 d38 d39 d40 d41 d42 d43 d44 d45 d46 d47 d48 d49 d50 d51 : Value) (w : World) (R : Ending → World → Prop) : weftref3_Build.l1 (n + 1) yg1 Y8 yn8 yc8 y9 d0 d2 d3 d4 d5 d6 d7 d10 d11 d12 d13 d14 d15 d16 d17 d18 d19 d20 d21 d22 d23 d24 d25 d26 d27 d28 d29 d30 d31 d32 d33 d34 d35 d36 d37 d38 d39 d40 d41 d42 d43 d44 d45 d46 d47 d48 d49 d50 d51 w R =
(∃ (A1 : Option Addr) (n1_ c1_ : Nat), w.cell? ⟨yg1, 10, none⟩ = some (.slice A1 n1_ c1_) ∧
((if decide (y9 < (n1_ : Int)) = true then
(∃ (A2 : Option Addr) (n2_ c2_ : Nat), w.cell? ⟨yg1, 10, none⟩ = some (.slice A2 n2_ c2_) ∧
(∃ a3 : Addr, A2 = some a3 ∧ (0 ≤ y9 ∧ y9 < (n2_ : Int)) ∧
(∃ x4 : Int, w.cell? (a3.add y9.toNat) = some (.int .u8 x4) ∧
(Let (w.heap.size) fun g5 : Nat =>
 Let (w.alloc (.cells #[.int .u8 x4] 5)) fun w6 : World =>
 AppE w6 1 1 5 [.int .u8 0] Y8 yn8 yc8 (some ⟨g5, 0, none⟩) 1 (fun (A7 : Option Addr) (c8 : Nat) (w9 : World) =>
 Let (IntKind.i64.wrap (y9 + 1)) fun x10 : Int =>
 weftref3_Build.l1 n yg1 A7 (yn8 + 1) c8 x10 d0 d2 d3 d4 d5 d6 d7 d10 d11 d12 d13 d14 d15 d16 d17 d18 d19 d20 d21 d22 d23 d24 d25 d26 d27 d28 d29 d30 d31 d32 d33 d34 d35 (.int .i64 y9) (.pointer (some ⟨yg1, 10, none⟩)) (.slice A1 n1_ c1_) (.int .i64 (n1_ : Int)) (.bool (decide (y9 < (n1_ : Int)))) (.int .i64 y9) (.int .i64 x10) (.slice Y8 yn8 yc8) (.pointer (some ⟨yg1, 10, none⟩)) (.slice A2 n2_ c2_) (.int .i64 y9) (.pointer (some (a3.add y9.toNat))) (.int .u8 x4) (.slice (some ⟨g5, 0, none⟩) 1 1) (.slice A7 (yn8 + 1) c8) d51 w9 R)))))
else
(R (.returned (.tuple #[.slice Y8 yn8 yc8, .int .i64 0])) w)))) := by kernel_rfl
def weftref3_Build.s (i0_0 : Int) (i0_1 : Int) (i0_2 : Bool) (i0_3 : Bool) (i0_4 : Int) (i0_5 : Int) (i0_6 : Int) (i0_7 : Int) (i0_8 : Int) (I0_9 : Option Addr) (in0_9 : Nat) (ic0_9 : Nat) (I0_10 : Option Addr) (in0_10 : Nat) (ic0_10 : Nat) (w : World) (R : Ending → World → Prop) : Prop :=
(Let (w.heap.size) fun g1 : Nat =>
 Let (w.alloc (.cells #[.int .u8 i0_0, .int .u16 i0_1, .bool i0_2, .bool i0_3, .int .i64 i0_4, .int .u8 i0_5, .int .u8 i0_6, .int .u32 i0_7, .int .u32 i0_8, .slice I0_9 in0_9 ic0_9, .slice I0_10 in0_10 ic0_10] 88)) fun w2 : World =>
 ∃ x3 : Int, ∃ x4 : Int, ∃ b5 : Bool, ∃ b6 : Bool, ∃ x7 : Int, ∃ x8 : Int, ∃ x9 : Int, ∃ x10 : Int, ∃ x11 : Int, ∃ (A12 : Option Addr) (n12_ c12_ : Nat), ∃ (A13 : Option Addr) (n13_ c13_ : Nat), (11 = 11 ∧ At w2 ⟨g1, 0, none⟩ [.int .u8 x3, .int .u16 x4, .bool b5, .bool b6, .int .i64 x7, .int .u8 x8, .int .u8 x9, .int .u32 x10, .int .u32 x11, .slice A12 n12_ c12_, .slice A13 n13_ c13_]) ∧
(Calls Try.prog 69 #[.agg #[.int .u8 x3, .int .u16 x4, .bool b5, .bool b6, .int .i64 x7, .int .u8 x8, .int .u8 x9, .int .u32 x10, .int .u32 x11, .slice A12 n12_ c12_, .slice A13 n13_ c13_]] w2 (fun (e15 : Ending) (w14 : World) =>
 ∃ x16 : Int, e15 = .returned (.int .i64 x16) ∧
((if (x16 != 0) = true then
(R (.returned (.tuple #[.slice none 0 0, .int .i64 x16])) w14)
else
(∃ (A17 : Option Addr) (n17_ c17_ : Nat), w14.cell? ⟨g1, 9, none⟩ = some (.slice A17 n17_ c17_) ∧
(Let (IntKind.i64.wrap (20 + (n17_ : Int))) fun x18 : Int =>
 ∃ (A19 : Option Addr) (n19_ c19_ : Nat), w14.cell? ⟨g1, 10, none⟩ = some (.slice A19 n19_ c19_) ∧
(Let (IntKind.i64.wrap (x18 + (n19_ : Int))) fun x20 : Int =>
 ∃ x21 : Int, ∃ x22 : Int, ∃ b23 : Bool, ∃ b24 : Bool, ∃ x25 : Int, ∃ x26 : Int, ∃ x27 : Int, ∃ x28 : Int, ∃ x29 : Int, ∃ (A30 : Option Addr) (n30_ c30_ : Nat), (10 = 10 ∧ At w14 ⟨g1, 0, none⟩ [.int .u8 x21, .int .u16 x22, .bool b23, .bool b24, .int .i64 x25, .int .u8 x26, .int .u8 x27, .int .u32 x28, .int .u32 x29, .slice A30 n30_ c30_]) ∧
(Calls Try.prog 70 #[.agg #[.int .u8 x21, .int .u16 x22, .bool b23, .bool b24, .int .i64 x25, .int .u8 x26, .int .u8 x27, .int .u32 x28, .int .u32 x29, .slice A30 n30_ c30_], .int .i64 x20, .int .u16 0] w14 (fun (e32 : Ending) (w31 : World) =>
 ∃ (A33 : Option Addr) (n33_ c33_ : Nat), e32 = .returned (.slice A33 n33_ c33_) ∧
(Let (w31.heap.size) fun g34 : Nat =>
 Let (w31.alloc (.cells #[.slice A33 n33_ c33_] 28)) fun w35 : World =>
 Calls Try.prog 62 #[.slice (some ⟨g34, 0, none⟩) 1 1] w35 (fun (e37 : Ending) (w36 : World) =>
 ∃ x38 : Int, e37 = .returned (.int .u16 x38) ∧
(∃ x39 : Int, ∃ x40 : Int, ∃ b41 : Bool, ∃ b42 : Bool, ∃ x43 : Int, ∃ x44 : Int, ∃ x45 : Int, ∃ x46 : Int, ∃ x47 : Int, ∃ (A48 : Option Addr) (n48_ c48_ : Nat), (10 = 10 ∧ At w36 ⟨g1, 0, none⟩ [.int .u8 x39, .int .u16 x40, .bool b41, .bool b42, .int .i64 x43, .int .u8 x44, .int .u8 x45, .int .u32 x46, .int .u32 x47, .slice A48 n48_ c48_]) ∧
(Calls Try.prog 70 #[.agg #[.int .u8 x39, .int .u16 x40, .bool b41, .bool b42, .int .i64 x43, .int .u8 x44, .int .u8 x45, .int .u32 x46, .int .u32 x47, .slice A48 n48_ c48_], .int .i64 x20, .int .u16 x38] w36 (fun (e50 : Ending) (w49 : World) =>
 ∃ (A51 : Option Addr) (n51_ c51_ : Nat), e50 = .returned (.slice A51 n51_ c51_) ∧
(∃ n52 : Nat, weftref3_Build.l1 n52 g1 A51 n51_ c51_ 0 (.agg #[.int .u8 i0_0, .int .u16 i0_1, .bool i0_2, .bool i0_3, .int .i64 i0_4, .int .u8 i0_5, .int .u8 i0_6, .int .u32 i0_7, .int .u32 i0_8, .slice I0_9 in0_9 ic0_9, .slice I0_10 in0_10 ic0_10]) (.slice none 0 0) (.int .i64 0) (.int .i64 x16) (.int .i64 x20) (.slice A33 n33_ c33_) (.int .u16 x38) (.agg #[.int .u8 x3, .int .u16 x4, .bool b5, .bool b6, .int .i64 x7, .int .u8 x8, .int .u8 x9, .int .u32 x10, .int .u32 x11, .slice A12 n12_ c12_, .slice A13 n13_ c13_]) (.int .i64 x16) (.int .i64 x16) (.bool (x16 != 0)) undef (.pointer (some ⟨g1, 0, none⟩)) (.pointer (some ⟨g1, 9, none⟩)) (.slice A17 n17_ c17_) (.int .i64 (n17_ : Int)) (.int .i64 x18) (.pointer (some ⟨g1, 10, none⟩)) (.slice A19 n19_ c19_) (.int .i64 (n19_ : Int)) (.int .i64 x20) (.pointer (some ⟨g1, 0, none⟩)) (.agg #[.int .u8 x21, .int .u16 x22, .bool b23, .bool b24, .int .i64 x25, .int .u8 x26, .int .u8 x27, .int .u32 x28, .int .u32 x29, .slice A30 n30_ c30_]) (.int .i64 x20) (.slice A33 n33_ c33_) (.slice A33 n33_ c33_) (.slice (some ⟨g34, 0, none⟩) 1 1) (.int .u16 x38) (.pointer (some ⟨g1, 0, none⟩)) (.agg #[.int .u8 x39, .int .u16 x40, .bool b41, .bool b42, .int .i64 x43, .int .u8 x44, .int .u8 x45, .int .u32 x46, .int .u32 x47, .slice A48 n48_ c48_]) (.int .i64 x20) (.int .u16 x38) (.slice A51 n51_ c51_) undef undef undef undef undef undef undef undef undef undef undef undef undef undef undef undef w49 R))))))))))))))))
theorem weftref3_Build.s_eq (i0_0 : Int) (i0_1 : Int) (i0_2 : Bool) (i0_3 : Bool) (i0_4 : Int) (i0_5 : Int) (i0_6 : Int) (i0_7 : Int) (i0_8 : Int) (I0_9 : Option Addr) (in0_9 : Nat) (ic0_9 : Nat) (I0_10 : Option Addr) (in0_10 : Nat) (ic0_10 : Nat) (w : World) (R : Ending → World → Prop) : seg Try.prog entE weftref3_Build.ords weftref3_Build.joins Try.f49 [] [] [] ([.agg #[.int .u8 i0_0, .int .u16 i0_1, .bool i0_2, .bool i0_3, .int .i64 i0_4, .int .u8 i0_5, .int .u8 i0_6, .int .u32 i0_7, .int .u32 i0_8, .slice I0_9 in0_9 ic0_9, .slice I0_10 in0_10 ic0_10]] ++ List.replicate (Try.f49.ntmps - ([.agg #[.int .u8 i0_0, .int .u16 i0_1, .bool i0_2, .bool i0_3, .int .i64 i0_4, .int .u8 i0_5, .int .u8 i0_6, .int .u32 i0_7, .int .u32 i0_8, .slice I0_9 in0_9 ic0_9, .slice I0_10 in0_10 ic0_10]] : List Value).length) undef) w R = weftref3_Build.s i0_0 i0_1 i0_2 i0_3 i0_4 i0_5 i0_6 i0_7 i0_8 I0_9 in0_9 ic0_9 I0_10 in0_10 ic0_10 w R := by kernel_rfl
theorem weftref3_Build.run {i0_0 : Int} {i0_1 : Int} {i0_2 : Bool} {i0_3 : Bool} {i0_4 : Int} {i0_5 : Int} {i0_6 : Int} {i0_7 : Int} {i0_8 : Int} {I0_9 : Option Addr} {in0_9 : Nat} {ic0_9 : Nat} {I0_10 : Option Addr} {in0_10 : Nat} {ic0_10 : Nat} {w : World} {R : Ending → World → Prop} (h : weftref3_Build.s i0_0 i0_1 i0_2 i0_3 i0_4 i0_5 i0_6 i0_7 i0_8 I0_9 in0_9 ic0_9 I0_10 in0_10 ic0_10 w R) : Calls Try.prog 49 #[.agg #[.int .u8 i0_0, .int .u16 i0_1, .bool i0_2, .bool i0_3, .int .i64 i0_4, .int .u8 i0_5, .int .u8 i0_6, .int .u32 i0_7, .int .u32 i0_8, .slice I0_9 in0_9 ic0_9, .slice I0_10 in0_10 ic0_10]] w R :=
  calls_seg ents mixed Try.func49 rfl (by rw [weftref3_Build.s_eq]; exact h)
/-! ### weftref3_Parse: function 54 -/
def weftref3_Parse.ords : Nat → Od
  | _ => .nil
def weftref3_Parse.joins (p : List Nat) : Bool := false
def weftref3_Parse.s (I0 : Option Addr) (in0 : Nat) (ic0 : Nat) (w : World) (R : Ending → World → Prop) : Prop :=
(Let (w.heap.size) fun g1 : Nat =>
 Let (w.alloc (.cells #[.int .u8 0, .int .u16 0, .bool false, .bool false, .int .i64 0, .int .u8 0, .int .u8 0, .int .u32 0, .int .u32 0, .slice none 0 0, .slice none 0 0] 88)) fun w2 : World =>
 Calls Try.prog 73 #[.slice I0 in0 ic0, .bool true] w2 (fun (e4 : Ending) (w3 : World) =>
 ∃ x5 : Int, ∃ x6 : Int, ∃ b7 : Bool, ∃ b8 : Bool, ∃ x9 : Int, ∃ x10 : Int, ∃ x11 : Int, ∃ x12 : Int, ∃ x13 : Int, ∃ (A14 : Option Addr) (n14_ c14_ : Nat), ∃ (A15 : Option Addr) (n15_ c15_ : Nat), ∃ x16 : Int, e4 = .returned (.tuple #[.agg #[.int .u8 x5, .int .u16 x6, .bool b7, .bool b8, .int .i64 x9, .int .u8 x10, .int .u8 x11, .int .u32 x12, .int .u32 x13, .slice A14 n14_ c14_, .slice A15 n15_ c15_], .int .i64 x16]) ∧
(May w3 ⟨g1, 0, none⟩ 11 ∧
(Let (putCells w3 ⟨g1, 0, none⟩ [.int .u8 x5, .int .u16 x6, .bool b7, .bool b8, .int .i64 x9, .int .u8 x10, .int .u8 x11, .int .u32 x12, .int .u32 x13, .slice A14 n14_ c14_, .slice A15 n15_ c15_] 0) fun w17 : World =>
 ∃ x18 : Int, ∃ x19 : Int, ∃ b20 : Bool, ∃ b21 : Bool, ∃ x22 : Int, ∃ x23 : Int, ∃ x24 : Int, ∃ x25 : Int, ∃ x26 : Int, ∃ (A27 : Option Addr) (n27_ c27_ : Nat), ∃ (A28 : Option Addr) (n28_ c28_ : Nat), (11 = 11 ∧ At w17 ⟨g1, 0, none⟩ [.int .u8 x18, .int .u16 x19, .bool b20, .bool b21, .int .i64 x22, .int .u8 x23, .int .u8 x24, .int .u32 x25, .int .u32 x26, .slice A27 n27_ c27_, .slice A28 n28_ c28_]) ∧
(R (.returned (.tuple #[.agg #[.int .u8 x18, .int .u16 x19, .bool b20, .bool b21, .int .i64 x22, .int .u8 x23, .int .u8 x24, .int .u32 x25, .int .u32 x26, .slice A27 n27_ c27_, .slice A28 n28_ c28_], .int .i64 x16])) w17)))))
theorem weftref3_Parse.s_eq (I0 : Option Addr) (in0 : Nat) (ic0 : Nat) (w : World) (R : Ending → World → Prop) : seg Try.prog entE weftref3_Parse.ords weftref3_Parse.joins Try.f54 [] [] [] ([.slice I0 in0 ic0] ++ List.replicate (Try.f54.ntmps - ([.slice I0 in0 ic0] : List Value).length) undef) w R = weftref3_Parse.s I0 in0 ic0 w R := by kernel_rfl
theorem weftref3_Parse.run {I0 : Option Addr} {in0 : Nat} {ic0 : Nat} {w : World} {R : Ending → World → Prop} (h : weftref3_Parse.s I0 in0 ic0 w R) : Calls Try.prog 54 #[.slice I0 in0 ic0] w R :=
  calls_seg ents mixed Try.func54 rfl (by rw [weftref3_Parse.s_eq]; exact h)
end Go.Proofs.YtleelkkddjldnaaS
