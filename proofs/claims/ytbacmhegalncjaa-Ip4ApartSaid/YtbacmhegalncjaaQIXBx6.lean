-- printed by a program of this session (wip/xprint), out of the translation; Lean checks it
import Derived.Test.YtbacmhegalncjaaQIXBx0
import Derived.Test.YtbacmhegalncjaaQIXBx1
import Derived.Test.YtbacmhegalncjaaQIXBx4
import Derived.Test.YtbacmhegalncjaaQIXBx5
namespace Go.Proofs.Ytbacmhegalncjaa.XB
open Go.RowKit Go.Proofs.YtbacmhegalncjaaW.PrintWords Go.Proofs.YtbacmhegalncjaaW.PrintLast Go.Proofs.YtbacmhegalncjaaW.PrintMore Go.Proofs.YtbacmhegalncjaaX
theorem zqxb6_14 {P : Prop} (h : P := by have h_ := Kd.R_ne HO_6.out BK231.out (by decide); intro e_; exact h_ (by rw [e_]; rfl)) : P := h
theorem zqxb6_13 {P : Prop} (h : P := by have h_ := Kd.R_ne HO237.out BK231.out (by decide); intro e_; exact h_ (by rw [e_]; rfl)) : P := h
theorem zqxb6_12 {P : Prop} (h : P := by first | rfl | (simp; done) | (simp [*]; done)) : P := h
theorem zqxb6_11 {P : Prop} (h : P := by repeat (first | (with_reducible exact HR264.out) | (with_reducible refine Kd.C_alloc ?_ _) | (with_reducible refine Kd.C_drewN ?_ _) | (with_reducible refine Kd.C_drew ?_) | exact HR264.out)) : P := h
theorem zqxb6_10 {P : Prop} (h : P := by repeat (first | (with_reducible exact HR260.out) | (with_reducible refine Kd.C_alloc ?_ _) | (with_reducible refine Kd.C_drewN ?_ _) | (with_reducible refine Kd.C_drew ?_) | exact HR260.out)) : P := h
theorem zqxb6_9 {P : Prop} (h : P := by (with_reducible repeat (first | apply Kd.R_alloc | apply Kd.R_drewN | apply Kd.R_drew)); exact HO_6.out) : P := h
theorem zqxb6_8 {P : Prop} (h : P := by first | (with_reducible assumption) | assumption) : P := h
theorem zqxb6_7 {P : Prop} (h : P := by repeat (first | (with_reducible first | exact HB.out | apply below_alloc | apply pw_below_drewN | apply below_drew1) | exact HB.out)) : P := h
theorem zqxb6_6 {P : Prop} (h : P := by repeat (first | (with_reducible first | exact HB.out | apply below_alloc | apply pw_below_drewN | apply below_drew1 | refine below_set ?_ GE231.out | refine below_set ?_ GE232.out) | exact HB.out)) : P := h
theorem zqxb6_5 {P : Prop} (h : P := by have h_ := Kd.R_ne HO_6.out BK232.out (by decide); intro e_; exact h_ (by rw [e_]; rfl)) : P := h
theorem zqxb6_4 {P : Prop} (h : P := by (try simp only [List.map_toArray, List.map_cons, List.map_nil]); first | done | rfl | (simp only [List.length_drop, List.length_take]; rfl)) : P := h
theorem zqxb6_3 {P : Prop} (h : P := by repeat (first | (with_reducible first | exact HB.out | apply below_alloc | apply pw_below_drewN | apply below_drew1 | refine below_set ?_ GE231.out) | exact HB.out)) : P := h
theorem zqxb6_2 {P : Prop} (h : P := by have h_ := Kd.R_ne HO237.out BK232.out (by decide); intro e_; exact h_ (by rw [e_]; rfl)) : P := h
theorem zqxb6_1 {P : Prop} (h : P := by first | (with_reducible exact BK232.out) | (with_reducible exact zdn BK232.out _) | (with_reducible exact zdr BK232.out) | ((with_reducible repeat (first | refine zdn ?_ _ | refine zdr ?_ | refine blk_alloc ?_ _)); exact BK232.out)) : P := h
theorem zqxb6_0 {P : Prop} (h : P := by first | (with_reducible exact BK231.out) | (with_reducible exact zdn BK231.out _) | (with_reducible exact zdr BK231.out) | ((with_reducible repeat (first | refine zdn ?_ _ | refine zdr ?_ | refine blk_alloc ?_ _)); exact BK231.out)) : P := h
attribute [local go_sem] max2_int min2_int max_two min_two max_three min_three max_four min_four   -- for this text's walks alone
set_option linter.unusedVariables false
set_option linter.unusedSimpArgs false

/-! ### ip4_Build: function 22 -/
mutual
def ip4_Build.j0 : Nat → Int → List Int → Int → Int → Int → Bool → Bool → Int → Int → Int → Int → Int → List Int → List Int → Int → Int → Bool → Bool → Int → Int → Int → Int → Int → List Int → Option (List Int × Int)
 | 0, _, _, _, _, _, _, _, _, _, _, _, _, _, _, _, _, _, _, _, _, _, _, _, _ => none
 | k + 1, x5, x6, x7, x232000, x232001, x232002, x232003, x232004, x232005, x232006, x232007, x232008, x232009, x232010, x233000, x233001, x233002, x233003, x233004, x233005, x233006, x233007, x233008, x233009 => if x233003 = true then (ip4_Build.j1 k x5 x6 (Go.bits .or .u16 x7 8192) x232000 x232001 x232002 x232003 x232004 x232005 x232006 x232007 x232008 x232009 x232010 x233000 x233001 x233002 x233003 x233004 x233005 x233006 x233007 x233008 x233009) else (ip4_Build.j1 k x5 x6 x7 x232000 x232001 x232002 x232003 x232004 x232005 x232006 x232007 x232008 x232009 x232010 x233000 x233001 x233002 x233003 x233004 x233005 x233006 x233007 x233008 x233009)
def ip4_Build.j1 : Nat → Int → List Int → Int → Int → Int → Bool → Bool → Int → Int → Int → Int → Int → List Int → List Int → Int → Int → Bool → Bool → Int → Int → Int → Int → Int → List Int → Option (List Int × Int)
 | 0, _, _, _, _, _, _, _, _, _, _, _, _, _, _, _, _, _, _, _, _, _, _, _, _ => none
 | k + 1, x5, x6, x7, x232000, x232001, x232002, x232003, x232004, x232005, x232006, x232007, x232008, x232009, x232010, x233000, x233001, x233002, x233003, x233004, x233005, x233006, x233007, x233008, x233009 => (ip4_putWord.f x6 6 x7).bind fun t242 => (if 8 < (x6.length : Int) then (if 9 < (x6.length : Int) then ((ip4_putLong.f ((t242.set (8 : Int).toNat x233005).set (9 : Int).toNat x233006) 12 x233007).bind fun t245 => ((ip4_putLong.f t245 16 x233008).bind fun t246 => (if 20 ≤ (x6.length : Int) then (if 0 ≤ x5 then (if x5 ≤ (x6.length : Int) then ((some (cpy (cpy t246 20 x233009) ((x5 : Int).toNat) x232010 : List Int)).bind fun y256 => (if 10 ≤ (x6.length : Int) then (if 12 ≤ x5 then ((ip4_Sum.f k (([(y256.take 10), ((y256.take (x5 : Int).toNat).drop 12)] : List (List Int)))).bind fun t269 => ((ip4_putWord.f y256 10 t269).bind fun t270 => (some (t270, 0)))) else (none)) else (none))) else (none)) else (none)) else (none)))) else (none)) else (none))
end
def ip4_Build.f (k : Nat) (a0_0 : Int) (a0_1 : Int) (a0_2 : Bool) (a0_3 : Bool) (a0_4 : Int) (a0_5 : Int) (a0_6 : Int) (a0_7 : Int) (a0_8 : Int) (l0_9 : List Int) (l0_10 : List Int) : Option (List Int × Int) := (ip4_optionsOK.f k l0_9).bind fun t233 => (if t233 = true then ((ip4_orderly.f a0_4 (l0_10.length : Int) a0_3).bind fun t234 => (if t234 = true then (if (wrap64 ((wrap64 (20 + (l0_9.length : Int))) + (l0_10.length : Int))) > 65535 then (some (([] : List Int), 37)) else (if 0 ≤ (wrap64 ((wrap64 (20 + (l0_9.length : Int))) + (l0_10.length : Int))) then (if (wrap64 ((wrap64 (20 + (l0_9.length : Int))) + (l0_10.length : Int)) : Int).toNat ≤ 281474976710656 then ((some (List.replicate (wrap64 ((wrap64 (20 + (l0_9.length : Int))) + (l0_10.length : Int)) : Int).toNat 0 : List Int)).bind fun y235 => (if 0 < (y235.length : Int) then (if 1 < (y235.length : Int) then ((ip4_putWord.f ((y235.set (0 : Int).toNat ((Go.bits .or .i64 64 (wrap64 (Int.tdiv (wrap64 (20 + (l0_9.length : Int))) 4))) % 256)).set (1 : Int).toNat a0_0) 2 (IntKind.u16.wrap ((y235.length : Int)))).bind fun t240 => ((ip4_putWord.f t240 4 a0_1).bind fun t241 => (if a0_2 = true then (ip4_Build.j0 k (wrap64 (20 + (l0_9.length : Int))) t241 (Go.bits .or .u16 (IntKind.u16.wrap (wrap64 (Int.tdiv a0_4 8))) 16384) a0_0 a0_1 a0_2 a0_3 a0_4 a0_5 a0_6 a0_7 a0_8 l0_9 l0_10 a0_0 a0_1 a0_2 a0_3 a0_4 a0_5 a0_6 a0_7 a0_8 l0_9) else (ip4_Build.j0 k (wrap64 (20 + (l0_9.length : Int))) t241 (IntKind.u16.wrap (wrap64 (Int.tdiv a0_4 8))) a0_0 a0_1 a0_2 a0_3 a0_4 a0_5 a0_6 a0_7 a0_8 l0_9 l0_10 a0_0 a0_1 a0_2 a0_3 a0_4 a0_5 a0_6 a0_7 a0_8 l0_9)))) else (none)) else (none))) else (none)) else (none))) else (some (([] : List Int), 36)))) else (some (([] : List Int), 34)))
def ip4_Build.T10 : Bool × List (List Nat × List Nat) := (true, [([], []), ([], []), ([], []), ([2], [2]), ([3], [3]), ([4], [4]), ([], []), ([6], [6]), ([0, 0, 2, 3, 4, 5], [0]), ([8, 5, 0, 2, 3, 4, 5], [5, 8]), ([1, 0, 1, 2, 3, 4, 5, 6, 7, 8, 9], [1]), ([10, 7, 9, 0, 1, 2, 3, 4, 5, 6, 7, 8, 9], [7, 10])])
def ip4_Build.B10 : List Nat := [0, 0, 0, 4, 12, 28, 0, 64, 61, 317, 1023, 2047]
theorem ip4_Build.tab10 : rtab .any (opsOf Try.f22 10) = ip4_Build.T10 := by kernel_rfl
theorem ip4_Build.bits10 : waitsOk ip4_Build.T10.2 ip4_Build.B10 = true := by kernel_rfl
def ip4_Build.T19 : Bool × List (List Nat × List Nat) := (true, [([], []), ([], []), ([], []), ([2], [2]), ([], []), ([4], [4]), ([0, 0, 2, 3], [0]), ([6, 3, 0, 2, 3], [3, 6]), ([1, 0, 1, 2, 3, 4, 5, 6, 7], [1]), ([8, 5, 7, 0, 1, 2, 3, 4, 5, 6, 7], [5, 8])])
def ip4_Build.B19 : List Nat := [0, 0, 0, 4, 0, 16, 13, 77, 255, 511]
theorem ip4_Build.tab19 : rtab .any (opsOf Try.f22 19) = ip4_Build.T19 := by kernel_rfl
theorem ip4_Build.bits19 : waitsOk ip4_Build.T19.2 ip4_Build.B19 = true := by kernel_rfl
def ip4_Build.T24 : Bool × List (List Nat × List Nat) := (true, [([], []), ([], []), ([1], [1]), ([], []), ([], []), ([3, 4], [3, 4]), ([2, 5], [2, 5]), ([6], [6]), ([0, 7, 7], [0, 7])])
def ip4_Build.B24 : List Nat := [0, 0, 2, 0, 0, 24, 62, 126, 255]
theorem ip4_Build.tab24 : rtab .any (opsOf Try.f22 24) = ip4_Build.T24 := by kernel_rfl
theorem ip4_Build.bits24 : waitsOk ip4_Build.T24.2 ip4_Build.B24 = true := by kernel_rfl
set_option maxHeartbeats 8000000 in
set_option maxRecDepth 100000 in
theorem ip4_Build.calls (k : Nat) (a0_0 : Int) (a0_1 : Int) (a0_2 : Bool) (a0_3 : Bool) (a0_4 : Int) (a0_5 : Int) (a0_6 : Int) (a0_7 : Int) (a0_8 : Int) (A0_9 : Option Addr) (c0_9 : Nat) (l0_9 : List Int) (A0_10 : Option Addr) (c0_10 : Nat) (l0_10 : List Int) (r1 : List Int) (r2 : Int) (w : World) (hr0_9 : Kd.C (Kd.int .u8) w A0_9 l0_9.length l0_9) (hc0_9 : l0_9.length ≤ c0_9) (hr0_10 : Kd.C (Kd.int .u8) w A0_10 l0_10.length l0_10) (hc0_10 : l0_10.length ≤ c0_10) (h : ip4_Build.f k a0_0 a0_1 a0_2 a0_3 a0_4 a0_5 a0_6 a0_7 a0_8 l0_9 l0_10 = some (r1, r2)) :
  Calls Try.prog 22 #[.agg #[.int .u8 a0_0, .int .u16 a0_1, .bool a0_2, .bool a0_3, .int .i64 a0_4, .int .u8 a0_5, .int .u8 a0_6, .int .u32 a0_7, .int .u32 a0_8, .slice A0_9 l0_9.length c0_9, .slice A0_10 l0_10.length c0_10]] w fun e w' => ∃ v0_ : Value, e = .returned (.tuple #[v0_, .int .i64 r2]) ∧ Kd.R (Kd.int .u8) 5 w' w.heap.size (fun _ => True) v0_ r1 ∧ Below w.heap.size w w' := by
 have hu43 := Try.underlying43
 have hu41 := Try.underlying41
 have HR0_9 := zam hr0_9
 have HC0_9 := zam hc0_9
 clear hr0_9 hc0_9
 have HR0_10 := zam hr0_10
 have HC0_10 := zam hc0_10
 clear hr0_10 hc0_10
 have HB := zam (Below.refl w.heap.size w)
 have H : ((ip4_optionsOK.f k l0_9).bind fun t233 => (if t233 = true then ((ip4_orderly.f a0_4 (l0_10.length : Int) a0_3).bind fun t234 => (if t234 = true then (if (wrap64 ((wrap64 (20 + (l0_9.length : Int))) + (l0_10.length : Int))) > 65535 then (some (([] : List Int), 37)) else (if 0 ≤ (wrap64 ((wrap64 (20 + (l0_9.length : Int))) + (l0_10.length : Int))) then (if (wrap64 ((wrap64 (20 + (l0_9.length : Int))) + (l0_10.length : Int)) : Int).toNat ≤ 281474976710656 then ((some (List.replicate (wrap64 ((wrap64 (20 + (l0_9.length : Int))) + (l0_10.length : Int)) : Int).toNat 0 : List Int)).bind fun y235 => (if 0 < (y235.length : Int) then (if 1 < (y235.length : Int) then ((ip4_putWord.f ((y235.set (0 : Int).toNat ((Go.bits .or .i64 64 (wrap64 (Int.tdiv (wrap64 (20 + (l0_9.length : Int))) 4))) % 256)).set (1 : Int).toNat a0_0) 2 (IntKind.u16.wrap ((y235.length : Int)))).bind fun t240 => ((ip4_putWord.f t240 4 a0_1).bind fun t241 => (if a0_2 = true then (ip4_Build.j0 k (wrap64 (20 + (l0_9.length : Int))) t241 (Go.bits .or .u16 (IntKind.u16.wrap (wrap64 (Int.tdiv a0_4 8))) 16384) a0_0 a0_1 a0_2 a0_3 a0_4 a0_5 a0_6 a0_7 a0_8 l0_9 l0_10 a0_0 a0_1 a0_2 a0_3 a0_4 a0_5 a0_6 a0_7 a0_8 l0_9) else (ip4_Build.j0 k (wrap64 (20 + (l0_9.length : Int))) t241 (IntKind.u16.wrap (wrap64 (Int.tdiv a0_4 8))) a0_0 a0_1 a0_2 a0_3 a0_4 a0_5 a0_6 a0_7 a0_8 l0_9 l0_10 a0_0 a0_1 a0_2 a0_3 a0_4 a0_5 a0_6 a0_7 a0_8 l0_9)))) else (none)) else (none))) else (none)) else (none))) else (some (([] : List Int), 36)))) else (some (([] : List Int), 34)))) = some (r1, r2) := h
 clear h
 replace H := Option.bind_eq_some_iff.mp H
 obtain ⟨t233, A20, H⟩ := H
 replace H : (if t233 = true then ((ip4_orderly.f a0_4 (l0_10.length : Int) a0_3).bind fun t234 => (if t234 = true then (if (wrap64 ((wrap64 (20 + (l0_9.length : Int))) + (l0_10.length : Int))) > 65535 then (some (([] : List Int), 37)) else (if 0 ≤ (wrap64 ((wrap64 (20 + (l0_9.length : Int))) + (l0_10.length : Int))) then (if (wrap64 ((wrap64 (20 + (l0_9.length : Int))) + (l0_10.length : Int)) : Int).toNat ≤ 281474976710656 then ((some (List.replicate (wrap64 ((wrap64 (20 + (l0_9.length : Int))) + (l0_10.length : Int)) : Int).toNat 0 : List Int)).bind fun y235 => (if 0 < (y235.length : Int) then (if 1 < (y235.length : Int) then ((ip4_putWord.f ((y235.set (0 : Int).toNat ((Go.bits .or .i64 64 (wrap64 (Int.tdiv (wrap64 (20 + (l0_9.length : Int))) 4))) % 256)).set (1 : Int).toNat a0_0) 2 (IntKind.u16.wrap ((y235.length : Int)))).bind fun t240 => ((ip4_putWord.f t240 4 a0_1).bind fun t241 => (if a0_2 = true then (ip4_Build.j0 k (wrap64 (20 + (l0_9.length : Int))) t241 (Go.bits .or .u16 (IntKind.u16.wrap (wrap64 (Int.tdiv a0_4 8))) 16384) a0_0 a0_1 a0_2 a0_3 a0_4 a0_5 a0_6 a0_7 a0_8 l0_9 l0_10 a0_0 a0_1 a0_2 a0_3 a0_4 a0_5 a0_6 a0_7 a0_8 l0_9) else (ip4_Build.j0 k (wrap64 (20 + (l0_9.length : Int))) t241 (IntKind.u16.wrap (wrap64 (Int.tdiv a0_4 8))) a0_0 a0_1 a0_2 a0_3 a0_4 a0_5 a0_6 a0_7 a0_8 l0_9 l0_10 a0_0 a0_1 a0_2 a0_3 a0_4 a0_5 a0_6 a0_7 a0_8 l0_9)))) else (none)) else (none))) else (none)) else (none))) else (some (([] : List Int), 36)))) else (some (([] : List Int), 34))) = some (r1, r2) := H
 have A2 := zam A20
 clear A20
 by_cases c3 : t233 = true
 ·
  subst c3
  have H1 : ((ip4_orderly.f a0_4 (l0_10.length : Int) a0_3).bind fun t234 => (if t234 = true then (if (wrap64 ((wrap64 (20 + (l0_9.length : Int))) + (l0_10.length : Int))) > 65535 then (some (([] : List Int), 37)) else (if 0 ≤ (wrap64 ((wrap64 (20 + (l0_9.length : Int))) + (l0_10.length : Int))) then (if (wrap64 ((wrap64 (20 + (l0_9.length : Int))) + (l0_10.length : Int)) : Int).toNat ≤ 281474976710656 then ((some (List.replicate (wrap64 ((wrap64 (20 + (l0_9.length : Int))) + (l0_10.length : Int)) : Int).toNat 0 : List Int)).bind fun y235 => (if 0 < (y235.length : Int) then (if 1 < (y235.length : Int) then ((ip4_putWord.f ((y235.set (0 : Int).toNat ((Go.bits .or .i64 64 (wrap64 (Int.tdiv (wrap64 (20 + (l0_9.length : Int))) 4))) % 256)).set (1 : Int).toNat a0_0) 2 (IntKind.u16.wrap ((y235.length : Int)))).bind fun t240 => ((ip4_putWord.f t240 4 a0_1).bind fun t241 => (if a0_2 = true then (ip4_Build.j0 k (wrap64 (20 + (l0_9.length : Int))) t241 (Go.bits .or .u16 (IntKind.u16.wrap (wrap64 (Int.tdiv a0_4 8))) 16384) a0_0 a0_1 a0_2 a0_3 a0_4 a0_5 a0_6 a0_7 a0_8 l0_9 l0_10 a0_0 a0_1 a0_2 a0_3 a0_4 a0_5 a0_6 a0_7 a0_8 l0_9) else (ip4_Build.j0 k (wrap64 (20 + (l0_9.length : Int))) t241 (IntKind.u16.wrap (wrap64 (Int.tdiv a0_4 8))) a0_0 a0_1 a0_2 a0_3 a0_4 a0_5 a0_6 a0_7 a0_8 l0_9 l0_10 a0_0 a0_1 a0_2 a0_3 a0_4 a0_5 a0_6 a0_7 a0_8 l0_9)))) else (none)) else (none))) else (none)) else (none))) else (some (([] : List Int), 36)))) = some (r1, r2) := by rw [if_pos rfl] at H; exact H
  clear H
  have H := H1
  clear H1
  replace H := Option.bind_eq_some_iff.mp H
  obtain ⟨t234, A40, H⟩ := H
  replace H : (if t234 = true then (if (wrap64 ((wrap64 (20 + (l0_9.length : Int))) + (l0_10.length : Int))) > 65535 then (some (([] : List Int), 37)) else (if 0 ≤ (wrap64 ((wrap64 (20 + (l0_9.length : Int))) + (l0_10.length : Int))) then (if (wrap64 ((wrap64 (20 + (l0_9.length : Int))) + (l0_10.length : Int)) : Int).toNat ≤ 281474976710656 then ((some (List.replicate (wrap64 ((wrap64 (20 + (l0_9.length : Int))) + (l0_10.length : Int)) : Int).toNat 0 : List Int)).bind fun y235 => (if 0 < (y235.length : Int) then (if 1 < (y235.length : Int) then ((ip4_putWord.f ((y235.set (0 : Int).toNat ((Go.bits .or .i64 64 (wrap64 (Int.tdiv (wrap64 (20 + (l0_9.length : Int))) 4))) % 256)).set (1 : Int).toNat a0_0) 2 (IntKind.u16.wrap ((y235.length : Int)))).bind fun t240 => ((ip4_putWord.f t240 4 a0_1).bind fun t241 => (if a0_2 = true then (ip4_Build.j0 k (wrap64 (20 + (l0_9.length : Int))) t241 (Go.bits .or .u16 (IntKind.u16.wrap (wrap64 (Int.tdiv a0_4 8))) 16384) a0_0 a0_1 a0_2 a0_3 a0_4 a0_5 a0_6 a0_7 a0_8 l0_9 l0_10 a0_0 a0_1 a0_2 a0_3 a0_4 a0_5 a0_6 a0_7 a0_8 l0_9) else (ip4_Build.j0 k (wrap64 (20 + (l0_9.length : Int))) t241 (IntKind.u16.wrap (wrap64 (Int.tdiv a0_4 8))) a0_0 a0_1 a0_2 a0_3 a0_4 a0_5 a0_6 a0_7 a0_8 l0_9 l0_10 a0_0 a0_1 a0_2 a0_3 a0_4 a0_5 a0_6 a0_7 a0_8 l0_9)))) else (none)) else (none))) else (none)) else (none))) else (some (([] : List Int), 36))) = some (r1, r2) := H
  have A4 := zam A40
  clear A40
  by_cases c5 : t234 = true
  ·
   subst c5
   have H1 : (if (wrap64 ((wrap64 (20 + (l0_9.length : Int))) + (l0_10.length : Int))) > 65535 then (some (([] : List Int), 37)) else (if 0 ≤ (wrap64 ((wrap64 (20 + (l0_9.length : Int))) + (l0_10.length : Int))) then (if (wrap64 ((wrap64 (20 + (l0_9.length : Int))) + (l0_10.length : Int)) : Int).toNat ≤ 281474976710656 then ((some (List.replicate (wrap64 ((wrap64 (20 + (l0_9.length : Int))) + (l0_10.length : Int)) : Int).toNat 0 : List Int)).bind fun y235 => (if 0 < (y235.length : Int) then (if 1 < (y235.length : Int) then ((ip4_putWord.f ((y235.set (0 : Int).toNat ((Go.bits .or .i64 64 (wrap64 (Int.tdiv (wrap64 (20 + (l0_9.length : Int))) 4))) % 256)).set (1 : Int).toNat a0_0) 2 (IntKind.u16.wrap ((y235.length : Int)))).bind fun t240 => ((ip4_putWord.f t240 4 a0_1).bind fun t241 => (if a0_2 = true then (ip4_Build.j0 k (wrap64 (20 + (l0_9.length : Int))) t241 (Go.bits .or .u16 (IntKind.u16.wrap (wrap64 (Int.tdiv a0_4 8))) 16384) a0_0 a0_1 a0_2 a0_3 a0_4 a0_5 a0_6 a0_7 a0_8 l0_9 l0_10 a0_0 a0_1 a0_2 a0_3 a0_4 a0_5 a0_6 a0_7 a0_8 l0_9) else (ip4_Build.j0 k (wrap64 (20 + (l0_9.length : Int))) t241 (IntKind.u16.wrap (wrap64 (Int.tdiv a0_4 8))) a0_0 a0_1 a0_2 a0_3 a0_4 a0_5 a0_6 a0_7 a0_8 l0_9 l0_10 a0_0 a0_1 a0_2 a0_3 a0_4 a0_5 a0_6 a0_7 a0_8 l0_9)))) else (none)) else (none))) else (none)) else (none))) = some (r1, r2) := by rw [if_pos rfl] at H; exact H
   clear H
   have H := H1
   clear H1
   by_cases c6 : (wrap64 ((wrap64 (20 + (l0_9.length : Int))) + (l0_10.length : Int))) > 65535
   ·
    rw [if_pos c6] at H
    have c6b0 : decide (65535 < (wrap64 ((wrap64 (20 + (l0_9.length : Int))) + (l0_10.length : Int)))) = true := decide_eq_true c6
    clear c6
    simp only [Option.some.injEq, Prod.mk.injEq] at H
    obtain ⟨rfl, rfl⟩ := H
    go_enter Try.func22, Try.ntmps22
    go_wp2_with (first | ((with_reducible refine gate_dst (N := 1) rfl ?_); refine box_event ?hg (N := 1) ?hd (cs := #[.int .u8 a0_0, .int .u16 a0_1, .bool a0_2, .bool a0_3, .int .i64 a0_4, .int .u8 a0_5, .int .u8 a0_6, .int .u32 a0_7, .int .u32 a0_8, .slice A0_9 l0_9.length c0_9, .slice A0_10 l0_10.length c0_10]) (t := 43) ?hr ?_; (case hd => rfl); (case hg => rfl); (case hr => first | (go_simp; done) | (go_simp; rfl)); intro gb231 hg w7 hbox hb; have n0_ := zam (below_step zqxb6_7 hb); have n1_ := zam (hbox); have n2_ := zam ((by rw [hg]; exact (below_size zqxb6_7) : w.heap.size ≤ gb231)); have n3_ := zam ((by rw [hg]; exact (below_size zqxb6_7) : w.heap.size ≤ gb231)); clear HB; have HB := n0_; have BK231 := n1_; have GW231 := n2_; have GE231 := n3_; clear n0_ n1_ n2_ n3_; clear hb hbox hg; have hcz8_0 : w7.cell? ⟨gb231, 0, none⟩ = some (.int .u8 a0_0) := (zbc BK231.out 0).trans rfl; have hcz8_1 : w7.cell? ⟨gb231, 1, none⟩ = some (.int .u16 a0_1) := (zbc BK231.out 1).trans rfl; have hcz8_2 : w7.cell? ⟨gb231, 2, none⟩ = some (.bool a0_2) := (zbc BK231.out 2).trans rfl; have hcz8_3 : w7.cell? ⟨gb231, 3, none⟩ = some (.bool a0_3) := (zbc BK231.out 3).trans rfl; have hcz8_4 : w7.cell? ⟨gb231, 4, none⟩ = some (.int .i64 a0_4) := (zbc BK231.out 4).trans rfl; have hcz8_5 : w7.cell? ⟨gb231, 5, none⟩ = some (.int .u8 a0_5) := (zbc BK231.out 5).trans rfl; have hcz8_6 : w7.cell? ⟨gb231, 6, none⟩ = some (.int .u8 a0_6) := (zbc BK231.out 6).trans rfl; have hcz8_7 : w7.cell? ⟨gb231, 7, none⟩ = some (.int .u32 a0_7) := (zbc BK231.out 7).trans rfl; have hcz8_8 : w7.cell? ⟨gb231, 8, none⟩ = some (.int .u32 a0_8) := (zbc BK231.out 8).trans rfl; have hcz8_9 : w7.cell? ⟨gb231, 9, none⟩ = some (.slice A0_9 l0_9.length c0_9) := (zbc BK231.out 9).trans rfl; have hcz8_10 : w7.cell? ⟨gb231, 10, none⟩ = some (.slice A0_10 l0_10.length c0_10) := (zbc BK231.out 10).trans rfl; have hfz8_0 := zbf BK231.out 0; have hfz8_1 := zbf BK231.out 1; have hfz8_2 := zbf BK231.out 2; have hfz8_3 := zbf BK231.out 3; have hfz8_4 := zbf BK231.out 4; have hfz8_5 := zbf BK231.out 5; have hfz8_6 := zbf BK231.out 6; have hfz8_7 := zbf BK231.out 7; have hfz8_8 := zbf BK231.out 8; have hfz8_9 := zbf BK231.out 9; have hfz8_10 := zbf BK231.out 10) | ((with_reducible refine gate_dst (N := 4) rfl ?_); refine box_event ?hg (N := 4) ?hd (cs := #[.int .u8 0, .int .u16 0, .bool false, .bool false, .int .i64 0, .int .u8 0, .int .u8 0, .int .u32 0, .int .u32 0, .slice none 0 0]) (t := 41) ?hr ?_; (case hd => rfl); (case hg => rfl); (case hr => first | (go_simp; done) | (go_simp; rfl)); intro gb232 hg w9 hbox hb; have n0_ := zam (blk_below (g := gb231) (o := .cells #[.int .u8 a0_0, .int .u16 a0_1, .bool a0_2, .bool a0_3, .int .i64 a0_4, .int .u8 a0_5, .int .u8 a0_6, .int .u32 a0_7, .int .u32 a0_8, .slice A0_9 l0_9.length c0_9, .slice A0_10 l0_10.length c0_10] 43 (0, 0)) zqxb6_0 hb); have n1_ := zam (below_step zqxb6_3 hb); have n2_ := zam (hbox); have n3_ := zam ((by rw [hg]; exact (below_size zqxb6_3) : w.heap.size ≤ gb232)); have n4_ := zam ((by rw [hg]; exact (below_size zqxb6_3) : w.heap.size ≤ gb232)); have n5_ := zam ((by rw [hg]; exact Nat.ne_of_lt (blk_lt (g := gb231) (o := .cells #[.int .u8 a0_0, .int .u16 a0_1, .bool a0_2, .bool a0_3, .int .i64 a0_4, .int .u8 a0_5, .int .u8 a0_6, .int .u32 a0_7, .int .u32 a0_8, .slice A0_9 l0_9.length c0_9, .slice A0_10 l0_10.length c0_10] 43 (0, 0)) zqxb6_0) : gb231 ≠ gb232)); have n6_ := zam ((by rw [hg]; exact Nat.ne_of_gt (blk_lt (g := gb231) (o := .cells #[.int .u8 a0_0, .int .u16 a0_1, .bool a0_2, .bool a0_3, .int .i64 a0_4, .int .u8 a0_5, .int .u8 a0_6, .int .u32 a0_7, .int .u32 a0_8, .slice A0_9 l0_9.length c0_9, .slice A0_10 l0_10.length c0_10] 43 (0, 0)) zqxb6_0) : gb232 ≠ gb231)); clear BK231; clear HB; have BK231 := n0_; have HB := n1_; have BK232 := n2_; have GW232 := n3_; have GE232 := n4_; have NB231_232 := n5_; have NB232_231 := n6_; clear n0_ n1_ n2_ n3_ n4_ n5_ n6_; clear hb hbox hg; have hnb10 := NB232_231.out; have hnc10 := NB231_232.out; have hcz11_0 : w9.cell? ⟨gb232, 0, none⟩ = some (.int .u8 0) := (zbc BK232.out 0).trans rfl; have hcz11_1 : w9.cell? ⟨gb232, 1, none⟩ = some (.int .u16 0) := (zbc BK232.out 1).trans rfl; have hcz11_2 : w9.cell? ⟨gb232, 2, none⟩ = some (.bool false) := (zbc BK232.out 2).trans rfl; have hcz11_3 : w9.cell? ⟨gb232, 3, none⟩ = some (.bool false) := (zbc BK232.out 3).trans rfl; have hcz11_4 : w9.cell? ⟨gb232, 4, none⟩ = some (.int .i64 0) := (zbc BK232.out 4).trans rfl; have hcz11_5 : w9.cell? ⟨gb232, 5, none⟩ = some (.int .u8 0) := (zbc BK232.out 5).trans rfl; have hcz11_6 : w9.cell? ⟨gb232, 6, none⟩ = some (.int .u8 0) := (zbc BK232.out 6).trans rfl; have hcz11_7 : w9.cell? ⟨gb232, 7, none⟩ = some (.int .u32 0) := (zbc BK232.out 7).trans rfl; have hcz11_8 : w9.cell? ⟨gb232, 8, none⟩ = some (.int .u32 0) := (zbc BK232.out 8).trans rfl; have hcz11_9 : w9.cell? ⟨gb232, 9, none⟩ = some (.slice none 0 0) := (zbc BK232.out 9).trans rfl; have hfz11_0 := zbf BK232.out 0; have hfz11_1 := zbf BK232.out 1; have hfz11_2 := zbf BK232.out 2; have hfz11_3 := zbf BK232.out 3; have hfz11_4 := zbf BK232.out 4; have hfz11_5 := zbf BK232.out 5; have hfz11_6 := zbf BK232.out 6; have hfz11_7 := zbf BK232.out 7; have hfz11_8 := zbf BK232.out 8; have hfz11_9 := zbf BK232.out 9) | ((with_reducible refine gate_callee (f := 46) rfl ?_); refine goesL_ (some 13) rfl rfl Try.func46 (by kernel_rfl) rfl #[.slice A0_9 l0_9.length c0_9] rfl zqxb6_4 ?_; (with_reducible refine (ip4_optionsOK.calls k _ _ l0_9 true _ ?side1 ?side2 A2.out).mono ?_); (case side1 => exact Kd.C_below HR0_9.out zqxb6_6); (case side2 => exact HC0_9.out); rintro e w' ⟨rfl, ⟨nd, rfl⟩⟩; refine ⟨_, rfl, ?_⟩; have hcz12_0 : w9.cell? ⟨gb231, 0, none⟩ = some (.int .u8 a0_0) := (zbc BK231.out 0).trans rfl; have hcz12_1 : w9.cell? ⟨gb231, 1, none⟩ = some (.int .u16 a0_1) := (zbc BK231.out 1).trans rfl; have hcz12_2 : w9.cell? ⟨gb231, 2, none⟩ = some (.bool a0_2) := (zbc BK231.out 2).trans rfl; have hcz12_3 : w9.cell? ⟨gb231, 3, none⟩ = some (.bool a0_3) := (zbc BK231.out 3).trans rfl; have hcz12_4 : w9.cell? ⟨gb231, 4, none⟩ = some (.int .i64 a0_4) := (zbc BK231.out 4).trans rfl; have hcz12_5 : w9.cell? ⟨gb231, 5, none⟩ = some (.int .u8 a0_5) := (zbc BK231.out 5).trans rfl; have hcz12_6 : w9.cell? ⟨gb231, 6, none⟩ = some (.int .u8 a0_6) := (zbc BK231.out 6).trans rfl; have hcz12_7 : w9.cell? ⟨gb231, 7, none⟩ = some (.int .u32 a0_7) := (zbc BK231.out 7).trans rfl; have hcz12_8 : w9.cell? ⟨gb231, 8, none⟩ = some (.int .u32 a0_8) := (zbc BK231.out 8).trans rfl; have hcz12_9 : w9.cell? ⟨gb231, 9, none⟩ = some (.slice A0_9 l0_9.length c0_9) := (zbc BK231.out 9).trans rfl; have hcz12_10 : w9.cell? ⟨gb231, 10, none⟩ = some (.slice A0_10 l0_10.length c0_10) := (zbc BK231.out 10).trans rfl; have hfz12_0 := zbf BK231.out 0; have hfz12_1 := zbf BK231.out 1; have hfz12_2 := zbf BK231.out 2; have hfz12_3 := zbf BK231.out 3; have hfz12_4 := zbf BK231.out 4; have hfz12_5 := zbf BK231.out 5; have hfz12_6 := zbf BK231.out 6; have hfz12_7 := zbf BK231.out 7; have hfz12_8 := zbf BK231.out 8; have hfz12_9 := zbf BK231.out 9; have hfz12_10 := zbf BK231.out 10) | ((with_reducible refine gate_callee (f := 47) rfl ?_); refine goesL_ (some 23) rfl rfl Try.func47 (by kernel_rfl) rfl #[.int .i64 a0_4, .int .i64 (l0_10.length : Int), .bool a0_3] rfl zqxb6_4 ?_; (with_reducible refine (ip4_orderly.calls a0_4 (l0_10.length : Int) a0_3 true _ A4.out).mono ?_); rintro e w' ⟨rfl, ⟨nd, rfl⟩⟩; refine ⟨_, rfl, ?_⟩))
    go_ret2
    exact ⟨_, by first | rfl | (simp [errW_none, errW_some] <;> rfl) | (simp [*, errW_none, errW_some] <;> rfl), by first | exact Kd.R_nil _ _ _ _ _ | exact Kd.N_nil _ _ _ _ _ | exact Kd.V_nil _ _ _ _ _ | exact Kd.Q_nil _ _ _ _ _ | exact Kd.S_nil _ _ _ _ _, by repeat (first | (with_reducible first | exact HB.out | apply below_alloc | apply pw_below_drewN | apply below_drew1 | refine below_set ?_ GE231.out | refine below_set ?_ GE232.out) | exact HB.out)⟩
   ·
    rw [if_neg c6] at H
    have c6b0 : decide (65535 < (wrap64 ((wrap64 (20 + (l0_9.length : Int))) + (l0_10.length : Int)))) = false := decide_eq_false c6
    clear c6
    obtain ⟨ji13, hji13⟩ : ∃ j_ : Int, (wrap64 ((wrap64 (20 + (l0_9.length : Int))) + (l0_10.length : Int))) = j_ := ⟨_, rfl⟩
    replace H : (if 0 ≤ (ji13) then (if (ji13 : Int).toNat ≤ 281474976710656 then ((some (List.replicate (ji13 : Int).toNat 0 : List Int)).bind fun y235 => (if 0 < (y235.length : Int) then (if 1 < (y235.length : Int) then ((ip4_putWord.f ((y235.set (0 : Int).toNat ((Go.bits .or .i64 64 (wrap64 (Int.tdiv (wrap64 (20 + (l0_9.length : Int))) 4))) % 256)).set (1 : Int).toNat a0_0) 2 (IntKind.u16.wrap ((y235.length : Int)))).bind fun t240 => ((ip4_putWord.f t240 4 a0_1).bind fun t241 => (if a0_2 = true then (ip4_Build.j0 k (wrap64 (20 + (l0_9.length : Int))) t241 (Go.bits .or .u16 (IntKind.u16.wrap (wrap64 (Int.tdiv a0_4 8))) 16384) a0_0 a0_1 a0_2 a0_3 a0_4 a0_5 a0_6 a0_7 a0_8 l0_9 l0_10 a0_0 a0_1 a0_2 a0_3 a0_4 a0_5 a0_6 a0_7 a0_8 l0_9) else (ip4_Build.j0 k (wrap64 (20 + (l0_9.length : Int))) t241 (IntKind.u16.wrap (wrap64 (Int.tdiv a0_4 8))) a0_0 a0_1 a0_2 a0_3 a0_4 a0_5 a0_6 a0_7 a0_8 l0_9 l0_10 a0_0 a0_1 a0_2 a0_3 a0_4 a0_5 a0_6 a0_7 a0_8 l0_9)))) else (none)) else (none))) else (none)) else (none)) = some (r1, r2) := by first | (rw [hji13] at H; exact H) | (simp only [hji13] at H ⊢; exact H)
    (try rw [hji13] at c6b0)
    (try rw [hji13] at A2)
    (try rw [hji13] at A4)
    have hji13w : (IntKind.i64.wrap ((wrap64 (20 + (l0_9.length : Int))) + (l0_10.length : Int))) = ji13 := (i64_w _).trans hji13
    by_cases c14 : 0 ≤ (ji13)
    ·
     rw [if_pos c14] at H
     have c14b0 := eq_true c14
     have c14b1 : decide (0 ≤ (ji13)) = true := decide_eq_true c14
     clear c14
     by_cases c15 : (ji13 : Int).toNat ≤ 281474976710656
     ·
      rw [if_pos c15] at H
      have c15b0 := eq_true c15
      have c15b1 : decide ((ji13 : Int).toNat ≤ 281474976710656) = true := decide_eq_true c15
      clear c15
      obtain ⟨y235, hy235⟩ : ∃ y_ : List Int, y_ = (List.replicate (ji13 : Int).toNat 0) := ⟨_, rfl⟩
      replace H : (if 0 < (y235.length : Int) then (if 1 < (y235.length : Int) then ((ip4_putWord.f ((y235.set (0 : Int).toNat ((Go.bits .or .i64 64 (wrap64 (Int.tdiv (wrap64 (20 + (l0_9.length : Int))) 4))) % 256)).set (1 : Int).toNat a0_0) 2 (IntKind.u16.wrap ((y235.length : Int)))).bind fun t240 => ((ip4_putWord.f t240 4 a0_1).bind fun t241 => (if a0_2 = true then (ip4_Build.j0 k (wrap64 (20 + (l0_9.length : Int))) t241 (Go.bits .or .u16 (IntKind.u16.wrap (wrap64 (Int.tdiv a0_4 8))) 16384) a0_0 a0_1 a0_2 a0_3 a0_4 a0_5 a0_6 a0_7 a0_8 l0_9 l0_10 a0_0 a0_1 a0_2 a0_3 a0_4 a0_5 a0_6 a0_7 a0_8 l0_9) else (ip4_Build.j0 k (wrap64 (20 + (l0_9.length : Int))) t241 (IntKind.u16.wrap (wrap64 (Int.tdiv a0_4 8))) a0_0 a0_1 a0_2 a0_3 a0_4 a0_5 a0_6 a0_7 a0_8 l0_9 l0_10 a0_0 a0_1 a0_2 a0_3 a0_4 a0_5 a0_6 a0_7 a0_8 l0_9)))) else (none)) else (none)) = some (r1, r2) := by first | (rw [hy235]; with_reducible exact H) | (have H2_ := (Option.bind_some _ _).symm.trans H; rw [hy235]; with_reducible exact H2_) | (have H2_ := (Option.bind_some _ _).symm.trans H; with_reducible exact H2_) | with_reducible exact H | (rw [hy235]; exact H) | exact H
      have Ny235 := zam hy235
      clear hy235
      by_cases c16 : 0 < (y235.length : Int)
      ·
       rw [if_pos c16] at H
       have c16b0 : decide (0 < (y235.length : Int)) = true := decide_eq_true c16
       have c16b1 : decide (0 < y235.length) = true := decide_eq_true (by omega)
       clear c16
       obtain ⟨y238, hy238⟩ : ∃ y_ : List Int, y_ = (y235.set (0 : Int).toNat ((Go.bits .or .i64 64 (wrap64 (Int.tdiv (wrap64 (20 + (l0_9.length : Int))) 4))) % 256)) := ⟨_, rfl⟩
       replace H : (if 1 < (y235.length : Int) then ((ip4_putWord.f (y238.set (1 : Int).toNat a0_0) 2 (IntKind.u16.wrap ((y235.length : Int)))).bind fun t240 => ((ip4_putWord.f t240 4 a0_1).bind fun t241 => (if a0_2 = true then (ip4_Build.j0 k (wrap64 (20 + (l0_9.length : Int))) t241 (Go.bits .or .u16 (IntKind.u16.wrap (wrap64 (Int.tdiv a0_4 8))) 16384) a0_0 a0_1 a0_2 a0_3 a0_4 a0_5 a0_6 a0_7 a0_8 l0_9 l0_10 a0_0 a0_1 a0_2 a0_3 a0_4 a0_5 a0_6 a0_7 a0_8 l0_9) else (ip4_Build.j0 k (wrap64 (20 + (l0_9.length : Int))) t241 (IntKind.u16.wrap (wrap64 (Int.tdiv a0_4 8))) a0_0 a0_1 a0_2 a0_3 a0_4 a0_5 a0_6 a0_7 a0_8 l0_9 l0_10 a0_0 a0_1 a0_2 a0_3 a0_4 a0_5 a0_6 a0_7 a0_8 l0_9)))) else (none)) = some (r1, r2) := by first | (rw [hy238]; with_reducible exact H) | (have H2_ := (Option.bind_some _ _).symm.trans H; rw [hy238]; with_reducible exact H2_) | (have H2_ := (Option.bind_some _ _).symm.trans H; with_reducible exact H2_) | with_reducible exact H | (rw [hy238]; exact H) | exact H
       have Ny238 := zam hy238
       clear hy238
       by_cases c18 : 1 < (y235.length : Int)
       ·
        rw [if_pos c18] at H
        have c18b0 : decide (1 < (y235.length : Int)) = true := decide_eq_true c18
        have c18b1 : decide (1 < y235.length) = true := decide_eq_true (by omega)
        clear c18
        obtain ⟨y239, hy239⟩ : ∃ y_ : List Int, y_ = (y238.set (1 : Int).toNat a0_0) := ⟨_, rfl⟩
        replace H : ((ip4_putWord.f y239 2 (IntKind.u16.wrap ((y235.length : Int)))).bind fun t240 => ((ip4_putWord.f t240 4 a0_1).bind fun t241 => (if a0_2 = true then (ip4_Build.j0 k (wrap64 (20 + (l0_9.length : Int))) t241 (Go.bits .or .u16 (IntKind.u16.wrap (wrap64 (Int.tdiv a0_4 8))) 16384) a0_0 a0_1 a0_2 a0_3 a0_4 a0_5 a0_6 a0_7 a0_8 l0_9 l0_10 a0_0 a0_1 a0_2 a0_3 a0_4 a0_5 a0_6 a0_7 a0_8 l0_9) else (ip4_Build.j0 k (wrap64 (20 + (l0_9.length : Int))) t241 (IntKind.u16.wrap (wrap64 (Int.tdiv a0_4 8))) a0_0 a0_1 a0_2 a0_3 a0_4 a0_5 a0_6 a0_7 a0_8 l0_9 l0_10 a0_0 a0_1 a0_2 a0_3 a0_4 a0_5 a0_6 a0_7 a0_8 l0_9)))) = some (r1, r2) := by first | (rw [hy239]; with_reducible exact H) | (have H2_ := (Option.bind_some _ _).symm.trans H; rw [hy239]; with_reducible exact H2_) | (have H2_ := (Option.bind_some _ _).symm.trans H; with_reducible exact H2_) | with_reducible exact H | (rw [hy239]; exact H) | exact H
        have Ny239 := zam hy239
        clear hy239
        replace H := Option.bind_eq_some_iff.mp H
        obtain ⟨t240, A200, H⟩ := H
        replace H : ((ip4_putWord.f t240 4 a0_1).bind fun t241 => (if a0_2 = true then (ip4_Build.j0 k (wrap64 (20 + (l0_9.length : Int))) t241 (Go.bits .or .u16 (IntKind.u16.wrap (wrap64 (Int.tdiv a0_4 8))) 16384) a0_0 a0_1 a0_2 a0_3 a0_4 a0_5 a0_6 a0_7 a0_8 l0_9 l0_10 a0_0 a0_1 a0_2 a0_3 a0_4 a0_5 a0_6 a0_7 a0_8 l0_9) else (ip4_Build.j0 k (wrap64 (20 + (l0_9.length : Int))) t241 (IntKind.u16.wrap (wrap64 (Int.tdiv a0_4 8))) a0_0 a0_1 a0_2 a0_3 a0_4 a0_5 a0_6 a0_7 a0_8 l0_9 l0_10 a0_0 a0_1 a0_2 a0_3 a0_4 a0_5 a0_6 a0_7 a0_8 l0_9))) = some (r1, r2) := H
        have A20 := zam A200
        clear A200
        replace H := Option.bind_eq_some_iff.mp H
        obtain ⟨t241, A210, H⟩ := H
        replace H : (if a0_2 = true then (ip4_Build.j0 k (wrap64 (20 + (l0_9.length : Int))) t241 (Go.bits .or .u16 (IntKind.u16.wrap (wrap64 (Int.tdiv a0_4 8))) 16384) a0_0 a0_1 a0_2 a0_3 a0_4 a0_5 a0_6 a0_7 a0_8 l0_9 l0_10 a0_0 a0_1 a0_2 a0_3 a0_4 a0_5 a0_6 a0_7 a0_8 l0_9) else (ip4_Build.j0 k (wrap64 (20 + (l0_9.length : Int))) t241 (IntKind.u16.wrap (wrap64 (Int.tdiv a0_4 8))) a0_0 a0_1 a0_2 a0_3 a0_4 a0_5 a0_6 a0_7 a0_8 l0_9 l0_10 a0_0 a0_1 a0_2 a0_3 a0_4 a0_5 a0_6 a0_7 a0_8 l0_9)) = some (r1, r2) := H
        have A21 := zam A210
        clear A210
        have HC22 := zam H
        clear H
        go_enter Try.func22, Try.ntmps22
        try go_wp2_with (first | ((with_reducible refine gate_dst (N := 1) rfl ?_); refine box_event ?hg (N := 1) ?hd (cs := #[.int .u8 a0_0, .int .u16 a0_1, .bool a0_2, .bool a0_3, .int .i64 a0_4, .int .u8 a0_5, .int .u8 a0_6, .int .u32 a0_7, .int .u32 a0_8, .slice A0_9 l0_9.length c0_9, .slice A0_10 l0_10.length c0_10]) (t := 43) ?hr ?_; (case hd => rfl); (case hg => rfl); (case hr => first | (go_simp; done) | (go_simp; rfl)); intro gb231 hg w23 hbox hb; have n0_ := zam (below_step zqxb6_7 hb); have n1_ := zam (hbox); have n2_ := zam ((by rw [hg]; exact (below_size zqxb6_7) : w.heap.size ≤ gb231)); have n3_ := zam ((by rw [hg]; exact (below_size zqxb6_7) : w.heap.size ≤ gb231)); clear HB; have HB := n0_; have BK231 := n1_; have GW231 := n2_; have GE231 := n3_; clear n0_ n1_ n2_ n3_; clear hb hbox hg; have hcz24_0 : w23.cell? ⟨gb231, 0, none⟩ = some (.int .u8 a0_0) := (zbc BK231.out 0).trans rfl; have hcz24_1 : w23.cell? ⟨gb231, 1, none⟩ = some (.int .u16 a0_1) := (zbc BK231.out 1).trans rfl; have hcz24_2 : w23.cell? ⟨gb231, 2, none⟩ = some (.bool a0_2) := (zbc BK231.out 2).trans rfl; have hcz24_3 : w23.cell? ⟨gb231, 3, none⟩ = some (.bool a0_3) := (zbc BK231.out 3).trans rfl; have hcz24_4 : w23.cell? ⟨gb231, 4, none⟩ = some (.int .i64 a0_4) := (zbc BK231.out 4).trans rfl; have hcz24_5 : w23.cell? ⟨gb231, 5, none⟩ = some (.int .u8 a0_5) := (zbc BK231.out 5).trans rfl; have hcz24_6 : w23.cell? ⟨gb231, 6, none⟩ = some (.int .u8 a0_6) := (zbc BK231.out 6).trans rfl; have hcz24_7 : w23.cell? ⟨gb231, 7, none⟩ = some (.int .u32 a0_7) := (zbc BK231.out 7).trans rfl; have hcz24_8 : w23.cell? ⟨gb231, 8, none⟩ = some (.int .u32 a0_8) := (zbc BK231.out 8).trans rfl; have hcz24_9 : w23.cell? ⟨gb231, 9, none⟩ = some (.slice A0_9 l0_9.length c0_9) := (zbc BK231.out 9).trans rfl; have hcz24_10 : w23.cell? ⟨gb231, 10, none⟩ = some (.slice A0_10 l0_10.length c0_10) := (zbc BK231.out 10).trans rfl; have hfz24_0 := zbf BK231.out 0; have hfz24_1 := zbf BK231.out 1; have hfz24_2 := zbf BK231.out 2; have hfz24_3 := zbf BK231.out 3; have hfz24_4 := zbf BK231.out 4; have hfz24_5 := zbf BK231.out 5; have hfz24_6 := zbf BK231.out 6; have hfz24_7 := zbf BK231.out 7; have hfz24_8 := zbf BK231.out 8; have hfz24_9 := zbf BK231.out 9; have hfz24_10 := zbf BK231.out 10) | ((with_reducible refine gate_dst (N := 4) rfl ?_); refine box_event ?hg (N := 4) ?hd (cs := #[.int .u8 0, .int .u16 0, .bool false, .bool false, .int .i64 0, .int .u8 0, .int .u8 0, .int .u32 0, .int .u32 0, .slice none 0 0]) (t := 41) ?hr ?_; (case hd => rfl); (case hg => rfl); (case hr => first | (go_simp; done) | (go_simp; rfl)); intro gb232 hg w25 hbox hb; have n0_ := zam (blk_below (g := gb231) (o := .cells #[.int .u8 a0_0, .int .u16 a0_1, .bool a0_2, .bool a0_3, .int .i64 a0_4, .int .u8 a0_5, .int .u8 a0_6, .int .u32 a0_7, .int .u32 a0_8, .slice A0_9 l0_9.length c0_9, .slice A0_10 l0_10.length c0_10] 43 (0, 0)) zqxb6_0 hb); have n1_ := zam (below_step zqxb6_3 hb); have n2_ := zam (hbox); have n3_ := zam ((by rw [hg]; exact (below_size zqxb6_3) : w.heap.size ≤ gb232)); have n4_ := zam ((by rw [hg]; exact (below_size zqxb6_3) : w.heap.size ≤ gb232)); have n5_ := zam ((by rw [hg]; exact Nat.ne_of_lt (blk_lt (g := gb231) (o := .cells #[.int .u8 a0_0, .int .u16 a0_1, .bool a0_2, .bool a0_3, .int .i64 a0_4, .int .u8 a0_5, .int .u8 a0_6, .int .u32 a0_7, .int .u32 a0_8, .slice A0_9 l0_9.length c0_9, .slice A0_10 l0_10.length c0_10] 43 (0, 0)) zqxb6_0) : gb231 ≠ gb232)); have n6_ := zam ((by rw [hg]; exact Nat.ne_of_gt (blk_lt (g := gb231) (o := .cells #[.int .u8 a0_0, .int .u16 a0_1, .bool a0_2, .bool a0_3, .int .i64 a0_4, .int .u8 a0_5, .int .u8 a0_6, .int .u32 a0_7, .int .u32 a0_8, .slice A0_9 l0_9.length c0_9, .slice A0_10 l0_10.length c0_10] 43 (0, 0)) zqxb6_0) : gb232 ≠ gb231)); clear BK231; clear HB; have BK231 := n0_; have HB := n1_; have BK232 := n2_; have GW232 := n3_; have GE232 := n4_; have NB231_232 := n5_; have NB232_231 := n6_; clear n0_ n1_ n2_ n3_ n4_ n5_ n6_; clear hb hbox hg; have hnb26 := NB232_231.out; have hnc26 := NB231_232.out; have hcz27_0 : w25.cell? ⟨gb232, 0, none⟩ = some (.int .u8 0) := (zbc BK232.out 0).trans rfl; have hcz27_1 : w25.cell? ⟨gb232, 1, none⟩ = some (.int .u16 0) := (zbc BK232.out 1).trans rfl; have hcz27_2 : w25.cell? ⟨gb232, 2, none⟩ = some (.bool false) := (zbc BK232.out 2).trans rfl; have hcz27_3 : w25.cell? ⟨gb232, 3, none⟩ = some (.bool false) := (zbc BK232.out 3).trans rfl; have hcz27_4 : w25.cell? ⟨gb232, 4, none⟩ = some (.int .i64 0) := (zbc BK232.out 4).trans rfl; have hcz27_5 : w25.cell? ⟨gb232, 5, none⟩ = some (.int .u8 0) := (zbc BK232.out 5).trans rfl; have hcz27_6 : w25.cell? ⟨gb232, 6, none⟩ = some (.int .u8 0) := (zbc BK232.out 6).trans rfl; have hcz27_7 : w25.cell? ⟨gb232, 7, none⟩ = some (.int .u32 0) := (zbc BK232.out 7).trans rfl; have hcz27_8 : w25.cell? ⟨gb232, 8, none⟩ = some (.int .u32 0) := (zbc BK232.out 8).trans rfl; have hcz27_9 : w25.cell? ⟨gb232, 9, none⟩ = some (.slice none 0 0) := (zbc BK232.out 9).trans rfl; have hfz27_0 := zbf BK232.out 0; have hfz27_1 := zbf BK232.out 1; have hfz27_2 := zbf BK232.out 2; have hfz27_3 := zbf BK232.out 3; have hfz27_4 := zbf BK232.out 4; have hfz27_5 := zbf BK232.out 5; have hfz27_6 := zbf BK232.out 6; have hfz27_7 := zbf BK232.out 7; have hfz27_8 := zbf BK232.out 8; have hfz27_9 := zbf BK232.out 9) | ((with_reducible refine gate_callee (f := 46) rfl ?_); refine goesL_ (some 13) rfl rfl Try.func46 (by kernel_rfl) rfl #[.slice A0_9 l0_9.length c0_9] rfl zqxb6_4 ?_; (with_reducible refine (ip4_optionsOK.calls k _ _ l0_9 true _ ?side1 ?side2 A2.out).mono ?_); (case side1 => exact Kd.C_below HR0_9.out zqxb6_6); (case side2 => exact HC0_9.out); rintro e w' ⟨rfl, ⟨nd, rfl⟩⟩; refine ⟨_, rfl, ?_⟩; have hcz28_0 : w25.cell? ⟨gb231, 0, none⟩ = some (.int .u8 a0_0) := (zbc BK231.out 0).trans rfl; have hcz28_1 : w25.cell? ⟨gb231, 1, none⟩ = some (.int .u16 a0_1) := (zbc BK231.out 1).trans rfl; have hcz28_2 : w25.cell? ⟨gb231, 2, none⟩ = some (.bool a0_2) := (zbc BK231.out 2).trans rfl; have hcz28_3 : w25.cell? ⟨gb231, 3, none⟩ = some (.bool a0_3) := (zbc BK231.out 3).trans rfl; have hcz28_4 : w25.cell? ⟨gb231, 4, none⟩ = some (.int .i64 a0_4) := (zbc BK231.out 4).trans rfl; have hcz28_5 : w25.cell? ⟨gb231, 5, none⟩ = some (.int .u8 a0_5) := (zbc BK231.out 5).trans rfl; have hcz28_6 : w25.cell? ⟨gb231, 6, none⟩ = some (.int .u8 a0_6) := (zbc BK231.out 6).trans rfl; have hcz28_7 : w25.cell? ⟨gb231, 7, none⟩ = some (.int .u32 a0_7) := (zbc BK231.out 7).trans rfl; have hcz28_8 : w25.cell? ⟨gb231, 8, none⟩ = some (.int .u32 a0_8) := (zbc BK231.out 8).trans rfl; have hcz28_9 : w25.cell? ⟨gb231, 9, none⟩ = some (.slice A0_9 l0_9.length c0_9) := (zbc BK231.out 9).trans rfl; have hcz28_10 : w25.cell? ⟨gb231, 10, none⟩ = some (.slice A0_10 l0_10.length c0_10) := (zbc BK231.out 10).trans rfl; have hfz28_0 := zbf BK231.out 0; have hfz28_1 := zbf BK231.out 1; have hfz28_2 := zbf BK231.out 2; have hfz28_3 := zbf BK231.out 3; have hfz28_4 := zbf BK231.out 4; have hfz28_5 := zbf BK231.out 5; have hfz28_6 := zbf BK231.out 6; have hfz28_7 := zbf BK231.out 7; have hfz28_8 := zbf BK231.out 8; have hfz28_9 := zbf BK231.out 9; have hfz28_10 := zbf BK231.out 10) | ((with_reducible refine gate_callee (f := 47) rfl ?_); refine goesL_ (some 23) rfl rfl Try.func47 (by kernel_rfl) rfl #[.int .i64 a0_4, .int .i64 (l0_10.length : Int), .bool a0_3] rfl zqxb6_4 ?_; (with_reducible refine (ip4_orderly.calls a0_4 (l0_10.length : Int) a0_3 true _ A4.out).mono ?_); rintro e w' ⟨rfl, ⟨nd, rfl⟩⟩; refine ⟨_, rfl, ?_⟩) | ((with_reducible refine gate_dst (N := 40) rfl ?_); refine Kd.R_make (Kd.int .u8) _ 5 rfl (N := 40) rfl 24 _ _ rfl ji13 rfl rfl Try.underlying24 (.int .u8 0) 1 info5 rfl (by decide) (by omega) 0 (ok := fun _ => True) (okp := fun _ => True) rfl (fun _ hk => hk) trivial (zod zqxb6_8) (Nat.le_trans (Nat.mul_le_mul_right _ (zod zqxb6_8 : ji13.toNat ≤ 281474976710656)) (by omega)) (Below.refl _ _) (Nat.le_refl _) ?_; intro v236 w29 ho30 hb hg_ hnew_; clear hg_ hnew_; (first | rw [← Ny235.out] at ho30 | (simp only [Int.reduceToNat] at ho30; rw [← Ny235.out] at ho30)); have n0_ := zam (Kd.R_lower ho30 (below_size zqxb6_6)); have n1_ := zam (blk_below (g := gb231) (o := .cells #[.int .u8 a0_0, .int .u16 a0_1, .bool a0_2, .bool a0_3, .int .i64 a0_4, .int .u8 a0_5, .int .u8 a0_6, .int .u32 a0_7, .int .u32 a0_8, .slice A0_9 l0_9.length c0_9, .slice A0_10 l0_10.length c0_10] 43 (0, 0)) (by (with_reducible repeat (first | refine zdn ?_ _ | refine zdr ?_ | refine blk_alloc ?_ _)); refine blk_far ?_ NB231_232.out _; (with_reducible repeat (first | refine zdn ?_ _ | refine zdr ?_ | refine blk_alloc ?_ _)); refine blk_far ?_ NB231_232.out _; (with_reducible repeat (first | refine zdn ?_ _ | refine zdr ?_ | refine blk_alloc ?_ _)); refine blk_far ?_ NB231_232.out _; (with_reducible repeat (first | refine zdn ?_ _ | refine zdr ?_ | refine blk_alloc ?_ _)); refine blk_far ?_ NB231_232.out _; (with_reducible repeat (first | refine zdn ?_ _ | refine zdr ?_ | refine blk_alloc ?_ _)); refine blk_far ?_ NB231_232.out _; (with_reducible repeat (first | refine zdn ?_ _ | refine zdr ?_ | refine blk_alloc ?_ _)); refine blk_far ?_ NB231_232.out _; (with_reducible repeat (first | refine zdn ?_ _ | refine zdr ?_ | refine blk_alloc ?_ _)); refine blk_far ?_ NB231_232.out _; (with_reducible repeat (first | refine zdn ?_ _ | refine zdr ?_ | refine blk_alloc ?_ _)); refine blk_far ?_ NB231_232.out _; (with_reducible repeat (first | refine zdn ?_ _ | refine zdr ?_ | refine blk_alloc ?_ _)); refine blk_far ?_ NB231_232.out _; (with_reducible repeat (first | refine zdn ?_ _ | refine zdr ?_ | refine blk_alloc ?_ _)); refine blk_far ?_ NB231_232.out _; first | (with_reducible exact BK231.out) | (with_reducible exact zdn BK231.out _) | (with_reducible exact zdr BK231.out) | ((with_reducible repeat (first | refine zdn ?_ _ | refine zdr ?_ | refine blk_alloc ?_ _)); exact BK231.out)) hb); have n2_ := zam (blk_below (g := gb232) (o := .cells #[.int .u8 a0_0, .int .u16 a0_1, .bool a0_2, .bool a0_3, .int .i64 a0_4, .int .u8 a0_5, .int .u8 a0_6, .int .u32 a0_7, .int .u32 a0_8, .slice A0_9 l0_9.length c0_9] 41 (0, 0)) (by (with_reducible repeat (first | refine zdn ?_ _ | refine zdr ?_ | refine blk_alloc ?_ _)); refine blk_put (cs := #[.int .u8 a0_0, .int .u16 a0_1, .bool a0_2, .bool a0_3, .int .i64 a0_4, .int .u8 a0_5, .int .u8 a0_6, .int .u32 a0_7, .int .u32 a0_8, .slice none 0 0]) ?_ 9 _ rfl; (with_reducible repeat (first | refine zdn ?_ _ | refine zdr ?_ | refine blk_alloc ?_ _)); refine blk_put (cs := #[.int .u8 a0_0, .int .u16 a0_1, .bool a0_2, .bool a0_3, .int .i64 a0_4, .int .u8 a0_5, .int .u8 a0_6, .int .u32 a0_7, .int .u32 0, .slice none 0 0]) ?_ 8 _ rfl; (with_reducible repeat (first | refine zdn ?_ _ | refine zdr ?_ | refine blk_alloc ?_ _)); refine blk_put (cs := #[.int .u8 a0_0, .int .u16 a0_1, .bool a0_2, .bool a0_3, .int .i64 a0_4, .int .u8 a0_5, .int .u8 a0_6, .int .u32 0, .int .u32 0, .slice none 0 0]) ?_ 7 _ rfl; (with_reducible repeat (first | refine zdn ?_ _ | refine zdr ?_ | refine blk_alloc ?_ _)); refine blk_put (cs := #[.int .u8 a0_0, .int .u16 a0_1, .bool a0_2, .bool a0_3, .int .i64 a0_4, .int .u8 a0_5, .int .u8 0, .int .u32 0, .int .u32 0, .slice none 0 0]) ?_ 6 _ rfl; (with_reducible repeat (first | refine zdn ?_ _ | refine zdr ?_ | refine blk_alloc ?_ _)); refine blk_put (cs := #[.int .u8 a0_0, .int .u16 a0_1, .bool a0_2, .bool a0_3, .int .i64 a0_4, .int .u8 0, .int .u8 0, .int .u32 0, .int .u32 0, .slice none 0 0]) ?_ 5 _ rfl; (with_reducible repeat (first | refine zdn ?_ _ | refine zdr ?_ | refine blk_alloc ?_ _)); refine blk_put (cs := #[.int .u8 a0_0, .int .u16 a0_1, .bool a0_2, .bool a0_3, .int .i64 0, .int .u8 0, .int .u8 0, .int .u32 0, .int .u32 0, .slice none 0 0]) ?_ 4 _ rfl; (with_reducible repeat (first | refine zdn ?_ _ | refine zdr ?_ | refine blk_alloc ?_ _)); refine blk_put (cs := #[.int .u8 a0_0, .int .u16 a0_1, .bool a0_2, .bool false, .int .i64 0, .int .u8 0, .int .u8 0, .int .u32 0, .int .u32 0, .slice none 0 0]) ?_ 3 _ rfl; (with_reducible repeat (first | refine zdn ?_ _ | refine zdr ?_ | refine blk_alloc ?_ _)); refine blk_put (cs := #[.int .u8 a0_0, .int .u16 a0_1, .bool false, .bool false, .int .i64 0, .int .u8 0, .int .u8 0, .int .u32 0, .int .u32 0, .slice none 0 0]) ?_ 2 _ rfl; (with_reducible repeat (first | refine zdn ?_ _ | refine zdr ?_ | refine blk_alloc ?_ _)); refine blk_put (cs := #[.int .u8 a0_0, .int .u16 0, .bool false, .bool false, .int .i64 0, .int .u8 0, .int .u8 0, .int .u32 0, .int .u32 0, .slice none 0 0]) ?_ 1 _ rfl; (with_reducible repeat (first | refine zdn ?_ _ | refine zdr ?_ | refine blk_alloc ?_ _)); refine blk_put (cs := #[.int .u8 0, .int .u16 0, .bool false, .bool false, .int .i64 0, .int .u8 0, .int .u8 0, .int .u32 0, .int .u32 0, .slice none 0 0]) ?_ 0 _ rfl; first | (with_reducible exact BK232.out) | (with_reducible exact zdn BK232.out _) | (with_reducible exact zdr BK232.out) | ((with_reducible repeat (first | refine zdn ?_ _ | refine zdr ?_ | refine blk_alloc ?_ _)); exact BK232.out)) hb); have n3_ := zam (below_step zqxb6_6 hb); clear BK231; clear BK232; clear HB; have HO237 := n0_; have BK231 := n1_; have BK232 := n2_; have HB := n3_; clear n0_ n1_ n2_ n3_; clear hb ho30))
        have n0_ := zam (Kd.R_drew HO237.out)
        have n1_ := zam (zdr BK231.out)
        have n2_ := zam (zdr BK232.out)
        have n3_ := zam (below_drew1 HB.out)
        clear HO237
        clear BK231
        clear BK232
        clear HB
        have HO237 := n0_
        have BK231 := n1_
        have BK232 := n2_
        have HB := n3_
        clear n0_ n1_ n2_ n3_
        have p17 : 0 ≤ (0 : Int) := (by omega)
        have q17 : (0 : Int) < ((y235.length : Int) : Int) := zod zqxb6_8
        have qi17 : (0 < y235.length) = True := eq_true (by omega)
        obtain ⟨go17, co17, eo17, gb17, gl17, cl17, HG17⟩ := Kd.R_form HO237.out (by omega)
        (first | cases eo17 | (injection eo17 with ea_ en_ ec_; (first | subst ea_ | (injection ea_ with ea_; subst ea_)); subst ec_; clear en_))
        have GB17 := zam gb17
        have GG17 := zam HG17
        clear gb17 gl17 HG17
        obtain ⟨hx17_0, hf17_0⟩ := Kd.R_celln 0 HO237.out (0 : Int) p17 q17
        (try rw [show ((0 : Int)).toNat = 0 from rfl] at hx17_0)
        (try simp only [Nat.reduceMul, Nat.zero_mul, Nat.zero_add, Nat.reduceAdd] at hx17_0)
        (try rw [show ((0 : Int)).toNat = 0 from rfl] at hf17_0)
        (try simp only [Nat.reduceMul, Nat.zero_mul, Nat.zero_add, Nat.reduceAdd] at hf17_0)
        replace p17 := eq_true p17
        replace q17 := eq_true q17
        have HP32 := Kd.R_putn HO237.out (0 : Int) ((Go.bits .or .i64 64 (wrap64 (Int.tdiv (wrap64 (20 + (l0_9.length : Int))) 4))) % 256)
        rw [← Ny238.out] at HP32
        have HQ32 := zam HP32
        clear HP32
        have p19 : 0 ≤ (1 : Int) := (by omega)
        have q19 : (1 : Int) < ((y235.length : Int) : Int) := zod zqxb6_8
        have qi19 : (1 < y235.length) = True := eq_true (by omega)
        obtain ⟨hx19_0, hf19_0⟩ := Kd.R_celln 0 HQ32.out (1 : Int) p19 q19
        obtain ⟨hx33_0, hf33_0⟩ := Kd.R_celln 0 HO237.out (1 : Int) p19 q19
        (try rw [show ((1 : Int)).toNat = 1 from rfl] at hx33_0)
        (try simp only [Nat.reduceMul, Nat.zero_mul, Nat.zero_add, Nat.reduceAdd] at hx33_0)
        (try rw [show ((1 : Int)).toNat = 1 from rfl] at hf33_0)
        (try simp only [Nat.reduceMul, Nat.zero_mul, Nat.zero_add, Nat.reduceAdd] at hf33_0)
        (try rw [show ((1 : Int)).toNat = 1 from rfl] at hx19_0)
        (try simp only [Nat.reduceMul, Nat.zero_mul, Nat.zero_add, Nat.reduceAdd] at hx19_0)
        (try rw [show ((1 : Int)).toNat = 1 from rfl] at hf19_0)
        (try simp only [Nat.reduceMul, Nat.zero_mul, Nat.zero_add, Nat.reduceAdd] at hf19_0)
        replace p19 := eq_true p19
        replace q19 := eq_true q19
        have HP34 := Kd.R_putn HQ32.out (1 : Int) a0_0
        rw [← Ny239.out] at HP34
        have HQ34 := zam HP34
        clear HP34
        refine start_ (n := 12) (S := fun w' => w'.cell? ⟨gb232, 0, none⟩ = some (.int .u8 a0_0) ∧ w'.cell? ⟨gb232, 1, none⟩ = some (.int .u16 a0_1) ∧ w'.cell? ⟨gb232, 2, none⟩ = some (.bool a0_2) ∧ w'.cell? ⟨gb232, 3, none⟩ = some (.bool a0_3) ∧ w'.cell? ⟨gb232, 4, none⟩ = some (.int .i64 a0_4) ∧ w'.cell? ⟨gb232, 5, none⟩ = some (.int .u8 a0_5) ∧ w'.cell? ⟨gb232, 6, none⟩ = some (.int .u8 a0_6) ∧ w'.cell? ⟨gb232, 7, none⟩ = some (.int .u32 a0_7) ∧ w'.cell? ⟨gb232, 8, none⟩ = some (.int .u32 a0_8) ∧ w'.cell? ⟨gb232, 9, none⟩ = some (.slice A0_9 l0_9.length c0_9)) (ds := []) #[false, false, false, false, false, false, false, false, false, false, false, false] (by kernel_rfl) rfl rfl ⟨(zbc BK232.out 0).trans rfl, (zbc BK232.out 1).trans rfl, (zbc BK232.out 2).trans rfl, (zbc BK232.out 3).trans rfl, (zbc BK232.out 4).trans rfl, (zbc BK232.out 5).trans rfl, (zbc BK232.out 6).trans rfl, (zbc BK232.out 7).trans rfl, (zbc BK232.out 8).trans rfl, (zbc BK232.out 9).trans rfl⟩ (fun hHeld => ?_); refine with_tabW ip4_Build.tab10 ip4_Build.bits10 (fun HT_ HW_ => ?_)
        generalize w29.drew = w31 at HO237 BK231 BK232 HB GG17 HQ32 HQ34 hf17_0 hf19_0 hf33_0 hx17_0 hx19_0 hx33_0 hHeld ⊢
        refine pure_ (i := 0) (N := some 41) (v := ?_) (a' := ?_) #[true, false, false, false, false, false, false, false, false, false, false, false] rfl rfl (any_of HT_.out (by kernel_rfl)) (fun _ _ _ h => h) (Or.inl ⟨by rfl, ?_⟩) ?_ ?_
        rotate_left
        ·
         intro w'
         go_simp
         with_reducible rfl
        rotate_left
        ·
         simp only [Act.put, List.setIfInBounds_toArray, List.set_cons_zero, List.set_cons_succ, i64_w, i32_w, IntKind.wrap_u8, IntKind.wrap_u32]
         rfl
        refine pure_ (i := 1) (N := some 42) (v := ?_) (a' := ?_) #[true, true, false, false, false, false, false, false, false, false, false, false] rfl rfl (any_of HT_.out (by kernel_rfl)) (fun _ _ _ h => h) (Or.inl ⟨by rfl, ?_⟩) ?_ ?_
        rotate_left
        ·
         intro w'
         go_simp
         with_reducible rfl
        rotate_left
        ·
         simp only [Act.put, List.setIfInBounds_toArray, List.set_cons_zero, List.set_cons_succ, i64_w, i32_w, IntKind.wrap_u8, IntKind.wrap_u32]
         rfl
        refine pure_ (i := 2) (N := some 43) (v := ?_) (a' := ?_) #[true, true, true, false, false, false, false, false, false, false, false, false] rfl rfl (any_of HT_.out (by kernel_rfl)) (fun _ _ _ h => h) (Or.inl ⟨by rfl, ?_⟩) ?_ ?_
        rotate_left
        ·
         intro w'
         go_simp
         with_reducible rfl
        rotate_left
        ·
         simp only [Act.put, List.setIfInBounds_toArray, List.set_cons_zero, List.set_cons_succ, i64_w, i32_w, IntKind.wrap_u8, IntKind.wrap_u32]
         rfl
        refine pure_ (i := 3) (N := some 44) (v := ?_) (a' := ?_) #[true, true, true, true, false, false, false, false, false, false, false, false] rfl rfl (any_of HT_.out (by kernel_rfl)) (fun _ _ _ h => h) (Or.inl ⟨by rfl, ?_⟩) ?_ ?_
        rotate_left
        ·
         intro w'
         go_simp
         with_reducible rfl
        rotate_left
        ·
         simp only [Act.put, List.setIfInBounds_toArray, List.set_cons_zero, List.set_cons_succ, i64_w, i32_w, IntKind.wrap_u8, IntKind.wrap_u32]
         rfl
        refine pure_ (i := 4) (N := some 45) (v := ?_) (a' := ?_) #[true, true, true, true, true, false, false, false, false, false, false, false] rfl rfl (any_of HT_.out (by kernel_rfl)) (fun _ _ _ h => h) (Or.inl ⟨by rfl, ?_⟩) ?_ ?_
        rotate_left
        ·
         intro w'
         go_simp
         with_reducible rfl
        rotate_left
        ·
         simp only [Act.put, List.setIfInBounds_toArray, List.set_cons_zero, List.set_cons_succ, i64_w, i32_w, IntKind.wrap_u8, IntKind.wrap_u32]
         rfl
        refine pure_ (i := 5) (N := some 46) (v := ?_) (a' := ?_) #[true, true, true, true, true, true, false, false, false, false, false, false] rfl rfl (any_of HT_.out (by kernel_rfl)) (fun _ _ _ h => h) (Or.inl ⟨by rfl, ?_⟩) ?_ ?_
        rotate_left
        ·
         intro w'
         go_simp
         with_reducible rfl
        rotate_left
        ·
         simp only [Act.put, List.setIfInBounds_toArray, List.set_cons_zero, List.set_cons_succ, i64_w, i32_w, IntKind.wrap_u8, IntKind.wrap_u32]
         rfl
        refine pure_ (i := 6) (N := some 47) (v := ?_) (a' := ?_) #[true, true, true, true, true, true, true, false, false, false, false, false] rfl rfl (any_of HT_.out (by kernel_rfl)) (fun _ _ _ h => h) (Or.inl ⟨by rfl, ?_⟩) ?_ ?_
        rotate_left
        ·
         intro w'
         go_simp
         with_reducible rfl
        rotate_left
        ·
         simp only [Act.put, List.setIfInBounds_toArray, List.set_cons_zero, List.set_cons_succ, i64_w, i32_w, IntKind.wrap_u8, IntKind.wrap_u32]
         rfl
        refine pure_ (i := 8) (N := some 49) (v := ?_) (a' := ?_) #[true, true, true, true, true, true, true, false, true, false, false, false] rfl rfl (any_of HT_.out (by kernel_rfl)) (fun _ _ _ h => h) (Or.inl ⟨by rfl, ?_⟩) ?_ ?_
        rotate_left
        ·
         intro w'
         go_simp
         with_reducible rfl
        rotate_left
        ·
         simp only [Act.put, List.setIfInBounds_toArray, List.set_cons_zero, List.set_cons_succ, i64_w, i32_w, IntKind.wrap_u8, IntKind.wrap_u32]
         rfl
        refine take_ (i := 7) (N := some 48) (v := ?_) (a' := ?_) #[true, true, true, true, true, true, true, true, true, false, false, false] rfl rfl (take_ofW HT_.out HW_.out (by kernel_rfl)) (fun _ _ _ h => h) (Or.inl ⟨by rfl, ?_⟩) hHeld ?_ ?_
        rotate_left
        ·
         rintro w' ⟨s0, s1, s2, s3, s4, s5, s6, s7, s8, s9⟩
         go_simp
         with_reducible rfl
        rotate_left
        ·
         simp only [Act.put, List.setIfInBounds_toArray, List.set_cons_zero, List.set_cons_succ, i64_w, i32_w, IntKind.wrap_u8, IntKind.wrap_u32]
         rfl
        refine one_ (i := 9) (N := none) #[true, true, true, true, true, true, true, true, true, true, false, false] rfl rfl (one_of HT_.out (by kernel_rfl)) (by decide) (fun K hK => ?_)
        refine skip_ (w1 := ?_) (by rfl) rfl ?_ ?_
        rotate_left
        ·
         go_simp
         rfl
        refine hK.out _ _ ⟨(cell_far (p := ⟨go17, _, none⟩) (show gb232 ≠ go17 from zqxb6_2) _).trans (hHeld.1), (cell_far (p := ⟨go17, _, none⟩) (show gb232 ≠ go17 from zqxb6_2) _).trans (hHeld.2.1), (cell_far (p := ⟨go17, _, none⟩) (show gb232 ≠ go17 from zqxb6_2) _).trans (hHeld.2.2.1), (cell_far (p := ⟨go17, _, none⟩) (show gb232 ≠ go17 from zqxb6_2) _).trans (hHeld.2.2.2.1), (cell_far (p := ⟨go17, _, none⟩) (show gb232 ≠ go17 from zqxb6_2) _).trans (hHeld.2.2.2.2.1), (cell_far (p := ⟨go17, _, none⟩) (show gb232 ≠ go17 from zqxb6_2) _).trans (hHeld.2.2.2.2.2.1), (cell_far (p := ⟨go17, _, none⟩) (show gb232 ≠ go17 from zqxb6_2) _).trans (hHeld.2.2.2.2.2.2.1), (cell_far (p := ⟨go17, _, none⟩) (show gb232 ≠ go17 from zqxb6_2) _).trans (hHeld.2.2.2.2.2.2.2.1), (cell_far (p := ⟨go17, _, none⟩) (show gb232 ≠ go17 from zqxb6_2) _).trans (hHeld.2.2.2.2.2.2.2.2.1), (cell_far (p := ⟨go17, _, none⟩) (show gb232 ≠ go17 from zqxb6_2) _).trans (hHeld.2.2.2.2.2.2.2.2.2)⟩ (fun hHeld => ?_)
        clear hK K
        refine pure_ (i := 10) (N := some 50) (v := ?_) (a' := ?_) #[true, true, true, true, true, true, true, true, true, true, true, false] rfl rfl (any_of HT_.out (by kernel_rfl)) (fun _ _ _ h => h) (Or.inl ⟨by rfl, ?_⟩) ?_ ?_
        rotate_left
        ·
         intro w'
         go_simp
         with_reducible rfl
        rotate_left
        ·
         simp only [Act.put, List.setIfInBounds_toArray, List.set_cons_zero, List.set_cons_succ, i64_w, i32_w, IntKind.wrap_u8, IntKind.wrap_u32]
         rfl
        refine one_ (i := 11) (N := none) #[true, true, true, true, true, true, true, true, true, true, true, true] rfl rfl (one_of HT_.out (by kernel_rfl)) (by decide) (fun K hK => ?_)
        refine skip_ (w1 := ?_) (by rfl) rfl ?_ ?_
        rotate_left
        ·
         go_simp
         rfl
        refine hK.out _ _ ⟨(cell_far (p := ⟨go17, _, none⟩) (show gb232 ≠ go17 from zqxb6_2) _).trans (hHeld.1), (cell_far (p := ⟨go17, _, none⟩) (show gb232 ≠ go17 from zqxb6_2) _).trans (hHeld.2.1), (cell_far (p := ⟨go17, _, none⟩) (show gb232 ≠ go17 from zqxb6_2) _).trans (hHeld.2.2.1), (cell_far (p := ⟨go17, _, none⟩) (show gb232 ≠ go17 from zqxb6_2) _).trans (hHeld.2.2.2.1), (cell_far (p := ⟨go17, _, none⟩) (show gb232 ≠ go17 from zqxb6_2) _).trans (hHeld.2.2.2.2.1), (cell_far (p := ⟨go17, _, none⟩) (show gb232 ≠ go17 from zqxb6_2) _).trans (hHeld.2.2.2.2.2.1), (cell_far (p := ⟨go17, _, none⟩) (show gb232 ≠ go17 from zqxb6_2) _).trans (hHeld.2.2.2.2.2.2.1), (cell_far (p := ⟨go17, _, none⟩) (show gb232 ≠ go17 from zqxb6_2) _).trans (hHeld.2.2.2.2.2.2.2.1), (cell_far (p := ⟨go17, _, none⟩) (show gb232 ≠ go17 from zqxb6_2) _).trans (hHeld.2.2.2.2.2.2.2.2.1), (cell_far (p := ⟨go17, _, none⟩) (show gb232 ≠ go17 from zqxb6_2) _).trans (hHeld.2.2.2.2.2.2.2.2.2)⟩ (fun hHeld => ?_)
        clear hK K
        refine done_ (done_of HT_.out (by kernel_rfl)) ?_
        have n0_ : Aside0 (Kd.R (Kd.int .u8) 5 ((w31.setCell ⟨go17, 0, none⟩ (.int .u8 ((Go.bits .or .i64 64 (wrap64 (Int.tdiv (wrap64 (20 + (l0_9.length : Int))) 4))) % 256))).setCell ⟨go17, 1, none⟩ (.int .u8 a0_0)) w.heap.size (fun _ => True) (.slice (some ⟨go17, 0, none⟩) y235.length co17) y239) := ⟨by (with_reducible repeat (first | apply Kd.R_alloc | apply Kd.R_drewN | apply Kd.R_drew)); exact HQ34.out⟩
        have n1_ : Aside0 (((w31.setCell ⟨go17, 0, none⟩ (.int .u8 ((Go.bits .or .i64 64 (wrap64 (Int.tdiv (wrap64 (20 + (l0_9.length : Int))) 4))) % 256))).setCell ⟨go17, 1, none⟩ (.int .u8 a0_0)).heap[gb231]? = some (.cells #[.int .u8 a0_0, .int .u16 a0_1, .bool a0_2, .bool a0_3, .int .i64 a0_4, .int .u8 a0_5, .int .u8 a0_6, .int .u32 a0_7, .int .u32 a0_8, .slice A0_9 l0_9.length c0_9, .slice A0_10 l0_10.length c0_10] 43 (0, 0))) := ⟨by (with_reducible repeat (first | refine zdn ?_ _ | refine zdr ?_ | refine blk_alloc ?_ _)); refine blk_far ?_ zqxb6_13 _; (with_reducible repeat (first | refine zdn ?_ _ | refine zdr ?_ | refine blk_alloc ?_ _)); refine blk_far ?_ zqxb6_13 _; first | (with_reducible exact BK231.out) | (with_reducible exact zdn BK231.out _) | (with_reducible exact zdr BK231.out) | ((with_reducible repeat (first | refine zdn ?_ _ | refine zdr ?_ | refine blk_alloc ?_ _)); exact BK231.out)⟩
        have n2_ : Aside0 (((w31.setCell ⟨go17, 0, none⟩ (.int .u8 ((Go.bits .or .i64 64 (wrap64 (Int.tdiv (wrap64 (20 + (l0_9.length : Int))) 4))) % 256))).setCell ⟨go17, 1, none⟩ (.int .u8 a0_0)).heap[gb232]? = some (.cells #[.int .u8 a0_0, .int .u16 a0_1, .bool a0_2, .bool a0_3, .int .i64 a0_4, .int .u8 a0_5, .int .u8 a0_6, .int .u32 a0_7, .int .u32 a0_8, .slice A0_9 l0_9.length c0_9] 41 (0, 0))) := ⟨by (with_reducible repeat (first | refine zdn ?_ _ | refine zdr ?_ | refine blk_alloc ?_ _)); refine blk_far ?_ zqxb6_2 _; (with_reducible repeat (first | refine zdn ?_ _ | refine zdr ?_ | refine blk_alloc ?_ _)); refine blk_far ?_ zqxb6_2 _; first | (with_reducible exact BK232.out) | (with_reducible exact zdn BK232.out _) | (with_reducible exact zdr BK232.out) | ((with_reducible repeat (first | refine zdn ?_ _ | refine zdr ?_ | refine blk_alloc ?_ _)); exact BK232.out)⟩
        have n3_ : Aside0 (Below w.heap.size w ((w31.setCell ⟨go17, 0, none⟩ (.int .u8 ((Go.bits .or .i64 64 (wrap64 (Int.tdiv (wrap64 (20 + (l0_9.length : Int))) 4))) % 256))).setCell ⟨go17, 1, none⟩ (.int .u8 a0_0))) := ⟨by repeat (first | (with_reducible first | exact HB.out | apply below_alloc | apply pw_below_drewN | apply below_drew1 | refine below_set ?_ GB17.out | refine below_set ?_ GB17.out | refine below_set ?_ GE231.out | refine below_set ?_ GE232.out) | exact HB.out)⟩
        (try clear HO237)
        (try clear BK231)
        (try clear BK232)
        (try clear HB)
        generalize ((w31.setCell ⟨go17, 0, none⟩ (.int .u8 ((Go.bits .or .i64 64 (wrap64 (Int.tdiv (wrap64 (20 + (l0_9.length : Int))) 4))) % 256))).setCell ⟨go17, 1, none⟩ (.int .u8 a0_0)) = w35 at n0_ n1_ n2_ n3_ ⊢
        have HO237 := n0_
        have BK231 := n1_
        have BK232 := n2_
        have HB := n3_
        clear n0_ n1_ n2_ n3_
        go_upto_if 65 with (first | ((with_reducible refine gate_callee (f := 48) rfl ?_); refine goesL_ (some 55) rfl rfl Try.func48 (by kernel_rfl) rfl #[.slice (some ⟨go17, 0, none⟩) y235.length co17, .int .i64 2, .int .u16 (IntKind.u16.wrap ((y235.length : Int)))] rfl zqxb6_4 ?_; (with_reducible refine (ip4_putWord.calls (fun k_ => some k_ = (.slice (some ⟨go17, 0, none⟩) y235.length co17 : Value).ownBlock) (.slice (some ⟨go17, 0, none⟩) y235.length co17) y239 2 (IntKind.u16.wrap ((y235.length : Int))) t240 w _ ?side1 ?side2 A20.out).mono ?_); (case side1 => repeat (first | (with_reducible first | exact HB.out | apply below_alloc | apply pw_below_drewN | apply below_drew1 | refine below_set ?_ GE231.out | refine below_set ?_ GE232.out) | exact HB.out)); (case side2 => (with_reducible repeat (first | apply Kd.R_alloc | apply Kd.R_drewN | apply Kd.R_drew)); exact Kd.R_tight rfl HO237.out); rintro e w36 ⟨rfl, hy0, hb, hkp⟩; refine ⟨_, rfl, ?_⟩; have n0_ := zam (blk_kept zqxb6_0 hkp (fun hs_ => (fun e_ => (Kd.R_ne HO237.out BK231.out (by decide)) e_) hs_)); have n1_ := zam (blk_kept zqxb6_1 hkp (fun hs_ => (fun e_ => (Kd.R_ne HO237.out BK232.out (by decide)) e_) hs_)); have n2_ := zam (Kd.R_reok rfl hy0 (fun k_ e_ => HO237.out.1 k_ e_)); have n3_ := zam (hb); clear BK231; clear BK232; clear HO237; clear HB; have BK231 := n0_; have BK232 := n1_; have HO237 := n2_; have HB := n3_; clear n0_ n1_ n2_ n3_; (try clear hb); (try clear hkp); (try clear hy0); have hcz37_0 : w36.cell? ⟨gb232, 0, none⟩ = some (.int .u8 a0_0) := (zbc BK232.out 0).trans rfl; have hcz37_1 : w36.cell? ⟨gb232, 1, none⟩ = some (.int .u16 a0_1) := (zbc BK232.out 1).trans rfl; have hcz37_2 : w36.cell? ⟨gb232, 2, none⟩ = some (.bool a0_2) := (zbc BK232.out 2).trans rfl; have hcz37_3 : w36.cell? ⟨gb232, 3, none⟩ = some (.bool a0_3) := (zbc BK232.out 3).trans rfl; have hcz37_4 : w36.cell? ⟨gb232, 4, none⟩ = some (.int .i64 a0_4) := (zbc BK232.out 4).trans rfl; have hcz37_5 : w36.cell? ⟨gb232, 5, none⟩ = some (.int .u8 a0_5) := (zbc BK232.out 5).trans rfl; have hcz37_6 : w36.cell? ⟨gb232, 6, none⟩ = some (.int .u8 a0_6) := (zbc BK232.out 6).trans rfl; have hcz37_7 : w36.cell? ⟨gb232, 7, none⟩ = some (.int .u32 a0_7) := (zbc BK232.out 7).trans rfl; have hcz37_8 : w36.cell? ⟨gb232, 8, none⟩ = some (.int .u32 a0_8) := (zbc BK232.out 8).trans rfl; have hcz37_9 : w36.cell? ⟨gb232, 9, none⟩ = some (.slice A0_9 l0_9.length c0_9) := (zbc BK232.out 9).trans rfl; have hfz37_0 := zbf BK232.out 0; have hfz37_1 := zbf BK232.out 1; have hfz37_2 := zbf BK232.out 2; have hfz37_3 := zbf BK232.out 3; have hfz37_4 := zbf BK232.out 4; have hfz37_5 := zbf BK232.out 5; have hfz37_6 := zbf BK232.out 6; have hfz37_7 := zbf BK232.out 7; have hfz37_8 := zbf BK232.out 8; have hfz37_9 := zbf BK232.out 9) | ((with_reducible refine gate_callee (f := 48) rfl ?_); refine goesL_ (some 59) rfl rfl Try.func48 (by kernel_rfl) rfl #[.slice (some ⟨go17, 0, none⟩) y235.length co17, .int .i64 4, .int .u16 a0_1] rfl zqxb6_4 ?_; (with_reducible refine (ip4_putWord.calls (fun k_ => some k_ = (.slice (some ⟨go17, 0, none⟩) y235.length co17 : Value).ownBlock) (.slice (some ⟨go17, 0, none⟩) y235.length co17) t240 4 a0_1 t241 w _ ?side1 ?side2 A21.out).mono ?_); (case side1 => repeat (first | (with_reducible first | exact HB.out | apply below_alloc | apply pw_below_drewN | apply below_drew1 | refine below_set ?_ GE231.out | refine below_set ?_ GE232.out) | exact HB.out)); (case side2 => (with_reducible repeat (first | apply Kd.R_alloc | apply Kd.R_drewN | apply Kd.R_drew)); exact Kd.R_tight rfl HO237.out); rintro e w38 ⟨rfl, hy0, hb, hkp⟩; refine ⟨_, rfl, ?_⟩; have n0_ := zam (blk_kept zqxb6_0 hkp (fun hs_ => (fun e_ => (Kd.R_ne HO237.out BK231.out (by decide)) e_) hs_)); have n1_ := zam (blk_kept zqxb6_1 hkp (fun hs_ => (fun e_ => (Kd.R_ne HO237.out BK232.out (by decide)) e_) hs_)); have n2_ := zam (Kd.R_reok rfl hy0 (fun k_ e_ => HO237.out.1 k_ e_)); have n3_ := zam (hb); clear BK231; clear BK232; clear HO237; clear HB; have BK231 := n0_; have BK232 := n1_; have HO237 := n2_; have HB := n3_; clear n0_ n1_ n2_ n3_; (try clear hb); (try clear hkp); (try clear hy0); have hcz39_0 : w38.cell? ⟨gb232, 0, none⟩ = some (.int .u8 a0_0) := (zbc BK232.out 0).trans rfl; have hcz39_1 : w38.cell? ⟨gb232, 1, none⟩ = some (.int .u16 a0_1) := (zbc BK232.out 1).trans rfl; have hcz39_2 : w38.cell? ⟨gb232, 2, none⟩ = some (.bool a0_2) := (zbc BK232.out 2).trans rfl; have hcz39_3 : w38.cell? ⟨gb232, 3, none⟩ = some (.bool a0_3) := (zbc BK232.out 3).trans rfl; have hcz39_4 : w38.cell? ⟨gb232, 4, none⟩ = some (.int .i64 a0_4) := (zbc BK232.out 4).trans rfl; have hcz39_5 : w38.cell? ⟨gb232, 5, none⟩ = some (.int .u8 a0_5) := (zbc BK232.out 5).trans rfl; have hcz39_6 : w38.cell? ⟨gb232, 6, none⟩ = some (.int .u8 a0_6) := (zbc BK232.out 6).trans rfl; have hcz39_7 : w38.cell? ⟨gb232, 7, none⟩ = some (.int .u32 a0_7) := (zbc BK232.out 7).trans rfl; have hcz39_8 : w38.cell? ⟨gb232, 8, none⟩ = some (.int .u32 a0_8) := (zbc BK232.out 8).trans rfl; have hcz39_9 : w38.cell? ⟨gb232, 9, none⟩ = some (.slice A0_9 l0_9.length c0_9) := (zbc BK232.out 9).trans rfl; have hfz39_0 := zbf BK232.out 0; have hfz39_1 := zbf BK232.out 1; have hfz39_2 := zbf BK232.out 2; have hfz39_3 := zbf BK232.out 3; have hfz39_4 := zbf BK232.out 4; have hfz39_5 := zbf BK232.out 5; have hfz39_6 := zbf BK232.out 6; have hfz39_7 := zbf BK232.out 7; have hfz39_8 := zbf BK232.out 8; have hfz39_9 := zbf BK232.out 9))
        (try simp only [Act.put, List.setIfInBounds_toArray, List.set_cons_zero, List.set_cons_succ])
        go_cut [7] (fun v7 wc => ∃ (kq : Nat) (x7_21 : Int), v7 = .int .u16 x7_21 ∧ Aside0 (ip4_Build.j0 kq (wrap64 (20 + (l0_9.length : Int))) t241 x7_21 a0_0 a0_1 a0_2 a0_3 a0_4 a0_5 a0_6 a0_7 a0_8 l0_9 l0_10 a0_0 a0_1 a0_2 a0_3 a0_4 a0_5 a0_6 a0_7 a0_8 l0_9 = some (r1, r2)) ∧ Aside0 (kq ≤ k) ∧ Aside0 (Kd.R (Kd.int .u8) 5 wc w.heap.size (fun _ => True) (.slice (some ⟨go17, 0, none⟩) y235.length co17) t241) ∧ Aside0 (wc.heap[gb231]? = some (.cells #[.int .u8 a0_0, .int .u16 a0_1, .bool a0_2, .bool a0_3, .int .i64 a0_4, .int .u8 a0_5, .int .u8 a0_6, .int .u32 a0_7, .int .u32 a0_8, (.slice A0_9 l0_9.length c0_9), (.slice A0_10 l0_10.length c0_10)] 43 (0, 0))) ∧ Aside0 (wc.heap[gb232]? = some (.cells #[.int .u8 a0_0, .int .u16 a0_1, .bool a0_2, .bool a0_3, .int .i64 a0_4, .int .u8 a0_5, .int .u8 a0_6, .int .u32 a0_7, .int .u32 a0_8, (.slice A0_9 l0_9.length c0_9)] 41 (0, 0))) ∧ Aside0 (Below w.heap.size w wc))
        case first =>
         have H := HC22.out
         clear HC22
         by_cases c40 : a0_2 = true
         ·
          subst c40
          have H1 : (ip4_Build.j0 k (wrap64 (20 + (l0_9.length : Int))) t241 (Go.bits .or .u16 (IntKind.u16.wrap (wrap64 (Int.tdiv a0_4 8))) 16384) a0_0 a0_1 true a0_3 a0_4 a0_5 a0_6 a0_7 a0_8 l0_9 l0_10 a0_0 a0_1 true a0_3 a0_4 a0_5 a0_6 a0_7 a0_8 l0_9) = some (r1, r2) := by rw [if_pos rfl] at H; exact H
          clear H
          have H := H1
          clear H1
          have H' := zam H
          clear H
          go_wp2
          go_meet
          case rel => exact ⟨_, (Go.bits .or .u16 (IntKind.u16.wrap (wrap64 (Int.tdiv a0_4 8))) 16384), zqxb6_12, H', ⟨by first | omega | exact Nat.le_refl _⟩, ⟨by (with_reducible repeat (first | apply Kd.R_alloc | apply Kd.R_drewN | apply Kd.R_drew)); exact HO237.out⟩, ⟨by first | (with_reducible exact BK231.out) | (with_reducible exact zdn BK231.out _) | (with_reducible exact zdr BK231.out) | ((with_reducible repeat (first | refine zdn ?_ _ | refine zdr ?_ | refine blk_alloc ?_ _)); exact BK231.out)⟩, ⟨by first | (with_reducible exact BK232.out) | (with_reducible exact zdn BK232.out _) | (with_reducible exact zdr BK232.out) | ((with_reducible repeat (first | refine zdn ?_ _ | refine zdr ?_ | refine blk_alloc ?_ _)); exact BK232.out)⟩, ⟨by repeat (first | (with_reducible first | exact HB.out | apply below_alloc | apply pw_below_drewN | apply below_drew1 | refine below_set ?_ GE231.out | refine below_set ?_ GE232.out) | exact HB.out)⟩⟩
         ·
          replace c40 := Bool.eq_false_iff.mpr c40
          subst c40
          have H1 : (ip4_Build.j0 k (wrap64 (20 + (l0_9.length : Int))) t241 (IntKind.u16.wrap (wrap64 (Int.tdiv a0_4 8))) a0_0 a0_1 false a0_3 a0_4 a0_5 a0_6 a0_7 a0_8 l0_9 l0_10 a0_0 a0_1 false a0_3 a0_4 a0_5 a0_6 a0_7 a0_8 l0_9) = some (r1, r2) := by rw [if_neg (show ¬ (false = true) by decide)] at H; exact H
          clear H
          have H := H1
          clear H1
          have H' := zam H
          clear H
          go_wp2
          go_meet
          case rel => exact ⟨_, (IntKind.u16.wrap (wrap64 (Int.tdiv a0_4 8))), zqxb6_12, H', ⟨by first | omega | exact Nat.le_refl _⟩, ⟨by (with_reducible repeat (first | apply Kd.R_alloc | apply Kd.R_drewN | apply Kd.R_drew)); exact HO237.out⟩, ⟨by first | (with_reducible exact BK231.out) | (with_reducible exact zdn BK231.out _) | (with_reducible exact zdr BK231.out) | ((with_reducible repeat (first | refine zdn ?_ _ | refine zdr ?_ | refine blk_alloc ?_ _)); exact BK231.out)⟩, ⟨by first | (with_reducible exact BK232.out) | (with_reducible exact zdn BK232.out _) | (with_reducible exact zdr BK232.out) | ((with_reducible repeat (first | refine zdn ?_ _ | refine zdr ?_ | refine blk_alloc ?_ _)); exact BK232.out)⟩, ⟨by repeat (first | (with_reducible first | exact HB.out | apply below_alloc | apply pw_below_drewN | apply below_drew1 | refine below_set ?_ GE231.out | refine below_set ?_ GE232.out) | exact HB.out)⟩⟩
        case rest =>
         clear HC22
         try clear c1
         try clear p1
         try clear q1
         try clear hx1
         try clear qi1
         try clear hf1
         try clear c2
         try clear p2
         try clear c3
         try clear hx3
         try clear hf3
         try clear c4
         try clear p4
         try clear c5
         try clear c6
         try clear c6b0
         try clear p6
         try clear c10
         try clear c14
         try clear c14b0
         try clear c14b1
         try clear c15
         try clear c15b0
         try clear c15b1
         try clear c16
         try clear c16b0
         try clear c16b1
         try clear p17
         try clear q17
         try clear hx17
         try clear qi17
         try clear hf17
         try clear c18
         try clear c18b0
         try clear c18b1
         try clear p19
         try clear q19
         try clear hx19
         try clear qi19
         try clear hf19
         try clear c22
         try clear c26
         try clear hx33
         try clear hf33
         try clear c40
         try clear hcz11_0
         try clear hcz11_1
         try clear hcz11_2
         try clear hcz11_3
         try clear hcz11_4
         try clear hcz11_5
         try clear hcz11_6
         try clear hcz11_7
         try clear hcz11_8
         try clear hcz11_9
         try clear hcz12_0
         try clear hcz12_1
         try clear hcz12_10
         try clear hcz12_2
         try clear hcz12_3
         try clear hcz12_4
         try clear hcz12_5
         try clear hcz12_6
         try clear hcz12_7
         try clear hcz12_8
         try clear hcz12_9
         try clear hcz24_0
         try clear hcz24_1
         try clear hcz24_10
         try clear hcz24_2
         try clear hcz24_3
         try clear hcz24_4
         try clear hcz24_5
         try clear hcz24_6
         try clear hcz24_7
         try clear hcz24_8
         try clear hcz24_9
         try clear hcz27_0
         try clear hcz27_1
         try clear hcz27_2
         try clear hcz27_3
         try clear hcz27_4
         try clear hcz27_5
         try clear hcz27_6
         try clear hcz27_7
         try clear hcz27_8
         try clear hcz27_9
         try clear hcz28_0
         try clear hcz28_1
         try clear hcz28_10
         try clear hcz28_2
         try clear hcz28_3
         try clear hcz28_4
         try clear hcz28_5
         try clear hcz28_6
         try clear hcz28_7
         try clear hcz28_8
         try clear hcz28_9
         try clear hcz37_0
         try clear hcz37_1
         try clear hcz37_2
         try clear hcz37_3
         try clear hcz37_4
         try clear hcz37_5
         try clear hcz37_6
         try clear hcz37_7
         try clear hcz37_8
         try clear hcz37_9
         try clear hcz39_0
         try clear hcz39_1
         try clear hcz39_2
         try clear hcz39_3
         try clear hcz39_4
         try clear hcz39_5
         try clear hcz39_6
         try clear hcz39_7
         try clear hcz39_8
         try clear hcz39_9
         try clear hcz8_0
         try clear hcz8_1
         try clear hcz8_10
         try clear hcz8_2
         try clear hcz8_3
         try clear hcz8_4
         try clear hcz8_5
         try clear hcz8_6
         try clear hcz8_7
         try clear hcz8_8
         try clear hcz8_9
         try clear hfz11_0
         try clear hfz11_1
         try clear hfz11_2
         try clear hfz11_3
         try clear hfz11_4
         try clear hfz11_5
         try clear hfz11_6
         try clear hfz11_7
         try clear hfz11_8
         try clear hfz11_9
         try clear hfz12_0
         try clear hfz12_1
         try clear hfz12_10
         try clear hfz12_2
         try clear hfz12_3
         try clear hfz12_4
         try clear hfz12_5
         try clear hfz12_6
         try clear hfz12_7
         try clear hfz12_8
         try clear hfz12_9
         try clear hfz24_0
         try clear hfz24_1
         try clear hfz24_10
         try clear hfz24_2
         try clear hfz24_3
         try clear hfz24_4
         try clear hfz24_5
         try clear hfz24_6
         try clear hfz24_7
         try clear hfz24_8
         try clear hfz24_9
         try clear hfz27_0
         try clear hfz27_1
         try clear hfz27_2
         try clear hfz27_3
         try clear hfz27_4
         try clear hfz27_5
         try clear hfz27_6
         try clear hfz27_7
         try clear hfz27_8
         try clear hfz27_9
         try clear hfz28_0
         try clear hfz28_1
         try clear hfz28_10
         try clear hfz28_2
         try clear hfz28_3
         try clear hfz28_4
         try clear hfz28_5
         try clear hfz28_6
         try clear hfz28_7
         try clear hfz28_8
         try clear hfz28_9
         try clear hfz37_0
         try clear hfz37_1
         try clear hfz37_2
         try clear hfz37_3
         try clear hfz37_4
         try clear hfz37_5
         try clear hfz37_6
         try clear hfz37_7
         try clear hfz37_8
         try clear hfz37_9
         try clear hfz39_0
         try clear hfz39_1
         try clear hfz39_2
         try clear hfz39_3
         try clear hfz39_4
         try clear hfz39_5
         try clear hfz39_6
         try clear hfz39_7
         try clear hfz39_8
         try clear hfz39_9
         try clear hfz8_0
         try clear hfz8_1
         try clear hfz8_10
         try clear hfz8_2
         try clear hfz8_3
         try clear hfz8_4
         try clear hfz8_5
         try clear hfz8_6
         try clear hfz8_7
         try clear hfz8_8
         try clear hfz8_9
         try clear hx17_0
         try clear hx19_0
         try clear hx33_0
         try clear p17
         try clear p19
         try clear q17
         try clear q19
         obtain ⟨kq, x7_21, rfl, HA, HJ21, HO_6, BK231, BK232, HB⟩ := hcut
         have hl6_21 := (Kd.R_reads' HO_6.out).1
         rw [hl6_21] at HO_6
         (try simp only [hl6_21])
         (try simp only [hl6_21] at BK231)
         (try simp only [hl6_21] at BK232)
         cases kq with
         | zero => exact absurd HA.out (by simp [ip4_Build.j0])
         | succ kj21 =>
          have H := HA.out
          clear HA
          simp only [ip4_Build.j0] at H
          have HC41 := zam H
          clear H
          have hnb42 := NB232_231.out
          have hnc42 := NB231_232.out
          have hcz43_0 : wc.cell? ⟨gb232, 0, none⟩ = some (.int .u8 a0_0) := (zbc BK232.out 0).trans rfl
          have hcz43_1 : wc.cell? ⟨gb232, 1, none⟩ = some (.int .u16 a0_1) := (zbc BK232.out 1).trans rfl
          have hcz43_2 : wc.cell? ⟨gb232, 2, none⟩ = some (.bool a0_2) := (zbc BK232.out 2).trans rfl
          have hcz43_3 : wc.cell? ⟨gb232, 3, none⟩ = some (.bool a0_3) := (zbc BK232.out 3).trans rfl
          have hcz43_4 : wc.cell? ⟨gb232, 4, none⟩ = some (.int .i64 a0_4) := (zbc BK232.out 4).trans rfl
          have hcz43_5 : wc.cell? ⟨gb232, 5, none⟩ = some (.int .u8 a0_5) := (zbc BK232.out 5).trans rfl
          have hcz43_6 : wc.cell? ⟨gb232, 6, none⟩ = some (.int .u8 a0_6) := (zbc BK232.out 6).trans rfl
          have hcz43_7 : wc.cell? ⟨gb232, 7, none⟩ = some (.int .u32 a0_7) := (zbc BK232.out 7).trans rfl
          have hcz43_8 : wc.cell? ⟨gb232, 8, none⟩ = some (.int .u32 a0_8) := (zbc BK232.out 8).trans rfl
          have hcz43_9 : wc.cell? ⟨gb232, 9, none⟩ = some (.slice A0_9 l0_9.length c0_9) := (zbc BK232.out 9).trans rfl
          have hfz43_0 := zbf BK232.out 0
          have hfz43_1 := zbf BK232.out 1
          have hfz43_2 := zbf BK232.out 2
          have hfz43_3 := zbf BK232.out 3
          have hfz43_4 := zbf BK232.out 4
          have hfz43_5 := zbf BK232.out 5
          have hfz43_6 := zbf BK232.out 6
          have hfz43_7 := zbf BK232.out 7
          have hfz43_8 := zbf BK232.out 8
          have hfz43_9 := zbf BK232.out 9
          go_upto_if 69 with (fail)
          go_cut [7] (fun v7 wc => ∃ (kq : Nat) (x7_40 : Int), v7 = .int .u16 x7_40 ∧ Aside0 (ip4_Build.j1 kq (wrap64 (20 + (l0_9.length : Int))) t241 x7_40 a0_0 a0_1 a0_2 a0_3 a0_4 a0_5 a0_6 a0_7 a0_8 l0_9 l0_10 a0_0 a0_1 a0_2 a0_3 a0_4 a0_5 a0_6 a0_7 a0_8 l0_9 = some (r1, r2)) ∧ Aside0 (kq ≤ kj21) ∧ Aside0 (Kd.R (Kd.int .u8) 5 wc w.heap.size (fun _ => True) (.slice (some ⟨go17, 0, none⟩) t241.length co17) t241) ∧ Aside0 (wc.heap[gb231]? = some (.cells #[.int .u8 a0_0, .int .u16 a0_1, .bool a0_2, .bool a0_3, .int .i64 a0_4, .int .u8 a0_5, .int .u8 a0_6, .int .u32 a0_7, .int .u32 a0_8, (.slice A0_9 l0_9.length c0_9), (.slice A0_10 l0_10.length c0_10)] 43 (0, 0))) ∧ Aside0 (wc.heap[gb232]? = some (.cells #[.int .u8 a0_0, .int .u16 a0_1, .bool a0_2, .bool a0_3, .int .i64 a0_4, .int .u8 a0_5, .int .u8 a0_6, .int .u32 a0_7, .int .u32 a0_8, (.slice A0_9 l0_9.length c0_9)] 41 (0, 0))) ∧ Aside0 (Below w.heap.size w wc))
          case first =>
           have H := HC41.out
           clear HC41
           by_cases c44 : a0_3 = true
           ·
            subst c44
            have H1 : (ip4_Build.j1 kj21 (wrap64 (20 + (l0_9.length : Int))) t241 (Go.bits .or .u16 x7_21 8192) a0_0 a0_1 a0_2 true a0_4 a0_5 a0_6 a0_7 a0_8 l0_9 l0_10 a0_0 a0_1 a0_2 true a0_4 a0_5 a0_6 a0_7 a0_8 l0_9) = some (r1, r2) := by rw [if_pos rfl] at H; exact H
            clear H
            have H := H1
            clear H1
            have H' := zam H
            clear H
            go_wp2
            go_meet
            case rel => exact ⟨_, (Go.bits .or .u16 x7_21 8192), zqxb6_12, H', ⟨by have := HJ21.out; first | omega | exact Nat.le_refl _⟩, ⟨by (try simp only [hl6_21]); (with_reducible repeat (first | apply Kd.R_alloc | apply Kd.R_drewN | apply Kd.R_drew)); exact HO_6.out⟩, ⟨by (try simp only [hl6_21]); first | (with_reducible exact BK231.out) | (with_reducible exact zdn BK231.out _) | (with_reducible exact zdr BK231.out) | ((with_reducible repeat (first | refine zdn ?_ _ | refine zdr ?_ | refine blk_alloc ?_ _)); exact BK231.out)⟩, ⟨by (try simp only [hl6_21]); first | (with_reducible exact BK232.out) | (with_reducible exact zdn BK232.out _) | (with_reducible exact zdr BK232.out) | ((with_reducible repeat (first | refine zdn ?_ _ | refine zdr ?_ | refine blk_alloc ?_ _)); exact BK232.out)⟩, ⟨by repeat (first | (with_reducible first | exact HB.out | apply below_alloc | apply pw_below_drewN | apply below_drew1 | refine below_set ?_ GE231.out | refine below_set ?_ GE232.out) | exact HB.out)⟩⟩
           ·
            replace c44 := Bool.eq_false_iff.mpr c44
            subst c44
            have H1 : (ip4_Build.j1 kj21 (wrap64 (20 + (l0_9.length : Int))) t241 x7_21 a0_0 a0_1 a0_2 false a0_4 a0_5 a0_6 a0_7 a0_8 l0_9 l0_10 a0_0 a0_1 a0_2 false a0_4 a0_5 a0_6 a0_7 a0_8 l0_9) = some (r1, r2) := by rw [if_neg (show ¬ (false = true) by decide)] at H; exact H
            clear H
            have H := H1
            clear H1
            have H' := zam H
            clear H
            go_wp2
            go_meet
            case rel => exact ⟨_, (x7_21), zqxb6_12, H', ⟨by have := HJ21.out; first | omega | exact Nat.le_refl _⟩, ⟨by (try simp only [hl6_21]); (with_reducible repeat (first | apply Kd.R_alloc | apply Kd.R_drewN | apply Kd.R_drew)); exact HO_6.out⟩, ⟨by (try simp only [hl6_21]); first | (with_reducible exact BK231.out) | (with_reducible exact zdn BK231.out _) | (with_reducible exact zdr BK231.out) | ((with_reducible repeat (first | refine zdn ?_ _ | refine zdr ?_ | refine blk_alloc ?_ _)); exact BK231.out)⟩, ⟨by (try simp only [hl6_21]); first | (with_reducible exact BK232.out) | (with_reducible exact zdn BK232.out _) | (with_reducible exact zdr BK232.out) | ((with_reducible repeat (first | refine zdn ?_ _ | refine zdr ?_ | refine blk_alloc ?_ _)); exact BK232.out)⟩, ⟨by repeat (first | (with_reducible first | exact HB.out | apply below_alloc | apply pw_below_drewN | apply below_drew1 | refine below_set ?_ GE231.out | refine below_set ?_ GE232.out) | exact HB.out)⟩⟩
          case rest =>
           clear HC41
           try clear c1
           try clear p1
           try clear q1
           try clear hx1
           try clear qi1
           try clear hf1
           try clear c2
           try clear p2
           try clear c3
           try clear hx3
           try clear hf3
           try clear c4
           try clear p4
           try clear c5
           try clear c6
           try clear c6b0
           try clear p6
           try clear c10
           try clear c14
           try clear c14b0
           try clear c14b1
           try clear c15
           try clear c15b0
           try clear c15b1
           try clear c16
           try clear c16b0
           try clear c16b1
           try clear p17
           try clear q17
           try clear hx17
           try clear qi17
           try clear hf17
           try clear c18
           try clear c18b0
           try clear c18b1
           try clear p19
           try clear q19
           try clear hx19
           try clear qi19
           try clear hf19
           try clear c22
           try clear c26
           try clear hx33
           try clear hf33
           try clear c40
           try clear c42
           try clear c44
           try clear hcz11_0
           try clear hcz11_1
           try clear hcz11_2
           try clear hcz11_3
           try clear hcz11_4
           try clear hcz11_5
           try clear hcz11_6
           try clear hcz11_7
           try clear hcz11_8
           try clear hcz11_9
           try clear hcz12_0
           try clear hcz12_1
           try clear hcz12_10
           try clear hcz12_2
           try clear hcz12_3
           try clear hcz12_4
           try clear hcz12_5
           try clear hcz12_6
           try clear hcz12_7
           try clear hcz12_8
           try clear hcz12_9
           try clear hcz24_0
           try clear hcz24_1
           try clear hcz24_10
           try clear hcz24_2
           try clear hcz24_3
           try clear hcz24_4
           try clear hcz24_5
           try clear hcz24_6
           try clear hcz24_7
           try clear hcz24_8
           try clear hcz24_9
           try clear hcz27_0
           try clear hcz27_1
           try clear hcz27_2
           try clear hcz27_3
           try clear hcz27_4
           try clear hcz27_5
           try clear hcz27_6
           try clear hcz27_7
           try clear hcz27_8
           try clear hcz27_9
           try clear hcz28_0
           try clear hcz28_1
           try clear hcz28_10
           try clear hcz28_2
           try clear hcz28_3
           try clear hcz28_4
           try clear hcz28_5
           try clear hcz28_6
           try clear hcz28_7
           try clear hcz28_8
           try clear hcz28_9
           try clear hcz37_0
           try clear hcz37_1
           try clear hcz37_2
           try clear hcz37_3
           try clear hcz37_4
           try clear hcz37_5
           try clear hcz37_6
           try clear hcz37_7
           try clear hcz37_8
           try clear hcz37_9
           try clear hcz39_0
           try clear hcz39_1
           try clear hcz39_2
           try clear hcz39_3
           try clear hcz39_4
           try clear hcz39_5
           try clear hcz39_6
           try clear hcz39_7
           try clear hcz39_8
           try clear hcz39_9
           try clear hcz43_0
           try clear hcz43_1
           try clear hcz43_2
           try clear hcz43_3
           try clear hcz43_4
           try clear hcz43_5
           try clear hcz43_6
           try clear hcz43_7
           try clear hcz43_8
           try clear hcz43_9
           try clear hcz8_0
           try clear hcz8_1
           try clear hcz8_10
           try clear hcz8_2
           try clear hcz8_3
           try clear hcz8_4
           try clear hcz8_5
           try clear hcz8_6
           try clear hcz8_7
           try clear hcz8_8
           try clear hcz8_9
           try clear hfz11_0
           try clear hfz11_1
           try clear hfz11_2
           try clear hfz11_3
           try clear hfz11_4
           try clear hfz11_5
           try clear hfz11_6
           try clear hfz11_7
           try clear hfz11_8
           try clear hfz11_9
           try clear hfz12_0
           try clear hfz12_1
           try clear hfz12_10
           try clear hfz12_2
           try clear hfz12_3
           try clear hfz12_4
           try clear hfz12_5
           try clear hfz12_6
           try clear hfz12_7
           try clear hfz12_8
           try clear hfz12_9
           try clear hfz24_0
           try clear hfz24_1
           try clear hfz24_10
           try clear hfz24_2
           try clear hfz24_3
           try clear hfz24_4
           try clear hfz24_5
           try clear hfz24_6
           try clear hfz24_7
           try clear hfz24_8
           try clear hfz24_9
           try clear hfz27_0
           try clear hfz27_1
           try clear hfz27_2
           try clear hfz27_3
           try clear hfz27_4
           try clear hfz27_5
           try clear hfz27_6
           try clear hfz27_7
           try clear hfz27_8
           try clear hfz27_9
           try clear hfz28_0
           try clear hfz28_1
           try clear hfz28_10
           try clear hfz28_2
           try clear hfz28_3
           try clear hfz28_4
           try clear hfz28_5
           try clear hfz28_6
           try clear hfz28_7
           try clear hfz28_8
           try clear hfz28_9
           try clear hfz37_0
           try clear hfz37_1
           try clear hfz37_2
           try clear hfz37_3
           try clear hfz37_4
           try clear hfz37_5
           try clear hfz37_6
           try clear hfz37_7
           try clear hfz37_8
           try clear hfz37_9
           try clear hfz39_0
           try clear hfz39_1
           try clear hfz39_2
           try clear hfz39_3
           try clear hfz39_4
           try clear hfz39_5
           try clear hfz39_6
           try clear hfz39_7
           try clear hfz39_8
           try clear hfz39_9
           try clear hfz43_0
           try clear hfz43_1
           try clear hfz43_2
           try clear hfz43_3
           try clear hfz43_4
           try clear hfz43_5
           try clear hfz43_6
           try clear hfz43_7
           try clear hfz43_8
           try clear hfz43_9
           try clear hfz8_0
           try clear hfz8_1
           try clear hfz8_10
           try clear hfz8_2
           try clear hfz8_3
           try clear hfz8_4
           try clear hfz8_5
           try clear hfz8_6
           try clear hfz8_7
           try clear hfz8_8
           try clear hfz8_9
           try clear hx17_0
           try clear hx19_0
           try clear hx33_0
           try clear p1
           try clear p17
           try clear p19
           try clear p2
           try clear p4
           try clear p6
           try clear q1
           try clear q17
           try clear q19
           obtain ⟨kq, x7_40, rfl, HA, HJ40, HO_6, BK231, BK232, HB⟩ := hcut
           cases kq with
           | zero => exact absurd HA.out (by simp [ip4_Build.j1])
           | succ kj40 =>
            have H := HA.out
            clear HA
            simp only [ip4_Build.j1] at H
            replace H := Option.bind_eq_some_iff.mp H
            obtain ⟨t242, A450, H⟩ := H
            replace H : (if 8 < (t241.length : Int) then (if 9 < (t241.length : Int) then ((ip4_putLong.f ((t242.set (8 : Int).toNat a0_5).set (9 : Int).toNat a0_6) 12 a0_7).bind fun t245 => ((ip4_putLong.f t245 16 a0_8).bind fun t246 => (if 20 ≤ (t241.length : Int) then (if 0 ≤ (wrap64 (20 + (l0_9.length : Int))) then (if (wrap64 (20 + (l0_9.length : Int))) ≤ (t241.length : Int) then ((some (cpy (cpy t246 20 l0_9) (((wrap64 (20 + (l0_9.length : Int))) : Int).toNat) l0_10 : List Int)).bind fun y256 => (if 10 ≤ (t241.length : Int) then (if 12 ≤ (wrap64 (20 + (l0_9.length : Int))) then ((ip4_Sum.f kj40 (([(y256.take 10), ((y256.take ((wrap64 (20 + (l0_9.length : Int))) : Int).toNat).drop 12)] : List (List Int)))).bind fun t269 => ((ip4_putWord.f y256 10 t269).bind fun t270 => (some (t270, 0)))) else (none)) else (none))) else (none)) else (none)) else (none)))) else (none)) else (none)) = some (r1, r2) := H
            have A45 := zam A450
            clear A450
            by_cases c46 : 8 < (t241.length : Int)
            ·
             rw [if_pos c46] at H
             have c46b0 : decide (8 < (t241.length : Int)) = true := decide_eq_true c46
             have c46b1 : decide (8 < t241.length) = true := decide_eq_true (by omega)
             clear c46
             obtain ⟨y243, hy243⟩ : ∃ y_ : List Int, y_ = (t242.set (8 : Int).toNat a0_5) := ⟨_, rfl⟩
             replace H : (if 9 < (t241.length : Int) then ((ip4_putLong.f (y243.set (9 : Int).toNat a0_6) 12 a0_7).bind fun t245 => ((ip4_putLong.f t245 16 a0_8).bind fun t246 => (if 20 ≤ (t241.length : Int) then (if 0 ≤ (wrap64 (20 + (l0_9.length : Int))) then (if (wrap64 (20 + (l0_9.length : Int))) ≤ (t241.length : Int) then ((some (cpy (cpy t246 20 l0_9) (((wrap64 (20 + (l0_9.length : Int))) : Int).toNat) l0_10 : List Int)).bind fun y256 => (if 10 ≤ (t241.length : Int) then (if 12 ≤ (wrap64 (20 + (l0_9.length : Int))) then ((ip4_Sum.f kj40 (([(y256.take 10), ((y256.take ((wrap64 (20 + (l0_9.length : Int))) : Int).toNat).drop 12)] : List (List Int)))).bind fun t269 => ((ip4_putWord.f y256 10 t269).bind fun t270 => (some (t270, 0)))) else (none)) else (none))) else (none)) else (none)) else (none)))) else (none)) = some (r1, r2) := by first | (rw [hy243]; with_reducible exact H) | (have H2_ := (Option.bind_some _ _).symm.trans H; rw [hy243]; with_reducible exact H2_) | (have H2_ := (Option.bind_some _ _).symm.trans H; with_reducible exact H2_) | with_reducible exact H | (rw [hy243]; exact H) | exact H
             have Ny243 := zam hy243
             clear hy243
             by_cases c48 : 9 < (t241.length : Int)
             ·
              rw [if_pos c48] at H
              have c48b0 : decide (9 < (t241.length : Int)) = true := decide_eq_true c48
              have c48b1 : decide (9 < t241.length) = true := decide_eq_true (by omega)
              clear c48
              obtain ⟨y244, hy244⟩ : ∃ y_ : List Int, y_ = (y243.set (9 : Int).toNat a0_6) := ⟨_, rfl⟩
              replace H : ((ip4_putLong.f y244 12 a0_7).bind fun t245 => ((ip4_putLong.f t245 16 a0_8).bind fun t246 => (if 20 ≤ (t241.length : Int) then (if 0 ≤ (wrap64 (20 + (l0_9.length : Int))) then (if (wrap64 (20 + (l0_9.length : Int))) ≤ (t241.length : Int) then ((some (cpy (cpy t246 20 l0_9) (((wrap64 (20 + (l0_9.length : Int))) : Int).toNat) l0_10 : List Int)).bind fun y256 => (if 10 ≤ (t241.length : Int) then (if 12 ≤ (wrap64 (20 + (l0_9.length : Int))) then ((ip4_Sum.f kj40 (([(y256.take 10), ((y256.take ((wrap64 (20 + (l0_9.length : Int))) : Int).toNat).drop 12)] : List (List Int)))).bind fun t269 => ((ip4_putWord.f y256 10 t269).bind fun t270 => (some (t270, 0)))) else (none)) else (none))) else (none)) else (none)) else (none)))) = some (r1, r2) := by first | (rw [hy244]; with_reducible exact H) | (have H2_ := (Option.bind_some _ _).symm.trans H; rw [hy244]; with_reducible exact H2_) | (have H2_ := (Option.bind_some _ _).symm.trans H; with_reducible exact H2_) | with_reducible exact H | (rw [hy244]; exact H) | exact H
              have Ny244 := zam hy244
              clear hy244
              replace H := Option.bind_eq_some_iff.mp H
              obtain ⟨t245, A500, H⟩ := H
              replace H : ((ip4_putLong.f t245 16 a0_8).bind fun t246 => (if 20 ≤ (t241.length : Int) then (if 0 ≤ (wrap64 (20 + (l0_9.length : Int))) then (if (wrap64 (20 + (l0_9.length : Int))) ≤ (t241.length : Int) then ((some (cpy (cpy t246 20 l0_9) (((wrap64 (20 + (l0_9.length : Int))) : Int).toNat) l0_10 : List Int)).bind fun y256 => (if 10 ≤ (t241.length : Int) then (if 12 ≤ (wrap64 (20 + (l0_9.length : Int))) then ((ip4_Sum.f kj40 (([(y256.take 10), ((y256.take ((wrap64 (20 + (l0_9.length : Int))) : Int).toNat).drop 12)] : List (List Int)))).bind fun t269 => ((ip4_putWord.f y256 10 t269).bind fun t270 => (some (t270, 0)))) else (none)) else (none))) else (none)) else (none)) else (none))) = some (r1, r2) := H
              have A50 := zam A500
              clear A500
              replace H := Option.bind_eq_some_iff.mp H
              obtain ⟨t246, A510, H⟩ := H
              replace H : (if 20 ≤ (t241.length : Int) then (if 0 ≤ (wrap64 (20 + (l0_9.length : Int))) then (if (wrap64 (20 + (l0_9.length : Int))) ≤ (t241.length : Int) then ((some (cpy (cpy t246 20 l0_9) (((wrap64 (20 + (l0_9.length : Int))) : Int).toNat) l0_10 : List Int)).bind fun y256 => (if 10 ≤ (t241.length : Int) then (if 12 ≤ (wrap64 (20 + (l0_9.length : Int))) then ((ip4_Sum.f kj40 (([(y256.take 10), ((y256.take ((wrap64 (20 + (l0_9.length : Int))) : Int).toNat).drop 12)] : List (List Int)))).bind fun t269 => ((ip4_putWord.f y256 10 t269).bind fun t270 => (some (t270, 0)))) else (none)) else (none))) else (none)) else (none)) else (none)) = some (r1, r2) := H
              have A51 := zam A510
              clear A510
              by_cases c52 : 20 ≤ (t241.length : Int)
              ·
               rw [if_pos c52] at H
               have c52b0 := eq_true c52
               have c52b1 : decide (20 ≤ (t241.length : Int)) = true := decide_eq_true c52
               clear c52
               obtain ⟨y247, hy247⟩ : ∃ y_ : List Int, y_ = (t246.drop 20) := ⟨_, rfl⟩
               replace H : (if 0 ≤ (wrap64 (20 + (l0_9.length : Int))) then (if (wrap64 (20 + (l0_9.length : Int))) ≤ (t241.length : Int) then ((some (cpy (cpy t246 20 l0_9) (((wrap64 (20 + (l0_9.length : Int))) : Int).toNat) l0_10 : List Int)).bind fun y256 => (if 10 ≤ (t241.length : Int) then (if 12 ≤ (wrap64 (20 + (l0_9.length : Int))) then ((ip4_Sum.f kj40 (([(y256.take 10), ((y256.take ((wrap64 (20 + (l0_9.length : Int))) : Int).toNat).drop 12)] : List (List Int)))).bind fun t269 => ((ip4_putWord.f y256 10 t269).bind fun t270 => (some (t270, 0)))) else (none)) else (none))) else (none)) else (none)) = some (r1, r2) := by first | (rw [hy247]; with_reducible exact H) | (have H2_ := (Option.bind_some _ _).symm.trans H; rw [hy247]; with_reducible exact H2_) | (have H2_ := (Option.bind_some _ _).symm.trans H; with_reducible exact H2_) | with_reducible exact H | (rw [hy247]; exact H) | exact H
               have Ny247 := zam hy247
               clear hy247
               obtain ⟨y251, hy251⟩ : ∃ y_ : List Int, y_ = (cpy t246 20 l0_9) := ⟨_, rfl⟩
               replace H : (if 0 ≤ (wrap64 (20 + (l0_9.length : Int))) then (if (wrap64 (20 + (l0_9.length : Int))) ≤ (t241.length : Int) then ((some (cpy y251 (((wrap64 (20 + (l0_9.length : Int))) : Int).toNat) l0_10 : List Int)).bind fun y256 => (if 10 ≤ (t241.length : Int) then (if 12 ≤ (wrap64 (20 + (l0_9.length : Int))) then ((ip4_Sum.f kj40 (([(y256.take 10), ((y256.take ((wrap64 (20 + (l0_9.length : Int))) : Int).toNat).drop 12)] : List (List Int)))).bind fun t269 => ((ip4_putWord.f y256 10 t269).bind fun t270 => (some (t270, 0)))) else (none)) else (none))) else (none)) else (none)) = some (r1, r2) := by first | (rw [hy251]; with_reducible exact H) | (have H2_ := (Option.bind_some _ _).symm.trans H; rw [hy251]; with_reducible exact H2_) | (have H2_ := (Option.bind_some _ _).symm.trans H; with_reducible exact H2_) | with_reducible exact H | (rw [hy251]; exact H) | exact H
               have Ny251 := zam hy251
               clear hy251
               obtain ⟨ji53, hji53⟩ : ∃ j_ : Int, (wrap64 (20 + (l0_9.length : Int))) = j_ := ⟨_, rfl⟩
               replace H : (if 0 ≤ (ji53) then (if (ji53) ≤ (t241.length : Int) then ((some (cpy y251 (((ji53) : Int).toNat) l0_10 : List Int)).bind fun y256 => (if 10 ≤ (t241.length : Int) then (if 12 ≤ (ji53) then ((ip4_Sum.f kj40 (([(y256.take 10), ((y256.take ((ji53) : Int).toNat).drop 12)] : List (List Int)))).bind fun t269 => ((ip4_putWord.f y256 10 t269).bind fun t270 => (some (t270, 0)))) else (none)) else (none))) else (none)) else (none)) = some (r1, r2) := by first | (rw [hji53] at H; exact H) | (simp only [hji53] at H ⊢; exact H)
               (try rw [hji53] at c6b0)
               (try rw [hji53] at A45)
               (try rw [hji53] at A50)
               (try rw [hji53] at A51)
               have hji53w : (IntKind.i64.wrap (20 + (l0_9.length : Int))) = ji53 := (i64_w _).trans hji53
               by_cases c54 : 0 ≤ (ji53)
               ·
                rw [if_pos c54] at H
                have c54b0 := eq_true c54
                have c54b1 : decide (0 ≤ (ji53)) = true := decide_eq_true c54
                clear c54
                by_cases c55 : (ji53) ≤ (t241.length : Int)
                ·
                 rw [if_pos c55] at H
                 have c55b0 := eq_true c55
                 have c55b1 : decide ((ji53) ≤ (t241.length : Int)) = true := decide_eq_true c55
                 clear c55
                 obtain ⟨y252, hy252⟩ : ∃ y_ : List Int, y_ = (y251.drop ((ji53) : Int).toNat) := ⟨_, rfl⟩
                 replace H : ((some (cpy y251 (((ji53) : Int).toNat) l0_10 : List Int)).bind fun y256 => (if 10 ≤ (t241.length : Int) then (if 12 ≤ (ji53) then ((ip4_Sum.f kj40 (([(y256.take 10), ((y256.take ((ji53) : Int).toNat).drop 12)] : List (List Int)))).bind fun t269 => ((ip4_putWord.f y256 10 t269).bind fun t270 => (some (t270, 0)))) else (none)) else (none))) = some (r1, r2) := by first | (rw [hy252]; with_reducible exact H) | (have H2_ := (Option.bind_some _ _).symm.trans H; rw [hy252]; with_reducible exact H2_) | (have H2_ := (Option.bind_some _ _).symm.trans H; with_reducible exact H2_) | with_reducible exact H | (rw [hy252]; exact H) | exact H
                 have Ny252 := zam hy252
                 clear hy252
                 obtain ⟨y256, hy256⟩ : ∃ y_ : List Int, y_ = (cpy y251 (((ji53) : Int).toNat) l0_10) := ⟨_, rfl⟩
                 replace H : (if 10 ≤ (t241.length : Int) then (if 12 ≤ (ji53) then ((ip4_Sum.f kj40 (([(y256.take 10), ((y256.take ((ji53) : Int).toNat).drop 12)] : List (List Int)))).bind fun t269 => ((ip4_putWord.f y256 10 t269).bind fun t270 => (some (t270, 0)))) else (none)) else (none)) = some (r1, r2) := by first | (rw [hy256]; with_reducible exact H) | (have H2_ := (Option.bind_some _ _).symm.trans H; rw [hy256]; with_reducible exact H2_) | (have H2_ := (Option.bind_some _ _).symm.trans H; with_reducible exact H2_) | with_reducible exact H | (rw [hy256]; exact H) | exact H
                 have Ny256 := zam hy256
                 clear hy256
                 by_cases c56 : 10 ≤ (t241.length : Int)
                 ·
                  rw [if_pos c56] at H
                  have c56b0 := eq_true c56
                  have c56b1 : decide (10 ≤ (t241.length : Int)) = true := decide_eq_true c56
                  clear c56
                  obtain ⟨y257, hy257⟩ : ∃ y_ : List Int, y_ = (y256.take 10) := ⟨_, rfl⟩
                  replace H : (if 12 ≤ (ji53) then ((ip4_Sum.f kj40 (([y257, ((y256.take ((ji53) : Int).toNat).drop 12)] : List (List Int)))).bind fun t269 => ((ip4_putWord.f y256 10 t269).bind fun t270 => (some (t270, 0)))) else (none)) = some (r1, r2) := by first | (rw [hy257]; with_reducible exact H) | (have H2_ := (Option.bind_some _ _).symm.trans H; rw [hy257]; with_reducible exact H2_) | (have H2_ := (Option.bind_some _ _).symm.trans H; with_reducible exact H2_) | with_reducible exact H | (rw [hy257]; exact H) | exact H
                  have Ny257 := zam hy257
                  clear hy257
                  by_cases c57 : 12 ≤ (ji53)
                  ·
                   rw [if_pos c57] at H
                   have c57b0 := eq_true c57
                   have c57b1 : decide (12 ≤ (ji53)) = true := decide_eq_true c57
                   clear c57
                   have c58b0 := eq_true (zod zqxb6_8 : (ji53) ≤ (t241.length : Int))
                   obtain ⟨y261, hy261⟩ : ∃ y_ : List Int, y_ = ((y256.take ((ji53) : Int).toNat).drop 12) := ⟨_, rfl⟩
                   replace H : ((ip4_Sum.f kj40 (([y257, y261] : List (List Int)))).bind fun t269 => ((ip4_putWord.f y256 10 t269).bind fun t270 => (some (t270, 0)))) = some (r1, r2) := by first | (rw [hy261]; with_reducible exact H) | (have H2_ := (Option.bind_some _ _).symm.trans H; rw [hy261]; with_reducible exact H2_) | (have H2_ := (Option.bind_some _ _).symm.trans H; with_reducible exact H2_) | with_reducible exact H | (rw [hy261]; exact H) | exact H
                   have Ny261 := zam hy261
                   clear hy261
                   obtain ⟨y265, hy265⟩ : ∃ y_ : List (List Int), y_ = (([y257, y261] : List (List Int))) := ⟨_, rfl⟩
                   replace H : ((ip4_Sum.f kj40 y265).bind fun t269 => ((ip4_putWord.f y256 10 t269).bind fun t270 => (some (t270, 0)))) = some (r1, r2) := by first | (rw [hy265]; with_reducible exact H) | (have H2_ := (Option.bind_some _ _).symm.trans H; rw [hy265]; with_reducible exact H2_) | (have H2_ := (Option.bind_some _ _).symm.trans H; with_reducible exact H2_) | with_reducible exact H | (rw [hy265]; exact H) | exact H
                   have Ny265 := zam hy265
                   clear hy265
                   replace H := Option.bind_eq_some_iff.mp H
                   obtain ⟨t269, A590, H⟩ := H
                   replace H : ((ip4_putWord.f y256 10 t269).bind fun t270 => (some (t270, 0))) = some (r1, r2) := H
                   have A59 := zam A590
                   clear A590
                   replace H := Option.bind_eq_some_iff.mp H
                   obtain ⟨t270, A600, H⟩ := H
                   replace H : (some (t270, 0)) = some (r1, r2) := H
                   have A60 := zam A600
                   clear A600
                   simp only [Option.some.injEq, Prod.mk.injEq] at H
                   obtain ⟨rfl, rfl⟩ := H
                   try go_wp2_with (first | ((with_reducible refine gate_callee (f := 48) rfl ?_); refine goesL_ (some 74) rfl rfl Try.func48 (by kernel_rfl) rfl #[.slice (some ⟨go17, 0, none⟩) t241.length co17, .int .i64 6, .int .u16 x7_40] rfl zqxb6_4 ?_; (with_reducible refine (ip4_putWord.calls (fun k_ => some k_ = (.slice (some ⟨go17, 0, none⟩) t241.length co17 : Value).ownBlock) (.slice (some ⟨go17, 0, none⟩) t241.length co17) t241 6 x7_40 t242 w _ ?side1 ?side2 A45.out).mono ?_); (case side1 => repeat (first | (with_reducible first | exact HB.out | apply below_alloc | apply pw_below_drewN | apply below_drew1 | refine below_set ?_ GE231.out | refine below_set ?_ GE232.out) | exact HB.out)); (case side2 => (with_reducible repeat (first | apply Kd.R_alloc | apply Kd.R_drewN | apply Kd.R_drew)); exact Kd.R_tight rfl HO_6.out); rintro e w61 ⟨rfl, hy0, hb, hkp⟩; refine ⟨_, rfl, ?_⟩; have n0_ := zam (Kd.R_reok rfl hy0 (fun k_ e_ => HO_6.out.1 k_ e_)); have n1_ := zam (blk_kept zqxb6_0 hkp (fun hs_ => (fun e_ => (Kd.R_ne HO_6.out BK231.out (by decide)) e_) hs_)); have n2_ := zam (blk_kept zqxb6_1 hkp (fun hs_ => (fun e_ => (Kd.R_ne HO_6.out BK232.out (by decide)) e_) hs_)); have n3_ := zam (hb); clear HO_6; clear BK231; clear BK232; clear HB; have HO_6 := n0_; have BK231 := n1_; have BK232 := n2_; have HB := n3_; clear n0_ n1_ n2_ n3_; (try clear hb); (try clear hkp); (try clear hy0)))
                   have n0_ := zam (Kd.R_drew HO_6.out)
                   have n1_ := zam (zdr BK231.out)
                   have n2_ := zam (zdr BK232.out)
                   have n3_ := zam (below_drew1 HB.out)
                   clear HO_6
                   clear BK231
                   clear BK232
                   clear HB
                   have HO_6 := n0_
                   have BK231 := n1_
                   have BK232 := n2_
                   have HB := n3_
                   clear n0_ n1_ n2_ n3_
                   have p47 : 0 ≤ (8 : Int) := (by omega)
                   have q47 : (8 : Int) < ((t241.length : Int) : Int) := zod zqxb6_8
                   have qi47 : (8 < t241.length) = True := eq_true (by omega)
                   obtain ⟨hx47_0, hf47_0⟩ := Kd.R_celln 0 HO_6.out (8 : Int) p47 q47
                   (try rw [show ((8 : Int)).toNat = 8 from rfl] at hx47_0)
                   (try simp only [Nat.reduceMul, Nat.zero_mul, Nat.zero_add, Nat.reduceAdd] at hx47_0)
                   (try rw [show ((8 : Int)).toNat = 8 from rfl] at hf47_0)
                   (try simp only [Nat.reduceMul, Nat.zero_mul, Nat.zero_add, Nat.reduceAdd] at hf47_0)
                   replace p47 := eq_true p47
                   replace q47 := eq_true q47
                   have HP63 := Kd.R_putn HO_6.out (8 : Int) a0_5
                   rw [← Ny243.out] at HP63
                   have HQ63 := zam HP63
                   clear HP63
                   have p49 : 0 ≤ (9 : Int) := (by omega)
                   have q49 : (9 : Int) < ((t241.length : Int) : Int) := zod zqxb6_8
                   have qi49 : (9 < t241.length) = True := eq_true (by omega)
                   obtain ⟨hx49_0, hf49_0⟩ := Kd.R_celln 0 HQ63.out (9 : Int) p49 q49
                   obtain ⟨hx64_0, hf64_0⟩ := Kd.R_celln 0 HO_6.out (9 : Int) p49 q49
                   (try rw [show ((9 : Int)).toNat = 9 from rfl] at hx64_0)
                   (try simp only [Nat.reduceMul, Nat.zero_mul, Nat.zero_add, Nat.reduceAdd] at hx64_0)
                   (try rw [show ((9 : Int)).toNat = 9 from rfl] at hf64_0)
                   (try simp only [Nat.reduceMul, Nat.zero_mul, Nat.zero_add, Nat.reduceAdd] at hf64_0)
                   (try rw [show ((9 : Int)).toNat = 9 from rfl] at hx49_0)
                   (try simp only [Nat.reduceMul, Nat.zero_mul, Nat.zero_add, Nat.reduceAdd] at hx49_0)
                   (try rw [show ((9 : Int)).toNat = 9 from rfl] at hf49_0)
                   (try simp only [Nat.reduceMul, Nat.zero_mul, Nat.zero_add, Nat.reduceAdd] at hf49_0)
                   replace p49 := eq_true p49
                   replace q49 := eq_true q49
                   have HP65 := Kd.R_putn HQ63.out (9 : Int) a0_6
                   rw [← Ny244.out] at HP65
                   have HQ65 := zam HP65
                   clear HP65
                   refine start_ (n := 10) (S := fun w' => w'.cell? ⟨gb232, 0, none⟩ = some (.int .u8 a0_0) ∧ w'.cell? ⟨gb232, 1, none⟩ = some (.int .u16 a0_1) ∧ w'.cell? ⟨gb232, 2, none⟩ = some (.bool a0_2) ∧ w'.cell? ⟨gb232, 3, none⟩ = some (.bool a0_3) ∧ w'.cell? ⟨gb232, 4, none⟩ = some (.int .i64 a0_4) ∧ w'.cell? ⟨gb232, 5, none⟩ = some (.int .u8 a0_5) ∧ w'.cell? ⟨gb232, 6, none⟩ = some (.int .u8 a0_6) ∧ w'.cell? ⟨gb232, 7, none⟩ = some (.int .u32 a0_7) ∧ w'.cell? ⟨gb232, 8, none⟩ = some (.int .u32 a0_8) ∧ w'.cell? ⟨gb232, 9, none⟩ = some (.slice A0_9 l0_9.length c0_9)) (ds := []) #[false, false, false, false, false, false, false, false, false, false] (by kernel_rfl) rfl rfl ⟨(zbc BK232.out 0).trans rfl, (zbc BK232.out 1).trans rfl, (zbc BK232.out 2).trans rfl, (zbc BK232.out 3).trans rfl, (zbc BK232.out 4).trans rfl, (zbc BK232.out 5).trans rfl, (zbc BK232.out 6).trans rfl, (zbc BK232.out 7).trans rfl, (zbc BK232.out 8).trans rfl, (zbc BK232.out 9).trans rfl⟩ (fun hHeld => ?_); refine with_tabW ip4_Build.tab19 ip4_Build.bits19 (fun HT_ HW_ => ?_)
                   generalize w61.drew = w62 at HO_6 BK231 BK232 HB HQ63 HQ65 hf47_0 hf49_0 hf64_0 hx47_0 hx49_0 hx64_0 hHeld ⊢
                   refine pure_ (i := 0) (N := some 75) (v := ?_) (a' := ?_) #[true, false, false, false, false, false, false, false, false, false] rfl rfl (any_of HT_.out (by kernel_rfl)) (fun _ _ _ h => h) (Or.inl ⟨by rfl, ?_⟩) ?_ ?_
                   rotate_left
                   ·
                    intro w'
                    go_simp
                    with_reducible rfl
                   rotate_left
                   ·
                    simp only [Act.put, List.setIfInBounds_toArray, List.set_cons_zero, List.set_cons_succ, i64_w, i32_w, IntKind.wrap_u8, IntKind.wrap_u32]
                    rfl
                   refine pure_ (i := 1) (N := some 76) (v := ?_) (a' := ?_) #[true, true, false, false, false, false, false, false, false, false] rfl rfl (any_of HT_.out (by kernel_rfl)) (fun _ _ _ h => h) (Or.inl ⟨by rfl, ?_⟩) ?_ ?_
                   rotate_left
                   ·
                    intro w'
                    go_simp
                    with_reducible rfl
                   rotate_left
                   ·
                    simp only [Act.put, List.setIfInBounds_toArray, List.set_cons_zero, List.set_cons_succ, i64_w, i32_w, IntKind.wrap_u8, IntKind.wrap_u32]
                    rfl
                   refine pure_ (i := 2) (N := some 77) (v := ?_) (a' := ?_) #[true, true, true, false, false, false, false, false, false, false] rfl rfl (any_of HT_.out (by kernel_rfl)) (fun _ _ _ h => h) (Or.inl ⟨by rfl, ?_⟩) ?_ ?_
                   rotate_left
                   ·
                    intro w'
                    go_simp
                    with_reducible rfl
                   rotate_left
                   ·
                    simp only [Act.put, List.setIfInBounds_toArray, List.set_cons_zero, List.set_cons_succ, i64_w, i32_w, IntKind.wrap_u8, IntKind.wrap_u32]
                    rfl
                   refine pure_ (i := 4) (N := some 79) (v := ?_) (a' := ?_) #[true, true, true, false, true, false, false, false, false, false] rfl rfl (any_of HT_.out (by kernel_rfl)) (fun _ _ _ h => h) (Or.inl ⟨by rfl, ?_⟩) ?_ ?_
                   rotate_left
                   ·
                    intro w'
                    go_simp
                    with_reducible rfl
                   rotate_left
                   ·
                    simp only [Act.put, List.setIfInBounds_toArray, List.set_cons_zero, List.set_cons_succ, i64_w, i32_w, IntKind.wrap_u8, IntKind.wrap_u32]
                    rfl
                   refine take_ (i := 3) (N := some 78) (v := ?_) (a' := ?_) #[true, true, true, true, true, false, false, false, false, false] rfl rfl (take_ofW HT_.out HW_.out (by kernel_rfl)) (fun _ _ _ h => h) (Or.inl ⟨by rfl, ?_⟩) hHeld ?_ ?_
                   rotate_left
                   ·
                    rintro w' ⟨s0, s1, s2, s3, s4, s5, s6, s7, s8, s9⟩
                    go_simp
                    with_reducible rfl
                   rotate_left
                   ·
                    simp only [Act.put, List.setIfInBounds_toArray, List.set_cons_zero, List.set_cons_succ, i64_w, i32_w, IntKind.wrap_u8, IntKind.wrap_u32]
                    rfl
                   refine pure_ (i := 6) (N := some 81) (v := ?_) (a' := ?_) #[true, true, true, true, true, false, true, false, false, false] rfl rfl (any_of HT_.out (by kernel_rfl)) (fun _ _ _ h => h) (Or.inl ⟨by rfl, ?_⟩) ?_ ?_
                   rotate_left
                   ·
                    intro w'
                    go_simp
                    with_reducible rfl
                   rotate_left
                   ·
                    simp only [Act.put, List.setIfInBounds_toArray, List.set_cons_zero, List.set_cons_succ, i64_w, i32_w, IntKind.wrap_u8, IntKind.wrap_u32]
                    rfl
                   refine take_ (i := 5) (N := some 80) (v := ?_) (a' := ?_) #[true, true, true, true, true, true, true, false, false, false] rfl rfl (take_ofW HT_.out HW_.out (by kernel_rfl)) (fun _ _ _ h => h) (Or.inl ⟨by rfl, ?_⟩) hHeld ?_ ?_
                   rotate_left
                   ·
                    rintro w' ⟨s0, s1, s2, s3, s4, s5, s6, s7, s8, s9⟩
                    go_simp
                    with_reducible rfl
                   rotate_left
                   ·
                    simp only [Act.put, List.setIfInBounds_toArray, List.set_cons_zero, List.set_cons_succ, i64_w, i32_w, IntKind.wrap_u8, IntKind.wrap_u32]
                    rfl
                   refine one_ (i := 7) (N := none) #[true, true, true, true, true, true, true, true, false, false] rfl rfl (one_of HT_.out (by kernel_rfl)) (by decide) (fun K hK => ?_)
                   refine skip_ (w1 := ?_) (by rfl) rfl ?_ ?_
                   rotate_left
                   ·
                    go_simp
                    rfl
                   refine hK.out _ _ ⟨(cell_far (p := ⟨go17, _, none⟩) (show gb232 ≠ go17 from zqxb6_5) _).trans (hHeld.1), (cell_far (p := ⟨go17, _, none⟩) (show gb232 ≠ go17 from zqxb6_5) _).trans (hHeld.2.1), (cell_far (p := ⟨go17, _, none⟩) (show gb232 ≠ go17 from zqxb6_5) _).trans (hHeld.2.2.1), (cell_far (p := ⟨go17, _, none⟩) (show gb232 ≠ go17 from zqxb6_5) _).trans (hHeld.2.2.2.1), (cell_far (p := ⟨go17, _, none⟩) (show gb232 ≠ go17 from zqxb6_5) _).trans (hHeld.2.2.2.2.1), (cell_far (p := ⟨go17, _, none⟩) (show gb232 ≠ go17 from zqxb6_5) _).trans (hHeld.2.2.2.2.2.1), (cell_far (p := ⟨go17, _, none⟩) (show gb232 ≠ go17 from zqxb6_5) _).trans (hHeld.2.2.2.2.2.2.1), (cell_far (p := ⟨go17, _, none⟩) (show gb232 ≠ go17 from zqxb6_5) _).trans (hHeld.2.2.2.2.2.2.2.1), (cell_far (p := ⟨go17, _, none⟩) (show gb232 ≠ go17 from zqxb6_5) _).trans (hHeld.2.2.2.2.2.2.2.2.1), (cell_far (p := ⟨go17, _, none⟩) (show gb232 ≠ go17 from zqxb6_5) _).trans (hHeld.2.2.2.2.2.2.2.2.2)⟩ (fun hHeld => ?_)
                   clear hK K
                   refine pure_ (i := 8) (N := some 82) (v := ?_) (a' := ?_) #[true, true, true, true, true, true, true, true, true, false] rfl rfl (any_of HT_.out (by kernel_rfl)) (fun _ _ _ h => h) (Or.inl ⟨by rfl, ?_⟩) ?_ ?_
                   rotate_left
                   ·
                    intro w'
                    go_simp
                    with_reducible rfl
                   rotate_left
                   ·
                    simp only [Act.put, List.setIfInBounds_toArray, List.set_cons_zero, List.set_cons_succ, i64_w, i32_w, IntKind.wrap_u8, IntKind.wrap_u32]
                    rfl
                   refine one_ (i := 9) (N := none) #[true, true, true, true, true, true, true, true, true, true] rfl rfl (one_of HT_.out (by kernel_rfl)) (by decide) (fun K hK => ?_)
                   refine skip_ (w1 := ?_) (by rfl) rfl ?_ ?_
                   rotate_left
                   ·
                    go_simp
                    rfl
                   refine hK.out _ _ ⟨(cell_far (p := ⟨go17, _, none⟩) (show gb232 ≠ go17 from zqxb6_5) _).trans (hHeld.1), (cell_far (p := ⟨go17, _, none⟩) (show gb232 ≠ go17 from zqxb6_5) _).trans (hHeld.2.1), (cell_far (p := ⟨go17, _, none⟩) (show gb232 ≠ go17 from zqxb6_5) _).trans (hHeld.2.2.1), (cell_far (p := ⟨go17, _, none⟩) (show gb232 ≠ go17 from zqxb6_5) _).trans (hHeld.2.2.2.1), (cell_far (p := ⟨go17, _, none⟩) (show gb232 ≠ go17 from zqxb6_5) _).trans (hHeld.2.2.2.2.1), (cell_far (p := ⟨go17, _, none⟩) (show gb232 ≠ go17 from zqxb6_5) _).trans (hHeld.2.2.2.2.2.1), (cell_far (p := ⟨go17, _, none⟩) (show gb232 ≠ go17 from zqxb6_5) _).trans (hHeld.2.2.2.2.2.2.1), (cell_far (p := ⟨go17, _, none⟩) (show gb232 ≠ go17 from zqxb6_5) _).trans (hHeld.2.2.2.2.2.2.2.1), (cell_far (p := ⟨go17, _, none⟩) (show gb232 ≠ go17 from zqxb6_5) _).trans (hHeld.2.2.2.2.2.2.2.2.1), (cell_far (p := ⟨go17, _, none⟩) (show gb232 ≠ go17 from zqxb6_5) _).trans (hHeld.2.2.2.2.2.2.2.2.2)⟩ (fun hHeld => ?_)
                   clear hK K
                   refine done_ (done_of HT_.out (by kernel_rfl)) ?_
                   have n0_ : Aside0 (Kd.R (Kd.int .u8) 5 ((w62.setCell ⟨go17, 8, none⟩ (.int .u8 a0_5)).setCell ⟨go17, 9, none⟩ (.int .u8 a0_6)) w.heap.size (fun _ => True) (.slice (some ⟨go17, 0, none⟩) t241.length co17) y244) := ⟨by (with_reducible repeat (first | apply Kd.R_alloc | apply Kd.R_drewN | apply Kd.R_drew)); exact HQ65.out⟩
                   have n1_ : Aside0 (((w62.setCell ⟨go17, 8, none⟩ (.int .u8 a0_5)).setCell ⟨go17, 9, none⟩ (.int .u8 a0_6)).heap[gb231]? = some (.cells #[.int .u8 a0_0, .int .u16 a0_1, .bool a0_2, .bool a0_3, .int .i64 a0_4, .int .u8 a0_5, .int .u8 a0_6, .int .u32 a0_7, .int .u32 a0_8, .slice A0_9 l0_9.length c0_9, .slice A0_10 l0_10.length c0_10] 43 (0, 0))) := ⟨by (with_reducible repeat (first | refine zdn ?_ _ | refine zdr ?_ | refine blk_alloc ?_ _)); refine blk_far ?_ zqxb6_14 _; (with_reducible repeat (first | refine zdn ?_ _ | refine zdr ?_ | refine blk_alloc ?_ _)); refine blk_far ?_ zqxb6_14 _; first | (with_reducible exact BK231.out) | (with_reducible exact zdn BK231.out _) | (with_reducible exact zdr BK231.out) | ((with_reducible repeat (first | refine zdn ?_ _ | refine zdr ?_ | refine blk_alloc ?_ _)); exact BK231.out)⟩
                   have n2_ : Aside0 (((w62.setCell ⟨go17, 8, none⟩ (.int .u8 a0_5)).setCell ⟨go17, 9, none⟩ (.int .u8 a0_6)).heap[gb232]? = some (.cells #[.int .u8 a0_0, .int .u16 a0_1, .bool a0_2, .bool a0_3, .int .i64 a0_4, .int .u8 a0_5, .int .u8 a0_6, .int .u32 a0_7, .int .u32 a0_8, .slice A0_9 l0_9.length c0_9] 41 (0, 0))) := ⟨by (with_reducible repeat (first | refine zdn ?_ _ | refine zdr ?_ | refine blk_alloc ?_ _)); refine blk_far ?_ zqxb6_5 _; (with_reducible repeat (first | refine zdn ?_ _ | refine zdr ?_ | refine blk_alloc ?_ _)); refine blk_far ?_ zqxb6_5 _; first | (with_reducible exact BK232.out) | (with_reducible exact zdn BK232.out _) | (with_reducible exact zdr BK232.out) | ((with_reducible repeat (first | refine zdn ?_ _ | refine zdr ?_ | refine blk_alloc ?_ _)); exact BK232.out)⟩
                   have n3_ : Aside0 (Below w.heap.size w ((w62.setCell ⟨go17, 8, none⟩ (.int .u8 a0_5)).setCell ⟨go17, 9, none⟩ (.int .u8 a0_6))) := ⟨by repeat (first | (with_reducible first | exact HB.out | apply below_alloc | apply pw_below_drewN | apply below_drew1 | refine below_set ?_ GB17.out | refine below_set ?_ GB17.out | refine below_set ?_ GE231.out | refine below_set ?_ GE232.out) | exact HB.out)⟩
                   (try clear HO_6)
                   (try clear BK231)
                   (try clear BK232)
                   (try clear HB)
                   generalize ((w62.setCell ⟨go17, 8, none⟩ (.int .u8 a0_5)).setCell ⟨go17, 9, none⟩ (.int .u8 a0_6)) = w66 at n0_ n1_ n2_ n3_ ⊢
                   have HO_6 := n0_
                   have BK231 := n1_
                   have BK232 := n2_
                   have HB := n3_
                   clear n0_ n1_ n2_ n3_
                   have hnb67 := NB232_231.out
                   have hnc67 := NB231_232.out
                   have hcz68_0 : w66.cell? ⟨gb232, 0, none⟩ = some (.int .u8 a0_0) := (zbc BK232.out 0).trans rfl
                   have hcz68_1 : w66.cell? ⟨gb232, 1, none⟩ = some (.int .u16 a0_1) := (zbc BK232.out 1).trans rfl
                   have hcz68_2 : w66.cell? ⟨gb232, 2, none⟩ = some (.bool a0_2) := (zbc BK232.out 2).trans rfl
                   have hcz68_3 : w66.cell? ⟨gb232, 3, none⟩ = some (.bool a0_3) := (zbc BK232.out 3).trans rfl
                   have hcz68_4 : w66.cell? ⟨gb232, 4, none⟩ = some (.int .i64 a0_4) := (zbc BK232.out 4).trans rfl
                   have hcz68_5 : w66.cell? ⟨gb232, 5, none⟩ = some (.int .u8 a0_5) := (zbc BK232.out 5).trans rfl
                   have hcz68_6 : w66.cell? ⟨gb232, 6, none⟩ = some (.int .u8 a0_6) := (zbc BK232.out 6).trans rfl
                   have hcz68_7 : w66.cell? ⟨gb232, 7, none⟩ = some (.int .u32 a0_7) := (zbc BK232.out 7).trans rfl
                   have hcz68_8 : w66.cell? ⟨gb232, 8, none⟩ = some (.int .u32 a0_8) := (zbc BK232.out 8).trans rfl
                   have hcz68_9 : w66.cell? ⟨gb232, 9, none⟩ = some (.slice A0_9 l0_9.length c0_9) := (zbc BK232.out 9).trans rfl
                   have hfz68_0 := zbf BK232.out 0
                   have hfz68_1 := zbf BK232.out 1
                   have hfz68_2 := zbf BK232.out 2
                   have hfz68_3 := zbf BK232.out 3
                   have hfz68_4 := zbf BK232.out 4
                   have hfz68_5 := zbf BK232.out 5
                   have hfz68_6 := zbf BK232.out 6
                   have hfz68_7 := zbf BK232.out 7
                   have hfz68_8 := zbf BK232.out 8
                   have hfz68_9 := zbf BK232.out 9
                   try go_wp2_with (first | ((with_reducible refine gate_callee (f := 49) rfl ?_); refine goesL_ (some 86) rfl rfl Try.func49 (by kernel_rfl) rfl #[.slice (some ⟨go17, 0, none⟩) t241.length co17, .int .i64 12, .int .u32 a0_7] rfl zqxb6_4 ?_; (with_reducible refine (ip4_putLong.calls (fun k_ => some k_ = (.slice (some ⟨go17, 0, none⟩) t241.length co17 : Value).ownBlock) (.slice (some ⟨go17, 0, none⟩) t241.length co17) y244 12 a0_7 t245 w _ ?side1 ?side2 A50.out).mono ?_); (case side1 => repeat (first | (with_reducible first | exact HB.out | apply below_alloc | apply pw_below_drewN | apply below_drew1 | refine below_set ?_ GE231.out | refine below_set ?_ GE232.out) | exact HB.out)); (case side2 => (with_reducible repeat (first | apply Kd.R_alloc | apply Kd.R_drewN | apply Kd.R_drew)); exact Kd.R_tight rfl HO_6.out); rintro e w69 ⟨rfl, hy0, hb, hkp⟩; refine ⟨_, rfl, ?_⟩; have n0_ := zam (Kd.R_reok rfl hy0 (fun k_ e_ => HO_6.out.1 k_ e_)); have n1_ := zam (blk_kept zqxb6_0 hkp (fun hs_ => (fun e_ => (Kd.R_ne HO_6.out BK231.out (by decide)) e_) hs_)); have n2_ := zam (blk_kept zqxb6_1 hkp (fun hs_ => (fun e_ => (Kd.R_ne HO_6.out BK232.out (by decide)) e_) hs_)); have n3_ := zam (hb); clear HO_6; clear BK231; clear BK232; clear HB; have HO_6 := n0_; have BK231 := n1_; have BK232 := n2_; have HB := n3_; clear n0_ n1_ n2_ n3_; (try clear hb); (try clear hkp); (try clear hy0); have hcz70_0 : w69.cell? ⟨gb232, 0, none⟩ = some (.int .u8 a0_0) := (zbc BK232.out 0).trans rfl; have hcz70_1 : w69.cell? ⟨gb232, 1, none⟩ = some (.int .u16 a0_1) := (zbc BK232.out 1).trans rfl; have hcz70_2 : w69.cell? ⟨gb232, 2, none⟩ = some (.bool a0_2) := (zbc BK232.out 2).trans rfl; have hcz70_3 : w69.cell? ⟨gb232, 3, none⟩ = some (.bool a0_3) := (zbc BK232.out 3).trans rfl; have hcz70_4 : w69.cell? ⟨gb232, 4, none⟩ = some (.int .i64 a0_4) := (zbc BK232.out 4).trans rfl; have hcz70_5 : w69.cell? ⟨gb232, 5, none⟩ = some (.int .u8 a0_5) := (zbc BK232.out 5).trans rfl; have hcz70_6 : w69.cell? ⟨gb232, 6, none⟩ = some (.int .u8 a0_6) := (zbc BK232.out 6).trans rfl; have hcz70_7 : w69.cell? ⟨gb232, 7, none⟩ = some (.int .u32 a0_7) := (zbc BK232.out 7).trans rfl; have hcz70_8 : w69.cell? ⟨gb232, 8, none⟩ = some (.int .u32 a0_8) := (zbc BK232.out 8).trans rfl; have hcz70_9 : w69.cell? ⟨gb232, 9, none⟩ = some (.slice A0_9 l0_9.length c0_9) := (zbc BK232.out 9).trans rfl; have hfz70_0 := zbf BK232.out 0; have hfz70_1 := zbf BK232.out 1; have hfz70_2 := zbf BK232.out 2; have hfz70_3 := zbf BK232.out 3; have hfz70_4 := zbf BK232.out 4; have hfz70_5 := zbf BK232.out 5; have hfz70_6 := zbf BK232.out 6; have hfz70_7 := zbf BK232.out 7; have hfz70_8 := zbf BK232.out 8; have hfz70_9 := zbf BK232.out 9) | ((with_reducible refine gate_callee (f := 49) rfl ?_); refine goesL_ (some 90) rfl rfl Try.func49 (by kernel_rfl) rfl #[.slice (some ⟨go17, 0, none⟩) t241.length co17, .int .i64 16, .int .u32 a0_8] rfl zqxb6_4 ?_; (with_reducible refine (ip4_putLong.calls (fun k_ => some k_ = (.slice (some ⟨go17, 0, none⟩) t241.length co17 : Value).ownBlock) (.slice (some ⟨go17, 0, none⟩) t241.length co17) t245 16 a0_8 t246 w _ ?side1 ?side2 A51.out).mono ?_); (case side1 => repeat (first | (with_reducible first | exact HB.out | apply below_alloc | apply pw_below_drewN | apply below_drew1 | refine below_set ?_ GE231.out | refine below_set ?_ GE232.out) | exact HB.out)); (case side2 => (with_reducible repeat (first | apply Kd.R_alloc | apply Kd.R_drewN | apply Kd.R_drew)); exact Kd.R_tight rfl HO_6.out); rintro e w71 ⟨rfl, hy0, hb, hkp⟩; refine ⟨_, rfl, ?_⟩; have n0_ := zam (Kd.R_reok rfl hy0 (fun k_ e_ => HO_6.out.1 k_ e_)); have n1_ := zam (blk_kept zqxb6_0 hkp (fun hs_ => (fun e_ => (Kd.R_ne HO_6.out BK231.out (by decide)) e_) hs_)); have n2_ := zam (blk_kept zqxb6_1 hkp (fun hs_ => (fun e_ => (Kd.R_ne HO_6.out BK232.out (by decide)) e_) hs_)); have n3_ := zam (hb); clear HO_6; clear BK231; clear BK232; clear HB; have HO_6 := n0_; have BK231 := n1_; have BK232 := n2_; have HB := n3_; clear n0_ n1_ n2_ n3_; (try clear hb); (try clear hkp); (try clear hy0)))
                   have n0_ := zam (Kd.R_drew HO_6.out)
                   have n1_ := zam (zdr BK231.out)
                   have n2_ := zam (zdr BK232.out)
                   have n3_ := zam (below_drew1 HB.out)
                   clear HO_6
                   clear BK231
                   clear BK232
                   clear HB
                   have HO_6 := n0_
                   have BK231 := n1_
                   have BK232 := n2_
                   have HB := n3_
                   clear n0_ n1_ n2_ n3_
                   have hlx73 := (Kd.R_reads' HO_6.out).1
                   have q73 : (20 : Int) ≤ ((t241.length : Int) : Int) := zod zqxb6_8
                   obtain ⟨i073, hi073, _, hsz73, _⟩ := info_parts info5
                   have hroom73 : t241.length ≤ co17 := (Kd.R_reads' HO_6.out).2.1
                   have hroomc73 : t246.length ≤ co17 := (by rw [← hlx73]; exact hroom73)
                   have hC73 : Kd.C (Kd.int .u8) _ (some ⟨go17, 0, none⟩) t246.length t246 := (Kd.R_reads' HO_6.out).2.2
                   have hcut73 := cut_from (P := Try.prog) 24 5 .i64 Try.underlying24 hi073 1 hsz73 (some ⟨go17, 0, none⟩) t241.length co17 20 (by omega) q73
                   have hr73 := Kd.C_drop (m := (20 : Int).toNat) (c := co17) hC73 (by omega) hroomc73
                   obtain ⟨A73, hA73⟩ : ∃ A1, A1 = (if co17 = (20 : Int).toNat then (some ⟨go17, 0, none⟩) else ((some ⟨go17, 0, none⟩) : Option Addr).map (·.add ((20 : Int).toNat * 1))) := ⟨_, rfl⟩
                   obtain ⟨c73, hc73⟩ : ∃ c1, c1 = co17 - (20 : Int).toNat := ⟨_, rfl⟩
                   have hy73 : y247.length = t241.length - (20 : Int).toNat := (by rw [Ny247.out, List.length_drop] <;> omega)
                   rw [show (t246).drop (20 : Int).toNat = y247 from Ny247.out.symm] at hr73
                   replace hr73 : Kd.C (Kd.int .u8) _ A73 y247.length y247 := (by rw [hA73]; exact hr73)
                   rw [← hy73, ← hA73, ← hc73] at hcut73
                   have HR250 := zam hr73
                   have HC250 := zam (show y247.length ≤ c73 from by rw [hy73, hc73]; exact Nat.sub_le_sub_right hroom73 _)
                   clear hr73 hC73 hroom73 hi073 hsz73 hc73 hroomc73
                   have KY73 := zam hy73
                   have KA73 := zam hA73
                   clear hy73 hA73
                   have KE73 := zam hlx73
                   have KL73 := zam (show 20 ≤ t246.length from by omega)
                   clear hlx73
                   replace q73 := eq_true q73
                   refine start_ (n := 5) (S := fun w' => w'.cell? ⟨gb232, 0, none⟩ = some (.int .u8 a0_0) ∧ w'.cell? ⟨gb232, 1, none⟩ = some (.int .u16 a0_1) ∧ w'.cell? ⟨gb232, 2, none⟩ = some (.bool a0_2) ∧ w'.cell? ⟨gb232, 3, none⟩ = some (.bool a0_3) ∧ w'.cell? ⟨gb232, 4, none⟩ = some (.int .i64 a0_4) ∧ w'.cell? ⟨gb232, 5, none⟩ = some (.int .u8 a0_5) ∧ w'.cell? ⟨gb232, 6, none⟩ = some (.int .u8 a0_6) ∧ w'.cell? ⟨gb232, 7, none⟩ = some (.int .u32 a0_7) ∧ w'.cell? ⟨gb232, 8, none⟩ = some (.int .u32 a0_8) ∧ w'.cell? ⟨gb232, 9, none⟩ = some (.slice A0_9 l0_9.length c0_9)) (ds := []) #[false, false, false, false, false] (by kernel_rfl) rfl rfl ⟨(zbc BK232.out 0).trans rfl, (zbc BK232.out 1).trans rfl, (zbc BK232.out 2).trans rfl, (zbc BK232.out 3).trans rfl, (zbc BK232.out 4).trans rfl, (zbc BK232.out 5).trans rfl, (zbc BK232.out 6).trans rfl, (zbc BK232.out 7).trans rfl, (zbc BK232.out 8).trans rfl, (zbc BK232.out 9).trans rfl⟩ (fun hHeld => ?_)
                   generalize w71.drew = w72 at HO_6 BK231 BK232 HB HR250 hHeld ⊢
                   refine pure_ (i := 0) (N := some 91) (v := ?_) (a' := ?_) #[true, false, false, false, false] rfl rfl (by kernel_rfl) (fun _ _ _ h => h) (Or.inl ⟨by rfl, ?_⟩) ?_ ?_
                   rotate_left
                   ·
                    intro w'
                    go_simp
                    with_reducible rfl
                   rotate_left
                   ·
                    simp only [Act.put, List.setIfInBounds_toArray, List.set_cons_zero, List.set_cons_succ, i64_w, i32_w, IntKind.wrap_u8, IntKind.wrap_u32]
                    rfl
                   refine pure_ (i := 1) (N := some 92) (v := ?_) (a' := ?_) #[true, true, false, false, false] rfl rfl (by kernel_rfl) (fun _ _ _ h => h) (Or.inl ⟨by rfl, ?_⟩) ?_ ?_
                   rotate_left
                   ·
                    intro w'
                    go_simp
                    with_reducible rfl
                   rotate_left
                   ·
                    simp only [Act.put, List.setIfInBounds_toArray, List.set_cons_zero, List.set_cons_succ, i64_w, i32_w, IntKind.wrap_u8, IntKind.wrap_u32]
                    rfl
                   refine pure_ (i := 2) (N := some 93) (v := ?_) (a' := ?_) #[true, true, true, false, false] rfl rfl (by kernel_rfl) (fun _ _ _ h => h) (Or.inl ⟨by rfl, ?_⟩) ?_ ?_
                   rotate_left
                   ·
                    intro w'
                    go_simp
                    with_reducible rfl
                   rotate_left
                   ·
                    simp only [Act.put, List.setIfInBounds_toArray, List.set_cons_zero, List.set_cons_succ, i64_w, i32_w, IntKind.wrap_u8, IntKind.wrap_u32]
                    rfl
                   refine take_ (i := 3) (N := some 94) (v := ?_) (a' := ?_) #[true, true, true, true, false] rfl rfl (by kernel_rfl) (fun _ _ _ h => h) (Or.inl ⟨by rfl, ?_⟩) hHeld ?_ ?_
                   rotate_left
                   ·
                    rintro w' ⟨s0, s1, s2, s3, s4, s5, s6, s7, s8, s9⟩
                    go_simp
                    with_reducible rfl
                   rotate_left
                   ·
                    simp only [Act.put, List.setIfInBounds_toArray, List.set_cons_zero, List.set_cons_succ, i64_w, i32_w, IntKind.wrap_u8, IntKind.wrap_u32]
                    rfl
                   refine one_ (i := 4) (N := some 95) #[true, true, true, true, true] rfl rfl (by kernel_rfl) (by decide) (fun K hK => ?_)
                   refine copy_step (k := .u8) (w0 := w) w.heap.size (by rfl) (.tmp 92) (.tmp 94) 24 5 rfl Try.underlying24 info5 (some ⟨go17, 0, none⟩) t241.length co17 t246 (fun _ => True) 20 _ _ _ _ _ _ l0_9 rfl rfl ?aO ?aL ?aA ?aN ?aR ?aB ?_
                   (case aO => exact zqxb6_9)
                   (case aL => have h1_ := of_eq_true q73; have h2_ := (Kd.R_reads' HO_6.out).1; omega)
                   (case aA => first | exact KA73.out | (have h_ := KA73.out; simp only [Nat.mul_one] at h_; exact h_))
                   (case aN => exact KY73.out)
                   (case aR => repeat (first | exact (Kd.C_below HR0_9.out HB.out) | (with_reducible refine Kd.C_alloc ?_ _) | (with_reducible refine Kd.C_drewN ?_ _) | (with_reducible refine Kd.C_drew ?_)))
                   (case aB => exact zqxb6_6)
                   intro r74_ w75 ho hb hg
                   have hat : (.slice (some ⟨go17, 0, none⟩) t241.length co17 : Value).ownBlock = (.slice (some ⟨go17, 0, none⟩) t241.length co17 : Value).ownBlock ∨ ∃ b_, (.slice (some ⟨go17, 0, none⟩) t241.length co17 : Value).ownBlock = some b_ ∧ w72.heap.size ≤ b_ := .inl rfl
                   (first | rw [← Ny251.out] at ho | (simp only [Int.reduceToNat] at ho; rw [← Ny251.out] at ho))
                   have n0_ := zam (blk_grown (g := gb231) (o := .cells #[.int .u8 a0_0, .int .u16 a0_1, .bool a0_2, .bool a0_3, .int .i64 a0_4, .int .u8 a0_5, .int .u8 a0_6, .int .u32 a0_7, .int .u32 a0_8, .slice A0_9 l0_9.length c0_9, .slice A0_10 l0_10.length c0_10] 43 (0, 0)) zqxb6_0 hg (Kd.R_ne HO_6.out BK231.out (by decide)))
                   have n1_ := zam (blk_grown (g := gb232) (o := .cells #[.int .u8 a0_0, .int .u16 a0_1, .bool a0_2, .bool a0_3, .int .i64 a0_4, .int .u8 a0_5, .int .u8 a0_6, .int .u32 a0_7, .int .u32 a0_8, .slice A0_9 l0_9.length c0_9] 41 (0, 0)) zqxb6_1 hg (Kd.R_ne HO_6.out BK232.out (by decide)))
                   have n2_ := zam (hb)
                   have n3_ := zam (ho)
                   clear BK231
                   clear BK232
                   clear HB
                   clear HO_6
                   have BK231 := n0_
                   have BK232 := n1_
                   have HB := n2_
                   have HO_6 := n3_
                   clear n0_ n1_ n2_ n3_
                   clear ho hb hg hat
                   refine hK.out _ _ ⟨(zbc BK232.out 0).trans rfl, (zbc BK232.out 1).trans rfl, (zbc BK232.out 2).trans rfl, (zbc BK232.out 3).trans rfl, (zbc BK232.out 4).trans rfl, (zbc BK232.out 5).trans rfl, (zbc BK232.out 6).trans rfl, (zbc BK232.out 7).trans rfl, (zbc BK232.out 8).trans rfl, (zbc BK232.out 9).trans rfl⟩ (fun hHeld => ?_)
                   clear hK K
                   refine norm_ (a' := ?_) ?_ ?_
                   rotate_left
                   ·
                    show Act.put _ (some 95) _ = _
                    simp only [Act.put, List.setIfInBounds_toArray, List.set_cons_zero, List.set_cons_succ, i64_w, i32_w, IntKind.wrap_u8, IntKind.wrap_u32]
                    rfl
                   refine done_ (by kernel_rfl) ?_
                   try go_wp2
                   have n0_ := zam (Kd.R_drew HO_6.out)
                   have n1_ := zam (zdr BK231.out)
                   have n2_ := zam (zdr BK232.out)
                   have n3_ := zam (below_drew1 HB.out)
                   clear HO_6
                   clear BK231
                   clear BK232
                   clear HB
                   have HO_6 := n0_
                   have BK231 := n1_
                   have BK232 := n2_
                   have HB := n3_
                   clear n0_ n1_ n2_ n3_
                   have hlx77 := (Kd.R_reads' HO_6.out).1
                   have q77 : ((ji53) : Int) ≤ ((t241.length : Int) : Int) := zod zqxb6_8
                   obtain ⟨i077, hi077, _, hsz77, _⟩ := info_parts info5
                   have hroom77 : t241.length ≤ co17 := (Kd.R_reads' HO_6.out).2.1
                   have hroomc77 : y251.length ≤ co17 := (by rw [← hlx77]; exact hroom77)
                   have hC77 : Kd.C (Kd.int .u8) _ (some ⟨go17, 0, none⟩) y251.length y251 := (Kd.R_reads' HO_6.out).2.2
                   have q077 : (0 : Int) ≤ ((ji53) : Int) := zod zqxb6_8
                   have hcut77 := cut_from (P := Try.prog) 24 5 .i64 Try.underlying24 hi077 1 hsz77 (some ⟨go17, 0, none⟩) t241.length co17 (ji53) q077 q77
                   have hr77 := Kd.C_drop (m := ((ji53) : Int).toNat) (c := co17) hC77 (by omega) hroomc77
                   obtain ⟨A77, hA77⟩ : ∃ A1, A1 = (if co17 = ((ji53) : Int).toNat then (some ⟨go17, 0, none⟩) else ((some ⟨go17, 0, none⟩) : Option Addr).map (·.add (((ji53) : Int).toNat * 1))) := ⟨_, rfl⟩
                   obtain ⟨c77, hc77⟩ : ∃ c1, c1 = co17 - ((ji53) : Int).toNat := ⟨_, rfl⟩
                   have hy77 : y252.length = t241.length - ((ji53) : Int).toNat := (by rw [Ny252.out, List.length_drop] <;> omega)
                   rw [show (y251).drop ((ji53) : Int).toNat = y252 from Ny252.out.symm] at hr77
                   replace hr77 : Kd.C (Kd.int .u8) _ A77 y252.length y252 := (by rw [hA77]; exact hr77)
                   rw [← hy77, ← hA77, ← hc77] at hcut77
                   have HR255 := zam hr77
                   have HC255 := zam (show y252.length ≤ c77 from by rw [hy77, hc77]; exact Nat.sub_le_sub_right hroom77 _)
                   clear hr77 hC77 hroom77 hi077 hsz77 hc77 hroomc77
                   have KY77 := zam hy77
                   have KA77 := zam hA77
                   clear hy77 hA77
                   have KE77 := zam hlx77
                   have KL77 := zam (show ((ji53) : Int).toNat ≤ y251.length from by omega)
                   clear hlx77
                   replace q77 := eq_true q77
                   refine start_ (n := 6) (S := fun w' => w'.cell? ⟨gb231, 0, none⟩ = some (.int .u8 a0_0) ∧ w'.cell? ⟨gb231, 1, none⟩ = some (.int .u16 a0_1) ∧ w'.cell? ⟨gb231, 2, none⟩ = some (.bool a0_2) ∧ w'.cell? ⟨gb231, 3, none⟩ = some (.bool a0_3) ∧ w'.cell? ⟨gb231, 4, none⟩ = some (.int .i64 a0_4) ∧ w'.cell? ⟨gb231, 5, none⟩ = some (.int .u8 a0_5) ∧ w'.cell? ⟨gb231, 6, none⟩ = some (.int .u8 a0_6) ∧ w'.cell? ⟨gb231, 7, none⟩ = some (.int .u32 a0_7) ∧ w'.cell? ⟨gb231, 8, none⟩ = some (.int .u32 a0_8) ∧ w'.cell? ⟨gb231, 9, none⟩ = some (.slice A0_9 l0_9.length c0_9) ∧ w'.cell? ⟨gb231, 10, none⟩ = some (.slice A0_10 l0_10.length c0_10)) (ds := []) #[false, false, false, false, false, false] (by kernel_rfl) rfl rfl ⟨(zbc BK231.out 0).trans rfl, (zbc BK231.out 1).trans rfl, (zbc BK231.out 2).trans rfl, (zbc BK231.out 3).trans rfl, (zbc BK231.out 4).trans rfl, (zbc BK231.out 5).trans rfl, (zbc BK231.out 6).trans rfl, (zbc BK231.out 7).trans rfl, (zbc BK231.out 8).trans rfl, (zbc BK231.out 9).trans rfl, (zbc BK231.out 10).trans rfl⟩ (fun hHeld => ?_)
                   generalize w75.drew = w76 at HO_6 BK231 BK232 HB HR255 hHeld ⊢
                   refine pure_ (i := 0) (N := some 96) (v := ?_) (a' := ?_) #[true, false, false, false, false, false] rfl rfl (by kernel_rfl) (fun _ _ _ h => h) (Or.inl ⟨by rfl, ?_⟩) ?_ ?_
                   rotate_left
                   ·
                    intro w'
                    go_simp
                    with_reducible rfl
                   rotate_left
                   ·
                    simp only [Act.put, List.setIfInBounds_toArray, List.set_cons_zero, List.set_cons_succ, i64_w, i32_w, IntKind.wrap_u8, IntKind.wrap_u32]
                    rfl
                   refine pure_ (i := 1) (N := some 97) (v := ?_) (a' := ?_) #[true, true, false, false, false, false] rfl rfl (by kernel_rfl) (fun _ _ _ h => h) (Or.inl ⟨by rfl, ?_⟩) ?_ ?_
                   rotate_left
                   ·
                    intro w'
                    go_simp
                    with_reducible rfl
                   rotate_left
                   ·
                    simp only [Act.put, List.setIfInBounds_toArray, List.set_cons_zero, List.set_cons_succ, i64_w, i32_w, IntKind.wrap_u8, IntKind.wrap_u32]
                    rfl
                   refine pure_ (i := 2) (N := some 98) (v := ?_) (a' := ?_) #[true, true, true, false, false, false] rfl rfl (by kernel_rfl) (fun _ _ _ h => h) (Or.inl ⟨by rfl, ?_⟩) ?_ ?_
                   rotate_left
                   ·
                    intro w'
                    go_simp
                    with_reducible rfl
                   rotate_left
                   ·
                    simp only [Act.put, List.setIfInBounds_toArray, List.set_cons_zero, List.set_cons_succ, i64_w, i32_w, IntKind.wrap_u8, IntKind.wrap_u32]
                    rfl
                   refine pure_ (i := 3) (N := some 99) (v := ?_) (a' := ?_) #[true, true, true, true, false, false] rfl rfl (by kernel_rfl) (fun _ _ _ h => h) (Or.inl ⟨by rfl, ?_⟩) ?_ ?_
                   rotate_left
                   ·
                    intro w'
                    go_simp
                    with_reducible rfl
                   rotate_left
                   ·
                    simp only [Act.put, List.setIfInBounds_toArray, List.set_cons_zero, List.set_cons_succ, i64_w, i32_w, IntKind.wrap_u8, IntKind.wrap_u32]
                    rfl
                   refine take_ (i := 4) (N := some 100) (v := ?_) (a' := ?_) #[true, true, true, true, true, false] rfl rfl (by kernel_rfl) (fun _ _ _ h => h) (Or.inl ⟨by rfl, ?_⟩) hHeld ?_ ?_
                   rotate_left
                   ·
                    rintro w' ⟨s0, s1, s2, s3, s4, s5, s6, s7, s8, s9, s10⟩
                    go_simp
                    with_reducible rfl
                   rotate_left
                   ·
                    simp only [Act.put, List.setIfInBounds_toArray, List.set_cons_zero, List.set_cons_succ, i64_w, i32_w, IntKind.wrap_u8, IntKind.wrap_u32]
                    rfl
                   refine one_ (i := 5) (N := some 101) #[true, true, true, true, true, true] rfl rfl (by kernel_rfl) (by decide) (fun K hK => ?_)
                   refine copy_step (k := .u8) (w0 := w) w.heap.size (by rfl) (.tmp 98) (.tmp 100) 24 5 rfl Try.underlying24 info5 (some ⟨go17, 0, none⟩) t241.length co17 y251 (fun _ => True) (((ji53) : Int).toNat) _ _ _ _ _ _ l0_10 rfl rfl ?aO ?aL ?aA ?aN ?aR ?aB ?_
                   (case aO => exact zqxb6_9)
                   (case aL => have h1_ := of_eq_true q77; have h2_ := (Kd.R_reads' HO_6.out).1; omega)
                   (case aA => first | exact KA77.out | (have h_ := KA77.out; simp only [Nat.mul_one] at h_; exact h_))
                   (case aN => exact KY77.out)
                   (case aR => repeat (first | exact (Kd.C_below HR0_10.out HB.out) | (with_reducible refine Kd.C_alloc ?_ _) | (with_reducible refine Kd.C_drewN ?_ _) | (with_reducible refine Kd.C_drew ?_)))
                   (case aB => exact zqxb6_6)
                   intro r78_ w79 ho hb hg
                   have hat : (.slice (some ⟨go17, 0, none⟩) t241.length co17 : Value).ownBlock = (.slice (some ⟨go17, 0, none⟩) t241.length co17 : Value).ownBlock ∨ ∃ b_, (.slice (some ⟨go17, 0, none⟩) t241.length co17 : Value).ownBlock = some b_ ∧ w76.heap.size ≤ b_ := .inl rfl
                   (first | rw [← Ny256.out] at ho | (simp only [Int.reduceToNat] at ho; rw [← Ny256.out] at ho))
                   have n0_ := zam (blk_grown (g := gb231) (o := .cells #[.int .u8 a0_0, .int .u16 a0_1, .bool a0_2, .bool a0_3, .int .i64 a0_4, .int .u8 a0_5, .int .u8 a0_6, .int .u32 a0_7, .int .u32 a0_8, .slice A0_9 l0_9.length c0_9, .slice A0_10 l0_10.length c0_10] 43 (0, 0)) zqxb6_0 hg (Kd.R_ne HO_6.out BK231.out (by decide)))
                   have n1_ := zam (blk_grown (g := gb232) (o := .cells #[.int .u8 a0_0, .int .u16 a0_1, .bool a0_2, .bool a0_3, .int .i64 a0_4, .int .u8 a0_5, .int .u8 a0_6, .int .u32 a0_7, .int .u32 a0_8, .slice A0_9 l0_9.length c0_9] 41 (0, 0)) zqxb6_1 hg (Kd.R_ne HO_6.out BK232.out (by decide)))
                   have n2_ := zam (hb)
                   have n3_ := zam (ho)
                   clear BK231
                   clear BK232
                   clear HB
                   clear HO_6
                   have BK231 := n0_
                   have BK232 := n1_
                   have HB := n2_
                   have HO_6 := n3_
                   clear n0_ n1_ n2_ n3_
                   clear ho hb hg hat
                   refine hK.out _ _ ⟨(zbc BK231.out 0).trans rfl, (zbc BK231.out 1).trans rfl, (zbc BK231.out 2).trans rfl, (zbc BK231.out 3).trans rfl, (zbc BK231.out 4).trans rfl, (zbc BK231.out 5).trans rfl, (zbc BK231.out 6).trans rfl, (zbc BK231.out 7).trans rfl, (zbc BK231.out 8).trans rfl, (zbc BK231.out 9).trans rfl, (zbc BK231.out 10).trans rfl⟩ (fun hHeld => ?_)
                   clear hK K
                   refine norm_ (a' := ?_) ?_ ?_
                   rotate_left
                   ·
                    show Act.put _ (some 101) _ = _
                    simp only [Act.put, List.setIfInBounds_toArray, List.set_cons_zero, List.set_cons_succ, i64_w, i32_w, IntKind.wrap_u8, IntKind.wrap_u32]
                    rfl
                   refine done_ (by kernel_rfl) ?_
                   try go_wp2
                   have n0_ := zam (Kd.R_drew HO_6.out)
                   have n1_ := zam (zdr BK231.out)
                   have n2_ := zam (zdr BK232.out)
                   have n3_ := zam (below_drew1 HB.out)
                   clear HO_6
                   clear BK231
                   clear BK232
                   clear HB
                   have HO_6 := n0_
                   have BK231 := n1_
                   have BK232 := n2_
                   have HB := n3_
                   clear n0_ n1_ n2_ n3_
                   have hlx81 := (Kd.R_reads' HO_6.out).1
                   have q81 : (10 : Int) ≤ ((t241.length : Int) : Int) := zod zqxb6_8
                   obtain ⟨i081, hi081, _, hsz81, _⟩ := info_parts info5
                   have hroom81 : t241.length ≤ co17 := (Kd.R_reads' HO_6.out).2.1
                   have hroomc81 : y256.length ≤ co17 := (by rw [← hlx81]; exact hroom81)
                   have hC81 : Kd.C (Kd.int .u8) _ (some ⟨go17, 0, none⟩) y256.length y256 := (Kd.R_reads' HO_6.out).2.2
                   have hcut81 := cut_to (P := Try.prog) 24 5 .i64 Try.underlying24 hi081 (some ⟨go17, 0, none⟩) t241.length co17 10 (by omega) q81 hroom81
                   have hr81 := Kd.C_take (m := 10) hC81 (by omega)
                   have hy81 : y257.length = (10 : Int).toNat := (by rw [Ny257.out, List.length_take]; omega)
                   rw [← Ny257.out] at hr81
                   rw [← hy81] at hcut81
                   have HR260 := zam hr81
                   have HC260 := zam (show y257.length ≤ co17 from by omega)
                   clear hr81 hC81 hroom81 hi081 hsz81 hroomc81
                   have KY81 := zam hy81
                   clear hy81
                   have KE81 := zam hlx81
                   have KL81 := zam (show 10 ≤ y256.length from by omega)
                   clear hlx81
                   replace q81 := eq_true q81
                   have hlx82 := (Kd.R_reads' HO_6.out).1
                   have q82 : ((ji53) : Int) ≤ ((t241.length : Int) : Int) := zod zqxb6_8
                   obtain ⟨i082, hi082, _, hsz82, _⟩ := info_parts info5
                   have hroom82 : t241.length ≤ co17 := (Kd.R_reads' HO_6.out).2.1
                   have hroomc82 : y256.length ≤ co17 := (by rw [← hlx82]; exact hroom82)
                   have hC82 : Kd.C (Kd.int .u8) _ (some ⟨go17, 0, none⟩) y256.length y256 := (Kd.R_reads' HO_6.out).2.2
                   have ql82 : (12 : Int) ≤ ((ji53) : Int) := zod zqxb6_8
                   have hcut82 := cut_mid (P := Try.prog) 24 5 .i64 .i64 Try.underlying24 hi082 1 hsz82 (some ⟨go17, 0, none⟩) t241.length co17 12 (ji53) (by omega) ql82 q82 hroom82
                   have hr82 := Kd.C_mid (lo := (12 : Int).toNat) (hi := ((ji53) : Int).toNat) (c := co17) hC82 (by omega) (by omega) hroomc82
                   obtain ⟨A82, hA82⟩ : ∃ A1, A1 = (if co17 = (12 : Int).toNat then (some ⟨go17, 0, none⟩) else ((some ⟨go17, 0, none⟩) : Option Addr).map (·.add ((12 : Int).toNat * 1))) := ⟨_, rfl⟩
                   obtain ⟨c82, hc82⟩ : ∃ c1, c1 = co17 - (12 : Int).toNat := ⟨_, rfl⟩
                   have hy82 : y261.length = ((ji53) : Int).toNat - (12 : Int).toNat := (by rw [Ny261.out, List.length_drop, List.length_take] <;> omega)
                   rw [show ((y256).take ((ji53) : Int).toNat).drop (12 : Int).toNat = y261 from Ny261.out.symm] at hr82
                   replace hr82 : Kd.C (Kd.int .u8) _ A82 y261.length y261 := (by rw [hA82]; exact hr82)
                   rw [← hy82, ← hA82, ← hc82] at hcut82
                   have HR264 := zam hr82
                   have HC264 := zam (show y261.length ≤ c82 from by rw [hy82, hc82]; exact Nat.sub_le_sub_right (Nat.le_trans (by omega) hroom82) _)
                   clear hr82 hC82 hroom82 hi082 hsz82 hc82 hroomc82
                   have KY82 := zam hy82
                   have KA82 := zam hA82
                   clear hy82 hA82
                   have KE82 := zam hlx82
                   have KL82 := zam (show ((ji53) : Int).toNat ≤ y256.length from by omega)
                   have KM82 := zam (show 12 ≤ ((ji53) : Int).toNat from by omega)
                   clear hlx82
                   replace q82 := eq_true q82
                   refine start_ (n := 9) (S := fun w' => True) (ds := []) #[false, false, false, false, false, false, false, false, false] (by kernel_rfl) rfl rfl trivial (fun hHeld => ?_); refine with_tabW ip4_Build.tab24 ip4_Build.bits24 (fun HT_ HW_ => ?_)
                   generalize w79.drew = w80 at HO_6 BK231 BK232 HB HR260 HR264 hHeld ⊢
                   refine pure_ (i := 0) (N := some 102) (v := ?_) (a' := ?_) #[true, false, false, false, false, false, false, false, false] rfl rfl (any_of HT_.out (by kernel_rfl)) (fun _ _ _ h => h) (Or.inl ⟨by rfl, ?_⟩) ?_ ?_
                   rotate_left
                   ·
                    intro w'
                    go_simp
                    with_reducible rfl
                   rotate_left
                   ·
                    simp only [Act.put, List.setIfInBounds_toArray, List.set_cons_zero, List.set_cons_succ, i64_w, i32_w, IntKind.wrap_u8, IntKind.wrap_u32]
                    rfl
                   refine pure_ (i := 1) (N := some 103) (v := ?_) (a' := ?_) #[true, true, false, false, false, false, false, false, false] rfl rfl (any_of HT_.out (by kernel_rfl)) (fun _ _ _ h => h) (Or.inl ⟨by rfl, ?_⟩) ?_ ?_
                   rotate_left
                   ·
                    intro w'
                    go_simp
                    with_reducible rfl
                   rotate_left
                   ·
                    simp only [Act.put, List.setIfInBounds_toArray, List.set_cons_zero, List.set_cons_succ, i64_w, i32_w, IntKind.wrap_u8, IntKind.wrap_u32]
                    rfl
                   refine pure_ (i := 2) (N := some 104) (v := ?_) (a' := ?_) #[true, true, true, false, false, false, false, false, false] rfl rfl (any_of HT_.out (by kernel_rfl)) (fun _ _ _ h => h) (Or.inl ⟨by rfl, ?_⟩) ?_ ?_
                   rotate_left
                   ·
                    intro w'
                    go_simp
                    with_reducible rfl
                   rotate_left
                   ·
                    simp only [Act.put, List.setIfInBounds_toArray, List.set_cons_zero, List.set_cons_succ, i64_w, i32_w, IntKind.wrap_u8, IntKind.wrap_u32]
                    rfl
                   refine pure_ (i := 3) (N := some 105) (v := ?_) (a' := ?_) #[true, true, true, true, false, false, false, false, false] rfl rfl (any_of HT_.out (by kernel_rfl)) (fun _ _ _ h => h) (Or.inl ⟨by rfl, ?_⟩) ?_ ?_
                   rotate_left
                   ·
                    intro w'
                    go_simp
                    with_reducible rfl
                   rotate_left
                   ·
                    simp only [Act.put, List.setIfInBounds_toArray, List.set_cons_zero, List.set_cons_succ, i64_w, i32_w, IntKind.wrap_u8, IntKind.wrap_u32]
                    rfl
                   refine pure_ (i := 4) (N := some 106) (v := ?_) (a' := ?_) #[true, true, true, true, true, false, false, false, false] rfl rfl (any_of HT_.out (by kernel_rfl)) (fun _ _ _ h => h) (Or.inl ⟨by rfl, ?_⟩) ?_ ?_
                   rotate_left
                   ·
                    intro w'
                    go_simp
                    with_reducible rfl
                   rotate_left
                   ·
                    simp only [Act.put, List.setIfInBounds_toArray, List.set_cons_zero, List.set_cons_succ, i64_w, i32_w, IntKind.wrap_u8, IntKind.wrap_u32]
                    rfl
                   refine pure_ (i := 5) (N := some 107) (v := ?_) (a' := ?_) #[true, true, true, true, true, true, false, false, false] rfl rfl (any_of HT_.out (by kernel_rfl)) (fun _ _ _ h => h) (Or.inl ⟨by rfl, ?_⟩) ?_ ?_
                   rotate_left
                   ·
                    intro w'
                    go_simp
                    with_reducible rfl
                   rotate_left
                   ·
                    simp only [Act.put, List.setIfInBounds_toArray, List.set_cons_zero, List.set_cons_succ, i64_w, i32_w, IntKind.wrap_u8, IntKind.wrap_u32]
                    rfl
                   refine one_ (i := 6) (N := some 108) #[true, true, true, true, true, true, true, false, false] rfl rfl (one_of HT_.out (by kernel_rfl)) (by decide) (fun K hK => ?_)
                   refine lits_step (Kd.slice 5 (Kd.int .u8)) 24 ?hg (N := 108) ?hd (xs := ([y257, y261] : List (List Int))) (inner := [.slice (some ⟨go17, 0, none⟩) y257.length co17, .slice A82 y261.length c82]) ?hr ?hp (by simp) ?_; (case hd => rfl); (case hg => rfl); (case hr => first | (go_simp; done) | (go_simp; rfl)); (case hp => exact (Reps.one (show Kd.K (Kd.slice 5 (Kd.int .u8)) _ y257 [.slice (some ⟨go17, 0, none⟩) y257.length co17] from by refine ⟨_, _, rfl, ?_, ?_⟩; (· exact HC260.out); (· repeat (first | exact zqxb6_10 | (with_reducible refine Kd.C_alloc ?_ _) | (with_reducible refine Kd.C_drewN ?_ _) | (with_reducible refine Kd.C_drew ?_)))) (Reps.one (show Kd.K (Kd.slice 5 (Kd.int .u8)) _ y261 [.slice A82 y261.length c82] from by refine ⟨_, _, rfl, ?_, ?_⟩; (· exact HC264.out); (· repeat (first | exact zqxb6_11 | (with_reducible refine Kd.C_alloc ?_ _) | (with_reducible refine Kd.C_drewN ?_ _) | (with_reducible refine Kd.C_drew ?_)))) (Reps.none _ _))))
                   intro v84_ w83 hL_ hb
                   (first | rw [← Ny265.out] at hL_ | (simp only [Int.reduceToNat] at hL_; rw [← Ny265.out] at hL_))
                   obtain ⟨A84, c84, rfl, hlr_, hlc_⟩ := hL_
                   have n0_ := zam (Kd.R_below zqxb6_9 hb)
                   have n1_ := zam (blk_below (g := gb231) (o := .cells #[.int .u8 a0_0, .int .u16 a0_1, .bool a0_2, .bool a0_3, .int .i64 a0_4, .int .u8 a0_5, .int .u8 a0_6, .int .u32 a0_7, .int .u32 a0_8, .slice A0_9 l0_9.length c0_9, .slice A0_10 l0_10.length c0_10] 43 (0, 0)) zqxb6_0 hb)
                   have n2_ := zam (blk_below (g := gb232) (o := .cells #[.int .u8 a0_0, .int .u16 a0_1, .bool a0_2, .bool a0_3, .int .i64 a0_4, .int .u8 a0_5, .int .u8 a0_6, .int .u32 a0_7, .int .u32 a0_8, .slice A0_9 l0_9.length c0_9] 41 (0, 0)) zqxb6_1 hb)
                   have n3_ := zam (Kd.C_below zqxb6_10 hb)
                   have n4_ := zam (Kd.C_below zqxb6_11 hb)
                   have n5_ := zam (below_step zqxb6_6 hb)
                   have n6_ := zam (hlc_)
                   have n7_ := zam (hlr_)
                   clear HO_6
                   clear BK231
                   clear BK232
                   clear HR260
                   clear HR264
                   clear HB
                   have HO_6 := n0_
                   have BK231 := n1_
                   have BK232 := n2_
                   have HR260 := n3_
                   have HR264 := n4_
                   have HB := n5_
                   have HR268 := n6_
                   have HC268 := n7_
                   clear n0_ n1_ n2_ n3_ n4_ n5_ n6_ n7_
                   clear hb hlr_ hlc_
                   refine hK.out _ _ trivial (fun hHeld => ?_)
                   clear hK K
                   refine norm_ (a' := ?_) ?_ ?_
                   rotate_left
                   ·
                    show Act.put _ (some 108) _ = _
                    simp only [Act.put, List.setIfInBounds_toArray, List.set_cons_zero, List.set_cons_succ, i64_w, i32_w, IntKind.wrap_u8, IntKind.wrap_u32]
                    rfl
                   refine one_ (i := 7) (N := some 109) #[true, true, true, true, true, true, true, true, false] rfl rfl (one_of HT_.out (by kernel_rfl)) (by decide) (fun K hK => ?_)
                   refine goes_ Try.func16 (by kernel_rfl) rfl #[.slice A84 y265.length c84] (by rfl) rfl rfl zqxb6_4 ?_
                   with_reducible refine (ip4_Sum.calls kj40 _ _ y265 t269 _ ?side1 ?side2 A59.out).mono ?_
                   (case side1 => repeat (first | exact (by repeat (first | (with_reducible exact HR268.out) | (with_reducible refine Kd.C_alloc ?_ _) | (with_reducible refine Kd.C_drewN ?_ _) | (with_reducible refine Kd.C_drew ?_) | exact HR268.out)) | (with_reducible refine Kd.C_alloc ?_ _) | (with_reducible refine Kd.C_drewN ?_ _) | (with_reducible refine Kd.C_drew ?_)))
                   (case side2 => exact HC268.out)
                   rintro e w' ⟨rfl, ⟨nd, rfl⟩⟩
                   refine ⟨_, rfl, ?_⟩
                   refine hK.out _ _ trivial (fun hHeld => ?_)
                   clear hK K
                   refine norm_ (a' := ?_) ?_ ?_
                   rotate_left
                   ·
                    show Act.put _ (some 109) _ = _
                    simp only [Act.put, List.setIfInBounds_toArray, List.set_cons_zero, List.set_cons_succ, i64_w, i32_w, IntKind.wrap_u8, IntKind.wrap_u32]
                    rfl
                   refine one_ (i := 8) (N := some 110) #[true, true, true, true, true, true, true, true, true] rfl rfl (one_of HT_.out (by kernel_rfl)) (by decide) (fun K hK => ?_)
                   refine goes_ Try.func48 (by kernel_rfl) rfl #[.slice (some ⟨go17, 0, none⟩) t241.length co17, .int .i64 10, .int .u16 t269] (by rfl) rfl rfl zqxb6_4 ?_
                   with_reducible refine (ip4_putWord.calls (fun k_ => some k_ = (.slice (some ⟨go17, 0, none⟩) t241.length co17 : Value).ownBlock) (.slice (some ⟨go17, 0, none⟩) t241.length co17) y256 10 t269 t270 w _ ?side1 ?side2 A60.out).mono ?_
                   (case side1 => repeat (first | (with_reducible first | exact HB.out | apply below_alloc | apply pw_below_drewN | apply below_drew1 | refine below_set ?_ GE231.out | refine below_set ?_ GE232.out) | exact HB.out))
                   (case side2 => (with_reducible repeat (first | apply Kd.R_alloc | apply Kd.R_drewN | apply Kd.R_drew)); exact Kd.R_tight rfl HO_6.out)
                   rintro e w85 ⟨rfl, hy0, hb, hkp⟩
                   refine ⟨_, rfl, ?_⟩
                   have n0_ := zam (blk_kept zqxb6_0 hkp (fun hs_ => (fun e_ => (Kd.R_ne HO_6.out BK231.out (by decide)) e_) hs_))
                   have n1_ := zam (blk_kept zqxb6_1 hkp (fun hs_ => (fun e_ => (Kd.R_ne HO_6.out BK232.out (by decide)) e_) hs_))
                   have n2_ := zam (Kd.R_reok rfl hy0 (fun k_ e_ => HO_6.out.1 k_ e_))
                   have n3_ := zam (hb)
                   clear BK231
                   clear BK232
                   clear HO_6
                   clear HB
                   have BK231 := n0_
                   have BK232 := n1_
                   have HO_6 := n2_
                   have HB := n3_
                   clear n0_ n1_ n2_ n3_
                   (try clear hb)
                   (try clear hkp)
                   (try clear hy0)
                   refine hK.out _ _ trivial (fun hHeld => ?_)
                   clear hK K
                   refine norm_ (a' := ?_) ?_ ?_
                   rotate_left
                   ·
                    show Act.put _ (some 110) _ = _
                    simp only [Act.put, List.setIfInBounds_toArray, List.set_cons_zero, List.set_cons_succ, i64_w, i32_w, IntKind.wrap_u8, IntKind.wrap_u32]
                    rfl
                   refine done_ (done_of HT_.out (by kernel_rfl)) ?_
                   try go_wp2
                   go_ret2
                   exact ⟨_, by first | rfl | (simp [errW_none, errW_some] <;> rfl) | (simp only [← hji13, ← hji53]; first | rfl | (simp [errW_none, errW_some] <;> rfl)) | (simp [*, errW_none, errW_some] <;> rfl), by (with_reducible repeat (first | apply Kd.R_alloc | apply Kd.R_drewN | apply Kd.R_drew)); exact HO_6.out, by repeat (first | (with_reducible first | exact HB.out | apply below_alloc | apply pw_below_drewN | apply below_drew1 | refine below_set ?_ GE231.out | refine below_set ?_ GE232.out) | exact HB.out)⟩
                  ·
                   rw [if_neg c57] at H
                   exact absurd H (by simp)
                 ·
                  rw [if_neg c56] at H
                  exact absurd H (by simp)
                ·
                 rw [if_neg c55] at H
                 exact absurd H (by simp)
               ·
                rw [if_neg c54] at H
                exact absurd H (by simp)
              ·
               rw [if_neg c52] at H
               exact absurd H (by simp)
             ·
              rw [if_neg c48] at H
              exact absurd H (by simp)
            ·
             rw [if_neg c46] at H
             exact absurd H (by simp)
       ·
        rw [if_neg c18] at H
        exact absurd H (by simp)
      ·
       rw [if_neg c16] at H
       exact absurd H (by simp)
     ·
      rw [if_neg c15] at H
      exact absurd H (by simp)
    ·
     rw [if_neg c14] at H
     exact absurd H (by simp)
  ·
   replace c5 := Bool.eq_false_iff.mpr c5
   subst c5
   have H1 : (some (([] : List Int), 36)) = some (r1, r2) := by rw [if_neg (show ¬ (false = true) by decide)] at H; exact H
   clear H
   have H := H1
   clear H1
   simp only [Option.some.injEq, Prod.mk.injEq] at H
   obtain ⟨rfl, rfl⟩ := H
   go_enter Try.func22, Try.ntmps22
   go_wp2_with (first | ((with_reducible refine gate_dst (N := 1) rfl ?_); refine box_event ?hg (N := 1) ?hd (cs := #[.int .u8 a0_0, .int .u16 a0_1, .bool a0_2, .bool a0_3, .int .i64 a0_4, .int .u8 a0_5, .int .u8 a0_6, .int .u32 a0_7, .int .u32 a0_8, .slice A0_9 l0_9.length c0_9, .slice A0_10 l0_10.length c0_10]) (t := 43) ?hr ?_; (case hd => rfl); (case hg => rfl); (case hr => first | (go_simp; done) | (go_simp; rfl)); intro gb231 hg w86 hbox hb; have n0_ := zam (below_step zqxb6_7 hb); have n1_ := zam (hbox); have n2_ := zam ((by rw [hg]; exact (below_size zqxb6_7) : w.heap.size ≤ gb231)); have n3_ := zam ((by rw [hg]; exact (below_size zqxb6_7) : w.heap.size ≤ gb231)); clear HB; have HB := n0_; have BK231 := n1_; have GW231 := n2_; have GE231 := n3_; clear n0_ n1_ n2_ n3_; clear hb hbox hg; have hcz87_0 : w86.cell? ⟨gb231, 0, none⟩ = some (.int .u8 a0_0) := (zbc BK231.out 0).trans rfl; have hcz87_1 : w86.cell? ⟨gb231, 1, none⟩ = some (.int .u16 a0_1) := (zbc BK231.out 1).trans rfl; have hcz87_2 : w86.cell? ⟨gb231, 2, none⟩ = some (.bool a0_2) := (zbc BK231.out 2).trans rfl; have hcz87_3 : w86.cell? ⟨gb231, 3, none⟩ = some (.bool a0_3) := (zbc BK231.out 3).trans rfl; have hcz87_4 : w86.cell? ⟨gb231, 4, none⟩ = some (.int .i64 a0_4) := (zbc BK231.out 4).trans rfl; have hcz87_5 : w86.cell? ⟨gb231, 5, none⟩ = some (.int .u8 a0_5) := (zbc BK231.out 5).trans rfl; have hcz87_6 : w86.cell? ⟨gb231, 6, none⟩ = some (.int .u8 a0_6) := (zbc BK231.out 6).trans rfl; have hcz87_7 : w86.cell? ⟨gb231, 7, none⟩ = some (.int .u32 a0_7) := (zbc BK231.out 7).trans rfl; have hcz87_8 : w86.cell? ⟨gb231, 8, none⟩ = some (.int .u32 a0_8) := (zbc BK231.out 8).trans rfl; have hcz87_9 : w86.cell? ⟨gb231, 9, none⟩ = some (.slice A0_9 l0_9.length c0_9) := (zbc BK231.out 9).trans rfl; have hcz87_10 : w86.cell? ⟨gb231, 10, none⟩ = some (.slice A0_10 l0_10.length c0_10) := (zbc BK231.out 10).trans rfl; have hfz87_0 := zbf BK231.out 0; have hfz87_1 := zbf BK231.out 1; have hfz87_2 := zbf BK231.out 2; have hfz87_3 := zbf BK231.out 3; have hfz87_4 := zbf BK231.out 4; have hfz87_5 := zbf BK231.out 5; have hfz87_6 := zbf BK231.out 6; have hfz87_7 := zbf BK231.out 7; have hfz87_8 := zbf BK231.out 8; have hfz87_9 := zbf BK231.out 9; have hfz87_10 := zbf BK231.out 10) | ((with_reducible refine gate_dst (N := 4) rfl ?_); refine box_event ?hg (N := 4) ?hd (cs := #[.int .u8 0, .int .u16 0, .bool false, .bool false, .int .i64 0, .int .u8 0, .int .u8 0, .int .u32 0, .int .u32 0, .slice none 0 0]) (t := 41) ?hr ?_; (case hd => rfl); (case hg => rfl); (case hr => first | (go_simp; done) | (go_simp; rfl)); intro gb232 hg w88 hbox hb; have n0_ := zam (blk_below (g := gb231) (o := .cells #[.int .u8 a0_0, .int .u16 a0_1, .bool a0_2, .bool a0_3, .int .i64 a0_4, .int .u8 a0_5, .int .u8 a0_6, .int .u32 a0_7, .int .u32 a0_8, .slice A0_9 l0_9.length c0_9, .slice A0_10 l0_10.length c0_10] 43 (0, 0)) zqxb6_0 hb); have n1_ := zam (below_step zqxb6_3 hb); have n2_ := zam (hbox); have n3_ := zam ((by rw [hg]; exact (below_size zqxb6_3) : w.heap.size ≤ gb232)); have n4_ := zam ((by rw [hg]; exact (below_size zqxb6_3) : w.heap.size ≤ gb232)); have n5_ := zam ((by rw [hg]; exact Nat.ne_of_lt (blk_lt (g := gb231) (o := .cells #[.int .u8 a0_0, .int .u16 a0_1, .bool a0_2, .bool a0_3, .int .i64 a0_4, .int .u8 a0_5, .int .u8 a0_6, .int .u32 a0_7, .int .u32 a0_8, .slice A0_9 l0_9.length c0_9, .slice A0_10 l0_10.length c0_10] 43 (0, 0)) zqxb6_0) : gb231 ≠ gb232)); have n6_ := zam ((by rw [hg]; exact Nat.ne_of_gt (blk_lt (g := gb231) (o := .cells #[.int .u8 a0_0, .int .u16 a0_1, .bool a0_2, .bool a0_3, .int .i64 a0_4, .int .u8 a0_5, .int .u8 a0_6, .int .u32 a0_7, .int .u32 a0_8, .slice A0_9 l0_9.length c0_9, .slice A0_10 l0_10.length c0_10] 43 (0, 0)) zqxb6_0) : gb232 ≠ gb231)); clear BK231; clear HB; have BK231 := n0_; have HB := n1_; have BK232 := n2_; have GW232 := n3_; have GE232 := n4_; have NB231_232 := n5_; have NB232_231 := n6_; clear n0_ n1_ n2_ n3_ n4_ n5_ n6_; clear hb hbox hg; have hnb89 := NB232_231.out; have hnc89 := NB231_232.out; have hcz90_0 : w88.cell? ⟨gb232, 0, none⟩ = some (.int .u8 0) := (zbc BK232.out 0).trans rfl; have hcz90_1 : w88.cell? ⟨gb232, 1, none⟩ = some (.int .u16 0) := (zbc BK232.out 1).trans rfl; have hcz90_2 : w88.cell? ⟨gb232, 2, none⟩ = some (.bool false) := (zbc BK232.out 2).trans rfl; have hcz90_3 : w88.cell? ⟨gb232, 3, none⟩ = some (.bool false) := (zbc BK232.out 3).trans rfl; have hcz90_4 : w88.cell? ⟨gb232, 4, none⟩ = some (.int .i64 0) := (zbc BK232.out 4).trans rfl; have hcz90_5 : w88.cell? ⟨gb232, 5, none⟩ = some (.int .u8 0) := (zbc BK232.out 5).trans rfl; have hcz90_6 : w88.cell? ⟨gb232, 6, none⟩ = some (.int .u8 0) := (zbc BK232.out 6).trans rfl; have hcz90_7 : w88.cell? ⟨gb232, 7, none⟩ = some (.int .u32 0) := (zbc BK232.out 7).trans rfl; have hcz90_8 : w88.cell? ⟨gb232, 8, none⟩ = some (.int .u32 0) := (zbc BK232.out 8).trans rfl; have hcz90_9 : w88.cell? ⟨gb232, 9, none⟩ = some (.slice none 0 0) := (zbc BK232.out 9).trans rfl; have hfz90_0 := zbf BK232.out 0; have hfz90_1 := zbf BK232.out 1; have hfz90_2 := zbf BK232.out 2; have hfz90_3 := zbf BK232.out 3; have hfz90_4 := zbf BK232.out 4; have hfz90_5 := zbf BK232.out 5; have hfz90_6 := zbf BK232.out 6; have hfz90_7 := zbf BK232.out 7; have hfz90_8 := zbf BK232.out 8; have hfz90_9 := zbf BK232.out 9) | ((with_reducible refine gate_callee (f := 46) rfl ?_); refine goesL_ (some 13) rfl rfl Try.func46 (by kernel_rfl) rfl #[.slice A0_9 l0_9.length c0_9] rfl zqxb6_4 ?_; (with_reducible refine (ip4_optionsOK.calls k _ _ l0_9 true _ ?side1 ?side2 A2.out).mono ?_); (case side1 => exact Kd.C_below HR0_9.out zqxb6_6); (case side2 => exact HC0_9.out); rintro e w' ⟨rfl, ⟨nd, rfl⟩⟩; refine ⟨_, rfl, ?_⟩; have hcz91_0 : w88.cell? ⟨gb231, 0, none⟩ = some (.int .u8 a0_0) := (zbc BK231.out 0).trans rfl; have hcz91_1 : w88.cell? ⟨gb231, 1, none⟩ = some (.int .u16 a0_1) := (zbc BK231.out 1).trans rfl; have hcz91_2 : w88.cell? ⟨gb231, 2, none⟩ = some (.bool a0_2) := (zbc BK231.out 2).trans rfl; have hcz91_3 : w88.cell? ⟨gb231, 3, none⟩ = some (.bool a0_3) := (zbc BK231.out 3).trans rfl; have hcz91_4 : w88.cell? ⟨gb231, 4, none⟩ = some (.int .i64 a0_4) := (zbc BK231.out 4).trans rfl; have hcz91_5 : w88.cell? ⟨gb231, 5, none⟩ = some (.int .u8 a0_5) := (zbc BK231.out 5).trans rfl; have hcz91_6 : w88.cell? ⟨gb231, 6, none⟩ = some (.int .u8 a0_6) := (zbc BK231.out 6).trans rfl; have hcz91_7 : w88.cell? ⟨gb231, 7, none⟩ = some (.int .u32 a0_7) := (zbc BK231.out 7).trans rfl; have hcz91_8 : w88.cell? ⟨gb231, 8, none⟩ = some (.int .u32 a0_8) := (zbc BK231.out 8).trans rfl; have hcz91_9 : w88.cell? ⟨gb231, 9, none⟩ = some (.slice A0_9 l0_9.length c0_9) := (zbc BK231.out 9).trans rfl; have hcz91_10 : w88.cell? ⟨gb231, 10, none⟩ = some (.slice A0_10 l0_10.length c0_10) := (zbc BK231.out 10).trans rfl; have hfz91_0 := zbf BK231.out 0; have hfz91_1 := zbf BK231.out 1; have hfz91_2 := zbf BK231.out 2; have hfz91_3 := zbf BK231.out 3; have hfz91_4 := zbf BK231.out 4; have hfz91_5 := zbf BK231.out 5; have hfz91_6 := zbf BK231.out 6; have hfz91_7 := zbf BK231.out 7; have hfz91_8 := zbf BK231.out 8; have hfz91_9 := zbf BK231.out 9; have hfz91_10 := zbf BK231.out 10) | ((with_reducible refine gate_callee (f := 47) rfl ?_); refine goesL_ (some 23) rfl rfl Try.func47 (by kernel_rfl) rfl #[.int .i64 a0_4, .int .i64 (l0_10.length : Int), .bool a0_3] rfl zqxb6_4 ?_; (with_reducible refine (ip4_orderly.calls a0_4 (l0_10.length : Int) a0_3 false _ A4.out).mono ?_); rintro e w' ⟨rfl, ⟨nd, rfl⟩⟩; refine ⟨_, rfl, ?_⟩))
   go_ret2
   exact ⟨_, by first | rfl | (simp [errW_none, errW_some] <;> rfl) | (simp [*, errW_none, errW_some] <;> rfl), by first | exact Kd.R_nil _ _ _ _ _ | exact Kd.N_nil _ _ _ _ _ | exact Kd.V_nil _ _ _ _ _ | exact Kd.Q_nil _ _ _ _ _ | exact Kd.S_nil _ _ _ _ _, by repeat (first | (with_reducible first | exact HB.out | apply below_alloc | apply pw_below_drewN | apply below_drew1 | refine below_set ?_ GE231.out | refine below_set ?_ GE232.out) | exact HB.out)⟩
 ·
  replace c3 := Bool.eq_false_iff.mpr c3
  subst c3
  have H1 : (some (([] : List Int), 34)) = some (r1, r2) := by rw [if_neg (show ¬ (false = true) by decide)] at H; exact H
  clear H
  have H := H1
  clear H1
  simp only [Option.some.injEq, Prod.mk.injEq] at H
  obtain ⟨rfl, rfl⟩ := H
  go_enter Try.func22, Try.ntmps22
  go_wp2_with (first | ((with_reducible refine gate_dst (N := 1) rfl ?_); refine box_event ?hg (N := 1) ?hd (cs := #[.int .u8 a0_0, .int .u16 a0_1, .bool a0_2, .bool a0_3, .int .i64 a0_4, .int .u8 a0_5, .int .u8 a0_6, .int .u32 a0_7, .int .u32 a0_8, .slice A0_9 l0_9.length c0_9, .slice A0_10 l0_10.length c0_10]) (t := 43) ?hr ?_; (case hd => rfl); (case hg => rfl); (case hr => first | (go_simp; done) | (go_simp; rfl)); intro gb231 hg w92 hbox hb; have n0_ := zam (below_step zqxb6_7 hb); have n1_ := zam (hbox); have n2_ := zam ((by rw [hg]; exact (below_size zqxb6_7) : w.heap.size ≤ gb231)); have n3_ := zam ((by rw [hg]; exact (below_size zqxb6_7) : w.heap.size ≤ gb231)); clear HB; have HB := n0_; have BK231 := n1_; have GW231 := n2_; have GE231 := n3_; clear n0_ n1_ n2_ n3_; clear hb hbox hg; have hcz93_0 : w92.cell? ⟨gb231, 0, none⟩ = some (.int .u8 a0_0) := (zbc BK231.out 0).trans rfl; have hcz93_1 : w92.cell? ⟨gb231, 1, none⟩ = some (.int .u16 a0_1) := (zbc BK231.out 1).trans rfl; have hcz93_2 : w92.cell? ⟨gb231, 2, none⟩ = some (.bool a0_2) := (zbc BK231.out 2).trans rfl; have hcz93_3 : w92.cell? ⟨gb231, 3, none⟩ = some (.bool a0_3) := (zbc BK231.out 3).trans rfl; have hcz93_4 : w92.cell? ⟨gb231, 4, none⟩ = some (.int .i64 a0_4) := (zbc BK231.out 4).trans rfl; have hcz93_5 : w92.cell? ⟨gb231, 5, none⟩ = some (.int .u8 a0_5) := (zbc BK231.out 5).trans rfl; have hcz93_6 : w92.cell? ⟨gb231, 6, none⟩ = some (.int .u8 a0_6) := (zbc BK231.out 6).trans rfl; have hcz93_7 : w92.cell? ⟨gb231, 7, none⟩ = some (.int .u32 a0_7) := (zbc BK231.out 7).trans rfl; have hcz93_8 : w92.cell? ⟨gb231, 8, none⟩ = some (.int .u32 a0_8) := (zbc BK231.out 8).trans rfl; have hcz93_9 : w92.cell? ⟨gb231, 9, none⟩ = some (.slice A0_9 l0_9.length c0_9) := (zbc BK231.out 9).trans rfl; have hcz93_10 : w92.cell? ⟨gb231, 10, none⟩ = some (.slice A0_10 l0_10.length c0_10) := (zbc BK231.out 10).trans rfl; have hfz93_0 := zbf BK231.out 0; have hfz93_1 := zbf BK231.out 1; have hfz93_2 := zbf BK231.out 2; have hfz93_3 := zbf BK231.out 3; have hfz93_4 := zbf BK231.out 4; have hfz93_5 := zbf BK231.out 5; have hfz93_6 := zbf BK231.out 6; have hfz93_7 := zbf BK231.out 7; have hfz93_8 := zbf BK231.out 8; have hfz93_9 := zbf BK231.out 9; have hfz93_10 := zbf BK231.out 10) | ((with_reducible refine gate_dst (N := 4) rfl ?_); refine box_event ?hg (N := 4) ?hd (cs := #[.int .u8 0, .int .u16 0, .bool false, .bool false, .int .i64 0, .int .u8 0, .int .u8 0, .int .u32 0, .int .u32 0, .slice none 0 0]) (t := 41) ?hr ?_; (case hd => rfl); (case hg => rfl); (case hr => first | (go_simp; done) | (go_simp; rfl)); intro gb232 hg w94 hbox hb; have n0_ := zam (blk_below (g := gb231) (o := .cells #[.int .u8 a0_0, .int .u16 a0_1, .bool a0_2, .bool a0_3, .int .i64 a0_4, .int .u8 a0_5, .int .u8 a0_6, .int .u32 a0_7, .int .u32 a0_8, .slice A0_9 l0_9.length c0_9, .slice A0_10 l0_10.length c0_10] 43 (0, 0)) zqxb6_0 hb); have n1_ := zam (below_step zqxb6_3 hb); have n2_ := zam (hbox); have n3_ := zam ((by rw [hg]; exact (below_size zqxb6_3) : w.heap.size ≤ gb232)); have n4_ := zam ((by rw [hg]; exact (below_size zqxb6_3) : w.heap.size ≤ gb232)); have n5_ := zam ((by rw [hg]; exact Nat.ne_of_lt (blk_lt (g := gb231) (o := .cells #[.int .u8 a0_0, .int .u16 a0_1, .bool a0_2, .bool a0_3, .int .i64 a0_4, .int .u8 a0_5, .int .u8 a0_6, .int .u32 a0_7, .int .u32 a0_8, .slice A0_9 l0_9.length c0_9, .slice A0_10 l0_10.length c0_10] 43 (0, 0)) zqxb6_0) : gb231 ≠ gb232)); have n6_ := zam ((by rw [hg]; exact Nat.ne_of_gt (blk_lt (g := gb231) (o := .cells #[.int .u8 a0_0, .int .u16 a0_1, .bool a0_2, .bool a0_3, .int .i64 a0_4, .int .u8 a0_5, .int .u8 a0_6, .int .u32 a0_7, .int .u32 a0_8, .slice A0_9 l0_9.length c0_9, .slice A0_10 l0_10.length c0_10] 43 (0, 0)) zqxb6_0) : gb232 ≠ gb231)); clear BK231; clear HB; have BK231 := n0_; have HB := n1_; have BK232 := n2_; have GW232 := n3_; have GE232 := n4_; have NB231_232 := n5_; have NB232_231 := n6_; clear n0_ n1_ n2_ n3_ n4_ n5_ n6_; clear hb hbox hg; have hnb95 := NB232_231.out; have hnc95 := NB231_232.out; have hcz96_0 : w94.cell? ⟨gb232, 0, none⟩ = some (.int .u8 0) := (zbc BK232.out 0).trans rfl; have hcz96_1 : w94.cell? ⟨gb232, 1, none⟩ = some (.int .u16 0) := (zbc BK232.out 1).trans rfl; have hcz96_2 : w94.cell? ⟨gb232, 2, none⟩ = some (.bool false) := (zbc BK232.out 2).trans rfl; have hcz96_3 : w94.cell? ⟨gb232, 3, none⟩ = some (.bool false) := (zbc BK232.out 3).trans rfl; have hcz96_4 : w94.cell? ⟨gb232, 4, none⟩ = some (.int .i64 0) := (zbc BK232.out 4).trans rfl; have hcz96_5 : w94.cell? ⟨gb232, 5, none⟩ = some (.int .u8 0) := (zbc BK232.out 5).trans rfl; have hcz96_6 : w94.cell? ⟨gb232, 6, none⟩ = some (.int .u8 0) := (zbc BK232.out 6).trans rfl; have hcz96_7 : w94.cell? ⟨gb232, 7, none⟩ = some (.int .u32 0) := (zbc BK232.out 7).trans rfl; have hcz96_8 : w94.cell? ⟨gb232, 8, none⟩ = some (.int .u32 0) := (zbc BK232.out 8).trans rfl; have hcz96_9 : w94.cell? ⟨gb232, 9, none⟩ = some (.slice none 0 0) := (zbc BK232.out 9).trans rfl; have hfz96_0 := zbf BK232.out 0; have hfz96_1 := zbf BK232.out 1; have hfz96_2 := zbf BK232.out 2; have hfz96_3 := zbf BK232.out 3; have hfz96_4 := zbf BK232.out 4; have hfz96_5 := zbf BK232.out 5; have hfz96_6 := zbf BK232.out 6; have hfz96_7 := zbf BK232.out 7; have hfz96_8 := zbf BK232.out 8; have hfz96_9 := zbf BK232.out 9) | ((with_reducible refine gate_callee (f := 46) rfl ?_); refine goesL_ (some 13) rfl rfl Try.func46 (by kernel_rfl) rfl #[.slice A0_9 l0_9.length c0_9] rfl zqxb6_4 ?_; (with_reducible refine (ip4_optionsOK.calls k _ _ l0_9 false _ ?side1 ?side2 A2.out).mono ?_); (case side1 => exact Kd.C_below HR0_9.out zqxb6_6); (case side2 => exact HC0_9.out); rintro e w' ⟨rfl, ⟨nd, rfl⟩⟩; refine ⟨_, rfl, ?_⟩))
  go_ret2
  exact ⟨_, by first | rfl | (simp [errW_none, errW_some] <;> rfl) | (simp [*, errW_none, errW_some] <;> rfl), by first | exact Kd.R_nil _ _ _ _ _ | exact Kd.N_nil _ _ _ _ _ | exact Kd.V_nil _ _ _ _ _ | exact Kd.Q_nil _ _ _ _ _ | exact Kd.S_nil _ _ _ _ _, by repeat (first | (with_reducible first | exact HB.out | apply below_alloc | apply pw_below_drewN | apply below_drew1 | refine below_set ?_ GE231.out | refine below_set ?_ GE232.out) | exact HB.out)⟩

end Go.Proofs.Ytbacmhegalncjaa.XB
