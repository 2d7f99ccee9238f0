-- printed by a program of this session (wip/xprint), out of the translation; Lean checks it
import Derived.Test.YtmjhfkjnnpnoaaaQEXAx0
import Derived.Test.YtmjhfkjnnpnoaaaQEXAx1
import Derived.Test.YtmjhfkjnnpnoaaaQEXAx8
import Derived.Test.YtmjhfkjnnpnoaaaQEXAx13
namespace Go.Proofs.Ytmjhfkjnnpnoaaa.XA
open Go.RowKit Go.Proofs.YtmjhfkjnnpnoaaaW.PrintWords Go.Proofs.YtmjhfkjnnpnoaaaW.PrintLast Go.Proofs.YtmjhfkjnnpnoaaaW.PrintMore Go.Proofs.YtmjhfkjnnpnoaaaX
theorem zq14_7 {P : Prop} (h : P := by repeat (first | (with_reducible first | exact HB.out | apply below_alloc | apply pw_below_drewN | apply below_drew1) | exact HB.out)) : P := h
theorem zq14_6 {P : Prop} (h : P := by repeat (first | (with_reducible first | exact HB.out | apply below_alloc | apply pw_below_drewN | apply below_drew1 | refine below_set ?_ GE547.out | refine below_set ?_ GE548.out) | exact HB.out)) : P := h
theorem zq14_5 {P : Prop} (h : P := by have h_ := Kd.R_ne HO_6.out BK548.out (by decide); intro e_; exact h_ (by rw [e_]; rfl)) : P := h
theorem zq14_4 {P : Prop} (h : P := by (try simp only [List.map_toArray, List.map_cons, List.map_nil]); first | done | rfl | (simp only [List.length_drop, List.length_take]; rfl)) : P := h
theorem zq14_3 {P : Prop} (h : P := by repeat (first | (with_reducible first | exact HB.out | apply below_alloc | apply pw_below_drewN | apply below_drew1 | refine below_set ?_ GE547.out) | exact HB.out)) : P := h
theorem zq14_2 {P : Prop} (h : P := by have h_ := Kd.R_ne HO553.out BK548.out (by decide); intro e_; exact h_ (by rw [e_]; rfl)) : P := h
theorem zq14_1 {P : Prop} (h : P := by first | (with_reducible exact BK548.out) | (with_reducible exact blk_drewN BK548.out _) | (with_reducible exact blk_drew BK548.out) | ((with_reducible repeat (first | refine blk_drewN ?_ _ | refine blk_drew ?_ | refine blk_alloc ?_ _)); exact BK548.out)) : P := h
theorem zq14_0 {P : Prop} (h : P := by first | (with_reducible exact BK547.out) | (with_reducible exact blk_drewN BK547.out _) | (with_reducible exact blk_drew BK547.out) | ((with_reducible repeat (first | refine blk_drewN ?_ _ | refine blk_drew ?_ | refine blk_alloc ?_ _)); exact BK547.out)) : P := h
attribute [local go_sem] max2_int min2_int max_two min_two max_three min_three max_four min_four   -- for this text's walks alone
set_option linter.unusedVariables false
set_option linter.unusedSimpArgs false

/-! ### ip4_Build: function 36 -/
mutual
def ip4_Build.j0 : Nat → Int → List Int → Int → Int → Int → Bool → Bool → Int → Int → Int → Int → Int → List Int → List Int → Int → Int → Bool → Bool → Int → Int → Int → Int → Int → List Int → Option (List Int × Int)
  | 0, _, _, _, _, _, _, _, _, _, _, _, _, _, _, _, _, _, _, _, _, _, _, _, _ => none
  | k + 1, x5, x6, x7, x548000, x548001, x548002, x548003, x548004, x548005, x548006, x548007, x548008, x548009, x548010, x549000, x549001, x549002, x549003, x549004, x549005, x549006, x549007, x549008, x549009 => if x549003 = true then (ip4_Build.j1 k x5 x6 (Go.bits .or .u16 x7 8192) x548000 x548001 x548002 x548003 x548004 x548005 x548006 x548007 x548008 x548009 x548010 x549000 x549001 x549002 x549003 x549004 x549005 x549006 x549007 x549008 x549009) else (ip4_Build.j1 k x5 x6 x7 x548000 x548001 x548002 x548003 x548004 x548005 x548006 x548007 x548008 x548009 x548010 x549000 x549001 x549002 x549003 x549004 x549005 x549006 x549007 x549008 x549009)
def ip4_Build.j1 : Nat → Int → List Int → Int → Int → Int → Bool → Bool → Int → Int → Int → Int → Int → List Int → List Int → Int → Int → Bool → Bool → Int → Int → Int → Int → Int → List Int → Option (List Int × Int)
  | 0, _, _, _, _, _, _, _, _, _, _, _, _, _, _, _, _, _, _, _, _, _, _, _, _ => none
  | k + 1, x5, x6, x7, x548000, x548001, x548002, x548003, x548004, x548005, x548006, x548007, x548008, x548009, x548010, x549000, x549001, x549002, x549003, x549004, x549005, x549006, x549007, x549008, x549009 => (ip4_putWord.f x6 6 x7).bind fun t558 => (if 8 < (x6.length : Int) then (if 9 < (x6.length : Int) then ((ip4_putLong.f ((t558.set (8 : Int).toNat x549005).set (9 : Int).toNat x549006) 12 x549007).bind fun t561 => ((ip4_putLong.f t561 16 x549008).bind fun t562 => (if 20 ≤ (x6.length : Int) then (if 0 ≤ x5 then (if x5 ≤ (x6.length : Int) then ((some (cpy (cpy t562 20 x549009) ((x5 : Int).toNat) x548010 : List Int)).bind fun y572 => (if 10 ≤ (x6.length : Int) then (if 12 ≤ x5 then ((ip4_Sum.f k (([(y572.take 10), ((y572.take (x5 : Int).toNat).drop 12)] : List (List Int)))).bind fun t585 => ((ip4_putWord.f y572 10 t585).bind fun t586 => (some (t586, 0)))) else (none)) else (none))) else (none)) else (none)) else (none)))) else (none)) else (none))
end
def ip4_Build.f (k : Nat) (a0_0 : Int) (a0_1 : Int) (a0_2 : Bool) (a0_3 : Bool) (a0_4 : Int) (a0_5 : Int) (a0_6 : Int) (a0_7 : Int) (a0_8 : Int) (l0_9 : List Int) (l0_10 : List Int) : Option (List Int × Int) := (ip4_optionsOK.f k l0_9).bind fun t549 => (if t549 = true then ((ip4_orderly.f a0_4 (l0_10.length : Int) a0_3).bind fun t550 => (if t550 = true then (if (wrap64 ((wrap64 (20 + (l0_9.length : Int))) + (l0_10.length : Int))) > 65535 then (some (([] : List Int), 37)) else (if 0 ≤ (wrap64 ((wrap64 (20 + (l0_9.length : Int))) + (l0_10.length : Int))) then (if (wrap64 ((wrap64 (20 + (l0_9.length : Int))) + (l0_10.length : Int)) : Int).toNat ≤ 281474976710656 then ((some (List.replicate (wrap64 ((wrap64 (20 + (l0_9.length : Int))) + (l0_10.length : Int)) : Int).toNat 0 : List Int)).bind fun y551 => (if 0 < (y551.length : Int) then (if 1 < (y551.length : Int) then ((ip4_putWord.f ((y551.set (0 : Int).toNat ((Go.bits .or .i64 64 (wrap64 (Int.tdiv (wrap64 (20 + (l0_9.length : Int))) 4))) % 256)).set (1 : Int).toNat a0_0) 2 (IntKind.u16.wrap ((y551.length : Int)))).bind fun t556 => ((ip4_putWord.f t556 4 a0_1).bind fun t557 => (if a0_2 = true then (ip4_Build.j0 k (wrap64 (20 + (l0_9.length : Int))) t557 (Go.bits .or .u16 (IntKind.u16.wrap (wrap64 (Int.tdiv a0_4 8))) 16384) a0_0 a0_1 a0_2 a0_3 a0_4 a0_5 a0_6 a0_7 a0_8 l0_9 l0_10 a0_0 a0_1 a0_2 a0_3 a0_4 a0_5 a0_6 a0_7 a0_8 l0_9) else (ip4_Build.j0 k (wrap64 (20 + (l0_9.length : Int))) t557 (IntKind.u16.wrap (wrap64 (Int.tdiv a0_4 8))) a0_0 a0_1 a0_2 a0_3 a0_4 a0_5 a0_6 a0_7 a0_8 l0_9 l0_10 a0_0 a0_1 a0_2 a0_3 a0_4 a0_5 a0_6 a0_7 a0_8 l0_9)))) else (none)) else (none))) else (none)) else (none))) else (some (([] : List Int), 36)))) else (some (([] : List Int), 34)))
theorem ip4_Build.mono_l : ∀ k, (∀ y0 y1 y2 y3 y4 y5 y6 y7 y8 y9 y10 y11 y12 y13 y14 y15 y16 y17 y18 y19 y20 y21 y22 y23, LeO (ip4_Build.j0 k y0 y1 y2 y3 y4 y5 y6 y7 y8 y9 y10 y11 y12 y13 y14 y15 y16 y17 y18 y19 y20 y21 y22 y23) (ip4_Build.j0 (k + 1) y0 y1 y2 y3 y4 y5 y6 y7 y8 y9 y10 y11 y12 y13 y14 y15 y16 y17 y18 y19 y20 y21 y22 y23)) ∧ (∀ y0 y1 y2 y3 y4 y5 y6 y7 y8 y9 y10 y11 y12 y13 y14 y15 y16 y17 y18 y19 y20 y21 y22 y23, LeO (ip4_Build.j1 k y0 y1 y2 y3 y4 y5 y6 y7 y8 y9 y10 y11 y12 y13 y14 y15 y16 y17 y18 y19 y20 y21 y22 y23) (ip4_Build.j1 (k + 1) y0 y1 y2 y3 y4 y5 y6 y7 y8 y9 y10 y11 y12 y13 y14 y15 y16 y17 y18 y19 y20 y21 y22 y23))
  | 0 => ⟨fun _ _ _ _ _ _ _ _ _ _ _ _ _ _ _ _ _ _ _ _ _ _ _ _ r h => by simp [ip4_Build.j0] at h, fun _ _ _ _ _ _ _ _ _ _ _ _ _ _ _ _ _ _ _ _ _ _ _ _ r h => by simp [ip4_Build.j1] at h⟩
  | k + 1 => by
    obtain ⟨ih0, ih1⟩ := ip4_Build.mono_l k
    refine ⟨?_, ?_⟩
    · intro y0 y1 y2 y3 y4 y5 y6 y7 y8 y9 y10 y11 y12 y13 y14 y15 y16 y17 y18 y19 y20 y21 y22 y23
      unfold ip4_Build.j0
      repeat' first
      | (with_reducible exact ih0 _ _ _ _ _ _ _ _ _ _ _ _ _ _ _ _ _ _ _ _ _ _ _ _)
      | (with_reducible exact ih1 _ _ _ _ _ _ _ _ _ _ _ _ _ _ _ _ _ _ _ _ _ _ _ _)
      | (with_reducible exact ip4_Sum.mono _ _)
      | (with_reducible exact ip4_optionsOK.mono _ _)
      | (with_reducible exact LeO.refl _)
      | (with_reducible exact LeO.none _)
      | (with_reducible refine LeO.ite ?_ ?_)
      | (with_reducible refine LeO.bind ?_ (fun _ => ?_))
      | exact ih0 _ _ _ _ _ _ _ _ _ _ _ _ _ _ _ _ _ _ _ _ _ _ _ _
      | exact ih1 _ _ _ _ _ _ _ _ _ _ _ _ _ _ _ _ _ _ _ _ _ _ _ _
      | exact ip4_Sum.mono _ _
      | exact ip4_optionsOK.mono _ _
      | exact LeO.none _
      | refine LeO.ite ?_ ?_
      | refine LeO.bind ?_ (fun _ => ?_)
    · intro y0 y1 y2 y3 y4 y5 y6 y7 y8 y9 y10 y11 y12 y13 y14 y15 y16 y17 y18 y19 y20 y21 y22 y23
      unfold ip4_Build.j1
      repeat' first
      | (with_reducible exact ih0 _ _ _ _ _ _ _ _ _ _ _ _ _ _ _ _ _ _ _ _ _ _ _ _)
      | (with_reducible exact ih1 _ _ _ _ _ _ _ _ _ _ _ _ _ _ _ _ _ _ _ _ _ _ _ _)
      | (with_reducible exact ip4_Sum.mono _ _)
      | (with_reducible exact ip4_optionsOK.mono _ _)
      | (with_reducible exact LeO.refl _)
      | (with_reducible exact LeO.none _)
      | (with_reducible refine LeO.ite ?_ ?_)
      | (with_reducible refine LeO.bind ?_ (fun _ => ?_))
      | exact ih0 _ _ _ _ _ _ _ _ _ _ _ _ _ _ _ _ _ _ _ _ _ _ _ _
      | exact ih1 _ _ _ _ _ _ _ _ _ _ _ _ _ _ _ _ _ _ _ _ _ _ _ _
      | exact ip4_Sum.mono _ _
      | exact ip4_optionsOK.mono _ _
      | exact LeO.none _
      | refine LeO.ite ?_ ?_
      | refine LeO.bind ?_ (fun _ => ?_)
theorem ip4_Build.mono : ∀ a0 a1 a2 a3 a4 a5 a6 a7 a8 a9 a10 k, LeO (ip4_Build.f k a0 a1 a2 a3 a4 a5 a6 a7 a8 a9 a10) (ip4_Build.f (k + 1) a0 a1 a2 a3 a4 a5 a6 a7 a8 a9 a10) := by
  intro a0 a1 a2 a3 a4 a5 a6 a7 a8 a9 a10 k
  obtain ⟨ih0, ih1⟩ := ip4_Build.mono_l k
  unfold ip4_Build.f
  repeat' first
      | (with_reducible exact ih0 _ _ _ _ _ _ _ _ _ _ _ _ _ _ _ _ _ _ _ _ _ _ _ _)
      | (with_reducible exact ih1 _ _ _ _ _ _ _ _ _ _ _ _ _ _ _ _ _ _ _ _ _ _ _ _)
      | (with_reducible exact ip4_Sum.mono _ _)
      | (with_reducible exact ip4_optionsOK.mono _ _)
      | (with_reducible exact LeO.refl _)
      | (with_reducible exact LeO.none _)
      | (with_reducible refine LeO.ite ?_ ?_)
      | (with_reducible refine LeO.bind ?_ (fun _ => ?_))
      | exact ih0 _ _ _ _ _ _ _ _ _ _ _ _ _ _ _ _ _ _ _ _ _ _ _ _
      | exact ih1 _ _ _ _ _ _ _ _ _ _ _ _ _ _ _ _ _ _ _ _ _ _ _ _
      | exact ip4_Sum.mono _ _
      | exact ip4_optionsOK.mono _ _
      | exact LeO.none _
      | refine LeO.ite ?_ ?_
      | refine LeO.bind ?_ (fun _ => ?_)
def ip4_Build.T10 : Bool × List (List Nat × List Nat) := (true, [([], []), ([], []), ([], []), ([2], [2]), ([3], [3]), ([4], [4]), ([], []), ([6], [6]), ([0, 0, 2, 3, 4, 5], [0]), ([8, 5, 0, 2, 3, 4, 5], [5, 8]), ([1, 0, 1, 2, 3, 4, 5, 6, 7, 8, 9], [1]), ([10, 7, 9, 0, 1, 2, 3, 4, 5, 6, 7, 8, 9], [7, 10])])
def ip4_Build.B10 : List Nat := [0, 0, 0, 4, 12, 28, 0, 64, 61, 317, 1023, 2047]
theorem ip4_Build.tab10 : rtab .any (opsOf Try.f36 10) = ip4_Build.T10 := by kernel_rfl
theorem ip4_Build.bits10 : waitsOk ip4_Build.T10.2 ip4_Build.B10 = true := by kernel_rfl
def ip4_Build.T19 : Bool × List (List Nat × List Nat) := (true, [([], []), ([], []), ([], []), ([2], [2]), ([], []), ([4], [4]), ([0, 0, 2, 3], [0]), ([6, 3, 0, 2, 3], [3, 6]), ([1, 0, 1, 2, 3, 4, 5, 6, 7], [1]), ([8, 5, 7, 0, 1, 2, 3, 4, 5, 6, 7], [5, 8])])
def ip4_Build.B19 : List Nat := [0, 0, 0, 4, 0, 16, 13, 77, 255, 511]
theorem ip4_Build.tab19 : rtab .any (opsOf Try.f36 19) = ip4_Build.T19 := by kernel_rfl
theorem ip4_Build.bits19 : waitsOk ip4_Build.T19.2 ip4_Build.B19 = true := by kernel_rfl
def ip4_Build.T24 : Bool × List (List Nat × List Nat) := (true, [([], []), ([], []), ([1], [1]), ([], []), ([], []), ([3, 4], [3, 4]), ([2, 5], [2, 5]), ([6], [6]), ([0, 7, 7], [0, 7])])
def ip4_Build.B24 : List Nat := [0, 0, 2, 0, 0, 24, 62, 126, 255]
theorem ip4_Build.tab24 : rtab .any (opsOf Try.f36 24) = ip4_Build.T24 := by kernel_rfl
theorem ip4_Build.bits24 : waitsOk ip4_Build.T24.2 ip4_Build.B24 = true := by kernel_rfl
set_option maxHeartbeats 8000000 in
set_option maxRecDepth 100000 in
theorem ip4_Build.calls (k : Nat) (a0_0 : Int) (a0_1 : Int) (a0_2 : Bool) (a0_3 : Bool) (a0_4 : Int) (a0_5 : Int) (a0_6 : Int) (a0_7 : Int) (a0_8 : Int) (A0_9 : Option Addr) (c0_9 : Nat) (l0_9 : List Int) (A0_10 : Option Addr) (c0_10 : Nat) (l0_10 : List Int) (r1 : List Int) (r2 : Int) (w : World) (hr0_9 : Kd.C (Kd.int .u8) w A0_9 l0_9.length l0_9) (hc0_9 : l0_9.length ≤ c0_9) (hr0_10 : Kd.C (Kd.int .u8) w A0_10 l0_10.length l0_10) (hc0_10 : l0_10.length ≤ c0_10) (h : ip4_Build.f k a0_0 a0_1 a0_2 a0_3 a0_4 a0_5 a0_6 a0_7 a0_8 l0_9 l0_10 = some (r1, r2)) :
    Calls Try.prog 36 #[.agg #[.int .u8 a0_0, .int .u16 a0_1, .bool a0_2, .bool a0_3, .int .i64 a0_4, .int .u8 a0_5, .int .u8 a0_6, .int .u32 a0_7, .int .u32 a0_8, .slice A0_9 l0_9.length c0_9, .slice A0_10 l0_10.length c0_10]] w fun e w' => ∃ v0_ : Value, e = .returned (.tuple #[v0_, .int .i64 r2]) ∧ Kd.R (Kd.int .u8) 5 w' w.heap.size (fun _ => True) v0_ r1 ∧ Below w.heap.size w w' := by
  have hu33 := Try.underlying33
  have hu31 := Try.underlying31
  have HR0_9 := Aside0.mk hr0_9
  have HC0_9 := Aside0.mk hc0_9
  clear hr0_9 hc0_9
  have HR0_10 := Aside0.mk hr0_10
  have HC0_10 := Aside0.mk hc0_10
  clear hr0_10 hc0_10
  have HB := Aside0.mk (Below.refl w.heap.size w)
  have H : ((ip4_optionsOK.f k l0_9).bind fun t549 => (if t549 = true then ((ip4_orderly.f a0_4 (l0_10.length : Int) a0_3).bind fun t550 => (if t550 = true then (if (wrap64 ((wrap64 (20 + (l0_9.length : Int))) + (l0_10.length : Int))) > 65535 then (some (([] : List Int), 37)) else (if 0 ≤ (wrap64 ((wrap64 (20 + (l0_9.length : Int))) + (l0_10.length : Int))) then (if (wrap64 ((wrap64 (20 + (l0_9.length : Int))) + (l0_10.length : Int)) : Int).toNat ≤ 281474976710656 then ((some (List.replicate (wrap64 ((wrap64 (20 + (l0_9.length : Int))) + (l0_10.length : Int)) : Int).toNat 0 : List Int)).bind fun y551 => (if 0 < (y551.length : Int) then (if 1 < (y551.length : Int) then ((ip4_putWord.f ((y551.set (0 : Int).toNat ((Go.bits .or .i64 64 (wrap64 (Int.tdiv (wrap64 (20 + (l0_9.length : Int))) 4))) % 256)).set (1 : Int).toNat a0_0) 2 (IntKind.u16.wrap ((y551.length : Int)))).bind fun t556 => ((ip4_putWord.f t556 4 a0_1).bind fun t557 => (if a0_2 = true then (ip4_Build.j0 k (wrap64 (20 + (l0_9.length : Int))) t557 (Go.bits .or .u16 (IntKind.u16.wrap (wrap64 (Int.tdiv a0_4 8))) 16384) a0_0 a0_1 a0_2 a0_3 a0_4 a0_5 a0_6 a0_7 a0_8 l0_9 l0_10 a0_0 a0_1 a0_2 a0_3 a0_4 a0_5 a0_6 a0_7 a0_8 l0_9) else (ip4_Build.j0 k (wrap64 (20 + (l0_9.length : Int))) t557 (IntKind.u16.wrap (wrap64 (Int.tdiv a0_4 8))) a0_0 a0_1 a0_2 a0_3 a0_4 a0_5 a0_6 a0_7 a0_8 l0_9 l0_10 a0_0 a0_1 a0_2 a0_3 a0_4 a0_5 a0_6 a0_7 a0_8 l0_9)))) else (none)) else (none))) else (none)) else (none))) else (some (([] : List Int), 36)))) else (some (([] : List Int), 34)))) = some (r1, r2) := h
  clear h
  replace H := Option.bind_eq_some_iff.mp H
  obtain ⟨t549, A20, H⟩ := H
  replace H : (if t549 = true then ((ip4_orderly.f a0_4 (l0_10.length : Int) a0_3).bind fun t550 => (if t550 = true then (if (wrap64 ((wrap64 (20 + (l0_9.length : Int))) + (l0_10.length : Int))) > 65535 then (some (([] : List Int), 37)) else (if 0 ≤ (wrap64 ((wrap64 (20 + (l0_9.length : Int))) + (l0_10.length : Int))) then (if (wrap64 ((wrap64 (20 + (l0_9.length : Int))) + (l0_10.length : Int)) : Int).toNat ≤ 281474976710656 then ((some (List.replicate (wrap64 ((wrap64 (20 + (l0_9.length : Int))) + (l0_10.length : Int)) : Int).toNat 0 : List Int)).bind fun y551 => (if 0 < (y551.length : Int) then (if 1 < (y551.length : Int) then ((ip4_putWord.f ((y551.set (0 : Int).toNat ((Go.bits .or .i64 64 (wrap64 (Int.tdiv (wrap64 (20 + (l0_9.length : Int))) 4))) % 256)).set (1 : Int).toNat a0_0) 2 (IntKind.u16.wrap ((y551.length : Int)))).bind fun t556 => ((ip4_putWord.f t556 4 a0_1).bind fun t557 => (if a0_2 = true then (ip4_Build.j0 k (wrap64 (20 + (l0_9.length : Int))) t557 (Go.bits .or .u16 (IntKind.u16.wrap (wrap64 (Int.tdiv a0_4 8))) 16384) a0_0 a0_1 a0_2 a0_3 a0_4 a0_5 a0_6 a0_7 a0_8 l0_9 l0_10 a0_0 a0_1 a0_2 a0_3 a0_4 a0_5 a0_6 a0_7 a0_8 l0_9) else (ip4_Build.j0 k (wrap64 (20 + (l0_9.length : Int))) t557 (IntKind.u16.wrap (wrap64 (Int.tdiv a0_4 8))) a0_0 a0_1 a0_2 a0_3 a0_4 a0_5 a0_6 a0_7 a0_8 l0_9 l0_10 a0_0 a0_1 a0_2 a0_3 a0_4 a0_5 a0_6 a0_7 a0_8 l0_9)))) else (none)) else (none))) else (none)) else (none))) else (some (([] : List Int), 36)))) else (some (([] : List Int), 34))) = some (r1, r2) := H
  have A2 := Aside0.mk A20
  clear A20
  by_cases c3 : t549 = true
  · subst c3
    have H1 : ((ip4_orderly.f a0_4 (l0_10.length : Int) a0_3).bind fun t550 => (if t550 = true then (if (wrap64 ((wrap64 (20 + (l0_9.length : Int))) + (l0_10.length : Int))) > 65535 then (some (([] : List Int), 37)) else (if 0 ≤ (wrap64 ((wrap64 (20 + (l0_9.length : Int))) + (l0_10.length : Int))) then (if (wrap64 ((wrap64 (20 + (l0_9.length : Int))) + (l0_10.length : Int)) : Int).toNat ≤ 281474976710656 then ((some (List.replicate (wrap64 ((wrap64 (20 + (l0_9.length : Int))) + (l0_10.length : Int)) : Int).toNat 0 : List Int)).bind fun y551 => (if 0 < (y551.length : Int) then (if 1 < (y551.length : Int) then ((ip4_putWord.f ((y551.set (0 : Int).toNat ((Go.bits .or .i64 64 (wrap64 (Int.tdiv (wrap64 (20 + (l0_9.length : Int))) 4))) % 256)).set (1 : Int).toNat a0_0) 2 (IntKind.u16.wrap ((y551.length : Int)))).bind fun t556 => ((ip4_putWord.f t556 4 a0_1).bind fun t557 => (if a0_2 = true then (ip4_Build.j0 k (wrap64 (20 + (l0_9.length : Int))) t557 (Go.bits .or .u16 (IntKind.u16.wrap (wrap64 (Int.tdiv a0_4 8))) 16384) a0_0 a0_1 a0_2 a0_3 a0_4 a0_5 a0_6 a0_7 a0_8 l0_9 l0_10 a0_0 a0_1 a0_2 a0_3 a0_4 a0_5 a0_6 a0_7 a0_8 l0_9) else (ip4_Build.j0 k (wrap64 (20 + (l0_9.length : Int))) t557 (IntKind.u16.wrap (wrap64 (Int.tdiv a0_4 8))) a0_0 a0_1 a0_2 a0_3 a0_4 a0_5 a0_6 a0_7 a0_8 l0_9 l0_10 a0_0 a0_1 a0_2 a0_3 a0_4 a0_5 a0_6 a0_7 a0_8 l0_9)))) else (none)) else (none))) else (none)) else (none))) else (some (([] : List Int), 36)))) = some (r1, r2) := by rw [if_pos rfl] at H; exact H
    clear H
    have H := H1
    clear H1
    replace H := Option.bind_eq_some_iff.mp H
    obtain ⟨t550, A40, H⟩ := H
    replace H : (if t550 = true then (if (wrap64 ((wrap64 (20 + (l0_9.length : Int))) + (l0_10.length : Int))) > 65535 then (some (([] : List Int), 37)) else (if 0 ≤ (wrap64 ((wrap64 (20 + (l0_9.length : Int))) + (l0_10.length : Int))) then (if (wrap64 ((wrap64 (20 + (l0_9.length : Int))) + (l0_10.length : Int)) : Int).toNat ≤ 281474976710656 then ((some (List.replicate (wrap64 ((wrap64 (20 + (l0_9.length : Int))) + (l0_10.length : Int)) : Int).toNat 0 : List Int)).bind fun y551 => (if 0 < (y551.length : Int) then (if 1 < (y551.length : Int) then ((ip4_putWord.f ((y551.set (0 : Int).toNat ((Go.bits .or .i64 64 (wrap64 (Int.tdiv (wrap64 (20 + (l0_9.length : Int))) 4))) % 256)).set (1 : Int).toNat a0_0) 2 (IntKind.u16.wrap ((y551.length : Int)))).bind fun t556 => ((ip4_putWord.f t556 4 a0_1).bind fun t557 => (if a0_2 = true then (ip4_Build.j0 k (wrap64 (20 + (l0_9.length : Int))) t557 (Go.bits .or .u16 (IntKind.u16.wrap (wrap64 (Int.tdiv a0_4 8))) 16384) a0_0 a0_1 a0_2 a0_3 a0_4 a0_5 a0_6 a0_7 a0_8 l0_9 l0_10 a0_0 a0_1 a0_2 a0_3 a0_4 a0_5 a0_6 a0_7 a0_8 l0_9) else (ip4_Build.j0 k (wrap64 (20 + (l0_9.length : Int))) t557 (IntKind.u16.wrap (wrap64 (Int.tdiv a0_4 8))) a0_0 a0_1 a0_2 a0_3 a0_4 a0_5 a0_6 a0_7 a0_8 l0_9 l0_10 a0_0 a0_1 a0_2 a0_3 a0_4 a0_5 a0_6 a0_7 a0_8 l0_9)))) else (none)) else (none))) else (none)) else (none))) else (some (([] : List Int), 36))) = some (r1, r2) := H
    have A4 := Aside0.mk A40
    clear A40
    by_cases c5 : t550 = true
    · subst c5
      have H1 : (if (wrap64 ((wrap64 (20 + (l0_9.length : Int))) + (l0_10.length : Int))) > 65535 then (some (([] : List Int), 37)) else (if 0 ≤ (wrap64 ((wrap64 (20 + (l0_9.length : Int))) + (l0_10.length : Int))) then (if (wrap64 ((wrap64 (20 + (l0_9.length : Int))) + (l0_10.length : Int)) : Int).toNat ≤ 281474976710656 then ((some (List.replicate (wrap64 ((wrap64 (20 + (l0_9.length : Int))) + (l0_10.length : Int)) : Int).toNat 0 : List Int)).bind fun y551 => (if 0 < (y551.length : Int) then (if 1 < (y551.length : Int) then ((ip4_putWord.f ((y551.set (0 : Int).toNat ((Go.bits .or .i64 64 (wrap64 (Int.tdiv (wrap64 (20 + (l0_9.length : Int))) 4))) % 256)).set (1 : Int).toNat a0_0) 2 (IntKind.u16.wrap ((y551.length : Int)))).bind fun t556 => ((ip4_putWord.f t556 4 a0_1).bind fun t557 => (if a0_2 = true then (ip4_Build.j0 k (wrap64 (20 + (l0_9.length : Int))) t557 (Go.bits .or .u16 (IntKind.u16.wrap (wrap64 (Int.tdiv a0_4 8))) 16384) a0_0 a0_1 a0_2 a0_3 a0_4 a0_5 a0_6 a0_7 a0_8 l0_9 l0_10 a0_0 a0_1 a0_2 a0_3 a0_4 a0_5 a0_6 a0_7 a0_8 l0_9) else (ip4_Build.j0 k (wrap64 (20 + (l0_9.length : Int))) t557 (IntKind.u16.wrap (wrap64 (Int.tdiv a0_4 8))) a0_0 a0_1 a0_2 a0_3 a0_4 a0_5 a0_6 a0_7 a0_8 l0_9 l0_10 a0_0 a0_1 a0_2 a0_3 a0_4 a0_5 a0_6 a0_7 a0_8 l0_9)))) else (none)) else (none))) else (none)) else (none))) = some (r1, r2) := by rw [if_pos rfl] at H; exact H
      clear H
      have H := H1
      clear H1
      by_cases c6 : (wrap64 ((wrap64 (20 + (l0_9.length : Int))) + (l0_10.length : Int))) > 65535
      · rw [if_pos c6] at H
        have c6b0 : decide (65535 < (wrap64 ((wrap64 (20 + (l0_9.length : Int))) + (l0_10.length : Int)))) = true := decide_eq_true c6
        clear c6
        simp only [Option.some.injEq, Prod.mk.injEq] at H
        obtain ⟨rfl, rfl⟩ := H
        go_enter Try.func36, Try.ntmps36
        go_wp2_with (first | ((with_reducible refine gate_dst (N := 1) rfl ?_); refine box_event ?hg (N := 1) ?hd (cs := #[.int .u8 a0_0, .int .u16 a0_1, .bool a0_2, .bool a0_3, .int .i64 a0_4, .int .u8 a0_5, .int .u8 a0_6, .int .u32 a0_7, .int .u32 a0_8, .slice A0_9 l0_9.length c0_9, .slice A0_10 l0_10.length c0_10]) (t := 33) ?hr ?_; (case hd => rfl); (case hg => rfl); (case hr => first | (go_simp; done) | (go_simp; rfl)); intro gb547 hg w7 hbox hb; have n0_ := Aside0.mk (below_step zq14_7 hb); have n1_ := Aside0.mk (hbox); have n2_ := Aside0.mk ((by rw [hg]; exact (below_size zq14_7) : w.heap.size ≤ gb547)); have n3_ := Aside0.mk ((by rw [hg]; exact (below_size zq14_7) : w.heap.size ≤ gb547)); clear HB; have HB := n0_; have BK547 := n1_; have GW547 := n2_; have GE547 := n3_; clear n0_ n1_ n2_ n3_; clear hb hbox hg; have hcz8_0 : w7.cell? ⟨gb547, 0, none⟩ = some (.int .u8 a0_0) := (blk_cell BK547.out 0).trans rfl; have hcz8_1 : w7.cell? ⟨gb547, 1, none⟩ = some (.int .u16 a0_1) := (blk_cell BK547.out 1).trans rfl; have hcz8_2 : w7.cell? ⟨gb547, 2, none⟩ = some (.bool a0_2) := (blk_cell BK547.out 2).trans rfl; have hcz8_3 : w7.cell? ⟨gb547, 3, none⟩ = some (.bool a0_3) := (blk_cell BK547.out 3).trans rfl; have hcz8_4 : w7.cell? ⟨gb547, 4, none⟩ = some (.int .i64 a0_4) := (blk_cell BK547.out 4).trans rfl; have hcz8_5 : w7.cell? ⟨gb547, 5, none⟩ = some (.int .u8 a0_5) := (blk_cell BK547.out 5).trans rfl; have hcz8_6 : w7.cell? ⟨gb547, 6, none⟩ = some (.int .u8 a0_6) := (blk_cell BK547.out 6).trans rfl; have hcz8_7 : w7.cell? ⟨gb547, 7, none⟩ = some (.int .u32 a0_7) := (blk_cell BK547.out 7).trans rfl; have hcz8_8 : w7.cell? ⟨gb547, 8, none⟩ = some (.int .u32 a0_8) := (blk_cell BK547.out 8).trans rfl; have hcz8_9 : w7.cell? ⟨gb547, 9, none⟩ = some (.slice A0_9 l0_9.length c0_9) := (blk_cell BK547.out 9).trans rfl; have hcz8_10 : w7.cell? ⟨gb547, 10, none⟩ = some (.slice A0_10 l0_10.length c0_10) := (blk_cell BK547.out 10).trans rfl; have hfz8_0 := blk_frozen BK547.out 0; have hfz8_1 := blk_frozen BK547.out 1; have hfz8_2 := blk_frozen BK547.out 2; have hfz8_3 := blk_frozen BK547.out 3; have hfz8_4 := blk_frozen BK547.out 4; have hfz8_5 := blk_frozen BK547.out 5; have hfz8_6 := blk_frozen BK547.out 6; have hfz8_7 := blk_frozen BK547.out 7; have hfz8_8 := blk_frozen BK547.out 8; have hfz8_9 := blk_frozen BK547.out 9; have hfz8_10 := blk_frozen BK547.out 10) | ((with_reducible refine gate_dst (N := 4) rfl ?_); refine box_event ?hg (N := 4) ?hd (cs := #[.int .u8 0, .int .u16 0, .bool false, .bool false, .int .i64 0, .int .u8 0, .int .u8 0, .int .u32 0, .int .u32 0, .slice none 0 0]) (t := 31) ?hr ?_; (case hd => rfl); (case hg => rfl); (case hr => first | (go_simp; done) | (go_simp; rfl)); intro gb548 hg w9 hbox hb; have n0_ := Aside0.mk (blk_below (g := gb547) (o := .cells #[.int .u8 a0_0, .int .u16 a0_1, .bool a0_2, .bool a0_3, .int .i64 a0_4, .int .u8 a0_5, .int .u8 a0_6, .int .u32 a0_7, .int .u32 a0_8, .slice A0_9 l0_9.length c0_9, .slice A0_10 l0_10.length c0_10] 33 (0, 0)) zq14_0 hb); have n1_ := Aside0.mk (below_step zq14_3 hb); have n2_ := Aside0.mk (hbox); have n3_ := Aside0.mk ((by rw [hg]; exact (below_size zq14_3) : w.heap.size ≤ gb548)); have n4_ := Aside0.mk ((by rw [hg]; exact (below_size zq14_3) : w.heap.size ≤ gb548)); have n5_ := Aside0.mk ((by rw [hg]; exact Nat.ne_of_lt (blk_lt (g := gb547) (o := .cells #[.int .u8 a0_0, .int .u16 a0_1, .bool a0_2, .bool a0_3, .int .i64 a0_4, .int .u8 a0_5, .int .u8 a0_6, .int .u32 a0_7, .int .u32 a0_8, .slice A0_9 l0_9.length c0_9, .slice A0_10 l0_10.length c0_10] 33 (0, 0)) zq14_0) : gb547 ≠ gb548)); have n6_ := Aside0.mk ((by rw [hg]; exact Nat.ne_of_gt (blk_lt (g := gb547) (o := .cells #[.int .u8 a0_0, .int .u16 a0_1, .bool a0_2, .bool a0_3, .int .i64 a0_4, .int .u8 a0_5, .int .u8 a0_6, .int .u32 a0_7, .int .u32 a0_8, .slice A0_9 l0_9.length c0_9, .slice A0_10 l0_10.length c0_10] 33 (0, 0)) zq14_0) : gb548 ≠ gb547)); clear BK547; clear HB; have BK547 := n0_; have HB := n1_; have BK548 := n2_; have GW548 := n3_; have GE548 := n4_; have NB547_548 := n5_; have NB548_547 := n6_; clear n0_ n1_ n2_ n3_ n4_ n5_ n6_; clear hb hbox hg; have hnb10 := NB548_547.out; have hnc10 := NB547_548.out; have hcz11_0 : w9.cell? ⟨gb548, 0, none⟩ = some (.int .u8 0) := (blk_cell BK548.out 0).trans rfl; have hcz11_1 : w9.cell? ⟨gb548, 1, none⟩ = some (.int .u16 0) := (blk_cell BK548.out 1).trans rfl; have hcz11_2 : w9.cell? ⟨gb548, 2, none⟩ = some (.bool false) := (blk_cell BK548.out 2).trans rfl; have hcz11_3 : w9.cell? ⟨gb548, 3, none⟩ = some (.bool false) := (blk_cell BK548.out 3).trans rfl; have hcz11_4 : w9.cell? ⟨gb548, 4, none⟩ = some (.int .i64 0) := (blk_cell BK548.out 4).trans rfl; have hcz11_5 : w9.cell? ⟨gb548, 5, none⟩ = some (.int .u8 0) := (blk_cell BK548.out 5).trans rfl; have hcz11_6 : w9.cell? ⟨gb548, 6, none⟩ = some (.int .u8 0) := (blk_cell BK548.out 6).trans rfl; have hcz11_7 : w9.cell? ⟨gb548, 7, none⟩ = some (.int .u32 0) := (blk_cell BK548.out 7).trans rfl; have hcz11_8 : w9.cell? ⟨gb548, 8, none⟩ = some (.int .u32 0) := (blk_cell BK548.out 8).trans rfl; have hcz11_9 : w9.cell? ⟨gb548, 9, none⟩ = some (.slice none 0 0) := (blk_cell BK548.out 9).trans rfl; have hfz11_0 := blk_frozen BK548.out 0; have hfz11_1 := blk_frozen BK548.out 1; have hfz11_2 := blk_frozen BK548.out 2; have hfz11_3 := blk_frozen BK548.out 3; have hfz11_4 := blk_frozen BK548.out 4; have hfz11_5 := blk_frozen BK548.out 5; have hfz11_6 := blk_frozen BK548.out 6; have hfz11_7 := blk_frozen BK548.out 7; have hfz11_8 := blk_frozen BK548.out 8; have hfz11_9 := blk_frozen BK548.out 9) | ((with_reducible refine gate_callee (f := 50) rfl ?_); refine goesL_ (some 13) rfl rfl Try.func50 (by kernel_rfl) rfl #[.slice A0_9 l0_9.length c0_9] rfl zq14_4 ?_; (with_reducible refine (ip4_optionsOK.calls k _ _ l0_9 true _ ?side1 ?side2 A2.out).mono ?_); (case side1 => exact Kd.C_below HR0_9.out zq14_6); (case side2 => exact HC0_9.out); rintro e w' ⟨rfl, ⟨nd, rfl⟩⟩; refine ⟨_, rfl, ?_⟩; have hcz12_0 : w9.cell? ⟨gb547, 0, none⟩ = some (.int .u8 a0_0) := (blk_cell BK547.out 0).trans rfl; have hcz12_1 : w9.cell? ⟨gb547, 1, none⟩ = some (.int .u16 a0_1) := (blk_cell BK547.out 1).trans rfl; have hcz12_2 : w9.cell? ⟨gb547, 2, none⟩ = some (.bool a0_2) := (blk_cell BK547.out 2).trans rfl; have hcz12_3 : w9.cell? ⟨gb547, 3, none⟩ = some (.bool a0_3) := (blk_cell BK547.out 3).trans rfl; have hcz12_4 : w9.cell? ⟨gb547, 4, none⟩ = some (.int .i64 a0_4) := (blk_cell BK547.out 4).trans rfl; have hcz12_5 : w9.cell? ⟨gb547, 5, none⟩ = some (.int .u8 a0_5) := (blk_cell BK547.out 5).trans rfl; have hcz12_6 : w9.cell? ⟨gb547, 6, none⟩ = some (.int .u8 a0_6) := (blk_cell BK547.out 6).trans rfl; have hcz12_7 : w9.cell? ⟨gb547, 7, none⟩ = some (.int .u32 a0_7) := (blk_cell BK547.out 7).trans rfl; have hcz12_8 : w9.cell? ⟨gb547, 8, none⟩ = some (.int .u32 a0_8) := (blk_cell BK547.out 8).trans rfl; have hcz12_9 : w9.cell? ⟨gb547, 9, none⟩ = some (.slice A0_9 l0_9.length c0_9) := (blk_cell BK547.out 9).trans rfl; have hcz12_10 : w9.cell? ⟨gb547, 10, none⟩ = some (.slice A0_10 l0_10.length c0_10) := (blk_cell BK547.out 10).trans rfl; have hfz12_0 := blk_frozen BK547.out 0; have hfz12_1 := blk_frozen BK547.out 1; have hfz12_2 := blk_frozen BK547.out 2; have hfz12_3 := blk_frozen BK547.out 3; have hfz12_4 := blk_frozen BK547.out 4; have hfz12_5 := blk_frozen BK547.out 5; have hfz12_6 := blk_frozen BK547.out 6; have hfz12_7 := blk_frozen BK547.out 7; have hfz12_8 := blk_frozen BK547.out 8; have hfz12_9 := blk_frozen BK547.out 9; have hfz12_10 := blk_frozen BK547.out 10) | ((with_reducible refine gate_callee (f := 51) rfl ?_); refine goesL_ (some 23) rfl rfl Try.func51 (by kernel_rfl) rfl #[.int .i64 a0_4, .int .i64 (l0_10.length : Int), .bool a0_3] rfl zq14_4 ?_; (with_reducible refine (ip4_orderly.calls a0_4 (l0_10.length : Int) a0_3 true _ A4.out).mono ?_); rintro e w' ⟨rfl, ⟨nd, rfl⟩⟩; refine ⟨_, rfl, ?_⟩))
        go_ret2
        exact ⟨_, by first | rfl | (simp [errW_none, errW_some] <;> rfl) | (simp [*, errW_none, errW_some] <;> rfl), by first | exact Kd.R_nil _ _ _ _ _ | exact Kd.N_nil _ _ _ _ _ | exact Kd.V_nil _ _ _ _ _ | exact Kd.Q_nil _ _ _ _ _ | exact Kd.S_nil _ _ _ _ _, by repeat (first | (with_reducible first | exact HB.out | apply below_alloc | apply pw_below_drewN | apply below_drew1 | refine below_set ?_ GE547.out | refine below_set ?_ GE548.out) | exact HB.out)⟩
      · rw [if_neg c6] at H
        have c6b0 : decide (65535 < (wrap64 ((wrap64 (20 + (l0_9.length : Int))) + (l0_10.length : Int)))) = false := decide_eq_false c6
        clear c6
        obtain ⟨ji13, hji13⟩ : ∃ j_ : Int, (wrap64 ((wrap64 (20 + (l0_9.length : Int))) + (l0_10.length : Int))) = j_ := ⟨_, rfl⟩
        replace H : (if 0 ≤ (ji13) then (if (ji13 : Int).toNat ≤ 281474976710656 then ((some (List.replicate (ji13 : Int).toNat 0 : List Int)).bind fun y551 => (if 0 < (y551.length : Int) then (if 1 < (y551.length : Int) then ((ip4_putWord.f ((y551.set (0 : Int).toNat ((Go.bits .or .i64 64 (wrap64 (Int.tdiv (wrap64 (20 + (l0_9.length : Int))) 4))) % 256)).set (1 : Int).toNat a0_0) 2 (IntKind.u16.wrap ((y551.length : Int)))).bind fun t556 => ((ip4_putWord.f t556 4 a0_1).bind fun t557 => (if a0_2 = true then (ip4_Build.j0 k (wrap64 (20 + (l0_9.length : Int))) t557 (Go.bits .or .u16 (IntKind.u16.wrap (wrap64 (Int.tdiv a0_4 8))) 16384) a0_0 a0_1 a0_2 a0_3 a0_4 a0_5 a0_6 a0_7 a0_8 l0_9 l0_10 a0_0 a0_1 a0_2 a0_3 a0_4 a0_5 a0_6 a0_7 a0_8 l0_9) else (ip4_Build.j0 k (wrap64 (20 + (l0_9.length : Int))) t557 (IntKind.u16.wrap (wrap64 (Int.tdiv a0_4 8))) a0_0 a0_1 a0_2 a0_3 a0_4 a0_5 a0_6 a0_7 a0_8 l0_9 l0_10 a0_0 a0_1 a0_2 a0_3 a0_4 a0_5 a0_6 a0_7 a0_8 l0_9)))) else (none)) else (none))) else (none)) else (none)) = some (r1, r2) := by first | (rw [hji13] at H; exact H) | (simp only [hji13] at H ⊢; exact H)
        (try rw [hji13] at c6b0)
        (try rw [hji13] at A2)
        (try rw [hji13] at A4)
        have hji13w : (IntKind.i64.wrap ((wrap64 (20 + (l0_9.length : Int))) + (l0_10.length : Int))) = ji13 := (i64_w _).trans hji13
        by_cases c14 : 0 ≤ (ji13)
        · rw [if_pos c14] at H
          have c14b0 := eq_true c14
          have c14b1 : decide (0 ≤ (ji13)) = true := decide_eq_true c14
          clear c14
          by_cases c15 : (ji13 : Int).toNat ≤ 281474976710656
          · rw [if_pos c15] at H
            have c15b0 := eq_true c15
            have c15b1 : decide ((ji13 : Int).toNat ≤ 281474976710656) = true := decide_eq_true c15
            clear c15
            obtain ⟨y551, hy551⟩ : ∃ y_ : List Int, y_ = (List.replicate (ji13 : Int).toNat 0) := ⟨_, rfl⟩
            replace H : (if 0 < (y551.length : Int) then (if 1 < (y551.length : Int) then ((ip4_putWord.f ((y551.set (0 : Int).toNat ((Go.bits .or .i64 64 (wrap64 (Int.tdiv (wrap64 (20 + (l0_9.length : Int))) 4))) % 256)).set (1 : Int).toNat a0_0) 2 (IntKind.u16.wrap ((y551.length : Int)))).bind fun t556 => ((ip4_putWord.f t556 4 a0_1).bind fun t557 => (if a0_2 = true then (ip4_Build.j0 k (wrap64 (20 + (l0_9.length : Int))) t557 (Go.bits .or .u16 (IntKind.u16.wrap (wrap64 (Int.tdiv a0_4 8))) 16384) a0_0 a0_1 a0_2 a0_3 a0_4 a0_5 a0_6 a0_7 a0_8 l0_9 l0_10 a0_0 a0_1 a0_2 a0_3 a0_4 a0_5 a0_6 a0_7 a0_8 l0_9) else (ip4_Build.j0 k (wrap64 (20 + (l0_9.length : Int))) t557 (IntKind.u16.wrap (wrap64 (Int.tdiv a0_4 8))) a0_0 a0_1 a0_2 a0_3 a0_4 a0_5 a0_6 a0_7 a0_8 l0_9 l0_10 a0_0 a0_1 a0_2 a0_3 a0_4 a0_5 a0_6 a0_7 a0_8 l0_9)))) else (none)) else (none)) = some (r1, r2) := by first | (rw [hy551]; with_reducible exact H) | (have H2_ := (Option.bind_some _ _).symm.trans H; rw [hy551]; with_reducible exact H2_) | (have H2_ := (Option.bind_some _ _).symm.trans H; with_reducible exact H2_) | with_reducible exact H | (rw [hy551]; exact H) | exact H
            have Ny551 := Aside0.mk hy551
            clear hy551
            by_cases c16 : 0 < (y551.length : Int)
            · rw [if_pos c16] at H
              have c16b0 : decide (0 < (y551.length : Int)) = true := decide_eq_true c16
              have c16b1 : decide (0 < y551.length) = true := decide_eq_true (by omega)
              clear c16
              obtain ⟨y554, hy554⟩ : ∃ y_ : List Int, y_ = (y551.set (0 : Int).toNat ((Go.bits .or .i64 64 (wrap64 (Int.tdiv (wrap64 (20 + (l0_9.length : Int))) 4))) % 256)) := ⟨_, rfl⟩
              replace H : (if 1 < (y551.length : Int) then ((ip4_putWord.f (y554.set (1 : Int).toNat a0_0) 2 (IntKind.u16.wrap ((y551.length : Int)))).bind fun t556 => ((ip4_putWord.f t556 4 a0_1).bind fun t557 => (if a0_2 = true then (ip4_Build.j0 k (wrap64 (20 + (l0_9.length : Int))) t557 (Go.bits .or .u16 (IntKind.u16.wrap (wrap64 (Int.tdiv a0_4 8))) 16384) a0_0 a0_1 a0_2 a0_3 a0_4 a0_5 a0_6 a0_7 a0_8 l0_9 l0_10 a0_0 a0_1 a0_2 a0_3 a0_4 a0_5 a0_6 a0_7 a0_8 l0_9) else (ip4_Build.j0 k (wrap64 (20 + (l0_9.length : Int))) t557 (IntKind.u16.wrap (wrap64 (Int.tdiv a0_4 8))) a0_0 a0_1 a0_2 a0_3 a0_4 a0_5 a0_6 a0_7 a0_8 l0_9 l0_10 a0_0 a0_1 a0_2 a0_3 a0_4 a0_5 a0_6 a0_7 a0_8 l0_9)))) else (none)) = some (r1, r2) := by first | (rw [hy554]; with_reducible exact H) | (have H2_ := (Option.bind_some _ _).symm.trans H; rw [hy554]; with_reducible exact H2_) | (have H2_ := (Option.bind_some _ _).symm.trans H; with_reducible exact H2_) | with_reducible exact H | (rw [hy554]; exact H) | exact H
              have Ny554 := Aside0.mk hy554
              clear hy554
              by_cases c18 : 1 < (y551.length : Int)
              · rw [if_pos c18] at H
                have c18b0 : decide (1 < (y551.length : Int)) = true := decide_eq_true c18
                have c18b1 : decide (1 < y551.length) = true := decide_eq_true (by omega)
                clear c18
                obtain ⟨y555, hy555⟩ : ∃ y_ : List Int, y_ = (y554.set (1 : Int).toNat a0_0) := ⟨_, rfl⟩
                replace H : ((ip4_putWord.f y555 2 (IntKind.u16.wrap ((y551.length : Int)))).bind fun t556 => ((ip4_putWord.f t556 4 a0_1).bind fun t557 => (if a0_2 = true then (ip4_Build.j0 k (wrap64 (20 + (l0_9.length : Int))) t557 (Go.bits .or .u16 (IntKind.u16.wrap (wrap64 (Int.tdiv a0_4 8))) 16384) a0_0 a0_1 a0_2 a0_3 a0_4 a0_5 a0_6 a0_7 a0_8 l0_9 l0_10 a0_0 a0_1 a0_2 a0_3 a0_4 a0_5 a0_6 a0_7 a0_8 l0_9) else (ip4_Build.j0 k (wrap64 (20 + (l0_9.length : Int))) t557 (IntKind.u16.wrap (wrap64 (Int.tdiv a0_4 8))) a0_0 a0_1 a0_2 a0_3 a0_4 a0_5 a0_6 a0_7 a0_8 l0_9 l0_10 a0_0 a0_1 a0_2 a0_3 a0_4 a0_5 a0_6 a0_7 a0_8 l0_9)))) = some (r1, r2) := by first | (rw [hy555]; with_reducible exact H) | (have H2_ := (Option.bind_some _ _).symm.trans H; rw [hy555]; with_reducible exact H2_) | (have H2_ := (Option.bind_some _ _).symm.trans H; with_reducible exact H2_) | with_reducible exact H | (rw [hy555]; exact H) | exact H
                have Ny555 := Aside0.mk hy555
                clear hy555
                replace H := Option.bind_eq_some_iff.mp H
                obtain ⟨t556, A200, H⟩ := H
                replace H : ((ip4_putWord.f t556 4 a0_1).bind fun t557 => (if a0_2 = true then (ip4_Build.j0 k (wrap64 (20 + (l0_9.length : Int))) t557 (Go.bits .or .u16 (IntKind.u16.wrap (wrap64 (Int.tdiv a0_4 8))) 16384) a0_0 a0_1 a0_2 a0_3 a0_4 a0_5 a0_6 a0_7 a0_8 l0_9 l0_10 a0_0 a0_1 a0_2 a0_3 a0_4 a0_5 a0_6 a0_7 a0_8 l0_9) else (ip4_Build.j0 k (wrap64 (20 + (l0_9.length : Int))) t557 (IntKind.u16.wrap (wrap64 (Int.tdiv a0_4 8))) a0_0 a0_1 a0_2 a0_3 a0_4 a0_5 a0_6 a0_7 a0_8 l0_9 l0_10 a0_0 a0_1 a0_2 a0_3 a0_4 a0_5 a0_6 a0_7 a0_8 l0_9))) = some (r1, r2) := H
                have A20 := Aside0.mk A200
                clear A200
                replace H := Option.bind_eq_some_iff.mp H
                obtain ⟨t557, A210, H⟩ := H
                replace H : (if a0_2 = true then (ip4_Build.j0 k (wrap64 (20 + (l0_9.length : Int))) t557 (Go.bits .or .u16 (IntKind.u16.wrap (wrap64 (Int.tdiv a0_4 8))) 16384) a0_0 a0_1 a0_2 a0_3 a0_4 a0_5 a0_6 a0_7 a0_8 l0_9 l0_10 a0_0 a0_1 a0_2 a0_3 a0_4 a0_5 a0_6 a0_7 a0_8 l0_9) else (ip4_Build.j0 k (wrap64 (20 + (l0_9.length : Int))) t557 (IntKind.u16.wrap (wrap64 (Int.tdiv a0_4 8))) a0_0 a0_1 a0_2 a0_3 a0_4 a0_5 a0_6 a0_7 a0_8 l0_9 l0_10 a0_0 a0_1 a0_2 a0_3 a0_4 a0_5 a0_6 a0_7 a0_8 l0_9)) = some (r1, r2) := H
                have A21 := Aside0.mk A210
                clear A210
                have HC22 := Aside0.mk H
                clear H
                go_enter Try.func36, Try.ntmps36
                try go_wp2_with (first | ((with_reducible refine gate_dst (N := 1) rfl ?_); refine box_event ?hg (N := 1) ?hd (cs := #[.int .u8 a0_0, .int .u16 a0_1, .bool a0_2, .bool a0_3, .int .i64 a0_4, .int .u8 a0_5, .int .u8 a0_6, .int .u32 a0_7, .int .u32 a0_8, .slice A0_9 l0_9.length c0_9, .slice A0_10 l0_10.length c0_10]) (t := 33) ?hr ?_; (case hd => rfl); (case hg => rfl); (case hr => first | (go_simp; done) | (go_simp; rfl)); intro gb547 hg w23 hbox hb; have n0_ := Aside0.mk (below_step zq14_7 hb); have n1_ := Aside0.mk (hbox); have n2_ := Aside0.mk ((by rw [hg]; exact (below_size zq14_7) : w.heap.size ≤ gb547)); have n3_ := Aside0.mk ((by rw [hg]; exact (below_size zq14_7) : w.heap.size ≤ gb547)); clear HB; have HB := n0_; have BK547 := n1_; have GW547 := n2_; have GE547 := n3_; clear n0_ n1_ n2_ n3_; clear hb hbox hg; have hcz24_0 : w23.cell? ⟨gb547, 0, none⟩ = some (.int .u8 a0_0) := (blk_cell BK547.out 0).trans rfl; have hcz24_1 : w23.cell? ⟨gb547, 1, none⟩ = some (.int .u16 a0_1) := (blk_cell BK547.out 1).trans rfl; have hcz24_2 : w23.cell? ⟨gb547, 2, none⟩ = some (.bool a0_2) := (blk_cell BK547.out 2).trans rfl; have hcz24_3 : w23.cell? ⟨gb547, 3, none⟩ = some (.bool a0_3) := (blk_cell BK547.out 3).trans rfl; have hcz24_4 : w23.cell? ⟨gb547, 4, none⟩ = some (.int .i64 a0_4) := (blk_cell BK547.out 4).trans rfl; have hcz24_5 : w23.cell? ⟨gb547, 5, none⟩ = some (.int .u8 a0_5) := (blk_cell BK547.out 5).trans rfl; have hcz24_6 : w23.cell? ⟨gb547, 6, none⟩ = some (.int .u8 a0_6) := (blk_cell BK547.out 6).trans rfl; have hcz24_7 : w23.cell? ⟨gb547, 7, none⟩ = some (.int .u32 a0_7) := (blk_cell BK547.out 7).trans rfl; have hcz24_8 : w23.cell? ⟨gb547, 8, none⟩ = some (.int .u32 a0_8) := (blk_cell BK547.out 8).trans rfl; have hcz24_9 : w23.cell? ⟨gb547, 9, none⟩ = some (.slice A0_9 l0_9.length c0_9) := (blk_cell BK547.out 9).trans rfl; have hcz24_10 : w23.cell? ⟨gb547, 10, none⟩ = some (.slice A0_10 l0_10.length c0_10) := (blk_cell BK547.out 10).trans rfl; have hfz24_0 := blk_frozen BK547.out 0; have hfz24_1 := blk_frozen BK547.out 1; have hfz24_2 := blk_frozen BK547.out 2; have hfz24_3 := blk_frozen BK547.out 3; have hfz24_4 := blk_frozen BK547.out 4; have hfz24_5 := blk_frozen BK547.out 5; have hfz24_6 := blk_frozen BK547.out 6; have hfz24_7 := blk_frozen BK547.out 7; have hfz24_8 := blk_frozen BK547.out 8; have hfz24_9 := blk_frozen BK547.out 9; have hfz24_10 := blk_frozen BK547.out 10) | ((with_reducible refine gate_dst (N := 4) rfl ?_); refine box_event ?hg (N := 4) ?hd (cs := #[.int .u8 0, .int .u16 0, .bool false, .bool false, .int .i64 0, .int .u8 0, .int .u8 0, .int .u32 0, .int .u32 0, .slice none 0 0]) (t := 31) ?hr ?_; (case hd => rfl); (case hg => rfl); (case hr => first | (go_simp; done) | (go_simp; rfl)); intro gb548 hg w25 hbox hb; have n0_ := Aside0.mk (blk_below (g := gb547) (o := .cells #[.int .u8 a0_0, .int .u16 a0_1, .bool a0_2, .bool a0_3, .int .i64 a0_4, .int .u8 a0_5, .int .u8 a0_6, .int .u32 a0_7, .int .u32 a0_8, .slice A0_9 l0_9.length c0_9, .slice A0_10 l0_10.length c0_10] 33 (0, 0)) zq14_0 hb); have n1_ := Aside0.mk (below_step zq14_3 hb); have n2_ := Aside0.mk (hbox); have n3_ := Aside0.mk ((by rw [hg]; exact (below_size zq14_3) : w.heap.size ≤ gb548)); have n4_ := Aside0.mk ((by rw [hg]; exact (below_size zq14_3) : w.heap.size ≤ gb548)); have n5_ := Aside0.mk ((by rw [hg]; exact Nat.ne_of_lt (blk_lt (g := gb547) (o := .cells #[.int .u8 a0_0, .int .u16 a0_1, .bool a0_2, .bool a0_3, .int .i64 a0_4, .int .u8 a0_5, .int .u8 a0_6, .int .u32 a0_7, .int .u32 a0_8, .slice A0_9 l0_9.length c0_9, .slice A0_10 l0_10.length c0_10] 33 (0, 0)) zq14_0) : gb547 ≠ gb548)); have n6_ := Aside0.mk ((by rw [hg]; exact Nat.ne_of_gt (blk_lt (g := gb547) (o := .cells #[.int .u8 a0_0, .int .u16 a0_1, .bool a0_2, .bool a0_3, .int .i64 a0_4, .int .u8 a0_5, .int .u8 a0_6, .int .u32 a0_7, .int .u32 a0_8, .slice A0_9 l0_9.length c0_9, .slice A0_10 l0_10.length c0_10] 33 (0, 0)) zq14_0) : gb548 ≠ gb547)); clear BK547; clear HB; have BK547 := n0_; have HB := n1_; have BK548 := n2_; have GW548 := n3_; have GE548 := n4_; have NB547_548 := n5_; have NB548_547 := n6_; clear n0_ n1_ n2_ n3_ n4_ n5_ n6_; clear hb hbox hg; have hnb26 := NB548_547.out; have hnc26 := NB547_548.out; have hcz27_0 : w25.cell? ⟨gb548, 0, none⟩ = some (.int .u8 0) := (blk_cell BK548.out 0).trans rfl; have hcz27_1 : w25.cell? ⟨gb548, 1, none⟩ = some (.int .u16 0) := (blk_cell BK548.out 1).trans rfl; have hcz27_2 : w25.cell? ⟨gb548, 2, none⟩ = some (.bool false) := (blk_cell BK548.out 2).trans rfl; have hcz27_3 : w25.cell? ⟨gb548, 3, none⟩ = some (.bool false) := (blk_cell BK548.out 3).trans rfl; have hcz27_4 : w25.cell? ⟨gb548, 4, none⟩ = some (.int .i64 0) := (blk_cell BK548.out 4).trans rfl; have hcz27_5 : w25.cell? ⟨gb548, 5, none⟩ = some (.int .u8 0) := (blk_cell BK548.out 5).trans rfl; have hcz27_6 : w25.cell? ⟨gb548, 6, none⟩ = some (.int .u8 0) := (blk_cell BK548.out 6).trans rfl; have hcz27_7 : w25.cell? ⟨gb548, 7, none⟩ = some (.int .u32 0) := (blk_cell BK548.out 7).trans rfl; have hcz27_8 : w25.cell? ⟨gb548, 8, none⟩ = some (.int .u32 0) := (blk_cell BK548.out 8).trans rfl; have hcz27_9 : w25.cell? ⟨gb548, 9, none⟩ = some (.slice none 0 0) := (blk_cell BK548.out 9).trans rfl; have hfz27_0 := blk_frozen BK548.out 0; have hfz27_1 := blk_frozen BK548.out 1; have hfz27_2 := blk_frozen BK548.out 2; have hfz27_3 := blk_frozen BK548.out 3; have hfz27_4 := blk_frozen BK548.out 4; have hfz27_5 := blk_frozen BK548.out 5; have hfz27_6 := blk_frozen BK548.out 6; have hfz27_7 := blk_frozen BK548.out 7; have hfz27_8 := blk_frozen BK548.out 8; have hfz27_9 := blk_frozen BK548.out 9) | ((with_reducible refine gate_callee (f := 50) rfl ?_); refine goesL_ (some 13) rfl rfl Try.func50 (by kernel_rfl) rfl #[.slice A0_9 l0_9.length c0_9] rfl zq14_4 ?_; (with_reducible refine (ip4_optionsOK.calls k _ _ l0_9 true _ ?side1 ?side2 A2.out).mono ?_); (case side1 => exact Kd.C_below HR0_9.out zq14_6); (case side2 => exact HC0_9.out); rintro e w' ⟨rfl, ⟨nd, rfl⟩⟩; refine ⟨_, rfl, ?_⟩; have hcz28_0 : w25.cell? ⟨gb547, 0, none⟩ = some (.int .u8 a0_0) := (blk_cell BK547.out 0).trans rfl; have hcz28_1 : w25.cell? ⟨gb547, 1, none⟩ = some (.int .u16 a0_1) := (blk_cell BK547.out 1).trans rfl; have hcz28_2 : w25.cell? ⟨gb547, 2, none⟩ = some (.bool a0_2) := (blk_cell BK547.out 2).trans rfl; have hcz28_3 : w25.cell? ⟨gb547, 3, none⟩ = some (.bool a0_3) := (blk_cell BK547.out 3).trans rfl; have hcz28_4 : w25.cell? ⟨gb547, 4, none⟩ = some (.int .i64 a0_4) := (blk_cell BK547.out 4).trans rfl; have hcz28_5 : w25.cell? ⟨gb547, 5, none⟩ = some (.int .u8 a0_5) := (blk_cell BK547.out 5).trans rfl; have hcz28_6 : w25.cell? ⟨gb547, 6, none⟩ = some (.int .u8 a0_6) := (blk_cell BK547.out 6).trans rfl; have hcz28_7 : w25.cell? ⟨gb547, 7, none⟩ = some (.int .u32 a0_7) := (blk_cell BK547.out 7).trans rfl; have hcz28_8 : w25.cell? ⟨gb547, 8, none⟩ = some (.int .u32 a0_8) := (blk_cell BK547.out 8).trans rfl; have hcz28_9 : w25.cell? ⟨gb547, 9, none⟩ = some (.slice A0_9 l0_9.length c0_9) := (blk_cell BK547.out 9).trans rfl; have hcz28_10 : w25.cell? ⟨gb547, 10, none⟩ = some (.slice A0_10 l0_10.length c0_10) := (blk_cell BK547.out 10).trans rfl; have hfz28_0 := blk_frozen BK547.out 0; have hfz28_1 := blk_frozen BK547.out 1; have hfz28_2 := blk_frozen BK547.out 2; have hfz28_3 := blk_frozen BK547.out 3; have hfz28_4 := blk_frozen BK547.out 4; have hfz28_5 := blk_frozen BK547.out 5; have hfz28_6 := blk_frozen BK547.out 6; have hfz28_7 := blk_frozen BK547.out 7; have hfz28_8 := blk_frozen BK547.out 8; have hfz28_9 := blk_frozen BK547.out 9; have hfz28_10 := blk_frozen BK547.out 10) | ((with_reducible refine gate_callee (f := 51) rfl ?_); refine goesL_ (some 23) rfl rfl Try.func51 (by kernel_rfl) rfl #[.int .i64 a0_4, .int .i64 (l0_10.length : Int), .bool a0_3] rfl zq14_4 ?_; (with_reducible refine (ip4_orderly.calls a0_4 (l0_10.length : Int) a0_3 true _ A4.out).mono ?_); rintro e w' ⟨rfl, ⟨nd, rfl⟩⟩; refine ⟨_, rfl, ?_⟩) | ((with_reducible refine gate_dst (N := 40) rfl ?_); refine Kd.R_make (Kd.int .u8) _ 5 rfl (N := 40) rfl 23 _ _ rfl ji13 rfl rfl Try.underlying23 (.int .u8 0) 1 info5 rfl (by decide) (by omega) 0 (ok := fun _ => True) (okp := fun _ => True) rfl (fun _ hk => hk) trivial (of_decide_eq_true (by first | (with_reducible assumption) | assumption)) (Nat.le_trans (Nat.mul_le_mul_right _ (of_decide_eq_true (by first | (with_reducible assumption) | assumption) : ji13.toNat ≤ 281474976710656)) (by omega)) (Below.refl _ _) (Nat.le_refl _) ?_; intro v552 w29 ho30 hb hg_ hnew_; clear hg_ hnew_; (first | rw [← Ny551.out] at ho30 | (simp only [Int.reduceToNat] at ho30; rw [← Ny551.out] at ho30)); have n0_ := Aside0.mk (Kd.R_lower ho30 (below_size zq14_6)); have n1_ := Aside0.mk (blk_below (g := gb547) (o := .cells #[.int .u8 a0_0, .int .u16 a0_1, .bool a0_2, .bool a0_3, .int .i64 a0_4, .int .u8 a0_5, .int .u8 a0_6, .int .u32 a0_7, .int .u32 a0_8, .slice A0_9 l0_9.length c0_9, .slice A0_10 l0_10.length c0_10] 33 (0, 0)) (by (with_reducible repeat (first | refine blk_drewN ?_ _ | refine blk_drew ?_ | refine blk_alloc ?_ _)); refine blk_far ?_ NB547_548.out _; (with_reducible repeat (first | refine blk_drewN ?_ _ | refine blk_drew ?_ | refine blk_alloc ?_ _)); refine blk_far ?_ NB547_548.out _; (with_reducible repeat (first | refine blk_drewN ?_ _ | refine blk_drew ?_ | refine blk_alloc ?_ _)); refine blk_far ?_ NB547_548.out _; (with_reducible repeat (first | refine blk_drewN ?_ _ | refine blk_drew ?_ | refine blk_alloc ?_ _)); refine blk_far ?_ NB547_548.out _; (with_reducible repeat (first | refine blk_drewN ?_ _ | refine blk_drew ?_ | refine blk_alloc ?_ _)); refine blk_far ?_ NB547_548.out _; (with_reducible repeat (first | refine blk_drewN ?_ _ | refine blk_drew ?_ | refine blk_alloc ?_ _)); refine blk_far ?_ NB547_548.out _; (with_reducible repeat (first | refine blk_drewN ?_ _ | refine blk_drew ?_ | refine blk_alloc ?_ _)); refine blk_far ?_ NB547_548.out _; (with_reducible repeat (first | refine blk_drewN ?_ _ | refine blk_drew ?_ | refine blk_alloc ?_ _)); refine blk_far ?_ NB547_548.out _; (with_reducible repeat (first | refine blk_drewN ?_ _ | refine blk_drew ?_ | refine blk_alloc ?_ _)); refine blk_far ?_ NB547_548.out _; (with_reducible repeat (first | refine blk_drewN ?_ _ | refine blk_drew ?_ | refine blk_alloc ?_ _)); refine blk_far ?_ NB547_548.out _; first | (with_reducible exact BK547.out) | (with_reducible exact blk_drewN BK547.out _) | (with_reducible exact blk_drew BK547.out) | ((with_reducible repeat (first | refine blk_drewN ?_ _ | refine blk_drew ?_ | refine blk_alloc ?_ _)); exact BK547.out)) hb); have n2_ := Aside0.mk (blk_below (g := gb548) (o := .cells #[.int .u8 a0_0, .int .u16 a0_1, .bool a0_2, .bool a0_3, .int .i64 a0_4, .int .u8 a0_5, .int .u8 a0_6, .int .u32 a0_7, .int .u32 a0_8, .slice A0_9 l0_9.length c0_9] 31 (0, 0)) (by (with_reducible repeat (first | refine blk_drewN ?_ _ | refine blk_drew ?_ | refine blk_alloc ?_ _)); refine blk_put (cs := #[.int .u8 a0_0, .int .u16 a0_1, .bool a0_2, .bool a0_3, .int .i64 a0_4, .int .u8 a0_5, .int .u8 a0_6, .int .u32 a0_7, .int .u32 a0_8, .slice none 0 0]) ?_ 9 _ rfl; (with_reducible repeat (first | refine blk_drewN ?_ _ | refine blk_drew ?_ | refine blk_alloc ?_ _)); refine blk_put (cs := #[.int .u8 a0_0, .int .u16 a0_1, .bool a0_2, .bool a0_3, .int .i64 a0_4, .int .u8 a0_5, .int .u8 a0_6, .int .u32 a0_7, .int .u32 0, .slice none 0 0]) ?_ 8 _ rfl; (with_reducible repeat (first | refine blk_drewN ?_ _ | refine blk_drew ?_ | refine blk_alloc ?_ _)); refine blk_put (cs := #[.int .u8 a0_0, .int .u16 a0_1, .bool a0_2, .bool a0_3, .int .i64 a0_4, .int .u8 a0_5, .int .u8 a0_6, .int .u32 0, .int .u32 0, .slice none 0 0]) ?_ 7 _ rfl; (with_reducible repeat (first | refine blk_drewN ?_ _ | refine blk_drew ?_ | refine blk_alloc ?_ _)); refine blk_put (cs := #[.int .u8 a0_0, .int .u16 a0_1, .bool a0_2, .bool a0_3, .int .i64 a0_4, .int .u8 a0_5, .int .u8 0, .int .u32 0, .int .u32 0, .slice none 0 0]) ?_ 6 _ rfl; (with_reducible repeat (first | refine blk_drewN ?_ _ | refine blk_drew ?_ | refine blk_alloc ?_ _)); refine blk_put (cs := #[.int .u8 a0_0, .int .u16 a0_1, .bool a0_2, .bool a0_3, .int .i64 a0_4, .int .u8 0, .int .u8 0, .int .u32 0, .int .u32 0, .slice none 0 0]) ?_ 5 _ rfl; (with_reducible repeat (first | refine blk_drewN ?_ _ | refine blk_drew ?_ | refine blk_alloc ?_ _)); refine blk_put (cs := #[.int .u8 a0_0, .int .u16 a0_1, .bool a0_2, .bool a0_3, .int .i64 0, .int .u8 0, .int .u8 0, .int .u32 0, .int .u32 0, .slice none 0 0]) ?_ 4 _ rfl; (with_reducible repeat (first | refine blk_drewN ?_ _ | refine blk_drew ?_ | refine blk_alloc ?_ _)); refine blk_put (cs := #[.int .u8 a0_0, .int .u16 a0_1, .bool a0_2, .bool false, .int .i64 0, .int .u8 0, .int .u8 0, .int .u32 0, .int .u32 0, .slice none 0 0]) ?_ 3 _ rfl; (with_reducible repeat (first | refine blk_drewN ?_ _ | refine blk_drew ?_ | refine blk_alloc ?_ _)); refine blk_put (cs := #[.int .u8 a0_0, .int .u16 a0_1, .bool false, .bool false, .int .i64 0, .int .u8 0, .int .u8 0, .int .u32 0, .int .u32 0, .slice none 0 0]) ?_ 2 _ rfl; (with_reducible repeat (first | refine blk_drewN ?_ _ | refine blk_drew ?_ | refine blk_alloc ?_ _)); refine blk_put (cs := #[.int .u8 a0_0, .int .u16 0, .bool false, .bool false, .int .i64 0, .int .u8 0, .int .u8 0, .int .u32 0, .int .u32 0, .slice none 0 0]) ?_ 1 _ rfl; (with_reducible repeat (first | refine blk_drewN ?_ _ | refine blk_drew ?_ | refine blk_alloc ?_ _)); refine blk_put (cs := #[.int .u8 0, .int .u16 0, .bool false, .bool false, .int .i64 0, .int .u8 0, .int .u8 0, .int .u32 0, .int .u32 0, .slice none 0 0]) ?_ 0 _ rfl; first | (with_reducible exact BK548.out) | (with_reducible exact blk_drewN BK548.out _) | (with_reducible exact blk_drew BK548.out) | ((with_reducible repeat (first | refine blk_drewN ?_ _ | refine blk_drew ?_ | refine blk_alloc ?_ _)); exact BK548.out)) hb); have n3_ := Aside0.mk (below_step zq14_6 hb); clear BK547; clear BK548; clear HB; have HO553 := n0_; have BK547 := n1_; have BK548 := n2_; have HB := n3_; clear n0_ n1_ n2_ n3_; clear hb ho30))
                have n0_ := Aside0.mk (Kd.R_drew HO553.out)
                have n1_ := Aside0.mk (blk_drew BK547.out)
                have n2_ := Aside0.mk (blk_drew BK548.out)
                have n3_ := Aside0.mk (below_drew1 HB.out)
                clear HO553
                clear BK547
                clear BK548
                clear HB
                have HO553 := n0_
                have BK547 := n1_
                have BK548 := n2_
                have HB := n3_
                clear n0_ n1_ n2_ n3_
                have p17 : 0 ≤ (0 : Int) := (by omega)
                have q17 : (0 : Int) < ((y551.length : Int) : Int) := of_decide_eq_true (by first | (with_reducible assumption) | assumption)
                have qi17 : (0 < y551.length) = True := eq_true (by omega)
                obtain ⟨go17, co17, eo17, gb17, gl17, cl17, HG17⟩ := Kd.R_form HO553.out (by omega)
                (first | cases eo17 | (injection eo17 with ea_ en_ ec_; (first | subst ea_ | (injection ea_ with ea_; subst ea_)); subst ec_; clear en_))
                have GB17 := Aside0.mk gb17
                have GG17 := Aside0.mk HG17
                clear gb17 gl17 HG17
                obtain ⟨hx17_0, hf17_0⟩ := Kd.R_celln 0 HO553.out (0 : Int) p17 q17
                (try rw [show ((0 : Int)).toNat = 0 from rfl] at hx17_0)
                (try simp only [Nat.reduceMul, Nat.zero_mul, Nat.zero_add, Nat.reduceAdd] at hx17_0)
                (try rw [show ((0 : Int)).toNat = 0 from rfl] at hf17_0)
                (try simp only [Nat.reduceMul, Nat.zero_mul, Nat.zero_add, Nat.reduceAdd] at hf17_0)
                replace p17 := eq_true p17
                replace q17 := eq_true q17
                have HP32 := Kd.R_putn HO553.out (0 : Int) ((Go.bits .or .i64 64 (wrap64 (Int.tdiv (wrap64 (20 + (l0_9.length : Int))) 4))) % 256)
                rw [← Ny554.out] at HP32
                have HQ32 := Aside0.mk HP32
                clear HP32
                have p19 : 0 ≤ (1 : Int) := (by omega)
                have q19 : (1 : Int) < ((y551.length : Int) : Int) := of_decide_eq_true (by first | (with_reducible assumption) | assumption)
                have qi19 : (1 < y551.length) = True := eq_true (by omega)
                obtain ⟨hx19_0, hf19_0⟩ := Kd.R_celln 0 HQ32.out (1 : Int) p19 q19
                obtain ⟨hx33_0, hf33_0⟩ := Kd.R_celln 0 HO553.out (1 : Int) p19 q19
                (try rw [show ((1 : Int)).toNat = 1 from rfl] at hx33_0)
                (try simp only [Nat.reduceMul, Nat.zero_mul, Nat.zero_add, Nat.reduceAdd] at hx33_0)
                (try rw [show ((1 : Int)).toNat = 1 from rfl] at hf33_0)
                (try simp only [Nat.reduceMul, Nat.zero_mul, Nat.zero_add, Nat.reduceAdd] at hf33_0)
                (try rw [show ((1 : Int)).toNat = 1 from rfl] at hx19_0)
                (try simp only [Nat.reduceMul, Nat.zero_mul, Nat.zero_add, Nat.reduceAdd] at hx19_0)
                (try rw [show ((1 : Int)).toNat = 1 from rfl] at hf19_0)
                (try simp only [Nat.reduceMul, Nat.zero_mul, Nat.zero_add, Nat.reduceAdd] at hf19_0)
                replace p19 := eq_true p19
                replace q19 := eq_true q19
                have HP34 := Kd.R_putn HQ32.out (1 : Int) a0_0
                rw [← Ny555.out] at HP34
                have HQ34 := Aside0.mk HP34
                clear HP34
                refine start_ (n := 12) (S := fun w' => w'.cell? ⟨gb548, 0, none⟩ = some (.int .u8 a0_0) ∧ w'.cell? ⟨gb548, 1, none⟩ = some (.int .u16 a0_1) ∧ w'.cell? ⟨gb548, 2, none⟩ = some (.bool a0_2) ∧ w'.cell? ⟨gb548, 3, none⟩ = some (.bool a0_3) ∧ w'.cell? ⟨gb548, 4, none⟩ = some (.int .i64 a0_4) ∧ w'.cell? ⟨gb548, 5, none⟩ = some (.int .u8 a0_5) ∧ w'.cell? ⟨gb548, 6, none⟩ = some (.int .u8 a0_6) ∧ w'.cell? ⟨gb548, 7, none⟩ = some (.int .u32 a0_7) ∧ w'.cell? ⟨gb548, 8, none⟩ = some (.int .u32 a0_8) ∧ w'.cell? ⟨gb548, 9, none⟩ = some (.slice A0_9 l0_9.length c0_9)) (ds := []) #[false, false, false, false, false, false, false, false, false, false, false, false] (by kernel_rfl) rfl rfl ⟨(blk_cell BK548.out 0).trans rfl, (blk_cell BK548.out 1).trans rfl, (blk_cell BK548.out 2).trans rfl, (blk_cell BK548.out 3).trans rfl, (blk_cell BK548.out 4).trans rfl, (blk_cell BK548.out 5).trans rfl, (blk_cell BK548.out 6).trans rfl, (blk_cell BK548.out 7).trans rfl, (blk_cell BK548.out 8).trans rfl, (blk_cell BK548.out 9).trans rfl⟩ (fun hHeld => ?_); refine with_tabW ip4_Build.tab10 ip4_Build.bits10 (fun HT_ HW_ => ?_)
                generalize w29.drew = w31 at HO553 BK547 BK548 HB GG17 HQ32 HQ34 hf17_0 hf19_0 hf33_0 hx17_0 hx19_0 hx33_0 hHeld ⊢
                refine pure_ (i := 0) (N := some 41) (v := ?_) (a' := ?_) #[true, false, false, false, false, false, false, false, false, false, false, false] rfl rfl (any_of HT_.out (by kernel_rfl)) (fun _ _ _ h => h) (Or.inl ⟨by rfl, ?_⟩) ?_ ?_
                rotate_left
                · intro w'
                  go_simp
                  with_reducible rfl
                rotate_left
                · simp only [Act.put, List.setIfInBounds_toArray, List.set_cons_zero, List.set_cons_succ, i64_w, i32_w, IntKind.wrap_u8, IntKind.wrap_u32]
                  rfl
                refine pure_ (i := 1) (N := some 42) (v := ?_) (a' := ?_) #[true, true, false, false, false, false, false, false, false, false, false, false] rfl rfl (any_of HT_.out (by kernel_rfl)) (fun _ _ _ h => h) (Or.inl ⟨by rfl, ?_⟩) ?_ ?_
                rotate_left
                · intro w'
                  go_simp
                  with_reducible rfl
                rotate_left
                · simp only [Act.put, List.setIfInBounds_toArray, List.set_cons_zero, List.set_cons_succ, i64_w, i32_w, IntKind.wrap_u8, IntKind.wrap_u32]
                  rfl
                refine pure_ (i := 2) (N := some 43) (v := ?_) (a' := ?_) #[true, true, true, false, false, false, false, false, false, false, false, false] rfl rfl (any_of HT_.out (by kernel_rfl)) (fun _ _ _ h => h) (Or.inl ⟨by rfl, ?_⟩) ?_ ?_
                rotate_left
                · intro w'
                  go_simp
                  with_reducible rfl
                rotate_left
                · simp only [Act.put, List.setIfInBounds_toArray, List.set_cons_zero, List.set_cons_succ, i64_w, i32_w, IntKind.wrap_u8, IntKind.wrap_u32]
                  rfl
                refine pure_ (i := 3) (N := some 44) (v := ?_) (a' := ?_) #[true, true, true, true, false, false, false, false, false, false, false, false] rfl rfl (any_of HT_.out (by kernel_rfl)) (fun _ _ _ h => h) (Or.inl ⟨by rfl, ?_⟩) ?_ ?_
                rotate_left
                · intro w'
                  go_simp
                  with_reducible rfl
                rotate_left
                · simp only [Act.put, List.setIfInBounds_toArray, List.set_cons_zero, List.set_cons_succ, i64_w, i32_w, IntKind.wrap_u8, IntKind.wrap_u32]
                  rfl
                refine pure_ (i := 4) (N := some 45) (v := ?_) (a' := ?_) #[true, true, true, true, true, false, false, false, false, false, false, false] rfl rfl (any_of HT_.out (by kernel_rfl)) (fun _ _ _ h => h) (Or.inl ⟨by rfl, ?_⟩) ?_ ?_
                rotate_left
                · intro w'
                  go_simp
                  with_reducible rfl
                rotate_left
                · simp only [Act.put, List.setIfInBounds_toArray, List.set_cons_zero, List.set_cons_succ, i64_w, i32_w, IntKind.wrap_u8, IntKind.wrap_u32]
                  rfl
                refine pure_ (i := 5) (N := some 46) (v := ?_) (a' := ?_) #[true, true, true, true, true, true, false, false, false, false, false, false] rfl rfl (any_of HT_.out (by kernel_rfl)) (fun _ _ _ h => h) (Or.inl ⟨by rfl, ?_⟩) ?_ ?_
                rotate_left
                · intro w'
                  go_simp
                  with_reducible rfl
                rotate_left
                · simp only [Act.put, List.setIfInBounds_toArray, List.set_cons_zero, List.set_cons_succ, i64_w, i32_w, IntKind.wrap_u8, IntKind.wrap_u32]
                  rfl
                refine pure_ (i := 6) (N := some 47) (v := ?_) (a' := ?_) #[true, true, true, true, true, true, true, false, false, false, false, false] rfl rfl (any_of HT_.out (by kernel_rfl)) (fun _ _ _ h => h) (Or.inl ⟨by rfl, ?_⟩) ?_ ?_
                rotate_left
                · intro w'
                  go_simp
                  with_reducible rfl
                rotate_left
                · simp only [Act.put, List.setIfInBounds_toArray, List.set_cons_zero, List.set_cons_succ, i64_w, i32_w, IntKind.wrap_u8, IntKind.wrap_u32]
                  rfl
                refine pure_ (i := 8) (N := some 49) (v := ?_) (a' := ?_) #[true, true, true, true, true, true, true, false, true, false, false, false] rfl rfl (any_of HT_.out (by kernel_rfl)) (fun _ _ _ h => h) (Or.inl ⟨by rfl, ?_⟩) ?_ ?_
                rotate_left
                · intro w'
                  go_simp
                  with_reducible rfl
                rotate_left
                · simp only [Act.put, List.setIfInBounds_toArray, List.set_cons_zero, List.set_cons_succ, i64_w, i32_w, IntKind.wrap_u8, IntKind.wrap_u32]
                  rfl
                refine take_ (i := 7) (N := some 48) (v := ?_) (a' := ?_) #[true, true, true, true, true, true, true, true, true, false, false, false] rfl rfl (take_ofW HT_.out HW_.out (by kernel_rfl)) (fun _ _ _ h => h) (Or.inl ⟨by rfl, ?_⟩) hHeld ?_ ?_
                rotate_left
                · rintro w' ⟨s0, s1, s2, s3, s4, s5, s6, s7, s8, s9⟩
                  go_simp
                  with_reducible rfl
                rotate_left
                · simp only [Act.put, List.setIfInBounds_toArray, List.set_cons_zero, List.set_cons_succ, i64_w, i32_w, IntKind.wrap_u8, IntKind.wrap_u32]
                  rfl
                refine one_ (i := 9) (N := none) #[true, true, true, true, true, true, true, true, true, true, false, false] rfl rfl (one_of HT_.out (by kernel_rfl)) (by decide) (fun K hK => ?_)
                refine skip_ (w1 := ?_) (by rfl) rfl ?_ ?_
                rotate_left
                · go_simp
                  rfl
                refine hK.out _ _ ⟨(cell_far (p := ⟨go17, _, none⟩) (show gb548 ≠ go17 from zq14_2) _).trans (hHeld.1), (cell_far (p := ⟨go17, _, none⟩) (show gb548 ≠ go17 from zq14_2) _).trans (hHeld.2.1), (cell_far (p := ⟨go17, _, none⟩) (show gb548 ≠ go17 from zq14_2) _).trans (hHeld.2.2.1), (cell_far (p := ⟨go17, _, none⟩) (show gb548 ≠ go17 from zq14_2) _).trans (hHeld.2.2.2.1), (cell_far (p := ⟨go17, _, none⟩) (show gb548 ≠ go17 from zq14_2) _).trans (hHeld.2.2.2.2.1), (cell_far (p := ⟨go17, _, none⟩) (show gb548 ≠ go17 from zq14_2) _).trans (hHeld.2.2.2.2.2.1), (cell_far (p := ⟨go17, _, none⟩) (show gb548 ≠ go17 from zq14_2) _).trans (hHeld.2.2.2.2.2.2.1), (cell_far (p := ⟨go17, _, none⟩) (show gb548 ≠ go17 from zq14_2) _).trans (hHeld.2.2.2.2.2.2.2.1), (cell_far (p := ⟨go17, _, none⟩) (show gb548 ≠ go17 from zq14_2) _).trans (hHeld.2.2.2.2.2.2.2.2.1), (cell_far (p := ⟨go17, _, none⟩) (show gb548 ≠ go17 from zq14_2) _).trans (hHeld.2.2.2.2.2.2.2.2.2)⟩ (fun hHeld => ?_)
                clear hK K
                refine pure_ (i := 10) (N := some 50) (v := ?_) (a' := ?_) #[true, true, true, true, true, true, true, true, true, true, true, false] rfl rfl (any_of HT_.out (by kernel_rfl)) (fun _ _ _ h => h) (Or.inl ⟨by rfl, ?_⟩) ?_ ?_
                rotate_left
                · intro w'
                  go_simp
                  with_reducible rfl
                rotate_left
                · simp only [Act.put, List.setIfInBounds_toArray, List.set_cons_zero, List.set_cons_succ, i64_w, i32_w, IntKind.wrap_u8, IntKind.wrap_u32]
                  rfl
                refine one_ (i := 11) (N := none) #[true, true, true, true, true, true, true, true, true, true, true, true] rfl rfl (one_of HT_.out (by kernel_rfl)) (by decide) (fun K hK => ?_)
                refine skip_ (w1 := ?_) (by rfl) rfl ?_ ?_
                rotate_left
                · go_simp
                  rfl
                refine hK.out _ _ ⟨(cell_far (p := ⟨go17, _, none⟩) (show gb548 ≠ go17 from zq14_2) _).trans (hHeld.1), (cell_far (p := ⟨go17, _, none⟩) (show gb548 ≠ go17 from zq14_2) _).trans (hHeld.2.1), (cell_far (p := ⟨go17, _, none⟩) (show gb548 ≠ go17 from zq14_2) _).trans (hHeld.2.2.1), (cell_far (p := ⟨go17, _, none⟩) (show gb548 ≠ go17 from zq14_2) _).trans (hHeld.2.2.2.1), (cell_far (p := ⟨go17, _, none⟩) (show gb548 ≠ go17 from zq14_2) _).trans (hHeld.2.2.2.2.1), (cell_far (p := ⟨go17, _, none⟩) (show gb548 ≠ go17 from zq14_2) _).trans (hHeld.2.2.2.2.2.1), (cell_far (p := ⟨go17, _, none⟩) (show gb548 ≠ go17 from zq14_2) _).trans (hHeld.2.2.2.2.2.2.1), (cell_far (p := ⟨go17, _, none⟩) (show gb548 ≠ go17 from zq14_2) _).trans (hHeld.2.2.2.2.2.2.2.1), (cell_far (p := ⟨go17, _, none⟩) (show gb548 ≠ go17 from zq14_2) _).trans (hHeld.2.2.2.2.2.2.2.2.1), (cell_far (p := ⟨go17, _, none⟩) (show gb548 ≠ go17 from zq14_2) _).trans (hHeld.2.2.2.2.2.2.2.2.2)⟩ (fun hHeld => ?_)
                clear hK K
                refine done_ (done_of HT_.out (by kernel_rfl)) ?_
                have n0_ : Aside0 (Kd.R (Kd.int .u8) 5 ((w31.setCell ⟨go17, 0, none⟩ (.int .u8 ((Go.bits .or .i64 64 (wrap64 (Int.tdiv (wrap64 (20 + (l0_9.length : Int))) 4))) % 256))).setCell ⟨go17, 1, none⟩ (.int .u8 a0_0)) w.heap.size (fun _ => True) (.slice (some ⟨go17, 0, none⟩) y551.length co17) y555) := ⟨by (with_reducible repeat (first | apply Kd.R_alloc | apply Kd.R_drewN | apply Kd.R_drew)); exact HQ34.out⟩
                have n1_ : Aside0 (((w31.setCell ⟨go17, 0, none⟩ (.int .u8 ((Go.bits .or .i64 64 (wrap64 (Int.tdiv (wrap64 (20 + (l0_9.length : Int))) 4))) % 256))).setCell ⟨go17, 1, none⟩ (.int .u8 a0_0)).heap[gb547]? = some (.cells #[.int .u8 a0_0, .int .u16 a0_1, .bool a0_2, .bool a0_3, .int .i64 a0_4, .int .u8 a0_5, .int .u8 a0_6, .int .u32 a0_7, .int .u32 a0_8, .slice A0_9 l0_9.length c0_9, .slice A0_10 l0_10.length c0_10] 33 (0, 0))) := ⟨by (with_reducible repeat (first | refine blk_drewN ?_ _ | refine blk_drew ?_ | refine blk_alloc ?_ _)); refine blk_far ?_ (by have h_ := Kd.R_ne HO553.out BK547.out (by decide); intro e_; exact h_ (by rw [e_]; rfl)) _; (with_reducible repeat (first | refine blk_drewN ?_ _ | refine blk_drew ?_ | refine blk_alloc ?_ _)); refine blk_far ?_ (by have h_ := Kd.R_ne HO553.out BK547.out (by decide); intro e_; exact h_ (by rw [e_]; rfl)) _; first | (with_reducible exact BK547.out) | (with_reducible exact blk_drewN BK547.out _) | (with_reducible exact blk_drew BK547.out) | ((with_reducible repeat (first | refine blk_drewN ?_ _ | refine blk_drew ?_ | refine blk_alloc ?_ _)); exact BK547.out)⟩
                have n2_ : Aside0 (((w31.setCell ⟨go17, 0, none⟩ (.int .u8 ((Go.bits .or .i64 64 (wrap64 (Int.tdiv (wrap64 (20 + (l0_9.length : Int))) 4))) % 256))).setCell ⟨go17, 1, none⟩ (.int .u8 a0_0)).heap[gb548]? = some (.cells #[.int .u8 a0_0, .int .u16 a0_1, .bool a0_2, .bool a0_3, .int .i64 a0_4, .int .u8 a0_5, .int .u8 a0_6, .int .u32 a0_7, .int .u32 a0_8, .slice A0_9 l0_9.length c0_9] 31 (0, 0))) := ⟨by (with_reducible repeat (first | refine blk_drewN ?_ _ | refine blk_drew ?_ | refine blk_alloc ?_ _)); refine blk_far ?_ zq14_2 _; (with_reducible repeat (first | refine blk_drewN ?_ _ | refine blk_drew ?_ | refine blk_alloc ?_ _)); refine blk_far ?_ zq14_2 _; first | (with_reducible exact BK548.out) | (with_reducible exact blk_drewN BK548.out _) | (with_reducible exact blk_drew BK548.out) | ((with_reducible repeat (first | refine blk_drewN ?_ _ | refine blk_drew ?_ | refine blk_alloc ?_ _)); exact BK548.out)⟩
                have n3_ : Aside0 (Below w.heap.size w ((w31.setCell ⟨go17, 0, none⟩ (.int .u8 ((Go.bits .or .i64 64 (wrap64 (Int.tdiv (wrap64 (20 + (l0_9.length : Int))) 4))) % 256))).setCell ⟨go17, 1, none⟩ (.int .u8 a0_0))) := ⟨by repeat (first | (with_reducible first | exact HB.out | apply below_alloc | apply pw_below_drewN | apply below_drew1 | refine below_set ?_ GB17.out | refine below_set ?_ GB17.out | refine below_set ?_ GE547.out | refine below_set ?_ GE548.out) | exact HB.out)⟩
                (try clear HO553)
                (try clear BK547)
                (try clear BK548)
                (try clear HB)
                generalize ((w31.setCell ⟨go17, 0, none⟩ (.int .u8 ((Go.bits .or .i64 64 (wrap64 (Int.tdiv (wrap64 (20 + (l0_9.length : Int))) 4))) % 256))).setCell ⟨go17, 1, none⟩ (.int .u8 a0_0)) = w35 at n0_ n1_ n2_ n3_ ⊢
                have HO553 := n0_
                have BK547 := n1_
                have BK548 := n2_
                have HB := n3_
                clear n0_ n1_ n2_ n3_
                go_upto_if 65 with (first | ((with_reducible refine gate_callee (f := 52) rfl ?_); refine goesL_ (some 55) rfl rfl Try.func52 (by kernel_rfl) rfl #[.slice (some ⟨go17, 0, none⟩) y551.length co17, .int .i64 2, .int .u16 (IntKind.u16.wrap ((y551.length : Int)))] rfl zq14_4 ?_; (with_reducible refine (ip4_putWord.calls (fun k_ => some k_ = (.slice (some ⟨go17, 0, none⟩) y551.length co17 : Value).ownBlock) (.slice (some ⟨go17, 0, none⟩) y551.length co17) y555 2 (IntKind.u16.wrap ((y551.length : Int))) t556 w _ ?side1 ?side2 A20.out).mono ?_); (case side1 => repeat (first | (with_reducible first | exact HB.out | apply below_alloc | apply pw_below_drewN | apply below_drew1 | refine below_set ?_ GE547.out | refine below_set ?_ GE548.out) | exact HB.out)); (case side2 => (with_reducible repeat (first | apply Kd.R_alloc | apply Kd.R_drewN | apply Kd.R_drew)); exact Kd.R_tight rfl HO553.out); rintro e w36 ⟨rfl, hy0, hb, hkp⟩; refine ⟨_, rfl, ?_⟩; have n0_ := Aside0.mk (blk_kept zq14_0 hkp (fun hs_ => (fun e_ => (Kd.R_ne HO553.out BK547.out (by decide)) e_) hs_)); have n1_ := Aside0.mk (blk_kept zq14_1 hkp (fun hs_ => (fun e_ => (Kd.R_ne HO553.out BK548.out (by decide)) e_) hs_)); have n2_ := Aside0.mk (Kd.R_reok rfl hy0 (fun k_ e_ => HO553.out.1 k_ e_)); have n3_ := Aside0.mk (hb); clear BK547; clear BK548; clear HO553; clear HB; have BK547 := n0_; have BK548 := n1_; have HO553 := n2_; have HB := n3_; clear n0_ n1_ n2_ n3_; (try clear hb); (try clear hkp); (try clear hy0); have hcz37_0 : w36.cell? ⟨gb548, 0, none⟩ = some (.int .u8 a0_0) := (blk_cell BK548.out 0).trans rfl; have hcz37_1 : w36.cell? ⟨gb548, 1, none⟩ = some (.int .u16 a0_1) := (blk_cell BK548.out 1).trans rfl; have hcz37_2 : w36.cell? ⟨gb548, 2, none⟩ = some (.bool a0_2) := (blk_cell BK548.out 2).trans rfl; have hcz37_3 : w36.cell? ⟨gb548, 3, none⟩ = some (.bool a0_3) := (blk_cell BK548.out 3).trans rfl; have hcz37_4 : w36.cell? ⟨gb548, 4, none⟩ = some (.int .i64 a0_4) := (blk_cell BK548.out 4).trans rfl; have hcz37_5 : w36.cell? ⟨gb548, 5, none⟩ = some (.int .u8 a0_5) := (blk_cell BK548.out 5).trans rfl; have hcz37_6 : w36.cell? ⟨gb548, 6, none⟩ = some (.int .u8 a0_6) := (blk_cell BK548.out 6).trans rfl; have hcz37_7 : w36.cell? ⟨gb548, 7, none⟩ = some (.int .u32 a0_7) := (blk_cell BK548.out 7).trans rfl; have hcz37_8 : w36.cell? ⟨gb548, 8, none⟩ = some (.int .u32 a0_8) := (blk_cell BK548.out 8).trans rfl; have hcz37_9 : w36.cell? ⟨gb548, 9, none⟩ = some (.slice A0_9 l0_9.length c0_9) := (blk_cell BK548.out 9).trans rfl; have hfz37_0 := blk_frozen BK548.out 0; have hfz37_1 := blk_frozen BK548.out 1; have hfz37_2 := blk_frozen BK548.out 2; have hfz37_3 := blk_frozen BK548.out 3; have hfz37_4 := blk_frozen BK548.out 4; have hfz37_5 := blk_frozen BK548.out 5; have hfz37_6 := blk_frozen BK548.out 6; have hfz37_7 := blk_frozen BK548.out 7; have hfz37_8 := blk_frozen BK548.out 8; have hfz37_9 := blk_frozen BK548.out 9) | ((with_reducible refine gate_callee (f := 52) rfl ?_); refine goesL_ (some 59) rfl rfl Try.func52 (by kernel_rfl) rfl #[.slice (some ⟨go17, 0, none⟩) y551.length co17, .int .i64 4, .int .u16 a0_1] rfl zq14_4 ?_; (with_reducible refine (ip4_putWord.calls (fun k_ => some k_ = (.slice (some ⟨go17, 0, none⟩) y551.length co17 : Value).ownBlock) (.slice (some ⟨go17, 0, none⟩) y551.length co17) t556 4 a0_1 t557 w _ ?side1 ?side2 A21.out).mono ?_); (case side1 => repeat (first | (with_reducible first | exact HB.out | apply below_alloc | apply pw_below_drewN | apply below_drew1 | refine below_set ?_ GE547.out | refine below_set ?_ GE548.out) | exact HB.out)); (case side2 => (with_reducible repeat (first | apply Kd.R_alloc | apply Kd.R_drewN | apply Kd.R_drew)); exact Kd.R_tight rfl HO553.out); rintro e w38 ⟨rfl, hy0, hb, hkp⟩; refine ⟨_, rfl, ?_⟩; have n0_ := Aside0.mk (blk_kept zq14_0 hkp (fun hs_ => (fun e_ => (Kd.R_ne HO553.out BK547.out (by decide)) e_) hs_)); have n1_ := Aside0.mk (blk_kept zq14_1 hkp (fun hs_ => (fun e_ => (Kd.R_ne HO553.out BK548.out (by decide)) e_) hs_)); have n2_ := Aside0.mk (Kd.R_reok rfl hy0 (fun k_ e_ => HO553.out.1 k_ e_)); have n3_ := Aside0.mk (hb); clear BK547; clear BK548; clear HO553; clear HB; have BK547 := n0_; have BK548 := n1_; have HO553 := n2_; have HB := n3_; clear n0_ n1_ n2_ n3_; (try clear hb); (try clear hkp); (try clear hy0); have hcz39_0 : w38.cell? ⟨gb548, 0, none⟩ = some (.int .u8 a0_0) := (blk_cell BK548.out 0).trans rfl; have hcz39_1 : w38.cell? ⟨gb548, 1, none⟩ = some (.int .u16 a0_1) := (blk_cell BK548.out 1).trans rfl; have hcz39_2 : w38.cell? ⟨gb548, 2, none⟩ = some (.bool a0_2) := (blk_cell BK548.out 2).trans rfl; have hcz39_3 : w38.cell? ⟨gb548, 3, none⟩ = some (.bool a0_3) := (blk_cell BK548.out 3).trans rfl; have hcz39_4 : w38.cell? ⟨gb548, 4, none⟩ = some (.int .i64 a0_4) := (blk_cell BK548.out 4).trans rfl; have hcz39_5 : w38.cell? ⟨gb548, 5, none⟩ = some (.int .u8 a0_5) := (blk_cell BK548.out 5).trans rfl; have hcz39_6 : w38.cell? ⟨gb548, 6, none⟩ = some (.int .u8 a0_6) := (blk_cell BK548.out 6).trans rfl; have hcz39_7 : w38.cell? ⟨gb548, 7, none⟩ = some (.int .u32 a0_7) := (blk_cell BK548.out 7).trans rfl; have hcz39_8 : w38.cell? ⟨gb548, 8, none⟩ = some (.int .u32 a0_8) := (blk_cell BK548.out 8).trans rfl; have hcz39_9 : w38.cell? ⟨gb548, 9, none⟩ = some (.slice A0_9 l0_9.length c0_9) := (blk_cell BK548.out 9).trans rfl; have hfz39_0 := blk_frozen BK548.out 0; have hfz39_1 := blk_frozen BK548.out 1; have hfz39_2 := blk_frozen BK548.out 2; have hfz39_3 := blk_frozen BK548.out 3; have hfz39_4 := blk_frozen BK548.out 4; have hfz39_5 := blk_frozen BK548.out 5; have hfz39_6 := blk_frozen BK548.out 6; have hfz39_7 := blk_frozen BK548.out 7; have hfz39_8 := blk_frozen BK548.out 8; have hfz39_9 := blk_frozen BK548.out 9))
                (try simp only [Act.put, List.setIfInBounds_toArray, List.set_cons_zero, List.set_cons_succ])
                go_cut [7] (fun v7 wc => ∃ (kq : Nat) (x7_21 : Int), v7 = .int .u16 x7_21 ∧ Aside0 (ip4_Build.j0 kq (wrap64 (20 + (l0_9.length : Int))) t557 x7_21 a0_0 a0_1 a0_2 a0_3 a0_4 a0_5 a0_6 a0_7 a0_8 l0_9 l0_10 a0_0 a0_1 a0_2 a0_3 a0_4 a0_5 a0_6 a0_7 a0_8 l0_9 = some (r1, r2)) ∧ Aside0 (kq ≤ k) ∧ Aside0 (Kd.R (Kd.int .u8) 5 wc w.heap.size (fun _ => True) (.slice (some ⟨go17, 0, none⟩) y551.length co17) t557) ∧ Aside0 (wc.heap[gb547]? = some (.cells #[.int .u8 a0_0, .int .u16 a0_1, .bool a0_2, .bool a0_3, .int .i64 a0_4, .int .u8 a0_5, .int .u8 a0_6, .int .u32 a0_7, .int .u32 a0_8, (.slice A0_9 l0_9.length c0_9), (.slice A0_10 l0_10.length c0_10)] 33 (0, 0))) ∧ Aside0 (wc.heap[gb548]? = some (.cells #[.int .u8 a0_0, .int .u16 a0_1, .bool a0_2, .bool a0_3, .int .i64 a0_4, .int .u8 a0_5, .int .u8 a0_6, .int .u32 a0_7, .int .u32 a0_8, (.slice A0_9 l0_9.length c0_9)] 31 (0, 0))) ∧ Aside0 (Below w.heap.size w wc))
                case first =>
                  have H := HC22.out
                  clear HC22
                  by_cases c40 : a0_2 = true
                  · subst c40
                    have H1 : (ip4_Build.j0 k (wrap64 (20 + (l0_9.length : Int))) t557 (Go.bits .or .u16 (IntKind.u16.wrap (wrap64 (Int.tdiv a0_4 8))) 16384) a0_0 a0_1 true a0_3 a0_4 a0_5 a0_6 a0_7 a0_8 l0_9 l0_10 a0_0 a0_1 true a0_3 a0_4 a0_5 a0_6 a0_7 a0_8 l0_9) = some (r1, r2) := by rw [if_pos rfl] at H; exact H
                    clear H
                    have H := H1
                    clear H1
                    have H' := Aside0.mk H
                    clear H
                    go_wp2
                    go_meet
                    case rel => exact ⟨_, (Go.bits .or .u16 (IntKind.u16.wrap (wrap64 (Int.tdiv a0_4 8))) 16384), (by first | rfl | (simp; done) | (simp [*]; done)), H', ⟨by first | omega | exact Nat.le_refl _⟩, ⟨by (with_reducible repeat (first | apply Kd.R_alloc | apply Kd.R_drewN | apply Kd.R_drew)); exact HO553.out⟩, ⟨by first | (with_reducible exact BK547.out) | (with_reducible exact blk_drewN BK547.out _) | (with_reducible exact blk_drew BK547.out) | ((with_reducible repeat (first | refine blk_drewN ?_ _ | refine blk_drew ?_ | refine blk_alloc ?_ _)); exact BK547.out)⟩, ⟨by first | (with_reducible exact BK548.out) | (with_reducible exact blk_drewN BK548.out _) | (with_reducible exact blk_drew BK548.out) | ((with_reducible repeat (first | refine blk_drewN ?_ _ | refine blk_drew ?_ | refine blk_alloc ?_ _)); exact BK548.out)⟩, ⟨by repeat (first | (with_reducible first | exact HB.out | apply below_alloc | apply pw_below_drewN | apply below_drew1 | refine below_set ?_ GE547.out | refine below_set ?_ GE548.out) | exact HB.out)⟩⟩
                  · replace c40 := Bool.eq_false_iff.mpr c40
                    subst c40
                    have H1 : (ip4_Build.j0 k (wrap64 (20 + (l0_9.length : Int))) t557 (IntKind.u16.wrap (wrap64 (Int.tdiv a0_4 8))) a0_0 a0_1 false a0_3 a0_4 a0_5 a0_6 a0_7 a0_8 l0_9 l0_10 a0_0 a0_1 false a0_3 a0_4 a0_5 a0_6 a0_7 a0_8 l0_9) = some (r1, r2) := by rw [if_neg (show ¬ (false = true) by decide)] at H; exact H
                    clear H
                    have H := H1
                    clear H1
                    have H' := Aside0.mk H
                    clear H
                    go_wp2
                    go_meet
                    case rel => exact ⟨_, (IntKind.u16.wrap (wrap64 (Int.tdiv a0_4 8))), (by first | rfl | (simp; done) | (simp [*]; done)), H', ⟨by first | omega | exact Nat.le_refl _⟩, ⟨by (with_reducible repeat (first | apply Kd.R_alloc | apply Kd.R_drewN | apply Kd.R_drew)); exact HO553.out⟩, ⟨by first | (with_reducible exact BK547.out) | (with_reducible exact blk_drewN BK547.out _) | (with_reducible exact blk_drew BK547.out) | ((with_reducible repeat (first | refine blk_drewN ?_ _ | refine blk_drew ?_ | refine blk_alloc ?_ _)); exact BK547.out)⟩, ⟨by first | (with_reducible exact BK548.out) | (with_reducible exact blk_drewN BK548.out _) | (with_reducible exact blk_drew BK548.out) | ((with_reducible repeat (first | refine blk_drewN ?_ _ | refine blk_drew ?_ | refine blk_alloc ?_ _)); exact BK548.out)⟩, ⟨by repeat (first | (with_reducible first | exact HB.out | apply below_alloc | apply pw_below_drewN | apply below_drew1 | refine below_set ?_ GE547.out | refine below_set ?_ GE548.out) | exact HB.out)⟩⟩
                case rest =>
                  clear HC22
                  try clear c1
                  try clear p1
                  try clear q1
                  try clear hx1
                  try clear qi1
                  try clear hf1
                  try clear c2
                  try clear p2
                  try clear c3
                  try clear hx3
                  try clear hf3
                  try clear c4
                  try clear p4
                  try clear c5
                  try clear c6
                  try clear c6b0
                  try clear p6
                  try clear c10
                  try clear c14
                  try clear c14b0
                  try clear c14b1
                  try clear c15
                  try clear c15b0
                  try clear c15b1
                  try clear c16
                  try clear c16b0
                  try clear c16b1
                  try clear p17
                  try clear q17
                  try clear hx17
                  try clear qi17
                  try clear hf17
                  try clear c18
                  try clear c18b0
                  try clear c18b1
                  try clear p19
                  try clear q19
                  try clear hx19
                  try clear qi19
                  try clear hf19
                  try clear c26
                  try clear hx33
                  try clear hf33
                  try clear c36
                  try clear c40
                  try clear hcz11_0
                  try clear hcz11_1
                  try clear hcz11_2
                  try clear hcz11_3
                  try clear hcz11_4
                  try clear hcz11_5
                  try clear hcz11_6
                  try clear hcz11_7
                  try clear hcz11_8
                  try clear hcz11_9
                  try clear hcz12_0
                  try clear hcz12_1
                  try clear hcz12_10
                  try clear hcz12_2
                  try clear hcz12_3
                  try clear hcz12_4
                  try clear hcz12_5
                  try clear hcz12_6
                  try clear hcz12_7
                  try clear hcz12_8
                  try clear hcz12_9
                  try clear hcz24_0
                  try clear hcz24_1
                  try clear hcz24_10
                  try clear hcz24_2
                  try clear hcz24_3
                  try clear hcz24_4
                  try clear hcz24_5
                  try clear hcz24_6
                  try clear hcz24_7
                  try clear hcz24_8
                  try clear hcz24_9
                  try clear hcz27_0
                  try clear hcz27_1
                  try clear hcz27_2
                  try clear hcz27_3
                  try clear hcz27_4
                  try clear hcz27_5
                  try clear hcz27_6
                  try clear hcz27_7
                  try clear hcz27_8
                  try clear hcz27_9
                  try clear hcz28_0
                  try clear hcz28_1
                  try clear hcz28_10
                  try clear hcz28_2
                  try clear hcz28_3
                  try clear hcz28_4
                  try clear hcz28_5
                  try clear hcz28_6
                  try clear hcz28_7
                  try clear hcz28_8
                  try clear hcz28_9
                  try clear hcz37_0
                  try clear hcz37_1
                  try clear hcz37_2
                  try clear hcz37_3
                  try clear hcz37_4
                  try clear hcz37_5
                  try clear hcz37_6
                  try clear hcz37_7
                  try clear hcz37_8
                  try clear hcz37_9
                  try clear hcz39_0
                  try clear hcz39_1
                  try clear hcz39_2
                  try clear hcz39_3
                  try clear hcz39_4
                  try clear hcz39_5
                  try clear hcz39_6
                  try clear hcz39_7
                  try clear hcz39_8
                  try clear hcz39_9
                  try clear hcz8_0
                  try clear hcz8_1
                  try clear hcz8_10
                  try clear hcz8_2
                  try clear hcz8_3
                  try clear hcz8_4
                  try clear hcz8_5
                  try clear hcz8_6
                  try clear hcz8_7
                  try clear hcz8_8
                  try clear hcz8_9
                  try clear hfz11_0
                  try clear hfz11_1
                  try clear hfz11_2
                  try clear hfz11_3
                  try clear hfz11_4
                  try clear hfz11_5
                  try clear hfz11_6
                  try clear hfz11_7
                  try clear hfz11_8
                  try clear hfz11_9
                  try clear hfz12_0
                  try clear hfz12_1
                  try clear hfz12_10
                  try clear hfz12_2
                  try clear hfz12_3
                  try clear hfz12_4
                  try clear hfz12_5
                  try clear hfz12_6
                  try clear hfz12_7
                  try clear hfz12_8
                  try clear hfz12_9
                  try clear hfz24_0
                  try clear hfz24_1
                  try clear hfz24_10
                  try clear hfz24_2
                  try clear hfz24_3
                  try clear hfz24_4
                  try clear hfz24_5
                  try clear hfz24_6
                  try clear hfz24_7
                  try clear hfz24_8
                  try clear hfz24_9
                  try clear hfz27_0
                  try clear hfz27_1
                  try clear hfz27_2
                  try clear hfz27_3
                  try clear hfz27_4
                  try clear hfz27_5
                  try clear hfz27_6
                  try clear hfz27_7
                  try clear hfz27_8
                  try clear hfz27_9
                  try clear hfz28_0
                  try clear hfz28_1
                  try clear hfz28_10
                  try clear hfz28_2
                  try clear hfz28_3
                  try clear hfz28_4
                  try clear hfz28_5
                  try clear hfz28_6
                  try clear hfz28_7
                  try clear hfz28_8
                  try clear hfz28_9
                  try clear hfz37_0
                  try clear hfz37_1
                  try clear hfz37_2
                  try clear hfz37_3
                  try clear hfz37_4
                  try clear hfz37_5
                  try clear hfz37_6
                  try clear hfz37_7
                  try clear hfz37_8
                  try clear hfz37_9
                  try clear hfz39_0
                  try clear hfz39_1
                  try clear hfz39_2
                  try clear hfz39_3
                  try clear hfz39_4
                  try clear hfz39_5
                  try clear hfz39_6
                  try clear hfz39_7
                  try clear hfz39_8
                  try clear hfz39_9
                  try clear hfz8_0
                  try clear hfz8_1
                  try clear hfz8_10
                  try clear hfz8_2
                  try clear hfz8_3
                  try clear hfz8_4
                  try clear hfz8_5
                  try clear hfz8_6
                  try clear hfz8_7
                  try clear hfz8_8
                  try clear hfz8_9
                  try clear hx17_0
                  try clear hx19_0
                  try clear hx33_0
                  try clear p17
                  try clear p19
                  try clear q17
                  try clear q19
                  obtain ⟨kq, x7_21, rfl, HA, HJ21, HO_6, BK547, BK548, HB⟩ := hcut
                  have hl6_21 := (Kd.R_reads' HO_6.out).1
                  rw [hl6_21] at HO_6
                  (try simp only [hl6_21])
                  (try simp only [hl6_21] at BK547)
                  (try simp only [hl6_21] at BK548)
                  cases kq with
                  | zero => exact absurd HA.out (by simp [ip4_Build.j0])
                  | succ kj21 =>
                    have H := HA.out
                    clear HA
                    simp only [ip4_Build.j0] at H
                    have HC41 := Aside0.mk H
                    clear H
                    have hnb42 := NB548_547.out
                    have hnc42 := NB547_548.out
                    have hcz43_0 : wc.cell? ⟨gb548, 0, none⟩ = some (.int .u8 a0_0) := (blk_cell BK548.out 0).trans rfl
                    have hcz43_1 : wc.cell? ⟨gb548, 1, none⟩ = some (.int .u16 a0_1) := (blk_cell BK548.out 1).trans rfl
                    have hcz43_2 : wc.cell? ⟨gb548, 2, none⟩ = some (.bool a0_2) := (blk_cell BK548.out 2).trans rfl
                    have hcz43_3 : wc.cell? ⟨gb548, 3, none⟩ = some (.bool a0_3) := (blk_cell BK548.out 3).trans rfl
                    have hcz43_4 : wc.cell? ⟨gb548, 4, none⟩ = some (.int .i64 a0_4) := (blk_cell BK548.out 4).trans rfl
                    have hcz43_5 : wc.cell? ⟨gb548, 5, none⟩ = some (.int .u8 a0_5) := (blk_cell BK548.out 5).trans rfl
                    have hcz43_6 : wc.cell? ⟨gb548, 6, none⟩ = some (.int .u8 a0_6) := (blk_cell BK548.out 6).trans rfl
                    have hcz43_7 : wc.cell? ⟨gb548, 7, none⟩ = some (.int .u32 a0_7) := (blk_cell BK548.out 7).trans rfl
                    have hcz43_8 : wc.cell? ⟨gb548, 8, none⟩ = some (.int .u32 a0_8) := (blk_cell BK548.out 8).trans rfl
                    have hcz43_9 : wc.cell? ⟨gb548, 9, none⟩ = some (.slice A0_9 l0_9.length c0_9) := (blk_cell BK548.out 9).trans rfl
                    have hfz43_0 := blk_frozen BK548.out 0
                    have hfz43_1 := blk_frozen BK548.out 1
                    have hfz43_2 := blk_frozen BK548.out 2
                    have hfz43_3 := blk_frozen BK548.out 3
                    have hfz43_4 := blk_frozen BK548.out 4
                    have hfz43_5 := blk_frozen BK548.out 5
                    have hfz43_6 := blk_frozen BK548.out 6
                    have hfz43_7 := blk_frozen BK548.out 7
                    have hfz43_8 := blk_frozen BK548.out 8
                    have hfz43_9 := blk_frozen BK548.out 9
                    go_upto_if 69 with (fail)
                    go_cut [7] (fun v7 wc => ∃ (kq : Nat) (x7_40 : Int), v7 = .int .u16 x7_40 ∧ Aside0 (ip4_Build.j1 kq (wrap64 (20 + (l0_9.length : Int))) t557 x7_40 a0_0 a0_1 a0_2 a0_3 a0_4 a0_5 a0_6 a0_7 a0_8 l0_9 l0_10 a0_0 a0_1 a0_2 a0_3 a0_4 a0_5 a0_6 a0_7 a0_8 l0_9 = some (r1, r2)) ∧ Aside0 (kq ≤ kj21) ∧ Aside0 (Kd.R (Kd.int .u8) 5 wc w.heap.size (fun _ => True) (.slice (some ⟨go17, 0, none⟩) t557.length co17) t557) ∧ Aside0 (wc.heap[gb547]? = some (.cells #[.int .u8 a0_0, .int .u16 a0_1, .bool a0_2, .bool a0_3, .int .i64 a0_4, .int .u8 a0_5, .int .u8 a0_6, .int .u32 a0_7, .int .u32 a0_8, (.slice A0_9 l0_9.length c0_9), (.slice A0_10 l0_10.length c0_10)] 33 (0, 0))) ∧ Aside0 (wc.heap[gb548]? = some (.cells #[.int .u8 a0_0, .int .u16 a0_1, .bool a0_2, .bool a0_3, .int .i64 a0_4, .int .u8 a0_5, .int .u8 a0_6, .int .u32 a0_7, .int .u32 a0_8, (.slice A0_9 l0_9.length c0_9)] 31 (0, 0))) ∧ Aside0 (Below w.heap.size w wc))
                    case first =>
                      have H := HC41.out
                      clear HC41
                      by_cases c44 : a0_3 = true
                      · subst c44
                        have H1 : (ip4_Build.j1 kj21 (wrap64 (20 + (l0_9.length : Int))) t557 (Go.bits .or .u16 x7_21 8192) a0_0 a0_1 a0_2 true a0_4 a0_5 a0_6 a0_7 a0_8 l0_9 l0_10 a0_0 a0_1 a0_2 true a0_4 a0_5 a0_6 a0_7 a0_8 l0_9) = some (r1, r2) := by rw [if_pos rfl] at H; exact H
                        clear H
                        have H := H1
                        clear H1
                        have H' := Aside0.mk H
                        clear H
                        go_wp2
                        go_meet
                        case rel => exact ⟨_, (Go.bits .or .u16 x7_21 8192), (by first | rfl | (simp; done) | (simp [*]; done)), H', ⟨by have := HJ21.out; first | omega | exact Nat.le_refl _⟩, ⟨by (try simp only [hl6_21]); (with_reducible repeat (first | apply Kd.R_alloc | apply Kd.R_drewN | apply Kd.R_drew)); exact HO_6.out⟩, ⟨by (try simp only [hl6_21]); first | (with_reducible exact BK547.out) | (with_reducible exact blk_drewN BK547.out _) | (with_reducible exact blk_drew BK547.out) | ((with_reducible repeat (first | refine blk_drewN ?_ _ | refine blk_drew ?_ | refine blk_alloc ?_ _)); exact BK547.out)⟩, ⟨by (try simp only [hl6_21]); first | (with_reducible exact BK548.out) | (with_reducible exact blk_drewN BK548.out _) | (with_reducible exact blk_drew BK548.out) | ((with_reducible repeat (first | refine blk_drewN ?_ _ | refine blk_drew ?_ | refine blk_alloc ?_ _)); exact BK548.out)⟩, ⟨by repeat (first | (with_reducible first | exact HB.out | apply below_alloc | apply pw_below_drewN | apply below_drew1 | refine below_set ?_ GE547.out | refine below_set ?_ GE548.out) | exact HB.out)⟩⟩
                      · replace c44 := Bool.eq_false_iff.mpr c44
                        subst c44
                        have H1 : (ip4_Build.j1 kj21 (wrap64 (20 + (l0_9.length : Int))) t557 x7_21 a0_0 a0_1 a0_2 false a0_4 a0_5 a0_6 a0_7 a0_8 l0_9 l0_10 a0_0 a0_1 a0_2 false a0_4 a0_5 a0_6 a0_7 a0_8 l0_9) = some (r1, r2) := by rw [if_neg (show ¬ (false = true) by decide)] at H; exact H
                        clear H
                        have H := H1
                        clear H1
                        have H' := Aside0.mk H
                        clear H
                        go_wp2
                        go_meet
                        case rel => exact ⟨_, (x7_21), (by first | rfl | (simp; done) | (simp [*]; done)), H', ⟨by have := HJ21.out; first | omega | exact Nat.le_refl _⟩, ⟨by (try simp only [hl6_21]); (with_reducible repeat (first | apply Kd.R_alloc | apply Kd.R_drewN | apply Kd.R_drew)); exact HO_6.out⟩, ⟨by (try simp only [hl6_21]); first | (with_reducible exact BK547.out) | (with_reducible exact blk_drewN BK547.out _) | (with_reducible exact blk_drew BK547.out) | ((with_reducible repeat (first | refine blk_drewN ?_ _ | refine blk_drew ?_ | refine blk_alloc ?_ _)); exact BK547.out)⟩, ⟨by (try simp only [hl6_21]); first | (with_reducible exact BK548.out) | (with_reducible exact blk_drewN BK548.out _) | (with_reducible exact blk_drew BK548.out) | ((with_reducible repeat (first | refine blk_drewN ?_ _ | refine blk_drew ?_ | refine blk_alloc ?_ _)); exact BK548.out)⟩, ⟨by repeat (first | (with_reducible first | exact HB.out | apply below_alloc | apply pw_below_drewN | apply below_drew1 | refine below_set ?_ GE547.out | refine below_set ?_ GE548.out) | exact HB.out)⟩⟩
                    case rest =>
                      clear HC41
                      try clear c1
                      try clear p1
                      try clear q1
                      try clear hx1
                      try clear qi1
                      try clear hf1
                      try clear c2
                      try clear p2
                      try clear c3
                      try clear hx3
                      try clear hf3
                      try clear c4
                      try clear p4
                      try clear c5
                      try clear c6
                      try clear c6b0
                      try clear p6
                      try clear c10
                      try clear c14
                      try clear c14b0
                      try clear c14b1
                      try clear c15
                      try clear c15b0
                      try clear c15b1
                      try clear c16
                      try clear c16b0
                      try clear c16b1
                      try clear p17
                      try clear q17
                      try clear hx17
                      try clear qi17
                      try clear hf17
                      try clear c18
                      try clear c18b0
                      try clear c18b1
                      try clear p19
                      try clear q19
                      try clear hx19
                      try clear qi19
                      try clear hf19
                      try clear c26
                      try clear hx33
                      try clear hf33
                      try clear c36
                      try clear c40
                      try clear c42
                      try clear c44
                      try clear hcz11_0
                      try clear hcz11_1
                      try clear hcz11_2
                      try clear hcz11_3
                      try clear hcz11_4
                      try clear hcz11_5
                      try clear hcz11_6
                      try clear hcz11_7
                      try clear hcz11_8
                      try clear hcz11_9
                      try clear hcz12_0
                      try clear hcz12_1
                      try clear hcz12_10
                      try clear hcz12_2
                      try clear hcz12_3
                      try clear hcz12_4
                      try clear hcz12_5
                      try clear hcz12_6
                      try clear hcz12_7
                      try clear hcz12_8
                      try clear hcz12_9
                      try clear hcz24_0
                      try clear hcz24_1
                      try clear hcz24_10
                      try clear hcz24_2
                      try clear hcz24_3
                      try clear hcz24_4
                      try clear hcz24_5
                      try clear hcz24_6
                      try clear hcz24_7
                      try clear hcz24_8
                      try clear hcz24_9
                      try clear hcz27_0
                      try clear hcz27_1
                      try clear hcz27_2
                      try clear hcz27_3
                      try clear hcz27_4
                      try clear hcz27_5
                      try clear hcz27_6
                      try clear hcz27_7
                      try clear hcz27_8
                      try clear hcz27_9
                      try clear hcz28_0
                      try clear hcz28_1
                      try clear hcz28_10
                      try clear hcz28_2
                      try clear hcz28_3
                      try clear hcz28_4
                      try clear hcz28_5
                      try clear hcz28_6
                      try clear hcz28_7
                      try clear hcz28_8
                      try clear hcz28_9
                      try clear hcz37_0
                      try clear hcz37_1
                      try clear hcz37_2
                      try clear hcz37_3
                      try clear hcz37_4
                      try clear hcz37_5
                      try clear hcz37_6
                      try clear hcz37_7
                      try clear hcz37_8
                      try clear hcz37_9
                      try clear hcz39_0
                      try clear hcz39_1
                      try clear hcz39_2
                      try clear hcz39_3
                      try clear hcz39_4
                      try clear hcz39_5
                      try clear hcz39_6
                      try clear hcz39_7
                      try clear hcz39_8
                      try clear hcz39_9
                      try clear hcz43_0
                      try clear hcz43_1
                      try clear hcz43_2
                      try clear hcz43_3
                      try clear hcz43_4
                      try clear hcz43_5
                      try clear hcz43_6
                      try clear hcz43_7
                      try clear hcz43_8
                      try clear hcz43_9
                      try clear hcz8_0
                      try clear hcz8_1
                      try clear hcz8_10
                      try clear hcz8_2
                      try clear hcz8_3
                      try clear hcz8_4
                      try clear hcz8_5
                      try clear hcz8_6
                      try clear hcz8_7
                      try clear hcz8_8
                      try clear hcz8_9
                      try clear hfz11_0
                      try clear hfz11_1
                      try clear hfz11_2
                      try clear hfz11_3
                      try clear hfz11_4
                      try clear hfz11_5
                      try clear hfz11_6
                      try clear hfz11_7
                      try clear hfz11_8
                      try clear hfz11_9
                      try clear hfz12_0
                      try clear hfz12_1
                      try clear hfz12_10
                      try clear hfz12_2
                      try clear hfz12_3
                      try clear hfz12_4
                      try clear hfz12_5
                      try clear hfz12_6
                      try clear hfz12_7
                      try clear hfz12_8
                      try clear hfz12_9
                      try clear hfz24_0
                      try clear hfz24_1
                      try clear hfz24_10
                      try clear hfz24_2
                      try clear hfz24_3
                      try clear hfz24_4
                      try clear hfz24_5
                      try clear hfz24_6
                      try clear hfz24_7
                      try clear hfz24_8
                      try clear hfz24_9
                      try clear hfz27_0
                      try clear hfz27_1
                      try clear hfz27_2
                      try clear hfz27_3
                      try clear hfz27_4
                      try clear hfz27_5
                      try clear hfz27_6
                      try clear hfz27_7
                      try clear hfz27_8
                      try clear hfz27_9
                      try clear hfz28_0
                      try clear hfz28_1
                      try clear hfz28_10
                      try clear hfz28_2
                      try clear hfz28_3
                      try clear hfz28_4
                      try clear hfz28_5
                      try clear hfz28_6
                      try clear hfz28_7
                      try clear hfz28_8
                      try clear hfz28_9
                      try clear hfz37_0
                      try clear hfz37_1
                      try clear hfz37_2
                      try clear hfz37_3
                      try clear hfz37_4
                      try clear hfz37_5
                      try clear hfz37_6
                      try clear hfz37_7
                      try clear hfz37_8
                      try clear hfz37_9
                      try clear hfz39_0
                      try clear hfz39_1
                      try clear hfz39_2
                      try clear hfz39_3
                      try clear hfz39_4
                      try clear hfz39_5
                      try clear hfz39_6
                      try clear hfz39_7
                      try clear hfz39_8
                      try clear hfz39_9
                      try clear hfz43_0
                      try clear hfz43_1
                      try clear hfz43_2
                      try clear hfz43_3
                      try clear hfz43_4
                      try clear hfz43_5
                      try clear hfz43_6
                      try clear hfz43_7
                      try clear hfz43_8
                      try clear hfz43_9
                      try clear hfz8_0
                      try clear hfz8_1
                      try clear hfz8_10
                      try clear hfz8_2
                      try clear hfz8_3
                      try clear hfz8_4
                      try clear hfz8_5
                      try clear hfz8_6
                      try clear hfz8_7
                      try clear hfz8_8
                      try clear hfz8_9
                      try clear hx17_0
                      try clear hx19_0
                      try clear hx33_0
                      try clear p1
                      try clear p17
                      try clear p19
                      try clear p2
                      try clear p4
                      try clear p6
                      try clear q1
                      try clear q17
                      try clear q19
                      obtain ⟨kq, x7_40, rfl, HA, HJ40, HO_6, BK547, BK548, HB⟩ := hcut
                      cases kq with
                      | zero => exact absurd HA.out (by simp [ip4_Build.j1])
                      | succ kj40 =>
                        have H := HA.out
                        clear HA
                        simp only [ip4_Build.j1] at H
                        replace H := Option.bind_eq_some_iff.mp H
                        obtain ⟨t558, A450, H⟩ := H
                        replace H : (if 8 < (t557.length : Int) then (if 9 < (t557.length : Int) then ((ip4_putLong.f ((t558.set (8 : Int).toNat a0_5).set (9 : Int).toNat a0_6) 12 a0_7).bind fun t561 => ((ip4_putLong.f t561 16 a0_8).bind fun t562 => (if 20 ≤ (t557.length : Int) then (if 0 ≤ (wrap64 (20 + (l0_9.length : Int))) then (if (wrap64 (20 + (l0_9.length : Int))) ≤ (t557.length : Int) then ((some (cpy (cpy t562 20 l0_9) (((wrap64 (20 + (l0_9.length : Int))) : Int).toNat) l0_10 : List Int)).bind fun y572 => (if 10 ≤ (t557.length : Int) then (if 12 ≤ (wrap64 (20 + (l0_9.length : Int))) then ((ip4_Sum.f kj40 (([(y572.take 10), ((y572.take ((wrap64 (20 + (l0_9.length : Int))) : Int).toNat).drop 12)] : List (List Int)))).bind fun t585 => ((ip4_putWord.f y572 10 t585).bind fun t586 => (some (t586, 0)))) else (none)) else (none))) else (none)) else (none)) else (none)))) else (none)) else (none)) = some (r1, r2) := H
                        have A45 := Aside0.mk A450
                        clear A450
                        by_cases c46 : 8 < (t557.length : Int)
                        · rw [if_pos c46] at H
                          have c46b0 : decide (8 < (t557.length : Int)) = true := decide_eq_true c46
                          have c46b1 : decide (8 < t557.length) = true := decide_eq_true (by omega)
                          clear c46
                          obtain ⟨y559, hy559⟩ : ∃ y_ : List Int, y_ = (t558.set (8 : Int).toNat a0_5) := ⟨_, rfl⟩
                          replace H : (if 9 < (t557.length : Int) then ((ip4_putLong.f (y559.set (9 : Int).toNat a0_6) 12 a0_7).bind fun t561 => ((ip4_putLong.f t561 16 a0_8).bind fun t562 => (if 20 ≤ (t557.length : Int) then (if 0 ≤ (wrap64 (20 + (l0_9.length : Int))) then (if (wrap64 (20 + (l0_9.length : Int))) ≤ (t557.length : Int) then ((some (cpy (cpy t562 20 l0_9) (((wrap64 (20 + (l0_9.length : Int))) : Int).toNat) l0_10 : List Int)).bind fun y572 => (if 10 ≤ (t557.length : Int) then (if 12 ≤ (wrap64 (20 + (l0_9.length : Int))) then ((ip4_Sum.f kj40 (([(y572.take 10), ((y572.take ((wrap64 (20 + (l0_9.length : Int))) : Int).toNat).drop 12)] : List (List Int)))).bind fun t585 => ((ip4_putWord.f y572 10 t585).bind fun t586 => (some (t586, 0)))) else (none)) else (none))) else (none)) else (none)) else (none)))) else (none)) = some (r1, r2) := by first | (rw [hy559]; with_reducible exact H) | (have H2_ := (Option.bind_some _ _).symm.trans H; rw [hy559]; with_reducible exact H2_) | (have H2_ := (Option.bind_some _ _).symm.trans H; with_reducible exact H2_) | with_reducible exact H | (rw [hy559]; exact H) | exact H
                          have Ny559 := Aside0.mk hy559
                          clear hy559
                          by_cases c48 : 9 < (t557.length : Int)
                          · rw [if_pos c48] at H
                            have c48b0 : decide (9 < (t557.length : Int)) = true := decide_eq_true c48
                            have c48b1 : decide (9 < t557.length) = true := decide_eq_true (by omega)
                            clear c48
                            obtain ⟨y560, hy560⟩ : ∃ y_ : List Int, y_ = (y559.set (9 : Int).toNat a0_6) := ⟨_, rfl⟩
                            replace H : ((ip4_putLong.f y560 12 a0_7).bind fun t561 => ((ip4_putLong.f t561 16 a0_8).bind fun t562 => (if 20 ≤ (t557.length : Int) then (if 0 ≤ (wrap64 (20 + (l0_9.length : Int))) then (if (wrap64 (20 + (l0_9.length : Int))) ≤ (t557.length : Int) then ((some (cpy (cpy t562 20 l0_9) (((wrap64 (20 + (l0_9.length : Int))) : Int).toNat) l0_10 : List Int)).bind fun y572 => (if 10 ≤ (t557.length : Int) then (if 12 ≤ (wrap64 (20 + (l0_9.length : Int))) then ((ip4_Sum.f kj40 (([(y572.take 10), ((y572.take ((wrap64 (20 + (l0_9.length : Int))) : Int).toNat).drop 12)] : List (List Int)))).bind fun t585 => ((ip4_putWord.f y572 10 t585).bind fun t586 => (some (t586, 0)))) else (none)) else (none))) else (none)) else (none)) else (none)))) = some (r1, r2) := by first | (rw [hy560]; with_reducible exact H) | (have H2_ := (Option.bind_some _ _).symm.trans H; rw [hy560]; with_reducible exact H2_) | (have H2_ := (Option.bind_some _ _).symm.trans H; with_reducible exact H2_) | with_reducible exact H | (rw [hy560]; exact H) | exact H
                            have Ny560 := Aside0.mk hy560
                            clear hy560
                            replace H := Option.bind_eq_some_iff.mp H
                            obtain ⟨t561, A500, H⟩ := H
                            replace H : ((ip4_putLong.f t561 16 a0_8).bind fun t562 => (if 20 ≤ (t557.length : Int) then (if 0 ≤ (wrap64 (20 + (l0_9.length : Int))) then (if (wrap64 (20 + (l0_9.length : Int))) ≤ (t557.length : Int) then ((some (cpy (cpy t562 20 l0_9) (((wrap64 (20 + (l0_9.length : Int))) : Int).toNat) l0_10 : List Int)).bind fun y572 => (if 10 ≤ (t557.length : Int) then (if 12 ≤ (wrap64 (20 + (l0_9.length : Int))) then ((ip4_Sum.f kj40 (([(y572.take 10), ((y572.take ((wrap64 (20 + (l0_9.length : Int))) : Int).toNat).drop 12)] : List (List Int)))).bind fun t585 => ((ip4_putWord.f y572 10 t585).bind fun t586 => (some (t586, 0)))) else (none)) else (none))) else (none)) else (none)) else (none))) = some (r1, r2) := H
                            have A50 := Aside0.mk A500
                            clear A500
                            replace H := Option.bind_eq_some_iff.mp H
                            obtain ⟨t562, A510, H⟩ := H
                            replace H : (if 20 ≤ (t557.length : Int) then (if 0 ≤ (wrap64 (20 + (l0_9.length : Int))) then (if (wrap64 (20 + (l0_9.length : Int))) ≤ (t557.length : Int) then ((some (cpy (cpy t562 20 l0_9) (((wrap64 (20 + (l0_9.length : Int))) : Int).toNat) l0_10 : List Int)).bind fun y572 => (if 10 ≤ (t557.length : Int) then (if 12 ≤ (wrap64 (20 + (l0_9.length : Int))) then ((ip4_Sum.f kj40 (([(y572.take 10), ((y572.take ((wrap64 (20 + (l0_9.length : Int))) : Int).toNat).drop 12)] : List (List Int)))).bind fun t585 => ((ip4_putWord.f y572 10 t585).bind fun t586 => (some (t586, 0)))) else (none)) else (none))) else (none)) else (none)) else (none)) = some (r1, r2) := H
                            have A51 := Aside0.mk A510
                            clear A510
                            by_cases c52 : 20 ≤ (t557.length : Int)
                            · rw [if_pos c52] at H
                              have c52b0 := eq_true c52
                              have c52b1 : decide (20 ≤ (t557.length : Int)) = true := decide_eq_true c52
                              clear c52
                              obtain ⟨y563, hy563⟩ : ∃ y_ : List Int, y_ = (t562.drop 20) := ⟨_, rfl⟩
                              replace H : (if 0 ≤ (wrap64 (20 + (l0_9.length : Int))) then (if (wrap64 (20 + (l0_9.length : Int))) ≤ (t557.length : Int) then ((some (cpy (cpy t562 20 l0_9) (((wrap64 (20 + (l0_9.length : Int))) : Int).toNat) l0_10 : List Int)).bind fun y572 => (if 10 ≤ (t557.length : Int) then (if 12 ≤ (wrap64 (20 + (l0_9.length : Int))) then ((ip4_Sum.f kj40 (([(y572.take 10), ((y572.take ((wrap64 (20 + (l0_9.length : Int))) : Int).toNat).drop 12)] : List (List Int)))).bind fun t585 => ((ip4_putWord.f y572 10 t585).bind fun t586 => (some (t586, 0)))) else (none)) else (none))) else (none)) else (none)) = some (r1, r2) := by first | (rw [hy563]; with_reducible exact H) | (have H2_ := (Option.bind_some _ _).symm.trans H; rw [hy563]; with_reducible exact H2_) | (have H2_ := (Option.bind_some _ _).symm.trans H; with_reducible exact H2_) | with_reducible exact H | (rw [hy563]; exact H) | exact H
                              have Ny563 := Aside0.mk hy563
                              clear hy563
                              obtain ⟨y567, hy567⟩ : ∃ y_ : List Int, y_ = (cpy t562 20 l0_9) := ⟨_, rfl⟩
                              replace H : (if 0 ≤ (wrap64 (20 + (l0_9.length : Int))) then (if (wrap64 (20 + (l0_9.length : Int))) ≤ (t557.length : Int) then ((some (cpy y567 (((wrap64 (20 + (l0_9.length : Int))) : Int).toNat) l0_10 : List Int)).bind fun y572 => (if 10 ≤ (t557.length : Int) then (if 12 ≤ (wrap64 (20 + (l0_9.length : Int))) then ((ip4_Sum.f kj40 (([(y572.take 10), ((y572.take ((wrap64 (20 + (l0_9.length : Int))) : Int).toNat).drop 12)] : List (List Int)))).bind fun t585 => ((ip4_putWord.f y572 10 t585).bind fun t586 => (some (t586, 0)))) else (none)) else (none))) else (none)) else (none)) = some (r1, r2) := by first | (rw [hy567]; with_reducible exact H) | (have H2_ := (Option.bind_some _ _).symm.trans H; rw [hy567]; with_reducible exact H2_) | (have H2_ := (Option.bind_some _ _).symm.trans H; with_reducible exact H2_) | with_reducible exact H | (rw [hy567]; exact H) | exact H
                              have Ny567 := Aside0.mk hy567
                              clear hy567
                              obtain ⟨ji53, hji53⟩ : ∃ j_ : Int, (wrap64 (20 + (l0_9.length : Int))) = j_ := ⟨_, rfl⟩
                              replace H : (if 0 ≤ (ji53) then (if (ji53) ≤ (t557.length : Int) then ((some (cpy y567 (((ji53) : Int).toNat) l0_10 : List Int)).bind fun y572 => (if 10 ≤ (t557.length : Int) then (if 12 ≤ (ji53) then ((ip4_Sum.f kj40 (([(y572.take 10), ((y572.take ((ji53) : Int).toNat).drop 12)] : List (List Int)))).bind fun t585 => ((ip4_putWord.f y572 10 t585).bind fun t586 => (some (t586, 0)))) else (none)) else (none))) else (none)) else (none)) = some (r1, r2) := by first | (rw [hji53] at H; exact H) | (simp only [hji53] at H ⊢; exact H)
                              (try rw [hji53] at c6b0)
                              (try rw [hji53] at A45)
                              (try rw [hji53] at A50)
                              (try rw [hji53] at A51)
                              have hji53w : (IntKind.i64.wrap (20 + (l0_9.length : Int))) = ji53 := (i64_w _).trans hji53
                              by_cases c54 : 0 ≤ (ji53)
                              · rw [if_pos c54] at H
                                have c54b0 := eq_true c54
                                have c54b1 : decide (0 ≤ (ji53)) = true := decide_eq_true c54
                                clear c54
                                by_cases c55 : (ji53) ≤ (t557.length : Int)
                                · rw [if_pos c55] at H
                                  have c55b0 := eq_true c55
                                  have c55b1 : decide ((ji53) ≤ (t557.length : Int)) = true := decide_eq_true c55
                                  clear c55
                                  obtain ⟨y568, hy568⟩ : ∃ y_ : List Int, y_ = (y567.drop ((ji53) : Int).toNat) := ⟨_, rfl⟩
                                  replace H : ((some (cpy y567 (((ji53) : Int).toNat) l0_10 : List Int)).bind fun y572 => (if 10 ≤ (t557.length : Int) then (if 12 ≤ (ji53) then ((ip4_Sum.f kj40 (([(y572.take 10), ((y572.take ((ji53) : Int).toNat).drop 12)] : List (List Int)))).bind fun t585 => ((ip4_putWord.f y572 10 t585).bind fun t586 => (some (t586, 0)))) else (none)) else (none))) = some (r1, r2) := by first | (rw [hy568]; with_reducible exact H) | (have H2_ := (Option.bind_some _ _).symm.trans H; rw [hy568]; with_reducible exact H2_) | (have H2_ := (Option.bind_some _ _).symm.trans H; with_reducible exact H2_) | with_reducible exact H | (rw [hy568]; exact H) | exact H
                                  have Ny568 := Aside0.mk hy568
                                  clear hy568
                                  obtain ⟨y572, hy572⟩ : ∃ y_ : List Int, y_ = (cpy y567 (((ji53) : Int).toNat) l0_10) := ⟨_, rfl⟩
                                  replace H : (if 10 ≤ (t557.length : Int) then (if 12 ≤ (ji53) then ((ip4_Sum.f kj40 (([(y572.take 10), ((y572.take ((ji53) : Int).toNat).drop 12)] : List (List Int)))).bind fun t585 => ((ip4_putWord.f y572 10 t585).bind fun t586 => (some (t586, 0)))) else (none)) else (none)) = some (r1, r2) := by first | (rw [hy572]; with_reducible exact H) | (have H2_ := (Option.bind_some _ _).symm.trans H; rw [hy572]; with_reducible exact H2_) | (have H2_ := (Option.bind_some _ _).symm.trans H; with_reducible exact H2_) | with_reducible exact H | (rw [hy572]; exact H) | exact H
                                  have Ny572 := Aside0.mk hy572
                                  clear hy572
                                  by_cases c56 : 10 ≤ (t557.length : Int)
                                  · rw [if_pos c56] at H
                                    have c56b0 := eq_true c56
                                    have c56b1 : decide (10 ≤ (t557.length : Int)) = true := decide_eq_true c56
                                    clear c56
                                    obtain ⟨y573, hy573⟩ : ∃ y_ : List Int, y_ = (y572.take 10) := ⟨_, rfl⟩
                                    replace H : (if 12 ≤ (ji53) then ((ip4_Sum.f kj40 (([y573, ((y572.take ((ji53) : Int).toNat).drop 12)] : List (List Int)))).bind fun t585 => ((ip4_putWord.f y572 10 t585).bind fun t586 => (some (t586, 0)))) else (none)) = some (r1, r2) := by first | (rw [hy573]; with_reducible exact H) | (have H2_ := (Option.bind_some _ _).symm.trans H; rw [hy573]; with_reducible exact H2_) | (have H2_ := (Option.bind_some _ _).symm.trans H; with_reducible exact H2_) | with_reducible exact H | (rw [hy573]; exact H) | exact H
                                    have Ny573 := Aside0.mk hy573
                                    clear hy573
                                    by_cases c57 : 12 ≤ (ji53)
                                    · rw [if_pos c57] at H
                                      have c57b0 := eq_true c57
                                      have c57b1 : decide (12 ≤ (ji53)) = true := decide_eq_true c57
                                      clear c57
                                      have c58b0 := eq_true (of_decide_eq_true (by first | (with_reducible assumption) | assumption) : (ji53) ≤ (t557.length : Int))
                                      obtain ⟨y577, hy577⟩ : ∃ y_ : List Int, y_ = ((y572.take ((ji53) : Int).toNat).drop 12) := ⟨_, rfl⟩
                                      replace H : ((ip4_Sum.f kj40 (([y573, y577] : List (List Int)))).bind fun t585 => ((ip4_putWord.f y572 10 t585).bind fun t586 => (some (t586, 0)))) = some (r1, r2) := by first | (rw [hy577]; with_reducible exact H) | (have H2_ := (Option.bind_some _ _).symm.trans H; rw [hy577]; with_reducible exact H2_) | (have H2_ := (Option.bind_some _ _).symm.trans H; with_reducible exact H2_) | with_reducible exact H | (rw [hy577]; exact H) | exact H
                                      have Ny577 := Aside0.mk hy577
                                      clear hy577
                                      obtain ⟨y581, hy581⟩ : ∃ y_ : List (List Int), y_ = (([y573, y577] : List (List Int))) := ⟨_, rfl⟩
                                      replace H : ((ip4_Sum.f kj40 y581).bind fun t585 => ((ip4_putWord.f y572 10 t585).bind fun t586 => (some (t586, 0)))) = some (r1, r2) := by first | (rw [hy581]; with_reducible exact H) | (have H2_ := (Option.bind_some _ _).symm.trans H; rw [hy581]; with_reducible exact H2_) | (have H2_ := (Option.bind_some _ _).symm.trans H; with_reducible exact H2_) | with_reducible exact H | (rw [hy581]; exact H) | exact H
                                      have Ny581 := Aside0.mk hy581
                                      clear hy581
                                      replace H := Option.bind_eq_some_iff.mp H
                                      obtain ⟨t585, A590, H⟩ := H
                                      replace H : ((ip4_putWord.f y572 10 t585).bind fun t586 => (some (t586, 0))) = some (r1, r2) := H
                                      have A59 := Aside0.mk A590
                                      clear A590
                                      replace H := Option.bind_eq_some_iff.mp H
                                      obtain ⟨t586, A600, H⟩ := H
                                      replace H : (some (t586, 0)) = some (r1, r2) := H
                                      have A60 := Aside0.mk A600
                                      clear A600
                                      simp only [Option.some.injEq, Prod.mk.injEq] at H
                                      obtain ⟨rfl, rfl⟩ := H
                                      try go_wp2_with (first | ((with_reducible refine gate_callee (f := 52) rfl ?_); refine goesL_ (some 74) rfl rfl Try.func52 (by kernel_rfl) rfl #[.slice (some ⟨go17, 0, none⟩) t557.length co17, .int .i64 6, .int .u16 x7_40] rfl zq14_4 ?_; (with_reducible refine (ip4_putWord.calls (fun k_ => some k_ = (.slice (some ⟨go17, 0, none⟩) t557.length co17 : Value).ownBlock) (.slice (some ⟨go17, 0, none⟩) t557.length co17) t557 6 x7_40 t558 w _ ?side1 ?side2 A45.out).mono ?_); (case side1 => repeat (first | (with_reducible first | exact HB.out | apply below_alloc | apply pw_below_drewN | apply below_drew1 | refine below_set ?_ GE547.out | refine below_set ?_ GE548.out) | exact HB.out)); (case side2 => (with_reducible repeat (first | apply Kd.R_alloc | apply Kd.R_drewN | apply Kd.R_drew)); exact Kd.R_tight rfl HO_6.out); rintro e w61 ⟨rfl, hy0, hb, hkp⟩; refine ⟨_, rfl, ?_⟩; have n0_ := Aside0.mk (Kd.R_reok rfl hy0 (fun k_ e_ => HO_6.out.1 k_ e_)); have n1_ := Aside0.mk (blk_kept zq14_0 hkp (fun hs_ => (fun e_ => (Kd.R_ne HO_6.out BK547.out (by decide)) e_) hs_)); have n2_ := Aside0.mk (blk_kept zq14_1 hkp (fun hs_ => (fun e_ => (Kd.R_ne HO_6.out BK548.out (by decide)) e_) hs_)); have n3_ := Aside0.mk (hb); clear HO_6; clear BK547; clear BK548; clear HB; have HO_6 := n0_; have BK547 := n1_; have BK548 := n2_; have HB := n3_; clear n0_ n1_ n2_ n3_; (try clear hb); (try clear hkp); (try clear hy0)))
                                      have n0_ := Aside0.mk (Kd.R_drew HO_6.out)
                                      have n1_ := Aside0.mk (blk_drew BK547.out)
                                      have n2_ := Aside0.mk (blk_drew BK548.out)
                                      have n3_ := Aside0.mk (below_drew1 HB.out)
                                      clear HO_6
                                      clear BK547
                                      clear BK548
                                      clear HB
                                      have HO_6 := n0_
                                      have BK547 := n1_
                                      have BK548 := n2_
                                      have HB := n3_
                                      clear n0_ n1_ n2_ n3_
                                      have p47 : 0 ≤ (8 : Int) := (by omega)
                                      have q47 : (8 : Int) < ((t557.length : Int) : Int) := of_decide_eq_true (by first | (with_reducible assumption) | assumption)
                                      have qi47 : (8 < t557.length) = True := eq_true (by omega)
                                      obtain ⟨hx47_0, hf47_0⟩ := Kd.R_celln 0 HO_6.out (8 : Int) p47 q47
                                      (try rw [show ((8 : Int)).toNat = 8 from rfl] at hx47_0)
                                      (try simp only [Nat.reduceMul, Nat.zero_mul, Nat.zero_add, Nat.reduceAdd] at hx47_0)
                                      (try rw [show ((8 : Int)).toNat = 8 from rfl] at hf47_0)
                                      (try simp only [Nat.reduceMul, Nat.zero_mul, Nat.zero_add, Nat.reduceAdd] at hf47_0)
                                      replace p47 := eq_true p47
                                      replace q47 := eq_true q47
                                      have HP63 := Kd.R_putn HO_6.out (8 : Int) a0_5
                                      rw [← Ny559.out] at HP63
                                      have HQ63 := Aside0.mk HP63
                                      clear HP63
                                      have p49 : 0 ≤ (9 : Int) := (by omega)
                                      have q49 : (9 : Int) < ((t557.length : Int) : Int) := of_decide_eq_true (by first | (with_reducible assumption) | assumption)
                                      have qi49 : (9 < t557.length) = True := eq_true (by omega)
                                      obtain ⟨hx49_0, hf49_0⟩ := Kd.R_celln 0 HQ63.out (9 : Int) p49 q49
                                      obtain ⟨hx64_0, hf64_0⟩ := Kd.R_celln 0 HO_6.out (9 : Int) p49 q49
                                      (try rw [show ((9 : Int)).toNat = 9 from rfl] at hx64_0)
                                      (try simp only [Nat.reduceMul, Nat.zero_mul, Nat.zero_add, Nat.reduceAdd] at hx64_0)
                                      (try rw [show ((9 : Int)).toNat = 9 from rfl] at hf64_0)
                                      (try simp only [Nat.reduceMul, Nat.zero_mul, Nat.zero_add, Nat.reduceAdd] at hf64_0)
                                      (try rw [show ((9 : Int)).toNat = 9 from rfl] at hx49_0)
                                      (try simp only [Nat.reduceMul, Nat.zero_mul, Nat.zero_add, Nat.reduceAdd] at hx49_0)
                                      (try rw [show ((9 : Int)).toNat = 9 from rfl] at hf49_0)
                                      (try simp only [Nat.reduceMul, Nat.zero_mul, Nat.zero_add, Nat.reduceAdd] at hf49_0)
                                      replace p49 := eq_true p49
                                      replace q49 := eq_true q49
                                      have HP65 := Kd.R_putn HQ63.out (9 : Int) a0_6
                                      rw [← Ny560.out] at HP65
                                      have HQ65 := Aside0.mk HP65
                                      clear HP65
                                      refine start_ (n := 10) (S := fun w' => w'.cell? ⟨gb548, 0, none⟩ = some (.int .u8 a0_0) ∧ w'.cell? ⟨gb548, 1, none⟩ = some (.int .u16 a0_1) ∧ w'.cell? ⟨gb548, 2, none⟩ = some (.bool a0_2) ∧ w'.cell? ⟨gb548, 3, none⟩ = some (.bool a0_3) ∧ w'.cell? ⟨gb548, 4, none⟩ = some (.int .i64 a0_4) ∧ w'.cell? ⟨gb548, 5, none⟩ = some (.int .u8 a0_5) ∧ w'.cell? ⟨gb548, 6, none⟩ = some (.int .u8 a0_6) ∧ w'.cell? ⟨gb548, 7, none⟩ = some (.int .u32 a0_7) ∧ w'.cell? ⟨gb548, 8, none⟩ = some (.int .u32 a0_8) ∧ w'.cell? ⟨gb548, 9, none⟩ = some (.slice A0_9 l0_9.length c0_9)) (ds := []) #[false, false, false, false, false, false, false, false, false, false] (by kernel_rfl) rfl rfl ⟨(blk_cell BK548.out 0).trans rfl, (blk_cell BK548.out 1).trans rfl, (blk_cell BK548.out 2).trans rfl, (blk_cell BK548.out 3).trans rfl, (blk_cell BK548.out 4).trans rfl, (blk_cell BK548.out 5).trans rfl, (blk_cell BK548.out 6).trans rfl, (blk_cell BK548.out 7).trans rfl, (blk_cell BK548.out 8).trans rfl, (blk_cell BK548.out 9).trans rfl⟩ (fun hHeld => ?_); refine with_tabW ip4_Build.tab19 ip4_Build.bits19 (fun HT_ HW_ => ?_)
                                      generalize w61.drew = w62 at HO_6 BK547 BK548 HB HQ63 HQ65 hf47_0 hf49_0 hf64_0 hx47_0 hx49_0 hx64_0 hHeld ⊢
                                      refine pure_ (i := 0) (N := some 75) (v := ?_) (a' := ?_) #[true, false, false, false, false, false, false, false, false, false] rfl rfl (any_of HT_.out (by kernel_rfl)) (fun _ _ _ h => h) (Or.inl ⟨by rfl, ?_⟩) ?_ ?_
                                      rotate_left
                                      · intro w'
                                        go_simp
                                        with_reducible rfl
                                      rotate_left
                                      · simp only [Act.put, List.setIfInBounds_toArray, List.set_cons_zero, List.set_cons_succ, i64_w, i32_w, IntKind.wrap_u8, IntKind.wrap_u32]
                                        rfl
                                      refine pure_ (i := 1) (N := some 76) (v := ?_) (a' := ?_) #[true, true, false, false, false, false, false, false, false, false] rfl rfl (any_of HT_.out (by kernel_rfl)) (fun _ _ _ h => h) (Or.inl ⟨by rfl, ?_⟩) ?_ ?_
                                      rotate_left
                                      · intro w'
                                        go_simp
                                        with_reducible rfl
                                      rotate_left
                                      · simp only [Act.put, List.setIfInBounds_toArray, List.set_cons_zero, List.set_cons_succ, i64_w, i32_w, IntKind.wrap_u8, IntKind.wrap_u32]
                                        rfl
                                      refine pure_ (i := 2) (N := some 77) (v := ?_) (a' := ?_) #[true, true, true, false, false, false, false, false, false, false] rfl rfl (any_of HT_.out (by kernel_rfl)) (fun _ _ _ h => h) (Or.inl ⟨by rfl, ?_⟩) ?_ ?_
                                      rotate_left
                                      · intro w'
                                        go_simp
                                        with_reducible rfl
                                      rotate_left
                                      · simp only [Act.put, List.setIfInBounds_toArray, List.set_cons_zero, List.set_cons_succ, i64_w, i32_w, IntKind.wrap_u8, IntKind.wrap_u32]
                                        rfl
                                      refine pure_ (i := 4) (N := some 79) (v := ?_) (a' := ?_) #[true, true, true, false, true, false, false, false, false, false] rfl rfl (any_of HT_.out (by kernel_rfl)) (fun _ _ _ h => h) (Or.inl ⟨by rfl, ?_⟩) ?_ ?_
                                      rotate_left
                                      · intro w'
                                        go_simp
                                        with_reducible rfl
                                      rotate_left
                                      · simp only [Act.put, List.setIfInBounds_toArray, List.set_cons_zero, List.set_cons_succ, i64_w, i32_w, IntKind.wrap_u8, IntKind.wrap_u32]
                                        rfl
                                      refine take_ (i := 3) (N := some 78) (v := ?_) (a' := ?_) #[true, true, true, true, true, false, false, false, false, false] rfl rfl (take_ofW HT_.out HW_.out (by kernel_rfl)) (fun _ _ _ h => h) (Or.inl ⟨by rfl, ?_⟩) hHeld ?_ ?_
                                      rotate_left
                                      · rintro w' ⟨s0, s1, s2, s3, s4, s5, s6, s7, s8, s9⟩
                                        go_simp
                                        with_reducible rfl
                                      rotate_left
                                      · simp only [Act.put, List.setIfInBounds_toArray, List.set_cons_zero, List.set_cons_succ, i64_w, i32_w, IntKind.wrap_u8, IntKind.wrap_u32]
                                        rfl
                                      refine pure_ (i := 6) (N := some 81) (v := ?_) (a' := ?_) #[true, true, true, true, true, false, true, false, false, false] rfl rfl (any_of HT_.out (by kernel_rfl)) (fun _ _ _ h => h) (Or.inl ⟨by rfl, ?_⟩) ?_ ?_
                                      rotate_left
                                      · intro w'
                                        go_simp
                                        with_reducible rfl
                                      rotate_left
                                      · simp only [Act.put, List.setIfInBounds_toArray, List.set_cons_zero, List.set_cons_succ, i64_w, i32_w, IntKind.wrap_u8, IntKind.wrap_u32]
                                        rfl
                                      refine take_ (i := 5) (N := some 80) (v := ?_) (a' := ?_) #[true, true, true, true, true, true, true, false, false, false] rfl rfl (take_ofW HT_.out HW_.out (by kernel_rfl)) (fun _ _ _ h => h) (Or.inl ⟨by rfl, ?_⟩) hHeld ?_ ?_
                                      rotate_left
                                      · rintro w' ⟨s0, s1, s2, s3, s4, s5, s6, s7, s8, s9⟩
                                        go_simp
                                        with_reducible rfl
                                      rotate_left
                                      · simp only [Act.put, List.setIfInBounds_toArray, List.set_cons_zero, List.set_cons_succ, i64_w, i32_w, IntKind.wrap_u8, IntKind.wrap_u32]
                                        rfl
                                      refine one_ (i := 7) (N := none) #[true, true, true, true, true, true, true, true, false, false] rfl rfl (one_of HT_.out (by kernel_rfl)) (by decide) (fun K hK => ?_)
                                      refine skip_ (w1 := ?_) (by rfl) rfl ?_ ?_
                                      rotate_left
                                      · go_simp
                                        rfl
                                      refine hK.out _ _ ⟨(cell_far (p := ⟨go17, _, none⟩) (show gb548 ≠ go17 from zq14_5) _).trans (hHeld.1), (cell_far (p := ⟨go17, _, none⟩) (show gb548 ≠ go17 from zq14_5) _).trans (hHeld.2.1), (cell_far (p := ⟨go17, _, none⟩) (show gb548 ≠ go17 from zq14_5) _).trans (hHeld.2.2.1), (cell_far (p := ⟨go17, _, none⟩) (show gb548 ≠ go17 from zq14_5) _).trans (hHeld.2.2.2.1), (cell_far (p := ⟨go17, _, none⟩) (show gb548 ≠ go17 from zq14_5) _).trans (hHeld.2.2.2.2.1), (cell_far (p := ⟨go17, _, none⟩) (show gb548 ≠ go17 from zq14_5) _).trans (hHeld.2.2.2.2.2.1), (cell_far (p := ⟨go17, _, none⟩) (show gb548 ≠ go17 from zq14_5) _).trans (hHeld.2.2.2.2.2.2.1), (cell_far (p := ⟨go17, _, none⟩) (show gb548 ≠ go17 from zq14_5) _).trans (hHeld.2.2.2.2.2.2.2.1), (cell_far (p := ⟨go17, _, none⟩) (show gb548 ≠ go17 from zq14_5) _).trans (hHeld.2.2.2.2.2.2.2.2.1), (cell_far (p := ⟨go17, _, none⟩) (show gb548 ≠ go17 from zq14_5) _).trans (hHeld.2.2.2.2.2.2.2.2.2)⟩ (fun hHeld => ?_)
                                      clear hK K
                                      refine pure_ (i := 8) (N := some 82) (v := ?_) (a' := ?_) #[true, true, true, true, true, true, true, true, true, false] rfl rfl (any_of HT_.out (by kernel_rfl)) (fun _ _ _ h => h) (Or.inl ⟨by rfl, ?_⟩) ?_ ?_
                                      rotate_left
                                      · intro w'
                                        go_simp
                                        with_reducible rfl
                                      rotate_left
                                      · simp only [Act.put, List.setIfInBounds_toArray, List.set_cons_zero, List.set_cons_succ, i64_w, i32_w, IntKind.wrap_u8, IntKind.wrap_u32]
                                        rfl
                                      refine one_ (i := 9) (N := none) #[true, true, true, true, true, true, true, true, true, true] rfl rfl (one_of HT_.out (by kernel_rfl)) (by decide) (fun K hK => ?_)
                                      refine skip_ (w1 := ?_) (by rfl) rfl ?_ ?_
                                      rotate_left
                                      · go_simp
                                        rfl
                                      refine hK.out _ _ ⟨(cell_far (p := ⟨go17, _, none⟩) (show gb548 ≠ go17 from zq14_5) _).trans (hHeld.1), (cell_far (p := ⟨go17, _, none⟩) (show gb548 ≠ go17 from zq14_5) _).trans (hHeld.2.1), (cell_far (p := ⟨go17, _, none⟩) (show gb548 ≠ go17 from zq14_5) _).trans (hHeld.2.2.1), (cell_far (p := ⟨go17, _, none⟩) (show gb548 ≠ go17 from zq14_5) _).trans (hHeld.2.2.2.1), (cell_far (p := ⟨go17, _, none⟩) (show gb548 ≠ go17 from zq14_5) _).trans (hHeld.2.2.2.2.1), (cell_far (p := ⟨go17, _, none⟩) (show gb548 ≠ go17 from zq14_5) _).trans (hHeld.2.2.2.2.2.1), (cell_far (p := ⟨go17, _, none⟩) (show gb548 ≠ go17 from zq14_5) _).trans (hHeld.2.2.2.2.2.2.1), (cell_far (p := ⟨go17, _, none⟩) (show gb548 ≠ go17 from zq14_5) _).trans (hHeld.2.2.2.2.2.2.2.1), (cell_far (p := ⟨go17, _, none⟩) (show gb548 ≠ go17 from zq14_5) _).trans (hHeld.2.2.2.2.2.2.2.2.1), (cell_far (p := ⟨go17, _, none⟩) (show gb548 ≠ go17 from zq14_5) _).trans (hHeld.2.2.2.2.2.2.2.2.2)⟩ (fun hHeld => ?_)
                                      clear hK K
                                      refine done_ (done_of HT_.out (by kernel_rfl)) ?_
                                      have n0_ : Aside0 (Kd.R (Kd.int .u8) 5 ((w62.setCell ⟨go17, 8, none⟩ (.int .u8 a0_5)).setCell ⟨go17, 9, none⟩ (.int .u8 a0_6)) w.heap.size (fun _ => True) (.slice (some ⟨go17, 0, none⟩) t557.length co17) y560) := ⟨by (with_reducible repeat (first | apply Kd.R_alloc | apply Kd.R_drewN | apply Kd.R_drew)); exact HQ65.out⟩
                                      have n1_ : Aside0 (((w62.setCell ⟨go17, 8, none⟩ (.int .u8 a0_5)).setCell ⟨go17, 9, none⟩ (.int .u8 a0_6)).heap[gb547]? = some (.cells #[.int .u8 a0_0, .int .u16 a0_1, .bool a0_2, .bool a0_3, .int .i64 a0_4, .int .u8 a0_5, .int .u8 a0_6, .int .u32 a0_7, .int .u32 a0_8, .slice A0_9 l0_9.length c0_9, .slice A0_10 l0_10.length c0_10] 33 (0, 0))) := ⟨by (with_reducible repeat (first | refine blk_drewN ?_ _ | refine blk_drew ?_ | refine blk_alloc ?_ _)); refine blk_far ?_ (by have h_ := Kd.R_ne HO_6.out BK547.out (by decide); intro e_; exact h_ (by rw [e_]; rfl)) _; (with_reducible repeat (first | refine blk_drewN ?_ _ | refine blk_drew ?_ | refine blk_alloc ?_ _)); refine blk_far ?_ (by have h_ := Kd.R_ne HO_6.out BK547.out (by decide); intro e_; exact h_ (by rw [e_]; rfl)) _; first | (with_reducible exact BK547.out) | (with_reducible exact blk_drewN BK547.out _) | (with_reducible exact blk_drew BK547.out) | ((with_reducible repeat (first | refine blk_drewN ?_ _ | refine blk_drew ?_ | refine blk_alloc ?_ _)); exact BK547.out)⟩
                                      have n2_ : Aside0 (((w62.setCell ⟨go17, 8, none⟩ (.int .u8 a0_5)).setCell ⟨go17, 9, none⟩ (.int .u8 a0_6)).heap[gb548]? = some (.cells #[.int .u8 a0_0, .int .u16 a0_1, .bool a0_2, .bool a0_3, .int .i64 a0_4, .int .u8 a0_5, .int .u8 a0_6, .int .u32 a0_7, .int .u32 a0_8, .slice A0_9 l0_9.length c0_9] 31 (0, 0))) := ⟨by (with_reducible repeat (first | refine blk_drewN ?_ _ | refine blk_drew ?_ | refine blk_alloc ?_ _)); refine blk_far ?_ zq14_5 _; (with_reducible repeat (first | refine blk_drewN ?_ _ | refine blk_drew ?_ | refine blk_alloc ?_ _)); refine blk_far ?_ zq14_5 _; first | (with_reducible exact BK548.out) | (with_reducible exact blk_drewN BK548.out _) | (with_reducible exact blk_drew BK548.out) | ((with_reducible repeat (first | refine blk_drewN ?_ _ | refine blk_drew ?_ | refine blk_alloc ?_ _)); exact BK548.out)⟩
                                      have n3_ : Aside0 (Below w.heap.size w ((w62.setCell ⟨go17, 8, none⟩ (.int .u8 a0_5)).setCell ⟨go17, 9, none⟩ (.int .u8 a0_6))) := ⟨by repeat (first | (with_reducible first | exact HB.out | apply below_alloc | apply pw_below_drewN | apply below_drew1 | refine below_set ?_ GB17.out | refine below_set ?_ GB17.out | refine below_set ?_ GE547.out | refine below_set ?_ GE548.out) | exact HB.out)⟩
                                      (try clear HO_6)
                                      (try clear BK547)
                                      (try clear BK548)
                                      (try clear HB)
                                      generalize ((w62.setCell ⟨go17, 8, none⟩ (.int .u8 a0_5)).setCell ⟨go17, 9, none⟩ (.int .u8 a0_6)) = w66 at n0_ n1_ n2_ n3_ ⊢
                                      have HO_6 := n0_
                                      have BK547 := n1_
                                      have BK548 := n2_
                                      have HB := n3_
                                      clear n0_ n1_ n2_ n3_
                                      have hnb67 := NB548_547.out
                                      have hnc67 := NB547_548.out
                                      have hcz68_0 : w66.cell? ⟨gb548, 0, none⟩ = some (.int .u8 a0_0) := (blk_cell BK548.out 0).trans rfl
                                      have hcz68_1 : w66.cell? ⟨gb548, 1, none⟩ = some (.int .u16 a0_1) := (blk_cell BK548.out 1).trans rfl
                                      have hcz68_2 : w66.cell? ⟨gb548, 2, none⟩ = some (.bool a0_2) := (blk_cell BK548.out 2).trans rfl
                                      have hcz68_3 : w66.cell? ⟨gb548, 3, none⟩ = some (.bool a0_3) := (blk_cell BK548.out 3).trans rfl
                                      have hcz68_4 : w66.cell? ⟨gb548, 4, none⟩ = some (.int .i64 a0_4) := (blk_cell BK548.out 4).trans rfl
                                      have hcz68_5 : w66.cell? ⟨gb548, 5, none⟩ = some (.int .u8 a0_5) := (blk_cell BK548.out 5).trans rfl
                                      have hcz68_6 : w66.cell? ⟨gb548, 6, none⟩ = some (.int .u8 a0_6) := (blk_cell BK548.out 6).trans rfl
                                      have hcz68_7 : w66.cell? ⟨gb548, 7, none⟩ = some (.int .u32 a0_7) := (blk_cell BK548.out 7).trans rfl
                                      have hcz68_8 : w66.cell? ⟨gb548, 8, none⟩ = some (.int .u32 a0_8) := (blk_cell BK548.out 8).trans rfl
                                      have hcz68_9 : w66.cell? ⟨gb548, 9, none⟩ = some (.slice A0_9 l0_9.length c0_9) := (blk_cell BK548.out 9).trans rfl
                                      have hfz68_0 := blk_frozen BK548.out 0
                                      have hfz68_1 := blk_frozen BK548.out 1
                                      have hfz68_2 := blk_frozen BK548.out 2
                                      have hfz68_3 := blk_frozen BK548.out 3
                                      have hfz68_4 := blk_frozen BK548.out 4
                                      have hfz68_5 := blk_frozen BK548.out 5
                                      have hfz68_6 := blk_frozen BK548.out 6
                                      have hfz68_7 := blk_frozen BK548.out 7
                                      have hfz68_8 := blk_frozen BK548.out 8
                                      have hfz68_9 := blk_frozen BK548.out 9
                                      try go_wp2_with (first | ((with_reducible refine gate_callee (f := 53) rfl ?_); refine goesL_ (some 86) rfl rfl Try.func53 (by kernel_rfl) rfl #[.slice (some ⟨go17, 0, none⟩) t557.length co17, .int .i64 12, .int .u32 a0_7] rfl zq14_4 ?_; (with_reducible refine (ip4_putLong.calls (fun k_ => some k_ = (.slice (some ⟨go17, 0, none⟩) t557.length co17 : Value).ownBlock) (.slice (some ⟨go17, 0, none⟩) t557.length co17) y560 12 a0_7 t561 w _ ?side1 ?side2 A50.out).mono ?_); (case side1 => repeat (first | (with_reducible first | exact HB.out | apply below_alloc | apply pw_below_drewN | apply below_drew1 | refine below_set ?_ GE547.out | refine below_set ?_ GE548.out) | exact HB.out)); (case side2 => (with_reducible repeat (first | apply Kd.R_alloc | apply Kd.R_drewN | apply Kd.R_drew)); exact Kd.R_tight rfl HO_6.out); rintro e w69 ⟨rfl, hy0, hb, hkp⟩; refine ⟨_, rfl, ?_⟩; have n0_ := Aside0.mk (Kd.R_reok rfl hy0 (fun k_ e_ => HO_6.out.1 k_ e_)); have n1_ := Aside0.mk (blk_kept zq14_0 hkp (fun hs_ => (fun e_ => (Kd.R_ne HO_6.out BK547.out (by decide)) e_) hs_)); have n2_ := Aside0.mk (blk_kept zq14_1 hkp (fun hs_ => (fun e_ => (Kd.R_ne HO_6.out BK548.out (by decide)) e_) hs_)); have n3_ := Aside0.mk (hb); clear HO_6; clear BK547; clear BK548; clear HB; have HO_6 := n0_; have BK547 := n1_; have BK548 := n2_; have HB := n3_; clear n0_ n1_ n2_ n3_; (try clear hb); (try clear hkp); (try clear hy0); have hcz70_0 : w69.cell? ⟨gb548, 0, none⟩ = some (.int .u8 a0_0) := (blk_cell BK548.out 0).trans rfl; have hcz70_1 : w69.cell? ⟨gb548, 1, none⟩ = some (.int .u16 a0_1) := (blk_cell BK548.out 1).trans rfl; have hcz70_2 : w69.cell? ⟨gb548, 2, none⟩ = some (.bool a0_2) := (blk_cell BK548.out 2).trans rfl; have hcz70_3 : w69.cell? ⟨gb548, 3, none⟩ = some (.bool a0_3) := (blk_cell BK548.out 3).trans rfl; have hcz70_4 : w69.cell? ⟨gb548, 4, none⟩ = some (.int .i64 a0_4) := (blk_cell BK548.out 4).trans rfl; have hcz70_5 : w69.cell? ⟨gb548, 5, none⟩ = some (.int .u8 a0_5) := (blk_cell BK548.out 5).trans rfl; have hcz70_6 : w69.cell? ⟨gb548, 6, none⟩ = some (.int .u8 a0_6) := (blk_cell BK548.out 6).trans rfl; have hcz70_7 : w69.cell? ⟨gb548, 7, none⟩ = some (.int .u32 a0_7) := (blk_cell BK548.out 7).trans rfl; have hcz70_8 : w69.cell? ⟨gb548, 8, none⟩ = some (.int .u32 a0_8) := (blk_cell BK548.out 8).trans rfl; have hcz70_9 : w69.cell? ⟨gb548, 9, none⟩ = some (.slice A0_9 l0_9.length c0_9) := (blk_cell BK548.out 9).trans rfl; have hfz70_0 := blk_frozen BK548.out 0; have hfz70_1 := blk_frozen BK548.out 1; have hfz70_2 := blk_frozen BK548.out 2; have hfz70_3 := blk_frozen BK548.out 3; have hfz70_4 := blk_frozen BK548.out 4; have hfz70_5 := blk_frozen BK548.out 5; have hfz70_6 := blk_frozen BK548.out 6; have hfz70_7 := blk_frozen BK548.out 7; have hfz70_8 := blk_frozen BK548.out 8; have hfz70_9 := blk_frozen BK548.out 9) | ((with_reducible refine gate_callee (f := 53) rfl ?_); refine goesL_ (some 90) rfl rfl Try.func53 (by kernel_rfl) rfl #[.slice (some ⟨go17, 0, none⟩) t557.length co17, .int .i64 16, .int .u32 a0_8] rfl zq14_4 ?_; (with_reducible refine (ip4_putLong.calls (fun k_ => some k_ = (.slice (some ⟨go17, 0, none⟩) t557.length co17 : Value).ownBlock) (.slice (some ⟨go17, 0, none⟩) t557.length co17) t561 16 a0_8 t562 w _ ?side1 ?side2 A51.out).mono ?_); (case side1 => repeat (first | (with_reducible first | exact HB.out | apply below_alloc | apply pw_below_drewN | apply below_drew1 | refine below_set ?_ GE547.out | refine below_set ?_ GE548.out) | exact HB.out)); (case side2 => (with_reducible repeat (first | apply Kd.R_alloc | apply Kd.R_drewN | apply Kd.R_drew)); exact Kd.R_tight rfl HO_6.out); rintro e w71 ⟨rfl, hy0, hb, hkp⟩; refine ⟨_, rfl, ?_⟩; have n0_ := Aside0.mk (Kd.R_reok rfl hy0 (fun k_ e_ => HO_6.out.1 k_ e_)); have n1_ := Aside0.mk (blk_kept zq14_0 hkp (fun hs_ => (fun e_ => (Kd.R_ne HO_6.out BK547.out (by decide)) e_) hs_)); have n2_ := Aside0.mk (blk_kept zq14_1 hkp (fun hs_ => (fun e_ => (Kd.R_ne HO_6.out BK548.out (by decide)) e_) hs_)); have n3_ := Aside0.mk (hb); clear HO_6; clear BK547; clear BK548; clear HB; have HO_6 := n0_; have BK547 := n1_; have BK548 := n2_; have HB := n3_; clear n0_ n1_ n2_ n3_; (try clear hb); (try clear hkp); (try clear hy0)))
                                      have n0_ := Aside0.mk (Kd.R_drew HO_6.out)
                                      have n1_ := Aside0.mk (blk_drew BK547.out)
                                      have n2_ := Aside0.mk (blk_drew BK548.out)
                                      have n3_ := Aside0.mk (below_drew1 HB.out)
                                      clear HO_6
                                      clear BK547
                                      clear BK548
                                      clear HB
                                      have HO_6 := n0_
                                      have BK547 := n1_
                                      have BK548 := n2_
                                      have HB := n3_
                                      clear n0_ n1_ n2_ n3_
                                      have hlx73 := (Kd.R_reads' HO_6.out).1
                                      have q73 : (20 : Int) ≤ ((t557.length : Int) : Int) := of_decide_eq_true (by first | (with_reducible assumption) | assumption)
                                      obtain ⟨i073, hi073, _, hsz73, _⟩ := info_parts info5
                                      have hroom73 : t557.length ≤ co17 := (Kd.R_reads' HO_6.out).2.1
                                      have hroomc73 : t562.length ≤ co17 := (by rw [← hlx73]; exact hroom73)
                                      have hC73 : Kd.C (Kd.int .u8) _ (some ⟨go17, 0, none⟩) t562.length t562 := (Kd.R_reads' HO_6.out).2.2
                                      have hcut73 := cut_from (P := Try.prog) 23 5 .i64 Try.underlying23 hi073 1 hsz73 (some ⟨go17, 0, none⟩) t557.length co17 20 (by omega) q73
                                      have hr73 := Kd.C_drop (m := (20 : Int).toNat) (c := co17) hC73 (by omega) hroomc73
                                      obtain ⟨A73, hA73⟩ : ∃ A1, A1 = (if co17 = (20 : Int).toNat then (some ⟨go17, 0, none⟩) else ((some ⟨go17, 0, none⟩) : Option Addr).map (·.add ((20 : Int).toNat * 1))) := ⟨_, rfl⟩
                                      obtain ⟨c73, hc73⟩ : ∃ c1, c1 = co17 - (20 : Int).toNat := ⟨_, rfl⟩
                                      have hy73 : y563.length = t557.length - (20 : Int).toNat := (by rw [Ny563.out, List.length_drop] <;> omega)
                                      rw [show (t562).drop (20 : Int).toNat = y563 from Ny563.out.symm] at hr73
                                      replace hr73 : Kd.C (Kd.int .u8) _ A73 y563.length y563 := (by rw [hA73]; exact hr73)
                                      rw [← hy73, ← hA73, ← hc73] at hcut73
                                      have HR566 := Aside0.mk hr73
                                      have HC566 := Aside0.mk (show y563.length ≤ c73 from by rw [hy73, hc73]; exact Nat.sub_le_sub_right hroom73 _)
                                      clear hr73 hC73 hroom73 hi073 hsz73 hc73 hroomc73
                                      have KY73 := Aside0.mk hy73
                                      have KA73 := Aside0.mk hA73
                                      clear hy73 hA73
                                      have KE73 := Aside0.mk hlx73
                                      have KL73 := Aside0.mk (show 20 ≤ t562.length from by omega)
                                      clear hlx73
                                      replace q73 := eq_true q73
                                      refine start_ (n := 5) (S := fun w' => w'.cell? ⟨gb548, 0, none⟩ = some (.int .u8 a0_0) ∧ w'.cell? ⟨gb548, 1, none⟩ = some (.int .u16 a0_1) ∧ w'.cell? ⟨gb548, 2, none⟩ = some (.bool a0_2) ∧ w'.cell? ⟨gb548, 3, none⟩ = some (.bool a0_3) ∧ w'.cell? ⟨gb548, 4, none⟩ = some (.int .i64 a0_4) ∧ w'.cell? ⟨gb548, 5, none⟩ = some (.int .u8 a0_5) ∧ w'.cell? ⟨gb548, 6, none⟩ = some (.int .u8 a0_6) ∧ w'.cell? ⟨gb548, 7, none⟩ = some (.int .u32 a0_7) ∧ w'.cell? ⟨gb548, 8, none⟩ = some (.int .u32 a0_8) ∧ w'.cell? ⟨gb548, 9, none⟩ = some (.slice A0_9 l0_9.length c0_9)) (ds := []) #[false, false, false, false, false] (by kernel_rfl) rfl rfl ⟨(blk_cell BK548.out 0).trans rfl, (blk_cell BK548.out 1).trans rfl, (blk_cell BK548.out 2).trans rfl, (blk_cell BK548.out 3).trans rfl, (blk_cell BK548.out 4).trans rfl, (blk_cell BK548.out 5).trans rfl, (blk_cell BK548.out 6).trans rfl, (blk_cell BK548.out 7).trans rfl, (blk_cell BK548.out 8).trans rfl, (blk_cell BK548.out 9).trans rfl⟩ (fun hHeld => ?_)
                                      generalize w71.drew = w72 at HO_6 BK547 BK548 HB HR566 hHeld ⊢
                                      refine pure_ (i := 0) (N := some 91) (v := ?_) (a' := ?_) #[true, false, false, false, false] rfl rfl (by kernel_rfl) (fun _ _ _ h => h) (Or.inl ⟨by rfl, ?_⟩) ?_ ?_
                                      rotate_left
                                      · intro w'
                                        go_simp
                                        with_reducible rfl
                                      rotate_left
                                      · simp only [Act.put, List.setIfInBounds_toArray, List.set_cons_zero, List.set_cons_succ, i64_w, i32_w, IntKind.wrap_u8, IntKind.wrap_u32]
                                        rfl
                                      refine pure_ (i := 1) (N := some 92) (v := ?_) (a' := ?_) #[true, true, false, false, false] rfl rfl (by kernel_rfl) (fun _ _ _ h => h) (Or.inl ⟨by rfl, ?_⟩) ?_ ?_
                                      rotate_left
                                      · intro w'
                                        go_simp
                                        with_reducible rfl
                                      rotate_left
                                      · simp only [Act.put, List.setIfInBounds_toArray, List.set_cons_zero, List.set_cons_succ, i64_w, i32_w, IntKind.wrap_u8, IntKind.wrap_u32]
                                        rfl
                                      refine pure_ (i := 2) (N := some 93) (v := ?_) (a' := ?_) #[true, true, true, false, false] rfl rfl (by kernel_rfl) (fun _ _ _ h => h) (Or.inl ⟨by rfl, ?_⟩) ?_ ?_
                                      rotate_left
                                      · intro w'
                                        go_simp
                                        with_reducible rfl
                                      rotate_left
                                      · simp only [Act.put, List.setIfInBounds_toArray, List.set_cons_zero, List.set_cons_succ, i64_w, i32_w, IntKind.wrap_u8, IntKind.wrap_u32]
                                        rfl
                                      refine take_ (i := 3) (N := some 94) (v := ?_) (a' := ?_) #[true, true, true, true, false] rfl rfl (by kernel_rfl) (fun _ _ _ h => h) (Or.inl ⟨by rfl, ?_⟩) hHeld ?_ ?_
                                      rotate_left
                                      · rintro w' ⟨s0, s1, s2, s3, s4, s5, s6, s7, s8, s9⟩
                                        go_simp
                                        with_reducible rfl
                                      rotate_left
                                      · simp only [Act.put, List.setIfInBounds_toArray, List.set_cons_zero, List.set_cons_succ, i64_w, i32_w, IntKind.wrap_u8, IntKind.wrap_u32]
                                        rfl
                                      refine one_ (i := 4) (N := some 95) #[true, true, true, true, true] rfl rfl (by kernel_rfl) (by decide) (fun K hK => ?_)
                                      refine copy_step (k := .u8) (w0 := w) w.heap.size (by rfl) (.tmp 92) (.tmp 94) 23 5 rfl Try.underlying23 info5 (some ⟨go17, 0, none⟩) t557.length co17 t562 (fun _ => True) 20 _ _ _ _ _ _ l0_9 rfl rfl ?aO ?aL ?aA ?aN ?aR ?aB ?_
                                      (case aO => exact (by (with_reducible repeat (first | apply Kd.R_alloc | apply Kd.R_drewN | apply Kd.R_drew)); exact HO_6.out))
                                      (case aL => have h1_ := of_eq_true q73; have h2_ := (Kd.R_reads' HO_6.out).1; omega)
                                      (case aA => first | exact KA73.out | (have h_ := KA73.out; simp only [Nat.mul_one] at h_; exact h_))
                                      (case aN => exact KY73.out)
                                      (case aR => repeat (first | exact (Kd.C_below HR0_9.out HB.out) | (with_reducible refine Kd.C_alloc ?_ _) | (with_reducible refine Kd.C_drewN ?_ _) | (with_reducible refine Kd.C_drew ?_)))
                                      (case aB => exact zq14_6)
                                      intro r74_ w75 ho hb hg
                                      have hat : (.slice (some ⟨go17, 0, none⟩) t557.length co17 : Value).ownBlock = (.slice (some ⟨go17, 0, none⟩) t557.length co17 : Value).ownBlock ∨ ∃ b_, (.slice (some ⟨go17, 0, none⟩) t557.length co17 : Value).ownBlock = some b_ ∧ w72.heap.size ≤ b_ := .inl rfl
                                      (first | rw [← Ny567.out] at ho | (simp only [Int.reduceToNat] at ho; rw [← Ny567.out] at ho))
                                      have n0_ := Aside0.mk (blk_grown (g := gb547) (o := .cells #[.int .u8 a0_0, .int .u16 a0_1, .bool a0_2, .bool a0_3, .int .i64 a0_4, .int .u8 a0_5, .int .u8 a0_6, .int .u32 a0_7, .int .u32 a0_8, .slice A0_9 l0_9.length c0_9, .slice A0_10 l0_10.length c0_10] 33 (0, 0)) zq14_0 hg (Kd.R_ne HO_6.out BK547.out (by decide)))
                                      have n1_ := Aside0.mk (blk_grown (g := gb548) (o := .cells #[.int .u8 a0_0, .int .u16 a0_1, .bool a0_2, .bool a0_3, .int .i64 a0_4, .int .u8 a0_5, .int .u8 a0_6, .int .u32 a0_7, .int .u32 a0_8, .slice A0_9 l0_9.length c0_9] 31 (0, 0)) zq14_1 hg (Kd.R_ne HO_6.out BK548.out (by decide)))
                                      have n2_ := Aside0.mk (hb)
                                      have n3_ := Aside0.mk (ho)
                                      clear BK547
                                      clear BK548
                                      clear HB
                                      clear HO_6
                                      have BK547 := n0_
                                      have BK548 := n1_
                                      have HB := n2_
                                      have HO_6 := n3_
                                      clear n0_ n1_ n2_ n3_
                                      clear ho hb hg hat
                                      refine hK.out _ _ ⟨(blk_cell BK548.out 0).trans rfl, (blk_cell BK548.out 1).trans rfl, (blk_cell BK548.out 2).trans rfl, (blk_cell BK548.out 3).trans rfl, (blk_cell BK548.out 4).trans rfl, (blk_cell BK548.out 5).trans rfl, (blk_cell BK548.out 6).trans rfl, (blk_cell BK548.out 7).trans rfl, (blk_cell BK548.out 8).trans rfl, (blk_cell BK548.out 9).trans rfl⟩ (fun hHeld => ?_)
                                      clear hK K
                                      refine norm_ (a' := ?_) ?_ ?_
                                      rotate_left
                                      · show Act.put _ (some 95) _ = _
                                        simp only [Act.put, List.setIfInBounds_toArray, List.set_cons_zero, List.set_cons_succ, i64_w, i32_w, IntKind.wrap_u8, IntKind.wrap_u32]
                                        rfl
                                      refine done_ (by kernel_rfl) ?_
                                      try go_wp2
                                      have n0_ := Aside0.mk (Kd.R_drew HO_6.out)
                                      have n1_ := Aside0.mk (blk_drew BK547.out)
                                      have n2_ := Aside0.mk (blk_drew BK548.out)
                                      have n3_ := Aside0.mk (below_drew1 HB.out)
                                      clear HO_6
                                      clear BK547
                                      clear BK548
                                      clear HB
                                      have HO_6 := n0_
                                      have BK547 := n1_
                                      have BK548 := n2_
                                      have HB := n3_
                                      clear n0_ n1_ n2_ n3_
                                      have hlx77 := (Kd.R_reads' HO_6.out).1
                                      have q77 : ((ji53) : Int) ≤ ((t557.length : Int) : Int) := of_decide_eq_true (by first | (with_reducible assumption) | assumption)
                                      obtain ⟨i077, hi077, _, hsz77, _⟩ := info_parts info5
                                      have hroom77 : t557.length ≤ co17 := (Kd.R_reads' HO_6.out).2.1
                                      have hroomc77 : y567.length ≤ co17 := (by rw [← hlx77]; exact hroom77)
                                      have hC77 : Kd.C (Kd.int .u8) _ (some ⟨go17, 0, none⟩) y567.length y567 := (Kd.R_reads' HO_6.out).2.2
                                      have q077 : (0 : Int) ≤ ((ji53) : Int) := of_decide_eq_true (by first | (with_reducible assumption) | assumption)
                                      have hcut77 := cut_from (P := Try.prog) 23 5 .i64 Try.underlying23 hi077 1 hsz77 (some ⟨go17, 0, none⟩) t557.length co17 (ji53) q077 q77
                                      have hr77 := Kd.C_drop (m := ((ji53) : Int).toNat) (c := co17) hC77 (by omega) hroomc77
                                      obtain ⟨A77, hA77⟩ : ∃ A1, A1 = (if co17 = ((ji53) : Int).toNat then (some ⟨go17, 0, none⟩) else ((some ⟨go17, 0, none⟩) : Option Addr).map (·.add (((ji53) : Int).toNat * 1))) := ⟨_, rfl⟩
                                      obtain ⟨c77, hc77⟩ : ∃ c1, c1 = co17 - ((ji53) : Int).toNat := ⟨_, rfl⟩
                                      have hy77 : y568.length = t557.length - ((ji53) : Int).toNat := (by rw [Ny568.out, List.length_drop] <;> omega)
                                      rw [show (y567).drop ((ji53) : Int).toNat = y568 from Ny568.out.symm] at hr77
                                      replace hr77 : Kd.C (Kd.int .u8) _ A77 y568.length y568 := (by rw [hA77]; exact hr77)
                                      rw [← hy77, ← hA77, ← hc77] at hcut77
                                      have HR571 := Aside0.mk hr77
                                      have HC571 := Aside0.mk (show y568.length ≤ c77 from by rw [hy77, hc77]; exact Nat.sub_le_sub_right hroom77 _)
                                      clear hr77 hC77 hroom77 hi077 hsz77 hc77 hroomc77
                                      have KY77 := Aside0.mk hy77
                                      have KA77 := Aside0.mk hA77
                                      clear hy77 hA77
                                      have KE77 := Aside0.mk hlx77
                                      have KL77 := Aside0.mk (show ((ji53) : Int).toNat ≤ y567.length from by omega)
                                      clear hlx77
                                      replace q77 := eq_true q77
                                      refine start_ (n := 6) (S := fun w' => w'.cell? ⟨gb547, 0, none⟩ = some (.int .u8 a0_0) ∧ w'.cell? ⟨gb547, 1, none⟩ = some (.int .u16 a0_1) ∧ w'.cell? ⟨gb547, 2, none⟩ = some (.bool a0_2) ∧ w'.cell? ⟨gb547, 3, none⟩ = some (.bool a0_3) ∧ w'.cell? ⟨gb547, 4, none⟩ = some (.int .i64 a0_4) ∧ w'.cell? ⟨gb547, 5, none⟩ = some (.int .u8 a0_5) ∧ w'.cell? ⟨gb547, 6, none⟩ = some (.int .u8 a0_6) ∧ w'.cell? ⟨gb547, 7, none⟩ = some (.int .u32 a0_7) ∧ w'.cell? ⟨gb547, 8, none⟩ = some (.int .u32 a0_8) ∧ w'.cell? ⟨gb547, 9, none⟩ = some (.slice A0_9 l0_9.length c0_9) ∧ w'.cell? ⟨gb547, 10, none⟩ = some (.slice A0_10 l0_10.length c0_10)) (ds := []) #[false, false, false, false, false, false] (by kernel_rfl) rfl rfl ⟨(blk_cell BK547.out 0).trans rfl, (blk_cell BK547.out 1).trans rfl, (blk_cell BK547.out 2).trans rfl, (blk_cell BK547.out 3).trans rfl, (blk_cell BK547.out 4).trans rfl, (blk_cell BK547.out 5).trans rfl, (blk_cell BK547.out 6).trans rfl, (blk_cell BK547.out 7).trans rfl, (blk_cell BK547.out 8).trans rfl, (blk_cell BK547.out 9).trans rfl, (blk_cell BK547.out 10).trans rfl⟩ (fun hHeld => ?_)
                                      generalize w75.drew = w76 at HO_6 BK547 BK548 HB HR571 hHeld ⊢
                                      refine pure_ (i := 0) (N := some 96) (v := ?_) (a' := ?_) #[true, false, false, false, false, false] rfl rfl (by kernel_rfl) (fun _ _ _ h => h) (Or.inl ⟨by rfl, ?_⟩) ?_ ?_
                                      rotate_left
                                      · intro w'
                                        go_simp
                                        with_reducible rfl
                                      rotate_left
                                      · simp only [Act.put, List.setIfInBounds_toArray, List.set_cons_zero, List.set_cons_succ, i64_w, i32_w, IntKind.wrap_u8, IntKind.wrap_u32]
                                        rfl
                                      refine pure_ (i := 1) (N := some 97) (v := ?_) (a' := ?_) #[true, true, false, false, false, false] rfl rfl (by kernel_rfl) (fun _ _ _ h => h) (Or.inl ⟨by rfl, ?_⟩) ?_ ?_
                                      rotate_left
                                      · intro w'
                                        go_simp
                                        with_reducible rfl
                                      rotate_left
                                      · simp only [Act.put, List.setIfInBounds_toArray, List.set_cons_zero, List.set_cons_succ, i64_w, i32_w, IntKind.wrap_u8, IntKind.wrap_u32]
                                        rfl
                                      refine pure_ (i := 2) (N := some 98) (v := ?_) (a' := ?_) #[true, true, true, false, false, false] rfl rfl (by kernel_rfl) (fun _ _ _ h => h) (Or.inl ⟨by rfl, ?_⟩) ?_ ?_
                                      rotate_left
                                      · intro w'
                                        go_simp
                                        with_reducible rfl
                                      rotate_left
                                      · simp only [Act.put, List.setIfInBounds_toArray, List.set_cons_zero, List.set_cons_succ, i64_w, i32_w, IntKind.wrap_u8, IntKind.wrap_u32]
                                        rfl
                                      refine pure_ (i := 3) (N := some 99) (v := ?_) (a' := ?_) #[true, true, true, true, false, false] rfl rfl (by kernel_rfl) (fun _ _ _ h => h) (Or.inl ⟨by rfl, ?_⟩) ?_ ?_
                                      rotate_left
                                      · intro w'
                                        go_simp
                                        with_reducible rfl
                                      rotate_left
                                      · simp only [Act.put, List.setIfInBounds_toArray, List.set_cons_zero, List.set_cons_succ, i64_w, i32_w, IntKind.wrap_u8, IntKind.wrap_u32]
                                        rfl
                                      refine take_ (i := 4) (N := some 100) (v := ?_) (a' := ?_) #[true, true, true, true, true, false] rfl rfl (by kernel_rfl) (fun _ _ _ h => h) (Or.inl ⟨by rfl, ?_⟩) hHeld ?_ ?_
                                      rotate_left
                                      · rintro w' ⟨s0, s1, s2, s3, s4, s5, s6, s7, s8, s9, s10⟩
                                        go_simp
                                        with_reducible rfl
                                      rotate_left
                                      · simp only [Act.put, List.setIfInBounds_toArray, List.set_cons_zero, List.set_cons_succ, i64_w, i32_w, IntKind.wrap_u8, IntKind.wrap_u32]
                                        rfl
                                      refine one_ (i := 5) (N := some 101) #[true, true, true, true, true, true] rfl rfl (by kernel_rfl) (by decide) (fun K hK => ?_)
                                      refine copy_step (k := .u8) (w0 := w) w.heap.size (by rfl) (.tmp 98) (.tmp 100) 23 5 rfl Try.underlying23 info5 (some ⟨go17, 0, none⟩) t557.length co17 y567 (fun _ => True) (((ji53) : Int).toNat) _ _ _ _ _ _ l0_10 rfl rfl ?aO ?aL ?aA ?aN ?aR ?aB ?_
                                      (case aO => exact (by (with_reducible repeat (first | apply Kd.R_alloc | apply Kd.R_drewN | apply Kd.R_drew)); exact HO_6.out))
                                      (case aL => have h1_ := of_eq_true q77; have h2_ := (Kd.R_reads' HO_6.out).1; omega)
                                      (case aA => first | exact KA77.out | (have h_ := KA77.out; simp only [Nat.mul_one] at h_; exact h_))
                                      (case aN => exact KY77.out)
                                      (case aR => repeat (first | exact (Kd.C_below HR0_10.out HB.out) | (with_reducible refine Kd.C_alloc ?_ _) | (with_reducible refine Kd.C_drewN ?_ _) | (with_reducible refine Kd.C_drew ?_)))
                                      (case aB => exact zq14_6)
                                      intro r78_ w79 ho hb hg
                                      have hat : (.slice (some ⟨go17, 0, none⟩) t557.length co17 : Value).ownBlock = (.slice (some ⟨go17, 0, none⟩) t557.length co17 : Value).ownBlock ∨ ∃ b_, (.slice (some ⟨go17, 0, none⟩) t557.length co17 : Value).ownBlock = some b_ ∧ w76.heap.size ≤ b_ := .inl rfl
                                      (first | rw [← Ny572.out] at ho | (simp only [Int.reduceToNat] at ho; rw [← Ny572.out] at ho))
                                      have n0_ := Aside0.mk (blk_grown (g := gb547) (o := .cells #[.int .u8 a0_0, .int .u16 a0_1, .bool a0_2, .bool a0_3, .int .i64 a0_4, .int .u8 a0_5, .int .u8 a0_6, .int .u32 a0_7, .int .u32 a0_8, .slice A0_9 l0_9.length c0_9, .slice A0_10 l0_10.length c0_10] 33 (0, 0)) zq14_0 hg (Kd.R_ne HO_6.out BK547.out (by decide)))
                                      have n1_ := Aside0.mk (blk_grown (g := gb548) (o := .cells #[.int .u8 a0_0, .int .u16 a0_1, .bool a0_2, .bool a0_3, .int .i64 a0_4, .int .u8 a0_5, .int .u8 a0_6, .int .u32 a0_7, .int .u32 a0_8, .slice A0_9 l0_9.length c0_9] 31 (0, 0)) zq14_1 hg (Kd.R_ne HO_6.out BK548.out (by decide)))
                                      have n2_ := Aside0.mk (hb)
                                      have n3_ := Aside0.mk (ho)
                                      clear BK547
                                      clear BK548
                                      clear HB
                                      clear HO_6
                                      have BK547 := n0_
                                      have BK548 := n1_
                                      have HB := n2_
                                      have HO_6 := n3_
                                      clear n0_ n1_ n2_ n3_
                                      clear ho hb hg hat
                                      refine hK.out _ _ ⟨(blk_cell BK547.out 0).trans rfl, (blk_cell BK547.out 1).trans rfl, (blk_cell BK547.out 2).trans rfl, (blk_cell BK547.out 3).trans rfl, (blk_cell BK547.out 4).trans rfl, (blk_cell BK547.out 5).trans rfl, (blk_cell BK547.out 6).trans rfl, (blk_cell BK547.out 7).trans rfl, (blk_cell BK547.out 8).trans rfl, (blk_cell BK547.out 9).trans rfl, (blk_cell BK547.out 10).trans rfl⟩ (fun hHeld => ?_)
                                      clear hK K
                                      refine norm_ (a' := ?_) ?_ ?_
                                      rotate_left
                                      · show Act.put _ (some 101) _ = _
                                        simp only [Act.put, List.setIfInBounds_toArray, List.set_cons_zero, List.set_cons_succ, i64_w, i32_w, IntKind.wrap_u8, IntKind.wrap_u32]
                                        rfl
                                      refine done_ (by kernel_rfl) ?_
                                      try go_wp2
                                      have n0_ := Aside0.mk (Kd.R_drew HO_6.out)
                                      have n1_ := Aside0.mk (blk_drew BK547.out)
                                      have n2_ := Aside0.mk (blk_drew BK548.out)
                                      have n3_ := Aside0.mk (below_drew1 HB.out)
                                      clear HO_6
                                      clear BK547
                                      clear BK548
                                      clear HB
                                      have HO_6 := n0_
                                      have BK547 := n1_
                                      have BK548 := n2_
                                      have HB := n3_
                                      clear n0_ n1_ n2_ n3_
                                      have hlx81 := (Kd.R_reads' HO_6.out).1
                                      have q81 : (10 : Int) ≤ ((t557.length : Int) : Int) := of_decide_eq_true (by first | (with_reducible assumption) | assumption)
                                      obtain ⟨i081, hi081, _, hsz81, _⟩ := info_parts info5
                                      have hroom81 : t557.length ≤ co17 := (Kd.R_reads' HO_6.out).2.1
                                      have hroomc81 : y572.length ≤ co17 := (by rw [← hlx81]; exact hroom81)
                                      have hC81 : Kd.C (Kd.int .u8) _ (some ⟨go17, 0, none⟩) y572.length y572 := (Kd.R_reads' HO_6.out).2.2
                                      have hcut81 := cut_to (P := Try.prog) 23 5 .i64 Try.underlying23 hi081 (some ⟨go17, 0, none⟩) t557.length co17 10 (by omega) q81 hroom81
                                      have hr81 := Kd.C_take (m := 10) hC81 (by omega)
                                      have hy81 : y573.length = (10 : Int).toNat := (by rw [Ny573.out, List.length_take]; omega)
                                      rw [← Ny573.out] at hr81
                                      rw [← hy81] at hcut81
                                      have HR576 := Aside0.mk hr81
                                      have HC576 := Aside0.mk (show y573.length ≤ co17 from by omega)
                                      clear hr81 hC81 hroom81 hi081 hsz81 hroomc81
                                      have KY81 := Aside0.mk hy81
                                      clear hy81
                                      have KE81 := Aside0.mk hlx81
                                      have KL81 := Aside0.mk (show 10 ≤ y572.length from by omega)
                                      clear hlx81
                                      replace q81 := eq_true q81
                                      have hlx82 := (Kd.R_reads' HO_6.out).1
                                      have q82 : ((ji53) : Int) ≤ ((t557.length : Int) : Int) := of_decide_eq_true (by first | (with_reducible assumption) | assumption)
                                      obtain ⟨i082, hi082, _, hsz82, _⟩ := info_parts info5
                                      have hroom82 : t557.length ≤ co17 := (Kd.R_reads' HO_6.out).2.1
                                      have hroomc82 : y572.length ≤ co17 := (by rw [← hlx82]; exact hroom82)
                                      have hC82 : Kd.C (Kd.int .u8) _ (some ⟨go17, 0, none⟩) y572.length y572 := (Kd.R_reads' HO_6.out).2.2
                                      have ql82 : (12 : Int) ≤ ((ji53) : Int) := of_decide_eq_true (by first | (with_reducible assumption) | assumption)
                                      have hcut82 := cut_mid (P := Try.prog) 23 5 .i64 .i64 Try.underlying23 hi082 1 hsz82 (some ⟨go17, 0, none⟩) t557.length co17 12 (ji53) (by omega) ql82 q82 hroom82
                                      have hr82 := Kd.C_mid (lo := (12 : Int).toNat) (hi := ((ji53) : Int).toNat) (c := co17) hC82 (by omega) (by omega) hroomc82
                                      obtain ⟨A82, hA82⟩ : ∃ A1, A1 = (if co17 = (12 : Int).toNat then (some ⟨go17, 0, none⟩) else ((some ⟨go17, 0, none⟩) : Option Addr).map (·.add ((12 : Int).toNat * 1))) := ⟨_, rfl⟩
                                      obtain ⟨c82, hc82⟩ : ∃ c1, c1 = co17 - (12 : Int).toNat := ⟨_, rfl⟩
                                      have hy82 : y577.length = ((ji53) : Int).toNat - (12 : Int).toNat := (by rw [Ny577.out, List.length_drop, List.length_take] <;> omega)
                                      rw [show ((y572).take ((ji53) : Int).toNat).drop (12 : Int).toNat = y577 from Ny577.out.symm] at hr82
                                      replace hr82 : Kd.C (Kd.int .u8) _ A82 y577.length y577 := (by rw [hA82]; exact hr82)
                                      rw [← hy82, ← hA82, ← hc82] at hcut82
                                      have HR580 := Aside0.mk hr82
                                      have HC580 := Aside0.mk (show y577.length ≤ c82 from by rw [hy82, hc82]; exact Nat.sub_le_sub_right (Nat.le_trans (by omega) hroom82) _)
                                      clear hr82 hC82 hroom82 hi082 hsz82 hc82 hroomc82
                                      have KY82 := Aside0.mk hy82
                                      have KA82 := Aside0.mk hA82
                                      clear hy82 hA82
                                      have KE82 := Aside0.mk hlx82
                                      have KL82 := Aside0.mk (show ((ji53) : Int).toNat ≤ y572.length from by omega)
                                      have KM82 := Aside0.mk (show 12 ≤ ((ji53) : Int).toNat from by omega)
                                      clear hlx82
                                      replace q82 := eq_true q82
                                      refine start_ (n := 9) (S := fun w' => True) (ds := []) #[false, false, false, false, false, false, false, false, false] (by kernel_rfl) rfl rfl trivial (fun hHeld => ?_); refine with_tabW ip4_Build.tab24 ip4_Build.bits24 (fun HT_ HW_ => ?_)
                                      generalize w79.drew = w80 at HO_6 BK547 BK548 HB HR576 HR580 hHeld ⊢
                                      refine pure_ (i := 0) (N := some 102) (v := ?_) (a' := ?_) #[true, false, false, false, false, false, false, false, false] rfl rfl (any_of HT_.out (by kernel_rfl)) (fun _ _ _ h => h) (Or.inl ⟨by rfl, ?_⟩) ?_ ?_
                                      rotate_left
                                      · intro w'
                                        go_simp
                                        with_reducible rfl
                                      rotate_left
                                      · simp only [Act.put, List.setIfInBounds_toArray, List.set_cons_zero, List.set_cons_succ, i64_w, i32_w, IntKind.wrap_u8, IntKind.wrap_u32]
                                        rfl
                                      refine pure_ (i := 1) (N := some 103) (v := ?_) (a' := ?_) #[true, true, false, false, false, false, false, false, false] rfl rfl (any_of HT_.out (by kernel_rfl)) (fun _ _ _ h => h) (Or.inl ⟨by rfl, ?_⟩) ?_ ?_
                                      rotate_left
                                      · intro w'
                                        go_simp
                                        with_reducible rfl
                                      rotate_left
                                      · simp only [Act.put, List.setIfInBounds_toArray, List.set_cons_zero, List.set_cons_succ, i64_w, i32_w, IntKind.wrap_u8, IntKind.wrap_u32]
                                        rfl
                                      refine pure_ (i := 2) (N := some 104) (v := ?_) (a' := ?_) #[true, true, true, false, false, false, false, false, false] rfl rfl (any_of HT_.out (by kernel_rfl)) (fun _ _ _ h => h) (Or.inl ⟨by rfl, ?_⟩) ?_ ?_
                                      rotate_left
                                      · intro w'
                                        go_simp
                                        with_reducible rfl
                                      rotate_left
                                      · simp only [Act.put, List.setIfInBounds_toArray, List.set_cons_zero, List.set_cons_succ, i64_w, i32_w, IntKind.wrap_u8, IntKind.wrap_u32]
                                        rfl
                                      refine pure_ (i := 3) (N := some 105) (v := ?_) (a' := ?_) #[true, true, true, true, false, false, false, false, false] rfl rfl (any_of HT_.out (by kernel_rfl)) (fun _ _ _ h => h) (Or.inl ⟨by rfl, ?_⟩) ?_ ?_
                                      rotate_left
                                      · intro w'
                                        go_simp
                                        with_reducible rfl
                                      rotate_left
                                      · simp only [Act.put, List.setIfInBounds_toArray, List.set_cons_zero, List.set_cons_succ, i64_w, i32_w, IntKind.wrap_u8, IntKind.wrap_u32]
                                        rfl
                                      refine pure_ (i := 4) (N := some 106) (v := ?_) (a' := ?_) #[true, true, true, true, true, false, false, false, false] rfl rfl (any_of HT_.out (by kernel_rfl)) (fun _ _ _ h => h) (Or.inl ⟨by rfl, ?_⟩) ?_ ?_
                                      rotate_left
                                      · intro w'
                                        go_simp
                                        with_reducible rfl
                                      rotate_left
                                      · simp only [Act.put, List.setIfInBounds_toArray, List.set_cons_zero, List.set_cons_succ, i64_w, i32_w, IntKind.wrap_u8, IntKind.wrap_u32]
                                        rfl
                                      refine pure_ (i := 5) (N := some 107) (v := ?_) (a' := ?_) #[true, true, true, true, true, true, false, false, false] rfl rfl (any_of HT_.out (by kernel_rfl)) (fun _ _ _ h => h) (Or.inl ⟨by rfl, ?_⟩) ?_ ?_
                                      rotate_left
                                      · intro w'
                                        go_simp
                                        with_reducible rfl
                                      rotate_left
                                      · simp only [Act.put, List.setIfInBounds_toArray, List.set_cons_zero, List.set_cons_succ, i64_w, i32_w, IntKind.wrap_u8, IntKind.wrap_u32]
                                        rfl
                                      refine one_ (i := 6) (N := some 108) #[true, true, true, true, true, true, true, false, false] rfl rfl (one_of HT_.out (by kernel_rfl)) (by decide) (fun K hK => ?_)
                                      refine lits_step (Kd.slice 5 (Kd.int .u8)) 23 ?hg (N := 108) ?hd (xs := ([y573, y577] : List (List Int))) (inner := [.slice (some ⟨go17, 0, none⟩) y573.length co17, .slice A82 y577.length c82]) ?hr ?hp (by simp) ?_; (case hd => rfl); (case hg => rfl); (case hr => first | (go_simp; done) | (go_simp; rfl)); (case hp => exact (Reps.one (show Kd.K (Kd.slice 5 (Kd.int .u8)) _ y573 [.slice (some ⟨go17, 0, none⟩) y573.length co17] from by refine ⟨_, _, rfl, ?_, ?_⟩; (· exact HC576.out); (· repeat (first | exact (by repeat (first | (with_reducible exact HR576.out) | (with_reducible refine Kd.C_alloc ?_ _) | (with_reducible refine Kd.C_drewN ?_ _) | (with_reducible refine Kd.C_drew ?_) | exact HR576.out)) | (with_reducible refine Kd.C_alloc ?_ _) | (with_reducible refine Kd.C_drewN ?_ _) | (with_reducible refine Kd.C_drew ?_)))) (Reps.one (show Kd.K (Kd.slice 5 (Kd.int .u8)) _ y577 [.slice A82 y577.length c82] from by refine ⟨_, _, rfl, ?_, ?_⟩; (· exact HC580.out); (· repeat (first | exact (by repeat (first | (with_reducible exact HR580.out) | (with_reducible refine Kd.C_alloc ?_ _) | (with_reducible refine Kd.C_drewN ?_ _) | (with_reducible refine Kd.C_drew ?_) | exact HR580.out)) | (with_reducible refine Kd.C_alloc ?_ _) | (with_reducible refine Kd.C_drewN ?_ _) | (with_reducible refine Kd.C_drew ?_)))) (Reps.none _ _))))
                                      intro v84_ w83 hL_ hb
                                      (first | rw [← Ny581.out] at hL_ | (simp only [Int.reduceToNat] at hL_; rw [← Ny581.out] at hL_))
                                      obtain ⟨A84, c84, rfl, hlr_, hlc_⟩ := hL_
                                      have n0_ := Aside0.mk (Kd.R_below (by (with_reducible repeat (first | apply Kd.R_alloc | apply Kd.R_drewN | apply Kd.R_drew)); exact HO_6.out) hb)
                                      have n1_ := Aside0.mk (blk_below (g := gb547) (o := .cells #[.int .u8 a0_0, .int .u16 a0_1, .bool a0_2, .bool a0_3, .int .i64 a0_4, .int .u8 a0_5, .int .u8 a0_6, .int .u32 a0_7, .int .u32 a0_8, .slice A0_9 l0_9.length c0_9, .slice A0_10 l0_10.length c0_10] 33 (0, 0)) zq14_0 hb)
                                      have n2_ := Aside0.mk (blk_below (g := gb548) (o := .cells #[.int .u8 a0_0, .int .u16 a0_1, .bool a0_2, .bool a0_3, .int .i64 a0_4, .int .u8 a0_5, .int .u8 a0_6, .int .u32 a0_7, .int .u32 a0_8, .slice A0_9 l0_9.length c0_9] 31 (0, 0)) zq14_1 hb)
                                      have n3_ := Aside0.mk (Kd.C_below (by repeat (first | (with_reducible exact HR576.out) | (with_reducible refine Kd.C_alloc ?_ _) | (with_reducible refine Kd.C_drewN ?_ _) | (with_reducible refine Kd.C_drew ?_) | exact HR576.out)) hb)
                                      have n4_ := Aside0.mk (Kd.C_below (by repeat (first | (with_reducible exact HR580.out) | (with_reducible refine Kd.C_alloc ?_ _) | (with_reducible refine Kd.C_drewN ?_ _) | (with_reducible refine Kd.C_drew ?_) | exact HR580.out)) hb)
                                      have n5_ := Aside0.mk (below_step zq14_6 hb)
                                      have n6_ := Aside0.mk (hlc_)
                                      have n7_ := Aside0.mk (hlr_)
                                      clear HO_6
                                      clear BK547
                                      clear BK548
                                      clear HR576
                                      clear HR580
                                      clear HB
                                      have HO_6 := n0_
                                      have BK547 := n1_
                                      have BK548 := n2_
                                      have HR576 := n3_
                                      have HR580 := n4_
                                      have HB := n5_
                                      have HR584 := n6_
                                      have HC584 := n7_
                                      clear n0_ n1_ n2_ n3_ n4_ n5_ n6_ n7_
                                      clear hb hlr_ hlc_
                                      refine hK.out _ _ trivial (fun hHeld => ?_)
                                      clear hK K
                                      refine norm_ (a' := ?_) ?_ ?_
                                      rotate_left
                                      · show Act.put _ (some 108) _ = _
                                        simp only [Act.put, List.setIfInBounds_toArray, List.set_cons_zero, List.set_cons_succ, i64_w, i32_w, IntKind.wrap_u8, IntKind.wrap_u32]
                                        rfl
                                      refine one_ (i := 7) (N := some 109) #[true, true, true, true, true, true, true, true, false] rfl rfl (one_of HT_.out (by kernel_rfl)) (by decide) (fun K hK => ?_)
                                      refine goes_ Try.func20 (by kernel_rfl) rfl #[.slice A84 y581.length c84] (by rfl) rfl rfl zq14_4 ?_
                                      with_reducible refine (ip4_Sum.calls kj40 _ _ y581 t585 _ ?side1 ?side2 A59.out).mono ?_
                                      (case side1 => repeat (first | exact (by repeat (first | (with_reducible exact HR584.out) | (with_reducible refine Kd.C_alloc ?_ _) | (with_reducible refine Kd.C_drewN ?_ _) | (with_reducible refine Kd.C_drew ?_) | exact HR584.out)) | (with_reducible refine Kd.C_alloc ?_ _) | (with_reducible refine Kd.C_drewN ?_ _) | (with_reducible refine Kd.C_drew ?_)))
                                      (case side2 => exact HC584.out)
                                      rintro e w' ⟨rfl, ⟨nd, rfl⟩⟩
                                      refine ⟨_, rfl, ?_⟩
                                      refine hK.out _ _ trivial (fun hHeld => ?_)
                                      clear hK K
                                      refine norm_ (a' := ?_) ?_ ?_
                                      rotate_left
                                      · show Act.put _ (some 109) _ = _
                                        simp only [Act.put, List.setIfInBounds_toArray, List.set_cons_zero, List.set_cons_succ, i64_w, i32_w, IntKind.wrap_u8, IntKind.wrap_u32]
                                        rfl
                                      refine one_ (i := 8) (N := some 110) #[true, true, true, true, true, true, true, true, true] rfl rfl (one_of HT_.out (by kernel_rfl)) (by decide) (fun K hK => ?_)
                                      refine goes_ Try.func52 (by kernel_rfl) rfl #[.slice (some ⟨go17, 0, none⟩) t557.length co17, .int .i64 10, .int .u16 t585] (by rfl) rfl rfl zq14_4 ?_
                                      with_reducible refine (ip4_putWord.calls (fun k_ => some k_ = (.slice (some ⟨go17, 0, none⟩) t557.length co17 : Value).ownBlock) (.slice (some ⟨go17, 0, none⟩) t557.length co17) y572 10 t585 t586 w _ ?side1 ?side2 A60.out).mono ?_
                                      (case side1 => repeat (first | (with_reducible first | exact HB.out | apply below_alloc | apply pw_below_drewN | apply below_drew1 | refine below_set ?_ GE547.out | refine below_set ?_ GE548.out) | exact HB.out))
                                      (case side2 => (with_reducible repeat (first | apply Kd.R_alloc | apply Kd.R_drewN | apply Kd.R_drew)); exact Kd.R_tight rfl HO_6.out)
                                      rintro e w85 ⟨rfl, hy0, hb, hkp⟩
                                      refine ⟨_, rfl, ?_⟩
                                      have n0_ := Aside0.mk (blk_kept zq14_0 hkp (fun hs_ => (fun e_ => (Kd.R_ne HO_6.out BK547.out (by decide)) e_) hs_))
                                      have n1_ := Aside0.mk (blk_kept zq14_1 hkp (fun hs_ => (fun e_ => (Kd.R_ne HO_6.out BK548.out (by decide)) e_) hs_))
                                      have n2_ := Aside0.mk (Kd.R_reok rfl hy0 (fun k_ e_ => HO_6.out.1 k_ e_))
                                      have n3_ := Aside0.mk (hb)
                                      clear BK547
                                      clear BK548
                                      clear HO_6
                                      clear HB
                                      have BK547 := n0_
                                      have BK548 := n1_
                                      have HO_6 := n2_
                                      have HB := n3_
                                      clear n0_ n1_ n2_ n3_
                                      (try clear hb)
                                      (try clear hkp)
                                      (try clear hy0)
                                      refine hK.out _ _ trivial (fun hHeld => ?_)
                                      clear hK K
                                      refine norm_ (a' := ?_) ?_ ?_
                                      rotate_left
                                      · show Act.put _ (some 110) _ = _
                                        simp only [Act.put, List.setIfInBounds_toArray, List.set_cons_zero, List.set_cons_succ, i64_w, i32_w, IntKind.wrap_u8, IntKind.wrap_u32]
                                        rfl
                                      refine done_ (done_of HT_.out (by kernel_rfl)) ?_
                                      try go_wp2
                                      go_ret2
                                      exact ⟨_, by first | rfl | (simp [errW_none, errW_some] <;> rfl) | (simp only [← hji13, ← hji53]; first | rfl | (simp [errW_none, errW_some] <;> rfl)) | (simp [*, errW_none, errW_some] <;> rfl), by (with_reducible repeat (first | apply Kd.R_alloc | apply Kd.R_drewN | apply Kd.R_drew)); exact HO_6.out, by repeat (first | (with_reducible first | exact HB.out | apply below_alloc | apply pw_below_drewN | apply below_drew1 | refine below_set ?_ GE547.out | refine below_set ?_ GE548.out) | exact HB.out)⟩
                                    · rw [if_neg c57] at H
                                      exact absurd H (by simp)
                                  · rw [if_neg c56] at H
                                    exact absurd H (by simp)
                                · rw [if_neg c55] at H
                                  exact absurd H (by simp)
                              · rw [if_neg c54] at H
                                exact absurd H (by simp)
                            · rw [if_neg c52] at H
                              exact absurd H (by simp)
                          · rw [if_neg c48] at H
                            exact absurd H (by simp)
                        · rw [if_neg c46] at H
                          exact absurd H (by simp)
              · rw [if_neg c18] at H
                exact absurd H (by simp)
            · rw [if_neg c16] at H
              exact absurd H (by simp)
          · rw [if_neg c15] at H
            exact absurd H (by simp)
        · rw [if_neg c14] at H
          exact absurd H (by simp)
    · replace c5 := Bool.eq_false_iff.mpr c5
      subst c5
      have H1 : (some (([] : List Int), 36)) = some (r1, r2) := by rw [if_neg (show ¬ (false = true) by decide)] at H; exact H
      clear H
      have H := H1
      clear H1
      simp only [Option.some.injEq, Prod.mk.injEq] at H
      obtain ⟨rfl, rfl⟩ := H
      go_enter Try.func36, Try.ntmps36
      go_wp2_with (first | ((with_reducible refine gate_dst (N := 1) rfl ?_); refine box_event ?hg (N := 1) ?hd (cs := #[.int .u8 a0_0, .int .u16 a0_1, .bool a0_2, .bool a0_3, .int .i64 a0_4, .int .u8 a0_5, .int .u8 a0_6, .int .u32 a0_7, .int .u32 a0_8, .slice A0_9 l0_9.length c0_9, .slice A0_10 l0_10.length c0_10]) (t := 33) ?hr ?_; (case hd => rfl); (case hg => rfl); (case hr => first | (go_simp; done) | (go_simp; rfl)); intro gb547 hg w86 hbox hb; have n0_ := Aside0.mk (below_step zq14_7 hb); have n1_ := Aside0.mk (hbox); have n2_ := Aside0.mk ((by rw [hg]; exact (below_size zq14_7) : w.heap.size ≤ gb547)); have n3_ := Aside0.mk ((by rw [hg]; exact (below_size zq14_7) : w.heap.size ≤ gb547)); clear HB; have HB := n0_; have BK547 := n1_; have GW547 := n2_; have GE547 := n3_; clear n0_ n1_ n2_ n3_; clear hb hbox hg; have hcz87_0 : w86.cell? ⟨gb547, 0, none⟩ = some (.int .u8 a0_0) := (blk_cell BK547.out 0).trans rfl; have hcz87_1 : w86.cell? ⟨gb547, 1, none⟩ = some (.int .u16 a0_1) := (blk_cell BK547.out 1).trans rfl; have hcz87_2 : w86.cell? ⟨gb547, 2, none⟩ = some (.bool a0_2) := (blk_cell BK547.out 2).trans rfl; have hcz87_3 : w86.cell? ⟨gb547, 3, none⟩ = some (.bool a0_3) := (blk_cell BK547.out 3).trans rfl; have hcz87_4 : w86.cell? ⟨gb547, 4, none⟩ = some (.int .i64 a0_4) := (blk_cell BK547.out 4).trans rfl; have hcz87_5 : w86.cell? ⟨gb547, 5, none⟩ = some (.int .u8 a0_5) := (blk_cell BK547.out 5).trans rfl; have hcz87_6 : w86.cell? ⟨gb547, 6, none⟩ = some (.int .u8 a0_6) := (blk_cell BK547.out 6).trans rfl; have hcz87_7 : w86.cell? ⟨gb547, 7, none⟩ = some (.int .u32 a0_7) := (blk_cell BK547.out 7).trans rfl; have hcz87_8 : w86.cell? ⟨gb547, 8, none⟩ = some (.int .u32 a0_8) := (blk_cell BK547.out 8).trans rfl; have hcz87_9 : w86.cell? ⟨gb547, 9, none⟩ = some (.slice A0_9 l0_9.length c0_9) := (blk_cell BK547.out 9).trans rfl; have hcz87_10 : w86.cell? ⟨gb547, 10, none⟩ = some (.slice A0_10 l0_10.length c0_10) := (blk_cell BK547.out 10).trans rfl; have hfz87_0 := blk_frozen BK547.out 0; have hfz87_1 := blk_frozen BK547.out 1; have hfz87_2 := blk_frozen BK547.out 2; have hfz87_3 := blk_frozen BK547.out 3; have hfz87_4 := blk_frozen BK547.out 4; have hfz87_5 := blk_frozen BK547.out 5; have hfz87_6 := blk_frozen BK547.out 6; have hfz87_7 := blk_frozen BK547.out 7; have hfz87_8 := blk_frozen BK547.out 8; have hfz87_9 := blk_frozen BK547.out 9; have hfz87_10 := blk_frozen BK547.out 10) | ((with_reducible refine gate_dst (N := 4) rfl ?_); refine box_event ?hg (N := 4) ?hd (cs := #[.int .u8 0, .int .u16 0, .bool false, .bool false, .int .i64 0, .int .u8 0, .int .u8 0, .int .u32 0, .int .u32 0, .slice none 0 0]) (t := 31) ?hr ?_; (case hd => rfl); (case hg => rfl); (case hr => first | (go_simp; done) | (go_simp; rfl)); intro gb548 hg w88 hbox hb; have n0_ := Aside0.mk (blk_below (g := gb547) (o := .cells #[.int .u8 a0_0, .int .u16 a0_1, .bool a0_2, .bool a0_3, .int .i64 a0_4, .int .u8 a0_5, .int .u8 a0_6, .int .u32 a0_7, .int .u32 a0_8, .slice A0_9 l0_9.length c0_9, .slice A0_10 l0_10.length c0_10] 33 (0, 0)) zq14_0 hb); have n1_ := Aside0.mk (below_step zq14_3 hb); have n2_ := Aside0.mk (hbox); have n3_ := Aside0.mk ((by rw [hg]; exact (below_size zq14_3) : w.heap.size ≤ gb548)); have n4_ := Aside0.mk ((by rw [hg]; exact (below_size zq14_3) : w.heap.size ≤ gb548)); have n5_ := Aside0.mk ((by rw [hg]; exact Nat.ne_of_lt (blk_lt (g := gb547) (o := .cells #[.int .u8 a0_0, .int .u16 a0_1, .bool a0_2, .bool a0_3, .int .i64 a0_4, .int .u8 a0_5, .int .u8 a0_6, .int .u32 a0_7, .int .u32 a0_8, .slice A0_9 l0_9.length c0_9, .slice A0_10 l0_10.length c0_10] 33 (0, 0)) zq14_0) : gb547 ≠ gb548)); have n6_ := Aside0.mk ((by rw [hg]; exact Nat.ne_of_gt (blk_lt (g := gb547) (o := .cells #[.int .u8 a0_0, .int .u16 a0_1, .bool a0_2, .bool a0_3, .int .i64 a0_4, .int .u8 a0_5, .int .u8 a0_6, .int .u32 a0_7, .int .u32 a0_8, .slice A0_9 l0_9.length c0_9, .slice A0_10 l0_10.length c0_10] 33 (0, 0)) zq14_0) : gb548 ≠ gb547)); clear BK547; clear HB; have BK547 := n0_; have HB := n1_; have BK548 := n2_; have GW548 := n3_; have GE548 := n4_; have NB547_548 := n5_; have NB548_547 := n6_; clear n0_ n1_ n2_ n3_ n4_ n5_ n6_; clear hb hbox hg; have hnb89 := NB548_547.out; have hnc89 := NB547_548.out; have hcz90_0 : w88.cell? ⟨gb548, 0, none⟩ = some (.int .u8 0) := (blk_cell BK548.out 0).trans rfl; have hcz90_1 : w88.cell? ⟨gb548, 1, none⟩ = some (.int .u16 0) := (blk_cell BK548.out 1).trans rfl; have hcz90_2 : w88.cell? ⟨gb548, 2, none⟩ = some (.bool false) := (blk_cell BK548.out 2).trans rfl; have hcz90_3 : w88.cell? ⟨gb548, 3, none⟩ = some (.bool false) := (blk_cell BK548.out 3).trans rfl; have hcz90_4 : w88.cell? ⟨gb548, 4, none⟩ = some (.int .i64 0) := (blk_cell BK548.out 4).trans rfl; have hcz90_5 : w88.cell? ⟨gb548, 5, none⟩ = some (.int .u8 0) := (blk_cell BK548.out 5).trans rfl; have hcz90_6 : w88.cell? ⟨gb548, 6, none⟩ = some (.int .u8 0) := (blk_cell BK548.out 6).trans rfl; have hcz90_7 : w88.cell? ⟨gb548, 7, none⟩ = some (.int .u32 0) := (blk_cell BK548.out 7).trans rfl; have hcz90_8 : w88.cell? ⟨gb548, 8, none⟩ = some (.int .u32 0) := (blk_cell BK548.out 8).trans rfl; have hcz90_9 : w88.cell? ⟨gb548, 9, none⟩ = some (.slice none 0 0) := (blk_cell BK548.out 9).trans rfl; have hfz90_0 := blk_frozen BK548.out 0; have hfz90_1 := blk_frozen BK548.out 1; have hfz90_2 := blk_frozen BK548.out 2; have hfz90_3 := blk_frozen BK548.out 3; have hfz90_4 := blk_frozen BK548.out 4; have hfz90_5 := blk_frozen BK548.out 5; have hfz90_6 := blk_frozen BK548.out 6; have hfz90_7 := blk_frozen BK548.out 7; have hfz90_8 := blk_frozen BK548.out 8; have hfz90_9 := blk_frozen BK548.out 9) | ((with_reducible refine gate_callee (f := 50) rfl ?_); refine goesL_ (some 13) rfl rfl Try.func50 (by kernel_rfl) rfl #[.slice A0_9 l0_9.length c0_9] rfl zq14_4 ?_; (with_reducible refine (ip4_optionsOK.calls k _ _ l0_9 true _ ?side1 ?side2 A2.out).mono ?_); (case side1 => exact Kd.C_below HR0_9.out zq14_6); (case side2 => exact HC0_9.out); rintro e w' ⟨rfl, ⟨nd, rfl⟩⟩; refine ⟨_, rfl, ?_⟩; have hcz91_0 : w88.cell? ⟨gb547, 0, none⟩ = some (.int .u8 a0_0) := (blk_cell BK547.out 0).trans rfl; have hcz91_1 : w88.cell? ⟨gb547, 1, none⟩ = some (.int .u16 a0_1) := (blk_cell BK547.out 1).trans rfl; have hcz91_2 : w88.cell? ⟨gb547, 2, none⟩ = some (.bool a0_2) := (blk_cell BK547.out 2).trans rfl; have hcz91_3 : w88.cell? ⟨gb547, 3, none⟩ = some (.bool a0_3) := (blk_cell BK547.out 3).trans rfl; have hcz91_4 : w88.cell? ⟨gb547, 4, none⟩ = some (.int .i64 a0_4) := (blk_cell BK547.out 4).trans rfl; have hcz91_5 : w88.cell? ⟨gb547, 5, none⟩ = some (.int .u8 a0_5) := (blk_cell BK547.out 5).trans rfl; have hcz91_6 : w88.cell? ⟨gb547, 6, none⟩ = some (.int .u8 a0_6) := (blk_cell BK547.out 6).trans rfl; have hcz91_7 : w88.cell? ⟨gb547, 7, none⟩ = some (.int .u32 a0_7) := (blk_cell BK547.out 7).trans rfl; have hcz91_8 : w88.cell? ⟨gb547, 8, none⟩ = some (.int .u32 a0_8) := (blk_cell BK547.out 8).trans rfl; have hcz91_9 : w88.cell? ⟨gb547, 9, none⟩ = some (.slice A0_9 l0_9.length c0_9) := (blk_cell BK547.out 9).trans rfl; have hcz91_10 : w88.cell? ⟨gb547, 10, none⟩ = some (.slice A0_10 l0_10.length c0_10) := (blk_cell BK547.out 10).trans rfl; have hfz91_0 := blk_frozen BK547.out 0; have hfz91_1 := blk_frozen BK547.out 1; have hfz91_2 := blk_frozen BK547.out 2; have hfz91_3 := blk_frozen BK547.out 3; have hfz91_4 := blk_frozen BK547.out 4; have hfz91_5 := blk_frozen BK547.out 5; have hfz91_6 := blk_frozen BK547.out 6; have hfz91_7 := blk_frozen BK547.out 7; have hfz91_8 := blk_frozen BK547.out 8; have hfz91_9 := blk_frozen BK547.out 9; have hfz91_10 := blk_frozen BK547.out 10) | ((with_reducible refine gate_callee (f := 51) rfl ?_); refine goesL_ (some 23) rfl rfl Try.func51 (by kernel_rfl) rfl #[.int .i64 a0_4, .int .i64 (l0_10.length : Int), .bool a0_3] rfl zq14_4 ?_; (with_reducible refine (ip4_orderly.calls a0_4 (l0_10.length : Int) a0_3 false _ A4.out).mono ?_); rintro e w' ⟨rfl, ⟨nd, rfl⟩⟩; refine ⟨_, rfl, ?_⟩))
      go_ret2
      exact ⟨_, by first | rfl | (simp [errW_none, errW_some] <;> rfl) | (simp [*, errW_none, errW_some] <;> rfl), by first | exact Kd.R_nil _ _ _ _ _ | exact Kd.N_nil _ _ _ _ _ | exact Kd.V_nil _ _ _ _ _ | exact Kd.Q_nil _ _ _ _ _ | exact Kd.S_nil _ _ _ _ _, by repeat (first | (with_reducible first | exact HB.out | apply below_alloc | apply pw_below_drewN | apply below_drew1 | refine below_set ?_ GE547.out | refine below_set ?_ GE548.out) | exact HB.out)⟩
  · replace c3 := Bool.eq_false_iff.mpr c3
    subst c3
    have H1 : (some (([] : List Int), 34)) = some (r1, r2) := by rw [if_neg (show ¬ (false = true) by decide)] at H; exact H
    clear H
    have H := H1
    clear H1
    simp only [Option.some.injEq, Prod.mk.injEq] at H
    obtain ⟨rfl, rfl⟩ := H
    go_enter Try.func36, Try.ntmps36
    go_wp2_with (first | ((with_reducible refine gate_dst (N := 1) rfl ?_); refine box_event ?hg (N := 1) ?hd (cs := #[.int .u8 a0_0, .int .u16 a0_1, .bool a0_2, .bool a0_3, .int .i64 a0_4, .int .u8 a0_5, .int .u8 a0_6, .int .u32 a0_7, .int .u32 a0_8, .slice A0_9 l0_9.length c0_9, .slice A0_10 l0_10.length c0_10]) (t := 33) ?hr ?_; (case hd => rfl); (case hg => rfl); (case hr => first | (go_simp; done) | (go_simp; rfl)); intro gb547 hg w92 hbox hb; have n0_ := Aside0.mk (below_step zq14_7 hb); have n1_ := Aside0.mk (hbox); have n2_ := Aside0.mk ((by rw [hg]; exact (below_size zq14_7) : w.heap.size ≤ gb547)); have n3_ := Aside0.mk ((by rw [hg]; exact (below_size zq14_7) : w.heap.size ≤ gb547)); clear HB; have HB := n0_; have BK547 := n1_; have GW547 := n2_; have GE547 := n3_; clear n0_ n1_ n2_ n3_; clear hb hbox hg; have hcz93_0 : w92.cell? ⟨gb547, 0, none⟩ = some (.int .u8 a0_0) := (blk_cell BK547.out 0).trans rfl; have hcz93_1 : w92.cell? ⟨gb547, 1, none⟩ = some (.int .u16 a0_1) := (blk_cell BK547.out 1).trans rfl; have hcz93_2 : w92.cell? ⟨gb547, 2, none⟩ = some (.bool a0_2) := (blk_cell BK547.out 2).trans rfl; have hcz93_3 : w92.cell? ⟨gb547, 3, none⟩ = some (.bool a0_3) := (blk_cell BK547.out 3).trans rfl; have hcz93_4 : w92.cell? ⟨gb547, 4, none⟩ = some (.int .i64 a0_4) := (blk_cell BK547.out 4).trans rfl; have hcz93_5 : w92.cell? ⟨gb547, 5, none⟩ = some (.int .u8 a0_5) := (blk_cell BK547.out 5).trans rfl; have hcz93_6 : w92.cell? ⟨gb547, 6, none⟩ = some (.int .u8 a0_6) := (blk_cell BK547.out 6).trans rfl; have hcz93_7 : w92.cell? ⟨gb547, 7, none⟩ = some (.int .u32 a0_7) := (blk_cell BK547.out 7).trans rfl; have hcz93_8 : w92.cell? ⟨gb547, 8, none⟩ = some (.int .u32 a0_8) := (blk_cell BK547.out 8).trans rfl; have hcz93_9 : w92.cell? ⟨gb547, 9, none⟩ = some (.slice A0_9 l0_9.length c0_9) := (blk_cell BK547.out 9).trans rfl; have hcz93_10 : w92.cell? ⟨gb547, 10, none⟩ = some (.slice A0_10 l0_10.length c0_10) := (blk_cell BK547.out 10).trans rfl; have hfz93_0 := blk_frozen BK547.out 0; have hfz93_1 := blk_frozen BK547.out 1; have hfz93_2 := blk_frozen BK547.out 2; have hfz93_3 := blk_frozen BK547.out 3; have hfz93_4 := blk_frozen BK547.out 4; have hfz93_5 := blk_frozen BK547.out 5; have hfz93_6 := blk_frozen BK547.out 6; have hfz93_7 := blk_frozen BK547.out 7; have hfz93_8 := blk_frozen BK547.out 8; have hfz93_9 := blk_frozen BK547.out 9; have hfz93_10 := blk_frozen BK547.out 10) | ((with_reducible refine gate_dst (N := 4) rfl ?_); refine box_event ?hg (N := 4) ?hd (cs := #[.int .u8 0, .int .u16 0, .bool false, .bool false, .int .i64 0, .int .u8 0, .int .u8 0, .int .u32 0, .int .u32 0, .slice none 0 0]) (t := 31) ?hr ?_; (case hd => rfl); (case hg => rfl); (case hr => first | (go_simp; done) | (go_simp; rfl)); intro gb548 hg w94 hbox hb; have n0_ := Aside0.mk (blk_below (g := gb547) (o := .cells #[.int .u8 a0_0, .int .u16 a0_1, .bool a0_2, .bool a0_3, .int .i64 a0_4, .int .u8 a0_5, .int .u8 a0_6, .int .u32 a0_7, .int .u32 a0_8, .slice A0_9 l0_9.length c0_9, .slice A0_10 l0_10.length c0_10] 33 (0, 0)) zq14_0 hb); have n1_ := Aside0.mk (below_step zq14_3 hb); have n2_ := Aside0.mk (hbox); have n3_ := Aside0.mk ((by rw [hg]; exact (below_size zq14_3) : w.heap.size ≤ gb548)); have n4_ := Aside0.mk ((by rw [hg]; exact (below_size zq14_3) : w.heap.size ≤ gb548)); have n5_ := Aside0.mk ((by rw [hg]; exact Nat.ne_of_lt (blk_lt (g := gb547) (o := .cells #[.int .u8 a0_0, .int .u16 a0_1, .bool a0_2, .bool a0_3, .int .i64 a0_4, .int .u8 a0_5, .int .u8 a0_6, .int .u32 a0_7, .int .u32 a0_8, .slice A0_9 l0_9.length c0_9, .slice A0_10 l0_10.length c0_10] 33 (0, 0)) zq14_0) : gb547 ≠ gb548)); have n6_ := Aside0.mk ((by rw [hg]; exact Nat.ne_of_gt (blk_lt (g := gb547) (o := .cells #[.int .u8 a0_0, .int .u16 a0_1, .bool a0_2, .bool a0_3, .int .i64 a0_4, .int .u8 a0_5, .int .u8 a0_6, .int .u32 a0_7, .int .u32 a0_8, .slice A0_9 l0_9.length c0_9, .slice A0_10 l0_10.length c0_10] 33 (0, 0)) zq14_0) : gb548 ≠ gb547)); clear BK547; clear HB; have BK547 := n0_; have HB := n1_; have BK548 := n2_; have GW548 := n3_; have GE548 := n4_; have NB547_548 := n5_; have NB548_547 := n6_; clear n0_ n1_ n2_ n3_ n4_ n5_ n6_; clear hb hbox hg; have hnb95 := NB548_547.out; have hnc95 := NB547_548.out; have hcz96_0 : w94.cell? ⟨gb548, 0, none⟩ = some (.int .u8 0) := (blk_cell BK548.out 0).trans rfl; have hcz96_1 : w94.cell? ⟨gb548, 1, none⟩ = some (.int .u16 0) := (blk_cell BK548.out 1).trans rfl; have hcz96_2 : w94.cell? ⟨gb548, 2, none⟩ = some (.bool false) := (blk_cell BK548.out 2).trans rfl; have hcz96_3 : w94.cell? ⟨gb548, 3, none⟩ = some (.bool false) := (blk_cell BK548.out 3).trans rfl; have hcz96_4 : w94.cell? ⟨gb548, 4, none⟩ = some (.int .i64 0) := (blk_cell BK548.out 4).trans rfl; have hcz96_5 : w94.cell? ⟨gb548, 5, none⟩ = some (.int .u8 0) := (blk_cell BK548.out 5).trans rfl; have hcz96_6 : w94.cell? ⟨gb548, 6, none⟩ = some (.int .u8 0) := (blk_cell BK548.out 6).trans rfl; have hcz96_7 : w94.cell? ⟨gb548, 7, none⟩ = some (.int .u32 0) := (blk_cell BK548.out 7).trans rfl; have hcz96_8 : w94.cell? ⟨gb548, 8, none⟩ = some (.int .u32 0) := (blk_cell BK548.out 8).trans rfl; have hcz96_9 : w94.cell? ⟨gb548, 9, none⟩ = some (.slice none 0 0) := (blk_cell BK548.out 9).trans rfl; have hfz96_0 := blk_frozen BK548.out 0; have hfz96_1 := blk_frozen BK548.out 1; have hfz96_2 := blk_frozen BK548.out 2; have hfz96_3 := blk_frozen BK548.out 3; have hfz96_4 := blk_frozen BK548.out 4; have hfz96_5 := blk_frozen BK548.out 5; have hfz96_6 := blk_frozen BK548.out 6; have hfz96_7 := blk_frozen BK548.out 7; have hfz96_8 := blk_frozen BK548.out 8; have hfz96_9 := blk_frozen BK548.out 9) | ((with_reducible refine gate_callee (f := 50) rfl ?_); refine goesL_ (some 13) rfl rfl Try.func50 (by kernel_rfl) rfl #[.slice A0_9 l0_9.length c0_9] rfl zq14_4 ?_; (with_reducible refine (ip4_optionsOK.calls k _ _ l0_9 false _ ?side1 ?side2 A2.out).mono ?_); (case side1 => exact Kd.C_below HR0_9.out zq14_6); (case side2 => exact HC0_9.out); rintro e w' ⟨rfl, ⟨nd, rfl⟩⟩; refine ⟨_, rfl, ?_⟩))
    go_ret2
    exact ⟨_, by first | rfl | (simp [errW_none, errW_some] <;> rfl) | (simp [*, errW_none, errW_some] <;> rfl), by first | exact Kd.R_nil _ _ _ _ _ | exact Kd.N_nil _ _ _ _ _ | exact Kd.V_nil _ _ _ _ _ | exact Kd.Q_nil _ _ _ _ _ | exact Kd.S_nil _ _ _ _ _, by repeat (first | (with_reducible first | exact HB.out | apply below_alloc | apply pw_below_drewN | apply below_drew1 | refine below_set ?_ GE547.out | refine below_set ?_ GE548.out) | exact HB.out)⟩

end Go.Proofs.Ytmjhfkjnnpnoaaa.XA
