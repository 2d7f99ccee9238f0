-- printed by a program of this session (wip/xprint), out of the translation; Lean checks it
import Derived.Test.YtbacmhegalncjaaQIXBx0
import Derived.Test.YtbacmhegalncjaaQIXBx5
import Derived.Test.YtbacmhegalncjaaQIXBx8
namespace Go.Proofs.Ytbacmhegalncjaa.XB
open Go.RowKit Go.Proofs.YtbacmhegalncjaaW.PrintWords Go.Proofs.YtbacmhegalncjaaW.PrintLast Go.Proofs.YtbacmhegalncjaaW.PrintMore Go.Proofs.YtbacmhegalncjaaX
theorem zqxb9_20 {P : Prop} (h : P := by rw [List.length_drop, List.length_take]; have h_ : (t374 : Int) ≤ (l0.length : Int) := zod zqxb9_14; omega) : P := h
theorem zqxb9_19 {P : Prop} (h : P := by rw [List.length_drop, List.length_take]; have h_ : (t373 : Int) ≤ (l0.length : Int) := zod zqxb9_14; omega) : P := h
theorem zqxb9_18 {P : Prop} (h : P := by first | exact Kd.R_nil _ _ _ _ _ | exact Kd.N_nil _ _ _ _ _ | exact Kd.V_nil _ _ _ _ _ | exact Kd.Q_nil _ _ _ _ _ | exact Kd.S_nil _ _ _ _ _) : P := h
theorem zqxb9_17 {P : Prop} (h : P := by repeat (first | (with_reducible first | exact HB.out | apply below_alloc | apply pw_below_drewN | apply below_drew1 | refine below_set ?_ GE389.out | refine below_set ?_ GE390.out) | exact HB.out)) : P := h
theorem zqxb9_16 {P : Prop} (h : P := by first | (with_reducible exact BK390.out) | (with_reducible exact zdn BK390.out _) | (with_reducible exact zdr BK390.out) | ((with_reducible repeat (first | refine zdn ?_ _ | refine zdr ?_ | refine blk_alloc ?_ _)); exact BK390.out)) : P := h
theorem zqxb9_15 {P : Prop} (h : P := by repeat (first | (with_reducible first | exact HB.out | apply below_alloc | apply pw_below_drewN | apply below_drew1 | refine below_set ?_ GE386.out) | exact HB.out)) : P := h
theorem zqxb9_14 {P : Prop} (h : P := by first | (with_reducible assumption) | assumption) : P := h
theorem zqxb9_13 {P : Prop} (h : P := by repeat (first | (with_reducible first | exact HB.out | apply below_alloc | apply pw_below_drewN | apply below_drew1 | refine below_set ?_ GE360.out | refine below_set ?_ GE376.out) | exact HB.out)) : P := h
theorem zqxb9_12 {P : Prop} (h : P := by (with_reducible repeat (first | apply Kd.R_alloc | apply Kd.R_drewN | apply Kd.R_drew)); exact HO372.out) : P := h
theorem zqxb9_11 {P : Prop} (h : P := by (try simp only [List.map_toArray, List.map_cons, List.map_nil]); first | done | rfl | (simp only [List.length_drop, List.length_take]; rfl)) : P := h
theorem zqxb9_10 {P : Prop} (h : P := by first | (with_reducible exact BK386.out) | (with_reducible exact zdn BK386.out _) | (with_reducible exact zdr BK386.out) | ((with_reducible repeat (first | refine zdn ?_ _ | refine zdr ?_ | refine blk_alloc ?_ _)); exact BK386.out)) : P := h
theorem zqxb9_9 {P : Prop} (h : P := by first | (with_reducible exact BK377.out) | (with_reducible exact zdn BK377.out _) | (with_reducible exact zdr BK377.out) | ((with_reducible repeat (first | refine zdn ?_ _ | refine zdr ?_ | refine blk_alloc ?_ _)); exact BK377.out)) : P := h
theorem zqxb9_8 {P : Prop} (h : P := by first | (with_reducible exact BK376.out) | (with_reducible exact zdn BK376.out _) | (with_reducible exact zdr BK376.out) | ((with_reducible repeat (first | refine zdn ?_ _ | refine zdr ?_ | refine blk_alloc ?_ _)); exact BK376.out)) : P := h
theorem zqxb9_7 {P : Prop} (h : P := by repeat (first | (with_reducible first | exact HB.out | apply below_alloc | apply pw_below_drewN | apply below_drew1 | refine below_set ?_ GE389.out) | exact HB.out)) : P := h
theorem zqxb9_6 {P : Prop} (h : P := by repeat (first | (with_reducible first | exact HB.out | apply below_alloc | apply pw_below_drewN | apply below_drew1 | refine below_set ?_ GE360.out | refine below_set ?_ GE376.out | refine below_set ?_ GE377.out) | exact HB.out)) : P := h
theorem zqxb9_5 {P : Prop} (h : P := by first | (with_reducible exact BK389.out) | (with_reducible exact zdn BK389.out _) | (with_reducible exact zdr BK389.out) | ((with_reducible repeat (first | refine zdn ?_ _ | refine zdr ?_ | refine blk_alloc ?_ _)); exact BK389.out)) : P := h
theorem zqxb9_4 {P : Prop} (h : P := by repeat (first | (with_reducible first | exact HB.out | apply below_alloc | apply pw_below_drewN | apply below_drew1 | refine below_set ?_ GE360.out) | exact HB.out)) : P := h
theorem zqxb9_3 {P : Prop} (h : P := by repeat (first | (with_reducible first | exact HB.out | apply below_alloc | apply pw_below_drewN | apply below_drew1) | exact HB.out)) : P := h
theorem zqxb9_2 {P : Prop} (h : P := by first | (with_reducible exact BK360.out) | (with_reducible exact zdn BK360.out _) | (with_reducible exact zdr BK360.out) | ((with_reducible repeat (first | refine zdn ?_ _ | refine zdr ?_ | refine blk_alloc ?_ _)); exact BK360.out)) : P := h
theorem zqxb9_1 {P : Prop} (h : P := by (with_reducible repeat (first | refine zdn ?_ _ | refine zdr ?_ | refine blk_alloc ?_ _)); refine blk_far ?_ NB360_376.out _; (with_reducible repeat (first | refine zdn ?_ _ | refine zdr ?_ | refine blk_alloc ?_ _)); refine blk_far ?_ NB360_376.out _; (with_reducible repeat (first | refine zdn ?_ _ | refine zdr ?_ | refine blk_alloc ?_ _)); refine blk_far ?_ NB360_376.out _; (with_reducible repeat (first | refine zdn ?_ _ | refine zdr ?_ | refine blk_alloc ?_ _)); refine blk_far ?_ NB360_376.out _; (with_reducible repeat (first | refine zdn ?_ _ | refine zdr ?_ | refine blk_alloc ?_ _)); refine blk_far ?_ NB360_376.out _; (with_reducible repeat (first | refine zdn ?_ _ | refine zdr ?_ | refine blk_alloc ?_ _)); refine blk_far ?_ NB360_376.out _; (with_reducible repeat (first | refine zdn ?_ _ | refine zdr ?_ | refine blk_alloc ?_ _)); refine blk_far ?_ NB360_376.out _; (with_reducible repeat (first | refine zdn ?_ _ | refine zdr ?_ | refine blk_alloc ?_ _)); refine blk_far ?_ NB360_376.out _; (with_reducible repeat (first | refine zdn ?_ _ | refine zdr ?_ | refine blk_alloc ?_ _)); refine blk_far ?_ NB360_376.out _; (with_reducible repeat (first | refine zdn ?_ _ | refine zdr ?_ | refine blk_alloc ?_ _)); refine blk_far ?_ NB360_376.out _; first | (with_reducible exact BK360.out) | (with_reducible exact zdn BK360.out _) | (with_reducible exact zdr BK360.out) | ((with_reducible repeat (first | refine zdn ?_ _ | refine zdr ?_ | refine blk_alloc ?_ _)); exact BK360.out)) : P := h
theorem zqxb9_0 {P : Prop} (h : P := by (with_reducible repeat (first | refine zdn ?_ _ | refine zdr ?_ | refine blk_alloc ?_ _)); refine blk_put (cs := #[.int .u8 t361, .int .u16 t362, .bool t363, .bool t364, .int .i64 t365, .int .u8 t366, .int .u8 t367, .int .u32 t368, .int .u32 t369, .slice none 0 0]) ?_ 9 _ rfl; (with_reducible repeat (first | refine zdn ?_ _ | refine zdr ?_ | refine blk_alloc ?_ _)); refine blk_put (cs := #[.int .u8 t361, .int .u16 t362, .bool t363, .bool t364, .int .i64 t365, .int .u8 t366, .int .u8 t367, .int .u32 t368, .int .u32 0, .slice none 0 0]) ?_ 8 _ rfl; (with_reducible repeat (first | refine zdn ?_ _ | refine zdr ?_ | refine blk_alloc ?_ _)); refine blk_put (cs := #[.int .u8 t361, .int .u16 t362, .bool t363, .bool t364, .int .i64 t365, .int .u8 t366, .int .u8 t367, .int .u32 0, .int .u32 0, .slice none 0 0]) ?_ 7 _ rfl; (with_reducible repeat (first | refine zdn ?_ _ | refine zdr ?_ | refine blk_alloc ?_ _)); refine blk_put (cs := #[.int .u8 t361, .int .u16 t362, .bool t363, .bool t364, .int .i64 t365, .int .u8 t366, .int .u8 0, .int .u32 0, .int .u32 0, .slice none 0 0]) ?_ 6 _ rfl; (with_reducible repeat (first | refine zdn ?_ _ | refine zdr ?_ | refine blk_alloc ?_ _)); refine blk_put (cs := #[.int .u8 t361, .int .u16 t362, .bool t363, .bool t364, .int .i64 t365, .int .u8 0, .int .u8 0, .int .u32 0, .int .u32 0, .slice none 0 0]) ?_ 5 _ rfl; (with_reducible repeat (first | refine zdn ?_ _ | refine zdr ?_ | refine blk_alloc ?_ _)); refine blk_put (cs := #[.int .u8 t361, .int .u16 t362, .bool t363, .bool t364, .int .i64 0, .int .u8 0, .int .u8 0, .int .u32 0, .int .u32 0, .slice none 0 0]) ?_ 4 _ rfl; (with_reducible repeat (first | refine zdn ?_ _ | refine zdr ?_ | refine blk_alloc ?_ _)); refine blk_put (cs := #[.int .u8 t361, .int .u16 t362, .bool t363, .bool false, .int .i64 0, .int .u8 0, .int .u8 0, .int .u32 0, .int .u32 0, .slice none 0 0]) ?_ 3 _ rfl; (with_reducible repeat (first | refine zdn ?_ _ | refine zdr ?_ | refine blk_alloc ?_ _)); refine blk_put (cs := #[.int .u8 t361, .int .u16 t362, .bool false, .bool false, .int .i64 0, .int .u8 0, .int .u8 0, .int .u32 0, .int .u32 0, .slice none 0 0]) ?_ 2 _ rfl; (with_reducible repeat (first | refine zdn ?_ _ | refine zdr ?_ | refine blk_alloc ?_ _)); refine blk_put (cs := #[.int .u8 t361, .int .u16 0, .bool false, .bool false, .int .i64 0, .int .u8 0, .int .u8 0, .int .u32 0, .int .u32 0, .slice none 0 0]) ?_ 1 _ rfl; (with_reducible repeat (first | refine zdn ?_ _ | refine zdr ?_ | refine blk_alloc ?_ _)); refine blk_put (cs := #[.int .u8 0, .int .u16 0, .bool false, .bool false, .int .i64 0, .int .u8 0, .int .u8 0, .int .u32 0, .int .u32 0, .slice none 0 0]) ?_ 0 _ rfl; first | (with_reducible exact BK376.out) | (with_reducible exact zdn BK376.out _) | (with_reducible exact zdr BK376.out) | ((with_reducible repeat (first | refine zdn ?_ _ | refine zdr ?_ | refine blk_alloc ?_ _)); exact BK376.out)) : P := h
attribute [local go_sem] max2_int min2_int max_two min_two max_three min_three max_four min_four   -- for this text's walks alone
set_option linter.unusedVariables false
set_option linter.unusedSimpArgs false

/-! ### ip4_Parse: function 38 -/
def ip4_Parse.f (k : Nat) (l0 : List Int) : Option (Int × Int × Bool × Bool × Int × Int × Int × Int × Int × List Int × List Int × Int) := (ip4_read.f k l0 true).bind fun bt361 => (if bt361.2.2.2.2.2.2.2.2.2.2.2.2 = 0 then (if 20 ≤ bt361.2.2.2.2.2.2.2.2.2.2.1 then (if bt361.2.2.2.2.2.2.2.2.2.2.1 ≤ (l0.length : Int) then (if 0 ≤ bt361.2.2.2.2.2.2.2.2.2.2.1 then (if bt361.2.2.2.2.2.2.2.2.2.2.1 ≤ bt361.2.2.2.2.2.2.2.2.2.2.2.1 then (if bt361.2.2.2.2.2.2.2.2.2.2.2.1 ≤ (l0.length : Int) then ((ip4_apart.f ((l0.take (bt361.2.2.2.2.2.2.2.2.2.2.1 : Int).toNat).drop 20) ((l0.take (bt361.2.2.2.2.2.2.2.2.2.2.2.1 : Int).toNat).drop (bt361.2.2.2.2.2.2.2.2.2.2.1 : Int).toNat)).bind fun bt380 => (some (bt361.1, bt361.2.1, bt361.2.2.1, bt361.2.2.2.1, bt361.2.2.2.2.1, bt361.2.2.2.2.2.1, bt361.2.2.2.2.2.2.1, bt361.2.2.2.2.2.2.2.1, bt361.2.2.2.2.2.2.2.2.1, bt380.1, bt380.2, 0))) else (none)) else (none)) else (none)) else (none)) else (none)) else (some (0, 0, false, false, 0, 0, 0, 0, 0, ([] : List Int), ([] : List Int), bt361.2.2.2.2.2.2.2.2.2.2.2.2)))
def ip4_Parse.T5 : Bool × List (List Nat × List Nat) := (true, [([], []), ([], []), ([0, 1], [0, 1]), ([], []), ([], []), ([], []), ([3, 4, 5], [3, 4, 5]), ([2, 6], [2, 6]), ([7], [7]), ([8], [8]), ([8], [8]), ([0, 1, 2, 3, 4, 5, 6, 7, 8, 9], []), ([11, 0, 1, 2, 3, 4, 5, 6, 7, 8, 9], [11]), ([12, 9, 7, 0, 1, 2, 3, 4, 5, 6, 7, 8, 9], [9, 12]), ([0, 1, 2, 3, 4, 5, 6, 7, 8, 9, 10, 11, 12, 13], []), ([14, 10, 13, 0, 1, 2, 3, 4, 5, 6, 7, 8, 9, 10, 11, 12, 13], [10, 14])])
def ip4_Parse.B5 : List Nat := [0, 0, 3, 0, 0, 0, 56, 127, 255, 511, 511, 1023, 3071, 7167, 16383, 32767]
theorem ip4_Parse.tab5 : rtab .any (opsOf Try.f38 5) = ip4_Parse.T5 := by kernel_rfl
theorem ip4_Parse.bits5 : waitsOk ip4_Parse.T5.2 ip4_Parse.B5 = true := by kernel_rfl
set_option maxHeartbeats 8000000 in
set_option maxRecDepth 100000 in
theorem ip4_Parse.calls (k : Nat) (A0 : Option Addr) (c0 : Nat) (l0 : List Int) (r1 : Int) (r2 : Int) (r3 : Bool) (r4 : Bool) (r5 : Int) (r6 : Int) (r7 : Int) (r8 : Int) (r9 : Int) (r10 : List Int) (r11 : List Int) (r12 : Int) (w : World) (hr0 : Kd.C (Kd.int .u8) w A0 l0.length l0) (hc0 : l0.length ≤ c0) (h : ip4_Parse.f k l0 = some (r1, r2, r3, r4, r5, r6, r7, r8, r9, r10, r11, r12)) :
  Calls Try.prog 38 #[.slice A0 l0.length c0] w fun e w' => ∃ v9_ v10_ : Value, e = .returned (.tuple #[.agg #[.int .u8 r1, .int .u16 r2, .bool r3, .bool r4, .int .i64 r5, .int .u8 r6, .int .u8 r7, .int .u32 r8, .int .u32 r9, v9_, v10_], .int .i64 r12]) ∧ Kd.V (Kd.int .u8) 5 w' w.heap.size (fun k_ => (w.heap.size ≤ k_)) v9_ r10 ∧ Kd.V (Kd.int .u8) 5 w' w.heap.size (fun k_ => (w.heap.size ≤ k_)) v10_ r11 ∧ Below w.heap.size w w' := by
 have hu43 := Try.underlying43
 have hu41 := Try.underlying41
 have HR0 := zam hr0
 have HC0 := zam hc0
 clear hr0 hc0
 have HB := zam (Below.refl w.heap.size w)
 have H : ((ip4_read.f k l0 true).bind fun bt361 => (if bt361.2.2.2.2.2.2.2.2.2.2.2.2 = 0 then (if 20 ≤ bt361.2.2.2.2.2.2.2.2.2.2.1 then (if bt361.2.2.2.2.2.2.2.2.2.2.1 ≤ (l0.length : Int) then (if 0 ≤ bt361.2.2.2.2.2.2.2.2.2.2.1 then (if bt361.2.2.2.2.2.2.2.2.2.2.1 ≤ bt361.2.2.2.2.2.2.2.2.2.2.2.1 then (if bt361.2.2.2.2.2.2.2.2.2.2.2.1 ≤ (l0.length : Int) then ((ip4_apart.f ((l0.take (bt361.2.2.2.2.2.2.2.2.2.2.1 : Int).toNat).drop 20) ((l0.take (bt361.2.2.2.2.2.2.2.2.2.2.2.1 : Int).toNat).drop (bt361.2.2.2.2.2.2.2.2.2.2.1 : Int).toNat)).bind fun bt380 => (some (bt361.1, bt361.2.1, bt361.2.2.1, bt361.2.2.2.1, bt361.2.2.2.2.1, bt361.2.2.2.2.2.1, bt361.2.2.2.2.2.2.1, bt361.2.2.2.2.2.2.2.1, bt361.2.2.2.2.2.2.2.2.1, bt380.1, bt380.2, 0))) else (none)) else (none)) else (none)) else (none)) else (none)) else (some (0, 0, false, false, 0, 0, 0, 0, 0, ([] : List Int), ([] : List Int), bt361.2.2.2.2.2.2.2.2.2.2.2.2)))) = some (r1, r2, r3, r4, r5, r6, r7, r8, r9, r10, r11, r12) := h
 clear h
 replace H := Option.bind_eq_some_iff.mp H
 obtain ⟨⟨t361, t362, t363, t364, t365, t366, t367, t368, t369, t370, t373, t374, t375⟩, A20, H⟩ := H
 replace H : (if t375 = 0 then (if 20 ≤ t373 then (if t373 ≤ (l0.length : Int) then (if 0 ≤ t373 then (if t373 ≤ t374 then (if t374 ≤ (l0.length : Int) then ((ip4_apart.f ((l0.take (t373 : Int).toNat).drop 20) ((l0.take (t374 : Int).toNat).drop (t373 : Int).toNat)).bind fun bt380 => (some (t361, t362, t363, t364, t365, t366, t367, t368, t369, bt380.1, bt380.2, 0))) else (none)) else (none)) else (none)) else (none)) else (none)) else (some (0, 0, false, false, 0, 0, 0, 0, 0, ([] : List Int), ([] : List Int), t375))) = some (r1, r2, r3, r4, r5, r6, r7, r8, r9, r10, r11, r12) := H
 have A2 := zam A20
 clear A20
 by_cases c3 : t375 = 0
 ·
  rw [if_pos c3] at H
  have c3b0 : (t375 == 0) = true := beq_iff_eq.mpr c3
  have c3b1 : (t375 != 0) = false := bne_eq_false_iff_eq.mpr c3
  clear c3
  by_cases c4 : 20 ≤ t373
  ·
   rw [if_pos c4] at H
   have c4b0 := eq_true c4
   have c4b1 : decide (20 ≤ t373) = true := decide_eq_true c4
   clear c4
   by_cases c5 : t373 ≤ (l0.length : Int)
   ·
    rw [if_pos c5] at H
    have c5b0 := eq_true c5
    have c5b1 : decide (t373 ≤ (l0.length : Int)) = true := decide_eq_true c5
    clear c5
    by_cases c6 : 0 ≤ t373
    ·
     rw [if_pos c6] at H
     have c6b0 := eq_true c6
     have c6b1 : decide (0 ≤ t373) = true := decide_eq_true c6
     clear c6
     by_cases c7 : t373 ≤ t374
     ·
      rw [if_pos c7] at H
      have c7b0 := eq_true c7
      have c7b1 : decide (t373 ≤ t374) = true := decide_eq_true c7
      clear c7
      by_cases c8 : t374 ≤ (l0.length : Int)
      ·
       rw [if_pos c8] at H
       have c8b0 := eq_true c8
       have c8b1 : decide (t374 ≤ (l0.length : Int)) = true := decide_eq_true c8
       clear c8
       replace H := Option.bind_eq_some_iff.mp H
       obtain ⟨⟨t380, t383⟩, A90, H⟩ := H
       replace H : (some (t361, t362, t363, t364, t365, t366, t367, t368, t369, t380, t383, 0)) = some (r1, r2, r3, r4, r5, r6, r7, r8, r9, r10, r11, r12) := H
       have A9 := zam A90
       clear A90
       simp only [Option.some.injEq, Prod.mk.injEq] at H
       obtain ⟨rfl, rfl, rfl, rfl, rfl, rfl, rfl, rfl, rfl, rfl, rfl, rfl⟩ := H
       go_enter Try.func38, Try.ntmps38
       try go_wp2_with (first | ((with_reducible refine gate_dst (N := 2) rfl ?_); refine box_event ?hg (N := 2) ?hd (cs := #[.int .u8 0, .int .u16 0, .bool false, .bool false, .int .i64 0, .int .u8 0, .int .u8 0, .int .u32 0, .int .u32 0, .slice none 0 0, .slice none 0 0]) (t := 43) ?hr ?_; (case hd => rfl); (case hg => rfl); (case hr => first | (go_simp; done) | (go_simp; rfl)); intro gb360 hg w10 hbox hb; have n0_ := zam (below_step zqxb9_3 hb); have n1_ := zam (hbox); have n2_ := zam ((by rw [hg]; exact (below_size zqxb9_3) : w.heap.size ≤ gb360)); have n3_ := zam ((by rw [hg]; exact (below_size zqxb9_3) : w.heap.size ≤ gb360)); clear HB; have HB := n0_; have BK360 := n1_; have GW360 := n2_; have GE360 := n3_; clear n0_ n1_ n2_ n3_; clear hb hbox hg) | ((with_reducible refine gate_callee (f := 65) rfl ?_); refine goesL_ (some 11) rfl rfl Try.func65 (by kernel_rfl) rfl #[.slice A0 l0.length c0, .bool true] rfl zqxb9_11 ?_; (with_reducible refine (ip4_read.calls k _ _ l0 true t361 t362 t363 t364 t365 t366 t367 t368 t369 t370 t373 t374 t375 _ ?side1 ?side2 A2.out).mono ?_); (case side1 => repeat (first | exact (Kd.C_below HR0.out HB.out) | (with_reducible refine Kd.C_alloc ?_ _) | (with_reducible refine Kd.C_drewN ?_ _) | (with_reducible refine Kd.C_drew ?_))); (case side2 => exact HC0.out); rintro e w11 ⟨v371, rfl, ho0, hb⟩; refine ⟨_, rfl, ?_⟩; have n0_ := zam (Kd.R_lower (Kd.R_newM (M := fun k_ => (w.heap.size ≤ k_)) ho0 (below_size zqxb9_4) (fun k_ h_ => h_)) (below_size zqxb9_4)); have n1_ := zam (blk_below (g := gb360) (o := .cells #[.int .u8 0, .int .u16 0, .bool false, .bool false, .int .i64 0, .int .u8 0, .int .u8 0, .int .u32 0, .int .u32 0, .slice none 0 0, .slice none 0 0] 43 (0, 0)) zqxb9_2 hb); have n2_ := zam (below_step zqxb9_4 hb); clear BK360; clear HB; have HO372 := n0_; have BK360 := n1_; have HB := n2_; clear n0_ n1_ n2_; (try clear hb); (try clear hb2); (try clear hk); (try clear hi); (try clear ho0)) | ((with_reducible refine gate_dst (N := 4) rfl ?_); refine box_event ?hg (N := 4) ?hd (cs := #[.int .u8 0, .int .u16 0, .bool false, .bool false, .int .i64 0, .int .u8 0, .int .u8 0, .int .u32 0, .int .u32 0, .slice none 0 0]) (t := 41) ?hr ?_; (case hd => rfl); (case hg => rfl); (case hr => first | (go_simp; done) | (go_simp; rfl)); intro gb376 hg w12 hbox hb; have n0_ := zam (Kd.R_below zqxb9_12 hb); have n1_ := zam (blk_below (g := gb360) (o := .cells #[.int .u8 0, .int .u16 0, .bool false, .bool false, .int .i64 0, .int .u8 0, .int .u8 0, .int .u32 0, .int .u32 0, .slice none 0 0, .slice none 0 0] 43 (0, 0)) zqxb9_2 hb); have n2_ := zam (below_step zqxb9_4 hb); have n3_ := zam (hbox); have n4_ := zam ((by rw [hg]; exact (below_size zqxb9_4) : w.heap.size ≤ gb376)); have n5_ := zam ((by rw [hg]; exact (below_size zqxb9_4) : w.heap.size ≤ gb376)); have n6_ := zam ((by rw [hg]; exact Nat.ne_of_lt (blk_lt (g := gb360) (o := .cells #[.int .u8 0, .int .u16 0, .bool false, .bool false, .int .i64 0, .int .u8 0, .int .u8 0, .int .u32 0, .int .u32 0, .slice none 0 0, .slice none 0 0] 43 (0, 0)) zqxb9_2) : gb360 ≠ gb376)); have n7_ := zam ((by rw [hg]; exact Nat.ne_of_gt (blk_lt (g := gb360) (o := .cells #[.int .u8 0, .int .u16 0, .bool false, .bool false, .int .i64 0, .int .u8 0, .int .u8 0, .int .u32 0, .int .u32 0, .slice none 0 0, .slice none 0 0] 43 (0, 0)) zqxb9_2) : gb376 ≠ gb360)); clear HO372; clear BK360; clear HB; have HO372 := n0_; have BK360 := n1_; have HB := n2_; have BK376 := n3_; have GW376 := n4_; have GE376 := n5_; have NB360_376 := n6_; have NB376_360 := n7_; clear n0_ n1_ n2_ n3_ n4_ n5_ n6_ n7_; clear hb hbox hg; have hnb13 := NB376_360.out; have hnc13 := NB360_376.out; have hcz14_0 : w12.cell? ⟨gb376, 0, none⟩ = some (.int .u8 0) := (zbc BK376.out 0).trans rfl; have hcz14_1 : w12.cell? ⟨gb376, 1, none⟩ = some (.int .u16 0) := (zbc BK376.out 1).trans rfl; have hcz14_2 : w12.cell? ⟨gb376, 2, none⟩ = some (.bool false) := (zbc BK376.out 2).trans rfl; have hcz14_3 : w12.cell? ⟨gb376, 3, none⟩ = some (.bool false) := (zbc BK376.out 3).trans rfl; have hcz14_4 : w12.cell? ⟨gb376, 4, none⟩ = some (.int .i64 0) := (zbc BK376.out 4).trans rfl; have hcz14_5 : w12.cell? ⟨gb376, 5, none⟩ = some (.int .u8 0) := (zbc BK376.out 5).trans rfl; have hcz14_6 : w12.cell? ⟨gb376, 6, none⟩ = some (.int .u8 0) := (zbc BK376.out 6).trans rfl; have hcz14_7 : w12.cell? ⟨gb376, 7, none⟩ = some (.int .u32 0) := (zbc BK376.out 7).trans rfl; have hcz14_8 : w12.cell? ⟨gb376, 8, none⟩ = some (.int .u32 0) := (zbc BK376.out 8).trans rfl; have hcz14_9 : w12.cell? ⟨gb376, 9, none⟩ = some (.slice none 0 0) := (zbc BK376.out 9).trans rfl; have hfz14_0 := zbf BK376.out 0; have hfz14_1 := zbf BK376.out 1; have hfz14_2 := zbf BK376.out 2; have hfz14_3 := zbf BK376.out 3; have hfz14_4 := zbf BK376.out 4; have hfz14_5 := zbf BK376.out 5; have hfz14_6 := zbf BK376.out 6; have hfz14_7 := zbf BK376.out 7; have hfz14_8 := zbf BK376.out 8; have hfz14_9 := zbf BK376.out 9; obtain ⟨Ao15, co15, eo15⟩ := Kd.R_slice HO372.out; subst eo15) | ((with_reducible refine gate_dst (N := 8) rfl ?_); refine box_event ?hg (N := 8) ?hd (cs := #[.int .u8 0, .int .u16 0, .bool false, .bool false, .int .i64 0, .int .u8 0, .int .u8 0, .int .u32 0, .int .u32 0, .slice none 0 0, .slice none 0 0]) (t := 43) ?hr ?_; (case hd => rfl); (case hg => rfl); (case hr => first | (go_simp; done) | (go_simp; rfl)); intro gb377 hg w16 hbox hb; have n0_ := zam (Kd.R_below (by (with_reducible repeat (first | apply Kd.R_alloc | apply Kd.R_drewN | apply Kd.R_drew)); exact (Kd.R_mono (Kd.R_far (p := ⟨gb376, 9, none⟩) (Kd.R_far (p := ⟨gb376, 8, none⟩) (Kd.R_far (p := ⟨gb376, 7, none⟩) (Kd.R_far (p := ⟨gb376, 6, none⟩) (Kd.R_far (p := ⟨gb376, 5, none⟩) (Kd.R_far (p := ⟨gb376, 4, none⟩) (Kd.R_far (p := ⟨gb376, 3, none⟩) (Kd.R_far (p := ⟨gb376, 2, none⟩) (Kd.R_far (p := ⟨gb376, 1, none⟩) (Kd.R_far (p := ⟨gb376, 0, none⟩) (Kd.R_types HO372.out BK376.out (by decide)) (fun _ hk => hk.2) (.int .u8 t361)) (fun _ hk => hk.2) (.int .u16 t362)) (fun _ hk => hk.2) (.bool t363)) (fun _ hk => hk.2) (.bool t364)) (fun _ hk => hk.2) (.int .i64 t365)) (fun _ hk => hk.2) (.int .u8 t366)) (fun _ hk => hk.2) (.int .u8 t367)) (fun _ hk => hk.2) (.int .u32 t368)) (fun _ hk => hk.2) (.int .u32 t369)) (fun _ hk => hk.2) (.slice Ao15 t370.length co15)) (fun _ h_ => h_.1))) hb); have n1_ := zam (blk_below (g := gb360) (o := .cells #[.int .u8 0, .int .u16 0, .bool false, .bool false, .int .i64 0, .int .u8 0, .int .u8 0, .int .u32 0, .int .u32 0, .slice none 0 0, .slice none 0 0] 43 (0, 0)) zqxb9_1 hb); have n2_ := zam (blk_below (g := gb376) (o := .cells #[.int .u8 t361, .int .u16 t362, .bool t363, .bool t364, .int .i64 t365, .int .u8 t366, .int .u8 t367, .int .u32 t368, .int .u32 t369, .slice Ao15 t370.length co15] 41 (0, 0)) zqxb9_0 hb); have n3_ := zam (below_step zqxb9_13 hb); have n4_ := zam (hbox); have n5_ := zam ((by rw [hg]; exact (below_size zqxb9_13) : w.heap.size ≤ gb377)); have n6_ := zam ((by rw [hg]; exact (below_size zqxb9_13) : w.heap.size ≤ gb377)); have n7_ := zam ((by rw [hg]; exact Nat.ne_of_lt (blk_lt (g := gb360) (o := .cells #[.int .u8 0, .int .u16 0, .bool false, .bool false, .int .i64 0, .int .u8 0, .int .u8 0, .int .u32 0, .int .u32 0, .slice none 0 0, .slice none 0 0] 43 (0, 0)) zqxb9_1) : gb360 ≠ gb377)); have n8_ := zam ((by rw [hg]; exact Nat.ne_of_gt (blk_lt (g := gb360) (o := .cells #[.int .u8 0, .int .u16 0, .bool false, .bool false, .int .i64 0, .int .u8 0, .int .u8 0, .int .u32 0, .int .u32 0, .slice none 0 0, .slice none 0 0] 43 (0, 0)) zqxb9_1) : gb377 ≠ gb360)); have n9_ := zam ((by rw [hg]; exact Nat.ne_of_lt (blk_lt (g := gb376) (o := .cells #[.int .u8 t361, .int .u16 t362, .bool t363, .bool t364, .int .i64 t365, .int .u8 t366, .int .u8 t367, .int .u32 t368, .int .u32 t369, .slice Ao15 t370.length co15] 41 (0, 0)) zqxb9_0) : gb376 ≠ gb377)); have n10_ := zam ((by rw [hg]; exact Nat.ne_of_gt (blk_lt (g := gb376) (o := .cells #[.int .u8 t361, .int .u16 t362, .bool t363, .bool t364, .int .i64 t365, .int .u8 t366, .int .u8 t367, .int .u32 t368, .int .u32 t369, .slice Ao15 t370.length co15] 41 (0, 0)) zqxb9_0) : gb377 ≠ gb376)); clear HO372; clear BK360; clear BK376; clear HB; have HO372 := n0_; have BK360 := n1_; have BK376 := n2_; have HB := n3_; have BK377 := n4_; have GW377 := n5_; have GE377 := n6_; have NB360_377 := n7_; have NB377_360 := n8_; have NB376_377 := n9_; have NB377_376 := n10_; clear n0_ n1_ n2_ n3_ n4_ n5_ n6_ n7_ n8_ n9_ n10_; clear hb hbox hg; have hnb17 := NB377_360.out; have hnc17 := NB360_377.out; have hnb18 := NB377_376.out; have hnc18 := NB376_377.out; have hcz19_0 : w16.cell? ⟨gb377, 0, none⟩ = some (.int .u8 0) := (zbc BK377.out 0).trans rfl; have hcz19_1 : w16.cell? ⟨gb377, 1, none⟩ = some (.int .u16 0) := (zbc BK377.out 1).trans rfl; have hcz19_2 : w16.cell? ⟨gb377, 2, none⟩ = some (.bool false) := (zbc BK377.out 2).trans rfl; have hcz19_3 : w16.cell? ⟨gb377, 3, none⟩ = some (.bool false) := (zbc BK377.out 3).trans rfl; have hcz19_4 : w16.cell? ⟨gb377, 4, none⟩ = some (.int .i64 0) := (zbc BK377.out 4).trans rfl; have hcz19_5 : w16.cell? ⟨gb377, 5, none⟩ = some (.int .u8 0) := (zbc BK377.out 5).trans rfl; have hcz19_6 : w16.cell? ⟨gb377, 6, none⟩ = some (.int .u8 0) := (zbc BK377.out 6).trans rfl; have hcz19_7 : w16.cell? ⟨gb377, 7, none⟩ = some (.int .u32 0) := (zbc BK377.out 7).trans rfl; have hcz19_8 : w16.cell? ⟨gb377, 8, none⟩ = some (.int .u32 0) := (zbc BK377.out 8).trans rfl; have hcz19_9 : w16.cell? ⟨gb377, 9, none⟩ = some (.slice none 0 0) := (zbc BK377.out 9).trans rfl; have hcz19_10 : w16.cell? ⟨gb377, 10, none⟩ = some (.slice none 0 0) := (zbc BK377.out 10).trans rfl; have hfz19_0 := zbf BK377.out 0; have hfz19_1 := zbf BK377.out 1; have hfz19_2 := zbf BK377.out 2; have hfz19_3 := zbf BK377.out 3; have hfz19_4 := zbf BK377.out 4; have hfz19_5 := zbf BK377.out 5; have hfz19_6 := zbf BK377.out 6; have hfz19_7 := zbf BK377.out 7; have hfz19_8 := zbf BK377.out 8; have hfz19_9 := zbf BK377.out 9; have hfz19_10 := zbf BK377.out 10))
       have n0_ : Aside0 (Kd.R (Kd.int .u8) 5 (((((((((((w16.setCell ⟨gb377, 0, none⟩ (.int .u8 t361)).setCell ⟨gb377, 1, none⟩ (.int .u16 t362)).setCell ⟨gb377, 2, none⟩ (.bool t363)).setCell ⟨gb377, 3, none⟩ (.bool t364)).setCell ⟨gb377, 4, none⟩ (.int .i64 t365)).setCell ⟨gb377, 5, none⟩ (.int .u8 t366)).setCell ⟨gb377, 6, none⟩ (.int .u8 t367)).setCell ⟨gb377, 7, none⟩ (.int .u32 t368)).setCell ⟨gb377, 8, none⟩ (.int .u32 t369)).setCell ⟨gb377, 9, none⟩ (.slice Ao15 t370.length co15)).setCell ⟨gb377, 10, none⟩ (.slice none 0 0)) w.heap.size (fun k_ => (w.heap.size ≤ k_)) (.slice Ao15 t370.length co15) t370) := ⟨by (with_reducible repeat (first | apply Kd.R_alloc | apply Kd.R_drewN | apply Kd.R_drew)); exact Kd.R_mono (Kd.R_far (p := ⟨gb377, 10, none⟩) (Kd.R_far (p := ⟨gb377, 9, none⟩) (Kd.R_far (p := ⟨gb377, 8, none⟩) (Kd.R_far (p := ⟨gb377, 7, none⟩) (Kd.R_far (p := ⟨gb377, 6, none⟩) (Kd.R_far (p := ⟨gb377, 5, none⟩) (Kd.R_far (p := ⟨gb377, 4, none⟩) (Kd.R_far (p := ⟨gb377, 3, none⟩) (Kd.R_far (p := ⟨gb377, 2, none⟩) (Kd.R_far (p := ⟨gb377, 1, none⟩) (Kd.R_far (p := ⟨gb377, 0, none⟩) (Kd.R_types HO372.out BK377.out (by decide)) (fun _ hk => hk.2) (.int .u8 t361)) (fun _ hk => hk.2) (.int .u16 t362)) (fun _ hk => hk.2) (.bool t363)) (fun _ hk => hk.2) (.bool t364)) (fun _ hk => hk.2) (.int .i64 t365)) (fun _ hk => hk.2) (.int .u8 t366)) (fun _ hk => hk.2) (.int .u8 t367)) (fun _ hk => hk.2) (.int .u32 t368)) (fun _ hk => hk.2) (.int .u32 t369)) (fun _ hk => hk.2) (.slice Ao15 t370.length co15)) (fun _ hk => hk.2) (.slice none 0 0)) (fun _ hk => hk.1.1)⟩
       have n1_ : Aside0 ((((((((((((w16.setCell ⟨gb377, 0, none⟩ (.int .u8 t361)).setCell ⟨gb377, 1, none⟩ (.int .u16 t362)).setCell ⟨gb377, 2, none⟩ (.bool t363)).setCell ⟨gb377, 3, none⟩ (.bool t364)).setCell ⟨gb377, 4, none⟩ (.int .i64 t365)).setCell ⟨gb377, 5, none⟩ (.int .u8 t366)).setCell ⟨gb377, 6, none⟩ (.int .u8 t367)).setCell ⟨gb377, 7, none⟩ (.int .u32 t368)).setCell ⟨gb377, 8, none⟩ (.int .u32 t369)).setCell ⟨gb377, 9, none⟩ (.slice Ao15 t370.length co15)).setCell ⟨gb377, 10, none⟩ (.slice none 0 0)).heap[gb360]? = some (.cells #[.int .u8 0, .int .u16 0, .bool false, .bool false, .int .i64 0, .int .u8 0, .int .u8 0, .int .u32 0, .int .u32 0, .slice none 0 0, .slice none 0 0] 43 (0, 0))) := ⟨by (with_reducible repeat (first | refine zdn ?_ _ | refine zdr ?_ | refine blk_alloc ?_ _)); refine blk_far ?_ NB360_377.out _; (with_reducible repeat (first | refine zdn ?_ _ | refine zdr ?_ | refine blk_alloc ?_ _)); refine blk_far ?_ NB360_377.out _; (with_reducible repeat (first | refine zdn ?_ _ | refine zdr ?_ | refine blk_alloc ?_ _)); refine blk_far ?_ NB360_377.out _; (with_reducible repeat (first | refine zdn ?_ _ | refine zdr ?_ | refine blk_alloc ?_ _)); refine blk_far ?_ NB360_377.out _; (with_reducible repeat (first | refine zdn ?_ _ | refine zdr ?_ | refine blk_alloc ?_ _)); refine blk_far ?_ NB360_377.out _; (with_reducible repeat (first | refine zdn ?_ _ | refine zdr ?_ | refine blk_alloc ?_ _)); refine blk_far ?_ NB360_377.out _; (with_reducible repeat (first | refine zdn ?_ _ | refine zdr ?_ | refine blk_alloc ?_ _)); refine blk_far ?_ NB360_377.out _; (with_reducible repeat (first | refine zdn ?_ _ | refine zdr ?_ | refine blk_alloc ?_ _)); refine blk_far ?_ NB360_377.out _; (with_reducible repeat (first | refine zdn ?_ _ | refine zdr ?_ | refine blk_alloc ?_ _)); refine blk_far ?_ NB360_377.out _; (with_reducible repeat (first | refine zdn ?_ _ | refine zdr ?_ | refine blk_alloc ?_ _)); refine blk_far ?_ NB360_377.out _; (with_reducible repeat (first | refine zdn ?_ _ | refine zdr ?_ | refine blk_alloc ?_ _)); refine blk_far ?_ NB360_377.out _; first | (with_reducible exact BK360.out) | (with_reducible exact zdn BK360.out _) | (with_reducible exact zdr BK360.out) | ((with_reducible repeat (first | refine zdn ?_ _ | refine zdr ?_ | refine blk_alloc ?_ _)); exact BK360.out)⟩
       have n2_ : Aside0 ((((((((((((w16.setCell ⟨gb377, 0, none⟩ (.int .u8 t361)).setCell ⟨gb377, 1, none⟩ (.int .u16 t362)).setCell ⟨gb377, 2, none⟩ (.bool t363)).setCell ⟨gb377, 3, none⟩ (.bool t364)).setCell ⟨gb377, 4, none⟩ (.int .i64 t365)).setCell ⟨gb377, 5, none⟩ (.int .u8 t366)).setCell ⟨gb377, 6, none⟩ (.int .u8 t367)).setCell ⟨gb377, 7, none⟩ (.int .u32 t368)).setCell ⟨gb377, 8, none⟩ (.int .u32 t369)).setCell ⟨gb377, 9, none⟩ (.slice Ao15 t370.length co15)).setCell ⟨gb377, 10, none⟩ (.slice none 0 0)).heap[gb376]? = some (.cells #[.int .u8 t361, .int .u16 t362, .bool t363, .bool t364, .int .i64 t365, .int .u8 t366, .int .u8 t367, .int .u32 t368, .int .u32 t369, .slice Ao15 t370.length co15] 41 (0, 0))) := ⟨by (with_reducible repeat (first | refine zdn ?_ _ | refine zdr ?_ | refine blk_alloc ?_ _)); refine blk_far ?_ NB376_377.out _; (with_reducible repeat (first | refine zdn ?_ _ | refine zdr ?_ | refine blk_alloc ?_ _)); refine blk_far ?_ NB376_377.out _; (with_reducible repeat (first | refine zdn ?_ _ | refine zdr ?_ | refine blk_alloc ?_ _)); refine blk_far ?_ NB376_377.out _; (with_reducible repeat (first | refine zdn ?_ _ | refine zdr ?_ | refine blk_alloc ?_ _)); refine blk_far ?_ NB376_377.out _; (with_reducible repeat (first | refine zdn ?_ _ | refine zdr ?_ | refine blk_alloc ?_ _)); refine blk_far ?_ NB376_377.out _; (with_reducible repeat (first | refine zdn ?_ _ | refine zdr ?_ | refine blk_alloc ?_ _)); refine blk_far ?_ NB376_377.out _; (with_reducible repeat (first | refine zdn ?_ _ | refine zdr ?_ | refine blk_alloc ?_ _)); refine blk_far ?_ NB376_377.out _; (with_reducible repeat (first | refine zdn ?_ _ | refine zdr ?_ | refine blk_alloc ?_ _)); refine blk_far ?_ NB376_377.out _; (with_reducible repeat (first | refine zdn ?_ _ | refine zdr ?_ | refine blk_alloc ?_ _)); refine blk_far ?_ NB376_377.out _; (with_reducible repeat (first | refine zdn ?_ _ | refine zdr ?_ | refine blk_alloc ?_ _)); refine blk_far ?_ NB376_377.out _; (with_reducible repeat (first | refine zdn ?_ _ | refine zdr ?_ | refine blk_alloc ?_ _)); refine blk_far ?_ NB376_377.out _; first | (with_reducible exact BK376.out) | (with_reducible exact zdn BK376.out _) | (with_reducible exact zdr BK376.out) | ((with_reducible repeat (first | refine zdn ?_ _ | refine zdr ?_ | refine blk_alloc ?_ _)); exact BK376.out)⟩
       have n3_ : Aside0 ((((((((((((w16.setCell ⟨gb377, 0, none⟩ (.int .u8 t361)).setCell ⟨gb377, 1, none⟩ (.int .u16 t362)).setCell ⟨gb377, 2, none⟩ (.bool t363)).setCell ⟨gb377, 3, none⟩ (.bool t364)).setCell ⟨gb377, 4, none⟩ (.int .i64 t365)).setCell ⟨gb377, 5, none⟩ (.int .u8 t366)).setCell ⟨gb377, 6, none⟩ (.int .u8 t367)).setCell ⟨gb377, 7, none⟩ (.int .u32 t368)).setCell ⟨gb377, 8, none⟩ (.int .u32 t369)).setCell ⟨gb377, 9, none⟩ (.slice Ao15 t370.length co15)).setCell ⟨gb377, 10, none⟩ (.slice none 0 0)).heap[gb377]? = some (.cells #[.int .u8 t361, .int .u16 t362, .bool t363, .bool t364, .int .i64 t365, .int .u8 t366, .int .u8 t367, .int .u32 t368, .int .u32 t369, .slice Ao15 t370.length co15, .slice none 0 0] 43 (0, 0))) := ⟨by (with_reducible repeat (first | refine zdn ?_ _ | refine zdr ?_ | refine blk_alloc ?_ _)); refine blk_put (cs := #[.int .u8 t361, .int .u16 t362, .bool t363, .bool t364, .int .i64 t365, .int .u8 t366, .int .u8 t367, .int .u32 t368, .int .u32 t369, .slice Ao15 t370.length co15, .slice none 0 0]) ?_ 10 _ rfl; (with_reducible repeat (first | refine zdn ?_ _ | refine zdr ?_ | refine blk_alloc ?_ _)); refine blk_put (cs := #[.int .u8 t361, .int .u16 t362, .bool t363, .bool t364, .int .i64 t365, .int .u8 t366, .int .u8 t367, .int .u32 t368, .int .u32 t369, .slice none 0 0, .slice none 0 0]) ?_ 9 _ rfl; (with_reducible repeat (first | refine zdn ?_ _ | refine zdr ?_ | refine blk_alloc ?_ _)); refine blk_put (cs := #[.int .u8 t361, .int .u16 t362, .bool t363, .bool t364, .int .i64 t365, .int .u8 t366, .int .u8 t367, .int .u32 t368, .int .u32 0, .slice none 0 0, .slice none 0 0]) ?_ 8 _ rfl; (with_reducible repeat (first | refine zdn ?_ _ | refine zdr ?_ | refine blk_alloc ?_ _)); refine blk_put (cs := #[.int .u8 t361, .int .u16 t362, .bool t363, .bool t364, .int .i64 t365, .int .u8 t366, .int .u8 t367, .int .u32 0, .int .u32 0, .slice none 0 0, .slice none 0 0]) ?_ 7 _ rfl; (with_reducible repeat (first | refine zdn ?_ _ | refine zdr ?_ | refine blk_alloc ?_ _)); refine blk_put (cs := #[.int .u8 t361, .int .u16 t362, .bool t363, .bool t364, .int .i64 t365, .int .u8 t366, .int .u8 0, .int .u32 0, .int .u32 0, .slice none 0 0, .slice none 0 0]) ?_ 6 _ rfl; (with_reducible repeat (first | refine zdn ?_ _ | refine zdr ?_ | refine blk_alloc ?_ _)); refine blk_put (cs := #[.int .u8 t361, .int .u16 t362, .bool t363, .bool t364, .int .i64 t365, .int .u8 0, .int .u8 0, .int .u32 0, .int .u32 0, .slice none 0 0, .slice none 0 0]) ?_ 5 _ rfl; (with_reducible repeat (first | refine zdn ?_ _ | refine zdr ?_ | refine blk_alloc ?_ _)); refine blk_put (cs := #[.int .u8 t361, .int .u16 t362, .bool t363, .bool t364, .int .i64 0, .int .u8 0, .int .u8 0, .int .u32 0, .int .u32 0, .slice none 0 0, .slice none 0 0]) ?_ 4 _ rfl; (with_reducible repeat (first | refine zdn ?_ _ | refine zdr ?_ | refine blk_alloc ?_ _)); refine blk_put (cs := #[.int .u8 t361, .int .u16 t362, .bool t363, .bool false, .int .i64 0, .int .u8 0, .int .u8 0, .int .u32 0, .int .u32 0, .slice none 0 0, .slice none 0 0]) ?_ 3 _ rfl; (with_reducible repeat (first | refine zdn ?_ _ | refine zdr ?_ | refine blk_alloc ?_ _)); refine blk_put (cs := #[.int .u8 t361, .int .u16 t362, .bool false, .bool false, .int .i64 0, .int .u8 0, .int .u8 0, .int .u32 0, .int .u32 0, .slice none 0 0, .slice none 0 0]) ?_ 2 _ rfl; (with_reducible repeat (first | refine zdn ?_ _ | refine zdr ?_ | refine blk_alloc ?_ _)); refine blk_put (cs := #[.int .u8 t361, .int .u16 0, .bool false, .bool false, .int .i64 0, .int .u8 0, .int .u8 0, .int .u32 0, .int .u32 0, .slice none 0 0, .slice none 0 0]) ?_ 1 _ rfl; (with_reducible repeat (first | refine zdn ?_ _ | refine zdr ?_ | refine blk_alloc ?_ _)); refine blk_put (cs := #[.int .u8 0, .int .u16 0, .bool false, .bool false, .int .i64 0, .int .u8 0, .int .u8 0, .int .u32 0, .int .u32 0, .slice none 0 0, .slice none 0 0]) ?_ 0 _ rfl; first | (with_reducible exact BK377.out) | (with_reducible exact zdn BK377.out _) | (with_reducible exact zdr BK377.out) | ((with_reducible repeat (first | refine zdn ?_ _ | refine zdr ?_ | refine blk_alloc ?_ _)); exact BK377.out)⟩
       have n4_ : Aside0 (Below w.heap.size w (((((((((((w16.setCell ⟨gb377, 0, none⟩ (.int .u8 t361)).setCell ⟨gb377, 1, none⟩ (.int .u16 t362)).setCell ⟨gb377, 2, none⟩ (.bool t363)).setCell ⟨gb377, 3, none⟩ (.bool t364)).setCell ⟨gb377, 4, none⟩ (.int .i64 t365)).setCell ⟨gb377, 5, none⟩ (.int .u8 t366)).setCell ⟨gb377, 6, none⟩ (.int .u8 t367)).setCell ⟨gb377, 7, none⟩ (.int .u32 t368)).setCell ⟨gb377, 8, none⟩ (.int .u32 t369)).setCell ⟨gb377, 9, none⟩ (.slice Ao15 t370.length co15)).setCell ⟨gb377, 10, none⟩ (.slice none 0 0))) := ⟨by repeat (first | (with_reducible first | exact HB.out | apply below_alloc | apply pw_below_drewN | apply below_drew1 | refine below_set ?_ GE360.out | refine below_set ?_ GE376.out | refine below_set ?_ GE377.out) | exact HB.out)⟩
       (try clear HO372)
       (try clear BK360)
       (try clear BK376)
       (try clear BK377)
       (try clear HB)
       generalize (((((((((((w16.setCell ⟨gb377, 0, none⟩ (.int .u8 t361)).setCell ⟨gb377, 1, none⟩ (.int .u16 t362)).setCell ⟨gb377, 2, none⟩ (.bool t363)).setCell ⟨gb377, 3, none⟩ (.bool t364)).setCell ⟨gb377, 4, none⟩ (.int .i64 t365)).setCell ⟨gb377, 5, none⟩ (.int .u8 t366)).setCell ⟨gb377, 6, none⟩ (.int .u8 t367)).setCell ⟨gb377, 7, none⟩ (.int .u32 t368)).setCell ⟨gb377, 8, none⟩ (.int .u32 t369)).setCell ⟨gb377, 9, none⟩ (.slice Ao15 t370.length co15)).setCell ⟨gb377, 10, none⟩ (.slice none 0 0)) = w20 at n0_ n1_ n2_ n3_ n4_ ⊢
       have HO372 := n0_
       have BK360 := n1_
       have BK376 := n2_
       have BK377 := n3_
       have HB := n4_
       clear n0_ n1_ n2_ n3_ n4_
       have n0_ := zam (Kd.R_drew HO372.out)
       have n1_ := zam (zdr BK360.out)
       have n2_ := zam (zdr BK376.out)
       have n3_ := zam (zdr BK377.out)
       have n4_ := zam (below_drew1 HB.out)
       clear HO372
       clear BK360
       clear BK376
       clear BK377
       clear HB
       have HO372 := n0_
       have BK360 := n1_
       have BK376 := n2_
       have BK377 := n3_
       have HB := n4_
       clear n0_ n1_ n2_ n3_ n4_
       obtain ⟨i022, hi022, _, hsz22, _⟩ := info_parts info5
       obtain ⟨A22, hcut22, hA22, hC22⟩ := print_mid_of (P := Try.prog) (Value.int .u8) 0 24 5 .i64 .i64 Try.underlying24 hi022 hsz22 A0 c0 l0 20 t373 (by omega) (by first | omega | exact zod zqxb9_14) (zod zqxb9_14) HC0.out
       have HR378 := zam (Kd.C_of_reads (h1 := fun _ => rfl) (hA22 _ (Kd.reads_of_C HR0.out)))
       have HC378 := zam hC22
       clear hA22 hC22 hi022 hsz22
       obtain ⟨i023, hi023, _, hsz23, _⟩ := info_parts info5
       obtain ⟨A23, hcut23, hA23, hC23⟩ := print_mid_of (P := Try.prog) (Value.int .u8) 0 24 5 .i64 .i64 Try.underlying24 hi023 hsz23 A0 c0 l0 t373 t374 (zod zqxb9_14) (by first | omega | exact zod zqxb9_14) (zod zqxb9_14) HC0.out
       have HR379 := zam (Kd.C_of_reads (h1 := fun _ => rfl) (hA23 _ (Kd.reads_of_C HR0.out)))
       have HC379 := zam hC23
       clear hA23 hC23 hi023 hsz23
       refine start_ (n := 16) (S := fun w' => True) (ds := []) #[false, false, false, false, false, false, false, false, false, false, false, false, false, false, false, false] (by kernel_rfl) rfl rfl trivial (fun hHeld => ?_); refine with_tabW ip4_Parse.tab5 ip4_Parse.bits5 (fun HT_ HW_ => ?_)
       generalize w20.drew = w21 at HO372 BK360 BK376 BK377 HB HR378 HR379 hHeld ⊢
       refine pure_ (i := 0) (N := some 23) (v := ?_) (a' := ?_) #[true, false, false, false, false, false, false, false, false, false, false, false, false, false, false, false] rfl rfl (any_of HT_.out (by kernel_rfl)) (fun _ _ _ h => h) (Or.inl ⟨by rfl, ?_⟩) ?_ ?_
       rotate_left
       ·
        intro w'
        go_simp
        with_reducible rfl
       rotate_left
       ·
        simp only [Act.put, List.setIfInBounds_toArray, List.set_cons_zero, List.set_cons_succ, i64_w, i32_w, IntKind.wrap_u8, IntKind.wrap_u32]
        rfl
       refine pure_ (i := 1) (N := some 24) (v := ?_) (a' := ?_) #[true, true, false, false, false, false, false, false, false, false, false, false, false, false, false, false] rfl rfl (any_of HT_.out (by kernel_rfl)) (fun _ _ _ h => h) (Or.inl ⟨by rfl, ?_⟩) ?_ ?_
       rotate_left
       ·
        intro w'
        go_simp
        with_reducible rfl
       rotate_left
       ·
        simp only [Act.put, List.setIfInBounds_toArray, List.set_cons_zero, List.set_cons_succ, i64_w, i32_w, IntKind.wrap_u8, IntKind.wrap_u32]
        rfl
       refine pure_ (i := 2) (N := some 25) (v := ?_) (a' := ?_) #[true, true, true, false, false, false, false, false, false, false, false, false, false, false, false, false] rfl rfl (any_of HT_.out (by kernel_rfl)) (fun _ _ _ h => h) (Or.inl ⟨by rfl, ?_⟩) ?_ ?_
       rotate_left
       ·
        intro w'
        go_simp
        with_reducible rfl
       rotate_left
       ·
        simp only [Act.put, List.setIfInBounds_toArray, List.set_cons_zero, List.set_cons_succ, i64_w, i32_w, IntKind.wrap_u8, IntKind.wrap_u32]
        rfl
       refine pure_ (i := 3) (N := some 26) (v := ?_) (a' := ?_) #[true, true, true, true, false, false, false, false, false, false, false, false, false, false, false, false] rfl rfl (any_of HT_.out (by kernel_rfl)) (fun _ _ _ h => h) (Or.inl ⟨by rfl, ?_⟩) ?_ ?_
       rotate_left
       ·
        intro w'
        go_simp
        with_reducible rfl
       rotate_left
       ·
        simp only [Act.put, List.setIfInBounds_toArray, List.set_cons_zero, List.set_cons_succ, i64_w, i32_w, IntKind.wrap_u8, IntKind.wrap_u32]
        rfl
       refine pure_ (i := 4) (N := some 27) (v := ?_) (a' := ?_) #[true, true, true, true, true, false, false, false, false, false, false, false, false, false, false, false] rfl rfl (any_of HT_.out (by kernel_rfl)) (fun _ _ _ h => h) (Or.inl ⟨by rfl, ?_⟩) ?_ ?_
       rotate_left
       ·
        intro w'
        go_simp
        with_reducible rfl
       rotate_left
       ·
        simp only [Act.put, List.setIfInBounds_toArray, List.set_cons_zero, List.set_cons_succ, i64_w, i32_w, IntKind.wrap_u8, IntKind.wrap_u32]
        rfl
       refine pure_ (i := 5) (N := some 28) (v := ?_) (a' := ?_) #[true, true, true, true, true, true, false, false, false, false, false, false, false, false, false, false] rfl rfl (any_of HT_.out (by kernel_rfl)) (fun _ _ _ h => h) (Or.inl ⟨by rfl, ?_⟩) ?_ ?_
       rotate_left
       ·
        intro w'
        go_simp
        with_reducible rfl
       rotate_left
       ·
        simp only [Act.put, List.setIfInBounds_toArray, List.set_cons_zero, List.set_cons_succ, i64_w, i32_w, IntKind.wrap_u8, IntKind.wrap_u32]
        rfl
       refine pure_ (i := 6) (N := some 29) (v := ?_) (a' := ?_) #[true, true, true, true, true, true, true, false, false, false, false, false, false, false, false, false] rfl rfl (any_of HT_.out (by kernel_rfl)) (fun _ _ _ h => h) (Or.inl ⟨by rfl, ?_⟩) ?_ ?_
       rotate_left
       ·
        intro w'
        go_simp
        with_reducible rfl
       rotate_left
       ·
        simp only [Act.put, List.setIfInBounds_toArray, List.set_cons_zero, List.set_cons_succ, i64_w, i32_w, IntKind.wrap_u8, IntKind.wrap_u32]
        rfl
       refine one_ (i := 7) (N := some 30) #[true, true, true, true, true, true, true, true, false, false, false, false, false, false, false, false] rfl rfl (one_of HT_.out (by kernel_rfl)) (by decide) (fun K hK => ?_)
       refine goes_ Try.func66 (by kernel_rfl) rfl #[.slice A22 ((l0.take (t373 : Int).toNat).drop 20).length (c0 - 20), .slice A23 ((l0.take (t374 : Int).toNat).drop (t373 : Int).toNat).length (c0 - t373.toNat)] (by rfl) rfl rfl (by (try simp only [List.map_toArray, List.map_cons, List.map_nil]); first | done | (rw [show ((l0.take (t373 : Int).toNat).drop 20).length = (t373.toNat - 20) from zqxb9_19, show ((l0.take (t374 : Int).toNat).drop (t373 : Int).toNat).length = (t374.toNat - t373.toNat) from zqxb9_20] <;> rfl) | (rw [show ((l0.take (t373 : Int).toNat).drop 20).length = (t373.toNat - 20) from zqxb9_19] <;> rfl) | (rw [show ((l0.take (t374 : Int).toNat).drop (t373 : Int).toNat).length = (t374.toNat - t373.toNat) from zqxb9_20] <;> rfl) | rfl | (simp only [List.length_drop, List.length_take]; rfl)) ?_
       with_reducible refine (ip4_apart.calls _ _ ((l0.take (t373 : Int).toNat).drop 20) _ _ ((l0.take (t374 : Int).toNat).drop (t373 : Int).toNat) t380 t383 _ ?side1 ?side2 ?side3 ?side4 A9.out).mono ?_
       (case side1 => repeat (first | exact (Kd.C_below HR378.out HB.out) | (with_reducible refine Kd.C_alloc ?_ _) | (with_reducible refine Kd.C_drewN ?_ _) | (with_reducible refine Kd.C_drew ?_)))
       (case side2 => exact HC378.out)
       (case side3 => repeat (first | exact (Kd.C_below HR379.out HB.out) | (with_reducible refine Kd.C_alloc ?_ _) | (with_reducible refine Kd.C_drewN ?_ _) | (with_reducible refine Kd.C_drew ?_)))
       (case side4 => exact HC379.out)
       rintro e w24 ⟨v381, v384, rfl, ho0, ho1, hb⟩
       refine ⟨_, rfl, ?_⟩
       have n0_ := zam (Kd.R_below zqxb9_12 hb)
       have n1_ := zam (Kd.V_lower (Kd.V_mono (ok' := fun k_ => (w.heap.size ≤ k_) ∧ some k_ ≠ (.slice Ao15 t370.length co15 : Value).ownBlock ∧ k_ ≠ gb360 ∧ k_ ≠ gb376 ∧ k_ ≠ gb377) ho0 (fun k_ hk_ => ⟨(Nat.le_trans (below_size zqxb9_6) hk_), (Kd.fresh' (Kd.R_lt zqxb9_12) k_ hk_), (Kd.freshB (g := gb360) (o := .cells #[.int .u8 0, .int .u16 0, .bool false, .bool false, .int .i64 0, .int .u8 0, .int .u8 0, .int .u32 0, .int .u32 0, .slice none 0 0, .slice none 0 0] 43 (0, 0)) zqxb9_2 k_ hk_), (Kd.freshB (g := gb376) (o := .cells #[.int .u8 t361, .int .u16 t362, .bool t363, .bool t364, .int .i64 t365, .int .u8 t366, .int .u8 t367, .int .u32 t368, .int .u32 t369, .slice Ao15 t370.length co15] 41 (0, 0)) zqxb9_8 k_ hk_), (Kd.freshB (g := gb377) (o := .cells #[.int .u8 t361, .int .u16 t362, .bool t363, .bool t364, .int .i64 t365, .int .u8 t366, .int .u8 t367, .int .u32 t368, .int .u32 t369, .slice Ao15 t370.length co15, .slice none 0 0] 43 (0, 0)) zqxb9_9 k_ hk_)⟩)) (below_size zqxb9_6))
       have n2_ := zam (Kd.V_lower (Kd.V_mono (ok' := fun k_ => (w.heap.size ≤ k_) ∧ some k_ ≠ (.slice Ao15 t370.length co15 : Value).ownBlock ∧ k_ ≠ gb360 ∧ k_ ≠ gb376 ∧ k_ ≠ gb377) ho1 (fun k_ hk_ => ⟨(Nat.le_trans (below_size zqxb9_6) hk_), (Kd.fresh' (Kd.R_lt zqxb9_12) k_ hk_), (Kd.freshB (g := gb360) (o := .cells #[.int .u8 0, .int .u16 0, .bool false, .bool false, .int .i64 0, .int .u8 0, .int .u8 0, .int .u32 0, .int .u32 0, .slice none 0 0, .slice none 0 0] 43 (0, 0)) zqxb9_2 k_ hk_), (Kd.freshB (g := gb376) (o := .cells #[.int .u8 t361, .int .u16 t362, .bool t363, .bool t364, .int .i64 t365, .int .u8 t366, .int .u8 t367, .int .u32 t368, .int .u32 t369, .slice Ao15 t370.length co15] 41 (0, 0)) zqxb9_8 k_ hk_), (Kd.freshB (g := gb377) (o := .cells #[.int .u8 t361, .int .u16 t362, .bool t363, .bool t364, .int .i64 t365, .int .u8 t366, .int .u8 t367, .int .u32 t368, .int .u32 t369, .slice Ao15 t370.length co15, .slice none 0 0] 43 (0, 0)) zqxb9_9 k_ hk_)⟩)) (below_size zqxb9_6))
       have n3_ := zam (blk_below (g := gb360) (o := .cells #[.int .u8 0, .int .u16 0, .bool false, .bool false, .int .i64 0, .int .u8 0, .int .u8 0, .int .u32 0, .int .u32 0, .slice none 0 0, .slice none 0 0] 43 (0, 0)) zqxb9_2 hb)
       have n4_ := zam (blk_below (g := gb376) (o := .cells #[.int .u8 t361, .int .u16 t362, .bool t363, .bool t364, .int .i64 t365, .int .u8 t366, .int .u8 t367, .int .u32 t368, .int .u32 t369, .slice Ao15 t370.length co15] 41 (0, 0)) zqxb9_8 hb)
       have n5_ := zam (blk_below (g := gb377) (o := .cells #[.int .u8 t361, .int .u16 t362, .bool t363, .bool t364, .int .i64 t365, .int .u8 t366, .int .u8 t367, .int .u32 t368, .int .u32 t369, .slice Ao15 t370.length co15, .slice none 0 0] 43 (0, 0)) zqxb9_9 hb)
       have n6_ := zam (below_step zqxb9_6 hb)
       clear HO372
       clear BK360
       clear BK376
       clear BK377
       clear HB
       have HO372 := n0_
       have HO382 := n1_
       have HO385 := n2_
       have BK360 := n3_
       have BK376 := n4_
       have BK377 := n5_
       have HB := n6_
       clear n0_ n1_ n2_ n3_ n4_ n5_ n6_
       (try clear hb)
       (try clear hb2)
       (try clear hk)
       (try clear hi)
       (try clear ho0)
       (try clear ho1)
       obtain ⟨Ao25, co25, eo25⟩ := Kd.V_slice HO382.out
       (first | subst eo25 | (injection eo25 with f1_ f2_ f3_; have f4_ := f1_.symm; have f5_ := f3_.symm; clear f1_ f2_ f3_; subst f4_; subst f5_))
       obtain ⟨Ao27, co27, eo27⟩ := Kd.V_slice HO385.out
       (first | subst eo27 | (injection eo27 with f1_ f2_ f3_; have f4_ := f1_.symm; have f5_ := f3_.symm; clear f1_ f2_ f3_; subst f4_; subst f5_))
       refine hK.out _ _ trivial (fun hHeld => ?_)
       clear hK K
       refine norm_ (a' := ?_) ?_ ?_
       rotate_left
       ·
        show Act.put _ (some 30) _ = _
        simp only [Act.put, List.setIfInBounds_toArray, List.set_cons_zero, List.set_cons_succ, i64_w, i32_w, IntKind.wrap_u8, IntKind.wrap_u32]
        rfl
       refine pure_ (i := 8) (N := some 22) (v := ?_) (a' := ?_) #[true, true, true, true, true, true, true, true, true, false, false, false, false, false, false, false] rfl rfl (any_of HT_.out (by kernel_rfl)) (fun _ _ _ h => h) (Or.inl ⟨by rfl, ?_⟩) ?_ ?_
       rotate_left
       ·
        intro w'
        go_simp
        with_reducible rfl
       rotate_left
       ·
        simp only [Act.put, List.setIfInBounds_toArray, List.set_cons_zero, List.set_cons_succ, i64_w, i32_w, IntKind.wrap_u8, IntKind.wrap_u32]
        rfl
       refine pure_ (i := 9) (N := some 31) (v := ?_) (a' := ?_) #[true, true, true, true, true, true, true, true, true, true, false, false, false, false, false, false] rfl rfl (any_of HT_.out (by kernel_rfl)) (fun _ _ _ h => h) (Or.inl ⟨by rfl, ?_⟩) ?_ ?_
       rotate_left
       ·
        intro w'
        go_simp
        with_reducible rfl
       rotate_left
       ·
        simp only [Act.put, List.setIfInBounds_toArray, List.set_cons_zero, List.set_cons_succ, i64_w, i32_w, IntKind.wrap_u8, IntKind.wrap_u32]
        rfl
       refine pure_ (i := 10) (N := some 32) (v := ?_) (a' := ?_) #[true, true, true, true, true, true, true, true, true, true, true, false, false, false, false, false] rfl rfl (any_of HT_.out (by kernel_rfl)) (fun _ _ _ h => h) (Or.inl ⟨by rfl, ?_⟩) ?_ ?_
       rotate_left
       ·
        intro w'
        go_simp
        with_reducible rfl
       rotate_left
       ·
        simp only [Act.put, List.setIfInBounds_toArray, List.set_cons_zero, List.set_cons_succ, i64_w, i32_w, IntKind.wrap_u8, IntKind.wrap_u32]
        rfl
       refine pure_ (i := 11) (N := some 33) (v := ?_) (a' := ?_) #[true, true, true, true, true, true, true, true, true, true, true, true, false, false, false, false] rfl rfl (any_of HT_.out (by kernel_rfl)) (fun _ _ _ h => h) (Or.inl ⟨by rfl, ?_⟩) ?_ ?_
       rotate_left
       ·
        intro w'
        go_simp
        with_reducible rfl
       rotate_left
       ·
        simp only [Act.put, List.setIfInBounds_toArray, List.set_cons_zero, List.set_cons_succ, i64_w, i32_w, IntKind.wrap_u8, IntKind.wrap_u32]
        rfl
       refine pure_ (i := 12) (N := some 34) (v := ?_) (a' := ?_) #[true, true, true, true, true, true, true, true, true, true, true, true, true, false, false, false] rfl rfl (any_of HT_.out (by kernel_rfl)) (fun _ _ _ h => h) (Or.inl ⟨by rfl, ?_⟩) ?_ ?_
       rotate_left
       ·
        intro w'
        go_simp
        with_reducible rfl
       rotate_left
       ·
        simp only [Act.put, List.setIfInBounds_toArray, List.set_cons_zero, List.set_cons_succ, i64_w, i32_w, IntKind.wrap_u8, IntKind.wrap_u32]
        rfl
       refine one_ (i := 13) (N := none) #[true, true, true, true, true, true, true, true, true, true, true, true, true, true, false, false] rfl rfl (one_of HT_.out (by kernel_rfl)) (by decide) (fun K hK => ?_)
       have hs26 : w24.cell? ⟨gb377, 9, none⟩ = some (.slice Ao15 t370.length co15) := (zbc BK377.out 9).trans rfl
       have hfs26 := zbf BK377.out 9
       have hns26_0 := NB360_377.out
       have hns26_1 := NB376_377.out
       have hms26_0 := NB377_360.out
       have hms26_1 := NB377_376.out
       refine skip_ (w1 := ?_) (by rfl) rfl ?_ ?_
       rotate_left
       ·
        go_simp
        rfl
       refine hK.out _ _ trivial (fun hHeld => ?_)
       clear hK K
       refine pure_ (i := 14) (N := some 35) (v := ?_) (a' := ?_) #[true, true, true, true, true, true, true, true, true, true, true, true, true, true, true, false] rfl rfl (any_of HT_.out (by kernel_rfl)) (fun _ _ _ h => h) (Or.inl ⟨by rfl, ?_⟩) ?_ ?_
       rotate_left
       ·
        intro w'
        go_simp
        with_reducible rfl
       rotate_left
       ·
        simp only [Act.put, List.setIfInBounds_toArray, List.set_cons_zero, List.set_cons_succ, i64_w, i32_w, IntKind.wrap_u8, IntKind.wrap_u32]
        rfl
       refine one_ (i := 15) (N := none) #[true, true, true, true, true, true, true, true, true, true, true, true, true, true, true, true] rfl rfl (one_of HT_.out (by kernel_rfl)) (by decide) (fun K hK => ?_)
       have hs28 : w24.cell? ⟨gb377, 10, none⟩ = some (.slice none 0 0) := (zbc BK377.out 10).trans rfl
       have hfs28 := zbf BK377.out 10
       have hns28_0 := NB360_377.out
       have hns28_1 := NB376_377.out
       have hms28_0 := NB377_360.out
       have hms28_1 := NB377_376.out
       refine skip_ (w1 := ?_) (by rfl) rfl ?_ ?_
       rotate_left
       ·
        go_simp
        rfl
       refine hK.out _ _ trivial (fun hHeld => ?_)
       clear hK K
       refine done_ (done_of HT_.out (by kernel_rfl)) ?_
       have hcz29_0 : w24.cell? ⟨gb377, 0, none⟩ = some (.int .u8 t361) := (zbc BK377.out 0).trans rfl
       have hcz29_1 : w24.cell? ⟨gb377, 1, none⟩ = some (.int .u16 t362) := (zbc BK377.out 1).trans rfl
       have hcz29_2 : w24.cell? ⟨gb377, 2, none⟩ = some (.bool t363) := (zbc BK377.out 2).trans rfl
       have hcz29_3 : w24.cell? ⟨gb377, 3, none⟩ = some (.bool t364) := (zbc BK377.out 3).trans rfl
       have hcz29_4 : w24.cell? ⟨gb377, 4, none⟩ = some (.int .i64 t365) := (zbc BK377.out 4).trans rfl
       have hcz29_5 : w24.cell? ⟨gb377, 5, none⟩ = some (.int .u8 t366) := (zbc BK377.out 5).trans rfl
       have hcz29_6 : w24.cell? ⟨gb377, 6, none⟩ = some (.int .u8 t367) := (zbc BK377.out 6).trans rfl
       have hcz29_7 : w24.cell? ⟨gb377, 7, none⟩ = some (.int .u32 t368) := (zbc BK377.out 7).trans rfl
       have hcz29_8 : w24.cell? ⟨gb377, 8, none⟩ = some (.int .u32 t369) := (zbc BK377.out 8).trans rfl
       have hcz29_9 : w24.cell? ⟨gb377, 9, none⟩ = some (.slice Ao15 t370.length co15) := (zbc BK377.out 9).trans rfl
       have hcz29_10 : w24.cell? ⟨gb377, 10, none⟩ = some (.slice none 0 0) := (zbc BK377.out 10).trans rfl
       have hfz29_0 := zbf BK377.out 0
       have hfz29_1 := zbf BK377.out 1
       have hfz29_2 := zbf BK377.out 2
       have hfz29_3 := zbf BK377.out 3
       have hfz29_4 := zbf BK377.out 4
       have hfz29_5 := zbf BK377.out 5
       have hfz29_6 := zbf BK377.out 6
       have hfz29_7 := zbf BK377.out 7
       have hfz29_8 := zbf BK377.out 8
       have hfz29_9 := zbf BK377.out 9
       have hfz29_10 := zbf BK377.out 10
       have hcz30_0 : w24.cell? ⟨gb360, 0, none⟩ = some (.int .u8 0) := (zbc BK360.out 0).trans rfl
       have hcz30_1 : w24.cell? ⟨gb360, 1, none⟩ = some (.int .u16 0) := (zbc BK360.out 1).trans rfl
       have hcz30_2 : w24.cell? ⟨gb360, 2, none⟩ = some (.bool false) := (zbc BK360.out 2).trans rfl
       have hcz30_3 : w24.cell? ⟨gb360, 3, none⟩ = some (.bool false) := (zbc BK360.out 3).trans rfl
       have hcz30_4 : w24.cell? ⟨gb360, 4, none⟩ = some (.int .i64 0) := (zbc BK360.out 4).trans rfl
       have hcz30_5 : w24.cell? ⟨gb360, 5, none⟩ = some (.int .u8 0) := (zbc BK360.out 5).trans rfl
       have hcz30_6 : w24.cell? ⟨gb360, 6, none⟩ = some (.int .u8 0) := (zbc BK360.out 6).trans rfl
       have hcz30_7 : w24.cell? ⟨gb360, 7, none⟩ = some (.int .u32 0) := (zbc BK360.out 7).trans rfl
       have hcz30_8 : w24.cell? ⟨gb360, 8, none⟩ = some (.int .u32 0) := (zbc BK360.out 8).trans rfl
       have hcz30_9 : w24.cell? ⟨gb360, 9, none⟩ = some (.slice none 0 0) := (zbc BK360.out 9).trans rfl
       have hcz30_10 : w24.cell? ⟨gb360, 10, none⟩ = some (.slice none 0 0) := (zbc BK360.out 10).trans rfl
       have hfz30_0 := zbf BK360.out 0
       have hfz30_1 := zbf BK360.out 1
       have hfz30_2 := zbf BK360.out 2
       have hfz30_3 := zbf BK360.out 3
       have hfz30_4 := zbf BK360.out 4
       have hfz30_5 := zbf BK360.out 5
       have hfz30_6 := zbf BK360.out 6
       have hfz30_7 := zbf BK360.out 7
       have hfz30_8 := zbf BK360.out 8
       have hfz30_9 := zbf BK360.out 9
       have hfz30_10 := zbf BK360.out 10
       try go_wp2
       refine bodyPost_ret (results_ct rfl _ _ gb360 43 #[.int .u8 t361, .int .u16 t362, .bool t363, .bool t364, .int .i64 t365, .int .u8 t366, .int .u8 t367, .int .u32 t368, .int .u32 t369, .slice Ao25 t380.length co25, .slice Ao27 t383.length co27] (0, 0) _ rfl (by (with_reducible repeat (first | refine zdn ?_ _ | refine zdr ?_ | refine blk_alloc ?_ _)); refine blk_put (cs := #[.int .u8 t361, .int .u16 t362, .bool t363, .bool t364, .int .i64 t365, .int .u8 t366, .int .u8 t367, .int .u32 t368, .int .u32 t369, .slice Ao25 t380.length co25, .slice none 0 0]) ?_ 10 _ rfl; (with_reducible repeat (first | refine zdn ?_ _ | refine zdr ?_ | refine blk_alloc ?_ _)); refine blk_put (cs := #[.int .u8 t361, .int .u16 t362, .bool t363, .bool t364, .int .i64 t365, .int .u8 t366, .int .u8 t367, .int .u32 t368, .int .u32 t369, .slice none 0 0, .slice none 0 0]) ?_ 9 _ rfl; (with_reducible repeat (first | refine zdn ?_ _ | refine zdr ?_ | refine blk_alloc ?_ _)); refine blk_put (cs := #[.int .u8 t361, .int .u16 t362, .bool t363, .bool t364, .int .i64 t365, .int .u8 t366, .int .u8 t367, .int .u32 t368, .int .u32 0, .slice none 0 0, .slice none 0 0]) ?_ 8 _ rfl; (with_reducible repeat (first | refine zdn ?_ _ | refine zdr ?_ | refine blk_alloc ?_ _)); refine blk_put (cs := #[.int .u8 t361, .int .u16 t362, .bool t363, .bool t364, .int .i64 t365, .int .u8 t366, .int .u8 t367, .int .u32 0, .int .u32 0, .slice none 0 0, .slice none 0 0]) ?_ 7 _ rfl; (with_reducible repeat (first | refine zdn ?_ _ | refine zdr ?_ | refine blk_alloc ?_ _)); refine blk_put (cs := #[.int .u8 t361, .int .u16 t362, .bool t363, .bool t364, .int .i64 t365, .int .u8 t366, .int .u8 0, .int .u32 0, .int .u32 0, .slice none 0 0, .slice none 0 0]) ?_ 6 _ rfl; (with_reducible repeat (first | refine zdn ?_ _ | refine zdr ?_ | refine blk_alloc ?_ _)); refine blk_put (cs := #[.int .u8 t361, .int .u16 t362, .bool t363, .bool t364, .int .i64 t365, .int .u8 0, .int .u8 0, .int .u32 0, .int .u32 0, .slice none 0 0, .slice none 0 0]) ?_ 5 _ rfl; (with_reducible repeat (first | refine zdn ?_ _ | refine zdr ?_ | refine blk_alloc ?_ _)); refine blk_put (cs := #[.int .u8 t361, .int .u16 t362, .bool t363, .bool t364, .int .i64 0, .int .u8 0, .int .u8 0, .int .u32 0, .int .u32 0, .slice none 0 0, .slice none 0 0]) ?_ 4 _ rfl; (with_reducible repeat (first | refine zdn ?_ _ | refine zdr ?_ | refine blk_alloc ?_ _)); refine blk_put (cs := #[.int .u8 t361, .int .u16 t362, .bool t363, .bool false, .int .i64 0, .int .u8 0, .int .u8 0, .int .u32 0, .int .u32 0, .slice none 0 0, .slice none 0 0]) ?_ 3 _ rfl; (with_reducible repeat (first | refine zdn ?_ _ | refine zdr ?_ | refine blk_alloc ?_ _)); refine blk_put (cs := #[.int .u8 t361, .int .u16 t362, .bool false, .bool false, .int .i64 0, .int .u8 0, .int .u8 0, .int .u32 0, .int .u32 0, .slice none 0 0, .slice none 0 0]) ?_ 2 _ rfl; (with_reducible repeat (first | refine zdn ?_ _ | refine zdr ?_ | refine blk_alloc ?_ _)); refine blk_put (cs := #[.int .u8 t361, .int .u16 0, .bool false, .bool false, .int .i64 0, .int .u8 0, .int .u8 0, .int .u32 0, .int .u32 0, .slice none 0 0, .slice none 0 0]) ?_ 1 _ rfl; (with_reducible repeat (first | refine zdn ?_ _ | refine zdr ?_ | refine blk_alloc ?_ _)); refine blk_put (cs := #[.int .u8 0, .int .u16 0, .bool false, .bool false, .int .i64 0, .int .u8 0, .int .u8 0, .int .u32 0, .int .u32 0, .slice none 0 0, .slice none 0 0]) ?_ 0 _ rfl; (with_reducible repeat (first | refine zdn ?_ _ | refine zdr ?_ | refine blk_alloc ?_ _)); refine blk_far ?_ NB360_377.out _; (with_reducible repeat (first | refine zdn ?_ _ | refine zdr ?_ | refine blk_alloc ?_ _)); refine blk_far ?_ NB360_377.out _; first | (with_reducible exact BK360.out) | (with_reducible exact zdn BK360.out _) | (with_reducible exact zdr BK360.out) | ((with_reducible repeat (first | refine zdn ?_ _ | refine zdr ?_ | refine blk_alloc ?_ _)); exact BK360.out)) Try.underlying43 rfl (by kernel_rfl)) rfl ?_
       exact ⟨_, _, by first | rfl | (simp [errW_none, errW_some] <;> rfl) | (simp [*, errW_none, errW_some] <;> rfl), by (with_reducible repeat (first | apply Kd.V_alloc | apply Kd.V_drewN | apply Kd.V_drew)); exact Kd.V_mono (Kd.V_far (p := ⟨gb360, 10, none⟩) (Kd.V_far (p := ⟨gb360, 9, none⟩) (Kd.V_far (p := ⟨gb360, 8, none⟩) (Kd.V_far (p := ⟨gb360, 7, none⟩) (Kd.V_far (p := ⟨gb360, 6, none⟩) (Kd.V_far (p := ⟨gb360, 5, none⟩) (Kd.V_far (p := ⟨gb360, 4, none⟩) (Kd.V_far (p := ⟨gb360, 3, none⟩) (Kd.V_far (p := ⟨gb360, 2, none⟩) (Kd.V_far (p := ⟨gb360, 1, none⟩) (Kd.V_far (p := ⟨gb360, 0, none⟩) (Kd.V_far (p := ⟨gb377, 10, none⟩) (Kd.V_far (p := ⟨gb377, 9, none⟩) (Kd.V_mono (Kd.V_mono HO382.out (fun k_ hk => (⟨hk, hk.2.2.2.2⟩ : _ ∧ k_ ≠ gb377))) (fun k_ hk => (⟨hk, hk.1.2.2.1⟩ : _ ∧ k_ ≠ gb360))) (fun _ hk => hk.1.2) (.slice Ao25 t380.length co25)) (fun _ hk => hk.1.2) (.slice Ao27 t383.length co27)) (fun _ hk => hk.2) (.int .u8 t361)) (fun _ hk => hk.2) (.int .u16 t362)) (fun _ hk => hk.2) (.bool t363)) (fun _ hk => hk.2) (.bool t364)) (fun _ hk => hk.2) (.int .i64 t365)) (fun _ hk => hk.2) (.int .u8 t366)) (fun _ hk => hk.2) (.int .u8 t367)) (fun _ hk => hk.2) (.int .u32 t368)) (fun _ hk => hk.2) (.int .u32 t369)) (fun _ hk => hk.2) (.slice Ao25 t380.length co25)) (fun _ hk => hk.2) (.slice Ao27 t383.length co27)) (fun _ hk => hk.1.1.1), by (with_reducible repeat (first | apply Kd.V_alloc | apply Kd.V_drewN | apply Kd.V_drew)); exact Kd.V_mono (Kd.V_far (p := ⟨gb360, 10, none⟩) (Kd.V_far (p := ⟨gb360, 9, none⟩) (Kd.V_far (p := ⟨gb360, 8, none⟩) (Kd.V_far (p := ⟨gb360, 7, none⟩) (Kd.V_far (p := ⟨gb360, 6, none⟩) (Kd.V_far (p := ⟨gb360, 5, none⟩) (Kd.V_far (p := ⟨gb360, 4, none⟩) (Kd.V_far (p := ⟨gb360, 3, none⟩) (Kd.V_far (p := ⟨gb360, 2, none⟩) (Kd.V_far (p := ⟨gb360, 1, none⟩) (Kd.V_far (p := ⟨gb360, 0, none⟩) (Kd.V_far (p := ⟨gb377, 10, none⟩) (Kd.V_far (p := ⟨gb377, 9, none⟩) (Kd.V_mono (Kd.V_mono HO385.out (fun k_ hk => (⟨hk, hk.2.2.2.2⟩ : _ ∧ k_ ≠ gb377))) (fun k_ hk => (⟨hk, hk.1.2.2.1⟩ : _ ∧ k_ ≠ gb360))) (fun _ hk => hk.1.2) (.slice Ao25 t380.length co25)) (fun _ hk => hk.1.2) (.slice Ao27 t383.length co27)) (fun _ hk => hk.2) (.int .u8 t361)) (fun _ hk => hk.2) (.int .u16 t362)) (fun _ hk => hk.2) (.bool t363)) (fun _ hk => hk.2) (.bool t364)) (fun _ hk => hk.2) (.int .i64 t365)) (fun _ hk => hk.2) (.int .u8 t366)) (fun _ hk => hk.2) (.int .u8 t367)) (fun _ hk => hk.2) (.int .u32 t368)) (fun _ hk => hk.2) (.int .u32 t369)) (fun _ hk => hk.2) (.slice Ao25 t380.length co25)) (fun _ hk => hk.2) (.slice Ao27 t383.length co27)) (fun _ hk => hk.1.1.1), by repeat (first | (with_reducible first | exact HB.out | apply below_alloc | apply pw_below_drewN | apply below_drew1 | refine below_set ?_ GE360.out | refine below_set ?_ GE376.out | refine below_set ?_ GE377.out) | exact HB.out)⟩
      ·
       rw [if_neg c8] at H
       exact absurd H (by simp)
     ·
      rw [if_neg c7] at H
      exact absurd H (by simp)
    ·
     rw [if_neg c6] at H
     exact absurd H (by simp)
   ·
    rw [if_neg c5] at H
    exact absurd H (by simp)
  ·
   rw [if_neg c4] at H
   exact absurd H (by simp)
 ·
  rw [if_neg c3] at H
  have c3b0 : (t375 == 0) = false := beq_eq_false_iff_ne.mpr c3
  have c3b1 : (t375 != 0) = true := bne_iff_ne.mpr c3
  simp only [Option.some.injEq, Prod.mk.injEq] at H
  obtain ⟨rfl, rfl, rfl, rfl, rfl, rfl, rfl, rfl, rfl, rfl, rfl, rfl⟩ := H
  go_enter Try.func38, Try.ntmps38
  go_wp2_with (first | ((with_reducible refine gate_dst (N := 2) rfl ?_); refine box_event ?hg (N := 2) ?hd (cs := #[.int .u8 0, .int .u16 0, .bool false, .bool false, .int .i64 0, .int .u8 0, .int .u8 0, .int .u32 0, .int .u32 0, .slice none 0 0, .slice none 0 0]) (t := 43) ?hr ?_; (case hd => rfl); (case hg => rfl); (case hr => first | (go_simp; done) | (go_simp; rfl)); intro gb360 hg w31 hbox hb; have n0_ := zam (below_step zqxb9_3 hb); have n1_ := zam (hbox); have n2_ := zam ((by rw [hg]; exact (below_size zqxb9_3) : w.heap.size ≤ gb360)); have n3_ := zam ((by rw [hg]; exact (below_size zqxb9_3) : w.heap.size ≤ gb360)); clear HB; have HB := n0_; have BK360 := n1_; have GW360 := n2_; have GE360 := n3_; clear n0_ n1_ n2_ n3_; clear hb hbox hg) | ((with_reducible refine gate_callee (f := 65) rfl ?_); refine goesL_ (some 11) rfl rfl Try.func65 (by kernel_rfl) rfl #[.slice A0 l0.length c0, .bool true] rfl zqxb9_11 ?_; (with_reducible refine (ip4_read.calls k _ _ l0 true t361 t362 t363 t364 t365 t366 t367 t368 t369 t370 t373 t374 t375 _ ?side1 ?side2 A2.out).mono ?_); (case side1 => repeat (first | exact (Kd.C_below HR0.out HB.out) | (with_reducible refine Kd.C_alloc ?_ _) | (with_reducible refine Kd.C_drewN ?_ _) | (with_reducible refine Kd.C_drew ?_))); (case side2 => exact HC0.out); rintro e w32 ⟨v371, rfl, ho0, hb⟩; refine ⟨_, rfl, ?_⟩; have n0_ := zam (Kd.R_lower (Kd.R_newM (M := fun k_ => (w.heap.size ≤ k_)) ho0 (below_size zqxb9_4) (fun k_ h_ => h_)) (below_size zqxb9_4)); have n1_ := zam (blk_below (g := gb360) (o := .cells #[.int .u8 0, .int .u16 0, .bool false, .bool false, .int .i64 0, .int .u8 0, .int .u8 0, .int .u32 0, .int .u32 0, .slice none 0 0, .slice none 0 0] 43 (0, 0)) zqxb9_2 hb); have n2_ := zam (below_step zqxb9_4 hb); clear BK360; clear HB; have HO372 := n0_; have BK360 := n1_; have HB := n2_; clear n0_ n1_ n2_; (try clear hb); (try clear hb2); (try clear hk); (try clear hi); (try clear ho0)) | ((with_reducible refine gate_dst (N := 4) rfl ?_); refine box_event ?hg (N := 4) ?hd (cs := #[.int .u8 0, .int .u16 0, .bool false, .bool false, .int .i64 0, .int .u8 0, .int .u8 0, .int .u32 0, .int .u32 0, .slice none 0 0]) (t := 41) ?hr ?_; (case hd => rfl); (case hg => rfl); (case hr => first | (go_simp; done) | (go_simp; rfl)); intro gb376 hg w33 hbox hb; have n0_ := zam (Kd.R_below zqxb9_12 hb); have n1_ := zam (blk_below (g := gb360) (o := .cells #[.int .u8 0, .int .u16 0, .bool false, .bool false, .int .i64 0, .int .u8 0, .int .u8 0, .int .u32 0, .int .u32 0, .slice none 0 0, .slice none 0 0] 43 (0, 0)) zqxb9_2 hb); have n2_ := zam (below_step zqxb9_4 hb); have n3_ := zam (hbox); have n4_ := zam ((by rw [hg]; exact (below_size zqxb9_4) : w.heap.size ≤ gb376)); have n5_ := zam ((by rw [hg]; exact (below_size zqxb9_4) : w.heap.size ≤ gb376)); have n6_ := zam ((by rw [hg]; exact Nat.ne_of_lt (blk_lt (g := gb360) (o := .cells #[.int .u8 0, .int .u16 0, .bool false, .bool false, .int .i64 0, .int .u8 0, .int .u8 0, .int .u32 0, .int .u32 0, .slice none 0 0, .slice none 0 0] 43 (0, 0)) zqxb9_2) : gb360 ≠ gb376)); have n7_ := zam ((by rw [hg]; exact Nat.ne_of_gt (blk_lt (g := gb360) (o := .cells #[.int .u8 0, .int .u16 0, .bool false, .bool false, .int .i64 0, .int .u8 0, .int .u8 0, .int .u32 0, .int .u32 0, .slice none 0 0, .slice none 0 0] 43 (0, 0)) zqxb9_2) : gb376 ≠ gb360)); clear HO372; clear BK360; clear HB; have HO372 := n0_; have BK360 := n1_; have HB := n2_; have BK376 := n3_; have GW376 := n4_; have GE376 := n5_; have NB360_376 := n6_; have NB376_360 := n7_; clear n0_ n1_ n2_ n3_ n4_ n5_ n6_ n7_; clear hb hbox hg; have hnb34 := NB376_360.out; have hnc34 := NB360_376.out; have hcz35_0 : w33.cell? ⟨gb376, 0, none⟩ = some (.int .u8 0) := (zbc BK376.out 0).trans rfl; have hcz35_1 : w33.cell? ⟨gb376, 1, none⟩ = some (.int .u16 0) := (zbc BK376.out 1).trans rfl; have hcz35_2 : w33.cell? ⟨gb376, 2, none⟩ = some (.bool false) := (zbc BK376.out 2).trans rfl; have hcz35_3 : w33.cell? ⟨gb376, 3, none⟩ = some (.bool false) := (zbc BK376.out 3).trans rfl; have hcz35_4 : w33.cell? ⟨gb376, 4, none⟩ = some (.int .i64 0) := (zbc BK376.out 4).trans rfl; have hcz35_5 : w33.cell? ⟨gb376, 5, none⟩ = some (.int .u8 0) := (zbc BK376.out 5).trans rfl; have hcz35_6 : w33.cell? ⟨gb376, 6, none⟩ = some (.int .u8 0) := (zbc BK376.out 6).trans rfl; have hcz35_7 : w33.cell? ⟨gb376, 7, none⟩ = some (.int .u32 0) := (zbc BK376.out 7).trans rfl; have hcz35_8 : w33.cell? ⟨gb376, 8, none⟩ = some (.int .u32 0) := (zbc BK376.out 8).trans rfl; have hcz35_9 : w33.cell? ⟨gb376, 9, none⟩ = some (.slice none 0 0) := (zbc BK376.out 9).trans rfl; have hfz35_0 := zbf BK376.out 0; have hfz35_1 := zbf BK376.out 1; have hfz35_2 := zbf BK376.out 2; have hfz35_3 := zbf BK376.out 3; have hfz35_4 := zbf BK376.out 4; have hfz35_5 := zbf BK376.out 5; have hfz35_6 := zbf BK376.out 6; have hfz35_7 := zbf BK376.out 7; have hfz35_8 := zbf BK376.out 8; have hfz35_9 := zbf BK376.out 9; obtain ⟨Ao36, co36, eo36⟩ := Kd.R_slice HO372.out; subst eo36; have hcz37_0 : w33.cell? ⟨gb360, 0, none⟩ = some (.int .u8 0) := (zbc BK360.out 0).trans rfl; have hcz37_1 : w33.cell? ⟨gb360, 1, none⟩ = some (.int .u16 0) := (zbc BK360.out 1).trans rfl; have hcz37_2 : w33.cell? ⟨gb360, 2, none⟩ = some (.bool false) := (zbc BK360.out 2).trans rfl; have hcz37_3 : w33.cell? ⟨gb360, 3, none⟩ = some (.bool false) := (zbc BK360.out 3).trans rfl; have hcz37_4 : w33.cell? ⟨gb360, 4, none⟩ = some (.int .i64 0) := (zbc BK360.out 4).trans rfl; have hcz37_5 : w33.cell? ⟨gb360, 5, none⟩ = some (.int .u8 0) := (zbc BK360.out 5).trans rfl; have hcz37_6 : w33.cell? ⟨gb360, 6, none⟩ = some (.int .u8 0) := (zbc BK360.out 6).trans rfl; have hcz37_7 : w33.cell? ⟨gb360, 7, none⟩ = some (.int .u32 0) := (zbc BK360.out 7).trans rfl; have hcz37_8 : w33.cell? ⟨gb360, 8, none⟩ = some (.int .u32 0) := (zbc BK360.out 8).trans rfl; have hcz37_9 : w33.cell? ⟨gb360, 9, none⟩ = some (.slice none 0 0) := (zbc BK360.out 9).trans rfl; have hcz37_10 : w33.cell? ⟨gb360, 10, none⟩ = some (.slice none 0 0) := (zbc BK360.out 10).trans rfl; have hfz37_0 := zbf BK360.out 0; have hfz37_1 := zbf BK360.out 1; have hfz37_2 := zbf BK360.out 2; have hfz37_3 := zbf BK360.out 3; have hfz37_4 := zbf BK360.out 4; have hfz37_5 := zbf BK360.out 5; have hfz37_6 := zbf BK360.out 6; have hfz37_7 := zbf BK360.out 7; have hfz37_8 := zbf BK360.out 8; have hfz37_9 := zbf BK360.out 9; have hfz37_10 := zbf BK360.out 10))
  refine bodyPost_ret (results_ct rfl _ _ gb360 43 #[.int .u8 0, .int .u16 0, .bool false, .bool false, .int .i64 0, .int .u8 0, .int .u8 0, .int .u32 0, .int .u32 0, .slice none 0 0, .slice none 0 0] (0, 0) _ rfl (by (with_reducible repeat (first | refine zdn ?_ _ | refine zdr ?_ | refine blk_alloc ?_ _)); refine blk_put (cs := #[.int .u8 0, .int .u16 0, .bool false, .bool false, .int .i64 0, .int .u8 0, .int .u8 0, .int .u32 0, .int .u32 0, .slice none 0 0, .slice none 0 0]) ?_ 10 _ rfl; (with_reducible repeat (first | refine zdn ?_ _ | refine zdr ?_ | refine blk_alloc ?_ _)); refine blk_put (cs := #[.int .u8 0, .int .u16 0, .bool false, .bool false, .int .i64 0, .int .u8 0, .int .u8 0, .int .u32 0, .int .u32 0, .slice none 0 0, .slice none 0 0]) ?_ 9 _ rfl; (with_reducible repeat (first | refine zdn ?_ _ | refine zdr ?_ | refine blk_alloc ?_ _)); refine blk_put (cs := #[.int .u8 0, .int .u16 0, .bool false, .bool false, .int .i64 0, .int .u8 0, .int .u8 0, .int .u32 0, .int .u32 0, .slice none 0 0, .slice none 0 0]) ?_ 8 _ rfl; (with_reducible repeat (first | refine zdn ?_ _ | refine zdr ?_ | refine blk_alloc ?_ _)); refine blk_put (cs := #[.int .u8 0, .int .u16 0, .bool false, .bool false, .int .i64 0, .int .u8 0, .int .u8 0, .int .u32 0, .int .u32 0, .slice none 0 0, .slice none 0 0]) ?_ 7 _ rfl; (with_reducible repeat (first | refine zdn ?_ _ | refine zdr ?_ | refine blk_alloc ?_ _)); refine blk_put (cs := #[.int .u8 0, .int .u16 0, .bool false, .bool false, .int .i64 0, .int .u8 0, .int .u8 0, .int .u32 0, .int .u32 0, .slice none 0 0, .slice none 0 0]) ?_ 6 _ rfl; (with_reducible repeat (first | refine zdn ?_ _ | refine zdr ?_ | refine blk_alloc ?_ _)); refine blk_put (cs := #[.int .u8 0, .int .u16 0, .bool false, .bool false, .int .i64 0, .int .u8 0, .int .u8 0, .int .u32 0, .int .u32 0, .slice none 0 0, .slice none 0 0]) ?_ 5 _ rfl; (with_reducible repeat (first | refine zdn ?_ _ | refine zdr ?_ | refine blk_alloc ?_ _)); refine blk_put (cs := #[.int .u8 0, .int .u16 0, .bool false, .bool false, .int .i64 0, .int .u8 0, .int .u8 0, .int .u32 0, .int .u32 0, .slice none 0 0, .slice none 0 0]) ?_ 4 _ rfl; (with_reducible repeat (first | refine zdn ?_ _ | refine zdr ?_ | refine blk_alloc ?_ _)); refine blk_put (cs := #[.int .u8 0, .int .u16 0, .bool false, .bool false, .int .i64 0, .int .u8 0, .int .u8 0, .int .u32 0, .int .u32 0, .slice none 0 0, .slice none 0 0]) ?_ 3 _ rfl; (with_reducible repeat (first | refine zdn ?_ _ | refine zdr ?_ | refine blk_alloc ?_ _)); refine blk_put (cs := #[.int .u8 0, .int .u16 0, .bool false, .bool false, .int .i64 0, .int .u8 0, .int .u8 0, .int .u32 0, .int .u32 0, .slice none 0 0, .slice none 0 0]) ?_ 2 _ rfl; (with_reducible repeat (first | refine zdn ?_ _ | refine zdr ?_ | refine blk_alloc ?_ _)); refine blk_put (cs := #[.int .u8 0, .int .u16 0, .bool false, .bool false, .int .i64 0, .int .u8 0, .int .u8 0, .int .u32 0, .int .u32 0, .slice none 0 0, .slice none 0 0]) ?_ 1 _ rfl; (with_reducible repeat (first | refine zdn ?_ _ | refine zdr ?_ | refine blk_alloc ?_ _)); refine blk_put (cs := #[.int .u8 0, .int .u16 0, .bool false, .bool false, .int .i64 0, .int .u8 0, .int .u8 0, .int .u32 0, .int .u32 0, .slice none 0 0, .slice none 0 0]) ?_ 0 _ rfl; (with_reducible repeat (first | refine zdn ?_ _ | refine zdr ?_ | refine blk_alloc ?_ _)); refine blk_far ?_ NB360_376.out _; (with_reducible repeat (first | refine zdn ?_ _ | refine zdr ?_ | refine blk_alloc ?_ _)); refine blk_far ?_ NB360_376.out _; (with_reducible repeat (first | refine zdn ?_ _ | refine zdr ?_ | refine blk_alloc ?_ _)); refine blk_far ?_ NB360_376.out _; (with_reducible repeat (first | refine zdn ?_ _ | refine zdr ?_ | refine blk_alloc ?_ _)); refine blk_far ?_ NB360_376.out _; (with_reducible repeat (first | refine zdn ?_ _ | refine zdr ?_ | refine blk_alloc ?_ _)); refine blk_far ?_ NB360_376.out _; (with_reducible repeat (first | refine zdn ?_ _ | refine zdr ?_ | refine blk_alloc ?_ _)); refine blk_far ?_ NB360_376.out _; (with_reducible repeat (first | refine zdn ?_ _ | refine zdr ?_ | refine blk_alloc ?_ _)); refine blk_far ?_ NB360_376.out _; (with_reducible repeat (first | refine zdn ?_ _ | refine zdr ?_ | refine blk_alloc ?_ _)); refine blk_far ?_ NB360_376.out _; (with_reducible repeat (first | refine zdn ?_ _ | refine zdr ?_ | refine blk_alloc ?_ _)); refine blk_far ?_ NB360_376.out _; (with_reducible repeat (first | refine zdn ?_ _ | refine zdr ?_ | refine blk_alloc ?_ _)); refine blk_far ?_ NB360_376.out _; first | (with_reducible exact BK360.out) | (with_reducible exact zdn BK360.out _) | (with_reducible exact zdr BK360.out) | ((with_reducible repeat (first | refine zdn ?_ _ | refine zdr ?_ | refine blk_alloc ?_ _)); exact BK360.out)) Try.underlying43 rfl (by kernel_rfl)) rfl ?_
  exact ⟨_, _, by first | rfl | (simp [errW_none, errW_some] <;> rfl) | (simp [*, errW_none, errW_some] <;> rfl), Kd.R_V (base := 0) zqxb9_18, Kd.R_V (base := 0) zqxb9_18, by repeat (first | (with_reducible first | exact HB.out | apply below_alloc | apply pw_below_drewN | apply below_drew1 | refine below_set ?_ GE360.out | refine below_set ?_ GE376.out) | exact HB.out)⟩

/-! ### weftlaw3_heads: function 50 -/
def weftlaw3_heads.f (k : Nat) (a0_0 : Int) (a0_1 : Int) (a0_2 : Bool) (a0_3 : Bool) (a0_4 : Int) (a0_5 : Int) (a0_6 : Int) (a0_7 : Int) (a0_8 : Int) (l0_9 : List Int) (a1_0 : Int) (a1_1 : Int) (a1_2 : Bool) (a1_3 : Bool) (a1_4 : Int) (a1_5 : Int) (a1_6 : Int) (a1_7 : Int) (a1_8 : Int) (l1_9 : List Int) : Option (Bool) := if a0_0 = a1_0 then (if a0_1 = a1_1 then (if (a0_2 != a1_2) = true then (some false) else (if (a0_3 != a1_3) = true then (some false) else (if a0_4 = a1_4 then (if a0_5 = a1_5 then (if a0_6 = a1_6 then (if a0_7 = a1_7 then (if a0_8 = a1_8 then ((weftlaw3_same.f k l0_9 l1_9).bind fun t388 => (some t388)) else (some false)) else (some false)) else (some false)) else (some false)) else (some false)))) else (some false)) else (some false)
set_option maxHeartbeats 8000000 in
set_option maxRecDepth 100000 in
theorem weftlaw3_heads.calls (k : Nat) (a0_0 : Int) (a0_1 : Int) (a0_2 : Bool) (a0_3 : Bool) (a0_4 : Int) (a0_5 : Int) (a0_6 : Int) (a0_7 : Int) (a0_8 : Int) (A0_9 : Option Addr) (c0_9 : Nat) (l0_9 : List Int) (a1_0 : Int) (a1_1 : Int) (a1_2 : Bool) (a1_3 : Bool) (a1_4 : Int) (a1_5 : Int) (a1_6 : Int) (a1_7 : Int) (a1_8 : Int) (A1_9 : Option Addr) (c1_9 : Nat) (l1_9 : List Int) (r : Bool) (w : World) (hr0_9 : Kd.C (Kd.int .u8) w A0_9 l0_9.length l0_9) (hc0_9 : l0_9.length ≤ c0_9) (hr1_9 : Kd.C (Kd.int .u8) w A1_9 l1_9.length l1_9) (hc1_9 : l1_9.length ≤ c1_9) (h : weftlaw3_heads.f k a0_0 a0_1 a0_2 a0_3 a0_4 a0_5 a0_6 a0_7 a0_8 l0_9 a1_0 a1_1 a1_2 a1_3 a1_4 a1_5 a1_6 a1_7 a1_8 l1_9 = some r) :
  Calls Try.prog 50 #[.agg #[.int .u8 a0_0, .int .u16 a0_1, .bool a0_2, .bool a0_3, .int .i64 a0_4, .int .u8 a0_5, .int .u8 a0_6, .int .u32 a0_7, .int .u32 a0_8, .slice A0_9 l0_9.length c0_9], .agg #[.int .u8 a1_0, .int .u16 a1_1, .bool a1_2, .bool a1_3, .int .i64 a1_4, .int .u8 a1_5, .int .u8 a1_6, .int .u32 a1_7, .int .u32 a1_8, .slice A1_9 l1_9.length c1_9]] w fun e w' => e = .returned (.bool r) ∧ Below w.heap.size w w' := by
 have hu41 := Try.underlying41
 have HR0_9 := zam hr0_9
 have HC0_9 := zam hc0_9
 clear hr0_9 hc0_9
 have HR1_9 := zam hr1_9
 have HC1_9 := zam hc1_9
 clear hr1_9 hc1_9
 have HB := zam (Below.refl w.heap.size w)
 have H : (if a0_0 = a1_0 then (if a0_1 = a1_1 then (if (a0_2 != a1_2) = true then (some false) else (if (a0_3 != a1_3) = true then (some false) else (if a0_4 = a1_4 then (if a0_5 = a1_5 then (if a0_6 = a1_6 then (if a0_7 = a1_7 then (if a0_8 = a1_8 then ((weftlaw3_same.f k l0_9 l1_9).bind fun t388 => (some t388)) else (some false)) else (some false)) else (some false)) else (some false)) else (some false)))) else (some false)) else (some false)) = some r := h
 clear h
 go_enter Try.func50, Try.ntmps50
 go_upto_region 1 with (first | ((with_reducible refine gate_dst (N := 2) rfl ?_); refine box_event ?hg (N := 2) ?hd (cs := #[.int .u8 a0_0, .int .u16 a0_1, .bool a0_2, .bool a0_3, .int .i64 a0_4, .int .u8 a0_5, .int .u8 a0_6, .int .u32 a0_7, .int .u32 a0_8, .slice A0_9 l0_9.length c0_9]) (t := 41) ?hr ?_; (case hd => rfl); (case hg => rfl); (case hr => first | (go_simp; done) | (go_simp; rfl)); intro gb386 hg w6 hbox hb; have n0_ := zam (below_step zqxb9_3 hb); have n1_ := zam (hbox); have n2_ := zam ((by rw [hg]; exact (below_size zqxb9_3) : w.heap.size ≤ gb386)); have n3_ := zam ((by rw [hg]; exact (below_size zqxb9_3) : w.heap.size ≤ gb386)); clear HB; have HB := n0_; have BK386 := n1_; have GW386 := n2_; have GE386 := n3_; clear n0_ n1_ n2_ n3_; clear hb hbox hg) | ((with_reducible refine gate_dst (N := 3) rfl ?_); refine box_event ?hg (N := 3) ?hd (cs := #[.int .u8 a1_0, .int .u16 a1_1, .bool a1_2, .bool a1_3, .int .i64 a1_4, .int .u8 a1_5, .int .u8 a1_6, .int .u32 a1_7, .int .u32 a1_8, .slice A1_9 l1_9.length c1_9]) (t := 41) ?hr ?_; (case hd => rfl); (case hg => rfl); (case hr => first | (go_simp; done) | (go_simp; rfl)); intro gb387 hg w7 hbox hb; have n0_ := zam (blk_below (g := gb386) (o := .cells #[.int .u8 a0_0, .int .u16 a0_1, .bool a0_2, .bool a0_3, .int .i64 a0_4, .int .u8 a0_5, .int .u8 a0_6, .int .u32 a0_7, .int .u32 a0_8, .slice A0_9 l0_9.length c0_9] 41 (0, 0)) zqxb9_10 hb); have n1_ := zam (below_step zqxb9_15 hb); have n2_ := zam (hbox); have n3_ := zam ((by rw [hg]; exact (below_size zqxb9_15) : w.heap.size ≤ gb387)); have n4_ := zam ((by rw [hg]; exact (below_size zqxb9_15) : w.heap.size ≤ gb387)); have n5_ := zam ((by rw [hg]; exact Nat.ne_of_lt (blk_lt (g := gb386) (o := .cells #[.int .u8 a0_0, .int .u16 a0_1, .bool a0_2, .bool a0_3, .int .i64 a0_4, .int .u8 a0_5, .int .u8 a0_6, .int .u32 a0_7, .int .u32 a0_8, .slice A0_9 l0_9.length c0_9] 41 (0, 0)) zqxb9_10) : gb386 ≠ gb387)); have n6_ := zam ((by rw [hg]; exact Nat.ne_of_gt (blk_lt (g := gb386) (o := .cells #[.int .u8 a0_0, .int .u16 a0_1, .bool a0_2, .bool a0_3, .int .i64 a0_4, .int .u8 a0_5, .int .u8 a0_6, .int .u32 a0_7, .int .u32 a0_8, .slice A0_9 l0_9.length c0_9] 41 (0, 0)) zqxb9_10) : gb387 ≠ gb386)); clear BK386; clear HB; have BK386 := n0_; have HB := n1_; have BK387 := n2_; have GW387 := n3_; have GE387 := n4_; have NB386_387 := n5_; have NB387_386 := n6_; clear n0_ n1_ n2_ n3_ n4_ n5_ n6_; clear hb hbox hg; have hnb8 := NB386_387.out; have hnc8 := NB387_386.out; have hcz9_0 : w7.cell? ⟨gb386, 0, none⟩ = some (.int .u8 a0_0) := (zbc BK386.out 0).trans rfl; have hcz9_1 : w7.cell? ⟨gb386, 1, none⟩ = some (.int .u16 a0_1) := (zbc BK386.out 1).trans rfl; have hcz9_2 : w7.cell? ⟨gb386, 2, none⟩ = some (.bool a0_2) := (zbc BK386.out 2).trans rfl; have hcz9_3 : w7.cell? ⟨gb386, 3, none⟩ = some (.bool a0_3) := (zbc BK386.out 3).trans rfl; have hcz9_4 : w7.cell? ⟨gb386, 4, none⟩ = some (.int .i64 a0_4) := (zbc BK386.out 4).trans rfl; have hcz9_5 : w7.cell? ⟨gb386, 5, none⟩ = some (.int .u8 a0_5) := (zbc BK386.out 5).trans rfl; have hcz9_6 : w7.cell? ⟨gb386, 6, none⟩ = some (.int .u8 a0_6) := (zbc BK386.out 6).trans rfl; have hcz9_7 : w7.cell? ⟨gb386, 7, none⟩ = some (.int .u32 a0_7) := (zbc BK386.out 7).trans rfl; have hcz9_8 : w7.cell? ⟨gb386, 8, none⟩ = some (.int .u32 a0_8) := (zbc BK386.out 8).trans rfl; have hcz9_9 : w7.cell? ⟨gb386, 9, none⟩ = some (.slice A0_9 l0_9.length c0_9) := (zbc BK386.out 9).trans rfl; have hfz9_0 := zbf BK386.out 0; have hfz9_1 := zbf BK386.out 1; have hfz9_2 := zbf BK386.out 2; have hfz9_3 := zbf BK386.out 3; have hfz9_4 := zbf BK386.out 4; have hfz9_5 := zbf BK386.out 5; have hfz9_6 := zbf BK386.out 6; have hfz9_7 := zbf BK386.out 7; have hfz9_8 := zbf BK386.out 8; have hfz9_9 := zbf BK386.out 9; have hcz10_0 : w7.cell? ⟨gb387, 0, none⟩ = some (.int .u8 a1_0) := (zbc BK387.out 0).trans rfl; have hcz10_1 : w7.cell? ⟨gb387, 1, none⟩ = some (.int .u16 a1_1) := (zbc BK387.out 1).trans rfl; have hcz10_2 : w7.cell? ⟨gb387, 2, none⟩ = some (.bool a1_2) := (zbc BK387.out 2).trans rfl; have hcz10_3 : w7.cell? ⟨gb387, 3, none⟩ = some (.bool a1_3) := (zbc BK387.out 3).trans rfl; have hcz10_4 : w7.cell? ⟨gb387, 4, none⟩ = some (.int .i64 a1_4) := (zbc BK387.out 4).trans rfl; have hcz10_5 : w7.cell? ⟨gb387, 5, none⟩ = some (.int .u8 a1_5) := (zbc BK387.out 5).trans rfl; have hcz10_6 : w7.cell? ⟨gb387, 6, none⟩ = some (.int .u8 a1_6) := (zbc BK387.out 6).trans rfl; have hcz10_7 : w7.cell? ⟨gb387, 7, none⟩ = some (.int .u32 a1_7) := (zbc BK387.out 7).trans rfl; have hcz10_8 : w7.cell? ⟨gb387, 8, none⟩ = some (.int .u32 a1_8) := (zbc BK387.out 8).trans rfl; have hcz10_9 : w7.cell? ⟨gb387, 9, none⟩ = some (.slice A1_9 l1_9.length c1_9) := (zbc BK387.out 9).trans rfl; have hfz10_0 := zbf BK387.out 0; have hfz10_1 := zbf BK387.out 1; have hfz10_2 := zbf BK387.out 2; have hfz10_3 := zbf BK387.out 3; have hfz10_4 := zbf BK387.out 4; have hfz10_5 := zbf BK387.out 5; have hfz10_6 := zbf BK387.out 6; have hfz10_7 := zbf BK387.out 7; have hfz10_8 := zbf BK387.out 8; have hfz10_9 := zbf BK387.out 9))
 by_cases c3 : a0_0 = a1_0
 ·
  rw [if_pos c3] at H
  have c3b0 : (a0_0 == a1_0) = true := beq_iff_eq.mpr c3
  have c3b1 : (a0_0 != a1_0) = false := bne_eq_false_iff_eq.mpr c3
  clear c3
  (first | rw [c3b0] | (simp only [i64_w, i32_w]; rw [c3b0]) | skip)
  by_cases c4 : a0_1 = a1_1
  ·
   rw [if_pos c4] at H
   have c4b0 : (a0_1 == a1_1) = true := beq_iff_eq.mpr c4
   have c4b1 : (a0_1 != a1_1) = false := bne_eq_false_iff_eq.mpr c4
   clear c4
   by_cases c5 : (a0_2 != a1_2) = true
   ·
    rw [if_pos c5] at H
    have c5b0 : (a0_2 != a1_2) = true := c5
    (try (have c5b1 : decide (a0_2 = a1_2) = false := by simpa using c5))
    (try (have c5b2 : (a0_2 == a1_2) = false := by simpa using c5))
    (try (have c5b3 : ¬ (a0_2 = a1_2) := by simpa using c5))
    clear c5
    obtain rfl := Option.some.inj H
    go_wp2
    go_ret
    exact ⟨by first | rfl | (simp [errW_none, errW_some] <;> rfl) | (simp [*, errW_none, errW_some] <;> rfl), by repeat (first | (with_reducible first | exact HB.out | apply below_alloc | apply pw_below_drewN | apply below_drew1 | refine below_set ?_ GE386.out | refine below_set ?_ GE387.out) | exact HB.out)⟩
   ·
    rw [if_neg c5] at H
    have c5b0 : (a0_2 != a1_2) = false := by simpa using c5
    (try (have c5b1 : decide (a0_2 = a1_2) = true := by simpa using c5))
    (try (have c5b2 : (a0_2 == a1_2) = true := by simpa using c5))
    clear c5
    by_cases c11 : (a0_3 != a1_3) = true
    ·
     rw [if_pos c11] at H
     have c11b0 : (a0_3 != a1_3) = true := c11
     (try (have c11b1 : decide (a0_3 = a1_3) = false := by simpa using c11))
     (try (have c11b2 : (a0_3 == a1_3) = false := by simpa using c11))
     (try (have c11b3 : ¬ (a0_3 = a1_3) := by simpa using c11))
     clear c11
     obtain rfl := Option.some.inj H
     go_wp2
     go_ret
     exact ⟨by first | rfl | (simp [errW_none, errW_some] <;> rfl) | (simp [*, errW_none, errW_some] <;> rfl), by repeat (first | (with_reducible first | exact HB.out | apply below_alloc | apply pw_below_drewN | apply below_drew1 | refine below_set ?_ GE386.out | refine below_set ?_ GE387.out) | exact HB.out)⟩
    ·
     rw [if_neg c11] at H
     have c11b0 : (a0_3 != a1_3) = false := by simpa using c11
     (try (have c11b1 : decide (a0_3 = a1_3) = true := by simpa using c11))
     (try (have c11b2 : (a0_3 == a1_3) = true := by simpa using c11))
     clear c11
     by_cases c17 : a0_4 = a1_4
     ·
      rw [if_pos c17] at H
      have c17b0 : (a0_4 == a1_4) = true := beq_iff_eq.mpr c17
      have c17b1 : (a0_4 != a1_4) = false := bne_eq_false_iff_eq.mpr c17
      clear c17
      by_cases c18 : a0_5 = a1_5
      ·
       rw [if_pos c18] at H
       have c18b0 : (a0_5 == a1_5) = true := beq_iff_eq.mpr c18
       have c18b1 : (a0_5 != a1_5) = false := bne_eq_false_iff_eq.mpr c18
       clear c18
       by_cases c19 : a0_6 = a1_6
       ·
        rw [if_pos c19] at H
        have c19b0 : (a0_6 == a1_6) = true := beq_iff_eq.mpr c19
        have c19b1 : (a0_6 != a1_6) = false := bne_eq_false_iff_eq.mpr c19
        clear c19
        by_cases c20 : a0_7 = a1_7
        ·
         rw [if_pos c20] at H
         have c20b0 : (a0_7 == a1_7) = true := beq_iff_eq.mpr c20
         have c20b1 : (a0_7 != a1_7) = false := bne_eq_false_iff_eq.mpr c20
         clear c20
         by_cases c21 : a0_8 = a1_8
         ·
          rw [if_pos c21] at H
          have c21b0 : (a0_8 == a1_8) = true := beq_iff_eq.mpr c21
          have c21b1 : (a0_8 != a1_8) = false := bne_eq_false_iff_eq.mpr c21
          clear c21
          replace H := Option.bind_eq_some_iff.mp H
          obtain ⟨t388, A220, H⟩ := H
          replace H : (some t388) = some r := H
          have A22 := zam A220
          clear A220
          obtain rfl := Option.some.inj H
          go_wp2_with (first | (go_at_call 21; (with_reducible refine (weftlaw3_same.calls k _ _ l0_9 _ _ l1_9 t388 _ ?side1 ?side2 ?side3 ?side4 A22.out).mono ?_); (case side1 => repeat (first | exact (Kd.C_below HR0_9.out HB.out) | (with_reducible refine Kd.C_alloc ?_ _) | (with_reducible refine Kd.C_drewN ?_ _) | (with_reducible refine Kd.C_drew ?_))); (case side2 => exact HC0_9.out); (case side3 => repeat (first | exact (Kd.C_below HR1_9.out HB.out) | (with_reducible refine Kd.C_alloc ?_ _) | (with_reducible refine Kd.C_drewN ?_ _) | (with_reducible refine Kd.C_drew ?_))); (case side4 => exact HC1_9.out); rintro e w' ⟨rfl, ⟨nd, rfl⟩⟩))
          go_ret
          exact ⟨by first | rfl | (simp [errW_none, errW_some] <;> rfl) | (simp [*, errW_none, errW_some] <;> rfl), by repeat (first | (with_reducible first | exact HB.out | apply below_alloc | apply pw_below_drewN | apply below_drew1 | refine below_set ?_ GE386.out | refine below_set ?_ GE387.out) | exact HB.out)⟩
         ·
          rw [if_neg c21] at H
          have c21b0 : (a0_8 == a1_8) = false := beq_eq_false_iff_ne.mpr c21
          have c21b1 : (a0_8 != a1_8) = true := bne_iff_ne.mpr c21
          obtain rfl := Option.some.inj H
          go_wp2
          go_ret
          exact ⟨by first | rfl | (simp [errW_none, errW_some] <;> rfl) | (simp [*, errW_none, errW_some] <;> rfl), by repeat (first | (with_reducible first | exact HB.out | apply below_alloc | apply pw_below_drewN | apply below_drew1 | refine below_set ?_ GE386.out | refine below_set ?_ GE387.out) | exact HB.out)⟩
        ·
         rw [if_neg c20] at H
         have c20b0 : (a0_7 == a1_7) = false := beq_eq_false_iff_ne.mpr c20
         have c20b1 : (a0_7 != a1_7) = true := bne_iff_ne.mpr c20
         obtain rfl := Option.some.inj H
         go_wp2
         go_ret
         exact ⟨by first | rfl | (simp [errW_none, errW_some] <;> rfl) | (simp [*, errW_none, errW_some] <;> rfl), by repeat (first | (with_reducible first | exact HB.out | apply below_alloc | apply pw_below_drewN | apply below_drew1 | refine below_set ?_ GE386.out | refine below_set ?_ GE387.out) | exact HB.out)⟩
       ·
        rw [if_neg c19] at H
        have c19b0 : (a0_6 == a1_6) = false := beq_eq_false_iff_ne.mpr c19
        have c19b1 : (a0_6 != a1_6) = true := bne_iff_ne.mpr c19
        obtain rfl := Option.some.inj H
        go_wp2
        go_ret
        exact ⟨by first | rfl | (simp [errW_none, errW_some] <;> rfl) | (simp [*, errW_none, errW_some] <;> rfl), by repeat (first | (with_reducible first | exact HB.out | apply below_alloc | apply pw_below_drewN | apply below_drew1 | refine below_set ?_ GE386.out | refine below_set ?_ GE387.out) | exact HB.out)⟩
      ·
       rw [if_neg c18] at H
       have c18b0 : (a0_5 == a1_5) = false := beq_eq_false_iff_ne.mpr c18
       have c18b1 : (a0_5 != a1_5) = true := bne_iff_ne.mpr c18
       obtain rfl := Option.some.inj H
       go_wp2
       go_ret
       exact ⟨by first | rfl | (simp [errW_none, errW_some] <;> rfl) | (simp [*, errW_none, errW_some] <;> rfl), by repeat (first | (with_reducible first | exact HB.out | apply below_alloc | apply pw_below_drewN | apply below_drew1 | refine below_set ?_ GE386.out | refine below_set ?_ GE387.out) | exact HB.out)⟩
     ·
      rw [if_neg c17] at H
      have c17b0 : (a0_4 == a1_4) = false := beq_eq_false_iff_ne.mpr c17
      have c17b1 : (a0_4 != a1_4) = true := bne_iff_ne.mpr c17
      obtain rfl := Option.some.inj H
      go_wp2
      go_ret
      exact ⟨by first | rfl | (simp [errW_none, errW_some] <;> rfl) | (simp [*, errW_none, errW_some] <;> rfl), by repeat (first | (with_reducible first | exact HB.out | apply below_alloc | apply pw_below_drewN | apply below_drew1 | refine below_set ?_ GE386.out | refine below_set ?_ GE387.out) | exact HB.out)⟩
  ·
   rw [if_neg c4] at H
   have c4b0 : (a0_1 == a1_1) = false := beq_eq_false_iff_ne.mpr c4
   have c4b1 : (a0_1 != a1_1) = true := bne_iff_ne.mpr c4
   obtain rfl := Option.some.inj H
   go_wp2
   go_ret
   exact ⟨by first | rfl | (simp [errW_none, errW_some] <;> rfl) | (simp [*, errW_none, errW_some] <;> rfl), by repeat (first | (with_reducible first | exact HB.out | apply below_alloc | apply pw_below_drewN | apply below_drew1 | refine below_set ?_ GE386.out | refine below_set ?_ GE387.out) | exact HB.out)⟩
 ·
  rw [if_neg c3] at H
  have c3b0 : (a0_0 == a1_0) = false := beq_eq_false_iff_ne.mpr c3
  have c3b1 : (a0_0 != a1_0) = true := bne_iff_ne.mpr c3
  obtain rfl := Option.some.inj H
  go_wp2
  go_ret
  exact ⟨by first | rfl | (simp [errW_none, errW_some] <;> rfl) | (simp [*, errW_none, errW_some] <;> rfl), by repeat (first | (with_reducible first | exact HB.out | apply below_alloc | apply pw_below_drewN | apply below_drew1 | refine below_set ?_ GE386.out | refine below_set ?_ GE387.out) | exact HB.out)⟩

/-! ### weftlaw3_packets: function 39 -/
def weftlaw3_packets.f (k : Nat) (a0_0 : Int) (a0_1 : Int) (a0_2 : Bool) (a0_3 : Bool) (a0_4 : Int) (a0_5 : Int) (a0_6 : Int) (a0_7 : Int) (a0_8 : Int) (l0_9 : List Int) (l0_10 : List Int) (a1_0 : Int) (a1_1 : Int) (a1_2 : Bool) (a1_3 : Bool) (a1_4 : Int) (a1_5 : Int) (a1_6 : Int) (a1_7 : Int) (a1_8 : Int) (l1_9 : List Int) (l1_10 : List Int) : Option (Bool) := (weftlaw3_heads.f k a0_0 a0_1 a0_2 a0_3 a0_4 a0_5 a0_6 a0_7 a0_8 l0_9 a1_0 a1_1 a1_2 a1_3 a1_4 a1_5 a1_6 a1_7 a1_8 l1_9).bind fun t391 => (if t391 = true then ((weftlaw3_same.f k l0_10 l1_10).bind fun t392 => (some t392)) else (some false))
set_option maxHeartbeats 8000000 in
set_option maxRecDepth 100000 in
theorem weftlaw3_packets.calls (k : Nat) (a0_0 : Int) (a0_1 : Int) (a0_2 : Bool) (a0_3 : Bool) (a0_4 : Int) (a0_5 : Int) (a0_6 : Int) (a0_7 : Int) (a0_8 : Int) (A0_9 : Option Addr) (c0_9 : Nat) (l0_9 : List Int) (A0_10 : Option Addr) (c0_10 : Nat) (l0_10 : List Int) (a1_0 : Int) (a1_1 : Int) (a1_2 : Bool) (a1_3 : Bool) (a1_4 : Int) (a1_5 : Int) (a1_6 : Int) (a1_7 : Int) (a1_8 : Int) (A1_9 : Option Addr) (c1_9 : Nat) (l1_9 : List Int) (A1_10 : Option Addr) (c1_10 : Nat) (l1_10 : List Int) (r : Bool) (w : World) (hr0_9 : Kd.C (Kd.int .u8) w A0_9 l0_9.length l0_9) (hc0_9 : l0_9.length ≤ c0_9) (hr0_10 : Kd.C (Kd.int .u8) w A0_10 l0_10.length l0_10) (hc0_10 : l0_10.length ≤ c0_10) (hr1_9 : Kd.C (Kd.int .u8) w A1_9 l1_9.length l1_9) (hc1_9 : l1_9.length ≤ c1_9) (hr1_10 : Kd.C (Kd.int .u8) w A1_10 l1_10.length l1_10) (hc1_10 : l1_10.length ≤ c1_10) (h : weftlaw3_packets.f k a0_0 a0_1 a0_2 a0_3 a0_4 a0_5 a0_6 a0_7 a0_8 l0_9 l0_10 a1_0 a1_1 a1_2 a1_3 a1_4 a1_5 a1_6 a1_7 a1_8 l1_9 l1_10 = some r) :
  Calls Try.prog 39 #[.agg #[.int .u8 a0_0, .int .u16 a0_1, .bool a0_2, .bool a0_3, .int .i64 a0_4, .int .u8 a0_5, .int .u8 a0_6, .int .u32 a0_7, .int .u32 a0_8, .slice A0_9 l0_9.length c0_9, .slice A0_10 l0_10.length c0_10], .agg #[.int .u8 a1_0, .int .u16 a1_1, .bool a1_2, .bool a1_3, .int .i64 a1_4, .int .u8 a1_5, .int .u8 a1_6, .int .u32 a1_7, .int .u32 a1_8, .slice A1_9 l1_9.length c1_9, .slice A1_10 l1_10.length c1_10]] w fun e w' => e = .returned (.bool r) ∧ Below w.heap.size w w' := by
 have hu43 := Try.underlying43
 have hu41 := Try.underlying41
 have HR0_9 := zam hr0_9
 have HC0_9 := zam hc0_9
 clear hr0_9 hc0_9
 have HR0_10 := zam hr0_10
 have HC0_10 := zam hc0_10
 clear hr0_10 hc0_10
 have HR1_9 := zam hr1_9
 have HC1_9 := zam hc1_9
 clear hr1_9 hc1_9
 have HR1_10 := zam hr1_10
 have HC1_10 := zam hc1_10
 clear hr1_10 hc1_10
 have HB := zam (Below.refl w.heap.size w)
 have H : ((weftlaw3_heads.f k a0_0 a0_1 a0_2 a0_3 a0_4 a0_5 a0_6 a0_7 a0_8 l0_9 a1_0 a1_1 a1_2 a1_3 a1_4 a1_5 a1_6 a1_7 a1_8 l1_9).bind fun t391 => (if t391 = true then ((weftlaw3_same.f k l0_10 l1_10).bind fun t392 => (some t392)) else (some false))) = some r := h
 clear h
 replace H := Option.bind_eq_some_iff.mp H
 obtain ⟨t391, A30, H⟩ := H
 replace H : (if t391 = true then ((weftlaw3_same.f k l0_10 l1_10).bind fun t392 => (some t392)) else (some false)) = some r := H
 have A3 := zam A30
 clear A30
 by_cases c4 : t391 = true
 ·
  subst c4
  have H1 : ((weftlaw3_same.f k l0_10 l1_10).bind fun t392 => (some t392)) = some r := by rw [if_pos rfl] at H; exact H
  clear H
  have H := H1
  clear H1
  replace H := Option.bind_eq_some_iff.mp H
  obtain ⟨t392, A50, H⟩ := H
  replace H : (some t392) = some r := H
  have A5 := zam A50
  clear A50
  obtain rfl := Option.some.inj H
  go_enter Try.func39, Try.ntmps39
  go_wp2_with (first | ((with_reducible refine gate_dst (N := 2) rfl ?_); refine box_event ?hg (N := 2) ?hd (cs := #[.int .u8 a0_0, .int .u16 a0_1, .bool a0_2, .bool a0_3, .int .i64 a0_4, .int .u8 a0_5, .int .u8 a0_6, .int .u32 a0_7, .int .u32 a0_8, .slice A0_9 l0_9.length c0_9, .slice A0_10 l0_10.length c0_10]) (t := 43) ?hr ?_; (case hd => rfl); (case hg => rfl); (case hr => first | (go_simp; done) | (go_simp; rfl)); intro gb389 hg w6 hbox hb; have n0_ := zam (below_step zqxb9_3 hb); have n1_ := zam (hbox); have n2_ := zam ((by rw [hg]; exact (below_size zqxb9_3) : w.heap.size ≤ gb389)); have n3_ := zam ((by rw [hg]; exact (below_size zqxb9_3) : w.heap.size ≤ gb389)); clear HB; have HB := n0_; have BK389 := n1_; have GW389 := n2_; have GE389 := n3_; clear n0_ n1_ n2_ n3_; clear hb hbox hg) | ((with_reducible refine gate_dst (N := 3) rfl ?_); refine box_event ?hg (N := 3) ?hd (cs := #[.int .u8 a1_0, .int .u16 a1_1, .bool a1_2, .bool a1_3, .int .i64 a1_4, .int .u8 a1_5, .int .u8 a1_6, .int .u32 a1_7, .int .u32 a1_8, .slice A1_9 l1_9.length c1_9, .slice A1_10 l1_10.length c1_10]) (t := 43) ?hr ?_; (case hd => rfl); (case hg => rfl); (case hr => first | (go_simp; done) | (go_simp; rfl)); intro gb390 hg w7 hbox hb; have n0_ := zam (blk_below (g := gb389) (o := .cells #[.int .u8 a0_0, .int .u16 a0_1, .bool a0_2, .bool a0_3, .int .i64 a0_4, .int .u8 a0_5, .int .u8 a0_6, .int .u32 a0_7, .int .u32 a0_8, .slice A0_9 l0_9.length c0_9, .slice A0_10 l0_10.length c0_10] 43 (0, 0)) zqxb9_5 hb); have n1_ := zam (below_step zqxb9_7 hb); have n2_ := zam (hbox); have n3_ := zam ((by rw [hg]; exact (below_size zqxb9_7) : w.heap.size ≤ gb390)); have n4_ := zam ((by rw [hg]; exact (below_size zqxb9_7) : w.heap.size ≤ gb390)); have n5_ := zam ((by rw [hg]; exact Nat.ne_of_lt (blk_lt (g := gb389) (o := .cells #[.int .u8 a0_0, .int .u16 a0_1, .bool a0_2, .bool a0_3, .int .i64 a0_4, .int .u8 a0_5, .int .u8 a0_6, .int .u32 a0_7, .int .u32 a0_8, .slice A0_9 l0_9.length c0_9, .slice A0_10 l0_10.length c0_10] 43 (0, 0)) zqxb9_5) : gb389 ≠ gb390)); have n6_ := zam ((by rw [hg]; exact Nat.ne_of_gt (blk_lt (g := gb389) (o := .cells #[.int .u8 a0_0, .int .u16 a0_1, .bool a0_2, .bool a0_3, .int .i64 a0_4, .int .u8 a0_5, .int .u8 a0_6, .int .u32 a0_7, .int .u32 a0_8, .slice A0_9 l0_9.length c0_9, .slice A0_10 l0_10.length c0_10] 43 (0, 0)) zqxb9_5) : gb390 ≠ gb389)); clear BK389; clear HB; have BK389 := n0_; have HB := n1_; have BK390 := n2_; have GW390 := n3_; have GE390 := n4_; have NB389_390 := n5_; have NB390_389 := n6_; clear n0_ n1_ n2_ n3_ n4_ n5_ n6_; clear hb hbox hg; have hnb8 := NB389_390.out; have hnc8 := NB390_389.out; have hcz9_0 : w7.cell? ⟨gb389, 0, none⟩ = some (.int .u8 a0_0) := (zbc BK389.out 0).trans rfl; have hcz9_1 : w7.cell? ⟨gb389, 1, none⟩ = some (.int .u16 a0_1) := (zbc BK389.out 1).trans rfl; have hcz9_2 : w7.cell? ⟨gb389, 2, none⟩ = some (.bool a0_2) := (zbc BK389.out 2).trans rfl; have hcz9_3 : w7.cell? ⟨gb389, 3, none⟩ = some (.bool a0_3) := (zbc BK389.out 3).trans rfl; have hcz9_4 : w7.cell? ⟨gb389, 4, none⟩ = some (.int .i64 a0_4) := (zbc BK389.out 4).trans rfl; have hcz9_5 : w7.cell? ⟨gb389, 5, none⟩ = some (.int .u8 a0_5) := (zbc BK389.out 5).trans rfl; have hcz9_6 : w7.cell? ⟨gb389, 6, none⟩ = some (.int .u8 a0_6) := (zbc BK389.out 6).trans rfl; have hcz9_7 : w7.cell? ⟨gb389, 7, none⟩ = some (.int .u32 a0_7) := (zbc BK389.out 7).trans rfl; have hcz9_8 : w7.cell? ⟨gb389, 8, none⟩ = some (.int .u32 a0_8) := (zbc BK389.out 8).trans rfl; have hcz9_9 : w7.cell? ⟨gb389, 9, none⟩ = some (.slice A0_9 l0_9.length c0_9) := (zbc BK389.out 9).trans rfl; have hcz9_10 : w7.cell? ⟨gb389, 10, none⟩ = some (.slice A0_10 l0_10.length c0_10) := (zbc BK389.out 10).trans rfl; have hfz9_0 := zbf BK389.out 0; have hfz9_1 := zbf BK389.out 1; have hfz9_2 := zbf BK389.out 2; have hfz9_3 := zbf BK389.out 3; have hfz9_4 := zbf BK389.out 4; have hfz9_5 := zbf BK389.out 5; have hfz9_6 := zbf BK389.out 6; have hfz9_7 := zbf BK389.out 7; have hfz9_8 := zbf BK389.out 8; have hfz9_9 := zbf BK389.out 9; have hfz9_10 := zbf BK389.out 10; have hcz10_0 : w7.cell? ⟨gb390, 0, none⟩ = some (.int .u8 a1_0) := (zbc BK390.out 0).trans rfl; have hcz10_1 : w7.cell? ⟨gb390, 1, none⟩ = some (.int .u16 a1_1) := (zbc BK390.out 1).trans rfl; have hcz10_2 : w7.cell? ⟨gb390, 2, none⟩ = some (.bool a1_2) := (zbc BK390.out 2).trans rfl; have hcz10_3 : w7.cell? ⟨gb390, 3, none⟩ = some (.bool a1_3) := (zbc BK390.out 3).trans rfl; have hcz10_4 : w7.cell? ⟨gb390, 4, none⟩ = some (.int .i64 a1_4) := (zbc BK390.out 4).trans rfl; have hcz10_5 : w7.cell? ⟨gb390, 5, none⟩ = some (.int .u8 a1_5) := (zbc BK390.out 5).trans rfl; have hcz10_6 : w7.cell? ⟨gb390, 6, none⟩ = some (.int .u8 a1_6) := (zbc BK390.out 6).trans rfl; have hcz10_7 : w7.cell? ⟨gb390, 7, none⟩ = some (.int .u32 a1_7) := (zbc BK390.out 7).trans rfl; have hcz10_8 : w7.cell? ⟨gb390, 8, none⟩ = some (.int .u32 a1_8) := (zbc BK390.out 8).trans rfl; have hcz10_9 : w7.cell? ⟨gb390, 9, none⟩ = some (.slice A1_9 l1_9.length c1_9) := (zbc BK390.out 9).trans rfl; have hcz10_10 : w7.cell? ⟨gb390, 10, none⟩ = some (.slice A1_10 l1_10.length c1_10) := (zbc BK390.out 10).trans rfl; have hfz10_0 := zbf BK390.out 0; have hfz10_1 := zbf BK390.out 1; have hfz10_2 := zbf BK390.out 2; have hfz10_3 := zbf BK390.out 3; have hfz10_4 := zbf BK390.out 4; have hfz10_5 := zbf BK390.out 5; have hfz10_6 := zbf BK390.out 6; have hfz10_7 := zbf BK390.out 7; have hfz10_8 := zbf BK390.out 8; have hfz10_9 := zbf BK390.out 9; have hfz10_10 := zbf BK390.out 10) | ((with_reducible refine gate_callee (f := 50) rfl ?_); refine goesL_ (some 9) rfl rfl Try.func50 (by kernel_rfl) rfl #[.agg #[.int .u8 a0_0, .int .u16 a0_1, .bool a0_2, .bool a0_3, .int .i64 a0_4, .int .u8 a0_5, .int .u8 a0_6, .int .u32 a0_7, .int .u32 a0_8, .slice A0_9 l0_9.length c0_9], .agg #[.int .u8 a1_0, .int .u16 a1_1, .bool a1_2, .bool a1_3, .int .i64 a1_4, .int .u8 a1_5, .int .u8 a1_6, .int .u32 a1_7, .int .u32 a1_8, .slice A1_9 l1_9.length c1_9]] rfl zqxb9_11 ?_; (with_reducible refine (weftlaw3_heads.calls k a0_0 a0_1 a0_2 a0_3 a0_4 a0_5 a0_6 a0_7 a0_8 _ _ l0_9 a1_0 a1_1 a1_2 a1_3 a1_4 a1_5 a1_6 a1_7 a1_8 _ _ l1_9 true _ ?side1 ?side2 ?side3 ?side4 A3.out).mono ?_); (case side1 => repeat (first | exact (Kd.C_below HR0_9.out HB.out) | (with_reducible refine Kd.C_alloc ?_ _) | (with_reducible refine Kd.C_drewN ?_ _) | (with_reducible refine Kd.C_drew ?_))); (case side2 => exact HC0_9.out); (case side3 => repeat (first | exact (Kd.C_below HR1_9.out HB.out) | (with_reducible refine Kd.C_alloc ?_ _) | (with_reducible refine Kd.C_drewN ?_ _) | (with_reducible refine Kd.C_drew ?_))); (case side4 => exact HC1_9.out); rintro e w11 ⟨rfl, hb⟩; refine ⟨_, rfl, ?_⟩; have n0_ := zam (blk_below (g := gb389) (o := .cells #[.int .u8 a0_0, .int .u16 a0_1, .bool a0_2, .bool a0_3, .int .i64 a0_4, .int .u8 a0_5, .int .u8 a0_6, .int .u32 a0_7, .int .u32 a0_8, .slice A0_9 l0_9.length c0_9, .slice A0_10 l0_10.length c0_10] 43 (0, 0)) zqxb9_5 hb); have n1_ := zam (blk_below (g := gb390) (o := .cells #[.int .u8 a1_0, .int .u16 a1_1, .bool a1_2, .bool a1_3, .int .i64 a1_4, .int .u8 a1_5, .int .u8 a1_6, .int .u32 a1_7, .int .u32 a1_8, .slice A1_9 l1_9.length c1_9, .slice A1_10 l1_10.length c1_10] 43 (0, 0)) zqxb9_16 hb); have n2_ := zam (below_step zqxb9_17 hb); clear BK389; clear BK390; clear HB; have BK389 := n0_; have BK390 := n1_; have HB := n2_; clear n0_ n1_ n2_; (try clear hb); (try clear hb2); (try clear hk); (try clear hi); have hcz12_0 : w11.cell? ⟨gb389, 0, none⟩ = some (.int .u8 a0_0) := (zbc BK389.out 0).trans rfl; have hcz12_1 : w11.cell? ⟨gb389, 1, none⟩ = some (.int .u16 a0_1) := (zbc BK389.out 1).trans rfl; have hcz12_2 : w11.cell? ⟨gb389, 2, none⟩ = some (.bool a0_2) := (zbc BK389.out 2).trans rfl; have hcz12_3 : w11.cell? ⟨gb389, 3, none⟩ = some (.bool a0_3) := (zbc BK389.out 3).trans rfl; have hcz12_4 : w11.cell? ⟨gb389, 4, none⟩ = some (.int .i64 a0_4) := (zbc BK389.out 4).trans rfl; have hcz12_5 : w11.cell? ⟨gb389, 5, none⟩ = some (.int .u8 a0_5) := (zbc BK389.out 5).trans rfl; have hcz12_6 : w11.cell? ⟨gb389, 6, none⟩ = some (.int .u8 a0_6) := (zbc BK389.out 6).trans rfl; have hcz12_7 : w11.cell? ⟨gb389, 7, none⟩ = some (.int .u32 a0_7) := (zbc BK389.out 7).trans rfl; have hcz12_8 : w11.cell? ⟨gb389, 8, none⟩ = some (.int .u32 a0_8) := (zbc BK389.out 8).trans rfl; have hcz12_9 : w11.cell? ⟨gb389, 9, none⟩ = some (.slice A0_9 l0_9.length c0_9) := (zbc BK389.out 9).trans rfl; have hcz12_10 : w11.cell? ⟨gb389, 10, none⟩ = some (.slice A0_10 l0_10.length c0_10) := (zbc BK389.out 10).trans rfl; have hfz12_0 := zbf BK389.out 0; have hfz12_1 := zbf BK389.out 1; have hfz12_2 := zbf BK389.out 2; have hfz12_3 := zbf BK389.out 3; have hfz12_4 := zbf BK389.out 4; have hfz12_5 := zbf BK389.out 5; have hfz12_6 := zbf BK389.out 6; have hfz12_7 := zbf BK389.out 7; have hfz12_8 := zbf BK389.out 8; have hfz12_9 := zbf BK389.out 9; have hfz12_10 := zbf BK389.out 10; have hcz13_0 : w11.cell? ⟨gb390, 0, none⟩ = some (.int .u8 a1_0) := (zbc BK390.out 0).trans rfl; have hcz13_1 : w11.cell? ⟨gb390, 1, none⟩ = some (.int .u16 a1_1) := (zbc BK390.out 1).trans rfl; have hcz13_2 : w11.cell? ⟨gb390, 2, none⟩ = some (.bool a1_2) := (zbc BK390.out 2).trans rfl; have hcz13_3 : w11.cell? ⟨gb390, 3, none⟩ = some (.bool a1_3) := (zbc BK390.out 3).trans rfl; have hcz13_4 : w11.cell? ⟨gb390, 4, none⟩ = some (.int .i64 a1_4) := (zbc BK390.out 4).trans rfl; have hcz13_5 : w11.cell? ⟨gb390, 5, none⟩ = some (.int .u8 a1_5) := (zbc BK390.out 5).trans rfl; have hcz13_6 : w11.cell? ⟨gb390, 6, none⟩ = some (.int .u8 a1_6) := (zbc BK390.out 6).trans rfl; have hcz13_7 : w11.cell? ⟨gb390, 7, none⟩ = some (.int .u32 a1_7) := (zbc BK390.out 7).trans rfl; have hcz13_8 : w11.cell? ⟨gb390, 8, none⟩ = some (.int .u32 a1_8) := (zbc BK390.out 8).trans rfl; have hcz13_9 : w11.cell? ⟨gb390, 9, none⟩ = some (.slice A1_9 l1_9.length c1_9) := (zbc BK390.out 9).trans rfl; have hcz13_10 : w11.cell? ⟨gb390, 10, none⟩ = some (.slice A1_10 l1_10.length c1_10) := (zbc BK390.out 10).trans rfl; have hfz13_0 := zbf BK390.out 0; have hfz13_1 := zbf BK390.out 1; have hfz13_2 := zbf BK390.out 2; have hfz13_3 := zbf BK390.out 3; have hfz13_4 := zbf BK390.out 4; have hfz13_5 := zbf BK390.out 5; have hfz13_6 := zbf BK390.out 6; have hfz13_7 := zbf BK390.out 7; have hfz13_8 := zbf BK390.out 8; have hfz13_9 := zbf BK390.out 9; have hfz13_10 := zbf BK390.out 10) | (go_at_call 21; (with_reducible refine (weftlaw3_same.calls k _ _ l0_10 _ _ l1_10 t392 _ ?side1 ?side2 ?side3 ?side4 A5.out).mono ?_); (case side1 => repeat (first | exact (Kd.C_below HR0_10.out HB.out) | (with_reducible refine Kd.C_alloc ?_ _) | (with_reducible refine Kd.C_drewN ?_ _) | (with_reducible refine Kd.C_drew ?_))); (case side2 => exact HC0_10.out); (case side3 => repeat (first | exact (Kd.C_below HR1_10.out HB.out) | (with_reducible refine Kd.C_alloc ?_ _) | (with_reducible refine Kd.C_drewN ?_ _) | (with_reducible refine Kd.C_drew ?_))); (case side4 => exact HC1_10.out); rintro e w' ⟨rfl, ⟨nd, rfl⟩⟩))
  go_ret
  exact ⟨by first | rfl | (simp [errW_none, errW_some] <;> rfl) | (simp [*, errW_none, errW_some] <;> rfl), by repeat (first | (with_reducible first | exact HB.out | apply below_alloc | apply pw_below_drewN | apply below_drew1 | refine below_set ?_ GE389.out | refine below_set ?_ GE390.out) | exact HB.out)⟩
 ·
  replace c4 := Bool.eq_false_iff.mpr c4
  subst c4
  have H1 : (some false) = some r := by rw [if_neg (show ¬ (false = true) by decide)] at H; exact H
  clear H
  have H := H1
  clear H1
  obtain rfl := Option.some.inj H
  go_enter Try.func39, Try.ntmps39
  go_wp2_with (first | ((with_reducible refine gate_dst (N := 2) rfl ?_); refine box_event ?hg (N := 2) ?hd (cs := #[.int .u8 a0_0, .int .u16 a0_1, .bool a0_2, .bool a0_3, .int .i64 a0_4, .int .u8 a0_5, .int .u8 a0_6, .int .u32 a0_7, .int .u32 a0_8, .slice A0_9 l0_9.length c0_9, .slice A0_10 l0_10.length c0_10]) (t := 43) ?hr ?_; (case hd => rfl); (case hg => rfl); (case hr => first | (go_simp; done) | (go_simp; rfl)); intro gb389 hg w14 hbox hb; have n0_ := zam (below_step zqxb9_3 hb); have n1_ := zam (hbox); have n2_ := zam ((by rw [hg]; exact (below_size zqxb9_3) : w.heap.size ≤ gb389)); have n3_ := zam ((by rw [hg]; exact (below_size zqxb9_3) : w.heap.size ≤ gb389)); clear HB; have HB := n0_; have BK389 := n1_; have GW389 := n2_; have GE389 := n3_; clear n0_ n1_ n2_ n3_; clear hb hbox hg) | ((with_reducible refine gate_dst (N := 3) rfl ?_); refine box_event ?hg (N := 3) ?hd (cs := #[.int .u8 a1_0, .int .u16 a1_1, .bool a1_2, .bool a1_3, .int .i64 a1_4, .int .u8 a1_5, .int .u8 a1_6, .int .u32 a1_7, .int .u32 a1_8, .slice A1_9 l1_9.length c1_9, .slice A1_10 l1_10.length c1_10]) (t := 43) ?hr ?_; (case hd => rfl); (case hg => rfl); (case hr => first | (go_simp; done) | (go_simp; rfl)); intro gb390 hg w15 hbox hb; have n0_ := zam (blk_below (g := gb389) (o := .cells #[.int .u8 a0_0, .int .u16 a0_1, .bool a0_2, .bool a0_3, .int .i64 a0_4, .int .u8 a0_5, .int .u8 a0_6, .int .u32 a0_7, .int .u32 a0_8, .slice A0_9 l0_9.length c0_9, .slice A0_10 l0_10.length c0_10] 43 (0, 0)) zqxb9_5 hb); have n1_ := zam (below_step zqxb9_7 hb); have n2_ := zam (hbox); have n3_ := zam ((by rw [hg]; exact (below_size zqxb9_7) : w.heap.size ≤ gb390)); have n4_ := zam ((by rw [hg]; exact (below_size zqxb9_7) : w.heap.size ≤ gb390)); have n5_ := zam ((by rw [hg]; exact Nat.ne_of_lt (blk_lt (g := gb389) (o := .cells #[.int .u8 a0_0, .int .u16 a0_1, .bool a0_2, .bool a0_3, .int .i64 a0_4, .int .u8 a0_5, .int .u8 a0_6, .int .u32 a0_7, .int .u32 a0_8, .slice A0_9 l0_9.length c0_9, .slice A0_10 l0_10.length c0_10] 43 (0, 0)) zqxb9_5) : gb389 ≠ gb390)); have n6_ := zam ((by rw [hg]; exact Nat.ne_of_gt (blk_lt (g := gb389) (o := .cells #[.int .u8 a0_0, .int .u16 a0_1, .bool a0_2, .bool a0_3, .int .i64 a0_4, .int .u8 a0_5, .int .u8 a0_6, .int .u32 a0_7, .int .u32 a0_8, .slice A0_9 l0_9.length c0_9, .slice A0_10 l0_10.length c0_10] 43 (0, 0)) zqxb9_5) : gb390 ≠ gb389)); clear BK389; clear HB; have BK389 := n0_; have HB := n1_; have BK390 := n2_; have GW390 := n3_; have GE390 := n4_; have NB389_390 := n5_; have NB390_389 := n6_; clear n0_ n1_ n2_ n3_ n4_ n5_ n6_; clear hb hbox hg; have hnb16 := NB389_390.out; have hnc16 := NB390_389.out; have hcz17_0 : w15.cell? ⟨gb389, 0, none⟩ = some (.int .u8 a0_0) := (zbc BK389.out 0).trans rfl; have hcz17_1 : w15.cell? ⟨gb389, 1, none⟩ = some (.int .u16 a0_1) := (zbc BK389.out 1).trans rfl; have hcz17_2 : w15.cell? ⟨gb389, 2, none⟩ = some (.bool a0_2) := (zbc BK389.out 2).trans rfl; have hcz17_3 : w15.cell? ⟨gb389, 3, none⟩ = some (.bool a0_3) := (zbc BK389.out 3).trans rfl; have hcz17_4 : w15.cell? ⟨gb389, 4, none⟩ = some (.int .i64 a0_4) := (zbc BK389.out 4).trans rfl; have hcz17_5 : w15.cell? ⟨gb389, 5, none⟩ = some (.int .u8 a0_5) := (zbc BK389.out 5).trans rfl; have hcz17_6 : w15.cell? ⟨gb389, 6, none⟩ = some (.int .u8 a0_6) := (zbc BK389.out 6).trans rfl; have hcz17_7 : w15.cell? ⟨gb389, 7, none⟩ = some (.int .u32 a0_7) := (zbc BK389.out 7).trans rfl; have hcz17_8 : w15.cell? ⟨gb389, 8, none⟩ = some (.int .u32 a0_8) := (zbc BK389.out 8).trans rfl; have hcz17_9 : w15.cell? ⟨gb389, 9, none⟩ = some (.slice A0_9 l0_9.length c0_9) := (zbc BK389.out 9).trans rfl; have hcz17_10 : w15.cell? ⟨gb389, 10, none⟩ = some (.slice A0_10 l0_10.length c0_10) := (zbc BK389.out 10).trans rfl; have hfz17_0 := zbf BK389.out 0; have hfz17_1 := zbf BK389.out 1; have hfz17_2 := zbf BK389.out 2; have hfz17_3 := zbf BK389.out 3; have hfz17_4 := zbf BK389.out 4; have hfz17_5 := zbf BK389.out 5; have hfz17_6 := zbf BK389.out 6; have hfz17_7 := zbf BK389.out 7; have hfz17_8 := zbf BK389.out 8; have hfz17_9 := zbf BK389.out 9; have hfz17_10 := zbf BK389.out 10; have hcz18_0 : w15.cell? ⟨gb390, 0, none⟩ = some (.int .u8 a1_0) := (zbc BK390.out 0).trans rfl; have hcz18_1 : w15.cell? ⟨gb390, 1, none⟩ = some (.int .u16 a1_1) := (zbc BK390.out 1).trans rfl; have hcz18_2 : w15.cell? ⟨gb390, 2, none⟩ = some (.bool a1_2) := (zbc BK390.out 2).trans rfl; have hcz18_3 : w15.cell? ⟨gb390, 3, none⟩ = some (.bool a1_3) := (zbc BK390.out 3).trans rfl; have hcz18_4 : w15.cell? ⟨gb390, 4, none⟩ = some (.int .i64 a1_4) := (zbc BK390.out 4).trans rfl; have hcz18_5 : w15.cell? ⟨gb390, 5, none⟩ = some (.int .u8 a1_5) := (zbc BK390.out 5).trans rfl; have hcz18_6 : w15.cell? ⟨gb390, 6, none⟩ = some (.int .u8 a1_6) := (zbc BK390.out 6).trans rfl; have hcz18_7 : w15.cell? ⟨gb390, 7, none⟩ = some (.int .u32 a1_7) := (zbc BK390.out 7).trans rfl; have hcz18_8 : w15.cell? ⟨gb390, 8, none⟩ = some (.int .u32 a1_8) := (zbc BK390.out 8).trans rfl; have hcz18_9 : w15.cell? ⟨gb390, 9, none⟩ = some (.slice A1_9 l1_9.length c1_9) := (zbc BK390.out 9).trans rfl; have hcz18_10 : w15.cell? ⟨gb390, 10, none⟩ = some (.slice A1_10 l1_10.length c1_10) := (zbc BK390.out 10).trans rfl; have hfz18_0 := zbf BK390.out 0; have hfz18_1 := zbf BK390.out 1; have hfz18_2 := zbf BK390.out 2; have hfz18_3 := zbf BK390.out 3; have hfz18_4 := zbf BK390.out 4; have hfz18_5 := zbf BK390.out 5; have hfz18_6 := zbf BK390.out 6; have hfz18_7 := zbf BK390.out 7; have hfz18_8 := zbf BK390.out 8; have hfz18_9 := zbf BK390.out 9; have hfz18_10 := zbf BK390.out 10) | ((with_reducible refine gate_callee (f := 50) rfl ?_); refine goesL_ (some 9) rfl rfl Try.func50 (by kernel_rfl) rfl #[.agg #[.int .u8 a0_0, .int .u16 a0_1, .bool a0_2, .bool a0_3, .int .i64 a0_4, .int .u8 a0_5, .int .u8 a0_6, .int .u32 a0_7, .int .u32 a0_8, .slice A0_9 l0_9.length c0_9], .agg #[.int .u8 a1_0, .int .u16 a1_1, .bool a1_2, .bool a1_3, .int .i64 a1_4, .int .u8 a1_5, .int .u8 a1_6, .int .u32 a1_7, .int .u32 a1_8, .slice A1_9 l1_9.length c1_9]] rfl zqxb9_11 ?_; (with_reducible refine (weftlaw3_heads.calls k a0_0 a0_1 a0_2 a0_3 a0_4 a0_5 a0_6 a0_7 a0_8 _ _ l0_9 a1_0 a1_1 a1_2 a1_3 a1_4 a1_5 a1_6 a1_7 a1_8 _ _ l1_9 false _ ?side1 ?side2 ?side3 ?side4 A3.out).mono ?_); (case side1 => repeat (first | exact (Kd.C_below HR0_9.out HB.out) | (with_reducible refine Kd.C_alloc ?_ _) | (with_reducible refine Kd.C_drewN ?_ _) | (with_reducible refine Kd.C_drew ?_))); (case side2 => exact HC0_9.out); (case side3 => repeat (first | exact (Kd.C_below HR1_9.out HB.out) | (with_reducible refine Kd.C_alloc ?_ _) | (with_reducible refine Kd.C_drewN ?_ _) | (with_reducible refine Kd.C_drew ?_))); (case side4 => exact HC1_9.out); rintro e w19 ⟨rfl, hb⟩; refine ⟨_, rfl, ?_⟩; have n0_ := zam (blk_below (g := gb389) (o := .cells #[.int .u8 a0_0, .int .u16 a0_1, .bool a0_2, .bool a0_3, .int .i64 a0_4, .int .u8 a0_5, .int .u8 a0_6, .int .u32 a0_7, .int .u32 a0_8, .slice A0_9 l0_9.length c0_9, .slice A0_10 l0_10.length c0_10] 43 (0, 0)) zqxb9_5 hb); have n1_ := zam (blk_below (g := gb390) (o := .cells #[.int .u8 a1_0, .int .u16 a1_1, .bool a1_2, .bool a1_3, .int .i64 a1_4, .int .u8 a1_5, .int .u8 a1_6, .int .u32 a1_7, .int .u32 a1_8, .slice A1_9 l1_9.length c1_9, .slice A1_10 l1_10.length c1_10] 43 (0, 0)) zqxb9_16 hb); have n2_ := zam (below_step zqxb9_17 hb); clear BK389; clear BK390; clear HB; have BK389 := n0_; have BK390 := n1_; have HB := n2_; clear n0_ n1_ n2_; (try clear hb); (try clear hb2); (try clear hk); (try clear hi)))
  go_ret
  exact ⟨by first | rfl | (simp [errW_none, errW_some] <;> rfl) | (simp [*, errW_none, errW_some] <;> rfl), by repeat (first | (with_reducible first | exact HB.out | apply below_alloc | apply pw_below_drewN | apply below_drew1 | refine below_set ?_ GE389.out | refine below_set ?_ GE390.out) | exact HB.out)⟩

end Go.Proofs.Ytbacmhegalncjaa.XB
