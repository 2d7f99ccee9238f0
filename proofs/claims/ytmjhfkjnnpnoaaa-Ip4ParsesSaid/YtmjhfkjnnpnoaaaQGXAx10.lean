-- printed by a program of this session (wip/xprint), out of the translation; Lean checks it
import Derived.Test.YtmjhfkjnnpnoaaaQGXAx0
import Derived.Test.YtmjhfkjnnpnoaaaQGXAx9
namespace Go.Proofs.Ytmjhfkjnnpnoaaa.XA
open Go.RowKit Go.Proofs.YtmjhfkjnnpnoaaaW.PrintWords Go.Proofs.YtmjhfkjnnpnoaaaW.PrintLast Go.Proofs.YtmjhfkjnnpnoaaaW.PrintMore Go.Proofs.YtmjhfkjnnpnoaaaX
theorem zq10_7 {P : Prop} (h : P := by repeat (first | (with_reducible first | exact HB.out | apply below_alloc | apply pw_below_drewN | apply below_drew1 | refine below_set ?_ GE406.out | refine below_set ?_ GE422.out | refine below_set ?_ GE423.out) | exact HB.out)) : P := h
theorem zq10_6 {P : Prop} (h : P := by repeat (first | (with_reducible first | exact HB.out | apply below_alloc | apply pw_below_drewN | apply below_drew1) | exact HB.out)) : P := h
theorem zq10_5 {P : Prop} (h : P := by (try simp only [List.map_toArray, List.map_cons, List.map_nil]); first | done | rfl | (simp only [List.length_drop, List.length_take]; rfl)) : P := h
theorem zq10_4 {P : Prop} (h : P := by first | (with_reducible assumption) | assumption) : P := h
theorem zq10_3 {P : Prop} (h : P := by repeat (first | (with_reducible first | exact HB.out | apply below_alloc | apply pw_below_drewN | apply below_drew1 | refine below_set ?_ GE406.out) | exact HB.out)) : P := h
theorem zq10_2 {P : Prop} (h : P := by first | (with_reducible exact BK406.out) | (with_reducible exact blk_drewN BK406.out _) | (with_reducible exact blk_drew BK406.out) | ((with_reducible repeat (first | refine blk_drewN ?_ _ | refine blk_drew ?_ | refine blk_alloc ?_ _)); exact BK406.out)) : P := h
theorem zq10_1 {P : Prop} (h : P := by (with_reducible repeat (first | refine blk_drewN ?_ _ | refine blk_drew ?_ | refine blk_alloc ?_ _)); refine blk_far ?_ NB406_422.out _; (with_reducible repeat (first | refine blk_drewN ?_ _ | refine blk_drew ?_ | refine blk_alloc ?_ _)); refine blk_far ?_ NB406_422.out _; (with_reducible repeat (first | refine blk_drewN ?_ _ | refine blk_drew ?_ | refine blk_alloc ?_ _)); refine blk_far ?_ NB406_422.out _; (with_reducible repeat (first | refine blk_drewN ?_ _ | refine blk_drew ?_ | refine blk_alloc ?_ _)); refine blk_far ?_ NB406_422.out _; (with_reducible repeat (first | refine blk_drewN ?_ _ | refine blk_drew ?_ | refine blk_alloc ?_ _)); refine blk_far ?_ NB406_422.out _; (with_reducible repeat (first | refine blk_drewN ?_ _ | refine blk_drew ?_ | refine blk_alloc ?_ _)); refine blk_far ?_ NB406_422.out _; (with_reducible repeat (first | refine blk_drewN ?_ _ | refine blk_drew ?_ | refine blk_alloc ?_ _)); refine blk_far ?_ NB406_422.out _; (with_reducible repeat (first | refine blk_drewN ?_ _ | refine blk_drew ?_ | refine blk_alloc ?_ _)); refine blk_far ?_ NB406_422.out _; (with_reducible repeat (first | refine blk_drewN ?_ _ | refine blk_drew ?_ | refine blk_alloc ?_ _)); refine blk_far ?_ NB406_422.out _; (with_reducible repeat (first | refine blk_drewN ?_ _ | refine blk_drew ?_ | refine blk_alloc ?_ _)); refine blk_far ?_ NB406_422.out _; first | (with_reducible exact BK406.out) | (with_reducible exact blk_drewN BK406.out _) | (with_reducible exact blk_drew BK406.out) | ((with_reducible repeat (first | refine blk_drewN ?_ _ | refine blk_drew ?_ | refine blk_alloc ?_ _)); exact BK406.out)) : P := h
theorem zq10_0 {P : Prop} (h : P := by (with_reducible repeat (first | refine blk_drewN ?_ _ | refine blk_drew ?_ | refine blk_alloc ?_ _)); refine blk_put (cs := #[.int .u8 t407, .int .u16 t408, .bool t409, .bool t410, .int .i64 t411, .int .u8 t412, .int .u8 t413, .int .u32 t414, .int .u32 t415, .slice none 0 0]) ?_ 9 _ rfl; (with_reducible repeat (first | refine blk_drewN ?_ _ | refine blk_drew ?_ | refine blk_alloc ?_ _)); refine blk_put (cs := #[.int .u8 t407, .int .u16 t408, .bool t409, .bool t410, .int .i64 t411, .int .u8 t412, .int .u8 t413, .int .u32 t414, .int .u32 0, .slice none 0 0]) ?_ 8 _ rfl; (with_reducible repeat (first | refine blk_drewN ?_ _ | refine blk_drew ?_ | refine blk_alloc ?_ _)); refine blk_put (cs := #[.int .u8 t407, .int .u16 t408, .bool t409, .bool t410, .int .i64 t411, .int .u8 t412, .int .u8 t413, .int .u32 0, .int .u32 0, .slice none 0 0]) ?_ 7 _ rfl; (with_reducible repeat (first | refine blk_drewN ?_ _ | refine blk_drew ?_ | refine blk_alloc ?_ _)); refine blk_put (cs := #[.int .u8 t407, .int .u16 t408, .bool t409, .bool t410, .int .i64 t411, .int .u8 t412, .int .u8 0, .int .u32 0, .int .u32 0, .slice none 0 0]) ?_ 6 _ rfl; (with_reducible repeat (first | refine blk_drewN ?_ _ | refine blk_drew ?_ | refine blk_alloc ?_ _)); refine blk_put (cs := #[.int .u8 t407, .int .u16 t408, .bool t409, .bool t410, .int .i64 t411, .int .u8 0, .int .u8 0, .int .u32 0, .int .u32 0, .slice none 0 0]) ?_ 5 _ rfl; (with_reducible repeat (first | refine blk_drewN ?_ _ | refine blk_drew ?_ | refine blk_alloc ?_ _)); refine blk_put (cs := #[.int .u8 t407, .int .u16 t408, .bool t409, .bool t410, .int .i64 0, .int .u8 0, .int .u8 0, .int .u32 0, .int .u32 0, .slice none 0 0]) ?_ 4 _ rfl; (with_reducible repeat (first | refine blk_drewN ?_ _ | refine blk_drew ?_ | refine blk_alloc ?_ _)); refine blk_put (cs := #[.int .u8 t407, .int .u16 t408, .bool t409, .bool false, .int .i64 0, .int .u8 0, .int .u8 0, .int .u32 0, .int .u32 0, .slice none 0 0]) ?_ 3 _ rfl; (with_reducible repeat (first | refine blk_drewN ?_ _ | refine blk_drew ?_ | refine blk_alloc ?_ _)); refine blk_put (cs := #[.int .u8 t407, .int .u16 t408, .bool false, .bool false, .int .i64 0, .int .u8 0, .int .u8 0, .int .u32 0, .int .u32 0, .slice none 0 0]) ?_ 2 _ rfl; (with_reducible repeat (first | refine blk_drewN ?_ _ | refine blk_drew ?_ | refine blk_alloc ?_ _)); refine blk_put (cs := #[.int .u8 t407, .int .u16 0, .bool false, .bool false, .int .i64 0, .int .u8 0, .int .u8 0, .int .u32 0, .int .u32 0, .slice none 0 0]) ?_ 1 _ rfl; (with_reducible repeat (first | refine blk_drewN ?_ _ | refine blk_drew ?_ | refine blk_alloc ?_ _)); refine blk_put (cs := #[.int .u8 0, .int .u16 0, .bool false, .bool false, .int .i64 0, .int .u8 0, .int .u8 0, .int .u32 0, .int .u32 0, .slice none 0 0]) ?_ 0 _ rfl; first | (with_reducible exact BK422.out) | (with_reducible exact blk_drewN BK422.out _) | (with_reducible exact blk_drew BK422.out) | ((with_reducible repeat (first | refine blk_drewN ?_ _ | refine blk_drew ?_ | refine blk_alloc ?_ _)); exact BK422.out)) : P := h
attribute [local go_sem] max2_int min2_int max_two min_two max_three min_three max_four min_four   -- for this text's walks alone
set_option linter.unusedVariables false
set_option linter.unusedSimpArgs false

/-! ### ip4_Parse: function 29 -/
def ip4_Parse.f (k : Nat) (l0 : List Int) : Option (Int × Int × Bool × Bool × Int × Int × Int × Int × Int × List Int × List Int × Int) := (ip4_read.f k l0 true).bind fun bt407 => (if bt407.2.2.2.2.2.2.2.2.2.2.2.2 = 0 then (if 20 ≤ bt407.2.2.2.2.2.2.2.2.2.2.1 then (if bt407.2.2.2.2.2.2.2.2.2.2.1 ≤ (l0.length : Int) then (if 0 ≤ bt407.2.2.2.2.2.2.2.2.2.2.1 then (if bt407.2.2.2.2.2.2.2.2.2.2.1 ≤ bt407.2.2.2.2.2.2.2.2.2.2.2.1 then (if bt407.2.2.2.2.2.2.2.2.2.2.2.1 ≤ (l0.length : Int) then ((ip4_apart.f ((l0.take (bt407.2.2.2.2.2.2.2.2.2.2.1 : Int).toNat).drop 20) ((l0.take (bt407.2.2.2.2.2.2.2.2.2.2.2.1 : Int).toNat).drop (bt407.2.2.2.2.2.2.2.2.2.2.1 : Int).toNat)).bind fun bt426 => (some (bt407.1, bt407.2.1, bt407.2.2.1, bt407.2.2.2.1, bt407.2.2.2.2.1, bt407.2.2.2.2.2.1, bt407.2.2.2.2.2.2.1, bt407.2.2.2.2.2.2.2.1, bt407.2.2.2.2.2.2.2.2.1, bt426.1, bt426.2, 0))) else (none)) else (none)) else (none)) else (none)) else (none)) else (some (0, 0, false, false, 0, 0, 0, 0, 0, ([] : List Int), ([] : List Int), bt407.2.2.2.2.2.2.2.2.2.2.2.2)))
theorem ip4_Parse.mono : ∀ a0 k, LeO (ip4_Parse.f k a0) (ip4_Parse.f (k + 1) a0) := by
  intro a0 k
  unfold ip4_Parse.f
  repeat' first
      | (with_reducible exact ip4_read.mono _ _ _)
      | (with_reducible exact LeO.refl _)
      | (with_reducible exact LeO.none _)
      | (with_reducible refine LeO.ite ?_ ?_)
      | (with_reducible refine LeO.bind ?_ (fun _ => ?_))
      | exact ip4_read.mono _ _ _
      | exact LeO.none _
      | refine LeO.ite ?_ ?_
      | refine LeO.bind ?_ (fun _ => ?_)
def ip4_Parse.T5 : Bool × List (List Nat × List Nat) := (true, [([], []), ([], []), ([0, 1], [0, 1]), ([], []), ([], []), ([], []), ([3, 4, 5], [3, 4, 5]), ([2, 6], [2, 6]), ([7], [7]), ([8], [8]), ([8], [8]), ([0, 1, 2, 3, 4, 5, 6, 7, 8, 9], []), ([11, 0, 1, 2, 3, 4, 5, 6, 7, 8, 9], [11]), ([12, 9, 7, 0, 1, 2, 3, 4, 5, 6, 7, 8, 9], [9, 12]), ([0, 1, 2, 3, 4, 5, 6, 7, 8, 9, 10, 11, 12, 13], []), ([14, 10, 13, 0, 1, 2, 3, 4, 5, 6, 7, 8, 9, 10, 11, 12, 13], [10, 14])])
def ip4_Parse.B5 : List Nat := [0, 0, 3, 0, 0, 0, 56, 127, 255, 511, 511, 1023, 3071, 7167, 16383, 32767]
theorem ip4_Parse.tab5 : rtab .any (opsOf Try.f29 5) = ip4_Parse.T5 := by kernel_rfl
theorem ip4_Parse.bits5 : waitsOk ip4_Parse.T5.2 ip4_Parse.B5 = true := by kernel_rfl
set_option maxHeartbeats 8000000 in
set_option maxRecDepth 100000 in
theorem ip4_Parse.calls (k : Nat) (A0 : Option Addr) (c0 : Nat) (l0 : List Int) (r1 : Int) (r2 : Int) (r3 : Bool) (r4 : Bool) (r5 : Int) (r6 : Int) (r7 : Int) (r8 : Int) (r9 : Int) (r10 : List Int) (r11 : List Int) (r12 : Int) (w : World) (hr0 : Kd.C (Kd.int .u8) w A0 l0.length l0) (hc0 : l0.length ≤ c0) (h : ip4_Parse.f k l0 = some (r1, r2, r3, r4, r5, r6, r7, r8, r9, r10, r11, r12)) :
    Calls Try.prog 29 #[.slice A0 l0.length c0] w fun e w' => ∃ v9_ v10_ : Value, e = .returned (.tuple #[.agg #[.int .u8 r1, .int .u16 r2, .bool r3, .bool r4, .int .i64 r5, .int .u8 r6, .int .u8 r7, .int .u32 r8, .int .u32 r9, v9_, v10_], .int .i64 r12]) ∧ Kd.V (Kd.int .u8) 5 w' w.heap.size (fun k_ => (w.heap.size ≤ k_)) v9_ r10 ∧ Kd.V (Kd.int .u8) 5 w' w.heap.size (fun k_ => (w.heap.size ≤ k_)) v10_ r11 ∧ Below w.heap.size w w' := by
  have hu33 := Try.underlying33
  have hu31 := Try.underlying31
  have HR0 := Aside0.mk hr0
  have HC0 := Aside0.mk hc0
  clear hr0 hc0
  have HB := Aside0.mk (Below.refl w.heap.size w)
  have H : ((ip4_read.f k l0 true).bind fun bt407 => (if bt407.2.2.2.2.2.2.2.2.2.2.2.2 = 0 then (if 20 ≤ bt407.2.2.2.2.2.2.2.2.2.2.1 then (if bt407.2.2.2.2.2.2.2.2.2.2.1 ≤ (l0.length : Int) then (if 0 ≤ bt407.2.2.2.2.2.2.2.2.2.2.1 then (if bt407.2.2.2.2.2.2.2.2.2.2.1 ≤ bt407.2.2.2.2.2.2.2.2.2.2.2.1 then (if bt407.2.2.2.2.2.2.2.2.2.2.2.1 ≤ (l0.length : Int) then ((ip4_apart.f ((l0.take (bt407.2.2.2.2.2.2.2.2.2.2.1 : Int).toNat).drop 20) ((l0.take (bt407.2.2.2.2.2.2.2.2.2.2.2.1 : Int).toNat).drop (bt407.2.2.2.2.2.2.2.2.2.2.1 : Int).toNat)).bind fun bt426 => (some (bt407.1, bt407.2.1, bt407.2.2.1, bt407.2.2.2.1, bt407.2.2.2.2.1, bt407.2.2.2.2.2.1, bt407.2.2.2.2.2.2.1, bt407.2.2.2.2.2.2.2.1, bt407.2.2.2.2.2.2.2.2.1, bt426.1, bt426.2, 0))) else (none)) else (none)) else (none)) else (none)) else (none)) else (some (0, 0, false, false, 0, 0, 0, 0, 0, ([] : List Int), ([] : List Int), bt407.2.2.2.2.2.2.2.2.2.2.2.2)))) = some (r1, r2, r3, r4, r5, r6, r7, r8, r9, r10, r11, r12) := h
  clear h
  replace H := Option.bind_eq_some_iff.mp H
  obtain ⟨⟨t407, t408, t409, t410, t411, t412, t413, t414, t415, t416, t419, t420, t421⟩, A20, H⟩ := H
  replace H : (if t421 = 0 then (if 20 ≤ t419 then (if t419 ≤ (l0.length : Int) then (if 0 ≤ t419 then (if t419 ≤ t420 then (if t420 ≤ (l0.length : Int) then ((ip4_apart.f ((l0.take (t419 : Int).toNat).drop 20) ((l0.take (t420 : Int).toNat).drop (t419 : Int).toNat)).bind fun bt426 => (some (t407, t408, t409, t410, t411, t412, t413, t414, t415, bt426.1, bt426.2, 0))) else (none)) else (none)) else (none)) else (none)) else (none)) else (some (0, 0, false, false, 0, 0, 0, 0, 0, ([] : List Int), ([] : List Int), t421))) = some (r1, r2, r3, r4, r5, r6, r7, r8, r9, r10, r11, r12) := H
  have A2 := Aside0.mk A20
  clear A20
  by_cases c3 : t421 = 0
  · rw [if_pos c3] at H
    have c3b0 : (t421 == 0) = true := beq_iff_eq.mpr c3
    have c3b1 : (t421 != 0) = false := bne_eq_false_iff_eq.mpr c3
    clear c3
    by_cases c4 : 20 ≤ t419
    · rw [if_pos c4] at H
      have c4b0 := eq_true c4
      have c4b1 : decide (20 ≤ t419) = true := decide_eq_true c4
      clear c4
      by_cases c5 : t419 ≤ (l0.length : Int)
      · rw [if_pos c5] at H
        have c5b0 := eq_true c5
        have c5b1 : decide (t419 ≤ (l0.length : Int)) = true := decide_eq_true c5
        clear c5
        by_cases c6 : 0 ≤ t419
        · rw [if_pos c6] at H
          have c6b0 := eq_true c6
          have c6b1 : decide (0 ≤ t419) = true := decide_eq_true c6
          clear c6
          by_cases c7 : t419 ≤ t420
          · rw [if_pos c7] at H
            have c7b0 := eq_true c7
            have c7b1 : decide (t419 ≤ t420) = true := decide_eq_true c7
            clear c7
            by_cases c8 : t420 ≤ (l0.length : Int)
            · rw [if_pos c8] at H
              have c8b0 := eq_true c8
              have c8b1 : decide (t420 ≤ (l0.length : Int)) = true := decide_eq_true c8
              clear c8
              replace H := Option.bind_eq_some_iff.mp H
              obtain ⟨⟨t426, t429⟩, A90, H⟩ := H
              replace H : (some (t407, t408, t409, t410, t411, t412, t413, t414, t415, t426, t429, 0)) = some (r1, r2, r3, r4, r5, r6, r7, r8, r9, r10, r11, r12) := H
              have A9 := Aside0.mk A90
              clear A90
              simp only [Option.some.injEq, Prod.mk.injEq] at H
              obtain ⟨rfl, rfl, rfl, rfl, rfl, rfl, rfl, rfl, rfl, rfl, rfl, rfl⟩ := H
              go_enter Try.func29, Try.ntmps29
              try go_wp2_with (first | ((with_reducible refine gate_dst (N := 2) rfl ?_); refine box_event ?hg (N := 2) ?hd (cs := #[.int .u8 0, .int .u16 0, .bool false, .bool false, .int .i64 0, .int .u8 0, .int .u8 0, .int .u32 0, .int .u32 0, .slice none 0 0, .slice none 0 0]) (t := 33) ?hr ?_; (case hd => rfl); (case hg => rfl); (case hr => first | (go_simp; done) | (go_simp; rfl)); intro gb406 hg w10 hbox hb; have n0_ := Aside0.mk (below_step zq10_6 hb); have n1_ := Aside0.mk (hbox); have n2_ := Aside0.mk ((by rw [hg]; exact (below_size zq10_6) : w.heap.size ≤ gb406)); have n3_ := Aside0.mk ((by rw [hg]; exact (below_size zq10_6) : w.heap.size ≤ gb406)); clear HB; have HB := n0_; have BK406 := n1_; have GW406 := n2_; have GE406 := n3_; clear n0_ n1_ n2_ n3_; clear hb hbox hg) | ((with_reducible refine gate_callee (f := 47) rfl ?_); refine goesL_ (some 11) rfl rfl Try.func47 (by kernel_rfl) rfl #[.slice A0 l0.length c0, .bool true] rfl zq10_5 ?_; (with_reducible refine (ip4_read.calls k _ _ l0 true t407 t408 t409 t410 t411 t412 t413 t414 t415 t416 t419 t420 t421 _ ?side1 ?side2 A2.out).mono ?_); (case side1 => repeat (first | exact (Kd.C_below HR0.out HB.out) | (with_reducible refine Kd.C_alloc ?_ _) | (with_reducible refine Kd.C_drewN ?_ _) | (with_reducible refine Kd.C_drew ?_))); (case side2 => exact HC0.out); rintro e w11 ⟨v417, rfl, ho0, hb⟩; refine ⟨_, rfl, ?_⟩; have n0_ := Aside0.mk (Kd.R_lower (Kd.R_newM (M := fun k_ => (w.heap.size ≤ k_)) ho0 (below_size zq10_3) (fun k_ h_ => h_)) (below_size zq10_3)); have n1_ := Aside0.mk (blk_below (g := gb406) (o := .cells #[.int .u8 0, .int .u16 0, .bool false, .bool false, .int .i64 0, .int .u8 0, .int .u8 0, .int .u32 0, .int .u32 0, .slice none 0 0, .slice none 0 0] 33 (0, 0)) zq10_2 hb); have n2_ := Aside0.mk (below_step zq10_3 hb); clear BK406; clear HB; have HO418 := n0_; have BK406 := n1_; have HB := n2_; clear n0_ n1_ n2_; (try clear hb); (try clear hb2); (try clear hk); (try clear hi); (try clear ho0)) | ((with_reducible refine gate_dst (N := 4) rfl ?_); refine box_event ?hg (N := 4) ?hd (cs := #[.int .u8 0, .int .u16 0, .bool false, .bool false, .int .i64 0, .int .u8 0, .int .u8 0, .int .u32 0, .int .u32 0, .slice none 0 0]) (t := 31) ?hr ?_; (case hd => rfl); (case hg => rfl); (case hr => first | (go_simp; done) | (go_simp; rfl)); intro gb422 hg w12 hbox hb; have n0_ := Aside0.mk (Kd.R_below (by (with_reducible repeat (first | apply Kd.R_alloc | apply Kd.R_drewN | apply Kd.R_drew)); exact HO418.out) hb); have n1_ := Aside0.mk (blk_below (g := gb406) (o := .cells #[.int .u8 0, .int .u16 0, .bool false, .bool false, .int .i64 0, .int .u8 0, .int .u8 0, .int .u32 0, .int .u32 0, .slice none 0 0, .slice none 0 0] 33 (0, 0)) zq10_2 hb); have n2_ := Aside0.mk (below_step zq10_3 hb); have n3_ := Aside0.mk (hbox); have n4_ := Aside0.mk ((by rw [hg]; exact (below_size zq10_3) : w.heap.size ≤ gb422)); have n5_ := Aside0.mk ((by rw [hg]; exact (below_size zq10_3) : w.heap.size ≤ gb422)); have n6_ := Aside0.mk ((by rw [hg]; exact Nat.ne_of_lt (blk_lt (g := gb406) (o := .cells #[.int .u8 0, .int .u16 0, .bool false, .bool false, .int .i64 0, .int .u8 0, .int .u8 0, .int .u32 0, .int .u32 0, .slice none 0 0, .slice none 0 0] 33 (0, 0)) zq10_2) : gb406 ≠ gb422)); have n7_ := Aside0.mk ((by rw [hg]; exact Nat.ne_of_gt (blk_lt (g := gb406) (o := .cells #[.int .u8 0, .int .u16 0, .bool false, .bool false, .int .i64 0, .int .u8 0, .int .u8 0, .int .u32 0, .int .u32 0, .slice none 0 0, .slice none 0 0] 33 (0, 0)) zq10_2) : gb422 ≠ gb406)); clear HO418; clear BK406; clear HB; have HO418 := n0_; have BK406 := n1_; have HB := n2_; have BK422 := n3_; have GW422 := n4_; have GE422 := n5_; have NB406_422 := n6_; have NB422_406 := n7_; clear n0_ n1_ n2_ n3_ n4_ n5_ n6_ n7_; clear hb hbox hg; have hnb13 := NB422_406.out; have hnc13 := NB406_422.out; have hcz14_0 : w12.cell? ⟨gb422, 0, none⟩ = some (.int .u8 0) := (blk_cell BK422.out 0).trans rfl; have hcz14_1 : w12.cell? ⟨gb422, 1, none⟩ = some (.int .u16 0) := (blk_cell BK422.out 1).trans rfl; have hcz14_2 : w12.cell? ⟨gb422, 2, none⟩ = some (.bool false) := (blk_cell BK422.out 2).trans rfl; have hcz14_3 : w12.cell? ⟨gb422, 3, none⟩ = some (.bool false) := (blk_cell BK422.out 3).trans rfl; have hcz14_4 : w12.cell? ⟨gb422, 4, none⟩ = some (.int .i64 0) := (blk_cell BK422.out 4).trans rfl; have hcz14_5 : w12.cell? ⟨gb422, 5, none⟩ = some (.int .u8 0) := (blk_cell BK422.out 5).trans rfl; have hcz14_6 : w12.cell? ⟨gb422, 6, none⟩ = some (.int .u8 0) := (blk_cell BK422.out 6).trans rfl; have hcz14_7 : w12.cell? ⟨gb422, 7, none⟩ = some (.int .u32 0) := (blk_cell BK422.out 7).trans rfl; have hcz14_8 : w12.cell? ⟨gb422, 8, none⟩ = some (.int .u32 0) := (blk_cell BK422.out 8).trans rfl; have hcz14_9 : w12.cell? ⟨gb422, 9, none⟩ = some (.slice none 0 0) := (blk_cell BK422.out 9).trans rfl; have hfz14_0 := blk_frozen BK422.out 0; have hfz14_1 := blk_frozen BK422.out 1; have hfz14_2 := blk_frozen BK422.out 2; have hfz14_3 := blk_frozen BK422.out 3; have hfz14_4 := blk_frozen BK422.out 4; have hfz14_5 := blk_frozen BK422.out 5; have hfz14_6 := blk_frozen BK422.out 6; have hfz14_7 := blk_frozen BK422.out 7; have hfz14_8 := blk_frozen BK422.out 8; have hfz14_9 := blk_frozen BK422.out 9; obtain ⟨Ao15, co15, eo15⟩ := Kd.R_slice HO418.out; subst eo15) | ((with_reducible refine gate_dst (N := 8) rfl ?_); refine box_event ?hg (N := 8) ?hd (cs := #[.int .u8 0, .int .u16 0, .bool false, .bool false, .int .i64 0, .int .u8 0, .int .u8 0, .int .u32 0, .int .u32 0, .slice none 0 0, .slice none 0 0]) (t := 33) ?hr ?_; (case hd => rfl); (case hg => rfl); (case hr => first | (go_simp; done) | (go_simp; rfl)); intro gb423 hg w16 hbox hb; have n0_ := Aside0.mk (Kd.R_below (by (with_reducible repeat (first | apply Kd.R_alloc | apply Kd.R_drewN | apply Kd.R_drew)); exact (Kd.R_mono (Kd.R_far (p := ⟨gb422, 9, none⟩) (Kd.R_far (p := ⟨gb422, 8, none⟩) (Kd.R_far (p := ⟨gb422, 7, none⟩) (Kd.R_far (p := ⟨gb422, 6, none⟩) (Kd.R_far (p := ⟨gb422, 5, none⟩) (Kd.R_far (p := ⟨gb422, 4, none⟩) (Kd.R_far (p := ⟨gb422, 3, none⟩) (Kd.R_far (p := ⟨gb422, 2, none⟩) (Kd.R_far (p := ⟨gb422, 1, none⟩) (Kd.R_far (p := ⟨gb422, 0, none⟩) (Kd.R_types HO418.out BK422.out (by decide)) (fun _ hk => hk.2) (.int .u8 t407)) (fun _ hk => hk.2) (.int .u16 t408)) (fun _ hk => hk.2) (.bool t409)) (fun _ hk => hk.2) (.bool t410)) (fun _ hk => hk.2) (.int .i64 t411)) (fun _ hk => hk.2) (.int .u8 t412)) (fun _ hk => hk.2) (.int .u8 t413)) (fun _ hk => hk.2) (.int .u32 t414)) (fun _ hk => hk.2) (.int .u32 t415)) (fun _ hk => hk.2) (.slice Ao15 t416.length co15)) (fun _ h_ => h_.1))) hb); have n1_ := Aside0.mk (blk_below (g := gb406) (o := .cells #[.int .u8 0, .int .u16 0, .bool false, .bool false, .int .i64 0, .int .u8 0, .int .u8 0, .int .u32 0, .int .u32 0, .slice none 0 0, .slice none 0 0] 33 (0, 0)) zq10_1 hb); have n2_ := Aside0.mk (blk_below (g := gb422) (o := .cells #[.int .u8 t407, .int .u16 t408, .bool t409, .bool t410, .int .i64 t411, .int .u8 t412, .int .u8 t413, .int .u32 t414, .int .u32 t415, .slice Ao15 t416.length co15] 31 (0, 0)) zq10_0 hb); have n3_ := Aside0.mk (below_step (by repeat (first | (with_reducible first | exact HB.out | apply below_alloc | apply pw_below_drewN | apply below_drew1 | refine below_set ?_ GE406.out | refine below_set ?_ GE422.out) | exact HB.out)) hb); have n4_ := Aside0.mk (hbox); have n5_ := Aside0.mk ((by rw [hg]; exact (below_size (by repeat (first | (with_reducible first | exact HB.out | apply below_alloc | apply pw_below_drewN | apply below_drew1 | refine below_set ?_ GE406.out | refine below_set ?_ GE422.out) | exact HB.out))) : w.heap.size ≤ gb423)); have n6_ := Aside0.mk ((by rw [hg]; exact (below_size (by repeat (first | (with_reducible first | exact HB.out | apply below_alloc | apply pw_below_drewN | apply below_drew1 | refine below_set ?_ GE406.out | refine below_set ?_ GE422.out) | exact HB.out))) : w.heap.size ≤ gb423)); have n7_ := Aside0.mk ((by rw [hg]; exact Nat.ne_of_lt (blk_lt (g := gb406) (o := .cells #[.int .u8 0, .int .u16 0, .bool false, .bool false, .int .i64 0, .int .u8 0, .int .u8 0, .int .u32 0, .int .u32 0, .slice none 0 0, .slice none 0 0] 33 (0, 0)) zq10_1) : gb406 ≠ gb423)); have n8_ := Aside0.mk ((by rw [hg]; exact Nat.ne_of_gt (blk_lt (g := gb406) (o := .cells #[.int .u8 0, .int .u16 0, .bool false, .bool false, .int .i64 0, .int .u8 0, .int .u8 0, .int .u32 0, .int .u32 0, .slice none 0 0, .slice none 0 0] 33 (0, 0)) zq10_1) : gb423 ≠ gb406)); have n9_ := Aside0.mk ((by rw [hg]; exact Nat.ne_of_lt (blk_lt (g := gb422) (o := .cells #[.int .u8 t407, .int .u16 t408, .bool t409, .bool t410, .int .i64 t411, .int .u8 t412, .int .u8 t413, .int .u32 t414, .int .u32 t415, .slice Ao15 t416.length co15] 31 (0, 0)) zq10_0) : gb422 ≠ gb423)); have n10_ := Aside0.mk ((by rw [hg]; exact Nat.ne_of_gt (blk_lt (g := gb422) (o := .cells #[.int .u8 t407, .int .u16 t408, .bool t409, .bool t410, .int .i64 t411, .int .u8 t412, .int .u8 t413, .int .u32 t414, .int .u32 t415, .slice Ao15 t416.length co15] 31 (0, 0)) zq10_0) : gb423 ≠ gb422)); clear HO418; clear BK406; clear BK422; clear HB; have HO418 := n0_; have BK406 := n1_; have BK422 := n2_; have HB := n3_; have BK423 := n4_; have GW423 := n5_; have GE423 := n6_; have NB406_423 := n7_; have NB423_406 := n8_; have NB422_423 := n9_; have NB423_422 := n10_; clear n0_ n1_ n2_ n3_ n4_ n5_ n6_ n7_ n8_ n9_ n10_; clear hb hbox hg; have hnb17 := NB423_406.out; have hnc17 := NB406_423.out; have hnb18 := NB423_422.out; have hnc18 := NB422_423.out; have hcz19_0 : w16.cell? ⟨gb423, 0, none⟩ = some (.int .u8 0) := (blk_cell BK423.out 0).trans rfl; have hcz19_1 : w16.cell? ⟨gb423, 1, none⟩ = some (.int .u16 0) := (blk_cell BK423.out 1).trans rfl; have hcz19_2 : w16.cell? ⟨gb423, 2, none⟩ = some (.bool false) := (blk_cell BK423.out 2).trans rfl; have hcz19_3 : w16.cell? ⟨gb423, 3, none⟩ = some (.bool false) := (blk_cell BK423.out 3).trans rfl; have hcz19_4 : w16.cell? ⟨gb423, 4, none⟩ = some (.int .i64 0) := (blk_cell BK423.out 4).trans rfl; have hcz19_5 : w16.cell? ⟨gb423, 5, none⟩ = some (.int .u8 0) := (blk_cell BK423.out 5).trans rfl; have hcz19_6 : w16.cell? ⟨gb423, 6, none⟩ = some (.int .u8 0) := (blk_cell BK423.out 6).trans rfl; have hcz19_7 : w16.cell? ⟨gb423, 7, none⟩ = some (.int .u32 0) := (blk_cell BK423.out 7).trans rfl; have hcz19_8 : w16.cell? ⟨gb423, 8, none⟩ = some (.int .u32 0) := (blk_cell BK423.out 8).trans rfl; have hcz19_9 : w16.cell? ⟨gb423, 9, none⟩ = some (.slice none 0 0) := (blk_cell BK423.out 9).trans rfl; have hcz19_10 : w16.cell? ⟨gb423, 10, none⟩ = some (.slice none 0 0) := (blk_cell BK423.out 10).trans rfl; have hfz19_0 := blk_frozen BK423.out 0; have hfz19_1 := blk_frozen BK423.out 1; have hfz19_2 := blk_frozen BK423.out 2; have hfz19_3 := blk_frozen BK423.out 3; have hfz19_4 := blk_frozen BK423.out 4; have hfz19_5 := blk_frozen BK423.out 5; have hfz19_6 := blk_frozen BK423.out 6; have hfz19_7 := blk_frozen BK423.out 7; have hfz19_8 := blk_frozen BK423.out 8; have hfz19_9 := blk_frozen BK423.out 9; have hfz19_10 := blk_frozen BK423.out 10))
              have n0_ : Aside0 (Kd.R (Kd.int .u8) 5 (((((((((((w16.setCell ⟨gb423, 0, none⟩ (.int .u8 t407)).setCell ⟨gb423, 1, none⟩ (.int .u16 t408)).setCell ⟨gb423, 2, none⟩ (.bool t409)).setCell ⟨gb423, 3, none⟩ (.bool t410)).setCell ⟨gb423, 4, none⟩ (.int .i64 t411)).setCell ⟨gb423, 5, none⟩ (.int .u8 t412)).setCell ⟨gb423, 6, none⟩ (.int .u8 t413)).setCell ⟨gb423, 7, none⟩ (.int .u32 t414)).setCell ⟨gb423, 8, none⟩ (.int .u32 t415)).setCell ⟨gb423, 9, none⟩ (.slice Ao15 t416.length co15)).setCell ⟨gb423, 10, none⟩ (.slice none 0 0)) w.heap.size (fun k_ => (w.heap.size ≤ k_)) (.slice Ao15 t416.length co15) t416) := ⟨by (with_reducible repeat (first | apply Kd.R_alloc | apply Kd.R_drewN | apply Kd.R_drew)); exact Kd.R_mono (Kd.R_far (p := ⟨gb423, 10, none⟩) (Kd.R_far (p := ⟨gb423, 9, none⟩) (Kd.R_far (p := ⟨gb423, 8, none⟩) (Kd.R_far (p := ⟨gb423, 7, none⟩) (Kd.R_far (p := ⟨gb423, 6, none⟩) (Kd.R_far (p := ⟨gb423, 5, none⟩) (Kd.R_far (p := ⟨gb423, 4, none⟩) (Kd.R_far (p := ⟨gb423, 3, none⟩) (Kd.R_far (p := ⟨gb423, 2, none⟩) (Kd.R_far (p := ⟨gb423, 1, none⟩) (Kd.R_far (p := ⟨gb423, 0, none⟩) (Kd.R_types HO418.out BK423.out (by decide)) (fun _ hk => hk.2) (.int .u8 t407)) (fun _ hk => hk.2) (.int .u16 t408)) (fun _ hk => hk.2) (.bool t409)) (fun _ hk => hk.2) (.bool t410)) (fun _ hk => hk.2) (.int .i64 t411)) (fun _ hk => hk.2) (.int .u8 t412)) (fun _ hk => hk.2) (.int .u8 t413)) (fun _ hk => hk.2) (.int .u32 t414)) (fun _ hk => hk.2) (.int .u32 t415)) (fun _ hk => hk.2) (.slice Ao15 t416.length co15)) (fun _ hk => hk.2) (.slice none 0 0)) (fun _ hk => hk.1.1)⟩
              have n1_ : Aside0 ((((((((((((w16.setCell ⟨gb423, 0, none⟩ (.int .u8 t407)).setCell ⟨gb423, 1, none⟩ (.int .u16 t408)).setCell ⟨gb423, 2, none⟩ (.bool t409)).setCell ⟨gb423, 3, none⟩ (.bool t410)).setCell ⟨gb423, 4, none⟩ (.int .i64 t411)).setCell ⟨gb423, 5, none⟩ (.int .u8 t412)).setCell ⟨gb423, 6, none⟩ (.int .u8 t413)).setCell ⟨gb423, 7, none⟩ (.int .u32 t414)).setCell ⟨gb423, 8, none⟩ (.int .u32 t415)).setCell ⟨gb423, 9, none⟩ (.slice Ao15 t416.length co15)).setCell ⟨gb423, 10, none⟩ (.slice none 0 0)).heap[gb406]? = some (.cells #[.int .u8 0, .int .u16 0, .bool false, .bool false, .int .i64 0, .int .u8 0, .int .u8 0, .int .u32 0, .int .u32 0, .slice none 0 0, .slice none 0 0] 33 (0, 0))) := ⟨by (with_reducible repeat (first | refine blk_drewN ?_ _ | refine blk_drew ?_ | refine blk_alloc ?_ _)); refine blk_far ?_ NB406_423.out _; (with_reducible repeat (first | refine blk_drewN ?_ _ | refine blk_drew ?_ | refine blk_alloc ?_ _)); refine blk_far ?_ NB406_423.out _; (with_reducible repeat (first | refine blk_drewN ?_ _ | refine blk_drew ?_ | refine blk_alloc ?_ _)); refine blk_far ?_ NB406_423.out _; (with_reducible repeat (first | refine blk_drewN ?_ _ | refine blk_drew ?_ | refine blk_alloc ?_ _)); refine blk_far ?_ NB406_423.out _; (with_reducible repeat (first | refine blk_drewN ?_ _ | refine blk_drew ?_ | refine blk_alloc ?_ _)); refine blk_far ?_ NB406_423.out _; (with_reducible repeat (first | refine blk_drewN ?_ _ | refine blk_drew ?_ | refine blk_alloc ?_ _)); refine blk_far ?_ NB406_423.out _; (with_reducible repeat (first | refine blk_drewN ?_ _ | refine blk_drew ?_ | refine blk_alloc ?_ _)); refine blk_far ?_ NB406_423.out _; (with_reducible repeat (first | refine blk_drewN ?_ _ | refine blk_drew ?_ | refine blk_alloc ?_ _)); refine blk_far ?_ NB406_423.out _; (with_reducible repeat (first | refine blk_drewN ?_ _ | refine blk_drew ?_ | refine blk_alloc ?_ _)); refine blk_far ?_ NB406_423.out _; (with_reducible repeat (first | refine blk_drewN ?_ _ | refine blk_drew ?_ | refine blk_alloc ?_ _)); refine blk_far ?_ NB406_423.out _; (with_reducible repeat (first | refine blk_drewN ?_ _ | refine blk_drew ?_ | refine blk_alloc ?_ _)); refine blk_far ?_ NB406_423.out _; first | (with_reducible exact BK406.out) | (with_reducible exact blk_drewN BK406.out _) | (with_reducible exact blk_drew BK406.out) | ((with_reducible repeat (first | refine blk_drewN ?_ _ | refine blk_drew ?_ | refine blk_alloc ?_ _)); exact BK406.out)⟩
              have n2_ : Aside0 ((((((((((((w16.setCell ⟨gb423, 0, none⟩ (.int .u8 t407)).setCell ⟨gb423, 1, none⟩ (.int .u16 t408)).setCell ⟨gb423, 2, none⟩ (.bool t409)).setCell ⟨gb423, 3, none⟩ (.bool t410)).setCell ⟨gb423, 4, none⟩ (.int .i64 t411)).setCell ⟨gb423, 5, none⟩ (.int .u8 t412)).setCell ⟨gb423, 6, none⟩ (.int .u8 t413)).setCell ⟨gb423, 7, none⟩ (.int .u32 t414)).setCell ⟨gb423, 8, none⟩ (.int .u32 t415)).setCell ⟨gb423, 9, none⟩ (.slice Ao15 t416.length co15)).setCell ⟨gb423, 10, none⟩ (.slice none 0 0)).heap[gb422]? = some (.cells #[.int .u8 t407, .int .u16 t408, .bool t409, .bool t410, .int .i64 t411, .int .u8 t412, .int .u8 t413, .int .u32 t414, .int .u32 t415, .slice Ao15 t416.length co15] 31 (0, 0))) := ⟨by (with_reducible repeat (first | refine blk_drewN ?_ _ | refine blk_drew ?_ | refine blk_alloc ?_ _)); refine blk_far ?_ NB422_423.out _; (with_reducible repeat (first | refine blk_drewN ?_ _ | refine blk_drew ?_ | refine blk_alloc ?_ _)); refine blk_far ?_ NB422_423.out _; (with_reducible repeat (first | refine blk_drewN ?_ _ | refine blk_drew ?_ | refine blk_alloc ?_ _)); refine blk_far ?_ NB422_423.out _; (with_reducible repeat (first | refine blk_drewN ?_ _ | refine blk_drew ?_ | refine blk_alloc ?_ _)); refine blk_far ?_ NB422_423.out _; (with_reducible repeat (first | refine blk_drewN ?_ _ | refine blk_drew ?_ | refine blk_alloc ?_ _)); refine blk_far ?_ NB422_423.out _; (with_reducible repeat (first | refine blk_drewN ?_ _ | refine blk_drew ?_ | refine blk_alloc ?_ _)); refine blk_far ?_ NB422_423.out _; (with_reducible repeat (first | refine blk_drewN ?_ _ | refine blk_drew ?_ | refine blk_alloc ?_ _)); refine blk_far ?_ NB422_423.out _; (with_reducible repeat (first | refine blk_drewN ?_ _ | refine blk_drew ?_ | refine blk_alloc ?_ _)); refine blk_far ?_ NB422_423.out _; (with_reducible repeat (first | refine blk_drewN ?_ _ | refine blk_drew ?_ | refine blk_alloc ?_ _)); refine blk_far ?_ NB422_423.out _; (with_reducible repeat (first | refine blk_drewN ?_ _ | refine blk_drew ?_ | refine blk_alloc ?_ _)); refine blk_far ?_ NB422_423.out _; (with_reducible repeat (first | refine blk_drewN ?_ _ | refine blk_drew ?_ | refine blk_alloc ?_ _)); refine blk_far ?_ NB422_423.out _; first | (with_reducible exact BK422.out) | (with_reducible exact blk_drewN BK422.out _) | (with_reducible exact blk_drew BK422.out) | ((with_reducible repeat (first | refine blk_drewN ?_ _ | refine blk_drew ?_ | refine blk_alloc ?_ _)); exact BK422.out)⟩
              have n3_ : Aside0 ((((((((((((w16.setCell ⟨gb423, 0, none⟩ (.int .u8 t407)).setCell ⟨gb423, 1, none⟩ (.int .u16 t408)).setCell ⟨gb423, 2, none⟩ (.bool t409)).setCell ⟨gb423, 3, none⟩ (.bool t410)).setCell ⟨gb423, 4, none⟩ (.int .i64 t411)).setCell ⟨gb423, 5, none⟩ (.int .u8 t412)).setCell ⟨gb423, 6, none⟩ (.int .u8 t413)).setCell ⟨gb423, 7, none⟩ (.int .u32 t414)).setCell ⟨gb423, 8, none⟩ (.int .u32 t415)).setCell ⟨gb423, 9, none⟩ (.slice Ao15 t416.length co15)).setCell ⟨gb423, 10, none⟩ (.slice none 0 0)).heap[gb423]? = some (.cells #[.int .u8 t407, .int .u16 t408, .bool t409, .bool t410, .int .i64 t411, .int .u8 t412, .int .u8 t413, .int .u32 t414, .int .u32 t415, .slice Ao15 t416.length co15, .slice none 0 0] 33 (0, 0))) := ⟨by (with_reducible repeat (first | refine blk_drewN ?_ _ | refine blk_drew ?_ | refine blk_alloc ?_ _)); refine blk_put (cs := #[.int .u8 t407, .int .u16 t408, .bool t409, .bool t410, .int .i64 t411, .int .u8 t412, .int .u8 t413, .int .u32 t414, .int .u32 t415, .slice Ao15 t416.length co15, .slice none 0 0]) ?_ 10 _ rfl; (with_reducible repeat (first | refine blk_drewN ?_ _ | refine blk_drew ?_ | refine blk_alloc ?_ _)); refine blk_put (cs := #[.int .u8 t407, .int .u16 t408, .bool t409, .bool t410, .int .i64 t411, .int .u8 t412, .int .u8 t413, .int .u32 t414, .int .u32 t415, .slice none 0 0, .slice none 0 0]) ?_ 9 _ rfl; (with_reducible repeat (first | refine blk_drewN ?_ _ | refine blk_drew ?_ | refine blk_alloc ?_ _)); refine blk_put (cs := #[.int .u8 t407, .int .u16 t408, .bool t409, .bool t410, .int .i64 t411, .int .u8 t412, .int .u8 t413, .int .u32 t414, .int .u32 0, .slice none 0 0, .slice none 0 0]) ?_ 8 _ rfl; (with_reducible repeat (first | refine blk_drewN ?_ _ | refine blk_drew ?_ | refine blk_alloc ?_ _)); refine blk_put (cs := #[.int .u8 t407, .int .u16 t408, .bool t409, .bool t410, .int .i64 t411, .int .u8 t412, .int .u8 t413, .int .u32 0, .int .u32 0, .slice none 0 0, .slice none 0 0]) ?_ 7 _ rfl; (with_reducible repeat (first | refine blk_drewN ?_ _ | refine blk_drew ?_ | refine blk_alloc ?_ _)); refine blk_put (cs := #[.int .u8 t407, .int .u16 t408, .bool t409, .bool t410, .int .i64 t411, .int .u8 t412, .int .u8 0, .int .u32 0, .int .u32 0, .slice none 0 0, .slice none 0 0]) ?_ 6 _ rfl; (with_reducible repeat (first | refine blk_drewN ?_ _ | refine blk_drew ?_ | refine blk_alloc ?_ _)); refine blk_put (cs := #[.int .u8 t407, .int .u16 t408, .bool t409, .bool t410, .int .i64 t411, .int .u8 0, .int .u8 0, .int .u32 0, .int .u32 0, .slice none 0 0, .slice none 0 0]) ?_ 5 _ rfl; (with_reducible repeat (first | refine blk_drewN ?_ _ | refine blk_drew ?_ | refine blk_alloc ?_ _)); refine blk_put (cs := #[.int .u8 t407, .int .u16 t408, .bool t409, .bool t410, .int .i64 0, .int .u8 0, .int .u8 0, .int .u32 0, .int .u32 0, .slice none 0 0, .slice none 0 0]) ?_ 4 _ rfl; (with_reducible repeat (first | refine blk_drewN ?_ _ | refine blk_drew ?_ | refine blk_alloc ?_ _)); refine blk_put (cs := #[.int .u8 t407, .int .u16 t408, .bool t409, .bool false, .int .i64 0, .int .u8 0, .int .u8 0, .int .u32 0, .int .u32 0, .slice none 0 0, .slice none 0 0]) ?_ 3 _ rfl; (with_reducible repeat (first | refine blk_drewN ?_ _ | refine blk_drew ?_ | refine blk_alloc ?_ _)); refine blk_put (cs := #[.int .u8 t407, .int .u16 t408, .bool false, .bool false, .int .i64 0, .int .u8 0, .int .u8 0, .int .u32 0, .int .u32 0, .slice none 0 0, .slice none 0 0]) ?_ 2 _ rfl; (with_reducible repeat (first | refine blk_drewN ?_ _ | refine blk_drew ?_ | refine blk_alloc ?_ _)); refine blk_put (cs := #[.int .u8 t407, .int .u16 0, .bool false, .bool false, .int .i64 0, .int .u8 0, .int .u8 0, .int .u32 0, .int .u32 0, .slice none 0 0, .slice none 0 0]) ?_ 1 _ rfl; (with_reducible repeat (first | refine blk_drewN ?_ _ | refine blk_drew ?_ | refine blk_alloc ?_ _)); refine blk_put (cs := #[.int .u8 0, .int .u16 0, .bool false, .bool false, .int .i64 0, .int .u8 0, .int .u8 0, .int .u32 0, .int .u32 0, .slice none 0 0, .slice none 0 0]) ?_ 0 _ rfl; first | (with_reducible exact BK423.out) | (with_reducible exact blk_drewN BK423.out _) | (with_reducible exact blk_drew BK423.out) | ((with_reducible repeat (first | refine blk_drewN ?_ _ | refine blk_drew ?_ | refine blk_alloc ?_ _)); exact BK423.out)⟩
              have n4_ : Aside0 (Below w.heap.size w (((((((((((w16.setCell ⟨gb423, 0, none⟩ (.int .u8 t407)).setCell ⟨gb423, 1, none⟩ (.int .u16 t408)).setCell ⟨gb423, 2, none⟩ (.bool t409)).setCell ⟨gb423, 3, none⟩ (.bool t410)).setCell ⟨gb423, 4, none⟩ (.int .i64 t411)).setCell ⟨gb423, 5, none⟩ (.int .u8 t412)).setCell ⟨gb423, 6, none⟩ (.int .u8 t413)).setCell ⟨gb423, 7, none⟩ (.int .u32 t414)).setCell ⟨gb423, 8, none⟩ (.int .u32 t415)).setCell ⟨gb423, 9, none⟩ (.slice Ao15 t416.length co15)).setCell ⟨gb423, 10, none⟩ (.slice none 0 0))) := ⟨by repeat (first | (with_reducible first | exact HB.out | apply below_alloc | apply pw_below_drewN | apply below_drew1 | refine below_set ?_ GE406.out | refine below_set ?_ GE422.out | refine below_set ?_ GE423.out) | exact HB.out)⟩
              (try clear HO418)
              (try clear BK406)
              (try clear BK422)
              (try clear BK423)
              (try clear HB)
              generalize (((((((((((w16.setCell ⟨gb423, 0, none⟩ (.int .u8 t407)).setCell ⟨gb423, 1, none⟩ (.int .u16 t408)).setCell ⟨gb423, 2, none⟩ (.bool t409)).setCell ⟨gb423, 3, none⟩ (.bool t410)).setCell ⟨gb423, 4, none⟩ (.int .i64 t411)).setCell ⟨gb423, 5, none⟩ (.int .u8 t412)).setCell ⟨gb423, 6, none⟩ (.int .u8 t413)).setCell ⟨gb423, 7, none⟩ (.int .u32 t414)).setCell ⟨gb423, 8, none⟩ (.int .u32 t415)).setCell ⟨gb423, 9, none⟩ (.slice Ao15 t416.length co15)).setCell ⟨gb423, 10, none⟩ (.slice none 0 0)) = w20 at n0_ n1_ n2_ n3_ n4_ ⊢
              have HO418 := n0_
              have BK406 := n1_
              have BK422 := n2_
              have BK423 := n3_
              have HB := n4_
              clear n0_ n1_ n2_ n3_ n4_
              have n0_ := Aside0.mk (Kd.R_drew HO418.out)
              have n1_ := Aside0.mk (blk_drew BK406.out)
              have n2_ := Aside0.mk (blk_drew BK422.out)
              have n3_ := Aside0.mk (blk_drew BK423.out)
              have n4_ := Aside0.mk (below_drew1 HB.out)
              clear HO418
              clear BK406
              clear BK422
              clear BK423
              clear HB
              have HO418 := n0_
              have BK406 := n1_
              have BK422 := n2_
              have BK423 := n3_
              have HB := n4_
              clear n0_ n1_ n2_ n3_ n4_
              obtain ⟨i022, hi022, _, hsz22, _⟩ := info_parts info5
              obtain ⟨A22, hcut22, hA22, hC22⟩ := print_mid_of (P := Try.prog) (Value.int .u8) 0 23 5 .i64 .i64 Try.underlying23 hi022 hsz22 A0 c0 l0 20 t419 (by omega) (by first | omega | exact of_decide_eq_true zq10_4) (of_decide_eq_true zq10_4) HC0.out
              have HR424 := Aside0.mk (Kd.C_of_reads (h1 := fun _ => rfl) (hA22 _ (Kd.reads_of_C HR0.out)))
              have HC424 := Aside0.mk hC22
              clear hA22 hC22 hi022 hsz22
              obtain ⟨i023, hi023, _, hsz23, _⟩ := info_parts info5
              obtain ⟨A23, hcut23, hA23, hC23⟩ := print_mid_of (P := Try.prog) (Value.int .u8) 0 23 5 .i64 .i64 Try.underlying23 hi023 hsz23 A0 c0 l0 t419 t420 (of_decide_eq_true zq10_4) (by first | omega | exact of_decide_eq_true zq10_4) (of_decide_eq_true zq10_4) HC0.out
              have HR425 := Aside0.mk (Kd.C_of_reads (h1 := fun _ => rfl) (hA23 _ (Kd.reads_of_C HR0.out)))
              have HC425 := Aside0.mk hC23
              clear hA23 hC23 hi023 hsz23
              refine start_ (n := 16) (S := fun w' => True) (ds := []) #[false, false, false, false, false, false, false, false, false, false, false, false, false, false, false, false] (by kernel_rfl) rfl rfl trivial (fun hHeld => ?_); refine with_tabW ip4_Parse.tab5 ip4_Parse.bits5 (fun HT_ HW_ => ?_)
              generalize w20.drew = w21 at HO418 BK406 BK422 BK423 HB HR424 HR425 hHeld ⊢
              refine pure_ (i := 0) (N := some 23) (v := ?_) (a' := ?_) #[true, false, false, false, false, false, false, false, false, false, false, false, false, false, false, false] rfl rfl (any_of HT_.out (by kernel_rfl)) (fun _ _ _ h => h) (Or.inl ⟨by rfl, ?_⟩) ?_ ?_
              rotate_left
              · intro w'
                go_simp
                with_reducible rfl
              rotate_left
              · simp only [Act.put, List.setIfInBounds_toArray, List.set_cons_zero, List.set_cons_succ, i64_w, i32_w, IntKind.wrap_u8, IntKind.wrap_u32]
                rfl
              refine pure_ (i := 1) (N := some 24) (v := ?_) (a' := ?_) #[true, true, false, false, false, false, false, false, false, false, false, false, false, false, false, false] rfl rfl (any_of HT_.out (by kernel_rfl)) (fun _ _ _ h => h) (Or.inl ⟨by rfl, ?_⟩) ?_ ?_
              rotate_left
              · intro w'
                go_simp
                with_reducible rfl
              rotate_left
              · simp only [Act.put, List.setIfInBounds_toArray, List.set_cons_zero, List.set_cons_succ, i64_w, i32_w, IntKind.wrap_u8, IntKind.wrap_u32]
                rfl
              refine pure_ (i := 2) (N := some 25) (v := ?_) (a' := ?_) #[true, true, true, false, false, false, false, false, false, false, false, false, false, false, false, false] rfl rfl (any_of HT_.out (by kernel_rfl)) (fun _ _ _ h => h) (Or.inl ⟨by rfl, ?_⟩) ?_ ?_
              rotate_left
              · intro w'
                go_simp
                with_reducible rfl
              rotate_left
              · simp only [Act.put, List.setIfInBounds_toArray, List.set_cons_zero, List.set_cons_succ, i64_w, i32_w, IntKind.wrap_u8, IntKind.wrap_u32]
                rfl
              refine pure_ (i := 3) (N := some 26) (v := ?_) (a' := ?_) #[true, true, true, true, false, false, false, false, false, false, false, false, false, false, false, false] rfl rfl (any_of HT_.out (by kernel_rfl)) (fun _ _ _ h => h) (Or.inl ⟨by rfl, ?_⟩) ?_ ?_
              rotate_left
              · intro w'
                go_simp
                with_reducible rfl
              rotate_left
              · simp only [Act.put, List.setIfInBounds_toArray, List.set_cons_zero, List.set_cons_succ, i64_w, i32_w, IntKind.wrap_u8, IntKind.wrap_u32]
                rfl
              refine pure_ (i := 4) (N := some 27) (v := ?_) (a' := ?_) #[true, true, true, true, true, false, false, false, false, false, false, false, false, false, false, false] rfl rfl (any_of HT_.out (by kernel_rfl)) (fun _ _ _ h => h) (Or.inl ⟨by rfl, ?_⟩) ?_ ?_
              rotate_left
              · intro w'
                go_simp
                with_reducible rfl
              rotate_left
              · simp only [Act.put, List.setIfInBounds_toArray, List.set_cons_zero, List.set_cons_succ, i64_w, i32_w, IntKind.wrap_u8, IntKind.wrap_u32]
                rfl
              refine pure_ (i := 5) (N := some 28) (v := ?_) (a' := ?_) #[true, true, true, true, true, true, false, false, false, false, false, false, false, false, false, false] rfl rfl (any_of HT_.out (by kernel_rfl)) (fun _ _ _ h => h) (Or.inl ⟨by rfl, ?_⟩) ?_ ?_
              rotate_left
              · intro w'
                go_simp
                with_reducible rfl
              rotate_left
              · simp only [Act.put, List.setIfInBounds_toArray, List.set_cons_zero, List.set_cons_succ, i64_w, i32_w, IntKind.wrap_u8, IntKind.wrap_u32]
                rfl
              refine pure_ (i := 6) (N := some 29) (v := ?_) (a' := ?_) #[true, true, true, true, true, true, true, false, false, false, false, false, false, false, false, false] rfl rfl (any_of HT_.out (by kernel_rfl)) (fun _ _ _ h => h) (Or.inl ⟨by rfl, ?_⟩) ?_ ?_
              rotate_left
              · intro w'
                go_simp
                with_reducible rfl
              rotate_left
              · simp only [Act.put, List.setIfInBounds_toArray, List.set_cons_zero, List.set_cons_succ, i64_w, i32_w, IntKind.wrap_u8, IntKind.wrap_u32]
                rfl
              refine one_ (i := 7) (N := some 30) #[true, true, true, true, true, true, true, true, false, false, false, false, false, false, false, false] rfl rfl (one_of HT_.out (by kernel_rfl)) (by decide) (fun K hK => ?_)
              refine goes_ Try.func48 (by kernel_rfl) rfl #[.slice A22 ((l0.take (t419 : Int).toNat).drop 20).length (c0 - 20), .slice A23 ((l0.take (t420 : Int).toNat).drop (t419 : Int).toNat).length (c0 - t419.toNat)] (by rfl) rfl rfl (by (try simp only [List.map_toArray, List.map_cons, List.map_nil]); first | done | (rw [show ((l0.take (t419 : Int).toNat).drop 20).length = (t419.toNat - 20) from (by rw [List.length_drop, List.length_take]; have h_ : (t419 : Int) ≤ (l0.length : Int) := of_decide_eq_true zq10_4; omega), show ((l0.take (t420 : Int).toNat).drop (t419 : Int).toNat).length = (t420.toNat - t419.toNat) from (by rw [List.length_drop, List.length_take]; have h_ : (t420 : Int) ≤ (l0.length : Int) := of_decide_eq_true zq10_4; omega)] <;> rfl) | (rw [show ((l0.take (t419 : Int).toNat).drop 20).length = (t419.toNat - 20) from (by rw [List.length_drop, List.length_take]; have h_ : (t419 : Int) ≤ (l0.length : Int) := of_decide_eq_true zq10_4; omega)] <;> rfl) | (rw [show ((l0.take (t420 : Int).toNat).drop (t419 : Int).toNat).length = (t420.toNat - t419.toNat) from (by rw [List.length_drop, List.length_take]; have h_ : (t420 : Int) ≤ (l0.length : Int) := of_decide_eq_true zq10_4; omega)] <;> rfl) | rfl | (simp only [List.length_drop, List.length_take]; rfl)) ?_
              with_reducible refine (ip4_apart.calls _ _ ((l0.take (t419 : Int).toNat).drop 20) _ _ ((l0.take (t420 : Int).toNat).drop (t419 : Int).toNat) t426 t429 _ ?side1 ?side2 ?side3 ?side4 A9.out).mono ?_
              (case side1 => repeat (first | exact (Kd.C_below HR424.out HB.out) | (with_reducible refine Kd.C_alloc ?_ _) | (with_reducible refine Kd.C_drewN ?_ _) | (with_reducible refine Kd.C_drew ?_)))
              (case side2 => exact HC424.out)
              (case side3 => repeat (first | exact (Kd.C_below HR425.out HB.out) | (with_reducible refine Kd.C_alloc ?_ _) | (with_reducible refine Kd.C_drewN ?_ _) | (with_reducible refine Kd.C_drew ?_)))
              (case side4 => exact HC425.out)
              rintro e w24 ⟨v427, v430, rfl, ho0, ho1, hb⟩
              refine ⟨_, rfl, ?_⟩
              have n0_ := Aside0.mk (Kd.R_below (by (with_reducible repeat (first | apply Kd.R_alloc | apply Kd.R_drewN | apply Kd.R_drew)); exact HO418.out) hb)
              have n1_ := Aside0.mk (Kd.V_lower (Kd.V_mono (ok' := fun k_ => (w.heap.size ≤ k_) ∧ some k_ ≠ (.slice Ao15 t416.length co15 : Value).ownBlock ∧ k_ ≠ gb406 ∧ k_ ≠ gb422 ∧ k_ ≠ gb423) ho0 (fun k_ hk_ => ⟨(Nat.le_trans (below_size zq10_7) hk_), (Kd.fresh' (Kd.R_lt (by (with_reducible repeat (first | apply Kd.R_alloc | apply Kd.R_drewN | apply Kd.R_drew)); exact HO418.out)) k_ hk_), (Kd.freshB (g := gb406) (o := .cells #[.int .u8 0, .int .u16 0, .bool false, .bool false, .int .i64 0, .int .u8 0, .int .u8 0, .int .u32 0, .int .u32 0, .slice none 0 0, .slice none 0 0] 33 (0, 0)) zq10_2 k_ hk_), (Kd.freshB (g := gb422) (o := .cells #[.int .u8 t407, .int .u16 t408, .bool t409, .bool t410, .int .i64 t411, .int .u8 t412, .int .u8 t413, .int .u32 t414, .int .u32 t415, .slice Ao15 t416.length co15] 31 (0, 0)) (by first | (with_reducible exact BK422.out) | (with_reducible exact blk_drewN BK422.out _) | (with_reducible exact blk_drew BK422.out) | ((with_reducible repeat (first | refine blk_drewN ?_ _ | refine blk_drew ?_ | refine blk_alloc ?_ _)); exact BK422.out)) k_ hk_), (Kd.freshB (g := gb423) (o := .cells #[.int .u8 t407, .int .u16 t408, .bool t409, .bool t410, .int .i64 t411, .int .u8 t412, .int .u8 t413, .int .u32 t414, .int .u32 t415, .slice Ao15 t416.length co15, .slice none 0 0] 33 (0, 0)) (by first | (with_reducible exact BK423.out) | (with_reducible exact blk_drewN BK423.out _) | (with_reducible exact blk_drew BK423.out) | ((with_reducible repeat (first | refine blk_drewN ?_ _ | refine blk_drew ?_ | refine blk_alloc ?_ _)); exact BK423.out)) k_ hk_)⟩)) (below_size zq10_7))
              have n2_ := Aside0.mk (Kd.V_lower (Kd.V_mono (ok' := fun k_ => (w.heap.size ≤ k_) ∧ some k_ ≠ (.slice Ao15 t416.length co15 : Value).ownBlock ∧ k_ ≠ gb406 ∧ k_ ≠ gb422 ∧ k_ ≠ gb423) ho1 (fun k_ hk_ => ⟨(Nat.le_trans (below_size zq10_7) hk_), (Kd.fresh' (Kd.R_lt (by (with_reducible repeat (first | apply Kd.R_alloc | apply Kd.R_drewN | apply Kd.R_drew)); exact HO418.out)) k_ hk_), (Kd.freshB (g := gb406) (o := .cells #[.int .u8 0, .int .u16 0, .bool false, .bool false, .int .i64 0, .int .u8 0, .int .u8 0, .int .u32 0, .int .u32 0, .slice none 0 0, .slice none 0 0] 33 (0, 0)) zq10_2 k_ hk_), (Kd.freshB (g := gb422) (o := .cells #[.int .u8 t407, .int .u16 t408, .bool t409, .bool t410, .int .i64 t411, .int .u8 t412, .int .u8 t413, .int .u32 t414, .int .u32 t415, .slice Ao15 t416.length co15] 31 (0, 0)) (by first | (with_reducible exact BK422.out) | (with_reducible exact blk_drewN BK422.out _) | (with_reducible exact blk_drew BK422.out) | ((with_reducible repeat (first | refine blk_drewN ?_ _ | refine blk_drew ?_ | refine blk_alloc ?_ _)); exact BK422.out)) k_ hk_), (Kd.freshB (g := gb423) (o := .cells #[.int .u8 t407, .int .u16 t408, .bool t409, .bool t410, .int .i64 t411, .int .u8 t412, .int .u8 t413, .int .u32 t414, .int .u32 t415, .slice Ao15 t416.length co15, .slice none 0 0] 33 (0, 0)) (by first | (with_reducible exact BK423.out) | (with_reducible exact blk_drewN BK423.out _) | (with_reducible exact blk_drew BK423.out) | ((with_reducible repeat (first | refine blk_drewN ?_ _ | refine blk_drew ?_ | refine blk_alloc ?_ _)); exact BK423.out)) k_ hk_)⟩)) (below_size zq10_7))
              have n3_ := Aside0.mk (blk_below (g := gb406) (o := .cells #[.int .u8 0, .int .u16 0, .bool false, .bool false, .int .i64 0, .int .u8 0, .int .u8 0, .int .u32 0, .int .u32 0, .slice none 0 0, .slice none 0 0] 33 (0, 0)) zq10_2 hb)
              have n4_ := Aside0.mk (blk_below (g := gb422) (o := .cells #[.int .u8 t407, .int .u16 t408, .bool t409, .bool t410, .int .i64 t411, .int .u8 t412, .int .u8 t413, .int .u32 t414, .int .u32 t415, .slice Ao15 t416.length co15] 31 (0, 0)) (by first | (with_reducible exact BK422.out) | (with_reducible exact blk_drewN BK422.out _) | (with_reducible exact blk_drew BK422.out) | ((with_reducible repeat (first | refine blk_drewN ?_ _ | refine blk_drew ?_ | refine blk_alloc ?_ _)); exact BK422.out)) hb)
              have n5_ := Aside0.mk (blk_below (g := gb423) (o := .cells #[.int .u8 t407, .int .u16 t408, .bool t409, .bool t410, .int .i64 t411, .int .u8 t412, .int .u8 t413, .int .u32 t414, .int .u32 t415, .slice Ao15 t416.length co15, .slice none 0 0] 33 (0, 0)) (by first | (with_reducible exact BK423.out) | (with_reducible exact blk_drewN BK423.out _) | (with_reducible exact blk_drew BK423.out) | ((with_reducible repeat (first | refine blk_drewN ?_ _ | refine blk_drew ?_ | refine blk_alloc ?_ _)); exact BK423.out)) hb)
              have n6_ := Aside0.mk (below_step zq10_7 hb)
              clear HO418
              clear BK406
              clear BK422
              clear BK423
              clear HB
              have HO418 := n0_
              have HO428 := n1_
              have HO431 := n2_
              have BK406 := n3_
              have BK422 := n4_
              have BK423 := n5_
              have HB := n6_
              clear n0_ n1_ n2_ n3_ n4_ n5_ n6_
              (try clear hb)
              (try clear hb2)
              (try clear hk)
              (try clear hi)
              (try clear ho0)
              (try clear ho1)
              obtain ⟨Ao25, co25, eo25⟩ := Kd.V_slice HO428.out
              (first | subst eo25 | (injection eo25 with f1_ f2_ f3_; have f4_ := f1_.symm; have f5_ := f3_.symm; clear f1_ f2_ f3_; subst f4_; subst f5_))
              obtain ⟨Ao27, co27, eo27⟩ := Kd.V_slice HO431.out
              (first | subst eo27 | (injection eo27 with f1_ f2_ f3_; have f4_ := f1_.symm; have f5_ := f3_.symm; clear f1_ f2_ f3_; subst f4_; subst f5_))
              refine hK.out _ _ trivial (fun hHeld => ?_)
              clear hK K
              refine norm_ (a' := ?_) ?_ ?_
              rotate_left
              · show Act.put _ (some 30) _ = _
                simp only [Act.put, List.setIfInBounds_toArray, List.set_cons_zero, List.set_cons_succ, i64_w, i32_w, IntKind.wrap_u8, IntKind.wrap_u32]
                rfl
              refine pure_ (i := 8) (N := some 22) (v := ?_) (a' := ?_) #[true, true, true, true, true, true, true, true, true, false, false, false, false, false, false, false] rfl rfl (any_of HT_.out (by kernel_rfl)) (fun _ _ _ h => h) (Or.inl ⟨by rfl, ?_⟩) ?_ ?_
              rotate_left
              · intro w'
                go_simp
                with_reducible rfl
              rotate_left
              · simp only [Act.put, List.setIfInBounds_toArray, List.set_cons_zero, List.set_cons_succ, i64_w, i32_w, IntKind.wrap_u8, IntKind.wrap_u32]
                rfl
              refine pure_ (i := 9) (N := some 31) (v := ?_) (a' := ?_) #[true, true, true, true, true, true, true, true, true, true, false, false, false, false, false, false] rfl rfl (any_of HT_.out (by kernel_rfl)) (fun _ _ _ h => h) (Or.inl ⟨by rfl, ?_⟩) ?_ ?_
              rotate_left
              · intro w'
                go_simp
                with_reducible rfl
              rotate_left
              · simp only [Act.put, List.setIfInBounds_toArray, List.set_cons_zero, List.set_cons_succ, i64_w, i32_w, IntKind.wrap_u8, IntKind.wrap_u32]
                rfl
              refine pure_ (i := 10) (N := some 32) (v := ?_) (a' := ?_) #[true, true, true, true, true, true, true, true, true, true, true, false, false, false, false, false] rfl rfl (any_of HT_.out (by kernel_rfl)) (fun _ _ _ h => h) (Or.inl ⟨by rfl, ?_⟩) ?_ ?_
              rotate_left
              · intro w'
                go_simp
                with_reducible rfl
              rotate_left
              · simp only [Act.put, List.setIfInBounds_toArray, List.set_cons_zero, List.set_cons_succ, i64_w, i32_w, IntKind.wrap_u8, IntKind.wrap_u32]
                rfl
              refine pure_ (i := 11) (N := some 33) (v := ?_) (a' := ?_) #[true, true, true, true, true, true, true, true, true, true, true, true, false, false, false, false] rfl rfl (any_of HT_.out (by kernel_rfl)) (fun _ _ _ h => h) (Or.inl ⟨by rfl, ?_⟩) ?_ ?_
              rotate_left
              · intro w'
                go_simp
                with_reducible rfl
              rotate_left
              · simp only [Act.put, List.setIfInBounds_toArray, List.set_cons_zero, List.set_cons_succ, i64_w, i32_w, IntKind.wrap_u8, IntKind.wrap_u32]
                rfl
              refine pure_ (i := 12) (N := some 34) (v := ?_) (a' := ?_) #[true, true, true, true, true, true, true, true, true, true, true, true, true, false, false, false] rfl rfl (any_of HT_.out (by kernel_rfl)) (fun _ _ _ h => h) (Or.inl ⟨by rfl, ?_⟩) ?_ ?_
              rotate_left
              · intro w'
                go_simp
                with_reducible rfl
              rotate_left
              · simp only [Act.put, List.setIfInBounds_toArray, List.set_cons_zero, List.set_cons_succ, i64_w, i32_w, IntKind.wrap_u8, IntKind.wrap_u32]
                rfl
              refine one_ (i := 13) (N := none) #[true, true, true, true, true, true, true, true, true, true, true, true, true, true, false, false] rfl rfl (one_of HT_.out (by kernel_rfl)) (by decide) (fun K hK => ?_)
              have hs26 : w24.cell? ⟨gb423, 9, none⟩ = some (.slice Ao15 t416.length co15) := (blk_cell BK423.out 9).trans rfl
              have hfs26 := blk_frozen BK423.out 9
              have hns26_0 := NB406_423.out
              have hns26_1 := NB422_423.out
              have hms26_0 := NB423_406.out
              have hms26_1 := NB423_422.out
              refine skip_ (w1 := ?_) (by rfl) rfl ?_ ?_
              rotate_left
              · go_simp
                rfl
              refine hK.out _ _ trivial (fun hHeld => ?_)
              clear hK K
              refine pure_ (i := 14) (N := some 35) (v := ?_) (a' := ?_) #[true, true, true, true, true, true, true, true, true, true, true, true, true, true, true, false] rfl rfl (any_of HT_.out (by kernel_rfl)) (fun _ _ _ h => h) (Or.inl ⟨by rfl, ?_⟩) ?_ ?_
              rotate_left
              · intro w'
                go_simp
                with_reducible rfl
              rotate_left
              · simp only [Act.put, List.setIfInBounds_toArray, List.set_cons_zero, List.set_cons_succ, i64_w, i32_w, IntKind.wrap_u8, IntKind.wrap_u32]
                rfl
              refine one_ (i := 15) (N := none) #[true, true, true, true, true, true, true, true, true, true, true, true, true, true, true, true] rfl rfl (one_of HT_.out (by kernel_rfl)) (by decide) (fun K hK => ?_)
              have hs28 : w24.cell? ⟨gb423, 10, none⟩ = some (.slice none 0 0) := (blk_cell BK423.out 10).trans rfl
              have hfs28 := blk_frozen BK423.out 10
              have hns28_0 := NB406_423.out
              have hns28_1 := NB422_423.out
              have hms28_0 := NB423_406.out
              have hms28_1 := NB423_422.out
              refine skip_ (w1 := ?_) (by rfl) rfl ?_ ?_
              rotate_left
              · go_simp
                rfl
              refine hK.out _ _ trivial (fun hHeld => ?_)
              clear hK K
              refine done_ (done_of HT_.out (by kernel_rfl)) ?_
              have hcz29_0 : w24.cell? ⟨gb423, 0, none⟩ = some (.int .u8 t407) := (blk_cell BK423.out 0).trans rfl
              have hcz29_1 : w24.cell? ⟨gb423, 1, none⟩ = some (.int .u16 t408) := (blk_cell BK423.out 1).trans rfl
              have hcz29_2 : w24.cell? ⟨gb423, 2, none⟩ = some (.bool t409) := (blk_cell BK423.out 2).trans rfl
              have hcz29_3 : w24.cell? ⟨gb423, 3, none⟩ = some (.bool t410) := (blk_cell BK423.out 3).trans rfl
              have hcz29_4 : w24.cell? ⟨gb423, 4, none⟩ = some (.int .i64 t411) := (blk_cell BK423.out 4).trans rfl
              have hcz29_5 : w24.cell? ⟨gb423, 5, none⟩ = some (.int .u8 t412) := (blk_cell BK423.out 5).trans rfl
              have hcz29_6 : w24.cell? ⟨gb423, 6, none⟩ = some (.int .u8 t413) := (blk_cell BK423.out 6).trans rfl
              have hcz29_7 : w24.cell? ⟨gb423, 7, none⟩ = some (.int .u32 t414) := (blk_cell BK423.out 7).trans rfl
              have hcz29_8 : w24.cell? ⟨gb423, 8, none⟩ = some (.int .u32 t415) := (blk_cell BK423.out 8).trans rfl
              have hcz29_9 : w24.cell? ⟨gb423, 9, none⟩ = some (.slice Ao15 t416.length co15) := (blk_cell BK423.out 9).trans rfl
              have hcz29_10 : w24.cell? ⟨gb423, 10, none⟩ = some (.slice none 0 0) := (blk_cell BK423.out 10).trans rfl
              have hfz29_0 := blk_frozen BK423.out 0
              have hfz29_1 := blk_frozen BK423.out 1
              have hfz29_2 := blk_frozen BK423.out 2
              have hfz29_3 := blk_frozen BK423.out 3
              have hfz29_4 := blk_frozen BK423.out 4
              have hfz29_5 := blk_frozen BK423.out 5
              have hfz29_6 := blk_frozen BK423.out 6
              have hfz29_7 := blk_frozen BK423.out 7
              have hfz29_8 := blk_frozen BK423.out 8
              have hfz29_9 := blk_frozen BK423.out 9
              have hfz29_10 := blk_frozen BK423.out 10
              have hcz30_0 : w24.cell? ⟨gb406, 0, none⟩ = some (.int .u8 0) := (blk_cell BK406.out 0).trans rfl
              have hcz30_1 : w24.cell? ⟨gb406, 1, none⟩ = some (.int .u16 0) := (blk_cell BK406.out 1).trans rfl
              have hcz30_2 : w24.cell? ⟨gb406, 2, none⟩ = some (.bool false) := (blk_cell BK406.out 2).trans rfl
              have hcz30_3 : w24.cell? ⟨gb406, 3, none⟩ = some (.bool false) := (blk_cell BK406.out 3).trans rfl
              have hcz30_4 : w24.cell? ⟨gb406, 4, none⟩ = some (.int .i64 0) := (blk_cell BK406.out 4).trans rfl
              have hcz30_5 : w24.cell? ⟨gb406, 5, none⟩ = some (.int .u8 0) := (blk_cell BK406.out 5).trans rfl
              have hcz30_6 : w24.cell? ⟨gb406, 6, none⟩ = some (.int .u8 0) := (blk_cell BK406.out 6).trans rfl
              have hcz30_7 : w24.cell? ⟨gb406, 7, none⟩ = some (.int .u32 0) := (blk_cell BK406.out 7).trans rfl
              have hcz30_8 : w24.cell? ⟨gb406, 8, none⟩ = some (.int .u32 0) := (blk_cell BK406.out 8).trans rfl
              have hcz30_9 : w24.cell? ⟨gb406, 9, none⟩ = some (.slice none 0 0) := (blk_cell BK406.out 9).trans rfl
              have hcz30_10 : w24.cell? ⟨gb406, 10, none⟩ = some (.slice none 0 0) := (blk_cell BK406.out 10).trans rfl
              have hfz30_0 := blk_frozen BK406.out 0
              have hfz30_1 := blk_frozen BK406.out 1
              have hfz30_2 := blk_frozen BK406.out 2
              have hfz30_3 := blk_frozen BK406.out 3
              have hfz30_4 := blk_frozen BK406.out 4
              have hfz30_5 := blk_frozen BK406.out 5
              have hfz30_6 := blk_frozen BK406.out 6
              have hfz30_7 := blk_frozen BK406.out 7
              have hfz30_8 := blk_frozen BK406.out 8
              have hfz30_9 := blk_frozen BK406.out 9
              have hfz30_10 := blk_frozen BK406.out 10
              try go_wp2
              refine bodyPost_ret (results_ct rfl _ _ gb406 33 #[.int .u8 t407, .int .u16 t408, .bool t409, .bool t410, .int .i64 t411, .int .u8 t412, .int .u8 t413, .int .u32 t414, .int .u32 t415, .slice Ao25 t426.length co25, .slice Ao27 t429.length co27] (0, 0) _ rfl (by (with_reducible repeat (first | refine blk_drewN ?_ _ | refine blk_drew ?_ | refine blk_alloc ?_ _)); refine blk_put (cs := #[.int .u8 t407, .int .u16 t408, .bool t409, .bool t410, .int .i64 t411, .int .u8 t412, .int .u8 t413, .int .u32 t414, .int .u32 t415, .slice Ao25 t426.length co25, .slice none 0 0]) ?_ 10 _ rfl; (with_reducible repeat (first | refine blk_drewN ?_ _ | refine blk_drew ?_ | refine blk_alloc ?_ _)); refine blk_put (cs := #[.int .u8 t407, .int .u16 t408, .bool t409, .bool t410, .int .i64 t411, .int .u8 t412, .int .u8 t413, .int .u32 t414, .int .u32 t415, .slice none 0 0, .slice none 0 0]) ?_ 9 _ rfl; (with_reducible repeat (first | refine blk_drewN ?_ _ | refine blk_drew ?_ | refine blk_alloc ?_ _)); refine blk_put (cs := #[.int .u8 t407, .int .u16 t408, .bool t409, .bool t410, .int .i64 t411, .int .u8 t412, .int .u8 t413, .int .u32 t414, .int .u32 0, .slice none 0 0, .slice none 0 0]) ?_ 8 _ rfl; (with_reducible repeat (first | refine blk_drewN ?_ _ | refine blk_drew ?_ | refine blk_alloc ?_ _)); refine blk_put (cs := #[.int .u8 t407, .int .u16 t408, .bool t409, .bool t410, .int .i64 t411, .int .u8 t412, .int .u8 t413, .int .u32 0, .int .u32 0, .slice none 0 0, .slice none 0 0]) ?_ 7 _ rfl; (with_reducible repeat (first | refine blk_drewN ?_ _ | refine blk_drew ?_ | refine blk_alloc ?_ _)); refine blk_put (cs := #[.int .u8 t407, .int .u16 t408, .bool t409, .bool t410, .int .i64 t411, .int .u8 t412, .int .u8 0, .int .u32 0, .int .u32 0, .slice none 0 0, .slice none 0 0]) ?_ 6 _ rfl; (with_reducible repeat (first | refine blk_drewN ?_ _ | refine blk_drew ?_ | refine blk_alloc ?_ _)); refine blk_put (cs := #[.int .u8 t407, .int .u16 t408, .bool t409, .bool t410, .int .i64 t411, .int .u8 0, .int .u8 0, .int .u32 0, .int .u32 0, .slice none 0 0, .slice none 0 0]) ?_ 5 _ rfl; (with_reducible repeat (first | refine blk_drewN ?_ _ | refine blk_drew ?_ | refine blk_alloc ?_ _)); refine blk_put (cs := #[.int .u8 t407, .int .u16 t408, .bool t409, .bool t410, .int .i64 0, .int .u8 0, .int .u8 0, .int .u32 0, .int .u32 0, .slice none 0 0, .slice none 0 0]) ?_ 4 _ rfl; (with_reducible repeat (first | refine blk_drewN ?_ _ | refine blk_drew ?_ | refine blk_alloc ?_ _)); refine blk_put (cs := #[.int .u8 t407, .int .u16 t408, .bool t409, .bool false, .int .i64 0, .int .u8 0, .int .u8 0, .int .u32 0, .int .u32 0, .slice none 0 0, .slice none 0 0]) ?_ 3 _ rfl; (with_reducible repeat (first | refine blk_drewN ?_ _ | refine blk_drew ?_ | refine blk_alloc ?_ _)); refine blk_put (cs := #[.int .u8 t407, .int .u16 t408, .bool false, .bool false, .int .i64 0, .int .u8 0, .int .u8 0, .int .u32 0, .int .u32 0, .slice none 0 0, .slice none 0 0]) ?_ 2 _ rfl; (with_reducible repeat (first | refine blk_drewN ?_ _ | refine blk_drew ?_ | refine blk_alloc ?_ _)); refine blk_put (cs := #[.int .u8 t407, .int .u16 0, .bool false, .bool false, .int .i64 0, .int .u8 0, .int .u8 0, .int .u32 0, .int .u32 0, .slice none 0 0, .slice none 0 0]) ?_ 1 _ rfl; (with_reducible repeat (first | refine blk_drewN ?_ _ | refine blk_drew ?_ | refine blk_alloc ?_ _)); refine blk_put (cs := #[.int .u8 0, .int .u16 0, .bool false, .bool false, .int .i64 0, .int .u8 0, .int .u8 0, .int .u32 0, .int .u32 0, .slice none 0 0, .slice none 0 0]) ?_ 0 _ rfl; (with_reducible repeat (first | refine blk_drewN ?_ _ | refine blk_drew ?_ | refine blk_alloc ?_ _)); refine blk_far ?_ NB406_423.out _; (with_reducible repeat (first | refine blk_drewN ?_ _ | refine blk_drew ?_ | refine blk_alloc ?_ _)); refine blk_far ?_ NB406_423.out _; first | (with_reducible exact BK406.out) | (with_reducible exact blk_drewN BK406.out _) | (with_reducible exact blk_drew BK406.out) | ((with_reducible repeat (first | refine blk_drewN ?_ _ | refine blk_drew ?_ | refine blk_alloc ?_ _)); exact BK406.out)) Try.underlying33 rfl (by kernel_rfl)) rfl ?_
              exact ⟨_, _, by first | rfl | (simp [errW_none, errW_some] <;> rfl) | (simp [*, errW_none, errW_some] <;> rfl), by (with_reducible repeat (first | apply Kd.V_alloc | apply Kd.V_drewN | apply Kd.V_drew)); exact Kd.V_mono (Kd.V_far (p := ⟨gb406, 10, none⟩) (Kd.V_far (p := ⟨gb406, 9, none⟩) (Kd.V_far (p := ⟨gb406, 8, none⟩) (Kd.V_far (p := ⟨gb406, 7, none⟩) (Kd.V_far (p := ⟨gb406, 6, none⟩) (Kd.V_far (p := ⟨gb406, 5, none⟩) (Kd.V_far (p := ⟨gb406, 4, none⟩) (Kd.V_far (p := ⟨gb406, 3, none⟩) (Kd.V_far (p := ⟨gb406, 2, none⟩) (Kd.V_far (p := ⟨gb406, 1, none⟩) (Kd.V_far (p := ⟨gb406, 0, none⟩) (Kd.V_far (p := ⟨gb423, 10, none⟩) (Kd.V_far (p := ⟨gb423, 9, none⟩) (Kd.V_mono (Kd.V_mono HO428.out (fun k_ hk => (⟨hk, hk.2.2.2.2⟩ : _ ∧ k_ ≠ gb423))) (fun k_ hk => (⟨hk, hk.1.2.2.1⟩ : _ ∧ k_ ≠ gb406))) (fun _ hk => hk.1.2) (.slice Ao25 t426.length co25)) (fun _ hk => hk.1.2) (.slice Ao27 t429.length co27)) (fun _ hk => hk.2) (.int .u8 t407)) (fun _ hk => hk.2) (.int .u16 t408)) (fun _ hk => hk.2) (.bool t409)) (fun _ hk => hk.2) (.bool t410)) (fun _ hk => hk.2) (.int .i64 t411)) (fun _ hk => hk.2) (.int .u8 t412)) (fun _ hk => hk.2) (.int .u8 t413)) (fun _ hk => hk.2) (.int .u32 t414)) (fun _ hk => hk.2) (.int .u32 t415)) (fun _ hk => hk.2) (.slice Ao25 t426.length co25)) (fun _ hk => hk.2) (.slice Ao27 t429.length co27)) (fun _ hk => hk.1.1.1), by (with_reducible repeat (first | apply Kd.V_alloc | apply Kd.V_drewN | apply Kd.V_drew)); exact Kd.V_mono (Kd.V_far (p := ⟨gb406, 10, none⟩) (Kd.V_far (p := ⟨gb406, 9, none⟩) (Kd.V_far (p := ⟨gb406, 8, none⟩) (Kd.V_far (p := ⟨gb406, 7, none⟩) (Kd.V_far (p := ⟨gb406, 6, none⟩) (Kd.V_far (p := ⟨gb406, 5, none⟩) (Kd.V_far (p := ⟨gb406, 4, none⟩) (Kd.V_far (p := ⟨gb406, 3, none⟩) (Kd.V_far (p := ⟨gb406, 2, none⟩) (Kd.V_far (p := ⟨gb406, 1, none⟩) (Kd.V_far (p := ⟨gb406, 0, none⟩) (Kd.V_far (p := ⟨gb423, 10, none⟩) (Kd.V_far (p := ⟨gb423, 9, none⟩) (Kd.V_mono (Kd.V_mono HO431.out (fun k_ hk => (⟨hk, hk.2.2.2.2⟩ : _ ∧ k_ ≠ gb423))) (fun k_ hk => (⟨hk, hk.1.2.2.1⟩ : _ ∧ k_ ≠ gb406))) (fun _ hk => hk.1.2) (.slice Ao25 t426.length co25)) (fun _ hk => hk.1.2) (.slice Ao27 t429.length co27)) (fun _ hk => hk.2) (.int .u8 t407)) (fun _ hk => hk.2) (.int .u16 t408)) (fun _ hk => hk.2) (.bool t409)) (fun _ hk => hk.2) (.bool t410)) (fun _ hk => hk.2) (.int .i64 t411)) (fun _ hk => hk.2) (.int .u8 t412)) (fun _ hk => hk.2) (.int .u8 t413)) (fun _ hk => hk.2) (.int .u32 t414)) (fun _ hk => hk.2) (.int .u32 t415)) (fun _ hk => hk.2) (.slice Ao25 t426.length co25)) (fun _ hk => hk.2) (.slice Ao27 t429.length co27)) (fun _ hk => hk.1.1.1), by repeat (first | (with_reducible first | exact HB.out | apply below_alloc | apply pw_below_drewN | apply below_drew1 | refine below_set ?_ GE406.out | refine below_set ?_ GE422.out | refine below_set ?_ GE423.out) | exact HB.out)⟩
            · rw [if_neg c8] at H
              exact absurd H (by simp)
          · rw [if_neg c7] at H
            exact absurd H (by simp)
        · rw [if_neg c6] at H
          exact absurd H (by simp)
      · rw [if_neg c5] at H
        exact absurd H (by simp)
    · rw [if_neg c4] at H
      exact absurd H (by simp)
  · rw [if_neg c3] at H
    have c3b0 : (t421 == 0) = false := beq_eq_false_iff_ne.mpr c3
    have c3b1 : (t421 != 0) = true := bne_iff_ne.mpr c3
    simp only [Option.some.injEq, Prod.mk.injEq] at H
    obtain ⟨rfl, rfl, rfl, rfl, rfl, rfl, rfl, rfl, rfl, rfl, rfl, rfl⟩ := H
    go_enter Try.func29, Try.ntmps29
    go_wp2_with (first | ((with_reducible refine gate_dst (N := 2) rfl ?_); refine box_event ?hg (N := 2) ?hd (cs := #[.int .u8 0, .int .u16 0, .bool false, .bool false, .int .i64 0, .int .u8 0, .int .u8 0, .int .u32 0, .int .u32 0, .slice none 0 0, .slice none 0 0]) (t := 33) ?hr ?_; (case hd => rfl); (case hg => rfl); (case hr => first | (go_simp; done) | (go_simp; rfl)); intro gb406 hg w31 hbox hb; have n0_ := Aside0.mk (below_step zq10_6 hb); have n1_ := Aside0.mk (hbox); have n2_ := Aside0.mk ((by rw [hg]; exact (below_size zq10_6) : w.heap.size ≤ gb406)); have n3_ := Aside0.mk ((by rw [hg]; exact (below_size zq10_6) : w.heap.size ≤ gb406)); clear HB; have HB := n0_; have BK406 := n1_; have GW406 := n2_; have GE406 := n3_; clear n0_ n1_ n2_ n3_; clear hb hbox hg) | ((with_reducible refine gate_callee (f := 47) rfl ?_); refine goesL_ (some 11) rfl rfl Try.func47 (by kernel_rfl) rfl #[.slice A0 l0.length c0, .bool true] rfl zq10_5 ?_; (with_reducible refine (ip4_read.calls k _ _ l0 true t407 t408 t409 t410 t411 t412 t413 t414 t415 t416 t419 t420 t421 _ ?side1 ?side2 A2.out).mono ?_); (case side1 => repeat (first | exact (Kd.C_below HR0.out HB.out) | (with_reducible refine Kd.C_alloc ?_ _) | (with_reducible refine Kd.C_drewN ?_ _) | (with_reducible refine Kd.C_drew ?_))); (case side2 => exact HC0.out); rintro e w32 ⟨v417, rfl, ho0, hb⟩; refine ⟨_, rfl, ?_⟩; have n0_ := Aside0.mk (Kd.R_lower (Kd.R_newM (M := fun k_ => (w.heap.size ≤ k_)) ho0 (below_size zq10_3) (fun k_ h_ => h_)) (below_size zq10_3)); have n1_ := Aside0.mk (blk_below (g := gb406) (o := .cells #[.int .u8 0, .int .u16 0, .bool false, .bool false, .int .i64 0, .int .u8 0, .int .u8 0, .int .u32 0, .int .u32 0, .slice none 0 0, .slice none 0 0] 33 (0, 0)) zq10_2 hb); have n2_ := Aside0.mk (below_step zq10_3 hb); clear BK406; clear HB; have HO418 := n0_; have BK406 := n1_; have HB := n2_; clear n0_ n1_ n2_; (try clear hb); (try clear hb2); (try clear hk); (try clear hi); (try clear ho0)) | ((with_reducible refine gate_dst (N := 4) rfl ?_); refine box_event ?hg (N := 4) ?hd (cs := #[.int .u8 0, .int .u16 0, .bool false, .bool false, .int .i64 0, .int .u8 0, .int .u8 0, .int .u32 0, .int .u32 0, .slice none 0 0]) (t := 31) ?hr ?_; (case hd => rfl); (case hg => rfl); (case hr => first | (go_simp; done) | (go_simp; rfl)); intro gb422 hg w33 hbox hb; have n0_ := Aside0.mk (Kd.R_below (by (with_reducible repeat (first | apply Kd.R_alloc | apply Kd.R_drewN | apply Kd.R_drew)); exact HO418.out) hb); have n1_ := Aside0.mk (blk_below (g := gb406) (o := .cells #[.int .u8 0, .int .u16 0, .bool false, .bool false, .int .i64 0, .int .u8 0, .int .u8 0, .int .u32 0, .int .u32 0, .slice none 0 0, .slice none 0 0] 33 (0, 0)) zq10_2 hb); have n2_ := Aside0.mk (below_step zq10_3 hb); have n3_ := Aside0.mk (hbox); have n4_ := Aside0.mk ((by rw [hg]; exact (below_size zq10_3) : w.heap.size ≤ gb422)); have n5_ := Aside0.mk ((by rw [hg]; exact (below_size zq10_3) : w.heap.size ≤ gb422)); have n6_ := Aside0.mk ((by rw [hg]; exact Nat.ne_of_lt (blk_lt (g := gb406) (o := .cells #[.int .u8 0, .int .u16 0, .bool false, .bool false, .int .i64 0, .int .u8 0, .int .u8 0, .int .u32 0, .int .u32 0, .slice none 0 0, .slice none 0 0] 33 (0, 0)) zq10_2) : gb406 ≠ gb422)); have n7_ := Aside0.mk ((by rw [hg]; exact Nat.ne_of_gt (blk_lt (g := gb406) (o := .cells #[.int .u8 0, .int .u16 0, .bool false, .bool false, .int .i64 0, .int .u8 0, .int .u8 0, .int .u32 0, .int .u32 0, .slice none 0 0, .slice none 0 0] 33 (0, 0)) zq10_2) : gb422 ≠ gb406)); clear HO418; clear BK406; clear HB; have HO418 := n0_; have BK406 := n1_; have HB := n2_; have BK422 := n3_; have GW422 := n4_; have GE422 := n5_; have NB406_422 := n6_; have NB422_406 := n7_; clear n0_ n1_ n2_ n3_ n4_ n5_ n6_ n7_; clear hb hbox hg; have hnb34 := NB422_406.out; have hnc34 := NB406_422.out; have hcz35_0 : w33.cell? ⟨gb422, 0, none⟩ = some (.int .u8 0) := (blk_cell BK422.out 0).trans rfl; have hcz35_1 : w33.cell? ⟨gb422, 1, none⟩ = some (.int .u16 0) := (blk_cell BK422.out 1).trans rfl; have hcz35_2 : w33.cell? ⟨gb422, 2, none⟩ = some (.bool false) := (blk_cell BK422.out 2).trans rfl; have hcz35_3 : w33.cell? ⟨gb422, 3, none⟩ = some (.bool false) := (blk_cell BK422.out 3).trans rfl; have hcz35_4 : w33.cell? ⟨gb422, 4, none⟩ = some (.int .i64 0) := (blk_cell BK422.out 4).trans rfl; have hcz35_5 : w33.cell? ⟨gb422, 5, none⟩ = some (.int .u8 0) := (blk_cell BK422.out 5).trans rfl; have hcz35_6 : w33.cell? ⟨gb422, 6, none⟩ = some (.int .u8 0) := (blk_cell BK422.out 6).trans rfl; have hcz35_7 : w33.cell? ⟨gb422, 7, none⟩ = some (.int .u32 0) := (blk_cell BK422.out 7).trans rfl; have hcz35_8 : w33.cell? ⟨gb422, 8, none⟩ = some (.int .u32 0) := (blk_cell BK422.out 8).trans rfl; have hcz35_9 : w33.cell? ⟨gb422, 9, none⟩ = some (.slice none 0 0) := (blk_cell BK422.out 9).trans rfl; have hfz35_0 := blk_frozen BK422.out 0; have hfz35_1 := blk_frozen BK422.out 1; have hfz35_2 := blk_frozen BK422.out 2; have hfz35_3 := blk_frozen BK422.out 3; have hfz35_4 := blk_frozen BK422.out 4; have hfz35_5 := blk_frozen BK422.out 5; have hfz35_6 := blk_frozen BK422.out 6; have hfz35_7 := blk_frozen BK422.out 7; have hfz35_8 := blk_frozen BK422.out 8; have hfz35_9 := blk_frozen BK422.out 9; obtain ⟨Ao36, co36, eo36⟩ := Kd.R_slice HO418.out; subst eo36; have hcz37_0 : w33.cell? ⟨gb406, 0, none⟩ = some (.int .u8 0) := (blk_cell BK406.out 0).trans rfl; have hcz37_1 : w33.cell? ⟨gb406, 1, none⟩ = some (.int .u16 0) := (blk_cell BK406.out 1).trans rfl; have hcz37_2 : w33.cell? ⟨gb406, 2, none⟩ = some (.bool false) := (blk_cell BK406.out 2).trans rfl; have hcz37_3 : w33.cell? ⟨gb406, 3, none⟩ = some (.bool false) := (blk_cell BK406.out 3).trans rfl; have hcz37_4 : w33.cell? ⟨gb406, 4, none⟩ = some (.int .i64 0) := (blk_cell BK406.out 4).trans rfl; have hcz37_5 : w33.cell? ⟨gb406, 5, none⟩ = some (.int .u8 0) := (blk_cell BK406.out 5).trans rfl; have hcz37_6 : w33.cell? ⟨gb406, 6, none⟩ = some (.int .u8 0) := (blk_cell BK406.out 6).trans rfl; have hcz37_7 : w33.cell? ⟨gb406, 7, none⟩ = some (.int .u32 0) := (blk_cell BK406.out 7).trans rfl; have hcz37_8 : w33.cell? ⟨gb406, 8, none⟩ = some (.int .u32 0) := (blk_cell BK406.out 8).trans rfl; have hcz37_9 : w33.cell? ⟨gb406, 9, none⟩ = some (.slice none 0 0) := (blk_cell BK406.out 9).trans rfl; have hcz37_10 : w33.cell? ⟨gb406, 10, none⟩ = some (.slice none 0 0) := (blk_cell BK406.out 10).trans rfl; have hfz37_0 := blk_frozen BK406.out 0; have hfz37_1 := blk_frozen BK406.out 1; have hfz37_2 := blk_frozen BK406.out 2; have hfz37_3 := blk_frozen BK406.out 3; have hfz37_4 := blk_frozen BK406.out 4; have hfz37_5 := blk_frozen BK406.out 5; have hfz37_6 := blk_frozen BK406.out 6; have hfz37_7 := blk_frozen BK406.out 7; have hfz37_8 := blk_frozen BK406.out 8; have hfz37_9 := blk_frozen BK406.out 9; have hfz37_10 := blk_frozen BK406.out 10))
    refine bodyPost_ret (results_ct rfl _ _ gb406 33 #[.int .u8 0, .int .u16 0, .bool false, .bool false, .int .i64 0, .int .u8 0, .int .u8 0, .int .u32 0, .int .u32 0, .slice none 0 0, .slice none 0 0] (0, 0) _ rfl (by (with_reducible repeat (first | refine blk_drewN ?_ _ | refine blk_drew ?_ | refine blk_alloc ?_ _)); refine blk_put (cs := #[.int .u8 0, .int .u16 0, .bool false, .bool false, .int .i64 0, .int .u8 0, .int .u8 0, .int .u32 0, .int .u32 0, .slice none 0 0, .slice none 0 0]) ?_ 10 _ rfl; (with_reducible repeat (first | refine blk_drewN ?_ _ | refine blk_drew ?_ | refine blk_alloc ?_ _)); refine blk_put (cs := #[.int .u8 0, .int .u16 0, .bool false, .bool false, .int .i64 0, .int .u8 0, .int .u8 0, .int .u32 0, .int .u32 0, .slice none 0 0, .slice none 0 0]) ?_ 9 _ rfl; (with_reducible repeat (first | refine blk_drewN ?_ _ | refine blk_drew ?_ | refine blk_alloc ?_ _)); refine blk_put (cs := #[.int .u8 0, .int .u16 0, .bool false, .bool false, .int .i64 0, .int .u8 0, .int .u8 0, .int .u32 0, .int .u32 0, .slice none 0 0, .slice none 0 0]) ?_ 8 _ rfl; (with_reducible repeat (first | refine blk_drewN ?_ _ | refine blk_drew ?_ | refine blk_alloc ?_ _)); refine blk_put (cs := #[.int .u8 0, .int .u16 0, .bool false, .bool false, .int .i64 0, .int .u8 0, .int .u8 0, .int .u32 0, .int .u32 0, .slice none 0 0, .slice none 0 0]) ?_ 7 _ rfl; (with_reducible repeat (first | refine blk_drewN ?_ _ | refine blk_drew ?_ | refine blk_alloc ?_ _)); refine blk_put (cs := #[.int .u8 0, .int .u16 0, .bool false, .bool false, .int .i64 0, .int .u8 0, .int .u8 0, .int .u32 0, .int .u32 0, .slice none 0 0, .slice none 0 0]) ?_ 6 _ rfl; (with_reducible repeat (first | refine blk_drewN ?_ _ | refine blk_drew ?_ | refine blk_alloc ?_ _)); refine blk_put (cs := #[.int .u8 0, .int .u16 0, .bool false, .bool false, .int .i64 0, .int .u8 0, .int .u8 0, .int .u32 0, .int .u32 0, .slice none 0 0, .slice none 0 0]) ?_ 5 _ rfl; (with_reducible repeat (first | refine blk_drewN ?_ _ | refine blk_drew ?_ | refine blk_alloc ?_ _)); refine blk_put (cs := #[.int .u8 0, .int .u16 0, .bool false, .bool false, .int .i64 0, .int .u8 0, .int .u8 0, .int .u32 0, .int .u32 0, .slice none 0 0, .slice none 0 0]) ?_ 4 _ rfl; (with_reducible repeat (first | refine blk_drewN ?_ _ | refine blk_drew ?_ | refine blk_alloc ?_ _)); refine blk_put (cs := #[.int .u8 0, .int .u16 0, .bool false, .bool false, .int .i64 0, .int .u8 0, .int .u8 0, .int .u32 0, .int .u32 0, .slice none 0 0, .slice none 0 0]) ?_ 3 _ rfl; (with_reducible repeat (first | refine blk_drewN ?_ _ | refine blk_drew ?_ | refine blk_alloc ?_ _)); refine blk_put (cs := #[.int .u8 0, .int .u16 0, .bool false, .bool false, .int .i64 0, .int .u8 0, .int .u8 0, .int .u32 0, .int .u32 0, .slice none 0 0, .slice none 0 0]) ?_ 2 _ rfl; (with_reducible repeat (first | refine blk_drewN ?_ _ | refine blk_drew ?_ | refine blk_alloc ?_ _)); refine blk_put (cs := #[.int .u8 0, .int .u16 0, .bool false, .bool false, .int .i64 0, .int .u8 0, .int .u8 0, .int .u32 0, .int .u32 0, .slice none 0 0, .slice none 0 0]) ?_ 1 _ rfl; (with_reducible repeat (first | refine blk_drewN ?_ _ | refine blk_drew ?_ | refine blk_alloc ?_ _)); refine blk_put (cs := #[.int .u8 0, .int .u16 0, .bool false, .bool false, .int .i64 0, .int .u8 0, .int .u8 0, .int .u32 0, .int .u32 0, .slice none 0 0, .slice none 0 0]) ?_ 0 _ rfl; (with_reducible repeat (first | refine blk_drewN ?_ _ | refine blk_drew ?_ | refine blk_alloc ?_ _)); refine blk_far ?_ NB406_422.out _; (with_reducible repeat (first | refine blk_drewN ?_ _ | refine blk_drew ?_ | refine blk_alloc ?_ _)); refine blk_far ?_ NB406_422.out _; (with_reducible repeat (first | refine blk_drewN ?_ _ | refine blk_drew ?_ | refine blk_alloc ?_ _)); refine blk_far ?_ NB406_422.out _; (with_reducible repeat (first | refine blk_drewN ?_ _ | refine blk_drew ?_ | refine blk_alloc ?_ _)); refine blk_far ?_ NB406_422.out _; (with_reducible repeat (first | refine blk_drewN ?_ _ | refine blk_drew ?_ | refine blk_alloc ?_ _)); refine blk_far ?_ NB406_422.out _; (with_reducible repeat (first | refine blk_drewN ?_ _ | refine blk_drew ?_ | refine blk_alloc ?_ _)); refine blk_far ?_ NB406_422.out _; (with_reducible repeat (first | refine blk_drewN ?_ _ | refine blk_drew ?_ | refine blk_alloc ?_ _)); refine blk_far ?_ NB406_422.out _; (with_reducible repeat (first | refine blk_drewN ?_ _ | refine blk_drew ?_ | refine blk_alloc ?_ _)); refine blk_far ?_ NB406_422.out _; (with_reducible repeat (first | refine blk_drewN ?_ _ | refine blk_drew ?_ | refine blk_alloc ?_ _)); refine blk_far ?_ NB406_422.out _; (with_reducible repeat (first | refine blk_drewN ?_ _ | refine blk_drew ?_ | refine blk_alloc ?_ _)); refine blk_far ?_ NB406_422.out _; first | (with_reducible exact BK406.out) | (with_reducible exact blk_drewN BK406.out _) | (with_reducible exact blk_drew BK406.out) | ((with_reducible repeat (first | refine blk_drewN ?_ _ | refine blk_drew ?_ | refine blk_alloc ?_ _)); exact BK406.out)) Try.underlying33 rfl (by kernel_rfl)) rfl ?_
    exact ⟨_, _, by first | rfl | (simp [errW_none, errW_some] <;> rfl) | (simp [*, errW_none, errW_some] <;> rfl), Kd.R_V (base := 0) (by first | exact Kd.R_nil _ _ _ _ _ | exact Kd.N_nil _ _ _ _ _ | exact Kd.V_nil _ _ _ _ _ | exact Kd.Q_nil _ _ _ _ _ | exact Kd.S_nil _ _ _ _ _), Kd.R_V (base := 0) (by first | exact Kd.R_nil _ _ _ _ _ | exact Kd.N_nil _ _ _ _ _ | exact Kd.V_nil _ _ _ _ _ | exact Kd.Q_nil _ _ _ _ _ | exact Kd.S_nil _ _ _ _ _), by repeat (first | (with_reducible first | exact HB.out | apply below_alloc | apply pw_below_drewN | apply below_drew1 | refine below_set ?_ GE406.out | refine below_set ?_ GE422.out) | exact HB.out)⟩

/-! ### weftref3_two: function 64 -/
def weftref3_two.f (l0 : List Int) (a1 : Int) : Option (Int) := if 0 ≤ a1 then (if a1 < (l0.length : Int) then (if 0 ≤ (wrap64 (a1 + 1)) then (if (wrap64 (a1 + 1)) < (l0.length : Int) then (some (wrap64 ((wrap64 (256 * (wrap64 (rd l0 a1)))) + (wrap64 (rd l0 (wrap64 (a1 + 1))))))) else (none)) else (none)) else (none)) else (none)
set_option maxHeartbeats 8000000 in
set_option maxRecDepth 100000 in
theorem weftref3_two.calls (A0 : Option Addr) (c0 : Nat) (l0 : List Int) (a1 : Int) (r : Int) (w : World) (hr0 : Kd.C (Kd.int .u8) w A0 l0.length l0) (hc0 : l0.length ≤ c0) (h : weftref3_two.f l0 a1 = some r) :
    Calls Try.prog 64 #[.slice A0 l0.length c0, .int .i64 a1] w fun e w' => e = .returned (.int .i64 r) ∧ Drawn0 w w' := by
  have HR0 := Aside0.mk hr0
  have HC0 := Aside0.mk hc0
  clear hr0 hc0
  have H : (if 0 ≤ a1 then (if a1 < (l0.length : Int) then (if 0 ≤ (wrap64 (a1 + 1)) then (if (wrap64 (a1 + 1)) < (l0.length : Int) then (some (wrap64 ((wrap64 (256 * (wrap64 (rd l0 a1)))) + (wrap64 (rd l0 (wrap64 (a1 + 1))))))) else (none)) else (none)) else (none)) else (none)) = some r := h
  clear h
  by_cases c3 : 0 ≤ a1
  · rw [if_pos c3] at H
    have c3b0 : decide (0 ≤ a1) = true := decide_eq_true c3
    clear c3
    by_cases c4 : a1 < (l0.length : Int)
    · rw [if_pos c4] at H
      have c4b0 : decide (a1 < (l0.length : Int)) = true := decide_eq_true c4
      clear c4
      obtain ⟨ji5, hji5⟩ : ∃ j_ : Int, (wrap64 (a1 + 1)) = j_ := ⟨_, rfl⟩
      replace H : (if 0 ≤ (ji5) then (if (ji5) < (l0.length : Int) then (some (wrap64 ((wrap64 (256 * (wrap64 (rd l0 a1)))) + (wrap64 (rd l0 (ji5)))))) else (none)) else (none)) = some r := by first | (rw [hji5] at H; exact H) | (simp only [hji5] at H ⊢; exact H)
      have hji5w : (IntKind.i64.wrap (a1 + 1)) = ji5 := (i64_w _).trans hji5
      by_cases c6 : 0 ≤ (ji5)
      · rw [if_pos c6] at H
        have c6b0 : decide (0 ≤ (ji5)) = true := decide_eq_true c6
        clear c6
        by_cases c7 : (ji5) < (l0.length : Int)
        · rw [if_pos c7] at H
          have c7b0 : decide ((ji5) < (l0.length : Int)) = true := decide_eq_true c7
          clear c7
          obtain rfl := Option.some.inj H
          have p432 : 0 ≤ (a1 : Int) := of_decide_eq_true zq10_4
          have q432 : a1 < (l0.length : Int) := of_decide_eq_true zq10_4
          obtain ⟨ad432, e432, hx432_0⟩ := Kd.at_int HR0.out a1 p432 q432
          cases e432
          replace p432 := eq_true p432
          replace q432 := eq_true q432
          have p433 : 0 ≤ ((ji5) : Int) := of_decide_eq_true zq10_4
          have q433 : (ji5) < (l0.length : Int) := of_decide_eq_true zq10_4
          obtain ⟨ad433, e433, hx433_0⟩ := Kd.at_int HR0.out (ji5) p433 q433
          obtain rfl : ad432 = ad433 := (by injection e433)
          replace p433 := eq_true p433
          replace q433 := eq_true q433
          go_enter Try.func64, Try.ntmps64
          go_wp2
          repeat (go_quiet (fail); try go_wp2)
          go_ret
          exact ⟨by first | rfl | (simp; done) | (simp only [← hji5] <;> (first | rfl | simp)) | (simp [*]; done), by repeat (first | exact Drawn0.refl _ | apply Drawn0.step)⟩
        · rw [if_neg c7] at H
          exact absurd H (by simp)
      · rw [if_neg c6] at H
        exact absurd H (by simp)
    · rw [if_neg c4] at H
      exact absurd H (by simp)
  · rw [if_neg c3] at H
    exact absurd H (by simp)

/-! ### weftref3_front: function 63 -/
def weftref3_front.f (l0 : List Int) (a1 : Bool) : Option (Int × Int × Int) := if (l0.length : Int) < 20 then (some (0, 0, 30)) else (if 0 < (l0.length : Int) then (if ((Int.tdiv (rd l0 0) 16) % 256) = 4 then (if (wrap64 (4 * (wrap64 (Int.tmod (rd l0 0) 16)))) < 20 then (some (0, 0, 32)) else (if (l0.length : Int) < (wrap64 (4 * (wrap64 (Int.tmod (rd l0 0) 16)))) then (some (0, 0, 30)) else ((weftref3_two.f l0 2).bind fun t436 => (if t436 < (wrap64 (4 * (wrap64 (Int.tmod (rd l0 0) 16)))) then (some (0, 0, 32)) else (if a1 = true then (if (l0.length : Int) < t436 then (some (0, 0, 30)) else (some (wrap64 (4 * (wrap64 (Int.tmod (rd l0 0) 16))), t436, 0))) else (some (wrap64 (4 * (wrap64 (Int.tmod (rd l0 0) 16))), t436, 0))))))) else (some (0, 0, 31))) else (none))
set_option maxHeartbeats 8000000 in
set_option maxRecDepth 100000 in
theorem weftref3_front.calls (A0 : Option Addr) (c0 : Nat) (l0 : List Int) (a1 : Bool) (r1 : Int) (r2 : Int) (r3 : Int) (w : World) (hr0 : Kd.C (Kd.int .u8) w A0 l0.length l0) (hc0 : l0.length ≤ c0) (h : weftref3_front.f l0 a1 = some (r1, r2, r3)) :
    Calls Try.prog 63 #[.slice A0 l0.length c0, .bool a1] w fun e w' => e = .returned (.tuple #[.int .i64 r1, .int .i64 r2, .int .i64 r3]) ∧ Drawn0 w w' := by
  have HR0 := Aside0.mk hr0
  have HC0 := Aside0.mk hc0
  clear hr0 hc0
  have H : (if (l0.length : Int) < 20 then (some (0, 0, 30)) else (if 0 < (l0.length : Int) then (if ((Int.tdiv (rd l0 0) 16) % 256) = 4 then (if (wrap64 (4 * (wrap64 (Int.tmod (rd l0 0) 16)))) < 20 then (some (0, 0, 32)) else (if (l0.length : Int) < (wrap64 (4 * (wrap64 (Int.tmod (rd l0 0) 16)))) then (some (0, 0, 30)) else ((weftref3_two.f l0 2).bind fun t436 => (if t436 < (wrap64 (4 * (wrap64 (Int.tmod (rd l0 0) 16)))) then (some (0, 0, 32)) else (if a1 = true then (if (l0.length : Int) < t436 then (some (0, 0, 30)) else (some (wrap64 (4 * (wrap64 (Int.tmod (rd l0 0) 16))), t436, 0))) else (some (wrap64 (4 * (wrap64 (Int.tmod (rd l0 0) 16))), t436, 0))))))) else (some (0, 0, 31))) else (none))) = some (r1, r2, r3) := h
  clear h
  by_cases c3 : (l0.length : Int) < 20
  · rw [if_pos c3] at H
    have c3b0 : decide ((l0.length : Int) < 20) = true := decide_eq_true c3
    have c3b1 : decide (l0.length < 20) = true := decide_eq_true (by omega)
    clear c3
    simp only [Option.some.injEq, Prod.mk.injEq] at H
    obtain ⟨rfl, rfl, rfl⟩ := H
    go_enter Try.func63, Try.ntmps63
    go_wp2
    go_ret3
    exact ⟨by first | rfl | (simp; done) | (simp [*]; done), by repeat (first | exact Drawn0.refl _ | apply Drawn0.step)⟩
  · rw [if_neg c3] at H
    have c3b0 : decide ((l0.length : Int) < 20) = false := decide_eq_false c3
    have c3b1 : decide (l0.length < 20) = false := decide_eq_false (by omega)
    clear c3
    by_cases c4 : 0 < (l0.length : Int)
    · rw [if_pos c4] at H
      have c4b0 : decide (0 < (l0.length : Int)) = true := decide_eq_true c4
      have c4b1 : decide (0 < l0.length) = true := decide_eq_true (by omega)
      clear c4
      by_cases c5 : ((Int.tdiv (rd l0 0) 16) % 256) = 4
      · rw [if_pos c5] at H
        have c5b0 : (((Int.tdiv (rd l0 0) 16) % 256) == 4) = true := beq_iff_eq.mpr c5
        have c5b1 : (((Int.tdiv (rd l0 0) 16) % 256) != 4) = false := bne_eq_false_iff_eq.mpr c5
        clear c5
        by_cases c6 : (wrap64 (4 * (wrap64 (Int.tmod (rd l0 0) 16)))) < 20
        · rw [if_pos c6] at H
          have c6b0 : decide ((wrap64 (4 * (wrap64 (Int.tmod (rd l0 0) 16)))) < 20) = true := decide_eq_true c6
          clear c6
          simp only [Option.some.injEq, Prod.mk.injEq] at H
          obtain ⟨rfl, rfl, rfl⟩ := H
          have p434 : 0 ≤ (0 : Int) := (by omega)
          have q434 : 0 < (l0.length : Int) := of_decide_eq_true zq10_4
          obtain ⟨ad434, e434, hx434_0⟩ := Kd.at_int HR0.out 0 p434 q434
          cases e434
          have qi434 : (0 < l0.length) = True := eq_true (by omega)
          (try rw [show ((0 : Int)).toNat = 0 from rfl] at hx434_0)
          (try rw [Addr.add_zero'] at hx434_0)
          replace p434 := eq_true p434
          replace q434 := eq_true q434
          have p435 : 0 ≤ (0 : Int) := (by omega)
          have q435 : 0 < (l0.length : Int) := of_decide_eq_true zq10_4
          obtain ⟨ad435, e435, hx435_0⟩ := Kd.at_int HR0.out 0 p435 q435
          obtain rfl : ad434 = ad435 := (by injection e435)
          have qi435 : (0 < l0.length) = True := eq_true (by omega)
          (try rw [show ((0 : Int)).toNat = 0 from rfl] at hx435_0)
          (try rw [Addr.add_zero'] at hx435_0)
          replace p435 := eq_true p435
          replace q435 := eq_true q435
          go_enter Try.func63, Try.ntmps63
          go_wp2
          go_ret3
          exact ⟨by first | rfl | (simp; done) | (simp [*]; done), by repeat (first | exact Drawn0.refl _ | apply Drawn0.step)⟩
        · rw [if_neg c6] at H
          have c6b0 : decide ((wrap64 (4 * (wrap64 (Int.tmod (rd l0 0) 16)))) < 20) = false := decide_eq_false c6
          clear c6
          by_cases c7 : (l0.length : Int) < (wrap64 (4 * (wrap64 (Int.tmod (rd l0 0) 16))))
          · rw [if_pos c7] at H
            have c7b0 : decide ((l0.length : Int) < (wrap64 (4 * (wrap64 (Int.tmod (rd l0 0) 16))))) = true := decide_eq_true c7
            clear c7
            simp only [Option.some.injEq, Prod.mk.injEq] at H
            obtain ⟨rfl, rfl, rfl⟩ := H
            have p434 : 0 ≤ (0 : Int) := (by omega)
            have q434 : 0 < (l0.length : Int) := of_decide_eq_true zq10_4
            obtain ⟨ad434, e434, hx434_0⟩ := Kd.at_int HR0.out 0 p434 q434
            cases e434
            have qi434 : (0 < l0.length) = True := eq_true (by omega)
            (try rw [show ((0 : Int)).toNat = 0 from rfl] at hx434_0)
            (try rw [Addr.add_zero'] at hx434_0)
            replace p434 := eq_true p434
            replace q434 := eq_true q434
            have p435 : 0 ≤ (0 : Int) := (by omega)
            have q435 : 0 < (l0.length : Int) := of_decide_eq_true zq10_4
            obtain ⟨ad435, e435, hx435_0⟩ := Kd.at_int HR0.out 0 p435 q435
            obtain rfl : ad434 = ad435 := (by injection e435)
            have qi435 : (0 < l0.length) = True := eq_true (by omega)
            (try rw [show ((0 : Int)).toNat = 0 from rfl] at hx435_0)
            (try rw [Addr.add_zero'] at hx435_0)
            replace p435 := eq_true p435
            replace q435 := eq_true q435
            go_enter Try.func63, Try.ntmps63
            go_wp2
            go_ret3
            exact ⟨by first | rfl | (simp; done) | (simp [*]; done), by repeat (first | exact Drawn0.refl _ | apply Drawn0.step)⟩
          · rw [if_neg c7] at H
            have c7b0 : decide ((l0.length : Int) < (wrap64 (4 * (wrap64 (Int.tmod (rd l0 0) 16))))) = false := decide_eq_false c7
            clear c7
            replace H := Option.bind_eq_some_iff.mp H
            obtain ⟨t436, A80, H⟩ := H
            replace H : (if t436 < (wrap64 (4 * (wrap64 (Int.tmod (rd l0 0) 16)))) then (some (0, 0, 32)) else (if a1 = true then (if (l0.length : Int) < t436 then (some (0, 0, 30)) else (some (wrap64 (4 * (wrap64 (Int.tmod (rd l0 0) 16))), t436, 0))) else (some (wrap64 (4 * (wrap64 (Int.tmod (rd l0 0) 16))), t436, 0)))) = some (r1, r2, r3) := H
            have A8 := Aside0.mk A80
            clear A80
            by_cases c9 : t436 < (wrap64 (4 * (wrap64 (Int.tmod (rd l0 0) 16))))
            · rw [if_pos c9] at H
              have c9b0 : decide (t436 < (wrap64 (4 * (wrap64 (Int.tmod (rd l0 0) 16))))) = true := decide_eq_true c9
              clear c9
              simp only [Option.some.injEq, Prod.mk.injEq] at H
              obtain ⟨rfl, rfl, rfl⟩ := H
              have p434 : 0 ≤ (0 : Int) := (by omega)
              have q434 : 0 < (l0.length : Int) := of_decide_eq_true zq10_4
              obtain ⟨ad434, e434, hx434_0⟩ := Kd.at_int HR0.out 0 p434 q434
              cases e434
              have qi434 : (0 < l0.length) = True := eq_true (by omega)
              (try rw [show ((0 : Int)).toNat = 0 from rfl] at hx434_0)
              (try rw [Addr.add_zero'] at hx434_0)
              replace p434 := eq_true p434
              replace q434 := eq_true q434
              have p435 : 0 ≤ (0 : Int) := (by omega)
              have q435 : 0 < (l0.length : Int) := of_decide_eq_true zq10_4
              obtain ⟨ad435, e435, hx435_0⟩ := Kd.at_int HR0.out 0 p435 q435
              obtain rfl : ad434 = ad435 := (by injection e435)
              have qi435 : (0 < l0.length) = True := eq_true (by omega)
              (try rw [show ((0 : Int)).toNat = 0 from rfl] at hx435_0)
              (try rw [Addr.add_zero'] at hx435_0)
              replace p435 := eq_true p435
              replace q435 := eq_true q435
              go_enter Try.func63, Try.ntmps63
              go_wp2_with (first | ((with_reducible refine gate_callee (f := 64) rfl ?_); refine goesL_ (some 30) rfl rfl Try.func64 (by kernel_rfl) rfl #[.slice (some ad434) l0.length c0, .int .i64 2] rfl zq10_5 ?_; (with_reducible refine (weftref3_two.calls _ _ l0 2 t436 _ ?side1 ?side2 A8.out).mono ?_); (case side1 => repeat (first | exact HR0.out | (with_reducible refine Kd.C_alloc ?_ _) | (with_reducible refine Kd.C_drewN ?_ _) | (with_reducible refine Kd.C_drew ?_))); (case side2 => exact HC0.out); rintro e w' ⟨rfl, ⟨nd, rfl⟩⟩; refine ⟨_, rfl, ?_⟩))
              go_ret3
              exact ⟨by first | rfl | (simp; done) | (simp [*]; done), by repeat (first | exact Drawn0.refl _ | apply Drawn0.step)⟩
            · rw [if_neg c9] at H
              have c9b0 : decide (t436 < (wrap64 (4 * (wrap64 (Int.tmod (rd l0 0) 16))))) = false := decide_eq_false c9
              clear c9
              by_cases c10 : a1 = true
              · subst c10
                have H1 : (if (l0.length : Int) < t436 then (some (0, 0, 30)) else (some (wrap64 (4 * (wrap64 (Int.tmod (rd l0 0) 16))), t436, 0))) = some (r1, r2, r3) := by rw [if_pos rfl] at H; exact H
                clear H
                have H := H1
                clear H1
                by_cases c11 : (l0.length : Int) < t436
                · rw [if_pos c11] at H
                  have c11b0 : decide ((l0.length : Int) < t436) = true := decide_eq_true c11
                  clear c11
                  simp only [Option.some.injEq, Prod.mk.injEq] at H
                  obtain ⟨rfl, rfl, rfl⟩ := H
                  have p434 : 0 ≤ (0 : Int) := (by omega)
                  have q434 : 0 < (l0.length : Int) := of_decide_eq_true zq10_4
                  obtain ⟨ad434, e434, hx434_0⟩ := Kd.at_int HR0.out 0 p434 q434
                  cases e434
                  have qi434 : (0 < l0.length) = True := eq_true (by omega)
                  (try rw [show ((0 : Int)).toNat = 0 from rfl] at hx434_0)
                  (try rw [Addr.add_zero'] at hx434_0)
                  replace p434 := eq_true p434
                  replace q434 := eq_true q434
                  have p435 : 0 ≤ (0 : Int) := (by omega)
                  have q435 : 0 < (l0.length : Int) := of_decide_eq_true zq10_4
                  obtain ⟨ad435, e435, hx435_0⟩ := Kd.at_int HR0.out 0 p435 q435
                  obtain rfl : ad434 = ad435 := (by injection e435)
                  have qi435 : (0 < l0.length) = True := eq_true (by omega)
                  (try rw [show ((0 : Int)).toNat = 0 from rfl] at hx435_0)
                  (try rw [Addr.add_zero'] at hx435_0)
                  replace p435 := eq_true p435
                  replace q435 := eq_true q435
                  go_enter Try.func63, Try.ntmps63
                  go_wp2_with (first | ((with_reducible refine gate_callee (f := 64) rfl ?_); refine goesL_ (some 30) rfl rfl Try.func64 (by kernel_rfl) rfl #[.slice (some ad434) l0.length c0, .int .i64 2] rfl zq10_5 ?_; (with_reducible refine (weftref3_two.calls _ _ l0 2 t436 _ ?side1 ?side2 A8.out).mono ?_); (case side1 => repeat (first | exact HR0.out | (with_reducible refine Kd.C_alloc ?_ _) | (with_reducible refine Kd.C_drewN ?_ _) | (with_reducible refine Kd.C_drew ?_))); (case side2 => exact HC0.out); rintro e w' ⟨rfl, ⟨nd, rfl⟩⟩; refine ⟨_, rfl, ?_⟩))
                  go_ret3
                  exact ⟨by first | rfl | (simp; done) | (simp [*]; done), by repeat (first | exact Drawn0.refl _ | apply Drawn0.step)⟩
                · rw [if_neg c11] at H
                  have c11b0 : decide ((l0.length : Int) < t436) = false := decide_eq_false c11
                  clear c11
                  simp only [Option.some.injEq, Prod.mk.injEq] at H
                  obtain ⟨rfl, rfl, rfl⟩ := H
                  have p434 : 0 ≤ (0 : Int) := (by omega)
                  have q434 : 0 < (l0.length : Int) := of_decide_eq_true zq10_4
                  obtain ⟨ad434, e434, hx434_0⟩ := Kd.at_int HR0.out 0 p434 q434
                  cases e434
                  have qi434 : (0 < l0.length) = True := eq_true (by omega)
                  (try rw [show ((0 : Int)).toNat = 0 from rfl] at hx434_0)
                  (try rw [Addr.add_zero'] at hx434_0)
                  replace p434 := eq_true p434
                  replace q434 := eq_true q434
                  have p435 : 0 ≤ (0 : Int) := (by omega)
                  have q435 : 0 < (l0.length : Int) := of_decide_eq_true zq10_4
                  obtain ⟨ad435, e435, hx435_0⟩ := Kd.at_int HR0.out 0 p435 q435
                  obtain rfl : ad434 = ad435 := (by injection e435)
                  have qi435 : (0 < l0.length) = True := eq_true (by omega)
                  (try rw [show ((0 : Int)).toNat = 0 from rfl] at hx435_0)
                  (try rw [Addr.add_zero'] at hx435_0)
                  replace p435 := eq_true p435
                  replace q435 := eq_true q435
                  go_enter Try.func63, Try.ntmps63
                  go_wp2_with (first | ((with_reducible refine gate_callee (f := 64) rfl ?_); refine goesL_ (some 30) rfl rfl Try.func64 (by kernel_rfl) rfl #[.slice (some ad434) l0.length c0, .int .i64 2] rfl zq10_5 ?_; (with_reducible refine (weftref3_two.calls _ _ l0 2 t436 _ ?side1 ?side2 A8.out).mono ?_); (case side1 => repeat (first | exact HR0.out | (with_reducible refine Kd.C_alloc ?_ _) | (with_reducible refine Kd.C_drewN ?_ _) | (with_reducible refine Kd.C_drew ?_))); (case side2 => exact HC0.out); rintro e w' ⟨rfl, ⟨nd, rfl⟩⟩; refine ⟨_, rfl, ?_⟩))
                  go_ret3
                  exact ⟨by first | rfl | (simp; done) | (simp [*]; done), by repeat (first | exact Drawn0.refl _ | apply Drawn0.step)⟩
              · replace c10 := Bool.eq_false_iff.mpr c10
                subst c10
                have H1 : (some (wrap64 (4 * (wrap64 (Int.tmod (rd l0 0) 16))), t436, 0)) = some (r1, r2, r3) := by rw [if_neg (show ¬ (false = true) by decide)] at H; exact H
                clear H
                have H := H1
                clear H1
                simp only [Option.some.injEq, Prod.mk.injEq] at H
                obtain ⟨rfl, rfl, rfl⟩ := H
                have p434 : 0 ≤ (0 : Int) := (by omega)
                have q434 : 0 < (l0.length : Int) := of_decide_eq_true zq10_4
                obtain ⟨ad434, e434, hx434_0⟩ := Kd.at_int HR0.out 0 p434 q434
                cases e434
                have qi434 : (0 < l0.length) = True := eq_true (by omega)
                (try rw [show ((0 : Int)).toNat = 0 from rfl] at hx434_0)
                (try rw [Addr.add_zero'] at hx434_0)
                replace p434 := eq_true p434
                replace q434 := eq_true q434
                have p435 : 0 ≤ (0 : Int) := (by omega)
                have q435 : 0 < (l0.length : Int) := of_decide_eq_true zq10_4
                obtain ⟨ad435, e435, hx435_0⟩ := Kd.at_int HR0.out 0 p435 q435
                obtain rfl : ad434 = ad435 := (by injection e435)
                have qi435 : (0 < l0.length) = True := eq_true (by omega)
                (try rw [show ((0 : Int)).toNat = 0 from rfl] at hx435_0)
                (try rw [Addr.add_zero'] at hx435_0)
                replace p435 := eq_true p435
                replace q435 := eq_true q435
                go_enter Try.func63, Try.ntmps63
                go_wp2_with (first | ((with_reducible refine gate_callee (f := 64) rfl ?_); refine goesL_ (some 30) rfl rfl Try.func64 (by kernel_rfl) rfl #[.slice (some ad434) l0.length c0, .int .i64 2] rfl zq10_5 ?_; (with_reducible refine (weftref3_two.calls _ _ l0 2 t436 _ ?side1 ?side2 A8.out).mono ?_); (case side1 => repeat (first | exact HR0.out | (with_reducible refine Kd.C_alloc ?_ _) | (with_reducible refine Kd.C_drewN ?_ _) | (with_reducible refine Kd.C_drew ?_))); (case side2 => exact HC0.out); rintro e w' ⟨rfl, ⟨nd, rfl⟩⟩; refine ⟨_, rfl, ?_⟩))
                go_ret3
                exact ⟨by first | rfl | (simp; done) | (simp [*]; done), by repeat (first | exact Drawn0.refl _ | apply Drawn0.step)⟩
      · rw [if_neg c5] at H
        have c5b0 : (((Int.tdiv (rd l0 0) 16) % 256) == 4) = false := beq_eq_false_iff_ne.mpr c5
        have c5b1 : (((Int.tdiv (rd l0 0) 16) % 256) != 4) = true := bne_iff_ne.mpr c5
        simp only [Option.some.injEq, Prod.mk.injEq] at H
        obtain ⟨rfl, rfl, rfl⟩ := H
        have p434 : 0 ≤ (0 : Int) := (by omega)
        have q434 : 0 < (l0.length : Int) := of_decide_eq_true zq10_4
        obtain ⟨ad434, e434, hx434_0⟩ := Kd.at_int HR0.out 0 p434 q434
        cases e434
        have qi434 : (0 < l0.length) = True := eq_true (by omega)
        (try rw [show ((0 : Int)).toNat = 0 from rfl] at hx434_0)
        (try rw [Addr.add_zero'] at hx434_0)
        replace p434 := eq_true p434
        replace q434 := eq_true q434
        go_enter Try.func63, Try.ntmps63
        go_wp2
        go_ret3
        exact ⟨by first | rfl | (simp; done) | (simp [*]; done), by repeat (first | exact Drawn0.refl _ | apply Drawn0.step)⟩
    · rw [if_neg c4] at H
      exact absurd H (by simp)

/-! ### weftref3_four: function 65 -/
def weftref3_four.f (l0 : List Int) (a1 : Int) : Option (Int) := (weftref3_two.f l0 a1).bind fun t437 => ((weftref3_two.f l0 (wrap64 (a1 + 2))).bind fun t438 => (some (wrap64 ((wrap64 (65536 * t437)) + t438))))
set_option maxHeartbeats 8000000 in
set_option maxRecDepth 100000 in
theorem weftref3_four.calls (A0 : Option Addr) (c0 : Nat) (l0 : List Int) (a1 : Int) (r : Int) (w : World) (hr0 : Kd.C (Kd.int .u8) w A0 l0.length l0) (hc0 : l0.length ≤ c0) (h : weftref3_four.f l0 a1 = some r) :
    Calls Try.prog 65 #[.slice A0 l0.length c0, .int .i64 a1] w fun e w' => e = .returned (.int .i64 r) ∧ Drawn0 w w' := by
  have HR0 := Aside0.mk hr0
  have HC0 := Aside0.mk hc0
  clear hr0 hc0
  have H : ((weftref3_two.f l0 a1).bind fun t437 => ((weftref3_two.f l0 (wrap64 (a1 + 2))).bind fun t438 => (some (wrap64 ((wrap64 (65536 * t437)) + t438))))) = some r := h
  clear h
  replace H := Option.bind_eq_some_iff.mp H
  obtain ⟨t437, A30, H⟩ := H
  replace H : ((weftref3_two.f l0 (wrap64 (a1 + 2))).bind fun t438 => (some (wrap64 ((wrap64 (65536 * t437)) + t438)))) = some r := H
  have A3 := Aside0.mk A30
  clear A30
  replace H := Option.bind_eq_some_iff.mp H
  obtain ⟨t438, A40, H⟩ := H
  replace H : (some (wrap64 ((wrap64 (65536 * t437)) + t438))) = some r := H
  have A4 := Aside0.mk A40
  clear A40
  obtain rfl := Option.some.inj H
  go_enter Try.func65, Try.ntmps65
  go_wp2_with (first | ((with_reducible refine gate_callee (f := 64) rfl ?_); refine goesL_ (some 7) rfl rfl Try.func64 (by kernel_rfl) rfl #[.slice A0 l0.length c0, .int .i64 a1] rfl zq10_5 ?_; (with_reducible refine (weftref3_two.calls _ _ l0 a1 t437 _ ?side1 ?side2 A3.out).mono ?_); (case side1 => repeat (first | exact HR0.out | (with_reducible refine Kd.C_alloc ?_ _) | (with_reducible refine Kd.C_drewN ?_ _) | (with_reducible refine Kd.C_drew ?_))); (case side2 => exact HC0.out); rintro e w' ⟨rfl, ⟨nd, rfl⟩⟩; refine ⟨_, rfl, ?_⟩) | ((with_reducible refine gate_callee (f := 64) rfl ?_); refine goesL_ (some 12) rfl rfl Try.func64 (by kernel_rfl) rfl #[.slice A0 l0.length c0, .int .i64 (wrap64 (a1 + 2))] rfl zq10_5 ?_; (with_reducible refine (weftref3_two.calls _ _ l0 (wrap64 (a1 + 2)) t438 _ ?side1 ?side2 A4.out).mono ?_); (case side1 => repeat (first | exact HR0.out | (with_reducible refine Kd.C_alloc ?_ _) | (with_reducible refine Kd.C_drewN ?_ _) | (with_reducible refine Kd.C_drew ?_))); (case side2 => exact HC0.out); rintro e w' ⟨rfl, ⟨nd, rfl⟩⟩; refine ⟨_, rfl, ?_⟩))
  go_ret
  exact ⟨by first | rfl | (simp; done) | (simp [*]; done), by repeat (first | exact Drawn0.refl _ | apply Drawn0.step)⟩

/-! ### weftref3_clone: function 66 -/
def weftref3_clone.l0 : Nat → List Int → List Int → Int → Option (List Int)
  | 0, _, _, _ => none
  | k + 1, x0, x3, x4 => if x4 < (x0.length : Int) then (if 0 ≤ x4 then (if x3.length < 140737488355328 then (weftref3_clone.l0 k x0 (x3 ++ [rd x0 x4]) (wrap64 (x4 + 1))) else (none)) else (none)) else (some x3)
def weftref3_clone.f (k : Nat) (l0 : List Int) : Option (List Int) := weftref3_clone.l0 k l0 ([] : List Int) 0
theorem weftref3_clone.mono_l : ∀ k, (∀ y0 y1 y2, LeO (weftref3_clone.l0 k y0 y1 y2) (weftref3_clone.l0 (k + 1) y0 y1 y2))
  | 0 => fun _ _ _ r h => by simp [weftref3_clone.l0] at h
  | k + 1 => by
    have ih0 := weftref3_clone.mono_l k
    · intro y0 y1 y2
      unfold weftref3_clone.l0
      repeat' first
      | (with_reducible exact ih0 _ _ _)
      | (with_reducible exact LeO.refl _)
      | (with_reducible exact LeO.none _)
      | (with_reducible refine LeO.ite ?_ ?_)
      | (with_reducible refine LeO.bind ?_ (fun _ => ?_))
      | exact ih0 _ _ _
      | exact LeO.none _
      | refine LeO.ite ?_ ?_
      | refine LeO.bind ?_ (fun _ => ?_)
theorem weftref3_clone.mono : ∀ a0 k, LeO (weftref3_clone.f k a0) (weftref3_clone.f (k + 1) a0) := by
  intro a0 k
  have ih0 := weftref3_clone.mono_l k
  unfold weftref3_clone.f
  repeat' first
      | (with_reducible exact ih0 _ _ _)
      | (with_reducible exact LeO.refl _)
      | (with_reducible exact LeO.none _)
      | (with_reducible refine LeO.ite ?_ ?_)
      | (with_reducible refine LeO.bind ?_ (fun _ => ?_))
      | exact ih0 _ _ _
      | exact LeO.none _
      | refine LeO.ite ?_ ?_
      | refine LeO.bind ?_ (fun _ => ?_)
set_option maxHeartbeats 8000000 in
set_option maxRecDepth 100000 in
theorem weftref3_clone.calls (k : Nat) (A0 : Option Addr) (c0 : Nat) (l0 : List Int) (r : List Int) (w : World) (hr0 : Kd.C (Kd.int .u8) w A0 l0.length l0) (hc0 : l0.length ≤ c0) (h : weftref3_clone.f k l0 = some r) :
    Calls Try.prog 66 #[.slice A0 l0.length c0] w fun e w' => ∃ v0_ : Value, e = .returned (v0_) ∧ Kd.R (Kd.int .u8) 5 w' w.heap.size (fun _ => True) v0_ r ∧ Below w.heap.size w w' := by
  have HR0 := Aside0.mk hr0
  have HC0 := Aside0.mk hc0
  clear hr0 hc0
  have HB := Aside0.mk (Below.refl w.heap.size w)
  have H : (weftref3_clone.l0 k l0 ([] : List Int) 0) = some r := h
  clear h
  have H' := Aside0.mk H
  clear H
  go_enter Try.func66, Try.ntmps66
  go_wp2
  go_loopg [3, 4] k (fun kq v3 v4 w' => ∃ (x3_1 : List Int) (x4_1 : Int), v4 = .int .i64 x4_1 ∧ Aside0 (weftref3_clone.l0 kq l0 x3_1 x4_1 = some r) ∧ Aside0 (kq ≤ k) ∧ Aside0 (Kd.R (Kd.int .u8) 5 w' w.heap.size (fun _ => True) v3 x3_1) ∧ Aside0 (Below w.heap.size w w'))
  case atStart => exact ⟨(([] : List Int)), (0), (by first | rfl | (simp; done) | (simp [*]; done)), H', ⟨Nat.le_refl _⟩, ⟨by first | exact Kd.R_nil _ _ _ _ _ | exact Kd.N_nil _ _ _ _ _ | exact Kd.V_nil _ _ _ _ _ | exact Kd.Q_nil _ _ _ _ _ | exact Kd.S_nil _ _ _ _ _⟩, ⟨by repeat (first | (with_reducible first | exact HB.out | apply below_alloc | apply pw_below_drewN | apply below_drew1) | exact HB.out)⟩⟩
  case round =>
    clear H'
    obtain ⟨x3_1, x4_1, rfl, HA, HK1, HO_3, HB⟩ := hrel
    cases gk with
    | zero => exact absurd HA.out (by simp [weftref3_clone.l0])
    | succ k1 =>
      have H := HA.out
      clear HA
      simp only [weftref3_clone.l0] at H
      by_cases c2 : x4_1 < (l0.length : Int)
      · rw [if_pos c2] at H
        have c2b0 : decide (x4_1 < (l0.length : Int)) = true := decide_eq_true c2
        clear c2
        by_cases c3 : 0 ≤ x4_1
        · rw [if_pos c3] at H
          have c3b0 : decide (0 ≤ x4_1) = true := decide_eq_true c3
          clear c3
          by_cases c4 : x3_1.length < 140737488355328
          · rw [if_pos c4] at H
            have LMc4 := Aside0.mk c4
            clear c4
            obtain ⟨y440, hy440⟩ : ∃ y_ : List Int, y_ = (x3_1 ++ [rd l0 x4_1]) := ⟨_, rfl⟩
            replace H : (weftref3_clone.l0 k1 l0 y440 (wrap64 (x4_1 + 1))) = some r := by first | (rw [hy440]; with_reducible exact H) | (have H2_ := (Option.bind_some _ _).symm.trans H; rw [hy440]; with_reducible exact H2_) | (have H2_ := (Option.bind_some _ _).symm.trans H; with_reducible exact H2_) | with_reducible exact H | (rw [hy440]; exact H) | exact H
            have Ny440 := Aside0.mk hy440
            clear hy440
            have H' := Aside0.mk H
            clear H
            have p439 : 0 ≤ (x4_1 : Int) := of_decide_eq_true zq10_4
            have q439 : x4_1 < (l0.length : Int) := of_decide_eq_true zq10_4
            obtain ⟨ad439, e439, hx439_0⟩ := Kd.at_int HR0.out x4_1 p439 q439
            cases e439
            replace hx439_0 := (HB.out.cell (World.block_lt_of_cell? w _ hx439_0)).trans hx439_0
            replace p439 := eq_true p439
            replace q439 := eq_true q439
            go_wp2_with (first | ((with_reducible refine gate_builtin (b := .append) (xs := #[.tmp 11, .tmp 16]) rfl ?_); at_builtin; refine Kd.R_append (Kd.int .u8) (w0 := w) w.heap.size rfl (.tmp 11) (.tmp 16) 23 5 (.int .u8 0) 1 rfl Try.underlying23 info5 rfl (by decide) (by omega) u3 x3_1 (rd l0 x4_1) [.int .u8 (rd l0 x4_1)] (fun _ => True) (fun _ => False) rfl rfl ?aP (fun _ hk => hk.elim) ?aF ?aO ?aB ?aS ?aL ?_; (case aP => exact rfl); (case aB => exact zq10_6); (case aF => exact (fun _ _ => trivial)); (case aO => exact (by (with_reducible repeat (first | apply Kd.R_alloc | apply Kd.R_drewN | apply Kd.R_drew)); exact HO_3.out)); (case aS => exact (below_size zq10_6)); (case aL => have := LMc4.out; omega); intro v441 w5 ho hb hg hat; rw [← Ny440.out] at ho; have n0_ := Aside0.mk (hb); have n1_ := Aside0.mk (ho); clear HB; clear HO_3; have HB := n0_; have HO442 := n1_; clear n0_ n1_; clear ho hb hg hat))
            go_roundg k1
            case measure => have := HK1.out; omega
            case rel => exact ⟨(y440), (wrap64 (x4_1 + 1)), (by first | rfl | (simp; done) | (simp [*]; done)), H', ⟨by have := HK1.out; omega⟩, ⟨by (with_reducible repeat (first | apply Kd.R_alloc | apply Kd.R_drewN | apply Kd.R_drew)); exact HO442.out⟩, ⟨by repeat (first | (with_reducible first | exact HB.out | apply below_alloc | apply pw_below_drewN | apply below_drew1) | exact HB.out)⟩⟩
          · rw [if_neg c4] at H
            exact absurd H (by simp)
        · rw [if_neg c3] at H
          exact absurd H (by simp)
      · rw [if_neg c2] at H
        have c2b0 : decide (x4_1 < (l0.length : Int)) = false := decide_eq_false c2
        clear c2
        obtain rfl := Option.some.inj H
        go_wp2
        go_ret
        exact ⟨_, by first | rfl | (simp [errW_none, errW_some] <;> rfl) | (simp [*, errW_none, errW_some] <;> rfl), by (with_reducible repeat (first | apply Kd.R_alloc | apply Kd.R_drewN | apply Kd.R_drew)); exact HO_3.out, by repeat (first | (with_reducible first | exact HB.out | apply below_alloc | apply pw_below_drewN | apply below_drew1) | exact HB.out)⟩

end Go.Proofs.Ytmjhfkjnnpnoaaa.XA
