-- printed by a program of this session (wip/xprint), out of the translation; Lean checks it
import Derived.Test.YtbacmhegalncjaaQHXBx0
import Derived.Test.YtbacmhegalncjaaQHXBx6
import Derived.Test.YtbacmhegalncjaaQHXBx7
import Derived.Test.YtbacmhegalncjaaQHXBx8
import Derived.Test.YtbacmhegalncjaaQHXBx3
import Derived.Test.YtbacmhegalncjaaQHXBx5
import Derived.Test.YtbacmhegalncjaaQHXBx9
namespace Go.Proofs.Ytbacmhegalncjaa.XB
open Go.RowKit Go.Proofs.YtbacmhegalncjaaW.PrintWords Go.Proofs.YtbacmhegalncjaaW.PrintLast Go.Proofs.YtbacmhegalncjaaW.PrintMore Go.Proofs.YtbacmhegalncjaaX
theorem zq12_2 {P : Prop} (h : P := by repeat (first | (with_reducible first | exact HB.out | apply below_alloc | apply pw_below_drewN | apply below_drew1 | refine below_set ?_ GE515.out | refine below_set ?_ GE531.out) | exact HB.out)) : P := h
theorem zq12_1 {P : Prop} (h : P := by repeat (first | (with_reducible first | exact HB.out | apply below_alloc | apply pw_below_drewN | apply below_drew1 | refine below_set ?_ GE515.out) | exact HB.out)) : P := h
theorem zq12_0 {P : Prop} (h : P := by first | (with_reducible exact BK515.out) | (with_reducible exact blk_drewN BK515.out _) | (with_reducible exact blk_drew BK515.out) | ((with_reducible repeat (first | refine blk_drewN ?_ _ | refine blk_drew ?_ | refine blk_alloc ?_ _)); exact BK515.out)) : P := h
attribute [local go_sem] max2_int min2_int max_two min_two max_three min_three max_four min_four   -- for this text's walks alone
set_option linter.unusedVariables false
set_option linter.unusedSimpArgs false

/-! ### weftlaw3_Ip4FlipTold: function 7 -/
/-! ### ip4_Peek: function 51 -/
def ip4_Peek.f (k : Nat) (l0 : List Int) : Option (Int × Int × Bool × Bool × Int × Int × Int × Int × Int × List Int × List Int × Int) := (ip4_read.f k l0 false).bind fun bt516 => (if bt516.2.2.2.2.2.2.2.2.2.2.2.2 = 0 then (if 20 ≤ bt516.2.2.2.2.2.2.2.2.2.2.1 then (if bt516.2.2.2.2.2.2.2.2.2.2.1 ≤ (l0.length : Int) then (if 0 ≤ bt516.2.2.2.2.2.2.2.2.2.2.1 then (if bt516.2.2.2.2.2.2.2.2.2.2.1 ≤ (mn bt516.2.2.2.2.2.2.2.2.2.2.2.1 (l0.length : Int)) then (if (mn bt516.2.2.2.2.2.2.2.2.2.2.2.1 (l0.length : Int)) ≤ (l0.length : Int) then ((ip4_apart.f ((l0.take (bt516.2.2.2.2.2.2.2.2.2.2.1 : Int).toNat).drop 20) ((l0.take ((mn bt516.2.2.2.2.2.2.2.2.2.2.2.1 (l0.length : Int)) : Int).toNat).drop (bt516.2.2.2.2.2.2.2.2.2.2.1 : Int).toNat)).bind fun bt534 => (some (bt516.1, bt516.2.1, bt516.2.2.1, bt516.2.2.2.1, bt516.2.2.2.2.1, bt516.2.2.2.2.2.1, bt516.2.2.2.2.2.2.1, bt516.2.2.2.2.2.2.2.1, bt516.2.2.2.2.2.2.2.2.1, bt534.1, bt534.2, 0))) else (none)) else (none)) else (none)) else (none)) else (none)) else (some (0, 0, false, false, 0, 0, 0, 0, 0, ([] : List Int), ([] : List Int), bt516.2.2.2.2.2.2.2.2.2.2.2.2)))
def ip4_Peek.T6 : Bool × List (List Nat × List Nat) := (true, [([], []), ([], []), ([0, 1], [0, 1]), ([], []), ([], []), ([], []), ([3, 4, 5], [3, 4, 5]), ([2, 6], [2, 6]), ([7], [7]), ([8], [8]), ([8], [8]), ([0, 1, 2, 3, 4, 5, 6, 7, 8, 9], []), ([11, 9, 7, 0, 1, 2, 3, 4, 5, 6, 7, 8, 9], [9, 11]), ([10, 12, 0, 1, 2, 3, 4, 5, 6, 7, 8, 9, 10, 11, 12], [10])])
def ip4_Peek.B6 : List Nat := [0, 0, 3, 0, 0, 0, 56, 127, 255, 511, 511, 1023, 3071, 8191]
theorem ip4_Peek.tab6 : rtab .any (opsOf Try.f51 6) = ip4_Peek.T6 := by kernel_rfl
theorem ip4_Peek.bits6 : waitsOk ip4_Peek.T6.2 ip4_Peek.B6 = true := by kernel_rfl
set_option maxHeartbeats 8000000 in
set_option maxRecDepth 100000 in
theorem ip4_Peek.calls (k : Nat) (A0 : Option Addr) (c0 : Nat) (l0 : List Int) (r1 : Int) (r2 : Int) (r3 : Bool) (r4 : Bool) (r5 : Int) (r6 : Int) (r7 : Int) (r8 : Int) (r9 : Int) (r10 : List Int) (r11 : List Int) (r12 : Int) (w : World) (hr0 : Kd.C (Kd.int .u8) w A0 l0.length l0) (hc0 : l0.length ≤ c0) (h : ip4_Peek.f k l0 = some (r1, r2, r3, r4, r5, r6, r7, r8, r9, r10, r11, r12)) :
    Calls Try.prog 51 #[.slice A0 l0.length c0] w fun e w' => ∃ v9_ v10_ : Value, e = .returned (.tuple #[.agg #[.int .u8 r1, .int .u16 r2, .bool r3, .bool r4, .int .i64 r5, .int .u8 r6, .int .u8 r7, .int .u32 r8, .int .u32 r9, v9_], v10_, .int .i64 r12]) ∧ Kd.V (Kd.int .u8) 5 w' w.heap.size (fun k_ => (w.heap.size ≤ k_)) v9_ r10 ∧ Kd.V (Kd.int .u8) 5 w' w.heap.size (fun k_ => (w.heap.size ≤ k_)) v10_ r11 ∧ Below w.heap.size w w' := by
  have hu41 := Try.underlying41
  have HR0 := Aside0.mk hr0
  have HC0 := Aside0.mk hc0
  clear hr0 hc0
  have HB := Aside0.mk (Below.refl w.heap.size w)
  have H : ((ip4_read.f k l0 false).bind fun bt516 => (if bt516.2.2.2.2.2.2.2.2.2.2.2.2 = 0 then (if 20 ≤ bt516.2.2.2.2.2.2.2.2.2.2.1 then (if bt516.2.2.2.2.2.2.2.2.2.2.1 ≤ (l0.length : Int) then (if 0 ≤ bt516.2.2.2.2.2.2.2.2.2.2.1 then (if bt516.2.2.2.2.2.2.2.2.2.2.1 ≤ (mn bt516.2.2.2.2.2.2.2.2.2.2.2.1 (l0.length : Int)) then (if (mn bt516.2.2.2.2.2.2.2.2.2.2.2.1 (l0.length : Int)) ≤ (l0.length : Int) then ((ip4_apart.f ((l0.take (bt516.2.2.2.2.2.2.2.2.2.2.1 : Int).toNat).drop 20) ((l0.take ((mn bt516.2.2.2.2.2.2.2.2.2.2.2.1 (l0.length : Int)) : Int).toNat).drop (bt516.2.2.2.2.2.2.2.2.2.2.1 : Int).toNat)).bind fun bt534 => (some (bt516.1, bt516.2.1, bt516.2.2.1, bt516.2.2.2.1, bt516.2.2.2.2.1, bt516.2.2.2.2.2.1, bt516.2.2.2.2.2.2.1, bt516.2.2.2.2.2.2.2.1, bt516.2.2.2.2.2.2.2.2.1, bt534.1, bt534.2, 0))) else (none)) else (none)) else (none)) else (none)) else (none)) else (some (0, 0, false, false, 0, 0, 0, 0, 0, ([] : List Int), ([] : List Int), bt516.2.2.2.2.2.2.2.2.2.2.2.2)))) = some (r1, r2, r3, r4, r5, r6, r7, r8, r9, r10, r11, r12) := h
  clear h
  replace H := Option.bind_eq_some_iff.mp H
  obtain ⟨⟨t516, t517, t518, t519, t520, t521, t522, t523, t524, t525, t528, t529, t530⟩, A20, H⟩ := H
  replace H : (if t530 = 0 then (if 20 ≤ t528 then (if t528 ≤ (l0.length : Int) then (if 0 ≤ t528 then (if t528 ≤ (mn t529 (l0.length : Int)) then (if (mn t529 (l0.length : Int)) ≤ (l0.length : Int) then ((ip4_apart.f ((l0.take (t528 : Int).toNat).drop 20) ((l0.take ((mn t529 (l0.length : Int)) : Int).toNat).drop (t528 : Int).toNat)).bind fun bt534 => (some (t516, t517, t518, t519, t520, t521, t522, t523, t524, bt534.1, bt534.2, 0))) else (none)) else (none)) else (none)) else (none)) else (none)) else (some (0, 0, false, false, 0, 0, 0, 0, 0, ([] : List Int), ([] : List Int), t530))) = some (r1, r2, r3, r4, r5, r6, r7, r8, r9, r10, r11, r12) := H
  have A2 := Aside0.mk A20
  clear A20
  by_cases c3 : t530 = 0
  · rw [if_pos c3] at H
    have c3b0 : (t530 == 0) = true := beq_iff_eq.mpr c3
    have c3b1 : (t530 != 0) = false := bne_eq_false_iff_eq.mpr c3
    clear c3
    obtain ⟨ji4, hji4⟩ : ∃ j_ : Int, (mn t529 (l0.length : Int)) = j_ := ⟨_, rfl⟩
    replace H : (if 20 ≤ t528 then (if t528 ≤ (l0.length : Int) then (if 0 ≤ t528 then (if t528 ≤ (ji4) then (if (ji4) ≤ (l0.length : Int) then ((ip4_apart.f ((l0.take (t528 : Int).toNat).drop 20) ((l0.take ((ji4) : Int).toNat).drop (t528 : Int).toNat)).bind fun bt534 => (some (t516, t517, t518, t519, t520, t521, t522, t523, t524, bt534.1, bt534.2, 0))) else (none)) else (none)) else (none)) else (none)) else (none)) = some (r1, r2, r3, r4, r5, r6, r7, r8, r9, r10, r11, r12) := by first | (rw [hji4] at H; exact H) | (simp only [hji4] at H ⊢; exact H)
    (try rw [hji4] at A2)
    have hji4_ : (if (l0.length : Int) < t529 then (l0.length : Int) else t529) = ji4 := hji4
    by_cases c5 : 20 ≤ t528
    · rw [if_pos c5] at H
      have c5b0 := eq_true c5
      have c5b1 : decide (20 ≤ t528) = true := decide_eq_true c5
      clear c5
      by_cases c6 : t528 ≤ (l0.length : Int)
      · rw [if_pos c6] at H
        have c6b0 := eq_true c6
        have c6b1 : decide (t528 ≤ (l0.length : Int)) = true := decide_eq_true c6
        clear c6
        by_cases c7 : 0 ≤ t528
        · rw [if_pos c7] at H
          have c7b0 := eq_true c7
          have c7b1 : decide (0 ≤ t528) = true := decide_eq_true c7
          clear c7
          by_cases c8 : t528 ≤ (ji4)
          · rw [if_pos c8] at H
            have c8b0 := eq_true c8
            have c8b1 : decide (t528 ≤ (ji4)) = true := decide_eq_true c8
            clear c8
            by_cases c9 : (ji4) ≤ (l0.length : Int)
            · rw [if_pos c9] at H
              have c9b0 := eq_true c9
              have c9b1 : decide ((ji4) ≤ (l0.length : Int)) = true := decide_eq_true c9
              clear c9
              replace H := Option.bind_eq_some_iff.mp H
              obtain ⟨⟨t534, t537⟩, A100, H⟩ := H
              replace H : (some (t516, t517, t518, t519, t520, t521, t522, t523, t524, t534, t537, 0)) = some (r1, r2, r3, r4, r5, r6, r7, r8, r9, r10, r11, r12) := H
              have A10 := Aside0.mk A100
              clear A100
              simp only [Option.some.injEq, Prod.mk.injEq] at H
              obtain ⟨rfl, rfl, rfl, rfl, rfl, rfl, rfl, rfl, rfl, rfl, rfl, rfl⟩ := H
              go_enter Try.func51, Try.ntmps51
              try go_wp2_with (first | ((with_reducible refine gate_dst (N := 2) rfl ?_); refine box_event ?hg (N := 2) ?hd (cs := #[.int .u8 0, .int .u16 0, .bool false, .bool false, .int .i64 0, .int .u8 0, .int .u8 0, .int .u32 0, .int .u32 0, .slice none 0 0]) (t := 41) ?hr ?_; (case hd => rfl); (case hg => rfl); (case hr => first | (go_simp; done) | (go_simp; rfl)); intro gb515 hg w11 hbox hb; have n0_ := Aside0.mk (below_step (by repeat (first | (with_reducible first | exact HB.out | apply below_alloc | apply pw_below_drewN | apply below_drew1) | exact HB.out)) hb); have n1_ := Aside0.mk (hbox); have n2_ := Aside0.mk ((by rw [hg]; exact (below_size (by repeat (first | (with_reducible first | exact HB.out | apply below_alloc | apply pw_below_drewN | apply below_drew1) | exact HB.out))) : w.heap.size ≤ gb515)); have n3_ := Aside0.mk ((by rw [hg]; exact (below_size (by repeat (first | (with_reducible first | exact HB.out | apply below_alloc | apply pw_below_drewN | apply below_drew1) | exact HB.out))) : w.heap.size ≤ gb515)); clear HB; have HB := n0_; have BK515 := n1_; have GW515 := n2_; have GE515 := n3_; clear n0_ n1_ n2_ n3_; clear hb hbox hg) | ((with_reducible refine gate_callee (f := 65) rfl ?_); refine goesL_ (some 12) rfl rfl Try.func65 (by kernel_rfl) rfl #[.slice A0 l0.length c0, .bool false] rfl (by (try simp only [List.map_toArray, List.map_cons, List.map_nil]); first | done | rfl | (simp only [List.length_drop, List.length_take]; rfl)) ?_; (with_reducible refine (ip4_read.calls k _ _ l0 false t516 t517 t518 t519 t520 t521 t522 t523 t524 t525 t528 t529 t530 _ ?side1 ?side2 A2.out).mono ?_); (case side1 => repeat (first | exact (Kd.C_below HR0.out HB.out) | (with_reducible refine Kd.C_alloc ?_ _) | (with_reducible refine Kd.C_drewN ?_ _) | (with_reducible refine Kd.C_drew ?_))); (case side2 => exact HC0.out); rintro e w12 ⟨v526, rfl, ho0, hb⟩; refine ⟨_, rfl, ?_⟩; have n0_ := Aside0.mk (Kd.R_lower (Kd.R_newM (M := fun k_ => (w.heap.size ≤ k_)) ho0 (below_size zq12_1) (fun k_ h_ => h_)) (below_size zq12_1)); have n1_ := Aside0.mk (blk_below (g := gb515) (o := .cells #[.int .u8 0, .int .u16 0, .bool false, .bool false, .int .i64 0, .int .u8 0, .int .u8 0, .int .u32 0, .int .u32 0, .slice none 0 0] 41 (0, 0)) zq12_0 hb); have n2_ := Aside0.mk (below_step zq12_1 hb); clear BK515; clear HB; have HO527 := n0_; have BK515 := n1_; have HB := n2_; clear n0_ n1_ n2_; (try clear hb); (try clear hb2); (try clear hk); (try clear hi); (try clear ho0)) | ((with_reducible refine gate_dst (N := 5) rfl ?_); refine box_event ?hg (N := 5) ?hd (cs := #[.int .u8 0, .int .u16 0, .bool false, .bool false, .int .i64 0, .int .u8 0, .int .u8 0, .int .u32 0, .int .u32 0, .slice none 0 0]) (t := 41) ?hr ?_; (case hd => rfl); (case hg => rfl); (case hr => first | (go_simp; done) | (go_simp; rfl)); intro gb531 hg w13 hbox hb; have n0_ := Aside0.mk (Kd.R_below (by (with_reducible repeat (first | apply Kd.R_alloc | apply Kd.R_drewN | apply Kd.R_drew)); exact HO527.out) hb); have n1_ := Aside0.mk (blk_below (g := gb515) (o := .cells #[.int .u8 0, .int .u16 0, .bool false, .bool false, .int .i64 0, .int .u8 0, .int .u8 0, .int .u32 0, .int .u32 0, .slice none 0 0] 41 (0, 0)) zq12_0 hb); have n2_ := Aside0.mk (below_step zq12_1 hb); have n3_ := Aside0.mk (hbox); have n4_ := Aside0.mk ((by rw [hg]; exact (below_size zq12_1) : w.heap.size ≤ gb531)); have n5_ := Aside0.mk ((by rw [hg]; exact (below_size zq12_1) : w.heap.size ≤ gb531)); have n6_ := Aside0.mk ((by rw [hg]; exact Nat.ne_of_lt (blk_lt (g := gb515) (o := .cells #[.int .u8 0, .int .u16 0, .bool false, .bool false, .int .i64 0, .int .u8 0, .int .u8 0, .int .u32 0, .int .u32 0, .slice none 0 0] 41 (0, 0)) zq12_0) : gb515 ≠ gb531)); have n7_ := Aside0.mk ((by rw [hg]; exact Nat.ne_of_gt (blk_lt (g := gb515) (o := .cells #[.int .u8 0, .int .u16 0, .bool false, .bool false, .int .i64 0, .int .u8 0, .int .u8 0, .int .u32 0, .int .u32 0, .slice none 0 0] 41 (0, 0)) zq12_0) : gb531 ≠ gb515)); clear HO527; clear BK515; clear HB; have HO527 := n0_; have BK515 := n1_; have HB := n2_; have BK531 := n3_; have GW531 := n4_; have GE531 := n5_; have NB515_531 := n6_; have NB531_515 := n7_; clear n0_ n1_ n2_ n3_ n4_ n5_ n6_ n7_; clear hb hbox hg; have hnb14 := NB531_515.out; have hnc14 := NB515_531.out; have hcz15_0 : w13.cell? ⟨gb531, 0, none⟩ = some (.int .u8 0) := (blk_cell BK531.out 0).trans rfl; have hcz15_1 : w13.cell? ⟨gb531, 1, none⟩ = some (.int .u16 0) := (blk_cell BK531.out 1).trans rfl; have hcz15_2 : w13.cell? ⟨gb531, 2, none⟩ = some (.bool false) := (blk_cell BK531.out 2).trans rfl; have hcz15_3 : w13.cell? ⟨gb531, 3, none⟩ = some (.bool false) := (blk_cell BK531.out 3).trans rfl; have hcz15_4 : w13.cell? ⟨gb531, 4, none⟩ = some (.int .i64 0) := (blk_cell BK531.out 4).trans rfl; have hcz15_5 : w13.cell? ⟨gb531, 5, none⟩ = some (.int .u8 0) := (blk_cell BK531.out 5).trans rfl; have hcz15_6 : w13.cell? ⟨gb531, 6, none⟩ = some (.int .u8 0) := (blk_cell BK531.out 6).trans rfl; have hcz15_7 : w13.cell? ⟨gb531, 7, none⟩ = some (.int .u32 0) := (blk_cell BK531.out 7).trans rfl; have hcz15_8 : w13.cell? ⟨gb531, 8, none⟩ = some (.int .u32 0) := (blk_cell BK531.out 8).trans rfl; have hcz15_9 : w13.cell? ⟨gb531, 9, none⟩ = some (.slice none 0 0) := (blk_cell BK531.out 9).trans rfl; have hfz15_0 := blk_frozen BK531.out 0; have hfz15_1 := blk_frozen BK531.out 1; have hfz15_2 := blk_frozen BK531.out 2; have hfz15_3 := blk_frozen BK531.out 3; have hfz15_4 := blk_frozen BK531.out 4; have hfz15_5 := blk_frozen BK531.out 5; have hfz15_6 := blk_frozen BK531.out 6; have hfz15_7 := blk_frozen BK531.out 7; have hfz15_8 := blk_frozen BK531.out 8; have hfz15_9 := blk_frozen BK531.out 9; obtain ⟨Ao16, co16, eo16⟩ := Kd.R_slice HO527.out; subst eo16))
              have n0_ : Aside0 (Kd.R (Kd.int .u8) 5 ((((((((((w13.setCell ⟨gb531, 0, none⟩ (.int .u8 t516)).setCell ⟨gb531, 1, none⟩ (.int .u16 t517)).setCell ⟨gb531, 2, none⟩ (.bool t518)).setCell ⟨gb531, 3, none⟩ (.bool t519)).setCell ⟨gb531, 4, none⟩ (.int .i64 t520)).setCell ⟨gb531, 5, none⟩ (.int .u8 t521)).setCell ⟨gb531, 6, none⟩ (.int .u8 t522)).setCell ⟨gb531, 7, none⟩ (.int .u32 t523)).setCell ⟨gb531, 8, none⟩ (.int .u32 t524)).setCell ⟨gb531, 9, none⟩ (.slice Ao16 t525.length co16)) w.heap.size (fun k_ => (w.heap.size ≤ k_)) (.slice Ao16 t525.length co16) t525) := ⟨by (with_reducible repeat (first | apply Kd.R_alloc | apply Kd.R_drewN | apply Kd.R_drew)); exact Kd.R_mono (Kd.R_far (p := ⟨gb531, 9, none⟩) (Kd.R_far (p := ⟨gb531, 8, none⟩) (Kd.R_far (p := ⟨gb531, 7, none⟩) (Kd.R_far (p := ⟨gb531, 6, none⟩) (Kd.R_far (p := ⟨gb531, 5, none⟩) (Kd.R_far (p := ⟨gb531, 4, none⟩) (Kd.R_far (p := ⟨gb531, 3, none⟩) (Kd.R_far (p := ⟨gb531, 2, none⟩) (Kd.R_far (p := ⟨gb531, 1, none⟩) (Kd.R_far (p := ⟨gb531, 0, none⟩) (Kd.R_types HO527.out BK531.out (by decide)) (fun _ hk => hk.2) (.int .u8 t516)) (fun _ hk => hk.2) (.int .u16 t517)) (fun _ hk => hk.2) (.bool t518)) (fun _ hk => hk.2) (.bool t519)) (fun _ hk => hk.2) (.int .i64 t520)) (fun _ hk => hk.2) (.int .u8 t521)) (fun _ hk => hk.2) (.int .u8 t522)) (fun _ hk => hk.2) (.int .u32 t523)) (fun _ hk => hk.2) (.int .u32 t524)) (fun _ hk => hk.2) (.slice Ao16 t525.length co16)) (fun _ hk => hk.1.1)⟩
              have n1_ : Aside0 (((((((((((w13.setCell ⟨gb531, 0, none⟩ (.int .u8 t516)).setCell ⟨gb531, 1, none⟩ (.int .u16 t517)).setCell ⟨gb531, 2, none⟩ (.bool t518)).setCell ⟨gb531, 3, none⟩ (.bool t519)).setCell ⟨gb531, 4, none⟩ (.int .i64 t520)).setCell ⟨gb531, 5, none⟩ (.int .u8 t521)).setCell ⟨gb531, 6, none⟩ (.int .u8 t522)).setCell ⟨gb531, 7, none⟩ (.int .u32 t523)).setCell ⟨gb531, 8, none⟩ (.int .u32 t524)).setCell ⟨gb531, 9, none⟩ (.slice Ao16 t525.length co16)).heap[gb515]? = some (.cells #[.int .u8 0, .int .u16 0, .bool false, .bool false, .int .i64 0, .int .u8 0, .int .u8 0, .int .u32 0, .int .u32 0, .slice none 0 0] 41 (0, 0))) := ⟨by (with_reducible repeat (first | refine blk_drewN ?_ _ | refine blk_drew ?_ | refine blk_alloc ?_ _)); refine blk_far ?_ NB515_531.out _; (with_reducible repeat (first | refine blk_drewN ?_ _ | refine blk_drew ?_ | refine blk_alloc ?_ _)); refine blk_far ?_ NB515_531.out _; (with_reducible repeat (first | refine blk_drewN ?_ _ | refine blk_drew ?_ | refine blk_alloc ?_ _)); refine blk_far ?_ NB515_531.out _; (with_reducible repeat (first | refine blk_drewN ?_ _ | refine blk_drew ?_ | refine blk_alloc ?_ _)); refine blk_far ?_ NB515_531.out _; (with_reducible repeat (first | refine blk_drewN ?_ _ | refine blk_drew ?_ | refine blk_alloc ?_ _)); refine blk_far ?_ NB515_531.out _; (with_reducible repeat (first | refine blk_drewN ?_ _ | refine blk_drew ?_ | refine blk_alloc ?_ _)); refine blk_far ?_ NB515_531.out _; (with_reducible repeat (first | refine blk_drewN ?_ _ | refine blk_drew ?_ | refine blk_alloc ?_ _)); refine blk_far ?_ NB515_531.out _; (with_reducible repeat (first | refine blk_drewN ?_ _ | refine blk_drew ?_ | refine blk_alloc ?_ _)); refine blk_far ?_ NB515_531.out _; (with_reducible repeat (first | refine blk_drewN ?_ _ | refine blk_drew ?_ | refine blk_alloc ?_ _)); refine blk_far ?_ NB515_531.out _; (with_reducible repeat (first | refine blk_drewN ?_ _ | refine blk_drew ?_ | refine blk_alloc ?_ _)); refine blk_far ?_ NB515_531.out _; first | (with_reducible exact BK515.out) | (with_reducible exact blk_drewN BK515.out _) | (with_reducible exact blk_drew BK515.out) | ((with_reducible repeat (first | refine blk_drewN ?_ _ | refine blk_drew ?_ | refine blk_alloc ?_ _)); exact BK515.out)⟩
              have n2_ : Aside0 (((((((((((w13.setCell ⟨gb531, 0, none⟩ (.int .u8 t516)).setCell ⟨gb531, 1, none⟩ (.int .u16 t517)).setCell ⟨gb531, 2, none⟩ (.bool t518)).setCell ⟨gb531, 3, none⟩ (.bool t519)).setCell ⟨gb531, 4, none⟩ (.int .i64 t520)).setCell ⟨gb531, 5, none⟩ (.int .u8 t521)).setCell ⟨gb531, 6, none⟩ (.int .u8 t522)).setCell ⟨gb531, 7, none⟩ (.int .u32 t523)).setCell ⟨gb531, 8, none⟩ (.int .u32 t524)).setCell ⟨gb531, 9, none⟩ (.slice Ao16 t525.length co16)).heap[gb531]? = some (.cells #[.int .u8 t516, .int .u16 t517, .bool t518, .bool t519, .int .i64 t520, .int .u8 t521, .int .u8 t522, .int .u32 t523, .int .u32 t524, .slice Ao16 t525.length co16] 41 (0, 0))) := ⟨by (with_reducible repeat (first | refine blk_drewN ?_ _ | refine blk_drew ?_ | refine blk_alloc ?_ _)); refine blk_put (cs := #[.int .u8 t516, .int .u16 t517, .bool t518, .bool t519, .int .i64 t520, .int .u8 t521, .int .u8 t522, .int .u32 t523, .int .u32 t524, .slice none 0 0]) ?_ 9 _ rfl; (with_reducible repeat (first | refine blk_drewN ?_ _ | refine blk_drew ?_ | refine blk_alloc ?_ _)); refine blk_put (cs := #[.int .u8 t516, .int .u16 t517, .bool t518, .bool t519, .int .i64 t520, .int .u8 t521, .int .u8 t522, .int .u32 t523, .int .u32 0, .slice none 0 0]) ?_ 8 _ rfl; (with_reducible repeat (first | refine blk_drewN ?_ _ | refine blk_drew ?_ | refine blk_alloc ?_ _)); refine blk_put (cs := #[.int .u8 t516, .int .u16 t517, .bool t518, .bool t519, .int .i64 t520, .int .u8 t521, .int .u8 t522, .int .u32 0, .int .u32 0, .slice none 0 0]) ?_ 7 _ rfl; (with_reducible repeat (first | refine blk_drewN ?_ _ | refine blk_drew ?_ | refine blk_alloc ?_ _)); refine blk_put (cs := #[.int .u8 t516, .int .u16 t517, .bool t518, .bool t519, .int .i64 t520, .int .u8 t521, .int .u8 0, .int .u32 0, .int .u32 0, .slice none 0 0]) ?_ 6 _ rfl; (with_reducible repeat (first | refine blk_drewN ?_ _ | refine blk_drew ?_ | refine blk_alloc ?_ _)); refine blk_put (cs := #[.int .u8 t516, .int .u16 t517, .bool t518, .bool t519, .int .i64 t520, .int .u8 0, .int .u8 0, .int .u32 0, .int .u32 0, .slice none 0 0]) ?_ 5 _ rfl; (with_reducible repeat (first | refine blk_drewN ?_ _ | refine blk_drew ?_ | refine blk_alloc ?_ _)); refine blk_put (cs := #[.int .u8 t516, .int .u16 t517, .bool t518, .bool t519, .int .i64 0, .int .u8 0, .int .u8 0, .int .u32 0, .int .u32 0, .slice none 0 0]) ?_ 4 _ rfl; (with_reducible repeat (first | refine blk_drewN ?_ _ | refine blk_drew ?_ | refine blk_alloc ?_ _)); refine blk_put (cs := #[.int .u8 t516, .int .u16 t517, .bool t518, .bool false, .int .i64 0, .int .u8 0, .int .u8 0, .int .u32 0, .int .u32 0, .slice none 0 0]) ?_ 3 _ rfl; (with_reducible repeat (first | refine blk_drewN ?_ _ | refine blk_drew ?_ | refine blk_alloc ?_ _)); refine blk_put (cs := #[.int .u8 t516, .int .u16 t517, .bool false, .bool false, .int .i64 0, .int .u8 0, .int .u8 0, .int .u32 0, .int .u32 0, .slice none 0 0]) ?_ 2 _ rfl; (with_reducible repeat (first | refine blk_drewN ?_ _ | refine blk_drew ?_ | refine blk_alloc ?_ _)); refine blk_put (cs := #[.int .u8 t516, .int .u16 0, .bool false, .bool false, .int .i64 0, .int .u8 0, .int .u8 0, .int .u32 0, .int .u32 0, .slice none 0 0]) ?_ 1 _ rfl; (with_reducible repeat (first | refine blk_drewN ?_ _ | refine blk_drew ?_ | refine blk_alloc ?_ _)); refine blk_put (cs := #[.int .u8 0, .int .u16 0, .bool false, .bool false, .int .i64 0, .int .u8 0, .int .u8 0, .int .u32 0, .int .u32 0, .slice none 0 0]) ?_ 0 _ rfl; first | (with_reducible exact BK531.out) | (with_reducible exact blk_drewN BK531.out _) | (with_reducible exact blk_drew BK531.out) | ((with_reducible repeat (first | refine blk_drewN ?_ _ | refine blk_drew ?_ | refine blk_alloc ?_ _)); exact BK531.out)⟩
              have n3_ : Aside0 (Below w.heap.size w ((((((((((w13.setCell ⟨gb531, 0, none⟩ (.int .u8 t516)).setCell ⟨gb531, 1, none⟩ (.int .u16 t517)).setCell ⟨gb531, 2, none⟩ (.bool t518)).setCell ⟨gb531, 3, none⟩ (.bool t519)).setCell ⟨gb531, 4, none⟩ (.int .i64 t520)).setCell ⟨gb531, 5, none⟩ (.int .u8 t521)).setCell ⟨gb531, 6, none⟩ (.int .u8 t522)).setCell ⟨gb531, 7, none⟩ (.int .u32 t523)).setCell ⟨gb531, 8, none⟩ (.int .u32 t524)).setCell ⟨gb531, 9, none⟩ (.slice Ao16 t525.length co16))) := ⟨by repeat (first | (with_reducible first | exact HB.out | apply below_alloc | apply pw_below_drewN | apply below_drew1 | refine below_set ?_ GE515.out | refine below_set ?_ GE531.out) | exact HB.out)⟩
              (try clear HO527)
              (try clear BK515)
              (try clear BK531)
              (try clear HB)
              generalize ((((((((((w13.setCell ⟨gb531, 0, none⟩ (.int .u8 t516)).setCell ⟨gb531, 1, none⟩ (.int .u16 t517)).setCell ⟨gb531, 2, none⟩ (.bool t518)).setCell ⟨gb531, 3, none⟩ (.bool t519)).setCell ⟨gb531, 4, none⟩ (.int .i64 t520)).setCell ⟨gb531, 5, none⟩ (.int .u8 t521)).setCell ⟨gb531, 6, none⟩ (.int .u8 t522)).setCell ⟨gb531, 7, none⟩ (.int .u32 t523)).setCell ⟨gb531, 8, none⟩ (.int .u32 t524)).setCell ⟨gb531, 9, none⟩ (.slice Ao16 t525.length co16)) = w17 at n0_ n1_ n2_ n3_ ⊢
              have HO527 := n0_
              have BK515 := n1_
              have BK531 := n2_
              have HB := n3_
              clear n0_ n1_ n2_ n3_
              have n0_ := Aside0.mk (Kd.R_drew HO527.out)
              have n1_ := Aside0.mk (blk_drew BK515.out)
              have n2_ := Aside0.mk (blk_drew BK531.out)
              have n3_ := Aside0.mk (below_drew1 HB.out)
              clear HO527
              clear BK515
              clear BK531
              clear HB
              have HO527 := n0_
              have BK515 := n1_
              have BK531 := n2_
              have HB := n3_
              clear n0_ n1_ n2_ n3_
              obtain ⟨i019, hi019, _, hsz19, _⟩ := info_parts info5
              obtain ⟨A19, hcut19, hA19, hC19⟩ := print_mid_of (P := Try.prog) (Value.int .u8) 0 24 5 .i64 .i64 Try.underlying24 hi019 hsz19 A0 c0 l0 20 t528 (by omega) (by first | omega | exact of_decide_eq_true (by first | (with_reducible assumption) | assumption)) (of_decide_eq_true (by first | (with_reducible assumption) | assumption)) HC0.out
              have HR532 := Aside0.mk (Kd.C_of_reads (h1 := fun _ => rfl) (hA19 _ (Kd.reads_of_C HR0.out)))
              have HC532 := Aside0.mk hC19
              clear hA19 hC19 hi019 hsz19
              obtain ⟨i020, hi020, _, hsz20, _⟩ := info_parts info5
              obtain ⟨A20, hcut20, hA20, hC20⟩ := print_mid_of (P := Try.prog) (Value.int .u8) 0 24 5 .i64 .i64 Try.underlying24 hi020 hsz20 A0 c0 l0 t528 (ji4) (of_decide_eq_true (by first | (with_reducible assumption) | assumption)) (by first | omega | exact of_decide_eq_true (by first | (with_reducible assumption) | assumption)) (of_decide_eq_true (by first | (with_reducible assumption) | assumption)) HC0.out
              have HR533 := Aside0.mk (Kd.C_of_reads (h1 := fun _ => rfl) (hA20 _ (Kd.reads_of_C HR0.out)))
              have HC533 := Aside0.mk hC20
              clear hA20 hC20 hi020 hsz20
              refine start_ (n := 14) (S := fun w' => True) (ds := []) #[false, false, false, false, false, false, false, false, false, false, false, false, false, false] (by kernel_rfl) rfl rfl trivial (fun hHeld => ?_); refine with_tabW ip4_Peek.tab6 ip4_Peek.bits6 (fun HT_ HW_ => ?_)
              generalize w17.drew = w18 at HO527 BK515 BK531 HB HR532 HR533 hHeld ⊢
              refine pure_ (i := 0) (N := some 26) (v := ?_) (a' := ?_) #[true, false, false, false, false, false, false, false, false, false, false, false, false, false] rfl rfl (any_of HT_.out (by kernel_rfl)) (fun _ _ _ h => h) (Or.inl ⟨by rfl, ?_⟩) ?_ ?_
              rotate_left
              · intro w'
                go_simp
                with_reducible rfl
              rotate_left
              · simp only [Act.put, List.setIfInBounds_toArray, List.set_cons_zero, List.set_cons_succ, i64_w, i32_w, IntKind.wrap_u8, IntKind.wrap_u32]
                rfl
              refine pure_ (i := 1) (N := some 27) (v := ?_) (a' := ?_) #[true, true, false, false, false, false, false, false, false, false, false, false, false, false] rfl rfl (any_of HT_.out (by kernel_rfl)) (fun _ _ _ h => h) (Or.inl ⟨by rfl, ?_⟩) ?_ ?_
              rotate_left
              · intro w'
                go_simp
                with_reducible rfl
              rotate_left
              · simp only [Act.put, List.setIfInBounds_toArray, List.set_cons_zero, List.set_cons_succ, i64_w, i32_w, IntKind.wrap_u8, IntKind.wrap_u32]
                rfl
              refine pure_ (i := 2) (N := some 28) (v := ?_) (a' := ?_) #[true, true, true, false, false, false, false, false, false, false, false, false, false, false] rfl rfl (any_of HT_.out (by kernel_rfl)) (fun _ _ _ h => h) (Or.inl ⟨by rfl, ?_⟩) ?_ ?_
              rotate_left
              · intro w'
                go_simp
                with_reducible rfl
              rotate_left
              · simp only [Act.put, List.setIfInBounds_toArray, List.set_cons_zero, List.set_cons_succ, i64_w, i32_w, IntKind.wrap_u8, IntKind.wrap_u32]
                rfl
              refine pure_ (i := 3) (N := some 29) (v := ?_) (a' := ?_) #[true, true, true, true, false, false, false, false, false, false, false, false, false, false] rfl rfl (any_of HT_.out (by kernel_rfl)) (fun _ _ _ h => h) (Or.inl ⟨by rfl, ?_⟩) ?_ ?_
              rotate_left
              · intro w'
                go_simp
                with_reducible rfl
              rotate_left
              · simp only [Act.put, List.setIfInBounds_toArray, List.set_cons_zero, List.set_cons_succ, i64_w, i32_w, IntKind.wrap_u8, IntKind.wrap_u32]
                rfl
              refine pure_ (i := 4) (N := some 30) (v := ?_) (a' := ?_) #[true, true, true, true, true, false, false, false, false, false, false, false, false, false] rfl rfl (any_of HT_.out (by kernel_rfl)) (fun _ _ _ h => h) (Or.inl ⟨by rfl, ?_⟩) ?_ ?_
              rotate_left
              · intro w'
                go_simp
                with_reducible rfl
              rotate_left
              · simp only [Act.put, List.setIfInBounds_toArray, List.set_cons_zero, List.set_cons_succ, i64_w, i32_w, IntKind.wrap_u8, IntKind.wrap_u32]
                rfl
              refine pure_ (i := 5) (N := some 31) (v := ?_) (a' := ?_) #[true, true, true, true, true, true, false, false, false, false, false, false, false, false] rfl rfl (any_of HT_.out (by kernel_rfl)) (fun _ _ _ h => h) (Or.inl ⟨by rfl, ?_⟩) ?_ ?_
              rotate_left
              · intro w'
                go_simp
                with_reducible rfl
              rotate_left
              · simp only [Act.put, List.setIfInBounds_toArray, List.set_cons_zero, List.set_cons_succ, i64_w, i32_w, IntKind.wrap_u8, IntKind.wrap_u32]
                rfl
              refine pure_ (i := 6) (N := some 32) (v := ?_) (a' := ?_) #[true, true, true, true, true, true, true, false, false, false, false, false, false, false] rfl rfl (any_of HT_.out (by kernel_rfl)) (fun _ _ _ h => h) (Or.inl ⟨by rfl, ?_⟩) ?_ ?_
              rotate_left
              · intro w'
                go_simp
                with_reducible rfl
              rotate_left
              · simp only [Act.put, List.setIfInBounds_toArray, List.set_cons_zero, List.set_cons_succ, i64_w, i32_w, IntKind.wrap_u8, IntKind.wrap_u32]
                rfl
              refine one_ (i := 7) (N := some 33) #[true, true, true, true, true, true, true, true, false, false, false, false, false, false] rfl rfl (one_of HT_.out (by kernel_rfl)) (by decide) (fun K hK => ?_)
              refine goes_ Try.func66 (by kernel_rfl) rfl #[.slice A19 ((l0.take (t528 : Int).toNat).drop 20).length (c0 - 20), .slice A20 ((l0.take ((ji4) : Int).toNat).drop (t528 : Int).toNat).length (c0 - t528.toNat)] (by rfl) rfl rfl (by (try simp only [List.map_toArray, List.map_cons, List.map_nil]); first | done | (rw [show ((l0.take (t528 : Int).toNat).drop 20).length = (t528.toNat - 20) from (by rw [List.length_drop, List.length_take]; have h_ : (t528 : Int) ≤ (l0.length : Int) := of_decide_eq_true (by first | (with_reducible assumption) | assumption); omega), show ((l0.take ((ji4) : Int).toNat).drop (t528 : Int).toNat).length = ((ji4).toNat - t528.toNat) from (by rw [List.length_drop, List.length_take]; have h_ : ((ji4) : Int) ≤ (l0.length : Int) := of_decide_eq_true (by first | (with_reducible assumption) | assumption); omega)] <;> rfl) | (rw [show ((l0.take (t528 : Int).toNat).drop 20).length = (t528.toNat - 20) from (by rw [List.length_drop, List.length_take]; have h_ : (t528 : Int) ≤ (l0.length : Int) := of_decide_eq_true (by first | (with_reducible assumption) | assumption); omega)] <;> rfl) | (rw [show ((l0.take ((ji4) : Int).toNat).drop (t528 : Int).toNat).length = ((ji4).toNat - t528.toNat) from (by rw [List.length_drop, List.length_take]; have h_ : ((ji4) : Int) ≤ (l0.length : Int) := of_decide_eq_true (by first | (with_reducible assumption) | assumption); omega)] <;> rfl) | (simp only [hji4]; rfl) | rfl | (simp only [List.length_drop, List.length_take]; rfl)) ?_
              with_reducible refine (ip4_apart.calls _ _ ((l0.take (t528 : Int).toNat).drop 20) _ _ ((l0.take ((ji4) : Int).toNat).drop (t528 : Int).toNat) t534 t537 _ ?side1 ?side2 ?side3 ?side4 A10.out).mono ?_
              (case side1 => repeat (first | exact (Kd.C_below HR532.out HB.out) | (with_reducible refine Kd.C_alloc ?_ _) | (with_reducible refine Kd.C_drewN ?_ _) | (with_reducible refine Kd.C_drew ?_)))
              (case side2 => exact HC532.out)
              (case side3 => repeat (first | exact (Kd.C_below HR533.out HB.out) | (with_reducible refine Kd.C_alloc ?_ _) | (with_reducible refine Kd.C_drewN ?_ _) | (with_reducible refine Kd.C_drew ?_)))
              (case side4 => exact HC533.out)
              rintro e w21 ⟨v535, v538, rfl, ho0, ho1, hb⟩
              refine ⟨_, rfl, ?_⟩
              have n0_ := Aside0.mk (Kd.R_below (by (with_reducible repeat (first | apply Kd.R_alloc | apply Kd.R_drewN | apply Kd.R_drew)); exact HO527.out) hb)
              have n1_ := Aside0.mk (Kd.V_lower (Kd.V_mono (ok' := fun k_ => (w.heap.size ≤ k_) ∧ some k_ ≠ (.slice Ao16 t525.length co16 : Value).ownBlock ∧ k_ ≠ gb515 ∧ k_ ≠ gb531) ho0 (fun k_ hk_ => ⟨(Nat.le_trans (below_size zq12_2) hk_), (Kd.fresh' (Kd.R_lt (by (with_reducible repeat (first | apply Kd.R_alloc | apply Kd.R_drewN | apply Kd.R_drew)); exact HO527.out)) k_ hk_), (Kd.freshB (g := gb515) (o := .cells #[.int .u8 0, .int .u16 0, .bool false, .bool false, .int .i64 0, .int .u8 0, .int .u8 0, .int .u32 0, .int .u32 0, .slice none 0 0] 41 (0, 0)) zq12_0 k_ hk_), (Kd.freshB (g := gb531) (o := .cells #[.int .u8 t516, .int .u16 t517, .bool t518, .bool t519, .int .i64 t520, .int .u8 t521, .int .u8 t522, .int .u32 t523, .int .u32 t524, .slice Ao16 t525.length co16] 41 (0, 0)) (by first | (with_reducible exact BK531.out) | (with_reducible exact blk_drewN BK531.out _) | (with_reducible exact blk_drew BK531.out) | ((with_reducible repeat (first | refine blk_drewN ?_ _ | refine blk_drew ?_ | refine blk_alloc ?_ _)); exact BK531.out)) k_ hk_)⟩)) (below_size zq12_2))
              have n2_ := Aside0.mk (Kd.V_lower (Kd.V_mono (ok' := fun k_ => (w.heap.size ≤ k_) ∧ some k_ ≠ (.slice Ao16 t525.length co16 : Value).ownBlock ∧ k_ ≠ gb515 ∧ k_ ≠ gb531) ho1 (fun k_ hk_ => ⟨(Nat.le_trans (below_size zq12_2) hk_), (Kd.fresh' (Kd.R_lt (by (with_reducible repeat (first | apply Kd.R_alloc | apply Kd.R_drewN | apply Kd.R_drew)); exact HO527.out)) k_ hk_), (Kd.freshB (g := gb515) (o := .cells #[.int .u8 0, .int .u16 0, .bool false, .bool false, .int .i64 0, .int .u8 0, .int .u8 0, .int .u32 0, .int .u32 0, .slice none 0 0] 41 (0, 0)) zq12_0 k_ hk_), (Kd.freshB (g := gb531) (o := .cells #[.int .u8 t516, .int .u16 t517, .bool t518, .bool t519, .int .i64 t520, .int .u8 t521, .int .u8 t522, .int .u32 t523, .int .u32 t524, .slice Ao16 t525.length co16] 41 (0, 0)) (by first | (with_reducible exact BK531.out) | (with_reducible exact blk_drewN BK531.out _) | (with_reducible exact blk_drew BK531.out) | ((with_reducible repeat (first | refine blk_drewN ?_ _ | refine blk_drew ?_ | refine blk_alloc ?_ _)); exact BK531.out)) k_ hk_)⟩)) (below_size zq12_2))
              have n3_ := Aside0.mk (blk_below (g := gb515) (o := .cells #[.int .u8 0, .int .u16 0, .bool false, .bool false, .int .i64 0, .int .u8 0, .int .u8 0, .int .u32 0, .int .u32 0, .slice none 0 0] 41 (0, 0)) zq12_0 hb)
              have n4_ := Aside0.mk (blk_below (g := gb531) (o := .cells #[.int .u8 t516, .int .u16 t517, .bool t518, .bool t519, .int .i64 t520, .int .u8 t521, .int .u8 t522, .int .u32 t523, .int .u32 t524, .slice Ao16 t525.length co16] 41 (0, 0)) (by first | (with_reducible exact BK531.out) | (with_reducible exact blk_drewN BK531.out _) | (with_reducible exact blk_drew BK531.out) | ((with_reducible repeat (first | refine blk_drewN ?_ _ | refine blk_drew ?_ | refine blk_alloc ?_ _)); exact BK531.out)) hb)
              have n5_ := Aside0.mk (below_step zq12_2 hb)
              clear HO527
              clear BK515
              clear BK531
              clear HB
              have HO527 := n0_
              have HO536 := n1_
              have HO539 := n2_
              have BK515 := n3_
              have BK531 := n4_
              have HB := n5_
              clear n0_ n1_ n2_ n3_ n4_ n5_
              (try clear hb)
              (try clear hb2)
              (try clear hk)
              (try clear hi)
              (try clear ho0)
              (try clear ho1)
              obtain ⟨Ao22, co22, eo22⟩ := Kd.V_slice HO536.out
              (first | subst eo22 | (injection eo22 with f1_ f2_ f3_; have f4_ := f1_.symm; have f5_ := f3_.symm; clear f1_ f2_ f3_; subst f4_; subst f5_))
              refine hK.out _ _ trivial (fun hHeld => ?_)
              clear hK K
              refine norm_ (a' := ?_) ?_ ?_
              rotate_left
              · show Act.put _ (some 33) _ = _
                simp only [Act.put, List.setIfInBounds_toArray, List.set_cons_zero, List.set_cons_succ, i64_w, i32_w, IntKind.wrap_u8, IntKind.wrap_u32]
                rfl
              refine pure_ (i := 8) (N := some 25) (v := ?_) (a' := ?_) #[true, true, true, true, true, true, true, true, true, false, false, false, false, false] rfl rfl (any_of HT_.out (by kernel_rfl)) (fun _ _ _ h => h) (Or.inl ⟨by rfl, ?_⟩) ?_ ?_
              rotate_left
              · intro w'
                go_simp
                with_reducible rfl
              rotate_left
              · simp only [Act.put, List.setIfInBounds_toArray, List.set_cons_zero, List.set_cons_succ, i64_w, i32_w, IntKind.wrap_u8, IntKind.wrap_u32]
                rfl
              refine pure_ (i := 9) (N := some 34) (v := ?_) (a' := ?_) #[true, true, true, true, true, true, true, true, true, true, false, false, false, false] rfl rfl (any_of HT_.out (by kernel_rfl)) (fun _ _ _ h => h) (Or.inl ⟨by rfl, ?_⟩) ?_ ?_
              rotate_left
              · intro w'
                go_simp
                with_reducible rfl
              rotate_left
              · simp only [Act.put, List.setIfInBounds_toArray, List.set_cons_zero, List.set_cons_succ, i64_w, i32_w, IntKind.wrap_u8, IntKind.wrap_u32]
                rfl
              refine pure_ (i := 10) (N := some 35) (v := ?_) (a' := ?_) #[true, true, true, true, true, true, true, true, true, true, true, false, false, false] rfl rfl (any_of HT_.out (by kernel_rfl)) (fun _ _ _ h => h) (Or.inl ⟨by rfl, ?_⟩) ?_ ?_
              rotate_left
              · intro w'
                go_simp
                with_reducible rfl
              rotate_left
              · simp only [Act.put, List.setIfInBounds_toArray, List.set_cons_zero, List.set_cons_succ, i64_w, i32_w, IntKind.wrap_u8, IntKind.wrap_u32]
                rfl
              refine pure_ (i := 11) (N := some 36) (v := ?_) (a' := ?_) #[true, true, true, true, true, true, true, true, true, true, true, true, false, false] rfl rfl (any_of HT_.out (by kernel_rfl)) (fun _ _ _ h => h) (Or.inl ⟨by rfl, ?_⟩) ?_ ?_
              rotate_left
              · intro w'
                go_simp
                with_reducible rfl
              rotate_left
              · simp only [Act.put, List.setIfInBounds_toArray, List.set_cons_zero, List.set_cons_succ, i64_w, i32_w, IntKind.wrap_u8, IntKind.wrap_u32]
                rfl
              refine one_ (i := 12) (N := none) #[true, true, true, true, true, true, true, true, true, true, true, true, true, false] rfl rfl (one_of HT_.out (by kernel_rfl)) (by decide) (fun K hK => ?_)
              have hs23 : w21.cell? ⟨gb531, 9, none⟩ = some (.slice Ao16 t525.length co16) := (blk_cell BK531.out 9).trans rfl
              have hfs23 := blk_frozen BK531.out 9
              have hns23_0 := NB515_531.out
              have hms23_0 := NB531_515.out
              refine skip_ (w1 := ?_) (by rfl) rfl ?_ ?_
              rotate_left
              · go_simp
                rfl
              refine hK.out _ _ trivial (fun hHeld => ?_)
              clear hK K
              refine pure_ (i := 13) (N := some 9) (v := ?_) (a' := ?_) #[true, true, true, true, true, true, true, true, true, true, true, true, true, true] rfl rfl (any_of HT_.out (by kernel_rfl)) (fun _ _ _ h => h) (Or.inl ⟨by rfl, ?_⟩) ?_ ?_
              rotate_left
              · intro w'
                go_simp
                with_reducible rfl
              rotate_left
              · simp only [Act.put, List.setIfInBounds_toArray, List.set_cons_zero, List.set_cons_succ, i64_w, i32_w, IntKind.wrap_u8, IntKind.wrap_u32]
                rfl
              refine done_ (done_of HT_.out (by kernel_rfl)) ?_
              have hcz24_0 : w21.cell? ⟨gb531, 0, none⟩ = some (.int .u8 t516) := (blk_cell BK531.out 0).trans rfl
              have hcz24_1 : w21.cell? ⟨gb531, 1, none⟩ = some (.int .u16 t517) := (blk_cell BK531.out 1).trans rfl
              have hcz24_2 : w21.cell? ⟨gb531, 2, none⟩ = some (.bool t518) := (blk_cell BK531.out 2).trans rfl
              have hcz24_3 : w21.cell? ⟨gb531, 3, none⟩ = some (.bool t519) := (blk_cell BK531.out 3).trans rfl
              have hcz24_4 : w21.cell? ⟨gb531, 4, none⟩ = some (.int .i64 t520) := (blk_cell BK531.out 4).trans rfl
              have hcz24_5 : w21.cell? ⟨gb531, 5, none⟩ = some (.int .u8 t521) := (blk_cell BK531.out 5).trans rfl
              have hcz24_6 : w21.cell? ⟨gb531, 6, none⟩ = some (.int .u8 t522) := (blk_cell BK531.out 6).trans rfl
              have hcz24_7 : w21.cell? ⟨gb531, 7, none⟩ = some (.int .u32 t523) := (blk_cell BK531.out 7).trans rfl
              have hcz24_8 : w21.cell? ⟨gb531, 8, none⟩ = some (.int .u32 t524) := (blk_cell BK531.out 8).trans rfl
              have hcz24_9 : w21.cell? ⟨gb531, 9, none⟩ = some (.slice Ao16 t525.length co16) := (blk_cell BK531.out 9).trans rfl
              have hfz24_0 := blk_frozen BK531.out 0
              have hfz24_1 := blk_frozen BK531.out 1
              have hfz24_2 := blk_frozen BK531.out 2
              have hfz24_3 := blk_frozen BK531.out 3
              have hfz24_4 := blk_frozen BK531.out 4
              have hfz24_5 := blk_frozen BK531.out 5
              have hfz24_6 := blk_frozen BK531.out 6
              have hfz24_7 := blk_frozen BK531.out 7
              have hfz24_8 := blk_frozen BK531.out 8
              have hfz24_9 := blk_frozen BK531.out 9
              have hcz25_0 : w21.cell? ⟨gb515, 0, none⟩ = some (.int .u8 0) := (blk_cell BK515.out 0).trans rfl
              have hcz25_1 : w21.cell? ⟨gb515, 1, none⟩ = some (.int .u16 0) := (blk_cell BK515.out 1).trans rfl
              have hcz25_2 : w21.cell? ⟨gb515, 2, none⟩ = some (.bool false) := (blk_cell BK515.out 2).trans rfl
              have hcz25_3 : w21.cell? ⟨gb515, 3, none⟩ = some (.bool false) := (blk_cell BK515.out 3).trans rfl
              have hcz25_4 : w21.cell? ⟨gb515, 4, none⟩ = some (.int .i64 0) := (blk_cell BK515.out 4).trans rfl
              have hcz25_5 : w21.cell? ⟨gb515, 5, none⟩ = some (.int .u8 0) := (blk_cell BK515.out 5).trans rfl
              have hcz25_6 : w21.cell? ⟨gb515, 6, none⟩ = some (.int .u8 0) := (blk_cell BK515.out 6).trans rfl
              have hcz25_7 : w21.cell? ⟨gb515, 7, none⟩ = some (.int .u32 0) := (blk_cell BK515.out 7).trans rfl
              have hcz25_8 : w21.cell? ⟨gb515, 8, none⟩ = some (.int .u32 0) := (blk_cell BK515.out 8).trans rfl
              have hcz25_9 : w21.cell? ⟨gb515, 9, none⟩ = some (.slice none 0 0) := (blk_cell BK515.out 9).trans rfl
              have hfz25_0 := blk_frozen BK515.out 0
              have hfz25_1 := blk_frozen BK515.out 1
              have hfz25_2 := blk_frozen BK515.out 2
              have hfz25_3 := blk_frozen BK515.out 3
              have hfz25_4 := blk_frozen BK515.out 4
              have hfz25_5 := blk_frozen BK515.out 5
              have hfz25_6 := blk_frozen BK515.out 6
              have hfz25_7 := blk_frozen BK515.out 7
              have hfz25_8 := blk_frozen BK515.out 8
              have hfz25_9 := blk_frozen BK515.out 9
              try go_wp2
              refine bodyPost_ret (results_ctt rfl _ _ gb515 41 #[.int .u8 t516, .int .u16 t517, .bool t518, .bool t519, .int .i64 t520, .int .u8 t521, .int .u8 t522, .int .u32 t523, .int .u32 t524, .slice Ao22 t534.length co22] (0, 0) _ rfl (by (with_reducible repeat (first | refine blk_drewN ?_ _ | refine blk_drew ?_ | refine blk_alloc ?_ _)); refine blk_put (cs := #[.int .u8 t516, .int .u16 t517, .bool t518, .bool t519, .int .i64 t520, .int .u8 t521, .int .u8 t522, .int .u32 t523, .int .u32 t524, .slice none 0 0]) ?_ 9 _ rfl; (with_reducible repeat (first | refine blk_drewN ?_ _ | refine blk_drew ?_ | refine blk_alloc ?_ _)); refine blk_put (cs := #[.int .u8 t516, .int .u16 t517, .bool t518, .bool t519, .int .i64 t520, .int .u8 t521, .int .u8 t522, .int .u32 t523, .int .u32 0, .slice none 0 0]) ?_ 8 _ rfl; (with_reducible repeat (first | refine blk_drewN ?_ _ | refine blk_drew ?_ | refine blk_alloc ?_ _)); refine blk_put (cs := #[.int .u8 t516, .int .u16 t517, .bool t518, .bool t519, .int .i64 t520, .int .u8 t521, .int .u8 t522, .int .u32 0, .int .u32 0, .slice none 0 0]) ?_ 7 _ rfl; (with_reducible repeat (first | refine blk_drewN ?_ _ | refine blk_drew ?_ | refine blk_alloc ?_ _)); refine blk_put (cs := #[.int .u8 t516, .int .u16 t517, .bool t518, .bool t519, .int .i64 t520, .int .u8 t521, .int .u8 0, .int .u32 0, .int .u32 0, .slice none 0 0]) ?_ 6 _ rfl; (with_reducible repeat (first | refine blk_drewN ?_ _ | refine blk_drew ?_ | refine blk_alloc ?_ _)); refine blk_put (cs := #[.int .u8 t516, .int .u16 t517, .bool t518, .bool t519, .int .i64 t520, .int .u8 0, .int .u8 0, .int .u32 0, .int .u32 0, .slice none 0 0]) ?_ 5 _ rfl; (with_reducible repeat (first | refine blk_drewN ?_ _ | refine blk_drew ?_ | refine blk_alloc ?_ _)); refine blk_put (cs := #[.int .u8 t516, .int .u16 t517, .bool t518, .bool t519, .int .i64 0, .int .u8 0, .int .u8 0, .int .u32 0, .int .u32 0, .slice none 0 0]) ?_ 4 _ rfl; (with_reducible repeat (first | refine blk_drewN ?_ _ | refine blk_drew ?_ | refine blk_alloc ?_ _)); refine blk_put (cs := #[.int .u8 t516, .int .u16 t517, .bool t518, .bool false, .int .i64 0, .int .u8 0, .int .u8 0, .int .u32 0, .int .u32 0, .slice none 0 0]) ?_ 3 _ rfl; (with_reducible repeat (first | refine blk_drewN ?_ _ | refine blk_drew ?_ | refine blk_alloc ?_ _)); refine blk_put (cs := #[.int .u8 t516, .int .u16 t517, .bool false, .bool false, .int .i64 0, .int .u8 0, .int .u8 0, .int .u32 0, .int .u32 0, .slice none 0 0]) ?_ 2 _ rfl; (with_reducible repeat (first | refine blk_drewN ?_ _ | refine blk_drew ?_ | refine blk_alloc ?_ _)); refine blk_put (cs := #[.int .u8 t516, .int .u16 0, .bool false, .bool false, .int .i64 0, .int .u8 0, .int .u8 0, .int .u32 0, .int .u32 0, .slice none 0 0]) ?_ 1 _ rfl; (with_reducible repeat (first | refine blk_drewN ?_ _ | refine blk_drew ?_ | refine blk_alloc ?_ _)); refine blk_put (cs := #[.int .u8 0, .int .u16 0, .bool false, .bool false, .int .i64 0, .int .u8 0, .int .u8 0, .int .u32 0, .int .u32 0, .slice none 0 0]) ?_ 0 _ rfl; (with_reducible repeat (first | refine blk_drewN ?_ _ | refine blk_drew ?_ | refine blk_alloc ?_ _)); refine blk_far ?_ NB515_531.out _; first | (with_reducible exact BK515.out) | (with_reducible exact blk_drewN BK515.out _) | (with_reducible exact blk_drew BK515.out) | ((with_reducible repeat (first | refine blk_drewN ?_ _ | refine blk_drew ?_ | refine blk_alloc ?_ _)); exact BK515.out)) Try.underlying41 rfl (by kernel_rfl)) rfl ?_
              exact ⟨_, _, by first | rfl | (simp [errW_none, errW_some] <;> rfl) | (simp only [← hji4]; first | rfl | (simp [errW_none, errW_some] <;> rfl)) | (simp [*, errW_none, errW_some] <;> rfl), by (with_reducible repeat (first | apply Kd.V_alloc | apply Kd.V_drewN | apply Kd.V_drew)); exact Kd.V_mono (Kd.V_far (p := ⟨gb515, 9, none⟩) (Kd.V_far (p := ⟨gb515, 8, none⟩) (Kd.V_far (p := ⟨gb515, 7, none⟩) (Kd.V_far (p := ⟨gb515, 6, none⟩) (Kd.V_far (p := ⟨gb515, 5, none⟩) (Kd.V_far (p := ⟨gb515, 4, none⟩) (Kd.V_far (p := ⟨gb515, 3, none⟩) (Kd.V_far (p := ⟨gb515, 2, none⟩) (Kd.V_far (p := ⟨gb515, 1, none⟩) (Kd.V_far (p := ⟨gb515, 0, none⟩) (Kd.V_far (p := ⟨gb531, 9, none⟩) (Kd.V_mono (Kd.V_mono HO536.out (fun k_ hk => (⟨hk, hk.2.2.2⟩ : _ ∧ k_ ≠ gb531))) (fun k_ hk => (⟨hk, hk.1.2.2.1⟩ : _ ∧ k_ ≠ gb515))) (fun _ hk => hk.1.2) (.slice Ao22 t534.length co22)) (fun _ hk => hk.2) (.int .u8 t516)) (fun _ hk => hk.2) (.int .u16 t517)) (fun _ hk => hk.2) (.bool t518)) (fun _ hk => hk.2) (.bool t519)) (fun _ hk => hk.2) (.int .i64 t520)) (fun _ hk => hk.2) (.int .u8 t521)) (fun _ hk => hk.2) (.int .u8 t522)) (fun _ hk => hk.2) (.int .u32 t523)) (fun _ hk => hk.2) (.int .u32 t524)) (fun _ hk => hk.2) (.slice Ao22 t534.length co22)) (fun _ hk => hk.1.1.1), by (with_reducible repeat (first | apply Kd.V_alloc | apply Kd.V_drewN | apply Kd.V_drew)); exact Kd.V_mono (Kd.V_far (p := ⟨gb515, 9, none⟩) (Kd.V_far (p := ⟨gb515, 8, none⟩) (Kd.V_far (p := ⟨gb515, 7, none⟩) (Kd.V_far (p := ⟨gb515, 6, none⟩) (Kd.V_far (p := ⟨gb515, 5, none⟩) (Kd.V_far (p := ⟨gb515, 4, none⟩) (Kd.V_far (p := ⟨gb515, 3, none⟩) (Kd.V_far (p := ⟨gb515, 2, none⟩) (Kd.V_far (p := ⟨gb515, 1, none⟩) (Kd.V_far (p := ⟨gb515, 0, none⟩) (Kd.V_far (p := ⟨gb531, 9, none⟩) (Kd.V_mono (Kd.V_mono HO539.out (fun k_ hk => (⟨hk, hk.2.2.2⟩ : _ ∧ k_ ≠ gb531))) (fun k_ hk => (⟨hk, hk.1.2.2.1⟩ : _ ∧ k_ ≠ gb515))) (fun _ hk => hk.1.2) (.slice Ao22 t534.length co22)) (fun _ hk => hk.2) (.int .u8 t516)) (fun _ hk => hk.2) (.int .u16 t517)) (fun _ hk => hk.2) (.bool t518)) (fun _ hk => hk.2) (.bool t519)) (fun _ hk => hk.2) (.int .i64 t520)) (fun _ hk => hk.2) (.int .u8 t521)) (fun _ hk => hk.2) (.int .u8 t522)) (fun _ hk => hk.2) (.int .u32 t523)) (fun _ hk => hk.2) (.int .u32 t524)) (fun _ hk => hk.2) (.slice Ao22 t534.length co22)) (fun _ hk => hk.1.1.1), by repeat (first | (with_reducible first | exact HB.out | apply below_alloc | apply pw_below_drewN | apply below_drew1 | refine below_set ?_ GE515.out | refine below_set ?_ GE531.out) | exact HB.out)⟩
            · rw [if_neg c9] at H
              exact absurd H (by simp)
          · rw [if_neg c8] at H
            exact absurd H (by simp)
        · rw [if_neg c7] at H
          exact absurd H (by simp)
      · rw [if_neg c6] at H
        exact absurd H (by simp)
    · rw [if_neg c5] at H
      exact absurd H (by simp)
  · rw [if_neg c3] at H
    have c3b0 : (t530 == 0) = false := beq_eq_false_iff_ne.mpr c3
    have c3b1 : (t530 != 0) = true := bne_iff_ne.mpr c3
    simp only [Option.some.injEq, Prod.mk.injEq] at H
    obtain ⟨rfl, rfl, rfl, rfl, rfl, rfl, rfl, rfl, rfl, rfl, rfl, rfl⟩ := H
    go_enter Try.func51, Try.ntmps51
    go_wp2_with (first | ((with_reducible refine gate_dst (N := 2) rfl ?_); refine box_event ?hg (N := 2) ?hd (cs := #[.int .u8 0, .int .u16 0, .bool false, .bool false, .int .i64 0, .int .u8 0, .int .u8 0, .int .u32 0, .int .u32 0, .slice none 0 0]) (t := 41) ?hr ?_; (case hd => rfl); (case hg => rfl); (case hr => first | (go_simp; done) | (go_simp; rfl)); intro gb515 hg w26 hbox hb; have n0_ := Aside0.mk (below_step (by repeat (first | (with_reducible first | exact HB.out | apply below_alloc | apply pw_below_drewN | apply below_drew1) | exact HB.out)) hb); have n1_ := Aside0.mk (hbox); have n2_ := Aside0.mk ((by rw [hg]; exact (below_size (by repeat (first | (with_reducible first | exact HB.out | apply below_alloc | apply pw_below_drewN | apply below_drew1) | exact HB.out))) : w.heap.size ≤ gb515)); have n3_ := Aside0.mk ((by rw [hg]; exact (below_size (by repeat (first | (with_reducible first | exact HB.out | apply below_alloc | apply pw_below_drewN | apply below_drew1) | exact HB.out))) : w.heap.size ≤ gb515)); clear HB; have HB := n0_; have BK515 := n1_; have GW515 := n2_; have GE515 := n3_; clear n0_ n1_ n2_ n3_; clear hb hbox hg) | ((with_reducible refine gate_callee (f := 65) rfl ?_); refine goesL_ (some 12) rfl rfl Try.func65 (by kernel_rfl) rfl #[.slice A0 l0.length c0, .bool false] rfl (by (try simp only [List.map_toArray, List.map_cons, List.map_nil]); first | done | rfl | (simp only [List.length_drop, List.length_take]; rfl)) ?_; (with_reducible refine (ip4_read.calls k _ _ l0 false t516 t517 t518 t519 t520 t521 t522 t523 t524 t525 t528 t529 t530 _ ?side1 ?side2 A2.out).mono ?_); (case side1 => repeat (first | exact (Kd.C_below HR0.out HB.out) | (with_reducible refine Kd.C_alloc ?_ _) | (with_reducible refine Kd.C_drewN ?_ _) | (with_reducible refine Kd.C_drew ?_))); (case side2 => exact HC0.out); rintro e w27 ⟨v526, rfl, ho0, hb⟩; refine ⟨_, rfl, ?_⟩; have n0_ := Aside0.mk (Kd.R_lower (Kd.R_newM (M := fun k_ => (w.heap.size ≤ k_)) ho0 (below_size zq12_1) (fun k_ h_ => h_)) (below_size zq12_1)); have n1_ := Aside0.mk (blk_below (g := gb515) (o := .cells #[.int .u8 0, .int .u16 0, .bool false, .bool false, .int .i64 0, .int .u8 0, .int .u8 0, .int .u32 0, .int .u32 0, .slice none 0 0] 41 (0, 0)) zq12_0 hb); have n2_ := Aside0.mk (below_step zq12_1 hb); clear BK515; clear HB; have HO527 := n0_; have BK515 := n1_; have HB := n2_; clear n0_ n1_ n2_; (try clear hb); (try clear hb2); (try clear hk); (try clear hi); (try clear ho0)) | ((with_reducible refine gate_dst (N := 5) rfl ?_); refine box_event ?hg (N := 5) ?hd (cs := #[.int .u8 0, .int .u16 0, .bool false, .bool false, .int .i64 0, .int .u8 0, .int .u8 0, .int .u32 0, .int .u32 0, .slice none 0 0]) (t := 41) ?hr ?_; (case hd => rfl); (case hg => rfl); (case hr => first | (go_simp; done) | (go_simp; rfl)); intro gb531 hg w28 hbox hb; have n0_ := Aside0.mk (Kd.R_below (by (with_reducible repeat (first | apply Kd.R_alloc | apply Kd.R_drewN | apply Kd.R_drew)); exact HO527.out) hb); have n1_ := Aside0.mk (blk_below (g := gb515) (o := .cells #[.int .u8 0, .int .u16 0, .bool false, .bool false, .int .i64 0, .int .u8 0, .int .u8 0, .int .u32 0, .int .u32 0, .slice none 0 0] 41 (0, 0)) zq12_0 hb); have n2_ := Aside0.mk (below_step zq12_1 hb); have n3_ := Aside0.mk (hbox); have n4_ := Aside0.mk ((by rw [hg]; exact (below_size zq12_1) : w.heap.size ≤ gb531)); have n5_ := Aside0.mk ((by rw [hg]; exact (below_size zq12_1) : w.heap.size ≤ gb531)); have n6_ := Aside0.mk ((by rw [hg]; exact Nat.ne_of_lt (blk_lt (g := gb515) (o := .cells #[.int .u8 0, .int .u16 0, .bool false, .bool false, .int .i64 0, .int .u8 0, .int .u8 0, .int .u32 0, .int .u32 0, .slice none 0 0] 41 (0, 0)) zq12_0) : gb515 ≠ gb531)); have n7_ := Aside0.mk ((by rw [hg]; exact Nat.ne_of_gt (blk_lt (g := gb515) (o := .cells #[.int .u8 0, .int .u16 0, .bool false, .bool false, .int .i64 0, .int .u8 0, .int .u8 0, .int .u32 0, .int .u32 0, .slice none 0 0] 41 (0, 0)) zq12_0) : gb531 ≠ gb515)); clear HO527; clear BK515; clear HB; have HO527 := n0_; have BK515 := n1_; have HB := n2_; have BK531 := n3_; have GW531 := n4_; have GE531 := n5_; have NB515_531 := n6_; have NB531_515 := n7_; clear n0_ n1_ n2_ n3_ n4_ n5_ n6_ n7_; clear hb hbox hg; have hnb29 := NB531_515.out; have hnc29 := NB515_531.out; have hcz30_0 : w28.cell? ⟨gb531, 0, none⟩ = some (.int .u8 0) := (blk_cell BK531.out 0).trans rfl; have hcz30_1 : w28.cell? ⟨gb531, 1, none⟩ = some (.int .u16 0) := (blk_cell BK531.out 1).trans rfl; have hcz30_2 : w28.cell? ⟨gb531, 2, none⟩ = some (.bool false) := (blk_cell BK531.out 2).trans rfl; have hcz30_3 : w28.cell? ⟨gb531, 3, none⟩ = some (.bool false) := (blk_cell BK531.out 3).trans rfl; have hcz30_4 : w28.cell? ⟨gb531, 4, none⟩ = some (.int .i64 0) := (blk_cell BK531.out 4).trans rfl; have hcz30_5 : w28.cell? ⟨gb531, 5, none⟩ = some (.int .u8 0) := (blk_cell BK531.out 5).trans rfl; have hcz30_6 : w28.cell? ⟨gb531, 6, none⟩ = some (.int .u8 0) := (blk_cell BK531.out 6).trans rfl; have hcz30_7 : w28.cell? ⟨gb531, 7, none⟩ = some (.int .u32 0) := (blk_cell BK531.out 7).trans rfl; have hcz30_8 : w28.cell? ⟨gb531, 8, none⟩ = some (.int .u32 0) := (blk_cell BK531.out 8).trans rfl; have hcz30_9 : w28.cell? ⟨gb531, 9, none⟩ = some (.slice none 0 0) := (blk_cell BK531.out 9).trans rfl; have hfz30_0 := blk_frozen BK531.out 0; have hfz30_1 := blk_frozen BK531.out 1; have hfz30_2 := blk_frozen BK531.out 2; have hfz30_3 := blk_frozen BK531.out 3; have hfz30_4 := blk_frozen BK531.out 4; have hfz30_5 := blk_frozen BK531.out 5; have hfz30_6 := blk_frozen BK531.out 6; have hfz30_7 := blk_frozen BK531.out 7; have hfz30_8 := blk_frozen BK531.out 8; have hfz30_9 := blk_frozen BK531.out 9; obtain ⟨Ao31, co31, eo31⟩ := Kd.R_slice HO527.out; subst eo31; have hcz32_0 : w28.cell? ⟨gb515, 0, none⟩ = some (.int .u8 0) := (blk_cell BK515.out 0).trans rfl; have hcz32_1 : w28.cell? ⟨gb515, 1, none⟩ = some (.int .u16 0) := (blk_cell BK515.out 1).trans rfl; have hcz32_2 : w28.cell? ⟨gb515, 2, none⟩ = some (.bool false) := (blk_cell BK515.out 2).trans rfl; have hcz32_3 : w28.cell? ⟨gb515, 3, none⟩ = some (.bool false) := (blk_cell BK515.out 3).trans rfl; have hcz32_4 : w28.cell? ⟨gb515, 4, none⟩ = some (.int .i64 0) := (blk_cell BK515.out 4).trans rfl; have hcz32_5 : w28.cell? ⟨gb515, 5, none⟩ = some (.int .u8 0) := (blk_cell BK515.out 5).trans rfl; have hcz32_6 : w28.cell? ⟨gb515, 6, none⟩ = some (.int .u8 0) := (blk_cell BK515.out 6).trans rfl; have hcz32_7 : w28.cell? ⟨gb515, 7, none⟩ = some (.int .u32 0) := (blk_cell BK515.out 7).trans rfl; have hcz32_8 : w28.cell? ⟨gb515, 8, none⟩ = some (.int .u32 0) := (blk_cell BK515.out 8).trans rfl; have hcz32_9 : w28.cell? ⟨gb515, 9, none⟩ = some (.slice none 0 0) := (blk_cell BK515.out 9).trans rfl; have hfz32_0 := blk_frozen BK515.out 0; have hfz32_1 := blk_frozen BK515.out 1; have hfz32_2 := blk_frozen BK515.out 2; have hfz32_3 := blk_frozen BK515.out 3; have hfz32_4 := blk_frozen BK515.out 4; have hfz32_5 := blk_frozen BK515.out 5; have hfz32_6 := blk_frozen BK515.out 6; have hfz32_7 := blk_frozen BK515.out 7; have hfz32_8 := blk_frozen BK515.out 8; have hfz32_9 := blk_frozen BK515.out 9))
    refine bodyPost_ret (results_ctt rfl _ _ gb515 41 #[.int .u8 0, .int .u16 0, .bool false, .bool false, .int .i64 0, .int .u8 0, .int .u8 0, .int .u32 0, .int .u32 0, .slice none 0 0] (0, 0) _ rfl (by (with_reducible repeat (first | refine blk_drewN ?_ _ | refine blk_drew ?_ | refine blk_alloc ?_ _)); refine blk_put (cs := #[.int .u8 0, .int .u16 0, .bool false, .bool false, .int .i64 0, .int .u8 0, .int .u8 0, .int .u32 0, .int .u32 0, .slice none 0 0]) ?_ 9 _ rfl; (with_reducible repeat (first | refine blk_drewN ?_ _ | refine blk_drew ?_ | refine blk_alloc ?_ _)); refine blk_put (cs := #[.int .u8 0, .int .u16 0, .bool false, .bool false, .int .i64 0, .int .u8 0, .int .u8 0, .int .u32 0, .int .u32 0, .slice none 0 0]) ?_ 8 _ rfl; (with_reducible repeat (first | refine blk_drewN ?_ _ | refine blk_drew ?_ | refine blk_alloc ?_ _)); refine blk_put (cs := #[.int .u8 0, .int .u16 0, .bool false, .bool false, .int .i64 0, .int .u8 0, .int .u8 0, .int .u32 0, .int .u32 0, .slice none 0 0]) ?_ 7 _ rfl; (with_reducible repeat (first | refine blk_drewN ?_ _ | refine blk_drew ?_ | refine blk_alloc ?_ _)); refine blk_put (cs := #[.int .u8 0, .int .u16 0, .bool false, .bool false, .int .i64 0, .int .u8 0, .int .u8 0, .int .u32 0, .int .u32 0, .slice none 0 0]) ?_ 6 _ rfl; (with_reducible repeat (first | refine blk_drewN ?_ _ | refine blk_drew ?_ | refine blk_alloc ?_ _)); refine blk_put (cs := #[.int .u8 0, .int .u16 0, .bool false, .bool false, .int .i64 0, .int .u8 0, .int .u8 0, .int .u32 0, .int .u32 0, .slice none 0 0]) ?_ 5 _ rfl; (with_reducible repeat (first | refine blk_drewN ?_ _ | refine blk_drew ?_ | refine blk_alloc ?_ _)); refine blk_put (cs := #[.int .u8 0, .int .u16 0, .bool false, .bool false, .int .i64 0, .int .u8 0, .int .u8 0, .int .u32 0, .int .u32 0, .slice none 0 0]) ?_ 4 _ rfl; (with_reducible repeat (first | refine blk_drewN ?_ _ | refine blk_drew ?_ | refine blk_alloc ?_ _)); refine blk_put (cs := #[.int .u8 0, .int .u16 0, .bool false, .bool false, .int .i64 0, .int .u8 0, .int .u8 0, .int .u32 0, .int .u32 0, .slice none 0 0]) ?_ 3 _ rfl; (with_reducible repeat (first | refine blk_drewN ?_ _ | refine blk_drew ?_ | refine blk_alloc ?_ _)); refine blk_put (cs := #[.int .u8 0, .int .u16 0, .bool false, .bool false, .int .i64 0, .int .u8 0, .int .u8 0, .int .u32 0, .int .u32 0, .slice none 0 0]) ?_ 2 _ rfl; (with_reducible repeat (first | refine blk_drewN ?_ _ | refine blk_drew ?_ | refine blk_alloc ?_ _)); refine blk_put (cs := #[.int .u8 0, .int .u16 0, .bool false, .bool false, .int .i64 0, .int .u8 0, .int .u8 0, .int .u32 0, .int .u32 0, .slice none 0 0]) ?_ 1 _ rfl; (with_reducible repeat (first | refine blk_drewN ?_ _ | refine blk_drew ?_ | refine blk_alloc ?_ _)); refine blk_put (cs := #[.int .u8 0, .int .u16 0, .bool false, .bool false, .int .i64 0, .int .u8 0, .int .u8 0, .int .u32 0, .int .u32 0, .slice none 0 0]) ?_ 0 _ rfl; (with_reducible repeat (first | refine blk_drewN ?_ _ | refine blk_drew ?_ | refine blk_alloc ?_ _)); refine blk_far ?_ NB515_531.out _; (with_reducible repeat (first | refine blk_drewN ?_ _ | refine blk_drew ?_ | refine blk_alloc ?_ _)); refine blk_far ?_ NB515_531.out _; (with_reducible repeat (first | refine blk_drewN ?_ _ | refine blk_drew ?_ | refine blk_alloc ?_ _)); refine blk_far ?_ NB515_531.out _; (with_reducible repeat (first | refine blk_drewN ?_ _ | refine blk_drew ?_ | refine blk_alloc ?_ _)); refine blk_far ?_ NB515_531.out _; (with_reducible repeat (first | refine blk_drewN ?_ _ | refine blk_drew ?_ | refine blk_alloc ?_ _)); refine blk_far ?_ NB515_531.out _; (with_reducible repeat (first | refine blk_drewN ?_ _ | refine blk_drew ?_ | refine blk_alloc ?_ _)); refine blk_far ?_ NB515_531.out _; (with_reducible repeat (first | refine blk_drewN ?_ _ | refine blk_drew ?_ | refine blk_alloc ?_ _)); refine blk_far ?_ NB515_531.out _; (with_reducible repeat (first | refine blk_drewN ?_ _ | refine blk_drew ?_ | refine blk_alloc ?_ _)); refine blk_far ?_ NB515_531.out _; (with_reducible repeat (first | refine blk_drewN ?_ _ | refine blk_drew ?_ | refine blk_alloc ?_ _)); refine blk_far ?_ NB515_531.out _; (with_reducible repeat (first | refine blk_drewN ?_ _ | refine blk_drew ?_ | refine blk_alloc ?_ _)); refine blk_far ?_ NB515_531.out _; first | (with_reducible exact BK515.out) | (with_reducible exact blk_drewN BK515.out _) | (with_reducible exact blk_drew BK515.out) | ((with_reducible repeat (first | refine blk_drewN ?_ _ | refine blk_drew ?_ | refine blk_alloc ?_ _)); exact BK515.out)) Try.underlying41 rfl (by kernel_rfl)) rfl ?_
    exact ⟨_, _, by first | rfl | (simp [errW_none, errW_some] <;> rfl) | (simp [*, errW_none, errW_some] <;> rfl), Kd.R_V (base := 0) (by first | exact Kd.R_nil _ _ _ _ _ | exact Kd.N_nil _ _ _ _ _ | exact Kd.V_nil _ _ _ _ _ | exact Kd.Q_nil _ _ _ _ _ | exact Kd.S_nil _ _ _ _ _), Kd.R_V (base := 0) (by first | exact Kd.R_nil _ _ _ _ _ | exact Kd.N_nil _ _ _ _ _ | exact Kd.V_nil _ _ _ _ _ | exact Kd.Q_nil _ _ _ _ _ | exact Kd.S_nil _ _ _ _ _), by repeat (first | (with_reducible first | exact HB.out | apply below_alloc | apply pw_below_drewN | apply below_drew1 | refine below_set ?_ GE515.out | refine below_set ?_ GE531.out) | exact HB.out)⟩

end Go.Proofs.Ytbacmhegalncjaa.XB
