-- printed by a program of this session (wip/xprint), out of the translation; Lean checks it
import Derived.Test.YtbacmhegalncjaaQEXBx0
import Derived.Test.YtbacmhegalncjaaQEXBx1
import Derived.Test.YtbacmhegalncjaaQEXBx5
import Derived.Test.YtbacmhegalncjaaQEXBx8
namespace Go.Proofs.Ytbacmhegalncjaa.XB
open Go.RowKit Go.Proofs.YtbacmhegalncjaaW.PrintWords Go.Proofs.YtbacmhegalncjaaW.PrintLast Go.Proofs.YtbacmhegalncjaaW.PrintMore Go.Proofs.YtbacmhegalncjaaX
theorem zq13_2 {P : Prop} (h : P := by first | (with_reducible exact BK722.out) | (with_reducible exact blk_drewN BK722.out _) | (with_reducible exact blk_drew BK722.out) | ((with_reducible repeat (first | refine blk_drewN ?_ _ | refine blk_drew ?_ | refine blk_alloc ?_ _)); exact BK722.out)) : P := h
theorem zq13_1 {P : Prop} (h : P := by (with_reducible repeat (first | apply Kd.R_alloc | apply Kd.R_drewN | apply Kd.R_drew)); exact (Kd.R_mono (Kd.R_far (p := ⟨gb722, 9, none⟩) (Kd.R_far (p := ⟨gb722, 8, none⟩) (Kd.R_far (p := ⟨gb722, 7, none⟩) (Kd.R_far (p := ⟨gb722, 6, none⟩) (Kd.R_far (p := ⟨gb722, 5, none⟩) (Kd.R_far (p := ⟨gb722, 4, none⟩) (Kd.R_far (p := ⟨gb722, 3, none⟩) (Kd.R_far (p := ⟨gb722, 2, none⟩) (Kd.R_far (p := ⟨gb722, 1, none⟩) (Kd.R_far (p := ⟨gb722, 0, none⟩) (Kd.R_types HO718.out BK722.out (by decide)) (fun _ hk => hk.2) (.int .u8 t707)) (fun _ hk => hk.2) (.int .u16 t708)) (fun _ hk => hk.2) (.bool t709)) (fun _ hk => hk.2) (.bool t710)) (fun _ hk => hk.2) (.int .i64 t711)) (fun _ hk => hk.2) (.int .u8 t712)) (fun _ hk => hk.2) (.int .u8 t713)) (fun _ hk => hk.2) (.int .u32 t714)) (fun _ hk => hk.2) (.int .u32 t715)) (fun _ hk => hk.2) (.slice Ao21 t716.length co21)) (fun _ h_ => h_.1))) : P := h
theorem zq13_0 {P : Prop} (h : P := by repeat (first | (with_reducible first | exact HB.out | apply below_alloc | apply pw_below_drewN | apply below_drew1) | exact HB.out)) : P := h
attribute [local go_sem] max2_int min2_int max_two min_two max_three min_three max_four min_four   -- for this text's walks alone
set_option linter.unusedVariables false
set_option linter.unusedSimpArgs false

/-! ### ip4_Age: function 52 -/
def ip4_Age.f (k : Nat) (l0 : List Int) : Option (List Int × Int) := (ip4_read.f k l0 true).bind fun bt707 => (if bt707.2.2.2.2.2.2.2.2.2.2.2.2 = 0 then (if bt707.2.2.2.2.2.1 ≤ 1 then (some (([] : List Int), 35)) else (if 0 ≤ bt707.2.2.2.2.2.2.2.2.2.2.2.1 then (if (bt707.2.2.2.2.2.2.2.2.2.2.2.1 : Int).toNat ≤ 281474976710656 then ((some (List.replicate (bt707.2.2.2.2.2.2.2.2.2.2.2.1 : Int).toNat 0 : List Int)).bind fun y723 => ((some (cpy y723 0 l0 : List Int)).bind fun y726 => (if 8 < (y723.length : Int) then ((some (y726.set (8 : Int).toNat (((rd y726 8) - 1) % 256) : List Int)).bind fun y728 => (if 10 ≤ (y723.length : Int) then (if 12 ≤ bt707.2.2.2.2.2.2.2.2.2.2.1 then (if bt707.2.2.2.2.2.2.2.2.2.2.1 ≤ (y723.length : Int) then ((ip4_Sum.f k (([(y728.take 10), ((y728.take (bt707.2.2.2.2.2.2.2.2.2.2.1 : Int).toNat).drop 12)] : List (List Int)))).bind fun t741 => ((ip4_putWord.f y728 10 t741).bind fun t742 => (some (t742, 0)))) else (none)) else (none)) else (none))) else (none)))) else (none)) else (none))) else (some (([] : List Int), bt707.2.2.2.2.2.2.2.2.2.2.2.2)))
def ip4_Age.T9 : Bool × List (List Nat × List Nat) := (true, [([], []), ([], []), ([1], [1]), ([], []), ([], []), ([3, 4], [3, 4]), ([2, 5], [2, 5]), ([6], [6]), ([0, 7, 7], [0, 7])])
def ip4_Age.B9 : List Nat := [0, 0, 2, 0, 0, 24, 62, 126, 255]
theorem ip4_Age.tab9 : rtab .any (opsOf Try.f52 9) = ip4_Age.T9 := by kernel_rfl
theorem ip4_Age.bits9 : waitsOk ip4_Age.T9.2 ip4_Age.B9 = true := by kernel_rfl
set_option maxHeartbeats 8000000 in
set_option maxRecDepth 100000 in
theorem ip4_Age.calls (k : Nat) (A0 : Option Addr) (c0 : Nat) (l0 : List Int) (r1 : List Int) (r2 : Int) (w : World) (hr0 : Kd.C (Kd.int .u8) w A0 l0.length l0) (hc0 : l0.length ≤ c0) (h : ip4_Age.f k l0 = some (r1, r2)) :
    Calls Try.prog 52 #[.slice A0 l0.length c0] w fun e w' => ∃ v0_ : Value, e = .returned (.tuple #[v0_, .int .i64 r2]) ∧ Kd.R (Kd.int .u8) 5 w' w.heap.size (fun _ => True) v0_ r1 ∧ Below w.heap.size w w' := by
  have hu41 := Try.underlying41
  have HR0 := Aside0.mk hr0
  have HC0 := Aside0.mk hc0
  clear hr0 hc0
  have HB := Aside0.mk (Below.refl w.heap.size w)
  have H : ((ip4_read.f k l0 true).bind fun bt707 => (if bt707.2.2.2.2.2.2.2.2.2.2.2.2 = 0 then (if bt707.2.2.2.2.2.1 ≤ 1 then (some (([] : List Int), 35)) else (if 0 ≤ bt707.2.2.2.2.2.2.2.2.2.2.2.1 then (if (bt707.2.2.2.2.2.2.2.2.2.2.2.1 : Int).toNat ≤ 281474976710656 then ((some (List.replicate (bt707.2.2.2.2.2.2.2.2.2.2.2.1 : Int).toNat 0 : List Int)).bind fun y723 => ((some (cpy y723 0 l0 : List Int)).bind fun y726 => (if 8 < (y723.length : Int) then ((some (y726.set (8 : Int).toNat (((rd y726 8) - 1) % 256) : List Int)).bind fun y728 => (if 10 ≤ (y723.length : Int) then (if 12 ≤ bt707.2.2.2.2.2.2.2.2.2.2.1 then (if bt707.2.2.2.2.2.2.2.2.2.2.1 ≤ (y723.length : Int) then ((ip4_Sum.f k (([(y728.take 10), ((y728.take (bt707.2.2.2.2.2.2.2.2.2.2.1 : Int).toNat).drop 12)] : List (List Int)))).bind fun t741 => ((ip4_putWord.f y728 10 t741).bind fun t742 => (some (t742, 0)))) else (none)) else (none)) else (none))) else (none)))) else (none)) else (none))) else (some (([] : List Int), bt707.2.2.2.2.2.2.2.2.2.2.2.2)))) = some (r1, r2) := h
  clear h
  replace H := Option.bind_eq_some_iff.mp H
  obtain ⟨⟨t707, t708, t709, t710, t711, t712, t713, t714, t715, t716, t719, t720, t721⟩, A20, H⟩ := H
  replace H : (if t721 = 0 then (if t712 ≤ 1 then (some (([] : List Int), 35)) else (if 0 ≤ t720 then (if (t720 : Int).toNat ≤ 281474976710656 then ((some (List.replicate (t720 : Int).toNat 0 : List Int)).bind fun y723 => ((some (cpy y723 0 l0 : List Int)).bind fun y726 => (if 8 < (y723.length : Int) then ((some (y726.set (8 : Int).toNat (((rd y726 8) - 1) % 256) : List Int)).bind fun y728 => (if 10 ≤ (y723.length : Int) then (if 12 ≤ t719 then (if t719 ≤ (y723.length : Int) then ((ip4_Sum.f k (([(y728.take 10), ((y728.take (t719 : Int).toNat).drop 12)] : List (List Int)))).bind fun t741 => ((ip4_putWord.f y728 10 t741).bind fun t742 => (some (t742, 0)))) else (none)) else (none)) else (none))) else (none)))) else (none)) else (none))) else (some (([] : List Int), t721))) = some (r1, r2) := H
  have A2 := Aside0.mk A20
  clear A20
  by_cases c3 : t721 = 0
  · rw [if_pos c3] at H
    have c3b0 : (t721 == 0) = true := beq_iff_eq.mpr c3
    have c3b1 : (t721 != 0) = false := bne_eq_false_iff_eq.mpr c3
    clear c3
    by_cases c4 : t712 ≤ 1
    · rw [if_pos c4] at H
      have c4b0 : decide (t712 ≤ 1) = true := decide_eq_true c4
      clear c4
      simp only [Option.some.injEq, Prod.mk.injEq] at H
      obtain ⟨rfl, rfl⟩ := H
      go_enter Try.func52, Try.ntmps52
      go_wp2_with (first | ((with_reducible refine gate_callee (f := 65) rfl ?_); refine goesL_ (some 11) rfl rfl Try.func65 (by kernel_rfl) rfl #[.slice A0 l0.length c0, .bool true] rfl (by (try simp only [List.map_toArray, List.map_cons, List.map_nil]); first | done | rfl | (simp only [List.length_drop, List.length_take]; rfl)) ?_; (with_reducible refine (ip4_read.calls k _ _ l0 true t707 t708 t709 t710 t711 t712 t713 t714 t715 t716 t719 t720 t721 _ ?side1 ?side2 A2.out).mono ?_); (case side1 => repeat (first | exact HR0.out | (with_reducible refine Kd.C_alloc ?_ _) | (with_reducible refine Kd.C_drewN ?_ _) | (with_reducible refine Kd.C_drew ?_))); (case side2 => exact HC0.out); rintro e w5 ⟨v717, rfl, ho0, hb⟩; refine ⟨_, rfl, ?_⟩; have n0_ := Aside0.mk (Kd.R_lower ho0 (below_size zq13_0)); have n1_ := Aside0.mk (below_step zq13_0 hb); clear HB; have HO718 := n0_; have HB := n1_; clear n0_ n1_; (try clear hb); (try clear hb2); (try clear hk); (try clear hi); (try clear ho0)) | ((with_reducible refine gate_dst (N := 4) rfl ?_); refine box_event ?hg (N := 4) ?hd (cs := #[.int .u8 0, .int .u16 0, .bool false, .bool false, .int .i64 0, .int .u8 0, .int .u8 0, .int .u32 0, .int .u32 0, .slice none 0 0]) (t := 41) ?hr ?_; (case hd => rfl); (case hg => rfl); (case hr => first | (go_simp; done) | (go_simp; rfl)); intro gb722 hg w6 hbox hb; have n0_ := Aside0.mk (Kd.R_below (by (with_reducible repeat (first | apply Kd.R_alloc | apply Kd.R_drewN | apply Kd.R_drew)); exact HO718.out) hb); have n1_ := Aside0.mk (below_step zq13_0 hb); have n2_ := Aside0.mk (hbox); have n3_ := Aside0.mk ((by rw [hg]; exact (below_size zq13_0) : w.heap.size ≤ gb722)); have n4_ := Aside0.mk ((by rw [hg]; exact (below_size zq13_0) : w.heap.size ≤ gb722)); clear HO718; clear HB; have HO718 := n0_; have HB := n1_; have BK722 := n2_; have GW722 := n3_; have GE722 := n4_; clear n0_ n1_ n2_ n3_ n4_; clear hb hbox hg; have hcz7_0 : w6.cell? ⟨gb722, 0, none⟩ = some (.int .u8 0) := (blk_cell BK722.out 0).trans rfl; have hcz7_1 : w6.cell? ⟨gb722, 1, none⟩ = some (.int .u16 0) := (blk_cell BK722.out 1).trans rfl; have hcz7_2 : w6.cell? ⟨gb722, 2, none⟩ = some (.bool false) := (blk_cell BK722.out 2).trans rfl; have hcz7_3 : w6.cell? ⟨gb722, 3, none⟩ = some (.bool false) := (blk_cell BK722.out 3).trans rfl; have hcz7_4 : w6.cell? ⟨gb722, 4, none⟩ = some (.int .i64 0) := (blk_cell BK722.out 4).trans rfl; have hcz7_5 : w6.cell? ⟨gb722, 5, none⟩ = some (.int .u8 0) := (blk_cell BK722.out 5).trans rfl; have hcz7_6 : w6.cell? ⟨gb722, 6, none⟩ = some (.int .u8 0) := (blk_cell BK722.out 6).trans rfl; have hcz7_7 : w6.cell? ⟨gb722, 7, none⟩ = some (.int .u32 0) := (blk_cell BK722.out 7).trans rfl; have hcz7_8 : w6.cell? ⟨gb722, 8, none⟩ = some (.int .u32 0) := (blk_cell BK722.out 8).trans rfl; have hcz7_9 : w6.cell? ⟨gb722, 9, none⟩ = some (.slice none 0 0) := (blk_cell BK722.out 9).trans rfl; have hfz7_0 := blk_frozen BK722.out 0; have hfz7_1 := blk_frozen BK722.out 1; have hfz7_2 := blk_frozen BK722.out 2; have hfz7_3 := blk_frozen BK722.out 3; have hfz7_4 := blk_frozen BK722.out 4; have hfz7_5 := blk_frozen BK722.out 5; have hfz7_6 := blk_frozen BK722.out 6; have hfz7_7 := blk_frozen BK722.out 7; have hfz7_8 := blk_frozen BK722.out 8; have hfz7_9 := blk_frozen BK722.out 9; obtain ⟨Ao8, co8, eo8⟩ := Kd.R_slice HO718.out; subst eo8))
      go_ret2
      exact ⟨_, by first | rfl | (simp [errW_none, errW_some] <;> rfl) | (simp [*, errW_none, errW_some] <;> rfl), by first | exact Kd.R_nil _ _ _ _ _ | exact Kd.N_nil _ _ _ _ _ | exact Kd.V_nil _ _ _ _ _ | exact Kd.Q_nil _ _ _ _ _ | exact Kd.S_nil _ _ _ _ _, by repeat (first | (with_reducible first | exact HB.out | apply below_alloc | apply pw_below_drewN | apply below_drew1 | refine below_set ?_ GE722.out) | exact HB.out)⟩
    · rw [if_neg c4] at H
      have c4b0 : decide (t712 ≤ 1) = false := decide_eq_false c4
      clear c4
      by_cases c9 : 0 ≤ t720
      · rw [if_pos c9] at H
        have c9b0 := eq_true c9
        have c9b1 : decide (0 ≤ t720) = true := decide_eq_true c9
        clear c9
        by_cases c10 : (t720 : Int).toNat ≤ 281474976710656
        · rw [if_pos c10] at H
          have c10b0 := eq_true c10
          have c10b1 : decide ((t720 : Int).toNat ≤ 281474976710656) = true := decide_eq_true c10
          clear c10
          obtain ⟨y723, hy723⟩ : ∃ y_ : List Int, y_ = (List.replicate (t720 : Int).toNat 0) := ⟨_, rfl⟩
          replace H : ((some (cpy y723 0 l0 : List Int)).bind fun y726 => (if 8 < (y723.length : Int) then ((some (y726.set (8 : Int).toNat (((rd y726 8) - 1) % 256) : List Int)).bind fun y728 => (if 10 ≤ (y723.length : Int) then (if 12 ≤ t719 then (if t719 ≤ (y723.length : Int) then ((ip4_Sum.f k (([(y728.take 10), ((y728.take (t719 : Int).toNat).drop 12)] : List (List Int)))).bind fun t741 => ((ip4_putWord.f y728 10 t741).bind fun t742 => (some (t742, 0)))) else (none)) else (none)) else (none))) else (none))) = some (r1, r2) := by first | (rw [hy723]; with_reducible exact H) | (have H2_ := (Option.bind_some _ _).symm.trans H; rw [hy723]; with_reducible exact H2_) | (have H2_ := (Option.bind_some _ _).symm.trans H; with_reducible exact H2_) | with_reducible exact H | (rw [hy723]; exact H) | exact H
          have Ny723 := Aside0.mk hy723
          clear hy723
          obtain ⟨y726, hy726⟩ : ∃ y_ : List Int, y_ = (cpy y723 0 l0) := ⟨_, rfl⟩
          replace H : (if 8 < (y723.length : Int) then ((some (y726.set (8 : Int).toNat (((rd y726 8) - 1) % 256) : List Int)).bind fun y728 => (if 10 ≤ (y723.length : Int) then (if 12 ≤ t719 then (if t719 ≤ (y723.length : Int) then ((ip4_Sum.f k (([(y728.take 10), ((y728.take (t719 : Int).toNat).drop 12)] : List (List Int)))).bind fun t741 => ((ip4_putWord.f y728 10 t741).bind fun t742 => (some (t742, 0)))) else (none)) else (none)) else (none))) else (none)) = some (r1, r2) := by first | (rw [hy726]; with_reducible exact H) | (have H2_ := (Option.bind_some _ _).symm.trans H; rw [hy726]; with_reducible exact H2_) | (have H2_ := (Option.bind_some _ _).symm.trans H; with_reducible exact H2_) | with_reducible exact H | (rw [hy726]; exact H) | exact H
          have Ny726 := Aside0.mk hy726
          clear hy726
          by_cases c11 : 8 < (y723.length : Int)
          · rw [if_pos c11] at H
            have c11b0 : decide (8 < (y723.length : Int)) = true := decide_eq_true c11
            have c11b1 : decide (8 < y723.length) = true := decide_eq_true (by omega)
            clear c11
            obtain ⟨y728, hy728⟩ : ∃ y_ : List Int, y_ = (y726.set (8 : Int).toNat (((rd y726 8) - 1) % 256)) := ⟨_, rfl⟩
            replace H : (if 10 ≤ (y723.length : Int) then (if 12 ≤ t719 then (if t719 ≤ (y723.length : Int) then ((ip4_Sum.f k (([(y728.take 10), ((y728.take (t719 : Int).toNat).drop 12)] : List (List Int)))).bind fun t741 => ((ip4_putWord.f y728 10 t741).bind fun t742 => (some (t742, 0)))) else (none)) else (none)) else (none)) = some (r1, r2) := by first | (rw [hy728]; with_reducible exact H) | (have H2_ := (Option.bind_some _ _).symm.trans H; rw [hy728]; with_reducible exact H2_) | (have H2_ := (Option.bind_some _ _).symm.trans H; with_reducible exact H2_) | with_reducible exact H | (rw [hy728]; exact H) | exact H
            have Ny728 := Aside0.mk hy728
            clear hy728
            by_cases c13 : 10 ≤ (y723.length : Int)
            · rw [if_pos c13] at H
              have c13b0 := eq_true c13
              have c13b1 : decide (10 ≤ (y723.length : Int)) = true := decide_eq_true c13
              clear c13
              obtain ⟨y729, hy729⟩ : ∃ y_ : List Int, y_ = (y728.take 10) := ⟨_, rfl⟩
              replace H : (if 12 ≤ t719 then (if t719 ≤ (y723.length : Int) then ((ip4_Sum.f k (([y729, ((y728.take (t719 : Int).toNat).drop 12)] : List (List Int)))).bind fun t741 => ((ip4_putWord.f y728 10 t741).bind fun t742 => (some (t742, 0)))) else (none)) else (none)) = some (r1, r2) := by first | (rw [hy729]; with_reducible exact H) | (have H2_ := (Option.bind_some _ _).symm.trans H; rw [hy729]; with_reducible exact H2_) | (have H2_ := (Option.bind_some _ _).symm.trans H; with_reducible exact H2_) | with_reducible exact H | (rw [hy729]; exact H) | exact H
              have Ny729 := Aside0.mk hy729
              clear hy729
              by_cases c14 : 12 ≤ t719
              · rw [if_pos c14] at H
                have c14b0 := eq_true c14
                have c14b1 : decide (12 ≤ t719) = true := decide_eq_true c14
                clear c14
                by_cases c15 : t719 ≤ (y723.length : Int)
                · rw [if_pos c15] at H
                  have c15b0 := eq_true c15
                  have c15b1 : decide (t719 ≤ (y723.length : Int)) = true := decide_eq_true c15
                  clear c15
                  obtain ⟨y733, hy733⟩ : ∃ y_ : List Int, y_ = ((y728.take (t719 : Int).toNat).drop 12) := ⟨_, rfl⟩
                  replace H : ((ip4_Sum.f k (([y729, y733] : List (List Int)))).bind fun t741 => ((ip4_putWord.f y728 10 t741).bind fun t742 => (some (t742, 0)))) = some (r1, r2) := by first | (rw [hy733]; with_reducible exact H) | (have H2_ := (Option.bind_some _ _).symm.trans H; rw [hy733]; with_reducible exact H2_) | (have H2_ := (Option.bind_some _ _).symm.trans H; with_reducible exact H2_) | with_reducible exact H | (rw [hy733]; exact H) | exact H
                  have Ny733 := Aside0.mk hy733
                  clear hy733
                  obtain ⟨y737, hy737⟩ : ∃ y_ : List (List Int), y_ = (([y729, y733] : List (List Int))) := ⟨_, rfl⟩
                  replace H : ((ip4_Sum.f k y737).bind fun t741 => ((ip4_putWord.f y728 10 t741).bind fun t742 => (some (t742, 0)))) = some (r1, r2) := by first | (rw [hy737]; with_reducible exact H) | (have H2_ := (Option.bind_some _ _).symm.trans H; rw [hy737]; with_reducible exact H2_) | (have H2_ := (Option.bind_some _ _).symm.trans H; with_reducible exact H2_) | with_reducible exact H | (rw [hy737]; exact H) | exact H
                  have Ny737 := Aside0.mk hy737
                  clear hy737
                  replace H := Option.bind_eq_some_iff.mp H
                  obtain ⟨t741, A160, H⟩ := H
                  replace H : ((ip4_putWord.f y728 10 t741).bind fun t742 => (some (t742, 0))) = some (r1, r2) := H
                  have A16 := Aside0.mk A160
                  clear A160
                  replace H := Option.bind_eq_some_iff.mp H
                  obtain ⟨t742, A170, H⟩ := H
                  replace H : (some (t742, 0)) = some (r1, r2) := H
                  have A17 := Aside0.mk A170
                  clear A170
                  simp only [Option.some.injEq, Prod.mk.injEq] at H
                  obtain ⟨rfl, rfl⟩ := H
                  go_enter Try.func52, Try.ntmps52
                  try go_wp2_with (first | ((with_reducible refine gate_callee (f := 65) rfl ?_); refine goesL_ (some 11) rfl rfl Try.func65 (by kernel_rfl) rfl #[.slice A0 l0.length c0, .bool true] rfl (by (try simp only [List.map_toArray, List.map_cons, List.map_nil]); first | done | rfl | (simp only [List.length_drop, List.length_take]; rfl)) ?_; (with_reducible refine (ip4_read.calls k _ _ l0 true t707 t708 t709 t710 t711 t712 t713 t714 t715 t716 t719 t720 t721 _ ?side1 ?side2 A2.out).mono ?_); (case side1 => repeat (first | exact HR0.out | (with_reducible refine Kd.C_alloc ?_ _) | (with_reducible refine Kd.C_drewN ?_ _) | (with_reducible refine Kd.C_drew ?_))); (case side2 => exact HC0.out); rintro e w18 ⟨v717, rfl, ho0, hb⟩; refine ⟨_, rfl, ?_⟩; have n0_ := Aside0.mk (Kd.R_lower ho0 (below_size zq13_0)); have n1_ := Aside0.mk (below_step zq13_0 hb); clear HB; have HO718 := n0_; have HB := n1_; clear n0_ n1_; (try clear hb); (try clear hb2); (try clear hk); (try clear hi); (try clear ho0)) | ((with_reducible refine gate_dst (N := 4) rfl ?_); refine box_event ?hg (N := 4) ?hd (cs := #[.int .u8 0, .int .u16 0, .bool false, .bool false, .int .i64 0, .int .u8 0, .int .u8 0, .int .u32 0, .int .u32 0, .slice none 0 0]) (t := 41) ?hr ?_; (case hd => rfl); (case hg => rfl); (case hr => first | (go_simp; done) | (go_simp; rfl)); intro gb722 hg w19 hbox hb; have n0_ := Aside0.mk (Kd.R_below (by (with_reducible repeat (first | apply Kd.R_alloc | apply Kd.R_drewN | apply Kd.R_drew)); exact HO718.out) hb); have n1_ := Aside0.mk (below_step zq13_0 hb); have n2_ := Aside0.mk (hbox); have n3_ := Aside0.mk ((by rw [hg]; exact (below_size zq13_0) : w.heap.size ≤ gb722)); have n4_ := Aside0.mk ((by rw [hg]; exact (below_size zq13_0) : w.heap.size ≤ gb722)); clear HO718; clear HB; have HO718 := n0_; have HB := n1_; have BK722 := n2_; have GW722 := n3_; have GE722 := n4_; clear n0_ n1_ n2_ n3_ n4_; clear hb hbox hg; have hcz20_0 : w19.cell? ⟨gb722, 0, none⟩ = some (.int .u8 0) := (blk_cell BK722.out 0).trans rfl; have hcz20_1 : w19.cell? ⟨gb722, 1, none⟩ = some (.int .u16 0) := (blk_cell BK722.out 1).trans rfl; have hcz20_2 : w19.cell? ⟨gb722, 2, none⟩ = some (.bool false) := (blk_cell BK722.out 2).trans rfl; have hcz20_3 : w19.cell? ⟨gb722, 3, none⟩ = some (.bool false) := (blk_cell BK722.out 3).trans rfl; have hcz20_4 : w19.cell? ⟨gb722, 4, none⟩ = some (.int .i64 0) := (blk_cell BK722.out 4).trans rfl; have hcz20_5 : w19.cell? ⟨gb722, 5, none⟩ = some (.int .u8 0) := (blk_cell BK722.out 5).trans rfl; have hcz20_6 : w19.cell? ⟨gb722, 6, none⟩ = some (.int .u8 0) := (blk_cell BK722.out 6).trans rfl; have hcz20_7 : w19.cell? ⟨gb722, 7, none⟩ = some (.int .u32 0) := (blk_cell BK722.out 7).trans rfl; have hcz20_8 : w19.cell? ⟨gb722, 8, none⟩ = some (.int .u32 0) := (blk_cell BK722.out 8).trans rfl; have hcz20_9 : w19.cell? ⟨gb722, 9, none⟩ = some (.slice none 0 0) := (blk_cell BK722.out 9).trans rfl; have hfz20_0 := blk_frozen BK722.out 0; have hfz20_1 := blk_frozen BK722.out 1; have hfz20_2 := blk_frozen BK722.out 2; have hfz20_3 := blk_frozen BK722.out 3; have hfz20_4 := blk_frozen BK722.out 4; have hfz20_5 := blk_frozen BK722.out 5; have hfz20_6 := blk_frozen BK722.out 6; have hfz20_7 := blk_frozen BK722.out 7; have hfz20_8 := blk_frozen BK722.out 8; have hfz20_9 := blk_frozen BK722.out 9; obtain ⟨Ao21, co21, eo21⟩ := Kd.R_slice HO718.out; subst eo21) | ((with_reducible refine gate_dst (N := 23) rfl ?_); refine Kd.R_make (Kd.int .u8) _ 5 rfl (N := 23) rfl 24 _ _ rfl t720 rfl rfl Try.underlying24 (.int .u8 0) 1 info5 rfl (by decide) (by omega) 0 (ok := fun _ => True) (okp := fun _ => True) rfl (fun _ hk => hk) trivial (of_decide_eq_true (by first | (with_reducible assumption) | assumption)) (Nat.le_trans (Nat.mul_le_mul_right _ (of_decide_eq_true (by first | (with_reducible assumption) | assumption) : t720.toNat ≤ 281474976710656)) (by omega)) (Below.refl _ _) (Nat.le_refl _) ?_; intro v724 w22 ho23 hb hg_ hnew_; clear hg_ hnew_; (first | rw [← Ny723.out] at ho23 | (simp only [Int.reduceToNat] at ho23; rw [← Ny723.out] at ho23)); have n0_ := Aside0.mk (Kd.R_elder' zq13_1 (Kd.R_base ho23) hb); have n1_ := Aside0.mk (Kd.R_lower (Kd.R_new' ho23 (Kd.R_lt zq13_1)) (below_size (by repeat (first | (with_reducible first | exact HB.out | apply below_alloc | apply pw_below_drewN | apply below_drew1 | refine below_set ?_ GE722.out) | exact HB.out)))); have n2_ := Aside0.mk (blk_below (g := gb722) (o := .cells #[.int .u8 t707, .int .u16 t708, .bool t709, .bool t710, .int .i64 t711, .int .u8 t712, .int .u8 t713, .int .u32 t714, .int .u32 t715, .slice Ao21 t716.length co21] 41 (0, 0)) (by (with_reducible repeat (first | refine blk_drewN ?_ _ | refine blk_drew ?_ | refine blk_alloc ?_ _)); refine blk_put (cs := #[.int .u8 t707, .int .u16 t708, .bool t709, .bool t710, .int .i64 t711, .int .u8 t712, .int .u8 t713, .int .u32 t714, .int .u32 t715, .slice none 0 0]) ?_ 9 _ rfl; (with_reducible repeat (first | refine blk_drewN ?_ _ | refine blk_drew ?_ | refine blk_alloc ?_ _)); refine blk_put (cs := #[.int .u8 t707, .int .u16 t708, .bool t709, .bool t710, .int .i64 t711, .int .u8 t712, .int .u8 t713, .int .u32 t714, .int .u32 0, .slice none 0 0]) ?_ 8 _ rfl; (with_reducible repeat (first | refine blk_drewN ?_ _ | refine blk_drew ?_ | refine blk_alloc ?_ _)); refine blk_put (cs := #[.int .u8 t707, .int .u16 t708, .bool t709, .bool t710, .int .i64 t711, .int .u8 t712, .int .u8 t713, .int .u32 0, .int .u32 0, .slice none 0 0]) ?_ 7 _ rfl; (with_reducible repeat (first | refine blk_drewN ?_ _ | refine blk_drew ?_ | refine blk_alloc ?_ _)); refine blk_put (cs := #[.int .u8 t707, .int .u16 t708, .bool t709, .bool t710, .int .i64 t711, .int .u8 t712, .int .u8 0, .int .u32 0, .int .u32 0, .slice none 0 0]) ?_ 6 _ rfl; (with_reducible repeat (first | refine blk_drewN ?_ _ | refine blk_drew ?_ | refine blk_alloc ?_ _)); refine blk_put (cs := #[.int .u8 t707, .int .u16 t708, .bool t709, .bool t710, .int .i64 t711, .int .u8 0, .int .u8 0, .int .u32 0, .int .u32 0, .slice none 0 0]) ?_ 5 _ rfl; (with_reducible repeat (first | refine blk_drewN ?_ _ | refine blk_drew ?_ | refine blk_alloc ?_ _)); refine blk_put (cs := #[.int .u8 t707, .int .u16 t708, .bool t709, .bool t710, .int .i64 0, .int .u8 0, .int .u8 0, .int .u32 0, .int .u32 0, .slice none 0 0]) ?_ 4 _ rfl; (with_reducible repeat (first | refine blk_drewN ?_ _ | refine blk_drew ?_ | refine blk_alloc ?_ _)); refine blk_put (cs := #[.int .u8 t707, .int .u16 t708, .bool t709, .bool false, .int .i64 0, .int .u8 0, .int .u8 0, .int .u32 0, .int .u32 0, .slice none 0 0]) ?_ 3 _ rfl; (with_reducible repeat (first | refine blk_drewN ?_ _ | refine blk_drew ?_ | refine blk_alloc ?_ _)); refine blk_put (cs := #[.int .u8 t707, .int .u16 t708, .bool false, .bool false, .int .i64 0, .int .u8 0, .int .u8 0, .int .u32 0, .int .u32 0, .slice none 0 0]) ?_ 2 _ rfl; (with_reducible repeat (first | refine blk_drewN ?_ _ | refine blk_drew ?_ | refine blk_alloc ?_ _)); refine blk_put (cs := #[.int .u8 t707, .int .u16 0, .bool false, .bool false, .int .i64 0, .int .u8 0, .int .u8 0, .int .u32 0, .int .u32 0, .slice none 0 0]) ?_ 1 _ rfl; (with_reducible repeat (first | refine blk_drewN ?_ _ | refine blk_drew ?_ | refine blk_alloc ?_ _)); refine blk_put (cs := #[.int .u8 0, .int .u16 0, .bool false, .bool false, .int .i64 0, .int .u8 0, .int .u8 0, .int .u32 0, .int .u32 0, .slice none 0 0]) ?_ 0 _ rfl; first | (with_reducible exact BK722.out) | (with_reducible exact blk_drewN BK722.out _) | (with_reducible exact blk_drew BK722.out) | ((with_reducible repeat (first | refine blk_drewN ?_ _ | refine blk_drew ?_ | refine blk_alloc ?_ _)); exact BK722.out)) hb); have n3_ := Aside0.mk (below_step (by repeat (first | (with_reducible first | exact HB.out | apply below_alloc | apply pw_below_drewN | apply below_drew1 | refine below_set ?_ GE722.out) | exact HB.out)) hb); clear HO718; clear BK722; clear HB; have HO718 := n0_; have HO725 := n1_; have BK722 := n2_; have HB := n3_; clear n0_ n1_ n2_ n3_; clear hb ho23; obtain ⟨Ao24, co24, eo24⟩ := Kd.R_slice HO725.out; subst eo24) | ((with_reducible refine gate_builtin (b := .copy) (xs := #[.tmp 24, .tmp 25]) rfl ?_); refine copy_event (k := .u8) (w0 := w) w.heap.size rfl (.tmp 24) (.tmp 25) 24 5 rfl Try.underlying24 info5 Ao24 y723.length co24 y723 (fun k_ => some k_ ≠ (.slice Ao21 t716.length co21 : Value).ownBlock) 0 _ _ _ _ _ _ l0 rfl rfl ?aO ?aL ?aA ?aN ?aR ?aB ?_; (case aO => exact (by (with_reducible repeat (first | apply Kd.R_alloc | apply Kd.R_drewN | apply Kd.R_drew)); exact Kd.R_mono HO725.out (fun _ hk => hk.2))); (case aL => exact Nat.zero_le _); (case aA => exact cut_whole _ _); (case aN => exact (Nat.sub_zero _).symm); (case aR => repeat (first | exact (Kd.C_below HR0.out HB.out) | (with_reducible refine Kd.C_alloc ?_ _) | (with_reducible refine Kd.C_drewN ?_ _) | (with_reducible refine Kd.C_drew ?_))); (case aB => exact (by repeat (first | (with_reducible first | exact HB.out | apply below_alloc | apply pw_below_drewN | apply below_drew1 | refine below_set ?_ GE722.out) | exact HB.out))); intro r25_ w26 ho hb hg; have hat : (.slice Ao24 y723.length co24 : Value).ownBlock = (.slice Ao24 y723.length co24 : Value).ownBlock ∨ ∃ b_, (.slice Ao24 y723.length co24 : Value).ownBlock = some b_ ∧ w22.heap.size ≤ b_ := .inl rfl; (first | rw [← Ny726.out] at ho | (simp only [Int.reduceToNat] at ho; rw [← Ny726.out] at ho)); have n0_ := Aside0.mk (Kd.R_after (ok := (fun _ => True)) (by (with_reducible repeat (first | apply Kd.R_alloc | apply Kd.R_drewN | apply Kd.R_drew)); exact HO718.out) hg hat); have n1_ := Aside0.mk (blk_grown (g := gb722) (o := .cells #[.int .u8 t707, .int .u16 t708, .bool t709, .bool t710, .int .i64 t711, .int .u8 t712, .int .u8 t713, .int .u32 t714, .int .u32 t715, .slice Ao21 t716.length co21] 41 (0, 0)) zq13_2 hg (Kd.R_ne HO725.out BK722.out (by decide))); have n2_ := Aside0.mk (hb); have n3_ := Aside0.mk (ho); clear HO718; clear BK722; clear HB; clear HO725; have HO718 := n0_; have BK722 := n1_; have HB := n2_; have HO725 := n3_; clear n0_ n1_ n2_ n3_; clear ho hb hg hat; have p727 : 0 ≤ (8 : Int) := (by omega); have q727 : 8 < (y726.length : Int) := (by have h_ : (8 : Int) < ((y723.length : Int) : Int) := of_decide_eq_true (by first | (with_reducible assumption) | assumption); first | (have e_ := (Kd.R_reads' HO725.out).1; omega) | simpa only [Ny726.out, List.length_set] using h_); have ql727 : ((8 : Int) < ((y723.length : Int) : Int)) = True := eq_true (of_decide_eq_true (by first | (with_reducible assumption) | assumption)); (try have qn727 : (8 < y723.length) = True := eq_true (by have h_ : (8 : Int) < ((y723.length : Int) : Int) := of_decide_eq_true (by first | (with_reducible assumption) | assumption); omega)); obtain ⟨ad727, e727, hx727_0⟩ := Kd.at_int (Kd.R_reads' HO725.out).2.2 8 p727 q727; cases e727; (try simp only [show (8 : Int).toNat = 8 from rfl, Nat.reduceMul, Nat.reduceEqDiff, Go.Addr.add, ↓reduceIte] at hx727_0); have qi727 : (8 < y726.length) = True := eq_true (by omega); (try rw [show ((8 : Int)).toNat = 8 from rfl] at hx727_0); replace p727 := eq_true p727; replace q727 := eq_true q727; have p12 : 0 ≤ (8 : Int) := (by omega); have q12 : (8 : Int) < ((y723.length : Int) : Int) := of_decide_eq_true (by first | (with_reducible assumption) | assumption); have qi12 : (8 < y723.length) = True := eq_true (by omega); obtain ⟨go12, co12, eo12, gb12, gl12, cl12, HG12⟩ := Kd.R_form HO725.out (by first | omega | (simp only [Ny726.out, List.length_set]; omega) | (have e_ := (Kd.R_reads' HO725.out).1; omega)); (first | cases eo12 | (injection eo12 with ea_ en_ ec_; (first | subst ea_ | (injection ea_ with ea_; subst ea_)); subst ec_; clear en_)); have GB12 := Aside0.mk gb12; have GG12 := Aside0.mk HG12; clear gb12 gl12 HG12; (first | simp only [add_plain] at hx727_0 | skip); obtain ⟨hx12_0, hf12_0⟩ := Kd.R_celln 0 HO725.out (8 : Int) p12 q12; (try rw [show ((8 : Int)).toNat = 8 from rfl] at hx12_0); (try simp only [Nat.reduceMul, Nat.zero_mul, Nat.zero_add, Nat.reduceAdd] at hx12_0); (try rw [show ((8 : Int)).toNat = 8 from rfl] at hf12_0); (try simp only [Nat.reduceMul, Nat.zero_mul, Nat.zero_add, Nat.reduceAdd] at hf12_0); replace p12 := eq_true p12; replace q12 := eq_true q12; obtain ⟨hy27_, hz27_⟩ := Kd.R_celln 0 HO725.out (8 : Int) (by omega) (of_decide_eq_true (by first | (with_reducible assumption) | assumption)); (try simp only [Int.reduceToNat, Int.toNat_zero, Int.toNat_ofNat, Nat.reduceMul, Nat.zero_mul, Nat.zero_add] at hy27_ hz27_); (try rw [show ((8 : Int)).toNat = 8 from rfl] at hy27_); (try rw [show ((8 : Int)).toNat = 8 from rfl] at hz27_); have HP27 := Kd.R_putg HO725.out (8 : Int) (((rd y726 8) - 1) % 256)) | ((with_reducible refine gate_store (t := 5) (p := 31) rfl ?_); refine store_event (t := 5) (p := 31) (v := ?vo_w28) (w1 := (w26.setCell ⟨go12, (8 : Int).toNat, none⟩ (.int .u8 (((rd y726 8) - 1) % 256)))) ?hg ?ho ?hn ?hr ?_; (case ho => rfl); (case hg => rfl); (case hn => rfl); (case hr => first | (go_simp; done) | (go_simp; rfl)); intro w28 hw; have hg : w26.grownBy w28 (some go12) := (by rw [hw]; exact HP27.2); have hp_ : Kd.R (Kd.int .u8) 5 w28 w.heap.size (fun k_ => some k_ ≠ (.slice Ao21 t716.length co21 : Value).ownBlock) (.slice (some ⟨go12, 0, none⟩) y723.length co24) y728 := (by rw [hw, Ny728.out]; exact HP27.1); clear HP27; have n0_ := Aside0.mk (Kd.R_after (v := (.slice (some ⟨go12, 0, none⟩) y723.length co24)) (v1 := (.slice (some ⟨go12, 0, none⟩) y723.length co24)) (ok := (fun _ => True)) (by (with_reducible repeat (first | apply Kd.R_alloc | apply Kd.R_drewN | apply Kd.R_drew)); exact HO718.out) hg (.inl rfl)); have n1_ := Aside0.mk (blk_grown (g := gb722) (o := .cells #[.int .u8 t707, .int .u16 t708, .bool t709, .bool t710, .int .i64 t711, .int .u8 t712, .int .u8 t713, .int .u32 t714, .int .u32 t715, .slice Ao21 t716.length co21] 41 (0, 0)) zq13_2 hg (Kd.R_ne HO725.out BK722.out (by decide))); have n2_ := Aside0.mk (hp_); have n3_ := Aside0.mk ((by rw [hw]; exact below_set (HB.out) GB12.out : Below w.heap.size w w28)); clear HO718; clear BK722; clear HO725; clear HB; have HO718 := n0_; have BK722 := n1_; have HO725 := n2_; have HB := n3_; clear n0_ n1_ n2_ n3_; clear hg hw hp_))
                  have n0_ := Aside0.mk (Kd.R_drew HO718.out)
                  have n1_ := Aside0.mk (Kd.R_drew HO725.out)
                  have n2_ := Aside0.mk (blk_drew BK722.out)
                  have n3_ := Aside0.mk (below_drew1 HB.out)
                  clear HO718
                  clear HO725
                  clear BK722
                  clear HB
                  have HO718 := n0_
                  have HO725 := n1_
                  have BK722 := n2_
                  have HB := n3_
                  clear n0_ n1_ n2_ n3_
                  have hlx30 := (Kd.R_reads' HO725.out).1
                  have q30 : (10 : Int) ≤ ((y723.length : Int) : Int) := of_decide_eq_true (by first | (with_reducible assumption) | assumption)
                  obtain ⟨i030, hi030, _, hsz30, _⟩ := info_parts info5
                  have hroom30 : y723.length ≤ co24 := (Kd.R_reads' HO725.out).2.1
                  have hroomc30 : y728.length ≤ co24 := (by rw [← hlx30]; exact hroom30)
                  have hC30 : Kd.C (Kd.int .u8) _ (some ⟨go12, 0, none⟩) y728.length y728 := (Kd.R_reads' HO725.out).2.2
                  have hcut30 := cut_to (P := Try.prog) 24 5 .i64 Try.underlying24 hi030 (some ⟨go12, 0, none⟩) y723.length co24 10 (by omega) q30 hroom30
                  have hr30 := Kd.C_take (m := 10) hC30 (by omega)
                  have hy30 : y729.length = (10 : Int).toNat := (by rw [Ny729.out, List.length_take]; omega)
                  rw [← Ny729.out] at hr30
                  rw [← hy30] at hcut30
                  have HR732 := Aside0.mk hr30
                  have HC732 := Aside0.mk (show y729.length ≤ co24 from by omega)
                  clear hr30 hC30 hroom30 hi030 hsz30 hroomc30
                  have KY30 := Aside0.mk hy30
                  clear hy30
                  have KE30 := Aside0.mk hlx30
                  have KL30 := Aside0.mk (show 10 ≤ y728.length from by omega)
                  clear hlx30
                  replace q30 := eq_true q30
                  have hlx31 := (Kd.R_reads' HO725.out).1
                  have q31 : (t719 : Int) ≤ ((y723.length : Int) : Int) := of_decide_eq_true (by first | (with_reducible assumption) | assumption)
                  obtain ⟨i031, hi031, _, hsz31, _⟩ := info_parts info5
                  have hroom31 : y723.length ≤ co24 := (Kd.R_reads' HO725.out).2.1
                  have hroomc31 : y728.length ≤ co24 := (by rw [← hlx31]; exact hroom31)
                  have hC31 : Kd.C (Kd.int .u8) _ (some ⟨go12, 0, none⟩) y728.length y728 := (Kd.R_reads' HO725.out).2.2
                  have ql31 : (12 : Int) ≤ (t719 : Int) := of_decide_eq_true (by first | (with_reducible assumption) | assumption)
                  have hcut31 := cut_mid (P := Try.prog) 24 5 .i64 .i64 Try.underlying24 hi031 1 hsz31 (some ⟨go12, 0, none⟩) y723.length co24 12 t719 (by omega) ql31 q31 hroom31
                  have hr31 := Kd.C_mid (lo := (12 : Int).toNat) (hi := (t719 : Int).toNat) (c := co24) hC31 (by omega) (by omega) hroomc31
                  obtain ⟨A31, hA31⟩ : ∃ A1, A1 = (if co24 = (12 : Int).toNat then (some ⟨go12, 0, none⟩) else ((some ⟨go12, 0, none⟩) : Option Addr).map (·.add ((12 : Int).toNat * 1))) := ⟨_, rfl⟩
                  obtain ⟨c31, hc31⟩ : ∃ c1, c1 = co24 - (12 : Int).toNat := ⟨_, rfl⟩
                  have hy31 : y733.length = (t719 : Int).toNat - (12 : Int).toNat := (by rw [Ny733.out, List.length_drop, List.length_take] <;> omega)
                  rw [show ((y728).take (t719 : Int).toNat).drop (12 : Int).toNat = y733 from Ny733.out.symm] at hr31
                  replace hr31 : Kd.C (Kd.int .u8) _ A31 y733.length y733 := (by rw [hA31]; exact hr31)
                  rw [← hy31, ← hA31, ← hc31] at hcut31
                  have HR736 := Aside0.mk hr31
                  have HC736 := Aside0.mk (show y733.length ≤ c31 from by rw [hy31, hc31]; exact Nat.sub_le_sub_right (Nat.le_trans (by omega) hroom31) _)
                  clear hr31 hC31 hroom31 hi031 hsz31 hc31 hroomc31
                  have KY31 := Aside0.mk hy31
                  have KA31 := Aside0.mk hA31
                  clear hy31 hA31
                  have KE31 := Aside0.mk hlx31
                  have KL31 := Aside0.mk (show (t719 : Int).toNat ≤ y728.length from by omega)
                  have KM31 := Aside0.mk (show 12 ≤ (t719 : Int).toNat from by omega)
                  clear hlx31
                  replace q31 := eq_true q31
                  refine start_ (n := 9) (S := fun w' => True) (ds := []) #[false, false, false, false, false, false, false, false, false] (by kernel_rfl) rfl rfl trivial (fun hHeld => ?_); refine with_tabW ip4_Age.tab9 ip4_Age.bits9 (fun HT_ HW_ => ?_)
                  generalize w28.drew = w29 at HO718 HO725 BK722 HB HR732 HR736 hHeld ⊢
                  refine pure_ (i := 0) (N := some 32) (v := ?_) (a' := ?_) #[true, false, false, false, false, false, false, false, false] rfl rfl (any_of HT_.out (by kernel_rfl)) (fun _ _ _ h => h) (Or.inl ⟨by rfl, ?_⟩) ?_ ?_
                  rotate_left
                  · intro w'
                    go_simp
                    with_reducible rfl
                  rotate_left
                  · simp only [Act.put, List.setIfInBounds_toArray, List.set_cons_zero, List.set_cons_succ, i64_w, i32_w, IntKind.wrap_u8, IntKind.wrap_u32]
                    rfl
                  refine pure_ (i := 1) (N := some 33) (v := ?_) (a' := ?_) #[true, true, false, false, false, false, false, false, false] rfl rfl (any_of HT_.out (by kernel_rfl)) (fun _ _ _ h => h) (Or.inl ⟨by rfl, ?_⟩) ?_ ?_
                  rotate_left
                  · intro w'
                    go_simp
                    with_reducible rfl
                  rotate_left
                  · simp only [Act.put, List.setIfInBounds_toArray, List.set_cons_zero, List.set_cons_succ, i64_w, i32_w, IntKind.wrap_u8, IntKind.wrap_u32]
                    rfl
                  refine pure_ (i := 2) (N := some 34) (v := ?_) (a' := ?_) #[true, true, true, false, false, false, false, false, false] rfl rfl (any_of HT_.out (by kernel_rfl)) (fun _ _ _ h => h) (Or.inl ⟨by rfl, ?_⟩) ?_ ?_
                  rotate_left
                  · intro w'
                    go_simp
                    with_reducible rfl
                  rotate_left
                  · simp only [Act.put, List.setIfInBounds_toArray, List.set_cons_zero, List.set_cons_succ, i64_w, i32_w, IntKind.wrap_u8, IntKind.wrap_u32]
                    rfl
                  refine pure_ (i := 3) (N := some 35) (v := ?_) (a' := ?_) #[true, true, true, true, false, false, false, false, false] rfl rfl (any_of HT_.out (by kernel_rfl)) (fun _ _ _ h => h) (Or.inl ⟨by rfl, ?_⟩) ?_ ?_
                  rotate_left
                  · intro w'
                    go_simp
                    with_reducible rfl
                  rotate_left
                  · simp only [Act.put, List.setIfInBounds_toArray, List.set_cons_zero, List.set_cons_succ, i64_w, i32_w, IntKind.wrap_u8, IntKind.wrap_u32]
                    rfl
                  refine pure_ (i := 4) (N := some 36) (v := ?_) (a' := ?_) #[true, true, true, true, true, false, false, false, false] rfl rfl (any_of HT_.out (by kernel_rfl)) (fun _ _ _ h => h) (Or.inl ⟨by rfl, ?_⟩) ?_ ?_
                  rotate_left
                  · intro w'
                    go_simp
                    with_reducible rfl
                  rotate_left
                  · simp only [Act.put, List.setIfInBounds_toArray, List.set_cons_zero, List.set_cons_succ, i64_w, i32_w, IntKind.wrap_u8, IntKind.wrap_u32]
                    rfl
                  refine pure_ (i := 5) (N := some 37) (v := ?_) (a' := ?_) #[true, true, true, true, true, true, false, false, false] rfl rfl (any_of HT_.out (by kernel_rfl)) (fun _ _ _ h => h) (Or.inl ⟨by rfl, ?_⟩) ?_ ?_
                  rotate_left
                  · intro w'
                    go_simp
                    with_reducible rfl
                  rotate_left
                  · simp only [Act.put, List.setIfInBounds_toArray, List.set_cons_zero, List.set_cons_succ, i64_w, i32_w, IntKind.wrap_u8, IntKind.wrap_u32]
                    rfl
                  refine one_ (i := 6) (N := some 38) #[true, true, true, true, true, true, true, false, false] rfl rfl (one_of HT_.out (by kernel_rfl)) (by decide) (fun K hK => ?_)
                  refine lits_step (Kd.slice 5 (Kd.int .u8)) 24 ?hg (N := 38) ?hd (xs := ([y729, y733] : List (List Int))) (inner := [.slice (some ⟨go12, 0, none⟩) y729.length co24, .slice A31 y733.length c31]) ?hr ?hp (by simp) ?_; (case hd => rfl); (case hg => rfl); (case hr => first | (go_simp; done) | (go_simp; rfl)); (case hp => exact (Reps.one (show Kd.K (Kd.slice 5 (Kd.int .u8)) _ y729 [.slice (some ⟨go12, 0, none⟩) y729.length co24] from by refine ⟨_, _, rfl, ?_, ?_⟩; (· exact HC732.out); (· repeat (first | exact (by repeat (first | (with_reducible exact HR732.out) | (with_reducible refine Kd.C_alloc ?_ _) | (with_reducible refine Kd.C_drewN ?_ _) | (with_reducible refine Kd.C_drew ?_) | exact HR732.out)) | (with_reducible refine Kd.C_alloc ?_ _) | (with_reducible refine Kd.C_drewN ?_ _) | (with_reducible refine Kd.C_drew ?_)))) (Reps.one (show Kd.K (Kd.slice 5 (Kd.int .u8)) _ y733 [.slice A31 y733.length c31] from by refine ⟨_, _, rfl, ?_, ?_⟩; (· exact HC736.out); (· repeat (first | exact (by repeat (first | (with_reducible exact HR736.out) | (with_reducible refine Kd.C_alloc ?_ _) | (with_reducible refine Kd.C_drewN ?_ _) | (with_reducible refine Kd.C_drew ?_) | exact HR736.out)) | (with_reducible refine Kd.C_alloc ?_ _) | (with_reducible refine Kd.C_drewN ?_ _) | (with_reducible refine Kd.C_drew ?_)))) (Reps.none _ _))))
                  intro v33_ w32 hL_ hb
                  (first | rw [← Ny737.out] at hL_ | (simp only [Int.reduceToNat] at hL_; rw [← Ny737.out] at hL_))
                  obtain ⟨A33, c33, rfl, hlr_, hlc_⟩ := hL_
                  have n0_ := Aside0.mk (Kd.R_below (by (with_reducible repeat (first | apply Kd.R_alloc | apply Kd.R_drewN | apply Kd.R_drew)); exact HO718.out) hb)
                  have n1_ := Aside0.mk (Kd.R_below (by (with_reducible repeat (first | apply Kd.R_alloc | apply Kd.R_drewN | apply Kd.R_drew)); exact HO725.out) hb)
                  have n2_ := Aside0.mk (blk_below (g := gb722) (o := .cells #[.int .u8 t707, .int .u16 t708, .bool t709, .bool t710, .int .i64 t711, .int .u8 t712, .int .u8 t713, .int .u32 t714, .int .u32 t715, .slice Ao21 t716.length co21] 41 (0, 0)) zq13_2 hb)
                  have n3_ := Aside0.mk (Kd.C_below (by repeat (first | (with_reducible exact HR732.out) | (with_reducible refine Kd.C_alloc ?_ _) | (with_reducible refine Kd.C_drewN ?_ _) | (with_reducible refine Kd.C_drew ?_) | exact HR732.out)) hb)
                  have n4_ := Aside0.mk (Kd.C_below (by repeat (first | (with_reducible exact HR736.out) | (with_reducible refine Kd.C_alloc ?_ _) | (with_reducible refine Kd.C_drewN ?_ _) | (with_reducible refine Kd.C_drew ?_) | exact HR736.out)) hb)
                  have n5_ := Aside0.mk (below_step (by repeat (first | (with_reducible first | exact HB.out | apply below_alloc | apply pw_below_drewN | apply below_drew1 | refine below_set ?_ GE722.out) | exact HB.out)) hb)
                  have n6_ := Aside0.mk (hlc_)
                  have n7_ := Aside0.mk (hlr_)
                  clear HO718
                  clear HO725
                  clear BK722
                  clear HR732
                  clear HR736
                  clear HB
                  have HO718 := n0_
                  have HO725 := n1_
                  have BK722 := n2_
                  have HR732 := n3_
                  have HR736 := n4_
                  have HB := n5_
                  have HR740 := n6_
                  have HC740 := n7_
                  clear n0_ n1_ n2_ n3_ n4_ n5_ n6_ n7_
                  clear hb hlr_ hlc_
                  refine hK.out _ _ trivial (fun hHeld => ?_)
                  clear hK K
                  refine norm_ (a' := ?_) ?_ ?_
                  rotate_left
                  · show Act.put _ (some 38) _ = _
                    simp only [Act.put, List.setIfInBounds_toArray, List.set_cons_zero, List.set_cons_succ, i64_w, i32_w, IntKind.wrap_u8, IntKind.wrap_u32]
                    rfl
                  refine one_ (i := 7) (N := some 39) #[true, true, true, true, true, true, true, true, false] rfl rfl (one_of HT_.out (by kernel_rfl)) (by decide) (fun K hK => ?_)
                  refine goes_ Try.func16 (by kernel_rfl) rfl #[.slice A33 y737.length c33] (by rfl) rfl rfl (by (try simp only [List.map_toArray, List.map_cons, List.map_nil]); first | done | rfl | (simp only [List.length_drop, List.length_take]; rfl)) ?_
                  with_reducible refine (ip4_Sum.calls k _ _ y737 t741 _ ?side1 ?side2 A16.out).mono ?_
                  (case side1 => repeat (first | exact (by repeat (first | (with_reducible exact HR740.out) | (with_reducible refine Kd.C_alloc ?_ _) | (with_reducible refine Kd.C_drewN ?_ _) | (with_reducible refine Kd.C_drew ?_) | exact HR740.out)) | (with_reducible refine Kd.C_alloc ?_ _) | (with_reducible refine Kd.C_drewN ?_ _) | (with_reducible refine Kd.C_drew ?_)))
                  (case side2 => exact HC740.out)
                  rintro e w' ⟨rfl, ⟨nd, rfl⟩⟩
                  refine ⟨_, rfl, ?_⟩
                  refine hK.out _ _ trivial (fun hHeld => ?_)
                  clear hK K
                  refine norm_ (a' := ?_) ?_ ?_
                  rotate_left
                  · show Act.put _ (some 39) _ = _
                    simp only [Act.put, List.setIfInBounds_toArray, List.set_cons_zero, List.set_cons_succ, i64_w, i32_w, IntKind.wrap_u8, IntKind.wrap_u32]
                    rfl
                  refine one_ (i := 8) (N := some 40) #[true, true, true, true, true, true, true, true, true] rfl rfl (one_of HT_.out (by kernel_rfl)) (by decide) (fun K hK => ?_)
                  refine goes_ Try.func48 (by kernel_rfl) rfl #[.slice (some ⟨go12, 0, none⟩) y723.length co24, .int .i64 10, .int .u16 t741] (by rfl) rfl rfl (by (try simp only [List.map_toArray, List.map_cons, List.map_nil]); first | done | rfl | (simp only [List.length_drop, List.length_take]; rfl)) ?_
                  with_reducible refine (ip4_putWord.calls (fun k_ => some k_ = (.slice (some ⟨go12, 0, none⟩) y723.length co24 : Value).ownBlock) (.slice (some ⟨go12, 0, none⟩) y723.length co24) y728 10 t741 t742 w _ ?side1 ?side2 A17.out).mono ?_
                  (case side1 => repeat (first | (with_reducible first | exact HB.out | apply below_alloc | apply pw_below_drewN | apply below_drew1 | refine below_set ?_ GE722.out) | exact HB.out))
                  (case side2 => (with_reducible repeat (first | apply Kd.R_alloc | apply Kd.R_drewN | apply Kd.R_drew)); exact Kd.R_tight rfl HO725.out)
                  rintro e w34 ⟨rfl, hy0, hb, hkp⟩
                  refine ⟨_, rfl, ?_⟩
                  have n0_ := Aside0.mk (Kd.R_mono (ok' := fun k_ => some k_ ≠ (.slice (some ⟨go12, 0, none⟩) y723.length co24 : Value).ownBlock) (Kd.R_keptB (HO718.out) hkp (fun k_ hk_ hs_ => (hk_.2) hs_)) (fun k_ hk_ => hk_.1.2))
                  have n1_ := Aside0.mk (blk_kept zq13_2 hkp (fun hs_ => (fun e_ => (Kd.R_ne HO725.out BK722.out (by decide)) e_) hs_))
                  have n2_ := Aside0.mk (Kd.R_reok rfl hy0 (fun k_ e_ => HO725.out.1 k_ e_))
                  have n3_ := Aside0.mk (hb)
                  clear HO718
                  clear BK722
                  clear HO725
                  clear HB
                  have HO718 := n0_
                  have BK722 := n1_
                  have HO725 := n2_
                  have HB := n3_
                  clear n0_ n1_ n2_ n3_
                  (try clear hb)
                  (try clear hkp)
                  (try clear hy0)
                  refine hK.out _ _ trivial (fun hHeld => ?_)
                  clear hK K
                  refine norm_ (a' := ?_) ?_ ?_
                  rotate_left
                  · show Act.put _ (some 40) _ = _
                    simp only [Act.put, List.setIfInBounds_toArray, List.set_cons_zero, List.set_cons_succ, i64_w, i32_w, IntKind.wrap_u8, IntKind.wrap_u32]
                    rfl
                  refine done_ (done_of HT_.out (by kernel_rfl)) ?_
                  try go_wp2
                  go_ret2
                  exact ⟨_, by first | rfl | (simp [errW_none, errW_some] <;> rfl) | (simp [*, errW_none, errW_some] <;> rfl), by (with_reducible repeat (first | apply Kd.R_alloc | apply Kd.R_drewN | apply Kd.R_drew)); exact Kd.R_mono HO725.out (fun _ hk => trivial), by repeat (first | (with_reducible first | exact HB.out | apply below_alloc | apply pw_below_drewN | apply below_drew1 | refine below_set ?_ GE722.out) | exact HB.out)⟩
                · rw [if_neg c15] at H
                  exact absurd H (by simp)
              · rw [if_neg c14] at H
                exact absurd H (by simp)
            · rw [if_neg c13] at H
              exact absurd H (by simp)
          · rw [if_neg c11] at H
            exact absurd H (by simp)
        · rw [if_neg c10] at H
          exact absurd H (by simp)
      · rw [if_neg c9] at H
        exact absurd H (by simp)
  · rw [if_neg c3] at H
    have c3b0 : (t721 == 0) = false := beq_eq_false_iff_ne.mpr c3
    have c3b1 : (t721 != 0) = true := bne_iff_ne.mpr c3
    simp only [Option.some.injEq, Prod.mk.injEq] at H
    obtain ⟨rfl, rfl⟩ := H
    go_enter Try.func52, Try.ntmps52
    go_wp2_with (first | ((with_reducible refine gate_callee (f := 65) rfl ?_); refine goesL_ (some 11) rfl rfl Try.func65 (by kernel_rfl) rfl #[.slice A0 l0.length c0, .bool true] rfl (by (try simp only [List.map_toArray, List.map_cons, List.map_nil]); first | done | rfl | (simp only [List.length_drop, List.length_take]; rfl)) ?_; (with_reducible refine (ip4_read.calls k _ _ l0 true t707 t708 t709 t710 t711 t712 t713 t714 t715 t716 t719 t720 t721 _ ?side1 ?side2 A2.out).mono ?_); (case side1 => repeat (first | exact HR0.out | (with_reducible refine Kd.C_alloc ?_ _) | (with_reducible refine Kd.C_drewN ?_ _) | (with_reducible refine Kd.C_drew ?_))); (case side2 => exact HC0.out); rintro e w35 ⟨v717, rfl, ho0, hb⟩; refine ⟨_, rfl, ?_⟩; have n0_ := Aside0.mk (Kd.R_lower ho0 (below_size zq13_0)); have n1_ := Aside0.mk (below_step zq13_0 hb); clear HB; have HO718 := n0_; have HB := n1_; clear n0_ n1_; (try clear hb); (try clear hb2); (try clear hk); (try clear hi); (try clear ho0)) | ((with_reducible refine gate_dst (N := 4) rfl ?_); refine box_event ?hg (N := 4) ?hd (cs := #[.int .u8 0, .int .u16 0, .bool false, .bool false, .int .i64 0, .int .u8 0, .int .u8 0, .int .u32 0, .int .u32 0, .slice none 0 0]) (t := 41) ?hr ?_; (case hd => rfl); (case hg => rfl); (case hr => first | (go_simp; done) | (go_simp; rfl)); intro gb722 hg w36 hbox hb; have n0_ := Aside0.mk (Kd.R_below (by (with_reducible repeat (first | apply Kd.R_alloc | apply Kd.R_drewN | apply Kd.R_drew)); exact HO718.out) hb); have n1_ := Aside0.mk (below_step zq13_0 hb); have n2_ := Aside0.mk (hbox); have n3_ := Aside0.mk ((by rw [hg]; exact (below_size zq13_0) : w.heap.size ≤ gb722)); have n4_ := Aside0.mk ((by rw [hg]; exact (below_size zq13_0) : w.heap.size ≤ gb722)); clear HO718; clear HB; have HO718 := n0_; have HB := n1_; have BK722 := n2_; have GW722 := n3_; have GE722 := n4_; clear n0_ n1_ n2_ n3_ n4_; clear hb hbox hg; have hcz37_0 : w36.cell? ⟨gb722, 0, none⟩ = some (.int .u8 0) := (blk_cell BK722.out 0).trans rfl; have hcz37_1 : w36.cell? ⟨gb722, 1, none⟩ = some (.int .u16 0) := (blk_cell BK722.out 1).trans rfl; have hcz37_2 : w36.cell? ⟨gb722, 2, none⟩ = some (.bool false) := (blk_cell BK722.out 2).trans rfl; have hcz37_3 : w36.cell? ⟨gb722, 3, none⟩ = some (.bool false) := (blk_cell BK722.out 3).trans rfl; have hcz37_4 : w36.cell? ⟨gb722, 4, none⟩ = some (.int .i64 0) := (blk_cell BK722.out 4).trans rfl; have hcz37_5 : w36.cell? ⟨gb722, 5, none⟩ = some (.int .u8 0) := (blk_cell BK722.out 5).trans rfl; have hcz37_6 : w36.cell? ⟨gb722, 6, none⟩ = some (.int .u8 0) := (blk_cell BK722.out 6).trans rfl; have hcz37_7 : w36.cell? ⟨gb722, 7, none⟩ = some (.int .u32 0) := (blk_cell BK722.out 7).trans rfl; have hcz37_8 : w36.cell? ⟨gb722, 8, none⟩ = some (.int .u32 0) := (blk_cell BK722.out 8).trans rfl; have hcz37_9 : w36.cell? ⟨gb722, 9, none⟩ = some (.slice none 0 0) := (blk_cell BK722.out 9).trans rfl; have hfz37_0 := blk_frozen BK722.out 0; have hfz37_1 := blk_frozen BK722.out 1; have hfz37_2 := blk_frozen BK722.out 2; have hfz37_3 := blk_frozen BK722.out 3; have hfz37_4 := blk_frozen BK722.out 4; have hfz37_5 := blk_frozen BK722.out 5; have hfz37_6 := blk_frozen BK722.out 6; have hfz37_7 := blk_frozen BK722.out 7; have hfz37_8 := blk_frozen BK722.out 8; have hfz37_9 := blk_frozen BK722.out 9; obtain ⟨Ao38, co38, eo38⟩ := Kd.R_slice HO718.out; subst eo38))
    go_ret2
    exact ⟨_, by first | rfl | (simp [errW_none, errW_some] <;> rfl) | (simp [*, errW_none, errW_some] <;> rfl), by first | exact Kd.R_nil _ _ _ _ _ | exact Kd.N_nil _ _ _ _ _ | exact Kd.V_nil _ _ _ _ _ | exact Kd.Q_nil _ _ _ _ _ | exact Kd.S_nil _ _ _ _ _, by repeat (first | (with_reducible first | exact HB.out | apply below_alloc | apply pw_below_drewN | apply below_drew1 | refine below_set ?_ GE722.out) | exact HB.out)⟩

end Go.Proofs.Ytbacmhegalncjaa.XB
