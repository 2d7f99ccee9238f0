-- printed by a program of this session (wip/xprint), out of the translation; Lean checks it
import Derived.Test.YtbacmhegalncjaaQIXBx0
import Derived.Test.YtbacmhegalncjaaQIXBx19
namespace Go.Proofs.Ytbacmhegalncjaa.XB
open Go.RowKit Go.Proofs.YtbacmhegalncjaaW.PrintWords Go.Proofs.YtbacmhegalncjaaW.PrintLast Go.Proofs.YtbacmhegalncjaaW.PrintMore Go.Proofs.YtbacmhegalncjaaX
theorem zqxb20_4 {P : Prop} (h : P := by repeat (first | (with_reducible first | exact HK.out | apply Kept.alloc | apply Kept.drewN | apply Kept.drew) | exact HK.out)) : P := h
theorem zqxb20_3 {P : Prop} (h : P := by first | exact HK.out.1 | exact (show Kept w _ (fun k_ => P0_ k_) from by repeat (first | (with_reducible first | exact HK.out | apply Kept.alloc | apply Kept.drewN | apply Kept.drew) | exact HK.out)).1) : P := h
theorem zqxb20_2 {P : Prop} (h : P := by (with_reducible repeat (first | apply Kd.R_alloc | apply Kd.R_drewN | apply Kd.R_drew)); exact HO0.out) : P := h
theorem zqxb20_1 {P : Prop} (h : P := by (try simp only [List.map_toArray, List.map_cons, List.map_nil]); first | done | rfl | (simp only [List.length_drop, List.length_take]; rfl)) : P := h
theorem zqxb20_0 {P : Prop} (h : P := by repeat (first | (with_reducible first | exact HB.out | apply below_alloc | apply pw_below_drewN | apply below_drew1) | exact HB.out)) : P := h
attribute [local go_sem] max2_int min2_int max_two min_two max_three min_three max_four min_four   -- for this text's walks alone
set_option linter.unusedVariables false
set_option linter.unusedSimpArgs false

/-! ### weftref3_Piece: function 79 -/
def weftref3_Piece.f (a0 : Int) (a1 : Int) (a2 : Bool) : Option (Bool) := if a0 < 0 then (some false) else (if a0 > 65528 then (some false) else (if (Int.tmod a0 8) = 0 then (if (wrap64 (a0 + a1)) > 65535 then (some false) else (if a2 = true then (if a1 > 0 then (some ((Int.tmod a1 8) == 0)) else (some false)) else (some true))) else (some false)))
set_option maxHeartbeats 8000000 in
set_option maxRecDepth 100000 in
theorem weftref3_Piece.calls (a0 : Int) (a1 : Int) (a2 : Bool) (r : Bool) (w : World) (h : weftref3_Piece.f a0 a1 a2 = some r) :
  Calls Try.prog 79 #[.int .i64 a0, .int .i64 a1, .bool a2] w fun e w' => e = .returned (.bool r) ∧ Drawn0 w w' := by
 have H : (if a0 < 0 then (some false) else (if a0 > 65528 then (some false) else (if (Int.tmod a0 8) = 0 then (if (wrap64 (a0 + a1)) > 65535 then (some false) else (if a2 = true then (if a1 > 0 then (some ((Int.tmod a1 8) == 0)) else (some false)) else (some true))) else (some false)))) = some r := h
 clear h
 by_cases c4 : a0 < 0
 ·
  rw [if_pos c4] at H
  have c4b0 : decide (a0 < 0) = true := decide_eq_true c4
  clear c4
  obtain rfl := Option.some.inj H
  go_enter Try.func79, Try.ntmps79
  go_wp2
  go_ret
  exact ⟨by first | rfl | (simp; done) | (simp [*]; done), by repeat (first | exact Drawn0.refl _ | apply Drawn0.step)⟩
 ·
  rw [if_neg c4] at H
  have c4b0 : decide (a0 < 0) = false := decide_eq_false c4
  clear c4
  by_cases c5 : a0 > 65528
  ·
   rw [if_pos c5] at H
   have c5b0 : decide (65528 < a0) = true := decide_eq_true c5
   clear c5
   obtain rfl := Option.some.inj H
   go_enter Try.func79, Try.ntmps79
   go_wp2
   go_ret
   exact ⟨by first | rfl | (simp; done) | (simp [*]; done), by repeat (first | exact Drawn0.refl _ | apply Drawn0.step)⟩
  ·
   rw [if_neg c5] at H
   have c5b0 : decide (65528 < a0) = false := decide_eq_false c5
   clear c5
   by_cases c6 : (Int.tmod a0 8) = 0
   ·
    rw [if_pos c6] at H
    have c6b0 : ((Int.tmod a0 8) == 0) = true := beq_iff_eq.mpr c6
    have c6b1 : ((Int.tmod a0 8) != 0) = false := bne_eq_false_iff_eq.mpr c6
    clear c6
    by_cases c7 : (wrap64 (a0 + a1)) > 65535
    ·
     rw [if_pos c7] at H
     have c7b0 : decide (65535 < (wrap64 (a0 + a1))) = true := decide_eq_true c7
     clear c7
     obtain rfl := Option.some.inj H
     go_enter Try.func79, Try.ntmps79
     go_wp2
     go_ret
     exact ⟨by first | rfl | (simp; done) | (simp [*]; done), by repeat (first | exact Drawn0.refl _ | apply Drawn0.step)⟩
    ·
     rw [if_neg c7] at H
     have c7b0 : decide (65535 < (wrap64 (a0 + a1))) = false := decide_eq_false c7
     clear c7
     by_cases c8 : a2 = true
     ·
      subst c8
      have H1 : (if a1 > 0 then (some ((Int.tmod a1 8) == 0)) else (some false)) = some r := by rw [if_pos rfl] at H; exact H
      clear H
      have H := H1
      clear H1
      by_cases c9 : a1 > 0
      ·
       rw [if_pos c9] at H
       have c9b0 : decide (0 < a1) = true := decide_eq_true c9
       clear c9
       obtain rfl := Option.some.inj H
       go_enter Try.func79, Try.ntmps79
       go_wp2
       go_ret
       exact ⟨by first | rfl | (simp; done) | (simp [*]; done), by repeat (first | exact Drawn0.refl _ | apply Drawn0.step)⟩
      ·
       rw [if_neg c9] at H
       have c9b0 : decide (0 < a1) = false := decide_eq_false c9
       clear c9
       obtain rfl := Option.some.inj H
       go_enter Try.func79, Try.ntmps79
       go_wp2
       go_ret
       exact ⟨by first | rfl | (simp; done) | (simp [*]; done), by repeat (first | exact Drawn0.refl _ | apply Drawn0.step)⟩
     ·
      replace c8 := Bool.eq_false_iff.mpr c8
      subst c8
      have H1 : (some true) = some r := by rw [if_neg (show ¬ (false = true) by decide)] at H; exact H
      clear H
      have H := H1
      clear H1
      obtain rfl := Option.some.inj H
      go_enter Try.func79, Try.ntmps79
      go_wp2
      go_ret
      exact ⟨by first | rfl | (simp; done) | (simp [*]; done), by repeat (first | exact Drawn0.refl _ | apply Drawn0.step)⟩
   ·
    rw [if_neg c6] at H
    have c6b0 : ((Int.tmod a0 8) == 0) = false := beq_eq_false_iff_ne.mpr c6
    have c6b1 : ((Int.tmod a0 8) != 0) = true := bne_iff_ne.mpr c6
    obtain rfl := Option.some.inj H
    go_enter Try.func79, Try.ntmps79
    go_wp2
    go_ret
    exact ⟨by first | rfl | (simp; done) | (simp [*]; done), by repeat (first | exact Drawn0.refl _ | apply Drawn0.step)⟩

/-! ### weftref3_Refused: function 68 -/
def weftref3_Refused.f (k : Nat) (a0_0 : Int) (a0_1 : Int) (a0_2 : Bool) (a0_3 : Bool) (a0_4 : Int) (a0_5 : Int) (a0_6 : Int) (a0_7 : Int) (a0_8 : Int) (l0_9 : List Int) (l0_10 : List Int) : Option (Int) := (weftref3_Area.f k l0_9).bind fun t934 => (if t934 = true then ((weftref3_Piece.f a0_4 (l0_10.length : Int) a0_3).bind fun t935 => (if t935 = true then (if (wrap64 ((wrap64 (20 + (l0_9.length : Int))) + (l0_10.length : Int))) > 65535 then (some 37) else (some 0)) else (some 36))) else (some 34))
set_option maxHeartbeats 8000000 in
set_option maxRecDepth 100000 in
theorem weftref3_Refused.calls (k : Nat) (a0_0 : Int) (a0_1 : Int) (a0_2 : Bool) (a0_3 : Bool) (a0_4 : Int) (a0_5 : Int) (a0_6 : Int) (a0_7 : Int) (a0_8 : Int) (A0_9 : Option Addr) (c0_9 : Nat) (l0_9 : List Int) (A0_10 : Option Addr) (c0_10 : Nat) (l0_10 : List Int) (r : Int) (w : World) (hr0_9 : Kd.C (Kd.int .u8) w A0_9 l0_9.length l0_9) (hc0_9 : l0_9.length ≤ c0_9) (hr0_10 : Kd.C (Kd.int .u8) w A0_10 l0_10.length l0_10) (hc0_10 : l0_10.length ≤ c0_10) (h : weftref3_Refused.f k a0_0 a0_1 a0_2 a0_3 a0_4 a0_5 a0_6 a0_7 a0_8 l0_9 l0_10 = some r) :
  Calls Try.prog 68 #[.agg #[.int .u8 a0_0, .int .u16 a0_1, .bool a0_2, .bool a0_3, .int .i64 a0_4, .int .u8 a0_5, .int .u8 a0_6, .int .u32 a0_7, .int .u32 a0_8, .slice A0_9 l0_9.length c0_9, .slice A0_10 l0_10.length c0_10]] w fun e w' => e = .returned (.int .i64 r) ∧ Below w.heap.size w w' := by
 have hu43 := Try.underlying43
 have HR0_9 := zam hr0_9
 have HC0_9 := zam hc0_9
 clear hr0_9 hc0_9
 have HR0_10 := zam hr0_10
 have HC0_10 := zam hc0_10
 clear hr0_10 hc0_10
 have HB := zam (Below.refl w.heap.size w)
 have H : ((weftref3_Area.f k l0_9).bind fun t934 => (if t934 = true then ((weftref3_Piece.f a0_4 (l0_10.length : Int) a0_3).bind fun t935 => (if t935 = true then (if (wrap64 ((wrap64 (20 + (l0_9.length : Int))) + (l0_10.length : Int))) > 65535 then (some 37) else (some 0)) else (some 36))) else (some 34))) = some r := h
 clear h
 replace H := Option.bind_eq_some_iff.mp H
 obtain ⟨t934, A20, H⟩ := H
 replace H : (if t934 = true then ((weftref3_Piece.f a0_4 (l0_10.length : Int) a0_3).bind fun t935 => (if t935 = true then (if (wrap64 ((wrap64 (20 + (l0_9.length : Int))) + (l0_10.length : Int))) > 65535 then (some 37) else (some 0)) else (some 36))) else (some 34)) = some r := H
 have A2 := zam A20
 clear A20
 by_cases c3 : t934 = true
 ·
  subst c3
  have H1 : ((weftref3_Piece.f a0_4 (l0_10.length : Int) a0_3).bind fun t935 => (if t935 = true then (if (wrap64 ((wrap64 (20 + (l0_9.length : Int))) + (l0_10.length : Int))) > 65535 then (some 37) else (some 0)) else (some 36))) = some r := by rw [if_pos rfl] at H; exact H
  clear H
  have H := H1
  clear H1
  replace H := Option.bind_eq_some_iff.mp H
  obtain ⟨t935, A40, H⟩ := H
  replace H : (if t935 = true then (if (wrap64 ((wrap64 (20 + (l0_9.length : Int))) + (l0_10.length : Int))) > 65535 then (some 37) else (some 0)) else (some 36)) = some r := H
  have A4 := zam A40
  clear A40
  by_cases c5 : t935 = true
  ·
   subst c5
   have H1 : (if (wrap64 ((wrap64 (20 + (l0_9.length : Int))) + (l0_10.length : Int))) > 65535 then (some 37) else (some 0)) = some r := by rw [if_pos rfl] at H; exact H
   clear H
   have H := H1
   clear H1
   by_cases c6 : (wrap64 ((wrap64 (20 + (l0_9.length : Int))) + (l0_10.length : Int))) > 65535
   ·
    rw [if_pos c6] at H
    have c6b0 : decide (65535 < (wrap64 ((wrap64 (20 + (l0_9.length : Int))) + (l0_10.length : Int)))) = true := decide_eq_true c6
    clear c6
    obtain rfl := Option.some.inj H
    go_enter Try.func68, Try.ntmps68
    go_wp2_with (first | ((with_reducible refine gate_dst (N := 1) rfl ?_); refine box_event ?hg (N := 1) ?hd (cs := #[.int .u8 a0_0, .int .u16 a0_1, .bool a0_2, .bool a0_3, .int .i64 a0_4, .int .u8 a0_5, .int .u8 a0_6, .int .u32 a0_7, .int .u32 a0_8, .slice A0_9 l0_9.length c0_9, .slice A0_10 l0_10.length c0_10]) (t := 43) ?hr ?_; (case hd => rfl); (case hg => rfl); (case hr => first | (go_simp; done) | (go_simp; rfl)); intro gb933 hg w7 hbox hb; have n0_ := zam (below_step zqxb20_0 hb); have n1_ := zam (hbox); have n2_ := zam ((by rw [hg]; exact (below_size zqxb20_0) : w.heap.size ≤ gb933)); have n3_ := zam ((by rw [hg]; exact (below_size zqxb20_0) : w.heap.size ≤ gb933)); clear HB; have HB := n0_; have BK933 := n1_; have GW933 := n2_; have GE933 := n3_; clear n0_ n1_ n2_ n3_; clear hb hbox hg; have hcz8_0 : w7.cell? ⟨gb933, 0, none⟩ = some (.int .u8 a0_0) := (zbc BK933.out 0).trans rfl; have hcz8_1 : w7.cell? ⟨gb933, 1, none⟩ = some (.int .u16 a0_1) := (zbc BK933.out 1).trans rfl; have hcz8_2 : w7.cell? ⟨gb933, 2, none⟩ = some (.bool a0_2) := (zbc BK933.out 2).trans rfl; have hcz8_3 : w7.cell? ⟨gb933, 3, none⟩ = some (.bool a0_3) := (zbc BK933.out 3).trans rfl; have hcz8_4 : w7.cell? ⟨gb933, 4, none⟩ = some (.int .i64 a0_4) := (zbc BK933.out 4).trans rfl; have hcz8_5 : w7.cell? ⟨gb933, 5, none⟩ = some (.int .u8 a0_5) := (zbc BK933.out 5).trans rfl; have hcz8_6 : w7.cell? ⟨gb933, 6, none⟩ = some (.int .u8 a0_6) := (zbc BK933.out 6).trans rfl; have hcz8_7 : w7.cell? ⟨gb933, 7, none⟩ = some (.int .u32 a0_7) := (zbc BK933.out 7).trans rfl; have hcz8_8 : w7.cell? ⟨gb933, 8, none⟩ = some (.int .u32 a0_8) := (zbc BK933.out 8).trans rfl; have hcz8_9 : w7.cell? ⟨gb933, 9, none⟩ = some (.slice A0_9 l0_9.length c0_9) := (zbc BK933.out 9).trans rfl; have hcz8_10 : w7.cell? ⟨gb933, 10, none⟩ = some (.slice A0_10 l0_10.length c0_10) := (zbc BK933.out 10).trans rfl; have hfz8_0 := zbf BK933.out 0; have hfz8_1 := zbf BK933.out 1; have hfz8_2 := zbf BK933.out 2; have hfz8_3 := zbf BK933.out 3; have hfz8_4 := zbf BK933.out 4; have hfz8_5 := zbf BK933.out 5; have hfz8_6 := zbf BK933.out 6; have hfz8_7 := zbf BK933.out 7; have hfz8_8 := zbf BK933.out 8; have hfz8_9 := zbf BK933.out 9; have hfz8_10 := zbf BK933.out 10) | ((with_reducible refine gate_callee (f := 74) rfl ?_); refine goesL_ (some 6) rfl rfl Try.func74 (by kernel_rfl) rfl #[.slice A0_9 l0_9.length c0_9] rfl zqxb20_1 ?_; (with_reducible refine (weftref3_Area.calls k _ _ l0_9 true _ ?side1 ?side2 A2.out).mono ?_); (case side1 => repeat (first | exact (Kd.C_below HR0_9.out HB.out) | (with_reducible refine Kd.C_alloc ?_ _) | (with_reducible refine Kd.C_drewN ?_ _) | (with_reducible refine Kd.C_drew ?_))); (case side2 => exact HC0_9.out); rintro e w' ⟨rfl, ⟨nd, rfl⟩⟩; refine ⟨_, rfl, ?_⟩) | ((with_reducible refine gate_callee (f := 79) rfl ?_); refine goesL_ (some 17) rfl rfl Try.func79 (by kernel_rfl) rfl #[.int .i64 a0_4, .int .i64 (l0_10.length : Int), .bool a0_3] rfl zqxb20_1 ?_; (with_reducible refine (weftref3_Piece.calls a0_4 (l0_10.length : Int) a0_3 true _ A4.out).mono ?_); rintro e w' ⟨rfl, ⟨nd, rfl⟩⟩; refine ⟨_, rfl, ?_⟩))
    go_ret
    exact ⟨by first | rfl | (simp [errW_none, errW_some] <;> rfl) | (simp [*, errW_none, errW_some] <;> rfl), by repeat (first | (with_reducible first | exact HB.out | apply below_alloc | apply pw_below_drewN | apply below_drew1 | refine below_set ?_ GE933.out) | exact HB.out)⟩
   ·
    rw [if_neg c6] at H
    have c6b0 : decide (65535 < (wrap64 ((wrap64 (20 + (l0_9.length : Int))) + (l0_10.length : Int)))) = false := decide_eq_false c6
    clear c6
    obtain rfl := Option.some.inj H
    go_enter Try.func68, Try.ntmps68
    go_wp2_with (first | ((with_reducible refine gate_dst (N := 1) rfl ?_); refine box_event ?hg (N := 1) ?hd (cs := #[.int .u8 a0_0, .int .u16 a0_1, .bool a0_2, .bool a0_3, .int .i64 a0_4, .int .u8 a0_5, .int .u8 a0_6, .int .u32 a0_7, .int .u32 a0_8, .slice A0_9 l0_9.length c0_9, .slice A0_10 l0_10.length c0_10]) (t := 43) ?hr ?_; (case hd => rfl); (case hg => rfl); (case hr => first | (go_simp; done) | (go_simp; rfl)); intro gb933 hg w9 hbox hb; have n0_ := zam (below_step zqxb20_0 hb); have n1_ := zam (hbox); have n2_ := zam ((by rw [hg]; exact (below_size zqxb20_0) : w.heap.size ≤ gb933)); have n3_ := zam ((by rw [hg]; exact (below_size zqxb20_0) : w.heap.size ≤ gb933)); clear HB; have HB := n0_; have BK933 := n1_; have GW933 := n2_; have GE933 := n3_; clear n0_ n1_ n2_ n3_; clear hb hbox hg; have hcz10_0 : w9.cell? ⟨gb933, 0, none⟩ = some (.int .u8 a0_0) := (zbc BK933.out 0).trans rfl; have hcz10_1 : w9.cell? ⟨gb933, 1, none⟩ = some (.int .u16 a0_1) := (zbc BK933.out 1).trans rfl; have hcz10_2 : w9.cell? ⟨gb933, 2, none⟩ = some (.bool a0_2) := (zbc BK933.out 2).trans rfl; have hcz10_3 : w9.cell? ⟨gb933, 3, none⟩ = some (.bool a0_3) := (zbc BK933.out 3).trans rfl; have hcz10_4 : w9.cell? ⟨gb933, 4, none⟩ = some (.int .i64 a0_4) := (zbc BK933.out 4).trans rfl; have hcz10_5 : w9.cell? ⟨gb933, 5, none⟩ = some (.int .u8 a0_5) := (zbc BK933.out 5).trans rfl; have hcz10_6 : w9.cell? ⟨gb933, 6, none⟩ = some (.int .u8 a0_6) := (zbc BK933.out 6).trans rfl; have hcz10_7 : w9.cell? ⟨gb933, 7, none⟩ = some (.int .u32 a0_7) := (zbc BK933.out 7).trans rfl; have hcz10_8 : w9.cell? ⟨gb933, 8, none⟩ = some (.int .u32 a0_8) := (zbc BK933.out 8).trans rfl; have hcz10_9 : w9.cell? ⟨gb933, 9, none⟩ = some (.slice A0_9 l0_9.length c0_9) := (zbc BK933.out 9).trans rfl; have hcz10_10 : w9.cell? ⟨gb933, 10, none⟩ = some (.slice A0_10 l0_10.length c0_10) := (zbc BK933.out 10).trans rfl; have hfz10_0 := zbf BK933.out 0; have hfz10_1 := zbf BK933.out 1; have hfz10_2 := zbf BK933.out 2; have hfz10_3 := zbf BK933.out 3; have hfz10_4 := zbf BK933.out 4; have hfz10_5 := zbf BK933.out 5; have hfz10_6 := zbf BK933.out 6; have hfz10_7 := zbf BK933.out 7; have hfz10_8 := zbf BK933.out 8; have hfz10_9 := zbf BK933.out 9; have hfz10_10 := zbf BK933.out 10) | ((with_reducible refine gate_callee (f := 74) rfl ?_); refine goesL_ (some 6) rfl rfl Try.func74 (by kernel_rfl) rfl #[.slice A0_9 l0_9.length c0_9] rfl zqxb20_1 ?_; (with_reducible refine (weftref3_Area.calls k _ _ l0_9 true _ ?side1 ?side2 A2.out).mono ?_); (case side1 => repeat (first | exact (Kd.C_below HR0_9.out HB.out) | (with_reducible refine Kd.C_alloc ?_ _) | (with_reducible refine Kd.C_drewN ?_ _) | (with_reducible refine Kd.C_drew ?_))); (case side2 => exact HC0_9.out); rintro e w' ⟨rfl, ⟨nd, rfl⟩⟩; refine ⟨_, rfl, ?_⟩) | ((with_reducible refine gate_callee (f := 79) rfl ?_); refine goesL_ (some 17) rfl rfl Try.func79 (by kernel_rfl) rfl #[.int .i64 a0_4, .int .i64 (l0_10.length : Int), .bool a0_3] rfl zqxb20_1 ?_; (with_reducible refine (weftref3_Piece.calls a0_4 (l0_10.length : Int) a0_3 true _ A4.out).mono ?_); rintro e w' ⟨rfl, ⟨nd, rfl⟩⟩; refine ⟨_, rfl, ?_⟩))
    go_ret
    exact ⟨by first | rfl | (simp [errW_none, errW_some] <;> rfl) | (simp [*, errW_none, errW_some] <;> rfl), by repeat (first | (with_reducible first | exact HB.out | apply below_alloc | apply pw_below_drewN | apply below_drew1 | refine below_set ?_ GE933.out) | exact HB.out)⟩
  ·
   replace c5 := Bool.eq_false_iff.mpr c5
   subst c5
   have H1 : (some 36) = some r := by rw [if_neg (show ¬ (false = true) by decide)] at H; exact H
   clear H
   have H := H1
   clear H1
   obtain rfl := Option.some.inj H
   go_enter Try.func68, Try.ntmps68
   go_wp2_with (first | ((with_reducible refine gate_dst (N := 1) rfl ?_); refine box_event ?hg (N := 1) ?hd (cs := #[.int .u8 a0_0, .int .u16 a0_1, .bool a0_2, .bool a0_3, .int .i64 a0_4, .int .u8 a0_5, .int .u8 a0_6, .int .u32 a0_7, .int .u32 a0_8, .slice A0_9 l0_9.length c0_9, .slice A0_10 l0_10.length c0_10]) (t := 43) ?hr ?_; (case hd => rfl); (case hg => rfl); (case hr => first | (go_simp; done) | (go_simp; rfl)); intro gb933 hg w11 hbox hb; have n0_ := zam (below_step zqxb20_0 hb); have n1_ := zam (hbox); have n2_ := zam ((by rw [hg]; exact (below_size zqxb20_0) : w.heap.size ≤ gb933)); have n3_ := zam ((by rw [hg]; exact (below_size zqxb20_0) : w.heap.size ≤ gb933)); clear HB; have HB := n0_; have BK933 := n1_; have GW933 := n2_; have GE933 := n3_; clear n0_ n1_ n2_ n3_; clear hb hbox hg; have hcz12_0 : w11.cell? ⟨gb933, 0, none⟩ = some (.int .u8 a0_0) := (zbc BK933.out 0).trans rfl; have hcz12_1 : w11.cell? ⟨gb933, 1, none⟩ = some (.int .u16 a0_1) := (zbc BK933.out 1).trans rfl; have hcz12_2 : w11.cell? ⟨gb933, 2, none⟩ = some (.bool a0_2) := (zbc BK933.out 2).trans rfl; have hcz12_3 : w11.cell? ⟨gb933, 3, none⟩ = some (.bool a0_3) := (zbc BK933.out 3).trans rfl; have hcz12_4 : w11.cell? ⟨gb933, 4, none⟩ = some (.int .i64 a0_4) := (zbc BK933.out 4).trans rfl; have hcz12_5 : w11.cell? ⟨gb933, 5, none⟩ = some (.int .u8 a0_5) := (zbc BK933.out 5).trans rfl; have hcz12_6 : w11.cell? ⟨gb933, 6, none⟩ = some (.int .u8 a0_6) := (zbc BK933.out 6).trans rfl; have hcz12_7 : w11.cell? ⟨gb933, 7, none⟩ = some (.int .u32 a0_7) := (zbc BK933.out 7).trans rfl; have hcz12_8 : w11.cell? ⟨gb933, 8, none⟩ = some (.int .u32 a0_8) := (zbc BK933.out 8).trans rfl; have hcz12_9 : w11.cell? ⟨gb933, 9, none⟩ = some (.slice A0_9 l0_9.length c0_9) := (zbc BK933.out 9).trans rfl; have hcz12_10 : w11.cell? ⟨gb933, 10, none⟩ = some (.slice A0_10 l0_10.length c0_10) := (zbc BK933.out 10).trans rfl; have hfz12_0 := zbf BK933.out 0; have hfz12_1 := zbf BK933.out 1; have hfz12_2 := zbf BK933.out 2; have hfz12_3 := zbf BK933.out 3; have hfz12_4 := zbf BK933.out 4; have hfz12_5 := zbf BK933.out 5; have hfz12_6 := zbf BK933.out 6; have hfz12_7 := zbf BK933.out 7; have hfz12_8 := zbf BK933.out 8; have hfz12_9 := zbf BK933.out 9; have hfz12_10 := zbf BK933.out 10) | ((with_reducible refine gate_callee (f := 74) rfl ?_); refine goesL_ (some 6) rfl rfl Try.func74 (by kernel_rfl) rfl #[.slice A0_9 l0_9.length c0_9] rfl zqxb20_1 ?_; (with_reducible refine (weftref3_Area.calls k _ _ l0_9 true _ ?side1 ?side2 A2.out).mono ?_); (case side1 => repeat (first | exact (Kd.C_below HR0_9.out HB.out) | (with_reducible refine Kd.C_alloc ?_ _) | (with_reducible refine Kd.C_drewN ?_ _) | (with_reducible refine Kd.C_drew ?_))); (case side2 => exact HC0_9.out); rintro e w' ⟨rfl, ⟨nd, rfl⟩⟩; refine ⟨_, rfl, ?_⟩) | ((with_reducible refine gate_callee (f := 79) rfl ?_); refine goesL_ (some 17) rfl rfl Try.func79 (by kernel_rfl) rfl #[.int .i64 a0_4, .int .i64 (l0_10.length : Int), .bool a0_3] rfl zqxb20_1 ?_; (with_reducible refine (weftref3_Piece.calls a0_4 (l0_10.length : Int) a0_3 false _ A4.out).mono ?_); rintro e w' ⟨rfl, ⟨nd, rfl⟩⟩; refine ⟨_, rfl, ?_⟩))
   go_ret
   exact ⟨by first | rfl | (simp [errW_none, errW_some] <;> rfl) | (simp [*, errW_none, errW_some] <;> rfl), by repeat (first | (with_reducible first | exact HB.out | apply below_alloc | apply pw_below_drewN | apply below_drew1 | refine below_set ?_ GE933.out) | exact HB.out)⟩
 ·
  replace c3 := Bool.eq_false_iff.mpr c3
  subst c3
  have H1 : (some 34) = some r := by rw [if_neg (show ¬ (false = true) by decide)] at H; exact H
  clear H
  have H := H1
  clear H1
  obtain rfl := Option.some.inj H
  go_enter Try.func68, Try.ntmps68
  go_wp2_with (first | ((with_reducible refine gate_dst (N := 1) rfl ?_); refine box_event ?hg (N := 1) ?hd (cs := #[.int .u8 a0_0, .int .u16 a0_1, .bool a0_2, .bool a0_3, .int .i64 a0_4, .int .u8 a0_5, .int .u8 a0_6, .int .u32 a0_7, .int .u32 a0_8, .slice A0_9 l0_9.length c0_9, .slice A0_10 l0_10.length c0_10]) (t := 43) ?hr ?_; (case hd => rfl); (case hg => rfl); (case hr => first | (go_simp; done) | (go_simp; rfl)); intro gb933 hg w13 hbox hb; have n0_ := zam (below_step zqxb20_0 hb); have n1_ := zam (hbox); have n2_ := zam ((by rw [hg]; exact (below_size zqxb20_0) : w.heap.size ≤ gb933)); have n3_ := zam ((by rw [hg]; exact (below_size zqxb20_0) : w.heap.size ≤ gb933)); clear HB; have HB := n0_; have BK933 := n1_; have GW933 := n2_; have GE933 := n3_; clear n0_ n1_ n2_ n3_; clear hb hbox hg; have hcz14_0 : w13.cell? ⟨gb933, 0, none⟩ = some (.int .u8 a0_0) := (zbc BK933.out 0).trans rfl; have hcz14_1 : w13.cell? ⟨gb933, 1, none⟩ = some (.int .u16 a0_1) := (zbc BK933.out 1).trans rfl; have hcz14_2 : w13.cell? ⟨gb933, 2, none⟩ = some (.bool a0_2) := (zbc BK933.out 2).trans rfl; have hcz14_3 : w13.cell? ⟨gb933, 3, none⟩ = some (.bool a0_3) := (zbc BK933.out 3).trans rfl; have hcz14_4 : w13.cell? ⟨gb933, 4, none⟩ = some (.int .i64 a0_4) := (zbc BK933.out 4).trans rfl; have hcz14_5 : w13.cell? ⟨gb933, 5, none⟩ = some (.int .u8 a0_5) := (zbc BK933.out 5).trans rfl; have hcz14_6 : w13.cell? ⟨gb933, 6, none⟩ = some (.int .u8 a0_6) := (zbc BK933.out 6).trans rfl; have hcz14_7 : w13.cell? ⟨gb933, 7, none⟩ = some (.int .u32 a0_7) := (zbc BK933.out 7).trans rfl; have hcz14_8 : w13.cell? ⟨gb933, 8, none⟩ = some (.int .u32 a0_8) := (zbc BK933.out 8).trans rfl; have hcz14_9 : w13.cell? ⟨gb933, 9, none⟩ = some (.slice A0_9 l0_9.length c0_9) := (zbc BK933.out 9).trans rfl; have hcz14_10 : w13.cell? ⟨gb933, 10, none⟩ = some (.slice A0_10 l0_10.length c0_10) := (zbc BK933.out 10).trans rfl; have hfz14_0 := zbf BK933.out 0; have hfz14_1 := zbf BK933.out 1; have hfz14_2 := zbf BK933.out 2; have hfz14_3 := zbf BK933.out 3; have hfz14_4 := zbf BK933.out 4; have hfz14_5 := zbf BK933.out 5; have hfz14_6 := zbf BK933.out 6; have hfz14_7 := zbf BK933.out 7; have hfz14_8 := zbf BK933.out 8; have hfz14_9 := zbf BK933.out 9; have hfz14_10 := zbf BK933.out 10) | ((with_reducible refine gate_callee (f := 74) rfl ?_); refine goesL_ (some 6) rfl rfl Try.func74 (by kernel_rfl) rfl #[.slice A0_9 l0_9.length c0_9] rfl zqxb20_1 ?_; (with_reducible refine (weftref3_Area.calls k _ _ l0_9 false _ ?side1 ?side2 A2.out).mono ?_); (case side1 => repeat (first | exact (Kd.C_below HR0_9.out HB.out) | (with_reducible refine Kd.C_alloc ?_ _) | (with_reducible refine Kd.C_drewN ?_ _) | (with_reducible refine Kd.C_drew ?_))); (case side2 => exact HC0_9.out); rintro e w' ⟨rfl, ⟨nd, rfl⟩⟩; refine ⟨_, rfl, ?_⟩))
  go_ret
  exact ⟨by first | rfl | (simp [errW_none, errW_some] <;> rfl) | (simp [*, errW_none, errW_some] <;> rfl), by repeat (first | (with_reducible first | exact HB.out | apply below_alloc | apply pw_below_drewN | apply below_drew1 | refine below_set ?_ GE933.out) | exact HB.out)⟩

/-! ### weftref3_put2: function 80 -/
def weftref3_put2.f (l0 : List Int) (a1 : Int) : Option (List Int) := (some (([(wrap64 (Int.tdiv a1 256)) % 256, (Int.tmod a1 256) % 256] : List Int) : List Int)).bind fun y936 => (if l0.length + y936.length < 140737488355328 then (some (l0 ++ y936)) else (none))
set_option maxHeartbeats 8000000 in
set_option maxRecDepth 100000 in
theorem weftref3_put2.calls (P0_ : Nat → Prop) (u9000_ : Value) (l0 : List Int) (a1 : Int) (r : List Int) (w0 w : World) (hB : Below w0.heap.size w0 w) (ho0 : Kd.R (Kd.int .u8) 5 w w0.heap.size P0_ u9000_ l0) (h : weftref3_put2.f l0 a1 = some r) :
  Calls Try.prog 80 #[u9000_, .int .i64 a1] w fun e w' => ∃ v0_ : Value, e = .returned (v0_) ∧ Kd.R (Kd.int .u8) 5 w' w0.heap.size (fun k_ => (P0_ k_ ∨ w.heap.size ≤ k_)) v0_ r ∧ Below w0.heap.size w0 w' ∧ Kept w w' (fun k_ => P0_ k_) := by
 have HO0 := zam (show Kd.R (Kd.int .u8) 5 w w0.heap.size (fun k_ => (P0_ k_ ∨ w.heap.size ≤ k_)) u9000_ l0 from Kd.R_mono ho0 (fun k_ hk => (.inl hk)))
 have HK := zam (Kept.refl w (fun k_ => P0_ k_))
 have HW0 := zam hB.size
 have HB := zam hB
 clear hB
 have H : ((some (([(wrap64 (Int.tdiv a1 256)) % 256, (Int.tmod a1 256) % 256] : List Int) : List Int)).bind fun y936 => (if l0.length + y936.length < 140737488355328 then (some (l0 ++ y936)) else (none))) = some r := h
 clear h
 obtain ⟨y936, hy936⟩ : ∃ y_ : List Int, y_ = (([(wrap64 (Int.tdiv a1 256)) % 256, (Int.tmod a1 256) % 256] : List Int)) := ⟨_, rfl⟩
 replace H : (if l0.length + y936.length < 140737488355328 then (some (l0 ++ y936)) else (none)) = some r := by first | (rw [hy936]; with_reducible exact H) | (have H2_ := (Option.bind_some _ _).symm.trans H; rw [hy936]; with_reducible exact H2_) | (have H2_ := (Option.bind_some _ _).symm.trans H; with_reducible exact H2_) | with_reducible exact H | (rw [hy936]; exact H) | exact H
 have Ny936 := zam hy936
 clear hy936
 by_cases c3 : l0.length + y936.length < 140737488355328
 ·
  rw [if_pos c3] at H
  have LMc3 := zam c3
  clear c3
  obtain ⟨y939, hy939⟩ : ∃ y_ : List Int, y_ = (l0 ++ y936) := ⟨_, rfl⟩
  replace H : (some y939) = some r := by first | (rw [hy939]; with_reducible exact H) | (have H2_ := (Option.bind_some _ _).symm.trans H; rw [hy939]; with_reducible exact H2_) | (have H2_ := (Option.bind_some _ _).symm.trans H; with_reducible exact H2_) | with_reducible exact H | (rw [hy939]; exact H) | exact H
  have Ny939 := zam hy939
  clear hy939
  obtain rfl := Option.some.inj H
  go_enter Try.func80, Try.ntmps80
  go_wp2_with (first | ((with_reducible refine gate_dst (N := 12) rfl ?_); refine Kd.R_lit (Kd.int .u8) _ 5 ?hg (N := 12) ?hd (xs := ([(wrap64 (Int.tdiv a1 256)) % 256, (Int.tmod a1 256) % 256] : List Int)) (inner := [.int .u8 ((wrap64 (Int.tdiv a1 256)) % 256), .int .u8 ((Int.tmod a1 256) % 256)]) (ok := fun _ => True) (okp := fun _ => True) ?hr ?hp (fun _ hk => hk) trivial (Below.refl _ _) (Nat.le_refl _) (by simp) ?_; (case hd => rfl); (case hg => rfl); (case hr => first | (go_simp; done) | (go_simp; rfl)); (case hp => exact (Reps.one (show Kd.M (Kd.int .u8) _ _ _ ((wrap64 (Int.tdiv a1 256)) % 256) [.int .u8 ((wrap64 (Int.tdiv a1 256)) % 256)] from rfl) (Reps.one (show Kd.M (Kd.int .u8) _ _ _ ((Int.tmod a1 256) % 256) [.int .u8 ((Int.tmod a1 256) % 256)] from rfl) (Reps.none _ _)))); intro v937 w4 ho5 hb hg_ hnew_; clear hg_ hnew_; (first | rw [← Ny936.out] at ho5 | (simp only [Int.reduceToNat] at ho5; rw [← Ny936.out] at ho5)); have n0_ := zam (Kd.R_elder' zqxb20_2 (Kd.R_base ho5) hb); have n1_ := zam (Kd.R_lower (Kd.R_new' (Kd.R_newM (M := fun k_ => (P0_ k_ ∨ w.heap.size ≤ k_)) ho5 zqxb20_3 (fun k_ h_ => .inr h_)) (Kd.R_lt zqxb20_2)) (below_size zqxb20_0)); have n2_ := zam (Kept.below (S := (fun k_ => P0_ k_)) zqxb20_4 hb); have n3_ := zam (below_step zqxb20_0 hb); clear HO0; clear HK; clear HB; have HO0 := n0_; have HO938 := n1_; have HK := n2_; have HB := n3_; clear n0_ n1_ n2_ n3_; clear hb ho5; obtain ⟨Ao7, co7, eo7⟩ := Kd.R_slice HO938.out; subst eo7) | ((with_reducible refine gate_builtin (b := .append) (xs := #[.tmp 5, .tmp 12]) rfl ?_); at_builtin; refine Kd.R_append_rows (Kd.int .u8) (w0 := w0) w0.heap.size rfl (.tmp 5) (.tmp 12) 24 5 (.int .u8 0) 1 rfl Try.underlying24 info5 rfl (by decide) (by omega) u9000_ l0 y936 _ _ _ (fun k_ => (P0_ k_ ∨ w.heap.size ≤ k_) ∧ some k_ ≠ (.slice Ao7 y936.length co7 : Value).ownBlock) (fun _ => False) rfl rfl ?aO ?aR (fun _ _ h => h) (fun _ h => h.elim) ?aF ?aB ?aS ?aL ?_; (case aR => repeat (first | exact (Kd.R_reads' HO938.out).2.2 | (with_reducible refine Kd.C_alloc ?_ _) | (with_reducible refine Kd.C_drewN ?_ _) | (with_reducible refine Kd.C_drew ?_))); (case aB => exact zqxb20_0); (case aF => exact (fun k_ hk => ⟨(.inr (Nat.le_trans zqxb20_3 hk)), Kd.fresh' (Kd.R_lt (by (with_reducible repeat (first | apply Kd.R_alloc | apply Kd.R_drewN | apply Kd.R_drew)); exact HO938.out)) k_ hk⟩)); (case aO => exact zqxb20_2); (case aS => exact (below_size zqxb20_0)); (case aL => have := LMc3.out; omega); intro v940 w6 ho hb hg hat; rw [← Ny939.out] at ho; have n0_ := zam (Kd.R_after (ok := (fun k_ => (P0_ k_ ∨ w.heap.size ≤ k_))) (by (with_reducible repeat (first | apply Kd.R_alloc | apply Kd.R_drewN | apply Kd.R_drew)); exact Kd.R_mono HO938.out (fun _ hk => ⟨hk.1.1, hk.2⟩)) hg hat); have n1_ := zam (hb); have n2_ := zam (Kept.of_grown (S := (fun k_ => P0_ k_)) hg zqxb20_4 (fun k_ e_ => (HO0.out.1 k_ e_).1)); have n3_ := zam (ho); clear HO938; clear HB; clear HK; clear HO0; have HO938 := n0_; have HB := n1_; have HK := n2_; have HO941 := n3_; clear n0_ n1_ n2_ n3_; clear ho hb hg hat))
  go_ret
  exact ⟨_, by first | rfl | (simp [errW_none, errW_some] <;> rfl) | (simp [*, errW_none, errW_some] <;> rfl), by (with_reducible repeat (first | apply Kd.R_alloc | apply Kd.R_drewN | apply Kd.R_drew)); exact Kd.R_mono HO941.out (fun _ hk => hk.1), by repeat (first | (with_reducible first | exact HB.out | apply below_alloc | apply pw_below_drewN | apply below_drew1) | exact HB.out), by repeat (first | (with_reducible first | exact HK.out | apply Kept.alloc | apply Kept.drewN | apply Kept.drew) | exact HK.out)⟩
 ·
  rw [if_neg c3] at H
  exact absurd H (by simp)

end Go.Proofs.Ytbacmhegalncjaa.XB
