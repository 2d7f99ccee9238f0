-- printed by a program of this session (wip/xprint), out of the translation; Lean checks it
import Derived.Test.YtbacmhegalncjaaQIXBx0
import Derived.Test.YtbacmhegalncjaaQIXBx19
import Derived.Test.YtbacmhegalncjaaQIXBx20
import Derived.Test.YtbacmhegalncjaaQIXBx21
namespace Go.Proofs.Ytbacmhegalncjaa.XB
open Go.RowKit Go.Proofs.YtbacmhegalncjaaW.PrintWords Go.Proofs.YtbacmhegalncjaaW.PrintLast Go.Proofs.YtbacmhegalncjaaW.PrintMore Go.Proofs.YtbacmhegalncjaaX
theorem zqxb22_7 {P : Prop} (h : P := by first | rfl | (simp; done) | (simp [*]; done)) : P := h
theorem zqxb22_6 {P : Prop} (h : P := by repeat (first | (with_reducible exact HR991.out) | (with_reducible refine Kd.C_alloc ?_ _) | (with_reducible refine Kd.C_drewN ?_ _) | (with_reducible refine Kd.C_drew ?_) | exact HR991.out)) : P := h
theorem zqxb22_5 {P : Prop} (h : P := by (with_reducible repeat (first | apply Kd.R_alloc | apply Kd.R_drewN | apply Kd.R_drew)); exact HO987.out) : P := h
theorem zqxb22_4 {P : Prop} (h : P := by first | (with_reducible assumption) | assumption) : P := h
theorem zqxb22_3 {P : Prop} (h : P := by repeat (first | (with_reducible first | exact HB.out | apply below_alloc | apply pw_below_drewN | apply below_drew1) | exact HB.out)) : P := h
theorem zqxb22_2 {P : Prop} (h : P := by (try simp only [List.map_toArray, List.map_cons, List.map_nil]); first | done | rfl | (simp only [List.length_drop, List.length_take]; rfl)) : P := h
theorem zqxb22_1 {P : Prop} (h : P := by repeat (first | (with_reducible first | exact HB.out | apply below_alloc | apply pw_below_drewN | apply below_drew1 | refine below_set ?_ GE983.out) | exact HB.out)) : P := h
theorem zqxb22_0 {P : Prop} (h : P := by first | (with_reducible exact BK983.out) | (with_reducible exact zdn BK983.out _) | (with_reducible exact zdr BK983.out) | ((with_reducible repeat (first | refine zdn ?_ _ | refine zdr ?_ | refine blk_alloc ?_ _)); exact BK983.out)) : P := h
attribute [local go_sem] max2_int min2_int max_two min_two max_three min_three max_four min_four   -- for this text's walks alone
set_option linter.unusedVariables false
set_option linter.unusedSimpArgs false

/-! ### weftref3_Build: function 53 -/
def weftref3_Build.l0 : Nat → List Int → Int → Int → Int → Bool → Bool → Int → Int → Int → Int → Int → List Int → List Int → Option (List Int × Int)
 | 0, _, _, _, _, _, _, _, _, _, _, _, _, _ => none
 | k + 1, x8, x9, x984000, x984001, x984002, x984003, x984004, x984005, x984006, x984007, x984008, x984009, x984010 => if x9 < (x984010.length : Int) then (if 0 ≤ x9 then (if x8.length < 140737488355328 then (weftref3_Build.l0 k (x8 ++ [rd x984010 x9]) (wrap64 (x9 + 1)) x984000 x984001 x984002 x984003 x984004 x984005 x984006 x984007 x984008 x984009 x984010) else (none)) else (none)) else (some (x8, 0))
def weftref3_Build.f (k : Nat) (a0_0 : Int) (a0_1 : Int) (a0_2 : Bool) (a0_3 : Bool) (a0_4 : Int) (a0_5 : Int) (a0_6 : Int) (a0_7 : Int) (a0_8 : Int) (l0_9 : List Int) (l0_10 : List Int) : Option (List Int × Int) := (weftref3_Refused.f k a0_0 a0_1 a0_2 a0_3 a0_4 a0_5 a0_6 a0_7 a0_8 l0_9 l0_10).bind fun t984 => (if t984 = 0 then ((weftref3_header.f k a0_0 a0_1 a0_2 a0_3 a0_4 a0_5 a0_6 a0_7 a0_8 l0_9 (wrap64 ((wrap64 (20 + (l0_9.length : Int))) + (l0_10.length : Int))) 0).bind fun t985 => ((weftref3_Sum.f k (([t985] : List (List Int)))).bind fun t992 => ((weftref3_header.f k a0_0 a0_1 a0_2 a0_3 a0_4 a0_5 a0_6 a0_7 a0_8 l0_9 (wrap64 ((wrap64 (20 + (l0_9.length : Int))) + (l0_10.length : Int))) t992).bind fun t993 => (weftref3_Build.l0 k t993 0 a0_0 a0_1 a0_2 a0_3 a0_4 a0_5 a0_6 a0_7 a0_8 l0_9 l0_10)))) else (some (([] : List Int), t984)))
set_option maxHeartbeats 8000000 in
set_option maxRecDepth 100000 in
theorem weftref3_Build.calls (k : Nat) (a0_0 : Int) (a0_1 : Int) (a0_2 : Bool) (a0_3 : Bool) (a0_4 : Int) (a0_5 : Int) (a0_6 : Int) (a0_7 : Int) (a0_8 : Int) (A0_9 : Option Addr) (c0_9 : Nat) (l0_9 : List Int) (A0_10 : Option Addr) (c0_10 : Nat) (l0_10 : List Int) (r1 : List Int) (r2 : Int) (w : World) (hr0_9 : Kd.C (Kd.int .u8) w A0_9 l0_9.length l0_9) (hc0_9 : l0_9.length ≤ c0_9) (hr0_10 : Kd.C (Kd.int .u8) w A0_10 l0_10.length l0_10) (hc0_10 : l0_10.length ≤ c0_10) (h : weftref3_Build.f k a0_0 a0_1 a0_2 a0_3 a0_4 a0_5 a0_6 a0_7 a0_8 l0_9 l0_10 = some (r1, r2)) :
  Calls Try.prog 53 #[.agg #[.int .u8 a0_0, .int .u16 a0_1, .bool a0_2, .bool a0_3, .int .i64 a0_4, .int .u8 a0_5, .int .u8 a0_6, .int .u32 a0_7, .int .u32 a0_8, .slice A0_9 l0_9.length c0_9, .slice A0_10 l0_10.length c0_10]] w fun e w' => ∃ v0_ : Value, e = .returned (.tuple #[v0_, .int .i64 r2]) ∧ Kd.R (Kd.int .u8) 5 w' w.heap.size (fun _ => True) v0_ r1 ∧ Below w.heap.size w w' := by
 have hu43 := Try.underlying43
 have hu41 := Try.underlying41
 have HR0_9 := zam hr0_9
 have HC0_9 := zam hc0_9
 clear hr0_9 hc0_9
 have HR0_10 := zam hr0_10
 have HC0_10 := zam hc0_10
 clear hr0_10 hc0_10
 have HB := zam (Below.refl w.heap.size w)
 have H : ((weftref3_Refused.f k a0_0 a0_1 a0_2 a0_3 a0_4 a0_5 a0_6 a0_7 a0_8 l0_9 l0_10).bind fun t984 => (if t984 = 0 then ((weftref3_header.f k a0_0 a0_1 a0_2 a0_3 a0_4 a0_5 a0_6 a0_7 a0_8 l0_9 (wrap64 ((wrap64 (20 + (l0_9.length : Int))) + (l0_10.length : Int))) 0).bind fun t985 => ((weftref3_Sum.f k (([t985] : List (List Int)))).bind fun t992 => ((weftref3_header.f k a0_0 a0_1 a0_2 a0_3 a0_4 a0_5 a0_6 a0_7 a0_8 l0_9 (wrap64 ((wrap64 (20 + (l0_9.length : Int))) + (l0_10.length : Int))) t992).bind fun t993 => (weftref3_Build.l0 k t993 0 a0_0 a0_1 a0_2 a0_3 a0_4 a0_5 a0_6 a0_7 a0_8 l0_9 l0_10)))) else (some (([] : List Int), t984)))) = some (r1, r2) := h
 clear h
 replace H := Option.bind_eq_some_iff.mp H
 obtain ⟨t984, A20, H⟩ := H
 replace H : (if t984 = 0 then ((weftref3_header.f k a0_0 a0_1 a0_2 a0_3 a0_4 a0_5 a0_6 a0_7 a0_8 l0_9 (wrap64 ((wrap64 (20 + (l0_9.length : Int))) + (l0_10.length : Int))) 0).bind fun t985 => ((weftref3_Sum.f k (([t985] : List (List Int)))).bind fun t992 => ((weftref3_header.f k a0_0 a0_1 a0_2 a0_3 a0_4 a0_5 a0_6 a0_7 a0_8 l0_9 (wrap64 ((wrap64 (20 + (l0_9.length : Int))) + (l0_10.length : Int))) t992).bind fun t993 => (weftref3_Build.l0 k t993 0 a0_0 a0_1 a0_2 a0_3 a0_4 a0_5 a0_6 a0_7 a0_8 l0_9 l0_10)))) else (some (([] : List Int), t984))) = some (r1, r2) := H
 have A2 := zam A20
 clear A20
 by_cases c3 : t984 = 0
 ·
  rw [if_pos c3] at H
  have c3b0 : (t984 == 0) = true := beq_iff_eq.mpr c3
  have c3b1 : (t984 != 0) = false := bne_eq_false_iff_eq.mpr c3
  clear c3
  replace H := Option.bind_eq_some_iff.mp H
  obtain ⟨t985, A40, H⟩ := H
  replace H : ((weftref3_Sum.f k (([t985] : List (List Int)))).bind fun t992 => ((weftref3_header.f k a0_0 a0_1 a0_2 a0_3 a0_4 a0_5 a0_6 a0_7 a0_8 l0_9 (wrap64 ((wrap64 (20 + (l0_9.length : Int))) + (l0_10.length : Int))) t992).bind fun t993 => (weftref3_Build.l0 k t993 0 a0_0 a0_1 a0_2 a0_3 a0_4 a0_5 a0_6 a0_7 a0_8 l0_9 l0_10))) = some (r1, r2) := H
  have A4 := zam A40
  clear A40
  obtain ⟨y988, hy988⟩ : ∃ y_ : List (List Int), y_ = (([t985] : List (List Int))) := ⟨_, rfl⟩
  replace H : ((weftref3_Sum.f k y988).bind fun t992 => ((weftref3_header.f k a0_0 a0_1 a0_2 a0_3 a0_4 a0_5 a0_6 a0_7 a0_8 l0_9 (wrap64 ((wrap64 (20 + (l0_9.length : Int))) + (l0_10.length : Int))) t992).bind fun t993 => (weftref3_Build.l0 k t993 0 a0_0 a0_1 a0_2 a0_3 a0_4 a0_5 a0_6 a0_7 a0_8 l0_9 l0_10))) = some (r1, r2) := by first | (rw [hy988]; with_reducible exact H) | (have H2_ := (Option.bind_some _ _).symm.trans H; rw [hy988]; with_reducible exact H2_) | (have H2_ := (Option.bind_some _ _).symm.trans H; with_reducible exact H2_) | with_reducible exact H | (rw [hy988]; exact H) | exact H
  have Ny988 := zam hy988
  clear hy988
  replace H := Option.bind_eq_some_iff.mp H
  obtain ⟨t992, A50, H⟩ := H
  replace H : ((weftref3_header.f k a0_0 a0_1 a0_2 a0_3 a0_4 a0_5 a0_6 a0_7 a0_8 l0_9 (wrap64 ((wrap64 (20 + (l0_9.length : Int))) + (l0_10.length : Int))) t992).bind fun t993 => (weftref3_Build.l0 k t993 0 a0_0 a0_1 a0_2 a0_3 a0_4 a0_5 a0_6 a0_7 a0_8 l0_9 l0_10)) = some (r1, r2) := H
  have A5 := zam A50
  clear A50
  replace H := Option.bind_eq_some_iff.mp H
  obtain ⟨t993, A60, H⟩ := H
  replace H : (weftref3_Build.l0 k t993 0 a0_0 a0_1 a0_2 a0_3 a0_4 a0_5 a0_6 a0_7 a0_8 l0_9 l0_10) = some (r1, r2) := H
  have A6 := zam A60
  clear A60
  have H' := zam H
  clear H
  go_enter Try.func53, Try.ntmps53
  go_wp2_with (first | ((with_reducible refine gate_dst (N := 1) rfl ?_); refine box_event ?hg (N := 1) ?hd (cs := #[.int .u8 a0_0, .int .u16 a0_1, .bool a0_2, .bool a0_3, .int .i64 a0_4, .int .u8 a0_5, .int .u8 a0_6, .int .u32 a0_7, .int .u32 a0_8, .slice A0_9 l0_9.length c0_9, .slice A0_10 l0_10.length c0_10]) (t := 43) ?hr ?_; (case hd => rfl); (case hg => rfl); (case hr => first | (go_simp; done) | (go_simp; rfl)); intro gb983 hg w7 hbox hb; have n0_ := zam (below_step zqxb22_3 hb); have n1_ := zam (hbox); have n2_ := zam ((by rw [hg]; exact (below_size zqxb22_3) : w.heap.size ≤ gb983)); have n3_ := zam ((by rw [hg]; exact (below_size zqxb22_3) : w.heap.size ≤ gb983)); clear HB; have HB := n0_; have BK983 := n1_; have GW983 := n2_; have GE983 := n3_; clear n0_ n1_ n2_ n3_; clear hb hbox hg; have hcz8_0 : w7.cell? ⟨gb983, 0, none⟩ = some (.int .u8 a0_0) := (zbc BK983.out 0).trans rfl; have hcz8_1 : w7.cell? ⟨gb983, 1, none⟩ = some (.int .u16 a0_1) := (zbc BK983.out 1).trans rfl; have hcz8_2 : w7.cell? ⟨gb983, 2, none⟩ = some (.bool a0_2) := (zbc BK983.out 2).trans rfl; have hcz8_3 : w7.cell? ⟨gb983, 3, none⟩ = some (.bool a0_3) := (zbc BK983.out 3).trans rfl; have hcz8_4 : w7.cell? ⟨gb983, 4, none⟩ = some (.int .i64 a0_4) := (zbc BK983.out 4).trans rfl; have hcz8_5 : w7.cell? ⟨gb983, 5, none⟩ = some (.int .u8 a0_5) := (zbc BK983.out 5).trans rfl; have hcz8_6 : w7.cell? ⟨gb983, 6, none⟩ = some (.int .u8 a0_6) := (zbc BK983.out 6).trans rfl; have hcz8_7 : w7.cell? ⟨gb983, 7, none⟩ = some (.int .u32 a0_7) := (zbc BK983.out 7).trans rfl; have hcz8_8 : w7.cell? ⟨gb983, 8, none⟩ = some (.int .u32 a0_8) := (zbc BK983.out 8).trans rfl; have hcz8_9 : w7.cell? ⟨gb983, 9, none⟩ = some (.slice A0_9 l0_9.length c0_9) := (zbc BK983.out 9).trans rfl; have hcz8_10 : w7.cell? ⟨gb983, 10, none⟩ = some (.slice A0_10 l0_10.length c0_10) := (zbc BK983.out 10).trans rfl; have hfz8_0 := zbf BK983.out 0; have hfz8_1 := zbf BK983.out 1; have hfz8_2 := zbf BK983.out 2; have hfz8_3 := zbf BK983.out 3; have hfz8_4 := zbf BK983.out 4; have hfz8_5 := zbf BK983.out 5; have hfz8_6 := zbf BK983.out 6; have hfz8_7 := zbf BK983.out 7; have hfz8_8 := zbf BK983.out 8; have hfz8_9 := zbf BK983.out 9; have hfz8_10 := zbf BK983.out 10) | ((with_reducible refine gate_callee (f := 68) rfl ?_); refine goesL_ (some 11) rfl rfl Try.func68 (by kernel_rfl) rfl #[.agg #[.int .u8 a0_0, .int .u16 a0_1, .bool a0_2, .bool a0_3, .int .i64 a0_4, .int .u8 a0_5, .int .u8 a0_6, .int .u32 a0_7, .int .u32 a0_8, .slice A0_9 l0_9.length c0_9, .slice A0_10 l0_10.length c0_10]] rfl zqxb22_2 ?_; (with_reducible refine (weftref3_Refused.calls k a0_0 a0_1 a0_2 a0_3 a0_4 a0_5 a0_6 a0_7 a0_8 _ _ l0_9 _ _ l0_10 t984 _ ?side1 ?side2 ?side3 ?side4 A2.out).mono ?_); (case side1 => repeat (first | exact (Kd.C_below HR0_9.out HB.out) | (with_reducible refine Kd.C_alloc ?_ _) | (with_reducible refine Kd.C_drewN ?_ _) | (with_reducible refine Kd.C_drew ?_))); (case side2 => exact HC0_9.out); (case side3 => repeat (first | exact (Kd.C_below HR0_10.out HB.out) | (with_reducible refine Kd.C_alloc ?_ _) | (with_reducible refine Kd.C_drewN ?_ _) | (with_reducible refine Kd.C_drew ?_))); (case side4 => exact HC0_10.out); rintro e w9 ⟨rfl, hb⟩; refine ⟨_, rfl, ?_⟩; have n0_ := zam (blk_below (g := gb983) (o := .cells #[.int .u8 a0_0, .int .u16 a0_1, .bool a0_2, .bool a0_3, .int .i64 a0_4, .int .u8 a0_5, .int .u8 a0_6, .int .u32 a0_7, .int .u32 a0_8, .slice A0_9 l0_9.length c0_9, .slice A0_10 l0_10.length c0_10] 43 (0, 0)) zqxb22_0 hb); have n1_ := zam (below_step zqxb22_1 hb); clear BK983; clear HB; have BK983 := n0_; have HB := n1_; clear n0_ n1_; (try clear hb); (try clear hb2); (try clear hk); (try clear hi); have hcz10_0 : w9.cell? ⟨gb983, 0, none⟩ = some (.int .u8 a0_0) := (zbc BK983.out 0).trans rfl; have hcz10_1 : w9.cell? ⟨gb983, 1, none⟩ = some (.int .u16 a0_1) := (zbc BK983.out 1).trans rfl; have hcz10_2 : w9.cell? ⟨gb983, 2, none⟩ = some (.bool a0_2) := (zbc BK983.out 2).trans rfl; have hcz10_3 : w9.cell? ⟨gb983, 3, none⟩ = some (.bool a0_3) := (zbc BK983.out 3).trans rfl; have hcz10_4 : w9.cell? ⟨gb983, 4, none⟩ = some (.int .i64 a0_4) := (zbc BK983.out 4).trans rfl; have hcz10_5 : w9.cell? ⟨gb983, 5, none⟩ = some (.int .u8 a0_5) := (zbc BK983.out 5).trans rfl; have hcz10_6 : w9.cell? ⟨gb983, 6, none⟩ = some (.int .u8 a0_6) := (zbc BK983.out 6).trans rfl; have hcz10_7 : w9.cell? ⟨gb983, 7, none⟩ = some (.int .u32 a0_7) := (zbc BK983.out 7).trans rfl; have hcz10_8 : w9.cell? ⟨gb983, 8, none⟩ = some (.int .u32 a0_8) := (zbc BK983.out 8).trans rfl; have hcz10_9 : w9.cell? ⟨gb983, 9, none⟩ = some (.slice A0_9 l0_9.length c0_9) := (zbc BK983.out 9).trans rfl; have hcz10_10 : w9.cell? ⟨gb983, 10, none⟩ = some (.slice A0_10 l0_10.length c0_10) := (zbc BK983.out 10).trans rfl; have hfz10_0 := zbf BK983.out 0; have hfz10_1 := zbf BK983.out 1; have hfz10_2 := zbf BK983.out 2; have hfz10_3 := zbf BK983.out 3; have hfz10_4 := zbf BK983.out 4; have hfz10_5 := zbf BK983.out 5; have hfz10_6 := zbf BK983.out 6; have hfz10_7 := zbf BK983.out 7; have hfz10_8 := zbf BK983.out 8; have hfz10_9 := zbf BK983.out 9; have hfz10_10 := zbf BK983.out 10) | ((with_reducible refine gate_callee (f := 69) rfl ?_); refine goesL_ (some 27) rfl rfl Try.func69 (by kernel_rfl) rfl #[.agg #[.int .u8 a0_0, .int .u16 a0_1, .bool a0_2, .bool a0_3, .int .i64 a0_4, .int .u8 a0_5, .int .u8 a0_6, .int .u32 a0_7, .int .u32 a0_8, .slice A0_9 l0_9.length c0_9], .int .i64 (wrap64 ((wrap64 (20 + (l0_9.length : Int))) + (l0_10.length : Int))), .int .u16 0] rfl zqxb22_2 ?_; (with_reducible refine (weftref3_header.calls k a0_0 a0_1 a0_2 a0_3 a0_4 a0_5 a0_6 a0_7 a0_8 _ _ l0_9 (wrap64 ((wrap64 (20 + (l0_9.length : Int))) + (l0_10.length : Int))) 0 t985 _ ?side1 ?side2 A4.out).mono ?_); (case side1 => repeat (first | exact (Kd.C_below HR0_9.out HB.out) | (with_reducible refine Kd.C_alloc ?_ _) | (with_reducible refine Kd.C_drewN ?_ _) | (with_reducible refine Kd.C_drew ?_))); (case side2 => exact HC0_9.out); rintro e w11 ⟨v986, rfl, ho0, hb⟩; refine ⟨_, rfl, ?_⟩; have n0_ := zam (Kd.R_lower ho0 (below_size zqxb22_1)); have n1_ := zam (blk_below (g := gb983) (o := .cells #[.int .u8 a0_0, .int .u16 a0_1, .bool a0_2, .bool a0_3, .int .i64 a0_4, .int .u8 a0_5, .int .u8 a0_6, .int .u32 a0_7, .int .u32 a0_8, .slice A0_9 l0_9.length c0_9, .slice A0_10 l0_10.length c0_10] 43 (0, 0)) zqxb22_0 hb); have n2_ := zam (below_step zqxb22_1 hb); clear BK983; clear HB; have HO987 := n0_; have BK983 := n1_; have HB := n2_; clear n0_ n1_ n2_; (try clear hb); (try clear hb2); (try clear hk); (try clear hi); (try clear ho0); obtain ⟨Ao12, co12, eo12⟩ := Kd.R_slice HO987.out; subst eo12) | ((with_reducible refine gate_dst (N := 29) rfl ?_); refine lits_event (Kd.slice 5 (Kd.int .u8)) 24 ?hg (N := 29) ?hd (xs := ([t985] : List (List Int))) (inner := [.slice Ao12 t985.length co12]) ?hr ?hp (by simp) ?_; (case hd => rfl); (case hg => rfl); (case hr => first | (go_simp; done) | (go_simp; rfl)); (case hp => exact (Reps.one (show Kd.K (Kd.slice 5 (Kd.int .u8)) _ t985 [.slice Ao12 t985.length co12] from by refine ⟨_, _, rfl, ?_, ?_⟩; (· exact (Kd.R_reads' HO987.out).2.1); (· repeat (first | exact (Kd.R_reads' HO987.out).2.2 | (with_reducible refine Kd.C_alloc ?_ _) | (with_reducible refine Kd.C_drewN ?_ _) | (with_reducible refine Kd.C_drew ?_)))) (Reps.none _ _))); intro v14_ w13 hL_ hb; (first | rw [← Ny988.out] at hL_ | (simp only [Int.reduceToNat] at hL_; rw [← Ny988.out] at hL_)); obtain ⟨A14, c14, rfl, hlr_, hlc_⟩ := hL_; have n0_ := zam (Kd.R_below zqxb22_5 hb); have n1_ := zam (blk_below (g := gb983) (o := .cells #[.int .u8 a0_0, .int .u16 a0_1, .bool a0_2, .bool a0_3, .int .i64 a0_4, .int .u8 a0_5, .int .u8 a0_6, .int .u32 a0_7, .int .u32 a0_8, .slice A0_9 l0_9.length c0_9, .slice A0_10 l0_10.length c0_10] 43 (0, 0)) zqxb22_0 hb); have n2_ := zam (below_step zqxb22_1 hb); have n3_ := zam (hlc_); have n4_ := zam (hlr_); clear HO987; clear BK983; clear HB; have HO987 := n0_; have BK983 := n1_; have HB := n2_; have HR991 := n3_; have HC991 := n4_; clear n0_ n1_ n2_ n3_ n4_; clear hb hlr_ hlc_) | ((with_reducible refine gate_callee (f := 56) rfl ?_); refine goesL_ (some 30) rfl rfl Try.func56 (by kernel_rfl) rfl #[.slice A14 y988.length c14] rfl zqxb22_2 ?_; (with_reducible refine (weftref3_Sum.calls k _ _ y988 t992 _ ?side1 ?side2 A5.out).mono ?_); (case side1 => repeat (first | exact zqxb22_6 | (with_reducible refine Kd.C_alloc ?_ _) | (with_reducible refine Kd.C_drewN ?_ _) | (with_reducible refine Kd.C_drew ?_))); (case side2 => exact HC991.out); rintro e w15 ⟨rfl, hb⟩; refine ⟨_, rfl, ?_⟩; have n0_ := zam (Kd.R_below zqxb22_5 hb); have n1_ := zam (blk_below (g := gb983) (o := .cells #[.int .u8 a0_0, .int .u16 a0_1, .bool a0_2, .bool a0_3, .int .i64 a0_4, .int .u8 a0_5, .int .u8 a0_6, .int .u32 a0_7, .int .u32 a0_8, .slice A0_9 l0_9.length c0_9, .slice A0_10 l0_10.length c0_10] 43 (0, 0)) zqxb22_0 hb); have n2_ := zam (Kd.C_below zqxb22_6 hb); have n3_ := zam (below_step zqxb22_1 hb); clear HO987; clear BK983; clear HR991; clear HB; have HO987 := n0_; have BK983 := n1_; have HR991 := n2_; have HB := n3_; clear n0_ n1_ n2_ n3_; (try clear hb); (try clear hb2); (try clear hk); (try clear hi); have hcz16_0 : w15.cell? ⟨gb983, 0, none⟩ = some (.int .u8 a0_0) := (zbc BK983.out 0).trans rfl; have hcz16_1 : w15.cell? ⟨gb983, 1, none⟩ = some (.int .u16 a0_1) := (zbc BK983.out 1).trans rfl; have hcz16_2 : w15.cell? ⟨gb983, 2, none⟩ = some (.bool a0_2) := (zbc BK983.out 2).trans rfl; have hcz16_3 : w15.cell? ⟨gb983, 3, none⟩ = some (.bool a0_3) := (zbc BK983.out 3).trans rfl; have hcz16_4 : w15.cell? ⟨gb983, 4, none⟩ = some (.int .i64 a0_4) := (zbc BK983.out 4).trans rfl; have hcz16_5 : w15.cell? ⟨gb983, 5, none⟩ = some (.int .u8 a0_5) := (zbc BK983.out 5).trans rfl; have hcz16_6 : w15.cell? ⟨gb983, 6, none⟩ = some (.int .u8 a0_6) := (zbc BK983.out 6).trans rfl; have hcz16_7 : w15.cell? ⟨gb983, 7, none⟩ = some (.int .u32 a0_7) := (zbc BK983.out 7).trans rfl; have hcz16_8 : w15.cell? ⟨gb983, 8, none⟩ = some (.int .u32 a0_8) := (zbc BK983.out 8).trans rfl; have hcz16_9 : w15.cell? ⟨gb983, 9, none⟩ = some (.slice A0_9 l0_9.length c0_9) := (zbc BK983.out 9).trans rfl; have hcz16_10 : w15.cell? ⟨gb983, 10, none⟩ = some (.slice A0_10 l0_10.length c0_10) := (zbc BK983.out 10).trans rfl; have hfz16_0 := zbf BK983.out 0; have hfz16_1 := zbf BK983.out 1; have hfz16_2 := zbf BK983.out 2; have hfz16_3 := zbf BK983.out 3; have hfz16_4 := zbf BK983.out 4; have hfz16_5 := zbf BK983.out 5; have hfz16_6 := zbf BK983.out 6; have hfz16_7 := zbf BK983.out 7; have hfz16_8 := zbf BK983.out 8; have hfz16_9 := zbf BK983.out 9; have hfz16_10 := zbf BK983.out 10) | ((with_reducible refine gate_callee (f := 69) rfl ?_); refine goesL_ (some 35) rfl rfl Try.func69 (by kernel_rfl) rfl #[.agg #[.int .u8 a0_0, .int .u16 a0_1, .bool a0_2, .bool a0_3, .int .i64 a0_4, .int .u8 a0_5, .int .u8 a0_6, .int .u32 a0_7, .int .u32 a0_8, .slice A0_9 l0_9.length c0_9], .int .i64 (wrap64 ((wrap64 (20 + (l0_9.length : Int))) + (l0_10.length : Int))), .int .u16 t992] rfl zqxb22_2 ?_; (with_reducible refine (weftref3_header.calls k a0_0 a0_1 a0_2 a0_3 a0_4 a0_5 a0_6 a0_7 a0_8 _ _ l0_9 (wrap64 ((wrap64 (20 + (l0_9.length : Int))) + (l0_10.length : Int))) t992 t993 _ ?side1 ?side2 A6.out).mono ?_); (case side1 => repeat (first | exact (Kd.C_below HR0_9.out HB.out) | (with_reducible refine Kd.C_alloc ?_ _) | (with_reducible refine Kd.C_drewN ?_ _) | (with_reducible refine Kd.C_drew ?_))); (case side2 => exact HC0_9.out); rintro e w17 ⟨v994, rfl, ho0, hb⟩; refine ⟨_, rfl, ?_⟩; have n0_ := zam (Kd.R_elder' zqxb22_5 (Kd.R_base ho0) hb); have n1_ := zam (Kd.R_lower (Kd.R_new' ho0 (Kd.R_lt zqxb22_5)) (below_size zqxb22_1)); have n2_ := zam (blk_below (g := gb983) (o := .cells #[.int .u8 a0_0, .int .u16 a0_1, .bool a0_2, .bool a0_3, .int .i64 a0_4, .int .u8 a0_5, .int .u8 a0_6, .int .u32 a0_7, .int .u32 a0_8, .slice A0_9 l0_9.length c0_9, .slice A0_10 l0_10.length c0_10] 43 (0, 0)) zqxb22_0 hb); have n3_ := zam (below_step zqxb22_1 hb); clear HO987; clear BK983; clear HB; have HO987 := n0_; have HO995 := n1_; have BK983 := n2_; have HB := n3_; clear n0_ n1_ n2_ n3_; (try clear hb); (try clear hb2); (try clear hk); (try clear hi); (try clear ho0)))
  go_loopg [8, 9] k (fun kq v8 v9 w' => ∃ (x8_1 : List Int) (x9_1 : Int), v9 = .int .i64 x9_1 ∧ Aside0 (weftref3_Build.l0 kq x8_1 x9_1 a0_0 a0_1 a0_2 a0_3 a0_4 a0_5 a0_6 a0_7 a0_8 l0_9 l0_10 = some (r1, r2)) ∧ Aside0 (kq ≤ k) ∧ Aside0 (Kd.R (Kd.int .u8) 5 w' w.heap.size (fun _ => True) v8 x8_1) ∧ Aside0 (w'.heap[gb983]? = some (.cells #[.int .u8 a0_0, .int .u16 a0_1, .bool a0_2, .bool a0_3, .int .i64 a0_4, .int .u8 a0_5, .int .u8 a0_6, .int .u32 a0_7, .int .u32 a0_8, (.slice A0_9 l0_9.length c0_9), (.slice A0_10 l0_10.length c0_10)] 43 (0, 0))) ∧ Aside0 (Below w.heap.size w w'))
  case atStart => exact ⟨(t993), (0), zqxb22_7, H', ⟨Nat.le_refl _⟩, ⟨by (with_reducible repeat (first | apply Kd.R_alloc | apply Kd.R_drewN | apply Kd.R_drew)); exact Kd.R_mono HO995.out (fun _ hk => trivial)⟩, ⟨by first | (with_reducible exact BK983.out) | (with_reducible exact zdn BK983.out _) | (with_reducible exact zdr BK983.out) | ((with_reducible repeat (first | refine zdn ?_ _ | refine zdr ?_ | refine blk_alloc ?_ _)); exact BK983.out)⟩, ⟨by repeat (first | (with_reducible first | exact HB.out | apply below_alloc | apply pw_below_drewN | apply below_drew1 | refine below_set ?_ GE983.out) | exact HB.out)⟩⟩
  case round =>
   clear H'
   try clear c1
   try clear p2
   try clear c3
   try clear c3b0
   try clear c3b1
   try clear c5
   try clear c6
   try clear p6
   try clear c14
   try clear hcz10_0
   try clear hcz10_1
   try clear hcz10_10
   try clear hcz10_2
   try clear hcz10_3
   try clear hcz10_4
   try clear hcz10_5
   try clear hcz10_6
   try clear hcz10_7
   try clear hcz10_8
   try clear hcz10_9
   try clear hcz16_0
   try clear hcz16_1
   try clear hcz16_10
   try clear hcz16_2
   try clear hcz16_3
   try clear hcz16_4
   try clear hcz16_5
   try clear hcz16_6
   try clear hcz16_7
   try clear hcz16_8
   try clear hcz16_9
   try clear hcz8_0
   try clear hcz8_1
   try clear hcz8_10
   try clear hcz8_2
   try clear hcz8_3
   try clear hcz8_4
   try clear hcz8_5
   try clear hcz8_6
   try clear hcz8_7
   try clear hcz8_8
   try clear hcz8_9
   try clear hfz10_0
   try clear hfz10_1
   try clear hfz10_10
   try clear hfz10_2
   try clear hfz10_3
   try clear hfz10_4
   try clear hfz10_5
   try clear hfz10_6
   try clear hfz10_7
   try clear hfz10_8
   try clear hfz10_9
   try clear hfz16_0
   try clear hfz16_1
   try clear hfz16_10
   try clear hfz16_2
   try clear hfz16_3
   try clear hfz16_4
   try clear hfz16_5
   try clear hfz16_6
   try clear hfz16_7
   try clear hfz16_8
   try clear hfz16_9
   try clear hfz8_0
   try clear hfz8_1
   try clear hfz8_10
   try clear hfz8_2
   try clear hfz8_3
   try clear hfz8_4
   try clear hfz8_5
   try clear hfz8_6
   try clear hfz8_7
   try clear hfz8_8
   try clear hfz8_9
   obtain ⟨x8_1, x9_1, rfl, HA, HK1, HO_8, BK983, HB⟩ := hrel
   cases gk with
   | zero => exact absurd HA.out (by simp [weftref3_Build.l0])
   | succ k1 =>
    have H := HA.out
    clear HA
    simp only [weftref3_Build.l0] at H
    by_cases c18 : x9_1 < (l0_10.length : Int)
    ·
     rw [if_pos c18] at H
     have c18b0 : decide (x9_1 < (l0_10.length : Int)) = true := decide_eq_true c18
     clear c18
     by_cases c19 : 0 ≤ x9_1
     ·
      rw [if_pos c19] at H
      have c19b0 : decide (0 ≤ x9_1) = true := decide_eq_true c19
      clear c19
      by_cases c20 : x8_1.length < 140737488355328
      ·
       rw [if_pos c20] at H
       have LMc20 := zam c20
       clear c20
       obtain ⟨y997, hy997⟩ : ∃ y_ : List Int, y_ = (x8_1 ++ [rd l0_10 x9_1]) := ⟨_, rfl⟩
       replace H : (weftref3_Build.l0 k1 y997 (wrap64 (x9_1 + 1)) a0_0 a0_1 a0_2 a0_3 a0_4 a0_5 a0_6 a0_7 a0_8 l0_9 l0_10) = some (r1, r2) := by first | (rw [hy997]; with_reducible exact H) | (have H2_ := (Option.bind_some _ _).symm.trans H; rw [hy997]; with_reducible exact H2_) | (have H2_ := (Option.bind_some _ _).symm.trans H; with_reducible exact H2_) | with_reducible exact H | (rw [hy997]; exact H) | exact H
       have Ny997 := zam hy997
       clear hy997
       have H' := zam H
       clear H
       have hcz21_0 : wr.cell? ⟨gb983, 0, none⟩ = some (.int .u8 a0_0) := (zbc BK983.out 0).trans rfl
       have hcz21_1 : wr.cell? ⟨gb983, 1, none⟩ = some (.int .u16 a0_1) := (zbc BK983.out 1).trans rfl
       have hcz21_2 : wr.cell? ⟨gb983, 2, none⟩ = some (.bool a0_2) := (zbc BK983.out 2).trans rfl
       have hcz21_3 : wr.cell? ⟨gb983, 3, none⟩ = some (.bool a0_3) := (zbc BK983.out 3).trans rfl
       have hcz21_4 : wr.cell? ⟨gb983, 4, none⟩ = some (.int .i64 a0_4) := (zbc BK983.out 4).trans rfl
       have hcz21_5 : wr.cell? ⟨gb983, 5, none⟩ = some (.int .u8 a0_5) := (zbc BK983.out 5).trans rfl
       have hcz21_6 : wr.cell? ⟨gb983, 6, none⟩ = some (.int .u8 a0_6) := (zbc BK983.out 6).trans rfl
       have hcz21_7 : wr.cell? ⟨gb983, 7, none⟩ = some (.int .u32 a0_7) := (zbc BK983.out 7).trans rfl
       have hcz21_8 : wr.cell? ⟨gb983, 8, none⟩ = some (.int .u32 a0_8) := (zbc BK983.out 8).trans rfl
       have hcz21_9 : wr.cell? ⟨gb983, 9, none⟩ = some (.slice A0_9 l0_9.length c0_9) := (zbc BK983.out 9).trans rfl
       have hcz21_10 : wr.cell? ⟨gb983, 10, none⟩ = some (.slice A0_10 l0_10.length c0_10) := (zbc BK983.out 10).trans rfl
       have hfz21_0 := zbf BK983.out 0
       have hfz21_1 := zbf BK983.out 1
       have hfz21_2 := zbf BK983.out 2
       have hfz21_3 := zbf BK983.out 3
       have hfz21_4 := zbf BK983.out 4
       have hfz21_5 := zbf BK983.out 5
       have hfz21_6 := zbf BK983.out 6
       have hfz21_7 := zbf BK983.out 7
       have hfz21_8 := zbf BK983.out 8
       have hfz21_9 := zbf BK983.out 9
       have hfz21_10 := zbf BK983.out 10
       have p996 : 0 ≤ (x9_1 : Int) := zod zqxb22_4
       have q996 : x9_1 < (l0_10.length : Int) := zod zqxb22_4
       obtain ⟨ad996, e996, hx996_0⟩ := Kd.at_int HR0_10.out x9_1 p996 q996
       cases e996
       replace hx996_0 := (HB.out.cell (World.block_lt_of_cell? w _ hx996_0)).trans hx996_0
       replace p996 := eq_true p996
       replace q996 := eq_true q996
       go_wp2_with (first | ((with_reducible refine gate_builtin (b := .append) (xs := #[.tmp 43, .tmp 49]) rfl ?_); at_builtin; refine Kd.R_append (Kd.int .u8) (w0 := w) w.heap.size rfl (.tmp 43) (.tmp 49) 24 5 (.int .u8 0) 1 rfl Try.underlying24 info5 rfl (by decide) (by omega) u8 x8_1 (rd l0_10 x9_1) [.int .u8 (rd l0_10 x9_1)] (fun _ => True) (fun _ => False) rfl rfl ?aP (fun _ hk => hk.elim) ?aF ?aO ?aB ?aS ?aL ?_; (case aP => exact rfl); (case aB => exact zqxb22_1); (case aF => exact (fun _ _ => trivial)); (case aO => exact (by (with_reducible repeat (first | apply Kd.R_alloc | apply Kd.R_drewN | apply Kd.R_drew)); exact HO_8.out)); (case aS => exact (below_size zqxb22_1)); (case aL => have := LMc20.out; omega); intro v998 w22 ho hb hg hat; rw [← Ny997.out] at ho; have n0_ := zam (blk_grown (g := gb983) (o := .cells #[.int .u8 a0_0, .int .u16 a0_1, .bool a0_2, .bool a0_3, .int .i64 a0_4, .int .u8 a0_5, .int .u8 a0_6, .int .u32 a0_7, .int .u32 a0_8, .slice A0_9 l0_9.length c0_9, .slice (some ad996) l0_10.length c0_10] 43 (0, 0)) zqxb22_0 hg (Kd.R_ne HO_8.out BK983.out (by decide))); have n1_ := zam (hb); have n2_ := zam (ho); clear BK983; clear HB; clear HO_8; have BK983 := n0_; have HB := n1_; have HO999 := n2_; clear n0_ n1_ n2_; clear ho hb hg hat))
       go_roundg k1
       case measure => have := HK1.out; omega
       case rel => exact ⟨(y997), (wrap64 (x9_1 + 1)), zqxb22_7, H', ⟨by have := HK1.out; omega⟩, ⟨by (with_reducible repeat (first | apply Kd.R_alloc | apply Kd.R_drewN | apply Kd.R_drew)); exact HO999.out⟩, ⟨by first | (with_reducible exact BK983.out) | (with_reducible exact zdn BK983.out _) | (with_reducible exact zdr BK983.out) | ((with_reducible repeat (first | refine zdn ?_ _ | refine zdr ?_ | refine blk_alloc ?_ _)); exact BK983.out)⟩, ⟨by repeat (first | (with_reducible first | exact HB.out | apply below_alloc | apply pw_below_drewN | apply below_drew1 | refine below_set ?_ GE983.out) | exact HB.out)⟩⟩
      ·
       rw [if_neg c20] at H
       exact absurd H (by simp)
     ·
      rw [if_neg c19] at H
      exact absurd H (by simp)
    ·
     rw [if_neg c18] at H
     have c18b0 : decide (x9_1 < (l0_10.length : Int)) = false := decide_eq_false c18
     clear c18
     simp only [Option.some.injEq, Prod.mk.injEq] at H
     obtain ⟨rfl, rfl⟩ := H
     have hcz23_0 : wr.cell? ⟨gb983, 0, none⟩ = some (.int .u8 a0_0) := (zbc BK983.out 0).trans rfl
     have hcz23_1 : wr.cell? ⟨gb983, 1, none⟩ = some (.int .u16 a0_1) := (zbc BK983.out 1).trans rfl
     have hcz23_2 : wr.cell? ⟨gb983, 2, none⟩ = some (.bool a0_2) := (zbc BK983.out 2).trans rfl
     have hcz23_3 : wr.cell? ⟨gb983, 3, none⟩ = some (.bool a0_3) := (zbc BK983.out 3).trans rfl
     have hcz23_4 : wr.cell? ⟨gb983, 4, none⟩ = some (.int .i64 a0_4) := (zbc BK983.out 4).trans rfl
     have hcz23_5 : wr.cell? ⟨gb983, 5, none⟩ = some (.int .u8 a0_5) := (zbc BK983.out 5).trans rfl
     have hcz23_6 : wr.cell? ⟨gb983, 6, none⟩ = some (.int .u8 a0_6) := (zbc BK983.out 6).trans rfl
     have hcz23_7 : wr.cell? ⟨gb983, 7, none⟩ = some (.int .u32 a0_7) := (zbc BK983.out 7).trans rfl
     have hcz23_8 : wr.cell? ⟨gb983, 8, none⟩ = some (.int .u32 a0_8) := (zbc BK983.out 8).trans rfl
     have hcz23_9 : wr.cell? ⟨gb983, 9, none⟩ = some (.slice A0_9 l0_9.length c0_9) := (zbc BK983.out 9).trans rfl
     have hcz23_10 : wr.cell? ⟨gb983, 10, none⟩ = some (.slice A0_10 l0_10.length c0_10) := (zbc BK983.out 10).trans rfl
     have hfz23_0 := zbf BK983.out 0
     have hfz23_1 := zbf BK983.out 1
     have hfz23_2 := zbf BK983.out 2
     have hfz23_3 := zbf BK983.out 3
     have hfz23_4 := zbf BK983.out 4
     have hfz23_5 := zbf BK983.out 5
     have hfz23_6 := zbf BK983.out 6
     have hfz23_7 := zbf BK983.out 7
     have hfz23_8 := zbf BK983.out 8
     have hfz23_9 := zbf BK983.out 9
     have hfz23_10 := zbf BK983.out 10
     go_wp2
     go_ret2
     exact ⟨_, by first | rfl | (simp [errW_none, errW_some] <;> rfl) | (simp [*, errW_none, errW_some] <;> rfl), by (with_reducible repeat (first | apply Kd.R_alloc | apply Kd.R_drewN | apply Kd.R_drew)); exact HO_8.out, by repeat (first | (with_reducible first | exact HB.out | apply below_alloc | apply pw_below_drewN | apply below_drew1 | refine below_set ?_ GE983.out) | exact HB.out)⟩
 ·
  rw [if_neg c3] at H
  have c3b0 : (t984 == 0) = false := beq_eq_false_iff_ne.mpr c3
  have c3b1 : (t984 != 0) = true := bne_iff_ne.mpr c3
  simp only [Option.some.injEq, Prod.mk.injEq] at H
  obtain ⟨rfl, rfl⟩ := H
  go_enter Try.func53, Try.ntmps53
  go_wp2_with (first | ((with_reducible refine gate_dst (N := 1) rfl ?_); refine box_event ?hg (N := 1) ?hd (cs := #[.int .u8 a0_0, .int .u16 a0_1, .bool a0_2, .bool a0_3, .int .i64 a0_4, .int .u8 a0_5, .int .u8 a0_6, .int .u32 a0_7, .int .u32 a0_8, .slice A0_9 l0_9.length c0_9, .slice A0_10 l0_10.length c0_10]) (t := 43) ?hr ?_; (case hd => rfl); (case hg => rfl); (case hr => first | (go_simp; done) | (go_simp; rfl)); intro gb983 hg w24 hbox hb; have n0_ := zam (below_step zqxb22_3 hb); have n1_ := zam (hbox); have n2_ := zam ((by rw [hg]; exact (below_size zqxb22_3) : w.heap.size ≤ gb983)); have n3_ := zam ((by rw [hg]; exact (below_size zqxb22_3) : w.heap.size ≤ gb983)); clear HB; have HB := n0_; have BK983 := n1_; have GW983 := n2_; have GE983 := n3_; clear n0_ n1_ n2_ n3_; clear hb hbox hg; have hcz25_0 : w24.cell? ⟨gb983, 0, none⟩ = some (.int .u8 a0_0) := (zbc BK983.out 0).trans rfl; have hcz25_1 : w24.cell? ⟨gb983, 1, none⟩ = some (.int .u16 a0_1) := (zbc BK983.out 1).trans rfl; have hcz25_2 : w24.cell? ⟨gb983, 2, none⟩ = some (.bool a0_2) := (zbc BK983.out 2).trans rfl; have hcz25_3 : w24.cell? ⟨gb983, 3, none⟩ = some (.bool a0_3) := (zbc BK983.out 3).trans rfl; have hcz25_4 : w24.cell? ⟨gb983, 4, none⟩ = some (.int .i64 a0_4) := (zbc BK983.out 4).trans rfl; have hcz25_5 : w24.cell? ⟨gb983, 5, none⟩ = some (.int .u8 a0_5) := (zbc BK983.out 5).trans rfl; have hcz25_6 : w24.cell? ⟨gb983, 6, none⟩ = some (.int .u8 a0_6) := (zbc BK983.out 6).trans rfl; have hcz25_7 : w24.cell? ⟨gb983, 7, none⟩ = some (.int .u32 a0_7) := (zbc BK983.out 7).trans rfl; have hcz25_8 : w24.cell? ⟨gb983, 8, none⟩ = some (.int .u32 a0_8) := (zbc BK983.out 8).trans rfl; have hcz25_9 : w24.cell? ⟨gb983, 9, none⟩ = some (.slice A0_9 l0_9.length c0_9) := (zbc BK983.out 9).trans rfl; have hcz25_10 : w24.cell? ⟨gb983, 10, none⟩ = some (.slice A0_10 l0_10.length c0_10) := (zbc BK983.out 10).trans rfl; have hfz25_0 := zbf BK983.out 0; have hfz25_1 := zbf BK983.out 1; have hfz25_2 := zbf BK983.out 2; have hfz25_3 := zbf BK983.out 3; have hfz25_4 := zbf BK983.out 4; have hfz25_5 := zbf BK983.out 5; have hfz25_6 := zbf BK983.out 6; have hfz25_7 := zbf BK983.out 7; have hfz25_8 := zbf BK983.out 8; have hfz25_9 := zbf BK983.out 9; have hfz25_10 := zbf BK983.out 10) | ((with_reducible refine gate_callee (f := 68) rfl ?_); refine goesL_ (some 11) rfl rfl Try.func68 (by kernel_rfl) rfl #[.agg #[.int .u8 a0_0, .int .u16 a0_1, .bool a0_2, .bool a0_3, .int .i64 a0_4, .int .u8 a0_5, .int .u8 a0_6, .int .u32 a0_7, .int .u32 a0_8, .slice A0_9 l0_9.length c0_9, .slice A0_10 l0_10.length c0_10]] rfl zqxb22_2 ?_; (with_reducible refine (weftref3_Refused.calls k a0_0 a0_1 a0_2 a0_3 a0_4 a0_5 a0_6 a0_7 a0_8 _ _ l0_9 _ _ l0_10 t984 _ ?side1 ?side2 ?side3 ?side4 A2.out).mono ?_); (case side1 => repeat (first | exact (Kd.C_below HR0_9.out HB.out) | (with_reducible refine Kd.C_alloc ?_ _) | (with_reducible refine Kd.C_drewN ?_ _) | (with_reducible refine Kd.C_drew ?_))); (case side2 => exact HC0_9.out); (case side3 => repeat (first | exact (Kd.C_below HR0_10.out HB.out) | (with_reducible refine Kd.C_alloc ?_ _) | (with_reducible refine Kd.C_drewN ?_ _) | (with_reducible refine Kd.C_drew ?_))); (case side4 => exact HC0_10.out); rintro e w26 ⟨rfl, hb⟩; refine ⟨_, rfl, ?_⟩; have n0_ := zam (blk_below (g := gb983) (o := .cells #[.int .u8 a0_0, .int .u16 a0_1, .bool a0_2, .bool a0_3, .int .i64 a0_4, .int .u8 a0_5, .int .u8 a0_6, .int .u32 a0_7, .int .u32 a0_8, .slice A0_9 l0_9.length c0_9, .slice A0_10 l0_10.length c0_10] 43 (0, 0)) zqxb22_0 hb); have n1_ := zam (below_step zqxb22_1 hb); clear BK983; clear HB; have BK983 := n0_; have HB := n1_; clear n0_ n1_; (try clear hb); (try clear hb2); (try clear hk); (try clear hi)))
  go_ret2
  exact ⟨_, by first | rfl | (simp [errW_none, errW_some] <;> rfl) | (simp [*, errW_none, errW_some] <;> rfl), by first | exact Kd.R_nil _ _ _ _ _ | exact Kd.N_nil _ _ _ _ _ | exact Kd.V_nil _ _ _ _ _ | exact Kd.Q_nil _ _ _ _ _ | exact Kd.S_nil _ _ _ _ _, by repeat (first | (with_reducible first | exact HB.out | apply below_alloc | apply pw_below_drewN | apply below_drew1 | refine below_set ?_ GE983.out) | exact HB.out)⟩

/-! ### weftref3_two: function 82 -/
def weftref3_two.f (l0 : List Int) (a1 : Int) : Option (Int) := if 0 ≤ a1 then (if a1 < (l0.length : Int) then (if 0 ≤ (wrap64 (a1 + 1)) then (if (wrap64 (a1 + 1)) < (l0.length : Int) then (some (wrap64 ((wrap64 (256 * (wrap64 (rd l0 a1)))) + (wrap64 (rd l0 (wrap64 (a1 + 1))))))) else (none)) else (none)) else (none)) else (none)
set_option maxHeartbeats 8000000 in
set_option maxRecDepth 100000 in
theorem weftref3_two.calls (A0 : Option Addr) (c0 : Nat) (l0 : List Int) (a1 : Int) (r : Int) (w : World) (hr0 : Kd.C (Kd.int .u8) w A0 l0.length l0) (hc0 : l0.length ≤ c0) (h : weftref3_two.f l0 a1 = some r) :
  Calls Try.prog 82 #[.slice A0 l0.length c0, .int .i64 a1] w fun e w' => e = .returned (.int .i64 r) ∧ Drawn0 w w' := by
 have HR0 := zam hr0
 have HC0 := zam hc0
 clear hr0 hc0
 have H : (if 0 ≤ a1 then (if a1 < (l0.length : Int) then (if 0 ≤ (wrap64 (a1 + 1)) then (if (wrap64 (a1 + 1)) < (l0.length : Int) then (some (wrap64 ((wrap64 (256 * (wrap64 (rd l0 a1)))) + (wrap64 (rd l0 (wrap64 (a1 + 1))))))) else (none)) else (none)) else (none)) else (none)) = some r := h
 clear h
 by_cases c3 : 0 ≤ a1
 ·
  rw [if_pos c3] at H
  have c3b0 : decide (0 ≤ a1) = true := decide_eq_true c3
  clear c3
  by_cases c4 : a1 < (l0.length : Int)
  ·
   rw [if_pos c4] at H
   have c4b0 : decide (a1 < (l0.length : Int)) = true := decide_eq_true c4
   clear c4
   obtain ⟨ji5, hji5⟩ : ∃ j_ : Int, (wrap64 (a1 + 1)) = j_ := ⟨_, rfl⟩
   replace H : (if 0 ≤ (ji5) then (if (ji5) < (l0.length : Int) then (some (wrap64 ((wrap64 (256 * (wrap64 (rd l0 a1)))) + (wrap64 (rd l0 (ji5)))))) else (none)) else (none)) = some r := by first | (rw [hji5] at H; exact H) | (simp only [hji5] at H ⊢; exact H)
   have hji5w : (IntKind.i64.wrap (a1 + 1)) = ji5 := (i64_w _).trans hji5
   by_cases c6 : 0 ≤ (ji5)
   ·
    rw [if_pos c6] at H
    have c6b0 : decide (0 ≤ (ji5)) = true := decide_eq_true c6
    clear c6
    by_cases c7 : (ji5) < (l0.length : Int)
    ·
     rw [if_pos c7] at H
     have c7b0 : decide ((ji5) < (l0.length : Int)) = true := decide_eq_true c7
     clear c7
     obtain rfl := Option.some.inj H
     have p1000 : 0 ≤ (a1 : Int) := zod zqxb22_4
     have q1000 : a1 < (l0.length : Int) := zod zqxb22_4
     obtain ⟨ad1000, e1000, hx1000_0⟩ := Kd.at_int HR0.out a1 p1000 q1000
     cases e1000
     replace p1000 := eq_true p1000
     replace q1000 := eq_true q1000
     have p1001 : 0 ≤ ((ji5) : Int) := zod zqxb22_4
     have q1001 : (ji5) < (l0.length : Int) := zod zqxb22_4
     obtain ⟨ad1001, e1001, hx1001_0⟩ := Kd.at_int HR0.out (ji5) p1001 q1001
     obtain rfl : ad1000 = ad1001 := (by injection e1001)
     replace p1001 := eq_true p1001
     replace q1001 := eq_true q1001
     go_enter Try.func82, Try.ntmps82
     go_wp2
     repeat (go_quiet (fail); try go_wp2)
     go_ret
     exact ⟨by first | rfl | (simp; done) | (simp only [← hji5] <;> (first | rfl | simp)) | (simp [*]; done), by repeat (first | exact Drawn0.refl _ | apply Drawn0.step)⟩
    ·
     rw [if_neg c7] at H
     exact absurd H (by simp)
   ·
    rw [if_neg c6] at H
    exact absurd H (by simp)
  ·
   rw [if_neg c4] at H
   exact absurd H (by simp)
 ·
  rw [if_neg c3] at H
  exact absurd H (by simp)

/-! ### weftref3_front: function 81 -/
def weftref3_front.f (l0 : List Int) (a1 : Bool) : Option (Int × Int × Int) := if (l0.length : Int) < 20 then (some (0, 0, 30)) else (if 0 < (l0.length : Int) then (if ((Int.tdiv (rd l0 0) 16) % 256) = 4 then (if (wrap64 (4 * (wrap64 (Int.tmod (rd l0 0) 16)))) < 20 then (some (0, 0, 32)) else (if (l0.length : Int) < (wrap64 (4 * (wrap64 (Int.tmod (rd l0 0) 16)))) then (some (0, 0, 30)) else ((weftref3_two.f l0 2).bind fun t1004 => (if t1004 < (wrap64 (4 * (wrap64 (Int.tmod (rd l0 0) 16)))) then (some (0, 0, 32)) else (if a1 = true then (if (l0.length : Int) < t1004 then (some (0, 0, 30)) else (some (wrap64 (4 * (wrap64 (Int.tmod (rd l0 0) 16))), t1004, 0))) else (some (wrap64 (4 * (wrap64 (Int.tmod (rd l0 0) 16))), t1004, 0))))))) else (some (0, 0, 31))) else (none))
set_option maxHeartbeats 8000000 in
set_option maxRecDepth 100000 in
theorem weftref3_front.calls (A0 : Option Addr) (c0 : Nat) (l0 : List Int) (a1 : Bool) (r1 : Int) (r2 : Int) (r3 : Int) (w : World) (hr0 : Kd.C (Kd.int .u8) w A0 l0.length l0) (hc0 : l0.length ≤ c0) (h : weftref3_front.f l0 a1 = some (r1, r2, r3)) :
  Calls Try.prog 81 #[.slice A0 l0.length c0, .bool a1] w fun e w' => e = .returned (.tuple #[.int .i64 r1, .int .i64 r2, .int .i64 r3]) ∧ Drawn0 w w' := by
 have HR0 := zam hr0
 have HC0 := zam hc0
 clear hr0 hc0
 have H : (if (l0.length : Int) < 20 then (some (0, 0, 30)) else (if 0 < (l0.length : Int) then (if ((Int.tdiv (rd l0 0) 16) % 256) = 4 then (if (wrap64 (4 * (wrap64 (Int.tmod (rd l0 0) 16)))) < 20 then (some (0, 0, 32)) else (if (l0.length : Int) < (wrap64 (4 * (wrap64 (Int.tmod (rd l0 0) 16)))) then (some (0, 0, 30)) else ((weftref3_two.f l0 2).bind fun t1004 => (if t1004 < (wrap64 (4 * (wrap64 (Int.tmod (rd l0 0) 16)))) then (some (0, 0, 32)) else (if a1 = true then (if (l0.length : Int) < t1004 then (some (0, 0, 30)) else (some (wrap64 (4 * (wrap64 (Int.tmod (rd l0 0) 16))), t1004, 0))) else (some (wrap64 (4 * (wrap64 (Int.tmod (rd l0 0) 16))), t1004, 0))))))) else (some (0, 0, 31))) else (none))) = some (r1, r2, r3) := h
 clear h
 by_cases c3 : (l0.length : Int) < 20
 ·
  rw [if_pos c3] at H
  have c3b0 : decide ((l0.length : Int) < 20) = true := decide_eq_true c3
  have c3b1 : decide (l0.length < 20) = true := decide_eq_true (by omega)
  clear c3
  simp only [Option.some.injEq, Prod.mk.injEq] at H
  obtain ⟨rfl, rfl, rfl⟩ := H
  go_enter Try.func81, Try.ntmps81
  go_wp2
  go_ret3
  exact ⟨by first | rfl | (simp; done) | (simp [*]; done), by repeat (first | exact Drawn0.refl _ | apply Drawn0.step)⟩
 ·
  rw [if_neg c3] at H
  have c3b0 : decide ((l0.length : Int) < 20) = false := decide_eq_false c3
  have c3b1 : decide (l0.length < 20) = false := decide_eq_false (by omega)
  clear c3
  by_cases c4 : 0 < (l0.length : Int)
  ·
   rw [if_pos c4] at H
   have c4b0 : decide (0 < (l0.length : Int)) = true := decide_eq_true c4
   have c4b1 : decide (0 < l0.length) = true := decide_eq_true (by omega)
   clear c4
   by_cases c5 : ((Int.tdiv (rd l0 0) 16) % 256) = 4
   ·
    rw [if_pos c5] at H
    have c5b0 : (((Int.tdiv (rd l0 0) 16) % 256) == 4) = true := beq_iff_eq.mpr c5
    have c5b1 : (((Int.tdiv (rd l0 0) 16) % 256) != 4) = false := bne_eq_false_iff_eq.mpr c5
    clear c5
    by_cases c6 : (wrap64 (4 * (wrap64 (Int.tmod (rd l0 0) 16)))) < 20
    ·
     rw [if_pos c6] at H
     have c6b0 : decide ((wrap64 (4 * (wrap64 (Int.tmod (rd l0 0) 16)))) < 20) = true := decide_eq_true c6
     clear c6
     simp only [Option.some.injEq, Prod.mk.injEq] at H
     obtain ⟨rfl, rfl, rfl⟩ := H
     have p1002 : 0 ≤ (0 : Int) := (by omega)
     have q1002 : 0 < (l0.length : Int) := zod zqxb22_4
     obtain ⟨ad1002, e1002, hx1002_0⟩ := Kd.at_int HR0.out 0 p1002 q1002
     cases e1002
     have qi1002 : (0 < l0.length) = True := eq_true (by omega)
     (try rw [show ((0 : Int)).toNat = 0 from rfl] at hx1002_0)
     (try rw [Addr.add_zero'] at hx1002_0)
     replace p1002 := eq_true p1002
     replace q1002 := eq_true q1002
     have p1003 : 0 ≤ (0 : Int) := (by omega)
     have q1003 : 0 < (l0.length : Int) := zod zqxb22_4
     obtain ⟨ad1003, e1003, hx1003_0⟩ := Kd.at_int HR0.out 0 p1003 q1003
     obtain rfl : ad1002 = ad1003 := (by injection e1003)
     have qi1003 : (0 < l0.length) = True := eq_true (by omega)
     (try rw [show ((0 : Int)).toNat = 0 from rfl] at hx1003_0)
     (try rw [Addr.add_zero'] at hx1003_0)
     replace p1003 := eq_true p1003
     replace q1003 := eq_true q1003
     go_enter Try.func81, Try.ntmps81
     go_wp2
     go_ret3
     exact ⟨by first | rfl | (simp; done) | (simp [*]; done), by repeat (first | exact Drawn0.refl _ | apply Drawn0.step)⟩
    ·
     rw [if_neg c6] at H
     have c6b0 : decide ((wrap64 (4 * (wrap64 (Int.tmod (rd l0 0) 16)))) < 20) = false := decide_eq_false c6
     clear c6
     by_cases c7 : (l0.length : Int) < (wrap64 (4 * (wrap64 (Int.tmod (rd l0 0) 16))))
     ·
      rw [if_pos c7] at H
      have c7b0 : decide ((l0.length : Int) < (wrap64 (4 * (wrap64 (Int.tmod (rd l0 0) 16))))) = true := decide_eq_true c7
      clear c7
      simp only [Option.some.injEq, Prod.mk.injEq] at H
      obtain ⟨rfl, rfl, rfl⟩ := H
      have p1002 : 0 ≤ (0 : Int) := (by omega)
      have q1002 : 0 < (l0.length : Int) := zod zqxb22_4
      obtain ⟨ad1002, e1002, hx1002_0⟩ := Kd.at_int HR0.out 0 p1002 q1002
      cases e1002
      have qi1002 : (0 < l0.length) = True := eq_true (by omega)
      (try rw [show ((0 : Int)).toNat = 0 from rfl] at hx1002_0)
      (try rw [Addr.add_zero'] at hx1002_0)
      replace p1002 := eq_true p1002
      replace q1002 := eq_true q1002
      have p1003 : 0 ≤ (0 : Int) := (by omega)
      have q1003 : 0 < (l0.length : Int) := zod zqxb22_4
      obtain ⟨ad1003, e1003, hx1003_0⟩ := Kd.at_int HR0.out 0 p1003 q1003
      obtain rfl : ad1002 = ad1003 := (by injection e1003)
      have qi1003 : (0 < l0.length) = True := eq_true (by omega)
      (try rw [show ((0 : Int)).toNat = 0 from rfl] at hx1003_0)
      (try rw [Addr.add_zero'] at hx1003_0)
      replace p1003 := eq_true p1003
      replace q1003 := eq_true q1003
      go_enter Try.func81, Try.ntmps81
      go_wp2
      go_ret3
      exact ⟨by first | rfl | (simp; done) | (simp [*]; done), by repeat (first | exact Drawn0.refl _ | apply Drawn0.step)⟩
     ·
      rw [if_neg c7] at H
      have c7b0 : decide ((l0.length : Int) < (wrap64 (4 * (wrap64 (Int.tmod (rd l0 0) 16))))) = false := decide_eq_false c7
      clear c7
      replace H := Option.bind_eq_some_iff.mp H
      obtain ⟨t1004, A80, H⟩ := H
      replace H : (if t1004 < (wrap64 (4 * (wrap64 (Int.tmod (rd l0 0) 16)))) then (some (0, 0, 32)) else (if a1 = true then (if (l0.length : Int) < t1004 then (some (0, 0, 30)) else (some (wrap64 (4 * (wrap64 (Int.tmod (rd l0 0) 16))), t1004, 0))) else (some (wrap64 (4 * (wrap64 (Int.tmod (rd l0 0) 16))), t1004, 0)))) = some (r1, r2, r3) := H
      have A8 := zam A80
      clear A80
      by_cases c9 : t1004 < (wrap64 (4 * (wrap64 (Int.tmod (rd l0 0) 16))))
      ·
       rw [if_pos c9] at H
       have c9b0 : decide (t1004 < (wrap64 (4 * (wrap64 (Int.tmod (rd l0 0) 16))))) = true := decide_eq_true c9
       clear c9
       simp only [Option.some.injEq, Prod.mk.injEq] at H
       obtain ⟨rfl, rfl, rfl⟩ := H
       have p1002 : 0 ≤ (0 : Int) := (by omega)
       have q1002 : 0 < (l0.length : Int) := zod zqxb22_4
       obtain ⟨ad1002, e1002, hx1002_0⟩ := Kd.at_int HR0.out 0 p1002 q1002
       cases e1002
       have qi1002 : (0 < l0.length) = True := eq_true (by omega)
       (try rw [show ((0 : Int)).toNat = 0 from rfl] at hx1002_0)
       (try rw [Addr.add_zero'] at hx1002_0)
       replace p1002 := eq_true p1002
       replace q1002 := eq_true q1002
       have p1003 : 0 ≤ (0 : Int) := (by omega)
       have q1003 : 0 < (l0.length : Int) := zod zqxb22_4
       obtain ⟨ad1003, e1003, hx1003_0⟩ := Kd.at_int HR0.out 0 p1003 q1003
       obtain rfl : ad1002 = ad1003 := (by injection e1003)
       have qi1003 : (0 < l0.length) = True := eq_true (by omega)
       (try rw [show ((0 : Int)).toNat = 0 from rfl] at hx1003_0)
       (try rw [Addr.add_zero'] at hx1003_0)
       replace p1003 := eq_true p1003
       replace q1003 := eq_true q1003
       go_enter Try.func81, Try.ntmps81
       go_wp2_with (first | ((with_reducible refine gate_callee (f := 82) rfl ?_); refine goesL_ (some 30) rfl rfl Try.func82 (by kernel_rfl) rfl #[.slice (some ad1002) l0.length c0, .int .i64 2] rfl zqxb22_2 ?_; (with_reducible refine (weftref3_two.calls _ _ l0 2 t1004 _ ?side1 ?side2 A8.out).mono ?_); (case side1 => repeat (first | exact HR0.out | (with_reducible refine Kd.C_alloc ?_ _) | (with_reducible refine Kd.C_drewN ?_ _) | (with_reducible refine Kd.C_drew ?_))); (case side2 => exact HC0.out); rintro e w' ⟨rfl, ⟨nd, rfl⟩⟩; refine ⟨_, rfl, ?_⟩))
       go_ret3
       exact ⟨by first | rfl | (simp; done) | (simp [*]; done), by repeat (first | exact Drawn0.refl _ | apply Drawn0.step)⟩
      ·
       rw [if_neg c9] at H
       have c9b0 : decide (t1004 < (wrap64 (4 * (wrap64 (Int.tmod (rd l0 0) 16))))) = false := decide_eq_false c9
       clear c9
       by_cases c10 : a1 = true
       ·
        subst c10
        have H1 : (if (l0.length : Int) < t1004 then (some (0, 0, 30)) else (some (wrap64 (4 * (wrap64 (Int.tmod (rd l0 0) 16))), t1004, 0))) = some (r1, r2, r3) := by rw [if_pos rfl] at H; exact H
        clear H
        have H := H1
        clear H1
        by_cases c11 : (l0.length : Int) < t1004
        ·
         rw [if_pos c11] at H
         have c11b0 : decide ((l0.length : Int) < t1004) = true := decide_eq_true c11
         clear c11
         simp only [Option.some.injEq, Prod.mk.injEq] at H
         obtain ⟨rfl, rfl, rfl⟩ := H
         have p1002 : 0 ≤ (0 : Int) := (by omega)
         have q1002 : 0 < (l0.length : Int) := zod zqxb22_4
         obtain ⟨ad1002, e1002, hx1002_0⟩ := Kd.at_int HR0.out 0 p1002 q1002
         cases e1002
         have qi1002 : (0 < l0.length) = True := eq_true (by omega)
         (try rw [show ((0 : Int)).toNat = 0 from rfl] at hx1002_0)
         (try rw [Addr.add_zero'] at hx1002_0)
         replace p1002 := eq_true p1002
         replace q1002 := eq_true q1002
         have p1003 : 0 ≤ (0 : Int) := (by omega)
         have q1003 : 0 < (l0.length : Int) := zod zqxb22_4
         obtain ⟨ad1003, e1003, hx1003_0⟩ := Kd.at_int HR0.out 0 p1003 q1003
         obtain rfl : ad1002 = ad1003 := (by injection e1003)
         have qi1003 : (0 < l0.length) = True := eq_true (by omega)
         (try rw [show ((0 : Int)).toNat = 0 from rfl] at hx1003_0)
         (try rw [Addr.add_zero'] at hx1003_0)
         replace p1003 := eq_true p1003
         replace q1003 := eq_true q1003
         go_enter Try.func81, Try.ntmps81
         go_wp2_with (first | ((with_reducible refine gate_callee (f := 82) rfl ?_); refine goesL_ (some 30) rfl rfl Try.func82 (by kernel_rfl) rfl #[.slice (some ad1002) l0.length c0, .int .i64 2] rfl zqxb22_2 ?_; (with_reducible refine (weftref3_two.calls _ _ l0 2 t1004 _ ?side1 ?side2 A8.out).mono ?_); (case side1 => repeat (first | exact HR0.out | (with_reducible refine Kd.C_alloc ?_ _) | (with_reducible refine Kd.C_drewN ?_ _) | (with_reducible refine Kd.C_drew ?_))); (case side2 => exact HC0.out); rintro e w' ⟨rfl, ⟨nd, rfl⟩⟩; refine ⟨_, rfl, ?_⟩))
         go_ret3
         exact ⟨by first | rfl | (simp; done) | (simp [*]; done), by repeat (first | exact Drawn0.refl _ | apply Drawn0.step)⟩
        ·
         rw [if_neg c11] at H
         have c11b0 : decide ((l0.length : Int) < t1004) = false := decide_eq_false c11
         clear c11
         simp only [Option.some.injEq, Prod.mk.injEq] at H
         obtain ⟨rfl, rfl, rfl⟩ := H
         have p1002 : 0 ≤ (0 : Int) := (by omega)
         have q1002 : 0 < (l0.length : Int) := zod zqxb22_4
         obtain ⟨ad1002, e1002, hx1002_0⟩ := Kd.at_int HR0.out 0 p1002 q1002
         cases e1002
         have qi1002 : (0 < l0.length) = True := eq_true (by omega)
         (try rw [show ((0 : Int)).toNat = 0 from rfl] at hx1002_0)
         (try rw [Addr.add_zero'] at hx1002_0)
         replace p1002 := eq_true p1002
         replace q1002 := eq_true q1002
         have p1003 : 0 ≤ (0 : Int) := (by omega)
         have q1003 : 0 < (l0.length : Int) := zod zqxb22_4
         obtain ⟨ad1003, e1003, hx1003_0⟩ := Kd.at_int HR0.out 0 p1003 q1003
         obtain rfl : ad1002 = ad1003 := (by injection e1003)
         have qi1003 : (0 < l0.length) = True := eq_true (by omega)
         (try rw [show ((0 : Int)).toNat = 0 from rfl] at hx1003_0)
         (try rw [Addr.add_zero'] at hx1003_0)
         replace p1003 := eq_true p1003
         replace q1003 := eq_true q1003
         go_enter Try.func81, Try.ntmps81
         go_wp2_with (first | ((with_reducible refine gate_callee (f := 82) rfl ?_); refine goesL_ (some 30) rfl rfl Try.func82 (by kernel_rfl) rfl #[.slice (some ad1002) l0.length c0, .int .i64 2] rfl zqxb22_2 ?_; (with_reducible refine (weftref3_two.calls _ _ l0 2 t1004 _ ?side1 ?side2 A8.out).mono ?_); (case side1 => repeat (first | exact HR0.out | (with_reducible refine Kd.C_alloc ?_ _) | (with_reducible refine Kd.C_drewN ?_ _) | (with_reducible refine Kd.C_drew ?_))); (case side2 => exact HC0.out); rintro e w' ⟨rfl, ⟨nd, rfl⟩⟩; refine ⟨_, rfl, ?_⟩))
         go_ret3
         exact ⟨by first | rfl | (simp; done) | (simp [*]; done), by repeat (first | exact Drawn0.refl _ | apply Drawn0.step)⟩
       ·
        replace c10 := Bool.eq_false_iff.mpr c10
        subst c10
        have H1 : (some (wrap64 (4 * (wrap64 (Int.tmod (rd l0 0) 16))), t1004, 0)) = some (r1, r2, r3) := by rw [if_neg (show ¬ (false = true) by decide)] at H; exact H
        clear H
        have H := H1
        clear H1
        simp only [Option.some.injEq, Prod.mk.injEq] at H
        obtain ⟨rfl, rfl, rfl⟩ := H
        have p1002 : 0 ≤ (0 : Int) := (by omega)
        have q1002 : 0 < (l0.length : Int) := zod zqxb22_4
        obtain ⟨ad1002, e1002, hx1002_0⟩ := Kd.at_int HR0.out 0 p1002 q1002
        cases e1002
        have qi1002 : (0 < l0.length) = True := eq_true (by omega)
        (try rw [show ((0 : Int)).toNat = 0 from rfl] at hx1002_0)
        (try rw [Addr.add_zero'] at hx1002_0)
        replace p1002 := eq_true p1002
        replace q1002 := eq_true q1002
        have p1003 : 0 ≤ (0 : Int) := (by omega)
        have q1003 : 0 < (l0.length : Int) := zod zqxb22_4
        obtain ⟨ad1003, e1003, hx1003_0⟩ := Kd.at_int HR0.out 0 p1003 q1003
        obtain rfl : ad1002 = ad1003 := (by injection e1003)
        have qi1003 : (0 < l0.length) = True := eq_true (by omega)
        (try rw [show ((0 : Int)).toNat = 0 from rfl] at hx1003_0)
        (try rw [Addr.add_zero'] at hx1003_0)
        replace p1003 := eq_true p1003
        replace q1003 := eq_true q1003
        go_enter Try.func81, Try.ntmps81
        go_wp2_with (first | ((with_reducible refine gate_callee (f := 82) rfl ?_); refine goesL_ (some 30) rfl rfl Try.func82 (by kernel_rfl) rfl #[.slice (some ad1002) l0.length c0, .int .i64 2] rfl zqxb22_2 ?_; (with_reducible refine (weftref3_two.calls _ _ l0 2 t1004 _ ?side1 ?side2 A8.out).mono ?_); (case side1 => repeat (first | exact HR0.out | (with_reducible refine Kd.C_alloc ?_ _) | (with_reducible refine Kd.C_drewN ?_ _) | (with_reducible refine Kd.C_drew ?_))); (case side2 => exact HC0.out); rintro e w' ⟨rfl, ⟨nd, rfl⟩⟩; refine ⟨_, rfl, ?_⟩))
        go_ret3
        exact ⟨by first | rfl | (simp; done) | (simp [*]; done), by repeat (first | exact Drawn0.refl _ | apply Drawn0.step)⟩
   ·
    rw [if_neg c5] at H
    have c5b0 : (((Int.tdiv (rd l0 0) 16) % 256) == 4) = false := beq_eq_false_iff_ne.mpr c5
    have c5b1 : (((Int.tdiv (rd l0 0) 16) % 256) != 4) = true := bne_iff_ne.mpr c5
    simp only [Option.some.injEq, Prod.mk.injEq] at H
    obtain ⟨rfl, rfl, rfl⟩ := H
    have p1002 : 0 ≤ (0 : Int) := (by omega)
    have q1002 : 0 < (l0.length : Int) := zod zqxb22_4
    obtain ⟨ad1002, e1002, hx1002_0⟩ := Kd.at_int HR0.out 0 p1002 q1002
    cases e1002
    have qi1002 : (0 < l0.length) = True := eq_true (by omega)
    (try rw [show ((0 : Int)).toNat = 0 from rfl] at hx1002_0)
    (try rw [Addr.add_zero'] at hx1002_0)
    replace p1002 := eq_true p1002
    replace q1002 := eq_true q1002
    go_enter Try.func81, Try.ntmps81
    go_wp2
    go_ret3
    exact ⟨by first | rfl | (simp; done) | (simp [*]; done), by repeat (first | exact Drawn0.refl _ | apply Drawn0.step)⟩
  ·
   rw [if_neg c4] at H
   exact absurd H (by simp)

/-! ### weftref3_four: function 83 -/
def weftref3_four.f (l0 : List Int) (a1 : Int) : Option (Int) := (weftref3_two.f l0 a1).bind fun t1005 => ((weftref3_two.f l0 (wrap64 (a1 + 2))).bind fun t1006 => (some (wrap64 ((wrap64 (65536 * t1005)) + t1006))))
set_option maxHeartbeats 8000000 in
set_option maxRecDepth 100000 in
theorem weftref3_four.calls (A0 : Option Addr) (c0 : Nat) (l0 : List Int) (a1 : Int) (r : Int) (w : World) (hr0 : Kd.C (Kd.int .u8) w A0 l0.length l0) (hc0 : l0.length ≤ c0) (h : weftref3_four.f l0 a1 = some r) :
  Calls Try.prog 83 #[.slice A0 l0.length c0, .int .i64 a1] w fun e w' => e = .returned (.int .i64 r) ∧ Drawn0 w w' := by
 have HR0 := zam hr0
 have HC0 := zam hc0
 clear hr0 hc0
 have H : ((weftref3_two.f l0 a1).bind fun t1005 => ((weftref3_two.f l0 (wrap64 (a1 + 2))).bind fun t1006 => (some (wrap64 ((wrap64 (65536 * t1005)) + t1006))))) = some r := h
 clear h
 replace H := Option.bind_eq_some_iff.mp H
 obtain ⟨t1005, A30, H⟩ := H
 replace H : ((weftref3_two.f l0 (wrap64 (a1 + 2))).bind fun t1006 => (some (wrap64 ((wrap64 (65536 * t1005)) + t1006)))) = some r := H
 have A3 := zam A30
 clear A30
 replace H := Option.bind_eq_some_iff.mp H
 obtain ⟨t1006, A40, H⟩ := H
 replace H : (some (wrap64 ((wrap64 (65536 * t1005)) + t1006))) = some r := H
 have A4 := zam A40
 clear A40
 obtain rfl := Option.some.inj H
 go_enter Try.func83, Try.ntmps83
 go_wp2_with (first | ((with_reducible refine gate_callee (f := 82) rfl ?_); refine goesL_ (some 7) rfl rfl Try.func82 (by kernel_rfl) rfl #[.slice A0 l0.length c0, .int .i64 a1] rfl zqxb22_2 ?_; (with_reducible refine (weftref3_two.calls _ _ l0 a1 t1005 _ ?side1 ?side2 A3.out).mono ?_); (case side1 => repeat (first | exact HR0.out | (with_reducible refine Kd.C_alloc ?_ _) | (with_reducible refine Kd.C_drewN ?_ _) | (with_reducible refine Kd.C_drew ?_))); (case side2 => exact HC0.out); rintro e w' ⟨rfl, ⟨nd, rfl⟩⟩; refine ⟨_, rfl, ?_⟩) | ((with_reducible refine gate_callee (f := 82) rfl ?_); refine goesL_ (some 12) rfl rfl Try.func82 (by kernel_rfl) rfl #[.slice A0 l0.length c0, .int .i64 (wrap64 (a1 + 2))] rfl zqxb22_2 ?_; (with_reducible refine (weftref3_two.calls _ _ l0 (wrap64 (a1 + 2)) t1006 _ ?side1 ?side2 A4.out).mono ?_); (case side1 => repeat (first | exact HR0.out | (with_reducible refine Kd.C_alloc ?_ _) | (with_reducible refine Kd.C_drewN ?_ _) | (with_reducible refine Kd.C_drew ?_))); (case side2 => exact HC0.out); rintro e w' ⟨rfl, ⟨nd, rfl⟩⟩; refine ⟨_, rfl, ?_⟩))
 go_ret
 exact ⟨by first | rfl | (simp; done) | (simp [*]; done), by repeat (first | exact Drawn0.refl _ | apply Drawn0.step)⟩

/-! ### weftref3_clone: function 84 -/
def weftref3_clone.l0 : Nat → List Int → List Int → Int → Option (List Int)
 | 0, _, _, _ => none
 | k + 1, x0, x3, x4 => if x4 < (x0.length : Int) then (if 0 ≤ x4 then (if x3.length < 140737488355328 then (weftref3_clone.l0 k x0 (x3 ++ [rd x0 x4]) (wrap64 (x4 + 1))) else (none)) else (none)) else (some x3)
def weftref3_clone.f (k : Nat) (l0 : List Int) : Option (List Int) := weftref3_clone.l0 k l0 ([] : List Int) 0
set_option maxHeartbeats 8000000 in
set_option maxRecDepth 100000 in
theorem weftref3_clone.calls (k : Nat) (A0 : Option Addr) (c0 : Nat) (l0 : List Int) (r : List Int) (w : World) (hr0 : Kd.C (Kd.int .u8) w A0 l0.length l0) (hc0 : l0.length ≤ c0) (h : weftref3_clone.f k l0 = some r) :
  Calls Try.prog 84 #[.slice A0 l0.length c0] w fun e w' => ∃ v0_ : Value, e = .returned (v0_) ∧ Kd.R (Kd.int .u8) 5 w' w.heap.size (fun _ => True) v0_ r ∧ Below w.heap.size w w' := by
 have HR0 := zam hr0
 have HC0 := zam hc0
 clear hr0 hc0
 have HB := zam (Below.refl w.heap.size w)
 have H : (weftref3_clone.l0 k l0 ([] : List Int) 0) = some r := h
 clear h
 have H' := zam H
 clear H
 go_enter Try.func84, Try.ntmps84
 go_wp2
 go_loopg [3, 4] k (fun kq v3 v4 w' => ∃ (x3_1 : List Int) (x4_1 : Int), v4 = .int .i64 x4_1 ∧ Aside0 (weftref3_clone.l0 kq l0 x3_1 x4_1 = some r) ∧ Aside0 (kq ≤ k) ∧ Aside0 (Kd.R (Kd.int .u8) 5 w' w.heap.size (fun _ => True) v3 x3_1) ∧ Aside0 (Below w.heap.size w w'))
 case atStart => exact ⟨(([] : List Int)), (0), zqxb22_7, H', ⟨Nat.le_refl _⟩, ⟨by first | exact Kd.R_nil _ _ _ _ _ | exact Kd.N_nil _ _ _ _ _ | exact Kd.V_nil _ _ _ _ _ | exact Kd.Q_nil _ _ _ _ _ | exact Kd.S_nil _ _ _ _ _⟩, ⟨by repeat (first | (with_reducible first | exact HB.out | apply below_alloc | apply pw_below_drewN | apply below_drew1) | exact HB.out)⟩⟩
 case round =>
  clear H'
  obtain ⟨x3_1, x4_1, rfl, HA, HK1, HO_3, HB⟩ := hrel
  cases gk with
  | zero => exact absurd HA.out (by simp [weftref3_clone.l0])
  | succ k1 =>
   have H := HA.out
   clear HA
   simp only [weftref3_clone.l0] at H
   by_cases c2 : x4_1 < (l0.length : Int)
   ·
    rw [if_pos c2] at H
    have c2b0 : decide (x4_1 < (l0.length : Int)) = true := decide_eq_true c2
    clear c2
    by_cases c3 : 0 ≤ x4_1
    ·
     rw [if_pos c3] at H
     have c3b0 : decide (0 ≤ x4_1) = true := decide_eq_true c3
     clear c3
     by_cases c4 : x3_1.length < 140737488355328
     ·
      rw [if_pos c4] at H
      have LMc4 := zam c4
      clear c4
      obtain ⟨y1008, hy1008⟩ : ∃ y_ : List Int, y_ = (x3_1 ++ [rd l0 x4_1]) := ⟨_, rfl⟩
      replace H : (weftref3_clone.l0 k1 l0 y1008 (wrap64 (x4_1 + 1))) = some r := by first | (rw [hy1008]; with_reducible exact H) | (have H2_ := (Option.bind_some _ _).symm.trans H; rw [hy1008]; with_reducible exact H2_) | (have H2_ := (Option.bind_some _ _).symm.trans H; with_reducible exact H2_) | with_reducible exact H | (rw [hy1008]; exact H) | exact H
      have Ny1008 := zam hy1008
      clear hy1008
      have H' := zam H
      clear H
      have p1007 : 0 ≤ (x4_1 : Int) := zod zqxb22_4
      have q1007 : x4_1 < (l0.length : Int) := zod zqxb22_4
      obtain ⟨ad1007, e1007, hx1007_0⟩ := Kd.at_int HR0.out x4_1 p1007 q1007
      cases e1007
      replace hx1007_0 := (HB.out.cell (World.block_lt_of_cell? w _ hx1007_0)).trans hx1007_0
      replace p1007 := eq_true p1007
      replace q1007 := eq_true q1007
      go_wp2_with (first | ((with_reducible refine gate_builtin (b := .append) (xs := #[.tmp 11, .tmp 16]) rfl ?_); at_builtin; refine Kd.R_append (Kd.int .u8) (w0 := w) w.heap.size rfl (.tmp 11) (.tmp 16) 24 5 (.int .u8 0) 1 rfl Try.underlying24 info5 rfl (by decide) (by omega) u3 x3_1 (rd l0 x4_1) [.int .u8 (rd l0 x4_1)] (fun _ => True) (fun _ => False) rfl rfl ?aP (fun _ hk => hk.elim) ?aF ?aO ?aB ?aS ?aL ?_; (case aP => exact rfl); (case aB => exact zqxb22_3); (case aF => exact (fun _ _ => trivial)); (case aO => exact (by (with_reducible repeat (first | apply Kd.R_alloc | apply Kd.R_drewN | apply Kd.R_drew)); exact HO_3.out)); (case aS => exact (below_size zqxb22_3)); (case aL => have := LMc4.out; omega); intro v1009 w5 ho hb hg hat; rw [← Ny1008.out] at ho; have n0_ := zam (hb); have n1_ := zam (ho); clear HB; clear HO_3; have HB := n0_; have HO1010 := n1_; clear n0_ n1_; clear ho hb hg hat))
      go_roundg k1
      case measure => have := HK1.out; omega
      case rel => exact ⟨(y1008), (wrap64 (x4_1 + 1)), zqxb22_7, H', ⟨by have := HK1.out; omega⟩, ⟨by (with_reducible repeat (first | apply Kd.R_alloc | apply Kd.R_drewN | apply Kd.R_drew)); exact HO1010.out⟩, ⟨by repeat (first | (with_reducible first | exact HB.out | apply below_alloc | apply pw_below_drewN | apply below_drew1) | exact HB.out)⟩⟩
     ·
      rw [if_neg c4] at H
      exact absurd H (by simp)
    ·
     rw [if_neg c3] at H
     exact absurd H (by simp)
   ·
    rw [if_neg c2] at H
    have c2b0 : decide (x4_1 < (l0.length : Int)) = false := decide_eq_false c2
    clear c2
    obtain rfl := Option.some.inj H
    go_wp2
    go_ret
    exact ⟨_, by first | rfl | (simp [errW_none, errW_some] <;> rfl) | (simp [*, errW_none, errW_some] <;> rfl), by (with_reducible repeat (first | apply Kd.R_alloc | apply Kd.R_drewN | apply Kd.R_drew)); exact HO_3.out, by repeat (first | (with_reducible first | exact HB.out | apply below_alloc | apply pw_below_drewN | apply below_drew1) | exact HB.out)⟩

end Go.Proofs.Ytbacmhegalncjaa.XB
