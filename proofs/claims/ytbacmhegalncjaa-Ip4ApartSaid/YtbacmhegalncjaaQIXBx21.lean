-- printed by a program of this session (wip/xprint), out of the translation; Lean checks it
import Derived.Test.YtbacmhegalncjaaQIXBx0
import Derived.Test.YtbacmhegalncjaaQIXBx20
namespace Go.Proofs.Ytbacmhegalncjaa.XB
open Go.RowKit Go.Proofs.YtbacmhegalncjaaW.PrintWords Go.Proofs.YtbacmhegalncjaaW.PrintLast Go.Proofs.YtbacmhegalncjaaW.PrintMore Go.Proofs.YtbacmhegalncjaaX
theorem zqxb21_7 {P : Prop} (h : P := by (with_reducible repeat (first | apply Kd.R_alloc | apply Kd.R_drewN | apply Kd.R_drew)); exact HO957.out) : P := h
theorem zqxb21_6 {P : Prop} (h : P := by first | rfl | (simp; done) | (simp [*]; done)) : P := h
theorem zqxb21_5 {P : Prop} (h : P := by repeat (first | (with_reducible first | exact HB.out | apply below_alloc | apply pw_below_drewN | apply below_drew1) | exact HB.out)) : P := h
theorem zqxb21_4 {P : Prop} (h : P := by (with_reducible repeat (first | apply Kd.R_alloc | apply Kd.R_drewN | apply Kd.R_drew)); exact HO945.out) : P := h
theorem zqxb21_3 {P : Prop} (h : P := by (with_reducible repeat (first | apply Kd.R_alloc | apply Kd.R_drewN | apply Kd.R_drew)); exact HO960.out) : P := h
theorem zqxb21_2 {P : Prop} (h : P := by (try simp only [List.map_toArray, List.map_cons, List.map_nil]); first | done | rfl | (simp only [List.length_drop, List.length_take]; rfl)) : P := h
theorem zqxb21_1 {P : Prop} (h : P := by repeat (first | (with_reducible first | exact HB.out | apply below_alloc | apply pw_below_drewN | apply below_drew1 | refine below_set ?_ GE942.out) | exact HB.out)) : P := h
theorem zqxb21_0 {P : Prop} (h : P := by first | (with_reducible exact BK942.out) | (with_reducible exact zdn BK942.out _) | (with_reducible exact zdr BK942.out) | ((with_reducible repeat (first | refine zdn ?_ _ | refine zdr ?_ | refine blk_alloc ?_ _)); exact BK942.out)) : P := h
attribute [local go_sem] max2_int min2_int max_two min_two max_three min_three max_four min_four   -- for this text's walks alone
set_option linter.unusedVariables false
set_option linter.unusedSimpArgs false

/-! ### weftref3_header: function 69 -/
mutual
def weftref3_header.j0 : Nat → Int → List Int → Int → Int → Int → Bool → Bool → Int → Int → Int → Int → Int → List Int → Option (List Int)
 | 0, _, _, _, _, _, _, _, _, _, _, _, _, _ => none
 | k + 1, x2, x7, x8, x943000, x943001, x943002, x943003, x943004, x943005, x943006, x943007, x943008, x943009 => if x943003 = true then (weftref3_header.j1 k x2 x7 (wrap64 (x8 + 8192)) x943000 x943001 x943002 x943003 x943004 x943005 x943006 x943007 x943008 x943009) else (weftref3_header.j1 k x2 x7 x8 x943000 x943001 x943002 x943003 x943004 x943005 x943006 x943007 x943008 x943009)
def weftref3_header.j1 : Nat → Int → List Int → Int → Int → Int → Bool → Bool → Int → Int → Int → Int → Int → List Int → Option (List Int)
 | 0, _, _, _, _, _, _, _, _, _, _, _, _, _ => none
 | k + 1, x2, x7, x8, x943000, x943001, x943002, x943003, x943004, x943005, x943006, x943007, x943008, x943009 => (weftref3_put2.f x7 x8).bind fun t955 => ((some (([x943005, x943006] : List Int) : List Int)).bind fun y958 => (if t955.length + y958.length < 140737488355328 then ((weftref3_put2.f (t955 ++ y958) (wrap64 (x2))).bind fun t964 => ((weftref3_put2.f t964 (wrap64 (Int.tdiv (wrap64 (x943007)) 65536))).bind fun t967 => ((weftref3_put2.f t967 (Int.tmod (wrap64 (x943007)) 65536)).bind fun t970 => ((weftref3_put2.f t970 (wrap64 (Int.tdiv (wrap64 (x943008)) 65536))).bind fun t973 => ((weftref3_put2.f t973 (Int.tmod (wrap64 (x943008)) 65536)).bind fun t976 => (weftref3_header.l0 k t976 0 x943000 x943001 x943002 x943003 x943004 x943005 x943006 x943007 x943008 x943009)))))) else (none)))
def weftref3_header.l0 : Nat → List Int → Int → Int → Int → Bool → Bool → Int → Int → Int → Int → Int → List Int → Option (List Int)
 | 0, _, _, _, _, _, _, _, _, _, _, _, _ => none
 | k + 1, x7, x9, x943000, x943001, x943002, x943003, x943004, x943005, x943006, x943007, x943008, x943009 => if x9 < (x943009.length : Int) then (if 0 ≤ x9 then (if x7.length < 140737488355328 then (weftref3_header.l0 k (x7 ++ [rd x943009 x9]) (wrap64 (x9 + 1)) x943000 x943001 x943002 x943003 x943004 x943005 x943006 x943007 x943008 x943009) else (none)) else (none)) else (some x7)
end
def weftref3_header.f (k : Nat) (a0_0 : Int) (a0_1 : Int) (a0_2 : Bool) (a0_3 : Bool) (a0_4 : Int) (a0_5 : Int) (a0_6 : Int) (a0_7 : Int) (a0_8 : Int) (l0_9 : List Int) (a1 : Int) (a2 : Int) : Option (List Int) := (some (([(wrap64 (69 + (wrap64 ((l0_9.length : Int) / 4)))) % 256, a0_0] : List Int) : List Int)).bind fun y943 => (if ([] : List Int).length + y943.length < 140737488355328 then ((weftref3_put2.f (([] : List Int) ++ y943) a1).bind fun t949 => ((weftref3_put2.f t949 (wrap64 (a0_1))).bind fun t952 => (if a0_2 = true then (weftref3_header.j0 k a2 t952 (wrap64 ((wrap64 (Int.tdiv a0_4 8)) + 16384)) a0_0 a0_1 a0_2 a0_3 a0_4 a0_5 a0_6 a0_7 a0_8 l0_9) else (weftref3_header.j0 k a2 t952 (wrap64 (Int.tdiv a0_4 8)) a0_0 a0_1 a0_2 a0_3 a0_4 a0_5 a0_6 a0_7 a0_8 l0_9)))) else (none))
set_option maxHeartbeats 8000000 in
set_option maxRecDepth 100000 in
theorem weftref3_header.calls (k : Nat) (a0_0 : Int) (a0_1 : Int) (a0_2 : Bool) (a0_3 : Bool) (a0_4 : Int) (a0_5 : Int) (a0_6 : Int) (a0_7 : Int) (a0_8 : Int) (A0_9 : Option Addr) (c0_9 : Nat) (l0_9 : List Int) (a1 : Int) (a2 : Int) (r : List Int) (w : World) (hr0_9 : Kd.C (Kd.int .u8) w A0_9 l0_9.length l0_9) (hc0_9 : l0_9.length ≤ c0_9) (h : weftref3_header.f k a0_0 a0_1 a0_2 a0_3 a0_4 a0_5 a0_6 a0_7 a0_8 l0_9 a1 a2 = some r) :
  Calls Try.prog 69 #[.agg #[.int .u8 a0_0, .int .u16 a0_1, .bool a0_2, .bool a0_3, .int .i64 a0_4, .int .u8 a0_5, .int .u8 a0_6, .int .u32 a0_7, .int .u32 a0_8, .slice A0_9 l0_9.length c0_9], .int .i64 a1, .int .u16 a2] w fun e w' => ∃ v0_ : Value, e = .returned (v0_) ∧ Kd.R (Kd.int .u8) 5 w' w.heap.size (fun _ => True) v0_ r ∧ Below w.heap.size w w' := by
 have hu41 := Try.underlying41
 have HR0_9 := zam hr0_9
 have HC0_9 := zam hc0_9
 clear hr0_9 hc0_9
 have HB := zam (Below.refl w.heap.size w)
 have H : ((some (([(wrap64 (69 + (wrap64 ((l0_9.length : Int) / 4)))) % 256, a0_0] : List Int) : List Int)).bind fun y943 => (if ([] : List Int).length + y943.length < 140737488355328 then ((weftref3_put2.f (([] : List Int) ++ y943) a1).bind fun t949 => ((weftref3_put2.f t949 (wrap64 (a0_1))).bind fun t952 => (if a0_2 = true then (weftref3_header.j0 k a2 t952 (wrap64 ((wrap64 (Int.tdiv a0_4 8)) + 16384)) a0_0 a0_1 a0_2 a0_3 a0_4 a0_5 a0_6 a0_7 a0_8 l0_9) else (weftref3_header.j0 k a2 t952 (wrap64 (Int.tdiv a0_4 8)) a0_0 a0_1 a0_2 a0_3 a0_4 a0_5 a0_6 a0_7 a0_8 l0_9)))) else (none))) = some r := h
 clear h
 obtain ⟨y943, hy943⟩ : ∃ y_ : List Int, y_ = (([(wrap64 (69 + (wrap64 ((l0_9.length : Int) / 4)))) % 256, a0_0] : List Int)) := ⟨_, rfl⟩
 replace H : (if ([] : List Int).length + y943.length < 140737488355328 then ((weftref3_put2.f (([] : List Int) ++ y943) a1).bind fun t949 => ((weftref3_put2.f t949 (wrap64 (a0_1))).bind fun t952 => (if a0_2 = true then (weftref3_header.j0 k a2 t952 (wrap64 ((wrap64 (Int.tdiv a0_4 8)) + 16384)) a0_0 a0_1 a0_2 a0_3 a0_4 a0_5 a0_6 a0_7 a0_8 l0_9) else (weftref3_header.j0 k a2 t952 (wrap64 (Int.tdiv a0_4 8)) a0_0 a0_1 a0_2 a0_3 a0_4 a0_5 a0_6 a0_7 a0_8 l0_9)))) else (none)) = some r := by first | (rw [hy943]; with_reducible exact H) | (have H2_ := (Option.bind_some _ _).symm.trans H; rw [hy943]; with_reducible exact H2_) | (have H2_ := (Option.bind_some _ _).symm.trans H; with_reducible exact H2_) | with_reducible exact H | (rw [hy943]; exact H) | exact H
 have Ny943 := zam hy943
 clear hy943
 by_cases c4 : ([] : List Int).length + y943.length < 140737488355328
 ·
  rw [if_pos c4] at H
  have LMc4 := zam c4
  clear c4
  obtain ⟨y946, hy946⟩ : ∃ y_ : List Int, y_ = (([] : List Int) ++ y943) := ⟨_, rfl⟩
  replace H : ((weftref3_put2.f y946 a1).bind fun t949 => ((weftref3_put2.f t949 (wrap64 (a0_1))).bind fun t952 => (if a0_2 = true then (weftref3_header.j0 k a2 t952 (wrap64 ((wrap64 (Int.tdiv a0_4 8)) + 16384)) a0_0 a0_1 a0_2 a0_3 a0_4 a0_5 a0_6 a0_7 a0_8 l0_9) else (weftref3_header.j0 k a2 t952 (wrap64 (Int.tdiv a0_4 8)) a0_0 a0_1 a0_2 a0_3 a0_4 a0_5 a0_6 a0_7 a0_8 l0_9)))) = some r := by first | (rw [hy946]; with_reducible exact H) | (have H2_ := (Option.bind_some _ _).symm.trans H; rw [hy946]; with_reducible exact H2_) | (have H2_ := (Option.bind_some _ _).symm.trans H; with_reducible exact H2_) | with_reducible exact H | (rw [hy946]; exact H) | exact H
  have Ny946 := zam hy946
  clear hy946
  replace H := Option.bind_eq_some_iff.mp H
  obtain ⟨t949, A50, H⟩ := H
  replace H : ((weftref3_put2.f t949 (wrap64 (a0_1))).bind fun t952 => (if a0_2 = true then (weftref3_header.j0 k a2 t952 (wrap64 ((wrap64 (Int.tdiv a0_4 8)) + 16384)) a0_0 a0_1 a0_2 a0_3 a0_4 a0_5 a0_6 a0_7 a0_8 l0_9) else (weftref3_header.j0 k a2 t952 (wrap64 (Int.tdiv a0_4 8)) a0_0 a0_1 a0_2 a0_3 a0_4 a0_5 a0_6 a0_7 a0_8 l0_9))) = some r := H
  have A5 := zam A50
  clear A50
  replace H := Option.bind_eq_some_iff.mp H
  obtain ⟨t952, A60, H⟩ := H
  replace H : (if a0_2 = true then (weftref3_header.j0 k a2 t952 (wrap64 ((wrap64 (Int.tdiv a0_4 8)) + 16384)) a0_0 a0_1 a0_2 a0_3 a0_4 a0_5 a0_6 a0_7 a0_8 l0_9) else (weftref3_header.j0 k a2 t952 (wrap64 (Int.tdiv a0_4 8)) a0_0 a0_1 a0_2 a0_3 a0_4 a0_5 a0_6 a0_7 a0_8 l0_9)) = some r := H
  have A6 := zam A60
  clear A60
  have HC7 := zam H
  clear H
  go_enter Try.func69, Try.ntmps69
  go_upto_if 33 with (first | ((with_reducible refine gate_dst (N := 3) rfl ?_); refine box_event ?hg (N := 3) ?hd (cs := #[.int .u8 a0_0, .int .u16 a0_1, .bool a0_2, .bool a0_3, .int .i64 a0_4, .int .u8 a0_5, .int .u8 a0_6, .int .u32 a0_7, .int .u32 a0_8, .slice A0_9 l0_9.length c0_9]) (t := 41) ?hr ?_; (case hd => rfl); (case hg => rfl); (case hr => first | (go_simp; done) | (go_simp; rfl)); intro gb942 hg w8 hbox hb; have n0_ := zam (below_step zqxb21_5 hb); have n1_ := zam (hbox); have n2_ := zam ((by rw [hg]; exact (below_size zqxb21_5) : w.heap.size ≤ gb942)); have n3_ := zam ((by rw [hg]; exact (below_size zqxb21_5) : w.heap.size ≤ gb942)); clear HB; have HB := n0_; have BK942 := n1_; have GW942 := n2_; have GE942 := n3_; clear n0_ n1_ n2_ n3_; clear hb hbox hg; have hcz9_0 : w8.cell? ⟨gb942, 0, none⟩ = some (.int .u8 a0_0) := (zbc BK942.out 0).trans rfl; have hcz9_1 : w8.cell? ⟨gb942, 1, none⟩ = some (.int .u16 a0_1) := (zbc BK942.out 1).trans rfl; have hcz9_2 : w8.cell? ⟨gb942, 2, none⟩ = some (.bool a0_2) := (zbc BK942.out 2).trans rfl; have hcz9_3 : w8.cell? ⟨gb942, 3, none⟩ = some (.bool a0_3) := (zbc BK942.out 3).trans rfl; have hcz9_4 : w8.cell? ⟨gb942, 4, none⟩ = some (.int .i64 a0_4) := (zbc BK942.out 4).trans rfl; have hcz9_5 : w8.cell? ⟨gb942, 5, none⟩ = some (.int .u8 a0_5) := (zbc BK942.out 5).trans rfl; have hcz9_6 : w8.cell? ⟨gb942, 6, none⟩ = some (.int .u8 a0_6) := (zbc BK942.out 6).trans rfl; have hcz9_7 : w8.cell? ⟨gb942, 7, none⟩ = some (.int .u32 a0_7) := (zbc BK942.out 7).trans rfl; have hcz9_8 : w8.cell? ⟨gb942, 8, none⟩ = some (.int .u32 a0_8) := (zbc BK942.out 8).trans rfl; have hcz9_9 : w8.cell? ⟨gb942, 9, none⟩ = some (.slice A0_9 l0_9.length c0_9) := (zbc BK942.out 9).trans rfl; have hfz9_0 := zbf BK942.out 0; have hfz9_1 := zbf BK942.out 1; have hfz9_2 := zbf BK942.out 2; have hfz9_3 := zbf BK942.out 3; have hfz9_4 := zbf BK942.out 4; have hfz9_5 := zbf BK942.out 5; have hfz9_6 := zbf BK942.out 6; have hfz9_7 := zbf BK942.out 7; have hfz9_8 := zbf BK942.out 8; have hfz9_9 := zbf BK942.out 9) | ((with_reducible refine gate_dst (N := 19) rfl ?_); refine Kd.R_lit (Kd.int .u8) _ 5 ?hg (N := 19) ?hd (xs := ([(wrap64 (69 + (wrap64 ((l0_9.length : Int) / 4)))) % 256, a0_0] : List Int)) (inner := [.int .u8 ((wrap64 (69 + (wrap64 ((l0_9.length : Int) / 4)))) % 256), .int .u8 a0_0]) (ok := fun _ => True) (okp := fun _ => True) ?hr ?hp (fun _ hk => hk) trivial (Below.refl _ _) (Nat.le_refl _) (by simp) ?_; (case hd => rfl); (case hg => rfl); (case hr => first | (go_simp; done) | (go_simp; rfl)); (case hp => exact (Reps.one (show Kd.M (Kd.int .u8) _ _ _ ((wrap64 (69 + (wrap64 ((l0_9.length : Int) / 4)))) % 256) [.int .u8 ((wrap64 (69 + (wrap64 ((l0_9.length : Int) / 4)))) % 256)] from rfl) (Reps.one (show Kd.M (Kd.int .u8) _ _ _ a0_0 [.int .u8 a0_0] from rfl) (Reps.none _ _)))); intro v944 w10 ho11 hb hg_ hnew_; clear hg_ hnew_; (first | rw [← Ny943.out] at ho11 | (simp only [Int.reduceToNat] at ho11; rw [← Ny943.out] at ho11)); have n0_ := zam (Kd.R_lower ho11 (below_size zqxb21_1)); have n1_ := zam (blk_below (g := gb942) (o := .cells #[.int .u8 a0_0, .int .u16 a0_1, .bool a0_2, .bool a0_3, .int .i64 a0_4, .int .u8 a0_5, .int .u8 a0_6, .int .u32 a0_7, .int .u32 a0_8, .slice A0_9 l0_9.length c0_9] 41 (0, 0)) zqxb21_0 hb); have n2_ := zam (below_step zqxb21_1 hb); clear BK942; clear HB; have HO945 := n0_; have BK942 := n1_; have HB := n2_; clear n0_ n1_ n2_; clear hb ho11; obtain ⟨Ao13, co13, eo13⟩ := Kd.R_slice HO945.out; subst eo13) | ((with_reducible refine gate_builtin (b := .append) (xs := #[.tmp 10, .tmp 19]) rfl ?_); at_builtin; refine Kd.R_append_rows (Kd.int .u8) (w0 := w) w.heap.size rfl (.tmp 10) (.tmp 19) 24 5 (.int .u8 0) 1 rfl Try.underlying24 info5 rfl (by decide) (by omega) (.slice none 0 0) ([] : List Int) y943 _ _ _ (fun k_ => some k_ ≠ (.slice Ao13 y943.length co13 : Value).ownBlock) (fun _ => False) rfl rfl ?aO ?aR (fun _ _ h => h) (fun _ h => h.elim) ?aF ?aB ?aS ?aL ?_; (case aR => repeat (first | exact (Kd.R_reads' HO945.out).2.2 | (with_reducible refine Kd.C_alloc ?_ _) | (with_reducible refine Kd.C_drewN ?_ _) | (with_reducible refine Kd.C_drew ?_))); (case aB => exact zqxb21_1); (case aF => exact (fun k_ hk => Kd.fresh' (Kd.R_lt zqxb21_4) k_ hk)); (case aO => exact ((Kd.R_nil _ _ _ _ (fun k_ => some k_ ≠ (.slice Ao13 y943.length co13 : Value).ownBlock)))); (case aS => exact (below_size zqxb21_1)); (case aL => have := LMc4.out; omega); intro v947 w12 ho hb hg hat; rw [← Ny946.out] at ho; have n0_ := zam (blk_grown (g := gb942) (o := .cells #[.int .u8 a0_0, .int .u16 a0_1, .bool a0_2, .bool a0_3, .int .i64 a0_4, .int .u8 a0_5, .int .u8 a0_6, .int .u32 a0_7, .int .u32 a0_8, .slice A0_9 l0_9.length c0_9] 41 (0, 0)) zqxb21_0 hg (by simp [Value.ownBlock])); have n1_ := zam (Kd.R_after (Kd.R_apart_nil zqxb21_4) hg hat); have n2_ := zam (hb); have n3_ := zam (ho); clear BK942; clear HO945; clear HB; have BK942 := n0_; have HO945 := n1_; have HB := n2_; have HO948 := n3_; clear n0_ n1_ n2_ n3_; clear ho hb hg hat; obtain ⟨Ao14, co14, eo14⟩ := Kd.R_slice HO948.out; subst eo14) | ((with_reducible refine gate_callee (f := 80) rfl ?_); refine goesL_ (some 23) rfl rfl Try.func80 (by kernel_rfl) rfl #[.slice Ao14 y946.length co14, .int .i64 a1] rfl zqxb21_2 ?_; (with_reducible refine (weftref3_put2.calls (fun k_ => some k_ = (.slice Ao14 y946.length co14 : Value).ownBlock) (.slice Ao14 y946.length co14) y946 a1 t949 w _ ?side1 ?side2 A5.out).mono ?_); (case side1 => repeat (first | (with_reducible first | exact HB.out | apply below_alloc | apply pw_below_drewN | apply below_drew1 | refine below_set ?_ GE942.out) | exact HB.out)); (case side2 => (with_reducible repeat (first | apply Kd.R_alloc | apply Kd.R_drewN | apply Kd.R_drew)); exact Kd.R_tight rfl HO948.out); rintro e w15 ⟨v950, rfl, ho0, hb, hkp⟩; refine ⟨_, rfl, ?_⟩; have n0_ := zam (blk_kept zqxb21_0 hkp (fun hs_ => (fun e_ => (Kd.R_ne HO948.out BK942.out (by decide)) e_) hs_)); have n1_ := zam (Kd.R_mono (ok' := fun k_ => some k_ ≠ (v950 : Value).ownBlock) (Kd.R_keptB (HO945.out) hkp (fun k_ hk_ hs_ => (hk_.2) hs_)) (fun k_ hk_ => fun e_ => Or.elim (ho0.1 k_ e_.symm) (fun hs_ => hk_.2.1 hs_) (fun hn_ => Nat.not_le.2 hk_.2.2 hn_))); have n2_ := zam (Kd.R_mono (ok' := fun k_ => some k_ ≠ (.slice Ao13 y943.length co13 : Value).ownBlock) ho0 (fun k_ hk_ => Or.elim hk_ (fun hs_ => fun e_ => (((HO945.out).1 k_ e_.symm).2) hs_) (fun hn_ => (Kd.fresh' (Kd.R_lt zqxb21_4) k_ hn_)))); have n3_ := zam (hb); clear BK942; clear HO945; clear HB; clear HO948; have BK942 := n0_; have HO945 := n1_; have HO951 := n2_; have HB := n3_; clear n0_ n1_ n2_ n3_; (try clear hb); (try clear hkp); (try clear ho0); have hcz16_0 : w15.cell? ⟨gb942, 0, none⟩ = some (.int .u8 a0_0) := (zbc BK942.out 0).trans rfl; have hcz16_1 : w15.cell? ⟨gb942, 1, none⟩ = some (.int .u16 a0_1) := (zbc BK942.out 1).trans rfl; have hcz16_2 : w15.cell? ⟨gb942, 2, none⟩ = some (.bool a0_2) := (zbc BK942.out 2).trans rfl; have hcz16_3 : w15.cell? ⟨gb942, 3, none⟩ = some (.bool a0_3) := (zbc BK942.out 3).trans rfl; have hcz16_4 : w15.cell? ⟨gb942, 4, none⟩ = some (.int .i64 a0_4) := (zbc BK942.out 4).trans rfl; have hcz16_5 : w15.cell? ⟨gb942, 5, none⟩ = some (.int .u8 a0_5) := (zbc BK942.out 5).trans rfl; have hcz16_6 : w15.cell? ⟨gb942, 6, none⟩ = some (.int .u8 a0_6) := (zbc BK942.out 6).trans rfl; have hcz16_7 : w15.cell? ⟨gb942, 7, none⟩ = some (.int .u32 a0_7) := (zbc BK942.out 7).trans rfl; have hcz16_8 : w15.cell? ⟨gb942, 8, none⟩ = some (.int .u32 a0_8) := (zbc BK942.out 8).trans rfl; have hcz16_9 : w15.cell? ⟨gb942, 9, none⟩ = some (.slice A0_9 l0_9.length c0_9) := (zbc BK942.out 9).trans rfl; have hfz16_0 := zbf BK942.out 0; have hfz16_1 := zbf BK942.out 1; have hfz16_2 := zbf BK942.out 2; have hfz16_3 := zbf BK942.out 3; have hfz16_4 := zbf BK942.out 4; have hfz16_5 := zbf BK942.out 5; have hfz16_6 := zbf BK942.out 6; have hfz16_7 := zbf BK942.out 7; have hfz16_8 := zbf BK942.out 8; have hfz16_9 := zbf BK942.out 9; obtain ⟨Ao17, co17, eo17⟩ := Kd.R_slice HO951.out; subst eo17) | ((with_reducible refine gate_callee (f := 80) rfl ?_); refine goesL_ (some 28) rfl rfl Try.func80 (by kernel_rfl) rfl #[.slice Ao17 t949.length co17, .int .i64 (wrap64 (a0_1))] rfl zqxb21_2 ?_; (with_reducible refine (weftref3_put2.calls (fun k_ => some k_ = (.slice Ao17 t949.length co17 : Value).ownBlock) (.slice Ao17 t949.length co17) t949 (wrap64 (a0_1)) t952 w _ ?side1 ?side2 A6.out).mono ?_); (case side1 => repeat (first | (with_reducible first | exact HB.out | apply below_alloc | apply pw_below_drewN | apply below_drew1 | refine below_set ?_ GE942.out) | exact HB.out)); (case side2 => (with_reducible repeat (first | apply Kd.R_alloc | apply Kd.R_drewN | apply Kd.R_drew)); exact Kd.R_tight rfl HO951.out); rintro e w18 ⟨v953, rfl, ho0, hb, hkp⟩; refine ⟨_, rfl, ?_⟩; have n0_ := zam (blk_kept zqxb21_0 hkp (fun hs_ => (fun e_ => (Kd.R_ne HO951.out BK942.out (by decide)) e_) hs_)); have n1_ := zam (Kd.R_mono (ok' := fun k_ => some k_ ≠ (v953 : Value).ownBlock) (Kd.R_keptB (HO945.out) hkp (fun k_ hk_ hs_ => (hk_) hs_)) (fun k_ hk_ => fun e_ => Or.elim (ho0.1 k_ e_.symm) (fun hs_ => hk_.2.1 hs_) (fun hn_ => Nat.not_le.2 hk_.2.2 hn_))); have n2_ := zam (Kd.R_mono (ok' := fun k_ => some k_ ≠ (.slice Ao13 y943.length co13 : Value).ownBlock) ho0 (fun k_ hk_ => Or.elim hk_ (fun hs_ => fun e_ => (((HO945.out).1 k_ e_.symm)) hs_) (fun hn_ => (Kd.fresh' (Kd.R_lt zqxb21_4) k_ hn_)))); have n3_ := zam (hb); clear BK942; clear HO945; clear HB; clear HO951; have BK942 := n0_; have HO945 := n1_; have HO954 := n2_; have HB := n3_; clear n0_ n1_ n2_ n3_; (try clear hb); (try clear hkp); (try clear ho0); have hcz19_0 : w18.cell? ⟨gb942, 0, none⟩ = some (.int .u8 a0_0) := (zbc BK942.out 0).trans rfl; have hcz19_1 : w18.cell? ⟨gb942, 1, none⟩ = some (.int .u16 a0_1) := (zbc BK942.out 1).trans rfl; have hcz19_2 : w18.cell? ⟨gb942, 2, none⟩ = some (.bool a0_2) := (zbc BK942.out 2).trans rfl; have hcz19_3 : w18.cell? ⟨gb942, 3, none⟩ = some (.bool a0_3) := (zbc BK942.out 3).trans rfl; have hcz19_4 : w18.cell? ⟨gb942, 4, none⟩ = some (.int .i64 a0_4) := (zbc BK942.out 4).trans rfl; have hcz19_5 : w18.cell? ⟨gb942, 5, none⟩ = some (.int .u8 a0_5) := (zbc BK942.out 5).trans rfl; have hcz19_6 : w18.cell? ⟨gb942, 6, none⟩ = some (.int .u8 a0_6) := (zbc BK942.out 6).trans rfl; have hcz19_7 : w18.cell? ⟨gb942, 7, none⟩ = some (.int .u32 a0_7) := (zbc BK942.out 7).trans rfl; have hcz19_8 : w18.cell? ⟨gb942, 8, none⟩ = some (.int .u32 a0_8) := (zbc BK942.out 8).trans rfl; have hcz19_9 : w18.cell? ⟨gb942, 9, none⟩ = some (.slice A0_9 l0_9.length c0_9) := (zbc BK942.out 9).trans rfl; have hfz19_0 := zbf BK942.out 0; have hfz19_1 := zbf BK942.out 1; have hfz19_2 := zbf BK942.out 2; have hfz19_3 := zbf BK942.out 3; have hfz19_4 := zbf BK942.out 4; have hfz19_5 := zbf BK942.out 5; have hfz19_6 := zbf BK942.out 6; have hfz19_7 := zbf BK942.out 7; have hfz19_8 := zbf BK942.out 8; have hfz19_9 := zbf BK942.out 9))
  (try simp only [Act.put, List.setIfInBounds_toArray, List.set_cons_zero, List.set_cons_succ])
  go_cut [8] (fun v8 wc => ∃ (kq : Nat) (x8_6 : Int), v8 = .int .i64 x8_6 ∧ Aside0 (weftref3_header.j0 kq a2 t952 x8_6 a0_0 a0_1 a0_2 a0_3 a0_4 a0_5 a0_6 a0_7 a0_8 l0_9 = some r) ∧ Aside0 (kq ≤ k) ∧ Aside0 (Kd.R (Kd.int .u8) 5 wc w.heap.size (fun _ => True) v953 t952) ∧ Aside0 (wc.heap[gb942]? = some (.cells #[.int .u8 a0_0, .int .u16 a0_1, .bool a0_2, .bool a0_3, .int .i64 a0_4, .int .u8 a0_5, .int .u8 a0_6, .int .u32 a0_7, .int .u32 a0_8, (.slice A0_9 l0_9.length c0_9)] 41 (0, 0))) ∧ Aside0 (Below w.heap.size w wc))
  case first =>
   have H := HC7.out
   clear HC7
   by_cases c20 : a0_2 = true
   ·
    subst c20
    have H1 : (weftref3_header.j0 k a2 t952 (wrap64 ((wrap64 (Int.tdiv a0_4 8)) + 16384)) a0_0 a0_1 true a0_3 a0_4 a0_5 a0_6 a0_7 a0_8 l0_9) = some r := by rw [if_pos rfl] at H; exact H
    clear H
    have H := H1
    clear H1
    have H' := zam H
    clear H
    go_wp2
    go_meet
    case rel => exact ⟨_, (wrap64 ((wrap64 (Int.tdiv a0_4 8)) + 16384)), zqxb21_6, H', ⟨by first | omega | exact Nat.le_refl _⟩, ⟨by (with_reducible repeat (first | apply Kd.R_alloc | apply Kd.R_drewN | apply Kd.R_drew)); exact Kd.R_mono HO954.out (fun _ hk => trivial)⟩, ⟨by first | (with_reducible exact BK942.out) | (with_reducible exact zdn BK942.out _) | (with_reducible exact zdr BK942.out) | ((with_reducible repeat (first | refine zdn ?_ _ | refine zdr ?_ | refine blk_alloc ?_ _)); exact BK942.out)⟩, ⟨by repeat (first | (with_reducible first | exact HB.out | apply below_alloc | apply pw_below_drewN | apply below_drew1 | refine below_set ?_ GE942.out) | exact HB.out)⟩⟩
   ·
    replace c20 := Bool.eq_false_iff.mpr c20
    subst c20
    have H1 : (weftref3_header.j0 k a2 t952 (wrap64 (Int.tdiv a0_4 8)) a0_0 a0_1 false a0_3 a0_4 a0_5 a0_6 a0_7 a0_8 l0_9) = some r := by rw [if_neg (show ¬ (false = true) by decide)] at H; exact H
    clear H
    have H := H1
    clear H1
    have H' := zam H
    clear H
    go_wp2
    go_meet
    case rel => exact ⟨_, (wrap64 (Int.tdiv a0_4 8)), zqxb21_6, H', ⟨by first | omega | exact Nat.le_refl _⟩, ⟨by (with_reducible repeat (first | apply Kd.R_alloc | apply Kd.R_drewN | apply Kd.R_drew)); exact Kd.R_mono HO954.out (fun _ hk => trivial)⟩, ⟨by first | (with_reducible exact BK942.out) | (with_reducible exact zdn BK942.out _) | (with_reducible exact zdr BK942.out) | ((with_reducible repeat (first | refine zdn ?_ _ | refine zdr ?_ | refine blk_alloc ?_ _)); exact BK942.out)⟩, ⟨by repeat (first | (with_reducible first | exact HB.out | apply below_alloc | apply pw_below_drewN | apply below_drew1 | refine below_set ?_ GE942.out) | exact HB.out)⟩⟩
  case rest =>
   clear HC7
   try clear c2
   try clear p2
   try clear c4
   try clear c6
   try clear p6
   try clear c8
   try clear c20
   try clear hcz16_0
   try clear hcz16_1
   try clear hcz16_2
   try clear hcz16_3
   try clear hcz16_4
   try clear hcz16_5
   try clear hcz16_6
   try clear hcz16_7
   try clear hcz16_8
   try clear hcz16_9
   try clear hcz19_0
   try clear hcz19_1
   try clear hcz19_2
   try clear hcz19_3
   try clear hcz19_4
   try clear hcz19_5
   try clear hcz19_6
   try clear hcz19_7
   try clear hcz19_8
   try clear hcz19_9
   try clear hcz9_0
   try clear hcz9_1
   try clear hcz9_2
   try clear hcz9_3
   try clear hcz9_4
   try clear hcz9_5
   try clear hcz9_6
   try clear hcz9_7
   try clear hcz9_8
   try clear hcz9_9
   try clear hfz16_0
   try clear hfz16_1
   try clear hfz16_2
   try clear hfz16_3
   try clear hfz16_4
   try clear hfz16_5
   try clear hfz16_6
   try clear hfz16_7
   try clear hfz16_8
   try clear hfz16_9
   try clear hfz19_0
   try clear hfz19_1
   try clear hfz19_2
   try clear hfz19_3
   try clear hfz19_4
   try clear hfz19_5
   try clear hfz19_6
   try clear hfz19_7
   try clear hfz19_8
   try clear hfz19_9
   try clear hfz9_0
   try clear hfz9_1
   try clear hfz9_2
   try clear hfz9_3
   try clear hfz9_4
   try clear hfz9_5
   try clear hfz9_6
   try clear hfz9_7
   try clear hfz9_8
   try clear hfz9_9
   obtain ⟨kq, x8_6, rfl, HA, HJ6, HO_7, BK942, HB⟩ := hcut
   cases kq with
   | zero => exact absurd HA.out (by simp [weftref3_header.j0])
   | succ kj6 =>
    have H := HA.out
    clear HA
    simp only [weftref3_header.j0] at H
    have HC21 := zam H
    clear H
    have hcz22_0 : wc.cell? ⟨gb942, 0, none⟩ = some (.int .u8 a0_0) := (zbc BK942.out 0).trans rfl
    have hcz22_1 : wc.cell? ⟨gb942, 1, none⟩ = some (.int .u16 a0_1) := (zbc BK942.out 1).trans rfl
    have hcz22_2 : wc.cell? ⟨gb942, 2, none⟩ = some (.bool a0_2) := (zbc BK942.out 2).trans rfl
    have hcz22_3 : wc.cell? ⟨gb942, 3, none⟩ = some (.bool a0_3) := (zbc BK942.out 3).trans rfl
    have hcz22_4 : wc.cell? ⟨gb942, 4, none⟩ = some (.int .i64 a0_4) := (zbc BK942.out 4).trans rfl
    have hcz22_5 : wc.cell? ⟨gb942, 5, none⟩ = some (.int .u8 a0_5) := (zbc BK942.out 5).trans rfl
    have hcz22_6 : wc.cell? ⟨gb942, 6, none⟩ = some (.int .u8 a0_6) := (zbc BK942.out 6).trans rfl
    have hcz22_7 : wc.cell? ⟨gb942, 7, none⟩ = some (.int .u32 a0_7) := (zbc BK942.out 7).trans rfl
    have hcz22_8 : wc.cell? ⟨gb942, 8, none⟩ = some (.int .u32 a0_8) := (zbc BK942.out 8).trans rfl
    have hcz22_9 : wc.cell? ⟨gb942, 9, none⟩ = some (.slice A0_9 l0_9.length c0_9) := (zbc BK942.out 9).trans rfl
    have hfz22_0 := zbf BK942.out 0
    have hfz22_1 := zbf BK942.out 1
    have hfz22_2 := zbf BK942.out 2
    have hfz22_3 := zbf BK942.out 3
    have hfz22_4 := zbf BK942.out 4
    have hfz22_5 := zbf BK942.out 5
    have hfz22_6 := zbf BK942.out 6
    have hfz22_7 := zbf BK942.out 7
    have hfz22_8 := zbf BK942.out 8
    have hfz22_9 := zbf BK942.out 9
    go_upto_if 37 with (fail)
    go_cut [8] (fun v8 wc => ∃ (kq : Nat) (x8_20 : Int), v8 = .int .i64 x8_20 ∧ Aside0 (weftref3_header.j1 kq a2 t952 x8_20 a0_0 a0_1 a0_2 a0_3 a0_4 a0_5 a0_6 a0_7 a0_8 l0_9 = some r) ∧ Aside0 (kq ≤ kj6) ∧ Aside0 (Kd.R (Kd.int .u8) 5 wc w.heap.size (fun _ => True) v953 t952) ∧ Aside0 (wc.heap[gb942]? = some (.cells #[.int .u8 a0_0, .int .u16 a0_1, .bool a0_2, .bool a0_3, .int .i64 a0_4, .int .u8 a0_5, .int .u8 a0_6, .int .u32 a0_7, .int .u32 a0_8, (.slice A0_9 l0_9.length c0_9)] 41 (0, 0))) ∧ Aside0 (Below w.heap.size w wc))
    case first =>
     have H := HC21.out
     clear HC21
     by_cases c23 : a0_3 = true
     ·
      subst c23
      have H1 : (weftref3_header.j1 kj6 a2 t952 (wrap64 (x8_6 + 8192)) a0_0 a0_1 a0_2 true a0_4 a0_5 a0_6 a0_7 a0_8 l0_9) = some r := by rw [if_pos rfl] at H; exact H
      clear H
      have H := H1
      clear H1
      have H' := zam H
      clear H
      go_wp2
      go_meet
      case rel => exact ⟨_, (wrap64 (x8_6 + 8192)), zqxb21_6, H', ⟨by have := HJ6.out; first | omega | exact Nat.le_refl _⟩, ⟨by (with_reducible repeat (first | apply Kd.R_alloc | apply Kd.R_drewN | apply Kd.R_drew)); exact HO_7.out⟩, ⟨by first | (with_reducible exact BK942.out) | (with_reducible exact zdn BK942.out _) | (with_reducible exact zdr BK942.out) | ((with_reducible repeat (first | refine zdn ?_ _ | refine zdr ?_ | refine blk_alloc ?_ _)); exact BK942.out)⟩, ⟨by repeat (first | (with_reducible first | exact HB.out | apply below_alloc | apply pw_below_drewN | apply below_drew1 | refine below_set ?_ GE942.out) | exact HB.out)⟩⟩
     ·
      replace c23 := Bool.eq_false_iff.mpr c23
      subst c23
      have H1 : (weftref3_header.j1 kj6 a2 t952 x8_6 a0_0 a0_1 a0_2 false a0_4 a0_5 a0_6 a0_7 a0_8 l0_9) = some r := by rw [if_neg (show ¬ (false = true) by decide)] at H; exact H
      clear H
      have H := H1
      clear H1
      have H' := zam H
      clear H
      go_wp2
      go_meet
      case rel => exact ⟨_, (x8_6), zqxb21_6, H', ⟨by have := HJ6.out; first | omega | exact Nat.le_refl _⟩, ⟨by (with_reducible repeat (first | apply Kd.R_alloc | apply Kd.R_drewN | apply Kd.R_drew)); exact HO_7.out⟩, ⟨by first | (with_reducible exact BK942.out) | (with_reducible exact zdn BK942.out _) | (with_reducible exact zdr BK942.out) | ((with_reducible repeat (first | refine zdn ?_ _ | refine zdr ?_ | refine blk_alloc ?_ _)); exact BK942.out)⟩, ⟨by repeat (first | (with_reducible first | exact HB.out | apply below_alloc | apply pw_below_drewN | apply below_drew1 | refine below_set ?_ GE942.out) | exact HB.out)⟩⟩
    case rest =>
     clear HC21
     try clear c2
     try clear p2
     try clear c4
     try clear c6
     try clear p6
     try clear c8
     try clear c20
     try clear c23
     try clear hcz16_0
     try clear hcz16_1
     try clear hcz16_2
     try clear hcz16_3
     try clear hcz16_4
     try clear hcz16_5
     try clear hcz16_6
     try clear hcz16_7
     try clear hcz16_8
     try clear hcz16_9
     try clear hcz19_0
     try clear hcz19_1
     try clear hcz19_2
     try clear hcz19_3
     try clear hcz19_4
     try clear hcz19_5
     try clear hcz19_6
     try clear hcz19_7
     try clear hcz19_8
     try clear hcz19_9
     try clear hcz22_0
     try clear hcz22_1
     try clear hcz22_2
     try clear hcz22_3
     try clear hcz22_4
     try clear hcz22_5
     try clear hcz22_6
     try clear hcz22_7
     try clear hcz22_8
     try clear hcz22_9
     try clear hcz9_0
     try clear hcz9_1
     try clear hcz9_2
     try clear hcz9_3
     try clear hcz9_4
     try clear hcz9_5
     try clear hcz9_6
     try clear hcz9_7
     try clear hcz9_8
     try clear hcz9_9
     try clear hfz16_0
     try clear hfz16_1
     try clear hfz16_2
     try clear hfz16_3
     try clear hfz16_4
     try clear hfz16_5
     try clear hfz16_6
     try clear hfz16_7
     try clear hfz16_8
     try clear hfz16_9
     try clear hfz19_0
     try clear hfz19_1
     try clear hfz19_2
     try clear hfz19_3
     try clear hfz19_4
     try clear hfz19_5
     try clear hfz19_6
     try clear hfz19_7
     try clear hfz19_8
     try clear hfz19_9
     try clear hfz22_0
     try clear hfz22_1
     try clear hfz22_2
     try clear hfz22_3
     try clear hfz22_4
     try clear hfz22_5
     try clear hfz22_6
     try clear hfz22_7
     try clear hfz22_8
     try clear hfz22_9
     try clear hfz9_0
     try clear hfz9_1
     try clear hfz9_2
     try clear hfz9_3
     try clear hfz9_4
     try clear hfz9_5
     try clear hfz9_6
     try clear hfz9_7
     try clear hfz9_8
     try clear hfz9_9
     try clear p2
     try clear p6
     obtain ⟨kq, x8_20, rfl, HA, HJ20, HO_7, BK942, HB⟩ := hcut
     cases kq with
     | zero => exact absurd HA.out (by simp [weftref3_header.j1])
     | succ kj20 =>
      have H := HA.out
      clear HA
      simp only [weftref3_header.j1] at H
      replace H := Option.bind_eq_some_iff.mp H
      obtain ⟨t955, A240, H⟩ := H
      replace H : ((some (([a0_5, a0_6] : List Int) : List Int)).bind fun y958 => (if t955.length + y958.length < 140737488355328 then ((weftref3_put2.f (t955 ++ y958) (wrap64 (a2))).bind fun t964 => ((weftref3_put2.f t964 (wrap64 (Int.tdiv (wrap64 (a0_7)) 65536))).bind fun t967 => ((weftref3_put2.f t967 (Int.tmod (wrap64 (a0_7)) 65536)).bind fun t970 => ((weftref3_put2.f t970 (wrap64 (Int.tdiv (wrap64 (a0_8)) 65536))).bind fun t973 => ((weftref3_put2.f t973 (Int.tmod (wrap64 (a0_8)) 65536)).bind fun t976 => (weftref3_header.l0 kj20 t976 0 a0_0 a0_1 a0_2 a0_3 a0_4 a0_5 a0_6 a0_7 a0_8 l0_9)))))) else (none))) = some r := H
      have A24 := zam A240
      clear A240
      obtain ⟨y958, hy958⟩ : ∃ y_ : List Int, y_ = (([a0_5, a0_6] : List Int)) := ⟨_, rfl⟩
      replace H : (if t955.length + y958.length < 140737488355328 then ((weftref3_put2.f (t955 ++ y958) (wrap64 (a2))).bind fun t964 => ((weftref3_put2.f t964 (wrap64 (Int.tdiv (wrap64 (a0_7)) 65536))).bind fun t967 => ((weftref3_put2.f t967 (Int.tmod (wrap64 (a0_7)) 65536)).bind fun t970 => ((weftref3_put2.f t970 (wrap64 (Int.tdiv (wrap64 (a0_8)) 65536))).bind fun t973 => ((weftref3_put2.f t973 (Int.tmod (wrap64 (a0_8)) 65536)).bind fun t976 => (weftref3_header.l0 kj20 t976 0 a0_0 a0_1 a0_2 a0_3 a0_4 a0_5 a0_6 a0_7 a0_8 l0_9)))))) else (none)) = some r := by first | (rw [hy958]; with_reducible exact H) | (have H2_ := (Option.bind_some _ _).symm.trans H; rw [hy958]; with_reducible exact H2_) | (have H2_ := (Option.bind_some _ _).symm.trans H; with_reducible exact H2_) | with_reducible exact H | (rw [hy958]; exact H) | exact H
      have Ny958 := zam hy958
      clear hy958
      by_cases c25 : t955.length + y958.length < 140737488355328
      ·
       rw [if_pos c25] at H
       have LMc25 := zam c25
       clear c25
       obtain ⟨y961, hy961⟩ : ∃ y_ : List Int, y_ = (t955 ++ y958) := ⟨_, rfl⟩
       replace H : ((weftref3_put2.f y961 (wrap64 (a2))).bind fun t964 => ((weftref3_put2.f t964 (wrap64 (Int.tdiv (wrap64 (a0_7)) 65536))).bind fun t967 => ((weftref3_put2.f t967 (Int.tmod (wrap64 (a0_7)) 65536)).bind fun t970 => ((weftref3_put2.f t970 (wrap64 (Int.tdiv (wrap64 (a0_8)) 65536))).bind fun t973 => ((weftref3_put2.f t973 (Int.tmod (wrap64 (a0_8)) 65536)).bind fun t976 => (weftref3_header.l0 kj20 t976 0 a0_0 a0_1 a0_2 a0_3 a0_4 a0_5 a0_6 a0_7 a0_8 l0_9)))))) = some r := by first | (rw [hy961]; with_reducible exact H) | (have H2_ := (Option.bind_some _ _).symm.trans H; rw [hy961]; with_reducible exact H2_) | (have H2_ := (Option.bind_some _ _).symm.trans H; with_reducible exact H2_) | with_reducible exact H | (rw [hy961]; exact H) | exact H
       have Ny961 := zam hy961
       clear hy961
       replace H := Option.bind_eq_some_iff.mp H
       obtain ⟨t964, A260, H⟩ := H
       replace H : ((weftref3_put2.f t964 (wrap64 (Int.tdiv (wrap64 (a0_7)) 65536))).bind fun t967 => ((weftref3_put2.f t967 (Int.tmod (wrap64 (a0_7)) 65536)).bind fun t970 => ((weftref3_put2.f t970 (wrap64 (Int.tdiv (wrap64 (a0_8)) 65536))).bind fun t973 => ((weftref3_put2.f t973 (Int.tmod (wrap64 (a0_8)) 65536)).bind fun t976 => (weftref3_header.l0 kj20 t976 0 a0_0 a0_1 a0_2 a0_3 a0_4 a0_5 a0_6 a0_7 a0_8 l0_9))))) = some r := H
       have A26 := zam A260
       clear A260
       replace H := Option.bind_eq_some_iff.mp H
       obtain ⟨t967, A270, H⟩ := H
       replace H : ((weftref3_put2.f t967 (Int.tmod (wrap64 (a0_7)) 65536)).bind fun t970 => ((weftref3_put2.f t970 (wrap64 (Int.tdiv (wrap64 (a0_8)) 65536))).bind fun t973 => ((weftref3_put2.f t973 (Int.tmod (wrap64 (a0_8)) 65536)).bind fun t976 => (weftref3_header.l0 kj20 t976 0 a0_0 a0_1 a0_2 a0_3 a0_4 a0_5 a0_6 a0_7 a0_8 l0_9)))) = some r := H
       have A27 := zam A270
       clear A270
       replace H := Option.bind_eq_some_iff.mp H
       obtain ⟨t970, A280, H⟩ := H
       replace H : ((weftref3_put2.f t970 (wrap64 (Int.tdiv (wrap64 (a0_8)) 65536))).bind fun t973 => ((weftref3_put2.f t973 (Int.tmod (wrap64 (a0_8)) 65536)).bind fun t976 => (weftref3_header.l0 kj20 t976 0 a0_0 a0_1 a0_2 a0_3 a0_4 a0_5 a0_6 a0_7 a0_8 l0_9))) = some r := H
       have A28 := zam A280
       clear A280
       replace H := Option.bind_eq_some_iff.mp H
       obtain ⟨t973, A290, H⟩ := H
       replace H : ((weftref3_put2.f t973 (Int.tmod (wrap64 (a0_8)) 65536)).bind fun t976 => (weftref3_header.l0 kj20 t976 0 a0_0 a0_1 a0_2 a0_3 a0_4 a0_5 a0_6 a0_7 a0_8 l0_9)) = some r := H
       have A29 := zam A290
       clear A290
       replace H := Option.bind_eq_some_iff.mp H
       obtain ⟨t976, A300, H⟩ := H
       replace H : (weftref3_header.l0 kj20 t976 0 a0_0 a0_1 a0_2 a0_3 a0_4 a0_5 a0_6 a0_7 a0_8 l0_9) = some r := H
       have A30 := zam A300
       clear A300
       have H' := zam H
       clear H
       obtain ⟨Ao31, co31, eo31⟩ := Kd.R_slice HO_7.out
       subst eo31
       go_wp2_with (first | ((with_reducible refine gate_callee (f := 80) rfl ?_); refine goesL_ (some 42) rfl rfl Try.func80 (by kernel_rfl) rfl #[.slice Ao31 t952.length co31, .int .i64 x8_20] rfl zqxb21_2 ?_; (with_reducible refine (weftref3_put2.calls (fun k_ => some k_ = (.slice Ao31 t952.length co31 : Value).ownBlock) (.slice Ao31 t952.length co31) t952 x8_20 t955 w _ ?side1 ?side2 A24.out).mono ?_); (case side1 => repeat (first | (with_reducible first | exact HB.out | apply below_alloc | apply pw_below_drewN | apply below_drew1 | refine below_set ?_ GE942.out) | exact HB.out)); (case side2 => (with_reducible repeat (first | apply Kd.R_alloc | apply Kd.R_drewN | apply Kd.R_drew)); exact Kd.R_tight rfl HO_7.out); rintro e w32 ⟨v956, rfl, ho0, hb, hkp⟩; refine ⟨_, rfl, ?_⟩; have n0_ := zam (blk_kept zqxb21_0 hkp (fun hs_ => (fun e_ => (Kd.R_ne HO_7.out BK942.out (by decide)) e_) hs_)); have n1_ := zam (Kd.R_mono (ok' := fun k_ => True) ho0 (fun k_ hk_ => trivial)); have n2_ := zam (hb); clear BK942; clear HB; clear HO_7; have BK942 := n0_; have HO957 := n1_; have HB := n2_; clear n0_ n1_ n2_; (try clear hb); (try clear hkp); (try clear ho0); have hcz33_0 : w32.cell? ⟨gb942, 0, none⟩ = some (.int .u8 a0_0) := (zbc BK942.out 0).trans rfl; have hcz33_1 : w32.cell? ⟨gb942, 1, none⟩ = some (.int .u16 a0_1) := (zbc BK942.out 1).trans rfl; have hcz33_2 : w32.cell? ⟨gb942, 2, none⟩ = some (.bool a0_2) := (zbc BK942.out 2).trans rfl; have hcz33_3 : w32.cell? ⟨gb942, 3, none⟩ = some (.bool a0_3) := (zbc BK942.out 3).trans rfl; have hcz33_4 : w32.cell? ⟨gb942, 4, none⟩ = some (.int .i64 a0_4) := (zbc BK942.out 4).trans rfl; have hcz33_5 : w32.cell? ⟨gb942, 5, none⟩ = some (.int .u8 a0_5) := (zbc BK942.out 5).trans rfl; have hcz33_6 : w32.cell? ⟨gb942, 6, none⟩ = some (.int .u8 a0_6) := (zbc BK942.out 6).trans rfl; have hcz33_7 : w32.cell? ⟨gb942, 7, none⟩ = some (.int .u32 a0_7) := (zbc BK942.out 7).trans rfl; have hcz33_8 : w32.cell? ⟨gb942, 8, none⟩ = some (.int .u32 a0_8) := (zbc BK942.out 8).trans rfl; have hcz33_9 : w32.cell? ⟨gb942, 9, none⟩ = some (.slice A0_9 l0_9.length c0_9) := (zbc BK942.out 9).trans rfl; have hfz33_0 := zbf BK942.out 0; have hfz33_1 := zbf BK942.out 1; have hfz33_2 := zbf BK942.out 2; have hfz33_3 := zbf BK942.out 3; have hfz33_4 := zbf BK942.out 4; have hfz33_5 := zbf BK942.out 5; have hfz33_6 := zbf BK942.out 6; have hfz33_7 := zbf BK942.out 7; have hfz33_8 := zbf BK942.out 8; have hfz33_9 := zbf BK942.out 9) | ((with_reducible refine gate_dst (N := 48) rfl ?_); refine Kd.R_lit (Kd.int .u8) _ 5 ?hg (N := 48) ?hd (xs := ([a0_5, a0_6] : List Int)) (inner := [.int .u8 a0_5, .int .u8 a0_6]) (ok := fun _ => True) (okp := fun _ => True) ?hr ?hp (fun _ hk => hk) trivial (Below.refl _ _) (Nat.le_refl _) (by simp) ?_; (case hd => rfl); (case hg => rfl); (case hr => first | (go_simp; done) | (go_simp; rfl)); (case hp => exact (Reps.one (show Kd.M (Kd.int .u8) _ _ _ a0_5 [.int .u8 a0_5] from rfl) (Reps.one (show Kd.M (Kd.int .u8) _ _ _ a0_6 [.int .u8 a0_6] from rfl) (Reps.none _ _)))); intro v959 w34 ho35 hb hg_ hnew_; clear hg_ hnew_; (first | rw [← Ny958.out] at ho35 | (simp only [Int.reduceToNat] at ho35; rw [← Ny958.out] at ho35)); have n0_ := zam (Kd.R_elder' zqxb21_7 (Kd.R_base ho35) hb); have n1_ := zam (Kd.R_lower (Kd.R_new' ho35 (Kd.R_lt zqxb21_7)) (below_size zqxb21_1)); have n2_ := zam (blk_below (g := gb942) (o := .cells #[.int .u8 a0_0, .int .u16 a0_1, .bool a0_2, .bool a0_3, .int .i64 a0_4, .int .u8 a0_5, .int .u8 a0_6, .int .u32 a0_7, .int .u32 a0_8, .slice A0_9 l0_9.length c0_9] 41 (0, 0)) zqxb21_0 hb); have n3_ := zam (below_step zqxb21_1 hb); clear HO957; clear BK942; clear HB; have HO957 := n0_; have HO960 := n1_; have BK942 := n2_; have HB := n3_; clear n0_ n1_ n2_ n3_; clear hb ho35; obtain ⟨Ao37, co37, eo37⟩ := Kd.R_slice HO960.out; subst eo37) | ((with_reducible refine gate_builtin (b := .append) (xs := #[.tmp 43, .tmp 48]) rfl ?_); at_builtin; refine Kd.R_append_rows (Kd.int .u8) (w0 := w) w.heap.size rfl (.tmp 43) (.tmp 48) 24 5 (.int .u8 0) 1 rfl Try.underlying24 info5 rfl (by decide) (by omega) v956 t955 y958 _ _ _ (fun k_ => some k_ ≠ (.slice Ao37 y958.length co37 : Value).ownBlock) (fun _ => False) rfl rfl ?aO ?aR (fun _ _ h => h) (fun _ h => h.elim) ?aF ?aB ?aS ?aL ?_; (case aR => repeat (first | exact (Kd.R_reads' HO960.out).2.2 | (with_reducible refine Kd.C_alloc ?_ _) | (with_reducible refine Kd.C_drewN ?_ _) | (with_reducible refine Kd.C_drew ?_))); (case aB => exact zqxb21_1); (case aF => exact (fun k_ hk => Kd.fresh' (Kd.R_lt zqxb21_3) k_ hk)); (case aO => exact (by (with_reducible repeat (first | apply Kd.R_alloc | apply Kd.R_drewN | apply Kd.R_drew)); exact Kd.R_mono HO957.out (fun _ hk => hk.2))); (case aS => exact (below_size zqxb21_1)); (case aL => have := LMc25.out; omega); intro v962 w36 ho hb hg hat; rw [← Ny961.out] at ho; have n0_ := zam (blk_grown (g := gb942) (o := .cells #[.int .u8 a0_0, .int .u16 a0_1, .bool a0_2, .bool a0_3, .int .i64 a0_4, .int .u8 a0_5, .int .u8 a0_6, .int .u32 a0_7, .int .u32 a0_8, .slice A0_9 l0_9.length c0_9] 41 (0, 0)) zqxb21_0 hg (Kd.R_ne HO957.out BK942.out (by decide))); have n1_ := zam (Kd.R_after (ok := (fun _ => True)) zqxb21_3 hg hat); have n2_ := zam (hb); have n3_ := zam (ho); clear BK942; clear HO960; clear HB; clear HO957; have BK942 := n0_; have HO960 := n1_; have HB := n2_; have HO963 := n3_; clear n0_ n1_ n2_ n3_; clear ho hb hg hat; obtain ⟨Ao38, co38, eo38⟩ := Kd.R_slice HO963.out; subst eo38) | ((with_reducible refine gate_callee (f := 80) rfl ?_); refine goesL_ (some 53) rfl rfl Try.func80 (by kernel_rfl) rfl #[.slice Ao38 y961.length co38, .int .i64 (wrap64 (a2))] rfl zqxb21_2 ?_; (with_reducible refine (weftref3_put2.calls (fun k_ => some k_ = (.slice Ao38 y961.length co38 : Value).ownBlock) (.slice Ao38 y961.length co38) y961 (wrap64 (a2)) t964 w _ ?side1 ?side2 A26.out).mono ?_); (case side1 => repeat (first | (with_reducible first | exact HB.out | apply below_alloc | apply pw_below_drewN | apply below_drew1 | refine below_set ?_ GE942.out) | exact HB.out)); (case side2 => (with_reducible repeat (first | apply Kd.R_alloc | apply Kd.R_drewN | apply Kd.R_drew)); exact Kd.R_tight rfl HO963.out); rintro e w39 ⟨v965, rfl, ho0, hb, hkp⟩; refine ⟨_, rfl, ?_⟩; have n0_ := zam (blk_kept zqxb21_0 hkp (fun hs_ => (fun e_ => (Kd.R_ne HO963.out BK942.out (by decide)) e_) hs_)); have n1_ := zam (Kd.R_mono (ok' := fun k_ => some k_ ≠ (v965 : Value).ownBlock) (Kd.R_keptB (HO960.out) hkp (fun k_ hk_ hs_ => (hk_.2) hs_)) (fun k_ hk_ => fun e_ => Or.elim (ho0.1 k_ e_.symm) (fun hs_ => hk_.2.1 hs_) (fun hn_ => Nat.not_le.2 hk_.2.2 hn_))); have n2_ := zam (Kd.R_mono (ok' := fun k_ => some k_ ≠ (.slice Ao37 y958.length co37 : Value).ownBlock) ho0 (fun k_ hk_ => Or.elim hk_ (fun hs_ => fun e_ => (((HO960.out).1 k_ e_.symm).2) hs_) (fun hn_ => (Kd.fresh' (Kd.R_lt zqxb21_3) k_ hn_)))); have n3_ := zam (hb); clear BK942; clear HO960; clear HB; clear HO963; have BK942 := n0_; have HO960 := n1_; have HO966 := n2_; have HB := n3_; clear n0_ n1_ n2_ n3_; (try clear hb); (try clear hkp); (try clear ho0); have hcz40_0 : w39.cell? ⟨gb942, 0, none⟩ = some (.int .u8 a0_0) := (zbc BK942.out 0).trans rfl; have hcz40_1 : w39.cell? ⟨gb942, 1, none⟩ = some (.int .u16 a0_1) := (zbc BK942.out 1).trans rfl; have hcz40_2 : w39.cell? ⟨gb942, 2, none⟩ = some (.bool a0_2) := (zbc BK942.out 2).trans rfl; have hcz40_3 : w39.cell? ⟨gb942, 3, none⟩ = some (.bool a0_3) := (zbc BK942.out 3).trans rfl; have hcz40_4 : w39.cell? ⟨gb942, 4, none⟩ = some (.int .i64 a0_4) := (zbc BK942.out 4).trans rfl; have hcz40_5 : w39.cell? ⟨gb942, 5, none⟩ = some (.int .u8 a0_5) := (zbc BK942.out 5).trans rfl; have hcz40_6 : w39.cell? ⟨gb942, 6, none⟩ = some (.int .u8 a0_6) := (zbc BK942.out 6).trans rfl; have hcz40_7 : w39.cell? ⟨gb942, 7, none⟩ = some (.int .u32 a0_7) := (zbc BK942.out 7).trans rfl; have hcz40_8 : w39.cell? ⟨gb942, 8, none⟩ = some (.int .u32 a0_8) := (zbc BK942.out 8).trans rfl; have hcz40_9 : w39.cell? ⟨gb942, 9, none⟩ = some (.slice A0_9 l0_9.length c0_9) := (zbc BK942.out 9).trans rfl; have hfz40_0 := zbf BK942.out 0; have hfz40_1 := zbf BK942.out 1; have hfz40_2 := zbf BK942.out 2; have hfz40_3 := zbf BK942.out 3; have hfz40_4 := zbf BK942.out 4; have hfz40_5 := zbf BK942.out 5; have hfz40_6 := zbf BK942.out 6; have hfz40_7 := zbf BK942.out 7; have hfz40_8 := zbf BK942.out 8; have hfz40_9 := zbf BK942.out 9; obtain ⟨Ao41, co41, eo41⟩ := Kd.R_slice HO966.out; subst eo41) | ((with_reducible refine gate_callee (f := 80) rfl ?_); refine goesL_ (some 59) rfl rfl Try.func80 (by kernel_rfl) rfl #[.slice Ao41 t964.length co41, .int .i64 (wrap64 (Int.tdiv (wrap64 (a0_7)) 65536))] rfl zqxb21_2 ?_; (with_reducible refine (weftref3_put2.calls (fun k_ => some k_ = (.slice Ao41 t964.length co41 : Value).ownBlock) (.slice Ao41 t964.length co41) t964 (wrap64 (Int.tdiv (wrap64 (a0_7)) 65536)) t967 w _ ?side1 ?side2 A27.out).mono ?_); (case side1 => repeat (first | (with_reducible first | exact HB.out | apply below_alloc | apply pw_below_drewN | apply below_drew1 | refine below_set ?_ GE942.out) | exact HB.out)); (case side2 => (with_reducible repeat (first | apply Kd.R_alloc | apply Kd.R_drewN | apply Kd.R_drew)); exact Kd.R_tight rfl HO966.out); rintro e w42 ⟨v968, rfl, ho0, hb, hkp⟩; refine ⟨_, rfl, ?_⟩; have n0_ := zam (blk_kept zqxb21_0 hkp (fun hs_ => (fun e_ => (Kd.R_ne HO966.out BK942.out (by decide)) e_) hs_)); have n1_ := zam (Kd.R_mono (ok' := fun k_ => some k_ ≠ (v968 : Value).ownBlock) (Kd.R_keptB (HO960.out) hkp (fun k_ hk_ hs_ => (hk_) hs_)) (fun k_ hk_ => fun e_ => Or.elim (ho0.1 k_ e_.symm) (fun hs_ => hk_.2.1 hs_) (fun hn_ => Nat.not_le.2 hk_.2.2 hn_))); have n2_ := zam (Kd.R_mono (ok' := fun k_ => some k_ ≠ (.slice Ao37 y958.length co37 : Value).ownBlock) ho0 (fun k_ hk_ => Or.elim hk_ (fun hs_ => fun e_ => (((HO960.out).1 k_ e_.symm)) hs_) (fun hn_ => (Kd.fresh' (Kd.R_lt zqxb21_3) k_ hn_)))); have n3_ := zam (hb); clear BK942; clear HO960; clear HB; clear HO966; have BK942 := n0_; have HO960 := n1_; have HO969 := n2_; have HB := n3_; clear n0_ n1_ n2_ n3_; (try clear hb); (try clear hkp); (try clear ho0); have hcz43_0 : w42.cell? ⟨gb942, 0, none⟩ = some (.int .u8 a0_0) := (zbc BK942.out 0).trans rfl; have hcz43_1 : w42.cell? ⟨gb942, 1, none⟩ = some (.int .u16 a0_1) := (zbc BK942.out 1).trans rfl; have hcz43_2 : w42.cell? ⟨gb942, 2, none⟩ = some (.bool a0_2) := (zbc BK942.out 2).trans rfl; have hcz43_3 : w42.cell? ⟨gb942, 3, none⟩ = some (.bool a0_3) := (zbc BK942.out 3).trans rfl; have hcz43_4 : w42.cell? ⟨gb942, 4, none⟩ = some (.int .i64 a0_4) := (zbc BK942.out 4).trans rfl; have hcz43_5 : w42.cell? ⟨gb942, 5, none⟩ = some (.int .u8 a0_5) := (zbc BK942.out 5).trans rfl; have hcz43_6 : w42.cell? ⟨gb942, 6, none⟩ = some (.int .u8 a0_6) := (zbc BK942.out 6).trans rfl; have hcz43_7 : w42.cell? ⟨gb942, 7, none⟩ = some (.int .u32 a0_7) := (zbc BK942.out 7).trans rfl; have hcz43_8 : w42.cell? ⟨gb942, 8, none⟩ = some (.int .u32 a0_8) := (zbc BK942.out 8).trans rfl; have hcz43_9 : w42.cell? ⟨gb942, 9, none⟩ = some (.slice A0_9 l0_9.length c0_9) := (zbc BK942.out 9).trans rfl; have hfz43_0 := zbf BK942.out 0; have hfz43_1 := zbf BK942.out 1; have hfz43_2 := zbf BK942.out 2; have hfz43_3 := zbf BK942.out 3; have hfz43_4 := zbf BK942.out 4; have hfz43_5 := zbf BK942.out 5; have hfz43_6 := zbf BK942.out 6; have hfz43_7 := zbf BK942.out 7; have hfz43_8 := zbf BK942.out 8; have hfz43_9 := zbf BK942.out 9; obtain ⟨Ao44, co44, eo44⟩ := Kd.R_slice HO969.out; subst eo44) | ((with_reducible refine gate_callee (f := 80) rfl ?_); refine goesL_ (some 65) rfl rfl Try.func80 (by kernel_rfl) rfl #[.slice Ao44 t967.length co44, .int .i64 (Int.tmod (wrap64 (a0_7)) 65536)] rfl zqxb21_2 ?_; (with_reducible refine (weftref3_put2.calls (fun k_ => some k_ = (.slice Ao44 t967.length co44 : Value).ownBlock) (.slice Ao44 t967.length co44) t967 (Int.tmod (wrap64 (a0_7)) 65536) t970 w _ ?side1 ?side2 A28.out).mono ?_); (case side1 => repeat (first | (with_reducible first | exact HB.out | apply below_alloc | apply pw_below_drewN | apply below_drew1 | refine below_set ?_ GE942.out) | exact HB.out)); (case side2 => (with_reducible repeat (first | apply Kd.R_alloc | apply Kd.R_drewN | apply Kd.R_drew)); exact Kd.R_tight rfl HO969.out); rintro e w45 ⟨v971, rfl, ho0, hb, hkp⟩; refine ⟨_, rfl, ?_⟩; have n0_ := zam (blk_kept zqxb21_0 hkp (fun hs_ => (fun e_ => (Kd.R_ne HO969.out BK942.out (by decide)) e_) hs_)); have n1_ := zam (Kd.R_mono (ok' := fun k_ => some k_ ≠ (v971 : Value).ownBlock) (Kd.R_keptB (HO960.out) hkp (fun k_ hk_ hs_ => (hk_) hs_)) (fun k_ hk_ => fun e_ => Or.elim (ho0.1 k_ e_.symm) (fun hs_ => hk_.2.1 hs_) (fun hn_ => Nat.not_le.2 hk_.2.2 hn_))); have n2_ := zam (Kd.R_mono (ok' := fun k_ => some k_ ≠ (.slice Ao37 y958.length co37 : Value).ownBlock) ho0 (fun k_ hk_ => Or.elim hk_ (fun hs_ => fun e_ => (((HO960.out).1 k_ e_.symm)) hs_) (fun hn_ => (Kd.fresh' (Kd.R_lt zqxb21_3) k_ hn_)))); have n3_ := zam (hb); clear BK942; clear HO960; clear HB; clear HO969; have BK942 := n0_; have HO960 := n1_; have HO972 := n2_; have HB := n3_; clear n0_ n1_ n2_ n3_; (try clear hb); (try clear hkp); (try clear ho0); have hcz46_0 : w45.cell? ⟨gb942, 0, none⟩ = some (.int .u8 a0_0) := (zbc BK942.out 0).trans rfl; have hcz46_1 : w45.cell? ⟨gb942, 1, none⟩ = some (.int .u16 a0_1) := (zbc BK942.out 1).trans rfl; have hcz46_2 : w45.cell? ⟨gb942, 2, none⟩ = some (.bool a0_2) := (zbc BK942.out 2).trans rfl; have hcz46_3 : w45.cell? ⟨gb942, 3, none⟩ = some (.bool a0_3) := (zbc BK942.out 3).trans rfl; have hcz46_4 : w45.cell? ⟨gb942, 4, none⟩ = some (.int .i64 a0_4) := (zbc BK942.out 4).trans rfl; have hcz46_5 : w45.cell? ⟨gb942, 5, none⟩ = some (.int .u8 a0_5) := (zbc BK942.out 5).trans rfl; have hcz46_6 : w45.cell? ⟨gb942, 6, none⟩ = some (.int .u8 a0_6) := (zbc BK942.out 6).trans rfl; have hcz46_7 : w45.cell? ⟨gb942, 7, none⟩ = some (.int .u32 a0_7) := (zbc BK942.out 7).trans rfl; have hcz46_8 : w45.cell? ⟨gb942, 8, none⟩ = some (.int .u32 a0_8) := (zbc BK942.out 8).trans rfl; have hcz46_9 : w45.cell? ⟨gb942, 9, none⟩ = some (.slice A0_9 l0_9.length c0_9) := (zbc BK942.out 9).trans rfl; have hfz46_0 := zbf BK942.out 0; have hfz46_1 := zbf BK942.out 1; have hfz46_2 := zbf BK942.out 2; have hfz46_3 := zbf BK942.out 3; have hfz46_4 := zbf BK942.out 4; have hfz46_5 := zbf BK942.out 5; have hfz46_6 := zbf BK942.out 6; have hfz46_7 := zbf BK942.out 7; have hfz46_8 := zbf BK942.out 8; have hfz46_9 := zbf BK942.out 9; obtain ⟨Ao47, co47, eo47⟩ := Kd.R_slice HO972.out; subst eo47) | ((with_reducible refine gate_callee (f := 80) rfl ?_); refine goesL_ (some 71) rfl rfl Try.func80 (by kernel_rfl) rfl #[.slice Ao47 t970.length co47, .int .i64 (wrap64 (Int.tdiv (wrap64 (a0_8)) 65536))] rfl zqxb21_2 ?_; (with_reducible refine (weftref3_put2.calls (fun k_ => some k_ = (.slice Ao47 t970.length co47 : Value).ownBlock) (.slice Ao47 t970.length co47) t970 (wrap64 (Int.tdiv (wrap64 (a0_8)) 65536)) t973 w _ ?side1 ?side2 A29.out).mono ?_); (case side1 => repeat (first | (with_reducible first | exact HB.out | apply below_alloc | apply pw_below_drewN | apply below_drew1 | refine below_set ?_ GE942.out) | exact HB.out)); (case side2 => (with_reducible repeat (first | apply Kd.R_alloc | apply Kd.R_drewN | apply Kd.R_drew)); exact Kd.R_tight rfl HO972.out); rintro e w48 ⟨v974, rfl, ho0, hb, hkp⟩; refine ⟨_, rfl, ?_⟩; have n0_ := zam (blk_kept zqxb21_0 hkp (fun hs_ => (fun e_ => (Kd.R_ne HO972.out BK942.out (by decide)) e_) hs_)); have n1_ := zam (Kd.R_mono (ok' := fun k_ => some k_ ≠ (v974 : Value).ownBlock) (Kd.R_keptB (HO960.out) hkp (fun k_ hk_ hs_ => (hk_) hs_)) (fun k_ hk_ => fun e_ => Or.elim (ho0.1 k_ e_.symm) (fun hs_ => hk_.2.1 hs_) (fun hn_ => Nat.not_le.2 hk_.2.2 hn_))); have n2_ := zam (Kd.R_mono (ok' := fun k_ => some k_ ≠ (.slice Ao37 y958.length co37 : Value).ownBlock) ho0 (fun k_ hk_ => Or.elim hk_ (fun hs_ => fun e_ => (((HO960.out).1 k_ e_.symm)) hs_) (fun hn_ => (Kd.fresh' (Kd.R_lt zqxb21_3) k_ hn_)))); have n3_ := zam (hb); clear BK942; clear HO960; clear HB; clear HO972; have BK942 := n0_; have HO960 := n1_; have HO975 := n2_; have HB := n3_; clear n0_ n1_ n2_ n3_; (try clear hb); (try clear hkp); (try clear ho0); have hcz49_0 : w48.cell? ⟨gb942, 0, none⟩ = some (.int .u8 a0_0) := (zbc BK942.out 0).trans rfl; have hcz49_1 : w48.cell? ⟨gb942, 1, none⟩ = some (.int .u16 a0_1) := (zbc BK942.out 1).trans rfl; have hcz49_2 : w48.cell? ⟨gb942, 2, none⟩ = some (.bool a0_2) := (zbc BK942.out 2).trans rfl; have hcz49_3 : w48.cell? ⟨gb942, 3, none⟩ = some (.bool a0_3) := (zbc BK942.out 3).trans rfl; have hcz49_4 : w48.cell? ⟨gb942, 4, none⟩ = some (.int .i64 a0_4) := (zbc BK942.out 4).trans rfl; have hcz49_5 : w48.cell? ⟨gb942, 5, none⟩ = some (.int .u8 a0_5) := (zbc BK942.out 5).trans rfl; have hcz49_6 : w48.cell? ⟨gb942, 6, none⟩ = some (.int .u8 a0_6) := (zbc BK942.out 6).trans rfl; have hcz49_7 : w48.cell? ⟨gb942, 7, none⟩ = some (.int .u32 a0_7) := (zbc BK942.out 7).trans rfl; have hcz49_8 : w48.cell? ⟨gb942, 8, none⟩ = some (.int .u32 a0_8) := (zbc BK942.out 8).trans rfl; have hcz49_9 : w48.cell? ⟨gb942, 9, none⟩ = some (.slice A0_9 l0_9.length c0_9) := (zbc BK942.out 9).trans rfl; have hfz49_0 := zbf BK942.out 0; have hfz49_1 := zbf BK942.out 1; have hfz49_2 := zbf BK942.out 2; have hfz49_3 := zbf BK942.out 3; have hfz49_4 := zbf BK942.out 4; have hfz49_5 := zbf BK942.out 5; have hfz49_6 := zbf BK942.out 6; have hfz49_7 := zbf BK942.out 7; have hfz49_8 := zbf BK942.out 8; have hfz49_9 := zbf BK942.out 9; obtain ⟨Ao50, co50, eo50⟩ := Kd.R_slice HO975.out; subst eo50) | ((with_reducible refine gate_callee (f := 80) rfl ?_); refine goesL_ (some 77) rfl rfl Try.func80 (by kernel_rfl) rfl #[.slice Ao50 t973.length co50, .int .i64 (Int.tmod (wrap64 (a0_8)) 65536)] rfl zqxb21_2 ?_; (with_reducible refine (weftref3_put2.calls (fun k_ => some k_ = (.slice Ao50 t973.length co50 : Value).ownBlock) (.slice Ao50 t973.length co50) t973 (Int.tmod (wrap64 (a0_8)) 65536) t976 w _ ?side1 ?side2 A30.out).mono ?_); (case side1 => repeat (first | (with_reducible first | exact HB.out | apply below_alloc | apply pw_below_drewN | apply below_drew1 | refine below_set ?_ GE942.out) | exact HB.out)); (case side2 => (with_reducible repeat (first | apply Kd.R_alloc | apply Kd.R_drewN | apply Kd.R_drew)); exact Kd.R_tight rfl HO975.out); rintro e w51 ⟨v977, rfl, ho0, hb, hkp⟩; refine ⟨_, rfl, ?_⟩; have n0_ := zam (blk_kept zqxb21_0 hkp (fun hs_ => (fun e_ => (Kd.R_ne HO975.out BK942.out (by decide)) e_) hs_)); have n1_ := zam (Kd.R_mono (ok' := fun k_ => some k_ ≠ (v977 : Value).ownBlock) (Kd.R_keptB (HO960.out) hkp (fun k_ hk_ hs_ => (hk_) hs_)) (fun k_ hk_ => fun e_ => Or.elim (ho0.1 k_ e_.symm) (fun hs_ => hk_.2.1 hs_) (fun hn_ => Nat.not_le.2 hk_.2.2 hn_))); have n2_ := zam (Kd.R_mono (ok' := fun k_ => some k_ ≠ (.slice Ao37 y958.length co37 : Value).ownBlock) ho0 (fun k_ hk_ => Or.elim hk_ (fun hs_ => fun e_ => (((HO960.out).1 k_ e_.symm)) hs_) (fun hn_ => (Kd.fresh' (Kd.R_lt zqxb21_3) k_ hn_)))); have n3_ := zam (hb); clear BK942; clear HO960; clear HB; clear HO975; have BK942 := n0_; have HO960 := n1_; have HO978 := n2_; have HB := n3_; clear n0_ n1_ n2_ n3_; (try clear hb); (try clear hkp); (try clear ho0)))
       go_loopg [7, 9] kj20 (fun kq v7 v9 w' => ∃ (x7_3 : List Int) (x9_3 : Int), v9 = .int .i64 x9_3 ∧ Aside0 (weftref3_header.l0 kq x7_3 x9_3 a0_0 a0_1 a0_2 a0_3 a0_4 a0_5 a0_6 a0_7 a0_8 l0_9 = some r) ∧ Aside0 (kq ≤ kj20) ∧ Aside0 (Kd.R (Kd.int .u8) 5 w' w.heap.size (fun _ => True) v7 x7_3) ∧ Aside0 (w'.heap[gb942]? = some (.cells #[.int .u8 a0_0, .int .u16 a0_1, .bool a0_2, .bool a0_3, .int .i64 a0_4, .int .u8 a0_5, .int .u8 a0_6, .int .u32 a0_7, .int .u32 a0_8, (.slice A0_9 l0_9.length c0_9)] 41 (0, 0))) ∧ Aside0 (Below w.heap.size w w'))
       case atStart => exact ⟨(t976), (0), zqxb21_6, H', ⟨Nat.le_refl _⟩, ⟨by (with_reducible repeat (first | apply Kd.R_alloc | apply Kd.R_drewN | apply Kd.R_drew)); exact Kd.R_mono HO978.out (fun _ hk => trivial)⟩, ⟨by first | (with_reducible exact BK942.out) | (with_reducible exact zdn BK942.out _) | (with_reducible exact zdr BK942.out) | ((with_reducible repeat (first | refine zdn ?_ _ | refine zdr ?_ | refine blk_alloc ?_ _)); exact BK942.out)⟩, ⟨by repeat (first | (with_reducible first | exact HB.out | apply below_alloc | apply pw_below_drewN | apply below_drew1 | refine below_set ?_ GE942.out) | exact HB.out)⟩⟩
       case round =>
        clear H'
        try clear c2
        try clear p2
        try clear c4
        try clear c6
        try clear p6
        try clear c8
        try clear c20
        try clear c23
        try clear c25
        try clear hcz16_0
        try clear hcz16_1
        try clear hcz16_2
        try clear hcz16_3
        try clear hcz16_4
        try clear hcz16_5
        try clear hcz16_6
        try clear hcz16_7
        try clear hcz16_8
        try clear hcz16_9
        try clear hcz19_0
        try clear hcz19_1
        try clear hcz19_2
        try clear hcz19_3
        try clear hcz19_4
        try clear hcz19_5
        try clear hcz19_6
        try clear hcz19_7
        try clear hcz19_8
        try clear hcz19_9
        try clear hcz22_0
        try clear hcz22_1
        try clear hcz22_2
        try clear hcz22_3
        try clear hcz22_4
        try clear hcz22_5
        try clear hcz22_6
        try clear hcz22_7
        try clear hcz22_8
        try clear hcz22_9
        try clear hcz33_0
        try clear hcz33_1
        try clear hcz33_2
        try clear hcz33_3
        try clear hcz33_4
        try clear hcz33_5
        try clear hcz33_6
        try clear hcz33_7
        try clear hcz33_8
        try clear hcz33_9
        try clear hcz40_0
        try clear hcz40_1
        try clear hcz40_2
        try clear hcz40_3
        try clear hcz40_4
        try clear hcz40_5
        try clear hcz40_6
        try clear hcz40_7
        try clear hcz40_8
        try clear hcz40_9
        try clear hcz43_0
        try clear hcz43_1
        try clear hcz43_2
        try clear hcz43_3
        try clear hcz43_4
        try clear hcz43_5
        try clear hcz43_6
        try clear hcz43_7
        try clear hcz43_8
        try clear hcz43_9
        try clear hcz46_0
        try clear hcz46_1
        try clear hcz46_2
        try clear hcz46_3
        try clear hcz46_4
        try clear hcz46_5
        try clear hcz46_6
        try clear hcz46_7
        try clear hcz46_8
        try clear hcz46_9
        try clear hcz49_0
        try clear hcz49_1
        try clear hcz49_2
        try clear hcz49_3
        try clear hcz49_4
        try clear hcz49_5
        try clear hcz49_6
        try clear hcz49_7
        try clear hcz49_8
        try clear hcz49_9
        try clear hcz9_0
        try clear hcz9_1
        try clear hcz9_2
        try clear hcz9_3
        try clear hcz9_4
        try clear hcz9_5
        try clear hcz9_6
        try clear hcz9_7
        try clear hcz9_8
        try clear hcz9_9
        try clear hfz16_0
        try clear hfz16_1
        try clear hfz16_2
        try clear hfz16_3
        try clear hfz16_4
        try clear hfz16_5
        try clear hfz16_6
        try clear hfz16_7
        try clear hfz16_8
        try clear hfz16_9
        try clear hfz19_0
        try clear hfz19_1
        try clear hfz19_2
        try clear hfz19_3
        try clear hfz19_4
        try clear hfz19_5
        try clear hfz19_6
        try clear hfz19_7
        try clear hfz19_8
        try clear hfz19_9
        try clear hfz22_0
        try clear hfz22_1
        try clear hfz22_2
        try clear hfz22_3
        try clear hfz22_4
        try clear hfz22_5
        try clear hfz22_6
        try clear hfz22_7
        try clear hfz22_8
        try clear hfz22_9
        try clear hfz33_0
        try clear hfz33_1
        try clear hfz33_2
        try clear hfz33_3
        try clear hfz33_4
        try clear hfz33_5
        try clear hfz33_6
        try clear hfz33_7
        try clear hfz33_8
        try clear hfz33_9
        try clear hfz40_0
        try clear hfz40_1
        try clear hfz40_2
        try clear hfz40_3
        try clear hfz40_4
        try clear hfz40_5
        try clear hfz40_6
        try clear hfz40_7
        try clear hfz40_8
        try clear hfz40_9
        try clear hfz43_0
        try clear hfz43_1
        try clear hfz43_2
        try clear hfz43_3
        try clear hfz43_4
        try clear hfz43_5
        try clear hfz43_6
        try clear hfz43_7
        try clear hfz43_8
        try clear hfz43_9
        try clear hfz46_0
        try clear hfz46_1
        try clear hfz46_2
        try clear hfz46_3
        try clear hfz46_4
        try clear hfz46_5
        try clear hfz46_6
        try clear hfz46_7
        try clear hfz46_8
        try clear hfz46_9
        try clear hfz49_0
        try clear hfz49_1
        try clear hfz49_2
        try clear hfz49_3
        try clear hfz49_4
        try clear hfz49_5
        try clear hfz49_6
        try clear hfz49_7
        try clear hfz49_8
        try clear hfz49_9
        try clear hfz9_0
        try clear hfz9_1
        try clear hfz9_2
        try clear hfz9_3
        try clear hfz9_4
        try clear hfz9_5
        try clear hfz9_6
        try clear hfz9_7
        try clear hfz9_8
        try clear hfz9_9
        try clear p2
        try clear p6
        obtain ⟨x7_3, x9_3, rfl, HA, HK3, HO_7, BK942, HB⟩ := hrel
        cases gk with
        | zero => exact absurd HA.out (by simp [weftref3_header.l0])
        | succ k3 =>
         have H := HA.out
         clear HA
         simp only [weftref3_header.l0] at H
         by_cases c52 : x9_3 < (l0_9.length : Int)
         ·
          rw [if_pos c52] at H
          have c52b0 : decide (x9_3 < (l0_9.length : Int)) = true := decide_eq_true c52
          clear c52
          by_cases c53 : 0 ≤ x9_3
          ·
           rw [if_pos c53] at H
           have c53b0 : decide (0 ≤ x9_3) = true := decide_eq_true c53
           clear c53
           by_cases c54 : x7_3.length < 140737488355328
           ·
            rw [if_pos c54] at H
            have LMc54 := zam c54
            clear c54
            obtain ⟨y980, hy980⟩ : ∃ y_ : List Int, y_ = (x7_3 ++ [rd l0_9 x9_3]) := ⟨_, rfl⟩
            replace H : (weftref3_header.l0 k3 y980 (wrap64 (x9_3 + 1)) a0_0 a0_1 a0_2 a0_3 a0_4 a0_5 a0_6 a0_7 a0_8 l0_9) = some r := by first | (rw [hy980]; with_reducible exact H) | (have H2_ := (Option.bind_some _ _).symm.trans H; rw [hy980]; with_reducible exact H2_) | (have H2_ := (Option.bind_some _ _).symm.trans H; with_reducible exact H2_) | with_reducible exact H | (rw [hy980]; exact H) | exact H
            have Ny980 := zam hy980
            clear hy980
            have H' := zam H
            clear H
            have hcz55_0 : wr.cell? ⟨gb942, 0, none⟩ = some (.int .u8 a0_0) := (zbc BK942.out 0).trans rfl
            have hcz55_1 : wr.cell? ⟨gb942, 1, none⟩ = some (.int .u16 a0_1) := (zbc BK942.out 1).trans rfl
            have hcz55_2 : wr.cell? ⟨gb942, 2, none⟩ = some (.bool a0_2) := (zbc BK942.out 2).trans rfl
            have hcz55_3 : wr.cell? ⟨gb942, 3, none⟩ = some (.bool a0_3) := (zbc BK942.out 3).trans rfl
            have hcz55_4 : wr.cell? ⟨gb942, 4, none⟩ = some (.int .i64 a0_4) := (zbc BK942.out 4).trans rfl
            have hcz55_5 : wr.cell? ⟨gb942, 5, none⟩ = some (.int .u8 a0_5) := (zbc BK942.out 5).trans rfl
            have hcz55_6 : wr.cell? ⟨gb942, 6, none⟩ = some (.int .u8 a0_6) := (zbc BK942.out 6).trans rfl
            have hcz55_7 : wr.cell? ⟨gb942, 7, none⟩ = some (.int .u32 a0_7) := (zbc BK942.out 7).trans rfl
            have hcz55_8 : wr.cell? ⟨gb942, 8, none⟩ = some (.int .u32 a0_8) := (zbc BK942.out 8).trans rfl
            have hcz55_9 : wr.cell? ⟨gb942, 9, none⟩ = some (.slice A0_9 l0_9.length c0_9) := (zbc BK942.out 9).trans rfl
            have hfz55_0 := zbf BK942.out 0
            have hfz55_1 := zbf BK942.out 1
            have hfz55_2 := zbf BK942.out 2
            have hfz55_3 := zbf BK942.out 3
            have hfz55_4 := zbf BK942.out 4
            have hfz55_5 := zbf BK942.out 5
            have hfz55_6 := zbf BK942.out 6
            have hfz55_7 := zbf BK942.out 7
            have hfz55_8 := zbf BK942.out 8
            have hfz55_9 := zbf BK942.out 9
            have p979 : 0 ≤ (x9_3 : Int) := zod (by first | (with_reducible assumption) | assumption)
            have q979 : x9_3 < (l0_9.length : Int) := zod (by first | (with_reducible assumption) | assumption)
            obtain ⟨ad979, e979, hx979_0⟩ := Kd.at_int HR0_9.out x9_3 p979 q979
            cases e979
            replace hx979_0 := (HB.out.cell (World.block_lt_of_cell? w _ hx979_0)).trans hx979_0
            replace p979 := eq_true p979
            replace q979 := eq_true q979
            go_wp2_with (first | ((with_reducible refine gate_builtin (b := .append) (xs := #[.tmp 85, .tmp 91]) rfl ?_); at_builtin; refine Kd.R_append (Kd.int .u8) (w0 := w) w.heap.size rfl (.tmp 85) (.tmp 91) 24 5 (.int .u8 0) 1 rfl Try.underlying24 info5 rfl (by decide) (by omega) u7 x7_3 (rd l0_9 x9_3) [.int .u8 (rd l0_9 x9_3)] (fun _ => True) (fun _ => False) rfl rfl ?aP (fun _ hk => hk.elim) ?aF ?aO ?aB ?aS ?aL ?_; (case aP => exact rfl); (case aB => exact zqxb21_1); (case aF => exact (fun _ _ => trivial)); (case aO => exact (by (with_reducible repeat (first | apply Kd.R_alloc | apply Kd.R_drewN | apply Kd.R_drew)); exact HO_7.out)); (case aS => exact (below_size zqxb21_1)); (case aL => have := LMc54.out; omega); intro v981 w56 ho hb hg hat; rw [← Ny980.out] at ho; have n0_ := zam (blk_grown (g := gb942) (o := .cells #[.int .u8 a0_0, .int .u16 a0_1, .bool a0_2, .bool a0_3, .int .i64 a0_4, .int .u8 a0_5, .int .u8 a0_6, .int .u32 a0_7, .int .u32 a0_8, .slice (some ad979) l0_9.length c0_9] 41 (0, 0)) zqxb21_0 hg (Kd.R_ne HO_7.out BK942.out (by decide))); have n1_ := zam (hb); have n2_ := zam (ho); clear BK942; clear HB; clear HO_7; have BK942 := n0_; have HB := n1_; have HO982 := n2_; clear n0_ n1_ n2_; clear ho hb hg hat))
            go_roundg k3
            case measure => have := HJ6.out; have := HJ20.out; have := HK3.out; omega
            case rel => exact ⟨(y980), (wrap64 (x9_3 + 1)), zqxb21_6, H', ⟨by have := HJ6.out; have := HJ20.out; have := HK3.out; omega⟩, ⟨by (with_reducible repeat (first | apply Kd.R_alloc | apply Kd.R_drewN | apply Kd.R_drew)); exact HO982.out⟩, ⟨by first | (with_reducible exact BK942.out) | (with_reducible exact zdn BK942.out _) | (with_reducible exact zdr BK942.out) | ((with_reducible repeat (first | refine zdn ?_ _ | refine zdr ?_ | refine blk_alloc ?_ _)); exact BK942.out)⟩, ⟨by repeat (first | (with_reducible first | exact HB.out | apply below_alloc | apply pw_below_drewN | apply below_drew1 | refine below_set ?_ GE942.out) | exact HB.out)⟩⟩
           ·
            rw [if_neg c54] at H
            exact absurd H (by simp)
          ·
           rw [if_neg c53] at H
           exact absurd H (by simp)
         ·
          rw [if_neg c52] at H
          have c52b0 : decide (x9_3 < (l0_9.length : Int)) = false := decide_eq_false c52
          clear c52
          obtain rfl := Option.some.inj H
          have hcz57_0 : wr.cell? ⟨gb942, 0, none⟩ = some (.int .u8 a0_0) := (zbc BK942.out 0).trans rfl
          have hcz57_1 : wr.cell? ⟨gb942, 1, none⟩ = some (.int .u16 a0_1) := (zbc BK942.out 1).trans rfl
          have hcz57_2 : wr.cell? ⟨gb942, 2, none⟩ = some (.bool a0_2) := (zbc BK942.out 2).trans rfl
          have hcz57_3 : wr.cell? ⟨gb942, 3, none⟩ = some (.bool a0_3) := (zbc BK942.out 3).trans rfl
          have hcz57_4 : wr.cell? ⟨gb942, 4, none⟩ = some (.int .i64 a0_4) := (zbc BK942.out 4).trans rfl
          have hcz57_5 : wr.cell? ⟨gb942, 5, none⟩ = some (.int .u8 a0_5) := (zbc BK942.out 5).trans rfl
          have hcz57_6 : wr.cell? ⟨gb942, 6, none⟩ = some (.int .u8 a0_6) := (zbc BK942.out 6).trans rfl
          have hcz57_7 : wr.cell? ⟨gb942, 7, none⟩ = some (.int .u32 a0_7) := (zbc BK942.out 7).trans rfl
          have hcz57_8 : wr.cell? ⟨gb942, 8, none⟩ = some (.int .u32 a0_8) := (zbc BK942.out 8).trans rfl
          have hcz57_9 : wr.cell? ⟨gb942, 9, none⟩ = some (.slice A0_9 l0_9.length c0_9) := (zbc BK942.out 9).trans rfl
          have hfz57_0 := zbf BK942.out 0
          have hfz57_1 := zbf BK942.out 1
          have hfz57_2 := zbf BK942.out 2
          have hfz57_3 := zbf BK942.out 3
          have hfz57_4 := zbf BK942.out 4
          have hfz57_5 := zbf BK942.out 5
          have hfz57_6 := zbf BK942.out 6
          have hfz57_7 := zbf BK942.out 7
          have hfz57_8 := zbf BK942.out 8
          have hfz57_9 := zbf BK942.out 9
          go_wp2
          go_ret
          exact ⟨_, by first | rfl | (simp [errW_none, errW_some] <;> rfl) | (simp [*, errW_none, errW_some] <;> rfl), by (with_reducible repeat (first | apply Kd.R_alloc | apply Kd.R_drewN | apply Kd.R_drew)); exact HO_7.out, by repeat (first | (with_reducible first | exact HB.out | apply below_alloc | apply pw_below_drewN | apply below_drew1 | refine below_set ?_ GE942.out) | exact HB.out)⟩
      ·
       rw [if_neg c25] at H
       exact absurd H (by simp)
 ·
  rw [if_neg c4] at H
  exact absurd H (by simp)

end Go.Proofs.Ytbacmhegalncjaa.XB
