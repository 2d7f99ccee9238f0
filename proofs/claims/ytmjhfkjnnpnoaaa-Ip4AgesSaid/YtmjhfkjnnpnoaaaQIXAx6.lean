-- printed by a program of this session (wip/xprint), out of the translation; Lean checks it
import Derived.Test.YtmjhfkjnnpnoaaaQIXAx0
import Derived.Test.YtmjhfkjnnpnoaaaQIXAx5
namespace Go.Proofs.Ytmjhfkjnnpnoaaa.XA
open Go.RowKit Go.Proofs.YtmjhfkjnnpnoaaaW.PrintWords Go.Proofs.YtmjhfkjnnpnoaaaW.PrintLast Go.Proofs.YtmjhfkjnnpnoaaaW.PrintMore Go.Proofs.YtmjhfkjnnpnoaaaX
theorem zqxa6_2 {P : Prop} (h : P := by (try simp only [List.map_toArray, List.map_cons, List.map_nil]); first | done | rfl | (simp only [List.length_drop, List.length_take]; rfl)) : P := h
theorem zqxa6_1 {P : Prop} (h : P := by repeat (first | (with_reducible first | exact HB.out | apply below_alloc | apply pw_below_drewN | apply below_drew1 | refine below_set ?_ GE266.out) | exact HB.out)) : P := h
theorem zqxa6_0 {P : Prop} (h : P := by first | (with_reducible exact BK266.out) | (with_reducible exact blk_drewN BK266.out _) | (with_reducible exact blk_drew BK266.out) | ((with_reducible repeat (first | refine blk_drewN ?_ _ | refine blk_drew ?_ | refine blk_alloc ?_ _)); exact BK266.out)) : P := h
attribute [local go_sem] max2_int min2_int max_two min_two max_three min_three max_four min_four   -- for this text's walks alone
set_option linter.unusedVariables false
set_option linter.unusedSimpArgs false

/-! ### weftref3_header: function 42 -/
mutual
def weftref3_header.j0 : Nat → Int → List Int → Int → Int → Int → Bool → Bool → Int → Int → Int → Int → Int → List Int → Option (List Int)
  | 0, _, _, _, _, _, _, _, _, _, _, _, _, _ => none
  | k + 1, x2, x7, x8, x267000, x267001, x267002, x267003, x267004, x267005, x267006, x267007, x267008, x267009 => if x267003 = true then (weftref3_header.j1 k x2 x7 (wrap64 (x8 + 8192)) x267000 x267001 x267002 x267003 x267004 x267005 x267006 x267007 x267008 x267009) else (weftref3_header.j1 k x2 x7 x8 x267000 x267001 x267002 x267003 x267004 x267005 x267006 x267007 x267008 x267009)
def weftref3_header.j1 : Nat → Int → List Int → Int → Int → Int → Bool → Bool → Int → Int → Int → Int → Int → List Int → Option (List Int)
  | 0, _, _, _, _, _, _, _, _, _, _, _, _, _ => none
  | k + 1, x2, x7, x8, x267000, x267001, x267002, x267003, x267004, x267005, x267006, x267007, x267008, x267009 => (weftref3_put2.f x7 x8).bind fun t279 => ((some (([x267005, x267006] : List Int) : List Int)).bind fun y282 => (if t279.length + y282.length < 140737488355328 then ((weftref3_put2.f (t279 ++ y282) (wrap64 (x2))).bind fun t288 => ((weftref3_put2.f t288 (wrap64 (Int.tdiv (wrap64 (x267007)) 65536))).bind fun t291 => ((weftref3_put2.f t291 (Int.tmod (wrap64 (x267007)) 65536)).bind fun t294 => ((weftref3_put2.f t294 (wrap64 (Int.tdiv (wrap64 (x267008)) 65536))).bind fun t297 => ((weftref3_put2.f t297 (Int.tmod (wrap64 (x267008)) 65536)).bind fun t300 => (weftref3_header.l0 k t300 0 x267000 x267001 x267002 x267003 x267004 x267005 x267006 x267007 x267008 x267009)))))) else (none)))
def weftref3_header.l0 : Nat → List Int → Int → Int → Int → Bool → Bool → Int → Int → Int → Int → Int → List Int → Option (List Int)
  | 0, _, _, _, _, _, _, _, _, _, _, _, _ => none
  | k + 1, x7, x9, x267000, x267001, x267002, x267003, x267004, x267005, x267006, x267007, x267008, x267009 => if x9 < (x267009.length : Int) then (if 0 ≤ x9 then (if x7.length < 140737488355328 then (weftref3_header.l0 k (x7 ++ [rd x267009 x9]) (wrap64 (x9 + 1)) x267000 x267001 x267002 x267003 x267004 x267005 x267006 x267007 x267008 x267009) else (none)) else (none)) else (some x7)
end
def weftref3_header.f (k : Nat) (a0_0 : Int) (a0_1 : Int) (a0_2 : Bool) (a0_3 : Bool) (a0_4 : Int) (a0_5 : Int) (a0_6 : Int) (a0_7 : Int) (a0_8 : Int) (l0_9 : List Int) (a1 : Int) (a2 : Int) : Option (List Int) := (some (([(wrap64 (69 + (wrap64 ((l0_9.length : Int) / 4)))) % 256, a0_0] : List Int) : List Int)).bind fun y267 => (if ([] : List Int).length + y267.length < 140737488355328 then ((weftref3_put2.f (([] : List Int) ++ y267) a1).bind fun t273 => ((weftref3_put2.f t273 (wrap64 (a0_1))).bind fun t276 => (if a0_2 = true then (weftref3_header.j0 k a2 t276 (wrap64 ((wrap64 (Int.tdiv a0_4 8)) + 16384)) a0_0 a0_1 a0_2 a0_3 a0_4 a0_5 a0_6 a0_7 a0_8 l0_9) else (weftref3_header.j0 k a2 t276 (wrap64 (Int.tdiv a0_4 8)) a0_0 a0_1 a0_2 a0_3 a0_4 a0_5 a0_6 a0_7 a0_8 l0_9)))) else (none))
theorem weftref3_header.mono_l : ∀ k, (∀ y0 y1 y2 y3 y4 y5 y6 y7 y8 y9 y10 y11 y12, LeO (weftref3_header.j0 k y0 y1 y2 y3 y4 y5 y6 y7 y8 y9 y10 y11 y12) (weftref3_header.j0 (k + 1) y0 y1 y2 y3 y4 y5 y6 y7 y8 y9 y10 y11 y12)) ∧ (∀ y0 y1 y2 y3 y4 y5 y6 y7 y8 y9 y10 y11 y12, LeO (weftref3_header.j1 k y0 y1 y2 y3 y4 y5 y6 y7 y8 y9 y10 y11 y12) (weftref3_header.j1 (k + 1) y0 y1 y2 y3 y4 y5 y6 y7 y8 y9 y10 y11 y12)) ∧ (∀ y0 y1 y2 y3 y4 y5 y6 y7 y8 y9 y10 y11, LeO (weftref3_header.l0 k y0 y1 y2 y3 y4 y5 y6 y7 y8 y9 y10 y11) (weftref3_header.l0 (k + 1) y0 y1 y2 y3 y4 y5 y6 y7 y8 y9 y10 y11))
  | 0 => ⟨fun _ _ _ _ _ _ _ _ _ _ _ _ _ r h => by simp [weftref3_header.j0] at h, fun _ _ _ _ _ _ _ _ _ _ _ _ _ r h => by simp [weftref3_header.j1] at h, fun _ _ _ _ _ _ _ _ _ _ _ _ r h => by simp [weftref3_header.l0] at h⟩
  | k + 1 => by
    obtain ⟨ih0, ih1, ih2⟩ := weftref3_header.mono_l k
    refine ⟨?_, ?_, ?_⟩
    · intro y0 y1 y2 y3 y4 y5 y6 y7 y8 y9 y10 y11 y12
      unfold weftref3_header.j0
      repeat' first
      | (with_reducible exact ih0 _ _ _ _ _ _ _ _ _ _ _ _ _)
      | (with_reducible exact ih1 _ _ _ _ _ _ _ _ _ _ _ _ _)
      | (with_reducible exact ih2 _ _ _ _ _ _ _ _ _ _ _ _)
      | (with_reducible exact LeO.refl _)
      | (with_reducible exact LeO.none _)
      | (with_reducible refine LeO.ite ?_ ?_)
      | (with_reducible refine LeO.bind ?_ (fun _ => ?_))
      | exact ih0 _ _ _ _ _ _ _ _ _ _ _ _ _
      | exact ih1 _ _ _ _ _ _ _ _ _ _ _ _ _
      | exact ih2 _ _ _ _ _ _ _ _ _ _ _ _
      | exact LeO.none _
      | refine LeO.ite ?_ ?_
      | refine LeO.bind ?_ (fun _ => ?_)
    · intro y0 y1 y2 y3 y4 y5 y6 y7 y8 y9 y10 y11 y12
      unfold weftref3_header.j1
      repeat' first
      | (with_reducible exact ih0 _ _ _ _ _ _ _ _ _ _ _ _ _)
      | (with_reducible exact ih1 _ _ _ _ _ _ _ _ _ _ _ _ _)
      | (with_reducible exact ih2 _ _ _ _ _ _ _ _ _ _ _ _)
      | (with_reducible exact LeO.refl _)
      | (with_reducible exact LeO.none _)
      | (with_reducible refine LeO.ite ?_ ?_)
      | (with_reducible refine LeO.bind ?_ (fun _ => ?_))
      | exact ih0 _ _ _ _ _ _ _ _ _ _ _ _ _
      | exact ih1 _ _ _ _ _ _ _ _ _ _ _ _ _
      | exact ih2 _ _ _ _ _ _ _ _ _ _ _ _
      | exact LeO.none _
      | refine LeO.ite ?_ ?_
      | refine LeO.bind ?_ (fun _ => ?_)
    · intro y0 y1 y2 y3 y4 y5 y6 y7 y8 y9 y10 y11
      unfold weftref3_header.l0
      repeat' first
      | (with_reducible exact ih0 _ _ _ _ _ _ _ _ _ _ _ _ _)
      | (with_reducible exact ih1 _ _ _ _ _ _ _ _ _ _ _ _ _)
      | (with_reducible exact ih2 _ _ _ _ _ _ _ _ _ _ _ _)
      | (with_reducible exact LeO.refl _)
      | (with_reducible exact LeO.none _)
      | (with_reducible refine LeO.ite ?_ ?_)
      | (with_reducible refine LeO.bind ?_ (fun _ => ?_))
      | exact ih0 _ _ _ _ _ _ _ _ _ _ _ _ _
      | exact ih1 _ _ _ _ _ _ _ _ _ _ _ _ _
      | exact ih2 _ _ _ _ _ _ _ _ _ _ _ _
      | exact LeO.none _
      | refine LeO.ite ?_ ?_
      | refine LeO.bind ?_ (fun _ => ?_)
theorem weftref3_header.mono : ∀ a0 a1 a2 a3 a4 a5 a6 a7 a8 a9 a10 a11 k, LeO (weftref3_header.f k a0 a1 a2 a3 a4 a5 a6 a7 a8 a9 a10 a11) (weftref3_header.f (k + 1) a0 a1 a2 a3 a4 a5 a6 a7 a8 a9 a10 a11) := by
  intro a0 a1 a2 a3 a4 a5 a6 a7 a8 a9 a10 a11 k
  obtain ⟨ih0, ih1, ih2⟩ := weftref3_header.mono_l k
  unfold weftref3_header.f
  repeat' first
      | (with_reducible exact ih0 _ _ _ _ _ _ _ _ _ _ _ _ _)
      | (with_reducible exact ih1 _ _ _ _ _ _ _ _ _ _ _ _ _)
      | (with_reducible exact ih2 _ _ _ _ _ _ _ _ _ _ _ _)
      | (with_reducible exact LeO.refl _)
      | (with_reducible exact LeO.none _)
      | (with_reducible refine LeO.ite ?_ ?_)
      | (with_reducible refine LeO.bind ?_ (fun _ => ?_))
      | exact ih0 _ _ _ _ _ _ _ _ _ _ _ _ _
      | exact ih1 _ _ _ _ _ _ _ _ _ _ _ _ _
      | exact ih2 _ _ _ _ _ _ _ _ _ _ _ _
      | exact LeO.none _
      | refine LeO.ite ?_ ?_
      | refine LeO.bind ?_ (fun _ => ?_)
set_option maxHeartbeats 8000000 in
set_option maxRecDepth 100000 in
theorem weftref3_header.calls (k : Nat) (a0_0 : Int) (a0_1 : Int) (a0_2 : Bool) (a0_3 : Bool) (a0_4 : Int) (a0_5 : Int) (a0_6 : Int) (a0_7 : Int) (a0_8 : Int) (A0_9 : Option Addr) (c0_9 : Nat) (l0_9 : List Int) (a1 : Int) (a2 : Int) (r : List Int) (w : World) (hr0_9 : Kd.C (Kd.int .u8) w A0_9 l0_9.length l0_9) (hc0_9 : l0_9.length ≤ c0_9) (h : weftref3_header.f k a0_0 a0_1 a0_2 a0_3 a0_4 a0_5 a0_6 a0_7 a0_8 l0_9 a1 a2 = some r) :
    Calls Try.prog 42 #[.agg #[.int .u8 a0_0, .int .u16 a0_1, .bool a0_2, .bool a0_3, .int .i64 a0_4, .int .u8 a0_5, .int .u8 a0_6, .int .u32 a0_7, .int .u32 a0_8, .slice A0_9 l0_9.length c0_9], .int .i64 a1, .int .u16 a2] w fun e w' => ∃ v0_ : Value, e = .returned (v0_) ∧ Kd.R (Kd.int .u8) 5 w' w.heap.size (fun _ => True) v0_ r ∧ Below w.heap.size w w' := by
  have hu31 := Try.underlying31
  have HR0_9 := Aside0.mk hr0_9
  have HC0_9 := Aside0.mk hc0_9
  clear hr0_9 hc0_9
  have HB := Aside0.mk (Below.refl w.heap.size w)
  have H : ((some (([(wrap64 (69 + (wrap64 ((l0_9.length : Int) / 4)))) % 256, a0_0] : List Int) : List Int)).bind fun y267 => (if ([] : List Int).length + y267.length < 140737488355328 then ((weftref3_put2.f (([] : List Int) ++ y267) a1).bind fun t273 => ((weftref3_put2.f t273 (wrap64 (a0_1))).bind fun t276 => (if a0_2 = true then (weftref3_header.j0 k a2 t276 (wrap64 ((wrap64 (Int.tdiv a0_4 8)) + 16384)) a0_0 a0_1 a0_2 a0_3 a0_4 a0_5 a0_6 a0_7 a0_8 l0_9) else (weftref3_header.j0 k a2 t276 (wrap64 (Int.tdiv a0_4 8)) a0_0 a0_1 a0_2 a0_3 a0_4 a0_5 a0_6 a0_7 a0_8 l0_9)))) else (none))) = some r := h
  clear h
  obtain ⟨y267, hy267⟩ : ∃ y_ : List Int, y_ = (([(wrap64 (69 + (wrap64 ((l0_9.length : Int) / 4)))) % 256, a0_0] : List Int)) := ⟨_, rfl⟩
  replace H : (if ([] : List Int).length + y267.length < 140737488355328 then ((weftref3_put2.f (([] : List Int) ++ y267) a1).bind fun t273 => ((weftref3_put2.f t273 (wrap64 (a0_1))).bind fun t276 => (if a0_2 = true then (weftref3_header.j0 k a2 t276 (wrap64 ((wrap64 (Int.tdiv a0_4 8)) + 16384)) a0_0 a0_1 a0_2 a0_3 a0_4 a0_5 a0_6 a0_7 a0_8 l0_9) else (weftref3_header.j0 k a2 t276 (wrap64 (Int.tdiv a0_4 8)) a0_0 a0_1 a0_2 a0_3 a0_4 a0_5 a0_6 a0_7 a0_8 l0_9)))) else (none)) = some r := by first | (rw [hy267]; with_reducible exact H) | (have H2_ := (Option.bind_some _ _).symm.trans H; rw [hy267]; with_reducible exact H2_) | (have H2_ := (Option.bind_some _ _).symm.trans H; with_reducible exact H2_) | with_reducible exact H | (rw [hy267]; exact H) | exact H
  have Ny267 := Aside0.mk hy267
  clear hy267
  by_cases c4 : ([] : List Int).length + y267.length < 140737488355328
  · rw [if_pos c4] at H
    have LMc4 := Aside0.mk c4
    clear c4
    obtain ⟨y270, hy270⟩ : ∃ y_ : List Int, y_ = (([] : List Int) ++ y267) := ⟨_, rfl⟩
    replace H : ((weftref3_put2.f y270 a1).bind fun t273 => ((weftref3_put2.f t273 (wrap64 (a0_1))).bind fun t276 => (if a0_2 = true then (weftref3_header.j0 k a2 t276 (wrap64 ((wrap64 (Int.tdiv a0_4 8)) + 16384)) a0_0 a0_1 a0_2 a0_3 a0_4 a0_5 a0_6 a0_7 a0_8 l0_9) else (weftref3_header.j0 k a2 t276 (wrap64 (Int.tdiv a0_4 8)) a0_0 a0_1 a0_2 a0_3 a0_4 a0_5 a0_6 a0_7 a0_8 l0_9)))) = some r := by first | (rw [hy270]; with_reducible exact H) | (have H2_ := (Option.bind_some _ _).symm.trans H; rw [hy270]; with_reducible exact H2_) | (have H2_ := (Option.bind_some _ _).symm.trans H; with_reducible exact H2_) | with_reducible exact H | (rw [hy270]; exact H) | exact H
    have Ny270 := Aside0.mk hy270
    clear hy270
    replace H := Option.bind_eq_some_iff.mp H
    obtain ⟨t273, A50, H⟩ := H
    replace H : ((weftref3_put2.f t273 (wrap64 (a0_1))).bind fun t276 => (if a0_2 = true then (weftref3_header.j0 k a2 t276 (wrap64 ((wrap64 (Int.tdiv a0_4 8)) + 16384)) a0_0 a0_1 a0_2 a0_3 a0_4 a0_5 a0_6 a0_7 a0_8 l0_9) else (weftref3_header.j0 k a2 t276 (wrap64 (Int.tdiv a0_4 8)) a0_0 a0_1 a0_2 a0_3 a0_4 a0_5 a0_6 a0_7 a0_8 l0_9))) = some r := H
    have A5 := Aside0.mk A50
    clear A50
    replace H := Option.bind_eq_some_iff.mp H
    obtain ⟨t276, A60, H⟩ := H
    replace H : (if a0_2 = true then (weftref3_header.j0 k a2 t276 (wrap64 ((wrap64 (Int.tdiv a0_4 8)) + 16384)) a0_0 a0_1 a0_2 a0_3 a0_4 a0_5 a0_6 a0_7 a0_8 l0_9) else (weftref3_header.j0 k a2 t276 (wrap64 (Int.tdiv a0_4 8)) a0_0 a0_1 a0_2 a0_3 a0_4 a0_5 a0_6 a0_7 a0_8 l0_9)) = some r := H
    have A6 := Aside0.mk A60
    clear A60
    have HC7 := Aside0.mk H
    clear H
    go_enter Try.func42, Try.ntmps42
    go_upto_if 33 with (first | ((with_reducible refine gate_dst (N := 3) rfl ?_); refine box_event ?hg (N := 3) ?hd (cs := #[.int .u8 a0_0, .int .u16 a0_1, .bool a0_2, .bool a0_3, .int .i64 a0_4, .int .u8 a0_5, .int .u8 a0_6, .int .u32 a0_7, .int .u32 a0_8, .slice A0_9 l0_9.length c0_9]) (t := 31) ?hr ?_; (case hd => rfl); (case hg => rfl); (case hr => first | (go_simp; done) | (go_simp; rfl)); intro gb266 hg w8 hbox hb; have n0_ := Aside0.mk (below_step (by repeat (first | (with_reducible first | exact HB.out | apply below_alloc | apply pw_below_drewN | apply below_drew1) | exact HB.out)) hb); have n1_ := Aside0.mk (hbox); have n2_ := Aside0.mk ((by rw [hg]; exact (below_size (by repeat (first | (with_reducible first | exact HB.out | apply below_alloc | apply pw_below_drewN | apply below_drew1) | exact HB.out))) : w.heap.size ≤ gb266)); have n3_ := Aside0.mk ((by rw [hg]; exact (below_size (by repeat (first | (with_reducible first | exact HB.out | apply below_alloc | apply pw_below_drewN | apply below_drew1) | exact HB.out))) : w.heap.size ≤ gb266)); clear HB; have HB := n0_; have BK266 := n1_; have GW266 := n2_; have GE266 := n3_; clear n0_ n1_ n2_ n3_; clear hb hbox hg; have hcz9_0 : w8.cell? ⟨gb266, 0, none⟩ = some (.int .u8 a0_0) := (blk_cell BK266.out 0).trans rfl; have hcz9_1 : w8.cell? ⟨gb266, 1, none⟩ = some (.int .u16 a0_1) := (blk_cell BK266.out 1).trans rfl; have hcz9_2 : w8.cell? ⟨gb266, 2, none⟩ = some (.bool a0_2) := (blk_cell BK266.out 2).trans rfl; have hcz9_3 : w8.cell? ⟨gb266, 3, none⟩ = some (.bool a0_3) := (blk_cell BK266.out 3).trans rfl; have hcz9_4 : w8.cell? ⟨gb266, 4, none⟩ = some (.int .i64 a0_4) := (blk_cell BK266.out 4).trans rfl; have hcz9_5 : w8.cell? ⟨gb266, 5, none⟩ = some (.int .u8 a0_5) := (blk_cell BK266.out 5).trans rfl; have hcz9_6 : w8.cell? ⟨gb266, 6, none⟩ = some (.int .u8 a0_6) := (blk_cell BK266.out 6).trans rfl; have hcz9_7 : w8.cell? ⟨gb266, 7, none⟩ = some (.int .u32 a0_7) := (blk_cell BK266.out 7).trans rfl; have hcz9_8 : w8.cell? ⟨gb266, 8, none⟩ = some (.int .u32 a0_8) := (blk_cell BK266.out 8).trans rfl; have hcz9_9 : w8.cell? ⟨gb266, 9, none⟩ = some (.slice A0_9 l0_9.length c0_9) := (blk_cell BK266.out 9).trans rfl; have hfz9_0 := blk_frozen BK266.out 0; have hfz9_1 := blk_frozen BK266.out 1; have hfz9_2 := blk_frozen BK266.out 2; have hfz9_3 := blk_frozen BK266.out 3; have hfz9_4 := blk_frozen BK266.out 4; have hfz9_5 := blk_frozen BK266.out 5; have hfz9_6 := blk_frozen BK266.out 6; have hfz9_7 := blk_frozen BK266.out 7; have hfz9_8 := blk_frozen BK266.out 8; have hfz9_9 := blk_frozen BK266.out 9) | ((with_reducible refine gate_dst (N := 19) rfl ?_); refine Kd.R_lit (Kd.int .u8) _ 5 ?hg (N := 19) ?hd (xs := ([(wrap64 (69 + (wrap64 ((l0_9.length : Int) / 4)))) % 256, a0_0] : List Int)) (inner := [.int .u8 ((wrap64 (69 + (wrap64 ((l0_9.length : Int) / 4)))) % 256), .int .u8 a0_0]) (ok := fun _ => True) (okp := fun _ => True) ?hr ?hp (fun _ hk => hk) trivial (Below.refl _ _) (Nat.le_refl _) (by simp) ?_; (case hd => rfl); (case hg => rfl); (case hr => first | (go_simp; done) | (go_simp; rfl)); (case hp => exact (Reps.one (show Kd.M (Kd.int .u8) _ _ _ ((wrap64 (69 + (wrap64 ((l0_9.length : Int) / 4)))) % 256) [.int .u8 ((wrap64 (69 + (wrap64 ((l0_9.length : Int) / 4)))) % 256)] from rfl) (Reps.one (show Kd.M (Kd.int .u8) _ _ _ a0_0 [.int .u8 a0_0] from rfl) (Reps.none _ _)))); intro v268 w10 ho11 hb hg_ hnew_; clear hg_ hnew_; (first | rw [← Ny267.out] at ho11 | (simp only [Int.reduceToNat] at ho11; rw [← Ny267.out] at ho11)); have n0_ := Aside0.mk (Kd.R_lower ho11 (below_size zqxa6_1)); have n1_ := Aside0.mk (blk_below (g := gb266) (o := .cells #[.int .u8 a0_0, .int .u16 a0_1, .bool a0_2, .bool a0_3, .int .i64 a0_4, .int .u8 a0_5, .int .u8 a0_6, .int .u32 a0_7, .int .u32 a0_8, .slice A0_9 l0_9.length c0_9] 31 (0, 0)) zqxa6_0 hb); have n2_ := Aside0.mk (below_step zqxa6_1 hb); clear BK266; clear HB; have HO269 := n0_; have BK266 := n1_; have HB := n2_; clear n0_ n1_ n2_; clear hb ho11; obtain ⟨Ao13, co13, eo13⟩ := Kd.R_slice HO269.out; subst eo13) | ((with_reducible refine gate_builtin (b := .append) (xs := #[.tmp 10, .tmp 19]) rfl ?_); at_builtin; refine Kd.R_append_rows (Kd.int .u8) (w0 := w) w.heap.size rfl (.tmp 10) (.tmp 19) 23 5 (.int .u8 0) 1 rfl Try.underlying23 info5 rfl (by decide) (by omega) (.slice none 0 0) ([] : List Int) y267 _ _ _ (fun k_ => some k_ ≠ (.slice Ao13 y267.length co13 : Value).ownBlock) (fun _ => False) rfl rfl ?aO ?aR (fun _ _ h => h) (fun _ h => h.elim) ?aF ?aB ?aS ?aL ?_; (case aR => repeat (first | exact (Kd.R_reads' HO269.out).2.2 | (with_reducible refine Kd.C_alloc ?_ _) | (with_reducible refine Kd.C_drewN ?_ _) | (with_reducible refine Kd.C_drew ?_))); (case aB => exact zqxa6_1); (case aF => exact (fun k_ hk => Kd.fresh' (Kd.R_lt (by (with_reducible repeat (first | apply Kd.R_alloc | apply Kd.R_drewN | apply Kd.R_drew)); exact HO269.out)) k_ hk)); (case aO => exact ((Kd.R_nil _ _ _ _ (fun k_ => some k_ ≠ (.slice Ao13 y267.length co13 : Value).ownBlock)))); (case aS => exact (below_size zqxa6_1)); (case aL => have := LMc4.out; omega); intro v271 w12 ho hb hg hat; rw [← Ny270.out] at ho; have n0_ := Aside0.mk (blk_grown (g := gb266) (o := .cells #[.int .u8 a0_0, .int .u16 a0_1, .bool a0_2, .bool a0_3, .int .i64 a0_4, .int .u8 a0_5, .int .u8 a0_6, .int .u32 a0_7, .int .u32 a0_8, .slice A0_9 l0_9.length c0_9] 31 (0, 0)) zqxa6_0 hg (by simp [Value.ownBlock])); have n1_ := Aside0.mk (Kd.R_after (Kd.R_apart_nil (by (with_reducible repeat (first | apply Kd.R_alloc | apply Kd.R_drewN | apply Kd.R_drew)); exact HO269.out)) hg hat); have n2_ := Aside0.mk (hb); have n3_ := Aside0.mk (ho); clear BK266; clear HO269; clear HB; have BK266 := n0_; have HO269 := n1_; have HB := n2_; have HO272 := n3_; clear n0_ n1_ n2_ n3_; clear ho hb hg hat; obtain ⟨Ao14, co14, eo14⟩ := Kd.R_slice HO272.out; subst eo14) | ((with_reducible refine gate_callee (f := 57) rfl ?_); refine goesL_ (some 23) rfl rfl Try.func57 (by kernel_rfl) rfl #[.slice Ao14 y270.length co14, .int .i64 a1] rfl zqxa6_2 ?_; (with_reducible refine (weftref3_put2.calls (fun k_ => some k_ = (.slice Ao14 y270.length co14 : Value).ownBlock) (.slice Ao14 y270.length co14) y270 a1 t273 w _ ?side1 ?side2 A5.out).mono ?_); (case side1 => repeat (first | (with_reducible first | exact HB.out | apply below_alloc | apply pw_below_drewN | apply below_drew1 | refine below_set ?_ GE266.out) | exact HB.out)); (case side2 => (with_reducible repeat (first | apply Kd.R_alloc | apply Kd.R_drewN | apply Kd.R_drew)); exact Kd.R_tight rfl HO272.out); rintro e w15 ⟨v274, rfl, ho0, hb, hkp⟩; refine ⟨_, rfl, ?_⟩; have n0_ := Aside0.mk (blk_kept zqxa6_0 hkp (fun hs_ => (fun e_ => (Kd.R_ne HO272.out BK266.out (by decide)) e_) hs_)); have n1_ := Aside0.mk (Kd.R_mono (ok' := fun k_ => some k_ ≠ (v274 : Value).ownBlock) (Kd.R_keptB (HO269.out) hkp (fun k_ hk_ hs_ => (hk_.2) hs_)) (fun k_ hk_ => fun e_ => Or.elim (ho0.1 k_ e_.symm) (fun hs_ => hk_.2.1 hs_) (fun hn_ => Nat.not_le.2 hk_.2.2 hn_))); have n2_ := Aside0.mk (Kd.R_mono (ok' := fun k_ => some k_ ≠ (.slice Ao13 y267.length co13 : Value).ownBlock) ho0 (fun k_ hk_ => Or.elim hk_ (fun hs_ => fun e_ => (((HO269.out).1 k_ e_.symm).2) hs_) (fun hn_ => (Kd.fresh' (Kd.R_lt (by (with_reducible repeat (first | apply Kd.R_alloc | apply Kd.R_drewN | apply Kd.R_drew)); exact HO269.out)) k_ hn_)))); have n3_ := Aside0.mk (hb); clear BK266; clear HO269; clear HB; clear HO272; have BK266 := n0_; have HO269 := n1_; have HO275 := n2_; have HB := n3_; clear n0_ n1_ n2_ n3_; (try clear hb); (try clear hkp); (try clear ho0); have hcz16_0 : w15.cell? ⟨gb266, 0, none⟩ = some (.int .u8 a0_0) := (blk_cell BK266.out 0).trans rfl; have hcz16_1 : w15.cell? ⟨gb266, 1, none⟩ = some (.int .u16 a0_1) := (blk_cell BK266.out 1).trans rfl; have hcz16_2 : w15.cell? ⟨gb266, 2, none⟩ = some (.bool a0_2) := (blk_cell BK266.out 2).trans rfl; have hcz16_3 : w15.cell? ⟨gb266, 3, none⟩ = some (.bool a0_3) := (blk_cell BK266.out 3).trans rfl; have hcz16_4 : w15.cell? ⟨gb266, 4, none⟩ = some (.int .i64 a0_4) := (blk_cell BK266.out 4).trans rfl; have hcz16_5 : w15.cell? ⟨gb266, 5, none⟩ = some (.int .u8 a0_5) := (blk_cell BK266.out 5).trans rfl; have hcz16_6 : w15.cell? ⟨gb266, 6, none⟩ = some (.int .u8 a0_6) := (blk_cell BK266.out 6).trans rfl; have hcz16_7 : w15.cell? ⟨gb266, 7, none⟩ = some (.int .u32 a0_7) := (blk_cell BK266.out 7).trans rfl; have hcz16_8 : w15.cell? ⟨gb266, 8, none⟩ = some (.int .u32 a0_8) := (blk_cell BK266.out 8).trans rfl; have hcz16_9 : w15.cell? ⟨gb266, 9, none⟩ = some (.slice A0_9 l0_9.length c0_9) := (blk_cell BK266.out 9).trans rfl; have hfz16_0 := blk_frozen BK266.out 0; have hfz16_1 := blk_frozen BK266.out 1; have hfz16_2 := blk_frozen BK266.out 2; have hfz16_3 := blk_frozen BK266.out 3; have hfz16_4 := blk_frozen BK266.out 4; have hfz16_5 := blk_frozen BK266.out 5; have hfz16_6 := blk_frozen BK266.out 6; have hfz16_7 := blk_frozen BK266.out 7; have hfz16_8 := blk_frozen BK266.out 8; have hfz16_9 := blk_frozen BK266.out 9; obtain ⟨Ao17, co17, eo17⟩ := Kd.R_slice HO275.out; subst eo17) | ((with_reducible refine gate_callee (f := 57) rfl ?_); refine goesL_ (some 28) rfl rfl Try.func57 (by kernel_rfl) rfl #[.slice Ao17 t273.length co17, .int .i64 (wrap64 (a0_1))] rfl zqxa6_2 ?_; (with_reducible refine (weftref3_put2.calls (fun k_ => some k_ = (.slice Ao17 t273.length co17 : Value).ownBlock) (.slice Ao17 t273.length co17) t273 (wrap64 (a0_1)) t276 w _ ?side1 ?side2 A6.out).mono ?_); (case side1 => repeat (first | (with_reducible first | exact HB.out | apply below_alloc | apply pw_below_drewN | apply below_drew1 | refine below_set ?_ GE266.out) | exact HB.out)); (case side2 => (with_reducible repeat (first | apply Kd.R_alloc | apply Kd.R_drewN | apply Kd.R_drew)); exact Kd.R_tight rfl HO275.out); rintro e w18 ⟨v277, rfl, ho0, hb, hkp⟩; refine ⟨_, rfl, ?_⟩; have n0_ := Aside0.mk (blk_kept zqxa6_0 hkp (fun hs_ => (fun e_ => (Kd.R_ne HO275.out BK266.out (by decide)) e_) hs_)); have n1_ := Aside0.mk (Kd.R_mono (ok' := fun k_ => some k_ ≠ (v277 : Value).ownBlock) (Kd.R_keptB (HO269.out) hkp (fun k_ hk_ hs_ => (hk_) hs_)) (fun k_ hk_ => fun e_ => Or.elim (ho0.1 k_ e_.symm) (fun hs_ => hk_.2.1 hs_) (fun hn_ => Nat.not_le.2 hk_.2.2 hn_))); have n2_ := Aside0.mk (Kd.R_mono (ok' := fun k_ => some k_ ≠ (.slice Ao13 y267.length co13 : Value).ownBlock) ho0 (fun k_ hk_ => Or.elim hk_ (fun hs_ => fun e_ => (((HO269.out).1 k_ e_.symm)) hs_) (fun hn_ => (Kd.fresh' (Kd.R_lt (by (with_reducible repeat (first | apply Kd.R_alloc | apply Kd.R_drewN | apply Kd.R_drew)); exact HO269.out)) k_ hn_)))); have n3_ := Aside0.mk (hb); clear BK266; clear HO269; clear HB; clear HO275; have BK266 := n0_; have HO269 := n1_; have HO278 := n2_; have HB := n3_; clear n0_ n1_ n2_ n3_; (try clear hb); (try clear hkp); (try clear ho0); have hcz19_0 : w18.cell? ⟨gb266, 0, none⟩ = some (.int .u8 a0_0) := (blk_cell BK266.out 0).trans rfl; have hcz19_1 : w18.cell? ⟨gb266, 1, none⟩ = some (.int .u16 a0_1) := (blk_cell BK266.out 1).trans rfl; have hcz19_2 : w18.cell? ⟨gb266, 2, none⟩ = some (.bool a0_2) := (blk_cell BK266.out 2).trans rfl; have hcz19_3 : w18.cell? ⟨gb266, 3, none⟩ = some (.bool a0_3) := (blk_cell BK266.out 3).trans rfl; have hcz19_4 : w18.cell? ⟨gb266, 4, none⟩ = some (.int .i64 a0_4) := (blk_cell BK266.out 4).trans rfl; have hcz19_5 : w18.cell? ⟨gb266, 5, none⟩ = some (.int .u8 a0_5) := (blk_cell BK266.out 5).trans rfl; have hcz19_6 : w18.cell? ⟨gb266, 6, none⟩ = some (.int .u8 a0_6) := (blk_cell BK266.out 6).trans rfl; have hcz19_7 : w18.cell? ⟨gb266, 7, none⟩ = some (.int .u32 a0_7) := (blk_cell BK266.out 7).trans rfl; have hcz19_8 : w18.cell? ⟨gb266, 8, none⟩ = some (.int .u32 a0_8) := (blk_cell BK266.out 8).trans rfl; have hcz19_9 : w18.cell? ⟨gb266, 9, none⟩ = some (.slice A0_9 l0_9.length c0_9) := (blk_cell BK266.out 9).trans rfl; have hfz19_0 := blk_frozen BK266.out 0; have hfz19_1 := blk_frozen BK266.out 1; have hfz19_2 := blk_frozen BK266.out 2; have hfz19_3 := blk_frozen BK266.out 3; have hfz19_4 := blk_frozen BK266.out 4; have hfz19_5 := blk_frozen BK266.out 5; have hfz19_6 := blk_frozen BK266.out 6; have hfz19_7 := blk_frozen BK266.out 7; have hfz19_8 := blk_frozen BK266.out 8; have hfz19_9 := blk_frozen BK266.out 9))
    (try simp only [Act.put, List.setIfInBounds_toArray, List.set_cons_zero, List.set_cons_succ])
    go_cut [8] (fun v8 wc => ∃ (kq : Nat) (x8_6 : Int), v8 = .int .i64 x8_6 ∧ Aside0 (weftref3_header.j0 kq a2 t276 x8_6 a0_0 a0_1 a0_2 a0_3 a0_4 a0_5 a0_6 a0_7 a0_8 l0_9 = some r) ∧ Aside0 (kq ≤ k) ∧ Aside0 (Kd.R (Kd.int .u8) 5 wc w.heap.size (fun _ => True) v277 t276) ∧ Aside0 (wc.heap[gb266]? = some (.cells #[.int .u8 a0_0, .int .u16 a0_1, .bool a0_2, .bool a0_3, .int .i64 a0_4, .int .u8 a0_5, .int .u8 a0_6, .int .u32 a0_7, .int .u32 a0_8, (.slice A0_9 l0_9.length c0_9)] 31 (0, 0))) ∧ Aside0 (Below w.heap.size w wc))
    case first =>
      have H := HC7.out
      clear HC7
      by_cases c20 : a0_2 = true
      · subst c20
        have H1 : (weftref3_header.j0 k a2 t276 (wrap64 ((wrap64 (Int.tdiv a0_4 8)) + 16384)) a0_0 a0_1 true a0_3 a0_4 a0_5 a0_6 a0_7 a0_8 l0_9) = some r := by rw [if_pos rfl] at H; exact H
        clear H
        have H := H1
        clear H1
        have H' := Aside0.mk H
        clear H
        go_wp2
        go_meet
        case rel => exact ⟨_, (wrap64 ((wrap64 (Int.tdiv a0_4 8)) + 16384)), (by first | rfl | (simp; done) | (simp [*]; done)), H', ⟨by first | omega | exact Nat.le_refl _⟩, ⟨by (with_reducible repeat (first | apply Kd.R_alloc | apply Kd.R_drewN | apply Kd.R_drew)); exact Kd.R_mono HO278.out (fun _ hk => trivial)⟩, ⟨by first | (with_reducible exact BK266.out) | (with_reducible exact blk_drewN BK266.out _) | (with_reducible exact blk_drew BK266.out) | ((with_reducible repeat (first | refine blk_drewN ?_ _ | refine blk_drew ?_ | refine blk_alloc ?_ _)); exact BK266.out)⟩, ⟨by repeat (first | (with_reducible first | exact HB.out | apply below_alloc | apply pw_below_drewN | apply below_drew1 | refine below_set ?_ GE266.out) | exact HB.out)⟩⟩
      · replace c20 := Bool.eq_false_iff.mpr c20
        subst c20
        have H1 : (weftref3_header.j0 k a2 t276 (wrap64 (Int.tdiv a0_4 8)) a0_0 a0_1 false a0_3 a0_4 a0_5 a0_6 a0_7 a0_8 l0_9) = some r := by rw [if_neg (show ¬ (false = true) by decide)] at H; exact H
        clear H
        have H := H1
        clear H1
        have H' := Aside0.mk H
        clear H
        go_wp2
        go_meet
        case rel => exact ⟨_, (wrap64 (Int.tdiv a0_4 8)), (by first | rfl | (simp; done) | (simp [*]; done)), H', ⟨by first | omega | exact Nat.le_refl _⟩, ⟨by (with_reducible repeat (first | apply Kd.R_alloc | apply Kd.R_drewN | apply Kd.R_drew)); exact Kd.R_mono HO278.out (fun _ hk => trivial)⟩, ⟨by first | (with_reducible exact BK266.out) | (with_reducible exact blk_drewN BK266.out _) | (with_reducible exact blk_drew BK266.out) | ((with_reducible repeat (first | refine blk_drewN ?_ _ | refine blk_drew ?_ | refine blk_alloc ?_ _)); exact BK266.out)⟩, ⟨by repeat (first | (with_reducible first | exact HB.out | apply below_alloc | apply pw_below_drewN | apply below_drew1 | refine below_set ?_ GE266.out) | exact HB.out)⟩⟩
    case rest =>
      clear HC7
      try clear c2
      try clear p2
      try clear c4
      try clear c5
      try clear p6
      try clear c20
      try clear hcz16_0
      try clear hcz16_1
      try clear hcz16_2
      try clear hcz16_3
      try clear hcz16_4
      try clear hcz16_5
      try clear hcz16_6
      try clear hcz16_7
      try clear hcz16_8
      try clear hcz16_9
      try clear hcz19_0
      try clear hcz19_1
      try clear hcz19_2
      try clear hcz19_3
      try clear hcz19_4
      try clear hcz19_5
      try clear hcz19_6
      try clear hcz19_7
      try clear hcz19_8
      try clear hcz19_9
      try clear hcz9_0
      try clear hcz9_1
      try clear hcz9_2
      try clear hcz9_3
      try clear hcz9_4
      try clear hcz9_5
      try clear hcz9_6
      try clear hcz9_7
      try clear hcz9_8
      try clear hcz9_9
      try clear hfz16_0
      try clear hfz16_1
      try clear hfz16_2
      try clear hfz16_3
      try clear hfz16_4
      try clear hfz16_5
      try clear hfz16_6
      try clear hfz16_7
      try clear hfz16_8
      try clear hfz16_9
      try clear hfz19_0
      try clear hfz19_1
      try clear hfz19_2
      try clear hfz19_3
      try clear hfz19_4
      try clear hfz19_5
      try clear hfz19_6
      try clear hfz19_7
      try clear hfz19_8
      try clear hfz19_9
      try clear hfz9_0
      try clear hfz9_1
      try clear hfz9_2
      try clear hfz9_3
      try clear hfz9_4
      try clear hfz9_5
      try clear hfz9_6
      try clear hfz9_7
      try clear hfz9_8
      try clear hfz9_9
      obtain ⟨kq, x8_6, rfl, HA, HJ6, HO_7, BK266, HB⟩ := hcut
      cases kq with
      | zero => exact absurd HA.out (by simp [weftref3_header.j0])
      | succ kj6 =>
        have H := HA.out
        clear HA
        simp only [weftref3_header.j0] at H
        have HC21 := Aside0.mk H
        clear H
        have hcz22_0 : wc.cell? ⟨gb266, 0, none⟩ = some (.int .u8 a0_0) := (blk_cell BK266.out 0).trans rfl
        have hcz22_1 : wc.cell? ⟨gb266, 1, none⟩ = some (.int .u16 a0_1) := (blk_cell BK266.out 1).trans rfl
        have hcz22_2 : wc.cell? ⟨gb266, 2, none⟩ = some (.bool a0_2) := (blk_cell BK266.out 2).trans rfl
        have hcz22_3 : wc.cell? ⟨gb266, 3, none⟩ = some (.bool a0_3) := (blk_cell BK266.out 3).trans rfl
        have hcz22_4 : wc.cell? ⟨gb266, 4, none⟩ = some (.int .i64 a0_4) := (blk_cell BK266.out 4).trans rfl
        have hcz22_5 : wc.cell? ⟨gb266, 5, none⟩ = some (.int .u8 a0_5) := (blk_cell BK266.out 5).trans rfl
        have hcz22_6 : wc.cell? ⟨gb266, 6, none⟩ = some (.int .u8 a0_6) := (blk_cell BK266.out 6).trans rfl
        have hcz22_7 : wc.cell? ⟨gb266, 7, none⟩ = some (.int .u32 a0_7) := (blk_cell BK266.out 7).trans rfl
        have hcz22_8 : wc.cell? ⟨gb266, 8, none⟩ = some (.int .u32 a0_8) := (blk_cell BK266.out 8).trans rfl
        have hcz22_9 : wc.cell? ⟨gb266, 9, none⟩ = some (.slice A0_9 l0_9.length c0_9) := (blk_cell BK266.out 9).trans rfl
        have hfz22_0 := blk_frozen BK266.out 0
        have hfz22_1 := blk_frozen BK266.out 1
        have hfz22_2 := blk_frozen BK266.out 2
        have hfz22_3 := blk_frozen BK266.out 3
        have hfz22_4 := blk_frozen BK266.out 4
        have hfz22_5 := blk_frozen BK266.out 5
        have hfz22_6 := blk_frozen BK266.out 6
        have hfz22_7 := blk_frozen BK266.out 7
        have hfz22_8 := blk_frozen BK266.out 8
        have hfz22_9 := blk_frozen BK266.out 9
        go_upto_if 37 with (fail)
        go_cut [8] (fun v8 wc => ∃ (kq : Nat) (x8_20 : Int), v8 = .int .i64 x8_20 ∧ Aside0 (weftref3_header.j1 kq a2 t276 x8_20 a0_0 a0_1 a0_2 a0_3 a0_4 a0_5 a0_6 a0_7 a0_8 l0_9 = some r) ∧ Aside0 (kq ≤ kj6) ∧ Aside0 (Kd.R (Kd.int .u8) 5 wc w.heap.size (fun _ => True) v277 t276) ∧ Aside0 (wc.heap[gb266]? = some (.cells #[.int .u8 a0_0, .int .u16 a0_1, .bool a0_2, .bool a0_3, .int .i64 a0_4, .int .u8 a0_5, .int .u8 a0_6, .int .u32 a0_7, .int .u32 a0_8, (.slice A0_9 l0_9.length c0_9)] 31 (0, 0))) ∧ Aside0 (Below w.heap.size w wc))
        case first =>
          have H := HC21.out
          clear HC21
          by_cases c23 : a0_3 = true
          · subst c23
            have H1 : (weftref3_header.j1 kj6 a2 t276 (wrap64 (x8_6 + 8192)) a0_0 a0_1 a0_2 true a0_4 a0_5 a0_6 a0_7 a0_8 l0_9) = some r := by rw [if_pos rfl] at H; exact H
            clear H
            have H := H1
            clear H1
            have H' := Aside0.mk H
            clear H
            go_wp2
            go_meet
            case rel => exact ⟨_, (wrap64 (x8_6 + 8192)), (by first | rfl | (simp; done) | (simp [*]; done)), H', ⟨by have := HJ6.out; first | omega | exact Nat.le_refl _⟩, ⟨by (with_reducible repeat (first | apply Kd.R_alloc | apply Kd.R_drewN | apply Kd.R_drew)); exact HO_7.out⟩, ⟨by first | (with_reducible exact BK266.out) | (with_reducible exact blk_drewN BK266.out _) | (with_reducible exact blk_drew BK266.out) | ((with_reducible repeat (first | refine blk_drewN ?_ _ | refine blk_drew ?_ | refine blk_alloc ?_ _)); exact BK266.out)⟩, ⟨by repeat (first | (with_reducible first | exact HB.out | apply below_alloc | apply pw_below_drewN | apply below_drew1 | refine below_set ?_ GE266.out) | exact HB.out)⟩⟩
          · replace c23 := Bool.eq_false_iff.mpr c23
            subst c23
            have H1 : (weftref3_header.j1 kj6 a2 t276 x8_6 a0_0 a0_1 a0_2 false a0_4 a0_5 a0_6 a0_7 a0_8 l0_9) = some r := by rw [if_neg (show ¬ (false = true) by decide)] at H; exact H
            clear H
            have H := H1
            clear H1
            have H' := Aside0.mk H
            clear H
            go_wp2
            go_meet
            case rel => exact ⟨_, (x8_6), (by first | rfl | (simp; done) | (simp [*]; done)), H', ⟨by have := HJ6.out; first | omega | exact Nat.le_refl _⟩, ⟨by (with_reducible repeat (first | apply Kd.R_alloc | apply Kd.R_drewN | apply Kd.R_drew)); exact HO_7.out⟩, ⟨by first | (with_reducible exact BK266.out) | (with_reducible exact blk_drewN BK266.out _) | (with_reducible exact blk_drew BK266.out) | ((with_reducible repeat (first | refine blk_drewN ?_ _ | refine blk_drew ?_ | refine blk_alloc ?_ _)); exact BK266.out)⟩, ⟨by repeat (first | (with_reducible first | exact HB.out | apply below_alloc | apply pw_below_drewN | apply below_drew1 | refine below_set ?_ GE266.out) | exact HB.out)⟩⟩
        case rest =>
          clear HC21
          try clear c2
          try clear p2
          try clear c4
          try clear c5
          try clear p6
          try clear c20
          try clear c23
          try clear hcz16_0
          try clear hcz16_1
          try clear hcz16_2
          try clear hcz16_3
          try clear hcz16_4
          try clear hcz16_5
          try clear hcz16_6
          try clear hcz16_7
          try clear hcz16_8
          try clear hcz16_9
          try clear hcz19_0
          try clear hcz19_1
          try clear hcz19_2
          try clear hcz19_3
          try clear hcz19_4
          try clear hcz19_5
          try clear hcz19_6
          try clear hcz19_7
          try clear hcz19_8
          try clear hcz19_9
          try clear hcz22_0
          try clear hcz22_1
          try clear hcz22_2
          try clear hcz22_3
          try clear hcz22_4
          try clear hcz22_5
          try clear hcz22_6
          try clear hcz22_7
          try clear hcz22_8
          try clear hcz22_9
          try clear hcz9_0
          try clear hcz9_1
          try clear hcz9_2
          try clear hcz9_3
          try clear hcz9_4
          try clear hcz9_5
          try clear hcz9_6
          try clear hcz9_7
          try clear hcz9_8
          try clear hcz9_9
          try clear hfz16_0
          try clear hfz16_1
          try clear hfz16_2
          try clear hfz16_3
          try clear hfz16_4
          try clear hfz16_5
          try clear hfz16_6
          try clear hfz16_7
          try clear hfz16_8
          try clear hfz16_9
          try clear hfz19_0
          try clear hfz19_1
          try clear hfz19_2
          try clear hfz19_3
          try clear hfz19_4
          try clear hfz19_5
          try clear hfz19_6
          try clear hfz19_7
          try clear hfz19_8
          try clear hfz19_9
          try clear hfz22_0
          try clear hfz22_1
          try clear hfz22_2
          try clear hfz22_3
          try clear hfz22_4
          try clear hfz22_5
          try clear hfz22_6
          try clear hfz22_7
          try clear hfz22_8
          try clear hfz22_9
          try clear hfz9_0
          try clear hfz9_1
          try clear hfz9_2
          try clear hfz9_3
          try clear hfz9_4
          try clear hfz9_5
          try clear hfz9_6
          try clear hfz9_7
          try clear hfz9_8
          try clear hfz9_9
          try clear p2
          try clear p6
          obtain ⟨kq, x8_20, rfl, HA, HJ20, HO_7, BK266, HB⟩ := hcut
          cases kq with
          | zero => exact absurd HA.out (by simp [weftref3_header.j1])
          | succ kj20 =>
            have H := HA.out
            clear HA
            simp only [weftref3_header.j1] at H
            replace H := Option.bind_eq_some_iff.mp H
            obtain ⟨t279, A240, H⟩ := H
            replace H : ((some (([a0_5, a0_6] : List Int) : List Int)).bind fun y282 => (if t279.length + y282.length < 140737488355328 then ((weftref3_put2.f (t279 ++ y282) (wrap64 (a2))).bind fun t288 => ((weftref3_put2.f t288 (wrap64 (Int.tdiv (wrap64 (a0_7)) 65536))).bind fun t291 => ((weftref3_put2.f t291 (Int.tmod (wrap64 (a0_7)) 65536)).bind fun t294 => ((weftref3_put2.f t294 (wrap64 (Int.tdiv (wrap64 (a0_8)) 65536))).bind fun t297 => ((weftref3_put2.f t297 (Int.tmod (wrap64 (a0_8)) 65536)).bind fun t300 => (weftref3_header.l0 kj20 t300 0 a0_0 a0_1 a0_2 a0_3 a0_4 a0_5 a0_6 a0_7 a0_8 l0_9)))))) else (none))) = some r := H
            have A24 := Aside0.mk A240
            clear A240
            obtain ⟨y282, hy282⟩ : ∃ y_ : List Int, y_ = (([a0_5, a0_6] : List Int)) := ⟨_, rfl⟩
            replace H : (if t279.length + y282.length < 140737488355328 then ((weftref3_put2.f (t279 ++ y282) (wrap64 (a2))).bind fun t288 => ((weftref3_put2.f t288 (wrap64 (Int.tdiv (wrap64 (a0_7)) 65536))).bind fun t291 => ((weftref3_put2.f t291 (Int.tmod (wrap64 (a0_7)) 65536)).bind fun t294 => ((weftref3_put2.f t294 (wrap64 (Int.tdiv (wrap64 (a0_8)) 65536))).bind fun t297 => ((weftref3_put2.f t297 (Int.tmod (wrap64 (a0_8)) 65536)).bind fun t300 => (weftref3_header.l0 kj20 t300 0 a0_0 a0_1 a0_2 a0_3 a0_4 a0_5 a0_6 a0_7 a0_8 l0_9)))))) else (none)) = some r := by first | (rw [hy282]; with_reducible exact H) | (have H2_ := (Option.bind_some _ _).symm.trans H; rw [hy282]; with_reducible exact H2_) | (have H2_ := (Option.bind_some _ _).symm.trans H; with_reducible exact H2_) | with_reducible exact H | (rw [hy282]; exact H) | exact H
            have Ny282 := Aside0.mk hy282
            clear hy282
            by_cases c25 : t279.length + y282.length < 140737488355328
            · rw [if_pos c25] at H
              have LMc25 := Aside0.mk c25
              clear c25
              obtain ⟨y285, hy285⟩ : ∃ y_ : List Int, y_ = (t279 ++ y282) := ⟨_, rfl⟩
              replace H : ((weftref3_put2.f y285 (wrap64 (a2))).bind fun t288 => ((weftref3_put2.f t288 (wrap64 (Int.tdiv (wrap64 (a0_7)) 65536))).bind fun t291 => ((weftref3_put2.f t291 (Int.tmod (wrap64 (a0_7)) 65536)).bind fun t294 => ((weftref3_put2.f t294 (wrap64 (Int.tdiv (wrap64 (a0_8)) 65536))).bind fun t297 => ((weftref3_put2.f t297 (Int.tmod (wrap64 (a0_8)) 65536)).bind fun t300 => (weftref3_header.l0 kj20 t300 0 a0_0 a0_1 a0_2 a0_3 a0_4 a0_5 a0_6 a0_7 a0_8 l0_9)))))) = some r := by first | (rw [hy285]; with_reducible exact H) | (have H2_ := (Option.bind_some _ _).symm.trans H; rw [hy285]; with_reducible exact H2_) | (have H2_ := (Option.bind_some _ _).symm.trans H; with_reducible exact H2_) | with_reducible exact H | (rw [hy285]; exact H) | exact H
              have Ny285 := Aside0.mk hy285
              clear hy285
              replace H := Option.bind_eq_some_iff.mp H
              obtain ⟨t288, A260, H⟩ := H
              replace H : ((weftref3_put2.f t288 (wrap64 (Int.tdiv (wrap64 (a0_7)) 65536))).bind fun t291 => ((weftref3_put2.f t291 (Int.tmod (wrap64 (a0_7)) 65536)).bind fun t294 => ((weftref3_put2.f t294 (wrap64 (Int.tdiv (wrap64 (a0_8)) 65536))).bind fun t297 => ((weftref3_put2.f t297 (Int.tmod (wrap64 (a0_8)) 65536)).bind fun t300 => (weftref3_header.l0 kj20 t300 0 a0_0 a0_1 a0_2 a0_3 a0_4 a0_5 a0_6 a0_7 a0_8 l0_9))))) = some r := H
              have A26 := Aside0.mk A260
              clear A260
              replace H := Option.bind_eq_some_iff.mp H
              obtain ⟨t291, A270, H⟩ := H
              replace H : ((weftref3_put2.f t291 (Int.tmod (wrap64 (a0_7)) 65536)).bind fun t294 => ((weftref3_put2.f t294 (wrap64 (Int.tdiv (wrap64 (a0_8)) 65536))).bind fun t297 => ((weftref3_put2.f t297 (Int.tmod (wrap64 (a0_8)) 65536)).bind fun t300 => (weftref3_header.l0 kj20 t300 0 a0_0 a0_1 a0_2 a0_3 a0_4 a0_5 a0_6 a0_7 a0_8 l0_9)))) = some r := H
              have A27 := Aside0.mk A270
              clear A270
              replace H := Option.bind_eq_some_iff.mp H
              obtain ⟨t294, A280, H⟩ := H
              replace H : ((weftref3_put2.f t294 (wrap64 (Int.tdiv (wrap64 (a0_8)) 65536))).bind fun t297 => ((weftref3_put2.f t297 (Int.tmod (wrap64 (a0_8)) 65536)).bind fun t300 => (weftref3_header.l0 kj20 t300 0 a0_0 a0_1 a0_2 a0_3 a0_4 a0_5 a0_6 a0_7 a0_8 l0_9))) = some r := H
              have A28 := Aside0.mk A280
              clear A280
              replace H := Option.bind_eq_some_iff.mp H
              obtain ⟨t297, A290, H⟩ := H
              replace H : ((weftref3_put2.f t297 (Int.tmod (wrap64 (a0_8)) 65536)).bind fun t300 => (weftref3_header.l0 kj20 t300 0 a0_0 a0_1 a0_2 a0_3 a0_4 a0_5 a0_6 a0_7 a0_8 l0_9)) = some r := H
              have A29 := Aside0.mk A290
              clear A290
              replace H := Option.bind_eq_some_iff.mp H
              obtain ⟨t300, A300, H⟩ := H
              replace H : (weftref3_header.l0 kj20 t300 0 a0_0 a0_1 a0_2 a0_3 a0_4 a0_5 a0_6 a0_7 a0_8 l0_9) = some r := H
              have A30 := Aside0.mk A300
              clear A300
              have H' := Aside0.mk H
              clear H
              obtain ⟨Ao31, co31, eo31⟩ := Kd.R_slice HO_7.out
              subst eo31
              go_wp2_with (first | ((with_reducible refine gate_callee (f := 57) rfl ?_); refine goesL_ (some 42) rfl rfl Try.func57 (by kernel_rfl) rfl #[.slice Ao31 t276.length co31, .int .i64 x8_20] rfl zqxa6_2 ?_; (with_reducible refine (weftref3_put2.calls (fun k_ => some k_ = (.slice Ao31 t276.length co31 : Value).ownBlock) (.slice Ao31 t276.length co31) t276 x8_20 t279 w _ ?side1 ?side2 A24.out).mono ?_); (case side1 => repeat (first | (with_reducible first | exact HB.out | apply below_alloc | apply pw_below_drewN | apply below_drew1 | refine below_set ?_ GE266.out) | exact HB.out)); (case side2 => (with_reducible repeat (first | apply Kd.R_alloc | apply Kd.R_drewN | apply Kd.R_drew)); exact Kd.R_tight rfl HO_7.out); rintro e w32 ⟨v280, rfl, ho0, hb, hkp⟩; refine ⟨_, rfl, ?_⟩; have n0_ := Aside0.mk (blk_kept zqxa6_0 hkp (fun hs_ => (fun e_ => (Kd.R_ne HO_7.out BK266.out (by decide)) e_) hs_)); have n1_ := Aside0.mk (Kd.R_mono (ok' := fun k_ => True) ho0 (fun k_ hk_ => trivial)); have n2_ := Aside0.mk (hb); clear BK266; clear HB; clear HO_7; have BK266 := n0_; have HO281 := n1_; have HB := n2_; clear n0_ n1_ n2_; (try clear hb); (try clear hkp); (try clear ho0); have hcz33_0 : w32.cell? ⟨gb266, 0, none⟩ = some (.int .u8 a0_0) := (blk_cell BK266.out 0).trans rfl; have hcz33_1 : w32.cell? ⟨gb266, 1, none⟩ = some (.int .u16 a0_1) := (blk_cell BK266.out 1).trans rfl; have hcz33_2 : w32.cell? ⟨gb266, 2, none⟩ = some (.bool a0_2) := (blk_cell BK266.out 2).trans rfl; have hcz33_3 : w32.cell? ⟨gb266, 3, none⟩ = some (.bool a0_3) := (blk_cell BK266.out 3).trans rfl; have hcz33_4 : w32.cell? ⟨gb266, 4, none⟩ = some (.int .i64 a0_4) := (blk_cell BK266.out 4).trans rfl; have hcz33_5 : w32.cell? ⟨gb266, 5, none⟩ = some (.int .u8 a0_5) := (blk_cell BK266.out 5).trans rfl; have hcz33_6 : w32.cell? ⟨gb266, 6, none⟩ = some (.int .u8 a0_6) := (blk_cell BK266.out 6).trans rfl; have hcz33_7 : w32.cell? ⟨gb266, 7, none⟩ = some (.int .u32 a0_7) := (blk_cell BK266.out 7).trans rfl; have hcz33_8 : w32.cell? ⟨gb266, 8, none⟩ = some (.int .u32 a0_8) := (blk_cell BK266.out 8).trans rfl; have hcz33_9 : w32.cell? ⟨gb266, 9, none⟩ = some (.slice A0_9 l0_9.length c0_9) := (blk_cell BK266.out 9).trans rfl; have hfz33_0 := blk_frozen BK266.out 0; have hfz33_1 := blk_frozen BK266.out 1; have hfz33_2 := blk_frozen BK266.out 2; have hfz33_3 := blk_frozen BK266.out 3; have hfz33_4 := blk_frozen BK266.out 4; have hfz33_5 := blk_frozen BK266.out 5; have hfz33_6 := blk_frozen BK266.out 6; have hfz33_7 := blk_frozen BK266.out 7; have hfz33_8 := blk_frozen BK266.out 8; have hfz33_9 := blk_frozen BK266.out 9) | ((with_reducible refine gate_dst (N := 48) rfl ?_); refine Kd.R_lit (Kd.int .u8) _ 5 ?hg (N := 48) ?hd (xs := ([a0_5, a0_6] : List Int)) (inner := [.int .u8 a0_5, .int .u8 a0_6]) (ok := fun _ => True) (okp := fun _ => True) ?hr ?hp (fun _ hk => hk) trivial (Below.refl _ _) (Nat.le_refl _) (by simp) ?_; (case hd => rfl); (case hg => rfl); (case hr => first | (go_simp; done) | (go_simp; rfl)); (case hp => exact (Reps.one (show Kd.M (Kd.int .u8) _ _ _ a0_5 [.int .u8 a0_5] from rfl) (Reps.one (show Kd.M (Kd.int .u8) _ _ _ a0_6 [.int .u8 a0_6] from rfl) (Reps.none _ _)))); intro v283 w34 ho35 hb hg_ hnew_; clear hg_ hnew_; (first | rw [← Ny282.out] at ho35 | (simp only [Int.reduceToNat] at ho35; rw [← Ny282.out] at ho35)); have n0_ := Aside0.mk (Kd.R_elder' (by (with_reducible repeat (first | apply Kd.R_alloc | apply Kd.R_drewN | apply Kd.R_drew)); exact HO281.out) (Kd.R_base ho35) hb); have n1_ := Aside0.mk (Kd.R_lower (Kd.R_new' ho35 (Kd.R_lt (by (with_reducible repeat (first | apply Kd.R_alloc | apply Kd.R_drewN | apply Kd.R_drew)); exact HO281.out))) (below_size zqxa6_1)); have n2_ := Aside0.mk (blk_below (g := gb266) (o := .cells #[.int .u8 a0_0, .int .u16 a0_1, .bool a0_2, .bool a0_3, .int .i64 a0_4, .int .u8 a0_5, .int .u8 a0_6, .int .u32 a0_7, .int .u32 a0_8, .slice A0_9 l0_9.length c0_9] 31 (0, 0)) zqxa6_0 hb); have n3_ := Aside0.mk (below_step zqxa6_1 hb); clear HO281; clear BK266; clear HB; have HO281 := n0_; have HO284 := n1_; have BK266 := n2_; have HB := n3_; clear n0_ n1_ n2_ n3_; clear hb ho35; obtain ⟨Ao37, co37, eo37⟩ := Kd.R_slice HO284.out; subst eo37) | ((with_reducible refine gate_builtin (b := .append) (xs := #[.tmp 43, .tmp 48]) rfl ?_); at_builtin; refine Kd.R_append_rows (Kd.int .u8) (w0 := w) w.heap.size rfl (.tmp 43) (.tmp 48) 23 5 (.int .u8 0) 1 rfl Try.underlying23 info5 rfl (by decide) (by omega) v280 t279 y282 _ _ _ (fun k_ => some k_ ≠ (.slice Ao37 y282.length co37 : Value).ownBlock) (fun _ => False) rfl rfl ?aO ?aR (fun _ _ h => h) (fun _ h => h.elim) ?aF ?aB ?aS ?aL ?_; (case aR => repeat (first | exact (Kd.R_reads' HO284.out).2.2 | (with_reducible refine Kd.C_alloc ?_ _) | (with_reducible refine Kd.C_drewN ?_ _) | (with_reducible refine Kd.C_drew ?_))); (case aB => exact zqxa6_1); (case aF => exact (fun k_ hk => Kd.fresh' (Kd.R_lt (by (with_reducible repeat (first | apply Kd.R_alloc | apply Kd.R_drewN | apply Kd.R_drew)); exact HO284.out)) k_ hk)); (case aO => exact (by (with_reducible repeat (first | apply Kd.R_alloc | apply Kd.R_drewN | apply Kd.R_drew)); exact Kd.R_mono HO281.out (fun _ hk => hk.2))); (case aS => exact (below_size zqxa6_1)); (case aL => have := LMc25.out; omega); intro v286 w36 ho hb hg hat; rw [← Ny285.out] at ho; have n0_ := Aside0.mk (blk_grown (g := gb266) (o := .cells #[.int .u8 a0_0, .int .u16 a0_1, .bool a0_2, .bool a0_3, .int .i64 a0_4, .int .u8 a0_5, .int .u8 a0_6, .int .u32 a0_7, .int .u32 a0_8, .slice A0_9 l0_9.length c0_9] 31 (0, 0)) zqxa6_0 hg (Kd.R_ne HO281.out BK266.out (by decide))); have n1_ := Aside0.mk (Kd.R_after (ok := (fun _ => True)) (by (with_reducible repeat (first | apply Kd.R_alloc | apply Kd.R_drewN | apply Kd.R_drew)); exact HO284.out) hg hat); have n2_ := Aside0.mk (hb); have n3_ := Aside0.mk (ho); clear BK266; clear HO284; clear HB; clear HO281; have BK266 := n0_; have HO284 := n1_; have HB := n2_; have HO287 := n3_; clear n0_ n1_ n2_ n3_; clear ho hb hg hat; obtain ⟨Ao38, co38, eo38⟩ := Kd.R_slice HO287.out; subst eo38) | ((with_reducible refine gate_callee (f := 57) rfl ?_); refine goesL_ (some 53) rfl rfl Try.func57 (by kernel_rfl) rfl #[.slice Ao38 y285.length co38, .int .i64 (wrap64 (a2))] rfl zqxa6_2 ?_; (with_reducible refine (weftref3_put2.calls (fun k_ => some k_ = (.slice Ao38 y285.length co38 : Value).ownBlock) (.slice Ao38 y285.length co38) y285 (wrap64 (a2)) t288 w _ ?side1 ?side2 A26.out).mono ?_); (case side1 => repeat (first | (with_reducible first | exact HB.out | apply below_alloc | apply pw_below_drewN | apply below_drew1 | refine below_set ?_ GE266.out) | exact HB.out)); (case side2 => (with_reducible repeat (first | apply Kd.R_alloc | apply Kd.R_drewN | apply Kd.R_drew)); exact Kd.R_tight rfl HO287.out); rintro e w39 ⟨v289, rfl, ho0, hb, hkp⟩; refine ⟨_, rfl, ?_⟩; have n0_ := Aside0.mk (blk_kept zqxa6_0 hkp (fun hs_ => (fun e_ => (Kd.R_ne HO287.out BK266.out (by decide)) e_) hs_)); have n1_ := Aside0.mk (Kd.R_mono (ok' := fun k_ => some k_ ≠ (v289 : Value).ownBlock) (Kd.R_keptB (HO284.out) hkp (fun k_ hk_ hs_ => (hk_.2) hs_)) (fun k_ hk_ => fun e_ => Or.elim (ho0.1 k_ e_.symm) (fun hs_ => hk_.2.1 hs_) (fun hn_ => Nat.not_le.2 hk_.2.2 hn_))); have n2_ := Aside0.mk (Kd.R_mono (ok' := fun k_ => some k_ ≠ (.slice Ao37 y282.length co37 : Value).ownBlock) ho0 (fun k_ hk_ => Or.elim hk_ (fun hs_ => fun e_ => (((HO284.out).1 k_ e_.symm).2) hs_) (fun hn_ => (Kd.fresh' (Kd.R_lt (by (with_reducible repeat (first | apply Kd.R_alloc | apply Kd.R_drewN | apply Kd.R_drew)); exact HO284.out)) k_ hn_)))); have n3_ := Aside0.mk (hb); clear BK266; clear HO284; clear HB; clear HO287; have BK266 := n0_; have HO284 := n1_; have HO290 := n2_; have HB := n3_; clear n0_ n1_ n2_ n3_; (try clear hb); (try clear hkp); (try clear ho0); have hcz40_0 : w39.cell? ⟨gb266, 0, none⟩ = some (.int .u8 a0_0) := (blk_cell BK266.out 0).trans rfl; have hcz40_1 : w39.cell? ⟨gb266, 1, none⟩ = some (.int .u16 a0_1) := (blk_cell BK266.out 1).trans rfl; have hcz40_2 : w39.cell? ⟨gb266, 2, none⟩ = some (.bool a0_2) := (blk_cell BK266.out 2).trans rfl; have hcz40_3 : w39.cell? ⟨gb266, 3, none⟩ = some (.bool a0_3) := (blk_cell BK266.out 3).trans rfl; have hcz40_4 : w39.cell? ⟨gb266, 4, none⟩ = some (.int .i64 a0_4) := (blk_cell BK266.out 4).trans rfl; have hcz40_5 : w39.cell? ⟨gb266, 5, none⟩ = some (.int .u8 a0_5) := (blk_cell BK266.out 5).trans rfl; have hcz40_6 : w39.cell? ⟨gb266, 6, none⟩ = some (.int .u8 a0_6) := (blk_cell BK266.out 6).trans rfl; have hcz40_7 : w39.cell? ⟨gb266, 7, none⟩ = some (.int .u32 a0_7) := (blk_cell BK266.out 7).trans rfl; have hcz40_8 : w39.cell? ⟨gb266, 8, none⟩ = some (.int .u32 a0_8) := (blk_cell BK266.out 8).trans rfl; have hcz40_9 : w39.cell? ⟨gb266, 9, none⟩ = some (.slice A0_9 l0_9.length c0_9) := (blk_cell BK266.out 9).trans rfl; have hfz40_0 := blk_frozen BK266.out 0; have hfz40_1 := blk_frozen BK266.out 1; have hfz40_2 := blk_frozen BK266.out 2; have hfz40_3 := blk_frozen BK266.out 3; have hfz40_4 := blk_frozen BK266.out 4; have hfz40_5 := blk_frozen BK266.out 5; have hfz40_6 := blk_frozen BK266.out 6; have hfz40_7 := blk_frozen BK266.out 7; have hfz40_8 := blk_frozen BK266.out 8; have hfz40_9 := blk_frozen BK266.out 9; obtain ⟨Ao41, co41, eo41⟩ := Kd.R_slice HO290.out; subst eo41) | ((with_reducible refine gate_callee (f := 57) rfl ?_); refine goesL_ (some 59) rfl rfl Try.func57 (by kernel_rfl) rfl #[.slice Ao41 t288.length co41, .int .i64 (wrap64 (Int.tdiv (wrap64 (a0_7)) 65536))] rfl zqxa6_2 ?_; (with_reducible refine (weftref3_put2.calls (fun k_ => some k_ = (.slice Ao41 t288.length co41 : Value).ownBlock) (.slice Ao41 t288.length co41) t288 (wrap64 (Int.tdiv (wrap64 (a0_7)) 65536)) t291 w _ ?side1 ?side2 A27.out).mono ?_); (case side1 => repeat (first | (with_reducible first | exact HB.out | apply below_alloc | apply pw_below_drewN | apply below_drew1 | refine below_set ?_ GE266.out) | exact HB.out)); (case side2 => (with_reducible repeat (first | apply Kd.R_alloc | apply Kd.R_drewN | apply Kd.R_drew)); exact Kd.R_tight rfl HO290.out); rintro e w42 ⟨v292, rfl, ho0, hb, hkp⟩; refine ⟨_, rfl, ?_⟩; have n0_ := Aside0.mk (blk_kept zqxa6_0 hkp (fun hs_ => (fun e_ => (Kd.R_ne HO290.out BK266.out (by decide)) e_) hs_)); have n1_ := Aside0.mk (Kd.R_mono (ok' := fun k_ => some k_ ≠ (v292 : Value).ownBlock) (Kd.R_keptB (HO284.out) hkp (fun k_ hk_ hs_ => (hk_) hs_)) (fun k_ hk_ => fun e_ => Or.elim (ho0.1 k_ e_.symm) (fun hs_ => hk_.2.1 hs_) (fun hn_ => Nat.not_le.2 hk_.2.2 hn_))); have n2_ := Aside0.mk (Kd.R_mono (ok' := fun k_ => some k_ ≠ (.slice Ao37 y282.length co37 : Value).ownBlock) ho0 (fun k_ hk_ => Or.elim hk_ (fun hs_ => fun e_ => (((HO284.out).1 k_ e_.symm)) hs_) (fun hn_ => (Kd.fresh' (Kd.R_lt (by (with_reducible repeat (first | apply Kd.R_alloc | apply Kd.R_drewN | apply Kd.R_drew)); exact HO284.out)) k_ hn_)))); have n3_ := Aside0.mk (hb); clear BK266; clear HO284; clear HB; clear HO290; have BK266 := n0_; have HO284 := n1_; have HO293 := n2_; have HB := n3_; clear n0_ n1_ n2_ n3_; (try clear hb); (try clear hkp); (try clear ho0); have hcz43_0 : w42.cell? ⟨gb266, 0, none⟩ = some (.int .u8 a0_0) := (blk_cell BK266.out 0).trans rfl; have hcz43_1 : w42.cell? ⟨gb266, 1, none⟩ = some (.int .u16 a0_1) := (blk_cell BK266.out 1).trans rfl; have hcz43_2 : w42.cell? ⟨gb266, 2, none⟩ = some (.bool a0_2) := (blk_cell BK266.out 2).trans rfl; have hcz43_3 : w42.cell? ⟨gb266, 3, none⟩ = some (.bool a0_3) := (blk_cell BK266.out 3).trans rfl; have hcz43_4 : w42.cell? ⟨gb266, 4, none⟩ = some (.int .i64 a0_4) := (blk_cell BK266.out 4).trans rfl; have hcz43_5 : w42.cell? ⟨gb266, 5, none⟩ = some (.int .u8 a0_5) := (blk_cell BK266.out 5).trans rfl; have hcz43_6 : w42.cell? ⟨gb266, 6, none⟩ = some (.int .u8 a0_6) := (blk_cell BK266.out 6).trans rfl; have hcz43_7 : w42.cell? ⟨gb266, 7, none⟩ = some (.int .u32 a0_7) := (blk_cell BK266.out 7).trans rfl; have hcz43_8 : w42.cell? ⟨gb266, 8, none⟩ = some (.int .u32 a0_8) := (blk_cell BK266.out 8).trans rfl; have hcz43_9 : w42.cell? ⟨gb266, 9, none⟩ = some (.slice A0_9 l0_9.length c0_9) := (blk_cell BK266.out 9).trans rfl; have hfz43_0 := blk_frozen BK266.out 0; have hfz43_1 := blk_frozen BK266.out 1; have hfz43_2 := blk_frozen BK266.out 2; have hfz43_3 := blk_frozen BK266.out 3; have hfz43_4 := blk_frozen BK266.out 4; have hfz43_5 := blk_frozen BK266.out 5; have hfz43_6 := blk_frozen BK266.out 6; have hfz43_7 := blk_frozen BK266.out 7; have hfz43_8 := blk_frozen BK266.out 8; have hfz43_9 := blk_frozen BK266.out 9; obtain ⟨Ao44, co44, eo44⟩ := Kd.R_slice HO293.out; subst eo44) | ((with_reducible refine gate_callee (f := 57) rfl ?_); refine goesL_ (some 65) rfl rfl Try.func57 (by kernel_rfl) rfl #[.slice Ao44 t291.length co44, .int .i64 (Int.tmod (wrap64 (a0_7)) 65536)] rfl zqxa6_2 ?_; (with_reducible refine (weftref3_put2.calls (fun k_ => some k_ = (.slice Ao44 t291.length co44 : Value).ownBlock) (.slice Ao44 t291.length co44) t291 (Int.tmod (wrap64 (a0_7)) 65536) t294 w _ ?side1 ?side2 A28.out).mono ?_); (case side1 => repeat (first | (with_reducible first | exact HB.out | apply below_alloc | apply pw_below_drewN | apply below_drew1 | refine below_set ?_ GE266.out) | exact HB.out)); (case side2 => (with_reducible repeat (first | apply Kd.R_alloc | apply Kd.R_drewN | apply Kd.R_drew)); exact Kd.R_tight rfl HO293.out); rintro e w45 ⟨v295, rfl, ho0, hb, hkp⟩; refine ⟨_, rfl, ?_⟩; have n0_ := Aside0.mk (blk_kept zqxa6_0 hkp (fun hs_ => (fun e_ => (Kd.R_ne HO293.out BK266.out (by decide)) e_) hs_)); have n1_ := Aside0.mk (Kd.R_mono (ok' := fun k_ => some k_ ≠ (v295 : Value).ownBlock) (Kd.R_keptB (HO284.out) hkp (fun k_ hk_ hs_ => (hk_) hs_)) (fun k_ hk_ => fun e_ => Or.elim (ho0.1 k_ e_.symm) (fun hs_ => hk_.2.1 hs_) (fun hn_ => Nat.not_le.2 hk_.2.2 hn_))); have n2_ := Aside0.mk (Kd.R_mono (ok' := fun k_ => some k_ ≠ (.slice Ao37 y282.length co37 : Value).ownBlock) ho0 (fun k_ hk_ => Or.elim hk_ (fun hs_ => fun e_ => (((HO284.out).1 k_ e_.symm)) hs_) (fun hn_ => (Kd.fresh' (Kd.R_lt (by (with_reducible repeat (first | apply Kd.R_alloc | apply Kd.R_drewN | apply Kd.R_drew)); exact HO284.out)) k_ hn_)))); have n3_ := Aside0.mk (hb); clear BK266; clear HO284; clear HB; clear HO293; have BK266 := n0_; have HO284 := n1_; have HO296 := n2_; have HB := n3_; clear n0_ n1_ n2_ n3_; (try clear hb); (try clear hkp); (try clear ho0); have hcz46_0 : w45.cell? ⟨gb266, 0, none⟩ = some (.int .u8 a0_0) := (blk_cell BK266.out 0).trans rfl; have hcz46_1 : w45.cell? ⟨gb266, 1, none⟩ = some (.int .u16 a0_1) := (blk_cell BK266.out 1).trans rfl; have hcz46_2 : w45.cell? ⟨gb266, 2, none⟩ = some (.bool a0_2) := (blk_cell BK266.out 2).trans rfl; have hcz46_3 : w45.cell? ⟨gb266, 3, none⟩ = some (.bool a0_3) := (blk_cell BK266.out 3).trans rfl; have hcz46_4 : w45.cell? ⟨gb266, 4, none⟩ = some (.int .i64 a0_4) := (blk_cell BK266.out 4).trans rfl; have hcz46_5 : w45.cell? ⟨gb266, 5, none⟩ = some (.int .u8 a0_5) := (blk_cell BK266.out 5).trans rfl; have hcz46_6 : w45.cell? ⟨gb266, 6, none⟩ = some (.int .u8 a0_6) := (blk_cell BK266.out 6).trans rfl; have hcz46_7 : w45.cell? ⟨gb266, 7, none⟩ = some (.int .u32 a0_7) := (blk_cell BK266.out 7).trans rfl; have hcz46_8 : w45.cell? ⟨gb266, 8, none⟩ = some (.int .u32 a0_8) := (blk_cell BK266.out 8).trans rfl; have hcz46_9 : w45.cell? ⟨gb266, 9, none⟩ = some (.slice A0_9 l0_9.length c0_9) := (blk_cell BK266.out 9).trans rfl; have hfz46_0 := blk_frozen BK266.out 0; have hfz46_1 := blk_frozen BK266.out 1; have hfz46_2 := blk_frozen BK266.out 2; have hfz46_3 := blk_frozen BK266.out 3; have hfz46_4 := blk_frozen BK266.out 4; have hfz46_5 := blk_frozen BK266.out 5; have hfz46_6 := blk_frozen BK266.out 6; have hfz46_7 := blk_frozen BK266.out 7; have hfz46_8 := blk_frozen BK266.out 8; have hfz46_9 := blk_frozen BK266.out 9; obtain ⟨Ao47, co47, eo47⟩ := Kd.R_slice HO296.out; subst eo47) | ((with_reducible refine gate_callee (f := 57) rfl ?_); refine goesL_ (some 71) rfl rfl Try.func57 (by kernel_rfl) rfl #[.slice Ao47 t294.length co47, .int .i64 (wrap64 (Int.tdiv (wrap64 (a0_8)) 65536))] rfl zqxa6_2 ?_; (with_reducible refine (weftref3_put2.calls (fun k_ => some k_ = (.slice Ao47 t294.length co47 : Value).ownBlock) (.slice Ao47 t294.length co47) t294 (wrap64 (Int.tdiv (wrap64 (a0_8)) 65536)) t297 w _ ?side1 ?side2 A29.out).mono ?_); (case side1 => repeat (first | (with_reducible first | exact HB.out | apply below_alloc | apply pw_below_drewN | apply below_drew1 | refine below_set ?_ GE266.out) | exact HB.out)); (case side2 => (with_reducible repeat (first | apply Kd.R_alloc | apply Kd.R_drewN | apply Kd.R_drew)); exact Kd.R_tight rfl HO296.out); rintro e w48 ⟨v298, rfl, ho0, hb, hkp⟩; refine ⟨_, rfl, ?_⟩; have n0_ := Aside0.mk (blk_kept zqxa6_0 hkp (fun hs_ => (fun e_ => (Kd.R_ne HO296.out BK266.out (by decide)) e_) hs_)); have n1_ := Aside0.mk (Kd.R_mono (ok' := fun k_ => some k_ ≠ (v298 : Value).ownBlock) (Kd.R_keptB (HO284.out) hkp (fun k_ hk_ hs_ => (hk_) hs_)) (fun k_ hk_ => fun e_ => Or.elim (ho0.1 k_ e_.symm) (fun hs_ => hk_.2.1 hs_) (fun hn_ => Nat.not_le.2 hk_.2.2 hn_))); have n2_ := Aside0.mk (Kd.R_mono (ok' := fun k_ => some k_ ≠ (.slice Ao37 y282.length co37 : Value).ownBlock) ho0 (fun k_ hk_ => Or.elim hk_ (fun hs_ => fun e_ => (((HO284.out).1 k_ e_.symm)) hs_) (fun hn_ => (Kd.fresh' (Kd.R_lt (by (with_reducible repeat (first | apply Kd.R_alloc | apply Kd.R_drewN | apply Kd.R_drew)); exact HO284.out)) k_ hn_)))); have n3_ := Aside0.mk (hb); clear BK266; clear HO284; clear HB; clear HO296; have BK266 := n0_; have HO284 := n1_; have HO299 := n2_; have HB := n3_; clear n0_ n1_ n2_ n3_; (try clear hb); (try clear hkp); (try clear ho0); have hcz49_0 : w48.cell? ⟨gb266, 0, none⟩ = some (.int .u8 a0_0) := (blk_cell BK266.out 0).trans rfl; have hcz49_1 : w48.cell? ⟨gb266, 1, none⟩ = some (.int .u16 a0_1) := (blk_cell BK266.out 1).trans rfl; have hcz49_2 : w48.cell? ⟨gb266, 2, none⟩ = some (.bool a0_2) := (blk_cell BK266.out 2).trans rfl; have hcz49_3 : w48.cell? ⟨gb266, 3, none⟩ = some (.bool a0_3) := (blk_cell BK266.out 3).trans rfl; have hcz49_4 : w48.cell? ⟨gb266, 4, none⟩ = some (.int .i64 a0_4) := (blk_cell BK266.out 4).trans rfl; have hcz49_5 : w48.cell? ⟨gb266, 5, none⟩ = some (.int .u8 a0_5) := (blk_cell BK266.out 5).trans rfl; have hcz49_6 : w48.cell? ⟨gb266, 6, none⟩ = some (.int .u8 a0_6) := (blk_cell BK266.out 6).trans rfl; have hcz49_7 : w48.cell? ⟨gb266, 7, none⟩ = some (.int .u32 a0_7) := (blk_cell BK266.out 7).trans rfl; have hcz49_8 : w48.cell? ⟨gb266, 8, none⟩ = some (.int .u32 a0_8) := (blk_cell BK266.out 8).trans rfl; have hcz49_9 : w48.cell? ⟨gb266, 9, none⟩ = some (.slice A0_9 l0_9.length c0_9) := (blk_cell BK266.out 9).trans rfl; have hfz49_0 := blk_frozen BK266.out 0; have hfz49_1 := blk_frozen BK266.out 1; have hfz49_2 := blk_frozen BK266.out 2; have hfz49_3 := blk_frozen BK266.out 3; have hfz49_4 := blk_frozen BK266.out 4; have hfz49_5 := blk_frozen BK266.out 5; have hfz49_6 := blk_frozen BK266.out 6; have hfz49_7 := blk_frozen BK266.out 7; have hfz49_8 := blk_frozen BK266.out 8; have hfz49_9 := blk_frozen BK266.out 9; obtain ⟨Ao50, co50, eo50⟩ := Kd.R_slice HO299.out; subst eo50) | ((with_reducible refine gate_callee (f := 57) rfl ?_); refine goesL_ (some 77) rfl rfl Try.func57 (by kernel_rfl) rfl #[.slice Ao50 t297.length co50, .int .i64 (Int.tmod (wrap64 (a0_8)) 65536)] rfl zqxa6_2 ?_; (with_reducible refine (weftref3_put2.calls (fun k_ => some k_ = (.slice Ao50 t297.length co50 : Value).ownBlock) (.slice Ao50 t297.length co50) t297 (Int.tmod (wrap64 (a0_8)) 65536) t300 w _ ?side1 ?side2 A30.out).mono ?_); (case side1 => repeat (first | (with_reducible first | exact HB.out | apply below_alloc | apply pw_below_drewN | apply below_drew1 | refine below_set ?_ GE266.out) | exact HB.out)); (case side2 => (with_reducible repeat (first | apply Kd.R_alloc | apply Kd.R_drewN | apply Kd.R_drew)); exact Kd.R_tight rfl HO299.out); rintro e w51 ⟨v301, rfl, ho0, hb, hkp⟩; refine ⟨_, rfl, ?_⟩; have n0_ := Aside0.mk (blk_kept zqxa6_0 hkp (fun hs_ => (fun e_ => (Kd.R_ne HO299.out BK266.out (by decide)) e_) hs_)); have n1_ := Aside0.mk (Kd.R_mono (ok' := fun k_ => some k_ ≠ (v301 : Value).ownBlock) (Kd.R_keptB (HO284.out) hkp (fun k_ hk_ hs_ => (hk_) hs_)) (fun k_ hk_ => fun e_ => Or.elim (ho0.1 k_ e_.symm) (fun hs_ => hk_.2.1 hs_) (fun hn_ => Nat.not_le.2 hk_.2.2 hn_))); have n2_ := Aside0.mk (Kd.R_mono (ok' := fun k_ => some k_ ≠ (.slice Ao37 y282.length co37 : Value).ownBlock) ho0 (fun k_ hk_ => Or.elim hk_ (fun hs_ => fun e_ => (((HO284.out).1 k_ e_.symm)) hs_) (fun hn_ => (Kd.fresh' (Kd.R_lt (by (with_reducible repeat (first | apply Kd.R_alloc | apply Kd.R_drewN | apply Kd.R_drew)); exact HO284.out)) k_ hn_)))); have n3_ := Aside0.mk (hb); clear BK266; clear HO284; clear HB; clear HO299; have BK266 := n0_; have HO284 := n1_; have HO302 := n2_; have HB := n3_; clear n0_ n1_ n2_ n3_; (try clear hb); (try clear hkp); (try clear ho0)))
              go_loopg [7, 9] kj20 (fun kq v7 v9 w' => ∃ (x7_3 : List Int) (x9_3 : Int), v9 = .int .i64 x9_3 ∧ Aside0 (weftref3_header.l0 kq x7_3 x9_3 a0_0 a0_1 a0_2 a0_3 a0_4 a0_5 a0_6 a0_7 a0_8 l0_9 = some r) ∧ Aside0 (kq ≤ kj20) ∧ Aside0 (Kd.R (Kd.int .u8) 5 w' w.heap.size (fun _ => True) v7 x7_3) ∧ Aside0 (w'.heap[gb266]? = some (.cells #[.int .u8 a0_0, .int .u16 a0_1, .bool a0_2, .bool a0_3, .int .i64 a0_4, .int .u8 a0_5, .int .u8 a0_6, .int .u32 a0_7, .int .u32 a0_8, (.slice A0_9 l0_9.length c0_9)] 31 (0, 0))) ∧ Aside0 (Below w.heap.size w w'))
              case atStart => exact ⟨(t300), (0), (by first | rfl | (simp; done) | (simp [*]; done)), H', ⟨Nat.le_refl _⟩, ⟨by (with_reducible repeat (first | apply Kd.R_alloc | apply Kd.R_drewN | apply Kd.R_drew)); exact Kd.R_mono HO302.out (fun _ hk => trivial)⟩, ⟨by first | (with_reducible exact BK266.out) | (with_reducible exact blk_drewN BK266.out _) | (with_reducible exact blk_drew BK266.out) | ((with_reducible repeat (first | refine blk_drewN ?_ _ | refine blk_drew ?_ | refine blk_alloc ?_ _)); exact BK266.out)⟩, ⟨by repeat (first | (with_reducible first | exact HB.out | apply below_alloc | apply pw_below_drewN | apply below_drew1 | refine below_set ?_ GE266.out) | exact HB.out)⟩⟩
              case round =>
                clear H'
                try clear c2
                try clear p2
                try clear c4
                try clear c5
                try clear p6
                try clear c20
                try clear c23
                try clear c25
                try clear c42
                try clear hcz16_0
                try clear hcz16_1
                try clear hcz16_2
                try clear hcz16_3
                try clear hcz16_4
                try clear hcz16_5
                try clear hcz16_6
                try clear hcz16_7
                try clear hcz16_8
                try clear hcz16_9
                try clear hcz19_0
                try clear hcz19_1
                try clear hcz19_2
                try clear hcz19_3
                try clear hcz19_4
                try clear hcz19_5
                try clear hcz19_6
                try clear hcz19_7
                try clear hcz19_8
                try clear hcz19_9
                try clear hcz22_0
                try clear hcz22_1
                try clear hcz22_2
                try clear hcz22_3
                try clear hcz22_4
                try clear hcz22_5
                try clear hcz22_6
                try clear hcz22_7
                try clear hcz22_8
                try clear hcz22_9
                try clear hcz33_0
                try clear hcz33_1
                try clear hcz33_2
                try clear hcz33_3
                try clear hcz33_4
                try clear hcz33_5
                try clear hcz33_6
                try clear hcz33_7
                try clear hcz33_8
                try clear hcz33_9
                try clear hcz40_0
                try clear hcz40_1
                try clear hcz40_2
                try clear hcz40_3
                try clear hcz40_4
                try clear hcz40_5
                try clear hcz40_6
                try clear hcz40_7
                try clear hcz40_8
                try clear hcz40_9
                try clear hcz43_0
                try clear hcz43_1
                try clear hcz43_2
                try clear hcz43_3
                try clear hcz43_4
                try clear hcz43_5
                try clear hcz43_6
                try clear hcz43_7
                try clear hcz43_8
                try clear hcz43_9
                try clear hcz46_0
                try clear hcz46_1
                try clear hcz46_2
                try clear hcz46_3
                try clear hcz46_4
                try clear hcz46_5
                try clear hcz46_6
                try clear hcz46_7
                try clear hcz46_8
                try clear hcz46_9
                try clear hcz49_0
                try clear hcz49_1
                try clear hcz49_2
                try clear hcz49_3
                try clear hcz49_4
                try clear hcz49_5
                try clear hcz49_6
                try clear hcz49_7
                try clear hcz49_8
                try clear hcz49_9
                try clear hcz9_0
                try clear hcz9_1
                try clear hcz9_2
                try clear hcz9_3
                try clear hcz9_4
                try clear hcz9_5
                try clear hcz9_6
                try clear hcz9_7
                try clear hcz9_8
                try clear hcz9_9
                try clear hfz16_0
                try clear hfz16_1
                try clear hfz16_2
                try clear hfz16_3
                try clear hfz16_4
                try clear hfz16_5
                try clear hfz16_6
                try clear hfz16_7
                try clear hfz16_8
                try clear hfz16_9
                try clear hfz19_0
                try clear hfz19_1
                try clear hfz19_2
                try clear hfz19_3
                try clear hfz19_4
                try clear hfz19_5
                try clear hfz19_6
                try clear hfz19_7
                try clear hfz19_8
                try clear hfz19_9
                try clear hfz22_0
                try clear hfz22_1
                try clear hfz22_2
                try clear hfz22_3
                try clear hfz22_4
                try clear hfz22_5
                try clear hfz22_6
                try clear hfz22_7
                try clear hfz22_8
                try clear hfz22_9
                try clear hfz33_0
                try clear hfz33_1
                try clear hfz33_2
                try clear hfz33_3
                try clear hfz33_4
                try clear hfz33_5
                try clear hfz33_6
                try clear hfz33_7
                try clear hfz33_8
                try clear hfz33_9
                try clear hfz40_0
                try clear hfz40_1
                try clear hfz40_2
                try clear hfz40_3
                try clear hfz40_4
                try clear hfz40_5
                try clear hfz40_6
                try clear hfz40_7
                try clear hfz40_8
                try clear hfz40_9
                try clear hfz43_0
                try clear hfz43_1
                try clear hfz43_2
                try clear hfz43_3
                try clear hfz43_4
                try clear hfz43_5
                try clear hfz43_6
                try clear hfz43_7
                try clear hfz43_8
                try clear hfz43_9
                try clear hfz46_0
                try clear hfz46_1
                try clear hfz46_2
                try clear hfz46_3
                try clear hfz46_4
                try clear hfz46_5
                try clear hfz46_6
                try clear hfz46_7
                try clear hfz46_8
                try clear hfz46_9
                try clear hfz49_0
                try clear hfz49_1
                try clear hfz49_2
                try clear hfz49_3
                try clear hfz49_4
                try clear hfz49_5
                try clear hfz49_6
                try clear hfz49_7
                try clear hfz49_8
                try clear hfz49_9
                try clear hfz9_0
                try clear hfz9_1
                try clear hfz9_2
                try clear hfz9_3
                try clear hfz9_4
                try clear hfz9_5
                try clear hfz9_6
                try clear hfz9_7
                try clear hfz9_8
                try clear hfz9_9
                try clear p2
                try clear p6
                obtain ⟨x7_3, x9_3, rfl, HA, HK3, HO_7, BK266, HB⟩ := hrel
                cases gk with
                | zero => exact absurd HA.out (by simp [weftref3_header.l0])
                | succ k3 =>
                  have H := HA.out
                  clear HA
                  simp only [weftref3_header.l0] at H
                  by_cases c52 : x9_3 < (l0_9.length : Int)
                  · rw [if_pos c52] at H
                    have c52b0 : decide (x9_3 < (l0_9.length : Int)) = true := decide_eq_true c52
                    clear c52
                    by_cases c53 : 0 ≤ x9_3
                    · rw [if_pos c53] at H
                      have c53b0 : decide (0 ≤ x9_3) = true := decide_eq_true c53
                      clear c53
                      by_cases c54 : x7_3.length < 140737488355328
                      · rw [if_pos c54] at H
                        have LMc54 := Aside0.mk c54
                        clear c54
                        obtain ⟨y304, hy304⟩ : ∃ y_ : List Int, y_ = (x7_3 ++ [rd l0_9 x9_3]) := ⟨_, rfl⟩
                        replace H : (weftref3_header.l0 k3 y304 (wrap64 (x9_3 + 1)) a0_0 a0_1 a0_2 a0_3 a0_4 a0_5 a0_6 a0_7 a0_8 l0_9) = some r := by first | (rw [hy304]; with_reducible exact H) | (have H2_ := (Option.bind_some _ _).symm.trans H; rw [hy304]; with_reducible exact H2_) | (have H2_ := (Option.bind_some _ _).symm.trans H; with_reducible exact H2_) | with_reducible exact H | (rw [hy304]; exact H) | exact H
                        have Ny304 := Aside0.mk hy304
                        clear hy304
                        have H' := Aside0.mk H
                        clear H
                        have hcz55_0 : wr.cell? ⟨gb266, 0, none⟩ = some (.int .u8 a0_0) := (blk_cell BK266.out 0).trans rfl
                        have hcz55_1 : wr.cell? ⟨gb266, 1, none⟩ = some (.int .u16 a0_1) := (blk_cell BK266.out 1).trans rfl
                        have hcz55_2 : wr.cell? ⟨gb266, 2, none⟩ = some (.bool a0_2) := (blk_cell BK266.out 2).trans rfl
                        have hcz55_3 : wr.cell? ⟨gb266, 3, none⟩ = some (.bool a0_3) := (blk_cell BK266.out 3).trans rfl
                        have hcz55_4 : wr.cell? ⟨gb266, 4, none⟩ = some (.int .i64 a0_4) := (blk_cell BK266.out 4).trans rfl
                        have hcz55_5 : wr.cell? ⟨gb266, 5, none⟩ = some (.int .u8 a0_5) := (blk_cell BK266.out 5).trans rfl
                        have hcz55_6 : wr.cell? ⟨gb266, 6, none⟩ = some (.int .u8 a0_6) := (blk_cell BK266.out 6).trans rfl
                        have hcz55_7 : wr.cell? ⟨gb266, 7, none⟩ = some (.int .u32 a0_7) := (blk_cell BK266.out 7).trans rfl
                        have hcz55_8 : wr.cell? ⟨gb266, 8, none⟩ = some (.int .u32 a0_8) := (blk_cell BK266.out 8).trans rfl
                        have hcz55_9 : wr.cell? ⟨gb266, 9, none⟩ = some (.slice A0_9 l0_9.length c0_9) := (blk_cell BK266.out 9).trans rfl
                        have hfz55_0 := blk_frozen BK266.out 0
                        have hfz55_1 := blk_frozen BK266.out 1
                        have hfz55_2 := blk_frozen BK266.out 2
                        have hfz55_3 := blk_frozen BK266.out 3
                        have hfz55_4 := blk_frozen BK266.out 4
                        have hfz55_5 := blk_frozen BK266.out 5
                        have hfz55_6 := blk_frozen BK266.out 6
                        have hfz55_7 := blk_frozen BK266.out 7
                        have hfz55_8 := blk_frozen BK266.out 8
                        have hfz55_9 := blk_frozen BK266.out 9
                        have p303 : 0 ≤ (x9_3 : Int) := of_decide_eq_true (by first | (with_reducible assumption) | assumption)
                        have q303 : x9_3 < (l0_9.length : Int) := of_decide_eq_true (by first | (with_reducible assumption) | assumption)
                        obtain ⟨ad303, e303, hx303_0⟩ := Kd.at_int HR0_9.out x9_3 p303 q303
                        cases e303
                        replace hx303_0 := (HB.out.cell (World.block_lt_of_cell? w _ hx303_0)).trans hx303_0
                        replace p303 := eq_true p303
                        replace q303 := eq_true q303
                        go_wp2_with (first | ((with_reducible refine gate_builtin (b := .append) (xs := #[.tmp 85, .tmp 91]) rfl ?_); at_builtin; refine Kd.R_append (Kd.int .u8) (w0 := w) w.heap.size rfl (.tmp 85) (.tmp 91) 23 5 (.int .u8 0) 1 rfl Try.underlying23 info5 rfl (by decide) (by omega) u7 x7_3 (rd l0_9 x9_3) [.int .u8 (rd l0_9 x9_3)] (fun _ => True) (fun _ => False) rfl rfl ?aP (fun _ hk => hk.elim) ?aF ?aO ?aB ?aS ?aL ?_; (case aP => exact rfl); (case aB => exact zqxa6_1); (case aF => exact (fun _ _ => trivial)); (case aO => exact (by (with_reducible repeat (first | apply Kd.R_alloc | apply Kd.R_drewN | apply Kd.R_drew)); exact HO_7.out)); (case aS => exact (below_size zqxa6_1)); (case aL => have := LMc54.out; omega); intro v305 w56 ho hb hg hat; rw [← Ny304.out] at ho; have n0_ := Aside0.mk (blk_grown (g := gb266) (o := .cells #[.int .u8 a0_0, .int .u16 a0_1, .bool a0_2, .bool a0_3, .int .i64 a0_4, .int .u8 a0_5, .int .u8 a0_6, .int .u32 a0_7, .int .u32 a0_8, .slice (some ad303) l0_9.length c0_9] 31 (0, 0)) zqxa6_0 hg (Kd.R_ne HO_7.out BK266.out (by decide))); have n1_ := Aside0.mk (hb); have n2_ := Aside0.mk (ho); clear BK266; clear HB; clear HO_7; have BK266 := n0_; have HB := n1_; have HO306 := n2_; clear n0_ n1_ n2_; clear ho hb hg hat))
                        go_roundg k3
                        case measure => have := HJ6.out; have := HJ20.out; have := HK3.out; omega
                        case rel => exact ⟨(y304), (wrap64 (x9_3 + 1)), (by first | rfl | (simp; done) | (simp [*]; done)), H', ⟨by have := HJ6.out; have := HJ20.out; have := HK3.out; omega⟩, ⟨by (with_reducible repeat (first | apply Kd.R_alloc | apply Kd.R_drewN | apply Kd.R_drew)); exact HO306.out⟩, ⟨by first | (with_reducible exact BK266.out) | (with_reducible exact blk_drewN BK266.out _) | (with_reducible exact blk_drew BK266.out) | ((with_reducible repeat (first | refine blk_drewN ?_ _ | refine blk_drew ?_ | refine blk_alloc ?_ _)); exact BK266.out)⟩, ⟨by repeat (first | (with_reducible first | exact HB.out | apply below_alloc | apply pw_below_drewN | apply below_drew1 | refine below_set ?_ GE266.out) | exact HB.out)⟩⟩
                      · rw [if_neg c54] at H
                        exact absurd H (by simp)
                    · rw [if_neg c53] at H
                      exact absurd H (by simp)
                  · rw [if_neg c52] at H
                    have c52b0 : decide (x9_3 < (l0_9.length : Int)) = false := decide_eq_false c52
                    clear c52
                    obtain rfl := Option.some.inj H
                    have hcz57_0 : wr.cell? ⟨gb266, 0, none⟩ = some (.int .u8 a0_0) := (blk_cell BK266.out 0).trans rfl
                    have hcz57_1 : wr.cell? ⟨gb266, 1, none⟩ = some (.int .u16 a0_1) := (blk_cell BK266.out 1).trans rfl
                    have hcz57_2 : wr.cell? ⟨gb266, 2, none⟩ = some (.bool a0_2) := (blk_cell BK266.out 2).trans rfl
                    have hcz57_3 : wr.cell? ⟨gb266, 3, none⟩ = some (.bool a0_3) := (blk_cell BK266.out 3).trans rfl
                    have hcz57_4 : wr.cell? ⟨gb266, 4, none⟩ = some (.int .i64 a0_4) := (blk_cell BK266.out 4).trans rfl
                    have hcz57_5 : wr.cell? ⟨gb266, 5, none⟩ = some (.int .u8 a0_5) := (blk_cell BK266.out 5).trans rfl
                    have hcz57_6 : wr.cell? ⟨gb266, 6, none⟩ = some (.int .u8 a0_6) := (blk_cell BK266.out 6).trans rfl
                    have hcz57_7 : wr.cell? ⟨gb266, 7, none⟩ = some (.int .u32 a0_7) := (blk_cell BK266.out 7).trans rfl
                    have hcz57_8 : wr.cell? ⟨gb266, 8, none⟩ = some (.int .u32 a0_8) := (blk_cell BK266.out 8).trans rfl
                    have hcz57_9 : wr.cell? ⟨gb266, 9, none⟩ = some (.slice A0_9 l0_9.length c0_9) := (blk_cell BK266.out 9).trans rfl
                    have hfz57_0 := blk_frozen BK266.out 0
                    have hfz57_1 := blk_frozen BK266.out 1
                    have hfz57_2 := blk_frozen BK266.out 2
                    have hfz57_3 := blk_frozen BK266.out 3
                    have hfz57_4 := blk_frozen BK266.out 4
                    have hfz57_5 := blk_frozen BK266.out 5
                    have hfz57_6 := blk_frozen BK266.out 6
                    have hfz57_7 := blk_frozen BK266.out 7
                    have hfz57_8 := blk_frozen BK266.out 8
                    have hfz57_9 := blk_frozen BK266.out 9
                    go_wp2
                    go_ret
                    exact ⟨_, by first | rfl | (simp [errW_none, errW_some] <;> rfl) | (simp [*, errW_none, errW_some] <;> rfl), by (with_reducible repeat (first | apply Kd.R_alloc | apply Kd.R_drewN | apply Kd.R_drew)); exact HO_7.out, by repeat (first | (with_reducible first | exact HB.out | apply below_alloc | apply pw_below_drewN | apply below_drew1 | refine below_set ?_ GE266.out) | exact HB.out)⟩
            · rw [if_neg c25] at H
              exact absurd H (by simp)
  · rw [if_neg c4] at H
    exact absurd H (by simp)

/-! ### weftref3_total: function 58 -/
def weftref3_total.l0 : Nat → List Int → Int → Int → Option (Int)
  | 0, _, _, _ => none
  | k + 1, x0, x3, x4 => if x4 < (x0.length : Int) then (if (Int.tmod x4 2) = 0 then (if 0 ≤ x4 then (weftref3_total.l0 k x0 (wrap64 (x3 + (wrap64 (256 * (wrap64 (rd x0 x4)))))) (wrap64 (x4 + 1))) else (none)) else (if 0 ≤ x4 then (weftref3_total.l0 k x0 (wrap64 (x3 + (wrap64 (rd x0 x4)))) (wrap64 (x4 + 1))) else (none))) else (some x3)
def weftref3_total.f (k : Nat) (l0 : List Int) : Option (Int) := weftref3_total.l0 k l0 0 0
theorem weftref3_total.mono_l : ∀ k, (∀ y0 y1 y2, LeO (weftref3_total.l0 k y0 y1 y2) (weftref3_total.l0 (k + 1) y0 y1 y2))
  | 0 => fun _ _ _ r h => by simp [weftref3_total.l0] at h
  | k + 1 => by
    have ih0 := weftref3_total.mono_l k
    · intro y0 y1 y2
      unfold weftref3_total.l0
      repeat' first
      | (with_reducible exact ih0 _ _ _)
      | (with_reducible exact LeO.refl _)
      | (with_reducible exact LeO.none _)
      | (with_reducible refine LeO.ite ?_ ?_)
      | (with_reducible refine LeO.bind ?_ (fun _ => ?_))
      | exact ih0 _ _ _
      | exact LeO.none _
      | refine LeO.ite ?_ ?_
      | refine LeO.bind ?_ (fun _ => ?_)
theorem weftref3_total.mono : ∀ a0 k, LeO (weftref3_total.f k a0) (weftref3_total.f (k + 1) a0) := by
  intro a0 k
  have ih0 := weftref3_total.mono_l k
  unfold weftref3_total.f
  repeat' first
      | (with_reducible exact ih0 _ _ _)
      | (with_reducible exact LeO.refl _)
      | (with_reducible exact LeO.none _)
      | (with_reducible refine LeO.ite ?_ ?_)
      | (with_reducible refine LeO.bind ?_ (fun _ => ?_))
      | exact ih0 _ _ _
      | exact LeO.none _
      | refine LeO.ite ?_ ?_
      | refine LeO.bind ?_ (fun _ => ?_)
set_option maxHeartbeats 8000000 in
set_option maxRecDepth 100000 in
theorem weftref3_total.calls (k : Nat) (A0 : Option Addr) (c0 : Nat) (l0 : List Int) (r : Int) (w : World) (hr0 : Kd.C (Kd.int .u8) w A0 l0.length l0) (hc0 : l0.length ≤ c0) (h : weftref3_total.f k l0 = some r) :
    Calls Try.prog 58 #[.slice A0 l0.length c0] w fun e w' => e = .returned (.int .i64 r) ∧ Drawn0 w w' := by
  have HR0 := Aside0.mk hr0
  have HC0 := Aside0.mk hc0
  clear hr0 hc0
  have H : (weftref3_total.l0 k l0 0 0) = some r := h
  clear h
  have H' := Aside0.mk H
  clear H
  go_enter Try.func58, Try.ntmps58
  go_wp2
  go_loopg [3, 4] k (fun kq v3 v4 w' => ∃ (x3_1 : Int) (x4_1 : Int), v3 = .int .i64 x3_1 ∧ v4 = .int .i64 x4_1 ∧ Aside0 (weftref3_total.l0 kq l0 x3_1 x4_1 = some r) ∧ Aside0 (kq ≤ k) ∧ Drawn0 w w')
  case atStart => exact ⟨(0), (0), (by first | rfl | (simp; done) | (simp [*]; done)), (by first | rfl | (simp; done) | (simp [*]; done)), H', ⟨Nat.le_refl _⟩, by repeat (first | exact Drawn0.refl _ | apply Drawn0.step)⟩
  case round =>
    clear H'
    obtain ⟨x3_1, x4_1, rfl, rfl, HA, HK1, ⟨m1, rfl⟩⟩ := hrel
    cases gk with
    | zero => exact absurd HA.out (by simp [weftref3_total.l0])
    | succ k1 =>
      have H := HA.out
      clear HA
      simp only [weftref3_total.l0] at H
      by_cases c2 : x4_1 < (l0.length : Int)
      · rw [if_pos c2] at H
        have c2b0 : decide (x4_1 < (l0.length : Int)) = true := decide_eq_true c2
        clear c2
        by_cases c3 : (Int.tmod x4_1 2) = 0
        · rw [if_pos c3] at H
          have c3b0 : ((Int.tmod x4_1 2) == 0) = true := beq_iff_eq.mpr c3
          have c3b1 : ((Int.tmod x4_1 2) != 0) = false := bne_eq_false_iff_eq.mpr c3
          clear c3
          by_cases c4 : 0 ≤ x4_1
          · rw [if_pos c4] at H
            have c4b0 : decide (0 ≤ x4_1) = true := decide_eq_true c4
            clear c4
            have H' := Aside0.mk H
            clear H
            have p307 : 0 ≤ (x4_1 : Int) := of_decide_eq_true (by first | (with_reducible assumption) | assumption)
            have q307 : x4_1 < (l0.length : Int) := of_decide_eq_true (by first | (with_reducible assumption) | assumption)
            obtain ⟨ad307, e307, hx307_0⟩ := Kd.at_int HR0.out x4_1 p307 q307
            cases e307
            replace p307 := eq_true p307
            replace q307 := eq_true q307
            go_wp2
            go_roundg k1
            case measure => have := HK1.out; omega
            case rel => exact ⟨(wrap64 (x3_1 + (wrap64 (256 * (wrap64 (rd l0 x4_1)))))), (wrap64 (x4_1 + 1)), (by first | rfl | (simp; done) | (simp [*]; done)), (by first | rfl | (simp; done) | (simp [*]; done)), H', ⟨by have := HK1.out; omega⟩, by repeat (first | exact Drawn0.refl _ | apply Drawn0.step)⟩
          · rw [if_neg c4] at H
            exact absurd H (by simp)
        · rw [if_neg c3] at H
          have c3b0 : ((Int.tmod x4_1 2) == 0) = false := beq_eq_false_iff_ne.mpr c3
          have c3b1 : ((Int.tmod x4_1 2) != 0) = true := bne_iff_ne.mpr c3
          by_cases c5 : 0 ≤ x4_1
          · rw [if_pos c5] at H
            have c5b0 : decide (0 ≤ x4_1) = true := decide_eq_true c5
            clear c5
            have H' := Aside0.mk H
            clear H
            have p308 : 0 ≤ (x4_1 : Int) := of_decide_eq_true (by first | (with_reducible assumption) | assumption)
            have q308 : x4_1 < (l0.length : Int) := of_decide_eq_true (by first | (with_reducible assumption) | assumption)
            obtain ⟨ad308, e308, hx308_0⟩ := Kd.at_int HR0.out x4_1 p308 q308
            cases e308
            replace p308 := eq_true p308
            replace q308 := eq_true q308
            go_wp2
            go_roundg k1
            case measure => have := HK1.out; omega
            case rel => exact ⟨(wrap64 (x3_1 + (wrap64 (rd l0 x4_1)))), (wrap64 (x4_1 + 1)), (by first | rfl | (simp; done) | (simp [*]; done)), (by first | rfl | (simp; done) | (simp [*]; done)), H', ⟨by have := HK1.out; omega⟩, by repeat (first | exact Drawn0.refl _ | apply Drawn0.step)⟩
          · rw [if_neg c5] at H
            exact absurd H (by simp)
      · rw [if_neg c2] at H
        have c2b0 : decide (x4_1 < (l0.length : Int)) = false := decide_eq_false c2
        clear c2
        obtain rfl := Option.some.inj H
        go_wp2
        go_ret
        exact ⟨by first | rfl | (simp; done) | (simp [*]; done), by repeat (first | exact Drawn0.refl _ | apply Drawn0.step)⟩

/-! ### weftref3_fold: function 59 -/
def weftref3_fold.f (a0 : Int) : Option (Int) := if a0 = 0 then (some 0) else (some (wrap64 (1 + (Int.tmod (wrap64 (a0 - 1)) 65535))))
set_option maxHeartbeats 8000000 in
set_option maxRecDepth 100000 in
theorem weftref3_fold.calls (a0 : Int) (r : Int) (w : World) (h : weftref3_fold.f a0 = some r) :
    Calls Try.prog 59 #[.int .i64 a0] w fun e w' => e = .returned (.int .i64 r) ∧ Drawn0 w w' := by
  have H : (if a0 = 0 then (some 0) else (some (wrap64 (1 + (Int.tmod (wrap64 (a0 - 1)) 65535))))) = some r := h
  clear h
  by_cases c2 : a0 = 0
  · rw [if_pos c2] at H
    have c2b0 : (a0 == 0) = true := beq_iff_eq.mpr c2
    have c2b1 : (a0 != 0) = false := bne_eq_false_iff_eq.mpr c2
    clear c2
    obtain rfl := Option.some.inj H
    go_enter Try.func59, Try.ntmps59
    go_wp2
    go_ret
    exact ⟨by first | rfl | (simp; done) | (simp [*]; done), by repeat (first | exact Drawn0.refl _ | apply Drawn0.step)⟩
  · rw [if_neg c2] at H
    have c2b0 : (a0 == 0) = false := beq_eq_false_iff_ne.mpr c2
    have c2b1 : (a0 != 0) = true := bne_iff_ne.mpr c2
    obtain rfl := Option.some.inj H
    go_enter Try.func59, Try.ntmps59
    go_wp2
    go_ret
    exact ⟨by first | rfl | (simp; done) | (simp [*]; done), by repeat (first | exact Drawn0.refl _ | apply Drawn0.step)⟩

end Go.Proofs.Ytmjhfkjnnpnoaaa.XA
