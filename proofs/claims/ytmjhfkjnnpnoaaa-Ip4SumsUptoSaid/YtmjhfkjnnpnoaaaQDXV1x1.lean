-- printed by a program of this session (wip/xprint), out of the translation; Lean checks it
import Derived.Test.YtmjhfkjnnpnoaaaQDXAx0
import Derived.Test.YtmjhfkjnnpnoaaaQDXAx1
import Derived.Test.YtmjhfkjnnpnoaaaQDXAx7
namespace Go.Proofs.Ytmjhfkjnnpnoaaa.XV1
open Go.RowKit Go.Proofs.Ytmjhfkjnnpnoaaa.XA Go.Proofs.YtmjhfkjnnpnoaaaW.PrintWords Go.Proofs.YtmjhfkjnnpnoaaaW.PrintLast Go.Proofs.YtmjhfkjnnpnoaaaW.PrintMore Go.Proofs.YtmjhfkjnnpnoaaaX
attribute [local go_sem] max2_int min2_int max_two min_two max_three min_three max_four min_four   -- for this text's walks alone
set_option linter.unusedVariables false
set_option linter.unusedSimpArgs false

/-! ### weftlaw3_numbers: function 28 -/
def weftlaw3_numbers.f (k : Nat) (a0_0 : Int) (l0_1 : List Int) (l0_2 : List (List Int)) (a0_3 : Int) (a0_4 : Int) (a0_5 : Int) (a0_6 : Int) (a0_7 : Int) (a0_8 : Bool) (a0_9 : Bool) (a0_10 : Int) (a0_11 : Int) (a0_12 : Int) (a0_13 : Int) (a0_14 : Int) (l0_15 : List Int) (l0_16 : List Int) : Option (Bool) := if a0_0 = 1 then ((ip4_Sum.f k l0_2).bind fun t195 => ((weftlaw3_join.f k l0_2).bind fun t196 => ((weftref3_Sum.f k (([t196] : List (List Int)))).bind fun t203 => (some (t195 == t203))))) else (none)
theorem weftlaw3_numbers.mono : ∀ a0 a1 a2 a3 a4 a5 a6 a7 a8 a9 a10 a11 a12 a13 a14 a15 a16 k, LeO (weftlaw3_numbers.f k a0 a1 a2 a3 a4 a5 a6 a7 a8 a9 a10 a11 a12 a13 a14 a15 a16) (weftlaw3_numbers.f (k + 1) a0 a1 a2 a3 a4 a5 a6 a7 a8 a9 a10 a11 a12 a13 a14 a15 a16) := by
  intro a0 a1 a2 a3 a4 a5 a6 a7 a8 a9 a10 a11 a12 a13 a14 a15 a16 k
  unfold weftlaw3_numbers.f
  repeat' first
      | (with_reducible exact ip4_Sum.mono _ _)
      | (with_reducible exact weftlaw3_join.mono _ _)
      | (with_reducible exact weftref3_Sum.mono _ _)
      | (with_reducible exact LeO.refl _)
      | (with_reducible exact LeO.none _)
      | (with_reducible refine LeO.ite ?_ ?_)
      | (with_reducible refine LeO.bind ?_ (fun _ => ?_))
      | exact ip4_Sum.mono _ _
      | exact weftlaw3_join.mono _ _
      | exact weftref3_Sum.mono _ _
      | exact LeO.none _
      | refine LeO.ite ?_ ?_
      | refine LeO.bind ?_ (fun _ => ?_)
set_option maxHeartbeats 8000000 in
set_option maxRecDepth 100000 in
theorem weftlaw3_numbers.calls (k : Nat) (a0_0 : Int) (A0_1 : Option Addr) (c0_1 : Nat) (l0_1 : List Int) (A0_2 : Option Addr) (c0_2 : Nat) (l0_2 : List (List Int)) (a0_3 : Int) (a0_4 : Int) (a0_5 : Int) (a0_6 : Int) (a0_7 : Int) (a0_8 : Bool) (a0_9 : Bool) (a0_10 : Int) (a0_11 : Int) (a0_12 : Int) (a0_13 : Int) (a0_14 : Int) (A0_15 : Option Addr) (c0_15 : Nat) (l0_15 : List Int) (A0_16 : Option Addr) (c0_16 : Nat) (l0_16 : List Int) (r : Bool) (w : World) (hr0_1 : Kd.C (Kd.int .u8) w A0_1 l0_1.length l0_1) (hc0_1 : l0_1.length ≤ c0_1) (hr0_2 : Kd.C (Kd.slice 5 (Kd.int .u8)) w A0_2 l0_2.length l0_2) (hc0_2 : l0_2.length ≤ c0_2) (hr0_15 : Kd.C (Kd.int .u8) w A0_15 l0_15.length l0_15) (hc0_15 : l0_15.length ≤ c0_15) (hr0_16 : Kd.C (Kd.int .u8) w A0_16 l0_16.length l0_16) (hc0_16 : l0_16.length ≤ c0_16) (h : weftlaw3_numbers.f k a0_0 l0_1 l0_2 a0_3 a0_4 a0_5 a0_6 a0_7 a0_8 a0_9 a0_10 a0_11 a0_12 a0_13 a0_14 l0_15 l0_16 = some r) :
    Calls Try.prog 28 #[.agg #[.int .i64 a0_0, .slice A0_1 l0_1.length c0_1, .slice A0_2 l0_2.length c0_2, .int .u16 a0_3, .int .u16 a0_4, .int .u16 a0_5, .int .u8 a0_6, .int .u16 a0_7, .bool a0_8, .bool a0_9, .int .i64 a0_10, .int .u8 a0_11, .int .u8 a0_12, .int .u32 a0_13, .int .u32 a0_14, .slice A0_15 l0_15.length c0_15, .slice A0_16 l0_16.length c0_16]] w fun e w' => e = .returned (.bool r) ∧ Below w.heap.size w w' := by
  have hu50 := Try.underlying50
  have HR0_1 := Aside0.mk hr0_1
  have HC0_1 := Aside0.mk hc0_1
  clear hr0_1 hc0_1
  have HR0_2 := Aside0.mk hr0_2
  have HC0_2 := Aside0.mk hc0_2
  clear hr0_2 hc0_2
  have HR0_15 := Aside0.mk hr0_15
  have HC0_15 := Aside0.mk hc0_15
  clear hr0_15 hc0_15
  have HR0_16 := Aside0.mk hr0_16
  have HC0_16 := Aside0.mk hc0_16
  clear hr0_16 hc0_16
  have HB := Aside0.mk (Below.refl w.heap.size w)
  have H : (if a0_0 = 1 then ((ip4_Sum.f k l0_2).bind fun t195 => ((weftlaw3_join.f k l0_2).bind fun t196 => ((weftref3_Sum.f k (([t196] : List (List Int)))).bind fun t203 => (some (t195 == t203))))) else (none)) = some r := h
  clear h
  by_cases c2 : a0_0 = 1
  · rw [if_pos c2] at H
    have c2b0 : (a0_0 == 1) = true := beq_iff_eq.mpr c2
    have c2b1 : (a0_0 != 1) = false := bne_eq_false_iff_eq.mpr c2
    clear c2
    replace H := Option.bind_eq_some_iff.mp H
    obtain ⟨t195, A30, H⟩ := H
    replace H : ((weftlaw3_join.f k l0_2).bind fun t196 => ((weftref3_Sum.f k (([t196] : List (List Int)))).bind fun t203 => (some (t195 == t203)))) = some r := H
    have A3 := Aside0.mk A30
    clear A30
    replace H := Option.bind_eq_some_iff.mp H
    obtain ⟨t196, A40, H⟩ := H
    replace H : ((weftref3_Sum.f k (([t196] : List (List Int)))).bind fun t203 => (some (t195 == t203))) = some r := H
    have A4 := Aside0.mk A40
    clear A40
    obtain ⟨y199, hy199⟩ : ∃ y_ : List (List Int), y_ = (([t196] : List (List Int))) := ⟨_, rfl⟩
    replace H : ((weftref3_Sum.f k y199).bind fun t203 => (some (t195 == t203))) = some r := by first | (rw [hy199]; with_reducible exact H) | (have H2_ := (Option.bind_some _ _).symm.trans H; rw [hy199]; with_reducible exact H2_) | (have H2_ := (Option.bind_some _ _).symm.trans H; with_reducible exact H2_) | with_reducible exact H | (rw [hy199]; exact H) | exact H
    have Ny199 := Aside0.mk hy199
    clear hy199
    replace H := Option.bind_eq_some_iff.mp H
    obtain ⟨t203, A50, H⟩ := H
    replace H : (some (t195 == t203)) = some r := H
    have A5 := Aside0.mk A50
    clear A50
    obtain rfl := Option.some.inj H
    go_enter Try.func28, Try.ntmps28
    go_wp2_with (first | ((with_reducible refine gate_dst (N := 1) rfl ?_); refine box_event ?hg (N := 1) ?hd (cs := #[.int .i64 a0_0, .slice A0_1 l0_1.length c0_1, .slice A0_2 l0_2.length c0_2, .int .u16 a0_3, .int .u16 a0_4, .int .u16 a0_5, .int .u8 a0_6, .int .u16 a0_7, .bool a0_8, .bool a0_9, .int .i64 a0_10, .int .u8 a0_11, .int .u8 a0_12, .int .u32 a0_13, .int .u32 a0_14, .slice A0_15 l0_15.length c0_15, .slice A0_16 l0_16.length c0_16]) (t := 50) ?hr ?_; (case hd => rfl); (case hg => rfl); (case hr => first | (go_simp; done) | (go_simp; rfl)); intro gb194 hg w6 hbox hb; have n0_ := Aside0.mk (below_step (by repeat (first | (with_reducible first | exact HB.out | apply below_alloc | apply pw_below_drewN | apply below_drew1) | exact HB.out)) hb); have n1_ := Aside0.mk (hbox); have n2_ := Aside0.mk ((by rw [hg]; exact (below_size (by repeat (first | (with_reducible first | exact HB.out | apply below_alloc | apply pw_below_drewN | apply below_drew1) | exact HB.out))) : w.heap.size ≤ gb194)); have n3_ := Aside0.mk ((by rw [hg]; exact (below_size (by repeat (first | (with_reducible first | exact HB.out | apply below_alloc | apply pw_below_drewN | apply below_drew1) | exact HB.out))) : w.heap.size ≤ gb194)); clear HB; have HB := n0_; have BK194 := n1_; have GW194 := n2_; have GE194 := n3_; clear n0_ n1_ n2_ n3_; clear hb hbox hg; have hcz7_0 : w6.cell? ⟨gb194, 0, none⟩ = some (.int .i64 a0_0) := (blk_cell BK194.out 0).trans rfl; have hcz7_1 : w6.cell? ⟨gb194, 1, none⟩ = some (.slice A0_1 l0_1.length c0_1) := (blk_cell BK194.out 1).trans rfl; have hcz7_2 : w6.cell? ⟨gb194, 2, none⟩ = some (.slice A0_2 l0_2.length c0_2) := (blk_cell BK194.out 2).trans rfl; have hcz7_3 : w6.cell? ⟨gb194, 3, none⟩ = some (.int .u16 a0_3) := (blk_cell BK194.out 3).trans rfl; have hcz7_4 : w6.cell? ⟨gb194, 4, none⟩ = some (.int .u16 a0_4) := (blk_cell BK194.out 4).trans rfl; have hcz7_5 : w6.cell? ⟨gb194, 5, none⟩ = some (.int .u16 a0_5) := (blk_cell BK194.out 5).trans rfl; have hcz7_6 : w6.cell? ⟨gb194, 6, none⟩ = some (.int .u8 a0_6) := (blk_cell BK194.out 6).trans rfl; have hcz7_7 : w6.cell? ⟨gb194, 7, none⟩ = some (.int .u16 a0_7) := (blk_cell BK194.out 7).trans rfl; have hcz7_8 : w6.cell? ⟨gb194, 8, none⟩ = some (.bool a0_8) := (blk_cell BK194.out 8).trans rfl; have hcz7_9 : w6.cell? ⟨gb194, 9, none⟩ = some (.bool a0_9) := (blk_cell BK194.out 9).trans rfl; have hcz7_10 : w6.cell? ⟨gb194, 10, none⟩ = some (.int .i64 a0_10) := (blk_cell BK194.out 10).trans rfl; have hcz7_11 : w6.cell? ⟨gb194, 11, none⟩ = some (.int .u8 a0_11) := (blk_cell BK194.out 11).trans rfl; have hcz7_12 : w6.cell? ⟨gb194, 12, none⟩ = some (.int .u8 a0_12) := (blk_cell BK194.out 12).trans rfl; have hcz7_13 : w6.cell? ⟨gb194, 13, none⟩ = some (.int .u32 a0_13) := (blk_cell BK194.out 13).trans rfl; have hcz7_14 : w6.cell? ⟨gb194, 14, none⟩ = some (.int .u32 a0_14) := (blk_cell BK194.out 14).trans rfl; have hcz7_15 : w6.cell? ⟨gb194, 15, none⟩ = some (.slice A0_15 l0_15.length c0_15) := (blk_cell BK194.out 15).trans rfl; have hcz7_16 : w6.cell? ⟨gb194, 16, none⟩ = some (.slice A0_16 l0_16.length c0_16) := (blk_cell BK194.out 16).trans rfl; have hfz7_0 := blk_frozen BK194.out 0; have hfz7_1 := blk_frozen BK194.out 1; have hfz7_2 := blk_frozen BK194.out 2; have hfz7_3 := blk_frozen BK194.out 3; have hfz7_4 := blk_frozen BK194.out 4; have hfz7_5 := blk_frozen BK194.out 5; have hfz7_6 := blk_frozen BK194.out 6; have hfz7_7 := blk_frozen BK194.out 7; have hfz7_8 := blk_frozen BK194.out 8; have hfz7_9 := blk_frozen BK194.out 9; have hfz7_10 := blk_frozen BK194.out 10; have hfz7_11 := blk_frozen BK194.out 11; have hfz7_12 := blk_frozen BK194.out 12; have hfz7_13 := blk_frozen BK194.out 13; have hfz7_14 := blk_frozen BK194.out 14; have hfz7_15 := blk_frozen BK194.out 15; have hfz7_16 := blk_frozen BK194.out 16) | ((with_reducible refine gate_callee (f := 20) rfl ?_); refine goesL_ (some 10) rfl rfl Try.func20 (by kernel_rfl) rfl #[.slice A0_2 l0_2.length c0_2] rfl (by (try simp only [List.map_toArray, List.map_cons, List.map_nil]); first | done | rfl | (simp only [List.length_drop, List.length_take]; rfl)) ?_; (with_reducible refine (ip4_Sum.calls k _ _ l0_2 t195 _ ?side1 ?side2 A3.out).mono ?_); (case side1 => repeat (first | exact (Kd.C_below HR0_2.out HB.out) | (with_reducible refine Kd.C_alloc ?_ _) | (with_reducible refine Kd.C_drewN ?_ _) | (with_reducible refine Kd.C_drew ?_))); (case side2 => exact HC0_2.out); rintro e w' ⟨rfl, ⟨nd, rfl⟩⟩; refine ⟨_, rfl, ?_⟩) | ((with_reducible refine gate_callee (f := 44) rfl ?_); refine goesL_ (some 14) rfl rfl Try.func44 (by kernel_rfl) rfl #[.slice A0_2 l0_2.length c0_2] rfl (by (try simp only [List.map_toArray, List.map_cons, List.map_nil]); first | done | rfl | (simp only [List.length_drop, List.length_take]; rfl)) ?_; (with_reducible refine (weftlaw3_join.calls k _ _ l0_2 t196 _ ?side1 ?side2 A4.out).mono ?_); (case side1 => repeat (first | exact (Kd.C_below HR0_2.out (by repeat (first | (with_reducible first | exact HB.out | apply below_alloc | apply pw_below_drewN | apply below_drew1 | refine below_set ?_ GE194.out) | exact HB.out))) | (with_reducible refine Kd.C_alloc ?_ _) | (with_reducible refine Kd.C_drewN ?_ _) | (with_reducible refine Kd.C_drew ?_))); (case side2 => exact HC0_2.out); rintro e w8 ⟨v197, rfl, ho0, hb⟩; refine ⟨_, rfl, ?_⟩; have n0_ := Aside0.mk (Kd.R_lower ho0 (below_size (by repeat (first | (with_reducible first | exact HB.out | apply below_alloc | apply pw_below_drewN | apply below_drew1 | refine below_set ?_ GE194.out) | exact HB.out)))); have n1_ := Aside0.mk (blk_below (g := gb194) (o := .cells #[.int .i64 a0_0, .slice A0_1 l0_1.length c0_1, .slice A0_2 l0_2.length c0_2, .int .u16 a0_3, .int .u16 a0_4, .int .u16 a0_5, .int .u8 a0_6, .int .u16 a0_7, .bool a0_8, .bool a0_9, .int .i64 a0_10, .int .u8 a0_11, .int .u8 a0_12, .int .u32 a0_13, .int .u32 a0_14, .slice A0_15 l0_15.length c0_15, .slice A0_16 l0_16.length c0_16] 50 (0, 0)) (by first | (with_reducible exact BK194.out) | (with_reducible exact blk_drewN BK194.out _) | (with_reducible exact blk_drew BK194.out) | ((with_reducible repeat (first | refine blk_drewN ?_ _ | refine blk_drew ?_ | refine blk_alloc ?_ _)); exact BK194.out)) hb); have n2_ := Aside0.mk (below_step (by repeat (first | (with_reducible first | exact HB.out | apply below_alloc | apply pw_below_drewN | apply below_drew1 | refine below_set ?_ GE194.out) | exact HB.out)) hb); clear BK194; clear HB; have HO198 := n0_; have BK194 := n1_; have HB := n2_; clear n0_ n1_ n2_; (try clear hb); (try clear hb2); (try clear hk); (try clear hi); (try clear ho0); obtain ⟨Ao9, co9, eo9⟩ := Kd.R_slice HO198.out; subst eo9) | ((with_reducible refine gate_dst (N := 15) rfl ?_); refine lits_event (Kd.slice 5 (Kd.int .u8)) 23 ?hg (N := 15) ?hd (xs := ([t196] : List (List Int))) (inner := [.slice Ao9 t196.length co9]) ?hr ?hp (by simp) ?_; (case hd => rfl); (case hg => rfl); (case hr => first | (go_simp; done) | (go_simp; rfl)); (case hp => exact (Reps.one (show Kd.K (Kd.slice 5 (Kd.int .u8)) _ t196 [.slice Ao9 t196.length co9] from by refine ⟨_, _, rfl, ?_, ?_⟩; (· exact (Kd.R_reads' HO198.out).2.1); (· repeat (first | exact (Kd.R_reads' HO198.out).2.2 | (with_reducible refine Kd.C_alloc ?_ _) | (with_reducible refine Kd.C_drewN ?_ _) | (with_reducible refine Kd.C_drew ?_)))) (Reps.none _ _))); intro v11_ w10 hL_ hb; (first | rw [← Ny199.out] at hL_ | (simp only [Int.reduceToNat] at hL_; rw [← Ny199.out] at hL_)); obtain ⟨A11, c11, rfl, hlr_, hlc_⟩ := hL_; have n0_ := Aside0.mk (Kd.R_below (by (with_reducible repeat (first | apply Kd.R_alloc | apply Kd.R_drewN | apply Kd.R_drew)); exact HO198.out) hb); have n1_ := Aside0.mk (blk_below (g := gb194) (o := .cells #[.int .i64 a0_0, .slice A0_1 l0_1.length c0_1, .slice A0_2 l0_2.length c0_2, .int .u16 a0_3, .int .u16 a0_4, .int .u16 a0_5, .int .u8 a0_6, .int .u16 a0_7, .bool a0_8, .bool a0_9, .int .i64 a0_10, .int .u8 a0_11, .int .u8 a0_12, .int .u32 a0_13, .int .u32 a0_14, .slice A0_15 l0_15.length c0_15, .slice A0_16 l0_16.length c0_16] 50 (0, 0)) (by first | (with_reducible exact BK194.out) | (with_reducible exact blk_drewN BK194.out _) | (with_reducible exact blk_drew BK194.out) | ((with_reducible repeat (first | refine blk_drewN ?_ _ | refine blk_drew ?_ | refine blk_alloc ?_ _)); exact BK194.out)) hb); have n2_ := Aside0.mk (below_step (by repeat (first | (with_reducible first | exact HB.out | apply below_alloc | apply pw_below_drewN | apply below_drew1 | refine below_set ?_ GE194.out) | exact HB.out)) hb); have n3_ := Aside0.mk (hlc_); have n4_ := Aside0.mk (hlr_); clear HO198; clear BK194; clear HB; have HO198 := n0_; have BK194 := n1_; have HB := n2_; have HR202 := n3_; have HC202 := n4_; clear n0_ n1_ n2_ n3_ n4_; clear hb hlr_ hlc_) | ((with_reducible refine gate_callee (f := 43) rfl ?_); refine goesL_ (some 16) rfl rfl Try.func43 (by kernel_rfl) rfl #[.slice A11 y199.length c11] rfl (by (try simp only [List.map_toArray, List.map_cons, List.map_nil]); first | done | rfl | (simp only [List.length_drop, List.length_take]; rfl)) ?_; (with_reducible refine (weftref3_Sum.calls k _ _ y199 t203 _ ?side1 ?side2 A5.out).mono ?_); (case side1 => repeat (first | exact (by repeat (first | (with_reducible exact HR202.out) | (with_reducible refine Kd.C_alloc ?_ _) | (with_reducible refine Kd.C_drewN ?_ _) | (with_reducible refine Kd.C_drew ?_) | exact HR202.out)) | (with_reducible refine Kd.C_alloc ?_ _) | (with_reducible refine Kd.C_drewN ?_ _) | (with_reducible refine Kd.C_drew ?_))); (case side2 => exact HC202.out); rintro e w12 ⟨rfl, hb⟩; refine ⟨_, rfl, ?_⟩; have n0_ := Aside0.mk (Kd.R_below (by (with_reducible repeat (first | apply Kd.R_alloc | apply Kd.R_drewN | apply Kd.R_drew)); exact HO198.out) hb); have n1_ := Aside0.mk (blk_below (g := gb194) (o := .cells #[.int .i64 a0_0, .slice A0_1 l0_1.length c0_1, .slice A0_2 l0_2.length c0_2, .int .u16 a0_3, .int .u16 a0_4, .int .u16 a0_5, .int .u8 a0_6, .int .u16 a0_7, .bool a0_8, .bool a0_9, .int .i64 a0_10, .int .u8 a0_11, .int .u8 a0_12, .int .u32 a0_13, .int .u32 a0_14, .slice A0_15 l0_15.length c0_15, .slice A0_16 l0_16.length c0_16] 50 (0, 0)) (by first | (with_reducible exact BK194.out) | (with_reducible exact blk_drewN BK194.out _) | (with_reducible exact blk_drew BK194.out) | ((with_reducible repeat (first | refine blk_drewN ?_ _ | refine blk_drew ?_ | refine blk_alloc ?_ _)); exact BK194.out)) hb); have n2_ := Aside0.mk (Kd.C_below (by repeat (first | (with_reducible exact HR202.out) | (with_reducible refine Kd.C_alloc ?_ _) | (with_reducible refine Kd.C_drewN ?_ _) | (with_reducible refine Kd.C_drew ?_) | exact HR202.out)) hb); have n3_ := Aside0.mk (below_step (by repeat (first | (with_reducible first | exact HB.out | apply below_alloc | apply pw_below_drewN | apply below_drew1 | refine below_set ?_ GE194.out) | exact HB.out)) hb); clear HO198; clear BK194; clear HR202; clear HB; have HO198 := n0_; have BK194 := n1_; have HR202 := n2_; have HB := n3_; clear n0_ n1_ n2_ n3_; (try clear hb); (try clear hb2); (try clear hk); (try clear hi)))
    go_ret
    exact ⟨by first | rfl | (simp [errW_none, errW_some] <;> rfl) | (simp [*, errW_none, errW_some] <;> rfl), by repeat (first | (with_reducible first | exact HB.out | apply below_alloc | apply pw_below_drewN | apply below_drew1 | refine below_set ?_ GE194.out) | exact HB.out)⟩
  · rw [if_neg c2] at H
    exact absurd H (by simp)

/-! ### weftlaw3_plays: function 24 -/
def weftlaw3_plays.j0 : Nat → Bool → Int → List Int → List (List Int) → Int → Int → Int → Int → Int → Bool → Bool → Int → Int → Int → Int → Int → List Int → List Int → Option (Bool)
  | 0, _, _, _, _, _, _, _, _, _, _, _, _, _, _, _, _, _, _ => none
  | k + 1, x27, x524000, x524001, x524002, x524003, x524004, x524005, x524006, x524007, x524008, x524009, x524010, x524011, x524012, x524013, x524014, x524015, x524016 => if x27 = true then ((weftlaw3_numbers.f k x524000 x524001 x524002 x524003 x524004 x524005 x524006 x524007 x524008 x524009 x524010 x524011 x524012 x524013 x524014 x524015 x524016).bind fun t524 => (some t524)) else (none)
def weftlaw3_plays.f (k : Nat) (a0_0 : Int) (l0_1 : List Int) (l0_2 : List (List Int)) (a0_3 : Int) (a0_4 : Int) (a0_5 : Int) (a0_6 : Int) (a0_7 : Int) (a0_8 : Bool) (a0_9 : Bool) (a0_10 : Int) (a0_11 : Int) (a0_12 : Int) (a0_13 : Int) (a0_14 : Int) (l0_15 : List Int) (l0_16 : List Int) : Option (Bool) := if a0_0 = 1 then (weftlaw3_plays.j0 k (a0_0 == 1) a0_0 l0_1 l0_2 a0_3 a0_4 a0_5 a0_6 a0_7 a0_8 a0_9 a0_10 a0_11 a0_12 a0_13 a0_14 l0_15 l0_16) else (weftlaw3_plays.j0 k (a0_0 == 2) a0_0 l0_1 l0_2 a0_3 a0_4 a0_5 a0_6 a0_7 a0_8 a0_9 a0_10 a0_11 a0_12 a0_13 a0_14 l0_15 l0_16)
theorem weftlaw3_plays.mono_l : ∀ k, (∀ y0 y1 y2 y3 y4 y5 y6 y7 y8 y9 y10 y11 y12 y13 y14 y15 y16 y17, LeO (weftlaw3_plays.j0 k y0 y1 y2 y3 y4 y5 y6 y7 y8 y9 y10 y11 y12 y13 y14 y15 y16 y17) (weftlaw3_plays.j0 (k + 1) y0 y1 y2 y3 y4 y5 y6 y7 y8 y9 y10 y11 y12 y13 y14 y15 y16 y17))
  | 0 => fun _ _ _ _ _ _ _ _ _ _ _ _ _ _ _ _ _ _ r h => by simp [weftlaw3_plays.j0] at h
  | k + 1 => by
    have ih0 := weftlaw3_plays.mono_l k
    · intro y0 y1 y2 y3 y4 y5 y6 y7 y8 y9 y10 y11 y12 y13 y14 y15 y16 y17
      unfold weftlaw3_plays.j0
      repeat' first
      | (with_reducible exact ih0 _ _ _ _ _ _ _ _ _ _ _ _ _ _ _ _ _ _)
      | (with_reducible exact weftlaw3_numbers.mono _ _ _ _ _ _ _ _ _ _ _ _ _ _ _ _ _ _)
      | (with_reducible exact LeO.refl _)
      | (with_reducible exact LeO.none _)
      | (with_reducible refine LeO.ite ?_ ?_)
      | (with_reducible refine LeO.bind ?_ (fun _ => ?_))
      | exact ih0 _ _ _ _ _ _ _ _ _ _ _ _ _ _ _ _ _ _
      | exact weftlaw3_numbers.mono _ _ _ _ _ _ _ _ _ _ _ _ _ _ _ _ _ _
      | exact LeO.none _
      | refine LeO.ite ?_ ?_
      | refine LeO.bind ?_ (fun _ => ?_)
theorem weftlaw3_plays.mono : ∀ a0 a1 a2 a3 a4 a5 a6 a7 a8 a9 a10 a11 a12 a13 a14 a15 a16 k, LeO (weftlaw3_plays.f k a0 a1 a2 a3 a4 a5 a6 a7 a8 a9 a10 a11 a12 a13 a14 a15 a16) (weftlaw3_plays.f (k + 1) a0 a1 a2 a3 a4 a5 a6 a7 a8 a9 a10 a11 a12 a13 a14 a15 a16) := by
  intro a0 a1 a2 a3 a4 a5 a6 a7 a8 a9 a10 a11 a12 a13 a14 a15 a16 k
  have ih0 := weftlaw3_plays.mono_l k
  unfold weftlaw3_plays.f
  repeat' first
      | (with_reducible exact ih0 _ _ _ _ _ _ _ _ _ _ _ _ _ _ _ _ _ _)
      | (with_reducible exact weftlaw3_numbers.mono _ _ _ _ _ _ _ _ _ _ _ _ _ _ _ _ _ _)
      | (with_reducible exact LeO.refl _)
      | (with_reducible exact LeO.none _)
      | (with_reducible refine LeO.ite ?_ ?_)
      | (with_reducible refine LeO.bind ?_ (fun _ => ?_))
      | exact ih0 _ _ _ _ _ _ _ _ _ _ _ _ _ _ _ _ _ _
      | exact weftlaw3_numbers.mono _ _ _ _ _ _ _ _ _ _ _ _ _ _ _ _ _ _
      | exact LeO.none _
      | refine LeO.ite ?_ ?_
      | refine LeO.bind ?_ (fun _ => ?_)
set_option maxHeartbeats 8000000 in
set_option maxRecDepth 100000 in
theorem weftlaw3_plays.calls (k : Nat) (a0_0 : Int) (A0_1 : Option Addr) (c0_1 : Nat) (l0_1 : List Int) (A0_2 : Option Addr) (c0_2 : Nat) (l0_2 : List (List Int)) (a0_3 : Int) (a0_4 : Int) (a0_5 : Int) (a0_6 : Int) (a0_7 : Int) (a0_8 : Bool) (a0_9 : Bool) (a0_10 : Int) (a0_11 : Int) (a0_12 : Int) (a0_13 : Int) (a0_14 : Int) (A0_15 : Option Addr) (c0_15 : Nat) (l0_15 : List Int) (A0_16 : Option Addr) (c0_16 : Nat) (l0_16 : List Int) (r : Bool) (w : World) (hr0_1 : Kd.C (Kd.int .u8) w A0_1 l0_1.length l0_1) (hc0_1 : l0_1.length ≤ c0_1) (hr0_2 : Kd.C (Kd.slice 5 (Kd.int .u8)) w A0_2 l0_2.length l0_2) (hc0_2 : l0_2.length ≤ c0_2) (hr0_15 : Kd.C (Kd.int .u8) w A0_15 l0_15.length l0_15) (hc0_15 : l0_15.length ≤ c0_15) (hr0_16 : Kd.C (Kd.int .u8) w A0_16 l0_16.length l0_16) (hc0_16 : l0_16.length ≤ c0_16) (h : weftlaw3_plays.f k a0_0 l0_1 l0_2 a0_3 a0_4 a0_5 a0_6 a0_7 a0_8 a0_9 a0_10 a0_11 a0_12 a0_13 a0_14 l0_15 l0_16 = some r) :
    Calls Try.prog 24 #[.agg #[.int .i64 a0_0, .slice A0_1 l0_1.length c0_1, .slice A0_2 l0_2.length c0_2, .int .u16 a0_3, .int .u16 a0_4, .int .u16 a0_5, .int .u8 a0_6, .int .u16 a0_7, .bool a0_8, .bool a0_9, .int .i64 a0_10, .int .u8 a0_11, .int .u8 a0_12, .int .u32 a0_13, .int .u32 a0_14, .slice A0_15 l0_15.length c0_15, .slice A0_16 l0_16.length c0_16]] w fun e w' => e = .returned (.bool r) ∧ Below w.heap.size w w' := by
  have hu50 := Try.underlying50
  have hu33 := Try.underlying33
  have hu31 := Try.underlying31
  have HR0_1 := Aside0.mk hr0_1
  have HC0_1 := Aside0.mk hc0_1
  clear hr0_1 hc0_1
  have HR0_2 := Aside0.mk hr0_2
  have HC0_2 := Aside0.mk hc0_2
  clear hr0_2 hc0_2
  have HR0_15 := Aside0.mk hr0_15
  have HC0_15 := Aside0.mk hc0_15
  clear hr0_15 hc0_15
  have HR0_16 := Aside0.mk hr0_16
  have HC0_16 := Aside0.mk hc0_16
  clear hr0_16 hc0_16
  have HB := Aside0.mk (Below.refl w.heap.size w)
  have H : (if a0_0 = 1 then (weftlaw3_plays.j0 k (a0_0 == 1) a0_0 l0_1 l0_2 a0_3 a0_4 a0_5 a0_6 a0_7 a0_8 a0_9 a0_10 a0_11 a0_12 a0_13 a0_14 l0_15 l0_16) else (weftlaw3_plays.j0 k (a0_0 == 2) a0_0 l0_1 l0_2 a0_3 a0_4 a0_5 a0_6 a0_7 a0_8 a0_9 a0_10 a0_11 a0_12 a0_13 a0_14 l0_15 l0_16)) = some r := h
  clear h
  have HC2 := Aside0.mk H
  clear H
  go_enter Try.func24, Try.ntmps24
  go_upto_if 27 with (first | ((with_reducible refine gate_dst (N := 1) rfl ?_); refine box_event ?hg (N := 1) ?hd (cs := #[.int .i64 a0_0, .slice A0_1 l0_1.length c0_1, .slice A0_2 l0_2.length c0_2, .int .u16 a0_3, .int .u16 a0_4, .int .u16 a0_5, .int .u8 a0_6, .int .u16 a0_7, .bool a0_8, .bool a0_9, .int .i64 a0_10, .int .u8 a0_11, .int .u8 a0_12, .int .u32 a0_13, .int .u32 a0_14, .slice A0_15 l0_15.length c0_15, .slice A0_16 l0_16.length c0_16]) (t := 50) ?hr ?_; (case hd => rfl); (case hg => rfl); (case hr => first | (go_simp; done) | (go_simp; rfl)); intro gb523 hg w3 hbox hb; have n0_ := Aside0.mk (below_step (by repeat (first | (with_reducible first | exact HB.out | apply below_alloc | apply pw_below_drewN | apply below_drew1) | exact HB.out)) hb); have n1_ := Aside0.mk (hbox); have n2_ := Aside0.mk ((by rw [hg]; exact (below_size (by repeat (first | (with_reducible first | exact HB.out | apply below_alloc | apply pw_below_drewN | apply below_drew1) | exact HB.out))) : w.heap.size ≤ gb523)); have n3_ := Aside0.mk ((by rw [hg]; exact (below_size (by repeat (first | (with_reducible first | exact HB.out | apply below_alloc | apply pw_below_drewN | apply below_drew1) | exact HB.out))) : w.heap.size ≤ gb523)); clear HB; have HB := n0_; have BK523 := n1_; have GW523 := n2_; have GE523 := n3_; clear n0_ n1_ n2_ n3_; clear hb hbox hg; have hcz4_0 : w3.cell? ⟨gb523, 0, none⟩ = some (.int .i64 a0_0) := (blk_cell BK523.out 0).trans rfl; have hcz4_1 : w3.cell? ⟨gb523, 1, none⟩ = some (.slice A0_1 l0_1.length c0_1) := (blk_cell BK523.out 1).trans rfl; have hcz4_2 : w3.cell? ⟨gb523, 2, none⟩ = some (.slice A0_2 l0_2.length c0_2) := (blk_cell BK523.out 2).trans rfl; have hcz4_3 : w3.cell? ⟨gb523, 3, none⟩ = some (.int .u16 a0_3) := (blk_cell BK523.out 3).trans rfl; have hcz4_4 : w3.cell? ⟨gb523, 4, none⟩ = some (.int .u16 a0_4) := (blk_cell BK523.out 4).trans rfl; have hcz4_5 : w3.cell? ⟨gb523, 5, none⟩ = some (.int .u16 a0_5) := (blk_cell BK523.out 5).trans rfl; have hcz4_6 : w3.cell? ⟨gb523, 6, none⟩ = some (.int .u8 a0_6) := (blk_cell BK523.out 6).trans rfl; have hcz4_7 : w3.cell? ⟨gb523, 7, none⟩ = some (.int .u16 a0_7) := (blk_cell BK523.out 7).trans rfl; have hcz4_8 : w3.cell? ⟨gb523, 8, none⟩ = some (.bool a0_8) := (blk_cell BK523.out 8).trans rfl; have hcz4_9 : w3.cell? ⟨gb523, 9, none⟩ = some (.bool a0_9) := (blk_cell BK523.out 9).trans rfl; have hcz4_10 : w3.cell? ⟨gb523, 10, none⟩ = some (.int .i64 a0_10) := (blk_cell BK523.out 10).trans rfl; have hcz4_11 : w3.cell? ⟨gb523, 11, none⟩ = some (.int .u8 a0_11) := (blk_cell BK523.out 11).trans rfl; have hcz4_12 : w3.cell? ⟨gb523, 12, none⟩ = some (.int .u8 a0_12) := (blk_cell BK523.out 12).trans rfl; have hcz4_13 : w3.cell? ⟨gb523, 13, none⟩ = some (.int .u32 a0_13) := (blk_cell BK523.out 13).trans rfl; have hcz4_14 : w3.cell? ⟨gb523, 14, none⟩ = some (.int .u32 a0_14) := (blk_cell BK523.out 14).trans rfl; have hcz4_15 : w3.cell? ⟨gb523, 15, none⟩ = some (.slice A0_15 l0_15.length c0_15) := (blk_cell BK523.out 15).trans rfl; have hcz4_16 : w3.cell? ⟨gb523, 16, none⟩ = some (.slice A0_16 l0_16.length c0_16) := (blk_cell BK523.out 16).trans rfl; have hfz4_0 := blk_frozen BK523.out 0; have hfz4_1 := blk_frozen BK523.out 1; have hfz4_2 := blk_frozen BK523.out 2; have hfz4_3 := blk_frozen BK523.out 3; have hfz4_4 := blk_frozen BK523.out 4; have hfz4_5 := blk_frozen BK523.out 5; have hfz4_6 := blk_frozen BK523.out 6; have hfz4_7 := blk_frozen BK523.out 7; have hfz4_8 := blk_frozen BK523.out 8; have hfz4_9 := blk_frozen BK523.out 9; have hfz4_10 := blk_frozen BK523.out 10; have hfz4_11 := blk_frozen BK523.out 11; have hfz4_12 := blk_frozen BK523.out 12; have hfz4_13 := blk_frozen BK523.out 13; have hfz4_14 := blk_frozen BK523.out 14; have hfz4_15 := blk_frozen BK523.out 15; have hfz4_16 := blk_frozen BK523.out 16))
  (try simp only [Act.put, List.setIfInBounds_toArray, List.set_cons_zero, List.set_cons_succ])
  go_cut [27] (fun v27 wc => ∃ (kq : Nat) (x27_1 : Bool), v27 = .bool x27_1 ∧ Aside0 (weftlaw3_plays.j0 kq x27_1 a0_0 l0_1 l0_2 a0_3 a0_4 a0_5 a0_6 a0_7 a0_8 a0_9 a0_10 a0_11 a0_12 a0_13 a0_14 l0_15 l0_16 = some r) ∧ Aside0 (kq ≤ k) ∧ Aside0 (wc.heap[gb523]? = some (.cells #[.int .i64 a0_0, (.slice A0_1 l0_1.length c0_1), (.slice A0_2 l0_2.length c0_2), .int .u16 a0_3, .int .u16 a0_4, .int .u16 a0_5, .int .u8 a0_6, .int .u16 a0_7, .bool a0_8, .bool a0_9, .int .i64 a0_10, .int .u8 a0_11, .int .u8 a0_12, .int .u32 a0_13, .int .u32 a0_14, (.slice A0_15 l0_15.length c0_15), (.slice A0_16 l0_16.length c0_16)] 50 (0, 0))) ∧ Aside0 (Below w.heap.size w wc))
  case first =>
    have H := HC2.out
    clear HC2
    by_cases c5 : a0_0 = 1
    · rw [if_pos c5] at H
      have c5b0 : (a0_0 == 1) = true := beq_iff_eq.mpr c5
      have c5b1 : (a0_0 != 1) = false := bne_eq_false_iff_eq.mpr c5
      clear c5
      (first | rw [c5b0] | (simp only [i64_w, i32_w]; rw [c5b0]) | skip)
      have H' := Aside0.mk H
      clear H
      go_wp2
      go_meet
      case rel => exact ⟨_, ((a0_0 == 1)), (by first | rfl | (simp; done) | (simp [*]; done)), H', ⟨by first | omega | exact Nat.le_refl _⟩, ⟨by first | (with_reducible exact BK523.out) | (with_reducible exact blk_drewN BK523.out _) | (with_reducible exact blk_drew BK523.out) | ((with_reducible repeat (first | refine blk_drewN ?_ _ | refine blk_drew ?_ | refine blk_alloc ?_ _)); exact BK523.out)⟩, ⟨by repeat (first | (with_reducible first | exact HB.out | apply below_alloc | apply pw_below_drewN | apply below_drew1 | refine below_set ?_ GE523.out) | exact HB.out)⟩⟩
    · rw [if_neg c5] at H
      have c5b0 : (a0_0 == 1) = false := beq_eq_false_iff_ne.mpr c5
      have c5b1 : (a0_0 != 1) = true := bne_iff_ne.mpr c5
      (first | rw [c5b0] | (simp only [i64_w, i32_w]; rw [c5b0]) | skip)
      have H' := Aside0.mk H
      clear H
      go_wp2
      go_meet
      case rel => exact ⟨_, ((a0_0 == 2)), (by first | rfl | (simp; done) | (simp [*]; done)), H', ⟨by first | omega | exact Nat.le_refl _⟩, ⟨by first | (with_reducible exact BK523.out) | (with_reducible exact blk_drewN BK523.out _) | (with_reducible exact blk_drew BK523.out) | ((with_reducible repeat (first | refine blk_drewN ?_ _ | refine blk_drew ?_ | refine blk_alloc ?_ _)); exact BK523.out)⟩, ⟨by repeat (first | (with_reducible first | exact HB.out | apply below_alloc | apply pw_below_drewN | apply below_drew1 | refine below_set ?_ GE523.out) | exact HB.out)⟩⟩
  case rest =>
    clear HC2
    try clear c2
    try clear p2
    try clear c5
    try clear c5b0
    try clear c5b1
    try clear hcz4_0
    try clear hcz4_1
    try clear hcz4_10
    try clear hcz4_11
    try clear hcz4_12
    try clear hcz4_13
    try clear hcz4_14
    try clear hcz4_15
    try clear hcz4_16
    try clear hcz4_2
    try clear hcz4_3
    try clear hcz4_4
    try clear hcz4_5
    try clear hcz4_6
    try clear hcz4_7
    try clear hcz4_8
    try clear hcz4_9
    try clear hfz4_0
    try clear hfz4_1
    try clear hfz4_10
    try clear hfz4_11
    try clear hfz4_12
    try clear hfz4_13
    try clear hfz4_14
    try clear hfz4_15
    try clear hfz4_16
    try clear hfz4_2
    try clear hfz4_3
    try clear hfz4_4
    try clear hfz4_5
    try clear hfz4_6
    try clear hfz4_7
    try clear hfz4_8
    try clear hfz4_9
    obtain ⟨kq, x27_1, rfl, HA, HJ1, BK523, HB⟩ := hcut
    cases kq with
    | zero => exact absurd HA.out (by simp [weftlaw3_plays.j0])
    | succ kj1 =>
      have H := HA.out
      clear HA
      simp only [weftlaw3_plays.j0] at H
      by_cases c6 : x27_1 = true
      · subst c6
        have H1 : ((weftlaw3_numbers.f kj1 a0_0 l0_1 l0_2 a0_3 a0_4 a0_5 a0_6 a0_7 a0_8 a0_9 a0_10 a0_11 a0_12 a0_13 a0_14 l0_15 l0_16).bind fun t524 => (some t524)) = some r := by rw [if_pos rfl] at H; exact H
        clear H
        have H := H1
        clear H1
        replace H := Option.bind_eq_some_iff.mp H
        obtain ⟨t524, A70, H⟩ := H
        replace H : (some t524) = some r := H
        have A7 := Aside0.mk A70
        clear A70
        obtain rfl := Option.some.inj H
        have hcz8_0 : wc.cell? ⟨gb523, 0, none⟩ = some (.int .i64 a0_0) := (blk_cell BK523.out 0).trans rfl
        have hcz8_1 : wc.cell? ⟨gb523, 1, none⟩ = some (.slice A0_1 l0_1.length c0_1) := (blk_cell BK523.out 1).trans rfl
        have hcz8_2 : wc.cell? ⟨gb523, 2, none⟩ = some (.slice A0_2 l0_2.length c0_2) := (blk_cell BK523.out 2).trans rfl
        have hcz8_3 : wc.cell? ⟨gb523, 3, none⟩ = some (.int .u16 a0_3) := (blk_cell BK523.out 3).trans rfl
        have hcz8_4 : wc.cell? ⟨gb523, 4, none⟩ = some (.int .u16 a0_4) := (blk_cell BK523.out 4).trans rfl
        have hcz8_5 : wc.cell? ⟨gb523, 5, none⟩ = some (.int .u16 a0_5) := (blk_cell BK523.out 5).trans rfl
        have hcz8_6 : wc.cell? ⟨gb523, 6, none⟩ = some (.int .u8 a0_6) := (blk_cell BK523.out 6).trans rfl
        have hcz8_7 : wc.cell? ⟨gb523, 7, none⟩ = some (.int .u16 a0_7) := (blk_cell BK523.out 7).trans rfl
        have hcz8_8 : wc.cell? ⟨gb523, 8, none⟩ = some (.bool a0_8) := (blk_cell BK523.out 8).trans rfl
        have hcz8_9 : wc.cell? ⟨gb523, 9, none⟩ = some (.bool a0_9) := (blk_cell BK523.out 9).trans rfl
        have hcz8_10 : wc.cell? ⟨gb523, 10, none⟩ = some (.int .i64 a0_10) := (blk_cell BK523.out 10).trans rfl
        have hcz8_11 : wc.cell? ⟨gb523, 11, none⟩ = some (.int .u8 a0_11) := (blk_cell BK523.out 11).trans rfl
        have hcz8_12 : wc.cell? ⟨gb523, 12, none⟩ = some (.int .u8 a0_12) := (blk_cell BK523.out 12).trans rfl
        have hcz8_13 : wc.cell? ⟨gb523, 13, none⟩ = some (.int .u32 a0_13) := (blk_cell BK523.out 13).trans rfl
        have hcz8_14 : wc.cell? ⟨gb523, 14, none⟩ = some (.int .u32 a0_14) := (blk_cell BK523.out 14).trans rfl
        have hcz8_15 : wc.cell? ⟨gb523, 15, none⟩ = some (.slice A0_15 l0_15.length c0_15) := (blk_cell BK523.out 15).trans rfl
        have hcz8_16 : wc.cell? ⟨gb523, 16, none⟩ = some (.slice A0_16 l0_16.length c0_16) := (blk_cell BK523.out 16).trans rfl
        have hfz8_0 := blk_frozen BK523.out 0
        have hfz8_1 := blk_frozen BK523.out 1
        have hfz8_2 := blk_frozen BK523.out 2
        have hfz8_3 := blk_frozen BK523.out 3
        have hfz8_4 := blk_frozen BK523.out 4
        have hfz8_5 := blk_frozen BK523.out 5
        have hfz8_6 := blk_frozen BK523.out 6
        have hfz8_7 := blk_frozen BK523.out 7
        have hfz8_8 := blk_frozen BK523.out 8
        have hfz8_9 := blk_frozen BK523.out 9
        have hfz8_10 := blk_frozen BK523.out 10
        have hfz8_11 := blk_frozen BK523.out 11
        have hfz8_12 := blk_frozen BK523.out 12
        have hfz8_13 := blk_frozen BK523.out 13
        have hfz8_14 := blk_frozen BK523.out 14
        have hfz8_15 := blk_frozen BK523.out 15
        have hfz8_16 := blk_frozen BK523.out 16
        go_wp2_with (first | ((with_reducible refine gate_callee (f := 28) rfl ?_); refine goesL_ (some 31) rfl rfl Try.func28 (by kernel_rfl) rfl #[.agg #[.int .i64 a0_0, .slice A0_1 l0_1.length c0_1, .slice A0_2 l0_2.length c0_2, .int .u16 a0_3, .int .u16 a0_4, .int .u16 a0_5, .int .u8 a0_6, .int .u16 a0_7, .bool a0_8, .bool a0_9, .int .i64 a0_10, .int .u8 a0_11, .int .u8 a0_12, .int .u32 a0_13, .int .u32 a0_14, .slice A0_15 l0_15.length c0_15, .slice A0_16 l0_16.length c0_16]] rfl (by (try simp only [List.map_toArray, List.map_cons, List.map_nil]); first | done | rfl | (simp only [List.length_drop, List.length_take]; rfl)) ?_; (with_reducible refine (weftlaw3_numbers.calls kj1 a0_0 _ _ l0_1 _ _ l0_2 a0_3 a0_4 a0_5 a0_6 a0_7 a0_8 a0_9 a0_10 a0_11 a0_12 a0_13 a0_14 _ _ l0_15 _ _ l0_16 t524 _ ?side1 ?side2 ?side3 ?side4 ?side5 ?side6 ?side7 ?side8 A7.out).mono ?_); (case side1 => repeat (first | exact (Kd.C_below HR0_1.out HB.out) | (with_reducible refine Kd.C_alloc ?_ _) | (with_reducible refine Kd.C_drewN ?_ _) | (with_reducible refine Kd.C_drew ?_))); (case side2 => exact HC0_1.out); (case side3 => repeat (first | exact (Kd.C_below HR0_2.out HB.out) | (with_reducible refine Kd.C_alloc ?_ _) | (with_reducible refine Kd.C_drewN ?_ _) | (with_reducible refine Kd.C_drew ?_))); (case side4 => exact HC0_2.out); (case side5 => repeat (first | exact (Kd.C_below HR0_15.out HB.out) | (with_reducible refine Kd.C_alloc ?_ _) | (with_reducible refine Kd.C_drewN ?_ _) | (with_reducible refine Kd.C_drew ?_))); (case side6 => exact HC0_15.out); (case side7 => repeat (first | exact (Kd.C_below HR0_16.out HB.out) | (with_reducible refine Kd.C_alloc ?_ _) | (with_reducible refine Kd.C_drewN ?_ _) | (with_reducible refine Kd.C_drew ?_))); (case side8 => exact HC0_16.out); rintro e w9 ⟨rfl, hb⟩; refine ⟨_, rfl, ?_⟩; have n0_ := Aside0.mk (blk_below (g := gb523) (o := .cells #[.int .i64 a0_0, .slice A0_1 l0_1.length c0_1, .slice A0_2 l0_2.length c0_2, .int .u16 a0_3, .int .u16 a0_4, .int .u16 a0_5, .int .u8 a0_6, .int .u16 a0_7, .bool a0_8, .bool a0_9, .int .i64 a0_10, .int .u8 a0_11, .int .u8 a0_12, .int .u32 a0_13, .int .u32 a0_14, .slice A0_15 l0_15.length c0_15, .slice A0_16 l0_16.length c0_16] 50 (0, 0)) (by first | (with_reducible exact BK523.out) | (with_reducible exact blk_drewN BK523.out _) | (with_reducible exact blk_drew BK523.out) | ((with_reducible repeat (first | refine blk_drewN ?_ _ | refine blk_drew ?_ | refine blk_alloc ?_ _)); exact BK523.out)) hb); have n1_ := Aside0.mk (below_step (by repeat (first | (with_reducible first | exact HB.out | apply below_alloc | apply pw_below_drewN | apply below_drew1 | refine below_set ?_ GE523.out) | exact HB.out)) hb); clear BK523; clear HB; have BK523 := n0_; have HB := n1_; clear n0_ n1_; (try clear hb); (try clear hb2); (try clear hk); (try clear hi)))
        go_ret
        exact ⟨by first | rfl | (simp [errW_none, errW_some] <;> rfl) | (simp [*, errW_none, errW_some] <;> rfl), by repeat (first | (with_reducible first | exact HB.out | apply below_alloc | apply pw_below_drewN | apply below_drew1 | refine below_set ?_ GE523.out) | exact HB.out)⟩
      · replace c6 := Bool.eq_false_iff.mpr c6
        subst c6
        have H1 : (none) = some r := by rw [if_neg (show ¬ (false = true) by decide)] at H; exact H
        clear H
        have H := H1
        clear H1
        exact absurd H (by simp)

/-! ### weftlaw3_head: function 23 -/
def weftlaw3_head.f (k : Nat) (a0 : Int) : Option (Bool) := (weftref3_Build.f k 0 7216 true false 0 64 6 167838211 167904004 ([] : List Int) (([1, 2, 3] : List Int))).bind fun bt529 => (if a0 = 1 then ((weftlaw3_plays.f k 1 ([] : List Int) (([(([1] : List Int)), (([2, 3] : List Int))] : List (List Int))) 0 0 0 0 0 false false 0 0 0 0 0 ([] : List Int) ([] : List Int)).bind fun t542 => (some t542)) else (none))
theorem weftlaw3_head.mono : ∀ a0 k, LeO (weftlaw3_head.f k a0) (weftlaw3_head.f (k + 1) a0) := by
  intro a0 k
  unfold weftlaw3_head.f
  repeat' first
      | (with_reducible exact weftlaw3_plays.mono _ _ _ _ _ _ _ _ _ _ _ _ _ _ _ _ _ _)
      | (with_reducible exact weftref3_Build.mono _ _ _ _ _ _ _ _ _ _ _ _)
      | (with_reducible exact LeO.refl _)
      | (with_reducible exact LeO.none _)
      | (with_reducible refine LeO.ite ?_ ?_)
      | (with_reducible refine LeO.bind ?_ (fun _ => ?_))
      | exact weftlaw3_plays.mono _ _ _ _ _ _ _ _ _ _ _ _ _ _ _ _ _ _
      | exact weftref3_Build.mono _ _ _ _ _ _ _ _ _ _ _ _
      | exact LeO.none _
      | refine LeO.ite ?_ ?_
      | refine LeO.bind ?_ (fun _ => ?_)
set_option maxHeartbeats 8000000 in
set_option maxRecDepth 100000 in
theorem weftlaw3_head.calls (k : Nat) (a0 : Int) (r : Bool) (w : World) (h : weftlaw3_head.f k a0 = some r) :
    Calls Try.prog 23 #[.int .i64 a0] w fun e w' => e = .returned (.bool r) ∧ Below w.heap.size w w' := by
  have hu31 := Try.underlying31
  have hu33 := Try.underlying33
  have hu50 := Try.underlying50
  have HB := Aside0.mk (Below.refl w.heap.size w)
  have H : ((weftref3_Build.f k 0 7216 true false 0 64 6 167838211 167904004 ([] : List Int) (([1, 2, 3] : List Int))).bind fun bt529 => (if a0 = 1 then ((weftlaw3_plays.f k 1 ([] : List Int) (([(([1] : List Int)), (([2, 3] : List Int))] : List (List Int))) 0 0 0 0 0 false false 0 0 0 0 0 ([] : List Int) ([] : List Int)).bind fun t542 => (some t542)) else (none))) = some r := h
  clear h
  obtain ⟨y525, hy525⟩ : ∃ y_ : List Int, y_ = (([1, 2, 3] : List Int)) := ⟨_, rfl⟩
  replace H : ((weftref3_Build.f k 0 7216 true false 0 64 6 167838211 167904004 ([] : List Int) y525).bind fun bt529 => (if a0 = 1 then ((weftlaw3_plays.f k 1 ([] : List Int) (([(([1] : List Int)), (([2, 3] : List Int))] : List (List Int))) 0 0 0 0 0 false false 0 0 0 0 0 ([] : List Int) ([] : List Int)).bind fun t542 => (some t542)) else (none))) = some r := by first | (rw [hy525]; with_reducible exact H) | (have H2_ := (Option.bind_some _ _).symm.trans H; rw [hy525]; with_reducible exact H2_) | (have H2_ := (Option.bind_some _ _).symm.trans H; with_reducible exact H2_) | with_reducible exact H | (rw [hy525]; exact H) | exact H
  have Ny525 := Aside0.mk hy525
  clear hy525
  replace H := Option.bind_eq_some_iff.mp H
  obtain ⟨⟨t529, t532⟩, A20, H⟩ := H
  replace H : (if a0 = 1 then ((weftlaw3_plays.f k 1 ([] : List Int) (([(([1] : List Int)), (([2, 3] : List Int))] : List (List Int))) 0 0 0 0 0 false false 0 0 0 0 0 ([] : List Int) ([] : List Int)).bind fun t542 => (some t542)) else (none)) = some r := H
  have A2 := Aside0.mk A20
  clear A20
  by_cases c3 : a0 = 1
  · rw [if_pos c3] at H
    have c3b0 : (a0 == 1) = true := beq_iff_eq.mpr c3
    have c3b1 : (a0 != 1) = false := bne_eq_false_iff_eq.mpr c3
    clear c3
    obtain ⟨y533, hy533⟩ : ∃ y_ : List Int, y_ = (([1] : List Int)) := ⟨_, rfl⟩
    replace H : ((weftlaw3_plays.f k 1 ([] : List Int) (([y533, (([2, 3] : List Int))] : List (List Int))) 0 0 0 0 0 false false 0 0 0 0 0 ([] : List Int) ([] : List Int)).bind fun t542 => (some t542)) = some r := by first | (rw [hy533]; with_reducible exact H) | (have H2_ := (Option.bind_some _ _).symm.trans H; rw [hy533]; with_reducible exact H2_) | (have H2_ := (Option.bind_some _ _).symm.trans H; with_reducible exact H2_) | with_reducible exact H | (rw [hy533]; exact H) | exact H
    have Ny533 := Aside0.mk hy533
    clear hy533
    obtain ⟨y536, hy536⟩ : ∃ y_ : List Int, y_ = (([2, 3] : List Int)) := ⟨_, rfl⟩
    replace H : ((weftlaw3_plays.f k 1 ([] : List Int) (([y533, y536] : List (List Int))) 0 0 0 0 0 false false 0 0 0 0 0 ([] : List Int) ([] : List Int)).bind fun t542 => (some t542)) = some r := by first | (rw [hy536]; with_reducible exact H) | (have H2_ := (Option.bind_some _ _).symm.trans H; rw [hy536]; with_reducible exact H2_) | (have H2_ := (Option.bind_some _ _).symm.trans H; with_reducible exact H2_) | with_reducible exact H | (rw [hy536]; exact H) | exact H
    have Ny536 := Aside0.mk hy536
    clear hy536
    obtain ⟨y539, hy539⟩ : ∃ y_ : List (List Int), y_ = (([y533, y536] : List (List Int))) := ⟨_, rfl⟩
    replace H : ((weftlaw3_plays.f k 1 ([] : List Int) y539 0 0 0 0 0 false false 0 0 0 0 0 ([] : List Int) ([] : List Int)).bind fun t542 => (some t542)) = some r := by first | (rw [hy539]; with_reducible exact H) | (have H2_ := (Option.bind_some _ _).symm.trans H; rw [hy539]; with_reducible exact H2_) | (have H2_ := (Option.bind_some _ _).symm.trans H; with_reducible exact H2_) | with_reducible exact H | (rw [hy539]; exact H) | exact H
    have Ny539 := Aside0.mk hy539
    clear hy539
    replace H := Option.bind_eq_some_iff.mp H
    obtain ⟨t542, A40, H⟩ := H
    replace H : (some t542) = some r := H
    have A4 := Aside0.mk A40
    clear A40
    obtain rfl := Option.some.inj H
    go_enter Try.func23, Try.ntmps23
    go_wp2_with (first | ((with_reducible refine gate_dst (N := 7) rfl ?_); refine Kd.R_lit (Kd.int .u8) _ 5 ?hg (N := 7) ?hd (xs := ([1, 2, 3] : List Int)) (inner := [.int .u8 1, .int .u8 2, .int .u8 3]) (ok := fun _ => True) (okp := fun _ => True) ?hr ?hp (fun _ hk => hk) trivial (Below.refl _ _) (Nat.le_refl _) (by simp) ?_; (case hd => rfl); (case hg => rfl); (case hr => first | (go_simp; done) | (go_simp; rfl)); (case hp => exact (Reps.one (show Kd.M (Kd.int .u8) _ _ _ 1 [.int .u8 1] from rfl) (Reps.one (show Kd.M (Kd.int .u8) _ _ _ 2 [.int .u8 2] from rfl) (Reps.one (show Kd.M (Kd.int .u8) _ _ _ 3 [.int .u8 3] from rfl) (Reps.none _ _))))); intro v526 w5 ho6 hb hg_ hnew_; clear hg_ hnew_; (first | rw [← Ny525.out] at ho6 | (simp only [Int.reduceToNat] at ho6; rw [← Ny525.out] at ho6)); have n0_ := Aside0.mk (Kd.R_lower ho6 (below_size (by repeat (first | (with_reducible first | exact HB.out | apply below_alloc | apply pw_below_drewN | apply below_drew1) | exact HB.out)))); have n1_ := Aside0.mk (below_step (by repeat (first | (with_reducible first | exact HB.out | apply below_alloc | apply pw_below_drewN | apply below_drew1) | exact HB.out)) hb); clear HB; have HO527 := n0_; have HB := n1_; clear n0_ n1_; clear hb ho6; obtain ⟨Ao7, co7, eo7⟩ := Kd.R_slice HO527.out; subst eo7) | ((with_reducible refine gate_dst (N := 3) rfl ?_); refine box_event ?hg (N := 3) ?hd (cs := #[.int .u8 0, .int .u16 0, .bool false, .bool false, .int .i64 0, .int .u8 0, .int .u8 0, .int .u32 0, .int .u32 0, .slice none 0 0, .slice none 0 0]) (t := 33) ?hr ?_; (case hd => rfl); (case hg => rfl); (case hr => first | (go_simp; done) | (go_simp; rfl)); intro gb528 hg w8 hbox hb; have n0_ := Aside0.mk (Kd.R_below (by (with_reducible repeat (first | apply Kd.R_alloc | apply Kd.R_drewN | apply Kd.R_drew)); exact HO527.out) hb); have n1_ := Aside0.mk (below_step (by repeat (first | (with_reducible first | exact HB.out | apply below_alloc | apply pw_below_drewN | apply below_drew1) | exact HB.out)) hb); have n2_ := Aside0.mk (hbox); have n3_ := Aside0.mk ((by rw [hg]; exact (below_size (by repeat (first | (with_reducible first | exact HB.out | apply below_alloc | apply pw_below_drewN | apply below_drew1) | exact HB.out))) : w.heap.size ≤ gb528)); have n4_ := Aside0.mk ((by rw [hg]; exact (below_size (by repeat (first | (with_reducible first | exact HB.out | apply below_alloc | apply pw_below_drewN | apply below_drew1) | exact HB.out))) : w.heap.size ≤ gb528)); clear HO527; clear HB; have HO527 := n0_; have HB := n1_; have BK528 := n2_; have GW528 := n3_; have GE528 := n4_; clear n0_ n1_ n2_ n3_ n4_; clear hb hbox hg; have hcz9_0 : w8.cell? ⟨gb528, 0, none⟩ = some (.int .u8 0) := (blk_cell BK528.out 0).trans rfl; have hcz9_1 : w8.cell? ⟨gb528, 1, none⟩ = some (.int .u16 0) := (blk_cell BK528.out 1).trans rfl; have hcz9_2 : w8.cell? ⟨gb528, 2, none⟩ = some (.bool false) := (blk_cell BK528.out 2).trans rfl; have hcz9_3 : w8.cell? ⟨gb528, 3, none⟩ = some (.bool false) := (blk_cell BK528.out 3).trans rfl; have hcz9_4 : w8.cell? ⟨gb528, 4, none⟩ = some (.int .i64 0) := (blk_cell BK528.out 4).trans rfl; have hcz9_5 : w8.cell? ⟨gb528, 5, none⟩ = some (.int .u8 0) := (blk_cell BK528.out 5).trans rfl; have hcz9_6 : w8.cell? ⟨gb528, 6, none⟩ = some (.int .u8 0) := (blk_cell BK528.out 6).trans rfl; have hcz9_7 : w8.cell? ⟨gb528, 7, none⟩ = some (.int .u32 0) := (blk_cell BK528.out 7).trans rfl; have hcz9_8 : w8.cell? ⟨gb528, 8, none⟩ = some (.int .u32 0) := (blk_cell BK528.out 8).trans rfl; have hcz9_9 : w8.cell? ⟨gb528, 9, none⟩ = some (.slice none 0 0) := (blk_cell BK528.out 9).trans rfl; have hcz9_10 : w8.cell? ⟨gb528, 10, none⟩ = some (.slice none 0 0) := (blk_cell BK528.out 10).trans rfl; have hfz9_0 := blk_frozen BK528.out 0; have hfz9_1 := blk_frozen BK528.out 1; have hfz9_2 := blk_frozen BK528.out 2; have hfz9_3 := blk_frozen BK528.out 3; have hfz9_4 := blk_frozen BK528.out 4; have hfz9_5 := blk_frozen BK528.out 5; have hfz9_6 := blk_frozen BK528.out 6; have hfz9_7 := blk_frozen BK528.out 7; have hfz9_8 := blk_frozen BK528.out 8; have hfz9_9 := blk_frozen BK528.out 9; have hfz9_10 := blk_frozen BK528.out 10) | ((with_reducible refine gate_callee (f := 27) rfl ?_); refine goesL_ (some 11) rfl rfl Try.func27 (by kernel_rfl) rfl #[.agg #[.int .u8 0, .int .u16 7216, .bool true, .bool false, .int .i64 0, .int .u8 64, .int .u8 6, .int .u32 167838211, .int .u32 167904004, .slice none 0 0, .slice Ao7 y525.length co7]] rfl (by (try simp only [List.map_toArray, List.map_cons, List.map_nil]); first | done | rfl | (simp only [List.length_drop, List.length_take]; rfl)) ?_; (refine (weftref3_Build.calls k 0 7216 true false 0 64 6 167838211 167904004 _ _ ([] : List Int) _ _ y525 t529 t532 _ ?side1 ?side2 ?side3 ?side4 A2.out).mono ?_); (case side1 => exact Kd.C_nil _ _); (case side2 => exact Nat.le_refl _); (case side3 => refine (Kd.R_reads' (e := 5) (base := w.heap.size) (ok := fun k_ => True) (n := y525.length) (c := co7) ?_).2.2; exact (by (with_reducible repeat (first | apply Kd.R_alloc | apply Kd.R_drewN | apply Kd.R_drew)); exact (Kd.R_mono (Kd.R_far (p := ⟨gb528, 10, none⟩) (Kd.R_far (p := ⟨gb528, 9, none⟩) (Kd.R_far (p := ⟨gb528, 8, none⟩) (Kd.R_far (p := ⟨gb528, 7, none⟩) (Kd.R_far (p := ⟨gb528, 6, none⟩) (Kd.R_far (p := ⟨gb528, 5, none⟩) (Kd.R_far (p := ⟨gb528, 4, none⟩) (Kd.R_far (p := ⟨gb528, 3, none⟩) (Kd.R_far (p := ⟨gb528, 2, none⟩) (Kd.R_far (p := ⟨gb528, 1, none⟩) (Kd.R_far (p := ⟨gb528, 0, none⟩) (Kd.R_types HO527.out BK528.out (by decide)) (fun _ hk => hk.2) (.int .u8 0)) (fun _ hk => hk.2) (.int .u16 7216)) (fun _ hk => hk.2) (.bool true)) (fun _ hk => hk.2) (.bool false)) (fun _ hk => hk.2) (.int .i64 0)) (fun _ hk => hk.2) (.int .u8 64)) (fun _ hk => hk.2) (.int .u8 6)) (fun _ hk => hk.2) (.int .u32 167838211)) (fun _ hk => hk.2) (.int .u32 167904004)) (fun _ hk => hk.2) (.slice none 0 0)) (fun _ hk => hk.2) (.slice Ao7 y525.length co7)) (fun _ h_ => h_.1)))); (case side4 => exact (Kd.R_reads' HO527.out).2.1); rintro e w10 ⟨v530, rfl, ho0, hb⟩; refine ⟨_, rfl, ?_⟩; have n0_ := Aside0.mk (Kd.R_elder' (by (with_reducible repeat (first | apply Kd.R_alloc | apply Kd.R_drewN | apply Kd.R_drew)); exact (Kd.R_mono (Kd.R_far (p := ⟨gb528, 10, none⟩) (Kd.R_far (p := ⟨gb528, 9, none⟩) (Kd.R_far (p := ⟨gb528, 8, none⟩) (Kd.R_far (p := ⟨gb528, 7, none⟩) (Kd.R_far (p := ⟨gb528, 6, none⟩) (Kd.R_far (p := ⟨gb528, 5, none⟩) (Kd.R_far (p := ⟨gb528, 4, none⟩) (Kd.R_far (p := ⟨gb528, 3, none⟩) (Kd.R_far (p := ⟨gb528, 2, none⟩) (Kd.R_far (p := ⟨gb528, 1, none⟩) (Kd.R_far (p := ⟨gb528, 0, none⟩) (Kd.R_types HO527.out BK528.out (by decide)) (fun _ hk => hk.2) (.int .u8 0)) (fun _ hk => hk.2) (.int .u16 7216)) (fun _ hk => hk.2) (.bool true)) (fun _ hk => hk.2) (.bool false)) (fun _ hk => hk.2) (.int .i64 0)) (fun _ hk => hk.2) (.int .u8 64)) (fun _ hk => hk.2) (.int .u8 6)) (fun _ hk => hk.2) (.int .u32 167838211)) (fun _ hk => hk.2) (.int .u32 167904004)) (fun _ hk => hk.2) (.slice none 0 0)) (fun _ hk => hk.2) (.slice Ao7 y525.length co7)) (fun _ h_ => h_.1))) (Kd.R_base ho0) hb); have n1_ := Aside0.mk (Kd.R_lower (Kd.R_new' ho0 (Kd.R_lt (by (with_reducible repeat (first | apply Kd.R_alloc | apply Kd.R_drewN | apply Kd.R_drew)); exact (Kd.R_mono (Kd.R_far (p := ⟨gb528, 10, none⟩) (Kd.R_far (p := ⟨gb528, 9, none⟩) (Kd.R_far (p := ⟨gb528, 8, none⟩) (Kd.R_far (p := ⟨gb528, 7, none⟩) (Kd.R_far (p := ⟨gb528, 6, none⟩) (Kd.R_far (p := ⟨gb528, 5, none⟩) (Kd.R_far (p := ⟨gb528, 4, none⟩) (Kd.R_far (p := ⟨gb528, 3, none⟩) (Kd.R_far (p := ⟨gb528, 2, none⟩) (Kd.R_far (p := ⟨gb528, 1, none⟩) (Kd.R_far (p := ⟨gb528, 0, none⟩) (Kd.R_types HO527.out BK528.out (by decide)) (fun _ hk => hk.2) (.int .u8 0)) (fun _ hk => hk.2) (.int .u16 7216)) (fun _ hk => hk.2) (.bool true)) (fun _ hk => hk.2) (.bool false)) (fun _ hk => hk.2) (.int .i64 0)) (fun _ hk => hk.2) (.int .u8 64)) (fun _ hk => hk.2) (.int .u8 6)) (fun _ hk => hk.2) (.int .u32 167838211)) (fun _ hk => hk.2) (.int .u32 167904004)) (fun _ hk => hk.2) (.slice none 0 0)) (fun _ hk => hk.2) (.slice Ao7 y525.length co7)) (fun _ h_ => h_.1))))) (below_size (by repeat (first | (with_reducible first | exact HB.out | apply below_alloc | apply pw_below_drewN | apply below_drew1 | refine below_set ?_ GE528.out) | exact HB.out)))); have n2_ := Aside0.mk (blk_below (g := gb528) (o := .cells #[.int .u8 0, .int .u16 7216, .bool true, .bool false, .int .i64 0, .int .u8 64, .int .u8 6, .int .u32 167838211, .int .u32 167904004, .slice none 0 0, .slice Ao7 y525.length co7] 33 (0, 0)) (by (with_reducible repeat (first | refine blk_drewN ?_ _ | refine blk_drew ?_ | refine blk_alloc ?_ _)); refine blk_put (cs := #[.int .u8 0, .int .u16 7216, .bool true, .bool false, .int .i64 0, .int .u8 64, .int .u8 6, .int .u32 167838211, .int .u32 167904004, .slice none 0 0, .slice none 0 0]) ?_ 10 _ rfl; (with_reducible repeat (first | refine blk_drewN ?_ _ | refine blk_drew ?_ | refine blk_alloc ?_ _)); refine blk_put (cs := #[.int .u8 0, .int .u16 7216, .bool true, .bool false, .int .i64 0, .int .u8 64, .int .u8 6, .int .u32 167838211, .int .u32 167904004, .slice none 0 0, .slice none 0 0]) ?_ 9 _ rfl; (with_reducible repeat (first | refine blk_drewN ?_ _ | refine blk_drew ?_ | refine blk_alloc ?_ _)); refine blk_put (cs := #[.int .u8 0, .int .u16 7216, .bool true, .bool false, .int .i64 0, .int .u8 64, .int .u8 6, .int .u32 167838211, .int .u32 0, .slice none 0 0, .slice none 0 0]) ?_ 8 _ rfl; (with_reducible repeat (first | refine blk_drewN ?_ _ | refine blk_drew ?_ | refine blk_alloc ?_ _)); refine blk_put (cs := #[.int .u8 0, .int .u16 7216, .bool true, .bool false, .int .i64 0, .int .u8 64, .int .u8 6, .int .u32 0, .int .u32 0, .slice none 0 0, .slice none 0 0]) ?_ 7 _ rfl; (with_reducible repeat (first | refine blk_drewN ?_ _ | refine blk_drew ?_ | refine blk_alloc ?_ _)); refine blk_put (cs := #[.int .u8 0, .int .u16 7216, .bool true, .bool false, .int .i64 0, .int .u8 64, .int .u8 0, .int .u32 0, .int .u32 0, .slice none 0 0, .slice none 0 0]) ?_ 6 _ rfl; (with_reducible repeat (first | refine blk_drewN ?_ _ | refine blk_drew ?_ | refine blk_alloc ?_ _)); refine blk_put (cs := #[.int .u8 0, .int .u16 7216, .bool true, .bool false, .int .i64 0, .int .u8 0, .int .u8 0, .int .u32 0, .int .u32 0, .slice none 0 0, .slice none 0 0]) ?_ 5 _ rfl; (with_reducible repeat (first | refine blk_drewN ?_ _ | refine blk_drew ?_ | refine blk_alloc ?_ _)); refine blk_put (cs := #[.int .u8 0, .int .u16 7216, .bool true, .bool false, .int .i64 0, .int .u8 0, .int .u8 0, .int .u32 0, .int .u32 0, .slice none 0 0, .slice none 0 0]) ?_ 4 _ rfl; (with_reducible repeat (first | refine blk_drewN ?_ _ | refine blk_drew ?_ | refine blk_alloc ?_ _)); refine blk_put (cs := #[.int .u8 0, .int .u16 7216, .bool true, .bool false, .int .i64 0, .int .u8 0, .int .u8 0, .int .u32 0, .int .u32 0, .slice none 0 0, .slice none 0 0]) ?_ 3 _ rfl; (with_reducible repeat (first | refine blk_drewN ?_ _ | refine blk_drew ?_ | refine blk_alloc ?_ _)); refine blk_put (cs := #[.int .u8 0, .int .u16 7216, .bool false, .bool false, .int .i64 0, .int .u8 0, .int .u8 0, .int .u32 0, .int .u32 0, .slice none 0 0, .slice none 0 0]) ?_ 2 _ rfl; (with_reducible repeat (first | refine blk_drewN ?_ _ | refine blk_drew ?_ | refine blk_alloc ?_ _)); refine blk_put (cs := #[.int .u8 0, .int .u16 0, .bool false, .bool false, .int .i64 0, .int .u8 0, .int .u8 0, .int .u32 0, .int .u32 0, .slice none 0 0, .slice none 0 0]) ?_ 1 _ rfl; (with_reducible repeat (first | refine blk_drewN ?_ _ | refine blk_drew ?_ | refine blk_alloc ?_ _)); refine blk_put (cs := #[.int .u8 0, .int .u16 0, .bool false, .bool false, .int .i64 0, .int .u8 0, .int .u8 0, .int .u32 0, .int .u32 0, .slice none 0 0, .slice none 0 0]) ?_ 0 _ rfl; first | (with_reducible exact BK528.out) | (with_reducible exact blk_drewN BK528.out _) | (with_reducible exact blk_drew BK528.out) | ((with_reducible repeat (first | refine blk_drewN ?_ _ | refine blk_drew ?_ | refine blk_alloc ?_ _)); exact BK528.out)) hb); have n3_ := Aside0.mk (below_step (by repeat (first | (with_reducible first | exact HB.out | apply below_alloc | apply pw_below_drewN | apply below_drew1 | refine below_set ?_ GE528.out) | exact HB.out)) hb); clear HO527; clear BK528; clear HB; have HO527 := n0_; have HO531 := n1_; have BK528 := n2_; have HB := n3_; clear n0_ n1_ n2_ n3_; (try clear hb); (try clear hb2); (try clear hk); (try clear hi); (try clear ho0)) | ((with_reducible refine gate_dst (N := 17) rfl ?_); refine Kd.R_lit (Kd.int .u8) _ 5 ?hg (N := 17) ?hd (xs := ([1] : List Int)) (inner := [.int .u8 1]) (ok := fun _ => True) (okp := fun _ => True) ?hr ?hp (fun _ hk => hk) trivial (Below.refl _ _) (Nat.le_refl _) (by simp) ?_; (case hd => rfl); (case hg => rfl); (case hr => first | (go_simp; done) | (go_simp; rfl)); (case hp => exact (Reps.one (show Kd.M (Kd.int .u8) _ _ _ 1 [.int .u8 1] from rfl) (Reps.none _ _))); intro v534 w11 ho12 hb hg_ hnew_; clear hg_ hnew_; (first | rw [← Ny533.out] at ho12 | (simp only [Int.reduceToNat] at ho12; rw [← Ny533.out] at ho12)); have n0_ := Aside0.mk (Kd.R_elder' (by (with_reducible repeat (first | apply Kd.R_alloc | apply Kd.R_drewN | apply Kd.R_drew)); exact HO527.out) (Kd.R_base ho12) hb); have n1_ := Aside0.mk (Kd.R_elder' (by (with_reducible repeat (first | apply Kd.R_alloc | apply Kd.R_drewN | apply Kd.R_drew)); exact HO531.out) (Kd.R_base ho12) hb); have n2_ := Aside0.mk (Kd.R_lower (Kd.R_new' (Kd.R_new' ho12 (Kd.R_lt (by (with_reducible repeat (first | apply Kd.R_alloc | apply Kd.R_drewN | apply Kd.R_drew)); exact HO527.out))) (Kd.R_lt (by (with_reducible repeat (first | apply Kd.R_alloc | apply Kd.R_drewN | apply Kd.R_drew)); exact HO531.out))) (below_size (by repeat (first | (with_reducible first | exact HB.out | apply below_alloc | apply pw_below_drewN | apply below_drew1 | refine below_set ?_ GE528.out) | exact HB.out)))); have n3_ := Aside0.mk (blk_below (g := gb528) (o := .cells #[.int .u8 0, .int .u16 7216, .bool true, .bool false, .int .i64 0, .int .u8 64, .int .u8 6, .int .u32 167838211, .int .u32 167904004, .slice none 0 0, .slice Ao7 y525.length co7] 33 (0, 0)) (by first | (with_reducible exact BK528.out) | (with_reducible exact blk_drewN BK528.out _) | (with_reducible exact blk_drew BK528.out) | ((with_reducible repeat (first | refine blk_drewN ?_ _ | refine blk_drew ?_ | refine blk_alloc ?_ _)); exact BK528.out)) hb); have n4_ := Aside0.mk (below_step (by repeat (first | (with_reducible first | exact HB.out | apply below_alloc | apply pw_below_drewN | apply below_drew1 | refine below_set ?_ GE528.out) | exact HB.out)) hb); clear HO527; clear HO531; clear BK528; clear HB; have HO527 := n0_; have HO531 := n1_; have HO535 := n2_; have BK528 := n3_; have HB := n4_; clear n0_ n1_ n2_ n3_ n4_; clear hb ho12) | ((with_reducible refine gate_dst (N := 18) rfl ?_); refine Kd.R_lit (Kd.int .u8) _ 5 ?hg (N := 18) ?hd (xs := ([2, 3] : List Int)) (inner := [.int .u8 2, .int .u8 3]) (ok := fun _ => True) (okp := fun _ => True) ?hr ?hp (fun _ hk => hk) trivial (Below.refl _ _) (Nat.le_refl _) (by simp) ?_; (case hd => rfl); (case hg => rfl); (case hr => first | (go_simp; done) | (go_simp; rfl)); (case hp => exact (Reps.one (show Kd.M (Kd.int .u8) _ _ _ 2 [.int .u8 2] from rfl) (Reps.one (show Kd.M (Kd.int .u8) _ _ _ 3 [.int .u8 3] from rfl) (Reps.none _ _)))); intro v537 w13 ho14 hb hg_ hnew_; clear hg_ hnew_; (first | rw [← Ny536.out] at ho14 | (simp only [Int.reduceToNat] at ho14; rw [← Ny536.out] at ho14)); have n0_ := Aside0.mk (Kd.R_elder' (by (with_reducible repeat (first | apply Kd.R_alloc | apply Kd.R_drewN | apply Kd.R_drew)); exact HO527.out) (Kd.R_base ho14) hb); have n1_ := Aside0.mk (Kd.R_elder' (by (with_reducible repeat (first | apply Kd.R_alloc | apply Kd.R_drewN | apply Kd.R_drew)); exact HO531.out) (Kd.R_base ho14) hb); have n2_ := Aside0.mk (Kd.R_elder' (by (with_reducible repeat (first | apply Kd.R_alloc | apply Kd.R_drewN | apply Kd.R_drew)); exact HO535.out) (Kd.R_base ho14) hb); have n3_ := Aside0.mk (Kd.R_lower (Kd.R_new' (Kd.R_new' (Kd.R_new' ho14 (Kd.R_lt (by (with_reducible repeat (first | apply Kd.R_alloc | apply Kd.R_drewN | apply Kd.R_drew)); exact HO527.out))) (Kd.R_lt (by (with_reducible repeat (first | apply Kd.R_alloc | apply Kd.R_drewN | apply Kd.R_drew)); exact HO531.out))) (Kd.R_lt (by (with_reducible repeat (first | apply Kd.R_alloc | apply Kd.R_drewN | apply Kd.R_drew)); exact HO535.out))) (below_size (by repeat (first | (with_reducible first | exact HB.out | apply below_alloc | apply pw_below_drewN | apply below_drew1 | refine below_set ?_ GE528.out) | exact HB.out)))); have n4_ := Aside0.mk (blk_below (g := gb528) (o := .cells #[.int .u8 0, .int .u16 7216, .bool true, .bool false, .int .i64 0, .int .u8 64, .int .u8 6, .int .u32 167838211, .int .u32 167904004, .slice none 0 0, .slice Ao7 y525.length co7] 33 (0, 0)) (by first | (with_reducible exact BK528.out) | (with_reducible exact blk_drewN BK528.out _) | (with_reducible exact blk_drew BK528.out) | ((with_reducible repeat (first | refine blk_drewN ?_ _ | refine blk_drew ?_ | refine blk_alloc ?_ _)); exact BK528.out)) hb); have n5_ := Aside0.mk (below_step (by repeat (first | (with_reducible first | exact HB.out | apply below_alloc | apply pw_below_drewN | apply below_drew1 | refine below_set ?_ GE528.out) | exact HB.out)) hb); clear HO527; clear HO531; clear HO535; clear BK528; clear HB; have HO527 := n0_; have HO531 := n1_; have HO535 := n2_; have HO538 := n3_; have BK528 := n4_; have HB := n5_; clear n0_ n1_ n2_ n3_ n4_ n5_; clear hb ho14; obtain ⟨Ao15, co15, eo15⟩ := Kd.R_slice HO535.out; subst eo15; obtain ⟨Ao16, co16, eo16⟩ := Kd.R_slice HO538.out; subst eo16) | ((with_reducible refine gate_dst (N := 19) rfl ?_); refine Kd.N_lit (Kd.slice 5 (Kd.int .u8)) _ 23 ?hg (N' := 19) ?hd (xs := ([y533, y536] : List (List Int))) (inner := [.slice Ao15 y533.length co15, .slice Ao16 y536.length co16]) (ok := (fun k_ => some k_ ≠ (.slice Ao7 y525.length co7 : Value).ownBlock ∧ some k_ ≠ (v530 : Value).ownBlock ∧ k_ ≠ gb528)) (okp := (fun k_ => some k_ ≠ (.slice Ao7 y525.length co7 : Value).ownBlock ∧ some k_ ≠ (v530 : Value).ownBlock ∧ k_ ≠ gb528)) ?hr ?hp (fun _ hk => hk) ((show ∀ k_, w13.heap.size ≤ k_ → (fun k_ => some k_ ≠ (.slice Ao7 y525.length co7 : Value).ownBlock ∧ some k_ ≠ (v530 : Value).ownBlock ∧ k_ ≠ gb528) k_ from fun k_ hk => ⟨Kd.fresh' (Kd.R_lt (by (with_reducible repeat (first | apply Kd.R_alloc | apply Kd.R_drewN | apply Kd.R_drew)); exact HO527.out)) k_ hk, Kd.fresh' (Kd.R_lt (by (with_reducible repeat (first | apply Kd.R_alloc | apply Kd.R_drewN | apply Kd.R_drew)); exact HO531.out)) k_ hk, Kd.freshB (g := gb528) (o := .cells #[.int .u8 0, .int .u16 7216, .bool true, .bool false, .int .i64 0, .int .u8 64, .int .u8 6, .int .u32 167838211, .int .u32 167904004, .slice none 0 0, .slice Ao7 y525.length co7] 33 (0, 0)) (by first | (with_reducible exact BK528.out) | (with_reducible exact blk_drewN BK528.out _) | (with_reducible exact blk_drew BK528.out) | ((with_reducible repeat (first | refine blk_drewN ?_ _ | refine blk_drew ?_ | refine blk_alloc ?_ _)); exact BK528.out)) k_ hk⟩) _ (Nat.le_refl _)) (Below.refl _ _) (Nat.le_refl _) (by simp) ?_; (case hd => rfl); (case hg => rfl); (case hr => first | (go_simp; done) | (go_simp; rfl)); (case hp => exact (Reps.one (show Kd.FK (Kd.slice 5 (Kd.int .u8)) _ _ y533 [.slice Ao15 y533.length co15] from (Kd.FK_slice_mk (Kd.R_reads' (Kd.R_mono (ok' := (fun k_ => some k_ ≠ (.slice Ao7 y525.length co7 : Value).ownBlock ∧ some k_ ≠ (v530 : Value).ownBlock ∧ k_ ≠ gb528)) (Kd.R_types (HO535.out) BK528.out (by decide)) (fun k_ hk => ⟨hk.1.1.1.2, ⟨hk.1.1.2, hk.2⟩⟩))).2.1 (Kd.R_F (Kd.R_mono (ok' := (fun k_ => some k_ ≠ (.slice Ao7 y525.length co7 : Value).ownBlock ∧ some k_ ≠ (v530 : Value).ownBlock ∧ k_ ≠ gb528)) (Kd.R_types (HO535.out) BK528.out (by decide)) (fun k_ hk => ⟨hk.1.1.1.2, ⟨hk.1.1.2, hk.2⟩⟩))))) (Reps.one (show Kd.FK (Kd.slice 5 (Kd.int .u8)) _ _ y536 [.slice Ao16 y536.length co16] from (Kd.FK_slice_mk (Kd.R_reads' (Kd.R_mono (ok' := (fun k_ => some k_ ≠ (.slice Ao7 y525.length co7 : Value).ownBlock ∧ some k_ ≠ (v530 : Value).ownBlock ∧ k_ ≠ gb528)) (Kd.R_types (HO538.out) BK528.out (by decide)) (fun k_ hk => ⟨hk.1.1.1.2, ⟨hk.1.1.2, hk.2⟩⟩))).2.1 (Kd.R_F (Kd.R_mono (ok' := (fun k_ => some k_ ≠ (.slice Ao7 y525.length co7 : Value).ownBlock ∧ some k_ ≠ (v530 : Value).ownBlock ∧ k_ ≠ gb528)) (Kd.R_types (HO538.out) BK528.out (by decide)) (fun k_ hk => ⟨hk.1.1.1.2, ⟨hk.1.1.2, hk.2⟩⟩))))) (Reps.none _ _)))); intro v540 w17 ho18 hb hg_ hnew_; clear hg_ hnew_; (first | rw [← Ny539.out] at ho18 | (simp only [Int.reduceToNat] at ho18; rw [← Ny539.out] at ho18)); have n0_ := Aside0.mk (Kd.R_below (by (with_reducible repeat (first | apply Kd.R_alloc | apply Kd.R_drewN | apply Kd.R_drew)); exact HO527.out) hb); have n1_ := Aside0.mk (Kd.R_below (by (with_reducible repeat (first | apply Kd.R_alloc | apply Kd.R_drewN | apply Kd.R_drew)); exact HO531.out) hb); have n2_ := Aside0.mk (Kd.N_lower ho18 (below_size (by repeat (first | (with_reducible first | exact HB.out | apply below_alloc | apply pw_below_drewN | apply below_drew1 | refine below_set ?_ GE528.out) | exact HB.out)))); have n3_ := Aside0.mk (blk_below (g := gb528) (o := .cells #[.int .u8 0, .int .u16 7216, .bool true, .bool false, .int .i64 0, .int .u8 64, .int .u8 6, .int .u32 167838211, .int .u32 167904004, .slice none 0 0, .slice Ao7 y525.length co7] 33 (0, 0)) (by first | (with_reducible exact BK528.out) | (with_reducible exact blk_drewN BK528.out _) | (with_reducible exact blk_drew BK528.out) | ((with_reducible repeat (first | refine blk_drewN ?_ _ | refine blk_drew ?_ | refine blk_alloc ?_ _)); exact BK528.out)) hb); have n4_ := Aside0.mk (below_step (by repeat (first | (with_reducible first | exact HB.out | apply below_alloc | apply pw_below_drewN | apply below_drew1 | refine below_set ?_ GE528.out) | exact HB.out)) hb); clear HO527; clear HO531; clear BK528; clear HB; clear HO535; clear HO538; have HO527 := n0_; have HO531 := n1_; have HO541 := n2_; have BK528 := n3_; have HB := n4_; clear n0_ n1_ n2_ n3_ n4_; clear hb ho18; obtain ⟨Ao19, co19, eo19⟩ := Kd.N_slice HO541.out; subst eo19) | ((with_reducible refine gate_callee (f := 24) rfl ?_); refine goesL_ (some 21) rfl rfl Try.func24 (by kernel_rfl) rfl #[.agg #[.int .i64 1, .slice none 0 0, .slice Ao19 y539.length co19, .int .u16 0, .int .u16 0, .int .u16 0, .int .u8 0, .int .u16 0, .bool false, .bool false, .int .i64 0, .int .u8 0, .int .u8 0, .int .u32 0, .int .u32 0, .slice none 0 0, .slice none 0 0]] rfl (by (try simp only [List.map_toArray, List.map_cons, List.map_nil]); first | done | rfl | (simp only [List.length_drop, List.length_take]; rfl)) ?_; (refine (weftlaw3_plays.calls k 1 _ _ ([] : List Int) _ _ y539 0 0 0 0 0 false false 0 0 0 0 0 _ _ ([] : List Int) _ _ ([] : List Int) t542 _ ?side1 ?side2 ?side3 ?side4 ?side5 ?side6 ?side7 ?side8 A4.out).mono ?_); (case side1 => exact Kd.C_nil _ _); (case side2 => exact Nat.le_refl _); (case side3 => repeat (first | exact (Kd.N_reads' HO541.out).2.2 | (with_reducible refine Kd.C_alloc ?_ _) | (with_reducible refine Kd.C_drewN ?_ _) | (with_reducible refine Kd.C_drew ?_))); (case side4 => exact (Kd.N_reads' HO541.out).2.1); (case side5 => exact Kd.C_nil _ _); (case side6 => exact Nat.le_refl _); (case side7 => exact Kd.C_nil _ _); (case side8 => exact Nat.le_refl _); rintro e w20 ⟨rfl, hb⟩; refine ⟨_, rfl, ?_⟩; have n0_ := Aside0.mk (Kd.R_below (by (with_reducible repeat (first | apply Kd.R_alloc | apply Kd.R_drewN | apply Kd.R_drew)); exact HO527.out) hb); have n1_ := Aside0.mk (Kd.R_below (by (with_reducible repeat (first | apply Kd.R_alloc | apply Kd.R_drewN | apply Kd.R_drew)); exact HO531.out) hb); have n2_ := Aside0.mk (Kd.N_below (by (with_reducible repeat (first | apply Kd.N_alloc | apply Kd.N_drewN | apply Kd.N_drew)); exact HO541.out) hb); have n3_ := Aside0.mk (blk_below (g := gb528) (o := .cells #[.int .u8 0, .int .u16 7216, .bool true, .bool false, .int .i64 0, .int .u8 64, .int .u8 6, .int .u32 167838211, .int .u32 167904004, .slice none 0 0, .slice Ao7 y525.length co7] 33 (0, 0)) (by first | (with_reducible exact BK528.out) | (with_reducible exact blk_drewN BK528.out _) | (with_reducible exact blk_drew BK528.out) | ((with_reducible repeat (first | refine blk_drewN ?_ _ | refine blk_drew ?_ | refine blk_alloc ?_ _)); exact BK528.out)) hb); have n4_ := Aside0.mk (below_step (by repeat (first | (with_reducible first | exact HB.out | apply below_alloc | apply pw_below_drewN | apply below_drew1 | refine below_set ?_ GE528.out) | exact HB.out)) hb); clear HO527; clear HO531; clear HO541; clear BK528; clear HB; have HO527 := n0_; have HO531 := n1_; have HO541 := n2_; have BK528 := n3_; have HB := n4_; clear n0_ n1_ n2_ n3_ n4_; (try clear hb); (try clear hb2); (try clear hk); (try clear hi)))
    go_ret
    exact ⟨by first | rfl | (simp [errW_none, errW_some] <;> rfl) | (simp [*, errW_none, errW_some] <;> rfl), by repeat (first | (with_reducible first | exact HB.out | apply below_alloc | apply pw_below_drewN | apply below_drew1 | refine below_set ?_ GE528.out) | exact HB.out)⟩
  · rw [if_neg c3] at H
    exact absurd H (by simp)

/-! ### weftlaw3_upTo: function 17 -/
mutual
def weftlaw3_upTo.l0 : Nat → List (S50) → Int → Int → Int → Option (Bool)
  | 0, _, _, _, _ => none
  | k + 1, x0, x1, x2, x7 => if x7 ≤ x2 then ((weftlaw3_head.f k x7).bind fun t543 => (if t543 = true then (weftlaw3_upTo.l0 k x0 x1 x2 (wrap64 (x7 + 1))) else (some false))) else (weftlaw3_upTo.l1 k x0 x1 x2 0)
def weftlaw3_upTo.l1 : Nat → List (S50) → Int → Int → Int → Option (Bool)
  | 0, _, _, _, _ => none
  | k + 1, x0, x1, x2, x8 => if x8 < (x0.length : Int) then (if 0 ≤ x8 then (if ((rd_T50 x0 x8).f0) ≥ x1 then (if ((rd_T50 x0 x8).f0) ≤ x2 then ((weftlaw3_plays.f k ((rd_T50 x0 x8).f0) ((rd_T50 x0 x8).f1) ((rd_T50 x0 x8).f2) ((rd_T50 x0 x8).f3) ((rd_T50 x0 x8).f4) ((rd_T50 x0 x8).f5) ((rd_T50 x0 x8).f6.f0.f0) ((rd_T50 x0 x8).f6.f0.f1) ((rd_T50 x0 x8).f6.f0.f2) ((rd_T50 x0 x8).f6.f0.f3) ((rd_T50 x0 x8).f6.f0.f4) ((rd_T50 x0 x8).f6.f0.f5) ((rd_T50 x0 x8).f6.f0.f6) ((rd_T50 x0 x8).f6.f0.f7) ((rd_T50 x0 x8).f6.f0.f8) ((rd_T50 x0 x8).f6.f0.f9) ((rd_T50 x0 x8).f6.f1)).bind fun t546 => (if t546 = true then (weftlaw3_upTo.l1 k x0 x1 x2 (wrap64 (x8 + 1))) else (some false))) else (weftlaw3_upTo.l1 k x0 x1 x2 (wrap64 (x8 + 1)))) else (weftlaw3_upTo.l1 k x0 x1 x2 (wrap64 (x8 + 1)))) else (none)) else (some true)
end
def weftlaw3_upTo.f (k : Nat) (l0 : List (S50)) (a1 : Int) (a2 : Int) : Option (Bool) := weftlaw3_upTo.l0 k l0 a1 a2 a1
theorem weftlaw3_upTo.mono_l : ∀ k, (∀ y0 y1 y2 y3, LeO (weftlaw3_upTo.l0 k y0 y1 y2 y3) (weftlaw3_upTo.l0 (k + 1) y0 y1 y2 y3)) ∧ (∀ y0 y1 y2 y3, LeO (weftlaw3_upTo.l1 k y0 y1 y2 y3) (weftlaw3_upTo.l1 (k + 1) y0 y1 y2 y3))
  | 0 => ⟨fun _ _ _ _ r h => by simp [weftlaw3_upTo.l0] at h, fun _ _ _ _ r h => by simp [weftlaw3_upTo.l1] at h⟩
  | k + 1 => by
    obtain ⟨ih0, ih1⟩ := weftlaw3_upTo.mono_l k
    refine ⟨?_, ?_⟩
    · intro y0 y1 y2 y3
      unfold weftlaw3_upTo.l0
      repeat' first
      | (with_reducible exact ih0 _ _ _ _)
      | (with_reducible exact ih1 _ _ _ _)
      | (with_reducible exact weftlaw3_head.mono _ _)
      | (with_reducible exact weftlaw3_plays.mono _ _ _ _ _ _ _ _ _ _ _ _ _ _ _ _ _ _)
      | (with_reducible exact LeO.refl _)
      | (with_reducible exact LeO.none _)
      | (with_reducible refine LeO.ite ?_ ?_)
      | (with_reducible refine LeO.bind ?_ (fun _ => ?_))
      | exact ih0 _ _ _ _
      | exact ih1 _ _ _ _
      | exact weftlaw3_head.mono _ _
      | exact weftlaw3_plays.mono _ _ _ _ _ _ _ _ _ _ _ _ _ _ _ _ _ _
      | exact LeO.none _
      | refine LeO.ite ?_ ?_
      | refine LeO.bind ?_ (fun _ => ?_)
    · intro y0 y1 y2 y3
      unfold weftlaw3_upTo.l1
      repeat' first
      | (with_reducible exact ih0 _ _ _ _)
      | (with_reducible exact ih1 _ _ _ _)
      | (with_reducible exact weftlaw3_head.mono _ _)
      | (with_reducible exact weftlaw3_plays.mono _ _ _ _ _ _ _ _ _ _ _ _ _ _ _ _ _ _)
      | (with_reducible exact LeO.refl _)
      | (with_reducible exact LeO.none _)
      | (with_reducible refine LeO.ite ?_ ?_)
      | (with_reducible refine LeO.bind ?_ (fun _ => ?_))
      | exact ih0 _ _ _ _
      | exact ih1 _ _ _ _
      | exact weftlaw3_head.mono _ _
      | exact weftlaw3_plays.mono _ _ _ _ _ _ _ _ _ _ _ _ _ _ _ _ _ _
      | exact LeO.none _
      | refine LeO.ite ?_ ?_
      | refine LeO.bind ?_ (fun _ => ?_)
theorem weftlaw3_upTo.mono : ∀ a0 a1 a2 k, LeO (weftlaw3_upTo.f k a0 a1 a2) (weftlaw3_upTo.f (k + 1) a0 a1 a2) := by
  intro a0 a1 a2 k
  obtain ⟨ih0, ih1⟩ := weftlaw3_upTo.mono_l k
  unfold weftlaw3_upTo.f
  repeat' first
      | (with_reducible exact ih0 _ _ _ _)
      | (with_reducible exact ih1 _ _ _ _)
      | (with_reducible exact weftlaw3_head.mono _ _)
      | (with_reducible exact weftlaw3_plays.mono _ _ _ _ _ _ _ _ _ _ _ _ _ _ _ _ _ _)
      | (with_reducible exact LeO.refl _)
      | (with_reducible exact LeO.none _)
      | (with_reducible refine LeO.ite ?_ ?_)
      | (with_reducible refine LeO.bind ?_ (fun _ => ?_))
      | exact ih0 _ _ _ _
      | exact ih1 _ _ _ _
      | exact weftlaw3_head.mono _ _
      | exact weftlaw3_plays.mono _ _ _ _ _ _ _ _ _ _ _ _ _ _ _ _ _ _
      | exact LeO.none _
      | refine LeO.ite ?_ ?_
      | refine LeO.bind ?_ (fun _ => ?_)
set_option maxHeartbeats 8000000 in
set_option maxRecDepth 100000 in
theorem weftlaw3_upTo.calls (k : Nat) (A0 : Option Addr) (c0 : Nat) (l0 : List (S50)) (a1 : Int) (a2 : Int) (r : Bool) (w : World) (hr0 : Kd.C k50 w A0 l0.length l0) (hc0 : l0.length ≤ c0) (h : weftlaw3_upTo.f k l0 a1 a2 = some r) :
    Calls Try.prog 17 #[.slice A0 l0.length c0, .int .i64 a1, .int .i64 a2] w fun e w' => e = .returned (.bool r) ∧ Below w.heap.size w w' := by
  have hu50 := Try.underlying50
  have HR0 := Aside0.mk hr0
  have HC0 := Aside0.mk hc0
  clear hr0 hc0
  have HB := Aside0.mk (Below.refl w.heap.size w)
  have H : (weftlaw3_upTo.l0 k l0 a1 a2 a1) = some r := h
  clear h
  have H' := Aside0.mk H
  clear H
  go_enter Try.func17, Try.ntmps17
  go_wp2
  go_loopg [7] k (fun kq v7 w' => ∃ (x7_1 : Int), v7 = .int .i64 x7_1 ∧ Aside0 (weftlaw3_upTo.l0 kq l0 a1 a2 x7_1 = some r) ∧ Aside0 (kq ≤ k) ∧ Aside0 (Below w.heap.size w w'))
  case atStart => exact ⟨(a1), (by first | rfl | (simp; done) | (simp [*]; done)), H', ⟨Nat.le_refl _⟩, ⟨by repeat (first | (with_reducible first | exact HB.out | apply below_alloc | apply pw_below_drewN | apply below_drew1) | exact HB.out)⟩⟩
  case round =>
    clear H'
    try clear c1
    try clear p2
    obtain ⟨x7_1, rfl, HA, HK1, HB⟩ := hrel
    cases gk with
    | zero => exact absurd HA.out (by simp [weftlaw3_upTo.l0])
    | succ k1 =>
      have H := HA.out
      clear HA
      simp only [weftlaw3_upTo.l0] at H
      by_cases c4 : x7_1 ≤ a2
      · rw [if_pos c4] at H
        have c4b0 : decide (x7_1 ≤ a2) = true := decide_eq_true c4
        clear c4
        replace H := Option.bind_eq_some_iff.mp H
        obtain ⟨t543, A50, H⟩ := H
        replace H : (if t543 = true then (weftlaw3_upTo.l0 k1 l0 a1 a2 (wrap64 (x7_1 + 1))) else (some false)) = some r := H
        have A5 := Aside0.mk A50
        clear A50
        by_cases c6 : t543 = true
        · subst c6
          have H1 : (weftlaw3_upTo.l0 k1 l0 a1 a2 (wrap64 (x7_1 + 1))) = some r := by rw [if_pos rfl] at H; exact H
          clear H
          have H := H1
          clear H1
          have H' := Aside0.mk H
          clear H
          go_wp2_with (first | ((with_reducible refine gate_callee (f := 23) rfl ?_); refine goesL_ (some 17) rfl rfl Try.func23 (by kernel_rfl) rfl #[.int .i64 x7_1] rfl (by (try simp only [List.map_toArray, List.map_cons, List.map_nil]); first | done | rfl | (simp only [List.length_drop, List.length_take]; rfl)) ?_; (with_reducible refine (weftlaw3_head.calls k1 x7_1 true _ A5.out).mono ?_); rintro e w7 ⟨rfl, hb⟩; refine ⟨_, rfl, ?_⟩; have n0_ := Aside0.mk (below_step (by repeat (first | (with_reducible first | exact HB.out | apply below_alloc | apply pw_below_drewN | apply below_drew1) | exact HB.out)) hb); clear HB; have HB := n0_; clear n0_; (try clear hb); (try clear hb2); (try clear hk); (try clear hi)))
          go_roundg k1
          case measure => have := HK1.out; omega
          case rel => exact ⟨(wrap64 (x7_1 + 1)), (by first | rfl | (simp; done) | (simp [*]; done)), H', ⟨by have := HK1.out; omega⟩, ⟨by repeat (first | (with_reducible first | exact HB.out | apply below_alloc | apply pw_below_drewN | apply below_drew1) | exact HB.out)⟩⟩
        · replace c6 := Bool.eq_false_iff.mpr c6
          subst c6
          have H1 : (some false) = some r := by rw [if_neg (show ¬ (false = true) by decide)] at H; exact H
          clear H
          have H := H1
          clear H1
          obtain rfl := Option.some.inj H
          go_wp2_with (first | ((with_reducible refine gate_callee (f := 23) rfl ?_); refine goesL_ (some 17) rfl rfl Try.func23 (by kernel_rfl) rfl #[.int .i64 x7_1] rfl (by (try simp only [List.map_toArray, List.map_cons, List.map_nil]); first | done | rfl | (simp only [List.length_drop, List.length_take]; rfl)) ?_; (with_reducible refine (weftlaw3_head.calls k1 x7_1 false _ A5.out).mono ?_); rintro e w8 ⟨rfl, hb⟩; refine ⟨_, rfl, ?_⟩; have n0_ := Aside0.mk (below_step (by repeat (first | (with_reducible first | exact HB.out | apply below_alloc | apply pw_below_drewN | apply below_drew1) | exact HB.out)) hb); clear HB; have HB := n0_; clear n0_; (try clear hb); (try clear hb2); (try clear hk); (try clear hi)))
          go_ret
          exact ⟨by first | rfl | (simp [errW_none, errW_some] <;> rfl) | (simp [*, errW_none, errW_some] <;> rfl), by repeat (first | (with_reducible first | exact HB.out | apply below_alloc | apply pw_below_drewN | apply below_drew1) | exact HB.out)⟩
      · rw [if_neg c4] at H
        have c4b0 : decide (x7_1 ≤ a2) = false := decide_eq_false c4
        clear c4
        have H' := Aside0.mk H
        clear H
        go_wp2
        go_loopg [8] k1 (fun kq v8 w' => ∃ (x8_2 : Int), v8 = .int .i64 x8_2 ∧ Aside0 (weftlaw3_upTo.l1 kq l0 a1 a2 x8_2 = some r) ∧ Aside0 (kq ≤ k1) ∧ Aside0 (Below w.heap.size w w'))
        case atStart => exact ⟨(0), (by first | rfl | (simp; done) | (simp [*]; done)), H', ⟨Nat.le_refl _⟩, ⟨by repeat (first | (with_reducible first | exact HB.out | apply below_alloc | apply pw_below_drewN | apply below_drew1) | exact HB.out)⟩⟩
        case round =>
          clear H'
          try clear c1
          try clear c2
          try clear p2
          try clear c4
          try clear c4b0
          try clear c6
          try clear p6
          try clear p2
          obtain ⟨x8_2, rfl, HA, HK2, HB⟩ := hrel
          cases gk with
          | zero => exact absurd HA.out (by simp [weftlaw3_upTo.l1])
          | succ k2 =>
            have H := HA.out
            clear HA
            simp only [weftlaw3_upTo.l1] at H
            by_cases c9 : x8_2 < (l0.length : Int)
            · rw [if_pos c9] at H
              have c9b0 : decide (x8_2 < (l0.length : Int)) = true := decide_eq_true c9
              clear c9
              by_cases c10 : 0 ≤ x8_2
              · rw [if_pos c10] at H
                have c10b0 : decide (0 ≤ x8_2) = true := decide_eq_true c10
                clear c10
                have p544 : 0 ≤ (x8_2 : Int) := of_decide_eq_true (by first | (with_reducible assumption) | assumption)
                have q544 : x8_2 < (l0.length : Int) := of_decide_eq_true (by first | (with_reducible assumption) | assumption)
                obtain ⟨ad544, A544_1, c544_1, A544_2, c544_2, A544_15, c544_15, A544_16, c544_16, e544, hx544_0, hx544_1, hx544_2, hx544_3, hx544_4, hx544_5, hx544_6, hx544_7, hx544_8, hx544_9, hx544_10, hx544_11, hx544_12, hx544_13, hx544_14, hx544_15, hx544_16, hl544_1, hi544_1, hl544_2, hi544_2, hl544_15, hi544_15, hl544_16, hi544_16⟩ := at_T50 HR0.out x8_2 p544 q544
                cases e544
                generalize hX544 : rd_T50 l0 x8_2 = X544 at *
                replace hx544_0 := (HB.out.cell (World.block_lt_of_cell? w _ hx544_0)).trans hx544_0
                replace hx544_1 := (HB.out.cell (World.block_lt_of_cell? w _ hx544_1)).trans hx544_1
                replace hx544_2 := (HB.out.cell (World.block_lt_of_cell? w _ hx544_2)).trans hx544_2
                replace hx544_3 := (HB.out.cell (World.block_lt_of_cell? w _ hx544_3)).trans hx544_3
                replace hx544_4 := (HB.out.cell (World.block_lt_of_cell? w _ hx544_4)).trans hx544_4
                replace hx544_5 := (HB.out.cell (World.block_lt_of_cell? w _ hx544_5)).trans hx544_5
                replace hx544_6 := (HB.out.cell (World.block_lt_of_cell? w _ hx544_6)).trans hx544_6
                replace hx544_7 := (HB.out.cell (World.block_lt_of_cell? w _ hx544_7)).trans hx544_7
                replace hx544_8 := (HB.out.cell (World.block_lt_of_cell? w _ hx544_8)).trans hx544_8
                replace hx544_9 := (HB.out.cell (World.block_lt_of_cell? w _ hx544_9)).trans hx544_9
                replace hx544_10 := (HB.out.cell (World.block_lt_of_cell? w _ hx544_10)).trans hx544_10
                replace hx544_11 := (HB.out.cell (World.block_lt_of_cell? w _ hx544_11)).trans hx544_11
                replace hx544_12 := (HB.out.cell (World.block_lt_of_cell? w _ hx544_12)).trans hx544_12
                replace hx544_13 := (HB.out.cell (World.block_lt_of_cell? w _ hx544_13)).trans hx544_13
                replace hx544_14 := (HB.out.cell (World.block_lt_of_cell? w _ hx544_14)).trans hx544_14
                replace hx544_15 := (HB.out.cell (World.block_lt_of_cell? w _ hx544_15)).trans hx544_15
                replace hx544_16 := (HB.out.cell (World.block_lt_of_cell? w _ hx544_16)).trans hx544_16
                have HR544_1 := Aside0.mk hi544_1
                have HC544_1 := Aside0.mk hl544_1
                clear hi544_1 hl544_1
                have HR544_2 := Aside0.mk hi544_2
                have HC544_2 := Aside0.mk hl544_2
                clear hi544_2 hl544_2
                have HR544_15 := Aside0.mk hi544_15
                have HC544_15 := Aside0.mk hl544_15
                clear hi544_15 hl544_15
                have HR544_16 := Aside0.mk hi544_16
                have HC544_16 := Aside0.mk hl544_16
                clear hi544_16 hl544_16
                replace p544 := eq_true p544
                replace q544 := eq_true q544
                go_upto_region 10 with (first | ((with_reducible refine gate_dst (N := 9) rfl ?_); refine box_event ?hg (N := 9) ?hd (cs := #[.int .i64 0, .slice none 0 0, .slice none 0 0, .int .u16 0, .int .u16 0, .int .u16 0, .int .u8 0, .int .u16 0, .bool false, .bool false, .int .i64 0, .int .u8 0, .int .u8 0, .int .u32 0, .int .u32 0, .slice none 0 0, .slice none 0 0]) (t := 50) ?hr ?_; (case hd => rfl); (case hg => rfl); (case hr => first | (go_simp; done) | (go_simp; rfl)); intro gb545 hg w29 hbox hb; have n0_ := Aside0.mk (below_step (by repeat (first | (with_reducible first | exact HB.out | apply below_alloc | apply pw_below_drewN | apply below_drew1) | exact HB.out)) hb); have n1_ := Aside0.mk (hbox); have n2_ := Aside0.mk ((by rw [hg]; exact (below_size (by repeat (first | (with_reducible first | exact HB.out | apply below_alloc | apply pw_below_drewN | apply below_drew1) | exact HB.out))) : w.heap.size ≤ gb545)); have n3_ := Aside0.mk ((by rw [hg]; exact (below_size (by repeat (first | (with_reducible first | exact HB.out | apply below_alloc | apply pw_below_drewN | apply below_drew1) | exact HB.out))) : w.heap.size ≤ gb545)); clear HB; have HB := n0_; have BK545 := n1_; have GW545 := n2_; have GE545 := n3_; clear n0_ n1_ n2_ n3_; clear hb hbox hg; have hcz30_0 : w29.cell? ⟨gb545, 0, none⟩ = some (.int .i64 0) := (blk_cell BK545.out 0).trans rfl; have hcz30_1 : w29.cell? ⟨gb545, 1, none⟩ = some (.slice none 0 0) := (blk_cell BK545.out 1).trans rfl; have hcz30_2 : w29.cell? ⟨gb545, 2, none⟩ = some (.slice none 0 0) := (blk_cell BK545.out 2).trans rfl; have hcz30_3 : w29.cell? ⟨gb545, 3, none⟩ = some (.int .u16 0) := (blk_cell BK545.out 3).trans rfl; have hcz30_4 : w29.cell? ⟨gb545, 4, none⟩ = some (.int .u16 0) := (blk_cell BK545.out 4).trans rfl; have hcz30_5 : w29.cell? ⟨gb545, 5, none⟩ = some (.int .u16 0) := (blk_cell BK545.out 5).trans rfl; have hcz30_6 : w29.cell? ⟨gb545, 6, none⟩ = some (.int .u8 0) := (blk_cell BK545.out 6).trans rfl; have hcz30_7 : w29.cell? ⟨gb545, 7, none⟩ = some (.int .u16 0) := (blk_cell BK545.out 7).trans rfl; have hcz30_8 : w29.cell? ⟨gb545, 8, none⟩ = some (.bool false) := (blk_cell BK545.out 8).trans rfl; have hcz30_9 : w29.cell? ⟨gb545, 9, none⟩ = some (.bool false) := (blk_cell BK545.out 9).trans rfl; have hcz30_10 : w29.cell? ⟨gb545, 10, none⟩ = some (.int .i64 0) := (blk_cell BK545.out 10).trans rfl; have hcz30_11 : w29.cell? ⟨gb545, 11, none⟩ = some (.int .u8 0) := (blk_cell BK545.out 11).trans rfl; have hcz30_12 : w29.cell? ⟨gb545, 12, none⟩ = some (.int .u8 0) := (blk_cell BK545.out 12).trans rfl; have hcz30_13 : w29.cell? ⟨gb545, 13, none⟩ = some (.int .u32 0) := (blk_cell BK545.out 13).trans rfl; have hcz30_14 : w29.cell? ⟨gb545, 14, none⟩ = some (.int .u32 0) := (blk_cell BK545.out 14).trans rfl; have hcz30_15 : w29.cell? ⟨gb545, 15, none⟩ = some (.slice none 0 0) := (blk_cell BK545.out 15).trans rfl; have hcz30_16 : w29.cell? ⟨gb545, 16, none⟩ = some (.slice none 0 0) := (blk_cell BK545.out 16).trans rfl; have hfz30_0 := blk_frozen BK545.out 0; have hfz30_1 := blk_frozen BK545.out 1; have hfz30_2 := blk_frozen BK545.out 2; have hfz30_3 := blk_frozen BK545.out 3; have hfz30_4 := blk_frozen BK545.out 4; have hfz30_5 := blk_frozen BK545.out 5; have hfz30_6 := blk_frozen BK545.out 6; have hfz30_7 := blk_frozen BK545.out 7; have hfz30_8 := blk_frozen BK545.out 8; have hfz30_9 := blk_frozen BK545.out 9; have hfz30_10 := blk_frozen BK545.out 10; have hfz30_11 := blk_frozen BK545.out 11; have hfz30_12 := blk_frozen BK545.out 12; have hfz30_13 := blk_frozen BK545.out 13; have hfz30_14 := blk_frozen BK545.out 14; have hfz30_15 := blk_frozen BK545.out 15; have hfz30_16 := blk_frozen BK545.out 16) | ((with_reducible refine gate_store (t := 50) (p := 9) rfl ?_); refine store_event (t := 50) (p := 9) (v := ?vo_w31) (w1 := (((((((((((((((((w29.setCell ⟨gb545, 0, none⟩ (.int .i64 (X544.f0))).setCell ⟨gb545, 1, none⟩ (.slice A544_1 (X544.f1).length c544_1)).setCell ⟨gb545, 2, none⟩ (.slice A544_2 (X544.f2).length c544_2)).setCell ⟨gb545, 3, none⟩ (.int .u16 (X544.f3))).setCell ⟨gb545, 4, none⟩ (.int .u16 (X544.f4))).setCell ⟨gb545, 5, none⟩ (.int .u16 (X544.f5))).setCell ⟨gb545, 6, none⟩ (.int .u8 (X544.f6.f0.f0))).setCell ⟨gb545, 7, none⟩ (.int .u16 (X544.f6.f0.f1))).setCell ⟨gb545, 8, none⟩ (.bool (X544.f6.f0.f2))).setCell ⟨gb545, 9, none⟩ (.bool (X544.f6.f0.f3))).setCell ⟨gb545, 10, none⟩ (.int .i64 (X544.f6.f0.f4))).setCell ⟨gb545, 11, none⟩ (.int .u8 (X544.f6.f0.f5))).setCell ⟨gb545, 12, none⟩ (.int .u8 (X544.f6.f0.f6))).setCell ⟨gb545, 13, none⟩ (.int .u32 (X544.f6.f0.f7))).setCell ⟨gb545, 14, none⟩ (.int .u32 (X544.f6.f0.f8))).setCell ⟨gb545, 15, none⟩ (.slice A544_15 (X544.f6.f0.f9).length c544_15)).setCell ⟨gb545, 16, none⟩ (.slice A544_16 (X544.f6.f1).length c544_16))) ?hg ?ho ?hn ?hr ?_; (case ho => rfl); (case hg => rfl); (case hn => rfl); (case hr => first | (go_simp; done) | (go_simp; rfl)); intro w31 hw; have n0_ : Aside0 (w31.heap[gb545]? = some (.cells #[.int .i64 (X544.f0), .slice A544_1 (X544.f1).length c544_1, .slice A544_2 (X544.f2).length c544_2, .int .u16 (X544.f3), .int .u16 (X544.f4), .int .u16 (X544.f5), .int .u8 (X544.f6.f0.f0), .int .u16 (X544.f6.f0.f1), .bool (X544.f6.f0.f2), .bool (X544.f6.f0.f3), .int .i64 (X544.f6.f0.f4), .int .u8 (X544.f6.f0.f5), .int .u8 (X544.f6.f0.f6), .int .u32 (X544.f6.f0.f7), .int .u32 (X544.f6.f0.f8), .slice A544_15 (X544.f6.f0.f9).length c544_15, .slice A544_16 (X544.f6.f1).length c544_16] 50 (0, 0))) := ⟨(by rw [hw]; exact (by (with_reducible repeat (first | refine blk_drewN ?_ _ | refine blk_drew ?_ | refine blk_alloc ?_ _)); refine blk_put (cs := #[.int .i64 (X544.f0), .slice A544_1 (X544.f1).length c544_1, .slice A544_2 (X544.f2).length c544_2, .int .u16 (X544.f3), .int .u16 (X544.f4), .int .u16 (X544.f5), .int .u8 (X544.f6.f0.f0), .int .u16 (X544.f6.f0.f1), .bool (X544.f6.f0.f2), .bool (X544.f6.f0.f3), .int .i64 (X544.f6.f0.f4), .int .u8 (X544.f6.f0.f5), .int .u8 (X544.f6.f0.f6), .int .u32 (X544.f6.f0.f7), .int .u32 (X544.f6.f0.f8), .slice A544_15 (X544.f6.f0.f9).length c544_15, .slice none 0 0]) ?_ 16 _ rfl; (with_reducible repeat (first | refine blk_drewN ?_ _ | refine blk_drew ?_ | refine blk_alloc ?_ _)); refine blk_put (cs := #[.int .i64 (X544.f0), .slice A544_1 (X544.f1).length c544_1, .slice A544_2 (X544.f2).length c544_2, .int .u16 (X544.f3), .int .u16 (X544.f4), .int .u16 (X544.f5), .int .u8 (X544.f6.f0.f0), .int .u16 (X544.f6.f0.f1), .bool (X544.f6.f0.f2), .bool (X544.f6.f0.f3), .int .i64 (X544.f6.f0.f4), .int .u8 (X544.f6.f0.f5), .int .u8 (X544.f6.f0.f6), .int .u32 (X544.f6.f0.f7), .int .u32 (X544.f6.f0.f8), .slice none 0 0, .slice none 0 0]) ?_ 15 _ rfl; (with_reducible repeat (first | refine blk_drewN ?_ _ | refine blk_drew ?_ | refine blk_alloc ?_ _)); refine blk_put (cs := #[.int .i64 (X544.f0), .slice A544_1 (X544.f1).length c544_1, .slice A544_2 (X544.f2).length c544_2, .int .u16 (X544.f3), .int .u16 (X544.f4), .int .u16 (X544.f5), .int .u8 (X544.f6.f0.f0), .int .u16 (X544.f6.f0.f1), .bool (X544.f6.f0.f2), .bool (X544.f6.f0.f3), .int .i64 (X544.f6.f0.f4), .int .u8 (X544.f6.f0.f5), .int .u8 (X544.f6.f0.f6), .int .u32 (X544.f6.f0.f7), .int .u32 0, .slice none 0 0, .slice none 0 0]) ?_ 14 _ rfl; (with_reducible repeat (first | refine blk_drewN ?_ _ | refine blk_drew ?_ | refine blk_alloc ?_ _)); refine blk_put (cs := #[.int .i64 (X544.f0), .slice A544_1 (X544.f1).length c544_1, .slice A544_2 (X544.f2).length c544_2, .int .u16 (X544.f3), .int .u16 (X544.f4), .int .u16 (X544.f5), .int .u8 (X544.f6.f0.f0), .int .u16 (X544.f6.f0.f1), .bool (X544.f6.f0.f2), .bool (X544.f6.f0.f3), .int .i64 (X544.f6.f0.f4), .int .u8 (X544.f6.f0.f5), .int .u8 (X544.f6.f0.f6), .int .u32 0, .int .u32 0, .slice none 0 0, .slice none 0 0]) ?_ 13 _ rfl; (with_reducible repeat (first | refine blk_drewN ?_ _ | refine blk_drew ?_ | refine blk_alloc ?_ _)); refine blk_put (cs := #[.int .i64 (X544.f0), .slice A544_1 (X544.f1).length c544_1, .slice A544_2 (X544.f2).length c544_2, .int .u16 (X544.f3), .int .u16 (X544.f4), .int .u16 (X544.f5), .int .u8 (X544.f6.f0.f0), .int .u16 (X544.f6.f0.f1), .bool (X544.f6.f0.f2), .bool (X544.f6.f0.f3), .int .i64 (X544.f6.f0.f4), .int .u8 (X544.f6.f0.f5), .int .u8 0, .int .u32 0, .int .u32 0, .slice none 0 0, .slice none 0 0]) ?_ 12 _ rfl; (with_reducible repeat (first | refine blk_drewN ?_ _ | refine blk_drew ?_ | refine blk_alloc ?_ _)); refine blk_put (cs := #[.int .i64 (X544.f0), .slice A544_1 (X544.f1).length c544_1, .slice A544_2 (X544.f2).length c544_2, .int .u16 (X544.f3), .int .u16 (X544.f4), .int .u16 (X544.f5), .int .u8 (X544.f6.f0.f0), .int .u16 (X544.f6.f0.f1), .bool (X544.f6.f0.f2), .bool (X544.f6.f0.f3), .int .i64 (X544.f6.f0.f4), .int .u8 0, .int .u8 0, .int .u32 0, .int .u32 0, .slice none 0 0, .slice none 0 0]) ?_ 11 _ rfl; (with_reducible repeat (first | refine blk_drewN ?_ _ | refine blk_drew ?_ | refine blk_alloc ?_ _)); refine blk_put (cs := #[.int .i64 (X544.f0), .slice A544_1 (X544.f1).length c544_1, .slice A544_2 (X544.f2).length c544_2, .int .u16 (X544.f3), .int .u16 (X544.f4), .int .u16 (X544.f5), .int .u8 (X544.f6.f0.f0), .int .u16 (X544.f6.f0.f1), .bool (X544.f6.f0.f2), .bool (X544.f6.f0.f3), .int .i64 0, .int .u8 0, .int .u8 0, .int .u32 0, .int .u32 0, .slice none 0 0, .slice none 0 0]) ?_ 10 _ rfl; (with_reducible repeat (first | refine blk_drewN ?_ _ | refine blk_drew ?_ | refine blk_alloc ?_ _)); refine blk_put (cs := #[.int .i64 (X544.f0), .slice A544_1 (X544.f1).length c544_1, .slice A544_2 (X544.f2).length c544_2, .int .u16 (X544.f3), .int .u16 (X544.f4), .int .u16 (X544.f5), .int .u8 (X544.f6.f0.f0), .int .u16 (X544.f6.f0.f1), .bool (X544.f6.f0.f2), .bool false, .int .i64 0, .int .u8 0, .int .u8 0, .int .u32 0, .int .u32 0, .slice none 0 0, .slice none 0 0]) ?_ 9 _ rfl; (with_reducible repeat (first | refine blk_drewN ?_ _ | refine blk_drew ?_ | refine blk_alloc ?_ _)); refine blk_put (cs := #[.int .i64 (X544.f0), .slice A544_1 (X544.f1).length c544_1, .slice A544_2 (X544.f2).length c544_2, .int .u16 (X544.f3), .int .u16 (X544.f4), .int .u16 (X544.f5), .int .u8 (X544.f6.f0.f0), .int .u16 (X544.f6.f0.f1), .bool false, .bool false, .int .i64 0, .int .u8 0, .int .u8 0, .int .u32 0, .int .u32 0, .slice none 0 0, .slice none 0 0]) ?_ 8 _ rfl; (with_reducible repeat (first | refine blk_drewN ?_ _ | refine blk_drew ?_ | refine blk_alloc ?_ _)); refine blk_put (cs := #[.int .i64 (X544.f0), .slice A544_1 (X544.f1).length c544_1, .slice A544_2 (X544.f2).length c544_2, .int .u16 (X544.f3), .int .u16 (X544.f4), .int .u16 (X544.f5), .int .u8 (X544.f6.f0.f0), .int .u16 0, .bool false, .bool false, .int .i64 0, .int .u8 0, .int .u8 0, .int .u32 0, .int .u32 0, .slice none 0 0, .slice none 0 0]) ?_ 7 _ rfl; (with_reducible repeat (first | refine blk_drewN ?_ _ | refine blk_drew ?_ | refine blk_alloc ?_ _)); refine blk_put (cs := #[.int .i64 (X544.f0), .slice A544_1 (X544.f1).length c544_1, .slice A544_2 (X544.f2).length c544_2, .int .u16 (X544.f3), .int .u16 (X544.f4), .int .u16 (X544.f5), .int .u8 0, .int .u16 0, .bool false, .bool false, .int .i64 0, .int .u8 0, .int .u8 0, .int .u32 0, .int .u32 0, .slice none 0 0, .slice none 0 0]) ?_ 6 _ rfl; (with_reducible repeat (first | refine blk_drewN ?_ _ | refine blk_drew ?_ | refine blk_alloc ?_ _)); refine blk_put (cs := #[.int .i64 (X544.f0), .slice A544_1 (X544.f1).length c544_1, .slice A544_2 (X544.f2).length c544_2, .int .u16 (X544.f3), .int .u16 (X544.f4), .int .u16 0, .int .u8 0, .int .u16 0, .bool false, .bool false, .int .i64 0, .int .u8 0, .int .u8 0, .int .u32 0, .int .u32 0, .slice none 0 0, .slice none 0 0]) ?_ 5 _ rfl; (with_reducible repeat (first | refine blk_drewN ?_ _ | refine blk_drew ?_ | refine blk_alloc ?_ _)); refine blk_put (cs := #[.int .i64 (X544.f0), .slice A544_1 (X544.f1).length c544_1, .slice A544_2 (X544.f2).length c544_2, .int .u16 (X544.f3), .int .u16 0, .int .u16 0, .int .u8 0, .int .u16 0, .bool false, .bool false, .int .i64 0, .int .u8 0, .int .u8 0, .int .u32 0, .int .u32 0, .slice none 0 0, .slice none 0 0]) ?_ 4 _ rfl; (with_reducible repeat (first | refine blk_drewN ?_ _ | refine blk_drew ?_ | refine blk_alloc ?_ _)); refine blk_put (cs := #[.int .i64 (X544.f0), .slice A544_1 (X544.f1).length c544_1, .slice A544_2 (X544.f2).length c544_2, .int .u16 0, .int .u16 0, .int .u16 0, .int .u8 0, .int .u16 0, .bool false, .bool false, .int .i64 0, .int .u8 0, .int .u8 0, .int .u32 0, .int .u32 0, .slice none 0 0, .slice none 0 0]) ?_ 3 _ rfl; (with_reducible repeat (first | refine blk_drewN ?_ _ | refine blk_drew ?_ | refine blk_alloc ?_ _)); refine blk_put (cs := #[.int .i64 (X544.f0), .slice A544_1 (X544.f1).length c544_1, .slice none 0 0, .int .u16 0, .int .u16 0, .int .u16 0, .int .u8 0, .int .u16 0, .bool false, .bool false, .int .i64 0, .int .u8 0, .int .u8 0, .int .u32 0, .int .u32 0, .slice none 0 0, .slice none 0 0]) ?_ 2 _ rfl; (with_reducible repeat (first | refine blk_drewN ?_ _ | refine blk_drew ?_ | refine blk_alloc ?_ _)); refine blk_put (cs := #[.int .i64 (X544.f0), .slice none 0 0, .slice none 0 0, .int .u16 0, .int .u16 0, .int .u16 0, .int .u8 0, .int .u16 0, .bool false, .bool false, .int .i64 0, .int .u8 0, .int .u8 0, .int .u32 0, .int .u32 0, .slice none 0 0, .slice none 0 0]) ?_ 1 _ rfl; (with_reducible repeat (first | refine blk_drewN ?_ _ | refine blk_drew ?_ | refine blk_alloc ?_ _)); refine blk_put (cs := #[.int .i64 0, .slice none 0 0, .slice none 0 0, .int .u16 0, .int .u16 0, .int .u16 0, .int .u8 0, .int .u16 0, .bool false, .bool false, .int .i64 0, .int .u8 0, .int .u8 0, .int .u32 0, .int .u32 0, .slice none 0 0, .slice none 0 0]) ?_ 0 _ rfl; first | (with_reducible exact BK545.out) | (with_reducible exact blk_drewN BK545.out _) | (with_reducible exact blk_drew BK545.out) | ((with_reducible repeat (first | refine blk_drewN ?_ _ | refine blk_drew ?_ | refine blk_alloc ?_ _)); exact BK545.out)))⟩; have n1_ : Aside0 (Below w.heap.size w w31) := ⟨(by rw [hw]; exact (by repeat (first | (with_reducible first | exact HB.out | apply below_alloc | apply pw_below_drewN | apply below_drew1 | refine below_set ?_ GE545.out) | exact HB.out)))⟩; clear hw; clear BK545; clear HB; have BK545 := n0_; have HB := n1_; clear n0_ n1_; have hcz32_0 : w31.cell? ⟨gb545, 0, none⟩ = some (.int .i64 (X544.f0)) := (blk_cell BK545.out 0).trans rfl; have hcz32_1 : w31.cell? ⟨gb545, 1, none⟩ = some (.slice A544_1 (X544.f1).length c544_1) := (blk_cell BK545.out 1).trans rfl; have hcz32_2 : w31.cell? ⟨gb545, 2, none⟩ = some (.slice A544_2 (X544.f2).length c544_2) := (blk_cell BK545.out 2).trans rfl; have hcz32_3 : w31.cell? ⟨gb545, 3, none⟩ = some (.int .u16 (X544.f3)) := (blk_cell BK545.out 3).trans rfl; have hcz32_4 : w31.cell? ⟨gb545, 4, none⟩ = some (.int .u16 (X544.f4)) := (blk_cell BK545.out 4).trans rfl; have hcz32_5 : w31.cell? ⟨gb545, 5, none⟩ = some (.int .u16 (X544.f5)) := (blk_cell BK545.out 5).trans rfl; have hcz32_6 : w31.cell? ⟨gb545, 6, none⟩ = some (.int .u8 (X544.f6.f0.f0)) := (blk_cell BK545.out 6).trans rfl; have hcz32_7 : w31.cell? ⟨gb545, 7, none⟩ = some (.int .u16 (X544.f6.f0.f1)) := (blk_cell BK545.out 7).trans rfl; have hcz32_8 : w31.cell? ⟨gb545, 8, none⟩ = some (.bool (X544.f6.f0.f2)) := (blk_cell BK545.out 8).trans rfl; have hcz32_9 : w31.cell? ⟨gb545, 9, none⟩ = some (.bool (X544.f6.f0.f3)) := (blk_cell BK545.out 9).trans rfl; have hcz32_10 : w31.cell? ⟨gb545, 10, none⟩ = some (.int .i64 (X544.f6.f0.f4)) := (blk_cell BK545.out 10).trans rfl; have hcz32_11 : w31.cell? ⟨gb545, 11, none⟩ = some (.int .u8 (X544.f6.f0.f5)) := (blk_cell BK545.out 11).trans rfl; have hcz32_12 : w31.cell? ⟨gb545, 12, none⟩ = some (.int .u8 (X544.f6.f0.f6)) := (blk_cell BK545.out 12).trans rfl; have hcz32_13 : w31.cell? ⟨gb545, 13, none⟩ = some (.int .u32 (X544.f6.f0.f7)) := (blk_cell BK545.out 13).trans rfl; have hcz32_14 : w31.cell? ⟨gb545, 14, none⟩ = some (.int .u32 (X544.f6.f0.f8)) := (blk_cell BK545.out 14).trans rfl; have hcz32_15 : w31.cell? ⟨gb545, 15, none⟩ = some (.slice A544_15 (X544.f6.f0.f9).length c544_15) := (blk_cell BK545.out 15).trans rfl; have hcz32_16 : w31.cell? ⟨gb545, 16, none⟩ = some (.slice A544_16 (X544.f6.f1).length c544_16) := (blk_cell BK545.out 16).trans rfl; have hfz32_0 := blk_frozen BK545.out 0; have hfz32_1 := blk_frozen BK545.out 1; have hfz32_2 := blk_frozen BK545.out 2; have hfz32_3 := blk_frozen BK545.out 3; have hfz32_4 := blk_frozen BK545.out 4; have hfz32_5 := blk_frozen BK545.out 5; have hfz32_6 := blk_frozen BK545.out 6; have hfz32_7 := blk_frozen BK545.out 7; have hfz32_8 := blk_frozen BK545.out 8; have hfz32_9 := blk_frozen BK545.out 9; have hfz32_10 := blk_frozen BK545.out 10; have hfz32_11 := blk_frozen BK545.out 11; have hfz32_12 := blk_frozen BK545.out 12; have hfz32_13 := blk_frozen BK545.out 13; have hfz32_14 := blk_frozen BK545.out 14; have hfz32_15 := blk_frozen BK545.out 15; have hfz32_16 := blk_frozen BK545.out 16))
                by_cases c11 : (X544.f0) ≥ a1
                · rw [if_pos c11] at H
                  have c11b0 : decide (a1 ≤ (X544.f0)) = true := decide_eq_true c11
                  clear c11
                  (first | rw [c11b0] | (simp only [i64_w, i32_w]; rw [c11b0]) | skip)
                  by_cases c12 : (X544.f0) ≤ a2
                  · rw [if_pos c12] at H
                    have c12b0 : decide ((X544.f0) ≤ a2) = true := decide_eq_true c12
                    clear c12
                    replace H := Option.bind_eq_some_iff.mp H
                    obtain ⟨t546, A130, H⟩ := H
                    replace H : (if t546 = true then (weftlaw3_upTo.l1 k2 l0 a1 a2 (wrap64 (x8_2 + 1))) else (some false)) = some r := H
                    have A13 := Aside0.mk A130
                    clear A130
                    by_cases c14 : t546 = true
                    · subst c14
                      have H1 : (weftlaw3_upTo.l1 k2 l0 a1 a2 (wrap64 (x8_2 + 1))) = some r := by rw [if_pos rfl] at H; exact H
                      clear H
                      have H := H1
                      clear H1
                      have H' := Aside0.mk H
                      clear H
                      go_wp2_with (first | ((with_reducible refine gate_dst (N := 40) rfl ?_); (try (refine gate_guard (by rfl) ?_; dsimp only)); refine wpList_load_row rfl 50 (.tmp 9) rfl gb545 ?hx 50 _ _ _ BK545.out Try.underlying50 rfl (by kernel_rfl) ?_; (case hx => rfl)) | (go_at_call 24; (with_reducible refine (weftlaw3_plays.calls k2 (X544.f0) _ _ (X544.f1) _ _ (X544.f2) (X544.f3) (X544.f4) (X544.f5) (X544.f6.f0.f0) (X544.f6.f0.f1) (X544.f6.f0.f2) (X544.f6.f0.f3) (X544.f6.f0.f4) (X544.f6.f0.f5) (X544.f6.f0.f6) (X544.f6.f0.f7) (X544.f6.f0.f8) _ _ (X544.f6.f0.f9) _ _ (X544.f6.f1) true _ ?side1 ?side2 ?side3 ?side4 ?side5 ?side6 ?side7 ?side8 A13.out).mono ?_); (case side1 => repeat (first | exact (Kd.C_below HR544_1.out HB.out) | (with_reducible refine Kd.C_alloc ?_ _) | (with_reducible refine Kd.C_drewN ?_ _) | (with_reducible refine Kd.C_drew ?_))); (case side2 => exact HC544_1.out); (case side3 => repeat (first | exact (Kd.C_below HR544_2.out HB.out) | (with_reducible refine Kd.C_alloc ?_ _) | (with_reducible refine Kd.C_drewN ?_ _) | (with_reducible refine Kd.C_drew ?_))); (case side4 => exact HC544_2.out); (case side5 => repeat (first | exact (Kd.C_below HR544_15.out HB.out) | (with_reducible refine Kd.C_alloc ?_ _) | (with_reducible refine Kd.C_drewN ?_ _) | (with_reducible refine Kd.C_drew ?_))); (case side6 => exact HC544_15.out); (case side7 => repeat (first | exact (Kd.C_below HR544_16.out HB.out) | (with_reducible refine Kd.C_alloc ?_ _) | (with_reducible refine Kd.C_drewN ?_ _) | (with_reducible refine Kd.C_drew ?_))); (case side8 => exact HC544_16.out); rintro e w19 ⟨rfl, hb⟩; have n0_ := Aside0.mk (blk_below (g := gb545) (o := .cells #[.int .i64 (X544.f0), .slice A544_1 (X544.f1).length c544_1, .slice A544_2 (X544.f2).length c544_2, .int .u16 (X544.f3), .int .u16 (X544.f4), .int .u16 (X544.f5), .int .u8 (X544.f6.f0.f0), .int .u16 (X544.f6.f0.f1), .bool (X544.f6.f0.f2), .bool (X544.f6.f0.f3), .int .i64 (X544.f6.f0.f4), .int .u8 (X544.f6.f0.f5), .int .u8 (X544.f6.f0.f6), .int .u32 (X544.f6.f0.f7), .int .u32 (X544.f6.f0.f8), .slice A544_15 (X544.f6.f0.f9).length c544_15, .slice A544_16 (X544.f6.f1).length c544_16] 50 (0, 0)) (by first | (with_reducible exact BK545.out) | (with_reducible exact blk_drewN BK545.out _) | (with_reducible exact blk_drew BK545.out) | ((with_reducible repeat (first | refine blk_drewN ?_ _ | refine blk_drew ?_ | refine blk_alloc ?_ _)); exact BK545.out)) hb); have n1_ := Aside0.mk (below_step (by repeat (first | (with_reducible first | exact HB.out | apply below_alloc | apply pw_below_drewN | apply below_drew1 | refine below_set ?_ GE545.out) | exact HB.out)) hb); clear BK545; clear HB; have BK545 := n0_; have HB := n1_; clear n0_ n1_; (try clear hb); (try clear hb2); (try clear hk); (try clear hi)))
                      go_roundg k2
                      case measure => have := HK1.out; have := HK2.out; omega
                      case rel => exact ⟨(wrap64 (x8_2 + 1)), (by first | rfl | (simp; done) | (simp [*]; done)), H', ⟨by have := HK1.out; have := HK2.out; omega⟩, ⟨by repeat (first | (with_reducible first | exact HB.out | apply below_alloc | apply pw_below_drewN | apply below_drew1 | refine below_set ?_ GE545.out) | exact HB.out)⟩⟩
                    · replace c14 := Bool.eq_false_iff.mpr c14
                      subst c14
                      have H1 : (some false) = some r := by rw [if_neg (show ¬ (false = true) by decide)] at H; exact H
                      clear H
                      have H := H1
                      clear H1
                      obtain rfl := Option.some.inj H
                      go_wp2_with (first | ((with_reducible refine gate_dst (N := 40) rfl ?_); (try (refine gate_guard (by rfl) ?_; dsimp only)); refine wpList_load_row rfl 50 (.tmp 9) rfl gb545 ?hx 50 _ _ _ BK545.out Try.underlying50 rfl (by kernel_rfl) ?_; (case hx => rfl)) | (go_at_call 24; (with_reducible refine (weftlaw3_plays.calls k2 (X544.f0) _ _ (X544.f1) _ _ (X544.f2) (X544.f3) (X544.f4) (X544.f5) (X544.f6.f0.f0) (X544.f6.f0.f1) (X544.f6.f0.f2) (X544.f6.f0.f3) (X544.f6.f0.f4) (X544.f6.f0.f5) (X544.f6.f0.f6) (X544.f6.f0.f7) (X544.f6.f0.f8) _ _ (X544.f6.f0.f9) _ _ (X544.f6.f1) false _ ?side1 ?side2 ?side3 ?side4 ?side5 ?side6 ?side7 ?side8 A13.out).mono ?_); (case side1 => repeat (first | exact (Kd.C_below HR544_1.out HB.out) | (with_reducible refine Kd.C_alloc ?_ _) | (with_reducible refine Kd.C_drewN ?_ _) | (with_reducible refine Kd.C_drew ?_))); (case side2 => exact HC544_1.out); (case side3 => repeat (first | exact (Kd.C_below HR544_2.out HB.out) | (with_reducible refine Kd.C_alloc ?_ _) | (with_reducible refine Kd.C_drewN ?_ _) | (with_reducible refine Kd.C_drew ?_))); (case side4 => exact HC544_2.out); (case side5 => repeat (first | exact (Kd.C_below HR544_15.out HB.out) | (with_reducible refine Kd.C_alloc ?_ _) | (with_reducible refine Kd.C_drewN ?_ _) | (with_reducible refine Kd.C_drew ?_))); (case side6 => exact HC544_15.out); (case side7 => repeat (first | exact (Kd.C_below HR544_16.out HB.out) | (with_reducible refine Kd.C_alloc ?_ _) | (with_reducible refine Kd.C_drewN ?_ _) | (with_reducible refine Kd.C_drew ?_))); (case side8 => exact HC544_16.out); rintro e w24 ⟨rfl, hb⟩; have n0_ := Aside0.mk (blk_below (g := gb545) (o := .cells #[.int .i64 (X544.f0), .slice A544_1 (X544.f1).length c544_1, .slice A544_2 (X544.f2).length c544_2, .int .u16 (X544.f3), .int .u16 (X544.f4), .int .u16 (X544.f5), .int .u8 (X544.f6.f0.f0), .int .u16 (X544.f6.f0.f1), .bool (X544.f6.f0.f2), .bool (X544.f6.f0.f3), .int .i64 (X544.f6.f0.f4), .int .u8 (X544.f6.f0.f5), .int .u8 (X544.f6.f0.f6), .int .u32 (X544.f6.f0.f7), .int .u32 (X544.f6.f0.f8), .slice A544_15 (X544.f6.f0.f9).length c544_15, .slice A544_16 (X544.f6.f1).length c544_16] 50 (0, 0)) (by first | (with_reducible exact BK545.out) | (with_reducible exact blk_drewN BK545.out _) | (with_reducible exact blk_drew BK545.out) | ((with_reducible repeat (first | refine blk_drewN ?_ _ | refine blk_drew ?_ | refine blk_alloc ?_ _)); exact BK545.out)) hb); have n1_ := Aside0.mk (below_step (by repeat (first | (with_reducible first | exact HB.out | apply below_alloc | apply pw_below_drewN | apply below_drew1 | refine below_set ?_ GE545.out) | exact HB.out)) hb); clear BK545; clear HB; have BK545 := n0_; have HB := n1_; clear n0_ n1_; (try clear hb); (try clear hb2); (try clear hk); (try clear hi)))
                      go_ret
                      exact ⟨by first | rfl | (simp [errW_none, errW_some] <;> rfl) | (simp [*, errW_none, errW_some] <;> rfl), by repeat (first | (with_reducible first | exact HB.out | apply below_alloc | apply pw_below_drewN | apply below_drew1 | refine below_set ?_ GE545.out) | exact HB.out)⟩
                  · rw [if_neg c12] at H
                    have c12b0 : decide ((X544.f0) ≤ a2) = false := decide_eq_false c12
                    clear c12
                    have H' := Aside0.mk H
                    clear H
                    go_wp2
                    go_roundg k2
                    case measure => have := HK1.out; have := HK2.out; omega
                    case rel => exact ⟨(wrap64 (x8_2 + 1)), (by first | rfl | (simp; done) | (simp [*]; done)), H', ⟨by have := HK1.out; have := HK2.out; omega⟩, ⟨by repeat (first | (with_reducible first | exact HB.out | apply below_alloc | apply pw_below_drewN | apply below_drew1 | refine below_set ?_ GE545.out) | exact HB.out)⟩⟩
                · rw [if_neg c11] at H
                  have c11b0 : decide (a1 ≤ (X544.f0)) = false := decide_eq_false c11
                  clear c11
                  (first | rw [c11b0] | (simp only [i64_w, i32_w]; rw [c11b0]) | skip)
                  have H' := Aside0.mk H
                  clear H
                  go_wp2
                  go_roundg k2
                  case measure => have := HK1.out; have := HK2.out; omega
                  case rel => exact ⟨(wrap64 (x8_2 + 1)), (by first | rfl | (simp; done) | (simp [*]; done)), H', ⟨by have := HK1.out; have := HK2.out; omega⟩, ⟨by repeat (first | (with_reducible first | exact HB.out | apply below_alloc | apply pw_below_drewN | apply below_drew1 | refine below_set ?_ GE545.out) | exact HB.out)⟩⟩
              · rw [if_neg c10] at H
                exact absurd H (by simp)
            · rw [if_neg c9] at H
              have c9b0 : decide (x8_2 < (l0.length : Int)) = false := decide_eq_false c9
              clear c9
              obtain rfl := Option.some.inj H
              go_wp2
              go_ret
              exact ⟨by first | rfl | (simp [errW_none, errW_some] <;> rfl) | (simp [*, errW_none, errW_some] <;> rfl), by repeat (first | (with_reducible first | exact HB.out | apply below_alloc | apply pw_below_drewN | apply below_drew1) | exact HB.out)⟩

/-! ### weftlaw3_Ip4Sums: function 5 -/
def weftlaw3_Ip4Sums.f (k : Nat) (l0 : List (S50)) : Option (Bool) := (weftlaw3_upTo.f k l0 1 1).bind fun t547 => (some t547)
theorem weftlaw3_Ip4Sums.mono : ∀ a0 k, LeO (weftlaw3_Ip4Sums.f k a0) (weftlaw3_Ip4Sums.f (k + 1) a0) := by
  intro a0 k
  unfold weftlaw3_Ip4Sums.f
  repeat' first
      | (with_reducible exact weftlaw3_upTo.mono _ _ _ _)
      | (with_reducible exact LeO.refl _)
      | (with_reducible exact LeO.none _)
      | (with_reducible refine LeO.ite ?_ ?_)
      | (with_reducible refine LeO.bind ?_ (fun _ => ?_))
      | exact weftlaw3_upTo.mono _ _ _ _
      | exact LeO.none _
      | refine LeO.ite ?_ ?_
      | refine LeO.bind ?_ (fun _ => ?_)
set_option maxHeartbeats 8000000 in
set_option maxRecDepth 100000 in
theorem weftlaw3_Ip4Sums.calls (k : Nat) (A0 : Option Addr) (c0 : Nat) (l0 : List (S50)) (r : Bool) (w : World) (hr0 : Kd.C k50 w A0 l0.length l0) (hc0 : l0.length ≤ c0) (h : weftlaw3_Ip4Sums.f k l0 = some r) :
    Calls Try.prog 5 #[.slice A0 l0.length c0] w fun e w' => e = .returned (.bool r) ∧ Below w.heap.size w w' := by
  have HR0 := Aside0.mk hr0
  have HC0 := Aside0.mk hc0
  clear hr0 hc0
  have HB := Aside0.mk (Below.refl w.heap.size w)
  have H : ((weftlaw3_upTo.f k l0 1 1).bind fun t547 => (some t547)) = some r := h
  clear h
  replace H := Option.bind_eq_some_iff.mp H
  obtain ⟨t547, A20, H⟩ := H
  replace H : (some t547) = some r := H
  have A2 := Aside0.mk A20
  clear A20
  obtain rfl := Option.some.inj H
  go_enter Try.func5, Try.ntmps5
  go_wp2_with (first | ((with_reducible refine gate_callee (f := 17) rfl ?_); refine goesL_ (some 4) rfl rfl Try.func17 (by kernel_rfl) rfl #[.slice A0 l0.length c0, .int .i64 1, .int .i64 1] rfl (by (try simp only [List.map_toArray, List.map_cons, List.map_nil]); first | done | rfl | (simp only [List.length_drop, List.length_take]; rfl)) ?_; (with_reducible refine (weftlaw3_upTo.calls k _ _ l0 1 1 t547 _ ?side1 ?side2 A2.out).mono ?_); (case side1 => repeat (first | exact HR0.out | (with_reducible refine Kd.C_alloc ?_ _) | (with_reducible refine Kd.C_drewN ?_ _) | (with_reducible refine Kd.C_drew ?_))); (case side2 => exact HC0.out); rintro e w3 ⟨rfl, hb⟩; refine ⟨_, rfl, ?_⟩; have n0_ := Aside0.mk (below_step (by repeat (first | (with_reducible first | exact HB.out | apply below_alloc | apply pw_below_drewN | apply below_drew1) | exact HB.out)) hb); clear HB; have HB := n0_; clear n0_; (try clear hb); (try clear hb2); (try clear hk); (try clear hi)))
  go_ret
  exact ⟨by first | rfl | (simp [errW_none, errW_some] <;> rfl) | (simp [*, errW_none, errW_some] <;> rfl), by repeat (first | (with_reducible first | exact HB.out | apply below_alloc | apply pw_below_drewN | apply below_drew1) | exact HB.out)⟩
end Go.Proofs.Ytmjhfkjnnpnoaaa.XV1
