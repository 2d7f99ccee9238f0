-- printed by a program of this session (wip/xprint), out of the translation; Lean checks it
import Derived.Test.YtmjhfkjnnpnoaaaQIXAx0
import Derived.Test.YtmjhfkjnnpnoaaaQIXAx12
import Derived.Test.YtmjhfkjnnpnoaaaQIXAx15
import Derived.Test.YtmjhfkjnnpnoaaaQIXAx7
namespace Go.Proofs.Ytmjhfkjnnpnoaaa.XV6
open Go.RowKit Go.Proofs.Ytmjhfkjnnpnoaaa.XA Go.Proofs.YtmjhfkjnnpnoaaaW.PrintWords Go.Proofs.YtmjhfkjnnpnoaaaW.PrintLast Go.Proofs.YtmjhfkjnnpnoaaaW.PrintMore Go.Proofs.YtmjhfkjnnpnoaaaX
attribute [local go_sem] max2_int min2_int max_two min_two max_three min_three max_four min_four   -- for this text's walks alone
set_option linter.unusedVariables false
set_option linter.unusedSimpArgs false

/-! ### weftlaw3_plays: function 24 -/
def weftlaw3_plays.j0 : Nat → Int → Bool → Int → List Int → List (List Int) → Int → Int → Int → Int → Int → Bool → Bool → Int → Int → Int → Int → Int → List Int → List Int → Option (Bool)
  | 0, _, _, _, _, _, _, _, _, _, _, _, _, _, _, _, _, _, _, _ => none
  | k + 1, x26, x27, x526000, x526001, x526002, x526003, x526004, x526005, x526006, x526007, x526008, x526009, x526010, x526011, x526012, x526013, x526014, x526015, x526016 => if x27 = true then (none) else (if x26 = 3 then (none) else (if x26 = 4 then (none) else (if x26 = 5 then (none) else (if x26 = 6 then ((ip4_Age.f k x526001).bind fun bt526 => ((weftref3_Age.f k x526001).bind fun bt530 => (if bt526.2 = bt530.2 then ((weftlaw3_same.f k bt526.1 bt530.1).bind fun t534 => (some t534)) else (some false)))) else (none)))))
def weftlaw3_plays.f (k : Nat) (a0_0 : Int) (l0_1 : List Int) (l0_2 : List (List Int)) (a0_3 : Int) (a0_4 : Int) (a0_5 : Int) (a0_6 : Int) (a0_7 : Int) (a0_8 : Bool) (a0_9 : Bool) (a0_10 : Int) (a0_11 : Int) (a0_12 : Int) (a0_13 : Int) (a0_14 : Int) (l0_15 : List Int) (l0_16 : List Int) : Option (Bool) := if a0_0 = 1 then (weftlaw3_plays.j0 k a0_0 (a0_0 == 1) a0_0 l0_1 l0_2 a0_3 a0_4 a0_5 a0_6 a0_7 a0_8 a0_9 a0_10 a0_11 a0_12 a0_13 a0_14 l0_15 l0_16) else (weftlaw3_plays.j0 k a0_0 (a0_0 == 2) a0_0 l0_1 l0_2 a0_3 a0_4 a0_5 a0_6 a0_7 a0_8 a0_9 a0_10 a0_11 a0_12 a0_13 a0_14 l0_15 l0_16)
theorem weftlaw3_plays.mono_l : ∀ k, (∀ y0 y1 y2 y3 y4 y5 y6 y7 y8 y9 y10 y11 y12 y13 y14 y15 y16 y17 y18, LeO (weftlaw3_plays.j0 k y0 y1 y2 y3 y4 y5 y6 y7 y8 y9 y10 y11 y12 y13 y14 y15 y16 y17 y18) (weftlaw3_plays.j0 (k + 1) y0 y1 y2 y3 y4 y5 y6 y7 y8 y9 y10 y11 y12 y13 y14 y15 y16 y17 y18))
  | 0 => fun _ _ _ _ _ _ _ _ _ _ _ _ _ _ _ _ _ _ _ r h => by simp [weftlaw3_plays.j0] at h
  | k + 1 => by
    have ih0 := weftlaw3_plays.mono_l k
    · intro y0 y1 y2 y3 y4 y5 y6 y7 y8 y9 y10 y11 y12 y13 y14 y15 y16 y17 y18
      unfold weftlaw3_plays.j0
      repeat' first
      | (with_reducible exact ih0 _ _ _ _ _ _ _ _ _ _ _ _ _ _ _ _ _ _ _)
      | (with_reducible exact ip4_Age.mono _ _)
      | (with_reducible exact weftlaw3_same.mono _ _ _)
      | (with_reducible exact weftref3_Age.mono _ _)
      | (with_reducible exact LeO.refl _)
      | (with_reducible exact LeO.none _)
      | (with_reducible refine LeO.ite ?_ ?_)
      | (with_reducible refine LeO.bind ?_ (fun _ => ?_))
      | exact ih0 _ _ _ _ _ _ _ _ _ _ _ _ _ _ _ _ _ _ _
      | exact ip4_Age.mono _ _
      | exact weftlaw3_same.mono _ _ _
      | exact weftref3_Age.mono _ _
      | exact LeO.none _
      | refine LeO.ite ?_ ?_
      | refine LeO.bind ?_ (fun _ => ?_)
theorem weftlaw3_plays.mono : ∀ a0 a1 a2 a3 a4 a5 a6 a7 a8 a9 a10 a11 a12 a13 a14 a15 a16 k, LeO (weftlaw3_plays.f k a0 a1 a2 a3 a4 a5 a6 a7 a8 a9 a10 a11 a12 a13 a14 a15 a16) (weftlaw3_plays.f (k + 1) a0 a1 a2 a3 a4 a5 a6 a7 a8 a9 a10 a11 a12 a13 a14 a15 a16) := by
  intro a0 a1 a2 a3 a4 a5 a6 a7 a8 a9 a10 a11 a12 a13 a14 a15 a16 k
  have ih0 := weftlaw3_plays.mono_l k
  unfold weftlaw3_plays.f
  repeat' first
      | (with_reducible exact ih0 _ _ _ _ _ _ _ _ _ _ _ _ _ _ _ _ _ _ _)
      | (with_reducible exact ip4_Age.mono _ _)
      | (with_reducible exact weftlaw3_same.mono _ _ _)
      | (with_reducible exact weftref3_Age.mono _ _)
      | (with_reducible exact LeO.refl _)
      | (with_reducible exact LeO.none _)
      | (with_reducible refine LeO.ite ?_ ?_)
      | (with_reducible refine LeO.bind ?_ (fun _ => ?_))
      | exact ih0 _ _ _ _ _ _ _ _ _ _ _ _ _ _ _ _ _ _ _
      | exact ip4_Age.mono _ _
      | exact weftlaw3_same.mono _ _ _
      | exact weftref3_Age.mono _ _
      | exact LeO.none _
      | refine LeO.ite ?_ ?_
      | refine LeO.bind ?_ (fun _ => ?_)
set_option maxHeartbeats 8000000 in
set_option maxRecDepth 100000 in
theorem weftlaw3_plays.calls (k : Nat) (a0_0 : Int) (A0_1 : Option Addr) (c0_1 : Nat) (l0_1 : List Int) (A0_2 : Option Addr) (c0_2 : Nat) (l0_2 : List (List Int)) (a0_3 : Int) (a0_4 : Int) (a0_5 : Int) (a0_6 : Int) (a0_7 : Int) (a0_8 : Bool) (a0_9 : Bool) (a0_10 : Int) (a0_11 : Int) (a0_12 : Int) (a0_13 : Int) (a0_14 : Int) (A0_15 : Option Addr) (c0_15 : Nat) (l0_15 : List Int) (A0_16 : Option Addr) (c0_16 : Nat) (l0_16 : List Int) (r : Bool) (w : World) (hr0_1 : Kd.C (Kd.int .u8) w A0_1 l0_1.length l0_1) (hc0_1 : l0_1.length ≤ c0_1) (hr0_2 : Kd.C (Kd.slice 5 (Kd.int .u8)) w A0_2 l0_2.length l0_2) (hc0_2 : l0_2.length ≤ c0_2) (hr0_15 : Kd.C (Kd.int .u8) w A0_15 l0_15.length l0_15) (hc0_15 : l0_15.length ≤ c0_15) (hr0_16 : Kd.C (Kd.int .u8) w A0_16 l0_16.length l0_16) (hc0_16 : l0_16.length ≤ c0_16) (h : weftlaw3_plays.f k a0_0 l0_1 l0_2 a0_3 a0_4 a0_5 a0_6 a0_7 a0_8 a0_9 a0_10 a0_11 a0_12 a0_13 a0_14 l0_15 l0_16 = some r) :
    Calls Try.prog 24 #[.agg #[.int .i64 a0_0, .slice A0_1 l0_1.length c0_1, .slice A0_2 l0_2.length c0_2, .int .u16 a0_3, .int .u16 a0_4, .int .u16 a0_5, .int .u8 a0_6, .int .u16 a0_7, .bool a0_8, .bool a0_9, .int .i64 a0_10, .int .u8 a0_11, .int .u8 a0_12, .int .u32 a0_13, .int .u32 a0_14, .slice A0_15 l0_15.length c0_15, .slice A0_16 l0_16.length c0_16]] w fun e w' => e = .returned (.bool r) ∧ Below w.heap.size w w' := by
  have hu50 := Try.underlying50
  have hu33 := Try.underlying33
  have hu31 := Try.underlying31
  have HR0_1 := Aside0.mk hr0_1
  have HC0_1 := Aside0.mk hc0_1
  clear hr0_1 hc0_1
  have HR0_2 := Aside0.mk hr0_2
  have HC0_2 := Aside0.mk hc0_2
  clear hr0_2 hc0_2
  have HR0_15 := Aside0.mk hr0_15
  have HC0_15 := Aside0.mk hc0_15
  clear hr0_15 hc0_15
  have HR0_16 := Aside0.mk hr0_16
  have HC0_16 := Aside0.mk hc0_16
  clear hr0_16 hc0_16
  have HB := Aside0.mk (Below.refl w.heap.size w)
  have H : (if a0_0 = 1 then (weftlaw3_plays.j0 k a0_0 (a0_0 == 1) a0_0 l0_1 l0_2 a0_3 a0_4 a0_5 a0_6 a0_7 a0_8 a0_9 a0_10 a0_11 a0_12 a0_13 a0_14 l0_15 l0_16) else (weftlaw3_plays.j0 k a0_0 (a0_0 == 2) a0_0 l0_1 l0_2 a0_3 a0_4 a0_5 a0_6 a0_7 a0_8 a0_9 a0_10 a0_11 a0_12 a0_13 a0_14 l0_15 l0_16)) = some r := h
  clear h
  have HC2 := Aside0.mk H
  clear H
  go_enter Try.func24, Try.ntmps24
  go_upto_if 27 with (first | ((with_reducible refine gate_dst (N := 1) rfl ?_); refine box_event ?hg (N := 1) ?hd (cs := #[.int .i64 a0_0, .slice A0_1 l0_1.length c0_1, .slice A0_2 l0_2.length c0_2, .int .u16 a0_3, .int .u16 a0_4, .int .u16 a0_5, .int .u8 a0_6, .int .u16 a0_7, .bool a0_8, .bool a0_9, .int .i64 a0_10, .int .u8 a0_11, .int .u8 a0_12, .int .u32 a0_13, .int .u32 a0_14, .slice A0_15 l0_15.length c0_15, .slice A0_16 l0_16.length c0_16]) (t := 50) ?hr ?_; (case hd => rfl); (case hg => rfl); (case hr => first | (go_simp; done) | (go_simp; rfl)); intro gb525 hg w3 hbox hb; have n0_ := Aside0.mk (below_step (by repeat (first | (with_reducible first | exact HB.out | apply below_alloc | apply pw_below_drewN | apply below_drew1) | exact HB.out)) hb); have n1_ := Aside0.mk (hbox); have n2_ := Aside0.mk ((by rw [hg]; exact (below_size (by repeat (first | (with_reducible first | exact HB.out | apply below_alloc | apply pw_below_drewN | apply below_drew1) | exact HB.out))) : w.heap.size ≤ gb525)); have n3_ := Aside0.mk ((by rw [hg]; exact (below_size (by repeat (first | (with_reducible first | exact HB.out | apply below_alloc | apply pw_below_drewN | apply below_drew1) | exact HB.out))) : w.heap.size ≤ gb525)); clear HB; have HB := n0_; have BK525 := n1_; have GW525 := n2_; have GE525 := n3_; clear n0_ n1_ n2_ n3_; clear hb hbox hg; have hcz4_0 : w3.cell? ⟨gb525, 0, none⟩ = some (.int .i64 a0_0) := (blk_cell BK525.out 0).trans rfl; have hcz4_1 : w3.cell? ⟨gb525, 1, none⟩ = some (.slice A0_1 l0_1.length c0_1) := (blk_cell BK525.out 1).trans rfl; have hcz4_2 : w3.cell? ⟨gb525, 2, none⟩ = some (.slice A0_2 l0_2.length c0_2) := (blk_cell BK525.out 2).trans rfl; have hcz4_3 : w3.cell? ⟨gb525, 3, none⟩ = some (.int .u16 a0_3) := (blk_cell BK525.out 3).trans rfl; have hcz4_4 : w3.cell? ⟨gb525, 4, none⟩ = some (.int .u16 a0_4) := (blk_cell BK525.out 4).trans rfl; have hcz4_5 : w3.cell? ⟨gb525, 5, none⟩ = some (.int .u16 a0_5) := (blk_cell BK525.out 5).trans rfl; have hcz4_6 : w3.cell? ⟨gb525, 6, none⟩ = some (.int .u8 a0_6) := (blk_cell BK525.out 6).trans rfl; have hcz4_7 : w3.cell? ⟨gb525, 7, none⟩ = some (.int .u16 a0_7) := (blk_cell BK525.out 7).trans rfl; have hcz4_8 : w3.cell? ⟨gb525, 8, none⟩ = some (.bool a0_8) := (blk_cell BK525.out 8).trans rfl; have hcz4_9 : w3.cell? ⟨gb525, 9, none⟩ = some (.bool a0_9) := (blk_cell BK525.out 9).trans rfl; have hcz4_10 : w3.cell? ⟨gb525, 10, none⟩ = some (.int .i64 a0_10) := (blk_cell BK525.out 10).trans rfl; have hcz4_11 : w3.cell? ⟨gb525, 11, none⟩ = some (.int .u8 a0_11) := (blk_cell BK525.out 11).trans rfl; have hcz4_12 : w3.cell? ⟨gb525, 12, none⟩ = some (.int .u8 a0_12) := (blk_cell BK525.out 12).trans rfl; have hcz4_13 : w3.cell? ⟨gb525, 13, none⟩ = some (.int .u32 a0_13) := (blk_cell BK525.out 13).trans rfl; have hcz4_14 : w3.cell? ⟨gb525, 14, none⟩ = some (.int .u32 a0_14) := (blk_cell BK525.out 14).trans rfl; have hcz4_15 : w3.cell? ⟨gb525, 15, none⟩ = some (.slice A0_15 l0_15.length c0_15) := (blk_cell BK525.out 15).trans rfl; have hcz4_16 : w3.cell? ⟨gb525, 16, none⟩ = some (.slice A0_16 l0_16.length c0_16) := (blk_cell BK525.out 16).trans rfl; have hfz4_0 := blk_frozen BK525.out 0; have hfz4_1 := blk_frozen BK525.out 1; have hfz4_2 := blk_frozen BK525.out 2; have hfz4_3 := blk_frozen BK525.out 3; have hfz4_4 := blk_frozen BK525.out 4; have hfz4_5 := blk_frozen BK525.out 5; have hfz4_6 := blk_frozen BK525.out 6; have hfz4_7 := blk_frozen BK525.out 7; have hfz4_8 := blk_frozen BK525.out 8; have hfz4_9 := blk_frozen BK525.out 9; have hfz4_10 := blk_frozen BK525.out 10; have hfz4_11 := blk_frozen BK525.out 11; have hfz4_12 := blk_frozen BK525.out 12; have hfz4_13 := blk_frozen BK525.out 13; have hfz4_14 := blk_frozen BK525.out 14; have hfz4_15 := blk_frozen BK525.out 15; have hfz4_16 := blk_frozen BK525.out 16))
  (try simp only [Act.put, List.setIfInBounds_toArray, List.set_cons_zero, List.set_cons_succ])
  go_cut [27] (fun v27 wc => ∃ (kq : Nat) (x27_1 : Bool), v27 = .bool x27_1 ∧ Aside0 (weftlaw3_plays.j0 kq a0_0 x27_1 a0_0 l0_1 l0_2 a0_3 a0_4 a0_5 a0_6 a0_7 a0_8 a0_9 a0_10 a0_11 a0_12 a0_13 a0_14 l0_15 l0_16 = some r) ∧ Aside0 (kq ≤ k) ∧ Aside0 (wc.heap[gb525]? = some (.cells #[.int .i64 a0_0, (.slice A0_1 l0_1.length c0_1), (.slice A0_2 l0_2.length c0_2), .int .u16 a0_3, .int .u16 a0_4, .int .u16 a0_5, .int .u8 a0_6, .int .u16 a0_7, .bool a0_8, .bool a0_9, .int .i64 a0_10, .int .u8 a0_11, .int .u8 a0_12, .int .u32 a0_13, .int .u32 a0_14, (.slice A0_15 l0_15.length c0_15), (.slice A0_16 l0_16.length c0_16)] 50 (0, 0))) ∧ Aside0 (Below w.heap.size w wc))
  case first =>
    have H := HC2.out
    clear HC2
    by_cases c5 : a0_0 = 1
    · rw [if_pos c5] at H
      have c5b0 : (a0_0 == 1) = true := beq_iff_eq.mpr c5
      have c5b1 : (a0_0 != 1) = false := bne_eq_false_iff_eq.mpr c5
      clear c5
      (first | rw [c5b0] | (simp only [i64_w, i32_w]; rw [c5b0]) | skip)
      have H' := Aside0.mk H
      clear H
      go_wp2
      go_meet
      case rel => exact ⟨_, ((a0_0 == 1)), (by first | rfl | (simp; done) | (simp [*]; done)), H', ⟨by first | omega | exact Nat.le_refl _⟩, ⟨by first | (with_reducible exact BK525.out) | (with_reducible exact blk_drewN BK525.out _) | (with_reducible exact blk_drew BK525.out) | ((with_reducible repeat (first | refine blk_drewN ?_ _ | refine blk_drew ?_ | refine blk_alloc ?_ _)); exact BK525.out)⟩, ⟨by repeat (first | (with_reducible first | exact HB.out | apply below_alloc | apply pw_below_drewN | apply below_drew1 | refine below_set ?_ GE525.out) | exact HB.out)⟩⟩
    · rw [if_neg c5] at H
      have c5b0 : (a0_0 == 1) = false := beq_eq_false_iff_ne.mpr c5
      have c5b1 : (a0_0 != 1) = true := bne_iff_ne.mpr c5
      (first | rw [c5b0] | (simp only [i64_w, i32_w]; rw [c5b0]) | skip)
      have H' := Aside0.mk H
      clear H
      go_wp2
      go_meet
      case rel => exact ⟨_, ((a0_0 == 2)), (by first | rfl | (simp; done) | (simp [*]; done)), H', ⟨by first | omega | exact Nat.le_refl _⟩, ⟨by first | (with_reducible exact BK525.out) | (with_reducible exact blk_drewN BK525.out _) | (with_reducible exact blk_drew BK525.out) | ((with_reducible repeat (first | refine blk_drewN ?_ _ | refine blk_drew ?_ | refine blk_alloc ?_ _)); exact BK525.out)⟩, ⟨by repeat (first | (with_reducible first | exact HB.out | apply below_alloc | apply pw_below_drewN | apply below_drew1 | refine below_set ?_ GE525.out) | exact HB.out)⟩⟩
  case rest =>
    clear HC2
    try clear c2
    try clear p2
    try clear c5
    try clear c5b0
    try clear c5b1
    try clear hcz4_0
    try clear hcz4_1
    try clear hcz4_10
    try clear hcz4_11
    try clear hcz4_12
    try clear hcz4_13
    try clear hcz4_14
    try clear hcz4_15
    try clear hcz4_16
    try clear hcz4_2
    try clear hcz4_3
    try clear hcz4_4
    try clear hcz4_5
    try clear hcz4_6
    try clear hcz4_7
    try clear hcz4_8
    try clear hcz4_9
    try clear hfz4_0
    try clear hfz4_1
    try clear hfz4_10
    try clear hfz4_11
    try clear hfz4_12
    try clear hfz4_13
    try clear hfz4_14
    try clear hfz4_15
    try clear hfz4_16
    try clear hfz4_2
    try clear hfz4_3
    try clear hfz4_4
    try clear hfz4_5
    try clear hfz4_6
    try clear hfz4_7
    try clear hfz4_8
    try clear hfz4_9
    obtain ⟨kq, x27_1, rfl, HA, HJ1, BK525, HB⟩ := hcut
    cases kq with
    | zero => exact absurd HA.out (by simp [weftlaw3_plays.j0])
    | succ kj1 =>
      have H := HA.out
      clear HA
      simp only [weftlaw3_plays.j0] at H
      by_cases c6 : x27_1 = true
      · subst c6
        have H1 : (none) = some r := by rw [if_pos rfl] at H; exact H
        clear H
        have H := H1
        clear H1
        exact absurd H (by simp)
      · replace c6 := Bool.eq_false_iff.mpr c6
        subst c6
        have H1 : (if a0_0 = 3 then (none) else (if a0_0 = 4 then (none) else (if a0_0 = 5 then (none) else (if a0_0 = 6 then ((ip4_Age.f kj1 l0_1).bind fun bt526 => ((weftref3_Age.f kj1 l0_1).bind fun bt530 => (if bt526.2 = bt530.2 then ((weftlaw3_same.f kj1 bt526.1 bt530.1).bind fun t534 => (some t534)) else (some false)))) else (none))))) = some r := by rw [if_neg (show ¬ (false = true) by decide)] at H; exact H
        clear H
        have H := H1
        clear H1
        by_cases c7 : a0_0 = 3
        · rw [if_pos c7] at H
          exact absurd H (by simp)
        · rw [if_neg c7] at H
          have c7b0 : (a0_0 == 3) = false := beq_eq_false_iff_ne.mpr c7
          have c7b1 : (a0_0 != 3) = true := bne_iff_ne.mpr c7
          by_cases c8 : a0_0 = 4
          · rw [if_pos c8] at H
            exact absurd H (by simp)
          · rw [if_neg c8] at H
            have c8b0 : (a0_0 == 4) = false := beq_eq_false_iff_ne.mpr c8
            have c8b1 : (a0_0 != 4) = true := bne_iff_ne.mpr c8
            by_cases c9 : a0_0 = 5
            · rw [if_pos c9] at H
              exact absurd H (by simp)
            · rw [if_neg c9] at H
              have c9b0 : (a0_0 == 5) = false := beq_eq_false_iff_ne.mpr c9
              have c9b1 : (a0_0 != 5) = true := bne_iff_ne.mpr c9
              by_cases c10 : a0_0 = 6
              · rw [if_pos c10] at H
                have c10b0 : (a0_0 == 6) = true := beq_iff_eq.mpr c10
                have c10b1 : (a0_0 != 6) = false := bne_eq_false_iff_eq.mpr c10
                clear c10
                replace H := Option.bind_eq_some_iff.mp H
                obtain ⟨⟨t526, t527⟩, A110, H⟩ := H
                replace H : ((weftref3_Age.f kj1 l0_1).bind fun bt530 => (if t527 = bt530.2 then ((weftlaw3_same.f kj1 t526 bt530.1).bind fun t534 => (some t534)) else (some false))) = some r := H
                have A11 := Aside0.mk A110
                clear A110
                replace H := Option.bind_eq_some_iff.mp H
                obtain ⟨⟨t530, t531⟩, A120, H⟩ := H
                replace H : (if t527 = t531 then ((weftlaw3_same.f kj1 t526 t530).bind fun t534 => (some t534)) else (some false)) = some r := H
                have A12 := Aside0.mk A120
                clear A120
                by_cases c13 : t527 = t531
                · rw [if_pos c13] at H
                  have c13b0 : (t527 == t531) = true := beq_iff_eq.mpr c13
                  have c13b1 : (t527 != t531) = false := bne_eq_false_iff_eq.mpr c13
                  clear c13
                  replace H := Option.bind_eq_some_iff.mp H
                  obtain ⟨t534, A140, H⟩ := H
                  replace H : (some t534) = some r := H
                  have A14 := Aside0.mk A140
                  clear A140
                  obtain rfl := Option.some.inj H
                  have hcz15_0 : wc.cell? ⟨gb525, 0, none⟩ = some (.int .i64 a0_0) := (blk_cell BK525.out 0).trans rfl
                  have hcz15_1 : wc.cell? ⟨gb525, 1, none⟩ = some (.slice A0_1 l0_1.length c0_1) := (blk_cell BK525.out 1).trans rfl
                  have hcz15_2 : wc.cell? ⟨gb525, 2, none⟩ = some (.slice A0_2 l0_2.length c0_2) := (blk_cell BK525.out 2).trans rfl
                  have hcz15_3 : wc.cell? ⟨gb525, 3, none⟩ = some (.int .u16 a0_3) := (blk_cell BK525.out 3).trans rfl
                  have hcz15_4 : wc.cell? ⟨gb525, 4, none⟩ = some (.int .u16 a0_4) := (blk_cell BK525.out 4).trans rfl
                  have hcz15_5 : wc.cell? ⟨gb525, 5, none⟩ = some (.int .u16 a0_5) := (blk_cell BK525.out 5).trans rfl
                  have hcz15_6 : wc.cell? ⟨gb525, 6, none⟩ = some (.int .u8 a0_6) := (blk_cell BK525.out 6).trans rfl
                  have hcz15_7 : wc.cell? ⟨gb525, 7, none⟩ = some (.int .u16 a0_7) := (blk_cell BK525.out 7).trans rfl
                  have hcz15_8 : wc.cell? ⟨gb525, 8, none⟩ = some (.bool a0_8) := (blk_cell BK525.out 8).trans rfl
                  have hcz15_9 : wc.cell? ⟨gb525, 9, none⟩ = some (.bool a0_9) := (blk_cell BK525.out 9).trans rfl
                  have hcz15_10 : wc.cell? ⟨gb525, 10, none⟩ = some (.int .i64 a0_10) := (blk_cell BK525.out 10).trans rfl
                  have hcz15_11 : wc.cell? ⟨gb525, 11, none⟩ = some (.int .u8 a0_11) := (blk_cell BK525.out 11).trans rfl
                  have hcz15_12 : wc.cell? ⟨gb525, 12, none⟩ = some (.int .u8 a0_12) := (blk_cell BK525.out 12).trans rfl
                  have hcz15_13 : wc.cell? ⟨gb525, 13, none⟩ = some (.int .u32 a0_13) := (blk_cell BK525.out 13).trans rfl
                  have hcz15_14 : wc.cell? ⟨gb525, 14, none⟩ = some (.int .u32 a0_14) := (blk_cell BK525.out 14).trans rfl
                  have hcz15_15 : wc.cell? ⟨gb525, 15, none⟩ = some (.slice A0_15 l0_15.length c0_15) := (blk_cell BK525.out 15).trans rfl
                  have hcz15_16 : wc.cell? ⟨gb525, 16, none⟩ = some (.slice A0_16 l0_16.length c0_16) := (blk_cell BK525.out 16).trans rfl
                  have hfz15_0 := blk_frozen BK525.out 0
                  have hfz15_1 := blk_frozen BK525.out 1
                  have hfz15_2 := blk_frozen BK525.out 2
                  have hfz15_3 := blk_frozen BK525.out 3
                  have hfz15_4 := blk_frozen BK525.out 4
                  have hfz15_5 := blk_frozen BK525.out 5
                  have hfz15_6 := blk_frozen BK525.out 6
                  have hfz15_7 := blk_frozen BK525.out 7
                  have hfz15_8 := blk_frozen BK525.out 8
                  have hfz15_9 := blk_frozen BK525.out 9
                  have hfz15_10 := blk_frozen BK525.out 10
                  have hfz15_11 := blk_frozen BK525.out 11
                  have hfz15_12 := blk_frozen BK525.out 12
                  have hfz15_13 := blk_frozen BK525.out 13
                  have hfz15_14 := blk_frozen BK525.out 14
                  have hfz15_15 := blk_frozen BK525.out 15
                  have hfz15_16 := blk_frozen BK525.out 16
                  go_wp2_with (first | ((with_reducible refine gate_callee (f := 37) rfl ?_); refine goesL_ (some 110) rfl rfl Try.func37 (by kernel_rfl) rfl #[.slice A0_1 l0_1.length c0_1] rfl (by (try simp only [List.map_toArray, List.map_cons, List.map_nil]); first | done | rfl | (simp only [List.length_drop, List.length_take]; rfl)) ?_; (with_reducible refine (ip4_Age.calls kj1 _ _ l0_1 t526 t527 _ ?side1 ?side2 A11.out).mono ?_); (case side1 => repeat (first | exact (Kd.C_below HR0_1.out HB.out) | (with_reducible refine Kd.C_alloc ?_ _) | (with_reducible refine Kd.C_drewN ?_ _) | (with_reducible refine Kd.C_drew ?_))); (case side2 => exact HC0_1.out); rintro e w16 ⟨v528, rfl, ho0, hb⟩; refine ⟨_, rfl, ?_⟩; have n0_ := Aside0.mk (Kd.R_lower ho0 (below_size (by repeat (first | (with_reducible first | exact HB.out | apply below_alloc | apply pw_below_drewN | apply below_drew1 | refine below_set ?_ GE525.out) | exact HB.out)))); have n1_ := Aside0.mk (blk_below (g := gb525) (o := .cells #[.int .i64 a0_0, .slice A0_1 l0_1.length c0_1, .slice A0_2 l0_2.length c0_2, .int .u16 a0_3, .int .u16 a0_4, .int .u16 a0_5, .int .u8 a0_6, .int .u16 a0_7, .bool a0_8, .bool a0_9, .int .i64 a0_10, .int .u8 a0_11, .int .u8 a0_12, .int .u32 a0_13, .int .u32 a0_14, .slice A0_15 l0_15.length c0_15, .slice A0_16 l0_16.length c0_16] 50 (0, 0)) (by first | (with_reducible exact BK525.out) | (with_reducible exact blk_drewN BK525.out _) | (with_reducible exact blk_drew BK525.out) | ((with_reducible repeat (first | refine blk_drewN ?_ _ | refine blk_drew ?_ | refine blk_alloc ?_ _)); exact BK525.out)) hb); have n2_ := Aside0.mk (below_step (by repeat (first | (with_reducible first | exact HB.out | apply below_alloc | apply pw_below_drewN | apply below_drew1 | refine below_set ?_ GE525.out) | exact HB.out)) hb); clear BK525; clear HB; have HO529 := n0_; have BK525 := n1_; have HB := n2_; clear n0_ n1_ n2_; (try clear hb); (try clear hb2); (try clear hk); (try clear hi); (try clear ho0); have hcz17_0 : w16.cell? ⟨gb525, 0, none⟩ = some (.int .i64 a0_0) := (blk_cell BK525.out 0).trans rfl; have hcz17_1 : w16.cell? ⟨gb525, 1, none⟩ = some (.slice A0_1 l0_1.length c0_1) := (blk_cell BK525.out 1).trans rfl; have hcz17_2 : w16.cell? ⟨gb525, 2, none⟩ = some (.slice A0_2 l0_2.length c0_2) := (blk_cell BK525.out 2).trans rfl; have hcz17_3 : w16.cell? ⟨gb525, 3, none⟩ = some (.int .u16 a0_3) := (blk_cell BK525.out 3).trans rfl; have hcz17_4 : w16.cell? ⟨gb525, 4, none⟩ = some (.int .u16 a0_4) := (blk_cell BK525.out 4).trans rfl; have hcz17_5 : w16.cell? ⟨gb525, 5, none⟩ = some (.int .u16 a0_5) := (blk_cell BK525.out 5).trans rfl; have hcz17_6 : w16.cell? ⟨gb525, 6, none⟩ = some (.int .u8 a0_6) := (blk_cell BK525.out 6).trans rfl; have hcz17_7 : w16.cell? ⟨gb525, 7, none⟩ = some (.int .u16 a0_7) := (blk_cell BK525.out 7).trans rfl; have hcz17_8 : w16.cell? ⟨gb525, 8, none⟩ = some (.bool a0_8) := (blk_cell BK525.out 8).trans rfl; have hcz17_9 : w16.cell? ⟨gb525, 9, none⟩ = some (.bool a0_9) := (blk_cell BK525.out 9).trans rfl; have hcz17_10 : w16.cell? ⟨gb525, 10, none⟩ = some (.int .i64 a0_10) := (blk_cell BK525.out 10).trans rfl; have hcz17_11 : w16.cell? ⟨gb525, 11, none⟩ = some (.int .u8 a0_11) := (blk_cell BK525.out 11).trans rfl; have hcz17_12 : w16.cell? ⟨gb525, 12, none⟩ = some (.int .u8 a0_12) := (blk_cell BK525.out 12).trans rfl; have hcz17_13 : w16.cell? ⟨gb525, 13, none⟩ = some (.int .u32 a0_13) := (blk_cell BK525.out 13).trans rfl; have hcz17_14 : w16.cell? ⟨gb525, 14, none⟩ = some (.int .u32 a0_14) := (blk_cell BK525.out 14).trans rfl; have hcz17_15 : w16.cell? ⟨gb525, 15, none⟩ = some (.slice A0_15 l0_15.length c0_15) := (blk_cell BK525.out 15).trans rfl; have hcz17_16 : w16.cell? ⟨gb525, 16, none⟩ = some (.slice A0_16 l0_16.length c0_16) := (blk_cell BK525.out 16).trans rfl; have hfz17_0 := blk_frozen BK525.out 0; have hfz17_1 := blk_frozen BK525.out 1; have hfz17_2 := blk_frozen BK525.out 2; have hfz17_3 := blk_frozen BK525.out 3; have hfz17_4 := blk_frozen BK525.out 4; have hfz17_5 := blk_frozen BK525.out 5; have hfz17_6 := blk_frozen BK525.out 6; have hfz17_7 := blk_frozen BK525.out 7; have hfz17_8 := blk_frozen BK525.out 8; have hfz17_9 := blk_frozen BK525.out 9; have hfz17_10 := blk_frozen BK525.out 10; have hfz17_11 := blk_frozen BK525.out 11; have hfz17_12 := blk_frozen BK525.out 12; have hfz17_13 := blk_frozen BK525.out 13; have hfz17_14 := blk_frozen BK525.out 14; have hfz17_15 := blk_frozen BK525.out 15; have hfz17_16 := blk_frozen BK525.out 16) | ((with_reducible refine gate_callee (f := 38) rfl ?_); refine goesL_ (some 116) rfl rfl Try.func38 (by kernel_rfl) rfl #[.slice A0_1 l0_1.length c0_1] rfl (by (try simp only [List.map_toArray, List.map_cons, List.map_nil]); first | done | rfl | (simp only [List.length_drop, List.length_take]; rfl)) ?_; (with_reducible refine (weftref3_Age.calls kj1 _ _ l0_1 t530 t531 _ ?side1 ?side2 A12.out).mono ?_); (case side1 => repeat (first | exact (Kd.C_below HR0_1.out HB.out) | (with_reducible refine Kd.C_alloc ?_ _) | (with_reducible refine Kd.C_drewN ?_ _) | (with_reducible refine Kd.C_drew ?_))); (case side2 => exact HC0_1.out); rintro e w18 ⟨v532, rfl, ho0, hb⟩; refine ⟨_, rfl, ?_⟩; have n0_ := Aside0.mk (Kd.R_elder' (by (with_reducible repeat (first | apply Kd.R_alloc | apply Kd.R_drewN | apply Kd.R_drew)); exact HO529.out) (Kd.R_base ho0) hb); have n1_ := Aside0.mk (Kd.R_lower (Kd.R_new' ho0 (Kd.R_lt (by (with_reducible repeat (first | apply Kd.R_alloc | apply Kd.R_drewN | apply Kd.R_drew)); exact HO529.out))) (below_size (by repeat (first | (with_reducible first | exact HB.out | apply below_alloc | apply pw_below_drewN | apply below_drew1 | refine below_set ?_ GE525.out) | exact HB.out)))); have n2_ := Aside0.mk (blk_below (g := gb525) (o := .cells #[.int .i64 a0_0, .slice A0_1 l0_1.length c0_1, .slice A0_2 l0_2.length c0_2, .int .u16 a0_3, .int .u16 a0_4, .int .u16 a0_5, .int .u8 a0_6, .int .u16 a0_7, .bool a0_8, .bool a0_9, .int .i64 a0_10, .int .u8 a0_11, .int .u8 a0_12, .int .u32 a0_13, .int .u32 a0_14, .slice A0_15 l0_15.length c0_15, .slice A0_16 l0_16.length c0_16] 50 (0, 0)) (by first | (with_reducible exact BK525.out) | (with_reducible exact blk_drewN BK525.out _) | (with_reducible exact blk_drew BK525.out) | ((with_reducible repeat (first | refine blk_drewN ?_ _ | refine blk_drew ?_ | refine blk_alloc ?_ _)); exact BK525.out)) hb); have n3_ := Aside0.mk (below_step (by repeat (first | (with_reducible first | exact HB.out | apply below_alloc | apply pw_below_drewN | apply below_drew1 | refine below_set ?_ GE525.out) | exact HB.out)) hb); clear HO529; clear BK525; clear HB; have HO529 := n0_; have HO533 := n1_; have BK525 := n2_; have HB := n3_; clear n0_ n1_ n2_ n3_; (try clear hb); (try clear hb2); (try clear hk); (try clear hi); (try clear ho0); obtain ⟨Ao19, co19, eo19⟩ := Kd.R_slice HO529.out; subst eo19; obtain ⟨Ao20, co20, eo20⟩ := Kd.R_slice HO533.out; subst eo20) | (go_at_call 35; (with_reducible refine (weftlaw3_same.calls kj1 _ _ t526 _ _ t530 t534 _ ?side1 ?side2 ?side3 ?side4 A14.out).mono ?_); (case side1 => repeat (first | exact (Kd.R_reads' HO529.out).2.2 | (with_reducible refine Kd.C_alloc ?_ _) | (with_reducible refine Kd.C_drewN ?_ _) | (with_reducible refine Kd.C_drew ?_))); (case side2 => exact (Kd.R_reads' HO529.out).2.1); (case side3 => repeat (first | exact (Kd.R_reads' HO533.out).2.2 | (with_reducible refine Kd.C_alloc ?_ _) | (with_reducible refine Kd.C_drewN ?_ _) | (with_reducible refine Kd.C_drew ?_))); (case side4 => exact (Kd.R_reads' HO533.out).2.1); rintro e w' ⟨rfl, ⟨nd, rfl⟩⟩))
                  go_ret
                  exact ⟨by first | rfl | (simp [errW_none, errW_some] <;> rfl) | (simp [*, errW_none, errW_some] <;> rfl), by repeat (first | (with_reducible first | exact HB.out | apply below_alloc | apply pw_below_drewN | apply below_drew1 | refine below_set ?_ GE525.out) | exact HB.out)⟩
                · rw [if_neg c13] at H
                  have c13b0 : (t527 == t531) = false := beq_eq_false_iff_ne.mpr c13
                  have c13b1 : (t527 != t531) = true := bne_iff_ne.mpr c13
                  obtain rfl := Option.some.inj H
                  have hcz21_0 : wc.cell? ⟨gb525, 0, none⟩ = some (.int .i64 a0_0) := (blk_cell BK525.out 0).trans rfl
                  have hcz21_1 : wc.cell? ⟨gb525, 1, none⟩ = some (.slice A0_1 l0_1.length c0_1) := (blk_cell BK525.out 1).trans rfl
                  have hcz21_2 : wc.cell? ⟨gb525, 2, none⟩ = some (.slice A0_2 l0_2.length c0_2) := (blk_cell BK525.out 2).trans rfl
                  have hcz21_3 : wc.cell? ⟨gb525, 3, none⟩ = some (.int .u16 a0_3) := (blk_cell BK525.out 3).trans rfl
                  have hcz21_4 : wc.cell? ⟨gb525, 4, none⟩ = some (.int .u16 a0_4) := (blk_cell BK525.out 4).trans rfl
                  have hcz21_5 : wc.cell? ⟨gb525, 5, none⟩ = some (.int .u16 a0_5) := (blk_cell BK525.out 5).trans rfl
                  have hcz21_6 : wc.cell? ⟨gb525, 6, none⟩ = some (.int .u8 a0_6) := (blk_cell BK525.out 6).trans rfl
                  have hcz21_7 : wc.cell? ⟨gb525, 7, none⟩ = some (.int .u16 a0_7) := (blk_cell BK525.out 7).trans rfl
                  have hcz21_8 : wc.cell? ⟨gb525, 8, none⟩ = some (.bool a0_8) := (blk_cell BK525.out 8).trans rfl
                  have hcz21_9 : wc.cell? ⟨gb525, 9, none⟩ = some (.bool a0_9) := (blk_cell BK525.out 9).trans rfl
                  have hcz21_10 : wc.cell? ⟨gb525, 10, none⟩ = some (.int .i64 a0_10) := (blk_cell BK525.out 10).trans rfl
                  have hcz21_11 : wc.cell? ⟨gb525, 11, none⟩ = some (.int .u8 a0_11) := (blk_cell BK525.out 11).trans rfl
                  have hcz21_12 : wc.cell? ⟨gb525, 12, none⟩ = some (.int .u8 a0_12) := (blk_cell BK525.out 12).trans rfl
                  have hcz21_13 : wc.cell? ⟨gb525, 13, none⟩ = some (.int .u32 a0_13) := (blk_cell BK525.out 13).trans rfl
                  have hcz21_14 : wc.cell? ⟨gb525, 14, none⟩ = some (.int .u32 a0_14) := (blk_cell BK525.out 14).trans rfl
                  have hcz21_15 : wc.cell? ⟨gb525, 15, none⟩ = some (.slice A0_15 l0_15.length c0_15) := (blk_cell BK525.out 15).trans rfl
                  have hcz21_16 : wc.cell? ⟨gb525, 16, none⟩ = some (.slice A0_16 l0_16.length c0_16) := (blk_cell BK525.out 16).trans rfl
                  have hfz21_0 := blk_frozen BK525.out 0
                  have hfz21_1 := blk_frozen BK525.out 1
                  have hfz21_2 := blk_frozen BK525.out 2
                  have hfz21_3 := blk_frozen BK525.out 3
                  have hfz21_4 := blk_frozen BK525.out 4
                  have hfz21_5 := blk_frozen BK525.out 5
                  have hfz21_6 := blk_frozen BK525.out 6
                  have hfz21_7 := blk_frozen BK525.out 7
                  have hfz21_8 := blk_frozen BK525.out 8
                  have hfz21_9 := blk_frozen BK525.out 9
                  have hfz21_10 := blk_frozen BK525.out 10
                  have hfz21_11 := blk_frozen BK525.out 11
                  have hfz21_12 := blk_frozen BK525.out 12
                  have hfz21_13 := blk_frozen BK525.out 13
                  have hfz21_14 := blk_frozen BK525.out 14
                  have hfz21_15 := blk_frozen BK525.out 15
                  have hfz21_16 := blk_frozen BK525.out 16
                  go_wp2_with (first | ((with_reducible refine gate_callee (f := 37) rfl ?_); refine goesL_ (some 110) rfl rfl Try.func37 (by kernel_rfl) rfl #[.slice A0_1 l0_1.length c0_1] rfl (by (try simp only [List.map_toArray, List.map_cons, List.map_nil]); first | done | rfl | (simp only [List.length_drop, List.length_take]; rfl)) ?_; (with_reducible refine (ip4_Age.calls kj1 _ _ l0_1 t526 t527 _ ?side1 ?side2 A11.out).mono ?_); (case side1 => repeat (first | exact (Kd.C_below HR0_1.out HB.out) | (with_reducible refine Kd.C_alloc ?_ _) | (with_reducible refine Kd.C_drewN ?_ _) | (with_reducible refine Kd.C_drew ?_))); (case side2 => exact HC0_1.out); rintro e w22 ⟨v528, rfl, ho0, hb⟩; refine ⟨_, rfl, ?_⟩; have n0_ := Aside0.mk (Kd.R_lower ho0 (below_size (by repeat (first | (with_reducible first | exact HB.out | apply below_alloc | apply pw_below_drewN | apply below_drew1 | refine below_set ?_ GE525.out) | exact HB.out)))); have n1_ := Aside0.mk (blk_below (g := gb525) (o := .cells #[.int .i64 a0_0, .slice A0_1 l0_1.length c0_1, .slice A0_2 l0_2.length c0_2, .int .u16 a0_3, .int .u16 a0_4, .int .u16 a0_5, .int .u8 a0_6, .int .u16 a0_7, .bool a0_8, .bool a0_9, .int .i64 a0_10, .int .u8 a0_11, .int .u8 a0_12, .int .u32 a0_13, .int .u32 a0_14, .slice A0_15 l0_15.length c0_15, .slice A0_16 l0_16.length c0_16] 50 (0, 0)) (by first | (with_reducible exact BK525.out) | (with_reducible exact blk_drewN BK525.out _) | (with_reducible exact blk_drew BK525.out) | ((with_reducible repeat (first | refine blk_drewN ?_ _ | refine blk_drew ?_ | refine blk_alloc ?_ _)); exact BK525.out)) hb); have n2_ := Aside0.mk (below_step (by repeat (first | (with_reducible first | exact HB.out | apply below_alloc | apply pw_below_drewN | apply below_drew1 | refine below_set ?_ GE525.out) | exact HB.out)) hb); clear BK525; clear HB; have HO529 := n0_; have BK525 := n1_; have HB := n2_; clear n0_ n1_ n2_; (try clear hb); (try clear hb2); (try clear hk); (try clear hi); (try clear ho0); have hcz23_0 : w22.cell? ⟨gb525, 0, none⟩ = some (.int .i64 a0_0) := (blk_cell BK525.out 0).trans rfl; have hcz23_1 : w22.cell? ⟨gb525, 1, none⟩ = some (.slice A0_1 l0_1.length c0_1) := (blk_cell BK525.out 1).trans rfl; have hcz23_2 : w22.cell? ⟨gb525, 2, none⟩ = some (.slice A0_2 l0_2.length c0_2) := (blk_cell BK525.out 2).trans rfl; have hcz23_3 : w22.cell? ⟨gb525, 3, none⟩ = some (.int .u16 a0_3) := (blk_cell BK525.out 3).trans rfl; have hcz23_4 : w22.cell? ⟨gb525, 4, none⟩ = some (.int .u16 a0_4) := (blk_cell BK525.out 4).trans rfl; have hcz23_5 : w22.cell? ⟨gb525, 5, none⟩ = some (.int .u16 a0_5) := (blk_cell BK525.out 5).trans rfl; have hcz23_6 : w22.cell? ⟨gb525, 6, none⟩ = some (.int .u8 a0_6) := (blk_cell BK525.out 6).trans rfl; have hcz23_7 : w22.cell? ⟨gb525, 7, none⟩ = some (.int .u16 a0_7) := (blk_cell BK525.out 7).trans rfl; have hcz23_8 : w22.cell? ⟨gb525, 8, none⟩ = some (.bool a0_8) := (blk_cell BK525.out 8).trans rfl; have hcz23_9 : w22.cell? ⟨gb525, 9, none⟩ = some (.bool a0_9) := (blk_cell BK525.out 9).trans rfl; have hcz23_10 : w22.cell? ⟨gb525, 10, none⟩ = some (.int .i64 a0_10) := (blk_cell BK525.out 10).trans rfl; have hcz23_11 : w22.cell? ⟨gb525, 11, none⟩ = some (.int .u8 a0_11) := (blk_cell BK525.out 11).trans rfl; have hcz23_12 : w22.cell? ⟨gb525, 12, none⟩ = some (.int .u8 a0_12) := (blk_cell BK525.out 12).trans rfl; have hcz23_13 : w22.cell? ⟨gb525, 13, none⟩ = some (.int .u32 a0_13) := (blk_cell BK525.out 13).trans rfl; have hcz23_14 : w22.cell? ⟨gb525, 14, none⟩ = some (.int .u32 a0_14) := (blk_cell BK525.out 14).trans rfl; have hcz23_15 : w22.cell? ⟨gb525, 15, none⟩ = some (.slice A0_15 l0_15.length c0_15) := (blk_cell BK525.out 15).trans rfl; have hcz23_16 : w22.cell? ⟨gb525, 16, none⟩ = some (.slice A0_16 l0_16.length c0_16) := (blk_cell BK525.out 16).trans rfl; have hfz23_0 := blk_frozen BK525.out 0; have hfz23_1 := blk_frozen BK525.out 1; have hfz23_2 := blk_frozen BK525.out 2; have hfz23_3 := blk_frozen BK525.out 3; have hfz23_4 := blk_frozen BK525.out 4; have hfz23_5 := blk_frozen BK525.out 5; have hfz23_6 := blk_frozen BK525.out 6; have hfz23_7 := blk_frozen BK525.out 7; have hfz23_8 := blk_frozen BK525.out 8; have hfz23_9 := blk_frozen BK525.out 9; have hfz23_10 := blk_frozen BK525.out 10; have hfz23_11 := blk_frozen BK525.out 11; have hfz23_12 := blk_frozen BK525.out 12; have hfz23_13 := blk_frozen BK525.out 13; have hfz23_14 := blk_frozen BK525.out 14; have hfz23_15 := blk_frozen BK525.out 15; have hfz23_16 := blk_frozen BK525.out 16) | ((with_reducible refine gate_callee (f := 38) rfl ?_); refine goesL_ (some 116) rfl rfl Try.func38 (by kernel_rfl) rfl #[.slice A0_1 l0_1.length c0_1] rfl (by (try simp only [List.map_toArray, List.map_cons, List.map_nil]); first | done | rfl | (simp only [List.length_drop, List.length_take]; rfl)) ?_; (with_reducible refine (weftref3_Age.calls kj1 _ _ l0_1 t530 t531 _ ?side1 ?side2 A12.out).mono ?_); (case side1 => repeat (first | exact (Kd.C_below HR0_1.out HB.out) | (with_reducible refine Kd.C_alloc ?_ _) | (with_reducible refine Kd.C_drewN ?_ _) | (with_reducible refine Kd.C_drew ?_))); (case side2 => exact HC0_1.out); rintro e w24 ⟨v532, rfl, ho0, hb⟩; refine ⟨_, rfl, ?_⟩; have n0_ := Aside0.mk (Kd.R_elder' (by (with_reducible repeat (first | apply Kd.R_alloc | apply Kd.R_drewN | apply Kd.R_drew)); exact HO529.out) (Kd.R_base ho0) hb); have n1_ := Aside0.mk (Kd.R_lower (Kd.R_new' ho0 (Kd.R_lt (by (with_reducible repeat (first | apply Kd.R_alloc | apply Kd.R_drewN | apply Kd.R_drew)); exact HO529.out))) (below_size (by repeat (first | (with_reducible first | exact HB.out | apply below_alloc | apply pw_below_drewN | apply below_drew1 | refine below_set ?_ GE525.out) | exact HB.out)))); have n2_ := Aside0.mk (blk_below (g := gb525) (o := .cells #[.int .i64 a0_0, .slice A0_1 l0_1.length c0_1, .slice A0_2 l0_2.length c0_2, .int .u16 a0_3, .int .u16 a0_4, .int .u16 a0_5, .int .u8 a0_6, .int .u16 a0_7, .bool a0_8, .bool a0_9, .int .i64 a0_10, .int .u8 a0_11, .int .u8 a0_12, .int .u32 a0_13, .int .u32 a0_14, .slice A0_15 l0_15.length c0_15, .slice A0_16 l0_16.length c0_16] 50 (0, 0)) (by first | (with_reducible exact BK525.out) | (with_reducible exact blk_drewN BK525.out _) | (with_reducible exact blk_drew BK525.out) | ((with_reducible repeat (first | refine blk_drewN ?_ _ | refine blk_drew ?_ | refine blk_alloc ?_ _)); exact BK525.out)) hb); have n3_ := Aside0.mk (below_step (by repeat (first | (with_reducible first | exact HB.out | apply below_alloc | apply pw_below_drewN | apply below_drew1 | refine below_set ?_ GE525.out) | exact HB.out)) hb); clear HO529; clear BK525; clear HB; have HO529 := n0_; have HO533 := n1_; have BK525 := n2_; have HB := n3_; clear n0_ n1_ n2_ n3_; (try clear hb); (try clear hb2); (try clear hk); (try clear hi); (try clear ho0)))
                  go_ret
                  exact ⟨by first | rfl | (simp [errW_none, errW_some] <;> rfl) | (simp [*, errW_none, errW_some] <;> rfl), by repeat (first | (with_reducible first | exact HB.out | apply below_alloc | apply pw_below_drewN | apply below_drew1 | refine below_set ?_ GE525.out) | exact HB.out)⟩
              · rw [if_neg c10] at H
                exact absurd H (by simp)

/-! ### weftlaw3_head: function 23 -/
def weftlaw3_head.f (k : Nat) (a0 : Int) : Option (Bool) := (weftref3_Build.f k 0 7216 true false 0 64 6 167838211 167904004 ([] : List Int) (([1, 2, 3] : List Int))).bind fun bt539 => (if a0 = 1 then (none) else (if a0 = 2 then (none) else (if a0 = 5 then (none) else (if a0 = 7 then (none) else ((weftlaw3_plays.f k a0 bt539.1 ([] : List (List Int)) 0 0 0 0 0 false false 0 0 0 0 0 ([] : List Int) ([] : List Int)).bind fun t543 => (some t543))))))
theorem weftlaw3_head.mono : ∀ a0 k, LeO (weftlaw3_head.f k a0) (weftlaw3_head.f (k + 1) a0) := by
  intro a0 k
  unfold weftlaw3_head.f
  repeat' first
      | (with_reducible exact weftlaw3_plays.mono _ _ _ _ _ _ _ _ _ _ _ _ _ _ _ _ _ _)
      | (with_reducible exact weftref3_Build.mono _ _ _ _ _ _ _ _ _ _ _ _)
      | (with_reducible exact LeO.refl _)
      | (with_reducible exact LeO.none _)
      | (with_reducible refine LeO.ite ?_ ?_)
      | (with_reducible refine LeO.bind ?_ (fun _ => ?_))
      | exact weftlaw3_plays.mono _ _ _ _ _ _ _ _ _ _ _ _ _ _ _ _ _ _
      | exact weftref3_Build.mono _ _ _ _ _ _ _ _ _ _ _ _
      | exact LeO.none _
      | refine LeO.ite ?_ ?_
      | refine LeO.bind ?_ (fun _ => ?_)
set_option maxHeartbeats 8000000 in
set_option maxRecDepth 100000 in
theorem weftlaw3_head.calls (k : Nat) (a0 : Int) (r : Bool) (w : World) (h : weftlaw3_head.f k a0 = some r) :
    Calls Try.prog 23 #[.int .i64 a0] w fun e w' => e = .returned (.bool r) ∧ Below w.heap.size w w' := by
  have hu31 := Try.underlying31
  have hu33 := Try.underlying33
  have hu50 := Try.underlying50
  have HB := Aside0.mk (Below.refl w.heap.size w)
  have H : ((weftref3_Build.f k 0 7216 true false 0 64 6 167838211 167904004 ([] : List Int) (([1, 2, 3] : List Int))).bind fun bt539 => (if a0 = 1 then (none) else (if a0 = 2 then (none) else (if a0 = 5 then (none) else (if a0 = 7 then (none) else ((weftlaw3_plays.f k a0 bt539.1 ([] : List (List Int)) 0 0 0 0 0 false false 0 0 0 0 0 ([] : List Int) ([] : List Int)).bind fun t543 => (some t543))))))) = some r := h
  clear h
  obtain ⟨y535, hy535⟩ : ∃ y_ : List Int, y_ = (([1, 2, 3] : List Int)) := ⟨_, rfl⟩
  replace H : ((weftref3_Build.f k 0 7216 true false 0 64 6 167838211 167904004 ([] : List Int) y535).bind fun bt539 => (if a0 = 1 then (none) else (if a0 = 2 then (none) else (if a0 = 5 then (none) else (if a0 = 7 then (none) else ((weftlaw3_plays.f k a0 bt539.1 ([] : List (List Int)) 0 0 0 0 0 false false 0 0 0 0 0 ([] : List Int) ([] : List Int)).bind fun t543 => (some t543))))))) = some r := by first | (rw [hy535]; with_reducible exact H) | (have H2_ := (Option.bind_some _ _).symm.trans H; rw [hy535]; with_reducible exact H2_) | (have H2_ := (Option.bind_some _ _).symm.trans H; with_reducible exact H2_) | with_reducible exact H | (rw [hy535]; exact H) | exact H
  have Ny535 := Aside0.mk hy535
  clear hy535
  replace H := Option.bind_eq_some_iff.mp H
  obtain ⟨⟨t539, t542⟩, A20, H⟩ := H
  replace H : (if a0 = 1 then (none) else (if a0 = 2 then (none) else (if a0 = 5 then (none) else (if a0 = 7 then (none) else ((weftlaw3_plays.f k a0 t539 ([] : List (List Int)) 0 0 0 0 0 false false 0 0 0 0 0 ([] : List Int) ([] : List Int)).bind fun t543 => (some t543)))))) = some r := H
  have A2 := Aside0.mk A20
  clear A20
  by_cases c3 : a0 = 1
  · rw [if_pos c3] at H
    exact absurd H (by simp)
  · rw [if_neg c3] at H
    have c3b0 : (a0 == 1) = false := beq_eq_false_iff_ne.mpr c3
    have c3b1 : (a0 != 1) = true := bne_iff_ne.mpr c3
    by_cases c4 : a0 = 2
    · rw [if_pos c4] at H
      exact absurd H (by simp)
    · rw [if_neg c4] at H
      have c4b0 : (a0 == 2) = false := beq_eq_false_iff_ne.mpr c4
      have c4b1 : (a0 != 2) = true := bne_iff_ne.mpr c4
      by_cases c5 : a0 = 5
      · rw [if_pos c5] at H
        exact absurd H (by simp)
      · rw [if_neg c5] at H
        have c5b0 : (a0 == 5) = false := beq_eq_false_iff_ne.mpr c5
        have c5b1 : (a0 != 5) = true := bne_iff_ne.mpr c5
        by_cases c6 : a0 = 7
        · rw [if_pos c6] at H
          exact absurd H (by simp)
        · rw [if_neg c6] at H
          have c6b0 : (a0 == 7) = false := beq_eq_false_iff_ne.mpr c6
          have c6b1 : (a0 != 7) = true := bne_iff_ne.mpr c6
          replace H := Option.bind_eq_some_iff.mp H
          obtain ⟨t543, A70, H⟩ := H
          replace H : (some t543) = some r := H
          have A7 := Aside0.mk A70
          clear A70
          obtain rfl := Option.some.inj H
          go_enter Try.func23, Try.ntmps23
          go_wp2_with (first | ((with_reducible refine gate_dst (N := 7) rfl ?_); refine Kd.R_lit (Kd.int .u8) _ 5 ?hg (N := 7) ?hd (xs := ([1, 2, 3] : List Int)) (inner := [.int .u8 1, .int .u8 2, .int .u8 3]) (ok := fun _ => True) (okp := fun _ => True) ?hr ?hp (fun _ hk => hk) trivial (Below.refl _ _) (Nat.le_refl _) (by simp) ?_; (case hd => rfl); (case hg => rfl); (case hr => first | (go_simp; done) | (go_simp; rfl)); (case hp => exact (Reps.one (show Kd.M (Kd.int .u8) _ _ _ 1 [.int .u8 1] from rfl) (Reps.one (show Kd.M (Kd.int .u8) _ _ _ 2 [.int .u8 2] from rfl) (Reps.one (show Kd.M (Kd.int .u8) _ _ _ 3 [.int .u8 3] from rfl) (Reps.none _ _))))); intro v536 w8 ho9 hb hg_ hnew_; clear hg_ hnew_; (first | rw [← Ny535.out] at ho9 | (simp only [Int.reduceToNat] at ho9; rw [← Ny535.out] at ho9)); have n0_ := Aside0.mk (Kd.R_lower ho9 (below_size (by repeat (first | (with_reducible first | exact HB.out | apply below_alloc | apply pw_below_drewN | apply below_drew1) | exact HB.out)))); have n1_ := Aside0.mk (below_step (by repeat (first | (with_reducible first | exact HB.out | apply below_alloc | apply pw_below_drewN | apply below_drew1) | exact HB.out)) hb); clear HB; have HO537 := n0_; have HB := n1_; clear n0_ n1_; clear hb ho9; obtain ⟨Ao10, co10, eo10⟩ := Kd.R_slice HO537.out; subst eo10) | ((with_reducible refine gate_dst (N := 3) rfl ?_); refine box_event ?hg (N := 3) ?hd (cs := #[.int .u8 0, .int .u16 0, .bool false, .bool false, .int .i64 0, .int .u8 0, .int .u8 0, .int .u32 0, .int .u32 0, .slice none 0 0, .slice none 0 0]) (t := 33) ?hr ?_; (case hd => rfl); (case hg => rfl); (case hr => first | (go_simp; done) | (go_simp; rfl)); intro gb538 hg w11 hbox hb; have n0_ := Aside0.mk (Kd.R_below (by (with_reducible repeat (first | apply Kd.R_alloc | apply Kd.R_drewN | apply Kd.R_drew)); exact HO537.out) hb); have n1_ := Aside0.mk (below_step (by repeat (first | (with_reducible first | exact HB.out | apply below_alloc | apply pw_below_drewN | apply below_drew1) | exact HB.out)) hb); have n2_ := Aside0.mk (hbox); have n3_ := Aside0.mk ((by rw [hg]; exact (below_size (by repeat (first | (with_reducible first | exact HB.out | apply below_alloc | apply pw_below_drewN | apply below_drew1) | exact HB.out))) : w.heap.size ≤ gb538)); have n4_ := Aside0.mk ((by rw [hg]; exact (below_size (by repeat (first | (with_reducible first | exact HB.out | apply below_alloc | apply pw_below_drewN | apply below_drew1) | exact HB.out))) : w.heap.size ≤ gb538)); clear HO537; clear HB; have HO537 := n0_; have HB := n1_; have BK538 := n2_; have GW538 := n3_; have GE538 := n4_; clear n0_ n1_ n2_ n3_ n4_; clear hb hbox hg; have hcz12_0 : w11.cell? ⟨gb538, 0, none⟩ = some (.int .u8 0) := (blk_cell BK538.out 0).trans rfl; have hcz12_1 : w11.cell? ⟨gb538, 1, none⟩ = some (.int .u16 0) := (blk_cell BK538.out 1).trans rfl; have hcz12_2 : w11.cell? ⟨gb538, 2, none⟩ = some (.bool false) := (blk_cell BK538.out 2).trans rfl; have hcz12_3 : w11.cell? ⟨gb538, 3, none⟩ = some (.bool false) := (blk_cell BK538.out 3).trans rfl; have hcz12_4 : w11.cell? ⟨gb538, 4, none⟩ = some (.int .i64 0) := (blk_cell BK538.out 4).trans rfl; have hcz12_5 : w11.cell? ⟨gb538, 5, none⟩ = some (.int .u8 0) := (blk_cell BK538.out 5).trans rfl; have hcz12_6 : w11.cell? ⟨gb538, 6, none⟩ = some (.int .u8 0) := (blk_cell BK538.out 6).trans rfl; have hcz12_7 : w11.cell? ⟨gb538, 7, none⟩ = some (.int .u32 0) := (blk_cell BK538.out 7).trans rfl; have hcz12_8 : w11.cell? ⟨gb538, 8, none⟩ = some (.int .u32 0) := (blk_cell BK538.out 8).trans rfl; have hcz12_9 : w11.cell? ⟨gb538, 9, none⟩ = some (.slice none 0 0) := (blk_cell BK538.out 9).trans rfl; have hcz12_10 : w11.cell? ⟨gb538, 10, none⟩ = some (.slice none 0 0) := (blk_cell BK538.out 10).trans rfl; have hfz12_0 := blk_frozen BK538.out 0; have hfz12_1 := blk_frozen BK538.out 1; have hfz12_2 := blk_frozen BK538.out 2; have hfz12_3 := blk_frozen BK538.out 3; have hfz12_4 := blk_frozen BK538.out 4; have hfz12_5 := blk_frozen BK538.out 5; have hfz12_6 := blk_frozen BK538.out 6; have hfz12_7 := blk_frozen BK538.out 7; have hfz12_8 := blk_frozen BK538.out 8; have hfz12_9 := blk_frozen BK538.out 9; have hfz12_10 := blk_frozen BK538.out 10) | ((with_reducible refine gate_callee (f := 27) rfl ?_); refine goesL_ (some 11) rfl rfl Try.func27 (by kernel_rfl) rfl #[.agg #[.int .u8 0, .int .u16 7216, .bool true, .bool false, .int .i64 0, .int .u8 64, .int .u8 6, .int .u32 167838211, .int .u32 167904004, .slice none 0 0, .slice Ao10 y535.length co10]] rfl (by (try simp only [List.map_toArray, List.map_cons, List.map_nil]); first | done | rfl | (simp only [List.length_drop, List.length_take]; rfl)) ?_; (refine (weftref3_Build.calls k 0 7216 true false 0 64 6 167838211 167904004 _ _ ([] : List Int) _ _ y535 t539 t542 _ ?side1 ?side2 ?side3 ?side4 A2.out).mono ?_); (case side1 => exact Kd.C_nil _ _); (case side2 => exact Nat.le_refl _); (case side3 => refine (Kd.R_reads' (e := 5) (base := w.heap.size) (ok := fun k_ => True) (n := y535.length) (c := co10) ?_).2.2; exact (by (with_reducible repeat (first | apply Kd.R_alloc | apply Kd.R_drewN | apply Kd.R_drew)); exact (Kd.R_mono (Kd.R_far (p := ⟨gb538, 10, none⟩) (Kd.R_far (p := ⟨gb538, 9, none⟩) (Kd.R_far (p := ⟨gb538, 8, none⟩) (Kd.R_far (p := ⟨gb538, 7, none⟩) (Kd.R_far (p := ⟨gb538, 6, none⟩) (Kd.R_far (p := ⟨gb538, 5, none⟩) (Kd.R_far (p := ⟨gb538, 4, none⟩) (Kd.R_far (p := ⟨gb538, 3, none⟩) (Kd.R_far (p := ⟨gb538, 2, none⟩) (Kd.R_far (p := ⟨gb538, 1, none⟩) (Kd.R_far (p := ⟨gb538, 0, none⟩) (Kd.R_types HO537.out BK538.out (by decide)) (fun _ hk => hk.2) (.int .u8 0)) (fun _ hk => hk.2) (.int .u16 7216)) (fun _ hk => hk.2) (.bool true)) (fun _ hk => hk.2) (.bool false)) (fun _ hk => hk.2) (.int .i64 0)) (fun _ hk => hk.2) (.int .u8 64)) (fun _ hk => hk.2) (.int .u8 6)) (fun _ hk => hk.2) (.int .u32 167838211)) (fun _ hk => hk.2) (.int .u32 167904004)) (fun _ hk => hk.2) (.slice none 0 0)) (fun _ hk => hk.2) (.slice Ao10 y535.length co10)) (fun _ h_ => h_.1)))); (case side4 => exact (Kd.R_reads' HO537.out).2.1); rintro e w13 ⟨v540, rfl, ho0, hb⟩; refine ⟨_, rfl, ?_⟩; have n0_ := Aside0.mk (Kd.R_elder' (by (with_reducible repeat (first | apply Kd.R_alloc | apply Kd.R_drewN | apply Kd.R_drew)); exact (Kd.R_mono (Kd.R_far (p := ⟨gb538, 10, none⟩) (Kd.R_far (p := ⟨gb538, 9, none⟩) (Kd.R_far (p := ⟨gb538, 8, none⟩) (Kd.R_far (p := ⟨gb538, 7, none⟩) (Kd.R_far (p := ⟨gb538, 6, none⟩) (Kd.R_far (p := ⟨gb538, 5, none⟩) (Kd.R_far (p := ⟨gb538, 4, none⟩) (Kd.R_far (p := ⟨gb538, 3, none⟩) (Kd.R_far (p := ⟨gb538, 2, none⟩) (Kd.R_far (p := ⟨gb538, 1, none⟩) (Kd.R_far (p := ⟨gb538, 0, none⟩) (Kd.R_types HO537.out BK538.out (by decide)) (fun _ hk => hk.2) (.int .u8 0)) (fun _ hk => hk.2) (.int .u16 7216)) (fun _ hk => hk.2) (.bool true)) (fun _ hk => hk.2) (.bool false)) (fun _ hk => hk.2) (.int .i64 0)) (fun _ hk => hk.2) (.int .u8 64)) (fun _ hk => hk.2) (.int .u8 6)) (fun _ hk => hk.2) (.int .u32 167838211)) (fun _ hk => hk.2) (.int .u32 167904004)) (fun _ hk => hk.2) (.slice none 0 0)) (fun _ hk => hk.2) (.slice Ao10 y535.length co10)) (fun _ h_ => h_.1))) (Kd.R_base ho0) hb); have n1_ := Aside0.mk (Kd.R_lower (Kd.R_new' ho0 (Kd.R_lt (by (with_reducible repeat (first | apply Kd.R_alloc | apply Kd.R_drewN | apply Kd.R_drew)); exact (Kd.R_mono (Kd.R_far (p := ⟨gb538, 10, none⟩) (Kd.R_far (p := ⟨gb538, 9, none⟩) (Kd.R_far (p := ⟨gb538, 8, none⟩) (Kd.R_far (p := ⟨gb538, 7, none⟩) (Kd.R_far (p := ⟨gb538, 6, none⟩) (Kd.R_far (p := ⟨gb538, 5, none⟩) (Kd.R_far (p := ⟨gb538, 4, none⟩) (Kd.R_far (p := ⟨gb538, 3, none⟩) (Kd.R_far (p := ⟨gb538, 2, none⟩) (Kd.R_far (p := ⟨gb538, 1, none⟩) (Kd.R_far (p := ⟨gb538, 0, none⟩) (Kd.R_types HO537.out BK538.out (by decide)) (fun _ hk => hk.2) (.int .u8 0)) (fun _ hk => hk.2) (.int .u16 7216)) (fun _ hk => hk.2) (.bool true)) (fun _ hk => hk.2) (.bool false)) (fun _ hk => hk.2) (.int .i64 0)) (fun _ hk => hk.2) (.int .u8 64)) (fun _ hk => hk.2) (.int .u8 6)) (fun _ hk => hk.2) (.int .u32 167838211)) (fun _ hk => hk.2) (.int .u32 167904004)) (fun _ hk => hk.2) (.slice none 0 0)) (fun _ hk => hk.2) (.slice Ao10 y535.length co10)) (fun _ h_ => h_.1))))) (below_size (by repeat (first | (with_reducible first | exact HB.out | apply below_alloc | apply pw_below_drewN | apply below_drew1 | refine below_set ?_ GE538.out) | exact HB.out)))); have n2_ := Aside0.mk (blk_below (g := gb538) (o := .cells #[.int .u8 0, .int .u16 7216, .bool true, .bool false, .int .i64 0, .int .u8 64, .int .u8 6, .int .u32 167838211, .int .u32 167904004, .slice none 0 0, .slice Ao10 y535.length co10] 33 (0, 0)) (by (with_reducible repeat (first | refine blk_drewN ?_ _ | refine blk_drew ?_ | refine blk_alloc ?_ _)); refine blk_put (cs := #[.int .u8 0, .int .u16 7216, .bool true, .bool false, .int .i64 0, .int .u8 64, .int .u8 6, .int .u32 167838211, .int .u32 167904004, .slice none 0 0, .slice none 0 0]) ?_ 10 _ rfl; (with_reducible repeat (first | refine blk_drewN ?_ _ | refine blk_drew ?_ | refine blk_alloc ?_ _)); refine blk_put (cs := #[.int .u8 0, .int .u16 7216, .bool true, .bool false, .int .i64 0, .int .u8 64, .int .u8 6, .int .u32 167838211, .int .u32 167904004, .slice none 0 0, .slice none 0 0]) ?_ 9 _ rfl; (with_reducible repeat (first | refine blk_drewN ?_ _ | refine blk_drew ?_ | refine blk_alloc ?_ _)); refine blk_put (cs := #[.int .u8 0, .int .u16 7216, .bool true, .bool false, .int .i64 0, .int .u8 64, .int .u8 6, .int .u32 167838211, .int .u32 0, .slice none 0 0, .slice none 0 0]) ?_ 8 _ rfl; (with_reducible repeat (first | refine blk_drewN ?_ _ | refine blk_drew ?_ | refine blk_alloc ?_ _)); refine blk_put (cs := #[.int .u8 0, .int .u16 7216, .bool true, .bool false, .int .i64 0, .int .u8 64, .int .u8 6, .int .u32 0, .int .u32 0, .slice none 0 0, .slice none 0 0]) ?_ 7 _ rfl; (with_reducible repeat (first | refine blk_drewN ?_ _ | refine blk_drew ?_ | refine blk_alloc ?_ _)); refine blk_put (cs := #[.int .u8 0, .int .u16 7216, .bool true, .bool false, .int .i64 0, .int .u8 64, .int .u8 0, .int .u32 0, .int .u32 0, .slice none 0 0, .slice none 0 0]) ?_ 6 _ rfl; (with_reducible repeat (first | refine blk_drewN ?_ _ | refine blk_drew ?_ | refine blk_alloc ?_ _)); refine blk_put (cs := #[.int .u8 0, .int .u16 7216, .bool true, .bool false, .int .i64 0, .int .u8 0, .int .u8 0, .int .u32 0, .int .u32 0, .slice none 0 0, .slice none 0 0]) ?_ 5 _ rfl; (with_reducible repeat (first | refine blk_drewN ?_ _ | refine blk_drew ?_ | refine blk_alloc ?_ _)); refine blk_put (cs := #[.int .u8 0, .int .u16 7216, .bool true, .bool false, .int .i64 0, .int .u8 0, .int .u8 0, .int .u32 0, .int .u32 0, .slice none 0 0, .slice none 0 0]) ?_ 4 _ rfl; (with_reducible repeat (first | refine blk_drewN ?_ _ | refine blk_drew ?_ | refine blk_alloc ?_ _)); refine blk_put (cs := #[.int .u8 0, .int .u16 7216, .bool true, .bool false, .int .i64 0, .int .u8 0, .int .u8 0, .int .u32 0, .int .u32 0, .slice none 0 0, .slice none 0 0]) ?_ 3 _ rfl; (with_reducible repeat (first | refine blk_drewN ?_ _ | refine blk_drew ?_ | refine blk_alloc ?_ _)); refine blk_put (cs := #[.int .u8 0, .int .u16 7216, .bool false, .bool false, .int .i64 0, .int .u8 0, .int .u8 0, .int .u32 0, .int .u32 0, .slice none 0 0, .slice none 0 0]) ?_ 2 _ rfl; (with_reducible repeat (first | refine blk_drewN ?_ _ | refine blk_drew ?_ | refine blk_alloc ?_ _)); refine blk_put (cs := #[.int .u8 0, .int .u16 0, .bool false, .bool false, .int .i64 0, .int .u8 0, .int .u8 0, .int .u32 0, .int .u32 0, .slice none 0 0, .slice none 0 0]) ?_ 1 _ rfl; (with_reducible repeat (first | refine blk_drewN ?_ _ | refine blk_drew ?_ | refine blk_alloc ?_ _)); refine blk_put (cs := #[.int .u8 0, .int .u16 0, .bool false, .bool false, .int .i64 0, .int .u8 0, .int .u8 0, .int .u32 0, .int .u32 0, .slice none 0 0, .slice none 0 0]) ?_ 0 _ rfl; first | (with_reducible exact BK538.out) | (with_reducible exact blk_drewN BK538.out _) | (with_reducible exact blk_drew BK538.out) | ((with_reducible repeat (first | refine blk_drewN ?_ _ | refine blk_drew ?_ | refine blk_alloc ?_ _)); exact BK538.out)) hb); have n3_ := Aside0.mk (below_step (by repeat (first | (with_reducible first | exact HB.out | apply below_alloc | apply pw_below_drewN | apply below_drew1 | refine below_set ?_ GE538.out) | exact HB.out)) hb); clear HO537; clear BK538; clear HB; have HO537 := n0_; have HO541 := n1_; have BK538 := n2_; have HB := n3_; clear n0_ n1_ n2_ n3_; (try clear hb); (try clear hb2); (try clear hk); (try clear hi); (try clear ho0); obtain ⟨Ao14, co14, eo14⟩ := Kd.R_slice HO541.out; subst eo14) | ((with_reducible refine gate_callee (f := 24) rfl ?_); refine goesL_ (some 39) rfl rfl Try.func24 (by kernel_rfl) rfl #[.agg #[.int .i64 a0, .slice Ao14 t539.length co14, .slice none 0 0, .int .u16 0, .int .u16 0, .int .u16 0, .int .u8 0, .int .u16 0, .bool false, .bool false, .int .i64 0, .int .u8 0, .int .u8 0, .int .u32 0, .int .u32 0, .slice none 0 0, .slice none 0 0]] rfl (by (try simp only [List.map_toArray, List.map_cons, List.map_nil]); first | done | rfl | (simp only [List.length_drop, List.length_take]; rfl)) ?_; (refine (weftlaw3_plays.calls k a0 _ _ t539 _ _ ([] : List (List Int)) 0 0 0 0 0 false false 0 0 0 0 0 _ _ ([] : List Int) _ _ ([] : List Int) t543 _ ?side1 ?side2 ?side3 ?side4 ?side5 ?side6 ?side7 ?side8 A7.out).mono ?_); (case side1 => repeat (first | exact (Kd.R_reads' HO541.out).2.2 | (with_reducible refine Kd.C_alloc ?_ _) | (with_reducible refine Kd.C_drewN ?_ _) | (with_reducible refine Kd.C_drew ?_))); (case side2 => exact (Kd.R_reads' HO541.out).2.1); (case side3 => exact Kd.C_nil _ _); (case side4 => exact Nat.le_refl _); (case side5 => exact Kd.C_nil _ _); (case side6 => exact Nat.le_refl _); (case side7 => exact Kd.C_nil _ _); (case side8 => exact Nat.le_refl _); rintro e w15 ⟨rfl, hb⟩; refine ⟨_, rfl, ?_⟩; have n0_ := Aside0.mk (Kd.R_below (by (with_reducible repeat (first | apply Kd.R_alloc | apply Kd.R_drewN | apply Kd.R_drew)); exact HO537.out) hb); have n1_ := Aside0.mk (Kd.R_below (by (with_reducible repeat (first | apply Kd.R_alloc | apply Kd.R_drewN | apply Kd.R_drew)); exact HO541.out) hb); have n2_ := Aside0.mk (blk_below (g := gb538) (o := .cells #[.int .u8 0, .int .u16 7216, .bool true, .bool false, .int .i64 0, .int .u8 64, .int .u8 6, .int .u32 167838211, .int .u32 167904004, .slice none 0 0, .slice Ao10 y535.length co10] 33 (0, 0)) (by first | (with_reducible exact BK538.out) | (with_reducible exact blk_drewN BK538.out _) | (with_reducible exact blk_drew BK538.out) | ((with_reducible repeat (first | refine blk_drewN ?_ _ | refine blk_drew ?_ | refine blk_alloc ?_ _)); exact BK538.out)) hb); have n3_ := Aside0.mk (below_step (by repeat (first | (with_reducible first | exact HB.out | apply below_alloc | apply pw_below_drewN | apply below_drew1 | refine below_set ?_ GE538.out) | exact HB.out)) hb); clear HO537; clear HO541; clear BK538; clear HB; have HO537 := n0_; have HO541 := n1_; have BK538 := n2_; have HB := n3_; clear n0_ n1_ n2_ n3_; (try clear hb); (try clear hb2); (try clear hk); (try clear hi)))
          go_ret
          exact ⟨by first | rfl | (simp [errW_none, errW_some] <;> rfl) | (simp [*, errW_none, errW_some] <;> rfl), by repeat (first | (with_reducible first | exact HB.out | apply below_alloc | apply pw_below_drewN | apply below_drew1 | refine below_set ?_ GE538.out) | exact HB.out)⟩

/-! ### weftlaw3_upTo: function 17 -/
mutual
def weftlaw3_upTo.l0 : Nat → List (S50) → Int → Int → Int → Option (Bool)
  | 0, _, _, _, _ => none
  | k + 1, x0, x1, x2, x7 => if x7 ≤ x2 then ((weftlaw3_head.f k x7).bind fun t544 => (if t544 = true then (weftlaw3_upTo.l0 k x0 x1 x2 (wrap64 (x7 + 1))) else (some false))) else (weftlaw3_upTo.l1 k x0 x1 x2 0)
def weftlaw3_upTo.l1 : Nat → List (S50) → Int → Int → Int → Option (Bool)
  | 0, _, _, _, _ => none
  | k + 1, x0, x1, x2, x8 => if x8 < (x0.length : Int) then (if 0 ≤ x8 then (if ((rd_T50 x0 x8).f0) ≥ x1 then (if ((rd_T50 x0 x8).f0) ≤ x2 then ((weftlaw3_plays.f k ((rd_T50 x0 x8).f0) ((rd_T50 x0 x8).f1) ((rd_T50 x0 x8).f2) ((rd_T50 x0 x8).f3) ((rd_T50 x0 x8).f4) ((rd_T50 x0 x8).f5) ((rd_T50 x0 x8).f6.f0.f0) ((rd_T50 x0 x8).f6.f0.f1) ((rd_T50 x0 x8).f6.f0.f2) ((rd_T50 x0 x8).f6.f0.f3) ((rd_T50 x0 x8).f6.f0.f4) ((rd_T50 x0 x8).f6.f0.f5) ((rd_T50 x0 x8).f6.f0.f6) ((rd_T50 x0 x8).f6.f0.f7) ((rd_T50 x0 x8).f6.f0.f8) ((rd_T50 x0 x8).f6.f0.f9) ((rd_T50 x0 x8).f6.f1)).bind fun t547 => (if t547 = true then (weftlaw3_upTo.l1 k x0 x1 x2 (wrap64 (x8 + 1))) else (some false))) else (weftlaw3_upTo.l1 k x0 x1 x2 (wrap64 (x8 + 1)))) else (weftlaw3_upTo.l1 k x0 x1 x2 (wrap64 (x8 + 1)))) else (none)) else (some true)
end
def weftlaw3_upTo.f (k : Nat) (l0 : List (S50)) (a1 : Int) (a2 : Int) : Option (Bool) := weftlaw3_upTo.l0 k l0 a1 a2 a1
theorem weftlaw3_upTo.mono_l : ∀ k, (∀ y0 y1 y2 y3, LeO (weftlaw3_upTo.l0 k y0 y1 y2 y3) (weftlaw3_upTo.l0 (k + 1) y0 y1 y2 y3)) ∧ (∀ y0 y1 y2 y3, LeO (weftlaw3_upTo.l1 k y0 y1 y2 y3) (weftlaw3_upTo.l1 (k + 1) y0 y1 y2 y3))
  | 0 => ⟨fun _ _ _ _ r h => by simp [weftlaw3_upTo.l0] at h, fun _ _ _ _ r h => by simp [weftlaw3_upTo.l1] at h⟩
  | k + 1 => by
    obtain ⟨ih0, ih1⟩ := weftlaw3_upTo.mono_l k
    refine ⟨?_, ?_⟩
    · intro y0 y1 y2 y3
      unfold weftlaw3_upTo.l0
      repeat' first
      | (with_reducible exact ih0 _ _ _ _)
      | (with_reducible exact ih1 _ _ _ _)
      | (with_reducible exact weftlaw3_head.mono _ _)
      | (with_reducible exact weftlaw3_plays.mono _ _ _ _ _ _ _ _ _ _ _ _ _ _ _ _ _ _)
      | (with_reducible exact LeO.refl _)
      | (with_reducible exact LeO.none _)
      | (with_reducible refine LeO.ite ?_ ?_)
      | (with_reducible refine LeO.bind ?_ (fun _ => ?_))
      | exact ih0 _ _ _ _
      | exact ih1 _ _ _ _
      | exact weftlaw3_head.mono _ _
      | exact weftlaw3_plays.mono _ _ _ _ _ _ _ _ _ _ _ _ _ _ _ _ _ _
      | exact LeO.none _
      | refine LeO.ite ?_ ?_
      | refine LeO.bind ?_ (fun _ => ?_)
    · intro y0 y1 y2 y3
      unfold weftlaw3_upTo.l1
      repeat' first
      | (with_reducible exact ih0 _ _ _ _)
      | (with_reducible exact ih1 _ _ _ _)
      | (with_reducible exact weftlaw3_head.mono _ _)
      | (with_reducible exact weftlaw3_plays.mono _ _ _ _ _ _ _ _ _ _ _ _ _ _ _ _ _ _)
      | (with_reducible exact LeO.refl _)
      | (with_reducible exact LeO.none _)
      | (with_reducible refine LeO.ite ?_ ?_)
      | (with_reducible refine LeO.bind ?_ (fun _ => ?_))
      | exact ih0 _ _ _ _
      | exact ih1 _ _ _ _
      | exact weftlaw3_head.mono _ _
      | exact weftlaw3_plays.mono _ _ _ _ _ _ _ _ _ _ _ _ _ _ _ _ _ _
      | exact LeO.none _
      | refine LeO.ite ?_ ?_
      | refine LeO.bind ?_ (fun _ => ?_)
theorem weftlaw3_upTo.mono : ∀ a0 a1 a2 k, LeO (weftlaw3_upTo.f k a0 a1 a2) (weftlaw3_upTo.f (k + 1) a0 a1 a2) := by
  intro a0 a1 a2 k
  obtain ⟨ih0, ih1⟩ := weftlaw3_upTo.mono_l k
  unfold weftlaw3_upTo.f
  repeat' first
      | (with_reducible exact ih0 _ _ _ _)
      | (with_reducible exact ih1 _ _ _ _)
      | (with_reducible exact weftlaw3_head.mono _ _)
      | (with_reducible exact weftlaw3_plays.mono _ _ _ _ _ _ _ _ _ _ _ _ _ _ _ _ _ _)
      | (with_reducible exact LeO.refl _)
      | (with_reducible exact LeO.none _)
      | (with_reducible refine LeO.ite ?_ ?_)
      | (with_reducible refine LeO.bind ?_ (fun _ => ?_))
      | exact ih0 _ _ _ _
      | exact ih1 _ _ _ _
      | exact weftlaw3_head.mono _ _
      | exact weftlaw3_plays.mono _ _ _ _ _ _ _ _ _ _ _ _ _ _ _ _ _ _
      | exact LeO.none _
      | refine LeO.ite ?_ ?_
      | refine LeO.bind ?_ (fun _ => ?_)
set_option maxHeartbeats 8000000 in
set_option maxRecDepth 100000 in
theorem weftlaw3_upTo.calls (k : Nat) (A0 : Option Addr) (c0 : Nat) (l0 : List (S50)) (a1 : Int) (a2 : Int) (r : Bool) (w : World) (hr0 : Kd.C k50 w A0 l0.length l0) (hc0 : l0.length ≤ c0) (h : weftlaw3_upTo.f k l0 a1 a2 = some r) :
    Calls Try.prog 17 #[.slice A0 l0.length c0, .int .i64 a1, .int .i64 a2] w fun e w' => e = .returned (.bool r) ∧ Below w.heap.size w w' := by
  have hu50 := Try.underlying50
  have HR0 := Aside0.mk hr0
  have HC0 := Aside0.mk hc0
  clear hr0 hc0
  have HB := Aside0.mk (Below.refl w.heap.size w)
  have H : (weftlaw3_upTo.l0 k l0 a1 a2 a1) = some r := h
  clear h
  have H' := Aside0.mk H
  clear H
  go_enter Try.func17, Try.ntmps17
  go_wp2
  go_loopg [7] k (fun kq v7 w' => ∃ (x7_1 : Int), v7 = .int .i64 x7_1 ∧ Aside0 (weftlaw3_upTo.l0 kq l0 a1 a2 x7_1 = some r) ∧ Aside0 (kq ≤ k) ∧ Aside0 (Below w.heap.size w w'))
  case atStart => exact ⟨(a1), (by first | rfl | (simp; done) | (simp [*]; done)), H', ⟨Nat.le_refl _⟩, ⟨by repeat (first | (with_reducible first | exact HB.out | apply below_alloc | apply pw_below_drewN | apply below_drew1) | exact HB.out)⟩⟩
  case round =>
    clear H'
    try clear c1
    try clear p2
    obtain ⟨x7_1, rfl, HA, HK1, HB⟩ := hrel
    cases gk with
    | zero => exact absurd HA.out (by simp [weftlaw3_upTo.l0])
    | succ k1 =>
      have H := HA.out
      clear HA
      simp only [weftlaw3_upTo.l0] at H
      by_cases c4 : x7_1 ≤ a2
      · rw [if_pos c4] at H
        have c4b0 : decide (x7_1 ≤ a2) = true := decide_eq_true c4
        clear c4
        replace H := Option.bind_eq_some_iff.mp H
        obtain ⟨t544, A50, H⟩ := H
        replace H : (if t544 = true then (weftlaw3_upTo.l0 k1 l0 a1 a2 (wrap64 (x7_1 + 1))) else (some false)) = some r := H
        have A5 := Aside0.mk A50
        clear A50
        by_cases c6 : t544 = true
        · subst c6
          have H1 : (weftlaw3_upTo.l0 k1 l0 a1 a2 (wrap64 (x7_1 + 1))) = some r := by rw [if_pos rfl] at H; exact H
          clear H
          have H := H1
          clear H1
          have H' := Aside0.mk H
          clear H
          go_wp2_with (first | ((with_reducible refine gate_callee (f := 23) rfl ?_); refine goesL_ (some 17) rfl rfl Try.func23 (by kernel_rfl) rfl #[.int .i64 x7_1] rfl (by (try simp only [List.map_toArray, List.map_cons, List.map_nil]); first | done | rfl | (simp only [List.length_drop, List.length_take]; rfl)) ?_; (with_reducible refine (weftlaw3_head.calls k1 x7_1 true _ A5.out).mono ?_); rintro e w7 ⟨rfl, hb⟩; refine ⟨_, rfl, ?_⟩; have n0_ := Aside0.mk (below_step (by repeat (first | (with_reducible first | exact HB.out | apply below_alloc | apply pw_below_drewN | apply below_drew1) | exact HB.out)) hb); clear HB; have HB := n0_; clear n0_; (try clear hb); (try clear hb2); (try clear hk); (try clear hi)))
          go_roundg k1
          case measure => have := HK1.out; omega
          case rel => exact ⟨(wrap64 (x7_1 + 1)), (by first | rfl | (simp; done) | (simp [*]; done)), H', ⟨by have := HK1.out; omega⟩, ⟨by repeat (first | (with_reducible first | exact HB.out | apply below_alloc | apply pw_below_drewN | apply below_drew1) | exact HB.out)⟩⟩
        · replace c6 := Bool.eq_false_iff.mpr c6
          subst c6
          have H1 : (some false) = some r := by rw [if_neg (show ¬ (false = true) by decide)] at H; exact H
          clear H
          have H := H1
          clear H1
          obtain rfl := Option.some.inj H
          go_wp2_with (first | ((with_reducible refine gate_callee (f := 23) rfl ?_); refine goesL_ (some 17) rfl rfl Try.func23 (by kernel_rfl) rfl #[.int .i64 x7_1] rfl (by (try simp only [List.map_toArray, List.map_cons, List.map_nil]); first | done | rfl | (simp only [List.length_drop, List.length_take]; rfl)) ?_; (with_reducible refine (weftlaw3_head.calls k1 x7_1 false _ A5.out).mono ?_); rintro e w8 ⟨rfl, hb⟩; refine ⟨_, rfl, ?_⟩; have n0_ := Aside0.mk (below_step (by repeat (first | (with_reducible first | exact HB.out | apply below_alloc | apply pw_below_drewN | apply below_drew1) | exact HB.out)) hb); clear HB; have HB := n0_; clear n0_; (try clear hb); (try clear hb2); (try clear hk); (try clear hi)))
          go_ret
          exact ⟨by first | rfl | (simp [errW_none, errW_some] <;> rfl) | (simp [*, errW_none, errW_some] <;> rfl), by repeat (first | (with_reducible first | exact HB.out | apply below_alloc | apply pw_below_drewN | apply below_drew1) | exact HB.out)⟩
      · rw [if_neg c4] at H
        have c4b0 : decide (x7_1 ≤ a2) = false := decide_eq_false c4
        clear c4
        have H' := Aside0.mk H
        clear H
        go_wp2
        go_loopg [8] k1 (fun kq v8 w' => ∃ (x8_2 : Int), v8 = .int .i64 x8_2 ∧ Aside0 (weftlaw3_upTo.l1 kq l0 a1 a2 x8_2 = some r) ∧ Aside0 (kq ≤ k1) ∧ Aside0 (Below w.heap.size w w'))
        case atStart => exact ⟨(0), (by first | rfl | (simp; done) | (simp [*]; done)), H', ⟨Nat.le_refl _⟩, ⟨by repeat (first | (with_reducible first | exact HB.out | apply below_alloc | apply pw_below_drewN | apply below_drew1) | exact HB.out)⟩⟩
        case round =>
          clear H'
          try clear c1
          try clear c2
          try clear p2
          try clear c4
          try clear c4b0
          try clear c6
          try clear p6
          try clear p2
          obtain ⟨x8_2, rfl, HA, HK2, HB⟩ := hrel
          cases gk with
          | zero => exact absurd HA.out (by simp [weftlaw3_upTo.l1])
          | succ k2 =>
            have H := HA.out
            clear HA
            simp only [weftlaw3_upTo.l1] at H
            by_cases c9 : x8_2 < (l0.length : Int)
            · rw [if_pos c9] at H
              have c9b0 : decide (x8_2 < (l0.length : Int)) = true := decide_eq_true c9
              clear c9
              by_cases c10 : 0 ≤ x8_2
              · rw [if_pos c10] at H
                have c10b0 : decide (0 ≤ x8_2) = true := decide_eq_true c10
                clear c10
                have p545 : 0 ≤ (x8_2 : Int) := of_decide_eq_true (by first | (with_reducible assumption) | assumption)
                have q545 : x8_2 < (l0.length : Int) := of_decide_eq_true (by first | (with_reducible assumption) | assumption)
                obtain ⟨ad545, A545_1, c545_1, A545_2, c545_2, A545_15, c545_15, A545_16, c545_16, e545, hx545_0, hx545_1, hx545_2, hx545_3, hx545_4, hx545_5, hx545_6, hx545_7, hx545_8, hx545_9, hx545_10, hx545_11, hx545_12, hx545_13, hx545_14, hx545_15, hx545_16, hl545_1, hi545_1, hl545_2, hi545_2, hl545_15, hi545_15, hl545_16, hi545_16⟩ := at_T50 HR0.out x8_2 p545 q545
                cases e545
                generalize hX545 : rd_T50 l0 x8_2 = X545 at *
                replace hx545_0 := (HB.out.cell (World.block_lt_of_cell? w _ hx545_0)).trans hx545_0
                replace hx545_1 := (HB.out.cell (World.block_lt_of_cell? w _ hx545_1)).trans hx545_1
                replace hx545_2 := (HB.out.cell (World.block_lt_of_cell? w _ hx545_2)).trans hx545_2
                replace hx545_3 := (HB.out.cell (World.block_lt_of_cell? w _ hx545_3)).trans hx545_3
                replace hx545_4 := (HB.out.cell (World.block_lt_of_cell? w _ hx545_4)).trans hx545_4
                replace hx545_5 := (HB.out.cell (World.block_lt_of_cell? w _ hx545_5)).trans hx545_5
                replace hx545_6 := (HB.out.cell (World.block_lt_of_cell? w _ hx545_6)).trans hx545_6
                replace hx545_7 := (HB.out.cell (World.block_lt_of_cell? w _ hx545_7)).trans hx545_7
                replace hx545_8 := (HB.out.cell (World.block_lt_of_cell? w _ hx545_8)).trans hx545_8
                replace hx545_9 := (HB.out.cell (World.block_lt_of_cell? w _ hx545_9)).trans hx545_9
                replace hx545_10 := (HB.out.cell (World.block_lt_of_cell? w _ hx545_10)).trans hx545_10
                replace hx545_11 := (HB.out.cell (World.block_lt_of_cell? w _ hx545_11)).trans hx545_11
                replace hx545_12 := (HB.out.cell (World.block_lt_of_cell? w _ hx545_12)).trans hx545_12
                replace hx545_13 := (HB.out.cell (World.block_lt_of_cell? w _ hx545_13)).trans hx545_13
                replace hx545_14 := (HB.out.cell (World.block_lt_of_cell? w _ hx545_14)).trans hx545_14
                replace hx545_15 := (HB.out.cell (World.block_lt_of_cell? w _ hx545_15)).trans hx545_15
                replace hx545_16 := (HB.out.cell (World.block_lt_of_cell? w _ hx545_16)).trans hx545_16
                have HR545_1 := Aside0.mk hi545_1
                have HC545_1 := Aside0.mk hl545_1
                clear hi545_1 hl545_1
                have HR545_2 := Aside0.mk hi545_2
                have HC545_2 := Aside0.mk hl545_2
                clear hi545_2 hl545_2
                have HR545_15 := Aside0.mk hi545_15
                have HC545_15 := Aside0.mk hl545_15
                clear hi545_15 hl545_15
                have HR545_16 := Aside0.mk hi545_16
                have HC545_16 := Aside0.mk hl545_16
                clear hi545_16 hl545_16
                replace p545 := eq_true p545
                replace q545 := eq_true q545
                go_upto_region 10 with (first | ((with_reducible refine gate_dst (N := 9) rfl ?_); refine box_event ?hg (N := 9) ?hd (cs := #[.int .i64 0, .slice none 0 0, .slice none 0 0, .int .u16 0, .int .u16 0, .int .u16 0, .int .u8 0, .int .u16 0, .bool false, .bool false, .int .i64 0, .int .u8 0, .int .u8 0, .int .u32 0, .int .u32 0, .slice none 0 0, .slice none 0 0]) (t := 50) ?hr ?_; (case hd => rfl); (case hg => rfl); (case hr => first | (go_simp; done) | (go_simp; rfl)); intro gb546 hg w29 hbox hb; have n0_ := Aside0.mk (below_step (by repeat (first | (with_reducible first | exact HB.out | apply below_alloc | apply pw_below_drewN | apply below_drew1) | exact HB.out)) hb); have n1_ := Aside0.mk (hbox); have n2_ := Aside0.mk ((by rw [hg]; exact (below_size (by repeat (first | (with_reducible first | exact HB.out | apply below_alloc | apply pw_below_drewN | apply below_drew1) | exact HB.out))) : w.heap.size ≤ gb546)); have n3_ := Aside0.mk ((by rw [hg]; exact (below_size (by repeat (first | (with_reducible first | exact HB.out | apply below_alloc | apply pw_below_drewN | apply below_drew1) | exact HB.out))) : w.heap.size ≤ gb546)); clear HB; have HB := n0_; have BK546 := n1_; have GW546 := n2_; have GE546 := n3_; clear n0_ n1_ n2_ n3_; clear hb hbox hg; have hcz30_0 : w29.cell? ⟨gb546, 0, none⟩ = some (.int .i64 0) := (blk_cell BK546.out 0).trans rfl; have hcz30_1 : w29.cell? ⟨gb546, 1, none⟩ = some (.slice none 0 0) := (blk_cell BK546.out 1).trans rfl; have hcz30_2 : w29.cell? ⟨gb546, 2, none⟩ = some (.slice none 0 0) := (blk_cell BK546.out 2).trans rfl; have hcz30_3 : w29.cell? ⟨gb546, 3, none⟩ = some (.int .u16 0) := (blk_cell BK546.out 3).trans rfl; have hcz30_4 : w29.cell? ⟨gb546, 4, none⟩ = some (.int .u16 0) := (blk_cell BK546.out 4).trans rfl; have hcz30_5 : w29.cell? ⟨gb546, 5, none⟩ = some (.int .u16 0) := (blk_cell BK546.out 5).trans rfl; have hcz30_6 : w29.cell? ⟨gb546, 6, none⟩ = some (.int .u8 0) := (blk_cell BK546.out 6).trans rfl; have hcz30_7 : w29.cell? ⟨gb546, 7, none⟩ = some (.int .u16 0) := (blk_cell BK546.out 7).trans rfl; have hcz30_8 : w29.cell? ⟨gb546, 8, none⟩ = some (.bool false) := (blk_cell BK546.out 8).trans rfl; have hcz30_9 : w29.cell? ⟨gb546, 9, none⟩ = some (.bool false) := (blk_cell BK546.out 9).trans rfl; have hcz30_10 : w29.cell? ⟨gb546, 10, none⟩ = some (.int .i64 0) := (blk_cell BK546.out 10).trans rfl; have hcz30_11 : w29.cell? ⟨gb546, 11, none⟩ = some (.int .u8 0) := (blk_cell BK546.out 11).trans rfl; have hcz30_12 : w29.cell? ⟨gb546, 12, none⟩ = some (.int .u8 0) := (blk_cell BK546.out 12).trans rfl; have hcz30_13 : w29.cell? ⟨gb546, 13, none⟩ = some (.int .u32 0) := (blk_cell BK546.out 13).trans rfl; have hcz30_14 : w29.cell? ⟨gb546, 14, none⟩ = some (.int .u32 0) := (blk_cell BK546.out 14).trans rfl; have hcz30_15 : w29.cell? ⟨gb546, 15, none⟩ = some (.slice none 0 0) := (blk_cell BK546.out 15).trans rfl; have hcz30_16 : w29.cell? ⟨gb546, 16, none⟩ = some (.slice none 0 0) := (blk_cell BK546.out 16).trans rfl; have hfz30_0 := blk_frozen BK546.out 0; have hfz30_1 := blk_frozen BK546.out 1; have hfz30_2 := blk_frozen BK546.out 2; have hfz30_3 := blk_frozen BK546.out 3; have hfz30_4 := blk_frozen BK546.out 4; have hfz30_5 := blk_frozen BK546.out 5; have hfz30_6 := blk_frozen BK546.out 6; have hfz30_7 := blk_frozen BK546.out 7; have hfz30_8 := blk_frozen BK546.out 8; have hfz30_9 := blk_frozen BK546.out 9; have hfz30_10 := blk_frozen BK546.out 10; have hfz30_11 := blk_frozen BK546.out 11; have hfz30_12 := blk_frozen BK546.out 12; have hfz30_13 := blk_frozen BK546.out 13; have hfz30_14 := blk_frozen BK546.out 14; have hfz30_15 := blk_frozen BK546.out 15; have hfz30_16 := blk_frozen BK546.out 16) | ((with_reducible refine gate_store (t := 50) (p := 9) rfl ?_); refine store_event (t := 50) (p := 9) (v := ?vo_w31) (w1 := (((((((((((((((((w29.setCell ⟨gb546, 0, none⟩ (.int .i64 (X545.f0))).setCell ⟨gb546, 1, none⟩ (.slice A545_1 (X545.f1).length c545_1)).setCell ⟨gb546, 2, none⟩ (.slice A545_2 (X545.f2).length c545_2)).setCell ⟨gb546, 3, none⟩ (.int .u16 (X545.f3))).setCell ⟨gb546, 4, none⟩ (.int .u16 (X545.f4))).setCell ⟨gb546, 5, none⟩ (.int .u16 (X545.f5))).setCell ⟨gb546, 6, none⟩ (.int .u8 (X545.f6.f0.f0))).setCell ⟨gb546, 7, none⟩ (.int .u16 (X545.f6.f0.f1))).setCell ⟨gb546, 8, none⟩ (.bool (X545.f6.f0.f2))).setCell ⟨gb546, 9, none⟩ (.bool (X545.f6.f0.f3))).setCell ⟨gb546, 10, none⟩ (.int .i64 (X545.f6.f0.f4))).setCell ⟨gb546, 11, none⟩ (.int .u8 (X545.f6.f0.f5))).setCell ⟨gb546, 12, none⟩ (.int .u8 (X545.f6.f0.f6))).setCell ⟨gb546, 13, none⟩ (.int .u32 (X545.f6.f0.f7))).setCell ⟨gb546, 14, none⟩ (.int .u32 (X545.f6.f0.f8))).setCell ⟨gb546, 15, none⟩ (.slice A545_15 (X545.f6.f0.f9).length c545_15)).setCell ⟨gb546, 16, none⟩ (.slice A545_16 (X545.f6.f1).length c545_16))) ?hg ?ho ?hn ?hr ?_; (case ho => rfl); (case hg => rfl); (case hn => rfl); (case hr => first | (go_simp; done) | (go_simp; rfl)); intro w31 hw; have n0_ : Aside0 (w31.heap[gb546]? = some (.cells #[.int .i64 (X545.f0), .slice A545_1 (X545.f1).length c545_1, .slice A545_2 (X545.f2).length c545_2, .int .u16 (X545.f3), .int .u16 (X545.f4), .int .u16 (X545.f5), .int .u8 (X545.f6.f0.f0), .int .u16 (X545.f6.f0.f1), .bool (X545.f6.f0.f2), .bool (X545.f6.f0.f3), .int .i64 (X545.f6.f0.f4), .int .u8 (X545.f6.f0.f5), .int .u8 (X545.f6.f0.f6), .int .u32 (X545.f6.f0.f7), .int .u32 (X545.f6.f0.f8), .slice A545_15 (X545.f6.f0.f9).length c545_15, .slice A545_16 (X545.f6.f1).length c545_16] 50 (0, 0))) := ⟨(by rw [hw]; exact (by (with_reducible repeat (first | refine blk_drewN ?_ _ | refine blk_drew ?_ | refine blk_alloc ?_ _)); refine blk_put (cs := #[.int .i64 (X545.f0), .slice A545_1 (X545.f1).length c545_1, .slice A545_2 (X545.f2).length c545_2, .int .u16 (X545.f3), .int .u16 (X545.f4), .int .u16 (X545.f5), .int .u8 (X545.f6.f0.f0), .int .u16 (X545.f6.f0.f1), .bool (X545.f6.f0.f2), .bool (X545.f6.f0.f3), .int .i64 (X545.f6.f0.f4), .int .u8 (X545.f6.f0.f5), .int .u8 (X545.f6.f0.f6), .int .u32 (X545.f6.f0.f7), .int .u32 (X545.f6.f0.f8), .slice A545_15 (X545.f6.f0.f9).length c545_15, .slice none 0 0]) ?_ 16 _ rfl; (with_reducible repeat (first | refine blk_drewN ?_ _ | refine blk_drew ?_ | refine blk_alloc ?_ _)); refine blk_put (cs := #[.int .i64 (X545.f0), .slice A545_1 (X545.f1).length c545_1, .slice A545_2 (X545.f2).length c545_2, .int .u16 (X545.f3), .int .u16 (X545.f4), .int .u16 (X545.f5), .int .u8 (X545.f6.f0.f0), .int .u16 (X545.f6.f0.f1), .bool (X545.f6.f0.f2), .bool (X545.f6.f0.f3), .int .i64 (X545.f6.f0.f4), .int .u8 (X545.f6.f0.f5), .int .u8 (X545.f6.f0.f6), .int .u32 (X545.f6.f0.f7), .int .u32 (X545.f6.f0.f8), .slice none 0 0, .slice none 0 0]) ?_ 15 _ rfl; (with_reducible repeat (first | refine blk_drewN ?_ _ | refine blk_drew ?_ | refine blk_alloc ?_ _)); refine blk_put (cs := #[.int .i64 (X545.f0), .slice A545_1 (X545.f1).length c545_1, .slice A545_2 (X545.f2).length c545_2, .int .u16 (X545.f3), .int .u16 (X545.f4), .int .u16 (X545.f5), .int .u8 (X545.f6.f0.f0), .int .u16 (X545.f6.f0.f1), .bool (X545.f6.f0.f2), .bool (X545.f6.f0.f3), .int .i64 (X545.f6.f0.f4), .int .u8 (X545.f6.f0.f5), .int .u8 (X545.f6.f0.f6), .int .u32 (X545.f6.f0.f7), .int .u32 0, .slice none 0 0, .slice none 0 0]) ?_ 14 _ rfl; (with_reducible repeat (first | refine blk_drewN ?_ _ | refine blk_drew ?_ | refine blk_alloc ?_ _)); refine blk_put (cs := #[.int .i64 (X545.f0), .slice A545_1 (X545.f1).length c545_1, .slice A545_2 (X545.f2).length c545_2, .int .u16 (X545.f3), .int .u16 (X545.f4), .int .u16 (X545.f5), .int .u8 (X545.f6.f0.f0), .int .u16 (X545.f6.f0.f1), .bool (X545.f6.f0.f2), .bool (X545.f6.f0.f3), .int .i64 (X545.f6.f0.f4), .int .u8 (X545.f6.f0.f5), .int .u8 (X545.f6.f0.f6), .int .u32 0, .int .u32 0, .slice none 0 0, .slice none 0 0]) ?_ 13 _ rfl; (with_reducible repeat (first | refine blk_drewN ?_ _ | refine blk_drew ?_ | refine blk_alloc ?_ _)); refine blk_put (cs := #[.int .i64 (X545.f0), .slice A545_1 (X545.f1).length c545_1, .slice A545_2 (X545.f2).length c545_2, .int .u16 (X545.f3), .int .u16 (X545.f4), .int .u16 (X545.f5), .int .u8 (X545.f6.f0.f0), .int .u16 (X545.f6.f0.f1), .bool (X545.f6.f0.f2), .bool (X545.f6.f0.f3), .int .i64 (X545.f6.f0.f4), .int .u8 (X545.f6.f0.f5), .int .u8 0, .int .u32 0, .int .u32 0, .slice none 0 0, .slice none 0 0]) ?_ 12 _ rfl; (with_reducible repeat (first | refine blk_drewN ?_ _ | refine blk_drew ?_ | refine blk_alloc ?_ _)); refine blk_put (cs := #[.int .i64 (X545.f0), .slice A545_1 (X545.f1).length c545_1, .slice A545_2 (X545.f2).length c545_2, .int .u16 (X545.f3), .int .u16 (X545.f4), .int .u16 (X545.f5), .int .u8 (X545.f6.f0.f0), .int .u16 (X545.f6.f0.f1), .bool (X545.f6.f0.f2), .bool (X545.f6.f0.f3), .int .i64 (X545.f6.f0.f4), .int .u8 0, .int .u8 0, .int .u32 0, .int .u32 0, .slice none 0 0, .slice none 0 0]) ?_ 11 _ rfl; (with_reducible repeat (first | refine blk_drewN ?_ _ | refine blk_drew ?_ | refine blk_alloc ?_ _)); refine blk_put (cs := #[.int .i64 (X545.f0), .slice A545_1 (X545.f1).length c545_1, .slice A545_2 (X545.f2).length c545_2, .int .u16 (X545.f3), .int .u16 (X545.f4), .int .u16 (X545.f5), .int .u8 (X545.f6.f0.f0), .int .u16 (X545.f6.f0.f1), .bool (X545.f6.f0.f2), .bool (X545.f6.f0.f3), .int .i64 0, .int .u8 0, .int .u8 0, .int .u32 0, .int .u32 0, .slice none 0 0, .slice none 0 0]) ?_ 10 _ rfl; (with_reducible repeat (first | refine blk_drewN ?_ _ | refine blk_drew ?_ | refine blk_alloc ?_ _)); refine blk_put (cs := #[.int .i64 (X545.f0), .slice A545_1 (X545.f1).length c545_1, .slice A545_2 (X545.f2).length c545_2, .int .u16 (X545.f3), .int .u16 (X545.f4), .int .u16 (X545.f5), .int .u8 (X545.f6.f0.f0), .int .u16 (X545.f6.f0.f1), .bool (X545.f6.f0.f2), .bool false, .int .i64 0, .int .u8 0, .int .u8 0, .int .u32 0, .int .u32 0, .slice none 0 0, .slice none 0 0]) ?_ 9 _ rfl; (with_reducible repeat (first | refine blk_drewN ?_ _ | refine blk_drew ?_ | refine blk_alloc ?_ _)); refine blk_put (cs := #[.int .i64 (X545.f0), .slice A545_1 (X545.f1).length c545_1, .slice A545_2 (X545.f2).length c545_2, .int .u16 (X545.f3), .int .u16 (X545.f4), .int .u16 (X545.f5), .int .u8 (X545.f6.f0.f0), .int .u16 (X545.f6.f0.f1), .bool false, .bool false, .int .i64 0, .int .u8 0, .int .u8 0, .int .u32 0, .int .u32 0, .slice none 0 0, .slice none 0 0]) ?_ 8 _ rfl; (with_reducible repeat (first | refine blk_drewN ?_ _ | refine blk_drew ?_ | refine blk_alloc ?_ _)); refine blk_put (cs := #[.int .i64 (X545.f0), .slice A545_1 (X545.f1).length c545_1, .slice A545_2 (X545.f2).length c545_2, .int .u16 (X545.f3), .int .u16 (X545.f4), .int .u16 (X545.f5), .int .u8 (X545.f6.f0.f0), .int .u16 0, .bool false, .bool false, .int .i64 0, .int .u8 0, .int .u8 0, .int .u32 0, .int .u32 0, .slice none 0 0, .slice none 0 0]) ?_ 7 _ rfl; (with_reducible repeat (first | refine blk_drewN ?_ _ | refine blk_drew ?_ | refine blk_alloc ?_ _)); refine blk_put (cs := #[.int .i64 (X545.f0), .slice A545_1 (X545.f1).length c545_1, .slice A545_2 (X545.f2).length c545_2, .int .u16 (X545.f3), .int .u16 (X545.f4), .int .u16 (X545.f5), .int .u8 0, .int .u16 0, .bool false, .bool false, .int .i64 0, .int .u8 0, .int .u8 0, .int .u32 0, .int .u32 0, .slice none 0 0, .slice none 0 0]) ?_ 6 _ rfl; (with_reducible repeat (first | refine blk_drewN ?_ _ | refine blk_drew ?_ | refine blk_alloc ?_ _)); refine blk_put (cs := #[.int .i64 (X545.f0), .slice A545_1 (X545.f1).length c545_1, .slice A545_2 (X545.f2).length c545_2, .int .u16 (X545.f3), .int .u16 (X545.f4), .int .u16 0, .int .u8 0, .int .u16 0, .bool false, .bool false, .int .i64 0, .int .u8 0, .int .u8 0, .int .u32 0, .int .u32 0, .slice none 0 0, .slice none 0 0]) ?_ 5 _ rfl; (with_reducible repeat (first | refine blk_drewN ?_ _ | refine blk_drew ?_ | refine blk_alloc ?_ _)); refine blk_put (cs := #[.int .i64 (X545.f0), .slice A545_1 (X545.f1).length c545_1, .slice A545_2 (X545.f2).length c545_2, .int .u16 (X545.f3), .int .u16 0, .int .u16 0, .int .u8 0, .int .u16 0, .bool false, .bool false, .int .i64 0, .int .u8 0, .int .u8 0, .int .u32 0, .int .u32 0, .slice none 0 0, .slice none 0 0]) ?_ 4 _ rfl; (with_reducible repeat (first | refine blk_drewN ?_ _ | refine blk_drew ?_ | refine blk_alloc ?_ _)); refine blk_put (cs := #[.int .i64 (X545.f0), .slice A545_1 (X545.f1).length c545_1, .slice A545_2 (X545.f2).length c545_2, .int .u16 0, .int .u16 0, .int .u16 0, .int .u8 0, .int .u16 0, .bool false, .bool false, .int .i64 0, .int .u8 0, .int .u8 0, .int .u32 0, .int .u32 0, .slice none 0 0, .slice none 0 0]) ?_ 3 _ rfl; (with_reducible repeat (first | refine blk_drewN ?_ _ | refine blk_drew ?_ | refine blk_alloc ?_ _)); refine blk_put (cs := #[.int .i64 (X545.f0), .slice A545_1 (X545.f1).length c545_1, .slice none 0 0, .int .u16 0, .int .u16 0, .int .u16 0, .int .u8 0, .int .u16 0, .bool false, .bool false, .int .i64 0, .int .u8 0, .int .u8 0, .int .u32 0, .int .u32 0, .slice none 0 0, .slice none 0 0]) ?_ 2 _ rfl; (with_reducible repeat (first | refine blk_drewN ?_ _ | refine blk_drew ?_ | refine blk_alloc ?_ _)); refine blk_put (cs := #[.int .i64 (X545.f0), .slice none 0 0, .slice none 0 0, .int .u16 0, .int .u16 0, .int .u16 0, .int .u8 0, .int .u16 0, .bool false, .bool false, .int .i64 0, .int .u8 0, .int .u8 0, .int .u32 0, .int .u32 0, .slice none 0 0, .slice none 0 0]) ?_ 1 _ rfl; (with_reducible repeat (first | refine blk_drewN ?_ _ | refine blk_drew ?_ | refine blk_alloc ?_ _)); refine blk_put (cs := #[.int .i64 0, .slice none 0 0, .slice none 0 0, .int .u16 0, .int .u16 0, .int .u16 0, .int .u8 0, .int .u16 0, .bool false, .bool false, .int .i64 0, .int .u8 0, .int .u8 0, .int .u32 0, .int .u32 0, .slice none 0 0, .slice none 0 0]) ?_ 0 _ rfl; first | (with_reducible exact BK546.out) | (with_reducible exact blk_drewN BK546.out _) | (with_reducible exact blk_drew BK546.out) | ((with_reducible repeat (first | refine blk_drewN ?_ _ | refine blk_drew ?_ | refine blk_alloc ?_ _)); exact BK546.out)))⟩; have n1_ : Aside0 (Below w.heap.size w w31) := ⟨(by rw [hw]; exact (by repeat (first | (with_reducible first | exact HB.out | apply below_alloc | apply pw_below_drewN | apply below_drew1 | refine below_set ?_ GE546.out) | exact HB.out)))⟩; clear hw; clear BK546; clear HB; have BK546 := n0_; have HB := n1_; clear n0_ n1_; have hcz32_0 : w31.cell? ⟨gb546, 0, none⟩ = some (.int .i64 (X545.f0)) := (blk_cell BK546.out 0).trans rfl; have hcz32_1 : w31.cell? ⟨gb546, 1, none⟩ = some (.slice A545_1 (X545.f1).length c545_1) := (blk_cell BK546.out 1).trans rfl; have hcz32_2 : w31.cell? ⟨gb546, 2, none⟩ = some (.slice A545_2 (X545.f2).length c545_2) := (blk_cell BK546.out 2).trans rfl; have hcz32_3 : w31.cell? ⟨gb546, 3, none⟩ = some (.int .u16 (X545.f3)) := (blk_cell BK546.out 3).trans rfl; have hcz32_4 : w31.cell? ⟨gb546, 4, none⟩ = some (.int .u16 (X545.f4)) := (blk_cell BK546.out 4).trans rfl; have hcz32_5 : w31.cell? ⟨gb546, 5, none⟩ = some (.int .u16 (X545.f5)) := (blk_cell BK546.out 5).trans rfl; have hcz32_6 : w31.cell? ⟨gb546, 6, none⟩ = some (.int .u8 (X545.f6.f0.f0)) := (blk_cell BK546.out 6).trans rfl; have hcz32_7 : w31.cell? ⟨gb546, 7, none⟩ = some (.int .u16 (X545.f6.f0.f1)) := (blk_cell BK546.out 7).trans rfl; have hcz32_8 : w31.cell? ⟨gb546, 8, none⟩ = some (.bool (X545.f6.f0.f2)) := (blk_cell BK546.out 8).trans rfl; have hcz32_9 : w31.cell? ⟨gb546, 9, none⟩ = some (.bool (X545.f6.f0.f3)) := (blk_cell BK546.out 9).trans rfl; have hcz32_10 : w31.cell? ⟨gb546, 10, none⟩ = some (.int .i64 (X545.f6.f0.f4)) := (blk_cell BK546.out 10).trans rfl; have hcz32_11 : w31.cell? ⟨gb546, 11, none⟩ = some (.int .u8 (X545.f6.f0.f5)) := (blk_cell BK546.out 11).trans rfl; have hcz32_12 : w31.cell? ⟨gb546, 12, none⟩ = some (.int .u8 (X545.f6.f0.f6)) := (blk_cell BK546.out 12).trans rfl; have hcz32_13 : w31.cell? ⟨gb546, 13, none⟩ = some (.int .u32 (X545.f6.f0.f7)) := (blk_cell BK546.out 13).trans rfl; have hcz32_14 : w31.cell? ⟨gb546, 14, none⟩ = some (.int .u32 (X545.f6.f0.f8)) := (blk_cell BK546.out 14).trans rfl; have hcz32_15 : w31.cell? ⟨gb546, 15, none⟩ = some (.slice A545_15 (X545.f6.f0.f9).length c545_15) := (blk_cell BK546.out 15).trans rfl; have hcz32_16 : w31.cell? ⟨gb546, 16, none⟩ = some (.slice A545_16 (X545.f6.f1).length c545_16) := (blk_cell BK546.out 16).trans rfl; have hfz32_0 := blk_frozen BK546.out 0; have hfz32_1 := blk_frozen BK546.out 1; have hfz32_2 := blk_frozen BK546.out 2; have hfz32_3 := blk_frozen BK546.out 3; have hfz32_4 := blk_frozen BK546.out 4; have hfz32_5 := blk_frozen BK546.out 5; have hfz32_6 := blk_frozen BK546.out 6; have hfz32_7 := blk_frozen BK546.out 7; have hfz32_8 := blk_frozen BK546.out 8; have hfz32_9 := blk_frozen BK546.out 9; have hfz32_10 := blk_frozen BK546.out 10; have hfz32_11 := blk_frozen BK546.out 11; have hfz32_12 := blk_frozen BK546.out 12; have hfz32_13 := blk_frozen BK546.out 13; have hfz32_14 := blk_frozen BK546.out 14; have hfz32_15 := blk_frozen BK546.out 15; have hfz32_16 := blk_frozen BK546.out 16))
                by_cases c11 : (X545.f0) ≥ a1
                · rw [if_pos c11] at H
                  have c11b0 : decide (a1 ≤ (X545.f0)) = true := decide_eq_true c11
                  clear c11
                  (first | rw [c11b0] | (simp only [i64_w, i32_w]; rw [c11b0]) | skip)
                  by_cases c12 : (X545.f0) ≤ a2
                  · rw [if_pos c12] at H
                    have c12b0 : decide ((X545.f0) ≤ a2) = true := decide_eq_true c12
                    clear c12
                    replace H := Option.bind_eq_some_iff.mp H
                    obtain ⟨t547, A130, H⟩ := H
                    replace H : (if t547 = true then (weftlaw3_upTo.l1 k2 l0 a1 a2 (wrap64 (x8_2 + 1))) else (some false)) = some r := H
                    have A13 := Aside0.mk A130
                    clear A130
                    by_cases c14 : t547 = true
                    · subst c14
                      have H1 : (weftlaw3_upTo.l1 k2 l0 a1 a2 (wrap64 (x8_2 + 1))) = some r := by rw [if_pos rfl] at H; exact H
                      clear H
                      have H := H1
                      clear H1
                      have H' := Aside0.mk H
                      clear H
                      go_wp2_with (first | ((with_reducible refine gate_dst (N := 40) rfl ?_); (try (refine gate_guard (by rfl) ?_; dsimp only)); refine wpList_load_row rfl 50 (.tmp 9) rfl gb546 ?hx 50 _ _ _ BK546.out Try.underlying50 rfl (by kernel_rfl) ?_; (case hx => rfl)) | (go_at_call 24; (with_reducible refine (weftlaw3_plays.calls k2 (X545.f0) _ _ (X545.f1) _ _ (X545.f2) (X545.f3) (X545.f4) (X545.f5) (X545.f6.f0.f0) (X545.f6.f0.f1) (X545.f6.f0.f2) (X545.f6.f0.f3) (X545.f6.f0.f4) (X545.f6.f0.f5) (X545.f6.f0.f6) (X545.f6.f0.f7) (X545.f6.f0.f8) _ _ (X545.f6.f0.f9) _ _ (X545.f6.f1) true _ ?side1 ?side2 ?side3 ?side4 ?side5 ?side6 ?side7 ?side8 A13.out).mono ?_); (case side1 => repeat (first | exact (Kd.C_below HR545_1.out HB.out) | (with_reducible refine Kd.C_alloc ?_ _) | (with_reducible refine Kd.C_drewN ?_ _) | (with_reducible refine Kd.C_drew ?_))); (case side2 => exact HC545_1.out); (case side3 => repeat (first | exact (Kd.C_below HR545_2.out HB.out) | (with_reducible refine Kd.C_alloc ?_ _) | (with_reducible refine Kd.C_drewN ?_ _) | (with_reducible refine Kd.C_drew ?_))); (case side4 => exact HC545_2.out); (case side5 => repeat (first | exact (Kd.C_below HR545_15.out HB.out) | (with_reducible refine Kd.C_alloc ?_ _) | (with_reducible refine Kd.C_drewN ?_ _) | (with_reducible refine Kd.C_drew ?_))); (case side6 => exact HC545_15.out); (case side7 => repeat (first | exact (Kd.C_below HR545_16.out HB.out) | (with_reducible refine Kd.C_alloc ?_ _) | (with_reducible refine Kd.C_drewN ?_ _) | (with_reducible refine Kd.C_drew ?_))); (case side8 => exact HC545_16.out); rintro e w19 ⟨rfl, hb⟩; have n0_ := Aside0.mk (blk_below (g := gb546) (o := .cells #[.int .i64 (X545.f0), .slice A545_1 (X545.f1).length c545_1, .slice A545_2 (X545.f2).length c545_2, .int .u16 (X545.f3), .int .u16 (X545.f4), .int .u16 (X545.f5), .int .u8 (X545.f6.f0.f0), .int .u16 (X545.f6.f0.f1), .bool (X545.f6.f0.f2), .bool (X545.f6.f0.f3), .int .i64 (X545.f6.f0.f4), .int .u8 (X545.f6.f0.f5), .int .u8 (X545.f6.f0.f6), .int .u32 (X545.f6.f0.f7), .int .u32 (X545.f6.f0.f8), .slice A545_15 (X545.f6.f0.f9).length c545_15, .slice A545_16 (X545.f6.f1).length c545_16] 50 (0, 0)) (by first | (with_reducible exact BK546.out) | (with_reducible exact blk_drewN BK546.out _) | (with_reducible exact blk_drew BK546.out) | ((with_reducible repeat (first | refine blk_drewN ?_ _ | refine blk_drew ?_ | refine blk_alloc ?_ _)); exact BK546.out)) hb); have n1_ := Aside0.mk (below_step (by repeat (first | (with_reducible first | exact HB.out | apply below_alloc | apply pw_below_drewN | apply below_drew1 | refine below_set ?_ GE546.out) | exact HB.out)) hb); clear BK546; clear HB; have BK546 := n0_; have HB := n1_; clear n0_ n1_; (try clear hb); (try clear hb2); (try clear hk); (try clear hi)))
                      go_roundg k2
                      case measure => have := HK1.out; have := HK2.out; omega
                      case rel => exact ⟨(wrap64 (x8_2 + 1)), (by first | rfl | (simp; done) | (simp [*]; done)), H', ⟨by have := HK1.out; have := HK2.out; omega⟩, ⟨by repeat (first | (with_reducible first | exact HB.out | apply below_alloc | apply pw_below_drewN | apply below_drew1 | refine below_set ?_ GE546.out) | exact HB.out)⟩⟩
                    · replace c14 := Bool.eq_false_iff.mpr c14
                      subst c14
                      have H1 : (some false) = some r := by rw [if_neg (show ¬ (false = true) by decide)] at H; exact H
                      clear H
                      have H := H1
                      clear H1
                      obtain rfl := Option.some.inj H
                      go_wp2_with (first | ((with_reducible refine gate_dst (N := 40) rfl ?_); (try (refine gate_guard (by rfl) ?_; dsimp only)); refine wpList_load_row rfl 50 (.tmp 9) rfl gb546 ?hx 50 _ _ _ BK546.out Try.underlying50 rfl (by kernel_rfl) ?_; (case hx => rfl)) | (go_at_call 24; (with_reducible refine (weftlaw3_plays.calls k2 (X545.f0) _ _ (X545.f1) _ _ (X545.f2) (X545.f3) (X545.f4) (X545.f5) (X545.f6.f0.f0) (X545.f6.f0.f1) (X545.f6.f0.f2) (X545.f6.f0.f3) (X545.f6.f0.f4) (X545.f6.f0.f5) (X545.f6.f0.f6) (X545.f6.f0.f7) (X545.f6.f0.f8) _ _ (X545.f6.f0.f9) _ _ (X545.f6.f1) false _ ?side1 ?side2 ?side3 ?side4 ?side5 ?side6 ?side7 ?side8 A13.out).mono ?_); (case side1 => repeat (first | exact (Kd.C_below HR545_1.out HB.out) | (with_reducible refine Kd.C_alloc ?_ _) | (with_reducible refine Kd.C_drewN ?_ _) | (with_reducible refine Kd.C_drew ?_))); (case side2 => exact HC545_1.out); (case side3 => repeat (first | exact (Kd.C_below HR545_2.out HB.out) | (with_reducible refine Kd.C_alloc ?_ _) | (with_reducible refine Kd.C_drewN ?_ _) | (with_reducible refine Kd.C_drew ?_))); (case side4 => exact HC545_2.out); (case side5 => repeat (first | exact (Kd.C_below HR545_15.out HB.out) | (with_reducible refine Kd.C_alloc ?_ _) | (with_reducible refine Kd.C_drewN ?_ _) | (with_reducible refine Kd.C_drew ?_))); (case side6 => exact HC545_15.out); (case side7 => repeat (first | exact (Kd.C_below HR545_16.out HB.out) | (with_reducible refine Kd.C_alloc ?_ _) | (with_reducible refine Kd.C_drewN ?_ _) | (with_reducible refine Kd.C_drew ?_))); (case side8 => exact HC545_16.out); rintro e w24 ⟨rfl, hb⟩; have n0_ := Aside0.mk (blk_below (g := gb546) (o := .cells #[.int .i64 (X545.f0), .slice A545_1 (X545.f1).length c545_1, .slice A545_2 (X545.f2).length c545_2, .int .u16 (X545.f3), .int .u16 (X545.f4), .int .u16 (X545.f5), .int .u8 (X545.f6.f0.f0), .int .u16 (X545.f6.f0.f1), .bool (X545.f6.f0.f2), .bool (X545.f6.f0.f3), .int .i64 (X545.f6.f0.f4), .int .u8 (X545.f6.f0.f5), .int .u8 (X545.f6.f0.f6), .int .u32 (X545.f6.f0.f7), .int .u32 (X545.f6.f0.f8), .slice A545_15 (X545.f6.f0.f9).length c545_15, .slice A545_16 (X545.f6.f1).length c545_16] 50 (0, 0)) (by first | (with_reducible exact BK546.out) | (with_reducible exact blk_drewN BK546.out _) | (with_reducible exact blk_drew BK546.out) | ((with_reducible repeat (first | refine blk_drewN ?_ _ | refine blk_drew ?_ | refine blk_alloc ?_ _)); exact BK546.out)) hb); have n1_ := Aside0.mk (below_step (by repeat (first | (with_reducible first | exact HB.out | apply below_alloc | apply pw_below_drewN | apply below_drew1 | refine below_set ?_ GE546.out) | exact HB.out)) hb); clear BK546; clear HB; have BK546 := n0_; have HB := n1_; clear n0_ n1_; (try clear hb); (try clear hb2); (try clear hk); (try clear hi)))
                      go_ret
                      exact ⟨by first | rfl | (simp [errW_none, errW_some] <;> rfl) | (simp [*, errW_none, errW_some] <;> rfl), by repeat (first | (with_reducible first | exact HB.out | apply below_alloc | apply pw_below_drewN | apply below_drew1 | refine below_set ?_ GE546.out) | exact HB.out)⟩
                  · rw [if_neg c12] at H
                    have c12b0 : decide ((X545.f0) ≤ a2) = false := decide_eq_false c12
                    clear c12
                    have H' := Aside0.mk H
                    clear H
                    go_wp2
                    go_roundg k2
                    case measure => have := HK1.out; have := HK2.out; omega
                    case rel => exact ⟨(wrap64 (x8_2 + 1)), (by first | rfl | (simp; done) | (simp [*]; done)), H', ⟨by have := HK1.out; have := HK2.out; omega⟩, ⟨by repeat (first | (with_reducible first | exact HB.out | apply below_alloc | apply pw_below_drewN | apply below_drew1 | refine below_set ?_ GE546.out) | exact HB.out)⟩⟩
                · rw [if_neg c11] at H
                  have c11b0 : decide (a1 ≤ (X545.f0)) = false := decide_eq_false c11
                  clear c11
                  (first | rw [c11b0] | (simp only [i64_w, i32_w]; rw [c11b0]) | skip)
                  have H' := Aside0.mk H
                  clear H
                  go_wp2
                  go_roundg k2
                  case measure => have := HK1.out; have := HK2.out; omega
                  case rel => exact ⟨(wrap64 (x8_2 + 1)), (by first | rfl | (simp; done) | (simp [*]; done)), H', ⟨by have := HK1.out; have := HK2.out; omega⟩, ⟨by repeat (first | (with_reducible first | exact HB.out | apply below_alloc | apply pw_below_drewN | apply below_drew1 | refine below_set ?_ GE546.out) | exact HB.out)⟩⟩
              · rw [if_neg c10] at H
                exact absurd H (by simp)
            · rw [if_neg c9] at H
              have c9b0 : decide (x8_2 < (l0.length : Int)) = false := decide_eq_false c9
              clear c9
              obtain rfl := Option.some.inj H
              go_wp2
              go_ret
              exact ⟨by first | rfl | (simp [errW_none, errW_some] <;> rfl) | (simp [*, errW_none, errW_some] <;> rfl), by repeat (first | (with_reducible first | exact HB.out | apply below_alloc | apply pw_below_drewN | apply below_drew1) | exact HB.out)⟩

/-! ### weftlaw3_Ip4Ages: function 10 -/
def weftlaw3_Ip4Ages.f (k : Nat) (l0 : List (S50)) : Option (Bool) := (weftlaw3_upTo.f k l0 6 6).bind fun t548 => (some t548)
theorem weftlaw3_Ip4Ages.mono : ∀ a0 k, LeO (weftlaw3_Ip4Ages.f k a0) (weftlaw3_Ip4Ages.f (k + 1) a0) := by
  intro a0 k
  unfold weftlaw3_Ip4Ages.f
  repeat' first
      | (with_reducible exact weftlaw3_upTo.mono _ _ _ _)
      | (with_reducible exact LeO.refl _)
      | (with_reducible exact LeO.none _)
      | (with_reducible refine LeO.ite ?_ ?_)
      | (with_reducible refine LeO.bind ?_ (fun _ => ?_))
      | exact weftlaw3_upTo.mono _ _ _ _
      | exact LeO.none _
      | refine LeO.ite ?_ ?_
      | refine LeO.bind ?_ (fun _ => ?_)
set_option maxHeartbeats 8000000 in
set_option maxRecDepth 100000 in
theorem weftlaw3_Ip4Ages.calls (k : Nat) (A0 : Option Addr) (c0 : Nat) (l0 : List (S50)) (r : Bool) (w : World) (hr0 : Kd.C k50 w A0 l0.length l0) (hc0 : l0.length ≤ c0) (h : weftlaw3_Ip4Ages.f k l0 = some r) :
    Calls Try.prog 10 #[.slice A0 l0.length c0] w fun e w' => e = .returned (.bool r) ∧ Below w.heap.size w w' := by
  have HR0 := Aside0.mk hr0
  have HC0 := Aside0.mk hc0
  clear hr0 hc0
  have HB := Aside0.mk (Below.refl w.heap.size w)
  have H : ((weftlaw3_upTo.f k l0 6 6).bind fun t548 => (some t548)) = some r := h
  clear h
  replace H := Option.bind_eq_some_iff.mp H
  obtain ⟨t548, A20, H⟩ := H
  replace H : (some t548) = some r := H
  have A2 := Aside0.mk A20
  clear A20
  obtain rfl := Option.some.inj H
  go_enter Try.func10, Try.ntmps10
  go_wp2_with (first | ((with_reducible refine gate_callee (f := 17) rfl ?_); refine goesL_ (some 4) rfl rfl Try.func17 (by kernel_rfl) rfl #[.slice A0 l0.length c0, .int .i64 6, .int .i64 6] rfl (by (try simp only [List.map_toArray, List.map_cons, List.map_nil]); first | done | rfl | (simp only [List.length_drop, List.length_take]; rfl)) ?_; (with_reducible refine (weftlaw3_upTo.calls k _ _ l0 6 6 t548 _ ?side1 ?side2 A2.out).mono ?_); (case side1 => repeat (first | exact HR0.out | (with_reducible refine Kd.C_alloc ?_ _) | (with_reducible refine Kd.C_drewN ?_ _) | (with_reducible refine Kd.C_drew ?_))); (case side2 => exact HC0.out); rintro e w3 ⟨rfl, hb⟩; refine ⟨_, rfl, ?_⟩; have n0_ := Aside0.mk (below_step (by repeat (first | (with_reducible first | exact HB.out | apply below_alloc | apply pw_below_drewN | apply below_drew1) | exact HB.out)) hb); clear HB; have HB := n0_; clear n0_; (try clear hb); (try clear hb2); (try clear hk); (try clear hi)))
  go_ret
  exact ⟨by first | rfl | (simp [errW_none, errW_some] <;> rfl) | (simp [*, errW_none, errW_some] <;> rfl), by repeat (first | (with_reducible first | exact HB.out | apply below_alloc | apply pw_below_drewN | apply below_drew1) | exact HB.out)⟩
end Go.Proofs.Ytmjhfkjnnpnoaaa.XV6
