-- printed by a program of this session (wip/xprint), out of the translation; Lean checks it
import Derived.Test.YtmjhfkjnnpnoaaaQFXAx0
import Derived.Test.YtmjhfkjnnpnoaaaQFXAx5
import Derived.Test.YtmjhfkjnnpnoaaaQFXAx8
namespace Go.Proofs.Ytmjhfkjnnpnoaaa.XA
open Go.RowKit Go.Proofs.YtmjhfkjnnpnoaaaW.PrintWords Go.Proofs.YtmjhfkjnnpnoaaaW.PrintLast Go.Proofs.YtmjhfkjnnpnoaaaW.PrintMore Go.Proofs.YtmjhfkjnnpnoaaaX
theorem zq16_1 {P : Prop} (h : P := by repeat (first | (with_reducible first | exact HB.out | apply below_alloc | apply pw_below_drewN | apply below_drew1) | exact HB.out)) : P := h
theorem zq16_0 {P : Prop} (h : P := by first | (with_reducible assumption) | assumption) : P := h
attribute [local go_sem] max2_int min2_int max_two min_two max_three min_three max_four min_four   -- for this text's walks alone
set_option linter.unusedVariables false
set_option linter.unusedSimpArgs false

/-! ### ip4_Copied: function 39 -/
mutual
def ip4_Copied.l0 : Nat → List Int → List Int → Int → Option (List Int × Int)
  | 0, _, _, _ => none
  | k + 1, x0, x4, x5 => if x5 < (x0.length : Int) then (if 0 ≤ x5 then (ip4_Copied.j1 k x0 x4 x5 ((rd x0 x5) != 0)) else (none)) else (ip4_Copied.j1 k x0 x4 x5 false)
def ip4_Copied.j1 : Nat → List Int → List Int → Int → Bool → Option (List Int × Int)
  | 0, _, _, _, _ => none
  | k + 1, x0, x4, x5, x20 => if x20 = true then (if 0 ≤ x5 then (if x5 < (x0.length : Int) then (if (rd x0 x5) = 1 then (if (Go.bits .and .u8 (rd x0 x5) 128) = 0 then (ip4_Copied.l0 k x0 x4 (wrap64 (x5 + 1))) else (if x5 ≤ (wrap64 (x5 + 1)) then (if (wrap64 (x5 + 1)) ≤ (x0.length : Int) then (if x4.length + ((x0.take ((wrap64 (x5 + 1)) : Int).toNat).drop (x5 : Int).toNat).length < 140737488355328 then (ip4_Copied.l0 k x0 (x4 ++ ((x0.take ((wrap64 (x5 + 1)) : Int).toNat).drop (x5 : Int).toNat)) (wrap64 (x5 + 1))) else (none)) else (none)) else (none))) else (if 0 ≤ (wrap64 (x5 + 1)) then (if (wrap64 (x5 + 1)) < (x0.length : Int) then (if (Go.bits .and .u8 (rd x0 x5) 128) = 0 then (ip4_Copied.l0 k x0 x4 (wrap64 (x5 + (wrap64 (rd x0 (wrap64 (x5 + 1))))))) else (if x5 ≤ (wrap64 (x5 + (wrap64 (rd x0 (wrap64 (x5 + 1)))))) then (if (wrap64 (x5 + (wrap64 (rd x0 (wrap64 (x5 + 1)))))) ≤ (x0.length : Int) then (if x4.length + ((x0.take ((wrap64 (x5 + (wrap64 (rd x0 (wrap64 (x5 + 1)))))) : Int).toNat).drop (x5 : Int).toNat).length < 140737488355328 then (ip4_Copied.l0 k x0 (x4 ++ ((x0.take ((wrap64 (x5 + (wrap64 (rd x0 (wrap64 (x5 + 1)))))) : Int).toNat).drop (x5 : Int).toNat)) (wrap64 (x5 + (wrap64 (rd x0 (wrap64 (x5 + 1))))))) else (none)) else (none)) else (none))) else (none)) else (none))) else (none)) else (none)) else (ip4_Copied.l1 k x4)
def ip4_Copied.l1 : Nat → List Int → Option (List Int × Int)
  | 0, _ => none
  | k + 1, x4 => if ((x4.length : Int) % 4) = 0 then (some (x4, 0)) else (if x4.length < 140737488355328 then (ip4_Copied.l1 k (x4 ++ [0])) else (none))
end
def ip4_Copied.f (k : Nat) (l0 : List Int) : Option (List Int × Int) := (ip4_optionsOK.f k l0).bind fun t644 => (if t644 = true then (ip4_Copied.l0 k l0 ([] : List Int) 0) else (some (([] : List Int), 34)))
theorem ip4_Copied.mono_l : ∀ k, (∀ y0 y1 y2, LeO (ip4_Copied.l0 k y0 y1 y2) (ip4_Copied.l0 (k + 1) y0 y1 y2)) ∧ (∀ y0 y1 y2 y3, LeO (ip4_Copied.j1 k y0 y1 y2 y3) (ip4_Copied.j1 (k + 1) y0 y1 y2 y3)) ∧ (∀ y0, LeO (ip4_Copied.l1 k y0) (ip4_Copied.l1 (k + 1) y0))
  | 0 => ⟨fun _ _ _ r h => by simp [ip4_Copied.l0] at h, fun _ _ _ _ r h => by simp [ip4_Copied.j1] at h, fun _ r h => by simp [ip4_Copied.l1] at h⟩
  | k + 1 => by
    obtain ⟨ih0, ih1, ih2⟩ := ip4_Copied.mono_l k
    refine ⟨?_, ?_, ?_⟩
    · intro y0 y1 y2
      unfold ip4_Copied.l0
      repeat' first
      | (with_reducible exact ih0 _ _ _)
      | (with_reducible exact ih1 _ _ _ _)
      | (with_reducible exact ih2 _)
      | (with_reducible exact ip4_optionsOK.mono _ _)
      | (with_reducible exact LeO.refl _)
      | (with_reducible exact LeO.none _)
      | (with_reducible refine LeO.ite ?_ ?_)
      | (with_reducible refine LeO.bind ?_ (fun _ => ?_))
      | exact ih0 _ _ _
      | exact ih1 _ _ _ _
      | exact ih2 _
      | exact ip4_optionsOK.mono _ _
      | exact LeO.none _
      | refine LeO.ite ?_ ?_
      | refine LeO.bind ?_ (fun _ => ?_)
    · intro y0 y1 y2 y3
      unfold ip4_Copied.j1
      repeat' first
      | (with_reducible exact ih0 _ _ _)
      | (with_reducible exact ih1 _ _ _ _)
      | (with_reducible exact ih2 _)
      | (with_reducible exact ip4_optionsOK.mono _ _)
      | (with_reducible exact LeO.refl _)
      | (with_reducible exact LeO.none _)
      | (with_reducible refine LeO.ite ?_ ?_)
      | (with_reducible refine LeO.bind ?_ (fun _ => ?_))
      | exact ih0 _ _ _
      | exact ih1 _ _ _ _
      | exact ih2 _
      | exact ip4_optionsOK.mono _ _
      | exact LeO.none _
      | refine LeO.ite ?_ ?_
      | refine LeO.bind ?_ (fun _ => ?_)
    · intro y0
      unfold ip4_Copied.l1
      repeat' first
      | (with_reducible exact ih0 _ _ _)
      | (with_reducible exact ih1 _ _ _ _)
      | (with_reducible exact ih2 _)
      | (with_reducible exact ip4_optionsOK.mono _ _)
      | (with_reducible exact LeO.refl _)
      | (with_reducible exact LeO.none _)
      | (with_reducible refine LeO.ite ?_ ?_)
      | (with_reducible refine LeO.bind ?_ (fun _ => ?_))
      | exact ih0 _ _ _
      | exact ih1 _ _ _ _
      | exact ih2 _
      | exact ip4_optionsOK.mono _ _
      | exact LeO.none _
      | refine LeO.ite ?_ ?_
      | refine LeO.bind ?_ (fun _ => ?_)
theorem ip4_Copied.mono : ∀ a0 k, LeO (ip4_Copied.f k a0) (ip4_Copied.f (k + 1) a0) := by
  intro a0 k
  obtain ⟨ih0, ih1, ih2⟩ := ip4_Copied.mono_l k
  unfold ip4_Copied.f
  repeat' first
      | (with_reducible exact ih0 _ _ _)
      | (with_reducible exact ih1 _ _ _ _)
      | (with_reducible exact ih2 _)
      | (with_reducible exact ip4_optionsOK.mono _ _)
      | (with_reducible exact LeO.refl _)
      | (with_reducible exact LeO.none _)
      | (with_reducible refine LeO.ite ?_ ?_)
      | (with_reducible refine LeO.bind ?_ (fun _ => ?_))
      | exact ih0 _ _ _
      | exact ih1 _ _ _ _
      | exact ih2 _
      | exact ip4_optionsOK.mono _ _
      | exact LeO.none _
      | refine LeO.ite ?_ ?_
      | refine LeO.bind ?_ (fun _ => ?_)
set_option maxHeartbeats 8000000 in
set_option maxRecDepth 100000 in
theorem ip4_Copied.calls (k : Nat) (A0 : Option Addr) (c0 : Nat) (l0 : List Int) (r1 : List Int) (r2 : Int) (w : World) (hr0 : Kd.C (Kd.int .u8) w A0 l0.length l0) (hc0 : l0.length ≤ c0) (h : ip4_Copied.f k l0 = some (r1, r2)) :
    Calls Try.prog 39 #[.slice A0 l0.length c0] w fun e w' => ∃ v0_ : Value, e = .returned (.tuple #[v0_, .int .i64 r2]) ∧ Kd.R (Kd.int .u8) 5 w' w.heap.size (fun _ => True) v0_ r1 ∧ Below w.heap.size w w' := by
  have HR0 := Aside0.mk hr0
  have HC0 := Aside0.mk hc0
  clear hr0 hc0
  have HB := Aside0.mk (Below.refl w.heap.size w)
  have H : ((ip4_optionsOK.f k l0).bind fun t644 => (if t644 = true then (ip4_Copied.l0 k l0 ([] : List Int) 0) else (some (([] : List Int), 34)))) = some (r1, r2) := h
  clear h
  replace H := Option.bind_eq_some_iff.mp H
  obtain ⟨t644, A20, H⟩ := H
  replace H : (if t644 = true then (ip4_Copied.l0 k l0 ([] : List Int) 0) else (some (([] : List Int), 34))) = some (r1, r2) := H
  have A2 := Aside0.mk A20
  clear A20
  by_cases c3 : t644 = true
  · subst c3
    have H1 : (ip4_Copied.l0 k l0 ([] : List Int) 0) = some (r1, r2) := by rw [if_pos rfl] at H; exact H
    clear H
    have H := H1
    clear H1
    have H' := Aside0.mk H
    clear H
    go_enter Try.func39, Try.ntmps39
    go_wp2_with (first | ((with_reducible refine gate_callee (f := 50) rfl ?_); refine goesL_ (some 8) rfl rfl Try.func50 (by kernel_rfl) rfl #[.slice A0 l0.length c0] rfl (by (try simp only [List.map_toArray, List.map_cons, List.map_nil]); first | done | rfl | (simp only [List.length_drop, List.length_take]; rfl)) ?_; (with_reducible refine (ip4_optionsOK.calls k _ _ l0 true _ ?side1 ?side2 A2.out).mono ?_); (case side1 => repeat (first | exact HR0.out | (with_reducible refine Kd.C_alloc ?_ _) | (with_reducible refine Kd.C_drewN ?_ _) | (with_reducible refine Kd.C_drew ?_))); (case side2 => exact HC0.out); rintro e w' ⟨rfl, ⟨nd, rfl⟩⟩; refine ⟨_, rfl, ?_⟩))
    go_loopg [4, 5] k (fun kq v4 v5 w' => ∃ (x4_1 : List Int) (x5_1 : Int), v5 = .int .i64 x5_1 ∧ Aside0 (ip4_Copied.l0 kq l0 x4_1 x5_1 = some (r1, r2)) ∧ Aside0 (kq ≤ k) ∧ Aside0 (Kd.R (Kd.int .u8) 5 w' w.heap.size (fun _ => True) v4 x4_1) ∧ Aside0 (Below w.heap.size w w'))
    case atStart => exact ⟨(([] : List Int)), (0), (by first | rfl | (simp; done) | (simp [*]; done)), H', ⟨Nat.le_refl _⟩, ⟨by first | exact Kd.R_nil _ _ _ _ _ | exact Kd.N_nil _ _ _ _ _ | exact Kd.V_nil _ _ _ _ _ | exact Kd.Q_nil _ _ _ _ _ | exact Kd.S_nil _ _ _ _ _⟩, ⟨by repeat (first | (with_reducible first | exact HB.out | apply below_alloc | apply pw_below_drewN | apply below_drew1) | exact HB.out)⟩⟩
    case round =>
      clear H'
      try clear p2
      try clear c3
      obtain ⟨x4_1, x5_1, rfl, HA, HK1, HO_4, HB⟩ := hrel
      cases gk with
      | zero => exact absurd HA.out (by simp [ip4_Copied.l0])
      | succ k1 =>
        have H := HA.out
        clear HA
        simp only [ip4_Copied.l0] at H
        have HC4 := Aside0.mk H
        clear H
        go_upto_region 5 with (fail)
        go_cut [20] (fun v20 wc => ∃ (kq : Nat) (x20_3 : Bool), v20 = .bool x20_3 ∧ Aside0 (ip4_Copied.j1 kq l0 x4_1 x5_1 x20_3 = some (r1, r2)) ∧ Aside0 (kq ≤ k1) ∧ Aside0 (Kd.R (Kd.int .u8) 5 wc w.heap.size (fun _ => True) u4 x4_1) ∧ Aside0 (Below w.heap.size w wc))
        case first =>
          have H := HC4.out
          clear HC4
          by_cases c5 : x5_1 < (l0.length : Int)
          · rw [if_pos c5] at H
            have c5b0 : decide (x5_1 < (l0.length : Int)) = true := decide_eq_true c5
            clear c5
            (first | rw [c5b0] | (simp only [i64_w, i32_w]; rw [c5b0]) | skip)
            by_cases c6 : 0 ≤ x5_1
            · rw [if_pos c6] at H
              have c6b0 : decide (0 ≤ x5_1) = true := decide_eq_true c6
              clear c6
              have H' := Aside0.mk H
              clear H
              have p645 : 0 ≤ (x5_1 : Int) := of_decide_eq_true zq16_0
              have q645 : x5_1 < (l0.length : Int) := of_decide_eq_true zq16_0
              obtain ⟨ad645, e645, hx645_0⟩ := Kd.at_int HR0.out x5_1 p645 q645
              cases e645
              replace hx645_0 := (HB.out.cell (World.block_lt_of_cell? w _ hx645_0)).trans hx645_0
              replace p645 := eq_true p645
              replace q645 := eq_true q645
              go_wp2
              go_meet
              case rel => exact ⟨_, (((rd l0 x5_1) != 0)), (by first | rfl | (simp; done) | (simp [*]; done)), H', ⟨by have := HK1.out; first | omega | exact Nat.le_refl _⟩, ⟨by (with_reducible repeat (first | apply Kd.R_alloc | apply Kd.R_drewN | apply Kd.R_drew)); exact HO_4.out⟩, ⟨by repeat (first | (with_reducible first | exact HB.out | apply below_alloc | apply pw_below_drewN | apply below_drew1) | exact HB.out)⟩⟩
            · rw [if_neg c6] at H
              exact absurd H (by simp)
          · rw [if_neg c5] at H
            have c5b0 : decide (x5_1 < (l0.length : Int)) = false := decide_eq_false c5
            clear c5
            (first | rw [c5b0] | (simp only [i64_w, i32_w]; rw [c5b0]) | skip)
            have H' := Aside0.mk H
            clear H
            go_wp2
            go_meet
            case rel => exact ⟨_, (false), (by first | rfl | (simp; done) | (simp [*]; done)), H', ⟨by have := HK1.out; first | omega | exact Nat.le_refl _⟩, ⟨by (with_reducible repeat (first | apply Kd.R_alloc | apply Kd.R_drewN | apply Kd.R_drew)); exact HO_4.out⟩, ⟨by repeat (first | (with_reducible first | exact HB.out | apply below_alloc | apply pw_below_drewN | apply below_drew1) | exact HB.out)⟩⟩
        case rest =>
          clear HC4
          try clear p2
          try clear c3
          try clear p4
          try clear c5
          try clear c5b0
          try clear c6
          try clear c6b0
          try clear p6
          try clear q6
          try clear hx6
          try clear hx645_0
          try clear p2
          try clear p645
          try clear q645
          obtain ⟨kq, x20_3, rfl, HA, HJ3, HO_4, HB⟩ := hcut
          cases kq with
          | zero => exact absurd HA.out (by simp [ip4_Copied.j1])
          | succ kj3 =>
            have H := HA.out
            clear HA
            simp only [ip4_Copied.j1] at H
            by_cases c7 : x20_3 = true
            · subst c7
              have H1 : (if 0 ≤ x5_1 then (if x5_1 < (l0.length : Int) then (if (rd l0 x5_1) = 1 then (if (Go.bits .and .u8 (rd l0 x5_1) 128) = 0 then (ip4_Copied.l0 kj3 l0 x4_1 (wrap64 (x5_1 + 1))) else (if x5_1 ≤ (wrap64 (x5_1 + 1)) then (if (wrap64 (x5_1 + 1)) ≤ (l0.length : Int) then (if x4_1.length + ((l0.take ((wrap64 (x5_1 + 1)) : Int).toNat).drop (x5_1 : Int).toNat).length < 140737488355328 then (ip4_Copied.l0 kj3 l0 (x4_1 ++ ((l0.take ((wrap64 (x5_1 + 1)) : Int).toNat).drop (x5_1 : Int).toNat)) (wrap64 (x5_1 + 1))) else (none)) else (none)) else (none))) else (if 0 ≤ (wrap64 (x5_1 + 1)) then (if (wrap64 (x5_1 + 1)) < (l0.length : Int) then (if (Go.bits .and .u8 (rd l0 x5_1) 128) = 0 then (ip4_Copied.l0 kj3 l0 x4_1 (wrap64 (x5_1 + (wrap64 (rd l0 (wrap64 (x5_1 + 1))))))) else (if x5_1 ≤ (wrap64 (x5_1 + (wrap64 (rd l0 (wrap64 (x5_1 + 1)))))) then (if (wrap64 (x5_1 + (wrap64 (rd l0 (wrap64 (x5_1 + 1)))))) ≤ (l0.length : Int) then (if x4_1.length + ((l0.take ((wrap64 (x5_1 + (wrap64 (rd l0 (wrap64 (x5_1 + 1)))))) : Int).toNat).drop (x5_1 : Int).toNat).length < 140737488355328 then (ip4_Copied.l0 kj3 l0 (x4_1 ++ ((l0.take ((wrap64 (x5_1 + (wrap64 (rd l0 (wrap64 (x5_1 + 1)))))) : Int).toNat).drop (x5_1 : Int).toNat)) (wrap64 (x5_1 + (wrap64 (rd l0 (wrap64 (x5_1 + 1))))))) else (none)) else (none)) else (none))) else (none)) else (none))) else (none)) else (none)) = some (r1, r2) := by rw [if_pos rfl] at H; exact H
              clear H
              have H := H1
              clear H1
              by_cases c8 : 0 ≤ x5_1
              · rw [if_pos c8] at H
                have c8b0 : decide (0 ≤ x5_1) = true := decide_eq_true c8
                clear c8
                by_cases c9 : x5_1 < (l0.length : Int)
                · rw [if_pos c9] at H
                  have c9b0 : decide (x5_1 < (l0.length : Int)) = true := decide_eq_true c9
                  clear c9
                  by_cases c10 : (rd l0 x5_1) = 1
                  · rw [if_pos c10] at H
                    have c10b0 : ((rd l0 x5_1) == 1) = true := beq_iff_eq.mpr c10
                    have c10b1 : ((rd l0 x5_1) != 1) = false := bne_eq_false_iff_eq.mpr c10
                    clear c10
                    by_cases c11 : (Go.bits .and .u8 (rd l0 x5_1) 128) = 0
                    · rw [if_pos c11] at H
                      have c11b0 : ((Go.bits .and .u8 (rd l0 x5_1) 128) == 0) = true := beq_iff_eq.mpr c11
                      have c11b1 : ((Go.bits .and .u8 (rd l0 x5_1) 128) != 0) = false := bne_eq_false_iff_eq.mpr c11
                      clear c11
                      have H' := Aside0.mk H
                      clear H
                      have p646 : 0 ≤ (x5_1 : Int) := of_decide_eq_true zq16_0
                      have q646 : x5_1 < (l0.length : Int) := of_decide_eq_true zq16_0
                      obtain ⟨ad646, e646, hx646_0⟩ := Kd.at_int HR0.out x5_1 p646 q646
                      cases e646
                      replace hx646_0 := (HB.out.cell (World.block_lt_of_cell? w _ hx646_0)).trans hx646_0
                      replace p646 := eq_true p646
                      replace q646 := eq_true q646
                      have p647 : 0 ≤ (x5_1 : Int) := of_decide_eq_true zq16_0
                      have q647 : x5_1 < (l0.length : Int) := of_decide_eq_true zq16_0
                      obtain ⟨ad647, e647, hx647_0⟩ := Kd.at_int HR0.out x5_1 p647 q647
                      obtain rfl : ad646 = ad647 := (by injection e647)
                      replace hx647_0 := (HB.out.cell (World.block_lt_of_cell? w _ hx647_0)).trans hx647_0
                      replace p647 := eq_true p647
                      replace q647 := eq_true q647
                      go_wp2
                      go_roundg kj3
                      case measure => have := HK1.out; have := HJ3.out; omega
                      case rel => exact ⟨(x4_1), (wrap64 (x5_1 + 1)), (by first | rfl | (simp; done) | (simp [*]; done)), H', ⟨by have := HK1.out; have := HJ3.out; omega⟩, ⟨by (with_reducible repeat (first | apply Kd.R_alloc | apply Kd.R_drewN | apply Kd.R_drew)); exact HO_4.out⟩, ⟨by repeat (first | (with_reducible first | exact HB.out | apply below_alloc | apply pw_below_drewN | apply below_drew1) | exact HB.out)⟩⟩
                    · rw [if_neg c11] at H
                      have c11b0 : ((Go.bits .and .u8 (rd l0 x5_1) 128) == 0) = false := beq_eq_false_iff_ne.mpr c11
                      have c11b1 : ((Go.bits .and .u8 (rd l0 x5_1) 128) != 0) = true := bne_iff_ne.mpr c11
                      have c12b0 := eq_true (of_decide_eq_true zq16_0 : 0 ≤ x5_1)
                      by_cases c13 : x5_1 ≤ (wrap64 (x5_1 + 1))
                      · rw [if_pos c13] at H
                        have c13b0 := eq_true c13
                        have c13b1 : decide (x5_1 ≤ (wrap64 (x5_1 + 1))) = true := decide_eq_true c13
                        by_cases c14 : (wrap64 (x5_1 + 1)) ≤ (l0.length : Int)
                        · rw [if_pos c14] at H
                          have c14b0 := eq_true c14
                          have c14b1 : decide ((wrap64 (x5_1 + 1)) ≤ (l0.length : Int)) = true := decide_eq_true c14
                          by_cases c15 : x4_1.length + ((l0.take ((wrap64 (x5_1 + 1)) : Int).toNat).drop (x5_1 : Int).toNat).length < 140737488355328
                          · rw [if_pos c15] at H
                            have LMc15 := Aside0.mk c15
                            clear c15
                            obtain ⟨y649, hy649⟩ : ∃ y_ : List Int, y_ = (x4_1 ++ ((l0.take ((wrap64 (x5_1 + 1)) : Int).toNat).drop (x5_1 : Int).toNat)) := ⟨_, rfl⟩
                            replace H : (ip4_Copied.l0 kj3 l0 y649 (wrap64 (x5_1 + 1))) = some (r1, r2) := by first | (rw [hy649]; with_reducible exact H) | (have H2_ := (Option.bind_some _ _).symm.trans H; rw [hy649]; with_reducible exact H2_) | (have H2_ := (Option.bind_some _ _).symm.trans H; with_reducible exact H2_) | with_reducible exact H | (rw [hy649]; exact H) | exact H
                            have Ny649 := Aside0.mk hy649
                            clear hy649
                            have H' := Aside0.mk H
                            clear H
                            have p646 : 0 ≤ (x5_1 : Int) := of_decide_eq_true zq16_0
                            have q646 : x5_1 < (l0.length : Int) := of_decide_eq_true zq16_0
                            obtain ⟨ad646, e646, hx646_0⟩ := Kd.at_int HR0.out x5_1 p646 q646
                            cases e646
                            replace hx646_0 := (HB.out.cell (World.block_lt_of_cell? w _ hx646_0)).trans hx646_0
                            replace p646 := eq_true p646
                            replace q646 := eq_true q646
                            have p647 : 0 ≤ (x5_1 : Int) := of_decide_eq_true zq16_0
                            have q647 : x5_1 < (l0.length : Int) := of_decide_eq_true zq16_0
                            obtain ⟨ad647, e647, hx647_0⟩ := Kd.at_int HR0.out x5_1 p647 q647
                            obtain rfl : ad646 = ad647 := (by injection e647)
                            replace hx647_0 := (HB.out.cell (World.block_lt_of_cell? w _ hx647_0)).trans hx647_0
                            replace p647 := eq_true p647
                            replace q647 := eq_true q647
                            obtain ⟨i016, hi016, _, hsz16, _⟩ := info_parts info5
                            obtain ⟨A16, hcut16, hA16, hC16⟩ := print_mid_of (P := Try.prog) (Value.int .u8) 0 23 5 .i64 .i64 Try.underlying23 hi016 hsz16 (some ad646) c0 l0 x5_1 (wrap64 (x5_1 + 1)) (of_decide_eq_true zq16_0) (by first | omega | exact of_decide_eq_true zq16_0) (of_decide_eq_true zq16_0) HC0.out
                            have HR648 := Aside0.mk (Kd.C_of_reads (h1 := fun _ => rfl) (hA16 _ (Kd.reads_of_C HR0.out)))
                            have HC648 := Aside0.mk hC16
                            clear hA16 hC16 hi016 hsz16
                            go_wp2_with (first | ((with_reducible refine gate_builtin (b := .append) (xs := #[.tmp 38, .tmp 44]) rfl ?_); at_builtin; refine Kd.R_append_rows (Kd.int .u8) (w0 := w) w.heap.size rfl (.tmp 38) (.tmp 44) 23 5 (.int .u8 0) 1 rfl Try.underlying23 info5 rfl (by decide) (by omega) u4 x4_1 ((l0.take ((wrap64 (x5_1 + 1)) : Int).toNat).drop (x5_1 : Int).toNat) _ _ _ (fun _ => True) (fun _ => False) rfl rfl ?aO ?aR (fun _ _ h => h) (fun _ h => h.elim) ?aF ?aB ?aS ?aL ?_; (case aR => first | (rw [← show ((l0.take ((wrap64 (x5_1 + 1)) : Int).toNat).drop (x5_1 : Int).toNat).length = ((wrap64 (x5_1 + 1)).toNat - x5_1.toNat) from (by rw [List.length_drop, List.length_take]; have h_ : ((wrap64 (x5_1 + 1)) : Int) ≤ (l0.length : Int) := of_decide_eq_true zq16_0; omega)]; repeat (first | exact (Kd.C_below HR648.out HB.out) | (with_reducible refine Kd.C_alloc ?_ _) | (with_reducible refine Kd.C_drewN ?_ _) | (with_reducible refine Kd.C_drew ?_))) | (repeat (first | exact (Kd.C_below HR648.out HB.out) | (with_reducible refine Kd.C_alloc ?_ _) | (with_reducible refine Kd.C_drewN ?_ _) | (with_reducible refine Kd.C_drew ?_)))); (case aB => exact zq16_1); (case aF => exact (fun _ _ => trivial)); (case aO => exact (by (with_reducible repeat (first | apply Kd.R_alloc | apply Kd.R_drewN | apply Kd.R_drew)); exact HO_4.out)); (case aS => exact (below_size zq16_1)); (case aL => have := LMc15.out; have hlx_ := (show ((l0.take ((wrap64 (x5_1 + 1)) : Int).toNat).drop (x5_1 : Int).toNat).length = ((wrap64 (x5_1 + 1)).toNat - x5_1.toNat) from (by rw [List.length_drop, List.length_take]; have h_ : ((wrap64 (x5_1 + 1)) : Int) ≤ (l0.length : Int) := of_decide_eq_true zq16_0; omega)); omega); intro v650 w17 ho hb hg hat; rw [← Ny649.out] at ho; have n0_ := Aside0.mk (hb); have n1_ := Aside0.mk (ho); clear HB; clear HO_4; have HB := n0_; have HO651 := n1_; clear n0_ n1_; clear ho hb hg hat))
                            go_roundg kj3
                            case measure => have := HK1.out; have := HJ3.out; omega
                            case rel => exact ⟨(y649), (wrap64 (x5_1 + 1)), (by first | rfl | (simp; done) | (simp [*]; done)), H', ⟨by have := HK1.out; have := HJ3.out; omega⟩, ⟨by (with_reducible repeat (first | apply Kd.R_alloc | apply Kd.R_drewN | apply Kd.R_drew)); exact HO651.out⟩, ⟨by repeat (first | (with_reducible first | exact HB.out | apply below_alloc | apply pw_below_drewN | apply below_drew1) | exact HB.out)⟩⟩
                          · rw [if_neg c15] at H
                            exact absurd H (by simp)
                        · rw [if_neg c14] at H
                          exact absurd H (by simp)
                      · rw [if_neg c13] at H
                        exact absurd H (by simp)
                  · rw [if_neg c10] at H
                    have c10b0 : ((rd l0 x5_1) == 1) = false := beq_eq_false_iff_ne.mpr c10
                    have c10b1 : ((rd l0 x5_1) != 1) = true := bne_iff_ne.mpr c10
                    obtain ⟨ji18, hji18⟩ : ∃ j_ : Int, (wrap64 (x5_1 + 1)) = j_ := ⟨_, rfl⟩
                    replace H : (if 0 ≤ (ji18) then (if (ji18) < (l0.length : Int) then (if (Go.bits .and .u8 (rd l0 x5_1) 128) = 0 then (ip4_Copied.l0 kj3 l0 x4_1 (wrap64 (x5_1 + (wrap64 (rd l0 (ji18)))))) else (if x5_1 ≤ (wrap64 (x5_1 + (wrap64 (rd l0 (ji18))))) then (if (wrap64 (x5_1 + (wrap64 (rd l0 (ji18))))) ≤ (l0.length : Int) then (if x4_1.length + ((l0.take ((wrap64 (x5_1 + (wrap64 (rd l0 (ji18))))) : Int).toNat).drop (x5_1 : Int).toNat).length < 140737488355328 then (ip4_Copied.l0 kj3 l0 (x4_1 ++ ((l0.take ((wrap64 (x5_1 + (wrap64 (rd l0 (ji18))))) : Int).toNat).drop (x5_1 : Int).toNat)) (wrap64 (x5_1 + (wrap64 (rd l0 (ji18)))))) else (none)) else (none)) else (none))) else (none)) else (none)) = some (r1, r2) := by first | (rw [hji18] at H; exact H) | (simp only [hji18] at H ⊢; exact H)
                    have hji18w : (IntKind.i64.wrap (x5_1 + 1)) = ji18 := (i64_w _).trans hji18
                    by_cases c19 : 0 ≤ (ji18)
                    · rw [if_pos c19] at H
                      have c19b0 : decide (0 ≤ (ji18)) = true := decide_eq_true c19
                      clear c19
                      by_cases c20 : (ji18) < (l0.length : Int)
                      · rw [if_pos c20] at H
                        have c20b0 : decide ((ji18) < (l0.length : Int)) = true := decide_eq_true c20
                        clear c20
                        by_cases c21 : (Go.bits .and .u8 (rd l0 x5_1) 128) = 0
                        · rw [if_pos c21] at H
                          have c21b0 : ((Go.bits .and .u8 (rd l0 x5_1) 128) == 0) = true := beq_iff_eq.mpr c21
                          have c21b1 : ((Go.bits .and .u8 (rd l0 x5_1) 128) != 0) = false := bne_eq_false_iff_eq.mpr c21
                          clear c21
                          have H' := Aside0.mk H
                          clear H
                          have p646 : 0 ≤ (x5_1 : Int) := of_decide_eq_true zq16_0
                          have q646 : x5_1 < (l0.length : Int) := of_decide_eq_true zq16_0
                          obtain ⟨ad646, e646, hx646_0⟩ := Kd.at_int HR0.out x5_1 p646 q646
                          cases e646
                          replace hx646_0 := (HB.out.cell (World.block_lt_of_cell? w _ hx646_0)).trans hx646_0
                          replace p646 := eq_true p646
                          replace q646 := eq_true q646
                          have p652 : 0 ≤ ((ji18) : Int) := of_decide_eq_true zq16_0
                          have q652 : (ji18) < (l0.length : Int) := of_decide_eq_true zq16_0
                          obtain ⟨ad652, e652, hx652_0⟩ := Kd.at_int HR0.out (ji18) p652 q652
                          obtain rfl : ad646 = ad652 := (by injection e652)
                          replace hx652_0 := (HB.out.cell (World.block_lt_of_cell? w _ hx652_0)).trans hx652_0
                          replace p652 := eq_true p652
                          replace q652 := eq_true q652
                          have p653 : 0 ≤ (x5_1 : Int) := of_decide_eq_true zq16_0
                          have q653 : x5_1 < (l0.length : Int) := of_decide_eq_true zq16_0
                          obtain ⟨ad653, e653, hx653_0⟩ := Kd.at_int HR0.out x5_1 p653 q653
                          obtain rfl : ad646 = ad653 := (by injection e653)
                          replace hx653_0 := (HB.out.cell (World.block_lt_of_cell? w _ hx653_0)).trans hx653_0
                          replace p653 := eq_true p653
                          replace q653 := eq_true q653
                          go_wp2
                          go_roundg kj3
                          case measure => have := HK1.out; have := HJ3.out; omega
                          case rel => exact ⟨(x4_1), (wrap64 (x5_1 + (wrap64 (rd l0 (ji18))))), (by first | rfl | (simp; done) | (simp only [← hji18] <;> (first | rfl | simp)) | (simp [*]; done)), H', ⟨by have := HK1.out; have := HJ3.out; omega⟩, ⟨by (with_reducible repeat (first | apply Kd.R_alloc | apply Kd.R_drewN | apply Kd.R_drew)); exact HO_4.out⟩, ⟨by repeat (first | (with_reducible first | exact HB.out | apply below_alloc | apply pw_below_drewN | apply below_drew1) | exact HB.out)⟩⟩
                        · rw [if_neg c21] at H
                          have c21b0 : ((Go.bits .and .u8 (rd l0 x5_1) 128) == 0) = false := beq_eq_false_iff_ne.mpr c21
                          have c21b1 : ((Go.bits .and .u8 (rd l0 x5_1) 128) != 0) = true := bne_iff_ne.mpr c21
                          have c22b0 := eq_true (of_decide_eq_true zq16_0 : 0 ≤ x5_1)
                          by_cases c23 : x5_1 ≤ (wrap64 (x5_1 + (wrap64 (rd l0 (ji18)))))
                          · rw [if_pos c23] at H
                            have c23b0 := eq_true c23
                            have c23b1 : decide (x5_1 ≤ (wrap64 (x5_1 + (wrap64 (rd l0 (ji18)))))) = true := decide_eq_true c23
                            by_cases c24 : (wrap64 (x5_1 + (wrap64 (rd l0 (ji18))))) ≤ (l0.length : Int)
                            · rw [if_pos c24] at H
                              have c24b0 := eq_true c24
                              have c24b1 : decide ((wrap64 (x5_1 + (wrap64 (rd l0 (ji18))))) ≤ (l0.length : Int)) = true := decide_eq_true c24
                              by_cases c25 : x4_1.length + ((l0.take ((wrap64 (x5_1 + (wrap64 (rd l0 (ji18))))) : Int).toNat).drop (x5_1 : Int).toNat).length < 140737488355328
                              · rw [if_pos c25] at H
                                have LMc25 := Aside0.mk c25
                                clear c25
                                obtain ⟨y655, hy655⟩ : ∃ y_ : List Int, y_ = (x4_1 ++ ((l0.take ((wrap64 (x5_1 + (wrap64 (rd l0 (ji18))))) : Int).toNat).drop (x5_1 : Int).toNat)) := ⟨_, rfl⟩
                                replace H : (ip4_Copied.l0 kj3 l0 y655 (wrap64 (x5_1 + (wrap64 (rd l0 (ji18)))))) = some (r1, r2) := by first | (rw [hy655]; with_reducible exact H) | (have H2_ := (Option.bind_some _ _).symm.trans H; rw [hy655]; with_reducible exact H2_) | (have H2_ := (Option.bind_some _ _).symm.trans H; with_reducible exact H2_) | with_reducible exact H | (rw [hy655]; exact H) | exact H
                                have Ny655 := Aside0.mk hy655
                                clear hy655
                                have H' := Aside0.mk H
                                clear H
                                have p646 : 0 ≤ (x5_1 : Int) := of_decide_eq_true zq16_0
                                have q646 : x5_1 < (l0.length : Int) := of_decide_eq_true zq16_0
                                obtain ⟨ad646, e646, hx646_0⟩ := Kd.at_int HR0.out x5_1 p646 q646
                                cases e646
                                replace hx646_0 := (HB.out.cell (World.block_lt_of_cell? w _ hx646_0)).trans hx646_0
                                replace p646 := eq_true p646
                                replace q646 := eq_true q646
                                have p652 : 0 ≤ ((ji18) : Int) := of_decide_eq_true zq16_0
                                have q652 : (ji18) < (l0.length : Int) := of_decide_eq_true zq16_0
                                obtain ⟨ad652, e652, hx652_0⟩ := Kd.at_int HR0.out (ji18) p652 q652
                                obtain rfl : ad646 = ad652 := (by injection e652)
                                replace hx652_0 := (HB.out.cell (World.block_lt_of_cell? w _ hx652_0)).trans hx652_0
                                replace p652 := eq_true p652
                                replace q652 := eq_true q652
                                have p653 : 0 ≤ (x5_1 : Int) := of_decide_eq_true zq16_0
                                have q653 : x5_1 < (l0.length : Int) := of_decide_eq_true zq16_0
                                obtain ⟨ad653, e653, hx653_0⟩ := Kd.at_int HR0.out x5_1 p653 q653
                                obtain rfl : ad646 = ad653 := (by injection e653)
                                replace hx653_0 := (HB.out.cell (World.block_lt_of_cell? w _ hx653_0)).trans hx653_0
                                replace p653 := eq_true p653
                                replace q653 := eq_true q653
                                obtain ⟨i026, hi026, _, hsz26, _⟩ := info_parts info5
                                obtain ⟨A26, hcut26, hA26, hC26⟩ := print_mid_of (P := Try.prog) (Value.int .u8) 0 23 5 .i64 .i64 Try.underlying23 hi026 hsz26 (some ad646) c0 l0 x5_1 (wrap64 (x5_1 + (wrap64 (rd l0 (ji18))))) (of_decide_eq_true zq16_0) (by first | omega | exact of_decide_eq_true zq16_0) (of_decide_eq_true zq16_0) HC0.out
                                have HR654 := Aside0.mk (Kd.C_of_reads (h1 := fun _ => rfl) (hA26 _ (Kd.reads_of_C HR0.out)))
                                have HC654 := Aside0.mk hC26
                                clear hA26 hC26 hi026 hsz26
                                go_wp2_with (first | ((with_reducible refine gate_builtin (b := .append) (xs := #[.tmp 38, .tmp 44]) rfl ?_); at_builtin; refine Kd.R_append_rows (Kd.int .u8) (w0 := w) w.heap.size rfl (.tmp 38) (.tmp 44) 23 5 (.int .u8 0) 1 rfl Try.underlying23 info5 rfl (by decide) (by omega) u4 x4_1 ((l0.take ((wrap64 (x5_1 + (wrap64 (rd l0 (ji18))))) : Int).toNat).drop (x5_1 : Int).toNat) _ _ _ (fun _ => True) (fun _ => False) rfl rfl ?aO ?aR (fun _ _ h => h) (fun _ h => h.elim) ?aF ?aB ?aS ?aL ?_; (case aR => first | (rw [← show ((l0.take ((wrap64 (x5_1 + (wrap64 (rd l0 (ji18))))) : Int).toNat).drop (x5_1 : Int).toNat).length = ((wrap64 (x5_1 + (wrap64 (rd l0 (ji18))))).toNat - x5_1.toNat) from (by rw [List.length_drop, List.length_take]; have h_ : ((wrap64 (x5_1 + (wrap64 (rd l0 (ji18))))) : Int) ≤ (l0.length : Int) := of_decide_eq_true zq16_0; omega)]; repeat (first | exact (Kd.C_below HR654.out HB.out) | (with_reducible refine Kd.C_alloc ?_ _) | (with_reducible refine Kd.C_drewN ?_ _) | (with_reducible refine Kd.C_drew ?_))) | (repeat (first | exact (Kd.C_below HR654.out HB.out) | (with_reducible refine Kd.C_alloc ?_ _) | (with_reducible refine Kd.C_drewN ?_ _) | (with_reducible refine Kd.C_drew ?_)))); (case aB => exact zq16_1); (case aF => exact (fun _ _ => trivial)); (case aO => exact (by (with_reducible repeat (first | apply Kd.R_alloc | apply Kd.R_drewN | apply Kd.R_drew)); exact HO_4.out)); (case aS => exact (below_size zq16_1)); (case aL => have := LMc25.out; have hlx_ := (show ((l0.take ((wrap64 (x5_1 + (wrap64 (rd l0 (ji18))))) : Int).toNat).drop (x5_1 : Int).toNat).length = ((wrap64 (x5_1 + (wrap64 (rd l0 (ji18))))).toNat - x5_1.toNat) from (by rw [List.length_drop, List.length_take]; have h_ : ((wrap64 (x5_1 + (wrap64 (rd l0 (ji18))))) : Int) ≤ (l0.length : Int) := of_decide_eq_true zq16_0; omega)); omega); intro v656 w27 ho hb hg hat; rw [← Ny655.out] at ho; have n0_ := Aside0.mk (hb); have n1_ := Aside0.mk (ho); clear HB; clear HO_4; have HB := n0_; have HO657 := n1_; clear n0_ n1_; clear ho hb hg hat))
                                go_roundg kj3
                                case measure => have := HK1.out; have := HJ3.out; omega
                                case rel => exact ⟨(y655), (wrap64 (x5_1 + (wrap64 (rd l0 (ji18))))), (by first | rfl | (simp; done) | (simp only [← hji18] <;> (first | rfl | simp)) | (simp [*]; done)), H', ⟨by have := HK1.out; have := HJ3.out; omega⟩, ⟨by (with_reducible repeat (first | apply Kd.R_alloc | apply Kd.R_drewN | apply Kd.R_drew)); exact HO657.out⟩, ⟨by repeat (first | (with_reducible first | exact HB.out | apply below_alloc | apply pw_below_drewN | apply below_drew1) | exact HB.out)⟩⟩
                              · rw [if_neg c25] at H
                                exact absurd H (by simp)
                            · rw [if_neg c24] at H
                              exact absurd H (by simp)
                          · rw [if_neg c23] at H
                            exact absurd H (by simp)
                      · rw [if_neg c20] at H
                        exact absurd H (by simp)
                    · rw [if_neg c19] at H
                      exact absurd H (by simp)
                · rw [if_neg c9] at H
                  exact absurd H (by simp)
              · rw [if_neg c8] at H
                exact absurd H (by simp)
            · replace c7 := Bool.eq_false_iff.mpr c7
              subst c7
              have H1 : (ip4_Copied.l1 kj3 x4_1) = some (r1, r2) := by rw [if_neg (show ¬ (false = true) by decide)] at H; exact H
              clear H
              have H := H1
              clear H1
              have H' := Aside0.mk H
              clear H
              go_wp2
              go_loopg [4] kj3 (fun kq v4 w' => ∃ (x4_3 : List Int), Aside0 (ip4_Copied.l1 kq x4_3 = some (r1, r2)) ∧ Aside0 (kq ≤ kj3) ∧ Aside0 (Kd.R (Kd.int .u8) 5 w' w.heap.size (fun _ => True) v4 x4_3) ∧ Aside0 (Below w.heap.size w w'))
              case atStart => exact ⟨(x4_1), H', ⟨Nat.le_refl _⟩, ⟨by (with_reducible repeat (first | apply Kd.R_alloc | apply Kd.R_drewN | apply Kd.R_drew)); exact HO_4.out⟩, ⟨by repeat (first | (with_reducible first | exact HB.out | apply below_alloc | apply pw_below_drewN | apply below_drew1) | exact HB.out)⟩⟩
              case round =>
                clear H'
                try clear c1
                try clear c2
                try clear p2
                try clear c3
                try clear p4
                try clear c5
                try clear c5b0
                try clear c6
                try clear c6b0
                try clear p6
                try clear q6
                try clear hx6
                try clear c7
                try clear c8
                try clear c8b0
                try clear c9
                try clear c9b0
                try clear c10
                try clear c10b0
                try clear c10b1
                try clear c11
                try clear c11b0
                try clear c11b1
                try clear c12
                try clear c12b0
                try clear c13
                try clear c13b0
                try clear c13b1
                try clear c14
                try clear c14b0
                try clear c14b1
                try clear c15
                try clear c19
                try clear c19b0
                try clear c20
                try clear c20b0
                try clear c21
                try clear c21b0
                try clear c21b1
                try clear c22
                try clear c22b0
                try clear c23
                try clear c23b0
                try clear c23b1
                try clear c24
                try clear c24b0
                try clear c24b1
                try clear c25
                try clear hx645_0
                try clear hx646_0
                try clear hx647_0
                try clear hx652_0
                try clear hx653_0
                try clear p2
                try clear p4
                try clear p6
                try clear p645
                try clear p646
                try clear p647
                try clear p652
                try clear p653
                try clear q6
                try clear q645
                try clear q646
                try clear q647
                try clear q652
                try clear q653
                obtain ⟨x4_3, HA, HK3, HO_4, HB⟩ := hrel
                cases gk with
                | zero => exact absurd HA.out (by simp [ip4_Copied.l1])
                | succ k3 =>
                  have H := HA.out
                  clear HA
                  simp only [ip4_Copied.l1] at H
                  by_cases c28 : ((x4_3.length : Int) % 4) = 0
                  · rw [if_pos c28] at H
                    have c28b0 : (((x4_3.length : Int) % 4) == 0) = true := beq_iff_eq.mpr c28
                    have c28b1 : (((x4_3.length : Int) % 4) != 0) = false := bne_eq_false_iff_eq.mpr c28
                    clear c28
                    simp only [Option.some.injEq, Prod.mk.injEq] at H
                    obtain ⟨rfl, rfl⟩ := H
                    obtain ⟨Ao29, co29, eo29⟩ := Kd.R_slice HO_4.out
                    subst eo29
                    go_wp2
                    go_ret2
                    exact ⟨_, by first | rfl | (simp [errW_none, errW_some] <;> rfl) | (simp [*, errW_none, errW_some] <;> rfl), by (with_reducible repeat (first | apply Kd.R_alloc | apply Kd.R_drewN | apply Kd.R_drew)); exact HO_4.out, by repeat (first | (with_reducible first | exact HB.out | apply below_alloc | apply pw_below_drewN | apply below_drew1) | exact HB.out)⟩
                  · rw [if_neg c28] at H
                    have c28b0 : (((x4_3.length : Int) % 4) == 0) = false := beq_eq_false_iff_ne.mpr c28
                    have c28b1 : (((x4_3.length : Int) % 4) != 0) = true := bne_iff_ne.mpr c28
                    by_cases c30 : x4_3.length < 140737488355328
                    · rw [if_pos c30] at H
                      have LMc30 := Aside0.mk c30
                      clear c30
                      obtain ⟨y658, hy658⟩ : ∃ y_ : List Int, y_ = (x4_3 ++ [0]) := ⟨_, rfl⟩
                      replace H : (ip4_Copied.l1 k3 y658) = some (r1, r2) := by first | (rw [hy658]; with_reducible exact H) | (have H2_ := (Option.bind_some _ _).symm.trans H; rw [hy658]; with_reducible exact H2_) | (have H2_ := (Option.bind_some _ _).symm.trans H; with_reducible exact H2_) | with_reducible exact H | (rw [hy658]; exact H) | exact H
                      have Ny658 := Aside0.mk hy658
                      clear hy658
                      have H' := Aside0.mk H
                      clear H
                      obtain ⟨Ao31, co31, eo31⟩ := Kd.R_slice HO_4.out
                      subst eo31
                      go_wp2_with (first | ((with_reducible refine gate_builtin (b := .append) (xs := #[.tmp 53, .tmp 54]) rfl ?_); at_builtin; refine Kd.R_append (Kd.int .u8) (w0 := w) w.heap.size rfl (.tmp 53) (.tmp 54) 23 5 (.int .u8 0) 1 rfl Try.underlying23 info5 rfl (by decide) (by omega) (.slice Ao31 x4_3.length co31) x4_3 0 [.int .u8 0] (fun _ => True) (fun _ => False) rfl rfl ?aP (fun _ hk => hk.elim) ?aF ?aO ?aB ?aS ?aL ?_; (case aP => exact rfl); (case aB => exact zq16_1); (case aF => exact (fun _ _ => trivial)); (case aO => exact (by (with_reducible repeat (first | apply Kd.R_alloc | apply Kd.R_drewN | apply Kd.R_drew)); exact HO_4.out)); (case aS => exact (below_size zq16_1)); (case aL => have := LMc30.out; omega); intro v659 w32 ho hb hg hat; rw [← Ny658.out] at ho; have n0_ := Aside0.mk (hb); have n1_ := Aside0.mk (ho); clear HB; clear HO_4; have HB := n0_; have HO660 := n1_; clear n0_ n1_; clear ho hb hg hat))
                      go_roundg k3
                      case measure => have := HK1.out; have := HJ3.out; have := HK3.out; omega
                      case rel => exact ⟨(y658), H', ⟨by have := HK1.out; have := HJ3.out; have := HK3.out; omega⟩, ⟨by (with_reducible repeat (first | apply Kd.R_alloc | apply Kd.R_drewN | apply Kd.R_drew)); exact HO660.out⟩, ⟨by repeat (first | (with_reducible first | exact HB.out | apply below_alloc | apply pw_below_drewN | apply below_drew1) | exact HB.out)⟩⟩
                    · rw [if_neg c30] at H
                      exact absurd H (by simp)
  · replace c3 := Bool.eq_false_iff.mpr c3
    subst c3
    have H1 : (some (([] : List Int), 34)) = some (r1, r2) := by rw [if_neg (show ¬ (false = true) by decide)] at H; exact H
    clear H
    have H := H1
    clear H1
    simp only [Option.some.injEq, Prod.mk.injEq] at H
    obtain ⟨rfl, rfl⟩ := H
    go_enter Try.func39, Try.ntmps39
    go_wp2_with (first | ((with_reducible refine gate_callee (f := 50) rfl ?_); refine goesL_ (some 8) rfl rfl Try.func50 (by kernel_rfl) rfl #[.slice A0 l0.length c0] rfl (by (try simp only [List.map_toArray, List.map_cons, List.map_nil]); first | done | rfl | (simp only [List.length_drop, List.length_take]; rfl)) ?_; (with_reducible refine (ip4_optionsOK.calls k _ _ l0 false _ ?side1 ?side2 A2.out).mono ?_); (case side1 => repeat (first | exact HR0.out | (with_reducible refine Kd.C_alloc ?_ _) | (with_reducible refine Kd.C_drewN ?_ _) | (with_reducible refine Kd.C_drew ?_))); (case side2 => exact HC0.out); rintro e w' ⟨rfl, ⟨nd, rfl⟩⟩; refine ⟨_, rfl, ?_⟩))
    go_ret2
    exact ⟨_, by first | rfl | (simp [errW_none, errW_some] <;> rfl) | (simp [*, errW_none, errW_some] <;> rfl), by first | exact Kd.R_nil _ _ _ _ _ | exact Kd.N_nil _ _ _ _ _ | exact Kd.V_nil _ _ _ _ _ | exact Kd.Q_nil _ _ _ _ _ | exact Kd.S_nil _ _ _ _ _, by repeat (first | (with_reducible first | exact HB.out | apply below_alloc | apply pw_below_drewN | apply below_drew1) | exact HB.out)⟩

/-! ### weftref3_Copied: function 40 -/
mutual
def weftref3_Copied.l0 : Nat → List Int → List Int → Int → Option (List Int × Int)
  | 0, _, _, _ => none
  | k + 1, x0, x4, x5 => if x5 < (x0.length : Int) then ((weftref3_behind.f k x0 x5).bind fun t662 => (if 0 ≤ x5 then (if (rd x0 x5) ≥ 128 then (weftref3_Copied.l1 k x0 x4 t662 x5) else (weftref3_Copied.l0 k x0 x4 t662)) else (none))) else (weftref3_Copied.l2 k x4)
def weftref3_Copied.l1 : Nat → List Int → List Int → Int → Int → Option (List Int × Int)
  | 0, _, _, _, _ => none
  | k + 1, x0, x4, x6, x7 => if x7 < x6 then (if 0 ≤ x7 then (if x7 < (x0.length : Int) then (if x4.length < 140737488355328 then (weftref3_Copied.l1 k x0 (x4 ++ [rd x0 x7]) x6 (wrap64 (x7 + 1))) else (none)) else (none)) else (none)) else (weftref3_Copied.l0 k x0 x4 x6)
def weftref3_Copied.l2 : Nat → List Int → Option (List Int × Int)
  | 0, _ => none
  | k + 1, x4 => if ((x4.length : Int) % 4) = 0 then (some (x4, 0)) else (if x4.length < 140737488355328 then (weftref3_Copied.l2 k (x4 ++ [0])) else (none))
end
def weftref3_Copied.f (k : Nat) (l0 : List Int) : Option (List Int × Int) := (weftref3_Area.f k l0).bind fun t661 => (if t661 = true then (weftref3_Copied.l0 k l0 ([] : List Int) 0) else (some (([] : List Int), 34)))
theorem weftref3_Copied.mono_l : ∀ k, (∀ y0 y1 y2, LeO (weftref3_Copied.l0 k y0 y1 y2) (weftref3_Copied.l0 (k + 1) y0 y1 y2)) ∧ (∀ y0 y1 y2 y3, LeO (weftref3_Copied.l1 k y0 y1 y2 y3) (weftref3_Copied.l1 (k + 1) y0 y1 y2 y3)) ∧ (∀ y0, LeO (weftref3_Copied.l2 k y0) (weftref3_Copied.l2 (k + 1) y0))
  | 0 => ⟨fun _ _ _ r h => by simp [weftref3_Copied.l0] at h, fun _ _ _ _ r h => by simp [weftref3_Copied.l1] at h, fun _ r h => by simp [weftref3_Copied.l2] at h⟩
  | k + 1 => by
    obtain ⟨ih0, ih1, ih2⟩ := weftref3_Copied.mono_l k
    refine ⟨?_, ?_, ?_⟩
    · intro y0 y1 y2
      unfold weftref3_Copied.l0
      repeat' first
      | (with_reducible exact ih0 _ _ _)
      | (with_reducible exact ih1 _ _ _ _)
      | (with_reducible exact ih2 _)
      | (with_reducible exact weftref3_Area.mono _ _)
      | (with_reducible exact weftref3_behind.mono _ _ _)
      | (with_reducible exact LeO.refl _)
      | (with_reducible exact LeO.none _)
      | (with_reducible refine LeO.ite ?_ ?_)
      | (with_reducible refine LeO.bind ?_ (fun _ => ?_))
      | exact ih0 _ _ _
      | exact ih1 _ _ _ _
      | exact ih2 _
      | exact weftref3_Area.mono _ _
      | exact weftref3_behind.mono _ _ _
      | exact LeO.none _
      | refine LeO.ite ?_ ?_
      | refine LeO.bind ?_ (fun _ => ?_)
    · intro y0 y1 y2 y3
      unfold weftref3_Copied.l1
      repeat' first
      | (with_reducible exact ih0 _ _ _)
      | (with_reducible exact ih1 _ _ _ _)
      | (with_reducible exact ih2 _)
      | (with_reducible exact weftref3_Area.mono _ _)
      | (with_reducible exact weftref3_behind.mono _ _ _)
      | (with_reducible exact LeO.refl _)
      | (with_reducible exact LeO.none _)
      | (with_reducible refine LeO.ite ?_ ?_)
      | (with_reducible refine LeO.bind ?_ (fun _ => ?_))
      | exact ih0 _ _ _
      | exact ih1 _ _ _ _
      | exact ih2 _
      | exact weftref3_Area.mono _ _
      | exact weftref3_behind.mono _ _ _
      | exact LeO.none _
      | refine LeO.ite ?_ ?_
      | refine LeO.bind ?_ (fun _ => ?_)
    · intro y0
      unfold weftref3_Copied.l2
      repeat' first
      | (with_reducible exact ih0 _ _ _)
      | (with_reducible exact ih1 _ _ _ _)
      | (with_reducible exact ih2 _)
      | (with_reducible exact weftref3_Area.mono _ _)
      | (with_reducible exact weftref3_behind.mono _ _ _)
      | (with_reducible exact LeO.refl _)
      | (with_reducible exact LeO.none _)
      | (with_reducible refine LeO.ite ?_ ?_)
      | (with_reducible refine LeO.bind ?_ (fun _ => ?_))
      | exact ih0 _ _ _
      | exact ih1 _ _ _ _
      | exact ih2 _
      | exact weftref3_Area.mono _ _
      | exact weftref3_behind.mono _ _ _
      | exact LeO.none _
      | refine LeO.ite ?_ ?_
      | refine LeO.bind ?_ (fun _ => ?_)
theorem weftref3_Copied.mono : ∀ a0 k, LeO (weftref3_Copied.f k a0) (weftref3_Copied.f (k + 1) a0) := by
  intro a0 k
  obtain ⟨ih0, ih1, ih2⟩ := weftref3_Copied.mono_l k
  unfold weftref3_Copied.f
  repeat' first
      | (with_reducible exact ih0 _ _ _)
      | (with_reducible exact ih1 _ _ _ _)
      | (with_reducible exact ih2 _)
      | (with_reducible exact weftref3_Area.mono _ _)
      | (with_reducible exact weftref3_behind.mono _ _ _)
      | (with_reducible exact LeO.refl _)
      | (with_reducible exact LeO.none _)
      | (with_reducible refine LeO.ite ?_ ?_)
      | (with_reducible refine LeO.bind ?_ (fun _ => ?_))
      | exact ih0 _ _ _
      | exact ih1 _ _ _ _
      | exact ih2 _
      | exact weftref3_Area.mono _ _
      | exact weftref3_behind.mono _ _ _
      | exact LeO.none _
      | refine LeO.ite ?_ ?_
      | refine LeO.bind ?_ (fun _ => ?_)
set_option maxHeartbeats 8000000 in
set_option maxRecDepth 100000 in
theorem weftref3_Copied.calls (k : Nat) (A0 : Option Addr) (c0 : Nat) (l0 : List Int) (r1 : List Int) (r2 : Int) (w : World) (hr0 : Kd.C (Kd.int .u8) w A0 l0.length l0) (hc0 : l0.length ≤ c0) (h : weftref3_Copied.f k l0 = some (r1, r2)) :
    Calls Try.prog 40 #[.slice A0 l0.length c0] w fun e w' => ∃ v0_ : Value, e = .returned (.tuple #[v0_, .int .i64 r2]) ∧ Kd.R (Kd.int .u8) 5 w' w.heap.size (fun _ => True) v0_ r1 ∧ Below w.heap.size w w' := by
  have HR0 := Aside0.mk hr0
  have HC0 := Aside0.mk hc0
  clear hr0 hc0
  have HB := Aside0.mk (Below.refl w.heap.size w)
  have H : ((weftref3_Area.f k l0).bind fun t661 => (if t661 = true then (weftref3_Copied.l0 k l0 ([] : List Int) 0) else (some (([] : List Int), 34)))) = some (r1, r2) := h
  clear h
  replace H := Option.bind_eq_some_iff.mp H
  obtain ⟨t661, A20, H⟩ := H
  replace H : (if t661 = true then (weftref3_Copied.l0 k l0 ([] : List Int) 0) else (some (([] : List Int), 34))) = some (r1, r2) := H
  have A2 := Aside0.mk A20
  clear A20
  by_cases c3 : t661 = true
  · subst c3
    have H1 : (weftref3_Copied.l0 k l0 ([] : List Int) 0) = some (r1, r2) := by rw [if_pos rfl] at H; exact H
    clear H
    have H := H1
    clear H1
    have H' := Aside0.mk H
    clear H
    go_enter Try.func40, Try.ntmps40
    go_wp2_with (first | ((with_reducible refine gate_callee (f := 54) rfl ?_); refine goesL_ (some 9) rfl rfl Try.func54 (by kernel_rfl) rfl #[.slice A0 l0.length c0] rfl (by (try simp only [List.map_toArray, List.map_cons, List.map_nil]); first | done | rfl | (simp only [List.length_drop, List.length_take]; rfl)) ?_; (with_reducible refine (weftref3_Area.calls k _ _ l0 true _ ?side1 ?side2 A2.out).mono ?_); (case side1 => repeat (first | exact HR0.out | (with_reducible refine Kd.C_alloc ?_ _) | (with_reducible refine Kd.C_drewN ?_ _) | (with_reducible refine Kd.C_drew ?_))); (case side2 => exact HC0.out); rintro e w' ⟨rfl, ⟨nd, rfl⟩⟩; refine ⟨_, rfl, ?_⟩))
    go_loopg [4, 5] k (fun kq v4 v5 w' => ∃ (x4_1 : List Int) (x5_1 : Int), v5 = .int .i64 x5_1 ∧ Aside0 (weftref3_Copied.l0 kq l0 x4_1 x5_1 = some (r1, r2)) ∧ Aside0 (kq ≤ k) ∧ Aside0 (Kd.R (Kd.int .u8) 5 w' w.heap.size (fun _ => True) v4 x4_1) ∧ Aside0 (Below w.heap.size w w'))
    case atStart => exact ⟨(([] : List Int)), (0), (by first | rfl | (simp; done) | (simp [*]; done)), H', ⟨Nat.le_refl _⟩, ⟨by first | exact Kd.R_nil _ _ _ _ _ | exact Kd.N_nil _ _ _ _ _ | exact Kd.V_nil _ _ _ _ _ | exact Kd.Q_nil _ _ _ _ _ | exact Kd.S_nil _ _ _ _ _⟩, ⟨by repeat (first | (with_reducible first | exact HB.out | apply below_alloc | apply pw_below_drewN | apply below_drew1) | exact HB.out)⟩⟩
    case round =>
      clear H'
      try clear p2
      try clear c3
      obtain ⟨x4_1, x5_1, rfl, HA, HK1, HO_4, HB⟩ := hrel
      cases gk with
      | zero => exact absurd HA.out (by simp [weftref3_Copied.l0])
      | succ k1 =>
        have H := HA.out
        clear HA
        simp only [weftref3_Copied.l0] at H
        by_cases c4 : x5_1 < (l0.length : Int)
        · rw [if_pos c4] at H
          have c4b0 : decide (x5_1 < (l0.length : Int)) = true := decide_eq_true c4
          clear c4
          replace H := Option.bind_eq_some_iff.mp H
          obtain ⟨t662, A50, H⟩ := H
          replace H : (if 0 ≤ x5_1 then (if (rd l0 x5_1) ≥ 128 then (weftref3_Copied.l1 k1 l0 x4_1 t662 x5_1) else (weftref3_Copied.l0 k1 l0 x4_1 t662)) else (none)) = some (r1, r2) := H
          have A5 := Aside0.mk A50
          clear A50
          by_cases c6 : 0 ≤ x5_1
          · rw [if_pos c6] at H
            have c6b0 : decide (0 ≤ x5_1) = true := decide_eq_true c6
            clear c6
            by_cases c7 : (rd l0 x5_1) ≥ 128
            · rw [if_pos c7] at H
              have c7b0 : decide (128 ≤ (rd l0 x5_1)) = true := decide_eq_true c7
              clear c7
              have H' := Aside0.mk H
              clear H
              go_wp2_with (first | ((with_reducible refine gate_callee (f := 55) rfl ?_); refine goesL_ (some 17) rfl rfl Try.func55 (by kernel_rfl) rfl #[.slice A0 l0.length c0, .int .i64 x5_1] rfl (by (try simp only [List.map_toArray, List.map_cons, List.map_nil]); first | done | rfl | (simp only [List.length_drop, List.length_take]; rfl)) ?_; (with_reducible refine (weftref3_behind.calls k1 _ _ l0 x5_1 t662 _ ?side1 ?side2 A5.out).mono ?_); (case side1 => repeat (first | exact (Kd.C_below HR0.out HB.out) | (with_reducible refine Kd.C_alloc ?_ _) | (with_reducible refine Kd.C_drewN ?_ _) | (with_reducible refine Kd.C_drew ?_))); (case side2 => exact HC0.out); rintro e w' ⟨rfl, ⟨nd, rfl⟩⟩; refine ⟨_, rfl, ?_⟩; have p663 : 0 ≤ (x5_1 : Int) := of_decide_eq_true zq16_0; have q663 : x5_1 < (l0.length : Int) := of_decide_eq_true zq16_0; obtain ⟨ad663, e663, hx663_0⟩ := Kd.at_int HR0.out x5_1 p663 q663; cases e663; replace hx663_0 := (HB.out.cell (World.block_lt_of_cell? w _ hx663_0)).trans hx663_0; replace p663 := eq_true p663; replace q663 := eq_true q663))
              go_loopg [4, 7] k1 (fun kq v4 v7 w' => ∃ (x4_2 : List Int) (x7_2 : Int), v7 = .int .i64 x7_2 ∧ Aside0 (weftref3_Copied.l1 kq l0 x4_2 t662 x7_2 = some (r1, r2)) ∧ Aside0 (kq ≤ k1) ∧ Aside0 (Kd.R (Kd.int .u8) 5 w' w.heap.size (fun _ => True) v4 x4_2) ∧ Aside0 (Below w.heap.size w w'))
              case atStart => exact ⟨(x4_1), (x5_1), (by first | rfl | (simp; done) | (simp [*]; done)), H', ⟨Nat.le_refl _⟩, ⟨by (with_reducible repeat (first | apply Kd.R_alloc | apply Kd.R_drewN | apply Kd.R_drew)); exact HO_4.out⟩, ⟨by repeat (first | (with_reducible first | exact HB.out | apply below_alloc | apply pw_below_drewN | apply below_drew1) | exact HB.out)⟩⟩
              case round =>
                clear H'
                try clear p2
                try clear c3
                try clear c4
                try clear c4b0
                try clear c5
                try clear c6
                try clear c6b0
                try clear p6
                try clear q6
                try clear hx6
                try clear c7
                try clear c7b0
                try clear hx663_0
                try clear p2
                try clear p663
                try clear q663
                obtain ⟨x4_2, x7_2, rfl, HA, HK2, HO_4, HB⟩ := hrel
                cases gk with
                | zero => exact absurd HA.out (by simp [weftref3_Copied.l1])
                | succ k2 =>
                  have H := HA.out
                  clear HA
                  simp only [weftref3_Copied.l1] at H
                  by_cases c8 : x7_2 < t662
                  · rw [if_pos c8] at H
                    have c8b0 : decide (x7_2 < t662) = true := decide_eq_true c8
                    clear c8
                    by_cases c9 : 0 ≤ x7_2
                    · rw [if_pos c9] at H
                      have c9b0 : decide (0 ≤ x7_2) = true := decide_eq_true c9
                      clear c9
                      by_cases c10 : x7_2 < (l0.length : Int)
                      · rw [if_pos c10] at H
                        have c10b0 : decide (x7_2 < (l0.length : Int)) = true := decide_eq_true c10
                        clear c10
                        by_cases c11 : x4_2.length < 140737488355328
                        · rw [if_pos c11] at H
                          have LMc11 := Aside0.mk c11
                          clear c11
                          obtain ⟨y665, hy665⟩ : ∃ y_ : List Int, y_ = (x4_2 ++ [rd l0 x7_2]) := ⟨_, rfl⟩
                          replace H : (weftref3_Copied.l1 k2 l0 y665 t662 (wrap64 (x7_2 + 1))) = some (r1, r2) := by first | (rw [hy665]; with_reducible exact H) | (have H2_ := (Option.bind_some _ _).symm.trans H; rw [hy665]; with_reducible exact H2_) | (have H2_ := (Option.bind_some _ _).symm.trans H; with_reducible exact H2_) | with_reducible exact H | (rw [hy665]; exact H) | exact H
                          have Ny665 := Aside0.mk hy665
                          clear hy665
                          have H' := Aside0.mk H
                          clear H
                          have p664 : 0 ≤ (x7_2 : Int) := of_decide_eq_true zq16_0
                          have q664 : x7_2 < (l0.length : Int) := of_decide_eq_true zq16_0
                          obtain ⟨ad664, e664, hx664_0⟩ := Kd.at_int HR0.out x7_2 p664 q664
                          obtain rfl : ad663 = ad664 := (by injection e664)
                          replace hx664_0 := (HB.out.cell (World.block_lt_of_cell? w _ hx664_0)).trans hx664_0
                          replace p664 := eq_true p664
                          replace q664 := eq_true q664
                          go_wp2_with (first | ((with_reducible refine gate_builtin (b := .append) (xs := #[.tmp 29, .tmp 34]) rfl ?_); at_builtin; refine Kd.R_append (Kd.int .u8) (w0 := w) w.heap.size rfl (.tmp 29) (.tmp 34) 23 5 (.int .u8 0) 1 rfl Try.underlying23 info5 rfl (by decide) (by omega) u4 x4_2 (rd l0 x7_2) [.int .u8 (rd l0 x7_2)] (fun _ => True) (fun _ => False) rfl rfl ?aP (fun _ hk => hk.elim) ?aF ?aO ?aB ?aS ?aL ?_; (case aP => exact rfl); (case aB => exact zq16_1); (case aF => exact (fun _ _ => trivial)); (case aO => exact (by (with_reducible repeat (first | apply Kd.R_alloc | apply Kd.R_drewN | apply Kd.R_drew)); exact HO_4.out)); (case aS => exact (below_size zq16_1)); (case aL => have := LMc11.out; omega); intro v666 w12 ho hb hg hat; rw [← Ny665.out] at ho; have n0_ := Aside0.mk (hb); have n1_ := Aside0.mk (ho); clear HB; clear HO_4; have HB := n0_; have HO667 := n1_; clear n0_ n1_; clear ho hb hg hat))
                          go_roundg k2
                          case measure => have := HK1.out; have := HK2.out; omega
                          case rel => exact ⟨(y665), (wrap64 (x7_2 + 1)), (by first | rfl | (simp; done) | (simp [*]; done)), H', ⟨by have := HK1.out; have := HK2.out; omega⟩, ⟨by (with_reducible repeat (first | apply Kd.R_alloc | apply Kd.R_drewN | apply Kd.R_drew)); exact HO667.out⟩, ⟨by repeat (first | (with_reducible first | exact HB.out | apply below_alloc | apply pw_below_drewN | apply below_drew1) | exact HB.out)⟩⟩
                        · rw [if_neg c11] at H
                          exact absurd H (by simp)
                      · rw [if_neg c10] at H
                        exact absurd H (by simp)
                    · rw [if_neg c9] at H
                      exact absurd H (by simp)
                  · rw [if_neg c8] at H
                    have c8b0 : decide (x7_2 < t662) = false := decide_eq_false c8
                    clear c8
                    have H' := Aside0.mk H
                    clear H
                    go_wp2
                    go_roundg k2
                    case measure => have := HK1.out; have := HK2.out; omega
                    case rel => exact ⟨(x4_2), (t662), (by first | rfl | (simp; done) | (simp [*]; done)), H', ⟨by have := HK1.out; have := HK2.out; omega⟩, ⟨by (with_reducible repeat (first | apply Kd.R_alloc | apply Kd.R_drewN | apply Kd.R_drew)); exact HO_4.out⟩, ⟨by repeat (first | (with_reducible first | exact HB.out | apply below_alloc | apply pw_below_drewN | apply below_drew1) | exact HB.out)⟩⟩
            · rw [if_neg c7] at H
              have c7b0 : decide (128 ≤ (rd l0 x5_1)) = false := decide_eq_false c7
              clear c7
              have H' := Aside0.mk H
              clear H
              go_wp2_with (first | ((with_reducible refine gate_callee (f := 55) rfl ?_); refine goesL_ (some 17) rfl rfl Try.func55 (by kernel_rfl) rfl #[.slice A0 l0.length c0, .int .i64 x5_1] rfl (by (try simp only [List.map_toArray, List.map_cons, List.map_nil]); first | done | rfl | (simp only [List.length_drop, List.length_take]; rfl)) ?_; (with_reducible refine (weftref3_behind.calls k1 _ _ l0 x5_1 t662 _ ?side1 ?side2 A5.out).mono ?_); (case side1 => repeat (first | exact (Kd.C_below HR0.out HB.out) | (with_reducible refine Kd.C_alloc ?_ _) | (with_reducible refine Kd.C_drewN ?_ _) | (with_reducible refine Kd.C_drew ?_))); (case side2 => exact HC0.out); rintro e w' ⟨rfl, ⟨nd, rfl⟩⟩; refine ⟨_, rfl, ?_⟩; have p663 : 0 ≤ (x5_1 : Int) := of_decide_eq_true zq16_0; have q663 : x5_1 < (l0.length : Int) := of_decide_eq_true zq16_0; obtain ⟨ad663, e663, hx663_0⟩ := Kd.at_int HR0.out x5_1 p663 q663; cases e663; replace hx663_0 := (HB.out.cell (World.block_lt_of_cell? w _ hx663_0)).trans hx663_0; replace p663 := eq_true p663; replace q663 := eq_true q663))
              go_roundg k1
              case measure => have := HK1.out; omega
              case rel => exact ⟨(x4_1), (t662), (by first | rfl | (simp; done) | (simp [*]; done)), H', ⟨by have := HK1.out; omega⟩, ⟨by (with_reducible repeat (first | apply Kd.R_alloc | apply Kd.R_drewN | apply Kd.R_drew)); exact HO_4.out⟩, ⟨by repeat (first | (with_reducible first | exact HB.out | apply below_alloc | apply pw_below_drewN | apply below_drew1) | exact HB.out)⟩⟩
          · rw [if_neg c6] at H
            exact absurd H (by simp)
        · rw [if_neg c4] at H
          have c4b0 : decide (x5_1 < (l0.length : Int)) = false := decide_eq_false c4
          clear c4
          have H' := Aside0.mk H
          clear H
          go_wp2
          go_loopg [4] k1 (fun kq v4 w' => ∃ (x4_2 : List Int), Aside0 (weftref3_Copied.l2 kq x4_2 = some (r1, r2)) ∧ Aside0 (kq ≤ k1) ∧ Aside0 (Kd.R (Kd.int .u8) 5 w' w.heap.size (fun _ => True) v4 x4_2) ∧ Aside0 (Below w.heap.size w w'))
          case atStart => exact ⟨(x4_1), H', ⟨Nat.le_refl _⟩, ⟨by (with_reducible repeat (first | apply Kd.R_alloc | apply Kd.R_drewN | apply Kd.R_drew)); exact HO_4.out⟩, ⟨by repeat (first | (with_reducible first | exact HB.out | apply below_alloc | apply pw_below_drewN | apply below_drew1) | exact HB.out)⟩⟩
          case round =>
            clear H'
            try clear c1
            try clear p2
            try clear c3
            try clear c4
            try clear c4b0
            try clear c5
            try clear c6
            try clear c6b0
            try clear p6
            try clear q6
            try clear hx6
            try clear c7
            try clear c7b0
            try clear c8
            try clear c8b0
            try clear c9
            try clear c9b0
            try clear c10
            try clear c10b0
            try clear c11
            try clear hx663_0
            try clear hx664_0
            try clear p2
            try clear p6
            try clear p663
            try clear p664
            try clear q6
            try clear q663
            try clear q664
            obtain ⟨x4_2, HA, HK2, HO_4, HB⟩ := hrel
            cases gk with
            | zero => exact absurd HA.out (by simp [weftref3_Copied.l2])
            | succ k2 =>
              have H := HA.out
              clear HA
              simp only [weftref3_Copied.l2] at H
              by_cases c13 : ((x4_2.length : Int) % 4) = 0
              · rw [if_pos c13] at H
                have c13b0 : (((x4_2.length : Int) % 4) == 0) = true := beq_iff_eq.mpr c13
                have c13b1 : (((x4_2.length : Int) % 4) != 0) = false := bne_eq_false_iff_eq.mpr c13
                clear c13
                simp only [Option.some.injEq, Prod.mk.injEq] at H
                obtain ⟨rfl, rfl⟩ := H
                obtain ⟨Ao14, co14, eo14⟩ := Kd.R_slice HO_4.out
                subst eo14
                go_wp2
                go_ret2
                exact ⟨_, by first | rfl | (simp [errW_none, errW_some] <;> rfl) | (simp [*, errW_none, errW_some] <;> rfl), by (with_reducible repeat (first | apply Kd.R_alloc | apply Kd.R_drewN | apply Kd.R_drew)); exact HO_4.out, by repeat (first | (with_reducible first | exact HB.out | apply below_alloc | apply pw_below_drewN | apply below_drew1) | exact HB.out)⟩
              · rw [if_neg c13] at H
                have c13b0 : (((x4_2.length : Int) % 4) == 0) = false := beq_eq_false_iff_ne.mpr c13
                have c13b1 : (((x4_2.length : Int) % 4) != 0) = true := bne_iff_ne.mpr c13
                by_cases c15 : x4_2.length < 140737488355328
                · rw [if_pos c15] at H
                  have LMc15 := Aside0.mk c15
                  clear c15
                  obtain ⟨y668, hy668⟩ : ∃ y_ : List Int, y_ = (x4_2 ++ [0]) := ⟨_, rfl⟩
                  replace H : (weftref3_Copied.l2 k2 y668) = some (r1, r2) := by first | (rw [hy668]; with_reducible exact H) | (have H2_ := (Option.bind_some _ _).symm.trans H; rw [hy668]; with_reducible exact H2_) | (have H2_ := (Option.bind_some _ _).symm.trans H; with_reducible exact H2_) | with_reducible exact H | (rw [hy668]; exact H) | exact H
                  have Ny668 := Aside0.mk hy668
                  clear hy668
                  have H' := Aside0.mk H
                  clear H
                  obtain ⟨Ao16, co16, eo16⟩ := Kd.R_slice HO_4.out
                  subst eo16
                  go_wp2_with (first | ((with_reducible refine gate_builtin (b := .append) (xs := #[.tmp 41, .tmp 42]) rfl ?_); at_builtin; refine Kd.R_append (Kd.int .u8) (w0 := w) w.heap.size rfl (.tmp 41) (.tmp 42) 23 5 (.int .u8 0) 1 rfl Try.underlying23 info5 rfl (by decide) (by omega) (.slice Ao16 x4_2.length co16) x4_2 0 [.int .u8 0] (fun _ => True) (fun _ => False) rfl rfl ?aP (fun _ hk => hk.elim) ?aF ?aO ?aB ?aS ?aL ?_; (case aP => exact rfl); (case aB => exact zq16_1); (case aF => exact (fun _ _ => trivial)); (case aO => exact (by (with_reducible repeat (first | apply Kd.R_alloc | apply Kd.R_drewN | apply Kd.R_drew)); exact HO_4.out)); (case aS => exact (below_size zq16_1)); (case aL => have := LMc15.out; omega); intro v669 w17 ho hb hg hat; rw [← Ny668.out] at ho; have n0_ := Aside0.mk (hb); have n1_ := Aside0.mk (ho); clear HB; clear HO_4; have HB := n0_; have HO670 := n1_; clear n0_ n1_; clear ho hb hg hat))
                  go_roundg k2
                  case measure => have := HK1.out; have := HK2.out; omega
                  case rel => exact ⟨(y668), H', ⟨by have := HK1.out; have := HK2.out; omega⟩, ⟨by (with_reducible repeat (first | apply Kd.R_alloc | apply Kd.R_drewN | apply Kd.R_drew)); exact HO670.out⟩, ⟨by repeat (first | (with_reducible first | exact HB.out | apply below_alloc | apply pw_below_drewN | apply below_drew1) | exact HB.out)⟩⟩
                · rw [if_neg c15] at H
                  exact absurd H (by simp)
  · replace c3 := Bool.eq_false_iff.mpr c3
    subst c3
    have H1 : (some (([] : List Int), 34)) = some (r1, r2) := by rw [if_neg (show ¬ (false = true) by decide)] at H; exact H
    clear H
    have H := H1
    clear H1
    simp only [Option.some.injEq, Prod.mk.injEq] at H
    obtain ⟨rfl, rfl⟩ := H
    go_enter Try.func40, Try.ntmps40
    go_wp2_with (first | ((with_reducible refine gate_callee (f := 54) rfl ?_); refine goesL_ (some 9) rfl rfl Try.func54 (by kernel_rfl) rfl #[.slice A0 l0.length c0] rfl (by (try simp only [List.map_toArray, List.map_cons, List.map_nil]); first | done | rfl | (simp only [List.length_drop, List.length_take]; rfl)) ?_; (with_reducible refine (weftref3_Area.calls k _ _ l0 false _ ?side1 ?side2 A2.out).mono ?_); (case side1 => repeat (first | exact HR0.out | (with_reducible refine Kd.C_alloc ?_ _) | (with_reducible refine Kd.C_drewN ?_ _) | (with_reducible refine Kd.C_drew ?_))); (case side2 => exact HC0.out); rintro e w' ⟨rfl, ⟨nd, rfl⟩⟩; refine ⟨_, rfl, ?_⟩))
    go_ret2
    exact ⟨_, by first | rfl | (simp [errW_none, errW_some] <;> rfl) | (simp [*, errW_none, errW_some] <;> rfl), by first | exact Kd.R_nil _ _ _ _ _ | exact Kd.N_nil _ _ _ _ _ | exact Kd.V_nil _ _ _ _ _ | exact Kd.Q_nil _ _ _ _ _ | exact Kd.S_nil _ _ _ _ _, by repeat (first | (with_reducible first | exact HB.out | apply below_alloc | apply pw_below_drewN | apply below_drew1) | exact HB.out)⟩

end Go.Proofs.Ytmjhfkjnnpnoaaa.XA
