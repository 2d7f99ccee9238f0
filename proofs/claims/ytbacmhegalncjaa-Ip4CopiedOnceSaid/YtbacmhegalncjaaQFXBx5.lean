-- printed by a program of this session (wip/xprint), out of the translation; Lean checks it
import Derived.Test.YtbacmhegalncjaaQFXBx0
import Derived.Test.YtbacmhegalncjaaQFXBx4
namespace Go.Proofs.Ytbacmhegalncjaa.XB
open Go.RowKit Go.Proofs.YtbacmhegalncjaaW.PrintWords Go.Proofs.YtbacmhegalncjaaW.PrintLast Go.Proofs.YtbacmhegalncjaaW.PrintMore Go.Proofs.YtbacmhegalncjaaX
theorem zq5_0 {P : Prop} (h : P := by first | (with_reducible assumption) | assumption) : P := h
attribute [local go_sem] max2_int min2_int max_two min_two max_three min_three max_four min_four   -- for this text's walks alone
set_option linter.unusedVariables false
set_option linter.unusedSimpArgs false

/-! ### ip4_Copied: function 20 -/
mutual
def ip4_Copied.l0 : Nat → List Int → List Int → Int → Option (List Int × Int)
  | 0, _, _, _ => none
  | k + 1, x0, x4, x5 => if x5 < (x0.length : Int) then (if 0 ≤ x5 then (ip4_Copied.j1 k x0 x4 x5 ((rd x0 x5) != 0)) else (none)) else (ip4_Copied.j1 k x0 x4 x5 false)
def ip4_Copied.j1 : Nat → List Int → List Int → Int → Bool → Option (List Int × Int)
  | 0, _, _, _, _ => none
  | k + 1, x0, x4, x5, x20 => if x20 = true then (if 0 ≤ x5 then (if x5 < (x0.length : Int) then (if (rd x0 x5) = 1 then (if (Go.bits .and .u8 (rd x0 x5) 128) = 0 then (ip4_Copied.l0 k x0 x4 (wrap64 (x5 + 1))) else (if x5 ≤ (wrap64 (x5 + 1)) then (if (wrap64 (x5 + 1)) ≤ (x0.length : Int) then (if x4.length + ((x0.take ((wrap64 (x5 + 1)) : Int).toNat).drop (x5 : Int).toNat).length < 140737488355328 then (ip4_Copied.l0 k x0 (x4 ++ ((x0.take ((wrap64 (x5 + 1)) : Int).toNat).drop (x5 : Int).toNat)) (wrap64 (x5 + 1))) else (none)) else (none)) else (none))) else (if 0 ≤ (wrap64 (x5 + 1)) then (if (wrap64 (x5 + 1)) < (x0.length : Int) then (if (Go.bits .and .u8 (rd x0 x5) 128) = 0 then (ip4_Copied.l0 k x0 x4 (wrap64 (x5 + (wrap64 (rd x0 (wrap64 (x5 + 1))))))) else (if x5 ≤ (wrap64 (x5 + (wrap64 (rd x0 (wrap64 (x5 + 1)))))) then (if (wrap64 (x5 + (wrap64 (rd x0 (wrap64 (x5 + 1)))))) ≤ (x0.length : Int) then (if x4.length + ((x0.take ((wrap64 (x5 + (wrap64 (rd x0 (wrap64 (x5 + 1)))))) : Int).toNat).drop (x5 : Int).toNat).length < 140737488355328 then (ip4_Copied.l0 k x0 (x4 ++ ((x0.take ((wrap64 (x5 + (wrap64 (rd x0 (wrap64 (x5 + 1)))))) : Int).toNat).drop (x5 : Int).toNat)) (wrap64 (x5 + (wrap64 (rd x0 (wrap64 (x5 + 1))))))) else (none)) else (none)) else (none))) else (none)) else (none))) else (none)) else (none)) else (ip4_Copied.l1 k x4)
def ip4_Copied.l1 : Nat → List Int → Option (List Int × Int)
  | 0, _ => none
  | k + 1, x4 => if ((x4.length : Int) % 4) = 0 then (some (x4, 0)) else (if x4.length < 140737488355328 then (ip4_Copied.l1 k (x4 ++ [0])) else (none))
end
def ip4_Copied.f (k : Nat) (l0 : List Int) : Option (List Int × Int) := (ip4_optionsOK.f k l0).bind fun t208 => (if t208 = true then (ip4_Copied.l0 k l0 ([] : List Int) 0) else (some (([] : List Int), 34)))
set_option maxHeartbeats 8000000 in
set_option maxRecDepth 100000 in
theorem ip4_Copied.calls (k : Nat) (A0 : Option Addr) (c0 : Nat) (l0 : List Int) (r1 : List Int) (r2 : Int) (w : World) (hr0 : Kd.C (Kd.int .u8) w A0 l0.length l0) (hc0 : l0.length ≤ c0) (h : ip4_Copied.f k l0 = some (r1, r2)) :
    Calls Try.prog 20 #[.slice A0 l0.length c0] w fun e w' => ∃ v0_ : Value, e = .returned (.tuple #[v0_, .int .i64 r2]) ∧ Kd.R (Kd.int .u8) 5 w' w.heap.size (fun _ => True) v0_ r1 ∧ Below w.heap.size w w' := by
  have HR0 := Aside0.mk hr0
  have HC0 := Aside0.mk hc0
  clear hr0 hc0
  have HB := Aside0.mk (Below.refl w.heap.size w)
  have H : ((ip4_optionsOK.f k l0).bind fun t208 => (if t208 = true then (ip4_Copied.l0 k l0 ([] : List Int) 0) else (some (([] : List Int), 34)))) = some (r1, r2) := h
  clear h
  replace H := Option.bind_eq_some_iff.mp H
  obtain ⟨t208, A20, H⟩ := H
  replace H : (if t208 = true then (ip4_Copied.l0 k l0 ([] : List Int) 0) else (some (([] : List Int), 34))) = some (r1, r2) := H
  have A2 := Aside0.mk A20
  clear A20
  by_cases c3 : t208 = true
  · subst c3
    have H1 : (ip4_Copied.l0 k l0 ([] : List Int) 0) = some (r1, r2) := by rw [if_pos rfl] at H; exact H
    clear H
    have H := H1
    clear H1
    have H' := Aside0.mk H
    clear H
    go_enter Try.func20, Try.ntmps20
    go_wp2_with (first | ((with_reducible refine gate_callee (f := 46) rfl ?_); refine goesL_ (some 8) rfl rfl Try.func46 (by kernel_rfl) rfl #[.slice A0 l0.length c0] rfl (by (try simp only [List.map_toArray, List.map_cons, List.map_nil]); first | done | rfl | (simp only [List.length_drop, List.length_take]; rfl)) ?_; (with_reducible refine (ip4_optionsOK.calls k _ _ l0 true _ ?side1 ?side2 A2.out).mono ?_); (case side1 => repeat (first | exact HR0.out | (with_reducible refine Kd.C_alloc ?_ _) | (with_reducible refine Kd.C_drewN ?_ _) | (with_reducible refine Kd.C_drew ?_))); (case side2 => exact HC0.out); rintro e w' ⟨rfl, ⟨nd, rfl⟩⟩; refine ⟨_, rfl, ?_⟩))
    go_loopg [4, 5] k (fun kq v4 v5 w' => ∃ (x4_1 : List Int) (x5_1 : Int), v5 = .int .i64 x5_1 ∧ Aside0 (ip4_Copied.l0 kq l0 x4_1 x5_1 = some (r1, r2)) ∧ Aside0 (kq ≤ k) ∧ Aside0 (Kd.R (Kd.int .u8) 5 w' w.heap.size (fun _ => True) v4 x4_1) ∧ Aside0 (Below w.heap.size w w'))
    case atStart => exact ⟨(([] : List Int)), (0), (by first | rfl | (simp; done) | (simp [*]; done)), H', ⟨Nat.le_refl _⟩, ⟨by first | exact Kd.R_nil _ _ _ _ _ | exact Kd.N_nil _ _ _ _ _ | exact Kd.V_nil _ _ _ _ _ | exact Kd.Q_nil _ _ _ _ _ | exact Kd.S_nil _ _ _ _ _⟩, ⟨by repeat (first | (with_reducible first | exact HB.out | apply below_alloc | apply pw_below_drewN | apply below_drew1) | exact HB.out)⟩⟩
    case round =>
      clear H'
      try clear c2
      try clear p2
      try clear c3
      obtain ⟨x4_1, x5_1, rfl, HA, HK1, HO_4, HB⟩ := hrel
      cases gk with
      | zero => exact absurd HA.out (by simp [ip4_Copied.l0])
      | succ k1 =>
        have H := HA.out
        clear HA
        simp only [ip4_Copied.l0] at H
        have HC4 := Aside0.mk H
        clear H
        go_upto_region 5 with (fail)
        go_cut [20] (fun v20 wc => ∃ (kq : Nat) (x20_3 : Bool), v20 = .bool x20_3 ∧ Aside0 (ip4_Copied.j1 kq l0 x4_1 x5_1 x20_3 = some (r1, r2)) ∧ Aside0 (kq ≤ k1) ∧ Aside0 (Kd.R (Kd.int .u8) 5 wc w.heap.size (fun _ => True) u4 x4_1) ∧ Aside0 (Below w.heap.size w wc))
        case first =>
          have H := HC4.out
          clear HC4
          by_cases c5 : x5_1 < (l0.length : Int)
          · rw [if_pos c5] at H
            have c5b0 : decide (x5_1 < (l0.length : Int)) = true := decide_eq_true c5
            clear c5
            (first | rw [c5b0] | (simp only [i64_w, i32_w]; rw [c5b0]) | skip)
            by_cases c6 : 0 ≤ x5_1
            · rw [if_pos c6] at H
              have c6b0 : decide (0 ≤ x5_1) = true := decide_eq_true c6
              clear c6
              have H' := Aside0.mk H
              clear H
              have p209 : 0 ≤ (x5_1 : Int) := of_decide_eq_true zq5_0
              have q209 : x5_1 < (l0.length : Int) := of_decide_eq_true zq5_0
              obtain ⟨ad209, e209, hx209_0⟩ := Kd.at_int HR0.out x5_1 p209 q209
              cases e209
              replace hx209_0 := (HB.out.cell (World.block_lt_of_cell? w _ hx209_0)).trans hx209_0
              replace p209 := eq_true p209
              replace q209 := eq_true q209
              go_wp2
              go_meet
              case rel => exact ⟨_, (((rd l0 x5_1) != 0)), (by first | rfl | (simp; done) | (simp [*]; done)), H', ⟨by have := HK1.out; first | omega | exact Nat.le_refl _⟩, ⟨by (with_reducible repeat (first | apply Kd.R_alloc | apply Kd.R_drewN | apply Kd.R_drew)); exact HO_4.out⟩, ⟨by repeat (first | (with_reducible first | exact HB.out | apply below_alloc | apply pw_below_drewN | apply below_drew1) | exact HB.out)⟩⟩
            · rw [if_neg c6] at H
              exact absurd H (by simp)
          · rw [if_neg c5] at H
            have c5b0 : decide (x5_1 < (l0.length : Int)) = false := decide_eq_false c5
            clear c5
            (first | rw [c5b0] | (simp only [i64_w, i32_w]; rw [c5b0]) | skip)
            have H' := Aside0.mk H
            clear H
            go_wp2
            go_meet
            case rel => exact ⟨_, (false), (by first | rfl | (simp; done) | (simp [*]; done)), H', ⟨by have := HK1.out; first | omega | exact Nat.le_refl _⟩, ⟨by (with_reducible repeat (first | apply Kd.R_alloc | apply Kd.R_drewN | apply Kd.R_drew)); exact HO_4.out⟩, ⟨by repeat (first | (with_reducible first | exact HB.out | apply below_alloc | apply pw_below_drewN | apply below_drew1) | exact HB.out)⟩⟩
        case rest =>
          clear HC4
          try clear c2
          try clear p2
          try clear q2
          try clear hx2
          try clear c3
          try clear c4
          try clear p4
          try clear c5
          try clear c5b0
          try clear c6
          try clear c6b0
          try clear hx209_0
          try clear p2
          try clear p209
          try clear q209
          obtain ⟨kq, x20_3, rfl, HA, HJ3, HO_4, HB⟩ := hcut
          cases kq with
          | zero => exact absurd HA.out (by simp [ip4_Copied.j1])
          | succ kj3 =>
            have H := HA.out
            clear HA
            simp only [ip4_Copied.j1] at H
            by_cases c7 : x20_3 = true
            · subst c7
              have H1 : (if 0 ≤ x5_1 then (if x5_1 < (l0.length : Int) then (if (rd l0 x5_1) = 1 then (if (Go.bits .and .u8 (rd l0 x5_1) 128) = 0 then (ip4_Copied.l0 kj3 l0 x4_1 (wrap64 (x5_1 + 1))) else (if x5_1 ≤ (wrap64 (x5_1 + 1)) then (if (wrap64 (x5_1 + 1)) ≤ (l0.length : Int) then (if x4_1.length + ((l0.take ((wrap64 (x5_1 + 1)) : Int).toNat).drop (x5_1 : Int).toNat).length < 140737488355328 then (ip4_Copied.l0 kj3 l0 (x4_1 ++ ((l0.take ((wrap64 (x5_1 + 1)) : Int).toNat).drop (x5_1 : Int).toNat)) (wrap64 (x5_1 + 1))) else (none)) else (none)) else (none))) else (if 0 ≤ (wrap64 (x5_1 + 1)) then (if (wrap64 (x5_1 + 1)) < (l0.length : Int) then (if (Go.bits .and .u8 (rd l0 x5_1) 128) = 0 then (ip4_Copied.l0 kj3 l0 x4_1 (wrap64 (x5_1 + (wrap64 (rd l0 (wrap64 (x5_1 + 1))))))) else (if x5_1 ≤ (wrap64 (x5_1 + (wrap64 (rd l0 (wrap64 (x5_1 + 1)))))) then (if (wrap64 (x5_1 + (wrap64 (rd l0 (wrap64 (x5_1 + 1)))))) ≤ (l0.length : Int) then (if x4_1.length + ((l0.take ((wrap64 (x5_1 + (wrap64 (rd l0 (wrap64 (x5_1 + 1)))))) : Int).toNat).drop (x5_1 : Int).toNat).length < 140737488355328 then (ip4_Copied.l0 kj3 l0 (x4_1 ++ ((l0.take ((wrap64 (x5_1 + (wrap64 (rd l0 (wrap64 (x5_1 + 1)))))) : Int).toNat).drop (x5_1 : Int).toNat)) (wrap64 (x5_1 + (wrap64 (rd l0 (wrap64 (x5_1 + 1))))))) else (none)) else (none)) else (none))) else (none)) else (none))) else (none)) else (none)) = some (r1, r2) := by rw [if_pos rfl] at H; exact H
              clear H
              have H := H1
              clear H1
              by_cases c8 : 0 ≤ x5_1
              · rw [if_pos c8] at H
                have c8b0 : decide (0 ≤ x5_1) = true := decide_eq_true c8
                clear c8
                by_cases c9 : x5_1 < (l0.length : Int)
                · rw [if_pos c9] at H
                  have c9b0 : decide (x5_1 < (l0.length : Int)) = true := decide_eq_true c9
                  clear c9
                  by_cases c10 : (rd l0 x5_1) = 1
                  · rw [if_pos c10] at H
                    have c10b0 : ((rd l0 x5_1) == 1) = true := beq_iff_eq.mpr c10
                    have c10b1 : ((rd l0 x5_1) != 1) = false := bne_eq_false_iff_eq.mpr c10
                    clear c10
                    by_cases c11 : (Go.bits .and .u8 (rd l0 x5_1) 128) = 0
                    · rw [if_pos c11] at H
                      have c11b0 : ((Go.bits .and .u8 (rd l0 x5_1) 128) == 0) = true := beq_iff_eq.mpr c11
                      have c11b1 : ((Go.bits .and .u8 (rd l0 x5_1) 128) != 0) = false := bne_eq_false_iff_eq.mpr c11
                      clear c11
                      have H' := Aside0.mk H
                      clear H
                      have p210 : 0 ≤ (x5_1 : Int) := of_decide_eq_true zq5_0
                      have q210 : x5_1 < (l0.length : Int) := of_decide_eq_true zq5_0
                      obtain ⟨ad210, e210, hx210_0⟩ := Kd.at_int HR0.out x5_1 p210 q210
                      cases e210
                      replace hx210_0 := (HB.out.cell (World.block_lt_of_cell? w _ hx210_0)).trans hx210_0
                      replace p210 := eq_true p210
                      replace q210 := eq_true q210
                      have p211 : 0 ≤ (x5_1 : Int) := of_decide_eq_true zq5_0
                      have q211 : x5_1 < (l0.length : Int) := of_decide_eq_true zq5_0
                      obtain ⟨ad211, e211, hx211_0⟩ := Kd.at_int HR0.out x5_1 p211 q211
                      obtain rfl : ad210 = ad211 := (by injection e211)
                      replace hx211_0 := (HB.out.cell (World.block_lt_of_cell? w _ hx211_0)).trans hx211_0
                      replace p211 := eq_true p211
                      replace q211 := eq_true q211
                      go_wp2
                      go_roundg kj3
                      case measure => have := HK1.out; have := HJ3.out; omega
                      case rel => exact ⟨(x4_1), (wrap64 (x5_1 + 1)), (by first | rfl | (simp; done) | (simp [*]; done)), H', ⟨by have := HK1.out; have := HJ3.out; omega⟩, ⟨by (with_reducible repeat (first | apply Kd.R_alloc | apply Kd.R_drewN | apply Kd.R_drew)); exact HO_4.out⟩, ⟨by repeat (first | (with_reducible first | exact HB.out | apply below_alloc | apply pw_below_drewN | apply below_drew1) | exact HB.out)⟩⟩
                    · rw [if_neg c11] at H
                      have c11b0 : ((Go.bits .and .u8 (rd l0 x5_1) 128) == 0) = false := beq_eq_false_iff_ne.mpr c11
                      have c11b1 : ((Go.bits .and .u8 (rd l0 x5_1) 128) != 0) = true := bne_iff_ne.mpr c11
                      have c12b0 := eq_true (of_decide_eq_true zq5_0 : 0 ≤ x5_1)
                      by_cases c13 : x5_1 ≤ (wrap64 (x5_1 + 1))
                      · rw [if_pos c13] at H
                        have c13b0 := eq_true c13
                        have c13b1 : decide (x5_1 ≤ (wrap64 (x5_1 + 1))) = true := decide_eq_true c13
                        by_cases c14 : (wrap64 (x5_1 + 1)) ≤ (l0.length : Int)
                        · rw [if_pos c14] at H
                          have c14b0 := eq_true c14
                          have c14b1 : decide ((wrap64 (x5_1 + 1)) ≤ (l0.length : Int)) = true := decide_eq_true c14
                          by_cases c15 : x4_1.length + ((l0.take ((wrap64 (x5_1 + 1)) : Int).toNat).drop (x5_1 : Int).toNat).length < 140737488355328
                          · rw [if_pos c15] at H
                            have LMc15 := Aside0.mk c15
                            clear c15
                            obtain ⟨y213, hy213⟩ : ∃ y_ : List Int, y_ = (x4_1 ++ ((l0.take ((wrap64 (x5_1 + 1)) : Int).toNat).drop (x5_1 : Int).toNat)) := ⟨_, rfl⟩
                            replace H : (ip4_Copied.l0 kj3 l0 y213 (wrap64 (x5_1 + 1))) = some (r1, r2) := by first | (rw [hy213]; with_reducible exact H) | (have H2_ := (Option.bind_some _ _).symm.trans H; rw [hy213]; with_reducible exact H2_) | (have H2_ := (Option.bind_some _ _).symm.trans H; with_reducible exact H2_) | with_reducible exact H | (rw [hy213]; exact H) | exact H
                            have Ny213 := Aside0.mk hy213
                            clear hy213
                            have H' := Aside0.mk H
                            clear H
                            have p210 : 0 ≤ (x5_1 : Int) := of_decide_eq_true zq5_0
                            have q210 : x5_1 < (l0.length : Int) := of_decide_eq_true zq5_0
                            obtain ⟨ad210, e210, hx210_0⟩ := Kd.at_int HR0.out x5_1 p210 q210
                            cases e210
                            replace hx210_0 := (HB.out.cell (World.block_lt_of_cell? w _ hx210_0)).trans hx210_0
                            replace p210 := eq_true p210
                            replace q210 := eq_true q210
                            have p211 : 0 ≤ (x5_1 : Int) := of_decide_eq_true zq5_0
                            have q211 : x5_1 < (l0.length : Int) := of_decide_eq_true zq5_0
                            obtain ⟨ad211, e211, hx211_0⟩ := Kd.at_int HR0.out x5_1 p211 q211
                            obtain rfl : ad210 = ad211 := (by injection e211)
                            replace hx211_0 := (HB.out.cell (World.block_lt_of_cell? w _ hx211_0)).trans hx211_0
                            replace p211 := eq_true p211
                            replace q211 := eq_true q211
                            obtain ⟨i016, hi016, _, hsz16, _⟩ := info_parts info5
                            obtain ⟨A16, hcut16, hA16, hC16⟩ := print_mid_of (P := Try.prog) (Value.int .u8) 0 24 5 .i64 .i64 Try.underlying24 hi016 hsz16 (some ad210) c0 l0 x5_1 (wrap64 (x5_1 + 1)) (of_decide_eq_true zq5_0) (by first | omega | exact of_decide_eq_true zq5_0) (of_decide_eq_true zq5_0) HC0.out
                            have HR212 := Aside0.mk (Kd.C_of_reads (h1 := fun _ => rfl) (hA16 _ (Kd.reads_of_C HR0.out)))
                            have HC212 := Aside0.mk hC16
                            clear hA16 hC16 hi016 hsz16
                            go_wp2_with (first | ((with_reducible refine gate_builtin (b := .append) (xs := #[.tmp 38, .tmp 44]) rfl ?_); at_builtin; refine Kd.R_append_rows (Kd.int .u8) (w0 := w) w.heap.size rfl (.tmp 38) (.tmp 44) 24 5 (.int .u8 0) 1 rfl Try.underlying24 info5 rfl (by decide) (by omega) u4 x4_1 ((l0.take ((wrap64 (x5_1 + 1)) : Int).toNat).drop (x5_1 : Int).toNat) _ _ _ (fun _ => True) (fun _ => False) rfl rfl ?aO ?aR (fun _ _ h => h) (fun _ h => h.elim) ?aF ?aB ?aS ?aL ?_; (case aR => first | (rw [← show ((l0.take ((wrap64 (x5_1 + 1)) : Int).toNat).drop (x5_1 : Int).toNat).length = ((wrap64 (x5_1 + 1)).toNat - x5_1.toNat) from (by rw [List.length_drop, List.length_take]; have h_ : ((wrap64 (x5_1 + 1)) : Int) ≤ (l0.length : Int) := of_decide_eq_true zq5_0; omega)]; repeat (first | exact (Kd.C_below HR212.out HB.out) | (with_reducible refine Kd.C_alloc ?_ _) | (with_reducible refine Kd.C_drewN ?_ _) | (with_reducible refine Kd.C_drew ?_))) | (repeat (first | exact (Kd.C_below HR212.out HB.out) | (with_reducible refine Kd.C_alloc ?_ _) | (with_reducible refine Kd.C_drewN ?_ _) | (with_reducible refine Kd.C_drew ?_)))); (case aB => exact (by repeat (first | (with_reducible first | exact HB.out | apply below_alloc | apply pw_below_drewN | apply below_drew1) | exact HB.out))); (case aF => exact (fun _ _ => trivial)); (case aO => exact (by (with_reducible repeat (first | apply Kd.R_alloc | apply Kd.R_drewN | apply Kd.R_drew)); exact HO_4.out)); (case aS => exact (below_size (by repeat (first | (with_reducible first | exact HB.out | apply below_alloc | apply pw_below_drewN | apply below_drew1) | exact HB.out)))); (case aL => have := LMc15.out; have hlx_ := (show ((l0.take ((wrap64 (x5_1 + 1)) : Int).toNat).drop (x5_1 : Int).toNat).length = ((wrap64 (x5_1 + 1)).toNat - x5_1.toNat) from (by rw [List.length_drop, List.length_take]; have h_ : ((wrap64 (x5_1 + 1)) : Int) ≤ (l0.length : Int) := of_decide_eq_true zq5_0; omega)); omega); intro v214 w17 ho hb hg hat; rw [← Ny213.out] at ho; have n0_ := Aside0.mk (hb); have n1_ := Aside0.mk (ho); clear HB; clear HO_4; have HB := n0_; have HO215 := n1_; clear n0_ n1_; clear ho hb hg hat))
                            go_roundg kj3
                            case measure => have := HK1.out; have := HJ3.out; omega
                            case rel => exact ⟨(y213), (wrap64 (x5_1 + 1)), (by first | rfl | (simp; done) | (simp [*]; done)), H', ⟨by have := HK1.out; have := HJ3.out; omega⟩, ⟨by (with_reducible repeat (first | apply Kd.R_alloc | apply Kd.R_drewN | apply Kd.R_drew)); exact HO215.out⟩, ⟨by repeat (first | (with_reducible first | exact HB.out | apply below_alloc | apply pw_below_drewN | apply below_drew1) | exact HB.out)⟩⟩
                          · rw [if_neg c15] at H
                            exact absurd H (by simp)
                        · rw [if_neg c14] at H
                          exact absurd H (by simp)
                      · rw [if_neg c13] at H
                        exact absurd H (by simp)
                  · rw [if_neg c10] at H
                    have c10b0 : ((rd l0 x5_1) == 1) = false := beq_eq_false_iff_ne.mpr c10
                    have c10b1 : ((rd l0 x5_1) != 1) = true := bne_iff_ne.mpr c10
                    obtain ⟨ji18, hji18⟩ : ∃ j_ : Int, (wrap64 (x5_1 + 1)) = j_ := ⟨_, rfl⟩
                    replace H : (if 0 ≤ (ji18) then (if (ji18) < (l0.length : Int) then (if (Go.bits .and .u8 (rd l0 x5_1) 128) = 0 then (ip4_Copied.l0 kj3 l0 x4_1 (wrap64 (x5_1 + (wrap64 (rd l0 (ji18)))))) else (if x5_1 ≤ (wrap64 (x5_1 + (wrap64 (rd l0 (ji18))))) then (if (wrap64 (x5_1 + (wrap64 (rd l0 (ji18))))) ≤ (l0.length : Int) then (if x4_1.length + ((l0.take ((wrap64 (x5_1 + (wrap64 (rd l0 (ji18))))) : Int).toNat).drop (x5_1 : Int).toNat).length < 140737488355328 then (ip4_Copied.l0 kj3 l0 (x4_1 ++ ((l0.take ((wrap64 (x5_1 + (wrap64 (rd l0 (ji18))))) : Int).toNat).drop (x5_1 : Int).toNat)) (wrap64 (x5_1 + (wrap64 (rd l0 (ji18)))))) else (none)) else (none)) else (none))) else (none)) else (none)) = some (r1, r2) := by first | (rw [hji18] at H; exact H) | (simp only [hji18] at H ⊢; exact H)
                    have hji18w : (IntKind.i64.wrap (x5_1 + 1)) = ji18 := (i64_w _).trans hji18
                    by_cases c19 : 0 ≤ (ji18)
                    · rw [if_pos c19] at H
                      have c19b0 : decide (0 ≤ (ji18)) = true := decide_eq_true c19
                      clear c19
                      by_cases c20 : (ji18) < (l0.length : Int)
                      · rw [if_pos c20] at H
                        have c20b0 : decide ((ji18) < (l0.length : Int)) = true := decide_eq_true c20
                        clear c20
                        by_cases c21 : (Go.bits .and .u8 (rd l0 x5_1) 128) = 0
                        · rw [if_pos c21] at H
                          have c21b0 : ((Go.bits .and .u8 (rd l0 x5_1) 128) == 0) = true := beq_iff_eq.mpr c21
                          have c21b1 : ((Go.bits .and .u8 (rd l0 x5_1) 128) != 0) = false := bne_eq_false_iff_eq.mpr c21
                          clear c21
                          have H' := Aside0.mk H
                          clear H
                          have p210 : 0 ≤ (x5_1 : Int) := of_decide_eq_true zq5_0
                          have q210 : x5_1 < (l0.length : Int) := of_decide_eq_true zq5_0
                          obtain ⟨ad210, e210, hx210_0⟩ := Kd.at_int HR0.out x5_1 p210 q210
                          cases e210
                          replace hx210_0 := (HB.out.cell (World.block_lt_of_cell? w _ hx210_0)).trans hx210_0
                          replace p210 := eq_true p210
                          replace q210 := eq_true q210
                          have p216 : 0 ≤ ((ji18) : Int) := of_decide_eq_true zq5_0
                          have q216 : (ji18) < (l0.length : Int) := of_decide_eq_true zq5_0
                          obtain ⟨ad216, e216, hx216_0⟩ := Kd.at_int HR0.out (ji18) p216 q216
                          obtain rfl : ad210 = ad216 := (by injection e216)
                          replace hx216_0 := (HB.out.cell (World.block_lt_of_cell? w _ hx216_0)).trans hx216_0
                          replace p216 := eq_true p216
                          replace q216 := eq_true q216
                          have p217 : 0 ≤ (x5_1 : Int) := of_decide_eq_true zq5_0
                          have q217 : x5_1 < (l0.length : Int) := of_decide_eq_true zq5_0
                          obtain ⟨ad217, e217, hx217_0⟩ := Kd.at_int HR0.out x5_1 p217 q217
                          obtain rfl : ad210 = ad217 := (by injection e217)
                          replace hx217_0 := (HB.out.cell (World.block_lt_of_cell? w _ hx217_0)).trans hx217_0
                          replace p217 := eq_true p217
                          replace q217 := eq_true q217
                          go_wp2
                          go_roundg kj3
                          case measure => have := HK1.out; have := HJ3.out; omega
                          case rel => exact ⟨(x4_1), (wrap64 (x5_1 + (wrap64 (rd l0 (ji18))))), (by first | rfl | (simp; done) | (simp only [← hji18] <;> (first | rfl | simp)) | (simp [*]; done)), H', ⟨by have := HK1.out; have := HJ3.out; omega⟩, ⟨by (with_reducible repeat (first | apply Kd.R_alloc | apply Kd.R_drewN | apply Kd.R_drew)); exact HO_4.out⟩, ⟨by repeat (first | (with_reducible first | exact HB.out | apply below_alloc | apply pw_below_drewN | apply below_drew1) | exact HB.out)⟩⟩
                        · rw [if_neg c21] at H
                          have c21b0 : ((Go.bits .and .u8 (rd l0 x5_1) 128) == 0) = false := beq_eq_false_iff_ne.mpr c21
                          have c21b1 : ((Go.bits .and .u8 (rd l0 x5_1) 128) != 0) = true := bne_iff_ne.mpr c21
                          have c22b0 := eq_true (of_decide_eq_true zq5_0 : 0 ≤ x5_1)
                          by_cases c23 : x5_1 ≤ (wrap64 (x5_1 + (wrap64 (rd l0 (ji18)))))
                          · rw [if_pos c23] at H
                            have c23b0 := eq_true c23
                            have c23b1 : decide (x5_1 ≤ (wrap64 (x5_1 + (wrap64 (rd l0 (ji18)))))) = true := decide_eq_true c23
                            by_cases c24 : (wrap64 (x5_1 + (wrap64 (rd l0 (ji18))))) ≤ (l0.length : Int)
                            · rw [if_pos c24] at H
                              have c24b0 := eq_true c24
                              have c24b1 : decide ((wrap64 (x5_1 + (wrap64 (rd l0 (ji18))))) ≤ (l0.length : Int)) = true := decide_eq_true c24
                              by_cases c25 : x4_1.length + ((l0.take ((wrap64 (x5_1 + (wrap64 (rd l0 (ji18))))) : Int).toNat).drop (x5_1 : Int).toNat).length < 140737488355328
                              · rw [if_pos c25] at H
                                have LMc25 := Aside0.mk c25
                                clear c25
                                obtain ⟨y219, hy219⟩ : ∃ y_ : List Int, y_ = (x4_1 ++ ((l0.take ((wrap64 (x5_1 + (wrap64 (rd l0 (ji18))))) : Int).toNat).drop (x5_1 : Int).toNat)) := ⟨_, rfl⟩
                                replace H : (ip4_Copied.l0 kj3 l0 y219 (wrap64 (x5_1 + (wrap64 (rd l0 (ji18)))))) = some (r1, r2) := by first | (rw [hy219]; with_reducible exact H) | (have H2_ := (Option.bind_some _ _).symm.trans H; rw [hy219]; with_reducible exact H2_) | (have H2_ := (Option.bind_some _ _).symm.trans H; with_reducible exact H2_) | with_reducible exact H | (rw [hy219]; exact H) | exact H
                                have Ny219 := Aside0.mk hy219
                                clear hy219
                                have H' := Aside0.mk H
                                clear H
                                have p210 : 0 ≤ (x5_1 : Int) := of_decide_eq_true zq5_0
                                have q210 : x5_1 < (l0.length : Int) := of_decide_eq_true zq5_0
                                obtain ⟨ad210, e210, hx210_0⟩ := Kd.at_int HR0.out x5_1 p210 q210
                                cases e210
                                replace hx210_0 := (HB.out.cell (World.block_lt_of_cell? w _ hx210_0)).trans hx210_0
                                replace p210 := eq_true p210
                                replace q210 := eq_true q210
                                have p216 : 0 ≤ ((ji18) : Int) := of_decide_eq_true zq5_0
                                have q216 : (ji18) < (l0.length : Int) := of_decide_eq_true zq5_0
                                obtain ⟨ad216, e216, hx216_0⟩ := Kd.at_int HR0.out (ji18) p216 q216
                                obtain rfl : ad210 = ad216 := (by injection e216)
                                replace hx216_0 := (HB.out.cell (World.block_lt_of_cell? w _ hx216_0)).trans hx216_0
                                replace p216 := eq_true p216
                                replace q216 := eq_true q216
                                have p217 : 0 ≤ (x5_1 : Int) := of_decide_eq_true zq5_0
                                have q217 : x5_1 < (l0.length : Int) := of_decide_eq_true zq5_0
                                obtain ⟨ad217, e217, hx217_0⟩ := Kd.at_int HR0.out x5_1 p217 q217
                                obtain rfl : ad210 = ad217 := (by injection e217)
                                replace hx217_0 := (HB.out.cell (World.block_lt_of_cell? w _ hx217_0)).trans hx217_0
                                replace p217 := eq_true p217
                                replace q217 := eq_true q217
                                obtain ⟨i026, hi026, _, hsz26, _⟩ := info_parts info5
                                obtain ⟨A26, hcut26, hA26, hC26⟩ := print_mid_of (P := Try.prog) (Value.int .u8) 0 24 5 .i64 .i64 Try.underlying24 hi026 hsz26 (some ad210) c0 l0 x5_1 (wrap64 (x5_1 + (wrap64 (rd l0 (ji18))))) (of_decide_eq_true zq5_0) (by first | omega | exact of_decide_eq_true zq5_0) (of_decide_eq_true zq5_0) HC0.out
                                have HR218 := Aside0.mk (Kd.C_of_reads (h1 := fun _ => rfl) (hA26 _ (Kd.reads_of_C HR0.out)))
                                have HC218 := Aside0.mk hC26
                                clear hA26 hC26 hi026 hsz26
                                go_wp2_with (first | ((with_reducible refine gate_builtin (b := .append) (xs := #[.tmp 38, .tmp 44]) rfl ?_); at_builtin; refine Kd.R_append_rows (Kd.int .u8) (w0 := w) w.heap.size rfl (.tmp 38) (.tmp 44) 24 5 (.int .u8 0) 1 rfl Try.underlying24 info5 rfl (by decide) (by omega) u4 x4_1 ((l0.take ((wrap64 (x5_1 + (wrap64 (rd l0 (ji18))))) : Int).toNat).drop (x5_1 : Int).toNat) _ _ _ (fun _ => True) (fun _ => False) rfl rfl ?aO ?aR (fun _ _ h => h) (fun _ h => h.elim) ?aF ?aB ?aS ?aL ?_; (case aR => first | (rw [← show ((l0.take ((wrap64 (x5_1 + (wrap64 (rd l0 (ji18))))) : Int).toNat).drop (x5_1 : Int).toNat).length = ((wrap64 (x5_1 + (wrap64 (rd l0 (ji18))))).toNat - x5_1.toNat) from (by rw [List.length_drop, List.length_take]; have h_ : ((wrap64 (x5_1 + (wrap64 (rd l0 (ji18))))) : Int) ≤ (l0.length : Int) := of_decide_eq_true zq5_0; omega)]; repeat (first | exact (Kd.C_below HR218.out HB.out) | (with_reducible refine Kd.C_alloc ?_ _) | (with_reducible refine Kd.C_drewN ?_ _) | (with_reducible refine Kd.C_drew ?_))) | (repeat (first | exact (Kd.C_below HR218.out HB.out) | (with_reducible refine Kd.C_alloc ?_ _) | (with_reducible refine Kd.C_drewN ?_ _) | (with_reducible refine Kd.C_drew ?_)))); (case aB => exact (by repeat (first | (with_reducible first | exact HB.out | apply below_alloc | apply pw_below_drewN | apply below_drew1) | exact HB.out))); (case aF => exact (fun _ _ => trivial)); (case aO => exact (by (with_reducible repeat (first | apply Kd.R_alloc | apply Kd.R_drewN | apply Kd.R_drew)); exact HO_4.out)); (case aS => exact (below_size (by repeat (first | (with_reducible first | exact HB.out | apply below_alloc | apply pw_below_drewN | apply below_drew1) | exact HB.out)))); (case aL => have := LMc25.out; have hlx_ := (show ((l0.take ((wrap64 (x5_1 + (wrap64 (rd l0 (ji18))))) : Int).toNat).drop (x5_1 : Int).toNat).length = ((wrap64 (x5_1 + (wrap64 (rd l0 (ji18))))).toNat - x5_1.toNat) from (by rw [List.length_drop, List.length_take]; have h_ : ((wrap64 (x5_1 + (wrap64 (rd l0 (ji18))))) : Int) ≤ (l0.length : Int) := of_decide_eq_true zq5_0; omega)); omega); intro v220 w27 ho hb hg hat; rw [← Ny219.out] at ho; have n0_ := Aside0.mk (hb); have n1_ := Aside0.mk (ho); clear HB; clear HO_4; have HB := n0_; have HO221 := n1_; clear n0_ n1_; clear ho hb hg hat))
                                go_roundg kj3
                                case measure => have := HK1.out; have := HJ3.out; omega
                                case rel => exact ⟨(y219), (wrap64 (x5_1 + (wrap64 (rd l0 (ji18))))), (by first | rfl | (simp; done) | (simp only [← hji18] <;> (first | rfl | simp)) | (simp [*]; done)), H', ⟨by have := HK1.out; have := HJ3.out; omega⟩, ⟨by (with_reducible repeat (first | apply Kd.R_alloc | apply Kd.R_drewN | apply Kd.R_drew)); exact HO221.out⟩, ⟨by repeat (first | (with_reducible first | exact HB.out | apply below_alloc | apply pw_below_drewN | apply below_drew1) | exact HB.out)⟩⟩
                              · rw [if_neg c25] at H
                                exact absurd H (by simp)
                            · rw [if_neg c24] at H
                              exact absurd H (by simp)
                          · rw [if_neg c23] at H
                            exact absurd H (by simp)
                      · rw [if_neg c20] at H
                        exact absurd H (by simp)
                    · rw [if_neg c19] at H
                      exact absurd H (by simp)
                · rw [if_neg c9] at H
                  exact absurd H (by simp)
              · rw [if_neg c8] at H
                exact absurd H (by simp)
            · replace c7 := Bool.eq_false_iff.mpr c7
              subst c7
              have H1 : (ip4_Copied.l1 kj3 x4_1) = some (r1, r2) := by rw [if_neg (show ¬ (false = true) by decide)] at H; exact H
              clear H
              have H := H1
              clear H1
              have H' := Aside0.mk H
              clear H
              go_wp2
              go_loopg [4] kj3 (fun kq v4 w' => ∃ (x4_3 : List Int), Aside0 (ip4_Copied.l1 kq x4_3 = some (r1, r2)) ∧ Aside0 (kq ≤ kj3) ∧ Aside0 (Kd.R (Kd.int .u8) 5 w' w.heap.size (fun _ => True) v4 x4_3) ∧ Aside0 (Below w.heap.size w w'))
              case atStart => exact ⟨(x4_1), H', ⟨Nat.le_refl _⟩, ⟨by (with_reducible repeat (first | apply Kd.R_alloc | apply Kd.R_drewN | apply Kd.R_drew)); exact HO_4.out⟩, ⟨by repeat (first | (with_reducible first | exact HB.out | apply below_alloc | apply pw_below_drewN | apply below_drew1) | exact HB.out)⟩⟩
              case round =>
                clear H'
                try clear c1
                try clear c2
                try clear p2
                try clear q2
                try clear hx2
                try clear c3
                try clear c4
                try clear p4
                try clear c5
                try clear c5b0
                try clear c6
                try clear c6b0
                try clear p6
                try clear c7
                try clear c8
                try clear c8b0
                try clear c9
                try clear c9b0
                try clear c10
                try clear c10b0
                try clear c10b1
                try clear c11
                try clear c11b0
                try clear c11b1
                try clear c12
                try clear c12b0
                try clear c13
                try clear c13b0
                try clear c13b1
                try clear c14
                try clear c14b0
                try clear c14b1
                try clear c15
                try clear c19
                try clear c19b0
                try clear c20
                try clear c20b0
                try clear p20
                try clear q20
                try clear hx20
                try clear c21
                try clear c21b0
                try clear c21b1
                try clear p21
                try clear q21
                try clear hx21
                try clear c22
                try clear c22b0
                try clear c23
                try clear c23b0
                try clear c23b1
                try clear c24
                try clear c24b0
                try clear c24b1
                try clear c25
                try clear hx209_0
                try clear hx210_0
                try clear hx211_0
                try clear hx216_0
                try clear hx217_0
                try clear p2
                try clear p209
                try clear p210
                try clear p211
                try clear p216
                try clear p217
                try clear p4
                try clear q2
                try clear q209
                try clear q210
                try clear q211
                try clear q216
                try clear q217
                obtain ⟨x4_3, HA, HK3, HO_4, HB⟩ := hrel
                cases gk with
                | zero => exact absurd HA.out (by simp [ip4_Copied.l1])
                | succ k3 =>
                  have H := HA.out
                  clear HA
                  simp only [ip4_Copied.l1] at H
                  by_cases c28 : ((x4_3.length : Int) % 4) = 0
                  · rw [if_pos c28] at H
                    have c28b0 : (((x4_3.length : Int) % 4) == 0) = true := beq_iff_eq.mpr c28
                    have c28b1 : (((x4_3.length : Int) % 4) != 0) = false := bne_eq_false_iff_eq.mpr c28
                    clear c28
                    simp only [Option.some.injEq, Prod.mk.injEq] at H
                    obtain ⟨rfl, rfl⟩ := H
                    obtain ⟨Ao29, co29, eo29⟩ := Kd.R_slice HO_4.out
                    subst eo29
                    go_wp2
                    go_ret2
                    exact ⟨_, by first | rfl | (simp [errW_none, errW_some] <;> rfl) | (simp [*, errW_none, errW_some] <;> rfl), by (with_reducible repeat (first | apply Kd.R_alloc | apply Kd.R_drewN | apply Kd.R_drew)); exact HO_4.out, by repeat (first | (with_reducible first | exact HB.out | apply below_alloc | apply pw_below_drewN | apply below_drew1) | exact HB.out)⟩
                  · rw [if_neg c28] at H
                    have c28b0 : (((x4_3.length : Int) % 4) == 0) = false := beq_eq_false_iff_ne.mpr c28
                    have c28b1 : (((x4_3.length : Int) % 4) != 0) = true := bne_iff_ne.mpr c28
                    by_cases c30 : x4_3.length < 140737488355328
                    · rw [if_pos c30] at H
                      have LMc30 := Aside0.mk c30
                      clear c30
                      obtain ⟨y222, hy222⟩ : ∃ y_ : List Int, y_ = (x4_3 ++ [0]) := ⟨_, rfl⟩
                      replace H : (ip4_Copied.l1 k3 y222) = some (r1, r2) := by first | (rw [hy222]; with_reducible exact H) | (have H2_ := (Option.bind_some _ _).symm.trans H; rw [hy222]; with_reducible exact H2_) | (have H2_ := (Option.bind_some _ _).symm.trans H; with_reducible exact H2_) | with_reducible exact H | (rw [hy222]; exact H) | exact H
                      have Ny222 := Aside0.mk hy222
                      clear hy222
                      have H' := Aside0.mk H
                      clear H
                      obtain ⟨Ao31, co31, eo31⟩ := Kd.R_slice HO_4.out
                      subst eo31
                      go_wp2_with (first | ((with_reducible refine gate_builtin (b := .append) (xs := #[.tmp 53, .tmp 54]) rfl ?_); at_builtin; refine Kd.R_append (Kd.int .u8) (w0 := w) w.heap.size rfl (.tmp 53) (.tmp 54) 24 5 (.int .u8 0) 1 rfl Try.underlying24 info5 rfl (by decide) (by omega) (.slice Ao31 x4_3.length co31) x4_3 0 [.int .u8 0] (fun _ => True) (fun _ => False) rfl rfl ?aP (fun _ hk => hk.elim) ?aF ?aO ?aB ?aS ?aL ?_; (case aP => exact rfl); (case aB => exact (by repeat (first | (with_reducible first | exact HB.out | apply below_alloc | apply pw_below_drewN | apply below_drew1) | exact HB.out))); (case aF => exact (fun _ _ => trivial)); (case aO => exact (by (with_reducible repeat (first | apply Kd.R_alloc | apply Kd.R_drewN | apply Kd.R_drew)); exact HO_4.out)); (case aS => exact (below_size (by repeat (first | (with_reducible first | exact HB.out | apply below_alloc | apply pw_below_drewN | apply below_drew1) | exact HB.out)))); (case aL => have := LMc30.out; omega); intro v223 w32 ho hb hg hat; rw [← Ny222.out] at ho; have n0_ := Aside0.mk (hb); have n1_ := Aside0.mk (ho); clear HB; clear HO_4; have HB := n0_; have HO224 := n1_; clear n0_ n1_; clear ho hb hg hat))
                      go_roundg k3
                      case measure => have := HK1.out; have := HJ3.out; have := HK3.out; omega
                      case rel => exact ⟨(y222), H', ⟨by have := HK1.out; have := HJ3.out; have := HK3.out; omega⟩, ⟨by (with_reducible repeat (first | apply Kd.R_alloc | apply Kd.R_drewN | apply Kd.R_drew)); exact HO224.out⟩, ⟨by repeat (first | (with_reducible first | exact HB.out | apply below_alloc | apply pw_below_drewN | apply below_drew1) | exact HB.out)⟩⟩
                    · rw [if_neg c30] at H
                      exact absurd H (by simp)
  · replace c3 := Bool.eq_false_iff.mpr c3
    subst c3
    have H1 : (some (([] : List Int), 34)) = some (r1, r2) := by rw [if_neg (show ¬ (false = true) by decide)] at H; exact H
    clear H
    have H := H1
    clear H1
    simp only [Option.some.injEq, Prod.mk.injEq] at H
    obtain ⟨rfl, rfl⟩ := H
    go_enter Try.func20, Try.ntmps20
    go_wp2_with (first | ((with_reducible refine gate_callee (f := 46) rfl ?_); refine goesL_ (some 8) rfl rfl Try.func46 (by kernel_rfl) rfl #[.slice A0 l0.length c0] rfl (by (try simp only [List.map_toArray, List.map_cons, List.map_nil]); first | done | rfl | (simp only [List.length_drop, List.length_take]; rfl)) ?_; (with_reducible refine (ip4_optionsOK.calls k _ _ l0 false _ ?side1 ?side2 A2.out).mono ?_); (case side1 => repeat (first | exact HR0.out | (with_reducible refine Kd.C_alloc ?_ _) | (with_reducible refine Kd.C_drewN ?_ _) | (with_reducible refine Kd.C_drew ?_))); (case side2 => exact HC0.out); rintro e w' ⟨rfl, ⟨nd, rfl⟩⟩; refine ⟨_, rfl, ?_⟩))
    go_ret2
    exact ⟨_, by first | rfl | (simp [errW_none, errW_some] <;> rfl) | (simp [*, errW_none, errW_some] <;> rfl), by first | exact Kd.R_nil _ _ _ _ _ | exact Kd.N_nil _ _ _ _ _ | exact Kd.V_nil _ _ _ _ _ | exact Kd.Q_nil _ _ _ _ _ | exact Kd.S_nil _ _ _ _ _, by repeat (first | (with_reducible first | exact HB.out | apply below_alloc | apply pw_below_drewN | apply below_drew1) | exact HB.out)⟩

/-! ### weftlaw3_same: function 21 -/
def weftlaw3_same.l0 : Nat → List Int → List Int → Int → Option (Bool)
  | 0, _, _, _ => none
  | k + 1, x0, x1, x5 => if x5 < (x0.length : Int) then (if 0 ≤ x5 then (if x5 < (x1.length : Int) then (if (rd x0 x5) = (rd x1 x5) then (weftlaw3_same.l0 k x0 x1 (wrap64 (x5 + 1))) else (some false)) else (none)) else (none)) else (some true)
def weftlaw3_same.f (k : Nat) (l0 : List Int) (l1 : List Int) : Option (Bool) := if (l0.length : Int) = (l1.length : Int) then (weftlaw3_same.l0 k l0 l1 0) else (some false)
set_option maxHeartbeats 8000000 in
set_option maxRecDepth 100000 in
theorem weftlaw3_same.calls (k : Nat) (A0 : Option Addr) (c0 : Nat) (l0 : List Int) (A1 : Option Addr) (c1 : Nat) (l1 : List Int) (r : Bool) (w : World) (hr0 : Kd.C (Kd.int .u8) w A0 l0.length l0) (hc0 : l0.length ≤ c0) (hr1 : Kd.C (Kd.int .u8) w A1 l1.length l1) (hc1 : l1.length ≤ c1) (h : weftlaw3_same.f k l0 l1 = some r) :
    Calls Try.prog 21 #[.slice A0 l0.length c0, .slice A1 l1.length c1] w fun e w' => e = .returned (.bool r) ∧ Drawn0 w w' := by
  have HR0 := Aside0.mk hr0
  have HC0 := Aside0.mk hc0
  clear hr0 hc0
  have HR1 := Aside0.mk hr1
  have HC1 := Aside0.mk hc1
  clear hr1 hc1
  have H : (if (l0.length : Int) = (l1.length : Int) then (weftlaw3_same.l0 k l0 l1 0) else (some false)) = some r := h
  clear h
  by_cases c3 : (l0.length : Int) = (l1.length : Int)
  · rw [if_pos c3] at H
    have c3b0 : ((l0.length : Int) == (l1.length : Int)) = true := beq_iff_eq.mpr c3
    have c3b1 : ((l0.length : Int) != (l1.length : Int)) = false := bne_eq_false_iff_eq.mpr c3
    have c3b2 : (l0.length == l1.length) = true := by first | simpa using c3 | (simp at c3 ⊢; omega)
    clear c3
    have H' := Aside0.mk H
    clear H
    go_enter Try.func21, Try.ntmps21
    go_wp2
    repeat (go_quiet (fail); try go_wp2)
    go_loopg [5] k (fun kq v5 w' => ∃ (x5_1 : Int), v5 = .int .i64 x5_1 ∧ Aside0 (weftlaw3_same.l0 kq l0 l1 x5_1 = some r) ∧ Aside0 (kq ≤ k) ∧ Drawn0 w w')
    case atStart => exact ⟨(0), (by first | rfl | (simp; done) | (simp [*]; done)), H', ⟨Nat.le_refl _⟩, by repeat (first | exact Drawn0.refl _ | apply Drawn0.step)⟩
    case round =>
      clear H'
      try clear c1
      try clear c2
      try clear p2
      try clear c3
      try clear c3b0
      try clear c3b1
      try clear c3b2
      obtain ⟨x5_1, rfl, HA, HK1, ⟨m1, rfl⟩⟩ := hrel
      cases gk with
      | zero => exact absurd HA.out (by simp [weftlaw3_same.l0])
      | succ k1 =>
        have H := HA.out
        clear HA
        simp only [weftlaw3_same.l0] at H
        by_cases c4 : x5_1 < (l0.length : Int)
        · rw [if_pos c4] at H
          have c4b0 : decide (x5_1 < (l0.length : Int)) = true := decide_eq_true c4
          clear c4
          by_cases c5 : 0 ≤ x5_1
          · rw [if_pos c5] at H
            have c5b0 : decide (0 ≤ x5_1) = true := decide_eq_true c5
            clear c5
            by_cases c6 : x5_1 < (l1.length : Int)
            · rw [if_pos c6] at H
              have c6b0 : decide (x5_1 < (l1.length : Int)) = true := decide_eq_true c6
              clear c6
              by_cases c7 : (rd l0 x5_1) = (rd l1 x5_1)
              · rw [if_pos c7] at H
                have c7b0 : ((rd l0 x5_1) == (rd l1 x5_1)) = true := beq_iff_eq.mpr c7
                have c7b1 : ((rd l0 x5_1) != (rd l1 x5_1)) = false := bne_eq_false_iff_eq.mpr c7
                clear c7
                have H' := Aside0.mk H
                clear H
                have p225 : 0 ≤ (x5_1 : Int) := of_decide_eq_true zq5_0
                have q225 : x5_1 < (l0.length : Int) := of_decide_eq_true zq5_0
                obtain ⟨ad225, e225, hx225_0⟩ := Kd.at_int HR0.out x5_1 p225 q225
                cases e225
                replace p225 := eq_true p225
                replace q225 := eq_true q225
                have p226 : 0 ≤ (x5_1 : Int) := of_decide_eq_true zq5_0
                have q226 : x5_1 < (l1.length : Int) := of_decide_eq_true zq5_0
                obtain ⟨ad226, e226, hx226_0⟩ := Kd.at_int HR1.out x5_1 p226 q226
                cases e226
                replace p226 := eq_true p226
                replace q226 := eq_true q226
                go_wp2
                repeat (go_quiet (fail); try go_wp2)
                go_roundg k1
                case measure => have := HK1.out; omega
                case rel => exact ⟨(wrap64 (x5_1 + 1)), (by first | rfl | (simp; done) | (simp [*]; done)), H', ⟨by have := HK1.out; omega⟩, by repeat (first | exact Drawn0.refl _ | apply Drawn0.step)⟩
              · rw [if_neg c7] at H
                have c7b0 : ((rd l0 x5_1) == (rd l1 x5_1)) = false := beq_eq_false_iff_ne.mpr c7
                have c7b1 : ((rd l0 x5_1) != (rd l1 x5_1)) = true := bne_iff_ne.mpr c7
                obtain rfl := Option.some.inj H
                have p225 : 0 ≤ (x5_1 : Int) := of_decide_eq_true zq5_0
                have q225 : x5_1 < (l0.length : Int) := of_decide_eq_true zq5_0
                obtain ⟨ad225, e225, hx225_0⟩ := Kd.at_int HR0.out x5_1 p225 q225
                cases e225
                replace p225 := eq_true p225
                replace q225 := eq_true q225
                have p226 : 0 ≤ (x5_1 : Int) := of_decide_eq_true zq5_0
                have q226 : x5_1 < (l1.length : Int) := of_decide_eq_true zq5_0
                obtain ⟨ad226, e226, hx226_0⟩ := Kd.at_int HR1.out x5_1 p226 q226
                cases e226
                replace p226 := eq_true p226
                replace q226 := eq_true q226
                go_wp2
                repeat (go_quiet (fail); try go_wp2)
                go_ret
                exact ⟨by first | rfl | (simp; done) | (simp [*]; done), by repeat (first | exact Drawn0.refl _ | apply Drawn0.step)⟩
            · rw [if_neg c6] at H
              exact absurd H (by simp)
          · rw [if_neg c5] at H
            exact absurd H (by simp)
        · rw [if_neg c4] at H
          have c4b0 : decide (x5_1 < (l0.length : Int)) = false := decide_eq_false c4
          clear c4
          obtain rfl := Option.some.inj H
          go_wp2
          repeat (go_quiet (fail); try go_wp2)
          go_ret
          exact ⟨by first | rfl | (simp; done) | (simp [*]; done), by repeat (first | exact Drawn0.refl _ | apply Drawn0.step)⟩
  · rw [if_neg c3] at H
    have c3b0 : ((l0.length : Int) == (l1.length : Int)) = false := beq_eq_false_iff_ne.mpr c3
    have c3b1 : ((l0.length : Int) != (l1.length : Int)) = true := bne_iff_ne.mpr c3
    have c3b2 : (l0.length == l1.length) = false := by first | simpa using c3 | (simp at c3 ⊢; omega)
    obtain rfl := Option.some.inj H
    go_enter Try.func21, Try.ntmps21
    go_wp2
    repeat (go_quiet (fail); try go_wp2)
    go_ret
    exact ⟨by first | rfl | (simp; done) | (simp [*]; done), by repeat (first | exact Drawn0.refl _ | apply Drawn0.step)⟩

/-! ### ip4_orderly: function 47 -/
def ip4_orderly.f (a0 : Int) (a1 : Int) (a2 : Bool) : Option (Bool) := if a0 < 0 then (some false) else (if a0 > 65528 then (some false) else (if (Int.tmod a0 8) = 0 then (if (wrap64 (a0 + a1)) > 65535 then (some false) else (if a2 = true then (if a1 > 0 then (some ((Int.tmod a1 8) == 0)) else (some false)) else (some true))) else (some false)))
set_option maxHeartbeats 8000000 in
set_option maxRecDepth 100000 in
theorem ip4_orderly.calls (a0 : Int) (a1 : Int) (a2 : Bool) (r : Bool) (w : World) (h : ip4_orderly.f a0 a1 a2 = some r) :
    Calls Try.prog 47 #[.int .i64 a0, .int .i64 a1, .bool a2] w fun e w' => e = .returned (.bool r) ∧ Drawn0 w w' := by
  have H : (if a0 < 0 then (some false) else (if a0 > 65528 then (some false) else (if (Int.tmod a0 8) = 0 then (if (wrap64 (a0 + a1)) > 65535 then (some false) else (if a2 = true then (if a1 > 0 then (some ((Int.tmod a1 8) == 0)) else (some false)) else (some true))) else (some false)))) = some r := h
  clear h
  by_cases c4 : a0 < 0
  · rw [if_pos c4] at H
    have c4b0 : decide (a0 < 0) = true := decide_eq_true c4
    clear c4
    obtain rfl := Option.some.inj H
    go_enter Try.func47, Try.ntmps47
    go_wp2
    go_ret
    exact ⟨by first | rfl | (simp; done) | (simp [*]; done), by repeat (first | exact Drawn0.refl _ | apply Drawn0.step)⟩
  · rw [if_neg c4] at H
    have c4b0 : decide (a0 < 0) = false := decide_eq_false c4
    clear c4
    by_cases c5 : a0 > 65528
    · rw [if_pos c5] at H
      have c5b0 : decide (65528 < a0) = true := decide_eq_true c5
      clear c5
      obtain rfl := Option.some.inj H
      go_enter Try.func47, Try.ntmps47
      go_wp2
      go_ret
      exact ⟨by first | rfl | (simp; done) | (simp [*]; done), by repeat (first | exact Drawn0.refl _ | apply Drawn0.step)⟩
    · rw [if_neg c5] at H
      have c5b0 : decide (65528 < a0) = false := decide_eq_false c5
      clear c5
      by_cases c6 : (Int.tmod a0 8) = 0
      · rw [if_pos c6] at H
        have c6b0 : ((Int.tmod a0 8) == 0) = true := beq_iff_eq.mpr c6
        have c6b1 : ((Int.tmod a0 8) != 0) = false := bne_eq_false_iff_eq.mpr c6
        clear c6
        by_cases c7 : (wrap64 (a0 + a1)) > 65535
        · rw [if_pos c7] at H
          have c7b0 : decide (65535 < (wrap64 (a0 + a1))) = true := decide_eq_true c7
          clear c7
          obtain rfl := Option.some.inj H
          go_enter Try.func47, Try.ntmps47
          go_wp2
          go_ret
          exact ⟨by first | rfl | (simp; done) | (simp [*]; done), by repeat (first | exact Drawn0.refl _ | apply Drawn0.step)⟩
        · rw [if_neg c7] at H
          have c7b0 : decide (65535 < (wrap64 (a0 + a1))) = false := decide_eq_false c7
          clear c7
          by_cases c8 : a2 = true
          · subst c8
            have H1 : (if a1 > 0 then (some ((Int.tmod a1 8) == 0)) else (some false)) = some r := by rw [if_pos rfl] at H; exact H
            clear H
            have H := H1
            clear H1
            by_cases c9 : a1 > 0
            · rw [if_pos c9] at H
              have c9b0 : decide (0 < a1) = true := decide_eq_true c9
              clear c9
              obtain rfl := Option.some.inj H
              go_enter Try.func47, Try.ntmps47
              go_wp2
              go_ret
              exact ⟨by first | rfl | (simp; done) | (simp [*]; done), by repeat (first | exact Drawn0.refl _ | apply Drawn0.step)⟩
            · rw [if_neg c9] at H
              have c9b0 : decide (0 < a1) = false := decide_eq_false c9
              clear c9
              obtain rfl := Option.some.inj H
              go_enter Try.func47, Try.ntmps47
              go_wp2
              go_ret
              exact ⟨by first | rfl | (simp; done) | (simp [*]; done), by repeat (first | exact Drawn0.refl _ | apply Drawn0.step)⟩
          · replace c8 := Bool.eq_false_iff.mpr c8
            subst c8
            have H1 : (some true) = some r := by rw [if_neg (show ¬ (false = true) by decide)] at H; exact H
            clear H
            have H := H1
            clear H1
            obtain rfl := Option.some.inj H
            go_enter Try.func47, Try.ntmps47
            go_wp2
            go_ret
            exact ⟨by first | rfl | (simp; done) | (simp [*]; done), by repeat (first | exact Drawn0.refl _ | apply Drawn0.step)⟩
      · rw [if_neg c6] at H
        have c6b0 : ((Int.tmod a0 8) == 0) = false := beq_eq_false_iff_ne.mpr c6
        have c6b1 : ((Int.tmod a0 8) != 0) = true := bne_iff_ne.mpr c6
        obtain rfl := Option.some.inj H
        go_enter Try.func47, Try.ntmps47
        go_wp2
        go_ret
        exact ⟨by first | rfl | (simp; done) | (simp [*]; done), by repeat (first | exact Drawn0.refl _ | apply Drawn0.step)⟩

/-! ### ip4_putWord: function 48 -/
def ip4_putWord.f (l0 : List Int) (a1 : Int) (a2 : Int) : Option (List Int) := if 0 ≤ a1 then (if a1 < (l0.length : Int) then (if 0 ≤ (wrap64 (a1 + 1)) then (if (wrap64 (a1 + 1)) < (l0.length : Int) then (some ((l0.set (a1 : Int).toNat ((a2 / 256) % 256)).set ((wrap64 (a1 + 1)) : Int).toNat ((a2) % 256))) else (none)) else (none)) else (none)) else (none)
set_option maxHeartbeats 8000000 in
set_option maxRecDepth 100000 in
theorem ip4_putWord.calls (P0_ : Nat → Prop) (u9000_ : Value) (l0 : List Int) (a1 : Int) (a2 : Int) (r : List Int) (w0 w : World) (hB : Below w0.heap.size w0 w) (ho0 : Kd.R (Kd.int .u8) 5 w w0.heap.size P0_ u9000_ l0) (h : ip4_putWord.f l0 a1 a2 = some r) :
    Calls Try.prog 48 #[u9000_, .int .i64 a1, .int .u16 a2] w fun e w' => e = .returned (.tuple #[]) ∧ Kd.R (Kd.int .u8) 5 w' w0.heap.size (fun k_ => (P0_ k_ ∨ w.heap.size ≤ k_)) u9000_ r ∧ Below w0.heap.size w0 w' ∧ Kept w w' (fun k_ => P0_ k_) := by
  have HO0 := Aside0.mk (show Kd.R (Kd.int .u8) 5 w w0.heap.size (fun k_ => (P0_ k_ ∨ w.heap.size ≤ k_)) u9000_ l0 from Kd.R_mono ho0 (fun k_ hk => (.inl hk)))
  have HK := Aside0.mk (Kept.refl w (fun k_ => P0_ k_))
  have HW0 := Aside0.mk hB.size
  have HB := Aside0.mk hB
  clear hB
  have H : (if 0 ≤ a1 then (if a1 < (l0.length : Int) then (if 0 ≤ (wrap64 (a1 + 1)) then (if (wrap64 (a1 + 1)) < (l0.length : Int) then (some ((l0.set (a1 : Int).toNat ((a2 / 256) % 256)).set ((wrap64 (a1 + 1)) : Int).toNat ((a2) % 256))) else (none)) else (none)) else (none)) else (none)) = some r := h
  clear h
  by_cases c4 : 0 ≤ a1
  · rw [if_pos c4] at H
    have c4b0 : decide (0 ≤ a1) = true := decide_eq_true c4
    clear c4
    by_cases c5 : a1 < (l0.length : Int)
    · rw [if_pos c5] at H
      have c5b0 : decide (a1 < (l0.length : Int)) = true := decide_eq_true c5
      clear c5
      obtain ⟨y227, hy227⟩ : ∃ y_ : List Int, y_ = (l0.set (a1 : Int).toNat ((a2 / 256) % 256)) := ⟨_, rfl⟩
      replace H : (if 0 ≤ (wrap64 (a1 + 1)) then (if (wrap64 (a1 + 1)) < (l0.length : Int) then (some (y227.set ((wrap64 (a1 + 1)) : Int).toNat ((a2) % 256))) else (none)) else (none)) = some r := by first | (rw [hy227]; with_reducible exact H) | (have H2_ := (Option.bind_some _ _).symm.trans H; rw [hy227]; with_reducible exact H2_) | (have H2_ := (Option.bind_some _ _).symm.trans H; with_reducible exact H2_) | with_reducible exact H | (rw [hy227]; exact H) | exact H
      have Ny227 := Aside0.mk hy227
      clear hy227
      obtain ⟨ji7, hji7⟩ : ∃ j_ : Int, (wrap64 (a1 + 1)) = j_ := ⟨_, rfl⟩
      replace H : (if 0 ≤ (ji7) then (if (ji7) < (l0.length : Int) then (some (y227.set ((ji7) : Int).toNat ((a2) % 256))) else (none)) else (none)) = some r := by first | (rw [hji7] at H; exact H) | (simp only [hji7] at H ⊢; exact H)
      have hji7w : (IntKind.i64.wrap (a1 + 1)) = ji7 := (i64_w _).trans hji7
      by_cases c8 : 0 ≤ (ji7)
      · rw [if_pos c8] at H
        have c8b0 : decide (0 ≤ (ji7)) = true := decide_eq_true c8
        clear c8
        by_cases c9 : (ji7) < (l0.length : Int)
        · rw [if_pos c9] at H
          have c9b0 : decide ((ji7) < (l0.length : Int)) = true := decide_eq_true c9
          clear c9
          obtain ⟨y228, hy228⟩ : ∃ y_ : List Int, y_ = (y227.set ((ji7) : Int).toNat ((a2) % 256)) := ⟨_, rfl⟩
          replace H : (some y228) = some r := by first | (rw [hy228]; with_reducible exact H) | (have H2_ := (Option.bind_some _ _).symm.trans H; rw [hy228]; with_reducible exact H2_) | (have H2_ := (Option.bind_some _ _).symm.trans H; with_reducible exact H2_) | with_reducible exact H | (rw [hy228]; exact H) | exact H
          have Ny228 := Aside0.mk hy228
          clear hy228
          obtain rfl := Option.some.inj H
          have p6 : 0 ≤ (a1 : Int) := of_decide_eq_true zq5_0
          have q6 : (a1 : Int) < ((l0.length : Int) : Int) := of_decide_eq_true zq5_0
          obtain ⟨go6, co6, eo6, gb6, gl6, cl6, HG6⟩ := Kd.R_form HO0.out (by omega)
          (first | cases eo6 | (injection eo6 with ea_ en_ ec_; (first | subst ea_ | (injection ea_ with ea_; subst ea_)); subst ec_; clear en_))
          have GB6 := Aside0.mk gb6
          have GG6 := Aside0.mk HG6
          clear gb6 gl6 HG6
          have HMgo6 := Aside0.mk (show (P0_ go6 ∨ w.heap.size ≤ go6) from (HO0.out.1 _ rfl))
          obtain ⟨hx6_0, hf6_0⟩ := Kd.R_celln 0 HO0.out (a1 : Int) p6 q6
          replace p6 := eq_true p6
          replace q6 := eq_true q6
          have HP11 := Kd.R_putg HO0.out (a1 : Int) ((a2 / 256) % 256)
          go_enter Try.func48, Try.ntmps48
          go_wp2_with (first | ((with_reducible refine gate_store (t := 5) (p := 16) rfl ?_); refine store_event (t := 5) (p := 16) (v := ?vo_w12) (w1 := (w.setCell ⟨go6, (a1 : Int).toNat, none⟩ (.int .u8 ((a2 / 256) % 256)))) ?hg ?ho ?hn ?hr ?_; (case ho => rfl); (case hg => rfl); (case hn => rfl); (case hr => first | (go_simp; done) | (go_simp; rfl)); intro w12 hw; have hg : w.grownBy w12 (some go6) := (by rw [hw]; exact HP11.2); have hp_ : Kd.R (Kd.int .u8) 5 w12 w0.heap.size (fun k_ => (P0_ k_ ∨ w.heap.size ≤ k_)) (.slice (some ⟨go6, 0, none⟩) l0.length co6) y227 := (by rw [hw, Ny227.out]; exact HP11.1); clear HP11; have n0_ := Aside0.mk (hp_); have n1_ := Aside0.mk ((by rw [hw]; exact below_set (HB.out) GB6.out : Below w0.heap.size w0 w12)); have n2_ := Aside0.mk (Kept.of_grown (S := (fun k_ => P0_ k_)) hg (by repeat (first | (with_reducible first | exact HK.out | apply Kept.alloc | apply Kept.drewN | apply Kept.drew) | exact HK.out)) (fun k_ e_ => (HO0.out.1 k_ e_))); clear HO0; clear HB; clear HK; have HO0 := n0_; have HB := n1_; have HK := n2_; clear n0_ n1_ n2_; clear hg hw hp_; have p10 : 0 ≤ ((ji7) : Int) := of_decide_eq_true zq5_0; have q10 : ((ji7) : Int) < ((l0.length : Int) : Int) := of_decide_eq_true zq5_0; obtain ⟨hx10_0, hf10_0⟩ := Kd.R_celln 0 HO0.out ((ji7) : Int) p10 q10; replace p10 := eq_true p10; replace q10 := eq_true q10; obtain ⟨hy13_, hz13_⟩ := Kd.R_celln 0 HO0.out ((ji7) : Int) (of_decide_eq_true zq5_0) (of_decide_eq_true zq5_0); have HP13 := Kd.R_putg HO0.out ((ji7) : Int) ((a2) % 256)) | ((with_reducible refine gate_store (t := 5) (p := 17) rfl ?_); refine store_event (t := 5) (p := 17) (v := ?vo_w14) (w1 := (w12.setCell ⟨go6, ((ji7) : Int).toNat, none⟩ (.int .u8 ((a2) % 256)))) ?hg ?ho ?hn ?hr ?_; (case ho => rfl); (case hg => rfl); (case hn => rfl); (case hr => first | (go_simp; done) | (go_simp; rfl)); intro w14 hw; have hg : w12.grownBy w14 (some go6) := (by rw [hw]; exact HP13.2); have hp_ : Kd.R (Kd.int .u8) 5 w14 w0.heap.size (fun k_ => (P0_ k_ ∨ w.heap.size ≤ k_)) (.slice (some ⟨go6, 0, none⟩) l0.length co6) y228 := (by rw [hw, Ny228.out]; exact HP13.1); clear HP13; have n0_ := Aside0.mk (hp_); have n1_ := Aside0.mk ((by rw [hw]; exact below_set (HB.out) GB6.out : Below w0.heap.size w0 w14)); have n2_ := Aside0.mk (Kept.of_grown (S := (fun k_ => P0_ k_)) hg (by repeat (first | (with_reducible first | exact HK.out | apply Kept.alloc | apply Kept.drewN | apply Kept.drew) | exact HK.out)) (fun k_ e_ => (HO0.out.1 k_ e_))); clear HO0; clear HB; clear HK; have HO0 := n0_; have HB := n1_; have HK := n2_; clear n0_ n1_ n2_; clear hg hw hp_))
          first | go_end0 | ((try simp only [Exit.inBlock, Exit.then]); refine bodyPost_ret (results_none rfl _ _ _) rfl ?_)
          exact ⟨by first | rfl | (simp [errW_none, errW_some] <;> rfl) | (simp only [← hji7]; first | rfl | (simp [errW_none, errW_some] <;> rfl)) | (simp [*, errW_none, errW_some] <;> rfl), by (with_reducible repeat (first | apply Kd.R_alloc | apply Kd.R_drewN | apply Kd.R_drew)); exact HO0.out, by repeat (first | (with_reducible first | exact HB.out | apply below_alloc | apply pw_below_drewN | apply below_drew1) | exact HB.out), by repeat (first | (with_reducible first | exact HK.out | apply Kept.alloc | apply Kept.drewN | apply Kept.drew) | exact HK.out)⟩
        · rw [if_neg c9] at H
          exact absurd H (by simp)
      · rw [if_neg c8] at H
        exact absurd H (by simp)
    · rw [if_neg c5] at H
      exact absurd H (by simp)
  · rw [if_neg c4] at H
    exact absurd H (by simp)

/-! ### ip4_putLong: function 49 -/
def ip4_putLong.f (l0 : List Int) (a1 : Int) (a2 : Int) : Option (List Int) := (ip4_putWord.f l0 a1 (IntKind.u16.wrap (a2 / 65536))).bind fun t229 => ((ip4_putWord.f t229 (wrap64 (a1 + 2)) (IntKind.u16.wrap (a2))).bind fun t230 => (some t230))
set_option maxHeartbeats 8000000 in
set_option maxRecDepth 100000 in
theorem ip4_putLong.calls (P0_ : Nat → Prop) (u9000_ : Value) (l0 : List Int) (a1 : Int) (a2 : Int) (r : List Int) (w0 w : World) (hB : Below w0.heap.size w0 w) (ho0 : Kd.R (Kd.int .u8) 5 w w0.heap.size P0_ u9000_ l0) (h : ip4_putLong.f l0 a1 a2 = some r) :
    Calls Try.prog 49 #[u9000_, .int .i64 a1, .int .u32 a2] w fun e w' => e = .returned (.tuple #[]) ∧ Kd.R (Kd.int .u8) 5 w' w0.heap.size (fun k_ => (P0_ k_ ∨ w.heap.size ≤ k_)) u9000_ r ∧ Below w0.heap.size w0 w' ∧ Kept w w' (fun k_ => P0_ k_) := by
  have HO0 := Aside0.mk (show Kd.R (Kd.int .u8) 5 w w0.heap.size (fun k_ => (P0_ k_ ∨ w.heap.size ≤ k_)) u9000_ l0 from Kd.R_mono ho0 (fun k_ hk => (.inl hk)))
  have HK := Aside0.mk (Kept.refl w (fun k_ => P0_ k_))
  have HW0 := Aside0.mk hB.size
  have HB := Aside0.mk hB
  clear hB
  have H : ((ip4_putWord.f l0 a1 (IntKind.u16.wrap (a2 / 65536))).bind fun t229 => ((ip4_putWord.f t229 (wrap64 (a1 + 2)) (IntKind.u16.wrap (a2))).bind fun t230 => (some t230))) = some r := h
  clear h
  replace H := Option.bind_eq_some_iff.mp H
  obtain ⟨t229, A40, H⟩ := H
  replace H : ((ip4_putWord.f t229 (wrap64 (a1 + 2)) (IntKind.u16.wrap (a2))).bind fun t230 => (some t230)) = some r := H
  have A4 := Aside0.mk A40
  clear A40
  replace H := Option.bind_eq_some_iff.mp H
  obtain ⟨t230, A50, H⟩ := H
  replace H : (some t230) = some r := H
  have A5 := Aside0.mk A50
  clear A50
  obtain rfl := Option.some.inj H
  obtain ⟨Ao6, co6, eo6⟩ := Kd.R_slice HO0.out
  subst eo6
  go_enter Try.func49, Try.ntmps49
  go_wp2_with (first | ((with_reducible refine gate_callee (f := 48) rfl ?_); refine goesL_ (some 11) rfl rfl Try.func48 (by kernel_rfl) rfl #[.slice Ao6 l0.length co6, .int .i64 a1, .int .u16 (IntKind.u16.wrap (a2 / 65536))] rfl (by (try simp only [List.map_toArray, List.map_cons, List.map_nil]); first | done | rfl | (simp only [List.length_drop, List.length_take]; rfl)) ?_; (with_reducible refine (ip4_putWord.calls (fun k_ => some k_ = (.slice Ao6 l0.length co6 : Value).ownBlock) (.slice Ao6 l0.length co6) l0 a1 (IntKind.u16.wrap (a2 / 65536)) t229 w0 _ ?side1 ?side2 A4.out).mono ?_); (case side1 => repeat (first | (with_reducible first | exact HB.out | apply below_alloc | apply pw_below_drewN | apply below_drew1) | exact HB.out)); (case side2 => (with_reducible repeat (first | apply Kd.R_alloc | apply Kd.R_drewN | apply Kd.R_drew)); exact Kd.R_tight rfl HO0.out); rintro e w7 ⟨rfl, hy0, hb, hkp⟩; refine ⟨_, rfl, ?_⟩; have n0_ := Aside0.mk (Kd.R_reok rfl hy0 (fun k_ e_ => HO0.out.1 k_ e_)); have n1_ := Aside0.mk (Kept.then_ (S := (fun k_ => P0_ k_)) (by repeat (first | (with_reducible first | exact HK.out | apply Kept.alloc | apply Kept.drewN | apply Kept.drew) | exact HK.out)) hkp (fun k_ hs_ => (fun e_ => (HO0.out.1 k_ e_.symm)) hs_)); have n2_ := Aside0.mk (hb); clear HO0; clear HK; clear HB; have HO0 := n0_; have HK := n1_; have HB := n2_; clear n0_ n1_ n2_; (try clear hb); (try clear hkp); (try clear hy0)) | ((with_reducible refine gate_callee (f := 48) rfl ?_); refine goesL_ (some 17) rfl rfl Try.func48 (by kernel_rfl) rfl #[.slice Ao6 l0.length co6, .int .i64 (wrap64 (a1 + 2)), .int .u16 (IntKind.u16.wrap (a2))] rfl (by (try simp only [List.map_toArray, List.map_cons, List.map_nil]); first | done | rfl | (simp only [List.length_drop, List.length_take]; rfl)) ?_; (with_reducible refine (ip4_putWord.calls (fun k_ => some k_ = (.slice Ao6 l0.length co6 : Value).ownBlock) (.slice Ao6 l0.length co6) t229 (wrap64 (a1 + 2)) (IntKind.u16.wrap (a2)) t230 w0 _ ?side1 ?side2 A5.out).mono ?_); (case side1 => repeat (first | (with_reducible first | exact HB.out | apply below_alloc | apply pw_below_drewN | apply below_drew1) | exact HB.out)); (case side2 => (with_reducible repeat (first | apply Kd.R_alloc | apply Kd.R_drewN | apply Kd.R_drew)); exact Kd.R_tight rfl HO0.out); rintro e w8 ⟨rfl, hy0, hb, hkp⟩; refine ⟨_, rfl, ?_⟩; have n0_ := Aside0.mk (Kd.R_reok rfl hy0 (fun k_ e_ => HO0.out.1 k_ e_)); have n1_ := Aside0.mk (Kept.then_ (S := (fun k_ => P0_ k_)) (by repeat (first | (with_reducible first | exact HK.out | apply Kept.alloc | apply Kept.drewN | apply Kept.drew) | exact HK.out)) hkp (fun k_ hs_ => (fun e_ => (HO0.out.1 k_ e_.symm)) hs_)); have n2_ := Aside0.mk (hb); clear HO0; clear HK; clear HB; have HO0 := n0_; have HK := n1_; have HB := n2_; clear n0_ n1_ n2_; (try clear hb); (try clear hkp); (try clear hy0)))
  first | go_end0 | ((try simp only [Exit.inBlock, Exit.then]); refine bodyPost_ret (results_none rfl _ _ _) rfl ?_)
  exact ⟨by first | rfl | (simp [errW_none, errW_some] <;> rfl) | (simp [*, errW_none, errW_some] <;> rfl), by (with_reducible repeat (first | apply Kd.R_alloc | apply Kd.R_drewN | apply Kd.R_drew)); exact HO0.out, by repeat (first | (with_reducible first | exact HB.out | apply below_alloc | apply pw_below_drewN | apply below_drew1) | exact HB.out), by repeat (first | (with_reducible first | exact HK.out | apply Kept.alloc | apply Kept.drewN | apply Kept.drew) | exact HK.out)⟩

end Go.Proofs.Ytbacmhegalncjaa.XB
