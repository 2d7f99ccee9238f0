-- printed by a program of this session (wip/xprint), out of the translation; Lean checks it
import Derived.Test.YtbacmhegalncjaaXBx0
import Derived.Test.YtbacmhegalncjaaXBx1
namespace Go.Proofs.Ytbacmhegalncjaa.XB
open Go.RowKit Go.Proofs.YtbacmhegalncjaaW.PrintWords Go.Proofs.YtbacmhegalncjaaW.PrintLast Go.Proofs.YtbacmhegalncjaaW.PrintMore Go.Proofs.YtbacmhegalncjaaX
attribute [local go_sem] max2_int min2_int max_two min_two max_three min_three max_four min_four   -- for this text's walks alone
set_option linter.unusedVariables false
set_option linter.unusedSimpArgs false

/-! ### weftlaw3_Ip4SumJoins: function 3 -/
mutual
def weftlaw3_Ip4SumJoins.j0 : Nat → Int → List Int → Int → Bool → Option (Bool)
  | 0, _, _, _, _ => none
  | k + 1, x1, x5, x6, x29 => if x29 = true then (some false) else (if ((x5.length : Int) % 2) = 1 then (if x5.length < 140737488355328 then (weftlaw3_Ip4SumJoins.j1 k x1 (x5 ++ [0]) x6 ([] : List Int)) else (none)) else (weftlaw3_Ip4SumJoins.j1 k x1 x5 x6 ([] : List Int)))
def weftlaw3_Ip4SumJoins.j1 : Nat → Int → List Int → Int → List Int → Option (Bool)
  | 0, _, _, _, _ => none
  | k + 1, x1, x5, x6, x7 => weftlaw3_Ip4SumJoins.l0 k x1 x5 x6 x7 (wrap64 ((x5.length : Int) - 2))
def weftlaw3_Ip4SumJoins.l0 : Nat → Int → List Int → Int → List Int → Int → Option (Bool)
  | 0, _, _, _, _, _ => none
  | k + 1, x1, x5, x6, x7, x8 => if x8 ≥ 0 then (if 0 ≤ x8 then (if x8 < (x5.length : Int) then (if 0 ≤ (wrap64 (x8 + 1)) then (if (wrap64 (x8 + 1)) < (x5.length : Int) then ((some (([rd x5 x8, rd x5 (wrap64 (x8 + 1))] : List Int) : List Int)).bind fun y136 => (if x7.length + y136.length < 140737488355328 then (weftlaw3_Ip4SumJoins.l0 k x1 x5 x6 (x7 ++ y136) (wrap64 (x8 - 2))) else (none))) else (none)) else (none)) else (none)) else (none)) else ((ip4_Sum.f k (([x5] : List (List Int)))).bind fun t146 => (if t146 = x6 then ((ip4_Sum.f k (([x7] : List (List Int)))).bind fun t151 => (if t151 = x6 then ((ip4_Sum.f k (([x5, (([(x6 / 256) % 256, (x6) % 256] : List Int))] : List (List Int)))).bind fun t159 => (weftlaw3_Ip4SumJoins.j3 k x1 x5 x6 (t159 != 0))) else (weftlaw3_Ip4SumJoins.j3 k x1 x5 x6 true))) else (weftlaw3_Ip4SumJoins.j3 k x1 x5 x6 true)))
def weftlaw3_Ip4SumJoins.j3 : Nat → Int → List Int → Int → Bool → Option (Bool)
  | 0, _, _, _, _ => none
  | k + 1, x1, x5, x6, x79 => if x79 = true then (some false) else ((ip4_Sum.f k (([x5, (([(x1 / 256) % 256, (x1) % 256] : List Int))] : List (List Int)))).bind fun t167 => (if x1 = 0 then (some (t167 == x6)) else (if x1 = 65535 then (if t167 = x6 then (some true) else (if x6 = 65535 then (some (t167 == 0)) else (some false))) else (some (t167 != x6)))))
end
def weftlaw3_Ip4SumJoins.f (k : Nat) (l0 : List (List Int)) (a1 : Int) : Option (Bool) := (weftlaw3_join.f k l0).bind fun t110 => ((ip4_Sum.f k l0).bind fun t113 => ((ip4_Sum.f k (([t110] : List (List Int)))).bind fun t118 => (if t113 = t118 then ((ip4_Sum.f k ([] : List (List Int))).bind fun t119 => (if t119 = 65535 then ((ip4_Sum.f k (([(([1] : List Int)), (([2, 3] : List Int))] : List (List Int)))).bind fun t130 => (weftlaw3_Ip4SumJoins.j0 k a1 t110 t113 (t130 != 64509))) else (weftlaw3_Ip4SumJoins.j0 k a1 t110 t113 true))) else (weftlaw3_Ip4SumJoins.j0 k a1 t110 t113 true))))
theorem weftlaw3_Ip4SumJoins.mono_l : ∀ k, (∀ y0 y1 y2 y3, LeO (weftlaw3_Ip4SumJoins.j0 k y0 y1 y2 y3) (weftlaw3_Ip4SumJoins.j0 (k + 1) y0 y1 y2 y3)) ∧ (∀ y0 y1 y2 y3, LeO (weftlaw3_Ip4SumJoins.j1 k y0 y1 y2 y3) (weftlaw3_Ip4SumJoins.j1 (k + 1) y0 y1 y2 y3)) ∧ (∀ y0 y1 y2 y3 y4, LeO (weftlaw3_Ip4SumJoins.l0 k y0 y1 y2 y3 y4) (weftlaw3_Ip4SumJoins.l0 (k + 1) y0 y1 y2 y3 y4)) ∧ (∀ y0 y1 y2 y3, LeO (weftlaw3_Ip4SumJoins.j3 k y0 y1 y2 y3) (weftlaw3_Ip4SumJoins.j3 (k + 1) y0 y1 y2 y3))
  | 0 => ⟨fun _ _ _ _ r h => by simp [weftlaw3_Ip4SumJoins.j0] at h, fun _ _ _ _ r h => by simp [weftlaw3_Ip4SumJoins.j1] at h, fun _ _ _ _ _ r h => by simp [weftlaw3_Ip4SumJoins.l0] at h, fun _ _ _ _ r h => by simp [weftlaw3_Ip4SumJoins.j3] at h⟩
  | k + 1 => by
    obtain ⟨ih0, ih1, ih2, ih3⟩ := weftlaw3_Ip4SumJoins.mono_l k
    refine ⟨?_, ?_, ?_, ?_⟩
    · intro y0 y1 y2 y3
      unfold weftlaw3_Ip4SumJoins.j0
      repeat' first
      | (with_reducible exact ih0 _ _ _ _)
      | (with_reducible exact ih1 _ _ _ _)
      | (with_reducible exact ih2 _ _ _ _ _)
      | (with_reducible exact ih3 _ _ _ _)
      | (with_reducible exact ip4_Sum.mono _ _)
      | (with_reducible exact weftlaw3_join.mono _ _)
      | (with_reducible exact LeO.refl _)
      | (with_reducible exact LeO.none _)
      | (with_reducible refine LeO.ite ?_ ?_)
      | (with_reducible refine LeO.bind ?_ (fun _ => ?_))
      | exact ih0 _ _ _ _
      | exact ih1 _ _ _ _
      | exact ih2 _ _ _ _ _
      | exact ih3 _ _ _ _
      | exact ip4_Sum.mono _ _
      | exact weftlaw3_join.mono _ _
      | exact LeO.none _
      | refine LeO.ite ?_ ?_
      | refine LeO.bind ?_ (fun _ => ?_)
    · intro y0 y1 y2 y3
      unfold weftlaw3_Ip4SumJoins.j1
      repeat' first
      | (with_reducible exact ih0 _ _ _ _)
      | (with_reducible exact ih1 _ _ _ _)
      | (with_reducible exact ih2 _ _ _ _ _)
      | (with_reducible exact ih3 _ _ _ _)
      | (with_reducible exact ip4_Sum.mono _ _)
      | (with_reducible exact weftlaw3_join.mono _ _)
      | (with_reducible exact LeO.refl _)
      | (with_reducible exact LeO.none _)
      | (with_reducible refine LeO.ite ?_ ?_)
      | (with_reducible refine LeO.bind ?_ (fun _ => ?_))
      | exact ih0 _ _ _ _
      | exact ih1 _ _ _ _
      | exact ih2 _ _ _ _ _
      | exact ih3 _ _ _ _
      | exact ip4_Sum.mono _ _
      | exact weftlaw3_join.mono _ _
      | exact LeO.none _
      | refine LeO.ite ?_ ?_
      | refine LeO.bind ?_ (fun _ => ?_)
    · intro y0 y1 y2 y3 y4
      unfold weftlaw3_Ip4SumJoins.l0
      repeat' first
      | (with_reducible exact ih0 _ _ _ _)
      | (with_reducible exact ih1 _ _ _ _)
      | (with_reducible exact ih2 _ _ _ _ _)
      | (with_reducible exact ih3 _ _ _ _)
      | (with_reducible exact ip4_Sum.mono _ _)
      | (with_reducible exact weftlaw3_join.mono _ _)
      | (with_reducible exact LeO.refl _)
      | (with_reducible exact LeO.none _)
      | (with_reducible refine LeO.ite ?_ ?_)
      | (with_reducible refine LeO.bind ?_ (fun _ => ?_))
      | exact ih0 _ _ _ _
      | exact ih1 _ _ _ _
      | exact ih2 _ _ _ _ _
      | exact ih3 _ _ _ _
      | exact ip4_Sum.mono _ _
      | exact weftlaw3_join.mono _ _
      | exact LeO.none _
      | refine LeO.ite ?_ ?_
      | refine LeO.bind ?_ (fun _ => ?_)
    · intro y0 y1 y2 y3
      unfold weftlaw3_Ip4SumJoins.j3
      repeat' first
      | (with_reducible exact ih0 _ _ _ _)
      | (with_reducible exact ih1 _ _ _ _)
      | (with_reducible exact ih2 _ _ _ _ _)
      | (with_reducible exact ih3 _ _ _ _)
      | (with_reducible exact ip4_Sum.mono _ _)
      | (with_reducible exact weftlaw3_join.mono _ _)
      | (with_reducible exact LeO.refl _)
      | (with_reducible exact LeO.none _)
      | (with_reducible refine LeO.ite ?_ ?_)
      | (with_reducible refine LeO.bind ?_ (fun _ => ?_))
      | exact ih0 _ _ _ _
      | exact ih1 _ _ _ _
      | exact ih2 _ _ _ _ _
      | exact ih3 _ _ _ _
      | exact ip4_Sum.mono _ _
      | exact weftlaw3_join.mono _ _
      | exact LeO.none _
      | refine LeO.ite ?_ ?_
      | refine LeO.bind ?_ (fun _ => ?_)
theorem weftlaw3_Ip4SumJoins.mono : ∀ a0 a1 k, LeO (weftlaw3_Ip4SumJoins.f k a0 a1) (weftlaw3_Ip4SumJoins.f (k + 1) a0 a1) := by
  intro a0 a1 k
  obtain ⟨ih0, ih1, ih2, ih3⟩ := weftlaw3_Ip4SumJoins.mono_l k
  unfold weftlaw3_Ip4SumJoins.f
  repeat' first
      | (with_reducible exact ih0 _ _ _ _)
      | (with_reducible exact ih1 _ _ _ _)
      | (with_reducible exact ih2 _ _ _ _ _)
      | (with_reducible exact ih3 _ _ _ _)
      | (with_reducible exact ip4_Sum.mono _ _)
      | (with_reducible exact weftlaw3_join.mono _ _)
      | (with_reducible exact LeO.refl _)
      | (with_reducible exact LeO.none _)
      | (with_reducible refine LeO.ite ?_ ?_)
      | (with_reducible refine LeO.bind ?_ (fun _ => ?_))
      | exact ih0 _ _ _ _
      | exact ih1 _ _ _ _
      | exact ih2 _ _ _ _ _
      | exact ih3 _ _ _ _
      | exact ip4_Sum.mono _ _
      | exact weftlaw3_join.mono _ _
      | exact LeO.none _
      | refine LeO.ite ?_ ?_
      | refine LeO.bind ?_ (fun _ => ?_)
def weftlaw3_Ip4SumJoins.T11 : Bool × List (List Nat × List Nat) := (true, [([], []), ([], []), ([], []), ([1, 2], [1, 2]), ([3], [3]), ([], []), ([], []), ([6], [6]), ([5, 7], [5, 7]), ([8], [8]), ([4, 9], [4, 9]), ([0, 10], [0, 10]), ([11, 11, 0, 1, 2, 3, 4, 5, 6, 7, 8, 9, 10, 11], [0, 11])])
def weftlaw3_Ip4SumJoins.B11 : List Nat := [0, 0, 0, 6, 14, 0, 0, 64, 224, 480, 1022, 2047, 4095]
theorem weftlaw3_Ip4SumJoins.tab11 : rtab .any (opsOf Try.f3 11) = weftlaw3_Ip4SumJoins.T11 := by kernel_rfl
theorem weftlaw3_Ip4SumJoins.bits11 : waitsOk weftlaw3_Ip4SumJoins.T11.2 weftlaw3_Ip4SumJoins.B11 = true := by kernel_rfl
set_option maxHeartbeats 8000000 in
set_option maxRecDepth 100000 in
theorem weftlaw3_Ip4SumJoins.calls (k : Nat) (A0 : Option Addr) (c0 : Nat) (l0 : List (List Int)) (a1 : Int) (r : Bool) (w : World) (hr0 : Kd.C (Kd.slice 5 (Kd.int .u8)) w A0 l0.length l0) (hc0 : l0.length ≤ c0) (h : weftlaw3_Ip4SumJoins.f k l0 a1 = some r) :
    Calls Try.prog 3 #[.slice A0 l0.length c0, .int .u16 a1] w fun e w' => e = .returned (.bool r) ∧ Below w.heap.size w w' := by
  have HR0 := Aside0.mk hr0
  have HC0 := Aside0.mk hc0
  clear hr0 hc0
  have HB := Aside0.mk (Below.refl w.heap.size w)
  have H : ((weftlaw3_join.f k l0).bind fun t110 => ((ip4_Sum.f k l0).bind fun t113 => ((ip4_Sum.f k (([t110] : List (List Int)))).bind fun t118 => (if t113 = t118 then ((ip4_Sum.f k ([] : List (List Int))).bind fun t119 => (if t119 = 65535 then ((ip4_Sum.f k (([(([1] : List Int)), (([2, 3] : List Int))] : List (List Int)))).bind fun t130 => (weftlaw3_Ip4SumJoins.j0 k a1 t110 t113 (t130 != 64509))) else (weftlaw3_Ip4SumJoins.j0 k a1 t110 t113 true))) else (weftlaw3_Ip4SumJoins.j0 k a1 t110 t113 true))))) = some r := h
  clear h
  replace H := Option.bind_eq_some_iff.mp H
  obtain ⟨t110, A30, H⟩ := H
  replace H : ((ip4_Sum.f k l0).bind fun t113 => ((ip4_Sum.f k (([t110] : List (List Int)))).bind fun t118 => (if t113 = t118 then ((ip4_Sum.f k ([] : List (List Int))).bind fun t119 => (if t119 = 65535 then ((ip4_Sum.f k (([(([1] : List Int)), (([2, 3] : List Int))] : List (List Int)))).bind fun t130 => (weftlaw3_Ip4SumJoins.j0 k a1 t110 t113 (t130 != 64509))) else (weftlaw3_Ip4SumJoins.j0 k a1 t110 t113 true))) else (weftlaw3_Ip4SumJoins.j0 k a1 t110 t113 true)))) = some r := H
  have A3 := Aside0.mk A30
  clear A30
  replace H := Option.bind_eq_some_iff.mp H
  obtain ⟨t113, A40, H⟩ := H
  replace H : ((ip4_Sum.f k (([t110] : List (List Int)))).bind fun t118 => (if t113 = t118 then ((ip4_Sum.f k ([] : List (List Int))).bind fun t119 => (if t119 = 65535 then ((ip4_Sum.f k (([(([1] : List Int)), (([2, 3] : List Int))] : List (List Int)))).bind fun t130 => (weftlaw3_Ip4SumJoins.j0 k a1 t110 t113 (t130 != 64509))) else (weftlaw3_Ip4SumJoins.j0 k a1 t110 t113 true))) else (weftlaw3_Ip4SumJoins.j0 k a1 t110 t113 true))) = some r := H
  have A4 := Aside0.mk A40
  clear A40
  have HC5 := Aside0.mk H
  clear H
  go_enter Try.func3, Try.ntmps3
  go_upto_region 3 with (first | ((with_reducible refine gate_callee (f := 15) rfl ?_); refine goesL_ (some 11) rfl rfl Try.func15 (by kernel_rfl) rfl #[.slice A0 l0.length c0] rfl (by (try simp only [List.map_toArray, List.map_cons, List.map_nil]); first | done | rfl | (simp only [List.length_drop, List.length_take]; rfl)) ?_; (with_reducible refine (weftlaw3_join.calls k _ _ l0 t110 _ ?side1 ?side2 A3.out).mono ?_); (case side1 => repeat (first | exact HR0.out | (with_reducible refine Kd.C_alloc ?_ _) | (with_reducible refine Kd.C_drewN ?_ _) | (with_reducible refine Kd.C_drew ?_))); (case side2 => exact HC0.out); rintro e w6 ⟨v111, rfl, ho0, hb⟩; refine ⟨_, rfl, ?_⟩; have n0_ := Aside0.mk (Kd.R_lower ho0 (below_size (by repeat (first | (with_reducible first | exact HB.out | apply below_alloc | apply pw_below_drewN | apply below_drew1) | exact HB.out)))); have n1_ := Aside0.mk (below_step (by repeat (first | (with_reducible first | exact HB.out | apply below_alloc | apply pw_below_drewN | apply below_drew1) | exact HB.out)) hb); clear HB; have HO112 := n0_; have HB := n1_; clear n0_ n1_; (try clear hb); (try clear hb2); (try clear hk); (try clear hi); (try clear ho0)) | ((with_reducible refine gate_callee (f := 16) rfl ?_); refine goesL_ (some 13) rfl rfl Try.func16 (by kernel_rfl) rfl #[.slice A0 l0.length c0] rfl (by (try simp only [List.map_toArray, List.map_cons, List.map_nil]); first | done | rfl | (simp only [List.length_drop, List.length_take]; rfl)) ?_; (with_reducible refine (ip4_Sum.calls k _ _ l0 t113 _ ?side1 ?side2 A4.out).mono ?_); (case side1 => repeat (first | exact (Kd.C_below HR0.out HB.out) | (with_reducible refine Kd.C_alloc ?_ _) | (with_reducible refine Kd.C_drewN ?_ _) | (with_reducible refine Kd.C_drew ?_))); (case side2 => exact HC0.out); rintro e w' ⟨rfl, ⟨nd, rfl⟩⟩; refine ⟨_, rfl, ?_⟩))
  (try simp only [Act.put, List.setIfInBounds_toArray, List.set_cons_zero, List.set_cons_succ])
  go_cut [29] (fun v29 wc => ∃ (kq : Nat) (x29_4 : Bool), v29 = .bool x29_4 ∧ Aside0 (weftlaw3_Ip4SumJoins.j0 kq a1 t110 t113 x29_4 = some r) ∧ Aside0 (kq ≤ k) ∧ Aside0 (Kd.R (Kd.int .u8) 5 wc w.heap.size (fun _ => True) v111 t110) ∧ Aside0 (Below w.heap.size w wc))
  case first =>
    have H := HC5.out
    clear HC5
    obtain ⟨y114, hy114⟩ : ∃ y_ : List (List Int), y_ = (([t110] : List (List Int))) := ⟨_, rfl⟩
    replace H : ((ip4_Sum.f k y114).bind fun t118 => (if t113 = t118 then ((ip4_Sum.f k ([] : List (List Int))).bind fun t119 => (if t119 = 65535 then ((ip4_Sum.f k (([(([1] : List Int)), (([2, 3] : List Int))] : List (List Int)))).bind fun t130 => (weftlaw3_Ip4SumJoins.j0 k a1 t110 t113 (t130 != 64509))) else (weftlaw3_Ip4SumJoins.j0 k a1 t110 t113 true))) else (weftlaw3_Ip4SumJoins.j0 k a1 t110 t113 true))) = some r := by first | (rw [hy114]; with_reducible exact H) | (have H2_ := (Option.bind_some _ _).symm.trans H; rw [hy114]; with_reducible exact H2_) | (have H2_ := (Option.bind_some _ _).symm.trans H; with_reducible exact H2_) | with_reducible exact H | (rw [hy114]; exact H) | exact H
    have Ny114 := Aside0.mk hy114
    clear hy114
    replace H := Option.bind_eq_some_iff.mp H
    obtain ⟨t118, A70, H⟩ := H
    replace H : (if t113 = t118 then ((ip4_Sum.f k ([] : List (List Int))).bind fun t119 => (if t119 = 65535 then ((ip4_Sum.f k (([(([1] : List Int)), (([2, 3] : List Int))] : List (List Int)))).bind fun t130 => (weftlaw3_Ip4SumJoins.j0 k a1 t110 t113 (t130 != 64509))) else (weftlaw3_Ip4SumJoins.j0 k a1 t110 t113 true))) else (weftlaw3_Ip4SumJoins.j0 k a1 t110 t113 true)) = some r := H
    have A7 := Aside0.mk A70
    clear A70
    by_cases c8 : t113 = t118
    · rw [if_pos c8] at H
      have c8b0 : (t113 == t118) = true := beq_iff_eq.mpr c8
      have c8b1 : (t113 != t118) = false := bne_eq_false_iff_eq.mpr c8
      clear c8
      (first | rw [c8b0] | (simp only [i64_w, i32_w]; rw [c8b0]) | skip)
      replace H := Option.bind_eq_some_iff.mp H
      obtain ⟨t119, A90, H⟩ := H
      replace H : (if t119 = 65535 then ((ip4_Sum.f k (([(([1] : List Int)), (([2, 3] : List Int))] : List (List Int)))).bind fun t130 => (weftlaw3_Ip4SumJoins.j0 k a1 t110 t113 (t130 != 64509))) else (weftlaw3_Ip4SumJoins.j0 k a1 t110 t113 true)) = some r := H
      have A9 := Aside0.mk A90
      clear A90
      by_cases c10 : t119 = 65535
      · rw [if_pos c10] at H
        have c10b0 : (t119 == 65535) = true := beq_iff_eq.mpr c10
        have c10b1 : (t119 != 65535) = false := bne_eq_false_iff_eq.mpr c10
        clear c10
        obtain ⟨y120, hy120⟩ : ∃ y_ : List Int, y_ = (([1] : List Int)) := ⟨_, rfl⟩
        replace H : ((ip4_Sum.f k (([y120, (([2, 3] : List Int))] : List (List Int)))).bind fun t130 => (weftlaw3_Ip4SumJoins.j0 k a1 t110 t113 (t130 != 64509))) = some r := by first | (rw [hy120]; with_reducible exact H) | (have H2_ := (Option.bind_some _ _).symm.trans H; rw [hy120]; with_reducible exact H2_) | (have H2_ := (Option.bind_some _ _).symm.trans H; with_reducible exact H2_) | with_reducible exact H | (rw [hy120]; exact H) | exact H
        have Ny120 := Aside0.mk hy120
        clear hy120
        obtain ⟨y123, hy123⟩ : ∃ y_ : List Int, y_ = (([2, 3] : List Int)) := ⟨_, rfl⟩
        replace H : ((ip4_Sum.f k (([y120, y123] : List (List Int)))).bind fun t130 => (weftlaw3_Ip4SumJoins.j0 k a1 t110 t113 (t130 != 64509))) = some r := by first | (rw [hy123]; with_reducible exact H) | (have H2_ := (Option.bind_some _ _).symm.trans H; rw [hy123]; with_reducible exact H2_) | (have H2_ := (Option.bind_some _ _).symm.trans H; with_reducible exact H2_) | with_reducible exact H | (rw [hy123]; exact H) | exact H
        have Ny123 := Aside0.mk hy123
        clear hy123
        obtain ⟨y126, hy126⟩ : ∃ y_ : List (List Int), y_ = (([y120, y123] : List (List Int))) := ⟨_, rfl⟩
        replace H : ((ip4_Sum.f k y126).bind fun t130 => (weftlaw3_Ip4SumJoins.j0 k a1 t110 t113 (t130 != 64509))) = some r := by first | (rw [hy126]; with_reducible exact H) | (have H2_ := (Option.bind_some _ _).symm.trans H; rw [hy126]; with_reducible exact H2_) | (have H2_ := (Option.bind_some _ _).symm.trans H; with_reducible exact H2_) | with_reducible exact H | (rw [hy126]; exact H) | exact H
        have Ny126 := Aside0.mk hy126
        clear hy126
        replace H := Option.bind_eq_some_iff.mp H
        obtain ⟨t130, A110, H⟩ := H
        replace H : (weftlaw3_Ip4SumJoins.j0 k a1 t110 t113 (t130 != 64509)) = some r := H
        have A11 := Aside0.mk A110
        clear A110
        have H' := Aside0.mk H
        clear H
        obtain ⟨Ao12, co12, eo12⟩ := Kd.R_slice HO112.out
        subst eo12
        go_wp2_with (first | ((with_reducible refine gate_dst (N := 16) rfl ?_); (try (refine gate_guard (by rfl) ?_; dsimp only)); refine lits_event (Kd.slice 5 (Kd.int .u8)) 24 ?hg (N := 16) ?hd (xs := ([t110] : List (List Int))) (inner := [.slice Ao12 t110.length co12]) ?hr ?hp (by simp) ?_; (case hd => rfl); (case hg => rfl); (case hr => first | (go_simp; done) | (go_simp; rfl)); (case hp => exact (Reps.one (show Kd.K (Kd.slice 5 (Kd.int .u8)) _ t110 [.slice Ao12 t110.length co12] from by refine ⟨_, _, rfl, ?_, ?_⟩; (· exact (Kd.R_reads' HO112.out).2.1); (· repeat (first | exact (Kd.R_reads' HO112.out).2.2 | (with_reducible refine Kd.C_alloc ?_ _) | (with_reducible refine Kd.C_drewN ?_ _) | (with_reducible refine Kd.C_drew ?_)))) (Reps.none _ _))); intro v14_ w13 hL_ hb; (first | rw [← Ny114.out] at hL_ | (simp only [Int.reduceToNat] at hL_; rw [← Ny114.out] at hL_)); obtain ⟨A14, c14, rfl, hlr_, hlc_⟩ := hL_; have n0_ := Aside0.mk (Kd.R_below (by (with_reducible repeat (first | apply Kd.R_alloc | apply Kd.R_drewN | apply Kd.R_drew)); exact HO112.out) hb); have n1_ := Aside0.mk (below_step (by repeat (first | (with_reducible first | exact HB.out | apply below_alloc | apply pw_below_drewN | apply below_drew1) | exact HB.out)) hb); have n2_ := Aside0.mk (hlc_); have n3_ := Aside0.mk (hlr_); clear HO112; clear HB; have HO112 := n0_; have HB := n1_; have HR117 := n2_; have HC117 := n3_; clear n0_ n1_ n2_ n3_; clear hb hlr_ hlc_) | ((with_reducible refine gate_callee (f := 16) rfl ?_); refine goesL_ (some 17) rfl rfl Try.func16 (by kernel_rfl) rfl #[.slice A14 y114.length c14] rfl (by (try simp only [List.map_toArray, List.map_cons, List.map_nil]); first | done | rfl | (simp only [List.length_drop, List.length_take]; rfl)) ?_; (with_reducible refine (ip4_Sum.calls k _ _ y114 t118 _ ?side1 ?side2 A7.out).mono ?_); (case side1 => repeat (first | exact (by repeat (first | (with_reducible exact HR117.out) | (with_reducible refine Kd.C_alloc ?_ _) | (with_reducible refine Kd.C_drewN ?_ _) | (with_reducible refine Kd.C_drew ?_) | exact HR117.out)) | (with_reducible refine Kd.C_alloc ?_ _) | (with_reducible refine Kd.C_drewN ?_ _) | (with_reducible refine Kd.C_drew ?_))); (case side2 => exact HC117.out); rintro e w' ⟨rfl, ⟨nd, rfl⟩⟩; refine ⟨_, rfl, ?_⟩) | (go_at_call 16; refine calls_of_args (args' := #[.slice none ([] : List (List Int)).length 0]) (by rfl) ?_; (with_reducible refine (ip4_Sum.calls k _ _ ([] : List (List Int)) t119 _ ?side1 ?side2 A9.out).mono ?_); (case side1 => exact Kd.C_nil _ _); (case side2 => exact Nat.le_refl _); rintro e w' ⟨rfl, ⟨nd, rfl⟩⟩) | ((with_reducible refine gate_dst (N := 24) rfl ?_); (try (refine gate_guard (by rfl) ?_; dsimp only)); refine Kd.R_lit (Kd.int .u8) _ 5 ?hg (N := 24) ?hd (xs := ([1] : List Int)) (inner := [.int .u8 1]) (ok := fun _ => True) (okp := fun _ => True) ?hr ?hp (fun _ hk => hk) trivial (Below.refl _ _) (Nat.le_refl _) (by simp) ?_; (case hd => rfl); (case hg => rfl); (case hr => first | (go_simp; done) | (go_simp; rfl)); (case hp => exact (Reps.one (show Kd.M (Kd.int .u8) _ _ _ 1 [.int .u8 1] from rfl) (Reps.none _ _))); intro v121 w15 ho16 hb hg_ hnew_; clear hg_ hnew_; (first | rw [← Ny120.out] at ho16 | (simp only [Int.reduceToNat] at ho16; rw [← Ny120.out] at ho16)); have n0_ := Aside0.mk (Kd.R_elder' (by (with_reducible repeat (first | apply Kd.R_alloc | apply Kd.R_drewN | apply Kd.R_drew)); exact HO112.out) (Kd.R_base ho16) hb); have n1_ := Aside0.mk (Kd.R_lower (Kd.R_new' ho16 (Kd.R_lt (by (with_reducible repeat (first | apply Kd.R_alloc | apply Kd.R_drewN | apply Kd.R_drew)); exact HO112.out))) (below_size (by repeat (first | (with_reducible first | exact HB.out | apply below_alloc | apply pw_below_drewN | apply below_drew1) | exact HB.out)))); have n2_ := Aside0.mk (below_step (by repeat (first | (with_reducible first | exact HB.out | apply below_alloc | apply pw_below_drewN | apply below_drew1) | exact HB.out)) hb); clear HO112; clear HB; have HO112 := n0_; have HO122 := n1_; have HB := n2_; clear n0_ n1_ n2_; clear hb ho16) | ((with_reducible refine gate_dst (N := 25) rfl ?_); (try (refine gate_guard (by rfl) ?_; dsimp only)); refine Kd.R_lit (Kd.int .u8) _ 5 ?hg (N := 25) ?hd (xs := ([2, 3] : List Int)) (inner := [.int .u8 2, .int .u8 3]) (ok := fun _ => True) (okp := fun _ => True) ?hr ?hp (fun _ hk => hk) trivial (Below.refl _ _) (Nat.le_refl _) (by simp) ?_; (case hd => rfl); (case hg => rfl); (case hr => first | (go_simp; done) | (go_simp; rfl)); (case hp => exact (Reps.one (show Kd.M (Kd.int .u8) _ _ _ 2 [.int .u8 2] from rfl) (Reps.one (show Kd.M (Kd.int .u8) _ _ _ 3 [.int .u8 3] from rfl) (Reps.none _ _)))); intro v124 w17 ho18 hb hg_ hnew_; clear hg_ hnew_; (first | rw [← Ny123.out] at ho18 | (simp only [Int.reduceToNat] at ho18; rw [← Ny123.out] at ho18)); have n0_ := Aside0.mk (Kd.R_elder' (by (with_reducible repeat (first | apply Kd.R_alloc | apply Kd.R_drewN | apply Kd.R_drew)); exact HO112.out) (Kd.R_base ho18) hb); have n1_ := Aside0.mk (Kd.R_elder' (by (with_reducible repeat (first | apply Kd.R_alloc | apply Kd.R_drewN | apply Kd.R_drew)); exact HO122.out) (Kd.R_base ho18) hb); have n2_ := Aside0.mk (Kd.R_lower (Kd.R_new' (Kd.R_new' ho18 (Kd.R_lt (by (with_reducible repeat (first | apply Kd.R_alloc | apply Kd.R_drewN | apply Kd.R_drew)); exact HO112.out))) (Kd.R_lt (by (with_reducible repeat (first | apply Kd.R_alloc | apply Kd.R_drewN | apply Kd.R_drew)); exact HO122.out))) (below_size (by repeat (first | (with_reducible first | exact HB.out | apply below_alloc | apply pw_below_drewN | apply below_drew1) | exact HB.out)))); have n3_ := Aside0.mk (below_step (by repeat (first | (with_reducible first | exact HB.out | apply below_alloc | apply pw_below_drewN | apply below_drew1) | exact HB.out)) hb); clear HO112; clear HO122; clear HB; have HO112 := n0_; have HO122 := n1_; have HO125 := n2_; have HB := n3_; clear n0_ n1_ n2_ n3_; clear hb ho18; obtain ⟨Ao19, co19, eo19⟩ := Kd.R_slice HO125.out; subst eo19; obtain ⟨Ao20, co20, eo20⟩ := Kd.R_slice HO122.out; subst eo20) | ((with_reducible refine gate_dst (N := 26) rfl ?_); (try (refine gate_guard (by rfl) ?_; dsimp only)); refine lits_event (Kd.slice 5 (Kd.int .u8)) 24 ?hg (N := 26) ?hd (xs := ([y120, y123] : List (List Int))) (inner := [.slice Ao20 y120.length co20, .slice Ao19 y123.length co19]) ?hr ?hp (by simp) ?_; (case hd => rfl); (case hg => rfl); (case hr => first | (go_simp; done) | (go_simp; rfl)); (case hp => exact (Reps.one (show Kd.K (Kd.slice 5 (Kd.int .u8)) _ y120 [.slice Ao20 y120.length co20] from by refine ⟨_, _, rfl, ?_, ?_⟩; (· exact (Kd.R_reads' HO122.out).2.1); (· repeat (first | exact (Kd.R_reads' HO122.out).2.2 | (with_reducible refine Kd.C_alloc ?_ _) | (with_reducible refine Kd.C_drewN ?_ _) | (with_reducible refine Kd.C_drew ?_)))) (Reps.one (show Kd.K (Kd.slice 5 (Kd.int .u8)) _ y123 [.slice Ao19 y123.length co19] from by refine ⟨_, _, rfl, ?_, ?_⟩; (· exact (Kd.R_reads' HO125.out).2.1); (· repeat (first | exact (Kd.R_reads' HO125.out).2.2 | (with_reducible refine Kd.C_alloc ?_ _) | (with_reducible refine Kd.C_drewN ?_ _) | (with_reducible refine Kd.C_drew ?_)))) (Reps.none _ _)))); intro v22_ w21 hL_ hb; (first | rw [← Ny126.out] at hL_ | (simp only [Int.reduceToNat] at hL_; rw [← Ny126.out] at hL_)); obtain ⟨A22, c22, rfl, hlr_, hlc_⟩ := hL_; have n0_ := Aside0.mk (Kd.R_below (by (with_reducible repeat (first | apply Kd.R_alloc | apply Kd.R_drewN | apply Kd.R_drew)); exact HO112.out) hb); have n1_ := Aside0.mk (Kd.R_below (by (with_reducible repeat (first | apply Kd.R_alloc | apply Kd.R_drewN | apply Kd.R_drew)); exact HO122.out) hb); have n2_ := Aside0.mk (Kd.R_below (by (with_reducible repeat (first | apply Kd.R_alloc | apply Kd.R_drewN | apply Kd.R_drew)); exact HO125.out) hb); have n3_ := Aside0.mk (below_step (by repeat (first | (with_reducible first | exact HB.out | apply below_alloc | apply pw_below_drewN | apply below_drew1) | exact HB.out)) hb); have n4_ := Aside0.mk (hlc_); have n5_ := Aside0.mk (hlr_); clear HO112; clear HO122; clear HO125; clear HB; have HO112 := n0_; have HO122 := n1_; have HO125 := n2_; have HB := n3_; have HR129 := n4_; have HC129 := n5_; clear n0_ n1_ n2_ n3_ n4_ n5_; clear hb hlr_ hlc_) | (go_at_call 16; (with_reducible refine (ip4_Sum.calls k _ _ y126 t130 _ ?side1 ?side2 A11.out).mono ?_); (case side1 => repeat (first | exact (by repeat (first | (with_reducible exact HR129.out) | (with_reducible refine Kd.C_alloc ?_ _) | (with_reducible refine Kd.C_drewN ?_ _) | (with_reducible refine Kd.C_drew ?_) | exact HR129.out)) | (with_reducible refine Kd.C_alloc ?_ _) | (with_reducible refine Kd.C_drewN ?_ _) | (with_reducible refine Kd.C_drew ?_))); (case side2 => exact HC129.out); rintro e w' ⟨rfl, ⟨nd, rfl⟩⟩))
        go_meet
        case rel => exact ⟨_, ((t130 != 64509)), (by first | rfl | (simp; done) | (simp [*]; done)), H', ⟨by first | omega | exact Nat.le_refl _⟩, ⟨by (with_reducible repeat (first | apply Kd.R_alloc | apply Kd.R_drewN | apply Kd.R_drew)); exact Kd.R_mono HO112.out (fun _ hk => trivial)⟩, ⟨by repeat (first | (with_reducible first | exact HB.out | apply below_alloc | apply pw_below_drewN | apply below_drew1) | exact HB.out)⟩⟩
      · rw [if_neg c10] at H
        have c10b0 : (t119 == 65535) = false := beq_eq_false_iff_ne.mpr c10
        have c10b1 : (t119 != 65535) = true := bne_iff_ne.mpr c10
        have H' := Aside0.mk H
        clear H
        obtain ⟨Ao23, co23, eo23⟩ := Kd.R_slice HO112.out
        subst eo23
        go_wp2_with (first | ((with_reducible refine gate_dst (N := 16) rfl ?_); (try (refine gate_guard (by rfl) ?_; dsimp only)); refine lits_event (Kd.slice 5 (Kd.int .u8)) 24 ?hg (N := 16) ?hd (xs := ([t110] : List (List Int))) (inner := [.slice Ao23 t110.length co23]) ?hr ?hp (by simp) ?_; (case hd => rfl); (case hg => rfl); (case hr => first | (go_simp; done) | (go_simp; rfl)); (case hp => exact (Reps.one (show Kd.K (Kd.slice 5 (Kd.int .u8)) _ t110 [.slice Ao23 t110.length co23] from by refine ⟨_, _, rfl, ?_, ?_⟩; (· exact (Kd.R_reads' HO112.out).2.1); (· repeat (first | exact (Kd.R_reads' HO112.out).2.2 | (with_reducible refine Kd.C_alloc ?_ _) | (with_reducible refine Kd.C_drewN ?_ _) | (with_reducible refine Kd.C_drew ?_)))) (Reps.none _ _))); intro v25_ w24 hL_ hb; (first | rw [← Ny114.out] at hL_ | (simp only [Int.reduceToNat] at hL_; rw [← Ny114.out] at hL_)); obtain ⟨A25, c25, rfl, hlr_, hlc_⟩ := hL_; have n0_ := Aside0.mk (Kd.R_below (by (with_reducible repeat (first | apply Kd.R_alloc | apply Kd.R_drewN | apply Kd.R_drew)); exact HO112.out) hb); have n1_ := Aside0.mk (below_step (by repeat (first | (with_reducible first | exact HB.out | apply below_alloc | apply pw_below_drewN | apply below_drew1) | exact HB.out)) hb); have n2_ := Aside0.mk (hlc_); have n3_ := Aside0.mk (hlr_); clear HO112; clear HB; have HO112 := n0_; have HB := n1_; have HR117 := n2_; have HC117 := n3_; clear n0_ n1_ n2_ n3_; clear hb hlr_ hlc_) | ((with_reducible refine gate_callee (f := 16) rfl ?_); refine goesL_ (some 17) rfl rfl Try.func16 (by kernel_rfl) rfl #[.slice A25 y114.length c25] rfl (by (try simp only [List.map_toArray, List.map_cons, List.map_nil]); first | done | rfl | (simp only [List.length_drop, List.length_take]; rfl)) ?_; (with_reducible refine (ip4_Sum.calls k _ _ y114 t118 _ ?side1 ?side2 A7.out).mono ?_); (case side1 => repeat (first | exact (by repeat (first | (with_reducible exact HR117.out) | (with_reducible refine Kd.C_alloc ?_ _) | (with_reducible refine Kd.C_drewN ?_ _) | (with_reducible refine Kd.C_drew ?_) | exact HR117.out)) | (with_reducible refine Kd.C_alloc ?_ _) | (with_reducible refine Kd.C_drewN ?_ _) | (with_reducible refine Kd.C_drew ?_))); (case side2 => exact HC117.out); rintro e w' ⟨rfl, ⟨nd, rfl⟩⟩; refine ⟨_, rfl, ?_⟩) | (go_at_call 16; refine calls_of_args (args' := #[.slice none ([] : List (List Int)).length 0]) (by rfl) ?_; (with_reducible refine (ip4_Sum.calls k _ _ ([] : List (List Int)) t119 _ ?side1 ?side2 A9.out).mono ?_); (case side1 => exact Kd.C_nil _ _); (case side2 => exact Nat.le_refl _); rintro e w' ⟨rfl, ⟨nd, rfl⟩⟩))
        go_meet
        case rel => exact ⟨_, (true), (by first | rfl | (simp; done) | (simp [*]; done)), H', ⟨by first | omega | exact Nat.le_refl _⟩, ⟨by (with_reducible repeat (first | apply Kd.R_alloc | apply Kd.R_drewN | apply Kd.R_drew)); exact HO112.out⟩, ⟨by repeat (first | (with_reducible first | exact HB.out | apply below_alloc | apply pw_below_drewN | apply below_drew1) | exact HB.out)⟩⟩
    · rw [if_neg c8] at H
      have c8b0 : (t113 == t118) = false := beq_eq_false_iff_ne.mpr c8
      have c8b1 : (t113 != t118) = true := bne_iff_ne.mpr c8
      (first | rw [c8b0] | (simp only [i64_w, i32_w]; rw [c8b0]) | skip)
      have H' := Aside0.mk H
      clear H
      obtain ⟨Ao26, co26, eo26⟩ := Kd.R_slice HO112.out
      subst eo26
      go_wp2_with (first | ((with_reducible refine gate_dst (N := 16) rfl ?_); (try (refine gate_guard (by rfl) ?_; dsimp only)); refine lits_event (Kd.slice 5 (Kd.int .u8)) 24 ?hg (N := 16) ?hd (xs := ([t110] : List (List Int))) (inner := [.slice Ao26 t110.length co26]) ?hr ?hp (by simp) ?_; (case hd => rfl); (case hg => rfl); (case hr => first | (go_simp; done) | (go_simp; rfl)); (case hp => exact (Reps.one (show Kd.K (Kd.slice 5 (Kd.int .u8)) _ t110 [.slice Ao26 t110.length co26] from by refine ⟨_, _, rfl, ?_, ?_⟩; (· exact (Kd.R_reads' HO112.out).2.1); (· repeat (first | exact (Kd.R_reads' HO112.out).2.2 | (with_reducible refine Kd.C_alloc ?_ _) | (with_reducible refine Kd.C_drewN ?_ _) | (with_reducible refine Kd.C_drew ?_)))) (Reps.none _ _))); intro v28_ w27 hL_ hb; (first | rw [← Ny114.out] at hL_ | (simp only [Int.reduceToNat] at hL_; rw [← Ny114.out] at hL_)); obtain ⟨A28, c28, rfl, hlr_, hlc_⟩ := hL_; have n0_ := Aside0.mk (Kd.R_below (by (with_reducible repeat (first | apply Kd.R_alloc | apply Kd.R_drewN | apply Kd.R_drew)); exact HO112.out) hb); have n1_ := Aside0.mk (below_step (by repeat (first | (with_reducible first | exact HB.out | apply below_alloc | apply pw_below_drewN | apply below_drew1) | exact HB.out)) hb); have n2_ := Aside0.mk (hlc_); have n3_ := Aside0.mk (hlr_); clear HO112; clear HB; have HO112 := n0_; have HB := n1_; have HR117 := n2_; have HC117 := n3_; clear n0_ n1_ n2_ n3_; clear hb hlr_ hlc_) | ((with_reducible refine gate_callee (f := 16) rfl ?_); refine goesL_ (some 17) rfl rfl Try.func16 (by kernel_rfl) rfl #[.slice A28 y114.length c28] rfl (by (try simp only [List.map_toArray, List.map_cons, List.map_nil]); first | done | rfl | (simp only [List.length_drop, List.length_take]; rfl)) ?_; (with_reducible refine (ip4_Sum.calls k _ _ y114 t118 _ ?side1 ?side2 A7.out).mono ?_); (case side1 => repeat (first | exact (by repeat (first | (with_reducible exact HR117.out) | (with_reducible refine Kd.C_alloc ?_ _) | (with_reducible refine Kd.C_drewN ?_ _) | (with_reducible refine Kd.C_drew ?_) | exact HR117.out)) | (with_reducible refine Kd.C_alloc ?_ _) | (with_reducible refine Kd.C_drewN ?_ _) | (with_reducible refine Kd.C_drew ?_))); (case side2 => exact HC117.out); rintro e w' ⟨rfl, ⟨nd, rfl⟩⟩; refine ⟨_, rfl, ?_⟩))
      go_meet
      case rel => exact ⟨_, (true), (by first | rfl | (simp; done) | (simp [*]; done)), H', ⟨by first | omega | exact Nat.le_refl _⟩, ⟨by (with_reducible repeat (first | apply Kd.R_alloc | apply Kd.R_drewN | apply Kd.R_drew)); exact HO112.out⟩, ⟨by repeat (first | (with_reducible first | exact HB.out | apply below_alloc | apply pw_below_drewN | apply below_drew1) | exact HB.out)⟩⟩
  case rest =>
    clear HC5
    try clear c1
    try clear c2
    try clear p2
    try clear c3
    try clear p4
    try clear c8
    try clear c8b0
    try clear c8b1
    try clear c10
    try clear c10b0
    try clear c10b1
    try clear c14
    try clear c15
    try clear c16
    try clear c22
    try clear c25
    try clear c28
    obtain ⟨kq, x29_4, rfl, HA, HJ4, HO_5, HB⟩ := hcut
    cases kq with
    | zero => exact absurd HA.out (by simp [weftlaw3_Ip4SumJoins.j0])
    | succ kj4 =>
      have H := HA.out
      clear HA
      simp only [weftlaw3_Ip4SumJoins.j0] at H
      by_cases c29 : x29_4 = true
      · subst c29
        have H1 : (some false) = some r := by rw [if_pos rfl] at H; exact H
        clear H
        have H := H1
        clear H1
        obtain rfl := Option.some.inj H
        go_wp2
        go_ret
        exact ⟨by first | rfl | (simp [errW_none, errW_some] <;> rfl) | (simp [*, errW_none, errW_some] <;> rfl), by repeat (first | (with_reducible first | exact HB.out | apply below_alloc | apply pw_below_drewN | apply below_drew1) | exact HB.out)⟩
      · replace c29 := Bool.eq_false_iff.mpr c29
        subst c29
        have H1 : (if ((t110.length : Int) % 2) = 1 then (if t110.length < 140737488355328 then (weftlaw3_Ip4SumJoins.j1 kj4 a1 (t110 ++ [0]) t113 ([] : List Int)) else (none)) else (weftlaw3_Ip4SumJoins.j1 kj4 a1 t110 t113 ([] : List Int))) = some r := by rw [if_neg (show ¬ (false = true) by decide)] at H; exact H
        clear H
        have H := H1
        clear H1
        have HC30 := Aside0.mk H
        clear H
        obtain ⟨Ao31, co31, eo31⟩ := Kd.R_slice HO_5.out
        subst eo31
        go_upto_if 33 with (fail)
        go_cut [5] (fun v5 wc => ∃ (kq : Nat) (x5_29 : List Int), Aside0 (weftlaw3_Ip4SumJoins.j1 kq a1 x5_29 t113 ([] : List Int) = some r) ∧ Aside0 (kq ≤ kj4) ∧ Aside0 (Kd.R (Kd.int .u8) 5 wc w.heap.size (fun k_ => some k_ ≠ ((.slice none 0 0) : Value).ownBlock) v5 x5_29) ∧ Aside0 (Kd.R (Kd.int .u8) 5 wc w.heap.size (fun k_ => some k_ ≠ (v5 : Value).ownBlock) (.slice none 0 0) ([] : List Int)) ∧ Aside0 (Below w.heap.size w wc))
        case first =>
          have H := HC30.out
          clear HC30
          by_cases c32 : ((t110.length : Int) % 2) = 1
          · rw [if_pos c32] at H
            have c32b0 : (((t110.length : Int) % 2) == 1) = true := beq_iff_eq.mpr c32
            have c32b1 : (((t110.length : Int) % 2) != 1) = false := bne_eq_false_iff_eq.mpr c32
            clear c32
            (first | rw [c32b0] | (simp only [i64_w, i32_w]; rw [c32b0]) | skip)
            by_cases c33 : t110.length < 140737488355328
            · rw [if_pos c33] at H
              have LMc33 := Aside0.mk c33
              clear c33
              obtain ⟨y131, hy131⟩ : ∃ y_ : List Int, y_ = (t110 ++ [0]) := ⟨_, rfl⟩
              replace H : (weftlaw3_Ip4SumJoins.j1 kj4 a1 y131 t113 ([] : List Int)) = some r := by first | (rw [hy131]; with_reducible exact H) | (have H2_ := (Option.bind_some _ _).symm.trans H; rw [hy131]; with_reducible exact H2_) | (have H2_ := (Option.bind_some _ _).symm.trans H; with_reducible exact H2_) | with_reducible exact H | (rw [hy131]; exact H) | exact H
              have Ny131 := Aside0.mk hy131
              clear hy131
              have H' := Aside0.mk H
              clear H
              go_wp2_with (first | ((with_reducible refine gate_builtin (b := .append) (xs := #[.tmp 34, .tmp 35]) rfl ?_); (try (refine gate_guard (by rfl) ?_; dsimp only)); at_builtin; refine Kd.R_append (Kd.int .u8) (w0 := w) w.heap.size rfl (.tmp 34) (.tmp 35) 24 5 (.int .u8 0) 1 rfl Try.underlying24 info5 rfl (by decide) (by omega) (.slice Ao31 t110.length co31) t110 0 [.int .u8 0] (fun _ => True) (fun _ => False) rfl rfl ?aP (fun _ hk => hk.elim) ?aF ?aO ?aB ?aS ?aL ?_; (case aP => exact rfl); (case aB => exact (by repeat (first | (with_reducible first | exact HB.out | apply below_alloc | apply pw_below_drewN | apply below_drew1) | exact HB.out))); (case aF => exact (fun _ _ => trivial)); (case aO => exact (by (with_reducible repeat (first | apply Kd.R_alloc | apply Kd.R_drewN | apply Kd.R_drew)); exact HO_5.out)); (case aS => exact (below_size (by repeat (first | (with_reducible first | exact HB.out | apply below_alloc | apply pw_below_drewN | apply below_drew1) | exact HB.out)))); (case aL => have := LMc33.out; omega); intro v132 w34 ho hb hg hat; rw [← Ny131.out] at ho; have n0_ := Aside0.mk (hb); have n1_ := Aside0.mk (ho); clear HB; clear HO_5; have HB := n0_; have HO133 := n1_; clear n0_ n1_; clear ho hb hg hat))
              go_meet
              case rel => exact ⟨_, (y131), H', ⟨by have := HJ4.out; first | omega | exact Nat.le_refl _⟩, ⟨by (with_reducible repeat (first | apply Kd.R_alloc | apply Kd.R_drewN | apply Kd.R_drew)); exact Kd.R_mono HO133.out (fun _ hk => (by simp [Value.ownBlock]))⟩, ⟨by first | exact Kd.R_nil _ _ _ _ _ | exact Kd.N_nil _ _ _ _ _ | exact Kd.V_nil _ _ _ _ _ | exact Kd.Q_nil _ _ _ _ _ | exact Kd.S_nil _ _ _ _ _⟩, ⟨by repeat (first | (with_reducible first | exact HB.out | apply below_alloc | apply pw_below_drewN | apply below_drew1) | exact HB.out)⟩⟩
            · rw [if_neg c33] at H
              exact absurd H (by simp)
          · rw [if_neg c32] at H
            have c32b0 : (((t110.length : Int) % 2) == 1) = false := beq_eq_false_iff_ne.mpr c32
            have c32b1 : (((t110.length : Int) % 2) != 1) = true := bne_iff_ne.mpr c32
            (first | rw [c32b0] | (simp only [i64_w, i32_w]; rw [c32b0]) | skip)
            have H' := Aside0.mk H
            clear H
            go_wp2
            go_meet
            case rel => exact ⟨_, (t110), H', ⟨by have := HJ4.out; first | omega | exact Nat.le_refl _⟩, ⟨by (with_reducible repeat (first | apply Kd.R_alloc | apply Kd.R_drewN | apply Kd.R_drew)); exact Kd.R_mono HO_5.out (fun _ hk => (by simp [Value.ownBlock]))⟩, ⟨by first | exact Kd.R_nil _ _ _ _ _ | exact Kd.N_nil _ _ _ _ _ | exact Kd.V_nil _ _ _ _ _ | exact Kd.Q_nil _ _ _ _ _ | exact Kd.S_nil _ _ _ _ _⟩, ⟨by repeat (first | (with_reducible first | exact HB.out | apply below_alloc | apply pw_below_drewN | apply below_drew1) | exact HB.out)⟩⟩
        case rest =>
          clear HC30
          try clear c1
          try clear c2
          try clear p2
          try clear c3
          try clear p4
          try clear c8
          try clear c8b0
          try clear c8b1
          try clear c10
          try clear c10b0
          try clear c10b1
          try clear c14
          try clear c15
          try clear c16
          try clear c22
          try clear c25
          try clear c28
          try clear c29
          try clear c32
          try clear c32b0
          try clear c32b1
          try clear c33
          try clear p2
          try clear p4
          obtain ⟨kq, x5_29, HA, HJ29, HO_5, HO_7, HB⟩ := hcut
          cases kq with
          | zero => exact absurd HA.out (by simp [weftlaw3_Ip4SumJoins.j1])
          | succ kj29 =>
            have H := HA.out
            clear HA
            simp only [weftlaw3_Ip4SumJoins.j1] at H
            have H' := Aside0.mk H
            clear H
            obtain ⟨Ao35, co35, eo35⟩ := Kd.R_slice HO_5.out
            subst eo35
            go_wp2
            go_loopg [7, 8] kj29 (fun kq v7 v8 w' => ∃ (x7_3 : List Int) (x8_3 : Int), v8 = .int .i64 x8_3 ∧ Aside0 (weftlaw3_Ip4SumJoins.l0 kq a1 x5_29 t113 x7_3 x8_3 = some r) ∧ Aside0 (kq ≤ kj29) ∧ Aside0 (Kd.R (Kd.int .u8) 5 w' w.heap.size (fun k_ => some k_ ≠ (v7 : Value).ownBlock) (.slice Ao35 x5_29.length co35) x5_29) ∧ Aside0 (Kd.R (Kd.int .u8) 5 w' w.heap.size (fun k_ => some k_ ≠ ((.slice Ao35 x5_29.length co35) : Value).ownBlock) v7 x7_3) ∧ Aside0 (Below w.heap.size w w'))
            case atStart => exact ⟨(([] : List Int)), (wrap64 ((x5_29.length : Int) - 2)), (by first | rfl | (simp; done) | (simp [*]; done)), H', ⟨Nat.le_refl _⟩, ⟨by (with_reducible repeat (first | apply Kd.R_alloc | apply Kd.R_drewN | apply Kd.R_drew)); exact HO_5.out⟩, ⟨by (with_reducible repeat (first | apply Kd.R_alloc | apply Kd.R_drewN | apply Kd.R_drew)); exact HO_7.out⟩, ⟨by repeat (first | (with_reducible first | exact HB.out | apply below_alloc | apply pw_below_drewN | apply below_drew1) | exact HB.out)⟩⟩
            case round =>
              clear H'
              try clear c1
              try clear c2
              try clear p2
              try clear c3
              try clear p4
              try clear p6
              try clear c8
              try clear c8b0
              try clear c8b1
              try clear c10
              try clear c10b0
              try clear c10b1
              try clear c14
              try clear c15
              try clear c16
              try clear c22
              try clear c25
              try clear c28
              try clear c29
              try clear c32
              try clear c32b0
              try clear c32b1
              try clear c33
              try clear p2
              try clear p4
              obtain ⟨x7_3, x8_3, rfl, HA, HK3, HO_5, HO_7, HB⟩ := hrel
              cases gk with
              | zero => exact absurd HA.out (by simp [weftlaw3_Ip4SumJoins.l0])
              | succ k3 =>
                have H := HA.out
                clear HA
                simp only [weftlaw3_Ip4SumJoins.l0] at H
                by_cases c36 : x8_3 ≥ 0
                · rw [if_pos c36] at H
                  have c36b0 : decide (0 ≤ x8_3) = true := decide_eq_true c36
                  clear c36
                  by_cases c37 : 0 ≤ x8_3
                  · rw [if_pos c37] at H
                    have c37b0 : decide (0 ≤ x8_3) = true := decide_eq_true c37
                    clear c37
                    by_cases c38 : x8_3 < (x5_29.length : Int)
                    · rw [if_pos c38] at H
                      have c38b0 : decide (x8_3 < (x5_29.length : Int)) = true := decide_eq_true c38
                      clear c38
                      obtain ⟨ji39, hji39⟩ : ∃ j_ : Int, (wrap64 (x8_3 + 1)) = j_ := ⟨_, rfl⟩
                      replace H : (if 0 ≤ (ji39) then (if (ji39) < (x5_29.length : Int) then ((some (([rd x5_29 x8_3, rd x5_29 (ji39)] : List Int) : List Int)).bind fun y136 => (if x7_3.length + y136.length < 140737488355328 then (weftlaw3_Ip4SumJoins.l0 k3 a1 x5_29 t113 (x7_3 ++ y136) (wrap64 (x8_3 - 2))) else (none))) else (none)) else (none)) = some r := by first | (rw [hji39] at H; exact H) | (simp only [hji39] at H ⊢; exact H)
                      have hji39w : (IntKind.i64.wrap (x8_3 + 1)) = ji39 := (i64_w _).trans hji39
                      by_cases c40 : 0 ≤ (ji39)
                      · rw [if_pos c40] at H
                        have c40b0 : decide (0 ≤ (ji39)) = true := decide_eq_true c40
                        clear c40
                        by_cases c41 : (ji39) < (x5_29.length : Int)
                        · rw [if_pos c41] at H
                          have c41b0 : decide ((ji39) < (x5_29.length : Int)) = true := decide_eq_true c41
                          clear c41
                          obtain ⟨y136, hy136⟩ : ∃ y_ : List Int, y_ = (([rd x5_29 x8_3, rd x5_29 (ji39)] : List Int)) := ⟨_, rfl⟩
                          replace H : (if x7_3.length + y136.length < 140737488355328 then (weftlaw3_Ip4SumJoins.l0 k3 a1 x5_29 t113 (x7_3 ++ y136) (wrap64 (x8_3 - 2))) else (none)) = some r := by first | (rw [hy136]; with_reducible exact H) | (have H2_ := (Option.bind_some _ _).symm.trans H; rw [hy136]; with_reducible exact H2_) | (have H2_ := (Option.bind_some _ _).symm.trans H; with_reducible exact H2_) | with_reducible exact H | (rw [hy136]; exact H) | exact H
                          have Ny136 := Aside0.mk hy136
                          clear hy136
                          by_cases c42 : x7_3.length + y136.length < 140737488355328
                          · rw [if_pos c42] at H
                            have LMc42 := Aside0.mk c42
                            clear c42
                            obtain ⟨y139, hy139⟩ : ∃ y_ : List Int, y_ = (x7_3 ++ y136) := ⟨_, rfl⟩
                            replace H : (weftlaw3_Ip4SumJoins.l0 k3 a1 x5_29 t113 y139 (wrap64 (x8_3 - 2))) = some r := by first | (rw [hy139]; with_reducible exact H) | (have H2_ := (Option.bind_some _ _).symm.trans H; rw [hy139]; with_reducible exact H2_) | (have H2_ := (Option.bind_some _ _).symm.trans H; with_reducible exact H2_) | with_reducible exact H | (rw [hy139]; exact H) | exact H
                            have Ny139 := Aside0.mk hy139
                            clear hy139
                            have H' := Aside0.mk H
                            clear H
                            try go_wp2
                            have n0_ := Aside0.mk (Kd.R_drew HO_5.out)
                            have n1_ := Aside0.mk (Kd.R_drew HO_7.out)
                            have n2_ := Aside0.mk (below_drew1 HB.out)
                            clear HO_5
                            clear HO_7
                            clear HB
                            have HO_5 := n0_
                            have HO_7 := n1_
                            have HB := n2_
                            clear n0_ n1_ n2_
                            have p134 : 0 ≤ (x8_3 : Int) := of_decide_eq_true (by first | (with_reducible assumption) | assumption)
                            have q134 : x8_3 < (x5_29.length : Int) := of_decide_eq_true (by first | (with_reducible assumption) | assumption)
                            obtain ⟨ad134, e134, hx134_0⟩ := Kd.at_int (Kd.R_reads' HO_5.out).2.2 x8_3 p134 q134
                            cases e134
                            replace p134 := eq_true p134
                            replace q134 := eq_true q134
                            have p135 : 0 ≤ ((ji39) : Int) := of_decide_eq_true (by first | (with_reducible assumption) | assumption)
                            have q135 : (ji39) < (x5_29.length : Int) := of_decide_eq_true (by first | (with_reducible assumption) | assumption)
                            obtain ⟨ad135, e135, hx135_0⟩ := Kd.at_int (Kd.R_reads' HO_5.out).2.2 (ji39) p135 q135
                            obtain rfl : ad134 = ad135 := (by injection e135)
                            replace p135 := eq_true p135
                            replace q135 := eq_true q135
                            refine start_ (n := 13) (S := fun w' => w'.cell? (ad134.add (x8_3).toNat) = some (.int .u8 (rd x5_29 x8_3)) ∧ w'.cell? (ad134.add ((ji39)).toNat) = some (.int .u8 (rd x5_29 (ji39)))) (ds := [11]) #[false, false, false, false, false, false, false, false, false, false, false, false, false] (by kernel_rfl) rfl rfl ⟨hx134_0, hx135_0⟩ (fun hHeld => ?_); refine with_tabW weftlaw3_Ip4SumJoins.tab11 weftlaw3_Ip4SumJoins.bits11 (fun HT_ HW_ => ?_)
                            generalize wr.drew = w43 at HO_5 HO_7 HB hx134_0 hx135_0 hHeld ⊢
                            refine pure_ (i := 0) (N := some 44) (v := ?_) (a' := ?_) #[true, false, false, false, false, false, false, false, false, false, false, false, false] rfl rfl (any_of HT_.out (by kernel_rfl)) (fun _ _ _ h => h) (Or.inl ⟨by rfl, ?_⟩) ?_ ?_
                            rotate_left
                            · intro w'
                              go_simp
                              with_reducible rfl
                            rotate_left
                            · simp only [Act.put, List.setIfInBounds_toArray, List.set_cons_zero, List.set_cons_succ, i64_w, i32_w, IntKind.wrap_u8, IntKind.wrap_u32]
                              rfl
                            refine pure_ (i := 1) (N := some 45) (v := ?_) (a' := ?_) #[true, true, false, false, false, false, false, false, false, false, false, false, false] rfl rfl (any_of HT_.out (by kernel_rfl)) (fun _ _ _ h => h) (Or.inl ⟨by rfl, ?_⟩) ?_ ?_
                            rotate_left
                            · intro w'
                              go_simp
                              with_reducible rfl
                            rotate_left
                            · simp only [Act.put, List.setIfInBounds_toArray, List.set_cons_zero, List.set_cons_succ, i64_w, i32_w, IntKind.wrap_u8, IntKind.wrap_u32]
                              rfl
                            refine pure_ (i := 2) (N := some 46) (v := ?_) (a' := ?_) #[true, true, true, false, false, false, false, false, false, false, false, false, false] rfl rfl (any_of HT_.out (by kernel_rfl)) (fun _ _ _ h => h) (Or.inl ⟨by rfl, ?_⟩) ?_ ?_
                            rotate_left
                            · intro w'
                              go_simp
                              with_reducible rfl
                            rotate_left
                            · simp only [Act.put, List.setIfInBounds_toArray, List.set_cons_zero, List.set_cons_succ, i64_w, i32_w, IntKind.wrap_u8, IntKind.wrap_u32]
                              rfl
                            refine pure_ (i := 3) (N := some 47) (v := ?_) (a' := ?_) #[true, true, true, true, false, false, false, false, false, false, false, false, false] rfl rfl (any_of HT_.out (by kernel_rfl)) (fun _ _ _ h => h) (Or.inl ⟨by rfl, ?_⟩) ?_ ?_
                            rotate_left
                            · intro w'
                              go_simp
                              with_reducible rfl
                            rotate_left
                            · simp only [Act.put, List.setIfInBounds_toArray, List.set_cons_zero, List.set_cons_succ, i64_w, i32_w, IntKind.wrap_u8, IntKind.wrap_u32]
                              rfl
                            refine pure_ (i := 5) (N := some 49) (v := ?_) (a' := ?_) #[true, true, true, true, false, true, false, false, false, false, false, false, false] rfl rfl (any_of HT_.out (by kernel_rfl)) (fun _ _ _ h => h) (Or.inl ⟨by rfl, ?_⟩) ?_ ?_
                            rotate_left
                            · intro w'
                              go_simp
                              with_reducible rfl
                            rotate_left
                            · simp only [Act.put, List.setIfInBounds_toArray, List.set_cons_zero, List.set_cons_succ, i64_w, i32_w, IntKind.wrap_u8, IntKind.wrap_u32]
                              rfl
                            refine pure_ (i := 6) (N := some 50) (v := ?_) (a' := ?_) #[true, true, true, true, false, true, true, false, false, false, false, false, false] rfl rfl (any_of HT_.out (by kernel_rfl)) (fun _ _ _ h => h) (Or.inl ⟨by rfl, ?_⟩) ?_ ?_
                            rotate_left
                            · intro w'
                              go_simp
                              with_reducible rfl
                            rotate_left
                            · simp only [Act.put, List.setIfInBounds_toArray, List.set_cons_zero, List.set_cons_succ, i64_w, i32_w, IntKind.wrap_u8, IntKind.wrap_u32]
                              rfl
                            refine pure_ (i := 7) (N := some 51) (v := ?_) (a' := ?_) #[true, true, true, true, false, true, true, true, false, false, false, false, false] rfl rfl (any_of HT_.out (by kernel_rfl)) (fun _ _ _ h => h) (Or.inl ⟨by rfl, ?_⟩) ?_ ?_
                            rotate_left
                            · intro w'
                              go_simp
                              with_reducible rfl
                            rotate_left
                            · simp only [Act.put, List.setIfInBounds_toArray, List.set_cons_zero, List.set_cons_succ, i64_w, i32_w, IntKind.wrap_u8, IntKind.wrap_u32]
                              rfl
                            refine pure_ (i := 8) (N := some 52) (v := ?_) (a' := ?_) #[true, true, true, true, false, true, true, true, true, false, false, false, false] rfl rfl (any_of HT_.out (by kernel_rfl)) (fun _ _ _ h => h) (Or.inl ⟨by rfl, ?_⟩) ?_ ?_
                            rotate_left
                            · intro w'
                              go_simp
                              with_reducible rfl
                            rotate_left
                            · simp only [Act.put, List.setIfInBounds_toArray, List.set_cons_zero, List.set_cons_succ, i64_w, i32_w, IntKind.wrap_u8, IntKind.wrap_u32]
                              rfl
                            refine take_ (i := 4) (N := some 48) (v := ?_) (a' := ?_) #[true, true, true, true, true, true, true, true, true, false, false, false, false] rfl rfl (take_ofW HT_.out HW_.out (by kernel_rfl)) (fun _ _ _ h => h) (Or.inl ⟨by rfl, ?_⟩) hHeld ?_ ?_
                            rotate_left
                            · rintro w' ⟨s0, s1⟩
                              go_simp
                              with_reducible rfl
                            rotate_left
                            · simp only [Act.put, List.setIfInBounds_toArray, List.set_cons_zero, List.set_cons_succ, i64_w, i32_w, IntKind.wrap_u8, IntKind.wrap_u32]
                              rfl
                            refine take_ (i := 9) (N := some 53) (v := ?_) (a' := ?_) #[true, true, true, true, true, true, true, true, true, true, false, false, false] rfl rfl (take_ofW HT_.out HW_.out (by kernel_rfl)) (fun _ _ _ h => h) (Or.inl ⟨by rfl, ?_⟩) hHeld ?_ ?_
                            rotate_left
                            · rintro w' ⟨s0, s1⟩
                              go_simp
                              with_reducible rfl
                            rotate_left
                            · simp only [Act.put, List.setIfInBounds_toArray, List.set_cons_zero, List.set_cons_succ, i64_w, i32_w, IntKind.wrap_u8, IntKind.wrap_u32]
                              rfl
                            refine one_ (i := 10) (N := some 54) #[true, true, true, true, true, true, true, true, true, true, true, false, false] rfl rfl (one_of HT_.out (by kernel_rfl)) (by decide) (fun K hK => ?_)
                            refine Kd.R_lit_step (Kd.int .u8) _ 5 ?hg (N := 54) ?hd (xs := ([rd x5_29 x8_3, rd x5_29 (ji39)] : List Int)) (inner := [.int .u8 (rd x5_29 x8_3), .int .u8 (rd x5_29 (ji39))]) (ok := fun _ => True) (okp := fun _ => True) ?hr ?hp (fun _ hk => hk) trivial (Below.refl _ _) (Nat.le_refl _) (by simp) ?_; (case hd => rfl); (case hg => rfl); (case hr => first | (go_simp; done) | (go_simp; rfl)); (case hp => exact (Reps.one (show Kd.M (Kd.int .u8) _ _ _ (rd x5_29 x8_3) [.int .u8 (rd x5_29 x8_3)] from rfl) (Reps.one (show Kd.M (Kd.int .u8) _ _ _ (rd x5_29 (ji39)) [.int .u8 (rd x5_29 (ji39))] from rfl) (Reps.none _ _))))
                            intro v137 w44 ho45 hb hg_ hnew_
                            have HS0_ := (hb.cell (World.block_lt_of_cell? _ _ (hHeld.1))).trans (hHeld.1)
                            have HS1_ := (hb.cell (World.block_lt_of_cell? _ _ (hHeld.2))).trans (hHeld.2)
                            clear hg_ hnew_
                            (first | rw [← Ny136.out] at ho45 | (simp only [Int.reduceToNat] at ho45; rw [← Ny136.out] at ho45))
                            have n0_ := Aside0.mk (Kd.R_elder' (by (with_reducible repeat (first | apply Kd.R_alloc | apply Kd.R_drewN | apply Kd.R_drew)); exact HO_5.out) (Kd.R_base ho45) hb)
                            have n1_ := Aside0.mk (Kd.R_elder' (by (with_reducible repeat (first | apply Kd.R_alloc | apply Kd.R_drewN | apply Kd.R_drew)); exact HO_7.out) (Kd.R_base ho45) hb)
                            have n2_ := Aside0.mk (Kd.R_lower (Kd.R_new' (Kd.R_new' ho45 (Kd.R_lt (by (with_reducible repeat (first | apply Kd.R_alloc | apply Kd.R_drewN | apply Kd.R_drew)); exact HO_5.out))) (Kd.R_lt (by (with_reducible repeat (first | apply Kd.R_alloc | apply Kd.R_drewN | apply Kd.R_drew)); exact HO_7.out))) (below_size (by repeat (first | (with_reducible first | exact HB.out | apply below_alloc | apply pw_below_drewN | apply below_drew1) | exact HB.out))))
                            have n3_ := Aside0.mk (below_step (by repeat (first | (with_reducible first | exact HB.out | apply below_alloc | apply pw_below_drewN | apply below_drew1) | exact HB.out)) hb)
                            clear HO_5
                            clear HO_7
                            clear HB
                            have HO_5 := n0_
                            have HO_7 := n1_
                            have HO138 := n2_
                            have HB := n3_
                            clear n0_ n1_ n2_ n3_
                            clear hb ho45
                            obtain ⟨Ao47, co47, eo47⟩ := Kd.R_slice HO138.out
                            (first | subst eo47 | (injection eo47 with f1_ f2_ f3_; have f4_ := f1_.symm; have f5_ := f3_.symm; clear f1_ f2_ f3_; subst f4_; subst f5_))
                            refine hK.out _ _ ⟨HS0_, HS1_⟩ (fun hHeld => ?_)
                            clear hK K
                            refine norm_ (a' := ?_) ?_ ?_
                            rotate_left
                            · show Act.put _ (some 54) _ = _
                              simp only [Act.put, List.setIfInBounds_toArray, List.set_cons_zero, List.set_cons_succ, i64_w, i32_w, IntKind.wrap_u8, IntKind.wrap_u32]
                              rfl
                            refine last_ (i := 11) (N := some 55) #[true, true, true, true, true, true, true, true, true, true, true, true, false] rfl rfl (one_of HT_.out (by kernel_rfl)) (by decide) (fun K hK => ?_)
                            refine Kd.R_append_rows_step (Kd.int .u8) (w0 := w) w.heap.size (by rfl) (.tmp 44) (.tmp 54) 24 5 (.int .u8 0) 1 rfl Try.underlying24 info5 rfl (by decide) (by omega) u7 x7_3 y136 _ _ _ (fun k_ => some k_ ≠ (.slice (some ad134) x5_29.length co35 : Value).ownBlock ∧ some k_ ≠ (.slice Ao47 y136.length co47 : Value).ownBlock) (fun _ => False) rfl rfl ?aO ?aR (fun _ _ h => h) (fun _ h => h.elim) ?aF ?aB ?aS ?aL ?_
                            (case aR => repeat (first | exact (Kd.R_reads' HO138.out).2.2 | (with_reducible refine Kd.C_alloc ?_ _) | (with_reducible refine Kd.C_drewN ?_ _) | (with_reducible refine Kd.C_drew ?_)))
                            (case aB => exact (by repeat (first | (with_reducible first | exact HB.out | apply below_alloc | apply pw_below_drewN | apply below_drew1) | exact HB.out)))
                            (case aF => exact (fun k_ hk => ⟨Kd.fresh' (Kd.R_lt (by (with_reducible repeat (first | apply Kd.R_alloc | apply Kd.R_drewN | apply Kd.R_drew)); exact HO_5.out)) k_ hk, Kd.fresh' (Kd.R_lt (by (with_reducible repeat (first | apply Kd.R_alloc | apply Kd.R_drewN | apply Kd.R_drew)); exact HO138.out)) k_ hk⟩))
                            (case aO => exact (by (with_reducible repeat (first | apply Kd.R_alloc | apply Kd.R_drewN | apply Kd.R_drew)); exact HO_7.out))
                            (case aS => exact (below_size (by repeat (first | (with_reducible first | exact HB.out | apply below_alloc | apply pw_below_drewN | apply below_drew1) | exact HB.out))))
                            (case aL => have := LMc42.out; omega)
                            intro v140 w46 ho hb hg hat
                            rw [← Ny139.out] at ho
                            have n0_ := Aside0.mk (Kd.R_after (ok := (fun k_ => some k_ ≠ (.slice Ao47 y136.length co47 : Value).ownBlock)) (by (with_reducible repeat (first | apply Kd.R_alloc | apply Kd.R_drewN | apply Kd.R_drew)); exact Kd.R_mono HO_5.out (fun _ hk => ⟨hk.2, hk.1⟩)) hg hat)
                            have n1_ := Aside0.mk (Kd.R_after (ok := (fun k_ => some k_ ≠ (.slice (some ad134) x5_29.length co35 : Value).ownBlock)) (by (with_reducible repeat (first | apply Kd.R_alloc | apply Kd.R_drewN | apply Kd.R_drew)); exact Kd.R_mono HO138.out (fun _ hk => ⟨hk.1.2, hk.2⟩)) hg hat)
                            have n2_ := Aside0.mk (hb)
                            have n3_ := Aside0.mk (ho)
                            clear HO_5
                            clear HO138
                            clear HB
                            clear HO_7
                            have HO_5 := n0_
                            have HO138 := n1_
                            have HB := n2_
                            have HO141 := n3_
                            clear n0_ n1_ n2_ n3_
                            clear ho hb hg hat
                            refine hK.out _ _ ?_
                            clear hK K
                            refine norm_ (a' := ?_) ?_ ?_
                            rotate_left
                            · show Act.put _ (some 55) _ = _
                              simp only [Act.put, List.setIfInBounds_toArray, List.set_cons_zero, List.set_cons_succ, i64_w, i32_w, IntKind.wrap_u8, IntKind.wrap_u32]
                              rfl
                            refine pure_ (i := 12) (N := some 7) (v := ?_) (a' := ?_) #[true, true, true, true, true, true, true, true, true, true, true, true, true] rfl rfl (any_of HT_.out (by kernel_rfl)) (fun _ _ _ h => h) (Or.inl ⟨by rfl, ?_⟩) ?_ ?_
                            rotate_left
                            · intro w'
                              go_simp
                              with_reducible rfl
                            rotate_left
                            · simp only [Act.put, List.setIfInBounds_toArray, List.set_cons_zero, List.set_cons_succ, i64_w, i32_w, IntKind.wrap_u8, IntKind.wrap_u32]
                              rfl
                            refine done_ (done_of HT_.out (by kernel_rfl)) ?_
                            try go_wp2
                            go_roundg k3
                            case measure => have := HJ4.out; have := HJ29.out; have := HK3.out; omega
                            case rel => exact ⟨(y139), (wrap64 (x8_3 - 2)), (by first | rfl | (simp; done) | (simp [*]; done)), H', ⟨by have := HJ4.out; have := HJ29.out; have := HK3.out; omega⟩, ⟨by (with_reducible repeat (first | apply Kd.R_alloc | apply Kd.R_drewN | apply Kd.R_drew)); exact Kd.R_mono HO_5.out (fun _ hk => hk.2)⟩, ⟨by (with_reducible repeat (first | apply Kd.R_alloc | apply Kd.R_drewN | apply Kd.R_drew)); exact Kd.R_mono HO141.out (fun _ hk => hk.1)⟩, ⟨by repeat (first | (with_reducible first | exact HB.out | apply below_alloc | apply pw_below_drewN | apply below_drew1) | exact HB.out)⟩⟩
                          · rw [if_neg c42] at H
                            exact absurd H (by simp)
                        · rw [if_neg c41] at H
                          exact absurd H (by simp)
                      · rw [if_neg c40] at H
                        exact absurd H (by simp)
                    · rw [if_neg c38] at H
                      exact absurd H (by simp)
                  · rw [if_neg c37] at H
                    exact absurd H (by simp)
                · rw [if_neg c36] at H
                  have c36b0 : decide (0 ≤ x8_3) = false := decide_eq_false c36
                  clear c36
                  have HC48 := Aside0.mk H
                  clear H
                  go_upto_region 12 with (fail)
                  go_cut [79] (fun v79 wc => ∃ (kq : Nat) (x79_47 : Bool), v79 = .bool x79_47 ∧ Aside0 (weftlaw3_Ip4SumJoins.j3 kq a1 x5_29 t113 x79_47 = some r) ∧ Aside0 (kq ≤ k3) ∧ Aside0 (Kd.R (Kd.int .u8) 5 wc w.heap.size (fun _ => True) (.slice Ao35 x5_29.length co35) x5_29) ∧ Aside0 (Below w.heap.size w wc))
                  case first =>
                    have H := HC48.out
                    clear HC48
                    obtain ⟨y142, hy142⟩ : ∃ y_ : List (List Int), y_ = (([x5_29] : List (List Int))) := ⟨_, rfl⟩
                    replace H : ((ip4_Sum.f k3 y142).bind fun t146 => (if t146 = t113 then ((ip4_Sum.f k3 (([x7_3] : List (List Int)))).bind fun t151 => (if t151 = t113 then ((ip4_Sum.f k3 (([x5_29, (([(t113 / 256) % 256, (t113) % 256] : List Int))] : List (List Int)))).bind fun t159 => (weftlaw3_Ip4SumJoins.j3 k3 a1 x5_29 t113 (t159 != 0))) else (weftlaw3_Ip4SumJoins.j3 k3 a1 x5_29 t113 true))) else (weftlaw3_Ip4SumJoins.j3 k3 a1 x5_29 t113 true))) = some r := by first | (rw [hy142]; with_reducible exact H) | (have H2_ := (Option.bind_some _ _).symm.trans H; rw [hy142]; with_reducible exact H2_) | (have H2_ := (Option.bind_some _ _).symm.trans H; with_reducible exact H2_) | with_reducible exact H | (rw [hy142]; exact H) | exact H
                    have Ny142 := Aside0.mk hy142
                    clear hy142
                    replace H := Option.bind_eq_some_iff.mp H
                    obtain ⟨t146, A490, H⟩ := H
                    replace H : (if t146 = t113 then ((ip4_Sum.f k3 (([x7_3] : List (List Int)))).bind fun t151 => (if t151 = t113 then ((ip4_Sum.f k3 (([x5_29, (([(t113 / 256) % 256, (t113) % 256] : List Int))] : List (List Int)))).bind fun t159 => (weftlaw3_Ip4SumJoins.j3 k3 a1 x5_29 t113 (t159 != 0))) else (weftlaw3_Ip4SumJoins.j3 k3 a1 x5_29 t113 true))) else (weftlaw3_Ip4SumJoins.j3 k3 a1 x5_29 t113 true)) = some r := H
                    have A49 := Aside0.mk A490
                    clear A490
                    by_cases c50 : t146 = t113
                    · rw [if_pos c50] at H
                      have c50b0 : (t146 == t113) = true := beq_iff_eq.mpr c50
                      have c50b1 : (t146 != t113) = false := bne_eq_false_iff_eq.mpr c50
                      clear c50
                      (first | rw [c50b0] | (simp only [i64_w, i32_w]; rw [c50b0]) | skip)
                      obtain ⟨y147, hy147⟩ : ∃ y_ : List (List Int), y_ = (([x7_3] : List (List Int))) := ⟨_, rfl⟩
                      replace H : ((ip4_Sum.f k3 y147).bind fun t151 => (if t151 = t113 then ((ip4_Sum.f k3 (([x5_29, (([(t113 / 256) % 256, (t113) % 256] : List Int))] : List (List Int)))).bind fun t159 => (weftlaw3_Ip4SumJoins.j3 k3 a1 x5_29 t113 (t159 != 0))) else (weftlaw3_Ip4SumJoins.j3 k3 a1 x5_29 t113 true))) = some r := by first | (rw [hy147]; with_reducible exact H) | (have H2_ := (Option.bind_some _ _).symm.trans H; rw [hy147]; with_reducible exact H2_) | (have H2_ := (Option.bind_some _ _).symm.trans H; with_reducible exact H2_) | with_reducible exact H | (rw [hy147]; exact H) | exact H
                      have Ny147 := Aside0.mk hy147
                      clear hy147
                      replace H := Option.bind_eq_some_iff.mp H
                      obtain ⟨t151, A510, H⟩ := H
                      replace H : (if t151 = t113 then ((ip4_Sum.f k3 (([x5_29, (([(t113 / 256) % 256, (t113) % 256] : List Int))] : List (List Int)))).bind fun t159 => (weftlaw3_Ip4SumJoins.j3 k3 a1 x5_29 t113 (t159 != 0))) else (weftlaw3_Ip4SumJoins.j3 k3 a1 x5_29 t113 true)) = some r := H
                      have A51 := Aside0.mk A510
                      clear A510
                      by_cases c52 : t151 = t113
                      · rw [if_pos c52] at H
                        have c52b0 : (t151 == t113) = true := beq_iff_eq.mpr c52
                        have c52b1 : (t151 != t113) = false := bne_eq_false_iff_eq.mpr c52
                        clear c52
                        obtain ⟨y152, hy152⟩ : ∃ y_ : List Int, y_ = (([(t113 / 256) % 256, (t113) % 256] : List Int)) := ⟨_, rfl⟩
                        replace H : ((ip4_Sum.f k3 (([x5_29, y152] : List (List Int)))).bind fun t159 => (weftlaw3_Ip4SumJoins.j3 k3 a1 x5_29 t113 (t159 != 0))) = some r := by first | (rw [hy152]; with_reducible exact H) | (have H2_ := (Option.bind_some _ _).symm.trans H; rw [hy152]; with_reducible exact H2_) | (have H2_ := (Option.bind_some _ _).symm.trans H; with_reducible exact H2_) | with_reducible exact H | (rw [hy152]; exact H) | exact H
                        have Ny152 := Aside0.mk hy152
                        clear hy152
                        obtain ⟨y155, hy155⟩ : ∃ y_ : List (List Int), y_ = (([x5_29, y152] : List (List Int))) := ⟨_, rfl⟩
                        replace H : ((ip4_Sum.f k3 y155).bind fun t159 => (weftlaw3_Ip4SumJoins.j3 k3 a1 x5_29 t113 (t159 != 0))) = some r := by first | (rw [hy155]; with_reducible exact H) | (have H2_ := (Option.bind_some _ _).symm.trans H; rw [hy155]; with_reducible exact H2_) | (have H2_ := (Option.bind_some _ _).symm.trans H; with_reducible exact H2_) | with_reducible exact H | (rw [hy155]; exact H) | exact H
                        have Ny155 := Aside0.mk hy155
                        clear hy155
                        replace H := Option.bind_eq_some_iff.mp H
                        obtain ⟨t159, A530, H⟩ := H
                        replace H : (weftlaw3_Ip4SumJoins.j3 k3 a1 x5_29 t113 (t159 != 0)) = some r := H
                        have A53 := Aside0.mk A530
                        clear A530
                        have H' := Aside0.mk H
                        clear H
                        go_wp2_with (first | ((with_reducible refine gate_dst (N := 57) rfl ?_); (try (refine gate_guard (by rfl) ?_; dsimp only)); refine lits_event (Kd.slice 5 (Kd.int .u8)) 24 ?hg (N := 57) ?hd (xs := ([x5_29] : List (List Int))) (inner := [.slice Ao35 x5_29.length co35]) ?hr ?hp (by simp) ?_; (case hd => rfl); (case hg => rfl); (case hr => first | (go_simp; done) | (go_simp; rfl)); (case hp => exact (Reps.one (show Kd.K (Kd.slice 5 (Kd.int .u8)) _ x5_29 [.slice Ao35 x5_29.length co35] from by refine ⟨_, _, rfl, ?_, ?_⟩; (· exact (Kd.R_reads' HO_5.out).2.1); (· repeat (first | exact (Kd.R_reads' HO_5.out).2.2 | (with_reducible refine Kd.C_alloc ?_ _) | (with_reducible refine Kd.C_drewN ?_ _) | (with_reducible refine Kd.C_drew ?_)))) (Reps.none _ _))); intro v55_ w54 hL_ hb; (first | rw [← Ny142.out] at hL_ | (simp only [Int.reduceToNat] at hL_; rw [← Ny142.out] at hL_)); obtain ⟨A55, c55, rfl, hlr_, hlc_⟩ := hL_; have n0_ := Aside0.mk (Kd.R_below (by (with_reducible repeat (first | apply Kd.R_alloc | apply Kd.R_drewN | apply Kd.R_drew)); exact HO_5.out) hb); have n1_ := Aside0.mk (Kd.R_below (by (with_reducible repeat (first | apply Kd.R_alloc | apply Kd.R_drewN | apply Kd.R_drew)); exact HO_7.out) hb); have n2_ := Aside0.mk (below_step (by repeat (first | (with_reducible first | exact HB.out | apply below_alloc | apply pw_below_drewN | apply below_drew1) | exact HB.out)) hb); have n3_ := Aside0.mk (hlc_); have n4_ := Aside0.mk (hlr_); clear HO_5; clear HO_7; clear HB; have HO_5 := n0_; have HO_7 := n1_; have HB := n2_; have HR145 := n3_; have HC145 := n4_; clear n0_ n1_ n2_ n3_ n4_; clear hb hlr_ hlc_) | ((with_reducible refine gate_callee (f := 16) rfl ?_); refine goesL_ (some 58) rfl rfl Try.func16 (by kernel_rfl) rfl #[.slice A55 y142.length c55] rfl (by (try simp only [List.map_toArray, List.map_cons, List.map_nil]); first | done | rfl | (simp only [List.length_drop, List.length_take]; rfl)) ?_; (with_reducible refine (ip4_Sum.calls k3 _ _ y142 t146 _ ?side1 ?side2 A49.out).mono ?_); (case side1 => repeat (first | exact (by repeat (first | (with_reducible exact HR145.out) | (with_reducible refine Kd.C_alloc ?_ _) | (with_reducible refine Kd.C_drewN ?_ _) | (with_reducible refine Kd.C_drew ?_) | exact HR145.out)) | (with_reducible refine Kd.C_alloc ?_ _) | (with_reducible refine Kd.C_drewN ?_ _) | (with_reducible refine Kd.C_drew ?_))); (case side2 => exact HC145.out); rintro e w' ⟨rfl, ⟨nd, rfl⟩⟩; refine ⟨_, rfl, ?_⟩; obtain ⟨Ao56, co56, eo56⟩ := Kd.R_slice HO_7.out; subst eo56) | ((with_reducible refine gate_dst (N := 63) rfl ?_); (try (refine gate_guard (by rfl) ?_; dsimp only)); refine lits_event (Kd.slice 5 (Kd.int .u8)) 24 ?hg (N := 63) ?hd (xs := ([x7_3] : List (List Int))) (inner := [.slice Ao56 x7_3.length co56]) ?hr ?hp (by simp) ?_; (case hd => rfl); (case hg => rfl); (case hr => first | (go_simp; done) | (go_simp; rfl)); (case hp => exact (Reps.one (show Kd.K (Kd.slice 5 (Kd.int .u8)) _ x7_3 [.slice Ao56 x7_3.length co56] from by refine ⟨_, _, rfl, ?_, ?_⟩; (· exact (Kd.R_reads' HO_7.out).2.1); (· repeat (first | exact (Kd.R_reads' HO_7.out).2.2 | (with_reducible refine Kd.C_alloc ?_ _) | (with_reducible refine Kd.C_drewN ?_ _) | (with_reducible refine Kd.C_drew ?_)))) (Reps.none _ _))); intro v58_ w57 hL_ hb; (first | rw [← Ny147.out] at hL_ | (simp only [Int.reduceToNat] at hL_; rw [← Ny147.out] at hL_)); obtain ⟨A58, c58, rfl, hlr_, hlc_⟩ := hL_; have n0_ := Aside0.mk (Kd.R_below (by (with_reducible repeat (first | apply Kd.R_alloc | apply Kd.R_drewN | apply Kd.R_drew)); exact HO_5.out) hb); have n1_ := Aside0.mk (Kd.R_below (by (with_reducible repeat (first | apply Kd.R_alloc | apply Kd.R_drewN | apply Kd.R_drew)); exact HO_7.out) hb); have n2_ := Aside0.mk (below_step (by repeat (first | (with_reducible first | exact HB.out | apply below_alloc | apply pw_below_drewN | apply below_drew1) | exact HB.out)) hb); have n3_ := Aside0.mk (hlc_); have n4_ := Aside0.mk (hlr_); clear HO_5; clear HO_7; clear HB; have HO_5 := n0_; have HO_7 := n1_; have HB := n2_; have HR150 := n3_; have HC150 := n4_; clear n0_ n1_ n2_ n3_ n4_; clear hb hlr_ hlc_) | (go_at_call 16; (with_reducible refine (ip4_Sum.calls k3 _ _ y147 t151 _ ?side1 ?side2 A51.out).mono ?_); (case side1 => repeat (first | exact (by repeat (first | (with_reducible exact HR150.out) | (with_reducible refine Kd.C_alloc ?_ _) | (with_reducible refine Kd.C_drewN ?_ _) | (with_reducible refine Kd.C_drew ?_) | exact HR150.out)) | (with_reducible refine Kd.C_alloc ?_ _) | (with_reducible refine Kd.C_drewN ?_ _) | (with_reducible refine Kd.C_drew ?_))); (case side2 => exact HC150.out); rintro e w' ⟨rfl, ⟨nd, rfl⟩⟩) | ((with_reducible refine gate_dst (N := 75) rfl ?_); (try (refine gate_guard (by rfl) ?_; dsimp only)); refine Kd.R_lit (Kd.int .u8) _ 5 ?hg (N := 75) ?hd (xs := ([(t113 / 256) % 256, (t113) % 256] : List Int)) (inner := [.int .u8 ((t113 / 256) % 256), .int .u8 ((t113) % 256)]) (ok := fun _ => True) (okp := fun _ => True) ?hr ?hp (fun _ hk => hk) trivial (Below.refl _ _) (Nat.le_refl _) (by simp) ?_; (case hd => rfl); (case hg => rfl); (case hr => first | (go_simp; done) | (go_simp; rfl)); (case hp => exact (Reps.one (show Kd.M (Kd.int .u8) _ _ _ ((t113 / 256) % 256) [.int .u8 ((t113 / 256) % 256)] from rfl) (Reps.one (show Kd.M (Kd.int .u8) _ _ _ ((t113) % 256) [.int .u8 ((t113) % 256)] from rfl) (Reps.none _ _)))); intro v153 w59 ho60 hb hg_ hnew_; clear hg_ hnew_; (first | rw [← Ny152.out] at ho60 | (simp only [Int.reduceToNat] at ho60; rw [← Ny152.out] at ho60)); have n0_ := Aside0.mk (Kd.R_elder' (by (with_reducible repeat (first | apply Kd.R_alloc | apply Kd.R_drewN | apply Kd.R_drew)); exact HO_5.out) (Kd.R_base ho60) hb); have n1_ := Aside0.mk (Kd.R_elder' (by (with_reducible repeat (first | apply Kd.R_alloc | apply Kd.R_drewN | apply Kd.R_drew)); exact HO_7.out) (Kd.R_base ho60) hb); have n2_ := Aside0.mk (Kd.R_lower (Kd.R_new' (Kd.R_new' ho60 (Kd.R_lt (by (with_reducible repeat (first | apply Kd.R_alloc | apply Kd.R_drewN | apply Kd.R_drew)); exact HO_5.out))) (Kd.R_lt (by (with_reducible repeat (first | apply Kd.R_alloc | apply Kd.R_drewN | apply Kd.R_drew)); exact HO_7.out))) (below_size (by repeat (first | (with_reducible first | exact HB.out | apply below_alloc | apply pw_below_drewN | apply below_drew1) | exact HB.out)))); have n3_ := Aside0.mk (below_step (by repeat (first | (with_reducible first | exact HB.out | apply below_alloc | apply pw_below_drewN | apply below_drew1) | exact HB.out)) hb); clear HO_5; clear HO_7; clear HB; have HO_5 := n0_; have HO_7 := n1_; have HO154 := n2_; have HB := n3_; clear n0_ n1_ n2_ n3_; clear hb ho60; obtain ⟨Ao61, co61, eo61⟩ := Kd.R_slice HO154.out; subst eo61) | ((with_reducible refine gate_dst (N := 76) rfl ?_); (try (refine gate_guard (by rfl) ?_; dsimp only)); refine lits_event (Kd.slice 5 (Kd.int .u8)) 24 ?hg (N := 76) ?hd (xs := ([x5_29, y152] : List (List Int))) (inner := [.slice Ao35 x5_29.length co35, .slice Ao61 y152.length co61]) ?hr ?hp (by simp) ?_; (case hd => rfl); (case hg => rfl); (case hr => first | (go_simp; done) | (go_simp; rfl)); (case hp => exact (Reps.one (show Kd.K (Kd.slice 5 (Kd.int .u8)) _ x5_29 [.slice Ao35 x5_29.length co35] from by refine ⟨_, _, rfl, ?_, ?_⟩; (· exact (Kd.R_reads' HO_5.out).2.1); (· repeat (first | exact (Kd.R_reads' HO_5.out).2.2 | (with_reducible refine Kd.C_alloc ?_ _) | (with_reducible refine Kd.C_drewN ?_ _) | (with_reducible refine Kd.C_drew ?_)))) (Reps.one (show Kd.K (Kd.slice 5 (Kd.int .u8)) _ y152 [.slice Ao61 y152.length co61] from by refine ⟨_, _, rfl, ?_, ?_⟩; (· exact (Kd.R_reads' HO154.out).2.1); (· repeat (first | exact (Kd.R_reads' HO154.out).2.2 | (with_reducible refine Kd.C_alloc ?_ _) | (with_reducible refine Kd.C_drewN ?_ _) | (with_reducible refine Kd.C_drew ?_)))) (Reps.none _ _)))); intro v63_ w62 hL_ hb; (first | rw [← Ny155.out] at hL_ | (simp only [Int.reduceToNat] at hL_; rw [← Ny155.out] at hL_)); obtain ⟨A63, c63, rfl, hlr_, hlc_⟩ := hL_; have n0_ := Aside0.mk (Kd.R_below (by (with_reducible repeat (first | apply Kd.R_alloc | apply Kd.R_drewN | apply Kd.R_drew)); exact HO_5.out) hb); have n1_ := Aside0.mk (Kd.R_below (by (with_reducible repeat (first | apply Kd.R_alloc | apply Kd.R_drewN | apply Kd.R_drew)); exact HO_7.out) hb); have n2_ := Aside0.mk (Kd.R_below (by (with_reducible repeat (first | apply Kd.R_alloc | apply Kd.R_drewN | apply Kd.R_drew)); exact HO154.out) hb); have n3_ := Aside0.mk (below_step (by repeat (first | (with_reducible first | exact HB.out | apply below_alloc | apply pw_below_drewN | apply below_drew1) | exact HB.out)) hb); have n4_ := Aside0.mk (hlc_); have n5_ := Aside0.mk (hlr_); clear HO_5; clear HO_7; clear HO154; clear HB; have HO_5 := n0_; have HO_7 := n1_; have HO154 := n2_; have HB := n3_; have HR158 := n4_; have HC158 := n5_; clear n0_ n1_ n2_ n3_ n4_ n5_; clear hb hlr_ hlc_) | (go_at_call 16; (with_reducible refine (ip4_Sum.calls k3 _ _ y155 t159 _ ?side1 ?side2 A53.out).mono ?_); (case side1 => repeat (first | exact (by repeat (first | (with_reducible exact HR158.out) | (with_reducible refine Kd.C_alloc ?_ _) | (with_reducible refine Kd.C_drewN ?_ _) | (with_reducible refine Kd.C_drew ?_) | exact HR158.out)) | (with_reducible refine Kd.C_alloc ?_ _) | (with_reducible refine Kd.C_drewN ?_ _) | (with_reducible refine Kd.C_drew ?_))); (case side2 => exact HC158.out); rintro e w' ⟨rfl, ⟨nd, rfl⟩⟩))
                        go_meet
                        case rel => exact ⟨_, ((t159 != 0)), (by first | rfl | (simp; done) | (simp [*]; done)), H', ⟨by have := HJ4.out; have := HJ29.out; have := HK3.out; first | omega | exact Nat.le_refl _⟩, ⟨by (with_reducible repeat (first | apply Kd.R_alloc | apply Kd.R_drewN | apply Kd.R_drew)); exact Kd.R_mono HO_5.out (fun _ hk => trivial)⟩, ⟨by repeat (first | (with_reducible first | exact HB.out | apply below_alloc | apply pw_below_drewN | apply below_drew1) | exact HB.out)⟩⟩
                      · rw [if_neg c52] at H
                        have c52b0 : (t151 == t113) = false := beq_eq_false_iff_ne.mpr c52
                        have c52b1 : (t151 != t113) = true := bne_iff_ne.mpr c52
                        have H' := Aside0.mk H
                        clear H
                        go_wp2_with (first | ((with_reducible refine gate_dst (N := 57) rfl ?_); (try (refine gate_guard (by rfl) ?_; dsimp only)); refine lits_event (Kd.slice 5 (Kd.int .u8)) 24 ?hg (N := 57) ?hd (xs := ([x5_29] : List (List Int))) (inner := [.slice Ao35 x5_29.length co35]) ?hr ?hp (by simp) ?_; (case hd => rfl); (case hg => rfl); (case hr => first | (go_simp; done) | (go_simp; rfl)); (case hp => exact (Reps.one (show Kd.K (Kd.slice 5 (Kd.int .u8)) _ x5_29 [.slice Ao35 x5_29.length co35] from by refine ⟨_, _, rfl, ?_, ?_⟩; (· exact (Kd.R_reads' HO_5.out).2.1); (· repeat (first | exact (Kd.R_reads' HO_5.out).2.2 | (with_reducible refine Kd.C_alloc ?_ _) | (with_reducible refine Kd.C_drewN ?_ _) | (with_reducible refine Kd.C_drew ?_)))) (Reps.none _ _))); intro v65_ w64 hL_ hb; (first | rw [← Ny142.out] at hL_ | (simp only [Int.reduceToNat] at hL_; rw [← Ny142.out] at hL_)); obtain ⟨A65, c65, rfl, hlr_, hlc_⟩ := hL_; have n0_ := Aside0.mk (Kd.R_below (by (with_reducible repeat (first | apply Kd.R_alloc | apply Kd.R_drewN | apply Kd.R_drew)); exact HO_5.out) hb); have n1_ := Aside0.mk (Kd.R_below (by (with_reducible repeat (first | apply Kd.R_alloc | apply Kd.R_drewN | apply Kd.R_drew)); exact HO_7.out) hb); have n2_ := Aside0.mk (below_step (by repeat (first | (with_reducible first | exact HB.out | apply below_alloc | apply pw_below_drewN | apply below_drew1) | exact HB.out)) hb); have n3_ := Aside0.mk (hlc_); have n4_ := Aside0.mk (hlr_); clear HO_5; clear HO_7; clear HB; have HO_5 := n0_; have HO_7 := n1_; have HB := n2_; have HR145 := n3_; have HC145 := n4_; clear n0_ n1_ n2_ n3_ n4_; clear hb hlr_ hlc_) | ((with_reducible refine gate_callee (f := 16) rfl ?_); refine goesL_ (some 58) rfl rfl Try.func16 (by kernel_rfl) rfl #[.slice A65 y142.length c65] rfl (by (try simp only [List.map_toArray, List.map_cons, List.map_nil]); first | done | rfl | (simp only [List.length_drop, List.length_take]; rfl)) ?_; (with_reducible refine (ip4_Sum.calls k3 _ _ y142 t146 _ ?side1 ?side2 A49.out).mono ?_); (case side1 => repeat (first | exact (by repeat (first | (with_reducible exact HR145.out) | (with_reducible refine Kd.C_alloc ?_ _) | (with_reducible refine Kd.C_drewN ?_ _) | (with_reducible refine Kd.C_drew ?_) | exact HR145.out)) | (with_reducible refine Kd.C_alloc ?_ _) | (with_reducible refine Kd.C_drewN ?_ _) | (with_reducible refine Kd.C_drew ?_))); (case side2 => exact HC145.out); rintro e w' ⟨rfl, ⟨nd, rfl⟩⟩; refine ⟨_, rfl, ?_⟩; obtain ⟨Ao66, co66, eo66⟩ := Kd.R_slice HO_7.out; subst eo66) | ((with_reducible refine gate_dst (N := 63) rfl ?_); (try (refine gate_guard (by rfl) ?_; dsimp only)); refine lits_event (Kd.slice 5 (Kd.int .u8)) 24 ?hg (N := 63) ?hd (xs := ([x7_3] : List (List Int))) (inner := [.slice Ao66 x7_3.length co66]) ?hr ?hp (by simp) ?_; (case hd => rfl); (case hg => rfl); (case hr => first | (go_simp; done) | (go_simp; rfl)); (case hp => exact (Reps.one (show Kd.K (Kd.slice 5 (Kd.int .u8)) _ x7_3 [.slice Ao66 x7_3.length co66] from by refine ⟨_, _, rfl, ?_, ?_⟩; (· exact (Kd.R_reads' HO_7.out).2.1); (· repeat (first | exact (Kd.R_reads' HO_7.out).2.2 | (with_reducible refine Kd.C_alloc ?_ _) | (with_reducible refine Kd.C_drewN ?_ _) | (with_reducible refine Kd.C_drew ?_)))) (Reps.none _ _))); intro v68_ w67 hL_ hb; (first | rw [← Ny147.out] at hL_ | (simp only [Int.reduceToNat] at hL_; rw [← Ny147.out] at hL_)); obtain ⟨A68, c68, rfl, hlr_, hlc_⟩ := hL_; have n0_ := Aside0.mk (Kd.R_below (by (with_reducible repeat (first | apply Kd.R_alloc | apply Kd.R_drewN | apply Kd.R_drew)); exact HO_5.out) hb); have n1_ := Aside0.mk (Kd.R_below (by (with_reducible repeat (first | apply Kd.R_alloc | apply Kd.R_drewN | apply Kd.R_drew)); exact HO_7.out) hb); have n2_ := Aside0.mk (below_step (by repeat (first | (with_reducible first | exact HB.out | apply below_alloc | apply pw_below_drewN | apply below_drew1) | exact HB.out)) hb); have n3_ := Aside0.mk (hlc_); have n4_ := Aside0.mk (hlr_); clear HO_5; clear HO_7; clear HB; have HO_5 := n0_; have HO_7 := n1_; have HB := n2_; have HR150 := n3_; have HC150 := n4_; clear n0_ n1_ n2_ n3_ n4_; clear hb hlr_ hlc_) | (go_at_call 16; (with_reducible refine (ip4_Sum.calls k3 _ _ y147 t151 _ ?side1 ?side2 A51.out).mono ?_); (case side1 => repeat (first | exact (by repeat (first | (with_reducible exact HR150.out) | (with_reducible refine Kd.C_alloc ?_ _) | (with_reducible refine Kd.C_drewN ?_ _) | (with_reducible refine Kd.C_drew ?_) | exact HR150.out)) | (with_reducible refine Kd.C_alloc ?_ _) | (with_reducible refine Kd.C_drewN ?_ _) | (with_reducible refine Kd.C_drew ?_))); (case side2 => exact HC150.out); rintro e w' ⟨rfl, ⟨nd, rfl⟩⟩))
                        go_meet
                        case rel => exact ⟨_, (true), (by first | rfl | (simp; done) | (simp [*]; done)), H', ⟨by have := HJ4.out; have := HJ29.out; have := HK3.out; first | omega | exact Nat.le_refl _⟩, ⟨by (with_reducible repeat (first | apply Kd.R_alloc | apply Kd.R_drewN | apply Kd.R_drew)); exact Kd.R_mono HO_5.out (fun _ hk => trivial)⟩, ⟨by repeat (first | (with_reducible first | exact HB.out | apply below_alloc | apply pw_below_drewN | apply below_drew1) | exact HB.out)⟩⟩
                    · rw [if_neg c50] at H
                      have c50b0 : (t146 == t113) = false := beq_eq_false_iff_ne.mpr c50
                      have c50b1 : (t146 != t113) = true := bne_iff_ne.mpr c50
                      (first | rw [c50b0] | (simp only [i64_w, i32_w]; rw [c50b0]) | skip)
                      have H' := Aside0.mk H
                      clear H
                      go_wp2_with (first | ((with_reducible refine gate_dst (N := 57) rfl ?_); (try (refine gate_guard (by rfl) ?_; dsimp only)); refine lits_event (Kd.slice 5 (Kd.int .u8)) 24 ?hg (N := 57) ?hd (xs := ([x5_29] : List (List Int))) (inner := [.slice Ao35 x5_29.length co35]) ?hr ?hp (by simp) ?_; (case hd => rfl); (case hg => rfl); (case hr => first | (go_simp; done) | (go_simp; rfl)); (case hp => exact (Reps.one (show Kd.K (Kd.slice 5 (Kd.int .u8)) _ x5_29 [.slice Ao35 x5_29.length co35] from by refine ⟨_, _, rfl, ?_, ?_⟩; (· exact (Kd.R_reads' HO_5.out).2.1); (· repeat (first | exact (Kd.R_reads' HO_5.out).2.2 | (with_reducible refine Kd.C_alloc ?_ _) | (with_reducible refine Kd.C_drewN ?_ _) | (with_reducible refine Kd.C_drew ?_)))) (Reps.none _ _))); intro v70_ w69 hL_ hb; (first | rw [← Ny142.out] at hL_ | (simp only [Int.reduceToNat] at hL_; rw [← Ny142.out] at hL_)); obtain ⟨A70, c70, rfl, hlr_, hlc_⟩ := hL_; have n0_ := Aside0.mk (Kd.R_below (by (with_reducible repeat (first | apply Kd.R_alloc | apply Kd.R_drewN | apply Kd.R_drew)); exact HO_5.out) hb); have n1_ := Aside0.mk (Kd.R_below (by (with_reducible repeat (first | apply Kd.R_alloc | apply Kd.R_drewN | apply Kd.R_drew)); exact HO_7.out) hb); have n2_ := Aside0.mk (below_step (by repeat (first | (with_reducible first | exact HB.out | apply below_alloc | apply pw_below_drewN | apply below_drew1) | exact HB.out)) hb); have n3_ := Aside0.mk (hlc_); have n4_ := Aside0.mk (hlr_); clear HO_5; clear HO_7; clear HB; have HO_5 := n0_; have HO_7 := n1_; have HB := n2_; have HR145 := n3_; have HC145 := n4_; clear n0_ n1_ n2_ n3_ n4_; clear hb hlr_ hlc_) | ((with_reducible refine gate_callee (f := 16) rfl ?_); refine goesL_ (some 58) rfl rfl Try.func16 (by kernel_rfl) rfl #[.slice A70 y142.length c70] rfl (by (try simp only [List.map_toArray, List.map_cons, List.map_nil]); first | done | rfl | (simp only [List.length_drop, List.length_take]; rfl)) ?_; (with_reducible refine (ip4_Sum.calls k3 _ _ y142 t146 _ ?side1 ?side2 A49.out).mono ?_); (case side1 => repeat (first | exact (by repeat (first | (with_reducible exact HR145.out) | (with_reducible refine Kd.C_alloc ?_ _) | (with_reducible refine Kd.C_drewN ?_ _) | (with_reducible refine Kd.C_drew ?_) | exact HR145.out)) | (with_reducible refine Kd.C_alloc ?_ _) | (with_reducible refine Kd.C_drewN ?_ _) | (with_reducible refine Kd.C_drew ?_))); (case side2 => exact HC145.out); rintro e w' ⟨rfl, ⟨nd, rfl⟩⟩; refine ⟨_, rfl, ?_⟩))
                      go_meet
                      case rel => exact ⟨_, (true), (by first | rfl | (simp; done) | (simp [*]; done)), H', ⟨by have := HJ4.out; have := HJ29.out; have := HK3.out; first | omega | exact Nat.le_refl _⟩, ⟨by (with_reducible repeat (first | apply Kd.R_alloc | apply Kd.R_drewN | apply Kd.R_drew)); exact Kd.R_mono HO_5.out (fun _ hk => trivial)⟩, ⟨by repeat (first | (with_reducible first | exact HB.out | apply below_alloc | apply pw_below_drewN | apply below_drew1) | exact HB.out)⟩⟩
                  case rest =>
                    clear HC48
                    try clear c1
                    try clear p1
                    try clear q1
                    try clear hx1
                    try clear c2
                    try clear p2
                    try clear c3
                    try clear c4
                    try clear p4
                    try clear c5
                    try clear c6
                    try clear p6
                    try clear c7
                    try clear c8
                    try clear c8b0
                    try clear c8b1
                    try clear c10
                    try clear c10b0
                    try clear c10b1
                    try clear p13
                    try clear q13
                    try clear hx13
                    try clear c14
                    try clear c15
                    try clear c16
                    try clear c22
                    try clear c25
                    try clear c28
                    try clear c29
                    try clear c32
                    try clear c32b0
                    try clear c32b1
                    try clear c33
                    try clear c36
                    try clear c36b0
                    try clear c37
                    try clear c37b0
                    try clear c38
                    try clear c38b0
                    try clear c40
                    try clear c40b0
                    try clear c41
                    try clear c41b0
                    try clear c42
                    try clear c50
                    try clear c50b0
                    try clear c50b1
                    try clear c52
                    try clear c52b0
                    try clear c52b1
                    try clear c55
                    try clear c58
                    try clear c63
                    try clear p64
                    try clear c65
                    try clear c68
                    try clear c70
                    try clear hx134_0
                    try clear hx135_0
                    try clear p134
                    try clear p135
                    try clear p2
                    try clear p4
                    try clear p6
                    try clear q134
                    try clear q135
                    obtain ⟨kq, x79_47, rfl, HA, HJ47, HO_5, HB⟩ := hcut
                    cases kq with
                    | zero => exact absurd HA.out (by simp [weftlaw3_Ip4SumJoins.j3])
                    | succ kj47 =>
                      have H := HA.out
                      clear HA
                      simp only [weftlaw3_Ip4SumJoins.j3] at H
                      by_cases c71 : x79_47 = true
                      · subst c71
                        have H1 : (some false) = some r := by rw [if_pos rfl] at H; exact H
                        clear H
                        have H := H1
                        clear H1
                        obtain rfl := Option.some.inj H
                        go_wp2
                        go_ret
                        exact ⟨by first | rfl | (simp [errW_none, errW_some] <;> rfl) | (simp [*, errW_none, errW_some] <;> rfl), by repeat (first | (with_reducible first | exact HB.out | apply below_alloc | apply pw_below_drewN | apply below_drew1) | exact HB.out)⟩
                      · replace c71 := Bool.eq_false_iff.mpr c71
                        subst c71
                        have H1 : ((ip4_Sum.f kj47 (([x5_29, (([(a1 / 256) % 256, (a1) % 256] : List Int))] : List (List Int)))).bind fun t167 => (if a1 = 0 then (some (t167 == t113)) else (if a1 = 65535 then (if t167 = t113 then (some true) else (if t113 = 65535 then (some (t167 == 0)) else (some false))) else (some (t167 != t113))))) = some r := by rw [if_neg (show ¬ (false = true) by decide)] at H; exact H
                        clear H
                        have H := H1
                        clear H1
                        obtain ⟨y160, hy160⟩ : ∃ y_ : List Int, y_ = (([(a1 / 256) % 256, (a1) % 256] : List Int)) := ⟨_, rfl⟩
                        replace H : ((ip4_Sum.f kj47 (([x5_29, y160] : List (List Int)))).bind fun t167 => (if a1 = 0 then (some (t167 == t113)) else (if a1 = 65535 then (if t167 = t113 then (some true) else (if t113 = 65535 then (some (t167 == 0)) else (some false))) else (some (t167 != t113))))) = some r := by first | (rw [hy160]; with_reducible exact H) | (have H2_ := (Option.bind_some _ _).symm.trans H; rw [hy160]; with_reducible exact H2_) | (have H2_ := (Option.bind_some _ _).symm.trans H; with_reducible exact H2_) | with_reducible exact H | (rw [hy160]; exact H) | exact H
                        have Ny160 := Aside0.mk hy160
                        clear hy160
                        obtain ⟨y163, hy163⟩ : ∃ y_ : List (List Int), y_ = (([x5_29, y160] : List (List Int))) := ⟨_, rfl⟩
                        replace H : ((ip4_Sum.f kj47 y163).bind fun t167 => (if a1 = 0 then (some (t167 == t113)) else (if a1 = 65535 then (if t167 = t113 then (some true) else (if t113 = 65535 then (some (t167 == 0)) else (some false))) else (some (t167 != t113))))) = some r := by first | (rw [hy163]; with_reducible exact H) | (have H2_ := (Option.bind_some _ _).symm.trans H; rw [hy163]; with_reducible exact H2_) | (have H2_ := (Option.bind_some _ _).symm.trans H; with_reducible exact H2_) | with_reducible exact H | (rw [hy163]; exact H) | exact H
                        have Ny163 := Aside0.mk hy163
                        clear hy163
                        replace H := Option.bind_eq_some_iff.mp H
                        obtain ⟨t167, A720, H⟩ := H
                        replace H : (if a1 = 0 then (some (t167 == t113)) else (if a1 = 65535 then (if t167 = t113 then (some true) else (if t113 = 65535 then (some (t167 == 0)) else (some false))) else (some (t167 != t113)))) = some r := H
                        have A72 := Aside0.mk A720
                        clear A720
                        by_cases c73 : a1 = 0
                        · rw [if_pos c73] at H
                          have c73b0 : (a1 == 0) = true := beq_iff_eq.mpr c73
                          have c73b1 : (a1 != 0) = false := bne_eq_false_iff_eq.mpr c73
                          clear c73
                          obtain rfl := Option.some.inj H
                          go_wp2_with (first | ((with_reducible refine gate_dst (N := 86) rfl ?_); (try (refine gate_guard (by rfl) ?_; dsimp only)); refine Kd.R_lit (Kd.int .u8) _ 5 ?hg (N := 86) ?hd (xs := ([(a1 / 256) % 256, (a1) % 256] : List Int)) (inner := [.int .u8 ((a1 / 256) % 256), .int .u8 ((a1) % 256)]) (ok := fun _ => True) (okp := fun _ => True) ?hr ?hp (fun _ hk => hk) trivial (Below.refl _ _) (Nat.le_refl _) (by simp) ?_; (case hd => rfl); (case hg => rfl); (case hr => first | (go_simp; done) | (go_simp; rfl)); (case hp => exact (Reps.one (show Kd.M (Kd.int .u8) _ _ _ ((a1 / 256) % 256) [.int .u8 ((a1 / 256) % 256)] from rfl) (Reps.one (show Kd.M (Kd.int .u8) _ _ _ ((a1) % 256) [.int .u8 ((a1) % 256)] from rfl) (Reps.none _ _)))); intro v161 w74 ho75 hb hg_ hnew_; clear hg_ hnew_; (first | rw [← Ny160.out] at ho75 | (simp only [Int.reduceToNat] at ho75; rw [← Ny160.out] at ho75)); have n0_ := Aside0.mk (Kd.R_elder' (by (with_reducible repeat (first | apply Kd.R_alloc | apply Kd.R_drewN | apply Kd.R_drew)); exact HO_5.out) (Kd.R_base ho75) hb); have n1_ := Aside0.mk (Kd.R_lower (Kd.R_new' ho75 (Kd.R_lt (by (with_reducible repeat (first | apply Kd.R_alloc | apply Kd.R_drewN | apply Kd.R_drew)); exact HO_5.out))) (below_size (by repeat (first | (with_reducible first | exact HB.out | apply below_alloc | apply pw_below_drewN | apply below_drew1) | exact HB.out)))); have n2_ := Aside0.mk (below_step (by repeat (first | (with_reducible first | exact HB.out | apply below_alloc | apply pw_below_drewN | apply below_drew1) | exact HB.out)) hb); clear HO_5; clear HB; have HO_5 := n0_; have HO162 := n1_; have HB := n2_; clear n0_ n1_ n2_; clear hb ho75; obtain ⟨Ao76, co76, eo76⟩ := Kd.R_slice HO162.out; subst eo76) | ((with_reducible refine gate_dst (N := 87) rfl ?_); (try (refine gate_guard (by rfl) ?_; dsimp only)); refine lits_event (Kd.slice 5 (Kd.int .u8)) 24 ?hg (N := 87) ?hd (xs := ([x5_29, y160] : List (List Int))) (inner := [.slice Ao35 x5_29.length co35, .slice Ao76 y160.length co76]) ?hr ?hp (by simp) ?_; (case hd => rfl); (case hg => rfl); (case hr => first | (go_simp; done) | (go_simp; rfl)); (case hp => exact (Reps.one (show Kd.K (Kd.slice 5 (Kd.int .u8)) _ x5_29 [.slice Ao35 x5_29.length co35] from by refine ⟨_, _, rfl, ?_, ?_⟩; (· exact (Kd.R_reads' HO_5.out).2.1); (· repeat (first | exact (Kd.R_reads' HO_5.out).2.2 | (with_reducible refine Kd.C_alloc ?_ _) | (with_reducible refine Kd.C_drewN ?_ _) | (with_reducible refine Kd.C_drew ?_)))) (Reps.one (show Kd.K (Kd.slice 5 (Kd.int .u8)) _ y160 [.slice Ao76 y160.length co76] from by refine ⟨_, _, rfl, ?_, ?_⟩; (· exact (Kd.R_reads' HO162.out).2.1); (· repeat (first | exact (Kd.R_reads' HO162.out).2.2 | (with_reducible refine Kd.C_alloc ?_ _) | (with_reducible refine Kd.C_drewN ?_ _) | (with_reducible refine Kd.C_drew ?_)))) (Reps.none _ _)))); intro v78_ w77 hL_ hb; (first | rw [← Ny163.out] at hL_ | (simp only [Int.reduceToNat] at hL_; rw [← Ny163.out] at hL_)); obtain ⟨A78, c78, rfl, hlr_, hlc_⟩ := hL_; have n0_ := Aside0.mk (Kd.R_below (by (with_reducible repeat (first | apply Kd.R_alloc | apply Kd.R_drewN | apply Kd.R_drew)); exact HO_5.out) hb); have n1_ := Aside0.mk (Kd.R_below (by (with_reducible repeat (first | apply Kd.R_alloc | apply Kd.R_drewN | apply Kd.R_drew)); exact HO162.out) hb); have n2_ := Aside0.mk (below_step (by repeat (first | (with_reducible first | exact HB.out | apply below_alloc | apply pw_below_drewN | apply below_drew1) | exact HB.out)) hb); have n3_ := Aside0.mk (hlc_); have n4_ := Aside0.mk (hlr_); clear HO_5; clear HO162; clear HB; have HO_5 := n0_; have HO162 := n1_; have HB := n2_; have HR166 := n3_; have HC166 := n4_; clear n0_ n1_ n2_ n3_ n4_; clear hb hlr_ hlc_) | ((with_reducible refine gate_callee (f := 16) rfl ?_); refine goesL_ (some 88) rfl rfl Try.func16 (by kernel_rfl) rfl #[.slice A78 y163.length c78] rfl (by (try simp only [List.map_toArray, List.map_cons, List.map_nil]); first | done | rfl | (simp only [List.length_drop, List.length_take]; rfl)) ?_; (with_reducible refine (ip4_Sum.calls kj47 _ _ y163 t167 _ ?side1 ?side2 A72.out).mono ?_); (case side1 => repeat (first | exact (by repeat (first | (with_reducible exact HR166.out) | (with_reducible refine Kd.C_alloc ?_ _) | (with_reducible refine Kd.C_drewN ?_ _) | (with_reducible refine Kd.C_drew ?_) | exact HR166.out)) | (with_reducible refine Kd.C_alloc ?_ _) | (with_reducible refine Kd.C_drewN ?_ _) | (with_reducible refine Kd.C_drew ?_))); (case side2 => exact HC166.out); rintro e w' ⟨rfl, ⟨nd, rfl⟩⟩; refine ⟨_, rfl, ?_⟩))
                          go_ret
                          exact ⟨by first | rfl | (simp [errW_none, errW_some] <;> rfl) | (simp [*, errW_none, errW_some] <;> rfl), by repeat (first | (with_reducible first | exact HB.out | apply below_alloc | apply pw_below_drewN | apply below_drew1) | exact HB.out)⟩
                        · rw [if_neg c73] at H
                          have c73b0 : (a1 == 0) = false := beq_eq_false_iff_ne.mpr c73
                          have c73b1 : (a1 != 0) = true := bne_iff_ne.mpr c73
                          by_cases c79 : a1 = 65535
                          · rw [if_pos c79] at H
                            have c79b0 : (a1 == 65535) = true := beq_iff_eq.mpr c79
                            have c79b1 : (a1 != 65535) = false := bne_eq_false_iff_eq.mpr c79
                            clear c79
                            by_cases c80 : t167 = t113
                            · rw [if_pos c80] at H
                              have c80b0 : (t167 == t113) = true := beq_iff_eq.mpr c80
                              have c80b1 : (t167 != t113) = false := bne_eq_false_iff_eq.mpr c80
                              clear c80
                              obtain rfl := Option.some.inj H
                              go_wp2_with (first | ((with_reducible refine gate_dst (N := 86) rfl ?_); (try (refine gate_guard (by rfl) ?_; dsimp only)); refine Kd.R_lit (Kd.int .u8) _ 5 ?hg (N := 86) ?hd (xs := ([(a1 / 256) % 256, (a1) % 256] : List Int)) (inner := [.int .u8 ((a1 / 256) % 256), .int .u8 ((a1) % 256)]) (ok := fun _ => True) (okp := fun _ => True) ?hr ?hp (fun _ hk => hk) trivial (Below.refl _ _) (Nat.le_refl _) (by simp) ?_; (case hd => rfl); (case hg => rfl); (case hr => first | (go_simp; done) | (go_simp; rfl)); (case hp => exact (Reps.one (show Kd.M (Kd.int .u8) _ _ _ ((a1 / 256) % 256) [.int .u8 ((a1 / 256) % 256)] from rfl) (Reps.one (show Kd.M (Kd.int .u8) _ _ _ ((a1) % 256) [.int .u8 ((a1) % 256)] from rfl) (Reps.none _ _)))); intro v161 w81 ho82 hb hg_ hnew_; clear hg_ hnew_; (first | rw [← Ny160.out] at ho82 | (simp only [Int.reduceToNat] at ho82; rw [← Ny160.out] at ho82)); have n0_ := Aside0.mk (Kd.R_elder' (by (with_reducible repeat (first | apply Kd.R_alloc | apply Kd.R_drewN | apply Kd.R_drew)); exact HO_5.out) (Kd.R_base ho82) hb); have n1_ := Aside0.mk (Kd.R_lower (Kd.R_new' ho82 (Kd.R_lt (by (with_reducible repeat (first | apply Kd.R_alloc | apply Kd.R_drewN | apply Kd.R_drew)); exact HO_5.out))) (below_size (by repeat (first | (with_reducible first | exact HB.out | apply below_alloc | apply pw_below_drewN | apply below_drew1) | exact HB.out)))); have n2_ := Aside0.mk (below_step (by repeat (first | (with_reducible first | exact HB.out | apply below_alloc | apply pw_below_drewN | apply below_drew1) | exact HB.out)) hb); clear HO_5; clear HB; have HO_5 := n0_; have HO162 := n1_; have HB := n2_; clear n0_ n1_ n2_; clear hb ho82; obtain ⟨Ao83, co83, eo83⟩ := Kd.R_slice HO162.out; subst eo83) | ((with_reducible refine gate_dst (N := 87) rfl ?_); (try (refine gate_guard (by rfl) ?_; dsimp only)); refine lits_event (Kd.slice 5 (Kd.int .u8)) 24 ?hg (N := 87) ?hd (xs := ([x5_29, y160] : List (List Int))) (inner := [.slice Ao35 x5_29.length co35, .slice Ao83 y160.length co83]) ?hr ?hp (by simp) ?_; (case hd => rfl); (case hg => rfl); (case hr => first | (go_simp; done) | (go_simp; rfl)); (case hp => exact (Reps.one (show Kd.K (Kd.slice 5 (Kd.int .u8)) _ x5_29 [.slice Ao35 x5_29.length co35] from by refine ⟨_, _, rfl, ?_, ?_⟩; (· exact (Kd.R_reads' HO_5.out).2.1); (· repeat (first | exact (Kd.R_reads' HO_5.out).2.2 | (with_reducible refine Kd.C_alloc ?_ _) | (with_reducible refine Kd.C_drewN ?_ _) | (with_reducible refine Kd.C_drew ?_)))) (Reps.one (show Kd.K (Kd.slice 5 (Kd.int .u8)) _ y160 [.slice Ao83 y160.length co83] from by refine ⟨_, _, rfl, ?_, ?_⟩; (· exact (Kd.R_reads' HO162.out).2.1); (· repeat (first | exact (Kd.R_reads' HO162.out).2.2 | (with_reducible refine Kd.C_alloc ?_ _) | (with_reducible refine Kd.C_drewN ?_ _) | (with_reducible refine Kd.C_drew ?_)))) (Reps.none _ _)))); intro v85_ w84 hL_ hb; (first | rw [← Ny163.out] at hL_ | (simp only [Int.reduceToNat] at hL_; rw [← Ny163.out] at hL_)); obtain ⟨A85, c85, rfl, hlr_, hlc_⟩ := hL_; have n0_ := Aside0.mk (Kd.R_below (by (with_reducible repeat (first | apply Kd.R_alloc | apply Kd.R_drewN | apply Kd.R_drew)); exact HO_5.out) hb); have n1_ := Aside0.mk (Kd.R_below (by (with_reducible repeat (first | apply Kd.R_alloc | apply Kd.R_drewN | apply Kd.R_drew)); exact HO162.out) hb); have n2_ := Aside0.mk (below_step (by repeat (first | (with_reducible first | exact HB.out | apply below_alloc | apply pw_below_drewN | apply below_drew1) | exact HB.out)) hb); have n3_ := Aside0.mk (hlc_); have n4_ := Aside0.mk (hlr_); clear HO_5; clear HO162; clear HB; have HO_5 := n0_; have HO162 := n1_; have HB := n2_; have HR166 := n3_; have HC166 := n4_; clear n0_ n1_ n2_ n3_ n4_; clear hb hlr_ hlc_) | ((with_reducible refine gate_callee (f := 16) rfl ?_); refine goesL_ (some 88) rfl rfl Try.func16 (by kernel_rfl) rfl #[.slice A85 y163.length c85] rfl (by (try simp only [List.map_toArray, List.map_cons, List.map_nil]); first | done | rfl | (simp only [List.length_drop, List.length_take]; rfl)) ?_; (with_reducible refine (ip4_Sum.calls kj47 _ _ y163 t167 _ ?side1 ?side2 A72.out).mono ?_); (case side1 => repeat (first | exact (by repeat (first | (with_reducible exact HR166.out) | (with_reducible refine Kd.C_alloc ?_ _) | (with_reducible refine Kd.C_drewN ?_ _) | (with_reducible refine Kd.C_drew ?_) | exact HR166.out)) | (with_reducible refine Kd.C_alloc ?_ _) | (with_reducible refine Kd.C_drewN ?_ _) | (with_reducible refine Kd.C_drew ?_))); (case side2 => exact HC166.out); rintro e w' ⟨rfl, ⟨nd, rfl⟩⟩; refine ⟨_, rfl, ?_⟩))
                              go_ret
                              exact ⟨by first | rfl | (simp [errW_none, errW_some] <;> rfl) | (simp [*, errW_none, errW_some] <;> rfl), by repeat (first | (with_reducible first | exact HB.out | apply below_alloc | apply pw_below_drewN | apply below_drew1) | exact HB.out)⟩
                            · rw [if_neg c80] at H
                              have c80b0 : (t167 == t113) = false := beq_eq_false_iff_ne.mpr c80
                              have c80b1 : (t167 != t113) = true := bne_iff_ne.mpr c80
                              by_cases c86 : t113 = 65535
                              · rw [if_pos c86] at H
                                have c86b0 : (t113 == 65535) = true := beq_iff_eq.mpr c86
                                have c86b1 : (t113 != 65535) = false := bne_eq_false_iff_eq.mpr c86
                                clear c86
                                obtain rfl := Option.some.inj H
                                go_wp2_with (first | ((with_reducible refine gate_dst (N := 86) rfl ?_); (try (refine gate_guard (by rfl) ?_; dsimp only)); refine Kd.R_lit (Kd.int .u8) _ 5 ?hg (N := 86) ?hd (xs := ([(a1 / 256) % 256, (a1) % 256] : List Int)) (inner := [.int .u8 ((a1 / 256) % 256), .int .u8 ((a1) % 256)]) (ok := fun _ => True) (okp := fun _ => True) ?hr ?hp (fun _ hk => hk) trivial (Below.refl _ _) (Nat.le_refl _) (by simp) ?_; (case hd => rfl); (case hg => rfl); (case hr => first | (go_simp; done) | (go_simp; rfl)); (case hp => exact (Reps.one (show Kd.M (Kd.int .u8) _ _ _ ((a1 / 256) % 256) [.int .u8 ((a1 / 256) % 256)] from rfl) (Reps.one (show Kd.M (Kd.int .u8) _ _ _ ((a1) % 256) [.int .u8 ((a1) % 256)] from rfl) (Reps.none _ _)))); intro v161 w87 ho88 hb hg_ hnew_; clear hg_ hnew_; (first | rw [← Ny160.out] at ho88 | (simp only [Int.reduceToNat] at ho88; rw [← Ny160.out] at ho88)); have n0_ := Aside0.mk (Kd.R_elder' (by (with_reducible repeat (first | apply Kd.R_alloc | apply Kd.R_drewN | apply Kd.R_drew)); exact HO_5.out) (Kd.R_base ho88) hb); have n1_ := Aside0.mk (Kd.R_lower (Kd.R_new' ho88 (Kd.R_lt (by (with_reducible repeat (first | apply Kd.R_alloc | apply Kd.R_drewN | apply Kd.R_drew)); exact HO_5.out))) (below_size (by repeat (first | (with_reducible first | exact HB.out | apply below_alloc | apply pw_below_drewN | apply below_drew1) | exact HB.out)))); have n2_ := Aside0.mk (below_step (by repeat (first | (with_reducible first | exact HB.out | apply below_alloc | apply pw_below_drewN | apply below_drew1) | exact HB.out)) hb); clear HO_5; clear HB; have HO_5 := n0_; have HO162 := n1_; have HB := n2_; clear n0_ n1_ n2_; clear hb ho88; obtain ⟨Ao89, co89, eo89⟩ := Kd.R_slice HO162.out; subst eo89) | ((with_reducible refine gate_dst (N := 87) rfl ?_); (try (refine gate_guard (by rfl) ?_; dsimp only)); refine lits_event (Kd.slice 5 (Kd.int .u8)) 24 ?hg (N := 87) ?hd (xs := ([x5_29, y160] : List (List Int))) (inner := [.slice Ao35 x5_29.length co35, .slice Ao89 y160.length co89]) ?hr ?hp (by simp) ?_; (case hd => rfl); (case hg => rfl); (case hr => first | (go_simp; done) | (go_simp; rfl)); (case hp => exact (Reps.one (show Kd.K (Kd.slice 5 (Kd.int .u8)) _ x5_29 [.slice Ao35 x5_29.length co35] from by refine ⟨_, _, rfl, ?_, ?_⟩; (· exact (Kd.R_reads' HO_5.out).2.1); (· repeat (first | exact (Kd.R_reads' HO_5.out).2.2 | (with_reducible refine Kd.C_alloc ?_ _) | (with_reducible refine Kd.C_drewN ?_ _) | (with_reducible refine Kd.C_drew ?_)))) (Reps.one (show Kd.K (Kd.slice 5 (Kd.int .u8)) _ y160 [.slice Ao89 y160.length co89] from by refine ⟨_, _, rfl, ?_, ?_⟩; (· exact (Kd.R_reads' HO162.out).2.1); (· repeat (first | exact (Kd.R_reads' HO162.out).2.2 | (with_reducible refine Kd.C_alloc ?_ _) | (with_reducible refine Kd.C_drewN ?_ _) | (with_reducible refine Kd.C_drew ?_)))) (Reps.none _ _)))); intro v91_ w90 hL_ hb; (first | rw [← Ny163.out] at hL_ | (simp only [Int.reduceToNat] at hL_; rw [← Ny163.out] at hL_)); obtain ⟨A91, c91, rfl, hlr_, hlc_⟩ := hL_; have n0_ := Aside0.mk (Kd.R_below (by (with_reducible repeat (first | apply Kd.R_alloc | apply Kd.R_drewN | apply Kd.R_drew)); exact HO_5.out) hb); have n1_ := Aside0.mk (Kd.R_below (by (with_reducible repeat (first | apply Kd.R_alloc | apply Kd.R_drewN | apply Kd.R_drew)); exact HO162.out) hb); have n2_ := Aside0.mk (below_step (by repeat (first | (with_reducible first | exact HB.out | apply below_alloc | apply pw_below_drewN | apply below_drew1) | exact HB.out)) hb); have n3_ := Aside0.mk (hlc_); have n4_ := Aside0.mk (hlr_); clear HO_5; clear HO162; clear HB; have HO_5 := n0_; have HO162 := n1_; have HB := n2_; have HR166 := n3_; have HC166 := n4_; clear n0_ n1_ n2_ n3_ n4_; clear hb hlr_ hlc_) | ((with_reducible refine gate_callee (f := 16) rfl ?_); refine goesL_ (some 88) rfl rfl Try.func16 (by kernel_rfl) rfl #[.slice A91 y163.length c91] rfl (by (try simp only [List.map_toArray, List.map_cons, List.map_nil]); first | done | rfl | (simp only [List.length_drop, List.length_take]; rfl)) ?_; (with_reducible refine (ip4_Sum.calls kj47 _ _ y163 t167 _ ?side1 ?side2 A72.out).mono ?_); (case side1 => repeat (first | exact (by repeat (first | (with_reducible exact HR166.out) | (with_reducible refine Kd.C_alloc ?_ _) | (with_reducible refine Kd.C_drewN ?_ _) | (with_reducible refine Kd.C_drew ?_) | exact HR166.out)) | (with_reducible refine Kd.C_alloc ?_ _) | (with_reducible refine Kd.C_drewN ?_ _) | (with_reducible refine Kd.C_drew ?_))); (case side2 => exact HC166.out); rintro e w' ⟨rfl, ⟨nd, rfl⟩⟩; refine ⟨_, rfl, ?_⟩))
                                go_ret
                                exact ⟨by first | rfl | (simp [errW_none, errW_some] <;> rfl) | (simp [*, errW_none, errW_some] <;> rfl), by repeat (first | (with_reducible first | exact HB.out | apply below_alloc | apply pw_below_drewN | apply below_drew1) | exact HB.out)⟩
                              · rw [if_neg c86] at H
                                have c86b0 : (t113 == 65535) = false := beq_eq_false_iff_ne.mpr c86
                                have c86b1 : (t113 != 65535) = true := bne_iff_ne.mpr c86
                                obtain rfl := Option.some.inj H
                                go_wp2_with (first | ((with_reducible refine gate_dst (N := 86) rfl ?_); (try (refine gate_guard (by rfl) ?_; dsimp only)); refine Kd.R_lit (Kd.int .u8) _ 5 ?hg (N := 86) ?hd (xs := ([(a1 / 256) % 256, (a1) % 256] : List Int)) (inner := [.int .u8 ((a1 / 256) % 256), .int .u8 ((a1) % 256)]) (ok := fun _ => True) (okp := fun _ => True) ?hr ?hp (fun _ hk => hk) trivial (Below.refl _ _) (Nat.le_refl _) (by simp) ?_; (case hd => rfl); (case hg => rfl); (case hr => first | (go_simp; done) | (go_simp; rfl)); (case hp => exact (Reps.one (show Kd.M (Kd.int .u8) _ _ _ ((a1 / 256) % 256) [.int .u8 ((a1 / 256) % 256)] from rfl) (Reps.one (show Kd.M (Kd.int .u8) _ _ _ ((a1) % 256) [.int .u8 ((a1) % 256)] from rfl) (Reps.none _ _)))); intro v161 w92 ho93 hb hg_ hnew_; clear hg_ hnew_; (first | rw [← Ny160.out] at ho93 | (simp only [Int.reduceToNat] at ho93; rw [← Ny160.out] at ho93)); have n0_ := Aside0.mk (Kd.R_elder' (by (with_reducible repeat (first | apply Kd.R_alloc | apply Kd.R_drewN | apply Kd.R_drew)); exact HO_5.out) (Kd.R_base ho93) hb); have n1_ := Aside0.mk (Kd.R_lower (Kd.R_new' ho93 (Kd.R_lt (by (with_reducible repeat (first | apply Kd.R_alloc | apply Kd.R_drewN | apply Kd.R_drew)); exact HO_5.out))) (below_size (by repeat (first | (with_reducible first | exact HB.out | apply below_alloc | apply pw_below_drewN | apply below_drew1) | exact HB.out)))); have n2_ := Aside0.mk (below_step (by repeat (first | (with_reducible first | exact HB.out | apply below_alloc | apply pw_below_drewN | apply below_drew1) | exact HB.out)) hb); clear HO_5; clear HB; have HO_5 := n0_; have HO162 := n1_; have HB := n2_; clear n0_ n1_ n2_; clear hb ho93; obtain ⟨Ao94, co94, eo94⟩ := Kd.R_slice HO162.out; subst eo94) | ((with_reducible refine gate_dst (N := 87) rfl ?_); (try (refine gate_guard (by rfl) ?_; dsimp only)); refine lits_event (Kd.slice 5 (Kd.int .u8)) 24 ?hg (N := 87) ?hd (xs := ([x5_29, y160] : List (List Int))) (inner := [.slice Ao35 x5_29.length co35, .slice Ao94 y160.length co94]) ?hr ?hp (by simp) ?_; (case hd => rfl); (case hg => rfl); (case hr => first | (go_simp; done) | (go_simp; rfl)); (case hp => exact (Reps.one (show Kd.K (Kd.slice 5 (Kd.int .u8)) _ x5_29 [.slice Ao35 x5_29.length co35] from by refine ⟨_, _, rfl, ?_, ?_⟩; (· exact (Kd.R_reads' HO_5.out).2.1); (· repeat (first | exact (Kd.R_reads' HO_5.out).2.2 | (with_reducible refine Kd.C_alloc ?_ _) | (with_reducible refine Kd.C_drewN ?_ _) | (with_reducible refine Kd.C_drew ?_)))) (Reps.one (show Kd.K (Kd.slice 5 (Kd.int .u8)) _ y160 [.slice Ao94 y160.length co94] from by refine ⟨_, _, rfl, ?_, ?_⟩; (· exact (Kd.R_reads' HO162.out).2.1); (· repeat (first | exact (Kd.R_reads' HO162.out).2.2 | (with_reducible refine Kd.C_alloc ?_ _) | (with_reducible refine Kd.C_drewN ?_ _) | (with_reducible refine Kd.C_drew ?_)))) (Reps.none _ _)))); intro v96_ w95 hL_ hb; (first | rw [← Ny163.out] at hL_ | (simp only [Int.reduceToNat] at hL_; rw [← Ny163.out] at hL_)); obtain ⟨A96, c96, rfl, hlr_, hlc_⟩ := hL_; have n0_ := Aside0.mk (Kd.R_below (by (with_reducible repeat (first | apply Kd.R_alloc | apply Kd.R_drewN | apply Kd.R_drew)); exact HO_5.out) hb); have n1_ := Aside0.mk (Kd.R_below (by (with_reducible repeat (first | apply Kd.R_alloc | apply Kd.R_drewN | apply Kd.R_drew)); exact HO162.out) hb); have n2_ := Aside0.mk (below_step (by repeat (first | (with_reducible first | exact HB.out | apply below_alloc | apply pw_below_drewN | apply below_drew1) | exact HB.out)) hb); have n3_ := Aside0.mk (hlc_); have n4_ := Aside0.mk (hlr_); clear HO_5; clear HO162; clear HB; have HO_5 := n0_; have HO162 := n1_; have HB := n2_; have HR166 := n3_; have HC166 := n4_; clear n0_ n1_ n2_ n3_ n4_; clear hb hlr_ hlc_) | ((with_reducible refine gate_callee (f := 16) rfl ?_); refine goesL_ (some 88) rfl rfl Try.func16 (by kernel_rfl) rfl #[.slice A96 y163.length c96] rfl (by (try simp only [List.map_toArray, List.map_cons, List.map_nil]); first | done | rfl | (simp only [List.length_drop, List.length_take]; rfl)) ?_; (with_reducible refine (ip4_Sum.calls kj47 _ _ y163 t167 _ ?side1 ?side2 A72.out).mono ?_); (case side1 => repeat (first | exact (by repeat (first | (with_reducible exact HR166.out) | (with_reducible refine Kd.C_alloc ?_ _) | (with_reducible refine Kd.C_drewN ?_ _) | (with_reducible refine Kd.C_drew ?_) | exact HR166.out)) | (with_reducible refine Kd.C_alloc ?_ _) | (with_reducible refine Kd.C_drewN ?_ _) | (with_reducible refine Kd.C_drew ?_))); (case side2 => exact HC166.out); rintro e w' ⟨rfl, ⟨nd, rfl⟩⟩; refine ⟨_, rfl, ?_⟩))
                                go_ret
                                exact ⟨by first | rfl | (simp [errW_none, errW_some] <;> rfl) | (simp [*, errW_none, errW_some] <;> rfl), by repeat (first | (with_reducible first | exact HB.out | apply below_alloc | apply pw_below_drewN | apply below_drew1) | exact HB.out)⟩
                          · rw [if_neg c79] at H
                            have c79b0 : (a1 == 65535) = false := beq_eq_false_iff_ne.mpr c79
                            have c79b1 : (a1 != 65535) = true := bne_iff_ne.mpr c79
                            obtain rfl := Option.some.inj H
                            go_wp2_with (first | ((with_reducible refine gate_dst (N := 86) rfl ?_); (try (refine gate_guard (by rfl) ?_; dsimp only)); refine Kd.R_lit (Kd.int .u8) _ 5 ?hg (N := 86) ?hd (xs := ([(a1 / 256) % 256, (a1) % 256] : List Int)) (inner := [.int .u8 ((a1 / 256) % 256), .int .u8 ((a1) % 256)]) (ok := fun _ => True) (okp := fun _ => True) ?hr ?hp (fun _ hk => hk) trivial (Below.refl _ _) (Nat.le_refl _) (by simp) ?_; (case hd => rfl); (case hg => rfl); (case hr => first | (go_simp; done) | (go_simp; rfl)); (case hp => exact (Reps.one (show Kd.M (Kd.int .u8) _ _ _ ((a1 / 256) % 256) [.int .u8 ((a1 / 256) % 256)] from rfl) (Reps.one (show Kd.M (Kd.int .u8) _ _ _ ((a1) % 256) [.int .u8 ((a1) % 256)] from rfl) (Reps.none _ _)))); intro v161 w97 ho98 hb hg_ hnew_; clear hg_ hnew_; (first | rw [← Ny160.out] at ho98 | (simp only [Int.reduceToNat] at ho98; rw [← Ny160.out] at ho98)); have n0_ := Aside0.mk (Kd.R_elder' (by (with_reducible repeat (first | apply Kd.R_alloc | apply Kd.R_drewN | apply Kd.R_drew)); exact HO_5.out) (Kd.R_base ho98) hb); have n1_ := Aside0.mk (Kd.R_lower (Kd.R_new' ho98 (Kd.R_lt (by (with_reducible repeat (first | apply Kd.R_alloc | apply Kd.R_drewN | apply Kd.R_drew)); exact HO_5.out))) (below_size (by repeat (first | (with_reducible first | exact HB.out | apply below_alloc | apply pw_below_drewN | apply below_drew1) | exact HB.out)))); have n2_ := Aside0.mk (below_step (by repeat (first | (with_reducible first | exact HB.out | apply below_alloc | apply pw_below_drewN | apply below_drew1) | exact HB.out)) hb); clear HO_5; clear HB; have HO_5 := n0_; have HO162 := n1_; have HB := n2_; clear n0_ n1_ n2_; clear hb ho98; obtain ⟨Ao99, co99, eo99⟩ := Kd.R_slice HO162.out; subst eo99) | ((with_reducible refine gate_dst (N := 87) rfl ?_); (try (refine gate_guard (by rfl) ?_; dsimp only)); refine lits_event (Kd.slice 5 (Kd.int .u8)) 24 ?hg (N := 87) ?hd (xs := ([x5_29, y160] : List (List Int))) (inner := [.slice Ao35 x5_29.length co35, .slice Ao99 y160.length co99]) ?hr ?hp (by simp) ?_; (case hd => rfl); (case hg => rfl); (case hr => first | (go_simp; done) | (go_simp; rfl)); (case hp => exact (Reps.one (show Kd.K (Kd.slice 5 (Kd.int .u8)) _ x5_29 [.slice Ao35 x5_29.length co35] from by refine ⟨_, _, rfl, ?_, ?_⟩; (· exact (Kd.R_reads' HO_5.out).2.1); (· repeat (first | exact (Kd.R_reads' HO_5.out).2.2 | (with_reducible refine Kd.C_alloc ?_ _) | (with_reducible refine Kd.C_drewN ?_ _) | (with_reducible refine Kd.C_drew ?_)))) (Reps.one (show Kd.K (Kd.slice 5 (Kd.int .u8)) _ y160 [.slice Ao99 y160.length co99] from by refine ⟨_, _, rfl, ?_, ?_⟩; (· exact (Kd.R_reads' HO162.out).2.1); (· repeat (first | exact (Kd.R_reads' HO162.out).2.2 | (with_reducible refine Kd.C_alloc ?_ _) | (with_reducible refine Kd.C_drewN ?_ _) | (with_reducible refine Kd.C_drew ?_)))) (Reps.none _ _)))); intro v101_ w100 hL_ hb; (first | rw [← Ny163.out] at hL_ | (simp only [Int.reduceToNat] at hL_; rw [← Ny163.out] at hL_)); obtain ⟨A101, c101, rfl, hlr_, hlc_⟩ := hL_; have n0_ := Aside0.mk (Kd.R_below (by (with_reducible repeat (first | apply Kd.R_alloc | apply Kd.R_drewN | apply Kd.R_drew)); exact HO_5.out) hb); have n1_ := Aside0.mk (Kd.R_below (by (with_reducible repeat (first | apply Kd.R_alloc | apply Kd.R_drewN | apply Kd.R_drew)); exact HO162.out) hb); have n2_ := Aside0.mk (below_step (by repeat (first | (with_reducible first | exact HB.out | apply below_alloc | apply pw_below_drewN | apply below_drew1) | exact HB.out)) hb); have n3_ := Aside0.mk (hlc_); have n4_ := Aside0.mk (hlr_); clear HO_5; clear HO162; clear HB; have HO_5 := n0_; have HO162 := n1_; have HB := n2_; have HR166 := n3_; have HC166 := n4_; clear n0_ n1_ n2_ n3_ n4_; clear hb hlr_ hlc_) | ((with_reducible refine gate_callee (f := 16) rfl ?_); refine goesL_ (some 88) rfl rfl Try.func16 (by kernel_rfl) rfl #[.slice A101 y163.length c101] rfl (by (try simp only [List.map_toArray, List.map_cons, List.map_nil]); first | done | rfl | (simp only [List.length_drop, List.length_take]; rfl)) ?_; (with_reducible refine (ip4_Sum.calls kj47 _ _ y163 t167 _ ?side1 ?side2 A72.out).mono ?_); (case side1 => repeat (first | exact (by repeat (first | (with_reducible exact HR166.out) | (with_reducible refine Kd.C_alloc ?_ _) | (with_reducible refine Kd.C_drewN ?_ _) | (with_reducible refine Kd.C_drew ?_) | exact HR166.out)) | (with_reducible refine Kd.C_alloc ?_ _) | (with_reducible refine Kd.C_drewN ?_ _) | (with_reducible refine Kd.C_drew ?_))); (case side2 => exact HC166.out); rintro e w' ⟨rfl, ⟨nd, rfl⟩⟩; refine ⟨_, rfl, ?_⟩))
                            go_ret
                            exact ⟨by first | rfl | (simp [errW_none, errW_some] <;> rfl) | (simp [*, errW_none, errW_some] <;> rfl), by repeat (first | (with_reducible first | exact HB.out | apply below_alloc | apply pw_below_drewN | apply below_drew1) | exact HB.out)⟩

/-! ### ip4_Adjust: function 17 -/
def ip4_Adjust.f (k : Nat) (a0 : Int) (a1 : Int) (a2 : Int) : Option (Int) := (ip4_folded.f k (IntKind.u64.wrap ((IntKind.u64.wrap ((IntKind.u64.wrap (Go.bits .xor .u16 65535 a0)) + (IntKind.u64.wrap (Go.bits .xor .u16 65535 a1)))) + (IntKind.u64.wrap (a2))))).bind fun t168 => (some (Go.bits .xor .u16 65535 t168))
theorem ip4_Adjust.mono : ∀ a0 a1 a2 k, LeO (ip4_Adjust.f k a0 a1 a2) (ip4_Adjust.f (k + 1) a0 a1 a2) := by
  intro a0 a1 a2 k
  unfold ip4_Adjust.f
  repeat' first
      | (with_reducible exact ip4_folded.mono _ _)
      | (with_reducible exact LeO.refl _)
      | (with_reducible exact LeO.none _)
      | (with_reducible refine LeO.ite ?_ ?_)
      | (with_reducible refine LeO.bind ?_ (fun _ => ?_))
      | exact ip4_folded.mono _ _
      | exact LeO.none _
      | refine LeO.ite ?_ ?_
      | refine LeO.bind ?_ (fun _ => ?_)
set_option maxHeartbeats 8000000 in
set_option maxRecDepth 100000 in
theorem ip4_Adjust.calls (k : Nat) (a0 : Int) (a1 : Int) (a2 : Int) (r : Int) (w : World) (h : ip4_Adjust.f k a0 a1 a2 = some r) :
    Calls Try.prog 17 #[.int .u16 a0, .int .u16 a1, .int .u16 a2] w fun e w' => e = .returned (.int .u16 r) ∧ Drawn0 w w' := by
  have H : ((ip4_folded.f k (IntKind.u64.wrap ((IntKind.u64.wrap ((IntKind.u64.wrap (Go.bits .xor .u16 65535 a0)) + (IntKind.u64.wrap (Go.bits .xor .u16 65535 a1)))) + (IntKind.u64.wrap (a2))))).bind fun t168 => (some (Go.bits .xor .u16 65535 t168))) = some r := h
  clear h
  replace H := Option.bind_eq_some_iff.mp H
  obtain ⟨t168, A40, H⟩ := H
  replace H : (some (Go.bits .xor .u16 65535 t168)) = some r := H
  have A4 := Aside0.mk A40
  clear A40
  obtain rfl := Option.some.inj H
  go_enter Try.func17, Try.ntmps17
  go_wp2_with (first | ((with_reducible refine gate_callee (f := 45) rfl ?_); refine goesL_ (some 17) rfl rfl Try.func45 (by kernel_rfl) rfl #[.int .u64 (IntKind.u64.wrap ((IntKind.u64.wrap ((IntKind.u64.wrap (Go.bits .xor .u16 65535 a0)) + (IntKind.u64.wrap (Go.bits .xor .u16 65535 a1)))) + (IntKind.u64.wrap (a2))))] rfl (by (try simp only [List.map_toArray, List.map_cons, List.map_nil]); first | done | rfl | (simp only [List.length_drop, List.length_take]; rfl)) ?_; (with_reducible refine (ip4_folded.calls k (IntKind.u64.wrap ((IntKind.u64.wrap ((IntKind.u64.wrap (Go.bits .xor .u16 65535 a0)) + (IntKind.u64.wrap (Go.bits .xor .u16 65535 a1)))) + (IntKind.u64.wrap (a2)))) t168 _ A4.out).mono ?_); rintro e w' ⟨rfl, ⟨nd, rfl⟩⟩; refine ⟨_, rfl, ?_⟩))
  go_ret
  exact ⟨by first | rfl | (simp; done) | (simp [*]; done), by repeat (first | exact Drawn0.refl _ | apply Drawn0.step)⟩

end Go.Proofs.Ytbacmhegalncjaa.XB
