-- printed by a program of this session (wip/xprint), out of the translation; Lean checks it
import Derived.Test.YtbacmhegalncjaaXBx0
import Derived.Test.YtbacmhegalncjaaXBx1
import Derived.Test.YtbacmhegalncjaaXBx2
namespace Go.Proofs.Ytbacmhegalncjaa.XB
open Go.RowKit Go.Proofs.YtbacmhegalncjaaW.PrintWords Go.Proofs.YtbacmhegalncjaaW.PrintLast Go.Proofs.YtbacmhegalncjaaW.PrintMore Go.Proofs.YtbacmhegalncjaaX
attribute [local go_sem] max2_int min2_int max_two min_two max_three min_three max_four min_four   -- for this text's walks alone
set_option linter.unusedVariables false
set_option linter.unusedSimpArgs false

/-! ### weftlaw3_clone: function 18 -/
def weftlaw3_clone.l0 : Nat → List Int → List Int → Int → Option (List Int)
  | 0, _, _, _ => none
  | k + 1, x0, x3, x4 => if x4 < (x0.length : Int) then (if 0 ≤ x4 then (if x3.length < 140737488355328 then (weftlaw3_clone.l0 k x0 (x3 ++ [rd x0 x4]) (wrap64 (x4 + 1))) else (none)) else (none)) else (some x3)
def weftlaw3_clone.f (k : Nat) (l0 : List Int) : Option (List Int) := weftlaw3_clone.l0 k l0 ([] : List Int) 0
theorem weftlaw3_clone.mono_l : ∀ k, (∀ y0 y1 y2, LeO (weftlaw3_clone.l0 k y0 y1 y2) (weftlaw3_clone.l0 (k + 1) y0 y1 y2))
  | 0 => fun _ _ _ r h => by simp [weftlaw3_clone.l0] at h
  | k + 1 => by
    have ih0 := weftlaw3_clone.mono_l k
    · intro y0 y1 y2
      unfold weftlaw3_clone.l0
      repeat' first
      | (with_reducible exact ih0 _ _ _)
      | (with_reducible exact LeO.refl _)
      | (with_reducible exact LeO.none _)
      | (with_reducible refine LeO.ite ?_ ?_)
      | (with_reducible refine LeO.bind ?_ (fun _ => ?_))
      | exact ih0 _ _ _
      | exact LeO.none _
      | refine LeO.ite ?_ ?_
      | refine LeO.bind ?_ (fun _ => ?_)
theorem weftlaw3_clone.mono : ∀ a0 k, LeO (weftlaw3_clone.f k a0) (weftlaw3_clone.f (k + 1) a0) := by
  intro a0 k
  have ih0 := weftlaw3_clone.mono_l k
  unfold weftlaw3_clone.f
  repeat' first
      | (with_reducible exact ih0 _ _ _)
      | (with_reducible exact LeO.refl _)
      | (with_reducible exact LeO.none _)
      | (with_reducible refine LeO.ite ?_ ?_)
      | (with_reducible refine LeO.bind ?_ (fun _ => ?_))
      | exact ih0 _ _ _
      | exact LeO.none _
      | refine LeO.ite ?_ ?_
      | refine LeO.bind ?_ (fun _ => ?_)
set_option maxHeartbeats 8000000 in
set_option maxRecDepth 100000 in
theorem weftlaw3_clone.calls (k : Nat) (A0 : Option Addr) (c0 : Nat) (l0 : List Int) (r : List Int) (w : World) (hr0 : Kd.C (Kd.int .u8) w A0 l0.length l0) (hc0 : l0.length ≤ c0) (h : weftlaw3_clone.f k l0 = some r) :
    Calls Try.prog 18 #[.slice A0 l0.length c0] w fun e w' => ∃ v0_ : Value, e = .returned (v0_) ∧ Kd.R (Kd.int .u8) 5 w' w.heap.size (fun _ => True) v0_ r ∧ Below w.heap.size w w' := by
  have HR0 := Aside0.mk hr0
  have HC0 := Aside0.mk hc0
  clear hr0 hc0
  have HB := Aside0.mk (Below.refl w.heap.size w)
  have H : (weftlaw3_clone.l0 k l0 ([] : List Int) 0) = some r := h
  clear h
  have H' := Aside0.mk H
  clear H
  go_enter Try.func18, Try.ntmps18
  go_wp2
  go_loopg [3, 4] k (fun kq v3 v4 w' => ∃ (x3_1 : List Int) (x4_1 : Int), v4 = .int .i64 x4_1 ∧ Aside0 (weftlaw3_clone.l0 kq l0 x3_1 x4_1 = some r) ∧ Aside0 (kq ≤ k) ∧ Aside0 (Kd.R (Kd.int .u8) 5 w' w.heap.size (fun _ => True) v3 x3_1) ∧ Aside0 (Below w.heap.size w w'))
  case atStart => exact ⟨(([] : List Int)), (0), (by first | rfl | (simp; done) | (simp [*]; done)), H', ⟨Nat.le_refl _⟩, ⟨by first | exact Kd.R_nil _ _ _ _ _ | exact Kd.N_nil _ _ _ _ _ | exact Kd.V_nil _ _ _ _ _ | exact Kd.Q_nil _ _ _ _ _ | exact Kd.S_nil _ _ _ _ _⟩, ⟨by repeat (first | (with_reducible first | exact HB.out | apply below_alloc | apply pw_below_drewN | apply below_drew1) | exact HB.out)⟩⟩
  case round =>
    clear H'
    try clear c1
    obtain ⟨x3_1, x4_1, rfl, HA, HK1, HO_3, HB⟩ := hrel
    cases gk with
    | zero => exact absurd HA.out (by simp [weftlaw3_clone.l0])
    | succ k1 =>
      have H := HA.out
      clear HA
      simp only [weftlaw3_clone.l0] at H
      by_cases c2 : x4_1 < (l0.length : Int)
      · rw [if_pos c2] at H
        have c2b0 : decide (x4_1 < (l0.length : Int)) = true := decide_eq_true c2
        clear c2
        by_cases c3 : 0 ≤ x4_1
        · rw [if_pos c3] at H
          have c3b0 : decide (0 ≤ x4_1) = true := decide_eq_true c3
          clear c3
          by_cases c4 : x3_1.length < 140737488355328
          · rw [if_pos c4] at H
            have LMc4 := Aside0.mk c4
            clear c4
            obtain ⟨y170, hy170⟩ : ∃ y_ : List Int, y_ = (x3_1 ++ [rd l0 x4_1]) := ⟨_, rfl⟩
            replace H : (weftlaw3_clone.l0 k1 l0 y170 (wrap64 (x4_1 + 1))) = some r := by first | (rw [hy170]; with_reducible exact H) | (have H2_ := (Option.bind_some _ _).symm.trans H; rw [hy170]; with_reducible exact H2_) | (have H2_ := (Option.bind_some _ _).symm.trans H; with_reducible exact H2_) | with_reducible exact H | (rw [hy170]; exact H) | exact H
            have Ny170 := Aside0.mk hy170
            clear hy170
            have H' := Aside0.mk H
            clear H
            have p169 : 0 ≤ (x4_1 : Int) := of_decide_eq_true (by first | (with_reducible assumption) | assumption)
            have q169 : x4_1 < (l0.length : Int) := of_decide_eq_true (by first | (with_reducible assumption) | assumption)
            obtain ⟨ad169, e169, hx169_0⟩ := Kd.at_int HR0.out x4_1 p169 q169
            cases e169
            replace hx169_0 := (HB.out.cell (World.block_lt_of_cell? w _ hx169_0)).trans hx169_0
            replace p169 := eq_true p169
            replace q169 := eq_true q169
            go_wp2_with (first | ((with_reducible refine gate_builtin (b := .append) (xs := #[.tmp 11, .tmp 16]) rfl ?_); at_builtin; refine Kd.R_append (Kd.int .u8) (w0 := w) w.heap.size rfl (.tmp 11) (.tmp 16) 24 5 (.int .u8 0) 1 rfl Try.underlying24 info5 rfl (by decide) (by omega) u3 x3_1 (rd l0 x4_1) [.int .u8 (rd l0 x4_1)] (fun _ => True) (fun _ => False) rfl rfl ?aP (fun _ hk => hk.elim) ?aF ?aO ?aB ?aS ?aL ?_; (case aP => exact rfl); (case aB => exact (by repeat (first | (with_reducible first | exact HB.out | apply below_alloc | apply pw_below_drewN | apply below_drew1) | exact HB.out))); (case aF => exact (fun _ _ => trivial)); (case aO => exact (by (with_reducible repeat (first | apply Kd.R_alloc | apply Kd.R_drewN | apply Kd.R_drew)); exact HO_3.out)); (case aS => exact (below_size (by repeat (first | (with_reducible first | exact HB.out | apply below_alloc | apply pw_below_drewN | apply below_drew1) | exact HB.out)))); (case aL => have := LMc4.out; omega); intro v171 w5 ho hb hg hat; rw [← Ny170.out] at ho; have n0_ := Aside0.mk (hb); have n1_ := Aside0.mk (ho); clear HB; clear HO_3; have HB := n0_; have HO172 := n1_; clear n0_ n1_; clear ho hb hg hat))
            go_roundg k1
            case measure => have := HK1.out; omega
            case rel => exact ⟨(y170), (wrap64 (x4_1 + 1)), (by first | rfl | (simp; done) | (simp [*]; done)), H', ⟨by have := HK1.out; omega⟩, ⟨by (with_reducible repeat (first | apply Kd.R_alloc | apply Kd.R_drewN | apply Kd.R_drew)); exact HO172.out⟩, ⟨by repeat (first | (with_reducible first | exact HB.out | apply below_alloc | apply pw_below_drewN | apply below_drew1) | exact HB.out)⟩⟩
          · rw [if_neg c4] at H
            exact absurd H (by simp)
        · rw [if_neg c3] at H
          exact absurd H (by simp)
      · rw [if_neg c2] at H
        have c2b0 : decide (x4_1 < (l0.length : Int)) = false := decide_eq_false c2
        clear c2
        obtain rfl := Option.some.inj H
        go_wp2
        go_ret
        exact ⟨_, by first | rfl | (simp [errW_none, errW_some] <;> rfl) | (simp [*, errW_none, errW_some] <;> rfl), by (with_reducible repeat (first | apply Kd.R_alloc | apply Kd.R_drewN | apply Kd.R_drew)); exact HO_3.out, by repeat (first | (with_reducible first | exact HB.out | apply below_alloc | apply pw_below_drewN | apply below_drew1) | exact HB.out)⟩

/-! ### weftlaw3_word: function 19 -/
def weftlaw3_word.f (l0 : List Int) (a1 : Int) : Option (Int) := if 0 ≤ a1 then (if a1 < (l0.length : Int) then (if 0 ≤ (wrap64 (a1 + 1)) then (if (wrap64 (a1 + 1)) < (l0.length : Int) then (some (wrap64 ((wrap64 ((wrap64 (rd l0 a1)) * 256)) + (wrap64 (rd l0 (wrap64 (a1 + 1))))))) else (none)) else (none)) else (none)) else (none)
set_option maxHeartbeats 8000000 in
set_option maxRecDepth 100000 in
theorem weftlaw3_word.calls (A0 : Option Addr) (c0 : Nat) (l0 : List Int) (a1 : Int) (r : Int) (w : World) (hr0 : Kd.C (Kd.int .u8) w A0 l0.length l0) (hc0 : l0.length ≤ c0) (h : weftlaw3_word.f l0 a1 = some r) :
    Calls Try.prog 19 #[.slice A0 l0.length c0, .int .i64 a1] w fun e w' => e = .returned (.int .i64 r) ∧ Drawn0 w w' := by
  have HR0 := Aside0.mk hr0
  have HC0 := Aside0.mk hc0
  clear hr0 hc0
  have H : (if 0 ≤ a1 then (if a1 < (l0.length : Int) then (if 0 ≤ (wrap64 (a1 + 1)) then (if (wrap64 (a1 + 1)) < (l0.length : Int) then (some (wrap64 ((wrap64 ((wrap64 (rd l0 a1)) * 256)) + (wrap64 (rd l0 (wrap64 (a1 + 1))))))) else (none)) else (none)) else (none)) else (none)) = some r := h
  clear h
  by_cases c3 : 0 ≤ a1
  · rw [if_pos c3] at H
    have c3b0 : decide (0 ≤ a1) = true := decide_eq_true c3
    clear c3
    by_cases c4 : a1 < (l0.length : Int)
    · rw [if_pos c4] at H
      have c4b0 : decide (a1 < (l0.length : Int)) = true := decide_eq_true c4
      clear c4
      obtain ⟨ji5, hji5⟩ : ∃ j_ : Int, (wrap64 (a1 + 1)) = j_ := ⟨_, rfl⟩
      replace H : (if 0 ≤ (ji5) then (if (ji5) < (l0.length : Int) then (some (wrap64 ((wrap64 ((wrap64 (rd l0 a1)) * 256)) + (wrap64 (rd l0 (ji5)))))) else (none)) else (none)) = some r := by first | (rw [hji5] at H; exact H) | (simp only [hji5] at H ⊢; exact H)
      have hji5w : (IntKind.i64.wrap (a1 + 1)) = ji5 := (i64_w _).trans hji5
      by_cases c6 : 0 ≤ (ji5)
      · rw [if_pos c6] at H
        have c6b0 : decide (0 ≤ (ji5)) = true := decide_eq_true c6
        clear c6
        by_cases c7 : (ji5) < (l0.length : Int)
        · rw [if_pos c7] at H
          have c7b0 : decide ((ji5) < (l0.length : Int)) = true := decide_eq_true c7
          clear c7
          obtain rfl := Option.some.inj H
          have p173 : 0 ≤ (a1 : Int) := of_decide_eq_true (by first | (with_reducible assumption) | assumption)
          have q173 : a1 < (l0.length : Int) := of_decide_eq_true (by first | (with_reducible assumption) | assumption)
          obtain ⟨ad173, e173, hx173_0⟩ := Kd.at_int HR0.out a1 p173 q173
          cases e173
          replace p173 := eq_true p173
          replace q173 := eq_true q173
          have p174 : 0 ≤ ((ji5) : Int) := of_decide_eq_true (by first | (with_reducible assumption) | assumption)
          have q174 : (ji5) < (l0.length : Int) := of_decide_eq_true (by first | (with_reducible assumption) | assumption)
          obtain ⟨ad174, e174, hx174_0⟩ := Kd.at_int HR0.out (ji5) p174 q174
          obtain rfl : ad173 = ad174 := (by injection e174)
          replace p174 := eq_true p174
          replace q174 := eq_true q174
          go_enter Try.func19, Try.ntmps19
          go_wp2
          repeat (go_quiet (fail); try go_wp2)
          go_ret
          exact ⟨by first | rfl | (simp; done) | (simp only [← hji5] <;> (first | rfl | simp)) | (simp [*]; done), by repeat (first | exact Drawn0.refl _ | apply Drawn0.step)⟩
        · rw [if_neg c7] at H
          exact absurd H (by simp)
      · rw [if_neg c6] at H
        exact absurd H (by simp)
    · rw [if_neg c4] at H
      exact absurd H (by simp)
  · rw [if_neg c3] at H
    exact absurd H (by simp)

/-! ### weftlaw3_Ip4AdjustSum: function 4 -/
mutual
def weftlaw3_Ip4AdjustSum.j0 : Nat → Int → Int → List Int → Option (Bool)
  | 0, _, _, _ => none
  | k + 1, x1, x2, x7 => if (x7.length : Int) = 0 then (some true) else (if x1 < 0 then (weftlaw3_Ip4AdjustSum.j1 k (wrap64 (-(wrap64 (x1 + 1)))) x2 x7) else (weftlaw3_Ip4AdjustSum.j1 k x1 x2 x7))
def weftlaw3_Ip4AdjustSum.j1 : Nat → Int → Int → List Int → Option (Bool)
  | 0, _, _, _ => none
  | k + 1, x1, x2, x7 => if (x7.length : Int) = 0 then (none) else ((weftlaw3_word.f x7 (wrap64 ((Int.tmod x1 (x7.length : Int)) - (Int.tmod (Int.tmod x1 (x7.length : Int)) 2)))).bind fun t182 => ((ip4_Sum.f k (([x7] : List (List Int)))).bind fun t187 => (if 0 ≤ (wrap64 ((Int.tmod x1 (x7.length : Int)) - (Int.tmod (Int.tmod x1 (x7.length : Int)) 2))) then (if (wrap64 ((Int.tmod x1 (x7.length : Int)) - (Int.tmod (Int.tmod x1 (x7.length : Int)) 2))) < (x7.length : Int) then (if 0 ≤ (wrap64 ((wrap64 ((Int.tmod x1 (x7.length : Int)) - (Int.tmod (Int.tmod x1 (x7.length : Int)) 2))) + 1)) then (if (wrap64 ((wrap64 ((Int.tmod x1 (x7.length : Int)) - (Int.tmod (Int.tmod x1 (x7.length : Int)) 2))) + 1)) < (x7.length : Int) then ((ip4_Adjust.f k t187 (IntKind.u16.wrap (t182)) x2).bind fun t190 => (weftlaw3_Ip4AdjustSum.l0 k ((x7.set ((wrap64 ((Int.tmod x1 (x7.length : Int)) - (Int.tmod (Int.tmod x1 (x7.length : Int)) 2))) : Int).toNat ((x2 / 256) % 256)).set ((wrap64 ((wrap64 ((Int.tmod x1 (x7.length : Int)) - (Int.tmod (Int.tmod x1 (x7.length : Int)) 2))) + 1)) : Int).toNat ((x2) % 256)) t190 true 0)) else (none)) else (none)) else (none)) else (none))))
def weftlaw3_Ip4AdjustSum.l0 : Nat → List Int → Int → Bool → Int → Option (Bool)
  | 0, _, _, _, _ => none
  | k + 1, x7, x10, x11, x12 => if x12 < (x7.length : Int) then (if 0 ≤ x12 then (if (rd x7 x12) = 0 then (weftlaw3_Ip4AdjustSum.l0 k x7 x10 x11 (wrap64 (x12 + 1))) else (weftlaw3_Ip4AdjustSum.l0 k x7 x10 false (wrap64 (x12 + 1)))) else (none)) else (if x11 = true then (if x10 = 0 then ((ip4_Sum.f k (([x7] : List (List Int)))).bind fun t196 => (some (t196 == 65535))) else (some false)) else ((ip4_Sum.f k (([x7] : List (List Int)))).bind fun t201 => (some (x10 == t201))))
end
def weftlaw3_Ip4AdjustSum.f (k : Nat) (l0 : List Int) (a1 : Int) (a2 : Int) : Option (Bool) := (ip4_Adjust.f k 4660 16390 16134).bind fun t175 => (if t175 = 4916 then ((weftlaw3_clone.f k l0).bind fun t176 => (if ((t176.length : Int) % 2) = 1 then (if t176.length < 140737488355328 then (weftlaw3_Ip4AdjustSum.j0 k a1 a2 (t176 ++ [0])) else (none)) else (weftlaw3_Ip4AdjustSum.j0 k a1 a2 t176))) else (some false))
theorem weftlaw3_Ip4AdjustSum.mono_l : ∀ k, (∀ y0 y1 y2, LeO (weftlaw3_Ip4AdjustSum.j0 k y0 y1 y2) (weftlaw3_Ip4AdjustSum.j0 (k + 1) y0 y1 y2)) ∧ (∀ y0 y1 y2, LeO (weftlaw3_Ip4AdjustSum.j1 k y0 y1 y2) (weftlaw3_Ip4AdjustSum.j1 (k + 1) y0 y1 y2)) ∧ (∀ y0 y1 y2 y3, LeO (weftlaw3_Ip4AdjustSum.l0 k y0 y1 y2 y3) (weftlaw3_Ip4AdjustSum.l0 (k + 1) y0 y1 y2 y3))
  | 0 => ⟨fun _ _ _ r h => by simp [weftlaw3_Ip4AdjustSum.j0] at h, fun _ _ _ r h => by simp [weftlaw3_Ip4AdjustSum.j1] at h, fun _ _ _ _ r h => by simp [weftlaw3_Ip4AdjustSum.l0] at h⟩
  | k + 1 => by
    obtain ⟨ih0, ih1, ih2⟩ := weftlaw3_Ip4AdjustSum.mono_l k
    refine ⟨?_, ?_, ?_⟩
    · intro y0 y1 y2
      unfold weftlaw3_Ip4AdjustSum.j0
      repeat' first
      | (with_reducible exact ih0 _ _ _)
      | (with_reducible exact ih1 _ _ _)
      | (with_reducible exact ih2 _ _ _ _)
      | (with_reducible exact ip4_Adjust.mono _ _ _ _)
      | (with_reducible exact ip4_Sum.mono _ _)
      | (with_reducible exact weftlaw3_clone.mono _ _)
      | (with_reducible exact LeO.refl _)
      | (with_reducible exact LeO.none _)
      | (with_reducible refine LeO.ite ?_ ?_)
      | (with_reducible refine LeO.bind ?_ (fun _ => ?_))
      | exact ih0 _ _ _
      | exact ih1 _ _ _
      | exact ih2 _ _ _ _
      | exact ip4_Adjust.mono _ _ _ _
      | exact ip4_Sum.mono _ _
      | exact weftlaw3_clone.mono _ _
      | exact LeO.none _
      | refine LeO.ite ?_ ?_
      | refine LeO.bind ?_ (fun _ => ?_)
    · intro y0 y1 y2
      unfold weftlaw3_Ip4AdjustSum.j1
      repeat' first
      | (with_reducible exact ih0 _ _ _)
      | (with_reducible exact ih1 _ _ _)
      | (with_reducible exact ih2 _ _ _ _)
      | (with_reducible exact ip4_Adjust.mono _ _ _ _)
      | (with_reducible exact ip4_Sum.mono _ _)
      | (with_reducible exact weftlaw3_clone.mono _ _)
      | (with_reducible exact LeO.refl _)
      | (with_reducible exact LeO.none _)
      | (with_reducible refine LeO.ite ?_ ?_)
      | (with_reducible refine LeO.bind ?_ (fun _ => ?_))
      | exact ih0 _ _ _
      | exact ih1 _ _ _
      | exact ih2 _ _ _ _
      | exact ip4_Adjust.mono _ _ _ _
      | exact ip4_Sum.mono _ _
      | exact weftlaw3_clone.mono _ _
      | exact LeO.none _
      | refine LeO.ite ?_ ?_
      | refine LeO.bind ?_ (fun _ => ?_)
    · intro y0 y1 y2 y3
      unfold weftlaw3_Ip4AdjustSum.l0
      repeat' first
      | (with_reducible exact ih0 _ _ _)
      | (with_reducible exact ih1 _ _ _)
      | (with_reducible exact ih2 _ _ _ _)
      | (with_reducible exact ip4_Adjust.mono _ _ _ _)
      | (with_reducible exact ip4_Sum.mono _ _)
      | (with_reducible exact weftlaw3_clone.mono _ _)
      | (with_reducible exact LeO.refl _)
      | (with_reducible exact LeO.none _)
      | (with_reducible refine LeO.ite ?_ ?_)
      | (with_reducible refine LeO.bind ?_ (fun _ => ?_))
      | exact ih0 _ _ _
      | exact ih1 _ _ _
      | exact ih2 _ _ _ _
      | exact ip4_Adjust.mono _ _ _ _
      | exact ip4_Sum.mono _ _
      | exact weftlaw3_clone.mono _ _
      | exact LeO.none _
      | refine LeO.ite ?_ ?_
      | refine LeO.bind ?_ (fun _ => ?_)
theorem weftlaw3_Ip4AdjustSum.mono : ∀ a0 a1 a2 k, LeO (weftlaw3_Ip4AdjustSum.f k a0 a1 a2) (weftlaw3_Ip4AdjustSum.f (k + 1) a0 a1 a2) := by
  intro a0 a1 a2 k
  obtain ⟨ih0, ih1, ih2⟩ := weftlaw3_Ip4AdjustSum.mono_l k
  unfold weftlaw3_Ip4AdjustSum.f
  repeat' first
      | (with_reducible exact ih0 _ _ _)
      | (with_reducible exact ih1 _ _ _)
      | (with_reducible exact ih2 _ _ _ _)
      | (with_reducible exact ip4_Adjust.mono _ _ _ _)
      | (with_reducible exact ip4_Sum.mono _ _)
      | (with_reducible exact weftlaw3_clone.mono _ _)
      | (with_reducible exact LeO.refl _)
      | (with_reducible exact LeO.none _)
      | (with_reducible refine LeO.ite ?_ ?_)
      | (with_reducible refine LeO.bind ?_ (fun _ => ?_))
      | exact ih0 _ _ _
      | exact ih1 _ _ _
      | exact ih2 _ _ _ _
      | exact ip4_Adjust.mono _ _ _ _
      | exact ip4_Sum.mono _ _
      | exact weftlaw3_clone.mono _ _
      | exact LeO.none _
      | refine LeO.ite ?_ ?_
      | refine LeO.bind ?_ (fun _ => ?_)
set_option maxHeartbeats 8000000 in
set_option maxRecDepth 100000 in
theorem weftlaw3_Ip4AdjustSum.calls (k : Nat) (A0 : Option Addr) (c0 : Nat) (l0 : List Int) (a1 : Int) (a2 : Int) (r : Bool) (w : World) (hr0 : Kd.C (Kd.int .u8) w A0 l0.length l0) (hc0 : l0.length ≤ c0) (h : weftlaw3_Ip4AdjustSum.f k l0 a1 a2 = some r) :
    Calls Try.prog 4 #[.slice A0 l0.length c0, .int .i64 a1, .int .u16 a2] w fun e w' => e = .returned (.bool r) ∧ Below w.heap.size w w' := by
  have HR0 := Aside0.mk hr0
  have HC0 := Aside0.mk hc0
  clear hr0 hc0
  have HB := Aside0.mk (Below.refl w.heap.size w)
  have H : ((ip4_Adjust.f k 4660 16390 16134).bind fun t175 => (if t175 = 4916 then ((weftlaw3_clone.f k l0).bind fun t176 => (if ((t176.length : Int) % 2) = 1 then (if t176.length < 140737488355328 then (weftlaw3_Ip4AdjustSum.j0 k a1 a2 (t176 ++ [0])) else (none)) else (weftlaw3_Ip4AdjustSum.j0 k a1 a2 t176))) else (some false))) = some r := h
  clear h
  replace H := Option.bind_eq_some_iff.mp H
  obtain ⟨t175, A40, H⟩ := H
  replace H : (if t175 = 4916 then ((weftlaw3_clone.f k l0).bind fun t176 => (if ((t176.length : Int) % 2) = 1 then (if t176.length < 140737488355328 then (weftlaw3_Ip4AdjustSum.j0 k a1 a2 (t176 ++ [0])) else (none)) else (weftlaw3_Ip4AdjustSum.j0 k a1 a2 t176))) else (some false)) = some r := H
  have A4 := Aside0.mk A40
  clear A40
  by_cases c5 : t175 = 4916
  · rw [if_pos c5] at H
    have c5b0 : (t175 == 4916) = true := beq_iff_eq.mpr c5
    have c5b1 : (t175 != 4916) = false := bne_eq_false_iff_eq.mpr c5
    clear c5
    replace H := Option.bind_eq_some_iff.mp H
    obtain ⟨t176, A60, H⟩ := H
    replace H : (if ((t176.length : Int) % 2) = 1 then (if t176.length < 140737488355328 then (weftlaw3_Ip4AdjustSum.j0 k a1 a2 (t176 ++ [0])) else (none)) else (weftlaw3_Ip4AdjustSum.j0 k a1 a2 t176)) = some r := H
    have A6 := Aside0.mk A60
    clear A60
    have HC7 := Aside0.mk H
    clear H
    go_enter Try.func4, Try.ntmps4
    go_upto_if 20 with (first | ((with_reducible refine gate_callee (f := 17) rfl ?_); refine goesL_ (some 13) rfl rfl Try.func17 (by kernel_rfl) rfl #[.int .u16 4660, .int .u16 16390, .int .u16 16134] rfl (by (try simp only [List.map_toArray, List.map_cons, List.map_nil]); first | done | rfl | (simp only [List.length_drop, List.length_take]; rfl)) ?_; (with_reducible refine (ip4_Adjust.calls k 4660 16390 16134 t175 _ A4.out).mono ?_); rintro e w' ⟨rfl, ⟨nd, rfl⟩⟩; refine ⟨_, rfl, ?_⟩) | ((with_reducible refine gate_callee (f := 18) rfl ?_); refine goesL_ (some 16) rfl rfl Try.func18 (by kernel_rfl) rfl #[.slice A0 l0.length c0] rfl (by (try simp only [List.map_toArray, List.map_cons, List.map_nil]); first | done | rfl | (simp only [List.length_drop, List.length_take]; rfl)) ?_; (with_reducible refine (weftlaw3_clone.calls k _ _ l0 t176 _ ?side1 ?side2 A6.out).mono ?_); (case side1 => repeat (first | exact HR0.out | (with_reducible refine Kd.C_alloc ?_ _) | (with_reducible refine Kd.C_drewN ?_ _) | (with_reducible refine Kd.C_drew ?_))); (case side2 => exact HC0.out); rintro e w8 ⟨v177, rfl, ho0, hb⟩; refine ⟨_, rfl, ?_⟩; have n0_ := Aside0.mk (Kd.R_lower ho0 (below_size (by repeat (first | (with_reducible first | exact HB.out | apply below_alloc | apply pw_below_drewN | apply below_drew1) | exact HB.out)))); have n1_ := Aside0.mk (below_step (by repeat (first | (with_reducible first | exact HB.out | apply below_alloc | apply pw_below_drewN | apply below_drew1) | exact HB.out)) hb); clear HB; have HO178 := n0_; have HB := n1_; clear n0_ n1_; (try clear hb); (try clear hb2); (try clear hk); (try clear hi); (try clear ho0); obtain ⟨Ao9, co9, eo9⟩ := Kd.R_slice HO178.out; subst eo9))
    (try simp only [Act.put, List.setIfInBounds_toArray, List.set_cons_zero, List.set_cons_succ])
    go_cut [7] (fun v7 wc => ∃ (kq : Nat) (x7_6 : List Int), Aside0 (weftlaw3_Ip4AdjustSum.j0 kq a1 a2 x7_6 = some r) ∧ Aside0 (kq ≤ k) ∧ Aside0 (Kd.R (Kd.int .u8) 5 wc w.heap.size (fun _ => True) v7 x7_6) ∧ Aside0 (Below w.heap.size w wc))
    case first =>
      have H := HC7.out
      clear HC7
      by_cases c10 : ((t176.length : Int) % 2) = 1
      · rw [if_pos c10] at H
        have c10b0 : (((t176.length : Int) % 2) == 1) = true := beq_iff_eq.mpr c10
        have c10b1 : (((t176.length : Int) % 2) != 1) = false := bne_eq_false_iff_eq.mpr c10
        clear c10
        (first | rw [c10b0] | (simp only [i64_w, i32_w]; rw [c10b0]) | skip)
        by_cases c11 : t176.length < 140737488355328
        · rw [if_pos c11] at H
          have LMc11 := Aside0.mk c11
          clear c11
          obtain ⟨y179, hy179⟩ : ∃ y_ : List Int, y_ = (t176 ++ [0]) := ⟨_, rfl⟩
          replace H : (weftlaw3_Ip4AdjustSum.j0 k a1 a2 y179) = some r := by first | (rw [hy179]; with_reducible exact H) | (have H2_ := (Option.bind_some _ _).symm.trans H; rw [hy179]; with_reducible exact H2_) | (have H2_ := (Option.bind_some _ _).symm.trans H; with_reducible exact H2_) | with_reducible exact H | (rw [hy179]; exact H) | exact H
          have Ny179 := Aside0.mk hy179
          clear hy179
          have H' := Aside0.mk H
          clear H
          go_wp2_with (first | ((with_reducible refine gate_builtin (b := .append) (xs := #[.tmp 21, .tmp 22]) rfl ?_); (try (refine gate_guard (by rfl) ?_; dsimp only)); at_builtin; refine Kd.R_append (Kd.int .u8) (w0 := w) w.heap.size rfl (.tmp 21) (.tmp 22) 24 5 (.int .u8 0) 1 rfl Try.underlying24 info5 rfl (by decide) (by omega) (.slice Ao9 t176.length co9) t176 0 [.int .u8 0] (fun _ => True) (fun _ => False) rfl rfl ?aP (fun _ hk => hk.elim) ?aF ?aO ?aB ?aS ?aL ?_; (case aP => exact rfl); (case aB => exact (by repeat (first | (with_reducible first | exact HB.out | apply below_alloc | apply pw_below_drewN | apply below_drew1) | exact HB.out))); (case aF => exact (fun _ _ => trivial)); (case aO => exact (by (with_reducible repeat (first | apply Kd.R_alloc | apply Kd.R_drewN | apply Kd.R_drew)); exact HO178.out)); (case aS => exact (below_size (by repeat (first | (with_reducible first | exact HB.out | apply below_alloc | apply pw_below_drewN | apply below_drew1) | exact HB.out)))); (case aL => have := LMc11.out; omega); intro v180 w12 ho hb hg hat; rw [← Ny179.out] at ho; have n0_ := Aside0.mk (hb); have n1_ := Aside0.mk (ho); clear HB; clear HO178; have HB := n0_; have HO181 := n1_; clear n0_ n1_; clear ho hb hg hat))
          go_meet
          case rel => exact ⟨_, (y179), H', ⟨by first | omega | exact Nat.le_refl _⟩, ⟨by (with_reducible repeat (first | apply Kd.R_alloc | apply Kd.R_drewN | apply Kd.R_drew)); exact HO181.out⟩, ⟨by repeat (first | (with_reducible first | exact HB.out | apply below_alloc | apply pw_below_drewN | apply below_drew1) | exact HB.out)⟩⟩
        · rw [if_neg c11] at H
          exact absurd H (by simp)
      · rw [if_neg c10] at H
        have c10b0 : (((t176.length : Int) % 2) == 1) = false := beq_eq_false_iff_ne.mpr c10
        have c10b1 : (((t176.length : Int) % 2) != 1) = true := bne_iff_ne.mpr c10
        (first | rw [c10b0] | (simp only [i64_w, i32_w]; rw [c10b0]) | skip)
        have H' := Aside0.mk H
        clear H
        go_wp2
        go_meet
        case rel => exact ⟨_, (t176), H', ⟨by first | omega | exact Nat.le_refl _⟩, ⟨by (with_reducible repeat (first | apply Kd.R_alloc | apply Kd.R_drewN | apply Kd.R_drew)); exact HO178.out⟩, ⟨by repeat (first | (with_reducible first | exact HB.out | apply below_alloc | apply pw_below_drewN | apply below_drew1) | exact HB.out)⟩⟩
    case rest =>
      clear HC7
      try clear c1
      try clear p2
      try clear c4
      try clear p4
      try clear c5
      try clear c5b0
      try clear c5b1
      try clear c10
      try clear c10b0
      try clear c10b1
      try clear c11
      obtain ⟨kq, x7_6, HA, HJ6, HO_7, HB⟩ := hcut
      cases kq with
      | zero => exact absurd HA.out (by simp [weftlaw3_Ip4AdjustSum.j0])
      | succ kj6 =>
        have H := HA.out
        clear HA
        simp only [weftlaw3_Ip4AdjustSum.j0] at H
        by_cases c13 : (x7_6.length : Int) = 0
        · rw [if_pos c13] at H
          have c13b0 : ((x7_6.length : Int) == 0) = true := beq_iff_eq.mpr c13
          have c13b1 : ((x7_6.length : Int) != 0) = false := bne_eq_false_iff_eq.mpr c13
          clear c13
          obtain rfl := Option.some.inj H
          obtain ⟨Ao14, co14, eo14⟩ := Kd.R_slice HO_7.out
          subst eo14
          go_wp2
          go_ret
          exact ⟨by first | rfl | (simp [errW_none, errW_some] <;> rfl) | (simp [*, errW_none, errW_some] <;> rfl), by repeat (first | (with_reducible first | exact HB.out | apply below_alloc | apply pw_below_drewN | apply below_drew1) | exact HB.out)⟩
        · rw [if_neg c13] at H
          have c13b0 : ((x7_6.length : Int) == 0) = false := beq_eq_false_iff_ne.mpr c13
          have c13b1 : ((x7_6.length : Int) != 0) = true := bne_iff_ne.mpr c13
          have c13b2 : ¬ (x7_6 = []) := fun h_ => c13 (by rw [h_]; rfl)
          have HC15 := Aside0.mk H
          clear H
          obtain ⟨Ao16, co16, eo16⟩ := Kd.R_slice HO_7.out
          subst eo16
          go_upto_if 28 with (fail)
          go_cut [1] (fun v1 wc => ∃ (kq : Nat) (x1_14 : Int), v1 = .int .i64 x1_14 ∧ Aside0 (weftlaw3_Ip4AdjustSum.j1 kq x1_14 a2 x7_6 = some r) ∧ Aside0 (kq ≤ kj6) ∧ Aside0 (Kd.R (Kd.int .u8) 5 wc w.heap.size (fun _ => True) (.slice Ao16 x7_6.length co16) x7_6) ∧ Aside0 (Below w.heap.size w wc))
          case first =>
            have H := HC15.out
            clear HC15
            by_cases c17 : a1 < 0
            · rw [if_pos c17] at H
              have c17b0 : decide (a1 < 0) = true := decide_eq_true c17
              clear c17
              (first | rw [c17b0] | (simp only [i64_w, i32_w]; rw [c17b0]) | skip)
              have H' := Aside0.mk H
              clear H
              go_wp2
              go_meet
              case rel => exact ⟨_, (wrap64 (-(wrap64 (a1 + 1)))), (by first | rfl | (simp; done) | (simp [*]; done)), H', ⟨by have := HJ6.out; first | omega | exact Nat.le_refl _⟩, ⟨by (with_reducible repeat (first | apply Kd.R_alloc | apply Kd.R_drewN | apply Kd.R_drew)); exact HO_7.out⟩, ⟨by repeat (first | (with_reducible first | exact HB.out | apply below_alloc | apply pw_below_drewN | apply below_drew1) | exact HB.out)⟩⟩
            · rw [if_neg c17] at H
              have c17b0 : decide (a1 < 0) = false := decide_eq_false c17
              clear c17
              (first | rw [c17b0] | (simp only [i64_w, i32_w]; rw [c17b0]) | skip)
              have H' := Aside0.mk H
              clear H
              go_wp2
              go_meet
              case rel => exact ⟨_, (a1), (by first | rfl | (simp; done) | (simp [*]; done)), H', ⟨by have := HJ6.out; first | omega | exact Nat.le_refl _⟩, ⟨by (with_reducible repeat (first | apply Kd.R_alloc | apply Kd.R_drewN | apply Kd.R_drew)); exact HO_7.out⟩, ⟨by repeat (first | (with_reducible first | exact HB.out | apply below_alloc | apply pw_below_drewN | apply below_drew1) | exact HB.out)⟩⟩
          case rest =>
            clear HC15
            try clear c1
            try clear p2
            try clear c4
            try clear p4
            try clear c5
            try clear c5b0
            try clear c5b1
            try clear p6
            try clear c10
            try clear c10b0
            try clear c10b1
            try clear c11
            try clear c13
            try clear c13b0
            try clear c13b1
            try clear c13b2
            try clear c17
            try clear c17b0
            try clear p2
            try clear p4
            obtain ⟨kq, x1_14, rfl, HA, HJ14, HO_7, HB⟩ := hcut
            cases kq with
            | zero => exact absurd HA.out (by simp [weftlaw3_Ip4AdjustSum.j1])
            | succ kj14 =>
              have H := HA.out
              clear HA
              simp only [weftlaw3_Ip4AdjustSum.j1] at H
              by_cases c18 : (x7_6.length : Int) = 0
              · rw [if_pos c18] at H
                exact absurd H (by simp)
              · rw [if_neg c18] at H
                have c18b0 : ((x7_6.length : Int) == 0) = false := beq_eq_false_iff_ne.mpr c18
                have c18b1 : ((x7_6.length : Int) != 0) = true := bne_iff_ne.mpr c18
                have c18b2 : ¬ (x7_6 = []) := fun h_ => c18 (by rw [h_]; rfl)
                replace H := Option.bind_eq_some_iff.mp H
                obtain ⟨t182, A190, H⟩ := H
                replace H : ((ip4_Sum.f kj14 (([x7_6] : List (List Int)))).bind fun t187 => (if 0 ≤ (wrap64 ((Int.tmod x1_14 (x7_6.length : Int)) - (Int.tmod (Int.tmod x1_14 (x7_6.length : Int)) 2))) then (if (wrap64 ((Int.tmod x1_14 (x7_6.length : Int)) - (Int.tmod (Int.tmod x1_14 (x7_6.length : Int)) 2))) < (x7_6.length : Int) then (if 0 ≤ (wrap64 ((wrap64 ((Int.tmod x1_14 (x7_6.length : Int)) - (Int.tmod (Int.tmod x1_14 (x7_6.length : Int)) 2))) + 1)) then (if (wrap64 ((wrap64 ((Int.tmod x1_14 (x7_6.length : Int)) - (Int.tmod (Int.tmod x1_14 (x7_6.length : Int)) 2))) + 1)) < (x7_6.length : Int) then ((ip4_Adjust.f kj14 t187 (IntKind.u16.wrap (t182)) a2).bind fun t190 => (weftlaw3_Ip4AdjustSum.l0 kj14 ((x7_6.set ((wrap64 ((Int.tmod x1_14 (x7_6.length : Int)) - (Int.tmod (Int.tmod x1_14 (x7_6.length : Int)) 2))) : Int).toNat ((a2 / 256) % 256)).set ((wrap64 ((wrap64 ((Int.tmod x1_14 (x7_6.length : Int)) - (Int.tmod (Int.tmod x1_14 (x7_6.length : Int)) 2))) + 1)) : Int).toNat ((a2) % 256)) t190 true 0)) else (none)) else (none)) else (none)) else (none))) = some r := H
                have A19 := Aside0.mk A190
                clear A190
                obtain ⟨y183, hy183⟩ : ∃ y_ : List (List Int), y_ = (([x7_6] : List (List Int))) := ⟨_, rfl⟩
                replace H : ((ip4_Sum.f kj14 y183).bind fun t187 => (if 0 ≤ (wrap64 ((Int.tmod x1_14 (x7_6.length : Int)) - (Int.tmod (Int.tmod x1_14 (x7_6.length : Int)) 2))) then (if (wrap64 ((Int.tmod x1_14 (x7_6.length : Int)) - (Int.tmod (Int.tmod x1_14 (x7_6.length : Int)) 2))) < (x7_6.length : Int) then (if 0 ≤ (wrap64 ((wrap64 ((Int.tmod x1_14 (x7_6.length : Int)) - (Int.tmod (Int.tmod x1_14 (x7_6.length : Int)) 2))) + 1)) then (if (wrap64 ((wrap64 ((Int.tmod x1_14 (x7_6.length : Int)) - (Int.tmod (Int.tmod x1_14 (x7_6.length : Int)) 2))) + 1)) < (x7_6.length : Int) then ((ip4_Adjust.f kj14 t187 (IntKind.u16.wrap (t182)) a2).bind fun t190 => (weftlaw3_Ip4AdjustSum.l0 kj14 ((x7_6.set ((wrap64 ((Int.tmod x1_14 (x7_6.length : Int)) - (Int.tmod (Int.tmod x1_14 (x7_6.length : Int)) 2))) : Int).toNat ((a2 / 256) % 256)).set ((wrap64 ((wrap64 ((Int.tmod x1_14 (x7_6.length : Int)) - (Int.tmod (Int.tmod x1_14 (x7_6.length : Int)) 2))) + 1)) : Int).toNat ((a2) % 256)) t190 true 0)) else (none)) else (none)) else (none)) else (none))) = some r := by first | (rw [hy183]; with_reducible exact H) | (have H2_ := (Option.bind_some _ _).symm.trans H; rw [hy183]; with_reducible exact H2_) | (have H2_ := (Option.bind_some _ _).symm.trans H; with_reducible exact H2_) | with_reducible exact H | (rw [hy183]; exact H) | exact H
                have Ny183 := Aside0.mk hy183
                clear hy183
                replace H := Option.bind_eq_some_iff.mp H
                obtain ⟨t187, A200, H⟩ := H
                replace H : (if 0 ≤ (wrap64 ((Int.tmod x1_14 (x7_6.length : Int)) - (Int.tmod (Int.tmod x1_14 (x7_6.length : Int)) 2))) then (if (wrap64 ((Int.tmod x1_14 (x7_6.length : Int)) - (Int.tmod (Int.tmod x1_14 (x7_6.length : Int)) 2))) < (x7_6.length : Int) then (if 0 ≤ (wrap64 ((wrap64 ((Int.tmod x1_14 (x7_6.length : Int)) - (Int.tmod (Int.tmod x1_14 (x7_6.length : Int)) 2))) + 1)) then (if (wrap64 ((wrap64 ((Int.tmod x1_14 (x7_6.length : Int)) - (Int.tmod (Int.tmod x1_14 (x7_6.length : Int)) 2))) + 1)) < (x7_6.length : Int) then ((ip4_Adjust.f kj14 t187 (IntKind.u16.wrap (t182)) a2).bind fun t190 => (weftlaw3_Ip4AdjustSum.l0 kj14 ((x7_6.set ((wrap64 ((Int.tmod x1_14 (x7_6.length : Int)) - (Int.tmod (Int.tmod x1_14 (x7_6.length : Int)) 2))) : Int).toNat ((a2 / 256) % 256)).set ((wrap64 ((wrap64 ((Int.tmod x1_14 (x7_6.length : Int)) - (Int.tmod (Int.tmod x1_14 (x7_6.length : Int)) 2))) + 1)) : Int).toNat ((a2) % 256)) t190 true 0)) else (none)) else (none)) else (none)) else (none)) = some r := H
                have A20 := Aside0.mk A200
                clear A200
                obtain ⟨ji21, hji21⟩ : ∃ j_ : Int, (wrap64 ((Int.tmod x1_14 (x7_6.length : Int)) - (Int.tmod (Int.tmod x1_14 (x7_6.length : Int)) 2))) = j_ := ⟨_, rfl⟩
                replace H : (if 0 ≤ (ji21) then (if (ji21) < (x7_6.length : Int) then (if 0 ≤ (wrap64 ((ji21) + 1)) then (if (wrap64 ((ji21) + 1)) < (x7_6.length : Int) then ((ip4_Adjust.f kj14 t187 (IntKind.u16.wrap (t182)) a2).bind fun t190 => (weftlaw3_Ip4AdjustSum.l0 kj14 ((x7_6.set ((ji21) : Int).toNat ((a2 / 256) % 256)).set ((wrap64 ((ji21) + 1)) : Int).toNat ((a2) % 256)) t190 true 0)) else (none)) else (none)) else (none)) else (none)) = some r := by first | (rw [hji21] at H; exact H) | (simp only [hji21] at H ⊢; exact H)
                (try rw [hji21] at A19)
                (try rw [hji21] at A20)
                have hji21w : (IntKind.i64.wrap ((Int.tmod x1_14 (x7_6.length : Int)) - (Int.tmod (Int.tmod x1_14 (x7_6.length : Int)) 2))) = ji21 := (i64_w _).trans hji21
                by_cases c22 : 0 ≤ (ji21)
                · rw [if_pos c22] at H
                  have c22b0 : decide (0 ≤ (ji21)) = true := decide_eq_true c22
                  clear c22
                  by_cases c23 : (ji21) < (x7_6.length : Int)
                  · rw [if_pos c23] at H
                    have c23b0 : decide ((ji21) < (x7_6.length : Int)) = true := decide_eq_true c23
                    clear c23
                    obtain ⟨y188, hy188⟩ : ∃ y_ : List Int, y_ = (x7_6.set ((ji21) : Int).toNat ((a2 / 256) % 256)) := ⟨_, rfl⟩
                    replace H : (if 0 ≤ (wrap64 ((ji21) + 1)) then (if (wrap64 ((ji21) + 1)) < (x7_6.length : Int) then ((ip4_Adjust.f kj14 t187 (IntKind.u16.wrap (t182)) a2).bind fun t190 => (weftlaw3_Ip4AdjustSum.l0 kj14 (y188.set ((wrap64 ((ji21) + 1)) : Int).toNat ((a2) % 256)) t190 true 0)) else (none)) else (none)) = some r := by first | (rw [hy188]; with_reducible exact H) | (have H2_ := (Option.bind_some _ _).symm.trans H; rw [hy188]; with_reducible exact H2_) | (have H2_ := (Option.bind_some _ _).symm.trans H; with_reducible exact H2_) | with_reducible exact H | (rw [hy188]; exact H) | exact H
                    have Ny188 := Aside0.mk hy188
                    clear hy188
                    obtain ⟨ji25, hji25⟩ : ∃ j_ : Int, (wrap64 ((ji21) + 1)) = j_ := ⟨_, rfl⟩
                    replace H : (if 0 ≤ (ji25) then (if (ji25) < (x7_6.length : Int) then ((ip4_Adjust.f kj14 t187 (IntKind.u16.wrap (t182)) a2).bind fun t190 => (weftlaw3_Ip4AdjustSum.l0 kj14 (y188.set ((ji25) : Int).toNat ((a2) % 256)) t190 true 0)) else (none)) else (none)) = some r := by first | (rw [hji25] at H; exact H) | (simp only [hji25] at H ⊢; exact H)
                    (try rw [hji25] at A19)
                    (try rw [hji25] at A20)
                    have hji25w : (IntKind.i64.wrap ((ji21) + 1)) = ji25 := (i64_w _).trans hji25
                    by_cases c26 : 0 ≤ (ji25)
                    · rw [if_pos c26] at H
                      have c26b0 : decide (0 ≤ (ji25)) = true := decide_eq_true c26
                      clear c26
                      by_cases c27 : (ji25) < (x7_6.length : Int)
                      · rw [if_pos c27] at H
                        have c27b0 : decide ((ji25) < (x7_6.length : Int)) = true := decide_eq_true c27
                        clear c27
                        obtain ⟨y189, hy189⟩ : ∃ y_ : List Int, y_ = (y188.set ((ji25) : Int).toNat ((a2) % 256)) := ⟨_, rfl⟩
                        replace H : ((ip4_Adjust.f kj14 t187 (IntKind.u16.wrap (t182)) a2).bind fun t190 => (weftlaw3_Ip4AdjustSum.l0 kj14 y189 t190 true 0)) = some r := by first | (rw [hy189]; with_reducible exact H) | (have H2_ := (Option.bind_some _ _).symm.trans H; rw [hy189]; with_reducible exact H2_) | (have H2_ := (Option.bind_some _ _).symm.trans H; with_reducible exact H2_) | with_reducible exact H | (rw [hy189]; exact H) | exact H
                        have Ny189 := Aside0.mk hy189
                        clear hy189
                        replace H := Option.bind_eq_some_iff.mp H
                        obtain ⟨t190, A290, H⟩ := H
                        replace H : (weftlaw3_Ip4AdjustSum.l0 kj14 y189 t190 true 0) = some r := H
                        have A29 := Aside0.mk A290
                        clear A290
                        have H' := Aside0.mk H
                        clear H
                        go_wp2_with (first | ((with_reducible refine gate_callee (f := 19) rfl ?_); refine goesL_ (some 42) rfl rfl Try.func19 (by kernel_rfl) rfl #[.slice Ao16 x7_6.length co16, .int .i64 ji21] rfl (by (try simp only [List.map_toArray, List.map_cons, List.map_nil]); first | done | (simp only [hji21]; rfl) | rfl | (simp only [List.length_drop, List.length_take]; rfl)) ?_; (with_reducible refine (weftlaw3_word.calls _ _ x7_6 ji21 t182 _ ?side1 ?side2 A19.out).mono ?_); (case side1 => repeat (first | exact (Kd.R_reads' HO_7.out).2.2 | (with_reducible refine Kd.C_alloc ?_ _) | (with_reducible refine Kd.C_drewN ?_ _) | (with_reducible refine Kd.C_drew ?_))); (case side2 => exact (Kd.R_reads' HO_7.out).2.1); rintro e w' ⟨rfl, ⟨nd, rfl⟩⟩; refine ⟨_, rfl, ?_⟩; (try (rw [drewN_self wc]; generalize hq_ : World.drewN wc _ = wc; have n0_ : Aside0 (Kd.R (Kd.int .u8) 5 wc w.heap.size (fun _ => True) (.slice Ao16 x7_6.length co16) x7_6) := ⟨by rw [← hq_]; exact (by (with_reducible repeat (first | apply Kd.R_alloc | apply Kd.R_drewN | apply Kd.R_drew)); exact HO_7.out)⟩; have n1_ : Aside0 (Below w.heap.size w wc) := ⟨by rw [← hq_]; exact (by repeat (first | (with_reducible first | exact HB.out | apply below_alloc | apply pw_below_drewN | apply below_drew1) | exact HB.out))⟩; clear HO_7 HB hq_; have HO_7 := n0_; have HB := n1_; clear n0_ n1_))) | ((with_reducible refine gate_dst (N := 45) rfl ?_); (try (refine gate_guard (by rfl) ?_; dsimp only)); refine lits_event (Kd.slice 5 (Kd.int .u8)) 24 ?hg (N := 45) ?hd (xs := ([x7_6] : List (List Int))) (inner := [.slice Ao16 x7_6.length co16]) ?hr ?hp (by simp) ?_; (case hd => rfl); (case hg => rfl); (case hr => first | (go_simp; done) | (go_simp; rfl)); (case hp => exact (Reps.one (show Kd.K (Kd.slice 5 (Kd.int .u8)) _ x7_6 [.slice Ao16 x7_6.length co16] from by refine ⟨_, _, rfl, ?_, ?_⟩; (· exact (Kd.R_reads' HO_7.out).2.1); (· repeat (first | exact (Kd.R_reads' HO_7.out).2.2 | (with_reducible refine Kd.C_alloc ?_ _) | (with_reducible refine Kd.C_drewN ?_ _) | (with_reducible refine Kd.C_drew ?_)))) (Reps.none _ _))); intro v31_ w30 hL_ hb; (first | rw [← Ny183.out] at hL_ | (simp only [Int.reduceToNat] at hL_; rw [← Ny183.out] at hL_)); obtain ⟨A31, c31, rfl, hlr_, hlc_⟩ := hL_; have n0_ := Aside0.mk (Kd.R_below (by (with_reducible repeat (first | apply Kd.R_alloc | apply Kd.R_drewN | apply Kd.R_drew)); exact HO_7.out) hb); have n1_ := Aside0.mk (below_step (by repeat (first | (with_reducible first | exact HB.out | apply below_alloc | apply pw_below_drewN | apply below_drew1) | exact HB.out)) hb); have n2_ := Aside0.mk (hlc_); have n3_ := Aside0.mk (hlr_); clear HO_7; clear HB; have HO_7 := n0_; have HB := n1_; have HR186 := n2_; have HC186 := n3_; clear n0_ n1_ n2_ n3_; clear hb hlr_ hlc_) | ((with_reducible refine gate_callee (f := 16) rfl ?_); refine goesL_ (some 46) rfl rfl Try.func16 (by kernel_rfl) rfl #[.slice A31 y183.length c31] rfl (by (try simp only [List.map_toArray, List.map_cons, List.map_nil]); first | done | rfl | (simp only [List.length_drop, List.length_take]; rfl)) ?_; (with_reducible refine (ip4_Sum.calls kj14 _ _ y183 t187 _ ?side1 ?side2 A20.out).mono ?_); (case side1 => repeat (first | exact (by repeat (first | (with_reducible exact HR186.out) | (with_reducible refine Kd.C_alloc ?_ _) | (with_reducible refine Kd.C_drewN ?_ _) | (with_reducible refine Kd.C_drew ?_) | exact HR186.out)) | (with_reducible refine Kd.C_alloc ?_ _) | (with_reducible refine Kd.C_drewN ?_ _) | (with_reducible refine Kd.C_drew ?_))); (case side2 => exact HC186.out); rintro e w' ⟨rfl, ⟨nd, rfl⟩⟩; refine ⟨_, rfl, ?_⟩; (try (rw [drewN_self w30]; generalize hq_ : World.drewN w30 _ = w30; have n0_ : Aside0 (Kd.R (Kd.int .u8) 5 w30 w.heap.size (fun _ => True) (.slice Ao16 x7_6.length co16) x7_6) := ⟨by rw [← hq_]; exact (by (with_reducible repeat (first | apply Kd.R_alloc | apply Kd.R_drewN | apply Kd.R_drew)); exact HO_7.out)⟩; have n1_ : Aside0 (Below w.heap.size w w30) := ⟨by rw [← hq_]; exact (by repeat (first | (with_reducible first | exact HB.out | apply below_alloc | apply pw_below_drewN | apply below_drew1) | exact HB.out))⟩; have n2_ : Aside0 (Kd.C (Kd.slice 5 (Kd.int .u8)) w30 A31 y183.length y183) := ⟨by rw [← hq_]; exact (by repeat (first | (with_reducible exact HR186.out) | (with_reducible refine Kd.C_alloc ?_ _) | (with_reducible refine Kd.C_drewN ?_ _) | (with_reducible refine Kd.C_drew ?_) | exact HR186.out))⟩; clear HO_7 HB HR186 hq_; have HO_7 := n0_; have HB := n1_; have HR186 := n2_; clear n0_ n1_ n2_)); have p24 : 0 ≤ ((ji21) : Int) := of_decide_eq_true (by first | (with_reducible assumption) | assumption); have q24 : ((ji21) : Int) < ((x7_6.length : Int) : Int) := of_decide_eq_true (by first | (with_reducible assumption) | assumption); obtain ⟨go24, co24, eo24, gb24, gl24, cl24, HG24⟩ := Kd.R_form HO_7.out (by omega); (first | cases eo24 | (injection eo24 with ea_ en_ ec_; (first | subst ea_ | (injection ea_ with ea_; subst ea_)); subst ec_; clear en_)); have GB24 := Aside0.mk gb24; have GG24 := Aside0.mk HG24; clear gb24 gl24 HG24; obtain ⟨hx24_0, hf24_0⟩ := Kd.R_celln 0 HO_7.out ((ji21) : Int) p24 q24; replace p24 := eq_true p24; replace q24 := eq_true q24; obtain ⟨hy32_, hz32_⟩ := Kd.R_celln 0 HO_7.out ((ji21) : Int) (of_decide_eq_true (by first | (with_reducible assumption) | assumption)) (of_decide_eq_true (by first | (with_reducible assumption) | assumption)); have HP32 := Kd.R_putg HO_7.out ((ji21) : Int) ((a2 / 256) % 256)) | ((with_reducible refine gate_store (t := 5) (p := 52) rfl ?_); refine store_event (t := 5) (p := 52) (v := ?vo_w33) (w1 := (w30.setCell ⟨go24, ((ji21) : Int).toNat, none⟩ (.int .u8 ((a2 / 256) % 256)))) ?hg ?ho ?hn ?hr ?_; (case ho => rfl); (case hg => rfl); (case hn => rfl); (case hr => first | (go_simp; done) | (go_simp; rfl)); intro w33 hw; have hg : w30.grownBy w33 (some go24) := (by rw [hw]; exact HP32.2); have hp_ : Kd.R (Kd.int .u8) 5 w33 w.heap.size (fun _ => True) (.slice (some ⟨go24, 0, none⟩) x7_6.length co16) y188 := (by rw [hw, Ny188.out]; exact HP32.1); clear HP32; have n0_ := Aside0.mk (hp_); have n1_ := Aside0.mk ((by rw [hw]; exact below_set (HB.out) GB24.out : Below w.heap.size w w33)); clear HO_7; clear HB; have HO_7 := n0_; have HB := n1_; clear n0_ n1_; clear hg hw hp_; have p28 : 0 ≤ ((ji25) : Int) := of_decide_eq_true (by first | (with_reducible assumption) | assumption); have q28 : ((ji25) : Int) < ((x7_6.length : Int) : Int) := of_decide_eq_true (by first | (with_reducible assumption) | assumption); obtain ⟨hx28_0, hf28_0⟩ := Kd.R_celln 0 HO_7.out ((ji25) : Int) p28 q28; replace p28 := eq_true p28; replace q28 := eq_true q28; obtain ⟨hy34_, hz34_⟩ := Kd.R_celln 0 HO_7.out ((ji25) : Int) (of_decide_eq_true (by first | (with_reducible assumption) | assumption)) (of_decide_eq_true (by first | (with_reducible assumption) | assumption)); have HP34 := Kd.R_putg HO_7.out ((ji25) : Int) ((a2) % 256)) | ((with_reducible refine gate_store (t := 5) (p := 58) rfl ?_); refine store_event (t := 5) (p := 58) (v := ?vo_w35) (w1 := (w33.setCell ⟨go24, ((ji25) : Int).toNat, none⟩ (.int .u8 ((a2) % 256)))) ?hg ?ho ?hn ?hr ?_; (case ho => rfl); (case hg => rfl); (case hn => rfl); (case hr => first | (go_simp; done) | (go_simp; rfl)); intro w35 hw; have hg : w33.grownBy w35 (some go24) := (by rw [hw]; exact HP34.2); have hp_ : Kd.R (Kd.int .u8) 5 w35 w.heap.size (fun _ => True) (.slice (some ⟨go24, 0, none⟩) x7_6.length co16) y189 := (by rw [hw, Ny189.out]; exact HP34.1); clear HP34; have n0_ := Aside0.mk (hp_); have n1_ := Aside0.mk ((by rw [hw]; exact below_set (HB.out) GB24.out : Below w.heap.size w w35)); clear HO_7; clear HB; have HO_7 := n0_; have HB := n1_; clear n0_ n1_; clear hg hw hp_) | ((with_reducible refine gate_callee (f := 17) rfl ?_); refine goesL_ (some 62) rfl rfl Try.func17 (by kernel_rfl) rfl #[.int .u16 t187, .int .u16 (IntKind.u16.wrap (t182)), .int .u16 a2] rfl (by (try simp only [List.map_toArray, List.map_cons, List.map_nil]); first | done | rfl | (simp only [List.length_drop, List.length_take]; rfl)) ?_; (with_reducible refine (ip4_Adjust.calls kj14 t187 (IntKind.u16.wrap (t182)) a2 t190 _ A29.out).mono ?_); rintro e w' ⟨rfl, ⟨nd, rfl⟩⟩; refine ⟨_, rfl, ?_⟩))
                        go_loopg [11, 12] kj14 (fun kq v11 v12 w' => ∃ (x11_3 : Bool) (x12_3 : Int), v11 = .bool x11_3 ∧ v12 = .int .i64 x12_3 ∧ Aside0 (weftlaw3_Ip4AdjustSum.l0 kq y189 t190 x11_3 x12_3 = some r) ∧ Aside0 (kq ≤ kj14) ∧ Aside0 (Kd.R (Kd.int .u8) 5 w' w.heap.size (fun _ => True) (.slice (some ⟨go24, 0, none⟩) x7_6.length co16) y189) ∧ Aside0 (Below w.heap.size w w'))
                        case atStart => exact ⟨(true), (0), (by first | rfl | (simp; done) | (simp [*]; done)), (by first | rfl | (simp; done) | (simp [*]; done)), H', ⟨Nat.le_refl _⟩, ⟨by (with_reducible repeat (first | apply Kd.R_alloc | apply Kd.R_drewN | apply Kd.R_drew)); exact HO_7.out⟩, ⟨by repeat (first | (with_reducible first | exact HB.out | apply below_alloc | apply pw_below_drewN | apply below_drew1) | exact HB.out)⟩⟩
                        case round =>
                          clear H'
                          try clear c1
                          try clear c2
                          try clear p2
                          try clear q2
                          try clear hx2
                          try clear c3
                          try clear c4
                          try clear p4
                          try clear c5
                          try clear c5b0
                          try clear c5b1
                          try clear p6
                          try clear c10
                          try clear c10b0
                          try clear c10b1
                          try clear c11
                          try clear c13
                          try clear c13b0
                          try clear c13b1
                          try clear c13b2
                          try clear c16
                          try clear c17
                          try clear c17b0
                          try clear c18
                          try clear c18b0
                          try clear c18b1
                          try clear c18b2
                          try clear c19
                          try clear c22
                          try clear c22b0
                          try clear c23
                          try clear c23b0
                          try clear p24
                          try clear q24
                          try clear hx24
                          try clear hf24
                          try clear c26
                          try clear c26b0
                          try clear c27
                          try clear c27b0
                          try clear p28
                          try clear q28
                          try clear hx28
                          try clear hf28
                          try clear c31
                          try clear hx24_0
                          try clear hx28_0
                          try clear p2
                          try clear p24
                          try clear p28
                          try clear p4
                          try clear p6
                          try clear q24
                          try clear q28
                          obtain ⟨x11_3, x12_3, rfl, rfl, HA, HK3, HO_7, HB⟩ := hrel
                          have hl7_3 := (Kd.R_reads' HO_7.out).1
                          rw [hl7_3] at HO_7
                          (try simp only [hl7_3])
                          cases gk with
                          | zero => exact absurd HA.out (by simp [weftlaw3_Ip4AdjustSum.l0])
                          | succ k3 =>
                            have H := HA.out
                            clear HA
                            simp only [weftlaw3_Ip4AdjustSum.l0] at H
                            by_cases c36 : x12_3 < (y189.length : Int)
                            · rw [if_pos c36] at H
                              have c36b0 : decide (x12_3 < (y189.length : Int)) = true := decide_eq_true c36
                              clear c36
                              by_cases c37 : 0 ≤ x12_3
                              · rw [if_pos c37] at H
                                have c37b0 : decide (0 ≤ x12_3) = true := decide_eq_true c37
                                clear c37
                                by_cases c38 : (rd y189 x12_3) = 0
                                · rw [if_pos c38] at H
                                  have c38b0 : ((rd y189 x12_3) == 0) = true := beq_iff_eq.mpr c38
                                  have c38b1 : ((rd y189 x12_3) != 0) = false := bne_eq_false_iff_eq.mpr c38
                                  clear c38
                                  have H' := Aside0.mk H
                                  clear H
                                  have p191 : 0 ≤ (x12_3 : Int) := of_decide_eq_true (by first | (with_reducible assumption) | assumption)
                                  have q191 : x12_3 < (y189.length : Int) := of_decide_eq_true (by first | (with_reducible assumption) | assumption)
                                  obtain ⟨ad191, e191, hx191_0⟩ := Kd.at_int (Kd.R_reads' HO_7.out).2.2 x12_3 p191 q191
                                  obtain rfl : (⟨go24, 0, none⟩ : Addr) = ad191 := (by injection e191)
                                  (first | simp only [add_plain] at hx191_0 | simp only [add_at] at hx191_0 | simp only [Addr.add, Nat.zero_add] at hx191_0 | skip)
                                  replace p191 := eq_true p191
                                  replace q191 := eq_true q191
                                  go_wp2
                                  (try simp only [← hl7_3])
                                  go_roundg k3
                                  case measure => have := HJ6.out; have := HJ14.out; have := HK3.out; omega
                                  case rel => exact ⟨(x11_3), (wrap64 (x12_3 + 1)), (by first | rfl | (simp; done) | (simp [*]; done)), (by first | rfl | (simp; done) | (simp [*]; done)), H', ⟨by have := HJ6.out; have := HJ14.out; have := HK3.out; omega⟩, ⟨by (try simp only [hl7_3]); (with_reducible repeat (first | apply Kd.R_alloc | apply Kd.R_drewN | apply Kd.R_drew)); exact HO_7.out⟩, ⟨by repeat (first | (with_reducible first | exact HB.out | apply below_alloc | apply pw_below_drewN | apply below_drew1) | exact HB.out)⟩⟩
                                · rw [if_neg c38] at H
                                  have c38b0 : ((rd y189 x12_3) == 0) = false := beq_eq_false_iff_ne.mpr c38
                                  have c38b1 : ((rd y189 x12_3) != 0) = true := bne_iff_ne.mpr c38
                                  have H' := Aside0.mk H
                                  clear H
                                  have p191 : 0 ≤ (x12_3 : Int) := of_decide_eq_true (by first | (with_reducible assumption) | assumption)
                                  have q191 : x12_3 < (y189.length : Int) := of_decide_eq_true (by first | (with_reducible assumption) | assumption)
                                  obtain ⟨ad191, e191, hx191_0⟩ := Kd.at_int (Kd.R_reads' HO_7.out).2.2 x12_3 p191 q191
                                  obtain rfl : (⟨go24, 0, none⟩ : Addr) = ad191 := (by injection e191)
                                  (first | simp only [add_plain] at hx191_0 | simp only [add_at] at hx191_0 | simp only [Addr.add, Nat.zero_add] at hx191_0 | skip)
                                  replace p191 := eq_true p191
                                  replace q191 := eq_true q191
                                  go_wp2
                                  (try simp only [← hl7_3])
                                  go_roundg k3
                                  case measure => have := HJ6.out; have := HJ14.out; have := HK3.out; omega
                                  case rel => exact ⟨(false), (wrap64 (x12_3 + 1)), (by first | rfl | (simp; done) | (simp [*]; done)), (by first | rfl | (simp; done) | (simp [*]; done)), H', ⟨by have := HJ6.out; have := HJ14.out; have := HK3.out; omega⟩, ⟨by (try simp only [hl7_3]); (with_reducible repeat (first | apply Kd.R_alloc | apply Kd.R_drewN | apply Kd.R_drew)); exact HO_7.out⟩, ⟨by repeat (first | (with_reducible first | exact HB.out | apply below_alloc | apply pw_below_drewN | apply below_drew1) | exact HB.out)⟩⟩
                              · rw [if_neg c37] at H
                                exact absurd H (by simp)
                            · rw [if_neg c36] at H
                              have c36b0 : decide (x12_3 < (y189.length : Int)) = false := decide_eq_false c36
                              clear c36
                              by_cases c39 : x11_3 = true
                              · subst c39
                                have H1 : (if t190 = 0 then ((ip4_Sum.f k3 (([y189] : List (List Int)))).bind fun t196 => (some (t196 == 65535))) else (some false)) = some r := by rw [if_pos rfl] at H; exact H
                                clear H
                                have H := H1
                                clear H1
                                by_cases c40 : t190 = 0
                                · rw [if_pos c40] at H
                                  have c40b0 : (t190 == 0) = true := beq_iff_eq.mpr c40
                                  have c40b1 : (t190 != 0) = false := bne_eq_false_iff_eq.mpr c40
                                  clear c40
                                  obtain ⟨y192, hy192⟩ : ∃ y_ : List (List Int), y_ = (([y189] : List (List Int))) := ⟨_, rfl⟩
                                  replace H : ((ip4_Sum.f k3 y192).bind fun t196 => (some (t196 == 65535))) = some r := by first | (rw [hy192]; with_reducible exact H) | (have H2_ := (Option.bind_some _ _).symm.trans H; rw [hy192]; with_reducible exact H2_) | (have H2_ := (Option.bind_some _ _).symm.trans H; with_reducible exact H2_) | with_reducible exact H | (rw [hy192]; exact H) | exact H
                                  have Ny192 := Aside0.mk hy192
                                  clear hy192
                                  replace H := Option.bind_eq_some_iff.mp H
                                  obtain ⟨t196, A410, H⟩ := H
                                  replace H : (some (t196 == 65535)) = some r := H
                                  have A41 := Aside0.mk A410
                                  clear A410
                                  obtain rfl := Option.some.inj H
                                  go_wp2_with (first | ((with_reducible refine gate_dst (N := 79) rfl ?_); (try (refine gate_guard (by rfl) ?_; dsimp only)); refine lits_event (Kd.slice 5 (Kd.int .u8)) 24 ?hg (N := 79) ?hd (xs := ([y189] : List (List Int))) (inner := [.slice (some ⟨go24, 0, none⟩) y189.length co16]) ?hr ?hp (by simp) ?_; (case hd => rfl); (case hg => rfl); (case hr => first | (go_simp; done) | (go_simp; rfl)); (case hp => exact (Reps.one (show Kd.K (Kd.slice 5 (Kd.int .u8)) _ y189 [.slice (some ⟨go24, 0, none⟩) y189.length co16] from by refine ⟨_, _, rfl, ?_, ?_⟩; (· exact (Kd.R_reads' HO_7.out).2.1); (· repeat (first | exact (Kd.R_reads' HO_7.out).2.2 | (with_reducible refine Kd.C_alloc ?_ _) | (with_reducible refine Kd.C_drewN ?_ _) | (with_reducible refine Kd.C_drew ?_)))) (Reps.none _ _))); intro v43_ w42 hL_ hb; (first | rw [← Ny192.out] at hL_ | (simp only [Int.reduceToNat] at hL_; rw [← Ny192.out] at hL_)); obtain ⟨A43, c43, rfl, hlr_, hlc_⟩ := hL_; have n0_ := Aside0.mk (Kd.R_below (by (with_reducible repeat (first | apply Kd.R_alloc | apply Kd.R_drewN | apply Kd.R_drew)); exact HO_7.out) hb); have n1_ := Aside0.mk (below_step (by repeat (first | (with_reducible first | exact HB.out | apply below_alloc | apply pw_below_drewN | apply below_drew1) | exact HB.out)) hb); have n2_ := Aside0.mk (hlc_); have n3_ := Aside0.mk (hlr_); clear HO_7; clear HB; have HO_7 := n0_; have HB := n1_; have HR195 := n2_; have HC195 := n3_; clear n0_ n1_ n2_ n3_; clear hb hlr_ hlc_) | (go_at_call 16; (with_reducible refine (ip4_Sum.calls k3 _ _ y192 t196 _ ?side1 ?side2 A41.out).mono ?_); (case side1 => repeat (first | exact (by repeat (first | (with_reducible exact HR195.out) | (with_reducible refine Kd.C_alloc ?_ _) | (with_reducible refine Kd.C_drewN ?_ _) | (with_reducible refine Kd.C_drew ?_) | exact HR195.out)) | (with_reducible refine Kd.C_alloc ?_ _) | (with_reducible refine Kd.C_drewN ?_ _) | (with_reducible refine Kd.C_drew ?_))); (case side2 => exact HC195.out); rintro e w' ⟨rfl, ⟨nd, rfl⟩⟩))
                                  go_ret
                                  exact ⟨by first | rfl | (simp [errW_none, errW_some] <;> rfl) | (simp only [← hji21, ← hji25]; first | rfl | (simp [errW_none, errW_some] <;> rfl)) | (simp [*, errW_none, errW_some] <;> rfl), by repeat (first | (with_reducible first | exact HB.out | apply below_alloc | apply pw_below_drewN | apply below_drew1) | exact HB.out)⟩
                                · rw [if_neg c40] at H
                                  have c40b0 : (t190 == 0) = false := beq_eq_false_iff_ne.mpr c40
                                  have c40b1 : (t190 != 0) = true := bne_iff_ne.mpr c40
                                  obtain rfl := Option.some.inj H
                                  go_wp2
                                  go_ret
                                  exact ⟨by first | rfl | (simp [errW_none, errW_some] <;> rfl) | (simp only [← hji21, ← hji25]; first | rfl | (simp [errW_none, errW_some] <;> rfl)) | (simp [*, errW_none, errW_some] <;> rfl), by repeat (first | (with_reducible first | exact HB.out | apply below_alloc | apply pw_below_drewN | apply below_drew1) | exact HB.out)⟩
                              · replace c39 := Bool.eq_false_iff.mpr c39
                                subst c39
                                have H1 : ((ip4_Sum.f k3 (([y189] : List (List Int)))).bind fun t201 => (some (t190 == t201))) = some r := by rw [if_neg (show ¬ (false = true) by decide)] at H; exact H
                                clear H
                                have H := H1
                                clear H1
                                obtain ⟨y197, hy197⟩ : ∃ y_ : List (List Int), y_ = (([y189] : List (List Int))) := ⟨_, rfl⟩
                                replace H : ((ip4_Sum.f k3 y197).bind fun t201 => (some (t190 == t201))) = some r := by first | (rw [hy197]; with_reducible exact H) | (have H2_ := (Option.bind_some _ _).symm.trans H; rw [hy197]; with_reducible exact H2_) | (have H2_ := (Option.bind_some _ _).symm.trans H; with_reducible exact H2_) | with_reducible exact H | (rw [hy197]; exact H) | exact H
                                have Ny197 := Aside0.mk hy197
                                clear hy197
                                replace H := Option.bind_eq_some_iff.mp H
                                obtain ⟨t201, A440, H⟩ := H
                                replace H : (some (t190 == t201)) = some r := H
                                have A44 := Aside0.mk A440
                                clear A440
                                obtain rfl := Option.some.inj H
                                go_wp2_with (first | ((with_reducible refine gate_dst (N := 85) rfl ?_); (try (refine gate_guard (by rfl) ?_; dsimp only)); refine lits_event (Kd.slice 5 (Kd.int .u8)) 24 ?hg (N := 85) ?hd (xs := ([y189] : List (List Int))) (inner := [.slice (some ⟨go24, 0, none⟩) y189.length co16]) ?hr ?hp (by simp) ?_; (case hd => rfl); (case hg => rfl); (case hr => first | (go_simp; done) | (go_simp; rfl)); (case hp => exact (Reps.one (show Kd.K (Kd.slice 5 (Kd.int .u8)) _ y189 [.slice (some ⟨go24, 0, none⟩) y189.length co16] from by refine ⟨_, _, rfl, ?_, ?_⟩; (· exact (Kd.R_reads' HO_7.out).2.1); (· repeat (first | exact (Kd.R_reads' HO_7.out).2.2 | (with_reducible refine Kd.C_alloc ?_ _) | (with_reducible refine Kd.C_drewN ?_ _) | (with_reducible refine Kd.C_drew ?_)))) (Reps.none _ _))); intro v46_ w45 hL_ hb; (first | rw [← Ny197.out] at hL_ | (simp only [Int.reduceToNat] at hL_; rw [← Ny197.out] at hL_)); obtain ⟨A46, c46, rfl, hlr_, hlc_⟩ := hL_; have n0_ := Aside0.mk (Kd.R_below (by (with_reducible repeat (first | apply Kd.R_alloc | apply Kd.R_drewN | apply Kd.R_drew)); exact HO_7.out) hb); have n1_ := Aside0.mk (below_step (by repeat (first | (with_reducible first | exact HB.out | apply below_alloc | apply pw_below_drewN | apply below_drew1) | exact HB.out)) hb); have n2_ := Aside0.mk (hlc_); have n3_ := Aside0.mk (hlr_); clear HO_7; clear HB; have HO_7 := n0_; have HB := n1_; have HR200 := n2_; have HC200 := n3_; clear n0_ n1_ n2_ n3_; clear hb hlr_ hlc_) | ((with_reducible refine gate_callee (f := 16) rfl ?_); refine goesL_ (some 86) rfl rfl Try.func16 (by kernel_rfl) rfl #[.slice A46 y197.length c46] rfl (by (try simp only [List.map_toArray, List.map_cons, List.map_nil]); first | done | rfl | (simp only [List.length_drop, List.length_take]; rfl)) ?_; (with_reducible refine (ip4_Sum.calls k3 _ _ y197 t201 _ ?side1 ?side2 A44.out).mono ?_); (case side1 => repeat (first | exact (by repeat (first | (with_reducible exact HR200.out) | (with_reducible refine Kd.C_alloc ?_ _) | (with_reducible refine Kd.C_drewN ?_ _) | (with_reducible refine Kd.C_drew ?_) | exact HR200.out)) | (with_reducible refine Kd.C_alloc ?_ _) | (with_reducible refine Kd.C_drewN ?_ _) | (with_reducible refine Kd.C_drew ?_))); (case side2 => exact HC200.out); rintro e w' ⟨rfl, ⟨nd, rfl⟩⟩; refine ⟨_, rfl, ?_⟩))
                                go_ret
                                exact ⟨by first | rfl | (simp [errW_none, errW_some] <;> rfl) | (simp only [← hji21, ← hji25]; first | rfl | (simp [errW_none, errW_some] <;> rfl)) | (simp [*, errW_none, errW_some] <;> rfl), by repeat (first | (with_reducible first | exact HB.out | apply below_alloc | apply pw_below_drewN | apply below_drew1) | exact HB.out)⟩
                      · rw [if_neg c27] at H
                        exact absurd H (by simp)
                    · rw [if_neg c26] at H
                      exact absurd H (by simp)
                  · rw [if_neg c23] at H
                    exact absurd H (by simp)
                · rw [if_neg c22] at H
                  exact absurd H (by simp)
  · rw [if_neg c5] at H
    have c5b0 : (t175 == 4916) = false := beq_eq_false_iff_ne.mpr c5
    have c5b1 : (t175 != 4916) = true := bne_iff_ne.mpr c5
    obtain rfl := Option.some.inj H
    go_enter Try.func4, Try.ntmps4
    go_wp2_with (first | ((with_reducible refine gate_callee (f := 17) rfl ?_); refine goesL_ (some 13) rfl rfl Try.func17 (by kernel_rfl) rfl #[.int .u16 4660, .int .u16 16390, .int .u16 16134] rfl (by (try simp only [List.map_toArray, List.map_cons, List.map_nil]); first | done | rfl | (simp only [List.length_drop, List.length_take]; rfl)) ?_; (with_reducible refine (ip4_Adjust.calls k 4660 16390 16134 t175 _ A4.out).mono ?_); rintro e w' ⟨rfl, ⟨nd, rfl⟩⟩; refine ⟨_, rfl, ?_⟩))
    go_ret
    exact ⟨by first | rfl | (simp [errW_none, errW_some] <;> rfl) | (simp [*, errW_none, errW_some] <;> rfl), by repeat (first | (with_reducible first | exact HB.out | apply below_alloc | apply pw_below_drewN | apply below_drew1) | exact HB.out)⟩

end Go.Proofs.Ytbacmhegalncjaa.XB
