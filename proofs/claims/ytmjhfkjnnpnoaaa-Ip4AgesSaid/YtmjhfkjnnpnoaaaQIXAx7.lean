-- printed by a program of this session (wip/xprint), out of the translation; Lean checks it
import Derived.Test.YtmjhfkjnnpnoaaaQIXAx0
import Derived.Test.YtmjhfkjnnpnoaaaQIXAx1
import Derived.Test.YtmjhfkjnnpnoaaaQIXAx5
import Derived.Test.YtmjhfkjnnpnoaaaQIXAx6
namespace Go.Proofs.Ytmjhfkjnnpnoaaa.XA
open Go.RowKit Go.Proofs.YtmjhfkjnnpnoaaaW.PrintWords Go.Proofs.YtmjhfkjnnpnoaaaW.PrintLast Go.Proofs.YtmjhfkjnnpnoaaaW.PrintMore Go.Proofs.YtmjhfkjnnpnoaaaX
theorem zqxa7_3 {P : Prop} (h : P := by (try simp only [List.map_toArray, List.map_cons, List.map_nil]); first | done | rfl | (simp only [List.length_drop, List.length_take]; rfl)) : P := h
theorem zqxa7_2 {P : Prop} (h : P := by repeat (first | (with_reducible first | exact HB.out | apply below_alloc | apply pw_below_drewN | apply below_drew1) | exact HB.out)) : P := h
theorem zqxa7_1 {P : Prop} (h : P := by repeat (first | (with_reducible first | exact HB.out | apply below_alloc | apply pw_below_drewN | apply below_drew1 | refine below_set ?_ GE315.out) | exact HB.out)) : P := h
theorem zqxa7_0 {P : Prop} (h : P := by first | (with_reducible exact BK315.out) | (with_reducible exact blk_drewN BK315.out _) | (with_reducible exact blk_drew BK315.out) | ((with_reducible repeat (first | refine blk_drewN ?_ _ | refine blk_drew ?_ | refine blk_alloc ?_ _)); exact BK315.out)) : P := h
attribute [local go_sem] max2_int min2_int max_two min_two max_three min_three max_four min_four   -- for this text's walks alone
set_option linter.unusedVariables false
set_option linter.unusedSimpArgs false

/-! ### weftref3_Sum: function 43 -/
def weftref3_Sum.l0 : Nat → List (List Int) → List Int → Int → Option (Int)
  | 0, _, _, _ => none
  | k + 1, x0, x3, x4 => if x4 < (x0.length : Int) then (if 0 ≤ x4 then (if x3.length + (rd_L1 x0 x4).length < 140737488355328 then (weftref3_Sum.l0 k x0 (x3 ++ (rd_L1 x0 x4)) (wrap64 (x4 + 1))) else (none)) else (none)) else ((weftref3_total.f k x3).bind fun t313 => ((weftref3_fold.f t313).bind fun t314 => (some (IntKind.u16.wrap (wrap64 (65535 - t314))))))
def weftref3_Sum.f (k : Nat) (l0 : List (List Int)) : Option (Int) := weftref3_Sum.l0 k l0 ([] : List Int) 0
theorem weftref3_Sum.mono_l : ∀ k, (∀ y0 y1 y2, LeO (weftref3_Sum.l0 k y0 y1 y2) (weftref3_Sum.l0 (k + 1) y0 y1 y2))
  | 0 => fun _ _ _ r h => by simp [weftref3_Sum.l0] at h
  | k + 1 => by
    have ih0 := weftref3_Sum.mono_l k
    · intro y0 y1 y2
      unfold weftref3_Sum.l0
      repeat' first
      | (with_reducible exact ih0 _ _ _)
      | (with_reducible exact weftref3_total.mono _ _)
      | (with_reducible exact LeO.refl _)
      | (with_reducible exact LeO.none _)
      | (with_reducible refine LeO.ite ?_ ?_)
      | (with_reducible refine LeO.bind ?_ (fun _ => ?_))
      | exact ih0 _ _ _
      | exact weftref3_total.mono _ _
      | exact LeO.none _
      | refine LeO.ite ?_ ?_
      | refine LeO.bind ?_ (fun _ => ?_)
theorem weftref3_Sum.mono : ∀ a0 k, LeO (weftref3_Sum.f k a0) (weftref3_Sum.f (k + 1) a0) := by
  intro a0 k
  have ih0 := weftref3_Sum.mono_l k
  unfold weftref3_Sum.f
  repeat' first
      | (with_reducible exact ih0 _ _ _)
      | (with_reducible exact weftref3_total.mono _ _)
      | (with_reducible exact LeO.refl _)
      | (with_reducible exact LeO.none _)
      | (with_reducible refine LeO.ite ?_ ?_)
      | (with_reducible refine LeO.bind ?_ (fun _ => ?_))
      | exact ih0 _ _ _
      | exact weftref3_total.mono _ _
      | exact LeO.none _
      | refine LeO.ite ?_ ?_
      | refine LeO.bind ?_ (fun _ => ?_)
set_option maxHeartbeats 8000000 in
set_option maxRecDepth 100000 in
theorem weftref3_Sum.calls (k : Nat) (A0 : Option Addr) (c0 : Nat) (l0 : List (List Int)) (r : Int) (w : World) (hr0 : Kd.C (Kd.slice 5 (Kd.int .u8)) w A0 l0.length l0) (hc0 : l0.length ≤ c0) (h : weftref3_Sum.f k l0 = some r) :
    Calls Try.prog 43 #[.slice A0 l0.length c0] w fun e w' => e = .returned (.int .u16 r) ∧ Below w.heap.size w w' := by
  have HR0 := Aside0.mk hr0
  have HC0 := Aside0.mk hc0
  clear hr0 hc0
  have HB := Aside0.mk (Below.refl w.heap.size w)
  have H : (weftref3_Sum.l0 k l0 ([] : List Int) 0) = some r := h
  clear h
  have H' := Aside0.mk H
  clear H
  go_enter Try.func43, Try.ntmps43
  go_wp2
  go_loopg [3, 4] k (fun kq v3 v4 w' => ∃ (x3_1 : List Int) (x4_1 : Int), v4 = .int .i64 x4_1 ∧ Aside0 (weftref3_Sum.l0 kq l0 x3_1 x4_1 = some r) ∧ Aside0 (kq ≤ k) ∧ Aside0 (Kd.R (Kd.int .u8) 5 w' w.heap.size (fun _ => True) v3 x3_1) ∧ Aside0 (Below w.heap.size w w'))
  case atStart => exact ⟨(([] : List Int)), (0), (by first | rfl | (simp; done) | (simp [*]; done)), H', ⟨Nat.le_refl _⟩, ⟨by first | exact Kd.R_nil _ _ _ _ _ | exact Kd.N_nil _ _ _ _ _ | exact Kd.V_nil _ _ _ _ _ | exact Kd.Q_nil _ _ _ _ _ | exact Kd.S_nil _ _ _ _ _⟩, ⟨by repeat (first | (with_reducible first | exact HB.out | apply below_alloc | apply pw_below_drewN | apply below_drew1) | exact HB.out)⟩⟩
  case round =>
    clear H'
    obtain ⟨x3_1, x4_1, rfl, HA, HK1, HO_3, HB⟩ := hrel
    cases gk with
    | zero => exact absurd HA.out (by simp [weftref3_Sum.l0])
    | succ k1 =>
      have H := HA.out
      clear HA
      simp only [weftref3_Sum.l0] at H
      by_cases c2 : x4_1 < (l0.length : Int)
      · rw [if_pos c2] at H
        have c2b0 : decide (x4_1 < (l0.length : Int)) = true := decide_eq_true c2
        clear c2
        by_cases c3 : 0 ≤ x4_1
        · rw [if_pos c3] at H
          have c3b0 : decide (0 ≤ x4_1) = true := decide_eq_true c3
          clear c3
          by_cases c4 : x3_1.length + (rd_L1 l0 x4_1).length < 140737488355328
          · rw [if_pos c4] at H
            have LMc4 := Aside0.mk c4
            clear c4
            obtain ⟨y310, hy310⟩ : ∃ y_ : List Int, y_ = (x3_1 ++ (rd_L1 l0 x4_1)) := ⟨_, rfl⟩
            replace H : (weftref3_Sum.l0 k1 l0 y310 (wrap64 (x4_1 + 1))) = some r := by first | (rw [hy310]; with_reducible exact H) | (have H2_ := (Option.bind_some _ _).symm.trans H; rw [hy310]; with_reducible exact H2_) | (have H2_ := (Option.bind_some _ _).symm.trans H; with_reducible exact H2_) | with_reducible exact H | (rw [hy310]; exact H) | exact H
            have Ny310 := Aside0.mk hy310
            clear hy310
            have H' := Aside0.mk H
            clear H
            have p309 : 0 ≤ (x4_1 : Int) := of_decide_eq_true (by first | (with_reducible assumption) | assumption)
            have q309 : x4_1 < (l0.length : Int) := of_decide_eq_true (by first | (with_reducible assumption) | assumption)
            obtain ⟨ad309, A309_0, c309_0, e309, hx309_0, hl309_0, hi309_0⟩ := at_L1 HR0.out x4_1 p309 q309
            cases e309
            replace hx309_0 := (HB.out.cell (World.block_lt_of_cell? w _ hx309_0)).trans hx309_0
            have HR309_0 := Aside0.mk hi309_0
            have HC309_0 := Aside0.mk hl309_0
            clear hi309_0 hl309_0
            replace p309 := eq_true p309
            replace q309 := eq_true q309
            go_wp2_with (first | ((with_reducible refine gate_builtin (b := .append) (xs := #[.tmp 12, .tmp 16]) rfl ?_); at_builtin; refine Kd.R_append_rows (Kd.int .u8) (w0 := w) w.heap.size rfl (.tmp 12) (.tmp 16) 23 5 (.int .u8 0) 1 rfl Try.underlying23 info5 rfl (by decide) (by omega) u3 x3_1 (rd_L1 l0 x4_1) _ _ _ (fun _ => True) (fun _ => False) rfl rfl ?aO ?aR (fun _ _ h => h) (fun _ h => h.elim) ?aF ?aB ?aS ?aL ?_; (case aR => repeat (first | exact (Kd.C_below HR309_0.out HB.out) | (with_reducible refine Kd.C_alloc ?_ _) | (with_reducible refine Kd.C_drewN ?_ _) | (with_reducible refine Kd.C_drew ?_))); (case aB => exact zqxa7_2); (case aF => exact (fun _ _ => trivial)); (case aO => exact (by (with_reducible repeat (first | apply Kd.R_alloc | apply Kd.R_drewN | apply Kd.R_drew)); exact HO_3.out)); (case aS => exact (below_size zqxa7_2)); (case aL => have := LMc4.out; omega); intro v311 w5 ho hb hg hat; rw [← Ny310.out] at ho; have n0_ := Aside0.mk (hb); have n1_ := Aside0.mk (ho); clear HB; clear HO_3; have HB := n0_; have HO312 := n1_; clear n0_ n1_; clear ho hb hg hat))
            go_roundg k1
            case measure => have := HK1.out; omega
            case rel => exact ⟨(y310), (wrap64 (x4_1 + 1)), (by first | rfl | (simp; done) | (simp [*]; done)), H', ⟨by have := HK1.out; omega⟩, ⟨by (with_reducible repeat (first | apply Kd.R_alloc | apply Kd.R_drewN | apply Kd.R_drew)); exact HO312.out⟩, ⟨by repeat (first | (with_reducible first | exact HB.out | apply below_alloc | apply pw_below_drewN | apply below_drew1) | exact HB.out)⟩⟩
          · rw [if_neg c4] at H
            exact absurd H (by simp)
        · rw [if_neg c3] at H
          exact absurd H (by simp)
      · rw [if_neg c2] at H
        have c2b0 : decide (x4_1 < (l0.length : Int)) = false := decide_eq_false c2
        clear c2
        replace H := Option.bind_eq_some_iff.mp H
        obtain ⟨t313, A60, H⟩ := H
        replace H : ((weftref3_fold.f t313).bind fun t314 => (some (IntKind.u16.wrap (wrap64 (65535 - t314))))) = some r := H
        have A6 := Aside0.mk A60
        clear A60
        replace H := Option.bind_eq_some_iff.mp H
        obtain ⟨t314, A70, H⟩ := H
        replace H : (some (IntKind.u16.wrap (wrap64 (65535 - t314)))) = some r := H
        have A7 := Aside0.mk A70
        clear A70
        obtain rfl := Option.some.inj H
        obtain ⟨Ao8, co8, eo8⟩ := Kd.R_slice HO_3.out
        subst eo8
        go_wp2_with (first | ((with_reducible refine gate_callee (f := 58) rfl ?_); refine goesL_ (some 19) rfl rfl Try.func58 (by kernel_rfl) rfl #[.slice Ao8 x3_1.length co8] rfl zqxa7_3 ?_; (with_reducible refine (weftref3_total.calls k1 _ _ x3_1 t313 _ ?side1 ?side2 A6.out).mono ?_); (case side1 => repeat (first | exact (Kd.R_reads' HO_3.out).2.2 | (with_reducible refine Kd.C_alloc ?_ _) | (with_reducible refine Kd.C_drewN ?_ _) | (with_reducible refine Kd.C_drew ?_))); (case side2 => exact (Kd.R_reads' HO_3.out).2.1); rintro e w' ⟨rfl, ⟨nd, rfl⟩⟩; refine ⟨_, rfl, ?_⟩) | ((with_reducible refine gate_callee (f := 59) rfl ?_); refine goesL_ (some 21) rfl rfl Try.func59 (by kernel_rfl) rfl #[.int .i64 t313] rfl zqxa7_3 ?_; (with_reducible refine (weftref3_fold.calls t313 t314 _ A7.out).mono ?_); rintro e w' ⟨rfl, ⟨nd, rfl⟩⟩; refine ⟨_, rfl, ?_⟩))
        go_ret
        exact ⟨by first | rfl | (simp [errW_none, errW_some] <;> rfl) | (simp [*, errW_none, errW_some] <;> rfl), by repeat (first | (with_reducible first | exact HB.out | apply below_alloc | apply pw_below_drewN | apply below_drew1) | exact HB.out)⟩

/-! ### weftref3_Build: function 27 -/
def weftref3_Build.l0 : Nat → List Int → Int → Int → Int → Bool → Bool → Int → Int → Int → Int → Int → List Int → List Int → Option (List Int × Int)
  | 0, _, _, _, _, _, _, _, _, _, _, _, _, _ => none
  | k + 1, x8, x9, x316000, x316001, x316002, x316003, x316004, x316005, x316006, x316007, x316008, x316009, x316010 => if x9 < (x316010.length : Int) then (if 0 ≤ x9 then (if x8.length < 140737488355328 then (weftref3_Build.l0 k (x8 ++ [rd x316010 x9]) (wrap64 (x9 + 1)) x316000 x316001 x316002 x316003 x316004 x316005 x316006 x316007 x316008 x316009 x316010) else (none)) else (none)) else (some (x8, 0))
def weftref3_Build.f (k : Nat) (a0_0 : Int) (a0_1 : Int) (a0_2 : Bool) (a0_3 : Bool) (a0_4 : Int) (a0_5 : Int) (a0_6 : Int) (a0_7 : Int) (a0_8 : Int) (l0_9 : List Int) (l0_10 : List Int) : Option (List Int × Int) := (weftref3_Refused.f k a0_0 a0_1 a0_2 a0_3 a0_4 a0_5 a0_6 a0_7 a0_8 l0_9 l0_10).bind fun t316 => (if t316 = 0 then ((weftref3_header.f k a0_0 a0_1 a0_2 a0_3 a0_4 a0_5 a0_6 a0_7 a0_8 l0_9 (wrap64 ((wrap64 (20 + (l0_9.length : Int))) + (l0_10.length : Int))) 0).bind fun t317 => ((weftref3_Sum.f k (([t317] : List (List Int)))).bind fun t324 => ((weftref3_header.f k a0_0 a0_1 a0_2 a0_3 a0_4 a0_5 a0_6 a0_7 a0_8 l0_9 (wrap64 ((wrap64 (20 + (l0_9.length : Int))) + (l0_10.length : Int))) t324).bind fun t325 => (weftref3_Build.l0 k t325 0 a0_0 a0_1 a0_2 a0_3 a0_4 a0_5 a0_6 a0_7 a0_8 l0_9 l0_10)))) else (some (([] : List Int), t316)))
theorem weftref3_Build.mono_l : ∀ k, (∀ y0 y1 y2 y3 y4 y5 y6 y7 y8 y9 y10 y11 y12, LeO (weftref3_Build.l0 k y0 y1 y2 y3 y4 y5 y6 y7 y8 y9 y10 y11 y12) (weftref3_Build.l0 (k + 1) y0 y1 y2 y3 y4 y5 y6 y7 y8 y9 y10 y11 y12))
  | 0 => fun _ _ _ _ _ _ _ _ _ _ _ _ _ r h => by simp [weftref3_Build.l0] at h
  | k + 1 => by
    have ih0 := weftref3_Build.mono_l k
    · intro y0 y1 y2 y3 y4 y5 y6 y7 y8 y9 y10 y11 y12
      unfold weftref3_Build.l0
      repeat' first
      | (with_reducible exact ih0 _ _ _ _ _ _ _ _ _ _ _ _ _)
      | (with_reducible exact weftref3_Refused.mono _ _ _ _ _ _ _ _ _ _ _ _)
      | (with_reducible exact weftref3_Sum.mono _ _)
      | (with_reducible exact weftref3_header.mono _ _ _ _ _ _ _ _ _ _ _ _ _)
      | (with_reducible exact LeO.refl _)
      | (with_reducible exact LeO.none _)
      | (with_reducible refine LeO.ite ?_ ?_)
      | (with_reducible refine LeO.bind ?_ (fun _ => ?_))
      | exact ih0 _ _ _ _ _ _ _ _ _ _ _ _ _
      | exact weftref3_Refused.mono _ _ _ _ _ _ _ _ _ _ _ _
      | exact weftref3_Sum.mono _ _
      | exact weftref3_header.mono _ _ _ _ _ _ _ _ _ _ _ _ _
      | exact LeO.none _
      | refine LeO.ite ?_ ?_
      | refine LeO.bind ?_ (fun _ => ?_)
theorem weftref3_Build.mono : ∀ a0 a1 a2 a3 a4 a5 a6 a7 a8 a9 a10 k, LeO (weftref3_Build.f k a0 a1 a2 a3 a4 a5 a6 a7 a8 a9 a10) (weftref3_Build.f (k + 1) a0 a1 a2 a3 a4 a5 a6 a7 a8 a9 a10) := by
  intro a0 a1 a2 a3 a4 a5 a6 a7 a8 a9 a10 k
  have ih0 := weftref3_Build.mono_l k
  unfold weftref3_Build.f
  repeat' first
      | (with_reducible exact ih0 _ _ _ _ _ _ _ _ _ _ _ _ _)
      | (with_reducible exact weftref3_Refused.mono _ _ _ _ _ _ _ _ _ _ _ _)
      | (with_reducible exact weftref3_Sum.mono _ _)
      | (with_reducible exact weftref3_header.mono _ _ _ _ _ _ _ _ _ _ _ _ _)
      | (with_reducible exact LeO.refl _)
      | (with_reducible exact LeO.none _)
      | (with_reducible refine LeO.ite ?_ ?_)
      | (with_reducible refine LeO.bind ?_ (fun _ => ?_))
      | exact ih0 _ _ _ _ _ _ _ _ _ _ _ _ _
      | exact weftref3_Refused.mono _ _ _ _ _ _ _ _ _ _ _ _
      | exact weftref3_Sum.mono _ _
      | exact weftref3_header.mono _ _ _ _ _ _ _ _ _ _ _ _ _
      | exact LeO.none _
      | refine LeO.ite ?_ ?_
      | refine LeO.bind ?_ (fun _ => ?_)
set_option maxHeartbeats 8000000 in
set_option maxRecDepth 100000 in
theorem weftref3_Build.calls (k : Nat) (a0_0 : Int) (a0_1 : Int) (a0_2 : Bool) (a0_3 : Bool) (a0_4 : Int) (a0_5 : Int) (a0_6 : Int) (a0_7 : Int) (a0_8 : Int) (A0_9 : Option Addr) (c0_9 : Nat) (l0_9 : List Int) (A0_10 : Option Addr) (c0_10 : Nat) (l0_10 : List Int) (r1 : List Int) (r2 : Int) (w : World) (hr0_9 : Kd.C (Kd.int .u8) w A0_9 l0_9.length l0_9) (hc0_9 : l0_9.length ≤ c0_9) (hr0_10 : Kd.C (Kd.int .u8) w A0_10 l0_10.length l0_10) (hc0_10 : l0_10.length ≤ c0_10) (h : weftref3_Build.f k a0_0 a0_1 a0_2 a0_3 a0_4 a0_5 a0_6 a0_7 a0_8 l0_9 l0_10 = some (r1, r2)) :
    Calls Try.prog 27 #[.agg #[.int .u8 a0_0, .int .u16 a0_1, .bool a0_2, .bool a0_3, .int .i64 a0_4, .int .u8 a0_5, .int .u8 a0_6, .int .u32 a0_7, .int .u32 a0_8, .slice A0_9 l0_9.length c0_9, .slice A0_10 l0_10.length c0_10]] w fun e w' => ∃ v0_ : Value, e = .returned (.tuple #[v0_, .int .i64 r2]) ∧ Kd.R (Kd.int .u8) 5 w' w.heap.size (fun _ => True) v0_ r1 ∧ Below w.heap.size w w' := by
  have hu33 := Try.underlying33
  have hu31 := Try.underlying31
  have HR0_9 := Aside0.mk hr0_9
  have HC0_9 := Aside0.mk hc0_9
  clear hr0_9 hc0_9
  have HR0_10 := Aside0.mk hr0_10
  have HC0_10 := Aside0.mk hc0_10
  clear hr0_10 hc0_10
  have HB := Aside0.mk (Below.refl w.heap.size w)
  have H : ((weftref3_Refused.f k a0_0 a0_1 a0_2 a0_3 a0_4 a0_5 a0_6 a0_7 a0_8 l0_9 l0_10).bind fun t316 => (if t316 = 0 then ((weftref3_header.f k a0_0 a0_1 a0_2 a0_3 a0_4 a0_5 a0_6 a0_7 a0_8 l0_9 (wrap64 ((wrap64 (20 + (l0_9.length : Int))) + (l0_10.length : Int))) 0).bind fun t317 => ((weftref3_Sum.f k (([t317] : List (List Int)))).bind fun t324 => ((weftref3_header.f k a0_0 a0_1 a0_2 a0_3 a0_4 a0_5 a0_6 a0_7 a0_8 l0_9 (wrap64 ((wrap64 (20 + (l0_9.length : Int))) + (l0_10.length : Int))) t324).bind fun t325 => (weftref3_Build.l0 k t325 0 a0_0 a0_1 a0_2 a0_3 a0_4 a0_5 a0_6 a0_7 a0_8 l0_9 l0_10)))) else (some (([] : List Int), t316)))) = some (r1, r2) := h
  clear h
  replace H := Option.bind_eq_some_iff.mp H
  obtain ⟨t316, A20, H⟩ := H
  replace H : (if t316 = 0 then ((weftref3_header.f k a0_0 a0_1 a0_2 a0_3 a0_4 a0_5 a0_6 a0_7 a0_8 l0_9 (wrap64 ((wrap64 (20 + (l0_9.length : Int))) + (l0_10.length : Int))) 0).bind fun t317 => ((weftref3_Sum.f k (([t317] : List (List Int)))).bind fun t324 => ((weftref3_header.f k a0_0 a0_1 a0_2 a0_3 a0_4 a0_5 a0_6 a0_7 a0_8 l0_9 (wrap64 ((wrap64 (20 + (l0_9.length : Int))) + (l0_10.length : Int))) t324).bind fun t325 => (weftref3_Build.l0 k t325 0 a0_0 a0_1 a0_2 a0_3 a0_4 a0_5 a0_6 a0_7 a0_8 l0_9 l0_10)))) else (some (([] : List Int), t316))) = some (r1, r2) := H
  have A2 := Aside0.mk A20
  clear A20
  by_cases c3 : t316 = 0
  · rw [if_pos c3] at H
    have c3b0 : (t316 == 0) = true := beq_iff_eq.mpr c3
    have c3b1 : (t316 != 0) = false := bne_eq_false_iff_eq.mpr c3
    clear c3
    replace H := Option.bind_eq_some_iff.mp H
    obtain ⟨t317, A40, H⟩ := H
    replace H : ((weftref3_Sum.f k (([t317] : List (List Int)))).bind fun t324 => ((weftref3_header.f k a0_0 a0_1 a0_2 a0_3 a0_4 a0_5 a0_6 a0_7 a0_8 l0_9 (wrap64 ((wrap64 (20 + (l0_9.length : Int))) + (l0_10.length : Int))) t324).bind fun t325 => (weftref3_Build.l0 k t325 0 a0_0 a0_1 a0_2 a0_3 a0_4 a0_5 a0_6 a0_7 a0_8 l0_9 l0_10))) = some (r1, r2) := H
    have A4 := Aside0.mk A40
    clear A40
    obtain ⟨y320, hy320⟩ : ∃ y_ : List (List Int), y_ = (([t317] : List (List Int))) := ⟨_, rfl⟩
    replace H : ((weftref3_Sum.f k y320).bind fun t324 => ((weftref3_header.f k a0_0 a0_1 a0_2 a0_3 a0_4 a0_5 a0_6 a0_7 a0_8 l0_9 (wrap64 ((wrap64 (20 + (l0_9.length : Int))) + (l0_10.length : Int))) t324).bind fun t325 => (weftref3_Build.l0 k t325 0 a0_0 a0_1 a0_2 a0_3 a0_4 a0_5 a0_6 a0_7 a0_8 l0_9 l0_10))) = some (r1, r2) := by first | (rw [hy320]; with_reducible exact H) | (have H2_ := (Option.bind_some _ _).symm.trans H; rw [hy320]; with_reducible exact H2_) | (have H2_ := (Option.bind_some _ _).symm.trans H; with_reducible exact H2_) | with_reducible exact H | (rw [hy320]; exact H) | exact H
    have Ny320 := Aside0.mk hy320
    clear hy320
    replace H := Option.bind_eq_some_iff.mp H
    obtain ⟨t324, A50, H⟩ := H
    replace H : ((weftref3_header.f k a0_0 a0_1 a0_2 a0_3 a0_4 a0_5 a0_6 a0_7 a0_8 l0_9 (wrap64 ((wrap64 (20 + (l0_9.length : Int))) + (l0_10.length : Int))) t324).bind fun t325 => (weftref3_Build.l0 k t325 0 a0_0 a0_1 a0_2 a0_3 a0_4 a0_5 a0_6 a0_7 a0_8 l0_9 l0_10)) = some (r1, r2) := H
    have A5 := Aside0.mk A50
    clear A50
    replace H := Option.bind_eq_some_iff.mp H
    obtain ⟨t325, A60, H⟩ := H
    replace H : (weftref3_Build.l0 k t325 0 a0_0 a0_1 a0_2 a0_3 a0_4 a0_5 a0_6 a0_7 a0_8 l0_9 l0_10) = some (r1, r2) := H
    have A6 := Aside0.mk A60
    clear A60
    have H' := Aside0.mk H
    clear H
    go_enter Try.func27, Try.ntmps27
    go_wp2_with (first | ((with_reducible refine gate_dst (N := 1) rfl ?_); refine box_event ?hg (N := 1) ?hd (cs := #[.int .u8 a0_0, .int .u16 a0_1, .bool a0_2, .bool a0_3, .int .i64 a0_4, .int .u8 a0_5, .int .u8 a0_6, .int .u32 a0_7, .int .u32 a0_8, .slice A0_9 l0_9.length c0_9, .slice A0_10 l0_10.length c0_10]) (t := 33) ?hr ?_; (case hd => rfl); (case hg => rfl); (case hr => first | (go_simp; done) | (go_simp; rfl)); intro gb315 hg w7 hbox hb; have n0_ := Aside0.mk (below_step zqxa7_2 hb); have n1_ := Aside0.mk (hbox); have n2_ := Aside0.mk ((by rw [hg]; exact (below_size zqxa7_2) : w.heap.size ≤ gb315)); have n3_ := Aside0.mk ((by rw [hg]; exact (below_size zqxa7_2) : w.heap.size ≤ gb315)); clear HB; have HB := n0_; have BK315 := n1_; have GW315 := n2_; have GE315 := n3_; clear n0_ n1_ n2_ n3_; clear hb hbox hg; have hcz8_0 : w7.cell? ⟨gb315, 0, none⟩ = some (.int .u8 a0_0) := (blk_cell BK315.out 0).trans rfl; have hcz8_1 : w7.cell? ⟨gb315, 1, none⟩ = some (.int .u16 a0_1) := (blk_cell BK315.out 1).trans rfl; have hcz8_2 : w7.cell? ⟨gb315, 2, none⟩ = some (.bool a0_2) := (blk_cell BK315.out 2).trans rfl; have hcz8_3 : w7.cell? ⟨gb315, 3, none⟩ = some (.bool a0_3) := (blk_cell BK315.out 3).trans rfl; have hcz8_4 : w7.cell? ⟨gb315, 4, none⟩ = some (.int .i64 a0_4) := (blk_cell BK315.out 4).trans rfl; have hcz8_5 : w7.cell? ⟨gb315, 5, none⟩ = some (.int .u8 a0_5) := (blk_cell BK315.out 5).trans rfl; have hcz8_6 : w7.cell? ⟨gb315, 6, none⟩ = some (.int .u8 a0_6) := (blk_cell BK315.out 6).trans rfl; have hcz8_7 : w7.cell? ⟨gb315, 7, none⟩ = some (.int .u32 a0_7) := (blk_cell BK315.out 7).trans rfl; have hcz8_8 : w7.cell? ⟨gb315, 8, none⟩ = some (.int .u32 a0_8) := (blk_cell BK315.out 8).trans rfl; have hcz8_9 : w7.cell? ⟨gb315, 9, none⟩ = some (.slice A0_9 l0_9.length c0_9) := (blk_cell BK315.out 9).trans rfl; have hcz8_10 : w7.cell? ⟨gb315, 10, none⟩ = some (.slice A0_10 l0_10.length c0_10) := (blk_cell BK315.out 10).trans rfl; have hfz8_0 := blk_frozen BK315.out 0; have hfz8_1 := blk_frozen BK315.out 1; have hfz8_2 := blk_frozen BK315.out 2; have hfz8_3 := blk_frozen BK315.out 3; have hfz8_4 := blk_frozen BK315.out 4; have hfz8_5 := blk_frozen BK315.out 5; have hfz8_6 := blk_frozen BK315.out 6; have hfz8_7 := blk_frozen BK315.out 7; have hfz8_8 := blk_frozen BK315.out 8; have hfz8_9 := blk_frozen BK315.out 9; have hfz8_10 := blk_frozen BK315.out 10) | ((with_reducible refine gate_callee (f := 41) rfl ?_); refine goesL_ (some 11) rfl rfl Try.func41 (by kernel_rfl) rfl #[.agg #[.int .u8 a0_0, .int .u16 a0_1, .bool a0_2, .bool a0_3, .int .i64 a0_4, .int .u8 a0_5, .int .u8 a0_6, .int .u32 a0_7, .int .u32 a0_8, .slice A0_9 l0_9.length c0_9, .slice A0_10 l0_10.length c0_10]] rfl zqxa7_3 ?_; (with_reducible refine (weftref3_Refused.calls k a0_0 a0_1 a0_2 a0_3 a0_4 a0_5 a0_6 a0_7 a0_8 _ _ l0_9 _ _ l0_10 t316 _ ?side1 ?side2 ?side3 ?side4 A2.out).mono ?_); (case side1 => repeat (first | exact (Kd.C_below HR0_9.out HB.out) | (with_reducible refine Kd.C_alloc ?_ _) | (with_reducible refine Kd.C_drewN ?_ _) | (with_reducible refine Kd.C_drew ?_))); (case side2 => exact HC0_9.out); (case side3 => repeat (first | exact (Kd.C_below HR0_10.out HB.out) | (with_reducible refine Kd.C_alloc ?_ _) | (with_reducible refine Kd.C_drewN ?_ _) | (with_reducible refine Kd.C_drew ?_))); (case side4 => exact HC0_10.out); rintro e w9 ⟨rfl, hb⟩; refine ⟨_, rfl, ?_⟩; have n0_ := Aside0.mk (blk_below (g := gb315) (o := .cells #[.int .u8 a0_0, .int .u16 a0_1, .bool a0_2, .bool a0_3, .int .i64 a0_4, .int .u8 a0_5, .int .u8 a0_6, .int .u32 a0_7, .int .u32 a0_8, .slice A0_9 l0_9.length c0_9, .slice A0_10 l0_10.length c0_10] 33 (0, 0)) zqxa7_0 hb); have n1_ := Aside0.mk (below_step zqxa7_1 hb); clear BK315; clear HB; have BK315 := n0_; have HB := n1_; clear n0_ n1_; (try clear hb); (try clear hb2); (try clear hk); (try clear hi); have hcz10_0 : w9.cell? ⟨gb315, 0, none⟩ = some (.int .u8 a0_0) := (blk_cell BK315.out 0).trans rfl; have hcz10_1 : w9.cell? ⟨gb315, 1, none⟩ = some (.int .u16 a0_1) := (blk_cell BK315.out 1).trans rfl; have hcz10_2 : w9.cell? ⟨gb315, 2, none⟩ = some (.bool a0_2) := (blk_cell BK315.out 2).trans rfl; have hcz10_3 : w9.cell? ⟨gb315, 3, none⟩ = some (.bool a0_3) := (blk_cell BK315.out 3).trans rfl; have hcz10_4 : w9.cell? ⟨gb315, 4, none⟩ = some (.int .i64 a0_4) := (blk_cell BK315.out 4).trans rfl; have hcz10_5 : w9.cell? ⟨gb315, 5, none⟩ = some (.int .u8 a0_5) := (blk_cell BK315.out 5).trans rfl; have hcz10_6 : w9.cell? ⟨gb315, 6, none⟩ = some (.int .u8 a0_6) := (blk_cell BK315.out 6).trans rfl; have hcz10_7 : w9.cell? ⟨gb315, 7, none⟩ = some (.int .u32 a0_7) := (blk_cell BK315.out 7).trans rfl; have hcz10_8 : w9.cell? ⟨gb315, 8, none⟩ = some (.int .u32 a0_8) := (blk_cell BK315.out 8).trans rfl; have hcz10_9 : w9.cell? ⟨gb315, 9, none⟩ = some (.slice A0_9 l0_9.length c0_9) := (blk_cell BK315.out 9).trans rfl; have hcz10_10 : w9.cell? ⟨gb315, 10, none⟩ = some (.slice A0_10 l0_10.length c0_10) := (blk_cell BK315.out 10).trans rfl; have hfz10_0 := blk_frozen BK315.out 0; have hfz10_1 := blk_frozen BK315.out 1; have hfz10_2 := blk_frozen BK315.out 2; have hfz10_3 := blk_frozen BK315.out 3; have hfz10_4 := blk_frozen BK315.out 4; have hfz10_5 := blk_frozen BK315.out 5; have hfz10_6 := blk_frozen BK315.out 6; have hfz10_7 := blk_frozen BK315.out 7; have hfz10_8 := blk_frozen BK315.out 8; have hfz10_9 := blk_frozen BK315.out 9; have hfz10_10 := blk_frozen BK315.out 10) | ((with_reducible refine gate_callee (f := 42) rfl ?_); refine goesL_ (some 27) rfl rfl Try.func42 (by kernel_rfl) rfl #[.agg #[.int .u8 a0_0, .int .u16 a0_1, .bool a0_2, .bool a0_3, .int .i64 a0_4, .int .u8 a0_5, .int .u8 a0_6, .int .u32 a0_7, .int .u32 a0_8, .slice A0_9 l0_9.length c0_9], .int .i64 (wrap64 ((wrap64 (20 + (l0_9.length : Int))) + (l0_10.length : Int))), .int .u16 0] rfl zqxa7_3 ?_; (with_reducible refine (weftref3_header.calls k a0_0 a0_1 a0_2 a0_3 a0_4 a0_5 a0_6 a0_7 a0_8 _ _ l0_9 (wrap64 ((wrap64 (20 + (l0_9.length : Int))) + (l0_10.length : Int))) 0 t317 _ ?side1 ?side2 A4.out).mono ?_); (case side1 => repeat (first | exact (Kd.C_below HR0_9.out HB.out) | (with_reducible refine Kd.C_alloc ?_ _) | (with_reducible refine Kd.C_drewN ?_ _) | (with_reducible refine Kd.C_drew ?_))); (case side2 => exact HC0_9.out); rintro e w11 ⟨v318, rfl, ho0, hb⟩; refine ⟨_, rfl, ?_⟩; have n0_ := Aside0.mk (Kd.R_lower ho0 (below_size zqxa7_1)); have n1_ := Aside0.mk (blk_below (g := gb315) (o := .cells #[.int .u8 a0_0, .int .u16 a0_1, .bool a0_2, .bool a0_3, .int .i64 a0_4, .int .u8 a0_5, .int .u8 a0_6, .int .u32 a0_7, .int .u32 a0_8, .slice A0_9 l0_9.length c0_9, .slice A0_10 l0_10.length c0_10] 33 (0, 0)) zqxa7_0 hb); have n2_ := Aside0.mk (below_step zqxa7_1 hb); clear BK315; clear HB; have HO319 := n0_; have BK315 := n1_; have HB := n2_; clear n0_ n1_ n2_; (try clear hb); (try clear hb2); (try clear hk); (try clear hi); (try clear ho0); obtain ⟨Ao12, co12, eo12⟩ := Kd.R_slice HO319.out; subst eo12) | ((with_reducible refine gate_dst (N := 29) rfl ?_); refine lits_event (Kd.slice 5 (Kd.int .u8)) 23 ?hg (N := 29) ?hd (xs := ([t317] : List (List Int))) (inner := [.slice Ao12 t317.length co12]) ?hr ?hp (by simp) ?_; (case hd => rfl); (case hg => rfl); (case hr => first | (go_simp; done) | (go_simp; rfl)); (case hp => exact (Reps.one (show Kd.K (Kd.slice 5 (Kd.int .u8)) _ t317 [.slice Ao12 t317.length co12] from by refine ⟨_, _, rfl, ?_, ?_⟩; (· exact (Kd.R_reads' HO319.out).2.1); (· repeat (first | exact (Kd.R_reads' HO319.out).2.2 | (with_reducible refine Kd.C_alloc ?_ _) | (with_reducible refine Kd.C_drewN ?_ _) | (with_reducible refine Kd.C_drew ?_)))) (Reps.none _ _))); intro v14_ w13 hL_ hb; (first | rw [← Ny320.out] at hL_ | (simp only [Int.reduceToNat] at hL_; rw [← Ny320.out] at hL_)); obtain ⟨A14, c14, rfl, hlr_, hlc_⟩ := hL_; have n0_ := Aside0.mk (Kd.R_below (by (with_reducible repeat (first | apply Kd.R_alloc | apply Kd.R_drewN | apply Kd.R_drew)); exact HO319.out) hb); have n1_ := Aside0.mk (blk_below (g := gb315) (o := .cells #[.int .u8 a0_0, .int .u16 a0_1, .bool a0_2, .bool a0_3, .int .i64 a0_4, .int .u8 a0_5, .int .u8 a0_6, .int .u32 a0_7, .int .u32 a0_8, .slice A0_9 l0_9.length c0_9, .slice A0_10 l0_10.length c0_10] 33 (0, 0)) zqxa7_0 hb); have n2_ := Aside0.mk (below_step zqxa7_1 hb); have n3_ := Aside0.mk (hlc_); have n4_ := Aside0.mk (hlr_); clear HO319; clear BK315; clear HB; have HO319 := n0_; have BK315 := n1_; have HB := n2_; have HR323 := n3_; have HC323 := n4_; clear n0_ n1_ n2_ n3_ n4_; clear hb hlr_ hlc_) | ((with_reducible refine gate_callee (f := 43) rfl ?_); refine goesL_ (some 30) rfl rfl Try.func43 (by kernel_rfl) rfl #[.slice A14 y320.length c14] rfl zqxa7_3 ?_; (with_reducible refine (weftref3_Sum.calls k _ _ y320 t324 _ ?side1 ?side2 A5.out).mono ?_); (case side1 => repeat (first | exact (by repeat (first | (with_reducible exact HR323.out) | (with_reducible refine Kd.C_alloc ?_ _) | (with_reducible refine Kd.C_drewN ?_ _) | (with_reducible refine Kd.C_drew ?_) | exact HR323.out)) | (with_reducible refine Kd.C_alloc ?_ _) | (with_reducible refine Kd.C_drewN ?_ _) | (with_reducible refine Kd.C_drew ?_))); (case side2 => exact HC323.out); rintro e w15 ⟨rfl, hb⟩; refine ⟨_, rfl, ?_⟩; have n0_ := Aside0.mk (Kd.R_below (by (with_reducible repeat (first | apply Kd.R_alloc | apply Kd.R_drewN | apply Kd.R_drew)); exact HO319.out) hb); have n1_ := Aside0.mk (blk_below (g := gb315) (o := .cells #[.int .u8 a0_0, .int .u16 a0_1, .bool a0_2, .bool a0_3, .int .i64 a0_4, .int .u8 a0_5, .int .u8 a0_6, .int .u32 a0_7, .int .u32 a0_8, .slice A0_9 l0_9.length c0_9, .slice A0_10 l0_10.length c0_10] 33 (0, 0)) zqxa7_0 hb); have n2_ := Aside0.mk (Kd.C_below (by repeat (first | (with_reducible exact HR323.out) | (with_reducible refine Kd.C_alloc ?_ _) | (with_reducible refine Kd.C_drewN ?_ _) | (with_reducible refine Kd.C_drew ?_) | exact HR323.out)) hb); have n3_ := Aside0.mk (below_step zqxa7_1 hb); clear HO319; clear BK315; clear HR323; clear HB; have HO319 := n0_; have BK315 := n1_; have HR323 := n2_; have HB := n3_; clear n0_ n1_ n2_ n3_; (try clear hb); (try clear hb2); (try clear hk); (try clear hi); have hcz16_0 : w15.cell? ⟨gb315, 0, none⟩ = some (.int .u8 a0_0) := (blk_cell BK315.out 0).trans rfl; have hcz16_1 : w15.cell? ⟨gb315, 1, none⟩ = some (.int .u16 a0_1) := (blk_cell BK315.out 1).trans rfl; have hcz16_2 : w15.cell? ⟨gb315, 2, none⟩ = some (.bool a0_2) := (blk_cell BK315.out 2).trans rfl; have hcz16_3 : w15.cell? ⟨gb315, 3, none⟩ = some (.bool a0_3) := (blk_cell BK315.out 3).trans rfl; have hcz16_4 : w15.cell? ⟨gb315, 4, none⟩ = some (.int .i64 a0_4) := (blk_cell BK315.out 4).trans rfl; have hcz16_5 : w15.cell? ⟨gb315, 5, none⟩ = some (.int .u8 a0_5) := (blk_cell BK315.out 5).trans rfl; have hcz16_6 : w15.cell? ⟨gb315, 6, none⟩ = some (.int .u8 a0_6) := (blk_cell BK315.out 6).trans rfl; have hcz16_7 : w15.cell? ⟨gb315, 7, none⟩ = some (.int .u32 a0_7) := (blk_cell BK315.out 7).trans rfl; have hcz16_8 : w15.cell? ⟨gb315, 8, none⟩ = some (.int .u32 a0_8) := (blk_cell BK315.out 8).trans rfl; have hcz16_9 : w15.cell? ⟨gb315, 9, none⟩ = some (.slice A0_9 l0_9.length c0_9) := (blk_cell BK315.out 9).trans rfl; have hcz16_10 : w15.cell? ⟨gb315, 10, none⟩ = some (.slice A0_10 l0_10.length c0_10) := (blk_cell BK315.out 10).trans rfl; have hfz16_0 := blk_frozen BK315.out 0; have hfz16_1 := blk_frozen BK315.out 1; have hfz16_2 := blk_frozen BK315.out 2; have hfz16_3 := blk_frozen BK315.out 3; have hfz16_4 := blk_frozen BK315.out 4; have hfz16_5 := blk_frozen BK315.out 5; have hfz16_6 := blk_frozen BK315.out 6; have hfz16_7 := blk_frozen BK315.out 7; have hfz16_8 := blk_frozen BK315.out 8; have hfz16_9 := blk_frozen BK315.out 9; have hfz16_10 := blk_frozen BK315.out 10) | ((with_reducible refine gate_callee (f := 42) rfl ?_); refine goesL_ (some 35) rfl rfl Try.func42 (by kernel_rfl) rfl #[.agg #[.int .u8 a0_0, .int .u16 a0_1, .bool a0_2, .bool a0_3, .int .i64 a0_4, .int .u8 a0_5, .int .u8 a0_6, .int .u32 a0_7, .int .u32 a0_8, .slice A0_9 l0_9.length c0_9], .int .i64 (wrap64 ((wrap64 (20 + (l0_9.length : Int))) + (l0_10.length : Int))), .int .u16 t324] rfl zqxa7_3 ?_; (with_reducible refine (weftref3_header.calls k a0_0 a0_1 a0_2 a0_3 a0_4 a0_5 a0_6 a0_7 a0_8 _ _ l0_9 (wrap64 ((wrap64 (20 + (l0_9.length : Int))) + (l0_10.length : Int))) t324 t325 _ ?side1 ?side2 A6.out).mono ?_); (case side1 => repeat (first | exact (Kd.C_below HR0_9.out HB.out) | (with_reducible refine Kd.C_alloc ?_ _) | (with_reducible refine Kd.C_drewN ?_ _) | (with_reducible refine Kd.C_drew ?_))); (case side2 => exact HC0_9.out); rintro e w17 ⟨v326, rfl, ho0, hb⟩; refine ⟨_, rfl, ?_⟩; have n0_ := Aside0.mk (Kd.R_elder' (by (with_reducible repeat (first | apply Kd.R_alloc | apply Kd.R_drewN | apply Kd.R_drew)); exact HO319.out) (Kd.R_base ho0) hb); have n1_ := Aside0.mk (Kd.R_lower (Kd.R_new' ho0 (Kd.R_lt (by (with_reducible repeat (first | apply Kd.R_alloc | apply Kd.R_drewN | apply Kd.R_drew)); exact HO319.out))) (below_size zqxa7_1)); have n2_ := Aside0.mk (blk_below (g := gb315) (o := .cells #[.int .u8 a0_0, .int .u16 a0_1, .bool a0_2, .bool a0_3, .int .i64 a0_4, .int .u8 a0_5, .int .u8 a0_6, .int .u32 a0_7, .int .u32 a0_8, .slice A0_9 l0_9.length c0_9, .slice A0_10 l0_10.length c0_10] 33 (0, 0)) zqxa7_0 hb); have n3_ := Aside0.mk (below_step zqxa7_1 hb); clear HO319; clear BK315; clear HB; have HO319 := n0_; have HO327 := n1_; have BK315 := n2_; have HB := n3_; clear n0_ n1_ n2_ n3_; (try clear hb); (try clear hb2); (try clear hk); (try clear hi); (try clear ho0)))
    go_loopg [8, 9] k (fun kq v8 v9 w' => ∃ (x8_1 : List Int) (x9_1 : Int), v9 = .int .i64 x9_1 ∧ Aside0 (weftref3_Build.l0 kq x8_1 x9_1 a0_0 a0_1 a0_2 a0_3 a0_4 a0_5 a0_6 a0_7 a0_8 l0_9 l0_10 = some (r1, r2)) ∧ Aside0 (kq ≤ k) ∧ Aside0 (Kd.R (Kd.int .u8) 5 w' w.heap.size (fun _ => True) v8 x8_1) ∧ Aside0 (w'.heap[gb315]? = some (.cells #[.int .u8 a0_0, .int .u16 a0_1, .bool a0_2, .bool a0_3, .int .i64 a0_4, .int .u8 a0_5, .int .u8 a0_6, .int .u32 a0_7, .int .u32 a0_8, (.slice A0_9 l0_9.length c0_9), (.slice A0_10 l0_10.length c0_10)] 33 (0, 0))) ∧ Aside0 (Below w.heap.size w w'))
    case atStart => exact ⟨(t325), (0), (by first | rfl | (simp; done) | (simp [*]; done)), H', ⟨Nat.le_refl _⟩, ⟨by (with_reducible repeat (first | apply Kd.R_alloc | apply Kd.R_drewN | apply Kd.R_drew)); exact Kd.R_mono HO327.out (fun _ hk => trivial)⟩, ⟨by first | (with_reducible exact BK315.out) | (with_reducible exact blk_drewN BK315.out _) | (with_reducible exact blk_drew BK315.out) | ((with_reducible repeat (first | refine blk_drewN ?_ _ | refine blk_drew ?_ | refine blk_alloc ?_ _)); exact BK315.out)⟩, ⟨by repeat (first | (with_reducible first | exact HB.out | apply below_alloc | apply pw_below_drewN | apply below_drew1 | refine below_set ?_ GE315.out) | exact HB.out)⟩⟩
    case round =>
      clear H'
      try clear c1
      try clear c2
      try clear p2
      try clear c3
      try clear c3b0
      try clear c3b1
      try clear c4
      try clear p6
      try clear c14
      try clear hcz10_0
      try clear hcz10_1
      try clear hcz10_10
      try clear hcz10_2
      try clear hcz10_3
      try clear hcz10_4
      try clear hcz10_5
      try clear hcz10_6
      try clear hcz10_7
      try clear hcz10_8
      try clear hcz10_9
      try clear hcz16_0
      try clear hcz16_1
      try clear hcz16_10
      try clear hcz16_2
      try clear hcz16_3
      try clear hcz16_4
      try clear hcz16_5
      try clear hcz16_6
      try clear hcz16_7
      try clear hcz16_8
      try clear hcz16_9
      try clear hcz8_0
      try clear hcz8_1
      try clear hcz8_10
      try clear hcz8_2
      try clear hcz8_3
      try clear hcz8_4
      try clear hcz8_5
      try clear hcz8_6
      try clear hcz8_7
      try clear hcz8_8
      try clear hcz8_9
      try clear hfz10_0
      try clear hfz10_1
      try clear hfz10_10
      try clear hfz10_2
      try clear hfz10_3
      try clear hfz10_4
      try clear hfz10_5
      try clear hfz10_6
      try clear hfz10_7
      try clear hfz10_8
      try clear hfz10_9
      try clear hfz16_0
      try clear hfz16_1
      try clear hfz16_10
      try clear hfz16_2
      try clear hfz16_3
      try clear hfz16_4
      try clear hfz16_5
      try clear hfz16_6
      try clear hfz16_7
      try clear hfz16_8
      try clear hfz16_9
      try clear hfz8_0
      try clear hfz8_1
      try clear hfz8_10
      try clear hfz8_2
      try clear hfz8_3
      try clear hfz8_4
      try clear hfz8_5
      try clear hfz8_6
      try clear hfz8_7
      try clear hfz8_8
      try clear hfz8_9
      obtain ⟨x8_1, x9_1, rfl, HA, HK1, HO_8, BK315, HB⟩ := hrel
      cases gk with
      | zero => exact absurd HA.out (by simp [weftref3_Build.l0])
      | succ k1 =>
        have H := HA.out
        clear HA
        simp only [weftref3_Build.l0] at H
        by_cases c18 : x9_1 < (l0_10.length : Int)
        · rw [if_pos c18] at H
          have c18b0 : decide (x9_1 < (l0_10.length : Int)) = true := decide_eq_true c18
          clear c18
          by_cases c19 : 0 ≤ x9_1
          · rw [if_pos c19] at H
            have c19b0 : decide (0 ≤ x9_1) = true := decide_eq_true c19
            clear c19
            by_cases c20 : x8_1.length < 140737488355328
            · rw [if_pos c20] at H
              have LMc20 := Aside0.mk c20
              clear c20
              obtain ⟨y329, hy329⟩ : ∃ y_ : List Int, y_ = (x8_1 ++ [rd l0_10 x9_1]) := ⟨_, rfl⟩
              replace H : (weftref3_Build.l0 k1 y329 (wrap64 (x9_1 + 1)) a0_0 a0_1 a0_2 a0_3 a0_4 a0_5 a0_6 a0_7 a0_8 l0_9 l0_10) = some (r1, r2) := by first | (rw [hy329]; with_reducible exact H) | (have H2_ := (Option.bind_some _ _).symm.trans H; rw [hy329]; with_reducible exact H2_) | (have H2_ := (Option.bind_some _ _).symm.trans H; with_reducible exact H2_) | with_reducible exact H | (rw [hy329]; exact H) | exact H
              have Ny329 := Aside0.mk hy329
              clear hy329
              have H' := Aside0.mk H
              clear H
              have hcz21_0 : wr.cell? ⟨gb315, 0, none⟩ = some (.int .u8 a0_0) := (blk_cell BK315.out 0).trans rfl
              have hcz21_1 : wr.cell? ⟨gb315, 1, none⟩ = some (.int .u16 a0_1) := (blk_cell BK315.out 1).trans rfl
              have hcz21_2 : wr.cell? ⟨gb315, 2, none⟩ = some (.bool a0_2) := (blk_cell BK315.out 2).trans rfl
              have hcz21_3 : wr.cell? ⟨gb315, 3, none⟩ = some (.bool a0_3) := (blk_cell BK315.out 3).trans rfl
              have hcz21_4 : wr.cell? ⟨gb315, 4, none⟩ = some (.int .i64 a0_4) := (blk_cell BK315.out 4).trans rfl
              have hcz21_5 : wr.cell? ⟨gb315, 5, none⟩ = some (.int .u8 a0_5) := (blk_cell BK315.out 5).trans rfl
              have hcz21_6 : wr.cell? ⟨gb315, 6, none⟩ = some (.int .u8 a0_6) := (blk_cell BK315.out 6).trans rfl
              have hcz21_7 : wr.cell? ⟨gb315, 7, none⟩ = some (.int .u32 a0_7) := (blk_cell BK315.out 7).trans rfl
              have hcz21_8 : wr.cell? ⟨gb315, 8, none⟩ = some (.int .u32 a0_8) := (blk_cell BK315.out 8).trans rfl
              have hcz21_9 : wr.cell? ⟨gb315, 9, none⟩ = some (.slice A0_9 l0_9.length c0_9) := (blk_cell BK315.out 9).trans rfl
              have hcz21_10 : wr.cell? ⟨gb315, 10, none⟩ = some (.slice A0_10 l0_10.length c0_10) := (blk_cell BK315.out 10).trans rfl
              have hfz21_0 := blk_frozen BK315.out 0
              have hfz21_1 := blk_frozen BK315.out 1
              have hfz21_2 := blk_frozen BK315.out 2
              have hfz21_3 := blk_frozen BK315.out 3
              have hfz21_4 := blk_frozen BK315.out 4
              have hfz21_5 := blk_frozen BK315.out 5
              have hfz21_6 := blk_frozen BK315.out 6
              have hfz21_7 := blk_frozen BK315.out 7
              have hfz21_8 := blk_frozen BK315.out 8
              have hfz21_9 := blk_frozen BK315.out 9
              have hfz21_10 := blk_frozen BK315.out 10
              have p328 : 0 ≤ (x9_1 : Int) := of_decide_eq_true (by first | (with_reducible assumption) | assumption)
              have q328 : x9_1 < (l0_10.length : Int) := of_decide_eq_true (by first | (with_reducible assumption) | assumption)
              obtain ⟨ad328, e328, hx328_0⟩ := Kd.at_int HR0_10.out x9_1 p328 q328
              cases e328
              replace hx328_0 := (HB.out.cell (World.block_lt_of_cell? w _ hx328_0)).trans hx328_0
              replace p328 := eq_true p328
              replace q328 := eq_true q328
              go_wp2_with (first | ((with_reducible refine gate_builtin (b := .append) (xs := #[.tmp 43, .tmp 49]) rfl ?_); at_builtin; refine Kd.R_append (Kd.int .u8) (w0 := w) w.heap.size rfl (.tmp 43) (.tmp 49) 23 5 (.int .u8 0) 1 rfl Try.underlying23 info5 rfl (by decide) (by omega) u8 x8_1 (rd l0_10 x9_1) [.int .u8 (rd l0_10 x9_1)] (fun _ => True) (fun _ => False) rfl rfl ?aP (fun _ hk => hk.elim) ?aF ?aO ?aB ?aS ?aL ?_; (case aP => exact rfl); (case aB => exact zqxa7_1); (case aF => exact (fun _ _ => trivial)); (case aO => exact (by (with_reducible repeat (first | apply Kd.R_alloc | apply Kd.R_drewN | apply Kd.R_drew)); exact HO_8.out)); (case aS => exact (below_size zqxa7_1)); (case aL => have := LMc20.out; omega); intro v330 w22 ho hb hg hat; rw [← Ny329.out] at ho; have n0_ := Aside0.mk (blk_grown (g := gb315) (o := .cells #[.int .u8 a0_0, .int .u16 a0_1, .bool a0_2, .bool a0_3, .int .i64 a0_4, .int .u8 a0_5, .int .u8 a0_6, .int .u32 a0_7, .int .u32 a0_8, .slice A0_9 l0_9.length c0_9, .slice (some ad328) l0_10.length c0_10] 33 (0, 0)) zqxa7_0 hg (Kd.R_ne HO_8.out BK315.out (by decide))); have n1_ := Aside0.mk (hb); have n2_ := Aside0.mk (ho); clear BK315; clear HB; clear HO_8; have BK315 := n0_; have HB := n1_; have HO331 := n2_; clear n0_ n1_ n2_; clear ho hb hg hat))
              go_roundg k1
              case measure => have := HK1.out; omega
              case rel => exact ⟨(y329), (wrap64 (x9_1 + 1)), (by first | rfl | (simp; done) | (simp [*]; done)), H', ⟨by have := HK1.out; omega⟩, ⟨by (with_reducible repeat (first | apply Kd.R_alloc | apply Kd.R_drewN | apply Kd.R_drew)); exact HO331.out⟩, ⟨by first | (with_reducible exact BK315.out) | (with_reducible exact blk_drewN BK315.out _) | (with_reducible exact blk_drew BK315.out) | ((with_reducible repeat (first | refine blk_drewN ?_ _ | refine blk_drew ?_ | refine blk_alloc ?_ _)); exact BK315.out)⟩, ⟨by repeat (first | (with_reducible first | exact HB.out | apply below_alloc | apply pw_below_drewN | apply below_drew1 | refine below_set ?_ GE315.out) | exact HB.out)⟩⟩
            · rw [if_neg c20] at H
              exact absurd H (by simp)
          · rw [if_neg c19] at H
            exact absurd H (by simp)
        · rw [if_neg c18] at H
          have c18b0 : decide (x9_1 < (l0_10.length : Int)) = false := decide_eq_false c18
          clear c18
          simp only [Option.some.injEq, Prod.mk.injEq] at H
          obtain ⟨rfl, rfl⟩ := H
          have hcz23_0 : wr.cell? ⟨gb315, 0, none⟩ = some (.int .u8 a0_0) := (blk_cell BK315.out 0).trans rfl
          have hcz23_1 : wr.cell? ⟨gb315, 1, none⟩ = some (.int .u16 a0_1) := (blk_cell BK315.out 1).trans rfl
          have hcz23_2 : wr.cell? ⟨gb315, 2, none⟩ = some (.bool a0_2) := (blk_cell BK315.out 2).trans rfl
          have hcz23_3 : wr.cell? ⟨gb315, 3, none⟩ = some (.bool a0_3) := (blk_cell BK315.out 3).trans rfl
          have hcz23_4 : wr.cell? ⟨gb315, 4, none⟩ = some (.int .i64 a0_4) := (blk_cell BK315.out 4).trans rfl
          have hcz23_5 : wr.cell? ⟨gb315, 5, none⟩ = some (.int .u8 a0_5) := (blk_cell BK315.out 5).trans rfl
          have hcz23_6 : wr.cell? ⟨gb315, 6, none⟩ = some (.int .u8 a0_6) := (blk_cell BK315.out 6).trans rfl
          have hcz23_7 : wr.cell? ⟨gb315, 7, none⟩ = some (.int .u32 a0_7) := (blk_cell BK315.out 7).trans rfl
          have hcz23_8 : wr.cell? ⟨gb315, 8, none⟩ = some (.int .u32 a0_8) := (blk_cell BK315.out 8).trans rfl
          have hcz23_9 : wr.cell? ⟨gb315, 9, none⟩ = some (.slice A0_9 l0_9.length c0_9) := (blk_cell BK315.out 9).trans rfl
          have hcz23_10 : wr.cell? ⟨gb315, 10, none⟩ = some (.slice A0_10 l0_10.length c0_10) := (blk_cell BK315.out 10).trans rfl
          have hfz23_0 := blk_frozen BK315.out 0
          have hfz23_1 := blk_frozen BK315.out 1
          have hfz23_2 := blk_frozen BK315.out 2
          have hfz23_3 := blk_frozen BK315.out 3
          have hfz23_4 := blk_frozen BK315.out 4
          have hfz23_5 := blk_frozen BK315.out 5
          have hfz23_6 := blk_frozen BK315.out 6
          have hfz23_7 := blk_frozen BK315.out 7
          have hfz23_8 := blk_frozen BK315.out 8
          have hfz23_9 := blk_frozen BK315.out 9
          have hfz23_10 := blk_frozen BK315.out 10
          go_wp2
          go_ret2
          exact ⟨_, by first | rfl | (simp [errW_none, errW_some] <;> rfl) | (simp [*, errW_none, errW_some] <;> rfl), by (with_reducible repeat (first | apply Kd.R_alloc | apply Kd.R_drewN | apply Kd.R_drew)); exact HO_8.out, by repeat (first | (with_reducible first | exact HB.out | apply below_alloc | apply pw_below_drewN | apply below_drew1 | refine below_set ?_ GE315.out) | exact HB.out)⟩
  · rw [if_neg c3] at H
    have c3b0 : (t316 == 0) = false := beq_eq_false_iff_ne.mpr c3
    have c3b1 : (t316 != 0) = true := bne_iff_ne.mpr c3
    simp only [Option.some.injEq, Prod.mk.injEq] at H
    obtain ⟨rfl, rfl⟩ := H
    go_enter Try.func27, Try.ntmps27
    go_wp2_with (first | ((with_reducible refine gate_dst (N := 1) rfl ?_); refine box_event ?hg (N := 1) ?hd (cs := #[.int .u8 a0_0, .int .u16 a0_1, .bool a0_2, .bool a0_3, .int .i64 a0_4, .int .u8 a0_5, .int .u8 a0_6, .int .u32 a0_7, .int .u32 a0_8, .slice A0_9 l0_9.length c0_9, .slice A0_10 l0_10.length c0_10]) (t := 33) ?hr ?_; (case hd => rfl); (case hg => rfl); (case hr => first | (go_simp; done) | (go_simp; rfl)); intro gb315 hg w24 hbox hb; have n0_ := Aside0.mk (below_step zqxa7_2 hb); have n1_ := Aside0.mk (hbox); have n2_ := Aside0.mk ((by rw [hg]; exact (below_size zqxa7_2) : w.heap.size ≤ gb315)); have n3_ := Aside0.mk ((by rw [hg]; exact (below_size zqxa7_2) : w.heap.size ≤ gb315)); clear HB; have HB := n0_; have BK315 := n1_; have GW315 := n2_; have GE315 := n3_; clear n0_ n1_ n2_ n3_; clear hb hbox hg; have hcz25_0 : w24.cell? ⟨gb315, 0, none⟩ = some (.int .u8 a0_0) := (blk_cell BK315.out 0).trans rfl; have hcz25_1 : w24.cell? ⟨gb315, 1, none⟩ = some (.int .u16 a0_1) := (blk_cell BK315.out 1).trans rfl; have hcz25_2 : w24.cell? ⟨gb315, 2, none⟩ = some (.bool a0_2) := (blk_cell BK315.out 2).trans rfl; have hcz25_3 : w24.cell? ⟨gb315, 3, none⟩ = some (.bool a0_3) := (blk_cell BK315.out 3).trans rfl; have hcz25_4 : w24.cell? ⟨gb315, 4, none⟩ = some (.int .i64 a0_4) := (blk_cell BK315.out 4).trans rfl; have hcz25_5 : w24.cell? ⟨gb315, 5, none⟩ = some (.int .u8 a0_5) := (blk_cell BK315.out 5).trans rfl; have hcz25_6 : w24.cell? ⟨gb315, 6, none⟩ = some (.int .u8 a0_6) := (blk_cell BK315.out 6).trans rfl; have hcz25_7 : w24.cell? ⟨gb315, 7, none⟩ = some (.int .u32 a0_7) := (blk_cell BK315.out 7).trans rfl; have hcz25_8 : w24.cell? ⟨gb315, 8, none⟩ = some (.int .u32 a0_8) := (blk_cell BK315.out 8).trans rfl; have hcz25_9 : w24.cell? ⟨gb315, 9, none⟩ = some (.slice A0_9 l0_9.length c0_9) := (blk_cell BK315.out 9).trans rfl; have hcz25_10 : w24.cell? ⟨gb315, 10, none⟩ = some (.slice A0_10 l0_10.length c0_10) := (blk_cell BK315.out 10).trans rfl; have hfz25_0 := blk_frozen BK315.out 0; have hfz25_1 := blk_frozen BK315.out 1; have hfz25_2 := blk_frozen BK315.out 2; have hfz25_3 := blk_frozen BK315.out 3; have hfz25_4 := blk_frozen BK315.out 4; have hfz25_5 := blk_frozen BK315.out 5; have hfz25_6 := blk_frozen BK315.out 6; have hfz25_7 := blk_frozen BK315.out 7; have hfz25_8 := blk_frozen BK315.out 8; have hfz25_9 := blk_frozen BK315.out 9; have hfz25_10 := blk_frozen BK315.out 10) | ((with_reducible refine gate_callee (f := 41) rfl ?_); refine goesL_ (some 11) rfl rfl Try.func41 (by kernel_rfl) rfl #[.agg #[.int .u8 a0_0, .int .u16 a0_1, .bool a0_2, .bool a0_3, .int .i64 a0_4, .int .u8 a0_5, .int .u8 a0_6, .int .u32 a0_7, .int .u32 a0_8, .slice A0_9 l0_9.length c0_9, .slice A0_10 l0_10.length c0_10]] rfl zqxa7_3 ?_; (with_reducible refine (weftref3_Refused.calls k a0_0 a0_1 a0_2 a0_3 a0_4 a0_5 a0_6 a0_7 a0_8 _ _ l0_9 _ _ l0_10 t316 _ ?side1 ?side2 ?side3 ?side4 A2.out).mono ?_); (case side1 => repeat (first | exact (Kd.C_below HR0_9.out HB.out) | (with_reducible refine Kd.C_alloc ?_ _) | (with_reducible refine Kd.C_drewN ?_ _) | (with_reducible refine Kd.C_drew ?_))); (case side2 => exact HC0_9.out); (case side3 => repeat (first | exact (Kd.C_below HR0_10.out HB.out) | (with_reducible refine Kd.C_alloc ?_ _) | (with_reducible refine Kd.C_drewN ?_ _) | (with_reducible refine Kd.C_drew ?_))); (case side4 => exact HC0_10.out); rintro e w26 ⟨rfl, hb⟩; refine ⟨_, rfl, ?_⟩; have n0_ := Aside0.mk (blk_below (g := gb315) (o := .cells #[.int .u8 a0_0, .int .u16 a0_1, .bool a0_2, .bool a0_3, .int .i64 a0_4, .int .u8 a0_5, .int .u8 a0_6, .int .u32 a0_7, .int .u32 a0_8, .slice A0_9 l0_9.length c0_9, .slice A0_10 l0_10.length c0_10] 33 (0, 0)) zqxa7_0 hb); have n1_ := Aside0.mk (below_step zqxa7_1 hb); clear BK315; clear HB; have BK315 := n0_; have HB := n1_; clear n0_ n1_; (try clear hb); (try clear hb2); (try clear hk); (try clear hi)))
    go_ret2
    exact ⟨_, by first | rfl | (simp [errW_none, errW_some] <;> rfl) | (simp [*, errW_none, errW_some] <;> rfl), by first | exact Kd.R_nil _ _ _ _ _ | exact Kd.N_nil _ _ _ _ _ | exact Kd.V_nil _ _ _ _ _ | exact Kd.Q_nil _ _ _ _ _ | exact Kd.S_nil _ _ _ _ _, by repeat (first | (with_reducible first | exact HB.out | apply below_alloc | apply pw_below_drewN | apply below_drew1 | refine below_set ?_ GE315.out) | exact HB.out)⟩

/-! ### weftlaw3_join: function 44 -/
/-! ### ip4_Adjust: function 45 -/
/-! ### weftref3_Adjust: function 46 -/
/-! ### weftlaw3_numbers: function 28 -/
end Go.Proofs.Ytmjhfkjnnpnoaaa.XA
