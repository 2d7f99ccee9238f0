-- printed by a program of this session (wip/xprint), out of the translation; Lean checks it
import Derived.Test.YtbacmhegalncjaaQIXBx0
import Derived.Test.YtbacmhegalncjaaQIXBx6
import Derived.Test.YtbacmhegalncjaaQIXBx7
import Derived.Test.YtbacmhegalncjaaQIXBx3
import Derived.Test.YtbacmhegalncjaaQIXBx5
import Derived.Test.YtbacmhegalncjaaQIXBx9
import Derived.Test.YtbacmhegalncjaaQIXBx1
import Derived.Test.YtbacmhegalncjaaQIXBx8
namespace Go.Proofs.Ytbacmhegalncjaa.XB
open Go.RowKit Go.Proofs.YtbacmhegalncjaaW.PrintWords Go.Proofs.YtbacmhegalncjaaW.PrintLast Go.Proofs.YtbacmhegalncjaaW.PrintMore Go.Proofs.YtbacmhegalncjaaX
theorem zqxb19_3 {P : Prop} (h : P := by repeat (first | (with_reducible first | exact HB.out | apply below_alloc | apply pw_below_drewN | apply below_drew1) | exact HB.out)) : P := h
theorem zqxb19_2 {P : Prop} (h : P := by (try simp only [List.map_toArray, List.map_cons, List.map_nil]); first | done | rfl | (simp only [List.length_drop, List.length_take]; rfl)) : P := h
theorem zqxb19_1 {P : Prop} (h : P := by first | rfl | (simp; done) | (simp [*]; done)) : P := h
theorem zqxb19_0 {P : Prop} (h : P := by first | (with_reducible assumption) | assumption) : P := h
attribute [local go_sem] max2_int min2_int max_two min_two max_three min_three max_four min_four   -- for this text's walks alone
set_option linter.unusedVariables false
set_option linter.unusedSimpArgs false

/-! ### weftlaw3_Ip4TwoZeros: function 11 -/
/-! ### weftref3_total: function 71 -/
def weftref3_total.l0 : Nat → List Int → Int → Int → Option (Int)
 | 0, _, _, _ => none
 | k + 1, x0, x3, x4 => if x4 < (x0.length : Int) then (if (Int.tmod x4 2) = 0 then (if 0 ≤ x4 then (weftref3_total.l0 k x0 (wrap64 (x3 + (wrap64 (256 * (wrap64 (rd x0 x4)))))) (wrap64 (x4 + 1))) else (none)) else (if 0 ≤ x4 then (weftref3_total.l0 k x0 (wrap64 (x3 + (wrap64 (rd x0 x4)))) (wrap64 (x4 + 1))) else (none))) else (some x3)
def weftref3_total.f (k : Nat) (l0 : List Int) : Option (Int) := weftref3_total.l0 k l0 0 0
set_option maxHeartbeats 8000000 in
set_option maxRecDepth 100000 in
theorem weftref3_total.calls (k : Nat) (A0 : Option Addr) (c0 : Nat) (l0 : List Int) (r : Int) (w : World) (hr0 : Kd.C (Kd.int .u8) w A0 l0.length l0) (hc0 : l0.length ≤ c0) (h : weftref3_total.f k l0 = some r) :
  Calls Try.prog 71 #[.slice A0 l0.length c0] w fun e w' => e = .returned (.int .i64 r) ∧ Drawn0 w w' := by
 have HR0 := zam hr0
 have HC0 := zam hc0
 clear hr0 hc0
 have H : (weftref3_total.l0 k l0 0 0) = some r := h
 clear h
 have H' := zam H
 clear H
 go_enter Try.func71, Try.ntmps71
 go_wp2
 go_loopg [3, 4] k (fun kq v3 v4 w' => ∃ (x3_1 : Int) (x4_1 : Int), v3 = .int .i64 x3_1 ∧ v4 = .int .i64 x4_1 ∧ Aside0 (weftref3_total.l0 kq l0 x3_1 x4_1 = some r) ∧ Aside0 (kq ≤ k) ∧ Drawn0 w w')
 case atStart => exact ⟨(0), (0), zqxb19_1, zqxb19_1, H', ⟨Nat.le_refl _⟩, by repeat (first | exact Drawn0.refl _ | apply Drawn0.step)⟩
 case round =>
  clear H'
  obtain ⟨x3_1, x4_1, rfl, rfl, HA, HK1, ⟨m1, rfl⟩⟩ := hrel
  cases gk with
  | zero => exact absurd HA.out (by simp [weftref3_total.l0])
  | succ k1 =>
   have H := HA.out
   clear HA
   simp only [weftref3_total.l0] at H
   by_cases c2 : x4_1 < (l0.length : Int)
   ·
    rw [if_pos c2] at H
    have c2b0 : decide (x4_1 < (l0.length : Int)) = true := decide_eq_true c2
    clear c2
    by_cases c3 : (Int.tmod x4_1 2) = 0
    ·
     rw [if_pos c3] at H
     have c3b0 : ((Int.tmod x4_1 2) == 0) = true := beq_iff_eq.mpr c3
     have c3b1 : ((Int.tmod x4_1 2) != 0) = false := bne_eq_false_iff_eq.mpr c3
     clear c3
     by_cases c4 : 0 ≤ x4_1
     ·
      rw [if_pos c4] at H
      have c4b0 : decide (0 ≤ x4_1) = true := decide_eq_true c4
      clear c4
      have H' := zam H
      clear H
      have p918 : 0 ≤ (x4_1 : Int) := zod zqxb19_0
      have q918 : x4_1 < (l0.length : Int) := zod zqxb19_0
      obtain ⟨ad918, e918, hx918_0⟩ := Kd.at_int HR0.out x4_1 p918 q918
      cases e918
      replace p918 := eq_true p918
      replace q918 := eq_true q918
      go_wp2
      go_roundg k1
      case measure => have := HK1.out; omega
      case rel => exact ⟨(wrap64 (x3_1 + (wrap64 (256 * (wrap64 (rd l0 x4_1)))))), (wrap64 (x4_1 + 1)), zqxb19_1, zqxb19_1, H', ⟨by have := HK1.out; omega⟩, by repeat (first | exact Drawn0.refl _ | apply Drawn0.step)⟩
     ·
      rw [if_neg c4] at H
      exact absurd H (by simp)
    ·
     rw [if_neg c3] at H
     have c3b0 : ((Int.tmod x4_1 2) == 0) = false := beq_eq_false_iff_ne.mpr c3
     have c3b1 : ((Int.tmod x4_1 2) != 0) = true := bne_iff_ne.mpr c3
     by_cases c5 : 0 ≤ x4_1
     ·
      rw [if_pos c5] at H
      have c5b0 : decide (0 ≤ x4_1) = true := decide_eq_true c5
      clear c5
      have H' := zam H
      clear H
      have p919 : 0 ≤ (x4_1 : Int) := zod zqxb19_0
      have q919 : x4_1 < (l0.length : Int) := zod zqxb19_0
      obtain ⟨ad919, e919, hx919_0⟩ := Kd.at_int HR0.out x4_1 p919 q919
      cases e919
      replace p919 := eq_true p919
      replace q919 := eq_true q919
      go_wp2
      go_roundg k1
      case measure => have := HK1.out; omega
      case rel => exact ⟨(wrap64 (x3_1 + (wrap64 (rd l0 x4_1)))), (wrap64 (x4_1 + 1)), zqxb19_1, zqxb19_1, H', ⟨by have := HK1.out; omega⟩, by repeat (first | exact Drawn0.refl _ | apply Drawn0.step)⟩
     ·
      rw [if_neg c5] at H
      exact absurd H (by simp)
   ·
    rw [if_neg c2] at H
    have c2b0 : decide (x4_1 < (l0.length : Int)) = false := decide_eq_false c2
    clear c2
    obtain rfl := Option.some.inj H
    go_wp2
    go_ret
    exact ⟨by first | rfl | (simp; done) | (simp [*]; done), by repeat (first | exact Drawn0.refl _ | apply Drawn0.step)⟩

/-! ### weftref3_fold: function 72 -/
def weftref3_fold.f (a0 : Int) : Option (Int) := if a0 = 0 then (some 0) else (some (wrap64 (1 + (Int.tmod (wrap64 (a0 - 1)) 65535))))
set_option maxHeartbeats 8000000 in
set_option maxRecDepth 100000 in
theorem weftref3_fold.calls (a0 : Int) (r : Int) (w : World) (h : weftref3_fold.f a0 = some r) :
  Calls Try.prog 72 #[.int .i64 a0] w fun e w' => e = .returned (.int .i64 r) ∧ Drawn0 w w' := by
 have H : (if a0 = 0 then (some 0) else (some (wrap64 (1 + (Int.tmod (wrap64 (a0 - 1)) 65535))))) = some r := h
 clear h
 by_cases c2 : a0 = 0
 ·
  rw [if_pos c2] at H
  have c2b0 : (a0 == 0) = true := beq_iff_eq.mpr c2
  have c2b1 : (a0 != 0) = false := bne_eq_false_iff_eq.mpr c2
  clear c2
  obtain rfl := Option.some.inj H
  go_enter Try.func72, Try.ntmps72
  go_wp2
  go_ret
  exact ⟨by first | rfl | (simp; done) | (simp [*]; done), by repeat (first | exact Drawn0.refl _ | apply Drawn0.step)⟩
 ·
  rw [if_neg c2] at H
  have c2b0 : (a0 == 0) = false := beq_eq_false_iff_ne.mpr c2
  have c2b1 : (a0 != 0) = true := bne_iff_ne.mpr c2
  obtain rfl := Option.some.inj H
  go_enter Try.func72, Try.ntmps72
  go_wp2
  go_ret
  exact ⟨by first | rfl | (simp; done) | (simp [*]; done), by repeat (first | exact Drawn0.refl _ | apply Drawn0.step)⟩

/-! ### weftref3_Sum: function 56 -/
def weftref3_Sum.l0 : Nat → List (List Int) → List Int → Int → Option (Int)
 | 0, _, _, _ => none
 | k + 1, x0, x3, x4 => if x4 < (x0.length : Int) then (if 0 ≤ x4 then (if x3.length + (rd_L1 x0 x4).length < 140737488355328 then (weftref3_Sum.l0 k x0 (x3 ++ (rd_L1 x0 x4)) (wrap64 (x4 + 1))) else (none)) else (none)) else ((weftref3_total.f k x3).bind fun t924 => ((weftref3_fold.f t924).bind fun t925 => (some (IntKind.u16.wrap (wrap64 (65535 - t925))))))
def weftref3_Sum.f (k : Nat) (l0 : List (List Int)) : Option (Int) := weftref3_Sum.l0 k l0 ([] : List Int) 0
set_option maxHeartbeats 8000000 in
set_option maxRecDepth 100000 in
theorem weftref3_Sum.calls (k : Nat) (A0 : Option Addr) (c0 : Nat) (l0 : List (List Int)) (r : Int) (w : World) (hr0 : Kd.C (Kd.slice 5 (Kd.int .u8)) w A0 l0.length l0) (hc0 : l0.length ≤ c0) (h : weftref3_Sum.f k l0 = some r) :
  Calls Try.prog 56 #[.slice A0 l0.length c0] w fun e w' => e = .returned (.int .u16 r) ∧ Below w.heap.size w w' := by
 have HR0 := zam hr0
 have HC0 := zam hc0
 clear hr0 hc0
 have HB := zam (Below.refl w.heap.size w)
 have H : (weftref3_Sum.l0 k l0 ([] : List Int) 0) = some r := h
 clear h
 have H' := zam H
 clear H
 go_enter Try.func56, Try.ntmps56
 go_wp2
 go_loopg [3, 4] k (fun kq v3 v4 w' => ∃ (x3_1 : List Int) (x4_1 : Int), v4 = .int .i64 x4_1 ∧ Aside0 (weftref3_Sum.l0 kq l0 x3_1 x4_1 = some r) ∧ Aside0 (kq ≤ k) ∧ Aside0 (Kd.R (Kd.int .u8) 5 w' w.heap.size (fun _ => True) v3 x3_1) ∧ Aside0 (Below w.heap.size w w'))
 case atStart => exact ⟨(([] : List Int)), (0), zqxb19_1, H', ⟨Nat.le_refl _⟩, ⟨by first | exact Kd.R_nil _ _ _ _ _ | exact Kd.N_nil _ _ _ _ _ | exact Kd.V_nil _ _ _ _ _ | exact Kd.Q_nil _ _ _ _ _ | exact Kd.S_nil _ _ _ _ _⟩, ⟨by repeat (first | (with_reducible first | exact HB.out | apply below_alloc | apply pw_below_drewN | apply below_drew1) | exact HB.out)⟩⟩
 case round =>
  clear H'
  obtain ⟨x3_1, x4_1, rfl, HA, HK1, HO_3, HB⟩ := hrel
  cases gk with
  | zero => exact absurd HA.out (by simp [weftref3_Sum.l0])
  | succ k1 =>
   have H := HA.out
   clear HA
   simp only [weftref3_Sum.l0] at H
   by_cases c2 : x4_1 < (l0.length : Int)
   ·
    rw [if_pos c2] at H
    have c2b0 : decide (x4_1 < (l0.length : Int)) = true := decide_eq_true c2
    clear c2
    by_cases c3 : 0 ≤ x4_1
    ·
     rw [if_pos c3] at H
     have c3b0 : decide (0 ≤ x4_1) = true := decide_eq_true c3
     clear c3
     by_cases c4 : x3_1.length + (rd_L1 l0 x4_1).length < 140737488355328
     ·
      rw [if_pos c4] at H
      have LMc4 := zam c4
      clear c4
      obtain ⟨y921, hy921⟩ : ∃ y_ : List Int, y_ = (x3_1 ++ (rd_L1 l0 x4_1)) := ⟨_, rfl⟩
      replace H : (weftref3_Sum.l0 k1 l0 y921 (wrap64 (x4_1 + 1))) = some r := by first | (rw [hy921]; with_reducible exact H) | (have H2_ := (Option.bind_some _ _).symm.trans H; rw [hy921]; with_reducible exact H2_) | (have H2_ := (Option.bind_some _ _).symm.trans H; with_reducible exact H2_) | with_reducible exact H | (rw [hy921]; exact H) | exact H
      have Ny921 := zam hy921
      clear hy921
      have H' := zam H
      clear H
      have p920 : 0 ≤ (x4_1 : Int) := zod zqxb19_0
      have q920 : x4_1 < (l0.length : Int) := zod zqxb19_0
      obtain ⟨ad920, A920_0, c920_0, e920, hx920_0, hl920_0, hi920_0⟩ := at_L1 HR0.out x4_1 p920 q920
      cases e920
      replace hx920_0 := (HB.out.cell (World.block_lt_of_cell? w _ hx920_0)).trans hx920_0
      have HR920_0 := zam hi920_0
      have HC920_0 := zam hl920_0
      clear hi920_0 hl920_0
      replace p920 := eq_true p920
      replace q920 := eq_true q920
      go_wp2_with (first | ((with_reducible refine gate_builtin (b := .append) (xs := #[.tmp 12, .tmp 16]) rfl ?_); at_builtin; refine Kd.R_append_rows (Kd.int .u8) (w0 := w) w.heap.size rfl (.tmp 12) (.tmp 16) 24 5 (.int .u8 0) 1 rfl Try.underlying24 info5 rfl (by decide) (by omega) u3 x3_1 (rd_L1 l0 x4_1) _ _ _ (fun _ => True) (fun _ => False) rfl rfl ?aO ?aR (fun _ _ h => h) (fun _ h => h.elim) ?aF ?aB ?aS ?aL ?_; (case aR => repeat (first | exact (Kd.C_below HR920_0.out HB.out) | (with_reducible refine Kd.C_alloc ?_ _) | (with_reducible refine Kd.C_drewN ?_ _) | (with_reducible refine Kd.C_drew ?_))); (case aB => exact zqxb19_3); (case aF => exact (fun _ _ => trivial)); (case aO => exact (by (with_reducible repeat (first | apply Kd.R_alloc | apply Kd.R_drewN | apply Kd.R_drew)); exact HO_3.out)); (case aS => exact (below_size zqxb19_3)); (case aL => have := LMc4.out; omega); intro v922 w5 ho hb hg hat; rw [← Ny921.out] at ho; have n0_ := zam (hb); have n1_ := zam (ho); clear HB; clear HO_3; have HB := n0_; have HO923 := n1_; clear n0_ n1_; clear ho hb hg hat))
      go_roundg k1
      case measure => have := HK1.out; omega
      case rel => exact ⟨(y921), (wrap64 (x4_1 + 1)), zqxb19_1, H', ⟨by have := HK1.out; omega⟩, ⟨by (with_reducible repeat (first | apply Kd.R_alloc | apply Kd.R_drewN | apply Kd.R_drew)); exact HO923.out⟩, ⟨by repeat (first | (with_reducible first | exact HB.out | apply below_alloc | apply pw_below_drewN | apply below_drew1) | exact HB.out)⟩⟩
     ·
      rw [if_neg c4] at H
      exact absurd H (by simp)
    ·
     rw [if_neg c3] at H
     exact absurd H (by simp)
   ·
    rw [if_neg c2] at H
    have c2b0 : decide (x4_1 < (l0.length : Int)) = false := decide_eq_false c2
    clear c2
    replace H := Option.bind_eq_some_iff.mp H
    obtain ⟨t924, A60, H⟩ := H
    replace H : ((weftref3_fold.f t924).bind fun t925 => (some (IntKind.u16.wrap (wrap64 (65535 - t925))))) = some r := H
    have A6 := zam A60
    clear A60
    replace H := Option.bind_eq_some_iff.mp H
    obtain ⟨t925, A70, H⟩ := H
    replace H : (some (IntKind.u16.wrap (wrap64 (65535 - t925)))) = some r := H
    have A7 := zam A70
    clear A70
    obtain rfl := Option.some.inj H
    obtain ⟨Ao8, co8, eo8⟩ := Kd.R_slice HO_3.out
    subst eo8
    go_wp2_with (first | ((with_reducible refine gate_callee (f := 71) rfl ?_); refine goesL_ (some 19) rfl rfl Try.func71 (by kernel_rfl) rfl #[.slice Ao8 x3_1.length co8] rfl zqxb19_2 ?_; (with_reducible refine (weftref3_total.calls k1 _ _ x3_1 t924 _ ?side1 ?side2 A6.out).mono ?_); (case side1 => repeat (first | exact (Kd.R_reads' HO_3.out).2.2 | (with_reducible refine Kd.C_alloc ?_ _) | (with_reducible refine Kd.C_drewN ?_ _) | (with_reducible refine Kd.C_drew ?_))); (case side2 => exact (Kd.R_reads' HO_3.out).2.1); rintro e w' ⟨rfl, ⟨nd, rfl⟩⟩; refine ⟨_, rfl, ?_⟩) | ((with_reducible refine gate_callee (f := 72) rfl ?_); refine goesL_ (some 21) rfl rfl Try.func72 (by kernel_rfl) rfl #[.int .i64 t924] rfl zqxb19_2 ?_; (with_reducible refine (weftref3_fold.calls t924 t925 _ A7.out).mono ?_); rintro e w' ⟨rfl, ⟨nd, rfl⟩⟩; refine ⟨_, rfl, ?_⟩))
    go_ret
    exact ⟨by first | rfl | (simp [errW_none, errW_some] <;> rfl) | (simp [*, errW_none, errW_some] <;> rfl), by repeat (first | (with_reducible first | exact HB.out | apply below_alloc | apply pw_below_drewN | apply below_drew1) | exact HB.out)⟩

/-! ### weftref3_behind: function 75 -/
def weftref3_behind.l0 : Nat → List Int → Int → Option (Int)
 | 0, _, _ => none
 | k + 1, x0, x5 => if x5 < (x0.length : Int) then (if 0 ≤ x5 then (if (rd x0 x5) = 0 then (weftref3_behind.l0 k x0 (wrap64 (x5 + 1))) else (some (-1))) else (none)) else (some (x0.length : Int))
def weftref3_behind.f (k : Nat) (l0 : List Int) (a1 : Int) : Option (Int) := if 0 ≤ a1 then (if a1 < (l0.length : Int) then (if (rd l0 a1) = 1 then (some (wrap64 (a1 + 1))) else (if (rd l0 a1) = 0 then (weftref3_behind.l0 k l0 a1) else (if (wrap64 (a1 + 1)) ≥ (l0.length : Int) then (some (-1)) else (if 0 ≤ (wrap64 (a1 + 1)) then (if (wrap64 (a1 + 1)) < (l0.length : Int) then (if (rd l0 (wrap64 (a1 + 1))) < 2 then (some (-1)) else (if (wrap64 (a1 + (wrap64 (rd l0 (wrap64 (a1 + 1)))))) > (l0.length : Int) then (some (-1)) else (some (wrap64 (a1 + (wrap64 (rd l0 (wrap64 (a1 + 1))))))))) else (none)) else (none))))) else (none)) else (none)
set_option maxHeartbeats 8000000 in
set_option maxRecDepth 100000 in
theorem weftref3_behind.calls (k : Nat) (A0 : Option Addr) (c0 : Nat) (l0 : List Int) (a1 : Int) (r : Int) (w : World) (hr0 : Kd.C (Kd.int .u8) w A0 l0.length l0) (hc0 : l0.length ≤ c0) (h : weftref3_behind.f k l0 a1 = some r) :
  Calls Try.prog 75 #[.slice A0 l0.length c0, .int .i64 a1] w fun e w' => e = .returned (.int .i64 r) ∧ Drawn0 w w' := by
 have HR0 := zam hr0
 have HC0 := zam hc0
 clear hr0 hc0
 have H : (if 0 ≤ a1 then (if a1 < (l0.length : Int) then (if (rd l0 a1) = 1 then (some (wrap64 (a1 + 1))) else (if (rd l0 a1) = 0 then (weftref3_behind.l0 k l0 a1) else (if (wrap64 (a1 + 1)) ≥ (l0.length : Int) then (some (-1)) else (if 0 ≤ (wrap64 (a1 + 1)) then (if (wrap64 (a1 + 1)) < (l0.length : Int) then (if (rd l0 (wrap64 (a1 + 1))) < 2 then (some (-1)) else (if (wrap64 (a1 + (wrap64 (rd l0 (wrap64 (a1 + 1)))))) > (l0.length : Int) then (some (-1)) else (some (wrap64 (a1 + (wrap64 (rd l0 (wrap64 (a1 + 1))))))))) else (none)) else (none))))) else (none)) else (none)) = some r := h
 clear h
 by_cases c3 : 0 ≤ a1
 ·
  rw [if_pos c3] at H
  have c3b0 : decide (0 ≤ a1) = true := decide_eq_true c3
  clear c3
  by_cases c4 : a1 < (l0.length : Int)
  ·
   rw [if_pos c4] at H
   have c4b0 : decide (a1 < (l0.length : Int)) = true := decide_eq_true c4
   clear c4
   by_cases c5 : (rd l0 a1) = 1
   ·
    rw [if_pos c5] at H
    have c5b0 : ((rd l0 a1) == 1) = true := beq_iff_eq.mpr c5
    have c5b1 : ((rd l0 a1) != 1) = false := bne_eq_false_iff_eq.mpr c5
    clear c5
    obtain rfl := Option.some.inj H
    have p926 : 0 ≤ (a1 : Int) := zod zqxb19_0
    have q926 : a1 < (l0.length : Int) := zod zqxb19_0
    obtain ⟨ad926, e926, hx926_0⟩ := Kd.at_int HR0.out a1 p926 q926
    cases e926
    replace p926 := eq_true p926
    replace q926 := eq_true q926
    go_enter Try.func75, Try.ntmps75
    go_wp2
    go_ret
    exact ⟨by first | rfl | (simp; done) | (simp [*]; done), by repeat (first | exact Drawn0.refl _ | apply Drawn0.step)⟩
   ·
    rw [if_neg c5] at H
    have c5b0 : ((rd l0 a1) == 1) = false := beq_eq_false_iff_ne.mpr c5
    have c5b1 : ((rd l0 a1) != 1) = true := bne_iff_ne.mpr c5
    by_cases c6 : (rd l0 a1) = 0
    ·
     rw [if_pos c6] at H
     have c6b0 : ((rd l0 a1) == 0) = true := beq_iff_eq.mpr c6
     have c6b1 : ((rd l0 a1) != 0) = false := bne_eq_false_iff_eq.mpr c6
     clear c6
     have H' := zam H
     clear H
     have p926 : 0 ≤ (a1 : Int) := zod zqxb19_0
     have q926 : a1 < (l0.length : Int) := zod zqxb19_0
     obtain ⟨ad926, e926, hx926_0⟩ := Kd.at_int HR0.out a1 p926 q926
     cases e926
     replace p926 := eq_true p926
     replace q926 := eq_true q926
     have p927 : 0 ≤ (a1 : Int) := zod zqxb19_0
     have q927 : a1 < (l0.length : Int) := zod zqxb19_0
     obtain ⟨ad927, e927, hx927_0⟩ := Kd.at_int HR0.out a1 p927 q927
     obtain rfl : ad926 = ad927 := (by injection e927)
     replace p927 := eq_true p927
     replace q927 := eq_true q927
     go_enter Try.func75, Try.ntmps75
     go_wp2
     go_loopg [5] k (fun kq v5 w' => ∃ (x5_1 : Int), v5 = .int .i64 x5_1 ∧ Aside0 (weftref3_behind.l0 kq l0 x5_1 = some r) ∧ Aside0 (kq ≤ k) ∧ Drawn0 w w')
     case atStart => exact ⟨(a1), zqxb19_1, H', ⟨Nat.le_refl _⟩, by repeat (first | exact Drawn0.refl _ | apply Drawn0.step)⟩
     case round =>
      clear H'
      try clear p2
      try clear c3
      try clear c3b0
      try clear c4
      try clear c4b0
      try clear c5
      try clear c5b0
      try clear c5b1
      try clear c6
      try clear c6b0
      try clear c6b1
      try clear p6
      try clear hx926_0
      try clear hx927_0
      try clear p926
      try clear p927
      try clear q926
      try clear q927
      obtain ⟨x5_1, rfl, HA, HK1, ⟨m1, rfl⟩⟩ := hrel
      cases gk with
      | zero => exact absurd HA.out (by simp [weftref3_behind.l0])
      | succ k1 =>
       have H := HA.out
       clear HA
       simp only [weftref3_behind.l0] at H
       by_cases c7 : x5_1 < (l0.length : Int)
       ·
        rw [if_pos c7] at H
        have c7b0 : decide (x5_1 < (l0.length : Int)) = true := decide_eq_true c7
        clear c7
        by_cases c8 : 0 ≤ x5_1
        ·
         rw [if_pos c8] at H
         have c8b0 : decide (0 ≤ x5_1) = true := decide_eq_true c8
         clear c8
         by_cases c9 : (rd l0 x5_1) = 0
         ·
          rw [if_pos c9] at H
          have c9b0 : ((rd l0 x5_1) == 0) = true := beq_iff_eq.mpr c9
          have c9b1 : ((rd l0 x5_1) != 0) = false := bne_eq_false_iff_eq.mpr c9
          clear c9
          have H' := zam H
          clear H
          have p928 : 0 ≤ (x5_1 : Int) := zod zqxb19_0
          have q928 : x5_1 < (l0.length : Int) := zod zqxb19_0
          obtain ⟨ad928, e928, hx928_0⟩ := Kd.at_int HR0.out x5_1 p928 q928
          obtain rfl : ad926 = ad928 := (by injection e928)
          replace p928 := eq_true p928
          replace q928 := eq_true q928
          go_wp2
          go_roundg k1
          case measure => have := HK1.out; omega
          case rel => exact ⟨(wrap64 (x5_1 + 1)), zqxb19_1, H', ⟨by have := HK1.out; omega⟩, by repeat (first | exact Drawn0.refl _ | apply Drawn0.step)⟩
         ·
          rw [if_neg c9] at H
          have c9b0 : ((rd l0 x5_1) == 0) = false := beq_eq_false_iff_ne.mpr c9
          have c9b1 : ((rd l0 x5_1) != 0) = true := bne_iff_ne.mpr c9
          obtain rfl := Option.some.inj H
          have p928 : 0 ≤ (x5_1 : Int) := zod zqxb19_0
          have q928 : x5_1 < (l0.length : Int) := zod zqxb19_0
          obtain ⟨ad928, e928, hx928_0⟩ := Kd.at_int HR0.out x5_1 p928 q928
          obtain rfl : ad926 = ad928 := (by injection e928)
          replace p928 := eq_true p928
          replace q928 := eq_true q928
          go_wp2
          go_ret
          exact ⟨by first | rfl | (simp; done) | (simp [*]; done), by repeat (first | exact Drawn0.refl _ | apply Drawn0.step)⟩
        ·
         rw [if_neg c8] at H
         exact absurd H (by simp)
       ·
        rw [if_neg c7] at H
        have c7b0 : decide (x5_1 < (l0.length : Int)) = false := decide_eq_false c7
        clear c7
        obtain rfl := Option.some.inj H
        go_wp2
        go_ret
        exact ⟨by first | rfl | (simp; done) | (simp [*]; done), by repeat (first | exact Drawn0.refl _ | apply Drawn0.step)⟩
    ·
     rw [if_neg c6] at H
     have c6b0 : ((rd l0 a1) == 0) = false := beq_eq_false_iff_ne.mpr c6
     have c6b1 : ((rd l0 a1) != 0) = true := bne_iff_ne.mpr c6
     by_cases c10 : (wrap64 (a1 + 1)) ≥ (l0.length : Int)
     ·
      rw [if_pos c10] at H
      have c10b0 : decide ((l0.length : Int) ≤ (wrap64 (a1 + 1))) = true := decide_eq_true c10
      clear c10
      obtain rfl := Option.some.inj H
      have p926 : 0 ≤ (a1 : Int) := zod zqxb19_0
      have q926 : a1 < (l0.length : Int) := zod zqxb19_0
      obtain ⟨ad926, e926, hx926_0⟩ := Kd.at_int HR0.out a1 p926 q926
      cases e926
      replace p926 := eq_true p926
      replace q926 := eq_true q926
      have p927 : 0 ≤ (a1 : Int) := zod zqxb19_0
      have q927 : a1 < (l0.length : Int) := zod zqxb19_0
      obtain ⟨ad927, e927, hx927_0⟩ := Kd.at_int HR0.out a1 p927 q927
      obtain rfl : ad926 = ad927 := (by injection e927)
      replace p927 := eq_true p927
      replace q927 := eq_true q927
      go_enter Try.func75, Try.ntmps75
      go_wp2
      go_ret
      exact ⟨by first | rfl | (simp; done) | (simp [*]; done), by repeat (first | exact Drawn0.refl _ | apply Drawn0.step)⟩
     ·
      rw [if_neg c10] at H
      have c10b0 : decide ((l0.length : Int) ≤ (wrap64 (a1 + 1))) = false := decide_eq_false c10
      clear c10
      obtain ⟨ji11, hji11⟩ : ∃ j_ : Int, (wrap64 (a1 + 1)) = j_ := ⟨_, rfl⟩
      replace H : (if 0 ≤ (ji11) then (if (ji11) < (l0.length : Int) then (if (rd l0 (ji11)) < 2 then (some (-1)) else (if (wrap64 (a1 + (wrap64 (rd l0 (ji11))))) > (l0.length : Int) then (some (-1)) else (some (wrap64 (a1 + (wrap64 (rd l0 (ji11)))))))) else (none)) else (none)) = some r := by first | (rw [hji11] at H; exact H) | (simp only [hji11] at H ⊢; exact H)
      (try rw [hji11] at c10b0)
      have hji11w : (IntKind.i64.wrap (a1 + 1)) = ji11 := (i64_w _).trans hji11
      by_cases c12 : 0 ≤ (ji11)
      ·
       rw [if_pos c12] at H
       have c12b0 : decide (0 ≤ (ji11)) = true := decide_eq_true c12
       clear c12
       by_cases c13 : (ji11) < (l0.length : Int)
       ·
        rw [if_pos c13] at H
        have c13b0 : decide ((ji11) < (l0.length : Int)) = true := decide_eq_true c13
        clear c13
        by_cases c14 : (rd l0 (ji11)) < 2
        ·
         rw [if_pos c14] at H
         have c14b0 : decide ((rd l0 (ji11)) < 2) = true := decide_eq_true c14
         clear c14
         obtain rfl := Option.some.inj H
         have p926 : 0 ≤ (a1 : Int) := zod zqxb19_0
         have q926 : a1 < (l0.length : Int) := zod zqxb19_0
         obtain ⟨ad926, e926, hx926_0⟩ := Kd.at_int HR0.out a1 p926 q926
         cases e926
         replace p926 := eq_true p926
         replace q926 := eq_true q926
         have p927 : 0 ≤ (a1 : Int) := zod zqxb19_0
         have q927 : a1 < (l0.length : Int) := zod zqxb19_0
         obtain ⟨ad927, e927, hx927_0⟩ := Kd.at_int HR0.out a1 p927 q927
         obtain rfl : ad926 = ad927 := (by injection e927)
         replace p927 := eq_true p927
         replace q927 := eq_true q927
         have p929 : 0 ≤ ((ji11) : Int) := zod zqxb19_0
         have q929 : (ji11) < (l0.length : Int) := zod zqxb19_0
         obtain ⟨ad929, e929, hx929_0⟩ := Kd.at_int HR0.out (ji11) p929 q929
         obtain rfl : ad926 = ad929 := (by injection e929)
         replace p929 := eq_true p929
         replace q929 := eq_true q929
         go_enter Try.func75, Try.ntmps75
         go_wp2
         go_ret
         exact ⟨by first | rfl | (simp; done) | (simp only [← hji11] <;> (first | rfl | simp)) | (simp [*]; done), by repeat (first | exact Drawn0.refl _ | apply Drawn0.step)⟩
        ·
         rw [if_neg c14] at H
         have c14b0 : decide ((rd l0 (ji11)) < 2) = false := decide_eq_false c14
         clear c14
         by_cases c15 : (wrap64 (a1 + (wrap64 (rd l0 (ji11))))) > (l0.length : Int)
         ·
          rw [if_pos c15] at H
          have c15b0 : decide ((l0.length : Int) < (wrap64 (a1 + (wrap64 (rd l0 (ji11)))))) = true := decide_eq_true c15
          clear c15
          obtain rfl := Option.some.inj H
          have p926 : 0 ≤ (a1 : Int) := zod zqxb19_0
          have q926 : a1 < (l0.length : Int) := zod zqxb19_0
          obtain ⟨ad926, e926, hx926_0⟩ := Kd.at_int HR0.out a1 p926 q926
          cases e926
          replace p926 := eq_true p926
          replace q926 := eq_true q926
          have p927 : 0 ≤ (a1 : Int) := zod zqxb19_0
          have q927 : a1 < (l0.length : Int) := zod zqxb19_0
          obtain ⟨ad927, e927, hx927_0⟩ := Kd.at_int HR0.out a1 p927 q927
          obtain rfl : ad926 = ad927 := (by injection e927)
          replace p927 := eq_true p927
          replace q927 := eq_true q927
          have p929 : 0 ≤ ((ji11) : Int) := zod zqxb19_0
          have q929 : (ji11) < (l0.length : Int) := zod zqxb19_0
          obtain ⟨ad929, e929, hx929_0⟩ := Kd.at_int HR0.out (ji11) p929 q929
          obtain rfl : ad926 = ad929 := (by injection e929)
          replace p929 := eq_true p929
          replace q929 := eq_true q929
          have p930 : 0 ≤ ((ji11) : Int) := zod zqxb19_0
          have q930 : (ji11) < (l0.length : Int) := zod zqxb19_0
          obtain ⟨ad930, e930, hx930_0⟩ := Kd.at_int HR0.out (ji11) p930 q930
          obtain rfl : ad926 = ad930 := (by injection e930)
          replace p930 := eq_true p930
          replace q930 := eq_true q930
          go_enter Try.func75, Try.ntmps75
          go_wp2
          go_ret
          exact ⟨by first | rfl | (simp; done) | (simp only [← hji11] <;> (first | rfl | simp)) | (simp [*]; done), by repeat (first | exact Drawn0.refl _ | apply Drawn0.step)⟩
         ·
          rw [if_neg c15] at H
          have c15b0 : decide ((l0.length : Int) < (wrap64 (a1 + (wrap64 (rd l0 (ji11)))))) = false := decide_eq_false c15
          clear c15
          obtain rfl := Option.some.inj H
          have p926 : 0 ≤ (a1 : Int) := zod zqxb19_0
          have q926 : a1 < (l0.length : Int) := zod zqxb19_0
          obtain ⟨ad926, e926, hx926_0⟩ := Kd.at_int HR0.out a1 p926 q926
          cases e926
          replace p926 := eq_true p926
          replace q926 := eq_true q926
          have p927 : 0 ≤ (a1 : Int) := zod zqxb19_0
          have q927 : a1 < (l0.length : Int) := zod zqxb19_0
          obtain ⟨ad927, e927, hx927_0⟩ := Kd.at_int HR0.out a1 p927 q927
          obtain rfl : ad926 = ad927 := (by injection e927)
          replace p927 := eq_true p927
          replace q927 := eq_true q927
          have p929 : 0 ≤ ((ji11) : Int) := zod zqxb19_0
          have q929 : (ji11) < (l0.length : Int) := zod zqxb19_0
          obtain ⟨ad929, e929, hx929_0⟩ := Kd.at_int HR0.out (ji11) p929 q929
          obtain rfl : ad926 = ad929 := (by injection e929)
          replace p929 := eq_true p929
          replace q929 := eq_true q929
          have p930 : 0 ≤ ((ji11) : Int) := zod zqxb19_0
          have q930 : (ji11) < (l0.length : Int) := zod zqxb19_0
          obtain ⟨ad930, e930, hx930_0⟩ := Kd.at_int HR0.out (ji11) p930 q930
          obtain rfl : ad926 = ad930 := (by injection e930)
          replace p930 := eq_true p930
          replace q930 := eq_true q930
          have p931 : 0 ≤ ((ji11) : Int) := zod zqxb19_0
          have q931 : (ji11) < (l0.length : Int) := zod zqxb19_0
          obtain ⟨ad931, e931, hx931_0⟩ := Kd.at_int HR0.out (ji11) p931 q931
          obtain rfl : ad926 = ad931 := (by injection e931)
          replace p931 := eq_true p931
          replace q931 := eq_true q931
          go_enter Try.func75, Try.ntmps75
          go_wp2
          go_ret
          exact ⟨by first | rfl | (simp; done) | (simp only [← hji11] <;> (first | rfl | simp)) | (simp [*]; done), by repeat (first | exact Drawn0.refl _ | apply Drawn0.step)⟩
       ·
        rw [if_neg c13] at H
        exact absurd H (by simp)
      ·
       rw [if_neg c12] at H
       exact absurd H (by simp)
  ·
   rw [if_neg c4] at H
   exact absurd H (by simp)
 ·
  rw [if_neg c3] at H
  exact absurd H (by simp)

/-! ### weftref3_Area: function 74 -/
mutual
def weftref3_Area.j0 : Nat → List Int → Bool → Option (Bool)
 | 0, _, _ => none
 | k + 1, x0, x12 => if x12 = true then (some false) else (weftref3_Area.l0 k x0 0)
def weftref3_Area.l0 : Nat → List Int → Int → Option (Bool)
 | 0, _, _ => none
 | k + 1, x0, x3 => if x3 ≥ 0 then (if x3 < (x0.length : Int) then ((weftref3_behind.f k x0 x3).bind fun t932 => (weftref3_Area.l0 k x0 t932)) else (some (decide (x3 ≥ 0)))) else (some (decide (x3 ≥ 0)))
end
def weftref3_Area.f (k : Nat) (l0 : List Int) : Option (Bool) := if (l0.length : Int) > 40 then (weftref3_Area.j0 k l0 true) else (weftref3_Area.j0 k l0 (((l0.length : Int) % 4) != 0))
set_option maxHeartbeats 8000000 in
set_option maxRecDepth 100000 in
theorem weftref3_Area.calls (k : Nat) (A0 : Option Addr) (c0 : Nat) (l0 : List Int) (r : Bool) (w : World) (hr0 : Kd.C (Kd.int .u8) w A0 l0.length l0) (hc0 : l0.length ≤ c0) (h : weftref3_Area.f k l0 = some r) :
  Calls Try.prog 74 #[.slice A0 l0.length c0] w fun e w' => e = .returned (.bool r) ∧ Drawn0 w w' := by
 have HR0 := zam hr0
 have HC0 := zam hc0
 clear hr0 hc0
 have H : (if (l0.length : Int) > 40 then (weftref3_Area.j0 k l0 true) else (weftref3_Area.j0 k l0 (((l0.length : Int) % 4) != 0))) = some r := h
 clear h
 have HC2 := zam H
 clear H
 go_enter Try.func74, Try.ntmps74
 go_upto_region 1 with (fail)
 go_cut [12] (fun v12 wc => ∃ (kq : Nat) (x12_1 : Bool), v12 = .bool x12_1 ∧ Aside0 (weftref3_Area.j0 kq l0 x12_1 = some r) ∧ Aside0 (kq ≤ k) ∧ Drawn0 w wc)
 case first =>
  have H := HC2.out
  clear HC2
  by_cases c3 : (l0.length : Int) > 40
  ·
   rw [if_pos c3] at H
   have c3b0 : decide (40 < (l0.length : Int)) = true := decide_eq_true c3
   have c3b1 : decide (40 < l0.length) = true := decide_eq_true (by omega)
   clear c3
   (first | rw [c3b0] | (simp only [i64_w, i32_w]; rw [c3b0]) | skip)
   have H' := zam H
   clear H
   go_wp2
   go_meet
   case rel => exact ⟨_, (true), zqxb19_1, H', ⟨by first | omega | exact Nat.le_refl _⟩, by repeat (first | exact Drawn0.refl _ | apply Drawn0.step)⟩
  ·
   rw [if_neg c3] at H
   have c3b0 : decide (40 < (l0.length : Int)) = false := decide_eq_false c3
   have c3b1 : decide (40 < l0.length) = false := decide_eq_false (by omega)
   clear c3
   (first | rw [c3b0] | (simp only [i64_w, i32_w]; rw [c3b0]) | skip)
   have H' := zam H
   clear H
   go_wp2
   go_meet
   case rel => exact ⟨_, ((((l0.length : Int) % 4) != 0)), zqxb19_1, H', ⟨by first | omega | exact Nat.le_refl _⟩, by repeat (first | exact Drawn0.refl _ | apply Drawn0.step)⟩
 case rest =>
  clear HC2
  try clear p2
  try clear c3
  try clear c3b0
  try clear c3b1
  obtain ⟨kq, x12_1, rfl, HA, HJ1, ⟨mc1, rfl⟩⟩ := hcut
  cases kq with
  | zero => exact absurd HA.out (by simp [weftref3_Area.j0])
  | succ kj1 =>
   have H := HA.out
   clear HA
   simp only [weftref3_Area.j0] at H
   by_cases c4 : x12_1 = true
   ·
    subst c4
    have H1 : (some false) = some r := by rw [if_pos rfl] at H; exact H
    clear H
    have H := H1
    clear H1
    obtain rfl := Option.some.inj H
    go_wp2
    go_ret
    exact ⟨by first | rfl | (simp; done) | (simp [*]; done), by repeat (first | exact Drawn0.refl _ | apply Drawn0.step)⟩
   ·
    replace c4 := Bool.eq_false_iff.mpr c4
    subst c4
    have H1 : (weftref3_Area.l0 kj1 l0 0) = some r := by rw [if_neg (show ¬ (false = true) by decide)] at H; exact H
    clear H
    have H := H1
    clear H1
    have H' := zam H
    clear H
    go_wp2
    go_loopg [3] kj1 (fun kq v3 w' => ∃ (x3_2 : Int), v3 = .int .i64 x3_2 ∧ Aside0 (weftref3_Area.l0 kq l0 x3_2 = some r) ∧ Aside0 (kq ≤ kj1) ∧ Drawn0 w w')
    case atStart => exact ⟨(0), zqxb19_1, H', ⟨Nat.le_refl _⟩, by repeat (first | exact Drawn0.refl _ | apply Drawn0.step)⟩
    case round =>
     clear H'
     try clear c1
     try clear p2
     try clear c3
     try clear c3b0
     try clear c3b1
     try clear c4
     try clear p2
     obtain ⟨x3_2, rfl, HA, HK2, ⟨m2, rfl⟩⟩ := hrel
     cases gk with
     | zero => exact absurd HA.out (by simp [weftref3_Area.l0])
     | succ k2 =>
      have H := HA.out
      clear HA
      simp only [weftref3_Area.l0] at H
      by_cases c5 : x3_2 ≥ 0
      ·
       rw [if_pos c5] at H
       have c5b0 : decide (0 ≤ x3_2) = true := decide_eq_true c5
       clear c5
       by_cases c6 : x3_2 < (l0.length : Int)
       ·
        rw [if_pos c6] at H
        have c6b0 : decide (x3_2 < (l0.length : Int)) = true := decide_eq_true c6
        clear c6
        replace H := Option.bind_eq_some_iff.mp H
        obtain ⟨t932, A70, H⟩ := H
        replace H : (weftref3_Area.l0 k2 l0 t932) = some r := H
        have A7 := zam A70
        clear A70
        have H' := zam H
        clear H
        go_wp2_with (first | ((with_reducible refine gate_callee (f := 75) rfl ?_); refine goesL_ (some 23) rfl rfl Try.func75 (by kernel_rfl) rfl #[.slice A0 l0.length c0, .int .i64 x3_2] rfl zqxb19_2 ?_; (with_reducible refine (weftref3_behind.calls k2 _ _ l0 x3_2 t932 _ ?side1 ?side2 A7.out).mono ?_); (case side1 => repeat (first | exact HR0.out | (with_reducible refine Kd.C_alloc ?_ _) | (with_reducible refine Kd.C_drewN ?_ _) | (with_reducible refine Kd.C_drew ?_))); (case side2 => exact HC0.out); rintro e w' ⟨rfl, ⟨nd, rfl⟩⟩; refine ⟨_, rfl, ?_⟩))
        go_roundg k2
        case measure => have := HJ1.out; have := HK2.out; omega
        case rel => exact ⟨(t932), zqxb19_1, H', ⟨by have := HJ1.out; have := HK2.out; omega⟩, by repeat (first | exact Drawn0.refl _ | apply Drawn0.step)⟩
       ·
        rw [if_neg c6] at H
        have c6b0 : decide (x3_2 < (l0.length : Int)) = false := decide_eq_false c6
        clear c6
        obtain rfl := Option.some.inj H
        go_wp2
        go_ret
        exact ⟨by first | rfl | (simp; done) | (simp [*]; done), by repeat (first | exact Drawn0.refl _ | apply Drawn0.step)⟩
      ·
       rw [if_neg c5] at H
       have c5b0 : decide (0 ≤ x3_2) = false := decide_eq_false c5
       clear c5
       obtain rfl := Option.some.inj H
       go_wp2
       go_ret
       exact ⟨by first | rfl | (simp; done) | (simp [*]; done), by repeat (first | exact Drawn0.refl _ | apply Drawn0.step)⟩

end Go.Proofs.Ytbacmhegalncjaa.XB
