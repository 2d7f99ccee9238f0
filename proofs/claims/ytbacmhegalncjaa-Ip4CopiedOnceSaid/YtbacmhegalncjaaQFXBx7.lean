-- printed by a program of this session (wip/xprint), out of the translation; Lean checks it
import Derived.Test.YtbacmhegalncjaaQFXBx0
import Derived.Test.YtbacmhegalncjaaQFXBx5
import Derived.Test.YtbacmhegalncjaaQFXBx6
namespace Go.Proofs.Ytbacmhegalncjaa.XB
open Go.RowKit Go.Proofs.YtbacmhegalncjaaW.PrintWords Go.Proofs.YtbacmhegalncjaaW.PrintLast Go.Proofs.YtbacmhegalncjaaW.PrintMore Go.Proofs.YtbacmhegalncjaaX
theorem zq7_5 {P : Prop} (h : P := by first | (with_reducible assumption) | assumption) : P := h
theorem zq7_4 {P : Prop} (h : P := by (with_reducible repeat (first | apply Kd.R_alloc | apply Kd.R_drewN | apply Kd.R_drew)); exact HO298.out) : P := h
theorem zq7_3 {P : Prop} (h : P := by (with_reducible repeat (first | apply Kd.R_alloc | apply Kd.R_drewN | apply Kd.R_drew)); exact HO293.out) : P := h
theorem zq7_2 {P : Prop} (h : P := by (try simp only [List.map_toArray, List.map_cons, List.map_nil]); first | done | rfl | (simp only [List.length_drop, List.length_take]; rfl)) : P := h
theorem zq7_1 {P : Prop} (h : P := by (with_reducible repeat (first | apply Kd.R_alloc | apply Kd.R_drewN | apply Kd.R_drew)); exact HO290.out) : P := h
theorem zq7_0 {P : Prop} (h : P := by repeat (first | (with_reducible first | exact HB.out | apply below_alloc | apply pw_below_drewN | apply below_drew1) | exact HB.out)) : P := h
attribute [local go_sem] max2_int min2_int max_two min_two max_three min_three max_four min_four   -- for this text's walks alone
set_option linter.unusedVariables false
set_option linter.unusedSimpArgs false

/-! ### weftlaw3_each: function 23 -/
mutual
def weftlaw3_each.l0 : Nat → List Int → Int → Option (Bool)
  | 0, _, _ => none
  | k + 1, x0, x3 => if x3 < (x0.length : Int) then (if 0 ≤ x3 then (weftlaw3_each.j1 k x0 x3 ((rd x0 x3) != 0)) else (none)) else (weftlaw3_each.j1 k x0 x3 false)
def weftlaw3_each.j1 : Nat → List Int → Int → Bool → Option (Bool)
  | 0, _, _, _ => none
  | k + 1, x0, x3, x15 => if x15 = true then (if 0 ≤ x3 then (if x3 < (x0.length : Int) then (if (rd x0 x3) < 128 then (some false) else (if (wrap64 (x3 + 1)) ≥ (x0.length : Int) then (some false) else (if 0 ≤ (wrap64 (x3 + 1)) then (if (wrap64 (x3 + 1)) < (x0.length : Int) then (if (rd x0 (wrap64 (x3 + 1))) < 2 then (some false) else (weftlaw3_each.l0 k x0 (wrap64 (x3 + (wrap64 (rd x0 (wrap64 (x3 + 1)))))))) else (none)) else (none)))) else (none)) else (none)) else (if x3 > (x0.length : Int) then (weftlaw3_each.j2 k x0 x3 true) else (weftlaw3_each.j2 k x0 x3 (decide ((wrap64 ((x0.length : Int) - x3)) > 3))))
def weftlaw3_each.j2 : Nat → List Int → Int → Bool → Option (Bool)
  | 0, _, _, _ => none
  | k + 1, x0, x3, x54 => if x54 = true then (some false) else (weftlaw3_each.l1 k x0 x3)
def weftlaw3_each.l1 : Nat → List Int → Int → Option (Bool)
  | 0, _, _ => none
  | k + 1, x0, x4 => if x4 < (x0.length : Int) then (if 0 ≤ x4 then (if (rd x0 x4) = 0 then (weftlaw3_each.l1 k x0 (wrap64 (x4 + 1))) else (some false)) else (none)) else (some (((x0.length : Int) % 4) == 0))
end
def weftlaw3_each.f (k : Nat) (l0 : List Int) : Option (Bool) := weftlaw3_each.l0 k l0 0
set_option maxHeartbeats 8000000 in
set_option maxRecDepth 100000 in
theorem weftlaw3_each.calls (k : Nat) (A0 : Option Addr) (c0 : Nat) (l0 : List Int) (r : Bool) (w : World) (hr0 : Kd.C (Kd.int .u8) w A0 l0.length l0) (hc0 : l0.length ≤ c0) (h : weftlaw3_each.f k l0 = some r) :
    Calls Try.prog 23 #[.slice A0 l0.length c0] w fun e w' => e = .returned (.bool r) ∧ Drawn0 w w' := by
  have HR0 := Aside0.mk hr0
  have HC0 := Aside0.mk hc0
  clear hr0 hc0
  have H : (weftlaw3_each.l0 k l0 0) = some r := h
  clear h
  have H' := Aside0.mk H
  clear H
  go_enter Try.func23, Try.ntmps23
  go_wp2
  go_loopg [3] k (fun kq v3 w' => ∃ (x3_1 : Int), v3 = .int .i64 x3_1 ∧ Aside0 (weftlaw3_each.l0 kq l0 x3_1 = some r) ∧ Aside0 (kq ≤ k) ∧ Drawn0 w w')
  case atStart => exact ⟨(0), (by first | rfl | (simp; done) | (simp [*]; done)), H', ⟨Nat.le_refl _⟩, by repeat (first | exact Drawn0.refl _ | apply Drawn0.step)⟩
  case round =>
    clear H'
    obtain ⟨x3_1, rfl, HA, HK1, ⟨m1, rfl⟩⟩ := hrel
    cases gk with
    | zero => exact absurd HA.out (by simp [weftlaw3_each.l0])
    | succ k1 =>
      have H := HA.out
      clear HA
      simp only [weftlaw3_each.l0] at H
      have HC2 := Aside0.mk H
      clear H
      go_upto_region 2 with (fail)
      go_cut [15] (fun v15 wc => ∃ (kq : Nat) (x15_1 : Bool), v15 = .bool x15_1 ∧ Aside0 (weftlaw3_each.j1 kq l0 x3_1 x15_1 = some r) ∧ Aside0 (kq ≤ k1) ∧ Drawn0 w wc)
      case first =>
        have H := HC2.out
        clear HC2
        by_cases c3 : x3_1 < (l0.length : Int)
        · rw [if_pos c3] at H
          have c3b0 : decide (x3_1 < (l0.length : Int)) = true := decide_eq_true c3
          clear c3
          (first | rw [c3b0] | (simp only [i64_w, i32_w]; rw [c3b0]) | skip)
          by_cases c4 : 0 ≤ x3_1
          · rw [if_pos c4] at H
            have c4b0 : decide (0 ≤ x3_1) = true := decide_eq_true c4
            clear c4
            have H' := Aside0.mk H
            clear H
            have p271 : 0 ≤ (x3_1 : Int) := of_decide_eq_true zq7_5
            have q271 : x3_1 < (l0.length : Int) := of_decide_eq_true zq7_5
            obtain ⟨ad271, e271, hx271_0⟩ := Kd.at_int HR0.out x3_1 p271 q271
            cases e271
            replace p271 := eq_true p271
            replace q271 := eq_true q271
            go_wp2
            go_meet
            case rel => exact ⟨_, (((rd l0 x3_1) != 0)), (by first | rfl | (simp; done) | (simp [*]; done)), H', ⟨by have := HK1.out; first | omega | exact Nat.le_refl _⟩, by repeat (first | exact Drawn0.refl _ | apply Drawn0.step)⟩
          · rw [if_neg c4] at H
            exact absurd H (by simp)
        · rw [if_neg c3] at H
          have c3b0 : decide (x3_1 < (l0.length : Int)) = false := decide_eq_false c3
          clear c3
          (first | rw [c3b0] | (simp only [i64_w, i32_w]; rw [c3b0]) | skip)
          have H' := Aside0.mk H
          clear H
          go_wp2
          go_meet
          case rel => exact ⟨_, (false), (by first | rfl | (simp; done) | (simp [*]; done)), H', ⟨by have := HK1.out; first | omega | exact Nat.le_refl _⟩, by repeat (first | exact Drawn0.refl _ | apply Drawn0.step)⟩
      case rest =>
        clear HC2
        try clear c2
        try clear p2
        try clear q2
        try clear hx2
        try clear c3
        try clear c3b0
        try clear c4
        try clear c4b0
        try clear hx271_0
        try clear p271
        try clear q271
        obtain ⟨kq, x15_1, rfl, HA, HJ1, ⟨mc1, rfl⟩⟩ := hcut
        cases kq with
        | zero => exact absurd HA.out (by simp [weftlaw3_each.j1])
        | succ kj1 =>
          have H := HA.out
          clear HA
          simp only [weftlaw3_each.j1] at H
          by_cases c5 : x15_1 = true
          · subst c5
            have H1 : (if 0 ≤ x3_1 then (if x3_1 < (l0.length : Int) then (if (rd l0 x3_1) < 128 then (some false) else (if (wrap64 (x3_1 + 1)) ≥ (l0.length : Int) then (some false) else (if 0 ≤ (wrap64 (x3_1 + 1)) then (if (wrap64 (x3_1 + 1)) < (l0.length : Int) then (if (rd l0 (wrap64 (x3_1 + 1))) < 2 then (some false) else (weftlaw3_each.l0 kj1 l0 (wrap64 (x3_1 + (wrap64 (rd l0 (wrap64 (x3_1 + 1)))))))) else (none)) else (none)))) else (none)) else (none)) = some r := by rw [if_pos rfl] at H; exact H
            clear H
            have H := H1
            clear H1
            by_cases c6 : 0 ≤ x3_1
            · rw [if_pos c6] at H
              have c6b0 : decide (0 ≤ x3_1) = true := decide_eq_true c6
              clear c6
              by_cases c7 : x3_1 < (l0.length : Int)
              · rw [if_pos c7] at H
                have c7b0 : decide (x3_1 < (l0.length : Int)) = true := decide_eq_true c7
                clear c7
                by_cases c8 : (rd l0 x3_1) < 128
                · rw [if_pos c8] at H
                  have c8b0 : decide ((rd l0 x3_1) < 128) = true := decide_eq_true c8
                  clear c8
                  obtain rfl := Option.some.inj H
                  have p272 : 0 ≤ (x3_1 : Int) := of_decide_eq_true zq7_5
                  have q272 : x3_1 < (l0.length : Int) := of_decide_eq_true zq7_5
                  obtain ⟨ad272, e272, hx272_0⟩ := Kd.at_int HR0.out x3_1 p272 q272
                  cases e272
                  replace p272 := eq_true p272
                  replace q272 := eq_true q272
                  go_wp2
                  go_ret
                  exact ⟨by first | rfl | (simp; done) | (simp [*]; done), by repeat (first | exact Drawn0.refl _ | apply Drawn0.step)⟩
                · rw [if_neg c8] at H
                  have c8b0 : decide ((rd l0 x3_1) < 128) = false := decide_eq_false c8
                  clear c8
                  by_cases c9 : (wrap64 (x3_1 + 1)) ≥ (l0.length : Int)
                  · rw [if_pos c9] at H
                    have c9b0 : decide ((l0.length : Int) ≤ (wrap64 (x3_1 + 1))) = true := decide_eq_true c9
                    clear c9
                    obtain rfl := Option.some.inj H
                    have p272 : 0 ≤ (x3_1 : Int) := of_decide_eq_true zq7_5
                    have q272 : x3_1 < (l0.length : Int) := of_decide_eq_true zq7_5
                    obtain ⟨ad272, e272, hx272_0⟩ := Kd.at_int HR0.out x3_1 p272 q272
                    cases e272
                    replace p272 := eq_true p272
                    replace q272 := eq_true q272
                    go_wp2
                    go_ret
                    exact ⟨by first | rfl | (simp; done) | (simp [*]; done), by repeat (first | exact Drawn0.refl _ | apply Drawn0.step)⟩
                  · rw [if_neg c9] at H
                    have c9b0 : decide ((l0.length : Int) ≤ (wrap64 (x3_1 + 1))) = false := decide_eq_false c9
                    clear c9
                    obtain ⟨ji10, hji10⟩ : ∃ j_ : Int, (wrap64 (x3_1 + 1)) = j_ := ⟨_, rfl⟩
                    replace H : (if 0 ≤ (ji10) then (if (ji10) < (l0.length : Int) then (if (rd l0 (ji10)) < 2 then (some false) else (weftlaw3_each.l0 kj1 l0 (wrap64 (x3_1 + (wrap64 (rd l0 (ji10))))))) else (none)) else (none)) = some r := by first | (rw [hji10] at H; exact H) | (simp only [hji10] at H ⊢; exact H)
                    (try rw [hji10] at c9b0)
                    have hji10w : (IntKind.i64.wrap (x3_1 + 1)) = ji10 := (i64_w _).trans hji10
                    by_cases c11 : 0 ≤ (ji10)
                    · rw [if_pos c11] at H
                      have c11b0 : decide (0 ≤ (ji10)) = true := decide_eq_true c11
                      clear c11
                      by_cases c12 : (ji10) < (l0.length : Int)
                      · rw [if_pos c12] at H
                        have c12b0 : decide ((ji10) < (l0.length : Int)) = true := decide_eq_true c12
                        clear c12
                        by_cases c13 : (rd l0 (ji10)) < 2
                        · rw [if_pos c13] at H
                          have c13b0 : decide ((rd l0 (ji10)) < 2) = true := decide_eq_true c13
                          clear c13
                          obtain rfl := Option.some.inj H
                          have p272 : 0 ≤ (x3_1 : Int) := of_decide_eq_true zq7_5
                          have q272 : x3_1 < (l0.length : Int) := of_decide_eq_true zq7_5
                          obtain ⟨ad272, e272, hx272_0⟩ := Kd.at_int HR0.out x3_1 p272 q272
                          cases e272
                          replace p272 := eq_true p272
                          replace q272 := eq_true q272
                          have p273 : 0 ≤ ((ji10) : Int) := of_decide_eq_true zq7_5
                          have q273 : (ji10) < (l0.length : Int) := of_decide_eq_true zq7_5
                          obtain ⟨ad273, e273, hx273_0⟩ := Kd.at_int HR0.out (ji10) p273 q273
                          obtain rfl : ad272 = ad273 := (by injection e273)
                          replace p273 := eq_true p273
                          replace q273 := eq_true q273
                          go_wp2
                          go_ret
                          exact ⟨by first | rfl | (simp; done) | (simp only [← hji10] <;> (first | rfl | simp)) | (simp [*]; done), by repeat (first | exact Drawn0.refl _ | apply Drawn0.step)⟩
                        · rw [if_neg c13] at H
                          have c13b0 : decide ((rd l0 (ji10)) < 2) = false := decide_eq_false c13
                          clear c13
                          have H' := Aside0.mk H
                          clear H
                          have p272 : 0 ≤ (x3_1 : Int) := of_decide_eq_true zq7_5
                          have q272 : x3_1 < (l0.length : Int) := of_decide_eq_true zq7_5
                          obtain ⟨ad272, e272, hx272_0⟩ := Kd.at_int HR0.out x3_1 p272 q272
                          cases e272
                          replace p272 := eq_true p272
                          replace q272 := eq_true q272
                          have p273 : 0 ≤ ((ji10) : Int) := of_decide_eq_true zq7_5
                          have q273 : (ji10) < (l0.length : Int) := of_decide_eq_true zq7_5
                          obtain ⟨ad273, e273, hx273_0⟩ := Kd.at_int HR0.out (ji10) p273 q273
                          obtain rfl : ad272 = ad273 := (by injection e273)
                          replace p273 := eq_true p273
                          replace q273 := eq_true q273
                          have p274 : 0 ≤ ((ji10) : Int) := of_decide_eq_true zq7_5
                          have q274 : (ji10) < (l0.length : Int) := of_decide_eq_true zq7_5
                          obtain ⟨ad274, e274, hx274_0⟩ := Kd.at_int HR0.out (ji10) p274 q274
                          obtain rfl : ad272 = ad274 := (by injection e274)
                          replace p274 := eq_true p274
                          replace q274 := eq_true q274
                          go_wp2
                          go_roundg kj1
                          case measure => have := HK1.out; have := HJ1.out; omega
                          case rel => exact ⟨(wrap64 (x3_1 + (wrap64 (rd l0 (ji10))))), (by first | rfl | (simp; done) | (simp only [← hji10] <;> (first | rfl | simp)) | (simp [*]; done)), H', ⟨by have := HK1.out; have := HJ1.out; omega⟩, by repeat (first | exact Drawn0.refl _ | apply Drawn0.step)⟩
                      · rw [if_neg c12] at H
                        exact absurd H (by simp)
                    · rw [if_neg c11] at H
                      exact absurd H (by simp)
              · rw [if_neg c7] at H
                exact absurd H (by simp)
            · rw [if_neg c6] at H
              exact absurd H (by simp)
          · replace c5 := Bool.eq_false_iff.mpr c5
            subst c5
            have H1 : (if x3_1 > (l0.length : Int) then (weftlaw3_each.j2 kj1 l0 x3_1 true) else (weftlaw3_each.j2 kj1 l0 x3_1 (decide ((wrap64 ((l0.length : Int) - x3_1)) > 3)))) = some r := by rw [if_neg (show ¬ (false = true) by decide)] at H; exact H
            clear H
            have H := H1
            clear H1
            have HC14 := Aside0.mk H
            clear H
            go_upto_region 6 with (fail)
            go_cut [54] (fun v54 wc => ∃ (kq : Nat) (x54_13 : Bool), v54 = .bool x54_13 ∧ Aside0 (weftlaw3_each.j2 kq l0 x3_1 x54_13 = some r) ∧ Aside0 (kq ≤ kj1) ∧ Drawn0 w wc)
            case first =>
              have H := HC14.out
              clear HC14
              by_cases c15 : x3_1 > (l0.length : Int)
              · rw [if_pos c15] at H
                have c15b0 : decide ((l0.length : Int) < x3_1) = true := decide_eq_true c15
                clear c15
                (first | rw [c15b0] | (simp only [i64_w, i32_w]; rw [c15b0]) | skip)
                have H' := Aside0.mk H
                clear H
                go_wp2
                go_meet
                case rel => exact ⟨_, (true), (by first | rfl | (simp; done) | (simp [*]; done)), H', ⟨by have := HK1.out; have := HJ1.out; first | omega | exact Nat.le_refl _⟩, by repeat (first | exact Drawn0.refl _ | apply Drawn0.step)⟩
              · rw [if_neg c15] at H
                have c15b0 : decide ((l0.length : Int) < x3_1) = false := decide_eq_false c15
                clear c15
                (first | rw [c15b0] | (simp only [i64_w, i32_w]; rw [c15b0]) | skip)
                have H' := Aside0.mk H
                clear H
                go_wp2
                go_meet
                case rel => exact ⟨_, (decide ((wrap64 ((l0.length : Int) - x3_1)) > 3)), (by first | rfl | (simp; done) | (simp [*]; done)), H', ⟨by have := HK1.out; have := HJ1.out; first | omega | exact Nat.le_refl _⟩, by repeat (first | exact Drawn0.refl _ | apply Drawn0.step)⟩
            case rest =>
              clear HC14
              try clear c1
              try clear c2
              try clear p2
              try clear q2
              try clear hx2
              try clear c3
              try clear c3b0
              try clear c4
              try clear c4b0
              try clear c5
              try clear c6
              try clear c6b0
              try clear p6
              try clear c7
              try clear c7b0
              try clear c8
              try clear c8b0
              try clear c9
              try clear c9b0
              try clear c11
              try clear c11b0
              try clear c12
              try clear c12b0
              try clear c13
              try clear c13b0
              try clear c15
              try clear c15b0
              try clear hx271_0
              try clear hx272_0
              try clear hx273_0
              try clear hx274_0
              try clear p2
              try clear p271
              try clear p272
              try clear p273
              try clear p274
              try clear q2
              try clear q271
              try clear q272
              try clear q273
              try clear q274
              obtain ⟨kq, x54_13, rfl, HA, HJ13, ⟨mc13, rfl⟩⟩ := hcut
              cases kq with
              | zero => exact absurd HA.out (by simp [weftlaw3_each.j2])
              | succ kj13 =>
                have H := HA.out
                clear HA
                simp only [weftlaw3_each.j2] at H
                by_cases c16 : x54_13 = true
                · subst c16
                  have H1 : (some false) = some r := by rw [if_pos rfl] at H; exact H
                  clear H
                  have H := H1
                  clear H1
                  obtain rfl := Option.some.inj H
                  go_wp2
                  go_ret
                  exact ⟨by first | rfl | (simp; done) | (simp [*]; done), by repeat (first | exact Drawn0.refl _ | apply Drawn0.step)⟩
                · replace c16 := Bool.eq_false_iff.mpr c16
                  subst c16
                  have H1 : (weftlaw3_each.l1 kj13 l0 x3_1) = some r := by rw [if_neg (show ¬ (false = true) by decide)] at H; exact H
                  clear H
                  have H := H1
                  clear H1
                  have H' := Aside0.mk H
                  clear H
                  go_wp2
                  go_loopg [4] kj13 (fun kq v4 w' => ∃ (x4_4 : Int), v4 = .int .i64 x4_4 ∧ Aside0 (weftlaw3_each.l1 kq l0 x4_4 = some r) ∧ Aside0 (kq ≤ kj13) ∧ Drawn0 w w')
                  case atStart => exact ⟨(x3_1), (by first | rfl | (simp; done) | (simp [*]; done)), H', ⟨Nat.le_refl _⟩, by repeat (first | exact Drawn0.refl _ | apply Drawn0.step)⟩
                  case round =>
                    clear H'
                    try clear c1
                    try clear c2
                    try clear p2
                    try clear q2
                    try clear hx2
                    try clear c3
                    try clear c3b0
                    try clear c4
                    try clear c4b0
                    try clear c5
                    try clear c6
                    try clear c6b0
                    try clear p6
                    try clear c7
                    try clear c7b0
                    try clear c8
                    try clear c8b0
                    try clear c9
                    try clear c9b0
                    try clear c11
                    try clear c11b0
                    try clear c12
                    try clear c12b0
                    try clear c13
                    try clear c13b0
                    try clear c15
                    try clear c15b0
                    try clear c16
                    try clear hx271_0
                    try clear hx272_0
                    try clear hx273_0
                    try clear hx274_0
                    try clear p2
                    try clear p271
                    try clear p272
                    try clear p273
                    try clear p274
                    try clear p6
                    try clear q2
                    try clear q271
                    try clear q272
                    try clear q273
                    try clear q274
                    obtain ⟨x4_4, rfl, HA, HK4, ⟨m4, rfl⟩⟩ := hrel
                    cases gk with
                    | zero => exact absurd HA.out (by simp [weftlaw3_each.l1])
                    | succ k4 =>
                      have H := HA.out
                      clear HA
                      simp only [weftlaw3_each.l1] at H
                      by_cases c17 : x4_4 < (l0.length : Int)
                      · rw [if_pos c17] at H
                        have c17b0 : decide (x4_4 < (l0.length : Int)) = true := decide_eq_true c17
                        clear c17
                        by_cases c18 : 0 ≤ x4_4
                        · rw [if_pos c18] at H
                          have c18b0 : decide (0 ≤ x4_4) = true := decide_eq_true c18
                          clear c18
                          by_cases c19 : (rd l0 x4_4) = 0
                          · rw [if_pos c19] at H
                            have c19b0 : ((rd l0 x4_4) == 0) = true := beq_iff_eq.mpr c19
                            have c19b1 : ((rd l0 x4_4) != 0) = false := bne_eq_false_iff_eq.mpr c19
                            clear c19
                            have H' := Aside0.mk H
                            clear H
                            have p275 : 0 ≤ (x4_4 : Int) := of_decide_eq_true zq7_5
                            have q275 : x4_4 < (l0.length : Int) := of_decide_eq_true zq7_5
                            obtain ⟨ad275, e275, hx275_0⟩ := Kd.at_int HR0.out x4_4 p275 q275
                            cases e275
                            replace p275 := eq_true p275
                            replace q275 := eq_true q275
                            go_wp2
                            go_roundg k4
                            case measure => have := HK1.out; have := HJ1.out; have := HJ13.out; have := HK4.out; omega
                            case rel => exact ⟨(wrap64 (x4_4 + 1)), (by first | rfl | (simp; done) | (simp [*]; done)), H', ⟨by have := HK1.out; have := HJ1.out; have := HJ13.out; have := HK4.out; omega⟩, by repeat (first | exact Drawn0.refl _ | apply Drawn0.step)⟩
                          · rw [if_neg c19] at H
                            have c19b0 : ((rd l0 x4_4) == 0) = false := beq_eq_false_iff_ne.mpr c19
                            have c19b1 : ((rd l0 x4_4) != 0) = true := bne_iff_ne.mpr c19
                            obtain rfl := Option.some.inj H
                            have p275 : 0 ≤ (x4_4 : Int) := of_decide_eq_true zq7_5
                            have q275 : x4_4 < (l0.length : Int) := of_decide_eq_true zq7_5
                            obtain ⟨ad275, e275, hx275_0⟩ := Kd.at_int HR0.out x4_4 p275 q275
                            cases e275
                            replace p275 := eq_true p275
                            replace q275 := eq_true q275
                            go_wp2
                            go_ret
                            exact ⟨by first | rfl | (simp; done) | (simp [*]; done), by repeat (first | exact Drawn0.refl _ | apply Drawn0.step)⟩
                        · rw [if_neg c18] at H
                          exact absurd H (by simp)
                      · rw [if_neg c17] at H
                        have c17b0 : decide (x4_4 < (l0.length : Int)) = false := decide_eq_false c17
                        clear c17
                        obtain rfl := Option.some.inj H
                        go_wp2
                        go_ret
                        exact ⟨by first | rfl | (simp; done) | (simp [*]; done), by repeat (first | exact Drawn0.refl _ | apply Drawn0.step)⟩

/-! ### weftlaw3_Ip4CopiedOnce: function 5 -/
def weftlaw3_Ip4CopiedOnce.j0 : Nat → List Int → Bool → Option (Bool)
  | 0, _, _ => none
  | k + 1, x0, x25 => if x25 = true then (some false) else ((ip4_Copied.f k x0).bind fun bt287 => ((ip4_Build.f k 0 0 false false 0 0 0 0 0 x0 ([] : List Int)).bind fun bt291 => (if bt287.2 = 0 then ((ip4_Copied.f k bt287.1).bind fun bt295 => ((ip4_Build.f k 0 0 false false 0 0 0 0 0 bt287.1 ([] : List Int)).bind fun bt299 => (if bt291.2 = 0 then (if bt295.2 = 0 then (if bt299.2 = 0 then ((weftlaw3_same.f k bt287.1 bt295.1).bind fun t303 => (if t303 = true then (if (bt287.1.length : Int) ≤ (x0.length : Int) then ((weftlaw3_each.f k bt287.1).bind fun t304 => (some t304)) else (some false)) else (some false))) else (some false)) else (some false)) else (some false)))) else (if bt287.2 = 34 then (if bt291.2 = 34 then (some ((bt287.1.length : Int) == 0)) else (some false)) else (some false)))))
def weftlaw3_Ip4CopiedOnce.f (k : Nat) (l0 : List Int) : Option (Bool) := (ip4_Copied.f k (([131, 3, 4, 1, 7, 3, 4, 130, 4, 9, 9, 0] : List Int))).bind fun bt279 => (if bt279.2 = 0 then ((weftlaw3_same.f k bt279.1 (([131, 3, 4, 130, 4, 9, 9, 0] : List Int))).bind fun t286 => (weftlaw3_Ip4CopiedOnce.j0 k l0 (!t286))) else (weftlaw3_Ip4CopiedOnce.j0 k l0 true))
set_option maxHeartbeats 8000000 in
set_option maxRecDepth 100000 in
theorem weftlaw3_Ip4CopiedOnce.calls (k : Nat) (A0 : Option Addr) (c0 : Nat) (l0 : List Int) (r : Bool) (w : World) (hr0 : Kd.C (Kd.int .u8) w A0 l0.length l0) (hc0 : l0.length ≤ c0) (h : weftlaw3_Ip4CopiedOnce.f k l0 = some r) :
    Calls Try.prog 5 #[.slice A0 l0.length c0] w fun e w' => e = .returned (.bool r) ∧ Below w.heap.size w w' := by
  have hu41 := Try.underlying41
  have hu43 := Try.underlying43
  have HR0 := Aside0.mk hr0
  have HC0 := Aside0.mk hc0
  clear hr0 hc0
  have HB := Aside0.mk (Below.refl w.heap.size w)
  have H : ((ip4_Copied.f k (([131, 3, 4, 1, 7, 3, 4, 130, 4, 9, 9, 0] : List Int))).bind fun bt279 => (if bt279.2 = 0 then ((weftlaw3_same.f k bt279.1 (([131, 3, 4, 130, 4, 9, 9, 0] : List Int))).bind fun t286 => (weftlaw3_Ip4CopiedOnce.j0 k l0 (!t286))) else (weftlaw3_Ip4CopiedOnce.j0 k l0 true))) = some r := h
  clear h
  obtain ⟨y276, hy276⟩ : ∃ y_ : List Int, y_ = (([131, 3, 4, 1, 7, 3, 4, 130, 4, 9, 9, 0] : List Int)) := ⟨_, rfl⟩
  replace H : ((ip4_Copied.f k y276).bind fun bt279 => (if bt279.2 = 0 then ((weftlaw3_same.f k bt279.1 (([131, 3, 4, 130, 4, 9, 9, 0] : List Int))).bind fun t286 => (weftlaw3_Ip4CopiedOnce.j0 k l0 (!t286))) else (weftlaw3_Ip4CopiedOnce.j0 k l0 true))) = some r := by first | (rw [hy276]; with_reducible exact H) | (have H2_ := (Option.bind_some _ _).symm.trans H; rw [hy276]; with_reducible exact H2_) | (have H2_ := (Option.bind_some _ _).symm.trans H; with_reducible exact H2_) | with_reducible exact H | (rw [hy276]; exact H) | exact H
  have Ny276 := Aside0.mk hy276
  clear hy276
  replace H := Option.bind_eq_some_iff.mp H
  obtain ⟨⟨t279, t280⟩, A20, H⟩ := H
  replace H : (if t280 = 0 then ((weftlaw3_same.f k t279 (([131, 3, 4, 130, 4, 9, 9, 0] : List Int))).bind fun t286 => (weftlaw3_Ip4CopiedOnce.j0 k l0 (!t286))) else (weftlaw3_Ip4CopiedOnce.j0 k l0 true)) = some r := H
  have A2 := Aside0.mk A20
  clear A20
  have HC3 := Aside0.mk H
  clear H
  go_enter Try.func5, Try.ntmps5
  go_upto_region 2 with (first | ((with_reducible refine gate_dst (N := 14) rfl ?_); (try (refine gate_guard (by rfl) ?_; dsimp only)); refine Kd.R_lit (Kd.int .u8) _ 5 ?hg (N := 14) ?hd (xs := ([131, 3, 4, 1, 7, 3, 4, 130, 4, 9, 9, 0] : List Int)) (inner := [.int .u8 131, .int .u8 3, .int .u8 4, .int .u8 1, .int .u8 7, .int .u8 3, .int .u8 4, .int .u8 130, .int .u8 4, .int .u8 9, .int .u8 9, .int .u8 0]) (ok := fun _ => True) (okp := fun _ => True) ?hr ?hp (fun _ hk => hk) trivial (Below.refl _ _) (Nat.le_refl _) (by simp) ?_; (case hd => rfl); (case hg => rfl); (case hr => first | (go_simp; done) | (go_simp; rfl)); (case hp => exact (Reps.one (show Kd.M (Kd.int .u8) _ _ _ 131 [.int .u8 131] from rfl) (Reps.one (show Kd.M (Kd.int .u8) _ _ _ 3 [.int .u8 3] from rfl) (Reps.one (show Kd.M (Kd.int .u8) _ _ _ 4 [.int .u8 4] from rfl) (Reps.one (show Kd.M (Kd.int .u8) _ _ _ 1 [.int .u8 1] from rfl) (Reps.one (show Kd.M (Kd.int .u8) _ _ _ 7 [.int .u8 7] from rfl) (Reps.one (show Kd.M (Kd.int .u8) _ _ _ 3 [.int .u8 3] from rfl) (Reps.one (show Kd.M (Kd.int .u8) _ _ _ 4 [.int .u8 4] from rfl) (Reps.one (show Kd.M (Kd.int .u8) _ _ _ 130 [.int .u8 130] from rfl) (Reps.one (show Kd.M (Kd.int .u8) _ _ _ 4 [.int .u8 4] from rfl) (Reps.one (show Kd.M (Kd.int .u8) _ _ _ 9 [.int .u8 9] from rfl) (Reps.one (show Kd.M (Kd.int .u8) _ _ _ 9 [.int .u8 9] from rfl) (Reps.one (show Kd.M (Kd.int .u8) _ _ _ 0 [.int .u8 0] from rfl) (Reps.none _ _)))))))))))))); intro v277 w4 ho5 hb hg_ hnew_; clear hg_ hnew_; (first | rw [← Ny276.out] at ho5 | (simp only [Int.reduceToNat] at ho5; rw [← Ny276.out] at ho5)); have n0_ := Aside0.mk (Kd.R_lower ho5 (below_size zq7_0)); have n1_ := Aside0.mk (below_step zq7_0 hb); clear HB; have HO278 := n0_; have HB := n1_; clear n0_ n1_; clear hb ho5; obtain ⟨Ao6, co6, eo6⟩ := Kd.R_slice HO278.out; subst eo6) | ((with_reducible refine gate_callee (f := 20) rfl ?_); refine goesL_ (some 15) rfl rfl Try.func20 (by kernel_rfl) rfl #[.slice Ao6 y276.length co6] rfl zq7_2 ?_; (with_reducible refine (ip4_Copied.calls k _ _ y276 t279 t280 _ ?side1 ?side2 A2.out).mono ?_); (case side1 => repeat (first | exact (Kd.R_reads' HO278.out).2.2 | (with_reducible refine Kd.C_alloc ?_ _) | (with_reducible refine Kd.C_drewN ?_ _) | (with_reducible refine Kd.C_drew ?_))); (case side2 => exact (Kd.R_reads' HO278.out).2.1); rintro e w7 ⟨v281, rfl, ho0, hb⟩; refine ⟨_, rfl, ?_⟩; have n0_ := Aside0.mk (Kd.R_elder' (by (with_reducible repeat (first | apply Kd.R_alloc | apply Kd.R_drewN | apply Kd.R_drew)); exact HO278.out) (Kd.R_base ho0) hb); have n1_ := Aside0.mk (Kd.R_lower (Kd.R_new' ho0 (Kd.R_lt (by (with_reducible repeat (first | apply Kd.R_alloc | apply Kd.R_drewN | apply Kd.R_drew)); exact HO278.out))) (below_size zq7_0)); have n2_ := Aside0.mk (below_step zq7_0 hb); clear HO278; clear HB; have HO278 := n0_; have HO282 := n1_; have HB := n2_; clear n0_ n1_ n2_; (try clear hb); (try clear hb2); (try clear hk); (try clear hi); (try clear ho0)))
  (try simp only [Act.put, List.setIfInBounds_toArray, List.set_cons_zero, List.set_cons_succ])
  go_cut [25] (fun v25 wc => ∃ (kq : Nat) (x25_2 : Bool), v25 = .bool x25_2 ∧ Aside0 (weftlaw3_Ip4CopiedOnce.j0 kq l0 x25_2 = some r) ∧ Aside0 (kq ≤ k) ∧ Aside0 (Below w.heap.size w wc))
  case first =>
    have H := HC3.out
    clear HC3
    by_cases c8 : t280 = 0
    · rw [if_pos c8] at H
      have c8b0 : (t280 == 0) = true := beq_iff_eq.mpr c8
      have c8b1 : (t280 != 0) = false := bne_eq_false_iff_eq.mpr c8
      clear c8
      (first | rw [c8b0] | (simp only [i64_w, i32_w]; rw [c8b0]) | skip)
      obtain ⟨y283, hy283⟩ : ∃ y_ : List Int, y_ = (([131, 3, 4, 130, 4, 9, 9, 0] : List Int)) := ⟨_, rfl⟩
      replace H : ((weftlaw3_same.f k t279 y283).bind fun t286 => (weftlaw3_Ip4CopiedOnce.j0 k l0 (!t286))) = some r := by first | (rw [hy283]; with_reducible exact H) | (have H2_ := (Option.bind_some _ _).symm.trans H; rw [hy283]; with_reducible exact H2_) | (have H2_ := (Option.bind_some _ _).symm.trans H; with_reducible exact H2_) | with_reducible exact H | (rw [hy283]; exact H) | exact H
      have Ny283 := Aside0.mk hy283
      clear hy283
      replace H := Option.bind_eq_some_iff.mp H
      obtain ⟨t286, A90, H⟩ := H
      replace H : (weftlaw3_Ip4CopiedOnce.j0 k l0 (!t286)) = some r := H
      have A9 := Aside0.mk A90
      clear A90
      have H' := Aside0.mk H
      clear H
      go_wp2_with (first | ((with_reducible refine gate_dst (N := 22) rfl ?_); (try (refine gate_guard (by rfl) ?_; dsimp only)); refine Kd.R_lit (Kd.int .u8) _ 5 ?hg (N := 22) ?hd (xs := ([131, 3, 4, 130, 4, 9, 9, 0] : List Int)) (inner := [.int .u8 131, .int .u8 3, .int .u8 4, .int .u8 130, .int .u8 4, .int .u8 9, .int .u8 9, .int .u8 0]) (ok := fun _ => True) (okp := fun _ => True) ?hr ?hp (fun _ hk => hk) trivial (Below.refl _ _) (Nat.le_refl _) (by simp) ?_; (case hd => rfl); (case hg => rfl); (case hr => first | (go_simp; done) | (go_simp; rfl)); (case hp => exact (Reps.one (show Kd.M (Kd.int .u8) _ _ _ 131 [.int .u8 131] from rfl) (Reps.one (show Kd.M (Kd.int .u8) _ _ _ 3 [.int .u8 3] from rfl) (Reps.one (show Kd.M (Kd.int .u8) _ _ _ 4 [.int .u8 4] from rfl) (Reps.one (show Kd.M (Kd.int .u8) _ _ _ 130 [.int .u8 130] from rfl) (Reps.one (show Kd.M (Kd.int .u8) _ _ _ 4 [.int .u8 4] from rfl) (Reps.one (show Kd.M (Kd.int .u8) _ _ _ 9 [.int .u8 9] from rfl) (Reps.one (show Kd.M (Kd.int .u8) _ _ _ 9 [.int .u8 9] from rfl) (Reps.one (show Kd.M (Kd.int .u8) _ _ _ 0 [.int .u8 0] from rfl) (Reps.none _ _)))))))))); intro v284 w10 ho11 hb hg_ hnew_; clear hg_ hnew_; (first | rw [← Ny283.out] at ho11 | (simp only [Int.reduceToNat] at ho11; rw [← Ny283.out] at ho11)); have n0_ := Aside0.mk (Kd.R_elder' (by (with_reducible repeat (first | apply Kd.R_alloc | apply Kd.R_drewN | apply Kd.R_drew)); exact HO278.out) (Kd.R_base ho11) hb); have n1_ := Aside0.mk (Kd.R_elder' (by (with_reducible repeat (first | apply Kd.R_alloc | apply Kd.R_drewN | apply Kd.R_drew)); exact HO282.out) (Kd.R_base ho11) hb); have n2_ := Aside0.mk (Kd.R_lower (Kd.R_new' (Kd.R_new' ho11 (Kd.R_lt (by (with_reducible repeat (first | apply Kd.R_alloc | apply Kd.R_drewN | apply Kd.R_drew)); exact HO278.out))) (Kd.R_lt (by (with_reducible repeat (first | apply Kd.R_alloc | apply Kd.R_drewN | apply Kd.R_drew)); exact HO282.out))) (below_size zq7_0)); have n3_ := Aside0.mk (below_step zq7_0 hb); clear HO278; clear HO282; clear HB; have HO278 := n0_; have HO282 := n1_; have HO285 := n2_; have HB := n3_; clear n0_ n1_ n2_ n3_; clear hb ho11; obtain ⟨Ao12, co12, eo12⟩ := Kd.R_slice HO282.out; subst eo12; obtain ⟨Ao13, co13, eo13⟩ := Kd.R_slice HO285.out; subst eo13) | (go_at_call 21; (with_reducible refine (weftlaw3_same.calls k _ _ t279 _ _ y283 t286 _ ?side1 ?side2 ?side3 ?side4 A9.out).mono ?_); (case side1 => repeat (first | exact (Kd.R_reads' HO282.out).2.2 | (with_reducible refine Kd.C_alloc ?_ _) | (with_reducible refine Kd.C_drewN ?_ _) | (with_reducible refine Kd.C_drew ?_))); (case side2 => exact (Kd.R_reads' HO282.out).2.1); (case side3 => repeat (first | exact (Kd.R_reads' HO285.out).2.2 | (with_reducible refine Kd.C_alloc ?_ _) | (with_reducible refine Kd.C_drewN ?_ _) | (with_reducible refine Kd.C_drew ?_))); (case side4 => exact (Kd.R_reads' HO285.out).2.1); rintro e w' ⟨rfl, ⟨nd, rfl⟩⟩))
      go_meet
      case rel => exact ⟨_, (!t286), (by first | rfl | (simp; done) | (simp [*]; done)), H', ⟨by first | omega | exact Nat.le_refl _⟩, ⟨by repeat (first | (with_reducible first | exact HB.out | apply below_alloc | apply pw_below_drewN | apply below_drew1) | exact HB.out)⟩⟩
    · rw [if_neg c8] at H
      have c8b0 : (t280 == 0) = false := beq_eq_false_iff_ne.mpr c8
      have c8b1 : (t280 != 0) = true := bne_iff_ne.mpr c8
      (first | rw [c8b0] | (simp only [i64_w, i32_w]; rw [c8b0]) | skip)
      have H' := Aside0.mk H
      clear H
      go_wp2
      go_meet
      case rel => exact ⟨_, (true), (by first | rfl | (simp; done) | (simp [*]; done)), H', ⟨by first | omega | exact Nat.le_refl _⟩, ⟨by repeat (first | (with_reducible first | exact HB.out | apply below_alloc | apply pw_below_drewN | apply below_drew1) | exact HB.out)⟩⟩
  case rest =>
    clear HC3
    try clear c2
    try clear p2
    try clear p4
    try clear c5
    try clear c8
    try clear c8b0
    try clear c8b1
    obtain ⟨kq, x25_2, rfl, HA, HJ2, HB⟩ := hcut
    cases kq with
    | zero => exact absurd HA.out (by simp [weftlaw3_Ip4CopiedOnce.j0])
    | succ kj2 =>
      have H := HA.out
      clear HA
      simp only [weftlaw3_Ip4CopiedOnce.j0] at H
      by_cases c14 : x25_2 = true
      · subst c14
        have H1 : (some false) = some r := by rw [if_pos rfl] at H; exact H
        clear H
        have H := H1
        clear H1
        obtain rfl := Option.some.inj H
        go_wp2
        go_ret
        exact ⟨by first | rfl | (simp [errW_none, errW_some] <;> rfl) | (simp [*, errW_none, errW_some] <;> rfl), by repeat (first | (with_reducible first | exact HB.out | apply below_alloc | apply pw_below_drewN | apply below_drew1) | exact HB.out)⟩
      · replace c14 := Bool.eq_false_iff.mpr c14
        subst c14
        have H1 : ((ip4_Copied.f kj2 l0).bind fun bt287 => ((ip4_Build.f kj2 0 0 false false 0 0 0 0 0 l0 ([] : List Int)).bind fun bt291 => (if bt287.2 = 0 then ((ip4_Copied.f kj2 bt287.1).bind fun bt295 => ((ip4_Build.f kj2 0 0 false false 0 0 0 0 0 bt287.1 ([] : List Int)).bind fun bt299 => (if bt291.2 = 0 then (if bt295.2 = 0 then (if bt299.2 = 0 then ((weftlaw3_same.f kj2 bt287.1 bt295.1).bind fun t303 => (if t303 = true then (if (bt287.1.length : Int) ≤ (l0.length : Int) then ((weftlaw3_each.f kj2 bt287.1).bind fun t304 => (some t304)) else (some false)) else (some false))) else (some false)) else (some false)) else (some false)))) else (if bt287.2 = 34 then (if bt291.2 = 34 then (some ((bt287.1.length : Int) == 0)) else (some false)) else (some false))))) = some r := by rw [if_neg (show ¬ (false = true) by decide)] at H; exact H
        clear H
        have H := H1
        clear H1
        replace H := Option.bind_eq_some_iff.mp H
        obtain ⟨⟨t287, t288⟩, A150, H⟩ := H
        replace H : ((ip4_Build.f kj2 0 0 false false 0 0 0 0 0 l0 ([] : List Int)).bind fun bt291 => (if t288 = 0 then ((ip4_Copied.f kj2 t287).bind fun bt295 => ((ip4_Build.f kj2 0 0 false false 0 0 0 0 0 t287 ([] : List Int)).bind fun bt299 => (if bt291.2 = 0 then (if bt295.2 = 0 then (if bt299.2 = 0 then ((weftlaw3_same.f kj2 t287 bt295.1).bind fun t303 => (if t303 = true then (if (t287.length : Int) ≤ (l0.length : Int) then ((weftlaw3_each.f kj2 t287).bind fun t304 => (some t304)) else (some false)) else (some false))) else (some false)) else (some false)) else (some false)))) else (if t288 = 34 then (if bt291.2 = 34 then (some ((t287.length : Int) == 0)) else (some false)) else (some false)))) = some r := H
        have A15 := Aside0.mk A150
        clear A150
        replace H := Option.bind_eq_some_iff.mp H
        obtain ⟨⟨t291, t294⟩, A160, H⟩ := H
        replace H : (if t288 = 0 then ((ip4_Copied.f kj2 t287).bind fun bt295 => ((ip4_Build.f kj2 0 0 false false 0 0 0 0 0 t287 ([] : List Int)).bind fun bt299 => (if t294 = 0 then (if bt295.2 = 0 then (if bt299.2 = 0 then ((weftlaw3_same.f kj2 t287 bt295.1).bind fun t303 => (if t303 = true then (if (t287.length : Int) ≤ (l0.length : Int) then ((weftlaw3_each.f kj2 t287).bind fun t304 => (some t304)) else (some false)) else (some false))) else (some false)) else (some false)) else (some false)))) else (if t288 = 34 then (if t294 = 34 then (some ((t287.length : Int) == 0)) else (some false)) else (some false))) = some r := H
        have A16 := Aside0.mk A160
        clear A160
        by_cases c17 : t288 = 0
        · rw [if_pos c17] at H
          have c17b0 : (t288 == 0) = true := beq_iff_eq.mpr c17
          have c17b1 : (t288 != 0) = false := bne_eq_false_iff_eq.mpr c17
          clear c17
          replace H := Option.bind_eq_some_iff.mp H
          obtain ⟨⟨t295, t296⟩, A180, H⟩ := H
          replace H : ((ip4_Build.f kj2 0 0 false false 0 0 0 0 0 t287 ([] : List Int)).bind fun bt299 => (if t294 = 0 then (if t296 = 0 then (if bt299.2 = 0 then ((weftlaw3_same.f kj2 t287 t295).bind fun t303 => (if t303 = true then (if (t287.length : Int) ≤ (l0.length : Int) then ((weftlaw3_each.f kj2 t287).bind fun t304 => (some t304)) else (some false)) else (some false))) else (some false)) else (some false)) else (some false))) = some r := H
          have A18 := Aside0.mk A180
          clear A180
          replace H := Option.bind_eq_some_iff.mp H
          obtain ⟨⟨t299, t302⟩, A190, H⟩ := H
          replace H : (if t294 = 0 then (if t296 = 0 then (if t302 = 0 then ((weftlaw3_same.f kj2 t287 t295).bind fun t303 => (if t303 = true then (if (t287.length : Int) ≤ (l0.length : Int) then ((weftlaw3_each.f kj2 t287).bind fun t304 => (some t304)) else (some false)) else (some false))) else (some false)) else (some false)) else (some false)) = some r := H
          have A19 := Aside0.mk A190
          clear A190
          by_cases c20 : t294 = 0
          · rw [if_pos c20] at H
            have c20b0 : (t294 == 0) = true := beq_iff_eq.mpr c20
            have c20b1 : (t294 != 0) = false := bne_eq_false_iff_eq.mpr c20
            clear c20
            by_cases c21 : t296 = 0
            · rw [if_pos c21] at H
              have c21b0 : (t296 == 0) = true := beq_iff_eq.mpr c21
              have c21b1 : (t296 != 0) = false := bne_eq_false_iff_eq.mpr c21
              clear c21
              by_cases c22 : t302 = 0
              · rw [if_pos c22] at H
                have c22b0 : (t302 == 0) = true := beq_iff_eq.mpr c22
                have c22b1 : (t302 != 0) = false := bne_eq_false_iff_eq.mpr c22
                clear c22
                replace H := Option.bind_eq_some_iff.mp H
                obtain ⟨t303, A230, H⟩ := H
                replace H : (if t303 = true then (if (t287.length : Int) ≤ (l0.length : Int) then ((weftlaw3_each.f kj2 t287).bind fun t304 => (some t304)) else (some false)) else (some false)) = some r := H
                have A23 := Aside0.mk A230
                clear A230
                by_cases c24 : t303 = true
                · subst c24
                  have H1 : (if (t287.length : Int) ≤ (l0.length : Int) then ((weftlaw3_each.f kj2 t287).bind fun t304 => (some t304)) else (some false)) = some r := by rw [if_pos rfl] at H; exact H
                  clear H
                  have H := H1
                  clear H1
                  by_cases c25 : (t287.length : Int) ≤ (l0.length : Int)
                  · rw [if_pos c25] at H
                    have c25b0 : decide ((t287.length : Int) ≤ (l0.length : Int)) = true := decide_eq_true c25
                    have c25b1 : decide (t287.length ≤ l0.length) = true := decide_eq_true (Int.ofNat_le.mp c25)
                    clear c25
                    replace H := Option.bind_eq_some_iff.mp H
                    obtain ⟨t304, A260, H⟩ := H
                    replace H : (some t304) = some r := H
                    have A26 := Aside0.mk A260
                    clear A260
                    obtain rfl := Option.some.inj H
                    go_wp2_with (first | ((with_reducible refine gate_callee (f := 20) rfl ?_); refine goesL_ (some 28) rfl rfl Try.func20 (by kernel_rfl) rfl #[.slice A0 l0.length c0] rfl zq7_2 ?_; (with_reducible refine (ip4_Copied.calls kj2 _ _ l0 t287 t288 _ ?side1 ?side2 A15.out).mono ?_); (case side1 => repeat (first | exact (Kd.C_below HR0.out HB.out) | (with_reducible refine Kd.C_alloc ?_ _) | (with_reducible refine Kd.C_drewN ?_ _) | (with_reducible refine Kd.C_drew ?_))); (case side2 => exact HC0.out); rintro e w27 ⟨v289, rfl, ho0, hb⟩; refine ⟨_, rfl, ?_⟩; have n0_ := Aside0.mk (Kd.R_lower ho0 (below_size zq7_0)); have n1_ := Aside0.mk (below_step zq7_0 hb); clear HB; have HO290 := n0_; have HB := n1_; clear n0_ n1_; (try clear hb); (try clear hb2); (try clear hk); (try clear hi); (try clear ho0)) | ((with_reducible refine gate_callee (f := 22) rfl ?_); refine goesL_ (some 35) rfl rfl Try.func22 (by kernel_rfl) rfl #[.agg #[.int .u8 0, .int .u16 0, .bool false, .bool false, .int .i64 0, .int .u8 0, .int .u8 0, .int .u32 0, .int .u32 0, .slice A0 l0.length c0, .slice none 0 0]] rfl zq7_2 ?_; (refine (ip4_Build.calls kj2 0 0 false false 0 0 0 0 0 _ _ l0 _ _ ([] : List Int) t291 t294 _ ?side1 ?side2 ?side3 ?side4 A16.out).mono ?_); (case side1 => repeat (first | exact (Kd.C_below HR0.out HB.out) | (with_reducible refine Kd.C_alloc ?_ _) | (with_reducible refine Kd.C_drewN ?_ _) | (with_reducible refine Kd.C_drew ?_))); (case side2 => exact HC0.out); (case side3 => exact Kd.C_nil _ _); (case side4 => exact Nat.le_refl _); rintro e w28 ⟨v292, rfl, ho0, hb⟩; refine ⟨_, rfl, ?_⟩; have n0_ := Aside0.mk (Kd.R_elder' zq7_1 (Kd.R_base ho0) hb); have n1_ := Aside0.mk (Kd.R_lower (Kd.R_new' ho0 (Kd.R_lt zq7_1)) (below_size zq7_0)); have n2_ := Aside0.mk (below_step zq7_0 hb); clear HO290; clear HB; have HO290 := n0_; have HO293 := n1_; have HB := n2_; clear n0_ n1_ n2_; (try clear hb); (try clear hb2); (try clear hk); (try clear hi); (try clear ho0); obtain ⟨Ao29, co29, eo29⟩ := Kd.R_slice HO290.out; subst eo29) | ((with_reducible refine gate_callee (f := 20) rfl ?_); refine goesL_ (some 53) rfl rfl Try.func20 (by kernel_rfl) rfl #[.slice Ao29 t287.length co29] rfl zq7_2 ?_; (with_reducible refine (ip4_Copied.calls kj2 _ _ t287 t295 t296 _ ?side1 ?side2 A18.out).mono ?_); (case side1 => repeat (first | exact (Kd.R_reads' HO290.out).2.2 | (with_reducible refine Kd.C_alloc ?_ _) | (with_reducible refine Kd.C_drewN ?_ _) | (with_reducible refine Kd.C_drew ?_))); (case side2 => exact (Kd.R_reads' HO290.out).2.1); rintro e w30 ⟨v297, rfl, ho0, hb⟩; refine ⟨_, rfl, ?_⟩; have n0_ := Aside0.mk (Kd.R_elder' zq7_1 (Kd.R_base ho0) hb); have n1_ := Aside0.mk (Kd.R_elder' zq7_3 (Kd.R_base ho0) hb); have n2_ := Aside0.mk (Kd.R_lower (Kd.R_new' (Kd.R_new' ho0 (Kd.R_lt zq7_1)) (Kd.R_lt zq7_3)) (below_size zq7_0)); have n3_ := Aside0.mk (below_step zq7_0 hb); clear HO290; clear HO293; clear HB; have HO290 := n0_; have HO293 := n1_; have HO298 := n2_; have HB := n3_; clear n0_ n1_ n2_ n3_; (try clear hb); (try clear hb2); (try clear hk); (try clear hi); (try clear ho0)) | ((with_reducible refine gate_callee (f := 22) rfl ?_); refine goesL_ (some 60) rfl rfl Try.func22 (by kernel_rfl) rfl #[.agg #[.int .u8 0, .int .u16 0, .bool false, .bool false, .int .i64 0, .int .u8 0, .int .u8 0, .int .u32 0, .int .u32 0, .slice Ao29 t287.length co29, .slice none 0 0]] rfl zq7_2 ?_; (refine (ip4_Build.calls kj2 0 0 false false 0 0 0 0 0 _ _ t287 _ _ ([] : List Int) t299 t302 _ ?side1 ?side2 ?side3 ?side4 A19.out).mono ?_); (case side1 => repeat (first | exact (Kd.R_reads' HO290.out).2.2 | (with_reducible refine Kd.C_alloc ?_ _) | (with_reducible refine Kd.C_drewN ?_ _) | (with_reducible refine Kd.C_drew ?_))); (case side2 => exact (Kd.R_reads' HO290.out).2.1); (case side3 => exact Kd.C_nil _ _); (case side4 => exact Nat.le_refl _); rintro e w31 ⟨v300, rfl, ho0, hb⟩; refine ⟨_, rfl, ?_⟩; have n0_ := Aside0.mk (Kd.R_elder' zq7_1 (Kd.R_base ho0) hb); have n1_ := Aside0.mk (Kd.R_elder' zq7_3 (Kd.R_base ho0) hb); have n2_ := Aside0.mk (Kd.R_elder' zq7_4 (Kd.R_base ho0) hb); have n3_ := Aside0.mk (Kd.R_lower (Kd.R_new' (Kd.R_new' (Kd.R_new' ho0 (Kd.R_lt zq7_1)) (Kd.R_lt zq7_3)) (Kd.R_lt zq7_4)) (below_size zq7_0)); have n4_ := Aside0.mk (below_step zq7_0 hb); clear HO290; clear HO293; clear HO298; clear HB; have HO290 := n0_; have HO293 := n1_; have HO298 := n2_; have HO301 := n3_; have HB := n4_; clear n0_ n1_ n2_ n3_ n4_; (try clear hb); (try clear hb2); (try clear hk); (try clear hi); (try clear ho0); obtain ⟨Ao32, co32, eo32⟩ := Kd.R_slice HO298.out; subst eo32) | (go_at_call 21; (with_reducible refine (weftlaw3_same.calls kj2 _ _ t287 _ _ t295 true _ ?side1 ?side2 ?side3 ?side4 A23.out).mono ?_); (case side1 => repeat (first | exact (Kd.R_reads' HO290.out).2.2 | (with_reducible refine Kd.C_alloc ?_ _) | (with_reducible refine Kd.C_drewN ?_ _) | (with_reducible refine Kd.C_drew ?_))); (case side2 => exact (Kd.R_reads' HO290.out).2.1); (case side3 => repeat (first | exact (Kd.R_reads' HO298.out).2.2 | (with_reducible refine Kd.C_alloc ?_ _) | (with_reducible refine Kd.C_drewN ?_ _) | (with_reducible refine Kd.C_drew ?_))); (case side4 => exact (Kd.R_reads' HO298.out).2.1); rintro e w' ⟨rfl, ⟨nd, rfl⟩⟩) | (go_at_call 23; (with_reducible refine (weftlaw3_each.calls kj2 _ _ t287 t304 _ ?side1 ?side2 A26.out).mono ?_); (case side1 => repeat (first | exact (Kd.R_reads' HO290.out).2.2 | (with_reducible refine Kd.C_alloc ?_ _) | (with_reducible refine Kd.C_drewN ?_ _) | (with_reducible refine Kd.C_drew ?_))); (case side2 => exact (Kd.R_reads' HO290.out).2.1); rintro e w' ⟨rfl, ⟨nd, rfl⟩⟩))
                    go_ret
                    exact ⟨by first | rfl | (simp [errW_none, errW_some] <;> rfl) | (simp [*, errW_none, errW_some] <;> rfl), by repeat (first | (with_reducible first | exact HB.out | apply below_alloc | apply pw_below_drewN | apply below_drew1) | exact HB.out)⟩
                  · rw [if_neg c25] at H
                    have c25b0 : decide ((t287.length : Int) ≤ (l0.length : Int)) = false := decide_eq_false c25
                    have c25b1 : decide (t287.length ≤ l0.length) = false := decide_eq_false (fun h => c25 (Int.ofNat_le.mpr h))
                    clear c25
                    obtain rfl := Option.some.inj H
                    go_wp2_with (first | ((with_reducible refine gate_callee (f := 20) rfl ?_); refine goesL_ (some 28) rfl rfl Try.func20 (by kernel_rfl) rfl #[.slice A0 l0.length c0] rfl zq7_2 ?_; (with_reducible refine (ip4_Copied.calls kj2 _ _ l0 t287 t288 _ ?side1 ?side2 A15.out).mono ?_); (case side1 => repeat (first | exact (Kd.C_below HR0.out HB.out) | (with_reducible refine Kd.C_alloc ?_ _) | (with_reducible refine Kd.C_drewN ?_ _) | (with_reducible refine Kd.C_drew ?_))); (case side2 => exact HC0.out); rintro e w33 ⟨v289, rfl, ho0, hb⟩; refine ⟨_, rfl, ?_⟩; have n0_ := Aside0.mk (Kd.R_lower ho0 (below_size zq7_0)); have n1_ := Aside0.mk (below_step zq7_0 hb); clear HB; have HO290 := n0_; have HB := n1_; clear n0_ n1_; (try clear hb); (try clear hb2); (try clear hk); (try clear hi); (try clear ho0)) | ((with_reducible refine gate_callee (f := 22) rfl ?_); refine goesL_ (some 35) rfl rfl Try.func22 (by kernel_rfl) rfl #[.agg #[.int .u8 0, .int .u16 0, .bool false, .bool false, .int .i64 0, .int .u8 0, .int .u8 0, .int .u32 0, .int .u32 0, .slice A0 l0.length c0, .slice none 0 0]] rfl zq7_2 ?_; (refine (ip4_Build.calls kj2 0 0 false false 0 0 0 0 0 _ _ l0 _ _ ([] : List Int) t291 t294 _ ?side1 ?side2 ?side3 ?side4 A16.out).mono ?_); (case side1 => repeat (first | exact (Kd.C_below HR0.out HB.out) | (with_reducible refine Kd.C_alloc ?_ _) | (with_reducible refine Kd.C_drewN ?_ _) | (with_reducible refine Kd.C_drew ?_))); (case side2 => exact HC0.out); (case side3 => exact Kd.C_nil _ _); (case side4 => exact Nat.le_refl _); rintro e w34 ⟨v292, rfl, ho0, hb⟩; refine ⟨_, rfl, ?_⟩; have n0_ := Aside0.mk (Kd.R_elder' zq7_1 (Kd.R_base ho0) hb); have n1_ := Aside0.mk (Kd.R_lower (Kd.R_new' ho0 (Kd.R_lt zq7_1)) (below_size zq7_0)); have n2_ := Aside0.mk (below_step zq7_0 hb); clear HO290; clear HB; have HO290 := n0_; have HO293 := n1_; have HB := n2_; clear n0_ n1_ n2_; (try clear hb); (try clear hb2); (try clear hk); (try clear hi); (try clear ho0); obtain ⟨Ao35, co35, eo35⟩ := Kd.R_slice HO290.out; subst eo35) | ((with_reducible refine gate_callee (f := 20) rfl ?_); refine goesL_ (some 53) rfl rfl Try.func20 (by kernel_rfl) rfl #[.slice Ao35 t287.length co35] rfl zq7_2 ?_; (with_reducible refine (ip4_Copied.calls kj2 _ _ t287 t295 t296 _ ?side1 ?side2 A18.out).mono ?_); (case side1 => repeat (first | exact (Kd.R_reads' HO290.out).2.2 | (with_reducible refine Kd.C_alloc ?_ _) | (with_reducible refine Kd.C_drewN ?_ _) | (with_reducible refine Kd.C_drew ?_))); (case side2 => exact (Kd.R_reads' HO290.out).2.1); rintro e w36 ⟨v297, rfl, ho0, hb⟩; refine ⟨_, rfl, ?_⟩; have n0_ := Aside0.mk (Kd.R_elder' zq7_1 (Kd.R_base ho0) hb); have n1_ := Aside0.mk (Kd.R_elder' zq7_3 (Kd.R_base ho0) hb); have n2_ := Aside0.mk (Kd.R_lower (Kd.R_new' (Kd.R_new' ho0 (Kd.R_lt zq7_1)) (Kd.R_lt zq7_3)) (below_size zq7_0)); have n3_ := Aside0.mk (below_step zq7_0 hb); clear HO290; clear HO293; clear HB; have HO290 := n0_; have HO293 := n1_; have HO298 := n2_; have HB := n3_; clear n0_ n1_ n2_ n3_; (try clear hb); (try clear hb2); (try clear hk); (try clear hi); (try clear ho0)) | ((with_reducible refine gate_callee (f := 22) rfl ?_); refine goesL_ (some 60) rfl rfl Try.func22 (by kernel_rfl) rfl #[.agg #[.int .u8 0, .int .u16 0, .bool false, .bool false, .int .i64 0, .int .u8 0, .int .u8 0, .int .u32 0, .int .u32 0, .slice Ao35 t287.length co35, .slice none 0 0]] rfl zq7_2 ?_; (refine (ip4_Build.calls kj2 0 0 false false 0 0 0 0 0 _ _ t287 _ _ ([] : List Int) t299 t302 _ ?side1 ?side2 ?side3 ?side4 A19.out).mono ?_); (case side1 => repeat (first | exact (Kd.R_reads' HO290.out).2.2 | (with_reducible refine Kd.C_alloc ?_ _) | (with_reducible refine Kd.C_drewN ?_ _) | (with_reducible refine Kd.C_drew ?_))); (case side2 => exact (Kd.R_reads' HO290.out).2.1); (case side3 => exact Kd.C_nil _ _); (case side4 => exact Nat.le_refl _); rintro e w37 ⟨v300, rfl, ho0, hb⟩; refine ⟨_, rfl, ?_⟩; have n0_ := Aside0.mk (Kd.R_elder' zq7_1 (Kd.R_base ho0) hb); have n1_ := Aside0.mk (Kd.R_elder' zq7_3 (Kd.R_base ho0) hb); have n2_ := Aside0.mk (Kd.R_elder' zq7_4 (Kd.R_base ho0) hb); have n3_ := Aside0.mk (Kd.R_lower (Kd.R_new' (Kd.R_new' (Kd.R_new' ho0 (Kd.R_lt zq7_1)) (Kd.R_lt zq7_3)) (Kd.R_lt zq7_4)) (below_size zq7_0)); have n4_ := Aside0.mk (below_step zq7_0 hb); clear HO290; clear HO293; clear HO298; clear HB; have HO290 := n0_; have HO293 := n1_; have HO298 := n2_; have HO301 := n3_; have HB := n4_; clear n0_ n1_ n2_ n3_ n4_; (try clear hb); (try clear hb2); (try clear hk); (try clear hi); (try clear ho0); obtain ⟨Ao38, co38, eo38⟩ := Kd.R_slice HO298.out; subst eo38) | (go_at_call 21; (with_reducible refine (weftlaw3_same.calls kj2 _ _ t287 _ _ t295 true _ ?side1 ?side2 ?side3 ?side4 A23.out).mono ?_); (case side1 => repeat (first | exact (Kd.R_reads' HO290.out).2.2 | (with_reducible refine Kd.C_alloc ?_ _) | (with_reducible refine Kd.C_drewN ?_ _) | (with_reducible refine Kd.C_drew ?_))); (case side2 => exact (Kd.R_reads' HO290.out).2.1); (case side3 => repeat (first | exact (Kd.R_reads' HO298.out).2.2 | (with_reducible refine Kd.C_alloc ?_ _) | (with_reducible refine Kd.C_drewN ?_ _) | (with_reducible refine Kd.C_drew ?_))); (case side4 => exact (Kd.R_reads' HO298.out).2.1); rintro e w' ⟨rfl, ⟨nd, rfl⟩⟩))
                    go_ret
                    exact ⟨by first | rfl | (simp [errW_none, errW_some] <;> rfl) | (simp [*, errW_none, errW_some] <;> rfl), by repeat (first | (with_reducible first | exact HB.out | apply below_alloc | apply pw_below_drewN | apply below_drew1) | exact HB.out)⟩
                · replace c24 := Bool.eq_false_iff.mpr c24
                  subst c24
                  have H1 : (some false) = some r := by rw [if_neg (show ¬ (false = true) by decide)] at H; exact H
                  clear H
                  have H := H1
                  clear H1
                  obtain rfl := Option.some.inj H
                  go_wp2_with (first | ((with_reducible refine gate_callee (f := 20) rfl ?_); refine goesL_ (some 28) rfl rfl Try.func20 (by kernel_rfl) rfl #[.slice A0 l0.length c0] rfl zq7_2 ?_; (with_reducible refine (ip4_Copied.calls kj2 _ _ l0 t287 t288 _ ?side1 ?side2 A15.out).mono ?_); (case side1 => repeat (first | exact (Kd.C_below HR0.out HB.out) | (with_reducible refine Kd.C_alloc ?_ _) | (with_reducible refine Kd.C_drewN ?_ _) | (with_reducible refine Kd.C_drew ?_))); (case side2 => exact HC0.out); rintro e w39 ⟨v289, rfl, ho0, hb⟩; refine ⟨_, rfl, ?_⟩; have n0_ := Aside0.mk (Kd.R_lower ho0 (below_size zq7_0)); have n1_ := Aside0.mk (below_step zq7_0 hb); clear HB; have HO290 := n0_; have HB := n1_; clear n0_ n1_; (try clear hb); (try clear hb2); (try clear hk); (try clear hi); (try clear ho0)) | ((with_reducible refine gate_callee (f := 22) rfl ?_); refine goesL_ (some 35) rfl rfl Try.func22 (by kernel_rfl) rfl #[.agg #[.int .u8 0, .int .u16 0, .bool false, .bool false, .int .i64 0, .int .u8 0, .int .u8 0, .int .u32 0, .int .u32 0, .slice A0 l0.length c0, .slice none 0 0]] rfl zq7_2 ?_; (refine (ip4_Build.calls kj2 0 0 false false 0 0 0 0 0 _ _ l0 _ _ ([] : List Int) t291 t294 _ ?side1 ?side2 ?side3 ?side4 A16.out).mono ?_); (case side1 => repeat (first | exact (Kd.C_below HR0.out HB.out) | (with_reducible refine Kd.C_alloc ?_ _) | (with_reducible refine Kd.C_drewN ?_ _) | (with_reducible refine Kd.C_drew ?_))); (case side2 => exact HC0.out); (case side3 => exact Kd.C_nil _ _); (case side4 => exact Nat.le_refl _); rintro e w40 ⟨v292, rfl, ho0, hb⟩; refine ⟨_, rfl, ?_⟩; have n0_ := Aside0.mk (Kd.R_elder' zq7_1 (Kd.R_base ho0) hb); have n1_ := Aside0.mk (Kd.R_lower (Kd.R_new' ho0 (Kd.R_lt zq7_1)) (below_size zq7_0)); have n2_ := Aside0.mk (below_step zq7_0 hb); clear HO290; clear HB; have HO290 := n0_; have HO293 := n1_; have HB := n2_; clear n0_ n1_ n2_; (try clear hb); (try clear hb2); (try clear hk); (try clear hi); (try clear ho0); obtain ⟨Ao41, co41, eo41⟩ := Kd.R_slice HO290.out; subst eo41) | ((with_reducible refine gate_callee (f := 20) rfl ?_); refine goesL_ (some 53) rfl rfl Try.func20 (by kernel_rfl) rfl #[.slice Ao41 t287.length co41] rfl zq7_2 ?_; (with_reducible refine (ip4_Copied.calls kj2 _ _ t287 t295 t296 _ ?side1 ?side2 A18.out).mono ?_); (case side1 => repeat (first | exact (Kd.R_reads' HO290.out).2.2 | (with_reducible refine Kd.C_alloc ?_ _) | (with_reducible refine Kd.C_drewN ?_ _) | (with_reducible refine Kd.C_drew ?_))); (case side2 => exact (Kd.R_reads' HO290.out).2.1); rintro e w42 ⟨v297, rfl, ho0, hb⟩; refine ⟨_, rfl, ?_⟩; have n0_ := Aside0.mk (Kd.R_elder' zq7_1 (Kd.R_base ho0) hb); have n1_ := Aside0.mk (Kd.R_elder' zq7_3 (Kd.R_base ho0) hb); have n2_ := Aside0.mk (Kd.R_lower (Kd.R_new' (Kd.R_new' ho0 (Kd.R_lt zq7_1)) (Kd.R_lt zq7_3)) (below_size zq7_0)); have n3_ := Aside0.mk (below_step zq7_0 hb); clear HO290; clear HO293; clear HB; have HO290 := n0_; have HO293 := n1_; have HO298 := n2_; have HB := n3_; clear n0_ n1_ n2_ n3_; (try clear hb); (try clear hb2); (try clear hk); (try clear hi); (try clear ho0)) | ((with_reducible refine gate_callee (f := 22) rfl ?_); refine goesL_ (some 60) rfl rfl Try.func22 (by kernel_rfl) rfl #[.agg #[.int .u8 0, .int .u16 0, .bool false, .bool false, .int .i64 0, .int .u8 0, .int .u8 0, .int .u32 0, .int .u32 0, .slice Ao41 t287.length co41, .slice none 0 0]] rfl zq7_2 ?_; (refine (ip4_Build.calls kj2 0 0 false false 0 0 0 0 0 _ _ t287 _ _ ([] : List Int) t299 t302 _ ?side1 ?side2 ?side3 ?side4 A19.out).mono ?_); (case side1 => repeat (first | exact (Kd.R_reads' HO290.out).2.2 | (with_reducible refine Kd.C_alloc ?_ _) | (with_reducible refine Kd.C_drewN ?_ _) | (with_reducible refine Kd.C_drew ?_))); (case side2 => exact (Kd.R_reads' HO290.out).2.1); (case side3 => exact Kd.C_nil _ _); (case side4 => exact Nat.le_refl _); rintro e w43 ⟨v300, rfl, ho0, hb⟩; refine ⟨_, rfl, ?_⟩; have n0_ := Aside0.mk (Kd.R_elder' zq7_1 (Kd.R_base ho0) hb); have n1_ := Aside0.mk (Kd.R_elder' zq7_3 (Kd.R_base ho0) hb); have n2_ := Aside0.mk (Kd.R_elder' zq7_4 (Kd.R_base ho0) hb); have n3_ := Aside0.mk (Kd.R_lower (Kd.R_new' (Kd.R_new' (Kd.R_new' ho0 (Kd.R_lt zq7_1)) (Kd.R_lt zq7_3)) (Kd.R_lt zq7_4)) (below_size zq7_0)); have n4_ := Aside0.mk (below_step zq7_0 hb); clear HO290; clear HO293; clear HO298; clear HB; have HO290 := n0_; have HO293 := n1_; have HO298 := n2_; have HO301 := n3_; have HB := n4_; clear n0_ n1_ n2_ n3_ n4_; (try clear hb); (try clear hb2); (try clear hk); (try clear hi); (try clear ho0); obtain ⟨Ao44, co44, eo44⟩ := Kd.R_slice HO298.out; subst eo44) | (go_at_call 21; (with_reducible refine (weftlaw3_same.calls kj2 _ _ t287 _ _ t295 false _ ?side1 ?side2 ?side3 ?side4 A23.out).mono ?_); (case side1 => repeat (first | exact (Kd.R_reads' HO290.out).2.2 | (with_reducible refine Kd.C_alloc ?_ _) | (with_reducible refine Kd.C_drewN ?_ _) | (with_reducible refine Kd.C_drew ?_))); (case side2 => exact (Kd.R_reads' HO290.out).2.1); (case side3 => repeat (first | exact (Kd.R_reads' HO298.out).2.2 | (with_reducible refine Kd.C_alloc ?_ _) | (with_reducible refine Kd.C_drewN ?_ _) | (with_reducible refine Kd.C_drew ?_))); (case side4 => exact (Kd.R_reads' HO298.out).2.1); rintro e w' ⟨rfl, ⟨nd, rfl⟩⟩))
                  go_ret
                  exact ⟨by first | rfl | (simp [errW_none, errW_some] <;> rfl) | (simp [*, errW_none, errW_some] <;> rfl), by repeat (first | (with_reducible first | exact HB.out | apply below_alloc | apply pw_below_drewN | apply below_drew1) | exact HB.out)⟩
              · rw [if_neg c22] at H
                have c22b0 : (t302 == 0) = false := beq_eq_false_iff_ne.mpr c22
                have c22b1 : (t302 != 0) = true := bne_iff_ne.mpr c22
                obtain rfl := Option.some.inj H
                go_wp2_with (first | ((with_reducible refine gate_callee (f := 20) rfl ?_); refine goesL_ (some 28) rfl rfl Try.func20 (by kernel_rfl) rfl #[.slice A0 l0.length c0] rfl zq7_2 ?_; (with_reducible refine (ip4_Copied.calls kj2 _ _ l0 t287 t288 _ ?side1 ?side2 A15.out).mono ?_); (case side1 => repeat (first | exact (Kd.C_below HR0.out HB.out) | (with_reducible refine Kd.C_alloc ?_ _) | (with_reducible refine Kd.C_drewN ?_ _) | (with_reducible refine Kd.C_drew ?_))); (case side2 => exact HC0.out); rintro e w45 ⟨v289, rfl, ho0, hb⟩; refine ⟨_, rfl, ?_⟩; have n0_ := Aside0.mk (Kd.R_lower ho0 (below_size zq7_0)); have n1_ := Aside0.mk (below_step zq7_0 hb); clear HB; have HO290 := n0_; have HB := n1_; clear n0_ n1_; (try clear hb); (try clear hb2); (try clear hk); (try clear hi); (try clear ho0)) | ((with_reducible refine gate_callee (f := 22) rfl ?_); refine goesL_ (some 35) rfl rfl Try.func22 (by kernel_rfl) rfl #[.agg #[.int .u8 0, .int .u16 0, .bool false, .bool false, .int .i64 0, .int .u8 0, .int .u8 0, .int .u32 0, .int .u32 0, .slice A0 l0.length c0, .slice none 0 0]] rfl zq7_2 ?_; (refine (ip4_Build.calls kj2 0 0 false false 0 0 0 0 0 _ _ l0 _ _ ([] : List Int) t291 t294 _ ?side1 ?side2 ?side3 ?side4 A16.out).mono ?_); (case side1 => repeat (first | exact (Kd.C_below HR0.out HB.out) | (with_reducible refine Kd.C_alloc ?_ _) | (with_reducible refine Kd.C_drewN ?_ _) | (with_reducible refine Kd.C_drew ?_))); (case side2 => exact HC0.out); (case side3 => exact Kd.C_nil _ _); (case side4 => exact Nat.le_refl _); rintro e w46 ⟨v292, rfl, ho0, hb⟩; refine ⟨_, rfl, ?_⟩; have n0_ := Aside0.mk (Kd.R_elder' zq7_1 (Kd.R_base ho0) hb); have n1_ := Aside0.mk (Kd.R_lower (Kd.R_new' ho0 (Kd.R_lt zq7_1)) (below_size zq7_0)); have n2_ := Aside0.mk (below_step zq7_0 hb); clear HO290; clear HB; have HO290 := n0_; have HO293 := n1_; have HB := n2_; clear n0_ n1_ n2_; (try clear hb); (try clear hb2); (try clear hk); (try clear hi); (try clear ho0); obtain ⟨Ao47, co47, eo47⟩ := Kd.R_slice HO290.out; subst eo47) | ((with_reducible refine gate_callee (f := 20) rfl ?_); refine goesL_ (some 53) rfl rfl Try.func20 (by kernel_rfl) rfl #[.slice Ao47 t287.length co47] rfl zq7_2 ?_; (with_reducible refine (ip4_Copied.calls kj2 _ _ t287 t295 t296 _ ?side1 ?side2 A18.out).mono ?_); (case side1 => repeat (first | exact (Kd.R_reads' HO290.out).2.2 | (with_reducible refine Kd.C_alloc ?_ _) | (with_reducible refine Kd.C_drewN ?_ _) | (with_reducible refine Kd.C_drew ?_))); (case side2 => exact (Kd.R_reads' HO290.out).2.1); rintro e w48 ⟨v297, rfl, ho0, hb⟩; refine ⟨_, rfl, ?_⟩; have n0_ := Aside0.mk (Kd.R_elder' zq7_1 (Kd.R_base ho0) hb); have n1_ := Aside0.mk (Kd.R_elder' zq7_3 (Kd.R_base ho0) hb); have n2_ := Aside0.mk (Kd.R_lower (Kd.R_new' (Kd.R_new' ho0 (Kd.R_lt zq7_1)) (Kd.R_lt zq7_3)) (below_size zq7_0)); have n3_ := Aside0.mk (below_step zq7_0 hb); clear HO290; clear HO293; clear HB; have HO290 := n0_; have HO293 := n1_; have HO298 := n2_; have HB := n3_; clear n0_ n1_ n2_ n3_; (try clear hb); (try clear hb2); (try clear hk); (try clear hi); (try clear ho0)) | ((with_reducible refine gate_callee (f := 22) rfl ?_); refine goesL_ (some 60) rfl rfl Try.func22 (by kernel_rfl) rfl #[.agg #[.int .u8 0, .int .u16 0, .bool false, .bool false, .int .i64 0, .int .u8 0, .int .u8 0, .int .u32 0, .int .u32 0, .slice Ao47 t287.length co47, .slice none 0 0]] rfl zq7_2 ?_; (refine (ip4_Build.calls kj2 0 0 false false 0 0 0 0 0 _ _ t287 _ _ ([] : List Int) t299 t302 _ ?side1 ?side2 ?side3 ?side4 A19.out).mono ?_); (case side1 => repeat (first | exact (Kd.R_reads' HO290.out).2.2 | (with_reducible refine Kd.C_alloc ?_ _) | (with_reducible refine Kd.C_drewN ?_ _) | (with_reducible refine Kd.C_drew ?_))); (case side2 => exact (Kd.R_reads' HO290.out).2.1); (case side3 => exact Kd.C_nil _ _); (case side4 => exact Nat.le_refl _); rintro e w49 ⟨v300, rfl, ho0, hb⟩; refine ⟨_, rfl, ?_⟩; have n0_ := Aside0.mk (Kd.R_elder' zq7_1 (Kd.R_base ho0) hb); have n1_ := Aside0.mk (Kd.R_elder' zq7_3 (Kd.R_base ho0) hb); have n2_ := Aside0.mk (Kd.R_elder' zq7_4 (Kd.R_base ho0) hb); have n3_ := Aside0.mk (Kd.R_lower (Kd.R_new' (Kd.R_new' (Kd.R_new' ho0 (Kd.R_lt zq7_1)) (Kd.R_lt zq7_3)) (Kd.R_lt zq7_4)) (below_size zq7_0)); have n4_ := Aside0.mk (below_step zq7_0 hb); clear HO290; clear HO293; clear HO298; clear HB; have HO290 := n0_; have HO293 := n1_; have HO298 := n2_; have HO301 := n3_; have HB := n4_; clear n0_ n1_ n2_ n3_ n4_; (try clear hb); (try clear hb2); (try clear hk); (try clear hi); (try clear ho0)))
                go_ret
                exact ⟨by first | rfl | (simp [errW_none, errW_some] <;> rfl) | (simp [*, errW_none, errW_some] <;> rfl), by repeat (first | (with_reducible first | exact HB.out | apply below_alloc | apply pw_below_drewN | apply below_drew1) | exact HB.out)⟩
            · rw [if_neg c21] at H
              have c21b0 : (t296 == 0) = false := beq_eq_false_iff_ne.mpr c21
              have c21b1 : (t296 != 0) = true := bne_iff_ne.mpr c21
              obtain rfl := Option.some.inj H
              go_wp2_with (first | ((with_reducible refine gate_callee (f := 20) rfl ?_); refine goesL_ (some 28) rfl rfl Try.func20 (by kernel_rfl) rfl #[.slice A0 l0.length c0] rfl zq7_2 ?_; (with_reducible refine (ip4_Copied.calls kj2 _ _ l0 t287 t288 _ ?side1 ?side2 A15.out).mono ?_); (case side1 => repeat (first | exact (Kd.C_below HR0.out HB.out) | (with_reducible refine Kd.C_alloc ?_ _) | (with_reducible refine Kd.C_drewN ?_ _) | (with_reducible refine Kd.C_drew ?_))); (case side2 => exact HC0.out); rintro e w50 ⟨v289, rfl, ho0, hb⟩; refine ⟨_, rfl, ?_⟩; have n0_ := Aside0.mk (Kd.R_lower ho0 (below_size zq7_0)); have n1_ := Aside0.mk (below_step zq7_0 hb); clear HB; have HO290 := n0_; have HB := n1_; clear n0_ n1_; (try clear hb); (try clear hb2); (try clear hk); (try clear hi); (try clear ho0)) | ((with_reducible refine gate_callee (f := 22) rfl ?_); refine goesL_ (some 35) rfl rfl Try.func22 (by kernel_rfl) rfl #[.agg #[.int .u8 0, .int .u16 0, .bool false, .bool false, .int .i64 0, .int .u8 0, .int .u8 0, .int .u32 0, .int .u32 0, .slice A0 l0.length c0, .slice none 0 0]] rfl zq7_2 ?_; (refine (ip4_Build.calls kj2 0 0 false false 0 0 0 0 0 _ _ l0 _ _ ([] : List Int) t291 t294 _ ?side1 ?side2 ?side3 ?side4 A16.out).mono ?_); (case side1 => repeat (first | exact (Kd.C_below HR0.out HB.out) | (with_reducible refine Kd.C_alloc ?_ _) | (with_reducible refine Kd.C_drewN ?_ _) | (with_reducible refine Kd.C_drew ?_))); (case side2 => exact HC0.out); (case side3 => exact Kd.C_nil _ _); (case side4 => exact Nat.le_refl _); rintro e w51 ⟨v292, rfl, ho0, hb⟩; refine ⟨_, rfl, ?_⟩; have n0_ := Aside0.mk (Kd.R_elder' zq7_1 (Kd.R_base ho0) hb); have n1_ := Aside0.mk (Kd.R_lower (Kd.R_new' ho0 (Kd.R_lt zq7_1)) (below_size zq7_0)); have n2_ := Aside0.mk (below_step zq7_0 hb); clear HO290; clear HB; have HO290 := n0_; have HO293 := n1_; have HB := n2_; clear n0_ n1_ n2_; (try clear hb); (try clear hb2); (try clear hk); (try clear hi); (try clear ho0); obtain ⟨Ao52, co52, eo52⟩ := Kd.R_slice HO290.out; subst eo52) | ((with_reducible refine gate_callee (f := 20) rfl ?_); refine goesL_ (some 53) rfl rfl Try.func20 (by kernel_rfl) rfl #[.slice Ao52 t287.length co52] rfl zq7_2 ?_; (with_reducible refine (ip4_Copied.calls kj2 _ _ t287 t295 t296 _ ?side1 ?side2 A18.out).mono ?_); (case side1 => repeat (first | exact (Kd.R_reads' HO290.out).2.2 | (with_reducible refine Kd.C_alloc ?_ _) | (with_reducible refine Kd.C_drewN ?_ _) | (with_reducible refine Kd.C_drew ?_))); (case side2 => exact (Kd.R_reads' HO290.out).2.1); rintro e w53 ⟨v297, rfl, ho0, hb⟩; refine ⟨_, rfl, ?_⟩; have n0_ := Aside0.mk (Kd.R_elder' zq7_1 (Kd.R_base ho0) hb); have n1_ := Aside0.mk (Kd.R_elder' zq7_3 (Kd.R_base ho0) hb); have n2_ := Aside0.mk (Kd.R_lower (Kd.R_new' (Kd.R_new' ho0 (Kd.R_lt zq7_1)) (Kd.R_lt zq7_3)) (below_size zq7_0)); have n3_ := Aside0.mk (below_step zq7_0 hb); clear HO290; clear HO293; clear HB; have HO290 := n0_; have HO293 := n1_; have HO298 := n2_; have HB := n3_; clear n0_ n1_ n2_ n3_; (try clear hb); (try clear hb2); (try clear hk); (try clear hi); (try clear ho0)) | ((with_reducible refine gate_callee (f := 22) rfl ?_); refine goesL_ (some 60) rfl rfl Try.func22 (by kernel_rfl) rfl #[.agg #[.int .u8 0, .int .u16 0, .bool false, .bool false, .int .i64 0, .int .u8 0, .int .u8 0, .int .u32 0, .int .u32 0, .slice Ao52 t287.length co52, .slice none 0 0]] rfl zq7_2 ?_; (refine (ip4_Build.calls kj2 0 0 false false 0 0 0 0 0 _ _ t287 _ _ ([] : List Int) t299 t302 _ ?side1 ?side2 ?side3 ?side4 A19.out).mono ?_); (case side1 => repeat (first | exact (Kd.R_reads' HO290.out).2.2 | (with_reducible refine Kd.C_alloc ?_ _) | (with_reducible refine Kd.C_drewN ?_ _) | (with_reducible refine Kd.C_drew ?_))); (case side2 => exact (Kd.R_reads' HO290.out).2.1); (case side3 => exact Kd.C_nil _ _); (case side4 => exact Nat.le_refl _); rintro e w54 ⟨v300, rfl, ho0, hb⟩; refine ⟨_, rfl, ?_⟩; have n0_ := Aside0.mk (Kd.R_elder' zq7_1 (Kd.R_base ho0) hb); have n1_ := Aside0.mk (Kd.R_elder' zq7_3 (Kd.R_base ho0) hb); have n2_ := Aside0.mk (Kd.R_elder' zq7_4 (Kd.R_base ho0) hb); have n3_ := Aside0.mk (Kd.R_lower (Kd.R_new' (Kd.R_new' (Kd.R_new' ho0 (Kd.R_lt zq7_1)) (Kd.R_lt zq7_3)) (Kd.R_lt zq7_4)) (below_size zq7_0)); have n4_ := Aside0.mk (below_step zq7_0 hb); clear HO290; clear HO293; clear HO298; clear HB; have HO290 := n0_; have HO293 := n1_; have HO298 := n2_; have HO301 := n3_; have HB := n4_; clear n0_ n1_ n2_ n3_ n4_; (try clear hb); (try clear hb2); (try clear hk); (try clear hi); (try clear ho0)))
              go_ret
              exact ⟨by first | rfl | (simp [errW_none, errW_some] <;> rfl) | (simp [*, errW_none, errW_some] <;> rfl), by repeat (first | (with_reducible first | exact HB.out | apply below_alloc | apply pw_below_drewN | apply below_drew1) | exact HB.out)⟩
          · rw [if_neg c20] at H
            have c20b0 : (t294 == 0) = false := beq_eq_false_iff_ne.mpr c20
            have c20b1 : (t294 != 0) = true := bne_iff_ne.mpr c20
            obtain rfl := Option.some.inj H
            go_wp2_with (first | ((with_reducible refine gate_callee (f := 20) rfl ?_); refine goesL_ (some 28) rfl rfl Try.func20 (by kernel_rfl) rfl #[.slice A0 l0.length c0] rfl zq7_2 ?_; (with_reducible refine (ip4_Copied.calls kj2 _ _ l0 t287 t288 _ ?side1 ?side2 A15.out).mono ?_); (case side1 => repeat (first | exact (Kd.C_below HR0.out HB.out) | (with_reducible refine Kd.C_alloc ?_ _) | (with_reducible refine Kd.C_drewN ?_ _) | (with_reducible refine Kd.C_drew ?_))); (case side2 => exact HC0.out); rintro e w55 ⟨v289, rfl, ho0, hb⟩; refine ⟨_, rfl, ?_⟩; have n0_ := Aside0.mk (Kd.R_lower ho0 (below_size zq7_0)); have n1_ := Aside0.mk (below_step zq7_0 hb); clear HB; have HO290 := n0_; have HB := n1_; clear n0_ n1_; (try clear hb); (try clear hb2); (try clear hk); (try clear hi); (try clear ho0)) | ((with_reducible refine gate_callee (f := 22) rfl ?_); refine goesL_ (some 35) rfl rfl Try.func22 (by kernel_rfl) rfl #[.agg #[.int .u8 0, .int .u16 0, .bool false, .bool false, .int .i64 0, .int .u8 0, .int .u8 0, .int .u32 0, .int .u32 0, .slice A0 l0.length c0, .slice none 0 0]] rfl zq7_2 ?_; (refine (ip4_Build.calls kj2 0 0 false false 0 0 0 0 0 _ _ l0 _ _ ([] : List Int) t291 t294 _ ?side1 ?side2 ?side3 ?side4 A16.out).mono ?_); (case side1 => repeat (first | exact (Kd.C_below HR0.out HB.out) | (with_reducible refine Kd.C_alloc ?_ _) | (with_reducible refine Kd.C_drewN ?_ _) | (with_reducible refine Kd.C_drew ?_))); (case side2 => exact HC0.out); (case side3 => exact Kd.C_nil _ _); (case side4 => exact Nat.le_refl _); rintro e w56 ⟨v292, rfl, ho0, hb⟩; refine ⟨_, rfl, ?_⟩; have n0_ := Aside0.mk (Kd.R_elder' zq7_1 (Kd.R_base ho0) hb); have n1_ := Aside0.mk (Kd.R_lower (Kd.R_new' ho0 (Kd.R_lt zq7_1)) (below_size zq7_0)); have n2_ := Aside0.mk (below_step zq7_0 hb); clear HO290; clear HB; have HO290 := n0_; have HO293 := n1_; have HB := n2_; clear n0_ n1_ n2_; (try clear hb); (try clear hb2); (try clear hk); (try clear hi); (try clear ho0); obtain ⟨Ao57, co57, eo57⟩ := Kd.R_slice HO290.out; subst eo57) | ((with_reducible refine gate_callee (f := 20) rfl ?_); refine goesL_ (some 53) rfl rfl Try.func20 (by kernel_rfl) rfl #[.slice Ao57 t287.length co57] rfl zq7_2 ?_; (with_reducible refine (ip4_Copied.calls kj2 _ _ t287 t295 t296 _ ?side1 ?side2 A18.out).mono ?_); (case side1 => repeat (first | exact (Kd.R_reads' HO290.out).2.2 | (with_reducible refine Kd.C_alloc ?_ _) | (with_reducible refine Kd.C_drewN ?_ _) | (with_reducible refine Kd.C_drew ?_))); (case side2 => exact (Kd.R_reads' HO290.out).2.1); rintro e w58 ⟨v297, rfl, ho0, hb⟩; refine ⟨_, rfl, ?_⟩; have n0_ := Aside0.mk (Kd.R_elder' zq7_1 (Kd.R_base ho0) hb); have n1_ := Aside0.mk (Kd.R_elder' zq7_3 (Kd.R_base ho0) hb); have n2_ := Aside0.mk (Kd.R_lower (Kd.R_new' (Kd.R_new' ho0 (Kd.R_lt zq7_1)) (Kd.R_lt zq7_3)) (below_size zq7_0)); have n3_ := Aside0.mk (below_step zq7_0 hb); clear HO290; clear HO293; clear HB; have HO290 := n0_; have HO293 := n1_; have HO298 := n2_; have HB := n3_; clear n0_ n1_ n2_ n3_; (try clear hb); (try clear hb2); (try clear hk); (try clear hi); (try clear ho0)) | ((with_reducible refine gate_callee (f := 22) rfl ?_); refine goesL_ (some 60) rfl rfl Try.func22 (by kernel_rfl) rfl #[.agg #[.int .u8 0, .int .u16 0, .bool false, .bool false, .int .i64 0, .int .u8 0, .int .u8 0, .int .u32 0, .int .u32 0, .slice Ao57 t287.length co57, .slice none 0 0]] rfl zq7_2 ?_; (refine (ip4_Build.calls kj2 0 0 false false 0 0 0 0 0 _ _ t287 _ _ ([] : List Int) t299 t302 _ ?side1 ?side2 ?side3 ?side4 A19.out).mono ?_); (case side1 => repeat (first | exact (Kd.R_reads' HO290.out).2.2 | (with_reducible refine Kd.C_alloc ?_ _) | (with_reducible refine Kd.C_drewN ?_ _) | (with_reducible refine Kd.C_drew ?_))); (case side2 => exact (Kd.R_reads' HO290.out).2.1); (case side3 => exact Kd.C_nil _ _); (case side4 => exact Nat.le_refl _); rintro e w59 ⟨v300, rfl, ho0, hb⟩; refine ⟨_, rfl, ?_⟩; have n0_ := Aside0.mk (Kd.R_elder' zq7_1 (Kd.R_base ho0) hb); have n1_ := Aside0.mk (Kd.R_elder' zq7_3 (Kd.R_base ho0) hb); have n2_ := Aside0.mk (Kd.R_elder' zq7_4 (Kd.R_base ho0) hb); have n3_ := Aside0.mk (Kd.R_lower (Kd.R_new' (Kd.R_new' (Kd.R_new' ho0 (Kd.R_lt zq7_1)) (Kd.R_lt zq7_3)) (Kd.R_lt zq7_4)) (below_size zq7_0)); have n4_ := Aside0.mk (below_step zq7_0 hb); clear HO290; clear HO293; clear HO298; clear HB; have HO290 := n0_; have HO293 := n1_; have HO298 := n2_; have HO301 := n3_; have HB := n4_; clear n0_ n1_ n2_ n3_ n4_; (try clear hb); (try clear hb2); (try clear hk); (try clear hi); (try clear ho0)))
            go_ret
            exact ⟨by first | rfl | (simp [errW_none, errW_some] <;> rfl) | (simp [*, errW_none, errW_some] <;> rfl), by repeat (first | (with_reducible first | exact HB.out | apply below_alloc | apply pw_below_drewN | apply below_drew1) | exact HB.out)⟩
        · rw [if_neg c17] at H
          have c17b0 : (t288 == 0) = false := beq_eq_false_iff_ne.mpr c17
          have c17b1 : (t288 != 0) = true := bne_iff_ne.mpr c17
          by_cases c60 : t288 = 34
          · rw [if_pos c60] at H
            have c60b0 : (t288 == 34) = true := beq_iff_eq.mpr c60
            have c60b1 : (t288 != 34) = false := bne_eq_false_iff_eq.mpr c60
            clear c60
            by_cases c61 : t294 = 34
            · rw [if_pos c61] at H
              have c61b0 : (t294 == 34) = true := beq_iff_eq.mpr c61
              have c61b1 : (t294 != 34) = false := bne_eq_false_iff_eq.mpr c61
              clear c61
              obtain rfl := Option.some.inj H
              go_wp2_with (first | ((with_reducible refine gate_callee (f := 20) rfl ?_); refine goesL_ (some 28) rfl rfl Try.func20 (by kernel_rfl) rfl #[.slice A0 l0.length c0] rfl zq7_2 ?_; (with_reducible refine (ip4_Copied.calls kj2 _ _ l0 t287 t288 _ ?side1 ?side2 A15.out).mono ?_); (case side1 => repeat (first | exact (Kd.C_below HR0.out HB.out) | (with_reducible refine Kd.C_alloc ?_ _) | (with_reducible refine Kd.C_drewN ?_ _) | (with_reducible refine Kd.C_drew ?_))); (case side2 => exact HC0.out); rintro e w62 ⟨v289, rfl, ho0, hb⟩; refine ⟨_, rfl, ?_⟩; have n0_ := Aside0.mk (Kd.R_lower ho0 (below_size zq7_0)); have n1_ := Aside0.mk (below_step zq7_0 hb); clear HB; have HO290 := n0_; have HB := n1_; clear n0_ n1_; (try clear hb); (try clear hb2); (try clear hk); (try clear hi); (try clear ho0)) | ((with_reducible refine gate_callee (f := 22) rfl ?_); refine goesL_ (some 35) rfl rfl Try.func22 (by kernel_rfl) rfl #[.agg #[.int .u8 0, .int .u16 0, .bool false, .bool false, .int .i64 0, .int .u8 0, .int .u8 0, .int .u32 0, .int .u32 0, .slice A0 l0.length c0, .slice none 0 0]] rfl zq7_2 ?_; (refine (ip4_Build.calls kj2 0 0 false false 0 0 0 0 0 _ _ l0 _ _ ([] : List Int) t291 t294 _ ?side1 ?side2 ?side3 ?side4 A16.out).mono ?_); (case side1 => repeat (first | exact (Kd.C_below HR0.out HB.out) | (with_reducible refine Kd.C_alloc ?_ _) | (with_reducible refine Kd.C_drewN ?_ _) | (with_reducible refine Kd.C_drew ?_))); (case side2 => exact HC0.out); (case side3 => exact Kd.C_nil _ _); (case side4 => exact Nat.le_refl _); rintro e w63 ⟨v292, rfl, ho0, hb⟩; refine ⟨_, rfl, ?_⟩; have n0_ := Aside0.mk (Kd.R_elder' zq7_1 (Kd.R_base ho0) hb); have n1_ := Aside0.mk (Kd.R_lower (Kd.R_new' ho0 (Kd.R_lt zq7_1)) (below_size zq7_0)); have n2_ := Aside0.mk (below_step zq7_0 hb); clear HO290; clear HB; have HO290 := n0_; have HO293 := n1_; have HB := n2_; clear n0_ n1_ n2_; (try clear hb); (try clear hb2); (try clear hk); (try clear hi); (try clear ho0); obtain ⟨Ao64, co64, eo64⟩ := Kd.R_slice HO290.out; subst eo64))
              go_ret
              exact ⟨by first | rfl | (simp [errW_none, errW_some] <;> rfl) | (simp [*, errW_none, errW_some] <;> rfl), by repeat (first | (with_reducible first | exact HB.out | apply below_alloc | apply pw_below_drewN | apply below_drew1) | exact HB.out)⟩
            · rw [if_neg c61] at H
              have c61b0 : (t294 == 34) = false := beq_eq_false_iff_ne.mpr c61
              have c61b1 : (t294 != 34) = true := bne_iff_ne.mpr c61
              obtain rfl := Option.some.inj H
              go_wp2_with (first | ((with_reducible refine gate_callee (f := 20) rfl ?_); refine goesL_ (some 28) rfl rfl Try.func20 (by kernel_rfl) rfl #[.slice A0 l0.length c0] rfl zq7_2 ?_; (with_reducible refine (ip4_Copied.calls kj2 _ _ l0 t287 t288 _ ?side1 ?side2 A15.out).mono ?_); (case side1 => repeat (first | exact (Kd.C_below HR0.out HB.out) | (with_reducible refine Kd.C_alloc ?_ _) | (with_reducible refine Kd.C_drewN ?_ _) | (with_reducible refine Kd.C_drew ?_))); (case side2 => exact HC0.out); rintro e w65 ⟨v289, rfl, ho0, hb⟩; refine ⟨_, rfl, ?_⟩; have n0_ := Aside0.mk (Kd.R_lower ho0 (below_size zq7_0)); have n1_ := Aside0.mk (below_step zq7_0 hb); clear HB; have HO290 := n0_; have HB := n1_; clear n0_ n1_; (try clear hb); (try clear hb2); (try clear hk); (try clear hi); (try clear ho0)) | ((with_reducible refine gate_callee (f := 22) rfl ?_); refine goesL_ (some 35) rfl rfl Try.func22 (by kernel_rfl) rfl #[.agg #[.int .u8 0, .int .u16 0, .bool false, .bool false, .int .i64 0, .int .u8 0, .int .u8 0, .int .u32 0, .int .u32 0, .slice A0 l0.length c0, .slice none 0 0]] rfl zq7_2 ?_; (refine (ip4_Build.calls kj2 0 0 false false 0 0 0 0 0 _ _ l0 _ _ ([] : List Int) t291 t294 _ ?side1 ?side2 ?side3 ?side4 A16.out).mono ?_); (case side1 => repeat (first | exact (Kd.C_below HR0.out HB.out) | (with_reducible refine Kd.C_alloc ?_ _) | (with_reducible refine Kd.C_drewN ?_ _) | (with_reducible refine Kd.C_drew ?_))); (case side2 => exact HC0.out); (case side3 => exact Kd.C_nil _ _); (case side4 => exact Nat.le_refl _); rintro e w66 ⟨v292, rfl, ho0, hb⟩; refine ⟨_, rfl, ?_⟩; have n0_ := Aside0.mk (Kd.R_elder' zq7_1 (Kd.R_base ho0) hb); have n1_ := Aside0.mk (Kd.R_lower (Kd.R_new' ho0 (Kd.R_lt zq7_1)) (below_size zq7_0)); have n2_ := Aside0.mk (below_step zq7_0 hb); clear HO290; clear HB; have HO290 := n0_; have HO293 := n1_; have HB := n2_; clear n0_ n1_ n2_; (try clear hb); (try clear hb2); (try clear hk); (try clear hi); (try clear ho0)))
              go_ret
              exact ⟨by first | rfl | (simp [errW_none, errW_some] <;> rfl) | (simp [*, errW_none, errW_some] <;> rfl), by repeat (first | (with_reducible first | exact HB.out | apply below_alloc | apply pw_below_drewN | apply below_drew1) | exact HB.out)⟩
          · rw [if_neg c60] at H
            have c60b0 : (t288 == 34) = false := beq_eq_false_iff_ne.mpr c60
            have c60b1 : (t288 != 34) = true := bne_iff_ne.mpr c60
            obtain rfl := Option.some.inj H
            go_wp2_with (first | ((with_reducible refine gate_callee (f := 20) rfl ?_); refine goesL_ (some 28) rfl rfl Try.func20 (by kernel_rfl) rfl #[.slice A0 l0.length c0] rfl zq7_2 ?_; (with_reducible refine (ip4_Copied.calls kj2 _ _ l0 t287 t288 _ ?side1 ?side2 A15.out).mono ?_); (case side1 => repeat (first | exact (Kd.C_below HR0.out HB.out) | (with_reducible refine Kd.C_alloc ?_ _) | (with_reducible refine Kd.C_drewN ?_ _) | (with_reducible refine Kd.C_drew ?_))); (case side2 => exact HC0.out); rintro e w67 ⟨v289, rfl, ho0, hb⟩; refine ⟨_, rfl, ?_⟩; have n0_ := Aside0.mk (Kd.R_lower ho0 (below_size zq7_0)); have n1_ := Aside0.mk (below_step zq7_0 hb); clear HB; have HO290 := n0_; have HB := n1_; clear n0_ n1_; (try clear hb); (try clear hb2); (try clear hk); (try clear hi); (try clear ho0)) | ((with_reducible refine gate_callee (f := 22) rfl ?_); refine goesL_ (some 35) rfl rfl Try.func22 (by kernel_rfl) rfl #[.agg #[.int .u8 0, .int .u16 0, .bool false, .bool false, .int .i64 0, .int .u8 0, .int .u8 0, .int .u32 0, .int .u32 0, .slice A0 l0.length c0, .slice none 0 0]] rfl zq7_2 ?_; (refine (ip4_Build.calls kj2 0 0 false false 0 0 0 0 0 _ _ l0 _ _ ([] : List Int) t291 t294 _ ?side1 ?side2 ?side3 ?side4 A16.out).mono ?_); (case side1 => repeat (first | exact (Kd.C_below HR0.out HB.out) | (with_reducible refine Kd.C_alloc ?_ _) | (with_reducible refine Kd.C_drewN ?_ _) | (with_reducible refine Kd.C_drew ?_))); (case side2 => exact HC0.out); (case side3 => exact Kd.C_nil _ _); (case side4 => exact Nat.le_refl _); rintro e w68 ⟨v292, rfl, ho0, hb⟩; refine ⟨_, rfl, ?_⟩; have n0_ := Aside0.mk (Kd.R_elder' zq7_1 (Kd.R_base ho0) hb); have n1_ := Aside0.mk (Kd.R_lower (Kd.R_new' ho0 (Kd.R_lt zq7_1)) (below_size zq7_0)); have n2_ := Aside0.mk (below_step zq7_0 hb); clear HO290; clear HB; have HO290 := n0_; have HO293 := n1_; have HB := n2_; clear n0_ n1_ n2_; (try clear hb); (try clear hb2); (try clear hk); (try clear hi); (try clear ho0)))
            go_ret
            exact ⟨by first | rfl | (simp [errW_none, errW_some] <;> rfl) | (simp [*, errW_none, errW_some] <;> rfl), by repeat (first | (with_reducible first | exact HB.out | apply below_alloc | apply pw_below_drewN | apply below_drew1) | exact HB.out)⟩

/-! ### weftlaw3_small: function 24 -/
/-! ### ip4_word: function 77 -/
end Go.Proofs.Ytbacmhegalncjaa.XB
