-- printed by a program of this session (wip/xprint), out of the translation; Lean checks it
import Derived.Test.YtmjhfkjnnpnoaaaQIXAx0
namespace Go.Proofs.Ytmjhfkjnnpnoaaa.XA
open Go.RowKit Go.Proofs.YtmjhfkjnnpnoaaaW.PrintWords Go.Proofs.YtmjhfkjnnpnoaaaW.PrintLast Go.Proofs.YtmjhfkjnnpnoaaaW.PrintMore Go.Proofs.YtmjhfkjnnpnoaaaX
theorem zqxa5_2 {P : Prop} (h : P := by (try simp only [List.map_toArray, List.map_cons, List.map_nil]); first | done | rfl | (simp only [List.length_drop, List.length_take]; rfl)) : P := h
theorem zqxa5_1 {P : Prop} (h : P := by first | (with_reducible assumption) | assumption) : P := h
theorem zqxa5_0 {P : Prop} (h : P := by repeat (first | (with_reducible first | exact HB.out | apply below_alloc | apply pw_below_drewN | apply below_drew1) | exact HB.out)) : P := h
attribute [local go_sem] max2_int min2_int max_two min_two max_three min_three max_four min_four   -- for this text's walks alone
set_option linter.unusedVariables false
set_option linter.unusedSimpArgs false

/-! ### weftref3_behind: function 55 -/
def weftref3_behind.l0 : Nat → List Int → Int → Option (Int)
  | 0, _, _ => none
  | k + 1, x0, x5 => if x5 < (x0.length : Int) then (if 0 ≤ x5 then (if (rd x0 x5) = 0 then (weftref3_behind.l0 k x0 (wrap64 (x5 + 1))) else (some (-1))) else (none)) else (some (x0.length : Int))
def weftref3_behind.f (k : Nat) (l0 : List Int) (a1 : Int) : Option (Int) := if 0 ≤ a1 then (if a1 < (l0.length : Int) then (if (rd l0 a1) = 1 then (some (wrap64 (a1 + 1))) else (if (rd l0 a1) = 0 then (weftref3_behind.l0 k l0 a1) else (if (wrap64 (a1 + 1)) ≥ (l0.length : Int) then (some (-1)) else (if 0 ≤ (wrap64 (a1 + 1)) then (if (wrap64 (a1 + 1)) < (l0.length : Int) then (if (rd l0 (wrap64 (a1 + 1))) < 2 then (some (-1)) else (if (wrap64 (a1 + (wrap64 (rd l0 (wrap64 (a1 + 1)))))) > (l0.length : Int) then (some (-1)) else (some (wrap64 (a1 + (wrap64 (rd l0 (wrap64 (a1 + 1))))))))) else (none)) else (none))))) else (none)) else (none)
theorem weftref3_behind.mono_l : ∀ k, (∀ y0 y1, LeO (weftref3_behind.l0 k y0 y1) (weftref3_behind.l0 (k + 1) y0 y1))
  | 0 => fun _ _ r h => by simp [weftref3_behind.l0] at h
  | k + 1 => by
    have ih0 := weftref3_behind.mono_l k
    · intro y0 y1
      unfold weftref3_behind.l0
      repeat' first
      | (with_reducible exact ih0 _ _)
      | (with_reducible exact LeO.refl _)
      | (with_reducible exact LeO.none _)
      | (with_reducible refine LeO.ite ?_ ?_)
      | (with_reducible refine LeO.bind ?_ (fun _ => ?_))
      | exact ih0 _ _
      | exact LeO.none _
      | refine LeO.ite ?_ ?_
      | refine LeO.bind ?_ (fun _ => ?_)
theorem weftref3_behind.mono : ∀ a0 a1 k, LeO (weftref3_behind.f k a0 a1) (weftref3_behind.f (k + 1) a0 a1) := by
  intro a0 a1 k
  have ih0 := weftref3_behind.mono_l k
  unfold weftref3_behind.f
  repeat' first
      | (with_reducible exact ih0 _ _)
      | (with_reducible exact LeO.refl _)
      | (with_reducible exact LeO.none _)
      | (with_reducible refine LeO.ite ?_ ?_)
      | (with_reducible refine LeO.bind ?_ (fun _ => ?_))
      | exact ih0 _ _
      | exact LeO.none _
      | refine LeO.ite ?_ ?_
      | refine LeO.bind ?_ (fun _ => ?_)
set_option maxHeartbeats 8000000 in
set_option maxRecDepth 100000 in
theorem weftref3_behind.calls (k : Nat) (A0 : Option Addr) (c0 : Nat) (l0 : List Int) (a1 : Int) (r : Int) (w : World) (hr0 : Kd.C (Kd.int .u8) w A0 l0.length l0) (hc0 : l0.length ≤ c0) (h : weftref3_behind.f k l0 a1 = some r) :
    Calls Try.prog 55 #[.slice A0 l0.length c0, .int .i64 a1] w fun e w' => e = .returned (.int .i64 r) ∧ Drawn0 w w' := by
  have HR0 := Aside0.mk hr0
  have HC0 := Aside0.mk hc0
  clear hr0 hc0
  have H : (if 0 ≤ a1 then (if a1 < (l0.length : Int) then (if (rd l0 a1) = 1 then (some (wrap64 (a1 + 1))) else (if (rd l0 a1) = 0 then (weftref3_behind.l0 k l0 a1) else (if (wrap64 (a1 + 1)) ≥ (l0.length : Int) then (some (-1)) else (if 0 ≤ (wrap64 (a1 + 1)) then (if (wrap64 (a1 + 1)) < (l0.length : Int) then (if (rd l0 (wrap64 (a1 + 1))) < 2 then (some (-1)) else (if (wrap64 (a1 + (wrap64 (rd l0 (wrap64 (a1 + 1)))))) > (l0.length : Int) then (some (-1)) else (some (wrap64 (a1 + (wrap64 (rd l0 (wrap64 (a1 + 1))))))))) else (none)) else (none))))) else (none)) else (none)) = some r := h
  clear h
  by_cases c3 : 0 ≤ a1
  · rw [if_pos c3] at H
    have c3b0 : decide (0 ≤ a1) = true := decide_eq_true c3
    clear c3
    by_cases c4 : a1 < (l0.length : Int)
    · rw [if_pos c4] at H
      have c4b0 : decide (a1 < (l0.length : Int)) = true := decide_eq_true c4
      clear c4
      by_cases c5 : (rd l0 a1) = 1
      · rw [if_pos c5] at H
        have c5b0 : ((rd l0 a1) == 1) = true := beq_iff_eq.mpr c5
        have c5b1 : ((rd l0 a1) != 1) = false := bne_eq_false_iff_eq.mpr c5
        clear c5
        obtain rfl := Option.some.inj H
        have p250 : 0 ≤ (a1 : Int) := of_decide_eq_true zqxa5_1
        have q250 : a1 < (l0.length : Int) := of_decide_eq_true zqxa5_1
        obtain ⟨ad250, e250, hx250_0⟩ := Kd.at_int HR0.out a1 p250 q250
        cases e250
        replace p250 := eq_true p250
        replace q250 := eq_true q250
        go_enter Try.func55, Try.ntmps55
        go_wp2
        go_ret
        exact ⟨by first | rfl | (simp; done) | (simp [*]; done), by repeat (first | exact Drawn0.refl _ | apply Drawn0.step)⟩
      · rw [if_neg c5] at H
        have c5b0 : ((rd l0 a1) == 1) = false := beq_eq_false_iff_ne.mpr c5
        have c5b1 : ((rd l0 a1) != 1) = true := bne_iff_ne.mpr c5
        by_cases c6 : (rd l0 a1) = 0
        · rw [if_pos c6] at H
          have c6b0 : ((rd l0 a1) == 0) = true := beq_iff_eq.mpr c6
          have c6b1 : ((rd l0 a1) != 0) = false := bne_eq_false_iff_eq.mpr c6
          clear c6
          have H' := Aside0.mk H
          clear H
          have p250 : 0 ≤ (a1 : Int) := of_decide_eq_true zqxa5_1
          have q250 : a1 < (l0.length : Int) := of_decide_eq_true zqxa5_1
          obtain ⟨ad250, e250, hx250_0⟩ := Kd.at_int HR0.out a1 p250 q250
          cases e250
          replace p250 := eq_true p250
          replace q250 := eq_true q250
          have p251 : 0 ≤ (a1 : Int) := of_decide_eq_true zqxa5_1
          have q251 : a1 < (l0.length : Int) := of_decide_eq_true zqxa5_1
          obtain ⟨ad251, e251, hx251_0⟩ := Kd.at_int HR0.out a1 p251 q251
          obtain rfl : ad250 = ad251 := (by injection e251)
          replace p251 := eq_true p251
          replace q251 := eq_true q251
          go_enter Try.func55, Try.ntmps55
          go_wp2
          go_loopg [5] k (fun kq v5 w' => ∃ (x5_1 : Int), v5 = .int .i64 x5_1 ∧ Aside0 (weftref3_behind.l0 kq l0 x5_1 = some r) ∧ Aside0 (kq ≤ k) ∧ Drawn0 w w')
          case atStart => exact ⟨(a1), (by first | rfl | (simp; done) | (simp [*]; done)), H', ⟨Nat.le_refl _⟩, by repeat (first | exact Drawn0.refl _ | apply Drawn0.step)⟩
          case round =>
            clear H'
            try clear p2
            try clear q2
            try clear hx2
            try clear c3
            try clear c3b0
            try clear c4
            try clear c4b0
            try clear c5
            try clear c5b0
            try clear c5b1
            try clear c6
            try clear c6b0
            try clear c6b1
            try clear p6
            try clear hx250_0
            try clear hx251_0
            try clear p250
            try clear p251
            try clear q250
            try clear q251
            obtain ⟨x5_1, rfl, HA, HK1, ⟨m1, rfl⟩⟩ := hrel
            cases gk with
            | zero => exact absurd HA.out (by simp [weftref3_behind.l0])
            | succ k1 =>
              have H := HA.out
              clear HA
              simp only [weftref3_behind.l0] at H
              by_cases c7 : x5_1 < (l0.length : Int)
              · rw [if_pos c7] at H
                have c7b0 : decide (x5_1 < (l0.length : Int)) = true := decide_eq_true c7
                clear c7
                by_cases c8 : 0 ≤ x5_1
                · rw [if_pos c8] at H
                  have c8b0 : decide (0 ≤ x5_1) = true := decide_eq_true c8
                  clear c8
                  by_cases c9 : (rd l0 x5_1) = 0
                  · rw [if_pos c9] at H
                    have c9b0 : ((rd l0 x5_1) == 0) = true := beq_iff_eq.mpr c9
                    have c9b1 : ((rd l0 x5_1) != 0) = false := bne_eq_false_iff_eq.mpr c9
                    clear c9
                    have H' := Aside0.mk H
                    clear H
                    have p252 : 0 ≤ (x5_1 : Int) := of_decide_eq_true zqxa5_1
                    have q252 : x5_1 < (l0.length : Int) := of_decide_eq_true zqxa5_1
                    obtain ⟨ad252, e252, hx252_0⟩ := Kd.at_int HR0.out x5_1 p252 q252
                    obtain rfl : ad250 = ad252 := (by injection e252)
                    replace p252 := eq_true p252
                    replace q252 := eq_true q252
                    go_wp2
                    go_roundg k1
                    case measure => have := HK1.out; omega
                    case rel => exact ⟨(wrap64 (x5_1 + 1)), (by first | rfl | (simp; done) | (simp [*]; done)), H', ⟨by have := HK1.out; omega⟩, by repeat (first | exact Drawn0.refl _ | apply Drawn0.step)⟩
                  · rw [if_neg c9] at H
                    have c9b0 : ((rd l0 x5_1) == 0) = false := beq_eq_false_iff_ne.mpr c9
                    have c9b1 : ((rd l0 x5_1) != 0) = true := bne_iff_ne.mpr c9
                    obtain rfl := Option.some.inj H
                    have p252 : 0 ≤ (x5_1 : Int) := of_decide_eq_true zqxa5_1
                    have q252 : x5_1 < (l0.length : Int) := of_decide_eq_true zqxa5_1
                    obtain ⟨ad252, e252, hx252_0⟩ := Kd.at_int HR0.out x5_1 p252 q252
                    obtain rfl : ad250 = ad252 := (by injection e252)
                    replace p252 := eq_true p252
                    replace q252 := eq_true q252
                    go_wp2
                    go_ret
                    exact ⟨by first | rfl | (simp; done) | (simp [*]; done), by repeat (first | exact Drawn0.refl _ | apply Drawn0.step)⟩
                · rw [if_neg c8] at H
                  exact absurd H (by simp)
              · rw [if_neg c7] at H
                have c7b0 : decide (x5_1 < (l0.length : Int)) = false := decide_eq_false c7
                clear c7
                obtain rfl := Option.some.inj H
                go_wp2
                go_ret
                exact ⟨by first | rfl | (simp; done) | (simp [*]; done), by repeat (first | exact Drawn0.refl _ | apply Drawn0.step)⟩
        · rw [if_neg c6] at H
          have c6b0 : ((rd l0 a1) == 0) = false := beq_eq_false_iff_ne.mpr c6
          have c6b1 : ((rd l0 a1) != 0) = true := bne_iff_ne.mpr c6
          by_cases c10 : (wrap64 (a1 + 1)) ≥ (l0.length : Int)
          · rw [if_pos c10] at H
            have c10b0 : decide ((l0.length : Int) ≤ (wrap64 (a1 + 1))) = true := decide_eq_true c10
            clear c10
            obtain rfl := Option.some.inj H
            have p250 : 0 ≤ (a1 : Int) := of_decide_eq_true zqxa5_1
            have q250 : a1 < (l0.length : Int) := of_decide_eq_true zqxa5_1
            obtain ⟨ad250, e250, hx250_0⟩ := Kd.at_int HR0.out a1 p250 q250
            cases e250
            replace p250 := eq_true p250
            replace q250 := eq_true q250
            have p251 : 0 ≤ (a1 : Int) := of_decide_eq_true zqxa5_1
            have q251 : a1 < (l0.length : Int) := of_decide_eq_true zqxa5_1
            obtain ⟨ad251, e251, hx251_0⟩ := Kd.at_int HR0.out a1 p251 q251
            obtain rfl : ad250 = ad251 := (by injection e251)
            replace p251 := eq_true p251
            replace q251 := eq_true q251
            go_enter Try.func55, Try.ntmps55
            go_wp2
            go_ret
            exact ⟨by first | rfl | (simp; done) | (simp [*]; done), by repeat (first | exact Drawn0.refl _ | apply Drawn0.step)⟩
          · rw [if_neg c10] at H
            have c10b0 : decide ((l0.length : Int) ≤ (wrap64 (a1 + 1))) = false := decide_eq_false c10
            clear c10
            obtain ⟨ji11, hji11⟩ : ∃ j_ : Int, (wrap64 (a1 + 1)) = j_ := ⟨_, rfl⟩
            replace H : (if 0 ≤ (ji11) then (if (ji11) < (l0.length : Int) then (if (rd l0 (ji11)) < 2 then (some (-1)) else (if (wrap64 (a1 + (wrap64 (rd l0 (ji11))))) > (l0.length : Int) then (some (-1)) else (some (wrap64 (a1 + (wrap64 (rd l0 (ji11)))))))) else (none)) else (none)) = some r := by first | (rw [hji11] at H; exact H) | (simp only [hji11] at H ⊢; exact H)
            (try rw [hji11] at c10b0)
            have hji11w : (IntKind.i64.wrap (a1 + 1)) = ji11 := (i64_w _).trans hji11
            by_cases c12 : 0 ≤ (ji11)
            · rw [if_pos c12] at H
              have c12b0 : decide (0 ≤ (ji11)) = true := decide_eq_true c12
              clear c12
              by_cases c13 : (ji11) < (l0.length : Int)
              · rw [if_pos c13] at H
                have c13b0 : decide ((ji11) < (l0.length : Int)) = true := decide_eq_true c13
                clear c13
                by_cases c14 : (rd l0 (ji11)) < 2
                · rw [if_pos c14] at H
                  have c14b0 : decide ((rd l0 (ji11)) < 2) = true := decide_eq_true c14
                  clear c14
                  obtain rfl := Option.some.inj H
                  have p250 : 0 ≤ (a1 : Int) := of_decide_eq_true zqxa5_1
                  have q250 : a1 < (l0.length : Int) := of_decide_eq_true zqxa5_1
                  obtain ⟨ad250, e250, hx250_0⟩ := Kd.at_int HR0.out a1 p250 q250
                  cases e250
                  replace p250 := eq_true p250
                  replace q250 := eq_true q250
                  have p251 : 0 ≤ (a1 : Int) := of_decide_eq_true zqxa5_1
                  have q251 : a1 < (l0.length : Int) := of_decide_eq_true zqxa5_1
                  obtain ⟨ad251, e251, hx251_0⟩ := Kd.at_int HR0.out a1 p251 q251
                  obtain rfl : ad250 = ad251 := (by injection e251)
                  replace p251 := eq_true p251
                  replace q251 := eq_true q251
                  have p253 : 0 ≤ ((ji11) : Int) := of_decide_eq_true zqxa5_1
                  have q253 : (ji11) < (l0.length : Int) := of_decide_eq_true zqxa5_1
                  obtain ⟨ad253, e253, hx253_0⟩ := Kd.at_int HR0.out (ji11) p253 q253
                  obtain rfl : ad250 = ad253 := (by injection e253)
                  replace p253 := eq_true p253
                  replace q253 := eq_true q253
                  go_enter Try.func55, Try.ntmps55
                  go_wp2
                  go_ret
                  exact ⟨by first | rfl | (simp; done) | (simp only [← hji11] <;> (first | rfl | simp)) | (simp [*]; done), by repeat (first | exact Drawn0.refl _ | apply Drawn0.step)⟩
                · rw [if_neg c14] at H
                  have c14b0 : decide ((rd l0 (ji11)) < 2) = false := decide_eq_false c14
                  clear c14
                  by_cases c15 : (wrap64 (a1 + (wrap64 (rd l0 (ji11))))) > (l0.length : Int)
                  · rw [if_pos c15] at H
                    have c15b0 : decide ((l0.length : Int) < (wrap64 (a1 + (wrap64 (rd l0 (ji11)))))) = true := decide_eq_true c15
                    clear c15
                    obtain rfl := Option.some.inj H
                    have p250 : 0 ≤ (a1 : Int) := of_decide_eq_true zqxa5_1
                    have q250 : a1 < (l0.length : Int) := of_decide_eq_true zqxa5_1
                    obtain ⟨ad250, e250, hx250_0⟩ := Kd.at_int HR0.out a1 p250 q250
                    cases e250
                    replace p250 := eq_true p250
                    replace q250 := eq_true q250
                    have p251 : 0 ≤ (a1 : Int) := of_decide_eq_true zqxa5_1
                    have q251 : a1 < (l0.length : Int) := of_decide_eq_true zqxa5_1
                    obtain ⟨ad251, e251, hx251_0⟩ := Kd.at_int HR0.out a1 p251 q251
                    obtain rfl : ad250 = ad251 := (by injection e251)
                    replace p251 := eq_true p251
                    replace q251 := eq_true q251
                    have p253 : 0 ≤ ((ji11) : Int) := of_decide_eq_true zqxa5_1
                    have q253 : (ji11) < (l0.length : Int) := of_decide_eq_true zqxa5_1
                    obtain ⟨ad253, e253, hx253_0⟩ := Kd.at_int HR0.out (ji11) p253 q253
                    obtain rfl : ad250 = ad253 := (by injection e253)
                    replace p253 := eq_true p253
                    replace q253 := eq_true q253
                    have p254 : 0 ≤ ((ji11) : Int) := of_decide_eq_true zqxa5_1
                    have q254 : (ji11) < (l0.length : Int) := of_decide_eq_true zqxa5_1
                    obtain ⟨ad254, e254, hx254_0⟩ := Kd.at_int HR0.out (ji11) p254 q254
                    obtain rfl : ad250 = ad254 := (by injection e254)
                    replace p254 := eq_true p254
                    replace q254 := eq_true q254
                    go_enter Try.func55, Try.ntmps55
                    go_wp2
                    go_ret
                    exact ⟨by first | rfl | (simp; done) | (simp only [← hji11] <;> (first | rfl | simp)) | (simp [*]; done), by repeat (first | exact Drawn0.refl _ | apply Drawn0.step)⟩
                  · rw [if_neg c15] at H
                    have c15b0 : decide ((l0.length : Int) < (wrap64 (a1 + (wrap64 (rd l0 (ji11)))))) = false := decide_eq_false c15
                    clear c15
                    obtain rfl := Option.some.inj H
                    have p250 : 0 ≤ (a1 : Int) := of_decide_eq_true zqxa5_1
                    have q250 : a1 < (l0.length : Int) := of_decide_eq_true zqxa5_1
                    obtain ⟨ad250, e250, hx250_0⟩ := Kd.at_int HR0.out a1 p250 q250
                    cases e250
                    replace p250 := eq_true p250
                    replace q250 := eq_true q250
                    have p251 : 0 ≤ (a1 : Int) := of_decide_eq_true zqxa5_1
                    have q251 : a1 < (l0.length : Int) := of_decide_eq_true zqxa5_1
                    obtain ⟨ad251, e251, hx251_0⟩ := Kd.at_int HR0.out a1 p251 q251
                    obtain rfl : ad250 = ad251 := (by injection e251)
                    replace p251 := eq_true p251
                    replace q251 := eq_true q251
                    have p253 : 0 ≤ ((ji11) : Int) := of_decide_eq_true zqxa5_1
                    have q253 : (ji11) < (l0.length : Int) := of_decide_eq_true zqxa5_1
                    obtain ⟨ad253, e253, hx253_0⟩ := Kd.at_int HR0.out (ji11) p253 q253
                    obtain rfl : ad250 = ad253 := (by injection e253)
                    replace p253 := eq_true p253
                    replace q253 := eq_true q253
                    have p254 : 0 ≤ ((ji11) : Int) := of_decide_eq_true zqxa5_1
                    have q254 : (ji11) < (l0.length : Int) := of_decide_eq_true zqxa5_1
                    obtain ⟨ad254, e254, hx254_0⟩ := Kd.at_int HR0.out (ji11) p254 q254
                    obtain rfl : ad250 = ad254 := (by injection e254)
                    replace p254 := eq_true p254
                    replace q254 := eq_true q254
                    have p255 : 0 ≤ ((ji11) : Int) := of_decide_eq_true zqxa5_1
                    have q255 : (ji11) < (l0.length : Int) := of_decide_eq_true zqxa5_1
                    obtain ⟨ad255, e255, hx255_0⟩ := Kd.at_int HR0.out (ji11) p255 q255
                    obtain rfl : ad250 = ad255 := (by injection e255)
                    replace p255 := eq_true p255
                    replace q255 := eq_true q255
                    go_enter Try.func55, Try.ntmps55
                    go_wp2
                    go_ret
                    exact ⟨by first | rfl | (simp; done) | (simp only [← hji11] <;> (first | rfl | simp)) | (simp [*]; done), by repeat (first | exact Drawn0.refl _ | apply Drawn0.step)⟩
              · rw [if_neg c13] at H
                exact absurd H (by simp)
            · rw [if_neg c12] at H
              exact absurd H (by simp)
    · rw [if_neg c4] at H
      exact absurd H (by simp)
  · rw [if_neg c3] at H
    exact absurd H (by simp)

/-! ### weftref3_Area: function 54 -/
mutual
def weftref3_Area.j0 : Nat → List Int → Bool → Option (Bool)
  | 0, _, _ => none
  | k + 1, x0, x12 => if x12 = true then (some false) else (weftref3_Area.l0 k x0 0)
def weftref3_Area.l0 : Nat → List Int → Int → Option (Bool)
  | 0, _, _ => none
  | k + 1, x0, x3 => if x3 ≥ 0 then (if x3 < (x0.length : Int) then ((weftref3_behind.f k x0 x3).bind fun t256 => (weftref3_Area.l0 k x0 t256)) else (some (decide (x3 ≥ 0)))) else (some (decide (x3 ≥ 0)))
end
def weftref3_Area.f (k : Nat) (l0 : List Int) : Option (Bool) := if (l0.length : Int) > 40 then (weftref3_Area.j0 k l0 true) else (weftref3_Area.j0 k l0 (((l0.length : Int) % 4) != 0))
theorem weftref3_Area.mono_l : ∀ k, (∀ y0 y1, LeO (weftref3_Area.j0 k y0 y1) (weftref3_Area.j0 (k + 1) y0 y1)) ∧ (∀ y0 y1, LeO (weftref3_Area.l0 k y0 y1) (weftref3_Area.l0 (k + 1) y0 y1))
  | 0 => ⟨fun _ _ r h => by simp [weftref3_Area.j0] at h, fun _ _ r h => by simp [weftref3_Area.l0] at h⟩
  | k + 1 => by
    obtain ⟨ih0, ih1⟩ := weftref3_Area.mono_l k
    refine ⟨?_, ?_⟩
    · intro y0 y1
      unfold weftref3_Area.j0
      repeat' first
      | (with_reducible exact ih0 _ _)
      | (with_reducible exact ih1 _ _)
      | (with_reducible exact weftref3_behind.mono _ _ _)
      | (with_reducible exact LeO.refl _)
      | (with_reducible exact LeO.none _)
      | (with_reducible refine LeO.ite ?_ ?_)
      | (with_reducible refine LeO.bind ?_ (fun _ => ?_))
      | exact ih0 _ _
      | exact ih1 _ _
      | exact weftref3_behind.mono _ _ _
      | exact LeO.none _
      | refine LeO.ite ?_ ?_
      | refine LeO.bind ?_ (fun _ => ?_)
    · intro y0 y1
      unfold weftref3_Area.l0
      repeat' first
      | (with_reducible exact ih0 _ _)
      | (with_reducible exact ih1 _ _)
      | (with_reducible exact weftref3_behind.mono _ _ _)
      | (with_reducible exact LeO.refl _)
      | (with_reducible exact LeO.none _)
      | (with_reducible refine LeO.ite ?_ ?_)
      | (with_reducible refine LeO.bind ?_ (fun _ => ?_))
      | exact ih0 _ _
      | exact ih1 _ _
      | exact weftref3_behind.mono _ _ _
      | exact LeO.none _
      | refine LeO.ite ?_ ?_
      | refine LeO.bind ?_ (fun _ => ?_)
theorem weftref3_Area.mono : ∀ a0 k, LeO (weftref3_Area.f k a0) (weftref3_Area.f (k + 1) a0) := by
  intro a0 k
  obtain ⟨ih0, ih1⟩ := weftref3_Area.mono_l k
  unfold weftref3_Area.f
  repeat' first
      | (with_reducible exact ih0 _ _)
      | (with_reducible exact ih1 _ _)
      | (with_reducible exact weftref3_behind.mono _ _ _)
      | (with_reducible exact LeO.refl _)
      | (with_reducible exact LeO.none _)
      | (with_reducible refine LeO.ite ?_ ?_)
      | (with_reducible refine LeO.bind ?_ (fun _ => ?_))
      | exact ih0 _ _
      | exact ih1 _ _
      | exact weftref3_behind.mono _ _ _
      | exact LeO.none _
      | refine LeO.ite ?_ ?_
      | refine LeO.bind ?_ (fun _ => ?_)
set_option maxHeartbeats 8000000 in
set_option maxRecDepth 100000 in
theorem weftref3_Area.calls (k : Nat) (A0 : Option Addr) (c0 : Nat) (l0 : List Int) (r : Bool) (w : World) (hr0 : Kd.C (Kd.int .u8) w A0 l0.length l0) (hc0 : l0.length ≤ c0) (h : weftref3_Area.f k l0 = some r) :
    Calls Try.prog 54 #[.slice A0 l0.length c0] w fun e w' => e = .returned (.bool r) ∧ Drawn0 w w' := by
  have HR0 := Aside0.mk hr0
  have HC0 := Aside0.mk hc0
  clear hr0 hc0
  have H : (if (l0.length : Int) > 40 then (weftref3_Area.j0 k l0 true) else (weftref3_Area.j0 k l0 (((l0.length : Int) % 4) != 0))) = some r := h
  clear h
  have HC2 := Aside0.mk H
  clear H
  go_enter Try.func54, Try.ntmps54
  go_upto_region 1 with (fail)
  go_cut [12] (fun v12 wc => ∃ (kq : Nat) (x12_1 : Bool), v12 = .bool x12_1 ∧ Aside0 (weftref3_Area.j0 kq l0 x12_1 = some r) ∧ Aside0 (kq ≤ k) ∧ Drawn0 w wc)
  case first =>
    have H := HC2.out
    clear HC2
    by_cases c3 : (l0.length : Int) > 40
    · rw [if_pos c3] at H
      have c3b0 : decide (40 < (l0.length : Int)) = true := decide_eq_true c3
      have c3b1 : decide (40 < l0.length) = true := decide_eq_true (by omega)
      clear c3
      (first | rw [c3b0] | (simp only [i64_w, i32_w]; rw [c3b0]) | skip)
      have H' := Aside0.mk H
      clear H
      go_wp2
      go_meet
      case rel => exact ⟨_, (true), (by first | rfl | (simp; done) | (simp [*]; done)), H', ⟨by first | omega | exact Nat.le_refl _⟩, by repeat (first | exact Drawn0.refl _ | apply Drawn0.step)⟩
    · rw [if_neg c3] at H
      have c3b0 : decide (40 < (l0.length : Int)) = false := decide_eq_false c3
      have c3b1 : decide (40 < l0.length) = false := decide_eq_false (by omega)
      clear c3
      (first | rw [c3b0] | (simp only [i64_w, i32_w]; rw [c3b0]) | skip)
      have H' := Aside0.mk H
      clear H
      go_wp2
      go_meet
      case rel => exact ⟨_, ((((l0.length : Int) % 4) != 0)), (by first | rfl | (simp; done) | (simp [*]; done)), H', ⟨by first | omega | exact Nat.le_refl _⟩, by repeat (first | exact Drawn0.refl _ | apply Drawn0.step)⟩
  case rest =>
    clear HC2
    try clear p2
    try clear c3
    try clear c3b0
    try clear c3b1
    obtain ⟨kq, x12_1, rfl, HA, HJ1, ⟨mc1, rfl⟩⟩ := hcut
    cases kq with
    | zero => exact absurd HA.out (by simp [weftref3_Area.j0])
    | succ kj1 =>
      have H := HA.out
      clear HA
      simp only [weftref3_Area.j0] at H
      by_cases c4 : x12_1 = true
      · subst c4
        have H1 : (some false) = some r := by rw [if_pos rfl] at H; exact H
        clear H
        have H := H1
        clear H1
        obtain rfl := Option.some.inj H
        go_wp2
        go_ret
        exact ⟨by first | rfl | (simp; done) | (simp [*]; done), by repeat (first | exact Drawn0.refl _ | apply Drawn0.step)⟩
      · replace c4 := Bool.eq_false_iff.mpr c4
        subst c4
        have H1 : (weftref3_Area.l0 kj1 l0 0) = some r := by rw [if_neg (show ¬ (false = true) by decide)] at H; exact H
        clear H
        have H := H1
        clear H1
        have H' := Aside0.mk H
        clear H
        go_wp2
        go_loopg [3] kj1 (fun kq v3 w' => ∃ (x3_2 : Int), v3 = .int .i64 x3_2 ∧ Aside0 (weftref3_Area.l0 kq l0 x3_2 = some r) ∧ Aside0 (kq ≤ kj1) ∧ Drawn0 w w')
        case atStart => exact ⟨(0), (by first | rfl | (simp; done) | (simp [*]; done)), H', ⟨Nat.le_refl _⟩, by repeat (first | exact Drawn0.refl _ | apply Drawn0.step)⟩
        case round =>
          clear H'
          try clear c1
          try clear p2
          try clear c3
          try clear c3b0
          try clear c3b1
          try clear c4
          try clear p2
          obtain ⟨x3_2, rfl, HA, HK2, ⟨m2, rfl⟩⟩ := hrel
          cases gk with
          | zero => exact absurd HA.out (by simp [weftref3_Area.l0])
          | succ k2 =>
            have H := HA.out
            clear HA
            simp only [weftref3_Area.l0] at H
            by_cases c5 : x3_2 ≥ 0
            · rw [if_pos c5] at H
              have c5b0 : decide (0 ≤ x3_2) = true := decide_eq_true c5
              clear c5
              by_cases c6 : x3_2 < (l0.length : Int)
              · rw [if_pos c6] at H
                have c6b0 : decide (x3_2 < (l0.length : Int)) = true := decide_eq_true c6
                clear c6
                replace H := Option.bind_eq_some_iff.mp H
                obtain ⟨t256, A70, H⟩ := H
                replace H : (weftref3_Area.l0 k2 l0 t256) = some r := H
                have A7 := Aside0.mk A70
                clear A70
                have H' := Aside0.mk H
                clear H
                go_wp2_with (first | ((with_reducible refine gate_callee (f := 55) rfl ?_); refine goesL_ (some 23) rfl rfl Try.func55 (by kernel_rfl) rfl #[.slice A0 l0.length c0, .int .i64 x3_2] rfl zqxa5_2 ?_; (with_reducible refine (weftref3_behind.calls k2 _ _ l0 x3_2 t256 _ ?side1 ?side2 A7.out).mono ?_); (case side1 => repeat (first | exact HR0.out | (with_reducible refine Kd.C_alloc ?_ _) | (with_reducible refine Kd.C_drewN ?_ _) | (with_reducible refine Kd.C_drew ?_))); (case side2 => exact HC0.out); rintro e w' ⟨rfl, ⟨nd, rfl⟩⟩; refine ⟨_, rfl, ?_⟩))
                go_roundg k2
                case measure => have := HJ1.out; have := HK2.out; omega
                case rel => exact ⟨(t256), (by first | rfl | (simp; done) | (simp [*]; done)), H', ⟨by have := HJ1.out; have := HK2.out; omega⟩, by repeat (first | exact Drawn0.refl _ | apply Drawn0.step)⟩
              · rw [if_neg c6] at H
                have c6b0 : decide (x3_2 < (l0.length : Int)) = false := decide_eq_false c6
                clear c6
                obtain rfl := Option.some.inj H
                go_wp2
                go_ret
                exact ⟨by first | rfl | (simp; done) | (simp [*]; done), by repeat (first | exact Drawn0.refl _ | apply Drawn0.step)⟩
            · rw [if_neg c5] at H
              have c5b0 : decide (0 ≤ x3_2) = false := decide_eq_false c5
              clear c5
              obtain rfl := Option.some.inj H
              go_wp2
              go_ret
              exact ⟨by first | rfl | (simp; done) | (simp [*]; done), by repeat (first | exact Drawn0.refl _ | apply Drawn0.step)⟩

/-! ### weftref3_Piece: function 56 -/
def weftref3_Piece.f (a0 : Int) (a1 : Int) (a2 : Bool) : Option (Bool) := if a0 < 0 then (some false) else (if a0 > 65528 then (some false) else (if (Int.tmod a0 8) = 0 then (if (wrap64 (a0 + a1)) > 65535 then (some false) else (if a2 = true then (if a1 > 0 then (some ((Int.tmod a1 8) == 0)) else (some false)) else (some true))) else (some false)))
set_option maxHeartbeats 8000000 in
set_option maxRecDepth 100000 in
theorem weftref3_Piece.calls (a0 : Int) (a1 : Int) (a2 : Bool) (r : Bool) (w : World) (h : weftref3_Piece.f a0 a1 a2 = some r) :
    Calls Try.prog 56 #[.int .i64 a0, .int .i64 a1, .bool a2] w fun e w' => e = .returned (.bool r) ∧ Drawn0 w w' := by
  have H : (if a0 < 0 then (some false) else (if a0 > 65528 then (some false) else (if (Int.tmod a0 8) = 0 then (if (wrap64 (a0 + a1)) > 65535 then (some false) else (if a2 = true then (if a1 > 0 then (some ((Int.tmod a1 8) == 0)) else (some false)) else (some true))) else (some false)))) = some r := h
  clear h
  by_cases c4 : a0 < 0
  · rw [if_pos c4] at H
    have c4b0 : decide (a0 < 0) = true := decide_eq_true c4
    clear c4
    obtain rfl := Option.some.inj H
    go_enter Try.func56, Try.ntmps56
    go_wp2
    go_ret
    exact ⟨by first | rfl | (simp; done) | (simp [*]; done), by repeat (first | exact Drawn0.refl _ | apply Drawn0.step)⟩
  · rw [if_neg c4] at H
    have c4b0 : decide (a0 < 0) = false := decide_eq_false c4
    clear c4
    by_cases c5 : a0 > 65528
    · rw [if_pos c5] at H
      have c5b0 : decide (65528 < a0) = true := decide_eq_true c5
      clear c5
      obtain rfl := Option.some.inj H
      go_enter Try.func56, Try.ntmps56
      go_wp2
      go_ret
      exact ⟨by first | rfl | (simp; done) | (simp [*]; done), by repeat (first | exact Drawn0.refl _ | apply Drawn0.step)⟩
    · rw [if_neg c5] at H
      have c5b0 : decide (65528 < a0) = false := decide_eq_false c5
      clear c5
      by_cases c6 : (Int.tmod a0 8) = 0
      · rw [if_pos c6] at H
        have c6b0 : ((Int.tmod a0 8) == 0) = true := beq_iff_eq.mpr c6
        have c6b1 : ((Int.tmod a0 8) != 0) = false := bne_eq_false_iff_eq.mpr c6
        clear c6
        by_cases c7 : (wrap64 (a0 + a1)) > 65535
        · rw [if_pos c7] at H
          have c7b0 : decide (65535 < (wrap64 (a0 + a1))) = true := decide_eq_true c7
          clear c7
          obtain rfl := Option.some.inj H
          go_enter Try.func56, Try.ntmps56
          go_wp2
          go_ret
          exact ⟨by first | rfl | (simp; done) | (simp [*]; done), by repeat (first | exact Drawn0.refl _ | apply Drawn0.step)⟩
        · rw [if_neg c7] at H
          have c7b0 : decide (65535 < (wrap64 (a0 + a1))) = false := decide_eq_false c7
          clear c7
          by_cases c8 : a2 = true
          · subst c8
            have H1 : (if a1 > 0 then (some ((Int.tmod a1 8) == 0)) else (some false)) = some r := by rw [if_pos rfl] at H; exact H
            clear H
            have H := H1
            clear H1
            by_cases c9 : a1 > 0
            · rw [if_pos c9] at H
              have c9b0 : decide (0 < a1) = true := decide_eq_true c9
              clear c9
              obtain rfl := Option.some.inj H
              go_enter Try.func56, Try.ntmps56
              go_wp2
              go_ret
              exact ⟨by first | rfl | (simp; done) | (simp [*]; done), by repeat (first | exact Drawn0.refl _ | apply Drawn0.step)⟩
            · rw [if_neg c9] at H
              have c9b0 : decide (0 < a1) = false := decide_eq_false c9
              clear c9
              obtain rfl := Option.some.inj H
              go_enter Try.func56, Try.ntmps56
              go_wp2
              go_ret
              exact ⟨by first | rfl | (simp; done) | (simp [*]; done), by repeat (first | exact Drawn0.refl _ | apply Drawn0.step)⟩
          · replace c8 := Bool.eq_false_iff.mpr c8
            subst c8
            have H1 : (some true) = some r := by rw [if_neg (show ¬ (false = true) by decide)] at H; exact H
            clear H
            have H := H1
            clear H1
            obtain rfl := Option.some.inj H
            go_enter Try.func56, Try.ntmps56
            go_wp2
            go_ret
            exact ⟨by first | rfl | (simp; done) | (simp [*]; done), by repeat (first | exact Drawn0.refl _ | apply Drawn0.step)⟩
      · rw [if_neg c6] at H
        have c6b0 : ((Int.tmod a0 8) == 0) = false := beq_eq_false_iff_ne.mpr c6
        have c6b1 : ((Int.tmod a0 8) != 0) = true := bne_iff_ne.mpr c6
        obtain rfl := Option.some.inj H
        go_enter Try.func56, Try.ntmps56
        go_wp2
        go_ret
        exact ⟨by first | rfl | (simp; done) | (simp [*]; done), by repeat (first | exact Drawn0.refl _ | apply Drawn0.step)⟩

/-! ### weftref3_Refused: function 41 -/
def weftref3_Refused.f (k : Nat) (a0_0 : Int) (a0_1 : Int) (a0_2 : Bool) (a0_3 : Bool) (a0_4 : Int) (a0_5 : Int) (a0_6 : Int) (a0_7 : Int) (a0_8 : Int) (l0_9 : List Int) (l0_10 : List Int) : Option (Int) := (weftref3_Area.f k l0_9).bind fun t258 => (if t258 = true then ((weftref3_Piece.f a0_4 (l0_10.length : Int) a0_3).bind fun t259 => (if t259 = true then (if (wrap64 ((wrap64 (20 + (l0_9.length : Int))) + (l0_10.length : Int))) > 65535 then (some 37) else (some 0)) else (some 36))) else (some 34))
theorem weftref3_Refused.mono : ∀ a0 a1 a2 a3 a4 a5 a6 a7 a8 a9 a10 k, LeO (weftref3_Refused.f k a0 a1 a2 a3 a4 a5 a6 a7 a8 a9 a10) (weftref3_Refused.f (k + 1) a0 a1 a2 a3 a4 a5 a6 a7 a8 a9 a10) := by
  intro a0 a1 a2 a3 a4 a5 a6 a7 a8 a9 a10 k
  unfold weftref3_Refused.f
  repeat' first
      | (with_reducible exact weftref3_Area.mono _ _)
      | (with_reducible exact LeO.refl _)
      | (with_reducible exact LeO.none _)
      | (with_reducible refine LeO.ite ?_ ?_)
      | (with_reducible refine LeO.bind ?_ (fun _ => ?_))
      | exact weftref3_Area.mono _ _
      | exact LeO.none _
      | refine LeO.ite ?_ ?_
      | refine LeO.bind ?_ (fun _ => ?_)
set_option maxHeartbeats 8000000 in
set_option maxRecDepth 100000 in
theorem weftref3_Refused.calls (k : Nat) (a0_0 : Int) (a0_1 : Int) (a0_2 : Bool) (a0_3 : Bool) (a0_4 : Int) (a0_5 : Int) (a0_6 : Int) (a0_7 : Int) (a0_8 : Int) (A0_9 : Option Addr) (c0_9 : Nat) (l0_9 : List Int) (A0_10 : Option Addr) (c0_10 : Nat) (l0_10 : List Int) (r : Int) (w : World) (hr0_9 : Kd.C (Kd.int .u8) w A0_9 l0_9.length l0_9) (hc0_9 : l0_9.length ≤ c0_9) (hr0_10 : Kd.C (Kd.int .u8) w A0_10 l0_10.length l0_10) (hc0_10 : l0_10.length ≤ c0_10) (h : weftref3_Refused.f k a0_0 a0_1 a0_2 a0_3 a0_4 a0_5 a0_6 a0_7 a0_8 l0_9 l0_10 = some r) :
    Calls Try.prog 41 #[.agg #[.int .u8 a0_0, .int .u16 a0_1, .bool a0_2, .bool a0_3, .int .i64 a0_4, .int .u8 a0_5, .int .u8 a0_6, .int .u32 a0_7, .int .u32 a0_8, .slice A0_9 l0_9.length c0_9, .slice A0_10 l0_10.length c0_10]] w fun e w' => e = .returned (.int .i64 r) ∧ Below w.heap.size w w' := by
  have hu33 := Try.underlying33
  have HR0_9 := Aside0.mk hr0_9
  have HC0_9 := Aside0.mk hc0_9
  clear hr0_9 hc0_9
  have HR0_10 := Aside0.mk hr0_10
  have HC0_10 := Aside0.mk hc0_10
  clear hr0_10 hc0_10
  have HB := Aside0.mk (Below.refl w.heap.size w)
  have H : ((weftref3_Area.f k l0_9).bind fun t258 => (if t258 = true then ((weftref3_Piece.f a0_4 (l0_10.length : Int) a0_3).bind fun t259 => (if t259 = true then (if (wrap64 ((wrap64 (20 + (l0_9.length : Int))) + (l0_10.length : Int))) > 65535 then (some 37) else (some 0)) else (some 36))) else (some 34))) = some r := h
  clear h
  replace H := Option.bind_eq_some_iff.mp H
  obtain ⟨t258, A20, H⟩ := H
  replace H : (if t258 = true then ((weftref3_Piece.f a0_4 (l0_10.length : Int) a0_3).bind fun t259 => (if t259 = true then (if (wrap64 ((wrap64 (20 + (l0_9.length : Int))) + (l0_10.length : Int))) > 65535 then (some 37) else (some 0)) else (some 36))) else (some 34)) = some r := H
  have A2 := Aside0.mk A20
  clear A20
  by_cases c3 : t258 = true
  · subst c3
    have H1 : ((weftref3_Piece.f a0_4 (l0_10.length : Int) a0_3).bind fun t259 => (if t259 = true then (if (wrap64 ((wrap64 (20 + (l0_9.length : Int))) + (l0_10.length : Int))) > 65535 then (some 37) else (some 0)) else (some 36))) = some r := by rw [if_pos rfl] at H; exact H
    clear H
    have H := H1
    clear H1
    replace H := Option.bind_eq_some_iff.mp H
    obtain ⟨t259, A40, H⟩ := H
    replace H : (if t259 = true then (if (wrap64 ((wrap64 (20 + (l0_9.length : Int))) + (l0_10.length : Int))) > 65535 then (some 37) else (some 0)) else (some 36)) = some r := H
    have A4 := Aside0.mk A40
    clear A40
    by_cases c5 : t259 = true
    · subst c5
      have H1 : (if (wrap64 ((wrap64 (20 + (l0_9.length : Int))) + (l0_10.length : Int))) > 65535 then (some 37) else (some 0)) = some r := by rw [if_pos rfl] at H; exact H
      clear H
      have H := H1
      clear H1
      by_cases c6 : (wrap64 ((wrap64 (20 + (l0_9.length : Int))) + (l0_10.length : Int))) > 65535
      · rw [if_pos c6] at H
        have c6b0 : decide (65535 < (wrap64 ((wrap64 (20 + (l0_9.length : Int))) + (l0_10.length : Int)))) = true := decide_eq_true c6
        clear c6
        obtain rfl := Option.some.inj H
        go_enter Try.func41, Try.ntmps41
        go_wp2_with (first | ((with_reducible refine gate_dst (N := 1) rfl ?_); refine box_event ?hg (N := 1) ?hd (cs := #[.int .u8 a0_0, .int .u16 a0_1, .bool a0_2, .bool a0_3, .int .i64 a0_4, .int .u8 a0_5, .int .u8 a0_6, .int .u32 a0_7, .int .u32 a0_8, .slice A0_9 l0_9.length c0_9, .slice A0_10 l0_10.length c0_10]) (t := 33) ?hr ?_; (case hd => rfl); (case hg => rfl); (case hr => first | (go_simp; done) | (go_simp; rfl)); intro gb257 hg w7 hbox hb; have n0_ := Aside0.mk (below_step zqxa5_0 hb); have n1_ := Aside0.mk (hbox); have n2_ := Aside0.mk ((by rw [hg]; exact (below_size zqxa5_0) : w.heap.size ≤ gb257)); have n3_ := Aside0.mk ((by rw [hg]; exact (below_size zqxa5_0) : w.heap.size ≤ gb257)); clear HB; have HB := n0_; have BK257 := n1_; have GW257 := n2_; have GE257 := n3_; clear n0_ n1_ n2_ n3_; clear hb hbox hg; have hcz8_0 : w7.cell? ⟨gb257, 0, none⟩ = some (.int .u8 a0_0) := (blk_cell BK257.out 0).trans rfl; have hcz8_1 : w7.cell? ⟨gb257, 1, none⟩ = some (.int .u16 a0_1) := (blk_cell BK257.out 1).trans rfl; have hcz8_2 : w7.cell? ⟨gb257, 2, none⟩ = some (.bool a0_2) := (blk_cell BK257.out 2).trans rfl; have hcz8_3 : w7.cell? ⟨gb257, 3, none⟩ = some (.bool a0_3) := (blk_cell BK257.out 3).trans rfl; have hcz8_4 : w7.cell? ⟨gb257, 4, none⟩ = some (.int .i64 a0_4) := (blk_cell BK257.out 4).trans rfl; have hcz8_5 : w7.cell? ⟨gb257, 5, none⟩ = some (.int .u8 a0_5) := (blk_cell BK257.out 5).trans rfl; have hcz8_6 : w7.cell? ⟨gb257, 6, none⟩ = some (.int .u8 a0_6) := (blk_cell BK257.out 6).trans rfl; have hcz8_7 : w7.cell? ⟨gb257, 7, none⟩ = some (.int .u32 a0_7) := (blk_cell BK257.out 7).trans rfl; have hcz8_8 : w7.cell? ⟨gb257, 8, none⟩ = some (.int .u32 a0_8) := (blk_cell BK257.out 8).trans rfl; have hcz8_9 : w7.cell? ⟨gb257, 9, none⟩ = some (.slice A0_9 l0_9.length c0_9) := (blk_cell BK257.out 9).trans rfl; have hcz8_10 : w7.cell? ⟨gb257, 10, none⟩ = some (.slice A0_10 l0_10.length c0_10) := (blk_cell BK257.out 10).trans rfl; have hfz8_0 := blk_frozen BK257.out 0; have hfz8_1 := blk_frozen BK257.out 1; have hfz8_2 := blk_frozen BK257.out 2; have hfz8_3 := blk_frozen BK257.out 3; have hfz8_4 := blk_frozen BK257.out 4; have hfz8_5 := blk_frozen BK257.out 5; have hfz8_6 := blk_frozen BK257.out 6; have hfz8_7 := blk_frozen BK257.out 7; have hfz8_8 := blk_frozen BK257.out 8; have hfz8_9 := blk_frozen BK257.out 9; have hfz8_10 := blk_frozen BK257.out 10) | ((with_reducible refine gate_callee (f := 54) rfl ?_); refine goesL_ (some 6) rfl rfl Try.func54 (by kernel_rfl) rfl #[.slice A0_9 l0_9.length c0_9] rfl zqxa5_2 ?_; (with_reducible refine (weftref3_Area.calls k _ _ l0_9 true _ ?side1 ?side2 A2.out).mono ?_); (case side1 => repeat (first | exact (Kd.C_below HR0_9.out HB.out) | (with_reducible refine Kd.C_alloc ?_ _) | (with_reducible refine Kd.C_drewN ?_ _) | (with_reducible refine Kd.C_drew ?_))); (case side2 => exact HC0_9.out); rintro e w' ⟨rfl, ⟨nd, rfl⟩⟩; refine ⟨_, rfl, ?_⟩) | ((with_reducible refine gate_callee (f := 56) rfl ?_); refine goesL_ (some 17) rfl rfl Try.func56 (by kernel_rfl) rfl #[.int .i64 a0_4, .int .i64 (l0_10.length : Int), .bool a0_3] rfl zqxa5_2 ?_; (with_reducible refine (weftref3_Piece.calls a0_4 (l0_10.length : Int) a0_3 true _ A4.out).mono ?_); rintro e w' ⟨rfl, ⟨nd, rfl⟩⟩; refine ⟨_, rfl, ?_⟩))
        go_ret
        exact ⟨by first | rfl | (simp [errW_none, errW_some] <;> rfl) | (simp [*, errW_none, errW_some] <;> rfl), by repeat (first | (with_reducible first | exact HB.out | apply below_alloc | apply pw_below_drewN | apply below_drew1 | refine below_set ?_ GE257.out) | exact HB.out)⟩
      · rw [if_neg c6] at H
        have c6b0 : decide (65535 < (wrap64 ((wrap64 (20 + (l0_9.length : Int))) + (l0_10.length : Int)))) = false := decide_eq_false c6
        clear c6
        obtain rfl := Option.some.inj H
        go_enter Try.func41, Try.ntmps41
        go_wp2_with (first | ((with_reducible refine gate_dst (N := 1) rfl ?_); refine box_event ?hg (N := 1) ?hd (cs := #[.int .u8 a0_0, .int .u16 a0_1, .bool a0_2, .bool a0_3, .int .i64 a0_4, .int .u8 a0_5, .int .u8 a0_6, .int .u32 a0_7, .int .u32 a0_8, .slice A0_9 l0_9.length c0_9, .slice A0_10 l0_10.length c0_10]) (t := 33) ?hr ?_; (case hd => rfl); (case hg => rfl); (case hr => first | (go_simp; done) | (go_simp; rfl)); intro gb257 hg w9 hbox hb; have n0_ := Aside0.mk (below_step zqxa5_0 hb); have n1_ := Aside0.mk (hbox); have n2_ := Aside0.mk ((by rw [hg]; exact (below_size zqxa5_0) : w.heap.size ≤ gb257)); have n3_ := Aside0.mk ((by rw [hg]; exact (below_size zqxa5_0) : w.heap.size ≤ gb257)); clear HB; have HB := n0_; have BK257 := n1_; have GW257 := n2_; have GE257 := n3_; clear n0_ n1_ n2_ n3_; clear hb hbox hg; have hcz10_0 : w9.cell? ⟨gb257, 0, none⟩ = some (.int .u8 a0_0) := (blk_cell BK257.out 0).trans rfl; have hcz10_1 : w9.cell? ⟨gb257, 1, none⟩ = some (.int .u16 a0_1) := (blk_cell BK257.out 1).trans rfl; have hcz10_2 : w9.cell? ⟨gb257, 2, none⟩ = some (.bool a0_2) := (blk_cell BK257.out 2).trans rfl; have hcz10_3 : w9.cell? ⟨gb257, 3, none⟩ = some (.bool a0_3) := (blk_cell BK257.out 3).trans rfl; have hcz10_4 : w9.cell? ⟨gb257, 4, none⟩ = some (.int .i64 a0_4) := (blk_cell BK257.out 4).trans rfl; have hcz10_5 : w9.cell? ⟨gb257, 5, none⟩ = some (.int .u8 a0_5) := (blk_cell BK257.out 5).trans rfl; have hcz10_6 : w9.cell? ⟨gb257, 6, none⟩ = some (.int .u8 a0_6) := (blk_cell BK257.out 6).trans rfl; have hcz10_7 : w9.cell? ⟨gb257, 7, none⟩ = some (.int .u32 a0_7) := (blk_cell BK257.out 7).trans rfl; have hcz10_8 : w9.cell? ⟨gb257, 8, none⟩ = some (.int .u32 a0_8) := (blk_cell BK257.out 8).trans rfl; have hcz10_9 : w9.cell? ⟨gb257, 9, none⟩ = some (.slice A0_9 l0_9.length c0_9) := (blk_cell BK257.out 9).trans rfl; have hcz10_10 : w9.cell? ⟨gb257, 10, none⟩ = some (.slice A0_10 l0_10.length c0_10) := (blk_cell BK257.out 10).trans rfl; have hfz10_0 := blk_frozen BK257.out 0; have hfz10_1 := blk_frozen BK257.out 1; have hfz10_2 := blk_frozen BK257.out 2; have hfz10_3 := blk_frozen BK257.out 3; have hfz10_4 := blk_frozen BK257.out 4; have hfz10_5 := blk_frozen BK257.out 5; have hfz10_6 := blk_frozen BK257.out 6; have hfz10_7 := blk_frozen BK257.out 7; have hfz10_8 := blk_frozen BK257.out 8; have hfz10_9 := blk_frozen BK257.out 9; have hfz10_10 := blk_frozen BK257.out 10) | ((with_reducible refine gate_callee (f := 54) rfl ?_); refine goesL_ (some 6) rfl rfl Try.func54 (by kernel_rfl) rfl #[.slice A0_9 l0_9.length c0_9] rfl zqxa5_2 ?_; (with_reducible refine (weftref3_Area.calls k _ _ l0_9 true _ ?side1 ?side2 A2.out).mono ?_); (case side1 => repeat (first | exact (Kd.C_below HR0_9.out HB.out) | (with_reducible refine Kd.C_alloc ?_ _) | (with_reducible refine Kd.C_drewN ?_ _) | (with_reducible refine Kd.C_drew ?_))); (case side2 => exact HC0_9.out); rintro e w' ⟨rfl, ⟨nd, rfl⟩⟩; refine ⟨_, rfl, ?_⟩) | ((with_reducible refine gate_callee (f := 56) rfl ?_); refine goesL_ (some 17) rfl rfl Try.func56 (by kernel_rfl) rfl #[.int .i64 a0_4, .int .i64 (l0_10.length : Int), .bool a0_3] rfl zqxa5_2 ?_; (with_reducible refine (weftref3_Piece.calls a0_4 (l0_10.length : Int) a0_3 true _ A4.out).mono ?_); rintro e w' ⟨rfl, ⟨nd, rfl⟩⟩; refine ⟨_, rfl, ?_⟩))
        go_ret
        exact ⟨by first | rfl | (simp [errW_none, errW_some] <;> rfl) | (simp [*, errW_none, errW_some] <;> rfl), by repeat (first | (with_reducible first | exact HB.out | apply below_alloc | apply pw_below_drewN | apply below_drew1 | refine below_set ?_ GE257.out) | exact HB.out)⟩
    · replace c5 := Bool.eq_false_iff.mpr c5
      subst c5
      have H1 : (some 36) = some r := by rw [if_neg (show ¬ (false = true) by decide)] at H; exact H
      clear H
      have H := H1
      clear H1
      obtain rfl := Option.some.inj H
      go_enter Try.func41, Try.ntmps41
      go_wp2_with (first | ((with_reducible refine gate_dst (N := 1) rfl ?_); refine box_event ?hg (N := 1) ?hd (cs := #[.int .u8 a0_0, .int .u16 a0_1, .bool a0_2, .bool a0_3, .int .i64 a0_4, .int .u8 a0_5, .int .u8 a0_6, .int .u32 a0_7, .int .u32 a0_8, .slice A0_9 l0_9.length c0_9, .slice A0_10 l0_10.length c0_10]) (t := 33) ?hr ?_; (case hd => rfl); (case hg => rfl); (case hr => first | (go_simp; done) | (go_simp; rfl)); intro gb257 hg w11 hbox hb; have n0_ := Aside0.mk (below_step zqxa5_0 hb); have n1_ := Aside0.mk (hbox); have n2_ := Aside0.mk ((by rw [hg]; exact (below_size zqxa5_0) : w.heap.size ≤ gb257)); have n3_ := Aside0.mk ((by rw [hg]; exact (below_size zqxa5_0) : w.heap.size ≤ gb257)); clear HB; have HB := n0_; have BK257 := n1_; have GW257 := n2_; have GE257 := n3_; clear n0_ n1_ n2_ n3_; clear hb hbox hg; have hcz12_0 : w11.cell? ⟨gb257, 0, none⟩ = some (.int .u8 a0_0) := (blk_cell BK257.out 0).trans rfl; have hcz12_1 : w11.cell? ⟨gb257, 1, none⟩ = some (.int .u16 a0_1) := (blk_cell BK257.out 1).trans rfl; have hcz12_2 : w11.cell? ⟨gb257, 2, none⟩ = some (.bool a0_2) := (blk_cell BK257.out 2).trans rfl; have hcz12_3 : w11.cell? ⟨gb257, 3, none⟩ = some (.bool a0_3) := (blk_cell BK257.out 3).trans rfl; have hcz12_4 : w11.cell? ⟨gb257, 4, none⟩ = some (.int .i64 a0_4) := (blk_cell BK257.out 4).trans rfl; have hcz12_5 : w11.cell? ⟨gb257, 5, none⟩ = some (.int .u8 a0_5) := (blk_cell BK257.out 5).trans rfl; have hcz12_6 : w11.cell? ⟨gb257, 6, none⟩ = some (.int .u8 a0_6) := (blk_cell BK257.out 6).trans rfl; have hcz12_7 : w11.cell? ⟨gb257, 7, none⟩ = some (.int .u32 a0_7) := (blk_cell BK257.out 7).trans rfl; have hcz12_8 : w11.cell? ⟨gb257, 8, none⟩ = some (.int .u32 a0_8) := (blk_cell BK257.out 8).trans rfl; have hcz12_9 : w11.cell? ⟨gb257, 9, none⟩ = some (.slice A0_9 l0_9.length c0_9) := (blk_cell BK257.out 9).trans rfl; have hcz12_10 : w11.cell? ⟨gb257, 10, none⟩ = some (.slice A0_10 l0_10.length c0_10) := (blk_cell BK257.out 10).trans rfl; have hfz12_0 := blk_frozen BK257.out 0; have hfz12_1 := blk_frozen BK257.out 1; have hfz12_2 := blk_frozen BK257.out 2; have hfz12_3 := blk_frozen BK257.out 3; have hfz12_4 := blk_frozen BK257.out 4; have hfz12_5 := blk_frozen BK257.out 5; have hfz12_6 := blk_frozen BK257.out 6; have hfz12_7 := blk_frozen BK257.out 7; have hfz12_8 := blk_frozen BK257.out 8; have hfz12_9 := blk_frozen BK257.out 9; have hfz12_10 := blk_frozen BK257.out 10) | ((with_reducible refine gate_callee (f := 54) rfl ?_); refine goesL_ (some 6) rfl rfl Try.func54 (by kernel_rfl) rfl #[.slice A0_9 l0_9.length c0_9] rfl zqxa5_2 ?_; (with_reducible refine (weftref3_Area.calls k _ _ l0_9 true _ ?side1 ?side2 A2.out).mono ?_); (case side1 => repeat (first | exact (Kd.C_below HR0_9.out HB.out) | (with_reducible refine Kd.C_alloc ?_ _) | (with_reducible refine Kd.C_drewN ?_ _) | (with_reducible refine Kd.C_drew ?_))); (case side2 => exact HC0_9.out); rintro e w' ⟨rfl, ⟨nd, rfl⟩⟩; refine ⟨_, rfl, ?_⟩) | ((with_reducible refine gate_callee (f := 56) rfl ?_); refine goesL_ (some 17) rfl rfl Try.func56 (by kernel_rfl) rfl #[.int .i64 a0_4, .int .i64 (l0_10.length : Int), .bool a0_3] rfl zqxa5_2 ?_; (with_reducible refine (weftref3_Piece.calls a0_4 (l0_10.length : Int) a0_3 false _ A4.out).mono ?_); rintro e w' ⟨rfl, ⟨nd, rfl⟩⟩; refine ⟨_, rfl, ?_⟩))
      go_ret
      exact ⟨by first | rfl | (simp [errW_none, errW_some] <;> rfl) | (simp [*, errW_none, errW_some] <;> rfl), by repeat (first | (with_reducible first | exact HB.out | apply below_alloc | apply pw_below_drewN | apply below_drew1 | refine below_set ?_ GE257.out) | exact HB.out)⟩
  · replace c3 := Bool.eq_false_iff.mpr c3
    subst c3
    have H1 : (some 34) = some r := by rw [if_neg (show ¬ (false = true) by decide)] at H; exact H
    clear H
    have H := H1
    clear H1
    obtain rfl := Option.some.inj H
    go_enter Try.func41, Try.ntmps41
    go_wp2_with (first | ((with_reducible refine gate_dst (N := 1) rfl ?_); refine box_event ?hg (N := 1) ?hd (cs := #[.int .u8 a0_0, .int .u16 a0_1, .bool a0_2, .bool a0_3, .int .i64 a0_4, .int .u8 a0_5, .int .u8 a0_6, .int .u32 a0_7, .int .u32 a0_8, .slice A0_9 l0_9.length c0_9, .slice A0_10 l0_10.length c0_10]) (t := 33) ?hr ?_; (case hd => rfl); (case hg => rfl); (case hr => first | (go_simp; done) | (go_simp; rfl)); intro gb257 hg w13 hbox hb; have n0_ := Aside0.mk (below_step zqxa5_0 hb); have n1_ := Aside0.mk (hbox); have n2_ := Aside0.mk ((by rw [hg]; exact (below_size zqxa5_0) : w.heap.size ≤ gb257)); have n3_ := Aside0.mk ((by rw [hg]; exact (below_size zqxa5_0) : w.heap.size ≤ gb257)); clear HB; have HB := n0_; have BK257 := n1_; have GW257 := n2_; have GE257 := n3_; clear n0_ n1_ n2_ n3_; clear hb hbox hg; have hcz14_0 : w13.cell? ⟨gb257, 0, none⟩ = some (.int .u8 a0_0) := (blk_cell BK257.out 0).trans rfl; have hcz14_1 : w13.cell? ⟨gb257, 1, none⟩ = some (.int .u16 a0_1) := (blk_cell BK257.out 1).trans rfl; have hcz14_2 : w13.cell? ⟨gb257, 2, none⟩ = some (.bool a0_2) := (blk_cell BK257.out 2).trans rfl; have hcz14_3 : w13.cell? ⟨gb257, 3, none⟩ = some (.bool a0_3) := (blk_cell BK257.out 3).trans rfl; have hcz14_4 : w13.cell? ⟨gb257, 4, none⟩ = some (.int .i64 a0_4) := (blk_cell BK257.out 4).trans rfl; have hcz14_5 : w13.cell? ⟨gb257, 5, none⟩ = some (.int .u8 a0_5) := (blk_cell BK257.out 5).trans rfl; have hcz14_6 : w13.cell? ⟨gb257, 6, none⟩ = some (.int .u8 a0_6) := (blk_cell BK257.out 6).trans rfl; have hcz14_7 : w13.cell? ⟨gb257, 7, none⟩ = some (.int .u32 a0_7) := (blk_cell BK257.out 7).trans rfl; have hcz14_8 : w13.cell? ⟨gb257, 8, none⟩ = some (.int .u32 a0_8) := (blk_cell BK257.out 8).trans rfl; have hcz14_9 : w13.cell? ⟨gb257, 9, none⟩ = some (.slice A0_9 l0_9.length c0_9) := (blk_cell BK257.out 9).trans rfl; have hcz14_10 : w13.cell? ⟨gb257, 10, none⟩ = some (.slice A0_10 l0_10.length c0_10) := (blk_cell BK257.out 10).trans rfl; have hfz14_0 := blk_frozen BK257.out 0; have hfz14_1 := blk_frozen BK257.out 1; have hfz14_2 := blk_frozen BK257.out 2; have hfz14_3 := blk_frozen BK257.out 3; have hfz14_4 := blk_frozen BK257.out 4; have hfz14_5 := blk_frozen BK257.out 5; have hfz14_6 := blk_frozen BK257.out 6; have hfz14_7 := blk_frozen BK257.out 7; have hfz14_8 := blk_frozen BK257.out 8; have hfz14_9 := blk_frozen BK257.out 9; have hfz14_10 := blk_frozen BK257.out 10) | ((with_reducible refine gate_callee (f := 54) rfl ?_); refine goesL_ (some 6) rfl rfl Try.func54 (by kernel_rfl) rfl #[.slice A0_9 l0_9.length c0_9] rfl zqxa5_2 ?_; (with_reducible refine (weftref3_Area.calls k _ _ l0_9 false _ ?side1 ?side2 A2.out).mono ?_); (case side1 => repeat (first | exact (Kd.C_below HR0_9.out HB.out) | (with_reducible refine Kd.C_alloc ?_ _) | (with_reducible refine Kd.C_drewN ?_ _) | (with_reducible refine Kd.C_drew ?_))); (case side2 => exact HC0_9.out); rintro e w' ⟨rfl, ⟨nd, rfl⟩⟩; refine ⟨_, rfl, ?_⟩))
    go_ret
    exact ⟨by first | rfl | (simp [errW_none, errW_some] <;> rfl) | (simp [*, errW_none, errW_some] <;> rfl), by repeat (first | (with_reducible first | exact HB.out | apply below_alloc | apply pw_below_drewN | apply below_drew1 | refine below_set ?_ GE257.out) | exact HB.out)⟩

/-! ### weftref3_put2: function 57 -/
def weftref3_put2.f (l0 : List Int) (a1 : Int) : Option (List Int) := (some (([(wrap64 (Int.tdiv a1 256)) % 256, (Int.tmod a1 256) % 256] : List Int) : List Int)).bind fun y260 => (if l0.length + y260.length < 140737488355328 then (some (l0 ++ y260)) else (none))
set_option maxHeartbeats 8000000 in
set_option maxRecDepth 100000 in
theorem weftref3_put2.calls (P0_ : Nat → Prop) (u9000_ : Value) (l0 : List Int) (a1 : Int) (r : List Int) (w0 w : World) (hB : Below w0.heap.size w0 w) (ho0 : Kd.R (Kd.int .u8) 5 w w0.heap.size P0_ u9000_ l0) (h : weftref3_put2.f l0 a1 = some r) :
    Calls Try.prog 57 #[u9000_, .int .i64 a1] w fun e w' => ∃ v0_ : Value, e = .returned (v0_) ∧ Kd.R (Kd.int .u8) 5 w' w0.heap.size (fun k_ => (P0_ k_ ∨ w.heap.size ≤ k_)) v0_ r ∧ Below w0.heap.size w0 w' ∧ Kept w w' (fun k_ => P0_ k_) := by
  have HO0 := Aside0.mk (show Kd.R (Kd.int .u8) 5 w w0.heap.size (fun k_ => (P0_ k_ ∨ w.heap.size ≤ k_)) u9000_ l0 from Kd.R_mono ho0 (fun k_ hk => (.inl hk)))
  have HK := Aside0.mk (Kept.refl w (fun k_ => P0_ k_))
  have HW0 := Aside0.mk hB.size
  have HB := Aside0.mk hB
  clear hB
  have H : ((some (([(wrap64 (Int.tdiv a1 256)) % 256, (Int.tmod a1 256) % 256] : List Int) : List Int)).bind fun y260 => (if l0.length + y260.length < 140737488355328 then (some (l0 ++ y260)) else (none))) = some r := h
  clear h
  obtain ⟨y260, hy260⟩ : ∃ y_ : List Int, y_ = (([(wrap64 (Int.tdiv a1 256)) % 256, (Int.tmod a1 256) % 256] : List Int)) := ⟨_, rfl⟩
  replace H : (if l0.length + y260.length < 140737488355328 then (some (l0 ++ y260)) else (none)) = some r := by first | (rw [hy260]; with_reducible exact H) | (have H2_ := (Option.bind_some _ _).symm.trans H; rw [hy260]; with_reducible exact H2_) | (have H2_ := (Option.bind_some _ _).symm.trans H; with_reducible exact H2_) | with_reducible exact H | (rw [hy260]; exact H) | exact H
  have Ny260 := Aside0.mk hy260
  clear hy260
  by_cases c3 : l0.length + y260.length < 140737488355328
  · rw [if_pos c3] at H
    have LMc3 := Aside0.mk c3
    clear c3
    obtain ⟨y263, hy263⟩ : ∃ y_ : List Int, y_ = (l0 ++ y260) := ⟨_, rfl⟩
    replace H : (some y263) = some r := by first | (rw [hy263]; with_reducible exact H) | (have H2_ := (Option.bind_some _ _).symm.trans H; rw [hy263]; with_reducible exact H2_) | (have H2_ := (Option.bind_some _ _).symm.trans H; with_reducible exact H2_) | with_reducible exact H | (rw [hy263]; exact H) | exact H
    have Ny263 := Aside0.mk hy263
    clear hy263
    obtain rfl := Option.some.inj H
    go_enter Try.func57, Try.ntmps57
    go_wp2_with (first | ((with_reducible refine gate_dst (N := 12) rfl ?_); refine Kd.R_lit (Kd.int .u8) _ 5 ?hg (N := 12) ?hd (xs := ([(wrap64 (Int.tdiv a1 256)) % 256, (Int.tmod a1 256) % 256] : List Int)) (inner := [.int .u8 ((wrap64 (Int.tdiv a1 256)) % 256), .int .u8 ((Int.tmod a1 256) % 256)]) (ok := fun _ => True) (okp := fun _ => True) ?hr ?hp (fun _ hk => hk) trivial (Below.refl _ _) (Nat.le_refl _) (by simp) ?_; (case hd => rfl); (case hg => rfl); (case hr => first | (go_simp; done) | (go_simp; rfl)); (case hp => exact (Reps.one (show Kd.M (Kd.int .u8) _ _ _ ((wrap64 (Int.tdiv a1 256)) % 256) [.int .u8 ((wrap64 (Int.tdiv a1 256)) % 256)] from rfl) (Reps.one (show Kd.M (Kd.int .u8) _ _ _ ((Int.tmod a1 256) % 256) [.int .u8 ((Int.tmod a1 256) % 256)] from rfl) (Reps.none _ _)))); intro v261 w4 ho5 hb hg_ hnew_; clear hg_ hnew_; (first | rw [← Ny260.out] at ho5 | (simp only [Int.reduceToNat] at ho5; rw [← Ny260.out] at ho5)); have n0_ := Aside0.mk (Kd.R_elder' (by (with_reducible repeat (first | apply Kd.R_alloc | apply Kd.R_drewN | apply Kd.R_drew)); exact HO0.out) (Kd.R_base ho5) hb); have n1_ := Aside0.mk (Kd.R_lower (Kd.R_new' (Kd.R_newM (M := fun k_ => (P0_ k_ ∨ w.heap.size ≤ k_)) ho5 (by first | exact HK.out.1 | exact (show Kept w _ (fun k_ => P0_ k_) from by repeat (first | (with_reducible first | exact HK.out | apply Kept.alloc | apply Kept.drewN | apply Kept.drew) | exact HK.out)).1) (fun k_ h_ => .inr h_)) (Kd.R_lt (by (with_reducible repeat (first | apply Kd.R_alloc | apply Kd.R_drewN | apply Kd.R_drew)); exact HO0.out))) (below_size zqxa5_0)); have n2_ := Aside0.mk (Kept.below (S := (fun k_ => P0_ k_)) (by repeat (first | (with_reducible first | exact HK.out | apply Kept.alloc | apply Kept.drewN | apply Kept.drew) | exact HK.out)) hb); have n3_ := Aside0.mk (below_step zqxa5_0 hb); clear HO0; clear HK; clear HB; have HO0 := n0_; have HO262 := n1_; have HK := n2_; have HB := n3_; clear n0_ n1_ n2_ n3_; clear hb ho5; obtain ⟨Ao7, co7, eo7⟩ := Kd.R_slice HO262.out; subst eo7) | ((with_reducible refine gate_builtin (b := .append) (xs := #[.tmp 5, .tmp 12]) rfl ?_); at_builtin; refine Kd.R_append_rows (Kd.int .u8) (w0 := w0) w0.heap.size rfl (.tmp 5) (.tmp 12) 23 5 (.int .u8 0) 1 rfl Try.underlying23 info5 rfl (by decide) (by omega) u9000_ l0 y260 _ _ _ (fun k_ => (P0_ k_ ∨ w.heap.size ≤ k_) ∧ some k_ ≠ (.slice Ao7 y260.length co7 : Value).ownBlock) (fun _ => False) rfl rfl ?aO ?aR (fun _ _ h => h) (fun _ h => h.elim) ?aF ?aB ?aS ?aL ?_; (case aR => repeat (first | exact (Kd.R_reads' HO262.out).2.2 | (with_reducible refine Kd.C_alloc ?_ _) | (with_reducible refine Kd.C_drewN ?_ _) | (with_reducible refine Kd.C_drew ?_))); (case aB => exact zqxa5_0); (case aF => exact (fun k_ hk => ⟨(.inr (Nat.le_trans (by first | exact HK.out.1 | exact (show Kept w _ (fun k_ => P0_ k_) from by repeat (first | (with_reducible first | exact HK.out | apply Kept.alloc | apply Kept.drewN | apply Kept.drew) | exact HK.out)).1) hk)), Kd.fresh' (Kd.R_lt (by (with_reducible repeat (first | apply Kd.R_alloc | apply Kd.R_drewN | apply Kd.R_drew)); exact HO262.out)) k_ hk⟩)); (case aO => exact (by (with_reducible repeat (first | apply Kd.R_alloc | apply Kd.R_drewN | apply Kd.R_drew)); exact HO0.out)); (case aS => exact (below_size zqxa5_0)); (case aL => have := LMc3.out; omega); intro v264 w6 ho hb hg hat; rw [← Ny263.out] at ho; have n0_ := Aside0.mk (Kd.R_after (ok := (fun k_ => (P0_ k_ ∨ w.heap.size ≤ k_))) (by (with_reducible repeat (first | apply Kd.R_alloc | apply Kd.R_drewN | apply Kd.R_drew)); exact Kd.R_mono HO262.out (fun _ hk => ⟨hk.1.1, hk.2⟩)) hg hat); have n1_ := Aside0.mk (hb); have n2_ := Aside0.mk (Kept.of_grown (S := (fun k_ => P0_ k_)) hg (by repeat (first | (with_reducible first | exact HK.out | apply Kept.alloc | apply Kept.drewN | apply Kept.drew) | exact HK.out)) (fun k_ e_ => (HO0.out.1 k_ e_).1)); have n3_ := Aside0.mk (ho); clear HO262; clear HB; clear HK; clear HO0; have HO262 := n0_; have HB := n1_; have HK := n2_; have HO265 := n3_; clear n0_ n1_ n2_ n3_; clear ho hb hg hat))
    go_ret
    exact ⟨_, by first | rfl | (simp [errW_none, errW_some] <;> rfl) | (simp [*, errW_none, errW_some] <;> rfl), by (with_reducible repeat (first | apply Kd.R_alloc | apply Kd.R_drewN | apply Kd.R_drew)); exact Kd.R_mono HO265.out (fun _ hk => hk.1), by repeat (first | (with_reducible first | exact HB.out | apply below_alloc | apply pw_below_drewN | apply below_drew1) | exact HB.out), by repeat (first | (with_reducible first | exact HK.out | apply Kept.alloc | apply Kept.drewN | apply Kept.drew) | exact HK.out)⟩
  · rw [if_neg c3] at H
    exact absurd H (by simp)

end Go.Proofs.Ytmjhfkjnnpnoaaa.XA
