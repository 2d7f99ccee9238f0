-- printed by a program of this session (wip/xprint), out of the translation; Lean checks it
import Derived.Test.YtmjhfkjnnpnoaaaQIXAx0
import Derived.Test.YtmjhfkjnnpnoaaaQIXAx9
namespace Go.Proofs.Ytmjhfkjnnpnoaaa.XA
open Go.RowKit Go.Proofs.YtmjhfkjnnpnoaaaW.PrintWords Go.Proofs.YtmjhfkjnnpnoaaaW.PrintLast Go.Proofs.YtmjhfkjnnpnoaaaW.PrintMore Go.Proofs.YtmjhfkjnnpnoaaaX
theorem zqxa10_0 {P : Prop} (h : P := by first | (with_reducible assumption) | assumption) : P := h
attribute [local go_sem] max2_int min2_int max_two min_two max_three min_three max_four min_four   -- for this text's walks alone
set_option linter.unusedVariables false
set_option linter.unusedSimpArgs false

/-! ### ip4_Parse: function 29 -/
/-! ### weftref3_two: function 64 -/
def weftref3_two.f (l0 : List Int) (a1 : Int) : Option (Int) := if 0 ≤ a1 then (if a1 < (l0.length : Int) then (if 0 ≤ (wrap64 (a1 + 1)) then (if (wrap64 (a1 + 1)) < (l0.length : Int) then (some (wrap64 ((wrap64 (256 * (wrap64 (rd l0 a1)))) + (wrap64 (rd l0 (wrap64 (a1 + 1))))))) else (none)) else (none)) else (none)) else (none)
set_option maxHeartbeats 8000000 in
set_option maxRecDepth 100000 in
theorem weftref3_two.calls (A0 : Option Addr) (c0 : Nat) (l0 : List Int) (a1 : Int) (r : Int) (w : World) (hr0 : Kd.C (Kd.int .u8) w A0 l0.length l0) (hc0 : l0.length ≤ c0) (h : weftref3_two.f l0 a1 = some r) :
    Calls Try.prog 64 #[.slice A0 l0.length c0, .int .i64 a1] w fun e w' => e = .returned (.int .i64 r) ∧ Drawn0 w w' := by
  have HR0 := Aside0.mk hr0
  have HC0 := Aside0.mk hc0
  clear hr0 hc0
  have H : (if 0 ≤ a1 then (if a1 < (l0.length : Int) then (if 0 ≤ (wrap64 (a1 + 1)) then (if (wrap64 (a1 + 1)) < (l0.length : Int) then (some (wrap64 ((wrap64 (256 * (wrap64 (rd l0 a1)))) + (wrap64 (rd l0 (wrap64 (a1 + 1))))))) else (none)) else (none)) else (none)) else (none)) = some r := h
  clear h
  by_cases c3 : 0 ≤ a1
  · rw [if_pos c3] at H
    have c3b0 : decide (0 ≤ a1) = true := decide_eq_true c3
    clear c3
    by_cases c4 : a1 < (l0.length : Int)
    · rw [if_pos c4] at H
      have c4b0 : decide (a1 < (l0.length : Int)) = true := decide_eq_true c4
      clear c4
      obtain ⟨ji5, hji5⟩ : ∃ j_ : Int, (wrap64 (a1 + 1)) = j_ := ⟨_, rfl⟩
      replace H : (if 0 ≤ (ji5) then (if (ji5) < (l0.length : Int) then (some (wrap64 ((wrap64 (256 * (wrap64 (rd l0 a1)))) + (wrap64 (rd l0 (ji5)))))) else (none)) else (none)) = some r := by first | (rw [hji5] at H; exact H) | (simp only [hji5] at H ⊢; exact H)
      have hji5w : (IntKind.i64.wrap (a1 + 1)) = ji5 := (i64_w _).trans hji5
      by_cases c6 : 0 ≤ (ji5)
      · rw [if_pos c6] at H
        have c6b0 : decide (0 ≤ (ji5)) = true := decide_eq_true c6
        clear c6
        by_cases c7 : (ji5) < (l0.length : Int)
        · rw [if_pos c7] at H
          have c7b0 : decide ((ji5) < (l0.length : Int)) = true := decide_eq_true c7
          clear c7
          obtain rfl := Option.some.inj H
          have p432 : 0 ≤ (a1 : Int) := of_decide_eq_true zqxa10_0
          have q432 : a1 < (l0.length : Int) := of_decide_eq_true zqxa10_0
          obtain ⟨ad432, e432, hx432_0⟩ := Kd.at_int HR0.out a1 p432 q432
          cases e432
          replace p432 := eq_true p432
          replace q432 := eq_true q432
          have p433 : 0 ≤ ((ji5) : Int) := of_decide_eq_true zqxa10_0
          have q433 : (ji5) < (l0.length : Int) := of_decide_eq_true zqxa10_0
          obtain ⟨ad433, e433, hx433_0⟩ := Kd.at_int HR0.out (ji5) p433 q433
          obtain rfl : ad432 = ad433 := (by injection e433)
          replace p433 := eq_true p433
          replace q433 := eq_true q433
          go_enter Try.func64, Try.ntmps64
          go_wp2
          repeat (go_quiet (fail); try go_wp2)
          go_ret
          exact ⟨by first | rfl | (simp; done) | (simp only [← hji5] <;> (first | rfl | simp)) | (simp [*]; done), by repeat (first | exact Drawn0.refl _ | apply Drawn0.step)⟩
        · rw [if_neg c7] at H
          exact absurd H (by simp)
      · rw [if_neg c6] at H
        exact absurd H (by simp)
    · rw [if_neg c4] at H
      exact absurd H (by simp)
  · rw [if_neg c3] at H
    exact absurd H (by simp)

/-! ### weftref3_front: function 63 -/
def weftref3_front.f (l0 : List Int) (a1 : Bool) : Option (Int × Int × Int) := if (l0.length : Int) < 20 then (some (0, 0, 30)) else (if 0 < (l0.length : Int) then (if ((Int.tdiv (rd l0 0) 16) % 256) = 4 then (if (wrap64 (4 * (wrap64 (Int.tmod (rd l0 0) 16)))) < 20 then (some (0, 0, 32)) else (if (l0.length : Int) < (wrap64 (4 * (wrap64 (Int.tmod (rd l0 0) 16)))) then (some (0, 0, 30)) else ((weftref3_two.f l0 2).bind fun t436 => (if t436 < (wrap64 (4 * (wrap64 (Int.tmod (rd l0 0) 16)))) then (some (0, 0, 32)) else (if a1 = true then (if (l0.length : Int) < t436 then (some (0, 0, 30)) else (some (wrap64 (4 * (wrap64 (Int.tmod (rd l0 0) 16))), t436, 0))) else (some (wrap64 (4 * (wrap64 (Int.tmod (rd l0 0) 16))), t436, 0))))))) else (some (0, 0, 31))) else (none))
set_option maxHeartbeats 8000000 in
set_option maxRecDepth 100000 in
theorem weftref3_front.calls (A0 : Option Addr) (c0 : Nat) (l0 : List Int) (a1 : Bool) (r1 : Int) (r2 : Int) (r3 : Int) (w : World) (hr0 : Kd.C (Kd.int .u8) w A0 l0.length l0) (hc0 : l0.length ≤ c0) (h : weftref3_front.f l0 a1 = some (r1, r2, r3)) :
    Calls Try.prog 63 #[.slice A0 l0.length c0, .bool a1] w fun e w' => e = .returned (.tuple #[.int .i64 r1, .int .i64 r2, .int .i64 r3]) ∧ Drawn0 w w' := by
  have HR0 := Aside0.mk hr0
  have HC0 := Aside0.mk hc0
  clear hr0 hc0
  have H : (if (l0.length : Int) < 20 then (some (0, 0, 30)) else (if 0 < (l0.length : Int) then (if ((Int.tdiv (rd l0 0) 16) % 256) = 4 then (if (wrap64 (4 * (wrap64 (Int.tmod (rd l0 0) 16)))) < 20 then (some (0, 0, 32)) else (if (l0.length : Int) < (wrap64 (4 * (wrap64 (Int.tmod (rd l0 0) 16)))) then (some (0, 0, 30)) else ((weftref3_two.f l0 2).bind fun t436 => (if t436 < (wrap64 (4 * (wrap64 (Int.tmod (rd l0 0) 16)))) then (some (0, 0, 32)) else (if a1 = true then (if (l0.length : Int) < t436 then (some (0, 0, 30)) else (some (wrap64 (4 * (wrap64 (Int.tmod (rd l0 0) 16))), t436, 0))) else (some (wrap64 (4 * (wrap64 (Int.tmod (rd l0 0) 16))), t436, 0))))))) else (some (0, 0, 31))) else (none))) = some (r1, r2, r3) := h
  clear h
  by_cases c3 : (l0.length : Int) < 20
  · rw [if_pos c3] at H
    have c3b0 : decide ((l0.length : Int) < 20) = true := decide_eq_true c3
    have c3b1 : decide (l0.length < 20) = true := decide_eq_true (by omega)
    clear c3
    simp only [Option.some.injEq, Prod.mk.injEq] at H
    obtain ⟨rfl, rfl, rfl⟩ := H
    go_enter Try.func63, Try.ntmps63
    go_wp2
    go_ret3
    exact ⟨by first | rfl | (simp; done) | (simp [*]; done), by repeat (first | exact Drawn0.refl _ | apply Drawn0.step)⟩
  · rw [if_neg c3] at H
    have c3b0 : decide ((l0.length : Int) < 20) = false := decide_eq_false c3
    have c3b1 : decide (l0.length < 20) = false := decide_eq_false (by omega)
    clear c3
    by_cases c4 : 0 < (l0.length : Int)
    · rw [if_pos c4] at H
      have c4b0 : decide (0 < (l0.length : Int)) = true := decide_eq_true c4
      have c4b1 : decide (0 < l0.length) = true := decide_eq_true (by omega)
      clear c4
      by_cases c5 : ((Int.tdiv (rd l0 0) 16) % 256) = 4
      · rw [if_pos c5] at H
        have c5b0 : (((Int.tdiv (rd l0 0) 16) % 256) == 4) = true := beq_iff_eq.mpr c5
        have c5b1 : (((Int.tdiv (rd l0 0) 16) % 256) != 4) = false := bne_eq_false_iff_eq.mpr c5
        clear c5
        by_cases c6 : (wrap64 (4 * (wrap64 (Int.tmod (rd l0 0) 16)))) < 20
        · rw [if_pos c6] at H
          have c6b0 : decide ((wrap64 (4 * (wrap64 (Int.tmod (rd l0 0) 16)))) < 20) = true := decide_eq_true c6
          clear c6
          simp only [Option.some.injEq, Prod.mk.injEq] at H
          obtain ⟨rfl, rfl, rfl⟩ := H
          have p434 : 0 ≤ (0 : Int) := (by omega)
          have q434 : 0 < (l0.length : Int) := of_decide_eq_true zqxa10_0
          obtain ⟨ad434, e434, hx434_0⟩ := Kd.at_int HR0.out 0 p434 q434
          cases e434
          have qi434 : (0 < l0.length) = True := eq_true (by omega)
          (try rw [show ((0 : Int)).toNat = 0 from rfl] at hx434_0)
          (try rw [Addr.add_zero'] at hx434_0)
          replace p434 := eq_true p434
          replace q434 := eq_true q434
          have p435 : 0 ≤ (0 : Int) := (by omega)
          have q435 : 0 < (l0.length : Int) := of_decide_eq_true zqxa10_0
          obtain ⟨ad435, e435, hx435_0⟩ := Kd.at_int HR0.out 0 p435 q435
          obtain rfl : ad434 = ad435 := (by injection e435)
          have qi435 : (0 < l0.length) = True := eq_true (by omega)
          (try rw [show ((0 : Int)).toNat = 0 from rfl] at hx435_0)
          (try rw [Addr.add_zero'] at hx435_0)
          replace p435 := eq_true p435
          replace q435 := eq_true q435
          go_enter Try.func63, Try.ntmps63
          go_wp2
          go_ret3
          exact ⟨by first | rfl | (simp; done) | (simp [*]; done), by repeat (first | exact Drawn0.refl _ | apply Drawn0.step)⟩
        · rw [if_neg c6] at H
          have c6b0 : decide ((wrap64 (4 * (wrap64 (Int.tmod (rd l0 0) 16)))) < 20) = false := decide_eq_false c6
          clear c6
          by_cases c7 : (l0.length : Int) < (wrap64 (4 * (wrap64 (Int.tmod (rd l0 0) 16))))
          · rw [if_pos c7] at H
            have c7b0 : decide ((l0.length : Int) < (wrap64 (4 * (wrap64 (Int.tmod (rd l0 0) 16))))) = true := decide_eq_true c7
            clear c7
            simp only [Option.some.injEq, Prod.mk.injEq] at H
            obtain ⟨rfl, rfl, rfl⟩ := H
            have p434 : 0 ≤ (0 : Int) := (by omega)
            have q434 : 0 < (l0.length : Int) := of_decide_eq_true zqxa10_0
            obtain ⟨ad434, e434, hx434_0⟩ := Kd.at_int HR0.out 0 p434 q434
            cases e434
            have qi434 : (0 < l0.length) = True := eq_true (by omega)
            (try rw [show ((0 : Int)).toNat = 0 from rfl] at hx434_0)
            (try rw [Addr.add_zero'] at hx434_0)
            replace p434 := eq_true p434
            replace q434 := eq_true q434
            have p435 : 0 ≤ (0 : Int) := (by omega)
            have q435 : 0 < (l0.length : Int) := of_decide_eq_true zqxa10_0
            obtain ⟨ad435, e435, hx435_0⟩ := Kd.at_int HR0.out 0 p435 q435
            obtain rfl : ad434 = ad435 := (by injection e435)
            have qi435 : (0 < l0.length) = True := eq_true (by omega)
            (try rw [show ((0 : Int)).toNat = 0 from rfl] at hx435_0)
            (try rw [Addr.add_zero'] at hx435_0)
            replace p435 := eq_true p435
            replace q435 := eq_true q435
            go_enter Try.func63, Try.ntmps63
            go_wp2
            go_ret3
            exact ⟨by first | rfl | (simp; done) | (simp [*]; done), by repeat (first | exact Drawn0.refl _ | apply Drawn0.step)⟩
          · rw [if_neg c7] at H
            have c7b0 : decide ((l0.length : Int) < (wrap64 (4 * (wrap64 (Int.tmod (rd l0 0) 16))))) = false := decide_eq_false c7
            clear c7
            replace H := Option.bind_eq_some_iff.mp H
            obtain ⟨t436, A80, H⟩ := H
            replace H : (if t436 < (wrap64 (4 * (wrap64 (Int.tmod (rd l0 0) 16)))) then (some (0, 0, 32)) else (if a1 = true then (if (l0.length : Int) < t436 then (some (0, 0, 30)) else (some (wrap64 (4 * (wrap64 (Int.tmod (rd l0 0) 16))), t436, 0))) else (some (wrap64 (4 * (wrap64 (Int.tmod (rd l0 0) 16))), t436, 0)))) = some (r1, r2, r3) := H
            have A8 := Aside0.mk A80
            clear A80
            by_cases c9 : t436 < (wrap64 (4 * (wrap64 (Int.tmod (rd l0 0) 16))))
            · rw [if_pos c9] at H
              have c9b0 : decide (t436 < (wrap64 (4 * (wrap64 (Int.tmod (rd l0 0) 16))))) = true := decide_eq_true c9
              clear c9
              simp only [Option.some.injEq, Prod.mk.injEq] at H
              obtain ⟨rfl, rfl, rfl⟩ := H
              have p434 : 0 ≤ (0 : Int) := (by omega)
              have q434 : 0 < (l0.length : Int) := of_decide_eq_true zqxa10_0
              obtain ⟨ad434, e434, hx434_0⟩ := Kd.at_int HR0.out 0 p434 q434
              cases e434
              have qi434 : (0 < l0.length) = True := eq_true (by omega)
              (try rw [show ((0 : Int)).toNat = 0 from rfl] at hx434_0)
              (try rw [Addr.add_zero'] at hx434_0)
              replace p434 := eq_true p434
              replace q434 := eq_true q434
              have p435 : 0 ≤ (0 : Int) := (by omega)
              have q435 : 0 < (l0.length : Int) := of_decide_eq_true zqxa10_0
              obtain ⟨ad435, e435, hx435_0⟩ := Kd.at_int HR0.out 0 p435 q435
              obtain rfl : ad434 = ad435 := (by injection e435)
              have qi435 : (0 < l0.length) = True := eq_true (by omega)
              (try rw [show ((0 : Int)).toNat = 0 from rfl] at hx435_0)
              (try rw [Addr.add_zero'] at hx435_0)
              replace p435 := eq_true p435
              replace q435 := eq_true q435
              go_enter Try.func63, Try.ntmps63
              go_wp2_with (first | ((with_reducible refine gate_callee (f := 64) rfl ?_); refine goesL_ (some 30) rfl rfl Try.func64 (by kernel_rfl) rfl #[.slice (some ad434) l0.length c0, .int .i64 2] rfl (by (try simp only [List.map_toArray, List.map_cons, List.map_nil]); first | done | rfl | (simp only [List.length_drop, List.length_take]; rfl)) ?_; (with_reducible refine (weftref3_two.calls _ _ l0 2 t436 _ ?side1 ?side2 A8.out).mono ?_); (case side1 => repeat (first | exact HR0.out | (with_reducible refine Kd.C_alloc ?_ _) | (with_reducible refine Kd.C_drewN ?_ _) | (with_reducible refine Kd.C_drew ?_))); (case side2 => exact HC0.out); rintro e w' ⟨rfl, ⟨nd, rfl⟩⟩; refine ⟨_, rfl, ?_⟩))
              go_ret3
              exact ⟨by first | rfl | (simp; done) | (simp [*]; done), by repeat (first | exact Drawn0.refl _ | apply Drawn0.step)⟩
            · rw [if_neg c9] at H
              have c9b0 : decide (t436 < (wrap64 (4 * (wrap64 (Int.tmod (rd l0 0) 16))))) = false := decide_eq_false c9
              clear c9
              by_cases c10 : a1 = true
              · subst c10
                have H1 : (if (l0.length : Int) < t436 then (some (0, 0, 30)) else (some (wrap64 (4 * (wrap64 (Int.tmod (rd l0 0) 16))), t436, 0))) = some (r1, r2, r3) := by rw [if_pos rfl] at H; exact H
                clear H
                have H := H1
                clear H1
                by_cases c11 : (l0.length : Int) < t436
                · rw [if_pos c11] at H
                  have c11b0 : decide ((l0.length : Int) < t436) = true := decide_eq_true c11
                  clear c11
                  simp only [Option.some.injEq, Prod.mk.injEq] at H
                  obtain ⟨rfl, rfl, rfl⟩ := H
                  have p434 : 0 ≤ (0 : Int) := (by omega)
                  have q434 : 0 < (l0.length : Int) := of_decide_eq_true zqxa10_0
                  obtain ⟨ad434, e434, hx434_0⟩ := Kd.at_int HR0.out 0 p434 q434
                  cases e434
                  have qi434 : (0 < l0.length) = True := eq_true (by omega)
                  (try rw [show ((0 : Int)).toNat = 0 from rfl] at hx434_0)
                  (try rw [Addr.add_zero'] at hx434_0)
                  replace p434 := eq_true p434
                  replace q434 := eq_true q434
                  have p435 : 0 ≤ (0 : Int) := (by omega)
                  have q435 : 0 < (l0.length : Int) := of_decide_eq_true zqxa10_0
                  obtain ⟨ad435, e435, hx435_0⟩ := Kd.at_int HR0.out 0 p435 q435
                  obtain rfl : ad434 = ad435 := (by injection e435)
                  have qi435 : (0 < l0.length) = True := eq_true (by omega)
                  (try rw [show ((0 : Int)).toNat = 0 from rfl] at hx435_0)
                  (try rw [Addr.add_zero'] at hx435_0)
                  replace p435 := eq_true p435
                  replace q435 := eq_true q435
                  go_enter Try.func63, Try.ntmps63
                  go_wp2_with (first | ((with_reducible refine gate_callee (f := 64) rfl ?_); refine goesL_ (some 30) rfl rfl Try.func64 (by kernel_rfl) rfl #[.slice (some ad434) l0.length c0, .int .i64 2] rfl (by (try simp only [List.map_toArray, List.map_cons, List.map_nil]); first | done | rfl | (simp only [List.length_drop, List.length_take]; rfl)) ?_; (with_reducible refine (weftref3_two.calls _ _ l0 2 t436 _ ?side1 ?side2 A8.out).mono ?_); (case side1 => repeat (first | exact HR0.out | (with_reducible refine Kd.C_alloc ?_ _) | (with_reducible refine Kd.C_drewN ?_ _) | (with_reducible refine Kd.C_drew ?_))); (case side2 => exact HC0.out); rintro e w' ⟨rfl, ⟨nd, rfl⟩⟩; refine ⟨_, rfl, ?_⟩))
                  go_ret3
                  exact ⟨by first | rfl | (simp; done) | (simp [*]; done), by repeat (first | exact Drawn0.refl _ | apply Drawn0.step)⟩
                · rw [if_neg c11] at H
                  have c11b0 : decide ((l0.length : Int) < t436) = false := decide_eq_false c11
                  clear c11
                  simp only [Option.some.injEq, Prod.mk.injEq] at H
                  obtain ⟨rfl, rfl, rfl⟩ := H
                  have p434 : 0 ≤ (0 : Int) := (by omega)
                  have q434 : 0 < (l0.length : Int) := of_decide_eq_true zqxa10_0
                  obtain ⟨ad434, e434, hx434_0⟩ := Kd.at_int HR0.out 0 p434 q434
                  cases e434
                  have qi434 : (0 < l0.length) = True := eq_true (by omega)
                  (try rw [show ((0 : Int)).toNat = 0 from rfl] at hx434_0)
                  (try rw [Addr.add_zero'] at hx434_0)
                  replace p434 := eq_true p434
                  replace q434 := eq_true q434
                  have p435 : 0 ≤ (0 : Int) := (by omega)
                  have q435 : 0 < (l0.length : Int) := of_decide_eq_true zqxa10_0
                  obtain ⟨ad435, e435, hx435_0⟩ := Kd.at_int HR0.out 0 p435 q435
                  obtain rfl : ad434 = ad435 := (by injection e435)
                  have qi435 : (0 < l0.length) = True := eq_true (by omega)
                  (try rw [show ((0 : Int)).toNat = 0 from rfl] at hx435_0)
                  (try rw [Addr.add_zero'] at hx435_0)
                  replace p435 := eq_true p435
                  replace q435 := eq_true q435
                  go_enter Try.func63, Try.ntmps63
                  go_wp2_with (first | ((with_reducible refine gate_callee (f := 64) rfl ?_); refine goesL_ (some 30) rfl rfl Try.func64 (by kernel_rfl) rfl #[.slice (some ad434) l0.length c0, .int .i64 2] rfl (by (try simp only [List.map_toArray, List.map_cons, List.map_nil]); first | done | rfl | (simp only [List.length_drop, List.length_take]; rfl)) ?_; (with_reducible refine (weftref3_two.calls _ _ l0 2 t436 _ ?side1 ?side2 A8.out).mono ?_); (case side1 => repeat (first | exact HR0.out | (with_reducible refine Kd.C_alloc ?_ _) | (with_reducible refine Kd.C_drewN ?_ _) | (with_reducible refine Kd.C_drew ?_))); (case side2 => exact HC0.out); rintro e w' ⟨rfl, ⟨nd, rfl⟩⟩; refine ⟨_, rfl, ?_⟩))
                  go_ret3
                  exact ⟨by first | rfl | (simp; done) | (simp [*]; done), by repeat (first | exact Drawn0.refl _ | apply Drawn0.step)⟩
              · replace c10 := Bool.eq_false_iff.mpr c10
                subst c10
                have H1 : (some (wrap64 (4 * (wrap64 (Int.tmod (rd l0 0) 16))), t436, 0)) = some (r1, r2, r3) := by rw [if_neg (show ¬ (false = true) by decide)] at H; exact H
                clear H
                have H := H1
                clear H1
                simp only [Option.some.injEq, Prod.mk.injEq] at H
                obtain ⟨rfl, rfl, rfl⟩ := H
                have p434 : 0 ≤ (0 : Int) := (by omega)
                have q434 : 0 < (l0.length : Int) := of_decide_eq_true zqxa10_0
                obtain ⟨ad434, e434, hx434_0⟩ := Kd.at_int HR0.out 0 p434 q434
                cases e434
                have qi434 : (0 < l0.length) = True := eq_true (by omega)
                (try rw [show ((0 : Int)).toNat = 0 from rfl] at hx434_0)
                (try rw [Addr.add_zero'] at hx434_0)
                replace p434 := eq_true p434
                replace q434 := eq_true q434
                have p435 : 0 ≤ (0 : Int) := (by omega)
                have q435 : 0 < (l0.length : Int) := of_decide_eq_true zqxa10_0
                obtain ⟨ad435, e435, hx435_0⟩ := Kd.at_int HR0.out 0 p435 q435
                obtain rfl : ad434 = ad435 := (by injection e435)
                have qi435 : (0 < l0.length) = True := eq_true (by omega)
                (try rw [show ((0 : Int)).toNat = 0 from rfl] at hx435_0)
                (try rw [Addr.add_zero'] at hx435_0)
                replace p435 := eq_true p435
                replace q435 := eq_true q435
                go_enter Try.func63, Try.ntmps63
                go_wp2_with (first | ((with_reducible refine gate_callee (f := 64) rfl ?_); refine goesL_ (some 30) rfl rfl Try.func64 (by kernel_rfl) rfl #[.slice (some ad434) l0.length c0, .int .i64 2] rfl (by (try simp only [List.map_toArray, List.map_cons, List.map_nil]); first | done | rfl | (simp only [List.length_drop, List.length_take]; rfl)) ?_; (with_reducible refine (weftref3_two.calls _ _ l0 2 t436 _ ?side1 ?side2 A8.out).mono ?_); (case side1 => repeat (first | exact HR0.out | (with_reducible refine Kd.C_alloc ?_ _) | (with_reducible refine Kd.C_drewN ?_ _) | (with_reducible refine Kd.C_drew ?_))); (case side2 => exact HC0.out); rintro e w' ⟨rfl, ⟨nd, rfl⟩⟩; refine ⟨_, rfl, ?_⟩))
                go_ret3
                exact ⟨by first | rfl | (simp; done) | (simp [*]; done), by repeat (first | exact Drawn0.refl _ | apply Drawn0.step)⟩
      · rw [if_neg c5] at H
        have c5b0 : (((Int.tdiv (rd l0 0) 16) % 256) == 4) = false := beq_eq_false_iff_ne.mpr c5
        have c5b1 : (((Int.tdiv (rd l0 0) 16) % 256) != 4) = true := bne_iff_ne.mpr c5
        simp only [Option.some.injEq, Prod.mk.injEq] at H
        obtain ⟨rfl, rfl, rfl⟩ := H
        have p434 : 0 ≤ (0 : Int) := (by omega)
        have q434 : 0 < (l0.length : Int) := of_decide_eq_true zqxa10_0
        obtain ⟨ad434, e434, hx434_0⟩ := Kd.at_int HR0.out 0 p434 q434
        cases e434
        have qi434 : (0 < l0.length) = True := eq_true (by omega)
        (try rw [show ((0 : Int)).toNat = 0 from rfl] at hx434_0)
        (try rw [Addr.add_zero'] at hx434_0)
        replace p434 := eq_true p434
        replace q434 := eq_true q434
        go_enter Try.func63, Try.ntmps63
        go_wp2
        go_ret3
        exact ⟨by first | rfl | (simp; done) | (simp [*]; done), by repeat (first | exact Drawn0.refl _ | apply Drawn0.step)⟩
    · rw [if_neg c4] at H
      exact absurd H (by simp)

/-! ### weftref3_four: function 65 -/
def weftref3_four.f (l0 : List Int) (a1 : Int) : Option (Int) := (weftref3_two.f l0 a1).bind fun t437 => ((weftref3_two.f l0 (wrap64 (a1 + 2))).bind fun t438 => (some (wrap64 ((wrap64 (65536 * t437)) + t438))))
set_option maxHeartbeats 8000000 in
set_option maxRecDepth 100000 in
theorem weftref3_four.calls (A0 : Option Addr) (c0 : Nat) (l0 : List Int) (a1 : Int) (r : Int) (w : World) (hr0 : Kd.C (Kd.int .u8) w A0 l0.length l0) (hc0 : l0.length ≤ c0) (h : weftref3_four.f l0 a1 = some r) :
    Calls Try.prog 65 #[.slice A0 l0.length c0, .int .i64 a1] w fun e w' => e = .returned (.int .i64 r) ∧ Drawn0 w w' := by
  have HR0 := Aside0.mk hr0
  have HC0 := Aside0.mk hc0
  clear hr0 hc0
  have H : ((weftref3_two.f l0 a1).bind fun t437 => ((weftref3_two.f l0 (wrap64 (a1 + 2))).bind fun t438 => (some (wrap64 ((wrap64 (65536 * t437)) + t438))))) = some r := h
  clear h
  replace H := Option.bind_eq_some_iff.mp H
  obtain ⟨t437, A30, H⟩ := H
  replace H : ((weftref3_two.f l0 (wrap64 (a1 + 2))).bind fun t438 => (some (wrap64 ((wrap64 (65536 * t437)) + t438)))) = some r := H
  have A3 := Aside0.mk A30
  clear A30
  replace H := Option.bind_eq_some_iff.mp H
  obtain ⟨t438, A40, H⟩ := H
  replace H : (some (wrap64 ((wrap64 (65536 * t437)) + t438))) = some r := H
  have A4 := Aside0.mk A40
  clear A40
  obtain rfl := Option.some.inj H
  go_enter Try.func65, Try.ntmps65
  go_wp2_with (first | ((with_reducible refine gate_callee (f := 64) rfl ?_); refine goesL_ (some 7) rfl rfl Try.func64 (by kernel_rfl) rfl #[.slice A0 l0.length c0, .int .i64 a1] rfl (by (try simp only [List.map_toArray, List.map_cons, List.map_nil]); first | done | rfl | (simp only [List.length_drop, List.length_take]; rfl)) ?_; (with_reducible refine (weftref3_two.calls _ _ l0 a1 t437 _ ?side1 ?side2 A3.out).mono ?_); (case side1 => repeat (first | exact HR0.out | (with_reducible refine Kd.C_alloc ?_ _) | (with_reducible refine Kd.C_drewN ?_ _) | (with_reducible refine Kd.C_drew ?_))); (case side2 => exact HC0.out); rintro e w' ⟨rfl, ⟨nd, rfl⟩⟩; refine ⟨_, rfl, ?_⟩) | ((with_reducible refine gate_callee (f := 64) rfl ?_); refine goesL_ (some 12) rfl rfl Try.func64 (by kernel_rfl) rfl #[.slice A0 l0.length c0, .int .i64 (wrap64 (a1 + 2))] rfl (by (try simp only [List.map_toArray, List.map_cons, List.map_nil]); first | done | rfl | (simp only [List.length_drop, List.length_take]; rfl)) ?_; (with_reducible refine (weftref3_two.calls _ _ l0 (wrap64 (a1 + 2)) t438 _ ?side1 ?side2 A4.out).mono ?_); (case side1 => repeat (first | exact HR0.out | (with_reducible refine Kd.C_alloc ?_ _) | (with_reducible refine Kd.C_drewN ?_ _) | (with_reducible refine Kd.C_drew ?_))); (case side2 => exact HC0.out); rintro e w' ⟨rfl, ⟨nd, rfl⟩⟩; refine ⟨_, rfl, ?_⟩))
  go_ret
  exact ⟨by first | rfl | (simp; done) | (simp [*]; done), by repeat (first | exact Drawn0.refl _ | apply Drawn0.step)⟩

/-! ### weftref3_clone: function 66 -/
def weftref3_clone.l0 : Nat → List Int → List Int → Int → Option (List Int)
  | 0, _, _, _ => none
  | k + 1, x0, x3, x4 => if x4 < (x0.length : Int) then (if 0 ≤ x4 then (if x3.length < 140737488355328 then (weftref3_clone.l0 k x0 (x3 ++ [rd x0 x4]) (wrap64 (x4 + 1))) else (none)) else (none)) else (some x3)
def weftref3_clone.f (k : Nat) (l0 : List Int) : Option (List Int) := weftref3_clone.l0 k l0 ([] : List Int) 0
theorem weftref3_clone.mono_l : ∀ k, (∀ y0 y1 y2, LeO (weftref3_clone.l0 k y0 y1 y2) (weftref3_clone.l0 (k + 1) y0 y1 y2))
  | 0 => fun _ _ _ r h => by simp [weftref3_clone.l0] at h
  | k + 1 => by
    have ih0 := weftref3_clone.mono_l k
    · intro y0 y1 y2
      unfold weftref3_clone.l0
      repeat' first
      | (with_reducible exact ih0 _ _ _)
      | (with_reducible exact LeO.refl _)
      | (with_reducible exact LeO.none _)
      | (with_reducible refine LeO.ite ?_ ?_)
      | (with_reducible refine LeO.bind ?_ (fun _ => ?_))
      | exact ih0 _ _ _
      | exact LeO.none _
      | refine LeO.ite ?_ ?_
      | refine LeO.bind ?_ (fun _ => ?_)
theorem weftref3_clone.mono : ∀ a0 k, LeO (weftref3_clone.f k a0) (weftref3_clone.f (k + 1) a0) := by
  intro a0 k
  have ih0 := weftref3_clone.mono_l k
  unfold weftref3_clone.f
  repeat' first
      | (with_reducible exact ih0 _ _ _)
      | (with_reducible exact LeO.refl _)
      | (with_reducible exact LeO.none _)
      | (with_reducible refine LeO.ite ?_ ?_)
      | (with_reducible refine LeO.bind ?_ (fun _ => ?_))
      | exact ih0 _ _ _
      | exact LeO.none _
      | refine LeO.ite ?_ ?_
      | refine LeO.bind ?_ (fun _ => ?_)
set_option maxHeartbeats 8000000 in
set_option maxRecDepth 100000 in
theorem weftref3_clone.calls (k : Nat) (A0 : Option Addr) (c0 : Nat) (l0 : List Int) (r : List Int) (w : World) (hr0 : Kd.C (Kd.int .u8) w A0 l0.length l0) (hc0 : l0.length ≤ c0) (h : weftref3_clone.f k l0 = some r) :
    Calls Try.prog 66 #[.slice A0 l0.length c0] w fun e w' => ∃ v0_ : Value, e = .returned (v0_) ∧ Kd.R (Kd.int .u8) 5 w' w.heap.size (fun _ => True) v0_ r ∧ Below w.heap.size w w' := by
  have HR0 := Aside0.mk hr0
  have HC0 := Aside0.mk hc0
  clear hr0 hc0
  have HB := Aside0.mk (Below.refl w.heap.size w)
  have H : (weftref3_clone.l0 k l0 ([] : List Int) 0) = some r := h
  clear h
  have H' := Aside0.mk H
  clear H
  go_enter Try.func66, Try.ntmps66
  go_wp2
  go_loopg [3, 4] k (fun kq v3 v4 w' => ∃ (x3_1 : List Int) (x4_1 : Int), v4 = .int .i64 x4_1 ∧ Aside0 (weftref3_clone.l0 kq l0 x3_1 x4_1 = some r) ∧ Aside0 (kq ≤ k) ∧ Aside0 (Kd.R (Kd.int .u8) 5 w' w.heap.size (fun _ => True) v3 x3_1) ∧ Aside0 (Below w.heap.size w w'))
  case atStart => exact ⟨(([] : List Int)), (0), (by first | rfl | (simp; done) | (simp [*]; done)), H', ⟨Nat.le_refl _⟩, ⟨by first | exact Kd.R_nil _ _ _ _ _ | exact Kd.N_nil _ _ _ _ _ | exact Kd.V_nil _ _ _ _ _ | exact Kd.Q_nil _ _ _ _ _ | exact Kd.S_nil _ _ _ _ _⟩, ⟨by repeat (first | (with_reducible first | exact HB.out | apply below_alloc | apply pw_below_drewN | apply below_drew1) | exact HB.out)⟩⟩
  case round =>
    clear H'
    obtain ⟨x3_1, x4_1, rfl, HA, HK1, HO_3, HB⟩ := hrel
    cases gk with
    | zero => exact absurd HA.out (by simp [weftref3_clone.l0])
    | succ k1 =>
      have H := HA.out
      clear HA
      simp only [weftref3_clone.l0] at H
      by_cases c2 : x4_1 < (l0.length : Int)
      · rw [if_pos c2] at H
        have c2b0 : decide (x4_1 < (l0.length : Int)) = true := decide_eq_true c2
        clear c2
        by_cases c3 : 0 ≤ x4_1
        · rw [if_pos c3] at H
          have c3b0 : decide (0 ≤ x4_1) = true := decide_eq_true c3
          clear c3
          by_cases c4 : x3_1.length < 140737488355328
          · rw [if_pos c4] at H
            have LMc4 := Aside0.mk c4
            clear c4
            obtain ⟨y440, hy440⟩ : ∃ y_ : List Int, y_ = (x3_1 ++ [rd l0 x4_1]) := ⟨_, rfl⟩
            replace H : (weftref3_clone.l0 k1 l0 y440 (wrap64 (x4_1 + 1))) = some r := by first | (rw [hy440]; with_reducible exact H) | (have H2_ := (Option.bind_some _ _).symm.trans H; rw [hy440]; with_reducible exact H2_) | (have H2_ := (Option.bind_some _ _).symm.trans H; with_reducible exact H2_) | with_reducible exact H | (rw [hy440]; exact H) | exact H
            have Ny440 := Aside0.mk hy440
            clear hy440
            have H' := Aside0.mk H
            clear H
            have p439 : 0 ≤ (x4_1 : Int) := of_decide_eq_true zqxa10_0
            have q439 : x4_1 < (l0.length : Int) := of_decide_eq_true zqxa10_0
            obtain ⟨ad439, e439, hx439_0⟩ := Kd.at_int HR0.out x4_1 p439 q439
            cases e439
            replace hx439_0 := (HB.out.cell (World.block_lt_of_cell? w _ hx439_0)).trans hx439_0
            replace p439 := eq_true p439
            replace q439 := eq_true q439
            go_wp2_with (first | ((with_reducible refine gate_builtin (b := .append) (xs := #[.tmp 11, .tmp 16]) rfl ?_); at_builtin; refine Kd.R_append (Kd.int .u8) (w0 := w) w.heap.size rfl (.tmp 11) (.tmp 16) 23 5 (.int .u8 0) 1 rfl Try.underlying23 info5 rfl (by decide) (by omega) u3 x3_1 (rd l0 x4_1) [.int .u8 (rd l0 x4_1)] (fun _ => True) (fun _ => False) rfl rfl ?aP (fun _ hk => hk.elim) ?aF ?aO ?aB ?aS ?aL ?_; (case aP => exact rfl); (case aB => exact (by repeat (first | (with_reducible first | exact HB.out | apply below_alloc | apply pw_below_drewN | apply below_drew1) | exact HB.out))); (case aF => exact (fun _ _ => trivial)); (case aO => exact (by (with_reducible repeat (first | apply Kd.R_alloc | apply Kd.R_drewN | apply Kd.R_drew)); exact HO_3.out)); (case aS => exact (below_size (by repeat (first | (with_reducible first | exact HB.out | apply below_alloc | apply pw_below_drewN | apply below_drew1) | exact HB.out)))); (case aL => have := LMc4.out; omega); intro v441 w5 ho hb hg hat; rw [← Ny440.out] at ho; have n0_ := Aside0.mk (hb); have n1_ := Aside0.mk (ho); clear HB; clear HO_3; have HB := n0_; have HO442 := n1_; clear n0_ n1_; clear ho hb hg hat))
            go_roundg k1
            case measure => have := HK1.out; omega
            case rel => exact ⟨(y440), (wrap64 (x4_1 + 1)), (by first | rfl | (simp; done) | (simp [*]; done)), H', ⟨by have := HK1.out; omega⟩, ⟨by (with_reducible repeat (first | apply Kd.R_alloc | apply Kd.R_drewN | apply Kd.R_drew)); exact HO442.out⟩, ⟨by repeat (first | (with_reducible first | exact HB.out | apply below_alloc | apply pw_below_drewN | apply below_drew1) | exact HB.out)⟩⟩
          · rw [if_neg c4] at H
            exact absurd H (by simp)
        · rw [if_neg c3] at H
          exact absurd H (by simp)
      · rw [if_neg c2] at H
        have c2b0 : decide (x4_1 < (l0.length : Int)) = false := decide_eq_false c2
        clear c2
        obtain rfl := Option.some.inj H
        go_wp2
        go_ret
        exact ⟨_, by first | rfl | (simp [errW_none, errW_some] <;> rfl) | (simp [*, errW_none, errW_some] <;> rfl), by (with_reducible repeat (first | apply Kd.R_alloc | apply Kd.R_drewN | apply Kd.R_drew)); exact HO_3.out, by repeat (first | (with_reducible first | exact HB.out | apply below_alloc | apply pw_below_drewN | apply below_drew1) | exact HB.out)⟩

end Go.Proofs.Ytmjhfkjnnpnoaaa.XA
