-- printed by a program of this session (wip/xprint), out of the translation; Lean checks it
import Derived.Test.YtmjhfkjnnpnoaaaQIXAx0
namespace Go.Proofs.Ytmjhfkjnnpnoaaa.XA
open Go.RowKit Go.Proofs.YtmjhfkjnnpnoaaaW.PrintWords Go.Proofs.YtmjhfkjnnpnoaaaW.PrintLast Go.Proofs.YtmjhfkjnnpnoaaaW.PrintMore Go.Proofs.YtmjhfkjnnpnoaaaX
theorem zqxa8_0 {P : Prop} (h : P := by first | (with_reducible assumption) | assumption) : P := h
attribute [local go_sem] max2_int min2_int max_two min_two max_three min_three max_four min_four   -- for this text's walks alone
set_option linter.unusedVariables false
set_option linter.unusedSimpArgs false

/-! ### ip4_optionsOK: function 50 -/
mutual
def ip4_optionsOK.j0 : Nat → List Int → Bool → Option (Bool)
  | 0, _, _ => none
  | k + 1, x0, x14 => if x14 = true then (some false) else (ip4_optionsOK.l0 k x0 0)
def ip4_optionsOK.l0 : Nat → List Int → Int → Option (Bool)
  | 0, _, _ => none
  | k + 1, x0, x3 => if x3 < (x0.length : Int) then (if 0 ≤ x3 then (if (rd x0 x3) = 0 then (if x3 ≤ (x0.length : Int) then (ip4_optionsOK.l1 k (x0.drop (x3 : Int).toNat) ((x0.drop (x3 : Int).toNat).length : Int) 0) else (none)) else (if (rd x0 x3) = 1 then (ip4_optionsOK.l0 k x0 (wrap64 (x3 + 1))) else (if (wrap64 (x3 + 1)) ≥ (x0.length : Int) then (some false) else (if 0 ≤ (wrap64 (x3 + 1)) then (if (wrap64 (x3 + 1)) < (x0.length : Int) then (if (rd x0 (wrap64 (x3 + 1))) < 2 then (some false) else (if (wrap64 (x3 + (wrap64 (rd x0 (wrap64 (x3 + 1)))))) > (x0.length : Int) then (some false) else (ip4_optionsOK.l0 k x0 (wrap64 (x3 + (wrap64 (rd x0 (wrap64 (x3 + 1))))))))) else (none)) else (none))))) else (none)) else (some true)
def ip4_optionsOK.l1 : Nat → List Int → Int → Int → Option (Bool)
  | 0, _, _, _ => none
  | k + 1, x61, x62, x63 => if x63 < x62 then (if 0 ≤ x63 then (if x63 < (x61.length : Int) then (if (rd x61 x63) = 0 then (ip4_optionsOK.l1 k x61 x62 (wrap64 (x63 + 1))) else (some false)) else (none)) else (none)) else (some true)
end
def ip4_optionsOK.f (k : Nat) (l0 : List Int) : Option (Bool) := if (l0.length : Int) > 40 then (ip4_optionsOK.j0 k l0 true) else (ip4_optionsOK.j0 k l0 (((l0.length : Int) % 4) != 0))
theorem ip4_optionsOK.mono_l : ∀ k, (∀ y0 y1, LeO (ip4_optionsOK.j0 k y0 y1) (ip4_optionsOK.j0 (k + 1) y0 y1)) ∧ (∀ y0 y1, LeO (ip4_optionsOK.l0 k y0 y1) (ip4_optionsOK.l0 (k + 1) y0 y1)) ∧ (∀ y0 y1 y2, LeO (ip4_optionsOK.l1 k y0 y1 y2) (ip4_optionsOK.l1 (k + 1) y0 y1 y2))
  | 0 => ⟨fun _ _ r h => by simp [ip4_optionsOK.j0] at h, fun _ _ r h => by simp [ip4_optionsOK.l0] at h, fun _ _ _ r h => by simp [ip4_optionsOK.l1] at h⟩
  | k + 1 => by
    obtain ⟨ih0, ih1, ih2⟩ := ip4_optionsOK.mono_l k
    refine ⟨?_, ?_, ?_⟩
    · intro y0 y1
      unfold ip4_optionsOK.j0
      repeat' first
      | (with_reducible exact ih0 _ _)
      | (with_reducible exact ih1 _ _)
      | (with_reducible exact ih2 _ _ _)
      | (with_reducible exact LeO.refl _)
      | (with_reducible exact LeO.none _)
      | (with_reducible refine LeO.ite ?_ ?_)
      | (with_reducible refine LeO.bind ?_ (fun _ => ?_))
      | exact ih0 _ _
      | exact ih1 _ _
      | exact ih2 _ _ _
      | exact LeO.none _
      | refine LeO.ite ?_ ?_
      | refine LeO.bind ?_ (fun _ => ?_)
    · intro y0 y1
      unfold ip4_optionsOK.l0
      repeat' first
      | (with_reducible exact ih0 _ _)
      | (with_reducible exact ih1 _ _)
      | (with_reducible exact ih2 _ _ _)
      | (with_reducible exact LeO.refl _)
      | (with_reducible exact LeO.none _)
      | (with_reducible refine LeO.ite ?_ ?_)
      | (with_reducible refine LeO.bind ?_ (fun _ => ?_))
      | exact ih0 _ _
      | exact ih1 _ _
      | exact ih2 _ _ _
      | exact LeO.none _
      | refine LeO.ite ?_ ?_
      | refine LeO.bind ?_ (fun _ => ?_)
    · intro y0 y1 y2
      unfold ip4_optionsOK.l1
      repeat' first
      | (with_reducible exact ih0 _ _)
      | (with_reducible exact ih1 _ _)
      | (with_reducible exact ih2 _ _ _)
      | (with_reducible exact LeO.refl _)
      | (with_reducible exact LeO.none _)
      | (with_reducible refine LeO.ite ?_ ?_)
      | (with_reducible refine LeO.bind ?_ (fun _ => ?_))
      | exact ih0 _ _
      | exact ih1 _ _
      | exact ih2 _ _ _
      | exact LeO.none _
      | refine LeO.ite ?_ ?_
      | refine LeO.bind ?_ (fun _ => ?_)
theorem ip4_optionsOK.mono : ∀ a0 k, LeO (ip4_optionsOK.f k a0) (ip4_optionsOK.f (k + 1) a0) := by
  intro a0 k
  obtain ⟨ih0, ih1, ih2⟩ := ip4_optionsOK.mono_l k
  unfold ip4_optionsOK.f
  repeat' first
      | (with_reducible exact ih0 _ _)
      | (with_reducible exact ih1 _ _)
      | (with_reducible exact ih2 _ _ _)
      | (with_reducible exact LeO.refl _)
      | (with_reducible exact LeO.none _)
      | (with_reducible refine LeO.ite ?_ ?_)
      | (with_reducible refine LeO.bind ?_ (fun _ => ?_))
      | exact ih0 _ _
      | exact ih1 _ _
      | exact ih2 _ _ _
      | exact LeO.none _
      | refine LeO.ite ?_ ?_
      | refine LeO.bind ?_ (fun _ => ?_)
set_option maxHeartbeats 8000000 in
set_option maxRecDepth 100000 in
theorem ip4_optionsOK.calls (k : Nat) (A0 : Option Addr) (c0 : Nat) (l0 : List Int) (r : Bool) (w : World) (hr0 : Kd.C (Kd.int .u8) w A0 l0.length l0) (hc0 : l0.length ≤ c0) (h : ip4_optionsOK.f k l0 = some r) :
    Calls Try.prog 50 #[.slice A0 l0.length c0] w fun e w' => e = .returned (.bool r) ∧ Drawn0 w w' := by
  have HR0 := Aside0.mk hr0
  have HC0 := Aside0.mk hc0
  clear hr0 hc0
  have H : (if (l0.length : Int) > 40 then (ip4_optionsOK.j0 k l0 true) else (ip4_optionsOK.j0 k l0 (((l0.length : Int) % 4) != 0))) = some r := h
  clear h
  have HC2 := Aside0.mk H
  clear H
  go_enter Try.func50, Try.ntmps50
  go_upto_region 1 with (fail)
  go_cut [14] (fun v14 wc => ∃ (kq : Nat) (x14_1 : Bool), v14 = .bool x14_1 ∧ Aside0 (ip4_optionsOK.j0 kq l0 x14_1 = some r) ∧ Aside0 (kq ≤ k) ∧ Drawn0 w wc)
  case first =>
    have H := HC2.out
    clear HC2
    by_cases c3 : (l0.length : Int) > 40
    · rw [if_pos c3] at H
      have c3b0 : decide (40 < (l0.length : Int)) = true := decide_eq_true c3
      have c3b1 : decide (40 < l0.length) = true := decide_eq_true (by omega)
      clear c3
      (first | rw [c3b0] | (simp only [i64_w, i32_w]; rw [c3b0]) | skip)
      have H' := Aside0.mk H
      clear H
      go_wp2
      go_meet
      case rel => exact ⟨_, (true), (by first | rfl | (simp; done) | (simp [*]; done)), H', ⟨by first | omega | exact Nat.le_refl _⟩, by repeat (first | exact Drawn0.refl _ | apply Drawn0.step)⟩
    · rw [if_neg c3] at H
      have c3b0 : decide (40 < (l0.length : Int)) = false := decide_eq_false c3
      have c3b1 : decide (40 < l0.length) = false := decide_eq_false (by omega)
      clear c3
      (first | rw [c3b0] | (simp only [i64_w, i32_w]; rw [c3b0]) | skip)
      have H' := Aside0.mk H
      clear H
      go_wp2
      go_meet
      case rel => exact ⟨_, ((((l0.length : Int) % 4) != 0)), (by first | rfl | (simp; done) | (simp [*]; done)), H', ⟨by first | omega | exact Nat.le_refl _⟩, by repeat (first | exact Drawn0.refl _ | apply Drawn0.step)⟩
  case rest =>
    clear HC2
    try clear p2
    try clear c3
    try clear c3b0
    try clear c3b1
    obtain ⟨kq, x14_1, rfl, HA, HJ1, ⟨mc1, rfl⟩⟩ := hcut
    cases kq with
    | zero => exact absurd HA.out (by simp [ip4_optionsOK.j0])
    | succ kj1 =>
      have H := HA.out
      clear HA
      simp only [ip4_optionsOK.j0] at H
      by_cases c4 : x14_1 = true
      · subst c4
        have H1 : (some false) = some r := by rw [if_pos rfl] at H; exact H
        clear H
        have H := H1
        clear H1
        obtain rfl := Option.some.inj H
        go_wp2
        go_ret
        exact ⟨by first | rfl | (simp; done) | (simp [*]; done), by repeat (first | exact Drawn0.refl _ | apply Drawn0.step)⟩
      · replace c4 := Bool.eq_false_iff.mpr c4
        subst c4
        have H1 : (ip4_optionsOK.l0 kj1 l0 0) = some r := by rw [if_neg (show ¬ (false = true) by decide)] at H; exact H
        clear H
        have H := H1
        clear H1
        have H' := Aside0.mk H
        clear H
        go_wp2
        go_loopg [3] kj1 (fun kq v3 w' => ∃ (x3_2 : Int), v3 = .int .i64 x3_2 ∧ Aside0 (ip4_optionsOK.l0 kq l0 x3_2 = some r) ∧ Aside0 (kq ≤ kj1) ∧ Drawn0 w w')
        case atStart => exact ⟨(0), (by first | rfl | (simp; done) | (simp [*]; done)), H', ⟨Nat.le_refl _⟩, by repeat (first | exact Drawn0.refl _ | apply Drawn0.step)⟩
        case round =>
          clear H'
          try clear c1
          try clear p2
          try clear c3
          try clear c3b0
          try clear c3b1
          try clear c4
          try clear p4
          try clear p2
          obtain ⟨x3_2, rfl, HA, HK2, ⟨m2, rfl⟩⟩ := hrel
          cases gk with
          | zero => exact absurd HA.out (by simp [ip4_optionsOK.l0])
          | succ k2 =>
            have H := HA.out
            clear HA
            simp only [ip4_optionsOK.l0] at H
            by_cases c5 : x3_2 < (l0.length : Int)
            · rw [if_pos c5] at H
              have c5b0 : decide (x3_2 < (l0.length : Int)) = true := decide_eq_true c5
              clear c5
              by_cases c6 : 0 ≤ x3_2
              · rw [if_pos c6] at H
                have c6b0 : decide (0 ≤ x3_2) = true := decide_eq_true c6
                clear c6
                by_cases c7 : (rd l0 x3_2) = 0
                · rw [if_pos c7] at H
                  have c7b0 : ((rd l0 x3_2) == 0) = true := beq_iff_eq.mpr c7
                  have c7b1 : ((rd l0 x3_2) != 0) = false := bne_eq_false_iff_eq.mpr c7
                  clear c7
                  have c8b0 := eq_true (of_decide_eq_true zqxa8_0 : 0 ≤ x3_2)
                  by_cases c9 : x3_2 ≤ (l0.length : Int)
                  · rw [if_pos c9] at H
                    have c9b0 := eq_true c9
                    have c9b1 : decide (x3_2 ≤ (l0.length : Int)) = true := decide_eq_true c9
                    clear c9
                    have H' := Aside0.mk H
                    clear H
                    have p352 : 0 ≤ (x3_2 : Int) := of_decide_eq_true zqxa8_0
                    have q352 : x3_2 < (l0.length : Int) := of_decide_eq_true zqxa8_0
                    obtain ⟨ad352, e352, hx352_0⟩ := Kd.at_int HR0.out x3_2 p352 q352
                    cases e352
                    replace p352 := eq_true p352
                    replace q352 := eq_true q352
                    obtain ⟨i010, hi010, _, hsz10, _⟩ := info_parts info5
                    obtain ⟨A10, hcut10, hA10, hC10⟩ := print_drop_of (P := Try.prog) (Value.int .u8) 0 23 5 .i64 Try.underlying23 hi010 hsz10 (some ad352) c0 l0 x3_2 (of_decide_eq_true zqxa8_0) (of_decide_eq_true zqxa8_0) HC0.out
                    have HR353 := Aside0.mk (Kd.C_of_reads (h1 := fun _ => rfl) (hA10 _ (Kd.reads_of_C HR0.out)))
                    have HC353 := Aside0.mk hC10
                    clear hA10 hC10 hi010 hsz10
                    go_wp2
                    go_loopg [63] k2 (fun kq v63 w' => ∃ (x63_3 : Int), v63 = .int .i64 x63_3 ∧ Aside0 (ip4_optionsOK.l1 kq (l0.drop (x3_2 : Int).toNat) ((l0.drop (x3_2 : Int).toNat).length : Int) x63_3 = some r) ∧ Aside0 (kq ≤ k2) ∧ Drawn0 w w')
                    case atStart => exact ⟨(0), (by first | rfl | (simp; done) | (simp [*]; done)), H', ⟨Nat.le_refl _⟩, by repeat (first | exact Drawn0.refl _ | apply Drawn0.step)⟩
                    case round =>
                      clear H'
                      try clear c1
                      try clear p2
                      try clear c3
                      try clear c3b0
                      try clear c3b1
                      try clear p3
                      try clear q3
                      try clear hx3
                      try clear c4
                      try clear p4
                      try clear c5
                      try clear c5b0
                      try clear c6
                      try clear c6b0
                      try clear c7
                      try clear c7b0
                      try clear c7b1
                      try clear c8
                      try clear c8b0
                      try clear c9
                      try clear c9b0
                      try clear c9b1
                      try clear hx352_0
                      try clear p2
                      try clear p352
                      try clear p4
                      try clear q352
                      obtain ⟨x63_3, rfl, HA, HK3, ⟨m3, rfl⟩⟩ := hrel
                      cases gk with
                      | zero => exact absurd HA.out (by simp [ip4_optionsOK.l1])
                      | succ k3 =>
                        have H := HA.out
                        clear HA
                        simp only [ip4_optionsOK.l1] at H
                        by_cases c11 : x63_3 < ((l0.drop (x3_2 : Int).toNat).length : Int)
                        · rw [if_pos c11] at H
                          have c11b0 : decide (x63_3 < ((l0.drop (x3_2 : Int).toNat).length : Int)) = true := decide_eq_true c11
                          (try (have c11b2 := c11b0; simp only [List.length_drop] at c11b2))
                          clear c11
                          by_cases c12 : 0 ≤ x63_3
                          · rw [if_pos c12] at H
                            have c12b0 : decide (0 ≤ x63_3) = true := decide_eq_true c12
                            clear c12
                            by_cases c13 : x63_3 < ((l0.drop (x3_2 : Int).toNat).length : Int)
                            · rw [if_pos c13] at H
                              have c13b0 : decide (x63_3 < ((l0.drop (x3_2 : Int).toNat).length : Int)) = true := decide_eq_true c13
                              (try (have c13b2 := c13b0; simp only [List.length_drop] at c13b2))
                              clear c13
                              by_cases c14 : (rd (l0.drop (x3_2 : Int).toNat) x63_3) = 0
                              · rw [if_pos c14] at H
                                have c14b0 : ((rd (l0.drop (x3_2 : Int).toNat) x63_3) == 0) = true := beq_iff_eq.mpr c14
                                have c14b1 : ((rd (l0.drop (x3_2 : Int).toNat) x63_3) != 0) = false := bne_eq_false_iff_eq.mpr c14
                                clear c14
                                have H' := Aside0.mk H
                                clear H
                                have p354 : 0 ≤ (x63_3 : Int) := of_decide_eq_true zqxa8_0
                                have q354 : x63_3 < ((l0.drop (x3_2 : Int).toNat).length : Int) := of_decide_eq_true zqxa8_0
                                obtain ⟨ad354, e354, hx354_0⟩ := Kd.at_int HR353.out x63_3 p354 q354
                                cases e354
                                replace p354 := eq_true p354
                                replace q354 := eq_true q354
                                (try (have qz354 := q354; simp only [List.length_drop] at qz354))
                                go_wp2
                                go_roundg k3
                                case measure => have := HJ1.out; have := HK2.out; have := HK3.out; omega
                                case rel => exact ⟨(wrap64 (x63_3 + 1)), (by first | rfl | (simp; done) | (simp [*]; done)), H', ⟨by have := HJ1.out; have := HK2.out; have := HK3.out; omega⟩, by repeat (first | exact Drawn0.refl _ | apply Drawn0.step)⟩
                              · rw [if_neg c14] at H
                                have c14b0 : ((rd (l0.drop (x3_2 : Int).toNat) x63_3) == 0) = false := beq_eq_false_iff_ne.mpr c14
                                have c14b1 : ((rd (l0.drop (x3_2 : Int).toNat) x63_3) != 0) = true := bne_iff_ne.mpr c14
                                obtain rfl := Option.some.inj H
                                have p354 : 0 ≤ (x63_3 : Int) := of_decide_eq_true zqxa8_0
                                have q354 : x63_3 < ((l0.drop (x3_2 : Int).toNat).length : Int) := of_decide_eq_true zqxa8_0
                                obtain ⟨ad354, e354, hx354_0⟩ := Kd.at_int HR353.out x63_3 p354 q354
                                cases e354
                                replace p354 := eq_true p354
                                replace q354 := eq_true q354
                                (try (have qz354 := q354; simp only [List.length_drop] at qz354))
                                go_wp2
                                go_ret
                                exact ⟨by first | rfl | (simp; done) | (simp [*]; done), by repeat (first | exact Drawn0.refl _ | apply Drawn0.step)⟩
                            · rw [if_neg c13] at H
                              exact absurd H (by simp)
                          · rw [if_neg c12] at H
                            exact absurd H (by simp)
                        · rw [if_neg c11] at H
                          have c11b0 : decide (x63_3 < ((l0.drop (x3_2 : Int).toNat).length : Int)) = false := decide_eq_false c11
                          (try (have c11b2 := c11b0; simp only [List.length_drop] at c11b2))
                          clear c11
                          obtain rfl := Option.some.inj H
                          go_wp2
                          go_ret
                          exact ⟨by first | rfl | (simp; done) | (simp [*]; done), by repeat (first | exact Drawn0.refl _ | apply Drawn0.step)⟩
                  · rw [if_neg c9] at H
                    exact absurd H (by simp)
                · rw [if_neg c7] at H
                  have c7b0 : ((rd l0 x3_2) == 0) = false := beq_eq_false_iff_ne.mpr c7
                  have c7b1 : ((rd l0 x3_2) != 0) = true := bne_iff_ne.mpr c7
                  by_cases c15 : (rd l0 x3_2) = 1
                  · rw [if_pos c15] at H
                    have c15b0 : ((rd l0 x3_2) == 1) = true := beq_iff_eq.mpr c15
                    have c15b1 : ((rd l0 x3_2) != 1) = false := bne_eq_false_iff_eq.mpr c15
                    clear c15
                    have H' := Aside0.mk H
                    clear H
                    have p352 : 0 ≤ (x3_2 : Int) := of_decide_eq_true zqxa8_0
                    have q352 : x3_2 < (l0.length : Int) := of_decide_eq_true zqxa8_0
                    obtain ⟨ad352, e352, hx352_0⟩ := Kd.at_int HR0.out x3_2 p352 q352
                    cases e352
                    replace p352 := eq_true p352
                    replace q352 := eq_true q352
                    go_wp2
                    go_roundg k2
                    case measure => have := HJ1.out; have := HK2.out; omega
                    case rel => exact ⟨(wrap64 (x3_2 + 1)), (by first | rfl | (simp; done) | (simp [*]; done)), H', ⟨by have := HJ1.out; have := HK2.out; omega⟩, by repeat (first | exact Drawn0.refl _ | apply Drawn0.step)⟩
                  · rw [if_neg c15] at H
                    have c15b0 : ((rd l0 x3_2) == 1) = false := beq_eq_false_iff_ne.mpr c15
                    have c15b1 : ((rd l0 x3_2) != 1) = true := bne_iff_ne.mpr c15
                    by_cases c16 : (wrap64 (x3_2 + 1)) ≥ (l0.length : Int)
                    · rw [if_pos c16] at H
                      have c16b0 : decide ((l0.length : Int) ≤ (wrap64 (x3_2 + 1))) = true := decide_eq_true c16
                      clear c16
                      obtain rfl := Option.some.inj H
                      have p352 : 0 ≤ (x3_2 : Int) := of_decide_eq_true zqxa8_0
                      have q352 : x3_2 < (l0.length : Int) := of_decide_eq_true zqxa8_0
                      obtain ⟨ad352, e352, hx352_0⟩ := Kd.at_int HR0.out x3_2 p352 q352
                      cases e352
                      replace p352 := eq_true p352
                      replace q352 := eq_true q352
                      go_wp2
                      go_ret
                      exact ⟨by first | rfl | (simp; done) | (simp [*]; done), by repeat (first | exact Drawn0.refl _ | apply Drawn0.step)⟩
                    · rw [if_neg c16] at H
                      have c16b0 : decide ((l0.length : Int) ≤ (wrap64 (x3_2 + 1))) = false := decide_eq_false c16
                      clear c16
                      obtain ⟨ji17, hji17⟩ : ∃ j_ : Int, (wrap64 (x3_2 + 1)) = j_ := ⟨_, rfl⟩
                      replace H : (if 0 ≤ (ji17) then (if (ji17) < (l0.length : Int) then (if (rd l0 (ji17)) < 2 then (some false) else (if (wrap64 (x3_2 + (wrap64 (rd l0 (ji17))))) > (l0.length : Int) then (some false) else (ip4_optionsOK.l0 k2 l0 (wrap64 (x3_2 + (wrap64 (rd l0 (ji17)))))))) else (none)) else (none)) = some r := by first | (rw [hji17] at H; exact H) | (simp only [hji17] at H ⊢; exact H)
                      (try rw [hji17] at c16b0)
                      have hji17w : (IntKind.i64.wrap (x3_2 + 1)) = ji17 := (i64_w _).trans hji17
                      by_cases c18 : 0 ≤ (ji17)
                      · rw [if_pos c18] at H
                        have c18b0 : decide (0 ≤ (ji17)) = true := decide_eq_true c18
                        clear c18
                        by_cases c19 : (ji17) < (l0.length : Int)
                        · rw [if_pos c19] at H
                          have c19b0 : decide ((ji17) < (l0.length : Int)) = true := decide_eq_true c19
                          clear c19
                          by_cases c20 : (rd l0 (ji17)) < 2
                          · rw [if_pos c20] at H
                            have c20b0 : decide ((rd l0 (ji17)) < 2) = true := decide_eq_true c20
                            clear c20
                            obtain rfl := Option.some.inj H
                            have p352 : 0 ≤ (x3_2 : Int) := of_decide_eq_true zqxa8_0
                            have q352 : x3_2 < (l0.length : Int) := of_decide_eq_true zqxa8_0
                            obtain ⟨ad352, e352, hx352_0⟩ := Kd.at_int HR0.out x3_2 p352 q352
                            cases e352
                            replace p352 := eq_true p352
                            replace q352 := eq_true q352
                            have p355 : 0 ≤ ((ji17) : Int) := of_decide_eq_true zqxa8_0
                            have q355 : (ji17) < (l0.length : Int) := of_decide_eq_true zqxa8_0
                            obtain ⟨ad355, e355, hx355_0⟩ := Kd.at_int HR0.out (ji17) p355 q355
                            obtain rfl : ad352 = ad355 := (by injection e355)
                            replace p355 := eq_true p355
                            replace q355 := eq_true q355
                            go_wp2
                            go_ret
                            exact ⟨by first | rfl | (simp; done) | (simp only [← hji17] <;> (first | rfl | simp)) | (simp [*]; done), by repeat (first | exact Drawn0.refl _ | apply Drawn0.step)⟩
                          · rw [if_neg c20] at H
                            have c20b0 : decide ((rd l0 (ji17)) < 2) = false := decide_eq_false c20
                            clear c20
                            by_cases c21 : (wrap64 (x3_2 + (wrap64 (rd l0 (ji17))))) > (l0.length : Int)
                            · rw [if_pos c21] at H
                              have c21b0 : decide ((l0.length : Int) < (wrap64 (x3_2 + (wrap64 (rd l0 (ji17)))))) = true := decide_eq_true c21
                              clear c21
                              obtain rfl := Option.some.inj H
                              have p352 : 0 ≤ (x3_2 : Int) := of_decide_eq_true zqxa8_0
                              have q352 : x3_2 < (l0.length : Int) := of_decide_eq_true zqxa8_0
                              obtain ⟨ad352, e352, hx352_0⟩ := Kd.at_int HR0.out x3_2 p352 q352
                              cases e352
                              replace p352 := eq_true p352
                              replace q352 := eq_true q352
                              have p355 : 0 ≤ ((ji17) : Int) := of_decide_eq_true zqxa8_0
                              have q355 : (ji17) < (l0.length : Int) := of_decide_eq_true zqxa8_0
                              obtain ⟨ad355, e355, hx355_0⟩ := Kd.at_int HR0.out (ji17) p355 q355
                              obtain rfl : ad352 = ad355 := (by injection e355)
                              replace p355 := eq_true p355
                              replace q355 := eq_true q355
                              have p356 : 0 ≤ ((ji17) : Int) := of_decide_eq_true zqxa8_0
                              have q356 : (ji17) < (l0.length : Int) := of_decide_eq_true zqxa8_0
                              obtain ⟨ad356, e356, hx356_0⟩ := Kd.at_int HR0.out (ji17) p356 q356
                              obtain rfl : ad352 = ad356 := (by injection e356)
                              replace p356 := eq_true p356
                              replace q356 := eq_true q356
                              go_wp2
                              go_ret
                              exact ⟨by first | rfl | (simp; done) | (simp only [← hji17] <;> (first | rfl | simp)) | (simp [*]; done), by repeat (first | exact Drawn0.refl _ | apply Drawn0.step)⟩
                            · rw [if_neg c21] at H
                              have c21b0 : decide ((l0.length : Int) < (wrap64 (x3_2 + (wrap64 (rd l0 (ji17)))))) = false := decide_eq_false c21
                              clear c21
                              have H' := Aside0.mk H
                              clear H
                              have p352 : 0 ≤ (x3_2 : Int) := of_decide_eq_true zqxa8_0
                              have q352 : x3_2 < (l0.length : Int) := of_decide_eq_true zqxa8_0
                              obtain ⟨ad352, e352, hx352_0⟩ := Kd.at_int HR0.out x3_2 p352 q352
                              cases e352
                              replace p352 := eq_true p352
                              replace q352 := eq_true q352
                              have p355 : 0 ≤ ((ji17) : Int) := of_decide_eq_true zqxa8_0
                              have q355 : (ji17) < (l0.length : Int) := of_decide_eq_true zqxa8_0
                              obtain ⟨ad355, e355, hx355_0⟩ := Kd.at_int HR0.out (ji17) p355 q355
                              obtain rfl : ad352 = ad355 := (by injection e355)
                              replace p355 := eq_true p355
                              replace q355 := eq_true q355
                              have p356 : 0 ≤ ((ji17) : Int) := of_decide_eq_true zqxa8_0
                              have q356 : (ji17) < (l0.length : Int) := of_decide_eq_true zqxa8_0
                              obtain ⟨ad356, e356, hx356_0⟩ := Kd.at_int HR0.out (ji17) p356 q356
                              obtain rfl : ad352 = ad356 := (by injection e356)
                              replace p356 := eq_true p356
                              replace q356 := eq_true q356
                              have p357 : 0 ≤ ((ji17) : Int) := of_decide_eq_true zqxa8_0
                              have q357 : (ji17) < (l0.length : Int) := of_decide_eq_true zqxa8_0
                              obtain ⟨ad357, e357, hx357_0⟩ := Kd.at_int HR0.out (ji17) p357 q357
                              obtain rfl : ad352 = ad357 := (by injection e357)
                              replace p357 := eq_true p357
                              replace q357 := eq_true q357
                              go_wp2
                              go_roundg k2
                              case measure => have := HJ1.out; have := HK2.out; omega
                              case rel => exact ⟨(wrap64 (x3_2 + (wrap64 (rd l0 (ji17))))), (by first | rfl | (simp; done) | (simp only [← hji17] <;> (first | rfl | simp)) | (simp [*]; done)), H', ⟨by have := HJ1.out; have := HK2.out; omega⟩, by repeat (first | exact Drawn0.refl _ | apply Drawn0.step)⟩
                        · rw [if_neg c19] at H
                          exact absurd H (by simp)
                      · rw [if_neg c18] at H
                        exact absurd H (by simp)
              · rw [if_neg c6] at H
                exact absurd H (by simp)
            · rw [if_neg c5] at H
              have c5b0 : decide (x3_2 < (l0.length : Int)) = false := decide_eq_false c5
              clear c5
              obtain rfl := Option.some.inj H
              go_wp2
              go_ret
              exact ⟨by first | rfl | (simp; done) | (simp [*]; done), by repeat (first | exact Drawn0.refl _ | apply Drawn0.step)⟩

/-! ### ip4_orderly: function 51 -/
def ip4_orderly.f (a0 : Int) (a1 : Int) (a2 : Bool) : Option (Bool) := if a0 < 0 then (some false) else (if a0 > 65528 then (some false) else (if (Int.tmod a0 8) = 0 then (if (wrap64 (a0 + a1)) > 65535 then (some false) else (if a2 = true then (if a1 > 0 then (some ((Int.tmod a1 8) == 0)) else (some false)) else (some true))) else (some false)))
set_option maxHeartbeats 8000000 in
set_option maxRecDepth 100000 in
theorem ip4_orderly.calls (a0 : Int) (a1 : Int) (a2 : Bool) (r : Bool) (w : World) (h : ip4_orderly.f a0 a1 a2 = some r) :
    Calls Try.prog 51 #[.int .i64 a0, .int .i64 a1, .bool a2] w fun e w' => e = .returned (.bool r) ∧ Drawn0 w w' := by
  have H : (if a0 < 0 then (some false) else (if a0 > 65528 then (some false) else (if (Int.tmod a0 8) = 0 then (if (wrap64 (a0 + a1)) > 65535 then (some false) else (if a2 = true then (if a1 > 0 then (some ((Int.tmod a1 8) == 0)) else (some false)) else (some true))) else (some false)))) = some r := h
  clear h
  by_cases c4 : a0 < 0
  · rw [if_pos c4] at H
    have c4b0 : decide (a0 < 0) = true := decide_eq_true c4
    clear c4
    obtain rfl := Option.some.inj H
    go_enter Try.func51, Try.ntmps51
    go_wp2
    go_ret
    exact ⟨by first | rfl | (simp; done) | (simp [*]; done), by repeat (first | exact Drawn0.refl _ | apply Drawn0.step)⟩
  · rw [if_neg c4] at H
    have c4b0 : decide (a0 < 0) = false := decide_eq_false c4
    clear c4
    by_cases c5 : a0 > 65528
    · rw [if_pos c5] at H
      have c5b0 : decide (65528 < a0) = true := decide_eq_true c5
      clear c5
      obtain rfl := Option.some.inj H
      go_enter Try.func51, Try.ntmps51
      go_wp2
      go_ret
      exact ⟨by first | rfl | (simp; done) | (simp [*]; done), by repeat (first | exact Drawn0.refl _ | apply Drawn0.step)⟩
    · rw [if_neg c5] at H
      have c5b0 : decide (65528 < a0) = false := decide_eq_false c5
      clear c5
      by_cases c6 : (Int.tmod a0 8) = 0
      · rw [if_pos c6] at H
        have c6b0 : ((Int.tmod a0 8) == 0) = true := beq_iff_eq.mpr c6
        have c6b1 : ((Int.tmod a0 8) != 0) = false := bne_eq_false_iff_eq.mpr c6
        clear c6
        by_cases c7 : (wrap64 (a0 + a1)) > 65535
        · rw [if_pos c7] at H
          have c7b0 : decide (65535 < (wrap64 (a0 + a1))) = true := decide_eq_true c7
          clear c7
          obtain rfl := Option.some.inj H
          go_enter Try.func51, Try.ntmps51
          go_wp2
          go_ret
          exact ⟨by first | rfl | (simp; done) | (simp [*]; done), by repeat (first | exact Drawn0.refl _ | apply Drawn0.step)⟩
        · rw [if_neg c7] at H
          have c7b0 : decide (65535 < (wrap64 (a0 + a1))) = false := decide_eq_false c7
          clear c7
          by_cases c8 : a2 = true
          · subst c8
            have H1 : (if a1 > 0 then (some ((Int.tmod a1 8) == 0)) else (some false)) = some r := by rw [if_pos rfl] at H; exact H
            clear H
            have H := H1
            clear H1
            by_cases c9 : a1 > 0
            · rw [if_pos c9] at H
              have c9b0 : decide (0 < a1) = true := decide_eq_true c9
              clear c9
              obtain rfl := Option.some.inj H
              go_enter Try.func51, Try.ntmps51
              go_wp2
              go_ret
              exact ⟨by first | rfl | (simp; done) | (simp [*]; done), by repeat (first | exact Drawn0.refl _ | apply Drawn0.step)⟩
            · rw [if_neg c9] at H
              have c9b0 : decide (0 < a1) = false := decide_eq_false c9
              clear c9
              obtain rfl := Option.some.inj H
              go_enter Try.func51, Try.ntmps51
              go_wp2
              go_ret
              exact ⟨by first | rfl | (simp; done) | (simp [*]; done), by repeat (first | exact Drawn0.refl _ | apply Drawn0.step)⟩
          · replace c8 := Bool.eq_false_iff.mpr c8
            subst c8
            have H1 : (some true) = some r := by rw [if_neg (show ¬ (false = true) by decide)] at H; exact H
            clear H
            have H := H1
            clear H1
            obtain rfl := Option.some.inj H
            go_enter Try.func51, Try.ntmps51
            go_wp2
            go_ret
            exact ⟨by first | rfl | (simp; done) | (simp [*]; done), by repeat (first | exact Drawn0.refl _ | apply Drawn0.step)⟩
      · rw [if_neg c6] at H
        have c6b0 : ((Int.tmod a0 8) == 0) = false := beq_eq_false_iff_ne.mpr c6
        have c6b1 : ((Int.tmod a0 8) != 0) = true := bne_iff_ne.mpr c6
        obtain rfl := Option.some.inj H
        go_enter Try.func51, Try.ntmps51
        go_wp2
        go_ret
        exact ⟨by first | rfl | (simp; done) | (simp [*]; done), by repeat (first | exact Drawn0.refl _ | apply Drawn0.step)⟩

/-! ### ip4_word: function 61 -/
def ip4_word.f (l0 : List Int) (a1 : Int) : Option (Int) := if 0 ≤ a1 then (if a1 < (l0.length : Int) then (if 0 ≤ (wrap64 (a1 + 1)) then (if (wrap64 (a1 + 1)) < (l0.length : Int) then (some (Go.bits .or .u16 (IntKind.u16.wrap ((IntKind.u16.wrap (rd l0 a1)) * 256)) (IntKind.u16.wrap (rd l0 (wrap64 (a1 + 1)))))) else (none)) else (none)) else (none)) else (none)
set_option maxHeartbeats 8000000 in
set_option maxRecDepth 100000 in
theorem ip4_word.calls (A0 : Option Addr) (c0 : Nat) (l0 : List Int) (a1 : Int) (r : Int) (w : World) (hr0 : Kd.C (Kd.int .u8) w A0 l0.length l0) (hc0 : l0.length ≤ c0) (h : ip4_word.f l0 a1 = some r) :
    Calls Try.prog 61 #[.slice A0 l0.length c0, .int .i64 a1] w fun e w' => e = .returned (.int .u16 r) ∧ Drawn0 w w' := by
  have HR0 := Aside0.mk hr0
  have HC0 := Aside0.mk hc0
  clear hr0 hc0
  have H : (if 0 ≤ a1 then (if a1 < (l0.length : Int) then (if 0 ≤ (wrap64 (a1 + 1)) then (if (wrap64 (a1 + 1)) < (l0.length : Int) then (some (Go.bits .or .u16 (IntKind.u16.wrap ((IntKind.u16.wrap (rd l0 a1)) * 256)) (IntKind.u16.wrap (rd l0 (wrap64 (a1 + 1)))))) else (none)) else (none)) else (none)) else (none)) = some r := h
  clear h
  by_cases c3 : 0 ≤ a1
  · rw [if_pos c3] at H
    have c3b0 : decide (0 ≤ a1) = true := decide_eq_true c3
    clear c3
    by_cases c4 : a1 < (l0.length : Int)
    · rw [if_pos c4] at H
      have c4b0 : decide (a1 < (l0.length : Int)) = true := decide_eq_true c4
      clear c4
      obtain ⟨ji5, hji5⟩ : ∃ j_ : Int, (wrap64 (a1 + 1)) = j_ := ⟨_, rfl⟩
      replace H : (if 0 ≤ (ji5) then (if (ji5) < (l0.length : Int) then (some (Go.bits .or .u16 (IntKind.u16.wrap ((IntKind.u16.wrap (rd l0 a1)) * 256)) (IntKind.u16.wrap (rd l0 (ji5))))) else (none)) else (none)) = some r := by first | (rw [hji5] at H; exact H) | (simp only [hji5] at H ⊢; exact H)
      have hji5w : (IntKind.i64.wrap (a1 + 1)) = ji5 := (i64_w _).trans hji5
      by_cases c6 : 0 ≤ (ji5)
      · rw [if_pos c6] at H
        have c6b0 : decide (0 ≤ (ji5)) = true := decide_eq_true c6
        clear c6
        by_cases c7 : (ji5) < (l0.length : Int)
        · rw [if_pos c7] at H
          have c7b0 : decide ((ji5) < (l0.length : Int)) = true := decide_eq_true c7
          clear c7
          obtain rfl := Option.some.inj H
          have p358 : 0 ≤ (a1 : Int) := of_decide_eq_true zqxa8_0
          have q358 : a1 < (l0.length : Int) := of_decide_eq_true zqxa8_0
          obtain ⟨ad358, e358, hx358_0⟩ := Kd.at_int HR0.out a1 p358 q358
          cases e358
          replace p358 := eq_true p358
          replace q358 := eq_true q358
          have p359 : 0 ≤ ((ji5) : Int) := of_decide_eq_true zqxa8_0
          have q359 : (ji5) < (l0.length : Int) := of_decide_eq_true zqxa8_0
          obtain ⟨ad359, e359, hx359_0⟩ := Kd.at_int HR0.out (ji5) p359 q359
          obtain rfl : ad358 = ad359 := (by injection e359)
          replace p359 := eq_true p359
          replace q359 := eq_true q359
          go_enter Try.func61, Try.ntmps61
          go_wp2
          repeat (go_quiet (fail); try go_wp2)
          go_ret
          exact ⟨by first | rfl | (simp; done) | (simp only [← hji5] <;> (first | rfl | simp)) | (simp [*]; done), by repeat (first | exact Drawn0.refl _ | apply Drawn0.step)⟩
        · rw [if_neg c7] at H
          exact absurd H (by simp)
      · rw [if_neg c6] at H
        exact absurd H (by simp)
    · rw [if_neg c4] at H
      exact absurd H (by simp)
  · rw [if_neg c3] at H
    exact absurd H (by simp)

/-! ### ip4_measure: function 60 -/
def ip4_measure.f (l0 : List Int) (a1 : Bool) : Option (Int × Int × Int) := if (l0.length : Int) < 20 then (some (0, 0, 30)) else (if 0 < (l0.length : Int) then (if ((rd l0 0) / 16) = 4 then (if (wrap64 ((wrap64 (Go.bits .and .u8 (rd l0 0) 15)) * 4)) < 20 then (some (0, 0, 32)) else (if (l0.length : Int) < (wrap64 ((wrap64 (Go.bits .and .u8 (rd l0 0) 15)) * 4)) then (some (0, 0, 30)) else ((ip4_word.f l0 2).bind fun t362 => (if (wrap64 (t362)) < (wrap64 ((wrap64 (Go.bits .and .u8 (rd l0 0) 15)) * 4)) then (some (0, 0, 32)) else (if a1 = true then (if (l0.length : Int) < (wrap64 (t362)) then (some (0, 0, 30)) else (some (wrap64 ((wrap64 (Go.bits .and .u8 (rd l0 0) 15)) * 4), wrap64 (t362), 0))) else (some (wrap64 ((wrap64 (Go.bits .and .u8 (rd l0 0) 15)) * 4), wrap64 (t362), 0))))))) else (some (0, 0, 31))) else (none))
set_option maxHeartbeats 8000000 in
set_option maxRecDepth 100000 in
theorem ip4_measure.calls (A0 : Option Addr) (c0 : Nat) (l0 : List Int) (a1 : Bool) (r1 : Int) (r2 : Int) (r3 : Int) (w : World) (hr0 : Kd.C (Kd.int .u8) w A0 l0.length l0) (hc0 : l0.length ≤ c0) (h : ip4_measure.f l0 a1 = some (r1, r2, r3)) :
    Calls Try.prog 60 #[.slice A0 l0.length c0, .bool a1] w fun e w' => e = .returned (.tuple #[.int .i64 r1, .int .i64 r2, .int .i64 r3]) ∧ Drawn0 w w' := by
  have HR0 := Aside0.mk hr0
  have HC0 := Aside0.mk hc0
  clear hr0 hc0
  have H : (if (l0.length : Int) < 20 then (some (0, 0, 30)) else (if 0 < (l0.length : Int) then (if ((rd l0 0) / 16) = 4 then (if (wrap64 ((wrap64 (Go.bits .and .u8 (rd l0 0) 15)) * 4)) < 20 then (some (0, 0, 32)) else (if (l0.length : Int) < (wrap64 ((wrap64 (Go.bits .and .u8 (rd l0 0) 15)) * 4)) then (some (0, 0, 30)) else ((ip4_word.f l0 2).bind fun t362 => (if (wrap64 (t362)) < (wrap64 ((wrap64 (Go.bits .and .u8 (rd l0 0) 15)) * 4)) then (some (0, 0, 32)) else (if a1 = true then (if (l0.length : Int) < (wrap64 (t362)) then (some (0, 0, 30)) else (some (wrap64 ((wrap64 (Go.bits .and .u8 (rd l0 0) 15)) * 4), wrap64 (t362), 0))) else (some (wrap64 ((wrap64 (Go.bits .and .u8 (rd l0 0) 15)) * 4), wrap64 (t362), 0))))))) else (some (0, 0, 31))) else (none))) = some (r1, r2, r3) := h
  clear h
  by_cases c3 : (l0.length : Int) < 20
  · rw [if_pos c3] at H
    have c3b0 : decide ((l0.length : Int) < 20) = true := decide_eq_true c3
    have c3b1 : decide (l0.length < 20) = true := decide_eq_true (by omega)
    clear c3
    simp only [Option.some.injEq, Prod.mk.injEq] at H
    obtain ⟨rfl, rfl, rfl⟩ := H
    go_enter Try.func60, Try.ntmps60
    go_wp2
    go_ret3
    exact ⟨by first | rfl | (simp; done) | (simp [*]; done), by repeat (first | exact Drawn0.refl _ | apply Drawn0.step)⟩
  · rw [if_neg c3] at H
    have c3b0 : decide ((l0.length : Int) < 20) = false := decide_eq_false c3
    have c3b1 : decide (l0.length < 20) = false := decide_eq_false (by omega)
    clear c3
    by_cases c4 : 0 < (l0.length : Int)
    · rw [if_pos c4] at H
      have c4b0 : decide (0 < (l0.length : Int)) = true := decide_eq_true c4
      have c4b1 : decide (0 < l0.length) = true := decide_eq_true (by omega)
      clear c4
      by_cases c5 : ((rd l0 0) / 16) = 4
      · rw [if_pos c5] at H
        have c5b0 : (((rd l0 0) / 16) == 4) = true := beq_iff_eq.mpr c5
        have c5b1 : (((rd l0 0) / 16) != 4) = false := bne_eq_false_iff_eq.mpr c5
        clear c5
        by_cases c6 : (wrap64 ((wrap64 (Go.bits .and .u8 (rd l0 0) 15)) * 4)) < 20
        · rw [if_pos c6] at H
          have c6b0 : decide ((wrap64 ((wrap64 (Go.bits .and .u8 (rd l0 0) 15)) * 4)) < 20) = true := decide_eq_true c6
          clear c6
          simp only [Option.some.injEq, Prod.mk.injEq] at H
          obtain ⟨rfl, rfl, rfl⟩ := H
          have p360 : 0 ≤ (0 : Int) := (by omega)
          have q360 : 0 < (l0.length : Int) := of_decide_eq_true zqxa8_0
          obtain ⟨ad360, e360, hx360_0⟩ := Kd.at_int HR0.out 0 p360 q360
          cases e360
          have qi360 : (0 < l0.length) = True := eq_true (by omega)
          (try rw [show ((0 : Int)).toNat = 0 from rfl] at hx360_0)
          (try rw [Addr.add_zero'] at hx360_0)
          replace p360 := eq_true p360
          replace q360 := eq_true q360
          have p361 : 0 ≤ (0 : Int) := (by omega)
          have q361 : 0 < (l0.length : Int) := of_decide_eq_true zqxa8_0
          obtain ⟨ad361, e361, hx361_0⟩ := Kd.at_int HR0.out 0 p361 q361
          obtain rfl : ad360 = ad361 := (by injection e361)
          have qi361 : (0 < l0.length) = True := eq_true (by omega)
          (try rw [show ((0 : Int)).toNat = 0 from rfl] at hx361_0)
          (try rw [Addr.add_zero'] at hx361_0)
          replace p361 := eq_true p361
          replace q361 := eq_true q361
          go_enter Try.func60, Try.ntmps60
          go_wp2
          go_ret3
          exact ⟨by first | rfl | (simp; done) | (simp [*]; done), by repeat (first | exact Drawn0.refl _ | apply Drawn0.step)⟩
        · rw [if_neg c6] at H
          have c6b0 : decide ((wrap64 ((wrap64 (Go.bits .and .u8 (rd l0 0) 15)) * 4)) < 20) = false := decide_eq_false c6
          clear c6
          by_cases c7 : (l0.length : Int) < (wrap64 ((wrap64 (Go.bits .and .u8 (rd l0 0) 15)) * 4))
          · rw [if_pos c7] at H
            have c7b0 : decide ((l0.length : Int) < (wrap64 ((wrap64 (Go.bits .and .u8 (rd l0 0) 15)) * 4))) = true := decide_eq_true c7
            clear c7
            simp only [Option.some.injEq, Prod.mk.injEq] at H
            obtain ⟨rfl, rfl, rfl⟩ := H
            have p360 : 0 ≤ (0 : Int) := (by omega)
            have q360 : 0 < (l0.length : Int) := of_decide_eq_true zqxa8_0
            obtain ⟨ad360, e360, hx360_0⟩ := Kd.at_int HR0.out 0 p360 q360
            cases e360
            have qi360 : (0 < l0.length) = True := eq_true (by omega)
            (try rw [show ((0 : Int)).toNat = 0 from rfl] at hx360_0)
            (try rw [Addr.add_zero'] at hx360_0)
            replace p360 := eq_true p360
            replace q360 := eq_true q360
            have p361 : 0 ≤ (0 : Int) := (by omega)
            have q361 : 0 < (l0.length : Int) := of_decide_eq_true zqxa8_0
            obtain ⟨ad361, e361, hx361_0⟩ := Kd.at_int HR0.out 0 p361 q361
            obtain rfl : ad360 = ad361 := (by injection e361)
            have qi361 : (0 < l0.length) = True := eq_true (by omega)
            (try rw [show ((0 : Int)).toNat = 0 from rfl] at hx361_0)
            (try rw [Addr.add_zero'] at hx361_0)
            replace p361 := eq_true p361
            replace q361 := eq_true q361
            go_enter Try.func60, Try.ntmps60
            go_wp2
            go_ret3
            exact ⟨by first | rfl | (simp; done) | (simp [*]; done), by repeat (first | exact Drawn0.refl _ | apply Drawn0.step)⟩
          · rw [if_neg c7] at H
            have c7b0 : decide ((l0.length : Int) < (wrap64 ((wrap64 (Go.bits .and .u8 (rd l0 0) 15)) * 4))) = false := decide_eq_false c7
            clear c7
            replace H := Option.bind_eq_some_iff.mp H
            obtain ⟨t362, A80, H⟩ := H
            replace H : (if (wrap64 (t362)) < (wrap64 ((wrap64 (Go.bits .and .u8 (rd l0 0) 15)) * 4)) then (some (0, 0, 32)) else (if a1 = true then (if (l0.length : Int) < (wrap64 (t362)) then (some (0, 0, 30)) else (some (wrap64 ((wrap64 (Go.bits .and .u8 (rd l0 0) 15)) * 4), wrap64 (t362), 0))) else (some (wrap64 ((wrap64 (Go.bits .and .u8 (rd l0 0) 15)) * 4), wrap64 (t362), 0)))) = some (r1, r2, r3) := H
            have A8 := Aside0.mk A80
            clear A80
            by_cases c9 : (wrap64 (t362)) < (wrap64 ((wrap64 (Go.bits .and .u8 (rd l0 0) 15)) * 4))
            · rw [if_pos c9] at H
              have c9b0 : decide ((wrap64 (t362)) < (wrap64 ((wrap64 (Go.bits .and .u8 (rd l0 0) 15)) * 4))) = true := decide_eq_true c9
              clear c9
              simp only [Option.some.injEq, Prod.mk.injEq] at H
              obtain ⟨rfl, rfl, rfl⟩ := H
              have p360 : 0 ≤ (0 : Int) := (by omega)
              have q360 : 0 < (l0.length : Int) := of_decide_eq_true zqxa8_0
              obtain ⟨ad360, e360, hx360_0⟩ := Kd.at_int HR0.out 0 p360 q360
              cases e360
              have qi360 : (0 < l0.length) = True := eq_true (by omega)
              (try rw [show ((0 : Int)).toNat = 0 from rfl] at hx360_0)
              (try rw [Addr.add_zero'] at hx360_0)
              replace p360 := eq_true p360
              replace q360 := eq_true q360
              have p361 : 0 ≤ (0 : Int) := (by omega)
              have q361 : 0 < (l0.length : Int) := of_decide_eq_true zqxa8_0
              obtain ⟨ad361, e361, hx361_0⟩ := Kd.at_int HR0.out 0 p361 q361
              obtain rfl : ad360 = ad361 := (by injection e361)
              have qi361 : (0 < l0.length) = True := eq_true (by omega)
              (try rw [show ((0 : Int)).toNat = 0 from rfl] at hx361_0)
              (try rw [Addr.add_zero'] at hx361_0)
              replace p361 := eq_true p361
              replace q361 := eq_true q361
              go_enter Try.func60, Try.ntmps60
              go_wp2_with (first | ((with_reducible refine gate_callee (f := 61) rfl ?_); refine goesL_ (some 28) rfl rfl Try.func61 (by kernel_rfl) rfl #[.slice (some ad360) l0.length c0, .int .i64 2] rfl (by (try simp only [List.map_toArray, List.map_cons, List.map_nil]); first | done | rfl | (simp only [List.length_drop, List.length_take]; rfl)) ?_; (with_reducible refine (ip4_word.calls _ _ l0 2 t362 _ ?side1 ?side2 A8.out).mono ?_); (case side1 => repeat (first | exact HR0.out | (with_reducible refine Kd.C_alloc ?_ _) | (with_reducible refine Kd.C_drewN ?_ _) | (with_reducible refine Kd.C_drew ?_))); (case side2 => exact HC0.out); rintro e w' ⟨rfl, ⟨nd, rfl⟩⟩; refine ⟨_, rfl, ?_⟩))
              go_ret3
              exact ⟨by first | rfl | (simp; done) | (simp [*]; done), by repeat (first | exact Drawn0.refl _ | apply Drawn0.step)⟩
            · rw [if_neg c9] at H
              have c9b0 : decide ((wrap64 (t362)) < (wrap64 ((wrap64 (Go.bits .and .u8 (rd l0 0) 15)) * 4))) = false := decide_eq_false c9
              clear c9
              by_cases c10 : a1 = true
              · subst c10
                have H1 : (if (l0.length : Int) < (wrap64 (t362)) then (some (0, 0, 30)) else (some (wrap64 ((wrap64 (Go.bits .and .u8 (rd l0 0) 15)) * 4), wrap64 (t362), 0))) = some (r1, r2, r3) := by rw [if_pos rfl] at H; exact H
                clear H
                have H := H1
                clear H1
                by_cases c11 : (l0.length : Int) < (wrap64 (t362))
                · rw [if_pos c11] at H
                  have c11b0 : decide ((l0.length : Int) < (wrap64 (t362))) = true := decide_eq_true c11
                  clear c11
                  simp only [Option.some.injEq, Prod.mk.injEq] at H
                  obtain ⟨rfl, rfl, rfl⟩ := H
                  have p360 : 0 ≤ (0 : Int) := (by omega)
                  have q360 : 0 < (l0.length : Int) := of_decide_eq_true zqxa8_0
                  obtain ⟨ad360, e360, hx360_0⟩ := Kd.at_int HR0.out 0 p360 q360
                  cases e360
                  have qi360 : (0 < l0.length) = True := eq_true (by omega)
                  (try rw [show ((0 : Int)).toNat = 0 from rfl] at hx360_0)
                  (try rw [Addr.add_zero'] at hx360_0)
                  replace p360 := eq_true p360
                  replace q360 := eq_true q360
                  have p361 : 0 ≤ (0 : Int) := (by omega)
                  have q361 : 0 < (l0.length : Int) := of_decide_eq_true zqxa8_0
                  obtain ⟨ad361, e361, hx361_0⟩ := Kd.at_int HR0.out 0 p361 q361
                  obtain rfl : ad360 = ad361 := (by injection e361)
                  have qi361 : (0 < l0.length) = True := eq_true (by omega)
                  (try rw [show ((0 : Int)).toNat = 0 from rfl] at hx361_0)
                  (try rw [Addr.add_zero'] at hx361_0)
                  replace p361 := eq_true p361
                  replace q361 := eq_true q361
                  go_enter Try.func60, Try.ntmps60
                  go_wp2_with (first | ((with_reducible refine gate_callee (f := 61) rfl ?_); refine goesL_ (some 28) rfl rfl Try.func61 (by kernel_rfl) rfl #[.slice (some ad360) l0.length c0, .int .i64 2] rfl (by (try simp only [List.map_toArray, List.map_cons, List.map_nil]); first | done | rfl | (simp only [List.length_drop, List.length_take]; rfl)) ?_; (with_reducible refine (ip4_word.calls _ _ l0 2 t362 _ ?side1 ?side2 A8.out).mono ?_); (case side1 => repeat (first | exact HR0.out | (with_reducible refine Kd.C_alloc ?_ _) | (with_reducible refine Kd.C_drewN ?_ _) | (with_reducible refine Kd.C_drew ?_))); (case side2 => exact HC0.out); rintro e w' ⟨rfl, ⟨nd, rfl⟩⟩; refine ⟨_, rfl, ?_⟩))
                  go_ret3
                  exact ⟨by first | rfl | (simp; done) | (simp [*]; done), by repeat (first | exact Drawn0.refl _ | apply Drawn0.step)⟩
                · rw [if_neg c11] at H
                  have c11b0 : decide ((l0.length : Int) < (wrap64 (t362))) = false := decide_eq_false c11
                  clear c11
                  simp only [Option.some.injEq, Prod.mk.injEq] at H
                  obtain ⟨rfl, rfl, rfl⟩ := H
                  have p360 : 0 ≤ (0 : Int) := (by omega)
                  have q360 : 0 < (l0.length : Int) := of_decide_eq_true zqxa8_0
                  obtain ⟨ad360, e360, hx360_0⟩ := Kd.at_int HR0.out 0 p360 q360
                  cases e360
                  have qi360 : (0 < l0.length) = True := eq_true (by omega)
                  (try rw [show ((0 : Int)).toNat = 0 from rfl] at hx360_0)
                  (try rw [Addr.add_zero'] at hx360_0)
                  replace p360 := eq_true p360
                  replace q360 := eq_true q360
                  have p361 : 0 ≤ (0 : Int) := (by omega)
                  have q361 : 0 < (l0.length : Int) := of_decide_eq_true zqxa8_0
                  obtain ⟨ad361, e361, hx361_0⟩ := Kd.at_int HR0.out 0 p361 q361
                  obtain rfl : ad360 = ad361 := (by injection e361)
                  have qi361 : (0 < l0.length) = True := eq_true (by omega)
                  (try rw [show ((0 : Int)).toNat = 0 from rfl] at hx361_0)
                  (try rw [Addr.add_zero'] at hx361_0)
                  replace p361 := eq_true p361
                  replace q361 := eq_true q361
                  go_enter Try.func60, Try.ntmps60
                  go_wp2_with (first | ((with_reducible refine gate_callee (f := 61) rfl ?_); refine goesL_ (some 28) rfl rfl Try.func61 (by kernel_rfl) rfl #[.slice (some ad360) l0.length c0, .int .i64 2] rfl (by (try simp only [List.map_toArray, List.map_cons, List.map_nil]); first | done | rfl | (simp only [List.length_drop, List.length_take]; rfl)) ?_; (with_reducible refine (ip4_word.calls _ _ l0 2 t362 _ ?side1 ?side2 A8.out).mono ?_); (case side1 => repeat (first | exact HR0.out | (with_reducible refine Kd.C_alloc ?_ _) | (with_reducible refine Kd.C_drewN ?_ _) | (with_reducible refine Kd.C_drew ?_))); (case side2 => exact HC0.out); rintro e w' ⟨rfl, ⟨nd, rfl⟩⟩; refine ⟨_, rfl, ?_⟩))
                  go_ret3
                  exact ⟨by first | rfl | (simp; done) | (simp [*]; done), by repeat (first | exact Drawn0.refl _ | apply Drawn0.step)⟩
              · replace c10 := Bool.eq_false_iff.mpr c10
                subst c10
                have H1 : (some (wrap64 ((wrap64 (Go.bits .and .u8 (rd l0 0) 15)) * 4), wrap64 (t362), 0)) = some (r1, r2, r3) := by rw [if_neg (show ¬ (false = true) by decide)] at H; exact H
                clear H
                have H := H1
                clear H1
                simp only [Option.some.injEq, Prod.mk.injEq] at H
                obtain ⟨rfl, rfl, rfl⟩ := H
                have p360 : 0 ≤ (0 : Int) := (by omega)
                have q360 : 0 < (l0.length : Int) := of_decide_eq_true zqxa8_0
                obtain ⟨ad360, e360, hx360_0⟩ := Kd.at_int HR0.out 0 p360 q360
                cases e360
                have qi360 : (0 < l0.length) = True := eq_true (by omega)
                (try rw [show ((0 : Int)).toNat = 0 from rfl] at hx360_0)
                (try rw [Addr.add_zero'] at hx360_0)
                replace p360 := eq_true p360
                replace q360 := eq_true q360
                have p361 : 0 ≤ (0 : Int) := (by omega)
                have q361 : 0 < (l0.length : Int) := of_decide_eq_true zqxa8_0
                obtain ⟨ad361, e361, hx361_0⟩ := Kd.at_int HR0.out 0 p361 q361
                obtain rfl : ad360 = ad361 := (by injection e361)
                have qi361 : (0 < l0.length) = True := eq_true (by omega)
                (try rw [show ((0 : Int)).toNat = 0 from rfl] at hx361_0)
                (try rw [Addr.add_zero'] at hx361_0)
                replace p361 := eq_true p361
                replace q361 := eq_true q361
                go_enter Try.func60, Try.ntmps60
                go_wp2_with (first | ((with_reducible refine gate_callee (f := 61) rfl ?_); refine goesL_ (some 28) rfl rfl Try.func61 (by kernel_rfl) rfl #[.slice (some ad360) l0.length c0, .int .i64 2] rfl (by (try simp only [List.map_toArray, List.map_cons, List.map_nil]); first | done | rfl | (simp only [List.length_drop, List.length_take]; rfl)) ?_; (with_reducible refine (ip4_word.calls _ _ l0 2 t362 _ ?side1 ?side2 A8.out).mono ?_); (case side1 => repeat (first | exact HR0.out | (with_reducible refine Kd.C_alloc ?_ _) | (with_reducible refine Kd.C_drewN ?_ _) | (with_reducible refine Kd.C_drew ?_))); (case side2 => exact HC0.out); rintro e w' ⟨rfl, ⟨nd, rfl⟩⟩; refine ⟨_, rfl, ?_⟩))
                go_ret3
                exact ⟨by first | rfl | (simp; done) | (simp [*]; done), by repeat (first | exact Drawn0.refl _ | apply Drawn0.step)⟩
      · rw [if_neg c5] at H
        have c5b0 : (((rd l0 0) / 16) == 4) = false := beq_eq_false_iff_ne.mpr c5
        have c5b1 : (((rd l0 0) / 16) != 4) = true := bne_iff_ne.mpr c5
        simp only [Option.some.injEq, Prod.mk.injEq] at H
        obtain ⟨rfl, rfl, rfl⟩ := H
        have p360 : 0 ≤ (0 : Int) := (by omega)
        have q360 : 0 < (l0.length : Int) := of_decide_eq_true zqxa8_0
        obtain ⟨ad360, e360, hx360_0⟩ := Kd.at_int HR0.out 0 p360 q360
        cases e360
        have qi360 : (0 < l0.length) = True := eq_true (by omega)
        (try rw [show ((0 : Int)).toNat = 0 from rfl] at hx360_0)
        (try rw [Addr.add_zero'] at hx360_0)
        replace p360 := eq_true p360
        replace q360 := eq_true q360
        go_enter Try.func60, Try.ntmps60
        go_wp2
        go_ret3
        exact ⟨by first | rfl | (simp; done) | (simp [*]; done), by repeat (first | exact Drawn0.refl _ | apply Drawn0.step)⟩
    · rw [if_neg c4] at H
      exact absurd H (by simp)

/-! ### ip4_long: function 62 -/
def ip4_long.f (l0 : List Int) (a1 : Int) : Option (Int) := (ip4_word.f l0 a1).bind fun t363 => ((ip4_word.f l0 (wrap64 (a1 + 2))).bind fun t364 => (some (Go.bits .or .u32 ((((t363) % 4294967296) * 65536) % 4294967296) ((t364) % 4294967296))))
set_option maxHeartbeats 8000000 in
set_option maxRecDepth 100000 in
theorem ip4_long.calls (A0 : Option Addr) (c0 : Nat) (l0 : List Int) (a1 : Int) (r : Int) (w : World) (hr0 : Kd.C (Kd.int .u8) w A0 l0.length l0) (hc0 : l0.length ≤ c0) (h : ip4_long.f l0 a1 = some r) :
    Calls Try.prog 62 #[.slice A0 l0.length c0, .int .i64 a1] w fun e w' => e = .returned (.int .u32 r) ∧ Drawn0 w w' := by
  have HR0 := Aside0.mk hr0
  have HC0 := Aside0.mk hc0
  clear hr0 hc0
  have H : ((ip4_word.f l0 a1).bind fun t363 => ((ip4_word.f l0 (wrap64 (a1 + 2))).bind fun t364 => (some (Go.bits .or .u32 ((((t363) % 4294967296) * 65536) % 4294967296) ((t364) % 4294967296))))) = some r := h
  clear h
  replace H := Option.bind_eq_some_iff.mp H
  obtain ⟨t363, A30, H⟩ := H
  replace H : ((ip4_word.f l0 (wrap64 (a1 + 2))).bind fun t364 => (some (Go.bits .or .u32 ((((t363) % 4294967296) * 65536) % 4294967296) ((t364) % 4294967296)))) = some r := H
  have A3 := Aside0.mk A30
  clear A30
  replace H := Option.bind_eq_some_iff.mp H
  obtain ⟨t364, A40, H⟩ := H
  replace H : (some (Go.bits .or .u32 ((((t363) % 4294967296) * 65536) % 4294967296) ((t364) % 4294967296))) = some r := H
  have A4 := Aside0.mk A40
  clear A40
  obtain rfl := Option.some.inj H
  go_enter Try.func62, Try.ntmps62
  go_wp2_with (first | ((with_reducible refine gate_callee (f := 61) rfl ?_); refine goesL_ (some 7) rfl rfl Try.func61 (by kernel_rfl) rfl #[.slice A0 l0.length c0, .int .i64 a1] rfl (by (try simp only [List.map_toArray, List.map_cons, List.map_nil]); first | done | rfl | (simp only [List.length_drop, List.length_take]; rfl)) ?_; (with_reducible refine (ip4_word.calls _ _ l0 a1 t363 _ ?side1 ?side2 A3.out).mono ?_); (case side1 => repeat (first | exact HR0.out | (with_reducible refine Kd.C_alloc ?_ _) | (with_reducible refine Kd.C_drewN ?_ _) | (with_reducible refine Kd.C_drew ?_))); (case side2 => exact HC0.out); rintro e w' ⟨rfl, ⟨nd, rfl⟩⟩; refine ⟨_, rfl, ?_⟩) | ((with_reducible refine gate_callee (f := 61) rfl ?_); refine goesL_ (some 13) rfl rfl Try.func61 (by kernel_rfl) rfl #[.slice A0 l0.length c0, .int .i64 (wrap64 (a1 + 2))] rfl (by (try simp only [List.map_toArray, List.map_cons, List.map_nil]); first | done | rfl | (simp only [List.length_drop, List.length_take]; rfl)) ?_; (with_reducible refine (ip4_word.calls _ _ l0 (wrap64 (a1 + 2)) t364 _ ?side1 ?side2 A4.out).mono ?_); (case side1 => repeat (first | exact HR0.out | (with_reducible refine Kd.C_alloc ?_ _) | (with_reducible refine Kd.C_drewN ?_ _) | (with_reducible refine Kd.C_drew ?_))); (case side2 => exact HC0.out); rintro e w' ⟨rfl, ⟨nd, rfl⟩⟩; refine ⟨_, rfl, ?_⟩))
  go_ret
  exact ⟨by first | rfl | (simp; done) | (simp [*]; done), by repeat (first | exact Drawn0.refl _ | apply Drawn0.step)⟩

end Go.Proofs.Ytmjhfkjnnpnoaaa.XA
