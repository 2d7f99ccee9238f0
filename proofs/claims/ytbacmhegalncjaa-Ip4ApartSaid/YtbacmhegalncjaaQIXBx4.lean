-- printed by a program of this session (wip/xprint), out of the translation; Lean checks it
import Derived.Test.YtbacmhegalncjaaQIXBx0
namespace Go.Proofs.Ytbacmhegalncjaa.XB
open Go.RowKit Go.Proofs.YtbacmhegalncjaaW.PrintWords Go.Proofs.YtbacmhegalncjaaW.PrintLast Go.Proofs.YtbacmhegalncjaaW.PrintMore Go.Proofs.YtbacmhegalncjaaX
theorem zqxb4_1 {P : Prop} (h : P := by first | rfl | (simp; done) | (simp [*]; done)) : P := h
theorem zqxb4_0 {P : Prop} (h : P := by first | (with_reducible assumption) | assumption) : P := h
attribute [local go_sem] max2_int min2_int max_two min_two max_three min_three max_four min_four   -- for this text's walks alone
set_option linter.unusedVariables false
set_option linter.unusedSimpArgs false

/-! ### ip4_optionsOK: function 46 -/
mutual
def ip4_optionsOK.j0 : Nat → List Int → Bool → Option (Bool)
 | 0, _, _ => none
 | k + 1, x0, x14 => if x14 = true then (some false) else (ip4_optionsOK.l0 k x0 0)
def ip4_optionsOK.l0 : Nat → List Int → Int → Option (Bool)
 | 0, _, _ => none
 | k + 1, x0, x3 => if x3 < (x0.length : Int) then (if 0 ≤ x3 then (if (rd x0 x3) = 0 then (if x3 ≤ (x0.length : Int) then (ip4_optionsOK.l1 k (x0.drop (x3 : Int).toNat) ((x0.drop (x3 : Int).toNat).length : Int) 0) else (none)) else (if (rd x0 x3) = 1 then (ip4_optionsOK.l0 k x0 (wrap64 (x3 + 1))) else (if (wrap64 (x3 + 1)) ≥ (x0.length : Int) then (some false) else (if 0 ≤ (wrap64 (x3 + 1)) then (if (wrap64 (x3 + 1)) < (x0.length : Int) then (if (rd x0 (wrap64 (x3 + 1))) < 2 then (some false) else (if (wrap64 (x3 + (wrap64 (rd x0 (wrap64 (x3 + 1)))))) > (x0.length : Int) then (some false) else (ip4_optionsOK.l0 k x0 (wrap64 (x3 + (wrap64 (rd x0 (wrap64 (x3 + 1))))))))) else (none)) else (none))))) else (none)) else (some true)
def ip4_optionsOK.l1 : Nat → List Int → Int → Int → Option (Bool)
 | 0, _, _, _ => none
 | k + 1, x61, x62, x63 => if x63 < x62 then (if 0 ≤ x63 then (if x63 < (x61.length : Int) then (if (rd x61 x63) = 0 then (ip4_optionsOK.l1 k x61 x62 (wrap64 (x63 + 1))) else (some false)) else (none)) else (none)) else (some true)
end
def ip4_optionsOK.f (k : Nat) (l0 : List Int) : Option (Bool) := if (l0.length : Int) > 40 then (ip4_optionsOK.j0 k l0 true) else (ip4_optionsOK.j0 k l0 (((l0.length : Int) % 4) != 0))
set_option maxHeartbeats 8000000 in
set_option maxRecDepth 100000 in
theorem ip4_optionsOK.calls (k : Nat) (A0 : Option Addr) (c0 : Nat) (l0 : List Int) (r : Bool) (w : World) (hr0 : Kd.C (Kd.int .u8) w A0 l0.length l0) (hc0 : l0.length ≤ c0) (h : ip4_optionsOK.f k l0 = some r) :
  Calls Try.prog 46 #[.slice A0 l0.length c0] w fun e w' => e = .returned (.bool r) ∧ Drawn0 w w' := by
 have HR0 := zam hr0
 have HC0 := zam hc0
 clear hr0 hc0
 have H : (if (l0.length : Int) > 40 then (ip4_optionsOK.j0 k l0 true) else (ip4_optionsOK.j0 k l0 (((l0.length : Int) % 4) != 0))) = some r := h
 clear h
 have HC2 := zam H
 clear H
 go_enter Try.func46, Try.ntmps46
 go_upto_region 1 with (fail)
 go_cut [14] (fun v14 wc => ∃ (kq : Nat) (x14_1 : Bool), v14 = .bool x14_1 ∧ Aside0 (ip4_optionsOK.j0 kq l0 x14_1 = some r) ∧ Aside0 (kq ≤ k) ∧ Drawn0 w wc)
 case first =>
  have H := HC2.out
  clear HC2
  by_cases c3 : (l0.length : Int) > 40
  ·
   rw [if_pos c3] at H
   have c3b0 : decide (40 < (l0.length : Int)) = true := decide_eq_true c3
   have c3b1 : decide (40 < l0.length) = true := decide_eq_true (by omega)
   clear c3
   (first | rw [c3b0] | (simp only [i64_w, i32_w]; rw [c3b0]) | skip)
   have H' := zam H
   clear H
   go_wp2
   go_meet
   case rel => exact ⟨_, (true), zqxb4_1, H', ⟨by first | omega | exact Nat.le_refl _⟩, by repeat (first | exact Drawn0.refl _ | apply Drawn0.step)⟩
  ·
   rw [if_neg c3] at H
   have c3b0 : decide (40 < (l0.length : Int)) = false := decide_eq_false c3
   have c3b1 : decide (40 < l0.length) = false := decide_eq_false (by omega)
   clear c3
   (first | rw [c3b0] | (simp only [i64_w, i32_w]; rw [c3b0]) | skip)
   have H' := zam H
   clear H
   go_wp2
   go_meet
   case rel => exact ⟨_, ((((l0.length : Int) % 4) != 0)), zqxb4_1, H', ⟨by first | omega | exact Nat.le_refl _⟩, by repeat (first | exact Drawn0.refl _ | apply Drawn0.step)⟩
 case rest =>
  clear HC2
  try clear p2
  try clear c3
  try clear c3b0
  try clear c3b1
  obtain ⟨kq, x14_1, rfl, HA, HJ1, ⟨mc1, rfl⟩⟩ := hcut
  cases kq with
  | zero => exact absurd HA.out (by simp [ip4_optionsOK.j0])
  | succ kj1 =>
   have H := HA.out
   clear HA
   simp only [ip4_optionsOK.j0] at H
   by_cases c4 : x14_1 = true
   ·
    subst c4
    have H1 : (some false) = some r := by rw [if_pos rfl] at H; exact H
    clear H
    have H := H1
    clear H1
    obtain rfl := Option.some.inj H
    go_wp2
    go_ret
    exact ⟨by first | rfl | (simp; done) | (simp [*]; done), by repeat (first | exact Drawn0.refl _ | apply Drawn0.step)⟩
   ·
    replace c4 := Bool.eq_false_iff.mpr c4
    subst c4
    have H1 : (ip4_optionsOK.l0 kj1 l0 0) = some r := by rw [if_neg (show ¬ (false = true) by decide)] at H; exact H
    clear H
    have H := H1
    clear H1
    have H' := zam H
    clear H
    go_wp2
    go_loopg [3] kj1 (fun kq v3 w' => ∃ (x3_2 : Int), v3 = .int .i64 x3_2 ∧ Aside0 (ip4_optionsOK.l0 kq l0 x3_2 = some r) ∧ Aside0 (kq ≤ kj1) ∧ Drawn0 w w')
    case atStart => exact ⟨(0), zqxb4_1, H', ⟨Nat.le_refl _⟩, by repeat (first | exact Drawn0.refl _ | apply Drawn0.step)⟩
    case round =>
     clear H'
     try clear c1
     try clear p2
     try clear c3
     try clear c3b0
     try clear c3b1
     try clear c4
     try clear p4
     try clear p2
     obtain ⟨x3_2, rfl, HA, HK2, ⟨m2, rfl⟩⟩ := hrel
     cases gk with
     | zero => exact absurd HA.out (by simp [ip4_optionsOK.l0])
     | succ k2 =>
      have H := HA.out
      clear HA
      simp only [ip4_optionsOK.l0] at H
      by_cases c5 : x3_2 < (l0.length : Int)
      ·
       rw [if_pos c5] at H
       have c5b0 : decide (x3_2 < (l0.length : Int)) = true := decide_eq_true c5
       clear c5
       by_cases c6 : 0 ≤ x3_2
       ·
        rw [if_pos c6] at H
        have c6b0 : decide (0 ≤ x3_2) = true := decide_eq_true c6
        clear c6
        by_cases c7 : (rd l0 x3_2) = 0
        ·
         rw [if_pos c7] at H
         have c7b0 : ((rd l0 x3_2) == 0) = true := beq_iff_eq.mpr c7
         have c7b1 : ((rd l0 x3_2) != 0) = false := bne_eq_false_iff_eq.mpr c7
         clear c7
         have c8b0 := eq_true (zod zqxb4_0 : 0 ≤ x3_2)
         by_cases c9 : x3_2 ≤ (l0.length : Int)
         ·
          rw [if_pos c9] at H
          have c9b0 := eq_true c9
          have c9b1 : decide (x3_2 ≤ (l0.length : Int)) = true := decide_eq_true c9
          clear c9
          have H' := zam H
          clear H
          have p202 : 0 ≤ (x3_2 : Int) := zod zqxb4_0
          have q202 : x3_2 < (l0.length : Int) := zod zqxb4_0
          obtain ⟨ad202, e202, hx202_0⟩ := Kd.at_int HR0.out x3_2 p202 q202
          cases e202
          replace p202 := eq_true p202
          replace q202 := eq_true q202
          obtain ⟨i010, hi010, _, hsz10, _⟩ := info_parts info5
          obtain ⟨A10, hcut10, hA10, hC10⟩ := print_drop_of (P := Try.prog) (Value.int .u8) 0 24 5 .i64 Try.underlying24 hi010 hsz10 (some ad202) c0 l0 x3_2 (zod zqxb4_0) (zod zqxb4_0) HC0.out
          have HR203 := zam (Kd.C_of_reads (h1 := fun _ => rfl) (hA10 _ (Kd.reads_of_C HR0.out)))
          have HC203 := zam hC10
          clear hA10 hC10 hi010 hsz10
          go_wp2
          go_loopg [63] k2 (fun kq v63 w' => ∃ (x63_3 : Int), v63 = .int .i64 x63_3 ∧ Aside0 (ip4_optionsOK.l1 kq (l0.drop (x3_2 : Int).toNat) ((l0.drop (x3_2 : Int).toNat).length : Int) x63_3 = some r) ∧ Aside0 (kq ≤ k2) ∧ Drawn0 w w')
          case atStart => exact ⟨(0), zqxb4_1, H', ⟨Nat.le_refl _⟩, by repeat (first | exact Drawn0.refl _ | apply Drawn0.step)⟩
          case round =>
           clear H'
           try clear c1
           try clear p2
           try clear q2
           try clear hx2
           try clear c3
           try clear c3b0
           try clear c3b1
           try clear c4
           try clear p4
           try clear c5
           try clear c5b0
           try clear c6
           try clear c6b0
           try clear c7
           try clear c7b0
           try clear c7b1
           try clear c8
           try clear c8b0
           try clear c9
           try clear c9b0
           try clear c9b1
           try clear hx202_0
           try clear p2
           try clear p202
           try clear p4
           try clear q202
           obtain ⟨x63_3, rfl, HA, HK3, ⟨m3, rfl⟩⟩ := hrel
           cases gk with
           | zero => exact absurd HA.out (by simp [ip4_optionsOK.l1])
           | succ k3 =>
            have H := HA.out
            clear HA
            simp only [ip4_optionsOK.l1] at H
            by_cases c11 : x63_3 < ((l0.drop (x3_2 : Int).toNat).length : Int)
            ·
             rw [if_pos c11] at H
             have c11b0 : decide (x63_3 < ((l0.drop (x3_2 : Int).toNat).length : Int)) = true := decide_eq_true c11
             (try (have c11b2 := c11b0; simp only [List.length_drop] at c11b2))
             clear c11
             by_cases c12 : 0 ≤ x63_3
             ·
              rw [if_pos c12] at H
              have c12b0 : decide (0 ≤ x63_3) = true := decide_eq_true c12
              clear c12
              by_cases c13 : x63_3 < ((l0.drop (x3_2 : Int).toNat).length : Int)
              ·
               rw [if_pos c13] at H
               have c13b0 : decide (x63_3 < ((l0.drop (x3_2 : Int).toNat).length : Int)) = true := decide_eq_true c13
               (try (have c13b2 := c13b0; simp only [List.length_drop] at c13b2))
               clear c13
               by_cases c14 : (rd (l0.drop (x3_2 : Int).toNat) x63_3) = 0
               ·
                rw [if_pos c14] at H
                have c14b0 : ((rd (l0.drop (x3_2 : Int).toNat) x63_3) == 0) = true := beq_iff_eq.mpr c14
                have c14b1 : ((rd (l0.drop (x3_2 : Int).toNat) x63_3) != 0) = false := bne_eq_false_iff_eq.mpr c14
                clear c14
                have H' := zam H
                clear H
                have p204 : 0 ≤ (x63_3 : Int) := zod zqxb4_0
                have q204 : x63_3 < ((l0.drop (x3_2 : Int).toNat).length : Int) := zod zqxb4_0
                obtain ⟨ad204, e204, hx204_0⟩ := Kd.at_int HR203.out x63_3 p204 q204
                cases e204
                replace p204 := eq_true p204
                replace q204 := eq_true q204
                (try (have qz204 := q204; simp only [List.length_drop] at qz204))
                go_wp2
                go_roundg k3
                case measure => have := HJ1.out; have := HK2.out; have := HK3.out; omega
                case rel => exact ⟨(wrap64 (x63_3 + 1)), zqxb4_1, H', ⟨by have := HJ1.out; have := HK2.out; have := HK3.out; omega⟩, by repeat (first | exact Drawn0.refl _ | apply Drawn0.step)⟩
               ·
                rw [if_neg c14] at H
                have c14b0 : ((rd (l0.drop (x3_2 : Int).toNat) x63_3) == 0) = false := beq_eq_false_iff_ne.mpr c14
                have c14b1 : ((rd (l0.drop (x3_2 : Int).toNat) x63_3) != 0) = true := bne_iff_ne.mpr c14
                obtain rfl := Option.some.inj H
                have p204 : 0 ≤ (x63_3 : Int) := zod zqxb4_0
                have q204 : x63_3 < ((l0.drop (x3_2 : Int).toNat).length : Int) := zod zqxb4_0
                obtain ⟨ad204, e204, hx204_0⟩ := Kd.at_int HR203.out x63_3 p204 q204
                cases e204
                replace p204 := eq_true p204
                replace q204 := eq_true q204
                (try (have qz204 := q204; simp only [List.length_drop] at qz204))
                go_wp2
                go_ret
                exact ⟨by first | rfl | (simp; done) | (simp [*]; done), by repeat (first | exact Drawn0.refl _ | apply Drawn0.step)⟩
              ·
               rw [if_neg c13] at H
               exact absurd H (by simp)
             ·
              rw [if_neg c12] at H
              exact absurd H (by simp)
            ·
             rw [if_neg c11] at H
             have c11b0 : decide (x63_3 < ((l0.drop (x3_2 : Int).toNat).length : Int)) = false := decide_eq_false c11
             (try (have c11b2 := c11b0; simp only [List.length_drop] at c11b2))
             clear c11
             obtain rfl := Option.some.inj H
             go_wp2
             go_ret
             exact ⟨by first | rfl | (simp; done) | (simp [*]; done), by repeat (first | exact Drawn0.refl _ | apply Drawn0.step)⟩
         ·
          rw [if_neg c9] at H
          exact absurd H (by simp)
        ·
         rw [if_neg c7] at H
         have c7b0 : ((rd l0 x3_2) == 0) = false := beq_eq_false_iff_ne.mpr c7
         have c7b1 : ((rd l0 x3_2) != 0) = true := bne_iff_ne.mpr c7
         by_cases c15 : (rd l0 x3_2) = 1
         ·
          rw [if_pos c15] at H
          have c15b0 : ((rd l0 x3_2) == 1) = true := beq_iff_eq.mpr c15
          have c15b1 : ((rd l0 x3_2) != 1) = false := bne_eq_false_iff_eq.mpr c15
          clear c15
          have H' := zam H
          clear H
          have p202 : 0 ≤ (x3_2 : Int) := zod zqxb4_0
          have q202 : x3_2 < (l0.length : Int) := zod zqxb4_0
          obtain ⟨ad202, e202, hx202_0⟩ := Kd.at_int HR0.out x3_2 p202 q202
          cases e202
          replace p202 := eq_true p202
          replace q202 := eq_true q202
          go_wp2
          go_roundg k2
          case measure => have := HJ1.out; have := HK2.out; omega
          case rel => exact ⟨(wrap64 (x3_2 + 1)), zqxb4_1, H', ⟨by have := HJ1.out; have := HK2.out; omega⟩, by repeat (first | exact Drawn0.refl _ | apply Drawn0.step)⟩
         ·
          rw [if_neg c15] at H
          have c15b0 : ((rd l0 x3_2) == 1) = false := beq_eq_false_iff_ne.mpr c15
          have c15b1 : ((rd l0 x3_2) != 1) = true := bne_iff_ne.mpr c15
          by_cases c16 : (wrap64 (x3_2 + 1)) ≥ (l0.length : Int)
          ·
           rw [if_pos c16] at H
           have c16b0 : decide ((l0.length : Int) ≤ (wrap64 (x3_2 + 1))) = true := decide_eq_true c16
           clear c16
           obtain rfl := Option.some.inj H
           have p202 : 0 ≤ (x3_2 : Int) := zod zqxb4_0
           have q202 : x3_2 < (l0.length : Int) := zod zqxb4_0
           obtain ⟨ad202, e202, hx202_0⟩ := Kd.at_int HR0.out x3_2 p202 q202
           cases e202
           replace p202 := eq_true p202
           replace q202 := eq_true q202
           go_wp2
           go_ret
           exact ⟨by first | rfl | (simp; done) | (simp [*]; done), by repeat (first | exact Drawn0.refl _ | apply Drawn0.step)⟩
          ·
           rw [if_neg c16] at H
           have c16b0 : decide ((l0.length : Int) ≤ (wrap64 (x3_2 + 1))) = false := decide_eq_false c16
           clear c16
           obtain ⟨ji17, hji17⟩ : ∃ j_ : Int, (wrap64 (x3_2 + 1)) = j_ := ⟨_, rfl⟩
           replace H : (if 0 ≤ (ji17) then (if (ji17) < (l0.length : Int) then (if (rd l0 (ji17)) < 2 then (some false) else (if (wrap64 (x3_2 + (wrap64 (rd l0 (ji17))))) > (l0.length : Int) then (some false) else (ip4_optionsOK.l0 k2 l0 (wrap64 (x3_2 + (wrap64 (rd l0 (ji17)))))))) else (none)) else (none)) = some r := by first | (rw [hji17] at H; exact H) | (simp only [hji17] at H ⊢; exact H)
           (try rw [hji17] at c16b0)
           have hji17w : (IntKind.i64.wrap (x3_2 + 1)) = ji17 := (i64_w _).trans hji17
           by_cases c18 : 0 ≤ (ji17)
           ·
            rw [if_pos c18] at H
            have c18b0 : decide (0 ≤ (ji17)) = true := decide_eq_true c18
            clear c18
            by_cases c19 : (ji17) < (l0.length : Int)
            ·
             rw [if_pos c19] at H
             have c19b0 : decide ((ji17) < (l0.length : Int)) = true := decide_eq_true c19
             clear c19
             by_cases c20 : (rd l0 (ji17)) < 2
             ·
              rw [if_pos c20] at H
              have c20b0 : decide ((rd l0 (ji17)) < 2) = true := decide_eq_true c20
              clear c20
              obtain rfl := Option.some.inj H
              have p202 : 0 ≤ (x3_2 : Int) := zod zqxb4_0
              have q202 : x3_2 < (l0.length : Int) := zod zqxb4_0
              obtain ⟨ad202, e202, hx202_0⟩ := Kd.at_int HR0.out x3_2 p202 q202
              cases e202
              replace p202 := eq_true p202
              replace q202 := eq_true q202
              have p205 : 0 ≤ ((ji17) : Int) := zod zqxb4_0
              have q205 : (ji17) < (l0.length : Int) := zod zqxb4_0
              obtain ⟨ad205, e205, hx205_0⟩ := Kd.at_int HR0.out (ji17) p205 q205
              obtain rfl : ad202 = ad205 := (by injection e205)
              replace p205 := eq_true p205
              replace q205 := eq_true q205
              go_wp2
              go_ret
              exact ⟨by first | rfl | (simp; done) | (simp only [← hji17] <;> (first | rfl | simp)) | (simp [*]; done), by repeat (first | exact Drawn0.refl _ | apply Drawn0.step)⟩
             ·
              rw [if_neg c20] at H
              have c20b0 : decide ((rd l0 (ji17)) < 2) = false := decide_eq_false c20
              clear c20
              by_cases c21 : (wrap64 (x3_2 + (wrap64 (rd l0 (ji17))))) > (l0.length : Int)
              ·
               rw [if_pos c21] at H
               have c21b0 : decide ((l0.length : Int) < (wrap64 (x3_2 + (wrap64 (rd l0 (ji17)))))) = true := decide_eq_true c21
               clear c21
               obtain rfl := Option.some.inj H
               have p202 : 0 ≤ (x3_2 : Int) := zod zqxb4_0
               have q202 : x3_2 < (l0.length : Int) := zod zqxb4_0
               obtain ⟨ad202, e202, hx202_0⟩ := Kd.at_int HR0.out x3_2 p202 q202
               cases e202
               replace p202 := eq_true p202
               replace q202 := eq_true q202
               have p205 : 0 ≤ ((ji17) : Int) := zod zqxb4_0
               have q205 : (ji17) < (l0.length : Int) := zod zqxb4_0
               obtain ⟨ad205, e205, hx205_0⟩ := Kd.at_int HR0.out (ji17) p205 q205
               obtain rfl : ad202 = ad205 := (by injection e205)
               replace p205 := eq_true p205
               replace q205 := eq_true q205
               have p206 : 0 ≤ ((ji17) : Int) := zod zqxb4_0
               have q206 : (ji17) < (l0.length : Int) := zod zqxb4_0
               obtain ⟨ad206, e206, hx206_0⟩ := Kd.at_int HR0.out (ji17) p206 q206
               obtain rfl : ad202 = ad206 := (by injection e206)
               replace p206 := eq_true p206
               replace q206 := eq_true q206
               go_wp2
               go_ret
               exact ⟨by first | rfl | (simp; done) | (simp only [← hji17] <;> (first | rfl | simp)) | (simp [*]; done), by repeat (first | exact Drawn0.refl _ | apply Drawn0.step)⟩
              ·
               rw [if_neg c21] at H
               have c21b0 : decide ((l0.length : Int) < (wrap64 (x3_2 + (wrap64 (rd l0 (ji17)))))) = false := decide_eq_false c21
               clear c21
               have H' := zam H
               clear H
               have p202 : 0 ≤ (x3_2 : Int) := zod zqxb4_0
               have q202 : x3_2 < (l0.length : Int) := zod zqxb4_0
               obtain ⟨ad202, e202, hx202_0⟩ := Kd.at_int HR0.out x3_2 p202 q202
               cases e202
               replace p202 := eq_true p202
               replace q202 := eq_true q202
               have p205 : 0 ≤ ((ji17) : Int) := zod zqxb4_0
               have q205 : (ji17) < (l0.length : Int) := zod zqxb4_0
               obtain ⟨ad205, e205, hx205_0⟩ := Kd.at_int HR0.out (ji17) p205 q205
               obtain rfl : ad202 = ad205 := (by injection e205)
               replace p205 := eq_true p205
               replace q205 := eq_true q205
               have p206 : 0 ≤ ((ji17) : Int) := zod zqxb4_0
               have q206 : (ji17) < (l0.length : Int) := zod zqxb4_0
               obtain ⟨ad206, e206, hx206_0⟩ := Kd.at_int HR0.out (ji17) p206 q206
               obtain rfl : ad202 = ad206 := (by injection e206)
               replace p206 := eq_true p206
               replace q206 := eq_true q206
               have p207 : 0 ≤ ((ji17) : Int) := zod zqxb4_0
               have q207 : (ji17) < (l0.length : Int) := zod zqxb4_0
               obtain ⟨ad207, e207, hx207_0⟩ := Kd.at_int HR0.out (ji17) p207 q207
               obtain rfl : ad202 = ad207 := (by injection e207)
               replace p207 := eq_true p207
               replace q207 := eq_true q207
               go_wp2
               go_roundg k2
               case measure => have := HJ1.out; have := HK2.out; omega
               case rel => exact ⟨(wrap64 (x3_2 + (wrap64 (rd l0 (ji17))))), (by first | rfl | (simp; done) | (simp only [← hji17] <;> (first | rfl | simp)) | (simp [*]; done)), H', ⟨by have := HJ1.out; have := HK2.out; omega⟩, by repeat (first | exact Drawn0.refl _ | apply Drawn0.step)⟩
            ·
             rw [if_neg c19] at H
             exact absurd H (by simp)
           ·
            rw [if_neg c18] at H
            exact absurd H (by simp)
       ·
        rw [if_neg c6] at H
        exact absurd H (by simp)
      ·
       rw [if_neg c5] at H
       have c5b0 : decide (x3_2 < (l0.length : Int)) = false := decide_eq_false c5
       clear c5
       obtain rfl := Option.some.inj H
       go_wp2
       go_ret
       exact ⟨by first | rfl | (simp; done) | (simp [*]; done), by repeat (first | exact Drawn0.refl _ | apply Drawn0.step)⟩

end Go.Proofs.Ytbacmhegalncjaa.XB
