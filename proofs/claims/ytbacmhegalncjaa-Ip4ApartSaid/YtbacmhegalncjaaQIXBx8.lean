-- printed by a program of this session (wip/xprint), out of the translation; Lean checks it
import Derived.Test.YtbacmhegalncjaaQIXBx0
import Derived.Test.YtbacmhegalncjaaQIXBx1
import Derived.Test.YtbacmhegalncjaaQIXBx4
import Derived.Test.YtbacmhegalncjaaQIXBx5
import Derived.Test.YtbacmhegalncjaaQIXBx7
namespace Go.Proofs.Ytbacmhegalncjaa.XB
open Go.RowKit Go.Proofs.YtbacmhegalncjaaW.PrintWords Go.Proofs.YtbacmhegalncjaaW.PrintLast Go.Proofs.YtbacmhegalncjaaW.PrintMore Go.Proofs.YtbacmhegalncjaaX
theorem zqxb8_12 {P : Prop} (h : P := by first | omega | exact zod zqxb8_8) : P := h
theorem zqxb8_11 {P : Prop} (h : P := by first | omega | exact zod zqxb8_8 | (have h1_ := (Kd.R_reads' HO344.out).1; omega) | (have h1_ := (Kd.R_reads' HO344.out).1; have h2_ : (0 : Int) ≤ ((l0.length : Int) : Int) := zod zqxb8_8; omega) | (have h1_ := (Kd.R_reads' HO344.out).1; have h2_ : (0 : Int) ≤ ((y342.length : Nat) : Int) := zod zqxb8_8; omega)) : P := h
theorem zqxb8_10 {P : Prop} (h : P := by (try simp only [List.map_toArray, List.map_cons, List.map_nil]); first | done | (rw [show ((l0.take (t320 : Int).toNat).drop 20).length = (t320.toNat - 20) from (by rw [List.length_drop, List.length_take]; have h_ : (t320 : Int) ≤ (l0.length : Int) := zod zqxb8_8; omega)] <;> rfl) | rfl | (simp only [List.length_drop, List.length_take]; rfl)) : P := h
theorem zqxb8_9 {P : Prop} (h : P := by repeat (first | (with_reducible exact HR327.out) | (with_reducible refine Kd.C_alloc ?_ _) | (with_reducible refine Kd.C_drewN ?_ _) | (with_reducible refine Kd.C_drew ?_) | exact HR327.out)) : P := h
theorem zqxb8_8 {P : Prop} (h : P := by first | (with_reducible assumption) | assumption) : P := h
theorem zqxb8_7 {P : Prop} (h : P := by repeat (first | (with_reducible first | exact HB.out | apply below_alloc | apply pw_below_drewN | apply below_drew1) | exact HB.out)) : P := h
theorem zqxb8_6 {P : Prop} (h : P := by (try simp only [List.map_toArray, List.map_cons, List.map_nil]); first | done | rfl | (simp only [List.length_drop, List.length_take]; rfl)) : P := h
theorem zqxb8_5 {P : Prop} (h : P := by repeat (first | (with_reducible first | exact HB.out | apply below_alloc | apply pw_below_drewN | apply below_drew1 | refine below_set ?_ GE319.out) | exact HB.out)) : P := h
theorem zqxb8_4 {P : Prop} (h : P := by first | (with_reducible exact BK319.out) | (with_reducible exact zdn BK319.out _) | (with_reducible exact zdr BK319.out) | ((with_reducible repeat (first | refine zdn ?_ _ | refine zdr ?_ | refine blk_alloc ?_ _)); exact BK319.out)) : P := h
theorem zqxb8_3 {P : Prop} (h : P := by first | exact Nat.ne_of_lt (Nat.lt_of_lt_of_le (by have := World.block_lt_of_cell? _ _ hw336_0; first | rwa [add_block] at this | exact this) GW319.out) | (rw [add_block]; exact Nat.ne_of_lt (Nat.lt_of_lt_of_le (by have := World.block_lt_of_cell? _ _ hw336_0; first | rwa [add_block] at this | exact this) GW319.out)) | (show (Addr.add _ _).block ≠ _; rw [add_block]; exact Nat.ne_of_lt (Nat.lt_of_lt_of_le (by have := World.block_lt_of_cell? _ _ hw336_0; first | rwa [add_block] at this | exact this) GW319.out)) | (dsimp only; exact Nat.ne_of_lt (Nat.lt_of_lt_of_le (by have := World.block_lt_of_cell? _ _ hw336_0; first | rwa [add_block] at this | exact this) GW319.out))) : P := h
theorem zqxb8_2 {P : Prop} (h : P := by first | exact Nat.ne_of_lt (Nat.lt_of_lt_of_le (by have := World.block_lt_of_cell? _ _ hw335_0; first | rwa [add_block] at this | exact this) GW319.out) | (rw [add_block]; exact Nat.ne_of_lt (Nat.lt_of_lt_of_le (by have := World.block_lt_of_cell? _ _ hw335_0; first | rwa [add_block] at this | exact this) GW319.out)) | (show (Addr.add _ _).block ≠ _; rw [add_block]; exact Nat.ne_of_lt (Nat.lt_of_lt_of_le (by have := World.block_lt_of_cell? _ _ hw335_0; first | rwa [add_block] at this | exact this) GW319.out)) | (dsimp only; exact Nat.ne_of_lt (Nat.lt_of_lt_of_le (by have := World.block_lt_of_cell? _ _ hw335_0; first | rwa [add_block] at this | exact this) GW319.out))) : P := h
theorem zqxb8_1 {P : Prop} (h : P := by first | exact Nat.ne_of_lt (Nat.lt_of_lt_of_le (by have := World.block_lt_of_cell? _ _ hw333_0; first | rwa [add_block] at this | exact this) GW319.out) | (rw [add_block]; exact Nat.ne_of_lt (Nat.lt_of_lt_of_le (by have := World.block_lt_of_cell? _ _ hw333_0; first | rwa [add_block] at this | exact this) GW319.out)) | (show (Addr.add _ _).block ≠ _; rw [add_block]; exact Nat.ne_of_lt (Nat.lt_of_lt_of_le (by have := World.block_lt_of_cell? _ _ hw333_0; first | rwa [add_block] at this | exact this) GW319.out)) | (dsimp only; exact Nat.ne_of_lt (Nat.lt_of_lt_of_le (by have := World.block_lt_of_cell? _ _ hw333_0; first | rwa [add_block] at this | exact this) GW319.out))) : P := h
theorem zqxb8_0 {P : Prop} (h : P := by (with_reducible repeat (first | refine zdn ?_ _ | refine zdr ?_ | refine blk_alloc ?_ _)); refine blk_put (cs := #[.int .u8 0, .int .u16 0, .bool false, .bool false, .int .i64 0, .int .u8 0, .int .u8 0, .int .u32 0, .int .u32 0, .slice none 0 0]) ?_ 9 _ rfl; (with_reducible repeat (first | refine zdn ?_ _ | refine zdr ?_ | refine blk_alloc ?_ _)); refine blk_put (cs := #[.int .u8 0, .int .u16 0, .bool false, .bool false, .int .i64 0, .int .u8 0, .int .u8 0, .int .u32 0, .int .u32 0, .slice none 0 0]) ?_ 8 _ rfl; (with_reducible repeat (first | refine zdn ?_ _ | refine zdr ?_ | refine blk_alloc ?_ _)); refine blk_put (cs := #[.int .u8 0, .int .u16 0, .bool false, .bool false, .int .i64 0, .int .u8 0, .int .u8 0, .int .u32 0, .int .u32 0, .slice none 0 0]) ?_ 7 _ rfl; (with_reducible repeat (first | refine zdn ?_ _ | refine zdr ?_ | refine blk_alloc ?_ _)); refine blk_put (cs := #[.int .u8 0, .int .u16 0, .bool false, .bool false, .int .i64 0, .int .u8 0, .int .u8 0, .int .u32 0, .int .u32 0, .slice none 0 0]) ?_ 6 _ rfl; (with_reducible repeat (first | refine zdn ?_ _ | refine zdr ?_ | refine blk_alloc ?_ _)); refine blk_put (cs := #[.int .u8 0, .int .u16 0, .bool false, .bool false, .int .i64 0, .int .u8 0, .int .u8 0, .int .u32 0, .int .u32 0, .slice none 0 0]) ?_ 5 _ rfl; (with_reducible repeat (first | refine zdn ?_ _ | refine zdr ?_ | refine blk_alloc ?_ _)); refine blk_put (cs := #[.int .u8 0, .int .u16 0, .bool false, .bool false, .int .i64 0, .int .u8 0, .int .u8 0, .int .u32 0, .int .u32 0, .slice none 0 0]) ?_ 4 _ rfl; (with_reducible repeat (first | refine zdn ?_ _ | refine zdr ?_ | refine blk_alloc ?_ _)); refine blk_put (cs := #[.int .u8 0, .int .u16 0, .bool false, .bool false, .int .i64 0, .int .u8 0, .int .u8 0, .int .u32 0, .int .u32 0, .slice none 0 0]) ?_ 3 _ rfl; (with_reducible repeat (first | refine zdn ?_ _ | refine zdr ?_ | refine blk_alloc ?_ _)); refine blk_put (cs := #[.int .u8 0, .int .u16 0, .bool false, .bool false, .int .i64 0, .int .u8 0, .int .u8 0, .int .u32 0, .int .u32 0, .slice none 0 0]) ?_ 2 _ rfl; (with_reducible repeat (first | refine zdn ?_ _ | refine zdr ?_ | refine blk_alloc ?_ _)); refine blk_put (cs := #[.int .u8 0, .int .u16 0, .bool false, .bool false, .int .i64 0, .int .u8 0, .int .u8 0, .int .u32 0, .int .u32 0, .slice none 0 0]) ?_ 1 _ rfl; (with_reducible repeat (first | refine zdn ?_ _ | refine zdr ?_ | refine blk_alloc ?_ _)); refine blk_put (cs := #[.int .u8 0, .int .u16 0, .bool false, .bool false, .int .i64 0, .int .u8 0, .int .u8 0, .int .u32 0, .int .u32 0, .slice none 0 0]) ?_ 0 _ rfl; first | (with_reducible exact BK319.out) | (with_reducible exact zdn BK319.out _) | (with_reducible exact zdr BK319.out) | ((with_reducible repeat (first | refine zdn ?_ _ | refine zdr ?_ | refine blk_alloc ?_ _)); exact BK319.out)) : P := h
attribute [local go_sem] max2_int min2_int max_two min_two max_three min_three max_four min_four   -- for this text's walks alone
set_option linter.unusedVariables false
set_option linter.unusedSimpArgs false

/-! ### ip4_measure: function 76 -/
def ip4_measure.f (l0 : List Int) (a1 : Bool) : Option (Int × Int × Int) := if (l0.length : Int) < 20 then (some (0, 0, 30)) else (if 0 < (l0.length : Int) then (if ((rd l0 0) / 16) = 4 then (if (wrap64 ((wrap64 (Go.bits .and .u8 (rd l0 0) 15)) * 4)) < 20 then (some (0, 0, 32)) else (if (l0.length : Int) < (wrap64 ((wrap64 (Go.bits .and .u8 (rd l0 0) 15)) * 4)) then (some (0, 0, 30)) else ((ip4_word.f l0 2).bind fun t316 => (if (wrap64 (t316)) < (wrap64 ((wrap64 (Go.bits .and .u8 (rd l0 0) 15)) * 4)) then (some (0, 0, 32)) else (if a1 = true then (if (l0.length : Int) < (wrap64 (t316)) then (some (0, 0, 30)) else (some (wrap64 ((wrap64 (Go.bits .and .u8 (rd l0 0) 15)) * 4), wrap64 (t316), 0))) else (some (wrap64 ((wrap64 (Go.bits .and .u8 (rd l0 0) 15)) * 4), wrap64 (t316), 0))))))) else (some (0, 0, 31))) else (none))
set_option maxHeartbeats 8000000 in
set_option maxRecDepth 100000 in
theorem ip4_measure.calls (A0 : Option Addr) (c0 : Nat) (l0 : List Int) (a1 : Bool) (r1 : Int) (r2 : Int) (r3 : Int) (w : World) (hr0 : Kd.C (Kd.int .u8) w A0 l0.length l0) (hc0 : l0.length ≤ c0) (h : ip4_measure.f l0 a1 = some (r1, r2, r3)) :
  Calls Try.prog 76 #[.slice A0 l0.length c0, .bool a1] w fun e w' => e = .returned (.tuple #[.int .i64 r1, .int .i64 r2, .int .i64 r3]) ∧ Drawn0 w w' := by
 have HR0 := zam hr0
 have HC0 := zam hc0
 clear hr0 hc0
 have H : (if (l0.length : Int) < 20 then (some (0, 0, 30)) else (if 0 < (l0.length : Int) then (if ((rd l0 0) / 16) = 4 then (if (wrap64 ((wrap64 (Go.bits .and .u8 (rd l0 0) 15)) * 4)) < 20 then (some (0, 0, 32)) else (if (l0.length : Int) < (wrap64 ((wrap64 (Go.bits .and .u8 (rd l0 0) 15)) * 4)) then (some (0, 0, 30)) else ((ip4_word.f l0 2).bind fun t316 => (if (wrap64 (t316)) < (wrap64 ((wrap64 (Go.bits .and .u8 (rd l0 0) 15)) * 4)) then (some (0, 0, 32)) else (if a1 = true then (if (l0.length : Int) < (wrap64 (t316)) then (some (0, 0, 30)) else (some (wrap64 ((wrap64 (Go.bits .and .u8 (rd l0 0) 15)) * 4), wrap64 (t316), 0))) else (some (wrap64 ((wrap64 (Go.bits .and .u8 (rd l0 0) 15)) * 4), wrap64 (t316), 0))))))) else (some (0, 0, 31))) else (none))) = some (r1, r2, r3) := h
 clear h
 by_cases c3 : (l0.length : Int) < 20
 ·
  rw [if_pos c3] at H
  have c3b0 : decide ((l0.length : Int) < 20) = true := decide_eq_true c3
  have c3b1 : decide (l0.length < 20) = true := decide_eq_true (by omega)
  clear c3
  simp only [Option.some.injEq, Prod.mk.injEq] at H
  obtain ⟨rfl, rfl, rfl⟩ := H
  go_enter Try.func76, Try.ntmps76
  go_wp2
  go_ret3
  exact ⟨by first | rfl | (simp; done) | (simp [*]; done), by repeat (first | exact Drawn0.refl _ | apply Drawn0.step)⟩
 ·
  rw [if_neg c3] at H
  have c3b0 : decide ((l0.length : Int) < 20) = false := decide_eq_false c3
  have c3b1 : decide (l0.length < 20) = false := decide_eq_false (by omega)
  clear c3
  by_cases c4 : 0 < (l0.length : Int)
  ·
   rw [if_pos c4] at H
   have c4b0 : decide (0 < (l0.length : Int)) = true := decide_eq_true c4
   have c4b1 : decide (0 < l0.length) = true := decide_eq_true (by omega)
   clear c4
   by_cases c5 : ((rd l0 0) / 16) = 4
   ·
    rw [if_pos c5] at H
    have c5b0 : (((rd l0 0) / 16) == 4) = true := beq_iff_eq.mpr c5
    have c5b1 : (((rd l0 0) / 16) != 4) = false := bne_eq_false_iff_eq.mpr c5
    clear c5
    by_cases c6 : (wrap64 ((wrap64 (Go.bits .and .u8 (rd l0 0) 15)) * 4)) < 20
    ·
     rw [if_pos c6] at H
     have c6b0 : decide ((wrap64 ((wrap64 (Go.bits .and .u8 (rd l0 0) 15)) * 4)) < 20) = true := decide_eq_true c6
     clear c6
     simp only [Option.some.injEq, Prod.mk.injEq] at H
     obtain ⟨rfl, rfl, rfl⟩ := H
     have p314 : 0 ≤ (0 : Int) := (by omega)
     have q314 : 0 < (l0.length : Int) := zod zqxb8_8
     obtain ⟨ad314, e314, hx314_0⟩ := Kd.at_int HR0.out 0 p314 q314
     cases e314
     have qi314 : (0 < l0.length) = True := eq_true (by omega)
     (try rw [show ((0 : Int)).toNat = 0 from rfl] at hx314_0)
     (try rw [Addr.add_zero'] at hx314_0)
     replace p314 := eq_true p314
     replace q314 := eq_true q314
     have p315 : 0 ≤ (0 : Int) := (by omega)
     have q315 : 0 < (l0.length : Int) := zod zqxb8_8
     obtain ⟨ad315, e315, hx315_0⟩ := Kd.at_int HR0.out 0 p315 q315
     obtain rfl : ad314 = ad315 := (by injection e315)
     have qi315 : (0 < l0.length) = True := eq_true (by omega)
     (try rw [show ((0 : Int)).toNat = 0 from rfl] at hx315_0)
     (try rw [Addr.add_zero'] at hx315_0)
     replace p315 := eq_true p315
     replace q315 := eq_true q315
     go_enter Try.func76, Try.ntmps76
     go_wp2
     go_ret3
     exact ⟨by first | rfl | (simp; done) | (simp [*]; done), by repeat (first | exact Drawn0.refl _ | apply Drawn0.step)⟩
    ·
     rw [if_neg c6] at H
     have c6b0 : decide ((wrap64 ((wrap64 (Go.bits .and .u8 (rd l0 0) 15)) * 4)) < 20) = false := decide_eq_false c6
     clear c6
     by_cases c7 : (l0.length : Int) < (wrap64 ((wrap64 (Go.bits .and .u8 (rd l0 0) 15)) * 4))
     ·
      rw [if_pos c7] at H
      have c7b0 : decide ((l0.length : Int) < (wrap64 ((wrap64 (Go.bits .and .u8 (rd l0 0) 15)) * 4))) = true := decide_eq_true c7
      clear c7
      simp only [Option.some.injEq, Prod.mk.injEq] at H
      obtain ⟨rfl, rfl, rfl⟩ := H
      have p314 : 0 ≤ (0 : Int) := (by omega)
      have q314 : 0 < (l0.length : Int) := zod zqxb8_8
      obtain ⟨ad314, e314, hx314_0⟩ := Kd.at_int HR0.out 0 p314 q314
      cases e314
      have qi314 : (0 < l0.length) = True := eq_true (by omega)
      (try rw [show ((0 : Int)).toNat = 0 from rfl] at hx314_0)
      (try rw [Addr.add_zero'] at hx314_0)
      replace p314 := eq_true p314
      replace q314 := eq_true q314
      have p315 : 0 ≤ (0 : Int) := (by omega)
      have q315 : 0 < (l0.length : Int) := zod zqxb8_8
      obtain ⟨ad315, e315, hx315_0⟩ := Kd.at_int HR0.out 0 p315 q315
      obtain rfl : ad314 = ad315 := (by injection e315)
      have qi315 : (0 < l0.length) = True := eq_true (by omega)
      (try rw [show ((0 : Int)).toNat = 0 from rfl] at hx315_0)
      (try rw [Addr.add_zero'] at hx315_0)
      replace p315 := eq_true p315
      replace q315 := eq_true q315
      go_enter Try.func76, Try.ntmps76
      go_wp2
      go_ret3
      exact ⟨by first | rfl | (simp; done) | (simp [*]; done), by repeat (first | exact Drawn0.refl _ | apply Drawn0.step)⟩
     ·
      rw [if_neg c7] at H
      have c7b0 : decide ((l0.length : Int) < (wrap64 ((wrap64 (Go.bits .and .u8 (rd l0 0) 15)) * 4))) = false := decide_eq_false c7
      clear c7
      replace H := Option.bind_eq_some_iff.mp H
      obtain ⟨t316, A80, H⟩ := H
      replace H : (if (wrap64 (t316)) < (wrap64 ((wrap64 (Go.bits .and .u8 (rd l0 0) 15)) * 4)) then (some (0, 0, 32)) else (if a1 = true then (if (l0.length : Int) < (wrap64 (t316)) then (some (0, 0, 30)) else (some (wrap64 ((wrap64 (Go.bits .and .u8 (rd l0 0) 15)) * 4), wrap64 (t316), 0))) else (some (wrap64 ((wrap64 (Go.bits .and .u8 (rd l0 0) 15)) * 4), wrap64 (t316), 0)))) = some (r1, r2, r3) := H
      have A8 := zam A80
      clear A80
      by_cases c9 : (wrap64 (t316)) < (wrap64 ((wrap64 (Go.bits .and .u8 (rd l0 0) 15)) * 4))
      ·
       rw [if_pos c9] at H
       have c9b0 : decide ((wrap64 (t316)) < (wrap64 ((wrap64 (Go.bits .and .u8 (rd l0 0) 15)) * 4))) = true := decide_eq_true c9
       clear c9
       simp only [Option.some.injEq, Prod.mk.injEq] at H
       obtain ⟨rfl, rfl, rfl⟩ := H
       have p314 : 0 ≤ (0 : Int) := (by omega)
       have q314 : 0 < (l0.length : Int) := zod zqxb8_8
       obtain ⟨ad314, e314, hx314_0⟩ := Kd.at_int HR0.out 0 p314 q314
       cases e314
       have qi314 : (0 < l0.length) = True := eq_true (by omega)
       (try rw [show ((0 : Int)).toNat = 0 from rfl] at hx314_0)
       (try rw [Addr.add_zero'] at hx314_0)
       replace p314 := eq_true p314
       replace q314 := eq_true q314
       have p315 : 0 ≤ (0 : Int) := (by omega)
       have q315 : 0 < (l0.length : Int) := zod zqxb8_8
       obtain ⟨ad315, e315, hx315_0⟩ := Kd.at_int HR0.out 0 p315 q315
       obtain rfl : ad314 = ad315 := (by injection e315)
       have qi315 : (0 < l0.length) = True := eq_true (by omega)
       (try rw [show ((0 : Int)).toNat = 0 from rfl] at hx315_0)
       (try rw [Addr.add_zero'] at hx315_0)
       replace p315 := eq_true p315
       replace q315 := eq_true q315
       go_enter Try.func76, Try.ntmps76
       go_wp2_with (first | ((with_reducible refine gate_callee (f := 77) rfl ?_); refine goesL_ (some 28) rfl rfl Try.func77 (by kernel_rfl) rfl #[.slice (some ad314) l0.length c0, .int .i64 2] rfl zqxb8_6 ?_; (with_reducible refine (ip4_word.calls _ _ l0 2 t316 _ ?side1 ?side2 A8.out).mono ?_); (case side1 => repeat (first | exact HR0.out | (with_reducible refine Kd.C_alloc ?_ _) | (with_reducible refine Kd.C_drewN ?_ _) | (with_reducible refine Kd.C_drew ?_))); (case side2 => exact HC0.out); rintro e w' ⟨rfl, ⟨nd, rfl⟩⟩; refine ⟨_, rfl, ?_⟩))
       go_ret3
       exact ⟨by first | rfl | (simp; done) | (simp [*]; done), by repeat (first | exact Drawn0.refl _ | apply Drawn0.step)⟩
      ·
       rw [if_neg c9] at H
       have c9b0 : decide ((wrap64 (t316)) < (wrap64 ((wrap64 (Go.bits .and .u8 (rd l0 0) 15)) * 4))) = false := decide_eq_false c9
       clear c9
       by_cases c10 : a1 = true
       ·
        subst c10
        have H1 : (if (l0.length : Int) < (wrap64 (t316)) then (some (0, 0, 30)) else (some (wrap64 ((wrap64 (Go.bits .and .u8 (rd l0 0) 15)) * 4), wrap64 (t316), 0))) = some (r1, r2, r3) := by rw [if_pos rfl] at H; exact H
        clear H
        have H := H1
        clear H1
        by_cases c11 : (l0.length : Int) < (wrap64 (t316))
        ·
         rw [if_pos c11] at H
         have c11b0 : decide ((l0.length : Int) < (wrap64 (t316))) = true := decide_eq_true c11
         clear c11
         simp only [Option.some.injEq, Prod.mk.injEq] at H
         obtain ⟨rfl, rfl, rfl⟩ := H
         have p314 : 0 ≤ (0 : Int) := (by omega)
         have q314 : 0 < (l0.length : Int) := zod zqxb8_8
         obtain ⟨ad314, e314, hx314_0⟩ := Kd.at_int HR0.out 0 p314 q314
         cases e314
         have qi314 : (0 < l0.length) = True := eq_true (by omega)
         (try rw [show ((0 : Int)).toNat = 0 from rfl] at hx314_0)
         (try rw [Addr.add_zero'] at hx314_0)
         replace p314 := eq_true p314
         replace q314 := eq_true q314
         have p315 : 0 ≤ (0 : Int) := (by omega)
         have q315 : 0 < (l0.length : Int) := zod zqxb8_8
         obtain ⟨ad315, e315, hx315_0⟩ := Kd.at_int HR0.out 0 p315 q315
         obtain rfl : ad314 = ad315 := (by injection e315)
         have qi315 : (0 < l0.length) = True := eq_true (by omega)
         (try rw [show ((0 : Int)).toNat = 0 from rfl] at hx315_0)
         (try rw [Addr.add_zero'] at hx315_0)
         replace p315 := eq_true p315
         replace q315 := eq_true q315
         go_enter Try.func76, Try.ntmps76
         go_wp2_with (first | ((with_reducible refine gate_callee (f := 77) rfl ?_); refine goesL_ (some 28) rfl rfl Try.func77 (by kernel_rfl) rfl #[.slice (some ad314) l0.length c0, .int .i64 2] rfl zqxb8_6 ?_; (with_reducible refine (ip4_word.calls _ _ l0 2 t316 _ ?side1 ?side2 A8.out).mono ?_); (case side1 => repeat (first | exact HR0.out | (with_reducible refine Kd.C_alloc ?_ _) | (with_reducible refine Kd.C_drewN ?_ _) | (with_reducible refine Kd.C_drew ?_))); (case side2 => exact HC0.out); rintro e w' ⟨rfl, ⟨nd, rfl⟩⟩; refine ⟨_, rfl, ?_⟩))
         go_ret3
         exact ⟨by first | rfl | (simp; done) | (simp [*]; done), by repeat (first | exact Drawn0.refl _ | apply Drawn0.step)⟩
        ·
         rw [if_neg c11] at H
         have c11b0 : decide ((l0.length : Int) < (wrap64 (t316))) = false := decide_eq_false c11
         clear c11
         simp only [Option.some.injEq, Prod.mk.injEq] at H
         obtain ⟨rfl, rfl, rfl⟩ := H
         have p314 : 0 ≤ (0 : Int) := (by omega)
         have q314 : 0 < (l0.length : Int) := zod zqxb8_8
         obtain ⟨ad314, e314, hx314_0⟩ := Kd.at_int HR0.out 0 p314 q314
         cases e314
         have qi314 : (0 < l0.length) = True := eq_true (by omega)
         (try rw [show ((0 : Int)).toNat = 0 from rfl] at hx314_0)
         (try rw [Addr.add_zero'] at hx314_0)
         replace p314 := eq_true p314
         replace q314 := eq_true q314
         have p315 : 0 ≤ (0 : Int) := (by omega)
         have q315 : 0 < (l0.length : Int) := zod zqxb8_8
         obtain ⟨ad315, e315, hx315_0⟩ := Kd.at_int HR0.out 0 p315 q315
         obtain rfl : ad314 = ad315 := (by injection e315)
         have qi315 : (0 < l0.length) = True := eq_true (by omega)
         (try rw [show ((0 : Int)).toNat = 0 from rfl] at hx315_0)
         (try rw [Addr.add_zero'] at hx315_0)
         replace p315 := eq_true p315
         replace q315 := eq_true q315
         go_enter Try.func76, Try.ntmps76
         go_wp2_with (first | ((with_reducible refine gate_callee (f := 77) rfl ?_); refine goesL_ (some 28) rfl rfl Try.func77 (by kernel_rfl) rfl #[.slice (some ad314) l0.length c0, .int .i64 2] rfl zqxb8_6 ?_; (with_reducible refine (ip4_word.calls _ _ l0 2 t316 _ ?side1 ?side2 A8.out).mono ?_); (case side1 => repeat (first | exact HR0.out | (with_reducible refine Kd.C_alloc ?_ _) | (with_reducible refine Kd.C_drewN ?_ _) | (with_reducible refine Kd.C_drew ?_))); (case side2 => exact HC0.out); rintro e w' ⟨rfl, ⟨nd, rfl⟩⟩; refine ⟨_, rfl, ?_⟩))
         go_ret3
         exact ⟨by first | rfl | (simp; done) | (simp [*]; done), by repeat (first | exact Drawn0.refl _ | apply Drawn0.step)⟩
       ·
        replace c10 := Bool.eq_false_iff.mpr c10
        subst c10
        have H1 : (some (wrap64 ((wrap64 (Go.bits .and .u8 (rd l0 0) 15)) * 4), wrap64 (t316), 0)) = some (r1, r2, r3) := by rw [if_neg (show ¬ (false = true) by decide)] at H; exact H
        clear H
        have H := H1
        clear H1
        simp only [Option.some.injEq, Prod.mk.injEq] at H
        obtain ⟨rfl, rfl, rfl⟩ := H
        have p314 : 0 ≤ (0 : Int) := (by omega)
        have q314 : 0 < (l0.length : Int) := zod zqxb8_8
        obtain ⟨ad314, e314, hx314_0⟩ := Kd.at_int HR0.out 0 p314 q314
        cases e314
        have qi314 : (0 < l0.length) = True := eq_true (by omega)
        (try rw [show ((0 : Int)).toNat = 0 from rfl] at hx314_0)
        (try rw [Addr.add_zero'] at hx314_0)
        replace p314 := eq_true p314
        replace q314 := eq_true q314
        have p315 : 0 ≤ (0 : Int) := (by omega)
        have q315 : 0 < (l0.length : Int) := zod zqxb8_8
        obtain ⟨ad315, e315, hx315_0⟩ := Kd.at_int HR0.out 0 p315 q315
        obtain rfl : ad314 = ad315 := (by injection e315)
        have qi315 : (0 < l0.length) = True := eq_true (by omega)
        (try rw [show ((0 : Int)).toNat = 0 from rfl] at hx315_0)
        (try rw [Addr.add_zero'] at hx315_0)
        replace p315 := eq_true p315
        replace q315 := eq_true q315
        go_enter Try.func76, Try.ntmps76
        go_wp2_with (first | ((with_reducible refine gate_callee (f := 77) rfl ?_); refine goesL_ (some 28) rfl rfl Try.func77 (by kernel_rfl) rfl #[.slice (some ad314) l0.length c0, .int .i64 2] rfl zqxb8_6 ?_; (with_reducible refine (ip4_word.calls _ _ l0 2 t316 _ ?side1 ?side2 A8.out).mono ?_); (case side1 => repeat (first | exact HR0.out | (with_reducible refine Kd.C_alloc ?_ _) | (with_reducible refine Kd.C_drewN ?_ _) | (with_reducible refine Kd.C_drew ?_))); (case side2 => exact HC0.out); rintro e w' ⟨rfl, ⟨nd, rfl⟩⟩; refine ⟨_, rfl, ?_⟩))
        go_ret3
        exact ⟨by first | rfl | (simp; done) | (simp [*]; done), by repeat (first | exact Drawn0.refl _ | apply Drawn0.step)⟩
   ·
    rw [if_neg c5] at H
    have c5b0 : (((rd l0 0) / 16) == 4) = false := beq_eq_false_iff_ne.mpr c5
    have c5b1 : (((rd l0 0) / 16) != 4) = true := bne_iff_ne.mpr c5
    simp only [Option.some.injEq, Prod.mk.injEq] at H
    obtain ⟨rfl, rfl, rfl⟩ := H
    have p314 : 0 ≤ (0 : Int) := (by omega)
    have q314 : 0 < (l0.length : Int) := zod zqxb8_8
    obtain ⟨ad314, e314, hx314_0⟩ := Kd.at_int HR0.out 0 p314 q314
    cases e314
    have qi314 : (0 < l0.length) = True := eq_true (by omega)
    (try rw [show ((0 : Int)).toNat = 0 from rfl] at hx314_0)
    (try rw [Addr.add_zero'] at hx314_0)
    replace p314 := eq_true p314
    replace q314 := eq_true q314
    go_enter Try.func76, Try.ntmps76
    go_wp2
    go_ret3
    exact ⟨by first | rfl | (simp; done) | (simp [*]; done), by repeat (first | exact Drawn0.refl _ | apply Drawn0.step)⟩
  ·
   rw [if_neg c4] at H
   exact absurd H (by simp)

/-! ### ip4_long: function 78 -/
def ip4_long.f (l0 : List Int) (a1 : Int) : Option (Int) := (ip4_word.f l0 a1).bind fun t317 => ((ip4_word.f l0 (wrap64 (a1 + 2))).bind fun t318 => (some (Go.bits .or .u32 ((((t317) % 4294967296) * 65536) % 4294967296) ((t318) % 4294967296))))
set_option maxHeartbeats 8000000 in
set_option maxRecDepth 100000 in
theorem ip4_long.calls (A0 : Option Addr) (c0 : Nat) (l0 : List Int) (a1 : Int) (r : Int) (w : World) (hr0 : Kd.C (Kd.int .u8) w A0 l0.length l0) (hc0 : l0.length ≤ c0) (h : ip4_long.f l0 a1 = some r) :
  Calls Try.prog 78 #[.slice A0 l0.length c0, .int .i64 a1] w fun e w' => e = .returned (.int .u32 r) ∧ Drawn0 w w' := by
 have HR0 := zam hr0
 have HC0 := zam hc0
 clear hr0 hc0
 have H : ((ip4_word.f l0 a1).bind fun t317 => ((ip4_word.f l0 (wrap64 (a1 + 2))).bind fun t318 => (some (Go.bits .or .u32 ((((t317) % 4294967296) * 65536) % 4294967296) ((t318) % 4294967296))))) = some r := h
 clear h
 replace H := Option.bind_eq_some_iff.mp H
 obtain ⟨t317, A30, H⟩ := H
 replace H : ((ip4_word.f l0 (wrap64 (a1 + 2))).bind fun t318 => (some (Go.bits .or .u32 ((((t317) % 4294967296) * 65536) % 4294967296) ((t318) % 4294967296)))) = some r := H
 have A3 := zam A30
 clear A30
 replace H := Option.bind_eq_some_iff.mp H
 obtain ⟨t318, A40, H⟩ := H
 replace H : (some (Go.bits .or .u32 ((((t317) % 4294967296) * 65536) % 4294967296) ((t318) % 4294967296))) = some r := H
 have A4 := zam A40
 clear A40
 obtain rfl := Option.some.inj H
 go_enter Try.func78, Try.ntmps78
 go_wp2_with (first | ((with_reducible refine gate_callee (f := 77) rfl ?_); refine goesL_ (some 7) rfl rfl Try.func77 (by kernel_rfl) rfl #[.slice A0 l0.length c0, .int .i64 a1] rfl zqxb8_6 ?_; (with_reducible refine (ip4_word.calls _ _ l0 a1 t317 _ ?side1 ?side2 A3.out).mono ?_); (case side1 => repeat (first | exact HR0.out | (with_reducible refine Kd.C_alloc ?_ _) | (with_reducible refine Kd.C_drewN ?_ _) | (with_reducible refine Kd.C_drew ?_))); (case side2 => exact HC0.out); rintro e w' ⟨rfl, ⟨nd, rfl⟩⟩; refine ⟨_, rfl, ?_⟩) | ((with_reducible refine gate_callee (f := 77) rfl ?_); refine goesL_ (some 13) rfl rfl Try.func77 (by kernel_rfl) rfl #[.slice A0 l0.length c0, .int .i64 (wrap64 (a1 + 2))] rfl zqxb8_6 ?_; (with_reducible refine (ip4_word.calls _ _ l0 (wrap64 (a1 + 2)) t318 _ ?side1 ?side2 A4.out).mono ?_); (case side1 => repeat (first | exact HR0.out | (with_reducible refine Kd.C_alloc ?_ _) | (with_reducible refine Kd.C_drewN ?_ _) | (with_reducible refine Kd.C_drew ?_))); (case side2 => exact HC0.out); rintro e w' ⟨rfl, ⟨nd, rfl⟩⟩; refine ⟨_, rfl, ?_⟩))
 go_ret
 exact ⟨by first | rfl | (simp; done) | (simp [*]; done), by repeat (first | exact Drawn0.refl _ | apply Drawn0.step)⟩

/-! ### ip4_read: function 65 -/
def ip4_read.f (k : Nat) (l0 : List Int) (a1 : Bool) : Option (Int × Int × Bool × Bool × Int × Int × Int × Int × Int × List Int × Int × Int × Int) := (ip4_measure.f l0 a1).bind fun bt320 => (if bt320.2.2 = 0 then (if 0 ≤ bt320.1 then (if bt320.1 ≤ (l0.length : Int) then ((ip4_Sum.f k (([l0.take (bt320.1 : Int).toNat] : List (List Int)))).bind fun t328 => (if t328 = 0 then ((ip4_word.f l0 6).bind fun t329 => (if (Go.bits .and .u16 t329 32768) = 0 then (if 20 ≤ bt320.1 then ((ip4_optionsOK.f k ((l0.take (bt320.1 : Int).toNat).drop 20)).bind fun t331 => (if t331 = true then ((ip4_orderly.f (wrap64 ((wrap64 (Go.bits .and .u16 t329 8191)) * 8)) (wrap64 (bt320.2.1 - bt320.1)) ((Go.bits .and .u16 t329 8192) != 0)).bind fun t332 => (if t332 = true then (if 1 < (l0.length : Int) then ((ip4_word.f l0 4).bind fun t334 => (if 8 < (l0.length : Int) then (if 9 < (l0.length : Int) then ((ip4_long.f l0 12).bind fun t337 => ((ip4_long.f l0 16).bind fun t338 => (some (rd l0 1, t334, ((Go.bits .and .u16 t329 16384) != 0), ((Go.bits .and .u16 t329 8192) != 0), wrap64 ((wrap64 (Go.bits .and .u16 t329 8191)) * 8), rd l0 8, rd l0 9, t337, t338, ([] : List Int), bt320.1, bt320.2.1, 0)))) else (none)) else (none))) else (none)) else (some (0, 0, false, false, 0, 0, 0, 0, 0, ([] : List Int), 0, 0, 36)))) else (some (0, 0, false, false, 0, 0, 0, 0, 0, ([] : List Int), 0, 0, 34)))) else (none)) else (some (0, 0, false, false, 0, 0, 0, 0, 0, ([] : List Int), 0, 0, 32)))) else (some (0, 0, false, false, 0, 0, 0, 0, 0, ([] : List Int), 0, 0, 33)))) else (none)) else (none)) else (some (0, 0, false, false, 0, 0, 0, 0, 0, ([] : List Int), 0, 0, bt320.2.2)))
def ip4_read.T14 : Bool × List (List Nat × List Nat) := (true, [([], []), ([0], [0]), ([1], [1]), ([], []), ([3], [3]), ([], []), ([5], [5]), ([6], [6]), ([], []), ([], []), ([], []), ([10], [10]), ([11], [11]), ([], []), ([13], [13]), ([14], [14]), ([], []), ([16, 4], [16]), ([], []), ([18, 17], [18]), ([2, 4, 7, 8, 9, 12, 15, 17, 19], [2, 4, 7, 8, 9, 12, 15, 17, 19]), ([20, 19, 0, 1, 2, 3, 4, 5, 6, 7, 8, 9, 10, 11, 12, 13, 14, 15, 16, 17, 18, 19, 20], [20])])
def ip4_read.B14 : List Nat := [0, 1, 3, 0, 8, 0, 32, 96, 0, 0, 0, 1024, 3072, 0, 8192, 24576, 0, 65560, 0, 458776, 1048575, 2097151]
theorem ip4_read.tab14 : rtab .any (opsOf Try.f65 14) = ip4_read.T14 := by kernel_rfl
theorem ip4_read.bits14 : waitsOk ip4_read.T14.2 ip4_read.B14 = true := by kernel_rfl
set_option maxHeartbeats 8000000 in
set_option maxRecDepth 100000 in
theorem ip4_read.calls (k : Nat) (A0 : Option Addr) (c0 : Nat) (l0 : List Int) (a1 : Bool) (r1 : Int) (r2 : Int) (r3 : Bool) (r4 : Bool) (r5 : Int) (r6 : Int) (r7 : Int) (r8 : Int) (r9 : Int) (r10 : List Int) (r11 : Int) (r12 : Int) (r13 : Int) (w : World) (hr0 : Kd.C (Kd.int .u8) w A0 l0.length l0) (hc0 : l0.length ≤ c0) (h : ip4_read.f k l0 a1 = some (r1, r2, r3, r4, r5, r6, r7, r8, r9, r10, r11, r12, r13)) :
  Calls Try.prog 65 #[.slice A0 l0.length c0, .bool a1] w fun e w' => ∃ v9_ : Value, e = .returned (.tuple #[.agg #[.int .u8 r1, .int .u16 r2, .bool r3, .bool r4, .int .i64 r5, .int .u8 r6, .int .u8 r7, .int .u32 r8, .int .u32 r9, v9_], .int .i64 r11, .int .i64 r12, .int .i64 r13]) ∧ Kd.R (Kd.int .u8) 5 w' w.heap.size (fun _ => True) v9_ r10 ∧ Below w.heap.size w w' := by
 have hu41 := Try.underlying41
 have HR0 := zam hr0
 have HC0 := zam hc0
 clear hr0 hc0
 have HB := zam (Below.refl w.heap.size w)
 have H : ((ip4_measure.f l0 a1).bind fun bt320 => (if bt320.2.2 = 0 then (if 0 ≤ bt320.1 then (if bt320.1 ≤ (l0.length : Int) then ((ip4_Sum.f k (([l0.take (bt320.1 : Int).toNat] : List (List Int)))).bind fun t328 => (if t328 = 0 then ((ip4_word.f l0 6).bind fun t329 => (if (Go.bits .and .u16 t329 32768) = 0 then (if 20 ≤ bt320.1 then ((ip4_optionsOK.f k ((l0.take (bt320.1 : Int).toNat).drop 20)).bind fun t331 => (if t331 = true then ((ip4_orderly.f (wrap64 ((wrap64 (Go.bits .and .u16 t329 8191)) * 8)) (wrap64 (bt320.2.1 - bt320.1)) ((Go.bits .and .u16 t329 8192) != 0)).bind fun t332 => (if t332 = true then (if 1 < (l0.length : Int) then ((ip4_word.f l0 4).bind fun t334 => (if 8 < (l0.length : Int) then (if 9 < (l0.length : Int) then ((ip4_long.f l0 12).bind fun t337 => ((ip4_long.f l0 16).bind fun t338 => (some (rd l0 1, t334, ((Go.bits .and .u16 t329 16384) != 0), ((Go.bits .and .u16 t329 8192) != 0), wrap64 ((wrap64 (Go.bits .and .u16 t329 8191)) * 8), rd l0 8, rd l0 9, t337, t338, ([] : List Int), bt320.1, bt320.2.1, 0)))) else (none)) else (none))) else (none)) else (some (0, 0, false, false, 0, 0, 0, 0, 0, ([] : List Int), 0, 0, 36)))) else (some (0, 0, false, false, 0, 0, 0, 0, 0, ([] : List Int), 0, 0, 34)))) else (none)) else (some (0, 0, false, false, 0, 0, 0, 0, 0, ([] : List Int), 0, 0, 32)))) else (some (0, 0, false, false, 0, 0, 0, 0, 0, ([] : List Int), 0, 0, 33)))) else (none)) else (none)) else (some (0, 0, false, false, 0, 0, 0, 0, 0, ([] : List Int), 0, 0, bt320.2.2)))) = some (r1, r2, r3, r4, r5, r6, r7, r8, r9, r10, r11, r12, r13) := h
 clear h
 replace H := Option.bind_eq_some_iff.mp H
 obtain ⟨⟨t320, t321, t322⟩, A30, H⟩ := H
 replace H : (if t322 = 0 then (if 0 ≤ t320 then (if t320 ≤ (l0.length : Int) then ((ip4_Sum.f k (([l0.take (t320 : Int).toNat] : List (List Int)))).bind fun t328 => (if t328 = 0 then ((ip4_word.f l0 6).bind fun t329 => (if (Go.bits .and .u16 t329 32768) = 0 then (if 20 ≤ t320 then ((ip4_optionsOK.f k ((l0.take (t320 : Int).toNat).drop 20)).bind fun t331 => (if t331 = true then ((ip4_orderly.f (wrap64 ((wrap64 (Go.bits .and .u16 t329 8191)) * 8)) (wrap64 (t321 - t320)) ((Go.bits .and .u16 t329 8192) != 0)).bind fun t332 => (if t332 = true then (if 1 < (l0.length : Int) then ((ip4_word.f l0 4).bind fun t334 => (if 8 < (l0.length : Int) then (if 9 < (l0.length : Int) then ((ip4_long.f l0 12).bind fun t337 => ((ip4_long.f l0 16).bind fun t338 => (some (rd l0 1, t334, ((Go.bits .and .u16 t329 16384) != 0), ((Go.bits .and .u16 t329 8192) != 0), wrap64 ((wrap64 (Go.bits .and .u16 t329 8191)) * 8), rd l0 8, rd l0 9, t337, t338, ([] : List Int), t320, t321, 0)))) else (none)) else (none))) else (none)) else (some (0, 0, false, false, 0, 0, 0, 0, 0, ([] : List Int), 0, 0, 36)))) else (some (0, 0, false, false, 0, 0, 0, 0, 0, ([] : List Int), 0, 0, 34)))) else (none)) else (some (0, 0, false, false, 0, 0, 0, 0, 0, ([] : List Int), 0, 0, 32)))) else (some (0, 0, false, false, 0, 0, 0, 0, 0, ([] : List Int), 0, 0, 33)))) else (none)) else (none)) else (some (0, 0, false, false, 0, 0, 0, 0, 0, ([] : List Int), 0, 0, t322))) = some (r1, r2, r3, r4, r5, r6, r7, r8, r9, r10, r11, r12, r13) := H
 have A3 := zam A30
 clear A30
 by_cases c4 : t322 = 0
 ·
  rw [if_pos c4] at H
  have c4b0 : (t322 == 0) = true := beq_iff_eq.mpr c4
  have c4b1 : (t322 != 0) = false := bne_eq_false_iff_eq.mpr c4
  clear c4
  by_cases c5 : 0 ≤ t320
  ·
   rw [if_pos c5] at H
   have c5b0 := eq_true c5
   have c5b1 : decide (0 ≤ t320) = true := decide_eq_true c5
   clear c5
   by_cases c6 : t320 ≤ (l0.length : Int)
   ·
    rw [if_pos c6] at H
    have c6b0 := eq_true c6
    have c6b1 : decide (t320 ≤ (l0.length : Int)) = true := decide_eq_true c6
    clear c6
    obtain ⟨y324, hy324⟩ : ∃ y_ : List (List Int), y_ = (([l0.take (t320 : Int).toNat] : List (List Int))) := ⟨_, rfl⟩
    replace H : ((ip4_Sum.f k y324).bind fun t328 => (if t328 = 0 then ((ip4_word.f l0 6).bind fun t329 => (if (Go.bits .and .u16 t329 32768) = 0 then (if 20 ≤ t320 then ((ip4_optionsOK.f k ((l0.take (t320 : Int).toNat).drop 20)).bind fun t331 => (if t331 = true then ((ip4_orderly.f (wrap64 ((wrap64 (Go.bits .and .u16 t329 8191)) * 8)) (wrap64 (t321 - t320)) ((Go.bits .and .u16 t329 8192) != 0)).bind fun t332 => (if t332 = true then (if 1 < (l0.length : Int) then ((ip4_word.f l0 4).bind fun t334 => (if 8 < (l0.length : Int) then (if 9 < (l0.length : Int) then ((ip4_long.f l0 12).bind fun t337 => ((ip4_long.f l0 16).bind fun t338 => (some (rd l0 1, t334, ((Go.bits .and .u16 t329 16384) != 0), ((Go.bits .and .u16 t329 8192) != 0), wrap64 ((wrap64 (Go.bits .and .u16 t329 8191)) * 8), rd l0 8, rd l0 9, t337, t338, ([] : List Int), t320, t321, 0)))) else (none)) else (none))) else (none)) else (some (0, 0, false, false, 0, 0, 0, 0, 0, ([] : List Int), 0, 0, 36)))) else (some (0, 0, false, false, 0, 0, 0, 0, 0, ([] : List Int), 0, 0, 34)))) else (none)) else (some (0, 0, false, false, 0, 0, 0, 0, 0, ([] : List Int), 0, 0, 32)))) else (some (0, 0, false, false, 0, 0, 0, 0, 0, ([] : List Int), 0, 0, 33)))) = some (r1, r2, r3, r4, r5, r6, r7, r8, r9, r10, r11, r12, r13) := by first | (rw [hy324]; with_reducible exact H) | (have H2_ := (Option.bind_some _ _).symm.trans H; rw [hy324]; with_reducible exact H2_) | (have H2_ := (Option.bind_some _ _).symm.trans H; with_reducible exact H2_) | with_reducible exact H | (rw [hy324]; exact H) | exact H
    have Ny324 := zam hy324
    clear hy324
    replace H := Option.bind_eq_some_iff.mp H
    obtain ⟨t328, A70, H⟩ := H
    replace H : (if t328 = 0 then ((ip4_word.f l0 6).bind fun t329 => (if (Go.bits .and .u16 t329 32768) = 0 then (if 20 ≤ t320 then ((ip4_optionsOK.f k ((l0.take (t320 : Int).toNat).drop 20)).bind fun t331 => (if t331 = true then ((ip4_orderly.f (wrap64 ((wrap64 (Go.bits .and .u16 t329 8191)) * 8)) (wrap64 (t321 - t320)) ((Go.bits .and .u16 t329 8192) != 0)).bind fun t332 => (if t332 = true then (if 1 < (l0.length : Int) then ((ip4_word.f l0 4).bind fun t334 => (if 8 < (l0.length : Int) then (if 9 < (l0.length : Int) then ((ip4_long.f l0 12).bind fun t337 => ((ip4_long.f l0 16).bind fun t338 => (some (rd l0 1, t334, ((Go.bits .and .u16 t329 16384) != 0), ((Go.bits .and .u16 t329 8192) != 0), wrap64 ((wrap64 (Go.bits .and .u16 t329 8191)) * 8), rd l0 8, rd l0 9, t337, t338, ([] : List Int), t320, t321, 0)))) else (none)) else (none))) else (none)) else (some (0, 0, false, false, 0, 0, 0, 0, 0, ([] : List Int), 0, 0, 36)))) else (some (0, 0, false, false, 0, 0, 0, 0, 0, ([] : List Int), 0, 0, 34)))) else (none)) else (some (0, 0, false, false, 0, 0, 0, 0, 0, ([] : List Int), 0, 0, 32)))) else (some (0, 0, false, false, 0, 0, 0, 0, 0, ([] : List Int), 0, 0, 33))) = some (r1, r2, r3, r4, r5, r6, r7, r8, r9, r10, r11, r12, r13) := H
    have A7 := zam A70
    clear A70
    by_cases c8 : t328 = 0
    ·
     rw [if_pos c8] at H
     have c8b0 : (t328 == 0) = true := beq_iff_eq.mpr c8
     have c8b1 : (t328 != 0) = false := bne_eq_false_iff_eq.mpr c8
     clear c8
     replace H := Option.bind_eq_some_iff.mp H
     obtain ⟨t329, A90, H⟩ := H
     replace H : (if (Go.bits .and .u16 t329 32768) = 0 then (if 20 ≤ t320 then ((ip4_optionsOK.f k ((l0.take (t320 : Int).toNat).drop 20)).bind fun t331 => (if t331 = true then ((ip4_orderly.f (wrap64 ((wrap64 (Go.bits .and .u16 t329 8191)) * 8)) (wrap64 (t321 - t320)) ((Go.bits .and .u16 t329 8192) != 0)).bind fun t332 => (if t332 = true then (if 1 < (l0.length : Int) then ((ip4_word.f l0 4).bind fun t334 => (if 8 < (l0.length : Int) then (if 9 < (l0.length : Int) then ((ip4_long.f l0 12).bind fun t337 => ((ip4_long.f l0 16).bind fun t338 => (some (rd l0 1, t334, ((Go.bits .and .u16 t329 16384) != 0), ((Go.bits .and .u16 t329 8192) != 0), wrap64 ((wrap64 (Go.bits .and .u16 t329 8191)) * 8), rd l0 8, rd l0 9, t337, t338, ([] : List Int), t320, t321, 0)))) else (none)) else (none))) else (none)) else (some (0, 0, false, false, 0, 0, 0, 0, 0, ([] : List Int), 0, 0, 36)))) else (some (0, 0, false, false, 0, 0, 0, 0, 0, ([] : List Int), 0, 0, 34)))) else (none)) else (some (0, 0, false, false, 0, 0, 0, 0, 0, ([] : List Int), 0, 0, 32))) = some (r1, r2, r3, r4, r5, r6, r7, r8, r9, r10, r11, r12, r13) := H
     have A9 := zam A90
     clear A90
     by_cases c10 : (Go.bits .and .u16 t329 32768) = 0
     ·
      rw [if_pos c10] at H
      have c10b0 : ((Go.bits .and .u16 t329 32768) == 0) = true := beq_iff_eq.mpr c10
      have c10b1 : ((Go.bits .and .u16 t329 32768) != 0) = false := bne_eq_false_iff_eq.mpr c10
      clear c10
      by_cases c11 : 20 ≤ t320
      ·
       rw [if_pos c11] at H
       have c11b0 := eq_true c11
       have c11b1 : decide (20 ≤ t320) = true := decide_eq_true c11
       clear c11
       have c12b0 := eq_true (zod zqxb8_8 : t320 ≤ (l0.length : Int))
       replace H := Option.bind_eq_some_iff.mp H
       obtain ⟨t331, A130, H⟩ := H
       replace H : (if t331 = true then ((ip4_orderly.f (wrap64 ((wrap64 (Go.bits .and .u16 t329 8191)) * 8)) (wrap64 (t321 - t320)) ((Go.bits .and .u16 t329 8192) != 0)).bind fun t332 => (if t332 = true then (if 1 < (l0.length : Int) then ((ip4_word.f l0 4).bind fun t334 => (if 8 < (l0.length : Int) then (if 9 < (l0.length : Int) then ((ip4_long.f l0 12).bind fun t337 => ((ip4_long.f l0 16).bind fun t338 => (some (rd l0 1, t334, ((Go.bits .and .u16 t329 16384) != 0), ((Go.bits .and .u16 t329 8192) != 0), wrap64 ((wrap64 (Go.bits .and .u16 t329 8191)) * 8), rd l0 8, rd l0 9, t337, t338, ([] : List Int), t320, t321, 0)))) else (none)) else (none))) else (none)) else (some (0, 0, false, false, 0, 0, 0, 0, 0, ([] : List Int), 0, 0, 36)))) else (some (0, 0, false, false, 0, 0, 0, 0, 0, ([] : List Int), 0, 0, 34))) = some (r1, r2, r3, r4, r5, r6, r7, r8, r9, r10, r11, r12, r13) := H
       have A13 := zam A130
       clear A130
       by_cases c14 : t331 = true
       ·
        subst c14
        have H1 : ((ip4_orderly.f (wrap64 ((wrap64 (Go.bits .and .u16 t329 8191)) * 8)) (wrap64 (t321 - t320)) ((Go.bits .and .u16 t329 8192) != 0)).bind fun t332 => (if t332 = true then (if 1 < (l0.length : Int) then ((ip4_word.f l0 4).bind fun t334 => (if 8 < (l0.length : Int) then (if 9 < (l0.length : Int) then ((ip4_long.f l0 12).bind fun t337 => ((ip4_long.f l0 16).bind fun t338 => (some (rd l0 1, t334, ((Go.bits .and .u16 t329 16384) != 0), ((Go.bits .and .u16 t329 8192) != 0), wrap64 ((wrap64 (Go.bits .and .u16 t329 8191)) * 8), rd l0 8, rd l0 9, t337, t338, ([] : List Int), t320, t321, 0)))) else (none)) else (none))) else (none)) else (some (0, 0, false, false, 0, 0, 0, 0, 0, ([] : List Int), 0, 0, 36)))) = some (r1, r2, r3, r4, r5, r6, r7, r8, r9, r10, r11, r12, r13) := by rw [if_pos rfl] at H; exact H
        clear H
        have H := H1
        clear H1
        replace H := Option.bind_eq_some_iff.mp H
        obtain ⟨t332, A150, H⟩ := H
        replace H : (if t332 = true then (if 1 < (l0.length : Int) then ((ip4_word.f l0 4).bind fun t334 => (if 8 < (l0.length : Int) then (if 9 < (l0.length : Int) then ((ip4_long.f l0 12).bind fun t337 => ((ip4_long.f l0 16).bind fun t338 => (some (rd l0 1, t334, ((Go.bits .and .u16 t329 16384) != 0), ((Go.bits .and .u16 t329 8192) != 0), wrap64 ((wrap64 (Go.bits .and .u16 t329 8191)) * 8), rd l0 8, rd l0 9, t337, t338, ([] : List Int), t320, t321, 0)))) else (none)) else (none))) else (none)) else (some (0, 0, false, false, 0, 0, 0, 0, 0, ([] : List Int), 0, 0, 36))) = some (r1, r2, r3, r4, r5, r6, r7, r8, r9, r10, r11, r12, r13) := H
        have A15 := zam A150
        clear A150
        by_cases c16 : t332 = true
        ·
         subst c16
         have H1 : (if 1 < (l0.length : Int) then ((ip4_word.f l0 4).bind fun t334 => (if 8 < (l0.length : Int) then (if 9 < (l0.length : Int) then ((ip4_long.f l0 12).bind fun t337 => ((ip4_long.f l0 16).bind fun t338 => (some (rd l0 1, t334, ((Go.bits .and .u16 t329 16384) != 0), ((Go.bits .and .u16 t329 8192) != 0), wrap64 ((wrap64 (Go.bits .and .u16 t329 8191)) * 8), rd l0 8, rd l0 9, t337, t338, ([] : List Int), t320, t321, 0)))) else (none)) else (none))) else (none)) = some (r1, r2, r3, r4, r5, r6, r7, r8, r9, r10, r11, r12, r13) := by rw [if_pos rfl] at H; exact H
         clear H
         have H := H1
         clear H1
         by_cases c17 : 1 < (l0.length : Int)
         ·
          rw [if_pos c17] at H
          have c17b0 : decide (1 < (l0.length : Int)) = true := decide_eq_true c17
          have c17b1 : decide (1 < l0.length) = true := decide_eq_true (by omega)
          clear c17
          replace H := Option.bind_eq_some_iff.mp H
          obtain ⟨t334, A180, H⟩ := H
          replace H : (if 8 < (l0.length : Int) then (if 9 < (l0.length : Int) then ((ip4_long.f l0 12).bind fun t337 => ((ip4_long.f l0 16).bind fun t338 => (some (rd l0 1, t334, ((Go.bits .and .u16 t329 16384) != 0), ((Go.bits .and .u16 t329 8192) != 0), wrap64 ((wrap64 (Go.bits .and .u16 t329 8191)) * 8), rd l0 8, rd l0 9, t337, t338, ([] : List Int), t320, t321, 0)))) else (none)) else (none)) = some (r1, r2, r3, r4, r5, r6, r7, r8, r9, r10, r11, r12, r13) := H
          have A18 := zam A180
          clear A180
          by_cases c19 : 8 < (l0.length : Int)
          ·
           rw [if_pos c19] at H
           have c19b0 : decide (8 < (l0.length : Int)) = true := decide_eq_true c19
           have c19b1 : decide (8 < l0.length) = true := decide_eq_true (by omega)
           clear c19
           by_cases c20 : 9 < (l0.length : Int)
           ·
            rw [if_pos c20] at H
            have c20b0 : decide (9 < (l0.length : Int)) = true := decide_eq_true c20
            have c20b1 : decide (9 < l0.length) = true := decide_eq_true (by omega)
            clear c20
            replace H := Option.bind_eq_some_iff.mp H
            obtain ⟨t337, A210, H⟩ := H
            replace H : ((ip4_long.f l0 16).bind fun t338 => (some (rd l0 1, t334, ((Go.bits .and .u16 t329 16384) != 0), ((Go.bits .and .u16 t329 8192) != 0), wrap64 ((wrap64 (Go.bits .and .u16 t329 8191)) * 8), rd l0 8, rd l0 9, t337, t338, ([] : List Int), t320, t321, 0))) = some (r1, r2, r3, r4, r5, r6, r7, r8, r9, r10, r11, r12, r13) := H
            have A21 := zam A210
            clear A210
            replace H := Option.bind_eq_some_iff.mp H
            obtain ⟨t338, A220, H⟩ := H
            replace H : (some (rd l0 1, t334, ((Go.bits .and .u16 t329 16384) != 0), ((Go.bits .and .u16 t329 8192) != 0), wrap64 ((wrap64 (Go.bits .and .u16 t329 8191)) * 8), rd l0 8, rd l0 9, t337, t338, ([] : List Int), t320, t321, 0)) = some (r1, r2, r3, r4, r5, r6, r7, r8, r9, r10, r11, r12, r13) := H
            have A22 := zam A220
            clear A220
            simp only [Option.some.injEq, Prod.mk.injEq] at H
            obtain ⟨rfl, rfl, rfl, rfl, rfl, rfl, rfl, rfl, rfl, rfl, rfl, rfl, rfl⟩ := H
            go_enter Try.func65, Try.ntmps65
            try go_wp2_with (first | ((with_reducible refine gate_dst (N := 4) rfl ?_); refine box_event ?hg (N := 4) ?hd (cs := #[.int .u8 0, .int .u16 0, .bool false, .bool false, .int .i64 0, .int .u8 0, .int .u8 0, .int .u32 0, .int .u32 0, .slice none 0 0]) (t := 41) ?hr ?_; (case hd => rfl); (case hg => rfl); (case hr => first | (go_simp; done) | (go_simp; rfl)); intro gb319 hg w23 hbox hb; have n0_ := zam (below_step zqxb8_7 hb); have n1_ := zam (hbox); have n2_ := zam ((by rw [hg]; exact (below_size zqxb8_7) : w.heap.size ≤ gb319)); have n3_ := zam ((by rw [hg]; exact (below_size zqxb8_7) : w.heap.size ≤ gb319)); clear HB; have HB := n0_; have BK319 := n1_; have GW319 := n2_; have GE319 := n3_; clear n0_ n1_ n2_ n3_; clear hb hbox hg) | ((with_reducible refine gate_callee (f := 76) rfl ?_); refine goesL_ (some 14) rfl rfl Try.func76 (by kernel_rfl) rfl #[.slice A0 l0.length c0, .bool a1] rfl zqxb8_6 ?_; (with_reducible refine (ip4_measure.calls _ _ l0 a1 t320 t321 t322 _ ?side1 ?side2 A3.out).mono ?_); (case side1 => repeat (first | exact (Kd.C_below HR0.out HB.out) | (with_reducible refine Kd.C_alloc ?_ _) | (with_reducible refine Kd.C_drewN ?_ _) | (with_reducible refine Kd.C_drew ?_))); (case side2 => exact HC0.out); rintro e w' ⟨rfl, ⟨nd, rfl⟩⟩; refine ⟨_, rfl, ?_⟩; (try (rw [drewN_self w23]; generalize hq_ : World.drewN w23 _ = w23; have n0_ : Aside0 (w23.heap[gb319]? = some (.cells #[.int .u8 0, .int .u16 0, .bool false, .bool false, .int .i64 0, .int .u8 0, .int .u8 0, .int .u32 0, .int .u32 0, .slice none 0 0] 41 (0, 0))) := ⟨by rw [← hq_]; exact zqxb8_4⟩; have n1_ : Aside0 (Below w.heap.size w w23) := ⟨by rw [← hq_]; exact zqxb8_5⟩; clear BK319 HB hq_; have BK319 := n0_; have HB := n1_; clear n0_ n1_)); obtain ⟨i024, hi024, _, hsz24, _⟩ := info_parts info5; obtain ⟨hcut24, hA24, hC24⟩ := print_take_of (P := Try.prog) (Value.int .u8) 0 24 5 .i64 Try.underlying24 hi024 hsz24 A0 c0 l0 t320 (zod zqxb8_8) (zod zqxb8_8) HC0.out; have HR323 := zam (Kd.C_of_reads (h1 := fun _ => rfl) (hA24 _ (Kd.reads_of_C HR0.out))); have HC323 := zam hC24; clear hA24 hC24 hi024 hsz24) | ((with_reducible refine gate_dst (N := 25) rfl ?_); refine lits_event (Kd.slice 5 (Kd.int .u8)) 24 ?hg (N := 25) ?hd (xs := ([l0.take (t320 : Int).toNat] : List (List Int))) (inner := [.slice A0 (l0.take (t320 : Int).toNat).length c0]) ?hr ?hp (by simp) ?_; (case hd => rfl); (case hg => rfl); (case hr => first | (go_simp; done) | (go_simp; rfl)); (case hp => exact (Reps.one (show Kd.K (Kd.slice 5 (Kd.int .u8)) _ (l0.take (t320 : Int).toNat) [.slice A0 (l0.take (t320 : Int).toNat).length c0] from by refine ⟨_, _, rfl, ?_, ?_⟩; (· exact HC323.out); (· repeat (first | exact (Kd.C_below HR323.out HB.out) | (with_reducible refine Kd.C_alloc ?_ _) | (with_reducible refine Kd.C_drewN ?_ _) | (with_reducible refine Kd.C_drew ?_)))) (Reps.none _ _))); intro v26_ w25 hL_ hb; (first | rw [← Ny324.out] at hL_ | (simp only [Int.reduceToNat] at hL_; rw [← Ny324.out] at hL_)); obtain ⟨A26, c26, rfl, hlr_, hlc_⟩ := hL_; have n0_ := zam (blk_below (g := gb319) (o := .cells #[.int .u8 0, .int .u16 0, .bool false, .bool false, .int .i64 0, .int .u8 0, .int .u8 0, .int .u32 0, .int .u32 0, .slice none 0 0] 41 (0, 0)) zqxb8_4 hb); have n1_ := zam (below_step zqxb8_5 hb); have n2_ := zam (hlc_); have n3_ := zam (hlr_); clear BK319; clear HB; have BK319 := n0_; have HB := n1_; have HR327 := n2_; have HC327 := n3_; clear n0_ n1_ n2_ n3_; clear hb hlr_ hlc_) | ((with_reducible refine gate_callee (f := 16) rfl ?_); refine goesL_ (some 26) rfl rfl Try.func16 (by kernel_rfl) rfl #[.slice A26 y324.length c26] rfl zqxb8_6 ?_; (with_reducible refine (ip4_Sum.calls k _ _ y324 t328 _ ?side1 ?side2 A7.out).mono ?_); (case side1 => repeat (first | exact zqxb8_9 | (with_reducible refine Kd.C_alloc ?_ _) | (with_reducible refine Kd.C_drewN ?_ _) | (with_reducible refine Kd.C_drew ?_))); (case side2 => exact HC327.out); rintro e w' ⟨rfl, ⟨nd, rfl⟩⟩; refine ⟨_, rfl, ?_⟩; (try (rw [drewN_self w25]; generalize hq_ : World.drewN w25 _ = w25; have n0_ : Aside0 (w25.heap[gb319]? = some (.cells #[.int .u8 0, .int .u16 0, .bool false, .bool false, .int .i64 0, .int .u8 0, .int .u8 0, .int .u32 0, .int .u32 0, .slice none 0 0] 41 (0, 0))) := ⟨by rw [← hq_]; exact zqxb8_4⟩; have n1_ : Aside0 (Below w.heap.size w w25) := ⟨by rw [← hq_]; exact zqxb8_5⟩; have n2_ : Aside0 (Kd.C (Kd.slice 5 (Kd.int .u8)) w25 A26 y324.length y324) := ⟨by rw [← hq_]; exact zqxb8_9⟩; clear BK319 HB HR327 hq_; have BK319 := n0_; have HB := n1_; have HR327 := n2_; clear n0_ n1_ n2_))) | ((with_reducible refine gate_callee (f := 77) rfl ?_); refine goesL_ (some 30) rfl rfl Try.func77 (by kernel_rfl) rfl #[.slice A0 l0.length c0, .int .i64 6] rfl zqxb8_6 ?_; (with_reducible refine (ip4_word.calls _ _ l0 6 t329 _ ?side1 ?side2 A9.out).mono ?_); (case side1 => repeat (first | exact (Kd.C_below HR0.out HB.out) | (with_reducible refine Kd.C_alloc ?_ _) | (with_reducible refine Kd.C_drewN ?_ _) | (with_reducible refine Kd.C_drew ?_))); (case side2 => exact HC0.out); rintro e w' ⟨rfl, ⟨nd, rfl⟩⟩; refine ⟨_, rfl, ?_⟩; (try (rw [drewN_self w25]; generalize hq_ : World.drewN w25 _ = w25; have n0_ : Aside0 (w25.heap[gb319]? = some (.cells #[.int .u8 0, .int .u16 0, .bool false, .bool false, .int .i64 0, .int .u8 0, .int .u8 0, .int .u32 0, .int .u32 0, .slice none 0 0] 41 (0, 0))) := ⟨by rw [← hq_]; exact zqxb8_4⟩; have n1_ : Aside0 (Below w.heap.size w w25) := ⟨by rw [← hq_]; exact zqxb8_5⟩; clear BK319 HB hq_; have BK319 := n0_; have HB := n1_; clear n0_ n1_)); obtain ⟨i027, hi027, _, hsz27, _⟩ := info_parts info5; obtain ⟨A27, hcut27, hA27, hC27⟩ := print_mid_of (P := Try.prog) (Value.int .u8) 0 24 5 .i64 .i64 Try.underlying24 hi027 hsz27 A0 c0 l0 20 t320 (by omega) zqxb8_12 (zod zqxb8_8) HC0.out; have HR330 := zam (Kd.C_of_reads (h1 := fun _ => rfl) (hA27 _ (Kd.reads_of_C HR0.out))); have HC330 := zam hC27; clear hA27 hC27 hi027 hsz27) | ((with_reducible refine gate_callee (f := 46) rfl ?_); refine goesL_ (some 38) rfl rfl Try.func46 (by kernel_rfl) rfl #[.slice A27 ((l0.take (t320 : Int).toNat).drop 20).length (c0 - 20)] rfl zqxb8_10 ?_; (with_reducible refine (ip4_optionsOK.calls k _ _ ((l0.take (t320 : Int).toNat).drop 20) true _ ?side1 ?side2 A13.out).mono ?_); (case side1 => repeat (first | exact (Kd.C_below HR330.out HB.out) | (with_reducible refine Kd.C_alloc ?_ _) | (with_reducible refine Kd.C_drewN ?_ _) | (with_reducible refine Kd.C_drew ?_))); (case side2 => exact HC330.out); rintro e w' ⟨rfl, ⟨nd, rfl⟩⟩; refine ⟨_, rfl, ?_⟩; (try (rw [drewN_self w25]; generalize hq_ : World.drewN w25 _ = w25; have n0_ : Aside0 (w25.heap[gb319]? = some (.cells #[.int .u8 0, .int .u16 0, .bool false, .bool false, .int .i64 0, .int .u8 0, .int .u8 0, .int .u32 0, .int .u32 0, .slice none 0 0] 41 (0, 0))) := ⟨by rw [← hq_]; exact zqxb8_4⟩; have n1_ : Aside0 (Below w.heap.size w w25) := ⟨by rw [← hq_]; exact zqxb8_5⟩; clear BK319 HB hq_; have BK319 := n0_; have HB := n1_; clear n0_ n1_))) | ((with_reducible refine gate_callee (f := 47) rfl ?_); refine goesL_ (some 53) rfl rfl Try.func47 (by kernel_rfl) rfl #[.int .i64 (wrap64 ((wrap64 (Go.bits .and .u16 t329 8191)) * 8)), .int .i64 (wrap64 (t321 - t320)), .bool ((Go.bits .and .u16 t329 8192) != 0)] rfl zqxb8_6 ?_; (with_reducible refine (ip4_orderly.calls (wrap64 ((wrap64 (Go.bits .and .u16 t329 8191)) * 8)) (wrap64 (t321 - t320)) ((Go.bits .and .u16 t329 8192) != 0) true _ A15.out).mono ?_); rintro e w' ⟨rfl, ⟨nd, rfl⟩⟩; refine ⟨_, rfl, ?_⟩; (try (rw [drewN_self w25]; generalize hq_ : World.drewN w25 _ = w25; have n0_ : Aside0 (w25.heap[gb319]? = some (.cells #[.int .u8 0, .int .u16 0, .bool false, .bool false, .int .i64 0, .int .u8 0, .int .u8 0, .int .u32 0, .int .u32 0, .slice none 0 0] 41 (0, 0))) := ⟨by rw [← hq_]; exact zqxb8_4⟩; have n1_ : Aside0 (Below w.heap.size w w25) := ⟨by rw [← hq_]; exact zqxb8_5⟩; clear BK319 HB hq_; have BK319 := n0_; have HB := n1_; clear n0_ n1_))))
            have n0_ := zam (zdr BK319.out)
            have n1_ := zam (below_drew1 HB.out)
            clear BK319
            clear HB
            have BK319 := n0_
            have HB := n1_
            clear n0_ n1_
            have p333 : 0 ≤ (1 : Int) := (by omega)
            have q333 : 1 < (l0.length : Int) := zod zqxb8_8
            obtain ⟨ad333, e333, hx333_0⟩ := Kd.at_int HR0.out 1 p333 q333
            have hw333_0 := hx333_0
            (try rw [show ((1 : Int)).toNat = 1 from rfl] at hw333_0)
            (try rw [show 1 * 1 = 1 from rfl] at hw333_0)
            (try simp only [Nat.reduceMul, Nat.reduceEqDiff, Go.Addr.add, ↓reduceIte] at hw333_0)
            cases e333
            (try simp only [show (1 : Int).toNat = 1 from rfl, Nat.reduceMul, Nat.reduceEqDiff, Go.Addr.add, ↓reduceIte] at hx333_0)
            have qi333 : (1 < l0.length) = True := eq_true (by omega)
            (try rw [show ((1 : Int)).toNat = 1 from rfl] at hx333_0)
            replace hx333_0 := (HB.out.cell (World.block_lt_of_cell? w _ hx333_0)).trans hx333_0
            replace p333 := eq_true p333
            replace q333 := eq_true q333
            have p335 : 0 ≤ (8 : Int) := (by omega)
            have q335 : 8 < (l0.length : Int) := zod zqxb8_8
            obtain ⟨ad335, e335, hx335_0⟩ := Kd.at_int HR0.out 8 p335 q335
            have hw335_0 := hx335_0
            (try rw [show ((8 : Int)).toNat = 8 from rfl] at hw335_0)
            (try rw [show 8 * 1 = 8 from rfl] at hw335_0)
            (try simp only [Nat.reduceMul, Nat.reduceEqDiff, Go.Addr.add, ↓reduceIte] at hw335_0)
            obtain rfl : ad333 = ad335 := (by injection e335)
            (try simp only [show (8 : Int).toNat = 8 from rfl, Nat.reduceMul, Nat.reduceEqDiff, Go.Addr.add, ↓reduceIte] at hx335_0)
            have qi335 : (8 < l0.length) = True := eq_true (by omega)
            (try rw [show ((8 : Int)).toNat = 8 from rfl] at hx335_0)
            replace hx335_0 := (HB.out.cell (World.block_lt_of_cell? w _ hx335_0)).trans hx335_0
            replace p335 := eq_true p335
            replace q335 := eq_true q335
            have p336 : 0 ≤ (9 : Int) := (by omega)
            have q336 : 9 < (l0.length : Int) := zod zqxb8_8
            obtain ⟨ad336, e336, hx336_0⟩ := Kd.at_int HR0.out 9 p336 q336
            have hw336_0 := hx336_0
            (try rw [show ((9 : Int)).toNat = 9 from rfl] at hw336_0)
            (try rw [show 9 * 1 = 9 from rfl] at hw336_0)
            (try simp only [Nat.reduceMul, Nat.reduceEqDiff, Go.Addr.add, ↓reduceIte] at hw336_0)
            obtain rfl : ad333 = ad336 := (by injection e336)
            (try simp only [show (9 : Int).toNat = 9 from rfl, Nat.reduceMul, Nat.reduceEqDiff, Go.Addr.add, ↓reduceIte] at hx336_0)
            have qi336 : (9 < l0.length) = True := eq_true (by omega)
            (try rw [show ((9 : Int)).toNat = 9 from rfl] at hx336_0)
            replace hx336_0 := (HB.out.cell (World.block_lt_of_cell? w _ hx336_0)).trans hx336_0
            replace p336 := eq_true p336
            replace q336 := eq_true q336
            refine start_ (n := 22) (S := fun w' => w'.cell? ⟨ad333.block, ad333.off + 1, none⟩ = some (.int .u8 (rd l0 1)) ∧ w'.cell? ⟨ad333.block, ad333.off + 8, none⟩ = some (.int .u8 (rd l0 8)) ∧ w'.cell? ⟨ad333.block, ad333.off + 9, none⟩ = some (.int .u8 (rd l0 9))) (ds := []) #[false, false, false, false, false, false, false, false, false, false, false, false, false, false, false, false, false, false, false, false, false, false] (by kernel_rfl) rfl rfl ⟨((HB.out.cell (World.block_lt_of_cell? w _ hw333_0)).trans hw333_0), ((HB.out.cell (World.block_lt_of_cell? w _ hw335_0)).trans hw335_0), ((HB.out.cell (World.block_lt_of_cell? w _ hw336_0)).trans hw336_0)⟩ (fun hHeld => ?_); refine with_tabW ip4_read.tab14 ip4_read.bits14 (fun HT_ HW_ => ?_)
            generalize w25.drew = w28 at BK319 HB hx333_0 hx335_0 hx336_0 hHeld ⊢
            refine pure_ (i := 0) (N := some 56) (v := ?_) (a' := ?_) #[true, false, false, false, false, false, false, false, false, false, false, false, false, false, false, false, false, false, false, false, false, false] rfl rfl (any_of HT_.out (by kernel_rfl)) (fun _ _ _ h => h) (Or.inl ⟨by rfl, ?_⟩) ?_ ?_
            rotate_left
            ·
             intro w'
             go_simp
             with_reducible rfl
            rotate_left
            ·
             simp only [Act.put, List.setIfInBounds_toArray, List.set_cons_zero, List.set_cons_succ, i64_w, i32_w, IntKind.wrap_u8, IntKind.wrap_u32]
             rfl
            refine pure_ (i := 1) (N := some 57) (v := ?_) (a' := ?_) #[true, true, false, false, false, false, false, false, false, false, false, false, false, false, false, false, false, false, false, false, false, false] rfl rfl (any_of HT_.out (by kernel_rfl)) (fun _ _ _ h => h) (Or.inl ⟨by rfl, ?_⟩) ?_ ?_
            rotate_left
            ·
             intro w'
             go_simp
             with_reducible rfl
            rotate_left
            ·
             simp only [Act.put, List.setIfInBounds_toArray, List.set_cons_zero, List.set_cons_succ, i64_w, i32_w, IntKind.wrap_u8, IntKind.wrap_u32]
             rfl
            refine pure_ (i := 3) (N := some 59) (v := ?_) (a' := ?_) #[true, true, false, true, false, false, false, false, false, false, false, false, false, false, false, false, false, false, false, false, false, false] rfl rfl (any_of HT_.out (by kernel_rfl)) (fun _ _ _ h => h) (Or.inl ⟨by rfl, ?_⟩) ?_ ?_
            rotate_left
            ·
             intro w'
             go_simp
             with_reducible rfl
            rotate_left
            ·
             simp only [Act.put, List.setIfInBounds_toArray, List.set_cons_zero, List.set_cons_succ, i64_w, i32_w, IntKind.wrap_u8, IntKind.wrap_u32]
             rfl
            refine pure_ (i := 5) (N := some 61) (v := ?_) (a' := ?_) #[true, true, false, true, false, true, false, false, false, false, false, false, false, false, false, false, false, false, false, false, false, false] rfl rfl (any_of HT_.out (by kernel_rfl)) (fun _ _ _ h => h) (Or.inl ⟨by rfl, ?_⟩) ?_ ?_
            rotate_left
            ·
             intro w'
             go_simp
             with_reducible rfl
            rotate_left
            ·
             simp only [Act.put, List.setIfInBounds_toArray, List.set_cons_zero, List.set_cons_succ, i64_w, i32_w, IntKind.wrap_u8, IntKind.wrap_u32]
             rfl
            refine pure_ (i := 6) (N := some 62) (v := ?_) (a' := ?_) #[true, true, false, true, false, true, true, false, false, false, false, false, false, false, false, false, false, false, false, false, false, false] rfl rfl (any_of HT_.out (by kernel_rfl)) (fun _ _ _ h => h) (Or.inl ⟨by rfl, ?_⟩) ?_ ?_
            rotate_left
            ·
             intro w'
             go_simp
             with_reducible rfl
            rotate_left
            ·
             simp only [Act.put, List.setIfInBounds_toArray, List.set_cons_zero, List.set_cons_succ, i64_w, i32_w, IntKind.wrap_u8, IntKind.wrap_u32]
             rfl
            refine pure_ (i := 7) (N := some 63) (v := ?_) (a' := ?_) #[true, true, false, true, false, true, true, true, false, false, false, false, false, false, false, false, false, false, false, false, false, false] rfl rfl (any_of HT_.out (by kernel_rfl)) (fun _ _ _ h => h) (Or.inl ⟨by rfl, ?_⟩) ?_ ?_
            rotate_left
            ·
             intro w'
             go_simp
             with_reducible rfl
            rotate_left
            ·
             simp only [Act.put, List.setIfInBounds_toArray, List.set_cons_zero, List.set_cons_succ, i64_w, i32_w, IntKind.wrap_u8, IntKind.wrap_u32]
             rfl
            refine pure_ (i := 8) (N := some 64) (v := ?_) (a' := ?_) #[true, true, false, true, false, true, true, true, true, false, false, false, false, false, false, false, false, false, false, false, false, false] rfl rfl (any_of HT_.out (by kernel_rfl)) (fun _ _ _ h => h) (Or.inl ⟨by rfl, ?_⟩) ?_ ?_
            rotate_left
            ·
             intro w'
             go_simp
             with_reducible rfl
            rotate_left
            ·
             simp only [Act.put, List.setIfInBounds_toArray, List.set_cons_zero, List.set_cons_succ, i64_w, i32_w, IntKind.wrap_u8, IntKind.wrap_u32]
             rfl
            refine pure_ (i := 9) (N := some 65) (v := ?_) (a' := ?_) #[true, true, false, true, false, true, true, true, true, true, false, false, false, false, false, false, false, false, false, false, false, false] rfl rfl (any_of HT_.out (by kernel_rfl)) (fun _ _ _ h => h) (Or.inl ⟨by rfl, ?_⟩) ?_ ?_
            rotate_left
            ·
             intro w'
             go_simp
             with_reducible rfl
            rotate_left
            ·
             simp only [Act.put, List.setIfInBounds_toArray, List.set_cons_zero, List.set_cons_succ, i64_w, i32_w, IntKind.wrap_u8, IntKind.wrap_u32]
             rfl
            refine pure_ (i := 10) (N := some 66) (v := ?_) (a' := ?_) #[true, true, false, true, false, true, true, true, true, true, true, false, false, false, false, false, false, false, false, false, false, false] rfl rfl (any_of HT_.out (by kernel_rfl)) (fun _ _ _ h => h) (Or.inl ⟨by rfl, ?_⟩) ?_ ?_
            rotate_left
            ·
             intro w'
             go_simp
             with_reducible rfl
            rotate_left
            ·
             simp only [Act.put, List.setIfInBounds_toArray, List.set_cons_zero, List.set_cons_succ, i64_w, i32_w, IntKind.wrap_u8, IntKind.wrap_u32]
             rfl
            refine pure_ (i := 11) (N := some 67) (v := ?_) (a' := ?_) #[true, true, false, true, false, true, true, true, true, true, true, true, false, false, false, false, false, false, false, false, false, false] rfl rfl (any_of HT_.out (by kernel_rfl)) (fun _ _ _ h => h) (Or.inl ⟨by rfl, ?_⟩) ?_ ?_
            rotate_left
            ·
             intro w'
             go_simp
             with_reducible rfl
            rotate_left
            ·
             simp only [Act.put, List.setIfInBounds_toArray, List.set_cons_zero, List.set_cons_succ, i64_w, i32_w, IntKind.wrap_u8, IntKind.wrap_u32]
             rfl
            refine pure_ (i := 13) (N := some 69) (v := ?_) (a' := ?_) #[true, true, false, true, false, true, true, true, true, true, true, true, false, true, false, false, false, false, false, false, false, false] rfl rfl (any_of HT_.out (by kernel_rfl)) (fun _ _ _ h => h) (Or.inl ⟨by rfl, ?_⟩) ?_ ?_
            rotate_left
            ·
             intro w'
             go_simp
             with_reducible rfl
            rotate_left
            ·
             simp only [Act.put, List.setIfInBounds_toArray, List.set_cons_zero, List.set_cons_succ, i64_w, i32_w, IntKind.wrap_u8, IntKind.wrap_u32]
             rfl
            refine pure_ (i := 14) (N := some 70) (v := ?_) (a' := ?_) #[true, true, false, true, false, true, true, true, true, true, true, true, false, true, true, false, false, false, false, false, false, false] rfl rfl (any_of HT_.out (by kernel_rfl)) (fun _ _ _ h => h) (Or.inl ⟨by rfl, ?_⟩) ?_ ?_
            rotate_left
            ·
             intro w'
             go_simp
             with_reducible rfl
            rotate_left
            ·
             simp only [Act.put, List.setIfInBounds_toArray, List.set_cons_zero, List.set_cons_succ, i64_w, i32_w, IntKind.wrap_u8, IntKind.wrap_u32]
             rfl
            refine pure_ (i := 16) (N := some 72) (v := ?_) (a' := ?_) #[true, true, false, true, false, true, true, true, true, true, true, true, false, true, true, false, true, false, false, false, false, false] rfl rfl (any_of HT_.out (by kernel_rfl)) (fun _ _ _ h => h) (Or.inl ⟨by rfl, ?_⟩) ?_ ?_
            rotate_left
            ·
             intro w'
             go_simp
             with_reducible rfl
            rotate_left
            ·
             simp only [Act.put, List.setIfInBounds_toArray, List.set_cons_zero, List.set_cons_succ, i64_w, i32_w, IntKind.wrap_u8, IntKind.wrap_u32]
             rfl
            refine pure_ (i := 18) (N := some 74) (v := ?_) (a' := ?_) #[true, true, false, true, false, true, true, true, true, true, true, true, false, true, true, false, true, false, true, false, false, false] rfl rfl (any_of HT_.out (by kernel_rfl)) (fun _ _ _ h => h) (Or.inl ⟨by rfl, ?_⟩) ?_ ?_
            rotate_left
            ·
             intro w'
             go_simp
             with_reducible rfl
            rotate_left
            ·
             simp only [Act.put, List.setIfInBounds_toArray, List.set_cons_zero, List.set_cons_succ, i64_w, i32_w, IntKind.wrap_u8, IntKind.wrap_u32]
             rfl
            refine take_ (i := 2) (N := some 58) (v := ?_) (a' := ?_) #[true, true, true, true, false, true, true, true, true, true, true, true, false, true, true, false, true, false, true, false, false, false] rfl rfl (take_ofW HT_.out HW_.out (by kernel_rfl)) (fun _ _ _ h => h) (Or.inl ⟨by rfl, ?_⟩) hHeld ?_ ?_
            rotate_left
            ·
             rintro w' ⟨s0, s1, s2⟩
             go_simp
             with_reducible rfl
            rotate_left
            ·
             simp only [Act.put, List.setIfInBounds_toArray, List.set_cons_zero, List.set_cons_succ, i64_w, i32_w, IntKind.wrap_u8, IntKind.wrap_u32]
             rfl
            refine take_ (i := 12) (N := some 68) (v := ?_) (a' := ?_) #[true, true, true, true, false, true, true, true, true, true, true, true, true, true, true, false, true, false, true, false, false, false] rfl rfl (take_ofW HT_.out HW_.out (by kernel_rfl)) (fun _ _ _ h => h) (Or.inl ⟨by rfl, ?_⟩) hHeld ?_ ?_
            rotate_left
            ·
             rintro w' ⟨s0, s1, s2⟩
             go_simp
             with_reducible rfl
            rotate_left
            ·
             simp only [Act.put, List.setIfInBounds_toArray, List.set_cons_zero, List.set_cons_succ, i64_w, i32_w, IntKind.wrap_u8, IntKind.wrap_u32]
             rfl
            refine take_ (i := 15) (N := some 71) (v := ?_) (a' := ?_) #[true, true, true, true, false, true, true, true, true, true, true, true, true, true, true, true, true, false, true, false, false, false] rfl rfl (take_ofW HT_.out HW_.out (by kernel_rfl)) (fun _ _ _ h => h) (Or.inl ⟨by rfl, ?_⟩) hHeld ?_ ?_
            rotate_left
            ·
             rintro w' ⟨s0, s1, s2⟩
             go_simp
             with_reducible rfl
            rotate_left
            ·
             simp only [Act.put, List.setIfInBounds_toArray, List.set_cons_zero, List.set_cons_succ, i64_w, i32_w, IntKind.wrap_u8, IntKind.wrap_u32]
             rfl
            refine one_ (i := 4) (N := some 60) #[true, true, true, true, true, true, true, true, true, true, true, true, true, true, true, true, true, false, true, false, false, false] rfl rfl (one_of HT_.out (by kernel_rfl)) (by decide) (fun K hK => ?_)
            refine goes_ Try.func77 (by kernel_rfl) rfl #[.slice (some ad333) l0.length c0, .int .i64 4] (by rfl) rfl rfl zqxb8_6 ?_
            with_reducible refine (ip4_word.calls _ _ l0 4 t334 _ ?side1 ?side2 A18.out).mono ?_
            (case side1 => repeat (first | exact (Kd.C_below HR0.out HB.out) | (with_reducible refine Kd.C_alloc ?_ _) | (with_reducible refine Kd.C_drewN ?_ _) | (with_reducible refine Kd.C_drew ?_)))
            (case side2 => exact HC0.out)
            rintro e w' ⟨rfl, ⟨nd, rfl⟩⟩
            refine ⟨_, rfl, ?_⟩
            refine hK.out _ _ ⟨((HB.out.cell (World.block_lt_of_cell? w _ hw333_0)).trans hw333_0), ((HB.out.cell (World.block_lt_of_cell? w _ hw335_0)).trans hw335_0), ((HB.out.cell (World.block_lt_of_cell? w _ hw336_0)).trans hw336_0)⟩ (fun hHeld => ?_)
            clear hK K
            refine norm_ (a' := ?_) ?_ ?_
            rotate_left
            ·
             show Act.put _ (some 60) _ = _
             simp only [Act.put, List.setIfInBounds_toArray, List.set_cons_zero, List.set_cons_succ, i64_w, i32_w, IntKind.wrap_u8, IntKind.wrap_u32]
             rfl
            refine one_ (i := 17) (N := some 73) #[true, true, true, true, true, true, true, true, true, true, true, true, true, true, true, true, true, true, true, false, false, false] rfl rfl (one_of HT_.out (by kernel_rfl)) (by decide) (fun K hK => ?_)
            refine goes_ Try.func78 (by kernel_rfl) rfl #[.slice (some ad333) l0.length c0, .int .i64 12] (by rfl) rfl rfl zqxb8_6 ?_
            with_reducible refine (ip4_long.calls _ _ l0 12 t337 _ ?side1 ?side2 A21.out).mono ?_
            (case side1 => repeat (first | exact (Kd.C_below HR0.out zqxb8_5) | (with_reducible refine Kd.C_alloc ?_ _) | (with_reducible refine Kd.C_drewN ?_ _) | (with_reducible refine Kd.C_drew ?_)))
            (case side2 => exact HC0.out)
            rintro e w' ⟨rfl, ⟨nd, rfl⟩⟩
            refine ⟨_, rfl, ?_⟩
            refine hK.out _ _ ⟨((HB.out.cell (World.block_lt_of_cell? w _ hw333_0)).trans hw333_0), ((HB.out.cell (World.block_lt_of_cell? w _ hw335_0)).trans hw335_0), ((HB.out.cell (World.block_lt_of_cell? w _ hw336_0)).trans hw336_0)⟩ (fun hHeld => ?_)
            clear hK K
            refine norm_ (a' := ?_) ?_ ?_
            rotate_left
            ·
             show Act.put _ (some 73) _ = _
             simp only [Act.put, List.setIfInBounds_toArray, List.set_cons_zero, List.set_cons_succ, i64_w, i32_w, IntKind.wrap_u8, IntKind.wrap_u32]
             rfl
            refine one_ (i := 19) (N := some 75) #[true, true, true, true, true, true, true, true, true, true, true, true, true, true, true, true, true, true, true, true, false, false] rfl rfl (one_of HT_.out (by kernel_rfl)) (by decide) (fun K hK => ?_)
            refine goes_ Try.func78 (by kernel_rfl) rfl #[.slice (some ad333) l0.length c0, .int .i64 16] (by rfl) rfl rfl zqxb8_6 ?_
            with_reducible refine (ip4_long.calls _ _ l0 16 t338 _ ?side1 ?side2 A22.out).mono ?_
            (case side1 => repeat (first | exact (Kd.C_below HR0.out zqxb8_5) | (with_reducible refine Kd.C_alloc ?_ _) | (with_reducible refine Kd.C_drewN ?_ _) | (with_reducible refine Kd.C_drew ?_)))
            (case side2 => exact HC0.out)
            rintro e w' ⟨rfl, ⟨nd, rfl⟩⟩
            refine ⟨_, rfl, ?_⟩
            refine hK.out _ _ ⟨((HB.out.cell (World.block_lt_of_cell? w _ hw333_0)).trans hw333_0), ((HB.out.cell (World.block_lt_of_cell? w _ hw335_0)).trans hw335_0), ((HB.out.cell (World.block_lt_of_cell? w _ hw336_0)).trans hw336_0)⟩ (fun hHeld => ?_)
            clear hK K
            refine norm_ (a' := ?_) ?_ ?_
            rotate_left
            ·
             show Act.put _ (some 75) _ = _
             simp only [Act.put, List.setIfInBounds_toArray, List.set_cons_zero, List.set_cons_succ, i64_w, i32_w, IntKind.wrap_u8, IntKind.wrap_u32]
             rfl
            refine pure_ (i := 20) (N := some 76) (v := ?_) (a' := ?_) #[true, true, true, true, true, true, true, true, true, true, true, true, true, true, true, true, true, true, true, true, true, false] rfl rfl (any_of HT_.out (by kernel_rfl)) (fun _ _ _ h => h) (Or.inl ⟨by rfl, ?_⟩) ?_ ?_
            rotate_left
            ·
             intro w'
             go_simp
             with_reducible rfl
            rotate_left
            ·
             simp only [Act.put, List.setIfInBounds_toArray, List.set_cons_zero, List.set_cons_succ, i64_w, i32_w, IntKind.wrap_u8, IntKind.wrap_u32]
             rfl
            refine one_ (i := 21) (N := none) #[true, true, true, true, true, true, true, true, true, true, true, true, true, true, true, true, true, true, true, true, true, true] rfl rfl (one_of HT_.out (by kernel_rfl)) (by decide) (fun K hK => ?_)
            have hs29 : w28.cell? ⟨gb319, 0, none⟩ = some (.int .u8 0) := (zbc BK319.out 0).trans rfl
            have hfs29 := zbf BK319.out 0
            have hs30 : w28.cell? ⟨gb319, 1, none⟩ = some (.int .u16 0) := (zbc BK319.out 1).trans rfl
            have hfs30 := zbf BK319.out 1
            have hs31 : w28.cell? ⟨gb319, 2, none⟩ = some (.bool false) := (zbc BK319.out 2).trans rfl
            have hfs31 := zbf BK319.out 2
            have hs32 : w28.cell? ⟨gb319, 3, none⟩ = some (.bool false) := (zbc BK319.out 3).trans rfl
            have hfs32 := zbf BK319.out 3
            have hs33 : w28.cell? ⟨gb319, 4, none⟩ = some (.int .i64 0) := (zbc BK319.out 4).trans rfl
            have hfs33 := zbf BK319.out 4
            have hs34 : w28.cell? ⟨gb319, 5, none⟩ = some (.int .u8 0) := (zbc BK319.out 5).trans rfl
            have hfs34 := zbf BK319.out 5
            have hs35 : w28.cell? ⟨gb319, 6, none⟩ = some (.int .u8 0) := (zbc BK319.out 6).trans rfl
            have hfs35 := zbf BK319.out 6
            have hs36 : w28.cell? ⟨gb319, 7, none⟩ = some (.int .u32 0) := (zbc BK319.out 7).trans rfl
            have hfs36 := zbf BK319.out 7
            have hs37 : w28.cell? ⟨gb319, 8, none⟩ = some (.int .u32 0) := (zbc BK319.out 8).trans rfl
            have hfs37 := zbf BK319.out 8
            have hs38 : w28.cell? ⟨gb319, 9, none⟩ = some (.slice none 0 0) := (zbc BK319.out 9).trans rfl
            have hfs38 := zbf BK319.out 9
            refine skip_ (w1 := ?_) (by rfl) rfl ?_ ?_
            rotate_left
            ·
             go_simp
             rfl
            refine hK.out _ _ ⟨((cell_far (p := ⟨gb319, _, none⟩) zqxb8_1 _).trans (((cell_far (p := ⟨gb319, _, none⟩) zqxb8_1 _).trans (((cell_far (p := ⟨gb319, _, none⟩) zqxb8_1 _).trans (((cell_far (p := ⟨gb319, _, none⟩) zqxb8_1 _).trans (((cell_far (p := ⟨gb319, _, none⟩) zqxb8_1 _).trans (((cell_far (p := ⟨gb319, _, none⟩) zqxb8_1 _).trans (((cell_far (p := ⟨gb319, _, none⟩) zqxb8_1 _).trans (((cell_far (p := ⟨gb319, _, none⟩) zqxb8_1 _).trans (((cell_far (p := ⟨gb319, _, none⟩) zqxb8_1 _).trans (((cell_far (p := ⟨gb319, _, none⟩) zqxb8_1 _).trans (hHeld.1)))))))))))))))))))), ((cell_far (p := ⟨gb319, _, none⟩) zqxb8_2 _).trans (((cell_far (p := ⟨gb319, _, none⟩) zqxb8_2 _).trans (((cell_far (p := ⟨gb319, _, none⟩) zqxb8_2 _).trans (((cell_far (p := ⟨gb319, _, none⟩) zqxb8_2 _).trans (((cell_far (p := ⟨gb319, _, none⟩) zqxb8_2 _).trans (((cell_far (p := ⟨gb319, _, none⟩) zqxb8_2 _).trans (((cell_far (p := ⟨gb319, _, none⟩) zqxb8_2 _).trans (((cell_far (p := ⟨gb319, _, none⟩) zqxb8_2 _).trans (((cell_far (p := ⟨gb319, _, none⟩) zqxb8_2 _).trans (((cell_far (p := ⟨gb319, _, none⟩) zqxb8_2 _).trans (hHeld.2.1)))))))))))))))))))), ((cell_far (p := ⟨gb319, _, none⟩) zqxb8_3 _).trans (((cell_far (p := ⟨gb319, _, none⟩) zqxb8_3 _).trans (((cell_far (p := ⟨gb319, _, none⟩) zqxb8_3 _).trans (((cell_far (p := ⟨gb319, _, none⟩) zqxb8_3 _).trans (((cell_far (p := ⟨gb319, _, none⟩) zqxb8_3 _).trans (((cell_far (p := ⟨gb319, _, none⟩) zqxb8_3 _).trans (((cell_far (p := ⟨gb319, _, none⟩) zqxb8_3 _).trans (((cell_far (p := ⟨gb319, _, none⟩) zqxb8_3 _).trans (((cell_far (p := ⟨gb319, _, none⟩) zqxb8_3 _).trans (((cell_far (p := ⟨gb319, _, none⟩) zqxb8_3 _).trans (hHeld.2.2))))))))))))))))))))⟩ (fun hHeld => ?_)
            clear hK K
            refine done_ (done_of HT_.out (by kernel_rfl)) ?_
            have hcz39_0 : w28.cell? ⟨gb319, 0, none⟩ = some (.int .u8 0) := (zbc BK319.out 0).trans rfl
            have hcz39_1 : w28.cell? ⟨gb319, 1, none⟩ = some (.int .u16 0) := (zbc BK319.out 1).trans rfl
            have hcz39_2 : w28.cell? ⟨gb319, 2, none⟩ = some (.bool false) := (zbc BK319.out 2).trans rfl
            have hcz39_3 : w28.cell? ⟨gb319, 3, none⟩ = some (.bool false) := (zbc BK319.out 3).trans rfl
            have hcz39_4 : w28.cell? ⟨gb319, 4, none⟩ = some (.int .i64 0) := (zbc BK319.out 4).trans rfl
            have hcz39_5 : w28.cell? ⟨gb319, 5, none⟩ = some (.int .u8 0) := (zbc BK319.out 5).trans rfl
            have hcz39_6 : w28.cell? ⟨gb319, 6, none⟩ = some (.int .u8 0) := (zbc BK319.out 6).trans rfl
            have hcz39_7 : w28.cell? ⟨gb319, 7, none⟩ = some (.int .u32 0) := (zbc BK319.out 7).trans rfl
            have hcz39_8 : w28.cell? ⟨gb319, 8, none⟩ = some (.int .u32 0) := (zbc BK319.out 8).trans rfl
            have hcz39_9 : w28.cell? ⟨gb319, 9, none⟩ = some (.slice none 0 0) := (zbc BK319.out 9).trans rfl
            have hfz39_0 := zbf BK319.out 0
            have hfz39_1 := zbf BK319.out 1
            have hfz39_2 := zbf BK319.out 2
            have hfz39_3 := zbf BK319.out 3
            have hfz39_4 := zbf BK319.out 4
            have hfz39_5 := zbf BK319.out 5
            have hfz39_6 := zbf BK319.out 6
            have hfz39_7 := zbf BK319.out 7
            have hfz39_8 := zbf BK319.out 8
            have hfz39_9 := zbf BK319.out 9
            try go_wp2
            refine bodyPost_ret (results_list (rs := [.cell 4 41, .tmp 5, .tmp 6, .tmp 7]) rfl (by simp) (.cell gb319 41 #[.int .u8 (rd l0 1), .int .u16 t334, .bool ((Go.bits .and .u16 t329 16384) != 0), .bool ((Go.bits .and .u16 t329 8192) != 0), .int .i64 (wrap64 ((wrap64 (Go.bits .and .u16 t329 8191)) * 8)), .int .u8 (rd l0 8), .int .u8 (rd l0 9), .int .u32 t337, .int .u32 t338, .slice none 0 0] (0, 0) _ rfl (by (with_reducible repeat (first | refine zdn ?_ _ | refine zdr ?_ | refine blk_alloc ?_ _)); refine blk_put (cs := #[.int .u8 (rd l0 1), .int .u16 t334, .bool ((Go.bits .and .u16 t329 16384) != 0), .bool ((Go.bits .and .u16 t329 8192) != 0), .int .i64 (wrap64 ((wrap64 (Go.bits .and .u16 t329 8191)) * 8)), .int .u8 (rd l0 8), .int .u8 (rd l0 9), .int .u32 t337, .int .u32 t338, .slice none 0 0]) ?_ 9 _ rfl; (with_reducible repeat (first | refine zdn ?_ _ | refine zdr ?_ | refine blk_alloc ?_ _)); refine blk_put (cs := #[.int .u8 (rd l0 1), .int .u16 t334, .bool ((Go.bits .and .u16 t329 16384) != 0), .bool ((Go.bits .and .u16 t329 8192) != 0), .int .i64 (wrap64 ((wrap64 (Go.bits .and .u16 t329 8191)) * 8)), .int .u8 (rd l0 8), .int .u8 (rd l0 9), .int .u32 t337, .int .u32 t338, .slice none 0 0]) ?_ 8 _ rfl; (with_reducible repeat (first | refine zdn ?_ _ | refine zdr ?_ | refine blk_alloc ?_ _)); refine blk_put (cs := #[.int .u8 (rd l0 1), .int .u16 t334, .bool ((Go.bits .and .u16 t329 16384) != 0), .bool ((Go.bits .and .u16 t329 8192) != 0), .int .i64 (wrap64 ((wrap64 (Go.bits .and .u16 t329 8191)) * 8)), .int .u8 (rd l0 8), .int .u8 (rd l0 9), .int .u32 t337, .int .u32 t338, .slice none 0 0]) ?_ 7 _ rfl; (with_reducible repeat (first | refine zdn ?_ _ | refine zdr ?_ | refine blk_alloc ?_ _)); refine blk_put (cs := #[.int .u8 (rd l0 1), .int .u16 t334, .bool ((Go.bits .and .u16 t329 16384) != 0), .bool ((Go.bits .and .u16 t329 8192) != 0), .int .i64 (wrap64 ((wrap64 (Go.bits .and .u16 t329 8191)) * 8)), .int .u8 (rd l0 8), .int .u8 (rd l0 9), .int .u32 t337, .int .u32 t338, .slice none 0 0]) ?_ 6 _ rfl; (with_reducible repeat (first | refine zdn ?_ _ | refine zdr ?_ | refine blk_alloc ?_ _)); refine blk_put (cs := #[.int .u8 (rd l0 1), .int .u16 t334, .bool ((Go.bits .and .u16 t329 16384) != 0), .bool ((Go.bits .and .u16 t329 8192) != 0), .int .i64 (wrap64 ((wrap64 (Go.bits .and .u16 t329 8191)) * 8)), .int .u8 (rd l0 8), .int .u8 (rd l0 9), .int .u32 t337, .int .u32 t338, .slice none 0 0]) ?_ 5 _ rfl; (with_reducible repeat (first | refine zdn ?_ _ | refine zdr ?_ | refine blk_alloc ?_ _)); refine blk_put (cs := #[.int .u8 (rd l0 1), .int .u16 t334, .bool ((Go.bits .and .u16 t329 16384) != 0), .bool ((Go.bits .and .u16 t329 8192) != 0), .int .i64 (wrap64 ((wrap64 (Go.bits .and .u16 t329 8191)) * 8)), .int .u8 (rd l0 8), .int .u8 (rd l0 9), .int .u32 t337, .int .u32 t338, .slice none 0 0]) ?_ 4 _ rfl; (with_reducible repeat (first | refine zdn ?_ _ | refine zdr ?_ | refine blk_alloc ?_ _)); refine blk_put (cs := #[.int .u8 (rd l0 1), .int .u16 t334, .bool ((Go.bits .and .u16 t329 16384) != 0), .bool ((Go.bits .and .u16 t329 8192) != 0), .int .i64 (wrap64 ((wrap64 (Go.bits .and .u16 t329 8191)) * 8)), .int .u8 (rd l0 8), .int .u8 (rd l0 9), .int .u32 t337, .int .u32 t338, .slice none 0 0]) ?_ 3 _ rfl; (with_reducible repeat (first | refine zdn ?_ _ | refine zdr ?_ | refine blk_alloc ?_ _)); refine blk_put (cs := #[.int .u8 (rd l0 1), .int .u16 t334, .bool ((Go.bits .and .u16 t329 16384) != 0), .bool ((Go.bits .and .u16 t329 8192) != 0), .int .i64 (wrap64 ((wrap64 (Go.bits .and .u16 t329 8191)) * 8)), .int .u8 (rd l0 8), .int .u8 (rd l0 9), .int .u32 t337, .int .u32 t338, .slice none 0 0]) ?_ 2 _ rfl; (with_reducible repeat (first | refine zdn ?_ _ | refine zdr ?_ | refine blk_alloc ?_ _)); refine blk_put (cs := #[.int .u8 (rd l0 1), .int .u16 t334, .bool ((Go.bits .and .u16 t329 16384) != 0), .bool ((Go.bits .and .u16 t329 8192) != 0), .int .i64 (wrap64 ((wrap64 (Go.bits .and .u16 t329 8191)) * 8)), .int .u8 (rd l0 8), .int .u8 (rd l0 9), .int .u32 t337, .int .u32 t338, .slice none 0 0]) ?_ 1 _ rfl; (with_reducible repeat (first | refine zdn ?_ _ | refine zdr ?_ | refine blk_alloc ?_ _)); refine blk_put (cs := #[.int .u8 (rd l0 1), .int .u16 t334, .bool ((Go.bits .and .u16 t329 16384) != 0), .bool ((Go.bits .and .u16 t329 8192) != 0), .int .i64 (wrap64 ((wrap64 (Go.bits .and .u16 t329 8191)) * 8)), .int .u8 (rd l0 8), .int .u8 (rd l0 9), .int .u32 t337, .int .u32 t338, .slice none 0 0]) ?_ 0 _ rfl; (with_reducible repeat (first | refine zdn ?_ _ | refine zdr ?_ | refine blk_alloc ?_ _)); refine blk_put (cs := #[.int .u8 (rd l0 1), .int .u16 t334, .bool ((Go.bits .and .u16 t329 16384) != 0), .bool ((Go.bits .and .u16 t329 8192) != 0), .int .i64 (wrap64 ((wrap64 (Go.bits .and .u16 t329 8191)) * 8)), .int .u8 (rd l0 8), .int .u8 (rd l0 9), .int .u32 t337, .int .u32 t338, .slice none 0 0]) ?_ 9 _ rfl; (with_reducible repeat (first | refine zdn ?_ _ | refine zdr ?_ | refine blk_alloc ?_ _)); refine blk_put (cs := #[.int .u8 (rd l0 1), .int .u16 t334, .bool ((Go.bits .and .u16 t329 16384) != 0), .bool ((Go.bits .and .u16 t329 8192) != 0), .int .i64 (wrap64 ((wrap64 (Go.bits .and .u16 t329 8191)) * 8)), .int .u8 (rd l0 8), .int .u8 (rd l0 9), .int .u32 t337, .int .u32 0, .slice none 0 0]) ?_ 8 _ rfl; (with_reducible repeat (first | refine zdn ?_ _ | refine zdr ?_ | refine blk_alloc ?_ _)); refine blk_put (cs := #[.int .u8 (rd l0 1), .int .u16 t334, .bool ((Go.bits .and .u16 t329 16384) != 0), .bool ((Go.bits .and .u16 t329 8192) != 0), .int .i64 (wrap64 ((wrap64 (Go.bits .and .u16 t329 8191)) * 8)), .int .u8 (rd l0 8), .int .u8 (rd l0 9), .int .u32 0, .int .u32 0, .slice none 0 0]) ?_ 7 _ rfl; (with_reducible repeat (first | refine zdn ?_ _ | refine zdr ?_ | refine blk_alloc ?_ _)); refine blk_put (cs := #[.int .u8 (rd l0 1), .int .u16 t334, .bool ((Go.bits .and .u16 t329 16384) != 0), .bool ((Go.bits .and .u16 t329 8192) != 0), .int .i64 (wrap64 ((wrap64 (Go.bits .and .u16 t329 8191)) * 8)), .int .u8 (rd l0 8), .int .u8 0, .int .u32 0, .int .u32 0, .slice none 0 0]) ?_ 6 _ rfl; (with_reducible repeat (first | refine zdn ?_ _ | refine zdr ?_ | refine blk_alloc ?_ _)); refine blk_put (cs := #[.int .u8 (rd l0 1), .int .u16 t334, .bool ((Go.bits .and .u16 t329 16384) != 0), .bool ((Go.bits .and .u16 t329 8192) != 0), .int .i64 (wrap64 ((wrap64 (Go.bits .and .u16 t329 8191)) * 8)), .int .u8 0, .int .u8 0, .int .u32 0, .int .u32 0, .slice none 0 0]) ?_ 5 _ rfl; (with_reducible repeat (first | refine zdn ?_ _ | refine zdr ?_ | refine blk_alloc ?_ _)); refine blk_put (cs := #[.int .u8 (rd l0 1), .int .u16 t334, .bool ((Go.bits .and .u16 t329 16384) != 0), .bool ((Go.bits .and .u16 t329 8192) != 0), .int .i64 0, .int .u8 0, .int .u8 0, .int .u32 0, .int .u32 0, .slice none 0 0]) ?_ 4 _ rfl; (with_reducible repeat (first | refine zdn ?_ _ | refine zdr ?_ | refine blk_alloc ?_ _)); refine blk_put (cs := #[.int .u8 (rd l0 1), .int .u16 t334, .bool ((Go.bits .and .u16 t329 16384) != 0), .bool false, .int .i64 0, .int .u8 0, .int .u8 0, .int .u32 0, .int .u32 0, .slice none 0 0]) ?_ 3 _ rfl; (with_reducible repeat (first | refine zdn ?_ _ | refine zdr ?_ | refine blk_alloc ?_ _)); refine blk_put (cs := #[.int .u8 (rd l0 1), .int .u16 t334, .bool false, .bool false, .int .i64 0, .int .u8 0, .int .u8 0, .int .u32 0, .int .u32 0, .slice none 0 0]) ?_ 2 _ rfl; (with_reducible repeat (first | refine zdn ?_ _ | refine zdr ?_ | refine blk_alloc ?_ _)); refine blk_put (cs := #[.int .u8 (rd l0 1), .int .u16 0, .bool false, .bool false, .int .i64 0, .int .u8 0, .int .u8 0, .int .u32 0, .int .u32 0, .slice none 0 0]) ?_ 1 _ rfl; (with_reducible repeat (first | refine zdn ?_ _ | refine zdr ?_ | refine blk_alloc ?_ _)); refine blk_put (cs := #[.int .u8 0, .int .u16 0, .bool false, .bool false, .int .i64 0, .int .u8 0, .int .u8 0, .int .u32 0, .int .u32 0, .slice none 0 0]) ?_ 0 _ rfl; first | (with_reducible exact BK319.out) | (with_reducible exact zdn BK319.out _) | (with_reducible exact zdr BK319.out) | ((with_reducible repeat (first | refine zdn ?_ _ | refine zdr ?_ | refine blk_alloc ?_ _)); exact BK319.out)) Try.underlying41 rfl (by kernel_rfl) (.tmp (.tmp (.tmp .nil))))) rfl ?_
            exact ⟨_, by first | rfl | (simp [errW_none, errW_some] <;> rfl) | (simp [*, errW_none, errW_some] <;> rfl), by first | exact Kd.R_nil _ _ _ _ _ | exact Kd.N_nil _ _ _ _ _ | exact Kd.V_nil _ _ _ _ _ | exact Kd.Q_nil _ _ _ _ _ | exact Kd.S_nil _ _ _ _ _, by repeat (first | (with_reducible first | exact HB.out | apply below_alloc | apply pw_below_drewN | apply below_drew1 | refine below_set ?_ GE319.out) | exact HB.out)⟩
           ·
            rw [if_neg c20] at H
            exact absurd H (by simp)
          ·
           rw [if_neg c19] at H
           exact absurd H (by simp)
         ·
          rw [if_neg c17] at H
          exact absurd H (by simp)
        ·
         replace c16 := Bool.eq_false_iff.mpr c16
         subst c16
         have H1 : (some (0, 0, false, false, 0, 0, 0, 0, 0, ([] : List Int), 0, 0, 36)) = some (r1, r2, r3, r4, r5, r6, r7, r8, r9, r10, r11, r12, r13) := by rw [if_neg (show ¬ (false = true) by decide)] at H; exact H
         clear H
         have H := H1
         clear H1
         simp only [Option.some.injEq, Prod.mk.injEq] at H
         obtain ⟨rfl, rfl, rfl, rfl, rfl, rfl, rfl, rfl, rfl, rfl, rfl, rfl, rfl⟩ := H
         go_enter Try.func65, Try.ntmps65
         go_wp2_with (first | ((with_reducible refine gate_dst (N := 4) rfl ?_); refine box_event ?hg (N := 4) ?hd (cs := #[.int .u8 0, .int .u16 0, .bool false, .bool false, .int .i64 0, .int .u8 0, .int .u8 0, .int .u32 0, .int .u32 0, .slice none 0 0]) (t := 41) ?hr ?_; (case hd => rfl); (case hg => rfl); (case hr => first | (go_simp; done) | (go_simp; rfl)); intro gb319 hg w40 hbox hb; have n0_ := zam (below_step zqxb8_7 hb); have n1_ := zam (hbox); have n2_ := zam ((by rw [hg]; exact (below_size zqxb8_7) : w.heap.size ≤ gb319)); have n3_ := zam ((by rw [hg]; exact (below_size zqxb8_7) : w.heap.size ≤ gb319)); clear HB; have HB := n0_; have BK319 := n1_; have GW319 := n2_; have GE319 := n3_; clear n0_ n1_ n2_ n3_; clear hb hbox hg) | ((with_reducible refine gate_callee (f := 76) rfl ?_); refine goesL_ (some 14) rfl rfl Try.func76 (by kernel_rfl) rfl #[.slice A0 l0.length c0, .bool a1] rfl zqxb8_6 ?_; (with_reducible refine (ip4_measure.calls _ _ l0 a1 t320 t321 t322 _ ?side1 ?side2 A3.out).mono ?_); (case side1 => repeat (first | exact (Kd.C_below HR0.out HB.out) | (with_reducible refine Kd.C_alloc ?_ _) | (with_reducible refine Kd.C_drewN ?_ _) | (with_reducible refine Kd.C_drew ?_))); (case side2 => exact HC0.out); rintro e w' ⟨rfl, ⟨nd, rfl⟩⟩; refine ⟨_, rfl, ?_⟩; (try (rw [drewN_self w40]; generalize hq_ : World.drewN w40 _ = w40; have n0_ : Aside0 (w40.heap[gb319]? = some (.cells #[.int .u8 0, .int .u16 0, .bool false, .bool false, .int .i64 0, .int .u8 0, .int .u8 0, .int .u32 0, .int .u32 0, .slice none 0 0] 41 (0, 0))) := ⟨by rw [← hq_]; exact zqxb8_4⟩; have n1_ : Aside0 (Below w.heap.size w w40) := ⟨by rw [← hq_]; exact zqxb8_5⟩; clear BK319 HB hq_; have BK319 := n0_; have HB := n1_; clear n0_ n1_)); obtain ⟨i041, hi041, _, hsz41, _⟩ := info_parts info5; obtain ⟨hcut41, hA41, hC41⟩ := print_take_of (P := Try.prog) (Value.int .u8) 0 24 5 .i64 Try.underlying24 hi041 hsz41 A0 c0 l0 t320 (zod zqxb8_8) (zod zqxb8_8) HC0.out; have HR323 := zam (Kd.C_of_reads (h1 := fun _ => rfl) (hA41 _ (Kd.reads_of_C HR0.out))); have HC323 := zam hC41; clear hA41 hC41 hi041 hsz41) | ((with_reducible refine gate_dst (N := 25) rfl ?_); refine lits_event (Kd.slice 5 (Kd.int .u8)) 24 ?hg (N := 25) ?hd (xs := ([l0.take (t320 : Int).toNat] : List (List Int))) (inner := [.slice A0 (l0.take (t320 : Int).toNat).length c0]) ?hr ?hp (by simp) ?_; (case hd => rfl); (case hg => rfl); (case hr => first | (go_simp; done) | (go_simp; rfl)); (case hp => exact (Reps.one (show Kd.K (Kd.slice 5 (Kd.int .u8)) _ (l0.take (t320 : Int).toNat) [.slice A0 (l0.take (t320 : Int).toNat).length c0] from by refine ⟨_, _, rfl, ?_, ?_⟩; (· exact HC323.out); (· repeat (first | exact (Kd.C_below HR323.out HB.out) | (with_reducible refine Kd.C_alloc ?_ _) | (with_reducible refine Kd.C_drewN ?_ _) | (with_reducible refine Kd.C_drew ?_)))) (Reps.none _ _))); intro v43_ w42 hL_ hb; (first | rw [← Ny324.out] at hL_ | (simp only [Int.reduceToNat] at hL_; rw [← Ny324.out] at hL_)); obtain ⟨A43, c43, rfl, hlr_, hlc_⟩ := hL_; have n0_ := zam (blk_below (g := gb319) (o := .cells #[.int .u8 0, .int .u16 0, .bool false, .bool false, .int .i64 0, .int .u8 0, .int .u8 0, .int .u32 0, .int .u32 0, .slice none 0 0] 41 (0, 0)) zqxb8_4 hb); have n1_ := zam (below_step zqxb8_5 hb); have n2_ := zam (hlc_); have n3_ := zam (hlr_); clear BK319; clear HB; have BK319 := n0_; have HB := n1_; have HR327 := n2_; have HC327 := n3_; clear n0_ n1_ n2_ n3_; clear hb hlr_ hlc_) | ((with_reducible refine gate_callee (f := 16) rfl ?_); refine goesL_ (some 26) rfl rfl Try.func16 (by kernel_rfl) rfl #[.slice A43 y324.length c43] rfl zqxb8_6 ?_; (with_reducible refine (ip4_Sum.calls k _ _ y324 t328 _ ?side1 ?side2 A7.out).mono ?_); (case side1 => repeat (first | exact zqxb8_9 | (with_reducible refine Kd.C_alloc ?_ _) | (with_reducible refine Kd.C_drewN ?_ _) | (with_reducible refine Kd.C_drew ?_))); (case side2 => exact HC327.out); rintro e w' ⟨rfl, ⟨nd, rfl⟩⟩; refine ⟨_, rfl, ?_⟩; (try (rw [drewN_self w42]; generalize hq_ : World.drewN w42 _ = w42; have n0_ : Aside0 (w42.heap[gb319]? = some (.cells #[.int .u8 0, .int .u16 0, .bool false, .bool false, .int .i64 0, .int .u8 0, .int .u8 0, .int .u32 0, .int .u32 0, .slice none 0 0] 41 (0, 0))) := ⟨by rw [← hq_]; exact zqxb8_4⟩; have n1_ : Aside0 (Below w.heap.size w w42) := ⟨by rw [← hq_]; exact zqxb8_5⟩; have n2_ : Aside0 (Kd.C (Kd.slice 5 (Kd.int .u8)) w42 A43 y324.length y324) := ⟨by rw [← hq_]; exact zqxb8_9⟩; clear BK319 HB HR327 hq_; have BK319 := n0_; have HB := n1_; have HR327 := n2_; clear n0_ n1_ n2_))) | ((with_reducible refine gate_callee (f := 77) rfl ?_); refine goesL_ (some 30) rfl rfl Try.func77 (by kernel_rfl) rfl #[.slice A0 l0.length c0, .int .i64 6] rfl zqxb8_6 ?_; (with_reducible refine (ip4_word.calls _ _ l0 6 t329 _ ?side1 ?side2 A9.out).mono ?_); (case side1 => repeat (first | exact (Kd.C_below HR0.out HB.out) | (with_reducible refine Kd.C_alloc ?_ _) | (with_reducible refine Kd.C_drewN ?_ _) | (with_reducible refine Kd.C_drew ?_))); (case side2 => exact HC0.out); rintro e w' ⟨rfl, ⟨nd, rfl⟩⟩; refine ⟨_, rfl, ?_⟩; (try (rw [drewN_self w42]; generalize hq_ : World.drewN w42 _ = w42; have n0_ : Aside0 (w42.heap[gb319]? = some (.cells #[.int .u8 0, .int .u16 0, .bool false, .bool false, .int .i64 0, .int .u8 0, .int .u8 0, .int .u32 0, .int .u32 0, .slice none 0 0] 41 (0, 0))) := ⟨by rw [← hq_]; exact zqxb8_4⟩; have n1_ : Aside0 (Below w.heap.size w w42) := ⟨by rw [← hq_]; exact zqxb8_5⟩; clear BK319 HB hq_; have BK319 := n0_; have HB := n1_; clear n0_ n1_)); obtain ⟨i044, hi044, _, hsz44, _⟩ := info_parts info5; obtain ⟨A44, hcut44, hA44, hC44⟩ := print_mid_of (P := Try.prog) (Value.int .u8) 0 24 5 .i64 .i64 Try.underlying24 hi044 hsz44 A0 c0 l0 20 t320 (by omega) zqxb8_12 (zod zqxb8_8) HC0.out; have HR330 := zam (Kd.C_of_reads (h1 := fun _ => rfl) (hA44 _ (Kd.reads_of_C HR0.out))); have HC330 := zam hC44; clear hA44 hC44 hi044 hsz44) | ((with_reducible refine gate_callee (f := 46) rfl ?_); refine goesL_ (some 38) rfl rfl Try.func46 (by kernel_rfl) rfl #[.slice A44 ((l0.take (t320 : Int).toNat).drop 20).length (c0 - 20)] rfl zqxb8_10 ?_; (with_reducible refine (ip4_optionsOK.calls k _ _ ((l0.take (t320 : Int).toNat).drop 20) true _ ?side1 ?side2 A13.out).mono ?_); (case side1 => repeat (first | exact (Kd.C_below HR330.out HB.out) | (with_reducible refine Kd.C_alloc ?_ _) | (with_reducible refine Kd.C_drewN ?_ _) | (with_reducible refine Kd.C_drew ?_))); (case side2 => exact HC330.out); rintro e w' ⟨rfl, ⟨nd, rfl⟩⟩; refine ⟨_, rfl, ?_⟩; (try (rw [drewN_self w42]; generalize hq_ : World.drewN w42 _ = w42; have n0_ : Aside0 (w42.heap[gb319]? = some (.cells #[.int .u8 0, .int .u16 0, .bool false, .bool false, .int .i64 0, .int .u8 0, .int .u8 0, .int .u32 0, .int .u32 0, .slice none 0 0] 41 (0, 0))) := ⟨by rw [← hq_]; exact zqxb8_4⟩; have n1_ : Aside0 (Below w.heap.size w w42) := ⟨by rw [← hq_]; exact zqxb8_5⟩; clear BK319 HB hq_; have BK319 := n0_; have HB := n1_; clear n0_ n1_))) | ((with_reducible refine gate_callee (f := 47) rfl ?_); refine goesL_ (some 53) rfl rfl Try.func47 (by kernel_rfl) rfl #[.int .i64 (wrap64 ((wrap64 (Go.bits .and .u16 t329 8191)) * 8)), .int .i64 (wrap64 (t321 - t320)), .bool ((Go.bits .and .u16 t329 8192) != 0)] rfl zqxb8_6 ?_; (with_reducible refine (ip4_orderly.calls (wrap64 ((wrap64 (Go.bits .and .u16 t329 8191)) * 8)) (wrap64 (t321 - t320)) ((Go.bits .and .u16 t329 8192) != 0) false _ A15.out).mono ?_); rintro e w' ⟨rfl, ⟨nd, rfl⟩⟩; refine ⟨_, rfl, ?_⟩; (try (rw [drewN_self w42]; generalize hq_ : World.drewN w42 _ = w42; have n0_ : Aside0 (w42.heap[gb319]? = some (.cells #[.int .u8 0, .int .u16 0, .bool false, .bool false, .int .i64 0, .int .u8 0, .int .u8 0, .int .u32 0, .int .u32 0, .slice none 0 0] 41 (0, 0))) := ⟨by rw [← hq_]; exact zqxb8_4⟩; have n1_ : Aside0 (Below w.heap.size w w42) := ⟨by rw [← hq_]; exact zqxb8_5⟩; clear BK319 HB hq_; have BK319 := n0_; have HB := n1_; clear n0_ n1_)); have hcz45_0 : w42.cell? ⟨gb319, 0, none⟩ = some (.int .u8 0) := (zbc BK319.out 0).trans rfl; have hcz45_1 : w42.cell? ⟨gb319, 1, none⟩ = some (.int .u16 0) := (zbc BK319.out 1).trans rfl; have hcz45_2 : w42.cell? ⟨gb319, 2, none⟩ = some (.bool false) := (zbc BK319.out 2).trans rfl; have hcz45_3 : w42.cell? ⟨gb319, 3, none⟩ = some (.bool false) := (zbc BK319.out 3).trans rfl; have hcz45_4 : w42.cell? ⟨gb319, 4, none⟩ = some (.int .i64 0) := (zbc BK319.out 4).trans rfl; have hcz45_5 : w42.cell? ⟨gb319, 5, none⟩ = some (.int .u8 0) := (zbc BK319.out 5).trans rfl; have hcz45_6 : w42.cell? ⟨gb319, 6, none⟩ = some (.int .u8 0) := (zbc BK319.out 6).trans rfl; have hcz45_7 : w42.cell? ⟨gb319, 7, none⟩ = some (.int .u32 0) := (zbc BK319.out 7).trans rfl; have hcz45_8 : w42.cell? ⟨gb319, 8, none⟩ = some (.int .u32 0) := (zbc BK319.out 8).trans rfl; have hcz45_9 : w42.cell? ⟨gb319, 9, none⟩ = some (.slice none 0 0) := (zbc BK319.out 9).trans rfl; have hfz45_0 := zbf BK319.out 0; have hfz45_1 := zbf BK319.out 1; have hfz45_2 := zbf BK319.out 2; have hfz45_3 := zbf BK319.out 3; have hfz45_4 := zbf BK319.out 4; have hfz45_5 := zbf BK319.out 5; have hfz45_6 := zbf BK319.out 6; have hfz45_7 := zbf BK319.out 7; have hfz45_8 := zbf BK319.out 8; have hfz45_9 := zbf BK319.out 9))
         refine bodyPost_ret (results_list (rs := [.cell 4 41, .tmp 5, .tmp 6, .tmp 7]) rfl (by simp) (.cell gb319 41 #[.int .u8 0, .int .u16 0, .bool false, .bool false, .int .i64 0, .int .u8 0, .int .u8 0, .int .u32 0, .int .u32 0, .slice none 0 0] (0, 0) _ rfl zqxb8_0 Try.underlying41 rfl (by kernel_rfl) (.tmp (.tmp (.tmp .nil))))) rfl ?_
         exact ⟨_, by first | rfl | (simp [errW_none, errW_some] <;> rfl) | (simp [*, errW_none, errW_some] <;> rfl), by first | exact Kd.R_nil _ _ _ _ _ | exact Kd.N_nil _ _ _ _ _ | exact Kd.V_nil _ _ _ _ _ | exact Kd.Q_nil _ _ _ _ _ | exact Kd.S_nil _ _ _ _ _, by repeat (first | (with_reducible first | exact HB.out | apply below_alloc | apply pw_below_drewN | apply below_drew1 | refine below_set ?_ GE319.out) | exact HB.out)⟩
       ·
        replace c14 := Bool.eq_false_iff.mpr c14
        subst c14
        have H1 : (some (0, 0, false, false, 0, 0, 0, 0, 0, ([] : List Int), 0, 0, 34)) = some (r1, r2, r3, r4, r5, r6, r7, r8, r9, r10, r11, r12, r13) := by rw [if_neg (show ¬ (false = true) by decide)] at H; exact H
        clear H
        have H := H1
        clear H1
        simp only [Option.some.injEq, Prod.mk.injEq] at H
        obtain ⟨rfl, rfl, rfl, rfl, rfl, rfl, rfl, rfl, rfl, rfl, rfl, rfl, rfl⟩ := H
        go_enter Try.func65, Try.ntmps65
        go_wp2_with (first | ((with_reducible refine gate_dst (N := 4) rfl ?_); refine box_event ?hg (N := 4) ?hd (cs := #[.int .u8 0, .int .u16 0, .bool false, .bool false, .int .i64 0, .int .u8 0, .int .u8 0, .int .u32 0, .int .u32 0, .slice none 0 0]) (t := 41) ?hr ?_; (case hd => rfl); (case hg => rfl); (case hr => first | (go_simp; done) | (go_simp; rfl)); intro gb319 hg w46 hbox hb; have n0_ := zam (below_step zqxb8_7 hb); have n1_ := zam (hbox); have n2_ := zam ((by rw [hg]; exact (below_size zqxb8_7) : w.heap.size ≤ gb319)); have n3_ := zam ((by rw [hg]; exact (below_size zqxb8_7) : w.heap.size ≤ gb319)); clear HB; have HB := n0_; have BK319 := n1_; have GW319 := n2_; have GE319 := n3_; clear n0_ n1_ n2_ n3_; clear hb hbox hg) | ((with_reducible refine gate_callee (f := 76) rfl ?_); refine goesL_ (some 14) rfl rfl Try.func76 (by kernel_rfl) rfl #[.slice A0 l0.length c0, .bool a1] rfl zqxb8_6 ?_; (with_reducible refine (ip4_measure.calls _ _ l0 a1 t320 t321 t322 _ ?side1 ?side2 A3.out).mono ?_); (case side1 => repeat (first | exact (Kd.C_below HR0.out HB.out) | (with_reducible refine Kd.C_alloc ?_ _) | (with_reducible refine Kd.C_drewN ?_ _) | (with_reducible refine Kd.C_drew ?_))); (case side2 => exact HC0.out); rintro e w' ⟨rfl, ⟨nd, rfl⟩⟩; refine ⟨_, rfl, ?_⟩; (try (rw [drewN_self w46]; generalize hq_ : World.drewN w46 _ = w46; have n0_ : Aside0 (w46.heap[gb319]? = some (.cells #[.int .u8 0, .int .u16 0, .bool false, .bool false, .int .i64 0, .int .u8 0, .int .u8 0, .int .u32 0, .int .u32 0, .slice none 0 0] 41 (0, 0))) := ⟨by rw [← hq_]; exact zqxb8_4⟩; have n1_ : Aside0 (Below w.heap.size w w46) := ⟨by rw [← hq_]; exact zqxb8_5⟩; clear BK319 HB hq_; have BK319 := n0_; have HB := n1_; clear n0_ n1_)); obtain ⟨i047, hi047, _, hsz47, _⟩ := info_parts info5; obtain ⟨hcut47, hA47, hC47⟩ := print_take_of (P := Try.prog) (Value.int .u8) 0 24 5 .i64 Try.underlying24 hi047 hsz47 A0 c0 l0 t320 (zod zqxb8_8) (zod zqxb8_8) HC0.out; have HR323 := zam (Kd.C_of_reads (h1 := fun _ => rfl) (hA47 _ (Kd.reads_of_C HR0.out))); have HC323 := zam hC47; clear hA47 hC47 hi047 hsz47) | ((with_reducible refine gate_dst (N := 25) rfl ?_); refine lits_event (Kd.slice 5 (Kd.int .u8)) 24 ?hg (N := 25) ?hd (xs := ([l0.take (t320 : Int).toNat] : List (List Int))) (inner := [.slice A0 (l0.take (t320 : Int).toNat).length c0]) ?hr ?hp (by simp) ?_; (case hd => rfl); (case hg => rfl); (case hr => first | (go_simp; done) | (go_simp; rfl)); (case hp => exact (Reps.one (show Kd.K (Kd.slice 5 (Kd.int .u8)) _ (l0.take (t320 : Int).toNat) [.slice A0 (l0.take (t320 : Int).toNat).length c0] from by refine ⟨_, _, rfl, ?_, ?_⟩; (· exact HC323.out); (· repeat (first | exact (Kd.C_below HR323.out HB.out) | (with_reducible refine Kd.C_alloc ?_ _) | (with_reducible refine Kd.C_drewN ?_ _) | (with_reducible refine Kd.C_drew ?_)))) (Reps.none _ _))); intro v49_ w48 hL_ hb; (first | rw [← Ny324.out] at hL_ | (simp only [Int.reduceToNat] at hL_; rw [← Ny324.out] at hL_)); obtain ⟨A49, c49, rfl, hlr_, hlc_⟩ := hL_; have n0_ := zam (blk_below (g := gb319) (o := .cells #[.int .u8 0, .int .u16 0, .bool false, .bool false, .int .i64 0, .int .u8 0, .int .u8 0, .int .u32 0, .int .u32 0, .slice none 0 0] 41 (0, 0)) zqxb8_4 hb); have n1_ := zam (below_step zqxb8_5 hb); have n2_ := zam (hlc_); have n3_ := zam (hlr_); clear BK319; clear HB; have BK319 := n0_; have HB := n1_; have HR327 := n2_; have HC327 := n3_; clear n0_ n1_ n2_ n3_; clear hb hlr_ hlc_) | ((with_reducible refine gate_callee (f := 16) rfl ?_); refine goesL_ (some 26) rfl rfl Try.func16 (by kernel_rfl) rfl #[.slice A49 y324.length c49] rfl zqxb8_6 ?_; (with_reducible refine (ip4_Sum.calls k _ _ y324 t328 _ ?side1 ?side2 A7.out).mono ?_); (case side1 => repeat (first | exact zqxb8_9 | (with_reducible refine Kd.C_alloc ?_ _) | (with_reducible refine Kd.C_drewN ?_ _) | (with_reducible refine Kd.C_drew ?_))); (case side2 => exact HC327.out); rintro e w' ⟨rfl, ⟨nd, rfl⟩⟩; refine ⟨_, rfl, ?_⟩; (try (rw [drewN_self w48]; generalize hq_ : World.drewN w48 _ = w48; have n0_ : Aside0 (w48.heap[gb319]? = some (.cells #[.int .u8 0, .int .u16 0, .bool false, .bool false, .int .i64 0, .int .u8 0, .int .u8 0, .int .u32 0, .int .u32 0, .slice none 0 0] 41 (0, 0))) := ⟨by rw [← hq_]; exact zqxb8_4⟩; have n1_ : Aside0 (Below w.heap.size w w48) := ⟨by rw [← hq_]; exact zqxb8_5⟩; have n2_ : Aside0 (Kd.C (Kd.slice 5 (Kd.int .u8)) w48 A49 y324.length y324) := ⟨by rw [← hq_]; exact zqxb8_9⟩; clear BK319 HB HR327 hq_; have BK319 := n0_; have HB := n1_; have HR327 := n2_; clear n0_ n1_ n2_))) | ((with_reducible refine gate_callee (f := 77) rfl ?_); refine goesL_ (some 30) rfl rfl Try.func77 (by kernel_rfl) rfl #[.slice A0 l0.length c0, .int .i64 6] rfl zqxb8_6 ?_; (with_reducible refine (ip4_word.calls _ _ l0 6 t329 _ ?side1 ?side2 A9.out).mono ?_); (case side1 => repeat (first | exact (Kd.C_below HR0.out HB.out) | (with_reducible refine Kd.C_alloc ?_ _) | (with_reducible refine Kd.C_drewN ?_ _) | (with_reducible refine Kd.C_drew ?_))); (case side2 => exact HC0.out); rintro e w' ⟨rfl, ⟨nd, rfl⟩⟩; refine ⟨_, rfl, ?_⟩; (try (rw [drewN_self w48]; generalize hq_ : World.drewN w48 _ = w48; have n0_ : Aside0 (w48.heap[gb319]? = some (.cells #[.int .u8 0, .int .u16 0, .bool false, .bool false, .int .i64 0, .int .u8 0, .int .u8 0, .int .u32 0, .int .u32 0, .slice none 0 0] 41 (0, 0))) := ⟨by rw [← hq_]; exact zqxb8_4⟩; have n1_ : Aside0 (Below w.heap.size w w48) := ⟨by rw [← hq_]; exact zqxb8_5⟩; clear BK319 HB hq_; have BK319 := n0_; have HB := n1_; clear n0_ n1_)); obtain ⟨i050, hi050, _, hsz50, _⟩ := info_parts info5; obtain ⟨A50, hcut50, hA50, hC50⟩ := print_mid_of (P := Try.prog) (Value.int .u8) 0 24 5 .i64 .i64 Try.underlying24 hi050 hsz50 A0 c0 l0 20 t320 (by omega) zqxb8_12 (zod zqxb8_8) HC0.out; have HR330 := zam (Kd.C_of_reads (h1 := fun _ => rfl) (hA50 _ (Kd.reads_of_C HR0.out))); have HC330 := zam hC50; clear hA50 hC50 hi050 hsz50) | ((with_reducible refine gate_callee (f := 46) rfl ?_); refine goesL_ (some 38) rfl rfl Try.func46 (by kernel_rfl) rfl #[.slice A50 ((l0.take (t320 : Int).toNat).drop 20).length (c0 - 20)] rfl zqxb8_10 ?_; (with_reducible refine (ip4_optionsOK.calls k _ _ ((l0.take (t320 : Int).toNat).drop 20) false _ ?side1 ?side2 A13.out).mono ?_); (case side1 => repeat (first | exact (Kd.C_below HR330.out HB.out) | (with_reducible refine Kd.C_alloc ?_ _) | (with_reducible refine Kd.C_drewN ?_ _) | (with_reducible refine Kd.C_drew ?_))); (case side2 => exact HC330.out); rintro e w' ⟨rfl, ⟨nd, rfl⟩⟩; refine ⟨_, rfl, ?_⟩; (try (rw [drewN_self w48]; generalize hq_ : World.drewN w48 _ = w48; have n0_ : Aside0 (w48.heap[gb319]? = some (.cells #[.int .u8 0, .int .u16 0, .bool false, .bool false, .int .i64 0, .int .u8 0, .int .u8 0, .int .u32 0, .int .u32 0, .slice none 0 0] 41 (0, 0))) := ⟨by rw [← hq_]; exact zqxb8_4⟩; have n1_ : Aside0 (Below w.heap.size w w48) := ⟨by rw [← hq_]; exact zqxb8_5⟩; clear BK319 HB hq_; have BK319 := n0_; have HB := n1_; clear n0_ n1_)); have hcz51_0 : w48.cell? ⟨gb319, 0, none⟩ = some (.int .u8 0) := (zbc BK319.out 0).trans rfl; have hcz51_1 : w48.cell? ⟨gb319, 1, none⟩ = some (.int .u16 0) := (zbc BK319.out 1).trans rfl; have hcz51_2 : w48.cell? ⟨gb319, 2, none⟩ = some (.bool false) := (zbc BK319.out 2).trans rfl; have hcz51_3 : w48.cell? ⟨gb319, 3, none⟩ = some (.bool false) := (zbc BK319.out 3).trans rfl; have hcz51_4 : w48.cell? ⟨gb319, 4, none⟩ = some (.int .i64 0) := (zbc BK319.out 4).trans rfl; have hcz51_5 : w48.cell? ⟨gb319, 5, none⟩ = some (.int .u8 0) := (zbc BK319.out 5).trans rfl; have hcz51_6 : w48.cell? ⟨gb319, 6, none⟩ = some (.int .u8 0) := (zbc BK319.out 6).trans rfl; have hcz51_7 : w48.cell? ⟨gb319, 7, none⟩ = some (.int .u32 0) := (zbc BK319.out 7).trans rfl; have hcz51_8 : w48.cell? ⟨gb319, 8, none⟩ = some (.int .u32 0) := (zbc BK319.out 8).trans rfl; have hcz51_9 : w48.cell? ⟨gb319, 9, none⟩ = some (.slice none 0 0) := (zbc BK319.out 9).trans rfl; have hfz51_0 := zbf BK319.out 0; have hfz51_1 := zbf BK319.out 1; have hfz51_2 := zbf BK319.out 2; have hfz51_3 := zbf BK319.out 3; have hfz51_4 := zbf BK319.out 4; have hfz51_5 := zbf BK319.out 5; have hfz51_6 := zbf BK319.out 6; have hfz51_7 := zbf BK319.out 7; have hfz51_8 := zbf BK319.out 8; have hfz51_9 := zbf BK319.out 9))
        refine bodyPost_ret (results_list (rs := [.cell 4 41, .tmp 5, .tmp 6, .tmp 7]) rfl (by simp) (.cell gb319 41 #[.int .u8 0, .int .u16 0, .bool false, .bool false, .int .i64 0, .int .u8 0, .int .u8 0, .int .u32 0, .int .u32 0, .slice none 0 0] (0, 0) _ rfl zqxb8_0 Try.underlying41 rfl (by kernel_rfl) (.tmp (.tmp (.tmp .nil))))) rfl ?_
        exact ⟨_, by first | rfl | (simp [errW_none, errW_some] <;> rfl) | (simp [*, errW_none, errW_some] <;> rfl), by first | exact Kd.R_nil _ _ _ _ _ | exact Kd.N_nil _ _ _ _ _ | exact Kd.V_nil _ _ _ _ _ | exact Kd.Q_nil _ _ _ _ _ | exact Kd.S_nil _ _ _ _ _, by repeat (first | (with_reducible first | exact HB.out | apply below_alloc | apply pw_below_drewN | apply below_drew1 | refine below_set ?_ GE319.out) | exact HB.out)⟩
      ·
       rw [if_neg c11] at H
       exact absurd H (by simp)
     ·
      rw [if_neg c10] at H
      have c10b0 : ((Go.bits .and .u16 t329 32768) == 0) = false := beq_eq_false_iff_ne.mpr c10
      have c10b1 : ((Go.bits .and .u16 t329 32768) != 0) = true := bne_iff_ne.mpr c10
      simp only [Option.some.injEq, Prod.mk.injEq] at H
      obtain ⟨rfl, rfl, rfl, rfl, rfl, rfl, rfl, rfl, rfl, rfl, rfl, rfl, rfl⟩ := H
      go_enter Try.func65, Try.ntmps65
      go_wp2_with (first | ((with_reducible refine gate_dst (N := 4) rfl ?_); refine box_event ?hg (N := 4) ?hd (cs := #[.int .u8 0, .int .u16 0, .bool false, .bool false, .int .i64 0, .int .u8 0, .int .u8 0, .int .u32 0, .int .u32 0, .slice none 0 0]) (t := 41) ?hr ?_; (case hd => rfl); (case hg => rfl); (case hr => first | (go_simp; done) | (go_simp; rfl)); intro gb319 hg w52 hbox hb; have n0_ := zam (below_step zqxb8_7 hb); have n1_ := zam (hbox); have n2_ := zam ((by rw [hg]; exact (below_size zqxb8_7) : w.heap.size ≤ gb319)); have n3_ := zam ((by rw [hg]; exact (below_size zqxb8_7) : w.heap.size ≤ gb319)); clear HB; have HB := n0_; have BK319 := n1_; have GW319 := n2_; have GE319 := n3_; clear n0_ n1_ n2_ n3_; clear hb hbox hg) | ((with_reducible refine gate_callee (f := 76) rfl ?_); refine goesL_ (some 14) rfl rfl Try.func76 (by kernel_rfl) rfl #[.slice A0 l0.length c0, .bool a1] rfl zqxb8_6 ?_; (with_reducible refine (ip4_measure.calls _ _ l0 a1 t320 t321 t322 _ ?side1 ?side2 A3.out).mono ?_); (case side1 => repeat (first | exact (Kd.C_below HR0.out HB.out) | (with_reducible refine Kd.C_alloc ?_ _) | (with_reducible refine Kd.C_drewN ?_ _) | (with_reducible refine Kd.C_drew ?_))); (case side2 => exact HC0.out); rintro e w' ⟨rfl, ⟨nd, rfl⟩⟩; refine ⟨_, rfl, ?_⟩; (try (rw [drewN_self w52]; generalize hq_ : World.drewN w52 _ = w52; have n0_ : Aside0 (w52.heap[gb319]? = some (.cells #[.int .u8 0, .int .u16 0, .bool false, .bool false, .int .i64 0, .int .u8 0, .int .u8 0, .int .u32 0, .int .u32 0, .slice none 0 0] 41 (0, 0))) := ⟨by rw [← hq_]; exact zqxb8_4⟩; have n1_ : Aside0 (Below w.heap.size w w52) := ⟨by rw [← hq_]; exact zqxb8_5⟩; clear BK319 HB hq_; have BK319 := n0_; have HB := n1_; clear n0_ n1_)); obtain ⟨i053, hi053, _, hsz53, _⟩ := info_parts info5; obtain ⟨hcut53, hA53, hC53⟩ := print_take_of (P := Try.prog) (Value.int .u8) 0 24 5 .i64 Try.underlying24 hi053 hsz53 A0 c0 l0 t320 (zod zqxb8_8) (zod zqxb8_8) HC0.out; have HR323 := zam (Kd.C_of_reads (h1 := fun _ => rfl) (hA53 _ (Kd.reads_of_C HR0.out))); have HC323 := zam hC53; clear hA53 hC53 hi053 hsz53) | ((with_reducible refine gate_dst (N := 25) rfl ?_); refine lits_event (Kd.slice 5 (Kd.int .u8)) 24 ?hg (N := 25) ?hd (xs := ([l0.take (t320 : Int).toNat] : List (List Int))) (inner := [.slice A0 (l0.take (t320 : Int).toNat).length c0]) ?hr ?hp (by simp) ?_; (case hd => rfl); (case hg => rfl); (case hr => first | (go_simp; done) | (go_simp; rfl)); (case hp => exact (Reps.one (show Kd.K (Kd.slice 5 (Kd.int .u8)) _ (l0.take (t320 : Int).toNat) [.slice A0 (l0.take (t320 : Int).toNat).length c0] from by refine ⟨_, _, rfl, ?_, ?_⟩; (· exact HC323.out); (· repeat (first | exact (Kd.C_below HR323.out HB.out) | (with_reducible refine Kd.C_alloc ?_ _) | (with_reducible refine Kd.C_drewN ?_ _) | (with_reducible refine Kd.C_drew ?_)))) (Reps.none _ _))); intro v55_ w54 hL_ hb; (first | rw [← Ny324.out] at hL_ | (simp only [Int.reduceToNat] at hL_; rw [← Ny324.out] at hL_)); obtain ⟨A55, c55, rfl, hlr_, hlc_⟩ := hL_; have n0_ := zam (blk_below (g := gb319) (o := .cells #[.int .u8 0, .int .u16 0, .bool false, .bool false, .int .i64 0, .int .u8 0, .int .u8 0, .int .u32 0, .int .u32 0, .slice none 0 0] 41 (0, 0)) zqxb8_4 hb); have n1_ := zam (below_step zqxb8_5 hb); have n2_ := zam (hlc_); have n3_ := zam (hlr_); clear BK319; clear HB; have BK319 := n0_; have HB := n1_; have HR327 := n2_; have HC327 := n3_; clear n0_ n1_ n2_ n3_; clear hb hlr_ hlc_) | ((with_reducible refine gate_callee (f := 16) rfl ?_); refine goesL_ (some 26) rfl rfl Try.func16 (by kernel_rfl) rfl #[.slice A55 y324.length c55] rfl zqxb8_6 ?_; (with_reducible refine (ip4_Sum.calls k _ _ y324 t328 _ ?side1 ?side2 A7.out).mono ?_); (case side1 => repeat (first | exact zqxb8_9 | (with_reducible refine Kd.C_alloc ?_ _) | (with_reducible refine Kd.C_drewN ?_ _) | (with_reducible refine Kd.C_drew ?_))); (case side2 => exact HC327.out); rintro e w' ⟨rfl, ⟨nd, rfl⟩⟩; refine ⟨_, rfl, ?_⟩; (try (rw [drewN_self w54]; generalize hq_ : World.drewN w54 _ = w54; have n0_ : Aside0 (w54.heap[gb319]? = some (.cells #[.int .u8 0, .int .u16 0, .bool false, .bool false, .int .i64 0, .int .u8 0, .int .u8 0, .int .u32 0, .int .u32 0, .slice none 0 0] 41 (0, 0))) := ⟨by rw [← hq_]; exact zqxb8_4⟩; have n1_ : Aside0 (Below w.heap.size w w54) := ⟨by rw [← hq_]; exact zqxb8_5⟩; have n2_ : Aside0 (Kd.C (Kd.slice 5 (Kd.int .u8)) w54 A55 y324.length y324) := ⟨by rw [← hq_]; exact zqxb8_9⟩; clear BK319 HB HR327 hq_; have BK319 := n0_; have HB := n1_; have HR327 := n2_; clear n0_ n1_ n2_))) | ((with_reducible refine gate_callee (f := 77) rfl ?_); refine goesL_ (some 30) rfl rfl Try.func77 (by kernel_rfl) rfl #[.slice A0 l0.length c0, .int .i64 6] rfl zqxb8_6 ?_; (with_reducible refine (ip4_word.calls _ _ l0 6 t329 _ ?side1 ?side2 A9.out).mono ?_); (case side1 => repeat (first | exact (Kd.C_below HR0.out HB.out) | (with_reducible refine Kd.C_alloc ?_ _) | (with_reducible refine Kd.C_drewN ?_ _) | (with_reducible refine Kd.C_drew ?_))); (case side2 => exact HC0.out); rintro e w' ⟨rfl, ⟨nd, rfl⟩⟩; refine ⟨_, rfl, ?_⟩; (try (rw [drewN_self w54]; generalize hq_ : World.drewN w54 _ = w54; have n0_ : Aside0 (w54.heap[gb319]? = some (.cells #[.int .u8 0, .int .u16 0, .bool false, .bool false, .int .i64 0, .int .u8 0, .int .u8 0, .int .u32 0, .int .u32 0, .slice none 0 0] 41 (0, 0))) := ⟨by rw [← hq_]; exact zqxb8_4⟩; have n1_ : Aside0 (Below w.heap.size w w54) := ⟨by rw [← hq_]; exact zqxb8_5⟩; clear BK319 HB hq_; have BK319 := n0_; have HB := n1_; clear n0_ n1_)); have hcz56_0 : w54.cell? ⟨gb319, 0, none⟩ = some (.int .u8 0) := (zbc BK319.out 0).trans rfl; have hcz56_1 : w54.cell? ⟨gb319, 1, none⟩ = some (.int .u16 0) := (zbc BK319.out 1).trans rfl; have hcz56_2 : w54.cell? ⟨gb319, 2, none⟩ = some (.bool false) := (zbc BK319.out 2).trans rfl; have hcz56_3 : w54.cell? ⟨gb319, 3, none⟩ = some (.bool false) := (zbc BK319.out 3).trans rfl; have hcz56_4 : w54.cell? ⟨gb319, 4, none⟩ = some (.int .i64 0) := (zbc BK319.out 4).trans rfl; have hcz56_5 : w54.cell? ⟨gb319, 5, none⟩ = some (.int .u8 0) := (zbc BK319.out 5).trans rfl; have hcz56_6 : w54.cell? ⟨gb319, 6, none⟩ = some (.int .u8 0) := (zbc BK319.out 6).trans rfl; have hcz56_7 : w54.cell? ⟨gb319, 7, none⟩ = some (.int .u32 0) := (zbc BK319.out 7).trans rfl; have hcz56_8 : w54.cell? ⟨gb319, 8, none⟩ = some (.int .u32 0) := (zbc BK319.out 8).trans rfl; have hcz56_9 : w54.cell? ⟨gb319, 9, none⟩ = some (.slice none 0 0) := (zbc BK319.out 9).trans rfl; have hfz56_0 := zbf BK319.out 0; have hfz56_1 := zbf BK319.out 1; have hfz56_2 := zbf BK319.out 2; have hfz56_3 := zbf BK319.out 3; have hfz56_4 := zbf BK319.out 4; have hfz56_5 := zbf BK319.out 5; have hfz56_6 := zbf BK319.out 6; have hfz56_7 := zbf BK319.out 7; have hfz56_8 := zbf BK319.out 8; have hfz56_9 := zbf BK319.out 9))
      refine bodyPost_ret (results_list (rs := [.cell 4 41, .tmp 5, .tmp 6, .tmp 7]) rfl (by simp) (.cell gb319 41 #[.int .u8 0, .int .u16 0, .bool false, .bool false, .int .i64 0, .int .u8 0, .int .u8 0, .int .u32 0, .int .u32 0, .slice none 0 0] (0, 0) _ rfl zqxb8_0 Try.underlying41 rfl (by kernel_rfl) (.tmp (.tmp (.tmp .nil))))) rfl ?_
      exact ⟨_, by first | rfl | (simp [errW_none, errW_some] <;> rfl) | (simp [*, errW_none, errW_some] <;> rfl), by first | exact Kd.R_nil _ _ _ _ _ | exact Kd.N_nil _ _ _ _ _ | exact Kd.V_nil _ _ _ _ _ | exact Kd.Q_nil _ _ _ _ _ | exact Kd.S_nil _ _ _ _ _, by repeat (first | (with_reducible first | exact HB.out | apply below_alloc | apply pw_below_drewN | apply below_drew1 | refine below_set ?_ GE319.out) | exact HB.out)⟩
    ·
     rw [if_neg c8] at H
     have c8b0 : (t328 == 0) = false := beq_eq_false_iff_ne.mpr c8
     have c8b1 : (t328 != 0) = true := bne_iff_ne.mpr c8
     simp only [Option.some.injEq, Prod.mk.injEq] at H
     obtain ⟨rfl, rfl, rfl, rfl, rfl, rfl, rfl, rfl, rfl, rfl, rfl, rfl, rfl⟩ := H
     go_enter Try.func65, Try.ntmps65
     go_wp2_with (first | ((with_reducible refine gate_dst (N := 4) rfl ?_); refine box_event ?hg (N := 4) ?hd (cs := #[.int .u8 0, .int .u16 0, .bool false, .bool false, .int .i64 0, .int .u8 0, .int .u8 0, .int .u32 0, .int .u32 0, .slice none 0 0]) (t := 41) ?hr ?_; (case hd => rfl); (case hg => rfl); (case hr => first | (go_simp; done) | (go_simp; rfl)); intro gb319 hg w57 hbox hb; have n0_ := zam (below_step zqxb8_7 hb); have n1_ := zam (hbox); have n2_ := zam ((by rw [hg]; exact (below_size zqxb8_7) : w.heap.size ≤ gb319)); have n3_ := zam ((by rw [hg]; exact (below_size zqxb8_7) : w.heap.size ≤ gb319)); clear HB; have HB := n0_; have BK319 := n1_; have GW319 := n2_; have GE319 := n3_; clear n0_ n1_ n2_ n3_; clear hb hbox hg) | ((with_reducible refine gate_callee (f := 76) rfl ?_); refine goesL_ (some 14) rfl rfl Try.func76 (by kernel_rfl) rfl #[.slice A0 l0.length c0, .bool a1] rfl zqxb8_6 ?_; (with_reducible refine (ip4_measure.calls _ _ l0 a1 t320 t321 t322 _ ?side1 ?side2 A3.out).mono ?_); (case side1 => repeat (first | exact (Kd.C_below HR0.out HB.out) | (with_reducible refine Kd.C_alloc ?_ _) | (with_reducible refine Kd.C_drewN ?_ _) | (with_reducible refine Kd.C_drew ?_))); (case side2 => exact HC0.out); rintro e w' ⟨rfl, ⟨nd, rfl⟩⟩; refine ⟨_, rfl, ?_⟩; (try (rw [drewN_self w57]; generalize hq_ : World.drewN w57 _ = w57; have n0_ : Aside0 (w57.heap[gb319]? = some (.cells #[.int .u8 0, .int .u16 0, .bool false, .bool false, .int .i64 0, .int .u8 0, .int .u8 0, .int .u32 0, .int .u32 0, .slice none 0 0] 41 (0, 0))) := ⟨by rw [← hq_]; exact zqxb8_4⟩; have n1_ : Aside0 (Below w.heap.size w w57) := ⟨by rw [← hq_]; exact zqxb8_5⟩; clear BK319 HB hq_; have BK319 := n0_; have HB := n1_; clear n0_ n1_)); obtain ⟨i058, hi058, _, hsz58, _⟩ := info_parts info5; obtain ⟨hcut58, hA58, hC58⟩ := print_take_of (P := Try.prog) (Value.int .u8) 0 24 5 .i64 Try.underlying24 hi058 hsz58 A0 c0 l0 t320 (zod zqxb8_8) (zod zqxb8_8) HC0.out; have HR323 := zam (Kd.C_of_reads (h1 := fun _ => rfl) (hA58 _ (Kd.reads_of_C HR0.out))); have HC323 := zam hC58; clear hA58 hC58 hi058 hsz58) | ((with_reducible refine gate_dst (N := 25) rfl ?_); refine lits_event (Kd.slice 5 (Kd.int .u8)) 24 ?hg (N := 25) ?hd (xs := ([l0.take (t320 : Int).toNat] : List (List Int))) (inner := [.slice A0 (l0.take (t320 : Int).toNat).length c0]) ?hr ?hp (by simp) ?_; (case hd => rfl); (case hg => rfl); (case hr => first | (go_simp; done) | (go_simp; rfl)); (case hp => exact (Reps.one (show Kd.K (Kd.slice 5 (Kd.int .u8)) _ (l0.take (t320 : Int).toNat) [.slice A0 (l0.take (t320 : Int).toNat).length c0] from by refine ⟨_, _, rfl, ?_, ?_⟩; (· exact HC323.out); (· repeat (first | exact (Kd.C_below HR323.out HB.out) | (with_reducible refine Kd.C_alloc ?_ _) | (with_reducible refine Kd.C_drewN ?_ _) | (with_reducible refine Kd.C_drew ?_)))) (Reps.none _ _))); intro v60_ w59 hL_ hb; (first | rw [← Ny324.out] at hL_ | (simp only [Int.reduceToNat] at hL_; rw [← Ny324.out] at hL_)); obtain ⟨A60, c60, rfl, hlr_, hlc_⟩ := hL_; have n0_ := zam (blk_below (g := gb319) (o := .cells #[.int .u8 0, .int .u16 0, .bool false, .bool false, .int .i64 0, .int .u8 0, .int .u8 0, .int .u32 0, .int .u32 0, .slice none 0 0] 41 (0, 0)) zqxb8_4 hb); have n1_ := zam (below_step zqxb8_5 hb); have n2_ := zam (hlc_); have n3_ := zam (hlr_); clear BK319; clear HB; have BK319 := n0_; have HB := n1_; have HR327 := n2_; have HC327 := n3_; clear n0_ n1_ n2_ n3_; clear hb hlr_ hlc_) | ((with_reducible refine gate_callee (f := 16) rfl ?_); refine goesL_ (some 26) rfl rfl Try.func16 (by kernel_rfl) rfl #[.slice A60 y324.length c60] rfl zqxb8_6 ?_; (with_reducible refine (ip4_Sum.calls k _ _ y324 t328 _ ?side1 ?side2 A7.out).mono ?_); (case side1 => repeat (first | exact zqxb8_9 | (with_reducible refine Kd.C_alloc ?_ _) | (with_reducible refine Kd.C_drewN ?_ _) | (with_reducible refine Kd.C_drew ?_))); (case side2 => exact HC327.out); rintro e w' ⟨rfl, ⟨nd, rfl⟩⟩; refine ⟨_, rfl, ?_⟩; (try (rw [drewN_self w59]; generalize hq_ : World.drewN w59 _ = w59; have n0_ : Aside0 (w59.heap[gb319]? = some (.cells #[.int .u8 0, .int .u16 0, .bool false, .bool false, .int .i64 0, .int .u8 0, .int .u8 0, .int .u32 0, .int .u32 0, .slice none 0 0] 41 (0, 0))) := ⟨by rw [← hq_]; exact zqxb8_4⟩; have n1_ : Aside0 (Below w.heap.size w w59) := ⟨by rw [← hq_]; exact zqxb8_5⟩; have n2_ : Aside0 (Kd.C (Kd.slice 5 (Kd.int .u8)) w59 A60 y324.length y324) := ⟨by rw [← hq_]; exact zqxb8_9⟩; clear BK319 HB HR327 hq_; have BK319 := n0_; have HB := n1_; have HR327 := n2_; clear n0_ n1_ n2_)); have hcz61_0 : w59.cell? ⟨gb319, 0, none⟩ = some (.int .u8 0) := (zbc BK319.out 0).trans rfl; have hcz61_1 : w59.cell? ⟨gb319, 1, none⟩ = some (.int .u16 0) := (zbc BK319.out 1).trans rfl; have hcz61_2 : w59.cell? ⟨gb319, 2, none⟩ = some (.bool false) := (zbc BK319.out 2).trans rfl; have hcz61_3 : w59.cell? ⟨gb319, 3, none⟩ = some (.bool false) := (zbc BK319.out 3).trans rfl; have hcz61_4 : w59.cell? ⟨gb319, 4, none⟩ = some (.int .i64 0) := (zbc BK319.out 4).trans rfl; have hcz61_5 : w59.cell? ⟨gb319, 5, none⟩ = some (.int .u8 0) := (zbc BK319.out 5).trans rfl; have hcz61_6 : w59.cell? ⟨gb319, 6, none⟩ = some (.int .u8 0) := (zbc BK319.out 6).trans rfl; have hcz61_7 : w59.cell? ⟨gb319, 7, none⟩ = some (.int .u32 0) := (zbc BK319.out 7).trans rfl; have hcz61_8 : w59.cell? ⟨gb319, 8, none⟩ = some (.int .u32 0) := (zbc BK319.out 8).trans rfl; have hcz61_9 : w59.cell? ⟨gb319, 9, none⟩ = some (.slice none 0 0) := (zbc BK319.out 9).trans rfl; have hfz61_0 := zbf BK319.out 0; have hfz61_1 := zbf BK319.out 1; have hfz61_2 := zbf BK319.out 2; have hfz61_3 := zbf BK319.out 3; have hfz61_4 := zbf BK319.out 4; have hfz61_5 := zbf BK319.out 5; have hfz61_6 := zbf BK319.out 6; have hfz61_7 := zbf BK319.out 7; have hfz61_8 := zbf BK319.out 8; have hfz61_9 := zbf BK319.out 9))
     refine bodyPost_ret (results_list (rs := [.cell 4 41, .tmp 5, .tmp 6, .tmp 7]) rfl (by simp) (.cell gb319 41 #[.int .u8 0, .int .u16 0, .bool false, .bool false, .int .i64 0, .int .u8 0, .int .u8 0, .int .u32 0, .int .u32 0, .slice none 0 0] (0, 0) _ rfl zqxb8_0 Try.underlying41 rfl (by kernel_rfl) (.tmp (.tmp (.tmp .nil))))) rfl ?_
     exact ⟨_, by first | rfl | (simp [errW_none, errW_some] <;> rfl) | (simp [*, errW_none, errW_some] <;> rfl), by first | exact Kd.R_nil _ _ _ _ _ | exact Kd.N_nil _ _ _ _ _ | exact Kd.V_nil _ _ _ _ _ | exact Kd.Q_nil _ _ _ _ _ | exact Kd.S_nil _ _ _ _ _, by repeat (first | (with_reducible first | exact HB.out | apply below_alloc | apply pw_below_drewN | apply below_drew1 | refine below_set ?_ GE319.out) | exact HB.out)⟩
   ·
    rw [if_neg c6] at H
    exact absurd H (by simp)
  ·
   rw [if_neg c5] at H
   exact absurd H (by simp)
 ·
  rw [if_neg c4] at H
  have c4b0 : (t322 == 0) = false := beq_eq_false_iff_ne.mpr c4
  have c4b1 : (t322 != 0) = true := bne_iff_ne.mpr c4
  simp only [Option.some.injEq, Prod.mk.injEq] at H
  obtain ⟨rfl, rfl, rfl, rfl, rfl, rfl, rfl, rfl, rfl, rfl, rfl, rfl, rfl⟩ := H
  go_enter Try.func65, Try.ntmps65
  go_wp2_with (first | ((with_reducible refine gate_dst (N := 4) rfl ?_); refine box_event ?hg (N := 4) ?hd (cs := #[.int .u8 0, .int .u16 0, .bool false, .bool false, .int .i64 0, .int .u8 0, .int .u8 0, .int .u32 0, .int .u32 0, .slice none 0 0]) (t := 41) ?hr ?_; (case hd => rfl); (case hg => rfl); (case hr => first | (go_simp; done) | (go_simp; rfl)); intro gb319 hg w62 hbox hb; have n0_ := zam (below_step zqxb8_7 hb); have n1_ := zam (hbox); have n2_ := zam ((by rw [hg]; exact (below_size zqxb8_7) : w.heap.size ≤ gb319)); have n3_ := zam ((by rw [hg]; exact (below_size zqxb8_7) : w.heap.size ≤ gb319)); clear HB; have HB := n0_; have BK319 := n1_; have GW319 := n2_; have GE319 := n3_; clear n0_ n1_ n2_ n3_; clear hb hbox hg) | ((with_reducible refine gate_callee (f := 76) rfl ?_); refine goesL_ (some 14) rfl rfl Try.func76 (by kernel_rfl) rfl #[.slice A0 l0.length c0, .bool a1] rfl zqxb8_6 ?_; (with_reducible refine (ip4_measure.calls _ _ l0 a1 t320 t321 t322 _ ?side1 ?side2 A3.out).mono ?_); (case side1 => repeat (first | exact (Kd.C_below HR0.out HB.out) | (with_reducible refine Kd.C_alloc ?_ _) | (with_reducible refine Kd.C_drewN ?_ _) | (with_reducible refine Kd.C_drew ?_))); (case side2 => exact HC0.out); rintro e w' ⟨rfl, ⟨nd, rfl⟩⟩; refine ⟨_, rfl, ?_⟩; (try (rw [drewN_self w62]; generalize hq_ : World.drewN w62 _ = w62; have n0_ : Aside0 (w62.heap[gb319]? = some (.cells #[.int .u8 0, .int .u16 0, .bool false, .bool false, .int .i64 0, .int .u8 0, .int .u8 0, .int .u32 0, .int .u32 0, .slice none 0 0] 41 (0, 0))) := ⟨by rw [← hq_]; exact zqxb8_4⟩; have n1_ : Aside0 (Below w.heap.size w w62) := ⟨by rw [← hq_]; exact zqxb8_5⟩; clear BK319 HB hq_; have BK319 := n0_; have HB := n1_; clear n0_ n1_)); have hcz63_0 : w62.cell? ⟨gb319, 0, none⟩ = some (.int .u8 0) := (zbc BK319.out 0).trans rfl; have hcz63_1 : w62.cell? ⟨gb319, 1, none⟩ = some (.int .u16 0) := (zbc BK319.out 1).trans rfl; have hcz63_2 : w62.cell? ⟨gb319, 2, none⟩ = some (.bool false) := (zbc BK319.out 2).trans rfl; have hcz63_3 : w62.cell? ⟨gb319, 3, none⟩ = some (.bool false) := (zbc BK319.out 3).trans rfl; have hcz63_4 : w62.cell? ⟨gb319, 4, none⟩ = some (.int .i64 0) := (zbc BK319.out 4).trans rfl; have hcz63_5 : w62.cell? ⟨gb319, 5, none⟩ = some (.int .u8 0) := (zbc BK319.out 5).trans rfl; have hcz63_6 : w62.cell? ⟨gb319, 6, none⟩ = some (.int .u8 0) := (zbc BK319.out 6).trans rfl; have hcz63_7 : w62.cell? ⟨gb319, 7, none⟩ = some (.int .u32 0) := (zbc BK319.out 7).trans rfl; have hcz63_8 : w62.cell? ⟨gb319, 8, none⟩ = some (.int .u32 0) := (zbc BK319.out 8).trans rfl; have hcz63_9 : w62.cell? ⟨gb319, 9, none⟩ = some (.slice none 0 0) := (zbc BK319.out 9).trans rfl; have hfz63_0 := zbf BK319.out 0; have hfz63_1 := zbf BK319.out 1; have hfz63_2 := zbf BK319.out 2; have hfz63_3 := zbf BK319.out 3; have hfz63_4 := zbf BK319.out 4; have hfz63_5 := zbf BK319.out 5; have hfz63_6 := zbf BK319.out 6; have hfz63_7 := zbf BK319.out 7; have hfz63_8 := zbf BK319.out 8; have hfz63_9 := zbf BK319.out 9))
  refine bodyPost_ret (results_list (rs := [.cell 4 41, .tmp 5, .tmp 6, .tmp 7]) rfl (by simp) (.cell gb319 41 #[.int .u8 0, .int .u16 0, .bool false, .bool false, .int .i64 0, .int .u8 0, .int .u8 0, .int .u32 0, .int .u32 0, .slice none 0 0] (0, 0) _ rfl zqxb8_0 Try.underlying41 rfl (by kernel_rfl) (.tmp (.tmp (.tmp .nil))))) rfl ?_
  exact ⟨_, by first | rfl | (simp [errW_none, errW_some] <;> rfl) | (simp [*, errW_none, errW_some] <;> rfl), by first | exact Kd.R_nil _ _ _ _ _ | exact Kd.N_nil _ _ _ _ _ | exact Kd.V_nil _ _ _ _ _ | exact Kd.Q_nil _ _ _ _ _ | exact Kd.S_nil _ _ _ _ _, by repeat (first | (with_reducible first | exact HB.out | apply below_alloc | apply pw_below_drewN | apply below_drew1 | refine below_set ?_ GE319.out) | exact HB.out)⟩

/-! ### ip4_apart: function 66 -/
def ip4_apart.f (l0 : List Int) (l1 : List Int) : Option (List Int × List Int) := if (l0.length : Int) = 0 then (if ([] : List Int).length + l1.length < 140737488355328 then (some (([] : List Int), (([] : List Int) ++ l1))) else (none)) else (if 0 ≤ (wrap64 ((l0.length : Int) + (l1.length : Int))) then (if (wrap64 ((l0.length : Int) + (l1.length : Int)) : Int).toNat ≤ 281474976710656 then ((some (List.replicate (wrap64 ((l0.length : Int) + (l1.length : Int)) : Int).toNat 0 : List Int)).bind fun y342 => (if 0 ≤ (l0.length : Int) then (if (l0.length : Int) ≤ (y342.length : Int) then ((some (cpy (cpy y342 0 l0) (((l0.length : Int) : Int).toNat) l1 : List Int)).bind fun y351 => (some ((y351.take ((l0.length : Int) : Int).toNat), ((y351.take ((y342.length : Int) : Int).toNat).drop ((l0.length : Int) : Int).toNat)))) else (none)) else (none))) else (none)) else (none))
set_option maxHeartbeats 8000000 in
set_option maxRecDepth 100000 in
theorem ip4_apart.calls (A0 : Option Addr) (c0 : Nat) (l0 : List Int) (A1 : Option Addr) (c1 : Nat) (l1 : List Int) (r1 : List Int) (r2 : List Int) (w : World) (hr0 : Kd.C (Kd.int .u8) w A0 l0.length l0) (hc0 : l0.length ≤ c0) (hr1 : Kd.C (Kd.int .u8) w A1 l1.length l1) (hc1 : l1.length ≤ c1) (h : ip4_apart.f l0 l1 = some (r1, r2)) :
  Calls Try.prog 66 #[.slice A0 l0.length c0, .slice A1 l1.length c1] w fun e w' => ∃ v0_ v1_ : Value, e = .returned (.tuple #[v0_, v1_]) ∧ Kd.V (Kd.int .u8) 5 w' w.heap.size (fun k_ => (w.heap.size ≤ k_)) v0_ r1 ∧ Kd.V (Kd.int .u8) 5 w' w.heap.size (fun k_ => (w.heap.size ≤ k_)) v1_ r2 ∧ Below w.heap.size w w' := by
 have HR0 := zam hr0
 have HC0 := zam hc0
 clear hr0 hc0
 have HR1 := zam hr1
 have HC1 := zam hc1
 clear hr1 hc1
 have HB := zam (Below.refl w.heap.size w)
 have H : (if (l0.length : Int) = 0 then (if ([] : List Int).length + l1.length < 140737488355328 then (some (([] : List Int), (([] : List Int) ++ l1))) else (none)) else (if 0 ≤ (wrap64 ((l0.length : Int) + (l1.length : Int))) then (if (wrap64 ((l0.length : Int) + (l1.length : Int)) : Int).toNat ≤ 281474976710656 then ((some (List.replicate (wrap64 ((l0.length : Int) + (l1.length : Int)) : Int).toNat 0 : List Int)).bind fun y342 => (if 0 ≤ (l0.length : Int) then (if (l0.length : Int) ≤ (y342.length : Int) then ((some (cpy (cpy y342 0 l0) (((l0.length : Int) : Int).toNat) l1 : List Int)).bind fun y351 => (some ((y351.take ((l0.length : Int) : Int).toNat), ((y351.take ((y342.length : Int) : Int).toNat).drop ((l0.length : Int) : Int).toNat)))) else (none)) else (none))) else (none)) else (none))) = some (r1, r2) := h
 clear h
 by_cases c3 : (l0.length : Int) = 0
 ·
  rw [if_pos c3] at H
  have c3b0 : ((l0.length : Int) == 0) = true := beq_iff_eq.mpr c3
  have c3b1 : ((l0.length : Int) != 0) = false := bne_eq_false_iff_eq.mpr c3
  clear c3
  by_cases c4 : ([] : List Int).length + l1.length < 140737488355328
  ·
   rw [if_pos c4] at H
   have LMc4 := zam c4
   clear c4
   obtain ⟨y339, hy339⟩ : ∃ y_ : List Int, y_ = (([] : List Int) ++ l1) := ⟨_, rfl⟩
   replace H : (some (([] : List Int), y339)) = some (r1, r2) := by first | (rw [hy339]; with_reducible exact H) | (have H2_ := (Option.bind_some _ _).symm.trans H; rw [hy339]; with_reducible exact H2_) | (have H2_ := (Option.bind_some _ _).symm.trans H; with_reducible exact H2_) | with_reducible exact H | (rw [hy339]; exact H) | exact H
   have Ny339 := zam hy339
   clear hy339
   simp only [Option.some.injEq, Prod.mk.injEq] at H
   obtain ⟨rfl, rfl⟩ := H
   go_enter Try.func66, Try.ntmps66
   iterate 8 (go_wp2_with (first | ((with_reducible refine gate_builtin (b := .append) (xs := #[.const (.slice none 0 0), .tmp 10]) rfl ?_); at_builtin; refine Kd.R_append_rows (Kd.int .u8) (w0 := w) w.heap.size rfl (.const (.slice none 0 0)) (.tmp 10) 24 5 (.int .u8 0) 1 rfl Try.underlying24 info5 rfl (by decide) (by omega) (.slice none 0 0) ([] : List Int) l1 _ _ _ (fun k_ => (w.heap.size ≤ k_)) (fun _ => False) rfl rfl ?aO ?aR (fun _ _ h => h) (fun _ h => h.elim) ?aF ?aB ?aS ?aL ?_; (case aR => repeat (first | exact HR1.out | (with_reducible refine Kd.C_alloc ?_ _) | (with_reducible refine Kd.C_drewN ?_ _) | (with_reducible refine Kd.C_drew ?_))); (case aB => exact zqxb8_7); (case aF => exact (fun k_ hk => (Nat.le_trans (below_size zqxb8_7) hk))); (case aO => exact ((Kd.R_nil _ _ _ _ (fun k_ => (w.heap.size ≤ k_))))); (case aS => exact (below_size zqxb8_7)); (case aL => have := LMc4.out; omega); intro v340 w5 ho hb hg hat; rw [← Ny339.out] at ho; have n0_ := zam (hb); have n1_ := zam (ho); clear HB; have HB := n0_; have HO341 := n1_; clear n0_ n1_; clear ho hb hg hat)); (try go_quiet (fail)))
   go_ret2
   exact ⟨_, _, by first | rfl | (simp [errW_none, errW_some] <;> rfl) | (simp [*, errW_none, errW_some] <;> rfl), Kd.R_V (base := 0) (by first | exact Kd.R_nil _ _ _ _ _ | exact Kd.N_nil _ _ _ _ _ | exact Kd.V_nil _ _ _ _ _ | exact Kd.Q_nil _ _ _ _ _ | exact Kd.S_nil _ _ _ _ _), Kd.R_V (by (with_reducible repeat (first | apply Kd.R_alloc | apply Kd.R_drewN | apply Kd.R_drew)); exact HO341.out), by repeat (first | (with_reducible first | exact HB.out | apply below_alloc | apply pw_below_drewN | apply below_drew1) | exact HB.out)⟩
  ·
   rw [if_neg c4] at H
   exact absurd H (by simp)
 ·
  rw [if_neg c3] at H
  have c3b0 : ((l0.length : Int) == 0) = false := beq_eq_false_iff_ne.mpr c3
  have c3b1 : ((l0.length : Int) != 0) = true := bne_iff_ne.mpr c3
  have c3b2 : ¬ (l0 = []) := fun h_ => c3 (by rw [h_]; rfl)
  obtain ⟨ji6, hji6⟩ : ∃ j_ : Int, (wrap64 ((l0.length : Int) + (l1.length : Int))) = j_ := ⟨_, rfl⟩
  replace H : (if 0 ≤ (ji6) then (if (ji6 : Int).toNat ≤ 281474976710656 then ((some (List.replicate (ji6 : Int).toNat 0 : List Int)).bind fun y342 => (if 0 ≤ (l0.length : Int) then (if (l0.length : Int) ≤ (y342.length : Int) then ((some (cpy (cpy y342 0 l0) (((l0.length : Int) : Int).toNat) l1 : List Int)).bind fun y351 => (some ((y351.take ((l0.length : Int) : Int).toNat), ((y351.take ((y342.length : Int) : Int).toNat).drop ((l0.length : Int) : Int).toNat)))) else (none)) else (none))) else (none)) else (none)) = some (r1, r2) := by first | (rw [hji6] at H; exact H) | (simp only [hji6] at H ⊢; exact H)
  have hji6w : (IntKind.i64.wrap ((l0.length : Int) + (l1.length : Int))) = ji6 := (i64_w _).trans hji6
  by_cases c7 : 0 ≤ (ji6)
  ·
   rw [if_pos c7] at H
   have c7b0 := eq_true c7
   have c7b1 : decide (0 ≤ (ji6)) = true := decide_eq_true c7
   clear c7
   by_cases c8 : (ji6 : Int).toNat ≤ 281474976710656
   ·
    rw [if_pos c8] at H
    have c8b0 := eq_true c8
    have c8b1 : decide ((ji6 : Int).toNat ≤ 281474976710656) = true := decide_eq_true c8
    clear c8
    obtain ⟨y342, hy342⟩ : ∃ y_ : List Int, y_ = (List.replicate (ji6 : Int).toNat 0) := ⟨_, rfl⟩
    replace H : (if 0 ≤ (l0.length : Int) then (if (l0.length : Int) ≤ (y342.length : Int) then ((some (cpy (cpy y342 0 l0) (((l0.length : Int) : Int).toNat) l1 : List Int)).bind fun y351 => (some ((y351.take ((l0.length : Int) : Int).toNat), ((y351.take ((y342.length : Int) : Int).toNat).drop ((l0.length : Int) : Int).toNat)))) else (none)) else (none)) = some (r1, r2) := by first | (rw [hy342]; with_reducible exact H) | (have H2_ := (Option.bind_some _ _).symm.trans H; rw [hy342]; with_reducible exact H2_) | (have H2_ := (Option.bind_some _ _).symm.trans H; with_reducible exact H2_) | with_reducible exact H | (rw [hy342]; exact H) | exact H
    have Ny342 := zam hy342
    clear hy342
    obtain ⟨y345, hy345⟩ : ∃ y_ : List Int, y_ = (cpy y342 0 l0) := ⟨_, rfl⟩
    replace H : (if 0 ≤ (l0.length : Int) then (if (l0.length : Int) ≤ (y342.length : Int) then ((some (cpy y345 (((l0.length : Int) : Int).toNat) l1 : List Int)).bind fun y351 => (some ((y351.take ((l0.length : Int) : Int).toNat), ((y351.take ((y342.length : Int) : Int).toNat).drop ((l0.length : Int) : Int).toNat)))) else (none)) else (none)) = some (r1, r2) := by first | (rw [hy345]; with_reducible exact H) | (have H2_ := (Option.bind_some _ _).symm.trans H; rw [hy345]; with_reducible exact H2_) | (have H2_ := (Option.bind_some _ _).symm.trans H; with_reducible exact H2_) | with_reducible exact H | (rw [hy345]; exact H) | exact H
    have Ny345 := zam hy345
    clear hy345
    by_cases c9 : 0 ≤ (l0.length : Int)
    ·
     rw [if_pos c9] at H
     have c9b0 := eq_true c9
     have c9b1 : decide (0 ≤ (l0.length : Int)) = true := decide_eq_true c9
     clear c9
     by_cases c10 : (l0.length : Int) ≤ (y342.length : Int)
     ·
      rw [if_pos c10] at H
      have c10b0 := eq_true c10
      have c10b1 : decide ((l0.length : Int) ≤ (y342.length : Int)) = true := decide_eq_true c10
      clear c10
      obtain ⟨y346, hy346⟩ : ∃ y_ : List Int, y_ = (y345.drop ((l0.length : Int) : Int).toNat) := ⟨_, rfl⟩
      replace H : ((some (cpy y345 (((l0.length : Int) : Int).toNat) l1 : List Int)).bind fun y351 => (some ((y351.take ((l0.length : Int) : Int).toNat), ((y351.take ((y342.length : Int) : Int).toNat).drop ((l0.length : Int) : Int).toNat)))) = some (r1, r2) := by first | (rw [hy346]; with_reducible exact H) | (have H2_ := (Option.bind_some _ _).symm.trans H; rw [hy346]; with_reducible exact H2_) | (have H2_ := (Option.bind_some _ _).symm.trans H; with_reducible exact H2_) | with_reducible exact H | (rw [hy346]; exact H) | exact H
      have Ny346 := zam hy346
      clear hy346
      obtain ⟨y351, hy351⟩ : ∃ y_ : List Int, y_ = (cpy y345 (((l0.length : Int) : Int).toNat) l1) := ⟨_, rfl⟩
      replace H : (some ((y351.take ((l0.length : Int) : Int).toNat), ((y351.take ((y342.length : Int) : Int).toNat).drop ((l0.length : Int) : Int).toNat))) = some (r1, r2) := by first | (rw [hy351]; with_reducible exact H) | (have H2_ := (Option.bind_some _ _).symm.trans H; rw [hy351]; with_reducible exact H2_) | (have H2_ := (Option.bind_some _ _).symm.trans H; with_reducible exact H2_) | with_reducible exact H | (rw [hy351]; exact H) | exact H
      have Ny351 := zam hy351
      clear hy351
      have c11b0 := eq_true (zod zqxb8_8 : (l0.length : Int) ≤ (y342.length : Int))
      obtain ⟨y352, hy352⟩ : ∃ y_ : List Int, y_ = (y351.take ((l0.length : Int) : Int).toNat) := ⟨_, rfl⟩
      replace H : (some (y352, ((y351.take ((y342.length : Int) : Int).toNat).drop ((l0.length : Int) : Int).toNat))) = some (r1, r2) := by first | (rw [hy352]; with_reducible exact H) | (have H2_ := (Option.bind_some _ _).symm.trans H; rw [hy352]; with_reducible exact H2_) | (have H2_ := (Option.bind_some _ _).symm.trans H; with_reducible exact H2_) | with_reducible exact H | (rw [hy352]; exact H) | exact H
      have Ny352 := zam hy352
      clear hy352
      have c12b0 := eq_true (zod zqxb8_8 : (l0.length : Int) ≤ (y342.length : Int))
      obtain ⟨y356, hy356⟩ : ∃ y_ : List Int, y_ = ((y351.take ((y342.length : Int) : Int).toNat).drop ((l0.length : Int) : Int).toNat) := ⟨_, rfl⟩
      replace H : (some (y352, y356)) = some (r1, r2) := by first | (rw [hy356]; with_reducible exact H) | (have H2_ := (Option.bind_some _ _).symm.trans H; rw [hy356]; with_reducible exact H2_) | (have H2_ := (Option.bind_some _ _).symm.trans H; with_reducible exact H2_) | with_reducible exact H | (rw [hy356]; exact H) | exact H
      have Ny356 := zam hy356
      clear hy356
      simp only [Option.some.injEq, Prod.mk.injEq] at H
      obtain ⟨rfl, rfl⟩ := H
      go_enter Try.func66, Try.ntmps66
      iterate 8 (go_wp2_with (first | ((with_reducible refine gate_dst (N := 17) rfl ?_); refine Kd.R_make (Kd.int .u8) _ 5 rfl (N := 17) rfl 24 _ _ rfl ji6 rfl rfl Try.underlying24 (.int .u8 0) 1 info5 rfl (by decide) (by omega) 0 (ok := fun _ => True) (okp := fun _ => True) rfl (fun _ hk => hk) trivial (zod zqxb8_8) (Nat.le_trans (Nat.mul_le_mul_right _ (zod zqxb8_8 : ji6.toNat ≤ 281474976710656)) (by omega)) (Below.refl _ _) (Nat.le_refl _) ?_; intro v343 w13 ho14 hb hg_ hnew_; clear hg_ hnew_; (first | rw [← Ny342.out] at ho14 | (simp only [Int.reduceToNat] at ho14; rw [← Ny342.out] at ho14)); have n0_ := zam (Kd.R_lower (Kd.R_newM (M := fun k_ => (w.heap.size ≤ k_)) ho14 (below_size zqxb8_7) (fun k_ h_ => h_)) (below_size zqxb8_7)); have n1_ := zam (below_step zqxb8_7 hb); clear HB; have HO344 := n0_; have HB := n1_; clear n0_ n1_; clear hb ho14; obtain ⟨Ao15, co15, eo15⟩ := Kd.R_slice HO344.out; subst eo15) | ((with_reducible refine gate_builtin (b := .copy) (xs := #[.tmp 18, .tmp 19]) rfl ?_); refine copy_event (k := .u8) (w0 := w) w.heap.size rfl (.tmp 18) (.tmp 19) 24 5 rfl Try.underlying24 info5 Ao15 y342.length co15 y342 (fun k_ => (w.heap.size ≤ k_)) 0 _ _ _ _ _ _ l0 rfl rfl ?aO ?aL ?aA ?aN ?aR ?aB ?_; (case aO => exact (by (with_reducible repeat (first | apply Kd.R_alloc | apply Kd.R_drewN | apply Kd.R_drew)); exact Kd.R_mono HO344.out (fun _ hk => hk.1))); (case aL => exact Nat.zero_le _); (case aA => exact cut_whole _ _); (case aN => exact (Nat.sub_zero _).symm); (case aR => repeat (first | exact (Kd.C_below HR0.out HB.out) | (with_reducible refine Kd.C_alloc ?_ _) | (with_reducible refine Kd.C_drewN ?_ _) | (with_reducible refine Kd.C_drew ?_))); (case aB => exact zqxb8_7); intro r16_ w17 ho hb hg; have hat : (.slice Ao15 y342.length co15 : Value).ownBlock = (.slice Ao15 y342.length co15 : Value).ownBlock ∨ ∃ b_, (.slice Ao15 y342.length co15 : Value).ownBlock = some b_ ∧ w13.heap.size ≤ b_ := .inl rfl; (first | rw [← Ny345.out] at ho | (simp only [Int.reduceToNat] at ho; rw [← Ny345.out] at ho)); have n0_ := zam (hb); have n1_ := zam (ho); clear HB; clear HO344; have HB := n0_; have HO344 := n1_; clear n0_ n1_; clear ho hb hg hat; have hlx18 := (Kd.R_reads' HO344.out).1; have q18 : ((l0.length : Int) : Int) ≤ ((y342.length : Int) : Int) := zod zqxb8_8; obtain ⟨i018, hi018, _, hsz18, _⟩ := info_parts info5; have hroom18 : y342.length ≤ co15 := (Kd.R_reads' HO344.out).2.1; have hroomc18 : y345.length ≤ co15 := (by rw [← hlx18]; exact hroom18); have hC18 : Kd.F (Kd.int .u8) _ _ Ao15 y345.length y345 := (Kd.V_at (base := w.heap.size) (Kd.R_V HO344.out)).2.2; have q018 : (0 : Int) ≤ ((l0.length : Int) : Int) := zod zqxb8_8; have hcut18 := cut_from (P := Try.prog) 24 5 .i64 Try.underlying24 hi018 1 hsz18 Ao15 y342.length co15 (l0.length : Int) q018 q18; have hr18 := Kd.F_cut (m := ((l0.length : Int) : Int).toNat) (c := co15) hC18 (by omega) hroomc18; obtain ⟨A18, hA18⟩ : ∃ A1, A1 = (if co15 = ((l0.length : Int) : Int).toNat then Ao15 else (Ao15 : Option Addr).map (·.add (((l0.length : Int) : Int).toNat * 1))) := ⟨_, rfl⟩; obtain ⟨c18, hc18⟩ : ∃ c1, c1 = co15 - ((l0.length : Int) : Int).toNat := ⟨_, rfl⟩; have hy18 : y346.length = y342.length - ((l0.length : Int) : Int).toNat := (by rw [Ny346.out, List.length_drop] <;> omega); rw [show (y345).drop ((l0.length : Int) : Int).toNat = y346 from Ny346.out.symm] at hr18; replace hr18 : Kd.F (Kd.int .u8) _ _ A18 y346.length y346 := (by rw [hA18]; exact hr18); rw [← hy18, ← hA18, ← hc18] at hcut18; have HO350 := zam (show Kd.V (Kd.int .u8) 5 _ w.heap.size _ (.slice A18 y346.length c18) y346 from Kd.V_mk (by rw [hy18, hc18]; exact Nat.sub_le_sub_right hroom18 _) hr18); have HC350 := zam (show y346.length ≤ c18 from by rw [hy18, hc18]; exact Nat.sub_le_sub_right hroom18 _); clear hr18 hC18 hroom18 hi018 hsz18 hc18 hroomc18; have KY18 := zam hy18; have KA18 := zam hA18; clear hy18 hA18; clear hlx18; replace q18 := eq_true q18) | ((with_reducible refine gate_builtin (b := .copy) (xs := #[.tmp 24, .tmp 25]) rfl ?_); refine copy_event (k := .u8) (w0 := w) w.heap.size rfl (.tmp 24) (.tmp 25) 24 5 rfl Try.underlying24 info5 Ao15 y342.length co15 y345 (fun k_ => (w.heap.size ≤ k_)) (((l0.length : Int) : Int).toNat) _ _ _ _ _ _ l1 rfl rfl ?aO ?aL ?aA ?aN ?aR ?aB ?_; (case aO => exact (by (with_reducible repeat (first | apply Kd.R_alloc | apply Kd.R_drewN | apply Kd.R_drew)); exact HO344.out)); (case aL => have h1_ := of_eq_true q18; have h2_ := (Kd.R_reads' HO344.out).1; omega); (case aA => first | exact KA18.out | (have h_ := KA18.out; simp only [Nat.mul_one] at h_; exact h_)); (case aN => exact KY18.out); (case aR => repeat (first | exact (Kd.C_below HR1.out HB.out) | (with_reducible refine Kd.C_alloc ?_ _) | (with_reducible refine Kd.C_drewN ?_ _) | (with_reducible refine Kd.C_drew ?_))); (case aB => exact zqxb8_7); intro r19_ w20 ho hb hg; have hat : (.slice Ao15 y342.length co15 : Value).ownBlock = (.slice Ao15 y342.length co15 : Value).ownBlock ∨ ∃ b_, (.slice Ao15 y342.length co15 : Value).ownBlock = some b_ ∧ w17.heap.size ≤ b_ := .inl rfl; (first | rw [← Ny351.out] at ho | (simp only [Int.reduceToNat] at ho; rw [← Ny351.out] at ho)); have n0_ := zam (hb); have n1_ := zam (ho); clear HB; clear HO344; have HB := n0_; have HO344 := n1_; clear n0_ n1_; clear ho hb hg hat; have hle21 := (Kd.R_reads' HO344.out).1; have hroom21 := (Kd.R_reads' HO344.out).2.1; obtain ⟨i021, hi021, _, hsz21, _⟩ := info_parts info5; have hC21 : Kd.F (Kd.int .u8) _ _ Ao15 y351.length y351 := (Kd.V_at (base := w.heap.size) (Kd.R_V HO344.out)).2.2; have qh21 : ((l0.length : Int) : Int) ≤ ((l0.length : Int) : Int) := (by first | omega | exact zod zqxb8_8 | (have h1_ := (Kd.R_reads' HO344.out).1; omega) | (have h1_ := (Kd.R_reads' HO344.out).1; have h2_ : ((l0.length : Int) : Int) ≤ ((l0.length : Int) : Int) := zod zqxb8_8; omega) | (have h1_ := (Kd.R_reads' HO344.out).1; have h2_ : ((l0.length : Int) : Int) ≤ ((y342.length : Nat) : Int) := zod zqxb8_8; omega)); have qm21 : ((l0.length : Int) : Int) ≤ (y351.length : Int) := (by first | omega | exact zod zqxb8_8 | (have h1_ := (Kd.R_reads' HO344.out).1; omega) | (have h1_ := (Kd.R_reads' HO344.out).1; have h2_ : ((l0.length : Int) : Int) ≤ (y351.length : Int) := zod zqxb8_8; omega) | (have h1_ := (Kd.R_reads' HO344.out).1; have h2_ : ((l0.length : Int) : Int) ≤ ((y342.length : Nat) : Int) := zod zqxb8_8; omega)); have q021 : (0 : Int) ≤ ((l0.length : Int) : Int) := zqxb8_11; have hcut21 := cut3_to (P := Try.prog) 24 5 .i64 .i64 Try.underlying24 hi021 Ao15 y342.length co15 (l0.length : Int) (l0.length : Int) q021 qh21 (by omega); have hr21 := Kd.F_take (m := ((l0.length : Int) : Int).toNat) hC21 (by omega); have hy21 : y352.length = ((l0.length : Int) : Int).toNat := (by rw [Ny352.out, List.length_take]; omega); rw [← Ny352.out] at hr21; obtain ⟨A21, hA21⟩ : ∃ A1 : Option Addr, A1 = Ao15 := ⟨_, rfl⟩; obtain ⟨c21, hc21⟩ : ∃ c1, c1 = ((l0.length : Int) : Int).toNat := ⟨_, rfl⟩; replace hr21 : Kd.F (Kd.int .u8) _ _ A21 y352.length y352 := (by rw [hA21]; exact hr21); replace hcut21 := fun W_ => (hcut21 W_).trans (show _ = Result.ok (Value.slice A21 y352.length c21) W_ from by rw [hA21, hy21, hc21]); have HO355 := zam (show Kd.V (Kd.int .u8) 5 _ w.heap.size _ (.slice A21 y352.length c21) y352 from Kd.V_mk (by rw [hy21, hc21]; omega) hr21); have HC355 := zam (show y352.length ≤ c21 from by rw [hy21, hc21]; omega); clear hr21 hC21 hroom21 hle21 hi021 hsz21 hc21 hy21 hA21; replace q021 := eq_true q021; replace qh21 := eq_true qh21; replace qm21 := eq_true qm21; have hle22 := (Kd.R_reads' HO344.out).1; have hroom22 := (Kd.R_reads' HO344.out).2.1; obtain ⟨i022, hi022, _, hsz22, _⟩ := info_parts info5; have hC22 : Kd.F (Kd.int .u8) _ _ Ao15 y351.length y351 := (Kd.V_at (base := w.heap.size) (Kd.R_V HO344.out)).2.2; have qh22 : ((y342.length : Int) : Int) ≤ ((y342.length : Int) : Int) := (by first | omega | exact zod zqxb8_8 | (have h1_ := (Kd.R_reads' HO344.out).1; omega) | (have h1_ := (Kd.R_reads' HO344.out).1; have h2_ : ((y342.length : Int) : Int) ≤ ((y342.length : Int) : Int) := zod zqxb8_8; omega) | (have h1_ := (Kd.R_reads' HO344.out).1; have h2_ : ((y342.length : Int) : Int) ≤ ((y342.length : Nat) : Int) := zod zqxb8_8; omega)); have qm22 : ((y342.length : Int) : Int) ≤ (y351.length : Int) := (by first | omega | exact zod zqxb8_8 | (have h1_ := (Kd.R_reads' HO344.out).1; omega) | (have h1_ := (Kd.R_reads' HO344.out).1; have h2_ : ((y342.length : Int) : Int) ≤ (y351.length : Int) := zod zqxb8_8; omega) | (have h1_ := (Kd.R_reads' HO344.out).1; have h2_ : ((y342.length : Int) : Int) ≤ ((y342.length : Nat) : Int) := zod zqxb8_8; omega)); have q022 : (0 : Int) ≤ ((l0.length : Int) : Int) := zqxb8_11; have ql22 : ((l0.length : Int) : Int) ≤ ((y342.length : Int) : Int) := (by first | omega | exact zod zqxb8_8 | (have h1_ := (Kd.R_reads' HO344.out).1; omega) | (have h1_ := (Kd.R_reads' HO344.out).1; have h2_ : ((l0.length : Int) : Int) ≤ ((y342.length : Int) : Int) := zod zqxb8_8; omega) | (have h1_ := (Kd.R_reads' HO344.out).1; have h2_ : ((l0.length : Int) : Int) ≤ ((y342.length : Nat) : Int) := zod zqxb8_8; omega)); have hcut22 := cut3_mid (P := Try.prog) 24 5 .i64 .i64 .i64 Try.underlying24 hi022 1 hsz22 Ao15 y342.length co15 (l0.length : Int) (y342.length : Int) (y342.length : Int) q022 ql22 qh22 (by omega); have hr22 := F_mid3 (lo := ((l0.length : Int) : Int).toNat) (hi := ((y342.length : Int) : Int).toNat) (mx := ((y342.length : Int) : Int).toNat) hC22 (by omega) (by omega) (by omega); have hy22 : y356.length = ((y342.length : Int) : Int).toNat - ((l0.length : Int) : Int).toNat := (by rw [Ny356.out, List.length_drop, List.length_take]; omega); rw [← Ny356.out] at hr22; obtain ⟨A22, hA22⟩ : ∃ A1, A1 = (if ((y342.length : Int) : Int).toNat = ((l0.length : Int) : Int).toNat then Ao15 else (Ao15 : Option Addr).map (·.add (((l0.length : Int) : Int).toNat * 1))) := ⟨_, rfl⟩; obtain ⟨c22, hc22⟩ : ∃ c1, c1 = ((y342.length : Int) : Int).toNat - ((l0.length : Int) : Int).toNat := ⟨_, rfl⟩; replace hr22 : Kd.F (Kd.int .u8) _ _ A22 y356.length y356 := (by rw [hA22]; exact hr22); replace hcut22 := fun W_ => (hcut22 W_).trans (show _ = Result.ok (Value.slice A22 y356.length c22) W_ from by rw [hA22, hy22, hc22]); have HO359 := zam (show Kd.V (Kd.int .u8) 5 _ w.heap.size _ (.slice A22 y356.length c22) y356 from Kd.V_mk (by rw [hy22, hc22]; omega) hr22); have HC359 := zam (show y356.length ≤ c22 from by rw [hy22, hc22]; omega); clear hr22 hC22 hroom22 hle22 hi022 hsz22 hc22 hy22 hA22; replace q022 := eq_true q022; replace qh22 := eq_true qh22; replace qm22 := eq_true qm22; replace ql22 := eq_true ql22)); (try go_quiet (fail)))
      go_ret2
      exact ⟨_, _, by first | rfl | (simp [errW_none, errW_some] <;> rfl) | (simp only [← hji6]; first | rfl | (simp [errW_none, errW_some] <;> rfl)) | (simp [*, errW_none, errW_some] <;> rfl), by (with_reducible repeat (first | apply Kd.V_alloc | apply Kd.V_drewN | apply Kd.V_drew)); exact HO355.out, by (with_reducible repeat (first | apply Kd.V_alloc | apply Kd.V_drewN | apply Kd.V_drew)); exact HO359.out, by repeat (first | (with_reducible first | exact HB.out | apply below_alloc | apply pw_below_drewN | apply below_drew1) | exact HB.out)⟩
     ·
      rw [if_neg c10] at H
      exact absurd H (by simp)
    ·
     rw [if_neg c9] at H
     exact absurd H (by simp)
   ·
    rw [if_neg c8] at H
    exact absurd H (by simp)
  ·
   rw [if_neg c7] at H
   exact absurd H (by simp)

end Go.Proofs.Ytbacmhegalncjaa.XB
