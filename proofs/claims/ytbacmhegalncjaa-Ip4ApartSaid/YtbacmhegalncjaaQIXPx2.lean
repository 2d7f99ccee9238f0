-- printed by a program of this session (wip/xprint), out of the translation; Lean checks it
import Derived.Test.YtbacmhegalncjaaQIXPx1
import Derived.Test.YtbacmhegalncjaaQIXBx0
import Derived.Test.YtbacmhegalncjaaQIXBx22
import Derived.Test.YtbacmhegalncjaaQIXBx23
import Derived.Test.YtbacmhegalncjaaQIXBx3
import Derived.Test.YtbacmhegalncjaaQIXBx5
import Derived.Test.YtbacmhegalncjaaQIXBx6
import Derived.Test.YtbacmhegalncjaaQIXBx9
namespace Go.Proofs.Ytbacmhegalncjaa.XP
open Go.RowKit Go.Proofs.Ytbacmhegalncjaa.XB Go.Proofs.YtbacmhegalncjaaW.PrintWords Go.Proofs.YtbacmhegalncjaaW.PrintLast Go.Proofs.YtbacmhegalncjaaW.PrintMore Go.Proofs.YtbacmhegalncjaaX
theorem zqxp2_15 {P : Prop} (h : P := by (with_reducible repeat (first | apply Kd.R_alloc | apply Kd.R_drewN | apply Kd.R_drew)); exact HO_10.out) : P := h
theorem zqxp2_14 {P : Prop} (h : P := by first | (with_reducible assumption) | assumption) : P := h
theorem zqxp2_13 {P : Prop} (h : P := by repeat (first | (with_reducible first | exact HB.out | apply below_alloc | apply pw_below_drewN | apply below_drew1) | exact HB.out)) : P := h
theorem zqxp2_12 {P : Prop} (h : P := by first | rfl | (simp; done) | (simp [*]; done)) : P := h
theorem zqxp2_11 {P : Prop} (h : P := by (with_reducible repeat (first | apply Kd.R_alloc | apply Kd.R_drewN | apply Kd.R_drew)); exact HO596.out) : P := h
theorem zqxp2_10 {P : Prop} (h : P := by (with_reducible repeat (first | apply Kd.V_alloc | apply Kd.V_drewN | apply Kd.V_drew)); exact HO_614010.out) : P := h
theorem zqxp2_9 {P : Prop} (h : P := by (with_reducible repeat (first | apply Kd.V_alloc | apply Kd.V_drewN | apply Kd.V_drew)); exact HO_614009.out) : P := h
theorem zqxp2_8 {P : Prop} (h : P := by (with_reducible repeat (first | apply Kd.R_alloc | apply Kd.R_drewN | apply Kd.R_drew)); exact HO_3.out) : P := h
theorem zqxp2_7 {P : Prop} (h : P := by (with_reducible repeat (first | apply Kd.R_alloc | apply Kd.R_drewN | apply Kd.R_drew)); exact HO593.out) : P := h
theorem zqxp2_6 {P : Prop} (h : P := by (with_reducible repeat (first | apply Kd.R_alloc | apply Kd.R_drewN | apply Kd.R_drew)); exact HO_6.out) : P := h
theorem zqxp2_5 {P : Prop} (h : P := by (with_reducible repeat (first | apply Kd.R_alloc | apply Kd.R_drewN | apply Kd.R_drew)); exact HO589.out) : P := h
theorem zqxp2_4 {P : Prop} (h : P := by repeat (first | (with_reducible first | exact HB.out | apply below_alloc | apply pw_below_drewN | apply below_drew1 | refine below_set ?_ GE584.out | refine below_set ?_ GE613.out) | exact HB.out)) : P := h
theorem zqxp2_3 {P : Prop} (h : P := by (try simp only [List.map_toArray, List.map_cons, List.map_nil]); first | done | rfl | (simp only [List.length_drop, List.length_take]; rfl)) : P := h
theorem zqxp2_2 {P : Prop} (h : P := by first | (with_reducible exact BK613.out) | (with_reducible exact zdn BK613.out _) | (with_reducible exact zdr BK613.out) | ((with_reducible repeat (first | refine zdn ?_ _ | refine zdr ?_ | refine blk_alloc ?_ _)); exact BK613.out)) : P := h
theorem zqxp2_1 {P : Prop} (h : P := by repeat (first | (with_reducible first | exact HB.out | apply below_alloc | apply pw_below_drewN | apply below_drew1 | refine below_set ?_ GE584.out) | exact HB.out)) : P := h
theorem zqxp2_0 {P : Prop} (h : P := by first | (with_reducible exact BK584.out) | (with_reducible exact zdn BK584.out _) | (with_reducible exact zdr BK584.out) | ((with_reducible repeat (first | refine zdn ?_ _ | refine zdr ?_ | refine blk_alloc ?_ _)); exact BK584.out)) : P := h
attribute [local go_sem] max2_int min2_int max_two min_two max_three min_three max_four min_four   -- for this text's walks alone
set_option linter.unusedVariables false
set_option linter.unusedSimpArgs false

/-! ### weftlaw3_Ip4Apart: function 13 -/
mutual
def weftlaw3_Ip4Apart.j0 : Nat → Bool → Int → Int → Bool → Bool → Int → Int → Int → Int → Int → List Int → List Int → Option (Bool)
 | 0, _, _, _, _, _, _, _, _, _, _, _, _ => none
 | k + 1, x18, x585000, x585001, x585002, x585003, x585004, x585005, x585006, x585007, x585008, x585009, x585010 => if x18 = true then (some false) else ((ip4_Build.f k x585000 x585001 x585002 x585003 x585004 x585005 x585006 x585007 x585008 x585009 x585010).bind fun bt587 => (if bt587.2 = 0 then ((weftlaw3_clone.f k bt587.1).bind fun t591 => ((weftlaw3_clone.f k bt587.1).bind fun t594 => ((ip4_Parse.f k t591).bind fun bt597 => (weftlaw3_Ip4Apart.l0 k bt587.1 t591 t594 bt597.2.2.2.2.2.2.2.2.2.2.2 0 x585000 x585001 x585002 x585003 x585004 x585005 x585006 x585007 x585008 x585009 x585010 bt597.1 bt597.2.1 bt597.2.2.1 bt597.2.2.2.1 bt597.2.2.2.2.1 bt597.2.2.2.2.2.1 bt597.2.2.2.2.2.2.1 bt597.2.2.2.2.2.2.2.1 bt597.2.2.2.2.2.2.2.2.1 bt597.2.2.2.2.2.2.2.2.2.1 bt597.2.2.2.2.2.2.2.2.2.2.1)))) else (some ((bt587.1.length : Int) == 0))))
def weftlaw3_Ip4Apart.l0 : Nat → List Int → List Int → List Int → Int → Int → Int → Int → Bool → Bool → Int → Int → Int → Int → Int → List Int → List Int → Int → Int → Bool → Bool → Int → Int → Int → Int → Int → List Int → List Int → Option (Bool)
 | 0, _, _, _, _, _, _, _, _, _, _, _, _, _, _, _, _, _, _, _, _, _, _, _, _, _, _, _ => none
 | k + 1, x3, x5, x6, x8, x9, x585000, x585001, x585002, x585003, x585004, x585005, x585006, x585007, x585008, x585009, x585010, x614000, x614001, x614002, x614003, x614004, x614005, x614006, x614007, x614008, x614009, x614010 => if x9 < (x5.length : Int) then (if 0 ≤ x9 then (weftlaw3_Ip4Apart.l0 k x3 (x5.set (x9 : Int).toNat (Go.bits .xor .u8 ((x9) % 256) 85)) x6 x8 (wrap64 (x9 + 1)) x585000 x585001 x585002 x585003 x585004 x585005 x585006 x585007 x585008 x585009 x585010 x614000 x614001 x614002 x614003 x614004 x614005 x614006 x614007 x614008 x614009 x614010) else (none)) else (if x8 = 0 then ((weftlaw3_packets.f k x585000 x585001 x585002 x585003 x585004 x585005 x585006 x585007 x585008 x585009 x585010 x614000 x614001 x614002 x614003 x614004 x614005 x614006 x614007 x614008 x614009 x614010).bind fun t615 => (weftlaw3_Ip4Apart.j2 k x3 x6 (!t615) x585000 x585001 x585002 x585003 x585004 x585005 x585006 x585007 x585008 x585009 x585010 x614000 x614001 x614002 x614003 x614004 x614005 x614006 x614007 x614008 x614009 x614010)) else (weftlaw3_Ip4Apart.j2 k x3 x6 true x585000 x585001 x585002 x585003 x585004 x585005 x585006 x585007 x585008 x585009 x585010 x614000 x614001 x614002 x614003 x614004 x614005 x614006 x614007 x614008 x614009 x614010))
def weftlaw3_Ip4Apart.j2 : Nat → List Int → List Int → Bool → Int → Int → Bool → Bool → Int → Int → Int → Int → Int → List Int → List Int → Int → Int → Bool → Bool → Int → Int → Int → Int → Int → List Int → List Int → Option (Bool)
 | 0, _, _, _, _, _, _, _, _, _, _, _, _, _, _, _, _, _, _, _, _, _, _, _, _, _ => none
 | k + 1, x3, x6, x57, x585000, x585001, x585002, x585003, x585004, x585005, x585006, x585007, x585008, x585009, x585010, x614000, x614001, x614002, x614003, x614004, x614005, x614006, x614007, x614008, x614009, x614010 => if x57 = true then (some false) else ((ip4_Build.f k x614000 x614001 x614002 x614003 x614004 x614005 x614006 x614007 x614008 x614009 x614010).bind fun bt616 => (weftlaw3_Ip4Apart.l1 k x3 x6 bt616.1 bt616.2 0 x585000 x585001 x585002 x585003 x585004 x585005 x585006 x585007 x585008 x585009 x585010 x614000 x614001 x614002 x614003 x614004 x614005 x614006 x614007 x614008 x614009 x614010))
def weftlaw3_Ip4Apart.l1 : Nat → List Int → List Int → List Int → Int → Int → Int → Int → Bool → Bool → Int → Int → Int → Int → Int → List Int → List Int → Int → Int → Bool → Bool → Int → Int → Int → Int → Int → List Int → List Int → Option (Bool)
 | 0, _, _, _, _, _, _, _, _, _, _, _, _, _, _, _, _, _, _, _, _, _, _, _, _, _, _, _ => none
 | k + 1, x3, x6, x10, x11, x12, x585000, x585001, x585002, x585003, x585004, x585005, x585006, x585007, x585008, x585009, x585010, x614000, x614001, x614002, x614003, x614004, x614005, x614006, x614007, x614008, x614009, x614010 => if x12 < (x10.length : Int) then (if 0 ≤ x12 then (weftlaw3_Ip4Apart.l1 k x3 x6 (x10.set (x12 : Int).toNat 0) x11 (wrap64 (x12 + 1)) x585000 x585001 x585002 x585003 x585004 x585005 x585006 x585007 x585008 x585009 x585010 x614000 x614001 x614002 x614003 x614004 x614005 x614006 x614007 x614008 x614009 x614010) else (none)) else (if x11 = 0 then ((weftlaw3_packets.f k x585000 x585001 x585002 x585003 x585004 x585005 x585006 x585007 x585008 x585009 x585010 x614000 x614001 x614002 x614003 x614004 x614005 x614006 x614007 x614008 x614009 x614010).bind fun t621 => (if t621 = true then ((weftlaw3_same.f k x3 x6).bind fun t622 => (some t622)) else (some false))) else (some false))
end
def weftlaw3_Ip4Apart.f (k : Nat) (a0_0 : Int) (a0_1 : Int) (a0_2 : Bool) (a0_3 : Bool) (a0_4 : Int) (a0_5 : Int) (a0_6 : Int) (a0_7 : Int) (a0_8 : Int) (l0_9 : List Int) (l0_10 : List Int) : Option (Bool) := (weftlaw3_head.f k 5).bind fun t585 => (if t585 = true then ((weftlaw3_head.f k 3).bind fun t586 => (weftlaw3_Ip4Apart.j0 k (!t586) a0_0 a0_1 a0_2 a0_3 a0_4 a0_5 a0_6 a0_7 a0_8 l0_9 l0_10)) else (weftlaw3_Ip4Apart.j0 k true a0_0 a0_1 a0_2 a0_3 a0_4 a0_5 a0_6 a0_7 a0_8 l0_9 l0_10))
set_option maxHeartbeats 8000000 in
set_option maxRecDepth 100000 in
theorem weftlaw3_Ip4Apart.calls (k : Nat) (a0_0 : Int) (a0_1 : Int) (a0_2 : Bool) (a0_3 : Bool) (a0_4 : Int) (a0_5 : Int) (a0_6 : Int) (a0_7 : Int) (a0_8 : Int) (A0_9 : Option Addr) (c0_9 : Nat) (l0_9 : List Int) (A0_10 : Option Addr) (c0_10 : Nat) (l0_10 : List Int) (r : Bool) (w : World) (hr0_9 : Kd.C (Kd.int .u8) w A0_9 l0_9.length l0_9) (hc0_9 : l0_9.length ≤ c0_9) (hr0_10 : Kd.C (Kd.int .u8) w A0_10 l0_10.length l0_10) (hc0_10 : l0_10.length ≤ c0_10) (h : weftlaw3_Ip4Apart.f k a0_0 a0_1 a0_2 a0_3 a0_4 a0_5 a0_6 a0_7 a0_8 l0_9 l0_10 = some r) :
  Calls Try.prog 13 #[.agg #[.int .u8 a0_0, .int .u16 a0_1, .bool a0_2, .bool a0_3, .int .i64 a0_4, .int .u8 a0_5, .int .u8 a0_6, .int .u32 a0_7, .int .u32 a0_8, .slice A0_9 l0_9.length c0_9, .slice A0_10 l0_10.length c0_10]] w fun e w' => e = .returned (.bool r) ∧ Below w.heap.size w w' := by
 have hu43 := Try.underlying43
 have HR0_9 := zam hr0_9
 have HC0_9 := zam hc0_9
 clear hr0_9 hc0_9
 have HR0_10 := zam hr0_10
 have HC0_10 := zam hc0_10
 clear hr0_10 hc0_10
 have HB := zam (Below.refl w.heap.size w)
 have H : ((weftlaw3_head.f k 5).bind fun t585 => (if t585 = true then ((weftlaw3_head.f k 3).bind fun t586 => (weftlaw3_Ip4Apart.j0 k (!t586) a0_0 a0_1 a0_2 a0_3 a0_4 a0_5 a0_6 a0_7 a0_8 l0_9 l0_10)) else (weftlaw3_Ip4Apart.j0 k true a0_0 a0_1 a0_2 a0_3 a0_4 a0_5 a0_6 a0_7 a0_8 l0_9 l0_10))) = some r := h
 clear h
 have HC2 := zam H
 clear H
 go_enter Try.func13, Try.ntmps13
 go_upto_region 1 with (first | ((with_reducible refine gate_dst (N := 1) rfl ?_); refine box_event ?hg (N := 1) ?hd (cs := #[.int .u8 a0_0, .int .u16 a0_1, .bool a0_2, .bool a0_3, .int .i64 a0_4, .int .u8 a0_5, .int .u8 a0_6, .int .u32 a0_7, .int .u32 a0_8, .slice A0_9 l0_9.length c0_9, .slice A0_10 l0_10.length c0_10]) (t := 43) ?hr ?_; (case hd => rfl); (case hg => rfl); (case hr => first | (go_simp; done) | (go_simp; rfl)); intro gb584 hg w3 hbox hb; have n0_ := zam (below_step zqxp2_13 hb); have n1_ := zam (hbox); have n2_ := zam ((by rw [hg]; exact (below_size zqxp2_13) : w.heap.size ≤ gb584)); have n3_ := zam ((by rw [hg]; exact (below_size zqxp2_13) : w.heap.size ≤ gb584)); clear HB; have HB := n0_; have BK584 := n1_; have GW584 := n2_; have GE584 := n3_; clear n0_ n1_ n2_ n3_; clear hb hbox hg))
 (try simp only [Act.put, List.setIfInBounds_toArray, List.set_cons_zero, List.set_cons_succ])
 go_cut [18] (fun v18 wc => ∃ (kq : Nat) (x18_1 : Bool), v18 = .bool x18_1 ∧ Aside0 (weftlaw3_Ip4Apart.j0 kq x18_1 a0_0 a0_1 a0_2 a0_3 a0_4 a0_5 a0_6 a0_7 a0_8 l0_9 l0_10 = some r) ∧ Aside0 (kq ≤ k) ∧ Aside0 (wc.heap[gb584]? = some (.cells #[.int .u8 a0_0, .int .u16 a0_1, .bool a0_2, .bool a0_3, .int .i64 a0_4, .int .u8 a0_5, .int .u8 a0_6, .int .u32 a0_7, .int .u32 a0_8, (.slice A0_9 l0_9.length c0_9), (.slice A0_10 l0_10.length c0_10)] 43 (0, 0))) ∧ Aside0 (Below w.heap.size w wc))
 case first =>
  have H := HC2.out
  clear HC2
  replace H := Option.bind_eq_some_iff.mp H
  obtain ⟨t585, A40, H⟩ := H
  replace H : (if t585 = true then ((weftlaw3_head.f k 3).bind fun t586 => (weftlaw3_Ip4Apart.j0 k (!t586) a0_0 a0_1 a0_2 a0_3 a0_4 a0_5 a0_6 a0_7 a0_8 l0_9 l0_10)) else (weftlaw3_Ip4Apart.j0 k true a0_0 a0_1 a0_2 a0_3 a0_4 a0_5 a0_6 a0_7 a0_8 l0_9 l0_10)) = some r := H
  have A4 := zam A40
  clear A40
  by_cases c5 : t585 = true
  ·
   subst c5
   have H1 : ((weftlaw3_head.f k 3).bind fun t586 => (weftlaw3_Ip4Apart.j0 k (!t586) a0_0 a0_1 a0_2 a0_3 a0_4 a0_5 a0_6 a0_7 a0_8 l0_9 l0_10)) = some r := by rw [if_pos rfl] at H; exact H
   clear H
   have H := H1
   clear H1
   replace H := Option.bind_eq_some_iff.mp H
   obtain ⟨t586, A60, H⟩ := H
   replace H : (weftlaw3_Ip4Apart.j0 k (!t586) a0_0 a0_1 a0_2 a0_3 a0_4 a0_5 a0_6 a0_7 a0_8 l0_9 l0_10) = some r := H
   have A6 := zam A60
   clear A60
   have H' := zam H
   clear H
   go_wp2_with (first | ((with_reducible refine gate_callee (f := 31) rfl ?_); (fail_if_success (have h_ := UA4)); refine goesL_ (some 13) rfl rfl Try.func31 (by kernel_rfl) rfl #[.int .i64 5] rfl zqxp2_3 ?_; (with_reducible refine (weftlaw3_head.calls k 5 true _ A4.out).mono ?_); rintro e w7 ⟨rfl, hb⟩; refine ⟨_, rfl, ?_⟩; have n0_ := zam (blk_below (g := gb584) (o := .cells #[.int .u8 a0_0, .int .u16 a0_1, .bool a0_2, .bool a0_3, .int .i64 a0_4, .int .u8 a0_5, .int .u8 a0_6, .int .u32 a0_7, .int .u32 a0_8, .slice A0_9 l0_9.length c0_9, .slice A0_10 l0_10.length c0_10] 43 (0, 0)) zqxp2_0 hb); have n1_ := zam (below_step zqxp2_1 hb); clear BK584; clear HB; have BK584 := n0_; have HB := n1_; clear n0_ n1_; (try clear hb); (try clear hb2); (try clear hk); (try clear hi); have UA4 := True.intro) | (go_at_call 31; (with_reducible refine (weftlaw3_head.calls k 3 t586 _ A6.out).mono ?_); (fail_if_success (have h_ := UA6)); rintro e w8 ⟨rfl, hb⟩; have n0_ := zam (blk_below (g := gb584) (o := .cells #[.int .u8 a0_0, .int .u16 a0_1, .bool a0_2, .bool a0_3, .int .i64 a0_4, .int .u8 a0_5, .int .u8 a0_6, .int .u32 a0_7, .int .u32 a0_8, .slice A0_9 l0_9.length c0_9, .slice A0_10 l0_10.length c0_10] 43 (0, 0)) zqxp2_0 hb); have n1_ := zam (below_step zqxp2_1 hb); clear BK584; clear HB; have BK584 := n0_; have HB := n1_; clear n0_ n1_; (try clear hb); (try clear hb2); (try clear hk); (try clear hi); have UA6 := True.intro))
   go_meet
   case rel => exact ⟨_, (!t586), zqxp2_12, H', ⟨by first | omega | exact Nat.le_refl _⟩, ⟨by first | (with_reducible exact BK584.out) | (with_reducible exact zdn BK584.out _) | (with_reducible exact zdr BK584.out) | ((with_reducible repeat (first | refine zdn ?_ _ | refine zdr ?_ | refine blk_alloc ?_ _)); exact BK584.out)⟩, ⟨by repeat (first | (with_reducible first | exact HB.out | apply below_alloc | apply pw_below_drewN | apply below_drew1 | refine below_set ?_ GE584.out) | exact HB.out)⟩⟩
  ·
   replace c5 := Bool.eq_false_iff.mpr c5
   subst c5
   have H1 : (weftlaw3_Ip4Apart.j0 k true a0_0 a0_1 a0_2 a0_3 a0_4 a0_5 a0_6 a0_7 a0_8 l0_9 l0_10) = some r := by rw [if_neg (show ¬ (false = true) by decide)] at H; exact H
   clear H
   have H := H1
   clear H1
   have H' := zam H
   clear H
   go_wp2_with (first | ((with_reducible refine gate_callee (f := 31) rfl ?_); refine goesL_ (some 13) rfl rfl Try.func31 (by kernel_rfl) rfl #[.int .i64 5] rfl zqxp2_3 ?_; (with_reducible refine (weftlaw3_head.calls k 5 false _ A4.out).mono ?_); rintro e w9 ⟨rfl, hb⟩; refine ⟨_, rfl, ?_⟩; have n0_ := zam (blk_below (g := gb584) (o := .cells #[.int .u8 a0_0, .int .u16 a0_1, .bool a0_2, .bool a0_3, .int .i64 a0_4, .int .u8 a0_5, .int .u8 a0_6, .int .u32 a0_7, .int .u32 a0_8, .slice A0_9 l0_9.length c0_9, .slice A0_10 l0_10.length c0_10] 43 (0, 0)) zqxp2_0 hb); have n1_ := zam (below_step zqxp2_1 hb); clear BK584; clear HB; have BK584 := n0_; have HB := n1_; clear n0_ n1_; (try clear hb); (try clear hb2); (try clear hk); (try clear hi)))
   go_meet
   case rel => exact ⟨_, (true), zqxp2_12, H', ⟨by first | omega | exact Nat.le_refl _⟩, ⟨by first | (with_reducible exact BK584.out) | (with_reducible exact zdn BK584.out _) | (with_reducible exact zdr BK584.out) | ((with_reducible repeat (first | refine zdn ?_ _ | refine zdr ?_ | refine blk_alloc ?_ _)); exact BK584.out)⟩, ⟨by repeat (first | (with_reducible first | exact HB.out | apply below_alloc | apply pw_below_drewN | apply below_drew1 | refine below_set ?_ GE584.out) | exact HB.out)⟩⟩
 case rest =>
  clear HC2
  try clear c1
  try clear p2
  try clear c3
  try clear p4
  try clear c5
  obtain ⟨kq, x18_1, rfl, HA, HJ1, BK584, HB⟩ := hcut
  cases kq with
  | zero => exact absurd HA.out (by simp [weftlaw3_Ip4Apart.j0])
  | succ kj1 =>
   have H := HA.out
   clear HA
   simp only [weftlaw3_Ip4Apart.j0] at H
   by_cases c10 : x18_1 = true
   ·
    subst c10
    have H1 : (some false) = some r := by rw [if_pos rfl] at H; exact H
    clear H
    have H := H1
    clear H1
    obtain rfl := Option.some.inj H
    go_wp2
    go_ret
    exact ⟨by first | rfl | (simp [errW_none, errW_some] <;> rfl) | (simp [*, errW_none, errW_some] <;> rfl), by repeat (first | (with_reducible first | exact HB.out | apply below_alloc | apply pw_below_drewN | apply below_drew1 | refine below_set ?_ GE584.out) | exact HB.out)⟩
   ·
    replace c10 := Bool.eq_false_iff.mpr c10
    subst c10
    have H1 : ((ip4_Build.f kj1 a0_0 a0_1 a0_2 a0_3 a0_4 a0_5 a0_6 a0_7 a0_8 l0_9 l0_10).bind fun bt587 => (if bt587.2 = 0 then ((weftlaw3_clone.f kj1 bt587.1).bind fun t591 => ((weftlaw3_clone.f kj1 bt587.1).bind fun t594 => ((ip4_Parse.f kj1 t591).bind fun bt597 => (weftlaw3_Ip4Apart.l0 kj1 bt587.1 t591 t594 bt597.2.2.2.2.2.2.2.2.2.2.2 0 a0_0 a0_1 a0_2 a0_3 a0_4 a0_5 a0_6 a0_7 a0_8 l0_9 l0_10 bt597.1 bt597.2.1 bt597.2.2.1 bt597.2.2.2.1 bt597.2.2.2.2.1 bt597.2.2.2.2.2.1 bt597.2.2.2.2.2.2.1 bt597.2.2.2.2.2.2.2.1 bt597.2.2.2.2.2.2.2.2.1 bt597.2.2.2.2.2.2.2.2.2.1 bt597.2.2.2.2.2.2.2.2.2.2.1)))) else (some ((bt587.1.length : Int) == 0)))) = some r := by rw [if_neg (show ¬ (false = true) by decide)] at H; exact H
    clear H
    have H := H1
    clear H1
    replace H := Option.bind_eq_some_iff.mp H
    obtain ⟨⟨t587, t590⟩, A110, H⟩ := H
    replace H : (if t590 = 0 then ((weftlaw3_clone.f kj1 t587).bind fun t591 => ((weftlaw3_clone.f kj1 t587).bind fun t594 => ((ip4_Parse.f kj1 t591).bind fun bt597 => (weftlaw3_Ip4Apart.l0 kj1 t587 t591 t594 bt597.2.2.2.2.2.2.2.2.2.2.2 0 a0_0 a0_1 a0_2 a0_3 a0_4 a0_5 a0_6 a0_7 a0_8 l0_9 l0_10 bt597.1 bt597.2.1 bt597.2.2.1 bt597.2.2.2.1 bt597.2.2.2.2.1 bt597.2.2.2.2.2.1 bt597.2.2.2.2.2.2.1 bt597.2.2.2.2.2.2.2.1 bt597.2.2.2.2.2.2.2.2.1 bt597.2.2.2.2.2.2.2.2.2.1 bt597.2.2.2.2.2.2.2.2.2.2.1)))) else (some ((t587.length : Int) == 0))) = some r := H
    have A11 := zam A110
    clear A110
    by_cases c12 : t590 = 0
    ·
     rw [if_pos c12] at H
     have c12b0 : (t590 == 0) = true := beq_iff_eq.mpr c12
     have c12b1 : (t590 != 0) = false := bne_eq_false_iff_eq.mpr c12
     clear c12
     replace H := Option.bind_eq_some_iff.mp H
     obtain ⟨t591, A130, H⟩ := H
     replace H : ((weftlaw3_clone.f kj1 t587).bind fun t594 => ((ip4_Parse.f kj1 t591).bind fun bt597 => (weftlaw3_Ip4Apart.l0 kj1 t587 t591 t594 bt597.2.2.2.2.2.2.2.2.2.2.2 0 a0_0 a0_1 a0_2 a0_3 a0_4 a0_5 a0_6 a0_7 a0_8 l0_9 l0_10 bt597.1 bt597.2.1 bt597.2.2.1 bt597.2.2.2.1 bt597.2.2.2.2.1 bt597.2.2.2.2.2.1 bt597.2.2.2.2.2.2.1 bt597.2.2.2.2.2.2.2.1 bt597.2.2.2.2.2.2.2.2.1 bt597.2.2.2.2.2.2.2.2.2.1 bt597.2.2.2.2.2.2.2.2.2.2.1))) = some r := H
     have A13 := zam A130
     clear A130
     replace H := Option.bind_eq_some_iff.mp H
     obtain ⟨t594, A140, H⟩ := H
     replace H : ((ip4_Parse.f kj1 t591).bind fun bt597 => (weftlaw3_Ip4Apart.l0 kj1 t587 t591 t594 bt597.2.2.2.2.2.2.2.2.2.2.2 0 a0_0 a0_1 a0_2 a0_3 a0_4 a0_5 a0_6 a0_7 a0_8 l0_9 l0_10 bt597.1 bt597.2.1 bt597.2.2.1 bt597.2.2.2.1 bt597.2.2.2.2.1 bt597.2.2.2.2.2.1 bt597.2.2.2.2.2.2.1 bt597.2.2.2.2.2.2.2.1 bt597.2.2.2.2.2.2.2.2.1 bt597.2.2.2.2.2.2.2.2.2.1 bt597.2.2.2.2.2.2.2.2.2.2.1)) = some r := H
     have A14 := zam A140
     clear A140
     replace H := Option.bind_eq_some_iff.mp H
     obtain ⟨⟨t597, t598, t599, t600, t601, t602, t603, t604, t605, t606, t609, t612⟩, A150, H⟩ := H
     replace H : (weftlaw3_Ip4Apart.l0 kj1 t587 t591 t594 t612 0 a0_0 a0_1 a0_2 a0_3 a0_4 a0_5 a0_6 a0_7 a0_8 l0_9 l0_10 t597 t598 t599 t600 t601 t602 t603 t604 t605 t606 t609) = some r := H
     have A15 := zam A150
     clear A150
     have H' := zam H
     clear H
     have hcz16_0 : wc.cell? ⟨gb584, 0, none⟩ = some (.int .u8 a0_0) := (zbc BK584.out 0).trans rfl
     have hcz16_1 : wc.cell? ⟨gb584, 1, none⟩ = some (.int .u16 a0_1) := (zbc BK584.out 1).trans rfl
     have hcz16_2 : wc.cell? ⟨gb584, 2, none⟩ = some (.bool a0_2) := (zbc BK584.out 2).trans rfl
     have hcz16_3 : wc.cell? ⟨gb584, 3, none⟩ = some (.bool a0_3) := (zbc BK584.out 3).trans rfl
     have hcz16_4 : wc.cell? ⟨gb584, 4, none⟩ = some (.int .i64 a0_4) := (zbc BK584.out 4).trans rfl
     have hcz16_5 : wc.cell? ⟨gb584, 5, none⟩ = some (.int .u8 a0_5) := (zbc BK584.out 5).trans rfl
     have hcz16_6 : wc.cell? ⟨gb584, 6, none⟩ = some (.int .u8 a0_6) := (zbc BK584.out 6).trans rfl
     have hcz16_7 : wc.cell? ⟨gb584, 7, none⟩ = some (.int .u32 a0_7) := (zbc BK584.out 7).trans rfl
     have hcz16_8 : wc.cell? ⟨gb584, 8, none⟩ = some (.int .u32 a0_8) := (zbc BK584.out 8).trans rfl
     have hcz16_9 : wc.cell? ⟨gb584, 9, none⟩ = some (.slice A0_9 l0_9.length c0_9) := (zbc BK584.out 9).trans rfl
     have hcz16_10 : wc.cell? ⟨gb584, 10, none⟩ = some (.slice A0_10 l0_10.length c0_10) := (zbc BK584.out 10).trans rfl
     have hfz16_0 := zbf BK584.out 0
     have hfz16_1 := zbf BK584.out 1
     have hfz16_2 := zbf BK584.out 2
     have hfz16_3 := zbf BK584.out 3
     have hfz16_4 := zbf BK584.out 4
     have hfz16_5 := zbf BK584.out 5
     have hfz16_6 := zbf BK584.out 6
     have hfz16_7 := zbf BK584.out 7
     have hfz16_8 := zbf BK584.out 8
     have hfz16_9 := zbf BK584.out 9
     have hfz16_10 := zbf BK584.out 10
     go_wp2_with (first | ((with_reducible refine gate_callee (f := 22) rfl ?_); refine goesL_ (some 21) rfl rfl Try.func22 (by kernel_rfl) rfl #[.agg #[.int .u8 a0_0, .int .u16 a0_1, .bool a0_2, .bool a0_3, .int .i64 a0_4, .int .u8 a0_5, .int .u8 a0_6, .int .u32 a0_7, .int .u32 a0_8, .slice A0_9 l0_9.length c0_9, .slice A0_10 l0_10.length c0_10]] rfl zqxp2_3 ?_; (with_reducible refine (ip4_Build.calls kj1 a0_0 a0_1 a0_2 a0_3 a0_4 a0_5 a0_6 a0_7 a0_8 _ _ l0_9 _ _ l0_10 t587 t590 _ ?side1 ?side2 ?side3 ?side4 A11.out).mono ?_); (case side1 => repeat (first | exact (Kd.C_below HR0_9.out HB.out) | (with_reducible refine Kd.C_alloc ?_ _) | (with_reducible refine Kd.C_drewN ?_ _) | (with_reducible refine Kd.C_drew ?_))); (case side2 => exact HC0_9.out); (case side3 => repeat (first | exact (Kd.C_below HR0_10.out HB.out) | (with_reducible refine Kd.C_alloc ?_ _) | (with_reducible refine Kd.C_drewN ?_ _) | (with_reducible refine Kd.C_drew ?_))); (case side4 => exact HC0_10.out); rintro e w17 ⟨v588, rfl, ho0, hb⟩; refine ⟨_, rfl, ?_⟩; have n0_ := zam (Kd.R_lower ho0 (below_size zqxp2_1)); have n1_ := zam (blk_below (g := gb584) (o := .cells #[.int .u8 a0_0, .int .u16 a0_1, .bool a0_2, .bool a0_3, .int .i64 a0_4, .int .u8 a0_5, .int .u8 a0_6, .int .u32 a0_7, .int .u32 a0_8, .slice A0_9 l0_9.length c0_9, .slice A0_10 l0_10.length c0_10] 43 (0, 0)) zqxp2_0 hb); have n2_ := zam (below_step zqxp2_1 hb); clear BK584; clear HB; have HO589 := n0_; have BK584 := n1_; have HB := n2_; clear n0_ n1_ n2_; (try clear hb); (try clear hb2); (try clear hk); (try clear hi); (try clear ho0); obtain ⟨Ao18, co18, eo18⟩ := Kd.R_slice HO589.out; subst eo18) | ((with_reducible refine gate_callee (f := 18) rfl ?_); (fail_if_success (have h_ := UA13)); refine goesL_ (some 30) rfl rfl Try.func18 (by kernel_rfl) rfl #[.slice Ao18 t587.length co18] rfl zqxp2_3 ?_; (with_reducible refine (weftlaw3_clone.calls kj1 _ _ t587 t591 _ ?side1 ?side2 A13.out).mono ?_); (case side1 => repeat (first | exact (Kd.R_reads' HO589.out).2.2 | (with_reducible refine Kd.C_alloc ?_ _) | (with_reducible refine Kd.C_drewN ?_ _) | (with_reducible refine Kd.C_drew ?_))); (case side2 => exact (Kd.R_reads' HO589.out).2.1); rintro e w19 ⟨v592, rfl, ho0, hb⟩; refine ⟨_, rfl, ?_⟩; have n0_ := zam (Kd.R_elder' zqxp2_5 (Kd.R_base ho0) hb); have n1_ := zam (Kd.R_lower (Kd.R_new' ho0 (Kd.R_lt zqxp2_5)) (below_size zqxp2_1)); have n2_ := zam (blk_below (g := gb584) (o := .cells #[.int .u8 a0_0, .int .u16 a0_1, .bool a0_2, .bool a0_3, .int .i64 a0_4, .int .u8 a0_5, .int .u8 a0_6, .int .u32 a0_7, .int .u32 a0_8, .slice A0_9 l0_9.length c0_9, .slice A0_10 l0_10.length c0_10] 43 (0, 0)) zqxp2_0 hb); have n3_ := zam (below_step zqxp2_1 hb); clear HO589; clear BK584; clear HB; have HO589 := n0_; have HO593 := n1_; have BK584 := n2_; have HB := n3_; clear n0_ n1_ n2_ n3_; (try clear hb); (try clear hb2); (try clear hk); (try clear hi); (try clear ho0); have UA13 := True.intro) | ((with_reducible refine gate_callee (f := 18) rfl ?_); (fail_if_success (have h_ := UA14)); refine goesL_ (some 32) rfl rfl Try.func18 (by kernel_rfl) rfl #[.slice Ao18 t587.length co18] rfl zqxp2_3 ?_; (with_reducible refine (weftlaw3_clone.calls kj1 _ _ t587 t594 _ ?side1 ?side2 A14.out).mono ?_); (case side1 => repeat (first | exact (Kd.R_reads' HO589.out).2.2 | (with_reducible refine Kd.C_alloc ?_ _) | (with_reducible refine Kd.C_drewN ?_ _) | (with_reducible refine Kd.C_drew ?_))); (case side2 => exact (Kd.R_reads' HO589.out).2.1); rintro e w20 ⟨v595, rfl, ho0, hb⟩; refine ⟨_, rfl, ?_⟩; have n0_ := zam (Kd.R_elder' zqxp2_5 (Kd.R_base ho0) hb); have n1_ := zam (Kd.R_elder' zqxp2_7 (Kd.R_base ho0) hb); have n2_ := zam (Kd.R_lower (Kd.R_new' (Kd.R_new' ho0 (Kd.R_lt zqxp2_5)) (Kd.R_lt zqxp2_7)) (below_size zqxp2_1)); have n3_ := zam (blk_below (g := gb584) (o := .cells #[.int .u8 a0_0, .int .u16 a0_1, .bool a0_2, .bool a0_3, .int .i64 a0_4, .int .u8 a0_5, .int .u8 a0_6, .int .u32 a0_7, .int .u32 a0_8, .slice A0_9 l0_9.length c0_9, .slice A0_10 l0_10.length c0_10] 43 (0, 0)) zqxp2_0 hb); have n4_ := zam (below_step zqxp2_1 hb); clear HO589; clear HO593; clear BK584; clear HB; have HO589 := n0_; have HO593 := n1_; have HO596 := n2_; have BK584 := n3_; have HB := n4_; clear n0_ n1_ n2_ n3_ n4_; (try clear hb); (try clear hb2); (try clear hk); (try clear hi); (try clear ho0); obtain ⟨Ao21, co21, eo21⟩ := Kd.R_slice HO593.out; subst eo21; have UA14 := True.intro) | ((with_reducible refine gate_callee (f := 38) rfl ?_); refine goesL_ (some 35) rfl rfl Try.func38 (by kernel_rfl) rfl #[.slice Ao21 t591.length co21] rfl zqxp2_3 ?_; (with_reducible refine (ip4_Parse.calls kj1 _ _ t591 t597 t598 t599 t600 t601 t602 t603 t604 t605 t606 t609 t612 _ ?side1 ?side2 A15.out).mono ?_); (case side1 => repeat (first | exact (Kd.R_reads' HO593.out).2.2 | (with_reducible refine Kd.C_alloc ?_ _) | (with_reducible refine Kd.C_drewN ?_ _) | (with_reducible refine Kd.C_drew ?_))); (case side2 => exact (Kd.R_reads' HO593.out).2.1); rintro e w22 ⟨v607, v610, rfl, ho0, ho1, hb⟩; refine ⟨_, rfl, ?_⟩; have n0_ := zam (Kd.R_below zqxp2_5 hb); have n1_ := zam (Kd.R_below zqxp2_7 hb); have n2_ := zam (Kd.R_below zqxp2_11 hb); have n3_ := zam (Kd.V_lower (Kd.V_mono (ok' := fun k_ => some k_ ≠ (.slice Ao18 t587.length co18 : Value).ownBlock ∧ some k_ ≠ (.slice Ao21 t591.length co21 : Value).ownBlock ∧ some k_ ≠ (v595 : Value).ownBlock ∧ k_ ≠ gb584) ho0 (fun k_ hk_ => ⟨(Kd.fresh' (Kd.R_lt zqxp2_5) k_ hk_), (Kd.fresh' (Kd.R_lt zqxp2_7) k_ hk_), (Kd.fresh' (Kd.R_lt zqxp2_11) k_ hk_), (Kd.freshB (g := gb584) (o := .cells #[.int .u8 a0_0, .int .u16 a0_1, .bool a0_2, .bool a0_3, .int .i64 a0_4, .int .u8 a0_5, .int .u8 a0_6, .int .u32 a0_7, .int .u32 a0_8, .slice A0_9 l0_9.length c0_9, .slice A0_10 l0_10.length c0_10] 43 (0, 0)) zqxp2_0 k_ hk_)⟩)) (below_size zqxp2_1)); have n4_ := zam (Kd.V_lower (Kd.V_mono (ok' := fun k_ => some k_ ≠ (.slice Ao18 t587.length co18 : Value).ownBlock ∧ some k_ ≠ (.slice Ao21 t591.length co21 : Value).ownBlock ∧ some k_ ≠ (v595 : Value).ownBlock ∧ k_ ≠ gb584) ho1 (fun k_ hk_ => ⟨(Kd.fresh' (Kd.R_lt zqxp2_5) k_ hk_), (Kd.fresh' (Kd.R_lt zqxp2_7) k_ hk_), (Kd.fresh' (Kd.R_lt zqxp2_11) k_ hk_), (Kd.freshB (g := gb584) (o := .cells #[.int .u8 a0_0, .int .u16 a0_1, .bool a0_2, .bool a0_3, .int .i64 a0_4, .int .u8 a0_5, .int .u8 a0_6, .int .u32 a0_7, .int .u32 a0_8, .slice A0_9 l0_9.length c0_9, .slice A0_10 l0_10.length c0_10] 43 (0, 0)) zqxp2_0 k_ hk_)⟩)) (below_size zqxp2_1)); have n5_ := zam (blk_below (g := gb584) (o := .cells #[.int .u8 a0_0, .int .u16 a0_1, .bool a0_2, .bool a0_3, .int .i64 a0_4, .int .u8 a0_5, .int .u8 a0_6, .int .u32 a0_7, .int .u32 a0_8, .slice A0_9 l0_9.length c0_9, .slice A0_10 l0_10.length c0_10] 43 (0, 0)) zqxp2_0 hb); have n6_ := zam (below_step zqxp2_1 hb); clear HO589; clear HO593; clear HO596; clear BK584; clear HB; have HO589 := n0_; have HO593 := n1_; have HO596 := n2_; have HO608 := n3_; have HO611 := n4_; have BK584 := n5_; have HB := n6_; clear n0_ n1_ n2_ n3_ n4_ n5_ n6_; (try clear hb); (try clear hb2); (try clear hk); (try clear hi); (try clear ho0); (try clear ho1)) | ((with_reducible refine gate_dst (N := 7) rfl ?_); refine box_event ?hg (N := 7) ?hd (cs := #[.int .u8 0, .int .u16 0, .bool false, .bool false, .int .i64 0, .int .u8 0, .int .u8 0, .int .u32 0, .int .u32 0, .slice none 0 0, .slice none 0 0]) (t := 43) ?hr ?_; (case hd => rfl); (case hg => rfl); (case hr => first | (go_simp; done) | (go_simp; rfl)); intro gb613 hg w23 hbox hb; have n0_ := zam (Kd.R_below zqxp2_5 hb); have n1_ := zam (Kd.R_below zqxp2_7 hb); have n2_ := zam (Kd.R_below zqxp2_11 hb); have n3_ := zam (Kd.V_below (Kd.V_elderB (by (with_reducible repeat (first | apply Kd.V_alloc | apply Kd.V_drewN | apply Kd.V_drew)); exact HO608.out) gb613 (Nat.le_of_eq hg.symm)) hb); have n4_ := zam (Kd.V_below (Kd.V_elderB (by (with_reducible repeat (first | apply Kd.V_alloc | apply Kd.V_drewN | apply Kd.V_drew)); exact HO611.out) gb613 (Nat.le_of_eq hg.symm)) hb); have n5_ := zam (blk_below (g := gb584) (o := .cells #[.int .u8 a0_0, .int .u16 a0_1, .bool a0_2, .bool a0_3, .int .i64 a0_4, .int .u8 a0_5, .int .u8 a0_6, .int .u32 a0_7, .int .u32 a0_8, .slice A0_9 l0_9.length c0_9, .slice A0_10 l0_10.length c0_10] 43 (0, 0)) zqxp2_0 hb); have n6_ := zam (below_step zqxp2_1 hb); have n7_ := zam (hbox); have n8_ := zam ((by rw [hg]; exact (below_size zqxp2_1) : w.heap.size ≤ gb613)); have n9_ := zam ((by rw [hg]; exact (below_size zqxp2_1) : w.heap.size ≤ gb613)); have n10_ := zam ((by rw [hg]; exact Nat.ne_of_lt (blk_lt (g := gb584) (o := .cells #[.int .u8 a0_0, .int .u16 a0_1, .bool a0_2, .bool a0_3, .int .i64 a0_4, .int .u8 a0_5, .int .u8 a0_6, .int .u32 a0_7, .int .u32 a0_8, .slice A0_9 l0_9.length c0_9, .slice A0_10 l0_10.length c0_10] 43 (0, 0)) zqxp2_0) : gb584 ≠ gb613)); have n11_ := zam ((by rw [hg]; exact Nat.ne_of_gt (blk_lt (g := gb584) (o := .cells #[.int .u8 a0_0, .int .u16 a0_1, .bool a0_2, .bool a0_3, .int .i64 a0_4, .int .u8 a0_5, .int .u8 a0_6, .int .u32 a0_7, .int .u32 a0_8, .slice A0_9 l0_9.length c0_9, .slice A0_10 l0_10.length c0_10] 43 (0, 0)) zqxp2_0) : gb613 ≠ gb584)); clear HO589; clear HO593; clear HO596; clear HO608; clear HO611; clear BK584; clear HB; have HO589 := n0_; have HO593 := n1_; have HO596 := n2_; have HO608 := n3_; have HO611 := n4_; have BK584 := n5_; have HB := n6_; have BK613 := n7_; have GW613 := n8_; have GE613 := n9_; have NB584_613 := n10_; have NB613_584 := n11_; clear n0_ n1_ n2_ n3_ n4_ n5_ n6_ n7_ n8_ n9_ n10_ n11_; clear hb hbox hg; have hnb24 := NB613_584.out; have hnc24 := NB584_613.out; have hcz25_0 : w23.cell? ⟨gb613, 0, none⟩ = some (.int .u8 0) := (zbc BK613.out 0).trans rfl; have hcz25_1 : w23.cell? ⟨gb613, 1, none⟩ = some (.int .u16 0) := (zbc BK613.out 1).trans rfl; have hcz25_2 : w23.cell? ⟨gb613, 2, none⟩ = some (.bool false) := (zbc BK613.out 2).trans rfl; have hcz25_3 : w23.cell? ⟨gb613, 3, none⟩ = some (.bool false) := (zbc BK613.out 3).trans rfl; have hcz25_4 : w23.cell? ⟨gb613, 4, none⟩ = some (.int .i64 0) := (zbc BK613.out 4).trans rfl; have hcz25_5 : w23.cell? ⟨gb613, 5, none⟩ = some (.int .u8 0) := (zbc BK613.out 5).trans rfl; have hcz25_6 : w23.cell? ⟨gb613, 6, none⟩ = some (.int .u8 0) := (zbc BK613.out 6).trans rfl; have hcz25_7 : w23.cell? ⟨gb613, 7, none⟩ = some (.int .u32 0) := (zbc BK613.out 7).trans rfl; have hcz25_8 : w23.cell? ⟨gb613, 8, none⟩ = some (.int .u32 0) := (zbc BK613.out 8).trans rfl; have hcz25_9 : w23.cell? ⟨gb613, 9, none⟩ = some (.slice none 0 0) := (zbc BK613.out 9).trans rfl; have hcz25_10 : w23.cell? ⟨gb613, 10, none⟩ = some (.slice none 0 0) := (zbc BK613.out 10).trans rfl; have hfz25_0 := zbf BK613.out 0; have hfz25_1 := zbf BK613.out 1; have hfz25_2 := zbf BK613.out 2; have hfz25_3 := zbf BK613.out 3; have hfz25_4 := zbf BK613.out 4; have hfz25_5 := zbf BK613.out 5; have hfz25_6 := zbf BK613.out 6; have hfz25_7 := zbf BK613.out 7; have hfz25_8 := zbf BK613.out 8; have hfz25_9 := zbf BK613.out 9; have hfz25_10 := zbf BK613.out 10; obtain ⟨Ao26, co26, eo26⟩ := Kd.V_slice HO608.out; subst eo26; obtain ⟨Ao27, co27, eo27⟩ := Kd.V_slice HO611.out; subst eo27))
     go_loopg [9] kj1 (fun kq v9 w' => ∃ (x5_2 : List Int) (x9_2 : Int), v9 = .int .i64 x9_2 ∧ Aside0 (weftlaw3_Ip4Apart.l0 kq t587 x5_2 t594 t612 x9_2 a0_0 a0_1 a0_2 a0_3 a0_4 a0_5 a0_6 a0_7 a0_8 l0_9 l0_10 t597 t598 t599 t600 t601 t602 t603 t604 t605 t606 t609 = some r) ∧ Aside0 (kq ≤ kj1) ∧ Aside0 (Kd.R (Kd.int .u8) 5 w' w.heap.size (fun k_ => some k_ ≠ ((.slice Ao21 t591.length co21) : Value).ownBlock ∧ some k_ ≠ (v595 : Value).ownBlock) (.slice Ao18 t587.length co18) t587) ∧ Aside0 (Kd.R (Kd.int .u8) 5 w' w.heap.size (fun k_ => some k_ ≠ ((.slice Ao18 t587.length co18) : Value).ownBlock ∧ some k_ ≠ (v595 : Value).ownBlock) (.slice Ao21 t591.length co21) x5_2) ∧ Aside0 (Kd.R (Kd.int .u8) 5 w' w.heap.size (fun k_ => some k_ ≠ ((.slice Ao18 t587.length co18) : Value).ownBlock ∧ some k_ ≠ ((.slice Ao21 t591.length co21) : Value).ownBlock) v595 t594) ∧ Aside0 (Kd.V (Kd.int .u8) 5 w' w.heap.size (fun k_ => some k_ ≠ ((.slice Ao18 t587.length co18) : Value).ownBlock ∧ some k_ ≠ ((.slice Ao21 t591.length co21) : Value).ownBlock ∧ some k_ ≠ (v595 : Value).ownBlock ∧ k_ ≠ gb584 ∧ k_ ≠ gb613) (.slice Ao26 t606.length co26) t606) ∧ Aside0 (Kd.V (Kd.int .u8) 5 w' w.heap.size (fun k_ => some k_ ≠ ((.slice Ao18 t587.length co18) : Value).ownBlock ∧ some k_ ≠ ((.slice Ao21 t591.length co21) : Value).ownBlock ∧ some k_ ≠ (v595 : Value).ownBlock ∧ k_ ≠ gb584 ∧ k_ ≠ gb613) (.slice Ao27 t609.length co27) t609) ∧ Aside0 (w'.heap[gb584]? = some (.cells #[.int .u8 a0_0, .int .u16 a0_1, .bool a0_2, .bool a0_3, .int .i64 a0_4, .int .u8 a0_5, .int .u8 a0_6, .int .u32 a0_7, .int .u32 a0_8, (.slice A0_9 l0_9.length c0_9), (.slice A0_10 l0_10.length c0_10)] 43 (0, 0))) ∧ Aside0 (w'.heap[gb613]? = some (.cells #[.int .u8 t597, .int .u16 t598, .bool t599, .bool t600, .int .i64 t601, .int .u8 t602, .int .u8 t603, .int .u32 t604, .int .u32 t605, (.slice Ao26 t606.length co26), (.slice Ao27 t609.length co27)] 43 (0, 0))) ∧ Aside0 (Below w.heap.size w w'))
     case atStart => exact ⟨(t591), (0), zqxp2_12, H', ⟨Nat.le_refl _⟩, ⟨by (with_reducible repeat (first | apply Kd.R_alloc | apply Kd.R_drewN | apply Kd.R_drew)); exact Kd.R_mono (Kd.R_far (p := ⟨gb613, 10, none⟩) (Kd.R_far (p := ⟨gb613, 9, none⟩) (Kd.R_far (p := ⟨gb613, 8, none⟩) (Kd.R_far (p := ⟨gb613, 7, none⟩) (Kd.R_far (p := ⟨gb613, 6, none⟩) (Kd.R_far (p := ⟨gb613, 5, none⟩) (Kd.R_far (p := ⟨gb613, 4, none⟩) (Kd.R_far (p := ⟨gb613, 3, none⟩) (Kd.R_far (p := ⟨gb613, 2, none⟩) (Kd.R_far (p := ⟨gb613, 1, none⟩) (Kd.R_far (p := ⟨gb613, 0, none⟩) (Kd.R_types HO589.out BK613.out (by decide)) (fun _ hk => hk.2) (.int .u8 t597)) (fun _ hk => hk.2) (.int .u16 t598)) (fun _ hk => hk.2) (.bool t599)) (fun _ hk => hk.2) (.bool t600)) (fun _ hk => hk.2) (.int .i64 t601)) (fun _ hk => hk.2) (.int .u8 t602)) (fun _ hk => hk.2) (.int .u8 t603)) (fun _ hk => hk.2) (.int .u32 t604)) (fun _ hk => hk.2) (.int .u32 t605)) (fun _ hk => hk.2) (.slice Ao26 t606.length co26)) (fun _ hk => hk.2) (.slice Ao27 t609.length co27)) (fun _ hk => ⟨hk.1.1.2, hk.1.2⟩)⟩, ⟨by (with_reducible repeat (first | apply Kd.R_alloc | apply Kd.R_drewN | apply Kd.R_drew)); exact Kd.R_mono (Kd.R_far (p := ⟨gb613, 10, none⟩) (Kd.R_far (p := ⟨gb613, 9, none⟩) (Kd.R_far (p := ⟨gb613, 8, none⟩) (Kd.R_far (p := ⟨gb613, 7, none⟩) (Kd.R_far (p := ⟨gb613, 6, none⟩) (Kd.R_far (p := ⟨gb613, 5, none⟩) (Kd.R_far (p := ⟨gb613, 4, none⟩) (Kd.R_far (p := ⟨gb613, 3, none⟩) (Kd.R_far (p := ⟨gb613, 2, none⟩) (Kd.R_far (p := ⟨gb613, 1, none⟩) (Kd.R_far (p := ⟨gb613, 0, none⟩) (Kd.R_types HO593.out BK613.out (by decide)) (fun _ hk => hk.2) (.int .u8 t597)) (fun _ hk => hk.2) (.int .u16 t598)) (fun _ hk => hk.2) (.bool t599)) (fun _ hk => hk.2) (.bool t600)) (fun _ hk => hk.2) (.int .i64 t601)) (fun _ hk => hk.2) (.int .u8 t602)) (fun _ hk => hk.2) (.int .u8 t603)) (fun _ hk => hk.2) (.int .u32 t604)) (fun _ hk => hk.2) (.int .u32 t605)) (fun _ hk => hk.2) (.slice Ao26 t606.length co26)) (fun _ hk => hk.2) (.slice Ao27 t609.length co27)) (fun _ hk => ⟨hk.1.1.2, hk.1.2⟩)⟩, ⟨by (with_reducible repeat (first | apply Kd.R_alloc | apply Kd.R_drewN | apply Kd.R_drew)); exact Kd.R_mono (Kd.R_far (p := ⟨gb613, 10, none⟩) (Kd.R_far (p := ⟨gb613, 9, none⟩) (Kd.R_far (p := ⟨gb613, 8, none⟩) (Kd.R_far (p := ⟨gb613, 7, none⟩) (Kd.R_far (p := ⟨gb613, 6, none⟩) (Kd.R_far (p := ⟨gb613, 5, none⟩) (Kd.R_far (p := ⟨gb613, 4, none⟩) (Kd.R_far (p := ⟨gb613, 3, none⟩) (Kd.R_far (p := ⟨gb613, 2, none⟩) (Kd.R_far (p := ⟨gb613, 1, none⟩) (Kd.R_far (p := ⟨gb613, 0, none⟩) (Kd.R_types HO596.out BK613.out (by decide)) (fun _ hk => hk.2) (.int .u8 t597)) (fun _ hk => hk.2) (.int .u16 t598)) (fun _ hk => hk.2) (.bool t599)) (fun _ hk => hk.2) (.bool t600)) (fun _ hk => hk.2) (.int .i64 t601)) (fun _ hk => hk.2) (.int .u8 t602)) (fun _ hk => hk.2) (.int .u8 t603)) (fun _ hk => hk.2) (.int .u32 t604)) (fun _ hk => hk.2) (.int .u32 t605)) (fun _ hk => hk.2) (.slice Ao26 t606.length co26)) (fun _ hk => hk.2) (.slice Ao27 t609.length co27)) (fun _ hk => ⟨hk.1.1.2, hk.1.2⟩)⟩, ⟨by (with_reducible repeat (first | apply Kd.V_alloc | apply Kd.V_drewN | apply Kd.V_drew)); exact Kd.V_mono (Kd.V_far (p := ⟨gb613, 10, none⟩) (Kd.V_far (p := ⟨gb613, 9, none⟩) (Kd.V_far (p := ⟨gb613, 8, none⟩) (Kd.V_far (p := ⟨gb613, 7, none⟩) (Kd.V_far (p := ⟨gb613, 6, none⟩) (Kd.V_far (p := ⟨gb613, 5, none⟩) (Kd.V_far (p := ⟨gb613, 4, none⟩) (Kd.V_far (p := ⟨gb613, 3, none⟩) (Kd.V_far (p := ⟨gb613, 2, none⟩) (Kd.V_far (p := ⟨gb613, 1, none⟩) (Kd.V_far (p := ⟨gb613, 0, none⟩) (Kd.V_mono HO608.out (fun k_ hk => (⟨hk, hk.2⟩ : _ ∧ k_ ≠ gb613))) (fun _ hk => hk.2) (.int .u8 t597)) (fun _ hk => hk.2) (.int .u16 t598)) (fun _ hk => hk.2) (.bool t599)) (fun _ hk => hk.2) (.bool t600)) (fun _ hk => hk.2) (.int .i64 t601)) (fun _ hk => hk.2) (.int .u8 t602)) (fun _ hk => hk.2) (.int .u8 t603)) (fun _ hk => hk.2) (.int .u32 t604)) (fun _ hk => hk.2) (.int .u32 t605)) (fun _ hk => hk.2) (.slice Ao26 t606.length co26)) (fun _ hk => hk.2) (.slice Ao27 t609.length co27)) (fun _ hk => ⟨hk.1.1.1, ⟨hk.1.1.2.1, ⟨hk.1.1.2.2.1, ⟨hk.1.1.2.2.2, hk.1.2⟩⟩⟩⟩)⟩, ⟨by (with_reducible repeat (first | apply Kd.V_alloc | apply Kd.V_drewN | apply Kd.V_drew)); exact Kd.V_mono (Kd.V_far (p := ⟨gb613, 10, none⟩) (Kd.V_far (p := ⟨gb613, 9, none⟩) (Kd.V_far (p := ⟨gb613, 8, none⟩) (Kd.V_far (p := ⟨gb613, 7, none⟩) (Kd.V_far (p := ⟨gb613, 6, none⟩) (Kd.V_far (p := ⟨gb613, 5, none⟩) (Kd.V_far (p := ⟨gb613, 4, none⟩) (Kd.V_far (p := ⟨gb613, 3, none⟩) (Kd.V_far (p := ⟨gb613, 2, none⟩) (Kd.V_far (p := ⟨gb613, 1, none⟩) (Kd.V_far (p := ⟨gb613, 0, none⟩) (Kd.V_mono HO611.out (fun k_ hk => (⟨hk, hk.2⟩ : _ ∧ k_ ≠ gb613))) (fun _ hk => hk.2) (.int .u8 t597)) (fun _ hk => hk.2) (.int .u16 t598)) (fun _ hk => hk.2) (.bool t599)) (fun _ hk => hk.2) (.bool t600)) (fun _ hk => hk.2) (.int .i64 t601)) (fun _ hk => hk.2) (.int .u8 t602)) (fun _ hk => hk.2) (.int .u8 t603)) (fun _ hk => hk.2) (.int .u32 t604)) (fun _ hk => hk.2) (.int .u32 t605)) (fun _ hk => hk.2) (.slice Ao26 t606.length co26)) (fun _ hk => hk.2) (.slice Ao27 t609.length co27)) (fun _ hk => ⟨hk.1.1.1, ⟨hk.1.1.2.1, ⟨hk.1.1.2.2.1, ⟨hk.1.1.2.2.2, hk.1.2⟩⟩⟩⟩)⟩, ⟨by (with_reducible repeat (first | refine zdn ?_ _ | refine zdr ?_ | refine blk_alloc ?_ _)); refine blk_far ?_ NB584_613.out _; (with_reducible repeat (first | refine zdn ?_ _ | refine zdr ?_ | refine blk_alloc ?_ _)); refine blk_far ?_ NB584_613.out _; (with_reducible repeat (first | refine zdn ?_ _ | refine zdr ?_ | refine blk_alloc ?_ _)); refine blk_far ?_ NB584_613.out _; (with_reducible repeat (first | refine zdn ?_ _ | refine zdr ?_ | refine blk_alloc ?_ _)); refine blk_far ?_ NB584_613.out _; (with_reducible repeat (first | refine zdn ?_ _ | refine zdr ?_ | refine blk_alloc ?_ _)); refine blk_far ?_ NB584_613.out _; (with_reducible repeat (first | refine zdn ?_ _ | refine zdr ?_ | refine blk_alloc ?_ _)); refine blk_far ?_ NB584_613.out _; (with_reducible repeat (first | refine zdn ?_ _ | refine zdr ?_ | refine blk_alloc ?_ _)); refine blk_far ?_ NB584_613.out _; (with_reducible repeat (first | refine zdn ?_ _ | refine zdr ?_ | refine blk_alloc ?_ _)); refine blk_far ?_ NB584_613.out _; (with_reducible repeat (first | refine zdn ?_ _ | refine zdr ?_ | refine blk_alloc ?_ _)); refine blk_far ?_ NB584_613.out _; (with_reducible repeat (first | refine zdn ?_ _ | refine zdr ?_ | refine blk_alloc ?_ _)); refine blk_far ?_ NB584_613.out _; (with_reducible repeat (first | refine zdn ?_ _ | refine zdr ?_ | refine blk_alloc ?_ _)); refine blk_far ?_ NB584_613.out _; first | (with_reducible exact BK584.out) | (with_reducible exact zdn BK584.out _) | (with_reducible exact zdr BK584.out) | ((with_reducible repeat (first | refine zdn ?_ _ | refine zdr ?_ | refine blk_alloc ?_ _)); exact BK584.out)⟩, ⟨by (with_reducible repeat (first | refine zdn ?_ _ | refine zdr ?_ | refine blk_alloc ?_ _)); refine blk_put (cs := #[.int .u8 t597, .int .u16 t598, .bool t599, .bool t600, .int .i64 t601, .int .u8 t602, .int .u8 t603, .int .u32 t604, .int .u32 t605, .slice Ao26 t606.length co26, .slice none 0 0]) ?_ 10 _ rfl; (with_reducible repeat (first | refine zdn ?_ _ | refine zdr ?_ | refine blk_alloc ?_ _)); refine blk_put (cs := #[.int .u8 t597, .int .u16 t598, .bool t599, .bool t600, .int .i64 t601, .int .u8 t602, .int .u8 t603, .int .u32 t604, .int .u32 t605, .slice none 0 0, .slice none 0 0]) ?_ 9 _ rfl; (with_reducible repeat (first | refine zdn ?_ _ | refine zdr ?_ | refine blk_alloc ?_ _)); refine blk_put (cs := #[.int .u8 t597, .int .u16 t598, .bool t599, .bool t600, .int .i64 t601, .int .u8 t602, .int .u8 t603, .int .u32 t604, .int .u32 0, .slice none 0 0, .slice none 0 0]) ?_ 8 _ rfl; (with_reducible repeat (first | refine zdn ?_ _ | refine zdr ?_ | refine blk_alloc ?_ _)); refine blk_put (cs := #[.int .u8 t597, .int .u16 t598, .bool t599, .bool t600, .int .i64 t601, .int .u8 t602, .int .u8 t603, .int .u32 0, .int .u32 0, .slice none 0 0, .slice none 0 0]) ?_ 7 _ rfl; (with_reducible repeat (first | refine zdn ?_ _ | refine zdr ?_ | refine blk_alloc ?_ _)); refine blk_put (cs := #[.int .u8 t597, .int .u16 t598, .bool t599, .bool t600, .int .i64 t601, .int .u8 t602, .int .u8 0, .int .u32 0, .int .u32 0, .slice none 0 0, .slice none 0 0]) ?_ 6 _ rfl; (with_reducible repeat (first | refine zdn ?_ _ | refine zdr ?_ | refine blk_alloc ?_ _)); refine blk_put (cs := #[.int .u8 t597, .int .u16 t598, .bool t599, .bool t600, .int .i64 t601, .int .u8 0, .int .u8 0, .int .u32 0, .int .u32 0, .slice none 0 0, .slice none 0 0]) ?_ 5 _ rfl; (with_reducible repeat (first | refine zdn ?_ _ | refine zdr ?_ | refine blk_alloc ?_ _)); refine blk_put (cs := #[.int .u8 t597, .int .u16 t598, .bool t599, .bool t600, .int .i64 0, .int .u8 0, .int .u8 0, .int .u32 0, .int .u32 0, .slice none 0 0, .slice none 0 0]) ?_ 4 _ rfl; (with_reducible repeat (first | refine zdn ?_ _ | refine zdr ?_ | refine blk_alloc ?_ _)); refine blk_put (cs := #[.int .u8 t597, .int .u16 t598, .bool t599, .bool false, .int .i64 0, .int .u8 0, .int .u8 0, .int .u32 0, .int .u32 0, .slice none 0 0, .slice none 0 0]) ?_ 3 _ rfl; (with_reducible repeat (first | refine zdn ?_ _ | refine zdr ?_ | refine blk_alloc ?_ _)); refine blk_put (cs := #[.int .u8 t597, .int .u16 t598, .bool false, .bool false, .int .i64 0, .int .u8 0, .int .u8 0, .int .u32 0, .int .u32 0, .slice none 0 0, .slice none 0 0]) ?_ 2 _ rfl; (with_reducible repeat (first | refine zdn ?_ _ | refine zdr ?_ | refine blk_alloc ?_ _)); refine blk_put (cs := #[.int .u8 t597, .int .u16 0, .bool false, .bool false, .int .i64 0, .int .u8 0, .int .u8 0, .int .u32 0, .int .u32 0, .slice none 0 0, .slice none 0 0]) ?_ 1 _ rfl; (with_reducible repeat (first | refine zdn ?_ _ | refine zdr ?_ | refine blk_alloc ?_ _)); refine blk_put (cs := #[.int .u8 0, .int .u16 0, .bool false, .bool false, .int .i64 0, .int .u8 0, .int .u8 0, .int .u32 0, .int .u32 0, .slice none 0 0, .slice none 0 0]) ?_ 0 _ rfl; first | (with_reducible exact BK613.out) | (with_reducible exact zdn BK613.out _) | (with_reducible exact zdr BK613.out) | ((with_reducible repeat (first | refine zdn ?_ _ | refine zdr ?_ | refine blk_alloc ?_ _)); exact BK613.out)⟩, ⟨by repeat (first | (with_reducible first | exact HB.out | apply below_alloc | apply pw_below_drewN | apply below_drew1 | refine below_set ?_ GE584.out | refine below_set ?_ GE613.out) | exact HB.out)⟩⟩
     case round =>
      clear H'
      try clear c1
      try clear c2
      try clear p2
      try clear c3
      try clear p4
      try clear c5
      try clear c10
      try clear c12
      try clear c12b0
      try clear c12b1
      try clear c13
      try clear c18
      try clear c22
      try clear c24
      try clear hcz16_0
      try clear hcz16_1
      try clear hcz16_10
      try clear hcz16_2
      try clear hcz16_3
      try clear hcz16_4
      try clear hcz16_5
      try clear hcz16_6
      try clear hcz16_7
      try clear hcz16_8
      try clear hcz16_9
      try clear hcz25_0
      try clear hcz25_1
      try clear hcz25_10
      try clear hcz25_2
      try clear hcz25_3
      try clear hcz25_4
      try clear hcz25_5
      try clear hcz25_6
      try clear hcz25_7
      try clear hcz25_8
      try clear hcz25_9
      try clear hfz16_0
      try clear hfz16_1
      try clear hfz16_10
      try clear hfz16_2
      try clear hfz16_3
      try clear hfz16_4
      try clear hfz16_5
      try clear hfz16_6
      try clear hfz16_7
      try clear hfz16_8
      try clear hfz16_9
      try clear hfz25_0
      try clear hfz25_1
      try clear hfz25_10
      try clear hfz25_2
      try clear hfz25_3
      try clear hfz25_4
      try clear hfz25_5
      try clear hfz25_6
      try clear hfz25_7
      try clear hfz25_8
      try clear hfz25_9
      try clear p2
      try clear p4
      obtain ⟨x5_2, x9_2, rfl, HA, HK2, HO_3, HO_5, HO_6, HO_614009, HO_614010, BK584, BK613, HB⟩ := hrel
      have hl5_2 := (Kd.R_reads' HO_5.out).1
      rw [hl5_2] at HO_5
      (try simp only [hl5_2])
      (try simp only [hl5_2] at BK584)
      (try simp only [hl5_2] at BK613)
      (try simp only [hl5_2] at HO_3)
      (try simp only [hl5_2] at HO_6)
      (try simp only [hl5_2] at HO_614009)
      (try simp only [hl5_2] at HO_614010)
      cases gk with
      | zero => exact absurd HA.out (by simp [weftlaw3_Ip4Apart.l0])
      | succ k2 =>
       have H := HA.out
       clear HA
       simp only [weftlaw3_Ip4Apart.l0] at H
       by_cases c28 : x9_2 < (x5_2.length : Int)
       ·
        rw [if_pos c28] at H
        have c28b0 : decide (x9_2 < (x5_2.length : Int)) = true := decide_eq_true c28
        clear c28
        by_cases c29 : 0 ≤ x9_2
        ·
         rw [if_pos c29] at H
         have c29b0 : decide (0 ≤ x9_2) = true := decide_eq_true c29
         clear c29
         obtain ⟨y614, hy614⟩ : ∃ y_ : List Int, y_ = (x5_2.set (x9_2 : Int).toNat (Go.bits .xor .u8 ((x9_2) % 256) 85)) := ⟨_, rfl⟩
         replace H : (weftlaw3_Ip4Apart.l0 k2 t587 y614 t594 t612 (wrap64 (x9_2 + 1)) a0_0 a0_1 a0_2 a0_3 a0_4 a0_5 a0_6 a0_7 a0_8 l0_9 l0_10 t597 t598 t599 t600 t601 t602 t603 t604 t605 t606 t609) = some r := by first | (rw [hy614]; with_reducible exact H) | (have H2_ := (Option.bind_some _ _).symm.trans H; rw [hy614]; with_reducible exact H2_) | (have H2_ := (Option.bind_some _ _).symm.trans H; with_reducible exact H2_) | with_reducible exact H | (rw [hy614]; exact H) | exact H
         have Ny614 := zam hy614
         clear hy614
         have H' := zam H
         clear H
         have p30 : 0 ≤ (x9_2 : Int) := zod zqxp2_14
         have q30 : (x9_2 : Int) < ((x5_2.length : Int) : Int) := zod zqxp2_14
         obtain ⟨go30, co30, eo30, gb30, gl30, cl30, HG30⟩ := Kd.R_form HO_5.out (by omega)
         (first | cases eo30 | (injection eo30 with ea_ en_ ec_; (first | subst ea_ | (injection ea_ with ea_; subst ea_)); subst ec_; clear en_))
         have GB30 := zam gb30
         have GG30 := zam HG30
         clear gb30 gl30 HG30
         obtain ⟨hx30_0, hf30_0⟩ := Kd.R_celln 0 HO_5.out (x9_2 : Int) p30 q30
         replace p30 := eq_true p30
         replace q30 := eq_true q30
         have HP31 := Kd.R_putg HO_5.out (x9_2 : Int) (Go.bits .xor .u8 ((x9_2) % 256) 85)
         go_wp2_with (first | ((with_reducible refine gate_store (t := 5) (p := 49) rfl ?_); refine store_event (t := 5) (p := 49) (v := ?vo_w32) (w1 := (wr.setCell ⟨go30, (x9_2 : Int).toNat, none⟩ (.int .u8 (Go.bits .xor .u8 ((x9_2) % 256) 85)))) ?hg ?ho ?hn ?hr ?_; (case ho => rfl); (case hg => rfl); (case hn => rfl); (case hr => first | (go_simp; done) | (go_simp; rfl)); intro w32 hw; have hg : wr.grownBy w32 (some go30) := (by rw [hw]; exact HP31.2); have hp_ : Kd.R (Kd.int .u8) 5 w32 w.heap.size (fun k_ => some k_ ≠ (.slice Ao18 t587.length co18 : Value).ownBlock ∧ some k_ ≠ (v595 : Value).ownBlock) (.slice (some ⟨go30, 0, none⟩) x5_2.length co21) y614 := (by rw [hw, Ny614.out]; exact HP31.1); clear HP31; have n0_ := zam (Kd.R_after (v := (.slice (some ⟨go30, 0, none⟩) x5_2.length co21)) (v1 := (.slice (some ⟨go30, 0, none⟩) x5_2.length co21)) (ok := (fun k_ => some k_ ≠ (v595 : Value).ownBlock)) (by (with_reducible repeat (first | apply Kd.R_alloc | apply Kd.R_drewN | apply Kd.R_drew)); exact Kd.R_mono HO_3.out (fun _ hk => ⟨hk.2, hk.1⟩)) hg (.inl rfl)); have n1_ := zam (hp_); have n2_ := zam (Kd.R_after (v := (.slice (some ⟨go30, 0, none⟩) x5_2.length co21)) (v1 := (.slice (some ⟨go30, 0, none⟩) x5_2.length co21)) (ok := (fun k_ => some k_ ≠ (.slice Ao18 t587.length co18 : Value).ownBlock)) zqxp2_6 hg (.inl rfl)); have n3_ := zam (Kd.V_afterv (v := (.slice (some ⟨go30, 0, none⟩) x5_2.length co21)) (v1 := (.slice (some ⟨go30, 0, none⟩) x5_2.length co21)) (ok := (fun k_ => some k_ ≠ (.slice Ao18 t587.length co18 : Value).ownBlock ∧ some k_ ≠ (v595 : Value).ownBlock ∧ k_ ≠ gb584 ∧ k_ ≠ gb613)) (by (with_reducible repeat (first | apply Kd.V_alloc | apply Kd.V_drewN | apply Kd.V_drew)); exact Kd.V_mono HO_614009.out (fun _ hk => ⟨⟨hk.1, ⟨hk.2.2.1, ⟨hk.2.2.2.1, hk.2.2.2.2⟩⟩⟩, hk.2.1⟩)) hg (.inl rfl)); have n4_ := zam (Kd.V_afterv (v := (.slice (some ⟨go30, 0, none⟩) x5_2.length co21)) (v1 := (.slice (some ⟨go30, 0, none⟩) x5_2.length co21)) (ok := (fun k_ => some k_ ≠ (.slice Ao18 t587.length co18 : Value).ownBlock ∧ some k_ ≠ (v595 : Value).ownBlock ∧ k_ ≠ gb584 ∧ k_ ≠ gb613)) (by (with_reducible repeat (first | apply Kd.V_alloc | apply Kd.V_drewN | apply Kd.V_drew)); exact Kd.V_mono HO_614010.out (fun _ hk => ⟨⟨hk.1, ⟨hk.2.2.1, ⟨hk.2.2.2.1, hk.2.2.2.2⟩⟩⟩, hk.2.1⟩)) hg (.inl rfl)); have n5_ := zam (blk_grown (g := gb584) (o := .cells #[.int .u8 a0_0, .int .u16 a0_1, .bool a0_2, .bool a0_3, .int .i64 a0_4, .int .u8 a0_5, .int .u8 a0_6, .int .u32 a0_7, .int .u32 a0_8, .slice A0_9 l0_9.length c0_9, .slice A0_10 l0_10.length c0_10] 43 (0, 0)) zqxp2_0 hg (Kd.R_ne HO_5.out BK584.out (by decide))); have n6_ := zam (blk_grown (g := gb613) (o := .cells #[.int .u8 t597, .int .u16 t598, .bool t599, .bool t600, .int .i64 t601, .int .u8 t602, .int .u8 t603, .int .u32 t604, .int .u32 t605, .slice Ao26 t606.length co26, .slice Ao27 t609.length co27] 43 (0, 0)) zqxp2_2 hg (Kd.R_ne HO_5.out BK613.out (by decide))); have n7_ := zam ((by rw [hw]; exact below_set (HB.out) GB30.out : Below w.heap.size w w32)); clear HO_3; clear HO_5; clear HO_6; clear HO_614009; clear HO_614010; clear BK584; clear BK613; clear HB; have HO_3 := n0_; have HO_5 := n1_; have HO_6 := n2_; have HO_614009 := n3_; have HO_614010 := n4_; have BK584 := n5_; have BK613 := n6_; have HB := n7_; clear n0_ n1_ n2_ n3_ n4_ n5_ n6_ n7_; clear hg hw hp_))
         (try simp only [← hl5_2])
         go_roundg k2
         case measure => have := HJ1.out; have := HK2.out; omega
         case rel => exact ⟨(y614), (wrap64 (x9_2 + 1)), zqxp2_12, H', ⟨by have := HJ1.out; have := HK2.out; omega⟩, ⟨by (try simp only [hl5_2]); (with_reducible repeat (first | apply Kd.R_alloc | apply Kd.R_drewN | apply Kd.R_drew)); exact Kd.R_mono HO_3.out (fun _ hk => ⟨hk.2, hk.1⟩)⟩, ⟨by (try simp only [hl5_2]); (with_reducible repeat (first | apply Kd.R_alloc | apply Kd.R_drewN | apply Kd.R_drew)); exact HO_5.out⟩, ⟨by (try simp only [hl5_2]); (with_reducible repeat (first | apply Kd.R_alloc | apply Kd.R_drewN | apply Kd.R_drew)); exact HO_6.out⟩, ⟨by (try simp only [hl5_2]); (with_reducible repeat (first | apply Kd.V_alloc | apply Kd.V_drewN | apply Kd.V_drew)); exact Kd.V_mono HO_614009.out (fun _ hk => ⟨hk.1.1, ⟨hk.2, ⟨hk.1.2.1, ⟨hk.1.2.2.1, hk.1.2.2.2⟩⟩⟩⟩)⟩, ⟨by (try simp only [hl5_2]); (with_reducible repeat (first | apply Kd.V_alloc | apply Kd.V_drewN | apply Kd.V_drew)); exact Kd.V_mono HO_614010.out (fun _ hk => ⟨hk.1.1, ⟨hk.2, ⟨hk.1.2.1, ⟨hk.1.2.2.1, hk.1.2.2.2⟩⟩⟩⟩)⟩, ⟨by (try simp only [hl5_2]); first | (with_reducible exact BK584.out) | (with_reducible exact zdn BK584.out _) | (with_reducible exact zdr BK584.out) | ((with_reducible repeat (first | refine zdn ?_ _ | refine zdr ?_ | refine blk_alloc ?_ _)); exact BK584.out)⟩, ⟨by (try simp only [hl5_2]); first | (with_reducible exact BK613.out) | (with_reducible exact zdn BK613.out _) | (with_reducible exact zdr BK613.out) | ((with_reducible repeat (first | refine zdn ?_ _ | refine zdr ?_ | refine blk_alloc ?_ _)); exact BK613.out)⟩, ⟨by repeat (first | (with_reducible first | exact HB.out | apply below_alloc | apply pw_below_drewN | apply below_drew1 | refine below_set ?_ GE584.out | refine below_set ?_ GE613.out) | exact HB.out)⟩⟩
        ·
         rw [if_neg c29] at H
         exact absurd H (by simp)
       ·
        rw [if_neg c28] at H
        have c28b0 : decide (x9_2 < (x5_2.length : Int)) = false := decide_eq_false c28
        clear c28
        have HC33 := zam H
        clear H
        go_upto_region 13 with (fail)
        go_cut [57] (fun v57 wc => ∃ (kq : Nat) (x57_32 : Bool), v57 = .bool x57_32 ∧ Aside0 (weftlaw3_Ip4Apart.j2 kq t587 t594 x57_32 a0_0 a0_1 a0_2 a0_3 a0_4 a0_5 a0_6 a0_7 a0_8 l0_9 l0_10 t597 t598 t599 t600 t601 t602 t603 t604 t605 t606 t609 = some r) ∧ Aside0 (kq ≤ k2) ∧ Aside0 (Kd.R (Kd.int .u8) 5 wc w.heap.size (fun k_ => some k_ ≠ (v595 : Value).ownBlock) (.slice Ao18 t587.length co18) t587) ∧ Aside0 (Kd.R (Kd.int .u8) 5 wc w.heap.size (fun k_ => some k_ ≠ ((.slice Ao18 t587.length co18) : Value).ownBlock) v595 t594) ∧ Aside0 (Kd.V (Kd.int .u8) 5 wc w.heap.size (fun k_ => some k_ ≠ ((.slice Ao18 t587.length co18) : Value).ownBlock ∧ some k_ ≠ (v595 : Value).ownBlock ∧ k_ ≠ gb584 ∧ k_ ≠ gb613) (.slice Ao26 t606.length co26) t606) ∧ Aside0 (Kd.V (Kd.int .u8) 5 wc w.heap.size (fun k_ => some k_ ≠ ((.slice Ao18 t587.length co18) : Value).ownBlock ∧ some k_ ≠ (v595 : Value).ownBlock ∧ k_ ≠ gb584 ∧ k_ ≠ gb613) (.slice Ao27 t609.length co27) t609) ∧ Aside0 (wc.heap[gb584]? = some (.cells #[.int .u8 a0_0, .int .u16 a0_1, .bool a0_2, .bool a0_3, .int .i64 a0_4, .int .u8 a0_5, .int .u8 a0_6, .int .u32 a0_7, .int .u32 a0_8, (.slice A0_9 l0_9.length c0_9), (.slice A0_10 l0_10.length c0_10)] 43 (0, 0))) ∧ Aside0 (wc.heap[gb613]? = some (.cells #[.int .u8 t597, .int .u16 t598, .bool t599, .bool t600, .int .i64 t601, .int .u8 t602, .int .u8 t603, .int .u32 t604, .int .u32 t605, (.slice Ao26 t606.length co26), (.slice Ao27 t609.length co27)] 43 (0, 0))) ∧ Aside0 (Below w.heap.size w wc))
        case first =>
         have H := HC33.out
         clear HC33
         by_cases c34 : t612 = 0
         ·
          rw [if_pos c34] at H
          have c34b0 : (t612 == 0) = true := beq_iff_eq.mpr c34
          have c34b1 : (t612 != 0) = false := bne_eq_false_iff_eq.mpr c34
          clear c34
          (first | rw [c34b0] | (simp only [i64_w, i32_w]; rw [c34b0]) | skip)
          replace H := Option.bind_eq_some_iff.mp H
          obtain ⟨t615, A350, H⟩ := H
          replace H : (weftlaw3_Ip4Apart.j2 k2 t587 t594 (!t615) a0_0 a0_1 a0_2 a0_3 a0_4 a0_5 a0_6 a0_7 a0_8 l0_9 l0_10 t597 t598 t599 t600 t601 t602 t603 t604 t605 t606 t609) = some r := H
          have A35 := zam A350
          clear A350
          have H' := zam H
          clear H
          have hnb36 := NB584_613.out
          have hnc36 := NB613_584.out
          have hcz37_0 : wr.cell? ⟨gb584, 0, none⟩ = some (.int .u8 a0_0) := (zbc BK584.out 0).trans rfl
          have hcz37_1 : wr.cell? ⟨gb584, 1, none⟩ = some (.int .u16 a0_1) := (zbc BK584.out 1).trans rfl
          have hcz37_2 : wr.cell? ⟨gb584, 2, none⟩ = some (.bool a0_2) := (zbc BK584.out 2).trans rfl
          have hcz37_3 : wr.cell? ⟨gb584, 3, none⟩ = some (.bool a0_3) := (zbc BK584.out 3).trans rfl
          have hcz37_4 : wr.cell? ⟨gb584, 4, none⟩ = some (.int .i64 a0_4) := (zbc BK584.out 4).trans rfl
          have hcz37_5 : wr.cell? ⟨gb584, 5, none⟩ = some (.int .u8 a0_5) := (zbc BK584.out 5).trans rfl
          have hcz37_6 : wr.cell? ⟨gb584, 6, none⟩ = some (.int .u8 a0_6) := (zbc BK584.out 6).trans rfl
          have hcz37_7 : wr.cell? ⟨gb584, 7, none⟩ = some (.int .u32 a0_7) := (zbc BK584.out 7).trans rfl
          have hcz37_8 : wr.cell? ⟨gb584, 8, none⟩ = some (.int .u32 a0_8) := (zbc BK584.out 8).trans rfl
          have hcz37_9 : wr.cell? ⟨gb584, 9, none⟩ = some (.slice A0_9 l0_9.length c0_9) := (zbc BK584.out 9).trans rfl
          have hcz37_10 : wr.cell? ⟨gb584, 10, none⟩ = some (.slice A0_10 l0_10.length c0_10) := (zbc BK584.out 10).trans rfl
          have hfz37_0 := zbf BK584.out 0
          have hfz37_1 := zbf BK584.out 1
          have hfz37_2 := zbf BK584.out 2
          have hfz37_3 := zbf BK584.out 3
          have hfz37_4 := zbf BK584.out 4
          have hfz37_5 := zbf BK584.out 5
          have hfz37_6 := zbf BK584.out 6
          have hfz37_7 := zbf BK584.out 7
          have hfz37_8 := zbf BK584.out 8
          have hfz37_9 := zbf BK584.out 9
          have hfz37_10 := zbf BK584.out 10
          have hcz38_0 : wr.cell? ⟨gb613, 0, none⟩ = some (.int .u8 t597) := (zbc BK613.out 0).trans rfl
          have hcz38_1 : wr.cell? ⟨gb613, 1, none⟩ = some (.int .u16 t598) := (zbc BK613.out 1).trans rfl
          have hcz38_2 : wr.cell? ⟨gb613, 2, none⟩ = some (.bool t599) := (zbc BK613.out 2).trans rfl
          have hcz38_3 : wr.cell? ⟨gb613, 3, none⟩ = some (.bool t600) := (zbc BK613.out 3).trans rfl
          have hcz38_4 : wr.cell? ⟨gb613, 4, none⟩ = some (.int .i64 t601) := (zbc BK613.out 4).trans rfl
          have hcz38_5 : wr.cell? ⟨gb613, 5, none⟩ = some (.int .u8 t602) := (zbc BK613.out 5).trans rfl
          have hcz38_6 : wr.cell? ⟨gb613, 6, none⟩ = some (.int .u8 t603) := (zbc BK613.out 6).trans rfl
          have hcz38_7 : wr.cell? ⟨gb613, 7, none⟩ = some (.int .u32 t604) := (zbc BK613.out 7).trans rfl
          have hcz38_8 : wr.cell? ⟨gb613, 8, none⟩ = some (.int .u32 t605) := (zbc BK613.out 8).trans rfl
          have hcz38_9 : wr.cell? ⟨gb613, 9, none⟩ = some (.slice Ao26 t606.length co26) := (zbc BK613.out 9).trans rfl
          have hcz38_10 : wr.cell? ⟨gb613, 10, none⟩ = some (.slice Ao27 t609.length co27) := (zbc BK613.out 10).trans rfl
          have hfz38_0 := zbf BK613.out 0
          have hfz38_1 := zbf BK613.out 1
          have hfz38_2 := zbf BK613.out 2
          have hfz38_3 := zbf BK613.out 3
          have hfz38_4 := zbf BK613.out 4
          have hfz38_5 := zbf BK613.out 5
          have hfz38_6 := zbf BK613.out 6
          have hfz38_7 := zbf BK613.out 7
          have hfz38_8 := zbf BK613.out 8
          have hfz38_9 := zbf BK613.out 9
          have hfz38_10 := zbf BK613.out 10
          go_wp2_with (first | (go_at_call 39; (with_reducible refine (weftlaw3_packets.calls k2 a0_0 a0_1 a0_2 a0_3 a0_4 a0_5 a0_6 a0_7 a0_8 _ _ l0_9 _ _ l0_10 t597 t598 t599 t600 t601 t602 t603 t604 t605 _ _ t606 _ _ t609 t615 _ ?side1 ?side2 ?side3 ?side4 ?side5 ?side6 ?side7 ?side8 A35.out).mono ?_); (case side1 => repeat (first | exact (Kd.C_below HR0_9.out HB.out) | (with_reducible refine Kd.C_alloc ?_ _) | (with_reducible refine Kd.C_drewN ?_ _) | (with_reducible refine Kd.C_drew ?_))); (case side2 => exact HC0_9.out); (case side3 => repeat (first | exact (Kd.C_below HR0_10.out HB.out) | (with_reducible refine Kd.C_alloc ?_ _) | (with_reducible refine Kd.C_drewN ?_ _) | (with_reducible refine Kd.C_drew ?_))); (case side4 => exact HC0_10.out); (case side5 => repeat (first | exact (Kd.V_reads' HO_614009.out).2.2 | (with_reducible refine Kd.C_alloc ?_ _) | (with_reducible refine Kd.C_drewN ?_ _) | (with_reducible refine Kd.C_drew ?_))); (case side6 => exact (Kd.V_reads' HO_614009.out).2.1); (case side7 => repeat (first | exact (Kd.V_reads' HO_614010.out).2.2 | (with_reducible refine Kd.C_alloc ?_ _) | (with_reducible refine Kd.C_drewN ?_ _) | (with_reducible refine Kd.C_drew ?_))); (case side8 => exact (Kd.V_reads' HO_614010.out).2.1); rintro e w39 ⟨rfl, hb⟩; have n0_ := zam (Kd.R_below zqxp2_8 hb); have n1_ := zam (Kd.R_below (by (with_reducible repeat (first | apply Kd.R_alloc | apply Kd.R_drewN | apply Kd.R_drew)); exact HO_5.out) hb); have n2_ := zam (Kd.R_below zqxp2_6 hb); have n3_ := zam (Kd.V_below zqxp2_9 hb); have n4_ := zam (Kd.V_below zqxp2_10 hb); have n5_ := zam (blk_below (g := gb584) (o := .cells #[.int .u8 a0_0, .int .u16 a0_1, .bool a0_2, .bool a0_3, .int .i64 a0_4, .int .u8 a0_5, .int .u8 a0_6, .int .u32 a0_7, .int .u32 a0_8, .slice A0_9 l0_9.length c0_9, .slice A0_10 l0_10.length c0_10] 43 (0, 0)) zqxp2_0 hb); have n6_ := zam (blk_below (g := gb613) (o := .cells #[.int .u8 t597, .int .u16 t598, .bool t599, .bool t600, .int .i64 t601, .int .u8 t602, .int .u8 t603, .int .u32 t604, .int .u32 t605, .slice Ao26 t606.length co26, .slice Ao27 t609.length co27] 43 (0, 0)) zqxp2_2 hb); have n7_ := zam (below_step zqxp2_4 hb); clear HO_3; clear HO_5; clear HO_6; clear HO_614009; clear HO_614010; clear BK584; clear BK613; clear HB; have HO_3 := n0_; have HO_5 := n1_; have HO_6 := n2_; have HO_614009 := n3_; have HO_614010 := n4_; have BK584 := n5_; have BK613 := n6_; have HB := n7_; clear n0_ n1_ n2_ n3_ n4_ n5_ n6_ n7_; (try clear hb); (try clear hb2); (try clear hk); (try clear hi)))
          go_meet
          case rel => exact ⟨_, (!t615), zqxp2_12, H', ⟨by have := HJ1.out; have := HK2.out; first | omega | exact Nat.le_refl _⟩, ⟨by (try simp only [hl5_2]); (with_reducible repeat (first | apply Kd.R_alloc | apply Kd.R_drewN | apply Kd.R_drew)); exact Kd.R_mono HO_3.out (fun _ hk => hk.2)⟩, ⟨by (try simp only [hl5_2]); (with_reducible repeat (first | apply Kd.R_alloc | apply Kd.R_drewN | apply Kd.R_drew)); exact Kd.R_mono HO_6.out (fun _ hk => hk.1)⟩, ⟨by (try simp only [hl5_2]); (with_reducible repeat (first | apply Kd.V_alloc | apply Kd.V_drewN | apply Kd.V_drew)); exact Kd.V_mono HO_614009.out (fun _ hk => ⟨hk.1, ⟨hk.2.2.1, ⟨hk.2.2.2.1, hk.2.2.2.2⟩⟩⟩)⟩, ⟨by (try simp only [hl5_2]); (with_reducible repeat (first | apply Kd.V_alloc | apply Kd.V_drewN | apply Kd.V_drew)); exact Kd.V_mono HO_614010.out (fun _ hk => ⟨hk.1, ⟨hk.2.2.1, ⟨hk.2.2.2.1, hk.2.2.2.2⟩⟩⟩)⟩, ⟨by (try simp only [hl5_2]); first | (with_reducible exact BK584.out) | (with_reducible exact zdn BK584.out _) | (with_reducible exact zdr BK584.out) | ((with_reducible repeat (first | refine zdn ?_ _ | refine zdr ?_ | refine blk_alloc ?_ _)); exact BK584.out)⟩, ⟨by (try simp only [hl5_2]); first | (with_reducible exact BK613.out) | (with_reducible exact zdn BK613.out _) | (with_reducible exact zdr BK613.out) | ((with_reducible repeat (first | refine zdn ?_ _ | refine zdr ?_ | refine blk_alloc ?_ _)); exact BK613.out)⟩, ⟨by repeat (first | (with_reducible first | exact HB.out | apply below_alloc | apply pw_below_drewN | apply below_drew1 | refine below_set ?_ GE584.out | refine below_set ?_ GE613.out) | exact HB.out)⟩⟩
         ·
          rw [if_neg c34] at H
          have c34b0 : (t612 == 0) = false := beq_eq_false_iff_ne.mpr c34
          have c34b1 : (t612 != 0) = true := bne_iff_ne.mpr c34
          (first | rw [c34b0] | (simp only [i64_w, i32_w]; rw [c34b0]) | skip)
          have H' := zam H
          clear H
          go_wp2
          go_meet
          case rel => exact ⟨_, (true), zqxp2_12, H', ⟨by have := HJ1.out; have := HK2.out; first | omega | exact Nat.le_refl _⟩, ⟨by (try simp only [hl5_2]); (with_reducible repeat (first | apply Kd.R_alloc | apply Kd.R_drewN | apply Kd.R_drew)); exact Kd.R_mono HO_3.out (fun _ hk => hk.2)⟩, ⟨by (try simp only [hl5_2]); (with_reducible repeat (first | apply Kd.R_alloc | apply Kd.R_drewN | apply Kd.R_drew)); exact Kd.R_mono HO_6.out (fun _ hk => hk.1)⟩, ⟨by (try simp only [hl5_2]); (with_reducible repeat (first | apply Kd.V_alloc | apply Kd.V_drewN | apply Kd.V_drew)); exact Kd.V_mono HO_614009.out (fun _ hk => ⟨hk.1, ⟨hk.2.2.1, ⟨hk.2.2.2.1, hk.2.2.2.2⟩⟩⟩)⟩, ⟨by (try simp only [hl5_2]); (with_reducible repeat (first | apply Kd.V_alloc | apply Kd.V_drewN | apply Kd.V_drew)); exact Kd.V_mono HO_614010.out (fun _ hk => ⟨hk.1, ⟨hk.2.2.1, ⟨hk.2.2.2.1, hk.2.2.2.2⟩⟩⟩)⟩, ⟨by (try simp only [hl5_2]); first | (with_reducible exact BK584.out) | (with_reducible exact zdn BK584.out _) | (with_reducible exact zdr BK584.out) | ((with_reducible repeat (first | refine zdn ?_ _ | refine zdr ?_ | refine blk_alloc ?_ _)); exact BK584.out)⟩, ⟨by (try simp only [hl5_2]); first | (with_reducible exact BK613.out) | (with_reducible exact zdn BK613.out _) | (with_reducible exact zdr BK613.out) | ((with_reducible repeat (first | refine zdn ?_ _ | refine zdr ?_ | refine blk_alloc ?_ _)); exact BK613.out)⟩, ⟨by repeat (first | (with_reducible first | exact HB.out | apply below_alloc | apply pw_below_drewN | apply below_drew1 | refine below_set ?_ GE584.out | refine below_set ?_ GE613.out) | exact HB.out)⟩⟩
        case rest =>
         clear HC33
         try clear c1
         try clear c2
         try clear p2
         try clear c3
         try clear p3
         try clear q3
         try clear hx3
         try clear hf3
         try clear p4
         try clear c5
         try clear p6
         try clear c10
         try clear c12
         try clear c12b0
         try clear c12b1
         try clear c13
         try clear c18
         try clear c22
         try clear c24
         try clear c28
         try clear c28b0
         try clear c29
         try clear c29b0
         try clear p30
         try clear q30
         try clear hx30
         try clear hf30
         try clear c31
         try clear c34
         try clear c34b0
         try clear c34b1
         try clear c36
         try clear c38
         try clear hcz16_0
         try clear hcz16_1
         try clear hcz16_10
         try clear hcz16_2
         try clear hcz16_3
         try clear hcz16_4
         try clear hcz16_5
         try clear hcz16_6
         try clear hcz16_7
         try clear hcz16_8
         try clear hcz16_9
         try clear hcz25_0
         try clear hcz25_1
         try clear hcz25_10
         try clear hcz25_2
         try clear hcz25_3
         try clear hcz25_4
         try clear hcz25_5
         try clear hcz25_6
         try clear hcz25_7
         try clear hcz25_8
         try clear hcz25_9
         try clear hcz37_0
         try clear hcz37_1
         try clear hcz37_10
         try clear hcz37_2
         try clear hcz37_3
         try clear hcz37_4
         try clear hcz37_5
         try clear hcz37_6
         try clear hcz37_7
         try clear hcz37_8
         try clear hcz37_9
         try clear hcz38_0
         try clear hcz38_1
         try clear hcz38_10
         try clear hcz38_2
         try clear hcz38_3
         try clear hcz38_4
         try clear hcz38_5
         try clear hcz38_6
         try clear hcz38_7
         try clear hcz38_8
         try clear hcz38_9
         try clear hfz16_0
         try clear hfz16_1
         try clear hfz16_10
         try clear hfz16_2
         try clear hfz16_3
         try clear hfz16_4
         try clear hfz16_5
         try clear hfz16_6
         try clear hfz16_7
         try clear hfz16_8
         try clear hfz16_9
         try clear hfz25_0
         try clear hfz25_1
         try clear hfz25_10
         try clear hfz25_2
         try clear hfz25_3
         try clear hfz25_4
         try clear hfz25_5
         try clear hfz25_6
         try clear hfz25_7
         try clear hfz25_8
         try clear hfz25_9
         try clear hfz37_0
         try clear hfz37_1
         try clear hfz37_10
         try clear hfz37_2
         try clear hfz37_3
         try clear hfz37_4
         try clear hfz37_5
         try clear hfz37_6
         try clear hfz37_7
         try clear hfz37_8
         try clear hfz37_9
         try clear hfz38_0
         try clear hfz38_1
         try clear hfz38_10
         try clear hfz38_2
         try clear hfz38_3
         try clear hfz38_4
         try clear hfz38_5
         try clear hfz38_6
         try clear hfz38_7
         try clear hfz38_8
         try clear hfz38_9
         try clear hx30_0
         try clear p2
         try clear p30
         try clear p4
         try clear q30
         obtain ⟨kq, x57_32, rfl, HA, HJ32, HO_3, HO_6, HO_614009, HO_614010, BK584, BK613, HB⟩ := hcut
         cases kq with
         | zero => exact absurd HA.out (by simp [weftlaw3_Ip4Apart.j2])
         | succ kj32 =>
          have H := HA.out
          clear HA
          simp only [weftlaw3_Ip4Apart.j2] at H
          by_cases c40 : x57_32 = true
          ·
           subst c40
           have H1 : (some false) = some r := by rw [if_pos rfl] at H; exact H
           clear H
           have H := H1
           clear H1
           obtain rfl := Option.some.inj H
           go_wp2
           go_ret
           exact ⟨by first | rfl | (simp [errW_none, errW_some] <;> rfl) | (simp [*, errW_none, errW_some] <;> rfl), by repeat (first | (with_reducible first | exact HB.out | apply below_alloc | apply pw_below_drewN | apply below_drew1 | refine below_set ?_ GE584.out | refine below_set ?_ GE613.out) | exact HB.out)⟩
          ·
           replace c40 := Bool.eq_false_iff.mpr c40
           subst c40
           have H1 : ((ip4_Build.f kj32 t597 t598 t599 t600 t601 t602 t603 t604 t605 t606 t609).bind fun bt616 => (weftlaw3_Ip4Apart.l1 kj32 t587 t594 bt616.1 bt616.2 0 a0_0 a0_1 a0_2 a0_3 a0_4 a0_5 a0_6 a0_7 a0_8 l0_9 l0_10 t597 t598 t599 t600 t601 t602 t603 t604 t605 t606 t609)) = some r := by rw [if_neg (show ¬ (false = true) by decide)] at H; exact H
           clear H
           have H := H1
           clear H1
           replace H := Option.bind_eq_some_iff.mp H
           obtain ⟨⟨t616, t619⟩, A410, H⟩ := H
           replace H : (weftlaw3_Ip4Apart.l1 kj32 t587 t594 t616 t619 0 a0_0 a0_1 a0_2 a0_3 a0_4 a0_5 a0_6 a0_7 a0_8 l0_9 l0_10 t597 t598 t599 t600 t601 t602 t603 t604 t605 t606 t609) = some r := H
           have A41 := zam A410
           clear A410
           have H' := zam H
           clear H
           have hnb42 := NB613_584.out
           have hnc42 := NB584_613.out
           have hcz43_0 : wc.cell? ⟨gb613, 0, none⟩ = some (.int .u8 t597) := (zbc BK613.out 0).trans rfl
           have hcz43_1 : wc.cell? ⟨gb613, 1, none⟩ = some (.int .u16 t598) := (zbc BK613.out 1).trans rfl
           have hcz43_2 : wc.cell? ⟨gb613, 2, none⟩ = some (.bool t599) := (zbc BK613.out 2).trans rfl
           have hcz43_3 : wc.cell? ⟨gb613, 3, none⟩ = some (.bool t600) := (zbc BK613.out 3).trans rfl
           have hcz43_4 : wc.cell? ⟨gb613, 4, none⟩ = some (.int .i64 t601) := (zbc BK613.out 4).trans rfl
           have hcz43_5 : wc.cell? ⟨gb613, 5, none⟩ = some (.int .u8 t602) := (zbc BK613.out 5).trans rfl
           have hcz43_6 : wc.cell? ⟨gb613, 6, none⟩ = some (.int .u8 t603) := (zbc BK613.out 6).trans rfl
           have hcz43_7 : wc.cell? ⟨gb613, 7, none⟩ = some (.int .u32 t604) := (zbc BK613.out 7).trans rfl
           have hcz43_8 : wc.cell? ⟨gb613, 8, none⟩ = some (.int .u32 t605) := (zbc BK613.out 8).trans rfl
           have hcz43_9 : wc.cell? ⟨gb613, 9, none⟩ = some (.slice Ao26 t606.length co26) := (zbc BK613.out 9).trans rfl
           have hcz43_10 : wc.cell? ⟨gb613, 10, none⟩ = some (.slice Ao27 t609.length co27) := (zbc BK613.out 10).trans rfl
           have hfz43_0 := zbf BK613.out 0
           have hfz43_1 := zbf BK613.out 1
           have hfz43_2 := zbf BK613.out 2
           have hfz43_3 := zbf BK613.out 3
           have hfz43_4 := zbf BK613.out 4
           have hfz43_5 := zbf BK613.out 5
           have hfz43_6 := zbf BK613.out 6
           have hfz43_7 := zbf BK613.out 7
           have hfz43_8 := zbf BK613.out 8
           have hfz43_9 := zbf BK613.out 9
           have hfz43_10 := zbf BK613.out 10
           go_wp2_with (first | ((with_reducible refine gate_callee (f := 22) rfl ?_); refine goesL_ (some 60) rfl rfl Try.func22 (by kernel_rfl) rfl #[.agg #[.int .u8 t597, .int .u16 t598, .bool t599, .bool t600, .int .i64 t601, .int .u8 t602, .int .u8 t603, .int .u32 t604, .int .u32 t605, .slice Ao26 t606.length co26, .slice Ao27 t609.length co27]] rfl zqxp2_3 ?_; (with_reducible refine (ip4_Build.calls kj32 t597 t598 t599 t600 t601 t602 t603 t604 t605 _ _ t606 _ _ t609 t616 t619 _ ?side1 ?side2 ?side3 ?side4 A41.out).mono ?_); (case side1 => repeat (first | exact (Kd.V_reads' HO_614009.out).2.2 | (with_reducible refine Kd.C_alloc ?_ _) | (with_reducible refine Kd.C_drewN ?_ _) | (with_reducible refine Kd.C_drew ?_))); (case side2 => exact (Kd.V_reads' HO_614009.out).2.1); (case side3 => repeat (first | exact (Kd.V_reads' HO_614010.out).2.2 | (with_reducible refine Kd.C_alloc ?_ _) | (with_reducible refine Kd.C_drewN ?_ _) | (with_reducible refine Kd.C_drew ?_))); (case side4 => exact (Kd.V_reads' HO_614010.out).2.1); rintro e w44 ⟨v617, rfl, ho0, hb⟩; refine ⟨_, rfl, ?_⟩; have n0_ := zam (Kd.R_elder' zqxp2_8 (Kd.R_base ho0) hb); have n1_ := zam (Kd.R_elder' zqxp2_6 (Kd.R_base ho0) hb); have n2_ := zam (Kd.V_elder' zqxp2_9 (Kd.R_base ho0) hb); have n3_ := zam (Kd.V_elder' zqxp2_10 (Kd.R_base ho0) hb); have n4_ := zam (Kd.R_lower (Kd.R_new' (Kd.R_new' ho0 (Kd.R_lt zqxp2_8)) (Kd.R_lt zqxp2_6)) (below_size zqxp2_4)); have n5_ := zam (blk_below (g := gb584) (o := .cells #[.int .u8 a0_0, .int .u16 a0_1, .bool a0_2, .bool a0_3, .int .i64 a0_4, .int .u8 a0_5, .int .u8 a0_6, .int .u32 a0_7, .int .u32 a0_8, .slice A0_9 l0_9.length c0_9, .slice A0_10 l0_10.length c0_10] 43 (0, 0)) zqxp2_0 hb); have n6_ := zam (blk_below (g := gb613) (o := .cells #[.int .u8 t597, .int .u16 t598, .bool t599, .bool t600, .int .i64 t601, .int .u8 t602, .int .u8 t603, .int .u32 t604, .int .u32 t605, .slice Ao26 t606.length co26, .slice Ao27 t609.length co27] 43 (0, 0)) zqxp2_2 hb); have n7_ := zam (below_step zqxp2_4 hb); clear HO_3; clear HO_6; clear HO_614009; clear HO_614010; clear BK584; clear BK613; clear HB; have HO_3 := n0_; have HO_6 := n1_; have HO_614009 := n2_; have HO_614010 := n3_; have HO618 := n4_; have BK584 := n5_; have BK613 := n6_; have HB := n7_; clear n0_ n1_ n2_ n3_ n4_ n5_ n6_ n7_; (try clear hb); (try clear hb2); (try clear hk); (try clear hi); (try clear ho0)))
           go_loopg [12] kj32 (fun kq v12 w' => ∃ (x10_4 : List Int) (x12_4 : Int), v12 = .int .i64 x12_4 ∧ Aside0 (weftlaw3_Ip4Apart.l1 kq t587 t594 x10_4 t619 x12_4 a0_0 a0_1 a0_2 a0_3 a0_4 a0_5 a0_6 a0_7 a0_8 l0_9 l0_10 t597 t598 t599 t600 t601 t602 t603 t604 t605 t606 t609 = some r) ∧ Aside0 (kq ≤ kj32) ∧ Aside0 (Kd.R (Kd.int .u8) 5 w' w.heap.size (fun k_ => some k_ ≠ (v595 : Value).ownBlock ∧ some k_ ≠ (v617 : Value).ownBlock) (.slice Ao18 t587.length co18) t587) ∧ Aside0 (Kd.R (Kd.int .u8) 5 w' w.heap.size (fun k_ => some k_ ≠ ((.slice Ao18 t587.length co18) : Value).ownBlock ∧ some k_ ≠ (v617 : Value).ownBlock) v595 t594) ∧ Aside0 (Kd.R (Kd.int .u8) 5 w' w.heap.size (fun k_ => some k_ ≠ ((.slice Ao18 t587.length co18) : Value).ownBlock ∧ some k_ ≠ (v595 : Value).ownBlock) v617 x10_4) ∧ Aside0 (Kd.V (Kd.int .u8) 5 w' w.heap.size (fun k_ => some k_ ≠ ((.slice Ao18 t587.length co18) : Value).ownBlock ∧ some k_ ≠ (v595 : Value).ownBlock ∧ some k_ ≠ (v617 : Value).ownBlock ∧ k_ ≠ gb584 ∧ k_ ≠ gb613) (.slice Ao26 t606.length co26) t606) ∧ Aside0 (Kd.V (Kd.int .u8) 5 w' w.heap.size (fun k_ => some k_ ≠ ((.slice Ao18 t587.length co18) : Value).ownBlock ∧ some k_ ≠ (v595 : Value).ownBlock ∧ some k_ ≠ (v617 : Value).ownBlock ∧ k_ ≠ gb584 ∧ k_ ≠ gb613) (.slice Ao27 t609.length co27) t609) ∧ Aside0 (w'.heap[gb584]? = some (.cells #[.int .u8 a0_0, .int .u16 a0_1, .bool a0_2, .bool a0_3, .int .i64 a0_4, .int .u8 a0_5, .int .u8 a0_6, .int .u32 a0_7, .int .u32 a0_8, (.slice A0_9 l0_9.length c0_9), (.slice A0_10 l0_10.length c0_10)] 43 (0, 0))) ∧ Aside0 (w'.heap[gb613]? = some (.cells #[.int .u8 t597, .int .u16 t598, .bool t599, .bool t600, .int .i64 t601, .int .u8 t602, .int .u8 t603, .int .u32 t604, .int .u32 t605, (.slice Ao26 t606.length co26), (.slice Ao27 t609.length co27)] 43 (0, 0))) ∧ Aside0 (Below w.heap.size w w'))
           case atStart => exact ⟨(t616), (0), zqxp2_12, H', ⟨Nat.le_refl _⟩, ⟨by (try simp only [hl5_2]); (with_reducible repeat (first | apply Kd.R_alloc | apply Kd.R_drewN | apply Kd.R_drew)); exact HO_3.out⟩, ⟨by (try simp only [hl5_2]); (with_reducible repeat (first | apply Kd.R_alloc | apply Kd.R_drewN | apply Kd.R_drew)); exact HO_6.out⟩, ⟨by (try simp only [hl5_2]); (with_reducible repeat (first | apply Kd.R_alloc | apply Kd.R_drewN | apply Kd.R_drew)); exact Kd.R_mono HO618.out (fun _ hk => ⟨hk.1.2, hk.2⟩)⟩, ⟨by (try simp only [hl5_2]); (with_reducible repeat (first | apply Kd.V_alloc | apply Kd.V_drewN | apply Kd.V_drew)); exact Kd.V_mono HO_614009.out (fun _ hk => ⟨hk.1.1, ⟨hk.1.2.1, ⟨hk.2, ⟨hk.1.2.2.1, hk.1.2.2.2⟩⟩⟩⟩)⟩, ⟨by (try simp only [hl5_2]); (with_reducible repeat (first | apply Kd.V_alloc | apply Kd.V_drewN | apply Kd.V_drew)); exact Kd.V_mono HO_614010.out (fun _ hk => ⟨hk.1.1, ⟨hk.1.2.1, ⟨hk.2, ⟨hk.1.2.2.1, hk.1.2.2.2⟩⟩⟩⟩)⟩, ⟨by (try simp only [hl5_2]); first | (with_reducible exact BK584.out) | (with_reducible exact zdn BK584.out _) | (with_reducible exact zdr BK584.out) | ((with_reducible repeat (first | refine zdn ?_ _ | refine zdr ?_ | refine blk_alloc ?_ _)); exact BK584.out)⟩, ⟨by (try simp only [hl5_2]); first | (with_reducible exact BK613.out) | (with_reducible exact zdn BK613.out _) | (with_reducible exact zdr BK613.out) | ((with_reducible repeat (first | refine zdn ?_ _ | refine zdr ?_ | refine blk_alloc ?_ _)); exact BK613.out)⟩, ⟨by repeat (first | (with_reducible first | exact HB.out | apply below_alloc | apply pw_below_drewN | apply below_drew1 | refine below_set ?_ GE584.out | refine below_set ?_ GE613.out) | exact HB.out)⟩⟩
           case round =>
            clear H'
            try clear c1
            try clear c2
            try clear p2
            try clear c3
            try clear p3
            try clear q3
            try clear hx3
            try clear hf3
            try clear c4
            try clear p4
            try clear c5
            try clear p6
            try clear c10
            try clear c12
            try clear c12b0
            try clear c12b1
            try clear c13
            try clear c18
            try clear c22
            try clear c24
            try clear c28
            try clear c28b0
            try clear c29
            try clear c29b0
            try clear p30
            try clear q30
            try clear hx30
            try clear hf30
            try clear c31
            try clear c34
            try clear c34b0
            try clear c34b1
            try clear c36
            try clear c38
            try clear c40
            try clear c42
            try clear hcz16_0
            try clear hcz16_1
            try clear hcz16_10
            try clear hcz16_2
            try clear hcz16_3
            try clear hcz16_4
            try clear hcz16_5
            try clear hcz16_6
            try clear hcz16_7
            try clear hcz16_8
            try clear hcz16_9
            try clear hcz25_0
            try clear hcz25_1
            try clear hcz25_10
            try clear hcz25_2
            try clear hcz25_3
            try clear hcz25_4
            try clear hcz25_5
            try clear hcz25_6
            try clear hcz25_7
            try clear hcz25_8
            try clear hcz25_9
            try clear hcz37_0
            try clear hcz37_1
            try clear hcz37_10
            try clear hcz37_2
            try clear hcz37_3
            try clear hcz37_4
            try clear hcz37_5
            try clear hcz37_6
            try clear hcz37_7
            try clear hcz37_8
            try clear hcz37_9
            try clear hcz38_0
            try clear hcz38_1
            try clear hcz38_10
            try clear hcz38_2
            try clear hcz38_3
            try clear hcz38_4
            try clear hcz38_5
            try clear hcz38_6
            try clear hcz38_7
            try clear hcz38_8
            try clear hcz38_9
            try clear hcz43_0
            try clear hcz43_1
            try clear hcz43_10
            try clear hcz43_2
            try clear hcz43_3
            try clear hcz43_4
            try clear hcz43_5
            try clear hcz43_6
            try clear hcz43_7
            try clear hcz43_8
            try clear hcz43_9
            try clear hfz16_0
            try clear hfz16_1
            try clear hfz16_10
            try clear hfz16_2
            try clear hfz16_3
            try clear hfz16_4
            try clear hfz16_5
            try clear hfz16_6
            try clear hfz16_7
            try clear hfz16_8
            try clear hfz16_9
            try clear hfz25_0
            try clear hfz25_1
            try clear hfz25_10
            try clear hfz25_2
            try clear hfz25_3
            try clear hfz25_4
            try clear hfz25_5
            try clear hfz25_6
            try clear hfz25_7
            try clear hfz25_8
            try clear hfz25_9
            try clear hfz37_0
            try clear hfz37_1
            try clear hfz37_10
            try clear hfz37_2
            try clear hfz37_3
            try clear hfz37_4
            try clear hfz37_5
            try clear hfz37_6
            try clear hfz37_7
            try clear hfz37_8
            try clear hfz37_9
            try clear hfz38_0
            try clear hfz38_1
            try clear hfz38_10
            try clear hfz38_2
            try clear hfz38_3
            try clear hfz38_4
            try clear hfz38_5
            try clear hfz38_6
            try clear hfz38_7
            try clear hfz38_8
            try clear hfz38_9
            try clear hfz43_0
            try clear hfz43_1
            try clear hfz43_10
            try clear hfz43_2
            try clear hfz43_3
            try clear hfz43_4
            try clear hfz43_5
            try clear hfz43_6
            try clear hfz43_7
            try clear hfz43_8
            try clear hfz43_9
            try clear hx30_0
            try clear p2
            try clear p3
            try clear p30
            try clear p4
            try clear p6
            try clear q3
            try clear q30
            obtain ⟨x10_4, x12_4, rfl, HA, HK4, HO_3, HO_6, HO_10, HO_614009, HO_614010, BK584, BK613, HB⟩ := hrel
            cases gk with
            | zero => exact absurd HA.out (by simp [weftlaw3_Ip4Apart.l1])
            | succ k4 =>
             have H := HA.out
             clear HA
             simp only [weftlaw3_Ip4Apart.l1] at H
             by_cases c45 : x12_4 < (x10_4.length : Int)
             ·
              rw [if_pos c45] at H
              have c45b0 : decide (x12_4 < (x10_4.length : Int)) = true := decide_eq_true c45
              clear c45
              by_cases c46 : 0 ≤ x12_4
              ·
               rw [if_pos c46] at H
               have c46b0 : decide (0 ≤ x12_4) = true := decide_eq_true c46
               clear c46
               obtain ⟨y620, hy620⟩ : ∃ y_ : List Int, y_ = (x10_4.set (x12_4 : Int).toNat 0) := ⟨_, rfl⟩
               replace H : (weftlaw3_Ip4Apart.l1 k4 t587 t594 y620 t619 (wrap64 (x12_4 + 1)) a0_0 a0_1 a0_2 a0_3 a0_4 a0_5 a0_6 a0_7 a0_8 l0_9 l0_10 t597 t598 t599 t600 t601 t602 t603 t604 t605 t606 t609) = some r := by first | (rw [hy620]; with_reducible exact H) | (have H2_ := (Option.bind_some _ _).symm.trans H; rw [hy620]; with_reducible exact H2_) | (have H2_ := (Option.bind_some _ _).symm.trans H; with_reducible exact H2_) | with_reducible exact H | (rw [hy620]; exact H) | exact H
               have Ny620 := zam hy620
               clear hy620
               have H' := zam H
               clear H
               obtain ⟨Ao48, co48, eo48⟩ := Kd.R_slice HO_10.out
               subst eo48
               have p47 : 0 ≤ (x12_4 : Int) := zod zqxp2_14
               have q47 : (x12_4 : Int) < ((x10_4.length : Int) : Int) := zod zqxp2_14
               obtain ⟨go47, co47, eo47, gb47, gl47, cl47, HG47⟩ := Kd.R_form HO_10.out (by omega)
               (first | cases eo47 | (injection eo47 with ea_ en_ ec_; (first | subst ea_ | (injection ea_ with ea_; subst ea_)); subst ec_; clear en_))
               have GB47 := zam gb47
               have GG47 := zam HG47
               clear gb47 gl47 HG47
               obtain ⟨hx47_0, hf47_0⟩ := Kd.R_celln 0 HO_10.out (x12_4 : Int) p47 q47
               replace p47 := eq_true p47
               replace q47 := eq_true q47
               have HP49 := Kd.R_putg HO_10.out (x12_4 : Int) 0
               go_wp2_with (first | ((with_reducible refine gate_store (t := 5) (p := 71) rfl ?_); refine store_event (t := 5) (p := 71) (v := ?vo_w50) (w1 := (wr.setCell ⟨go47, (x12_4 : Int).toNat, none⟩ (.int .u8 0))) ?hg ?ho ?hn ?hr ?_; (case ho => rfl); (case hg => rfl); (case hn => rfl); (case hr => first | (go_simp; done) | (go_simp; rfl)); intro w50 hw; have hg : wr.grownBy w50 (some go47) := (by rw [hw]; exact HP49.2); have hp_ : Kd.R (Kd.int .u8) 5 w50 w.heap.size (fun k_ => some k_ ≠ (.slice Ao18 t587.length co18 : Value).ownBlock ∧ some k_ ≠ (v595 : Value).ownBlock) (.slice (some ⟨go47, 0, none⟩) x10_4.length co48) y620 := (by rw [hw, Ny620.out]; exact HP49.1); clear HP49; have n0_ := zam (Kd.R_after (v := (.slice (some ⟨go47, 0, none⟩) x10_4.length co48)) (v1 := (.slice (some ⟨go47, 0, none⟩) x10_4.length co48)) (ok := (fun k_ => some k_ ≠ (v595 : Value).ownBlock)) zqxp2_8 hg (.inl rfl)); have n1_ := zam (Kd.R_after (v := (.slice (some ⟨go47, 0, none⟩) x10_4.length co48)) (v1 := (.slice (some ⟨go47, 0, none⟩) x10_4.length co48)) (ok := (fun k_ => some k_ ≠ (.slice Ao18 t587.length co18 : Value).ownBlock)) zqxp2_6 hg (.inl rfl)); have n2_ := zam (hp_); have n3_ := zam (Kd.V_afterv (v := (.slice (some ⟨go47, 0, none⟩) x10_4.length co48)) (v1 := (.slice (some ⟨go47, 0, none⟩) x10_4.length co48)) (ok := (fun k_ => some k_ ≠ (.slice Ao18 t587.length co18 : Value).ownBlock ∧ some k_ ≠ (v595 : Value).ownBlock ∧ k_ ≠ gb584 ∧ k_ ≠ gb613)) (by (with_reducible repeat (first | apply Kd.V_alloc | apply Kd.V_drewN | apply Kd.V_drew)); exact Kd.V_mono HO_614009.out (fun _ hk => ⟨⟨hk.1, ⟨hk.2.1, ⟨hk.2.2.2.1, hk.2.2.2.2⟩⟩⟩, hk.2.2.1⟩)) hg (.inl rfl)); have n4_ := zam (Kd.V_afterv (v := (.slice (some ⟨go47, 0, none⟩) x10_4.length co48)) (v1 := (.slice (some ⟨go47, 0, none⟩) x10_4.length co48)) (ok := (fun k_ => some k_ ≠ (.slice Ao18 t587.length co18 : Value).ownBlock ∧ some k_ ≠ (v595 : Value).ownBlock ∧ k_ ≠ gb584 ∧ k_ ≠ gb613)) (by (with_reducible repeat (first | apply Kd.V_alloc | apply Kd.V_drewN | apply Kd.V_drew)); exact Kd.V_mono HO_614010.out (fun _ hk => ⟨⟨hk.1, ⟨hk.2.1, ⟨hk.2.2.2.1, hk.2.2.2.2⟩⟩⟩, hk.2.2.1⟩)) hg (.inl rfl)); have n5_ := zam (blk_grown (g := gb584) (o := .cells #[.int .u8 a0_0, .int .u16 a0_1, .bool a0_2, .bool a0_3, .int .i64 a0_4, .int .u8 a0_5, .int .u8 a0_6, .int .u32 a0_7, .int .u32 a0_8, .slice A0_9 l0_9.length c0_9, .slice A0_10 l0_10.length c0_10] 43 (0, 0)) zqxp2_0 hg (Kd.R_ne HO_10.out BK584.out (by decide))); have n6_ := zam (blk_grown (g := gb613) (o := .cells #[.int .u8 t597, .int .u16 t598, .bool t599, .bool t600, .int .i64 t601, .int .u8 t602, .int .u8 t603, .int .u32 t604, .int .u32 t605, .slice Ao26 t606.length co26, .slice Ao27 t609.length co27] 43 (0, 0)) zqxp2_2 hg (Kd.R_ne HO_10.out BK613.out (by decide))); have n7_ := zam ((by rw [hw]; exact below_set (HB.out) GB47.out : Below w.heap.size w w50)); clear HO_3; clear HO_6; clear HO_10; clear HO_614009; clear HO_614010; clear BK584; clear BK613; clear HB; have HO_3 := n0_; have HO_6 := n1_; have HO_10 := n2_; have HO_614009 := n3_; have HO_614010 := n4_; have BK584 := n5_; have BK613 := n6_; have HB := n7_; clear n0_ n1_ n2_ n3_ n4_ n5_ n6_ n7_; clear hg hw hp_))
               go_roundg k4
               case measure => have := HJ1.out; have := HK2.out; have := HJ32.out; have := HK4.out; omega
               case rel => exact ⟨(y620), (wrap64 (x12_4 + 1)), zqxp2_12, H', ⟨by have := HJ1.out; have := HK2.out; have := HJ32.out; have := HK4.out; omega⟩, ⟨by (try simp only [hl5_2]); (with_reducible repeat (first | apply Kd.R_alloc | apply Kd.R_drewN | apply Kd.R_drew)); exact HO_3.out⟩, ⟨by (try simp only [hl5_2]); (with_reducible repeat (first | apply Kd.R_alloc | apply Kd.R_drewN | apply Kd.R_drew)); exact HO_6.out⟩, ⟨by (try simp only [hl5_2]); (with_reducible repeat (first | apply Kd.R_alloc | apply Kd.R_drewN | apply Kd.R_drew)); exact HO_10.out⟩, ⟨by (try simp only [hl5_2]); (with_reducible repeat (first | apply Kd.V_alloc | apply Kd.V_drewN | apply Kd.V_drew)); exact Kd.V_mono HO_614009.out (fun _ hk => ⟨hk.1.1, ⟨hk.1.2.1, ⟨hk.2, ⟨hk.1.2.2.1, hk.1.2.2.2⟩⟩⟩⟩)⟩, ⟨by (try simp only [hl5_2]); (with_reducible repeat (first | apply Kd.V_alloc | apply Kd.V_drewN | apply Kd.V_drew)); exact Kd.V_mono HO_614010.out (fun _ hk => ⟨hk.1.1, ⟨hk.1.2.1, ⟨hk.2, ⟨hk.1.2.2.1, hk.1.2.2.2⟩⟩⟩⟩)⟩, ⟨by (try simp only [hl5_2]); first | (with_reducible exact BK584.out) | (with_reducible exact zdn BK584.out _) | (with_reducible exact zdr BK584.out) | ((with_reducible repeat (first | refine zdn ?_ _ | refine zdr ?_ | refine blk_alloc ?_ _)); exact BK584.out)⟩, ⟨by (try simp only [hl5_2]); first | (with_reducible exact BK613.out) | (with_reducible exact zdn BK613.out _) | (with_reducible exact zdr BK613.out) | ((with_reducible repeat (first | refine zdn ?_ _ | refine zdr ?_ | refine blk_alloc ?_ _)); exact BK613.out)⟩, ⟨by repeat (first | (with_reducible first | exact HB.out | apply below_alloc | apply pw_below_drewN | apply below_drew1 | refine below_set ?_ GE584.out | refine below_set ?_ GE613.out) | exact HB.out)⟩⟩
              ·
               rw [if_neg c46] at H
               exact absurd H (by simp)
             ·
              rw [if_neg c45] at H
              have c45b0 : decide (x12_4 < (x10_4.length : Int)) = false := decide_eq_false c45
              clear c45
              by_cases c51 : t619 = 0
              ·
               rw [if_pos c51] at H
               have c51b0 : (t619 == 0) = true := beq_iff_eq.mpr c51
               have c51b1 : (t619 != 0) = false := bne_eq_false_iff_eq.mpr c51
               clear c51
               replace H := Option.bind_eq_some_iff.mp H
               obtain ⟨t621, A520, H⟩ := H
               replace H : (if t621 = true then ((weftlaw3_same.f k4 t587 t594).bind fun t622 => (some t622)) else (some false)) = some r := H
               have A52 := zam A520
               clear A520
               by_cases c53 : t621 = true
               ·
                subst c53
                have H1 : ((weftlaw3_same.f k4 t587 t594).bind fun t622 => (some t622)) = some r := by rw [if_pos rfl] at H; exact H
                clear H
                have H := H1
                clear H1
                replace H := Option.bind_eq_some_iff.mp H
                obtain ⟨t622, A540, H⟩ := H
                replace H : (some t622) = some r := H
                have A54 := zam A540
                clear A540
                obtain rfl := Option.some.inj H
                obtain ⟨Ao55, co55, eo55⟩ := Kd.R_slice HO_10.out
                subst eo55
                have hnb56 := NB584_613.out
                have hnc56 := NB613_584.out
                have hcz57_0 : wr.cell? ⟨gb584, 0, none⟩ = some (.int .u8 a0_0) := (zbc BK584.out 0).trans rfl
                have hcz57_1 : wr.cell? ⟨gb584, 1, none⟩ = some (.int .u16 a0_1) := (zbc BK584.out 1).trans rfl
                have hcz57_2 : wr.cell? ⟨gb584, 2, none⟩ = some (.bool a0_2) := (zbc BK584.out 2).trans rfl
                have hcz57_3 : wr.cell? ⟨gb584, 3, none⟩ = some (.bool a0_3) := (zbc BK584.out 3).trans rfl
                have hcz57_4 : wr.cell? ⟨gb584, 4, none⟩ = some (.int .i64 a0_4) := (zbc BK584.out 4).trans rfl
                have hcz57_5 : wr.cell? ⟨gb584, 5, none⟩ = some (.int .u8 a0_5) := (zbc BK584.out 5).trans rfl
                have hcz57_6 : wr.cell? ⟨gb584, 6, none⟩ = some (.int .u8 a0_6) := (zbc BK584.out 6).trans rfl
                have hcz57_7 : wr.cell? ⟨gb584, 7, none⟩ = some (.int .u32 a0_7) := (zbc BK584.out 7).trans rfl
                have hcz57_8 : wr.cell? ⟨gb584, 8, none⟩ = some (.int .u32 a0_8) := (zbc BK584.out 8).trans rfl
                have hcz57_9 : wr.cell? ⟨gb584, 9, none⟩ = some (.slice A0_9 l0_9.length c0_9) := (zbc BK584.out 9).trans rfl
                have hcz57_10 : wr.cell? ⟨gb584, 10, none⟩ = some (.slice A0_10 l0_10.length c0_10) := (zbc BK584.out 10).trans rfl
                have hfz57_0 := zbf BK584.out 0
                have hfz57_1 := zbf BK584.out 1
                have hfz57_2 := zbf BK584.out 2
                have hfz57_3 := zbf BK584.out 3
                have hfz57_4 := zbf BK584.out 4
                have hfz57_5 := zbf BK584.out 5
                have hfz57_6 := zbf BK584.out 6
                have hfz57_7 := zbf BK584.out 7
                have hfz57_8 := zbf BK584.out 8
                have hfz57_9 := zbf BK584.out 9
                have hfz57_10 := zbf BK584.out 10
                have hcz58_0 : wr.cell? ⟨gb613, 0, none⟩ = some (.int .u8 t597) := (zbc BK613.out 0).trans rfl
                have hcz58_1 : wr.cell? ⟨gb613, 1, none⟩ = some (.int .u16 t598) := (zbc BK613.out 1).trans rfl
                have hcz58_2 : wr.cell? ⟨gb613, 2, none⟩ = some (.bool t599) := (zbc BK613.out 2).trans rfl
                have hcz58_3 : wr.cell? ⟨gb613, 3, none⟩ = some (.bool t600) := (zbc BK613.out 3).trans rfl
                have hcz58_4 : wr.cell? ⟨gb613, 4, none⟩ = some (.int .i64 t601) := (zbc BK613.out 4).trans rfl
                have hcz58_5 : wr.cell? ⟨gb613, 5, none⟩ = some (.int .u8 t602) := (zbc BK613.out 5).trans rfl
                have hcz58_6 : wr.cell? ⟨gb613, 6, none⟩ = some (.int .u8 t603) := (zbc BK613.out 6).trans rfl
                have hcz58_7 : wr.cell? ⟨gb613, 7, none⟩ = some (.int .u32 t604) := (zbc BK613.out 7).trans rfl
                have hcz58_8 : wr.cell? ⟨gb613, 8, none⟩ = some (.int .u32 t605) := (zbc BK613.out 8).trans rfl
                have hcz58_9 : wr.cell? ⟨gb613, 9, none⟩ = some (.slice Ao26 t606.length co26) := (zbc BK613.out 9).trans rfl
                have hcz58_10 : wr.cell? ⟨gb613, 10, none⟩ = some (.slice Ao27 t609.length co27) := (zbc BK613.out 10).trans rfl
                have hfz58_0 := zbf BK613.out 0
                have hfz58_1 := zbf BK613.out 1
                have hfz58_2 := zbf BK613.out 2
                have hfz58_3 := zbf BK613.out 3
                have hfz58_4 := zbf BK613.out 4
                have hfz58_5 := zbf BK613.out 5
                have hfz58_6 := zbf BK613.out 6
                have hfz58_7 := zbf BK613.out 7
                have hfz58_8 := zbf BK613.out 8
                have hfz58_9 := zbf BK613.out 9
                have hfz58_10 := zbf BK613.out 10
                go_wp2_with (first | (go_at_call 39; (with_reducible refine (weftlaw3_packets.calls k4 a0_0 a0_1 a0_2 a0_3 a0_4 a0_5 a0_6 a0_7 a0_8 _ _ l0_9 _ _ l0_10 t597 t598 t599 t600 t601 t602 t603 t604 t605 _ _ t606 _ _ t609 true _ ?side1 ?side2 ?side3 ?side4 ?side5 ?side6 ?side7 ?side8 A52.out).mono ?_); (case side1 => repeat (first | exact (Kd.C_below HR0_9.out HB.out) | (with_reducible refine Kd.C_alloc ?_ _) | (with_reducible refine Kd.C_drewN ?_ _) | (with_reducible refine Kd.C_drew ?_))); (case side2 => exact HC0_9.out); (case side3 => repeat (first | exact (Kd.C_below HR0_10.out HB.out) | (with_reducible refine Kd.C_alloc ?_ _) | (with_reducible refine Kd.C_drewN ?_ _) | (with_reducible refine Kd.C_drew ?_))); (case side4 => exact HC0_10.out); (case side5 => repeat (first | exact (Kd.V_reads' HO_614009.out).2.2 | (with_reducible refine Kd.C_alloc ?_ _) | (with_reducible refine Kd.C_drewN ?_ _) | (with_reducible refine Kd.C_drew ?_))); (case side6 => exact (Kd.V_reads' HO_614009.out).2.1); (case side7 => repeat (first | exact (Kd.V_reads' HO_614010.out).2.2 | (with_reducible refine Kd.C_alloc ?_ _) | (with_reducible refine Kd.C_drewN ?_ _) | (with_reducible refine Kd.C_drew ?_))); (case side8 => exact (Kd.V_reads' HO_614010.out).2.1); rintro e w59 ⟨rfl, hb⟩; have n0_ := zam (Kd.R_below zqxp2_8 hb); have n1_ := zam (Kd.R_below zqxp2_6 hb); have n2_ := zam (Kd.R_below zqxp2_15 hb); have n3_ := zam (Kd.V_below zqxp2_9 hb); have n4_ := zam (Kd.V_below zqxp2_10 hb); have n5_ := zam (blk_below (g := gb584) (o := .cells #[.int .u8 a0_0, .int .u16 a0_1, .bool a0_2, .bool a0_3, .int .i64 a0_4, .int .u8 a0_5, .int .u8 a0_6, .int .u32 a0_7, .int .u32 a0_8, .slice A0_9 l0_9.length c0_9, .slice A0_10 l0_10.length c0_10] 43 (0, 0)) zqxp2_0 hb); have n6_ := zam (blk_below (g := gb613) (o := .cells #[.int .u8 t597, .int .u16 t598, .bool t599, .bool t600, .int .i64 t601, .int .u8 t602, .int .u8 t603, .int .u32 t604, .int .u32 t605, .slice Ao26 t606.length co26, .slice Ao27 t609.length co27] 43 (0, 0)) zqxp2_2 hb); have n7_ := zam (below_step zqxp2_4 hb); clear HO_3; clear HO_6; clear HO_10; clear HO_614009; clear HO_614010; clear BK584; clear BK613; clear HB; have HO_3 := n0_; have HO_6 := n1_; have HO_10 := n2_; have HO_614009 := n3_; have HO_614010 := n4_; have BK584 := n5_; have BK613 := n6_; have HB := n7_; clear n0_ n1_ n2_ n3_ n4_ n5_ n6_ n7_; (try clear hb); (try clear hb2); (try clear hk); (try clear hi); obtain ⟨Ao60, co60, eo60⟩ := Kd.R_slice HO_6.out; subst eo60) | (go_at_call 21; (with_reducible refine (weftlaw3_same.calls k4 _ _ t587 _ _ t594 t622 _ ?side1 ?side2 ?side3 ?side4 A54.out).mono ?_); (case side1 => repeat (first | exact (Kd.R_reads' HO_3.out).2.2 | (with_reducible refine Kd.C_alloc ?_ _) | (with_reducible refine Kd.C_drewN ?_ _) | (with_reducible refine Kd.C_drew ?_))); (case side2 => exact (Kd.R_reads' HO_3.out).2.1); (case side3 => repeat (first | exact (Kd.R_reads' HO_6.out).2.2 | (with_reducible refine Kd.C_alloc ?_ _) | (with_reducible refine Kd.C_drewN ?_ _) | (with_reducible refine Kd.C_drew ?_))); (case side4 => exact (Kd.R_reads' HO_6.out).2.1); rintro e w' ⟨rfl, ⟨nd, rfl⟩⟩))
                go_ret
                exact ⟨by first | rfl | (simp [errW_none, errW_some] <;> rfl) | (simp [*, errW_none, errW_some] <;> rfl), by repeat (first | (with_reducible first | exact HB.out | apply below_alloc | apply pw_below_drewN | apply below_drew1 | refine below_set ?_ GE584.out | refine below_set ?_ GE613.out) | exact HB.out)⟩
               ·
                replace c53 := Bool.eq_false_iff.mpr c53
                subst c53
                have H1 : (some false) = some r := by rw [if_neg (show ¬ (false = true) by decide)] at H; exact H
                clear H
                have H := H1
                clear H1
                obtain rfl := Option.some.inj H
                obtain ⟨Ao61, co61, eo61⟩ := Kd.R_slice HO_10.out
                subst eo61
                have hnb62 := NB584_613.out
                have hnc62 := NB613_584.out
                have hcz63_0 : wr.cell? ⟨gb584, 0, none⟩ = some (.int .u8 a0_0) := (zbc BK584.out 0).trans rfl
                have hcz63_1 : wr.cell? ⟨gb584, 1, none⟩ = some (.int .u16 a0_1) := (zbc BK584.out 1).trans rfl
                have hcz63_2 : wr.cell? ⟨gb584, 2, none⟩ = some (.bool a0_2) := (zbc BK584.out 2).trans rfl
                have hcz63_3 : wr.cell? ⟨gb584, 3, none⟩ = some (.bool a0_3) := (zbc BK584.out 3).trans rfl
                have hcz63_4 : wr.cell? ⟨gb584, 4, none⟩ = some (.int .i64 a0_4) := (zbc BK584.out 4).trans rfl
                have hcz63_5 : wr.cell? ⟨gb584, 5, none⟩ = some (.int .u8 a0_5) := (zbc BK584.out 5).trans rfl
                have hcz63_6 : wr.cell? ⟨gb584, 6, none⟩ = some (.int .u8 a0_6) := (zbc BK584.out 6).trans rfl
                have hcz63_7 : wr.cell? ⟨gb584, 7, none⟩ = some (.int .u32 a0_7) := (zbc BK584.out 7).trans rfl
                have hcz63_8 : wr.cell? ⟨gb584, 8, none⟩ = some (.int .u32 a0_8) := (zbc BK584.out 8).trans rfl
                have hcz63_9 : wr.cell? ⟨gb584, 9, none⟩ = some (.slice A0_9 l0_9.length c0_9) := (zbc BK584.out 9).trans rfl
                have hcz63_10 : wr.cell? ⟨gb584, 10, none⟩ = some (.slice A0_10 l0_10.length c0_10) := (zbc BK584.out 10).trans rfl
                have hfz63_0 := zbf BK584.out 0
                have hfz63_1 := zbf BK584.out 1
                have hfz63_2 := zbf BK584.out 2
                have hfz63_3 := zbf BK584.out 3
                have hfz63_4 := zbf BK584.out 4
                have hfz63_5 := zbf BK584.out 5
                have hfz63_6 := zbf BK584.out 6
                have hfz63_7 := zbf BK584.out 7
                have hfz63_8 := zbf BK584.out 8
                have hfz63_9 := zbf BK584.out 9
                have hfz63_10 := zbf BK584.out 10
                have hcz64_0 : wr.cell? ⟨gb613, 0, none⟩ = some (.int .u8 t597) := (zbc BK613.out 0).trans rfl
                have hcz64_1 : wr.cell? ⟨gb613, 1, none⟩ = some (.int .u16 t598) := (zbc BK613.out 1).trans rfl
                have hcz64_2 : wr.cell? ⟨gb613, 2, none⟩ = some (.bool t599) := (zbc BK613.out 2).trans rfl
                have hcz64_3 : wr.cell? ⟨gb613, 3, none⟩ = some (.bool t600) := (zbc BK613.out 3).trans rfl
                have hcz64_4 : wr.cell? ⟨gb613, 4, none⟩ = some (.int .i64 t601) := (zbc BK613.out 4).trans rfl
                have hcz64_5 : wr.cell? ⟨gb613, 5, none⟩ = some (.int .u8 t602) := (zbc BK613.out 5).trans rfl
                have hcz64_6 : wr.cell? ⟨gb613, 6, none⟩ = some (.int .u8 t603) := (zbc BK613.out 6).trans rfl
                have hcz64_7 : wr.cell? ⟨gb613, 7, none⟩ = some (.int .u32 t604) := (zbc BK613.out 7).trans rfl
                have hcz64_8 : wr.cell? ⟨gb613, 8, none⟩ = some (.int .u32 t605) := (zbc BK613.out 8).trans rfl
                have hcz64_9 : wr.cell? ⟨gb613, 9, none⟩ = some (.slice Ao26 t606.length co26) := (zbc BK613.out 9).trans rfl
                have hcz64_10 : wr.cell? ⟨gb613, 10, none⟩ = some (.slice Ao27 t609.length co27) := (zbc BK613.out 10).trans rfl
                have hfz64_0 := zbf BK613.out 0
                have hfz64_1 := zbf BK613.out 1
                have hfz64_2 := zbf BK613.out 2
                have hfz64_3 := zbf BK613.out 3
                have hfz64_4 := zbf BK613.out 4
                have hfz64_5 := zbf BK613.out 5
                have hfz64_6 := zbf BK613.out 6
                have hfz64_7 := zbf BK613.out 7
                have hfz64_8 := zbf BK613.out 8
                have hfz64_9 := zbf BK613.out 9
                have hfz64_10 := zbf BK613.out 10
                go_wp2_with (first | (go_at_call 39; (with_reducible refine (weftlaw3_packets.calls k4 a0_0 a0_1 a0_2 a0_3 a0_4 a0_5 a0_6 a0_7 a0_8 _ _ l0_9 _ _ l0_10 t597 t598 t599 t600 t601 t602 t603 t604 t605 _ _ t606 _ _ t609 false _ ?side1 ?side2 ?side3 ?side4 ?side5 ?side6 ?side7 ?side8 A52.out).mono ?_); (case side1 => repeat (first | exact (Kd.C_below HR0_9.out HB.out) | (with_reducible refine Kd.C_alloc ?_ _) | (with_reducible refine Kd.C_drewN ?_ _) | (with_reducible refine Kd.C_drew ?_))); (case side2 => exact HC0_9.out); (case side3 => repeat (first | exact (Kd.C_below HR0_10.out HB.out) | (with_reducible refine Kd.C_alloc ?_ _) | (with_reducible refine Kd.C_drewN ?_ _) | (with_reducible refine Kd.C_drew ?_))); (case side4 => exact HC0_10.out); (case side5 => repeat (first | exact (Kd.V_reads' HO_614009.out).2.2 | (with_reducible refine Kd.C_alloc ?_ _) | (with_reducible refine Kd.C_drewN ?_ _) | (with_reducible refine Kd.C_drew ?_))); (case side6 => exact (Kd.V_reads' HO_614009.out).2.1); (case side7 => repeat (first | exact (Kd.V_reads' HO_614010.out).2.2 | (with_reducible refine Kd.C_alloc ?_ _) | (with_reducible refine Kd.C_drewN ?_ _) | (with_reducible refine Kd.C_drew ?_))); (case side8 => exact (Kd.V_reads' HO_614010.out).2.1); rintro e w65 ⟨rfl, hb⟩; have n0_ := zam (Kd.R_below zqxp2_8 hb); have n1_ := zam (Kd.R_below zqxp2_6 hb); have n2_ := zam (Kd.R_below zqxp2_15 hb); have n3_ := zam (Kd.V_below zqxp2_9 hb); have n4_ := zam (Kd.V_below zqxp2_10 hb); have n5_ := zam (blk_below (g := gb584) (o := .cells #[.int .u8 a0_0, .int .u16 a0_1, .bool a0_2, .bool a0_3, .int .i64 a0_4, .int .u8 a0_5, .int .u8 a0_6, .int .u32 a0_7, .int .u32 a0_8, .slice A0_9 l0_9.length c0_9, .slice A0_10 l0_10.length c0_10] 43 (0, 0)) zqxp2_0 hb); have n6_ := zam (blk_below (g := gb613) (o := .cells #[.int .u8 t597, .int .u16 t598, .bool t599, .bool t600, .int .i64 t601, .int .u8 t602, .int .u8 t603, .int .u32 t604, .int .u32 t605, .slice Ao26 t606.length co26, .slice Ao27 t609.length co27] 43 (0, 0)) zqxp2_2 hb); have n7_ := zam (below_step zqxp2_4 hb); clear HO_3; clear HO_6; clear HO_10; clear HO_614009; clear HO_614010; clear BK584; clear BK613; clear HB; have HO_3 := n0_; have HO_6 := n1_; have HO_10 := n2_; have HO_614009 := n3_; have HO_614010 := n4_; have BK584 := n5_; have BK613 := n6_; have HB := n7_; clear n0_ n1_ n2_ n3_ n4_ n5_ n6_ n7_; (try clear hb); (try clear hb2); (try clear hk); (try clear hi)))
                go_ret
                exact ⟨by first | rfl | (simp [errW_none, errW_some] <;> rfl) | (simp [*, errW_none, errW_some] <;> rfl), by repeat (first | (with_reducible first | exact HB.out | apply below_alloc | apply pw_below_drewN | apply below_drew1 | refine below_set ?_ GE584.out | refine below_set ?_ GE613.out) | exact HB.out)⟩
              ·
               rw [if_neg c51] at H
               have c51b0 : (t619 == 0) = false := beq_eq_false_iff_ne.mpr c51
               have c51b1 : (t619 != 0) = true := bne_iff_ne.mpr c51
               obtain rfl := Option.some.inj H
               obtain ⟨Ao66, co66, eo66⟩ := Kd.R_slice HO_10.out
               subst eo66
               go_wp2
               go_ret
               exact ⟨by first | rfl | (simp [errW_none, errW_some] <;> rfl) | (simp [*, errW_none, errW_some] <;> rfl), by repeat (first | (with_reducible first | exact HB.out | apply below_alloc | apply pw_below_drewN | apply below_drew1 | refine below_set ?_ GE584.out | refine below_set ?_ GE613.out) | exact HB.out)⟩
    ·
     rw [if_neg c12] at H
     have c12b0 : (t590 == 0) = false := beq_eq_false_iff_ne.mpr c12
     have c12b1 : (t590 != 0) = true := bne_iff_ne.mpr c12
     obtain rfl := Option.some.inj H
     have hcz67_0 : wc.cell? ⟨gb584, 0, none⟩ = some (.int .u8 a0_0) := (zbc BK584.out 0).trans rfl
     have hcz67_1 : wc.cell? ⟨gb584, 1, none⟩ = some (.int .u16 a0_1) := (zbc BK584.out 1).trans rfl
     have hcz67_2 : wc.cell? ⟨gb584, 2, none⟩ = some (.bool a0_2) := (zbc BK584.out 2).trans rfl
     have hcz67_3 : wc.cell? ⟨gb584, 3, none⟩ = some (.bool a0_3) := (zbc BK584.out 3).trans rfl
     have hcz67_4 : wc.cell? ⟨gb584, 4, none⟩ = some (.int .i64 a0_4) := (zbc BK584.out 4).trans rfl
     have hcz67_5 : wc.cell? ⟨gb584, 5, none⟩ = some (.int .u8 a0_5) := (zbc BK584.out 5).trans rfl
     have hcz67_6 : wc.cell? ⟨gb584, 6, none⟩ = some (.int .u8 a0_6) := (zbc BK584.out 6).trans rfl
     have hcz67_7 : wc.cell? ⟨gb584, 7, none⟩ = some (.int .u32 a0_7) := (zbc BK584.out 7).trans rfl
     have hcz67_8 : wc.cell? ⟨gb584, 8, none⟩ = some (.int .u32 a0_8) := (zbc BK584.out 8).trans rfl
     have hcz67_9 : wc.cell? ⟨gb584, 9, none⟩ = some (.slice A0_9 l0_9.length c0_9) := (zbc BK584.out 9).trans rfl
     have hcz67_10 : wc.cell? ⟨gb584, 10, none⟩ = some (.slice A0_10 l0_10.length c0_10) := (zbc BK584.out 10).trans rfl
     have hfz67_0 := zbf BK584.out 0
     have hfz67_1 := zbf BK584.out 1
     have hfz67_2 := zbf BK584.out 2
     have hfz67_3 := zbf BK584.out 3
     have hfz67_4 := zbf BK584.out 4
     have hfz67_5 := zbf BK584.out 5
     have hfz67_6 := zbf BK584.out 6
     have hfz67_7 := zbf BK584.out 7
     have hfz67_8 := zbf BK584.out 8
     have hfz67_9 := zbf BK584.out 9
     have hfz67_10 := zbf BK584.out 10
     go_wp2_with (first | ((with_reducible refine gate_callee (f := 22) rfl ?_); refine goesL_ (some 21) rfl rfl Try.func22 (by kernel_rfl) rfl #[.agg #[.int .u8 a0_0, .int .u16 a0_1, .bool a0_2, .bool a0_3, .int .i64 a0_4, .int .u8 a0_5, .int .u8 a0_6, .int .u32 a0_7, .int .u32 a0_8, .slice A0_9 l0_9.length c0_9, .slice A0_10 l0_10.length c0_10]] rfl zqxp2_3 ?_; (with_reducible refine (ip4_Build.calls kj1 a0_0 a0_1 a0_2 a0_3 a0_4 a0_5 a0_6 a0_7 a0_8 _ _ l0_9 _ _ l0_10 t587 t590 _ ?side1 ?side2 ?side3 ?side4 A11.out).mono ?_); (case side1 => repeat (first | exact (Kd.C_below HR0_9.out HB.out) | (with_reducible refine Kd.C_alloc ?_ _) | (with_reducible refine Kd.C_drewN ?_ _) | (with_reducible refine Kd.C_drew ?_))); (case side2 => exact HC0_9.out); (case side3 => repeat (first | exact (Kd.C_below HR0_10.out HB.out) | (with_reducible refine Kd.C_alloc ?_ _) | (with_reducible refine Kd.C_drewN ?_ _) | (with_reducible refine Kd.C_drew ?_))); (case side4 => exact HC0_10.out); rintro e w68 ⟨v588, rfl, ho0, hb⟩; refine ⟨_, rfl, ?_⟩; have n0_ := zam (Kd.R_lower ho0 (below_size zqxp2_1)); have n1_ := zam (blk_below (g := gb584) (o := .cells #[.int .u8 a0_0, .int .u16 a0_1, .bool a0_2, .bool a0_3, .int .i64 a0_4, .int .u8 a0_5, .int .u8 a0_6, .int .u32 a0_7, .int .u32 a0_8, .slice A0_9 l0_9.length c0_9, .slice A0_10 l0_10.length c0_10] 43 (0, 0)) zqxp2_0 hb); have n2_ := zam (below_step zqxp2_1 hb); clear BK584; clear HB; have HO589 := n0_; have BK584 := n1_; have HB := n2_; clear n0_ n1_ n2_; (try clear hb); (try clear hb2); (try clear hk); (try clear hi); (try clear ho0); obtain ⟨Ao69, co69, eo69⟩ := Kd.R_slice HO589.out; subst eo69))
     go_ret
     exact ⟨by first | rfl | (simp [errW_none, errW_some] <;> rfl) | (simp [*, errW_none, errW_some] <;> rfl), by repeat (first | (with_reducible first | exact HB.out | apply below_alloc | apply pw_below_drewN | apply below_drew1 | refine below_set ?_ GE584.out) | exact HB.out)⟩
end Go.Proofs.Ytbacmhegalncjaa.XP
